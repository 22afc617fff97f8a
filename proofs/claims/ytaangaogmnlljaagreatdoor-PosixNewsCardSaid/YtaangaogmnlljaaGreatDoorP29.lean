/- Part 29 of what the proof stands on: AsmB, LibLaid. -/
import Derived.Test.YtaangaogmnlljaaGreatDoorSplitLays
import Derived.Test.YtaangaogmnlljaaGreatDoorRows
import Derived.Test.YtaangaogmnlljaaGreatDoorP05
import Derived.Test.YtaangaogmnlljaaGreatDoorP11
import Derived.Test.YtaangaogmnlljaaGreatDoorP26
set_option linter.unusedVariables false
set_option maxRecDepth 100000
set_option maxHeartbeats 40000000
namespace Go.Proofs.YtaangaogmnlljaaGreatDoor.Asm
open Go.RowKit Go.Maps
theorem last_some {α:Type} {l:List α}:l.getLast?=l[l.length - 1]?:=by rw[List.getLast?_eq_getElem?]
theorem line_any {w:World} {R mb rb:Nat} {vc vl vn vw:Value} {st st':St} (hR:Rd w R mb rb vc vl vn vw st) (hrb:rb≤w.heap.size) (s:ByteArray) (i:Nat) (hs:s.size≤1000) (hsemi: ∀c∈s.data.toList,c≠59) (h:stepL st i s.data.toList=some st') (hcn:st.code.length≤90000) (hln:st.labels.length≤90000) (hli:st.lines.length≤90000) (hwl:st.wants.length≤90000):
  Calls Tryz.prog 147 #[.pointer (some ⟨R,0,none⟩), .string s, .int .i64 i] w (LineOut w R mb rb vc vl vn vw st'):=by
 obtain ⟨hlen,hcnt⟩:=words_len s.data.toList
 have hsz:s.data.toList.length≤1000:=by rw[len_list];exact hs
 unfold stepL at h
 split at h
 ·cases h
 ·rename_i hl
  cases h
  have hw:wordsL s.data.toList= []:=by
   unfold lineL at hl
   split at hl
   ·assumption
   ·split at hl
    ·split at hl<;>cases hl
    exact m42
  refine (line_skip R s i w (by omega) hsemi hw).mono ?_
  rintro e w' ⟨rfl,hb⟩
  exact ⟨rfl,vc,vl,vn,vw,hR.below hb,Keeps.ofBelow hb,fun k hk=>Or.inl hk⟩
 ·rename_i t hl
  split at h
  ·cases h
  rename_i hany
  cases h
  unfold lineL at hl
  split at hl
  ·cases hl
  ·rename_i w0 ws hw
   split at hl
   ·rename_i hc
    split at hl
    ·rename_i hn
     cases hl
     obtain ⟨rfl,hc2⟩:=hc
     obtain ⟨a,b⟩:=hlen w0 (by rw[hw];exact List.mem_cons_self)
     refine line_label hR hrb s i (by omega) hsemi hw ⟨a,by omega⟩ hc2 hn ?_ hln hli
     rw[any_idx] at hany
     unfold idxL
     cases hx:st.labels.findIdx? (fun p=>p.1==w0.dropLast) with
     |none=>rfl
     |some j=>rw[hx] at hany;simp at hany
    ·cases hl
   exact m42
 ·rename_i x l hl
  cases h
  unfold lineL at hl
  split at hl
  ·cases hl
  ·rename_i w0 ws hw
   split at hl
   ·split at hl<;>cases hl
   ·rename_i hnl
    split at hl
    ·cases hl
    ·rename_i hop
     obtain ⟨a,b⟩:=hlen w0 (by rw[hw];exact List.mem_cons_self)
     have hcw:ws.length≤1000:=by rw[hw] at hcnt;simp at hcnt;omega
     have hws: ∀x∈ws,x.length≤100000:=fun x hx=>by
      have:=(hlen x (by rw[hw];exact List.mem_cons_of_mem _ hx)).2
      omega
     dsimp only at hl
     split at hl
     ·cases hl
     ·rename_i y lr ho
      split at hl
      ·rename_i hlk
       cases hl
       exact line_ins hR hrb s i (by omega) hsemi hw ⟨a,by omega⟩ hnl hop (op_range _ hop) (by omega) hws ho (Or.inl ⟨hlk,rfl⟩) hcn hwl
      ·split at hl
       ·rename_i hlk
        obtain ⟨hlk,hbg⟩:=hlk
        obtain ⟨z,hz,e⟩:=Option.map_eq_some_iff.1 hl
        cases e
        refine line_ins hR hrb s i (by omega) hsemi hw ⟨a,by omega⟩ hnl hop (op_range _ hop) (by omega) hws ho (Or.inr ⟨hlk,?_⟩) hcn hwl
        have e1:ws.getLast?=ws[(kindsL (opL w0)).length]?:=by
         rw[last_some]
         congr 1
         omega
        rw[e1] at hbg hz
        cases hg:ws[(kindsL (opL w0)).length]? with
        |none=>rw[hg] at hbg;cases hbg
        |some m=>
         rw[hg] at hbg hz
         cases m with
         |nil=>cases hbg
         |cons c r=>
          have:c=33:=Option.some.inj hbg
          subst this
          exact ⟨r,rfl,hz⟩
       ·cases hl
end Go.Proofs.YtaangaogmnlljaaGreatDoor.Asm
namespace Go.Proofs.YtaangaogmnlljaaGreatDoor.Asm
open Go.RowKit Go.Maps
def MaxDoor (w:World):Prop:= ∃m:Int,w.cell? ⟨1,0,none⟩=some (.int .i64 m)
theorem cell_lt {w:World} {p:Addr} {v:Value} (h:w.cell? p=some v):p.block<w.heap.size:=by
 exact m120
theorem MaxDoor.below {w w':World} (h:MaxDoor w) {B:Nat} (hb:Below B w w') (hB:1<B):MaxDoor w':=by
 obtain ⟨m,hm⟩:=h
 exact ⟨m,(hb.cell (p:=⟨1,0,none⟩) hB).trans hm⟩
noncomputable def linesB:List ByteArray:=(linesL textL).map fun l=>⟨l.toArray⟩
theorem linesB_len:linesB.length=(linesL textL).length:=by simp[linesB]
theorem splitB_is:Lib.splitB ⟨#[10]⟩ 0 (Lib.countB ⟨textL.toArray⟩ ⟨#[10]⟩) ⟨textL.toArray⟩=linesB∧Lib.countB ⟨textL.toArray⟩ ⟨#[10]⟩+1=linesB.length:=by
 have h1:=Lib.splitB_data ⟨#[10]⟩ 0 (Lib.countB ⟨textL.toArray⟩ ⟨#[10]⟩) ⟨textL.toArray⟩
 have h2:Lib.splitK ([10]:Str) 0 (Lib.countB ⟨textL.toArray⟩ ⟨#[10]⟩) textL=linesL textL:=by
  rw[←split_lines]
  unfold Lib.split
  congr 1
 have h3:=Lib.splitB_all ⟨#[10]⟩ (by decide) 0 _ ⟨textL.toArray⟩ rfl
 have h4:(Lib.splitB ⟨#[10]⟩ 0 (Lib.countB ⟨textL.toArray⟩ ⟨#[10]⟩) ⟨textL.toArray⟩).map (·.data.toList)=linesL textL:=h1.trans h2
 have h5:Lib.splitB ⟨#[10]⟩ 0 (Lib.countB ⟨textL.toArray⟩ ⟨#[10]⟩) ⟨textL.toArray⟩=linesB:=by
  unfold linesB
  rw[←h4,List.map_map]
  conv=>lhs;rw[←List.map_id (Lib.splitB _ _ _ _)]
  exact List.map_congr_left fun a _=>rfl
 refine ⟨h5,?_⟩
 rw[←h5]
 exact h3.symm
theorem flat_at {α β:Type} {f:α→List β} {k:Nat} (hf: ∀a,(f a).length=k): ∀(l:List α) (i:Nat) (hi:i<l.length) (j:Nat),j<k→(l.flatMap f)[i*k+j]?=(f l[i])[j]?
 |[],i,hi,_,_=>absurd hi (by simp)
 |a::l,0,_,j,hj=>by
  rw[List.flatMap_cons,Nat.zero_mul,Nat.zero_add,List.getElem?_append_left (by rw[hf];exact hj)]
  rfl
 |a::l,i+1,hi,j,hj=>by
  rw[List.flatMap_cons,List.getElem?_append_right (by rw[hf];rw[Nat.succ_mul];omega),hf]
  rw[show (i+1)*k+j - k=i*k+j by rw[Nat.succ_mul];omega]
  exact flat_at hf l i (by simpa using hi) j hj
theorem flat_len {α β:Type} {f:α→List β} {k:Nat} (hf: ∀a,(f a).length=k): ∀(l:List α),(l.flatMap f).length=l.length*k
 |[]=>by simp
 |a::l=>by rw[List.flatMap_cons,List.length_append,hf,flat_len hf l,List.length_cons,Nat.succ_mul];omega
theorem codeC_len (l:List InsL):(codeC l).length=l.length*7:=flat_len (f:=insC) (k:=7) (fun _=>rfl) l
theorem codeC_modify (p:Nat): ∀(l:List InsL) (a:Nat),codeC (l.modify a fun x=>{ x with v:=p})=(codeC l).set (a*7+4) (.int .u64 (p:Int))
 |[],a=>by simp[codeC]
 |x::l,0=>by simp[codeC,insC]
 |x::l,a+1=>by
  have ih:=codeC_modify p l a
  simp only[List.modify_succ_cons,codeC,List.flatMap_cons] at ih ⊢
  rw[ih]
  rw[show (a+1)*7+4=(insC x).length+(a*7+4) by show _=7+_;omega]
  rw[List.set_append_right _ _ (by omega)]
  congr 2
  omega
theorem labelsC_at {l:List (Str×Nat)} {i:Nat} (hi:i<l.length):(labelsC l)[i*2]?=some (strV l[i].1)∧(labelsC l)[i*2+1]?=some (.int .i64 (l[i].2:Int)):=
 ⟨flat_at (k:=2) (fun _=>rfl) l i hi 0 (by omega),flat_at (k:=2) (fun _=>rfl) l i hi 1 (by omega)⟩
theorem wantsC_at {l:List (Nat×Nat×Str)} {i:Nat} (hi:i<l.length):(wantsC l)[i*3]?=some (.int .i64 (l[i].1:Int))∧(wantsC l)[i*3+1]?=some (.int .i64 (l[i].2.1:Int))∧(wantsC l)[i*3+2]?=some (strV l[i].2.2):=
 ⟨flat_at (k:=3) (fun _=>rfl) l i hi 0 (by omega),flat_at (k:=3) (fun _=>rfl) l i hi 1 (by omega),flat_at (k:=3) (fun _=>rfl) l i hi 2 (by omega)⟩
theorem named_len {s:Str} (h:namedL s=true):s.length≤16:=by
 unfold namedL at h
 simp only[Bool.and_eq_true,decide_eq_true_eq] at h
 exact h.1.1.1.2
def WOK (st:St):Prop:=(∀p∈st.wants,p.1<st.code.length)∧ ∀p∈st.labels,p.1.length≤16∧p.2≤st.code.length
theorem wok_step {st st':St} {i:Nat} {s:Str} (h:stepL st i s=some st') (hw:WOK st):WOK st':=by
 unfold stepL at h
 split at h
 ·cases h
 ·cases h;exact hw
 ·rename_i t hl
  split at h
  ·cases h
  ·cases h
   refine ⟨hw.1,fun p hp=>?_⟩
   rcases List.mem_append.1 hp with hp|hp
   ·exact hw.2 p hp
   ·rw[List.mem_singleton] at hp
    subst hp
    refine ⟨?_,Nat.le_refl _⟩
    unfold lineL at hl
    split at hl
    ·cases hl
    ·split at hl
     ·split at hl
      ·rename_i hn
       cases hl
       exact named_len hn
      ·cases hl
     exact m42
 ·cases h
  refine ⟨fun p hp=>?_,fun p hp=>?_⟩
  ·rcases List.mem_append.1 hp with hp|hp
   ·have:=hw.1 p hp
    simp;omega
   ·obtain ⟨t,_,rfl⟩:=List.mem_map.1 hp
    simp
  ·have:=hw.2 p hp
   exact ⟨this.1,by simp;omega⟩
theorem find_idx {l:List (Str×Nat)} {t:Str} {p:Nat} (h:findL l t=some p): ∃j,∃(hj:j<l.length),idxL l t=some j∧l[j].2=p∧l[j].1=t:=by
 unfold findL at h
 obtain ⟨x,hx,rfl⟩:=Option.map_eq_some_iff.1 h
 obtain ⟨h1,j,hj,e,h2⟩:=List.find?_eq_some_iff_getElem.1 hx
 refine ⟨j,hj,?_,by rw[e],by rw[e];simpa using h1⟩
 unfold idxL
 rw[List.findIdx?_eq_some_iff_getElem]
 refine ⟨hj,by rw[e];exact h1,fun k hk=>?_⟩
 have:=h2 k hk
 simpa using this
def PTo (w:World) (L:List Str) (stF:St) (g R mb i:Nat) (wr:World):Prop:=
 ∃st vc vl vn vw,stepsL st i (L.drop i)=some stF∧Rd wr R mb w.heap.size vc vl vn vw st∧Below w.heap.size w wr∧(∀k,OfR R mb vc vl vn vw k→w.heap.size≤k)∧ ¬OfR R mb vc vl vn vw g∧g<wr.heap.size∧WOK st∧st.code.length≤i∧st.labels.length≤i∧st.lines.length≤i∧st.wants.length≤3*i∧ ∀j (hj:j<L.length),wr.cell? ⟨g,j,none⟩=some (strV L[j])
theorem pto_step {w wr w':World} {L:List Str} {stF st st':St} {g R mb i:Nat} {vc vl vn vw:Value} {e:Ending} (hi:i<L.length) (h1:stepsL st i (L.drop i)=some stF) (hst:stepL st i L[i]=some st') (hb:Below w.heap.size w wr) (ho: ∀k,OfR R mb vc vl vn vw k→w.heap.size≤k) (hg: ¬OfR R mb vc vl vn vw g) (hgl:g<wr.heap.size) (hw:WOK st) (l1:st.code.length≤i) (l2:st.labels.length≤i) (l3:st.lines.length≤i) (l4:st.wants.length≤3*i) (hc: ∀j (hj:j<L.length),wr.cell? ⟨g,j,none⟩=some (strV L[j])) (h:LineOut wr R mb w.heap.size vc vl vn vw st' e w'):e= .returned .nilIface∧PTo w L stF g R mb (i+1) w':=by
 obtain ⟨he,vc',vl',vn',vw',hr,hk,hn⟩:=h
 obtain ⟨s1,s2,s3,s4⟩:=step_len hst
 refine ⟨he,st',vc',vl',vn',vw',?_,hr,?_,?_,?_,Nat.lt_of_lt_of_le hgl hk.size,wok_step hst hw,by omega,by omega,by omega,by omega,?_⟩
 ·rw[List.drop_eq_getElem_cons hi,stepsL,hst] at h1
  exact h1
 ·exact Keeps.below hb hk hb.size ho
 ·intro k hk2
  rcases hn k hk2 with h|h
  ·exact ho k h
  ·have:=hb.size;omega
 ·intro h
  rcases hn g h with h|h
  ·exact hg h
  ·omega
 ·intro j hj
  exact (hk.cell (p:=⟨g,j,none⟩) hgl hg).trans (hc j hj)
def QTo (w:World) (st:St) (codeF:List InsL) (R mb:Nat) (vc vl vn vw:Value) (j:Nat) (wr:World):Prop:=
 ∃code,patchL st.labels code (st.wants.drop j)=some codeF∧code.length=st.code.length∧Rd wr R mb w.heap.size vc vl vn vw { st with code:=code}∧Below w.heap.size w wr
theorem lines_ok {l:Str} (h:l∈linesL textL):(∀c∈l,c≠59)∧l.length≤1000:=by
 have:=List.all_eq_true.1 lines_plain l h
 rw[Bool.and_eq_true] at this
 exact ⟨fun c hc=>by simpa using List.all_eq_true.1 this.1 c hc,by simpa using this.2⟩
theorem linesB_at (j:Nat) (hj:j<(linesL textL).length):(linesB.map Value.string)[j]?=some (strV (linesL textL)[j]):=by
 unfold linesB
 simp[hj,strV]
theorem own_at {w:World} {base:Nat} {e:TypeId} {size n:Nat} {v:Value} {xs:List Value} (h:w.ownsRow base e size v n xs) (h0:0<n):
  ∃g c,v= .slice (some ⟨g,0,none⟩) n c∧base≤g∧g<w.heap.size∧n≤c∧(∀k,k<n*size→w.cell? ⟨g,k,none⟩=xs[k]?)∧ ∀o,w.frozen? ⟨g,o,none⟩=false:=by
 exact m105
theorem Rd.patch {w:World} {R mb rb g c:Nat} {vl vn vw:Value} {st:St} (h:Rd w R mb rb (.slice (some ⟨g,0,none⟩) st.code.length c) vl vn vw st) (a p:Nat):
  Rd (w.setCell ⟨g,a*7+4,none⟩ (.int .u64 (p:Int))) R mb rb (.slice (some ⟨g,0,none⟩) st.code.length c) vl vn vw { st with code:=st.code.modify a fun x=>{ x with v:=p}}:=by
 have tg:tagOf w g=68+2:=tag_row h.code rfl
 have hb: ∀k,k≠g→(w.setCell ⟨g,a*7+4,none⟩ (.int .u64 (p:Int))).heap[k]?=w.heap[k]?:=fun k hk=>Below.heap_setCell _ _ _ _ hk
 refine ⟨(hb R (ne_of_tag h.tagR tg (by decide))).trans h.obj,?_,ownsRow_of_block h.labels fun k hk=>hb k (ne_of_tag (tag_row h.labels hk) tg (by decide)),ownsRow_of_block h.lines fun k hk=>hb k (ne_of_tag (tag_row h.lines hk) tg (by decide)),ownsRow_of_block h.wants fun k hk=>hb k (ne_of_tag (tag_row h.wants hk) tg (by decide)),h.map.of_block (hb mb (ne_of_tag h.tagM tg (by decide)))⟩
 have:=(h.code.stored (a*7+4) (.int .u64 (p:Int))).1
 rw[←codeC_modify] at this
 simpa using this
theorem patch_step {labels:List (Str×Nat)} {code codeF:List InsL} {x:Nat×Nat×Str} {l:List (Nat×Nat×Str)} (h:patchL labels code (x::l)=some codeF): ∃p,findL labels x.2.2=some p∧patchL labels (code.modify x.1 fun y=>{ y with v:=p}) l=some codeF:=by
 obtain ⟨a,b,t⟩:=x
 simp only[patchL] at h
 split at h
 ·cases h
 ·rename_i p hp
  exact ⟨p,hp,h⟩
def ParseOut (w:World) (code:List InsL) (labels:List (Str×Nat)) (e:Ending) (w':World):Prop:=
 ∃vc vl,e= .returned (.tuple #[vc,vl, .nilIface])∧w'.ownsRow w.heap.size 68 7 vc code.length (codeC code)∧w'.ownsRow w.heap.size 319 2 vl labels.length (labelsC labels)∧Below w.heap.size w w'
set_option maxRecDepth 100000 in
theorem aparse_of {T:ByteArray} {L:List Str} {LB:List ByteArray} (hTz:T.size≤65536) (hct:Lib.countB T ⟨#[10]⟩+1=L.length) (hsp:Lib.splitB ⟨#[10]⟩ 0 (Lib.countB T ⟨#[10]⟩) T=LB) (hLB: ∀j (hj:j<L.length),(LB.map Value.string)[j]?=some (strV L[j])) (hok: ∀l∈L,(∀c∈l,c≠59)∧l.length≤1000) (hLn:L.length≤3000)
  {code:List InsL} {labels:List (Str×Nat)} (hp:parseL L=some (code,labels)) (w:World) (hM:MaxDoor w):
  Calls Tryz.prog 71 #[.string T] w (ParseOut w code labels):=by
 unfold parseL at hp
 cases hs:stepsL {} 0 L with
 |none=>rw[hs] at hp;cases hp
 |some stF=>
 rw[hs] at hp
 dsimp only at hp
 cases hq:patchL stF.labels stF.code stF.wants with
 |none=>rw[hq] at hp;cases hp
 |some codeF=>
 rw[hq] at hp
 dsimp only at hp
 split at hp
 case isFalse=>cases hp
 rename_i hfin
 injection hp with hp
 injection hp with hp1 hp2
 subst hp1 hp2
 obtain ⟨mx,hmx⟩:=hM
 have hmlt:=cell_lt hmx
 obtain ⟨n,hn⟩: ∃n,n=L.length:=⟨_,rfl⟩
 have hnI:(n:Int)≤3000:=by omega
 have HSpl:=Lib.hid (fun (W:World) (hc:W.cell? ⟨1,0,none⟩=some (.int .i64 mx))=>(Any.strings_Split { SplitLays.n146 with} SplitLays.n146.i9 T ⟨#[10]⟩ mx W (by omega) hc (by decide)))
 rw[hsp,hct,←hn] at HSpl
 have HLB:=Lib.hid hLB
 have HLok:=Lib.hid hok
 have HN:=Lib.hid hn
 have HS:=Lib.hid hs
 have HQ:=Lib.hid hq
 have HF:=Lib.hid hfin
 have hTI:(T.size:Int)≤65536:=by omega
 have HMx:=Lib.hid hmx
 have HMl:=Lib.hid hmlt
 clear hs hq hfin hsp hct hn hTz hmx hmlt hLB hok
 have hmm:=@run_makeMap Tryz.prog
 go_enter Tryz.func71,Tryz.ntmps71
 go_wp2_with fail
 refine (HSpl.out _ (((((Below.refl _ w).alloc (Nat.le_refl _) _).alloc (by simp) _).cell (p:=⟨1,0,none⟩) HMl.out).trans HMx.out)).mono ?_
 rintro e w2 ⟨rfl,hw2⟩
 have H0:Hid (PTo w L stF (w.heap.size+1+1) (w.heap.size+1) w.heap.size 0 w2):=Lib.hid (by
  obtain ⟨W1,hW1⟩: ∃W1,W1=w.alloc (.map #[] 0):=⟨_,rfl⟩
  rw[←hW1] at hw2
  have hs1:W1.heap.size=w.heap.size+1:=by rw[hW1];simp
  have hm1:HMapS W1 w.heap.size (idxL []) 0:=by
   rw[hW1]
   exact ⟨_,0,World.ownsMap_made w Tryz.prog 9 (plainElem Tryz.prog 3),Nat.le_refl _,fun k=>⟨rfl,fun j hj=>by cases hj⟩⟩
  have hb1:Below w.heap.size w W1:=by rw[hW1];exact (Below.refl _ w).alloc (Nat.le_refl _) _
  obtain ⟨W2,hW2⟩: ∃W2,W2=W1.alloc (.cells #[.slice none 0 0, .slice none 0 0, .slice none 0 0, .map (some w.heap.size), .slice none 0 0] 313):=⟨_,rfl⟩
  rw[←hW2] at hw2
  have hs2:W2.heap.size=w.heap.size+1+1:=by rw[hW2];simp[hs1]
  have hb12:Below W1.heap.size W1 W2:=by rw[hW2];exact (Below.refl _ W1).alloc (Nat.le_refl _) _
  have ho2:W2.heap[w.heap.size+1]?=some (.cells #[.slice none 0 0, .slice none 0 0, .slice none 0 0, .map (some w.heap.size), .slice none 0 0] 313 (0,0)):=by
   rw[←hs1,hW2]
   exact heap_alloc_new W1 _
  have hb23:Below W2.heap.size W2 w2:=by rw[hw2];exact (Below.refl _ W2).alloc (Nat.le_refl _) _
  have hs3:w2.heap.size=w.heap.size+1+1+1:=by rw[hw2];simp[hs2]
  have hc3: ∀j (hj:j<L.length),w2.cell? ⟨w.heap.size+1+1,j,none⟩=some (strV L[j]):=by
   intro j hj
   rw[hw2]
   refine (World.cell?_alloc_at _ _ _ _ (by rw[hs2])).trans ?_
   simpa using HLB.out j hj
  clear hw2 hW1 hW2
  have hofn: ∀k,OfR (w.heap.size+1) w.heap.size (.slice none 0 0) (.slice none 0 0) (.slice none 0 0) (.slice none 0 0) k→k=w.heap.size+1∨k=w.heap.size:=by
   rintro k (h|h|h|h|h|h)
   ·exact Or.inl h
   ·exact Or.inr h
   all_goals cases h
  refine ⟨{}, .slice none 0 0, .slice none 0 0, .slice none 0 0, .slice none 0 0,HS.out,⟨(hb23.block _ (by omega)).trans ho2,World.ownsRow_nil _ _ _ _,World.ownsRow_nil _ _ _ _,World.ownsRow_nil _ _ _ _,World.ownsRow_nil _ _ _ _,(hm1.of_block (hb12.block _ (by omega))).of_block (hb23.block _ (by omega))⟩,(hb1.trans (hb12.mono (by omega))).trans (hb23.mono (by omega)),?_,?_,(by omega),⟨(fun p hp=>by cases hp),(fun p hp=>by cases hp)⟩,Nat.le_refl _,Nat.le_refl _,Nat.le_refl _,Nat.le_refl _,hc3⟩
  ·intro k hk
   rcases hofn k hk with h|h<;>omega
  ·intro h
   rcases hofn _ h with h|h<;>omega)
 clear hw2
 go_wp2_with fail
 generalize w.heap.size+1+1=g at H0 ⊢
 generalize w.heap.size+1=R at H0 ⊢
 generalize hmb:w.heap.size=mb at H0 ⊢
 clear hmb
 go_loopw [7,8,9,28] (fun _ _ _ cv wr=> ∃i:Nat,i≤n∧cv= .int .i64 i∧Hid (PTo w L stF g R mb i wr)) (fun _ _ _ cv _=>n - (intOf cv).toNat)
 case atStart=>exact ⟨0,by omega,rfl,H0⟩
 case round=>
  obtain ⟨i,hi,rfl,HP⟩:=hrel
  have hiI:(i:Int)≤(n:Int):=by omega
  by_cases hlt:i<n
  ·have hltI:(i:Int)<(n:Int):=by omega
   have hiL:i<L.length:=by rw[←HN.out];exact hlt
   obtain ⟨st,vc,vl,vn,vw,h1,h2,h3,h4,h5,h6,h7,l1,l2,l3,l4,h8⟩:=HP.out
   obtain ⟨st',hst⟩: ∃st',stepL st i L[i]=some st':=by
    have e:=h1
    rw[List.drop_eq_getElem_cons hiL,stepsL] at e
    obtain ⟨st',e1,_⟩:=Option.bind_eq_some_iff.1 e
    exact ⟨st',e1⟩
   obtain ⟨S,hS⟩: ∃S:ByteArray,S=⟨(L[i]).toArray⟩:=⟨_,rfl⟩
   have hSl:S.data.toList=L[i]:=by rw[hS]
   obtain ⟨k1,k2⟩:=HLok.out L[i] (List.getElem_mem _)
   have hSz:S.size≤1000:=by rw[←len_list,hSl];exact k2
   have c0:wr.cell? ⟨g,i,none⟩=some (.string S):=by rw[h8 i hiL,hS];rfl
   have HC:=Lib.hid (line_any (R:=R) (mb:=mb) (w:=wr) h2 h3.size S i hSz (by rw[hSl];exact k1) (by rw[hSl];exact hst) (by omega) (by omega) (by omega) (by omega))
   have HNx:Hid (∀e w',LineOut wr R mb w.heap.size vc vl vn vw st' e w'→e= .returned .nilIface∧PTo w L stF g R mb (i+1) w'):=Lib.hid (fun e w' h=>pto_step hiL h1 hst h3 h4 h5 h6 h7 l1 l2 l3 l4 h8 h)
   clear h1 h2 h3 h4 h5 h6 h7 l1 l2 l3 l4 h8 hst hS hSl k1 k2 hiL HP
   go_wp2_with fail
   refine HC.out.mono ?_
   intro e w' hout
   obtain ⟨he,HT2⟩:=HNx.out e w' hout
   clear hout
   subst he
   have HT3:=Lib.hid HT2
   clear HT2
   go_wp2
   go_roundw
   case rel=>exact ⟨i+1,by omega,by go_num,HT3⟩
   case measure=>simp[intOf];omega
  ·obtain rfl:i=n:=by omega
   obtain ⟨st,vc,vl,vn,vw,h1,h2,h3,h4,h5,h6,h7,l1,l2,l3,l4,h8⟩:=HP.out
   obtain rfl:st=stF:=by
    rw[HN.out,List.drop_of_length_le (Nat.le_refl _)] at h1
    exact Option.some.inj h1
   obtain ⟨Aw,cw,rfl⟩:=own_shape h2.wants
   obtain ⟨Al,cl,rfl⟩:=own_shape h2.labels
   obtain ⟨Ac,cc,rfl⟩:=own_shape h2.code
   obtain ⟨r0,r1,r2,r3,r4,rf⟩:=h2.cell
   obtain ⟨m,hm⟩: ∃m,m=st.wants.length:=⟨_,rfl⟩
   have hmI:(m:Int)≤9000:=by omega
   have HM:=Lib.hid hm
   have HWk:=Lib.hid h7
   have hlc:st.code.length≤3000:=by omega
   have hll:st.labels.length≤3000:=by omega
   have HQ0:Hid (QTo w st codeF R mb (.slice Ac st.code.length cc) (.slice Al st.labels.length cl) vn (.slice Aw st.wants.length cw) 0 wr):=Lib.hid ⟨st.code,HQ.out,rfl,h2,h3⟩
   have HLab:=Lib.hid h2.labels
   rw[←hm] at r4
   clear h1 h2 h3 h4 h5 h6 h7 l1 l2 l3 l4 h8 hm HP HSpl HLB HLok H0 HS
   go_wp2_with fail
   go_loopw [46] (fun cv wq=> ∃j:Nat,j≤m∧cv= .int .i64 j∧Hid (QTo w st codeF R mb (.slice Ac st.code.length cc) (.slice Al st.labels.length cl) vn (.slice Aw st.wants.length cw) j wq)) (fun cv _=>m - (intOf cv).toNat)
   case atStart=>exact ⟨0,by omega,rfl,HQ0⟩
   case round=>
    obtain ⟨j,hj,rfl,HQj⟩:=hrel
    have hjI:(j:Int)≤(m:Int):=by omega
    by_cases hlt2:j<m
    ·have hjI2:(j:Int)<(m:Int):=by omega
     have hjw:j<st.wants.length:=by rw[←HM.out];exact hlt2
     obtain ⟨code,q1,q2,q3,q4⟩:=HQj.out
     rw[List.drop_eq_getElem_cons hjw] at q1
     obtain ⟨p,q5,q6⟩:=patch_step q1
     have hwk:=HWk.out.1 _ (List.getElem_mem hjw)
     obtain ⟨y1,y2,y3⟩:=wantsC_at hjw
     obtain ⟨gw,cw',ew,gw1,gw2,gw3,gwc,_⟩:=own_at q3.wants (by show 0<st.wants.length;omega)
     injection ew with ew1 ew2 ew3
     subst ew1
     subst ew3
     have c0:=(gwc (j*3) (by show _<st.wants.length*3;omega)).trans y1
     have c1:=(gwc (j*3+1) (by show _<st.wants.length*3;omega)).trans y2
     have c2:=(gwc (j*3+2) (by show _<st.wants.length*3;omega)).trans y3
     have HNj:Hid (∀wz:World,Rd wz R mb w.heap.size (.slice Ac st.code.length cc) (.slice Al st.labels.length cl) vn (.slice (some ⟨gw,0,none⟩) st.wants.length cw) { st with code:=code.modify st.wants[j].1 fun y=>{ y with v:=p}}→Below w.heap.size w wz→QTo w st codeF R mb (.slice Ac st.code.length cc) (.slice Al st.labels.length cl) vn (.slice (some ⟨gw,0,none⟩) st.wants.length cw) (j+1) wz):=Lib.hid (fun wz k1 k2=>⟨_,q6,by simpa using q2,k1,k2⟩)
     obtain ⟨x,hx,f1,f2,f3⟩:=find_idx q5
     have hwl:=HWk.out.2 _ (List.getElem_mem hx)
     rw[f2] at hwl
     have hMap:=q3.map
     generalize st.wants[j]=pj at c0 c1 c2 q5 HNj hwk f1 f3
     obtain ⟨a,l,nm⟩:=pj
     dsimp only at c0 c1 c2 q5 HNj hwk f1 f3
     obtain ⟨Tn,hTn⟩: ∃Tn:ByteArray,Tn=⟨nm.toArray⟩:=⟨_,rfl⟩
     have hTl:Tn.data.toList=nm:=by rw[hTn]
     have c2':wr.cell? ⟨gw,j*3+2,none⟩=some (.string Tn):=by rw[c2,hTn];rfl
     clear gwc y1 y2 y3 q1 q6 gw3
     obtain ⟨gl,cl',el,gl1,gl2,gl3,glc,_⟩:=own_at q3.labels (by show 0<st.labels.length;omega)
     injection el with el1 el2 el3
     subst el1
     subst el3
     obtain ⟨z1,z2⟩:=labelsC_at hx
     have d1:=(glc (x*2+1) (by show _<st.labels.length*2;omega)).trans z2
     rw[f2] at d1
     obtain ⟨gc,cc',ec,gc1,gc2,gc3,gcc,gcf⟩:=own_at q3.code (by show 0<code.length;omega)
     injection ec with ec1 ec2 ec3
     subst ec1
     subst ec3
     obtain ⟨old,hold⟩: ∃old,wr.cell? ⟨gc,a*7+4,none⟩=some old:=by
      have h1:a*7+4<code.length*7:=by omega
      have e:=gcc (a*7+4) h1
      have e2:a*7+4<(codeC code).length:=by rw[codeC_len];exact h1
      exact ⟨_,e.trans (List.getElem?_eq_getElem e2)⟩
     obtain ⟨r0,r1,r2,r3,r4,rf⟩:=q3.cell
     have hp63:p≤3000:=by omega
     have hnm:nm.length≤16:=by rw[←f3];exact hwl.1
     have hW0:(wr.alloc (.cells #[.int .i64 (a:Int), .int .i64 (l:Int), .string Tn] 317)).heap.size=wr.heap.size+1:=by simp
     have BW:Below wr.heap.size wr (wr.alloc (.cells #[.int .i64 (a:Int), .int .i64 (l:Int), .string Tn] 317)):=(Below.refl _ _).alloc (Nat.le_refl _) _
     have hlk: ∀nq,(Instr.lookup 310 (.map (some mb)) (.string Tn) true).run Tryz.prog ((wr.alloc (.cells #[.int .i64 (a:Int), .int .i64 (l:Int), .string Tn] 317)).drewN nq)= .ok (.tuple #[.int .i64 (x:Int), .bool true]) ((wr.alloc (.cells #[.int .i64 (a:Int), .int .i64 (l:Int), .string Tn] 317)).drewN nq):=by
      intro nq
      obtain ⟨cv,h,h2⟩:=HMapS.look (w:=(wr.alloc (.cells #[.int .i64 (a:Int), .int .i64 (l:Int), .string Tn] 317)).drewN nq) (hMap.of_block (BW.block mb hMap.lt)) Tn (by rw[←len_list,hTl];unfold maxLen;omega)
      rw[hTl,f1,Option.isSome_some] at h
      rw[h,h2 x (by rw[hTl];exact f1)]
     have hxI:(x:Int)<(st.labels.length:Int):=by omega
     have haI:(a:Int)<(st.code.length:Int):=by omega
     have HQ2:=Lib.hid q2
     have hRl:=q3.lt
     have HRq:=Lib.hid q3
     have HBq:=Lib.hid q4
     have HBW:=Lib.hid BW
     have HMp:=Lib.hid hMap
     clear hTn hTl f1 f2 f3 hnm hwl z1 z2 c2 hW0 BW hMap q2 q3 q4 glc gcc HQj q5 ew2 ec2 el2
     go_wp2_with fail
     go_quiet (fail)
     go_wp2_with fail
     have RN:Rd (((wr.alloc (.cells #[.int .i64 (a:Int), .int .i64 (l:Int), .string Tn] 317)).drewN nq).drew) R mb w.heap.size (.slice (some ⟨gc,0,none⟩) st.code.length cc) (.slice (some ⟨gl,0,none⟩) st.labels.length cl) vn (.slice (some ⟨gw,0,none⟩) st.wants.length cw) { st with code:=code}:=(HRq.out.below HBW.out).of_blocks fun _ _=>rfl
     have BN:Below w.heap.size w (((wr.alloc (.cells #[.int .i64 (a:Int), .int .i64 (l:Int), .string Tn] 317)).drewN nq).drew):=⟨HBq.out.os,HBq.out.tape,HBq.out.output,Nat.le_trans HBq.out.size HBW.out.size,fun k hk=>(HBW.out.block k (Nat.lt_of_lt_of_le hk HBq.out.size)).trans (HBq.out.block k hk)⟩
     have sa:(((wr.alloc (.cells #[.int .i64 (a:Int), .int .i64 (l:Int), .string Tn] 317)).drewN nq).drew).cell? ⟨wr.heap.size,0,none⟩=some (.int .i64 (a:Int)):=World.cell?_alloc_at _ _ _ _ rfl
     have sd:(((wr.alloc (.cells #[.int .i64 (a:Int), .int .i64 (l:Int), .string Tn] 317)).drewN nq).drew).cell? ⟨gl,x*2+1,none⟩=some (.int .i64 (p:Int)):=(HBW.out.cell (p:=⟨gl,x*2+1,none⟩) gl2).trans d1
     have so:(((wr.alloc (.cells #[.int .i64 (a:Int), .int .i64 (l:Int), .string Tn] 317)).drewN nq).drew).cell? ⟨gc,a*7+4,none⟩=some old:=(HBW.out.cell (p:=⟨gc,a*7+4,none⟩) gc2).trans hold
     have sf: ∀o,(((wr.alloc (.cells #[.int .i64 (a:Int), .int .i64 (l:Int), .string Tn] 317)).drewN nq).drew).frozen? ⟨gc,o,none⟩=false:=fun o=>(HBW.out.frozen (p:=⟨gc,o,none⟩) gc2).trans (gcf o)
     obtain ⟨s0,s1,s2,s3,s4,sf2⟩:=RN.cell
     have hgcz:gc<(((wr.alloc (.cells #[.int .i64 (a:Int), .int .i64 (l:Int), .string Tn] 317)).drewN nq).drew).heap.size:=Nat.lt_of_lt_of_le gc2 HBW.out.size
     generalize (wr.alloc (.cells #[.int .i64 (a:Int), .int .i64 (l:Int), .string Tn] 317)).drewN nq=wn at RN BN sa sd so sf s0 s1 s2 s3 s4 sf2 hgcz ⊢
     go_still_tail 17,(by kernel_rfl)
     change wpList _ _ _ _ _ wn.drew
     generalize wn.drew=wz at RN BN sa sd so sf s0 s1 s2 s3 s4 sf2 hgcz ⊢
     have hlcq:=HQ2.out
     have RZ:Rd (wz.setCell ⟨gc,a*7+4,none⟩ (.int .u64 (p:Int))) R mb w.heap.size (.slice (some ⟨gc,0,none⟩) st.code.length cc) (.slice (some ⟨gl,0,none⟩) st.labels.length cl) vn (.slice (some ⟨gw,0,none⟩) st.wants.length cw) { st with code:=code.modify a fun y=>{ y with v:=p}}:=by
      have RN2:Rd wz R mb w.heap.size (.slice (some ⟨gc,0,none⟩) code.length cc) (.slice (some ⟨gl,0,none⟩) st.labels.length cl) vn (.slice (some ⟨gw,0,none⟩) st.wants.length cw) { st with code:=code}:=by rw[hlcq];exact RN
      have:=Rd.patch (st:={ st with code:=code}) RN2 a p
      rw[hlcq] at this
      exact this
     have HNx:=Lib.hid (HNj.out _ RZ (BN.setCell (p:=⟨gc,a*7+4,none⟩) gc1 _))
     clear RN BN RZ hlcq
     go_wp2_with fail
     go_roundw
     case rel=>exact ⟨j+1,by omega,by go_num,HNx⟩
     case measure=>simp[intOf];omega
    ·obtain rfl:j=m:=by omega
     obtain ⟨code,q1,q2,q3,q4⟩:=HQj.out
     obtain rfl:code=codeF:=by
      rw[HM.out,List.drop_of_length_le (Nat.le_refl _)] at q1
      exact Option.some.inj q1
     have hfl:(st.code.length:Int)≤2048:=by have:=HF.out.1;omega
     have HAll:=Lib.hid HF.out.2
     have HQ2:=Lib.hid q2
     obtain ⟨r0,r1,r2,r3,r4,rf⟩:=q3.cell
     have HR0:Hid (Rd wr R mb w.heap.size (.slice Ac st.code.length cc) (.slice Al st.labels.length cl) vn (.slice Aw st.wants.length cw) { st with code:=code}∧Below w.heap.size w wr):=Lib.hid ⟨q3,q4⟩
     clear HQj q1 q2 q3 q4
     go_wp2_with fail
     go_loopw [97] (fun cv wz=> ∃k:Nat,k≤st.labels.length∧cv= .int .i64 k∧Hid (Rd wz R mb w.heap.size (.slice Ac st.code.length cc) (.slice Al st.labels.length cl) vn (.slice Aw st.wants.length cw) { st with code:=code}∧Below w.heap.size w wz)) (fun cv _=>st.labels.length - (intOf cv).toNat)
     case atStart=>exact ⟨0,by omega,rfl,HR0⟩
     case round=>
      obtain ⟨k,hk,rfl,HRk⟩:=hrel
      obtain ⟨q3,q4⟩:=HRk.out
      have hkI:(k:Int)≤(st.labels.length:Int):=by omega
      obtain ⟨r0,r1,r2,r3,r4,rf⟩:=q3.cell
      have hRl:=q3.lt
      by_cases hlt3:k<st.labels.length
      ·have hkI2:(k:Int)<(st.labels.length:Int):=by omega
       obtain ⟨gl,cl',el,gl1,gl2,gl3,glc,_⟩:=own_at q3.labels (by show 0<st.labels.length;omega)
       injection el with el1 el2 el3
       subst el1
       subst el3
       obtain ⟨z1,z2⟩:=labelsC_at hlt3
       have d0:=(glc (k*2) (by show _<st.labels.length*2;omega)).trans z1
       have d1:=(glc (k*2+1) (by show _<st.labels.length*2;omega)).trans z2
       have hne:((st.labels[k].2:Int)==(st.code.length:Int))=false:=by
        rw[beq_eq_false_iff_ne]
        intro e
        have h:=List.all_eq_true.1 HAll.out _ (List.getElem_mem hlt3)
        rw[HQ2.out] at h
        have e2:st.labels[k].2=st.code.length:=by omega
        rw[e2] at h
        simp at h
       have hne2:(st.labels[k].2==st.code.length)=false:=by
        rw[beq_eq_false_iff_ne]
        intro e
        rw[e] at hne
        simp at hne
       have HNx:Hid (∀nq,Rd ((wr.alloc (.cells #[strV st.labels[k].1, .int .i64 (st.labels[k].2:Int)] 319)).drewN nq) R mb w.heap.size (.slice Ac st.code.length cc) (.slice (some ⟨gl,0,none⟩) st.labels.length cl) vn (.slice Aw st.wants.length cw) { st with code:=code}∧Below w.heap.size w ((wr.alloc (.cells #[strV st.labels[k].1, .int .i64 (st.labels[k].2:Int)] 319)).drewN nq)):=Lib.hid (fun nq=>by
        have BW:Below wr.heap.size wr (wr.alloc (.cells #[strV st.labels[k].1, .int .i64 (st.labels[k].2:Int)] 319)):=(Below.refl _ _).alloc (Nat.le_refl _) _
        exact ⟨(q3.below BW).of_blocks fun _ _=>rfl,⟨q4.os,q4.tape,q4.output,Nat.le_trans q4.size BW.size,fun j hj=>(BW.block j (Nat.lt_of_lt_of_le hj q4.size)).trans (q4.block j hj)⟩⟩)
       generalize st.labels[k]=pk at d0 d1 hne hne2 HNx
       obtain ⟨nm,at_⟩:=pk
       dsimp only at d0 d1 hne hne2 HNx
       unfold strV at d0 HNx
       clear q3 q4 HRk z1 z2 glc el2
       go_wp2_with fail
       go_quiet (fail)
       go_wp2_with fail
       go_roundw
       case rel=>exact ⟨k+1,by omega,by go_num,Lib.hid (HNx.out _)⟩
       case measure=>simp[intOf];omega
      ·obtain rfl:k=st.labels.length:=by omega
       clear q3 q4
       go_wp2_with fail
       go_quiet (fail)
       go_wp2_with fail
       go_ret3
       obtain ⟨q3,q4⟩:=HRk.out
       have e1:=HQ2.out
       refine ⟨_,_,rfl,?_,ownsRow_of_block q3.labels fun _ _=>rfl,⟨q4.os,q4.tape,q4.output,q4.size,q4.block⟩⟩
       have:=ownsRow_of_block (w':=wr.drewN nq) q3.code fun _ _=>rfl
       exact this
theorem aparse_any {code:List InsL} {labels:List (Str×Nat)} (hp:parseL (linesL textL)=some (code,labels)) (w:World) (hM:MaxDoor w):
  Calls Tryz.prog 71 #[.string ⟨textL.toArray⟩] w (ParseOut w code labels):=by
 obtain ⟨h1,h2⟩:=splitB_is
 have hz:(⟨textL.toArray⟩:ByteArray).size≤65536:=by
  have:(⟨textL.toArray⟩:ByteArray).size=textL.length:=by simp[ByteArray.size]
  rw[this,text_len]
  decide
 exact aparse_of hz (h2.trans linesB_len) h1 (fun j hj=>linesB_at j hj) (fun l hl=>lines_ok hl) lines_len hp w hM
end Go.Proofs.YtaangaogmnlljaaGreatDoor.Asm
namespace Go.Proofs.YtaangaogmnlljaaGreatDoor.Asm
open Go.RowKit
def LabAt (w:World) (A:Option Addr) (l:List (Str×Nat)):Prop:=
 ∀i (hi:i<l.length),∃g,A=some ⟨g,0,none⟩∧g<w.heap.size∧w.cell? ⟨g,i*2,none⟩=some (strV l[i].1)∧w.cell? ⟨g,i*2+1,none⟩=some (.int .i64 (l[i].2:Int))
theorem LabAt.below {w w':World} {A:Option Addr} {l:List (Str×Nat)} (h:LabAt w A l) (hb:Below w.heap.size w w'):LabAt w' A l:=by
 intro i hi
 obtain ⟨g,h1,h2,h3,h4⟩:=h i hi
 exact ⟨g,h1,Nat.lt_of_lt_of_le h2 hb.size,(hb.cell (p:=⟨g,_,none⟩) h2).trans h3,(hb.cell (p:=⟨g,_,none⟩) h2).trans h4⟩
def findV (o:Option Nat):Value:= .tuple #[.int .i64 ((o.getD 0:Nat):Int), .bool o.isSome]
theorem find_at {l:List (Str×Nat)} {t:Str} {i:Nat} (hi:i<l.length) (h: ∀j (hj:j<l.length),j<i→l[j].1≠t) (he:l[i].1=t):findL l t=some l[i].2:=by
 unfold findL
 have:l.find? (fun p=>p.1==t)=some l[i]:=by
  rw[List.find?_eq_some_iff_getElem]
  refine ⟨by simpa using he,i,hi,rfl,fun j hj=>?_⟩
  have:=h j (by omega) hj
  simpa using this
 rw[this];rfl
theorem find_no {l:List (Str×Nat)} {t:Str} (h: ∀j (hj:j<l.length),l[j].1≠t):findL l t=none:=by
 unfold findL
 rw[Option.map_eq_none_iff,List.find?_eq_none]
 intro x hx
 obtain ⟨j,hj,rfl⟩:=List.getElem_of_mem hx
 simpa using h j hj
theorem str_eq (a:Str) (s:ByteArray):(a==s.toList)=decide (a=s.data.toList):=by
 rw[bytes_toList]
 rw[Bool.eq_iff_iff]
 simp
set_option maxRecDepth 100000 in
theorem find_any (A:Option Addr) (c:Nat) (l:List (Str×Nat)) (s:ByteArray) (w:World) (hA:LabAt w A l) (hl:l.length≤100000):
  Calls Tryz.prog 73 #[.slice A l.length c, .string s] w fun e w'=>e= .returned (findV (findL l s.data.toList))∧Below w.heap.size w w':=by
 have HA:=Lib.hid hA
 obtain ⟨n,hn⟩: ∃n,n=l.length:=⟨_,rfl⟩
 have hnI:(n:Int)≤100000:=by omega
 have HN:=Lib.hid hn
 rw[←hn]
 clear hA hl hn
 go_enter Tryz.func73,Tryz.ntmps73
 go_wp2
 go_loopw [10] (fun iv wr=> ∃i:Nat,i≤n∧iv= .int .i64 i∧Hid (∀j (hj:j<l.length),j<i→l[j].1≠s.data.toList)∧Hid (Below w.heap.size w wr)) (fun iv _=>n - (intOf iv).toNat)
 case atStart=>exact ⟨0,by omega,rfl,Lib.hid (fun _ _ h=>by omega),Lib.hid (Below.refl _ _)⟩
 case round=>
  obtain ⟨i,hi,rfl,HX,HB⟩:=hrel
  have hiI:(i:Int)≤(n:Int):=by omega
  by_cases hlt:i<n
  ·have hltI:(i:Int)<(n:Int):=by omega
   have hil:i<l.length:=by rw[←HN.out];exact hlt
   obtain ⟨g,hA,hg,c0,c1⟩:=(HA.out.below HB.out) i hil
   subst hA
   have HB2:=Lib.hid (HB.out.alloc HB.out.size (.cells #[strV l[i].1, .int .i64 (l[i].2:Int)] 319))
   by_cases he:l[i].1=s.data.toList
   ·have hq:=str_eq l[i].1 s
    rw[decide_eq_true he] at hq
    have HF:=Lib.hid (find_at hil HX.out he)
    generalize l[i].2=p at c1 HB2 HF
    generalize l[i].1=t at c0 HB2 hq he
    clear he
    unfold strV at c0 HB2
    go_wp2
    go_ret2
    exact ⟨by rw[HF.out];rfl,HB2.out⟩
   ·have hq:=str_eq l[i].1 s
    rw[decide_eq_false he] at hq
    have HX2:Hid (∀j (hj:j<l.length),j<i+1→l[j].1≠s.data.toList):=Lib.hid (fun j hj h=>by
     by_cases e:j=i
     ·subst e;exact he
     ·exact HX.out j hj (by omega))
    generalize l[i].2=p at c1 HB2
    generalize l[i].1=t at c0 HB2 hq he
    clear he
    unfold strV at c0 HB2
    go_wp2
    go_roundw
    case rel=>exact ⟨i+1,by omega,by go_num,HX2,HB2⟩
    case measure=>simp[intOf];omega
  ·obtain rfl:i=n:=by omega
   have HF:=Lib.hid (find_no (fun j hj=>HX.out j hj (by rw[HN.out];exact hj)))
   go_wp2
   go_ret2
   exact ⟨by rw[HF.out];rfl,HB.out⟩
set_option maxRecDepth 100000 in
theorem rfind_any (A:Option Addr) (c:Nat) (l:List (Str×Nat)) (s:ByteArray) (w:World) (hA:LabAt w A l) (hl:l.length≤100000):
  Calls Tryz.prog 102 #[.slice A l.length c, .string s] w fun e w'=>e= .returned (findV (findL l s.data.toList))∧w=w':=by
 have HA:=Lib.hid hA
 obtain ⟨n,hn⟩: ∃n,n=l.length:=⟨_,rfl⟩
 have hnI:(n:Int)≤100000:=by omega
 have HN:=Lib.hid hn
 rw[←hn]
 clear hA hl hn
 go_enter Tryz.func102,Tryz.ntmps102
 go_wp2
 go_loop [6] (fun iv=> ∃i:Nat,i≤n∧iv= .int .i64 i∧Hid (∀j (hj:j<l.length),j<i→l[j].1≠s.data.toList)) (fun iv=>n - (intOf iv).toNat)
 case atStart=>exact ⟨0,by omega,rfl,Lib.hid (fun _ _ h=>by omega)⟩
 case round=>
  obtain ⟨i,hi,rfl,HX⟩:=hrel
  have hiI:(i:Int)≤(n:Int):=by omega
  by_cases hlt:i<n
  ·have hltI:(i:Int)<(n:Int):=by omega
   have hil:i<l.length:=by rw[←HN.out];exact hlt
   obtain ⟨g,hA,hg,c0,c1⟩:=HA.out i hil
   subst hA
   by_cases he:l[i].1=s.data.toList
   ·have hq:=str_eq l[i].1 s
    rw[decide_eq_true he] at hq
    have HF:=Lib.hid (find_at hil HX.out he)
    generalize l[i].2=p at c1 HF
    generalize l[i].1=t at c0 hq he
    clear he
    unfold strV at c0
    go_wp2
    go_ret2
    exact ⟨by rw[HF.out];rfl,rfl⟩
   ·have hq:=str_eq l[i].1 s
    rw[decide_eq_false he] at hq
    have HX2:Hid (∀j (hj:j<l.length),j<i+1→l[j].1≠s.data.toList):=Lib.hid (fun j hj h=>by
     by_cases e:j=i
     ·subst e;exact he
     ·exact HX.out j hj (by omega))
    generalize l[i].2=p at c1
    generalize l[i].1=t at c0 hq he
    clear he
    unfold strV at c0
    go_wp2
    go_round
    case rel=>exact ⟨i+1,by omega,by go_num,HX2⟩
    case measure=>simp[intOf];omega
  ·obtain rfl:i=n:=by omega
   have HF:=Lib.hid (find_no (fun j hj=>HX.out j hj (by rw[HN.out];exact hj)))
   go_wp2
   go_ret2
   exact ⟨by rw[HF.out];rfl,rfl⟩
end Go.Proofs.YtaangaogmnlljaaGreatDoor.Asm
namespace Go.Proofs.YtaangaogmnlljaaGreatDoor.Asm
open Go.RowKit Go.Maps PosTab
def atOf (labels:List (Str×Nat)) (r:CRow):Nat:=(findL labels r.routine.data.toList).getD 0
def rowC (labels:List (Str×Nat)) (r:CRow):List Value:= [.int .i64 r.num, .int .i64 (atOf labels r:Int), .int .i64 r.k0, .int .i64 r.k1, .int .i64 r.k2, .int .i64 r.k3]
def rowsC (labels:List (Str×Nat)) (l:List CRow):List Value:=l.flatMap (rowC labels)
def loopOf (labels:List (Str×Nat)):Nat:=(findL labels [108,111,111,112]).getD 0
theorem labAt_of {w:World} {base n c:Nat} {A:Option Addr} {l:List (Str×Nat)} (h:w.ownsRow base 319 2 (.slice A n c) l.length (labelsC l)):LabAt w A l:=by
 exact m88
structure LTo (B BL tb:Nat) (vc vl:Value) (code:List InsL) (labels:List (Str×Nat)) (k:Nat) (vr:Value) (wr:World):Prop where
 lib:wr.heap[BL]?=some (.cells #[vc, .int .i64 (loopOf labels:Int),vr] 77 (0,0))
 res:wr.heap[B]?=some (.cells #[.slice none 0 0, .int .i64 0, .slice none 0 0] 77 (0,0))
 cod:wr.ownsRow (B+1) 68 7 vc code.length (codeC code)
 labs:wr.ownsRow (B+1) 319 2 vl labels.length (labelsC labels)
 rows:wr.ownsRow (B+1) 184 6 vr k (rowsC labels (tab.take k))
 tab:ProgTab wr tb
 lt:B<BL
section
variable {B BL tb k:Nat} {vc vl vr v':Value} {code:List InsL} {labels:List (Str×Nat)} {wr w' w2:World}
theorem blk_lt {w:World} {k:Nat} {o:Obj} (h:w.heap[k]?=some o):k<w.heap.size:=(Array.getElem?_eq_some_iff.1 h).1
theorem LTo.below (h:LTo B BL tb vc vl code labels k vr wr) (hb:Below wr.heap.size wr w'):LTo B BL tb vc vl code labels k vr w':=by
 exact m48
theorem LTo.append (h:LTo B BL tb vc vl code labels k vr wr) (hg:wr.grownBy w2 vr.ownBlock) (hr:w2.ownsRow (B+1) 184 6 v' (k+1) (rowsC labels (PosTab.tab.take (k+1)))):LTo B BL tb vc vl code labels (k+1) v' (w2.setCell ⟨BL,2,none⟩ v'):=by
 exact m17
end
theorem infoRow0:(Tryz.prog.info? 184).map (fun i=>(i.zero.map (·.cells.size),i.size,i.bytes))=some (some 6,6,48):=by kernel_rfl
theorem infoRow: ∃i z,Tryz.prog.info? 184=some i∧i.zero=some z∧i.size=6∧i.bytes=48∧z.cells.size=6:=by
 obtain ⟨i,hi,e⟩:=Option.map_eq_some_iff.1 infoRow0
 injection e with e1 e2
 injection e2 with e3 e4
 obtain ⟨z,hz,e5⟩:=Option.map_eq_some_iff.1 e1
 exact ⟨i,z,hi,hz,e3,e4,e5⟩
theorem tab_prog_at {k:Nat} (hk:k<tab.length): ∀j,j<7→(tab.flatMap CRow.prog)[k*7+j]?=(tab[k]).prog[j]?:=fun j hj=>flat_at (k:=7) (f:=CRow.prog) (fun _=>rfl) tab k hk j hj
theorem tab_cell {w:World} {tb:Nat} (h:ProgTab w tb) {k:Nat} (hk:k<tab.length) (j:Nat) (hj:j<7):w.cell? ⟨tb,k*7+j,none⟩=(tab[k]).prog[j]?:=by
 obtain ⟨fr,ht⟩:=h
 rw[←tab_prog_at hk j hj]
 simp[World.cell?,ht]
def LibOut (w:World) (code:List InsL) (labels:List (Str×Nat)) (e:Ending) (w':World):Prop:=
 ∃vc vr,e= .returned (.tuple #[.agg #[vc, .int .i64 (loopOf labels:Int),vr], .nilIface])∧w'.ownsRow w.heap.size 68 7 vc code.length (codeC code)∧w'.ownsRow w.heap.size 184 6 vr 45 (rowsC labels tab)∧Below w.heap.size w w'
theorem a67.q22 {P:Prop} (h:P:=by
 clear hb3 hb3' hb23 h4lib h4b h4B hfind hlib3
 go_wp2_with fail
 refine (table_any _).mono ?_
 rintro e w5 ⟨tb,rfl,ht1,ht2,htab,hb5⟩
 have hb5':Below w3.heap.size (w3.setCell ⟨w2.heap.size,1,none⟩ (.int .i64 (loopOf labels:Int))) w5:=by rw[←hz4];exact hb5
 have L0:LTo w.heap.size w2.heap.size tb (.slice Ac code.length cc) (.slice Al labels.length cl) code labels 0 (.slice none 0 0) w5:=by
  exact m41
 have H0:Hid (LTo w.heap.size w2.heap.size tb (.slice Ac code.length cc) (.slice Al labels.length cl) code labels 0 (.slice none 0 0) w5∧Below w.heap.size w w5):=Lib.hid ⟨L0,(HB2.out.trans (H4B.out.mono (by omega))).trans (hb5'.mono (by omega))⟩
 have hBL:w.heap.size<w2.heap.size:=by omega
 clear ht1 ht2 htab hb5 hb5' L0 y1 yf HR2 HC2 HL2 HB2 HW HL3 HB23 H4 H4b H4B hz4 HT HP HB1 hs2 hs3
 generalize w2.heap.size=BL at H0 hBL ⊢
 obtain ⟨i6,z6,hi6,hzz6,hs6,hbb6,hcc6⟩:=infoRow
 go_wp2_with fail
 go_loopw [31] (fun cv wr=> ∃(k:Nat) (vr:Value),k≤45∧cv= .int .i64 k∧Hid (LTo w.heap.size BL tb (.slice Ac code.length cc) (.slice Al labels.length cl) code labels k vr wr∧Below w.heap.size w wr)) (fun cv _=>45 - (intOf cv).toNat)
 case atStart=>exact ⟨0,_,by omega,rfl,H0⟩
 case round=>
  obtain ⟨k,vr,hk,rfl,HL⟩:=hrel
  obtain ⟨q1,q2⟩:=HL.out
  have hkI:(k:Int)≤45:=by omega
  obtain ⟨Ar,cr,rfl⟩:=own_shape q1.rows
  have hBLl:=blk_lt q1.lib
  by_cases hlt:k<45
  ·have hkI2:(k:Int)<45:=by omega
   have hkt:k<tab.length:=by rw[tab_len];exact hlt
   have c0:=tab_cell q1.tab hkt 0 (by omega)
   have c1:=tab_cell q1.tab hkt 1 (by omega)
   have c2:=tab_cell q1.tab hkt 2 (by omega)
   have c3:=tab_cell q1.tab hkt 3 (by omega)
   have c4:=tab_cell q1.tab hkt 4 (by omega)
   have c5:=tab_cell q1.tab hkt 5 (by omega)
   have c6:=tab_cell q1.tab hkt 6 (by omega)
   have HRow:Hid (rowsC labels (tab.take (k+1))=rowsC labels (tab.take k)++rowC labels tab[k]):=Lib.hid (by
    unfold rowsC
    rw[List.take_succ_eq_append_getElem hkt,List.flatMap_append]
    simp)
   generalize tab[k]=r at c0 c1 c2 c3 c4 c5 c6 HRow
   obtain ⟨num,name,rout,layer,k0,k1,k2,k3⟩:=r
   replace c0:wr.cell? ⟨tb,k*7,none⟩=some (.int .i64 num):=c0
   replace c1:wr.cell? ⟨tb,k*7+1,none⟩=some (.string name):=c1
   replace c2:wr.cell? ⟨tb,k*7+2,none⟩=some (.string rout):=c2
   replace c3:wr.cell? ⟨tb,k*7+3,none⟩=some (.int .i64 k0):=c3
   replace c4:wr.cell? ⟨tb,k*7+4,none⟩=some (.int .i64 k1):=c4
   replace c5:wr.cell? ⟨tb,k*7+5,none⟩=some (.int .i64 k2):=c5
   replace c6:wr.cell? ⟨tb,k*7+6,none⟩=some (.int .i64 k3):=c6
   have hWB:Below wr.heap.size wr (wr.alloc (.cells #[.int .i64 num, .string name, .string rout, .int .i64 k0, .int .i64 k1, .int .i64 k2, .int .i64 k3] 170)):=(Below.refl _ _).alloc (Nat.le_refl _) _
   have HFd:=Lib.hid (find_any Al cl labels rout _ ((labAt_of q1.labs).below hWB) (by omega))
   have HWB:=Lib.hid hWB
   clear q1 q2 hWB
   go_wp2_with fail
   refine HFd.out.mono ?_
   rintro e w6 ⟨rfl,hb6⟩
   have hb6':Below (wr.heap.size+1) (wr.alloc (.cells #[.int .i64 num, .string name, .string rout, .int .i64 k0, .int .i64 k1, .int .i64 k2, .int .i64 k3] 170)) w6:=by simpa using hb6
   have hz6:wr.heap.size+1≤w6.heap.size:=by have:=hb6'.size;simpa using this
   have hb66:Below wr.heap.size wr w6:=HWB.out.trans (hb6'.mono (by omega))
   have hblk:w6.heap[wr.heap.size]?=some (.cells #[.int .i64 num, .string name, .string rout, .int .i64 k0, .int .i64 k1, .int .i64 k2, .int .i64 k3] 170 (0,0)):=(hb6'.block _ (by omega)).trans (heap_alloc_new wr _)
   have hL6:=HL.out.1.below hb66
   have hB6:Below w.heap.size w w6:=HL.out.2.trans (hb66.mono HL.out.2.size)
   have e0:w6.cell? ⟨wr.heap.size,0,none⟩=some (.int .i64 num):=by simp[World.cell?,hblk]
   have e3:w6.cell? ⟨wr.heap.size,3,none⟩=some (.int .i64 k0):=by simp[World.cell?,hblk]
   have e4:w6.cell? ⟨wr.heap.size,4,none⟩=some (.int .i64 k1):=by simp[World.cell?,hblk]
   have e5:w6.cell? ⟨wr.heap.size,5,none⟩=some (.int .i64 k2):=by simp[World.cell?,hblk]
   have e6:w6.cell? ⟨wr.heap.size,6,none⟩=some (.int .i64 k3):=by simp[World.cell?,hblk]
   have f2:w6.cell? ⟨BL,2,none⟩=some (.slice Ar k cr):=by simp[World.cell?,hL6.lib]
   have hfind:findV (findL labels rout.data.toList)= .tuple #[.int .i64 (atOf labels ⟨num,name,rout,layer,k0,k1,k2,k3⟩:Int), .bool (findL labels rout.data.toList).isSome]:=rfl
   rw[hfind]
   generalize (findL labels rout.data.toList).isSome=fb2
   have hA:Below w6.heap.size w6 (w6.alloc (.cells #[.int .i64 num, .int .i64 (atOf labels ⟨num,name,rout,layer,k0,k1,k2,k3⟩:Int), .int .i64 k0, .int .i64 k1, .int .i64 k2, .int .i64 k3] 184)):=(Below.refl _ _).alloc (Nat.le_refl _) _
   have hL7:=hL6.below hA
   have hB7:Below w.heap.size w (w6.alloc (.cells #[.int .i64 num, .int .i64 (atOf labels ⟨num,name,rout,layer,k0,k1,k2,k3⟩:Int), .int .i64 k0, .int .i64 k1, .int .i64 k2, .int .i64 k3] 184)):=hB6.trans (hA.mono hB6.size)
   have E0:=Lib.hid hL7.rows
   have N1:Hid (∀j u,([.int .i64 num, .int .i64 (atOf labels ⟨num,name,rout,layer,k0,k1,k2,k3⟩:Int), .int .i64 k0, .int .i64 k1, .int .i64 k2, .int .i64 k3]:List Value)[j]?=some u→((w6.alloc (.cells #[.int .i64 num, .int .i64 (atOf labels ⟨num,name,rout,layer,k0,k1,k2,k3⟩:Int), .int .i64 k0, .int .i64 k1, .int .i64 k2, .int .i64 k3] 184))).cell? ((⟨w6.heap.size,0,none⟩:Addr).add j)=some u):=Lib.hid (by
    intro j u hu
    rw[Addr.add_lit,Nat.zero_add]
    exact (World.cell?_alloc_at _ _ _ _ rfl).trans (by simpa using hu))
   have O1:Hid (∀u∈([.int .i64 num, .int .i64 (atOf labels ⟨num,name,rout,layer,k0,k1,k2,k3⟩:Int), .int .i64 k0, .int .i64 k1, .int .i64 k2, .int .i64 k3]:List Value),u.oneCell'=true):=Lib.hid (by
    intro u hu
    simp at hu
    rcases hu with rfl|rfl|rfl|rfl|rfl|rfl<;>rfl)
   have M1:=Lib.hid (show k+1≤maxLen by unfold maxLen;omega)
   have M2:=Lib.hid (show (k+1)*48≤140737488355328 by omega)
   have M3:=Lib.hid (show w.heap.size+1≤((w6.alloc (.cells #[.int .i64 num, .int .i64 (atOf labels ⟨num,name,rout,layer,k0,k1,k2,k3⟩:Int), .int .i64 k0, .int .i64 k1, .int .i64 k2, .int .i64 k3] 184))).heap.size by simp;omega)
   have HFin:Hid (∀v' w8,w8.ownsRow (w.heap.size+1) 184 6 v' (k+1) (rowsC labels (tab.take k)++ [.int .i64 num, .int .i64 (atOf labels ⟨num,name,rout,layer,k0,k1,k2,k3⟩:Int), .int .i64 k0, .int .i64 k1, .int .i64 k2, .int .i64 k3])→((w6.alloc (.cells #[.int .i64 num, .int .i64 (atOf labels ⟨num,name,rout,layer,k0,k1,k2,k3⟩:Int), .int .i64 k0, .int .i64 k1, .int .i64 k2, .int .i64 k3] 184))).grownBy w8 (Value.slice Ar k cr).ownBlock→(LTo w.heap.size BL tb (.slice Ac code.length cc) (.slice Al labels.length cl) code labels (k+1) v' (w8.setCell ⟨BL,2,none⟩ v')∧Below w.heap.size w (w8.setCell ⟨BL,2,none⟩ v'))∧w8.cell? ⟨BL,2,none⟩=some (.slice Ar k cr)∧w8.frozen? ⟨BL,2,none⟩=false):=Lib.hid (fun v' w8 hr hg=>by
    have hx:=(hg.block BL (blk_lt hL7.lib) (own_ne hL7.rows (tag_cells hL7.lib) (by decide))).trans hL7.lib
    refine ⟨⟨hL7.append hg (by rw[HRow.out];exact hr),?_⟩,by simp[World.cell?,hx],by simp[World.frozen?,hx]⟩
    exact (hB7.grown hg hB7.size (fun j e=>by have:=(hL7.rows.lt j e).1;omega)).setCell (p:=⟨BL,2,none⟩) (by show w.heap.size≤BL;omega) _)
   clear hb6 hb6' hb66 hblk hL6 hB6 hfind hA hL7 hB7 c0 c1 c2 c3 c4 c5 c6 HL
   generalize atOf labels ⟨num,name,rout,layer,k0,k1,k2,k3⟩=at9 at E0 N1 O1 M3 HFin ⊢
   go_wp2_with (at_builtin;refine wpList_append_own_at _ rfl _ _ 75 rfl (w.heap.size+1) 184 i6 z6 6 48 Tryz.underlying75 hi6 hzz6 hs6 hbb6 hcc6 (by decide) _ _ _ rfl E0.out ⟨w6.heap.size,0,none⟩ 1 1 [.int .i64 num, .int .i64 (at9:Int), .int .i64 k0, .int .i64 k1, .int .i64 k2, .int .i64 k3] rfl rfl N1.out O1.out M1.out M2.out M3.out ?_;intro v6 w8 hown hgrow _ hnew;obtain ⟨A6,c6,rfl⟩:=own_shape hown;obtain ⟨tt,t0,t2⟩:=HFin.out _ _ hown hgrow;have HF:=Lib.hid tt;clear hown hgrow hnew tt)
   go_roundw
   case rel=>exact ⟨k+1,_,by omega,by go_num,HF⟩
   case measure=>simp[intOf];omega
  ·exact m32):P:=h
theorem a67.q32 {P:Prop} (h:P:=by
 have hBl:=blk_lt q1.res
 clear q1 q2
 go_wp2_with fail
 refine bodyPost_ret (v:= .tuple #[.agg #[.slice Ac code.length cc, .int .i64 (loopOf labels:Int), .slice Ar 45 cr], .nilIface]) (by simp[results,Tryz.results27,go_sem,b0,b1,b2]) rfl ?_
 exact m21):P:=h
theorem a67.q53 {P:Prop} (h:P:=by
 clear hc hl hb hcW hlW hbW hres2
 go_wp2_with fail
 have HW:=Lib.hid (show Below w2.heap.size w2 (w2.alloc (.cells #[.slice Ac code.length cc, .int .i64 0, .slice none 0 0] 77)) from (Below.refl _ _).alloc (Nat.le_refl _) _)
 refine (find_any Al cl labels ⟨#[108,111,111,112]⟩ _ ((labAt_of HL2.out).below HW.out) (by omega)).mono ?_
 rintro e w3 ⟨rfl,hb3⟩
 have hb3':Below (w2.heap.size+1) (w2.alloc (.cells #[.slice Ac code.length cc, .int .i64 0, .slice none 0 0] 77)) w3:=by simpa using hb3
 have hlib3:w3.heap[w2.heap.size]?=some (.cells #[.slice Ac code.length cc, .int .i64 0, .slice none 0 0] 77 (0,0)):=(hb3'.block _ (by omega)).trans (heap_alloc_new w2 _)
 have hb23:Below w2.heap.size w2 w3:=HW.out.trans (hb3'.mono (by omega))
 have hs3:w2.heap.size+1≤w3.heap.size:=by have:=hb3'.size;simpa using this
 have y1:w3.cell? ⟨w2.heap.size,1,none⟩=some (.int .i64 0):=by simp[World.cell?,hlib3]
 have yf: ∀o,w3.frozen? ⟨w2.heap.size,o,none⟩=false:=fun o=>by simp[World.frozen?,hlib3]
 have HL3:=Lib.hid hlib3
 have HB23:=Lib.hid hb23
 exact m22):P:=h
open a67 in
set_option maxRecDepth 100000 in
theorem lib_any {code:List InsL} {labels:List (Str×Nat)} (hp:parseL (linesL textL)=some (code,labels)) (hlab:labels.length≤3000) (w:World) (hM:MaxDoor w) (hMl:1<w.heap.size):
  Calls Tryz.prog 27 #[] w (LibOut w code labels):=by
 have B1:Below w.heap.size w (w.alloc (.cells #[.slice none 0 0, .int .i64 0, .slice none 0 0] 77)):=(Below.refl _ w).alloc (Nat.le_refl _) _
 have HT:=Lib.hid (text_any (w.alloc (.cells #[.slice none 0 0, .int .i64 0, .slice none 0 0] 77)))
 have HP:=Lib.hid (aparse_any hp (w.alloc (.cells #[.slice none 0 0, .int .i64 0, .slice none 0 0] 77)) (hM.below B1 hMl))
 have HB1:=Lib.hid B1
 generalize textL=TT at HT HP hp
 clear hp hM hMl B1
 go_enter Tryz.func27,Tryz.ntmps27
 go_wp2_with fail
 refine HT.out.mono ?_
 rintro e w' ⟨rfl,rfl⟩
 go_wp2_with fail
 refine HP.out.mono ?_
 rintro e w2 ⟨vc,vl,rfl,hc,hl,hb⟩
 have hcW:w2.ownsRow (w.heap.size+1) 68 7 vc code.length (codeC code):=by simpa using hc
 have hlW:w2.ownsRow (w.heap.size+1) 319 2 vl labels.length (labelsC labels):=by simpa using hl
 have hbW:Below (w.heap.size+1) (w.alloc (.cells #[.slice none 0 0, .int .i64 0, .slice none 0 0] 77)) w2:=by simpa using hb
 exact m53
end Go.Proofs.YtaangaogmnlljaaGreatDoor.Asm
namespace Go.Proofs.YtaangaogmnlljaaGreatDoor.Errs
open Go.ChangeShapes Go.WideShapes Go.RowKit
def laidL:List (String×DataW Unit):= [("unicode/utf8.acceptRanges",Rows.laid_unicode_utf8_acceptRanges),("errors.errorType",Rows.laid_errors_errorType),("unicode/utf8.first",Rows.laid_unicode_utf8_first)]
theorem et:Tryz.prog.globalNamed "errors.errorType" =some 0:=by kernel_rfl
theorem rt:(Tryz.prog.cutTypes.find? (·.1== "internal/reflectlite.rtype")).map (·.2)=some 369:=by kernel_rfl
theorem oneRow:((List.range 571).filter fun t=>Tryz.prog.rowNamed t [101,114,114,111,114])= [29]:=by kernel_rfl
theorem typesSize:Tryz.prog.types.size=571:=by kernel_rfl
theorem laidHandles:(laidL.filter fun x=>x.2.handleName?.isSome)= [("errors.errorType",Rows.laid_errors_errorType)]:=by kernel_rfl
theorem handles_of {P:Program} {l:List (String×DataW Unit)} {W:World} (h:laidMetH P l W) {fl:List (String×DataW Unit)} (e:(l.filter fun x=>x.2.handleName?.isSome)=fl) (hne:fl≠ []):handlesMet P fl W:=by
 unfold laidMetH at h
 rw[e] at h
 cases fl with
 |nil=>exact absurd rfl hne
 |cons x fl=>exact h.2
theorem door_of_laid {W:World} (h:laidMetH Tryz.prog laidL W):Door W:=by
 have h':=handles_of h laidHandles (by simp)
 obtain ⟨name,u,ty,e1,e2,e3,e4,e5⟩:=h' _ (List.mem_singleton.2 rfl)
 have en:name= [101,114,114,111,114]:=(Option.some.inj e1).symm
 subst en
 obtain rfl:=Option.some.inj (rt.symm.trans e2)
 have hm:ty∈(List.range 571).filter fun t=>Tryz.prog.rowNamed t [101,114,114,111,114]:=List.mem_filter.2 ⟨List.mem_range.2 (by rw[←typesSize];exact e3),e4⟩
 rw[oneRow] at hm
 obtain rfl:=List.mem_singleton.1 hm
 have hh:typeHandle Tryz.prog 29= .pointer (some ⟨4,29,none⟩):=by kernel_rfl
 rw[hh] at e5
 unfold Door
 simpa using World.var?_cell et e5 0
theorem maxDoor_of {W:World} (h:W.ShapedOpen Tryz.prog):Asm.MaxDoor W:=
 cell_of_shapedOpen_int (P:=Tryz.prog) (g:=1) (t:=3) (zero:=#[.int .i64 0]) h (of_decide_eq_true (by kernel_rfl)) (by kernel_rfl) rfl (by kernel_rfl) (by kernel_rfl) Tryz.underlying3
theorem maxDoor_lt {W:World} (h:Asm.MaxDoor W):1<W.heap.size:=by
 obtain ⟨m,hm⟩:=h
 rcases Nat.lt_or_ge 1 W.heap.size with h'|h'
 ·exact h'
 ·have:W.heap[1]?=none:=Array.getElem?_eq_none h'
  simp[World.cell?,this] at hm
def cellL:DataW Unit→List Value
 | .lit (.int k n)=> [.int k n]
 |_=> []
def cellsL:DataW Unit→List Value
 | .agg l=>l.flatMap cellL
 |_=> []
def cellsLL:DataW Unit→List Value
 | .agg l=>l.flatMap cellsL
 |_=> []
noncomputable def laidWorld (os:Os):World:=
 let w0:=World.holding Tryz.prog os ⟨#[],#[],[]⟩
 { w0 with heap:=((w0.heap.modify 0 fun
   | .cells _ t frozen=> .cells #[.iface 369 (.agg #[.pointer (some ⟨4,29,none⟩)])] t frozen
   |o=>o).modify 2 fun
   | .cells _ t frozen=> .cells (cellsL Rows.laid_unicode_utf8_first).toArray t frozen
   |o=>o).modify 3 fun
   | .cells _ t frozen=> .cells (cellsLL Rows.laid_unicode_utf8_acceptRanges).toArray t frozen
   |o=>o}
theorem laidWorld_met (os:Os) (args:Array Value):laidMetH Tryz.prog laidL ((laidWorld os).forCall (fun _ _=>0) ⟨#[],args,[]⟩).memory:=
 laidMetH_of_parts (laidMet_of_run' 1000 (by kernel_rfl) (by kernel_rfl)) (by kernel_rfl)
theorem returnsInHanded_and_shaped {H:Type} {enc:TypeId×Value→H} {a:Assume} {C:Checked} {os:Os} {f:FuncId} {fn:Func} {s:ChangeSpec} {conds:List PathCond} {apart fresh handsOn again:Bool} {X:World→Array Value→Prop}
  (hX: ∀(w w':World) (args:Array Value),w.heap=w'.heap→X w args→X w' args)
  (own:ownKnob C.prog.godebug=none) (started:os.Started) (noInit:C.prog.inits.idxOf? f=none) (hfn:C.prog.funcs[f]?=some fn)
  (witness: ∃(w:World) (tape:Tape) (i:Input),w.os=os∧(w.forCall tape i).Shaped C.prog∧i.vars= []∧Input.okWide C.prog (w.forCall tape i) .any w.heap.size f i∧
   ((s.pre enc C.prog fn conds apart (w.forCall tape i).memory i.args∧X (w.forCall tape i).memory i.args)∧sizedMet enc C.prog fn (OpenSpec.ofChange s) apart (w.forCall tape i).memory i.args)∧a.holds C.prog (lone (Frame.enter C.prog f i.args .normal) [] (w.forCall tape i)))
  (contract: ∀(W:World) (base:Nat) (args:Array Value) (ds gs:List (DataW H)) (before:List MemPlace),
   (∀(j:Nat) t v,fn.params[j]?=some t→args[j]?=some v→Value.okWide C.prog W .any base t v)→
   DataW.Whole enc C.prog fn.params.toList s.vars apart W args.toList ds gs before→
   conds.all (PathCond.test C.prog ⟨fn.params.toList,ds,s.plain.varTypes C.prog,gs⟩)=true→
   (DataW.weightsEach C.prog (fn.params.toList++s.plain.varTypes C.prog) (ds++gs)).all (· ≤reachBytes)=true→X W args→W.ShapedOpen C.prog→
   a.holds C.prog (lone (Frame.enter C.prog f args .normal) [] W)→
   Calls C.prog f args W fun e W'=> ∃v,e= .returned v∧s.post enc C.prog fn apart fresh handsOn again W args v W'):
  ReturnsInHanded a C os f .any (fun w args=>(s.pre enc C.prog fn conds apart w args∧X w args)∧sizedMet enc C.prog fn (OpenSpec.ofChange s) apart w args) (s.post enc C.prog fn apart fresh handsOn again):=by
 refine returnsInHanded_of_calls own started noInit witness ?_
 intro w tape i _ hsh _ hok hpre hholds
 obtain ⟨_,_,_,fn',hfn',_,_,_,_,hval⟩:=hok
 have e:fn'=fn:=Option.some.inj (hfn'.symm.trans hfn)
 subst e
 obtain ⟨⟨⟨ds,gs,before,hw,hc⟩,hx⟩,hz⟩:=hpre
 have hw':=DataW.Whole.of_heap (w':=w.forCall tape i) (by rfl) hw
 refine (contract (w.forCall tape i) w.heap.size i.args ds gs before hval hw' hc (hz.weights hw) (hX _ _ _ (by rfl) hx) hsh hholds).mono fun e W' ⟨v,he,hp⟩=>?_
 subst he
 exact ChangeSpec.post_blind hp
end Go.Proofs.YtaangaogmnlljaaGreatDoor.Errs
