/- Part 41 of what the proof stands on: RefB. -/
import Derived.Test.YtaangaogmnlljaaGreatDoorP29
import Derived.Test.YtaangaogmnlljaaGreatDoorP35
set_option linter.unusedVariables false
set_option maxRecDepth 100000
set_option maxHeartbeats 40000000
namespace Go.Proofs.YtaangaogmnlljaaGreatDoor.Asm
open Go.RowKit Go.Maps PosTab
def namesV:Array Value:=(opNames.map strV).toArray
set_option maxRecDepth 100000 in
theorem names_any (w:World):Calls Tryz.prog 231 #[] w fun e w'=>e= .returned (.slice (some ⟨w.heap.size,0,none⟩) 58 58)∧w'=w.alloc (.cells namesV 9):=by
 go_enter Tryz.func231,Tryz.ntmps231
 go_wp2
 go_ret
 exact ⟨rfl,by kernel_rfl⟩
theorem op_of_name: ∀i (h:i<opNames.length),opL opNames[i]=(i:Int)+1:=by decide
theorem aux_name (s:Str): ∀(l:List Str) (n:Int) (i:Nat),1≤n→opAux s l n=n+i→l[i]?=some s
 |[],n,i,hn,h=>by simp[opAux] at h;omega
 |x::l,n,i,hn,h=>by
  unfold opAux at h
  split at h
  ·rename_i hx
   obtain rfl:i=0:=by omega
   rw[hx];rfl
  ·cases i with
   |zero=>
    rcases opAux_range s l (n+1) with h2|h2
    ·omega
    ·omega
   |succ i=>
    have:=aux_name s l (n+1) i (by omega) (by rw[h];push_cast;omega)
    simpa using this
theorem name_of_op {s:Str} {i:Nat} (h:opL s=(i:Int)+1):opNames[i]?=some s:=aux_name s opNames 1 i (by omega) (by unfold opL at h;omega)
def opTo (s:Str) (i:Nat):Int:=if opL s≤i then opL s else 0
theorem opTo_hit {s:Str} {i:Nat} (h:opNames[i]?=some s) (hi:i<opNames.length):opTo s (i+1)=(i:Int)+1:=by
 have e:opNames[i]=s:=by rw[List.getElem?_eq_getElem hi] at h;exact Option.some.inj h
 have:=op_of_name i hi
 rw[e] at this
 unfold opTo
 rw[this,if_pos (by push_cast;omega)]
theorem opTo_miss {s:Str} {i:Nat} (h:opNames[i]?≠some s):opTo s (i+1)=opTo s i:=by
 unfold opTo
 have:opL s≠(i:Int)+1:=fun e=>h (name_of_op e)
 by_cases h1:opL s≤i
 ·rw[if_pos h1,if_pos (by push_cast;omega)]
 ·rw[if_neg h1,if_neg (by push_cast;omega)]
theorem opTo_zero (s:Str):opTo s 0=0:=by
 unfold opTo
 split
 ·rcases opAux_range s opNames 1 with h|h
  ·exact h
  ·have h1:1≤opL s:=h.1
   omega
 ·rfl
theorem opTo_all (s:Str):opTo s 58=opL s:=by
 unfold opTo
 split
 ·rfl
 ·rename_i hh
  by_cases h0:opL s=0
  ·exact h0.symm
  ·have:=op_range s h0;omega
end Go.Proofs.YtaangaogmnlljaaGreatDoor.Asm
namespace Go.Proofs.YtaangaogmnlljaaGreatDoor.Asm
open Go.RowKit
def RWordsTo (l:Str) (i:Nat) (cur:Str) (D:List Str):Prop:=
 (i≤l.length→wordsL l=D++wordsAux cur (l.drop i))∧(l.length<i→wordsL l=D)∧D.length≤i∧cur.length≤i
theorem rwords_start (l:Str):RWordsTo l 0 [] []:=⟨fun _=>by simp[wordsL],fun h=>by omega,Nat.le_refl _,Nat.le_refl _⟩
theorem rwords_char {l cur:Str} {i:Nat} {D:List Str} (h:RWordsTo l i cur D) (hi:i<l.length) (hc:l[i]≠32):RWordsTo l (i+1) (cur++ [l[i]]) D:=by
 obtain ⟨h2,h3,h4,h5⟩:=h
 refine ⟨fun _=>?_,fun h=>by omega,by omega,by simp;omega⟩
 rw[h2 (by omega),List.drop_eq_getElem_cons hi,wordsAux,if_neg hc]
theorem rwords_cut {l cur:Str} {i:Nat} {D:List Str} (h:RWordsTo l i cur D) (hi:i≤l.length) (hc: ∀(h:i<l.length),l[i]=32):RWordsTo l (i+1) [] (if cur= [] then D else D++ [cur]):=by
 obtain ⟨h2,h3,h4,h5⟩:=h
 have hlen:(if cur= [] then D else D++ [cur]).length≤i+1:=by
  split
  ·omega
  ·simp;omega
 by_cases hlt:i<l.length
 ·refine ⟨fun _=>?_,fun h=>by omega,hlen,by simp⟩
  rw[h2 hi,List.drop_eq_getElem_cons hlt,wordsAux,if_pos (hc hlt)]
  split<;>simp
 ·refine ⟨fun h=>by omega,fun _=>?_,hlen,by simp⟩
  rw[h2 hi,show l.drop i= [] from List.drop_of_length_le (by omega),wordsAux]
  split<;>simp
set_option maxRecDepth 100000 in
theorem rwords_any (s:ByteArray) (w:World) (hs:s.size≤100000) (hsemi: ∀c∈s.data.toList,c≠59):Calls Tryz.prog 177 #[.string s] w (WordsOut w s.data.toList):=by
 have hsI:(s.size:Int)≤100000:=by omega
 obtain ⟨i0,hi0,hz0,hs0,hb0⟩:=info_parts infoStr
 have HS:=Lib.hid hs
 have HSm:=Lib.hid hsemi
 clear hs hsemi
 go_enter Tryz.func177,Tryz.ntmps177
 go_wp2
 go_loopw [3,4,5] (fun lv cv iv wr=> ∃(i:Nat) (W:ByteArray) (D:List Str),i≤s.size+1∧W.size≤i∧cv= .string W∧iv= .int .i64 i∧Hid (RWordsTo s.data.toList i W.data.toList D)∧Hid (StrRow wr w.heap.size lv D)∧Hid (Below w.heap.size w wr)) (fun _ _ iv _=>s.size+1 - (intOf iv).toNat)
 case atStart=>exact ⟨0,⟨#[]⟩,[],by omega,Nat.le_refl _,rfl,rfl,Lib.hid (rwords_start _),Lib.hid (World.ownsRow_nil _ _ _ _),Lib.hid (Below.refl _ _)⟩
 case round=>
  obtain ⟨i,W,D,hi,hWz,rfl,rfl,HW,HR,HB⟩:=hrel
  have hiI:(i:Int)≤(s.size:Int)+1:=by omega
  obtain ⟨A,c,hv⟩:=own_shape HR.out
  subst hv
  have hDl:D.length≤i:=HW.out.2.2.1
  by_cases hle:i≤s.size
  case neg=>
   have hd:decide ((i:Int)≤(s.size:Int))=false:=decide_eq_false (by omega)
   have hd2:decide (i≤s.size)=false:=decide_eq_false hle
   have HFin:Hid (wordsL s.data.toList=D):=Lib.hid (HW.out.2.1 (by rw[len_list];omega))
   clear hle
   go_wp2
   go_ret
   exact ⟨_,rfl,by rw[HFin.out];exact HR.out,HB.out⟩
  have hleI:(i:Int)≤(s.size:Int):=by omega
  have hd2:decide (i≤s.size)=true:=decide_eq_true hle
  by_cases hch: ∃h:i<s.size,s[i]≠32
  ·obtain ⟨hlt,hne⟩:=hch
   have hltI:(i:Int)<(s.size:Int):=by omega
   have hb:((s[i].toNat:Int) !=32)=true:=by rw[bne_iff_ne];intro e;exact hne ((eq_byte _ 32).1 e)
   have hb2:((s[i].toNat:Int) !=59)=true:=by rw[bne_iff_ne];intro e;exact HSm.out _ (mem_list s i hlt) ((eq_byte _ 59).1 e)
   have hWI:W.size≤100001:=by have:=HS.out;omega
   have hWn:(W++s.extract i (i+1)).data.toList=W.data.toList++ [s[i]]:=by
    rw[ByteArray.data_append,Array.toList_append,extract_list]
    congr 1
    rw[show i+1 - i=1 by omega,List.drop_eq_getElem_cons (by rw[len_list];exact hlt)]
    rfl
   have HNx:Hid (RWordsTo s.data.toList (i+1) (W++s.extract i (i+1)).data.toList D):=Lib.hid (by
    rw[hWn];exact rwords_char HW.out (by rw[len_list];exact hlt) hne)
   have hWz2:(W++s.extract i (i+1)).size≤i+1:=by
    rw[←len_list,hWn,List.length_append,len_list];simp;omega
   have he1:(s.extract i (i+1)).size≤1:=by rw[←len_list,extract_list,List.length_take];omega
   have HZ:=Lib.hid hWz2
   clear hne hWn hWz2
   go_wp2
   go_roundw
   case rel=>exact ⟨i+1,_,D,by omega,HZ.out,rfl,by go_num,HNx,HR,HB⟩
   case measure=>simp[intOf];omega
  ·have HCut:=Lib.hid (rwords_cut HW.out (by rw[len_list];exact hle) (fun h=>by
    have h2:i<s.size:=by rw[len_list] at h;exact h
    exact Classical.byContradiction fun hne=>hch ⟨h2,hne⟩))
   have hex:decide (i<s.size)=false∨(∃h:i<s.size,decide (i<s.size)=true∧((s[i].toNat:Int) !=32)=false∧((s[i].toNat:Int)==59)=false):=by
    by_cases h:i<s.size
    ·have h32:s[i]=32:=Classical.byContradiction fun hne=>hch ⟨h,hne⟩
     refine Or.inr ⟨h,decide_eq_true h,?_,?_⟩
     ·rw[bne_eq_false_iff_eq]
      exact (eq_byte _ 32).2 h32
     ·rw[h32];rfl
    ·exact Or.inl (decide_eq_false h)
   clear hch
   by_cases ha:W.data.toList= []
   ·rw[if_pos ha] at HCut
    have q1:W.toList= []:=by rw[bytes_toList];exact ha
    have q2:W.toList.isEmpty=true:=by rw[q1];rfl
    have Q1:=Lib.hid q1
    clear ha q1
    rcases hex with t1|⟨hlt,t1,t2,t3⟩
    all_goals
     go_wp2
     go_roundw
     case rel=>exact ⟨i+1,⟨#[]⟩,D,by omega,Nat.zero_le _,rfl,by go_num,HCut,HR,HB⟩
     case measure=>simp[intOf];omega
   ·rw[if_neg ha] at HCut
    have q2:W.toList.isEmpty=false:=by
     rw[bytes_toList]
     cases hl:W.data.toList with
     |nil=>exact absurd hl ha
     |cons _ _=>rfl
    have hdl:D.length+1≤200000:=by have:=HS.out;omega
    have HR1:Hid ((wr.alloc (.cells #[.string W] 9)).ownsRow w.heap.size 9 1 (.slice A D.length c) D.length (D.map strV)):=Lib.hid (HR.out.alloc _)
    have HN1:Hid (∀(j:Nat) (u:Value),[Value.string W][j]?=some u→(wr.alloc (.cells #[.string W] 9)).cell? ((⟨wr.heap.size,0,none⟩:Addr).add j)=some u):=Lib.hid (fun j u hu=>by
     rw[Addr.add_lit,Nat.zero_add]
     exact (World.cell?_alloc_at _ _ _ _ rfl).trans (by simpa using hu))
    have HO1:Hid (∀u∈ [Value.string W],u.oneCell'=true):=Lib.hid (fun u hu=>by
     rw[List.mem_singleton] at hu;subst hu;rfl)
    have HM1:=Lib.hid (show D.length+1≤maxLen by unfold maxLen;omega)
    have HM2:=Lib.hid (show (D.length+1)*16≤140737488355328 by omega)
    have HM3:=Lib.hid (show w.heap.size≤(wr.alloc (.cells #[.string W] 9)).heap.size by have:=HB.out.size;simp;omega)
    have HBa:=Lib.hid (HB.out.alloc HB.out.size (.cells #[.string W] 9))
    have HFin:Hid (∀v' w',w'.ownsRow w.heap.size 9 1 v' (D.length+1) (D.map strV++ [Value.string W])→StrRow w' w.heap.size v' (D++ [W.data.toList])):=Lib.hid (fun v' w' h=>by
     unfold StrRow
     rw[List.length_append,List.map_append,List.map_singleton,show strV W.data.toList=Value.string W from rfl]
     exact h)
    have HFin2:Hid (∀w',(wr.alloc (.cells #[.string W] 9)).grownBy w' (Value.slice A D.length c).ownBlock→Below w.heap.size w w'):=Lib.hid (fun w' h=>HBa.out.grown h HM3.out (fun k e=>(HR1.out.lt k e).1))
    clear hDl hdl ha
    rcases hex with t1|⟨hlt,t1,t2,t3⟩
    all_goals
     go_wp2_with (at_builtin;refine wpList_append_own _ rfl _ _ 88 rfl w.heap.size 9 i0 _ 1 16 Tryz.underlying88 hi0 hz0 hs0 hb0 rfl (by decide) _ _ _ rfl HR1.out ⟨wr.heap.size,0,none⟩ 1 1 [.string W] rfl rfl HN1.out HO1.out HM1.out HM2.out HM3.out ?_;intro v' w3 hown hgrow hnew;obtain ⟨A',c',rfl⟩:=own_shape hown;have HR3:=Lib.hid (HFin.out _ _ hown);have HB3:=Lib.hid (HFin2.out _ hgrow);clear hown hgrow hnew)
     go_roundw
     case rel=>exact ⟨i+1,⟨#[]⟩,_,by omega,Nat.zero_le _,rfl,by go_num,HCut,HR3,HB3⟩
     case measure=>simp[intOf];omega
end Go.Proofs.YtaangaogmnlljaaGreatDoor.Asm
namespace Go.Proofs.YtaangaogmnlljaaGreatDoor.Asm
open Go.RowKit Go.Maps PosTab
def RLineOut (w:World) (R rb:Nat) (vc vl vn vw:Value) (st':St) (ln:Nat) (e:Ending) (w':World):Prop:=
 e= .returned (.pointer none)∧ ∃vc' vl' vn' vw',RP w' R rb vc' vl' vn' vw' st' ln∧Keeps (OfP R vc vl vn vw) w w'∧ ∀k,OfP R vc' vl' vn' vw' k→OfP R vc vl vn vw k∨w.heap.size≤k
def ROpTo (W5:World) (R rb X ln:Nat) (vc vl vn vw:Value) (st:St) (ks:List Int) (ws:List Str) (yF:InsL) (lF:List Str) (j:Nat) (wr:World):Prop:=
 ∃y l lr vw',operandsL y (ks.drop j) (ws.drop j)=some (yF,lr)∧lF=l++lr∧l.length≤j∧RP wr R rb vc vl vn vw' { st with wants:=st.wants++l.map (fun t=>(st.code.length,ln,t))} ln∧InsAt wr X y∧Keeps (fun k=>k=X∨OfP R vc vl vn vw k) W5 wr∧(∀k,vw'.ownBlock=some k→vw.ownBlock=some k∨W5.heap.size≤k)
section
variable {W5 wr w':World} {R rb X ln:Nat} {vc vl vn vw vw':Value} {st:St} {ks:List Int} {ws:List Str} {yF y' z:InsL} {lF l lr':List Str} {o:Option Str} {j q:Nat} {e:Ending}
theorem ropTo_step (hl:l.length≤j) (hk:Keeps (fun k=>k=X∨OfP R vc vl vn vw k) W5 wr) (ho: ∀k,vw'.ownBlock=some k→vw.ownBlock=some k∨W5.heap.size≤k) (h2:operandsL y' (ks.drop (j+1)) (ws.drop (j+1))=some (yF,lr')) (hF:lF=l++(o.toList++lr'))
  (h:ROpdOut wr R rb vc vl vn vw' { st with wants:=st.wants++l.map (fun t=>(st.code.length,ln,t))} ln X y' o e w'):e= .returned (.pointer none)∧ROpTo W5 R rb X ln vc vl vn vw st ks ws yF lF (j+1) w':=by
 obtain ⟨he,hy,vw2,hr,hk2,ho2⟩:=h
 refine ⟨he,y',l++o.toList,lr',vw2,h2,by rw[hF,List.append_assoc],?_,?_,hy,?_,?_⟩
 ·have:o.toList.length≤1:=by cases o<;>simp
  simp;omega
 ·have e2:st.wants++(l++o.toList).map (fun t=>(st.code.length,ln,t))=(st.wants++l.map (fun t=>(st.code.length,ln,t)))++o.toList.map (fun t=>(st.code.length,ln,t)):=by rw[List.map_append,List.append_assoc]
  rw[e2]
  exact hr
 ·refine hk.trans hk2 fun k hh=>?_
  rcases hh with hh|hh
  ·exact Or.inl (Or.inl hh)
  ·rcases of_ofP ho hh with hh|hh
   ·exact Or.inl (Or.inr hh)
   ·exact Or.inr hh
 ·intro k hh
  rcases ho2 k hh with hh|hh
  ·exact ho k hh
  ·exact Or.inr (Nat.le_trans hk.size hh)
def RInsTo (W5:World) (R rb X ln:Nat) (vc vl vn vw:Value) (st:St) (z:InsL) (lF:List Str) (wr:World):Prop:=
 ∃vw',RP wr R rb vc vl vn vw' { st with wants:=st.wants++lF.map (fun t=>(st.code.length,ln,t))} ln∧InsAt wr X z∧Keeps (fun k=>k=X∨OfP R vc vl vn vw k) W5 wr∧(∀k,vw'.ownBlock=some k→vw.ownBlock=some k∨W5.heap.size≤k)
theorem rinsTo_of (h:ROpTo W5 R rb X ln vc vl vn vw st ks ws yF lF q wr) (hq:q=ks.length):RInsTo W5 R rb X ln vc vl vn vw st yF lF wr:=by
 exact m80
theorem rinsTo_mark (h:RInsTo W5 R rb X ln vc vl vn vw st yF lF wr) (hX:X<W5.heap.size) (hXn: ¬OfP R vc vl vn vw X) (hz:InsAt w' X z) (hk:Keeps (fun i=>i=X) wr w'):RInsTo W5 R rb X ln vc vl vn vw st z lF w':=by
 obtain ⟨vw',h4,h5,h6,h7⟩:=h
 refine ⟨vw',h4.keeps hk fun k hk' e=>?_,hz,h6.trans (hk.mono (fun k e=>Or.inl e)) (fun k e=>Or.inl e),h7⟩
 subst e
 rcases of_ofP h7 hk' with h|h
 ·exact hXn h
 ·omega
end
theorem a102.q29 {P:Prop} (h:P:=by
 have M1:=Lib.hid (show st.code.length+1≤maxLen by have:=HCn.out;unfold maxLen;omega)
 have M2:=Lib.hid (show (st.code.length+1)*56≤140737488355328 by have:=HCn.out;omega)
 have M3:=Lib.hid (show rb≤(((wc.alloc (.cells #[.int .i64 z.op, .int .i64 z.a, .int .i64 z.b, .int .i64 z.c, .int .u64 z.v, .int .i64 z.m, .int .i64 z.w] 68)).drew)).heap.size by
  have e1:=h6.size
  show rb≤(wc.alloc _).heap.size;simp;omega)
 have HV:Hid (some R≠(Value.slice Ac st.code.length cc).ownBlock):=Lib.hid (own_ne h4.code h4.tagR (by decide))
 have HFin:Hid (∀v' w8,w8.ownsRow rb 68 7 v' (st.code.length+1) (codeC st.code++ [.int .i64 z.op, .int .i64 z.a, .int .i64 z.b, .int .i64 z.c, .int .u64 z.v, .int .i64 z.m, .int .i64 z.w])→(((wc.alloc (.cells #[.int .i64 z.op, .int .i64 z.a, .int .i64 z.b, .int .i64 z.c, .int .u64 z.v, .int .i64 z.m, .int .i64 z.w] 68)).drew)).grownBy w8 (Value.slice Ac st.code.length cc).ownBlock→(v'.ownBlock=(Value.slice Ac st.code.length cc).ownBlock∨v'.ownBlock=some (((wc.alloc (.cells #[.int .i64 z.op, .int .i64 z.a, .int .i64 z.b, .int .i64 z.c, .int .u64 z.v, .int .i64 z.m, .int .i64 z.w] 68)).drew)).heap.size)→
   RLineOut w R rb (.slice Ac st.code.length cc) vl vn vw { st with code:=st.code++ [z],wants:=st.wants++lF.map (fun t=>(st.code.length,ln,t))} ln (.returned (.pointer none)) (w8.setCell ⟨R,0,none⟩ v')):=Lib.hid (fun v' w8 hr hg hnew=>by
  have hr2:w8.ownsRow rb 68 7 v' (st.code++ [z]).length (codeC (st.code++ [z])):=by
   rw[codeC_snoc,List.length_append];exact hr
  have hadd:=h0.add_code z hg hr2
  have hK2:Keeps (OfP R (.slice Ac st.code.length cc) vl vn vw) w (w8.setCell ⟨R,0,none⟩ v'):=(K0.grown hg (fun k e=>Or.inr (Or.inl e))).setCell (p:=⟨R,0,none⟩) (Or.inl rfl) _
  refine ⟨rfl,v',vl,vn,vw',hadd,hK2,fun k hk=>?_⟩
  rcases hk with e|e|e|e|e
  ·exact Or.inl (Or.inl e)
  ·rcases hnew with e2|e2
   ·exact Or.inl (Or.inr (Or.inl (e2▸e)))
   ·right
    rw[e2] at e
    have h2:(wc.alloc (.cells #[.int .i64 z.op, .int .i64 z.a, .int .i64 z.b, .int .i64 z.c, .int .u64 z.v, .int .i64 z.m, .int .i64 z.w] 68)).heap.size=k:=Option.some.inj e
    have e1:=h6.size
    simp at h2
    omega
  ·exact Or.inl (Or.inr (Or.inr (Or.inl e)))
  ·exact Or.inl (Or.inr (Or.inr (Or.inr (Or.inl e))))
  ·rcases h7 k e with e|e
   ·exact Or.inl (Or.inr (Or.inr (Or.inr (Or.inr e))))
   ·exact Or.inr (by omega))
 have HC2:Hid (∀w8:World,(((wc.alloc (.cells #[.int .i64 z.op, .int .i64 z.a, .int .i64 z.b, .int .i64 z.c, .int .u64 z.v, .int .i64 z.m, .int .i64 z.w] 68)).drew)).grownBy w8 (Value.slice Ac st.code.length cc).ownBlock→w8.cell? ⟨R,0,none⟩=some (.slice Ac st.code.length cc)∧w8.frozen? ⟨R,0,none⟩=false):=Lib.hid (fun w8 hg=>by
  have hb:=hg.block R h0.lt HV.out
  exact ⟨(World.cell?_of_block (a:=⟨R,0,none⟩) hb).trans h0.cell.1,(World.frozen?_of_block (a:=⟨R,0,none⟩) hb).trans (h0.cell.2.2.2.2.2 0)⟩)
 generalize hy:st.code.length=y at r0 E0 M1 M2 HV HFin HC2
 have HYy:=Lib.hid hy
 clear hy
 clear h4 h5 h6 h7 h0 K0 hcut HMk2
 go_wp2_with fail
 go_region_law (first|(refine step_append_own _ rfl (.tmp 170) (.tmp 172) 24 rfl rb 68 iw _ 7 56 Tryz.underlying24 hiw hzw hsw hbw rfl (by decide) (.slice Ac y cc) y (codeC st.code) (by simp[Act.eval]) E0.out ⟨wc.heap.size,0,none⟩ 1 1 [.int .i64 z.op, .int .i64 z.a, .int .i64 z.b, .int .i64 z.c, .int .u64 z.v, .int .i64 z.m, .int .i64 z.w] (by simp[Act.eval]) rfl N1.out O1.out M1.out M2.out M3.out ?_;intro v' w8 hown' hgrow hnew;obtain ⟨A',c',rfl⟩:=own_shape hown';have tt:=HC2.out w8 hgrow;have t0:=tt.1;have t1:=tt.2;have HF:=Lib.hid (HFin.out _ _ hown' hgrow hnew);clear hown' hgrow hnew tt))
 all_goals
  go_wp2
  go_ret
  have ey:=HYy.out
  subst ey
  exact HF.out):P:=h
theorem a102.q111 {P:Prop} (h:P:=by
 have hws3:w.heap.size≤w3.heap.size:=by have:=HSz.out;omega
 have h0:RP ((wc.alloc (.cells #[.int .i64 z.op, .int .i64 z.a, .int .i64 z.b, .int .i64 z.c, .int .u64 z.v, .int .i64 z.m, .int .i64 z.w] 68)).drew) R rb (.slice Ac st.code.length cc) vl vn vw' { st with wants:=st.wants++lF.map (fun t=>(st.code.length,ln,t))} ln:=(h4.below ((Below.refl _ _).alloc (Nat.le_refl _) _)).of_blocks fun _ _=>rfl
 have K0:Keeps (OfP R (.slice Ac st.code.length cc) vl vn vw) w ((wc.alloc (.cells #[.int .i64 z.op, .int .i64 z.a, .int .i64 z.b, .int .i64 z.c, .int .u64 z.v, .int .i64 z.m, .int .i64 z.w] 68)).drew):=((HKw.out.trans h6 (fun k hh=>hh.elim (fun e=>Or.inr (by omega)) Or.inl)).alloc _).drew
 exact m29):P:=h
open a102 in
set_option maxRecDepth 100000 in
theorem rread_ins {w:World} {R rb g cap ln:Nat} {vc vl vn vw:Value} {st:St} (hP:RP w R rb vc vl vn vw st ln) (hrb:rb≤w.heap.size) (hg: ¬OfP R vc vl vn vw g) (hgl:g<w.heap.size) {w0:Str} {ws:List Str} (hcell: ∀k (hk:k<(w0::ws).length),w.cell? ⟨g,k,none⟩=some (strV (w0::ws)[k])) (hcap:(w0::ws).length≤cap) (hw0:0<w0.length∧w0.length≤100000) (hnl: ¬(ws= []∧w0.getLast?=some 58)) (hop:opL w0≠0) (hop2:1≤opL w0∧opL w0≤58) (hwn:ws.length≤100000) (hws: ∀x∈ws,x.length≤100000) {yF z:InsL} {lF:List Str} (hopd:operandsL { op:=opL w0} (kindsL (opL w0)) ws=some (yF,lF)) (hmk:(ws.length=(kindsL (opL w0)).length∧yF=z)∨(ws.length=(kindsL (opL w0)).length+1∧ ∃r,ws[(kindsL (opL w0)).length]?=some (33::r)∧markL yF (33::r)=some z)) (hcn:st.code.length≤90000) (hwl:st.wants.length≤90000):
  Calls Tryz.prog 178 #[.pointer (some ⟨R,0,none⟩), .slice (some ⟨g,0,none⟩) (w0::ws).length cap] w (RLineOut w R rb vc vl vn vw { st with code:=st.code++ [z],wants:=st.wants++lF.map (fun t=>(st.code.length,ln,t))} ln):=by
 have HCn:=Lib.hid hcn
 have HWn:=Lib.hid hwn
 have HWll:=Lib.hid hwl
 have HOpd:=Lib.hid hopd
 have HWs:=Lib.hid hws
 have HMk:=Lib.hid hmk
 have HP:=Lib.hid hP
 have HG:=Lib.hid hg
 have HC:=Lib.hid hcell
 have HOp:=Lib.hid hop
 have HOp2:=Lib.hid hop2
 obtain ⟨n,hn⟩: ∃n,n=ws.length:=⟨_,rfl⟩
 have hnI:(n:Int)≤100000:=by omega
 have HNl:=Lib.hid hn
 obtain ⟨W0,hW0⟩: ∃W0:ByteArray,W0=⟨w0.toArray⟩:=⟨_,rfl⟩
 have c0:w.cell? ⟨g,0,none⟩=some (.string W0):=by rw[hW0];exact hcell 0 (by simp)
 have hz0:W0.size=w0.length:=by rw[hW0];rfl
 have hWl:W0.data.toList=w0:=by rw[hW0]
 have hzI:(W0.size:Int)≤100000:=by omega
 have hzI1:(1:Int)≤(W0.size:Int):=by omega
 have hl:W0.size - 1<W0.size:=by omega
 have HFst:Hid ((((W0[W0.size - 1]'hl).toNat:Int)==58)=false∨((((W0[W0.size - 1]'hl).toNat:Int)==58)=true∧((n:Int)+1==1)=false)):=Lib.hid (by
  by_cases h58:W0[W0.size - 1]'hl=58
  ·right
   refine ⟨by rw[beq_iff_eq];exact (eq_byte _ 58).2 h58,beq_eq_false_iff_ne.2 fun e=>hnl ⟨List.length_eq_zero_iff.1 (by omega),?_⟩⟩
   have h3:=at_list W0 (W0.size - 1) hl
   rw[h58,hWl] at h3
   rw[List.getLast?_eq_getElem?,←hz0]
   exact h3
  ·left
   rw[beq_eq_false_iff_ne]
   intro e
   exact h58 ((eq_byte _ 58).1 e))
 have hlen:(w0::ws).length=n+1:=by rw[hn];rfl
 rw[hlen] at hcap ⊢
 have HWl:=Lib.hid hWl
 have HLen:=Lib.hid hlen
 clear hopd hws hmk hP hg hcell hop hop2 hn hW0 hz0 hWl hnl hlen hw0 hcn hwn hwl
 go_enter Tryz.func178,Tryz.ntmps178
 go_upto_region 2 with fail
 go_cut [29] (fun cc wx=>cc= .bool false∧w=wx)
 case first=>
  rcases HFst.out with t1|⟨t1,t2⟩
  ·go_wp2_with fail
   all_goals
    go_meet
    exact ⟨rfl,rfl⟩
  ·go_wp2_with fail
   all_goals
    go_meet
    exact ⟨rfl,rfl⟩
 case rest=>
  obtain ⟨rfl,hwc⟩:=hcut
  subst hwc
  go_wp2_with fail
  refine (names_any _).mono ?_
  rintro e w2 ⟨rfl,hw2⟩
  have BW:Below w.heap.size w w2:=by rw[hw2];exact ((Below.refl _ w).alloc (Nat.le_refl _) _).alloc (by simp) _
  have hX2:InsAt w2 w.heap.size {}:=by
   rw[hw2]
   exact (((Below.refl (w.alloc (.cells #[.int .i64 0, .int .i64 0, .int .i64 0, .int .i64 0, .int .u64 0, .int .i64 0, .int .i64 0] 68)).heap.size (w.alloc (.cells #[.int .i64 0, .int .i64 0, .int .i64 0, .int .i64 0, .int .u64 0, .int .i64 0, .int .i64 0] 68))).alloc (Nat.le_refl _) (.cells namesV 9)).block _ (by simp)).trans (heap_alloc_new w _)
  have hN2: ∀i (hi:i<opNames.length),w2.cell? ⟨w.heap.size+1,i,none⟩=some (strV opNames[i]):=by
   intro i hi
   rw[hw2]
   refine (World.cell?_alloc_at _ _ _ _ (by simp)).trans ?_
   unfold namesV
   simp[hi]
  have hz2:w2.heap.size=w.heap.size+1+1:=by rw[hw2];simp
  clear hw2
  have HBW:=Lib.hid BW
  have HX2:=Lib.hid hX2
  have HN2:=Lib.hid hN2
  have HZ2:=Lib.hid hz2
  clear BW hX2 hN2 hz2
  go_wp2_with fail
  go_loopw [10] (fun iv wr=> ∃i:Nat,i≤58∧iv= .int .i64 i∧Hid (InsAt wr w.heap.size { op:=opTo w0 i}∧Keeps (fun k=>k=w.heap.size) w2 wr)) (fun iv _=>58 - (intOf iv).toNat)
  case atStart=>exact ⟨0,by omega,rfl,Lib.hid ⟨by rw[opTo_zero];exact HX2.out,Keeps.refl _ _⟩⟩
  case round=>
   obtain ⟨i,hi,rfl,HI⟩:=hrel
   have hiI:(i:Int)≤58:=by omega
   by_cases hlt:i<58
   ·have hltI:(i:Int)<58:=by omega
    have hio:i<opNames.length:=by rw[op_len];exact hlt
    obtain ⟨x1,k1⟩:=HI.out
    obtain ⟨N,hN⟩: ∃N:ByteArray,N=⟨(opNames[i]).toArray⟩:=⟨_,rfl⟩
    have hNl:N.data.toList=opNames[i]:=by rw[hN]
    have cN:wr.cell? ⟨w.heap.size+1,i,none⟩=some (.string N):=(k1.cell (p:=⟨w.heap.size+1,i,none⟩) (by rw[HZ2.out];simp) (by simp)).trans (by rw[HN2.out i hio,hN];rfl)
    obtain ⟨o0,o1,o2,o3,o4,o5,o6,of⟩:=x1.cell
    have hxl:=x1.lt
    by_cases he:opNames[i]?=some w0
    ·have hq:(N.toList==W0.toList)=true:=by
      rw[bytes_toList,bytes_toList,hNl,HWl.out,beq_iff_eq]
      rw[List.getElem?_eq_getElem hio] at he
      exact Option.some.inj he
     have HNx:Hid (InsAt (wr.setCell ⟨w.heap.size,0,none⟩ (.int .i64 (1+(i:Int)))) w.heap.size { op:=opTo w0 (i+1)}∧Keeps (fun k=>k=w.heap.size) w2 (wr.setCell ⟨w.heap.size,0,none⟩ (.int .i64 (1+(i:Int))))):=Lib.hid ⟨by
      rw[opTo_hit he hio,Int.add_comm]
      exact set_block x1 _,k1.setCell (p:=⟨w.heap.size,0,none⟩) rfl _⟩
     exact m126
    ·have hq:(N.toList==W0.toList)=false:=by
      rw[bytes_toList,bytes_toList,hNl,HWl.out,beq_eq_false_iff_ne]
      intro e
      exact he (by rw[List.getElem?_eq_getElem hio,e])
     have HNx:Hid (InsAt wr w.heap.size { op:=opTo w0 (i+1)}∧Keeps (fun k=>k=w.heap.size) w2 wr):=Lib.hid ⟨by rw[opTo_miss he];exact x1,k1⟩
     exact m126
   ·obtain rfl:i=58:=by omega
    obtain ⟨x1,k1⟩:=HI.out
    rw[opTo_all] at x1
    have HX3:=Lib.hid x1
    have HK3:=Lib.hid k1
    generalize opL w0=op at HOpd HOp HOp2 HMk HX3 x1 ⊢
    have hopb:(op==0)=false:=beq_eq_false_iff_ne.2 HOp.out
    obtain ⟨o0,o1,o2,o3,o4,o5,o6,of⟩:=x1.cell
    have hxl:=x1.lt
    have HOps:=Lib.hid (rops_any op HOp2.out.1 HOp2.out.2 wr)
    clear x1 k1 HI
    go_wp2_with fail
    refine HOps.out.mono ?_
    rintro e w3 ⟨v,rfl,hrow,hb3⟩
    obtain ⟨Ao,co,rfl⟩:=own_shape hrow
    obtain ⟨q,hq⟩: ∃q,q=(kindsL op).length:=⟨_,rfl⟩
    have hrl:((kindsL op).map rkind).length=q:=by rw[List.length_map,hq]
    rw[hrl] at hrow ⊢
    have hq3:q≤3:=by rw[hq];exact kinds_len op
    have hqI:(q:Int)≤3:=by omega
    have HQ:=Lib.hid hq
    have HRow:=Lib.hid hrow
    have HB3:=Lib.hid hb3
    clear hq hrow hb3 hrl o0 o1 o2 o3 o4 o5 o6 of hxl HOps
    have hW3:Hid (∀k (hk:k<ws.length),w3.cell? ⟨g,1+k,none⟩=some (strV ws[k])):=Lib.hid (fun k hk=>by
     have e1:=HBW.out.cell (p:=⟨g,1+k,none⟩) hgl
     have e2:=HK3.out.cell (p:=⟨g,1+k,none⟩) (by rw[HZ2.out];simp;omega) (by simp;omega)
     have e3:=HB3.out.cell (p:=⟨g,1+k,none⟩) (by have:=HK3.out.size;rw[HZ2.out] at this;simp;omega)
     rw[e3,e2,e1,Nat.add_comm]
     exact HC.out (k+1) (by simp;omega))
    obtain ⟨mk,hmk⟩: ∃mk:Bool,(mk=false∧n=q∧yF=z)∨(mk=true∧n=q+1∧ ∃r,ws[q]?=some (33::r)∧markL yF (33::r)=some z):=by
     have e1:=HNl.out
     have e2:=HQ.out
     rcases HMk.out with ⟨h,h2⟩ |⟨h,h2⟩
     ·exact ⟨false,Or.inl ⟨rfl,by omega,h2⟩⟩
     ·rw[←e2] at h2
      exact ⟨true,Or.inr ⟨rfl,by omega,h2⟩⟩
    have HMk2:=Lib.hid hmk
    clear HMk hmk
    go_upto_region 20 with fail
    go_cut [12] (fun cc wx=>cc= .bool mk∧w3=wx)
    case first=>
     rcases HMk2.out with ⟨rfl,rfl,_⟩ |⟨rfl,hn,r,hr,_⟩
     ·have t1:((n:Int)+1==(n:Int)+2)=false:=beq_eq_false_iff_ne.2 (by omega)
      go_wp2_with fail
      go_meet
      exact ⟨rfl,rfl⟩
     ·have t1:((n:Int)+1==(q:Int)+2)=true:=beq_iff_eq.2 (by omega)
      obtain ⟨S,hS⟩: ∃S:ByteArray,S=⟨(33::r).toArray⟩:=⟨_,rfl⟩
      have hSz:0<S.size:=by rw[hS];exact Nat.succ_pos _
      have t3:(((S[0]'hSz).toNat:Int)==33)=true:=by
       rw[beq_iff_eq]
       exact m121
      have hqw:q<ws.length:=by rw[←HNl.out];omega
      have cQ:w3.cell? ⟨g,n,none⟩=some (.string S):=by
       rw[hn,Nat.add_comm q 1,hW3.out q hqw]
       rw[List.getElem?_eq_getElem hqw] at hr
       rw[Option.some.inj hr,hS];rfl
      clear hr hS hn hqw
      go_wp2_with fail
      go_meet
      exact ⟨rfl,rfl⟩
    case rest=>
     obtain ⟨rfl,hwc⟩:=hcut
     subst hwc
     go_upto_region 21 with fail
     go_cut [131] (fun cc wx=>cc= .bool false∧w3=wx)
     case first=>
      rcases HMk2.out with ⟨rfl,rfl,_⟩ |⟨rfl,rfl,r,_⟩
      ·go_wp2_with fail
       go_meet
       exact ⟨rfl,rfl⟩
      ·have t1:((q:Int)+1+1 !=(q:Int)+1)=true:=by rw[bne_iff_ne];omega
       go_wp2_with fail
       go_meet
       exact ⟨rfl,rfl⟩
     case rest=>
      obtain ⟨rfl,hwc⟩:=hcut
      subst hwc
      have HSz:Hid (w.heap.size<w2.heap.size∧w2.heap.size≤wr.heap.size∧wr.heap.size≤w3.heap.size):=Lib.hid ⟨by rw[HZ2.out];omega,HK3.out.size,HB3.out.size⟩
      have hKw:Keeps (OfP R vc vl vn vw) w w3:=((Keeps.ofBelow HBW.out).trans HK3.out (fun k e=>Or.inr (by omega))).trans (Keeps.ofBelow (X:=OfP R vc vl vn vw) HB3.out) (fun k e=>Or.inl e)
      have hP3:RP w3 R rb vc vl vn vw st ln:=HP.out.of_blocks fun k hk=>by
       have h1:=HP.out.of_lt hk
       rw[HB3.out.block k (by have:=HSz.out;omega),HK3.out.block k (by have:=HSz.out;omega) (by show k≠w.heap.size;omega),HBW.out.block k h1]
      have hX3:InsAt w3 w.heap.size { op:=op}:=(HB3.out.block _ (by have:=HSz.out;omega)).trans HX3.out
      have HKw:=Lib.hid hKw
      have hX0: ¬OfP R vc vl vn vw w.heap.size:=fun h=>by have:=HP.out.of_lt h;omega
      have HX0:=Lib.hid hX0
      have H0:Hid (ROpTo w3 R rb w.heap.size ln vc vl vn vw st (kindsL op) ws yF lF 0 w3):=Lib.hid ⟨_,[],lF,vw,HOpd.out,rfl,Nat.le_refl _,by simpa using hP3,hX3,Keeps.refl _ _,fun k h=>Or.inl h⟩
      clear hKw hP3 hX3 hX0
      go_wp2_with fail
      go_loopw [13] (fun cv wq=> ∃j:Nat,j≤q∧cv= .int .i64 j∧Hid (ROpTo w3 R rb w.heap.size ln vc vl vn vw st (kindsL op) ws yF lF j wq)) (fun cv _=>q - (intOf cv).toNat)
      case atStart=>exact ⟨0,by omega,rfl,H0⟩
      case round=>
       obtain ⟨j,hj,rfl,HT⟩:=hrel
       have hjI:(j:Int)≤(q:Int):=by omega
       by_cases hlt2:j<q
       ·have hltI:(j:Int)<(q:Int):=by omega
        obtain ⟨y,l,lr,vw',h1,h2,h3,h4,h5,h6,h7⟩:=HT.out
        have hjk:j<(kindsL op).length:=by rw[←HQ.out];exact hlt2
        obtain ⟨hjw,y',o2,lr',s1,s2,s3⟩:=opds_step h1 hjk
        obtain ⟨S,hS⟩: ∃S:ByteArray,S=⟨(ws[j]).toArray⟩:=⟨_,rfl⟩
        have hSl:S.data.toList=ws[j]:=by rw[hS]
        have hjn:j<n:=by rw[HNl.out];exact hjw
        have hjnI:(j:Int)<(n:Int):=by omega
        have hoffg: ¬(g=w.heap.size∨OfP R vc vl vn vw g):=by
         rintro (e|e)
         ·omega
         ·exact HG.out e
        have cW:(wr.drew).cell? ⟨g,j+1,none⟩=some (.string S):=(h6.drew.cell (p:=⟨g,j+1,none⟩) (by have:=HSz.out;show g<w3.heap.size;omega) hoffg).trans (by rw[Nat.add_comm j 1,hW3.out j hjw,hS];rfl)
        obtain ⟨go,co',eo,go1,go2,go3,goc,_⟩:=own_at HRow.out (by omega)
        injection eo with eo1 eo2 eo3
        subst eo1
        subst eo3
        have hko:((kindsL op).map rkind).map (fun k=>(Value.int .i64 k))=((kindsL op).map rkind).map (fun k=>(Value.int .i64 k)):=rfl
        have cK:(wr.drew).cell? ⟨go,j,none⟩=some (.int .i64 (rkind (kindsL op)[j])):=(h6.drew.cell (p:=⟨go,j,none⟩) go2 (by
         have:=HSz.out
         rintro (e|e)
         ·have e':go=w.heap.size:=e
          omega
         ·have:=HP.out.of_lt e
          have e':go<w.heap.size:=this
          omega)).trans ((goc j (by omega)).trans (by simp[hjk]))
        have HOC:=Lib.hid (ropd_any (w:=wr.drew) (h4.of_blocks fun _ _=>rfl) (by have:=h6.size;have:=HSz.out;show rb≤wr.heap.size;omega) (by
         intro h
         rcases of_ofP h7 h with h|h
         ·exact HX0.out h
         ·have:=HSz.out;omega) (X:=w.heap.size) (x:=y) h5 S (by rw[←len_list,hSl];exact HWs.out _ (List.getElem_mem _)) (kindsL op)[j] (kinds_range op _ (List.getElem_mem _)) (y:=y') (o:=o2) (by rw[hSl];exact s1) (by have:=HCn.out;show st.code.length≤100000;omega) (by have:=HWll.out;simp;omega))
        have HNx:Hid (∀e w',ROpdOut wr.drew R rb vc vl vn vw' { st with wants:=st.wants++l.map (fun t=>(st.code.length,ln,t))} ln w.heap.size y' o2 e w'→e= .returned (.pointer none)∧ROpTo w3 R rb w.heap.size ln vc vl vn vw st (kindsL op) ws yF lF (j+1) w'):=Lib.hid (fun e w' h=>ropTo_step h3 h6.drew h7 s2 (by rw[h2,s3]) h)
        have hwr:IntKind.i64.wrap ((j:Int)+1)=(j:Int)+1:=IntWalk.i64_in _ (by omega)
        have hwb:(j:Int)+1<(n:Int)+1:=by omega
        have hw0:(0:Int)≤(j:Int)+1:=by omega
        have hwt:((j:Int)+1).toNat=j+1:=by omega
        clear h1 h2 h3 h4 h5 h6 h7 s1 s2 s3 hSl hS hjw HT hoffg goc hko eo2
        generalize rkind (kindsL op)[j]=kj at cK HOC
        clear hjk
        go_wp2_with fail
        go_still_tail 10,(by kernel_rfl)
        change wpList _ _ _ _ _ wr.drew
        generalize wr.drew=wd at cK cW HOC HNx ⊢
        go_wp2_with fail
        refine HOC.out.mono ?_
        intro e w' hout
        obtain ⟨he,HT2⟩:=HNx.out e w' hout
        exact m109
       ·obtain rfl:j=q:=by omega
        have HTo:=Lib.hid (rinsTo_of HT.out HQ.out)
        clear HT
        go_upto_if 154 with fail
        go_cut [15] (fun _ wx=>Hid (RInsTo w3 R rb w.heap.size ln vc vl vn vw st z lF wx))
        case first=>
         rcases HMk2.out with ⟨rfl,hn,hz⟩ |⟨rfl,hn,r,hr,hm⟩
         ·have HZ:=Lib.hid hz
          clear hn hz HMk2
          go_wp2_with fail
          go_meet
          rw[←HZ.out]
          exact HTo
         ·have hqw:j<ws.length:=by rw[←HNl.out];omega
          obtain ⟨S,hS⟩: ∃S:ByteArray,S=⟨(33::r).toArray⟩:=⟨_,rfl⟩
          have hSl:S.data.toList=33::r:=by rw[hS]
          obtain ⟨vw',h4,h5,h6,h7⟩:=HTo.out
          have hoffg: ¬(g=w.heap.size∨OfP R vc vl vn vw g):=by
           rintro (e|e)
           ·omega
           ·exact HG.out e
          have cW:wr.cell? ⟨g,n,none⟩=some (.string S):=(h6.cell (p:=⟨g,n,none⟩) (by have:=HSz.out;show g<w3.heap.size;omega) hoffg).trans (by
           rw[hn,Nat.add_comm j 1,hW3.out j hqw]
           rw[List.getElem?_eq_getElem hqw] at hr
           rw[Option.some.inj hr,hS];rfl)
          have hXl:w.heap.size<w3.heap.size:=by have:=HSz.out;omega
          have HMC:=Lib.hid (rmark_any R w.heap.size yF z S ln wr (fun e=>by have:=HP.out.lt;omega) h4.cell.2.2.2.2.1 h5 (by rw[hSl];exact hm) (by
           rw[←len_list,hSl]
           rw[List.getElem?_eq_getElem hqw] at hr
           have:=HWs.out _ (List.getElem_mem hqw)
           rw[Option.some.inj hr] at this
           omega))
          clear hn hr hm hS hSl h4 h5 h6 h7 hqw HMk2 hoffg
          go_wp2_with fail
          refine HMC.out.mono ?_
          rintro e w' ⟨rfl,hz,hk⟩
          have HZ:=Lib.hid (rinsTo_mark HTo.out hXl HX0.out hz hk)
          clear hz hk
          go_wp2_with fail
          go_meet
          exact HZ
        case rest=>
         exact m111
end Go.Proofs.YtaangaogmnlljaaGreatDoor.Asm
