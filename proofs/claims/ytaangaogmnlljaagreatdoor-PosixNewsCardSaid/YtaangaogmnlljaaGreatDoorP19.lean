/- Part 19 of what the proof stands on: AsmLine. -/
import Derived.Test.YtaangaogmnlljaaGreatDoorP07
import Derived.Test.YtaangaogmnlljaaGreatDoorP10
set_option linter.unusedVariables false
set_option maxRecDepth 100000
set_option maxHeartbeats 40000000
namespace Go.Proofs.YtaangaogmnlljaaGreatDoor.Asm
open Go.RowKit Go.Maps
theorem str_at {w:World} {B:Nat} {v:Value} {D:List Str} (h:StrRow w B v D) (h0:0<D.length): ∃g c,v= .slice (some ⟨g,0,none⟩) D.length c∧B≤g∧g<w.heap.size∧D.length≤c∧ ∀k (hk:k<D.length),w.cell? ⟨g,k,none⟩=some (strV D[k]):=by
 have h':w.ownsRow B 9 1 v D.length (D.map strV):=h
 rcases h'.2 with ⟨_,h2⟩ |⟨g,cap,cur,hv,hg,hh,hn,_⟩
 ·omega
 ·rw[hv] at h'
  refine ⟨g,cap,hv,hg,(h'.lt g rfl).2,hn,fun k hk=>?_⟩
  have:=h'.cellAt k (by omega)
  rw[List.getElem?_map,List.getElem?_eq_getElem hk] at this
  exact this
theorem a38.q104 {P:Prop} (h:P:=by
 obtain ⟨A,c,hv⟩:=own_shape hr
 subst hv
 clear hr
 simp only[List.length_nil]
 go_wp2
 go_ret
 exact ⟨rfl,hb⟩):P:=h
open a38 in
set_option maxRecDepth 100000 in
theorem line_skip (R:Nat) (s:ByteArray) (i:Nat) (w:World) (hs:s.size≤100000) (hsemi: ∀c∈s.data.toList,c≠59) (h:wordsL s.data.toList= []):
  Calls Tryz.prog 147 #[.pointer (some ⟨R,0,none⟩), .string s, .int .i64 i] w fun e w'=>e= .returned .nilIface∧Below w.heap.size w w':=by
 have HW:=Lib.hid (words_any s w hs hsemi)
 have HN:=Lib.hid h
 clear hs hsemi h
 exact m104
def LineOut (w:World) (R mb rb:Nat) (vc vl vn vw:Value) (st':St) (e:Ending) (w':World):Prop:=
 e= .returned .nilIface∧ ∃vc' vl' vn' vw',Rd w' R mb rb vc' vl' vn' vw' st'∧Keeps (OfR R mb vc vl vn vw) w w'∧ ∀k,OfR R mb vc' vl' vn' vw' k→OfR R mb vc vl vn vw k∨w.heap.size≤k
theorem kinds_of (k0 k1 k2:Int) {l:List Int} (h: [k0,k1,k2].takeWhile (fun k=>decide (k≠0))=l):l.length≤3∧(∀j (hj:j<l.length),l[j]= [k0,k1,k2].getD j 0∧l[j]≠0)∧(l.length<3→ [k0,k1,k2].getD l.length 0=0):=by
 subst h
 by_cases h0:k0=0
 ·simp[h0]
 ·by_cases h1:k1=0
  ·simp[h0,h1]
  ·by_cases h2:k2=0
   ·simp[h0,h1,h2]
    intro j hj
    match j,hj with
    |0,_=>exact ⟨rfl,h0⟩
    |1,_=>exact ⟨rfl,h1⟩
   ·simp[h0,h1,h2]
    intro j hj
    match j,hj with
    |0,_=>exact ⟨rfl,h0⟩
    |1,_=>exact ⟨rfl,h1⟩
    |2,_=>exact ⟨rfl,h2⟩
theorem opds_step {y yF:InsL} {ks:List Int} {ws:List Str} {lr:List Str} {j:Nat} (h:operandsL y (ks.drop j) (ws.drop j)=some (yF,lr)) (hj:j<ks.length):
  ∃(hw:j<ws.length) (y':InsL) (o:Option Str) (lr':List Str),operandL y ks[j] ws[j]=some (y',o)∧operandsL y' (ks.drop (j+1)) (ws.drop (j+1))=some (yF,lr')∧lr=o.toList++lr':=by
 rw[List.drop_eq_getElem_cons hj] at h
 by_cases hw:j<ws.length
 ·rw[List.drop_eq_getElem_cons hw] at h
  simp only[operandsL] at h
  cases ho:operandL y ks[j] ws[j] with
  |none=>rw[ho] at h;cases h
  |some p=>
   obtain ⟨y',o⟩:=p
   rw[ho] at h
   obtain ⟨⟨y2,l2⟩,h2,e⟩:=Option.map_eq_some_iff.1 h
   injection e with e1 e2
   subst e1
   exact ⟨hw,y',o,l2,ho,h2,e2.symm⟩
 ·have e:ws.drop j= []:=List.drop_of_length_le (by omega)
  rw[e] at h
  have h2:(none:Option (InsL×List Str))=some (yF,lr):=h
  cases h2
theorem mem_ite {p:Prop} [Decidable p] {a b:List Int} {k:Int} (h:k∈if p then a else b):k∈a∨k∈b:=by
 split at h
 ·exact Or.inl h
 ·exact Or.inr h
theorem kinds_range (op:Int): ∀k∈kindsL op,1≤k∧k≤9:=by
 intro k hk
 unfold kindsL at hk
 repeat (rcases mem_ite hk with hk|hk;·simp at hk;omega)
 simp at hk
def OpTo (W5:World) (R mb rb X i:Nat) (vc vl vn vw:Value) (st:St) (ks:List Int) (ws:List Str) (yF:InsL) (lF:List Str) (j:Nat) (wr:World):Prop:=
 ∃y l lr vw',operandsL y (ks.drop j) (ws.drop j)=some (yF,lr)∧lF=l++lr∧l.length≤j∧Rd wr R mb rb vc vl vn vw' { st with wants:=st.wants++l.map (fun t=>(st.code.length,i,t))}∧InsAt wr X y∧Keeps (fun k=>k=X∨OfR R mb vc vl vn vw k) W5 wr∧(∀k,vw'.ownBlock=some k→vw.ownBlock=some k∨W5.heap.size≤k)
section
variable {W5 wr w':World} {R mb rb X i:Nat} {vc vl vn vw vw':Value} {st:St} {ks:List Int} {ws:List Str} {yF y':InsL} {lF l lr':List Str} {o:Option Str} {j:Nat} {e:Ending}
theorem of_of (ho: ∀k,vw'.ownBlock=some k→vw.ownBlock=some k∨W5.heap.size≤k) {k:Nat} (h:OfR R mb vc vl vn vw' k):OfR R mb vc vl vn vw k∨W5.heap.size≤k:=by
 rcases h with h|h|h|h|h|h
 ·exact Or.inl (Or.inl h)
 ·exact Or.inl (Or.inr (Or.inl h))
 ·exact Or.inl (Or.inr (Or.inr (Or.inl h)))
 ·exact Or.inl (Or.inr (Or.inr (Or.inr (Or.inl h))))
 ·exact Or.inl (Or.inr (Or.inr (Or.inr (Or.inr (Or.inl h)))))
 ·rcases ho k h with h|h
  ·exact Or.inl (Or.inr (Or.inr (Or.inr (Or.inr (Or.inr h)))))
  ·exact Or.inr h
theorem opTo_step (hl:l.length≤j) (hk:Keeps (fun k=>k=X∨OfR R mb vc vl vn vw k) W5 wr) (ho: ∀k,vw'.ownBlock=some k→vw.ownBlock=some k∨W5.heap.size≤k) (h2:operandsL y' (ks.drop (j+1)) (ws.drop (j+1))=some (yF,lr')) (hF:lF=l++(o.toList++lr'))
  (h:OpdOut wr R mb rb vc vl vn vw' { st with wants:=st.wants++l.map (fun t=>(st.code.length,i,t))} X y' o i e w'):e= .returned .nilIface∧OpTo W5 R mb rb X i vc vl vn vw st ks ws yF lF (j+1) w':=by
 obtain ⟨he,hy,vw2,hr,hk2,ho2⟩:=h
 refine ⟨he,y',l++o.toList,lr',vw2,h2,by rw[hF,List.append_assoc],?_,?_,hy,?_,?_⟩
 ·have:o.toList.length≤1:=by cases o<;>simp
  simp;omega
 ·have e2:st.wants++(l++o.toList).map (fun t=>(st.code.length,i,t))=(st.wants++l.map (fun t=>(st.code.length,i,t)))++o.toList.map (fun t=>(st.code.length,i,t)):=by rw[List.map_append,List.append_assoc]
  rw[e2]
  exact hr
 ·refine hk.trans hk2 fun k hh=>?_
  rcases hh with hh|hh
  ·exact Or.inl (Or.inl hh)
  ·rcases of_of ho hh with hh|hh
   ·exact Or.inl (Or.inr hh)
   ·exact Or.inr hh
 ·intro k hh
  rcases ho2 k hh with hh|hh
  ·exact ho k hh
  ·exact Or.inr (Nat.le_trans hk.size hh)
end
def InsTo (W5:World) (R mb rb X i:Nat) (vc vl vn vw:Value) (st:St) (z:InsL) (lF:List Str) (wr:World):Prop:=
 ∃vw',Rd wr R mb rb vc vl vn vw' { st with wants:=st.wants++lF.map (fun t=>(st.code.length,i,t))}∧InsAt wr X z∧Keeps (fun k=>k=X∨OfR R mb vc vl vn vw k) W5 wr∧(∀k,vw'.ownBlock=some k→vw.ownBlock=some k∨W5.heap.size≤k)
section
variable {W5 wr w':World} {R mb rb X i:Nat} {vc vl vn vw vw':Value} {st:St} {ks:List Int} {ws:List Str} {yF z:InsL} {lF:List Str} {q:Nat}
theorem insTo_of (h:OpTo W5 R mb rb X i vc vl vn vw st ks ws yF lF q wr) (hq:q=ks.length):InsTo W5 R mb rb X i vc vl vn vw st yF lF wr:=by
 exact m80
theorem insTo_mark (h:InsTo W5 R mb rb X i vc vl vn vw st yF lF wr) (hX:X<W5.heap.size) (hXn: ¬OfR R mb vc vl vn vw X) (hz:InsAt w' X z) (hk:Keeps (fun i=>i=X) wr w'):InsTo W5 R mb rb X i vc vl vn vw st z lF w':=by
 obtain ⟨vw',h4,h5,h6,h7⟩:=h
 refine ⟨vw',h4.keeps hk fun k hk' e=>?_,hz,h6.trans (hk.mono (fun k e=>Or.inl e)) (fun k e=>Or.inl e),h7⟩
 subst e
 rcases of_of h7 hk' with h|h
 ·exact hXn h
 ·omega
end
theorem infoIns:(Tryz.prog.info? 68).map (fun i=>(i.zero,i.size,i.bytes))=some (some (.agg #[.int .i64 0, .int .i64 0, .int .i64 0, .int .i64 0, .int .u64 0, .int .i64 0, .int .i64 0]),7,56):=by kernel_rfl
theorem codeC_snoc (l:List InsL) (x:InsL):codeC (l++ [x])=codeC l++insC x:=by simp[codeC]
theorem a39.q29 {P:Prop} (h:P:=by
 have M1:=Lib.hid (show st.code.length+1≤maxLen by unfold maxLen;omega)
 have M2:=Lib.hid (show (st.code.length+1)*56≤140737488355328 by omega)
 have M3:=Lib.hid (show rb≤(((wc.alloc (.cells #[.int .i64 z.op, .int .i64 z.a, .int .i64 z.b, .int .i64 z.c, .int .u64 z.v, .int .i64 z.m, .int .i64 z.w] 68)).drew)).heap.size by
  have e1:=h6.size
  have e2:=HSz.out
  show rb≤(wc.alloc _).heap.size;simp;omega)
 have HV:Hid (some R≠(Value.slice Ac st.code.length cc).ownBlock):=Lib.hid (own_ne h4.code h4.tagR (by decide))
 have HFin:Hid (∀v' w2,w2.ownsRow rb 68 7 v' (st.code.length+1) (codeC st.code++ [.int .i64 z.op, .int .i64 z.a, .int .i64 z.b, .int .i64 z.c, .int .u64 z.v, .int .i64 z.m, .int .i64 z.w])→(((wc.alloc (.cells #[.int .i64 z.op, .int .i64 z.a, .int .i64 z.b, .int .i64 z.c, .int .u64 z.v, .int .i64 z.m, .int .i64 z.w] 68)).drew)).grownBy w2 (Value.slice Ac st.code.length cc).ownBlock→(v'.ownBlock=(Value.slice Ac st.code.length cc).ownBlock∨v'.ownBlock=some (((wc.alloc (.cells #[.int .i64 z.op, .int .i64 z.a, .int .i64 z.b, .int .i64 z.c, .int .u64 z.v, .int .i64 z.m, .int .i64 z.w] 68)).drew)).heap.size)→
   LineOut w R mb rb (.slice Ac st.code.length cc) vl vn vw { st with code:=st.code++ [z],wants:=st.wants++lF.map (fun t=>(st.code.length,i,t))} (.returned .nilIface) (w2.setCell ⟨R,0,none⟩ v')):=Lib.hid (fun v' w2 hr hg hnew=>by
  have hr2:w2.ownsRow rb 68 7 v' (st.code++ [z]).length (codeC (st.code++ [z])):=by
   rw[codeC_snoc,List.length_append];exact hr
  have hadd:=h0.add_code z hg hr2
  have hK2:Keeps (OfR R mb (.slice Ac st.code.length cc) vl vn vw) w (w2.setCell ⟨R,0,none⟩ v'):=(K0.grown hg (fun k e=>Or.inr (Or.inr (Or.inl e)))).setCell (p:=⟨R,0,none⟩) (Or.inl rfl) _
  refine ⟨rfl,v',vl,vn,vw',hadd,hK2,fun k hk=>?_⟩
  have hw5:=HWb.out.size
  rcases hk with e|e|e|e|e|e
  ·exact Or.inl (Or.inl e)
  ·exact Or.inl (Or.inr (Or.inl e))
  ·rcases hnew with e2|e2
   ·exact Or.inl (Or.inr (Or.inr (Or.inl (e2▸e))))
   ·right
    rw[e2] at e
    have h2:(wc.alloc (.cells #[.int .i64 z.op, .int .i64 z.a, .int .i64 z.b, .int .i64 z.c, .int .u64 z.v, .int .i64 z.m, .int .i64 z.w] 68)).heap.size=k:=Option.some.inj e
    have e1:=h6.size
    simp at h2
    omega
  ·exact Or.inl (Or.inr (Or.inr (Or.inr (Or.inl e))))
  ·exact Or.inl (Or.inr (Or.inr (Or.inr (Or.inr (Or.inl e)))))
  ·rcases h7 k e with e|e
   ·exact Or.inl (Or.inr (Or.inr (Or.inr (Or.inr (Or.inr e)))))
   ·exact Or.inr (by omega))
 have HC2:Hid (∀w2:World,(((wc.alloc (.cells #[.int .i64 z.op, .int .i64 z.a, .int .i64 z.b, .int .i64 z.c, .int .u64 z.v, .int .i64 z.m, .int .i64 z.w] 68)).drew)).grownBy w2 (Value.slice Ac st.code.length cc).ownBlock→w2.cell? ⟨R,0,none⟩=some (.slice Ac st.code.length cc)∧w2.frozen? ⟨R,0,none⟩=false):=Lib.hid (fun w2 hg=>by
  have hb:=hg.block R h0.lt HV.out
  exact ⟨(World.cell?_of_block (a:=⟨R,0,none⟩) hb).trans h0.cell.1,(World.frozen?_of_block (a:=⟨R,0,none⟩) hb).trans (h0.cell.2.2.2.2.2 0)⟩)
 generalize hy:st.code.length=y at r0 E0 M1 M2 HV HFin HC2
 have HYy:=Lib.hid hy
 clear hy
 clear h4 h5 h6 h7 h0 K0 hcut HMk4 HMk5 hcn hwl
 go_wp2_with fail
 go_region_law (first|(refine step_append_own _ rfl (.tmp 191) (.tmp 193) 24 rfl rb 68 iw _ 7 56 Tryz.underlying24 hiw hzw hsw hbw rfl (by decide) (.slice Ac y cc) y (codeC st.code) (by simp[Act.eval]) E0.out ⟨wc.heap.size,0,none⟩ 1 1 [.int .i64 z.op, .int .i64 z.a, .int .i64 z.b, .int .i64 z.c, .int .u64 z.v, .int .i64 z.m, .int .i64 z.w] (by simp[Act.eval]) rfl N1.out O1.out M1.out M2.out M3.out ?_;intro v' w2 hown' hgrow hnew;obtain ⟨A',c',rfl⟩:=own_shape hown';have tt:=HC2.out w2 hgrow;have t0:=tt.1;have t1:=tt.2;have HF:=Lib.hid (HFin.out _ _ hown' hgrow hnew);clear hown' hgrow hnew tt))
 all_goals
  go_wp2
  go_ret
  have ey:=HYy.out
  subst ey
  exact HF.out):P:=h
theorem a39.q104 {P:Prop} (h:P:=by
 obtain ⟨g,cap,rfl,hg1,hg2,hcap,hc⟩:=str_at hr (by simp)
 have HB:=Lib.hid hb
 have HC:=Lib.hid hc
 simp only[List.length_cons,←hn] at hcap ⊢
 exact m117):P:=h
theorem a39.q111 {P:Prop} (h:P:=by
 have h0:Rd ((wc.alloc (.cells #[.int .i64 z.op, .int .i64 z.a, .int .i64 z.b, .int .i64 z.c, .int .u64 z.v, .int .i64 z.m, .int .i64 z.w] 68)).drew) R mb rb (.slice Ac st.code.length cc) vl vn vw' { st with wants:=st.wants++lF.map (fun t=>(st.code.length,i,t))}:=(h4.below ((Below.refl _ _).alloc (Nat.le_refl _) _)).of_blocks fun _ _=>rfl
 have K0:Keeps (OfR R mb (.slice Ac st.code.length cc) vl vn vw) w ((wc.alloc (.cells #[.int .i64 z.op, .int .i64 z.a, .int .i64 z.b, .int .i64 z.c, .int .u64 z.v, .int .i64 z.m, .int .i64 z.w] 68)).drew):=(((Keeps.ofBelow HWb.out).trans h6 (fun k hh=>hh.elim (fun e=>Or.inr (by have:=HSz.out;omega)) Or.inl)).alloc _).drew
 exact m29):P:=h
theorem a39.q117 {P:Prop} (h:P:=by
 have hzI:(W0.size:Int)≤100000:=by omega
 have hzI1:(1:Int)≤(W0.size:Int):=by omega
 have hcapI:n+1≤cap:=hcap
 have hne0:((n:Int)+1==0)=false:=beq_eq_false_iff_ne.2 (by omega)
 have hl:W0.size - 1<W0.size:=by omega
 have HFst:Hid (((n:Int)+1==1)=false∨(((n:Int)+1==1)=true∧(((W0[W0.size - 1]'hl).toNat:Int)==58)=false)):=Lib.hid (by
  rcases hnn with hz|⟨hz,hch⟩
  ·exact Or.inl (beq_eq_false_iff_ne.2 (by omega))
  ·refine Or.inr ⟨beq_iff_eq.2 (by omega),?_⟩
   rw[beq_eq_false_iff_ne]
   intro e
   have e2:=(eq_byte _ 58).1 e
   have hl2:w0.length - 1<w0.length:=by omega
   refine hch hl2 ?_
   have h3:=at_list W0 (W0.size - 1) hl
   rw[e2] at h3
   rw[hz0] at h3
   have h4:W0.data.toList=w0:=by rw[hW0]
   rw[h4,List.getElem?_eq_getElem hl2] at h3
   exact Option.some.inj h3)
 have hWl:W0.data.toList=w0:=by rw[hW0]
 have HOpC:=Lib.hid (op_any W0 w2)
 rw[hWl] at HOpC
 have HNl:=Lib.hid hn
 clear hr hb hc c0 hnn hz0 hW0 hn hWl
 go_upto_region 5 with fail
 go_cut [37] (fun cc wx=>cc= .bool false∧w2=wx)
 case first=>
  rcases HFst.out with t1|⟨t1,t2⟩
  ·go_wp2_with fail
   go_meet
   exact ⟨rfl,rfl⟩
  ·go_wp2_with fail
   go_meet
   exact ⟨rfl,rfl⟩
 case rest=>
  obtain ⟨rfl,rfl⟩:=hcut
  go_wp2_with fail
  refine HOpC.out.mono ?_
  rintro e w3 ⟨rfl,rfl⟩
  generalize opL w0=op at hop hop2 HOp HOpC HMk HOpd ⊢
  have hopb:(op==0)=false:=beq_eq_false_iff_ne.2 HOp.out
  have HHop:=Lib.hid hop2
  clear hop hop2
  go_upto_region 16 with fail
  go_cut [7] (fun v wx=>(∃o c,v= .slice (some ⟨g,o,none⟩) n c∧(0<n→o=1))∧w2.alloc (.cells #[.int .i64 op, .int .i64 0, .int .i64 0, .int .i64 0, .int .u64 0, .int .i64 0, .int .i64 0] 68)=wx)
  case first=>
   go_wp2_with fail
   all_goals
    go_meet
    first
     |exact ⟨⟨_,_,rfl,fun _=>rfl⟩,rfl⟩
     |exact ⟨⟨_,_,rfl,fun h=>by omega⟩,rfl⟩
  case rest=>
   obtain ⟨⟨o,c,rfl,ho⟩,hwc⟩:=hcut
   subst hwc
   obtain ⟨k0,k1,k2,Hops,hks⟩:=operands_any op HHop.out.1 HHop.out.2 (w2.alloc (.cells #[.int .i64 op, .int .i64 0, .int .i64 0, .int .i64 0, .int .u64 0, .int .i64 0, .int .i64 0] 68))
   have HOps:=Lib.hid Hops
   obtain ⟨q,hq⟩: ∃q,q=(kindsL op).length:=⟨_,rfl⟩
   obtain ⟨q1,q2,q3⟩:=kinds_of k0 k1 k2 hks
   rw[←hq] at q1 q3
   have HKs:=Lib.hid q2
   have HK3:=Lib.hid q3
   have HQ:=Lib.hid hq
   have hqI:(q:Int)≤3:=by omega
   have hI3:InsAt (w2.alloc (.cells #[.int .i64 op, .int .i64 0, .int .i64 0, .int .i64 0, .int .u64 0, .int .i64 0, .int .i64 0] 68)) w2.heap.size { op:=op}:=by
    have:=heap_alloc_new w2 (.cells #[.int .i64 op, .int .i64 0, .int .i64 0, .int .i64 0, .int .u64 0, .int .i64 0, .int .i64 0] 68)
    simpa[InsAt,insV] using this
   have HI3:=Lib.hid hI3
   clear Hops hks hq q2 q3 hI3
   go_wp2_with fail
   refine HOps.out.mono ?_
   rintro e w4 ⟨rfl,hb4⟩
   have HB4:=Lib.hid hb4
   clear hb4
   obtain ⟨kk,hkk⟩: ∃kk:Nat→Int,kk=fun j=> [k0,k1,k2].getD j 0:=⟨_,rfl⟩
   have hY: ∀j,j<3→(w4.alloc (.cells #[.int .i64 k0, .int .i64 k1, .int .i64 k2] 431)).cell? ⟨w4.heap.size,j,none⟩=some (.int .i64 (kk j)):=by
    intro j hj
    rw[hkk]
    match j,hj with
    |0,_=>exact World.cell?_alloc_at _ _ _ _ rfl
    |1,_=>exact World.cell?_alloc_at _ _ _ _ rfl
    |2,_=>exact World.cell?_alloc_at _ _ _ _ rfl
   have HY:=Lib.hid hY
   have HKk:Hid ((∀j (hj:j<(kindsL op).length),(kindsL op)[j]=kk j∧kk j≠0)∧(q<3→kk q=0)):=Lib.hid ⟨fun j hj=>by
    obtain ⟨e1,e2⟩:=HKs.out j hj
    rw[hkk]
    exact ⟨e1,fun e=>e2 (e1.trans e)⟩,fun h=>by rw[hkk];exact HK3.out h⟩
   clear hY hkk HKs HK3
   go_upto_block 0 with fail
   go_cut [13] (fun nv wx=>nv= .int .i64 (q:Int)∧w4.alloc (.cells #[.int .i64 k0, .int .i64 k1, .int .i64 k2] 431)=wx)
   case first=>
    go_wp2_with fail
    go_loop [13] (fun nv=> ∃j:Nat,j≤q∧nv= .int .i64 j) (fun nv=>q - (intOf nv).toNat)
    case atStart=>exact ⟨0,by omega,rfl⟩
    case round=>
     obtain ⟨j,hj,rfl⟩:=hrel
     have hjI:(j:Int)≤(q:Int):=by omega
     have hj0:(0:Int)≤(j:Int):=by omega
     by_cases hlt:j<q
     ·have hltI:(j:Int)<(q:Int):=by omega
      have t1:decide ((j:Int)<3)=true:=decide_eq_true (by omega)
      have cY:=HY.out j (by omega)
      have t2:(kk j !=0)=true:=by rw[bne_iff_ne];exact (HKk.out.1 j (by rw[←HQ.out];exact hlt)).2
      generalize kk j=x at cY t2
      go_wp2
      go_round
      case rel=>exact ⟨j+1,by omega,by go_num⟩
      case measure=>simp[intOf];omega
     ·obtain rfl:j=q:=by omega
      by_cases h3:j<3
      ·have h3I:(j:Int)<3:=by omega
       have t1:decide ((j:Int)<3)=true:=decide_eq_true h3I
       have cY:=HY.out j h3
       have t2:(kk j !=0)=false:=by rw[bne_eq_false_iff_eq];exact HKk.out.2 h3
       generalize kk j=x at cY t2
       go_wp2_with fail
       go_meet
       exact ⟨rfl,rfl⟩
      ·have t1:decide ((j:Int)<3)=false:=decide_eq_false (by omega)
       go_wp2_with fail
       go_meet
       exact ⟨rfl,rfl⟩
   case rest=>
    obtain ⟨rfl,hwc⟩:=hcut
    subst hwc
    have HCw:Hid (∀k (hk:k<ws.length),(w4.alloc (.cells #[.int .i64 k0, .int .i64 k1, .int .i64 k2] 431)).cell? ⟨g,1+k,none⟩=some (strV ws[k])):=Lib.hid (fun k hk=>by
     have h1:=HC.out (k+1) (by simp;omega)
     have hb1:Below w2.heap.size w2 (w4.alloc (.cells #[.int .i64 k0, .int .i64 k1, .int .i64 k2] 431)):=(((Below.refl _ w2).alloc (Nat.le_refl _) _).trans (HB4.out.mono (by simp))).alloc (by have:=HB4.out.size;simp at this;omega) _
     rw[Nat.add_comm 1 k]
     exact (hb1.cell (p:=⟨g,k+1,none⟩) hg2).trans h1)
    have HHo:=Lib.hid ho
    have HFst2:Hid (((n:Int) !=(q:Int))=false∨(((n:Int) !=(q:Int))=true∧((n:Int) !=(q:Int)+1)=false∧ ∃r,(w4.alloc (.cells #[.int .i64 k0, .int .i64 k1, .int .i64 k2] 431)).cell? ⟨g,o+q,none⟩=some (strV (33::r))∧(q:Int)<(n:Int))):=Lib.hid (by
     have e1:=HNl.out
     have e2:=HQ.out
     rcases HMk.out with ⟨h,_⟩ |⟨h,r,hr,_⟩
     ·left
      rw[bne_eq_false_iff_eq];omega
     ·right
      rw[←e2] at hr
      have hlt:q<ws.length:=by omega
      refine ⟨by rw[bne_iff_ne];omega,by rw[bne_eq_false_iff_eq];omega,r,?_,by omega⟩
      rw[HHo.out (by omega)]
      rw[HCw.out q hlt]
      rw[List.getElem?_eq_getElem hlt] at hr
      rw[Option.some.inj hr])
    clear ho
    go_upto_region 21 with fail
    go_cut [152] (fun cc wx=>cc= .bool false∧(w4.alloc (.cells #[.int .i64 k0, .int .i64 k1, .int .i64 k2] 431))=wx)
    case first=>
     rcases HFst2.out with t1|⟨t1,t2,r,cr,hqn⟩
     ·go_wp2_with fail
      go_meet
      exact ⟨rfl,rfl⟩
     ·have hq0:(0:Int)≤(q:Int):=by omega
      obtain ⟨S,hS⟩: ∃S:ByteArray,S=⟨(33::r).toArray⟩:=⟨_,rfl⟩
      have hSz:0<S.size:=by rw[hS];exact Nat.succ_pos _
      have t3:(((S[0]'hSz).toNat:Int) !=33)=false:=by
       rw[bne_eq_false_iff_eq]
       exact m121
      have cr':(w4.alloc (.cells #[.int .i64 k0, .int .i64 k1, .int .i64 k2] 431)).cell? ⟨g,o+q,none⟩=some (.string S):=by rw[hS];exact cr
      clear cr hS
      go_wp2_with fail
      go_meet
      exact ⟨rfl,rfl⟩
    case rest=>
     obtain ⟨rfl,hwc⟩:=hcut
     subst hwc
     have HRl:=Lib.hid HRd.out.lt
     have HX0:Hid (¬OfR R mb vc vl vn vw w2.heap.size):=Lib.hid (fun h=>by
      have h1:=HRd.out.of_lt h
      have h2:=HB.out.size
      omega)
     have HWb:Hid (Below w.heap.size w (w4.alloc (.cells #[.int .i64 k0, .int .i64 k1, .int .i64 k2] 431))):=Lib.hid (by
      have h1:=HB.out.size
      have h2:=HB4.out.size
      simp at h2
      exact ((HB.out.alloc h1 _).trans (HB4.out.mono (by simp;omega))).alloc (by omega) _)
     have HSz:Hid (w.heap.size≤g∧g<w2.heap.size∧w2.heap.size<w4.heap.size∧w4.heap.size<(w4.alloc (.cells #[.int .i64 k0, .int .i64 k1, .int .i64 k2] 431)).heap.size):=Lib.hid (by
      have h1:=HB.out.size
      have h2:=HB4.out.size
      simp at h2
      exact ⟨hg1,hg2,by omega,by simp⟩)
     have HI5:Hid (InsAt (w4.alloc (.cells #[.int .i64 k0, .int .i64 k1, .int .i64 k2] 431)) w2.heap.size { op:=op}):=Lib.hid (by
      have h2:=HSz.out.2.2.1
      have hb1:Below (w2.heap.size+1) (w2.alloc (.cells #[.int .i64 op, .int .i64 0, .int .i64 0, .int .i64 0, .int .u64 0, .int .i64 0, .int .i64 0] 68)) (w4.alloc (.cells #[.int .i64 k0, .int .i64 k1, .int .i64 k2] 431)):=(HB4.out.mono (by simp)).alloc (by omega) _
      exact (hb1.block _ (by omega)).trans HI3.out)
     clear HB HB4 HI3 HOp HOpC HW HOps
     generalize hW5:w4.alloc (.cells #[.int .i64 k0, .int .i64 k1, .int .i64 k2] 431)=W5 at HY HCw HFst2 HWb HSz HI5 ⊢
     generalize w4.heap.size=Y at HY HSz ⊢
     generalize w2.heap.size=X at HX0 HSz HI5 hg2 ⊢
     clear hW5 HFst2
     have H0:Hid (OpTo W5 R mb rb X i vc vl vn vw st (kindsL op) ws yF lF 0 W5):=Lib.hid ⟨_,[],lF,vw,HOpd.out,rfl,Nat.le_refl _,by
      have:=HRd.out.below HWb.out
      simpa using this,HI5.out,Keeps.refl _ _,fun k h=>Or.inl h⟩
     clear hg2 hg1 HC HRl
     go_wp2_with fail
     go_loopw [14,15,157] (fun _ _ cv wr=> ∃j:Nat,j≤q∧cv= .int .i64 j∧Hid (OpTo W5 R mb rb X i vc vl vn vw st (kindsL op) ws yF lF j wr)) (fun _ _ cv _=>q - (intOf cv).toNat)
     case atStart=>exact ⟨0,by omega,rfl,H0⟩
     case round=>
      obtain ⟨j,hj,rfl,HT⟩:=hrel
      have hjI:(j:Int)≤(q:Int):=by omega
      by_cases hlt:j<q
      ·have hltI:(j:Int)<(q:Int):=by omega
       have hlt3:(j:Int)<3:=by omega
       obtain ⟨y,l,lr,vw',h1,h2,h3,h4,h5,h6,h7⟩:=HT.out
       have hjk:j<(kindsL op).length:=by rw[←HQ.out];exact hlt
       obtain ⟨hjw,y',o2,lr',s1,s2,s3⟩:=opds_step h1 hjk
       obtain ⟨S,hS⟩: ∃S:ByteArray,S=⟨(ws[j]).toArray⟩:=⟨_,rfl⟩
       have hSl:S.data.toList=ws[j]:=by rw[hS]
       have hjn:j<n:=by rw[HNl.out];exact hjw
       have hjnI:(j:Int)<(n:Int):=by omega
       have cY:(wr.drew).cell? ⟨Y,j,none⟩=some (.int .i64 (kk j)):=(h6.drew.cell (p:=⟨Y,j,none⟩) HSz.out.2.2.2 (by
        rintro (e|e)
        ·have:=HSz.out;(try simp at e);omega
        ·have h8:Y<w.heap.size:=HRd.out.of_lt e;have h9:=HSz.out;omega)).trans (HY.out j (by omega))
       have cW:(wr.drew).cell? ⟨g,o+j,none⟩=some (.string S):=(h6.drew.cell (p:=⟨g,o+j,none⟩) (by have:=HSz.out;show g<W5.heap.size;omega) (by
        rintro (e|e)
        ·have:=HSz.out;(try simp at e);omega
        ·have h8:g<w.heap.size:=HRd.out.of_lt e;have h9:=HSz.out;omega)).trans (by rw[HHo.out (by omega),HCw.out j hjw,hS];rfl)
       have HOC:=Lib.hid (operand_any (w:=wr.drew) (h4.of_blocks fun _ _=>rfl) (by have:=h6.size;have:=HSz.out;show rb≤wr.heap.size;omega) (by
        intro h
        rcases of_of h7 h with h|h
        ·exact HX0.out h
        ·have:=HSz.out;omega) (X:=X) (x:=y) h5 S (by rw[←len_list,hSl];exact HWs.out _ (List.getElem_mem _)) i (kk j) (by rw[←(HKk.out.1 j hjk).1];exact kinds_range op _ (List.getElem_mem _)) (y:=y') (o:=o2) (by rw[←(HKk.out.1 j hjk).1,hSl];exact s1) (by show st.code.length≤100000;omega) (by simp;omega))
       have HNext:Hid (∀e w',OpdOut wr.drew R mb rb vc vl vn vw' { st with wants:=st.wants++l.map (fun t=>(st.code.length,i,t))} X y' o2 i e w'→e= .returned .nilIface∧OpTo W5 R mb rb X i vc vl vn vw st (kindsL op) ws yF lF (j+1) w'):=Lib.hid (fun e w' h=>opTo_step h3 h6.drew h7 s2 (by rw[h2,s3]) h)
       clear h1 h2 h3 h4 h5 h6 h7 s1 s2 s3 hSl hS hjk hjw HT
       generalize kk j=kj at cY HOC
       go_wp2_with fail
       go_still_tail 9,(by kernel_rfl)
       change wpList _ _ _ _ _ wr.drew
       generalize wr.drew=wd at cY cW HOC HNext ⊢
       go_wp2_with fail
       refine HOC.out.mono ?_
       intro e w' hout
       obtain ⟨he,HT2⟩:=HNext.out e w' hout
       exact m109
      ·obtain rfl:j=q:=by omega
       have HTo:=Lib.hid (insTo_of HT.out HQ.out)
       have hMk2:n=j∨(n=j+1∧ ∃r,ws[j]?=some (33::r)∧markL yF (33::r)=some z):=by
        have e1:=HNl.out
        have e2:=HQ.out
        rcases HMk.out with ⟨h,_⟩ |⟨h,h2⟩
        ·left;omega
        ·right;rw[e2];exact ⟨by omega,h2⟩
       have hMk3:n=j→yF=z:=by
        have e1:=HNl.out
        have e2:=HQ.out
        rcases HMk.out with ⟨_,h⟩ |⟨h,h2⟩
        ·exact fun _=>h
        ·exact fun _=>by omega
       have HMk4:=Lib.hid hMk2
       have HMk5:=Lib.hid hMk3
       clear HMk hMk2 hMk3 HT
       go_upto_if 177 with fail
       go_cut [16] (fun _ wx=>Hid (InsTo W5 R mb rb X i vc vl vn vw st z lF wx))
       case first=>
        rcases HMk4.out with hn|⟨hn,r,hr,hm⟩
        ·have HZ:=Lib.hid (HMk5.out hn)
         have hno2:n≤j:=by omega
         have t1:decide (j<n)=false:=decide_eq_false (by omega)
         have t2:decide ((j:Int)<(n:Int))=false:=decide_eq_false (by omega)
         clear hn HMk4 HMk5
         go_wp2_with fail
         go_meet
         rw[←HZ.out]
         exact HTo
        ·have hjn:j<ws.length:=by rw[←HNl.out];omega
         have hjI2:(j:Int)<(n:Int):=by omega
         obtain ⟨S,hS⟩: ∃S:ByteArray,S=⟨(33::r).toArray⟩:=⟨_,rfl⟩
         have hSl:S.data.toList=33::r:=by rw[hS]
         obtain ⟨vw',h4,h5,h6,h7⟩:=HTo.out
         have cW:wr.cell? ⟨g,o+j,none⟩=some (.string S):=(h6.cell (p:=⟨g,o+j,none⟩) (by have:=HSz.out;show g<W5.heap.size;omega) (by
          rintro (e|e)
          ·have:=HSz.out;(try simp at e);omega
          ·have h8:g<w.heap.size:=HRd.out.of_lt e;have h9:=HSz.out;omega)).trans (by
           rw[HHo.out (by omega),HCw.out j hjn]
           rw[List.getElem?_eq_getElem hjn] at hr
           rw[Option.some.inj hr,hS];rfl)
         have HMC:=Lib.hid (mark_any X yF z S i wr h5 (by rw[hSl];exact hm) (by
          rw[←len_list,hSl]
          rw[List.getElem?_eq_getElem hjn] at hr
          have:=HWs.out _ (List.getElem_mem hjn)
          rw[Option.some.inj hr] at this
          omega))
         have t1:decide (j<n)=true:=decide_eq_true (by omega)
         clear hn hr hm hS hSl h4 h5 h6 h7 hjn HMk4 HMk5
         go_wp2_with fail
         refine HMC.out.mono ?_
         rintro e w' ⟨rfl,hz,hk⟩
         have HZ:=Lib.hid (insTo_mark HTo.out (by have:=HSz.out;omega) HX0.out hz hk)
         clear hz hk
         go_wp2_with fail
         go_meet
         exact HZ
       case rest=>
        exact m111):P:=h
open a39 in
set_option maxRecDepth 100000 in
theorem line_ins {w:World} {R mb rb:Nat} {vc vl vn vw:Value} {st:St} (hR:Rd w R mb rb vc vl vn vw st) (hrb:rb≤w.heap.size) (s:ByteArray) (i:Nat) (hs:s.size≤100000) (hsemi: ∀c∈s.data.toList,c≠59) {w0:Str} {ws:List Str} (hw:wordsL s.data.toList=w0::ws) (hw0:0<w0.length∧w0.length≤100000) (hnl: ¬(ws= []∧w0.getLast?=some 58)) (hop:opL w0≠0) (hop2:1≤opL w0∧opL w0≤58) (hwn:ws.length≤100000) (hws: ∀x∈ws,x.length≤100000) {yF z:InsL} {lF:List Str} (hopd:operandsL { op:=opL w0} (kindsL (opL w0)) ws=some (yF,lF)) (hmk:(ws.length=(kindsL (opL w0)).length∧yF=z)∨(ws.length=(kindsL (opL w0)).length+1∧ ∃r,ws[(kindsL (opL w0)).length]?=some (33::r)∧markL yF (33::r)=some z)) (hcn:st.code.length≤90000) (hwl:st.wants.length≤90000):
  Calls Tryz.prog 147 #[.pointer (some ⟨R,0,none⟩), .string s, .int .i64 i] w (LineOut w R mb rb vc vl vn vw { st with code:=st.code++ [z],wants:=st.wants++lF.map (fun t=>(st.code.length,i,t))}):=by
 have HOpd:=Lib.hid hopd
 have HWs:=Lib.hid hws
 have HMk:=Lib.hid hmk
 have HW:=Lib.hid (words_any s w hs hsemi)
 have HN:=Lib.hid hw
 have hnn:ws.length≠0∨(ws.length=0∧ ∀h:w0.length - 1<w0.length,w0[w0.length - 1]≠58):=by
  by_cases h:ws.length=0
  ·right
   refine ⟨h,fun hl e=>hnl ⟨List.length_eq_zero_iff.1 h,?_⟩⟩
   rw[List.getLast?_eq_getElem?,List.getElem?_eq_getElem hl,e]
  ·exact Or.inl h
 have HRd:=Lib.hid hR
 have HOp:=Lib.hid hop
 obtain ⟨n,hn⟩: ∃n,n=ws.length:=⟨_,rfl⟩
 have hnI:(n:Int)≤100000:=by omega
 clear hs hsemi hw hR hnl hmk hopd hws
 exact m104
end Go.Proofs.YtaangaogmnlljaaGreatDoor.Asm
