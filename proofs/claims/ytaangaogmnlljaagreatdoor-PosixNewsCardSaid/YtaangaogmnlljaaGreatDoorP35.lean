/- Part 35 of what the proof stands on: RefPlace. -/
import Derived.Test.YtaangaogmnlljaaGreatDoorP08
import Derived.Test.YtaangaogmnlljaaGreatDoorP27
set_option linter.unusedVariables false
set_option maxRecDepth 100000
set_option maxHeartbeats 40000000
namespace Go.Proofs.YtaangaogmnlljaaGreatDoor.Asm
open Go.RowKit Go.Maps
theorem infoRWant:(Tryz.prog.info? 364).map (fun i=>(i.zero,i.size,i.bytes))=some (some (.agg #[.int .i64 0, .int .i64 0, .string ⟨#[]⟩]),3,32):=by kernel_rfl
theorem rwantsC_snoc (l:List (Nat×Nat×Str)) (x:Nat×Nat×Str):rwantsC (l++ [x])=rwantsC l++ [.int .i64 x.2.1, .int .i64 x.1,strV x.2.2]:=by simp[rwantsC]
set_option maxRecDepth 100000 in
theorem ropd_place {w:World} {R rb ln:Nat} {vc vl vn vw:Value} {st:St} {X:Nat} {x:InsL} (hP:RP w R rb vc vl vn vw st ln) (hrb:rb≤w.heap.size) (hX: ¬OfP R vc vl vn vw X) (hx:InsAt w X x) (s:ByteArray) (hs:s.size≤100000) (k:Int) (hk:k=6∨k=8) (hn:namedL s.data.toList=true) (hc:st.code.length≤100000) (hw:st.wants.length≤100000):
  Calls Tryz.prog 233 #[.pointer (some ⟨R,0,none⟩), .int .i64 k, .string s, .pointer (some ⟨X,0,none⟩)] w (ROpdOut w R rb vc vl vn vw st ln X x (some s.data.toList)):=by
 have HReg:=Lib.hid (rregister_any s w (by omega))
 have HNam:=Lib.hid (fun w=>rname_any s w (by omega))
 have HNo:=Lib.hid hn
 obtain ⟨iw,hiw,hzw,hsw,hbw⟩:=info_parts infoRWant
 obtain ⟨Aw,cw,rfl⟩:=own_shape hP.wants
 obtain ⟨Ac,cc,rfl⟩:=own_shape hP.code
 have HP:=Lib.hid hP
 have HX:=Lib.hid hx
 have HNX:=Lib.hid hX
 have HRb:=Lib.hid hrb
 have HCl:=Lib.hid hc
 have HWl:=Lib.hid hw
 clear hP hX hx hs hn hrb hc hw
 rcases hk with rfl|rfl
 all_goals
  go_enter Tryz.func233,Tryz.ntmps233
  go_wp2_with fail
  refine HReg.out.mono ?_
  rintro e w1 ⟨m9,rfl,hm,q,hw1⟩
  clear hm
  generalize (regL s.data.toList).isSome=b
  go_wp2_with fail
  refine (HNam.out _).mono ?_
  rintro e w2 ⟨rfl,q2,hw2⟩
  rw[HNo.out]
  have P2:RP w2 R rb (.slice Ac st.code.length cc) vl vn (.slice Aw st.wants.length cw) st ln:=HP.out.of_blocks fun _ _=>by rw[hw2];rfl
  have K2:Keeps (OfP R (.slice Ac st.code.length cc) vl vn (.slice Aw st.wants.length cw)) w w2:=by rw[hw2];exact ((Keeps.refl _ w).drewN q).drewN q2
  have X2:InsAt w2 X x:=by rw[hw2];exact HX.out
  have hz2:w2.heap.size=w.heap.size:=by rw[hw2];rfl
  clear hw1 hw2
  obtain ⟨r0,r1,r2,r3,r4,rf⟩:=P2.cell
  have hRl:=P2.lt
  obtain ⟨m,hm⟩: ∃m,m=st.code.length:=⟨_,rfl⟩
  have hmI:(m:Int)≤100000:=by have:=HCl.out;omega
  have hmI0:(0:Int)≤(m:Int):=by omega
  have HMc:=Lib.hid hm
  have h0:RP ((w2.alloc (.cells #[.int .i64 (ln:Int), .int .i64 (m:Int), .string s] 364)).drew) R rb (.slice Ac st.code.length cc) vl vn (.slice Aw st.wants.length cw) st ln:=(P2.below ((Below.refl _ _).alloc (Nat.le_refl _) _)).of_blocks fun _ _=>rfl
  have K0:Keeps (OfP R (.slice Ac st.code.length cc) vl vn (.slice Aw st.wants.length cw)) w ((w2.alloc (.cells #[.int .i64 (ln:Int), .int .i64 (m:Int), .string s] 364)).drew):=(K2.alloc _).drew
  have X0:InsAt ((w2.alloc (.cells #[.int .i64 (ln:Int), .int .i64 (m:Int), .string s] 364)).drew) X x:=(((Below.refl _ w2).alloc (Nat.le_refl _) (.cells #[.int .i64 (ln:Int), .int .i64 (m:Int), .string s] 364)).block X X2.lt).trans X2
  have E0:=Lib.hid h0.wants
  have N1:Hid (∀j u,([.int .i64 (ln:Int), .int .i64 (m:Int), .string s]:List Value)[j]?=some u→(((w2.alloc (.cells #[.int .i64 (ln:Int), .int .i64 (m:Int), .string s] 364)).drew)).cell? ((⟨w2.heap.size,0,none⟩:Addr).add j)=some u):=Lib.hid (by
   intro j u hu
   rw[Addr.add_lit,Nat.zero_add]
   exact (World.cell?_alloc_at _ _ _ _ rfl).trans (by simpa using hu))
  have O1:Hid (∀u∈([.int .i64 (ln:Int), .int .i64 (m:Int), .string s]:List Value),u.oneCell'=true):=Lib.hid (by
   intro u hu
   simp at hu
   rcases hu with rfl|rfl|rfl<;>rfl)
  have M1:=Lib.hid (show st.wants.length+1≤maxLen by have:=HWl.out;unfold maxLen;omega)
  have M2:=Lib.hid (show (st.wants.length+1)*32≤140737488355328 by have:=HWl.out;omega)
  have M3:=Lib.hid (show rb≤(((w2.alloc (.cells #[.int .i64 (ln:Int), .int .i64 (m:Int), .string s] 364)).drew)).heap.size by have:=HRb.out;show rb≤(w2.alloc _).heap.size;simp;omega)
  have HV:Hid (some R≠(Value.slice Aw st.wants.length cw).ownBlock):=Lib.hid (own_ne h0.wants h0.tagR (by decide))
  have HFin:Hid (∀v' w3,w3.ownsRow rb 364 3 v' (st.wants.length+1) (rwantsC st.wants++ [.int .i64 (ln:Int), .int .i64 (m:Int), .string s])→(((w2.alloc (.cells #[.int .i64 (ln:Int), .int .i64 (m:Int), .string s] 364)).drew)).grownBy w3 (Value.slice Aw st.wants.length cw).ownBlock→(v'.ownBlock=(Value.slice Aw st.wants.length cw).ownBlock∨v'.ownBlock=some (((w2.alloc (.cells #[.int .i64 (ln:Int), .int .i64 (m:Int), .string s] 364)).drew)).heap.size)→
    ROpdOut w R rb (.slice Ac st.code.length cc) vl vn (.slice Aw st.wants.length cw) st ln X x (some s.data.toList) (.returned (.pointer none)) (w3.setCell ⟨R,3,none⟩ v')):=Lib.hid (fun v' w3 hr hg hnew=>by
   have hr2:w3.ownsRow rb 364 3 v' (st.wants++ [(st.code.length,ln,s.data.toList)]).length (rwantsC (st.wants++ [(st.code.length,ln,s.data.toList)])):=by
    rw[rwantsC_snoc,strV_of,List.length_append,←hm];exact hr
   have hadd:=h0.add_wants _ hg hr2
   have hK3:Keeps (OfP R (.slice Ac st.code.length cc) vl vn (.slice Aw st.wants.length cw)) w (w3.setCell ⟨R,3,none⟩ v'):=(K0.grown hg (fun k e=>Or.inr (Or.inr (Or.inr (Or.inr e))))).setCell (p:=⟨R,3,none⟩) (Or.inl rfl) _
   refine ⟨rfl,HX.out.keeps hK3 HNX.out,v',hadd,hK3.mono (fun _ h=>Or.inr h),fun k hk=>?_⟩
   rcases hnew with e|e
   ·exact Or.inl (e▸hk)
   ·right
    rw[e] at hk
    have h2:(w2.alloc (.cells #[.int .i64 (ln:Int), .int .i64 (m:Int), .string s] 364)).heap.size=k:=Option.some.inj hk
    simp at h2
    omega)
  have HC:Hid (∀w3:World,(((w2.alloc (.cells #[.int .i64 (ln:Int), .int .i64 (m:Int), .string s] 364)).drew)).grownBy w3 (Value.slice Aw st.wants.length cw).ownBlock→w3.cell? ⟨R,3,none⟩=some (.slice Aw st.wants.length cw)∧w3.frozen? ⟨R,3,none⟩=false):=Lib.hid (fun w3 hg=>by
   have hb:=hg.block R h0.lt HV.out
   exact ⟨(World.cell?_of_block (a:=⟨R,3,none⟩) hb).trans h0.cell.2.2.2.1,(World.frozen?_of_block (a:=⟨R,3,none⟩) hb).trans (h0.cell.2.2.2.2.2 3)⟩)
  rw[←hm] at r0
  generalize hzz:st.wants.length=z at r3 E0 M1 M2 HV HFin HC
  have HZz:=Lib.hid hzz
  clear hzz
  clear P2 K2 X2 hm h0 K0 X0 hz2
  go_wp2_with fail
  go_region_law (first|(refine step_append_own _ rfl (.tmp 54) (.tmp 66) 358 rfl rb 364 iw _ 3 32 Tryz.underlying358 hiw hzw hsw hbw rfl (by decide) (.slice Aw z cw) z (rwantsC st.wants) (by simp[Act.eval]) E0.out ⟨w2.heap.size,0,none⟩ 1 1 [.int .i64 (ln:Int), .int .i64 (m:Int), .string s] (by simp[Act.eval]) rfl N1.out O1.out M1.out M2.out M3.out ?_;intro v' w3 hown' hgrow hnew;obtain ⟨A',c',rfl⟩:=own_shape hown';have tt:=HC.out w3 hgrow;have t0:=tt.1;have t1:=tt.2;have HF:=Lib.hid (HFin.out _ _ hown' hgrow hnew);clear hown' hgrow hnew tt))
  all_goals
   go_wp2
   go_ret
   have ez:=HZz.out
   subst ez
   exact HF.out
theorem a89.q91 {P:Prop} (h:P:=by
 exact ropd_cell hR hX hx s hs r hr):P:=h
theorem a89.q106 {P:Prop} (h:P:=by
 exact ropd_num hR hX hx s hs r hr):P:=h
open a89 in
theorem ropd_any {w:World} {R rb ln:Nat} {vc vl vn vw:Value} {st:St} {X:Nat} {x:InsL} (hR:RP w R rb vc vl vn vw st ln) (hrb:rb≤w.heap.size) (hX: ¬OfP R vc vl vn vw X) (hx:InsAt w X x) (s:ByteArray) (hs:s.size≤100000) (k:Int) (hk:1≤k∧k≤9) {y:InsL} {o:Option Str} (h:operandL x k s.data.toList=some (y,o)) (hc:st.code.length≤100000) (hw:st.wants.length≤100000):
  Calls Tryz.prog 233 #[.pointer (some ⟨R,0,none⟩), .int .i64 (rkind k), .string s, .pointer (some ⟨X,0,none⟩)] w (ROpdOut w R rb vc vl vn vw st ln X y o):=by
 unfold operandL at h
 obtain rfl|rfl|rfl|rfl|rfl|rfl|rfl|rfl|rfl:k=1∨k=2∨k=3∨k=4∨k=5∨k=6∨k=7∨k=8∨k=9:=by omega
 ·simp only[if_true] at h
  obtain ⟨r,hr,e⟩:=Option.map_eq_some_iff.1 h
  injection e with e1 e2
  subst e1 e2
  exact ropd_regA hR hX hx s hs r hr
 ·simp only[show ((2:Int)=1)=False by simp,if_false,if_true] at h
  obtain ⟨r,hr,e⟩:=Option.map_eq_some_iff.1 h
  injection e with e1 e2
  subst e1 e2
  exact ropd_regB hR hX hx s hs r hr
 ·simp only[show ((3:Int)=1)=False by simp,show ((3:Int)=2)=False by simp,if_false,if_true] at h
  obtain ⟨r,hr,e⟩:=Option.map_eq_some_iff.1 h
  injection e with e1 e2
  subst e1 e2
  exact ropd_regC hR hX hx s hs r hr
 ·simp only[show ((4:Int)=1)=False by simp,show ((4:Int)=2)=False by simp,show ((4:Int)=3)=False by simp,if_false,if_true] at h
  cases hr:regL s.data.toList with
  |some r=>
   rw[hr] at h
   injection h with h
   injection h with e1 e2
   subst e1 e2
   exact ropd_orCr hR hX hx s hs r hr
  |none=>
   rw[hr] at h
   obtain ⟨v,hv,e⟩:=Option.map_eq_some_iff.1 h
   injection e with e1 e2
   subst e1 e2
   exact ropd_orCn hR hX hx s hs v hr hv
 ·simp only[show ((5:Int)=1)=False by simp,show ((5:Int)=2)=False by simp,show ((5:Int)=3)=False by simp,show ((5:Int)=4)=False by simp,if_false,if_true] at h
  cases hr:regL s.data.toList with
  |some r=>
   rw[hr] at h
   injection h with h
   injection h with e1 e2
   subst e1 e2
   exact ropd_orBr hR hX hx s hs r hr
  |none=>
   rw[hr] at h
   obtain ⟨v,hv,e⟩:=Option.map_eq_some_iff.1 h
   injection e with e1 e2
   subst e1 e2
   exact ropd_orBn hR hX hx s hs v hr hv
 ·exact m91
 ·exact m106
 ·simp only[show ((8:Int)=1)=False by simp,show ((8:Int)=2)=False by simp,show ((8:Int)=3)=False by simp,show ((8:Int)=4)=False by simp,show ((8:Int)=5)=False by simp,show ((8:Int)=6)=False by simp,show ((8:Int)=7)=False by simp,if_false,if_true] at h
  cases hn:namedL s.data.toList with
  |true=>
   rw[hn] at h
   simp only[if_true] at h
   injection h with h
   injection h with e1 e2
   subst e1 e2
   exact ropd_place hR hrb hX hx s hs 6 (Or.inl rfl) hn hc hw
  |false=>rw[hn] at h;simp at h
 ·simp only[show ((9:Int)=1)=False by simp,show ((9:Int)=2)=False by simp,show ((9:Int)=3)=False by simp,show ((9:Int)=4)=False by simp,show ((9:Int)=5)=False by simp,show ((9:Int)=6)=False by simp,show ((9:Int)=7)=False by simp,show ((9:Int)=8)=False by simp,if_false] at h
  cases hn:namedL s.data.toList with
  |true=>
   rw[hn] at h
   simp only[if_true] at h
   injection h with h
   injection h with e1 e2
   subst e1 e2
   exact ropd_place hR hrb hX hx s hs 8 (Or.inr rfl) hn hc hw
  |false=>
   rw[hn] at h
   simp only[Bool.false_eq_true,if_false] at h
   obtain ⟨r,hr,e⟩:=Option.map_eq_some_iff.1 h
   injection e with e1 e2
   subst e1 e2
   exact ropd_bothn hR hX hx s hs r hn hr
end Go.Proofs.YtaangaogmnlljaaGreatDoor.Asm
