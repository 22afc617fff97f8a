/- Rows of tactics that stand in many proofs, laid once. -/
import Derived.KernelRfl
import GoSem.Claim
import Derived.WalkKit
import Derived.Lib.Hide
import Derived.Maps.Own
import Derived.Maps.OwnOps
import Derived.Maps.OwnSet
import Derived.Maps.Views
import Derived.OneCell
import Derived.Outline
import Derived.WalkLawsBesides
import Derived.WalkSpells
import Derived.BigQuiet
import Derived.Deep.QuietTactic
import Derived.StillTailTactics
import Derived.Deep.RegionHeld3
import Derived.Deep.OwnRows
import Derived.Deep.RegionLaw
import Derived.Maps.AppendAt
import Derived.Laws.CopyRow
import Derived.Laws.IdiomCopy
import Derived.Laws.OwnMore
import Derived.RegionTactic
import Derived.Carry
import Derived.ChangeSame
import Derived.OpenShut
import Derived.ProofKit
import Derived.Deep.DeepCutAuto
import Derived.Laws.AppendOwn
import Derived.Laws.AppendOwnNone
import Derived.Lib.Bytealg
import Derived.Lib.Slices
import Derived.Lib.Strings
import Derived.Lib.Walk
import Derived.OwnWalk
import Derived.Sort.Row
import Derived.Deep.LoopGhost
import Derived.LaidEql
import Derived.RowKitTokens
import Derived.Stop.Asserts
import Derived.Lib.Split
import Derived.IntWalk
import Derived.Deep.RegionWith
import Derived.Laws.MakeOwn
import Derived.LoopIn
import Derived.LoopNIn
import Derived.OwnWalkIn
import Derived.RangeFuncBound
import Derived.RangeFuncCalls
import Derived.RangeFuncFrom
import Derived.RangeFuncLeaves
import Derived.RangeFuncNested
import Derived.Shelf.Abstract
import Derived.Shelf.RegionOpen
import Derived.TacticsInMore
import Derived.Deep.CutBlock
import Derived.Lib.AppendZeros
import Derived.Deep.RegionLawGrows
import Derived.StillTactics
import Derived.StringKeys
import Derived.ChangeKeysEq
import Derived.Laws.StructEq
import Derived.Shelf.Strings.Split
import Derived.ChangeVars
import Derived.Handed
import Derived.LaidHandle
import Derived.LaidLaws
import Derived.Shelf.Vars
import Derived.Stop.Joined
import Derived.Deep.RegionHeldLaw
import Derived.ChangeMaps5
import Derived.Deep.Slices
import Derived.Lib.SmallJoins
import Derived.ShutString
import Derived.SizedLaws
set_option linter.unusedVariables false
namespace Go.Proofs.YtaangaogmnlljaaGreatDoor
theorem m1 {P:Prop} (h:P:=by
 obtain ⟨hO,hQ,hL,hA,hB,hC,hN,hm,hw,hW⟩:=may_parts h
 simp only at hO hQ hL hA hB hC hm hw hW
 have HF:=Lib.hid (fun W=>cfields_any hO W)
 have HA:=Lib.hid (fun W=>register_any xa (hasA o) false W)
 have HB:=Lib.hid (fun W=>register_any xb (hasB o) (lessBK o) W)
 have HC:=Lib.hid (fun W=>register_any xc (hasC o) (lessCK o) W)
 rw[hA] at HA
 rw[hB] at HB
 rw[hC] at HC
 have HN:=Lib.hid (fun W=>cnum_any W hn hO hN)
 clear hA hB hC hN h hn hO
 have hX:(lib=true∧xw=0)∨(lib=true∧(xw==0)=false∧0<xm∧hasA o=true)∨(lib=false∧xm=0∧xw=0∧o≤22):=by
  by_cases h0:xw=0
  ·cases lib with
   |true=>exact Or.inl ⟨rfl,h0⟩
   |false=>
         rcases hL with e|e
         ·cases e
         ·exact Or.inr (Or.inr ⟨rfl,e.2,h0,e.1⟩)
  ·rcases hW with e|e
   ·exact absurd e h0
   ·cases lib with
    |true=>exact Or.inr (Or.inl ⟨rfl,beq_eq_false_iff_ne.2 h0,e⟩)
    |false=>
          rcases hL with e2|e2
          ·cases e2
          ·have:=e.1;omega
 clear hW hL
 exact q1):P:=h
theorem m2 {P:Prop} (h:P:=by
 go_wp2_with fail
 have HCe:Hid (∀V,LayS w V K X gc gw P R S1 mF→Calls Tryz.prog 169 #[.pointer (some ⟨K,0,none⟩)] V fun r w'=>r= .returned (.int .i64 (F.wide+F.narrow))∧LayS w w' K X gc gw P R S1 mF):=Lib.hid fun V q=>q.cellsK h5 h6 HA.out.2.2.2.2.2.2
 have HAl:Hid (∀V,LayS w V K X gc gw P R S1 mF→Calls Tryz.prog 168 #[.pointer (some ⟨X,0,none⟩), .int .i64 (17+8* (i:Int)+(F.wide+F.narrow)), .int .i64 cells] V (AlcOut w K X gc gw P R S1 mF (baseN F+F.wide.toNat+F.narrow.toNat) cells)):=Lib.hid fun V q=>by
  obtain ⟨hk,hb,hbN,hroom,hcells,hwk,hwd⟩:=HA.out
  exact q.alcK (by omega) hcells (by omega)
 have HL7:Hid (∀W,LayS w W K X gc gw P R S1 mF→W.cell? ⟨K,1007,none⟩=some (.pointer (some ⟨X,0,none⟩))):=Lib.hid fun W q=>q.kb.cs 0 hS10
 have hsum:IntKind.i64.wrap (17+8* (i:Int)+(F.wide+F.narrow))=17+8* (i:Int)+(F.wide+F.narrow):=by
  obtain ⟨hk,hb,hbN,hroom,hcells,hwk,hwd⟩:=HA.out
  rw[IntKind.wrap_i64];omega
 have HS7:Hid (∀W A,LayS w W K X gc gw P R S1 mF→(W.setCell ⟨K,1008,none⟩ (.pointer (some ⟨A,0,none⟩))).cell? ⟨K,1007,none⟩=some (.pointer (some ⟨X,0,none⟩))):=Lib.hid fun W A q=>q.storeK.kb.cs 0 (by rw[List.getElem?_set_ne (by decide)];exact hS10)
 have HLd:=Lib.hid HL.out.drew
 have k7d:=HL7.out _ HLd.out
 go_region_held3 (fun W=>W.cell? ⟨K,1007,none⟩=some (.pointer (some ⟨X,0,none⟩))) (first|with_reducible exact k7d|with_reducible exact q7|with_reducible exact r7|with_reducible exact s7) (first|(go_at_call 169;refine (HCe.out _ HLd.out).mono ?_;rintro e y1 ⟨rfl,hl1⟩;have q7:=HL7.out _ hl1) |(go_at_call 168;refine (HAl.out _ hl1).mono ?_;rintro e y2 ⟨A,rfl,hl2,hA,hAn⟩;have r7:=HL7.out _ hl2;have s7:=HS7.out _ A hl2;have r8:y2.cell? ⟨K,1008,none⟩=some v1:=hl2.kb.cs 1 hS11;have rf8:=hl2.kb.frz 1008))
 go_wp2_with fail
 generalize hW:World.setCell _ _ _=wF
 go_end0
 obtain ⟨hA0,hX,hgc,hgw,hKA⟩:=hAn
 have hfin:LayS w wF K X gc gw P R (S1.set 1 (.pointer (some ⟨A,0,none⟩))) mF∧AlcP wF A X (.slice none 0 0) ⟨baseN F+F.wide.toNat+F.narrow.toNat,cells,[]⟩:=by
  rw[←hW]
  exact ⟨hl2.storeK,hA.set hKA⟩
 rw[HLaid.out]
 exact ⟨rfl,X,gc,gw,A,by rw[←HS1e.out];exact hfin.1,hfin.2,hA0,hX,hgc,hgw⟩):P:=h
theorem m3 {P:Prop} (h:P:=by
 have hO:1≤o∧o≤22:=by omega
 have HF:=Lib.hid (fun W=>cfields_any (o:=o) (by omega) W)
 have HA:=Lib.hid (fun W=>register_any xa (hasA o) false W)
 have HB:=Lib.hid (fun W=>register_any xb (hasB o) (lessBK o) W)
 have HC:=Lib.hid (fun W=>register_any xc (hasC o) (lessCK o) W)
 have HN:=Lib.hid (fun W=>fnum_any (xa:=xa) (xb:=xb) (xc:=xc) (xv:=xv) (xm:=0) (xw:=xw) W hn hO)
 rw[hA] at HA
 rw[hB] at HB
 rw[hC] at HC
 rw[hN] at HN
 clear hA hB hC hN hn hO
 have HW:Hid (xw=0∨xw<0∨xw=1∨xw=2∨2<xw):=Lib.hid (by omega)
 have HB0:Hid (Below w.heap.size w (w.alloc (.cells #[.int .i64 o, .int .i64 xa, .int .i64 xb, .int .i64 xc, .int .u64 xv, .int .i64 0, .int .i64 xw] 68))):=Lib.hid ((Below.refl _ _).alloc (Nat.le_refl _) _)
 rcases ho with rfl|rfl|rfl|rfl
 all_goals
  simp only[hasA,hasB,hasC,hasV,lessBK,lessCK,Int.reduceBEq,Int.reduceLE,Int.reduceLT,decide_true,decide_false,Bool.or_true,Bool.true_or,Bool.or_false,Bool.false_or,Bool.and_true,Bool.and_false,Bool.false_and,Bool.true_and] at HF HA HB HC HN
  go_enter Tryz.func280,Tryz.ntmps280
  go_wp2_with fail
  refine (HF.out _).mono ?_
  rintro e w1 ⟨rfl,rfl⟩
  go_wp2_with fail
  refine (HA.out _).mono ?_
  rintro e w1 ⟨rfl,rfl⟩
  cases ra
  ·go_wp2_with fail
   go_ret
   exact ⟨rfl,HB0.out⟩
  go_wp2_with fail
  refine (HB.out _).mono ?_
  rintro e w1 ⟨rfl,rfl⟩
  cases rb
  ·go_wp2_with fail
   go_ret
   exact ⟨rfl,HB0.out⟩
  go_wp2_with fail
  refine (HC.out _).mono ?_
  rintro e w1 ⟨rfl,rfl⟩
  cases rc
  ·go_wp2_with fail
   go_ret
   exact ⟨rfl,HB0.out⟩
  go_wp2_with fail
  refine (HN.out _).mono ?_
  rintro e w1 ⟨rfl,hb1⟩
  have HB1:=Lib.hid (HB0.out.trans (hb1.mono (by simp)))
  have x5:=(hb1.cell (p:=⟨w.heap.size,5,none⟩) (by simp)).trans (World.cell?_alloc_at _ _ _ _ rfl)
  have x6:=(hb1.cell (p:=⟨w.heap.size,6,none⟩) (by simp)).trans (World.cell?_alloc_at _ _ _ _ rfl)
  clear hb1
  cases rn
  ·go_wp2_with fail
   go_ret
   exact ⟨rfl,HB1.out⟩
  rcases HW.out with h|h|h|h|h
  ·subst h
   go_wp2_with fail
   go_ret
   exact ⟨rfl,HB1.out⟩
  ·have f1:decide (0≤xw)=false:=decide_eq_false (by omega)
   have f3:decide (xw≥0)=false:=decide_eq_false (by omega)
   have f2:(xw==0)=false:=beq_eq_false_iff_ne.2 (by omega)
   clear h
   go_wp2_with fail
   go_ret
   exact ⟨by rw[f2];rfl,HB1.out⟩
  ·subst h
   go_wp2_with fail
   go_ret
   exact ⟨rfl,HB1.out⟩
  ·subst h
   go_wp2_with fail
   go_ret
   exact ⟨rfl,HB1.out⟩
  ·have f1:decide (0≤xw)=true:=decide_eq_true (by omega)
   have f3:decide (xw≥0)=true:=decide_eq_true (by omega)
   have f4:decide (xw≤2)=false:=decide_eq_false (by omega)
   have f2:(xw==0)=false:=beq_eq_false_iff_ne.2 (by omega)
   clear h
   go_wp2_with fail
   go_ret
   exact ⟨by rw[f2];rfl,HB1.out⟩):P:=h
theorem m4 {P:Prop} (h:P:=by
 have HLib:Hid (∀W,Below wA.heap.size wA W→Calls Tryz.prog 86 #[.agg #[.slice (some ⟨gl,0,none⟩) F.lib.length cl, .int .i64 F.loop, .slice Ac F.calls.length cc]] W fun e w'=>e= .returned (.pointer none)∧Below W.heap.size W w'):=Lib.hid fun W hW=>by
  have hb:=hbA.trans (hW.mono hbA.size)
  exact rdlib_ok (hcl.below hgl hb) (Nat.lt_of_lt_of_le hgl hb.size) rfl hF.lib.1 hF.lib.2 hF.libs hF.loop rfl hF.few (ownsRow_of_block hcv fun b e=>hb.block b (hcv.lt b e).2) hF.nod hF.calls
 have HCli:Hid (∀W,Below wA.heap.size wA W→Calls Tryz.prog 87 #[.agg #[.slice Ap F.code.length cp, .int .i64 entry, .int .i64 F.wide, .int .i64 F.narrow]] W fun e w'=>e= .returned (.pointer none)∧Below W.heap.size W w'):=Lib.hid fun W hW=>hcli W (hbA.trans (hW.mono hbA.size))
 have HCl:Hid (∀W,Below wA.heap.size wA W→Calls Tryz.prog 88 #[.agg #[.slice (some ⟨gl,0,none⟩) F.lib.length cl, .int .i64 F.loop, .slice Ac F.calls.length cc]] W fun e w'=> ∃A' c' B' d',e= .returned (.agg #[.slice A' F.lib.length c', .int .i64 F.loop, .slice B' F.calls.length d'])∧w'.ownsRow w.heap.size 68 7 (.slice A' F.lib.length c') F.lib.length (codeC F.lib)∧w'.ownsRow w.heap.size 184 6 (.slice B' F.calls.length d') F.calls.length (callC F.calls)∧Below W.heap.size W w'∧Below wA.heap.size wA w'):=Lib.hid fun W hW=>by
  have hb:=hbA.trans (hW.mono hbA.size)
  refine (rcopylib (ownsRow_of_block hlv fun b e=>hb.block b (hlv.lt b e).2) (by have:=hF.lib.2;omega) (ownsRow_of_block hcv fun b e=>hb.block b (hcv.lt b e).2) (by have:=hF.few;omega)).mono ?_
  rintro e w' ⟨A',c',B',d',rfl,r,s,b⟩
  exact ⟨A',c',B',d',rfl,Asm.row_base r hb.size,Asm.row_base s hb.size,b,hW.trans (b.mono hW.size)⟩
 have HCp:Hid (∀W,Below wA.heap.size wA W→Calls Tryz.prog 8 #[.agg #[.slice Ap F.code.length cp, .int .i64 entry, .int .i64 F.wide, .int .i64 F.narrow]] W fun e w'=> ∃A' c',e= .returned (.agg #[.slice A' F.code.length c', .int .i64 entry, .int .i64 F.wide, .int .i64 F.narrow])∧w'.ownsRow w.heap.size 68 7 (.slice A' F.code.length c') F.code.length (codeC F.code)∧Below W.heap.size W w'∧Below wA.heap.size wA w'):=Lib.hid fun W hW=>by
  have hb:=hbA.trans (hW.mono hbA.size)
  refine (hcpy W hb).mono ?_
  rintro e w' ⟨A',c',rfl,r,b⟩
  exact ⟨A',c',rfl,Asm.row_base r hb.size,b,hW.trans (b.mono hW.size)⟩
 have HY:Hid (∀W,Below wA.heap.size wA W→W.cell? ⟨w.heap.size,0,none⟩=some (.int .i64 (F.workers:Int))∧W.cell? ⟨w.heap.size,1,none⟩=some (.int .i64 (cells:Int))∧W.cell? ⟨w.heap.size+1,0,none⟩=some (.slice (some ⟨gl,0,none⟩) F.lib.length cl)∧W.cell? ⟨w.heap.size+1,1,none⟩=some (.int .i64 F.loop)∧W.cell? ⟨w.heap.size+1,2,none⟩=some (.slice Ac F.calls.length cc)∧W.cell? ⟨w.heap.size+2,0,none⟩=some (.slice Ap F.code.length cp)∧W.cell? ⟨w.heap.size+2,1,none⟩=some (.int .i64 entry)∧W.cell? ⟨w.heap.size+2,2,none⟩=some (.int .i64 F.wide)∧W.cell? ⟨w.heap.size+2,3,none⟩=some (.int .i64 F.narrow)):=Lib.hid fun W hW=>by
  have k:=h1.below hW
  have k0:=k.at' (w.heap.size, .cells #[.int .i64 (F.workers:Int), .int .i64 (cells:Int)] 23 (0,0)) (by simp)
  have k1:=k.at' (w.heap.size+1, .cells #[.slice (some ⟨gl,0,none⟩) F.lib.length cl, .int .i64 F.loop, .slice Ac F.calls.length cc] 77 (0,0)) (by simp)
  have k2:=k.at' (w.heap.size+2, .cells #[.slice Ap F.code.length cp, .int .i64 entry, .int .i64 F.wide, .int .i64 F.narrow] 26 (0,0)) (by simp)
  exact m68
 have HBA:=Lib.hid hbA
 have H1:=Lib.hid h1
 have HF:=Lib.hid hF
 have HE:=Lib.hid (And.intro he (And.intro hroom hcells))
 clear hcl hgl hs0 hbA h1 hlv hcv hcli hcpy hF he hroom hcells hkI
 go_enter Tryz.func31,Tryz.ntmps31
 go_wp2_with fail
 try rw[←hwA]
 clear hwA
 refine (HLib.out _ (Below.refl _ _)).mono ?_
 rintro e w2 ⟨rfl,hb2⟩
 obtain ⟨a0,a1,b0,b1,b2,p0,p1,p2,p3⟩:=HY.out w2 hb2
 have HB2:=Lib.hid hb2
 clear hb2
 go_wp2_with fail
 refine (HCli.out _ HB2.out).mono ?_
 rintro e w3 ⟨rfl,hb3⟩
 have hb3:=HB2.out.trans (hb3.mono HB2.out.size)
 clear a0 a1 b0 b1 b2 p0 p1 p2 p3
 obtain ⟨a0,a1,b0,b1,b2,p0,p1,p2,p3⟩:=HY.out w3 hb3
 have HB3:=Lib.hid hb3
 have hmul:IntKind.i64.wrap (8* (F.workers:Int))=8* (F.workers:Int):=by rw[IntKind.wrap_i64];omega
 have hadd:IntKind.i64.wrap (17+8* (F.workers:Int))=17+8* (F.workers:Int):=by rw[IntKind.wrap_i64];omega
 clear hb3 HB2 HLib HCli
 go_upto_region 11 with fail
 go_wp2_with fail
 exact q4):P:=h
theorem m5 {P:Prop} (h:P:=by
 go_enter Tryz.func233,Tryz.ntmps233
 go_wp2_with fail
 refine HReg.out.mono ?_
 rintro e w1 ⟨m,rfl,hm,q,hw1⟩
 have hx1:InsAt w1 X x:=by rw[hw1];exact HX.out
 have hK1:Keeps (fun i=>i=X) w w1:=by rw[hw1];exact (Keeps.refl _ w).drewN q
 have hc4:w1.cell? ⟨R,4,none⟩=some (.int .i64 (ln:Int)):=by rw[hw1];exact HP.out.cell.2.2.2.2.1
 clear hw1 HReg
 obtain ⟨o0,o1,o2,o3,o4,o5,o6,of⟩:=hx1.cell
 have hlt:=hx1.lt
 exact q5):P:=h
theorem m6 {P:Prop} (h:P:=by
 rcases hX with ⟨rfl,rfl⟩ |⟨rfl,hx0,hx1,hx2⟩ |⟨rfl,rfl,rfl,hx2⟩<;>rcases ho with rfl|rfl|rfl|rfl|rfl|rfl|rfl
 all_goals first
  |exact absurd rfl (hQ rfl)
  |exact absurd hx2 (by decide)
  |skip
 all_goals (try clear hx2);(try clear hQ)
 all_goals
  simp only[hasA,hasB,hasC,hasV,lessBK,lessCK,Int.reduceBEq,Int.reduceLE,decide_true,decide_false,Bool.or_true,Bool.or_false,Bool.and_false] at HF HA HB HC HN
  go_enter Tryz.func280,Tryz.ntmps280
  go_wp2_with fail
  refine (HF.out _).mono ?_
  rintro e w1 ⟨rfl,rfl⟩
  go_wp2_with fail
  refine (HA.out _).mono ?_
  rintro e w1 ⟨rfl,rfl⟩
  go_wp2_with fail
  refine (HB.out _).mono ?_
  rintro e w1 ⟨rfl,rfl⟩
  go_wp2_with fail
  refine (HC.out _).mono ?_
  rintro e w1 ⟨rfl,rfl⟩
  go_wp2_with fail
  refine (HN.out _).mono ?_
  rintro e w1 ⟨rfl,hb1⟩
  have HB1:=Lib.hid hb1
  have x5:=(hb1.cell (p:=⟨w.heap.size,5,none⟩) (by simp)).trans (World.cell?_alloc_at _ _ _ _ rfl)
  have x6:=(hb1.cell (p:=⟨w.heap.size,6,none⟩) (by simp)).trans (World.cell?_alloc_at _ _ _ _ rfl)
  clear hb1
  go_wp2_with fail
  go_ret
  exact ⟨rfl,((Below.refl _ _).alloc (Nat.le_refl _) _).trans (HB1.out.mono (by simp))⟩):P:=h
theorem m7 {P:Prop} (h:P:=by
 by_cases hl:2048<l.length
 ·have hnI:(2048:Int)<(n:Int):=by omega
  have hm:checkG lib l=some ([(codeS,0)],3):=by unfold checkG;rw[if_pos hl]
  have HF:=Lib.hid (no_any codeS 0 3 w)
  unfold codeS at HF
  rw[hm]
  clear hm h hn hl hR
  go_enter Tryz.func228,Tryz.ntmps228
  exact m51
 have H:=Lib.hid h
 have HN:=Lib.hid hn
 have HM:=Lib.hid (hR (by omega))
 have hnI:(n:Int)≤2048:=by omega
 have HL:=Lib.hid hl
 have HF:=Lib.hid (fun n W=>no_any codeS n 5 W)
 unfold codeS at HF
 clear h hn hl hnb hR
 go_enter Tryz.func228,Tryz.ntmps228
 go_wp2_with fail
 go_loopw [5] (fun cv wr=> ∃k:Nat,k≤n∧cv= .int .i64 k∧Hid (Below w.heap.size w wr)∧Hid (∀j (hj:j<l.length),j<k→mayK l[j] l.length lib=true)) (fun cv _=>n - (intOf cv).toNat)
 case atStart=>exact ⟨0,by omega,rfl,Lib.hid (Below.refl _ _),Lib.hid fun j _ hj=>absurd hj (Nat.not_lt_zero j)⟩
 case round=>
  obtain ⟨k,hk,rfl,HB,HG⟩:=hrel
  by_cases hlt:k<n
  ·have hkl:k<l.length:=by rw[←HN.out];exact hlt
   have HC:=Lib.hid (HM.out k hkl)
   have hcs:=(H.out.below hg HB.out)
   obtain ⟨xo,xa,xb,xc,xv,xm,xw,hx⟩: ∃xo xa xb xc xv xm xw,l[k]=⟨xo,xa,xb,xc,xv,xm,xw⟩:=⟨_,_,_,_,_,_,_,rfl⟩
   obtain ⟨c0,c1,c2,c3,c4,c5,c6⟩:=hcs.cells hkl hx
   obtain ⟨ok,hok⟩: ∃ok,mayK l[k] l.length lib=ok:=⟨_,rfl⟩
   have HOK:=Lib.hid hok
   rw[hok,hx] at HC
   unfold insV at HC
   have hkI:(k:Int)<(n:Int):=by omega
   have hsz:=HB.out.size
   clear hcs hx hok
   go_wp2_with fail
   refine (HC.out _).mono ?_
   rintro e w2 ⟨rfl,hb2⟩
   have HB2:=Lib.hid (HB.out.trans (hb2.mono hsz))
   clear hb2
   cases ok
   ·go_wp2_with fail
    refine (HF.out (k:Int) _).mono ?_
    rintro e w3 ⟨v,rfl,hv,hb3⟩
    have HV:=Lib.hid hv
    have HB3:=Lib.hid (HB2.out.trans (hb3.mono HB2.out.size))
    clear hv hb3
    go_wp2_with fail
    go_ret
    have hm:checkG lib l=some ([(codeS,(k:Int))],5):=by
     unfold checkG
     rw[if_neg HL.out]
     have:(l.findIdx? fun x=>!mayK x l.length lib)=some k:=by
      rw[List.findIdx?_eq_some_iff_getElem]
      exact ⟨hkl,by rw[HOK.out];rfl,fun j hj=>by rw[HG.out j (by omega) hj];simp⟩
     rw[this];rfl
    rw[hm]
    exact ⟨v,rfl,HV.out,HB3.out⟩
   exact m38
  ·have hkn:k=n:=by omega
   subst hkn
   go_wp2_with fail
   go_ret
   have hm:checkG lib l=none:=by
    unfold checkG
    rw[if_neg HL.out]
    have:(l.findIdx? fun x=>!mayK x l.length lib)=none:=by
     exact m75
    rw[this];rfl
   rw[hm]
   exact ⟨rfl,HB.out⟩):P:=h
theorem m8 {P:Prop} (h:P:=by
 have hO:1≤o∧o≤22:=by omega
 have HF:=Lib.hid (fun W=>cfields_any (o:=o) (by omega) W)
 have HA:=Lib.hid (fun W=>register_any xa (hasA o) false W)
 have HB:=Lib.hid (fun W=>register_any xb (hasB o) (lessBK o) W)
 have HC:=Lib.hid (fun W=>register_any xc (hasC o) (lessCK o) W)
 have HN:=Lib.hid (fun W=>fnum_any (xa:=xa) (xb:=xb) (xc:=xc) (xv:=xv) (xm:=0) (xw:=xw) W hn hO)
 rw[hA] at HA
 rw[hB] at HB
 rw[hC] at HC
 rw[hN] at HN
 clear hA hB hC hN hn hO
 have HW:Hid (xw=0∨xw<0∨xw=1∨xw=2∨2<xw):=Lib.hid (by omega)
 have HB0:Hid (Below w.heap.size w (w.alloc (.cells #[.int .i64 o, .int .i64 xa, .int .i64 xb, .int .i64 xc, .int .u64 xv, .int .i64 0, .int .i64 xw] 68))):=Lib.hid ((Below.refl _ _).alloc (Nat.le_refl _) _)
 rcases ho with rfl|rfl|rfl|rfl|rfl
 all_goals
  simp only[hasA,hasB,hasC,hasV,lessBK,lessCK,Int.reduceBEq,Int.reduceLE,Int.reduceLT,decide_true,decide_false,Bool.or_true,Bool.true_or,Bool.or_false,Bool.false_or,Bool.and_true,Bool.and_false,Bool.false_and,Bool.true_and] at HF HA HB HC HN
  go_enter Tryz.func280,Tryz.ntmps280
  go_wp2_with fail
  refine (HF.out _).mono ?_
  rintro e w1 ⟨rfl,rfl⟩
  go_wp2_with fail
  refine (HA.out _).mono ?_
  rintro e w1 ⟨rfl,rfl⟩
  cases ra
  ·go_wp2_with fail
   go_ret
   exact ⟨rfl,HB0.out⟩
  go_wp2_with fail
  refine (HB.out _).mono ?_
  rintro e w1 ⟨rfl,rfl⟩
  cases rb
  ·go_wp2_with fail
   go_ret
   exact ⟨rfl,HB0.out⟩
  go_wp2_with fail
  refine (HC.out _).mono ?_
  rintro e w1 ⟨rfl,rfl⟩
  cases rc
  ·go_wp2_with fail
   go_ret
   exact ⟨rfl,HB0.out⟩
  go_wp2_with fail
  refine (HN.out _).mono ?_
  rintro e w1 ⟨rfl,hb1⟩
  have HB1:=Lib.hid (HB0.out.trans (hb1.mono (by simp)))
  have x5:=(hb1.cell (p:=⟨w.heap.size,5,none⟩) (by simp)).trans (World.cell?_alloc_at _ _ _ _ rfl)
  have x6:=(hb1.cell (p:=⟨w.heap.size,6,none⟩) (by simp)).trans (World.cell?_alloc_at _ _ _ _ rfl)
  clear hb1
  cases rn
  ·go_wp2_with fail
   go_ret
   exact ⟨rfl,HB1.out⟩
  rcases HW.out with h|h|h|h|h
  ·subst h
   go_wp2_with fail
   go_ret
   exact ⟨rfl,HB1.out⟩
  ·have f1:decide (0≤xw)=false:=decide_eq_false (by omega)
   have f3:decide (xw≥0)=false:=decide_eq_false (by omega)
   have f2:(xw==0)=false:=beq_eq_false_iff_ne.2 (by omega)
   clear h
   go_wp2_with fail
   go_ret
   exact ⟨by rw[f2];rfl,HB1.out⟩
  ·subst h
   go_wp2_with fail
   go_ret
   exact ⟨rfl,HB1.out⟩
  ·subst h
   go_wp2_with fail
   go_ret
   exact ⟨rfl,HB1.out⟩
  ·have f1:decide (0≤xw)=true:=decide_eq_true (by omega)
   have f3:decide (xw≥0)=true:=decide_eq_true (by omega)
   have f4:decide (xw≤2)=false:=decide_eq_false (by omega)
   have f2:(xw==0)=false:=beq_eq_false_iff_ne.2 (by omega)
   clear h
   go_wp2_with fail
   go_ret
   exact ⟨by rw[f2];rfl,HB1.out⟩):P:=h
theorem m9 {P:Prop} (h:P:=by
 go_wp2_with fail
 have q1:(w.setCell ⟨X,3,none⟩ (.int .i64 (wrap64 (ct+1)))).cell? ⟨gc,k,none⟩=some (.int .u64 was):=(World.cell?_of_block (a:=⟨gc,k,none⟩) (set_other (fun e=>n1 e.symm))).trans g1
 have q2:(w.setCell ⟨X,3,none⟩ (.int .i64 (wrap64 (ct+1)))).frozen? ⟨gc,k,none⟩=false:=(World.frozen?_of_block (a:=⟨gc,k,none⟩) (set_other (fun e=>n1 e.symm))).trans g2
 generalize (w.setCell ⟨X,3,none⟩ (.int .i64 (wrap64 (ct+1))))=w1 at HW HK q1 q2 ⊢
 have HW2:Hid (MemP w1.drew X gc gw m):=Lib.hid (HW.out.of_blocks fun _ _=>rfl)
 have HK2:Hid (Keeps (fun b=>b=X∨b=gc) w w1.drew):=Lib.hid HK.out.drew
 have q0:w1.drew.cell? ⟨X,0,none⟩=some (.slice (some ⟨gc,0,none⟩) n n):=by
  obtain ⟨_,_,ho⟩:=HW2.out.obj
  rw[blk_cell ho,HNn.out];rfl
 replace q1:w1.drew.cell? ⟨gc,k,none⟩=some (.int .u64 was):=q1
 replace q2:w1.drew.frozen? ⟨gc,k,none⟩=false:=q2
 go_region_with (go_at_call 270;refine (HC.out _).mono ?_;rintro e w2 ⟨rfl,rfl⟩)
 all_goals
  go_wp2_with fail
  go_ret2
  exact ⟨rfl,by have:=HW2.out.laid (k:Int) _ HcV.out;rwa[Int.toNat_natCast] at this,HK2.out.setCell (p:=⟨gc,k,none⟩) (Or.inr rfl) _⟩):P:=h
theorem m10 {P:Prop} (h:P:=by
 clear h4a h4b hreg hto hall h4 h3 h5 hlt
 go_enter Tryz.func275,Tryz.ntmps275
 go_wp2
 go_loop [4,5] (fun nv iv=> ∃k:Nat,k≤s.size∧1≤k∧iv= .int .i64 k∧nv= .int .i64 (regTo s.data.toList k)∧Hid (∀j (hj:j<s.size),1≤j→j<k→isDigit s[j]=true)) (fun _ iv=>s.size - (intOf iv).toNat)
 case atStart=>exact ⟨1,by omega,by omega,rfl,rfl,Lib.hid (fun j _ h1 h2=>by omega)⟩
 case round=>
  obtain ⟨k,hk,hk1,rfl,rfl,HD⟩:=hrel
  have hkI:(k:Int)≤(s.size:Int):=by omega
  have hk1I:(1:Int)≤(k:Int):=by omega
  obtain ⟨hb1,hb2⟩:=HLt.out k hk hk1 HD.out
  obtain ⟨a,ha⟩: ∃a:Int,a=(regTo s.data.toList k:Int):=⟨_,rfl⟩
  have hb1I:a≤99:=by omega
  have hb0I:0≤a:=by omega
  by_cases hlt:k<s.size
  ·have hltI:(k:Int)<(s.size:Int):=by omega
   have hto:=HTo.out k hlt hk1
   have hb3:a≤9:=by omega
   by_cases hdg:isDigit s[k]=true
   ·obtain ⟨d1,d2⟩:=(digit_iff _).1 hdg
    have HNx:Hid (∀j (hj:j<s.size),1≤j→j<k+1→isDigit s[j]=true):=Lib.hid (fun j hj h1 h2=>by
     by_cases e:j=k
     ·subst e;exact hdg
     ·exact HD.out j hj h1 (by omega))
    have HFin:Hid (10*a+((s[k].toNat:Int) - 48)=(regTo s.data.toList (k+1):Int)):=Lib.hid (by rw[hto];omega)
    have HA:=Lib.hid ha
    rw[←ha]
    clear hdg hto hb1 hb2 ha
    go_wp2
    go_round
    case rel=>exact ⟨k+1,by omega,by omega,by go_num,by rw[HFin.out],HNx⟩
    case measure=>simp[intOf];omega
   ·have hr:=HReg.out k hlt hk1 (by simpa using hdg)
    have hnd: ¬(48≤(s[k].toNat:Int)∧(s[k].toNat:Int)≤57):=fun h=>hdg ((digit_iff _).2 h)
    have HR:=Lib.hid hr
    clear hdg hr hto hb1 hb2 ha
    by_cases hlo:(s[k].toNat:Int)<48
    ·go_wp2
     go_ret2
     exact reg_out_no _ HR.out
    ·have hhi:(57:Int)<(s[k].toNat:Int):=by omega
     clear hnd
     go_wp2
     go_ret2
     exact reg_out_no _ HR.out
  ·obtain rfl:k=s.size:=by omega
   have hfin:=HAll.out (fun j hj h1=>HD.out j hj h1 hj)
   rw[←ha] at hfin ⊢
   have HF:=Lib.hid hfin
   clear hfin ha hb1 hb2
   go_wp2
   go_ret2
   exact ⟨a,by rw[HF.out.1];rfl,HF.out.2,rfl⟩):P:=h
theorem m11 {P:Prop} (h:P:=by
 have h6:=@run_callFunc_extern Tryz.prog 105 _ (fun args=>ReflectliteValue.unpack (args.getD 0 (.tuple #[]))) Tryz.func105 (by kernel_rfl) (by kernel_rfl) (by kernel_rfl) (by kernel_rfl)
 have h7:=@run_callFunc_extern Tryz.prog 106 _ (ReflectliteValue.methodAny (ReflectliteValue.valueError "reflectlite.Value.Type" 0) (fun t _ _ _=>ReflectliteType.toType t)) Tryz.func106 (by kernel_rfl) (by kernel_rfl) (by kernel_rfl) (by kernel_rfl)
 have h8:=@run_callFunc_extern Tryz.prog 107 _ (ReflectliteValue.method (ReflectliteValue.valueError "reflectlite.Value.IsNil" 0) ReflectliteValue.isNil) Tryz.func107 (by kernel_rfl) (by kernel_rfl) (by kernel_rfl) (by kernel_rfl)
 have h27:=@run_callFunc_extern Tryz.prog 395 _ (ReflectliteType.abiMethod fun t=>do pure (.int .u8 (←Rtype.kind t))) Tryz.func395 (by kernel_rfl) (by kernel_rfl) (by kernel_rfl) (by kernel_rfl)
 have h37:=@run_callFunc_extern Tryz.prog 418 _ (ReflectliteType.method ReflectliteType.elem) Tryz.func418 (by kernel_rfl) (by kernel_rfl) (by kernel_rfl) (by kernel_rfl)
 have h38:=@run_callFunc_extern Tryz.prog 419 _ (ReflectliteType.relation "Implements" ReflectliteType.implements_) Tryz.func419 (by kernel_rfl) (by kernel_rfl) (by kernel_rfl) (by kernel_rfl)
 have h10:=@run_callFunc_extern Tryz.prog 179 _ ReflectliteType.typeOf Tryz.func179 (by kernel_rfl) (by kernel_rfl) (by kernel_rfl) (by kernel_rfl)
 have h35:=@run_callFunc_extern Tryz.prog 416 _ (ReflectliteType.relation "AssignableTo" ReflectliteType.assignableTo) Tryz.func416 (by kernel_rfl) (by kernel_rfl) (by kernel_rfl) (by kernel_rfl)
 exact q11):P:=h
theorem m12 {P:Prop} (h:P:=by
 obtain ⟨gl,cl',ql,hcl,hgl⟩:=row_code hlv hF.lib.1
 injection ql with ql1 _ ql2
 subst ql1 ql2
 have hs0:HS w []:=HS.nil w
 obtain ⟨wA,hwA⟩: ∃wA,wA=((w.alloc (.cells #[.int .i64 (F.workers:Int), .int .i64 (cells:Int)] 23)).alloc (.cells #[.slice (some ⟨gl,0,none⟩) F.lib.length cl, .int .i64 F.loop, .slice Ac F.calls.length cc] 77)).alloc (.cells #[.slice Ap F.code.length cp, .int .i64 entry, .int .i64 F.wide, .int .i64 F.narrow] 26):=⟨_,rfl⟩
 have hbA:Below w.heap.size w wA:=by rw[hwA];exact ((((Below.refl _ w).alloc (Nat.le_refl _) _).alloc (by simp) _).alloc (by simp;omega) _)
 have h1:HS wA [(w.heap.size+2, .cells #[.slice Ap F.code.length cp, .int .i64 entry, .int .i64 F.wide, .int .i64 F.narrow] 26 (0,0)),(w.heap.size+1, .cells #[.slice (some ⟨gl,0,none⟩) F.lib.length cl, .int .i64 F.loop, .slice Ac F.calls.length cc] 77 (0,0)),(w.heap.size, .cells #[.int .i64 (F.workers:Int), .int .i64 (cells:Int)] 23 (0,0))]:=by
  rw[hwA]
  refine HS.push (HS.push (HS.push hs0 ((Below.refl _ _).alloc (Nat.le_refl _) _) (heap_alloc_new _ _) (Nat.le_refl _)) ((Below.refl _ _).alloc (Nat.le_refl _) _) ?_ (by simp)) ((Below.refl _ _).alloc (Nat.le_refl _) _) ?_ (by simp)
  ·have:=heap_alloc_new (w.alloc (.cells #[.int .i64 (F.workers:Int), .int .i64 (cells:Int)] 23)) (.cells #[.slice (some ⟨gl,0,none⟩) F.lib.length cl, .int .i64 F.loop, .slice Ac F.calls.length cc] 77)
   simpa using this
  ·have:=heap_alloc_new ((w.alloc (.cells #[.int .i64 (F.workers:Int), .int .i64 (cells:Int)] 23)).alloc (.cells #[.slice (some ⟨gl,0,none⟩) F.lib.length cl, .int .i64 F.loop, .slice Ac F.calls.length cc] 77)) (.cells #[.slice Ap F.code.length cp, .int .i64 entry, .int .i64 F.wide, .int .i64 F.narrow] 26)
   simpa using this
 have hkI:=hF.workers
 have hkI2:(1:Int)≤(F.workers:Int)∧(F.workers:Int)≤64:=by omega
 exact q12):P:=h
theorem m13 {P:Prop} (h:P:=by
 have HOf:=Lib.hid hOf
 have HCell:=Lib.hid hCell
 obtain ⟨h1,h2,h3,h4,h5,h6,h7,h8⟩:=hns
 clear hOf hCell
 go_enter Tryz.func232,Tryz.ntmps232
 go_wp2_with fail
 refine HOf.out.mono ?_
 rintro e w1 ⟨rfl,hb1⟩
 unfold shapeV
 have HB1:=Lib.hid hb1
 clear hb1
 go_upto_region 18 with fail
 exact q13):P:=h
theorem m14 {P:Prop} (h:P:=by
 have hz1:=heap_alloc_new wr (.cells #[.int .u64 id, .int .i64 st, .int .u64 ho, .int .u64 va, .int .u64 jo, .bool lo, .bool sp] 100)
 have hba:Below wr.heap.size wr (wr.alloc (.cells #[.int .u64 id, .int .i64 st, .int .u64 ho, .int .u64 va, .int .u64 jo, .bool lo, .bool sp] 100)):=(Below.refl _ _).alloc (Nat.le_refl _) _
 have hsz:=HR.out.2.size
 have hfew:(allT (l.take i)).length≤64:=by
  unfold allT
  rw[List.length_map]
  exact Nat.le_trans (List.length_filter_le _ _) (by rw[List.length_take];omega)
 obtain ⟨v',w3,hrun,hown,hg,-⟩:=appT (w:=wr.alloc (.cells #[.int .u64 id, .int .i64 st, .int .u64 ho, .int .u64 va, .int .u64 jo, .bool lo, .bool sp] 100)) w.heap.size 97 97 100 7 48 Tryz.underlying97 (by kernel_rfl) (by decide) (by decide) (ownsRow_of_block HR.out.1 fun k e=>hba.block k (HR.out.1.lt k e).2) (row_blk7 (base:=0) hz1 (Nat.zero_le _)) (thr7_one ⟨id,st,ho,va,jo,lo,sp⟩) (by omega) (by simp;omega)
 have hbe:Below w.heap.size w w3:=(HR.out.2.trans (hba.mono hsz)).grown hg (by simp;omega) fun k e=>(HR.out.1.lt k e).1
 have hrow:w3.ownsRow w.heap.size 100 7 v' (allT (l.take (i+1))).length (thrC (allT (l.take (i+1)))):=by
  rw[hst,List.length_append]
  have e:thrC (allT (l.take i)++ [⟨id,st,ho,va,jo,lo,sp⟩])=thrC (allT (l.take i))++ [.int .u64 id, .int .i64 st, .int .u64 ho, .int .u64 va, .int .u64 jo, .bool lo, .bool sp]:=by unfold thrC;rw[List.flatMap_append];rfl
  rw[e]
  exact hown
 generalize (allT (l.take i)).length=n0 at*
 have HRun:=Lib.hid hrun
 have HN:=Lib.hid (And.intro hrow hbe)
 clear hT hG hil hst q hgg hlt hi hz hz1 hba hsz hfew hrun hown hg hbe hrow
 exact q14):P:=h
theorem m15 {P:Prop} (h:P:=by
 rw[←hS,←hwa]
 clear hS hwa HB1
 obtain ⟨s0,s1,s2,s5⟩:=H.cell
 go_upto_region 20 with (first|(go_at_call 283;refine (HCell.out _).mono ?_;rintro e w' ⟨rfl,rfl⟩) |(at_builtin;refine rs_app rfl (.tmp 30) (.tmp 31) rfl H (by decide) rfl rfl ?_;clear H;intro A0 c0 wb0 H))
 obtain ⟨s0,s1,s2,s5⟩:=H.cell
 exact q15):P:=h
theorem m16 {P:Prop} (h:P:=by
 have HR:=Lib.hid hr
 clear hR hX hx hr hs
 go_enter Tryz.func219,Tryz.ntmps219
 go_wp2_with fail
 refine HReg.out.mono ?_
 rintro e w' ⟨m,rfl,hm,rfl⟩
 obtain rfl:=hm r HR.out
 clear hm
 rw[HR.out]
 simp only[Option.isSome_some]
 go_wp2
 go_ret
 exact HFin.out):P:=h
theorem m17 {P:Prop} (h:P:=by
 obtain ⟨fr,ht⟩:=h.tab
 have tL:tagOf wr BL=77+2:=tag_cells h.lib
 have tR:tagOf wr B=77+2:=tag_cells h.res
 have hL2:w2.heap[BL]?=wr.heap[BL]?:=hg.block BL (blk_lt h.lib) (own_ne h.rows tL (by decide))
 have hbl: ∀j,j<wr.heap.size→j≠BL→some j≠vr.ownBlock→(w2.setCell ⟨BL,2,none⟩ v').heap[j]?=wr.heap[j]?:=fun j hj h1 h2=>(Below.heap_setCell _ _ _ _ h1).trans (hg.block j hj h2)
 refine ⟨set_block (hL2.trans h.lib) _,(hbl B (blk_lt h.res) (by have:=h.lt;omega) (own_ne h.rows tR (by decide))).trans h.res,ownsRow_of_block h.cod fun j hj=>hbl j (h.cod.lt j hj).2 (ne_of_tag (tag_row h.cod hj) tL (by decide)) (own_ne h.rows (tag_row h.cod hj) (by decide)),ownsRow_of_block h.labs fun j hj=>hbl j (h.labs.lt j hj).2 (ne_of_tag (tag_row h.labs hj) tL (by decide)) (own_ne h.rows (tag_row h.labs hj) (by decide)),ownsRow_of_block hr fun j hj=>Below.heap_setCell _ _ _ _ (ne_of_tag (tag_row hr hj) ((tag_same hL2).trans tL) (by decide)),⟨fr,(hbl tb (blk_lt ht) (ne_of_tag (tag_cells ht) tL (by decide)) (own_ne h.rows (tag_cells ht) (by decide))).trans ht⟩,h.lt⟩):P:=h
theorem m18 {P:Prop} (h:P:=by
 have p0:w3.cell? ⟨w.heap.size+1,0,none⟩=some (.slice Ap prog.length cp):=blk_cell z1 0
 have p1:w3.cell? ⟨w.heap.size+1,1,none⟩=some (.int .i64 entry):=blk_cell z1 1
 have p2:w3.cell? ⟨w.heap.size+1,2,none⟩=some (.int .i64 wide):=blk_cell z1 2
 have p3:w3.cell? ⟨w.heap.size+1,3,none⟩=some (.int .i64 narrow):=blk_cell z1 3
 have b0:w3.cell? ⟨w2.heap.size,0,none⟩=some (.slice Ac code.length cc):=blk_cell z3 0
 have b1:w3.cell? ⟨w2.heap.size,1,none⟩=some (.int .i64 L):=blk_cell z3 1
 have b2:w3.cell? ⟨w2.heap.size,2,none⟩=some (.slice Ar 45 cr):=blk_cell z3 2
 have hc3:w3.ownsRow 0 68 7 (.slice Ac code.length cc) code.length (codeC code):=Asm.row_base (ownsRow_of_block HC.out fun b e=>hb3.block b (HC.out.lt b e).2) (Nat.zero_le _)
 have hr3:w3.ownsRow 0 184 6 (.slice Ar 45 cr) (libCalls labels).length (callC (libCalls labels)):=by
  rw[calls_len,calls_rows]
  exact Asm.row_base (ownsRow_of_block HR.out fun b e=>hb3.block b (HR.out.lt b e).2) (Nat.zero_le _)
 have hp3:w3.ownsRow 0 68 7 (.slice Ap prog.length cp) prog.length (codeC prog):=ownsRow_of_block HPv.out fun b e=>hB3.block b (HPv.out.lt b e).2
 exact q18):P:=h
theorem m19 {P:Prop} (h:P:=by
 go_enter Tryz.func282,Tryz.ntmps282
 go_wp2
 go_ret2
 exact rreg_no _ HR.out):P:=h
theorem m20 {P:Prop} (h:P:=by
 have HI:=Lib.hid hlt
 have HQ:=Lib.hid (fun nq=>show wr.drewN nq=w.drewN (q+nq) from by rw[HW.out];exact World.drewN_drewN ..)
 clear p1 p2 hlt hi e12 e13 e22 e23 hil
 go_wp2_with fail
 go_quiet (fail)
 go_wp2_with fail
 have HW2:Hid (wr.drewN nq=w.drewN (q+nq)):=Lib.hid (HQ.out nq)
 have HI2:=HI.out
 go_roundw
 case rel=>first|exact ⟨i+1,q+nq,by omega,by go_num,HW2⟩ |((repeat apply Exists.intro);exact ⟨⟨i+1,q+nq,by omega,by go_num,HW2⟩,rfl⟩)
 case measure=>have:=HI.out;simp[intOf];omega):P:=h
theorem m21 {P:Prop} (h:P:=by
 obtain ⟨q1,q2⟩:=HL.out
 have hne: ∀j,w.heap.size<j→ ∀(u0 u1 u2:Value),(((wr.setCell ⟨w.heap.size,0,none⟩ u0).setCell ⟨w.heap.size,1,none⟩ u1).setCell ⟨w.heap.size,2,none⟩ u2).heap[j]?=wr.heap[j]?:=fun j hj u0 u1 u2=>((Below.heap_setCell _ _ _ _ (by show j≠w.heap.size;omega)).trans (Below.heap_setCell _ _ _ _ (by show j≠w.heap.size;omega))).trans (Below.heap_setCell _ _ _ _ (by show j≠w.heap.size;omega))
 refine ⟨_,_,rfl,row_base (b:=w.heap.size+1) (ownsRow_of_block q1.cod fun j hj=>hne j (q1.cod.lt j hj).1 _ _ _) (Nat.le_succ _),row_base (b:=w.heap.size+1) (ownsRow_of_block ?_ fun j hj=>hne j (q1.rows.lt j hj).1 _ _ _) (Nat.le_succ _),((q2.setCell (p:=⟨w.heap.size,0,none⟩) (Nat.le_refl _) _).setCell (p:=⟨w.heap.size,1,none⟩) (Nat.le_refl _) _).setCell (p:=⟨w.heap.size,2,none⟩) (Nat.le_refl _) _⟩
 have:=q1.rows
 rw[List.take_of_length_le (by rw[tab_len];exact Nat.le_refl _)] at this
 exact this):P:=h
theorem m22 {P:Prop} (h:P:=by
 have hfind:findV (findL labels (⟨#[108,111,111,112]⟩:ByteArray).data.toList)= .tuple #[.int .i64 (loopOf labels:Int), .bool (findL labels [108,111,111,112]).isSome]:=rfl
 rw[hfind]
 generalize (findL labels [108,111,111,112]).isSome=fb
 have h4lib:(w3.setCell ⟨w2.heap.size,1,none⟩ (.int .i64 (loopOf labels:Int))).heap[w2.heap.size]?=some (.cells #[.slice Ac code.length cc, .int .i64 (loopOf labels:Int), .slice none 0 0] 77 (0,0)):=set_block hlib3 _
 have h4b: ∀k,k<w2.heap.size→(w3.setCell ⟨w2.heap.size,1,none⟩ (.int .i64 (loopOf labels:Int))).heap[k]?=w2.heap[k]?:=fun k hk=>(Below.heap_setCell _ _ _ _ (by show k≠w2.heap.size;omega)).trans (hb23.block k hk)
 have h4B:Below w2.heap.size w2 (w3.setCell ⟨w2.heap.size,1,none⟩ (.int .i64 (loopOf labels:Int))):=hb23.setCell (p:=⟨w2.heap.size,1,none⟩) (Nat.le_refl _) _
 have hz4:(w3.setCell ⟨w2.heap.size,1,none⟩ (.int .i64 (loopOf labels:Int))).heap.size=w3.heap.size:=by simp[World.setCell]
 have H4:=Lib.hid h4lib
 have H4b:=Lib.hid h4b
 have H4B:=Lib.hid h4B
 exact q22):P:=h
theorem m23 {P:Prop} (h:P:=by
 go_enter Tryz.func7,Tryz.ntmps7
 go_wp2_with fail
 try rw[←hwA]
 clear hwA
 refine HLib.out.mono ?_
 rintro e w2 ⟨vc,vr,rfl,hc,hr,hb2⟩
 obtain ⟨Ac,cc,rfl⟩:=Asm.own_shape hc
 obtain ⟨Ar,cr,rfl⟩:=Asm.own_shape hr
 generalize hL:(loopOf labels:Int)=L
 have HL:=Lib.hid hL
 have HC:=Lib.hid hc
 have HR:=Lib.hid hr
 have HB2:=Lib.hid hb2
 clear hL hc hr hb2 HLib
 go_upto_region 2 with fail
 have hb3:Below w2.heap.size w2 (w2.alloc (.cells #[.slice Ac code.length cc, .int .i64 L, .slice Ar 45 cr] 77)):=(Below.refl _ _).alloc (Nat.le_refl _) _
 have z3:=heap_alloc_new w2 (.cells #[.slice Ac code.length cc, .int .i64 L, .slice Ar 45 cr] 77)
 generalize hw3:w2.alloc (.cells #[.slice Ac code.length cc, .int .i64 L, .slice Ar 45 cr] 77)=w3 at*
 have hb23:=HB2.out.trans (hb3.mono HB2.out.size)
 have z0:=(hb23.block _ (blk_in L0.out)).trans L0.out
 have z1:=(hb23.block _ (blk_in L1.out)).trans L1.out
 have hB3:Below w.heap.size w w3:=HB0.out.trans (hb23.mono HB0.out.size)
 exact q23):P:=h
theorem m24 {P:Prop} (h:P:=by
 have HR:=Lib.hid rreg_any
 have hcv:IntKind.u64.wrap n=n:=by rw[IntKind.wrap_u64];omega
 have hneg:=reg_neg
 clear hf hn
 exact q24):P:=h
theorem m25 {P:Prop} (h:P:=by
 have f6:=XvalueOf27
 have f7:=Xtype27
 have mK:=XmethodKind
 have mE:=XmethodElem
 have mI:=XmethodImplements
 have k27:=Xkind27
 have k25:=Xkind25
 have e27:=Xelem27
 have i25:=Ximplements25
 have n8:=XisNil27 ⟨w.heap.size,0,none⟩ t ((w.alloc (.cells #[.pointer (some t)] 94)).alloc (.cells #[.pointer (some ⟨4,94,none⟩), .pointer (some ⟨w.heap.size,0,none⟩), .int .u64 150] 247)) (by simp)
 have hlt:0<w.heap.size:=by
  rcases Nat.eq_zero_or_pos w.heap.size with h0|h
  ·simp[World.cell?,h0] at hg
  ·exact h
 have hg2:((w.alloc (.cells #[.pointer (some t)] 94)).alloc (.cells #[.pointer (some ⟨4,94,none⟩), .pointer (some ⟨w.heap.size,0,none⟩), .int .u64 150] 247)).cell? ⟨0,0,none⟩=some (.iface 369 (.agg #[.pointer (some ⟨4,29,none⟩)])):=by
  rw[World.cell?_alloc_lt _ _ ⟨0,0,none⟩ (by simp),World.cell?_alloc_lt _ _ ⟨0,0,none⟩ hlt];exact hg
 exact q25):P:=h
theorem m26 {P:Prop} (h:P:=by
 rcases ho with rfl|rfl|rfl|rfl|rfl|rfl|rfl|rfl|rfl|rfl|rfl|rfl|rfl|rfl|rfl
 all_goals
  go_enter Tryz.func264,Tryz.ntmps264
  go_wp2
  refine bodyPost_ret (v:=shpV _) ?hres rfl ⟨rfl,?_⟩
  case hres=>simp[results,Tryz.results264,go_sem,shpV,hasA,hasB,hasC,hasV,lessBK,lessCK,jumpsK]
  repeat (first|exact Below.refl _ _|refine Below.setCell ?_ (by simp) _|refine Below.alloc ?_ (by simp) _)):P:=h
theorem m27 {P:Prop} (h:P:=by
 go_enter Tryz.func219,Tryz.ntmps219
 go_wp2_with fail
 refine HReg.out.mono ?_
 rintro e w' ⟨m,rfl,hm,rfl⟩
 exact q27):P:=h
theorem m28 {P:Prop} (h:P:=by
 unfold numL at h
 split at h
 case isFalse=>cases h
 rename_i hh
 obtain ⟨h0,hd,hl,hv⟩:=hh
 have hn0:0<s.size:=by
  rcases Nat.eq_zero_or_pos s.size with h|h
  ·exact absurd (List.eq_nil_of_length_eq_zero (by simpa using h)) h0
  ·exact h
 have hn20:s.size≤20:=by simpa using hl
 have hdig: ∀k (hk:k<s.size),48≤(s[k].toNat:Int)∧(s[k].toNat:Int)≤57:=by
  intro k hk
  have:=List.all_eq_true.1 hd s[k] (by
   have:s[k]=s.data.toList[k]'(by simpa using hk):=rfl
   rw[this];exact List.getElem_mem _)
  simp[isDigit] at this
  omega
 have hlt: ∀k,valL (s.data.toList.take k)<18446744073709551616:=fun k=>Nat.lt_of_le_of_lt (val_take _ k) hv
 have HV:=Lib.hid (Option.some.inj h)
 have HDg:=Lib.hid hdig
 have HLt:=Lib.hid hlt
 have hnI0:(0:Int)<(s.size:Int):=by omega
 have hnI:(s.size:Int)≤20:=by omega
 have hne:((s.size:Int)==0)=false:=beq_eq_false_iff_ne.2 (by omega)
 exact q28):P:=h
theorem m29 {P:Prop} (h:P:=by
 have E0:=Lib.hid h0.code
 have N1:Hid (∀j u,([.int .i64 z.op, .int .i64 z.a, .int .i64 z.b, .int .i64 z.c, .int .u64 z.v, .int .i64 z.m, .int .i64 z.w]:List Value)[j]?=some u→(((wc.alloc (.cells #[.int .i64 z.op, .int .i64 z.a, .int .i64 z.b, .int .i64 z.c, .int .u64 z.v, .int .i64 z.m, .int .i64 z.w] 68)).drew)).cell? ((⟨wc.heap.size,0,none⟩:Addr).add j)=some u):=Lib.hid (by
  intro j u hu
  rw[Addr.add_lit,Nat.zero_add]
  exact (World.cell?_alloc_at _ _ _ _ rfl).trans (by simpa using hu))
 have O1:Hid (∀u∈([.int .i64 z.op, .int .i64 z.a, .int .i64 z.b, .int .i64 z.c, .int .u64 z.v, .int .i64 z.m, .int .i64 z.w]:List Value),u.oneCell'=true):=Lib.hid (by
  intro u hu
  simp at hu
  rcases hu with rfl|rfl|rfl|rfl|rfl|rfl|rfl<;>rfl)
 exact q29):P:=h
theorem m30 {P:Prop} (h:P:=by
 have hkl:k<l.length:=by rw[←HN.out];exact hlt
 have HC:=Lib.hid (HM.out k hkl)
 have hcs:=(H.out.below hg HB.out)
 obtain ⟨xo,xa,xb,xc,xv,xm,xw,hx⟩: ∃xo xa xb xc xv xm xw,l[k]=⟨xo,xa,xb,xc,xv,xm,xw⟩:=⟨_,_,_,_,_,_,_,rfl⟩
 obtain ⟨c0,c1,c2,c3,c4,c5,c6⟩:=hcs.cells hkl hx
 exact q30):P:=h
theorem m31 {P:Prop} (h:P:=by
 obtain ⟨a1,a2⟩:=(low_iff _).1 h3
 have b1:decide (((s[0]'h0s).toNat:Int)<97)=false:=decide_eq_false (by omega)
 have b2:decide ((122:Int)<((s[0]'h0s).toNat:Int))=false:=decide_eq_false (by omega)
 have hno: ∀k (hk:k<s.size),isName s[k]=false→namedL s.data.toList=false:=by
  intro k hk h
  unfold namedL
  have:s.data.toList.all isName=false:=by
   rw[List.all_eq_false]
   exact ⟨s[k],mem_list s k hk,by simp[h]⟩
  rw[this];simp
 have hyes:(∀k (hk:k<s.size),isName s[k]=true)→namedL s.data.toList=(regL s.data.toList).isNone:=by
  intro h
  unfold namedL
  rw[all_list h,head_list s h0s,decide_eq_true (by rw[len_list];omega)]
  simp[h3]
 have HNo:=Lib.hid hno
 have HYes:=Lib.hid hyes
 clear hno hyes h3 a1 a2
 exact q31):P:=h
theorem m32 {P:Prop} (h:P:=by
 obtain rfl:k=45:=by omega
 have f0:wr.cell? ⟨BL,0,none⟩=some (.slice Ac code.length cc):=by simp[World.cell?,q1.lib]
 have f1:wr.cell? ⟨BL,1,none⟩=some (.int .i64 (loopOf labels:Int)):=by simp[World.cell?,q1.lib]
 have f2:wr.cell? ⟨BL,2,none⟩=some (.slice Ar 45 cr):=by simp[World.cell?,q1.lib]
 have b0:wr.cell? ⟨w.heap.size,0,none⟩=some (.slice none 0 0):=by simp[World.cell?,q1.res]
 have b1:wr.cell? ⟨w.heap.size,1,none⟩=some (.int .i64 0):=by simp[World.cell?,q1.res]
 have b2:wr.cell? ⟨w.heap.size,2,none⟩=some (.slice none 0 0):=by simp[World.cell?,q1.res]
 have bf: ∀o,wr.frozen? ⟨w.heap.size,o,none⟩=false:=fun o=>by simp[World.frozen?,q1.res]
 exact q32):P:=h
theorem m33 {P:Prop} (h:P:=by
 obtain ⟨s0,s1,s2,s5⟩:=H.cell
 exact m39):P:=h
theorem m34 {P:Prop} (h:P:=by
 have HF:Hid (∀W,Calls Tryz.prog 264 #[.int .i64 o] W fun e w'=>e= .returned (.agg #[.bool (hasA o), .bool (hasB o), .bool (hasC o), .bool (hasV o), .bool (lessBK o), .bool (lessCK o), .bool (jumpsK o), .bool true])∧Below W.heap.size W w'):=Lib.hid fun W=>rof_any (by omega) W
 have HR:=Lib.hid rreg_any
 exact q34):P:=h
theorem m35 {P:Prop} (h:P:=by
 have hc48:48≤c:=by omega
 have hc57:c≤57:=by omega
 have HFin:Hid (a*10+(c - 48)=(valL (s.data.toList.take (k+1)):Int)):=Lib.hid (by rw[HSn.out];omega)
 clear hb1 ha d1 d2
 go_wp2_with fail
 rw[←hc]
 clear hc
 refine HD.out.mono ?_
 rintro e w' ⟨rfl,rfl⟩
 go_wp2
 go_round
 case rel=>first|exact ⟨k+1,by omega,by go_num,by rw[←HFin.out]⟩ |((repeat apply Exists.intro);exact ⟨⟨k+1,by omega,by go_num,by rw[←HFin.out]⟩,rfl⟩)
 case measure=>simp[intOf];omega):P:=h
theorem m36 {P:Prop} (h:P:=by
 have hltI:(k:Int)<(s.size:Int):=by omega
 have hk20:(k:Int)<20:=by omega
 obtain ⟨d1,d2⟩:=HDg.out k hlt
 have hb1:=HLt.out (k+1)
 rw[take_snoc s k hlt,val_snoc] at hb1
 have HSn:Hid (valL (s.data.toList.take (k+1))=valL (s.data.toList.take k)*10+(s[k].toNat - 48)):=Lib.hid (by rw[take_snoc s k hlt,val_snoc])
 obtain ⟨a,ha⟩: ∃a:Int,a=(valL (s.data.toList.take k):Int):=⟨_,rfl⟩
 obtain ⟨c,hc⟩: ∃c:Int,c=(s[k].toNat:Int):=⟨_,rfl⟩
 have ha0:0≤a:=by omega
 have hab:a*10+(c - 48)<18446744073709551616:=by omega
 have HA:=Lib.hid ha
 have HC:=Lib.hid hc
 rw[←ha]
 exact q36):P:=h
theorem m37 {P:Prop} (h:P:=by
 go_enter Tryz.func280,Tryz.ntmps280
 go_wp2_with fail
 go_ret
 exact ⟨rfl,HB0.out⟩):P:=h
theorem m38 {P:Prop} (h:P:=by
 ·go_wp2_with fail
  go_roundw
  case rel=>exact ⟨k+1,by omega,by go_num,HB2,Lib.hid fun j hj hjk=>by
   by_cases e:j=k
   ·subst e;exact HOK.out
   ·exact HG.out j hj (by omega)⟩
  case measure=>simp[intOf];omega):P:=h
theorem m39 {P:Prop} (h:P:=by
 go_wp2_with (go_at_call 283;refine (HCell.out _).mono ?_;rintro e w' ⟨rfl,rfl⟩)
 go_ret
 exact ⟨_,rfl,H.own,H.bd⟩):P:=h
theorem m40 {P:Prop} (h:P:=by
 have k20:w.cell? ⟨K,20,none⟩=some (.int .i64 F.base):=blk_cell (h.hs.at' _ List.mem_cons_self) 20
 obtain ⟨pu,hpp⟩:=bx.p
 have p2:w.cell? ⟨b2,2,none⟩=some (.int .i64 F.wide):=blk_cell (h.hs.at' _ (List.mem_cons_of_mem _ hpp)) 2
 have p3:w.cell? ⟨b2,3,none⟩=some (.int .i64 F.narrow):=blk_cell (h.hs.at' _ (List.mem_cons_of_mem _ hpp)) 3
 have hs1:IntKind.i64.wrap (F.base+F.wide)=F.base+F.wide:=by rw[IntKind.wrap_i64];omega
 have hs2:IntKind.i64.wrap (F.base+F.wide+F.narrow)=(lo:Int):=by rw[IntKind.wrap_i64];omega
 exact q40):P:=h
theorem m41 {P:Prop} (h:P:=by
 refine ⟨(hb5'.block _ (by omega)).trans H4.out,((hb5'.block _ (by omega)).trans (H4b.out _ (by omega))).trans HR2.out,ownsRow_of_block HC2.out fun k hk=>(hb5'.block _ ?_).trans (H4b.out _ (HC2.out.lt k hk).2),ownsRow_of_block HL2.out fun k hk=>(hb5'.block _ ?_).trans (H4b.out _ (HL2.out.lt k hk).2),World.ownsRow_nil _ _ _ _,htab,by omega⟩
 ·have:=(HC2.out.lt k hk).2;omega
 ·have:=(HL2.out.lt k hk).2;omega):P:=h
theorem m42 {P:Prop} (h:P:=by
 ·split at hl
  ·cases hl
  ·dsimp only at hl
   split at hl
   ·cases hl
   ·split at hl
    ·cases hl
    ·split at hl
     ·obtain ⟨z,_,e⟩:=Option.map_eq_some_iff.1 hl
      cases e
     ·cases hl):P:=h
theorem m43 {P:Prop} (h:P:=by
 ·obtain rfl:i=64:=by omega
  have e:l.take 64=l:=List.take_of_length_le (by rw[HLen.out];exact Nat.le_refl _)
  clear hT hG hgg hlt
  have q:=HR.out.1
  rw[e] at q
  have hl:(allT (l.take 64)).length=(allT l).length:=by rw[e]
  have HQ:=Lib.hid q
  have HL:=Lib.hid hl
  clear e q hl
  go_wp2_with fail
  go_ret
  refine ⟨.slice A0 (allT l).length cc,?_,HQ.out,HR.out.2⟩
  rw[←HL.out]
  rfl):P:=h
theorem m44 {P:Prop} (h:P:=by
 have HF:Hid (∀W,Calls Tryz.prog 264 #[.int .i64 o] W fun e w'=>e= .returned (.agg #[.bool true, .bool true, .bool false, .bool true, .bool true, .bool false, .bool false, .bool true])∧Below W.heap.size W w'):=Lib.hid fun W=>by rw[←hf];exact rof_any ho W
 exact q44):P:=h
theorem m45 {P:Prop} (h:P:=by
 go_enter Tryz.func160,Tryz.ntmps160
 go_wp2_with fail
 refine (HF.out _).mono ?_
 rintro e w1 ⟨v,rfl,hv,hb⟩
 go_wp2_with fail
 go_ret
 exact ⟨v,rfl,hv,hb⟩):P:=h
theorem m46 {P:Prop} (h:P:=by
 go_wp2_with fail
 refine wp_loop_rounds 1 ?_
 rw[rounds_succ]
 go_wp2_with fail
 go_ret
 exact ⟨rfl,rfl⟩):P:=h
theorem m47 {P:Prop} (h:P:=by
 have hltI:(i:Int)<(n:Int):=by omega
 have hil:i<l.length:=by rw[←HN.out];exact hlt
 obtain ⟨g1,d1,e1,_,_,_,p1,_⟩:=own_at H1.out (by omega)
 obtain ⟨g2,d2,e2,_,_,_,p2,_⟩:=own_at H2.out (by omega)
 injection e1 with e11 e12 e13
 injection e2 with e21 e22 e23
 subst e11 e21
 exact q47):P:=h
theorem m48 {P:Prop} (h:P:=by
 obtain ⟨fr,ht⟩:=h.tab
 exact ⟨(hb.block _ (blk_lt h.lib)).trans h.lib,(hb.block _ (blk_lt h.res)).trans h.res,ownsRow_of_block h.cod fun k hk=>hb.block k (h.cod.lt k hk).2,ownsRow_of_block h.labs fun k hk=>hb.block k (h.labs.lt k hk).2,ownsRow_of_block h.rows fun k hk=>hb.block k (h.rows.lt k hk).2,⟨fr,(hb.block _ (blk_lt ht)).trans ht⟩,h.lt⟩):P:=h
theorem m49 {P:Prop} (h:P:=by
 go_upto_region 24 with (first|(go_at_call 283;refine (HCell.out _).mono ?_;rintro e w' ⟨rfl,rfl⟩) |(at_builtin;refine rs_app rfl (.tmp 40) (.tmp 41) rfl H (by decide) rfl rfl ?_;clear H;intro A1 c1 wb1 H))
 obtain ⟨s0,s1,s2,s5⟩:=H.cell
 exact q49):P:=h
theorem m50 {P:Prop} (h:P:=by
 go_enter Tryz.func229,Tryz.ntmps229
 go_wp2
 go_ret
 exact ⟨rfl,0,rfl⟩):P:=h
theorem m51 {P:Prop} (h:P:=by
 go_wp2_with fail
 refine HF.out.mono ?_
 rintro e w1 ⟨v,rfl,hv,hb⟩
 have HV:=Lib.hid hv
 have HB:=Lib.hid hb
 clear hv hb
 go_wp2_with fail
 go_ret
 exact ⟨v,rfl,HV.out,HB.out⟩):P:=h
theorem m52 {P:Prop} (h:P:=by
 go_enter Tryz.func275,Tryz.ntmps275
 go_wp2
 go_ret2
 exact reg_out_no _ HR.out):P:=h
theorem m53 {P:Prop} (h:P:=by
 have hres2:w2.heap[w.heap.size]?=some (.cells #[.slice none 0 0, .int .i64 0, .slice none 0 0] 77 (0,0)):=(hbW.block _ (by omega)).trans (heap_alloc_new w _)
 obtain ⟨Al,cl,rfl⟩:=own_shape hlW
 obtain ⟨Ac,cc,rfl⟩:=own_shape hcW
 have hs2:w.heap.size+1≤w2.heap.size:=by have:=hbW.size;simpa using this
 have HR2:=Lib.hid hres2
 have HC2:=Lib.hid hcW
 have HL2:=Lib.hid hlW
 have HB2:=Lib.hid (HB1.out.trans (hbW.mono (by omega)))
 exact q53):P:=h
theorem m54 {P:Prop} (h:P:=by
 obtain ⟨A1,c1,rfl⟩:=Asm.own_shape h1
 obtain ⟨A2,c2,rfl⟩:=Asm.own_shape h2
 have H1:=Lib.hid h1
 have H2:=Lib.hid h2
 obtain ⟨n,hn⟩: ∃n,n=l.length:=⟨_,rfl⟩
 have hnI:(n:Int)≤1000000:=by omega
 have HN:=Lib.hid hn
 rw[←hn]
 clear h1 h2 hl hn
 exact q54):P:=h
theorem m55 {P:Prop} (h:P:=by
 have HReg:=Lib.hid (register_any s w (by omega))
 obtain ⟨o0,o1,o2,o3,o4,o5,o6,of⟩:=hx.cell
 have hlt:=hx.lt
 exact q55):P:=h
theorem m56 {P:Prop} (h:P:=by
 have HReg:=Lib.hid (rregister_any s w (by omega))
 have HX:=Lib.hid hx
 have HP:=Lib.hid hP
 have HNX:=Lib.hid hX
 exact q56):P:=h
theorem m57 {P:Prop} (h:P:=by
 have k9:w.cell? ⟨K,9,none⟩=some (.pointer (some ⟨X,0,none⟩)):=blk_cell (h.ne.hs.at' _ List.mem_cons_self) 9
 have k20:w.cell? ⟨K,20,none⟩=some (.int .i64 (nb:Int)):=by
  rw[←hnbI]
  exact blk_cell (h.ne.hs.at' _ List.mem_cons_self) 20
 exact q57):P:=h
theorem m58 {P:Prop} (h:P:=by
 clear d1 d2
 go_wp2
 go_round
 case rel=>exact ⟨k+1,by omega,by go_num,HNx⟩
 case measure=>simp[intOf];omega):P:=h
theorem m59 {P:Prop} (h:P:=by
 go_wp2_with fail
 all_goals
  refine HNum.out.mono ?_
  rintro e w3 ⟨rfl,rfl⟩
  go_wp2
  go_ret
  exact HF.out):P:=h
theorem m60 {P:Prop} (h:P:=by
 go_enter Tryz.func216,Tryz.ntmps216
 go_wp2
 go_ret
 exact ⟨rfl,rfl⟩):P:=h
theorem m61 {P:Prop} (h:P:=by
 go_enter Tryz.func212,Tryz.ntmps212
 go_wp2_with fail
 refine H1.out.mono ?_
 rintro e w1 ⟨rfl,rfl⟩
 go_wp2_with fail
 refine (HF.out _ _).mono ?_
 rintro e w1 ⟨⟨ev,rfl,hev⟩,hb1⟩
 go_wp2
 go_ret2
 exact ⟨⟨_,rfl,hev⟩,hb1⟩):P:=h
theorem m62 {P:Prop} (h:P:=by
 clear o0 o1 o2 o3 o4 o5 o6 of hlt hcut hwr
 obtain ⟨o0,o1,o2,o3,o4,o5,o6,of⟩:=HX2.out.cell
 have hlt:=HX2.out.lt
 refine (HNum.out _ HR2.out).mono ?_
 rintro e w2 ⟨rfl,rfl⟩
 go_wp2
 go_ret
 exact ⟨rfl,HX2.out.setM v,HK2.out.trans (keeps_set _ X 5 _) (fun _ h=>Or.inl h)⟩):P:=h
theorem m63 {P:Prop} (h:P:=by
 go_wp2_with fail
 refine (HF.out _ _ _).mono ?_
 rintro e w1 ⟨⟨ev,rfl,hev⟩,hb1⟩
 go_wp2
 go_ret
 rw[HNo.out]
 exact ⟨⟨_,rfl,hev⟩,hb1⟩):P:=h
theorem m64 {P:Prop} (h:P:=by
 go_wp2_with fail
 refine (HNum.out _).mono ?_
 rintro e w' ⟨rfl,rfl⟩
 go_wp2
 go_ret
 exact HFin.out):P:=h
theorem m65 {P:Prop} (h:P:=by
 refine World.cell?_setCell_same' _ _ _ ?_
 rw[World.cell?_alloc_lt _ _ ⟨tb,0,none⟩ (by simp;omega),World.cell?_alloc_lt _ _ ⟨tb,0,none⟩ (by simp;omega),World.cell?_alloc_lt _ _ ⟨tb,0,none⟩ (by simp;omega),World.cell?_alloc_lt _ _ ⟨tb,0,none⟩ htl,ht]
 rfl):P:=h
theorem m66 {P:Prop} (h:P:=by
 go_enter Tryz.func234,Tryz.ntmps234
 go_upto_region 2 with fail
 rw[←HT.out]
 go_wp2_with fail
 refine HNum.out.mono ?_
 rintro e w2 ⟨rfl,rfl⟩
 go_wp2
 go_ret
 exact ⟨rfl,HX2.out.setM v,keeps_set _ X 5 _⟩):P:=h
theorem m67 {P:Prop} (h:P:=by
 dsimp only at h
 split at h
 ·cases h
 ·rename_i v hv
  split at h
  ·cases h
  ·exact ⟨v,hv,by omega,by omega,(Option.some.inj h).symm⟩):P:=h
theorem m68 {P:Prop} (h:P:=by
 exact ⟨blk_cell k0 0,blk_cell k0 1,blk_cell k1 0,blk_cell k1 1,blk_cell k1 2,blk_cell k2 0,blk_cell k2 1,blk_cell k2 2,blk_cell k2 3⟩):P:=h
theorem m69 {P:Prop} (h:P:=by
 go_wp2_with (first|(go_at_call 283;refine (HCell.out _).mono ?_;rintro e w' ⟨rfl,rfl⟩) |(at_builtin;refine rs_app rfl (.tmp 50) (.tmp 51) rfl H (by decide) rfl rfl ?_;clear H;intro A2 c2 wb2 H))
 go_ret
 exact ⟨_,rfl,H.own,H.bd⟩):P:=h
theorem m70 {P:Prop} (h:P:=by
 have hnR: ∀k,v'.ownBlock=some k→k≠R:=fun k hk=>ne_of_tag (tag_row hr hk) ((tag_same hR2).trans h.tagR) (by decide)
 exact q70):P:=h
theorem m71 {P:Prop} (h:P:=by
 subst hc
 all_goals
  rcases hm with ⟨rfl,rfl⟩ |⟨hm0,hm3,hm1,hm2,rfl⟩ |⟨hm0,hm3,hm1,hm2,hw0,hw3,hw1,hw2⟩
  all_goals exact rrtS):P:=h
theorem m72 {P:Prop} (h:P:=by
 have HC:=Lib.hid hC
 clear hC
 go_wp2
 go_ret
 refine ⟨_,rfl,by (try simp);try omega,by (try simp);try omega,⟨(0,0),?_⟩,?_⟩
 ·rw[←HC.out]
  exact heap_new _ _ _ (by simp)
 ·repeat (first|exact Below.refl _ _|refine Below.alloc ?_ (by simp;try omega) _)):P:=h
theorem m73 {P:Prop} (h:P:=by
 obtain ⟨i,hi,hgg,rfl,HR⟩:=hrel
 have Hg:=Lib.hid hgg
 have hiI:(0:Int)≤(i:Int)∧(i:Int)≤64:=by omega
 have hT:=(HR.out.2.block T (blk_in H.out.obj)).trans H.out.obj
 have hG:=(HR.out.2.block gt (blk_in H.out.row)).trans H.out.row
 have c0:wr.cell? ⟨T,0,none⟩=some (.slice (some ⟨gt,0,none⟩) 64 64):=blk_cell hT 0
 obtain ⟨A0,cc,rfl⟩:=Asm.own_shape HR.out.1
 exact q73):P:=h
theorem m74 {P:Prop} (h:P:=by
 subst hz
 rw[if_pos rfl] at hst
 have HS:=Lib.hid hst
 clear hT hG hil hst q hgg hlt hi
 go_wp2_with fail
 go_roundg (64 - (i+1))
 case measure=>have:=Hg.out;have:=Hlt.out;omega
 case rel=>exact ⟨i+1,Hlt.out,rfl,by go_num,Lib.hid (by rw[HS.out];exact HR.out)⟩):P:=h
theorem m75 {P:Prop} (h:P:=by
 rw[List.findIdx?_eq_none_iff]
 intro x hx
 obtain ⟨j,hj,rfl⟩:=List.mem_iff_getElem.1 hx
 rw[HG.out j hj (by have:=HN.out;omega)];rfl):P:=h
theorem m76 {P:Prop} (h:P:=by
 ·obtain rfl:k=s.size:=by omega
  have HFin:Hid ((valL (s.data.toList.take s.size):Int)=v):=Lib.hid (by rw[←HV.out,List.take_of_length_le (by simp)])
  go_wp2
  go_ret2
  first|exact ⟨rfl,rfl⟩ |exact ⟨by rw[←HFin.out];rfl,rfl⟩):P:=h
theorem m77 {P:Prop} (h:P:=by
 obtain rfl:=hm r H1.out
 have HF:=Lib.hid (ropd_plain HP.out HNX.out (hx1.setB m) (hK1.trans (keeps_set w1 X 2 _) (fun _ h=>Or.inl h)))
 rw[H1.out]
 clear hm hx1 hK1 hc4
 simp only[Option.isSome_some]
 go_wp2
 go_ret
 exact HF.out):P:=h
theorem m78 {P:Prop} (h:P:=by
 obtain rfl:=hm r H1.out
 have HF:=Lib.hid (ropd_plain HP.out HNX.out (hx1.setC m) (hK1.trans (keeps_set w1 X 3 _) (fun _ h=>Or.inl h)))
 rw[H1.out]
 clear hm hx1 hK1 hc4
 simp only[Option.isSome_some]
 go_wp2
 go_ret
 exact HF.out):P:=h
theorem m79 {P:Prop} (h:P:=by
 go_wp2_with (go_at_call 104;refine (HI.out _).mono ?_;rintro e w' ⟨rfl,rfl⟩)
 go_roundw
 case rel=>exact ⟨i+1,by omega,by omega,by go_num,by rw[HZ.out],by first|rfl|trivial⟩
 case measure=>simp[intOf];omega):P:=h
theorem m80 {P:Prop} (h:P:=by
 obtain ⟨y,l,lr,vw',h1,h2,h3,h4,h5,h6,h7⟩:=h
 rw[hq,List.drop_of_length_le (Nat.le_refl _)] at h1
 simp[operandsL] at h1
 obtain ⟨e1,e2⟩:=h1
 subst e1 e2
 rw[List.append_nil] at h2
 subst h2
 exact ⟨vw',h4,h5,h6,h7⟩):P:=h
theorem m81 {P:Prop} (h:P:=by
 obtain ⟨D,n,h1,h2,h3⟩:=h
 obtain ⟨v,ps,hrun,hv⟩:=h1.look_ok keyedS Tryz.underlying310 (zeroI w) (plainElem_int Tryz.underlying3 (by decide)) (WideMaps.keyOf_string_mk Tryz.underlying9 hs)
 obtain ⟨c,rfl,hc,hwc⟩:=plainElem_int_inv Tryz.underlying3 hv
 obtain ⟨e1,e2⟩:=h3 s.data.toList
 exact q81):P:=h
theorem m82 {P:Prop} (h:P:=by
 have hm:clientE l entry wide narrow=some ([(codeS,0)],1):=by unfold clientE;rw[if_pos hbad]
 rw[hm]
 clear hm
 have hcase:wide<0∨(¬wide<0∧narrow<0)∨(¬wide<0∧ ¬narrow<0∧256<wide)∨(¬wide<0∧ ¬narrow<0∧ ¬256<wide∧256 - wide<narrow)∨(¬wide<0∧ ¬narrow<0∧ ¬256<wide∧ ¬256 - wide<narrow∧n=0):=by omega
 exact q82):P:=h
theorem m83 {P:Prop} (h:P:=by
 have HRow:=Lib.hid hrow
 have HNod:=Lib.hid hnod
 have HM:=Lib.hid hm
 have HCa:Hid (∀r∈calls,1≤r.num∧r.num≤999∧0≤r.pos∧r.pos<n∧(0≤r.k0∧r.k0≤7)∧(0≤r.k1∧r.k1≤7)∧(0≤r.k2∧r.k2≤7)∧(0≤r.k3∧r.k3≤7)):=Lib.hid (by rw[hn];exact hcalls)
 have hmI:(0:Int)≤(m:Int)∧(m:Int)≤999:=by omega
 exact q83):P:=h
theorem m84 {P:Prop} (h:P:=by
 rw[World.frozen?_alloc_old _ _ ⟨w.heap.size,0,none⟩ (by simp)];exact World.frozen?_alloc_at _ _ _ _ rfl):P:=h
theorem m85 {P:Prop} (h:P:=by
 rw[beq_iff_eq]
 refine (eq_byte _ 58).2 ?_
 have h3:=at_list W0 (W0.size - 1) hl
 rw[hWl] at h3
 rw[List.getLast?_eq_getElem?,show w0.length - 1=W0.size - 1 by omega,h3] at hl58
 exact Option.some.inj hl58):P:=h
theorem m86 {P:Prop} (h:P:=by
 go_enter Tryz.func270,Tryz.ntmps270
 go_wp2
 go_ret
 exact ⟨rfl,rfl⟩):P:=h
theorem m87 {P:Prop} (h:P:=by
 gi_wp2
 refine ⟨by simp, .inl ⟨_,_,rfl,run_takeDeferred hK,?_⟩⟩
 exact ⟨_,results_tmp rfl _ _ _,rfl,hB.trans (belowK_b (w:=w) (Nat.le_refl _) W D _ _ (by simp at hD;omega) hK rfl rfl)⟩):P:=h
theorem m88 {P:Prop} (h:P:=by
 intro i hi
 obtain ⟨g,c',e,h1,h2,h3,h4,_⟩:=own_at h (by omega)
 injection e with e1
 obtain ⟨z1,z2⟩:=labelsC_at hi
 exact ⟨g,e1,h2,(h4 _ (by omega)).trans z1,(h4 _ (by omega)).trans z2⟩):P:=h
theorem m89 {P:Prop} (h:P:=by
 rw[World.cell?_alloc_lt _ _ ⟨w.heap.size,0,none⟩ (by simp)];exact World.cell?_alloc_at _ _ _ _ rfl):P:=h
theorem m90 {P:Prop} (h:P:=by
 have:=h.obj
 exact ⟨by simp[World.cell?,this],by simp[World.cell?,this],by simp[World.cell?,this],by simp[World.cell?,this],by simp[World.cell?,this],fun o=>by simp[World.frozen?,this]⟩):P:=h
theorem m91 {P:Prop} (h:P:=by
 simp only[show ((6:Int)=1)=False by simp,show ((6:Int)=2)=False by simp,show ((6:Int)=3)=False by simp,show ((6:Int)=4)=False by simp,show ((6:Int)=5)=False by simp,show ((6:Int)=7)=False by simp,if_false,if_true] at h
 obtain ⟨r,hr,e⟩:=Option.map_eq_some_iff.1 h
 injection e with e1 e2
 subst e1 e2
 exact q91):P:=h
theorem m92 {P:Prop} (h:P:=by
 have hz:=heap_alloc_new w (.cells #[.slice (some ⟨g,0,none⟩) n c, .int .i64 loop, .slice A m cr] 77)
 have HZ:=Lib.hid hz
 have HB1:=Lib.hid B1
 have hnI:(0:Int)<(n:Int)∧(n:Int)≤2048:=by omega
 have f5:((n:Int)==0)=false:=beq_eq_false_iff_ne.2 (by omega)
 have g5: ¬(n:Int)=0:=by omega
 exact q92):P:=h
theorem m93 {P:Prop} (h:P:=by
 refine wp_loop_rounds 1 ?_
 rw[rounds_succ]
 go_wp2_with fail
 go_roundg (8 - (i+1))
 case measure=>have:=Hg.out;omega
 case rel=>exact ⟨i+1,by have:=Hg.out;omega,rfl,rfl,by go_num,rfl⟩):P:=h
theorem m94 {P:Prop} (h:P:=by
 rw[List.getD_eq_getElem?_getD,List.getD_eq_getElem?_getD,List.getElem?_set]
 by_cases e:p=q
 ·subst e;rw[if_pos rfl,if_pos rfl,if_pos h];rfl
 ·rw[if_neg e,if_neg (Ne.symm e)]):P:=h
theorem m95 {P:Prop} (h:P:=by
 have HF:Hid (∀W,Calls Tryz.prog 264 #[.int .i64 o] W fun e w'=>e= .returned (.agg #[.bool false, .bool false, .bool false, .bool false, .bool false, .bool false, .bool false, .bool true])∧Below W.heap.size W w'):=Lib.hid fun W=>by rw[←hf];exact rof_any ho W
 exact q95):P:=h
theorem m96 {P:Prop} (h:P:=by
 go_wp2_with fail
 exact HTail.out _ _ HI.out _ _ _ _ _ _ _ _ _ _ _ _ _ _ _ _ _ _ _ _ _ _ _ _ _ _ _ _ _ _ _ _ _ _ _ _ _ _ _ _ _ _ _ _ _ _ _ _ _ _ _ _ _ _ _ _ _ _ _ _ _ _ _ _):P:=h
theorem m97 {P:Prop} (h:P:=by
 rcases fldZ xb with rfl|⟨hb,hb2⟩
 ·rcases fldZ xc with rfl|⟨hc,hc2⟩
  ·rcases Int.lt_or_le xv n with hv|hv
   ·exact rrtS
   ·exact rrtS
  ·exact rrtS
 ·exact rrtS):P:=h
theorem m98 {P:Prop} (h:P:=by
 have HF:Hid (∀W,Calls Tryz.prog 264 #[.int .i64 o] W fun e w'=>e= .returned (.agg #[.bool false, .bool false, .bool false, .bool true, .bool false, .bool false, .bool true, .bool true])∧Below W.heap.size W w'):=Lib.hid fun W=>by rw[←hf];exact rof_any ho W
 exact q98):P:=h
theorem m99 {P:Prop} (h:P:=by
 have HF:Hid (∀W,Calls Tryz.prog 264 #[.int .i64 o] W fun e w'=>e= .returned (.agg #[.bool true, .bool true, .bool false, .bool false, .bool false, .bool false, .bool false, .bool true])∧Below W.heap.size W w'):=Lib.hid fun W=>by rw[←hf];exact rof_any ho W
 exact q99):P:=h
theorem m100 {P:Prop} (h:P:=by
 have HF:Hid (∀W,Calls Tryz.prog 264 #[.int .i64 o] W fun e w'=>e= .returned (.agg #[.bool true, .bool false, .bool false, .bool true, .bool false, .bool false, .bool false, .bool true])∧Below W.heap.size W w'):=Lib.hid fun W=>by rw[←hf];exact rof_any ho W
 exact q100):P:=h
theorem m101 {P:Prop} (h:P:=by
 have HF:Hid (∀W,Calls Tryz.prog 264 #[.int .i64 o] W fun e w'=>e= .returned (.agg #[.bool true, .bool false, .bool false, .bool true, .bool false, .bool false, .bool true, .bool true])∧Below W.heap.size W w'):=Lib.hid fun W=>by rw[←hf];exact rof_any ho W
 exact q101):P:=h
theorem m102 {P:Prop} (h:P:=by
 have HF:Hid (∀W,Calls Tryz.prog 264 #[.int .i64 o] W fun e w'=>e= .returned (.agg #[.bool true, .bool true, .bool true, .bool true, .bool true, .bool false, .bool false, .bool true])∧Below W.heap.size W w'):=Lib.hid fun W=>by rw[←hf];exact rof_any ho W
 exact q102):P:=h
theorem m103 {P:Prop} (h:P:=by
 have HF:Hid (∀W,Calls Tryz.prog 264 #[.int .i64 o] W fun e w'=>e= .returned (.agg #[.bool true, .bool true, .bool true, .bool true, .bool false, .bool true, .bool false, .bool true])∧Below W.heap.size W w'):=Lib.hid fun W=>by rw[←hf];exact rof_any ho W
 exact q103):P:=h
theorem m104 {P:Prop} (h:P:=by
 go_enter Tryz.func147,Tryz.ntmps147
 go_wp2_with fail
 refine HW.out.mono ?_
 rintro e w2 ⟨v,rfl,hr,hb⟩
 rw[HN.out] at hr
 exact q104):P:=h
theorem m105 {P:Prop} (h:P:=by
 rcases h.2 with ⟨_,h2⟩ |⟨g,cap,cur,hv,hg,hh,hn,_⟩
 ·omega
 ·rw[hv] at h
  exact ⟨g,cap,hv,hg,(h.lt g rfl).2,hn,fun k hk=>h.cellAt k hk,fun o=>h.frozenAt o⟩):P:=h
theorem m106 {P:Prop} (h:P:=by
 simp only[show ((7:Int)=1)=False by simp,show ((7:Int)=2)=False by simp,show ((7:Int)=3)=False by simp,show ((7:Int)=4)=False by simp,show ((7:Int)=5)=False by simp,if_false,if_true] at h
 obtain ⟨r,hr,e⟩:=Option.map_eq_some_iff.1 h
 injection e with e1 e2
 subst e1 e2
 exact q106):P:=h
theorem m107 {P:Prop} (h:P:=by
 ·gi_wp2
  refine bodyPost_ret (results_none rfl _ _ _) rfl ?_
  refine ⟨⟨_,rfl⟩, .inr ⟨_,?_,hJx3⟩⟩
  rw[←HSn.out]
  exact List.take_prefix _ _):P:=h
theorem m108 {P:Prop} (h:P:=by
 go_enter Tryz.func226,Tryz.ntmps226
 go_wp2_with fail
 all_goals
  go_ret
  exact ⟨rfl,0,rfl⟩):P:=h
theorem m109 {P:Prop} (h:P:=by
 clear hout
 subst he
 have HT3:=Lib.hid HT2
 clear HT2
 go_wp2
 go_roundw
 case rel=>exact ⟨j+1,by omega,by go_num,HT3⟩
 case measure=>simp[intOf];omega):P:=h
theorem m110 {P:Prop} (h:P:=by
 subst hc
 all_goals
  subst hv
  rcases hm with ⟨rfl,rfl⟩ |⟨hm0,hm3,hm1,hm2,rfl⟩ |⟨hm0,hm3,hm1,hm2,hw0,hw3,hw1,hw2⟩
  all_goals exact rrtS):P:=h
theorem m111 {P:Prop} (h:P:=by
 clear HTo
 obtain ⟨vw',h4,h5,h6,h7⟩:=hcut.out
 obtain ⟨iw,hiw,hzw,hsw,hbw⟩:=info_parts infoIns
 obtain ⟨Ac,cc,rfl⟩:=own_shape h4.code
 obtain ⟨r0,r1,r2,r3,r4,rf⟩:=h4.cell
 obtain ⟨x0,x1,x2,x3,x4,x5,x6,xf⟩:=h5.cell
 have hRl:=h4.lt
 have hXl:=h5.lt
 exact q111):P:=h
theorem m112 {P:Prop} (h:P:=by
 obtain ⟨h1,h2|⟨g,cap,cur,rfl,hg,hh,r⟩⟩:=h
 ·exact ⟨h1,Or.inl h2⟩
 ·exact ⟨h1,Or.inr ⟨g,cap,cur,rfl,hg,(hb g rfl).trans hh,r⟩⟩):P:=h
theorem m113 {P:Prop} (h:P:=by
 go_enter Tryz.func30,Tryz.ntmps30
 go_wp2_with (at_builtin;refine Go.Lib.wpList_append_run _ rfl (.const (.slice none 0 0)) (.tmp 3) 24 24 rfl _ _ rfl rfl _ _ HR.out ?_)
 go_ret
 exact q113):P:=h
theorem m114 {P:Prop} (h:P:=by
 go_enter Tryz.func42,Tryz.ntmps42
 go_wp2_with fail
 go_ret
 exact ⟨rfl,rfl⟩):P:=h
theorem m115 {P:Prop} (h:P:=by
 conv=>arg 2;whnf
 refine wp_seq_k (fun J2 hJ2=>?_)
 have hJ3: ∀a w,(tailC 3 newsBody).wp Tryz.prog (bodyPost Tryz.prog Tryz.f3 (fun e w'=>e= .returned (.bool true)∧Below w0.heap.size w0 w')) a w→J2 a w:=hJ2
 clear hJ2
 exact q115):P:=h
theorem m116 {P:Prop} (h:P:=by
 refine ⟨rfl,hy,vw,?_,hk.mono (fun _ h=>Or.inl h),fun k hk=>Or.inl hk⟩
 have:=h.keeps hk (fun i hi e=>hX (e▸hi))
 simpa using this):P:=h
theorem m117 {P:Prop} (h:P:=by
 have c0:w2.cell? ⟨g,0,none⟩=some (strV w0):=hc 0 (by simp)
 obtain ⟨W0,hW0⟩: ∃W0:ByteArray,W0=⟨w0.toArray⟩:=⟨_,rfl⟩
 have c0':w2.cell? ⟨g,0,none⟩=some (.string W0):=by rw[hW0];exact c0
 have hz0:W0.size=w0.length:=by rw[hW0];rfl
 exact q117):P:=h
theorem m118 {P:Prop} (h:P:=by
 obtain ⟨nb,hnb⟩: ∃nb,nb=baseN F:=⟨_,rfl⟩
 obtain ⟨lo,hlo⟩: ∃lo,lo=loN F:=⟨_,rfl⟩
 have hnbI:F.base=(nb:Int):=by rw[hnb];unfold Fixed.base baseN;omega
 have hloI:F.base+F.wide+F.narrow=(lo:Int):=by rw[hlo,hnbI,hnb];unfold loN;omega
 exact q118):P:=h
theorem m119 {P:Prop} (h:P:=by
 have h1I:(1:Int)≤(s.size:Int):=by omega
 have h2I:(s.size:Int)≤16:=by omega
 have h0s:0<s.size:=by omega
 have hd1:decide ((s.size:Int)<1)=false:=decide_eq_false (by omega)
 have hd2:decide ((16:Int)<(s.size:Int))=false:=decide_eq_false (by omega)
 exact q119):P:=h
theorem m120 {P:Prop} (h:P:=by
 apply Classical.byContradiction
 intro hn
 have:w.heap[p.block]?=none:=Array.getElem?_eq_none (by omega)
 simp[World.cell?,this] at h):P:=h
theorem m121 {P:Prop} (h:P:=by
 refine (eq_byte _ 33).2 ?_
 have:=at_list S 0 hSz
 rw[show S.data.toList=33::r by rw[hS]] at this
 exact (Option.some.inj this).symm):P:=h
theorem m122 {P:Prop} (h:P:=by
 go_wp2_with fail
 rw[←HU.out]
 refine (HNum.out _).mono ?_
 rintro e w2 ⟨rfl,rfl⟩
 go_wp2
 go_ret
 exact ⟨rfl,HF.out,HK.out⟩):P:=h
theorem m123 {P:Prop} (h:P:=by
 rw[←hwA] at l0 l1 hb0
 obtain ⟨Ap,cp,rfl⟩:=Asm.own_shape hpv
 have HLib:=Lib.hid (lib_any hp hlab wA (hM.below hb0 hMl) (Nat.lt_of_lt_of_le hMl hb0.size))
 have HB0:=Lib.hid hb0
 have L0:=Lib.hid l0
 have L1:=Lib.hid l1
 have HPv:=Lib.hid hpv
 exact q123):P:=h
theorem m124 {P:Prop} (h:P:=by
 go_enter Tryz.func334,Tryz.ntmps334
 go_wp2
 go_ret
 exact ⟨by simp[h1],rfl⟩):P:=h
theorem m125 {P:Prop} (h:P:=by
 go_wp2_with fail
 go_ret2
 exact ⟨w.heap.size,rfl,heap_alloc_new w _,Nat.le_refl _,(Below.refl _ w).alloc (Nat.le_refl _) _⟩):P:=h
theorem m126 {P:Prop} (h:P:=by
 clear he hN hNl x1 k1 HI hio
 go_wp2
 go_roundw
 case rel=>exact ⟨i+1,by omega,by go_num,HNx⟩
 case measure=>simp[intOf];omega):P:=h
end Go.Proofs.YtaangaogmnlljaaGreatDoor
