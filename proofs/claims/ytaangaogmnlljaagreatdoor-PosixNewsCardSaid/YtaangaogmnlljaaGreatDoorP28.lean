/- Part 28 of what the proof stands on: RdRtK, KnMayI, KnMay, KnCheck, KnCCl, KnCErr, KnAccess, KnStep, KnCLib. -/
import Derived.Test.YtaangaogmnlljaaGreatDoorP21
import Derived.Test.YtaangaogmnlljaaGreatDoorP22
import Derived.Test.YtaangaogmnlljaaGreatDoorP23
import Derived.Test.YtaangaogmnlljaaGreatDoorP24
import Derived.Test.YtaangaogmnlljaaGreatDoorP25
set_option linter.unusedVariables false
set_option maxRecDepth 100000
set_option maxHeartbeats 40000000
namespace Go.Proofs.YtaangaogmnlljaaGreatDoor.Kn
open Go.RowKit Asm
theorem fldU (x:Int):regB x=true∨regB x=false:=by cases regB x<;>simp
theorem nez {x k:Int} (h: ¬x=k):(x==k)=false∧(x !=k)=true:=⟨beq_eq_false_iff_ne.2 h,bne_iff_ne.2 h⟩
theorem fldZ (x:Int):x=0∨((x==0)=false∧(x !=0)=true):=by
 by_cases h:x=0
 ·exact Or.inl h
 ·exact Or.inr (nez h)
theorem reg_neg:regB (-1)=false:=rfl
theorem fldL (x:Int):(regB x=true∧(x== -1)=false∧(x != -1)=true)∨x= -1∨(regB x=false∧(x== -1)=false∧(x != -1)=true):=by
 by_cases h:x= -1
 ·exact Or.inr (Or.inl h)
 ·have h1:=nez h
  rcases fldU x with e|e
  ·exact Or.inl ⟨e,h1⟩
  ·exact Or.inr (Or.inr ⟨e,h1⟩)
theorem insBelow {w w1:World} {a0 a1 a2 a3 a4 a5 a6:Value} {t:TypeId} (h:Below (w.alloc (.cells #[a0,a1,a2,a3,a4,a5,a6] t)).heap.size (w.alloc (.cells #[a0,a1,a2,a3,a4,a5,a6] t)) w1):
  w1.cell? ⟨w.heap.size,0,none⟩=some a0∧w1.cell? ⟨w.heap.size,1,none⟩=some a1∧w1.cell? ⟨w.heap.size,2,none⟩=some a2∧w1.cell? ⟨w.heap.size,3,none⟩=some a3∧w1.cell? ⟨w.heap.size,4,none⟩=some a4∧w1.cell? ⟨w.heap.size,5,none⟩=some a5∧w1.cell? ⟨w.heap.size,6,none⟩=some a6∧w.heap.size<w1.heap.size:=by
 have k:=fun (i:Nat) (v:Value) (hv:(#[a0,a1,a2,a3,a4,a5,a6]:Array Value)[i]?=some v)=>(h.cell (p:=⟨w.heap.size,i,none⟩) (by simp)).trans ((World.cell?_alloc_at _ _ _ _ rfl).trans hv)
 exact ⟨k 0 _ rfl,k 1 _ rfl,k 2 _ rfl,k 3 _ rfl,k 4 _ rfl,k 5 _ rfl,k 6 _ rfl,by have:=h.size;rw[World.size_alloc] at this;omega⟩
theorem rrtS {P:Prop} (h:P:=by
 go_enter Tryz.func281,Tryz.ntmps281
 go_wp2_with (first
  |(go_at_call 264
    refine (HF.out _).mono ?_
    rintro e w1 ⟨rfl,hb1⟩
    have HB1:=Lib.hid hb1
    obtain ⟨x0,x1,x2,x3,x4,x5,x6,hz1⟩:=insBelow hb1
    clear hb1)
  |(go_at_call 334
    refine (HR.out _ _).mono ?_
    rintro e w2 ⟨rfl,rfl⟩))
 all_goals go_ret
 all_goals
  refine ⟨by simp[*],?_⟩
  refine Below.trans ((Below.refl _ _).alloc (Nat.le_refl _) _) ((HB1.out.mono (by simp)).trans ?_)
  exact (Below.refl _ _).alloc (Nat.le_of_lt hz1) _):P:=h
end Go.Proofs.YtaangaogmnlljaaGreatDoor.Kn
namespace Go.Proofs.YtaangaogmnlljaaGreatDoor.Kn
open Go.RowKit Asm
theorem fmay_any (x:InsL) (n:Int) (w:World) (hn:0≤n∧n≤4000):Calls Tryz.prog 280 #[.agg (insV x), .int .i64 n, .bool false] w fun e w'=>e= .returned (.bool (mayK x n false))∧Below w.heap.size w w':=by
 obtain ⟨o,xa,xb,xc,xv,xm,xw⟩:=x
 unfold insV
 have HB0:Hid (Below w.heap.size w (w.alloc (.cells #[.int .i64 o, .int .i64 xa, .int .i64 xb, .int .i64 xc, .int .u64 xv, .int .i64 xm, .int .i64 xw] 68))):=Lib.hid ((Below.refl _ _).alloc (Nat.le_refl _) _)
 by_cases h1:o<1
 ·have f1:decide (o<1)=true:=decide_eq_true h1
  have hm:mayK ⟨o,xa,xb,xc,xv,xm,xw⟩ n false=false:=by
   have:decide (1≤o)=false:=decide_eq_false (by omega)
   simp[mayK,this]
  rw[hm]
  clear hm
  exact m37
 by_cases h2:22<o
 ·have f1:decide (o<1)=false:=decide_eq_false h1
  have f3:decide (o>22)=true:=decide_eq_true h2
  have f4:decide (22<o)=true:=decide_eq_true h2
  have f6:(o==22)=false:=beq_eq_false_iff_ne.2 (by omega)
  have hm:mayK ⟨o,xa,xb,xc,xv,xm,xw⟩ n false=false:=by
   have:decide (o≤22)=false:=decide_eq_false (by omega)
   simp[mayK,this]
  rw[hm]
  clear hm
  by_cases h3:58<o
  ·have f5:decide (o>58)=true:=decide_eq_true h3
   exact m37
  ·have f5:decide (o>58)=false:=decide_eq_false h3
   exact m37
 by_cases h3:xm=0
 ·subst h3
  have hO:1≤o∧o≤22:=by omega
  have hm:mayK ⟨o,xa,xb,xc,xv,0,xw⟩ n false=(regOk xa (hasA o) false&&regOk xb (hasB o) (lessBK o)&&regOk xc (hasC o) (lessCK o)&&numOk ⟨o,xa,xb,xc,xv,0,xw⟩ (hasV o) n&&xw==0):=by
   have a1:decide (1≤o)=true:=decide_eq_true (by omega)
   have a2:decide (o≤58)=true:=decide_eq_true (by omega)
   have a3:decide (o≤22)=true:=decide_eq_true (by omega)
   unfold mayK
   by_cases hx:xw=0
   ·subst hx;simp[a1,a2,a3]
   ·have hx2:(xw==0)=false:=beq_eq_false_iff_ne.2 hx
    simp[a1,a2,a3,hx2]
  rw[hm]
  clear hm HB0
  by_cases k1:o≤4
  ·exact fmay_g1 (o:=o) (xm:=0) w hn (by omega) rfl rfl rfl rfl
  by_cases k2:o≤8
  ·exact fmay_g5 (o:=o) (xm:=0) w hn (by omega) rfl rfl rfl rfl
  by_cases k3:o≤12
  ·exact fmay_g9 (o:=o) (xm:=0) w hn (by omega) rfl rfl rfl rfl
  by_cases k4:o≤17
  ·exact fmay_g13 (o:=o) (xm:=0) w hn (by omega) rfl rfl rfl rfl
  exact fmay_g18 (o:=o) (xm:=0) w hn (by omega) rfl rfl rfl rfl
 ·have f1:decide (o<1)=false:=decide_eq_false h1
  have f3:decide (o>22)=false:=decide_eq_false h2
  have f4:decide (22<o)=false:=decide_eq_false h2
  have f5:decide (o>58)=false:=decide_eq_false (by omega)
  have f6:(xm==0)=false:=beq_eq_false_iff_ne.2 h3
  have f7:(xm !=0)=true:=by simp[bne,f6]
  have hm:mayK ⟨o,xa,xb,xc,xv,xm,xw⟩ n false=false:=by simp[mayK,f6]
  rw[hm]
  clear hm
  by_cases h9:o=22
  ·subst h9
   exact m37
  ·have f9:(o==22)=false:=beq_eq_false_iff_ne.2 h9
   exact m37
end Go.Proofs.YtaangaogmnlljaaGreatDoor.Kn
namespace Go.Proofs.YtaangaogmnlljaaGreatDoor.Kn
open Go.RowKit Asm
theorem a60.q1 {P:Prop} (h:P:=by
 exact m6):P:=h
open a60 in
theorem cmay_g37 {o xa xb xc xv xm xw n:Int} {lib:Bool} (w:World) (hn:0≤n∧n≤4000) (ho:o=37∨o=38∨o=39∨o=40∨o=41∨o=42∨o=43) (h:mayK ⟨o,xa,xb,xc,xv,xm,xw⟩ n lib=true):Calls Tryz.prog 280 #[.agg #[.int .i64 o, .int .i64 xa, .int .i64 xb, .int .i64 xc, .int .u64 xv, .int .i64 xm, .int .i64 xw], .int .i64 n, .bool lib] w fun e w'=>e= .returned (.bool true)∧Below w.heap.size w w':=by
 exact m1
theorem a61.q1 {P:Prop} (h:P:=by
 exact m6):P:=h
open a61 in
theorem cmay_g44 {o xa xb xc xv xm xw n:Int} {lib:Bool} (w:World) (hn:0≤n∧n≤4000) (ho:o=44∨o=45∨o=46∨o=47∨o=48∨o=49∨o=50) (h:mayK ⟨o,xa,xb,xc,xv,xm,xw⟩ n lib=true):Calls Tryz.prog 280 #[.agg #[.int .i64 o, .int .i64 xa, .int .i64 xb, .int .i64 xc, .int .u64 xv, .int .i64 xm, .int .i64 xw], .int .i64 n, .bool lib] w fun e w'=>e= .returned (.bool true)∧Below w.heap.size w w':=by
 exact m1
theorem a62.q1 {P:Prop} (h:P:=by
 rcases hX with ⟨rfl,rfl⟩ |⟨rfl,hx0,hx1,hx2⟩ |⟨rfl,rfl,rfl,hx2⟩<;>rcases ho with rfl|rfl|rfl|rfl|rfl|rfl|rfl|rfl
 all_goals first
  |exact absurd rfl (hQ rfl)
  |exact absurd hx2 (by decide)
  |skip
 all_goals (try clear hx2);(try clear hQ)
 all_goals
  simp only[hasA,hasB,hasC,hasV,lessBK,lessCK,Int.reduceBEq,Int.reduceLE,decide_true,decide_false,Bool.or_true,Bool.or_false,Bool.and_false] at HF HA HB HC HN
  go_enter Tryz.func280,Tryz.ntmps280
  go_wp2_with fail
  refine (HF.out _).mono ?_
  rintro e w1 ⟨rfl,rfl⟩
  go_wp2_with fail
  refine (HA.out _).mono ?_
  rintro e w1 ⟨rfl,rfl⟩
  go_wp2_with fail
  refine (HB.out _).mono ?_
  rintro e w1 ⟨rfl,rfl⟩
  go_wp2_with fail
  refine (HC.out _).mono ?_
  rintro e w1 ⟨rfl,rfl⟩
  go_wp2_with fail
  refine (HN.out _).mono ?_
  rintro e w1 ⟨rfl,hb1⟩
  have HB1:=Lib.hid hb1
  have x5:=(hb1.cell (p:=⟨w.heap.size,5,none⟩) (by simp)).trans (World.cell?_alloc_at _ _ _ _ rfl)
  have x6:=(hb1.cell (p:=⟨w.heap.size,6,none⟩) (by simp)).trans (World.cell?_alloc_at _ _ _ _ rfl)
  clear hb1
  go_wp2_with fail
  go_ret
  exact ⟨rfl,((Below.refl _ _).alloc (Nat.le_refl _) _).trans (HB1.out.mono (by simp))⟩):P:=h
open a62 in
theorem cmay_g51 {o xa xb xc xv xm xw n:Int} {lib:Bool} (w:World) (hn:0≤n∧n≤4000) (ho:o=51∨o=52∨o=53∨o=54∨o=55∨o=56∨o=57∨o=58) (h:mayK ⟨o,xa,xb,xc,xv,xm,xw⟩ n lib=true):Calls Tryz.prog 280 #[.agg #[.int .i64 o, .int .i64 xa, .int .i64 xb, .int .i64 xc, .int .u64 xv, .int .i64 xm, .int .i64 xw], .int .i64 n, .bool lib] w fun e w'=>e= .returned (.bool true)∧Below w.heap.size w w':=by
 exact m1
theorem cmay_any (x:InsL) (n:Int) (lib:Bool) (w:World) (hn:0≤n∧n≤4000) (h:mayK x n lib=true):Calls Tryz.prog 280 #[.agg (insV x), .int .i64 n, .bool lib] w fun e w'=>e= .returned (.bool true)∧Below w.heap.size w w':=by
 have ho:=(may_parts h).1
 obtain ⟨o,xa,xb,xc,xv,xm,xw⟩:=x
 simp only at ho
 by_cases h1:o≤5
 ·exact cmay_g1 (o:=o) w hn (by omega) h
 by_cases h6:o≤11
 ·exact cmay_g6 (o:=o) w hn (by omega) h
 by_cases h12:o≤16
 ·exact cmay_g12 (o:=o) w hn (by omega) h
 by_cases h17:o≤22
 ·exact cmay_g17 (o:=o) w hn (by omega) h
 by_cases h23:o≤29
 ·exact cmay_g23 (o:=o) w hn (by omega) h
 by_cases h30:o≤36
 ·exact cmay_g30 (o:=o) w hn (by omega) h
 by_cases h37:o≤43
 ·exact cmay_g37 (o:=o) w hn (by omega) h
 by_cases h44:o≤50
 ·exact cmay_g44 (o:=o) w hn (by omega) h
 exact cmay_g51 (o:=o) w hn (by omega) h
end Go.Proofs.YtaangaogmnlljaaGreatDoor.Kn
namespace Go.Proofs.YtaangaogmnlljaaGreatDoor.Kn
open Go.RowKit Asm
def CodeAt (w:World) (g:Nat) (l:List InsL):Prop:= ∀(k:Nat) (h:k<l.length) (j:Nat) (u:Value),(insV l[k])[j]?=some u→w.cell? ⟨g,k*7+j,none⟩=some u
theorem CodeAt.below {w w':World} {g:Nat} {l:List InsL} (h:CodeAt w g l) (hg:g<w.heap.size) (hb:Below w.heap.size w w'):CodeAt w' g l:=fun k hk j u hu=>(hb.cell (p:=⟨g,k*7+j,none⟩) hg).trans (h k hk j u hu)
theorem CodeAt.cells {w:World} {g:Nat} {l:List InsL} (h:CodeAt w g l) {k:Nat} (hk:k<l.length) {xo xa xb xc xv xm xw:Int} (e:l[k]=⟨xo,xa,xb,xc,xv,xm,xw⟩):w.cell? ⟨g,k*7,none⟩=some (.int .i64 xo)∧w.cell? ⟨g,k*7+1,none⟩=some (.int .i64 xa)∧w.cell? ⟨g,k*7+2,none⟩=some (.int .i64 xb)∧w.cell? ⟨g,k*7+3,none⟩=some (.int .i64 xc)∧w.cell? ⟨g,k*7+4,none⟩=some (.int .u64 xv)∧w.cell? ⟨g,k*7+5,none⟩=some (.int .i64 xm)∧w.cell? ⟨g,k*7+6,none⟩=some (.int .i64 xw):=by
 have q:=h k hk
 rw[e] at q
 exact ⟨q 0 _ rfl,q 1 _ rfl,q 2 _ rfl,q 3 _ rfl,q 4 _ rfl,q 5 _ rfl,q 6 _ rfl⟩
theorem a63.q30 {P:Prop} (h:P:=by
 rw[hx] at HC
 unfold insV at HC
 have hkI:(k:Int)<(n:Int):=by omega
 have hsz:=HB.out.size
 clear hcs hx
 go_wp2_with fail
 refine (HC.out _).mono ?_
 rintro e w2 ⟨rfl,hb2⟩
 have HB2:=Lib.hid (HB.out.trans ((((Below.refl wr.heap.size wr).alloc (Nat.le_refl _) _).trans (hb2.mono (by simp))).mono hsz))
 clear hb2
 go_wp2_with fail
 go_roundw
 case rel=>exact ⟨k+1,by omega,by go_num,HB2⟩
 case measure=>simp[intOf];omega):P:=h
open a63 in
set_option maxRecDepth 100000 in
theorem ccheck_ok {w:World} {g n c:Nat} {l:List InsL} {lib:Bool} (h:CodeAt w g l) (hg:g<w.heap.size) (hn:n=l.length) (hl:l.length≤2048) (hmay: ∀x∈l,mayK x l.length lib=true):
  Calls Tryz.prog 221 #[.slice (some ⟨g,0,none⟩) n c, .bool lib] w fun e w'=>e= .returned .nilIface∧Below w.heap.size w w':=by
 have H:=Lib.hid h
 have HN:=Lib.hid hn
 have HM:Hid (∀k (hk:k<l.length) (W:World),Calls Tryz.prog 280 #[.agg (insV l[k]), .int .i64 n, .bool lib] W fun e w'=>e= .returned (.bool true)∧Below W.heap.size W w'):=Lib.hid fun k hk W=>by
  rw[hn]
  exact cmay_any _ _ _ W ⟨by omega,by omega⟩ (hmay _ (List.getElem_mem hk))
 have hnI:(n:Int)≤2048:=by omega
 clear h hn hmay
 go_enter Tryz.func221,Tryz.ntmps221
 go_wp2_with fail
 go_loopw [14] (fun cv wr=> ∃k:Nat,k≤n∧cv= .int .i64 k∧Hid (Below w.heap.size w wr)) (fun cv _=>n - (intOf cv).toNat)
 case atStart=>exact ⟨0,by omega,rfl,Lib.hid (Below.refl _ _)⟩
 case round=>
  obtain ⟨k,hk,rfl,HB⟩:=hrel
  by_cases hlt:k<n
  ·exact m30
  ·have hkn:k=n:=by omega
   subst hkn
   go_wp2_with fail
   go_ret
   exact ⟨rfl,HB.out⟩
theorem CodeAt.one {W:World} {g:Nat} {x:InsL} {t:TypeId} (h:W.heap[g]?=some (.cells (insV x) t (0,0))):CodeAt W g [x]:=fun k hk j u hu=>by
 have hk0:k=0:=by simp at hk;omega
 subst hk0
 rw[blk_cell h]
 simpa using hu
end Go.Proofs.YtaangaogmnlljaaGreatDoor.Kn
namespace Go.Proofs.YtaangaogmnlljaaGreatDoor.Kn
open Go.RowKit Asm
set_option maxRecDepth 100000 in
theorem cchecked_ok {w:World} {g n c:Nat} {l:List InsL} {lib:Bool} (h:CodeAt w g l) (hg:g<w.heap.size) (hn:n=l.length) (hl:l.length≤2048) (hmay: ∀x∈l,mayK x l.length lib=true):
  Calls Tryz.prog 159 #[.slice (some ⟨g,0,none⟩) n c, .bool lib] w fun e w'=>e= .returned .nilIface∧Below w.heap.size w w':=by
 have B1:Below w.heap.size w (w.alloc (.cells #[.pointer none] 92)):=(Below.refl _ _).alloc (Nat.le_refl _) _
 have HC:=Lib.hid (ccheck_ok (c:=c) (h.below hg B1) (Nat.lt_of_lt_of_le hg B1.size) hn hl hmay)
 have HB1:=Lib.hid B1
 clear h hn hl hmay B1
 go_enter Tryz.func159,Tryz.ntmps159
 go_wp2_with fail
 refine HC.out.mono ?_
 rintro e w1 ⟨rfl,hb⟩
 have HB:=Lib.hid (HB1.out.trans (hb.mono (by simp)))
 clear hb
 go_wp2_with fail
 refine (Errs.as_nil _ _).mono ?_
 rintro e w2 ⟨rfl,rfl⟩
 go_wp2_with fail
 go_ret
 exact ⟨rfl,HB.out⟩
theorem cplace_ok (p n:Int) (w:World) (hp:0≤p∧p<n):Calls Tryz.prog 160 #[.int .i64 p, .int .i64 n] w fun e w'=>e= .returned .nilIface∧Below w.heap.size w w':=by
 go_enter Tryz.func160,Tryz.ntmps160
 go_wp2_with fail
 go_ret
 exact ⟨rfl,Below.refl _ _⟩
set_option maxRecDepth 100000 in
theorem cclient_ok {w:World} {g n c:Nat} {l:List InsL} {entry wide narrow:Int} (h:CodeAt w g l) (hg:g<w.heap.size) (hn:n=l.length) (h0:0<l.length) (hl:l.length≤2048) (hmay: ∀x∈l,mayK x l.length false=true) (he:0≤entry∧entry<l.length) (hw:0≤wide∧0≤narrow∧wide+narrow≤256):
  Calls Tryz.prog 77 #[.agg #[.slice (some ⟨g,0,none⟩) n c, .int .i64 entry, .int .i64 wide, .int .i64 narrow]] w fun e w'=>e= .returned .nilIface∧Below w.heap.size w w':=by
 have B1:Below w.heap.size w (w.alloc (.cells #[.slice (some ⟨g,0,none⟩) n c, .int .i64 entry, .int .i64 wide, .int .i64 narrow] 26)):=(Below.refl _ _).alloc (Nat.le_refl _) _
 have HC:=Lib.hid (cchecked_ok (c:=c) (h.below hg B1) (Nat.lt_of_lt_of_le hg B1.size) hn hl hmay)
 have hz:=heap_alloc_new w (.cells #[.slice (some ⟨g,0,none⟩) n c, .int .i64 entry, .int .i64 wide, .int .i64 narrow] 26)
 have HZ:=Lib.hid hz
 have HB1:=Lib.hid B1
 have hnI:(0:Int)<(n:Int)∧(n:Int)≤2048:=by omega
 have hsub:IntKind.i64.wrap (256 - wide)=256 - wide:=by rw[IntKind.wrap_i64];omega
 have heI:0≤entry∧entry<(n:Int):=by omega
 have HP:=Lib.hid (fun W=>cplace_ok entry (n:Int) W heI)
 clear h hn hl hmay B1 hz
 have hbw:(256:Int) - wide<1000:=by omega
 have f1:decide (wide<0)=false:=decide_eq_false (by omega)
 have f2:decide (narrow<0)=false:=decide_eq_false (by omega)
 have f3:decide (wide>256)=false:=decide_eq_false (by omega)
 have f4:decide (narrow>256 - wide)=false:=decide_eq_false (by omega)
 have f5:((n:Int)==0)=false:=beq_eq_false_iff_ne.2 (by omega)
 have g1: ¬wide<0:=by omega
 have g2: ¬narrow<0:=by omega
 have g3: ¬256<wide:=by omega
 have g4: ¬256 - wide<narrow:=by omega
 have g5: ¬(n:Int)=0:=by omega
 clear hw hbw hnI heI he
 go_enter Tryz.func77,Tryz.ntmps77
 go_wp2_with fail
 refine HC.out.mono ?_
 rintro e w1 ⟨rfl,hb⟩
 have bz:=(hb.block w.heap.size (by simp)).trans HZ.out
 have z0:=blk_cell bz 0
 have z1:=blk_cell bz 1
 have HB:=Lib.hid (HB1.out.trans (hb.mono (by simp)))
 clear hb bz
 go_wp2_with fail
 refine (HP.out _).mono ?_
 rintro e w2 ⟨rfl,hb2⟩
 have HB2:=Lib.hid (HB.out.trans (hb2.mono HB.out.size))
 clear hb2
 go_wp2_with fail
 go_ret
 exact ⟨rfl,HB2.out⟩
end Go.Proofs.YtaangaogmnlljaaGreatDoor.Kn
namespace Go.Proofs.YtaangaogmnlljaaGreatDoor.Kn
open Go.RowKit Asm Errs
def codeS:ByteArray:=⟨#[99,111,100,101]⟩
def kernS:ByteArray:=⟨#[107,101,114,110]⟩
abbrev ErrK:=List (ByteArray×Int)×Int
def ErrOr (w:World):Option ErrK→Ending→World→Prop
 |none,e,w'=>e= .returned .nilIface∧Below w.heap.size w w'
 |some x,e,w'=>ErrOut w x.1 x.2 e w'
def FailOr (w:World):Option ErrK→Ending→World→Prop
 |none,e,w'=>e= .returned (.pointer none)∧Below w.heap.size w w'
 |some x,e,w'=>FailOut w x.1 x.2 e w'
theorem codefail_any (n:Int) {v:Value} {r:List (ByteArray×Int)} {k:Int} (w:World) (h:IsErr w r k v):Calls Tryz.prog 158 #[.int .i64 n,v] w (ErrOut w ((codeS,n)::r) k):=by
 obtain ⟨vt,vx,rfl⟩:=h.form
 have H:=Lib.hid h
 clear h
 go_enter Tryz.func158,Tryz.ntmps158
 go_wp2
 go_ret
 refine ⟨_,rfl,⟨w.heap.size,_,rfl,by simp,?_,?_,?_,H.out.below ((Below.refl _ _).alloc (Nat.le_refl _) _)⟩,(Below.refl _ _).alloc (Nat.le_refl _) _⟩
 all_goals simp[codeS]
theorem kernfail_any (n:Int) {v:Value} {r:List (ByteArray×Int)} {k:Int} (w:World) (h:IsErr w r k v):Calls Tryz.prog 75 #[.int .i64 n,v] w (ErrOut w ((kernS,n)::r) k):=by
 obtain ⟨vt,vx,rfl⟩:=h.form
 have H:=Lib.hid h
 clear h
 go_enter Tryz.func75,Tryz.ntmps75
 go_wp2
 go_ret
 refine ⟨_,rfl,⟨w.heap.size,_,rfl,by simp,?_,?_,?_,H.out.below ((Below.refl _ _).alloc (Nat.le_refl _) _)⟩,(Below.refl _ _).alloc (Nat.le_refl _) _⟩
 all_goals simp[kernS]
theorem posixfail_any (n:Int) {v:Value} {r:List (ByteArray×Int)} {k:Int} (w:World) (h:IsErr w r k v):Calls Tryz.prog 29 #[.int .i64 n,v] w (ErrOut w ((posixS,n)::r) k):=by
 obtain ⟨vt,vx,rfl⟩:=h.form
 have H:=Lib.hid h
 clear h
 go_enter Tryz.func29,Tryz.ntmps29
 go_wp2
 go_ret
 refine ⟨_,rfl,⟨w.heap.size,_,rfl,by simp,?_,?_,?_,H.out.below ((Below.refl _ _).alloc (Nat.le_refl _) _)⟩,(Below.refl _ _).alloc (Nat.le_refl _) _⟩
 all_goals simp[posixS]
def badK (l:List InsL):Option Nat:=l.findIdx? fun x=>!mayK x l.length false
def checkK (l:List InsL):Option ErrK:=if 2048<l.length then some ([(codeS,0)],3) else (badK l).map fun i:Nat=>([(codeS,(i:Int))],5)
def placeK (p n:Int):Option ErrK:=if p<0∨n≤p then some ([(codeS,max p 0)],5) else none
def againK (l:List InsL):Option ErrK:=(checkK l).map fun x=>((codeS,(x.1.headD (codeS,0)).2)::x.1,x.2)
def clientE (l:List InsL) (entry wide narrow:Int):Option ErrK:=
 if wide<0∨narrow<0∨256<wide∨256 - wide<narrow∨l.length=0 then some ([(codeS,0)],1)
 else match againK l with
  |some x=>some x
  |none=>placeK entry l.length
theorem checkK_one {l:List InsL} {x:ErrK} (h:checkK l=some x): ∃n:Int,x.1= [(codeS,n)]:=by
 unfold checkK at h
 split at h
 ·cases h;exact ⟨0,rfl⟩
 ·obtain ⟨i,_,rfl⟩:=Option.map_eq_some_iff.1 h;exact ⟨i,rfl⟩
theorem a64.q30 {P:Prop} (h:P:=by
 obtain ⟨ok,hok⟩: ∃ok,mayK l[k] l.length false=ok:=⟨_,rfl⟩
 have HOK:=Lib.hid hok
 rw[hok,hx] at HC
 unfold insV at HC
 have hkI:(k:Int)<(n:Int):=by omega
 have hsz:=HB.out.size
 clear hcs hx hok
 go_wp2_with fail
 refine (HC.out _).mono ?_
 rintro e w2 ⟨rfl,hb2⟩
 have HB2:=Lib.hid (HB.out.trans ((((Below.refl wr.heap.size wr).alloc (Nat.le_refl _) _).trans (hb2.mono (by simp))).mono hsz))
 clear hb2
 cases ok
 ·go_wp2_with fail
  refine (codefail_any (k:Int) (v:= .iface 86 (.int .i64 5)) (r:= []) (k:=5) _ rfl).mono ?_
  rintro e w3 ⟨v,rfl,hv,hb3⟩
  have HV:=Lib.hid hv
  have HB3:=Lib.hid (HB2.out.trans (hb3.mono HB2.out.size))
  clear hv hb3
  go_wp2_with fail
  go_ret
  have hm:checkK l=some ([(codeS,(k:Int))],5):=by
   unfold checkK
   rw[if_neg HL.out]
   have:badK l=some k:=by
    unfold badK
    rw[List.findIdx?_eq_some_iff_getElem]
    exact ⟨hkl,by rw[HOK.out];rfl,fun j hj=>by rw[HG.out j (by omega) hj];simp⟩
   rw[this];rfl
  rw[hm]
  exact ⟨v,rfl,HV.out,HB3.out⟩
 exact m38):P:=h
open a64 in
set_option maxRecDepth 100000 in
theorem fcheck_any {w:World} {g n c:Nat} {l:List InsL} (h:CodeAt w g l) (hg:g<w.heap.size) (hn:n=l.length) (hnb:n≤9223372036854775807):
  Calls Tryz.prog 221 #[.slice (some ⟨g,0,none⟩) n c, .bool false] w (ErrOr w (checkK l)):=by
 by_cases hl:2048<l.length
 ·have hnI:(2048:Int)<(n:Int):=by omega
  have hm:checkK l=some ([(codeS,0)],3):=by unfold checkK;rw[if_pos hl]
  have HF:=Lib.hid (codefail_any 0 (v:= .iface 86 (.int .i64 3)) (r:= []) (k:=3) w rfl)
  rw[hm]
  clear hm h hn hl
  go_enter Tryz.func221,Tryz.ntmps221
  exact m51
 have H:=Lib.hid h
 have HN:=Lib.hid hn
 have HM:Hid (∀k (hk:k<l.length) (W:World),Calls Tryz.prog 280 #[.agg (insV l[k]), .int .i64 n, .bool false] W fun e w'=>e= .returned (.bool (mayK l[k] l.length false))∧Below W.heap.size W w'):=Lib.hid fun k hk W=>by
  rw[hn]
  exact fmay_any _ _ W ⟨by omega,by omega⟩
 have hnI:(n:Int)≤2048:=by omega
 have HL:=Lib.hid hl
 clear h hn hl hnb
 go_enter Tryz.func221,Tryz.ntmps221
 go_wp2_with fail
 go_loopw [14] (fun cv wr=> ∃k:Nat,k≤n∧cv= .int .i64 k∧Hid (Below w.heap.size w wr)∧Hid (∀j (hj:j<l.length),j<k→mayK l[j] l.length false=true)) (fun cv _=>n - (intOf cv).toNat)
 case atStart=>exact ⟨0,by omega,rfl,Lib.hid (Below.refl _ _),Lib.hid fun j _ hj=>absurd hj (Nat.not_lt_zero j)⟩
 case round=>
  obtain ⟨k,hk,rfl,HB,HG⟩:=hrel
  by_cases hlt:k<n
  ·exact m30
  ·have hkn:k=n:=by omega
   subst hkn
   go_wp2_with fail
   go_ret
   have hm:checkK l=none:=by
    unfold checkK
    rw[if_neg HL.out]
    have:badK l=none:=by
     unfold badK
     exact m75
    rw[this];rfl
   rw[hm]
   exact ⟨rfl,HB.out⟩
theorem as_keeps (b tb:Nat) (old:Value) (w:World) (hd:Door w) (ht:w.cell? ⟨tb,0,none⟩=some old) (hf:w.frozen? ⟨tb,0,none⟩=false):
  Calls Tryz.prog 35 #[.iface 92 (.pointer (some ⟨b,0,none⟩)), .iface 94 (.pointer (some ⟨tb,0,none⟩))] w fun e w'=>
   e= .returned (.bool true)∧Keeps (fun x=>x=tb) w w'∧w'.cell? ⟨tb,0,none⟩=some (.pointer (some ⟨b,0,none⟩)):=by
 have htl:tb<w.heap.size:=by
  rcases Nat.lt_or_ge tb w.heap.size with h|h
  ·exact h
  ·simp[World.cell?,Array.getElem?_eq_none h] at ht
 refine (as_hit ⟨b,0,none⟩ ⟨tb,0,none⟩ old w hd ht hf).mono fun e w' ⟨he,hw⟩=>?_
 subst hw
 refine ⟨he,?_,?_⟩
 ·exact Keeps.setCell (X:=fun x=>x=tb) (p:=⟨tb,0,none⟩) (((((Keeps.refl _ w).alloc _).alloc _).alloc _).alloc _) rfl _
 ·exact m65
set_option maxRecDepth 100000 in
theorem fchecked_any {w:World} {g n c:Nat} {l:List InsL} (hd:Door w) (h:CodeAt w g l) (hg:g<w.heap.size) (hn:n=l.length) (hnb:n≤9223372036854775807):
  Calls Tryz.prog 159 #[.slice (some ⟨g,0,none⟩) n c, .bool false] w (ErrOr w (againK l)):=by
 have hp:=door_pos hd
 have B1:Below w.heap.size w (w.alloc (.cells #[.pointer none] 92)):=(Below.refl _ _).alloc (Nat.le_refl _) _
 have HC:=Lib.hid (fcheck_any (c:=c) (h.below hg B1) (Nat.lt_of_lt_of_le hg B1.size) hn hnb)
 have hz:=heap_alloc_new w (.cells #[.pointer none] 92)
 have HZ:=Lib.hid hz
 have HB1:=Lib.hid B1
 have HD:=Lib.hid hd
 clear h hn B1 hz hnb
 cases hk:checkK l with
 |none=>
  have ha:againK l=none:=by unfold againK;rw[hk];rfl
  rw[hk] at HC
  rw[ha]
  clear ha hk
  go_enter Tryz.func159,Tryz.ntmps159
  go_wp2_with fail
  refine HC.out.mono ?_
  rintro e w1 ⟨rfl,hb⟩
  have HB:=Lib.hid (HB1.out.trans (hb.mono (by simp)))
  clear hb
  go_wp2_with fail
  refine (Errs.as_nil _ _).mono ?_
  rintro e w2 ⟨rfl,rfl⟩
  go_wp2_with fail
  go_ret
  exact ⟨rfl,HB.out⟩
 |some x=>
  obtain ⟨r,k⟩:=x
  obtain ⟨m,hm⟩:=checkK_one hk
  simp only at hm
  subst hm
  have ha:againK l=some ([(codeS,m),(codeS,m)],k):=by unfold againK;rw[hk];rfl
  rw[hk] at HC
  rw[ha]
  clear ha hk
  go_enter Tryz.func159,Tryz.ntmps159
  go_wp2_with fail
  refine HC.out.mono ?_
  rintro e w1 ⟨v,rfl,hv,hb⟩
  have hbz:=(hb.block w.heap.size (by simp)).trans HZ.out
  have hs1:=hb.size
  simp only[World.size_alloc] at hs1
  obtain ⟨b,v',rfl,hbl,c0,c1,c2,hv'⟩:=hv
  have hne:b≠w.heap.size:=by
   rintro rfl
   have:=(blk_cell hbz 0).symm.trans c0
   cases this
  have HB:=Lib.hid (HB1.out.trans (hb.mono (by simp)))
  have HA:=Lib.hid (as_keeps b w.heap.size (.pointer none) w1 (HD.out.below HB.out hp) (blk_cell hbz 0) (by rw[blk_frozen hbz]))
  have HV:Hid (∀W,Keeps (fun x=>x=w.heap.size) w1 W→IsErr W [(codeS,m)] k (.iface 92 (.pointer (some ⟨b,0,none⟩)))∧W.cell? ⟨b,1,none⟩=some (.int .i64 m)):=Lib.hid fun W hW=>by
   have q1:=(hW.cell (p:=⟨b,1,none⟩) hbl hne).trans c1
   exact ⟨⟨b,v',rfl,Nat.lt_of_lt_of_le hbl hW.size,(hW.cell (p:=⟨b,0,none⟩) hbl hne).trans c0,q1,(hW.cell (p:=⟨b,2,none⟩) hbl hne).trans c2,hv'⟩,q1⟩
  clear hb hbz hbl c0 c1 c2 hv' hne
  go_wp2_with fail
  refine HA.out.mono ?_
  rintro e w2 ⟨rfl,hk2,ht2⟩
  obtain ⟨hv2,hc2⟩:=HV.out w2 hk2
  have HB2:Hid (Below w.heap.size w w2):=Lib.hid (hk2.below HB.out (by omega) fun i hi=>by omega)
  have HF:=Lib.hid (codefail_any m w2 hv2)
  clear hk2 hv2 HA HV HC
  go_wp2_with fail
  refine HF.out.mono ?_
  rintro e w3 ⟨v,rfl,hv,hb3⟩
  have HV:=Lib.hid hv
  have HB3:=Lib.hid (HB2.out.trans (hb3.mono HB2.out.size))
  clear hv hb3
  go_wp2_with fail
  go_ret
  exact ⟨v,rfl,HV.out,HB3.out⟩
theorem fplace_any (p n:Int) (w:World):Calls Tryz.prog 160 #[.int .i64 p, .int .i64 n] w (ErrOr w (placeK p n)):=by
 by_cases h:p<0∨n≤p
 ·have hm:placeK p n=some ([(codeS,max p 0)],5):=by unfold placeK;rw[if_pos h]
  rw[hm]
  clear hm
  have HF:=Lib.hid (fun q=>codefail_any q (v:= .iface 86 (.int .i64 5)) (r:= []) (k:=5) w rfl)
  rcases Int.lt_or_le p 0 with h0|h0
  ·have e:max p 0=0:=by omega
   have f:(if 0<p then p else 0)=(0:Int):=if_neg (by omega)
   have f2:decide (p<0)=true:=decide_eq_true h0
   have f3:(if p<0 then (0:Int) else p)=0:=if_pos h0
   have f4:(if p≤0 then (0:Int) else p)=0:=if_pos (by omega)
   clear h e f f3 f4
   exact m45
  ·have hn:n≤p:=by omega
   have e:max p 0=p:=by omega
   have f1:decide (p≥n)=true:=decide_eq_true hn
   have f2:decide (p<0)=false:=decide_eq_false (by omega)
   clear h
   by_cases hz:p=0
   ·rw[e]
    clear e
    subst hz
    exact m45
   ·have f:(if 0<p then p else 0)=p:=if_pos (by omega)
    have f3:(if p<0 then (0:Int) else p)=p:=if_neg (by omega)
    have f4:(if p≤0 then (0:Int) else p)=p:=if_neg (by omega)
    clear hz e f f3 f4
    exact m45
 ·have hm:placeK p n=none:=by unfold placeK;rw[if_neg h]
  rw[hm]
  exact cplace_ok p n w (by omega)
theorem a65.q82 {P:Prop} (h:P:=by
 clear hbad hn hnb B1
 rcases hcase with h1|⟨h1,h2⟩ |⟨h1,h2,h3⟩ |⟨h1,h2,h3,h4⟩ |⟨h1,h2,h3,h4,h5⟩
 case' inr.inr.inr.inl=>have hsub:IntKind.i64.wrap (256 - wide)=256 - wide:=by rw[IntKind.wrap_i64];omega
 case' inr.inr.inr.inr=>have hsub:IntKind.i64.wrap (256 - wide)=256 - wide:=by rw[IntKind.wrap_i64];omega
 case' inr.inr.inr.inr=>subst h5
 all_goals
  go_enter Tryz.func77,Tryz.ntmps77
  go_wp2_with fail
  refine (HF.out _).mono ?_
  rintro e w1 ⟨v,rfl,hv,hb⟩
  have HV:=Lib.hid hv
  have HB:=Lib.hid (HB1.out.trans (hb.mono (by simp)))
  clear hv hb
  go_wp2_with fail
  go_ret
  exact ⟨v,rfl,HV.out,HB.out⟩):P:=h
open a65 in
set_option maxRecDepth 100000 in
theorem fclient_bad {w:World} {A:Option Addr} {n c:Nat} {l:List InsL} {entry wide narrow:Int} (hn:n=l.length) (hnb:n≤9223372036854775807)
  (hbad:wide<0∨narrow<0∨256<wide∨256 - wide<narrow∨l.length=0):
  Calls Tryz.prog 77 #[.agg #[.slice A n c, .int .i64 entry, .int .i64 wide, .int .i64 narrow]] w (ErrOr w (clientE l entry wide narrow)):=by
 have B1:Below w.heap.size w (w.alloc (.cells #[.slice A n c, .int .i64 entry, .int .i64 wide, .int .i64 narrow] 26)):=(Below.refl _ _).alloc (Nat.le_refl _) _
 have HB1:=Lib.hid B1
 have HF:=Lib.hid (fun W=>codefail_any 0 (v:= .iface 86 (.int .i64 1)) (r:= []) (k:=1) W rfl)
 exact m82
set_option maxRecDepth 100000 in
theorem fclient_any {w:World} {g n c:Nat} {l:List InsL} {entry wide narrow:Int} (hd:Door w) (h:CodeAt w g l) (hg:g<w.heap.size) (hn:n=l.length) (hnb:n≤9223372036854775807)
  (hwb: -9223372036854775808≤wide∧wide≤9223372036854775807):
  Calls Tryz.prog 77 #[.agg #[.slice (some ⟨g,0,none⟩) n c, .int .i64 entry, .int .i64 wide, .int .i64 narrow]] w (ErrOr w (clientE l entry wide narrow)):=by
 by_cases hbad:wide<0∨narrow<0∨256<wide∨256 - wide<narrow∨l.length=0
 ·exact fclient_bad hn hnb hbad
 have B1:Below w.heap.size w (w.alloc (.cells #[.slice (some ⟨g,0,none⟩) n c, .int .i64 entry, .int .i64 wide, .int .i64 narrow] 26)):=(Below.refl _ _).alloc (Nat.le_refl _) _
 have HC:=Lib.hid (fchecked_any (c:=c) (hd.below B1 (door_pos hd)) (h.below hg B1) (Nat.lt_of_lt_of_le hg B1.size) hn hnb)
 have hz:=heap_alloc_new w (.cells #[.slice (some ⟨g,0,none⟩) n c, .int .i64 entry, .int .i64 wide, .int .i64 narrow] 26)
 have HZ:=Lib.hid hz
 have HB1:=Lib.hid B1
 have hm:clientE l entry wide narrow=match againK l with|some x=>some x|none=>placeK entry l.length:=by unfold clientE;rw[if_neg hbad]
 have hsub:IntKind.i64.wrap (256 - wide)=256 - wide:=by rw[IntKind.wrap_i64];omega
 have g1: ¬wide<0:=by omega
 have g2: ¬narrow<0:=by omega
 have g3: ¬256<wide:=by omega
 have g4: ¬256 - wide<narrow:=by omega
 have g5: ¬(n:Int)=0:=by omega
 have f1:decide (wide<0)=false:=decide_eq_false g1
 have f2:decide (narrow<0)=false:=decide_eq_false g2
 have f3:decide (wide>256)=false:=decide_eq_false g3
 have f4:decide (narrow>256 - wide)=false:=decide_eq_false g4
 have f5:((n:Int)==0)=false:=beq_eq_false_iff_ne.2 g5
 have HP:=Lib.hid (fun W=>fplace_any entry (n:Int) W)
 cases hk:againK l with
 |some x=>
  rw[hk] at HC hm
  rw[hm]
  clear hbad h hn hnb B1 hz hwb hk hm
  go_enter Tryz.func77,Tryz.ntmps77
  go_wp2_with fail
  refine HC.out.mono ?_
  rintro e w1 ⟨v,rfl,hv,hb⟩
  obtain ⟨vt,vx,rfl⟩:=hv.form
  have HV:=Lib.hid hv
  have HB:=Lib.hid (HB1.out.trans (hb.mono (by simp)))
  clear hv hb
  go_wp2_with fail
  go_ret
  exact ⟨_,rfl,HV.out,HB.out⟩
 |none=>
  rw[hk] at HC hm
  have hmn:clientE l entry wide narrow=placeK entry n:=by rw[hm,hn]
  rw[hmn]
  generalize placeK entry n=pk at HP ⊢
  clear hbad h hn hnb B1 hz hwb hk hm hmn
  go_enter Tryz.func77,Tryz.ntmps77
  go_wp2_with fail
  refine HC.out.mono ?_
  rintro e w1 ⟨rfl,hb⟩
  have bz:=(hb.block w.heap.size (by simp)).trans HZ.out
  have z0:=blk_cell bz 0
  have z1:=blk_cell bz 1
  have HB:=Lib.hid (HB1.out.trans (hb.mono (by simp)))
  clear hb bz
  go_wp2_with fail
  refine (HP.out _).mono ?_
  intro e w2 hp
  cases pk with
  |none=>
   obtain ⟨rfl,hb2⟩:=hp
   have HB2:=Lib.hid (HB.out.trans (hb2.mono HB.out.size))
   clear hb2
   go_wp2_with fail
   go_ret
   exact ⟨rfl,HB2.out⟩
  |some x=>
   obtain ⟨v,rfl,hv,hb2⟩:=hp
   have HV:=Lib.hid hv
   have HB2:=Lib.hid (HB.out.trans (hb2.mono HB.out.size))
   clear hv hb2
   go_wp2_with fail
   go_ret
   exact ⟨v,rfl,HV.out,HB2.out⟩
end Go.Proofs.YtaangaogmnlljaaGreatDoor.Kn
namespace Go.Proofs.YtaangaogmnlljaaGreatDoor.Kn
open Go.RowKit Asm
def InsBox (w:World) (bx:Nat) (x:InsL):Prop:=w.cell? ⟨bx,0,none⟩=some (.int .i64 x.op)∧w.cell? ⟨bx,1,none⟩=some (.int .i64 x.a)∧w.cell? ⟨bx,2,none⟩=some (.int .i64 x.b)∧w.cell? ⟨bx,3,none⟩=some (.int .i64 x.c)∧w.cell? ⟨bx,4,none⟩=some (.int .u64 x.v)∧w.cell? ⟨bx,5,none⟩=some (.int .i64 x.m)∧w.cell? ⟨bx,6,none⟩=some (.int .i64 x.w)
theorem InsBox.of {w:World} {bx:Nat} {x:InsL} {t:TypeId} (h:w.heap[bx]?=some (.cells (insV x) t (0,0))):InsBox w bx x:=⟨blk_cell h 0,blk_cell h 1,blk_cell h 2,blk_cell h 3,blk_cell h 4,blk_cell h 5,blk_cell h 6⟩
section
variable {w:World} {own:Own} {b o:Nat} {t:TypeId} {P S:List Value} {tb tk:Tag} {n:Nat} {f:Frame} {bv:Value}
end
end Go.Proofs.YtaangaogmnlljaaGreatDoor.Kn
namespace Go.Proofs.YtaangaogmnlljaaGreatDoor.Kn
open Go.RowKit Asm
section
variable {w:World} {own:Own} {b o:Nat} {t:TypeId} {P S:List Value} {tb tk:Tag} {n:Nat} {f:Frame} {bv:Value}
theorem FrOut.below {W W':World} {f':Frame} {n':Nat} (h:FrOut w own b o t P S tb tk n' f' W) (hb:Below W.heap.size W W'):FrOut w own b o t P S tb tk n' f' W':=by
 obtain ⟨own',bv',h1,h2⟩:=h
 exact ⟨own',bv',h1.below hb,⟨h2.keeps.trans (Keeps.ofBelow (X:=fun _=>False) hb) (fun _ e=>e.elim),h2.own⟩⟩
theorem FrOut.from {W w':World} {f':Frame} {n':Nat} (hb:Below w.heap.size w W) (h:FrOut W own b o t P S tb tk n' f' w'):FrOut w own b o t P S tb tk n' f' w':=by
 obtain ⟨own',bv',h1,h2⟩:=h
 exact ⟨own',bv',h1,⟨(Keeps.ofBelow hb).trans h2.keeps fun _ e=>Or.inl e,fun i hi=>h2.own i (Nat.lt_of_lt_of_le hi hb.size)⟩⟩
end
end Go.Proofs.YtaangaogmnlljaaGreatDoor.Kn
namespace Go.Proofs.YtaangaogmnlljaaGreatDoor.Kn
open Go.RowKit Asm
def SeenIs (w:World) (b:Nat) (D:List Int):Prop:= ∃C:Array Value,w.heap[b]?=some (.cells C 322 (0,0))∧C.size=1000∧ ∀j:Nat,j<1000→C[j]?=some (.bool (decide ((j:Int)∈D)))
theorem SeenIs.cell {w:World} {b:Nat} {D:List Int} (h:SeenIs w b D) {j:Nat} (hj:j<1000):w.cell? ⟨b,j,none⟩=some (.bool (decide ((j:Int)∈D)))∧w.frozen? ⟨b,j,none⟩=false∧b<w.heap.size:=by
 obtain ⟨C,h1,h2,h3⟩:=h
 exact ⟨(blk_cell h1 _).trans (h3 j hj),blk_frozen h1 _,blk_in h1⟩
theorem SeenIs.set {w:World} {b:Nat} {D:List Int} (h:SeenIs w b D) {n:Nat} (hn:n<1000):SeenIs (w.setCell ⟨b,n,none⟩ (.bool true)) b (D++ [(n:Int)]):=by
 obtain ⟨C,h1,h2,h3⟩:=h
 refine ⟨C.setIfInBounds n (.bool true),set_block h1 _,by simp[h2],fun j hj=>?_⟩
 rw[Array.getElem?_setIfInBounds]
 by_cases e:n=j
 ·subst e
  rw[if_pos rfl,if_pos (by omega)]
  simp
 ·rw[if_neg e,h3 j hj]
  have e2: ¬(j:Int)=(n:Int):=by omega
  simp[e2]
theorem SeenIs.block {w w':World} {b:Nat} {D:List Int} (h:SeenIs w b D) (e:w'.heap[b]?=w.heap[b]?):SeenIs w' b D:=by
 obtain ⟨C,h1,h2,h3⟩:=h
 exact ⟨C,e.trans h1,h2,h3⟩
theorem zero1000:Tryz.zeroCells322=(List.replicate 1000 (Value.bool false)).toArray:=by kernel_rfl
theorem seen0 {w:World} {SZ:Array Value} (hSZ:SZ=(List.replicate 1000 (Value.bool false)).toArray):SeenIs (w.alloc (.cells SZ 322)) w.heap.size []:=by
 refine ⟨SZ,heap_alloc_new w _,by rw[hSZ,List.size_toArray,List.length_replicate],fun j hj=>?_⟩
 rw[hSZ,List.getElem?_toArray,List.getElem?_replicate,if_pos hj]
 simp
theorem callC_at {l:List RowL} {i:Nat} (hi:i<l.length) (j:Nat) (hj:j<6):(callC l)[i*6+j]?=(row6 l[i])[j]?:=flL_at (k:=6) (f:=row6) (fun _=>rfl) l i hi j hj
theorem a66.q83 {P:Prop} (h:P:=by
 clear h hn hl hmay B1 hz h0 hlp hm hm2 hrow hnod hcalls
 go_enter Tryz.func76,Tryz.ntmps76
 go_wp2_with fail
 refine HC.out.mono ?_
 rintro e w1 ⟨rfl,hb⟩
 have bz:=(hb.block w.heap.size (by simp)).trans HZ.out
 have z0:=blk_cell bz 0
 have z1:=blk_cell bz 1
 have HB:=Lib.hid (HB1.out.trans (hb.mono (by simp)))
 have HZ1:=Lib.hid bz
 clear hb bz
 go_wp2_with fail
 refine (HP.out _).mono ?_
 rintro e w2 ⟨rfl,hb2⟩
 have bz:=(hb2.block w.heap.size (blk_in HZ1.out)).trans HZ1.out
 clear z0
 have z2:w2.cell? ⟨w.heap.size,2,none⟩=some (.slice A m cr):=blk_cell bz 2
 have z0:w2.cell? ⟨w.heap.size,0,none⟩=some (.slice (some ⟨g,0,none⟩) n c):=blk_cell bz 0
 have hl2:w.heap.size<w2.heap.size:=blk_in bz
 have HB2:=Lib.hid (HB.out.trans (hb2.mono HB.out.size))
 have HZ2:=Lib.hid bz
 clear hb2 z1 bz
 go_wp2_with fail
 have HS0:Hid (SeenIs (w2.alloc (.cells Tryz.zeroCells322 322)) w2.heap.size []):=Lib.hid (seen0 zero1000)
 have HB3:Hid (Below w2.heap.size w2 (w2.alloc (.cells Tryz.zeroCells322 322))):=Lib.hid ((Below.refl _ _).alloc (Nat.le_refl _) _)
 have HRow2:=Lib.hid (ownsRow_of_block HRow.out fun k hk=>HB2.out.block k (HRow.out.lt k hk).2)
 generalize w2.alloc (.cells Tryz.zeroCells322 322)=w3 at*
 go_loopg [34] m (fun gg iv wr=> ∃(i:Nat),i≤m∧gg=m - i∧iv= .int .i64 (i:Int)∧Hid (SeenIs wr w2.heap.size ((calls.take i).map (·.num))∧Below w2.heap.size w2 wr))
 case atStart=>exact ⟨0,by omega,rfl,rfl,Lib.hid ⟨HS0.out,HB3.out⟩⟩
 case round=>
  obtain ⟨i,hi,hgg,rfl,HS⟩:=hrel
  have Hg:=Lib.hid hgg
  have hiI:(0:Int)≤(i:Int)∧(i:Int)≤999:=by omega
  by_cases hlt:i<m
  ·have hltI:(i:Int)<(m:Int):=by omega
   have hil:i<calls.length:=by rw[←HM.out];exact hlt
   have hmem:=List.getElem_mem hil
   have hr:=HCa.out _ hmem
   have hiL:i<(calls.map (·.num)).length:=by rw[List.length_map];exact hil
   have hgi:(calls.map (·.num))[i]=calls[i].num:=List.getElem_map _
   have hnew:calls[i].num∉ (calls.take i).map (·.num):=fun hm=>by
    have hnd:=HNod.out
    rw[←List.take_append_drop i (calls.map (·.num))] at hnd
    rw[List.map_take] at hm
    have:=(List.nodup_append.1 hnd).2.2 _ hm calls[i].num (by
     rw[List.drop_eq_getElem_cons hiL,hgi]
     exact List.mem_cons_self)
    exact this rfl
   have hstep:(calls.take (i+1)).map (·.num)=(calls.take i).map (·.num)++ [calls[i].num]:=by
    rw[List.map_take,List.map_take,List.take_add_one,List.getElem?_eq_getElem hiL,hgi]
    rfl
   clear hiL hgi
   have hel: ∃gr,A=some ⟨gr,0,none⟩∧gr<w2.heap.size∧ ∀j,j<6→wr.cell? ⟨gr,i*6+j,none⟩=(row6 calls[i])[j]?:=by
    have hlt':=HRow2.out
    rcases row_at hlt' with ⟨q,-⟩ |⟨gr,c',q,hq⟩
    ·injection q with _ q2 _
     omega
    ·injection q with q1 _ _
     refine ⟨gr,q1,(hlt'.lt gr (by rw[q1];rfl)).2,fun j hj=>?_⟩
     have e:=callC_at hil j hj
     have hsome: ∃u,(row6 calls[i])[j]?=some u:=⟨_,List.getElem?_eq_getElem (by show j<6;exact hj)⟩
     obtain ⟨u,hu⟩:=hsome
     have:=hq (i*6+j) u (e.trans hu)
     rw[Addr.add_lit,Nat.zero_add] at this
     rw[hu,←this]
     exact HS.out.2.cell (p:=⟨gr,i*6+j,none⟩) (hlt'.lt gr (by rw[q1];rfl)).2
   obtain ⟨gr,rfl,hgr,hcl⟩:=hel
   generalize calls[i]=x at*
   obtain ⟨xn,xp,k0,k1,k2,k3⟩:=x
   obtain ⟨r1,r2,r3,r4,⟨r5,r6⟩,⟨r7,r8⟩,⟨r9,r10⟩,r11,r12⟩:=hr
   simp only at r1 r2 r3 r4 r5 r6 r7 r8 r9 r10 r11 r12 hnew hstep
   obtain ⟨xn',hxn⟩:=Int.eq_ofNat_of_zero_le (show 0≤xn by omega)
   subst hxn
   have hx1000:xn'<1000:=by omega
   have c0:wr.cell? ⟨gr,i*6,none⟩=some (.int .i64 (xn':Int)):=hcl 0 (by decide)
   have c1:wr.cell? ⟨gr,i*6+1,none⟩=some (.int .i64 xp):=hcl 1 (by decide)
   have c2:wr.cell? ⟨gr,i*6+2,none⟩=some (.int .i64 k0):=hcl 2 (by decide)
   have c3:wr.cell? ⟨gr,i*6+3,none⟩=some (.int .i64 k1):=hcl 3 (by decide)
   have c4:wr.cell? ⟨gr,i*6+4,none⟩=some (.int .i64 k2):=hcl 4 (by decide)
   have c5:wr.cell? ⟨gr,i*6+5,none⟩=some (.int .i64 k3):=hcl 5 (by decide)
   obtain ⟨s1,s2,s3⟩:=HS.out.1.cell hx1000
   rw[decide_eq_false hnew] at s1
   have y0:wr.cell? ⟨w.heap.size,0,none⟩=some (.slice (some ⟨g,0,none⟩) n c):=(HS.out.2.cell (p:=⟨w.heap.size,0,none⟩) hl2).trans z0
   have hxI:(1:Int)≤(xn':Int)∧(xn':Int)≤999:=by omega
   have hls:w.heap.size<wr.heap.size:=Nat.lt_of_lt_of_le hl2 HS.out.2.size
   have hlg:gr<wr.heap.size:=Nat.lt_of_lt_of_le hgr HS.out.2.size
   have HStep:=Lib.hid hstep
   have Hlt:=Lib.hid hlt
   have HX:=Lib.hid hx1000
   clear hgg hlt hil hmem hnew hstep hcl hi hx1000 z0 z2
   go_wp2_with fail
   have HSn:Hid (SeenIs ((wr.setCell ⟨w2.heap.size,xn',none⟩ (.bool true)).alloc (.cells #[.int .i64 (xn':Int), .int .i64 xp, .int .i64 k0, .int .i64 k1, .int .i64 k2, .int .i64 k3] 184)) w2.heap.size ((calls.take (i+1)).map (·.num))∧Below w2.heap.size w2 ((wr.setCell ⟨w2.heap.size,xn',none⟩ (.bool true)).alloc (.cells #[.int .i64 (xn':Int), .int .i64 xp, .int .i64 k0, .int .i64 k1, .int .i64 k2, .int .i64 k3] 184))):=Lib.hid (by
    have hb0:Below w2.heap.size w2 (wr.setCell ⟨w2.heap.size,xn',none⟩ (.bool true)):=HS.out.2.setCell (p:=⟨w2.heap.size,xn',none⟩) (Nat.le_refl _) _
    have hb1:Below (wr.setCell ⟨w2.heap.size,xn',none⟩ (.bool true)).heap.size (wr.setCell ⟨w2.heap.size,xn',none⟩ (.bool true)) ((wr.setCell ⟨w2.heap.size,xn',none⟩ (.bool true)).alloc (.cells #[.int .i64 (xn':Int), .int .i64 xp, .int .i64 k0, .int .i64 k1, .int .i64 k2, .int .i64 k3] 184)):=(Below.refl _ _).alloc (Nat.le_refl _) _
    refine ⟨?_,hb0.trans (hb1.mono hb0.size)⟩
    rw[HStep.out]
    have hs:=HS.out.1.set HX.out
    exact hs.block (hb1.block _ (hs.cell (j:=0) (by decide)).2.2))
   generalize (wr.setCell ⟨w2.heap.size,xn',none⟩ (.bool true)).alloc (.cells #[.int .i64 (xn':Int), .int .i64 xp, .int .i64 k0, .int .i64 k1, .int .i64 k2, .int .i64 k3] 184)=w5 at*
   go_loopg [74] 4 (fun g2 jv wr2=> ∃(j:Int),(0≤j∧j≤4)∧g2=(4 - j).toNat∧jv= .int .i64 j∧w5=wr2)
   case atStart=>exact ⟨0,⟨by decide,by decide⟩,rfl,rfl,rfl⟩
   case round=>
    obtain ⟨j,hj,hg2,rfl,rfl⟩:=hrel
    have HG2:=Lib.hid hg2
    clear hg2
    obtain rfl|rfl|rfl|rfl|rfl:j=0∨j=1∨j=2∨j=3∨j=4:=by omega
    ·have hix: ∀(W:World),(Instr.index 64 (.agg #[.int .i64 k0, .int .i64 k1, .int .i64 k2, .int .i64 k3]) (.int .i64 (0:Int))).run Tryz.prog W= .ok (.int .i64 k0) W:=fun W=>by kernel_rfl
     go_wp2_with fail
     go_roundg 3
     case measure=>have:=HG2.out;omega
     case rel=>exact ⟨1,⟨by decide,by decide⟩,rfl,by go_num,rfl⟩
    ·have hix: ∀(W:World),(Instr.index 64 (.agg #[.int .i64 k0, .int .i64 k1, .int .i64 k2, .int .i64 k3]) (.int .i64 (1:Int))).run Tryz.prog W= .ok (.int .i64 k1) W:=fun W=>by kernel_rfl
     go_wp2_with fail
     go_roundg 2
     case measure=>have:=HG2.out;omega
     case rel=>exact ⟨2,⟨by decide,by decide⟩,rfl,by go_num,rfl⟩
    ·have hix: ∀(W:World),(Instr.index 64 (.agg #[.int .i64 k0, .int .i64 k1, .int .i64 k2, .int .i64 k3]) (.int .i64 (2:Int))).run Tryz.prog W= .ok (.int .i64 k2) W:=fun W=>by kernel_rfl
     go_wp2_with fail
     go_roundg 1
     case measure=>have:=HG2.out;omega
     case rel=>exact ⟨3,⟨by decide,by decide⟩,rfl,by go_num,rfl⟩
    ·have hix: ∀(W:World),(Instr.index 64 (.agg #[.int .i64 k0, .int .i64 k1, .int .i64 k2, .int .i64 k3]) (.int .i64 (3:Int))).run Tryz.prog W= .ok (.int .i64 k3) W:=fun W=>by kernel_rfl
     go_wp2_with fail
     go_roundg 0
     case measure=>have:=HG2.out;omega
     case rel=>exact ⟨4,⟨by decide,by decide⟩,rfl,by go_num,rfl⟩
    ·go_wp2_with fail
     go_roundg (m - (i+1))
     case measure=>have:=Hg.out;have:=Hlt.out;omega
     case rel=>
      have:=Hlt.out
      exact ⟨i+1,by omega,rfl,by go_num,HSn⟩
  ·obtain rfl:i=m:=by omega
   clear hgg
   go_wp2_with fail
   go_ret
   exact ⟨rfl,HB2.out.trans (HS.out.2.mono HB2.out.size)⟩):P:=h
theorem a66.q92 {P:Prop} (h:P:=by
 have HP:=Lib.hid (fun W=>cplace_ok loop (n:Int) W (by omega))
 exact m83):P:=h
open a66 in
set_option maxRecDepth 100000 in
theorem clib_ok {w:World} {g n c m cr b:Nat} {A:Option Addr} {l:List InsL} {calls:List RowL} {loop:Int} (h:CodeAt w g l) (hg:g<w.heap.size) (hn:n=l.length) (h0:0<l.length) (hl:l.length≤2048) (hmay: ∀x∈l,mayK x l.length true=true) (hlp:0≤loop∧loop<l.length) (hm:m=calls.length) (hm2:m≤999)
  (hrow:w.ownsRow b 184 6 (.slice A m cr) m (callC calls)) (hnod:(calls.map (·.num)).Nodup) (hcalls: ∀r∈calls,1≤r.num∧r.num≤999∧0≤r.pos∧r.pos<l.length∧(0≤r.k0∧r.k0≤7)∧(0≤r.k1∧r.k1≤7)∧(0≤r.k2∧r.k2≤7)∧(0≤r.k3∧r.k3≤7)):
  Calls Tryz.prog 76 #[.agg #[.slice (some ⟨g,0,none⟩) n c, .int .i64 loop, .slice A m cr]] w fun e w'=>e= .returned .nilIface∧Below w.heap.size w w':=by
 have B1:Below w.heap.size w (w.alloc (.cells #[.slice (some ⟨g,0,none⟩) n c, .int .i64 loop, .slice A m cr] 77)):=(Below.refl _ _).alloc (Nat.le_refl _) _
 have HC:=Lib.hid (cchecked_ok (c:=c) (h.below hg B1) (Nat.lt_of_lt_of_le hg B1.size) hn hl hmay)
 exact m92
end Go.Proofs.YtaangaogmnlljaaGreatDoor.Kn
