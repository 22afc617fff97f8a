/- The walk of distafflaw24.PosixLib: true. -/
import Derived.Test.YtlpkafhboomjkaaGreatDoorLibAwk
import Derived.Test.YtlpkafhboomjkaaGreatDoorAsmB
import Derived.Test.YtlpkafhboomjkaaGreatDoorRefC
import Derived.Test.YtlpkafhboomjkaaGreatDoorAsmTx
import Derived.Deep.QuietTactic
namespace Go.Proofs.YtlpkafhboomjkaaGreatDoor.Asm
open Go.RowKit Go.Maps Errs PosTab

theorem own_full {w : World} {base : Nat} {e : TypeId} {size n : Nat} {v : Value} {xs : List Value} (h : w.ownsRow base e size v n xs) (h0 : 0 < n) :
    ∃ g cap cur, v = .slice (some ⟨g, 0, none⟩) n cap ∧ base ≤ g ∧ w.heap[g]? = some (.cells cur e (0, 0)) ∧ n ≤ cap ∧ cap ≤ maxLen ∧ cur.size = cap * size ∧ ∀ k, k < n * size → cur[k]? = xs[k]? := by
  obtain ⟨hl, ⟨_, h2⟩ | ⟨g, cap, cur, hv, hg, hh, hn, hm, hs, ht⟩⟩ := h
  · omega
  · refine ⟨g, cap, cur, hv, hg, hh, hn, hm, hs, fun k hk => ?_⟩
    rw [← ht, List.getElem?_take_of_lt hk]
    simp

/-- Row k of the calls, in a block's cells. -/
def RowOf (cu : Array Value) (labels : List (Str × Nat)) (k : Nat) : Prop := ∀ i, k * 6 ≤ i → i < 270 → cu[i]? = (rowsC labels tab)[i]?

theorem rowsC_at (labels : List (Str × Nat)) {k : Nat} (hk : k < tab.length) (j : Nat) (hj : j < 6) : (rowsC labels tab)[k * 6 + j]? = (rowC labels tab[k])[j]? := flat_at (k := 6) (f := rowC labels) (fun _ => rfl) tab k hk j hj

set_option maxRecDepth 100000 in
set_option maxHeartbeats 4000000 in
theorem poslib_law (w : World) (hd : Door w) (hM : MaxDoor w) (hMl : 1 < w.heap.size) :
    Calls Tryz.prog 3 #[] w fun e w' => e = .returned (.bool true) ∧ Below w.heap.size w w' := by
  obtain ⟨code, labels, hp, hc0, hc1, hlab⟩ := lib_is
  have HR := Lib.hid (rlib_any hp hlab w)
  have HLib := Lib.hid (fun W => lib_any hp hlab W)
  have HM := Lib.hid hM
  have HD := Lib.hid hd
  have hp0 := door_pos hd
  clear hp hM hd
  go_enter Tryz.func3, Tryz.ntmps3
  go_wp2_with fail
  refine HR.out.mono ?_
  rintro e w1 ⟨vcW, vrW, rfl, hcW, hrW, hb1⟩
  obtain ⟨gW, capW, curW, rfl, hgW, hhW, _, _, _, hrowW⟩ := own_full hrW (by omega)
  obtain ⟨AcW, ccW, rfl⟩ := own_shape hcW
  have hgW1 := blk_lt hhW
  have hw1 := hb1.size
  have HB1 := Lib.hid hb1
  have HCW := Lib.hid hcW
  have HRW := Lib.hid hrowW
  have HHW := Lib.hid hhW
  clear hcW hrW hhW hb1 hrowW HR
  generalize hL : (loopOf labels : Int) = L
  have HL := Lib.hid hL
  clear hL
  go_wp2_with fail
  have HB2 : Hid (Below w.heap.size w (w1.alloc (.cells #[.slice AcW code.length ccW, .int .i64 L, .slice (some ⟨gW, 0, none⟩) 45 capW] 25))) := Lib.hid (HB1.out.alloc (by omega) _)
  have HX2 : Hid ((w1.alloc (.cells #[.slice AcW code.length ccW, .int .i64 L, .slice (some ⟨gW, 0, none⟩) 45 capW] 25)).heap[w1.heap.size]? = some (.cells #[.slice AcW code.length ccW, .int .i64 L, .slice (some ⟨gW, 0, none⟩) 45 capW] 25 (0, 0))) := Lib.hid (heap_alloc_new w1 _)
  have HH2 : Hid ((w1.alloc (.cells #[.slice AcW code.length ccW, .int .i64 L, .slice (some ⟨gW, 0, none⟩) 45 capW] 25)).heap[gW]? = some (.cells curW 34 (0, 0))) := Lib.hid ((Below.heap_alloc _ _ _ (by omega)).trans HHW.out)
  have HC2 : Hid ((w1.alloc (.cells #[.slice AcW code.length ccW, .int .i64 L, .slice (some ⟨gW, 0, none⟩) 45 capW] 25)).ownsRow w.heap.size 75 7 (.slice AcW code.length ccW) code.length (codeC code)) := Lib.hid (ownsRow_of_block HCW.out fun k hk => Below.heap_alloc _ _ _ (HCW.out.lt k hk).2)
  have hs2 : (w1.alloc (.cells #[.slice AcW code.length ccW, .int .i64 L, .slice (some ⟨gW, 0, none⟩) 45 capW] 25)).heap.size = w1.heap.size + 1 := by simp
  generalize w1.alloc (.cells #[.slice AcW code.length ccW, .int .i64 L, .slice (some ⟨gW, 0, none⟩) 45 capW] 25) = w2 at HB2 HX2 HH2 HC2 hs2 ⊢
  go_wp2_with fail
  go_loopw [2] (fun iv wr => ∃ i : Nat, i ≤ 2 ∧ iv = .int .i64 i ∧ Hid (Below w2.heap.size w2 wr)) (fun iv _ => 2 - (intOf iv).toNat)
  case atStart => exact ⟨0, by omega, rfl, Lib.hid (Below.refl _ _)⟩
  case round =>
    obtain ⟨i, hi, rfl, HBr⟩ := hrel
    have hsr := HBr.out.size
    by_cases hlt : i < 2
    · have hltI : (i : Int) < 2 := by omega
      have hMr : MaxDoor wr := (HM.out.below HB2.out hMl).below HBr.out (by have := HB2.out.size; omega)
      go_wp2_with fail
      refine (HLib.out wr hMr (by have := HB2.out.size; omega)).mono ?_
      rintro e w3 ⟨vc, vr, rfl, hcL, hrL, hb3⟩
      rw [HL.out]
      obtain ⟨gR, capR, curR, rfl, hgR, hhR, hcapR, hcmR, hszR, hrowR⟩ := own_full hrL (by omega)
      obtain ⟨gC, capC, curC, rfl, hgC, hhC, hcapC, hcmC, hszC, _⟩ := own_full hcL (by omega)
      unfold maxLen at hcmR hcmC
      have hs3 := hb3.size
      have hgRl := blk_lt hhR
      have hgCl := blk_lt hhC
      have hBA : Below w3.heap.size w3 (w3.alloc (.cells #[.slice (some ⟨gC, 0, none⟩) code.length capC, .int .i64 L, .slice (some ⟨gR, 0, none⟩) 45 capR] 25)) := (Below.refl _ _).alloc (Nat.le_refl _) _
      have HB4 : Hid (Below wr.heap.size wr (w3.alloc (.cells #[.slice (some ⟨gC, 0, none⟩) code.length capC, .int .i64 L, .slice (some ⟨gR, 0, none⟩) 45 capR] 25))) := Lib.hid (hb3.trans (hBA.mono hs3))
      have HX4 : Hid ((w3.alloc (.cells #[.slice (some ⟨gC, 0, none⟩) code.length capC, .int .i64 L, .slice (some ⟨gR, 0, none⟩) 45 capR] 25)).heap[w3.heap.size]? = some (.cells #[.slice (some ⟨gC, 0, none⟩) code.length capC, .int .i64 L, .slice (some ⟨gR, 0, none⟩) 45 capR] 25 (0, 0))) := Lib.hid (heap_alloc_new w3 _)
      have HR4 : Hid ((w3.alloc (.cells #[.slice (some ⟨gC, 0, none⟩) code.length capC, .int .i64 L, .slice (some ⟨gR, 0, none⟩) 45 capR] 25)).heap[gR]? = some (.cells curR 34 (0, 0))) := Lib.hid ((hBA.block gR hgRl).trans hhR)
      have HG4 : Hid ((w3.alloc (.cells #[.slice (some ⟨gC, 0, none⟩) code.length capC, .int .i64 L, .slice (some ⟨gR, 0, none⟩) 45 capR] 25)).heap[gC]? = some (.cells curC 75 (0, 0))) := Lib.hid ((hBA.block gC hgCl).trans hhC)
      have HC4 : Hid ((w3.alloc (.cells #[.slice (some ⟨gC, 0, none⟩) code.length capC, .int .i64 L, .slice (some ⟨gR, 0, none⟩) 45 capR] 25)).ownsRow wr.heap.size 75 7 (.slice (some ⟨gC, 0, none⟩) code.length capC) code.length (codeC code)) := Lib.hid (ownsRow_of_block hcL fun k hk => hBA.block k (hcL.lt k hk).2)
      have hs4 : (w3.alloc (.cells #[.slice (some ⟨gC, 0, none⟩) code.length capC, .int .i64 L, .slice (some ⟨gR, 0, none⟩) 45 capR] 25)).heap.size = w3.heap.size + 1 := by simp
      have HrowR := Lib.hid hrowR
      have HszC := Lib.hid hszC
      have HszR := Lib.hid hszR
      have hX2 : w3.heap[w1.heap.size]? = some (.cells #[.slice AcW code.length ccW, .int .i64 L, .slice (some ⟨gW, 0, none⟩) 45 capW] 25 (0, 0)) := ((hb3.block _ (by omega)).trans (HBr.out.block _ (by omega))).trans HX2.out
      have hC2 := ownsRow_of_block HC2.out fun k hk => (HB4.out.block k (by have := (HC2.out.lt k hk).2; omega)).trans (HBr.out.block k (by have := (HC2.out.lt k hk).2; omega))
      have b0 : w3.cell? ⟨w1.heap.size, 0, none⟩ = some (.slice AcW code.length ccW) := by simp [World.cell?, hX2]
      have b1 : w3.cell? ⟨w1.heap.size, 1, none⟩ = some (.int .i64 L) := by simp [World.cell?, hX2]
      have b2 : w3.cell? ⟨w1.heap.size, 2, none⟩ = some (.slice (some ⟨gW, 0, none⟩) 45 capW) := by simp [World.cell?, hX2]
      have hl13 : w1.heap.size < w3.heap.size := by omega
      have HK := Lib.hid (keepCode_same HC4.out hC2 hc1)
      have hll : (L != L) = false := by simp
      clear hcL hrL hb3 hBA hhR hhC hrowR hszC hszR hMr hX2 hC2
      go_wp2_with fail
      refine HK.out.mono ?_
      rintro e w5 ⟨rfl, q, rfl⟩
      go_wp2_with fail
      have H5 : Hid (Keeps (fun _ => False) (w3.alloc (.cells #[.slice (some ⟨gC, 0, none⟩) code.length capC, .int .i64 L, .slice (some ⟨gR, 0, none⟩) 45 capR] 25)) ((w3.alloc (.cells #[.slice (some ⟨gC, 0, none⟩) code.length capC, .int .i64 L, .slice (some ⟨gR, 0, none⟩) 45 capR] 25)).drewN q)) := Lib.hid ((Keeps.refl _ _).drewN q)
      have hX5 : ((w3.alloc (.cells #[.slice (some ⟨gC, 0, none⟩) code.length capC, .int .i64 L, .slice (some ⟨gR, 0, none⟩) 45 capR] 25)).drewN q).heap = (w3.alloc (.cells #[.slice (some ⟨gC, 0, none⟩) code.length capC, .int .i64 L, .slice (some ⟨gR, 0, none⟩) 45 capR] 25)).heap := rfl
      have HX5 := Lib.hid hX5
      clear hX5 HK b0 b1 b2 hll hl13
      generalize (w3.alloc (.cells #[.slice (some ⟨gC, 0, none⟩) code.length capC, .int .i64 L, .slice (some ⟨gR, 0, none⟩) 45 capR] 25)) = w4 at *
      generalize w4.drewN q = w5 at *
      go_loopw [5] (fun kv wr2 => ∃ (k : Nat) (cu : Array Value), k ≤ 45 ∧ kv = .int .i64 k ∧ Hid (wr2.heap[gR]? = some (.cells cu 34 (0, 0)) ∧ cu.size = capR * 6 ∧ RowOf cu labels k ∧ Keeps (fun b => b = gR) w5 wr2)) (fun kv _ => 45 - (intOf kv).toNat)
      case atStart =>
        refine ⟨0, curR, by omega, rfl, Lib.hid ⟨by rw [HX5.out]; exact HR4.out, HszR.out, fun i h1 h2 => HrowR.out i (by omega), Keeps.refl _ _⟩⟩
      case round =>
        obtain ⟨k, cu, hk, rfl, HS⟩ := hrel
        obtain ⟨k1, k2, k3, k4⟩ := HS.out
        have hkI : (k : Int) ≤ 45 := by omega
        have hs5 : w5.heap.size = w4.heap.size := by rw [HX5.out]
        have hsz := k4.size
        have hblk : ∀ b, b < w4.heap.size → b ≠ gR → wr.heap[b]? = w4.heap[b]? := fun b hb hne => (k4.block b (by omega) hne).trans (by rw [HX5.out])
        have hX4 : wr.heap[w3.heap.size]? = some (.cells #[.slice (some ⟨gC, 0, none⟩) code.length capC, .int .i64 L, .slice (some ⟨gR, 0, none⟩) 45 capR] 25 (0, 0)) := (hblk _ (by omega) (by omega)).trans HX4.out
        have hX2 : wr.heap[w1.heap.size]? = some (.cells #[.slice AcW code.length ccW, .int .i64 L, .slice (some ⟨gW, 0, none⟩) 45 capW] 25 (0, 0)) := (hblk _ (by omega) (by omega)).trans (((HB4.out.block _ (by omega)).trans (HBr.out.block _ (by omega))).trans HX2.out)
        have hW2 : wr.heap[gW]? = some (.cells curW 34 (0, 0)) := (hblk _ (by omega) (by omega)).trans (((HB4.out.block _ (by omega)).trans (HBr.out.block _ (by omega))).trans HH2.out)
        have a0 : wr.cell? ⟨w3.heap.size, 0, none⟩ = some (.slice (some ⟨gC, 0, none⟩) code.length capC) := by simp [World.cell?, hX4]
        have a2 : wr.cell? ⟨w3.heap.size, 2, none⟩ = some (.slice (some ⟨gR, 0, none⟩) 45 capR) := by simp [World.cell?, hX4]
        have b2 : wr.cell? ⟨w1.heap.size, 2, none⟩ = some (.slice (some ⟨gW, 0, none⟩) 45 capW) := by simp [World.cell?, hX2]
        by_cases hlt2 : k < 45
        · have hltI2 : (k : Int) < 45 := by omega
          have hkt : k < tab.length := by rw [tab_len]; exact hlt2
          have X1 : ∀ j, j < 6 → wr.cell? ⟨gR, k * 6 + j, none⟩ = (rowC labels tab[k])[j]? := fun j hj => by
            have := (k3 (k * 6 + j) (by omega) (by omega)).trans (rowsC_at labels hkt j hj)
            simpa [World.cell?, k1] using this
          have X2 : ∀ j, j < 6 → wr.cell? ⟨gW, k * 6 + j, none⟩ = (rowC labels tab[k])[j]? := fun j hj => by
            have := (HRW.out (k * 6 + j) (by omega)).trans (rowsC_at labels hkt j hj)
            simpa [World.cell?, hW2] using this
          generalize tab[k] = r at X1 X2
          generalize hat : (atOf labels r : Int) = pos
          have x0 : wr.cell? ⟨gR, k * 6, none⟩ = some (.int .i64 r.num) := X1 0 (by omega)
          have x1 : wr.cell? ⟨gR, k * 6 + 1, none⟩ = some (.int .i64 pos) := by rw [← hat]; exact X1 1 (by omega)
          have x2 : wr.cell? ⟨gR, k * 6 + 2, none⟩ = some (.int .i64 r.k0) := X1 2 (by omega)
          have x3 : wr.cell? ⟨gR, k * 6 + 3, none⟩ = some (.int .i64 r.k1) := X1 3 (by omega)
          have x4 : wr.cell? ⟨gR, k * 6 + 4, none⟩ = some (.int .i64 r.k2) := X1 4 (by omega)
          have x5 : wr.cell? ⟨gR, k * 6 + 5, none⟩ = some (.int .i64 r.k3) := X1 5 (by omega)
          have z0 : wr.cell? ⟨gW, k * 6, none⟩ = some (.int .i64 r.num) := X2 0 (by omega)
          have z1 : wr.cell? ⟨gW, k * 6 + 1, none⟩ = some (.int .i64 pos) := by rw [← hat]; exact X2 1 (by omega)
          have z2 : wr.cell? ⟨gW, k * 6 + 2, none⟩ = some (.int .i64 r.k0) := X2 2 (by omega)
          have z3 : wr.cell? ⟨gW, k * 6 + 3, none⟩ = some (.int .i64 r.k1) := X2 3 (by omega)
          have z4 : wr.cell? ⟨gW, k * 6 + 4, none⟩ = some (.int .i64 r.k2) := X2 4 (by omega)
          have z5 : wr.cell? ⟨gW, k * 6 + 5, none⟩ = some (.int .i64 r.k3) := X2 5 (by omega)
          clear X1 X2 hat hX4 hX2 hW2 hblk
          have hfr : ∀ o, wr.frozen? ⟨gR, o, none⟩ = false := fun o => by simp [World.frozen?, k1]
          have hgRl : gR < wr.heap.size := blk_lt k1
          go_wp2_with fail
          have hne := neq_row r.num pos r.k0 r.k1 r.k2 r.k3
          go_quiet (fail)
          have HK1 := Lib.hid k1
          have HK2 := Lib.hid k2
          have HK3 := Lib.hid k3
          have HK4 := Lib.hid k4
          go_wp2_with fail
          refine ⟨⟨k + 1, (((((cu.setIfInBounds (k * 6) (.int .i64 (-5))).setIfInBounds (k * 6 + 1) (.int .i64 0)).setIfInBounds (k * 6 + 2) (.int .i64 0)).setIfInBounds (k * 6 + 3) (.int .i64 0)).setIfInBounds (k * 6 + 4) (.int .i64 0)).setIfInBounds (k * 6 + 5) (.int .i64 0), by omega, by go_num, Lib.hid ⟨set_block (set_block (set_block (set_block (set_block (set_block (show (wr.drewN nq).heap[gR]? = _ from HK1.out) _) _) _) _) _) _, by simpa using HK2.out, fun i h1 h2 => ?_, ((((((HK4.out.drewN nq).setCell (p := ⟨gR, k * 6, none⟩) rfl _).setCell (p := ⟨gR, k * 6 + 1, none⟩) rfl _).setCell (p := ⟨gR, k * 6 + 2, none⟩) rfl _).setCell (p := ⟨gR, k * 6 + 3, none⟩) rfl _).setCell (p := ⟨gR, k * 6 + 4, none⟩) rfl _).setCell (p := ⟨gR, k * 6 + 5, none⟩) rfl _⟩⟩, by simp [intOf]; omega⟩
          rw [Array.getElem?_setIfInBounds_ne (by omega), Array.getElem?_setIfInBounds_ne (by omega), Array.getElem?_setIfInBounds_ne (by omega), Array.getElem?_setIfInBounds_ne (by omega), Array.getElem?_setIfInBounds_ne (by omega), Array.getElem?_setIfInBounds_ne (by omega)]
          exact HK3.out i (by omega) h2
        · have hk45 : k = 45 := by omega
          subst hk45
          have hCR : gC ≠ gR := fun e => by
            have h1 := HG4.out
            rw [e, HR4.out] at h1
            injection h1 with h1
            injection h1 with _ h1
            exact absurd h1 (by decide)
          have hG4 : wr.heap[gC]? = some (.cells curC 75 (0, 0)) := (hblk _ (by omega) hCR).trans HG4.out
          have HK4 := Lib.hid k4
          have HSP := Lib.hid (spoil_any hG4 (by rw [HszC.out]; omega) hcapC (by omega))
          clear k1 k2 k3 k4 HS hG4 hX4 hX2 hW2 hblk
          go_wp2_with fail
          refine HSP.out.mono ?_
          rintro e w6 ⟨rfl, hk6⟩
          have h24 := HBr.out.trans (HB4.out.mono HBr.out.size)
          have h25 := Keeps.below h24 H5.out h24.size (fun _ h => h.elim)
          have h2r := Keeps.below h25 HK4.out h25.size (fun i h => by have : i = gR := h; omega)
          have h26 := Keeps.below h2r hk6 h2r.size (fun i h => by have : i = gC := h; omega)
          have H26 := Lib.hid h26
          clear h24 h25 h2r h26 hk6
          go_wp2_with fail
          exact ⟨⟨i + 1, by omega, by go_num, Lib.hid H26.out⟩, by simp [intOf]; omega⟩
    · have hi2 : i = 2 := by omega
      subst hi2
      have HA := Lib.hid (awake_true wr (HD.out.below (HB2.out.trans (HBr.out.mono HB2.out.size)) hp0))
      go_wp2_with fail
      refine HA.out.mono ?_
      rintro e w3 ⟨rfl, hb3⟩
      go_wp2
      go_ret
      exact ⟨rfl, (HB2.out.trans (HBr.out.mono HB2.out.size)).trans (hb3.mono (by have := HB2.out.size; have := HBr.out.size; omega))⟩
end Go.Proofs.YtlpkafhboomjkaaGreatDoor.Asm
