/- distaffkeep.Same: an error is what the document says: true, where it is. -/
import Derived.Test.YtmijknodkoblbaaDoorErrKind
import Derived.Test.YtmijknodkoblbaaDoorHeadQuiet
import Derived.Deep.RegionHeld3
import Derived.Deep.QuietTactic
import Derived.BigQuiet
namespace Go.Proofs.YtmijknodkoblbaaDoor.Errs
open Go.RowKit Go.Extern.Stop Go.Stop Go.Extern

theorem below_drewN {B : Nat} {a w : World} (h : Below B a w) (n : Nat) : Below B a (w.drewN n) := ⟨h.os, h.tape, h.output, h.size, h.block⟩
theorem door_pos {w : World} (hd : Door w) : 0 < w.heap.size := by
  rcases Nat.eq_zero_or_pos w.heap.size with h0 | h
  · simp [Door, World.cell?, h0] at hd
  · exact h
theorem Door.below {w w' : World} {B : Nat} (hd : Door w) (hb : Below B w w') (hB : 0 < B) : Door w' := (hb.cell (p := ⟨0, 0, none⟩) hB).trans hd

/-- errors.As finds the outermost pointer. -/
theorem as_at (b tb : Nat) (old : Value) (w : World) (hd : Door w) (ht : w.cell? ⟨tb, 0, none⟩ = some old) (hf : w.frozen? ⟨tb, 0, none⟩ = false) :
    Calls Tryd.prog 16 #[.iface 51 (.pointer (some ⟨b, 0, none⟩)), .iface 53 (.pointer (some ⟨tb, 0, none⟩))] w fun e w' =>
      e = .returned (.bool true) ∧ Below tb w w' ∧ w'.cell? ⟨tb, 0, none⟩ = some (.pointer (some ⟨b, 0, none⟩)) ∧ w'.frozen? ⟨tb, 0, none⟩ = false ∧ w.heap.size ≤ w'.heap.size := by
  have htl : tb < w.heap.size := by
    rcases Nat.lt_or_ge tb w.heap.size with h | h
    · exact h
    · simp [World.cell?, Array.getElem?_eq_none h] at ht
  refine (as_hit ⟨b, 0, none⟩ ⟨tb, 0, none⟩ old w hd ht hf).mono fun e w' ⟨he, hw⟩ => ?_
  subst hw
  refine ⟨he, ?_, ?_, ?_, by simp; omega⟩
  · refine Below.setCell (p := ⟨tb, 0, none⟩) ?_ (Nat.le_refl _) _
    repeat (first | exact Below.refl _ _ | refine Below.alloc ?_ (by simp; try omega) _)
  · refine World.cell?_setCell_same' _ _ _ ?_
    rw [World.cell?_alloc_lt _ _ ⟨tb, 0, none⟩ (by simp; omega), World.cell?_alloc_lt _ _ ⟨tb, 0, none⟩ (by simp; omega), World.cell?_alloc_lt _ _ ⟨tb, 0, none⟩ (by simp; omega), World.cell?_alloc_lt _ _ ⟨tb, 0, none⟩ htl, ht]
    rfl
  · rw [World.frozen?_setCell, World.frozen?_alloc_old _ _ ⟨tb, 0, none⟩ (by simp; omega), World.frozen?_alloc_old _ _ ⟨tb, 0, none⟩ (by simp; omega), World.frozen?_alloc_old _ _ ⟨tb, 0, none⟩ (by simp; omega), World.frozen?_alloc_old _ _ ⟨tb, 0, none⟩ (Nat.ne_of_lt htl)]
    exact hf

/-- What the document says, in memory: the layers, the places, the kind. -/
def IsFail (w : World) (r : List (ByteArray × Int)) (k : Int) (f : Value) : Prop :=
  ∃ fb A A' c c', f = .pointer (some ⟨fb, 0, none⟩) ∧ fb < w.heap.size ∧ w.cell? ⟨fb, 0, none⟩ = some (.slice A r.length c) ∧ w.cell? ⟨fb, 1, none⟩ = some (.slice A' r.length c') ∧ w.cell? ⟨fb, 2, none⟩ = some (.int .i64 k) ∧
    ∀ i s n, r[i]? = some (s, n) → ∃ lb lo pb po, A = some ⟨lb, lo, none⟩ ∧ A' = some ⟨pb, po, none⟩ ∧ lb < w.heap.size ∧ pb < w.heap.size ∧ w.cell? ⟨lb, lo + i, none⟩ = some (.string s) ∧ w.cell? ⟨pb, po + i, none⟩ = some (.int .i64 n)
theorem IsFail.below {w w' : World} (hb : Below w.heap.size w w') {r : List (ByteArray × Int)} {k : Int} {f : Value} (h : IsFail w r k f) : IsFail w' r k f := by
  obtain ⟨fb, A, A', c, c', h1, h2, h3, h4, h5, h6⟩ := h
  refine ⟨fb, A, A', c, c', h1, Nat.lt_of_lt_of_le h2 hb.size, (hb.cell (p := ⟨fb, 0, none⟩) h2).trans h3, (hb.cell (p := ⟨fb, 1, none⟩) h2).trans h4, (hb.cell (p := ⟨fb, 2, none⟩) h2).trans h5, fun i s n hi => ?_⟩
  obtain ⟨lb, lo, pb, po, e1, e2, b1, b2, c1, c2⟩ := h6 i s n hi
  exact ⟨lb, lo, pb, po, e1, e2, Nat.lt_of_lt_of_le b1 hb.size, Nat.lt_of_lt_of_le b2 hb.size, (hb.cell (p := ⟨lb, _, none⟩) b1).trans c1, (hb.cell (p := ⟨pb, _, none⟩) b2).trans c2⟩

/-- Same(nil, nil). -/
theorem same_nil (w : World) : Calls Tryd.prog 6 #[.nilIface, .pointer none] w fun e w' => e = .returned (.bool true) ∧ w = w' := by
  go_enter Tryd.func6, Tryd.ntmps6
  go_wp2
  go_ret
  exact ⟨rfl, rfl⟩

theorem drop_cons {α : Type} {r : List α} {i : Nat} {x : α} {suf : List α} (h : r.drop i = x :: suf) : r[i]? = some x ∧ r.drop (i + 1) = suf ∧ i < r.length := by
  have h1 : (r.drop i)[0]? = some x := by rw [h]; rfl
  rw [List.getElem?_drop] at h1
  have h2 := (List.getElem?_eq_some_iff.1 h1).1
  refine ⟨by simpa using h1, ?_, by omega⟩
  have e : r.drop (i + 1) = (r.drop i).drop 1 := by rw [List.drop_drop]
  rw [e, h]; rfl

set_option maxRecDepth 100000 in
set_option maxHeartbeats 4000000 in
theorem same_true (v f : Value) (r : List (ByteArray × Int)) (k : Int) (w : World) (h : IsErr w r k v) (hf : IsFail w r k f) (hd : Door w) (hk1 : 1 ≤ k) (hk2 : k ≤ 10) (hlen : r.length ≤ 1000) :
    Calls Tryd.prog 6 #[v, f] w fun e w' => e = .returned (.bool true) ∧ Below w.heap.size w w' := by
  have HK := Lib.hid (fun q => (kind_any v r k (w.drewN q) (h.below (below_drewN (Below.refl _ _) q)) hk1 hk2).mono fun _ _ ⟨he, hw⟩ => And.intro he hw.symm)
  have HF := Lib.hid hf
  have HD := Lib.hid hd
  obtain ⟨fb, A, A', c, c', rfl, hfb, f0, f1, f2, hfc⟩ := hf
  have HE := Lib.hid h
  obtain ⟨t0, x0, rfl⟩ := h.form
  obtain ⟨n, hn⟩ : ∃ n, n = r.length := ⟨_, rfl⟩
  rw [← hn] at f0 f1 hlen
  have HN := Lib.hid hn
  have HFC := Lib.hid hfc
  clear h hfc hd hn
  have hne : (k != k) = false := by simp
  go_enter Tryd.func6, Tryd.ntmps6
  go_wp2_with fail
  go_quiet ((go_at_call 15; exact Calls.quiet_of_same (HK.out _)))
  go_wp2_with fail
  clear hne
  go_loopw [0, 5] (fun e iv wr => ∃ q : Nat, q ≤ n ∧ iv = .int .i64 q ∧ Hid (IsErr wr (r.drop q) k e) ∧ Below w.heap.size w wr) (fun _ iv _ => n - (intOf iv).toNat)
  case atStart => exact ⟨0, by omega, rfl, Lib.hid (by have := HE.out.below (below_drewN (Below.refl w.heap.size w) nq); simpa using this), below_drewN (Below.refl _ _) nq⟩
  case round =>
    obtain ⟨q, hq, rfl, HEq, hb⟩ := hrel
    have f0' := (hb.cell (p := ⟨fb, 0, none⟩) hfb).trans f0
    have f1' := (hb.cell (p := ⟨fb, 1, none⟩) hfb).trans f1
    by_cases hlt : q < n
    · have hne2 : r.drop q ≠ [] := by
        intro e
        have := congrArg List.length e
        rw [List.length_drop, ← HN.out] at this
        simp at this
        omega
      obtain ⟨⟨s, m⟩, suf, hsuf⟩ := List.exists_cons_of_ne_nil hne2
      obtain ⟨hr0, hr1, _⟩ := drop_cons hsuf
      have hE := HEq.out
      rw [hsuf] at hE
      obtain ⟨b, v', rfl, hbb, e0, e1, e2, hE'⟩ := hE
      obtain ⟨lb, lo, pb, po, rfl, rfl, hlb, hpb, d0, d1⟩ := HFC.out q s m hr0
      have d0' := (hb.cell (p := ⟨lb, lo + q, none⟩) hlb).trans d0
      have d1' := (hb.cell (p := ⟨pb, po + q, none⟩) hpb).trans d1
      have hsz := hb.size
      have HD1 : Door (wr.alloc (.cells #[.pointer none] 51)) := (HD.out.below hb (door_pos HD.out)).below ((Below.refl wr.heap.size wr).alloc (Nat.le_refl _) _) (door_pos (HD.out.below hb (door_pos HD.out)))
      have HAS := Lib.hid (as_at b wr.heap.size (.pointer none) (wr.alloc (.cells #[.pointer none] 51)).drew HD1 (World.cell?_alloc_at _ _ _ _ rfl) (World.frozen?_alloc_at _ _ _ _ rfl))
      have HS := Lib.hid hsuf
      have HR1 := Lib.hid hr1
      have HE1 := Lib.hid hE'
      obtain ⟨t1, x1, rfl⟩ := hE'.form
      clear hsuf hr0 hr1 hE' HEq d0 d1 f0 f1 f2 hne2 HD1
      go_wp2_with fail
      have G0 := (((Below.refl wr.heap.size wr).alloc (Nat.le_refl _) (.cells #[.pointer none] 51)).drew)
      have k0 := (G0.cell (p := ⟨fb, 0, none⟩) (Nat.lt_of_lt_of_le hfb hsz)).trans f0'
      have k1 := (G0.cell (p := ⟨fb, 1, none⟩) (Nat.lt_of_lt_of_le hfb hsz)).trans f1'
      have k2 := (G0.cell (p := ⟨lb, lo + q, none⟩) (Nat.lt_of_lt_of_le hlb hsz)).trans d0'
      have k3 := (G0.cell (p := ⟨pb, po + q, none⟩) (Nat.lt_of_lt_of_le hpb hsz)).trans d1'
      have k4 := (G0.cell (p := ⟨b, 0, none⟩) hbb).trans e0
      have k5 := (G0.cell (p := ⟨b, 1, none⟩) hbb).trans e1
      have hlb2 := Nat.lt_of_lt_of_le hlb hsz
      have hpb2 := Nat.lt_of_lt_of_le hpb hsz
      have hfb2 := Nat.lt_of_lt_of_le hfb hsz
      refine wp_region_two_call (by kernel_rfl) rfl (by kernel_rfl) (by kernel_rfl) (by kernel_rfl) (by kernel_rfl) (by kernel_rfl) (by kernel_rfl) rfl rfl rfl (.iface 51 (.pointer (some ⟨b, 0, none⟩))) (.iface 53 (.pointer (some ⟨wr.heap.size, 0, none⟩))) (fun _ => by go_simp) (fun _ => by go_simp) (fun _ => by go_simp) (fun _ => by go_simp) rfl ?_
      intro K hK
      go_simp
      go_at_call 16
      refine HAS.out.mono ?_
      rintro e w2 ⟨rfl, hb2, hat, hatf, hsz2⟩
      have l0 := (hb2.cell (p := ⟨fb, 0, none⟩) hfb2).trans k0
      have l1 := (hb2.cell (p := ⟨fb, 1, none⟩) hfb2).trans k1
      have l2 := (hb2.cell (p := ⟨lb, lo + q, none⟩) hlb2).trans k2
      have l3 := (hb2.cell (p := ⟨pb, po + q, none⟩) hpb2).trans k3
      have l4 := (hb2.cell (p := ⟨b, 0, none⟩) hbb).trans k4
      have l5 := (hb2.cell (p := ⟨b, 1, none⟩) hbb).trans k5
      go_simp
      refine hK _ _ ?_
      clear hK
      repeat (first | go_big_quiet_step (fail) | quiet_step (fail))
      refine wpQuiet_nil ?_
      intro _ hw'
      obtain ⟨nq2, hw''⟩ := hw'
      subst hw''
      have e2' := (hb2.cell (p := ⟨b, 2, none⟩) hbb).trans ((G0.cell (p := ⟨b, 2, none⟩) hbb).trans e2)
      go_wp2
      go_roundw
      have hbw := below_drewN ((G0.trans hb2)) nq2
      case rel => exact ⟨q + 1, by omega, by go_num, Lib.hid (by rw [HR1.out]; exact HE1.out.below hbw), hb.trans (hbw.mono hsz)⟩
      case measure => simp [intOf]; omega
    · obtain rfl : q = n := by omega
      have hE := HEq.out
      rw [List.drop_eq_nil_of_le (by rw [← HN.out]; exact Nat.le_refl _)] at hE
      have hv : u0 = .iface 45 (.int .i64 k) := hE
      subst hv
      have hsz := hb.size
      have HD1 : Door (wr.alloc (.cells #[.pointer none] 51)) := (HD.out.below hb (door_pos HD.out)).below ((Below.refl wr.heap.size wr).alloc (Nat.le_refl _) _) (door_pos (HD.out.below hb (door_pos HD.out)))
      have HAL := Lib.hid (as_leaf k ⟨wr.heap.size, 0, none⟩ (wr.alloc (.cells #[.pointer none] 51)) HD1)
      clear hE HEq f0 f1 f2 HD1
      go_wp2_with (go_at_call 16; refine HAL.out.mono ?_; rintro e w2 ⟨rfl, hb2⟩)
      go_ret
      exact ⟨rfl, (hb.alloc hsz _).trans (hb2.mono (by simp; omega))⟩
end Go.Proofs.YtmijknodkoblbaaDoor.Errs
