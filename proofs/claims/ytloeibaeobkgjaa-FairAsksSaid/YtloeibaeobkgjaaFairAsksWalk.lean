/- The walk of the law FairAsks. -/
import Derived.Test.YtloeibaeobkgjaaFairWalks
import Derived.Laws.AppendOwnNone
namespace Go.Proofs.Ytloeibaeobkgjaa.Fair
open Go.ChangeShapes Go.WideShapes Go.ChangeAt Go.RowKit

theorem ecells_len (l : List Ent) : (ecells l).length = l.length * 3 := by
  induction l with
  | nil => rfl
  | cons x r ih => simp only [ecells, List.flatMap_cons, List.length_append, List.length_cons] at ih ⊢; rw [ih]; simp; omega
theorem ecells_inv (l : List Ent) : ∀ (j : Nat) (u : Value), (ecells l)[j]? = some u → ∃ (i : Nat) (e : Ent), l[i]? = some e ∧ ((j = i * 3 ∧ u = .int .i64 e.kind) ∨ (j = i * 3 + 1 ∧ u = .int .i64 e.who) ∨ (j = i * 3 + 2 ∧ u = .int .u64 e.draw)) := by
  induction l with
  | nil => intro j u h; simp [ecells] at h
  | cons x r ih =>
    intro j u h
    have e : ecells (x :: r) = [.int .i64 x.kind, .int .i64 x.who, .int .u64 x.draw] ++ ecells r := by simp [ecells]
    rw [e] at h
    match j, h with
    | 0, h => exact ⟨0, x, rfl, .inl ⟨rfl, by simpa using h.symm⟩⟩
    | 1, h => exact ⟨0, x, rfl, .inr (.inl ⟨rfl, by simpa using h.symm⟩)⟩
    | 2, h => exact ⟨0, x, rfl, .inr (.inr ⟨rfl, by simpa using h.symm⟩)⟩
    | j + 3, h =>
      obtain ⟨i, y, hy, hc⟩ := ih j u (by simpa using h)
      refine ⟨i + 1, y, by simpa using hy, ?_⟩
      rcases hc with ⟨h1, h2⟩ | ⟨h1, h2⟩ | ⟨h1, h2⟩
      · exact .inl ⟨by omega, h2⟩
      · exact .inr (.inl ⟨by omega, h2⟩)
      · exact .inr (.inr ⟨by omega, h2⟩)
theorem ecells_one (l : List Ent) : ∀ u ∈ ecells l, u.oneCell' = true := by
  intro u hu
  simp only [ecells, List.mem_flatMap] at hu
  obtain ⟨e, _, he⟩ := hu
  simp only [List.mem_cons, List.not_mem_nil, or_false] at he
  rcases he with rfl | rfl | rfl <;> rfl
theorem ents_cells {w : World} {B n : Nat} {ad : Addr} {l : List Ent} (h : Ents w B (some ad) n l) : ∀ j u, (ecells l)[j]? = some u → w.cell? (ad.add j) = some u := by
  intro j u hj
  obtain ⟨i, e, he, hc⟩ := ecells_inv l j u hj
  have hil := (List.getElem?_eq_some_iff.1 he).1
  obtain ⟨b, off, hA, _, hcell⟩ := h.2 (by have := h.1; omega)
  injection hA with hA
  subst hA
  obtain ⟨c0, c1, c2⟩ := hcell i e he
  rw [Addr.add_lit]
  rcases hc with ⟨rfl, rfl⟩ | ⟨rfl, rfl⟩ | ⟨rfl, rfl⟩
  · exact c0
  · exact c1
  · exact c2

set_option maxHeartbeats 1000000 in
theorem asks_law (wk : Int) (A : Option Addr) (n c : Nat) (window : Int) (l : List Ent) (hwk : -9223372036854775808 ≤ wk ∧ wk ≤ 9223372036854775807) (hwin : -9223372036854775808 ≤ window ∧ window ≤ 9223372036854775807) (w : World)
    (h : Ents w w.heap.size A n l) (hA : A = none → n = 0 ∧ c = 0) :
    Calls Try.prog 3 #[.int .i64 wk, .slice A n c, .int .i64 window] w fun e w' => e = .returned (.bool true) ∧ Below w.heap.size w w' := by
  by_cases hlong : 3000 < n
  · have HH := Lib.hid h; clear h
    have HA := Lib.hid hA; clear hA
    go_enter Try.func3, Try.ntmps3
    go_wp2_with fail
    refine (awake_any _).mono ?_
    rintro e w5 ⟨rfl, hb5⟩
    go_wp2
    go_ret
    exact ⟨rfl, hb5⟩
  · -- the copy
    have F1 : ∀ (A : Option Addr) (c : Nat) (W : World), Ents W W.heap.size A n l → Calls Try.prog 10 #[.int .i64 wk, .slice A n c, .int .i64 window] W fun e w' => e = .returned (.bool (fairB wk.toNat l window)) ∧ Below W.heap.size W w' := fun A c W hE => fair_any W wk A n c window l hE (by omega) hwk hwin
    have F2 : ∀ (A : Option Addr) (c : Nat) (W : World), Ents W W.heap.size A n l → Calls Try.prog 11 #[.int .i64 wk, .slice A n c, .int .i64 window] W fun e w' => e = .returned (.bool (fairB wk.toNat l window)) ∧ Below W.heap.size W w' := fun A c W hE => ref_any W wk A n c window l hE (by omega) hwk hwin
    have F3 : ∀ (A A' : Option Addr) (c c' : Nat) (W : World), Ents W W.heap.size A n l → Ents W W.heap.size A' n l → Calls Try.prog 12 #[.slice A n c, .slice A' n c'] W fun e w' => e = .returned (.bool true) ∧ Below W.heap.size W w' := fun A A' c c' W hE hE' =>
      (same_any W A A' n n c c' l l hE hE' (by omega)).mono fun e w' ⟨he, q, hq⟩ => ⟨by rw [he]; simp, by rw [hq]; exact below_drewN (Below.refl _ _) q⟩
    generalize fairB wk.toNat l window = b at F1 F2
    have HF1 := Lib.hid F1; clear F1
    have HF2 := Lib.hid F2; clear F2
    have HF3 := Lib.hid F3; clear F3
    obtain ⟨i34, hi34, hz34, hs34, hb34⟩ := info_parts info34
    rcases A with _ | ad
    · obtain ⟨rfl, rfl⟩ := hA rfl
      have HH := Lib.hid h; clear h hA
      go_enter Try.func3, Try.ntmps3
      go_wp2_with fail
      refine (HF1.out _ _ _ HH.out).mono ?_
      rintro e w2 ⟨rfl, hb2⟩
      have hbb2 := (Below.refl w.heap.size w).trans (hb2.mono (Below.refl w.heap.size w).size)
      have e1 := (HH.out).below hb2 |>.more hb2.size
      have e2 := (HH.out).below hb2 |>.more hb2.size
      have HE1 := Lib.hid e1; clear e1
      have HE2 := Lib.hid e2; clear e2
      go_wp2_with fail
      refine (HF2.out _ _ _ HE1.out).mono ?_
      rintro e w3 ⟨rfl, hb3⟩
      have hbb3 := hbb2.trans (hb3.mono hbb2.size)
      have e1 := HE1.out.below hb3 |>.more hb3.size
      have e2 := HE2.out.below hb3 |>.more hb3.size
      clear HE1 HE2
      have HE1 := Lib.hid e1; clear e1
      have HE2 := Lib.hid e2; clear e2
      go_wp2_with fail
      refine (HF3.out _ _ _ _ _ HE1.out HE2.out).mono ?_
      rintro e w4 ⟨rfl, hb4⟩
      have hbb4 := hbb3.trans (hb4.mono hbb3.size)
      go_wp2_with fail
      refine (awake_any _).mono ?_
      rintro e w5 ⟨rfl, hb5⟩
      go_wp2
      go_ret
      exact ⟨rfl, hbb4.trans (hb5.mono hbb4.size)⟩
    · have hn := h.1
      have hnews := ents_cells h
      have h1 := ecells_one l
      have hlen := ecells_len l
      rw [hn] at hlen
      have HH := Lib.hid h; clear h hA
      have HN := Lib.hid hnews; clear hnews
      have H1 := Lib.hid h1; clear h1
      have HL := Lib.hid hlen; clear hlen hn
      go_enter Try.func3, Try.ntmps3
      go_wp2_with (first | (at_builtin; refine wpList_append_own _ rfl _ _ 22 rfl w.heap.size 34 i34 _ 3 24 Try.underlying22 hi34 hz34 hs34 hb34 rfl (by decide) (.slice none 0 0) 0 [] rfl (World.ownsRow_nil _ _ _ _) ad n c (ecells l) rfl HL.out HN.out H1.out (by unfold maxLen; omega) (by omega) (Nat.le_refl _) ?_; intro v w1 hown hgrow _) | fail)
      have hb1 : Below w.heap.size w w1 := (Below.refl _ _).grown hgrow (Nat.le_refl _) (fun k hk => by simp [Value.ownBlock] at hk)
      rw [Nat.zero_add, List.nil_append] at hown
      have hn := HH.out.1
      obtain ⟨A', c', rfl, e2⟩ := own_ents (l := l) (by rw [hn]; exact hown)
      rw [hn] at e2 ⊢
      clear hn hown hgrow HL HN H1
      have e1 := HH.out.below hb1 |>.more hb1.size
      have HE1 := Lib.hid e1; clear e1
      have HE2 := Lib.hid e2; clear e2
      go_wp2_with fail
      refine (HF1.out _ _ _ HE2.out).mono ?_
      rintro e w2 ⟨rfl, hb2⟩
      have hbb2 := hb1.trans (hb2.mono hb1.size)
      have e1 := (HE1.out).below hb2 |>.more hb2.size
      have e2 := (HE2.out).below hb2 |>.more hb2.size
      clear HE1 HE2
      have HE1 := Lib.hid e1; clear e1
      have HE2 := Lib.hid e2; clear e2
      go_wp2_with fail
      refine (HF2.out _ _ _ HE1.out).mono ?_
      rintro e w3 ⟨rfl, hb3⟩
      have hbb3 := hbb2.trans (hb3.mono hbb2.size)
      have e1 := HE1.out.below hb3 |>.more hb3.size
      have e2 := HE2.out.below hb3 |>.more hb3.size
      clear HE1 HE2
      have HE1 := Lib.hid e1; clear e1
      have HE2 := Lib.hid e2; clear e2
      go_wp2_with fail
      refine (HF3.out _ _ _ _ _ HE1.out HE2.out).mono ?_
      rintro e w4 ⟨rfl, hb4⟩
      have hbb4 := hbb3.trans (hb4.mono hbb3.size)
      go_wp2_with fail
      refine (awake_any _).mono ?_
      rintro e w5 ⟨rfl, hb5⟩
      go_wp2
      go_ret
      exact ⟨rfl, hbb4.trans (hb5.mono hbb4.size)⟩
end Go.Proofs.Ytloeibaeobkgjaa.Fair
