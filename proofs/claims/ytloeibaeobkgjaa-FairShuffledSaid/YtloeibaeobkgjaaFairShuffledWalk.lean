/- The walk of the law FairShuffled. -/
import Derived.Test.YtloeibaeobkgjaaFairRefRounds
import Derived.Test.YtloeibaeobkgjaaFairLongerWalk
namespace Go.Proofs.Ytloeibaeobkgjaa.Fair
open Go.ChangeShapes Go.WideShapes Go.ChangeAt Go.RowKit

/-- What a round under way has done: behind l0 lie the entries of all who are not left. -/
def Part (m : Nat) (l0 l : List Ent) (left : List Nat) : Prop :=
  ∃ blk, l = l0 ++ blk ∧ blk.length + left.length = m + 1 ∧ ∀ k, k ≤ m → k ∈ left ∨ ∃ (j : Nat) (e : Ent), blk[j]? = some e ∧ key m e = some k
theorem Part.start (m : Nat) (l0 : List Ent) : Part m l0 l0 (List.range (m + 1)) :=
  ⟨[], by simp, by simp, fun k hk => .inl (List.mem_range.2 (by omega))⟩
theorem Part.step {m : Nat} {l0 l : List Ent} {left : List Nat} {p x : Nat} {d : Int} (h : Part m l0 l left) (hp : p < left.length) (hx : left.getD p 0 = x) (hxm : x ≤ m) : Part m l0 (l ++ [ent m x d]) (left.eraseIdx p) := by
  obtain ⟨blk, h1, h2, h3⟩ := h
  refine ⟨blk ++ [ent m x d], by rw [h1, List.append_assoc], by rw [List.length_append, List.length_eraseIdx_of_lt hp]; simp; omega, fun k hk => ?_⟩
  rcases h3 k hk with h4 | ⟨j, e, h4, h5⟩
  · rcases mem_erase_or hp h4 with h6 | h6
    · refine .inr ⟨blk.length, ent m x d, by rw [List.getElem?_append_right (Nat.le_refl _)]; simp, ?_⟩
      rw [h6, hx]; exact key_ent m x d hxm
    · exact .inl h6
  · have hj := (List.getElem?_eq_some_iff.1 h4).1
    exact .inr ⟨j, e, by rw [List.getElem?_append_left hj]; exact h4, h5⟩
theorem Part.done {m R : Nat} {l0 l : List Ent} (h : Part m l0 l []) (hb : Blocks m R l0) : Blocks m (R + 1) l := by
  obtain ⟨blk, h1, h2, h3⟩ := h
  rw [h1]
  refine hb.snoc (by simpa using h2) fun k hk => ?_
  rcases h3 k hk with h4 | h4
  · cases h4
  · exact h4

theorem take_cells2 {w : World} {base : Nat} {e : TypeId} {g n cap p : Nat} {xs : List Value} (h : w.ownsRow base e 1 (.slice (some ⟨g, 0, none⟩) n cap) n xs) :
    ∀ j u, (xs.take p)[j]? = some u → (w.drew).cell? ((⟨g, 0, none⟩ : Addr).add j) = some u := by
  intro j u hu
  have hj : j < p := by
    rcases Nat.lt_or_ge j p with hlt | hge
    · exact hlt
    · rw [List.getElem?_eq_none (by rw [List.length_take]; omega)] at hu; cases hu
  rw [List.getElem?_take_of_lt hj] at hu
  exact h.drew.cells (g := g) rfl j u hu
theorem drop_cells2 {w : World} {A : Addr} {p : Nat} {xs : List Value}
    (hn : ∀ j u, (xs.drop (p + 1))[j]? = some u → w.drew.cell? (A.add j) = some u) :
    ∀ w2, (w.drew).grownBy w2 none → ∀ j u, (xs.drop (p + 1))[j]? = some u → w2.cell? (A.add j) = some u := by
  intro w2 hg j u hu
  have h1 : w.cell? (A.add j) = some u := hn j u hu
  have hb := block_lt_of_cell h1
  exact (World.cell?_of_block (hg.block (A.add j).block (by show _ < w.heap.size; omega) (fun e => by cases e))).trans h1
theorem draw_of2 (v : Int) (F : Nat) (h0 : 0 ≤ v) (h1 : v ≤ 18446744073709551615) : ∃ (v2 : Int) (p : Nat), v % ((F : Int) + 1) = (p : Int) ∧ v / ((F : Int) + 1) = v2 ∧ p < F + 1 ∧ 0 ≤ v2 ∧ v2 ≤ 18446744073709551615 := by
  have m1 := Int.emod_nonneg v (show ((F : Int) + 1) ≠ 0 by omega)
  have m2 := Int.emod_lt_of_pos v (show 0 < ((F : Int) + 1) by omega)
  refine ⟨v / ((F : Int) + 1), (v % ((F : Int) + 1)).toNat, by omega, rfl, by omega, Int.ediv_nonneg h0 (by omega), ?_⟩
  have := Int.ediv_le_self ((F : Int) + 1) h0
  omega

set_option maxRecDepth 100000 in
set_option maxHeartbeats 4000000 in
theorem shuffled_law (wk : Int) (A : Option Addr) (n c : Nat) (zs : Nat → Int) (hwk : -9223372036854775808 ≤ wk ∧ wk ≤ 9223372036854775807) (hnb : n ≤ 9223372036854775807) (w : World)
    (hz : ∀ i, i < n → ∃ b off, A = some ⟨b, off, none⟩ ∧ b < w.heap.size ∧ w.cell? ⟨b, off + i, none⟩ = some (.int .u64 (zs i)) ∧ 0 ≤ zs i ∧ zs i ≤ 18446744073709551615) :
    Calls Try.prog 6 #[.int .i64 wk, .slice A n c] w fun e w' => e = .returned (.bool true) ∧ Below w.heap.size w w' := by
  have hm := inN_range wk 6 (by omega)
  obtain ⟨m0, hm0⟩ := Int.eq_ofNat_of_zero_le hm.1
  have W1 := fun W => within_any wk 6 hwk (by omega) W
  rw [hm0] at hm W1
  have hmm : (1 : Int) + (m0 : Int) = ((m0 + 1 : Nat) : Int) := by omega
  obtain ⟨m, hmd⟩ : ∃ m, m = m0 + 1 := ⟨_, rfl⟩
  rw [← hmd] at hmm
  have hm1 : 1 ≤ m := by omega
  have hm6 : m ≤ 6 := by omega
  have HW := Lib.hid W1
  have HZ := Lib.hid hz
  clear W1 hz hm hm0 hmd
  go_enter Try.func6, Try.ntmps6
  go_wp2_with fail
  refine (HW.out _).mono ?_
  rintro e w' ⟨rfl, rfl⟩
  go_wp2
  clear hmm
  obtain ⟨i3, hi3, hz3, hs3, hb3⟩ := info_parts info3
  obtain ⟨i34, hi34, hz34, hs34, hb34⟩ := info_parts info34
  go_loopw [6, 7] (fun lv iv wr => ∃ (k : Nat) (l : List Ent), k ≤ n ∧ k ≤ 40 ∧ iv = .int .i64 k ∧ wr.ownsRow w.heap.size 34 3 lv l.length (ecells l) ∧ Below w.heap.size w wr ∧ l.length ≤ 7 * k ∧ Hid (Blocks m k l)) (fun _ iv _ => 40 - (intOf iv).toNat)
  case atStart => exact ⟨0, [], by omega, by omega, rfl, World.ownsRow_nil _ _ _ _, Below.refl _ _, by simp, Blocks.nil m⟩
  case round =>
    obtain ⟨k, l0, hkn, hk40, rfl, hown, hb, hll, HBl⟩ := hrel
    by_cases hlt : k < n ∧ k < 40
    · obtain ⟨hlt1, hlt2⟩ := hlt
      obtain ⟨b, off, rfl, hbb, hcell, hv0, hv1⟩ := HZ.out k hlt1
      have hcw := (hb.cell (p := ⟨b, off + k, none⟩) hbb).trans hcell
      generalize zs k = v0 at hcw hv0 hv1
      clear hcell
      have ht1 : (k : Int) < n := by omega
      have ht2 : (k : Int) < 40 := by omega
      go_wp2
      go_loopw [8, 9] (fun fv jv wf => ∃ q : Nat, q ≤ m + 1 ∧ jv = .int .i64 q ∧ wf.ownsRow w.heap.size 3 1 fv q (icells (List.range q)) ∧ wf.ownsRow w.heap.size 34 3 u6 l0.length (ecells l0) ∧ Below w.heap.size w wf) (fun _ jv _ => m + 1 - (intOf jv).toNat)
      case atStart => exact ⟨0, by omega, rfl, World.ownsRow_nil _ _ _ _, hown, hb⟩
      case round =>
        clear hown hb hcw
        obtain ⟨q, hq, rfl, hrow, hown, hb⟩ := hrel
        by_cases hlt3 : q < m + 1
        · have hlt4 : (q : Int) ≤ m := by omega
          go_wp2_with (at_builtin; refine wpList_append_own _ rfl _ _ 32 rfl w.heap.size 3 i3 (.int .i64 0) 1 8 Try.underlying32 hi3 hz3 hs3 hb3 rfl (by decide) _ _ _ rfl (hrow.alloc _) ⟨wr.heap.size, 0, none⟩ 1 1 [.int .i64 q] rfl rfl ?c1 ?c2 ?c3 ?c4 ?c5 ?_)
          case c1 => exact cell_one_new _ _ _
          case c2 => simp [Value.oneCell']
          case c3 => unfold maxLen; omega
          case c4 => omega
          case c5 => have := hb.size; simp; omega
          · intro v' w1 hrow' hgrow _
            obtain ⟨hown', hb'⟩ := own_after hrow hown (by decide) hb hb.size hgrow
            clear hrow hown hb hgrow
            go_wp2
            go_roundw
            case rel => exact ⟨q + 1, by omega, by go_num, by rw [List.range_succ, icells_snoc]; exact hrow', hown', hb'⟩
            case measure => simp [intOf]; omega
        · obtain rfl : q = m + 1 := by omega
          obtain ⟨b, off, hbe, hbb, hcell, hv0, hv1⟩ := HZ.out k hlt1
          cases hbe
          have hcw := (hb.cell (p := ⟨b, off + k, none⟩) hbb).trans hcell
          generalize zs k = v0 at hcw hv0 hv1
          clear hcell
          go_wp2
          go_loopw [6, 8, 10] (fun lv fv vv wf => ∃ (l : List Ent) (left : List Nat) (v : Int), vv = .int .u64 v ∧ 0 ≤ v ∧ v ≤ 18446744073709551615 ∧ wf.ownsRow w.heap.size 3 1 fv left.length (icells left) ∧ wf.ownsRow w.heap.size 34 3 lv l.length (ecells l) ∧ Below w.heap.size w wf ∧ l.length + left.length ≤ 7 * k + 7 ∧ (∀ x ∈ left, x ≤ m) ∧ Hid (Part m l0 l left)) (fun _ fv _ _ => lenV fv)
          case atStart => exact ⟨l0, List.range (m + 1), v0, rfl, hv0, hv1, by simpa using hrow, hown, hb, by simp; omega, fun x hx => by have := List.mem_range.1 hx; omega, Part.start m l0⟩
          case round =>
            clear hrow hown hb hcw hv0 hv1
            obtain ⟨l, left, v, rfl, hv0, hv1, hrow, hown, hb, hlb, hlm, HP⟩ := hrel
            obtain ⟨F, hF⟩ : ∃ F, F = left.length := ⟨_, rfl⟩
            rw [← hF] at hrow hlb
            have HF := Lib.hid hF; clear hF
            have HLM := Lib.hid hlm; clear hlm
            by_cases h0 : 0 < F
            · obtain ⟨g, cap, rfl, hgB, hgl⟩ := hrow.form h0
              obtain ⟨F', rfl⟩ : ∃ F', F = F' + 1 := ⟨F - 1, by omega⟩
              obtain ⟨v2, p, hp1, hp2, hpF, hv20, hv21⟩ := draw_of2 v F' hv0 hv1
              have hmem := (left_at HF.out HLM.out hpF)
              obtain ⟨x, hx, hxm, hxe⟩ := hmem
              have HX := Lib.hid hxe; clear hxe
              have hcl := hrow.cells (g := g) rfl p _ hx
              rw [Addr.add_lit, Nat.zero_add] at hcl
              have hfr := hrow.frozenAt p
              have HX2 := Lib.hid hx; clear hx
              by_cases hxl : x < m
              · have hent : Hid (ent m x 0 = ⟨1, x, 0⟩) := if_pos hxl
                have hxe : ((x : Int) == (m : Int)) = false := by simp; omega
                go_wp2_with (at_builtin; refine wpList_append_own _ rfl (.tmp 65) (.tmp 67) 22 rfl w.heap.size 34 i34 _ 3 24 Try.underlying22 hi34 hz34 hs34 hb34 rfl (by decide) _ _ _ rfl ((hown.alloc _).alloc _) ⟨wr.heap.size + 1, 0, none⟩ 1 1 [.int .i64 (1), .int .i64 (x), .int .u64 (0)] rfl rfl ?c11 ?c21 ?c31 ?c41 ?c51 ?_)
                case c11 => exact cells3_new _ _ _ _ _ _ (by simp)
                case c21 => simp [Value.oneCell']
                case c31 => unfold maxLen; omega
                case c41 => omega
                case c51 => have := hb.size; simp; omega
                intro v' w1 hown' hgrow _
                obtain ⟨hrow', hb'⟩ := own_after (hown.alloc _) (hrow.alloc _) (by decide) (hb.alloc hb.size _) (by have := hb.size; simp; omega) hgrow
                clear hrow hown hb hgrow hcl hfr
                obtain ⟨A, hA, hnews, q1, q2, q3, hcap, hcap2⟩ := del_pre hrow' hpF (icells_one left)
                have hic : p ≤ cap := by omega
                have hwr : IntKind.i64.wrap ((p : Int) + 1) = (p : Int) + 1 := by rw [IntKind.wrap_i64]; omega
                have hp0 : (0 : Int) ≤ (p : Int) + 1 := by omega
                have hpp1 : (p : Int) + 1 ≤ (F' : Int) + 1 := by omega
                have hpp2 : ((p : Int) + 1).toNat = p + 1 := by omega
                have HR := Lib.hid hrow'; clear hrow'
                have hpl : p < (icells left).length := by have := HF.out; simp [icells]; omega
                have N1 := Lib.hid (take_cells2 HR.out (p := p))
                have N2 := Lib.hid (drop_cells2 (w := w1) hnews.out)
                have L1 := Lib.hid (show ((icells left).take p).length = p * 1 by rw [List.length_take]; omega)
                have O1 := Lib.hid (show ∀ u ∈ (icells left).take p, u.oneCell' = true from fun u hu => icells_one left u (List.mem_of_mem_take hu))
                have HBz := Lib.hid hb'.size
                have HB1 := Lib.hid (show Below w.heap.size w w1.drew from hb'.drew)
                have HO1 := Lib.hid (show w1.drew.ownsRow w.heap.size 34 3 v' (l.length + 1) _ from hown'.drew)
                have M1 := Lib.hid (show 0 + p ≤ maxLen by unfold maxLen; omega)
                have M2 := Lib.hid (show 0 + p + (F' + 1 - (p + 1)) ≤ maxLen by unfold maxLen; omega)
                have M3 := Lib.hid (show (0 + p) * 8 ≤ 140737488355328 by omega)
                have M4 := Lib.hid (show (0 + p + (F' + 1 - (p + 1))) * 8 ≤ 140737488355328 by omega)
                clear hnews q3 hown' hb' hpl
                go_wp2_with fail
                go_region_law (first | (refine step_append_own _ rfl (.const (.slice none 0 0)) (.tmp 71) 32 rfl w.heap.size 3 i3 _ 1 8 Try.underlying32 hi3 hz3 hs3 hb3 rfl (by decide) (.slice none 0 0) 0 [] rfl (World.ownsRow_nil _ _ _ _) ⟨g, 0, none⟩ p cap ((icells left).take p) (by simp [Act.eval, Act.put]) L1.out N1.out O1.out M1.out M3.out HBz.out ?_; intro v1 w2 hown1 hg1) | (refine step_append_own _ rfl (.tmp 72) (.tmp 76) 32 rfl w.heap.size 3 i3 _ 1 8 Try.underlying32 hi3 hz3 hs3 hb3 rfl (by decide) v1 _ _ (by simp [Act.eval]) hown1 A (F' + 1 - (p + 1)) (cap - (p + 1)) ((icells left).drop (p + 1)) (by simp [Act.eval]) q1.out (N2.out w2 hg1) q2.out M2.out M4.out (Nat.le_trans HBz.out hg1.size) ?_; intro v2' w3 hown2 hg2))
                have hk1 := HO1.out.kept hg1 (.inr (by have := HO1.out.lt; intro e; have h1 := HO1.out.form (by omega); obtain ⟨g1, c1, e1, _⟩ := h1; rw [e1] at e; simp [Value.ownBlock] at e))
                have hk2 := hk1.kept hg2 (own_apart hk1 hown1 (by decide))
                have hbx := (HB1.out.grown hg1 HBz.out (fun j e => by simp [Value.ownBlock] at e)).grown hg2 (Nat.le_trans HBz.out hg1.size) (fun j e => (hown1.lt j e).1)
                have hlen : (left.eraseIdx p).length = F' := by rw [List.length_eraseIdx_of_lt (by have := HF.out; omega), ← HF.out]; omega
                have hd2 : w3.ownsRow w.heap.size 3 1 v2' (left.eraseIdx p).length (icells (left.eraseIdx p)) := by
                  have e1 : 0 + p + (F' + 1 - (p + 1)) = (left.eraseIdx p).length := by rw [hlen]; omega
                  rw [e1] at hown2
                  have e3 : icells (left.eraseIdx p) = (icells left).take p ++ (icells left).drop (p + 1) := by rw [← icells_erase, List.eraseIdx_eq_take_drop_succ]
                  rw [e3]
                  simpa only [List.nil_append] using hown2
                have ho2 : w3.ownsRow w.heap.size 34 3 v' (l ++ [ent m x 0]).length (ecells (l ++ [ent m x 0])) := by
                  rw [ecells_snoc, List.length_append, hent.out]
                  exact hk2
                have hlen2 : (l ++ [ent m x 0]).length + (left.eraseIdx p).length ≤ 7 * k + 7 := by rw [List.length_append, hlen]; simp; omega
                obtain ⟨Av, cv, rfl⟩ := own_shape hd2
                have HD := Lib.hid hd2; have HO := Lib.hid ho2; have HL2 := Lib.hid hlen2; have HBX := Lib.hid hbx; have HLe := Lib.hid hlen
                clear hd2 ho2 hlen2 hlen hk1 hk2 hbx hown1 hown2 hg1 hg2 hA hwr
                go_wp2
                go_roundw
                have hd2 := HD.out
                have ho2 := HO.out
                have hlen2 := HL2.out
                have hbx := HBX.out
                case rel =>
                  (repeat apply Exists.intro)
                  exact ⟨⟨l ++ [ent m x 0], left.eraseIdx p, v2, rfl, hv20, hv21, hd2, ho2, hbx, hlen2, fun y hy => HLM.out y (List.mem_of_mem_eraseIdx hy), HP.out.step (by have := HF.out; omega) HX.out hxm⟩, rfl⟩
                case measure => simp [lenV, Act.put, HLe.out]
              · have hent : Hid (ent m x 0 = ⟨2, 0, 0⟩) := ent_tick hxm hxl
                have hxe : ((x : Int) == (m : Int)) = true := by simp; omega
                go_wp2_with (at_builtin; refine wpList_append_own _ rfl (.tmp 65) (.tmp 67) 22 rfl w.heap.size 34 i34 _ 3 24 Try.underlying22 hi34 hz34 hs34 hb34 rfl (by decide) _ _ _ rfl ((hown.alloc _).alloc _) ⟨wr.heap.size + 1, 0, none⟩ 1 1 [.int .i64 (2), .int .i64 (0), .int .u64 (0)] rfl rfl ?c12 ?c22 ?c32 ?c42 ?c52 ?_)
                case c12 => exact cells3_new _ _ _ _ _ _ (by simp)
                case c22 => simp [Value.oneCell']
                case c32 => unfold maxLen; omega
                case c42 => omega
                case c52 => have := hb.size; simp; omega
                intro v' w1 hown' hgrow _
                obtain ⟨hrow', hb'⟩ := own_after (hown.alloc _) (hrow.alloc _) (by decide) (hb.alloc hb.size _) (by have := hb.size; simp; omega) hgrow
                clear hrow hown hb hgrow hcl hfr
                obtain ⟨A, hA, hnews, q1, q2, q3, hcap, hcap2⟩ := del_pre hrow' hpF (icells_one left)
                have hic : p ≤ cap := by omega
                have hwr : IntKind.i64.wrap ((p : Int) + 1) = (p : Int) + 1 := by rw [IntKind.wrap_i64]; omega
                have hp0 : (0 : Int) ≤ (p : Int) + 1 := by omega
                have hpp1 : (p : Int) + 1 ≤ (F' : Int) + 1 := by omega
                have hpp2 : ((p : Int) + 1).toNat = p + 1 := by omega
                have HR := Lib.hid hrow'; clear hrow'
                have hpl : p < (icells left).length := by have := HF.out; simp [icells]; omega
                have N1 := Lib.hid (take_cells2 HR.out (p := p))
                have N2 := Lib.hid (drop_cells2 (w := w1) hnews.out)
                have L1 := Lib.hid (show ((icells left).take p).length = p * 1 by rw [List.length_take]; omega)
                have O1 := Lib.hid (show ∀ u ∈ (icells left).take p, u.oneCell' = true from fun u hu => icells_one left u (List.mem_of_mem_take hu))
                have HBz := Lib.hid hb'.size
                have HB1 := Lib.hid (show Below w.heap.size w w1.drew from hb'.drew)
                have HO1 := Lib.hid (show w1.drew.ownsRow w.heap.size 34 3 v' (l.length + 1) _ from hown'.drew)
                have M1 := Lib.hid (show 0 + p ≤ maxLen by unfold maxLen; omega)
                have M2 := Lib.hid (show 0 + p + (F' + 1 - (p + 1)) ≤ maxLen by unfold maxLen; omega)
                have M3 := Lib.hid (show (0 + p) * 8 ≤ 140737488355328 by omega)
                have M4 := Lib.hid (show (0 + p + (F' + 1 - (p + 1))) * 8 ≤ 140737488355328 by omega)
                clear hnews q3 hown' hb' hpl
                go_wp2_with fail
                go_region_law (first | (refine step_append_own _ rfl (.const (.slice none 0 0)) (.tmp 71) 32 rfl w.heap.size 3 i3 _ 1 8 Try.underlying32 hi3 hz3 hs3 hb3 rfl (by decide) (.slice none 0 0) 0 [] rfl (World.ownsRow_nil _ _ _ _) ⟨g, 0, none⟩ p cap ((icells left).take p) (by simp [Act.eval, Act.put]) L1.out N1.out O1.out M1.out M3.out HBz.out ?_; intro v1 w2 hown1 hg1) | (refine step_append_own _ rfl (.tmp 72) (.tmp 76) 32 rfl w.heap.size 3 i3 _ 1 8 Try.underlying32 hi3 hz3 hs3 hb3 rfl (by decide) v1 _ _ (by simp [Act.eval]) hown1 A (F' + 1 - (p + 1)) (cap - (p + 1)) ((icells left).drop (p + 1)) (by simp [Act.eval]) q1.out (N2.out w2 hg1) q2.out M2.out M4.out (Nat.le_trans HBz.out hg1.size) ?_; intro v2' w3 hown2 hg2))
                have hk1 := HO1.out.kept hg1 (.inr (by have := HO1.out.lt; intro e; have h1 := HO1.out.form (by omega); obtain ⟨g1, c1, e1, _⟩ := h1; rw [e1] at e; simp [Value.ownBlock] at e))
                have hk2 := hk1.kept hg2 (own_apart hk1 hown1 (by decide))
                have hbx := (HB1.out.grown hg1 HBz.out (fun j e => by simp [Value.ownBlock] at e)).grown hg2 (Nat.le_trans HBz.out hg1.size) (fun j e => (hown1.lt j e).1)
                have hlen : (left.eraseIdx p).length = F' := by rw [List.length_eraseIdx_of_lt (by have := HF.out; omega), ← HF.out]; omega
                have hd2 : w3.ownsRow w.heap.size 3 1 v2' (left.eraseIdx p).length (icells (left.eraseIdx p)) := by
                  have e1 : 0 + p + (F' + 1 - (p + 1)) = (left.eraseIdx p).length := by rw [hlen]; omega
                  rw [e1] at hown2
                  have e3 : icells (left.eraseIdx p) = (icells left).take p ++ (icells left).drop (p + 1) := by rw [← icells_erase, List.eraseIdx_eq_take_drop_succ]
                  rw [e3]
                  simpa only [List.nil_append] using hown2
                have ho2 : w3.ownsRow w.heap.size 34 3 v' (l ++ [ent m x 0]).length (ecells (l ++ [ent m x 0])) := by
                  rw [ecells_snoc, List.length_append, hent.out]
                  exact hk2
                have hlen2 : (l ++ [ent m x 0]).length + (left.eraseIdx p).length ≤ 7 * k + 7 := by rw [List.length_append, hlen]; simp; omega
                obtain ⟨Av, cv, rfl⟩ := own_shape hd2
                have HD := Lib.hid hd2; have HO := Lib.hid ho2; have HL2 := Lib.hid hlen2; have HBX := Lib.hid hbx; have HLe := Lib.hid hlen
                clear hd2 ho2 hlen2 hlen hk1 hk2 hbx hown1 hown2 hg1 hg2 hA hwr
                go_wp2
                go_roundw
                have hd2 := HD.out
                have ho2 := HO.out
                have hlen2 := HL2.out
                have hbx := HBX.out
                case rel =>
                  (repeat apply Exists.intro)
                  exact ⟨⟨l ++ [ent m x 0], left.eraseIdx p, v2, rfl, hv20, hv21, hd2, ho2, hbx, hlen2, fun y hy => HLM.out y (List.mem_of_mem_eraseIdx hy), HP.out.step (by have := HF.out; omega) HX.out hxm⟩, rfl⟩
                case measure => simp [lenV, Act.put, HLe.out]
            · obtain rfl : F = 0 := by omega
              obtain ⟨A, c, rfl⟩ := own_shape hrow
              obtain rfl : left = [] := List.length_eq_zero_iff.1 HF.out.symm
              have HB2 := Lib.hid (HP.out.done HBl.out)
              clear HP HBl HF HLM
              go_wp2
              go_roundw
              case rel => exact ⟨k + 1, l, by omega, by omega, by go_num, hown, hb, by simp at hlb; omega, HB2⟩
              case measure => simp [intOf]; omega
    · obtain ⟨A', c', rfl, hE⟩ := own_ents hown
      have hbl := HBl.out
      have hfair : fairB m l0 (2 * m + 1) = true := by
        rw [fairB_iff, show (2 * (m : Int) + 1).toNat = 2 * m + 1 by omega]
        exact ⟨by omega, blocks_fair hbl⟩
      have Q1 := quiet1 (wk := (m : Int)) (c := c') (window := 2 * (m : Int) + 1) hE (by omega) (by omega) (by omega)
      rw [Int.toNat_natCast, hfair] at Q1
      have Q2 := quiet1 (wk := (m : Int)) (c := c') (window := (m : Int)) hE (by omega) (by omega) (by omega)
      have hbig : l0.length ≠ 0 → fairB m l0 m = false := by
        intro hne
        have hR : 1 ≤ k := by
          rcases Nat.eq_zero_or_pos k with e | e
          · subst e; have := hbl.1; omega
          · exact e
        have h1 := Nat.mul_le_mul_right (m + 1) hR
        exact fairB_false (not_fair_many m l0 m (Nat.le_refl _) (by rw [hbl.1]; omega))
      rw [Int.toNat_natCast] at Q2
      generalize hK : l0.length = K at Q1 Q2 hbig ⊢
      have HQ1 := Lib.hid Q1
      have hs1 : ∀ W, Below wr.heap.size wr W → Calls Try.prog 9 #[] W fun e w' => e = .returned (.bool true) ∧ Below wr.heap.size wr w' :=
        fun W hW => (awake_any W).mono fun _ _ ⟨he, hb⟩ => ⟨he, hW.trans (hb.mono hW.size)⟩
      have AW := Lib.hid hs1
      have hb0 := Below.refl wr.heap.size wr
      have HB0 := Lib.hid hb
      clear Q1 hown hs1 hbl hfair hE hll HBl hK hb
      have hex : k = 40 ∨ k = n := by omega
      by_cases h0 : K = 0
      · subst h0
        clear Q2 hbig hlt
        rcases hex with rfl | rfl
        · by_cases hkn2 : (40 : Int) < n
          · go_wp2_with fail
            refine (HQ1.out _ hb0).mono ?_
            rintro e w1 ⟨rfl, hb1⟩
            go_wp2_with fail
            refine (AW.out _ hb1).mono ?_
            rintro e w2 ⟨rfl, hb2⟩
            go_wp2
            go_ret
            exact ⟨rfl, HB0.out.trans (hb2.mono HB0.out.size)⟩
          · go_wp2_with fail
            refine (HQ1.out _ hb0).mono ?_
            rintro e w1 ⟨rfl, hb1⟩
            go_wp2_with fail
            refine (AW.out _ hb1).mono ?_
            rintro e w2 ⟨rfl, hb2⟩
            go_wp2
            go_ret
            exact ⟨rfl, HB0.out.trans (hb2.mono HB0.out.size)⟩
        · go_wp2_with fail
          refine (HQ1.out _ hb0).mono ?_
          rintro e w1 ⟨rfl, hb1⟩
          go_wp2_with fail
          refine (AW.out _ hb1).mono ?_
          rintro e w2 ⟨rfl, hb2⟩
          go_wp2
          go_ret
          exact ⟨rfl, HB0.out.trans (hb2.mono HB0.out.size)⟩
      · rw [hbig h0] at Q2
        have HQ2 := Lib.hid Q2
        have h0b : ((K : Int) == 0) = false := by simp; omega
        clear Q2 hbig hlt
        rcases hex with rfl | rfl
        · by_cases hkn2 : (40 : Int) < n
          · go_wp2_with fail
            refine (HQ1.out _ hb0).mono ?_
            rintro e w1 ⟨rfl, hb1⟩
            go_wp2_with fail
            refine (HQ2.out _ hb1).mono ?_
            rintro e w2 ⟨rfl, hb2⟩
            go_wp2_with fail
            refine (AW.out _ hb2).mono ?_
            rintro e w3 ⟨rfl, hb3⟩
            go_wp2
            go_ret
            exact ⟨rfl, HB0.out.trans (hb3.mono HB0.out.size)⟩
          · go_wp2_with fail
            refine (HQ1.out _ hb0).mono ?_
            rintro e w1 ⟨rfl, hb1⟩
            go_wp2_with fail
            refine (HQ2.out _ hb1).mono ?_
            rintro e w2 ⟨rfl, hb2⟩
            go_wp2_with fail
            refine (AW.out _ hb2).mono ?_
            rintro e w3 ⟨rfl, hb3⟩
            go_wp2
            go_ret
            exact ⟨rfl, HB0.out.trans (hb3.mono HB0.out.size)⟩
        · go_wp2_with fail
          refine (HQ1.out _ hb0).mono ?_
          rintro e w1 ⟨rfl, hb1⟩
          go_wp2_with fail
          refine (HQ2.out _ hb1).mono ?_
          rintro e w2 ⟨rfl, hb2⟩
          go_wp2_with fail
          refine (AW.out _ hb2).mono ?_
          rintro e w3 ⟨rfl, hb3⟩
          go_wp2
          go_ret
          exact ⟨rfl, HB0.out.trans (hb3.mono HB0.out.size)⟩
end Go.Proofs.Ytloeibaeobkgjaa.Fair
