/- The walk of fair.Rounds: it answers what the plain law says. -/
import Derived.Test.YtloeibaeobkgjaaFairAny
import Derived.Test.YtloeibaeobkgjaaFairRoundsPlain
import Derived.Test.YtloeibaeobkgjaaFairOwn
namespace Go.Proofs.Ytloeibaeobkgjaa.Fair
open Go.ChangeShapes Go.WideShapes Go.ChangeAt Go.RowKit

theorem info34 : (Try.prog.info? 34).map (fun i => (i.zero, i.size, i.bytes)) = some (some (.agg #[.int .i64 0, .int .i64 0, .int .u64 0]), 3, 24) := by kernel_rfl
def Lt64 (s : Int) : Prop := 0 ≤ s ∧ s < 18446744073709551616

theorem lcg_range (s : Int) : 0 ≤ lcg s ∧ lcg s < 18446744073709551616 := by
  unfold lcg; rw [IntKind.wrap_u64]; omega
/-- What a round's draw comes to, in the walk's own spelling. -/
theorem draw_of (s : Int) (F : Nat) (_h0 : 0 ≤ s) (_h1 : s < 18446744073709551616) : ∃ (s2 d : Int) (p : Nat), IntKind.u64.wrap (IntKind.u64.wrap (s * 6364136223846793005) + 1442695040888963407) = s2 ∧
    s2 / 4294967296 = d ∧ wrap64 (d % ((F : Int) + 1)) = (p : Int) ∧ wrap64 (d.tmod ((F : Int) + 1)) = (p : Int) ∧ p < F + 1 ∧ 0 ≤ d ∧ d < 4294967296 ∧ 0 ≤ s2 ∧ s2 < 18446744073709551616 ∧ Hid (s2 = lcg s ∧ d = high s ∧ p = pickI (F + 1) s) := by
  have hr := lcg_range s
  have hlt := pickI_lt F s
  have hd0 : 0 ≤ high s := by unfold high; omega
  have hd1 : high s < 4294967296 := by unfold high; omega
  have hmod : high s % ((F : Int) + 1) = (pickI (F + 1) s : Int) := by
    unfold pickI
    have := Int.emod_nonneg (high s) (show ((F + 1 : Nat) : Int) ≠ 0 by omega)
    rw [Int.toNat_of_nonneg this]; rfl
  have hw : wrap64 (high s % ((F : Int) + 1)) = (pickI (F + 1) s : Int) := by
    rw [hmod]
    have : (pickI (F + 1) s : Int) ≤ high s := by
      obtain ⟨a, ha⟩ := Int.eq_ofNat_of_zero_le hd0
      have e : ((a : Int) % ((F : Int) + 1)) = ((a % (F + 1) : Nat) : Int) := by rw [Int.natCast_emod]; rfl
      have := Nat.mod_le a (F + 1)
      rw [← hmod, ha, e]; omega
    unfold wrap64; omega
  refine ⟨lcg s, high s, pickI (F + 1) s, rfl, rfl, hw, ?_, hlt, hd0, hd1, hr.1, hr.2, ⟨rfl, rfl, rfl⟩⟩
  rw [Int.tmod_eq_emod_of_nonneg hd0]; exact hw
theorem left_at {left : List Nat} {F m p : Nat} (hF : F + 1 = left.length) (hm : ∀ x ∈ left, x ≤ m) (hp : p < F + 1) : ∃ x, (icells left)[p]? = some (.int .i64 (x : Nat)) ∧ x ≤ m ∧ left.getD p 0 = x := by
  have h : p < left.length := by omega
  refine ⟨left[p], ?_, hm _ (List.getElem_mem h), ?_⟩
  · simp [icells, h]
  · simp [List.getD, h]
theorem cells3_new (w : World) (a b c : Value) (t : TypeId) (n : Nat) (hn : n = w.heap.size) : ∀ j u, [a, b, c][j]? = some u → (w.alloc (.cells #[a, b, c] t)).cell? ((⟨n, 0, none⟩ : Addr).add j) = some u := by
  subst hn
  intro j u hj
  rw [Addr.add_lit, Nat.zero_add, World.cell?_alloc_at _ _ _ _ rfl]
  match j, hj with
  | 0, hj => exact hj
  | 1, hj => exact hj
  | 2, hj => exact hj
theorem del_pre {w : World} {base : Nat} {e : TypeId} {g n cap i : Nat} {xs : List Value} (h : w.ownsRow base e 1 (.slice (some ⟨g, 0, none⟩) n cap) n xs) (hi : i < n) (h1 : ∀ u ∈ xs, u.oneCell' = true) :
    ∃ A : Addr, (if cap = i + 1 then some (⟨g, 0, none⟩ : Addr) else some ⟨g, i + 1, none⟩) = some A ∧ Hid (∀ j u, (xs.drop (i + 1))[j]? = some u → w.drew.cell? (A.add j) = some u) ∧
      Hid ((xs.drop (i + 1)).length = (n - (i + 1)) * 1) ∧ Hid (∀ u ∈ xs.drop (i + 1), u.oneCell' = true) ∧
      Hid (∀ j, j < (xs.drop (i + 1)).length → (w.drew.cell? ⟨g, 0 + i * 1 + j, none⟩).isSome = true ∧ w.drew.frozen? ⟨g, 0 + i * 1 + j, none⟩ = false) ∧ n ≤ cap ∧ cap ≤ 9223372036854775807 := by
  have hl : xs.length = n := by have := h.1; omega
  obtain ⟨hcap, hcap2⟩ : n ≤ cap ∧ cap ≤ maxLen := by
    rcases h.2 with ⟨h0, _⟩ | ⟨g', cap', cur, hv, hb, hg, hn, hcap, _⟩
    · cases h0
    · injection hv with _ _ hv3
      subst hv3
      exact ⟨hn, hcap⟩
  have hc := fun j u (hj : xs[j]? = some u) => h.cells (g := g) rfl j u hj
  simp only [Addr.add_lit, Nat.zero_add] at hc
  have s1 : (xs.drop (i + 1)).length = (n - (i + 1)) * 1 := by rw [List.length_drop, hl]; omega
  have s2 : ∀ u ∈ xs.drop (i + 1), u.oneCell' = true := fun u hu => h1 u (List.mem_of_mem_drop hu)
  have s3 : ∀ j, j < (xs.drop (i + 1)).length → (w.drew.cell? ⟨g, 0 + i * 1 + j, none⟩).isSome = true ∧ w.drew.frozen? ⟨g, 0 + i * 1 + j, none⟩ = false := by
    intro j hj
    rw [s1] at hj
    refine ⟨?_, h.frozenAt _⟩
    show (w.cell? _).isSome = true
    rw [show 0 + i * 1 + j = i + j by omega, hc (i + j) _ (List.getElem?_eq_getElem (by omega))]
    rfl
  unfold maxLen at hcap2
  by_cases hq : cap = i + 1
  · refine ⟨⟨g, 0, none⟩, by rw [if_pos hq], ?_, s1, s2, s3, hcap, hcap2⟩
    intro j u hu
    have := (List.getElem?_eq_some_iff.1 hu).1
    omega
  · refine ⟨⟨g, i + 1, none⟩, by rw [if_neg hq], ?_, s1, s2, s3, hcap, hcap2⟩
    intro j u hu
    rw [List.getElem?_drop] at hu
    rw [Addr.add_lit]
    exact hc _ _ hu
theorem own_shape {w : World} {base : Nat} {e : TypeId} {size n : Nat} {v : Value} {xs : List Value} (h : w.ownsRow base e size v n xs) : ∃ A c, v = .slice A n c := by
  rcases h.2 with ⟨rfl, rfl⟩ | ⟨g, cap, cur, rfl, _⟩
  · exact ⟨_, _, rfl⟩
  · exact ⟨_, _, rfl⟩
theorem ent_tick {m x : Nat} {d : Int} (_h : x ≤ m) (h2 : ¬ x < m) : ent m x d = ⟨2, 0, 0⟩ := by
  unfold ent; rw [if_neg h2]
theorem icells_one (l : List Nat) : ∀ u ∈ icells l, u.oneCell' = true := by
  intro u hu
  obtain ⟨x, _, rfl⟩ := List.mem_map.1 hu
  rfl
theorem icells_erase (l : List Nat) (i : Nat) : (icells l).eraseIdx i = icells (l.eraseIdx i) := by
  unfold icells
  rw [List.eraseIdx_eq_take_drop_succ, List.eraseIdx_eq_take_drop_succ]
  simp
theorem goR_step {m F : Nat} {l : List Ent} {left : List Nat} {s s2 d : Int} {p x : Nat} {G : List Ent × Int} (hF : F + 1 = left.length) (hG : goR m (F + 1) l left s = G) (hs : s2 = lcg s ∧ d = high s ∧ p = pickI (F + 1) s) (hx : left.getD p 0 = x) (hp : p < F + 1) :
    goR m (left.eraseIdx p).length (l ++ [ent m x d]) (left.eraseIdx p) s2 = G := by
  rw [List.length_eraseIdx_of_lt (by omega), ← hF]
  obtain ⟨rfl, rfl, rfl⟩ := hs
  rw [← hG, ← hx]
  rfl
set_option maxRecDepth 100000 in
set_option maxHeartbeats 4000000 in
theorem rounds_main (w : World) (m : Nat) (r : Int) (R : Nat) (s : Int) (hm1 : 1 ≤ m) (hm : m ≤ 64) (hR : (if 65536 < r then 65536 else r) = (R : Int)) (hRb : R ≤ 65536) (hs : Lt64 s) :
    Calls Try.prog 13 #[.int .i64 m, .int .i64 r, .int .u64 s] w fun e w' => ∃ v, e = .returned v ∧ w'.ownsRow w.heap.size 34 3 v (roundsL m R [] s).length (ecells (roundsL m R [] s)) ∧ Below w.heap.size w w' := by
  obtain ⟨T, hT⟩ : ∃ T, T = roundsL m R [] s := ⟨_, rfl⟩
  rw [← hT]
  have HT := Lib.hid hT; clear hT
  have h0s := hs.1
  have h1s := hs.2
  go_enter Try.func13, Try.ntmps13
  go_wp2
  clear hR
  obtain ⟨i3, hi3, hz3, hs3, hb3⟩ := info_parts info3
  obtain ⟨i34, hi34, hz34, hs34, hb34⟩ := info_parts info34
  go_loopw [2, 7, 20] (fun sd lv iv wr => ∃ (k : Nat) (l : List Ent) (s : Int), k ≤ R ∧ iv = .int .i64 k ∧ sd = .int .u64 s ∧ Lt64 s ∧ wr.ownsRow w.heap.size 34 3 lv l.length (ecells l) ∧ Below w.heap.size w wr ∧ l.length ≤ 65 * k ∧ Hid (T = roundsL m (R - k) l s)) (fun _ _ iv _ => R - (intOf iv).toNat)
  case atStart => exact ⟨0, [], s, by omega, rfl, rfl, hs, World.ownsRow_nil _ _ _ _, Below.refl _ _, by simp, HT⟩
  case round =>
    obtain ⟨k, l, s', hk, rfl, rfl, ⟨hs0, hs1⟩, hown, hb, hll, HT'⟩ := hrel
    clear HT h0s h1s hs
    by_cases hlt : k < R
    · go_wp2
      go_loopw [8, 24] (fun fv jv wf => ∃ q : Nat, q ≤ m + 1 ∧ jv = .int .i64 q ∧ wf.ownsRow w.heap.size 3 1 fv q (icells (List.range q)) ∧ wf.ownsRow w.heap.size 34 3 u7 l.length (ecells l) ∧ Below w.heap.size w wf) (fun _ jv _ => m + 1 - (intOf jv).toNat)
      case atStart => exact ⟨0, by omega, rfl, World.ownsRow_nil _ _ _ _, hown, hb⟩
      case round =>
        clear hown hb
        obtain ⟨q, hq, rfl, hrow, hown, hb⟩ := hrel
        by_cases hlt2 : q < m + 1
        · go_wp2_with (at_builtin; refine wpList_append_own _ rfl _ _ 32 rfl w.heap.size 3 i3 (.int .i64 0) 1 8 Try.underlying32 hi3 hz3 hs3 hb3 rfl (by decide) _ _ _ rfl (hrow.alloc _) ⟨wr.heap.size, 0, none⟩ 1 1 [.int .i64 q] rfl rfl ?c1 ?c2 ?c3 ?c4 ?c5 ?_)
          case c1 => exact cell_one_new _ _ _
          case c2 => simp [Value.oneCell']
          case c3 => unfold maxLen; omega
          case c4 => omega
          case c5 => have := hb.size; simp; omega
          · intro v' w1 hrow' hgrow _
            obtain ⟨hown', hb'⟩ := own_after hrow hown (by decide) hb hb.size hgrow
            clear hrow hown hb hgrow
            go_wp2
            go_roundw
            case rel => exact ⟨q + 1, by omega, by go_num, by rw [List.range_succ, icells_snoc]; exact hrow', hown', hb'⟩
            case measure => simp [intOf]; omega
        · obtain rfl : q = m + 1 := by omega
          go_wp2
          have HT2 := Lib.hid (rfl : goR m (m + 1) l (List.range (m + 1)) s' = goR m (m + 1) l (List.range (m + 1)) s')
          generalize hgo : goR m (m + 1) l (List.range (m + 1)) s' = G at HT2
          have HGo := Lib.hid hgo; clear hgo HT2
          go_loopw [2, 7, 8] (fun sd lv fv wf => ∃ (l : List Ent) (left : List Nat) (s : Int), sd = .int .u64 s ∧ Lt64 s ∧ wf.ownsRow w.heap.size 3 1 fv left.length (icells left) ∧ wf.ownsRow w.heap.size 34 3 lv l.length (ecells l) ∧ Below w.heap.size w wf ∧ l.length + left.length ≤ 65 * k + 65 ∧ (∀ x ∈ left, x ≤ m) ∧ Hid (goR m left.length l left s = G)) (fun _ _ fv _ => lenV fv)
          case atStart => exact ⟨l, List.range (m + 1), s', rfl, ⟨hs0, hs1⟩, by simpa using hrow, hown, hb, by simp; omega, fun x hx => by have := List.mem_range.1 hx; omega, by simpa using HGo⟩
          case round =>
            clear hrow hown hb hs0 hs1
            obtain ⟨l, left, s, rfl, ⟨hs0, hs1⟩, hrow, hown, hb, hlb, hlm, HG⟩ := hrel
            obtain ⟨F, hF⟩ : ∃ F, F = left.length := ⟨_, rfl⟩
            rw [← hF] at hrow hlb HG
            have HF := Lib.hid hF; clear hF
            have HLM := Lib.hid hlm; clear hlm
            by_cases h0 : 0 < F
            · obtain ⟨g, cap, rfl, hgB, hgl⟩ := hrow.form h0
              obtain ⟨F', rfl⟩ : ∃ F', F = F' + 1 := ⟨F - 1, by omega⟩
              obtain ⟨s2, d, p, hs2, hd, hp1, hp2, hpF, hd0, hd1, hs20, hs21, HS⟩ := draw_of s F' hs0 hs1
              have hmem := (left_at HF.out HLM.out hpF)
              obtain ⟨x, hx, hxm, hxe⟩ := hmem
              have HX := Lib.hid hxe; clear hxe
              have hcl := hrow.cells (g := g) rfl p _ hx
              rw [Addr.add_lit, Nat.zero_add] at hcl
              have hfr := hrow.frozenAt p
              by_cases hxl : x < m
              · clear HT'
                have hent : Hid (ent m x d = ⟨1, x, d⟩) := if_pos hxl
                go_wp2_with (at_builtin; refine wpList_append_own _ rfl (.tmp 59) (.tmp 61) 22 rfl w.heap.size 34 i34 _ 3 24 Try.underlying22 hi34 hz34 hs34 hb34 rfl (by decide) _ _ _ rfl ((hown.alloc _).alloc _) ⟨wr.heap.size + 1, 0, none⟩ 1 1 [.int .i64 (1), .int .i64 (x), .int .u64 (d)] rfl rfl ?c11 ?c21 ?c31 ?c41 ?c51 ?_)
                case c11 => exact cells3_new _ _ _ _ _ _ (by simp)
                case c21 => simp [Value.oneCell']
                case c31 => unfold maxLen; omega
                case c41 => omega
                case c51 => have := hb.size; simp; omega
                intro v' w1 hown' hgrow _
                obtain ⟨hrow', hb'⟩ := own_after (hown.alloc _) (hrow.alloc _) (by decide) (hb.alloc hb.size _) (by have := hb.size; simp; omega) hgrow
                clear hrow hown hb hgrow hcl hfr
                obtain ⟨A, hA, hnews, q1, q2, q3, hcap, hcap2⟩ := del_pre hrow' hpF (icells_one left)
                have hic : p ≤ cap := by omega
                have hwr : IntKind.i64.wrap ((p : Int) + 1) = (p : Int) + 1 := by rw [IntKind.wrap_i64]; omega
                have hp0 : (0 : Int) ≤ (p : Int) + 1 := by omega
                have hp1 : (p : Int) + 1 ≤ (F' : Int) + 1 := by omega
                have hp2 : ((p : Int) + 1).toNat = p + 1 := by omega
                have HR := Lib.hid hrow'; clear hrow'
                go_wp2_with fail
                go_region_law (refine step_append_room rfl (.tmp 65) (.tmp 69) 32 rfl 3 i3 1 Try.underlying32 hi3 hs3 g 0 p cap (by simp [Act.eval, Act.put]) A (F' + 1 - (p + 1)) (cap - (p + 1)) ((icells left).drop (p + 1)) (by simp [Act.eval, Act.put]) q1.out hnews.out q2.out (by omega) q3.out ?_)
                have hdel := own_delete (show (w1.drew).ownsRow w.heap.size 3 1 (.slice (some ⟨g, 0, none⟩) (F' + 1) cap) (F' + 1) (icells left) from HR.out.drew) hpF
                have hoth := (show (w1.drew).ownsRow w.heap.size 34 3 v' (l.length + 1) _ from hown'.drew).kept (grown_setCells (g := g) ((icells left).drop (p + 1)) p) (own_apart (hown'.drew) (HR.out.drew) (by decide))
                have hbb := below_setCells hb'.drew hgB ((icells left).drop (p + 1)) p
                clear hb' hown' hnews q1 q2 q3 hA hwr
                generalize hws : w1.drew.setCells g p ((icells left).drop (p + 1)) = ws at hdel hoth hbb
                have hlen : (left.eraseIdx p).length = F' := by rw [List.length_eraseIdx_of_lt (by have := HF.out; omega), ← HF.out]; omega
                have hd2 : ws.ownsRow w.heap.size 3 1 (.slice (some ⟨g, 0, none⟩) (p + (F' - p)) cap) (left.eraseIdx p).length (icells (left.eraseIdx p)) := by
                  rw [show p + (F' - p) = F' by omega, hlen, ← icells_erase]
                  exact hdel
                have ho2 : ws.ownsRow w.heap.size 34 3 v' (l ++ [ent m x d]).length (ecells (l ++ [ent m x d])) := by
                  rw [ecells_snoc, List.length_append, hent.out]
                  exact hoth
                have hlen2 : (l ++ [ent m x d]).length + (left.eraseIdx p).length ≤ 65 * k + 65 := by rw [List.length_append, hlen]; simp; omega
                have HD := Lib.hid hd2; have HO := Lib.hid ho2; have HL2 := Lib.hid hlen2
                clear hdel hoth hd2 ho2 hlen2 hlen hws
                go_wp2
                go_roundw
                have hd2 := HD.out
                have ho2 := HO.out
                have hlen2 := HL2.out
                case rel =>
                  (repeat apply Exists.intro)
                  exact ⟨⟨l ++ [ent m x d], left.eraseIdx p, s2, rfl, ⟨hs20, hs21⟩, hd2, ho2, hbb, hlen2, fun y hy => HLM.out y (List.mem_of_mem_eraseIdx hy), goR_step HF.out HG.out HS.out HX.out hpF⟩, rfl⟩
                case measure => simp [lenV, Act.put]; omega
              · clear HT'
                have hent : Hid (ent m x d = ⟨2, 0, 0⟩) := ent_tick hxm hxl
                go_wp2_with (at_builtin; refine wpList_append_own _ rfl (.tmp 59) (.tmp 61) 22 rfl w.heap.size 34 i34 _ 3 24 Try.underlying22 hi34 hz34 hs34 hb34 rfl (by decide) _ _ _ rfl ((hown.alloc _).alloc _) ⟨wr.heap.size + 1, 0, none⟩ 1 1 [.int .i64 (2), .int .i64 (0), .int .u64 (0)] rfl rfl ?c12 ?c22 ?c32 ?c42 ?c52 ?_)
                case c12 => exact cells3_new _ _ _ _ _ _ (by simp)
                case c22 => simp [Value.oneCell']
                case c32 => unfold maxLen; omega
                case c42 => omega
                case c52 => have := hb.size; simp; omega
                intro v' w1 hown' hgrow _
                obtain ⟨hrow', hb'⟩ := own_after (hown.alloc _) (hrow.alloc _) (by decide) (hb.alloc hb.size _) (by have := hb.size; simp; omega) hgrow
                clear hrow hown hb hgrow hcl hfr
                obtain ⟨A, hA, hnews, q1, q2, q3, hcap, hcap2⟩ := del_pre hrow' hpF (icells_one left)
                have hic : p ≤ cap := by omega
                have hwr : IntKind.i64.wrap ((p : Int) + 1) = (p : Int) + 1 := by rw [IntKind.wrap_i64]; omega
                have hp0 : (0 : Int) ≤ (p : Int) + 1 := by omega
                have hp1 : (p : Int) + 1 ≤ (F' : Int) + 1 := by omega
                have hp2 : ((p : Int) + 1).toNat = p + 1 := by omega
                have HR := Lib.hid hrow'; clear hrow'
                go_wp2_with fail
                go_region_law (refine step_append_room rfl (.tmp 65) (.tmp 69) 32 rfl 3 i3 1 Try.underlying32 hi3 hs3 g 0 p cap (by simp [Act.eval, Act.put]) A (F' + 1 - (p + 1)) (cap - (p + 1)) ((icells left).drop (p + 1)) (by simp [Act.eval, Act.put]) q1.out hnews.out q2.out (by omega) q3.out ?_)
                have hdel := own_delete (show (w1.drew).ownsRow w.heap.size 3 1 (.slice (some ⟨g, 0, none⟩) (F' + 1) cap) (F' + 1) (icells left) from HR.out.drew) hpF
                have hoth := (show (w1.drew).ownsRow w.heap.size 34 3 v' (l.length + 1) _ from hown'.drew).kept (grown_setCells (g := g) ((icells left).drop (p + 1)) p) (own_apart (hown'.drew) (HR.out.drew) (by decide))
                have hbb := below_setCells hb'.drew hgB ((icells left).drop (p + 1)) p
                clear hb' hown' hnews q1 q2 q3 hA hwr
                generalize hws : w1.drew.setCells g p ((icells left).drop (p + 1)) = ws at hdel hoth hbb
                have hlen : (left.eraseIdx p).length = F' := by rw [List.length_eraseIdx_of_lt (by have := HF.out; omega), ← HF.out]; omega
                have hd2 : ws.ownsRow w.heap.size 3 1 (.slice (some ⟨g, 0, none⟩) (p + (F' - p)) cap) (left.eraseIdx p).length (icells (left.eraseIdx p)) := by
                  rw [show p + (F' - p) = F' by omega, hlen, ← icells_erase]
                  exact hdel
                have ho2 : ws.ownsRow w.heap.size 34 3 v' (l ++ [ent m x d]).length (ecells (l ++ [ent m x d])) := by
                  rw [ecells_snoc, List.length_append, hent.out]
                  exact hoth
                have hlen2 : (l ++ [ent m x d]).length + (left.eraseIdx p).length ≤ 65 * k + 65 := by rw [List.length_append, hlen]; simp; omega
                have HD := Lib.hid hd2; have HO := Lib.hid ho2; have HL2 := Lib.hid hlen2
                clear hdel hoth hd2 ho2 hlen2 hlen hws
                go_wp2
                go_roundw
                have hd2 := HD.out
                have ho2 := HO.out
                have hlen2 := HL2.out
                case rel =>
                  (repeat apply Exists.intro)
                  exact ⟨⟨l ++ [ent m x d], left.eraseIdx p, s2, rfl, ⟨hs20, hs21⟩, hd2, ho2, hbb, hlen2, fun y hy => HLM.out y (List.mem_of_mem_eraseIdx hy), goR_step HF.out HG.out HS.out HX.out hpF⟩, rfl⟩
                case measure => simp [lenV, Act.put]; omega
            · obtain rfl : F = 0 := by omega
              obtain ⟨A, c, rfl⟩ := own_shape hrow
              obtain rfl : left = [] := List.length_eq_zero_iff.1 HF.out.symm
              have e : (l, s) = G := HG.out
              subst e
              have e2 := HT'.out
              rw [show R - k = (R - (k + 1)) + 1 by omega, roundsL, HGo.out] at e2
              have HT2 := Lib.hid e2; clear e2 HG HGo HT' HF HLM
              go_wp2
              go_roundw
              case rel => exact ⟨k + 1, l, s, by omega, by go_num, rfl, ⟨hs0, hs1⟩, hown, hb, by simp at hlb; omega, HT2⟩
              case measure => simp [intOf]; omega
    · obtain rfl : k = R := by omega
      have e2 := HT'.out
      rw [Nat.sub_self, roundsL] at e2
      have HT2 := Lib.hid e2; clear e2 HT'
      go_wp2
      go_ret
      refine ⟨_, rfl, ?_, hb⟩
      rw [HT2.out]
      exact hown
end Go.Proofs.Ytloeibaeobkgjaa.Fair
