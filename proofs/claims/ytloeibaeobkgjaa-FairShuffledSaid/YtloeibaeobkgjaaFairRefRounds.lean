/- The walk of the document's Rounds: it answers what the plain law says. -/
import Derived.Test.YtloeibaeobkgjaaFairRounds
namespace Go.Proofs.Ytloeibaeobkgjaa.Fair
open Go.ChangeShapes Go.WideShapes Go.ChangeAt Go.RowKit

/-- An append onto a row of the call's own at a step of a region that draws its order. -/
theorem step_append_own {P : Program} (w : World) {ops : Array Oper} {o : Oper} {a : Act} {K : Act → World → Prop} {Q : Exit → Act → World → Prop} {E : Prop} (hgd : o.guard = none) (s x : Operand) (t : TypeId)
    (ho : o.op = .call { callee := .builtin .append, args := #[s, x], argTypes := #[t, t] })
    (base : Nat) (e : TypeId) (i : TypeInfo) (z : Value) (size bytes : Nat) (ht : P.underlying t = some (.slice e)) (hi : P.info? e = some i) (hz : i.zero = some z)
    (hsize : i.size = size) (hby : i.bytes = bytes) (hzs : z.cells.size = size) (hsz : 0 < size)
    (v : Value) (n : Nat) (xs : List Value) (hs : a.eval s = v) (hown : w.ownsRow base e size v n xs)
    (ad : Addr) (m c : Nat) (news : List Value) (hx : a.eval x = .slice (some ad) m c) (hl : news.length = m * size) (hnews : ∀ j u, news[j]? = some u → w.cell? (ad.add j) = some u) (h1 : ∀ u ∈ news, u.oneCell' = true)
    (h63 : n + m ≤ maxLen) (hbytes : (n + m) * bytes ≤ 140737488355328) (hbase : base ≤ w.heap.size)
    (h : ∀ v' w', w'.ownsRow base e size v' (n + m) (xs ++ news) → w.grownBy w' v.ownBlock → K (a.put o.dst v') w') :
    if Region.wanted o (yielded ops a.tmps) = true then Oper.wp P o a w K Q else E := by
  have hw : Region.wanted o (yielded ops a.tmps) = true := by simp [Region.wanted, hgd]
  rw [if_pos hw]
  obtain ⟨v', w', hrun, h2, h3, _, _⟩ := run_append_own_at (P := P) w base t o.type e i z size bytes ht hi hz hsize hby hzs hsz v n xs hown ad m c news hl hnews h1 h63 hbytes hbase
  unfold Oper.wp execOp
  simp only [ho, resolve, invoke, builtin, Sem.run_bind, Sem.run_pure, Result.andThen_ok, List.map_toArray, List.map_cons, List.map_nil, hs, hx, hrun]
  exact h v' w' h2 h3

theorem own_empty (w : World) (base : Nat) (e : TypeId) (size : Nat) (h : base ≤ w.heap.size) : (w.alloc (.cells #[] e)).ownsRow base e size (.slice (some ⟨w.heap.size, 0, none⟩) 0 0) 0 [] :=
  ⟨by simp, .inr ⟨_, 0, #[], rfl, h, heap_alloc_new w _, Nat.le_refl _, by simp [maxLen], by simp, by simp⟩⟩

theorem take_cells {w : World} {base : Nat} {e : TypeId} {g n cap p : Nat} {xs : List Value} {o : Obj} (h : w.ownsRow base e 1 (.slice (some ⟨g, 0, none⟩) n cap) n xs) :
    ∀ j u, (xs.take p)[j]? = some u → ((w.alloc o).drew).cell? ((⟨g, 0, none⟩ : Addr).add j) = some u := by
  intro j u hu
  have hj : j < p := by
    rcases Nat.lt_or_ge j p with hlt | hge
    · exact hlt
    · rw [List.getElem?_eq_none (by rw [List.length_take]; omega)] at hu; cases hu
  rw [List.getElem?_take_of_lt hj] at hu
  exact (h.alloc o).drew.cells (g := g) rfl j u hu
theorem drop_cells {w : World} {o : Obj} {A : Addr} {p : Nat} {xs : List Value}
    (hn : ∀ j u, (xs.drop (p + 1))[j]? = some u → w.drew.cell? (A.add j) = some u) :
    ∀ w2, ((w.alloc o).drew).grownBy w2 (some w.heap.size) → ∀ j u, (xs.drop (p + 1))[j]? = some u → w2.cell? (A.add j) = some u := by
  intro w2 hg j u hu
  have h1 : w.cell? (A.add j) = some u := hn j u hu
  have hb := block_lt_of_cell h1
  have h2 : ((w.alloc o).drew).cell? (A.add j) = some u := (World.cell?_alloc_lt w o (A.add j) hb).trans h1
  exact (World.cell?_of_block (hg.block (A.add j).block (by show _ < (w.alloc o).heap.size; simp; omega) (fun e => by injection e with e; omega))).trans h2

set_option maxRecDepth 100000 in
set_option maxHeartbeats 4000000 in
theorem ref_rounds_main (w : World) (m : Nat) (r : Int) (R : Nat) (s : Int) (hm1 : 1 ≤ m) (hm : m ≤ 64) (hR : (R : Int) ≤ r) (hRb : R ≤ 65536) (hRe : (R : Int) = r ∨ R = 65536) (hs : Lt64 s) :
    Calls Try.prog 14 #[.int .i64 m, .int .i64 r, .int .u64 s] w fun e w' => ∃ v, e = .returned v ∧ w'.ownsRow w.heap.size 34 3 v (roundsL m R [] s).length (ecells (roundsL m R [] s)) ∧ Below w.heap.size w w' := by
  obtain ⟨T, hT⟩ : ∃ T, T = roundsL m R [] s := ⟨_, rfl⟩
  rw [← hT]
  have HT := Lib.hid hT; clear hT
  have h0s := hs.1
  have h1s := hs.2
  have HRe := Lib.hid hRe; clear hRe
  go_enter Try.func14, Try.ntmps14
  go_wp2
  obtain ⟨i3, hi3, hz3, hs3, hb3⟩ := info_parts info3
  obtain ⟨i34, hi34, hz34, hs34, hb34⟩ := info_parts info34
  go_loopw [7, 8, 9] (fun lv sd iv wr => ∃ (k : Nat) (l : List Ent) (s : Int), k ≤ R ∧ iv = .int .i64 k ∧ sd = .int .u64 s ∧ Lt64 s ∧ wr.ownsRow w.heap.size 34 3 lv l.length (ecells l) ∧ Below w.heap.size w wr ∧ l.length ≤ 65 * k ∧ Hid (T = roundsL m (R - k) l s)) (fun _ _ iv _ => R - (intOf iv).toNat)
  case atStart => exact ⟨0, [], s, by omega, rfl, rfl, hs, World.ownsRow_nil _ _ _ _, Below.refl _ _, by simp, HT⟩
  case round =>
    obtain ⟨k, l, s', hk, rfl, rfl, ⟨hs0, hs1⟩, hown, hb, hll, HT'⟩ := hrel
    clear HT h0s h1s hs
    by_cases hlt : k < R
    · have ht1 : (k : Int) < r := by omega
      have ht2 : (k : Int) < 65536 := by omega
      go_wp2
      clear ht1 ht2
      go_loopw [10, 11] (fun fv jv wf => ∃ q : Nat, q ≤ m + 1 ∧ jv = .int .i64 q ∧ wf.ownsRow w.heap.size 3 1 fv q (icells (List.range q)) ∧ wf.ownsRow w.heap.size 34 3 u7 l.length (ecells l) ∧ Below w.heap.size w wf) (fun _ jv _ => m + 1 - (intOf jv).toNat)
      case atStart => exact ⟨0, by omega, rfl, World.ownsRow_nil _ _ _ _, hown, hb⟩
      case round =>
        clear hown hb
        obtain ⟨q, hq, rfl, hrow, hown, hb⟩ := hrel
        by_cases hlt2 : q < m + 1
        · have hlt3 : (q : Int) ≤ m := by omega
          go_wp2_with (at_builtin; refine wpList_append_own _ rfl _ _ 32 rfl w.heap.size 3 i3 (.int .i64 0) 1 8 Try.underlying32 hi3 hz3 hs3 hb3 rfl (by decide) _ _ _ rfl (hrow.alloc _) ⟨wr.heap.size, 0, none⟩ 1 1 [.int .i64 q] rfl rfl ?c1 ?c2 ?c3 ?c4 ?c5 ?_)
          case c1 => exact cell_one_new _ _ _
          case c2 => simp [Value.oneCell']
          case c3 => unfold maxLen; omega
          case c4 => omega
          case c5 => have := hb.size; simp; omega
          · intro v' w1 hrow' hgrow _
            obtain ⟨hown', hb'⟩ := own_after hrow hown (by decide) hb hb.size hgrow
            clear hrow hown hb hgrow
            go_wp2
            go_roundw
            case rel => exact ⟨q + 1, by omega, by go_num, by rw [List.range_succ, icells_snoc]; exact hrow', hown', hb'⟩
            case measure => simp [intOf]; omega
        · obtain rfl : q = m + 1 := by omega
          go_wp2
          have HT2 := Lib.hid (rfl : goR m (m + 1) l (List.range (m + 1)) s' = goR m (m + 1) l (List.range (m + 1)) s')
          generalize hgo : goR m (m + 1) l (List.range (m + 1)) s' = G at HT2
          have HGo := Lib.hid hgo; clear hgo HT2
          go_loopw [7, 8, 10] (fun lv sd fv wf => ∃ (l : List Ent) (left : List Nat) (s : Int), sd = .int .u64 s ∧ Lt64 s ∧ wf.ownsRow w.heap.size 3 1 fv left.length (icells left) ∧ wf.ownsRow w.heap.size 34 3 lv l.length (ecells l) ∧ Below w.heap.size w wf ∧ l.length + left.length ≤ 65 * k + 65 ∧ (∀ x ∈ left, x ≤ m) ∧ Hid (goR m left.length l left s = G)) (fun _ _ fv _ => lenV fv)
          case atStart => exact ⟨l, List.range (m + 1), s', rfl, ⟨hs0, hs1⟩, by simpa using hrow, hown, hb, by simp; omega, fun x hx => by have := List.mem_range.1 hx; omega, by simpa using HGo⟩
          case round =>
            clear hrow hown hb hs0 hs1
            obtain ⟨l, left, s, rfl, ⟨hs0, hs1⟩, hrow, hown, hb, hlb, hlm, HG⟩ := hrel
            obtain ⟨F, hF⟩ : ∃ F, F = left.length := ⟨_, rfl⟩
            rw [← hF] at hrow hlb HG
            have HF := Lib.hid hF; clear hF
            have HLM := Lib.hid hlm; clear hlm
            by_cases h0 : 0 < F
            · obtain ⟨g, cap, rfl, hgB, hgl⟩ := hrow.form h0
              obtain ⟨F', rfl⟩ : ∃ F', F = F' + 1 := ⟨F - 1, by omega⟩
              obtain ⟨s2, d, p, hs2, hd, hp1, hp2, hpF, hd0, hd1, hs20, hs21, HS⟩ := draw_of s F' hs0 hs1
              have hmem := (left_at HF.out HLM.out hpF)
              obtain ⟨x, hx, hxm, hxe⟩ := hmem
              have HX := Lib.hid hxe; clear hxe
              have hcl := hrow.cells (g := g) rfl p _ hx
              rw [Addr.add_lit, Nat.zero_add] at hcl
              have hfr := hrow.frozenAt p
              clear HT'
              have HTe := Lib.hid (rfl : T = T)
              have HX2 := Lib.hid hx; clear hx
              by_cases hxl : x < m
              · have hent : Hid (ent m x d = ⟨1, x, d⟩) := if_pos hxl
                have hxe : ((x : Int) == (m : Int)) = false := by simp; omega
                go_wp2_with (at_builtin; refine wpList_append_own _ rfl (.tmp 61) (.tmp 69) 22 rfl w.heap.size 34 i34 _ 3 24 Try.underlying22 hi34 hz34 hs34 hb34 rfl (by decide) _ _ _ rfl (hown.alloc _) ⟨wr.heap.size, 0, none⟩ 1 1 [.int .i64 (1), .int .i64 (x), .int .u64 (d)] rfl rfl ?c11 ?c21 ?c31 ?c41 ?c51 ?_)
                case c21 => simp [Value.oneCell']
                case c31 => unfold maxLen; omega
                case c41 => omega
                case c51 => have := hb.size; simp; omega
                intro v' w1 hown' hgrow _
                obtain ⟨hrow', hb'⟩ := own_after hown hrow (by decide) hb hb.size hgrow
                clear hrow hown hb hgrow hcl hfr
                obtain ⟨A, hA, hnews, q1, q2, q3, hcap, hcap2⟩ := del_pre hrow' hpF (icells_one left)
                have hic : p ≤ cap := by omega
                have hwr : IntKind.i64.wrap ((p : Int) + 1) = (p : Int) + 1 := by rw [IntKind.wrap_i64]; omega
                have hp0 : (0 : Int) ≤ (p : Int) + 1 := by omega
                have hp1 : (p : Int) + 1 ≤ (F' : Int) + 1 := by omega
                have hp2 : ((p : Int) + 1).toNat = p + 1 := by omega
                have HR := Lib.hid hrow'; clear hrow'
                have hpl : p < (icells left).length := by have := HF.out; simp [icells]; omega
                have E0 := Lib.hid (show ((w1.alloc (.cells #[] 3)).drew).ownsRow w.heap.size 3 1 (.slice (some ⟨w1.heap.size, 0, none⟩) 0 0) 0 [] from (own_empty w1 w.heap.size 3 1 hb'.size).drew)
                have N1 := Lib.hid (take_cells HR.out (o := .cells #[] 3) (p := p))
                have N2 := Lib.hid (drop_cells (w := w1) (o := .cells #[] 3) hnews.out)
                have L1 := Lib.hid (show ((icells left).take p).length = p * 1 by rw [List.length_take]; omega)
                have O1 := Lib.hid (show ∀ u ∈ (icells left).take p, u.oneCell' = true from fun u hu => icells_one left u (List.mem_of_mem_take hu))
                have HBz := Lib.hid hb'.size
                have HBs := Lib.hid (show w.heap.size ≤ w1.heap.size + 1 by have := hb'.size; omega)
                have HB1 := Lib.hid (show Below w.heap.size w ((w1.alloc (.cells #[] 3)).drew) from (hb'.alloc hb'.size _).drew)
                have HO1 := Lib.hid (show ((w1.alloc (.cells #[] 3)).drew).ownsRow w.heap.size 34 3 v' (l.length + 1) _ from (hown'.alloc _).drew)
                have M1 := Lib.hid (show 0 + p ≤ maxLen by unfold maxLen; omega)
                have M2 := Lib.hid (show 0 + p + (F' + 1 - (p + 1)) ≤ maxLen by unfold maxLen; omega)
                have M3 := Lib.hid (show (0 + p) * 8 ≤ 140737488355328 by omega)
                have M4 := Lib.hid (show (0 + p + (F' + 1 - (p + 1))) * 8 ≤ 140737488355328 by omega)
                clear hnews q3 hown' hb' hpl
                go_wp2_with fail
                go_region_law (first | (refine step_append_own _ rfl (.tmp 71) (.tmp 74) 32 rfl w.heap.size 3 i3 _ 1 8 Try.underlying32 hi3 hz3 hs3 hb3 rfl (by decide) (.slice (some ⟨w1.heap.size, 0, none⟩) 0 0) 0 [] (by simp [Act.eval]) E0.out ⟨g, 0, none⟩ p cap ((icells left).take p) (by simp [Act.eval]) L1.out N1.out O1.out M1.out M3.out (by simpa using HBs.out) ?_; intro v1 w2 hown1 hg1) | (refine step_append_own _ rfl (.tmp 75) (.tmp 79) 32 rfl w.heap.size 3 i3 _ 1 8 Try.underlying32 hi3 hz3 hs3 hb3 rfl (by decide) v1 _ _ (by simp [Act.eval]) hown1 A (F' + 1 - (p + 1)) (cap - (p + 1)) ((icells left).drop (p + 1)) (by simp [Act.eval]) q1.out (N2.out w2 hg1) q2.out M2.out M4.out (Nat.le_trans HBs.out (by simpa using hg1.size)) ?_; intro v2 w3 hown2 hg2))
                have hk1 := HO1.out.kept hg1 (own_apart HO1.out E0.out (by decide))
                have hk2 := hk1.kept hg2 (own_apart hk1 hown1 (by decide))
                have hbx := (HB1.out.grown hg1 (by simpa using HBs.out) (fun j e => by simp [Value.ownBlock] at e; have := HBz.out; omega)).grown hg2 (Nat.le_trans HBs.out (by simpa using hg1.size)) (fun j e => (hown1.lt j e).1)
                have hlen : (left.eraseIdx p).length = F' := by rw [List.length_eraseIdx_of_lt (by have := HF.out; omega), ← HF.out]; omega
                have hd2 : w3.ownsRow w.heap.size 3 1 v2 (left.eraseIdx p).length (icells (left.eraseIdx p)) := by
                  have e1 : 0 + p + (F' + 1 - (p + 1)) = (left.eraseIdx p).length := by rw [hlen]; omega
                  rw [e1] at hown2
                  have e3 : icells (left.eraseIdx p) = (icells left).take p ++ (icells left).drop (p + 1) := by rw [← icells_erase, List.eraseIdx_eq_take_drop_succ]
                  rw [e3]
                  simpa only [List.nil_append] using hown2
                have ho2 : w3.ownsRow w.heap.size 34 3 v' (l ++ [ent m x d]).length (ecells (l ++ [ent m x d])) := by
                  rw [ecells_snoc, List.length_append, hent.out]
                  exact hk2
                have hlen2 : (l ++ [ent m x d]).length + (left.eraseIdx p).length ≤ 65 * k + 65 := by rw [List.length_append, hlen]; simp; omega
                obtain ⟨Av, cv, rfl⟩ := own_shape hd2
                have HD := Lib.hid hd2; have HO := Lib.hid ho2; have HL2 := Lib.hid hlen2; have HBX := Lib.hid hbx; have HLe := Lib.hid hlen
                clear hd2 ho2 hlen2 hlen hk1 hk2 hbx hown1 hown2 hg1 hg2 hA hwr
                go_wp2
                go_roundw
                have hd2 := HD.out
                have ho2 := HO.out
                have hlen2 := HL2.out
                have hbx := HBX.out
                case rel =>
                  (repeat apply Exists.intro)
                  exact ⟨⟨l ++ [ent m x d], left.eraseIdx p, s2, rfl, ⟨hs20, hs21⟩, hd2, ho2, hbx, hlen2, fun y hy => HLM.out y (List.mem_of_mem_eraseIdx hy), goR_step HF.out HG.out HS.out HX.out hpF⟩, rfl⟩
                case measure => simp [lenV, Act.put, HLe.out]
              · have hent : Hid (ent m x d = ⟨2, 0, 0⟩) := ent_tick hxm hxl
                have hxe : ((x : Int) == (m : Int)) = true := by simp; omega
                go_wp2_with (at_builtin; refine wpList_append_own _ rfl (.tmp 57) (.tmp 59) 22 rfl w.heap.size 34 i34 _ 3 24 Try.underlying22 hi34 hz34 hs34 hb34 rfl (by decide) _ _ _ rfl (hown.alloc _) ⟨wr.heap.size, 0, none⟩ 1 1 [.int .i64 (2), .int .i64 (0), .int .u64 (0)] rfl rfl ?c12 ?c22 ?c32 ?c42 ?c52 ?_)
                case c22 => simp [Value.oneCell']
                case c32 => unfold maxLen; omega
                case c42 => omega
                case c52 => have := hb.size; simp; omega
                intro v' w1 hown' hgrow _
                obtain ⟨hrow', hb'⟩ := own_after hown hrow (by decide) hb hb.size hgrow
                clear hrow hown hb hgrow hcl hfr
                obtain ⟨A, hA, hnews, q1, q2, q3, hcap, hcap2⟩ := del_pre hrow' hpF (icells_one left)
                have hic : p ≤ cap := by omega
                have hwr : IntKind.i64.wrap ((p : Int) + 1) = (p : Int) + 1 := by rw [IntKind.wrap_i64]; omega
                have hp0 : (0 : Int) ≤ (p : Int) + 1 := by omega
                have hp1 : (p : Int) + 1 ≤ (F' : Int) + 1 := by omega
                have hp2 : ((p : Int) + 1).toNat = p + 1 := by omega
                have HR := Lib.hid hrow'; clear hrow'
                have hpl : p < (icells left).length := by have := HF.out; simp [icells]; omega
                have E0 := Lib.hid (show ((w1.alloc (.cells #[] 3)).drew).ownsRow w.heap.size 3 1 (.slice (some ⟨w1.heap.size, 0, none⟩) 0 0) 0 [] from (own_empty w1 w.heap.size 3 1 hb'.size).drew)
                have N1 := Lib.hid (take_cells HR.out (o := .cells #[] 3) (p := p))
                have N2 := Lib.hid (drop_cells (w := w1) (o := .cells #[] 3) hnews.out)
                have L1 := Lib.hid (show ((icells left).take p).length = p * 1 by rw [List.length_take]; omega)
                have O1 := Lib.hid (show ∀ u ∈ (icells left).take p, u.oneCell' = true from fun u hu => icells_one left u (List.mem_of_mem_take hu))
                have HBz := Lib.hid hb'.size
                have HBs := Lib.hid (show w.heap.size ≤ w1.heap.size + 1 by have := hb'.size; omega)
                have HB1 := Lib.hid (show Below w.heap.size w ((w1.alloc (.cells #[] 3)).drew) from (hb'.alloc hb'.size _).drew)
                have HO1 := Lib.hid (show ((w1.alloc (.cells #[] 3)).drew).ownsRow w.heap.size 34 3 v' (l.length + 1) _ from (hown'.alloc _).drew)
                have M1 := Lib.hid (show 0 + p ≤ maxLen by unfold maxLen; omega)
                have M2 := Lib.hid (show 0 + p + (F' + 1 - (p + 1)) ≤ maxLen by unfold maxLen; omega)
                have M3 := Lib.hid (show (0 + p) * 8 ≤ 140737488355328 by omega)
                have M4 := Lib.hid (show (0 + p + (F' + 1 - (p + 1))) * 8 ≤ 140737488355328 by omega)
                clear hnews q3 hown' hb' hpl
                go_wp2_with fail
                go_region_law (first | (refine step_append_own _ rfl (.tmp 71) (.tmp 74) 32 rfl w.heap.size 3 i3 _ 1 8 Try.underlying32 hi3 hz3 hs3 hb3 rfl (by decide) (.slice (some ⟨w1.heap.size, 0, none⟩) 0 0) 0 [] (by simp [Act.eval]) E0.out ⟨g, 0, none⟩ p cap ((icells left).take p) (by simp [Act.eval]) L1.out N1.out O1.out M1.out M3.out (by simpa using HBs.out) ?_; intro v1 w2 hown1 hg1) | (refine step_append_own _ rfl (.tmp 75) (.tmp 79) 32 rfl w.heap.size 3 i3 _ 1 8 Try.underlying32 hi3 hz3 hs3 hb3 rfl (by decide) v1 _ _ (by simp [Act.eval]) hown1 A (F' + 1 - (p + 1)) (cap - (p + 1)) ((icells left).drop (p + 1)) (by simp [Act.eval]) q1.out (N2.out w2 hg1) q2.out M2.out M4.out (Nat.le_trans HBs.out (by simpa using hg1.size)) ?_; intro v2 w3 hown2 hg2))
                have hk1 := HO1.out.kept hg1 (own_apart HO1.out E0.out (by decide))
                have hk2 := hk1.kept hg2 (own_apart hk1 hown1 (by decide))
                have hbx := (HB1.out.grown hg1 (by simpa using HBs.out) (fun j e => by simp [Value.ownBlock] at e; have := HBz.out; omega)).grown hg2 (Nat.le_trans HBs.out (by simpa using hg1.size)) (fun j e => (hown1.lt j e).1)
                have hlen : (left.eraseIdx p).length = F' := by rw [List.length_eraseIdx_of_lt (by have := HF.out; omega), ← HF.out]; omega
                have hd2 : w3.ownsRow w.heap.size 3 1 v2 (left.eraseIdx p).length (icells (left.eraseIdx p)) := by
                  have e1 : 0 + p + (F' + 1 - (p + 1)) = (left.eraseIdx p).length := by rw [hlen]; omega
                  rw [e1] at hown2
                  have e3 : icells (left.eraseIdx p) = (icells left).take p ++ (icells left).drop (p + 1) := by rw [← icells_erase, List.eraseIdx_eq_take_drop_succ]
                  rw [e3]
                  simpa only [List.nil_append] using hown2
                have ho2 : w3.ownsRow w.heap.size 34 3 v' (l ++ [ent m x d]).length (ecells (l ++ [ent m x d])) := by
                  rw [ecells_snoc, List.length_append, hent.out]
                  exact hk2
                have hlen2 : (l ++ [ent m x d]).length + (left.eraseIdx p).length ≤ 65 * k + 65 := by rw [List.length_append, hlen]; simp; omega
                obtain ⟨Av, cv, rfl⟩ := own_shape hd2
                have HD := Lib.hid hd2; have HO := Lib.hid ho2; have HL2 := Lib.hid hlen2; have HBX := Lib.hid hbx; have HLe := Lib.hid hlen
                clear hd2 ho2 hlen2 hlen hk1 hk2 hbx hown1 hown2 hg1 hg2 hA hwr
                go_wp2
                go_roundw
                have hd2 := HD.out
                have ho2 := HO.out
                have hlen2 := HL2.out
                have hbx := HBX.out
                case rel =>
                  (repeat apply Exists.intro)
                  exact ⟨⟨l ++ [ent m x d], left.eraseIdx p, s2, rfl, ⟨hs20, hs21⟩, hd2, ho2, hbx, hlen2, fun y hy => HLM.out y (List.mem_of_mem_eraseIdx hy), goR_step HF.out HG.out HS.out HX.out hpF⟩, rfl⟩
                case measure => simp [lenV, Act.put, HLe.out]
            · obtain rfl : F = 0 := by omega
              obtain ⟨A, c, rfl⟩ := own_shape hrow
              obtain rfl : left = [] := List.length_eq_zero_iff.1 HF.out.symm
              have e : (l, s) = G := HG.out
              subst e
              have e2 := HT'.out
              rw [show R - k = (R - (k + 1)) + 1 by omega, roundsL, HGo.out] at e2
              have HT2 := Lib.hid e2; clear e2 HG HGo HT' HF HLM
              go_wp2
              go_roundw
              case rel => exact ⟨k + 1, l, s, by omega, by go_num, rfl, ⟨hs0, hs1⟩, hown, hb, by simp at hlb; omega, HT2⟩
              case measure => simp [intOf]; omega
    · obtain rfl : k = R := by omega
      have e2 := HT'.out
      rw [Nat.sub_self, roundsL] at e2
      have HT2 := Lib.hid e2; clear e2 HT'
      by_cases hre : (k : Int) = r
      · subst hre
        clear HRe
        go_wp2
        go_ret
        refine ⟨_, rfl, ?_, hb⟩
        rw [HT2.out]
        exact hown
      · have hk1 : (k : Int) < r := by omega
        have hk2 : ¬ ((k : Int) < 65536) := by have := HRe.out; omega
        clear hRb HRe
        go_wp2
        go_ret
        refine ⟨_, rfl, ?_, hb⟩
        rw [HT2.out]
        exact hown
end Go.Proofs.Ytloeibaeobkgjaa.Fair
