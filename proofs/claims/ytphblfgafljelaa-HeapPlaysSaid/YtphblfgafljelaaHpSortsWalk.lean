/- The walk of distafflaw07.HeapSorts: true of all deadlines. -/
import Derived.Test.YtphblfgafljelaaHpAwake
import Derived.Test.YtphblfgafljelaaHpBuild
import Derived.Test.YtphblfgafljelaaNums
import Derived.Deep.OwnRows
namespace Go.Proofs.Ytphblfgafljelaa.Hp
open Go.RowKit

theorem infoBool : (Try.prog.info? 4).map (fun i => (i.zero, i.size, i.bytes)) = some (some (.bool false), 1, 1) := by kernel_rfl
theorem rowIs_of_block {w w' : World} {b : Nat} {t : TypeId} {n : Nat} {f : Nat → Value} (h : w.rowIs b t n f) (e : w'.heap[b]? = w.heap[b]?) : w'.rowIs b t n f := by
  obtain ⟨c, h1, h2⟩ := h
  exact ⟨c, e.trans h1, h2⟩

/-- i deadlines are in. -/
def PutIn (w0 : World) (hb mb : Nat) (D : Nat → Int) (i : Nat) (w : World) : Prop := ∃ v N, Hp w0 w hb mb v (build D i) i N ∧ N ≤ 1000 * i

/-- i are popped, and seen. -/
def PopIn (w0 : World) (hb mb : Nat) (v0 : Value) (sb n : Nat) (T : List Thing) (i : Nat) (w : World) : Prop :=
  (∃ v N, Hp w0 w hb mb v (T.drop i) n N ∧ N ≤ 1000000 + 10000 * i ∧ v.ownBlock = v0.ownBlock) ∧ w.rowIs sb 4 n (fun j => .bool (seenF T i j))

set_option maxRecDepth 100000 in
set_option maxHeartbeats 8000000 in
theorem sorts_law (A : Option Addr) (n c : Nat) (D : Nat → Int) (w : World) (hn : n ≤ 9223372036854775807) (hD : Nums .u64 w A n D) :
    Calls Try.prog 3 #[.slice A n c] w fun e w' => e = .returned (.bool true) ∧ Below w.heap.size w w' := by
  have HDs := Lib.hid hD
  clear hD
  have hnI : (n : Int) ≤ 9223372036854775807 := by omega
  by_cases hbig : 300 < n
  · have hd : decide ((300 : Int) < (n : Int)) = true := by simp; omega
    have HBig := Lib.hid hbig
    clear hbig hn
    go_enter Try.func3, Try.ntmps3
    go_wp2_with fail
    refine (new_hp w _ (Below.refl _ _)).mono ?_
    rintro e w1 ⟨hb, mb, rfl, h1, _⟩
    have H1 := Lib.hid h1
    clear h1
    go_wp2_with fail
    refine (awake_true _).mono ?_
    rintro e w2 ⟨rfl, hb2⟩
    go_wp2
    go_ret
    exact ⟨rfl, (H1.out.below hb2).2.1⟩
  · have hd : decide ((300 : Int) < (n : Int)) = false := by simp; omega
    have hn3 : (n : Int) ≤ 300 := by omega
    have HBig := Lib.hid hbig
    have hmk := run_make_row' (P := Try.prog) 28 4 (.bool false) 1 Try.underlying28 infoBool rfl .i64 .i64 n (by omega) (by omega)
    have HMk := Lib.hid hmk
    clear hbig hn hmk
    go_enter Try.func3, Try.ntmps3
    go_wp2_with fail
    refine (new_hp w _ (Below.refl _ _)).mono ?_
    rintro e w1 ⟨hb, mb, rfl, h1, _⟩
    have H1 := Lib.hid h1
    clear h1
    go_wp2_with fail
    go_loopw [4] (fun i wr => ∃ k : Nat, k ≤ n ∧ i = .int .i64 k ∧ Hid (PutIn w hb mb D k wr)) (fun i _ => n - (intOf i).toNat)
    case atStart => exact ⟨0, by omega, rfl, Lib.hid ⟨_, _, H1.out, by omega⟩⟩
    case round =>
      obtain ⟨k, hk, rfl, HP⟩ := hrel
      have hkI : (k : Int) ≤ (n : Int) := by omega
      by_cases hlt : k < n
      · have hltI : (k : Int) < (n : Int) := by omega
        obtain ⟨v, N, hh, hN⟩ := HP.out
        obtain ⟨b, off, rfl, hbl, hc, hwf⟩ := (HDs.out.below hh.2.1) k hlt
        have hbd := bounds_u64 hwf
        have hw1 : IntKind.i64.wrap ((k : Int) + 1) = (k : Int) + 1 := by rw [IntKind.wrap_i64]; omega
        have HPut := Lib.hid (put_hp hh (D k) k ⟨hbd.1, by omega⟩ (by omega) (by rw [build_length]; omega) (by omega) (by omega))
        have HNb := Lib.hid hN
        obtain ⟨dk, hdk⟩ : ∃ dk, dk = D k := ⟨_, rfl⟩
        rw [← hdk] at hc hbd HPut
        have HDk := Lib.hid hdk
        clear hh hN hwf hdk
        have hne : (((k : Int) + 1) != ((k : Int) + 1)) = false := by simp
        go_wp2_with fail
        refine HPut.out.mono ?_
        rintro e w2 ⟨rfl, v2, h2, _⟩
        have H2 : Hid (PutIn w hb mb D (k + 1) w2) := Lib.hid (by
          rw [HDk.out] at h2
          refine ⟨v2, _, h2, ?_⟩
          have := HNb.out
          rw [build_length]
          omega)
        clear h2
        go_wp2
        go_roundw
        case rel => exact ⟨k + 1, by omega, by go_num, H2⟩
        case measure => simp [intOf]; omega
      · obtain rfl : k = n := by omega
        obtain ⟨ws, rfl⟩ : ∃ ws : World, ws = wr := ⟨_, rfl⟩
        obtain ⟨v0, N0, hh, hN0⟩ := HP.out
        have hsb : ¬ Of hb mb v0 ws.heap.size := fun ho => absurd (hh.1.of_lt ho) (by omega)
        have hle0 := hh.le
        obtain ⟨T, hT⟩ : ∃ T, T = build D k := ⟨_, rfl⟩
        rw [← hT] at hh
        have hTl : T.length = k := by rw [hT]; exact build_length D k
        have hrow0 := World.rowIs_made ws (.bool false) k 4
        have hstart : PopIn w hb mb v0 ws.heap.size k T 0 (ws.alloc (.cells (madeCells #[.bool false] k) 4)) :=
          ⟨⟨v0, N0, by rw [List.drop_zero]; exact hh.below ((Below.refl _ ws).alloc (Nat.le_refl _) _), by have := HBig.out; omega, rfl⟩, by
            have e : (fun j => Value.bool (seenF T 0 j)) = fun _ => Value.bool false := by funext j; rw [seenF_zero]
            rw [e]; exact hrow0⟩
        have HSt := Lib.hid hstart
        have HT := Lib.hid hT
        have HTl := Lib.hid hTl
        have HSb := Lib.hid hsb
        have HLe := Lib.hid hle0
        have hmk := HMk.out ws
        clear hh hN0 hstart hT hTl hsb hle0 hrow0
        go_wp2_with fail
        clear hmk
        go_loopw [6, 7] (fun lv iv wr => ∃ i : Nat, i ≤ k ∧ iv = .int .i64 i ∧ lv = .int .u64 (lastW T i) ∧ Hid (PopIn w hb mb v0 ws.heap.size k T i wr)) (fun _ iv _ => k - (intOf iv).toNat)
        case atStart => exact ⟨0, by omega, rfl, rfl, HSt⟩
        case round =>
          obtain ⟨i, hi, rfl, rfl, HPi⟩ := hrel
          have hiI : (i : Int) ≤ (k : Int) := by omega
          by_cases hlt2 : i < k
          · have hlt2I : (i : Int) < (k : Int) := by omega
            obtain ⟨⟨v, N, hh, hN, hv⟩, hrow⟩ := HPi.out
            obtain ⟨j, hj, hTj⟩ := build_at (D := D) hlt2
            rw [← HT.out] at hTj
            rw [drop_at (by rw [HTl.out]; exact hlt2), hTj] at hh
            have hDj := (HDs.out.below hh.2.1) j hj
            obtain ⟨b, off, hA, hbl, hcj, hwj⟩ := hDj
            have hbj := bounds_u64 hwj
            have HPop := Lib.hid (pop_hp hh 18446744073709551615 (by rw [List.length_drop, HTl.out]; omega) (by omega) (by show D j ≤ _; exact hbj.2))
            have hzq := hh.1.of_lt (k := hb) (Or.inl rfl)
            have hsbl : ws.heap.size < wr.heap.size := by
              obtain ⟨cc, hcc, _⟩ := hrow
              exact (Array.getElem?_eq_some_iff.1 hcc).1
            have hold : ∀ x, Of hb mb v x ↔ Of hb mb v0 x := of_same hv
            have hseen : seenF T i j = false := by rw [HT.out]; exact seenF_new hlt2 (by rw [← HT.out]; exact hTj)
            obtain ⟨q, hq⟩ : ∃ q, lastW T i = q := ⟨_, rfl⟩
            have hjI : (j : Int) < (k : Int) := by omega
            have HRow := Lib.hid hrow
            have HOld := Lib.hid hold
            have HSeen := Lib.hid hseen
            have HTj := Lib.hid hTj
            have HNb := Lib.hid hN
            have HV := Lib.hid hv
            have HBj := Lib.hid hbj
            have hj0 : (0 : Int) ≤ (j : Int) := by omega
            clear hh hN hv hrow hseen hTj hold hcj hwj hbj hbl hA hzq
            rw [hq]
            have HQ := Lib.hid hq
            clear hq
            go_wp2_with fail
            refine HPop.out.mono ?_
            rintro e w2 ⟨rfl, v2, h2, hv2, hk2⟩
            rw [show (th D j).w = (j : Int) from rfl]
            have hDw := HDs.out.below h2.2.1
            obtain ⟨b, off, rfl, hbl, hcj, _⟩ := hDw j hj
            have hsb2 : ¬ Of hb mb v ws.heap.size := fun ho => HSb.out ((HOld.out _).1 ho)
            have hrow2 : w2.rowIs ws.heap.size 4 k (fun j => .bool (seenF T i j)) := rowIs_of_block HRow.out (hk2.block _ hsbl hsb2)
            have hsj := hrow2.cell (i := j) hj
            rw [HSeen.out] at hsj
            have hq1 : decide ((k : Int) ≤ (j : Int)) = false := by simp; omega
            have hq2 : decide (k ≤ j) = false := by simp; omega
            have hDq : 0 < i → ∃ jq : Nat, q = (jq : Int) ∧ jq < k ∧ (D jq < D j ∨ (D jq = D j ∧ jq < j)) ∧ w2.cell? ⟨b, off + jq, none⟩ = some (.int .u64 (D jq)) := by
              intro h0
              obtain ⟨i', rfl⟩ : ∃ i', i = i' + 1 := ⟨i - 1, by omega⟩
              obtain ⟨jq, hjq, hTq⟩ := build_at (D := D) (n := k) (i := i') (by omega)
              rw [← HT.out] at hTq
              have hso := sorted_at (S := T) (by rw [HT.out]; exact build_sorted D k) (i := i') (k := i' + 1) (by omega) (by rw [HTl.out]; exact hlt2)
              rw [hTq, HTj.out, aheadB_iff] at hso
              obtain ⟨b', off', e, _, hc', _⟩ := hDw jq hjq
              cases e
              refine ⟨jq, ?_, hjq, ?_, hc'⟩
              · rw [← HQ.out]; show (at_ T i').w = _; rw [hTq]; rfl
              · simp [th] at hso; omega
            have HRow2 := Lib.hid hrow2
            have H2 := Lib.hid h2
            have HV2 := Lib.hid hv2
            have HDq := Lib.hid hDq
            have hbw : b < w2.heap.size := hbl
            clear h2 hrow2 hv2 hk2 hDw hDq hsb2
            by_cases h0 : i = 0
            · subst h0
              have HV2 := HV2
              clear HDq
              go_wp2_with fail
              go_quiet (fail)
              have HRow3 : Hid (World.rowIs (w2.drewN nq) ws.heap.size 4 k (fun j => .bool (seenF T 0 j))) := Lib.hid (rowIs_of_block HRow2.out rfl)
              have H3 := Lib.hid (Hp.step H2.out ((Keeps.refl (fun _ => False) w2).drewN nq) (fun _ _ h => h) (fun _ h => h.elim))
              have hs3 : ws.heap.size < (w2.drewN nq).heap.size := by obtain ⟨cc, hcc, _⟩ := HRow3.out; exact (Array.getElem?_eq_some_iff.1 hcc).1
              clear hsj hcj HRow2 H2
              generalize w2.drewN nq = w3 at HRow3 H3 hs3 ⊢
              have hcell : w3.cell? ⟨ws.heap.size, j, none⟩ = some (.bool false) := by
                have := World.rowIs.cell HRow3.out (i := j) hj
                rwa [HSeen.out] at this
              have hfro := World.rowIs.frozen HRow3.out j
              go_wp2
              go_roundw
              case rel =>
                refine ⟨0 + 1, by omega, by go_num, by show _ = Value.int .u64 (at_ T 0).w; rw [HTj.out]; rfl, Lib.hid ⟨⟨v2, _, Hp.step H3.out ((Keeps.refl (fun x => x = ws.heap.size) w3).setCell (p := ⟨ws.heap.size, j, none⟩) rfl (.bool true)) (fun x hx e => HSb.out ((HOld.out x).1 ((of_same HV2.out x).1 hx) |> fun h => by rw [e] at h; exact h)) (fun x hx => by rw [hx]; exact HLe.out), by have := HNb.out; rw [List.length_drop, HTl.out]; omega, HV2.out.trans HV.out⟩, ?_⟩⟩
                refine (World.rowIs.set HRow3.out j (.bool true)).congr fun x hx => ?_
                rw [seenF_succ (by rw [HTl.out]; exact hlt2), HTj.out]
                by_cases e : x = j
                · subst e; simp [th]
                · rw [if_neg e]
                  have : ((th D j).w == (x : Int)) = false := by simp [th]; omega
                  rw [this, Bool.or_false]
              case measure => simp [intOf]; omega
            · have hi0 : 0 < i := Nat.pos_of_ne_zero h0
              have hi0d : decide (0 < i) = true := by simpa using hi0
              have hi0e : decide ((0 : Int) < (i : Int)) = true := by simp; omega
              obtain ⟨jq, rfl, hjqk, hor, hcq⟩ := HDq.out hi0
              have hjqI : (jq : Int) < (k : Int) := by omega
              clear HDq HQ
              obtain ⟨da, hda⟩ : ∃ da, da = D jq := ⟨_, rfl⟩
              obtain ⟨db, hdb⟩ : ∃ db, db = D j := ⟨_, rfl⟩
              rw [← hda] at hcq hor
              rw [← hdb] at hcj hor
              clear hda hdb
              by_cases hab : da < db
              · have t1 : decide (db < da) = false := by simp; omega
                have t2 : (da == db) = false := by simp; omega
                clear hor hab
                go_wp2_with fail
                go_quiet (fail)
                have HRow3 : Hid (World.rowIs (w2.drewN nq) ws.heap.size 4 k (fun j => .bool (seenF T i j))) := Lib.hid (rowIs_of_block HRow2.out rfl)
                have H3 := Lib.hid (Hp.step H2.out ((Keeps.refl (fun _ => False) w2).drewN nq) (fun _ _ h => h) (fun _ h => h.elim))
                have hs3 : ws.heap.size < (w2.drewN nq).heap.size := by obtain ⟨cc, hcc, _⟩ := HRow3.out; exact (Array.getElem?_eq_some_iff.1 hcc).1
                clear hsj hcj hcq HRow2 H2
                generalize w2.drewN nq = w3 at HRow3 H3 hs3 ⊢
                have hcell : w3.cell? ⟨ws.heap.size, j, none⟩ = some (.bool false) := by
                  have := World.rowIs.cell HRow3.out (i := j) hj
                  rwa [HSeen.out] at this
                have hfro := World.rowIs.frozen HRow3.out j
                go_wp2
                go_roundw
                case rel =>
                  refine ⟨i + 1, by omega, by go_num, by show _ = Value.int .u64 (at_ T i).w; rw [HTj.out]; rfl, Lib.hid ⟨⟨v2, _, Hp.step H3.out ((Keeps.refl (fun x => x = ws.heap.size) w3).setCell (p := ⟨ws.heap.size, j, none⟩) rfl (.bool true)) (fun x hx e => HSb.out ((HOld.out x).1 ((of_same HV2.out x).1 hx) |> fun h => by rw [e] at h; exact h)) (fun x hx => by rw [hx]; exact HLe.out), by have := HNb.out; rw [List.length_drop, HTl.out]; omega, HV2.out.trans HV.out⟩, ?_⟩⟩
                  refine (World.rowIs.set HRow3.out j (.bool true)).congr fun x hx => ?_
                  rw [seenF_succ (by rw [HTl.out]; exact hlt2), HTj.out]
                  by_cases e : x = j
                  · subst e; simp [th]
                  · rw [if_neg e]
                    have : ((th D j).w == (x : Int)) = false := by simp [th]; omega
                    rw [this, Bool.or_false]
                case measure => simp [intOf]; omega
              · obtain rfl : da = db := by omega
                have hlt3 : jq < j := by omega
                have t1 : decide (da < da) = false := by simp
                have t2 : (da == da) = true := by simp
                have t3 : decide ((j : Int) < (jq : Int)) = false := by simp; omega
                have t4 : decide (j < jq) = false := by simp; omega
                clear hor hab
                go_wp2_with fail
                go_quiet (fail)
                have HRow3 : Hid (World.rowIs (w2.drewN nq) ws.heap.size 4 k (fun j => .bool (seenF T i j))) := Lib.hid (rowIs_of_block HRow2.out rfl)
                have H3 := Lib.hid (Hp.step H2.out ((Keeps.refl (fun _ => False) w2).drewN nq) (fun _ _ h => h) (fun _ h => h.elim))
                have hs3 : ws.heap.size < (w2.drewN nq).heap.size := by obtain ⟨cc, hcc, _⟩ := HRow3.out; exact (Array.getElem?_eq_some_iff.1 hcc).1
                clear hsj hcj hcq HRow2 H2
                generalize w2.drewN nq = w3 at HRow3 H3 hs3 ⊢
                have hcell : w3.cell? ⟨ws.heap.size, j, none⟩ = some (.bool false) := by
                  have := World.rowIs.cell HRow3.out (i := j) hj
                  rwa [HSeen.out] at this
                have hfro := World.rowIs.frozen HRow3.out j
                go_wp2
                go_roundw
                case rel =>
                  refine ⟨i + 1, by omega, by go_num, by show _ = Value.int .u64 (at_ T i).w; rw [HTj.out]; rfl, Lib.hid ⟨⟨v2, _, Hp.step H3.out ((Keeps.refl (fun x => x = ws.heap.size) w3).setCell (p := ⟨ws.heap.size, j, none⟩) rfl (.bool true)) (fun x hx e => HSb.out ((HOld.out x).1 ((of_same HV2.out x).1 hx) |> fun h => by rw [e] at h; exact h)) (fun x hx => by rw [hx]; exact HLe.out), by have := HNb.out; rw [List.length_drop, HTl.out]; omega, HV2.out.trans HV.out⟩, ?_⟩⟩
                  refine (World.rowIs.set HRow3.out j (.bool true)).congr fun x hx => ?_
                  rw [seenF_succ (by rw [HTl.out]; exact hlt2), HTj.out]
                  by_cases e : x = j
                  · subst e; simp [th]
                  · rw [if_neg e]
                    have : ((th D j).w == (x : Int)) = false := by simp [th]; omega
                    rw [this, Bool.or_false]
                case measure => simp [intOf]; omega
          · obtain rfl : i = k := by omega
            obtain ⟨⟨v, N, hh, hN, hv⟩, hrow⟩ := HPi.out
            rw [List.drop_eq_nil_of_le (by rw [HTl.out]; exact Nat.le_refl _)] at hh
            have HH := Lib.hid hh
            generalize lastW T i = q
            clear hh hN hv hrow
            go_wp2_with fail
            refine (pop_nil HH.out.1 18446744073709551615).mono ?_
            rintro e w2 ⟨rfl, rfl⟩
            go_wp2_with fail
            refine (len_tiny HH.out (by simp)).mono ?_
            rintro e w3 ⟨rfl, hb3⟩
            have HH3 := Lib.hid (HH.out.below hb3)
            go_wp2_with fail
            refine (awake_true _).mono ?_
            rintro e w4 ⟨rfl, hb4⟩
            go_wp2
            go_ret
            exact ⟨rfl, (HH3.out.below hb4).2.1⟩
end Go.Proofs.Ytphblfgafljelaa.Hp
