/- asm.operand at a place: it is wanted. · asm.operand, of any kind. -/
import Derived.Test.YtlpkafhboomjkaaGreatDoorAsmA
namespace Go.Proofs.YtlpkafhboomjkaaGreatDoor.Asm
open Go.RowKit Go.Maps

theorem infoWant : (Tryz.prog.info? 151).map (fun i => (i.zero, i.size, i.bytes)) = some (some (.agg #[.int .i64 0, .int .i64 0, .string ⟨#[]⟩]), 3, 32) := by kernel_rfl
theorem strV_of (s : ByteArray) : strV s.data.toList = .string s := by
  unfold strV
  congr 1
theorem wantsC_snoc (l : List (Nat × Nat × Str)) (x : Nat × Nat × Str) : wantsC (l ++ [x]) = wantsC l ++ [.int .i64 x.1, .int .i64 x.2.1, strV x.2.2] := by simp [wantsC]

set_option maxRecDepth 100000 in
set_option maxHeartbeats 4000000 in
theorem operand_place {w : World} {R mb rb : Nat} {vc vl vn vw : Value} {st : St} {X : Nat} {x : InsL} (hR : Rd w R mb rb vc vl vn vw st) (hrb : rb ≤ w.heap.size) (hX : ¬ OfR R mb vc vl vn vw X) (hx : InsAt w X x) (s : ByteArray) (hs : s.size ≤ 100000) (i : Nat) (k : Int) (hk : k = 8 ∨ k = 9) (hn : namedL s.data.toList = true) (hc : st.code.length ≤ 100000) (hw : st.wants.length ≤ 100000) :
    Calls Tryz.prog 128 #[.pointer (some ⟨R, 0, none⟩), .pointer (some ⟨X, 0, none⟩), .int .i64 k, .string s, .int .i64 i] w (OpdOut w R mb rb vc vl vn vw st X x (some s.data.toList) i) := by
  have HReg := Lib.hid (register_any s w (by omega))
  have HNam := Lib.hid (named_any s w (by omega))
  have HNo := Lib.hid hn
  obtain ⟨iw, hiw, hzw, hsw, hbw⟩ := info_parts infoWant
  obtain ⟨Aw, cw, rfl⟩ := own_shape hR.wants
  obtain ⟨Ac, cc, rfl⟩ := own_shape hR.code
  obtain ⟨r0, r1, r2, r3, r4, rf⟩ := hR.cell
  have hRl := hR.lt
  obtain ⟨m, hm⟩ : ∃ m, m = st.code.length := ⟨_, rfl⟩
  have hmI : (m : Int) ≤ 100000 := by omega
  have HMc := Lib.hid hm
  have h0 : Rd ((w.alloc (.cells #[.int .i64 (m : Int), .int .i64 (i : Int), .string s] 151)).drew) R mb rb (.slice Ac st.code.length cc) vl vn (.slice Aw st.wants.length cw) st := (hR.below ((Below.refl _ _).alloc (Nat.le_refl _) _)).of_blocks fun _ _ => rfl
  have K0 : Keeps (OfR R mb (.slice Ac st.code.length cc) vl vn (.slice Aw st.wants.length cw)) w ((w.alloc (.cells #[.int .i64 (m : Int), .int .i64 (i : Int), .string s] 151)).drew) := ((Keeps.refl _ w).alloc _).drew
  have E0 := Lib.hid h0.wants
  have N1 : Hid (∀ j u, ([.int .i64 (m : Int), .int .i64 (i : Int), .string s] : List Value)[j]? = some u → ((w.alloc (.cells #[.int .i64 (m : Int), .int .i64 (i : Int), .string s] 151)).drew).cell? ((⟨w.heap.size, 0, none⟩ : Addr).add j) = some u) := Lib.hid (by
    intro j u hu
    rw [Addr.add_lit, Nat.zero_add]
    exact (World.cell?_alloc_at _ _ _ _ rfl).trans (by simpa using hu))
  have O1 : Hid (∀ u ∈ ([.int .i64 (m : Int), .int .i64 (i : Int), .string s] : List Value), u.oneCell' = true) := Lib.hid (by
    intro u hu
    simp at hu
    rcases hu with rfl | rfl | rfl <;> rfl)
  have M1 := Lib.hid (show st.wants.length + 1 ≤ maxLen by unfold maxLen; omega)
  have M2 := Lib.hid (show (st.wants.length + 1) * 32 ≤ 140737488355328 by omega)
  have M3 := Lib.hid (show rb ≤ ((w.alloc (.cells #[.int .i64 (m : Int), .int .i64 (i : Int), .string s] 151)).drew).heap.size by show rb ≤ (w.alloc _).heap.size; simp; omega)
  have HV : Hid (some R ≠ (Value.slice Aw st.wants.length cw).ownBlock) := Lib.hid (own_ne hR.wants hR.tagR (by decide))
  have HFin : Hid (∀ v' w2, w2.ownsRow rb 151 3 v' (st.wants.length + 1) (wantsC st.wants ++ [.int .i64 (m : Int), .int .i64 (i : Int), .string s]) → ((w.alloc (.cells #[.int .i64 (m : Int), .int .i64 (i : Int), .string s] 151)).drew).grownBy w2 (Value.slice Aw st.wants.length cw).ownBlock → (v'.ownBlock = (Value.slice Aw st.wants.length cw).ownBlock ∨ v'.ownBlock = some ((w.alloc (.cells #[.int .i64 (m : Int), .int .i64 (i : Int), .string s] 151)).drew).heap.size) →
      OpdOut w R mb rb (.slice Ac st.code.length cc) vl vn (.slice Aw st.wants.length cw) st X x (some s.data.toList) i (.returned .nilIface) (w2.setCell ⟨R, 4, none⟩ v')) := Lib.hid (fun v' w2 hr hg hnew => by
    have hr2 : w2.ownsRow rb 151 3 v' (st.wants ++ [(st.code.length, i, s.data.toList)]).length (wantsC (st.wants ++ [(st.code.length, i, s.data.toList)])) := by
      rw [wantsC_snoc, strV_of, List.length_append, ← hm]; exact hr
    have hadd := h0.add_wants _ hg hr2
    have hK2 : Keeps (OfR R mb (.slice Ac st.code.length cc) vl vn (.slice Aw st.wants.length cw)) w (w2.setCell ⟨R, 4, none⟩ v') := (K0.grown hg (fun k e => Or.inr (Or.inr (Or.inr (Or.inr (Or.inr e)))))).setCell (p := ⟨R, 4, none⟩) (Or.inl rfl) _
    refine ⟨rfl, hx.keeps hK2 hX, v', hadd, hK2.mono (fun _ h => Or.inr h), fun k hk => ?_⟩
    rcases hnew with e | e
    · exact Or.inl (e ▸ hk)
    · right
      rw [e] at hk
      have h2 : (w.alloc (.cells #[.int .i64 (m : Int), .int .i64 (i : Int), .string s] 151)).heap.size = k := Option.some.inj hk
      simp at h2
      omega)
  have HC : Hid (∀ w2 : World, ((w.alloc (.cells #[.int .i64 (m : Int), .int .i64 (i : Int), .string s] 151)).drew).grownBy w2 (Value.slice Aw st.wants.length cw).ownBlock → w2.cell? ⟨R, 4, none⟩ = some (.slice Aw st.wants.length cw) ∧ w2.frozen? ⟨R, 4, none⟩ = false) := Lib.hid (fun w2 hg => by
    have hb := hg.block R h0.lt HV.out
    exact ⟨(World.cell?_of_block (a := ⟨R, 4, none⟩) hb).trans h0.cell.2.2.2.2.1, (World.frozen?_of_block (a := ⟨R, 4, none⟩) hb).trans (h0.cell.2.2.2.2.2 4)⟩)
  rw [← hm] at r0
  generalize st.wants.length = z at r4 E0 M1 M2 HV HFin HC
  clear hR hX hx hs hn hm h0 K0 hc hw hrb
  rcases hk with rfl | rfl
  all_goals
    go_enter Tryz.func128, Tryz.ntmps128
    go_wp2_with fail
    refine HReg.out.mono ?_
    rintro e w' ⟨m9, rfl, hm, rfl⟩
    clear hm
    generalize (regL s.data.toList).isSome = b
    go_wp2_with fail
    refine HNam.out.mono ?_
    rintro e w' ⟨rfl, rfl⟩
    rw [HNo.out]
    go_wp2_with fail
    go_region_law (first | (refine step_append_own _ rfl (.tmp 87) (.tmp 96) 145 rfl rb 151 iw _ 3 32 Tryz.underlying145 hiw hzw hsw hbw rfl (by decide) (.slice Aw z cw) z (wantsC st.wants) (by simp [Act.eval]) E0.out ⟨w.heap.size, 0, none⟩ 1 1 [.int .i64 (m : Int), .int .i64 (i : Int), .string s] (by simp [Act.eval]) rfl N1.out O1.out M1.out M2.out M3.out ?_; intro v' w2 hown' hgrow hnew; obtain ⟨A', c', rfl⟩ := own_shape hown'; have tt := HC.out w2 hgrow; have t0 := tt.1; have t1 := tt.2; have HF := Lib.hid (HFin.out _ _ hown' hgrow hnew); clear hown' hgrow hnew tt))
    all_goals
      go_wp2
      go_ret
      exact HF.out
end Go.Proofs.YtlpkafhboomjkaaGreatDoor.Asm
namespace Go.Proofs.YtlpkafhboomjkaaGreatDoor.Asm
open Go.RowKit Go.Maps

theorem operand_any {w : World} {R mb rb : Nat} {vc vl vn vw : Value} {st : St} {X : Nat} {x : InsL} (hR : Rd w R mb rb vc vl vn vw st) (hrb : rb ≤ w.heap.size) (hX : ¬ OfR R mb vc vl vn vw X) (hx : InsAt w X x) (s : ByteArray) (hs : s.size ≤ 100000) (i : Nat) (k : Int) (hk : 1 ≤ k ∧ k ≤ 9) {y : InsL} {o : Option Str} (h : operandL x k s.data.toList = some (y, o)) (hc : st.code.length ≤ 100000) (hw : st.wants.length ≤ 100000) :
    Calls Tryz.prog 128 #[.pointer (some ⟨R, 0, none⟩), .pointer (some ⟨X, 0, none⟩), .int .i64 k, .string s, .int .i64 i] w (OpdOut w R mb rb vc vl vn vw st X y o i) := by
  unfold operandL at h
  obtain rfl | rfl | rfl | rfl | rfl | rfl | rfl | rfl | rfl : k = 1 ∨ k = 2 ∨ k = 3 ∨ k = 4 ∨ k = 5 ∨ k = 6 ∨ k = 7 ∨ k = 8 ∨ k = 9 := by omega
  · simp only [if_true] at h
    obtain ⟨r, hr, e⟩ := Option.map_eq_some_iff.1 h
    injection e with e1 e2
    subst e1 e2
    exact operand_regA hR hX hx s hs i r hr
  · simp only [show ((2 : Int) = 1) = False by simp, if_false, if_true] at h
    obtain ⟨r, hr, e⟩ := Option.map_eq_some_iff.1 h
    injection e with e1 e2
    subst e1 e2
    exact operand_regB hR hX hx s hs i r hr
  · simp only [show ((3 : Int) = 1) = False by simp, show ((3 : Int) = 2) = False by simp, if_false, if_true] at h
    obtain ⟨r, hr, e⟩ := Option.map_eq_some_iff.1 h
    injection e with e1 e2
    subst e1 e2
    exact operand_regC hR hX hx s hs i r hr
  · simp only [show ((4 : Int) = 1) = False by simp, show ((4 : Int) = 2) = False by simp, show ((4 : Int) = 3) = False by simp, if_false, if_true] at h
    cases hr : regL s.data.toList with
    | some r =>
      rw [hr] at h
      injection h with h
      injection h with e1 e2
      subst e1 e2
      exact operand_orCr hR hX hx s hs i r hr
    | none =>
      rw [hr] at h
      obtain ⟨v, hv, e⟩ := Option.map_eq_some_iff.1 h
      injection e with e1 e2
      subst e1 e2
      exact operand_orCn hR hX hx s hs i v hr hv
  · simp only [show ((5 : Int) = 1) = False by simp, show ((5 : Int) = 2) = False by simp, show ((5 : Int) = 3) = False by simp, show ((5 : Int) = 4) = False by simp, if_false, if_true] at h
    cases hr : regL s.data.toList with
    | some r =>
      rw [hr] at h
      injection h with h
      injection h with e1 e2
      subst e1 e2
      exact operand_orBr hR hX hx s hs i r hr
    | none =>
      rw [hr] at h
      obtain ⟨v, hv, e⟩ := Option.map_eq_some_iff.1 h
      injection e with e1 e2
      subst e1 e2
      exact operand_orBn hR hX hx s hs i v hr hv
  · simp only [show ((6 : Int) = 1) = False by simp, show ((6 : Int) = 2) = False by simp, show ((6 : Int) = 3) = False by simp, show ((6 : Int) = 4) = False by simp, show ((6 : Int) = 5) = False by simp, show ((6 : Int) = 7) = False by simp, if_false, if_true] at h
    obtain ⟨r, hr, e⟩ := Option.map_eq_some_iff.1 h
    injection e with e1 e2
    subst e1 e2
    exact operand_cell hR hX hx s hs i r hr
  · simp only [show ((7 : Int) = 1) = False by simp, show ((7 : Int) = 2) = False by simp, show ((7 : Int) = 3) = False by simp, show ((7 : Int) = 4) = False by simp, show ((7 : Int) = 5) = False by simp, if_false, if_true] at h
    obtain ⟨r, hr, e⟩ := Option.map_eq_some_iff.1 h
    injection e with e1 e2
    subst e1 e2
    exact operand_num hR hX hx s hs i r hr
  · simp only [show ((8 : Int) = 1) = False by simp, show ((8 : Int) = 2) = False by simp, show ((8 : Int) = 3) = False by simp, show ((8 : Int) = 4) = False by simp, show ((8 : Int) = 5) = False by simp, show ((8 : Int) = 6) = False by simp, show ((8 : Int) = 7) = False by simp, if_false, if_true] at h
    cases hn : namedL s.data.toList with
    | true =>
      rw [hn] at h
      simp only [if_true] at h
      injection h with h
      injection h with e1 e2
      subst e1 e2
      exact operand_place hR hrb hX hx s hs i 8 (Or.inl rfl) hn hc hw
    | false => rw [hn] at h; simp at h
  · simp only [show ((9 : Int) = 1) = False by simp, show ((9 : Int) = 2) = False by simp, show ((9 : Int) = 3) = False by simp, show ((9 : Int) = 4) = False by simp, show ((9 : Int) = 5) = False by simp, show ((9 : Int) = 6) = False by simp, show ((9 : Int) = 7) = False by simp, show ((9 : Int) = 8) = False by simp, if_false] at h
    cases hn : namedL s.data.toList with
    | true =>
      rw [hn] at h
      simp only [if_true] at h
      injection h with h
      injection h with e1 e2
      subst e1 e2
      exact operand_place hR hrb hX hx s hs i 9 (Or.inr rfl) hn hc hw
    | false =>
      rw [hn] at h
      simp only [Bool.false_eq_true, if_false] at h
      obtain ⟨r, hr, e⟩ := Option.map_eq_some_iff.1 h
      injection e with e1 e2
      subst e1 e2
      exact operand_bothn hR hX hx s hs i r hn hr
end Go.Proofs.YtlpkafhboomjkaaGreatDoor.Asm
