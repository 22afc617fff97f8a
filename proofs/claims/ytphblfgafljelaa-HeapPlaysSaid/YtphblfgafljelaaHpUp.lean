/- heap.up: a thing brought up as far as it goes. -/
import Derived.Test.YtphblfgafljelaaHpLay
import Derived.Deep.RegionHeld3
namespace Go.Proofs.Ytphblfgafljelaa.Hp
open Go.RowKit Go.Maps

theorem Raw.look {w : World} {hb mb rb : Nat} {l : List Thing} {f : Int → Option Nat} {last : Int} {N g n cap : Nat} (h : Raw w hb mb (.slice (some ⟨g, 0, none⟩) n cap) rb l f last N) (hn : n = l.length) {i : Nat} (hi : i < l.length) :
    w.cell? ⟨hb, 0, none⟩ = some (.slice (some ⟨g, 0, none⟩) n cap) ∧ w.cell? ⟨g, i * 3, none⟩ = some (.int .u64 (at_ l i).d) ∧ w.cell? ⟨g, i * 3 + 1, none⟩ = some (.int .u64 (at_ l i).w) ∧ w.cell? ⟨g, i * 3 + 2, none⟩ = some (.int .i64 (at_ l i).h) := by
  subst hn
  obtain ⟨c0, c1, c2⟩ := lcells_at hi
  exact ⟨h.obj.cell.1, (h.row.cellAt _ (by omega)).trans c0, (h.row.cellAt _ (by omega)).trans c1, (h.row.cellAt _ (by omega)).trans c2⟩

def UpInv (w1 : World) (hb mb : Nat) (v : Value) (rb : Nat) (l : List Thing) (last : Int) (N i0 : Nat) (t : Thing) (k : Nat) (wr : World) : Prop :=
  ∃ (lr : List Thing) (f : Int → Option Nat) (N' : Nat), lr.length = l.length ∧ N' + k ≤ N + i0 ∧ Raw wr hb mb v rb lr f last N' ∧ AlmostUp (lr.set k t) k ∧ (KidsOk l i0 → KidsOk (lr.set k t) k) ∧ (lr.set k t).Perm l ∧ Places f (lr.set k t) k ∧ Keeps (Of hb mb v) w1 wr

def UpOut (w : World) (hb mb : Nat) (v : Value) (rb : Nat) (l : List Thing) (last : Int) (N i0 : Nat) (e : Ending) (w' : World) : Prop :=
  e = .returned (.tuple #[]) ∧ ∃ (l' : List Thing) (f : Int → Option Nat) (p : Nat), Raw w' hb mb v rb l' f last (N + i0 + 1) ∧ l'.Perm l ∧ PlacesAll f l' ∧ p < l'.length ∧ at_ l' p = at_ l i0 ∧ AlmostDown l' p ∧ (KidsOk l i0 → Heap l') ∧ Keeps (Of hb mb v) w w'

def Small (l : List Thing) : Prop := ∀ t ∈ l, 0 ≤ t.h ∧ t.h ≤ 1000000000
theorem Small.perm {l l' : List Thing} (h : Small l) (hp : l'.Perm l) : Small l' := fun t ht => h t (hp.mem_iff.1 ht)

theorem set_at {l : List Thing} {k : Nat} (h : k < l.length) : l.set k (at_ l k) = l := by
  rw [at_getElem h]; exact List.set_getElem_self h

theorem UpInv.step {w1 wr w2 : World} {hb mb : Nat} {v : Value} {rb : Nat} {l : List Thing} {last : Int} {N i0 k : Nat} {t : Thing} {lr : List Thing} {f : Int → Option Nat} {N' : Nat}
    (ha : Apart l) (hk : k < l.length) (h0 : 0 < k) (hl : lr.length = l.length) (hN : N' + k ≤ N + i0) (hup : AlmostUp (lr.set k t) k) (hp : (lr.set k t).Perm l) (hpl : Places f (lr.set k t) k) (hkw : Keeps (Of hb mb v) w1 wr)
    (hlt : aheadB t (at_ lr (par k)) = true) (hR : Raw w2 hb mb v rb (lr.set k (at_ lr (par k))) (upd f (at_ lr (par k)).h k) last (N' + 1)) (hk2 : Keeps (Of hb mb v) wr w2) :
    UpInv w1 hb mb v rb l last N i0 t (par k) w2 := by
  have hpk := par_lt h0
  have e1 : at_ (lr.set k t) k = t := at_set_same (by omega) t
  have e2 : at_ (lr.set k t) (par k) = at_ lr (par k) := at_set_other (by omega) t
  have es : swap (lr.set k t) k (par k) = (lr.set k (at_ lr (par k))).set (par k) t := by
    unfold swap
    rw [e1, e2, List.set_set]
  have st := up_step (v := lr.set k t) (i := k) (by rw [List.length_set]; omega) h0 hup (by rw [e1, e2]; exact hlt)
  have pl := places_swap (ha.perm hp) (i := k) (p := par k) (by rw [List.length_set]; omega) (by rw [List.length_set]; omega) (by omega) hpl
  rw [e2] at pl
  refine ⟨lr.set k (at_ lr (par k)), _, N' + 1, by rw [List.length_set]; exact hl, by omega, hR, by rw [← es]; exact st.1, fun _ => by rw [← es]; exact st.2, ?_, by rw [← es]; exact pl, hkw.trans hk2 fun _ hx => Or.inl hx⟩
  rw [← es]
  exact (swap_perm (by rw [List.length_set]; omega) (by rw [List.length_set]; omega)).trans hp

theorem UpInv.done {w w1 wr w2 : World} {hb mb : Nat} {v : Value} {rb : Nat} {l : List Thing} {last : Int} {N i0 k : Nat} {t : Thing} {lr : List Thing} {f : Int → Option Nat} {N' : Nat} (ht : t = at_ l i0)
    (ha : Apart l) (hk : k < l.length) (hl : lr.length = l.length) (hN : N' + k ≤ N + i0) (hup : AlmostUp (lr.set k t) k) (hkids : KidsOk l i0 → KidsOk (lr.set k t) k) (hp : (lr.set k t).Perm l) (hpl : Places f (lr.set k t) k) (hw1 : Keeps (Of hb mb v) w w1) (hkw : Keeps (Of hb mb v) w1 wr)
    (he : 0 < k → aheadB t (at_ lr (par k)) = false) (hR : Raw w2 hb mb v rb (lr.set k t) (upd f t.h k) last (N' + 1)) (hk2 : Keeps (Of hb mb v) wr w2) :
    UpOut w hb mb v rb l last N i0 (.returned (.tuple #[])) w2 := by
  have e1 : at_ (lr.set k t) k = t := at_set_same (by omega) t
  have hd : AlmostDown (lr.set k t) k := up_end hup fun h0 => by
    have := par_lt h0
    rw [e1, at_set_other (by omega)]
    exact he h0
  have pf := places_fill (ha.perm hp) (i := k) (by rw [List.length_set]; omega) hpl
  rw [e1] at pf
  refine ⟨rfl, _, _, k, hR.mono (by omega), hp, pf, by rw [List.length_set]; omega, by rw [e1, ht], hd, fun hq => heap_of_kids hd (hkids hq), (hw1.trans hkw fun _ hx => Or.inl hx).trans hk2 fun _ hx => Or.inl hx⟩

set_option maxRecDepth 100000 in
set_option maxHeartbeats 4000000 in
theorem up_any {w : World} {hb mb : Nat} {v : Value} {rb : Nat} {l : List Thing} {f : Int → Option Nat} {last : Int} {N : Nat} (h : Raw w hb mb v rb l f last N) (i0 : Nat) (hi : i0 < l.length) (hl : l.length ≤ 1000000) (hN : N ≤ 900000000)
    (ha : Apart l) (hs : Small l) (hup : AlmostUp l i0) (hpl : Places f l i0) :
    Calls Try.prog 22 #[.pointer (some ⟨hb, 0, none⟩), .int .i64 i0] w (UpOut w hb mb v rb l last N i0) := by
  obtain ⟨g, cap, hv, hcap⟩ := h.slice (by omega)
  subst hv
  obtain ⟨n, hn⟩ : ∃ n, n = l.length := ⟨_, rfl⟩
  rw [← hn] at h hcap ⊢
  obtain ⟨t, ht⟩ : ∃ t, t = at_ l i0 := ⟨_, rfl⟩
  have HR := Lib.hid h
  have HA := Lib.hid ha
  have HS := Lib.hid hs
  have HUp := Lib.hid hup
  have HPl := Lib.hid hpl
  have HN := Lib.hid hN
  have HL := Lib.hid hl
  have HI := Lib.hid hi
  have HT := Lib.hid ht
  have HNn := Lib.hid hn
  obtain ⟨o0, d0, d1, d2⟩ := h.look hn hi
  rw [← ht] at d0 d1 d2
  have hlt := h.obj.lt
  have hgl := (h.row.lt g rfl).2
  have hiI : (i0 : Int) < (n : Int) := by omega
  have hin : i0 < n := by omega
  have hnI : (n : Int) ≤ 1000000 := by omega
  clear h ha hs hup hpl hN hl hi ht hn
  obtain ⟨td, tw, th⟩ := t
  dsimp only at d0 d1 d2
  go_enter Try.func22, Try.ntmps22
  go_wp2
  have hstart : UpInv (w.alloc (.cells #[.int .u64 td, .int .u64 tw, .int .i64 th] 58)) hb mb (.slice (some ⟨g, 0, none⟩) n cap) rb l last N i0 ⟨td, tw, th⟩ i0 (w.alloc (.cells #[.int .u64 td, .int .u64 tw, .int .i64 th] 58)) := by
    have e : l.set i0 ⟨td, tw, th⟩ = l := by rw [HT.out]; exact set_at HI.out
    exact ⟨l, f, N, rfl, Nat.le_refl _, HR.out.below ((Below.refl _ _).alloc (Nat.le_refl _) _), by rw [e]; exact HUp.out, fun hk => by rw [e]; exact hk, by rw [e], by rw [e]; exact HPl.out, Keeps.refl _ _⟩
  have HSt := Lib.hid hstart
  clear hstart
  go_loopw [1] (fun i wr => ∃ k : Nat, k < n ∧ i = .int .i64 k ∧ Hid (UpInv (w.alloc (.cells #[.int .u64 td, .int .u64 tw, .int .i64 th] 58)) hb mb (.slice (some ⟨g, 0, none⟩) n cap) rb l last N i0 ⟨td, tw, th⟩ k wr)) (fun i _ => (intOf i).toNat)
  case atStart => exact ⟨i0, hin, rfl, HSt⟩
  case round =>
    clear o0 d0 d1 d2
    obtain ⟨k, hk, rfl, HInv⟩ := hrel
    obtain ⟨lr, f', N', r1, r2, r3, r4, r5, r6, r7, r8⟩ := HInv.out
    have hbox : ¬ Of hb mb (.slice (some ⟨g, 0, none⟩) n cap) w.heap.size := fun ho => absurd (HR.out.of_lt ho) (by omega)
    have b0 : wr.cell? ⟨w.heap.size, 0, none⟩ = some (.int .u64 td) := (r8.cell (p := ⟨w.heap.size, 0, none⟩) (by simp) hbox).trans (World.cell?_alloc_at _ _ _ _ rfl)
    have b1 : wr.cell? ⟨w.heap.size, 1, none⟩ = some (.int .u64 tw) := (r8.cell (p := ⟨w.heap.size, 1, none⟩) (by simp) hbox).trans (World.cell?_alloc_at _ _ _ _ rfl)
    have b2 : wr.cell? ⟨w.heap.size, 2, none⟩ = some (.int .i64 th) := (r8.cell (p := ⟨w.heap.size, 2, none⟩) (by simp) hbox).trans (World.cell?_alloc_at _ _ _ _ rfl)
    have hbl : w.heap.size < wr.heap.size := by have := r8.size; simp at this; omega
    by_cases hk0 : k = 0
    · subst hk0
      have H3 := Lib.hid r3
      have hnl : n = lr.length := by rw [r1]; exact HNn.out
      have hR2 : ∀ q, Raw (wr.drewN q) hb mb (.slice (some ⟨g, 0, none⟩) n cap) rb lr f' last N' := fun q => r3.of_blocks fun _ _ => rfl
      rw [hnl] at hR2
      have hts : 0 ≤ th ∧ th ≤ 1000000000 := by
        have := HS.out _ (at_mem HI.out)
        rw [← HT.out] at this
        exact this
      have HLay := Lib.hid (fun q => lay_any (hR2 q) 0 ⟨td, tw, th⟩ (by omega) (by have := HL.out; omega) (by have := HN.out; have := HI.out; have := HL.out; omega) hts)
      unfold tval at HLay
      dsimp only at HLay
      have hz0 : ((0 : Nat) : Int) = 0 := rfl
      rw [hz0] at HLay
      have HDone := Lib.hid (fun q W2 hRaw hK => UpInv.done (w := w) (w1 := w.alloc (.cells #[.int .u64 td, .int .u64 tw, .int .i64 th] 58)) (w2 := W2) (k := 0) (rb := rb) (last := last) HT.out HA.out (by rw [← HNn.out]; exact hk) r1 r2 r4 r5 r6 r7 ((Keeps.refl _ w).alloc _) r8 (fun h => absurd h (by omega)) hRaw (Keeps.trans (Keeps.drewN (Keeps.refl _ wr) q) hK fun _ hx => Or.inl hx))
      rw [← hnl] at HLay
      clear r1 r2 r3 r4 r5 r6 r7 r8 hR2 hts hnl hbox hz0
      go_wp2_with fail
      go_quiet (fail)
      go_wp2_with fail
      refine (HLay.out _).mono ?_
      rintro e w3 ⟨rfl, hR3, hK3⟩
      go_wp2
      go_end0
      exact HDone.out _ w3 hR3 hK3
    · have hpk := par_lt (Nat.pos_of_ne_zero hk0)
      obtain ⟨p, hp⟩ : ∃ p, p = par k := ⟨_, rfl⟩
      have hpv : ((k : Int) - 1) / 2 = p := by rw [hp]; unfold par; omega
      rw [← hp] at hpk
      obtain ⟨o0, c0, c1, c2⟩ := r3.look (i := p) (by rw [r1]; exact HNn.out) (by rw [r1, ← HNn.out]; omega)
      obtain ⟨x, hx⟩ : ∃ x, x = at_ lr p := ⟨_, rfl⟩
      rw [← hx] at c0 c1 c2
      obtain ⟨xd, xw, xh⟩ := x
      dsimp only at c0 c1 c2
      have hk1 : (1 : Int) ≤ (k : Int) := by omega
      have hkn : (k : Int) < (n : Int) := by omega
      have hpn : (p : Int) < (n : Int) := by omega
      obtain ⟨bv, hbv⟩ : ∃ bv, aheadB ⟨td, tw, th⟩ ⟨xd, xw, xh⟩ = bv := ⟨_, rfl⟩
      have HAh := Lib.hid (fun W => ahead_any ⟨td, tw, th⟩ ⟨xd, xw, xh⟩ W)
      rw [hbv] at HAh
      unfold tval at HAh
      dsimp only at HAh
      have HBv := Lib.hid hbv
      clear hbv
      have H1 := Lib.hid r1; have H2 := Lib.hid r2; have H3 := Lib.hid r3; have H4 := Lib.hid r4; have H5 := Lib.hid r5; have H6 := Lib.hid r6; have H7 := Lib.hid r7; have H8 := Lib.hid r8
      clear r1 r2 r3 r4 r5 r6 r7 r8
      have HK0 := Lib.hid hk0
      have HP := Lib.hid hp
      have HX := Lib.hid hx
      have hgr : g < wr.heap.size := by omega
      have hhr : hb < wr.heap.size := by omega
      have hkN : 0 < k := Nat.pos_of_ne_zero hk0
      have hkd : decide (0 < k) = true := by simpa using hkN
      have hkd2 : decide ((0 : Int) < (k : Int)) = true := by simp; omega
      have hw1 : IntKind.i64.wrap ((k : Int) - 1) = (k : Int) - 1 := by rw [IntKind.wrap_i64]; omega
      have hw2 : ((k : Int) - 1).tdiv 2 = (p : Int) := by rw [Int.tdiv_eq_ediv_of_nonneg (by omega)]; exact hpv
      have hw3 : IntKind.i64.wrap (p : Int) = (p : Int) := by rw [IntKind.wrap_i64]; omega
      clear hk0 hp hx hbox
      cases bv with
      | true =>
        go_wp2_with fail
        go_region_held3 (fun w' => w'.cell? ⟨w.heap.size, 0, none⟩ = some (.int .u64 td) ∧ w'.cell? ⟨w.heap.size, 1, none⟩ = some (.int .u64 tw) ∧ w'.cell? ⟨w.heap.size, 2, none⟩ = some (.int .i64 th) ∧ w'.cell? ⟨hb, 0, none⟩ = some (.slice (some ⟨g, 0, none⟩) n cap) ∧ w'.cell? ⟨g, p * 3, none⟩ = some (.int .u64 xd) ∧ w'.cell? ⟨g, p * 3 + 1, none⟩ = some (.int .u64 xw) ∧ w'.cell? ⟨g, p * 3 + 2, none⟩ = some (.int .i64 xh)) (first | exact ⟨q0, q1, q2, q3, q4, q5, q6⟩ | go_keep)
          (first | (go_at_call 27; refine (HAh.out _).mono ?_; rintro e w2 ⟨rfl, hb2⟩; have q0 := (hb2.cell (p := ⟨w.heap.size, 0, none⟩) hbl).trans b0; have q1 := (hb2.cell (p := ⟨w.heap.size, 1, none⟩) hbl).trans b1; have q2 := (hb2.cell (p := ⟨w.heap.size, 2, none⟩) hbl).trans b2; have q3 := (hb2.cell (p := ⟨hb, 0, none⟩) hhr).trans o0; have q4 := (hb2.cell (p := ⟨g, p * 3, none⟩) hgr).trans c0; have q5 := (hb2.cell (p := ⟨g, p * 3 + 1, none⟩) hgr).trans c1; have q6 := (hb2.cell (p := ⟨g, p * 3 + 2, none⟩) hgr).trans c2))
        have r1 := H1.out; have r2 := H2.out; have r3 := H3.out; have r4 := H4.out; have r6 := H6.out; have r7 := H7.out; have r8 := H8.out
        have hb3 : Below wr.heap.size wr w2 := ((Below.refl _ wr).drew).trans hb2
        have hR2 := r3.below hb3
        have hpl2 : p < lr.length := by rw [r1, ← HNn.out]; omega
        have hnl : n = lr.length := by rw [r1]; exact HNn.out
        rw [hnl] at hR2
        have hxs : 0 ≤ xh ∧ xh ≤ 1000000000 := by
          have h1 : (⟨xd, xw, xh⟩ : Thing) ∈ lr.set k ⟨td, tw, th⟩ := by
            rw [HX.out, ← at_set_other (v := lr) (i := k) (j := p) (by omega) ⟨td, tw, th⟩]
            exact at_mem (by rw [List.length_set]; exact hpl2)
          exact HS.out _ (r6.mem_iff.1 h1)
        have HLay := Lib.hid (lay_any hR2 k ⟨xd, xw, xh⟩ (by omega) (by have := HL.out; omega) (by have := HN.out; have := HI.out; have := HL.out; omega) hxs)
        unfold tval at HLay
        dsimp only at HLay
        have HStep := Lib.hid (fun W2 hRaw hK => UpInv.step (w1 := w.alloc (.cells #[.int .u64 td, .int .u64 tw, .int .i64 th] 58)) (w2 := W2) (k := k) (rb := rb) (last := last) HA.out (by rw [← HNn.out]; exact hk) hkN r1 r2 r4 r6 r7 r8 (by rw [← HP.out, ← HX.out]; exact HBv.out) hRaw (Keeps.trans (Keeps.ofBelow hb3) hK fun _ hx => Or.inl hx))
        rw [← HP.out, ← HX.out] at HStep
        rw [← hnl] at HLay
        have hb2n : w2.heap.size = w2.heap.size := rfl
        clear r1 r2 r3 r4 r6 r7 r8 hR2 hxs hb3 hnl hb2n
        go_wp2_with fail
        refine HLay.out.mono ?_
        rintro e w3 ⟨rfl, hR3, hK3⟩
        go_wp2
        go_roundw
        case rel => exact ⟨p, by omega, by go_num, Lib.hid (HStep.out w3 hR3 hK3)⟩
        case measure => simp [intOf]; omega
      | false =>
        go_wp2_with fail
        go_region_held3 (fun w' => w'.cell? ⟨w.heap.size, 0, none⟩ = some (.int .u64 td) ∧ w'.cell? ⟨w.heap.size, 1, none⟩ = some (.int .u64 tw) ∧ w'.cell? ⟨w.heap.size, 2, none⟩ = some (.int .i64 th) ∧ w'.cell? ⟨hb, 0, none⟩ = some (.slice (some ⟨g, 0, none⟩) n cap) ∧ w'.cell? ⟨g, p * 3, none⟩ = some (.int .u64 xd) ∧ w'.cell? ⟨g, p * 3 + 1, none⟩ = some (.int .u64 xw) ∧ w'.cell? ⟨g, p * 3 + 2, none⟩ = some (.int .i64 xh)) (first | exact ⟨q0, q1, q2, q3, q4, q5, q6⟩ | go_keep)
          (first | (go_at_call 27; refine (HAh.out _).mono ?_; rintro e w2 ⟨rfl, hb2⟩; have q0 := (hb2.cell (p := ⟨w.heap.size, 0, none⟩) hbl).trans b0; have q1 := (hb2.cell (p := ⟨w.heap.size, 1, none⟩) hbl).trans b1; have q2 := (hb2.cell (p := ⟨w.heap.size, 2, none⟩) hbl).trans b2; have q3 := (hb2.cell (p := ⟨hb, 0, none⟩) hhr).trans o0; have q4 := (hb2.cell (p := ⟨g, p * 3, none⟩) hgr).trans c0; have q5 := (hb2.cell (p := ⟨g, p * 3 + 1, none⟩) hgr).trans c1; have q6 := (hb2.cell (p := ⟨g, p * 3 + 2, none⟩) hgr).trans c2))
        have r1 := H1.out; have r2 := H2.out; have r3 := H3.out; have r4 := H4.out; have r5 := H5.out; have r6 := H6.out; have r7 := H7.out; have r8 := H8.out
        have hb3 : Below wr.heap.size wr w2 := ((Below.refl _ wr).drew).trans hb2
        have hR2 := r3.below hb3
        have hnl : n = lr.length := by rw [r1]; exact HNn.out
        rw [hnl] at hR2
        have hts : 0 ≤ th ∧ th ≤ 1000000000 := by
          have := HS.out _ (at_mem HI.out)
          rw [← HT.out] at this
          exact this
        have HLay := Lib.hid (lay_any hR2 k ⟨td, tw, th⟩ (by omega) (by have := HL.out; omega) (by have := HN.out; have := HI.out; have := HL.out; omega) hts)
        unfold tval at HLay
        dsimp only at HLay
        have HDone := Lib.hid (fun W2 hRaw hK => UpInv.done (w := w) (w1 := w.alloc (.cells #[.int .u64 td, .int .u64 tw, .int .i64 th] 58)) (w2 := W2) (k := k) (rb := rb) (last := last) HT.out HA.out (by rw [← HNn.out]; exact hk) r1 r2 r4 r5 r6 r7 ((Keeps.refl _ w).alloc _) r8 (fun _ => by rw [← HP.out, ← HX.out]; exact HBv.out) hRaw (Keeps.trans (Keeps.ofBelow hb3) hK fun _ hx => Or.inl hx))
        rw [← hnl] at HLay
        clear r1 r2 r3 r4 r5 r6 r7 r8 hR2 hts hb3 hnl
        go_wp2_with fail
        refine HLay.out.mono ?_
        rintro e w3 ⟨rfl, hR3, hK3⟩
        go_wp2
        go_end0
        exact HDone.out w3 hR3 hK3
end Go.Proofs.Ytphblfgafljelaa.Hp
