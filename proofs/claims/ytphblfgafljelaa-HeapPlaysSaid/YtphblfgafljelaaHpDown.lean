/- heap.down: a thing brought down as far as it goes (printed by gen_down.py). -/
import Derived.Test.YtphblfgafljelaaHpUp
namespace Go.Proofs.Ytphblfgafljelaa.Hp
open Go.RowKit Go.Maps

def DownInv (w1 : World) (hb mb : Nat) (v : Value) (rb : Nat) (l : List Thing) (last : Int) (N : Nat) (t : Thing) (k : Nat) (wr : World) : Prop :=
  ∃ (lr : List Thing) (f : Int → Option Nat) (N' : Nat), lr.length = l.length ∧ N' ≤ N + k ∧ Raw wr hb mb v rb lr f last N' ∧ AlmostDown (lr.set k t) k ∧ (lr.set k t).Perm l ∧ Places f (lr.set k t) k ∧ Keeps (Of hb mb v) w1 wr

def DownOut (w : World) (hb mb : Nat) (v : Value) (rb : Nat) (l : List Thing) (last : Int) (N : Nat) (e : Ending) (w' : World) : Prop :=
  e = .returned (.tuple #[]) ∧ ∃ (l' : List Thing) (f : Int → Option Nat), Raw w' hb mb v rb l' f last (N + l.length + 1) ∧ l'.Perm l ∧ PlacesAll f l' ∧ Heap l' ∧ Keeps (Of hb mb v) w w'

theorem DownInv.step {w1 wr w2 : World} {hb mb : Nat} {v : Value} {rb : Nat} {l : List Thing} {last : Int} {N k c : Nat} {t : Thing} {lr : List Thing} {f : Int → Option Nat} {N' : Nat}
    (ha : Apart l) (hc : c < l.length) (h0 : 0 < c) (hpc : par c = k) (hl : lr.length = l.length) (hN : N' ≤ N + k) (hdn : AlmostDown (lr.set k t) k) (hp : (lr.set k t).Perm l) (hpl : Places f (lr.set k t) k) (hkw : Keeps (Of hb mb v) w1 wr)
    (hlt : aheadB (at_ lr c) t = true) (hmin : ∀ j, 0 < j → j < (lr.set k t).length → par j = k → le (at_ (lr.set k t) c) (at_ (lr.set k t) j))
    (hR : Raw w2 hb mb v rb (lr.set k (at_ lr c)) (upd f (at_ lr c).h k) last (N' + 1)) (hk2 : Keeps (Of hb mb v) wr w2) :
    DownInv w1 hb mb v rb l last N t c w2 := by
  have hpk := par_lt h0
  have e1 : at_ (lr.set k t) k = t := at_set_same (by omega) t
  have e2 : at_ (lr.set k t) c = at_ lr c := at_set_other (by omega) t
  have es : swap (lr.set k t) k c = (lr.set k (at_ lr c)).set c t := by
    unfold swap
    rw [e1, e2, List.set_set]
  have st := down_step (v := lr.set k t) (p := k) (k := c) (by rw [List.length_set]; omega) hpc h0 hdn (by rw [e1, e2]; exact hlt) hmin
  have pl := places_swap (ha.perm hp) (i := k) (p := c) (by rw [List.length_set]; omega) (by rw [List.length_set]; omega) (by omega) hpl
  rw [e2] at pl
  refine ⟨lr.set k (at_ lr c), _, N' + 1, by rw [List.length_set]; exact hl, by omega, hR, by rw [← es]; exact st, ?_, by rw [← es]; exact pl, hkw.trans hk2 fun _ hx => Or.inl hx⟩
  rw [← es]
  exact (swap_perm (by rw [List.length_set]; omega) (by rw [List.length_set]; omega)).trans hp

theorem DownInv.done {w w1 wr w2 : World} {hb mb : Nat} {v : Value} {rb : Nat} {l : List Thing} {last : Int} {N k : Nat} {t : Thing} {lr : List Thing} {f : Int → Option Nat} {N' : Nat}
    (ha : Apart l) (hk : k < l.length) (hl : lr.length = l.length) (hN : N' ≤ N + k) (hp : (lr.set k t).Perm l) (hpl : Places f (lr.set k t) k) (hw1 : Keeps (Of hb mb v) w w1) (hkw : Keeps (Of hb mb v) w1 wr)
    (hh : Heap (lr.set k t)) (hR : Raw w2 hb mb v rb (lr.set k t) (upd f t.h k) last (N' + 1)) (hk2 : Keeps (Of hb mb v) wr w2) :
    DownOut w hb mb v rb l last N (.returned (.tuple #[])) w2 := by
  have e1 : at_ (lr.set k t) k = t := at_set_same (by omega) t
  have pf := places_fill (ha.perm hp) (i := k) (by rw [List.length_set]; omega) hpl
  rw [e1] at pf
  exact ⟨rfl, _, _, hR.mono (by omega), hp, pf, hh, (hw1.trans hkw fun _ hx => Or.inl hx).trans hk2 fun _ hx => Or.inl hx⟩

set_option maxRecDepth 100000 in
set_option maxHeartbeats 8000000 in
theorem down_any {w : World} {hb mb : Nat} {v : Value} {rb : Nat} {l : List Thing} {f : Int → Option Nat} {last : Int} {N : Nat} (h : Raw w hb mb v rb l f last N) (i0 : Nat) (hi : i0 < l.length) (hl : l.length ≤ 1000000) (hN : N ≤ 900000000)
    (ha : Apart l) (hs : Small l) (hdn : AlmostDown l i0) (hpl : Places f l i0) :
    Calls Try.prog 25 #[.pointer (some ⟨hb, 0, none⟩), .int .i64 i0] w (DownOut w hb mb v rb l last (N + i0)) := by
  obtain ⟨g, cap, hv, hcap⟩ := h.slice (by omega)
  subst hv
  obtain ⟨n, hn⟩ : ∃ n, n = l.length := ⟨_, rfl⟩
  rw [← hn] at h hcap ⊢
  obtain ⟨t, ht⟩ : ∃ t, t = at_ l i0 := ⟨_, rfl⟩
  have HR := Lib.hid h
  have HA := Lib.hid ha
  have HS := Lib.hid hs
  have HDn := Lib.hid hdn
  have HPl := Lib.hid hpl
  have HN := Lib.hid hN
  have HL := Lib.hid hl
  have HI := Lib.hid hi
  have HT := Lib.hid ht
  have HNn := Lib.hid hn
  obtain ⟨o0, d0, d1, d2⟩ := h.look hn hi
  rw [← ht] at d0 d1 d2
  have hlt := h.obj.lt
  have hgl := (h.row.lt g rfl).2
  have hiI : (i0 : Int) < (n : Int) := by omega
  have hin : i0 < n := by omega
  have hnI : (n : Int) ≤ 1000000 := by omega
  clear h ha hs hdn hpl hN hl hi ht hn
  obtain ⟨td, tw, th⟩ := t
  dsimp only at d0 d1 d2
  have hts : 0 ≤ th ∧ th ≤ 1000000000 := by
    have := HS.out _ (at_mem HI.out)
    rw [← HT.out] at this
    exact this
  have HTs := Lib.hid hts
  clear hts
  go_enter Try.func25, Try.ntmps25
  go_wp2
  have hstart : DownInv (w.alloc (.cells #[.int .u64 td, .int .u64 tw, .int .i64 th] 58)) hb mb (.slice (some ⟨g, 0, none⟩) n cap) rb l last (N + i0) ⟨td, tw, th⟩ i0 (w.alloc (.cells #[.int .u64 td, .int .u64 tw, .int .i64 th] 58)) := by
    have e : l.set i0 ⟨td, tw, th⟩ = l := by rw [HT.out]; exact set_at HI.out
    exact ⟨l, f, N, rfl, by omega, HR.out.below ((Below.refl _ _).alloc (Nat.le_refl _) _), by rw [e]; exact HDn.out, by rw [e], by rw [e]; exact HPl.out, Keeps.refl _ _⟩
  have HSt := Lib.hid hstart
  clear hstart
  go_loopw [1] (fun i wr => ∃ k : Nat, k < n ∧ i = .int .i64 k ∧ Hid (DownInv (w.alloc (.cells #[.int .u64 td, .int .u64 tw, .int .i64 th] 58)) hb mb (.slice (some ⟨g, 0, none⟩) n cap) rb l last (N + i0) ⟨td, tw, th⟩ k wr)) (fun i _ => n - (intOf i).toNat)
  case atStart => exact ⟨i0, hin, rfl, HSt⟩
  case round =>
    clear o0 d0 d1 d2
    obtain ⟨k, hk, rfl, HInv⟩ := hrel
    obtain ⟨lr, f', N', r1, r2, r3, r4, r6, r7, r8⟩ := HInv.out
    have hbox : ¬ Of hb mb (.slice (some ⟨g, 0, none⟩) n cap) w.heap.size := fun ho => absurd (HR.out.of_lt ho) (by omega)
    have b0 : wr.cell? ⟨w.heap.size, 0, none⟩ = some (.int .u64 td) := (r8.cell (p := ⟨w.heap.size, 0, none⟩) (by simp) hbox).trans (World.cell?_alloc_at _ _ _ _ rfl)
    have b1 : wr.cell? ⟨w.heap.size, 1, none⟩ = some (.int .u64 tw) := (r8.cell (p := ⟨w.heap.size, 1, none⟩) (by simp) hbox).trans (World.cell?_alloc_at _ _ _ _ rfl)
    have b2 : wr.cell? ⟨w.heap.size, 2, none⟩ = some (.int .i64 th) := (r8.cell (p := ⟨w.heap.size, 2, none⟩) (by simp) hbox).trans (World.cell?_alloc_at _ _ _ _ rfl)
    have hbl : w.heap.size < wr.heap.size := by have := r8.size; simp at this; omega
    have hgr : g < wr.heap.size := by omega
    have hhr : hb < wr.heap.size := by omega
    have hnl : n = lr.length := by rw [r1]; exact HNn.out
    have o0 := r3.obj.cell.1
    have H1 := Lib.hid r1; have H2 := Lib.hid r2; have H3 := Lib.hid r3; have H4 := Lib.hid r4; have H6 := Lib.hid r6; have H7 := Lib.hid r7; have H8 := Lib.hid r8
    have HNl := Lib.hid hnl
    have hkn : (k : Int) < (n : Int) := by omega
    obtain ⟨c1, hc1⟩ : ∃ c1, c1 = 2 * k + 1 := ⟨_, rfl⟩
    obtain ⟨c2, hc2⟩ : ∃ c2, c2 = 2 * k + 2 := ⟨_, rfl⟩
    have hq1 : 2 * (k : Int) + 1 = (c1 : Int) := by omega
    have hq2 : (c1 : Int) + 1 = (c2 : Int) := by omega
    have hw2 : IntKind.i64.wrap (c2 : Int) = (c2 : Int) := by rw [IntKind.wrap_i64]; omega
    have HC1 := Lib.hid hc1
    have HC2 := Lib.hid hc2
    have hkc1 : k < c1 := by omega
    have hkc2 : k < c2 := by omega
    clear r1 r2 r3 r4 r6 r7 r8 hbox hnl hc1 hc2
    by_cases hlt1 : c1 < n
    · have hlt1I : (c1 : Int) < (n : Int) := by omega
      obtain ⟨_, y0, y1, y2⟩ := H3.out.look (i := c1) HNl.out (by rw [← HNl.out]; exact hlt1)
      obtain ⟨y, hy⟩ : ∃ y, y = at_ lr c1 := ⟨_, rfl⟩
      rw [← hy] at y0 y1 y2
      obtain ⟨yd, yw, yh⟩ := y
      dsimp only at y0 y1 y2
      have HY := Lib.hid hy
      clear hy
      by_cases hlt2 : c2 < n
      · have hlt2I : (c2 : Int) < (n : Int) := by omega
        obtain ⟨_, z0, z1, z2⟩ := H3.out.look (i := c2) HNl.out (by rw [← HNl.out]; exact hlt2)
        obtain ⟨z, hz⟩ : ∃ z, z = at_ lr c2 := ⟨_, rfl⟩
        rw [← hz] at z0 z1 z2
        obtain ⟨zd, zw, zh⟩ := z
        dsimp only at z0 z1 z2
        have HZ := Lib.hid hz
        clear hz
        obtain ⟨bv, hbv⟩ : ∃ bv, aheadB ⟨zd, zw, zh⟩ ⟨yd, yw, yh⟩ = bv := ⟨_, rfl⟩
        have HAh := Lib.hid (fun W => ahead_any ⟨zd, zw, zh⟩ ⟨yd, yw, yh⟩ W)
        rw [hbv] at HAh
        unfold tval at HAh
        dsimp only at HAh
        have HBv := Lib.hid hbv
        clear hbv
        cases bv with
        | true =>
          have hmin : ∀ j, 0 < j → j < (lr.set k ⟨td, tw, th⟩).length → par j = k → le (at_ (lr.set k ⟨td, tw, th⟩) c2) (at_ (lr.set k ⟨td, tw, th⟩) j) := by
            refine min_kid (Or.inr ⟨HC2.out, ?_⟩)
            rw [at_set_other (by omega), at_set_other (by omega), ← HC1.out, ← HC2.out, ← HY.out, ← HZ.out]
            exact HBv.out
          have HMin := Lib.hid hmin
          clear hmin
          go_wp2_with fail
          go_region_held3 (fun w' => w'.cell? ⟨hb, 0, none⟩ = some (.slice (some ⟨g, 0, none⟩) n cap) ∧ w'.cell? ⟨g, c1 * 3, none⟩ = some (.int .u64 yd) ∧ w'.cell? ⟨g, c1 * 3 + 1, none⟩ = some (.int .u64 yw) ∧ w'.cell? ⟨g, c1 * 3 + 2, none⟩ = some (.int .i64 yh) ∧ w'.cell? ⟨g, c2 * 3, none⟩ = some (.int .u64 zd) ∧ w'.cell? ⟨g, c2 * 3 + 1, none⟩ = some (.int .u64 zw) ∧ w'.cell? ⟨g, c2 * 3 + 2, none⟩ = some (.int .i64 zh)) (first | exact ⟨m0, m1, m2, m3, m4, m5, m6⟩ | go_keep)
            (first | (go_at_call 27; refine (HAh.out _).mono ?_; rintro e W ⟨rfl, hb2⟩; have m0 := (hb2.cell (p := ⟨hb, 0, none⟩) hhr).trans o0; have m1 := (hb2.cell (p := ⟨g, c1 * 3, none⟩) hgr).trans y0; have m2 := (hb2.cell (p := ⟨g, c1 * 3 + 1, none⟩) hgr).trans y1; have m3 := (hb2.cell (p := ⟨g, c1 * 3 + 2, none⟩) hgr).trans y2; have m4 := (hb2.cell (p := ⟨g, c2 * 3, none⟩) hgr).trans z0; have m5 := (hb2.cell (p := ⟨g, c2 * 3 + 1, none⟩) hgr).trans z1; have m6 := (hb2.cell (p := ⟨g, c2 * 3 + 2, none⟩) hgr).trans z2))
          have hb3 : Below wr.heap.size wr W := ((Below.refl _ wr).drew).trans hb2
          have HRW : Hid (Raw W hb mb (.slice (some ⟨g, 0, none⟩) n cap) rb lr f' last N') := Lib.hid (H3.out.below hb3)
          have HKW : Hid (Keeps (Of hb mb (.slice (some ⟨g, 0, none⟩) n cap)) wr W) := Lib.hid (Keeps.ofBelow hb3)
          have hzW : wr.heap.size ≤ W.heap.size := hb3.size
          have p0 := (hb3.cell (p := ⟨w.heap.size, 0, none⟩) hbl).trans b0
          have p1 := (hb3.cell (p := ⟨w.heap.size, 1, none⟩) hbl).trans b1
          have p2 := (hb3.cell (p := ⟨w.heap.size, 2, none⟩) hbl).trans b2
          have q0 := m0
          clear hb2 hb3
          have hhW : hb < W.heap.size := by omega
          have hgW : g < W.heap.size := by omega
          have hbW : w.heap.size < W.heap.size := by omega
          obtain ⟨bw, hbw⟩ : ∃ bw, aheadB ⟨zd, zw, zh⟩ ⟨td, tw, th⟩ = bw := ⟨_, rfl⟩
          have HAw := Lib.hid (fun W => ahead_any ⟨zd, zw, zh⟩ ⟨td, tw, th⟩ W)
          rw [hbw] at HAw
          unfold tval at HAw
          dsimp only at HAw
          have HBw := Lib.hid hbw
          clear hbw
          cases bw with
          | true =>
            go_wp2_with fail
            go_region_held3 (fun w' => w'.cell? ⟨hb, 0, none⟩ = some (.slice (some ⟨g, 0, none⟩) n cap) ∧ w'.cell? ⟨g, c2 * 3, none⟩ = some (.int .u64 zd) ∧ w'.cell? ⟨g, c2 * 3 + 1, none⟩ = some (.int .u64 zw) ∧ w'.cell? ⟨g, c2 * 3 + 2, none⟩ = some (.int .i64 zh) ∧ w'.cell? ⟨w.heap.size, 0, none⟩ = some (.int .u64 td) ∧ w'.cell? ⟨w.heap.size, 1, none⟩ = some (.int .u64 tw) ∧ w'.cell? ⟨w.heap.size, 2, none⟩ = some (.int .i64 th)) (first | exact ⟨u0, u1, u2, u3, u4, u5, u6⟩ | go_keep)
              (first | (go_at_call 27; refine (HAw.out _).mono ?_; rintro e W4 ⟨rfl, hb4⟩; have u0 := (hb4.cell (p := ⟨hb, 0, none⟩) hhW).trans q0; have u1 := (hb4.cell (p := ⟨g, c2 * 3, none⟩) hgW).trans m4; have u2 := (hb4.cell (p := ⟨g, c2 * 3 + 1, none⟩) hgW).trans m5; have u3 := (hb4.cell (p := ⟨g, c2 * 3 + 2, none⟩) hgW).trans m6; have u4 := (hb4.cell (p := ⟨w.heap.size, 0, none⟩) hbW).trans p0; have u5 := (hb4.cell (p := ⟨w.heap.size, 1, none⟩) hbW).trans p1; have u6 := (hb4.cell (p := ⟨w.heap.size, 2, none⟩) hbW).trans p2))
            have hb5 : Below W.heap.size W W4 := ((Below.refl _ W).drew).trans hb4
            have hR2 := HRW.out.below hb5
            rw [HNl.out] at hR2
            have hxs : 0 ≤ zh ∧ zh ≤ 1000000000 := by
              have h1 : (⟨zd, zw, zh⟩ : Thing) ∈ lr.set k ⟨td, tw, th⟩ := by
                rw [HZ.out, ← at_set_other (v := lr) (i := k) (j := c2) (by omega) ⟨td, tw, th⟩]
                exact at_mem (by rw [List.length_set, ← HNl.out]; omega)
              exact HS.out _ (H6.out.mem_iff.1 h1)
            have HLay := Lib.hid (lay_any hR2 k ⟨zd, zw, zh⟩ (by rw [← HNl.out]; exact hk) (by have := HL.out; have := H1.out; omega) (by have := HN.out; have := HI.out; have := HL.out; have := H2.out; have := HNn.out; omega) hxs)
            unfold tval at HLay
            dsimp only at HLay
            rw [← HNl.out] at HLay
            have HStep := Lib.hid (fun W2 hRaw hK => DownInv.step (w1 := w.alloc (.cells #[.int .u64 td, .int .u64 tw, .int .i64 th] 58)) (wr := wr) (w2 := W2) (k := k) (c := c2) (rb := rb) (last := last) (N := N + i0) HA.out (by rw [← HNn.out]; omega) (by omega) (by rw [HC2.out]; unfold par; omega) H1.out H2.out H4.out H6.out H7.out H8.out (by rw [← HZ.out]; exact HBw.out) HMin.out hRaw (Keeps.trans (HKW.out.trans (Keeps.ofBelow (X := Of hb mb (.slice (some ⟨g, 0, none⟩) n cap)) hb5) fun _ hx => Or.inl hx) hK fun _ hx => Or.inl hx))
            rw [← HZ.out] at HStep
            clear hR2 hxs hb4 hb5
            go_wp2_with fail
            refine HLay.out.mono ?_
            rintro e w3 ⟨rfl, hR3, hK3⟩
            go_wp2
            go_roundw
            case rel => exact ⟨c2, by omega, by go_num, Lib.hid (HStep.out w3 hR3 hK3)⟩
            case measure => simp [intOf]; omega
          | false =>
            have hh : Heap (lr.set k ⟨td, tw, th⟩) := by
              refine down_stop H4.out ?_ HMin.out
              rw [at_set_other (by omega), at_set_same (by rw [← HNl.out]; exact hk), ← HZ.out]
              exact HBw.out
            go_wp2_with fail
            go_region_held3 (fun w' => w'.cell? ⟨hb, 0, none⟩ = some (.slice (some ⟨g, 0, none⟩) n cap) ∧ w'.cell? ⟨g, c2 * 3, none⟩ = some (.int .u64 zd) ∧ w'.cell? ⟨g, c2 * 3 + 1, none⟩ = some (.int .u64 zw) ∧ w'.cell? ⟨g, c2 * 3 + 2, none⟩ = some (.int .i64 zh) ∧ w'.cell? ⟨w.heap.size, 0, none⟩ = some (.int .u64 td) ∧ w'.cell? ⟨w.heap.size, 1, none⟩ = some (.int .u64 tw) ∧ w'.cell? ⟨w.heap.size, 2, none⟩ = some (.int .i64 th)) (first | exact ⟨u0, u1, u2, u3, u4, u5, u6⟩ | go_keep)
              (first | (go_at_call 27; refine (HAw.out _).mono ?_; rintro e W4 ⟨rfl, hb4⟩; have u0 := (hb4.cell (p := ⟨hb, 0, none⟩) hhW).trans q0; have u1 := (hb4.cell (p := ⟨g, c2 * 3, none⟩) hgW).trans m4; have u2 := (hb4.cell (p := ⟨g, c2 * 3 + 1, none⟩) hgW).trans m5; have u3 := (hb4.cell (p := ⟨g, c2 * 3 + 2, none⟩) hgW).trans m6; have u4 := (hb4.cell (p := ⟨w.heap.size, 0, none⟩) hbW).trans p0; have u5 := (hb4.cell (p := ⟨w.heap.size, 1, none⟩) hbW).trans p1; have u6 := (hb4.cell (p := ⟨w.heap.size, 2, none⟩) hbW).trans p2))
            have hb5 : Below W.heap.size W W4 := ((Below.refl _ W).drew).trans hb4
            have HR4 := Lib.hid (HRW.out.below hb5)
            have HK4 := Lib.hid (HKW.out.trans (Keeps.ofBelow (X := Of hb mb (.slice (some ⟨g, 0, none⟩) n cap)) hb5) fun _ hx => Or.inl hx)
            clear hb4 hb5
            have hR2 := HR4.out
            rw [HNl.out] at hR2
            have HLay := Lib.hid (lay_any hR2 k ⟨td, tw, th⟩ (by rw [← HNl.out]; exact hk) (by have := HL.out; have := H1.out; omega) (by have := HN.out; have := HI.out; have := HL.out; have := H2.out; have := HNn.out; omega) HTs.out)
            unfold tval at HLay
            dsimp only at HLay
            rw [← HNl.out] at HLay
            have HDone := Lib.hid (fun W2 hRaw hK => DownInv.done (w := w) (w1 := w.alloc (.cells #[.int .u64 td, .int .u64 tw, .int .i64 th] 58)) (wr := wr) (w2 := W2) (k := k) (rb := rb) (last := last) (N := N + i0) HA.out (by rw [← HNn.out]; exact hk) H1.out H2.out H6.out H7.out ((Keeps.refl _ w).alloc _) H8.out hh hRaw (Keeps.trans (HK4.out) hK fun _ hx => Or.inl hx))
            clear hR2 hh
            go_wp2_with fail
            refine HLay.out.mono ?_
            rintro e w3 ⟨rfl, hR3, hK3⟩
            go_wp2
            go_end0
            exact HDone.out w3 hR3 hK3
        | false =>
          have hmin : ∀ j, 0 < j → j < (lr.set k ⟨td, tw, th⟩).length → par j = k → le (at_ (lr.set k ⟨td, tw, th⟩) c1) (at_ (lr.set k ⟨td, tw, th⟩) j) := by
            refine min_kid (Or.inl ⟨HC1.out, fun _ => ?_⟩)
            rw [at_set_other (by omega), at_set_other (by omega), ← HC1.out, ← HC2.out, ← HY.out, ← HZ.out]
            exact HBv.out
          have HMin := Lib.hid hmin
          clear hmin
          go_wp2_with fail
          go_region_held3 (fun w' => w'.cell? ⟨hb, 0, none⟩ = some (.slice (some ⟨g, 0, none⟩) n cap) ∧ w'.cell? ⟨g, c1 * 3, none⟩ = some (.int .u64 yd) ∧ w'.cell? ⟨g, c1 * 3 + 1, none⟩ = some (.int .u64 yw) ∧ w'.cell? ⟨g, c1 * 3 + 2, none⟩ = some (.int .i64 yh) ∧ w'.cell? ⟨g, c2 * 3, none⟩ = some (.int .u64 zd) ∧ w'.cell? ⟨g, c2 * 3 + 1, none⟩ = some (.int .u64 zw) ∧ w'.cell? ⟨g, c2 * 3 + 2, none⟩ = some (.int .i64 zh)) (first | exact ⟨m0, m1, m2, m3, m4, m5, m6⟩ | go_keep)
            (first | (go_at_call 27; refine (HAh.out _).mono ?_; rintro e W ⟨rfl, hb2⟩; have m0 := (hb2.cell (p := ⟨hb, 0, none⟩) hhr).trans o0; have m1 := (hb2.cell (p := ⟨g, c1 * 3, none⟩) hgr).trans y0; have m2 := (hb2.cell (p := ⟨g, c1 * 3 + 1, none⟩) hgr).trans y1; have m3 := (hb2.cell (p := ⟨g, c1 * 3 + 2, none⟩) hgr).trans y2; have m4 := (hb2.cell (p := ⟨g, c2 * 3, none⟩) hgr).trans z0; have m5 := (hb2.cell (p := ⟨g, c2 * 3 + 1, none⟩) hgr).trans z1; have m6 := (hb2.cell (p := ⟨g, c2 * 3 + 2, none⟩) hgr).trans z2))
          have hb3 : Below wr.heap.size wr W := ((Below.refl _ wr).drew).trans hb2
          have HRW : Hid (Raw W hb mb (.slice (some ⟨g, 0, none⟩) n cap) rb lr f' last N') := Lib.hid (H3.out.below hb3)
          have HKW : Hid (Keeps (Of hb mb (.slice (some ⟨g, 0, none⟩) n cap)) wr W) := Lib.hid (Keeps.ofBelow hb3)
          have hzW : wr.heap.size ≤ W.heap.size := hb3.size
          have p0 := (hb3.cell (p := ⟨w.heap.size, 0, none⟩) hbl).trans b0
          have p1 := (hb3.cell (p := ⟨w.heap.size, 1, none⟩) hbl).trans b1
          have p2 := (hb3.cell (p := ⟨w.heap.size, 2, none⟩) hbl).trans b2
          have q0 := m0
          clear hb2 hb3
          have hhW : hb < W.heap.size := by omega
          have hgW : g < W.heap.size := by omega
          have hbW : w.heap.size < W.heap.size := by omega
          obtain ⟨bw, hbw⟩ : ∃ bw, aheadB ⟨yd, yw, yh⟩ ⟨td, tw, th⟩ = bw := ⟨_, rfl⟩
          have HAw := Lib.hid (fun W => ahead_any ⟨yd, yw, yh⟩ ⟨td, tw, th⟩ W)
          rw [hbw] at HAw
          unfold tval at HAw
          dsimp only at HAw
          have HBw := Lib.hid hbw
          clear hbw
          cases bw with
          | true =>
            go_wp2_with fail
            go_region_held3 (fun w' => w'.cell? ⟨hb, 0, none⟩ = some (.slice (some ⟨g, 0, none⟩) n cap) ∧ w'.cell? ⟨g, c1 * 3, none⟩ = some (.int .u64 yd) ∧ w'.cell? ⟨g, c1 * 3 + 1, none⟩ = some (.int .u64 yw) ∧ w'.cell? ⟨g, c1 * 3 + 2, none⟩ = some (.int .i64 yh) ∧ w'.cell? ⟨w.heap.size, 0, none⟩ = some (.int .u64 td) ∧ w'.cell? ⟨w.heap.size, 1, none⟩ = some (.int .u64 tw) ∧ w'.cell? ⟨w.heap.size, 2, none⟩ = some (.int .i64 th)) (first | exact ⟨u0, u1, u2, u3, u4, u5, u6⟩ | go_keep)
              (first | (go_at_call 27; refine (HAw.out _).mono ?_; rintro e W4 ⟨rfl, hb4⟩; have u0 := (hb4.cell (p := ⟨hb, 0, none⟩) hhW).trans q0; have u1 := (hb4.cell (p := ⟨g, c1 * 3, none⟩) hgW).trans m1; have u2 := (hb4.cell (p := ⟨g, c1 * 3 + 1, none⟩) hgW).trans m2; have u3 := (hb4.cell (p := ⟨g, c1 * 3 + 2, none⟩) hgW).trans m3; have u4 := (hb4.cell (p := ⟨w.heap.size, 0, none⟩) hbW).trans p0; have u5 := (hb4.cell (p := ⟨w.heap.size, 1, none⟩) hbW).trans p1; have u6 := (hb4.cell (p := ⟨w.heap.size, 2, none⟩) hbW).trans p2))
            have hb5 : Below W.heap.size W W4 := ((Below.refl _ W).drew).trans hb4
            have hR2 := HRW.out.below hb5
            rw [HNl.out] at hR2
            have hxs : 0 ≤ yh ∧ yh ≤ 1000000000 := by
              have h1 : (⟨yd, yw, yh⟩ : Thing) ∈ lr.set k ⟨td, tw, th⟩ := by
                rw [HY.out, ← at_set_other (v := lr) (i := k) (j := c1) (by omega) ⟨td, tw, th⟩]
                exact at_mem (by rw [List.length_set, ← HNl.out]; omega)
              exact HS.out _ (H6.out.mem_iff.1 h1)
            have HLay := Lib.hid (lay_any hR2 k ⟨yd, yw, yh⟩ (by rw [← HNl.out]; exact hk) (by have := HL.out; have := H1.out; omega) (by have := HN.out; have := HI.out; have := HL.out; have := H2.out; have := HNn.out; omega) hxs)
            unfold tval at HLay
            dsimp only at HLay
            rw [← HNl.out] at HLay
            have HStep := Lib.hid (fun W2 hRaw hK => DownInv.step (w1 := w.alloc (.cells #[.int .u64 td, .int .u64 tw, .int .i64 th] 58)) (wr := wr) (w2 := W2) (k := k) (c := c1) (rb := rb) (last := last) (N := N + i0) HA.out (by rw [← HNn.out]; omega) (by omega) (by rw [HC1.out]; unfold par; omega) H1.out H2.out H4.out H6.out H7.out H8.out (by rw [← HY.out]; exact HBw.out) HMin.out hRaw (Keeps.trans (HKW.out.trans (Keeps.ofBelow (X := Of hb mb (.slice (some ⟨g, 0, none⟩) n cap)) hb5) fun _ hx => Or.inl hx) hK fun _ hx => Or.inl hx))
            rw [← HY.out] at HStep
            clear hR2 hxs hb4 hb5
            go_wp2_with fail
            refine HLay.out.mono ?_
            rintro e w3 ⟨rfl, hR3, hK3⟩
            go_wp2
            go_roundw
            case rel => exact ⟨c1, by omega, by go_num, Lib.hid (HStep.out w3 hR3 hK3)⟩
            case measure => simp [intOf]; omega
          | false =>
            have hh : Heap (lr.set k ⟨td, tw, th⟩) := by
              refine down_stop H4.out ?_ HMin.out
              rw [at_set_other (by omega), at_set_same (by rw [← HNl.out]; exact hk), ← HY.out]
              exact HBw.out
            go_wp2_with fail
            go_region_held3 (fun w' => w'.cell? ⟨hb, 0, none⟩ = some (.slice (some ⟨g, 0, none⟩) n cap) ∧ w'.cell? ⟨g, c1 * 3, none⟩ = some (.int .u64 yd) ∧ w'.cell? ⟨g, c1 * 3 + 1, none⟩ = some (.int .u64 yw) ∧ w'.cell? ⟨g, c1 * 3 + 2, none⟩ = some (.int .i64 yh) ∧ w'.cell? ⟨w.heap.size, 0, none⟩ = some (.int .u64 td) ∧ w'.cell? ⟨w.heap.size, 1, none⟩ = some (.int .u64 tw) ∧ w'.cell? ⟨w.heap.size, 2, none⟩ = some (.int .i64 th)) (first | exact ⟨u0, u1, u2, u3, u4, u5, u6⟩ | go_keep)
              (first | (go_at_call 27; refine (HAw.out _).mono ?_; rintro e W4 ⟨rfl, hb4⟩; have u0 := (hb4.cell (p := ⟨hb, 0, none⟩) hhW).trans q0; have u1 := (hb4.cell (p := ⟨g, c1 * 3, none⟩) hgW).trans m1; have u2 := (hb4.cell (p := ⟨g, c1 * 3 + 1, none⟩) hgW).trans m2; have u3 := (hb4.cell (p := ⟨g, c1 * 3 + 2, none⟩) hgW).trans m3; have u4 := (hb4.cell (p := ⟨w.heap.size, 0, none⟩) hbW).trans p0; have u5 := (hb4.cell (p := ⟨w.heap.size, 1, none⟩) hbW).trans p1; have u6 := (hb4.cell (p := ⟨w.heap.size, 2, none⟩) hbW).trans p2))
            have hb5 : Below W.heap.size W W4 := ((Below.refl _ W).drew).trans hb4
            have HR4 := Lib.hid (HRW.out.below hb5)
            have HK4 := Lib.hid (HKW.out.trans (Keeps.ofBelow (X := Of hb mb (.slice (some ⟨g, 0, none⟩) n cap)) hb5) fun _ hx => Or.inl hx)
            clear hb4 hb5
            have hR2 := HR4.out
            rw [HNl.out] at hR2
            have HLay := Lib.hid (lay_any hR2 k ⟨td, tw, th⟩ (by rw [← HNl.out]; exact hk) (by have := HL.out; have := H1.out; omega) (by have := HN.out; have := HI.out; have := HL.out; have := H2.out; have := HNn.out; omega) HTs.out)
            unfold tval at HLay
            dsimp only at HLay
            rw [← HNl.out] at HLay
            have HDone := Lib.hid (fun W2 hRaw hK => DownInv.done (w := w) (w1 := w.alloc (.cells #[.int .u64 td, .int .u64 tw, .int .i64 th] 58)) (wr := wr) (w2 := W2) (k := k) (rb := rb) (last := last) (N := N + i0) HA.out (by rw [← HNn.out]; exact hk) H1.out H2.out H6.out H7.out ((Keeps.refl _ w).alloc _) H8.out hh hRaw (Keeps.trans (HK4.out) hK fun _ hx => Or.inl hx))
            clear hR2 hh
            go_wp2_with fail
            refine HLay.out.mono ?_
            rintro e w3 ⟨rfl, hR3, hK3⟩
            go_wp2
            go_end0
            exact HDone.out w3 hR3 hK3
      · have hlt2d : decide (c2 < n) = false := by simpa using hlt2
        have hlt2e : decide ((c2 : Int) < (n : Int)) = false := by simp; omega
        have hmin : ∀ j, 0 < j → j < (lr.set k ⟨td, tw, th⟩).length → par j = k → le (at_ (lr.set k ⟨td, tw, th⟩) c1) (at_ (lr.set k ⟨td, tw, th⟩) j) :=
          min_kid (Or.inl ⟨HC1.out, fun h => by rw [List.length_set, ← HNl.out, ← HC2.out] at h; exact absurd h hlt2⟩)
        have HMin := Lib.hid hmin
        clear hmin
        go_wp2_with fail
        go_quiet (fail)
        have HRW : Hid (Raw (wr.drewN nq) hb mb (.slice (some ⟨g, 0, none⟩) n cap) rb lr f' last N') := Lib.hid (H3.out.of_blocks fun _ _ => rfl)
        have HKW : Hid (Keeps (Of hb mb (.slice (some ⟨g, 0, none⟩) n cap)) wr (wr.drewN nq)) := Lib.hid ((Keeps.refl _ wr).drewN nq)
        have q0 : (wr.drewN nq).cell? ⟨hb, 0, none⟩ = some (.slice (some ⟨g, 0, none⟩) n cap) := o0
        have p0 : (wr.drewN nq).cell? ⟨w.heap.size, 0, none⟩ = some (.int .u64 td) := b0
        have p1 : (wr.drewN nq).cell? ⟨w.heap.size, 1, none⟩ = some (.int .u64 tw) := b1
        have p2 : (wr.drewN nq).cell? ⟨w.heap.size, 2, none⟩ = some (.int .i64 th) := b2
        have q1 : (wr.drewN nq).cell? ⟨g, c1 * 3, none⟩ = some (.int .u64 yd) := y0
        have q2 : (wr.drewN nq).cell? ⟨g, c1 * 3 + 1, none⟩ = some (.int .u64 yw) := y1
        have q3 : (wr.drewN nq).cell? ⟨g, c1 * 3 + 2, none⟩ = some (.int .i64 yh) := y2
        have hzW : wr.heap.size ≤ (wr.drewN nq).heap.size := Nat.le_refl _
        generalize wr.drewN nq = W at HRW HKW q0 q1 q2 q3 p0 p1 p2 hzW ⊢
        have hhW : hb < W.heap.size := by omega
        have hgW : g < W.heap.size := by omega
        have hbW : w.heap.size < W.heap.size := by omega
        obtain ⟨bw, hbw⟩ : ∃ bw, aheadB ⟨yd, yw, yh⟩ ⟨td, tw, th⟩ = bw := ⟨_, rfl⟩
        have HAw := Lib.hid (fun W => ahead_any ⟨yd, yw, yh⟩ ⟨td, tw, th⟩ W)
        rw [hbw] at HAw
        unfold tval at HAw
        dsimp only at HAw
        have HBw := Lib.hid hbw
        clear hbw
        cases bw with
        | true =>
          go_wp2_with fail
          go_region_held3 (fun w' => w'.cell? ⟨hb, 0, none⟩ = some (.slice (some ⟨g, 0, none⟩) n cap) ∧ w'.cell? ⟨g, c1 * 3, none⟩ = some (.int .u64 yd) ∧ w'.cell? ⟨g, c1 * 3 + 1, none⟩ = some (.int .u64 yw) ∧ w'.cell? ⟨g, c1 * 3 + 2, none⟩ = some (.int .i64 yh) ∧ w'.cell? ⟨w.heap.size, 0, none⟩ = some (.int .u64 td) ∧ w'.cell? ⟨w.heap.size, 1, none⟩ = some (.int .u64 tw) ∧ w'.cell? ⟨w.heap.size, 2, none⟩ = some (.int .i64 th)) (first | exact ⟨u0, u1, u2, u3, u4, u5, u6⟩ | go_keep)
            (first | (go_at_call 27; refine (HAw.out _).mono ?_; rintro e W4 ⟨rfl, hb4⟩; have u0 := (hb4.cell (p := ⟨hb, 0, none⟩) hhW).trans q0; have u1 := (hb4.cell (p := ⟨g, c1 * 3, none⟩) hgW).trans q1; have u2 := (hb4.cell (p := ⟨g, c1 * 3 + 1, none⟩) hgW).trans q2; have u3 := (hb4.cell (p := ⟨g, c1 * 3 + 2, none⟩) hgW).trans q3; have u4 := (hb4.cell (p := ⟨w.heap.size, 0, none⟩) hbW).trans p0; have u5 := (hb4.cell (p := ⟨w.heap.size, 1, none⟩) hbW).trans p1; have u6 := (hb4.cell (p := ⟨w.heap.size, 2, none⟩) hbW).trans p2))
          have hb5 : Below W.heap.size W W4 := ((Below.refl _ W).drew).trans hb4
          have hR2 := HRW.out.below hb5
          rw [HNl.out] at hR2
          have hxs : 0 ≤ yh ∧ yh ≤ 1000000000 := by
            have h1 : (⟨yd, yw, yh⟩ : Thing) ∈ lr.set k ⟨td, tw, th⟩ := by
              rw [HY.out, ← at_set_other (v := lr) (i := k) (j := c1) (by omega) ⟨td, tw, th⟩]
              exact at_mem (by rw [List.length_set, ← HNl.out]; omega)
            exact HS.out _ (H6.out.mem_iff.1 h1)
          have HLay := Lib.hid (lay_any hR2 k ⟨yd, yw, yh⟩ (by rw [← HNl.out]; exact hk) (by have := HL.out; have := H1.out; omega) (by have := HN.out; have := HI.out; have := HL.out; have := H2.out; have := HNn.out; omega) hxs)
          unfold tval at HLay
          dsimp only at HLay
          rw [← HNl.out] at HLay
          have HStep := Lib.hid (fun W2 hRaw hK => DownInv.step (w1 := w.alloc (.cells #[.int .u64 td, .int .u64 tw, .int .i64 th] 58)) (wr := wr) (w2 := W2) (k := k) (c := c1) (rb := rb) (last := last) (N := N + i0) HA.out (by rw [← HNn.out]; omega) (by omega) (by rw [HC1.out]; unfold par; omega) H1.out H2.out H4.out H6.out H7.out H8.out (by rw [← HY.out]; exact HBw.out) HMin.out hRaw (Keeps.trans (HKW.out.trans (Keeps.ofBelow (X := Of hb mb (.slice (some ⟨g, 0, none⟩) n cap)) hb5) fun _ hx => Or.inl hx) hK fun _ hx => Or.inl hx))
          rw [← HY.out] at HStep
          clear hR2 hxs hb4 hb5
          go_wp2_with fail
          refine HLay.out.mono ?_
          rintro e w3 ⟨rfl, hR3, hK3⟩
          go_wp2
          go_roundw
          case rel => exact ⟨c1, by omega, by go_num, Lib.hid (HStep.out w3 hR3 hK3)⟩
          case measure => simp [intOf]; omega
        | false =>
          have hh : Heap (lr.set k ⟨td, tw, th⟩) := by
            refine down_stop H4.out ?_ HMin.out
            rw [at_set_other (by omega), at_set_same (by rw [← HNl.out]; exact hk), ← HY.out]
            exact HBw.out
          go_wp2_with fail
          go_region_held3 (fun w' => w'.cell? ⟨hb, 0, none⟩ = some (.slice (some ⟨g, 0, none⟩) n cap) ∧ w'.cell? ⟨g, c1 * 3, none⟩ = some (.int .u64 yd) ∧ w'.cell? ⟨g, c1 * 3 + 1, none⟩ = some (.int .u64 yw) ∧ w'.cell? ⟨g, c1 * 3 + 2, none⟩ = some (.int .i64 yh) ∧ w'.cell? ⟨w.heap.size, 0, none⟩ = some (.int .u64 td) ∧ w'.cell? ⟨w.heap.size, 1, none⟩ = some (.int .u64 tw) ∧ w'.cell? ⟨w.heap.size, 2, none⟩ = some (.int .i64 th)) (first | exact ⟨u0, u1, u2, u3, u4, u5, u6⟩ | go_keep)
            (first | (go_at_call 27; refine (HAw.out _).mono ?_; rintro e W4 ⟨rfl, hb4⟩; have u0 := (hb4.cell (p := ⟨hb, 0, none⟩) hhW).trans q0; have u1 := (hb4.cell (p := ⟨g, c1 * 3, none⟩) hgW).trans q1; have u2 := (hb4.cell (p := ⟨g, c1 * 3 + 1, none⟩) hgW).trans q2; have u3 := (hb4.cell (p := ⟨g, c1 * 3 + 2, none⟩) hgW).trans q3; have u4 := (hb4.cell (p := ⟨w.heap.size, 0, none⟩) hbW).trans p0; have u5 := (hb4.cell (p := ⟨w.heap.size, 1, none⟩) hbW).trans p1; have u6 := (hb4.cell (p := ⟨w.heap.size, 2, none⟩) hbW).trans p2))
          have hb5 : Below W.heap.size W W4 := ((Below.refl _ W).drew).trans hb4
          have HR4 := Lib.hid (HRW.out.below hb5)
          have HK4 := Lib.hid (HKW.out.trans (Keeps.ofBelow (X := Of hb mb (.slice (some ⟨g, 0, none⟩) n cap)) hb5) fun _ hx => Or.inl hx)
          clear hb4 hb5
          have hR2 := HR4.out
          rw [HNl.out] at hR2
          have HLay := Lib.hid (lay_any hR2 k ⟨td, tw, th⟩ (by rw [← HNl.out]; exact hk) (by have := HL.out; have := H1.out; omega) (by have := HN.out; have := HI.out; have := HL.out; have := H2.out; have := HNn.out; omega) HTs.out)
          unfold tval at HLay
          dsimp only at HLay
          rw [← HNl.out] at HLay
          have HDone := Lib.hid (fun W2 hRaw hK => DownInv.done (w := w) (w1 := w.alloc (.cells #[.int .u64 td, .int .u64 tw, .int .i64 th] 58)) (wr := wr) (w2 := W2) (k := k) (rb := rb) (last := last) (N := N + i0) HA.out (by rw [← HNn.out]; exact hk) H1.out H2.out H6.out H7.out ((Keeps.refl _ w).alloc _) H8.out hh hRaw (Keeps.trans (HK4.out) hK fun _ hx => Or.inl hx))
          clear hR2 hh
          go_wp2_with fail
          refine HLay.out.mono ?_
          rintro e w3 ⟨rfl, hR3, hK3⟩
          go_wp2
          go_end0
          exact HDone.out w3 hR3 hK3
    · have hlt1d : decide (c1 < n) = false := by simpa using hlt1
      have hh : Heap (lr.set k ⟨td, tw, th⟩) := down_none H4.out (by rw [List.length_set, ← HNl.out, ← HC1.out]; omega)
      have hR2 := H3.out
      rw [HNl.out] at hR2
      have HLay := Lib.hid (lay_any hR2 k ⟨td, tw, th⟩ (by rw [← HNl.out]; exact hk) (by have := HL.out; have := H1.out; omega) (by have := HN.out; have := HI.out; have := HL.out; have := H2.out; have := HNn.out; omega) HTs.out)
      unfold tval at HLay
      dsimp only at HLay
      rw [← HNl.out] at HLay
      have HDone := Lib.hid (fun W2 hRaw hK => DownInv.done (w := w) (w1 := w.alloc (.cells #[.int .u64 td, .int .u64 tw, .int .i64 th] 58)) (wr := wr) (w2 := W2) (k := k) (rb := rb) (last := last) (N := N + i0) HA.out (by rw [← HNn.out]; exact hk) H1.out H2.out H6.out H7.out ((Keeps.refl _ w).alloc _) H8.out hh hRaw (Keeps.trans (Keeps.refl _ wr) hK fun _ hx => Or.inl hx))
      clear hR2 hh
      go_wp2_with fail
      refine HLay.out.mono ?_
      rintro e w3 ⟨rfl, hR3, hK3⟩
      go_wp2
      go_end0
      exact HDone.out w3 hR3 hK3
end Go.Proofs.Ytphblfgafljelaa.Hp
