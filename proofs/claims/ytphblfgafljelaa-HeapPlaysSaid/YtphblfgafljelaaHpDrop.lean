/- heap.Drop: what has a handle is taken out; of what has none nothing. -/
import Derived.Test.YtphblfgafljelaaHpPut
namespace Go.Proofs.Ytphblfgafljelaa.Hp
open Go.RowKit Go.Maps

theorem HMap.look {w : World} {mb : Nat} {f : Int → Option Nat} {N : Nat} (h : HMap w mb f N) {k : Int} (hk : (Lit.int .i64 k).wf = true) :
    ∃ c : Int, (Instr.lookup 53 (.map (some mb)) (.int .i64 k) true).run Try.prog w = .ok (.tuple #[.int .i64 c, .bool (f k).isSome]) w ∧ ∀ j, f k = some j → c = j := by
  obtain ⟨D, n, h1, h2, h3⟩ := h
  obtain ⟨v, ps, hrun, hv⟩ := h1.look_ok keyed Try.underlying53 (zeroI w) (plainElem_int Try.underlying3 (by decide)) (keyOf_int_mk Try.underlying3 hk)
  obtain ⟨c, rfl, hc, hwc⟩ := plainElem_int_inv Try.underlying3 hv
  obtain ⟨e1, e2⟩ := h3 k hk
  rw [e1] at hrun
  refine ⟨c, hrun, fun j hj => ?_⟩
  have := congrArg Prod.fst hc
  rw [show (D.atKey (Lit.int .i64 k) (DataW.lit (Lit.int .i64 0))) = _ from e2 j hj] at this
  simp at this
  exact this.symm
theorem HMap.look1 {w : World} {mb : Nat} {f : Int → Option Nat} {N : Nat} (h : HMap w mb f N) {k : Int} (hk : (Lit.int .i64 k).wf = true) {j : Nat} (hj : f k = some j) :
    (Instr.lookup 53 (.map (some mb)) (.int .i64 k) false).run Try.prog w = .ok (.int .i64 j) w := by
  obtain ⟨D, n, h1, h2, h3⟩ := h
  obtain ⟨c, hrun, hc, hwc⟩ := h1.lookup_int keyed Try.underlying53 Try.underlying3 (zeroI w) (keyOf_int_mk Try.underlying3 hk)
  have := (h3 k hk).2 j hj
  rw [this] at hc
  simp at hc
  rw [hrun, hc]

theorem Raw.cut {w : World} {hb mb rb : Nat} {l : List Thing} {f : Int → Option Nat} {last : Int} {N g cap : Nat} (h : Raw w hb mb (.slice (some ⟨g, 0, none⟩) l.length cap) rb l f last N) {n : Nat} (hn : n ≤ l.length) :
    Raw (w.setCell ⟨hb, 0, none⟩ (.slice (some ⟨g, 0, none⟩) n cap)) hb mb (.slice (some ⟨g, 0, none⟩) n cap) rb (l.take n) f last N := by
  have hgh : g ≠ hb := fun e => h.vh (by rw [← e]; rfl)
  have hr : w.ownsRow rb 58 3 (.slice (some ⟨g, 0, none⟩) n cap) (l.take n).length (lcells (l.take n)) := by
    obtain ⟨h1, ⟨h2, _⟩ | ⟨g', cap', cur, hv, hg, hh, hnc, hcm, hcs, ht⟩⟩ := h.row
    · cases h2
    · cases hv
      have hl : (l.take n).length = n := by rw [List.length_take]; omega
      refine ⟨by rw [lcells_length], Or.inr ⟨g, cap, cur, by rw [hl], hg, hh, by omega, hcm, hcs, ?_⟩⟩
      rw [hl, ← lcells_take, ← ht, List.take_take, Nat.min_eq_left (by omega)]
  exact ⟨h.obj.set0 _, ownsRow_of_block hr fun k hk => Below.heap_setCell _ _ _ _ (fun e => by cases hk; exact hgh e), h.map.of_block (Below.heap_setCell _ _ _ _ (fun e => h.hm e.symm))⟩
theorem Raw.turned {w w' : World} {hb mb : Nat} {v : Value} {rb : Nat} {l : List Thing} {f f' : Int → Option Nat} {last : Int} {N N' : Nat} (h : Raw w hb mb v rb l f last N) (hm : HMap w' mb f' N') (ht : w.mapTurned w' mb) : Raw w' hb mb v rb l f' last N' := by
  have hg := ht.grown
  exact ⟨(hg.block hb h.obj.lt (fun e => h.hm (by injection e))).trans h.obj, h.row.kept hg (Or.inr (fun e => h.vm (by rw [e]))), hm⟩

def DropOut (w : World) (hb mb : Nat) (v : Value) (rb : Nat) (S : List Thing) (last : Int) (N : Nat) (k q : Int) (e : Ending) (w' : World) : Prop :=
  e = .returned (.tuple #[.int .u64 q, .bool true]) ∧ ∃ v', HeapIs w' hb mb v' rb (without k S) last (N + 3 * S.length + 4) ∧ v'.ownBlock = v.ownBlock ∧ Keeps (Of hb mb v) w w'

theorem drop_none {w : World} {hb mb : Nat} {v : Value} {rb : Nat} {S : List Thing} {last : Int} {N : Nat} (h : HeapIs w hb mb v rb S last N) (k : Int) (hk : -9223372036854775808 ≤ k ∧ k ≤ 9223372036854775807) (hno : ofH k S = none) :
    Calls Try.prog 14 #[.pointer (some ⟨hb, 0, none⟩), .int .i64 k] w fun e w' => e = .returned (.tuple #[.int .u64 0, .bool false]) ∧ w = w' := by
  obtain ⟨l, f, hraw, hperm, hsort, hheap, hpl, hap, hfine, hl0, hl1⟩ := h
  have hf : f k = none := hpl.2 k fun j hj e => by
    have hm := hperm.mem_iff.1 (at_mem hj)
    have := List.find?_eq_none.1 hno _ hm
    simp [e] at this
  obtain ⟨c, hrun, _⟩ := hraw.map.look (wf_i64 hk)
  rw [hf] at hrun
  obtain ⟨o0, o1, o2, of⟩ := hraw.obj.cell
  clear hraw hperm hsort hheap hpl hap hfine hno hf
  go_enter Try.func14, Try.ntmps14
  go_wp2
  go_ret2
  exact ⟨rfl, rfl⟩

set_option maxRecDepth 100000 in
set_option maxHeartbeats 8000000 in
theorem drop_some {w : World} {hb mb : Nat} {v : Value} {rb : Nat} {S : List Thing} {last : Int} {N : Nat} (h : HeapIs w hb mb v rb S last N) (k : Int) (hk : -9223372036854775808 ≤ k ∧ k ≤ 9223372036854775807) {t : Thing} (hyes : ofH k S = some t)
    (hS : S.length ≤ 900000) (hN : N ≤ 800000000) :
    Calls Try.prog 14 #[.pointer (some ⟨hb, 0, none⟩), .int .i64 k] w (DropOut w hb mb v rb S last N k t.w) := by
  obtain ⟨l, f, hraw, hperm, hsort, hheap, hpl, hap, hfine, hl0, hl1⟩ := h
  obtain ⟨htm, htk⟩ := ofH_mem hyes
  obtain ⟨j, hj, hjt⟩ := mem_at (hperm.mem_iff.2 htm)
  have hf : f k = some j := by have := hpl.1 j hj; rwa [hjt, htk] at this
  obtain ⟨c, hrun, hc⟩ := hraw.map.look (wf_i64 hk)
  rw [hf] at hrun
  obtain rfl := hc j hf
  obtain ⟨g, cap, hv, hcap⟩ := hraw.slice (by omega)
  subst hv
  obtain ⟨m, hm⟩ : ∃ m, l.length = m + 1 := ⟨l.length - 1, by omega⟩
  obtain ⟨o0, o1, o2, of⟩ := hraw.obj.cell
  obtain ⟨z0, d0, d1, d2⟩ := hraw.look rfl hj
  clear z0
  rw [hjt] at d0 d1 d2
  obtain ⟨z0, e0, e1, e2⟩ := hraw.look rfl (i := m) (by omega)
  clear z0
  obtain ⟨x, hx⟩ : ∃ x, x = at_ l m := ⟨_, rfl⟩
  rw [← hx] at e0 e1 e2
  have hlt := hraw.obj.lt
  have hgl := (hraw.row.lt g rfl).2
  rw [hm] at o0 hcap
  have hmS : m + 1 = S.length := by rw [← hm]; exact hperm.length_eq
  have HR := Lib.hid hraw
  have HPm := Lib.hid hperm; have HSo := Lib.hid hsort; have HHe := Lib.hid hheap; have HPl := Lib.hid hpl; have HAp := Lib.hid hap; have HFi := Lib.hid hfine
  have HM := Lib.hid hm; have HMS := Lib.hid hmS; have HN := Lib.hid hN; have HS := Lib.hid hS; have HJT := Lib.hid hjt; have HTK := Lib.hid htk; have HX := Lib.hid hx; have HF := Lib.hid hf
  have hmI : (m : Int) ≤ 900000 := by omega
  have hjI : (j : Int) ≤ (m : Int) := by omega
  have hjm : j ≤ m := by omega
  clear hraw hperm hsort hheap hpl hap hfine hm hmS hN hS hjt htk hx hj hf hyes htm hc
  obtain ⟨td, tw, th⟩ := t
  obtain ⟨xd, xw, xh⟩ := x
  dsimp only at d0 d1 d2 e0 e1 e2 ⊢
  rw [show ((m + 1 : Nat)) = m + 1 from rfl] at o0
  have HR' := HR.out
  have hcut := HR'.cut (n := m) (by rw [HM.out]; omega)
  have R3 : Raw (((w.setCell ⟨hb, 0, none⟩ (.slice (some ⟨g, 0, none⟩) m cap)).alloc (.cells #[.int .u64 td, .int .u64 tw, .int .i64 th] 58)).alloc (.cells #[.int .u64 xd, .int .u64 xw, .int .i64 xh] 58)) hb mb (.slice (some ⟨g, 0, none⟩) m cap) rb (l.take m) f last N :=
    (hcut.below ((Below.refl _ _).alloc (Nat.le_refl _) _)).below ((Below.refl _ _).alloc (Nat.le_refl _) _)
  have K3 : Keeps (Of hb mb (.slice (some ⟨g, 0, none⟩) m cap)) w (((w.setCell ⟨hb, 0, none⟩ (.slice (some ⟨g, 0, none⟩) m cap)).alloc (.cells #[.int .u64 td, .int .u64 tw, .int .i64 th] 58)).alloc (.cells #[.int .u64 xd, .int .u64 xw, .int .i64 xh] 58)) :=
    (((Keeps.refl _ w).setCell (p := ⟨hb, 0, none⟩) (Or.inl rfl) _).alloc _).alloc _
  obtain ⟨w3, hdel, hM3, hturn⟩ := R3.map.drop (wf_i64 hk) 0
  have hg3 := hturn.grown
  have hmw := HR.out.map.lt
  have R4 := Lib.hid (R3.turned hM3 hturn)
  have K4 := Lib.hid (K3.grown hg3 (fun k e => by cases e; exact Or.inr (Or.inl rfl)))
  have s3 : w3.heap.size ≥ w.heap.size + 2 := by have := hg3.size; simp [World.setCell] at this; omega
  have p1 : w3.cell? ⟨w.heap.size, 1, none⟩ = some (.int .u64 tw) := hg3.cell (by rw [World.cell?_alloc_lt _ _ ⟨w.heap.size, 1, none⟩ (by simp [World.setCell])]; exact World.cell?_alloc_at _ _ _ _ (by simp [World.setCell])) (fun e => by injection e with e; simp at e; omega)
  have q0 : w3.cell? ⟨w.heap.size + 1, 0, none⟩ = some (.int .u64 xd) := hg3.cell (World.cell?_alloc_at _ _ _ _ (by simp [World.setCell])) (fun e => by injection e with e; simp at e; omega)
  have q1 : w3.cell? ⟨w.heap.size + 1, 1, none⟩ = some (.int .u64 xw) := hg3.cell (World.cell?_alloc_at _ _ _ _ (by simp [World.setCell])) (fun e => by injection e with e; simp at e; omega)
  have q2 : w3.cell? ⟨w.heap.size + 1, 2, none⟩ = some (.int .i64 xh) := hg3.cell (World.cell?_alloc_at _ _ _ _ (by simp [World.setCell])) (fun e => by injection e with e; simp at e; omega)
  have htake : (l.take m).length = m := by rw [List.length_take, HM.out]; omega
  have HTake := Lib.hid htake
  have hm0 : l.length - 1 = m := by rw [HM.out]; omega
  have HM0 := Lib.hid hm0
  clear hcut R3 K3 hM3 hturn hg3 HR' htake hm0
  by_cases hjlt : j < m
  · have hxs : 0 ≤ xh ∧ xh ≤ 1000000000 := by
      have := (HFi.out ⟨xd, xw, xh⟩ (by rw [HX.out]; exact HPm.out.mem_iff.1 (at_mem (by rw [HM.out]; omega)))).1
      dsimp only at this
      omega
    have HLay : Hid (Calls Try.prog 24 #[.pointer (some ⟨hb, 0, none⟩), .int .i64 j, .agg #[.int .u64 xd, .int .u64 xw, .int .i64 xh]] w3 fun e w' => e = .returned (.tuple #[]) ∧ Raw w' hb mb (.slice (some ⟨g, 0, none⟩) m cap) rb ((l.take m).set j ⟨xd, xw, xh⟩) (upd (del f k) xh j) last (N + 1) ∧ Keeps (Of hb mb (.slice (some ⟨g, 0, none⟩) m cap)) w3 w') :=
      Lib.hid (lay_any R4.out j ⟨xd, xw, xh⟩ (by rw [HTake.out]; exact hjlt) (by rw [HTake.out]; omega) (by have := HN.out; omega) hxs)
    clear hxs
    go_enter Try.func14, Try.ntmps14
    go_wp2_with fail
    refine HLay.out.mono ?_
    rintro e w5 ⟨rfl, hR5, hK5⟩
    have hs5 := hK5.size
    have hbx0 : ¬ Of hb mb (.slice (some ⟨g, 0, none⟩) m cap) w.heap.size := fun ho => absurd (HR.out.of_lt ho) (by omega)
    have hbx1 : ¬ Of hb mb (.slice (some ⟨g, 0, none⟩) m cap) (w.heap.size + 1) := fun ho => absurd (HR.out.of_lt ho) (by omega)
    have p1' : w5.cell? ⟨w.heap.size, 1, none⟩ = some (.int .u64 tw) := (hK5.cell (p := ⟨w.heap.size, 1, none⟩) (by show w.heap.size < _; omega) hbx0).trans p1
    have q2' : w5.cell? ⟨w.heap.size + 1, 2, none⟩ = some (.int .i64 xh) := (hK5.cell (p := ⟨w.heap.size + 1, 2, none⟩) (by show w.heap.size + 1 < _; omega) hbx1).trans q2
    have hcl : (cutAt l j).length = m := by rw [cutAt_length, HM0.out]
    have hcut2 : (l.take m).set j ⟨xd, xw, xh⟩ = cutAt l j := by unfold cutAt; rw [HM0.out, HX.out]
    rw [hcut2] at hR5
    have hjl : j < l.length - 1 := by rw [HM0.out]; exact hjlt
    have hcp := cutAt_perm hjl
    have hpl5 := cut_places HAp.out hjl HPl.out
    rw [HM0.out, ← HX.out, HJT.out] at hpl5
    dsimp only at hpl5
    have hap5 : Apart (cutAt l j) := by
      have h1 : Apart (cutAt l j ++ [at_ l j]) := HAp.out.perm hcp
      exact List.Nodup.sublist ((List.sublist_append_left (cutAt l j) [at_ l j]).map _) h1
    have hsm5 : Small (cutAt l j) := by
      intro y hy
      have := (HFi.out y (HPm.out.mem_iff.1 (hcp.mem_iff.1 (List.mem_append_left _ hy)))).1
      omega
    have htk : th = k := HTK.out
    have hR5' : Raw w5 hb mb (.slice (some ⟨g, 0, none⟩) m cap) rb (cutAt l j) (upd (del f th) xh j) last (N + 1) := by rw [htk]; exact hR5
    have HUp := Lib.hid (up_any hR5' j (by omega) (by rw [hcl]; omega) (by have := HN.out; omega) hap5 hsm5 (cut_up HHe.out hjl) (hpl5.hole j))
    have HJX : Hid (at_ (cutAt l j) j = ⟨xd, xw, xh⟩) := Lib.hid (by rw [at_cut_i hjl, HM0.out, HX.out])
    have HCp := Lib.hid hcp; have HCl := Lib.hid hcl; have HA5 := Lib.hid hap5; have HS5 := Lib.hid hsm5; have HK5 := Lib.hid hK5; have HTk := Lib.hid htk
    clear hR5 hR5' hcut2 hjl hcp hpl5 hap5 hsm5 htk hK5 p1 q0 q1 q2 hcl
    go_wp2_with fail
    refine HUp.out.mono ?_
    rintro e w6 ⟨rfl, l6, f6, p6, u1, u2, u3, u4, u5, u6, u7, u8⟩
    have hs6 := u8.size
    have p1 : w6.cell? ⟨w.heap.size, 1, none⟩ = some (.int .u64 tw) := (u8.cell (p := ⟨w.heap.size, 1, none⟩) (by show w.heap.size < _; omega) hbx0).trans p1'
    have q2 : w6.cell? ⟨w.heap.size + 1, 2, none⟩ = some (.int .i64 xh) := (u8.cell (p := ⟨w.heap.size + 1, 2, none⟩) (by show w.heap.size + 1 < _; omega) hbx1).trans q2'
    have hf6 : f6 xh = some p6 := by
      have := u3.1 p6 u4
      rwa [u5, HJX.out] at this
    have o1' := u1.obj.cell.2.1
    have hl6 : l6.length = m := by rw [u2.length_eq]; exact HCl.out
    have hx6 : (Lit.int .i64 xh).wf = true := by
      have := HS5.out ⟨xd, xw, xh⟩ (by rw [← HJX.out]; exact at_mem (by rw [HCl.out]; exact hjlt))
      dsimp only at this
      exact wf_i64 (by omega)
    have hlk1 : (Instr.lookup 53 (.map (some mb)) (.int .i64 xh) false).run Try.prog w6.drew = .ok (.int .i64 p6) w6.drew := HMap.look1 (w := w6.drew) (u1.map.of_block rfl) hx6 hf6
    have HDown := Lib.hid (down_any (w := w6.drew) (u1.of_blocks fun _ _ => rfl) p6 u4 (by rw [hl6]; omega) (by have := HN.out; omega) (HA5.out.perm u2) (HS5.out.perm u2) u6 (u3.hole p6))
    have U1 := Lib.hid u1; have U2 := Lib.hid u2; have U4 := Lib.hid u4; have U8 := Lib.hid u8; have HL6 := Lib.hid hl6
    clear p1' q2' u1 u2 u3 u4 u5 u6 u7 u8 hf6 hx6 hl6
    go_wp2_with fail
    go_region_held3 (fun w' => w'.cell? ⟨hb, 1, none⟩ = some (.map (some mb)) ∧ w'.cell? ⟨w.heap.size + 1, 2, none⟩ = some (.int .i64 xh)) (first | exact ⟨y1, y2⟩ | go_keep)
      (first | (go_at_call 25; refine HDown.out.mono ?_; rintro e w7 ⟨rfl, l7, f7, z1, z2, z3, z4, z5⟩; have y1 := z1.obj.cell.2.1; have y2 := (z5.cell (p := ⟨w.heap.size + 1, 2, none⟩) (by show w.heap.size + 1 < w6.heap.size; omega) hbx1).trans q2; have y3 := (z5.cell (p := ⟨w.heap.size, 1, none⟩) (by show w.heap.size < w6.heap.size; omega) hbx0).trans p1))
    go_wp2
    go_ret2
    have hperm' : (l7 ++ [(⟨td, tw, th⟩ : Thing)]).Perm l := by
      have h1 : l7.Perm (cutAt l j) := z2.trans U2.out
      have h2 := HCp.out
      rw [HJT.out] at h2
      exact (h1.append_right _).trans h2
    have hd := drop_perm HAp.out HPm.out hperm'
    dsimp only at hd
    rw [HTk.out] at hd
    have hms := HMS.out
    have hl6 := HL6.out
    have hu4 := U4.out
    refine ⟨rfl, .slice (some ⟨g, 0, none⟩) m cap, ⟨l7, f7, z1.mono (by omega), hd, without_sorted HSo.out, z4, z3, HA5.out.perm (z2.trans U2.out), fun t ht => HFi.out t (List.mem_filter.1 ht).1, hl0, hl1⟩, rfl, ?_⟩
    exact ((K4.out.trans HK5.out fun _ hx => Or.inl hx).trans (U8.out.drew) fun _ hx => Or.inl hx).trans z5 fun _ hx => Or.inl hx
  · obtain rfl : j = m := by omega
    obtain ⟨rfl, rfl, rfl⟩ : xd = td ∧ xw = tw ∧ xh = th := by
      have := HX.out.trans HJT.out
      injection this with a b c
      exact ⟨a, b, c⟩
    have hP := last_places HAp.out (by rw [HM.out]; omega) HPl.out
    rw [HM0.out, HJT.out] at hP
    dsimp only at hP
    have hperm' : (l.take j ++ [(⟨xd, xw, xh⟩ : Thing)]).Perm l := by
      have := take_last (v := l) (by rw [HM.out]; omega)
      rw [HM0.out, HJT.out] at this
      rw [this]
    have hd := drop_perm HAp.out HPm.out hperm'
    have htk : xh = k := HTK.out
    have HP := Lib.hid hP
    have HD := Lib.hid hd
    have HTk := Lib.hid htk
    clear hP hperm' hd htk hjlt
    go_enter Try.func14, Try.ntmps14
    go_wp2
    go_ret2
    refine ⟨rfl, .slice (some ⟨g, 0, none⟩) j cap, ⟨l.take j, del f k, R4.out.mono (by omega), ?_, without_sorted HSo.out, take_heap HHe.out j, ?_, ?_, fun t ht => HFi.out t (List.mem_filter.1 ht).1, hl0, hl1⟩, rfl, K4.out⟩
    · rw [← HTk.out]; exact HD.out
    · rw [← HTk.out]; exact HP.out
    · exact List.Nodup.sublist ((List.take_sublist j l).map _) HAp.out
end Go.Proofs.Ytphblfgafljelaa.Hp
