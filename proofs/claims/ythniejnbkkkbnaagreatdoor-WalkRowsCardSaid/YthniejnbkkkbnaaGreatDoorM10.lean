/- Walks of layer walk: a run in memory; step, fault, read; num.Do of quotients. Walks of the law's own functions: rows of numbers that are the same. Maps in memory as rows of pairs: look-ups and stores. -/
import Derived.Test.YthniejnbkkkbnaaGreatDoorM09
import Derived.Deep.CutRange
import Derived.MapKept
import Derived.ChangeMaps5
import Derived.Carry
import Derived.OwnWalk
import Derived.Maps.OwnSet
set_option linter.all false
set_option linter.unusedSimpArgs false
set_option linter.unusedVariables false
namespace Go.Proofs.YthniejnbkkkbnaaGreatDoor
open Go.RowKit
set_option maxRecDepth 100000
set_option maxHeartbeats 4000000

/-- What of a run's machine does not turn. -/
structure WK where
  mb : Nat
  sv : Value
  gv : Value
  fv : Value
  bod : Value
  gl : Value
  hp : Value
  vars : Value
  X : Nat → Prop
  hX : ∀ k, X k → k ≠ mb
abbrev iV (n : Int) : Value := .int .i64 n
def wstopV (e c : Int) : Value := .iface 99 (.agg #[.int .i64 e, .int .i64 c])
/-- A run's machine, in memory. -/
def MAt (K : WK) (m : MS) (w : World) : Prop := ∃ A c oA oc, w.heap[K.mb]? = some (.cells #[K.sv, K.gv, K.fv, K.bod, K.gl, K.hp, .slice A m.inp.length c, iV m.fuel, .slice oA m.out.length oc, iV 0, iV 0, iV m.steps, iV 0, K.vars, iV 0] 66 (0, 0)) ∧
  RowR w K.X A (m.inp.map iV) ∧ RowR w (fun k => K.mb < k) oA (m.out.map iV) ∧ ((m.out = [] → oA = none ∧ oc = 0) ∧ m.out.length ≤ oc) ∧ m.steps + m.fuel ≤ 70000 ∧ m.inp.length ≤ c ∧ m.inp.length < 1000000
theorem MAt.gr {K : WK} {m : MS} {w w' : World} (h : MAt K m w) (hg : Gr w w') : MAt K m w' := by
  obtain ⟨A, c, oA, oc, hb, hr, ho, hn⟩ := h
  exact ⟨A, c, oA, oc, hg.blk hb, hr.gr hg, ho.gr hg, hn⟩
theorem MAt.lt {K : WK} {m : MS} {w : World} (h : MAt K m w) : K.mb < w.heap.size := by
  obtain ⟨A, c, oA, oc, hb, _⟩ := h
  exact blkLt hb
theorem cells15 {w : World} {b : Nat} {x0 x1 x2 x3 x4 x5 x6 x7 x8 x9 x10 x11 x12 x13 x14 : Value} {t : TypeId} {fr : Nat × Nat} (h : w.heap[b]? = some (.cells #[x0, x1, x2, x3, x4, x5, x6, x7, x8, x9, x10, x11, x12, x13, x14] t fr)) :
    w.cell? ⟨b, 6, none⟩ = some x6 ∧ w.cell? ⟨b, 7, none⟩ = some x7 ∧ w.cell? ⟨b, 8, none⟩ = some x8 ∧ w.cell? ⟨b, 11, none⟩ = some x11 := ⟨cellAt' h rfl, cellAt' h rfl, cellAt' h rfl, cellAt' h rfl⟩

theorem Md.own {mb : Nat} {a b : World} (h : Md mb a b) (i : Nat) (v : Value) : Md mb a (b.setCell ⟨mb, i, none⟩ v) := h.setCell (.inr rfl) v
theorem frame_own {w : World} {mb k i : Nat} {v : Value} (h : k ≠ mb) : (w.setCell ⟨mb, i, none⟩ v).heap[k]? = w.heap[k]? := Below.heap_setCell _ _ _ _ h
theorem step_no (K : WK) (m : MS) (w : World) (h : MAt K m w) (hf : m.fuel = 0) :
    Calls Tryz.prog 71 #[ptrV K.mb] w fun e w' => e = thrown (wstopV 3 0) ∧ Gr w w' := by
  obtain ⟨A, c, oA, oc, hb, _⟩ := h
  obtain ⟨_, h7, _, _⟩ := cells15 hb
  have hlt := blkLt hb
  rw [hf] at h7
  clear hb
  go_enter Tryz.func71, Tryz.ntmps71
  go_wp2_with fail
  exact ⟨rfl, rfl, Gr.refl _⟩
theorem step_yes (K : WK) (m : MS) (n : Nat) (w : World) (h : MAt K m w) (hf : m.fuel = n + 1) :
    Calls Tryz.prog 71 #[ptrV K.mb] w fun e w' => e = .returned (.tuple #[]) ∧ Md K.mb w w' ∧ MAt K { m with fuel := n, steps := m.steps + 1 } w' := by
  obtain ⟨A, c, oA, oc, hb, hr, ho, hn, hs, hc, hl⟩ := h
  obtain ⟨_, h7, _, h11⟩ := cells15 hb
  have hlt := blkLt hb
  have fr := frozenAt hb
  obtain ⟨st, hst⟩ : ∃ s, s = m.steps := ⟨_, rfl⟩
  have HB := Lib.hid hb
  have HS := Lib.hid hs
  have HHS := Lib.hid hst
  rw [hf] at h7
  rw [← hst] at h11
  have hsb : st ≤ 70000 := by omega
  have hn7 : n ≤ 70000 := by omega
  have hq : (((n + 1 : Nat) : Int) == 0) = false := by simp; omega
  have e1 : ((n + 1 : Nat) : Int) - 1 = n := by omega
  clear hb hs hst
  go_enter Tryz.func71, Tryz.ntmps71
  go_wp2_with fail
  go_end0
  refine ⟨rfl, ((Md.refl _ _).own _ _).own _ _, A, c, oA, oc, ?_, (hr.frame fun k hk _ => ?_), (ho.frame fun k hk _ => ?_), hn, ?_, hc, hl⟩
  · have e2 := HHS.out
    rw [show ((m.steps + 1 : Nat) : Int) = (st : Int) + 1 by omega]
    exact blk_setCell_to (blk_setCell_to HB.out rfl) rfl
  · rw [frame_own (K.hX k hk), frame_own (K.hX k hk)]
  · rw [frame_own (Nat.ne_of_gt hk), frame_own (Nat.ne_of_gt hk)]
  · have e2 := HS.out
    show m.steps + 1 + n ≤ 70000
    omega
theorem fault_no (c : Int) (hc : c ≠ 0) (w : World) : Calls Tryz.prog 115 #[.int .i64 c] w fun e w' => e = thrown (wstopV 2 c) ∧ Gr w w' := by
  have hb : (c != 0) = true := by simpa using hc
  go_enter Tryz.func115, Tryz.ntmps115
  go_wp2_with fail
  exact ⟨rfl, rfl, Gr.refl _⟩
theorem divide_zero (x : Int) (w : World) : Calls Tryz.prog 173 #[.int .i64 4, .int .i64 x, .int .i64 0] w fun e w' => e = .returned (.tuple #[.int .i64 0, .int .i64 11]) ∧ Gr w w' := by
  go_enter Tryz.func173, Tryz.ntmps173
  go_wp2_with fail
  go_returns
  exact ⟨rfl, Gr.refl _⟩
theorem isBinary4 (w : World) : Calls Tryz.prog 170 #[.int .i64 4] w fun e w' => e = .returned (.bool true) ∧ Gr w w' := by
  go_enter Tryz.func170, Tryz.ntmps170
  go_wp2_with fail
  go_ret
  exact ⟨rfl, Gr.refl _⟩
theorem do_zero (x : Int) (w : World) : Calls Tryz.prog 119 #[.int .i64 4, .int .i64 x, .int .i64 0] w fun e w' => e = .returned (.tuple #[.int .i64 0, .int .i64 11]) ∧ Gr w w' := by
  go_enter Tryz.func119, Tryz.ntmps119
  go_wp2_with fail
  refine (isBinary4 _).mono ?_
  rintro e w1 ⟨rfl, hg1⟩
  go_wp2_with fail
  refine (divide_zero x _).mono ?_
  rintro e w2 ⟨rfl, hg2⟩
  go_wp2_with fail
  go_returns
  exact ⟨rfl, hg1.trans hg2⟩
theorem read_nil (K : WK) (m : MS) (w : World) (h : MAt K m w) (hi : m.inp = []) :
    Calls Tryz.prog 118 #[ptrV K.mb] w fun e w' => e = .returned (.int .i64 0) ∧ Gr w w' := by
  obtain ⟨A, c, oA, oc, hb, _⟩ := h
  obtain ⟨h6, _, _, _⟩ := cells15 hb
  have hlt := blkLt hb
  rw [hi] at h6
  simp only [List.length_nil] at h6
  clear hb
  go_enter Tryz.func118, Tryz.ntmps118
  go_wp2_with fail
  go_ret
  exact ⟨rfl, Gr.refl _⟩
theorem read_cons (K : WK) (m : MS) (a : Int) (r : List Int) (w : World) (h : MAt K m w) (hi : m.inp = a :: r) :
    Calls Tryz.prog 118 #[ptrV K.mb] w fun e w' => e = .returned (.int .i64 a) ∧ Md K.mb w w' ∧ MAt K { m with inp := r } w' := by
  obtain ⟨A, c, oA, oc, hb, hr, ho, hn, hs, hc, hl⟩ := h
  obtain ⟨h6, _, _, _⟩ := cells15 hb
  have hlt := blkLt hb
  have fr := frozenAt hb
  have HB := Lib.hid hb
  have HRW := Lib.hid hr
  rw [hi] at hr h6 hc hl
  obtain ⟨g, off, rfl, hg, hXg, hcl⟩ := hr.open_ (j := 0) (by simp)
  have hc0 := hcl 0 (iV a) rfl
  have hl1 : r.length + 1 < 1000000 := by simpa using hl
  have hc1 : r.length + 1 ≤ c := by simpa using hc
  have hc2 : 1 ≤ c := by omega
  have hc3 : ¬ ((c : Int) < 1) := by omega
  simp only [List.length_cons, Nat.add_zero] at h6 hc0
  have hne : g ≠ K.mb := K.hX _ hXg
  have HR := Lib.hid hr
  clear hb hr hcl hc
  by_cases hc4 : c = 1
  · subst hc4
    have hr0 : r = [] := by cases r with | nil => rfl | cons b r => simp at hc1
    subst hr0
    simp only [List.length_nil] at *
    go_enter Tryz.func118, Tryz.ntmps118
    go_wp2_with fail
    go_ret
    refine ⟨rfl, (Md.refl _ _).own _ _, _, 0, oA, oc, blk_setCell_to HB.out rfl, .inl rfl, (ho.frame fun k hk _ => frame_own (Nat.ne_of_gt hk)), hn, hs, Nat.le_refl _, by simp⟩
  · go_enter Tryz.func118, Tryz.ntmps118
    go_wp2_with fail
    go_ret
    refine ⟨rfl, (Md.refl _ _).own _ _, _, c - 1, oA, oc, blk_setCell_to HB.out rfl, ?_, (ho.frame fun k hk _ => frame_own (Nat.ne_of_gt hk)), hn, hs, ?_, ?_⟩
    · exact (HR.out.drop 1).frame fun k hk _ => frame_own (K.hX k hk)
    · show r.length ≤ c - 1
      omega
    · show r.length < 1000000
      omega
end Go.Proofs.YthniejnbkkkbnaaGreatDoor

namespace Go.Proofs.YthniejnbkkkbnaaGreatDoor
open Go.RowKit
set_option maxRecDepth 100000
set_option maxHeartbeats 4000000

theorem iV_get (a : List Int) (j : Nat) (hj : j < a.length) : (a.map iV)[j]? = some (iV a[j]) := by simp [hj]
theorem take_eq_succ {a b : List Int} {j : Nat} (hja : j < a.length) (hjb : j < b.length) (h : a.take j = b.take j) (hj : a[j] = b[j]) : a.take (j + 1) = b.take (j + 1) := by
  rw [List.take_succ_eq_append_getElem hja, List.take_succ_eq_append_getElem hjb, h, hj]
theorem eq_of_take {a b : List Int} {n : Nat} (ha : a.length = n) (hb : b.length = n) (h : a.take n = b.take n) : a = b := by
  rwa [List.take_of_length_le (by omega), List.take_of_length_le (by omega)] at h

theorem EqualInt_any (A B : Option Addr) (a b : List Int) (ca cb : Nat) (X Y : Nat → Prop) (w : World) (ha : RowR w X A (a.map iV)) (hb : RowR w Y B (b.map iV)) (hla : a.length < 1000000) :
    Calls Tryz.prog 16 #[.slice A a.length ca, .slice B b.length cb] w fun e w' => e = .returned (.bool (a == b)) ∧ Gr w w' := by
  obtain ⟨n, hn⟩ : ∃ n, a.length = n := ⟨_, rfl⟩
  obtain ⟨m, hm⟩ : ∃ m, b.length = m := ⟨_, rfl⟩
  have HN := Lib.hid hn
  have HM := Lib.hid hm
  have HA := Lib.hid ha
  have HB := Lib.hid hb
  rw [hn] at hla ⊢
  rw [hm]
  obtain ⟨q, hq⟩ : ∃ q, (a == b) = q := ⟨_, rfl⟩
  have HQ := Lib.hid hq
  rw [hq]
  clear hn hm ha hb hq
  by_cases hnm : n = m
  · subst hnm
    have hbn : ((n : Int) != n) = false := by simp
    go_enter Tryz.func16, Tryz.ntmps16
    go_wp2_with fail
    go_loopw [13] (fun t wr => ∃ j : Nat, j ≤ n ∧ t = .int .i64 j ∧ Gr w wr ∧ Hid (a.take j = b.take j)) (fun t _ => n - (intOf t).toNat)
    case atStart => exact ⟨0, by omega, rfl, Gr.refl _, by show a.take 0 = b.take 0; simp⟩
    case round =>
      obtain ⟨j, hj, rfl, hg, hT⟩ := hrel
      by_cases hlt : j < n
      · have hja : j < a.length := by rw [HN.out]; exact hlt
        have hjb : j < b.length := by rw [HM.out]; exact hlt
        obtain ⟨g, off, rfl, hg1, _, hc1⟩ := (HA.out.gr hg).open_ (j := j) (by simpa using hja)
        obtain ⟨g2, off2, rfl, hg2, _, hc2⟩ := (HB.out.gr hg).open_ (j := j) (by simpa using hjb)
        have h1 := hc1 j _ (iV_get a j hja)
        have h2 := hc2 j _ (iV_get b j hjb)
        obtain ⟨x, hx⟩ : ∃ x, a[j] = x := ⟨_, rfl⟩
        obtain ⟨y, hy⟩ : ∃ y, b[j] = y := ⟨_, rfl⟩
        rw [hx] at h1
        rw [hy] at h2
        have HX := Lib.hid hx
        have HY := Lib.hid hy
        clear hc1 hc2 hx hy
        by_cases hxy : x = y
        · subst hxy
          have hb0 : (x != x) = false := by simp
          have HT2 : Hid (a.take (j + 1) = b.take (j + 1)) := take_eq_succ hja hjb hT.out (by rw [HX.out, HY.out])
          go_wp2_with fail
          go_quiet (fail)
          go_wp2_with fail
          go_roundw
          case rel => exact ⟨j + 1, by omega, by go_num, hg.drewN _, HT2⟩
          case measure => simp [intOf]; omega
        · have hb0 : (x != y) = true := by simpa using hxy
          have HF : Hid (q = false) := by
            show q = false
            rw [← HQ.out]
            refine beq_eq_false_iff_ne.2 fun e => hxy ?_
            rw [← HX.out, ← HY.out]
            subst e
            rfl
          go_wp2_with fail
          go_quiet (fail)
          go_wp2_with fail
          go_ret
          rw [HF.out]
          exact ⟨rfl, hg.drewN _⟩
      · have HF : Hid (q = true) := by
          show q = true
          rw [← HQ.out]
          have : j = n := by omega
          subst this
          exact beq_iff_eq.2 (eq_of_take HN.out HM.out hT.out)
        go_wp2_with fail
        go_ret
        rw [HF.out]
        exact ⟨rfl, hg⟩
  · have hbn : ((n : Int) != m) = true := by simp; omega
    have HF : Hid (q = false) := by
      show q = false
      rw [← HQ.out]
      refine beq_eq_false_iff_ne.2 fun e => hnm ?_
      rw [← HN.out, ← HM.out, e]
    go_enter Tryz.func16, Tryz.ntmps16
    go_wp2_with fail
    go_ret
    rw [HF.out]
    exact ⟨rfl, Gr.refl _⟩
theorem lawsame_any (A B : Option Addr) (a b : List Int) (ca cb : Nat) (X Y : Nat → Prop) (w : World) (ha : RowR w X A (a.map iV)) (hb : RowR w Y B (b.map iV)) (hla : a.length < 1000000) :
    Calls Tryz.prog 9 #[.slice A a.length ca, .slice B b.length cb] w fun e w' => e = .returned (.bool (a == b)) ∧ Gr w w' := by
  obtain ⟨n, hn⟩ : ∃ n, a.length = n := ⟨_, rfl⟩
  obtain ⟨m, hm⟩ : ∃ m, b.length = m := ⟨_, rfl⟩
  have HN := Lib.hid hn
  have HM := Lib.hid hm
  have HA := Lib.hid ha
  have HB := Lib.hid hb
  rw [hn] at hla ⊢
  rw [hm]
  obtain ⟨q, hq⟩ : ∃ q, (a == b) = q := ⟨_, rfl⟩
  have HQ := Lib.hid hq
  rw [hq]
  clear hn hm ha hb hq
  by_cases hnm : n = m
  · subst hnm
    have hbn : ((n : Int) != n) = false := by simp
    go_enter Tryz.func9, Tryz.ntmps9
    go_wp2_with fail
    go_loopw [5] (fun t wr => ∃ j : Nat, j ≤ n ∧ t = .int .i64 j ∧ Gr w wr ∧ Hid (a.take j = b.take j)) (fun t _ => n - (intOf t).toNat)
    case atStart => exact ⟨0, by omega, rfl, Gr.refl _, by show a.take 0 = b.take 0; simp⟩
    case round =>
      obtain ⟨j, hj, rfl, hg, hT⟩ := hrel
      by_cases hlt : j < n
      · have hja : j < a.length := by rw [HN.out]; exact hlt
        have hjb : j < b.length := by rw [HM.out]; exact hlt
        obtain ⟨g, off, rfl, hg1, _, hc1⟩ := (HA.out.gr hg).open_ (j := j) (by simpa using hja)
        obtain ⟨g2, off2, rfl, hg2, _, hc2⟩ := (HB.out.gr hg).open_ (j := j) (by simpa using hjb)
        have h1 := hc1 j _ (iV_get a j hja)
        have h2 := hc2 j _ (iV_get b j hjb)
        obtain ⟨x, hx⟩ : ∃ x, a[j] = x := ⟨_, rfl⟩
        obtain ⟨y, hy⟩ : ∃ y, b[j] = y := ⟨_, rfl⟩
        rw [hx] at h1
        rw [hy] at h2
        have HX := Lib.hid hx
        have HY := Lib.hid hy
        clear hc1 hc2 hx hy
        by_cases hxy : x = y
        · subst hxy
          have hb0 : (x != x) = false := by simp
          have HT2 : Hid (a.take (j + 1) = b.take (j + 1)) := take_eq_succ hja hjb hT.out (by rw [HX.out, HY.out])
          go_wp2_with fail
          go_quiet (fail)
          go_wp2_with fail
          go_roundw
          case rel => exact ⟨j + 1, by omega, by go_num, hg.drewN _, HT2⟩
          case measure => simp [intOf]; omega
        · have hb0 : (x != y) = true := by simpa using hxy
          have HF : Hid (q = false) := by
            show q = false
            rw [← HQ.out]
            refine beq_eq_false_iff_ne.2 fun e => hxy ?_
            rw [← HX.out, ← HY.out]
            subst e
            rfl
          go_wp2_with fail
          go_quiet (fail)
          go_wp2_with fail
          go_ret
          rw [HF.out]
          exact ⟨rfl, hg.drewN _⟩
      · have HF : Hid (q = true) := by
          show q = true
          rw [← HQ.out]
          have : j = n := by omega
          subst this
          exact beq_iff_eq.2 (eq_of_take HN.out HM.out hT.out)
        go_wp2_with fail
        go_ret
        rw [HF.out]
        exact ⟨rfl, hg⟩
  · have hbn : ((n : Int) != m) = true := by simp; omega
    have HF : Hid (q = false) := by
      show q = false
      rw [← HQ.out]
      refine beq_eq_false_iff_ne.2 fun e => hnm ?_
      rw [← HN.out, ← HM.out, e]
    go_enter Tryz.func9, Tryz.ntmps9
    go_wp2_with fail
    go_ret
    rw [HF.out]
    exact ⟨rfl, Gr.refl _⟩

theorem IsPrefix_any (A B : Option Addr) (a b : List Int) (ca cb : Nat) (X Y : Nat → Prop) (w : World) (ha : RowR w X A (a.map iV)) (hb : RowR w Y B (b.map iV)) (hla : a.length < 1000000) (hlb : b.length < 1000000) (hcb : b.length ≤ cb) :
    Calls Tryz.prog 7 #[.slice A a.length ca, .slice B b.length cb] w fun e w' => e = .returned (.bool (decide (a.length ≤ b.length) && a == b.take a.length)) ∧ Gr w w' := by
  by_cases hab : a.length ≤ b.length
  · have HE := Lib.hid (EqualInt_any A B a (b.take a.length) ca cb X Y w ha (by rw [List.map_take]; exact hb.take _) hla)
    rw [show (b.take a.length).length = a.length by simp; omega] at HE
    obtain ⟨q, hq⟩ : ∃ q, (a == b.take a.length) = q := ⟨_, rfl⟩
    rw [hq] at HE ⊢
    obtain ⟨n, hn⟩ : ∃ n, a.length = n := ⟨_, rfl⟩
    obtain ⟨m, hm⟩ : ∃ m, b.length = m := ⟨_, rfl⟩
    rw [hn, hm] at hab
    rw [hn] at HE ⊢
    rw [hm] at hcb ⊢
    have hd : decide (n ≤ m) = true := by simpa using hab
    have hi : ((n : Int) ≤ (m : Int)) := by omega
    have hnc : n ≤ cb := by omega
    rw [hd]
    clear ha hb hq hn hm
    go_enter Tryz.func7, Tryz.ntmps7
    go_wp2_with fail
    refine HE.out.mono ?_
    rintro e w1 ⟨rfl, hg1⟩
    go_wp2_with fail
    go_ret
    exact ⟨by simp, hg1⟩
  · obtain ⟨n, hn⟩ : ∃ n, a.length = n := ⟨_, rfl⟩
    obtain ⟨m, hm⟩ : ∃ m, b.length = m := ⟨_, rfl⟩
    rw [hn, hm] at hab
    have hd : decide (a.length ≤ b.length) = false := by rw [hn, hm]; simpa using hab
    rw [hd, hn, hm]
    have hi : ¬ ((n : Int) ≤ (m : Int)) := by omega
    clear ha hb hd
    go_enter Tryz.func7, Tryz.ntmps7
    go_wp2_with fail
    go_ret
    exact ⟨by simp, Gr.refl _⟩

theorem Same_any (A B : Option Addr) (a b : List Int) (ca cb : Nat) (X Y : Nat → Prop) (en fa st mk en' fa' st' mk' : Int) (w : World) (ha : RowR w X A (a.map iV)) (hb : RowR w Y B (b.map iV)) (hla : a.length < 1000000) :
    Calls Tryz.prog 8 #[.agg #[.slice A a.length ca, iV en, iV fa, iV st, iV mk], .agg #[.slice B b.length cb, iV en', iV fa', iV st', iV mk']] w fun e w' => e = .returned (.bool ((a == b) && en == en' && fa == fa')) ∧ Gr w w' := by
  have HE := Lib.hid (fun w' (hg : Gr w w') => EqualInt_any A B a b ca cb X Y w' (ha.gr hg) (hb.gr hg) hla)
  obtain ⟨q, hq⟩ : ∃ q, (a == b) = q := ⟨_, rfl⟩
  rw [hq] at HE ⊢
  obtain ⟨n, hn⟩ : ∃ n, a.length = n := ⟨_, rfl⟩
  obtain ⟨m, hm⟩ : ∃ m, b.length = m := ⟨_, rfl⟩
  rw [hn, hm] at HE ⊢
  clear ha hb hq hn hm
  go_enter Tryz.func8, Tryz.ntmps8
  go_upto_region 1 with fail
  have A1 := alloc2_fst w (.cells #[.slice A n ca, iV en, iV fa, iV st, iV mk] 25) (.cells #[.slice B m cb, iV en', iV fa', iV st', iV mk'] 25)
  have A2 := alloc2_snd w (.cells #[.slice A n ca, iV en, iV fa, iV st, iV mk] 25) (.cells #[.slice B m cb, iV en', iV fa', iV st', iV mk'] 25)
  have hG1 : Gr w ((w.alloc (.cells #[.slice A n ca, iV en, iV fa, iV st, iV mk] 25)).alloc (.cells #[.slice B m cb, iV en', iV fa', iV st', iV mk'] 25)) := (Gr.al _ _).alloc _
  generalize (w.alloc (.cells #[.slice A n ca, iV en, iV fa, iV st, iV mk] 25)).alloc (.cells #[.slice B m cb, iV en', iV fa', iV st', iV mk'] 25) = w1 at *
  have a0 := cellAt A1 (i := 0) rfl
  have b0 := cellAt A2 (i := 0) rfl
  have hl := blkLt A2
  have HA1 := Lib.hid A1
  have HA2 := Lib.hid A2
  clear A1 A2
  go_wp2_with fail
  refine (HE.out _ hG1).mono ?_
  rintro e w2 ⟨rfl, hg2⟩
  have B1 := hg2.blk HA1.out
  have B2 := hg2.blk HA2.out
  have x1 := cellAt B1 (i := 1) rfl
  have x2 := cellAt B1 (i := 2) rfl
  have y1 := cellAt B2 (i := 1) rfl
  have y2 := cellAt B2 (i := 2) rfl
  have hl2 := blkLt B2
  have hG2 := hG1.trans hg2
  clear B1 B2 hg2 a0 b0 hG1
  cases q with
  | false =>
    go_wp2_with fail
    go_ret
    exact ⟨by simp, hG2⟩
  | true =>
    by_cases h1 : en = en'
    · subst h1
      have e1 : (en == en) = true := by simp
      by_cases h2 : fa = fa'
      · subst h2
        have e2 : (fa == fa) = true := by simp
        go_wp2_with fail
        go_ret
        exact ⟨by simp, hG2⟩
      · have e2 : (fa == fa') = false := by simpa using h2
        go_wp2_with fail
        go_ret
        exact ⟨by simp [e2], hG2⟩
    · have e1 : (en == en') = false := by simpa using h1
      go_wp2_with fail
      go_ret
      exact ⟨by simp [e1], hG2⟩
end Go.Proofs.YthniejnbkkkbnaaGreatDoor

namespace Go.Proofs.YthniejnbkkkbnaaGreatDoor
open Go.RowKit Go.MapKept Go.ChangeMaps
set_option maxRecDepth 100000
set_option maxHeartbeats 1000000

/-- A plain key's way into memory. -/
structure KeyE {α : Type} [BEq α] (d : TypeDesc) (enc : α → Value) : Prop where
  key : ∀ a, IsKey d (enc a)
  inj : ∀ a b, enc a = enc b ↔ (b == a) = true
def encS (s : Str) : Value := .string (S s)
def encI (n : Int) : Value := .int .i64 n
theorem keyS : KeyE (α := Str) .string encS := ⟨fun _ => trivial, fun a b => by
  constructor
  · intro h; injection h with h; rw [S_inj h]; exact beq_self_eq_true b
  · intro h; rw [eq_of_beq h]⟩
theorem keyI : KeyE (α := Int) (.int .i64) encI := ⟨fun _ => rfl, fun a b => by
  constructor
  · intro h; injection h with _ h; rw [h]; exact beq_self_eq_true b
  · intro h; rw [eq_of_beq h]⟩

/-- A map, in memory: its entries in order. -/
def MapAt {α : Type} (enc : α → Value) (w : World) (b : Nat) (L : List (α × Value)) : Prop :=
  ∃ es clock, w.heap[b]? = some (.map es clock) ∧ es.toList.map (fun e => (e.key, e.val)) = L.map (fun p => (enc p.1, p.2))

theorem MapAt.lt {α : Type} {enc : α → Value} {w : World} {b : Nat} {L : List (α × Value)} (h : MapAt enc w b L) : b < w.heap.size := by
  obtain ⟨es, clock, hb, _⟩ := h
  exact blkLt hb
theorem MapAt.frame {α : Type} {enc : α → Value} {w w' : World} {b : Nat} {L : List (α × Value)} (h : MapAt enc w b L) (hf : w'.heap[b]? = w.heap[b]?) : MapAt enc w' b L := by
  obtain ⟨es, clock, hb, he⟩ := h
  exact ⟨es, clock, hf.trans hb, he⟩
theorem MapAt.gr {α : Type} {enc : α → Value} {w w' : World} {b : Nat} {L : List (α × Value)} (h : MapAt enc w b L) (hg : Gr w w') : MapAt enc w' b L := h.frame (hg.block b h.lt)
theorem MapAt.made {α : Type} (enc : α → Value) (w : World) : MapAt enc (w.alloc (.map #[] 0)) w.heap.size [] := ⟨#[], 0, blk_alloc _ _, rfl⟩

theorem map_modify_set {α β : Type} (l : List α) (j : Nat) (f : α → α) (g : α → β) (e : α) (h : l[j]? = some e) : (l.modify j f).map g = (l.map g).set j (g (f e)) := by
  apply List.ext_getElem?
  intro i
  simp only [List.getElem?_map, List.getElem?_modify, List.getElem?_set]
  by_cases hij : j = i
  · subst hij
    have := (List.getElem?_eq_some_iff.1 h).1
    rw [List.getElem?_eq_getElem this] at h
    injection h with h
    simp [this, h]
  · simp [hij]
theorem aget_cons {α : Type} [BEq α] (p : α × Value) (L : List (α × Value)) (x : α) : aget (p :: L) x = if p.1 == x then some p.2 else aget L x := by
  unfold aget
  rw [List.find?_cons]
  cases p.1 == x <;> rfl
section
variable {α : Type} [BEq α] [LawfulBEq α] {d : TypeDesc} {enc : α → Value}

theorem findNow_map (K : KeyE d enc) (x : α) : ∀ (es : List MapEntry) (L : List (α × Value)) (i : Nat), es.map (fun e => (e.key, e.val)) = L.map (fun p => (enc p.1, p.2)) →
    (aget L x = none ∧ Instr.findNow d (enc x) es i = some none ∧ ∀ u, aput L x u = L ++ [(x, u)]) ∨
    (∃ j e v, aget L x = some v ∧ Instr.findNow d (enc x) es i = some (some (i + j, v)) ∧ es[j]? = some e ∧ e.key = enc x ∧ ∀ u, aput L x u = L.set j (x, u))
  | [], L, i, h => by
    have : L = [] := by simpa using h.symm
    subst this
    exact .inl ⟨rfl, rfl, fun u => rfl⟩
  | e :: es, L, i, h => by
    cases L with
    | nil => simp at h
    | cons p L =>
      simp only [List.map_cons, List.cons.injEq, Prod.mk.injEq] at h
      obtain ⟨⟨hk, hv⟩, h⟩ := h
      obtain ⟨r, hr, hiff⟩ := sameNow_of_keys (K.key x) (hk ▸ K.key p.1 : IsKey d e.key)
      rw [hk, K.inj] at hiff
      rw [aget_cons]
      cases hb : p.1 == x with
      | true =>
        have hr1 : r = true := hiff.2 hb
        subst hr1
        refine .inr ⟨0, e, p.2, by simp, by simp [Instr.findNow, hr, hv], rfl, ?_, fun u => by simp [aput, hb]⟩
        rw [hk, eq_of_beq hb]
      | false =>
        have hr1 : r = false := by
          cases r with
          | false => rfl
          | true => have := hiff.1 rfl; rw [hb] at this; cases this
        subst hr1
        rcases findNow_map K x es L (i + 1) h with ⟨h1, h2, h3⟩ | ⟨j, e', v, h1, h2, h3, h4, h5⟩
        · exact .inl ⟨by simp [h1], by simp [Instr.findNow, hr, h2], fun u => by simp [aput, hb, h3]⟩
        · exact .inr ⟨j + 1, e', v, by simp [h1], by simp [Instr.findNow, hr, h2]; omega, by simpa using h3, h4, fun u => by simp [aput, hb, h5]⟩

variable {P : Program} {t k e : TypeId} {w : World} {b : Nat} {L : List (α × Value)} {z : Value}
theorem run_get (K : KeyE d enc) (ht : P.underlying t = some (.map k e)) (hk : P.underlying k = some d) (hz : (zeroValue e).run P w = .ok z w) (h : MapAt enc w b L) (x : α) :
    (Instr.lookup t (.map (some b)) (enc x) false).run P w = .ok ((aget L x).getD z) w := by
  obtain ⟨es, clock, hb, he⟩ := h
  rcases findNow_map K x es.toList L 0 he with ⟨h1, h2, _⟩ | ⟨j, e', v, h1, h2, _⟩
  · simp [Instr.lookup, run_underlying ht, Go.MapKept.run_getObj_map hb, run_checkKey hk (K.key x), run_findKey hk h2, Result.andThen, hz, h1]
  · simp [Instr.lookup, run_underlying ht, Go.MapKept.run_getObj_map hb, run_checkKey hk (K.key x), run_findKey hk h2, Result.andThen, h1]
theorem run_get_ok (K : KeyE d enc) (ht : P.underlying t = some (.map k e)) (hk : P.underlying k = some d) (hz : (zeroValue e).run P w = .ok z w) (h : MapAt enc w b L) (x : α) :
    (Instr.lookup t (.map (some b)) (enc x) true).run P w = .ok (.tuple #[(aget L x).getD z, .bool (aget L x).isSome]) w := by
  obtain ⟨es, clock, hb, he⟩ := h
  rcases findNow_map K x es.toList L 0 he with ⟨h1, h2, _⟩ | ⟨j, e', v, h1, h2, _⟩
  · simp [Instr.lookup, run_underlying ht, Go.MapKept.run_getObj_map hb, run_checkKey hk (K.key x), run_findKey hk h2, Result.andThen, hz, h1]
  · simp [Instr.lookup, run_underlying ht, Go.MapKept.run_getObj_map hb, run_checkKey hk (K.key x), run_findKey hk h2, Result.andThen, h1]
theorem run_put (K : KeyE d enc) (ht : P.underlying t = some (.map k e)) (hk : P.underlying k = some d) (h : MapAt enc w b L) (x : α) (u : Value) :
    ∃ w', (Instr.mapUpdate t (.map (some b)) (enc x) u).run P w = .ok () w' ∧ MapAt enc w' b (aput L x u) ∧ w.grownBy w' (some b) := by
  obtain ⟨es, clock, hb, he⟩ := h
  rcases findNow_map K x es.toList L 0 he with ⟨h1, h2, h3⟩ | ⟨j, e', v, h1, h2, h3, h4, h5⟩
  · refine ⟨setBlock w b (.map (es.push { key := enc x, val := u, born := clock }) (clock + 1)), ?_, ⟨_, _, heap_setBlock_same hb _, ?_⟩, ⟨rfl, rfl, rfl, by simp [setBlock], fun i _ hi => heap_setBlock_other hb _ (fun e => hi (by rw [e]))⟩⟩
    · simp [Instr.mapUpdate, run_underlying ht, Go.MapKept.run_getObj_map hb, run_checkKey hk (K.key x), run_findKey hk h2, Result.andThen, run_setObj_map _ hb, setBlock]
    · rw [h3]; simp [he]
  · simp only [Nat.zero_add] at h2
    refine ⟨setBlock w b (.map (es.modify j fun e => { e with key := enc x, val := u }) clock), ?_, ⟨_, _, heap_setBlock_same hb _, ?_⟩, ⟨rfl, rfl, rfl, by simp [setBlock], fun i _ hi => heap_setBlock_other hb _ (fun e => hi (by rw [e]))⟩⟩
    · have h3' : es[j]? = some e' := by simpa using h3
      simp [Instr.mapUpdate, run_underlying ht, Go.MapKept.run_getObj_map hb, run_checkKey hk (K.key x), run_findKey hk h2, Result.andThen, run_setObj_map _ hb, setBlock, h3', h4, run_keyThatStays (K.key x)]
    · rw [h5, List.map_set, ← he, Array.toList_modify]
      exact map_modify_set _ _ _ _ e' h3
end
end Go.Proofs.YthniejnbkkkbnaaGreatDoor
