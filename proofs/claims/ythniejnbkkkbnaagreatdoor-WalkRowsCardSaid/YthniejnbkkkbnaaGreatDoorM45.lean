/- Walks of layer walk: expressions. Walks of layer walk: a print; statements. -/
import Derived.Test.YthniejnbkkkbnaaGreatDoorM10
import Derived.Test.YthniejnbkkkbnaaGreatDoorM19
import Derived.Test.YthniejnbkkkbnaaGreatDoorM13
set_option linter.all false
set_option linter.unusedSimpArgs false
set_option linter.unusedVariables false
namespace Go.Proofs.YthniejnbkkkbnaaGreatDoor
open Go.RowKit
set_option maxRecDepth 100000
set_option maxHeartbeats 4000000

def XPost (K : WK) (w : World) (r : XR Int) (e : Ending) (w' : World) : Prop :=
  Md K.mb w w' ∧ match r with
    | .ok v m' => e = .returned (.int .i64 v) ∧ MAt K m' w'
    | .stop en fa m' => e = thrown (wstopV en fa) ∧ MAt K m' w'
    | .bad => True
/-- The contract of an expression's walk, at so much fuel. -/
def XAt (k : Nat) : Prop := ∀ (K : WK) (m : MS) (w : World) (b : Nat) (t : T), MAt K m w → TreeAt w K.X b t → exprM k t m ≠ .bad → Calls Tryz.prog 72 #[ptrV K.mb, nodeV b] w (XPost K w (exprM k t m))

theorem two_any (k : Nat) (ih : XAt k) (K : WK) (m : MS) (w : World) (h : MAt K m w) (b : Nat) (d : D) (x y : T) (ht : TreeAt w K.X b (.mk d [x, y])) (hop : d.op = 24) (hn : d.n = 4) (hbad : twoG (exprM k) x y m ≠ .bad) :
    Calls Tryz.prog 120 #[ptrV K.mb, nodeV b] w (XPost K w (twoG (exprM k) x y m)) := by
  have HT : Hid (∀ w', Md K.mb w w' → TreeAt w' K.X b (.mk d [x, y])) := fun w' hm => Md.tree ht K.hX hm
  have HKA := Lib.hid (fun w' (hm : Md K.mb w w') => Kid_some b (.mk d [x, y]) K.X 0 (by decide) x rfl w' (HT.out w' hm))
  have HKB := Lib.hid (fun w' (hm : Md K.mb w w') => Kid_some b (.mk d [x, y]) K.X 1 (by decide) y rfl w' (HT.out w' hm))
  have HOP := Lib.hid (fun w' (hm : Md K.mb w w') => Op_any (nodeV b) (some (.mk d [x, y])) K.X w' ⟨b, rfl, HT.out w' hm⟩)
  have HNU := Lib.hid (fun w' (hm : Md K.mb w w') => Num_any (nodeV b) (some (.mk d [x, y])) K.X w' ⟨b, rfl, HT.out w' hm⟩)
  have e1 : (dO (some (T.mk d [x, y]))).op = 24 := hop
  have e2 : (dO (some (T.mk d [x, y]))).n = 4 := hn
  rw [e1] at HOP
  rw [e2] at HNU
  have hmb := h.lt
  have HM := Lib.hid h
  obtain ⟨R, hR⟩ : ∃ R, twoG (exprM k) x y m = R := ⟨_, rfl⟩
  rw [hR] at hbad ⊢
  unfold twoG at hR
  obtain ⟨r1, hr1⟩ : ∃ r1, exprM k x m = r1 := ⟨_, rfl⟩
  have HX : Hid (∀ w' b', MAt K m w' → TreeAt w' K.X b' x → r1 ≠ .bad → Calls Tryz.prog 72 #[ptrV K.mb, nodeV b'] w' (XPost K w' r1)) := by
    rw [← hr1]
    exact fun w' b' h1 h2 h3 => ih K m w' b' x h1 h2 h3
  rw [hr1] at hR
  have HR := Lib.hid hR
  clear h ht hop hn e1 e2 hr1 hR
  go_enter Tryz.func120, Tryz.ntmps120
  go_wp2_with fail
  have B0 := blk_alloc w (.cells #[ptrV b] 53)
  have hM0 := (Md.refl K.mb w).alloc (.cells #[ptrV b] 53)
  refine (HKA.out _ hM0).mono ?_
  rintro e w1 ⟨bx, rfl, hx, hg1⟩
  have B1 := hg1.blk B0
  have hM1 := hM0.trans (.of_gr hg1)
  have hA1 := (HM.out.gr (Gr.al w (.cells #[ptrV b] 53))).gr hg1
  have hx1 := hx.gr hg1
  clear hx hM0 hg1
  cases r1 with
  | bad => exact absurd HR.out.symm hbad
  | stop en fa m1 =>
    have hr : .stop en fa m1 = R := HR.out
    go_wp2_with fail
    refine (HX.out w1 bx hA1 hx1 (by intro h; cases h)).mono ?_
    rintro e w2 ⟨hm2, rfl, hA2⟩
    refine ⟨rfl, ?_⟩
    rw [← hr]
    exact ⟨hM1.trans hm2, rfl, hA2⟩
  | ok v1 m1 =>
    have hR2 : (xbind (exprM k y m1) fun y m => if y = 0 then .stop 2 11 m else .bad) = R := HR.out
    obtain ⟨r2, hr2⟩ : ∃ r2, exprM k y m1 = r2 := ⟨_, rfl⟩
    have HY : Hid (∀ w' b', MAt K m1 w' → TreeAt w' K.X b' y → r2 ≠ .bad → Calls Tryz.prog 72 #[ptrV K.mb, nodeV b'] w' (XPost K w' r2)) := by
      rw [← hr2]
      exact fun w' b' h1 h2 h3 => ih K m1 w' b' y h1 h2 h3
    rw [hr2] at hR2
    have HR2 := Lib.hid hR2
    clear hr2 hR2
    go_wp2_with fail
    refine (HX.out w1 bx hA1 hx1 (by intro h; cases h)).mono ?_
    rintro e w2 ⟨hm2, rfl, hA2⟩
    have B2 := hm2.blk B1 (by omega)
    have hM2 := hM1.trans hm2
    have hl2 := blkLt B2
    have b2 := cellAt B2 (i := 0) rfl
    clear hm2 hA1 hx1 hM1 B1 B0
    go_wp2_with fail
    refine (HOP.out _ hM2).mono ?_
    rintro e w3 ⟨rfl, hg3⟩
    have B3 := hg3.blk B2
    have hM3 := hM2.trans (.of_gr hg3)
    have hA3 := hA2.gr hg3
    have b3 := cellAt B3 (i := 0) rfl
    have hl3 := blkLt B3
    clear hg3 hA2 hM2 B2 b2 hl2
    go_wp2_with fail
    refine (HOP.out _ hM3).mono ?_
    rintro e w4 ⟨rfl, hg4⟩
    have B4 := hg4.blk B3
    have hM4 := hM3.trans (.of_gr hg4)
    have hA4 := hA3.gr hg4
    have b4 := cellAt B4 (i := 0) rfl
    have hl4 := blkLt B4
    clear hg4 hA3 hM3 B3 b3 hl3
    go_wp2_with fail
    refine (HOP.out _ hM4).mono ?_
    rintro e w5 ⟨rfl, hg5⟩
    have B5 := hg5.blk B4
    have hM5 := hM4.trans (.of_gr hg5)
    have hA5 := hA4.gr hg5
    have b5 := cellAt B5 (i := 0) rfl
    have hl5 := blkLt B5
    clear hg5 hA4 hM4 B4 b4 hl4
    go_wp2_with fail
    refine wp_region_held_drew (S := fun w' => w'.cell? ⟨w.heap.size, 0, none⟩ = some (ptrV b)) rfl b5 (fun hS => ?_)
    refine wpAnyH_take (i := 0) (v := ?_) rfl (by kernel_rfl) (by kernel_rfl) (by kernel_rfl) (fun _ _ _ h => h) (Or.inl ⟨by rfl, ?_⟩) hS ?_
    rotate_left
    · intro w' hSw; (try dsimp only at hSw); go_simp; try with_reducible rfl
    (try simp only [List.getElem_toArray, List.getElem_cons_succ, List.getElem_cons_zero, Act.put, List.setIfInBounds_toArray, List.set_cons_zero, List.set_cons_succ])
    refine wpAnyH_take (i := 2) (v := ?_) rfl (by kernel_rfl) (by kernel_rfl) (by kernel_rfl) (fun _ _ _ h => h) (Or.inl ⟨by rfl, ?_⟩) hS ?_
    rotate_left
    · intro w' hSw; (try dsimp only at hSw); go_simp; try with_reducible rfl
    (try simp only [List.getElem_toArray, List.getElem_cons_succ, List.getElem_cons_zero, Act.put, List.setIfInBounds_toArray, List.set_cons_zero, List.set_cons_succ])
    refine wpAnyH_take (i := 3) (v := ?_) rfl (by kernel_rfl) (by kernel_rfl) (by kernel_rfl) (fun _ _ _ h => h) (Or.inl ⟨by rfl, ?_⟩) hS ?_
    rotate_left
    · intro w' hSw; (try dsimp only at hSw); go_simp; try with_reducible rfl
    (try simp only [List.getElem_toArray, List.getElem_cons_succ, List.getElem_cons_zero, Act.put, List.setIfInBounds_toArray, List.set_cons_zero, List.set_cons_succ])
    refine wpAnyH_take (i := 4) (v := ?_) rfl (by kernel_rfl) (by kernel_rfl) (by kernel_rfl) (fun _ _ _ h => h) (Or.inl ⟨by rfl, ?_⟩) hS ?_
    rotate_left
    · intro w' hSw; (try dsimp only at hSw); go_simp; try with_reducible rfl
    (try simp only [List.getElem_toArray, List.getElem_cons_succ, List.getElem_cons_zero, Act.put, List.setIfInBounds_toArray, List.set_cons_zero, List.set_cons_succ])
    refine wpAnyH_ready (rs := [1]) (by kernel_rfl) (by simp) ?_
    refine AllReadyH.cons rfl (fun K' hK => ?_) AllReadyH.nil
    simp only [List.getElem_toArray, List.getElem_cons_succ, List.getElem_cons_zero]
    go_simp
    refine (HNU.out _ hM5.drew).mono ?_
    rintro e w6 ⟨rfl, hg6⟩
    have B6 := hg6.blk (blk_drew B5)
    have hM6 := hM5.drew.trans (.of_gr hg6)
    have hA6 := (hA5.gr (Gr.refl w5).drew).gr hg6
    refine hK.out _ _ (cellAt B6 rfl) (fun hS => ?_)
    (try simp only [Act.put, List.setIfInBounds_toArray, List.set_cons_zero, List.set_cons_succ])
    refine wpAnyH_ready (rs := [5]) (by kernel_rfl) (by simp) ?_
    refine AllReadyH.cons rfl (fun K' hK => ?_) AllReadyH.nil
    simp only [List.getElem_toArray, List.getElem_cons_succ, List.getElem_cons_zero]
    go_simp
    refine (HKB.out _ hM6).mono ?_
    rintro e w7 ⟨by_, rfl, hy7, hg7⟩
    have B7 := hg7.blk B6
    have hM7 := hM6.trans (.of_gr hg7)
    have hA7 := hA6.gr hg7
    have hy := hy7.gr hg7
    refine hK.out _ _ (cellAt B7 rfl) (fun hS => ?_)
    (try simp only [Act.put, List.setIfInBounds_toArray, List.set_cons_zero, List.set_cons_succ])
    refine wpAnyH_ready (rs := [6]) (by kernel_rfl) (by simp) ?_
    refine AllReadyH.cons rfl (fun K' hK => ?_) AllReadyH.nil
    simp only [List.getElem_toArray, List.getElem_cons_succ, List.getElem_cons_zero]
    go_simp
    cases r2 with
    | bad => exact absurd HR2.out.symm hbad
    | stop en fa m2 =>
      have hr : .stop en fa m2 = R := HR2.out
      refine (HY.out w7 by_ hA7 hy (by intro h; cases h)).mono ?_
      rintro e w8 ⟨hm8, rfl, hA8⟩
      refine ⟨rfl, ?_⟩
      rw [← hr]
      exact ⟨hM7.trans hm8, rfl, hA8⟩
    | ok v2 m2 =>
      have hr : (if v2 = 0 then .stop 2 11 m2 else .bad) = R := HR2.out
      by_cases hv : v2 = 0
      · subst hv
        rw [if_pos rfl] at hr
        refine (HY.out w7 by_ hA7 hy (by intro h; cases h)).mono ?_
        rintro e w8 ⟨hm8, rfl, hA8⟩
        have B8 := hm8.blk B7 (by omega)
        have hM8 := hM7.trans hm8
        refine hK.out _ _ (cellAt B8 rfl) (fun hS => ?_)
        (try simp only [Act.put, List.setIfInBounds_toArray, List.set_cons_zero, List.set_cons_succ])
        refine wpAnyH_ready (rs := [7]) (by kernel_rfl) (by simp) ?_
        refine AllReadyH.cons rfl (fun K' hK => ?_) AllReadyH.nil
        simp only [List.getElem_toArray, List.getElem_cons_succ, List.getElem_cons_zero]
        go_simp
        refine (do_zero v1 _).mono ?_
        rintro e w9 ⟨rfl, hg9⟩
        have B9 := hg9.blk B8
        have hM9 := hM8.trans (.of_gr hg9)
        have hA9 := hA8.gr hg9
        refine hK.out _ _ (cellAt B9 rfl) (fun hS => ?_)
        (try simp only [Act.put, List.setIfInBounds_toArray, List.set_cons_zero, List.set_cons_succ])
        refine wpAnyH_take (i := 8) (v := ?_) rfl (by kernel_rfl) (by kernel_rfl) (by kernel_rfl) (fun _ _ _ h => h) (Or.inl ⟨by rfl, ?_⟩) hS ?_
        rotate_left
        · intro w' hSw; (try dsimp only at hSw); go_simp; try with_reducible rfl
        (try simp only [List.getElem_toArray, List.getElem_cons_succ, List.getElem_cons_zero, Act.put, List.setIfInBounds_toArray, List.set_cons_zero, List.set_cons_succ])
        refine wpAnyH_take (i := 9) (v := ?_) rfl (by kernel_rfl) (by kernel_rfl) (by kernel_rfl) (fun _ _ _ h => h) (Or.inl ⟨by rfl, ?_⟩) hS ?_
        rotate_left
        · intro w' hSw; (try dsimp only at hSw); go_simp; try with_reducible rfl
        (try simp only [List.getElem_toArray, List.getElem_cons_succ, List.getElem_cons_zero, Act.put, List.setIfInBounds_toArray, List.set_cons_zero, List.set_cons_succ])
        refine wpAnyH_take (i := 10) (v := ?_) rfl (by kernel_rfl) (by kernel_rfl) (by kernel_rfl) (fun _ _ _ h => h) (Or.inl ⟨by rfl, ?_⟩) hS ?_
        rotate_left
        · intro w' hSw; (try dsimp only at hSw); go_simp; try with_reducible rfl
        (try simp only [List.getElem_toArray, List.getElem_cons_succ, List.getElem_cons_zero, Act.put, List.setIfInBounds_toArray, List.set_cons_zero, List.set_cons_succ])
        refine wpAnyH_take (i := 11) (v := ?_) rfl (by kernel_rfl) (by kernel_rfl) (by kernel_rfl) (fun _ _ _ h => h) (Or.inl ⟨by rfl, ?_⟩) hS ?_
        rotate_left
        · intro w' hSw; (try dsimp only at hSw); go_simp; try with_reducible rfl
        (try simp only [List.getElem_toArray, List.getElem_cons_succ, List.getElem_cons_zero, Act.put, List.setIfInBounds_toArray, List.set_cons_zero, List.set_cons_succ])
        refine wpAnyH_take (i := 12) (v := ?_) rfl (by kernel_rfl) (by kernel_rfl) (by kernel_rfl) (fun _ _ _ h => h) (Or.inl ⟨by rfl, ?_⟩) hS ?_
        rotate_left
        · intro w' hSw; (try dsimp only at hSw); go_simp; try with_reducible rfl
        (try simp only [List.getElem_toArray, List.getElem_cons_succ, List.getElem_cons_zero, Act.put, List.setIfInBounds_toArray, List.set_cons_zero, List.set_cons_succ])
        refine wpAnyH_done (by kernel_rfl) ?_ _
        go_wp2_with fail
        refine (fault_no 11 (by decide) _).mono ?_
        rintro e w10 ⟨rfl, hg10⟩
        refine ⟨rfl, ?_⟩
        rw [← hr]
        exact ⟨hM9.trans (.of_gr hg10), rfl, hA9.gr hg10⟩
      · rw [if_neg hv] at hr
        exact absurd hr.symm hbad

theorem expr_ok (k : Nat) (ih : XAt k) : XAt (k + 1) := by
  intro K m w b t h ht hbad
  have HT : Hid (∀ w', Md K.mb w w' → TreeAt w' K.X b t) := fun w' hm => Md.tree ht K.hX hm
  have HOP := Lib.hid (fun w' (hm : Md K.mb w w') => Op_any (nodeV b) (some t) K.X w' ⟨b, rfl, HT.out w' hm⟩)
  have HNU := Lib.hid (fun w' (hm : Md K.mb w w') => Num_any (nodeV b) (some t) K.X w' ⟨b, rfl, HT.out w' hm⟩)
  have hmb := h.lt
  have HM := Lib.hid h
  have HSN := Lib.hid (fun w' (h : MAt K m w') => step_no K m w' h)
  have HSY := Lib.hid (fun n w' (h : MAt K m w') => step_yes K m n w' h)
  obtain ⟨R, hR⟩ : ∃ R, exprM (k + 1) t m = R := ⟨_, rfl⟩
  rw [hR] at hbad ⊢
  obtain ⟨d, ks⟩ := t
  rw [exprM_succ] at hR
  unfold stepM at hR
  cases hfu : m.fuel with
  | zero =>
    rw [hfu] at hR
    have hr : .stop 3 0 m = R := hR
    clear h ht hR
    go_enter Tryz.func72, Tryz.ntmps72
    go_wp2_with fail
    refine (HSN.out _ (HM.out.gr (Gr.al _ _)) hfu).mono ?_
    rintro e w1 ⟨rfl, hg1⟩
    refine ⟨rfl, ?_⟩
    rw [← hr]
    exact ⟨Md.of_gr ((Gr.al _ _).trans hg1), rfl, (HM.out.gr (Gr.al _ _)).gr hg1⟩
  | succ n =>
    rw [hfu] at hR
    simp only [] at hR
    obtain ⟨m0, hm0⟩ : ∃ m0 : MS, m0 = { m with fuel := n, steps := m.steps + 1 } := ⟨_, rfl⟩
    rw [← hm0] at hR
    have HS := Lib.hid (fun w' (h : MAt K m w') => step_yes K m n w' h hfu)
    rw [← hm0] at HS
    obtain ⟨⟨op, nm, ty, nn, at_⟩, hd⟩ : ∃ d', d = d' := ⟨_, rfl⟩
    subst hd
    simp only [] at hR
    simp only [dO, T.d] at HOP HNU
    clear h hm0 hfu HSN HSY
    by_cases h15 : op = 15
    · rw [if_pos h15] at hR
      have hr := hR
      subst h15
      clear hR
      go_enter Tryz.func72, Tryz.ntmps72
      go_wp2_with fail
      refine (HS.out _ (HM.out.gr (Gr.al _ _))).mono ?_
      rintro e w1 ⟨rfl, hm1, hA1⟩
      have B1 := hm1.blk (blk_alloc w (.cells #[ptrV b] 53)) (by omega)
      have hM1 := ((Md.refl K.mb w).alloc (.cells #[ptrV b] 53)).trans hm1
      have b1 := cellAt B1 (i := 0) rfl
      have hl1 := blkLt B1
      clear hm1
      go_wp2_with fail
      refine (HOP.out _ hM1).mono ?_
      rintro e w2 ⟨rfl, hg2⟩
      have B2 := hg2.blk B1
      have hM2 := hM1.trans (.of_gr hg2)
      have hA2 := hA1.gr hg2
      have b2 := cellAt B2 (i := 0) rfl
      have hl2 := blkLt B2
      clear hg2 hA1 hM1 B1 b1 hl1
      go_wp2_with fail
      refine (HNU.out _ hM2).mono ?_
      rintro e w3 ⟨rfl, hg3⟩
      go_wp2_with fail
      go_ret
      rw [← hr]
      exact ⟨hM2.trans (.of_gr hg3), rfl, hA2.gr hg3⟩
    · have hb15 : (op == 15) = false := by simpa using h15
      rw [if_neg h15] at hR
      by_cases h22 : op = 22
      · rw [if_pos h22] at hR
        subst h22
        clear hb15
        unfold readM at hR
        cases hin : m0.inp with
        | nil =>
          rw [hin] at hR
          have hr : .ok 0 m0 = R := hR
          clear hR
          go_enter Tryz.func72, Tryz.ntmps72
          go_wp2_with fail
          refine (HS.out _ (HM.out.gr (Gr.al _ _))).mono ?_
          rintro e w1 ⟨rfl, hm1, hA1⟩
          have B1 := hm1.blk (blk_alloc w (.cells #[ptrV b] 53)) (by omega)
          have hM1 := ((Md.refl K.mb w).alloc (.cells #[ptrV b] 53)).trans hm1
          have b1 := cellAt B1 (i := 0) rfl
          have hl1 := blkLt B1
          clear hm1
          go_wp2_with fail
          refine (HOP.out _ hM1).mono ?_
          rintro e w2 ⟨rfl, hg2⟩
          have B2 := hg2.blk B1
          have hM2 := hM1.trans (.of_gr hg2)
          have hA2 := hA1.gr hg2
          have b2 := cellAt B2 (i := 0) rfl
          have hl2 := blkLt B2
          clear hg2 hA1 hM1 B1 b1 hl1
          go_wp2_with fail
          refine (read_nil K m0 _ hA2 hin).mono ?_
          rintro e w3 ⟨rfl, hg3⟩
          go_wp2_with fail
          go_ret
          rw [← hr]
          exact ⟨hM2.trans (.of_gr hg3), rfl, hA2.gr hg3⟩
        | cons a r =>
          rw [hin] at hR
          have hr : .ok a { m0 with inp := r } = R := hR
          clear hR
          go_enter Tryz.func72, Tryz.ntmps72
          go_wp2_with fail
          refine (HS.out _ (HM.out.gr (Gr.al _ _))).mono ?_
          rintro e w1 ⟨rfl, hm1, hA1⟩
          have B1 := hm1.blk (blk_alloc w (.cells #[ptrV b] 53)) (by omega)
          have hM1 := ((Md.refl K.mb w).alloc (.cells #[ptrV b] 53)).trans hm1
          have b1 := cellAt B1 (i := 0) rfl
          have hl1 := blkLt B1
          clear hm1
          go_wp2_with fail
          refine (HOP.out _ hM1).mono ?_
          rintro e w2 ⟨rfl, hg2⟩
          have B2 := hg2.blk B1
          have hM2 := hM1.trans (.of_gr hg2)
          have hA2 := hA1.gr hg2
          have b2 := cellAt B2 (i := 0) rfl
          have hl2 := blkLt B2
          clear hg2 hA1 hM1 B1 b1 hl1
          go_wp2_with fail
          refine (read_cons K m0 a r _ hA2 hin).mono ?_
          rintro e w3 ⟨rfl, hm3, hA3⟩
          go_wp2_with fail
          go_ret
          rw [← hr]
          exact ⟨hM2.trans hm3, rfl, hA3⟩
      · have hb22 : (op == 22) = false := by simpa using h22
        rw [if_neg h22] at hR
        split at hR
        case isFalse => exact absurd hR.symm hbad
        rename_i hc
        obtain ⟨h24, h4⟩ := hc
        obtain ⟨x, y, rfl⟩ : ∃ x y, ks = [x, y] := by
          match ks, hR with
          | [x, y], _ => exact ⟨x, y, rfl⟩
          | [], hR => exact absurd hR.symm hbad
          | [_], hR => exact absurd hR.symm hbad
          | _ :: _ :: _ :: _, hR => exact absurd hR.symm hbad
        have hr : twoG (exprM k) x y m0 = R := hR
        have HTW := Lib.hid (fun w' (hA : MAt K m0 w') (hm : Md K.mb w w') => two_any k ih K m0 w' hA b _ x y (HT.out w' hm) h24 h4 (by rw [hr]; exact hbad))
        rw [hr] at HTW
        subst h24 h4
        clear hR hb15 hb22 h15 h22 hr
        go_enter Tryz.func72, Tryz.ntmps72
        go_wp2_with fail
        refine (HS.out _ (HM.out.gr (Gr.al _ _))).mono ?_
        rintro e w1 ⟨rfl, hm1, hA1⟩
        have B1 := hm1.blk (blk_alloc w (.cells #[ptrV b] 53)) (by omega)
        have hM1 := ((Md.refl K.mb w).alloc (.cells #[ptrV b] 53)).trans hm1
        have b1 := cellAt B1 (i := 0) rfl
        have hl1 := blkLt B1
        clear hm1
        go_wp2_with fail
        refine (HOP.out _ hM1).mono ?_
        rintro e w2 ⟨rfl, hg2⟩
        have B2 := hg2.blk B1
        have hM2 := hM1.trans (.of_gr hg2)
        have hA2 := hA1.gr hg2
        have b2 := cellAt B2 (i := 0) rfl
        have hl2 := blkLt B2
        clear hg2 hA1 hM1 B1 b1 hl1
        go_wp2_with fail
        refine (HTW.out _ hA2 hM2).mono ?_
        rintro e w3 ⟨hm3, hres⟩
        cases R with
        | bad => exact absurd rfl hbad
        | stop en fa m3 =>
          obtain ⟨rfl, hA3⟩ := hres
          exact ⟨rfl, hM2.trans hm3, rfl, hA3⟩
        | ok v m3 =>
          obtain ⟨rfl, hA3⟩ := hres
          go_wp2_with fail
          go_ret
          exact ⟨hM2.trans hm3, rfl, hA3⟩
theorem expr_all : ∀ k, XAt k
  | 0 => fun _ _ _ _ _ _ _ hbad => absurd rfl hbad
  | k + 1 => expr_ok k (expr_all k)
end Go.Proofs.YthniejnbkkkbnaaGreatDoor

namespace Go.Proofs.YthniejnbkkkbnaaGreatDoor
open Go.RowKit
set_option maxRecDepth 100000
set_option maxHeartbeats 4000000

theorem info_int : (Tryz.prog.info? 3).map (fun i => (i.zero, i.size, i.bytes)) = some (some (.int .i64 0), 1, 8) := by kernel_rfl
def UPost (K : WK) (w : World) (r : XR Unit) (e : Ending) (w' : World) : Prop :=
  Md K.mb w w' ∧ match r with
    | .ok _ m' => e = .returned (.bool false) ∧ MAt K m' w'
    | .stop en fa m' => e = thrown (wstopV en fa) ∧ MAt K m' w'
    | .bad => True
theorem stmtM_mk (k : Nat) (d : D) (ks : List T) (m : MS) : stmtM k (.mk d ks) m = stepM m fun m => if d.op = 12 then (match ks with | [a] => xbind (exprM k a m) fun v m => if m.out = [] then .ok () { m with out := [v] } else .bad | _ => .bad) else .bad := rfl

theorem stmt_walk (k : Nat) (K : WK) (m : MS) (w : World) (b : Nat) (t : T) (h : MAt K m w) (ht : TreeAt w K.X b t) (hbad : stmtM k t m ≠ .bad) :
    Calls Tryz.prog 47 #[ptrV K.mb, nodeV b] w (UPost K w (stmtM k t m)) := by
  obtain ⟨i0, hi0, hz0, hz1, hz2⟩ := info_parts info_int
  have HT : Hid (∀ w', Md K.mb w w' → TreeAt w' K.X b t) := fun w' hm => Md.tree ht K.hX hm
  have HOP := Lib.hid (fun w' (hm : Md K.mb w w') => Op_any (nodeV b) (some t) K.X w' ⟨b, rfl, HT.out w' hm⟩)
  have hmb := h.lt
  have HM := Lib.hid h
  obtain ⟨R, hR⟩ : ∃ R, stmtM k t m = R := ⟨_, rfl⟩
  rw [hR] at hbad ⊢
  obtain ⟨d, ks⟩ := t
  rw [stmtM_mk] at hR
  unfold stepM at hR
  cases hfu : m.fuel with
  | zero =>
    rw [hfu] at hR
    have hr : .stop 3 0 m = R := hR
    have HSN := Lib.hid (fun w' (h : MAt K m w') => step_no K m w' h hfu)
    clear h ht hR
    go_enter Tryz.func47, Tryz.ntmps47
    go_wp2_with fail
    refine (HSN.out _ (HM.out.gr (Gr.al _ _))).mono ?_
    rintro e w1 ⟨rfl, hg1⟩
    refine ⟨rfl, ?_⟩
    rw [← hr]
    exact ⟨Md.of_gr ((Gr.al _ _).trans hg1), rfl, (HM.out.gr (Gr.al _ _)).gr hg1⟩
  | succ n =>
    rw [hfu] at hR
    simp only [] at hR
    obtain ⟨m0, hm0⟩ : ∃ m0 : MS, m0 = { m with fuel := n, steps := m.steps + 1 } := ⟨_, rfl⟩
    rw [← hm0] at hR
    have HS := Lib.hid (fun w' (h : MAt K m w') => step_yes K m n w' h hfu)
    rw [← hm0] at HS
    clear hm0 hfu
    split at hR
    case isFalse => exact absurd hR.symm hbad
    rename_i h12
    have e1 : (dO (some (T.mk d ks))).op = 12 := h12
    rw [e1] at HOP
    obtain ⟨x, rfl⟩ : ∃ x, ks = [x] := by
      match ks, hR with
      | [x], _ => exact ⟨x, rfl⟩
      | [], hR => exact absurd hR.symm hbad
      | _ :: _ :: _, hR => exact absurd hR.symm hbad
    simp only [] at hR
    have HKA := Lib.hid (fun w' (hm : Md K.mb w w') => Kid_some b (.mk d [x]) K.X 0 (by decide) x rfl w' (HT.out w' hm))
    obtain ⟨r1, hr1⟩ : ∃ r1, exprM k x m0 = r1 := ⟨_, rfl⟩
    have HX : Hid (∀ w' b', MAt K m0 w' → TreeAt w' K.X b' x → r1 ≠ .bad → Calls Tryz.prog 72 #[ptrV K.mb, nodeV b'] w' (XPost K w' r1)) := by
      rw [← hr1]
      exact fun w' b' h1 h2 h3 => expr_all k K m0 w' b' x h1 h2 h3
    rw [hr1] at hR
    have HR := Lib.hid hR
    clear h ht h12 e1 hr1 hR
    go_enter Tryz.func47, Tryz.ntmps47
    go_wp2_with fail
    refine (HS.out _ (HM.out.gr (Gr.al _ _))).mono ?_
    rintro e w1 ⟨rfl, hm1, hA1⟩
    have B1 := hm1.blk (blk_alloc w (.cells #[ptrV b] 53)) (by omega)
    have hM1 := ((Md.refl K.mb w).alloc (.cells #[ptrV b] 53)).trans hm1
    have b1 := cellAt B1 (i := 0) rfl
    have hl1 := blkLt B1
    clear hm1
    go_wp2_with fail
    refine (HOP.out _ hM1).mono ?_
    rintro e w2 ⟨rfl, hg2⟩
    have B2 := hg2.blk B1
    have hM2 := hM1.trans (.of_gr hg2)
    have hA2 := hA1.gr hg2
    have b2 := cellAt B2 (i := 0) rfl
    have hl2 := blkLt B2
    clear hg2 hA1 hM1 B1 b1 hl1
    go_wp2_with fail
    refine (HKA.out _ hM2).mono ?_
    rintro e w3 ⟨bx, rfl, hx, hg3⟩
    have hM3 := (hM2.trans (.of_gr hg3)).alloc (.cells #[ptrV bx] 53)
    have hA3 := (hA2.gr hg3).gr (Gr.al w3 (.cells #[ptrV bx] 53))
    have hx3 := (hx.gr hg3).gr (Gr.al w3 (.cells #[ptrV bx] 53))
    have hs3 := hg3.size
    clear hg3 hA2 hM2 B2 b2 hl2 hx
    cases r1 with
    | bad => exact absurd HR.out.symm hbad
    | stop en fa m1 =>
      have hr : .stop en fa m1 = R := HR.out
      go_wp2_with fail
      refine (HX.out _ bx hA3 hx3 (by intro h; cases h)).mono ?_
      rintro e w4 ⟨hm4, rfl, hA4⟩
      refine ⟨rfl, ?_⟩
      rw [← hr]
      exact ⟨hM3.trans hm4, rfl, hA4⟩
    | ok v1 m1 =>
      have hr : (if m1.out = [] then .ok () { m1 with out := [v1] } else .bad) = R := HR.out
      by_cases ho : m1.out = []
      · rw [if_pos ho] at hr
        go_wp2_with fail
        refine (HX.out _ bx hA3 hx3 (by intro h; cases h)).mono ?_
        rintro e w4 ⟨hm4, rfl, hA4⟩
        have hM4 := hM3.trans hm4
        have hl4 := hm4.size
        have HA4 := Lib.hid hA4
        obtain ⟨A, c, oA, oc, hb4, hrw, how, hon, hs, hc, hl⟩ := hA4
        obtain ⟨rfl, rfl⟩ := hon.1 ho
        rw [ho] at hb4
        obtain ⟨_, _, h8, _⟩ := cells15 hb4
        have fr := frozenAt hb4
        have hlb := blkLt hb4
        have HB4 := Lib.hid hb4
        simp only [List.length_nil] at h8
        clear hb4 hm4 hA3 hx3
        go_wp2_with (at_builtin; refine wpList_append_own _ rfl _ _ 22 rfl w4.heap.size 3 i0 _ 1 8 Tryz.underlying22 hi0 hz0 hz1 hz2 rfl (by decide) _ 0 [] rfl (World.ownsRow_nil _ _ _ _) ⟨w4.heap.size, 0, none⟩ 1 1 [iV v1] rfl rfl ?c1 ?c2 ?c3 ?c4 ?c5 ?_)
        case c1 => exact World.news_of_block (blk_alloc _ _)
        case c2 => simp [Value.oneCell']
        case c3 => unfold maxLen; omega
        case c4 => omega
        case c5 => simp
        intro v' w5 hown5 hgrow _
        have hG5 : Gr w4 w5 := (Gr.al _ _).grown hgrow (fun k e => by cases e)
        obtain ⟨A', c', rfl, hcc, hro⟩ := ownRow_row hown5
        have hlo : ∀ k, some k = (Value.slice A' (0 + 1) c').ownBlock → w4.heap.size ≤ k := fun k e => (hown5.lt k e.symm).1
        have hM5 := hM4.trans (.of_gr hG5)
        have B5 := hG5.blk HB4.out
        have HA5 := Lib.hid (HA4.out.gr hG5)
        have fr5 := frozenAt B5
        obtain ⟨_, _, g8, _⟩ := cells15 B5
        have hlb5 := blkLt B5
        have HB5 := Lib.hid B5
        clear hown5 hgrow B5 hs h8 fr
        go_wp2_with fail
        go_ret
        rw [← hr]
        refine ⟨hM5.own _ _, rfl, A, c, A', c', blk_setCell_to HB5.out rfl, ?_, ?_, ?_, ?_, hc, hl⟩
        · exact (hrw.gr hG5).frame fun k hk _ => frame_own (K.hX k hk)
        · refine (hro.frame fun k hk _ => frame_own (by have := hlo k hk; omega)).imp (fun k _ hk => by have := hlo k hk; omega)
        · exact ⟨fun h => (by cases h), hcc⟩
        · obtain ⟨_, _, _, _, _, _, _, _, hs, _⟩ := HA4.out
          exact hs
      · rw [if_neg ho] at hr
        exact absurd hr.symm hbad

theorem inside_drop (k : Nat) (ks : List T) (j : Nat) (d : T) (hj : ks[j]? = some d) (m : MS) : insideM k (ks.drop j) m = xbind (stmtM k d m) fun _ m => insideM k (ks.drop (j + 1)) m := by
  obtain ⟨hlt, he⟩ := List.getElem?_eq_some_iff.1 hj
  rw [List.drop_eq_getElem_cons hlt, he]; rfl
theorem inside_walk (k : Nat) (K : WK) (m : MS) (w : World) (b : Nat) (t : T) (h : MAt K m w) (ht : TreeAt w K.X b t) (hl : t.kids.length < 1000000) (hbad : insideM k t.kids m ≠ .bad) :
    Calls Tryz.prog 37 #[ptrV K.mb, nodeV b] w (UPost K w (insideM k t.kids m)) := by
  have HT : Hid (∀ w', Md K.mb w w' → TreeAt w' K.X b t) := fun w' hm => Md.tree ht K.hX hm
  have HKS := Lib.hid (fun w' (hm : Md K.mb w w') => Kids_any (nodeV b) (some t) K.X w' ⟨b, rfl, HT.out w' hm⟩)
  have HKD := Lib.hid (fun (i : Nat) t' (ht : t.kids[i]? = some t') w' (hm : Md K.mb w w') => Kid_some b t K.X (i : Int) (by omega) t' (by simpa using ht) w' (HT.out w' hm))
  obtain ⟨ks, hks⟩ : ∃ ks, ks = t.kids := ⟨_, rfl⟩
  rw [show kidsO (some t) = t.kids from rfl, ← hks] at HKS
  rw [← hks] at hl HKD hbad ⊢
  obtain ⟨n, hn⟩ : ∃ n, n = ks.length := ⟨_, rfl⟩
  rw [← hn] at HKS hl
  have HN := Lib.hid hn
  have hmb := h.lt
  have HM := Lib.hid h
  obtain ⟨R, hR⟩ : ∃ R, insideM k ks m = R := ⟨_, rfl⟩
  rw [hR] at hbad ⊢
  have HR := Lib.hid hR
  clear h ht hks hn hR
  go_enter Tryz.func37, Tryz.ntmps37
  go_wp2_with fail
  have B0 := blk_alloc w (.cells #[ptrV b] 53)
  have hM0 := (Md.refl K.mb w).alloc (.cells #[ptrV b] 53)
  refine (HKS.out _ hM0).mono ?_
  rintro e w1 ⟨rfl, hg1⟩
  have B1 := hg1.blk B0
  have hM1 := hM0.trans (.of_gr hg1)
  have HA1 := Lib.hid ((HM.out.gr (Gr.al w (.cells #[ptrV b] 53))).gr hg1)
  clear hg1 B0 hM0
  go_wp2_with fail
  go_loopw [5, 8] (fun _ t wr => ∃ (j : Nat) (mj : MS), j ≤ n ∧ t = .int .i64 j ∧ Md K.mb w wr ∧ wr.heap[w.heap.size]? = some (.cells #[ptrV b] 53 (0, 0)) ∧ Hid (MAt K mj wr) ∧ Hid (insideM k (ks.drop j) mj = R)) (fun _ t _ => n - (intOf t).toNat)
  case atStart => exact ⟨0, m, by omega, rfl, hM1, B1, HA1, by show insideM k (ks.drop 0) m = R; rw [List.drop_zero]; exact HR.out⟩
  case round =>
    obtain ⟨j, mj, hj, rfl, hM, hB, hA, hRR⟩ := hrel
    have b0 := cellAt hB (i := 0) rfl
    have hlr := blkLt hB
    by_cases hlt : j < n
    · have hjk : j < ks.length := by rw [← HN.out]; exact hlt
      obtain ⟨d, hd⟩ : ∃ d, ks[j]? = some d := ⟨ks[j], by simp [hjk]⟩
      have HK := Lib.hid (HKD.out j d hd wr hM)
      have hR2 := hRR.out
      rw [inside_drop k ks j d hd] at hR2
      obtain ⟨r1, hr1⟩ : ∃ r1, stmtM k d mj = r1 := ⟨_, rfl⟩
      have HX : Hid (∀ w' b', MAt K mj w' → TreeAt w' K.X b' d → r1 ≠ .bad → Calls Tryz.prog 47 #[ptrV K.mb, nodeV b'] w' (UPost K w' r1)) := by
        rw [← hr1]
        exact fun w' b' h1 h2 h3 => stmt_walk k K mj w' b' d h1 h2 h3
      rw [hr1] at hR2
      have HR2 := Lib.hid hR2
      have HB := Lib.hid hB
      clear hB hR2 hr1 hRR hd
      go_wp2_with fail
      refine HK.out.mono ?_
      rintro e w2 ⟨bj, rfl, htj, hg2⟩
      have HTJ := Lib.hid (htj.gr hg2)
      have hM2 := hM.trans (.of_gr hg2)
      have hB2 := hg2.blk HB.out
      have HA2 := Lib.hid (hA.out.gr hg2)
      clear htj hg2
      cases r1 with
      | bad => exact absurd HR2.out.symm hbad
      | stop en fa m1 =>
        have hr : .stop en fa m1 = R := HR2.out
        go_wp2_with fail
        refine (HX.out _ bj HA2.out HTJ.out (by intro h; cases h)).mono ?_
        rintro e w3 ⟨hm3, rfl, hA3⟩
        refine ⟨rfl, ?_⟩
        rw [← hr]
        exact ⟨hM2.trans hm3, rfl, hA3⟩
      | ok u m1 =>
        have HR3 : Hid (insideM k (ks.drop (j + 1)) m1 = R) := HR2.out
        go_wp2_with fail
        refine (HX.out _ bj HA2.out HTJ.out (by intro h; cases h)).mono ?_
        rintro e w3 ⟨hm3, rfl, hA3⟩
        have HA3 := Lib.hid hA3
        have hM3 := hM2.trans hm3
        have hB3 := hm3.blk hB2 (by omega)
        clear hA3 hm3 hB2
        go_wp2_with fail
        go_roundw
        case rel => exact ⟨j + 1, m1, by omega, by go_num, hM3, hB3, HA3, HR3⟩
        case measure => simp [intOf]; omega
    · have hr : .ok () mj = R := by
        have := hRR.out
        rw [List.drop_of_length_le (by rw [← HN.out]; omega)] at this
        exact this
      go_wp2_with fail
      go_ret
      rw [← hr]
      exact ⟨hM, rfl, hA.out⟩
end Go.Proofs.YthniejnbkkkbnaaGreatDoor
