/- Walks of layer check: unary; a call's arguments. -/
import Derived.Test.YthniejnbkkkbnaaGreatDoorM16
set_option linter.all false
set_option linter.unusedSimpArgs false
set_option linter.unusedVariables false
namespace Go.Proofs.YthniejnbkkkbnaaGreatDoor
open Go.RowKit
set_option maxRecDepth 100000
set_option maxHeartbeats 2000000

/-- The contract of expr at a tree. -/
def ExprOk (C : CK) (bl : List Blk) (ms : List Nat) (bv : Value) (t : T) : Prop :=
  ∀ (b : Nat) (w : World), CkAt C bl ms bv w → TreeAt w C.X b t → smallT t = true → exprC C.x bl t ≠ .bad → Calls Tryz.prog 163 #[ptrV C.cb, nodeV b] w (EPost w (exprC C.x bl t))
theorem smallT_mk {d : D} {ks : List T} (h : smallT (.mk d ks) = true) : d.name.length < 100000 ∧ d.typ.length < 100000 ∧ ks.length < 1000000 ∧ smallL ks = true := by
  unfold smallT at h
  simp only [Bool.and_eq_true, decide_eq_true_eq] at h
  exact ⟨h.1.1.1, h.1.1.2, h.1.2, h.2⟩
theorem smallL_mem {ks : List T} (h : smallL ks = true) : ∀ t ∈ ks, smallT t = true := by
  induction ks with
  | nil => intro t ht; cases ht
  | cons a r ih =>
    unfold smallL at h
    simp only [Bool.and_eq_true] at h
    intro t ht
    rcases List.mem_cons.1 ht with rfl | ht
    · exact h.1
    · exact ih h.2 t ht

def unaryR (d : D) (r : CR Str) : CR Str := cbind r fun t => if t = (if d.n = 18 then xBool else xInt) then .ok (if d.n = 18 then xBool else xInt) else .err d.at_ 7
theorem cunary_any (C : CK) (bl : List Blk) (ms : List Nat) (bv : Value) (b : Nat) (t a : T) (w : World) (h : CkAt C bl ms bv w) (ht : TreeAt w C.X b t) (hk : t.kids[0]? = some a) (ia : ExprOk C bl ms bv a) (hsa : smallT a = true)
    (hbad : unaryR t.d (exprC C.x bl a) ≠ .bad) : Calls Tryz.prog 218 #[ptrV C.cb, nodeV b] w (EPost w (unaryR t.d (exprC C.x bl a))) := by
  have HNU := Lib.hid (fun w' (hg : Gr w w') => Num_any (nodeV b) (some t) C.X w' ⟨b, rfl, ht.gr hg⟩)
  have HKD := Lib.hid (fun w' (hg : Gr w w') => Kid_some b t C.X 0 (by decide) a hk w' (ht.gr hg))
  have HMN := Lib.hid (fun er w' (hg : Gr w w') => must_no b t C.X er w' (ht.gr hg))
  have HMY := Lib.hid (fun er w' => must_yes (nodeV b) ⟨_, rfl⟩ er w')
  have hnb : exprC C.x bl a ≠ .bad := fun e => hbad (by rw [e]; rfl)
  have HEX := Lib.hid (fun ba w' (hg : Gr w w') (hta : TreeAt w' C.X ba a) => ia ba w' (h.gr hg) hta hsa hnb)
  obtain ⟨⟨op, name, typ, n, at_⟩, hd⟩ : ∃ d, t.d = d := ⟨_, rfl⟩
  have e2 : (dO (some t)).n = n := by show t.d.n = n; rw [hd]
  obtain ⟨ra, hra⟩ : ∃ ra, exprC C.x bl a = ra := ⟨_, rfl⟩
  rw [hra] at HEX hbad ⊢
  rw [e2] at HNU
  rw [hd] at HMN hbad ⊢
  simp only [] at HMN
  obtain ⟨R, hR⟩ : ∃ R, unaryR ⟨op, name, typ, n, at_⟩ ra = R := ⟨_, rfl⟩
  have HR := Lib.hid hR
  rw [hR] at hbad ⊢
  clear h ht e2 hd hra hk hR
  by_cases h18 : n = 18
  · subst h18
    have HW : Hid ((if (18 : Int) = 18 then xBool else xInt) = xBool) := if_pos rfl
    go_enter Tryz.func218, Tryz.ntmps218
    go_wp2_with fail
    refine (HNU.out _ (Gr.al _ _)).mono ?_
    rintro e w1 ⟨rfl, hg1⟩
    have B1 := hg1.blk (blk_alloc _ _)
    have b1 := cellAt B1 (i := 0) rfl
    have hG1 : Gr w w1 := (Gr.al _ _).trans hg1
    clear hg1
    go_wp2_with fail
    refine wp_region_held_drew (S := fun w' => w'.cell? ⟨w.heap.size, 0, none⟩ = some (ptrV b)) rfl b1 (fun hS => ?_)
    refine wpAnyH_take (i := 0) (v := ?_) rfl (by kernel_rfl) (by kernel_rfl) (by kernel_rfl) (fun _ _ _ h => h) (Or.inl ⟨by rfl, ?_⟩) hS ?_
    rotate_left
    · intro w' hSw; (try dsimp only at hSw); go_simp; try with_reducible rfl
    (try simp only [Act.put, List.setIfInBounds_toArray, List.set_cons_zero, List.set_cons_succ])
    refine wpAnyH_take (i := 1) (v := ?_) rfl (by kernel_rfl) (by kernel_rfl) (by kernel_rfl) (fun _ _ _ h => h) (Or.inl ⟨by rfl, ?_⟩) hS ?_
    rotate_left
    · intro w' hSw; (try dsimp only at hSw); go_simp; try with_reducible rfl
    (try simp only [Act.put, List.setIfInBounds_toArray, List.set_cons_zero, List.set_cons_succ])
    refine wpAnyH_take (i := 4) (v := ?_) rfl (by kernel_rfl) (by kernel_rfl) (by kernel_rfl) (fun _ _ _ h => h) (Or.inl ⟨by rfl, ?_⟩) hS ?_
    rotate_left
    · intro w' hSw; (try dsimp only at hSw); go_simp; try with_reducible rfl
    (try simp only [Act.put, List.setIfInBounds_toArray, List.set_cons_zero, List.set_cons_succ])
    refine wpAnyH_take (i := 6) (v := ?_) rfl (by kernel_rfl) (by kernel_rfl) (by kernel_rfl) (fun _ _ _ h => h) (Or.inl ⟨by rfl, ?_⟩) hS ?_
    rotate_left
    · intro w' hSw; (try dsimp only at hSw); go_simp; try with_reducible rfl
    (try simp only [Act.put, List.setIfInBounds_toArray, List.set_cons_zero, List.set_cons_succ])
    refine wpAnyH_ready (rs := [2]) (by kernel_rfl) (by simp) ?_
    refine AllReadyH.cons rfl (fun K' hK => ?_) AllReadyH.nil
    simp only [List.getElem_toArray, List.getElem_cons_succ, List.getElem_cons_zero]
    go_simp
    refine (HKD.out _ hG1.drew).mono ?_
    rintro e w2 ⟨ba, rfl, hta, hg2⟩
    have B2 := hg2.blk B1
    have hG2 : Gr w w2 := hG1.drew.trans hg2
    refine hK.out _ _ (cellAt B2 rfl) (fun hS => ?_)
    (try simp only [Act.put, List.setIfInBounds_toArray, List.set_cons_zero, List.set_cons_succ])
    refine wpAnyH_ready (rs := [3]) (by kernel_rfl) (by simp) ?_
    refine AllReadyH.cons rfl (fun K' hK => ?_) AllReadyH.nil
    simp only [List.getElem_toArray, List.getElem_cons_succ, List.getElem_cons_zero]
    go_simp
    refine (HEX.out ba _ hG2 (hta.gr hg2)).mono ?_
    rintro e w3 ⟨hg3, hres⟩
    have hG3 := hG2.trans hg3
    cases ra with
    | bad => exact absurd HR.out.symm hbad
    | err ea ec =>
      have hr : R = .err ea ec := HR.out.symm
      subst hr hres
      exact ⟨rfl, hG3, rfl⟩
    | ok ty =>
      simp only [] at hres
      subst hres
      have B3 := hg3.blk B2
      refine hK.out _ _ (cellAt B3 rfl) (fun hS => ?_)
      (try simp only [Act.put, List.setIfInBounds_toArray, List.set_cons_zero, List.set_cons_succ])
      have heq : ((S ty).toList == ([98, 111, 111, 108] : List UInt8)) = (ty == xBool) := eqL ty _
      refine wpAnyH_take (i := 5) (v := ?_) rfl (by kernel_rfl) (by kernel_rfl) (by kernel_rfl) (fun _ _ _ h => h) (Or.inl ⟨by rfl, ?_⟩) hS ?_
      rotate_left
      · intro w' hSw; (try dsimp only at hSw); go_simp; try with_reducible rfl
      (try simp only [Act.put, List.setIfInBounds_toArray, List.set_cons_zero, List.set_cons_succ])
      refine wpAnyH_ready (rs := [7]) (by kernel_rfl) (by simp) ?_
      refine AllReadyH.cons rfl (fun K' hK => ?_) AllReadyH.nil
      simp only [List.getElem_toArray, List.getElem_cons_succ, List.getElem_cons_zero]
      go_simp
      obtain ⟨q, hq⟩ : ∃ q, (ty == xBool) = q := ⟨_, rfl⟩
      rw [hq]
      cases q
      · refine (HMN.out 7 _ hG3).mono ?_
        rintro e w4 ⟨rfl, hg4⟩
        refine ⟨rfl, ?_⟩
        have hr : R = .err at_ 7 := by
          rw [← HR.out]
          have hne : ty ≠ xBool := by simpa using hq
          simp only [unaryR, cbind, HW.out, if_neg hne]
        rw [hr]
        exact ⟨hG3.trans hg4, rfl⟩
      · refine (HMY.out 7 _).mono ?_
        rintro e w4 ⟨rfl, hg4⟩
        have hr : Hid (R = .ok xBool) := by
          show R = .ok xBool
          rw [← HR.out]
          have hne : ty = xBool := by simpa using hq
          simp only [unaryR, cbind, HW.out, if_pos hne]
        refine hK.out _ _ (cellAt (hg4.blk B3) rfl) (fun hS => ?_)
        refine wpAnyH_done (by kernel_rfl) ?_ _
        have hG4 := hG3.trans hg4
        clear hK hq heq hg4 B3 hg3 B2
        go_wp2_with fail
        go_ret
        rw [hr.out]
        exact ⟨hG4, rfl⟩
  · have h18b : (n == 18) = false := by simp [h18]
    have HW : Hid ((if n = 18 then xBool else xInt) = xInt) := if_neg h18
    clear h18
    go_enter Tryz.func218, Tryz.ntmps218
    go_wp2_with fail
    refine (HNU.out _ (Gr.al _ _)).mono ?_
    rintro e w1 ⟨rfl, hg1⟩
    have B1 := hg1.blk (blk_alloc _ _)
    have b1 := cellAt B1 (i := 0) rfl
    have hG1 : Gr w w1 := (Gr.al _ _).trans hg1
    clear hg1
    go_wp2_with fail
    refine wp_region_held_drew (S := fun w' => w'.cell? ⟨w.heap.size, 0, none⟩ = some (ptrV b)) rfl b1 (fun hS => ?_)
    refine wpAnyH_take (i := 0) (v := ?_) rfl (by kernel_rfl) (by kernel_rfl) (by kernel_rfl) (fun _ _ _ h => h) (Or.inl ⟨by rfl, ?_⟩) hS ?_
    rotate_left
    · intro w' hSw; (try dsimp only at hSw); go_simp; try with_reducible rfl
    (try simp only [Act.put, List.setIfInBounds_toArray, List.set_cons_zero, List.set_cons_succ])
    refine wpAnyH_take (i := 1) (v := ?_) rfl (by kernel_rfl) (by kernel_rfl) (by kernel_rfl) (fun _ _ _ h => h) (Or.inl ⟨by rfl, ?_⟩) hS ?_
    rotate_left
    · intro w' hSw; (try dsimp only at hSw); go_simp; try with_reducible rfl
    (try simp only [Act.put, List.setIfInBounds_toArray, List.set_cons_zero, List.set_cons_succ])
    refine wpAnyH_take (i := 4) (v := ?_) rfl (by kernel_rfl) (by kernel_rfl) (by kernel_rfl) (fun _ _ _ h => h) (Or.inl ⟨by rfl, ?_⟩) hS ?_
    rotate_left
    · intro w' hSw; (try dsimp only at hSw); go_simp; try with_reducible rfl
    (try simp only [Act.put, List.setIfInBounds_toArray, List.set_cons_zero, List.set_cons_succ])
    refine wpAnyH_take (i := 6) (v := ?_) rfl (by kernel_rfl) (by kernel_rfl) (by kernel_rfl) (fun _ _ _ h => h) (Or.inl ⟨by rfl, ?_⟩) hS ?_
    rotate_left
    · intro w' hSw; (try dsimp only at hSw); go_simp; try with_reducible rfl
    (try simp only [Act.put, List.setIfInBounds_toArray, List.set_cons_zero, List.set_cons_succ])
    refine wpAnyH_ready (rs := [2]) (by kernel_rfl) (by simp) ?_
    refine AllReadyH.cons rfl (fun K' hK => ?_) AllReadyH.nil
    simp only [List.getElem_toArray, List.getElem_cons_succ, List.getElem_cons_zero]
    go_simp
    refine (HKD.out _ hG1.drew).mono ?_
    rintro e w2 ⟨ba, rfl, hta, hg2⟩
    have B2 := hg2.blk B1
    have hG2 : Gr w w2 := hG1.drew.trans hg2
    refine hK.out _ _ (cellAt B2 rfl) (fun hS => ?_)
    (try simp only [Act.put, List.setIfInBounds_toArray, List.set_cons_zero, List.set_cons_succ])
    refine wpAnyH_ready (rs := [3]) (by kernel_rfl) (by simp) ?_
    refine AllReadyH.cons rfl (fun K' hK => ?_) AllReadyH.nil
    simp only [List.getElem_toArray, List.getElem_cons_succ, List.getElem_cons_zero]
    go_simp
    refine (HEX.out ba _ hG2 (hta.gr hg2)).mono ?_
    rintro e w3 ⟨hg3, hres⟩
    have hG3 := hG2.trans hg3
    cases ra with
    | bad => exact absurd HR.out.symm hbad
    | err ea ec =>
      have hr : R = .err ea ec := HR.out.symm
      subst hr hres
      exact ⟨rfl, hG3, rfl⟩
    | ok ty =>
      simp only [] at hres
      subst hres
      have B3 := hg3.blk B2
      refine hK.out _ _ (cellAt B3 rfl) (fun hS => ?_)
      (try simp only [Act.put, List.setIfInBounds_toArray, List.set_cons_zero, List.set_cons_succ])
      have heq : ((S ty).toList == ([105, 110, 116] : List UInt8)) = (ty == xInt) := eqL ty _
      refine wpAnyH_take (i := 5) (v := ?_) rfl (by kernel_rfl) (by kernel_rfl) (by kernel_rfl) (fun _ _ _ h => h) (Or.inl ⟨by rfl, ?_⟩) hS ?_
      rotate_left
      · intro w' hSw; (try dsimp only at hSw); go_simp; try with_reducible rfl
      (try simp only [Act.put, List.setIfInBounds_toArray, List.set_cons_zero, List.set_cons_succ])
      refine wpAnyH_ready (rs := [7]) (by kernel_rfl) (by simp) ?_
      refine AllReadyH.cons rfl (fun K' hK => ?_) AllReadyH.nil
      simp only [List.getElem_toArray, List.getElem_cons_succ, List.getElem_cons_zero]
      go_simp
      obtain ⟨q, hq⟩ : ∃ q, (ty == xInt) = q := ⟨_, rfl⟩
      rw [hq]
      cases q
      · refine (HMN.out 7 _ hG3).mono ?_
        rintro e w4 ⟨rfl, hg4⟩
        refine ⟨rfl, ?_⟩
        have hr : R = .err at_ 7 := by
          rw [← HR.out]
          have hne : ty ≠ xInt := by simpa using hq
          simp only [unaryR, cbind, HW.out, if_neg hne]
        rw [hr]
        exact ⟨hG3.trans hg4, rfl⟩
      · refine (HMY.out 7 _).mono ?_
        rintro e w4 ⟨rfl, hg4⟩
        have hr : Hid (R = .ok xInt) := by
          show R = .ok xInt
          rw [← HR.out]
          have hne : ty = xInt := by simpa using hq
          simp only [unaryR, cbind, HW.out, if_pos hne]
        refine hK.out _ _ (cellAt (hg4.blk B3) rfl) (fun hS => ?_)
        refine wpAnyH_done (by kernel_rfl) ?_ _
        have hG4 := hG3.trans hg4
        clear hK hq heq hg4 B3 hg3 B2
        go_wp2_with fail
        go_ret
        rw [hr.out]
        exact ⟨hG4, rfl⟩
end Go.Proofs.YthniejnbkkkbnaaGreatDoor
