/- Walks of layer check: variable, made, field. -/
import Derived.Test.YthniejnbkkkbnaaGreatDoorM14
import Derived.Test.YthniejnbkkkbnaaGreatDoorM07
set_option linter.all false
set_option linter.unusedSimpArgs false
set_option linter.unusedVariables false
namespace Go.Proofs.YthniejnbkkkbnaaGreatDoor
open Go.RowKit
set_option maxRecDepth 100000
set_option maxHeartbeats 2000000

def EPost (w : World) (r : CR Str) (e : Ending) (w' : World) : Prop :=
  Gr w w' ∧ match r with
    | .ok t => e = .returned (.string (S t))
    | .err a c => e = thrownC (cstopV a c)
    | .bad => True

theorem pointer_any (x : Str) (hx : x.length < 1000000) (w : World) : Calls Tryz.prog 209 #[.string (S x)] w fun e w' => e = .returned (.string (S (42 :: x))) ∧ w = w' := by
  have := Pointer_any (S x) (by rw [size_S]; exact hx) w
  rw [data_S] at this
  exact this

theorem cmade_any (C : CK) (bl : List Blk) (ms : List Nat) (bv : Value) (b : Nat) (t : T) (w : World) (h : CkAt C bl ms bv w) (ht : TreeAt w C.X b t) (hsm : t.d.name.length < 1000000) :
    Calls Tryz.prog 216 #[ptrV C.cb, nodeV b] w (EPost w (madeC C.x t.d)) := by
  have HC := Lib.hid h
  have HNM := Lib.hid (fun w' (hg : Gr w w') => Name_any (nodeV b) (some t) C.X w' ⟨b, rfl, ht.gr hg⟩)
  have HIN := Lib.hid (fun w' (hg : Gr w w') => isNamed_any C bl ms bv t.d.name w' (h.gr hg))
  have HMN := Lib.hid (fun er w' (hg : Gr w w') => must_no b t C.X er w' (ht.gr hg))
  have HMY := Lib.hid (fun er w' => must_yes (nodeV b) ⟨_, rfl⟩ er w')
  have HFI := Lib.hid (fun w' (hg : Gr w w') => find_any C.x.structs C.sv _ t.d.name w' (h.st.gr hg) h.ls)
  obtain ⟨⟨op, name, typ, n, at_⟩, hd⟩ : ∃ d, t.d = d := ⟨_, rfl⟩
  have e1 : (dO (some t)).name = name := by show t.d.name = name; rw [hd]
  have hM : Hid (madeC C.x t.d = if !isNamedP C.x name then .err at_ 5 else if findS C.x.structs name < 0 then .err at_ 7 else .ok (42 :: name)) := by show madeC C.x t.d = _; rw [hd]; rfl
  rw [e1] at HNM
  rw [hd] at HIN HMN HFI hsm
  simp only [] at HIN HMN HFI hsm
  have HPT := Lib.hid (pointer_any name hsm)
  obtain ⟨q, hq⟩ : ∃ q, isNamedP C.x name = q := ⟨_, rfl⟩
  obtain ⟨a, ha⟩ : ∃ a, findS C.x.structs name = a := ⟨_, rfl⟩
  rw [hq] at HIN hM
  rw [ha] at HFI hM
  unfold placeV at HFI
  clear h ht e1 hd hq ha
  go_enter Tryz.func216, Tryz.ntmps216
  go_wp2_with fail
  have B0 := blk_alloc w (.cells #[ptrV b] 53)
  refine wp_region_held_drew (S := fun w' => w'.cell? ⟨w.heap.size, 0, none⟩ = some (ptrV b)) rfl (cellAt B0 rfl) (fun hS => ?_)
  refine wpAnyH_take (i := 0) (v := ?_) rfl (by kernel_rfl) (by kernel_rfl) (by kernel_rfl) (fun _ _ _ h => h) (Or.inl ⟨by rfl, ?_⟩) hS ?_
  rotate_left
  · intro w' hSw; (try dsimp only at hSw); go_simp; try with_reducible rfl
  (try simp only [Act.put, List.setIfInBounds_toArray, List.set_cons_zero, List.set_cons_succ])
  refine wpAnyH_take (i := 1) (v := ?_) rfl (by kernel_rfl) (by kernel_rfl) (by kernel_rfl) (fun _ _ _ h => h) (Or.inl ⟨by rfl, ?_⟩) hS ?_
  rotate_left
  · intro w' hSw; (try dsimp only at hSw); go_simp; try with_reducible rfl
  (try simp only [Act.put, List.setIfInBounds_toArray, List.set_cons_zero, List.set_cons_succ])
  refine wpAnyH_take (i := 4) (v := ?_) rfl (by kernel_rfl) (by kernel_rfl) (by kernel_rfl) (fun _ _ _ h => h) (Or.inl ⟨by rfl, ?_⟩) hS ?_
  rotate_left
  · intro w' hSw; (try dsimp only at hSw); go_simp; try with_reducible rfl
  (try simp only [Act.put, List.setIfInBounds_toArray, List.set_cons_zero, List.set_cons_succ])
  refine wpAnyH_ready (rs := [2]) (by kernel_rfl) (by simp) ?_
  refine AllReadyH.cons rfl (fun K' hK => ?_) AllReadyH.nil
  simp only [List.getElem_toArray, List.getElem_cons_succ, List.getElem_cons_zero]
  go_simp
  refine (HNM.out _ ((Gr.al _ _).drew)).mono ?_
  rintro e w2 ⟨rfl, hg2⟩
  have B2 := hg2.blk B0
  have hG2 : Gr w w2 := ((Gr.al _ _).drew).trans hg2
  refine hK.out _ _ (cellAt B2 rfl) (fun hS => ?_)
  (try simp only [Act.put, List.setIfInBounds_toArray, List.set_cons_zero, List.set_cons_succ])
  refine wpAnyH_ready (rs := [3]) (by kernel_rfl) (by simp) ?_
  refine AllReadyH.cons rfl (fun K' hK => ?_) AllReadyH.nil
  simp only [List.getElem_toArray, List.getElem_cons_succ, List.getElem_cons_zero]
  go_simp
  refine (HIN.out _ hG2).mono ?_
  rintro e w3 ⟨rfl, hg3⟩
  have B3 := hg3.blk B2
  have hG3 := hG2.trans hg3
  refine hK.out _ _ (cellAt B3 rfl) (fun hS => ?_)
  (try simp only [Act.put, List.setIfInBounds_toArray, List.set_cons_zero, List.set_cons_succ])
  refine wpAnyH_ready (rs := [5]) (by kernel_rfl) (by simp) ?_
  refine AllReadyH.cons rfl (fun K' hK => ?_) AllReadyH.nil
  simp only [List.getElem_toArray, List.getElem_cons_succ, List.getElem_cons_zero]
  go_simp
  cases q
  · refine (HMN.out 5 _ hG3).mono ?_
    rintro e w4 ⟨rfl, hg4⟩
    have hr : madeC C.x t.d = .err at_ 5 := by rw [hM.out]; rfl
    refine ⟨rfl, ?_⟩
    (try rw [hr])
    exact ⟨hG3.trans hg4, rfl⟩
  · refine (HMY.out 5 _).mono ?_
    rintro e w4 ⟨rfl, hg4⟩
    have B4 := hg4.blk B3
    have hG4 := hG3.trans hg4
    refine hK.out _ _ (cellAt B4 rfl) (fun hS => ?_)
    (try simp only [Act.put, List.setIfInBounds_toArray, List.set_cons_zero, List.set_cons_succ])
    refine wpAnyH_done (by kernel_rfl) ?_ _
    obtain ⟨c0, c1, c2, c3, c4⟩ := (HC.out.gr hG4).cells
    have hl4 := (HC.out.gr hG4).lt
    have b4 := cellAt B4 (i := 0) rfl
    have HB4 := Lib.hid B4
    clear hK B0 B2 B3 hg2 hg3 hg4 hG2 hG3 B4
    go_wp2_with fail
    refine wp_region_held_drew (S := fun w' => w'.cell? ⟨w.heap.size, 0, none⟩ = some (ptrV b) ∧ w'.cell? ⟨C.cb, 0, none⟩ = some C.sv) rfl ⟨b4, c0⟩ (fun hS => ?_)
    refine wpAnyH_take (i := 0) (v := ?_) rfl (by kernel_rfl) (by kernel_rfl) (by kernel_rfl) (fun _ _ _ h => h) (Or.inl ⟨by rfl, ?_⟩) hS ?_
    rotate_left
    · intro w' hSw; (try dsimp only at hSw); go_simp; try with_reducible rfl
    (try simp only [Act.put, List.setIfInBounds_toArray, List.set_cons_zero, List.set_cons_succ])
    refine wpAnyH_take (i := 1) (v := ?_) rfl (by kernel_rfl) (by kernel_rfl) (by kernel_rfl) (fun _ _ _ h => h) (Or.inl ⟨by rfl, ?_⟩) hS ?_
    rotate_left
    · intro w' hSw; (try dsimp only at hSw); go_simp; try with_reducible rfl
    (try simp only [Act.put, List.setIfInBounds_toArray, List.set_cons_zero, List.set_cons_succ])
    refine wpAnyH_take (i := 2) (v := ?_) rfl (by kernel_rfl) (by kernel_rfl) (by kernel_rfl) (fun _ _ _ h => h) (Or.inl ⟨by rfl, ?_⟩) hS ?_
    rotate_left
    · intro w' hSw; (try dsimp only at hSw); go_simp; try with_reducible rfl
    (try simp only [Act.put, List.setIfInBounds_toArray, List.set_cons_zero, List.set_cons_succ])
    refine wpAnyH_take (i := 3) (v := ?_) rfl (by kernel_rfl) (by kernel_rfl) (by kernel_rfl) (fun _ _ _ h => h) (Or.inl ⟨by rfl, ?_⟩) hS ?_
    rotate_left
    · intro w' hSw; (try dsimp only at hSw); go_simp; try with_reducible rfl
    (try simp only [Act.put, List.setIfInBounds_toArray, List.set_cons_zero, List.set_cons_succ])
    refine wpAnyH_take (i := 4) (v := ?_) rfl (by kernel_rfl) (by kernel_rfl) (by kernel_rfl) (fun _ _ _ h => h) (Or.inl ⟨by rfl, ?_⟩) hS ?_
    rotate_left
    · intro w' hSw; (try dsimp only at hSw); go_simp; try with_reducible rfl
    (try simp only [Act.put, List.setIfInBounds_toArray, List.set_cons_zero, List.set_cons_succ])
    refine wpAnyH_take (i := 5) (v := ?_) rfl (by kernel_rfl) (by kernel_rfl) (by kernel_rfl) (fun _ _ _ h => h) (Or.inl ⟨by rfl, ?_⟩) hS ?_
    rotate_left
    · intro w' hSw; (try dsimp only at hSw); go_simp; try with_reducible rfl
    (try simp only [Act.put, List.setIfInBounds_toArray, List.set_cons_zero, List.set_cons_succ])
    refine wpAnyH_ready (rs := [6]) (by kernel_rfl) (by simp) ?_
    refine AllReadyH.cons rfl (fun K' hK => ?_) AllReadyH.nil
    simp only [List.getElem_toArray, List.getElem_cons_succ, List.getElem_cons_zero]
    go_simp
    refine (HNM.out _ hG4.drew).mono ?_
    rintro e w5 ⟨rfl, hg5⟩
    have B5 := hg5.blk HB4.out
    have hG5 : Gr w w5 := hG4.drew.trans hg5
    refine hK.out _ _ ⟨cellAt B5 rfl, (HC.out.gr hG5).cells.1⟩ (fun hS => ?_)
    (try simp only [Act.put, List.setIfInBounds_toArray, List.set_cons_zero, List.set_cons_succ])
    refine wpAnyH_ready (rs := [7]) (by kernel_rfl) (by simp) ?_
    refine AllReadyH.cons rfl (fun K' hK => ?_) AllReadyH.nil
    simp only [List.getElem_toArray, List.getElem_cons_succ, List.getElem_cons_zero]
    go_simp
    refine (HFI.out _ hG5).mono ?_
    rintro e w6 ⟨rfl, hg6⟩
    have B6 := hg6.blk B5
    have hG6 : Gr w w6 := hG5.trans hg6
    refine hK.out _ _ ⟨cellAt B6 rfl, (HC.out.gr hG6).cells.1⟩ (fun hS => ?_)
    (try simp only [Act.put, List.setIfInBounds_toArray, List.set_cons_zero, List.set_cons_succ])
    refine wpAnyH_take (i := 8) (v := ?_) rfl (by kernel_rfl) (by kernel_rfl) (by kernel_rfl) (fun _ _ _ h => h) (Or.inl ⟨by rfl, ?_⟩) hS ?_
    rotate_left
    · intro w' hSw; (try dsimp only at hSw); go_simp; try with_reducible rfl
    (try simp only [Act.put, List.setIfInBounds_toArray, List.set_cons_zero, List.set_cons_succ])
    refine wpAnyH_take (i := 9) (v := ?_) rfl (by kernel_rfl) (by kernel_rfl) (by kernel_rfl) (fun _ _ _ h => h) (Or.inl ⟨by rfl, ?_⟩) hS ?_
    rotate_left
    · intro w' hSw; (try dsimp only at hSw); go_simp; try with_reducible rfl
    (try simp only [Act.put, List.setIfInBounds_toArray, List.set_cons_zero, List.set_cons_succ])
    refine wpAnyH_take (i := 10) (v := ?_) rfl (by kernel_rfl) (by kernel_rfl) (by kernel_rfl) (fun _ _ _ h => h) (Or.inl ⟨by rfl, ?_⟩) hS ?_
    rotate_left
    · intro w' hSw; (try dsimp only at hSw); go_simp; try with_reducible rfl
    (try simp only [Act.put, List.setIfInBounds_toArray, List.set_cons_zero, List.set_cons_succ])
    refine wpAnyH_take (i := 11) (v := ?_) rfl (by kernel_rfl) (by kernel_rfl) (by kernel_rfl) (fun _ _ _ h => h) (Or.inl ⟨by rfl, ?_⟩) hS ?_
    rotate_left
    · intro w' hSw; (try dsimp only at hSw); go_simp; try with_reducible rfl
    (try simp only [Act.put, List.setIfInBounds_toArray, List.set_cons_zero, List.set_cons_succ])
    refine wpAnyH_take (i := 12) (v := ?_) rfl (by kernel_rfl) (by kernel_rfl) (by kernel_rfl) (fun _ _ _ h => h) (Or.inl ⟨by rfl, ?_⟩) hS ?_
    rotate_left
    · intro w' hSw; (try dsimp only at hSw); go_simp; try with_reducible rfl
    (try simp only [Act.put, List.setIfInBounds_toArray, List.set_cons_zero, List.set_cons_succ])
    refine wpAnyH_done (by kernel_rfl) ?_ _
    have b6 := cellAt B6 (i := 0) rfl
    have hl6 := blkLt B6
    have HB6 := Lib.hid B6
    clear hK B5 hg5 hg6 hG5 HB4 b4 c0 c1 c2 c3 c4 B6 hl4
    by_cases ha : a < 0
    · have hr : madeC C.x t.d = .err at_ 7 := by rw [hM.out]; simp [ha]
      have hq : decide (0 ≤ a) = false := by simpa using ha
      rw [hq]
      go_wp2_with fail
      refine (HMN.out 7 _ hG6).mono ?_
      rintro e w7 ⟨rfl, hg7⟩
      refine ⟨rfl, ?_⟩
      (try rw [hr])
      exact ⟨hG6.trans hg7, rfl⟩
    · have hr : madeC C.x t.d = .ok (42 :: name) := by rw [hM.out]; simp [ha]
      have hq : decide (0 ≤ a) = true := by simp; omega
      rw [hq]
      go_wp2_with fail
      refine (HMY.out 7 _).mono ?_
      rintro e w7 ⟨rfl, hg7⟩
      have b7 := cellAt (hg7.blk HB6.out) (i := 0) rfl
      have hG7 := hG6.trans hg7
      go_wp2_with fail
      refine (HNM.out _ hG7).mono ?_
      rintro e w8 ⟨rfl, hg8⟩
      go_wp2_with fail
      refine (HPT.out _).mono ?_
      rintro e w9 ⟨rfl, rfl⟩
      go_wp2_with fail
      go_ret
      (try rw [hr])
      exact ⟨hG7.trans hg8, rfl⟩
theorem cvariable_any (C : CK) (bl : List Blk) (ms : List Nat) (bv : Value) (b : Nat) (t : T) (w : World) (h : CkAt C bl ms bv w) (ht : TreeAt w C.X b t) (hbad : variableC C.x bl t.d ≠ .bad) :
    Calls Tryz.prog 214 #[ptrV C.cb, nodeV b] w (EPost w (variableC C.x bl t.d)) := by
  have HC := Lib.hid h
  have HNM := Lib.hid (fun w' (hg : Gr w w') => Name_any (nodeV b) (some t) C.X w' ⟨b, rfl, ht.gr hg⟩)
  have HLO := Lib.hid (fun w' (hg : Gr w w') => local_any C bl ms bv t.d.name w' (h.gr hg))
  have HIN := Lib.hid (fun w' (hg : Gr w w') => isNamed_any C bl ms bv t.d.name w' (h.gr hg))
  have HMN := Lib.hid (fun er w' (hg : Gr w w') => must_no b t C.X er w' (ht.gr hg))
  have HMY := Lib.hid (fun er w' => must_yes (nodeV b) ⟨_, rfl⟩ er w')
  have HGL := Lib.hid (fun w' (hg : Gr w w') => infoGlobal_any C.x.globals C.sv C.gv C.fv _ t.d.name w' (h.fl.gr hg) h.lg)
  have hfl := h.fl
  obtain ⟨⟨op, name, typ, n, at_⟩, hd⟩ : ∃ d, t.d = d := ⟨_, rfl⟩
  have e1 : (dO (some t)).name = name := by show t.d.name = name; rw [hd]
  have hV : variableC C.x bl t.d = match localP bl name with
    | some t => .ok t
    | none => if !isNamedP C.x name then .err at_ 5 else if findF C.x.globals name < 0 then .err at_ 7 else match C.x.globals[(findF C.x.globals name).toNat]? with | some f => .ok f.typ | none => .bad := by rw [hd]; rfl
  rw [e1] at HNM
  rw [hd] at HIN HMN HGL HLO
  simp only [] at HIN HMN HGL HLO
  obtain ⟨R, hR⟩ : ∃ R, variableC C.x bl t.d = R := ⟨_, rfl⟩
  have hRV := hR.symm.trans hV
  rw [hR] at hbad ⊢
  obtain ⟨q, hq⟩ : ∃ q, isNamedP C.x name = q := ⟨_, rfl⟩
  obtain ⟨o, ho⟩ : ∃ o, localP bl name = o := ⟨_, rfl⟩
  obtain ⟨a, ha⟩ : ∃ a, findF C.x.globals name = a := ⟨_, rfl⟩
  rw [hq] at HIN hRV
  rw [ho] at HLO hRV
  rw [ha] at HGL hRV
  have halo := (idxFn_lt (fun s : Fld => s.name == name) C.x.globals)
  rw [show idxFn (fun s : Fld => s.name == name) C.x.globals = a from ha] at halo
  obtain ⟨halo, hahi⟩ := halo
  unfold placeV at HGL
  unfold optS at HLO
  have HR := Lib.hid hRV
  clear h ht e1 hd hq ha ho hV hR hRV
  cases o with
  | some ty =>
    clear hbad
    simp only [Option.getD, Option.isSome] at HLO
    go_enter Tryz.func214, Tryz.ntmps214
    go_wp2_with fail
    refine (HNM.out _ (Gr.al _ _)).mono ?_
    rintro e w1 ⟨rfl, hg1⟩
    go_wp2_with fail
    refine (HLO.out _ ((Gr.al _ _).trans hg1)).mono ?_
    rintro e w2 ⟨rfl, rfl⟩
    go_wp2_with fail
    go_ret
    rw [HR.out]
    exact ⟨(Gr.al _ _).trans hg1, rfl⟩
  | none =>
    simp only [Option.getD, Option.isSome] at HLO HR
    go_enter Tryz.func214, Tryz.ntmps214
    go_wp2_with fail
    refine (HNM.out _ (Gr.al _ _)).mono ?_
    rintro e w1 ⟨rfl, hg1⟩
    go_wp2_with fail
    refine (HLO.out _ ((Gr.al _ _).trans hg1)).mono ?_
    rintro e w2 ⟨rfl, rfl⟩
    have B1 := hg1.blk (blk_alloc _ _)
    have hG1 : Gr w w1 := (Gr.al _ _).trans hg1
    have b1 := cellAt B1 (i := 0) rfl
    clear hg1
    go_wp2_with fail
    refine wp_region_held_drew (S := fun w' => w'.cell? ⟨w.heap.size, 0, none⟩ = some (ptrV b)) rfl b1 (fun hS => ?_)
    refine wpAnyH_take (i := 0) (v := ?_) rfl (by kernel_rfl) (by kernel_rfl) (by kernel_rfl) (fun _ _ _ h => h) (Or.inl ⟨by rfl, ?_⟩) hS ?_
    rotate_left
    · intro w' hSw; (try dsimp only at hSw); go_simp; try with_reducible rfl
    (try simp only [Act.put, List.setIfInBounds_toArray, List.set_cons_zero, List.set_cons_succ])
    refine wpAnyH_take (i := 1) (v := ?_) rfl (by kernel_rfl) (by kernel_rfl) (by kernel_rfl) (fun _ _ _ h => h) (Or.inl ⟨by rfl, ?_⟩) hS ?_
    rotate_left
    · intro w' hSw; (try dsimp only at hSw); go_simp; try with_reducible rfl
    (try simp only [Act.put, List.setIfInBounds_toArray, List.set_cons_zero, List.set_cons_succ])
    refine wpAnyH_take (i := 4) (v := ?_) rfl (by kernel_rfl) (by kernel_rfl) (by kernel_rfl) (fun _ _ _ h => h) (Or.inl ⟨by rfl, ?_⟩) hS ?_
    rotate_left
    · intro w' hSw; (try dsimp only at hSw); go_simp; try with_reducible rfl
    (try simp only [Act.put, List.setIfInBounds_toArray, List.set_cons_zero, List.set_cons_succ])
    refine wpAnyH_ready (rs := [2]) (by kernel_rfl) (by simp) ?_
    refine AllReadyH.cons rfl (fun K' hK => ?_) AllReadyH.nil
    simp only [List.getElem_toArray, List.getElem_cons_succ, List.getElem_cons_zero]
    go_simp
    refine (HNM.out _ hG1.drew).mono ?_
    rintro e w2 ⟨rfl, hg2⟩
    have B2 := hg2.blk B1
    have hG2 : Gr w w2 := hG1.drew.trans hg2
    refine hK.out _ _ (cellAt B2 rfl) (fun hS => ?_)
    (try simp only [Act.put, List.setIfInBounds_toArray, List.set_cons_zero, List.set_cons_succ])
    refine wpAnyH_ready (rs := [3]) (by kernel_rfl) (by simp) ?_
    refine AllReadyH.cons rfl (fun K' hK => ?_) AllReadyH.nil
    simp only [List.getElem_toArray, List.getElem_cons_succ, List.getElem_cons_zero]
    go_simp
    refine (HIN.out _ hG2).mono ?_
    rintro e w3 ⟨rfl, hg3⟩
    have B3 := hg3.blk B2
    have hG3 := hG2.trans hg3
    refine hK.out _ _ (cellAt B3 rfl) (fun hS => ?_)
    (try simp only [Act.put, List.setIfInBounds_toArray, List.set_cons_zero, List.set_cons_succ])
    refine wpAnyH_ready (rs := [5]) (by kernel_rfl) (by simp) ?_
    refine AllReadyH.cons rfl (fun K' hK => ?_) AllReadyH.nil
    simp only [List.getElem_toArray, List.getElem_cons_succ, List.getElem_cons_zero]
    go_simp
    cases q
    · refine (HMN.out 5 _ hG3).mono ?_
      rintro e w4 ⟨rfl, hg4⟩
      refine ⟨rfl, ?_⟩
      rw [HR.out]
      exact ⟨hG3.trans hg4, rfl⟩
    · refine (HMY.out 5 _).mono ?_
      rintro e w4 ⟨rfl, hg4⟩
      have B4 := hg4.blk B3
      have hG4 := hG3.trans hg4
      refine hK.out _ _ (cellAt B4 rfl) (fun hS => ?_)
      (try simp only [Act.put, List.setIfInBounds_toArray, List.set_cons_zero, List.set_cons_succ])
      refine wpAnyH_done (by kernel_rfl) ?_ _
      obtain ⟨c0, c1, c2, c3, c4⟩ := (HC.out.gr hG4).cells
      have hl4 := (HC.out.gr hG4).lt
      have b4 := cellAt B4 (i := 0) rfl
      have HB4 := Lib.hid B4
      clear hK B1 B2 B3 hg2 hg3 hg4 hG2 hG3 B4 b1 hG1
      go_wp2_with fail
      refine wp_region_held_drew (S := fun w' => w'.cell? ⟨w.heap.size, 0, none⟩ = some (ptrV b) ∧ w'.cell? ⟨C.cb, 0, none⟩ = some C.sv ∧ w'.cell? ⟨C.cb, 1, none⟩ = some C.gv ∧ w'.cell? ⟨C.cb, 2, none⟩ = some C.fv) rfl ⟨b4, c0, c1, c2⟩ (fun hS => ?_)
      refine wpAnyH_take (i := 0) (v := ?_) rfl (by kernel_rfl) (by kernel_rfl) (by kernel_rfl) (fun _ _ _ h => h) (Or.inl ⟨by rfl, ?_⟩) hS ?_
      rotate_left
      · intro w' hSw; (try dsimp only at hSw); go_simp; try with_reducible rfl
      (try simp only [Act.put, List.setIfInBounds_toArray, List.set_cons_zero, List.set_cons_succ])
      refine wpAnyH_take (i := 1) (v := ?_) rfl (by kernel_rfl) (by kernel_rfl) (by kernel_rfl) (fun _ _ _ h => h) (Or.inl ⟨by rfl, ?_⟩) hS ?_
      rotate_left
      · intro w' hSw; (try dsimp only at hSw); go_simp; try with_reducible rfl
      (try simp only [Act.put, List.setIfInBounds_toArray, List.set_cons_zero, List.set_cons_succ])
      refine wpAnyH_take (i := 2) (v := ?_) rfl (by kernel_rfl) (by kernel_rfl) (by kernel_rfl) (fun _ _ _ h => h) (Or.inl ⟨by rfl, ?_⟩) hS ?_
      rotate_left
      · intro w' hSw; (try dsimp only at hSw); go_simp; try with_reducible rfl
      (try simp only [Act.put, List.setIfInBounds_toArray, List.set_cons_zero, List.set_cons_succ])
      refine wpAnyH_take (i := 3) (v := ?_) rfl (by kernel_rfl) (by kernel_rfl) (by kernel_rfl) (fun _ _ _ h => h) (Or.inl ⟨by rfl, ?_⟩) hS ?_
      rotate_left
      · intro w' hSw; (try dsimp only at hSw); go_simp; try with_reducible rfl
      (try simp only [Act.put, List.setIfInBounds_toArray, List.set_cons_zero, List.set_cons_succ])
      refine wpAnyH_take (i := 4) (v := ?_) rfl (by kernel_rfl) (by kernel_rfl) (by kernel_rfl) (fun _ _ _ h => h) (Or.inl ⟨by rfl, ?_⟩) hS ?_
      rotate_left
      · intro w' hSw; (try dsimp only at hSw); go_simp; try with_reducible rfl
      (try simp only [Act.put, List.setIfInBounds_toArray, List.set_cons_zero, List.set_cons_succ])
      refine wpAnyH_ready (rs := [5]) (by kernel_rfl) (by simp) ?_
      refine AllReadyH.cons rfl (fun K' hK => ?_) AllReadyH.nil
      simp only [List.getElem_toArray, List.getElem_cons_succ, List.getElem_cons_zero]
      go_simp
      refine (HNM.out _ hG4.drew).mono ?_
      rintro e w5 ⟨rfl, hg5⟩
      have B5 := hg5.blk HB4.out
      have hG5 : Gr w w5 := hG4.drew.trans hg5
      obtain ⟨x0, x1, x2, _, _⟩ := (HC.out.gr hG5).cells
      refine hK.out _ _ ⟨cellAt B5 rfl, x0, x1, x2⟩ (fun hS => ?_)
      (try simp only [Act.put, List.setIfInBounds_toArray, List.set_cons_zero, List.set_cons_succ])
      refine wpAnyH_ready (rs := [6]) (by kernel_rfl) (by simp) ?_
      refine AllReadyH.cons rfl (fun K' hK => ?_) AllReadyH.nil
      simp only [List.getElem_toArray, List.getElem_cons_succ, List.getElem_cons_zero]
      go_simp
      refine (HGL.out _ hG5).mono ?_
      rintro e w6 ⟨rfl, hg6⟩
      have B6 := hg6.blk B5
      have hG6 : Gr w w6 := hG5.trans hg6
      obtain ⟨y0, y1, y2, _, _⟩ := (HC.out.gr hG6).cells
      refine hK.out _ _ ⟨cellAt B6 rfl, y0, y1, y2⟩ (fun hS => ?_)
      (try simp only [Act.put, List.setIfInBounds_toArray, List.set_cons_zero, List.set_cons_succ])
      refine wpAnyH_take (i := 7) (v := ?_) rfl (by kernel_rfl) (by kernel_rfl) (by kernel_rfl) (fun _ _ _ h => h) (Or.inl ⟨by rfl, ?_⟩) hS ?_
      rotate_left
      · intro w' hSw; (try dsimp only at hSw); go_simp; try with_reducible rfl
      (try simp only [Act.put, List.setIfInBounds_toArray, List.set_cons_zero, List.set_cons_succ])
      refine wpAnyH_take (i := 8) (v := ?_) rfl (by kernel_rfl) (by kernel_rfl) (by kernel_rfl) (fun _ _ _ h => h) (Or.inl ⟨by rfl, ?_⟩) hS ?_
      rotate_left
      · intro w' hSw; (try dsimp only at hSw); go_simp; try with_reducible rfl
      (try simp only [Act.put, List.setIfInBounds_toArray, List.set_cons_zero, List.set_cons_succ])
      refine wpAnyH_take (i := 9) (v := ?_) rfl (by kernel_rfl) (by kernel_rfl) (by kernel_rfl) (fun _ _ _ h => h) (Or.inl ⟨by rfl, ?_⟩) hS ?_
      rotate_left
      · intro w' hSw; (try dsimp only at hSw); go_simp; try with_reducible rfl
      (try simp only [Act.put, List.setIfInBounds_toArray, List.set_cons_zero, List.set_cons_succ])
      refine wpAnyH_take (i := 10) (v := ?_) rfl (by kernel_rfl) (by kernel_rfl) (by kernel_rfl) (fun _ _ _ h => h) (Or.inl ⟨by rfl, ?_⟩) hS ?_
      rotate_left
      · intro w' hSw; (try dsimp only at hSw); go_simp; try with_reducible rfl
      (try simp only [Act.put, List.setIfInBounds_toArray, List.set_cons_zero, List.set_cons_succ])
      refine wpAnyH_take (i := 11) (v := ?_) rfl (by kernel_rfl) (by kernel_rfl) (by kernel_rfl) (fun _ _ _ h => h) (Or.inl ⟨by rfl, ?_⟩) hS ?_
      rotate_left
      · intro w' hSw; (try dsimp only at hSw); go_simp; try with_reducible rfl
      (try simp only [Act.put, List.setIfInBounds_toArray, List.set_cons_zero, List.set_cons_succ])
      refine wpAnyH_done (by kernel_rfl) ?_ _
      have b6 := cellAt B6 (i := 0) rfl
      have hl6 := blkLt B6
      have HB6 := Lib.hid B6
      clear hK B5 hg5 hg6 hG5 HB4 b4 c0 c1 c2 c3 c4 B6 hl4 x0 x1 x2 y0 y1 y2
      by_cases ha : a < 0
      · have hq : decide (0 ≤ a) = false := by simpa using ha
        rw [hq]
        have HA := Lib.hid ha
        clear hq
        go_wp2_with fail
        refine (HMN.out 7 _ hG6).mono ?_
        rintro e w7 ⟨rfl, hg7⟩
        refine ⟨rfl, ?_⟩
        rw [HR.out]
        simp only [Bool.not_true, Bool.false_eq_true, if_false, HA.out, if_true]
        exact ⟨hG6.trans hg7, rfl⟩
      · obtain ⟨j, rfl⟩ := Int.eq_ofNat_of_zero_le (by omega : 0 ≤ a)
        have hq : decide (0 ≤ (j : Int)) = true := by simp
        have hmx : max (j : Int) 0 = j := by omega
        have hjg : j < C.x.globals.length := by omega
        rw [hq, hmx]
        obtain ⟨Ag, cg, hgv, hcg, hrg⟩ := hfl
        obtain ⟨g, off, hA, hg, _, hcl⟩ := hrg.open_ (j := j * 2) (by rw [pairCells_length]; simp; omega)
        subst hA
        obtain ⟨t0, t1⟩ := pairCells_get (C.x.globals.map fldPair) j (by simpa using hjg)
        have d1 := hcl _ _ t1
        rw [← Nat.add_assoc] at d1
        simp only [List.getElem_map, fldPair] at d1
        have hres : C.x.globals[(j : Int).toNat]? = some C.x.globals[j] := by simp [hjg]
        obtain ⟨gty, hgty⟩ : ∃ gty, (C.x.globals[j]).typ = gty := ⟨_, rfl⟩
        rw [hgty] at d1
        have HRJ : Hid (R = .ok gty) := by
          show R = .ok gty
          rw [HR.out]
          simp only [Bool.not_true, Bool.false_eq_true, if_false, if_neg ha, hres, hgty]
        obtain ⟨ng, hng⟩ : ∃ ng, ng = C.x.globals.length := ⟨_, rfl⟩
        have hlen : (C.x.globals.map fldPair).length = ng := by rw [hng]; simp
        rw [hlen] at hgv hcg
        have hjn : j < ng := by omega
        have D1 := fun w' (hg' : Gr w w') => (hg'.cells.1 g (off + j * 2 + 1) hg).trans d1
        have HD1 := Lib.hid D1
        have HGV := Lib.hid hgv
        clear hbad hrg hcl t0 t1 d1 hres hgty hng hlen D1 hgv hq hmx ha
        go_wp2_with fail
        refine (HMY.out 7 _).mono ?_
        rintro e w7 ⟨rfl, hg7⟩
        have hG7 := hG6.trans hg7
        have hd7 := HD1.out w7 hG7
        obtain ⟨z0, z1, z2, _, _⟩ := (HC.out.gr hG7).cells
        rw [HGV.out] at z1
        go_wp2_with fail
        go_ret
        rw [HRJ.out]
        exact ⟨hG7, rfl⟩
end Go.Proofs.YthniejnbkkkbnaaGreatDoor
