/- The plain checker: statements keep the number of blocks. Walks of layer check: expr. -/
import Derived.Test.YthniejnbkkkbnaaGreatDoorM09
import Derived.Test.YthniejnbkkkbnaaGreatDoorM18
set_option linter.all false
set_option linter.unusedSimpArgs false
set_option linter.unusedVariables false
namespace Go.Proofs.YthniejnbkkkbnaaGreatDoor
mutual
def sizeT : T → Nat
  | .mk _ ks => 1 + sizeL ks
def sizeL : List T → Nat
  | [] => 0
  | t :: r => sizeT t + sizeL r
end
theorem sizeL_mem {ks : List T} : ∀ {t : T}, t ∈ ks → sizeT t ≤ sizeL ks := by
  induction ks with
  | nil => intro t ht; cases ht
  | cons a r ih =>
    intro t ht
    rw [sizeL]
    rcases List.mem_cons.1 ht with rfl | ht
    · omega
    · have := ih ht; omega
theorem cbind_ok {α β : Type} {x : CR α} {f : α → CR β} {b : β} (h : cbind x f = .ok b) : ∃ a, x = .ok a ∧ f a = .ok b := by
  cases x with
  | ok a => exact ⟨a, rfl, h⟩
  | err a e => cases h
  | bad => cases h
theorem shortC_ok {α : Type} {t : Str} {r : CR α} {b : α} (h : shortC t r = .ok b) : r = .ok b ∧ t.length < 1000000 := by
  unfold shortC at h
  split at h
  · exact ⟨h, ‹_›⟩
  · cases h
theorem insideC_len {x : Info} {res : Str} {ks : List T} (ih : ∀ a ∈ ks, ∀ bl bl', stmtC x res a bl = .ok bl' → bl'.length = bl.length) : ∀ bl bl', insideC x res ks bl = .ok bl' → bl'.length = bl.length := by
  induction ks with
  | nil => intro bl bl' h; rw [insideC] at h; injection h with h; rw [h]
  | cons a r ihr =>
    intro bl bl' h
    rw [insideC] at h
    obtain ⟨b2, h1, h2⟩ := cbind_ok h
    rw [ihr (fun t ht => ih t (.tail _ ht)) _ _ h2, ih a (.head _) _ _ h1]
theorem defineC_len {d : D} {bl bl' : List Blk} {t : Str} (h : defineC d bl t = .ok bl') : bl'.length = bl.length := by
  unfold defineC at h
  cases hl : bl.getLast? with
  | none => rw [hl] at h; cases h
  | some m =>
    rw [hl] at h
    simp only [] at h
    split at h
    · cases h
    · split at h
      · cases h
      · injection h with h
        have hne : bl ≠ [] := fun e => by rw [e] at hl; cases hl
        have : 0 < bl.length := List.length_pos_iff.2 hne
        rw [← h]; simp; omega
theorem ite_ok {α : Type} {p : Prop} [Decidable p] {a b : α} {at_ e : Int} (h : (if p then CR.ok a else CR.err at_ e) = .ok b) : a = b := by
  split at h
  · injection h
  · cases h
theorem stmtC_len_step {x : Info} {res : Str} {d : D} {ks : List T} (ih : ∀ a ∈ ks, ∀ bl bl', stmtC x res a bl = .ok bl' → bl'.length = bl.length) {bl bl' : List Blk} (h : stmtC x res (.mk d ks) bl = .ok bl') : bl'.length = bl.length := by
  unfold stmtC at h
  by_cases h6 : d.op = 6
  · rw [if_pos h6] at h
    split at h
    · cases h
    · obtain ⟨b2, h1, h2⟩ := cbind_ok h
      injection h2 with h2
      have := insideC_len ih _ _ h1
      simp at this
      rw [← h2]; simp; omega
  rw [if_neg h6] at h
  by_cases h7 : d.op = 7
  · rw [if_pos h7] at h
    cases ks with
    | nil => cases h
    | cons a r => obtain ⟨t, _, h2⟩ := cbind_ok h; exact defineC_len h2
  rw [if_neg h7] at h
  by_cases h8 : d.op = 8
  · rw [if_pos h8] at h
    cases ks with
    | nil => cases h
    | cons a r =>
      obtain ⟨t, _, h2⟩ := cbind_ok h
      obtain ⟨u, _, h3⟩ := cbind_ok h2
      rw [← ite_ok (shortC_ok h3).1]
  rw [if_neg h8] at h
  by_cases h9 : d.op = 9
  · rw [if_pos h9] at h
    match ks, h with
    | [], h => cases h
    | [_], h => cases h
    | a :: a2 :: r, h =>
      obtain ⟨t, _, h2⟩ := cbind_ok h
      obtain ⟨u, _, h3⟩ := cbind_ok h2
      obtain ⟨v, _, h4⟩ := cbind_ok h3
      rw [← ite_ok (shortC_ok h4).1]
  rw [if_neg h9] at h
  by_cases h10 : d.op = 10 ∨ d.op = 11
  · rw [if_pos h10] at h
    match ks, ih, h with
    | [], _, h => cases h
    | [_], _, h => cases h
    | a :: a2 :: r, ih, h =>
      obtain ⟨t, _, h2⟩ := cbind_ok h
      split at h2
      · exact insideC_len (fun t ht => ih t (.tail _ ht)) _ _ h2
      · cases h2
  rw [if_neg h10] at h
  by_cases h12 : d.op = 12
  · rw [if_pos h12] at h
    cases ks with
    | nil => cases h
    | cons a r => obtain ⟨t, _, h2⟩ := cbind_ok h; rw [← ite_ok h2]
  rw [if_neg h12] at h
  by_cases h13 : d.op = 13
  · rw [if_pos h13] at h
    cases ks with
    | nil => rw [← ite_ok h]
    | cons a r => obtain ⟨t, _, h2⟩ := cbind_ok h; rw [← ite_ok (shortC_ok h2).1]
  rw [if_neg h13] at h
  by_cases h14 : d.op = 14
  · rw [if_pos h14] at h
    cases ks with
    | nil => cases h
    | cons a r => obtain ⟨t, _, h2⟩ := cbind_ok h; injection h2 with h2; rw [h2]
  rw [if_neg h14] at h
  injection h with h
  rw [h]
theorem stmtC_len_all {x : Info} {res : Str} : ∀ (n : Nat) (t : T), sizeT t ≤ n → ∀ bl bl', stmtC x res t bl = .ok bl' → bl'.length = bl.length := by
  intro n
  induction n with
  | zero => intro t ht; cases t with | mk d ks => rw [sizeT] at ht; omega
  | succ n ih =>
    intro t ht bl bl' h
    cases t with
    | mk d ks =>
      rw [sizeT] at ht
      exact stmtC_len_step (fun a ha => ih a (by have := sizeL_mem ha; omega)) h
theorem inside_len {x : Info} {res : Str} {ks : List T} {bl bl' : List Blk} (h : insideC x res ks bl = .ok bl') : bl'.length = bl.length :=
  insideC_len (fun a _ => stmtC_len_all _ a (Nat.le_refl _)) _ _ h
end Go.Proofs.YthniejnbkkkbnaaGreatDoor

namespace Go.Proofs.YthniejnbkkkbnaaGreatDoor
open Go.RowKit
set_option maxRecDepth 100000
set_option maxHeartbeats 4000000

/-- What is known of the declarations' lengths. -/
structure CK.Ok (C : CK) : Prop where
  sf : ∀ s ∈ C.x.structs, s.fields.length < 1000000
  fp : ∀ s ∈ C.x.funs, s.params.length < 1000000

theorem cexpr_step (C : CK) (hok : C.Ok) (bl : List Blk) (ms : List Nat) (bv : Value) (d : D) (ks : List T) (ih : ∀ a ∈ ks, ExprOk C bl ms bv a) : ExprOk C bl ms bv (.mk d ks) := by
  intro b w h ht hsm hbad
  obtain ⟨hs1, hs2, hs3, hs4⟩ := smallT_mk hsm
  have hsa := smallL_mem hs4
  have HC := Lib.hid h
  have HT := Lib.hid ht
  have HOP := Lib.hid (fun w' (hg : Gr w w') => Op_any (nodeV b) (some (.mk d ks)) C.X w' ⟨b, rfl, ht.gr hg⟩)
  have e1 : (dO (some (T.mk d ks))).op = d.op := rfl
  rw [e1] at HOP
  unfold exprC at hbad ⊢
  by_cases h16 : d.op = 16
  · rw [if_pos h16] at hbad ⊢
    rw [h16] at HOP
    clear h ht hsm hbad h16 e1
    go_enter Tryz.func163, Tryz.ntmps163
    go_wp2_with fail
    refine (HOP.out _ (Gr.al _ _)).mono ?_
    rintro e w1 ⟨rfl, hg1⟩
    go_wp2_with fail
    go_ret
    exact ⟨(Gr.al _ _).trans hg1, rfl⟩
  rw [if_neg h16] at hbad ⊢
  by_cases h17 : d.op = 17
  · rw [if_pos h17] at hbad ⊢
    rw [h17] at HOP
    clear h ht hsm hbad h16 h17 e1
    go_enter Tryz.func163, Tryz.ntmps163
    go_wp2_with fail
    refine (HOP.out _ (Gr.al _ _)).mono ?_
    rintro e w1 ⟨rfl, hg1⟩
    go_wp2_with fail
    go_ret
    exact ⟨(Gr.al _ _).trans hg1, rfl⟩
  rw [if_neg h17] at hbad ⊢
  by_cases h18 : d.op = 18
  · rw [if_pos h18] at hbad ⊢
    rw [h18] at HOP
    have HV := Lib.hid (fun w' (hg : Gr w w') => cvariable_any C bl ms bv b (.mk d ks) w' (h.gr hg) (ht.gr hg) hbad)
    rw [show (T.mk d ks).d = d from rfl] at HV
    obtain ⟨R, hR⟩ : ∃ R, variableC C.x bl d = R := ⟨_, rfl⟩
    rw [hR] at HV hbad ⊢
    clear h ht hsm h16 h17 h18 e1 hR
    go_enter Tryz.func163, Tryz.ntmps163
    go_wp2_with fail
    refine (HOP.out _ (Gr.al _ _)).mono ?_
    rintro e w1 ⟨rfl, hg1⟩
    have hG1 : Gr w w1 := (Gr.al _ _).trans hg1
    have b1 := cellAt (hg1.blk (blk_alloc _ _)) (i := 0) rfl
    go_wp2_with fail
    refine (HV.out _ hG1).mono ?_
    rintro e w2 ⟨hg2, hres⟩
    have hG2 := hG1.trans hg2
    cases R with
    | bad => exact absurd rfl hbad
    | err ea ec =>
      simp only [] at hres
      subst hres
      exact ⟨rfl, hG2, rfl⟩
    | ok ty =>
      simp only [] at hres
      subst hres
      go_wp2_with fail
      go_ret
      exact ⟨hG2, rfl⟩
  rw [if_neg h18] at hbad ⊢
  by_cases h19 : d.op = 19
  · rw [if_pos h19] at hbad ⊢
    rw [h19] at HOP
    have HV := Lib.hid (fun w' (hg : Gr w w') => cmade_any C bl ms bv b (.mk d ks) w' (h.gr hg) (ht.gr hg) (by show d.name.length < 1000000; omega))
    rw [show (T.mk d ks).d = d from rfl] at HV
    obtain ⟨R, hR⟩ : ∃ R, madeC C.x d = R := ⟨_, rfl⟩
    rw [hR] at HV hbad ⊢
    clear h ht hsm h16 h17 h18 h19 e1 hR
    go_enter Tryz.func163, Tryz.ntmps163
    go_wp2_with fail
    refine (HOP.out _ (Gr.al _ _)).mono ?_
    rintro e w1 ⟨rfl, hg1⟩
    have hG1 : Gr w w1 := (Gr.al _ _).trans hg1
    have b1 := cellAt (hg1.blk (blk_alloc _ _)) (i := 0) rfl
    go_wp2_with fail
    refine (HV.out _ hG1).mono ?_
    rintro e w2 ⟨hg2, hres⟩
    have hG2 := hG1.trans hg2
    cases R with
    | bad => exact absurd rfl hbad
    | err ea ec =>
      simp only [] at hres
      subst hres
      exact ⟨rfl, hG2, rfl⟩
    | ok ty =>
      simp only [] at hres
      subst hres
      go_wp2_with fail
      go_ret
      exact ⟨hG2, rfl⟩
  rw [if_neg h19] at hbad ⊢
  by_cases h20 : d.op = 20
  · rw [if_pos h20] at hbad ⊢
    rw [h20] at HOP
    cases ks with
    | nil => exact absurd rfl hbad
    | cons a r =>
      simp only [] at hbad ⊢
      have HKD := Lib.hid (fun w' (hg : Gr w w') => Kid_some b (.mk d (a :: r)) C.X 0 (by decide) a rfl w' (ht.gr hg))
      have hnb : exprC C.x bl a ≠ .bad := fun e => hbad (by rw [e]; rfl)
      have HEX := Lib.hid (fun ba w' (hg : Gr w w') (hta : TreeAt w' C.X ba a) => ih a (.head _) ba w' (h.gr hg) hta (hsa a (.head _)) hnb)
      have HFD := Lib.hid (fun base w' (hg : Gr w w') (hb : fieldC C.x d base ≠ .bad) => cfield_any C bl ms bv b (.mk d (a :: r)) base w' (h.gr hg) (ht.gr hg) hb hok.sf)
      rw [show (T.mk d (a :: r)).d = d from rfl] at HFD
      obtain ⟨ra, hra⟩ : ∃ ra, exprC C.x bl a = ra := ⟨_, rfl⟩
      rw [hra] at HEX hbad ⊢
      have HBD := Lib.hid hbad
      clear h ht hsm h16 h17 h18 h19 h20 e1 hra hbad hnb
      go_enter Tryz.func163, Tryz.ntmps163
      go_wp2_with fail
      refine (HOP.out _ (Gr.al _ _)).mono ?_
      rintro e w1 ⟨rfl, hg1⟩
      have hG1 : Gr w w1 := (Gr.al _ _).trans hg1
      have B1 := hg1.blk (blk_alloc _ _)
      have b1 := cellAt B1 (i := 0) rfl
      have HB1 := Lib.hid B1
      clear hg1 B1
      go_wp2_with fail
      refine wp_region_held_drew (S := fun w' => w'.cell? ⟨w.heap.size, 0, none⟩ = some (ptrV b)) rfl b1 (fun hS => ?_)
      refine wpAnyH_take (i := 0) (v := ?_) rfl (by kernel_rfl) (by kernel_rfl) (by kernel_rfl) (fun _ _ _ h => h) (Or.inl ⟨by rfl, ?_⟩) hS ?_
      rotate_left
      · intro w' hSw; (try dsimp only at hSw); go_simp; try with_reducible rfl
      (try simp only [Act.put, List.setIfInBounds_toArray, List.set_cons_zero, List.set_cons_succ])
      refine wpAnyH_take (i := 1) (v := ?_) rfl (by kernel_rfl) (by kernel_rfl) (by kernel_rfl) (fun _ _ _ h => h) (Or.inl ⟨by rfl, ?_⟩) hS ?_
      rotate_left
      · intro w' hSw; (try dsimp only at hSw); go_simp; try with_reducible rfl
      (try simp only [Act.put, List.setIfInBounds_toArray, List.set_cons_zero, List.set_cons_succ])
      refine wpAnyH_take (i := 2) (v := ?_) rfl (by kernel_rfl) (by kernel_rfl) (by kernel_rfl) (fun _ _ _ h => h) (Or.inl ⟨by rfl, ?_⟩) hS ?_
      rotate_left
      · intro w' hSw; (try dsimp only at hSw); go_simp; try with_reducible rfl
      (try simp only [Act.put, List.setIfInBounds_toArray, List.set_cons_zero, List.set_cons_succ])
      refine wpAnyH_take (i := 3) (v := ?_) rfl (by kernel_rfl) (by kernel_rfl) (by kernel_rfl) (fun _ _ _ h => h) (Or.inl ⟨by rfl, ?_⟩) hS ?_
      rotate_left
      · intro w' hSw; (try dsimp only at hSw); go_simp; try with_reducible rfl
      (try simp only [Act.put, List.setIfInBounds_toArray, List.set_cons_zero, List.set_cons_succ])
      refine wpAnyH_ready (rs := [4]) (by kernel_rfl) (by simp) ?_
      refine AllReadyH.cons rfl (fun K' hK => ?_) AllReadyH.nil
      simp only [List.getElem_toArray, List.getElem_cons_succ, List.getElem_cons_zero]
      go_simp
      refine (HKD.out _ hG1.drew).mono ?_
      rintro e w2 ⟨ba, rfl, hta, hg2⟩
      have B2 := hg2.blk HB1.out
      have hG2 : Gr w w2 := hG1.drew.trans hg2
      refine hK.out _ _ (cellAt B2 rfl) (fun hS => ?_)
      (try simp only [Act.put, List.setIfInBounds_toArray, List.set_cons_zero, List.set_cons_succ])
      refine wpAnyH_ready (rs := [5]) (by kernel_rfl) (by simp) ?_
      refine AllReadyH.cons rfl (fun K' hK => ?_) AllReadyH.nil
      simp only [List.getElem_toArray, List.getElem_cons_succ, List.getElem_cons_zero]
      go_simp
      refine (HEX.out ba _ hG2 (hta.gr hg2)).mono ?_
      rintro e w3 ⟨hg3, hres⟩
      have hG3 := hG2.trans hg3
      cases ra with
      | bad => exact absurd rfl HBD.out
      | err ea ec =>
        simp only [] at hres
        subst hres
        exact ⟨rfl, hG3, rfl⟩
      | ok ty =>
        simp only [] at hres
        subst hres
        have B3 := hg3.blk B2
        refine hK.out _ _ (cellAt B3 rfl) (fun hS => ?_)
        (try simp only [Act.put, List.setIfInBounds_toArray, List.set_cons_zero, List.set_cons_succ])
        refine wpAnyH_ready (rs := [6]) (by kernel_rfl) (by simp) ?_
        refine AllReadyH.cons rfl (fun K' hK => ?_) AllReadyH.nil
        simp only [List.getElem_toArray, List.getElem_cons_succ, List.getElem_cons_zero]
        go_simp
        have hbf : fieldC C.x d ty ≠ .bad := HBD.out
        refine (HFD.out ty _ hG3 hbf).mono ?_
        rintro e w4 ⟨hg4, hres⟩
        have hG4 := hG3.trans hg4
        cases hR : fieldC C.x d ty with
        | bad => exact absurd hR hbf
        | err ea ec =>
          rw [hR] at hres
          simp only [] at hres
          subst hres
          refine ⟨rfl, ?_⟩
          show EPost w (fieldC C.x d ty) _ _
          rw [hR]
          exact ⟨hG4, rfl⟩
        | ok tz =>
          rw [hR] at hres
          simp only [] at hres
          subst hres
          have B4 := hg4.blk B3
          refine hK.out _ _ (cellAt B4 rfl) (fun hS => ?_)
          (try simp only [Act.put, List.setIfInBounds_toArray, List.set_cons_zero, List.set_cons_succ])
          refine wpAnyH_take (i := 7) (v := ?_) rfl (by kernel_rfl) (by kernel_rfl) (by kernel_rfl) (fun _ _ _ h => h) (Or.inl ⟨by rfl, ?_⟩) hS ?_
          rotate_left
          · intro w' hSw; (try dsimp only at hSw); go_simp; try with_reducible rfl
          (try simp only [Act.put, List.setIfInBounds_toArray, List.set_cons_zero, List.set_cons_succ])
          refine wpAnyH_done (by kernel_rfl) ?_ _
          (try simp only [List.getElem_toArray, List.getElem_cons_succ, List.getElem_cons_zero, Act.put, List.setIfInBounds_toArray, List.set_cons_zero, List.set_cons_succ])
          have HR := Lib.hid hR
          clear hR hK B2 B3 B4 b1 hg2 hg3 hg4 hbf
          go_wp2_with fail
          go_ret
          show EPost w (fieldC C.x d ty) _ _
          rw [HR.out]
          exact ⟨hG4, rfl⟩
  rw [if_neg h20] at hbad ⊢
  by_cases h21 : d.op = 21
  · rw [if_pos h21] at hbad ⊢
    rw [h21] at HOP
    have HV := Lib.hid (fun w' (hg : Gr w w') => ccall_any C bl ms bv b (.mk d ks) w' (h.gr hg) (ht.gr hg) hs3 ih hsa hbad hok.fp)
    rw [show (T.mk d ks).d = d from rfl, show (T.mk d ks).kids = ks from rfl] at HV
    change Calls _ _ _ _ (EPost w (callR C.x bl d (argsC C.x bl ks)))
    obtain ⟨R, hR⟩ : ∃ R, callR C.x bl d (argsC C.x bl ks) = R := ⟨_, rfl⟩
    change callR C.x bl d (argsC C.x bl ks) ≠ .bad at hbad
    rw [hR] at HV hbad ⊢
    clear h ht hsm h16 h17 h18 h19 h20 h21 e1 hR
    go_enter Tryz.func163, Tryz.ntmps163
    go_wp2_with fail
    refine (HOP.out _ (Gr.al _ _)).mono ?_
    rintro e w1 ⟨rfl, hg1⟩
    have hG1 : Gr w w1 := (Gr.al _ _).trans hg1
    have b1 := cellAt (hg1.blk (blk_alloc _ _)) (i := 0) rfl
    go_wp2_with fail
    refine (HV.out _ hG1).mono ?_
    rintro e w2 ⟨hg2, hres⟩
    have hG2 := hG1.trans hg2
    cases R with
    | bad => exact absurd rfl hbad
    | err ea ec =>
      simp only [] at hres
      subst hres
      exact ⟨rfl, hG2, rfl⟩
    | ok ty =>
      simp only [] at hres
      subst hres
      go_wp2_with fail
      go_ret
      exact ⟨hG2, rfl⟩
  rw [if_neg h21] at hbad ⊢
  by_cases h23 : d.op = 23
  · rw [if_pos h23] at hbad ⊢
    rw [h23] at HOP
    cases ks with
    | nil => exact absurd rfl hbad
    | cons a r =>
      simp only [] at hbad ⊢
      have HV := Lib.hid (fun w' (hg : Gr w w') => cunary_any C bl ms bv b (.mk d (a :: r)) a w' (h.gr hg) (ht.gr hg) rfl (ih a (.head _)) (hsa a (.head _)) hbad)
      rw [show (T.mk d (a :: r)).d = d from rfl] at HV
      change Calls _ _ _ _ (EPost w (unaryR d (exprC C.x bl a)))
      obtain ⟨R, hR⟩ : ∃ R, unaryR d (exprC C.x bl a) = R := ⟨_, rfl⟩
      change unaryR d (exprC C.x bl a) ≠ .bad at hbad
      rw [hR] at HV hbad ⊢
      clear h ht hsm h16 h17 h18 h19 h20 h21 h23 e1 hR
      go_enter Tryz.func163, Tryz.ntmps163
      go_wp2_with fail
      refine (HOP.out _ (Gr.al _ _)).mono ?_
      rintro e w1 ⟨rfl, hg1⟩
      have hG1 : Gr w w1 := (Gr.al _ _).trans hg1
      have b1 := cellAt (hg1.blk (blk_alloc _ _)) (i := 0) rfl
      go_wp2_with fail
      refine (HV.out _ hG1).mono ?_
      rintro e w2 ⟨hg2, hres⟩
      have hG2 := hG1.trans hg2
      cases R with
      | bad => exact absurd rfl hbad
      | err ea ec =>
        simp only [] at hres
        subst hres
        exact ⟨rfl, hG2, rfl⟩
      | ok ty =>
        simp only [] at hres
        subst hres
        go_wp2_with fail
        go_ret
        exact ⟨hG2, rfl⟩
  rw [if_neg h23] at hbad ⊢
  by_cases h24 : d.op = 24 ∨ d.op = 25 ∨ d.op = 26
  · rw [if_pos h24] at hbad ⊢
    match ks, ht, hsm, hs3, hs4, hsa, HOP, HT, hbad, ih, e1 with
    | [], _, _, _, _, _, _, _, hbad, _, _ => exact absurd rfl hbad
    | [a], _, _, _, _, _, _, _, hbad, _, _ => exact absurd rfl hbad
    | a :: a2 :: r, ht, hsm, hs3, hs4, hsa, HOP, HT, hbad, ih, e1 =>
      simp only [] at hbad ⊢
      have HKD := Lib.hid (fun w' (hg : Gr w w') => Kid_some b (.mk d (a :: a2 :: r)) C.X 0 (by decide) a rfl w' (ht.gr hg))
      have HKE := Lib.hid (fun w' (hg : Gr w w') => Kid_some b (.mk d (a :: a2 :: r)) C.X 1 (by decide) a2 rfl w' (ht.gr hg))
      have hnb : exprC C.x bl a ≠ .bad := fun e => hbad (by rw [e]; rfl)
      have HEX := Lib.hid (fun ba w' (hg : Gr w w') (hta : TreeAt w' C.X ba a) => ih a (.head _) ba w' (h.gr hg) hta (hsa a (.head _)) hnb)
      have HEY := Lib.hid (fun ba w' (hg : Gr w w') (hnb : exprC C.x bl a2 ≠ .bad) (hta : TreeAt w' C.X ba a2) => ih a2 (.tail _ (.head _)) ba w' (h.gr hg) hta (hsa a2 (.tail _ (.head _))) hnb)
      have HBI := Lib.hid (fun x y w' (hg : Gr w w') (hb : binaryC d x y ≠ .bad) => cbinary_any C bl ms bv b (.mk d (a :: a2 :: r)) x y w' (h.gr hg) (ht.gr hg) hb)
      rw [show (T.mk d (a :: a2 :: r)).d = d from rfl] at HBI
      obtain ⟨ra, hra⟩ : ∃ ra, exprC C.x bl a = ra := ⟨_, rfl⟩
      obtain ⟨rb, hrb⟩ : ∃ rb, exprC C.x bl a2 = rb := ⟨_, rfl⟩
      rw [hra] at HEX hbad ⊢
      rw [hrb] at HEY hbad ⊢
      have HBD := Lib.hid hbad
      have hops : (d.op == 16) = false ∧ (d.op == 17) = false ∧ (d.op == 18) = false ∧ (d.op == 19) = false ∧ (d.op == 20) = false ∧ (d.op == 21) = false ∧ (d.op == 23) = false := by simp; omega
      obtain ⟨o16, o17, o18, o19, o20, o21, o23⟩ := hops
      have HOP2 : Hid (∀ w', Gr w w' → Calls Tryz.prog 26 #[nodeV b] w' fun e w'_1 => e = .returned (.int .i64 d.op) ∧ Gr w' w'_1) := HOP.out
      have h2456 : (d.op == 24) = true ∨ ((d.op == 24) = false ∧ (d.op == 25) = true) ∨ ((d.op == 24) = false ∧ (d.op == 25) = false ∧ (d.op == 26) = true) := by simp; omega
      generalize d.op = oo at o16 o17 o18 o19 o20 o21 o23 HOP2 h2456
      clear h ht hsm h16 h17 h18 h19 h20 h21 h23 h24 e1 hra hrb hbad hnb HOP
      rcases h2456 with o24 | ⟨o24, o25⟩ | ⟨o24, o25, o26⟩
      all_goals
        go_enter Tryz.func163, Tryz.ntmps163
        go_wp2_with fail
        refine (HOP2.out _ (Gr.al _ _)).mono ?_
        rintro e w1 ⟨rfl, hg1⟩
        have hG1 : Gr w w1 := (Gr.al _ _).trans hg1
        have B1 := hg1.blk (blk_alloc _ _)
        have b1 := cellAt B1 (i := 0) rfl
        have HB1 := Lib.hid B1
        clear hg1 B1
        go_wp2_with fail
        refine (HKD.out _ hG1).mono ?_
        rintro e w2 ⟨ba, rfl, hta, hg2⟩
        have B2 := hg2.blk HB1.out
        have hG2 : Gr w w2 := hG1.trans hg2
        go_wp2_with fail
        refine (HEX.out ba _ hG2 (hta.gr hg2)).mono ?_
        rintro e w3 ⟨hg3, hres⟩
        have hG3 := hG2.trans hg3
        have B3 := hg3.blk B2
        clear hg2 hta B2
        cases ra with
        | bad => exact absurd rfl HBD.out
        | err ea ec =>
          simp only [] at hres
          subst hres
          exact ⟨rfl, hG3, rfl⟩
        | ok ty =>
          simp only [] at hres
          subst hres
          have b3 := cellAt B3 (i := 0) rfl
          have HB3 := Lib.hid B3
          clear B3 hg3 b1
          go_wp2_with fail
          refine wp_region_held_drew (S := fun w' => w'.cell? ⟨w.heap.size, 0, none⟩ = some (ptrV b)) rfl b3 (fun hS => ?_)
          refine wpAnyH_take (i := 0) (v := ?_) rfl (by kernel_rfl) (by kernel_rfl) (by kernel_rfl) (fun _ _ _ h => h) (Or.inl ⟨by rfl, ?_⟩) hS ?_
          rotate_left
          · intro w' hSw; (try dsimp only at hSw); go_simp; try with_reducible rfl
          (try simp only [Act.put, List.setIfInBounds_toArray, List.set_cons_zero, List.set_cons_succ])
          refine wpAnyH_take (i := 1) (v := ?_) rfl (by kernel_rfl) (by kernel_rfl) (by kernel_rfl) (fun _ _ _ h => h) (Or.inl ⟨by rfl, ?_⟩) hS ?_
          rotate_left
          · intro w' hSw; (try dsimp only at hSw); go_simp; try with_reducible rfl
          (try simp only [Act.put, List.setIfInBounds_toArray, List.set_cons_zero, List.set_cons_succ])
          refine wpAnyH_take (i := 2) (v := ?_) rfl (by kernel_rfl) (by kernel_rfl) (by kernel_rfl) (fun _ _ _ h => h) (Or.inl ⟨by rfl, ?_⟩) hS ?_
          rotate_left
          · intro w' hSw; (try dsimp only at hSw); go_simp; try with_reducible rfl
          (try simp only [Act.put, List.setIfInBounds_toArray, List.set_cons_zero, List.set_cons_succ])
          refine wpAnyH_take (i := 3) (v := ?_) rfl (by kernel_rfl) (by kernel_rfl) (by kernel_rfl) (fun _ _ _ h => h) (Or.inl ⟨by rfl, ?_⟩) hS ?_
          rotate_left
          · intro w' hSw; (try dsimp only at hSw); go_simp; try with_reducible rfl
          (try simp only [Act.put, List.setIfInBounds_toArray, List.set_cons_zero, List.set_cons_succ])
          refine wpAnyH_take (i := 4) (v := ?_) rfl (by kernel_rfl) (by kernel_rfl) (by kernel_rfl) (fun _ _ _ h => h) (Or.inl ⟨by rfl, ?_⟩) hS ?_
          rotate_left
          · intro w' hSw; (try dsimp only at hSw); go_simp; try with_reducible rfl
          (try simp only [Act.put, List.setIfInBounds_toArray, List.set_cons_zero, List.set_cons_succ])
          refine wpAnyH_ready (rs := [5]) (by kernel_rfl) (by simp) ?_
          refine AllReadyH.cons rfl (fun K' hK => ?_) AllReadyH.nil
          simp only [List.getElem_toArray, List.getElem_cons_succ, List.getElem_cons_zero]
          go_simp
          refine (HKE.out _ hG3.drew).mono ?_
          rintro e w4 ⟨bb, rfl, htb, hg4⟩
          have B4 := hg4.blk HB3.out
          have hG4 : Gr w w4 := hG3.drew.trans hg4
          refine hK.out _ _ (cellAt B4 rfl) (fun hS => ?_)
          (try simp only [Act.put, List.setIfInBounds_toArray, List.set_cons_zero, List.set_cons_succ])
          refine wpAnyH_ready (rs := [6]) (by kernel_rfl) (by simp) ?_
          refine AllReadyH.cons rfl (fun K' hK => ?_) AllReadyH.nil
          simp only [List.getElem_toArray, List.getElem_cons_succ, List.getElem_cons_zero]
          go_simp
          refine (HEY.out bb _ hG4 (fun e => HBD.out (by rw [e]; rfl)) (htb.gr hg4)).mono ?_
          rintro e w5 ⟨hg5, hres⟩
          have hG5 := hG4.trans hg5
          cases rb with
          | bad => exact absurd rfl HBD.out
          | err ea ec =>
            simp only [] at hres
            subst hres
            exact ⟨rfl, hG5, rfl⟩
          | ok tz =>
            simp only [] at hres
            subst hres
            have B5 := hg5.blk B4
            refine hK.out _ _ (cellAt B5 rfl) (fun hS => ?_)
            (try simp only [Act.put, List.setIfInBounds_toArray, List.set_cons_zero, List.set_cons_succ])
            refine wpAnyH_ready (rs := [7]) (by kernel_rfl) (by simp) ?_
            refine AllReadyH.cons rfl (fun K' hK => ?_) AllReadyH.nil
            simp only [List.getElem_toArray, List.getElem_cons_succ, List.getElem_cons_zero]
            go_simp
            have hbf : binaryC d ty tz ≠ .bad := HBD.out
            refine (HBI.out ty tz _ hG5 hbf).mono ?_
            rintro e w6 ⟨hg6, hres⟩
            have hG6 := hG5.trans hg6
            cases hR : binaryC d ty tz with
            | bad => exact absurd hR hbf
            | err ea ec =>
              rw [hR] at hres
              simp only [] at hres
              subst hres
              refine ⟨rfl, ?_⟩
              show EPost w (binaryC d ty tz) _ _
              rw [hR]
              exact ⟨hG6, rfl⟩
            | ok tr =>
              rw [hR] at hres
              simp only [] at hres
              subst hres
              have B6 := hg6.blk B5
              refine hK.out _ _ (cellAt B6 rfl) (fun hS => ?_)
              (try simp only [Act.put, List.setIfInBounds_toArray, List.set_cons_zero, List.set_cons_succ])
              refine wpAnyH_take (i := 8) (v := ?_) rfl (by kernel_rfl) (by kernel_rfl) (by kernel_rfl) (fun _ _ _ h => h) (Or.inl ⟨by rfl, ?_⟩) hS ?_
              rotate_left
              · intro w' hSw; (try dsimp only at hSw); go_simp; try with_reducible rfl
              (try simp only [Act.put, List.setIfInBounds_toArray, List.set_cons_zero, List.set_cons_succ])
              refine wpAnyH_done (by kernel_rfl) ?_ _
              (try simp only [List.getElem_toArray, List.getElem_cons_succ, List.getElem_cons_zero, Act.put, List.setIfInBounds_toArray, List.set_cons_zero, List.set_cons_succ])
              have HR := Lib.hid hR
              clear hR hK B4 B5 B6 b3 hg4 hg5 hg6 hbf
              go_wp2_with fail
              go_ret
              show EPost w (binaryC d ty tz) _ _
              rw [HR.out]
              exact ⟨hG6, rfl⟩
  rw [if_neg h24] at hbad ⊢
  have hops : (d.op == 16) = false ∧ (d.op == 17) = false ∧ (d.op == 18) = false ∧ (d.op == 19) = false ∧ (d.op == 20) = false ∧ (d.op == 21) = false ∧ (d.op == 23) = false ∧ (d.op == 24) = false ∧ (d.op == 25) = false ∧ (d.op == 26) = false := by simp; omega
  obtain ⟨o16, o17, o18, o19, o20, o21, o23, o24, o25, o26⟩ := hops
  generalize d.op = oo at *
  clear h ht hsm h16 h17 h18 h19 h20 h21 h23 h24 e1 hbad
  go_enter Tryz.func163, Tryz.ntmps163
  go_wp2_with fail
  refine (HOP.out _ (Gr.al _ _)).mono ?_
  rintro e w1 ⟨rfl, hg1⟩
  go_wp2_with fail
  go_ret
  exact ⟨(Gr.al _ _).trans hg1, rfl⟩

theorem cexpr_all (C : CK) (hok : C.Ok) (bl : List Blk) (ms : List Nat) (bv : Value) : ∀ (n : Nat) (t : T), sizeT t ≤ n → ExprOk C bl ms bv t := by
  intro n
  induction n with
  | zero =>
    intro t ht
    cases t with
    | mk d ks => rw [sizeT] at ht; omega
  | succ n ih =>
    intro t ht
    cases t with
    | mk d ks =>
      rw [sizeT] at ht
      exact cexpr_step C hok bl ms bv d ks fun a ha => ih a (by have := sizeL_mem ha; omega)
theorem cexpr_ok (C : CK) (hok : C.Ok) (bl : List Blk) (ms : List Nat) (bv : Value) (t : T) : ExprOk C bl ms bv t := cexpr_all C hok bl ms bv _ t (Nat.le_refl _)
end Go.Proofs.YthniejnbkkkbnaaGreatDoor
