/- Walks of layer check: back with a value, define. Walks of layer check: inside, block. -/
import Derived.Test.YthniejnbkkkbnaaGreatDoorM20
set_option linter.all false
set_option linter.unusedSimpArgs false
set_option linter.unusedVariables false
namespace Go.Proofs.YthniejnbkkkbnaaGreatDoor
open Go.RowKit
set_option maxRecDepth 100000
set_option maxHeartbeats 4000000

def backR (res : Str) (bl : List Blk) (d : D) (ra : CR Str) : CR (List Blk) := cbind ra fun t => shortC res (if isFitP t res then .ok bl else .err d.at_ 7)
theorem cback_some (C : CK) (hok : C.Ok) (bl : List Blk) (ms : List Nat) (bv : Value) (b : Nat) (d : D) (a : T) (r : List T) (hkl : (a :: r).length < 1000000) (w : World) (h : CkAt C bl ms bv w) (ht : TreeAt w C.X b (.mk d (a :: r))) (hsa : smallT a = true)
    (hbad : backR C.res bl d (exprC C.x bl a) ≠ .bad) : Calls Tryz.prog 164 #[ptrV C.cb, nodeV b] w (SPost C ms bv w (backR C.res bl d (exprC C.x bl a))) := by
  have HC := Lib.hid h
  obtain ⟨n, hn⟩ : ∃ n, n = (a :: r).length := ⟨_, rfl⟩
  have HKS := Lib.hid (fun w' (hg : Gr w w') => Kids_any (nodeV b) (some (.mk d (a :: r))) C.X w' ⟨b, rfl, ht.gr hg⟩)
  rw [show ((kidsO (some (T.mk d (a :: r)))).length : Int) = (n : Int) from by rw [hn]; rfl] at HKS
  have hn0 : ((n : Int) == 0) = false := by rw [hn]; simp; omega
  have hn1 : 0 < n := by rw [hn]; simp
  have HKD := Lib.hid (fun w' (hg : Gr w w') => Kid_some b (.mk d (a :: r)) C.X 0 (by decide) a rfl w' (ht.gr hg))
  have hnb : exprC C.x bl a ≠ .bad := fun e => hbad (by rw [e]; rfl)
  have HEX := Lib.hid (fun ba w' (hg : Gr w w') (hta : TreeAt w' C.X ba a) => cexpr_ok C hok bl ms bv a ba w' (h.gr hg) hta hsa hnb)
  have HMN := Lib.hid (fun er w' (hg : Gr w w') => must_no b (.mk d (a :: r)) C.X er w' (ht.gr hg))
  rw [show (T.mk d (a :: r)).d = d from rfl] at HMN
  have HMY := Lib.hid (fun er w' => must_yes (nodeV b) ⟨_, rfl⟩ er w')
  obtain ⟨ra, hra⟩ : ∃ ra, exprC C.x bl a = ra := ⟨_, rfl⟩
  rw [hra] at HEX hbad ⊢
  have HBD := Lib.hid hbad
  clear h ht hra hbad hnb hn
  go_enter Tryz.func164, Tryz.ntmps164
  go_wp2_with fail
  refine (HKS.out _ (Gr.al _ _)).mono ?_
  rintro e w1 ⟨rfl, hg1⟩
  have hG1 : Gr w w1 := (Gr.al _ _).trans hg1
  have B1 := hg1.blk (blk_alloc _ _)
  have b1 := cellAt B1 (i := 0) rfl
  have c4 := (HC.out.gr hG1).cells.2.2.2.2
  have hl1 := (HC.out.gr hG1).lt
  clear hg1
  go_wp2_with fail
  refine wp_region_held_drew (S := fun w' => w'.cell? ⟨w.heap.size, 0, none⟩ = some (ptrV b) ∧ w'.cell? ⟨C.cb, 4, none⟩ = some (.string (S C.res))) rfl ⟨b1, c4⟩ (fun hS => ?_)
  refine wpAnyH_take (i := 0) (v := ?_) rfl (by kernel_rfl) (by kernel_rfl) (by kernel_rfl) (fun _ _ _ h => h) (Or.inl ⟨by rfl, ?_⟩) hS ?_
  rotate_left
  · intro w' hSw; (try dsimp only at hSw); go_simp; try with_reducible rfl
  (try simp only [Act.put, List.setIfInBounds_toArray, List.set_cons_zero, List.set_cons_succ])
  refine wpAnyH_take (i := 1) (v := ?_) rfl (by kernel_rfl) (by kernel_rfl) (by kernel_rfl) (fun _ _ _ h => h) (Or.inl ⟨by rfl, ?_⟩) hS ?_
  rotate_left
  · intro w' hSw; (try dsimp only at hSw); go_simp; try with_reducible rfl
  (try simp only [Act.put, List.setIfInBounds_toArray, List.set_cons_zero, List.set_cons_succ])
  refine wpAnyH_take (i := 4) (v := ?_) rfl (by kernel_rfl) (by kernel_rfl) (by kernel_rfl) (fun _ _ _ h => h) (Or.inl ⟨by rfl, ?_⟩) hS ?_
  rotate_left
  · intro w' hSw; (try dsimp only at hSw); go_simp; try with_reducible rfl
  (try simp only [Act.put, List.setIfInBounds_toArray, List.set_cons_zero, List.set_cons_succ])
  refine wpAnyH_take (i := 5) (v := ?_) rfl (by kernel_rfl) (by kernel_rfl) (by kernel_rfl) (fun _ _ _ h => h) (Or.inl ⟨by rfl, ?_⟩) hS ?_
  rotate_left
  · intro w' hSw; (try dsimp only at hSw); go_simp; try with_reducible rfl
  (try simp only [Act.put, List.setIfInBounds_toArray, List.set_cons_zero, List.set_cons_succ])
  refine wpAnyH_take (i := 6) (v := ?_) rfl (by kernel_rfl) (by kernel_rfl) (by kernel_rfl) (fun _ _ _ h => h) (Or.inl ⟨by rfl, ?_⟩) hS ?_
  rotate_left
  · intro w' hSw; (try dsimp only at hSw); go_simp; try with_reducible rfl
  (try simp only [Act.put, List.setIfInBounds_toArray, List.set_cons_zero, List.set_cons_succ])
  refine wpAnyH_take (i := 7) (v := ?_) rfl (by kernel_rfl) (by kernel_rfl) (by kernel_rfl) (fun _ _ _ h => h) (Or.inl ⟨by rfl, ?_⟩) hS ?_
  rotate_left
  · intro w' hSw; (try dsimp only at hSw); go_simp; try with_reducible rfl
  (try simp only [Act.put, List.setIfInBounds_toArray, List.set_cons_zero, List.set_cons_succ])
  refine wpAnyH_take (i := 9) (v := ?_) rfl (by kernel_rfl) (by kernel_rfl) (by kernel_rfl) (fun _ _ _ h => h) (Or.inl ⟨by rfl, ?_⟩) hS ?_
  rotate_left
  · intro w' hSw; (try dsimp only at hSw); go_simp; try with_reducible rfl
  (try simp only [Act.put, List.setIfInBounds_toArray, List.set_cons_zero, List.set_cons_succ])
  refine wpAnyH_ready (rs := [2]) (by kernel_rfl) (by simp) ?_
  refine AllReadyH.cons rfl (fun K' hK => ?_) AllReadyH.nil
  simp only [List.getElem_toArray, List.getElem_cons_succ, List.getElem_cons_zero]
  go_simp
  refine (HKD.out _ hG1.drew).mono ?_
  rintro e w2 ⟨ba, rfl, hta, hg2⟩
  have B2 := hg2.blk B1
  have hG2 : Gr w w2 := hG1.drew.trans hg2
  refine hK.out _ _ ⟨cellAt B2 rfl, (HC.out.gr hG2).cells.2.2.2.2⟩ (fun hS => ?_)
  (try simp only [Act.put, List.setIfInBounds_toArray, List.set_cons_zero, List.set_cons_succ])
  refine wpAnyH_ready (rs := [3]) (by kernel_rfl) (by simp) ?_
  refine AllReadyH.cons rfl (fun K' hK => ?_) AllReadyH.nil
  simp only [List.getElem_toArray, List.getElem_cons_succ, List.getElem_cons_zero]
  go_simp
  refine (HEX.out ba _ hG2 (hta.gr hg2)).mono ?_
  rintro e w3 ⟨hg3, hres⟩
  have hG3 := hG2.trans hg3
  have B3 := hg3.blk B2
  cases ra with
  | bad => exact absurd rfl HBD.out
  | err ea ec =>
    simp only [] at hres
    subst hres
    exact ⟨rfl, SPost.thr hG3⟩
  | ok ty =>
    simp only [] at hres
    subst hres
    have hr : backR C.res bl d (.ok ty) = shortC C.res (if isFitP ty C.res then .ok bl else .err d.at_ 7) := rfl
    have hsh : C.res.length < 1000000 := by
      apply Decidable.byContradiction
      intro hc
      exact HBD.out (by rw [hr]; unfold shortC; rw [if_neg hc])
    unfold shortC at hr
    rw [if_pos hsh] at hr
    have HR := Lib.hid hr
    clear hr
    have HFT := Lib.hid (isFit_any ty C.res hsh)
    refine hK.out _ _ ⟨cellAt B3 rfl, (HC.out.gr hG3).cells.2.2.2.2⟩ (fun hS => ?_)
    (try simp only [Act.put, List.setIfInBounds_toArray, List.set_cons_zero, List.set_cons_succ])
    refine wpAnyH_ready (rs := [8]) (by kernel_rfl) (by simp) ?_
    refine AllReadyH.cons rfl (fun K' hK => ?_) AllReadyH.nil
    simp only [List.getElem_toArray, List.getElem_cons_succ, List.getElem_cons_zero]
    go_simp
    refine (HFT.out _).mono ?_
    rintro e w4 ⟨rfl, hg4⟩
    have B4 := hg4.blk B3
    have hG4 := hG3.trans hg4
    refine hK.out _ _ ⟨cellAt B4 rfl, (HC.out.gr hG4).cells.2.2.2.2⟩ (fun hS => ?_)
    (try simp only [Act.put, List.setIfInBounds_toArray, List.set_cons_zero, List.set_cons_succ])
    refine wpAnyH_ready (rs := [10]) (by kernel_rfl) (by simp) ?_
    refine AllReadyH.cons rfl (fun K' hK => ?_) AllReadyH.nil
    simp only [List.getElem_toArray, List.getElem_cons_succ, List.getElem_cons_zero]
    go_simp
    cases hq : isFitP ty C.res
    · refine (HMN.out 7 _ hG4).mono ?_
      rintro e w5 ⟨rfl, hg5⟩
      refine ⟨rfl, ?_⟩
      rw [HR.out, hq]
      exact SPost.thr (hG4.trans hg5)
    · refine (HMY.out 7 _).mono ?_
      rintro e w5 ⟨rfl, hg5⟩
      have B5 := hg5.blk B4
      have hG5 := hG4.trans hg5
      refine hK.out _ _ ⟨cellAt B5 rfl, (HC.out.gr hG5).cells.2.2.2.2⟩ (fun hS => ?_)
      (try simp only [Act.put, List.setIfInBounds_toArray, List.set_cons_zero, List.set_cons_succ])
      refine wpAnyH_done (by kernel_rfl) ?_ _
      (try simp only [List.getElem_toArray, List.getElem_cons_succ, List.getElem_cons_zero, Act.put, List.setIfInBounds_toArray, List.set_cons_zero, List.set_cons_succ])
      have HQ := Lib.hid hq
      clear hK hq B1 B2 B3 B4 B5 hg2 hg3 hg4 hg5 b1 c4 hl1 hta
      go_wp2_with fail
      go_end0
      rw [HR.out, HQ.out]
      exact SPost.same HC.out hG5

theorem aput_none (m : Blk) (x t : Str) (h : aget m x = none) : aput (tmap m) x (.string (S t)) = tmap (m ++ [(x, t)]) := by
  induction m with
  | nil => rfl
  | cons p m ih =>
    unfold aget at h
    rw [List.find?_cons] at h
    cases hp : p.1 == x with
    | true => rw [hp] at h; simp at h
    | false =>
      rw [hp] at h
      have h2 := ih h
      simp only [tmap, List.map_cons, aput, hp, List.cons_append, Bool.false_eq_true, if_false] at h2 ⊢
      rw [h2]
/-- The last block, written. -/
theorem CkAt.last {C : CK} {bl : List Blk} {ms : List Nat} {bv : Value} {w w' : World} {m m' : Blk} {mb : Nat} (h : CkAt C (bl ++ [m]) (ms ++ [mb]) bv w) (hg : w.grownBy w' (some mb)) (hm : MapAt encS w' mb (tmap m')) : CkAt C (bl ++ [m']) (ms ++ [mb]) bv w' := by
  have hml : ms.length = bl.length := by have := h.ml; simpa using this
  have hmb := h.mp bl.length mb m (by rw [← hml]; simp) (by simp)
  have hne : ∀ k, C.X k → k ≠ mb := fun k hk e => by have := hmb.1; have := hk.1; omega
  have hobj : ∀ k cs t fr, w.heap[k]? = some (.cells cs t fr) → some k ≠ some mb := fun k cs t fr hk e => by
    injection e with e
    subst e
    obtain ⟨es, cl, hb, _⟩ := hmb.2
    rw [hk] at hb; cases hb
  refine ⟨?_, h.st.frame fun k hk hlt => hg.block k hlt (fun e => hne k hk (Option.some.inj e)), PairsAt.frame h.fl fun k hk hlt => hg.block k hlt (fun e => hne k hk (Option.some.inj e)), h.sg.frame fun k hk hlt => hg.block k hlt (fun e => hne k hk (Option.some.inj e)), ?_, by simp [hml], ?_, h.nd, Nat.le_trans h.hB hg.size, h.hcb, h.ls, h.lg, h.lf, by have := h.lb; simpa using this⟩
  · rw [hg.block _ h.lt (hobj _ _ _ _ h.blk)]; exact h.blk
  · have hr := h.row.kept (row := some mb) hg (by
      rcases h.row.2 with ⟨hv, hn⟩ | ⟨g, cap, cur, hv, hb, hgh, _⟩
      · left; rw [hv]; rfl
      · right; rw [hv]; exact hobj _ _ _ _ hgh)
    have e : (bl ++ [m']).length = (bl ++ [m]).length := by simp
    rw [e]; exact hr
  · intro i k b hk hb
    rcases Nat.lt_or_ge i bl.length with hi | hi
    · rw [List.getElem?_append_left (by omega)] at hk
      rw [List.getElem?_append_left hi] at hb
      have h1 := h.mp i k b (by rw [List.getElem?_append_left (by omega)]; exact hk) (by rw [List.getElem?_append_left hi]; exact hb)
      refine ⟨h1.1, h1.2.frame (hg.block k h1.2.lt fun e => ?_)⟩
      injection e with e
      subst e
      have hnd := h.nd
      rw [List.nodup_append] at hnd
      exact hnd.2.2 k (List.mem_of_getElem? hk) k (.head _) rfl
    · rw [List.getElem?_append_right hi] at hb
      rw [List.getElem?_append_right (by omega), hml] at hk
      match hj : i - bl.length, hk, hb with
      | 0, hk, hb =>
        injection hk with hk
        injection hb with hb
        subst hk hb
        exact ⟨hmb.1, hm⟩
      | n + 1, hk, hb => simp at hb

def defineR (bl : List Blk) (d : D) (ra : CR Str) : CR (List Blk) := cbind ra fun t => defineC d bl t
theorem cdefine_any (C : CK) (hok : C.Ok) (bl : List Blk) (ms : List Nat) (bv : Value) (b : Nat) (d : D) (ks : List T) (a : T) (hk : ks[0]? = some a) (w : World) (h : CkAt C bl ms bv w) (ht : TreeAt w C.X b (.mk d ks)) (hsa : smallT a = true)
    (hbad : defineR bl d (exprC C.x bl a) ≠ .bad) : Calls Tryz.prog 161 #[ptrV C.cb, nodeV b] w (SPost C ms bv w (defineR bl d (exprC C.x bl a))) := by
  have HC := Lib.hid h
  have HNM := Lib.hid (fun w' (hg : Gr w w') => Name_any (nodeV b) (some (.mk d ks)) C.X w' ⟨b, rfl, ht.gr hg⟩)
  rw [show (dO (some (T.mk d ks))).name = d.name from rfl] at HNM
  have HKD := Lib.hid (fun w' (hg : Gr w w') => Kid_some b (.mk d ks) C.X 0 (by decide) a hk w' (ht.gr hg))
  have hnb : exprC C.x bl a ≠ .bad := fun e => hbad (by rw [e]; rfl)
  have HEX := Lib.hid (fun ba w' (hg : Gr w w') (hta : TreeAt w' C.X ba a) => cexpr_ok C hok bl ms bv a ba w' (h.gr hg) hta hsa hnb)
  have HMN := Lib.hid (fun er w' (hg : Gr w w') => must_no b (.mk d ks) C.X er w' (ht.gr hg))
  rw [show (T.mk d ks).d = d from rfl] at HMN
  have HMY := Lib.hid (fun er w' => must_yes (nodeV b) ⟨_, rfl⟩ er w')
  obtain ⟨ra, hra⟩ : ∃ ra, exprC C.x bl a = ra := ⟨_, rfl⟩
  rw [hra] at HEX hbad ⊢
  have HBD := Lib.hid hbad
  clear h ht hra hbad hnb hk
  go_enter Tryz.func161, Tryz.ntmps161
  go_wp2_with fail
  refine (HKD.out _ (Gr.al _ _)).mono ?_
  rintro e w2 ⟨ba, rfl, hta, hg2⟩
  have B2 := hg2.blk (blk_alloc _ _)
  have hG2 : Gr w w2 := (Gr.al _ _).trans hg2
  go_wp2_with fail
  refine (HEX.out ba _ hG2 (hta.gr hg2)).mono ?_
  rintro e w3 ⟨hg3, hres⟩
  have hG3 := hG2.trans hg3
  have B3 := hg3.blk B2
  clear hg2 hta B2 hg3
  cases ra with
  | bad => exact absurd rfl HBD.out
  | err ea ec =>
    simp only [] at hres
    subst hres
    exact ⟨rfl, SPost.thr hG3⟩
  | ok ty =>
    simp only [] at hres
    subst hres
    have hblne : bl ≠ [] := fun e => HBD.out (by rw [e]; rfl)
    obtain ⟨bl0, m, rfl⟩ : ∃ bl0 m, bl = bl0 ++ [m] := ⟨bl.dropLast, bl.getLast hblne, (List.dropLast_concat_getLast hblne).symm⟩
    have hmsne : ms ≠ [] := fun e => by have := HC.out.ml; rw [e] at this; simp at this
    obtain ⟨ms0, mb, rfl⟩ : ∃ ms0 mb, ms = ms0 ++ [mb] := ⟨ms.dropLast, ms.getLast hmsne, (List.dropLast_concat_getLast hmsne).symm⟩
    have hml : ms0.length = bl0.length := by have := HC.out.ml; simpa using this
    have hR : defineR (bl0 ++ [m]) d (.ok ty) = if (aget m d.name).isSome then .err d.at_ 6 else if ty = [] ∨ ty = xNull then .err d.at_ 7 else .ok (bl0 ++ [m ++ [(d.name, ty)]]) := by
      unfold defineR cbind defineC
      simp
    have HR := Lib.hid hR
    obtain ⟨n, hn⟩ : ∃ n, n = bl0.length := ⟨_, rfl⟩
    obtain ⟨nn, hnn⟩ : ∃ nn : Nat, nn = n + 1 := ⟨_, rfl⟩
    have hnn2 : (bl0 ++ [m]).length = nn := by simp; omega
    have hlb := HC.out.lb
    rw [hnn2] at hlb
    have hrow := HC.out.row
    rw [hnn2] at hrow
    obtain ⟨g, cap, hbv, hbg, hglt⟩ := hrow.form (by omega)
    have hcell : ∀ w', Gr w w' → w'.cell? ⟨g, n, none⟩ = some (.map (some mb)) := fun w' hg => by
      have := ownGr hrow hg
      rw [hbv] at this
      rw [World.ownsRow.cellAt this n (by omega)]
      simp only [List.map_append, List.map_cons, List.map_nil]
      rw [List.getElem?_append_right (by simp; omega)]
      simp [hml, hn]
    have hsub : IntKind.i64.wrap ((nn : Int) - 1) = (n : Int) := by rw [show (nn : Int) - 1 = (n : Int) by omega]; exact IntWalk.i64_in (n : Int) (by omega)
    have hmap := (HC.out.mp n mb m (by rw [List.getElem?_append_right (by omega)]; simp [hml, hn]) (by rw [List.getElem?_append_right (by omega)]; simp [hn])).2
    have HCE := Lib.hid hcell
    have HBV := Lib.hid hbv
    have HMP := Lib.hid hmap
    have hcap : nn ≤ cap := by
      obtain ⟨A, c, hv, hc, _⟩ := ownRow_row hrow
      rw [hv] at hbv
      injection hbv with _ _ h3
      omega
    have c3 := (HC.out.gr hG3).cells.2.2.2.1
    rw [hbv] at c3
    have hl3 := (HC.out.gr hG3).lt
    have e3 := hcell w3 hG3
    have HB3 := Lib.hid B3
    have b3 := cellAt B3 (i := 0) rfl
    have hnlt : n < nn := by omega
    clear hR hnn2 hrow hbv hcell hmap B3 hblne hmsne hml hn hnn
    go_wp2_with fail
    refine wp_region_held_drew (S := fun w' => w'.cell? ⟨C.cb, 3, none⟩ = some (.slice (some ⟨g, 0, none⟩) nn cap) ∧ w'.cell? ⟨g, n, none⟩ = some (.map (some mb))) rfl ⟨c3, e3⟩ (fun hS => ?_)
    refine wpAnyH_take (i := 0) (v := ?_) rfl (by kernel_rfl) (by kernel_rfl) (by kernel_rfl) (fun _ _ _ h => h) (Or.inl ⟨by rfl, ?_⟩) hS ?_
    rotate_left
    · intro w' hSw; (try dsimp only at hSw); go_simp; try with_reducible rfl
    (try simp only [Act.put, List.setIfInBounds_toArray, List.set_cons_zero, List.set_cons_succ])
    refine wpAnyH_take (i := 1) (v := ?_) rfl (by kernel_rfl) (by kernel_rfl) (by kernel_rfl) (fun _ _ _ h => h) (Or.inl ⟨by rfl, ?_⟩) hS ?_
    rotate_left
    · intro w' hSw; (try dsimp only at hSw); go_simp; try with_reducible rfl
    (try simp only [Act.put, List.setIfInBounds_toArray, List.set_cons_zero, List.set_cons_succ])
    refine wpAnyH_take (i := 2) (v := ?_) rfl (by kernel_rfl) (by kernel_rfl) (by kernel_rfl) (fun _ _ _ h => h) (Or.inl ⟨by rfl, ?_⟩) hS ?_
    rotate_left
    · intro w' hSw; (try dsimp only at hSw); go_simp; try with_reducible rfl
    (try simp only [Act.put, List.setIfInBounds_toArray, List.set_cons_zero, List.set_cons_succ])
    refine wpAnyH_take (i := 3) (v := ?_) rfl (by kernel_rfl) (by kernel_rfl) (by kernel_rfl) (fun _ _ _ h => h) (Or.inl ⟨by rfl, ?_⟩) hS ?_
    rotate_left
    · intro w' hSw; (try dsimp only at hSw); go_simp; try with_reducible rfl
    (try simp only [Act.put, List.setIfInBounds_toArray, List.set_cons_zero, List.set_cons_succ])
    refine wpAnyH_take (i := 4) (v := ?_) rfl (by kernel_rfl) (by kernel_rfl) (by kernel_rfl) (fun _ _ _ h => h) (Or.inl ⟨by rfl, ?_⟩) hS ?_
    rotate_left
    · intro w' hSw; (try dsimp only at hSw); go_simp; try with_reducible rfl
    (try simp only [Act.put, List.setIfInBounds_toArray, List.set_cons_zero, List.set_cons_succ])
    refine wpAnyH_take (i := 5) (v := ?_) rfl (by kernel_rfl) (by kernel_rfl) (by kernel_rfl) (fun _ _ _ h => h) (Or.inl ⟨by rfl, ?_⟩) hS ?_
    rotate_left
    · intro w' hSw; (try dsimp only at hSw); go_simp; try with_reducible rfl
    (try simp only [Act.put, List.setIfInBounds_toArray, List.set_cons_zero, List.set_cons_succ])
    refine wpAnyH_take (i := 6) (v := ?_) rfl (by kernel_rfl) (by kernel_rfl) (by kernel_rfl) (fun _ _ _ h => h) (Or.inl ⟨by rfl, ?_⟩) hS ?_
    rotate_left
    · intro w' hSw; (try dsimp only at hSw); go_simp; try with_reducible rfl
    (try simp only [Act.put, List.setIfInBounds_toArray, List.set_cons_zero, List.set_cons_succ])
    refine wpAnyH_take (i := 7) (v := ?_) rfl (by kernel_rfl) (by kernel_rfl) (by kernel_rfl) (fun _ _ _ h => h) (Or.inl ⟨by rfl, ?_⟩) hS ?_
    rotate_left
    · intro w' hSw; (try dsimp only at hSw); go_simp; try with_reducible rfl
    (try simp only [Act.put, List.setIfInBounds_toArray, List.set_cons_zero, List.set_cons_succ])
    refine wpAnyH_take (i := 8) (v := ?_) rfl (by kernel_rfl) (by kernel_rfl) (by kernel_rfl) (fun _ _ _ h => h) (Or.inl ⟨by rfl, ?_⟩) hS ?_
    rotate_left
    · intro w' hSw; (try dsimp only at hSw); go_simp; try with_reducible rfl
    (try simp only [Act.put, List.setIfInBounds_toArray, List.set_cons_zero, List.set_cons_succ])
    refine wpAnyH_take (i := 9) (v := ?_) rfl (by kernel_rfl) (by kernel_rfl) (by kernel_rfl) (fun _ _ _ h => h) (Or.inl ⟨by rfl, ?_⟩) hS ?_
    rotate_left
    · intro w' hSw; (try dsimp only at hSw); go_simp; try with_reducible rfl
    (try simp only [Act.put, List.setIfInBounds_toArray, List.set_cons_zero, List.set_cons_succ])
    refine wpAnyH_take (i := 10) (v := ?_) rfl (by kernel_rfl) (by kernel_rfl) (by kernel_rfl) (fun _ _ _ h => h) (Or.inl ⟨by rfl, ?_⟩) hS ?_
    rotate_left
    · intro w' hSw; (try dsimp only at hSw); go_simp; try with_reducible rfl
    (try simp only [Act.put, List.setIfInBounds_toArray, List.set_cons_zero, List.set_cons_succ])
    refine wpAnyH_take (i := 11) (v := ?_) rfl (by kernel_rfl) (by kernel_rfl) (by kernel_rfl) (fun _ _ _ h => h) (Or.inl ⟨by rfl, ?_⟩) hS ?_
    rotate_left
    · intro w' hSw; (try dsimp only at hSw); go_simp; try with_reducible rfl
    (try simp only [Act.put, List.setIfInBounds_toArray, List.set_cons_zero, List.set_cons_succ])
    refine wpAnyH_take (i := 12) (v := ?_) rfl (by kernel_rfl) (by kernel_rfl) (by kernel_rfl) (fun _ _ _ h => h) (Or.inl ⟨by rfl, ?_⟩) hS ?_
    rotate_left
    · intro w' hSw; (try dsimp only at hSw); go_simp; try with_reducible rfl
    (try simp only [Act.put, List.setIfInBounds_toArray, List.set_cons_zero, List.set_cons_succ])
    refine wpAnyH_done (by kernel_rfl) ?_ _
    (try simp only [List.getElem_toArray, List.getElem_cons_succ, List.getElem_cons_zero, Act.put, List.setIfInBounds_toArray, List.set_cons_zero, List.set_cons_succ])
    clear c3 e3 hl3
    have hG3d := hG3.drew
    go_wp2_with fail
    refine (HNM.out _ hG3d).mono ?_
    rintro e w4 ⟨rfl, hg4⟩
    have hG4 := hG3d.trans hg4
    have B4 := hg4.blk HB3.out
    have b4 := cellAt B4 (i := 0) rfl
    have hlk := run_get_mss w4 mb m d.name (HMP.out.gr hG4)
    have HB4 := Lib.hid B4
    clear hg4 B4 b3 hG3d
    cases hag : aget m d.name with
    | some t0 =>
      rw [hag] at hlk
      simp only [Option.getD, Option.isSome] at hlk
      have hr : Hid (defineR (bl0 ++ [m]) d (.ok ty) = .err d.at_ 6) := by
        show _ = _
        rw [HR.out, hag]; rfl
      clear hag
      go_wp2_with fail
      refine (HMN.out 6 _ hG4).mono ?_
      rintro e w5 ⟨rfl, hg5⟩
      refine ⟨rfl, ?_⟩
      rw [hr.out]
      exact SPost.thr (hG4.trans hg5)
    | none =>
      rw [hag] at hlk
      simp only [Option.getD, Option.isSome] at hlk
      have HAG := Lib.hid hag
      have hr : Hid (defineR (bl0 ++ [m]) d (.ok ty) = if ty = [] ∨ ty = xNull then .err d.at_ 7 else .ok (bl0 ++ [m ++ [(d.name, ty)]])) := by
        show _ = _
        rw [HR.out, hag]; rfl
      have he1 := emptyS ty
      have he2 : ((S ty).toList == [(110 : UInt8), 105, 108]) = (ty == xNull) := eqL ty _
      have hor : (ty = [] ∨ ty = xNull) ↔ (ty == [] || ty == xNull) = true := by simp
      have HOR := Lib.hid hor
      obtain ⟨q1, hq1⟩ : ∃ q, (ty == []) = q := ⟨_, rfl⟩
      obtain ⟨q2, hq2⟩ : ∃ q, (ty == xNull) = q := ⟨_, rfl⟩
      rw [hq1] at he1 HOR
      rw [hq2] at he2 HOR
      clear hag hor hq1 hq2
      go_wp2_with fail
      refine (HMY.out 6 _).mono ?_
      rintro e w5 ⟨rfl, hg5⟩
      have hG5 := hG4.trans hg5
      have B5 := hg5.blk HB4.out
      have b5 := cellAt B5 (i := 0) rfl
      have HB5 := Lib.hid B5
      clear hlk hg5 B5 b4
      cases q1
      · cases q2
        · go_wp2_with fail
          refine (HMY.out 7 _).mono ?_
          rintro e w6 ⟨rfl, hg6⟩
          have hG6 := hG5.trans hg6
          have B6 := hg6.blk HB5.out
          have b6 := cellAt B6 (i := 0) rfl
          go_wp2_with fail
          refine (HNM.out _ hG6).mono ?_
          rintro e w7 ⟨rfl, hg7⟩
          have hG7 := hG6.trans hg7
          obtain ⟨w8, hrun, hm8, hg8⟩ := run_put keyS Tryz.underlying150 Tryz.underlying9 (HMP.out.gr hG7) d.name (.string (S ty))
          rw [aput_none m d.name ty HAG.out] at hm8
          have hrun2 : (Instr.mapUpdate 150 (.map (some mb)) (.string (S d.name)) (.string (S ty))).run Tryz.prog w7 = .ok () w8 := hrun
          have HM8 := Lib.hid hm8
          have HG8 := Lib.hid hg8
          clear hm8 hg8 hrun b6 B6 hg6 b5
          go_wp2_with fail
          go_end0
          rw [hr.out, if_neg (by rw [HOR.out]; decide)]
          refine ⟨rfl, ms0 ++ [mb], bv, (HC.out.gr hG7).last HG8.out HM8.out, ?_⟩
          refine SRel.grl hG7 ⟨⟨HG8.out.os, HG8.out.tape, HG8.out.output, HG8.out.size, fun k hk hn => HG8.out.block k hk fun e => hn (.inr (.inr ?_))⟩, fun k hk => .inl hk⟩
          injection e with e
          rw [e]; simp
        · go_wp2_with fail
          refine (HMN.out 7 _ hG5).mono ?_
          rintro e w6 ⟨rfl, hg6⟩
          refine ⟨rfl, ?_⟩
          rw [hr.out, if_pos (by rw [HOR.out]; rfl)]
          exact SPost.thr (hG5.trans hg6)
      · go_wp2_with fail
        refine (HMN.out 7 _ hG5).mono ?_
        rintro e w6 ⟨rfl, hg6⟩
        refine ⟨rfl, ?_⟩
        rw [hr.out, if_pos (by rw [HOR.out]; rfl)]
        exact SPost.thr (hG5.trans hg6)
end Go.Proofs.YthniejnbkkkbnaaGreatDoor

namespace Go.Proofs.YthniejnbkkkbnaaGreatDoor
open Go.RowKit
set_option maxRecDepth 100000
set_option maxHeartbeats 4000000

/-- The contract of stmt at a tree. -/
def StmtOk (C : CK) (t : T) : Prop :=
  ∀ (bl : List Blk) (ms : List Nat) (bv : Value) (b : Nat) (w : World), CkAt C bl ms bv w → TreeAt w C.X b t → smallT t = true → stmtC C.x C.res t bl ≠ .bad → Calls Tryz.prog 104 #[ptrV C.cb, nodeV b] w (SPost C ms bv w (stmtC C.x C.res t bl))
theorem insideC_drop (x : Info) (res : Str) (ks : List T) (j : Nat) (a : T) (bl : List Blk) (hj : ks[j]? = some a) : insideC x res (ks.drop j) bl = cbind (stmtC x res a bl) fun bl => insideC x res (ks.drop (j + 1)) bl := by
  obtain ⟨hlt, he⟩ := List.getElem?_eq_some_iff.1 hj
  rw [List.drop_eq_getElem_cons hlt, he, insideC]

theorem cinside_any (C : CK) (d : D) (ks : List T) (ih : ∀ a ∈ ks, StmtOk C a) (bl : List Blk) (ms : List Nat) (bv : Value) (b : Nat) (w : World) (h : CkAt C bl ms bv w) (ht : TreeAt w C.X b (.mk d ks)) (hkl : ks.length < 1000000) (hsa : ∀ a ∈ ks, smallT a = true)
    (hbad : insideC C.x C.res ks bl ≠ .bad) : Calls Tryz.prog 66 #[ptrV C.cb, nodeV b] w (SPost C ms bv w (insideC C.x C.res ks bl)) := by
  have HC := Lib.hid h
  have HKS := Lib.hid (fun w' (hg : Gr w w') => kids_any b (.mk d ks) C.X w' (ht.gr hg) (fun k hk => by have := h.hB; have := hg.size; have := hk.1; omega) hkl)
  rw [show (T.mk d ks).kids = ks from rfl] at HKS
  have HNL : Hid (∀ k, w.heap.size ≤ k → ¬ COwn C bv ms k) := fun k hk ho => by have := h.own_lt ho; omega
  obtain ⟨R, hR⟩ : ∃ R, insideC C.x C.res ks bl = R := ⟨_, rfl⟩
  have HR := Lib.hid hR
  rw [hR] at hbad ⊢
  have HBD := Lib.hid hbad
  obtain ⟨n, hn⟩ : ∃ n, n = ks.length := ⟨_, rfl⟩
  rw [← hn] at hkl
  have HN := Lib.hid hn
  clear h ht hR hbad hn
  go_enter Tryz.func66, Tryz.ntmps66
  go_wp2_with fail
  refine (HKS.out _ (Gr.al _ _)).mono ?_
  rintro e w1 ⟨kv, bs, rfl, ho, hg1⟩
  have hG1 : Gr w w1 := (Gr.al _ _).trans hg1
  have hkow : ∀ k, some k = kv.ownBlock → w.heap.size ≤ k := fun k hk => by have := (ho.own.lt k hk.symm).1; simp at this; omega
  obtain ⟨A, c, bs', hkv, hkc, hkr, hbl, htr⟩ := ho.nodes
  rw [← HN.out] at hkv hkc hbl
  have HKR : Hid (∀ w', Fr (COwn C bv ms) w1 w' → RowR w' (fun _ => True) A (bs'.map ptrV)) := fun w' hf => (hkr.frame fun k hk hlt => hf.block k hlt (HNL.out k (hkow k hk))).imp fun _ _ _ => trivial
  subst hkv
  have HTR := Lib.hid htr
  have HBL := Lib.hid hbl
  have HC1 := Lib.hid (HC.out.gr hG1)
  clear ho hkr htr hg1 hbl hkow
  go_wp2_with fail
  go_loopw [9] (fun t wr => ∃ (j : Nat) (blr : List Blk) (msr : List Nat) (bvr : Value), j ≤ n ∧ t = .int .i64 j ∧ CkAt C blr msr bvr wr ∧ SRel C bv ms w1 bvr msr wr ∧ Hid (insideC C.x C.res ks bl = insideC C.x C.res (ks.drop j) blr)) (fun t _ => n - (intOf t).toNat)
  case atStart => exact ⟨0, bl, ms, bv, by omega, rfl, HC1.out, SRel.refl _ _ _ _, rfl⟩
  case round =>
    obtain ⟨j, blr, msr, bvr, hj, rfl, hck, hsr, hI⟩ := hrel
    have HCK := Lib.hid hck
    have HSR := Lib.hid hsr
    have hlr := hck.lt
    clear hck hsr
    by_cases hlt : j < n
    · have hjk : j < ks.length := by rw [← HN.out]; exact hlt
      have hjb : j < bs'.length := by rw [HBL.out]; exact hlt
      obtain ⟨g, off, rfl, hg, _, hcl⟩ := (HKR.out _ HSR.out.fr).open_ (j := j) (by simpa using hjb)
      have htj := HSR.out.tree HC1.out (HTR.out j bs'[j] ks[j] (by simp [hjb]) (by simp [hjk]))
      obtain ⟨bj, hbj⟩ : ∃ b, bs'[j] = b := ⟨_, rfl⟩
      have hcj := hcl j (ptrV bj) (by simp [hjb, hbj])
      rw [hbj] at htj
      have hstep := insideC_drop C.x C.res ks j ks[j] blr (by simp [hjk])
      have hmem : ks[j] ∈ ks := List.getElem_mem hjk
      have hnb : stmtC C.x C.res ks[j] blr ≠ .bad := fun e => HBD.out (by rw [← HR.out, hI.out, hstep, e]; rfl)
      have HE := Lib.hid (fun w' (hg : Gr _ w') => ih ks[j] hmem blr msr bvr bj w' (HCK.out.gr hg) (htj.gr hg) (hsa ks[j] hmem) hnb)
      obtain ⟨ra, hra⟩ : ∃ ra, stmtC C.x C.res ks[j] blr = ra := ⟨_, rfl⟩
      rw [hra] at hstep HE
      have HST := Lib.hid hstep
      clear hcl hbj htj hstep hmem hnb hra
      go_wp2_with fail
      refine (HE.out _ (Gr.al _ _)).mono ?_
      rintro e w3 hres
      cases ra with
      | bad => exact absurd (by rw [← HR.out, hI.out, HST.out]; rfl) HBD.out
      | err ea ec =>
        obtain ⟨he, hfr⟩ := hres
        have hr : R = .err ea ec := by rw [← HR.out, hI.out, HST.out]; rfl
        subst hr he
        exact ⟨rfl, rfl, Fr.grl hG1 (HSR.out.fr.trans (Fr.grl (Gr.al _ _) hfr) HSR.out.sub)⟩
      | ok blx =>
        obtain ⟨he, msx, bvx, hcx, hsx⟩ := hres
        subst he
        have HCX := Lib.hid hcx
        have HSX := Lib.hid (HSR.out.trans (SRel.grl (Gr.al _ _) hsx))
        clear hcx hsx
        go_wp2_with fail
        go_roundw
        case rel =>
          refine ⟨j + 1, blx, msx, bvx, by omega, by go_num, HCX.out, HSX.out, ?_⟩
          show insideC C.x C.res ks bl = _
          rw [hI.out, HST.out]; rfl
        case measure => simp [intOf]; omega
    · have hr : Hid (R = .ok blr) := by
        show R = .ok blr
        rw [← HR.out, hI.out, List.drop_of_length_le (by rw [← HN.out]; omega), insideC]
      go_wp2_with fail
      go_end0
      rw [hr.out]
      exact ⟨rfl, msr, bvr, HCK.out, SRel.grl hG1 HSR.out⟩
end Go.Proofs.YthniejnbkkkbnaaGreatDoor
