/- Walks of layer parse: nodes that are made, types, parts, keys. -/
import Derived.Test.YthniejnbkkkbnaaGreatDoorM06
import Derived.Deep.RegionHeld3
set_option linter.all false
set_option linter.unusedSimpArgs false
set_option linter.unusedVariables false
namespace Go.Proofs.YthniejnbkkkbnaaGreatDoor
open Go.RowKit
set_option maxRecDepth 100000
set_option maxHeartbeats 1000000

/-- A new node: its block. -/
def NewNode (w : World) (b : Nat) (op : Int) (name : Str) (n at_ : Int) (A : Option Addr) (l c : Nat) (w' : World) : Prop :=
  w.heap.size ≤ b ∧ w'.heap[b]? = some (.cells #[.int .i64 op, .string (S name), .string ⟨#[]⟩, .int .i64 n, .int .i64 at_, .slice A l c] 96 (0, 0)) ∧ Gr w w'

theorem node_any (op : Int) (t : Tok) (A : Option Addr) (l c : Nat) (w : World) :
    Calls Tryz.prog 152 #[.int .i64 op, tokV t, .slice A l c] w fun e w' => ∃ b, e = .returned (nodeV b) ∧ NewNode w b op t.text 0 t.at_ A l c w' := by
  obtain ⟨k, tx, at_⟩ := t
  unfold tokV
  go_enter Tryz.func152, Tryz.ntmps152
  go_wp2_with fail
  go_returns
  exact ⟨w.heap.size + 2, rfl, by omega, alloc3_trd _ _ _ _, ((Gr.al _ _).alloc _).alloc _⟩
theorem plain_any (op at_ : Int) (A : Option Addr) (l c : Nat) (w : World) :
    Calls Tryz.prog 56 #[.int .i64 op, .int .i64 at_, .slice A l c] w fun e w' => ∃ b, e = .returned (nodeV b) ∧ NewNode w b op [] 0 at_ A l c w' := by
  go_enter Tryz.func56, Tryz.ntmps56
  go_wp2_with fail
  go_returns
  exact ⟨w.heap.size + 1, rfl, by omega, alloc2_snd _ _ _, (Gr.al _ _).alloc _⟩

theorem Pointer_any (s : ByteArray) (hs : s.size < 1000000) (w : World) : Calls Tryz.prog 209 #[.string s] w fun e w' => e = .returned (.string (S (42 :: s.data.toList))) ∧ w = w' := by
  go_enter Tryz.func209, Tryz.ntmps209
  go_wp2_with fail
  go_ret
  refine ⟨ret_str (ba_ext ?_), rfl⟩
  rw [data_S]
  simp
theorem typ_any (K : PK) (p d : Nat) (w : World) (h : Ctx K p d w) (r : PR Str) (hr : typP K.L K.E p = some r) :
    Calls Tryz.prog 154 #[ptrV K.rb] w (PP K d w r fun a v _ => v = .string (S a)) := by
  have hf := run_field_tok1
  have hsm := h.sm
  unfold typP at hr
  have HSM := Lib.hid hsm
  clear hsm
  cases h1 : isP K.L K.E p xStar
  · have HA := Lib.hid (accept_no K p d ⟨#[42]⟩ w h h1)
    rw [h1] at hr
    simp only [Bool.false_eq_true, if_false] at hr
    cases h2 : (isP K.L K.E p xInt || isP K.L K.E p xBool)
    · rw [h2] at hr
      simp only [Bool.false_eq_true, if_false, failP, Option.some.injEq] at hr
      subst hr
      simp only [Bool.or_eq_false_iff] at h2
      have HI := Lib.hid (fun w1 (hg : Gr w w1) => is_any K p d ⟨#[105, 110, 116]⟩ w1 (h.gr hg))
      have HB := Lib.hid (fun w1 (hg : Gr w w1) => is_any K p d ⟨#[98, 111, 111, 108]⟩ w1 (h.gr hg))
      have HF := Lib.hid (fun w1 (hg : Gr w w1) => fail_any K p d w1 (h.gr hg))
      have H2 := Lib.hid h2
      clear h1 h2 h
      go_enter Tryz.func154, Tryz.ntmps154
      go_wp2_with fail
      refine HA.out.mono ?_
      rintro e w1 ⟨rfl, hg1⟩
      go_wp2_with fail
      refine (HI.out _ hg1).mono ?_
      rintro e w2 ⟨rfl, hg2⟩
      rw [show isP K.L K.E p (⟨#[105, 110, 116]⟩ : ByteArray).data.toList = false from H2.out.1]
      go_wp2_with fail
      refine (HB.out _ (hg1.trans hg2)).mono ?_
      rintro e w3 ⟨rfl, hg3⟩
      rw [show isP K.L K.E p (⟨#[98, 111, 111, 108]⟩ : ByteArray).data.toList = false from H2.out.2]
      go_wp2_with fail
      refine (HF.out _ ((hg1.trans hg2).trans hg3)).mono ?_
      rintro e w4 ⟨rfl, hg4⟩
      go_wp2_with fail
      exact ⟨rfl, .of_gr (((hg1.trans hg2).trans hg3).trans hg4), rfl⟩
    · rw [h2] at hr
      simp only [if_true, Option.some.injEq] at hr
      subst hr
      have HI := Lib.hid (fun w1 (hg : Gr w w1) => is_any K p d ⟨#[105, 110, 116]⟩ w1 (h.gr hg))
      have HB := Lib.hid (fun w1 (hg : Gr w w1) => is_any K p d ⟨#[98, 111, 111, 108]⟩ w1 (h.gr hg))
      have hp : p < K.L.length := by
        rcases Bool.or_eq_true _ _ |>.mp h2 with h | h <;> exact isP_lt h
      obtain ⟨⟨k, tx, at_⟩, hT⟩ : ∃ T, nowP K.L K.E p = T := ⟨_, rfl⟩
      have HT := Lib.hid (fun w1 (hg : Gr w w1) => take_any K p d w1 (h.gr hg) hp)
      rw [hT] at HT ⊢
      unfold tokV at HT
      cases h3 : isP K.L K.E p xInt
      · rw [h3, Bool.false_or] at h2
        have H2 := Lib.hid h2
        have H3 := Lib.hid h3
        clear h1 h2 h hT h3
        go_enter Tryz.func154, Tryz.ntmps154
        go_wp2_with fail
        refine HA.out.mono ?_
        rintro e w1 ⟨rfl, hg1⟩
        go_wp2_with fail
        refine (HI.out _ hg1).mono ?_
        rintro e w2 ⟨rfl, hg2⟩
        rw [show isP K.L K.E p (⟨#[105, 110, 116]⟩ : ByteArray).data.toList = false from H3.out]
        go_wp2_with fail
        refine (HB.out _ (hg1.trans hg2)).mono ?_
        rintro e w3 ⟨rfl, hg3⟩
        rw [show isP K.L K.E p (⟨#[98, 111, 111, 108]⟩ : ByteArray).data.toList = true from H2.out]
        go_wp2_with fail
        refine (HT.out _ ((hg1.trans hg2).trans hg3)).mono ?_
        rintro e w4 ⟨rfl, hc4, hm4⟩
        go_wp2_with fail
        go_ret
        exact ⟨(Md.of_gr ((hg1.trans hg2).trans hg3)).trans hm4, _, rfl, rfl, hc4⟩
      · have H3 := Lib.hid h3
        clear h1 h2 h hT h3
        go_enter Tryz.func154, Tryz.ntmps154
        go_wp2_with fail
        refine HA.out.mono ?_
        rintro e w1 ⟨rfl, hg1⟩
        go_wp2_with fail
        refine (HI.out _ hg1).mono ?_
        rintro e w2 ⟨rfl, hg2⟩
        rw [show isP K.L K.E p (⟨#[105, 110, 116]⟩ : ByteArray).data.toList = true from H3.out]
        go_wp2_with fail
        refine (HT.out _ (hg1.trans hg2)).mono ?_
        rintro e w4 ⟨rfl, hc4, hm4⟩
        go_wp2_with fail
        go_ret
        exact ⟨(Md.of_gr (hg1.trans hg2)).trans hm4, _, rfl, rfl, hc4⟩
  · have HA := Lib.hid (accept_yes K p d ⟨#[42]⟩ w h h1)
    have hp := isP_lt h1
    rw [h1] at hr
    simp only [if_true] at hr
    obtain ⟨r0, hr0⟩ : ∃ r0, wordPP K.L K.E (p + 1) = some r0 := by
      unfold wordPP failP
      split <;> exact ⟨_, rfl⟩
    have HW := Lib.hid (fun w1 (hc : Ctx K (p + 1) d w1) => word_p K (p + 1) d w1 hc r0 hr0)
    have hw : ∀ t p', r0 = .ok t p' → t.text.length ≤ 5000 := by
      intro t p' e
      subst e
      unfold wordPP failP at hr0
      split at hr0
      · injection hr0 with hr0
        injection hr0 with e1 e2
        subst e1
        exact HSM.out _
      · injection hr0 with hr0; cases hr0
    rw [hr0] at hr
    clear h1 h hr0
    cases r0 with
    | err a er =>
      injection hr with hr
      subst hr
      clear hw
      go_enter Tryz.func154, Tryz.ntmps154
      go_wp2_with fail
      refine HA.out.mono ?_
      rintro e w1 ⟨rfl, hc1, hm1⟩
      go_wp2_with fail
      refine (HW.out _ hc1).mono ?_
      rintro e w2 ⟨hm2, rfl⟩
      go_wp2_with fail
      exact ⟨rfl, hm1.trans hm2, rfl⟩
    | ok t p' =>
      obtain ⟨k, tx, at_⟩ := t
      simp only [pbind, Option.some.injEq] at hr
      subst hr
      have HP := Lib.hid (Pointer_any (S tx) (by rw [size_S]; have := hw _ _ rfl; simp at this; omega))
      rw [data_S] at HP
      clear hw
      go_enter Tryz.func154, Tryz.ntmps154
      go_wp2_with fail
      refine HA.out.mono ?_
      rintro e w1 ⟨rfl, hc1, hm1⟩
      go_wp2_with fail
      refine (HW.out _ hc1).mono ?_
      rintro e w2 ⟨hm2, v, rfl, rfl, hc2⟩
      unfold tokV
      go_wp2_with fail
      refine (HP.out _).mono ?_
      rintro e w3 ⟨rfl, rfl⟩
      go_wp2_with fail
      go_ret
      exact ⟨hm1.trans hm2, _, rfl, rfl, hc2⟩

theorem wordPP_some (L : List Tok) (E : Int) (p : Nat) : ∃ r, wordPP L E p = some r := by
  unfold wordPP failP
  split <;> exact ⟨_, rfl⟩
theorem expectP_some (L : List Tok) (E : Int) (p : Nat) (x : Str) : ∃ r, expectP L E p x = some r := by
  unfold expectP failP
  split <;> exact ⟨_, rfl⟩
theorem typP_some (L : List Tok) (E : Int) (p : Nat) : ∃ r, typP L E p = some r := by
  unfold typP
  split
  · obtain ⟨r, hr⟩ := wordPP_some L E (p + 1)
    rw [hr]
    cases r <;> exact ⟨_, rfl⟩
  · split
    · exact ⟨_, rfl⟩
    · exact ⟨_, rfl⟩

/-- A tree that lies in memory that a call has made. -/
abbrev NewTree (w : World) (t : T) (v : Value) (w' : World) : Prop := ∃ b, v = nodeV b ∧ TreeAt w' (fun k => w.heap.size ≤ k) b t

theorem part_any (K : PK) (op : Int) (p d : Nat) (w : World) (h : Ctx K p d w) (r : PR T) (hr : partP K.L K.E op p = some r) :
    Calls Tryz.prog 97 #[ptrV K.rb, .int .i64 op] w (PP K d w r (NewTree w)) := by
  unfold partP at hr
  obtain ⟨r0, hr0⟩ : ∃ r0, wordPP K.L K.E p = some r0 := by
    unfold wordPP failP
    split <;> exact ⟨_, rfl⟩
  have HW := Lib.hid (fun w1 (hc : Ctx K p d w1) => word_p K p d w1 hc r0 hr0)
  have HC := Lib.hid h
  rw [hr0] at hr
  clear h hr0
  cases r0 with
  | err a er =>
    injection hr with hr
    subst hr
    go_enter Tryz.func97, Tryz.ntmps97
    go_wp2_with fail
    refine (HW.out _ (HC.out.alloc _)).mono ?_
    rintro e w2 ⟨hm2, rfl⟩
    go_wp2_with fail
    exact ⟨rfl, (Md.of_gr (Gr.al _ _)).trans hm2, rfl⟩
  | ok t p1 =>
    simp only [pbind] at hr
    obtain ⟨r1, hr1⟩ := typP_some K.L K.E p1
    have HT := Lib.hid (fun w1 (hc : Ctx K p1 d w1) => typ_any K p1 d w1 hc r1 hr1)
    rw [hr1] at hr
    clear hr1
    go_enter Tryz.func97, Tryz.ntmps97
    go_wp2_with fail
    refine (HW.out _ (HC.out.alloc _)).mono ?_
    rintro e w2 ⟨hm2, v, rfl, rfl, hc2⟩
    go_wp2_with fail
    refine (node_any op t none 0 0 _).mono ?_
    rintro e w3 ⟨b, rfl, hn⟩
    obtain ⟨hnb, hnd, hng⟩ := hn
    have HCD : Hid (Ctx K p1 d (w3.alloc (.cells #[ptrV b] 53)).drew) := ((hc2.gr hng).alloc _).gr (Gr.refl _).drew
    have HM : Hid (Md K.rb w (w3.alloc (.cells #[ptrV b] 53)).drew) := ((((Md.of_gr (Gr.al _ _)).trans hm2).trans (.of_gr hng)).alloc _).drew
    have HB : Hid ((w3.alloc (.cells #[ptrV b] 53)).drew.heap[b]? = some (.cells #[.int .i64 op, .string (S t.text), .string ⟨#[]⟩, .int .i64 0, .int .i64 t.at_, .slice none 0 0] 96 (0, 0))) := blk_alloc_lt hnd
    have HB2 : Hid ((w3.alloc (.cells #[ptrV b] 53)).drew.heap[w3.heap.size]? = some (.cells #[ptrV b] 53 (0, 0))) := blk_alloc _ _
    have HS0 : Hid ((w3.alloc (.cells #[ptrV b] 53)).drew.cell? ⟨w3.heap.size, 0, none⟩ = some (ptrV b)) := cellAt HB2.out rfl
    have hrb := HC.out.lt
    have hne0 : w.heap.size ≠ K.rb := by omega
    have HB0 : Hid ((w3.alloc (.cells #[ptrV b] 53)).drew.heap[w.heap.size]? = some (.cells #[.pointer none] 53 (0, 0))) := blk_alloc_lt (hng.blk (hm2.blk (blk_alloc _ _) hne0))
    have hs1 : w.heap.size < w2.heap.size := by have := hm2.size; rw [World.size_alloc] at this; omega
    have hs2 : w2.heap.size ≤ w3.heap.size := hng.size
    have hne1 : b ≠ K.rb := by omega
    have hne2 : w3.heap.size ≠ K.rb := by omega
    have hne3 : b < w3.heap.size := blkLt hnd
    have hBB := HC.out.hB
    clear hnd hng hm2 hc2
    go_wp2_with fail
    refine wp_region_held_drew (S := fun w' => w'.cell? ⟨w3.heap.size, 0, none⟩ = some (ptrV b)) rfl HS0.out (fun hS => ?_)
    refine wpAnyH_take (i := 0) (v := ?_) rfl (by kernel_rfl) (by kernel_rfl) (by kernel_rfl) (fun _ _ _ h => h) (Or.inl ⟨by rfl, ?_⟩) hS ?_
    rotate_left
    · intro w' hSw; (try dsimp only at hSw); go_simp; try with_reducible rfl
    simp only [Act.put, List.setIfInBounds_toArray, List.set_cons_zero, List.set_cons_succ]
    refine wpAnyH_take (i := 1) (v := ?_) rfl (by kernel_rfl) (by kernel_rfl) (by kernel_rfl) (fun _ _ _ h => h) (Or.inl ⟨by rfl, ?_⟩) hS ?_
    rotate_left
    · intro w' hSw; (try dsimp only at hSw); go_simp; try with_reducible rfl
    simp only [Act.put, List.setIfInBounds_toArray, List.set_cons_zero, List.set_cons_succ]
    refine wpAnyH_take (i := 2) (v := ?_) rfl (by kernel_rfl) (by kernel_rfl) (by kernel_rfl) (fun _ _ _ h => h) (Or.inl ⟨by rfl, ?_⟩) hS ?_
    rotate_left
    · intro w' hSw; (try dsimp only at hSw); go_simp; try with_reducible rfl
    simp only [Act.put, List.setIfInBounds_toArray, List.set_cons_zero, List.set_cons_succ]
    refine wpAnyH_ready (rs := [3]) (by kernel_rfl) (by simp) ?_
    refine AllReadyH.cons rfl (fun K' hK => ?_) AllReadyH.nil
    simp only [List.getElem_toArray, List.getElem_cons_succ, List.getElem_cons_zero]
    go_simp
    refine (HT.out _ HCD.out).mono ?_
    rintro e w4 ⟨hm4, hres⟩
    cases r1 with
    | err a er =>
      subst hres
      injection hr with hr
      subst hr
      exact ⟨rfl, HM.out.trans hm4, rfl⟩
    | ok ty p2 =>
      obtain ⟨v, rfl, rfl, hc4⟩ := hres
      simp only [Option.some.injEq] at hr
      subst hr
      have B4 := hm4.blk HB.out hne1
      have s4 := cellAt (hm4.blk HB2.out hne2) (i := 0) rfl
      have n4 := cellAt B4 (i := 2) rfl
      have f4 := frozenAt B4
      refine hK.out _ _ s4 (fun hS => ?_)
      (try simp only [Act.put, List.setIfInBounds_toArray, List.set_cons_zero, List.set_cons_succ])
      refine wpAnyH_take (i := 4) (v := ?_) rfl (by kernel_rfl) (by kernel_rfl) (by kernel_rfl) (fun _ _ _ h => h) (Or.inl ⟨by rfl, ?_⟩) hS ?_
      rotate_left
      · intro w' hSw; (try dsimp only at hSw); go_simp; try with_reducible rfl
      simp only [Act.put, List.setIfInBounds_toArray, List.set_cons_zero, List.set_cons_succ]
      refine wpAnyH_take (i := 5) (v := ?_) rfl (by kernel_rfl) (by kernel_rfl) (by kernel_rfl) (fun _ _ _ h => h) (Or.inl ⟨by rfl, ?_⟩) hS ?_
      rotate_left
      · intro w' hSw; (try dsimp only at hSw); go_simp; try with_reducible rfl
      simp only [Act.put, List.setIfInBounds_toArray, List.set_cons_zero, List.set_cons_succ]
      refine wpAnyH_ready (rs := [6]) (by kernel_rfl) (by simp) ?_
      refine AllReadyH.cons rfl (fun K' hK => ?_) AllReadyH.nil
      simp only [List.getElem_toArray, List.getElem_cons_succ, List.getElem_cons_zero]
      go_simp
      refine hK.out _ _ ((World.cell?_setCell_far _ _ _ _ (by simp; omega)).trans s4) (fun hS => ?_)
      refine wpAnyH_done (by kernel_rfl) ?_ _
      have r5 : (w4.setCell ⟨b, 2, none⟩ (.string (S ty))).cell? ⟨w.heap.size, 0, none⟩ = some (.pointer none) := cellAt (blk_setCell_ne (hm4.blk HB0.out hne0) (by simp; omega)) rfl
      have r6 : ∀ i, (w4.setCell ⟨b, 2, none⟩ (.string (S ty))).frozen? ⟨w.heap.size, i, none⟩ = false := frozenAt (blk_setCell_ne (hm4.blk HB0.out hne0) (by simp; omega))
      have B5 := blk_setCell (i := 2) (v := .string (S ty)) B4
      clear s4 n4 f4 B4 hK
      go_wp2_with fail
      have hbB : K.B ≤ b := by omega
      refine bodyPost_ret (v := nodeV b) (by simp [results, Tryz.results97, go_sem, r5]) rfl ⟨?_, _, rfl, ⟨b, rfl, .mk (bs := []) (by omega) (blk_setCell_ne B5 (by simp; omega)) (.inl rfl) rfl (fun i b' t' hb' => by simp at hb')⟩, ?_⟩
      · exact (((HM.out.trans hm4).setCell (.inl (by simp; omega)) _).setCell (.inl (Nat.le_refl _)) _)
      · exact ((hc4.setNew hbB (by simp; omega) _).setNew (by omega) (by simp; omega) _)
end Go.Proofs.YthniejnbkkkbnaaGreatDoor
