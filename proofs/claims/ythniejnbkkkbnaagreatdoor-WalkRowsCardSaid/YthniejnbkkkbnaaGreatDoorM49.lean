/- Walks of the law's own functions: WalkRows. -/
import Derived.Test.YthniejnbkkkbnaaGreatDoorM48
set_option linter.all false
set_option linter.unusedSimpArgs false
set_option linter.unusedVariables false
namespace Go.Proofs.YthniejnbkkkbnaaGreatDoor
open Go.RowKit
set_option maxRecDepth 100000
set_option maxHeartbeats 40000000

theorem WalkRows_any (A B : Option Addr) (a b : List Int) (ca cb : Nat) (X Y : Nat → Prop) (en fa st mk en' fa' st' mk' : Int) (w : World) (ha : RowR w X A (a.map iV)) (hb : RowR w Y B (b.map iV)) (hcb : b.length ≤ cb) (hG : Glob w) :
    Calls Tryz.prog 3 #[.agg #[.slice A a.length ca, iV en, iV fa, iV st, iV mk], .agg #[.slice B b.length cb, iV en', iV fa', iV st', iV mk']] w fun e w' => e = .returned (.bool true) ∧ Gr w w' := by
  have HA := Lib.hid ha
  have HB := Lib.hid hb
  have HAW := Lib.hid (fun w' (hg : Gr w w') => awake_any w' (hG.gr hg))
  have HIP := Lib.hid (fun (hl : a.length < 1000000) (hl2 : b.length < 1000000) w' (hg : Gr w w') => IsPrefix_any A B a b ca cb X Y w' (ha.gr hg) (hb.gr hg) hl hl2 hcb)
  have HSM := Lib.hid (fun (hl : a.length < 1000000) w' (hg : Gr w w') => Same_any A B a b ca cb X Y en fa st mk en' fa' st' mk' w' (ha.gr hg) (hb.gr hg) hl)
  have HSA := Lib.hid (fun (hl : a.length < 1000000) w' (hg : Gr w w') => lawsame_any A B a b ca cb X Y w' (ha.gr hg) (hb.gr hg) hl)
  obtain ⟨P, hP⟩ : ∃ P, (decide (a.length ≤ b.length) && a == b.take a.length) = P := ⟨_, rfl⟩
  rw [hP] at HIP
  have HPP := Lib.hid hP
  obtain ⟨n, hn⟩ : ∃ n, a.length = n := ⟨_, rfl⟩
  obtain ⟨m, hm⟩ : ∃ m, b.length = m := ⟨_, rfl⟩
  have HN := Lib.hid hn
  have HM := Lib.hid hm
  rw [hn, hm] at HIP HSM HSA
  rw [hn] at HPP
  rw [hm] at HPP
  rw [hn, hm]
  clear ha hb hG hP hn hm hcb
  go_enter Tryz.func3, Tryz.ntmps3
  go_wp2_with fail
  have A1 := alloc2_fst w (.cells #[.slice A n ca, iV en, iV fa, iV st, iV mk] 25) (.cells #[.slice B m cb, iV en', iV fa', iV st', iV mk'] 25)
  have A2 := alloc2_snd w (.cells #[.slice A n ca, iV en, iV fa, iV st, iV mk] 25) (.cells #[.slice B m cb, iV en', iV fa', iV st', iV mk'] 25)
  have hG1 : Gr w ((w.alloc (.cells #[.slice A n ca, iV en, iV fa, iV st, iV mk] 25)).alloc (.cells #[.slice B m cb, iV en', iV fa', iV st', iV mk'] 25)) := (Gr.al _ _).alloc _
  refine (HAW.out _ hG1).mono ?_
  rintro e w1 ⟨rfl, hg1⟩
  have hG := hG1.trans hg1
  have B1 := hg1.blk A1
  have B2 := hg1.blk A2
  clear A1 A2 hG1 hg1 HAW
  obtain ⟨k1, hk1⟩ : ∃ k, w.heap.size = k := ⟨_, rfl⟩
  obtain ⟨k2, hk2⟩ : ∃ k, k1 + 1 = k := ⟨_, rfl⟩
  rw [hk1, hk2] at B2 ⊢
  rw [hk1] at B1
  have HB1 := Lib.hid B1
  have HB2 := Lib.hid B2
  have a0 := cellAt B1 (i := 0) rfl
  have b0 := cellAt B2 (i := 0) rfl
  have hl2 := blkLt B2
  have hl1 := blkLt B1
  have HG := Lib.hid hG
  clear B1 B2 hk1 hk2 hG
  by_cases hna : (100 : Int) < n
  · go_wp2_with fail
    go_ret
    exact ⟨rfl, HG.out⟩
  by_cases hnb : (100 : Int) < m
  · go_wp2_with fail
    go_ret
    exact ⟨rfl, HG.out⟩
  have hn100 : n ≤ 100 := by omega
  have hm100 : m ≤ 100 := by omega
  have HIP2 := Lib.hid (fun w' hg => HIP.out (by omega) (by omega) w' hg)
  have HSM2 := Lib.hid (fun w' hg => HSM.out (by omega) w' hg)
  have HSA2 := Lib.hid (fun w' hg => HSA.out (by omega) w' hg)
  clear HIP HSM HSA
  go_wp2_with fail
  obtain ⟨q0, hq0⟩ : ∃ q, decide (n ≤ m) = q := ⟨_, rfl⟩
  rw [hq0]
  have HQ0 := Lib.hid hq0
  clear hq0
  go_loopw [5, 6] (fun v t wr => ∃ (j : Nat) (q : Bool), v = .bool q ∧ t = .int .i64 j ∧ j ≤ n ∧ Gr w1 wr ∧ Hid ((q = true → n ≤ m ∧ a.take j = b.take j) ∧ (q = false → P = false))) (fun _ t _ => n - (intOf t).toNat)
  case atStart =>
    refine ⟨0, q0, rfl, rfl, by omega, Gr.refl _, ⟨fun h => ⟨of_decide_eq_true (HQ0.out.trans h), by simp⟩, fun h => ?_⟩⟩
    · have h3 := of_decide_eq_false (HQ0.out.trans h)
      rw [← HPP.out]
      have : decide (n ≤ m) = false := by simp; omega
      rw [this]
      rfl
  case round =>
    obtain ⟨j, q, rfl, rfl, hjn, hg, hI⟩ := hrel
    have HGR := Lib.hid hg
    have a0 := cellAt (HGR.out.blk HB1.out) (i := 0) rfl
    have b0 := cellAt (HGR.out.blk HB2.out) (i := 0) rfl
    have hl1 := blkLt (HGR.out.blk HB1.out)
    have hl2 := blkLt (HGR.out.blk HB2.out)
    by_cases hgo : q = true ∧ j < n
    · obtain ⟨rfl, hlt⟩ := hgo
      obtain ⟨hnm, hT⟩ := hI.out.1 rfl
      have hja : j < a.length := by rw [HN.out]; exact hlt
      have hjb : j < b.length := by rw [HM.out]; omega
      obtain ⟨g, off, rfl, hg1, _, hc1⟩ := (HA.out.gr (HG.out.trans HGR.out)).open_ (j := j) (by simpa using hja)
      obtain ⟨g2, off2, rfl, hg2, _, hc2⟩ := (HB.out.gr (HG.out.trans HGR.out)).open_ (j := j) (by simpa using hjb)
      have h1 := hc1 j _ (iV_get a j hja)
      have h2 := hc2 j _ (iV_get b j hjb)
      obtain ⟨x, hx⟩ : ∃ x, a[j] = x := ⟨_, rfl⟩
      obtain ⟨y, hy⟩ : ∃ y, b[j] = y := ⟨_, rfl⟩
      rw [hx] at h1
      rw [hy] at h2
      have HX := Lib.hid hx
      have HY := Lib.hid hy
      have hjm : j < m := by omega
      have HT := Lib.hid hT
      clear hc1 hc2 hx hy hT hI
      by_cases hxy : x = y
      · subst hxy
        have HT2 : Hid (a.take (j + 1) = b.take (j + 1)) := take_eq_succ hja hjb HT.out (by rw [HX.out, HY.out])
        have hb0 : (x == x) = true := by simp
        go_wp2_with fail
        go_quiet (fail)
        go_wp2_with fail
        go_roundw
        case rel => exact ⟨j + 1, true, by simp, by go_num, by omega, HGR.out.drewN _, fun _ => ⟨hnm, HT2.out⟩, fun h => by cases h⟩
        case measure => simp [intOf]; omega
      · have hb0 : (x == y) = false := by simpa using hxy
        have HT2 : Hid (P = false) := by
          show P = false
          rw [← HPP.out]
          have : (a == b.take n) = false := by
            refine beq_eq_false_iff_ne.2 fun e => hxy ?_
            rw [← HX.out, ← HY.out]
            have h3 : (b.take n)[j]? = b[j]? := by rw [List.getElem?_take]; simp [hlt]
            have h4 : a[j]? = b[j]? := by rw [← h3, ← e]
            rw [List.getElem?_eq_getElem hja, List.getElem?_eq_getElem hjb] at h4
            injection h4
          rw [this]
          simp
        go_wp2_with fail
        go_quiet (fail)
        go_wp2_with fail
        go_roundw
        case rel => exact ⟨j + 1, false, by simp, by go_num, by omega, HGR.out.drewN _, fun h => (by cases h), fun _ => HT2.out⟩
        case measure => simp [intOf]; omega
    · have hqP : P = q := by
        cases q with
        | false => exact hI.out.2 rfl
        | true =>
          obtain ⟨hnm, hT⟩ := hI.out.1 rfl
          have hjn2 : j = n := by
            rcases Nat.lt_or_ge j n with h | h
            · exact absurd ⟨rfl, h⟩ hgo
            · omega
          rw [← HPP.out]
          subst hjn2
          have h1 : decide (j ≤ m) = true := by simpa using hnm
          have h2 : (a == b.take j) = true := by
            refine beq_iff_eq.2 ?_
            rw [← hT, List.take_of_length_le (by rw [HN.out]; exact Nat.le_refl _)]
          rw [h1, h2]
          rfl
      subst hqP
      have hGz := HG.out.trans HGR.out
      have HSC : Hid (∀ w', Gr wr w' → (w'.cell? ⟨k1, 0, none⟩ = some (.slice A n ca) ∧ w'.cell? ⟨k1, 1, none⟩ = some (iV en) ∧ w'.cell? ⟨k1, 2, none⟩ = some (iV fa) ∧ w'.cell? ⟨k1, 3, none⟩ = some (iV st) ∧ w'.cell? ⟨k1, 4, none⟩ = some (iV mk)) ∧ w'.cell? ⟨k2, 0, none⟩ = some (.slice B m cb) ∧ w'.cell? ⟨k2, 1, none⟩ = some (iV en') ∧ w'.cell? ⟨k2, 2, none⟩ = some (iV fa') ∧ w'.cell? ⟨k2, 3, none⟩ = some (iV st') ∧ w'.cell? ⟨k2, 4, none⟩ = some (iV mk')) := fun w' hg => by
        have h1 := (HGR.out.trans hg).blk HB1.out
        have h2 := (HGR.out.trans hg).blk HB2.out
        exact ⟨⟨cellAt h1 rfl, cellAt h1 rfl, cellAt h1 rfl, cellAt h1 rfl, cellAt h1 rfl⟩, cellAt h2 rfl, cellAt h2 rfl, cellAt h2 rfl, cellAt h2 rfl, cellAt h2 rfl⟩
      cases P
      case' true =>
        have hjn2 : ¬ ((j : Int) < n) := by
          intro h
          exact hgo ⟨rfl, by omega⟩
      all_goals
        go_wp2_with fail
        cases hsab : (a == b) with
        | false =>
          have hee : True := trivial
          have hff : True := trivial
          have HSM3 := Lib.hid (show ∀ w', Gr w w' → Calls Tryz.prog 8 #[.agg #[.slice A n ca, iV en, iV fa, iV st, iV mk], .agg #[.slice B m cb, iV en', iV fa', iV st', iV mk']] w' (fun e w'' => e = .returned (.bool false) ∧ Gr w' w'') from fun w' hg => by have := HSM2.out w' hg; simpa [hsab, hee, hff] using this)
          have HSA3 := Lib.hid (show ∀ w', Gr w w' → Calls Tryz.prog 9 #[.slice A n ca, .slice B m cb] w' (fun e w'' => e = .returned (.bool false) ∧ Gr w' w'') from fun w' hg => by have := HSA2.out w' hg; simpa [hsab] using this)
          refine wp_region_held_drew (S := fun w' => (w'.cell? ⟨k1, 0, none⟩ = some (.slice A n ca) ∧ w'.cell? ⟨k1, 1, none⟩ = some (iV en) ∧ w'.cell? ⟨k1, 2, none⟩ = some (iV fa) ∧ w'.cell? ⟨k1, 3, none⟩ = some (iV st) ∧ w'.cell? ⟨k1, 4, none⟩ = some (iV mk)) ∧ w'.cell? ⟨k2, 0, none⟩ = some (.slice B m cb) ∧ w'.cell? ⟨k2, 1, none⟩ = some (iV en') ∧ w'.cell? ⟨k2, 2, none⟩ = some (iV fa') ∧ w'.cell? ⟨k2, 3, none⟩ = some (iV st') ∧ w'.cell? ⟨k2, 4, none⟩ = some (iV mk')) rfl (HSC.out _ (Gr.refl wr).drew) (fun hS => ?_)
          have hgd : Gr wr wr.drew := (Gr.refl wr).drew
          generalize wr.drew = wd at hgd hS ⊢
          refine wpAnyH_take (i := 0) (v := ?_) rfl (by kernel_rfl) (by kernel_rfl) (by kernel_rfl) (fun _ _ _ h => h) (Or.inl ⟨by rfl, ?_⟩) hS ?_
          rotate_left
          · intro w' hSw; (try dsimp only at hSw); go_simp; try with_reducible rfl
          (try simp only [sL, Act.put])
          refine wpAnyH_take (i := 1) (v := ?_) rfl (by kernel_rfl) (by kernel_rfl) (by kernel_rfl) (fun _ _ _ h => h) (Or.inl ⟨by rfl, ?_⟩) hS ?_
          rotate_left
          · intro w' hSw; (try dsimp only at hSw); go_simp; try with_reducible rfl
          (try simp only [sL, Act.put])
          refine wpAnyH_take (i := 2) (v := ?_) rfl (by kernel_rfl) (by kernel_rfl) (by kernel_rfl) (fun _ _ _ h => h) (Or.inl ⟨by rfl, ?_⟩) hS ?_
          rotate_left
          · intro w' hSw; (try dsimp only at hSw); go_simp; try with_reducible rfl
          (try simp only [sL, Act.put])
          refine wpAnyH_take (i := 3) (v := ?_) rfl (by kernel_rfl) (by kernel_rfl) (by kernel_rfl) (fun _ _ _ h => h) (Or.inl ⟨by rfl, ?_⟩) hS ?_
          rotate_left
          · intro w' hSw; (try dsimp only at hSw); go_simp; try with_reducible rfl
          (try simp only [sL, Act.put])
          refine wpAnyH_take (i := 5) (v := ?_) rfl (by kernel_rfl) (by kernel_rfl) (by kernel_rfl) (fun _ _ _ h => h) (Or.inl ⟨by rfl, ?_⟩) hS ?_
          rotate_left
          · intro w' hSw; (try dsimp only at hSw); go_simp; try with_reducible rfl
          (try simp only [sL, Act.put])
          refine wpAnyH_ready (rs := [4]) (by kernel_rfl) (by simp) ?_
          refine AllReadyH.cons rfl (fun K' hK => ?_) AllReadyH.nil
          simp only [sL]
          go_simp
          refine (HIP2.out _ (hGz.trans hgd)).mono ?_
          rintro e w4 ⟨rfl, hg4⟩
          have hg4' := hgd.trans hg4
          refine hK.out _ _ (HSC.out _ hg4') (fun hS => ?_)
          (try simp only [sL, Act.put])
          refine wpAnyH_take (i := 6) (v := ?_) rfl (by kernel_rfl) (by kernel_rfl) (by kernel_rfl) (fun _ _ _ h => h) (Or.inl ⟨by rfl, ?_⟩) hS ?_
          rotate_left
          · intro w' hSw; (try dsimp only at hSw); go_simp; try with_reducible rfl
          (try simp only [sL, Act.put])
          refine wpAnyH_take (i := 7) (v := ?_) rfl (by kernel_rfl) (by kernel_rfl) (by kernel_rfl) (fun _ _ _ h => h) (Or.inl ⟨by rfl, ?_⟩) hS ?_
          rotate_left
          · intro w' hSw; (try dsimp only at hSw); go_simp; try with_reducible rfl
          (try simp only [sL, Act.put])
          refine wpAnyH_take (i := 8) (v := ?_) rfl (by kernel_rfl) (by kernel_rfl) (by kernel_rfl) (fun _ _ _ h => h) (Or.inl ⟨by rfl, ?_⟩) hS ?_
          rotate_left
          · intro w' hSw; (try dsimp only at hSw); go_simp; try with_reducible rfl
          (try simp only [sL, Act.put])
          refine wpAnyH_take (i := 9) (v := ?_) rfl (by kernel_rfl) (by kernel_rfl) (by kernel_rfl) (fun _ _ _ h => h) (Or.inl ⟨by rfl, ?_⟩) hS ?_
          rotate_left
          · intro w' hSw; (try dsimp only at hSw); go_simp; try with_reducible rfl
          (try simp only [sL, Act.put])
          refine wpAnyH_take (i := 11) (v := ?_) rfl (by kernel_rfl) (by kernel_rfl) (by kernel_rfl) (fun _ _ _ h => h) (Or.inl ⟨by rfl, ?_⟩) hS ?_
          rotate_left
          · intro w' hSw; (try dsimp only at hSw); go_simp; try with_reducible rfl
          (try simp only [sL, Act.put])
          refine wpAnyH_take (i := 12) (v := ?_) rfl (by kernel_rfl) (by kernel_rfl) (by kernel_rfl) (fun _ _ _ h => h) (Or.inl ⟨by rfl, ?_⟩) hS ?_
          rotate_left
          · intro w' hSw; (try dsimp only at hSw); go_simp; try with_reducible rfl
          (try simp only [sL, Act.put])
          refine wpAnyH_take (i := 13) (v := ?_) rfl (by kernel_rfl) (by kernel_rfl) (by kernel_rfl) (fun _ _ _ h => h) (Or.inl ⟨by rfl, ?_⟩) hS ?_
          rotate_left
          · intro w' hSw; (try dsimp only at hSw); go_simp; try with_reducible rfl
          (try simp only [sL, Act.put])
          refine wpAnyH_take (i := 14) (v := ?_) rfl (by kernel_rfl) (by kernel_rfl) (by kernel_rfl) (fun _ _ _ h => h) (Or.inl ⟨by rfl, ?_⟩) hS ?_
          rotate_left
          · intro w' hSw; (try dsimp only at hSw); go_simp; try with_reducible rfl
          (try simp only [sL, Act.put])
          refine wpAnyH_ready (rs := [10]) (by kernel_rfl) (by simp) ?_
          refine AllReadyH.cons rfl (fun K' hK => ?_) AllReadyH.nil
          simp only [sL]
          go_simp
          refine (HSM3.out _ (hGz.trans hg4')).mono ?_
          rintro e w5 ⟨rfl, hg5⟩
          have hg5' := hg4'.trans hg5
          refine hK.out _ _ (HSC.out _ hg5') (fun hS => ?_)
          (try simp only [sL, Act.put])
          refine wpAnyH_ready (rs := [15]) (by kernel_rfl) (by simp) ?_
          refine AllReadyH.cons rfl (fun K' hK => ?_) AllReadyH.nil
          simp only [sL]
          go_simp
          refine (HSA3.out _ (hGz.trans hg5')).mono ?_
          rintro e w6 ⟨rfl, hg6⟩
          have hg6' := hg5'.trans hg6
          refine hK.out _ _ (HSC.out _ hg6') (fun hS => ?_)
          (try simp only [sL, Act.put])
          refine wpAnyH_take (i := 16) (v := ?_) rfl (by kernel_rfl) (by kernel_rfl) (by kernel_rfl) (fun _ _ _ h => h) (Or.inl ⟨by rfl, ?_⟩) hS ?_
          rotate_left
          · intro w' hSw; (try dsimp only at hSw); go_simp; try with_reducible rfl
          (try simp only [sL, Act.put])
          refine wpAnyH_take (i := 17) (v := undef) rfl (by kernel_rfl) (by kernel_rfl) (by kernel_rfl) (fun _ _ _ h => h) (Or.inr ⟨by rfl, rfl⟩) hS ?_
          (try simp only [sL, Act.put])
          refine wpAnyH_take (i := 18) (v := undef) rfl (by kernel_rfl) (by kernel_rfl) (by kernel_rfl) (fun _ _ _ h => h) (Or.inr ⟨by rfl, rfl⟩) hS ?_
          (try simp only [sL, Act.put])
          refine wpAnyH_take (i := 19) (v := undef) rfl (by kernel_rfl) (by kernel_rfl) (by kernel_rfl) (fun _ _ _ h => h) (Or.inr ⟨by rfl, rfl⟩) hS ?_
          (try simp only [sL, Act.put])
          refine wpAnyH_take (i := 20) (v := undef) rfl (by kernel_rfl) (by kernel_rfl) (by kernel_rfl) (fun _ _ _ h => h) (Or.inr ⟨by rfl, rfl⟩) hS ?_
          (try simp only [sL, Act.put])
          refine wpAnyH_take (i := 21) (v := undef) rfl (by kernel_rfl) (by kernel_rfl) (by kernel_rfl) (fun _ _ _ h => h) (Or.inr ⟨by rfl, rfl⟩) hS ?_
          (try simp only [sL, Act.put])
          refine wpAnyH_take (i := 22) (v := (.bool false)) rfl (by kernel_rfl) (by kernel_rfl) (by kernel_rfl) (fun _ _ _ h => h) (Or.inl ⟨by rfl, fun w' hSw => by rfl⟩) hS ?_
          (try simp only [sL, Act.put])
          refine wpAnyH_take (i := 23) (v := ?_) rfl (by kernel_rfl) (by kernel_rfl) (by kernel_rfl) (fun _ _ _ h => h) (Or.inl ⟨by rfl, ?_⟩) hS ?_
          rotate_left
          · intro w' hSw; (try dsimp only at hSw); go_simp; try with_reducible rfl
          (try simp only [sL, Act.put])
          refine wpAnyH_take (i := 24) (v := undef) rfl (by kernel_rfl) (by kernel_rfl) (by kernel_rfl) (fun _ _ _ h => h) (Or.inr ⟨by rfl, rfl⟩) hS ?_
          (try simp only [sL, Act.put])
          refine wpAnyH_take (i := 25) (v := undef) rfl (by kernel_rfl) (by kernel_rfl) (by kernel_rfl) (fun _ _ _ h => h) (Or.inr ⟨by rfl, rfl⟩) hS ?_
          (try simp only [sL, Act.put])
          refine wpAnyH_take (i := 26) (v := undef) rfl (by kernel_rfl) (by kernel_rfl) (by kernel_rfl) (fun _ _ _ h => h) (Or.inr ⟨by rfl, rfl⟩) hS ?_
          (try simp only [sL, Act.put])
          refine wpAnyH_take (i := 27) (v := undef) rfl (by kernel_rfl) (by kernel_rfl) (by kernel_rfl) (fun _ _ _ h => h) (Or.inr ⟨by rfl, rfl⟩) hS ?_
          (try simp only [sL, Act.put])
          refine wpAnyH_take (i := 28) (v := undef) rfl (by kernel_rfl) (by kernel_rfl) (by kernel_rfl) (fun _ _ _ h => h) (Or.inr ⟨by rfl, rfl⟩) hS ?_
          (try simp only [sL, Act.put])
          refine wpAnyH_take (i := 29) (v := (.bool false)) rfl (by kernel_rfl) (by kernel_rfl) (by kernel_rfl) (fun _ _ _ h => h) (Or.inl ⟨by rfl, fun w' hSw => by rfl⟩) hS ?_
          (try simp only [sL, Act.put])
          refine wpAnyH_take (i := 30) (v := ?_) rfl (by kernel_rfl) (by kernel_rfl) (by kernel_rfl) (fun _ _ _ h => h) (Or.inl ⟨by rfl, ?_⟩) hS ?_
          rotate_left
          · intro w' hSw; (try dsimp only at hSw); go_simp; try with_reducible rfl
          (try simp only [sL, Act.put])
          refine wpAnyH_take (i := 31) (v := (.bool true)) rfl (by kernel_rfl) (by kernel_rfl) (by kernel_rfl) (fun _ _ _ h => h) (Or.inl ⟨by rfl, fun w' hSw => by rfl⟩) hS ?_
          (try simp only [sL, Act.put])
          refine wpAnyH_take (i := 32) (v := ?_) rfl (by kernel_rfl) (by kernel_rfl) (by kernel_rfl) (fun _ _ _ h => h) (Or.inl ⟨by rfl, ?_⟩) hS ?_
          rotate_left
          · intro w' hSw; (try dsimp only at hSw); go_simp; try with_reducible rfl
          (try simp only [sL, Act.put])
          refine wpAnyH_done (by kernel_rfl) ?_ _
          go_wp2_with fail
          go_ret
          exact ⟨rfl, hGz.trans hg6'⟩
        | true =>
          cases hee : (en == en') with
          | false =>
            have hff : True := trivial
            have HSM3 := Lib.hid (show ∀ w', Gr w w' → Calls Tryz.prog 8 #[.agg #[.slice A n ca, iV en, iV fa, iV st, iV mk], .agg #[.slice B m cb, iV en', iV fa', iV st', iV mk']] w' (fun e w'' => e = .returned (.bool false) ∧ Gr w' w'') from fun w' hg => by have := HSM2.out w' hg; simpa [hsab, hee, hff] using this)
            have HSA3 := Lib.hid (show ∀ w', Gr w w' → Calls Tryz.prog 9 #[.slice A n ca, .slice B m cb] w' (fun e w'' => e = .returned (.bool true) ∧ Gr w' w'') from fun w' hg => by have := HSA2.out w' hg; simpa [hsab] using this)
            refine wp_region_held_drew (S := fun w' => (w'.cell? ⟨k1, 0, none⟩ = some (.slice A n ca) ∧ w'.cell? ⟨k1, 1, none⟩ = some (iV en) ∧ w'.cell? ⟨k1, 2, none⟩ = some (iV fa) ∧ w'.cell? ⟨k1, 3, none⟩ = some (iV st) ∧ w'.cell? ⟨k1, 4, none⟩ = some (iV mk)) ∧ w'.cell? ⟨k2, 0, none⟩ = some (.slice B m cb) ∧ w'.cell? ⟨k2, 1, none⟩ = some (iV en') ∧ w'.cell? ⟨k2, 2, none⟩ = some (iV fa') ∧ w'.cell? ⟨k2, 3, none⟩ = some (iV st') ∧ w'.cell? ⟨k2, 4, none⟩ = some (iV mk')) rfl (HSC.out _ (Gr.refl wr).drew) (fun hS => ?_)
            have hgd : Gr wr wr.drew := (Gr.refl wr).drew
            generalize wr.drew = wd at hgd hS ⊢
            refine wpAnyH_take (i := 0) (v := ?_) rfl (by kernel_rfl) (by kernel_rfl) (by kernel_rfl) (fun _ _ _ h => h) (Or.inl ⟨by rfl, ?_⟩) hS ?_
            rotate_left
            · intro w' hSw; (try dsimp only at hSw); go_simp; try with_reducible rfl
            (try simp only [sL, Act.put])
            refine wpAnyH_take (i := 1) (v := ?_) rfl (by kernel_rfl) (by kernel_rfl) (by kernel_rfl) (fun _ _ _ h => h) (Or.inl ⟨by rfl, ?_⟩) hS ?_
            rotate_left
            · intro w' hSw; (try dsimp only at hSw); go_simp; try with_reducible rfl
            (try simp only [sL, Act.put])
            refine wpAnyH_take (i := 2) (v := ?_) rfl (by kernel_rfl) (by kernel_rfl) (by kernel_rfl) (fun _ _ _ h => h) (Or.inl ⟨by rfl, ?_⟩) hS ?_
            rotate_left
            · intro w' hSw; (try dsimp only at hSw); go_simp; try with_reducible rfl
            (try simp only [sL, Act.put])
            refine wpAnyH_take (i := 3) (v := ?_) rfl (by kernel_rfl) (by kernel_rfl) (by kernel_rfl) (fun _ _ _ h => h) (Or.inl ⟨by rfl, ?_⟩) hS ?_
            rotate_left
            · intro w' hSw; (try dsimp only at hSw); go_simp; try with_reducible rfl
            (try simp only [sL, Act.put])
            refine wpAnyH_take (i := 5) (v := ?_) rfl (by kernel_rfl) (by kernel_rfl) (by kernel_rfl) (fun _ _ _ h => h) (Or.inl ⟨by rfl, ?_⟩) hS ?_
            rotate_left
            · intro w' hSw; (try dsimp only at hSw); go_simp; try with_reducible rfl
            (try simp only [sL, Act.put])
            refine wpAnyH_ready (rs := [4]) (by kernel_rfl) (by simp) ?_
            refine AllReadyH.cons rfl (fun K' hK => ?_) AllReadyH.nil
            simp only [sL]
            go_simp
            refine (HIP2.out _ (hGz.trans hgd)).mono ?_
            rintro e w4 ⟨rfl, hg4⟩
            have hg4' := hgd.trans hg4
            refine hK.out _ _ (HSC.out _ hg4') (fun hS => ?_)
            (try simp only [sL, Act.put])
            refine wpAnyH_take (i := 6) (v := ?_) rfl (by kernel_rfl) (by kernel_rfl) (by kernel_rfl) (fun _ _ _ h => h) (Or.inl ⟨by rfl, ?_⟩) hS ?_
            rotate_left
            · intro w' hSw; (try dsimp only at hSw); go_simp; try with_reducible rfl
            (try simp only [sL, Act.put])
            refine wpAnyH_take (i := 7) (v := ?_) rfl (by kernel_rfl) (by kernel_rfl) (by kernel_rfl) (fun _ _ _ h => h) (Or.inl ⟨by rfl, ?_⟩) hS ?_
            rotate_left
            · intro w' hSw; (try dsimp only at hSw); go_simp; try with_reducible rfl
            (try simp only [sL, Act.put])
            refine wpAnyH_take (i := 8) (v := ?_) rfl (by kernel_rfl) (by kernel_rfl) (by kernel_rfl) (fun _ _ _ h => h) (Or.inl ⟨by rfl, ?_⟩) hS ?_
            rotate_left
            · intro w' hSw; (try dsimp only at hSw); go_simp; try with_reducible rfl
            (try simp only [sL, Act.put])
            refine wpAnyH_take (i := 9) (v := ?_) rfl (by kernel_rfl) (by kernel_rfl) (by kernel_rfl) (fun _ _ _ h => h) (Or.inl ⟨by rfl, ?_⟩) hS ?_
            rotate_left
            · intro w' hSw; (try dsimp only at hSw); go_simp; try with_reducible rfl
            (try simp only [sL, Act.put])
            refine wpAnyH_take (i := 11) (v := ?_) rfl (by kernel_rfl) (by kernel_rfl) (by kernel_rfl) (fun _ _ _ h => h) (Or.inl ⟨by rfl, ?_⟩) hS ?_
            rotate_left
            · intro w' hSw; (try dsimp only at hSw); go_simp; try with_reducible rfl
            (try simp only [sL, Act.put])
            refine wpAnyH_take (i := 12) (v := ?_) rfl (by kernel_rfl) (by kernel_rfl) (by kernel_rfl) (fun _ _ _ h => h) (Or.inl ⟨by rfl, ?_⟩) hS ?_
            rotate_left
            · intro w' hSw; (try dsimp only at hSw); go_simp; try with_reducible rfl
            (try simp only [sL, Act.put])
            refine wpAnyH_take (i := 13) (v := ?_) rfl (by kernel_rfl) (by kernel_rfl) (by kernel_rfl) (fun _ _ _ h => h) (Or.inl ⟨by rfl, ?_⟩) hS ?_
            rotate_left
            · intro w' hSw; (try dsimp only at hSw); go_simp; try with_reducible rfl
            (try simp only [sL, Act.put])
            refine wpAnyH_take (i := 14) (v := ?_) rfl (by kernel_rfl) (by kernel_rfl) (by kernel_rfl) (fun _ _ _ h => h) (Or.inl ⟨by rfl, ?_⟩) hS ?_
            rotate_left
            · intro w' hSw; (try dsimp only at hSw); go_simp; try with_reducible rfl
            (try simp only [sL, Act.put])
            refine wpAnyH_ready (rs := [10]) (by kernel_rfl) (by simp) ?_
            refine AllReadyH.cons rfl (fun K' hK => ?_) AllReadyH.nil
            simp only [sL]
            go_simp
            refine (HSM3.out _ (hGz.trans hg4')).mono ?_
            rintro e w5 ⟨rfl, hg5⟩
            have hg5' := hg4'.trans hg5
            refine hK.out _ _ (HSC.out _ hg5') (fun hS => ?_)
            (try simp only [sL, Act.put])
            refine wpAnyH_ready (rs := [15]) (by kernel_rfl) (by simp) ?_
            refine AllReadyH.cons rfl (fun K' hK => ?_) AllReadyH.nil
            simp only [sL]
            go_simp
            refine (HSA3.out _ (hGz.trans hg5')).mono ?_
            rintro e w6 ⟨rfl, hg6⟩
            have hg6' := hg5'.trans hg6
            refine hK.out _ _ (HSC.out _ hg6') (fun hS => ?_)
            (try simp only [sL, Act.put])
            refine wpAnyH_take (i := 16) (v := ?_) rfl (by kernel_rfl) (by kernel_rfl) (by kernel_rfl) (fun _ _ _ h => h) (Or.inl ⟨by rfl, ?_⟩) hS ?_
            rotate_left
            · intro w' hSw; (try dsimp only at hSw); go_simp; try with_reducible rfl
            (try simp only [sL, Act.put])
            refine wpAnyH_take (i := 17) (v := ?_) rfl (by kernel_rfl) (by kernel_rfl) (by kernel_rfl) (fun _ _ _ h => h) (Or.inl ⟨by rfl, ?_⟩) hS ?_
            rotate_left
            · intro w' hSw; (try dsimp only at hSw); go_simp; try with_reducible rfl
            (try simp only [sL, Act.put])
            refine wpAnyH_take (i := 18) (v := ?_) rfl (by kernel_rfl) (by kernel_rfl) (by kernel_rfl) (fun _ _ _ h => h) (Or.inl ⟨by rfl, ?_⟩) hS ?_
            rotate_left
            · intro w' hSw; (try dsimp only at hSw); go_simp; try with_reducible rfl
            (try simp only [sL, Act.put])
            refine wpAnyH_take (i := 19) (v := ?_) rfl (by kernel_rfl) (by kernel_rfl) (by kernel_rfl) (fun _ _ _ h => h) (Or.inl ⟨by rfl, ?_⟩) hS ?_
            rotate_left
            · intro w' hSw; (try dsimp only at hSw); go_simp; try with_reducible rfl
            (try simp only [sL, Act.put])
            refine wpAnyH_take (i := 20) (v := ?_) rfl (by kernel_rfl) (by kernel_rfl) (by kernel_rfl) (fun _ _ _ h => h) (Or.inl ⟨by rfl, ?_⟩) hS ?_
            rotate_left
            · intro w' hSw; (try dsimp only at hSw); go_simp; try with_reducible rfl
            (try simp only [sL, Act.put])
            refine wpAnyH_take (i := 21) (v := ?_) rfl (by kernel_rfl) (by kernel_rfl) (by kernel_rfl) (fun _ _ _ h => h) (Or.inl ⟨by rfl, ?_⟩) hS ?_
            rotate_left
            · intro w' hSw; (try dsimp only at hSw); go_simp; try with_reducible rfl
            (try simp only [sL, Act.put])
            refine wpAnyH_take (i := 22) (v := (.bool false)) rfl (by kernel_rfl) (by kernel_rfl) (by kernel_rfl) (fun _ _ _ h => h) (Or.inl ⟨by rfl, fun w' hSw => by rfl⟩) hS ?_
            (try simp only [sL, Act.put])
            refine wpAnyH_take (i := 23) (v := ?_) rfl (by kernel_rfl) (by kernel_rfl) (by kernel_rfl) (fun _ _ _ h => h) (Or.inl ⟨by rfl, ?_⟩) hS ?_
            rotate_left
            · intro w' hSw; (try dsimp only at hSw); go_simp; try with_reducible rfl
            (try simp only [sL, Act.put])
            refine wpAnyH_take (i := 24) (v := undef) rfl (by kernel_rfl) (by kernel_rfl) (by kernel_rfl) (fun _ _ _ h => h) (Or.inr ⟨by rfl, rfl⟩) hS ?_
            (try simp only [sL, Act.put])
            refine wpAnyH_take (i := 25) (v := undef) rfl (by kernel_rfl) (by kernel_rfl) (by kernel_rfl) (fun _ _ _ h => h) (Or.inr ⟨by rfl, rfl⟩) hS ?_
            (try simp only [sL, Act.put])
            refine wpAnyH_take (i := 26) (v := undef) rfl (by kernel_rfl) (by kernel_rfl) (by kernel_rfl) (fun _ _ _ h => h) (Or.inr ⟨by rfl, rfl⟩) hS ?_
            (try simp only [sL, Act.put])
            refine wpAnyH_take (i := 27) (v := undef) rfl (by kernel_rfl) (by kernel_rfl) (by kernel_rfl) (fun _ _ _ h => h) (Or.inr ⟨by rfl, rfl⟩) hS ?_
            (try simp only [sL, Act.put])
            refine wpAnyH_take (i := 28) (v := undef) rfl (by kernel_rfl) (by kernel_rfl) (by kernel_rfl) (fun _ _ _ h => h) (Or.inr ⟨by rfl, rfl⟩) hS ?_
            (try simp only [sL, Act.put])
            refine wpAnyH_take (i := 29) (v := (.bool false)) rfl (by kernel_rfl) (by kernel_rfl) (by kernel_rfl) (fun _ _ _ h => h) (Or.inl ⟨by rfl, fun w' hSw => by rfl⟩) hS ?_
            (try simp only [sL, Act.put])
            refine wpAnyH_take (i := 30) (v := ?_) rfl (by kernel_rfl) (by kernel_rfl) (by kernel_rfl) (fun _ _ _ h => h) (Or.inl ⟨by rfl, ?_⟩) hS ?_
            rotate_left
            · intro w' hSw; (try dsimp only at hSw); go_simp; try with_reducible rfl
            (try simp only [sL, Act.put])
            refine wpAnyH_take (i := 31) (v := (.bool true)) rfl (by kernel_rfl) (by kernel_rfl) (by kernel_rfl) (fun _ _ _ h => h) (Or.inl ⟨by rfl, fun w' hSw => by rfl⟩) hS ?_
            (try simp only [sL, Act.put])
            refine wpAnyH_take (i := 32) (v := ?_) rfl (by kernel_rfl) (by kernel_rfl) (by kernel_rfl) (fun _ _ _ h => h) (Or.inl ⟨by rfl, ?_⟩) hS ?_
            rotate_left
            · intro w' hSw; (try dsimp only at hSw); go_simp; try with_reducible rfl
            (try simp only [sL, Act.put])
            refine wpAnyH_done (by kernel_rfl) ?_ _
            go_wp2_with fail
            go_ret
            exact ⟨rfl, hGz.trans hg6'⟩
          | true =>
            cases hff : (fa == fa') with
            | false =>
              have HSM3 := Lib.hid (show ∀ w', Gr w w' → Calls Tryz.prog 8 #[.agg #[.slice A n ca, iV en, iV fa, iV st, iV mk], .agg #[.slice B m cb, iV en', iV fa', iV st', iV mk']] w' (fun e w'' => e = .returned (.bool false) ∧ Gr w' w'') from fun w' hg => by have := HSM2.out w' hg; simpa [hsab, hee, hff] using this)
              have HSA3 := Lib.hid (show ∀ w', Gr w w' → Calls Tryz.prog 9 #[.slice A n ca, .slice B m cb] w' (fun e w'' => e = .returned (.bool true) ∧ Gr w' w'') from fun w' hg => by have := HSA2.out w' hg; simpa [hsab] using this)
              refine wp_region_held_drew (S := fun w' => (w'.cell? ⟨k1, 0, none⟩ = some (.slice A n ca) ∧ w'.cell? ⟨k1, 1, none⟩ = some (iV en) ∧ w'.cell? ⟨k1, 2, none⟩ = some (iV fa) ∧ w'.cell? ⟨k1, 3, none⟩ = some (iV st) ∧ w'.cell? ⟨k1, 4, none⟩ = some (iV mk)) ∧ w'.cell? ⟨k2, 0, none⟩ = some (.slice B m cb) ∧ w'.cell? ⟨k2, 1, none⟩ = some (iV en') ∧ w'.cell? ⟨k2, 2, none⟩ = some (iV fa') ∧ w'.cell? ⟨k2, 3, none⟩ = some (iV st') ∧ w'.cell? ⟨k2, 4, none⟩ = some (iV mk')) rfl (HSC.out _ (Gr.refl wr).drew) (fun hS => ?_)
              have hgd : Gr wr wr.drew := (Gr.refl wr).drew
              generalize wr.drew = wd at hgd hS ⊢
              refine wpAnyH_take (i := 0) (v := ?_) rfl (by kernel_rfl) (by kernel_rfl) (by kernel_rfl) (fun _ _ _ h => h) (Or.inl ⟨by rfl, ?_⟩) hS ?_
              rotate_left
              · intro w' hSw; (try dsimp only at hSw); go_simp; try with_reducible rfl
              (try simp only [sL, Act.put])
              refine wpAnyH_take (i := 1) (v := ?_) rfl (by kernel_rfl) (by kernel_rfl) (by kernel_rfl) (fun _ _ _ h => h) (Or.inl ⟨by rfl, ?_⟩) hS ?_
              rotate_left
              · intro w' hSw; (try dsimp only at hSw); go_simp; try with_reducible rfl
              (try simp only [sL, Act.put])
              refine wpAnyH_take (i := 2) (v := ?_) rfl (by kernel_rfl) (by kernel_rfl) (by kernel_rfl) (fun _ _ _ h => h) (Or.inl ⟨by rfl, ?_⟩) hS ?_
              rotate_left
              · intro w' hSw; (try dsimp only at hSw); go_simp; try with_reducible rfl
              (try simp only [sL, Act.put])
              refine wpAnyH_take (i := 3) (v := ?_) rfl (by kernel_rfl) (by kernel_rfl) (by kernel_rfl) (fun _ _ _ h => h) (Or.inl ⟨by rfl, ?_⟩) hS ?_
              rotate_left
              · intro w' hSw; (try dsimp only at hSw); go_simp; try with_reducible rfl
              (try simp only [sL, Act.put])
              refine wpAnyH_take (i := 5) (v := ?_) rfl (by kernel_rfl) (by kernel_rfl) (by kernel_rfl) (fun _ _ _ h => h) (Or.inl ⟨by rfl, ?_⟩) hS ?_
              rotate_left
              · intro w' hSw; (try dsimp only at hSw); go_simp; try with_reducible rfl
              (try simp only [sL, Act.put])
              refine wpAnyH_ready (rs := [4]) (by kernel_rfl) (by simp) ?_
              refine AllReadyH.cons rfl (fun K' hK => ?_) AllReadyH.nil
              simp only [sL]
              go_simp
              refine (HIP2.out _ (hGz.trans hgd)).mono ?_
              rintro e w4 ⟨rfl, hg4⟩
              have hg4' := hgd.trans hg4
              refine hK.out _ _ (HSC.out _ hg4') (fun hS => ?_)
              (try simp only [sL, Act.put])
              refine wpAnyH_take (i := 6) (v := ?_) rfl (by kernel_rfl) (by kernel_rfl) (by kernel_rfl) (fun _ _ _ h => h) (Or.inl ⟨by rfl, ?_⟩) hS ?_
              rotate_left
              · intro w' hSw; (try dsimp only at hSw); go_simp; try with_reducible rfl
              (try simp only [sL, Act.put])
              refine wpAnyH_take (i := 7) (v := ?_) rfl (by kernel_rfl) (by kernel_rfl) (by kernel_rfl) (fun _ _ _ h => h) (Or.inl ⟨by rfl, ?_⟩) hS ?_
              rotate_left
              · intro w' hSw; (try dsimp only at hSw); go_simp; try with_reducible rfl
              (try simp only [sL, Act.put])
              refine wpAnyH_take (i := 8) (v := ?_) rfl (by kernel_rfl) (by kernel_rfl) (by kernel_rfl) (fun _ _ _ h => h) (Or.inl ⟨by rfl, ?_⟩) hS ?_
              rotate_left
              · intro w' hSw; (try dsimp only at hSw); go_simp; try with_reducible rfl
              (try simp only [sL, Act.put])
              refine wpAnyH_take (i := 9) (v := ?_) rfl (by kernel_rfl) (by kernel_rfl) (by kernel_rfl) (fun _ _ _ h => h) (Or.inl ⟨by rfl, ?_⟩) hS ?_
              rotate_left
              · intro w' hSw; (try dsimp only at hSw); go_simp; try with_reducible rfl
              (try simp only [sL, Act.put])
              refine wpAnyH_take (i := 11) (v := ?_) rfl (by kernel_rfl) (by kernel_rfl) (by kernel_rfl) (fun _ _ _ h => h) (Or.inl ⟨by rfl, ?_⟩) hS ?_
              rotate_left
              · intro w' hSw; (try dsimp only at hSw); go_simp; try with_reducible rfl
              (try simp only [sL, Act.put])
              refine wpAnyH_take (i := 12) (v := ?_) rfl (by kernel_rfl) (by kernel_rfl) (by kernel_rfl) (fun _ _ _ h => h) (Or.inl ⟨by rfl, ?_⟩) hS ?_
              rotate_left
              · intro w' hSw; (try dsimp only at hSw); go_simp; try with_reducible rfl
              (try simp only [sL, Act.put])
              refine wpAnyH_take (i := 13) (v := ?_) rfl (by kernel_rfl) (by kernel_rfl) (by kernel_rfl) (fun _ _ _ h => h) (Or.inl ⟨by rfl, ?_⟩) hS ?_
              rotate_left
              · intro w' hSw; (try dsimp only at hSw); go_simp; try with_reducible rfl
              (try simp only [sL, Act.put])
              refine wpAnyH_take (i := 14) (v := ?_) rfl (by kernel_rfl) (by kernel_rfl) (by kernel_rfl) (fun _ _ _ h => h) (Or.inl ⟨by rfl, ?_⟩) hS ?_
              rotate_left
              · intro w' hSw; (try dsimp only at hSw); go_simp; try with_reducible rfl
              (try simp only [sL, Act.put])
              refine wpAnyH_ready (rs := [10]) (by kernel_rfl) (by simp) ?_
              refine AllReadyH.cons rfl (fun K' hK => ?_) AllReadyH.nil
              simp only [sL]
              go_simp
              refine (HSM3.out _ (hGz.trans hg4')).mono ?_
              rintro e w5 ⟨rfl, hg5⟩
              have hg5' := hg4'.trans hg5
              refine hK.out _ _ (HSC.out _ hg5') (fun hS => ?_)
              (try simp only [sL, Act.put])
              refine wpAnyH_ready (rs := [15]) (by kernel_rfl) (by simp) ?_
              refine AllReadyH.cons rfl (fun K' hK => ?_) AllReadyH.nil
              simp only [sL]
              go_simp
              refine (HSA3.out _ (hGz.trans hg5')).mono ?_
              rintro e w6 ⟨rfl, hg6⟩
              have hg6' := hg5'.trans hg6
              refine hK.out _ _ (HSC.out _ hg6') (fun hS => ?_)
              (try simp only [sL, Act.put])
              refine wpAnyH_take (i := 16) (v := ?_) rfl (by kernel_rfl) (by kernel_rfl) (by kernel_rfl) (fun _ _ _ h => h) (Or.inl ⟨by rfl, ?_⟩) hS ?_
              rotate_left
              · intro w' hSw; (try dsimp only at hSw); go_simp; try with_reducible rfl
              (try simp only [sL, Act.put])
              refine wpAnyH_take (i := 17) (v := ?_) rfl (by kernel_rfl) (by kernel_rfl) (by kernel_rfl) (fun _ _ _ h => h) (Or.inl ⟨by rfl, ?_⟩) hS ?_
              rotate_left
              · intro w' hSw; (try dsimp only at hSw); go_simp; try with_reducible rfl
              (try simp only [sL, Act.put])
              refine wpAnyH_take (i := 18) (v := ?_) rfl (by kernel_rfl) (by kernel_rfl) (by kernel_rfl) (fun _ _ _ h => h) (Or.inl ⟨by rfl, ?_⟩) hS ?_
              rotate_left
              · intro w' hSw; (try dsimp only at hSw); go_simp; try with_reducible rfl
              (try simp only [sL, Act.put])
              refine wpAnyH_take (i := 19) (v := ?_) rfl (by kernel_rfl) (by kernel_rfl) (by kernel_rfl) (fun _ _ _ h => h) (Or.inl ⟨by rfl, ?_⟩) hS ?_
              rotate_left
              · intro w' hSw; (try dsimp only at hSw); go_simp; try with_reducible rfl
              (try simp only [sL, Act.put])
              refine wpAnyH_take (i := 20) (v := ?_) rfl (by kernel_rfl) (by kernel_rfl) (by kernel_rfl) (fun _ _ _ h => h) (Or.inl ⟨by rfl, ?_⟩) hS ?_
              rotate_left
              · intro w' hSw; (try dsimp only at hSw); go_simp; try with_reducible rfl
              (try simp only [sL, Act.put])
              refine wpAnyH_take (i := 21) (v := ?_) rfl (by kernel_rfl) (by kernel_rfl) (by kernel_rfl) (fun _ _ _ h => h) (Or.inl ⟨by rfl, ?_⟩) hS ?_
              rotate_left
              · intro w' hSw; (try dsimp only at hSw); go_simp; try with_reducible rfl
              (try simp only [sL, Act.put])
              refine wpAnyH_take (i := 22) (v := (.bool true)) rfl (by kernel_rfl) (by kernel_rfl) (by kernel_rfl) (fun _ _ _ h => h) (Or.inl ⟨by rfl, fun w' hSw => by rfl⟩) hS ?_
              (try simp only [sL, Act.put])
              refine wpAnyH_take (i := 23) (v := ?_) rfl (by kernel_rfl) (by kernel_rfl) (by kernel_rfl) (fun _ _ _ h => h) (Or.inl ⟨by rfl, ?_⟩) hS ?_
              rotate_left
              · intro w' hSw; (try dsimp only at hSw); go_simp; try with_reducible rfl
              (try simp only [sL, Act.put])
              refine wpAnyH_take (i := 24) (v := ?_) rfl (by kernel_rfl) (by kernel_rfl) (by kernel_rfl) (fun _ _ _ h => h) (Or.inl ⟨by rfl, ?_⟩) hS ?_
              rotate_left
              · intro w' hSw; (try dsimp only at hSw); go_simp; try with_reducible rfl
              (try simp only [sL, Act.put])
              refine wpAnyH_take (i := 25) (v := ?_) rfl (by kernel_rfl) (by kernel_rfl) (by kernel_rfl) (fun _ _ _ h => h) (Or.inl ⟨by rfl, ?_⟩) hS ?_
              rotate_left
              · intro w' hSw; (try dsimp only at hSw); go_simp; try with_reducible rfl
              (try simp only [sL, Act.put])
              refine wpAnyH_take (i := 26) (v := ?_) rfl (by kernel_rfl) (by kernel_rfl) (by kernel_rfl) (fun _ _ _ h => h) (Or.inl ⟨by rfl, ?_⟩) hS ?_
              rotate_left
              · intro w' hSw; (try dsimp only at hSw); go_simp; try with_reducible rfl
              (try simp only [sL, Act.put])
              refine wpAnyH_take (i := 27) (v := ?_) rfl (by kernel_rfl) (by kernel_rfl) (by kernel_rfl) (fun _ _ _ h => h) (Or.inl ⟨by rfl, ?_⟩) hS ?_
              rotate_left
              · intro w' hSw; (try dsimp only at hSw); go_simp; try with_reducible rfl
              (try simp only [sL, Act.put])
              refine wpAnyH_take (i := 28) (v := ?_) rfl (by kernel_rfl) (by kernel_rfl) (by kernel_rfl) (fun _ _ _ h => h) (Or.inl ⟨by rfl, ?_⟩) hS ?_
              rotate_left
              · intro w' hSw; (try dsimp only at hSw); go_simp; try with_reducible rfl
              (try simp only [sL, Act.put])
              refine wpAnyH_take (i := 29) (v := (.bool false)) rfl (by kernel_rfl) (by kernel_rfl) (by kernel_rfl) (fun _ _ _ h => h) (Or.inl ⟨by rfl, fun w' hSw => by rfl⟩) hS ?_
              (try simp only [sL, Act.put])
              refine wpAnyH_take (i := 30) (v := ?_) rfl (by kernel_rfl) (by kernel_rfl) (by kernel_rfl) (fun _ _ _ h => h) (Or.inl ⟨by rfl, ?_⟩) hS ?_
              rotate_left
              · intro w' hSw; (try dsimp only at hSw); go_simp; try with_reducible rfl
              (try simp only [sL, Act.put])
              refine wpAnyH_take (i := 31) (v := (.bool true)) rfl (by kernel_rfl) (by kernel_rfl) (by kernel_rfl) (fun _ _ _ h => h) (Or.inl ⟨by rfl, fun w' hSw => by rfl⟩) hS ?_
              (try simp only [sL, Act.put])
              refine wpAnyH_take (i := 32) (v := ?_) rfl (by kernel_rfl) (by kernel_rfl) (by kernel_rfl) (fun _ _ _ h => h) (Or.inl ⟨by rfl, ?_⟩) hS ?_
              rotate_left
              · intro w' hSw; (try dsimp only at hSw); go_simp; try with_reducible rfl
              (try simp only [sL, Act.put])
              refine wpAnyH_done (by kernel_rfl) ?_ _
              go_wp2_with fail
              go_ret
              exact ⟨rfl, hGz.trans hg6'⟩
            | true =>
              have HSM3 := Lib.hid (show ∀ w', Gr w w' → Calls Tryz.prog 8 #[.agg #[.slice A n ca, iV en, iV fa, iV st, iV mk], .agg #[.slice B m cb, iV en', iV fa', iV st', iV mk']] w' (fun e w'' => e = .returned (.bool true) ∧ Gr w' w'') from fun w' hg => by have := HSM2.out w' hg; simpa [hsab, hee, hff] using this)
              have HSA3 := Lib.hid (show ∀ w', Gr w w' → Calls Tryz.prog 9 #[.slice A n ca, .slice B m cb] w' (fun e w'' => e = .returned (.bool true) ∧ Gr w' w'') from fun w' hg => by have := HSA2.out w' hg; simpa [hsab] using this)
              refine wp_region_held_drew (S := fun w' => (w'.cell? ⟨k1, 0, none⟩ = some (.slice A n ca) ∧ w'.cell? ⟨k1, 1, none⟩ = some (iV en) ∧ w'.cell? ⟨k1, 2, none⟩ = some (iV fa) ∧ w'.cell? ⟨k1, 3, none⟩ = some (iV st) ∧ w'.cell? ⟨k1, 4, none⟩ = some (iV mk)) ∧ w'.cell? ⟨k2, 0, none⟩ = some (.slice B m cb) ∧ w'.cell? ⟨k2, 1, none⟩ = some (iV en') ∧ w'.cell? ⟨k2, 2, none⟩ = some (iV fa') ∧ w'.cell? ⟨k2, 3, none⟩ = some (iV st') ∧ w'.cell? ⟨k2, 4, none⟩ = some (iV mk')) rfl (HSC.out _ (Gr.refl wr).drew) (fun hS => ?_)
              have hgd : Gr wr wr.drew := (Gr.refl wr).drew
              generalize wr.drew = wd at hgd hS ⊢
              refine wpAnyH_take (i := 0) (v := ?_) rfl (by kernel_rfl) (by kernel_rfl) (by kernel_rfl) (fun _ _ _ h => h) (Or.inl ⟨by rfl, ?_⟩) hS ?_
              rotate_left
              · intro w' hSw; (try dsimp only at hSw); go_simp; try with_reducible rfl
              (try simp only [sL, Act.put])
              refine wpAnyH_take (i := 1) (v := ?_) rfl (by kernel_rfl) (by kernel_rfl) (by kernel_rfl) (fun _ _ _ h => h) (Or.inl ⟨by rfl, ?_⟩) hS ?_
              rotate_left
              · intro w' hSw; (try dsimp only at hSw); go_simp; try with_reducible rfl
              (try simp only [sL, Act.put])
              refine wpAnyH_take (i := 2) (v := ?_) rfl (by kernel_rfl) (by kernel_rfl) (by kernel_rfl) (fun _ _ _ h => h) (Or.inl ⟨by rfl, ?_⟩) hS ?_
              rotate_left
              · intro w' hSw; (try dsimp only at hSw); go_simp; try with_reducible rfl
              (try simp only [sL, Act.put])
              refine wpAnyH_take (i := 3) (v := ?_) rfl (by kernel_rfl) (by kernel_rfl) (by kernel_rfl) (fun _ _ _ h => h) (Or.inl ⟨by rfl, ?_⟩) hS ?_
              rotate_left
              · intro w' hSw; (try dsimp only at hSw); go_simp; try with_reducible rfl
              (try simp only [sL, Act.put])
              refine wpAnyH_take (i := 5) (v := ?_) rfl (by kernel_rfl) (by kernel_rfl) (by kernel_rfl) (fun _ _ _ h => h) (Or.inl ⟨by rfl, ?_⟩) hS ?_
              rotate_left
              · intro w' hSw; (try dsimp only at hSw); go_simp; try with_reducible rfl
              (try simp only [sL, Act.put])
              refine wpAnyH_ready (rs := [4]) (by kernel_rfl) (by simp) ?_
              refine AllReadyH.cons rfl (fun K' hK => ?_) AllReadyH.nil
              simp only [sL]
              go_simp
              refine (HIP2.out _ (hGz.trans hgd)).mono ?_
              rintro e w4 ⟨rfl, hg4⟩
              have hg4' := hgd.trans hg4
              refine hK.out _ _ (HSC.out _ hg4') (fun hS => ?_)
              (try simp only [sL, Act.put])
              refine wpAnyH_take (i := 6) (v := ?_) rfl (by kernel_rfl) (by kernel_rfl) (by kernel_rfl) (fun _ _ _ h => h) (Or.inl ⟨by rfl, ?_⟩) hS ?_
              rotate_left
              · intro w' hSw; (try dsimp only at hSw); go_simp; try with_reducible rfl
              (try simp only [sL, Act.put])
              refine wpAnyH_take (i := 7) (v := ?_) rfl (by kernel_rfl) (by kernel_rfl) (by kernel_rfl) (fun _ _ _ h => h) (Or.inl ⟨by rfl, ?_⟩) hS ?_
              rotate_left
              · intro w' hSw; (try dsimp only at hSw); go_simp; try with_reducible rfl
              (try simp only [sL, Act.put])
              refine wpAnyH_take (i := 8) (v := ?_) rfl (by kernel_rfl) (by kernel_rfl) (by kernel_rfl) (fun _ _ _ h => h) (Or.inl ⟨by rfl, ?_⟩) hS ?_
              rotate_left
              · intro w' hSw; (try dsimp only at hSw); go_simp; try with_reducible rfl
              (try simp only [sL, Act.put])
              refine wpAnyH_take (i := 9) (v := ?_) rfl (by kernel_rfl) (by kernel_rfl) (by kernel_rfl) (fun _ _ _ h => h) (Or.inl ⟨by rfl, ?_⟩) hS ?_
              rotate_left
              · intro w' hSw; (try dsimp only at hSw); go_simp; try with_reducible rfl
              (try simp only [sL, Act.put])
              refine wpAnyH_take (i := 11) (v := ?_) rfl (by kernel_rfl) (by kernel_rfl) (by kernel_rfl) (fun _ _ _ h => h) (Or.inl ⟨by rfl, ?_⟩) hS ?_
              rotate_left
              · intro w' hSw; (try dsimp only at hSw); go_simp; try with_reducible rfl
              (try simp only [sL, Act.put])
              refine wpAnyH_take (i := 12) (v := ?_) rfl (by kernel_rfl) (by kernel_rfl) (by kernel_rfl) (fun _ _ _ h => h) (Or.inl ⟨by rfl, ?_⟩) hS ?_
              rotate_left
              · intro w' hSw; (try dsimp only at hSw); go_simp; try with_reducible rfl
              (try simp only [sL, Act.put])
              refine wpAnyH_take (i := 13) (v := ?_) rfl (by kernel_rfl) (by kernel_rfl) (by kernel_rfl) (fun _ _ _ h => h) (Or.inl ⟨by rfl, ?_⟩) hS ?_
              rotate_left
              · intro w' hSw; (try dsimp only at hSw); go_simp; try with_reducible rfl
              (try simp only [sL, Act.put])
              refine wpAnyH_take (i := 14) (v := ?_) rfl (by kernel_rfl) (by kernel_rfl) (by kernel_rfl) (fun _ _ _ h => h) (Or.inl ⟨by rfl, ?_⟩) hS ?_
              rotate_left
              · intro w' hSw; (try dsimp only at hSw); go_simp; try with_reducible rfl
              (try simp only [sL, Act.put])
              refine wpAnyH_ready (rs := [10]) (by kernel_rfl) (by simp) ?_
              refine AllReadyH.cons rfl (fun K' hK => ?_) AllReadyH.nil
              simp only [sL]
              go_simp
              refine (HSM3.out _ (hGz.trans hg4')).mono ?_
              rintro e w5 ⟨rfl, hg5⟩
              have hg5' := hg4'.trans hg5
              refine hK.out _ _ (HSC.out _ hg5') (fun hS => ?_)
              (try simp only [sL, Act.put])
              refine wpAnyH_ready (rs := [15]) (by kernel_rfl) (by simp) ?_
              refine AllReadyH.cons rfl (fun K' hK => ?_) AllReadyH.nil
              simp only [sL]
              go_simp
              refine (HSA3.out _ (hGz.trans hg5')).mono ?_
              rintro e w6 ⟨rfl, hg6⟩
              have hg6' := hg5'.trans hg6
              refine hK.out _ _ (HSC.out _ hg6') (fun hS => ?_)
              (try simp only [sL, Act.put])
              refine wpAnyH_take (i := 16) (v := ?_) rfl (by kernel_rfl) (by kernel_rfl) (by kernel_rfl) (fun _ _ _ h => h) (Or.inl ⟨by rfl, ?_⟩) hS ?_
              rotate_left
              · intro w' hSw; (try dsimp only at hSw); go_simp; try with_reducible rfl
              (try simp only [sL, Act.put])
              refine wpAnyH_take (i := 17) (v := ?_) rfl (by kernel_rfl) (by kernel_rfl) (by kernel_rfl) (fun _ _ _ h => h) (Or.inl ⟨by rfl, ?_⟩) hS ?_
              rotate_left
              · intro w' hSw; (try dsimp only at hSw); go_simp; try with_reducible rfl
              (try simp only [sL, Act.put])
              refine wpAnyH_take (i := 18) (v := ?_) rfl (by kernel_rfl) (by kernel_rfl) (by kernel_rfl) (fun _ _ _ h => h) (Or.inl ⟨by rfl, ?_⟩) hS ?_
              rotate_left
              · intro w' hSw; (try dsimp only at hSw); go_simp; try with_reducible rfl
              (try simp only [sL, Act.put])
              refine wpAnyH_take (i := 19) (v := ?_) rfl (by kernel_rfl) (by kernel_rfl) (by kernel_rfl) (fun _ _ _ h => h) (Or.inl ⟨by rfl, ?_⟩) hS ?_
              rotate_left
              · intro w' hSw; (try dsimp only at hSw); go_simp; try with_reducible rfl
              (try simp only [sL, Act.put])
              refine wpAnyH_take (i := 20) (v := ?_) rfl (by kernel_rfl) (by kernel_rfl) (by kernel_rfl) (fun _ _ _ h => h) (Or.inl ⟨by rfl, ?_⟩) hS ?_
              rotate_left
              · intro w' hSw; (try dsimp only at hSw); go_simp; try with_reducible rfl
              (try simp only [sL, Act.put])
              refine wpAnyH_take (i := 21) (v := ?_) rfl (by kernel_rfl) (by kernel_rfl) (by kernel_rfl) (fun _ _ _ h => h) (Or.inl ⟨by rfl, ?_⟩) hS ?_
              rotate_left
              · intro w' hSw; (try dsimp only at hSw); go_simp; try with_reducible rfl
              (try simp only [sL, Act.put])
              refine wpAnyH_take (i := 22) (v := (.bool true)) rfl (by kernel_rfl) (by kernel_rfl) (by kernel_rfl) (fun _ _ _ h => h) (Or.inl ⟨by rfl, fun w' hSw => by rfl⟩) hS ?_
              (try simp only [sL, Act.put])
              refine wpAnyH_take (i := 23) (v := ?_) rfl (by kernel_rfl) (by kernel_rfl) (by kernel_rfl) (fun _ _ _ h => h) (Or.inl ⟨by rfl, ?_⟩) hS ?_
              rotate_left
              · intro w' hSw; (try dsimp only at hSw); go_simp; try with_reducible rfl
              (try simp only [sL, Act.put])
              refine wpAnyH_take (i := 24) (v := ?_) rfl (by kernel_rfl) (by kernel_rfl) (by kernel_rfl) (fun _ _ _ h => h) (Or.inl ⟨by rfl, ?_⟩) hS ?_
              rotate_left
              · intro w' hSw; (try dsimp only at hSw); go_simp; try with_reducible rfl
              (try simp only [sL, Act.put])
              refine wpAnyH_take (i := 25) (v := ?_) rfl (by kernel_rfl) (by kernel_rfl) (by kernel_rfl) (fun _ _ _ h => h) (Or.inl ⟨by rfl, ?_⟩) hS ?_
              rotate_left
              · intro w' hSw; (try dsimp only at hSw); go_simp; try with_reducible rfl
              (try simp only [sL, Act.put])
              refine wpAnyH_take (i := 26) (v := ?_) rfl (by kernel_rfl) (by kernel_rfl) (by kernel_rfl) (fun _ _ _ h => h) (Or.inl ⟨by rfl, ?_⟩) hS ?_
              rotate_left
              · intro w' hSw; (try dsimp only at hSw); go_simp; try with_reducible rfl
              (try simp only [sL, Act.put])
              refine wpAnyH_take (i := 27) (v := ?_) rfl (by kernel_rfl) (by kernel_rfl) (by kernel_rfl) (fun _ _ _ h => h) (Or.inl ⟨by rfl, ?_⟩) hS ?_
              rotate_left
              · intro w' hSw; (try dsimp only at hSw); go_simp; try with_reducible rfl
              (try simp only [sL, Act.put])
              refine wpAnyH_take (i := 28) (v := ?_) rfl (by kernel_rfl) (by kernel_rfl) (by kernel_rfl) (fun _ _ _ h => h) (Or.inl ⟨by rfl, ?_⟩) hS ?_
              rotate_left
              · intro w' hSw; (try dsimp only at hSw); go_simp; try with_reducible rfl
              (try simp only [sL, Act.put])
              refine wpAnyH_take (i := 29) (v := (.bool true)) rfl (by kernel_rfl) (by kernel_rfl) (by kernel_rfl) (fun _ _ _ h => h) (Or.inl ⟨by rfl, fun w' hSw => by rfl⟩) hS ?_
              (try simp only [sL, Act.put])
              refine wpAnyH_take (i := 30) (v := ?_) rfl (by kernel_rfl) (by kernel_rfl) (by kernel_rfl) (fun _ _ _ h => h) (Or.inl ⟨by rfl, ?_⟩) hS ?_
              rotate_left
              · intro w' hSw; (try dsimp only at hSw); go_simp; try with_reducible rfl
              (try simp only [sL, Act.put])
              refine wpAnyH_take (i := 31) (v := (.bool true)) rfl (by kernel_rfl) (by kernel_rfl) (by kernel_rfl) (fun _ _ _ h => h) (Or.inl ⟨by rfl, fun w' hSw => by rfl⟩) hS ?_
              (try simp only [sL, Act.put])
              refine wpAnyH_take (i := 32) (v := ?_) rfl (by kernel_rfl) (by kernel_rfl) (by kernel_rfl) (fun _ _ _ h => h) (Or.inl ⟨by rfl, ?_⟩) hS ?_
              rotate_left
              · intro w' hSw; (try dsimp only at hSw); go_simp; try with_reducible rfl
              (try simp only [sL, Act.put])
              refine wpAnyH_done (by kernel_rfl) ?_ _
              go_wp2_with fail
              go_ret
              exact ⟨rfl, hGz.trans hg6'⟩
end Go.Proofs.YthniejnbkkkbnaaGreatDoor
