/- Walks of layer walk: Run, of a program of one function main. -/
import Derived.Test.YthniejnbkkkbnaaGreatDoorM46
set_option linter.all false
set_option linter.unusedSimpArgs false
set_option linter.unusedVariables false
namespace Go.Proofs.YthniejnbkkkbnaaGreatDoor
open Go.RowKit
set_option maxRecDepth 100000
set_option maxHeartbeats 40000000

/-- The machine is made. -/
def MadeM (w0 : World) (fv : Value) (A : Option Addr) (n c fuel : Nat) (v : Value) (wx : World) : Prop := ∃ mb bm hb gl, v = .pointer (some ⟨mb, 0, none⟩) ∧ Gr w0 wx ∧ w0.heap.size ≤ mb ∧ w0.heap.size ≤ bm ∧ w0.heap.size ≤ hb ∧ bm ≠ mb ∧ hb ≠ mb ∧
  wx.heap[mb]? = some (.cells #[.slice none 0 0, .slice none 0 0, fv, .map (some bm), gl, ptrV hb, .slice A n c, iV fuel, .slice none 0 0, iV 0, iV 0, iV 0, iV 0, .slice none 0 0, iV 0] 66 (0, 0)) ∧
  MapAt encS wx bm [] ∧ wx.heap[hb]? = some (.cells #[.slice none 0 0, .slice none 0 0] 88 (0, 0))

def resOf : XR Unit → Option RunR
  | .ok _ m => some ⟨m, 1, 0, 0⟩
  | .stop e c m => some ⟨m, e, c, 0⟩
  | .bad => none
theorem Run_ok (s : ByteArray) (d dm : D) (body : T) (u : Unit) (hs : sourceM s.data.toList = some (.mk d [.mk dm [body]], .ok u)) (hop : dm.op = 4) (hnm : dm.name = xMain) (hbl : body.kids.length < 1000000)
    (A : Option Addr) (c : Nat) (inp : List Int) (Y : Nat → Prop) (hil : inp.length < 1000000) (hic : inp.length ≤ c) (fuel : Nat) (hf : fuel ≤ 65536) (w : World) (hrow : RowR w Y A (inp.map iV)) (hG : Glob w)
    (k : Nat) (R : XR Unit) (hR : insideM k body.kids ⟨inp, fuel, [], 0⟩ = R) (r : RunR) (hr : resOf R = some r) :
    Calls Tryz.prog 15 #[.string s, .slice A inp.length c, .int .i64 fuel] w (RunRes w r) := by
  have HS := Lib.hid (fun w' (hg : Gr w w') => Source_any s _ _ hs (fun a' er' h => by cases h) w' (hG.gr hg))
  have HROW := Lib.hid hrow
  have HRR := Lib.hid hR
  have HRE := Lib.hid hr
  have hf0 : ¬ ((fuel : Int) < 0) := by omega
  have hf1 : ¬ ((65536 : Int) < fuel) := by omega
  have hmm := @run_makeMap Tryz.prog
  have hms : ∀ w : World, (Instr.makeSlice 22 (.int .i64 0) (.int .i64 0)).run Tryz.prog w = .ok (.slice (some ⟨w.heap.size, 0, none⟩) 0 0) (w.alloc (.cells #[] 3)) := fun _ => by kernel_rfl
  obtain ⟨n, hn⟩ : ∃ n, inp.length = n := ⟨_, rfl⟩
  have HN := Lib.hid hn
  rw [hn] at hil hic ⊢
  clear hs hG hrow hR hr hn
  go_enter Tryz.func15, Tryz.ntmps15
  go_wp2_with fail
  have R0 := blk_alloc w (.cells #[.slice none 0 0, iV 0, iV 0, iV 0, iV 0] 25)
  refine (HS.out _ (Gr.al _ _)).mono ?_
  rintro e w1 ⟨hg1, b, fv, rfl, ht1, hsg⟩
  have R1 := hg1.blk R0
  have hG1 : Gr w w1 := (Gr.al _ _).trans hg1
  obtain ⟨fA, nf, fc, hfv⟩ : ∃ A n c, fv = .slice A n c := by
    obtain ⟨_, _, ⟨A, c, hv, _⟩, _⟩ := hsg
    exact ⟨A, _, c, hv⟩
  subst hfv
  clear hsg
  unfold nilS
  go_upto_region 2 with fail
  have R2 := blk_alloc_lt (o' := .cells #[.slice none 0 0, .slice none 0 0, .slice fA nf fc] 56) (blk_alloc_lt (o' := .cells #[ptrV b] 53) R1)
  have N2 := alloc2_fst w1 (.cells #[ptrV b] 53) (.cells #[.slice none 0 0, .slice none 0 0, .slice fA nf fc] 56)
  have I2 := alloc2_snd w1 (.cells #[ptrV b] 53) (.cells #[.slice none 0 0, .slice none 0 0, .slice fA nf fc] 56)
  have hG2 : Gr w ((w1.alloc (.cells #[ptrV b] 53)).alloc (.cells #[.slice none 0 0, .slice none 0 0, .slice fA nf fc] 56)) := (hG1.alloc _).alloc _
  have HT2 := Lib.hid ((ht1.imp (Y := fun k => k < w1.heap.size) (fun k hk _ => hk)).gr (((Gr.refl w1).alloc (.cells #[ptrV b] 53)).alloc (.cells #[.slice none 0 0, .slice none 0 0, .slice fA nf fc] 56)))
  have hs1 := blkLt R1
  generalize (w1.alloc (.cells #[ptrV b] 53)).alloc (.cells #[.slice none 0 0, .slice none 0 0, .slice fA nf fc] 56) = w2 at *
  obtain ⟨k8, hk8⟩ : ∃ k, w1.heap.size = k := ⟨_, rfl⟩
  obtain ⟨k9, hk9⟩ : ∃ k, k8 + 1 = k := ⟨_, rfl⟩
  rw [hk8, hk9] at I2 ⊢
  rw [hk8] at N2 hs1 HT2
  have h89 : k8 < k9 := by omega
  have HR2 := Lib.hid R2
  have HN2 := Lib.hid N2
  have HI2 := Lib.hid I2
  have hl2 := blkLt I2
  have i0 := cellAt I2 (i := 0) rfl
  have i1 := cellAt I2 (i := 1) rfl
  have i2 := cellAt I2 (i := 2) rfl
  clear hg1 R0 R1 hG1 ht1 hk8 hk9 R2 N2 I2
  go_upto_region 6 with fail
  go_cut [12] from 34 to 46 (fun v wx => MadeM w2 (.slice fA nf fc) A n c fuel v wx)
  case first =>
    have HSO : Hid (∀ w', Gr w2 w' → (Gr w2 w' ∧ w'.cell? ⟨k9, 0, none⟩ = some (.slice none 0 0) ∧ w'.cell? ⟨k9, 1, none⟩ = some (.slice none 0 0) ∧ w'.cell? ⟨k9, 2, none⟩ = some (.slice fA nf fc))) := fun w' hg => ⟨hg, cellAt (hg.blk HI2.out) rfl, cellAt (hg.blk HI2.out) rfl, cellAt (hg.blk HI2.out) rfl⟩
    refine wp_region_held_drew (S := fun w' => Gr w2 w' ∧ w'.cell? ⟨k9, 0, none⟩ = some (.slice none 0 0) ∧ w'.cell? ⟨k9, 1, none⟩ = some (.slice none 0 0) ∧ w'.cell? ⟨k9, 2, none⟩ = some (.slice fA nf fc)) rfl (HSO.out _ (Gr.refl w2).drew) (fun hS => ?_)
    have hgw3 : Gr w2 w2.drew := (Gr.refl w2).drew
    generalize w2.drew = w3 at hgw3 hS ⊢
    refine wpAnyH_take (i := 0) (v := ?_) rfl (by kernel_rfl) (by kernel_rfl) (by kernel_rfl) (fun _ _ _ h => h) (Or.inl ⟨by rfl, ?_⟩) hS ?_
    rotate_left
    · intro w' hSw; (try dsimp only at hSw); go_simp; try with_reducible rfl
    (try simp only [List.getElem_toArray, List.getElem_cons_succ, List.getElem_cons_zero, Act.put, List.setIfInBounds_toArray, List.set_cons_zero, List.set_cons_succ])
    refine wpAnyH_take (i := 2) (v := ?_) rfl (by kernel_rfl) (by kernel_rfl) (by kernel_rfl) (fun _ _ _ h => h) (Or.inl ⟨by rfl, ?_⟩) hS ?_
    rotate_left
    · intro w' hSw; (try dsimp only at hSw); go_simp; try with_reducible rfl
    (try simp only [List.getElem_toArray, List.getElem_cons_succ, List.getElem_cons_zero, Act.put, List.setIfInBounds_toArray, List.set_cons_zero, List.set_cons_succ])
    refine wpAnyH_take (i := 3) (v := ?_) rfl (by kernel_rfl) (by kernel_rfl) (by kernel_rfl) (fun _ _ _ h => h) (Or.inl ⟨by rfl, ?_⟩) hS ?_
    rotate_left
    · intro w' hSw; (try dsimp only at hSw); go_simp; try with_reducible rfl
    (try simp only [List.getElem_toArray, List.getElem_cons_succ, List.getElem_cons_zero, Act.put, List.setIfInBounds_toArray, List.set_cons_zero, List.set_cons_succ])
    refine wpAnyH_take (i := 4) (v := ?_) rfl (by kernel_rfl) (by kernel_rfl) (by kernel_rfl) (fun _ _ _ h => h) (Or.inl ⟨by rfl, ?_⟩) hS ?_
    rotate_left
    · intro w' hSw; (try dsimp only at hSw); go_simp; try with_reducible rfl
    (try simp only [List.getElem_toArray, List.getElem_cons_succ, List.getElem_cons_zero, Act.put, List.setIfInBounds_toArray, List.set_cons_zero, List.set_cons_succ])
    refine wpAnyH_take (i := 6) (v := ?_) rfl (by kernel_rfl) (by kernel_rfl) (by kernel_rfl) (fun _ _ _ h => h) (Or.inl ⟨by rfl, ?_⟩) hS ?_
    rotate_left
    · intro w' hSw; (try dsimp only at hSw); go_simp; try with_reducible rfl
    (try simp only [List.getElem_toArray, List.getElem_cons_succ, List.getElem_cons_zero, Act.put, List.setIfInBounds_toArray, List.set_cons_zero, List.set_cons_succ])
    refine wpAnyH_take (i := 7) (v := ?_) rfl (by kernel_rfl) (by kernel_rfl) (by kernel_rfl) (fun _ _ _ h => h) (Or.inl ⟨by rfl, ?_⟩) hS ?_
    rotate_left
    · intro w' hSw; (try dsimp only at hSw); go_simp; try with_reducible rfl
    (try simp only [List.getElem_toArray, List.getElem_cons_succ, List.getElem_cons_zero, Act.put, List.setIfInBounds_toArray, List.set_cons_zero, List.set_cons_succ])
    refine wpAnyH_take (i := 9) (v := ?_) rfl (by kernel_rfl) (by kernel_rfl) (by kernel_rfl) (fun _ _ _ h => h) (Or.inl ⟨by rfl, ?_⟩) hS ?_
    rotate_left
    · intro w' hSw; (try dsimp only at hSw); go_simp; try with_reducible rfl
    (try simp only [List.getElem_toArray, List.getElem_cons_succ, List.getElem_cons_zero, Act.put, List.setIfInBounds_toArray, List.set_cons_zero, List.set_cons_succ])
    refine wpAnyH_take (i := 10) (v := ?_) rfl (by kernel_rfl) (by kernel_rfl) (by kernel_rfl) (fun _ _ _ h => h) (Or.inl ⟨by rfl, ?_⟩) hS ?_
    rotate_left
    · intro w' hSw; (try dsimp only at hSw); go_simp; try with_reducible rfl
    (try simp only [List.getElem_toArray, List.getElem_cons_succ, List.getElem_cons_zero, Act.put, List.setIfInBounds_toArray, List.set_cons_zero, List.set_cons_succ])
    refine wpAnyH_ready (rs := [1, 5, 8]) (by kernel_rfl) (by simp) ?_
    refine AllReadyH.cons rfl (fun K' hK => ?_) (AllReadyH.cons rfl (fun K' hK => ?_) (AllReadyH.cons rfl (fun K' hK => ?_) AllReadyH.nil))
    · simp only [List.getElem_toArray, List.getElem_cons_succ, List.getElem_cons_zero]
      go_simp
      have hm : MapAt encS (w3.alloc (.map #[] 0)) w3.heap.size [] := MapAt.made encS w3
      have hbm0 : w2.heap.size ≤ w3.heap.size := hgw3.size
      have hkwa : Gr w3 (w3.alloc (.map #[] 0)) := Gr.al _ _
      have hgwa := hgw3.trans hkwa
      obtain ⟨bm, hbm⟩ : ∃ x, w3.heap.size = x := ⟨_, rfl⟩
      rw [hbm] at hm hbm0 ⊢
      generalize w3.alloc (.map #[] 0) = wa at hm hkwa hgwa ⊢
      have hbml := hm.lt
      clear hbm
      refine hK.out _ _ (HSO.out _ hgwa) (fun hS => ?_)
      (try simp only [Act.put, List.setIfInBounds_toArray, List.set_cons_zero, List.set_cons_succ])
      refine wpAnyH_ready (rs := [5, 8]) (by kernel_rfl) (by simp) ?_
      refine AllReadyH.cons rfl (fun K' hK => ?_) (AllReadyH.cons rfl (fun K' hK => ?_) AllReadyH.nil)
      · simp only [List.getElem_toArray, List.getElem_cons_succ, List.getElem_cons_zero]
        go_simp
        have hkwb : Gr wa (wa.alloc (.cells #[] 3)) := Gr.al _ _
        have hgwb := hgwa.trans hkwb
        obtain ⟨gb, hgb⟩ : ∃ x, wa.heap.size = x := ⟨_, rfl⟩
        rw [hgb]
        clear hgb
        generalize wa.alloc (.cells #[] 3) = wb at hkwb hgwb ⊢
        refine hK.out _ _ (HSO.out _ hgwb) (fun hS => ?_)
        (try simp only [Act.put, List.setIfInBounds_toArray, List.set_cons_zero, List.set_cons_succ])
        refine wpAnyH_ready (rs := [8]) (by kernel_rfl) (by simp) ?_
        refine AllReadyH.cons rfl (fun K' hK => ?_) AllReadyH.nil
        simp only [List.getElem_toArray, List.getElem_cons_succ, List.getElem_cons_zero]
        go_simp
        refine (HNew_nil wb).mono ?_
        rintro e wd ⟨hb, rfl, hlb, hbb, hkwd⟩
        have hgwd := hgwb.trans hkwd
        have hlb0 : w2.heap.size ≤ hb := Nat.le_trans hgwb.size hlb
        have hbbl := blkLt hbb
        refine hK.out _ _ (HSO.out _ hgwd) (fun hS => ?_)
        (try simp only [Act.put, List.setIfInBounds_toArray, List.set_cons_zero, List.set_cons_succ])
        refine wpAnyH_take (i := 11) (v := ?_) rfl (by kernel_rfl) (by kernel_rfl) (by kernel_rfl) (fun _ _ _ h => h) (Or.inl ⟨by rfl, ?_⟩) hS ?_
        rotate_left
        · intro w' hSw; (try dsimp only at hSw); go_simp; try with_reducible rfl
        (try simp only [List.getElem_toArray, List.getElem_cons_succ, List.getElem_cons_zero, Act.put, List.setIfInBounds_toArray, List.set_cons_zero, List.set_cons_succ])
        refine wpAnyH_ready (rs := [12]) (by kernel_rfl) (by simp) ?_
        refine AllReadyH.cons rfl (fun K' hK => ?_) AllReadyH.nil
        simp only [List.getElem_toArray, List.getElem_cons_succ, List.getElem_cons_zero]
        go_simp
        have hmz : MapAt encS wd bm [] := (hm.gr hkwb).gr hkwd
        have hbz : wd.heap[hb]? = _ := hbb
        have hbml' := hmz.lt
        have hbbl' := blkLt hbz
        have hkz : Gr wd (wd.alloc (.cells #[.slice none 0 0, .slice none 0 0, .slice fA nf fc, .map (some bm), .slice (some ⟨gb, 0, none⟩) 0 0, ptrV hb, .slice A n c, iV fuel, .slice none 0 0, iV 0, iV 0, iV 0, iV 0, .slice none 0 0, iV 0] 66)) := Gr.al _ _
        have hez := blk_alloc wd (.cells #[.slice none 0 0, .slice none 0 0, .slice fA nf fc, .map (some bm), .slice (some ⟨gb, 0, none⟩) 0 0, ptrV hb, .slice A n c, iV fuel, .slice none 0 0, iV 0, iV 0, iV 0, iV 0, .slice none 0 0, iV 0] 66)
        refine hK.out _ _ (HSO.out _ (hgwd.trans hkz)) (fun hS => ?_)
        (try simp only [Act.put, List.setIfInBounds_toArray, List.set_cons_zero, List.set_cons_succ])
        refine wpAnyH_take (i := 13) (v := ?_) rfl (by kernel_rfl) (by kernel_rfl) (by kernel_rfl) (fun _ _ _ h => h) (Or.inl ⟨by rfl, ?_⟩) hS ?_
        rotate_left
        · intro w' hSw; (try dsimp only at hSw); go_simp; try with_reducible rfl
        (try simp only [List.getElem_toArray, List.getElem_cons_succ, List.getElem_cons_zero, Act.put, List.setIfInBounds_toArray, List.set_cons_zero, List.set_cons_succ])
        refine wpAnyH_done (by kernel_rfl) ?_ _
        go_wp2_with fail
        go_meet
        exact ⟨wd.heap.size, bm, hb, _, rfl, hgwd.trans hkz, hgwd.size, hbm0, hlb0, by omega, by omega, hez, hmz.gr hkz, hkz.blk hbz⟩
      · simp only [List.getElem_toArray, List.getElem_cons_succ, List.getElem_cons_zero]
        go_simp
        refine (HNew_nil wa).mono ?_
        rintro e wb ⟨hb, rfl, hlb, hbb, hkwb⟩
        have hgwb := hgwa.trans hkwb
        have hlb0 : w2.heap.size ≤ hb := Nat.le_trans hgwa.size hlb
        have hbbl := blkLt hbb
        refine hK.out _ _ (HSO.out _ hgwb) (fun hS => ?_)
        (try simp only [Act.put, List.setIfInBounds_toArray, List.set_cons_zero, List.set_cons_succ])
        refine wpAnyH_ready (rs := [5]) (by kernel_rfl) (by simp) ?_
        refine AllReadyH.cons rfl (fun K' hK => ?_) AllReadyH.nil
        simp only [List.getElem_toArray, List.getElem_cons_succ, List.getElem_cons_zero]
        go_simp
        have hkwd : Gr wb (wb.alloc (.cells #[] 3)) := Gr.al _ _
        have hgwd := hgwb.trans hkwd
        obtain ⟨gb, hgb⟩ : ∃ x, wb.heap.size = x := ⟨_, rfl⟩
        rw [hgb]
        clear hgb
        generalize wb.alloc (.cells #[] 3) = wd at hkwd hgwd ⊢
        refine hK.out _ _ (HSO.out _ hgwd) (fun hS => ?_)
        (try simp only [Act.put, List.setIfInBounds_toArray, List.set_cons_zero, List.set_cons_succ])
        refine wpAnyH_take (i := 11) (v := ?_) rfl (by kernel_rfl) (by kernel_rfl) (by kernel_rfl) (fun _ _ _ h => h) (Or.inl ⟨by rfl, ?_⟩) hS ?_
        rotate_left
        · intro w' hSw; (try dsimp only at hSw); go_simp; try with_reducible rfl
        (try simp only [List.getElem_toArray, List.getElem_cons_succ, List.getElem_cons_zero, Act.put, List.setIfInBounds_toArray, List.set_cons_zero, List.set_cons_succ])
        refine wpAnyH_ready (rs := [12]) (by kernel_rfl) (by simp) ?_
        refine AllReadyH.cons rfl (fun K' hK => ?_) AllReadyH.nil
        simp only [List.getElem_toArray, List.getElem_cons_succ, List.getElem_cons_zero]
        go_simp
        have hmz : MapAt encS wd bm [] := (hm.gr hkwb).gr hkwd
        have hbz : wd.heap[hb]? = _ := hkwd.blk hbb
        have hbml' := hmz.lt
        have hbbl' := blkLt hbz
        have hkz : Gr wd (wd.alloc (.cells #[.slice none 0 0, .slice none 0 0, .slice fA nf fc, .map (some bm), .slice (some ⟨gb, 0, none⟩) 0 0, ptrV hb, .slice A n c, iV fuel, .slice none 0 0, iV 0, iV 0, iV 0, iV 0, .slice none 0 0, iV 0] 66)) := Gr.al _ _
        have hez := blk_alloc wd (.cells #[.slice none 0 0, .slice none 0 0, .slice fA nf fc, .map (some bm), .slice (some ⟨gb, 0, none⟩) 0 0, ptrV hb, .slice A n c, iV fuel, .slice none 0 0, iV 0, iV 0, iV 0, iV 0, .slice none 0 0, iV 0] 66)
        refine hK.out _ _ (HSO.out _ (hgwd.trans hkz)) (fun hS => ?_)
        (try simp only [Act.put, List.setIfInBounds_toArray, List.set_cons_zero, List.set_cons_succ])
        refine wpAnyH_take (i := 13) (v := ?_) rfl (by kernel_rfl) (by kernel_rfl) (by kernel_rfl) (fun _ _ _ h => h) (Or.inl ⟨by rfl, ?_⟩) hS ?_
        rotate_left
        · intro w' hSw; (try dsimp only at hSw); go_simp; try with_reducible rfl
        (try simp only [List.getElem_toArray, List.getElem_cons_succ, List.getElem_cons_zero, Act.put, List.setIfInBounds_toArray, List.set_cons_zero, List.set_cons_succ])
        refine wpAnyH_done (by kernel_rfl) ?_ _
        go_wp2_with fail
        go_meet
        exact ⟨wd.heap.size, bm, hb, _, rfl, hgwd.trans hkz, hgwd.size, hbm0, hlb0, by omega, by omega, hez, hmz.gr hkz, hkz.blk hbz⟩
    · simp only [List.getElem_toArray, List.getElem_cons_succ, List.getElem_cons_zero]
      go_simp
      have hkwa : Gr w3 (w3.alloc (.cells #[] 3)) := Gr.al _ _
      have hgwa := hgw3.trans hkwa
      obtain ⟨gb, hgb⟩ : ∃ x, w3.heap.size = x := ⟨_, rfl⟩
      rw [hgb]
      clear hgb
      generalize w3.alloc (.cells #[] 3) = wa at hkwa hgwa ⊢
      refine hK.out _ _ (HSO.out _ hgwa) (fun hS => ?_)
      (try simp only [Act.put, List.setIfInBounds_toArray, List.set_cons_zero, List.set_cons_succ])
      refine wpAnyH_ready (rs := [1, 8]) (by kernel_rfl) (by simp) ?_
      refine AllReadyH.cons rfl (fun K' hK => ?_) (AllReadyH.cons rfl (fun K' hK => ?_) AllReadyH.nil)
      · simp only [List.getElem_toArray, List.getElem_cons_succ, List.getElem_cons_zero]
        go_simp
        have hm : MapAt encS (wa.alloc (.map #[] 0)) wa.heap.size [] := MapAt.made encS wa
        have hbm0 : w2.heap.size ≤ wa.heap.size := hgwa.size
        have hkwb : Gr wa (wa.alloc (.map #[] 0)) := Gr.al _ _
        have hgwb := hgwa.trans hkwb
        obtain ⟨bm, hbm⟩ : ∃ x, wa.heap.size = x := ⟨_, rfl⟩
        rw [hbm] at hm hbm0 ⊢
        generalize wa.alloc (.map #[] 0) = wb at hm hkwb hgwb ⊢
        have hbml := hm.lt
        clear hbm
        refine hK.out _ _ (HSO.out _ hgwb) (fun hS => ?_)
        (try simp only [Act.put, List.setIfInBounds_toArray, List.set_cons_zero, List.set_cons_succ])
        refine wpAnyH_ready (rs := [8]) (by kernel_rfl) (by simp) ?_
        refine AllReadyH.cons rfl (fun K' hK => ?_) AllReadyH.nil
        simp only [List.getElem_toArray, List.getElem_cons_succ, List.getElem_cons_zero]
        go_simp
        refine (HNew_nil wb).mono ?_
        rintro e wd ⟨hb, rfl, hlb, hbb, hkwd⟩
        have hgwd := hgwb.trans hkwd
        have hlb0 : w2.heap.size ≤ hb := Nat.le_trans hgwb.size hlb
        have hbbl := blkLt hbb
        refine hK.out _ _ (HSO.out _ hgwd) (fun hS => ?_)
        (try simp only [Act.put, List.setIfInBounds_toArray, List.set_cons_zero, List.set_cons_succ])
        refine wpAnyH_take (i := 11) (v := ?_) rfl (by kernel_rfl) (by kernel_rfl) (by kernel_rfl) (fun _ _ _ h => h) (Or.inl ⟨by rfl, ?_⟩) hS ?_
        rotate_left
        · intro w' hSw; (try dsimp only at hSw); go_simp; try with_reducible rfl
        (try simp only [List.getElem_toArray, List.getElem_cons_succ, List.getElem_cons_zero, Act.put, List.setIfInBounds_toArray, List.set_cons_zero, List.set_cons_succ])
        refine wpAnyH_ready (rs := [12]) (by kernel_rfl) (by simp) ?_
        refine AllReadyH.cons rfl (fun K' hK => ?_) AllReadyH.nil
        simp only [List.getElem_toArray, List.getElem_cons_succ, List.getElem_cons_zero]
        go_simp
        have hmz : MapAt encS wd bm [] := hm.gr hkwd
        have hbz : wd.heap[hb]? = _ := hbb
        have hbml' := hmz.lt
        have hbbl' := blkLt hbz
        have hkz : Gr wd (wd.alloc (.cells #[.slice none 0 0, .slice none 0 0, .slice fA nf fc, .map (some bm), .slice (some ⟨gb, 0, none⟩) 0 0, ptrV hb, .slice A n c, iV fuel, .slice none 0 0, iV 0, iV 0, iV 0, iV 0, .slice none 0 0, iV 0] 66)) := Gr.al _ _
        have hez := blk_alloc wd (.cells #[.slice none 0 0, .slice none 0 0, .slice fA nf fc, .map (some bm), .slice (some ⟨gb, 0, none⟩) 0 0, ptrV hb, .slice A n c, iV fuel, .slice none 0 0, iV 0, iV 0, iV 0, iV 0, .slice none 0 0, iV 0] 66)
        refine hK.out _ _ (HSO.out _ (hgwd.trans hkz)) (fun hS => ?_)
        (try simp only [Act.put, List.setIfInBounds_toArray, List.set_cons_zero, List.set_cons_succ])
        refine wpAnyH_take (i := 13) (v := ?_) rfl (by kernel_rfl) (by kernel_rfl) (by kernel_rfl) (fun _ _ _ h => h) (Or.inl ⟨by rfl, ?_⟩) hS ?_
        rotate_left
        · intro w' hSw; (try dsimp only at hSw); go_simp; try with_reducible rfl
        (try simp only [List.getElem_toArray, List.getElem_cons_succ, List.getElem_cons_zero, Act.put, List.setIfInBounds_toArray, List.set_cons_zero, List.set_cons_succ])
        refine wpAnyH_done (by kernel_rfl) ?_ _
        go_wp2_with fail
        go_meet
        exact ⟨wd.heap.size, bm, hb, _, rfl, hgwd.trans hkz, hgwd.size, hbm0, hlb0, by omega, by omega, hez, hmz.gr hkz, hkz.blk hbz⟩
      · simp only [List.getElem_toArray, List.getElem_cons_succ, List.getElem_cons_zero]
        go_simp
        refine (HNew_nil wa).mono ?_
        rintro e wb ⟨hb, rfl, hlb, hbb, hkwb⟩
        have hgwb := hgwa.trans hkwb
        have hlb0 : w2.heap.size ≤ hb := Nat.le_trans hgwa.size hlb
        have hbbl := blkLt hbb
        refine hK.out _ _ (HSO.out _ hgwb) (fun hS => ?_)
        (try simp only [Act.put, List.setIfInBounds_toArray, List.set_cons_zero, List.set_cons_succ])
        refine wpAnyH_ready (rs := [1]) (by kernel_rfl) (by simp) ?_
        refine AllReadyH.cons rfl (fun K' hK => ?_) AllReadyH.nil
        simp only [List.getElem_toArray, List.getElem_cons_succ, List.getElem_cons_zero]
        go_simp
        have hm : MapAt encS (wb.alloc (.map #[] 0)) wb.heap.size [] := MapAt.made encS wb
        have hbm0 : w2.heap.size ≤ wb.heap.size := hgwb.size
        have hkwd : Gr wb (wb.alloc (.map #[] 0)) := Gr.al _ _
        have hgwd := hgwb.trans hkwd
        obtain ⟨bm, hbm⟩ : ∃ x, wb.heap.size = x := ⟨_, rfl⟩
        rw [hbm] at hm hbm0 ⊢
        generalize wb.alloc (.map #[] 0) = wd at hm hkwd hgwd ⊢
        have hbml := hm.lt
        clear hbm
        refine hK.out _ _ (HSO.out _ hgwd) (fun hS => ?_)
        (try simp only [Act.put, List.setIfInBounds_toArray, List.set_cons_zero, List.set_cons_succ])
        refine wpAnyH_take (i := 11) (v := ?_) rfl (by kernel_rfl) (by kernel_rfl) (by kernel_rfl) (fun _ _ _ h => h) (Or.inl ⟨by rfl, ?_⟩) hS ?_
        rotate_left
        · intro w' hSw; (try dsimp only at hSw); go_simp; try with_reducible rfl
        (try simp only [List.getElem_toArray, List.getElem_cons_succ, List.getElem_cons_zero, Act.put, List.setIfInBounds_toArray, List.set_cons_zero, List.set_cons_succ])
        refine wpAnyH_ready (rs := [12]) (by kernel_rfl) (by simp) ?_
        refine AllReadyH.cons rfl (fun K' hK => ?_) AllReadyH.nil
        simp only [List.getElem_toArray, List.getElem_cons_succ, List.getElem_cons_zero]
        go_simp
        have hmz : MapAt encS wd bm [] := hm
        have hbz : wd.heap[hb]? = _ := hkwd.blk hbb
        have hbml' := hmz.lt
        have hbbl' := blkLt hbz
        have hkz : Gr wd (wd.alloc (.cells #[.slice none 0 0, .slice none 0 0, .slice fA nf fc, .map (some bm), .slice (some ⟨gb, 0, none⟩) 0 0, ptrV hb, .slice A n c, iV fuel, .slice none 0 0, iV 0, iV 0, iV 0, iV 0, .slice none 0 0, iV 0] 66)) := Gr.al _ _
        have hez := blk_alloc wd (.cells #[.slice none 0 0, .slice none 0 0, .slice fA nf fc, .map (some bm), .slice (some ⟨gb, 0, none⟩) 0 0, ptrV hb, .slice A n c, iV fuel, .slice none 0 0, iV 0, iV 0, iV 0, iV 0, .slice none 0 0, iV 0] 66)
        refine hK.out _ _ (HSO.out _ (hgwd.trans hkz)) (fun hS => ?_)
        (try simp only [Act.put, List.setIfInBounds_toArray, List.set_cons_zero, List.set_cons_succ])
        refine wpAnyH_take (i := 13) (v := ?_) rfl (by kernel_rfl) (by kernel_rfl) (by kernel_rfl) (fun _ _ _ h => h) (Or.inl ⟨by rfl, ?_⟩) hS ?_
        rotate_left
        · intro w' hSw; (try dsimp only at hSw); go_simp; try with_reducible rfl
        (try simp only [List.getElem_toArray, List.getElem_cons_succ, List.getElem_cons_zero, Act.put, List.setIfInBounds_toArray, List.set_cons_zero, List.set_cons_succ])
        refine wpAnyH_done (by kernel_rfl) ?_ _
        go_wp2_with fail
        go_meet
        exact ⟨wd.heap.size, bm, hb, _, rfl, hgwd.trans hkz, hgwd.size, hbm0, hlb0, by omega, by omega, hez, hmz.gr hkz, hkz.blk hbz⟩
    · simp only [List.getElem_toArray, List.getElem_cons_succ, List.getElem_cons_zero]
      go_simp
      refine (HNew_nil w3).mono ?_
      rintro e wa ⟨hb, rfl, hlb, hbb, hkwa⟩
      have hgwa := hgw3.trans hkwa
      have hlb0 : w2.heap.size ≤ hb := Nat.le_trans hgw3.size hlb
      have hbbl := blkLt hbb
      refine hK.out _ _ (HSO.out _ hgwa) (fun hS => ?_)
      (try simp only [Act.put, List.setIfInBounds_toArray, List.set_cons_zero, List.set_cons_succ])
      refine wpAnyH_ready (rs := [1, 5]) (by kernel_rfl) (by simp) ?_
      refine AllReadyH.cons rfl (fun K' hK => ?_) (AllReadyH.cons rfl (fun K' hK => ?_) AllReadyH.nil)
      · simp only [List.getElem_toArray, List.getElem_cons_succ, List.getElem_cons_zero]
        go_simp
        have hm : MapAt encS (wa.alloc (.map #[] 0)) wa.heap.size [] := MapAt.made encS wa
        have hbm0 : w2.heap.size ≤ wa.heap.size := hgwa.size
        have hkwb : Gr wa (wa.alloc (.map #[] 0)) := Gr.al _ _
        have hgwb := hgwa.trans hkwb
        obtain ⟨bm, hbm⟩ : ∃ x, wa.heap.size = x := ⟨_, rfl⟩
        rw [hbm] at hm hbm0 ⊢
        generalize wa.alloc (.map #[] 0) = wb at hm hkwb hgwb ⊢
        have hbml := hm.lt
        clear hbm
        refine hK.out _ _ (HSO.out _ hgwb) (fun hS => ?_)
        (try simp only [Act.put, List.setIfInBounds_toArray, List.set_cons_zero, List.set_cons_succ])
        refine wpAnyH_ready (rs := [5]) (by kernel_rfl) (by simp) ?_
        refine AllReadyH.cons rfl (fun K' hK => ?_) AllReadyH.nil
        simp only [List.getElem_toArray, List.getElem_cons_succ, List.getElem_cons_zero]
        go_simp
        have hkwd : Gr wb (wb.alloc (.cells #[] 3)) := Gr.al _ _
        have hgwd := hgwb.trans hkwd
        obtain ⟨gb, hgb⟩ : ∃ x, wb.heap.size = x := ⟨_, rfl⟩
        rw [hgb]
        clear hgb
        generalize wb.alloc (.cells #[] 3) = wd at hkwd hgwd ⊢
        refine hK.out _ _ (HSO.out _ hgwd) (fun hS => ?_)
        (try simp only [Act.put, List.setIfInBounds_toArray, List.set_cons_zero, List.set_cons_succ])
        refine wpAnyH_take (i := 11) (v := ?_) rfl (by kernel_rfl) (by kernel_rfl) (by kernel_rfl) (fun _ _ _ h => h) (Or.inl ⟨by rfl, ?_⟩) hS ?_
        rotate_left
        · intro w' hSw; (try dsimp only at hSw); go_simp; try with_reducible rfl
        (try simp only [List.getElem_toArray, List.getElem_cons_succ, List.getElem_cons_zero, Act.put, List.setIfInBounds_toArray, List.set_cons_zero, List.set_cons_succ])
        refine wpAnyH_ready (rs := [12]) (by kernel_rfl) (by simp) ?_
        refine AllReadyH.cons rfl (fun K' hK => ?_) AllReadyH.nil
        simp only [List.getElem_toArray, List.getElem_cons_succ, List.getElem_cons_zero]
        go_simp
        have hmz : MapAt encS wd bm [] := hm.gr hkwd
        have hbz : wd.heap[hb]? = _ := hkwd.blk (hkwb.blk hbb)
        have hbml' := hmz.lt
        have hbbl' := blkLt hbz
        have hkz : Gr wd (wd.alloc (.cells #[.slice none 0 0, .slice none 0 0, .slice fA nf fc, .map (some bm), .slice (some ⟨gb, 0, none⟩) 0 0, ptrV hb, .slice A n c, iV fuel, .slice none 0 0, iV 0, iV 0, iV 0, iV 0, .slice none 0 0, iV 0] 66)) := Gr.al _ _
        have hez := blk_alloc wd (.cells #[.slice none 0 0, .slice none 0 0, .slice fA nf fc, .map (some bm), .slice (some ⟨gb, 0, none⟩) 0 0, ptrV hb, .slice A n c, iV fuel, .slice none 0 0, iV 0, iV 0, iV 0, iV 0, .slice none 0 0, iV 0] 66)
        refine hK.out _ _ (HSO.out _ (hgwd.trans hkz)) (fun hS => ?_)
        (try simp only [Act.put, List.setIfInBounds_toArray, List.set_cons_zero, List.set_cons_succ])
        refine wpAnyH_take (i := 13) (v := ?_) rfl (by kernel_rfl) (by kernel_rfl) (by kernel_rfl) (fun _ _ _ h => h) (Or.inl ⟨by rfl, ?_⟩) hS ?_
        rotate_left
        · intro w' hSw; (try dsimp only at hSw); go_simp; try with_reducible rfl
        (try simp only [List.getElem_toArray, List.getElem_cons_succ, List.getElem_cons_zero, Act.put, List.setIfInBounds_toArray, List.set_cons_zero, List.set_cons_succ])
        refine wpAnyH_done (by kernel_rfl) ?_ _
        go_wp2_with fail
        go_meet
        exact ⟨wd.heap.size, bm, hb, _, rfl, hgwd.trans hkz, hgwd.size, hbm0, hlb0, by omega, by omega, hez, hmz.gr hkz, hkz.blk hbz⟩
      · simp only [List.getElem_toArray, List.getElem_cons_succ, List.getElem_cons_zero]
        go_simp
        have hkwb : Gr wa (wa.alloc (.cells #[] 3)) := Gr.al _ _
        have hgwb := hgwa.trans hkwb
        obtain ⟨gb, hgb⟩ : ∃ x, wa.heap.size = x := ⟨_, rfl⟩
        rw [hgb]
        clear hgb
        generalize wa.alloc (.cells #[] 3) = wb at hkwb hgwb ⊢
        refine hK.out _ _ (HSO.out _ hgwb) (fun hS => ?_)
        (try simp only [Act.put, List.setIfInBounds_toArray, List.set_cons_zero, List.set_cons_succ])
        refine wpAnyH_ready (rs := [1]) (by kernel_rfl) (by simp) ?_
        refine AllReadyH.cons rfl (fun K' hK => ?_) AllReadyH.nil
        simp only [List.getElem_toArray, List.getElem_cons_succ, List.getElem_cons_zero]
        go_simp
        have hm : MapAt encS (wb.alloc (.map #[] 0)) wb.heap.size [] := MapAt.made encS wb
        have hbm0 : w2.heap.size ≤ wb.heap.size := hgwb.size
        have hkwd : Gr wb (wb.alloc (.map #[] 0)) := Gr.al _ _
        have hgwd := hgwb.trans hkwd
        obtain ⟨bm, hbm⟩ : ∃ x, wb.heap.size = x := ⟨_, rfl⟩
        rw [hbm] at hm hbm0 ⊢
        generalize wb.alloc (.map #[] 0) = wd at hm hkwd hgwd ⊢
        have hbml := hm.lt
        clear hbm
        refine hK.out _ _ (HSO.out _ hgwd) (fun hS => ?_)
        (try simp only [Act.put, List.setIfInBounds_toArray, List.set_cons_zero, List.set_cons_succ])
        refine wpAnyH_take (i := 11) (v := ?_) rfl (by kernel_rfl) (by kernel_rfl) (by kernel_rfl) (fun _ _ _ h => h) (Or.inl ⟨by rfl, ?_⟩) hS ?_
        rotate_left
        · intro w' hSw; (try dsimp only at hSw); go_simp; try with_reducible rfl
        (try simp only [List.getElem_toArray, List.getElem_cons_succ, List.getElem_cons_zero, Act.put, List.setIfInBounds_toArray, List.set_cons_zero, List.set_cons_succ])
        refine wpAnyH_ready (rs := [12]) (by kernel_rfl) (by simp) ?_
        refine AllReadyH.cons rfl (fun K' hK => ?_) AllReadyH.nil
        simp only [List.getElem_toArray, List.getElem_cons_succ, List.getElem_cons_zero]
        go_simp
        have hmz : MapAt encS wd bm [] := hm
        have hbz : wd.heap[hb]? = _ := hkwd.blk (hkwb.blk hbb)
        have hbml' := hmz.lt
        have hbbl' := blkLt hbz
        have hkz : Gr wd (wd.alloc (.cells #[.slice none 0 0, .slice none 0 0, .slice fA nf fc, .map (some bm), .slice (some ⟨gb, 0, none⟩) 0 0, ptrV hb, .slice A n c, iV fuel, .slice none 0 0, iV 0, iV 0, iV 0, iV 0, .slice none 0 0, iV 0] 66)) := Gr.al _ _
        have hez := blk_alloc wd (.cells #[.slice none 0 0, .slice none 0 0, .slice fA nf fc, .map (some bm), .slice (some ⟨gb, 0, none⟩) 0 0, ptrV hb, .slice A n c, iV fuel, .slice none 0 0, iV 0, iV 0, iV 0, iV 0, .slice none 0 0, iV 0] 66)
        refine hK.out _ _ (HSO.out _ (hgwd.trans hkz)) (fun hS => ?_)
        (try simp only [Act.put, List.setIfInBounds_toArray, List.set_cons_zero, List.set_cons_succ])
        refine wpAnyH_take (i := 13) (v := ?_) rfl (by kernel_rfl) (by kernel_rfl) (by kernel_rfl) (fun _ _ _ h => h) (Or.inl ⟨by rfl, ?_⟩) hS ?_
        rotate_left
        · intro w' hSw; (try dsimp only at hSw); go_simp; try with_reducible rfl
        (try simp only [List.getElem_toArray, List.getElem_cons_succ, List.getElem_cons_zero, Act.put, List.setIfInBounds_toArray, List.set_cons_zero, List.set_cons_succ])
        refine wpAnyH_done (by kernel_rfl) ?_ _
        go_wp2_with fail
        go_meet
        exact ⟨wd.heap.size, bm, hb, _, rfl, hgwd.trans hkz, hgwd.size, hbm0, hlb0, by omega, by omega, hez, hmz.gr hkz, hkz.blk hbz⟩
  case rest =>
    obtain ⟨mb, bm, hb, gl, rfl, hgc, hmb0, hbm0, hhb0, hne1, hne2, hM, hMAP, hHB⟩ := hcut
    have hGc := hG2.trans hgc
    have hsz2 := hG2.size
    have HNc := Lib.hid (hgc.blk HN2.out)
    have HRc := Lib.hid (hgc.blk HR2.out)
    have HM := Lib.hid hM
    have HMAP := Lib.hid hMAP
    have HHB := Lib.hid hHB
    have HGc := Lib.hid hGc
    have HTc := Lib.hid (HT2.out.gr hgc)
    have hml := blkLt hM
    have hbml := hMAP.lt
    have hhl := blkLt hHB
    have nc := cellAt HNc.out (i := 0) rfl
    have hks := blkLt HNc.out
    have HKS := Lib.hid (fun w' (hg : Gr wc w') => Kids_any (nodeV b) (some (.mk d [.mk dm [body]])) _ w' ⟨b, rfl, HTc.out.gr hg⟩)
    rw [show (kidsO (some (T.mk d [T.mk dm [body]]))).length = 1 from rfl] at HKS
    clear hM hMAP hHB hgc hGc HI2 i0 i1 i2 HR2 HN2 HT2
    go_wp2_with fail
    refine (HKS.out _ (Gr.refl _)).mono ?_
    rintro e w4 ⟨rfl, hg4⟩
    have HG4 := Lib.hid (HGc.out.trans hg4)
    have HN4 := Lib.hid (hg4.blk HNc.out)
    have HR4 := Lib.hid (hg4.blk HRc.out)
    have HM4 := Lib.hid (hg4.blk HM.out)
    have HMAP4 := Lib.hid (HMAP.out.gr hg4)
    have HHB4 := Lib.hid (hg4.blk HHB.out)
    have HT4 := Lib.hid (HTc.out.gr hg4)
    have hs4 := hg4.size
    clear hg4 HGc HNc HRc HM HMAP HHB HTc HKS nc
    go_wp2_with fail
    go_loopw [49] (fun t wr => (t = .int .i64 0 ∧ wr = w4) ∨ (t = .int .i64 1 ∧ Hid (Gr w wr ∧ wr.heap[w.heap.size]? = some (.cells #[.slice none 0 0, iV 0, iV 0, iV 0, iV 0] 25 (0, 0)) ∧
      wr.heap[mb]? = some (.cells #[.slice none 0 0, .slice none 0 0, .slice fA nf fc, .map (some bm), gl, ptrV hb, .slice A n c, iV fuel, .slice none 0 0, iV 0, iV 0, iV 0, iV 0, .slice none 0 0, iV 0] 66 (0, 0)) ∧
      wr.heap[hb]? = some (.cells #[.slice none 0 0, .slice none 0 0] 88 (0, 0)) ∧ ∃ fb, MapAt encS wr bm [(xMain, nodeV fb)] ∧ TreeAt wr (fun k => k ≠ mb) fb (.mk dm [body])))) (fun t _ => 1 - (intOf t).toNat)
    case atStart => exact .inl ⟨rfl, rfl⟩
    case round =>
      rcases hrel with ⟨rfl, rfl⟩ | ⟨rfl, hD⟩
      · have n4 := cellAt HN4.out (i := 0) rfl
        have hl8 := blkLt HN4.out
        have HKD := Lib.hid (fun w' (hg : Gr wr w') => Kid_some b (.mk d [.mk dm [body]]) _ 0 (by decide) (.mk dm [body]) rfl w' (HT4.out.gr hg))
        have HOP := Lib.hid (fun b' w' (ht : TreeAt w' (fun k => k < k8) b' (.mk dm [body])) => Op_any (nodeV b') (some (.mk dm [body])) _ w' ⟨b', rfl, ht⟩)
        have HNM := Lib.hid (fun b' w' (ht : TreeAt w' (fun k => k < k8) b' (.mk dm [body])) => Name_any (nodeV b') (some (.mk dm [body])) _ w' ⟨b', rfl, ht⟩)
        rw [show (dO (some (T.mk dm [body]))).op = 4 from hop] at HOP
        rw [show (dO (some (T.mk dm [body]))).name = xMain from hnm] at HNM
        go_wp2_with fail
        refine (HKD.out _ (Gr.refl _)).mono ?_
        rintro e w5 ⟨b5, rfl, ht5, hg5⟩
        go_wp2_with fail
        refine (HOP.out b5 w5 (ht5.gr hg5)).mono ?_
        rintro e w6 ⟨rfl, hg6⟩
        have hg56 := hg5.trans hg6
        have n6 := cellAt (hg56.blk HN4.out) (i := 0) rfl
        have m6 : w6.cell? ⟨mb, 3, none⟩ = some (.map (some bm)) := cellAt' (hg56.blk HM4.out) rfl
        have hl6 := blkLt (hg56.blk HN4.out)
        have hlm6 := blkLt (hg56.blk HM4.out)
        clear n4 hl8 hg5 hg6 ht5
        go_wp2_with fail
        refine wp_region_held_drew (S := fun w' => w'.cell? ⟨k8, 0, none⟩ = some (ptrV b) ∧ w'.cell? ⟨mb, 3, none⟩ = some (.map (some bm))) rfl ⟨n6, m6⟩ (fun hS => ?_)
        refine wpAnyH_take (i := 0) (v := ?_) rfl (by kernel_rfl) (by kernel_rfl) (by kernel_rfl) (fun _ _ _ h => h) (Or.inl ⟨by rfl, ?_⟩) hS ?_
        rotate_left
        · intro w' hSw; (try dsimp only at hSw); go_simp; try with_reducible rfl
        (try simp only [List.getElem_toArray, List.getElem_cons_succ, List.getElem_cons_zero, Act.put, List.setIfInBounds_toArray, List.set_cons_zero, List.set_cons_succ])
        refine wpAnyH_take (i := 1) (v := ?_) rfl (by kernel_rfl) (by kernel_rfl) (by kernel_rfl) (fun _ _ _ h => h) (Or.inl ⟨by rfl, ?_⟩) hS ?_
        rotate_left
        · intro w' hSw; (try dsimp only at hSw); go_simp; try with_reducible rfl
        (try simp only [List.getElem_toArray, List.getElem_cons_succ, List.getElem_cons_zero, Act.put, List.setIfInBounds_toArray, List.set_cons_zero, List.set_cons_succ])
        refine wpAnyH_take (i := 2) (v := ?_) rfl (by kernel_rfl) (by kernel_rfl) (by kernel_rfl) (fun _ _ _ h => h) (Or.inl ⟨by rfl, ?_⟩) hS ?_
        rotate_left
        · intro w' hSw; (try dsimp only at hSw); go_simp; try with_reducible rfl
        (try simp only [List.getElem_toArray, List.getElem_cons_succ, List.getElem_cons_zero, Act.put, List.setIfInBounds_toArray, List.set_cons_zero, List.set_cons_succ])
        refine wpAnyH_take (i := 3) (v := ?_) rfl (by kernel_rfl) (by kernel_rfl) (by kernel_rfl) (fun _ _ _ h => h) (Or.inl ⟨by rfl, ?_⟩) hS ?_
        rotate_left
        · intro w' hSw; (try dsimp only at hSw); go_simp; try with_reducible rfl
        (try simp only [List.getElem_toArray, List.getElem_cons_succ, List.getElem_cons_zero, Act.put, List.setIfInBounds_toArray, List.set_cons_zero, List.set_cons_succ])
        refine wpAnyH_take (i := 4) (v := ?_) rfl (by kernel_rfl) (by kernel_rfl) (by kernel_rfl) (fun _ _ _ h => h) (Or.inl ⟨by rfl, ?_⟩) hS ?_
        rotate_left
        · intro w' hSw; (try dsimp only at hSw); go_simp; try with_reducible rfl
        (try simp only [List.getElem_toArray, List.getElem_cons_succ, List.getElem_cons_zero, Act.put, List.setIfInBounds_toArray, List.set_cons_zero, List.set_cons_succ])
        refine wpAnyH_take (i := 5) (v := ?_) rfl (by kernel_rfl) (by kernel_rfl) (by kernel_rfl) (fun _ _ _ h => h) (Or.inl ⟨by rfl, ?_⟩) hS ?_
        rotate_left
        · intro w' hSw; (try dsimp only at hSw); go_simp; try with_reducible rfl
        (try simp only [List.getElem_toArray, List.getElem_cons_succ, List.getElem_cons_zero, Act.put, List.setIfInBounds_toArray, List.set_cons_zero, List.set_cons_succ])
        refine wpAnyH_take (i := 8) (v := ?_) rfl (by kernel_rfl) (by kernel_rfl) (by kernel_rfl) (fun _ _ _ h => h) (Or.inl ⟨by rfl, ?_⟩) hS ?_
        rotate_left
        · intro w' hSw; (try dsimp only at hSw); go_simp; try with_reducible rfl
        (try simp only [List.getElem_toArray, List.getElem_cons_succ, List.getElem_cons_zero, Act.put, List.setIfInBounds_toArray, List.set_cons_zero, List.set_cons_succ])
        refine wpAnyH_take (i := 9) (v := ?_) rfl (by kernel_rfl) (by kernel_rfl) (by kernel_rfl) (fun _ _ _ h => h) (Or.inl ⟨by rfl, ?_⟩) hS ?_
        rotate_left
        · intro w' hSw; (try dsimp only at hSw); go_simp; try with_reducible rfl
        (try simp only [List.getElem_toArray, List.getElem_cons_succ, List.getElem_cons_zero, Act.put, List.setIfInBounds_toArray, List.set_cons_zero, List.set_cons_succ])
        refine wpAnyH_ready (rs := [6]) (by kernel_rfl) (by simp) ?_
        refine AllReadyH.cons rfl (fun K' hK => ?_) AllReadyH.nil
        simp only [List.getElem_toArray, List.getElem_cons_succ, List.getElem_cons_zero]
        go_simp
        refine (HKD.out _ hg56.drew).mono ?_
        rintro e w7 ⟨b7, rfl, ht7, hg7⟩
        have hG7 := hg56.drew.trans hg7
        refine hK.out _ _ ⟨cellAt (hG7.blk HN4.out) rfl, cellAt' (hG7.blk HM4.out) rfl⟩ (fun hS => ?_)
        (try simp only [Act.put, List.setIfInBounds_toArray, List.set_cons_zero, List.set_cons_succ])
        refine wpAnyH_ready (rs := [7]) (by kernel_rfl) (by simp) ?_
        refine AllReadyH.cons rfl (fun K' hK => ?_) AllReadyH.nil
        simp only [List.getElem_toArray, List.getElem_cons_succ, List.getElem_cons_zero]
        go_simp
        refine (HNM.out b7 w7 (ht7.gr hg7)).mono ?_
        rintro e w8 ⟨rfl, hg8⟩
        have hG8 := hG7.trans hg8
        refine hK.out _ _ ⟨cellAt (hG8.blk HN4.out) rfl, cellAt' (hG8.blk HM4.out) rfl⟩ (fun hS => ?_)
        (try simp only [Act.put, List.setIfInBounds_toArray, List.set_cons_zero, List.set_cons_succ])
        refine wpAnyH_ready (rs := [10]) (by kernel_rfl) (by simp) ?_
        refine AllReadyH.cons rfl (fun K' hK => ?_) AllReadyH.nil
        simp only [List.getElem_toArray, List.getElem_cons_succ, List.getElem_cons_zero]
        go_simp
        refine (HKD.out _ hG8).mono ?_
        rintro e w9 ⟨b9, rfl, ht9, hg9⟩
        have hG9 := hG8.trans hg9
        obtain ⟨wz, hrun, hmz, hgz⟩ := run_put keyS Tryz.underlying60 Tryz.underlying9 (HMAP4.out.gr hG9) xMain (nodeV b9)
        replace hrun : (Instr.mapUpdate 60 (.map (some bm)) (.string (S xMain)) (nodeV b9)).run Tryz.prog w9 = .ok () wz := hrun
        refine hK.out _ _ ⟨cellAt (hG9.blk HN4.out) rfl, cellAt' (hG9.blk HM4.out) rfl⟩ (fun hS => ?_)
        (try simp only [Act.put, List.setIfInBounds_toArray, List.set_cons_zero, List.set_cons_succ])
        refine wpAnyH_ready (rs := [11]) (by kernel_rfl) (by simp) ?_
        refine AllReadyH.cons rfl (fun K' hK => ?_) AllReadyH.nil
        simp only [List.getElem_toArray, List.getElem_cons_succ, List.getElem_cons_zero]
        go_simp
        have hne : ∀ {k : Nat} {o : Obj}, w9.heap[k]? = some o → k ≠ bm → wz.heap[k]? = some o := fun h hn => grownC_blk hgz h (fun j e => by injection e with e; omega)
        have NZ := hne (hG9.blk HN4.out) (by omega)
        have MZ := hne (hG9.blk HM4.out) (by omega)
        have HDZ : Hid (Gr w wz ∧ wz.heap[w.heap.size]? = some (.cells #[.slice none 0 0, iV 0, iV 0, iV 0, iV 0] 25 (0, 0)) ∧
            wz.heap[mb]? = some (.cells #[.slice none 0 0, .slice none 0 0, .slice fA nf fc, .map (some bm), gl, ptrV hb, .slice A n c, iV fuel, .slice none 0 0, iV 0, iV 0, iV 0, iV 0, .slice none 0 0, iV 0] 66 (0, 0)) ∧
            wz.heap[hb]? = some (.cells #[.slice none 0 0, .slice none 0 0] 88 (0, 0)) ∧ ∃ fb, MapAt encS wz bm [(xMain, nodeV fb)] ∧ TreeAt wz (fun k => k ≠ mb) fb (.mk dm [body])) :=
          ⟨(HG4.out.trans hG9).grown hgz (fun k e => by injection e with e; omega), hne (hG9.blk HR4.out) (by omega), MZ, hne (hG9.blk HHB4.out) (by
            intro e
            have h1 := hG9.blk HHB4.out
            obtain ⟨_, _, h2, _⟩ := HMAP4.out.gr hG9
            rw [e, h2] at h1
            cases h1), b9, hmz, ((ht9.gr hg9).frame fun k hk _ => hgz.block k (by have := hG9.size; omega) (fun e => by injection e with e; omega)).imp fun k _ hk => by omega⟩
        refine hK.out _ _ ⟨cellAt NZ rfl, cellAt' MZ rfl⟩ (fun hS => ?_)
        (try simp only [Act.put, List.setIfInBounds_toArray, List.set_cons_zero, List.set_cons_succ])
        refine wpAnyH_done (by kernel_rfl) ?_ _
        clear hK hS hrun hmz hgz hne NZ MZ ht7 ht9 hg7 hg8 hg9 hG7 hG8 hG9 hg56 n6 m6
        go_wp2_with fail
        go_roundw
        case rel => exact .inr ⟨by first | rfl | go_num, HDZ⟩
        case measure => simp [intOf]
      · obtain ⟨hGw, hRw, hMw, hHw, fb, hMP, hTf⟩ := hD.out
        have hne3 : bm ≠ mb := hne1
        obtain ⟨K, hK⟩ : ∃ K : WK, K = ⟨mb, .slice none 0 0, .slice none 0 0, .slice fA nf fc, .map (some bm), gl, ptrV hb, .slice none 0 0, fun k => k ≠ mb, fun _ h => h⟩ := ⟨_, rfl⟩
        have hA : MAt K ⟨inp, fuel, [], 0⟩ wr := by
          rw [hK]
          refine ⟨A, c, none, 0, ?_, ?_, .inl rfl, ⟨fun _ => ⟨rfl, rfl⟩, Nat.le_refl _⟩, by show 0 + fuel ≤ 70000; omega, by show inp.length ≤ c; rw [HN.out]; exact hic, by show inp.length < 1000000; rw [HN.out]; exact hil⟩
          · show wr.heap[mb]? = some (.cells #[_, _, _, _, _, _, .slice A inp.length c, _, _, _, _, _, _, _, _] _ _)
            rw [HN.out]
            exact hMw
          · exact (HROW.out.imp fun k hk _ => by show k ≠ mb; omega).gr hGw
        have hbad : R ≠ .bad := by
          intro e
          have := HRE.out
          rw [e] at this
          cases this
        have HRUN := Lib.hid (wrun_any k K ⟨inp, fuel, [], 0⟩ wr hA bm fb (by rw [hK]) hMP (by rw [hK]; exact hne3) dm body (by rw [hK]; exact hTf) hbl R HRR.out hbad)
        rw [show K.mb = mb by rw [hK]] at HRUN
        have HK := Lib.hid hK
        have HRw := Lib.hid hRw
        have HHw := Lib.hid hHw
        have HGw := Lib.hid hGw
        clear hGw hRw hMw hHw hMP hTf hA hK hD
        go_wp2_with fail
        refine (HRUN.out).mono ?_
        rintro e w5 ⟨rfl, hm5, hres⟩
        have hF : FAt K r.en r.fa r.m w5 ∧ r.er = 0 := by
          have h1 := HRE.out
          cases R with
          | ok u m' => injection h1 with h1; subst h1; exact ⟨hres, rfl⟩
          | stop e c m' => injection h1 with h1; subst h1; exact ⟨hres, rfl⟩
          | bad => cases h1
        have hKm : K.mb = mb := by rw [HK.out]
        rw [hKm] at hm5
        obtain ⟨⟨A5, c5, oA, oc, vs, hb5, hro, hoc⟩, her⟩ := hF
        obtain ⟨m, en, fa, er⟩ := r
        simp only [] at hb5 hro hoc her
        subst her
        rw [HK.out] at hb5 hro
        simp only [] at hb5 hro
        obtain ⟨ln, hln⟩ : ∃ ln, m.out.length = ln := ⟨_, rfl⟩
        obtain ⟨st, hst⟩ : ∃ st, m.steps = st := ⟨_, rfl⟩
        rw [hln, hst] at hb5
        rw [hln] at hoc
        have R5 := hm5.blk HRw.out (by omega)
        have H5 := hm5.blk HHw.out hne2
        have hG5 : Gr w w5 := Gr.grown HGw.out hm5 (fun k e => by injection e with e; omega)
        have x5 : w5.cell? ⟨mb, 5, none⟩ = some (ptrV hb) := cellAt' hb5 rfl
        have hlm := blkLt hb5
        have HB5 := Lib.hid hb5
        have HO5 := Lib.hid hro
        have HLN := Lib.hid hln
        have HST := Lib.hid hst
        clear hres hm5 hb5 hro hln hst
        go_wp2_with fail
        refine (HLen_nil hb w5 H5).mono ?_
        rintro e w6 ⟨rfl, hg6⟩
        have hG6 := hG5.trans hg6
        have M6 := hg6.blk HB5.out
        have R6 := hg6.blk R5
        have HO6 := Lib.hid (HO5.out.gr hg6)
        have x12 : w6.cell? ⟨mb, 12, none⟩ = some (iV 0) := cellAt' M6 rfl
        have f6 := frozenAt M6
        have hlm6 := blkLt M6
        have HM6 := Lib.hid M6
        have HR6 := Lib.hid R6
        clear M6 R6 R5 H5 hg6 x5
        go_upto_region 15 with fail
        have M7 := blk_setCell_to (i := 12) (v := iV 0) HM6.out rfl
        have R7 : (w6.setCell ⟨mb, 12, none⟩ (iV 0)).heap[w.heap.size]? = _ := blk_setCell_ne HR6.out (by simp; omega)
        have hG7 := hG6.setCell (p := ⟨mb, 12, none⟩) (by simp; omega) (iV 0)
        have HO7 := Lib.hid (HO6.out.frame (w' := w6.setCell ⟨mb, 12, none⟩ (iV 0)) fun k hk _ => frame_own (Nat.ne_of_gt hk))
        generalize w6.setCell ⟨mb, 12, none⟩ (iV 0) = w7 at *
        have y8 : w7.cell? ⟨mb, 8, none⟩ = some (.slice oA ln oc) := cellAt' M7 rfl
        have y9 : w7.cell? ⟨mb, 9, none⟩ = some (iV en) := cellAt' M7 rfl
        have y10 : w7.cell? ⟨mb, 10, none⟩ = some (iV fa) := cellAt' M7 rfl
        have y11 : w7.cell? ⟨mb, 11, none⟩ = some (iV st) := cellAt' M7 rfl
        have y12 : w7.cell? ⟨mb, 12, none⟩ = some (iV 0) := cellAt' M7 rfl
        have r0 := cellAt R7 (i := 0) rfl
        have r1 := cellAt R7 (i := 1) rfl
        have r2 := cellAt R7 (i := 2) rfl
        have r3 := cellAt R7 (i := 3) rfl
        have r4 := cellAt R7 (i := 4) rfl
        have fr := frozenAt R7
        have hl7 := blkLt R7
        have hl7m := blkLt M7
        clear HM6 HR6 x12 f6 M7
        go_wp2_with fail
        have RZ : (((((w7.setCell ⟨w.heap.size, 0, none⟩ (.slice oA ln oc)).setCell ⟨w.heap.size, 1, none⟩ (iV en)).setCell ⟨w.heap.size, 2, none⟩ (iV fa)).setCell ⟨w.heap.size, 3, none⟩ (iV st)).setCell ⟨w.heap.size, 4, none⟩ (iV 0)).heap[w.heap.size]? = some (.cells #[.slice oA ln oc, iV en, iV fa, iV st, iV 0] 25 (0, 0)) := blk_setCell_to (blk_setCell_to (blk_setCell_to (blk_setCell_to (blk_setCell_to R7 rfl) rfl) rfl) rfl) rfl
        have hGZ := ((((hG7.setCell (p := ⟨w.heap.size, 0, none⟩) (Nat.le_refl _) (.slice oA ln oc)).setCell (p := ⟨w.heap.size, 1, none⟩) (Nat.le_refl _) (iV en)).setCell (p := ⟨w.heap.size, 2, none⟩) (Nat.le_refl _) (iV fa)).setCell (p := ⟨w.heap.size, 3, none⟩) (Nat.le_refl _) (iV st)).setCell (p := ⟨w.heap.size, 4, none⟩) (Nat.le_refl _) (iV 0)
        have HOZ : RowR (((((w7.setCell ⟨w.heap.size, 0, none⟩ (.slice oA ln oc)).setCell ⟨w.heap.size, 1, none⟩ (iV en)).setCell ⟨w.heap.size, 2, none⟩ (iV fa)).setCell ⟨w.heap.size, 3, none⟩ (iV st)).setCell ⟨w.heap.size, 4, none⟩ (iV 0)) (fun k => mb < k) oA (m.out.map iV) :=
          HO7.out.frame fun k hk _ => by
            have hk : mb < k := hk
            have e : k ≠ w.heap.size := by omega
            rw [frame_own e, frame_own e, frame_own e, frame_own e, frame_own e]
        generalize ((((w7.setCell ⟨w.heap.size, 0, none⟩ (.slice oA ln oc)).setCell ⟨w.heap.size, 1, none⟩ (iV en)).setCell ⟨w.heap.size, 2, none⟩ (iV fa)).setCell ⟨w.heap.size, 3, none⟩ (iV st)).setCell ⟨w.heap.size, 4, none⟩ (iV 0) = wz at *
        have z0 := cellAt RZ (i := 0) rfl
        have z1 := cellAt RZ (i := 1) rfl
        have z2 := cellAt RZ (i := 2) rfl
        have z3 := cellAt RZ (i := 3) rfl
        have z4 := cellAt RZ (i := 4) rfl
        have e1 := HLN.out
        have e2 := HST.out
        refine bodyPost_ret (v := .tuple #[.agg #[.slice oA ln oc, iV en, iV fa, iV st, iV 0], iV 0]) (by simp [results, Tryz.results15, go_sem, z0, z1, z2, z3, z4]) rfl ⟨hGZ, oA, oc, ?_, ?_, ?_⟩
        · show Ending.returned _ = Ending.returned (.tuple #[.agg #[.slice oA m.out.length oc, iV en, iV fa, iV m.steps, iV 0], iV 0])
          rw [e1, e2]
        · exact HOZ.imp fun k _ hk => by omega
        · show m.out.length ≤ oc
          omega
end Go.Proofs.YthniejnbkkkbnaaGreatDoor
