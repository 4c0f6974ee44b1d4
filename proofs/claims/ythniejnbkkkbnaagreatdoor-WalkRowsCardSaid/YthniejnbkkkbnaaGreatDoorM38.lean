/- Walks of layer parse: an if. -/
import Derived.Test.YthniejnbkkkbnaaGreatDoorM27
import Derived.Test.YthniejnbkkkbnaaGreatDoorM37
set_option linter.all false
set_option linter.unusedSimpArgs false
set_option linter.unusedVariables false
namespace Go.Proofs.YthniejnbkkkbnaaGreatDoor
open Go.RowKit
set_option maxRecDepth 100000
set_option maxHeartbeats 8000000
attribute [local go_sem ↓] Go.wp_at_zero Go.wp_at_succ

theorem branch_any (k : Nat) (ih : SAt k) (ie : EAt k) (K : PK) (p d : Nat) (w : World) (h : Ctx K p d w) (hd : d ≤ 40) (r : PR T) (hr : branchP K.L K.E (k + 1) d p = some r) :
    Calls Tryz.prog 256 #[ptrV K.rb] w (PP K d w r (NewTree w)) := by
  obtain ⟨i0, hi0, hz0, hz1, hz2⟩ := info_parts info_node
  have HC := Lib.hid h
  have hrb := h.lt
  have hB := h.hB
  unfold branchP at hr
  obtain ⟨y0, hy0, hr⟩ := pbind_some hr
  have HE0 := Lib.hid (fun w1 (hc : Ctx K p d w1) => expect_any K p d ⟨#[105, 102]⟩ w1 hc y0 hy0)
  clear h hy0
  go_enter Tryz.func256, Tryz.ntmps256
  go_wp2_with fail
  refine (HE0.out _ (HC.out.alloc _)).mono ?_
  rintro e w1c ⟨hm1c, hres⟩
  cases y0 with
  | err a er =>
    subst hr hres
    exact ⟨rfl, ((Md.refl _ _).alloc _).trans hm1c, rfl⟩
  | ok at_ p1 =>
   obtain ⟨v, rfl, rfl, hc1c⟩ := hres
   obtain ⟨y, hy, hr⟩ := pbind_some hr
   have HX := Lib.hid (fun w1 (hc : Ctx K p1 d w1) => ie.expr K 1 p1 d w1 hc hd (by decide) (by decide) y hy)
   have R1c := hm1c.blk (blk_alloc _ _) (show w.heap.size ≠ K.rb by omega)
   have hM1c : Md K.rb w w1c := ((Md.refl _ _).alloc _).trans hm1c
   have hz1c := blkLt R1c
   clear hm1c hy
   go_wp2_with fail
   refine (HX.out _ hc1c).mono ?_
   rintro e w1d ⟨hm1d, hres⟩
   cases y with
   | err a er =>
     subst hr hres
     exact ⟨rfl, hM1c.trans hm1d, rfl⟩
   | ok x p2 =>
     obtain ⟨v, rfl, ⟨b0, rfl, hx⟩, hc1d⟩ := hres
     obtain ⟨y, hy, hr⟩ := pbind_some hr
     have R1d := hm1d.blk R1c (by omega)
     have hM1d := hM1c.trans hm1d
     have hz1d := hm1d.size
     clear hm1d R1c
     go_wp2_with fail
     refine (plain_any 10 at_ _ _ _ _).mono ?_
     rintro e w2 ⟨bn, rfl, hnb, hnd, hng⟩
     rw [World.size_alloc] at hnb
     have hs2 := hng.size
     rw [World.size_alloc] at hs2
     have hbn := blkLt hnd
     have hbR : bn ≠ K.rb := by omega
     have hcR : w2.heap.size ≠ K.rb := by omega
     have HKid : Hid (KidsP (fun k => w.heap.size < k ∧ k ≠ w2.heap.size ∧ k ≠ bn) w2 (.slice (some ⟨w1d.heap.size, 0, none⟩) 1 1) [x] [b0]) :=
       (KidsP.lit ⟨by omega, by omega, by omega⟩ (hx.imp fun k hk h => ⟨by omega, by omega, by omega⟩)).gr hng
     have R2 := hng.blk (blk_alloc_lt (o' := .cells #[ptrV b0] 53) R1d)
     have hc2 := (hc1d.alloc (.cells #[ptrV b0] 53)).gr hng
     have hM2 := (hM1d.alloc (.cells #[ptrV b0] 53)).trans (.of_gr hng)
     have HND := Lib.hid hnd
     clear hng R1d hx hnd
     have HE := Lib.hid (fun w1 (hc : Ctx K p2 d w1) => ih.block K p2 d w1 hc hd y hy)
     have HL := Lib.hid hr
     clear hy hr
     go_wp2_with fail
     have Na := blk_alloc w2 (.cells #[ptrV bn] 53)
     have Da := blk_alloc_lt (o' := .cells #[ptrV bn] 53) HND.out
     have HRa := Lib.hid (blk_alloc_lt (o' := .cells #[ptrV bn] 53) R2)
     have HKa := Lib.hid (HKid.out.gr (Gr.al w2 (.cells #[ptrV bn] 53)))
     have hca := hc2.alloc (.cells #[ptrV bn] 53)
     have hMa := hM2.alloc (.cells #[ptrV bn] 53)
     have hsa : (w2.alloc (.cells #[ptrV bn] 53)).heap.size = w2.heap.size + 1 := by simp
     generalize hwa : w2.alloc (.cells #[ptrV bn] 53) = wa at *
     generalize hkv : Value.slice (some ⟨w1d.heap.size, 0, none⟩) 1 1 = kv at *
     have na := cellAt Na (i := 0) rfl
     have da := cellAt Da (i := 5) rfl
     have fa := frozenAt Da
     have HNa := Lib.hid Na
     have HDa := Lib.hid Da
     clear Na Da HKid HND R2
     generalize hks : [x] = ks at HKa
     generalize hbs : [b0] = bs at HKa
     have hkl : ks.length ≤ 1 := by rw [← hks]; exact Nat.le_refl _
     cases y with
     | err a er =>
       have hL2 := HL.out
       simp only [] at hL2
       subst hL2
       refine wp_region_held_drew (S := fun w' => w'.cell? ⟨w2.heap.size, 0, none⟩ = some (ptrV bn)) rfl na (fun hS => ?_)
       refine wpAnyH_take (i := 0) (v := ?_) rfl (by kernel_rfl) (by kernel_rfl) (by kernel_rfl) (fun _ _ _ h => h) (Or.inl ⟨by rfl, ?_⟩) hS ?_
       rotate_left
       · intro w' hSw; (try dsimp only at hSw); go_simp; try with_reducible rfl
       (try simp only [Act.put, List.setIfInBounds_toArray, List.set_cons_zero, List.set_cons_succ])
       refine wpAnyH_take (i := 1) (v := ?_) rfl (by kernel_rfl) (by kernel_rfl) (by kernel_rfl) (fun _ _ _ h => h) (Or.inl ⟨by rfl, ?_⟩) hS ?_
       rotate_left
       · intro w' hSw; (try dsimp only at hSw); go_simp; try with_reducible rfl
       (try simp only [Act.put, List.setIfInBounds_toArray, List.set_cons_zero, List.set_cons_succ])
       refine wpAnyH_take (i := 2) (v := ?_) rfl (by kernel_rfl) (by kernel_rfl) (by kernel_rfl) (fun _ _ _ h => h) (Or.inl ⟨by rfl, ?_⟩) hS ?_
       rotate_left
       · intro w' hSw; (try dsimp only at hSw); go_simp; try with_reducible rfl
       (try simp only [Act.put, List.setIfInBounds_toArray, List.set_cons_zero, List.set_cons_succ])
       refine wpAnyH_take (i := 3) (v := ?_) rfl (by kernel_rfl) (by kernel_rfl) (by kernel_rfl) (fun _ _ _ h => h) (Or.inl ⟨by rfl, ?_⟩) hS ?_
       rotate_left
       · intro w' hSw; (try dsimp only at hSw); go_simp; try with_reducible rfl
       (try simp only [Act.put, List.setIfInBounds_toArray, List.set_cons_zero, List.set_cons_succ])
       refine wpAnyH_take (i := 4) (v := ?_) rfl (by kernel_rfl) (by kernel_rfl) (by kernel_rfl) (fun _ _ _ h => h) (Or.inl ⟨by rfl, ?_⟩) hS ?_
       rotate_left
       · intro w' hSw; (try dsimp only at hSw); go_simp; try with_reducible rfl
       (try simp only [Act.put, List.setIfInBounds_toArray, List.set_cons_zero, List.set_cons_succ])
       refine wpAnyH_take (i := 5) (v := ?_) rfl (by kernel_rfl) (by kernel_rfl) (by kernel_rfl) (fun _ _ _ h => h) (Or.inl ⟨by rfl, ?_⟩) hS ?_
       rotate_left
       · intro w' hSw; (try dsimp only at hSw); go_simp; try with_reducible rfl
       (try simp only [Act.put, List.setIfInBounds_toArray, List.set_cons_zero, List.set_cons_succ])
       refine wpAnyH_take (i := 7) (v := ?_) rfl (by kernel_rfl) (by kernel_rfl) (by kernel_rfl) (fun _ _ _ h => h) (Or.inl ⟨by rfl, ?_⟩) hS ?_
       rotate_left
       · intro w' hSw; (try dsimp only at hSw); go_simp; try with_reducible rfl
       (try simp only [Act.put, List.setIfInBounds_toArray, List.set_cons_zero, List.set_cons_succ])
       refine wpAnyH_ready (rs := [6, 8]) (by kernel_rfl) (by simp) ?_
       refine AllReadyH.cons rfl (fun K' hK => ?_) (AllReadyH.cons rfl (fun K' hK => ?_) AllReadyH.nil)
       · simp only [List.getElem_toArray, List.getElem_cons_succ, List.getElem_cons_zero]
         go_simp
         refine hK.out _ _ na (fun hS => ?_)
         (try simp only [Act.put, List.setIfInBounds_toArray, List.set_cons_zero, List.set_cons_succ])
         refine wpAnyH_ready (rs := [8]) (by kernel_rfl) (by simp) ?_
         refine AllReadyH.cons rfl (fun K' hK => ?_) AllReadyH.nil
         simp only [List.getElem_toArray, List.getElem_cons_succ, List.getElem_cons_zero]
         go_simp
         refine (HE.out _ (by first | exact hca | exact hca.drew)).mono ?_
         rintro e wd ⟨hmd, rfl⟩
         exact ⟨rfl, Md.trans (by first | exact hMa | exact hMa.drew) hmd, rfl⟩
       · simp only [List.getElem_toArray, List.getElem_cons_succ, List.getElem_cons_zero]
         go_simp
         refine (HE.out _ (by first | exact hca | exact hca.drew)).mono ?_
         rintro e wd ⟨hmd, rfl⟩
         exact ⟨rfl, Md.trans (by first | exact hMa | exact hMa.drew) hmd, rfl⟩
     | ok x3 p3 =>
       have hL2 := HL.out
       simp only [] at hL2
       have HL2 := Lib.hid hL2
       clear hL2 HL
       go_upto_region 3 with fail
       go_cut [] from 13 to 27 (fun wx => ∃ bs' kv', Ctx K p3 d wx ∧ Md K.rb w wx ∧ wx.heap[w.heap.size]? = some (.cells #[.pointer none] 53 (0, 0)) ∧ wx.heap[w2.heap.size]? = some (.cells #[ptrV bn] 53 (0, 0)) ∧
         wx.heap[bn]? = some (.cells #[.int .i64 10, .string (S []), .string (S []), .int .i64 0, .int .i64 at_, kv'] 96 (0, 0)) ∧ KidsP (fun k => w.heap.size < k ∧ k ≠ w2.heap.size ∧ k ≠ bn) wx kv' (ks ++ [x3]) bs')
       case first =>
         refine wp_region_K 13 (S := fun w' => w'.cell? ⟨w2.heap.size, 0, none⟩ = some (ptrV bn) ∧ w'.cell? ⟨bn, 5, none⟩ = some kv) rfl ⟨na, da⟩ (fun hS => ?_)
         refine wpAnyK_take (i := 0) (v := ?_) rfl (by kernel_rfl) (by kernel_rfl) (by kernel_rfl) (by kernel_rfl) (fun _ _ _ h => h) (Or.inl ⟨by rfl, ?_⟩) hS ?_
         rotate_left
         · intro w' hSw; (try dsimp only at hSw); go_simp; try with_reducible rfl
         (try simp only [List.getElem_toArray, List.getElem_cons_succ, List.getElem_cons_zero, Act.put, List.setIfInBounds_toArray, List.set_cons_zero, List.set_cons_succ])
         refine wpAnyK_take (i := 1) (v := ?_) rfl (by kernel_rfl) (by kernel_rfl) (by kernel_rfl) (by kernel_rfl) (fun _ _ _ h => h) (Or.inl ⟨by rfl, ?_⟩) hS ?_
         rotate_left
         · intro w' hSw; (try dsimp only at hSw); go_simp; try with_reducible rfl
         (try simp only [List.getElem_toArray, List.getElem_cons_succ, List.getElem_cons_zero, Act.put, List.setIfInBounds_toArray, List.set_cons_zero, List.set_cons_succ])
         refine wpAnyK_take (i := 2) (v := ?_) rfl (by kernel_rfl) (by kernel_rfl) (by kernel_rfl) (by kernel_rfl) (fun _ _ _ h => h) (Or.inl ⟨by rfl, ?_⟩) hS ?_
         rotate_left
         · intro w' hSw; (try dsimp only at hSw); go_simp; try with_reducible rfl
         (try simp only [List.getElem_toArray, List.getElem_cons_succ, List.getElem_cons_zero, Act.put, List.setIfInBounds_toArray, List.set_cons_zero, List.set_cons_succ])
         refine wpAnyK_take (i := 3) (v := ?_) rfl (by kernel_rfl) (by kernel_rfl) (by kernel_rfl) (by kernel_rfl) (fun _ _ _ h => h) (Or.inl ⟨by rfl, ?_⟩) hS ?_
         rotate_left
         · intro w' hSw; (try dsimp only at hSw); go_simp; try with_reducible rfl
         (try simp only [List.getElem_toArray, List.getElem_cons_succ, List.getElem_cons_zero, Act.put, List.setIfInBounds_toArray, List.set_cons_zero, List.set_cons_succ])
         refine wpAnyK_take (i := 4) (v := ?_) rfl (by kernel_rfl) (by kernel_rfl) (by kernel_rfl) (by kernel_rfl) (fun _ _ _ h => h) (Or.inl ⟨by rfl, ?_⟩) hS ?_
         rotate_left
         · intro w' hSw; (try dsimp only at hSw); go_simp; try with_reducible rfl
         (try simp only [List.getElem_toArray, List.getElem_cons_succ, List.getElem_cons_zero, Act.put, List.setIfInBounds_toArray, List.set_cons_zero, List.set_cons_succ])
         refine wpAnyK_take (i := 5) (v := ?_) rfl (by kernel_rfl) (by kernel_rfl) (by kernel_rfl) (by kernel_rfl) (fun _ _ _ h => h) (Or.inl ⟨by rfl, ?_⟩) hS ?_
         rotate_left
         · intro w' hSw; (try dsimp only at hSw); go_simp; try with_reducible rfl
         (try simp only [List.getElem_toArray, List.getElem_cons_succ, List.getElem_cons_zero, Act.put, List.setIfInBounds_toArray, List.set_cons_zero, List.set_cons_succ])
         refine wpAnyK_take (i := 6) (v := ?_) rfl (by kernel_rfl) (by kernel_rfl) (by kernel_rfl) (by kernel_rfl) (fun _ _ _ h => h) (Or.inl ⟨by rfl, ?_⟩) hS ?_
         rotate_left
         · intro w' hSw; (try dsimp only at hSw); go_simp; try with_reducible rfl
         (try simp only [List.getElem_toArray, List.getElem_cons_succ, List.getElem_cons_zero, Act.put, List.setIfInBounds_toArray, List.set_cons_zero, List.set_cons_succ])
         refine wpAnyK_take (i := 7) (v := ?_) rfl (by kernel_rfl) (by kernel_rfl) (by kernel_rfl) (by kernel_rfl) (fun _ _ _ h => h) (Or.inl ⟨by rfl, ?_⟩) hS ?_
         rotate_left
         · intro w' hSw; (try dsimp only at hSw); go_simp; try with_reducible rfl
         (try simp only [List.getElem_toArray, List.getElem_cons_succ, List.getElem_cons_zero, Act.put, List.setIfInBounds_toArray, List.set_cons_zero, List.set_cons_succ])
         refine wpAnyK_one (i := 8) (by kernel_rfl) rfl (fun K' hK => ?_)
         simp only [List.getElem_toArray, List.getElem_cons_succ, List.getElem_cons_zero]
         go_simp
         refine (HE.out _ (by first | exact hca | exact hca.drew)).mono ?_
         rintro e wd ⟨hmd, v, rfl, ⟨b3, rfl, ht3⟩, hcd⟩
         have Nd : wd.heap[w2.heap.size]? = some (.cells #[ptrV bn] 53 (0, 0)) := hmd.blk HNa.out hcR
         have Dd : wd.heap[bn]? = some (.cells #[.int .i64 10, .string (S []), .string (S []), .int .i64 0, .int .i64 at_, kv] 96 (0, 0)) := hmd.blk HDa.out hbR
         have hzd := blkLt Nd
         have hbnd := blkLt Dd
         have hsd := hmd.size
         have KD : Hid (KidsP (fun k => w.heap.size < k ∧ k ≠ w2.heap.size ∧ k ≠ bn) wd kv ks bs) := KidsP.grown (row := some K.rb) (HKa.out.gr (Gr.refl wa).drew) hmd (fun k e hP => by injection e with e; have := hP.1; omega)
         refine hK.out _ _ ⟨cellAt (Nd) rfl, cellAt (Dd) rfl⟩ (fun hS => ?_)
         (try simp only [Act.put, List.setIfInBounds_toArray, List.set_cons_zero, List.set_cons_succ])
         refine wpAnyK_one (i := 9) (by kernel_rfl) rfl (fun K' hK => ?_)
         simp only [List.getElem_toArray, List.getElem_cons_succ, List.getElem_cons_zero]
         go_simp
         refine hK.out _ _ ⟨cellAt (blk_alloc_lt Nd) rfl, cellAt (blk_alloc_lt Dd) rfl⟩ (fun hS => ?_)
         (try simp only [Act.put, List.setIfInBounds_toArray, List.set_cons_zero, List.set_cons_succ])
         refine wpAnyK_one (i := 10) (by kernel_rfl) rfl (fun K' hK => ?_)
         simp only [List.getElem_toArray, List.getElem_cons_succ, List.getElem_cons_zero]
         refine Eq.mpr (if_pos (by rfl)) ?_
         refine wp_append_lies _ _ _ _ (by rfl) 0 53 i0 _ 1 8 Tryz.underlying94 hi0 hz0 hz1 hz2 (by rfl) (by decide) kv ks.length (bs.map ptrV) (by rfl) (ownGr KD.out.own (Gr.al _ _)) ⟨wd.heap.size, 0, none⟩ 1 1 [ptrV b3] (by rfl) (by rfl) (news_ptr (blk_alloc _ _)) (one_ptr _) (by omega) (by unfold maxLen; omega) (by omega) (Nat.zero_le _) (wd.heap.size + 1) (by simp) ?_
         intro g4 cap w4 hown4 hgrow hat hlt4
         have hro : ∀ k, kv.ownBlock = some k → w.heap.size < k ∧ k ≠ w2.heap.size ∧ k ≠ bn := KD.out.pk
         have N4 : w4.heap[w2.heap.size]? = some (.cells #[ptrV bn] 53 (0, 0)) := grown_blk hgrow (blk_alloc_lt Nd) (fun j e => by have := hro j e; omega)
         have D4 : w4.heap[bn]? = some (.cells #[.int .i64 10, .string (S []), .string (S []), .int .i64 0, .int .i64 at_, kv] 96 (0, 0)) := grown_blk hgrow (blk_alloc_lt Dd) (fun j e => by have := hro j e; omega)
         have n4 := cellAt N4 (i := 0) rfl
         have d4 := cellAt D4 (i := 5) rfl
         have f4 := frozenAt D4
         refine hK.out _ _ ⟨n4, d4⟩ (fun hS => ?_)
         (try simp only [Act.put, List.setIfInBounds_toArray, List.set_cons_zero, List.set_cons_succ])
         refine wpAnyK_one (i := 11) (by kernel_rfl) rfl (fun K' hK => ?_)
         simp only [List.getElem_toArray, List.getElem_cons_succ, List.getElem_cons_zero]
         go_simp
         refine hK.out _ _ ⟨n4, d4⟩ (fun hS => ?_)
         (try simp only [Act.put, List.setIfInBounds_toArray, List.set_cons_zero, List.set_cons_succ])
         refine wpAnyK_one (i := 12) (by kernel_rfl) rfl (fun K' hK => ?_)
         simp only [List.getElem_toArray, List.getElem_cons_succ, List.getElem_cons_zero]
         go_simp
         refine hK.out _ _ ⟨n4, d4⟩ (fun hS => ?_)
         (try simp only [Act.put, List.setIfInBounds_toArray, List.set_cons_zero, List.set_cons_succ])
         refine wpAnyK_end (by kernel_rfl) rfl (by kernel_rfl) ?_
         simp only [List.getElem_toArray, List.getElem_cons_succ, List.getElem_cons_zero]
         go_simp
         clear hK hS
         all_goals
           have Rd := hmd.blk HRa.out (by omega)
           have R4 := grown_blk hgrow (blk_alloc_lt (o' := .cells #[ptrV b3] 53) Rd) (fun j e => by have := hro j e; omega)
           have hc4 := ((hcd.alloc (.cells #[ptrV b3] 53)).grown hgrow (fun k e => by have := hro k e; omega))
           have hM4 := Md.grown ((hMa.drew.trans hmd).alloc (.cells #[ptrV b3] 53)) hgrow (fun k e => by have := hro k e; omega)
           have K4 := KD.out.push (lo := wa.heap.size) (fun k hk => ⟨by omega, by omega, by omega⟩) (fun k e => (HKa.out.own.lt k e).2) (by simpa using hmd.size) (ht3.imp (fun k _ hk => by simpa using hk)) (Gr.al _ _) hown4 hgrow (by simpa using hat)
           go_wp2_with fail
           go_meet
           exact ⟨_, _, hc4.setNew (by simp; omega) (by simp; omega) _, hM4.setCell (.inl (by simp; omega)) _, blk_setCell_ne R4 (by simp; omega), blk_setCell_ne N4 (by simp; omega), blk_setCell_to D4 rfl, K4.set (by simp)⟩
       case rest =>
         obtain ⟨bs2, kv2, hcc, hMc, hRc, hNc, hDc, hKc⟩ := hcut
         have hlNc := blkLt hNc
         have hlDc := blkLt hDc
         clear na da fa
         have HRc := Lib.hid hRc
         have HNc := Lib.hid hNc
         have HDc := Lib.hid hDc
         have HKc := Lib.hid hKc
         have HAN := Lib.hid (fun hi => accept_no K p3 d ⟨#[101, 108, 115, 101]⟩ wc hcc hi)
         have HAY := Lib.hid (fun hi => accept_yes K p3 d ⟨#[101, 108, 115, 101]⟩ wc hcc hi)
         clear hRc hNc hDc hKc HKa HDa HNa HRa hca hMa
         cases hel : isP K.L K.E p3 xElse
         · have HA := Lib.hid (HAN.out hel)
           have hL3 := HL2.out
           simp only [hel, Bool.false_eq_true, if_false, Option.some.injEq] at hL3
           have HL3 := Lib.hid hL3
           clear hL3 hel HAN HAY HL2
           go_wp2_with fail
           refine HA.out.mono ?_
           rintro e wd ⟨rfl, hgd⟩
           have n5 := cellAt (hgd.blk HNc.out) (i := 0) rfl
           have r5 := cellAt (hgd.blk HRc.out) (i := 0) rfl
           have f5 := frozenAt (hgd.blk HRc.out)
           have z5 := blkLt (hgd.blk HRc.out)
           have hKd := HKc.out.gr hgd
           have Dd := hgd.blk HDc.out
           go_wp2_with fail
           refine bodyPost_ret (v := nodeV bn) (by simp [results, Tryz.results256, go_sem, r5, z5]) rfl ?_
           rw [← HL3.out]
           subst hks
           refine ⟨?_, _, rfl, ⟨bn, rfl, ?_⟩, ?_⟩
           · exact (hMc.trans (.of_gr hgd)).setCell (.inl (by simp)) _
           · exact (hKd.set (a := ⟨w.heap.size, 0, none⟩) (by simp)).tree (typ := []) (blk_setCell_ne Dd (by simp; omega)) (by omega) (fun k hk => by omega)
           · exact (hcc.gr hgd).setNew (by simp; omega) (by simp; omega) _
         · have HA := Lib.hid (HAY.out hel)
           have hL3 := HL2.out
           simp only [hel, if_true] at hL3
           obtain ⟨y, hy, hL3⟩ := pbind_some hL3
           have HL := Lib.hid hL3
           have hkl2 : (ks ++ [x3]).length ≤ 2 := by simp; omega
           obtain ⟨ks, hks2⟩ : ∃ l, ks ++ [x3] = l := ⟨_, rfl⟩
           rw [hks2] at HKc hkl2
           obtain ⟨bs, hbs2⟩ : ∃ l, bs2 = l := ⟨_, rfl⟩
           obtain ⟨kv, hkv2⟩ : ∃ l, kv2 = l := ⟨_, rfl⟩
           rw [hbs2] at HKc
           rw [hkv2] at HKc HDc
           clear hbs2 hkv2
           clear hL3 hel HAN HAY HL2 hkl
           go_wp2_with fail
           refine HA.out.mono ?_
           rintro e we ⟨rfl, hce, hme⟩
           have HI := Lib.hid (is_any K (p3 + 1) d ⟨#[105, 102]⟩ we hce)
           have Ne := hme.blk HNc.out hcR
           have De := hme.blk HDc.out hbR
           have Re := hme.blk HRc.out (by omega)
           have HKe : Hid (KidsP (fun k => w.heap.size < k ∧ k ≠ w2.heap.size ∧ k ≠ bn) we kv ks bs) := KidsP.grown (row := some K.rb) HKc.out hme (fun k e hP => by injection e with e; have := hP.1; omega)
           have hMe := hMc.trans hme
           clear hme HA
           cases hif : isP K.L K.E (p3 + 1) xIf
           · have H3 : Hid (isP K.L K.E (p3 + 1) (⟨#[105, 102]⟩ : ByteArray).data.toList = false) := hif
             rw [hif] at hy
             simp only [Bool.false_eq_true, if_false] at hy
             have HE := Lib.hid (fun w1 (hc : Ctx K (p3 + 1) d w1) => ih.block K (p3 + 1) d w1 hc hd y hy)
             clear hif hy
             go_wp2_with fail
             refine HI.out.mono ?_
             rintro e wa ⟨rfl, hga⟩
             rw [H3.out]
             have Na := hga.blk Ne
             have Da := hga.blk De
             have HRa := Lib.hid (hga.blk Re)
             have HKa := Lib.hid (HKe.out.gr hga)
             have hca := hce.gr hga
             have hMa := hMe.trans (.of_gr hga)
             have hsa := hga.size
             have na := cellAt Na (i := 0) rfl
             have da := cellAt Da (i := 5) rfl
             have fa := frozenAt Da
             have hbnw := blkLt Da
             have hNaw := blkLt Na
             have HNa := Lib.hid Na
             have HDa := Lib.hid Da
             clear Na Da hga Ne De Re
             have hL5 := HL.out
             cases y with
             | err a er =>
               simp only [] at hL5
               subst hL5
               go_wp2_with fail
               refine wp_region_held_drew (S := fun w' => w'.cell? ⟨w2.heap.size, 0, none⟩ = some (ptrV bn)) rfl na (fun hS => ?_)
               refine wpAnyH_take (i := 0) (v := ?_) rfl (by kernel_rfl) (by kernel_rfl) (by kernel_rfl) (fun _ _ _ h => h) (Or.inl ⟨by rfl, ?_⟩) hS ?_
               rotate_left
               · intro w' hSw; (try dsimp only at hSw); go_simp; try with_reducible rfl
               (try simp only [Act.put, List.setIfInBounds_toArray, List.set_cons_zero, List.set_cons_succ])
               refine wpAnyH_take (i := 1) (v := ?_) rfl (by kernel_rfl) (by kernel_rfl) (by kernel_rfl) (fun _ _ _ h => h) (Or.inl ⟨by rfl, ?_⟩) hS ?_
               rotate_left
               · intro w' hSw; (try dsimp only at hSw); go_simp; try with_reducible rfl
               (try simp only [Act.put, List.setIfInBounds_toArray, List.set_cons_zero, List.set_cons_succ])
               refine wpAnyH_take (i := 2) (v := ?_) rfl (by kernel_rfl) (by kernel_rfl) (by kernel_rfl) (fun _ _ _ h => h) (Or.inl ⟨by rfl, ?_⟩) hS ?_
               rotate_left
               · intro w' hSw; (try dsimp only at hSw); go_simp; try with_reducible rfl
               (try simp only [Act.put, List.setIfInBounds_toArray, List.set_cons_zero, List.set_cons_succ])
               refine wpAnyH_take (i := 3) (v := ?_) rfl (by kernel_rfl) (by kernel_rfl) (by kernel_rfl) (fun _ _ _ h => h) (Or.inl ⟨by rfl, ?_⟩) hS ?_
               rotate_left
               · intro w' hSw; (try dsimp only at hSw); go_simp; try with_reducible rfl
               (try simp only [Act.put, List.setIfInBounds_toArray, List.set_cons_zero, List.set_cons_succ])
               refine wpAnyH_take (i := 4) (v := ?_) rfl (by kernel_rfl) (by kernel_rfl) (by kernel_rfl) (fun _ _ _ h => h) (Or.inl ⟨by rfl, ?_⟩) hS ?_
               rotate_left
               · intro w' hSw; (try dsimp only at hSw); go_simp; try with_reducible rfl
               (try simp only [Act.put, List.setIfInBounds_toArray, List.set_cons_zero, List.set_cons_succ])
               refine wpAnyH_take (i := 5) (v := ?_) rfl (by kernel_rfl) (by kernel_rfl) (by kernel_rfl) (fun _ _ _ h => h) (Or.inl ⟨by rfl, ?_⟩) hS ?_
               rotate_left
               · intro w' hSw; (try dsimp only at hSw); go_simp; try with_reducible rfl
               (try simp only [Act.put, List.setIfInBounds_toArray, List.set_cons_zero, List.set_cons_succ])
               refine wpAnyH_take (i := 7) (v := ?_) rfl (by kernel_rfl) (by kernel_rfl) (by kernel_rfl) (fun _ _ _ h => h) (Or.inl ⟨by rfl, ?_⟩) hS ?_
               rotate_left
               · intro w' hSw; (try dsimp only at hSw); go_simp; try with_reducible rfl
               (try simp only [Act.put, List.setIfInBounds_toArray, List.set_cons_zero, List.set_cons_succ])
               refine wpAnyH_ready (rs := [6, 8]) (by kernel_rfl) (by simp) ?_
               refine AllReadyH.cons rfl (fun K' hK => ?_) (AllReadyH.cons rfl (fun K' hK => ?_) AllReadyH.nil)
               · simp only [List.getElem_toArray, List.getElem_cons_succ, List.getElem_cons_zero]
                 go_simp
                 refine hK.out _ _ na (fun hS => ?_)
                 (try simp only [Act.put, List.setIfInBounds_toArray, List.set_cons_zero, List.set_cons_succ])
                 refine wpAnyH_ready (rs := [8]) (by kernel_rfl) (by simp) ?_
                 refine AllReadyH.cons rfl (fun K' hK => ?_) AllReadyH.nil
                 simp only [List.getElem_toArray, List.getElem_cons_succ, List.getElem_cons_zero]
                 go_simp
                 refine (HE.out _ (by first | exact hca | exact hca.drew)).mono ?_
                 rintro e wd ⟨hmd, rfl⟩
                 exact ⟨rfl, Md.trans (by first | exact hMa | exact hMa.drew) hmd, rfl⟩
               · simp only [List.getElem_toArray, List.getElem_cons_succ, List.getElem_cons_zero]
                 go_simp
                 refine (HE.out _ (by first | exact hca | exact hca.drew)).mono ?_
                 rintro e wd ⟨hmd, rfl⟩
                 exact ⟨rfl, Md.trans (by first | exact hMa | exact hMa.drew) hmd, rfl⟩
             | ok x4 p4 =>
               simp only [Option.some.injEq] at hL5
               have HL5 := Lib.hid hL5
               clear hL5 HL
               go_wp2_with fail
               refine wp_region_K 13 (S := fun w' => w'.cell? ⟨w2.heap.size, 0, none⟩ = some (ptrV bn) ∧ w'.cell? ⟨bn, 5, none⟩ = some kv) rfl ⟨na, da⟩ (fun hS => ?_)
               refine wpAnyK_take (i := 0) (v := ?_) rfl (by kernel_rfl) (by kernel_rfl) (by kernel_rfl) (by kernel_rfl) (fun _ _ _ h => h) (Or.inl ⟨by rfl, ?_⟩) hS ?_
               rotate_left
               · intro w' hSw; (try dsimp only at hSw); go_simp; try with_reducible rfl
               (try simp only [List.getElem_toArray, List.getElem_cons_succ, List.getElem_cons_zero, Act.put, List.setIfInBounds_toArray, List.set_cons_zero, List.set_cons_succ])
               refine wpAnyK_take (i := 1) (v := ?_) rfl (by kernel_rfl) (by kernel_rfl) (by kernel_rfl) (by kernel_rfl) (fun _ _ _ h => h) (Or.inl ⟨by rfl, ?_⟩) hS ?_
               rotate_left
               · intro w' hSw; (try dsimp only at hSw); go_simp; try with_reducible rfl
               (try simp only [List.getElem_toArray, List.getElem_cons_succ, List.getElem_cons_zero, Act.put, List.setIfInBounds_toArray, List.set_cons_zero, List.set_cons_succ])
               refine wpAnyK_take (i := 2) (v := ?_) rfl (by kernel_rfl) (by kernel_rfl) (by kernel_rfl) (by kernel_rfl) (fun _ _ _ h => h) (Or.inl ⟨by rfl, ?_⟩) hS ?_
               rotate_left
               · intro w' hSw; (try dsimp only at hSw); go_simp; try with_reducible rfl
               (try simp only [List.getElem_toArray, List.getElem_cons_succ, List.getElem_cons_zero, Act.put, List.setIfInBounds_toArray, List.set_cons_zero, List.set_cons_succ])
               refine wpAnyK_take (i := 3) (v := ?_) rfl (by kernel_rfl) (by kernel_rfl) (by kernel_rfl) (by kernel_rfl) (fun _ _ _ h => h) (Or.inl ⟨by rfl, ?_⟩) hS ?_
               rotate_left
               · intro w' hSw; (try dsimp only at hSw); go_simp; try with_reducible rfl
               (try simp only [List.getElem_toArray, List.getElem_cons_succ, List.getElem_cons_zero, Act.put, List.setIfInBounds_toArray, List.set_cons_zero, List.set_cons_succ])
               refine wpAnyK_take (i := 4) (v := ?_) rfl (by kernel_rfl) (by kernel_rfl) (by kernel_rfl) (by kernel_rfl) (fun _ _ _ h => h) (Or.inl ⟨by rfl, ?_⟩) hS ?_
               rotate_left
               · intro w' hSw; (try dsimp only at hSw); go_simp; try with_reducible rfl
               (try simp only [List.getElem_toArray, List.getElem_cons_succ, List.getElem_cons_zero, Act.put, List.setIfInBounds_toArray, List.set_cons_zero, List.set_cons_succ])
               refine wpAnyK_take (i := 5) (v := ?_) rfl (by kernel_rfl) (by kernel_rfl) (by kernel_rfl) (by kernel_rfl) (fun _ _ _ h => h) (Or.inl ⟨by rfl, ?_⟩) hS ?_
               rotate_left
               · intro w' hSw; (try dsimp only at hSw); go_simp; try with_reducible rfl
               (try simp only [List.getElem_toArray, List.getElem_cons_succ, List.getElem_cons_zero, Act.put, List.setIfInBounds_toArray, List.set_cons_zero, List.set_cons_succ])
               refine wpAnyK_take (i := 6) (v := ?_) rfl (by kernel_rfl) (by kernel_rfl) (by kernel_rfl) (by kernel_rfl) (fun _ _ _ h => h) (Or.inl ⟨by rfl, ?_⟩) hS ?_
               rotate_left
               · intro w' hSw; (try dsimp only at hSw); go_simp; try with_reducible rfl
               (try simp only [List.getElem_toArray, List.getElem_cons_succ, List.getElem_cons_zero, Act.put, List.setIfInBounds_toArray, List.set_cons_zero, List.set_cons_succ])
               refine wpAnyK_take (i := 7) (v := ?_) rfl (by kernel_rfl) (by kernel_rfl) (by kernel_rfl) (by kernel_rfl) (fun _ _ _ h => h) (Or.inl ⟨by rfl, ?_⟩) hS ?_
               rotate_left
               · intro w' hSw; (try dsimp only at hSw); go_simp; try with_reducible rfl
               (try simp only [List.getElem_toArray, List.getElem_cons_succ, List.getElem_cons_zero, Act.put, List.setIfInBounds_toArray, List.set_cons_zero, List.set_cons_succ])
               refine wpAnyK_one (i := 8) (by kernel_rfl) rfl (fun K' hK => ?_)
               simp only [List.getElem_toArray, List.getElem_cons_succ, List.getElem_cons_zero]
               go_simp
               refine (HE.out _ (by first | exact hca | exact hca.drew)).mono ?_
               rintro e wd ⟨hmd, v, rfl, ⟨b3, rfl, ht3⟩, hcd⟩
               have Nd : wd.heap[w2.heap.size]? = some (.cells #[ptrV bn] 53 (0, 0)) := hmd.blk HNa.out hcR
               have Dd : wd.heap[bn]? = some (.cells #[.int .i64 10, .string (S []), .string (S []), .int .i64 0, .int .i64 at_, kv] 96 (0, 0)) := hmd.blk HDa.out hbR
               have hzd := blkLt Nd
               have hbnd := blkLt Dd
               have hsd := hmd.size
               have KD : Hid (KidsP (fun k => w.heap.size < k ∧ k ≠ w2.heap.size ∧ k ≠ bn) wd kv ks bs) := KidsP.grown (row := some K.rb) (HKa.out.gr (Gr.refl wa).drew) hmd (fun k e hP => by injection e with e; have := hP.1; omega)
               refine hK.out _ _ ⟨cellAt (Nd) rfl, cellAt (Dd) rfl⟩ (fun hS => ?_)
               (try simp only [Act.put, List.setIfInBounds_toArray, List.set_cons_zero, List.set_cons_succ])
               refine wpAnyK_one (i := 9) (by kernel_rfl) rfl (fun K' hK => ?_)
               simp only [List.getElem_toArray, List.getElem_cons_succ, List.getElem_cons_zero]
               go_simp
               refine hK.out _ _ ⟨cellAt (blk_alloc_lt Nd) rfl, cellAt (blk_alloc_lt Dd) rfl⟩ (fun hS => ?_)
               (try simp only [Act.put, List.setIfInBounds_toArray, List.set_cons_zero, List.set_cons_succ])
               refine wpAnyK_one (i := 10) (by kernel_rfl) rfl (fun K' hK => ?_)
               simp only [List.getElem_toArray, List.getElem_cons_succ, List.getElem_cons_zero]
               refine Eq.mpr (if_pos (by rfl)) ?_
               refine wp_append_lies _ _ _ _ (by rfl) 0 53 i0 _ 1 8 Tryz.underlying94 hi0 hz0 hz1 hz2 (by rfl) (by decide) kv ks.length (bs.map ptrV) (by rfl) (ownGr KD.out.own (Gr.al _ _)) ⟨wd.heap.size, 0, none⟩ 1 1 [ptrV b3] (by rfl) (by rfl) (news_ptr (blk_alloc _ _)) (one_ptr _) (by omega) (by unfold maxLen; omega) (by omega) (Nat.zero_le _) (wd.heap.size + 1) (by simp) ?_
               intro g4 cap w4 hown4 hgrow hat hlt4
               have hro : ∀ k, kv.ownBlock = some k → w.heap.size < k ∧ k ≠ w2.heap.size ∧ k ≠ bn := KD.out.pk
               have N4 : w4.heap[w2.heap.size]? = some (.cells #[ptrV bn] 53 (0, 0)) := grown_blk hgrow (blk_alloc_lt Nd) (fun j e => by have := hro j e; omega)
               have D4 : w4.heap[bn]? = some (.cells #[.int .i64 10, .string (S []), .string (S []), .int .i64 0, .int .i64 at_, kv] 96 (0, 0)) := grown_blk hgrow (blk_alloc_lt Dd) (fun j e => by have := hro j e; omega)
               have n4 := cellAt N4 (i := 0) rfl
               have d4 := cellAt D4 (i := 5) rfl
               have f4 := frozenAt D4
               refine hK.out _ _ ⟨n4, d4⟩ (fun hS => ?_)
               (try simp only [Act.put, List.setIfInBounds_toArray, List.set_cons_zero, List.set_cons_succ])
               refine wpAnyK_one (i := 11) (by kernel_rfl) rfl (fun K' hK => ?_)
               simp only [List.getElem_toArray, List.getElem_cons_succ, List.getElem_cons_zero]
               go_simp
               refine hK.out _ _ ⟨n4, d4⟩ (fun hS => ?_)
               (try simp only [Act.put, List.setIfInBounds_toArray, List.set_cons_zero, List.set_cons_succ])
               refine wpAnyK_one (i := 12) (by kernel_rfl) rfl (fun K' hK => ?_)
               simp only [List.getElem_toArray, List.getElem_cons_succ, List.getElem_cons_zero]
               go_simp
               refine hK.out _ _ ⟨n4, d4⟩ (fun hS => ?_)
               (try simp only [Act.put, List.setIfInBounds_toArray, List.set_cons_zero, List.set_cons_succ])
               refine wpAnyK_end (by kernel_rfl) rfl (by kernel_rfl) ?_
               simp only [List.getElem_toArray, List.getElem_cons_succ, List.getElem_cons_zero]
               go_simp
               clear hK hS
               all_goals
                 have Rd := hmd.blk HRa.out (by omega)
                 have R4 := grown_blk hgrow (blk_alloc_lt (o' := .cells #[ptrV b3] 53) Rd) (fun j e => by have := hro j e; omega)
                 have hc4 := ((hcd.alloc (.cells #[ptrV b3] 53)).grown hgrow (fun k e => by have := hro k e; omega))
                 have hM4 := Md.grown ((hMa.drew.trans hmd).alloc (.cells #[ptrV b3] 53)) hgrow (fun k e => by have := hro k e; omega)
                 have K4 := KD.out.push (lo := wa.heap.size) (fun k hk => ⟨by omega, by omega, by omega⟩) (fun k e => (HKa.out.own.lt k e).2) (by simpa using hmd.size) (ht3.imp (fun k _ hk => by simpa using hk)) (Gr.al _ _) hown4 hgrow (by simpa using hat)
                 have N5 := blk_setCell_ne (a := ⟨bn, 5, none⟩) (v := .slice (some ⟨g4, 0, none⟩) (ks.length + 1) cap) N4 (by simp; omega)
                 have R5 := blk_setCell_ne (a := ⟨bn, 5, none⟩) (v := .slice (some ⟨g4, 0, none⟩) (ks.length + 1) cap) R4 (by simp; omega)
                 have D5 := blk_setCell_to (i := 5) (v := .slice (some ⟨g4, 0, none⟩) (ks.length + 1) cap) D4 rfl
                 have n5 := cellAt N5 (i := 0) rfl
                 have r5 := cellAt R5 (i := 0) rfl
                 have f5 := frozenAt R5
                 have K5 := K4.set (a := ⟨bn, 5, none⟩) (v := .slice (some ⟨g4, 0, none⟩) (ks.length + 1) cap) (by simp)
                 have hbn4 := blkLt D4
                 have hN4l := blkLt N4
                 have HD5 := Lib.hid D5
                 have HK5 := Lib.hid K5
                 clear N5 R5 D5 K4 K5 R4 Rd n4 d4 f4
                 go_wp2_with fail
                 refine bodyPost_ret (v := nodeV bn) (by simp [results, Tryz.results256, go_sem, r5]) rfl ?_
                 rw [← HL5.out]
                 subst hks2
                 subst hks
                 refine ⟨?_, _, rfl, ⟨bn, rfl, ?_⟩, ?_⟩
                 · exact (hM4.setCell (.inl (by simp; omega)) _).setCell (.inl (by simp)) _
                 · exact (HK5.out.set (a := ⟨w.heap.size, 0, none⟩) (by simp)).tree (typ := []) (blk_setCell_ne HD5.out (by simp; omega)) (by omega) (fun k hk => by omega)
                 · exact (hc4.setNew (by simp; omega) (by simp; omega) _).setNew (by simp; omega) (by simp; omega) _
           · have H3 : Hid (isP K.L K.E (p3 + 1) (⟨#[105, 102]⟩ : ByteArray).data.toList = true) := hif
             rw [hif] at hy
             simp only [if_true] at hy
             have HE := Lib.hid (fun w1 (hc : Ctx K (p3 + 1) d w1) => ih.branch K (p3 + 1) d w1 hc hd y hy)
             clear hif hy
             go_wp2_with fail
             refine HI.out.mono ?_
             rintro e wa ⟨rfl, hga⟩
             rw [H3.out]
             have Na := hga.blk Ne
             have Da := hga.blk De
             have HRa := Lib.hid (hga.blk Re)
             have HKa := Lib.hid (HKe.out.gr hga)
             have hca := hce.gr hga
             have hMa := hMe.trans (.of_gr hga)
             have hsa := hga.size
             have na := cellAt Na (i := 0) rfl
             have da := cellAt Da (i := 5) rfl
             have fa := frozenAt Da
             have hbnw := blkLt Da
             have hNaw := blkLt Na
             have HNa := Lib.hid Na
             have HDa := Lib.hid Da
             clear Na Da hga Ne De Re
             have hL5 := HL.out
             cases y with
             | err a er =>
               simp only [] at hL5
               subst hL5
               go_wp2_with fail
               refine wp_region_held_drew (S := fun w' => w'.cell? ⟨w2.heap.size, 0, none⟩ = some (ptrV bn)) rfl na (fun hS => ?_)
               refine wpAnyH_take (i := 0) (v := ?_) rfl (by kernel_rfl) (by kernel_rfl) (by kernel_rfl) (fun _ _ _ h => h) (Or.inl ⟨by rfl, ?_⟩) hS ?_
               rotate_left
               · intro w' hSw; (try dsimp only at hSw); go_simp; try with_reducible rfl
               (try simp only [Act.put, List.setIfInBounds_toArray, List.set_cons_zero, List.set_cons_succ])
               refine wpAnyH_take (i := 1) (v := ?_) rfl (by kernel_rfl) (by kernel_rfl) (by kernel_rfl) (fun _ _ _ h => h) (Or.inl ⟨by rfl, ?_⟩) hS ?_
               rotate_left
               · intro w' hSw; (try dsimp only at hSw); go_simp; try with_reducible rfl
               (try simp only [Act.put, List.setIfInBounds_toArray, List.set_cons_zero, List.set_cons_succ])
               refine wpAnyH_take (i := 2) (v := ?_) rfl (by kernel_rfl) (by kernel_rfl) (by kernel_rfl) (fun _ _ _ h => h) (Or.inl ⟨by rfl, ?_⟩) hS ?_
               rotate_left
               · intro w' hSw; (try dsimp only at hSw); go_simp; try with_reducible rfl
               (try simp only [Act.put, List.setIfInBounds_toArray, List.set_cons_zero, List.set_cons_succ])
               refine wpAnyH_take (i := 3) (v := ?_) rfl (by kernel_rfl) (by kernel_rfl) (by kernel_rfl) (fun _ _ _ h => h) (Or.inl ⟨by rfl, ?_⟩) hS ?_
               rotate_left
               · intro w' hSw; (try dsimp only at hSw); go_simp; try with_reducible rfl
               (try simp only [Act.put, List.setIfInBounds_toArray, List.set_cons_zero, List.set_cons_succ])
               refine wpAnyH_take (i := 4) (v := ?_) rfl (by kernel_rfl) (by kernel_rfl) (by kernel_rfl) (fun _ _ _ h => h) (Or.inl ⟨by rfl, ?_⟩) hS ?_
               rotate_left
               · intro w' hSw; (try dsimp only at hSw); go_simp; try with_reducible rfl
               (try simp only [Act.put, List.setIfInBounds_toArray, List.set_cons_zero, List.set_cons_succ])
               refine wpAnyH_take (i := 5) (v := ?_) rfl (by kernel_rfl) (by kernel_rfl) (by kernel_rfl) (fun _ _ _ h => h) (Or.inl ⟨by rfl, ?_⟩) hS ?_
               rotate_left
               · intro w' hSw; (try dsimp only at hSw); go_simp; try with_reducible rfl
               (try simp only [Act.put, List.setIfInBounds_toArray, List.set_cons_zero, List.set_cons_succ])
               refine wpAnyH_take (i := 7) (v := ?_) rfl (by kernel_rfl) (by kernel_rfl) (by kernel_rfl) (fun _ _ _ h => h) (Or.inl ⟨by rfl, ?_⟩) hS ?_
               rotate_left
               · intro w' hSw; (try dsimp only at hSw); go_simp; try with_reducible rfl
               (try simp only [Act.put, List.setIfInBounds_toArray, List.set_cons_zero, List.set_cons_succ])
               refine wpAnyH_ready (rs := [6, 8]) (by kernel_rfl) (by simp) ?_
               refine AllReadyH.cons rfl (fun K' hK => ?_) (AllReadyH.cons rfl (fun K' hK => ?_) AllReadyH.nil)
               · simp only [List.getElem_toArray, List.getElem_cons_succ, List.getElem_cons_zero]
                 go_simp
                 refine hK.out _ _ na (fun hS => ?_)
                 (try simp only [Act.put, List.setIfInBounds_toArray, List.set_cons_zero, List.set_cons_succ])
                 refine wpAnyH_ready (rs := [8]) (by kernel_rfl) (by simp) ?_
                 refine AllReadyH.cons rfl (fun K' hK => ?_) AllReadyH.nil
                 simp only [List.getElem_toArray, List.getElem_cons_succ, List.getElem_cons_zero]
                 go_simp
                 refine (HE.out _ (by first | exact hca | exact hca.drew)).mono ?_
                 rintro e wd ⟨hmd, rfl⟩
                 exact ⟨rfl, Md.trans (by first | exact hMa | exact hMa.drew) hmd, rfl⟩
               · simp only [List.getElem_toArray, List.getElem_cons_succ, List.getElem_cons_zero]
                 go_simp
                 refine (HE.out _ (by first | exact hca | exact hca.drew)).mono ?_
                 rintro e wd ⟨hmd, rfl⟩
                 exact ⟨rfl, Md.trans (by first | exact hMa | exact hMa.drew) hmd, rfl⟩
             | ok x4 p4 =>
               simp only [Option.some.injEq] at hL5
               have HL5 := Lib.hid hL5
               clear hL5 HL
               go_wp2_with fail
               refine wp_region_K 13 (S := fun w' => w'.cell? ⟨w2.heap.size, 0, none⟩ = some (ptrV bn) ∧ w'.cell? ⟨bn, 5, none⟩ = some kv) rfl ⟨na, da⟩ (fun hS => ?_)
               refine wpAnyK_take (i := 0) (v := ?_) rfl (by kernel_rfl) (by kernel_rfl) (by kernel_rfl) (by kernel_rfl) (fun _ _ _ h => h) (Or.inl ⟨by rfl, ?_⟩) hS ?_
               rotate_left
               · intro w' hSw; (try dsimp only at hSw); go_simp; try with_reducible rfl
               (try simp only [List.getElem_toArray, List.getElem_cons_succ, List.getElem_cons_zero, Act.put, List.setIfInBounds_toArray, List.set_cons_zero, List.set_cons_succ])
               refine wpAnyK_take (i := 1) (v := ?_) rfl (by kernel_rfl) (by kernel_rfl) (by kernel_rfl) (by kernel_rfl) (fun _ _ _ h => h) (Or.inl ⟨by rfl, ?_⟩) hS ?_
               rotate_left
               · intro w' hSw; (try dsimp only at hSw); go_simp; try with_reducible rfl
               (try simp only [List.getElem_toArray, List.getElem_cons_succ, List.getElem_cons_zero, Act.put, List.setIfInBounds_toArray, List.set_cons_zero, List.set_cons_succ])
               refine wpAnyK_take (i := 2) (v := ?_) rfl (by kernel_rfl) (by kernel_rfl) (by kernel_rfl) (by kernel_rfl) (fun _ _ _ h => h) (Or.inl ⟨by rfl, ?_⟩) hS ?_
               rotate_left
               · intro w' hSw; (try dsimp only at hSw); go_simp; try with_reducible rfl
               (try simp only [List.getElem_toArray, List.getElem_cons_succ, List.getElem_cons_zero, Act.put, List.setIfInBounds_toArray, List.set_cons_zero, List.set_cons_succ])
               refine wpAnyK_take (i := 3) (v := ?_) rfl (by kernel_rfl) (by kernel_rfl) (by kernel_rfl) (by kernel_rfl) (fun _ _ _ h => h) (Or.inl ⟨by rfl, ?_⟩) hS ?_
               rotate_left
               · intro w' hSw; (try dsimp only at hSw); go_simp; try with_reducible rfl
               (try simp only [List.getElem_toArray, List.getElem_cons_succ, List.getElem_cons_zero, Act.put, List.setIfInBounds_toArray, List.set_cons_zero, List.set_cons_succ])
               refine wpAnyK_take (i := 4) (v := ?_) rfl (by kernel_rfl) (by kernel_rfl) (by kernel_rfl) (by kernel_rfl) (fun _ _ _ h => h) (Or.inl ⟨by rfl, ?_⟩) hS ?_
               rotate_left
               · intro w' hSw; (try dsimp only at hSw); go_simp; try with_reducible rfl
               (try simp only [List.getElem_toArray, List.getElem_cons_succ, List.getElem_cons_zero, Act.put, List.setIfInBounds_toArray, List.set_cons_zero, List.set_cons_succ])
               refine wpAnyK_take (i := 5) (v := ?_) rfl (by kernel_rfl) (by kernel_rfl) (by kernel_rfl) (by kernel_rfl) (fun _ _ _ h => h) (Or.inl ⟨by rfl, ?_⟩) hS ?_
               rotate_left
               · intro w' hSw; (try dsimp only at hSw); go_simp; try with_reducible rfl
               (try simp only [List.getElem_toArray, List.getElem_cons_succ, List.getElem_cons_zero, Act.put, List.setIfInBounds_toArray, List.set_cons_zero, List.set_cons_succ])
               refine wpAnyK_take (i := 6) (v := ?_) rfl (by kernel_rfl) (by kernel_rfl) (by kernel_rfl) (by kernel_rfl) (fun _ _ _ h => h) (Or.inl ⟨by rfl, ?_⟩) hS ?_
               rotate_left
               · intro w' hSw; (try dsimp only at hSw); go_simp; try with_reducible rfl
               (try simp only [List.getElem_toArray, List.getElem_cons_succ, List.getElem_cons_zero, Act.put, List.setIfInBounds_toArray, List.set_cons_zero, List.set_cons_succ])
               refine wpAnyK_take (i := 7) (v := ?_) rfl (by kernel_rfl) (by kernel_rfl) (by kernel_rfl) (by kernel_rfl) (fun _ _ _ h => h) (Or.inl ⟨by rfl, ?_⟩) hS ?_
               rotate_left
               · intro w' hSw; (try dsimp only at hSw); go_simp; try with_reducible rfl
               (try simp only [List.getElem_toArray, List.getElem_cons_succ, List.getElem_cons_zero, Act.put, List.setIfInBounds_toArray, List.set_cons_zero, List.set_cons_succ])
               refine wpAnyK_one (i := 8) (by kernel_rfl) rfl (fun K' hK => ?_)
               simp only [List.getElem_toArray, List.getElem_cons_succ, List.getElem_cons_zero]
               go_simp
               refine (HE.out _ (by first | exact hca | exact hca.drew)).mono ?_
               rintro e wd ⟨hmd, v, rfl, ⟨b3, rfl, ht3⟩, hcd⟩
               have Nd : wd.heap[w2.heap.size]? = some (.cells #[ptrV bn] 53 (0, 0)) := hmd.blk HNa.out hcR
               have Dd : wd.heap[bn]? = some (.cells #[.int .i64 10, .string (S []), .string (S []), .int .i64 0, .int .i64 at_, kv] 96 (0, 0)) := hmd.blk HDa.out hbR
               have hzd := blkLt Nd
               have hbnd := blkLt Dd
               have hsd := hmd.size
               have KD : Hid (KidsP (fun k => w.heap.size < k ∧ k ≠ w2.heap.size ∧ k ≠ bn) wd kv ks bs) := KidsP.grown (row := some K.rb) (HKa.out.gr (Gr.refl wa).drew) hmd (fun k e hP => by injection e with e; have := hP.1; omega)
               refine hK.out _ _ ⟨cellAt (Nd) rfl, cellAt (Dd) rfl⟩ (fun hS => ?_)
               (try simp only [Act.put, List.setIfInBounds_toArray, List.set_cons_zero, List.set_cons_succ])
               refine wpAnyK_one (i := 9) (by kernel_rfl) rfl (fun K' hK => ?_)
               simp only [List.getElem_toArray, List.getElem_cons_succ, List.getElem_cons_zero]
               go_simp
               refine hK.out _ _ ⟨cellAt (blk_alloc_lt Nd) rfl, cellAt (blk_alloc_lt Dd) rfl⟩ (fun hS => ?_)
               (try simp only [Act.put, List.setIfInBounds_toArray, List.set_cons_zero, List.set_cons_succ])
               refine wpAnyK_one (i := 10) (by kernel_rfl) rfl (fun K' hK => ?_)
               simp only [List.getElem_toArray, List.getElem_cons_succ, List.getElem_cons_zero]
               refine Eq.mpr (if_pos (by rfl)) ?_
               refine wp_append_lies _ _ _ _ (by rfl) 0 53 i0 _ 1 8 Tryz.underlying94 hi0 hz0 hz1 hz2 (by rfl) (by decide) kv ks.length (bs.map ptrV) (by rfl) (ownGr KD.out.own (Gr.al _ _)) ⟨wd.heap.size, 0, none⟩ 1 1 [ptrV b3] (by rfl) (by rfl) (news_ptr (blk_alloc _ _)) (one_ptr _) (by omega) (by unfold maxLen; omega) (by omega) (Nat.zero_le _) (wd.heap.size + 1) (by simp) ?_
               intro g4 cap w4 hown4 hgrow hat hlt4
               have hro : ∀ k, kv.ownBlock = some k → w.heap.size < k ∧ k ≠ w2.heap.size ∧ k ≠ bn := KD.out.pk
               have N4 : w4.heap[w2.heap.size]? = some (.cells #[ptrV bn] 53 (0, 0)) := grown_blk hgrow (blk_alloc_lt Nd) (fun j e => by have := hro j e; omega)
               have D4 : w4.heap[bn]? = some (.cells #[.int .i64 10, .string (S []), .string (S []), .int .i64 0, .int .i64 at_, kv] 96 (0, 0)) := grown_blk hgrow (blk_alloc_lt Dd) (fun j e => by have := hro j e; omega)
               have n4 := cellAt N4 (i := 0) rfl
               have d4 := cellAt D4 (i := 5) rfl
               have f4 := frozenAt D4
               refine hK.out _ _ ⟨n4, d4⟩ (fun hS => ?_)
               (try simp only [Act.put, List.setIfInBounds_toArray, List.set_cons_zero, List.set_cons_succ])
               refine wpAnyK_one (i := 11) (by kernel_rfl) rfl (fun K' hK => ?_)
               simp only [List.getElem_toArray, List.getElem_cons_succ, List.getElem_cons_zero]
               go_simp
               refine hK.out _ _ ⟨n4, d4⟩ (fun hS => ?_)
               (try simp only [Act.put, List.setIfInBounds_toArray, List.set_cons_zero, List.set_cons_succ])
               refine wpAnyK_one (i := 12) (by kernel_rfl) rfl (fun K' hK => ?_)
               simp only [List.getElem_toArray, List.getElem_cons_succ, List.getElem_cons_zero]
               go_simp
               refine hK.out _ _ ⟨n4, d4⟩ (fun hS => ?_)
               (try simp only [Act.put, List.setIfInBounds_toArray, List.set_cons_zero, List.set_cons_succ])
               refine wpAnyK_end (by kernel_rfl) rfl (by kernel_rfl) ?_
               simp only [List.getElem_toArray, List.getElem_cons_succ, List.getElem_cons_zero]
               go_simp
               clear hK hS
               all_goals
                 have Rd := hmd.blk HRa.out (by omega)
                 have R4 := grown_blk hgrow (blk_alloc_lt (o' := .cells #[ptrV b3] 53) Rd) (fun j e => by have := hro j e; omega)
                 have hc4 := ((hcd.alloc (.cells #[ptrV b3] 53)).grown hgrow (fun k e => by have := hro k e; omega))
                 have hM4 := Md.grown ((hMa.drew.trans hmd).alloc (.cells #[ptrV b3] 53)) hgrow (fun k e => by have := hro k e; omega)
                 have K4 := KD.out.push (lo := wa.heap.size) (fun k hk => ⟨by omega, by omega, by omega⟩) (fun k e => (HKa.out.own.lt k e).2) (by simpa using hmd.size) (ht3.imp (fun k _ hk => by simpa using hk)) (Gr.al _ _) hown4 hgrow (by simpa using hat)
                 have N5 := blk_setCell_ne (a := ⟨bn, 5, none⟩) (v := .slice (some ⟨g4, 0, none⟩) (ks.length + 1) cap) N4 (by simp; omega)
                 have R5 := blk_setCell_ne (a := ⟨bn, 5, none⟩) (v := .slice (some ⟨g4, 0, none⟩) (ks.length + 1) cap) R4 (by simp; omega)
                 have D5 := blk_setCell_to (i := 5) (v := .slice (some ⟨g4, 0, none⟩) (ks.length + 1) cap) D4 rfl
                 have n5 := cellAt N5 (i := 0) rfl
                 have r5 := cellAt R5 (i := 0) rfl
                 have f5 := frozenAt R5
                 have K5 := K4.set (a := ⟨bn, 5, none⟩) (v := .slice (some ⟨g4, 0, none⟩) (ks.length + 1) cap) (by simp)
                 have hbn4 := blkLt D4
                 have hN4l := blkLt N4
                 have HD5 := Lib.hid D5
                 have HK5 := Lib.hid K5
                 clear N5 R5 D5 K4 K5 R4 Rd n4 d4 f4
                 go_wp2_with fail
                 refine bodyPost_ret (v := nodeV bn) (by simp [results, Tryz.results256, go_sem, r5]) rfl ?_
                 rw [← HL5.out]
                 subst hks2
                 subst hks
                 refine ⟨?_, _, rfl, ⟨bn, rfl, ?_⟩, ?_⟩
                 · exact (hM4.setCell (.inl (by simp; omega)) _).setCell (.inl (by simp)) _
                 · exact (HK5.out.set (a := ⟨w.heap.size, 0, none⟩) (by simp)).tree (typ := []) (blk_setCell_ne HD5.out (by simp; omega)) (by omega) (fun k hk => by omega)
                 · exact (hc4.setNew (by simp; omega) (by simp; omega) _).setNew (by simp; omega) (by simp; omega) _
end Go.Proofs.YthniejnbkkkbnaaGreatDoor
