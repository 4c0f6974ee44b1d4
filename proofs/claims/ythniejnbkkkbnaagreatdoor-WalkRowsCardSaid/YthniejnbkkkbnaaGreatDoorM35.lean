/- Walks of layer parse: calls. Walks of layer parse: calls. -/
import Derived.Test.YthniejnbkkkbnaaGreatDoorM27
import Derived.Test.YthniejnbkkkbnaaGreatDoorM34
import Derived.Deep.Cut
import Derived.Deep.CutRange
set_option linter.all false
set_option linter.unusedSimpArgs false
set_option linter.unusedVariables false
namespace Go.Proofs.YthniejnbkkkbnaaGreatDoor
open Go.RowKit
set_option maxRecDepth 100000
set_option maxHeartbeats 1000000
attribute [local go_sem ↓] Go.wp_at_zero Go.wp_at_succ

theorem call1_any (k : Nat) (hk : k ≤ 1000000) (ih : ∀ j, j < k → EAt j) (K : PK) (tk : Int) (tx : Str) (at_ : Int) (p d : Nat) (w : World) (h : Ctx K p d w) (hd : d ≤ 40) (bx tb : Nat) (hbx : Box K w bx) (hne : bx ≠ K.rb)
    (htb : w.heap[tb]? = some (.cells #[.int .i64 tk, .string (S tx), .int .i64 at_] 136 (0, 0))) (hnt : tb ≠ K.rb) (hp : p < K.L.length) (r : PR T) (hr : callLoopP K.L K.E k ⟨tk, tx, at_⟩ d [] (p + 1) = some r) :
    Calls Tryz.prog 352 #[.pointer (some ⟨bx, 0, none⟩), .pointer (some ⟨tb, 0, none⟩)] w (PP K d w r (NewTree w)) := by
  have HC := Lib.hid h
  have HR := Lib.hid hr
  have HB := Lib.hid hbx
  have HTB := Lib.hid htb
  have b0 := cellAt hbx (i := 0) rfl
  have hbl := blkLt hbx
  have htl := blkLt htb
  have hrb := h.lt
  have hB := h.hB
  clear h hbx htb hr
  go_enter Tryz.func352, Tryz.ntmps352
  go_wp2_with fail
  refine (take_any K p d _ (HC.out.alloc _) hp).mono ?_
  rintro e w1 ⟨rfl, hc1, hm1⟩
  have B1 := hm1.blk (blk_alloc_lt HB.out) hne
  have T1 := hm1.blk (blk_alloc_lt HTB.out) hnt
  obtain ⟨t0, t1, t2⟩ := cells3 T1
  have b1 := cellAt B1 (i := 0) rfl
  have ft := frozenAt T1
  have R1 := hm1.blk (blk_alloc _ _) (show w.heap.size ≠ K.rb by omega)
  have hz1 := blkLt R1
  have hM1 : Md K.rb w w1 := ((Md.refl _ _).alloc _).trans hm1
  clear hm1
  unfold tokV
  go_wp2_with fail
  refine (node_any 21 ⟨tk, tx, at_⟩ none 0 0 _).mono ?_
  rintro e w2 ⟨bn, rfl, hnb, hnd, hng⟩
  have B2 := hng.blk B1
  have T2 := hng.blk T1
  have R2 := hng.blk R1
  have hc2 := hc1.gr hng
  have hM2 := hM1.trans (.of_gr hng)
  have hbn := blkLt hnd
  have hz2 := blkLt R2
  have hbx2 := blkLt B2
  have HND := Lib.hid hnd
  clear hng B1 T1 R1 hc1 hM1 hnd t0 t1 t2 ft b0 b1
  go_wp2_with fail
  go_loopg [] k (fun gg wr => ∃ g p' ks bs kv, gg = g ∧ Ctx K p' d wr ∧ Md K.rb w wr ∧ Box K wr bx ∧ wr.heap[w.heap.size]? = some (.cells #[.pointer none] 53 (0, 0)) ∧ wr.heap[w2.heap.size]? = some (.cells #[ptrV bn] 53 (0, 0)) ∧
    wr.heap[bn]? = some (.cells #[.int .i64 21, .string (S tx), .string (S []), .int .i64 0, .int .i64 at_, kv] 96 (0, 0)) ∧ KidsAt (w2.heap.size + 1) wr kv ks bs ∧ ks.length + g ≤ k ∧ Hid (callLoopP K.L K.E g ⟨tk, tx, at_⟩ d ks p' = some r))
  case atStart => exact ⟨k, p + 1, [], [], .slice none 0 0, rfl, hc2.alloc _, hM2.alloc _, blk_alloc_lt B2, blk_alloc_lt R2, blk_alloc _ _, blk_alloc_lt HND.out, KidsAt.nil _ _, by simp, HR.out⟩
  case round =>
    obtain ⟨g, p', ks, bs, kv, hgg, hc, hM, hBx, hRR, hN, hD, hK, hkl, hL⟩ := hrel
    obtain ⟨i0, hi0, hz0, hz1, hz2⟩ := info_parts info_node
    have HI := Lib.hid (fun (x : ByteArray) p w1 (hc : Ctx K p d w1) => is_any K p d x w1 hc)
    have HCW := Lib.hid hc
    have HMW := Lib.hid hM
    have HBX := Lib.hid hBx
    have HRR := Lib.hid hRR
    have HN := Lib.hid hN
    have HD := Lib.hid hD
    have HK := Lib.hid hK
    have x0 := cellAt hBx (i := 0) rfl
    have hsw : w2.heap.size < wr.heap.size := blkLt hN
    have hbnw := blkLt hD
    have hcR : w2.heap.size ≠ K.rb := by omega
    have hbR : bn ≠ K.rb := by omega
    have hbase : K.B ≤ w2.heap.size := by omega
    clear hc hM hBx hRR hN hD hK
    cases g with
    | zero => have := hL.out; simp [callLoopP] at this
    | succ g =>
      have hL' := hL.out
      unfold callLoopP at hL'
      cases hi : isP K.L K.E p' xRp
      · rw [hi] at hL'
        simp only [Bool.false_eq_true, if_false] at hL'
        have H1 : Hid (isP K.L K.E p' (⟨#[41]⟩ : ByteArray).data.toList = false) := hi
        obtain ⟨y, hy, hL'⟩ := pbind_some hL'
        have HE := Lib.hid (fun w1 (hc : Ctx K p' d w1) => (ih g (by omega)).expr K 1 p' d w1 hc hd (by decide) (by decide) y hy)
        have HL := Lib.hid hL'
        clear hi hL' hL hy
        go_wp2_with fail
        refine (HI.out _ _ _ HCW.out).mono ?_
        rintro e wa ⟨rfl, hga⟩
        rw [H1.out]
        have Ba := hga.blk HBX.out
        have Na := hga.blk HN.out
        have Da := hga.blk HD.out
        have xa := cellAt Ba (i := 0) rfl
        have na := cellAt Na (i := 0) rfl
        have da := cellAt Da (i := 5) rfl
        have fa := frozenAt Da
        have hca := HCW.out.gr hga
        have hMa := HMW.out.trans (.of_gr hga)
        have hsa := hga.size
        have HBa := Lib.hid Ba
        have HNa := Lib.hid Na
        have HDa := Lib.hid Da
        have HRa := Lib.hid (hga.blk HRR.out)
        have HKa := Lib.hid (HK.out.gr hga)
        clear Ba Na Da hga HK HRR HD HN HBX HCW HMW
        cases y with
        | err a er =>
          have HL2 := HL.out
          simp only [] at HL2
          subst HL2
          go_wp2_with fail
          refine wp_region_held_drew (S := fun w' => w'.cell? ⟨w2.heap.size, 0, none⟩ = some (ptrV bn) ∧ w'.cell? ⟨bx, 0, none⟩ = some (ptrV K.rb)) rfl ⟨na, by exact xa⟩ (fun hS => ?_)
          refine wpAnyH_take (i := 0) (v := ?_) rfl (by kernel_rfl) (by kernel_rfl) (by kernel_rfl) (fun _ _ _ h => h) (Or.inl ⟨by rfl, ?_⟩) hS ?_
          rotate_left
          · intro w' hSw; (try dsimp only at hSw); go_simp; try with_reducible rfl
          (try simp only [Act.put, List.setIfInBounds_toArray, List.set_cons_zero, List.set_cons_succ])
          refine wpAnyH_take (i := 1) (v := ?_) rfl (by kernel_rfl) (by kernel_rfl) (by kernel_rfl) (fun _ _ _ h => h) (Or.inl ⟨by rfl, ?_⟩) hS ?_
          rotate_left
          · intro w' hSw; (try dsimp only at hSw); go_simp; try with_reducible rfl
          (try simp only [Act.put, List.setIfInBounds_toArray, List.set_cons_zero, List.set_cons_succ])
          refine wpAnyH_take (i := 2) (v := ?_) rfl (by kernel_rfl) (by kernel_rfl) (by kernel_rfl) (fun _ _ _ h => h) (Or.inl ⟨by rfl, ?_⟩) hS ?_
          rotate_left
          · intro w' hSw; (try dsimp only at hSw); go_simp; try with_reducible rfl
          (try simp only [Act.put, List.setIfInBounds_toArray, List.set_cons_zero, List.set_cons_succ])
          refine wpAnyH_take (i := 3) (v := ?_) rfl (by kernel_rfl) (by kernel_rfl) (by kernel_rfl) (fun _ _ _ h => h) (Or.inl ⟨by rfl, ?_⟩) hS ?_
          rotate_left
          · intro w' hSw; (try dsimp only at hSw); go_simp; try with_reducible rfl
          (try simp only [Act.put, List.setIfInBounds_toArray, List.set_cons_zero, List.set_cons_succ])
          refine wpAnyH_take (i := 4) (v := ?_) rfl (by kernel_rfl) (by kernel_rfl) (by kernel_rfl) (fun _ _ _ h => h) (Or.inl ⟨by rfl, ?_⟩) hS ?_
          rotate_left
          · intro w' hSw; (try dsimp only at hSw); go_simp; try with_reducible rfl
          (try simp only [Act.put, List.setIfInBounds_toArray, List.set_cons_zero, List.set_cons_succ])
          refine wpAnyH_take (i := 5) (v := ?_) rfl (by kernel_rfl) (by kernel_rfl) (by kernel_rfl) (fun _ _ _ h => h) (Or.inl ⟨by rfl, ?_⟩) hS ?_
          rotate_left
          · intro w' hSw; (try dsimp only at hSw); go_simp; try with_reducible rfl
          (try simp only [Act.put, List.setIfInBounds_toArray, List.set_cons_zero, List.set_cons_succ])
          refine wpAnyH_take (i := 7) (v := ?_) rfl (by kernel_rfl) (by kernel_rfl) (by kernel_rfl) (fun _ _ _ h => h) (Or.inl ⟨by rfl, ?_⟩) hS ?_
          rotate_left
          · intro w' hSw; (try dsimp only at hSw); go_simp; try with_reducible rfl
          (try simp only [Act.put, List.setIfInBounds_toArray, List.set_cons_zero, List.set_cons_succ])
          refine wpAnyH_ready (rs := [6, 8]) (by kernel_rfl) (by simp) ?_
          refine AllReadyH.cons rfl (fun K' hK => ?_) (AllReadyH.cons rfl (fun K' hK => ?_) AllReadyH.nil)
          · simp only [List.getElem_toArray, List.getElem_cons_succ, List.getElem_cons_zero]
            go_simp
            refine hK.out _ _ ⟨na, by exact xa⟩ (fun hS => ?_)
            (try simp only [Act.put, List.setIfInBounds_toArray, List.set_cons_zero, List.set_cons_succ])
            refine wpAnyH_ready (rs := [8]) (by kernel_rfl) (by simp) ?_
            refine AllReadyH.cons rfl (fun K' hK => ?_) AllReadyH.nil
            simp only [List.getElem_toArray, List.getElem_cons_succ, List.getElem_cons_zero]
            go_simp
            refine (HE.out _ (by first | exact hca | exact hca.drew)).mono ?_
            rintro e wd ⟨hmd, rfl⟩
            exact ⟨rfl, Md.trans (by first | exact hMa | exact hMa.drew) hmd, rfl⟩
          · simp only [List.getElem_toArray, List.getElem_cons_succ, List.getElem_cons_zero]
            go_simp
            refine (HE.out _ (by first | exact hca | exact hca.drew)).mono ?_
            rintro e wd ⟨hmd, rfl⟩
            exact ⟨rfl, Md.trans (by first | exact hMa | exact hMa.drew) hmd, rfl⟩
        | ok x p2 =>
          simp only [] at HL
          go_upto_region 4 with fail
          go_cut [] from 11 to 32 (fun wx => ∃ bs' kv', Ctx K p2 d wx ∧ Md K.rb w wx ∧ Box K wx bx ∧ wx.heap[w.heap.size]? = some (.cells #[.pointer none] 53 (0, 0)) ∧ wx.heap[w2.heap.size]? = some (.cells #[ptrV bn] 53 (0, 0)) ∧
            wx.heap[bn]? = some (.cells #[.int .i64 21, .string (S tx), .string (S []), .int .i64 0, .int .i64 at_, kv'] 96 (0, 0)) ∧ KidsAt (w2.heap.size + 1) wx kv' (ks ++ [x]) bs')
          case first =>
            refine wp_region_K 13 (S := fun w' => w'.cell? ⟨w2.heap.size, 0, none⟩ = some (ptrV bn) ∧ w'.cell? ⟨bx, 0, none⟩ = some (ptrV K.rb) ∧ w'.cell? ⟨bn, 5, none⟩ = some kv) rfl ⟨na, xa, da⟩ (fun hS => ?_)
            refine wpAnyK_take (i := 0) (v := ?_) rfl (by kernel_rfl) (by kernel_rfl) (by kernel_rfl) (by kernel_rfl) (fun _ _ _ h => h) (Or.inl ⟨by rfl, ?_⟩) hS ?_
            rotate_left
            · intro w' hSw; (try dsimp only at hSw); go_simp; try with_reducible rfl
            (try simp only [List.getElem_toArray, List.getElem_cons_succ, List.getElem_cons_zero, Act.put, List.setIfInBounds_toArray, List.set_cons_zero, List.set_cons_succ])
            refine wpAnyK_take (i := 1) (v := ?_) rfl (by kernel_rfl) (by kernel_rfl) (by kernel_rfl) (by kernel_rfl) (fun _ _ _ h => h) (Or.inl ⟨by rfl, ?_⟩) hS ?_
            rotate_left
            · intro w' hSw; (try dsimp only at hSw); go_simp; try with_reducible rfl
            (try simp only [List.getElem_toArray, List.getElem_cons_succ, List.getElem_cons_zero, Act.put, List.setIfInBounds_toArray, List.set_cons_zero, List.set_cons_succ])
            refine wpAnyK_take (i := 2) (v := ?_) rfl (by kernel_rfl) (by kernel_rfl) (by kernel_rfl) (by kernel_rfl) (fun _ _ _ h => h) (Or.inl ⟨by rfl, ?_⟩) hS ?_
            rotate_left
            · intro w' hSw; (try dsimp only at hSw); go_simp; try with_reducible rfl
            (try simp only [List.getElem_toArray, List.getElem_cons_succ, List.getElem_cons_zero, Act.put, List.setIfInBounds_toArray, List.set_cons_zero, List.set_cons_succ])
            refine wpAnyK_take (i := 3) (v := ?_) rfl (by kernel_rfl) (by kernel_rfl) (by kernel_rfl) (by kernel_rfl) (fun _ _ _ h => h) (Or.inl ⟨by rfl, ?_⟩) hS ?_
            rotate_left
            · intro w' hSw; (try dsimp only at hSw); go_simp; try with_reducible rfl
            (try simp only [List.getElem_toArray, List.getElem_cons_succ, List.getElem_cons_zero, Act.put, List.setIfInBounds_toArray, List.set_cons_zero, List.set_cons_succ])
            refine wpAnyK_take (i := 4) (v := ?_) rfl (by kernel_rfl) (by kernel_rfl) (by kernel_rfl) (by kernel_rfl) (fun _ _ _ h => h) (Or.inl ⟨by rfl, ?_⟩) hS ?_
            rotate_left
            · intro w' hSw; (try dsimp only at hSw); go_simp; try with_reducible rfl
            (try simp only [List.getElem_toArray, List.getElem_cons_succ, List.getElem_cons_zero, Act.put, List.setIfInBounds_toArray, List.set_cons_zero, List.set_cons_succ])
            refine wpAnyK_take (i := 5) (v := ?_) rfl (by kernel_rfl) (by kernel_rfl) (by kernel_rfl) (by kernel_rfl) (fun _ _ _ h => h) (Or.inl ⟨by rfl, ?_⟩) hS ?_
            rotate_left
            · intro w' hSw; (try dsimp only at hSw); go_simp; try with_reducible rfl
            (try simp only [List.getElem_toArray, List.getElem_cons_succ, List.getElem_cons_zero, Act.put, List.setIfInBounds_toArray, List.set_cons_zero, List.set_cons_succ])
            refine wpAnyK_take (i := 6) (v := ?_) rfl (by kernel_rfl) (by kernel_rfl) (by kernel_rfl) (by kernel_rfl) (fun _ _ _ h => h) (Or.inl ⟨by rfl, ?_⟩) hS ?_
            rotate_left
            · intro w' hSw; (try dsimp only at hSw); go_simp; try with_reducible rfl
            (try simp only [List.getElem_toArray, List.getElem_cons_succ, List.getElem_cons_zero, Act.put, List.setIfInBounds_toArray, List.set_cons_zero, List.set_cons_succ])
            refine wpAnyK_take (i := 7) (v := ?_) rfl (by kernel_rfl) (by kernel_rfl) (by kernel_rfl) (by kernel_rfl) (fun _ _ _ h => h) (Or.inl ⟨by rfl, ?_⟩) hS ?_
            rotate_left
            · intro w' hSw; (try dsimp only at hSw); go_simp; try with_reducible rfl
            (try simp only [List.getElem_toArray, List.getElem_cons_succ, List.getElem_cons_zero, Act.put, List.setIfInBounds_toArray, List.set_cons_zero, List.set_cons_succ])
            refine wpAnyK_one (i := 8) (by kernel_rfl) rfl (fun K' hK => ?_)
            simp only [List.getElem_toArray, List.getElem_cons_succ, List.getElem_cons_zero]
            go_simp
            refine (HE.out _ (by first | exact hca | exact hca.drew)).mono ?_
            rintro e wd ⟨hmd, v, rfl, ⟨b3, rfl, ht3⟩, hcd⟩
            have Nd : wd.heap[w2.heap.size]? = some (.cells #[ptrV bn] 53 (0, 0)) := hmd.blk HNa.out hcR
            have Bd : Box K wd bx := hmd.blk HBa.out hne
            have Dd : wd.heap[bn]? = some (.cells #[.int .i64 21, .string (S tx), .string (S []), .int .i64 0, .int .i64 at_, kv] 96 (0, 0)) := hmd.blk HDa.out hbR
            have hzd := blkLt Nd
            have hbnd := blkLt Dd
            have hsd := hmd.size
            have KD : Hid (KidsAt (w2.heap.size + 1) wd kv ks bs) := KidsAt.grown (row := some K.rb) (HKa.out.gr (Gr.refl wa).drew) hmd (fun k e => by injection e with e; omega)
            refine hK.out _ _ ⟨cellAt (Nd) rfl, cellAt (Bd) rfl, cellAt (Dd) rfl⟩ (fun hS => ?_)
            (try simp only [Act.put, List.setIfInBounds_toArray, List.set_cons_zero, List.set_cons_succ])
            refine wpAnyK_one (i := 9) (by kernel_rfl) rfl (fun K' hK => ?_)
            simp only [List.getElem_toArray, List.getElem_cons_succ, List.getElem_cons_zero]
            go_simp
            refine hK.out _ _ ⟨cellAt (blk_alloc_lt Nd) rfl, cellAt (blk_alloc_lt Bd) rfl, cellAt (blk_alloc_lt Dd) rfl⟩ (fun hS => ?_)
            (try simp only [Act.put, List.setIfInBounds_toArray, List.set_cons_zero, List.set_cons_succ])
            refine wpAnyK_one (i := 10) (by kernel_rfl) rfl (fun K' hK => ?_)
            simp only [List.getElem_toArray, List.getElem_cons_succ, List.getElem_cons_zero]
            refine Eq.mpr (if_pos (by rfl)) ?_
            refine wp_append_lies _ _ _ _ (by rfl) (w2.heap.size + 1) 53 i0 _ 1 8 Tryz.underlying94 hi0 hz0 hz1 hz2 (by rfl) (by decide) kv ks.length (bs.map ptrV) (by rfl) (ownGr KD.out.own (Gr.al _ _)) ⟨wd.heap.size, 0, none⟩ 1 1 [ptrV b3] (by rfl) (by rfl) (news_ptr (blk_alloc _ _)) (one_ptr _) (by omega) (by unfold maxLen; omega) (by omega) (by simp; omega) (wd.heap.size + 1) (by simp) ?_
            intro g4 cap w4 hown4 hgrow hat hlt4
            have hro : ∀ k, kv.ownBlock = some k → w2.heap.size + 1 ≤ k ∧ k < wd.heap.size := KD.out.own_lt
            have N4 : w4.heap[w2.heap.size]? = some (.cells #[ptrV bn] 53 (0, 0)) := grown_blk hgrow (blk_alloc_lt Nd) (fun j e => by have := (hro j e).1; omega)
            have B4 : Box K w4 bx := grown_blk hgrow (blk_alloc_lt Bd) (fun j e => by have := (hro j e).1; omega)
            have D4 : w4.heap[bn]? = some (.cells #[.int .i64 21, .string (S tx), .string (S []), .int .i64 0, .int .i64 at_, kv] 96 (0, 0)) := grown_blk hgrow (blk_alloc_lt Dd) (fun j e => by have := (hro j e).1; omega)
            have n4 := cellAt N4 (i := 0) rfl
            have x4 := cellAt B4 (i := 0) rfl
            have d4 := cellAt D4 (i := 5) rfl
            have f4 := frozenAt D4
            refine hK.out _ _ ⟨n4, x4, d4⟩ (fun hS => ?_)
            (try simp only [Act.put, List.setIfInBounds_toArray, List.set_cons_zero, List.set_cons_succ])
            refine wpAnyK_one (i := 11) (by kernel_rfl) rfl (fun K' hK => ?_)
            simp only [List.getElem_toArray, List.getElem_cons_succ, List.getElem_cons_zero]
            go_simp
            refine hK.out _ _ ⟨n4, x4, d4⟩ (fun hS => ?_)
            (try simp only [Act.put, List.setIfInBounds_toArray, List.set_cons_zero, List.set_cons_succ])
            refine wpAnyK_one (i := 12) (by kernel_rfl) rfl (fun K' hK => ?_)
            simp only [List.getElem_toArray, List.getElem_cons_succ, List.getElem_cons_zero]
            go_simp
            refine hK.out _ _ ⟨n4, x4, d4⟩ (fun hS => ?_)
            (try simp only [Act.put, List.setIfInBounds_toArray, List.set_cons_zero, List.set_cons_succ])
            refine wpAnyK_end (by kernel_rfl) rfl (by kernel_rfl) ?_
            simp only [List.getElem_toArray, List.getElem_cons_succ, List.getElem_cons_zero]
            go_simp
            clear hK hS
            all_goals
              go_wp2_with fail
              go_meet
              refine ⟨bs ++ [b3], _, ((hcd.alloc _).grown hgrow (fun k e => by have := hro k e; omega)).setNew (by simp; omega) (by simp; omega) _, (Md.grown ((hMa.drew.trans hmd).alloc _) hgrow (fun k e => by have := hro k e; omega)).setCell (.inl (by simp; omega)) _,
                blk_setCell_ne B4 (by simp; omega), blk_setCell_ne (grown_blk hgrow (blk_alloc_lt (hmd.blk HRa.out (by omega))) (fun j e => by have := (hro j e).1; omega)) (by simp; omega), blk_setCell_ne N4 (by simp; omega), blk_setCell_to D4 rfl,
                (KD.out.push (lo := wa.heap.size) (by omega) (fun k e => (HKa.out.own_lt k e).2) (ht3.imp (fun k _ hk => by simpa using hk)) (Gr.al _ _) hown4 hgrow (by simpa using hat)).set (by simp; omega)⟩
          case rest =>
            obtain ⟨bs', kv', hcc, hMc, hBc, hRc, hNc, hDc, hKc⟩ := hcut
            have xc := cellAt hBc (i := 0) rfl
            have hscw := blkLt hNc
            clear na xa da fa
            have HRc := Lib.hid hRc
            have HNc := Lib.hid hNc
            have HDc := Lib.hid hDc
            have HKc := Lib.hid hKc
            have HBc := Lib.hid hBc
            clear hRc hNc hDc hKc hBc
            cases hi2 : isP K.L K.E p2 xRp
            · have H2 : Hid (isP K.L K.E p2 (⟨#[41]⟩ : ByteArray).data.toList = false) := hi2
              have hL2 := HL.out
              rw [hi2] at hL2
              simp only [Bool.false_eq_true, if_false] at hL2
              obtain ⟨y3, hy3, hL2⟩ := pbind_some hL2
              have HE3 := Lib.hid (fun w1 (hc : Ctx K p2 d w1) => expect_any K p2 d ⟨#[44]⟩ w1 hc y3 hy3)
              have HL3 := Lib.hid hL2
              clear hi2 hL2 HL hy3
              go_wp2_with fail
              refine (HI.out _ _ _ hcc).mono ?_
              rintro e wd ⟨rfl, hgd⟩
              rw [H2.out]
              have Bd := hgd.blk HBc.out
              have xd := cellAt Bd (i := 0) rfl
              go_wp2_with fail
              refine (HE3.out _ (hcc.gr hgd)).mono ?_
              rintro e we ⟨hme, hres⟩
              cases y3 with
              | err a er =>
                have hL4 := HL3.out
                simp only [] at hL4
                subst hL4 hres
                exact ⟨rfl, (hMc.trans (.of_gr hgd)).trans hme, rfl⟩
              | ok av p3 =>
                obtain ⟨v, rfl, rfl, hce⟩ := hres
                have Be := hme.blk Bd hne
                have xe := cellAt Be (i := 0) rfl
                cases hi3 : isP K.L K.E p3 xRp
                · have H3 : Hid (isP K.L K.E p3 (⟨#[41]⟩ : ByteArray).data.toList = false) := hi3
                  have hL4 := HL3.out
                  simp only [hi3, Bool.false_eq_true, if_false] at hL4
                  have HL4 := Lib.hid hL4
                  clear hi3 hL4 HL3
                  go_wp2_with fail
                  refine (HI.out _ _ _ hce).mono ?_
                  rintro e wf ⟨rfl, hgf⟩
                  rw [H3.out]
                  go_wp2_with fail
                  go_roundg g
                  case measure => omega
                  case rel =>
                    exact ⟨g, p3, ks ++ [x], bs', kv', rfl, hce.gr hgf, ((hMc.trans (.of_gr hgd)).trans hme).trans (.of_gr hgf), hgf.blk Be, hgf.blk (hme.blk (hgd.blk HRc.out) (by omega)), hgf.blk (hme.blk (hgd.blk HNc.out) hcR), hgf.blk (hme.blk (hgd.blk HDc.out) hbR),
                      ((HKc.out.gr hgd).grown hme (fun k e => by injection e with e; omega)).gr hgf, by simp; omega, HL4.out⟩
                · have H3 : Hid (isP K.L K.E p3 (⟨#[41]⟩ : ByteArray).data.toList = true) := hi3
                  have hL4 := HL3.out
                  simp only [hi3, if_true, failP, Option.some.injEq] at hL4
                  subst hL4
                  clear hi3
                  go_wp2_with fail
                  refine (HI.out _ _ _ hce).mono ?_
                  rintro e wf ⟨rfl, hgf⟩
                  rw [H3.out]
                  have xf := cellAt (hgf.blk Be) (i := 0) rfl
                  go_wp2_with fail
                  refine (fail_any K p3 d wf (hce.gr hgf)).mono ?_
                  rintro e wg ⟨rfl, hgg2⟩
                  go_wp2_with fail
                  exact ⟨rfl, (((hMc.trans (.of_gr hgd)).trans hme).trans (.of_gr hgf)).trans (.of_gr hgg2), rfl⟩
            · have H2 : Hid (isP K.L K.E p2 (⟨#[41]⟩ : ByteArray).data.toList = true) := hi2
              have hL2 := HL.out
              rw [hi2] at hL2
              simp only [if_true] at hL2
              have HL2 := Lib.hid hL2
              clear hi2 hL2 HL
              go_wp2_with fail
              refine (HI.out _ _ _ hcc).mono ?_
              rintro e wd ⟨rfl, hgd⟩
              rw [H2.out]
              go_wp2_with fail
              go_roundg g
              case measure => omega
              case rel =>
                exact ⟨g, p2, ks ++ [x], bs', kv', rfl, hcc.gr hgd, hMc.trans (.of_gr hgd), hgd.blk HBc.out, hgd.blk HRc.out, hgd.blk HNc.out, hgd.blk HDc.out, HKc.out.gr hgd, by simp; omega, HL2.out⟩
      · rw [hi] at hL'
        simp only [if_true, Option.some.injEq] at hL'
        have H1 : Hid (isP K.L K.E p' (⟨#[41]⟩ : ByteArray).data.toList = true) := hi
        have HL := Lib.hid hL'
        have hpl := isP_lt hi
        clear hi hL' hL
        go_wp2_with fail
        refine (HI.out _ _ _ HCW.out).mono ?_
        rintro e wa ⟨rfl, hga⟩
        rw [H1.out]
        have Ba := hga.blk HBX.out
        have xa := cellAt Ba (i := 0) rfl
        go_wp2_with fail
        refine (take_any K p' d _ (HCW.out.gr hga) hpl).mono ?_
        rintro e wb ⟨rfl, hcb, hmb⟩
        unfold tokV
        have Nb := hmb.blk (hga.blk HN.out) hcR
        have Db := hmb.blk (hga.blk HD.out) hbR
        have Rb := hmb.blk (hga.blk HRR.out) (by omega)
        have nb := cellAt Nb (i := 0) rfl
        have rb0 := cellAt Rb (i := 0) rfl
        have rbf := frozenAt Rb
        have hzb := blkLt Rb
        have hKb := (HK.out.gr hga).grown hmb (fun k e => by injection e with e; omega)
        have hMb := (HMW.out.trans (.of_gr hga)).trans hmb
        go_wp2_with fail
        refine bodyPost_ret (v := nodeV bn) (by simp [results, Tryz.results352, go_sem, rb0, hzb]) rfl ?_
        rw [← HL.out]
        refine ⟨?_, _, rfl, ⟨bn, rfl, ?_⟩, ?_⟩
        · exact hMb.setCell (.inl (by simp)) _
        · exact (hKb.set (by simp <;> omega)).tree (typ := []) (blk_setCell_ne Db (by simp <;> omega)) (by omega) (fun k hk => by omega)
        · exact hcb.setNew (by simp <;> omega) (by simp <;> omega) _
theorem en_pcall1 : Enters 352 := fun _ _ => by kernel_rfl
end Go.Proofs.YthniejnbkkkbnaaGreatDoor

namespace Go.Proofs.YthniejnbkkkbnaaGreatDoor
open Go.RowKit
set_option maxRecDepth 100000
set_option maxHeartbeats 1000000
attribute [local go_sem ↓] Go.wp_at_zero Go.wp_at_succ

theorem pcall_any (k : Nat) (hk : k ≤ 1000000) (ih : ∀ j, j < k → EAt j) (K : PK) (t : Tok) (p d : Nat) (w : World) (h : Ctx K p d w) (hd : d ≤ 40) (hp : p < K.L.length) (r : PR T) (hr : callP K.L K.E (k + 1) t d p = some r) :
    Calls Tryz.prog 346 #[ptrV K.rb, tokV t] w (PP K d w r (NewTree w)) := by
  obtain ⟨tk, tx, at_⟩ := t
  have HC := Lib.hid h
  have hrb := h.lt
  have hB := h.hB
  unfold callP at hr
  have HR := Lib.hid hr
  clear h hr
  have HD : Hid (∀ w1 bx tb, Ctx K p d w1 → Box K w1 bx → bx ≠ K.rb → w1.heap[tb]? = some (.cells #[.int .i64 tk, .string (S tx), .int .i64 at_] 136 (0, 0)) → tb ≠ K.rb →
      Calls Tryz.prog 210 #[ptrV K.rb, .func (.func 352) #[] #[.pointer (some ⟨bx, 0, none⟩), .pointer (some ⟨tb, 0, none⟩)]] w1 (PP K d w1 r (NewTree w1))) := fun w1 bx tb hc1 B1 hne T1 hnt => by
    rcases deeperP_some HR.out with ⟨hdd, rfl⟩ | ⟨hdd, hx⟩
    · exact deeper_any K p d w1 hc1 hd _ _ _ rfl (.err 0 0) _ (by unfold deeperP; rw [if_pos hdd]) en_pcall1 (fun h => by omega)
    · exact deeper_any K p d w1 hc1 hd _ _ _ rfl r r (by unfold deeperP; rw [if_neg (by omega)]) en_pcall1 (fun h w' hc' hm' =>
        call1_any k hk ih K tk tx at_ p (d + 1) w' hc' h bx tb (hm'.blk B1 hne) hne (hm'.blk T1 hnt) hnt hp r hx)
  unfold tokV
  go_enter Tryz.func346, Tryz.ntmps346
  go_wp2_with fail
  refine (HD.out _ _ _ (((HC.out.alloc _).alloc _).alloc _) (blk_alloc_lt (alloc2_fst _ _ _)) (by omega) (blk_alloc_lt (alloc2_snd _ _ _)) (by omega)).mono ?_
  rintro e w3 ⟨hm3, hres⟩
  have hM2 : Md K.rb w (((w.alloc (.cells #[ptrV K.rb] 106)).alloc (.cells #[.int .i64 tk, .string (S tx), .int .i64 at_] 136)).alloc (.cells #[.pointer none] 53)) := (((Md.refl _ _).alloc _).alloc _).alloc _
  cases r with
  | err a er =>
    subst hres
    exact ⟨rfl, hM2.trans hm3, rfl⟩
  | ok t p2 =>
    obtain ⟨v, rfl, ⟨b, rfl, ht⟩, hc3⟩ := hres
    have R3 := hm3.blk (alloc3_trd _ _ _ _) (by omega)
    have r3 := cellAt R3 (i := 0) rfl
    have f3 := frozenAt R3
    have hz3 := blkLt R3
    have HT : Hid (TreeAt w3 (fun k => w.heap.size + 2 < k) b t) := ht.imp (fun k _ hk => by simp at hk; omega)
    clear ht
    go_wp2_with fail
    refine bodyPost_ret (v := nodeV b) (by simp [results, Tryz.results346, go_sem, r3, hz3]) rfl ⟨?_, _, rfl, ⟨b, rfl, ?_⟩, ?_⟩
    · exact (hM2.trans hm3).setCell (.inl (by simp; omega)) _
    · exact TreeAt.imp (X := fun k => w.heap.size + 2 < k) (fun k _ hk => by omega) (by repeat' (first | (with_reducible exact HT.out) | (with_reducible refine TreeAt.al ?_) | (with_reducible refine TreeAt.dr ?_) | (with_reducible refine TreeAt.drN ?_) | (with_reducible refine TreeAt.set ?_ (by intro k hk; (try simp at hk); (try simp); omega))))
    · exact hc3.setNew (by simp; omega) (by simp; omega) _

end Go.Proofs.YthniejnbkkkbnaaGreatDoor
