/- Walks of layer parse: blocks. Walks of layer parse: blocks, statements. -/
import Derived.Test.YthniejnbkkkbnaaGreatDoorM27
import Derived.Test.YthniejnbkkkbnaaGreatDoorM35
set_option linter.all false
set_option linter.unusedSimpArgs false
set_option linter.unusedVariables false
namespace Go.Proofs.YthniejnbkkkbnaaGreatDoor
open Go.RowKit
set_option maxRecDepth 100000
set_option maxHeartbeats 2000000
attribute [local go_sem ↓] Go.wp_at_zero Go.wp_at_succ

/-- The contracts of the statements' walks, at so much fuel. -/
structure SAt (k : Nat) : Prop where
  stmt : ∀ (K : PK) (p d : Nat) (w : World), Ctx K p d w → d ≤ 40 → ∀ r, stmtP K.L K.E k d p = some r → Calls Tryz.prog 212 #[ptrV K.rb] w (PP K d w r (NewTree w))
  branch : ∀ (K : PK) (p d : Nat) (w : World), Ctx K p d w → d ≤ 40 → ∀ r, branchP K.L K.E k d p = some r → Calls Tryz.prog 256 #[ptrV K.rb] w (PP K d w r (NewTree w))
  block : ∀ (K : PK) (p d : Nat) (w : World), Ctx K p d w → d ≤ 40 → ∀ r, blockP K.L K.E k d p = some r → Calls Tryz.prog 155 #[ptrV K.rb] w (PP K d w r (NewTree w))

theorem block1_any (k : Nat) (hk : k ≤ 1000000) (ih : ∀ j, j < k → SAt j) (K : PK) (tk : Int) (tx : Str) (at_ : Int) (p d : Nat) (w : World) (h : Ctx K p d w) (hd : d ≤ 40) (bx : Nat) (hbx : Box K w bx) (hne : bx ≠ K.rb)
    (hT : nowP K.L K.E p = ⟨tk, tx, at_⟩) (hp : p < K.L.length) (r : PR T) (hr : blockLoopP K.L K.E k at_ d [] (p + 1) = some r) :
    Calls Tryz.prog 211 #[.pointer (some ⟨bx, 0, none⟩)] w (PP K d w r (NewTree w)) := by
  have hf := run_field_tok2
  have HC := Lib.hid h
  have HR := Lib.hid hr
  have HB := Lib.hid hbx
  have HTA := Lib.hid (fun w1 (hc : Ctx K p d w1) => take_any K p d w1 hc hp)
  rw [hT] at HTA
  unfold tokV at HTA
  have b0 := cellAt hbx (i := 0) rfl
  have hbl := blkLt hbx
  have hrb := h.lt
  have hB := h.hB
  clear h hbx hr hT
  go_enter Tryz.func211, Tryz.ntmps211
  go_wp2_with fail
  refine (HTA.out _ (HC.out.alloc _)).mono ?_
  rintro e w1 ⟨rfl, hc1, hm1⟩
  have B1 := hm1.blk (blk_alloc_lt HB.out) hne
  have b1 := cellAt B1 (i := 0) rfl
  have R1 := hm1.blk (blk_alloc _ _) (show w.heap.size ≠ K.rb by omega)
  have hz1 := blkLt R1
  have hM1 : Md K.rb w w1 := ((Md.refl _ _).alloc _).trans hm1
  clear hm1
  go_wp2_with fail
  refine (plain_any 6 at_ none 0 0 _).mono ?_
  rintro e w2 ⟨bn, rfl, hnb, hnd, hng⟩
  have B2 := hng.blk B1
  have R2 := hng.blk R1
  have hc2 := hc1.gr hng
  have hM2 := hM1.trans (.of_gr hng)
  have hbn := blkLt hnd
  have hz2 := blkLt R2
  have hbx2 := blkLt B2
  have HND := Lib.hid hnd
  clear hng B1 R1 hc1 hM1 hnd b0 b1
  go_wp2_with fail
  go_loopg [] k (fun gg wr => ∃ g p' ks bs kv, gg = g ∧ Ctx K p' d wr ∧ Md K.rb w wr ∧ Box K wr bx ∧ wr.heap[w.heap.size]? = some (.cells #[.pointer none] 53 (0, 0)) ∧ wr.heap[w2.heap.size]? = some (.cells #[ptrV bn] 53 (0, 0)) ∧
    wr.heap[bn]? = some (.cells #[.int .i64 6, .string (S []), .string (S []), .int .i64 0, .int .i64 at_, kv] 96 (0, 0)) ∧ KidsAt (w2.heap.size + 1) wr kv ks bs ∧ ks.length + g ≤ k ∧ Hid (blockLoopP K.L K.E g at_ d ks p' = some r))
  case atStart => exact ⟨k, p + 1, [], [], .slice none 0 0, rfl, hc2.alloc _, hM2.alloc _, blk_alloc_lt B2, blk_alloc_lt R2, blk_alloc _ _, blk_alloc_lt HND.out, KidsAt.nil _ _, by simp, HR.out⟩
  case round =>
    obtain ⟨g, p', ks, bs, kv, hgg, hc, hM, hBx, hRR, hN, hD, hK, hkl, hL⟩ := hrel
    obtain ⟨i0, hi0, hz0, hz1, hz2⟩ := info_parts info_node
    have HAN := Lib.hid (fun w1 (hc : Ctx K p' d w1) hi => accept_no K p' d ⟨#[125]⟩ w1 hc hi)
    have HAY := Lib.hid (fun w1 (hc : Ctx K p' d w1) hi => accept_yes K p' d ⟨#[125]⟩ w1 hc hi)
    have HCW := Lib.hid hc
    have HMW := Lib.hid hM
    have HBX := Lib.hid hBx
    have HRR := Lib.hid hRR
    have HN := Lib.hid hN
    have HD := Lib.hid hD
    have HK := Lib.hid hK
    have x0 := cellAt hBx (i := 0) rfl
    have hsw : w2.heap.size < wr.heap.size := blkLt hN
    have hbnw := blkLt hD
    have hcR : w2.heap.size ≠ K.rb := by omega
    have hbR : bn ≠ K.rb := by omega
    have hbase : K.B ≤ w2.heap.size := by omega
    clear hc hM hBx hRR hN hD hK
    cases g with
    | zero => have := hL.out; simp [blockLoopP] at this
    | succ g =>
      have hL' := hL.out
      unfold blockLoopP at hL'
      cases hi : isP K.L K.E p' xRb
      · rw [hi] at hL'
        simp only [Bool.false_eq_true, if_false] at hL'
        have HA := Lib.hid (HAN.out _ HCW.out hi)
        obtain ⟨y, hy, hL'⟩ := pbind_some hL'
        have HE := Lib.hid (fun w1 (hc : Ctx K p' d w1) => (ih g (by omega)).stmt K p' d w1 hc hd y hy)
        have HL := Lib.hid hL'
        clear hi hL' hL hy
        go_wp2_with fail
        refine HA.out.mono ?_
        rintro e wa ⟨rfl, hga⟩
        have Ba := hga.blk HBX.out
        have Na := hga.blk HN.out
        have Da := hga.blk HD.out
        have xa := cellAt Ba (i := 0) rfl
        have na := cellAt Na (i := 0) rfl
        have da := cellAt Da (i := 5) rfl
        have fa := frozenAt Da
        have hca := HCW.out.gr hga
        have hMa := HMW.out.trans (.of_gr hga)
        have hsa := hga.size
        have HBa := Lib.hid Ba
        have HNa := Lib.hid Na
        have HDa := Lib.hid Da
        have HRa := Lib.hid (hga.blk HRR.out)
        have HKa := Lib.hid (HK.out.gr hga)
        clear Ba Na Da hga HK HRR HD HN HBX HCW HMW
        cases y with
        | err a er =>
          have HL2 := HL.out
          simp only [] at HL2
          subst HL2
          go_wp2_with fail
          refine wp_region_held_drew (S := fun w' => w'.cell? ⟨w2.heap.size, 0, none⟩ = some (ptrV bn) ∧ w'.cell? ⟨bx, 0, none⟩ = some (ptrV K.rb)) rfl ⟨na, by exact xa⟩ (fun hS => ?_)
          refine wpAnyH_take (i := 0) (v := ?_) rfl (by kernel_rfl) (by kernel_rfl) (by kernel_rfl) (fun _ _ _ h => h) (Or.inl ⟨by rfl, ?_⟩) hS ?_
          rotate_left
          · intro w' hSw; (try dsimp only at hSw); go_simp; try with_reducible rfl
          (try simp only [Act.put, List.setIfInBounds_toArray, List.set_cons_zero, List.set_cons_succ])
          refine wpAnyH_take (i := 1) (v := ?_) rfl (by kernel_rfl) (by kernel_rfl) (by kernel_rfl) (fun _ _ _ h => h) (Or.inl ⟨by rfl, ?_⟩) hS ?_
          rotate_left
          · intro w' hSw; (try dsimp only at hSw); go_simp; try with_reducible rfl
          (try simp only [Act.put, List.setIfInBounds_toArray, List.set_cons_zero, List.set_cons_succ])
          refine wpAnyH_take (i := 2) (v := ?_) rfl (by kernel_rfl) (by kernel_rfl) (by kernel_rfl) (fun _ _ _ h => h) (Or.inl ⟨by rfl, ?_⟩) hS ?_
          rotate_left
          · intro w' hSw; (try dsimp only at hSw); go_simp; try with_reducible rfl
          (try simp only [Act.put, List.setIfInBounds_toArray, List.set_cons_zero, List.set_cons_succ])
          refine wpAnyH_take (i := 3) (v := ?_) rfl (by kernel_rfl) (by kernel_rfl) (by kernel_rfl) (fun _ _ _ h => h) (Or.inl ⟨by rfl, ?_⟩) hS ?_
          rotate_left
          · intro w' hSw; (try dsimp only at hSw); go_simp; try with_reducible rfl
          (try simp only [Act.put, List.setIfInBounds_toArray, List.set_cons_zero, List.set_cons_succ])
          refine wpAnyH_take (i := 4) (v := ?_) rfl (by kernel_rfl) (by kernel_rfl) (by kernel_rfl) (fun _ _ _ h => h) (Or.inl ⟨by rfl, ?_⟩) hS ?_
          rotate_left
          · intro w' hSw; (try dsimp only at hSw); go_simp; try with_reducible rfl
          (try simp only [Act.put, List.setIfInBounds_toArray, List.set_cons_zero, List.set_cons_succ])
          refine wpAnyH_take (i := 5) (v := ?_) rfl (by kernel_rfl) (by kernel_rfl) (by kernel_rfl) (fun _ _ _ h => h) (Or.inl ⟨by rfl, ?_⟩) hS ?_
          rotate_left
          · intro w' hSw; (try dsimp only at hSw); go_simp; try with_reducible rfl
          (try simp only [Act.put, List.setIfInBounds_toArray, List.set_cons_zero, List.set_cons_succ])
          refine wpAnyH_take (i := 7) (v := ?_) rfl (by kernel_rfl) (by kernel_rfl) (by kernel_rfl) (fun _ _ _ h => h) (Or.inl ⟨by rfl, ?_⟩) hS ?_
          rotate_left
          · intro w' hSw; (try dsimp only at hSw); go_simp; try with_reducible rfl
          (try simp only [Act.put, List.setIfInBounds_toArray, List.set_cons_zero, List.set_cons_succ])
          refine wpAnyH_ready (rs := [6, 8]) (by kernel_rfl) (by simp) ?_
          refine AllReadyH.cons rfl (fun K' hK => ?_) (AllReadyH.cons rfl (fun K' hK => ?_) AllReadyH.nil)
          · simp only [List.getElem_toArray, List.getElem_cons_succ, List.getElem_cons_zero]
            go_simp
            refine hK.out _ _ ⟨na, by exact xa⟩ (fun hS => ?_)
            (try simp only [Act.put, List.setIfInBounds_toArray, List.set_cons_zero, List.set_cons_succ])
            refine wpAnyH_ready (rs := [8]) (by kernel_rfl) (by simp) ?_
            refine AllReadyH.cons rfl (fun K' hK => ?_) AllReadyH.nil
            simp only [List.getElem_toArray, List.getElem_cons_succ, List.getElem_cons_zero]
            go_simp
            refine (HE.out _ (by first | exact hca | exact hca.drew)).mono ?_
            rintro e wd ⟨hmd, rfl⟩
            exact ⟨rfl, Md.trans (by first | exact hMa | exact hMa.drew) hmd, rfl⟩
          · simp only [List.getElem_toArray, List.getElem_cons_succ, List.getElem_cons_zero]
            go_simp
            refine (HE.out _ (by first | exact hca | exact hca.drew)).mono ?_
            rintro e wd ⟨hmd, rfl⟩
            exact ⟨rfl, Md.trans (by first | exact hMa | exact hMa.drew) hmd, rfl⟩
        | ok x p2 =>
          simp only [] at HL
          go_wp2_with fail
          refine wp_region_K 13 (S := fun w' => w'.cell? ⟨w2.heap.size, 0, none⟩ = some (ptrV bn) ∧ w'.cell? ⟨bx, 0, none⟩ = some (ptrV K.rb) ∧ w'.cell? ⟨bn, 5, none⟩ = some kv) rfl ⟨na, xa, da⟩ (fun hS => ?_)
          refine wpAnyK_take (i := 0) (v := ?_) rfl (by kernel_rfl) (by kernel_rfl) (by kernel_rfl) (by kernel_rfl) (fun _ _ _ h => h) (Or.inl ⟨by rfl, ?_⟩) hS ?_
          rotate_left
          · intro w' hSw; (try dsimp only at hSw); go_simp; try with_reducible rfl
          (try simp only [List.getElem_toArray, List.getElem_cons_succ, List.getElem_cons_zero, Act.put, List.setIfInBounds_toArray, List.set_cons_zero, List.set_cons_succ])
          refine wpAnyK_take (i := 1) (v := ?_) rfl (by kernel_rfl) (by kernel_rfl) (by kernel_rfl) (by kernel_rfl) (fun _ _ _ h => h) (Or.inl ⟨by rfl, ?_⟩) hS ?_
          rotate_left
          · intro w' hSw; (try dsimp only at hSw); go_simp; try with_reducible rfl
          (try simp only [List.getElem_toArray, List.getElem_cons_succ, List.getElem_cons_zero, Act.put, List.setIfInBounds_toArray, List.set_cons_zero, List.set_cons_succ])
          refine wpAnyK_take (i := 2) (v := ?_) rfl (by kernel_rfl) (by kernel_rfl) (by kernel_rfl) (by kernel_rfl) (fun _ _ _ h => h) (Or.inl ⟨by rfl, ?_⟩) hS ?_
          rotate_left
          · intro w' hSw; (try dsimp only at hSw); go_simp; try with_reducible rfl
          (try simp only [List.getElem_toArray, List.getElem_cons_succ, List.getElem_cons_zero, Act.put, List.setIfInBounds_toArray, List.set_cons_zero, List.set_cons_succ])
          refine wpAnyK_take (i := 3) (v := ?_) rfl (by kernel_rfl) (by kernel_rfl) (by kernel_rfl) (by kernel_rfl) (fun _ _ _ h => h) (Or.inl ⟨by rfl, ?_⟩) hS ?_
          rotate_left
          · intro w' hSw; (try dsimp only at hSw); go_simp; try with_reducible rfl
          (try simp only [List.getElem_toArray, List.getElem_cons_succ, List.getElem_cons_zero, Act.put, List.setIfInBounds_toArray, List.set_cons_zero, List.set_cons_succ])
          refine wpAnyK_take (i := 4) (v := ?_) rfl (by kernel_rfl) (by kernel_rfl) (by kernel_rfl) (by kernel_rfl) (fun _ _ _ h => h) (Or.inl ⟨by rfl, ?_⟩) hS ?_
          rotate_left
          · intro w' hSw; (try dsimp only at hSw); go_simp; try with_reducible rfl
          (try simp only [List.getElem_toArray, List.getElem_cons_succ, List.getElem_cons_zero, Act.put, List.setIfInBounds_toArray, List.set_cons_zero, List.set_cons_succ])
          refine wpAnyK_take (i := 5) (v := ?_) rfl (by kernel_rfl) (by kernel_rfl) (by kernel_rfl) (by kernel_rfl) (fun _ _ _ h => h) (Or.inl ⟨by rfl, ?_⟩) hS ?_
          rotate_left
          · intro w' hSw; (try dsimp only at hSw); go_simp; try with_reducible rfl
          (try simp only [List.getElem_toArray, List.getElem_cons_succ, List.getElem_cons_zero, Act.put, List.setIfInBounds_toArray, List.set_cons_zero, List.set_cons_succ])
          refine wpAnyK_take (i := 6) (v := ?_) rfl (by kernel_rfl) (by kernel_rfl) (by kernel_rfl) (by kernel_rfl) (fun _ _ _ h => h) (Or.inl ⟨by rfl, ?_⟩) hS ?_
          rotate_left
          · intro w' hSw; (try dsimp only at hSw); go_simp; try with_reducible rfl
          (try simp only [List.getElem_toArray, List.getElem_cons_succ, List.getElem_cons_zero, Act.put, List.setIfInBounds_toArray, List.set_cons_zero, List.set_cons_succ])
          refine wpAnyK_take (i := 7) (v := ?_) rfl (by kernel_rfl) (by kernel_rfl) (by kernel_rfl) (by kernel_rfl) (fun _ _ _ h => h) (Or.inl ⟨by rfl, ?_⟩) hS ?_
          rotate_left
          · intro w' hSw; (try dsimp only at hSw); go_simp; try with_reducible rfl
          (try simp only [List.getElem_toArray, List.getElem_cons_succ, List.getElem_cons_zero, Act.put, List.setIfInBounds_toArray, List.set_cons_zero, List.set_cons_succ])
          refine wpAnyK_one (i := 8) (by kernel_rfl) rfl (fun K' hK => ?_)
          simp only [List.getElem_toArray, List.getElem_cons_succ, List.getElem_cons_zero]
          go_simp
          refine (HE.out _ (by first | exact hca | exact hca.drew)).mono ?_
          rintro e wd ⟨hmd, v, rfl, ⟨b3, rfl, ht3⟩, hcd⟩
          have Nd : wd.heap[w2.heap.size]? = some (.cells #[ptrV bn] 53 (0, 0)) := hmd.blk HNa.out hcR
          have Bd : Box K wd bx := hmd.blk HBa.out hne
          have Dd : wd.heap[bn]? = some (.cells #[.int .i64 6, .string (S []), .string (S []), .int .i64 0, .int .i64 at_, kv] 96 (0, 0)) := hmd.blk HDa.out hbR
          have hzd := blkLt Nd
          have hbnd := blkLt Dd
          have hsd := hmd.size
          have KD : Hid (KidsAt (w2.heap.size + 1) wd kv ks bs) := KidsAt.grown (row := some K.rb) (HKa.out.gr (Gr.refl wa).drew) hmd (fun k e => by injection e with e; omega)
          refine hK.out _ _ ⟨cellAt (Nd) rfl, cellAt (Bd) rfl, cellAt (Dd) rfl⟩ (fun hS => ?_)
          (try simp only [Act.put, List.setIfInBounds_toArray, List.set_cons_zero, List.set_cons_succ])
          refine wpAnyK_one (i := 9) (by kernel_rfl) rfl (fun K' hK => ?_)
          simp only [List.getElem_toArray, List.getElem_cons_succ, List.getElem_cons_zero]
          go_simp
          refine hK.out _ _ ⟨cellAt (blk_alloc_lt Nd) rfl, cellAt (blk_alloc_lt Bd) rfl, cellAt (blk_alloc_lt Dd) rfl⟩ (fun hS => ?_)
          (try simp only [Act.put, List.setIfInBounds_toArray, List.set_cons_zero, List.set_cons_succ])
          refine wpAnyK_one (i := 10) (by kernel_rfl) rfl (fun K' hK => ?_)
          simp only [List.getElem_toArray, List.getElem_cons_succ, List.getElem_cons_zero]
          refine Eq.mpr (if_pos (by rfl)) ?_
          refine wp_append_lies _ _ _ _ (by rfl) (w2.heap.size + 1) 53 i0 _ 1 8 Tryz.underlying94 hi0 hz0 hz1 hz2 (by rfl) (by decide) kv ks.length (bs.map ptrV) (by rfl) (ownGr KD.out.own (Gr.al _ _)) ⟨wd.heap.size, 0, none⟩ 1 1 [ptrV b3] (by rfl) (by rfl) (news_ptr (blk_alloc _ _)) (one_ptr _) (by omega) (by unfold maxLen; omega) (by omega) (by simp; omega) (wd.heap.size + 1) (by simp) ?_
          intro g4 cap w4 hown4 hgrow hat hlt4
          have hro : ∀ k, kv.ownBlock = some k → w2.heap.size + 1 ≤ k ∧ k < wd.heap.size := KD.out.own_lt
          have N4 : w4.heap[w2.heap.size]? = some (.cells #[ptrV bn] 53 (0, 0)) := grown_blk hgrow (blk_alloc_lt Nd) (fun j e => by have := (hro j e).1; omega)
          have B4 : Box K w4 bx := grown_blk hgrow (blk_alloc_lt Bd) (fun j e => by have := (hro j e).1; omega)
          have D4 : w4.heap[bn]? = some (.cells #[.int .i64 6, .string (S []), .string (S []), .int .i64 0, .int .i64 at_, kv] 96 (0, 0)) := grown_blk hgrow (blk_alloc_lt Dd) (fun j e => by have := (hro j e).1; omega)
          have n4 := cellAt N4 (i := 0) rfl
          have x4 := cellAt B4 (i := 0) rfl
          have d4 := cellAt D4 (i := 5) rfl
          have f4 := frozenAt D4
          refine hK.out _ _ ⟨n4, x4, d4⟩ (fun hS => ?_)
          (try simp only [Act.put, List.setIfInBounds_toArray, List.set_cons_zero, List.set_cons_succ])
          refine wpAnyK_one (i := 11) (by kernel_rfl) rfl (fun K' hK => ?_)
          simp only [List.getElem_toArray, List.getElem_cons_succ, List.getElem_cons_zero]
          go_simp
          refine hK.out _ _ ⟨n4, x4, d4⟩ (fun hS => ?_)
          (try simp only [Act.put, List.setIfInBounds_toArray, List.set_cons_zero, List.set_cons_succ])
          refine wpAnyK_one (i := 12) (by kernel_rfl) rfl (fun K' hK => ?_)
          simp only [List.getElem_toArray, List.getElem_cons_succ, List.getElem_cons_zero]
          go_simp
          refine hK.out _ _ ⟨n4, x4, d4⟩ (fun hS => ?_)
          (try simp only [Act.put, List.setIfInBounds_toArray, List.set_cons_zero, List.set_cons_succ])
          refine wpAnyK_end (by kernel_rfl) rfl (by kernel_rfl) ?_
          simp only [List.getElem_toArray, List.getElem_cons_succ, List.getElem_cons_zero]
          go_simp
          clear hK hS
          all_goals
            go_wp2_with fail
            go_roundg g
            case measure => omega
            case rel =>
              exact ⟨g, p2, ks ++ [x], bs ++ [b3], _, rfl, ((hcd.alloc _).grown hgrow (fun k e => by have := hro k e; omega)).setNew (by simp; omega) (by simp; omega) _, (Md.grown ((hMa.drew.trans hmd).alloc _) hgrow (fun k e => by have := hro k e; omega)).setCell (.inl (by simp; omega)) _,
                blk_setCell_ne B4 (by simp; omega), blk_setCell_ne (grown_blk hgrow (blk_alloc_lt (hmd.blk HRa.out (by omega))) (fun j e => by have := (hro j e).1; omega)) (by simp; omega), blk_setCell_ne N4 (by simp; omega), blk_setCell_to D4 rfl,
                (KD.out.push (lo := wa.heap.size) (by omega) (fun k e => (HKa.out.own_lt k e).2) (ht3.imp (fun k _ hk => by simpa using hk)) (Gr.al _ _) hown4 hgrow (by simpa using hat)).set (by simp; omega), by simp; omega, HL.out⟩
      · rw [hi] at hL'
        simp only [if_true, Option.some.injEq] at hL'
        have HA := Lib.hid (HAY.out _ HCW.out hi)
        have HL := Lib.hid hL'
        clear hi hL' hL
        go_wp2_with fail
        refine HA.out.mono ?_
        rintro e wb ⟨rfl, hcb, hmb⟩
        have Nb := hmb.blk HN.out hcR
        have Db := hmb.blk HD.out hbR
        have Rb := hmb.blk HRR.out (by omega)
        have nb := cellAt Nb (i := 0) rfl
        have rb0 := cellAt Rb (i := 0) rfl
        have rbf := frozenAt Rb
        have hzb := blkLt Rb
        have hKb := HK.out.grown hmb (fun k e => by injection e with e; omega)
        have hMb := HMW.out.trans hmb
        go_wp2_with fail
        refine bodyPost_ret (v := nodeV bn) (by simp [results, Tryz.results211, go_sem, rb0, hzb]) rfl ?_
        rw [← HL.out]
        refine ⟨?_, _, rfl, ⟨bn, rfl, ?_⟩, ?_⟩
        · exact hMb.setCell (.inl (by simp)) _
        · exact (hKb.set (by simp <;> omega)).tree (typ := []) (blk_setCell_ne Db (by simp <;> omega)) (by omega) (fun k hk => by omega)
        · exact hcb.setNew (by simp <;> omega) (by simp <;> omega) _
theorem en_block1 : Enters 211 := fun _ _ => by kernel_rfl
end Go.Proofs.YthniejnbkkkbnaaGreatDoor

namespace Go.Proofs.YthniejnbkkkbnaaGreatDoor
open Go.RowKit
set_option maxRecDepth 100000
set_option maxHeartbeats 2000000
attribute [local go_sem ↓] Go.wp_at_zero Go.wp_at_succ

theorem block_any (k : Nat) (hk : k ≤ 1000000) (ih : ∀ j, j < k → SAt j) (K : PK) (p d : Nat) (w : World) (h : Ctx K p d w) (hd : d ≤ 40) (r : PR T) (hr : blockP K.L K.E (k + 1) d p = some r) :
    Calls Tryz.prog 155 #[ptrV K.rb] w (PP K d w r (NewTree w)) := by
  obtain ⟨⟨tk, tx, at_⟩, hT⟩ : ∃ T, nowP K.L K.E p = T := ⟨_, rfl⟩
  have HTT := Lib.hid hT
  have HC := Lib.hid h
  have hrb := h.lt
  have hB := h.hB
  unfold blockP at hr
  have HI := Lib.hid (fun w1 (hc : Ctx K p d w1) => is_any K p d ⟨#[123]⟩ w1 hc)
  clear h hT
  cases h1 : isP K.L K.E p xLb
  · rw [h1] at hr
    simp only [Bool.false_eq_true, if_false, failP, Option.some.injEq] at hr
    subst hr
    have H1 := Lib.hid h1
    clear h1
    go_enter Tryz.func155, Tryz.ntmps155
    go_wp2_with fail
    refine (HI.out _ ((HC.out.alloc _).alloc _)).mono ?_
    rintro e w1 ⟨rfl, hg1⟩
    rw [show isP K.L K.E p (⟨#[123]⟩ : ByteArray).data.toList = false from H1.out]
    have B1 := hg1.blk (alloc2_fst _ _ _)
    have b1 := cellAt B1 (i := 0) rfl
    have hc1 := ((HC.out.alloc _).alloc _).gr hg1
    go_wp2_with fail
    refine (fail_any K p d w1 hc1).mono ?_
    rintro e w2 ⟨rfl, hg2⟩
    go_wp2_with fail
    exact ⟨rfl, (((Md.refl _ _).alloc _).alloc _).trans ((Md.of_gr hg1).trans (.of_gr hg2)), rfl⟩
  · rw [h1] at hr
    simp only [if_true] at hr
    have hp := isP_lt h1
    have H1 := Lib.hid h1
    have HR := Lib.hid hr
    clear h1 hr
    go_enter Tryz.func155, Tryz.ntmps155
    go_wp2_with fail
    refine (HI.out _ ((HC.out.alloc _).alloc _)).mono ?_
    rintro e w1 ⟨rfl, hg1⟩
    rw [show isP K.L K.E p (⟨#[123]⟩ : ByteArray).data.toList = true from H1.out]
    have B1 := hg1.blk (alloc2_fst _ _ _)
    have R1 := hg1.blk (alloc2_snd _ _ _)
    have b1 := cellAt B1 (i := 0) rfl
    have hz1 := blkLt R1
    have hm1 : Md K.rb w w1 := (((Md.refl _ _).alloc _).alloc _).trans (.of_gr hg1)
    have hc1 := ((HC.out.alloc _).alloc _).gr hg1
    clear hg1
    have HD : Hid (Calls Tryz.prog 210 #[ptrV K.rb, .func (.func 211) #[] #[.pointer (some ⟨w.heap.size, 0, none⟩)]] w1 (PP K d w1 r (NewTree w1))) := by
      rcases deeperP_some HR.out with ⟨hdd, rfl⟩ | ⟨hdd, hx⟩
      · exact deeper_any K p d w1 hc1 hd _ _ _ rfl (.err 0 0) _ (by unfold deeperP; rw [if_pos hdd]) en_block1 (fun h => by omega)
      · exact deeper_any K p d w1 hc1 hd _ _ _ rfl r r (by unfold deeperP; rw [if_neg (by omega)]) en_block1 (fun h w' hc' hm' =>
          block1_any k hk ih K tk tx at_ p (d + 1) w' hc' h _ (hm'.blk B1 (by omega)) (by omega) HTT.out hp r (by rw [HTT.out] at hx; exact hx))
    go_wp2_with fail
    refine HD.out.mono ?_
    rintro e w2 ⟨hm2, hres⟩
    cases r with
    | err a er =>
      subst hres
      exact ⟨rfl, hm1.trans hm2, rfl⟩
    | ok t p2 =>
      obtain ⟨v, rfl, ⟨b, rfl, ht⟩, hc2⟩ := hres
      have R2 := hm2.blk R1 (by omega)
      have r2 := cellAt R2 (i := 0) rfl
      have f2 := frozenAt R2
      have hz2 := blkLt R2
      have HT : Hid (TreeAt w2 (fun k => w.heap.size + 1 < k) b t) := ht.imp (fun k _ hk => by omega)
      clear ht HR HD
      go_wp2_with fail
      refine bodyPost_ret (v := nodeV b) (by simp [results, Tryz.results155, go_sem, r2, hz2]) rfl ⟨?_, _, rfl, ⟨b, rfl, ?_⟩, ?_⟩
      · exact (hm1.trans hm2).setCell (.inl (by simp)) _
      · exact TreeAt.imp (X := fun k => w.heap.size + 1 < k) (fun k _ hk => by omega) (by repeat' (first | (with_reducible exact HT.out) | (with_reducible refine TreeAt.al ?_) | (with_reducible refine TreeAt.dr ?_) | (with_reducible refine TreeAt.drN ?_) | (with_reducible refine TreeAt.set ?_ (by intro k hk; (try simp at hk); (try simp); omega))))
      · exact hc2.setNew (by simp; omega) (by simp; omega) _


theorem stmt_if (k : Nat) (ih : SAt k) (K : PK) (p d : Nat) (w : World) (h : Ctx K p d w) (hd : d ≤ 40) (hi : isP K.L K.E p xIf = true) (r : PR T) (hr : branchP K.L K.E k d p = some r) :
    Calls Tryz.prog 212 #[ptrV K.rb] w (PP K d w r (NewTree w)) := by
  have HC := Lib.hid h
  have hrb := h.lt
  have hB := h.hB
  have HI := Lib.hid (fun (x : ByteArray) w1 (hc : Ctx K p d w1) => is_any K p d x w1 hc)
  have H1 : Hid (isP K.L K.E p (⟨#[105, 102]⟩ : ByteArray).data.toList = true) := hi
  have HBR := Lib.hid (fun w1 (hc : Ctx K p d w1) => ih.branch K p d w1 hc hd r hr)
  clear h hi hr
  go_enter Tryz.func212, Tryz.ntmps212
  go_wp2_with fail
  refine (HI.out _ _ (HC.out.alloc _)).mono ?_
  rintro e w2 ⟨rfl, hg2⟩
  rw [H1.out]
  have R2 := hg2.blk (blk_alloc _ _)
  have hl2 := blkLt R2
  have hc2 := (HC.out.alloc _).gr hg2
  have hM2 : Md K.rb w w2 := ((Md.refl _ _).alloc _).trans (.of_gr hg2)
  clear hg2
  go_wp2_with fail
  refine (HBR.out _ hc2).mono ?_
  rintro e w3 ⟨hm3, hres⟩
  cases r with
  | err a er =>
    subst hres
    exact ⟨rfl, hM2.trans hm3, rfl⟩
  | ok t p2 =>
    obtain ⟨v, rfl, ⟨b, rfl, ht⟩, hc3⟩ := hres
    have R3 := hm3.blk R2 (by omega)
    have r3 := cellAt R3 (i := 0) rfl
    have f3 := frozenAt R3
    have hz3 := blkLt R3
    have HT : Hid (TreeAt w3 (fun k => w.heap.size < k) b t) := ht.imp (fun k _ hk => by omega)
    clear ht
    go_wp2_with fail
    refine bodyPost_ret (v := nodeV b) (by simp [results, Tryz.results212, go_sem, r3, hz3]) rfl ⟨?_, _, rfl, ⟨b, rfl, ?_⟩, ?_⟩
    · exact (hM2.trans hm3).setCell (.inl (by simp)) _
    · exact TreeAt.imp (X := fun k => w.heap.size < k) (fun k _ hk => by omega) (by repeat' (first | (with_reducible exact HT.out) | (with_reducible refine TreeAt.al ?_) | (with_reducible refine TreeAt.dr ?_) | (with_reducible refine TreeAt.drN ?_) | (with_reducible refine TreeAt.set ?_ (by intro k hk; (try simp at hk); (try simp); omega))))
    · exact hc3.setNew hB (by simp; omega) _
theorem stmt_simple (simple : ∀ (K : PK) (p d : Nat) (w : World), Ctx K p d w → d ≤ 40 → ∀ k r, k ≤ 1000000 → simpleP K.L K.E k d p = some r → Calls Tryz.prog 258 #[ptrV K.rb] w (PP K d w r (NewTree w)))
    (k : Nat) (hk : k ≤ 1000000) (K : PK) (p d : Nat) (w : World) (h : Ctx K p d w) (hd : d ≤ 40) (hi : isP K.L K.E p xIf = false) (hf : isP K.L K.E p xFor = false) (r : PR T)
    (hr : pbind (simpleP K.L K.E k d p) (fun x p2 => pbind (expectP K.L K.E p2 xSemi) fun _ p3 => some (.ok x p3)) = some r) :
    Calls Tryz.prog 212 #[ptrV K.rb] w (PP K d w r (NewTree w)) := by
  have HC := Lib.hid h
  have hrb := h.lt
  have hB := h.hB
  have HI := Lib.hid (fun (x : ByteArray) w1 (hc : Ctx K p d w1) => is_any K p d x w1 hc)
  have H1 : Hid (isP K.L K.E p (⟨#[105, 102]⟩ : ByteArray).data.toList = false) := hi
  have H2 : Hid (isP K.L K.E p (⟨#[102, 111, 114]⟩ : ByteArray).data.toList = false) := hf
  obtain ⟨y, hy, hr⟩ := pbind_some hr
  have HS := Lib.hid (fun w1 (hc : Ctx K p d w1) => simple K p d w1 hc hd k y hk hy)
  clear h hi hf hy
  go_enter Tryz.func212, Tryz.ntmps212
  go_wp2_with fail
  refine (HI.out _ _ (HC.out.alloc _)).mono ?_
  rintro e w1 ⟨rfl, hg1⟩
  rw [H1.out]
  have R1 := hg1.blk (blk_alloc _ _)
  have hc1 := (HC.out.alloc _).gr hg1
  have hM1 : Md K.rb w w1 := ((Md.refl _ _).alloc _).trans (.of_gr hg1)
  clear hg1
  go_wp2_with fail
  refine (HI.out _ _ hc1).mono ?_
  rintro e w2 ⟨rfl, hg2⟩
  rw [H2.out]
  have R2 := hg2.blk R1
  have hl2 := blkLt R2
  have hc2 := hc1.gr hg2
  have hM2 := hM1.trans (.of_gr hg2)
  clear hg2
  go_wp2_with fail
  refine (HS.out _ hc2).mono ?_
  rintro e w3 ⟨hm3, hres⟩
  cases y with
  | err a er =>
    subst hr hres
    exact ⟨rfl, hM2.trans hm3, rfl⟩
  | ok t p2 =>
    obtain ⟨v, rfl, ⟨b, rfl, ht⟩, hc3⟩ := hres
    have R3 := hm3.blk R2 (by omega)
    have hz3 := blkLt R3
    have hM3 := hM2.trans hm3
    obtain ⟨y3, hy3, hr⟩ := pbind_some hr
    have HE3 := Lib.hid (expect_any K p2 d ⟨#[59]⟩ _ (hc3.alloc (.cells #[ptrV b] 53)) y3 hy3)
    clear hy3 hm3
    go_wp2_with fail
    refine HE3.out.mono ?_
    rintro e w4 ⟨hm4, hres⟩
    cases y3 with
    | err a er =>
      subst hr hres
      exact ⟨rfl, (hM3.alloc _).trans hm4, rfl⟩
    | ok t3 p3 =>
      injection hr with hr
      subst hr
      obtain ⟨v, rfl, rfl, hc4⟩ := hres
      have R4 := hm4.blk (blk_alloc_lt (o' := .cells #[ptrV b] 53) R3) (show w.heap.size ≠ K.rb by omega)
      have r4 := cellAt R4 (i := 0) rfl
      have f4 := frozenAt R4
      have hz4 := blkLt R4
      have n4 := cellAt (hm4.blk (blk_alloc w3 (.cells #[ptrV b] 53)) (by omega)) (i := 0) rfl
      have HT : Hid (TreeAt w4 (fun k => w.heap.size < k) b t) := Md.tree (ht.al.imp (Y := fun k => w.heap.size < k) (fun k _ hk => by omega)) (fun k hk => by omega) hm4
      clear R1 R2 R3 R4 HE3
      go_wp2_with fail
      refine bodyPost_ret (v := nodeV b) (by simp [results, Tryz.results212, go_sem, r4, hz4]) rfl ⟨?_, _, rfl, ⟨b, rfl, ?_⟩, ?_⟩
      · exact ((hM3.alloc _).trans hm4).setCell (.inl (by simp)) _
      · exact TreeAt.imp (X := fun k => w.heap.size < k) (fun k _ hk => Nat.le_of_lt hk) (by repeat' (first | (with_reducible exact HT.out) | (with_reducible refine TreeAt.al ?_) | (with_reducible refine TreeAt.dr ?_) | (with_reducible refine TreeAt.drN ?_) | (with_reducible refine TreeAt.set ?_ (by intro k hk; (try simp at hk); (try simp); omega))))
      · exact hc4.setNew hB (by simp; omega) _
end Go.Proofs.YthniejnbkkkbnaaGreatDoor
