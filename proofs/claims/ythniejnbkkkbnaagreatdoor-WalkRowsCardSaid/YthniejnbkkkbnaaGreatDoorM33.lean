/- Walks of layer parse: fields behind. -/
import Derived.Test.YthniejnbkkkbnaaGreatDoorM32
set_option linter.all false
set_option linter.unusedSimpArgs false
set_option linter.unusedVariables false
namespace Go.Proofs.YthniejnbkkkbnaaGreatDoor
open Go.RowKit
set_option maxRecDepth 100000
set_option maxHeartbeats 1000000
attribute [local go_sem ↓] Go.wp_at_zero Go.wp_at_succ

/-- How far a reader has come, as its cell has it. -/
def posOf (rb : Nat) (w : World) : Nat := (intOf ((w.cell? ⟨rb, 1, none⟩).getD (.int .i64 0))).toNat
theorem posOf_ctx {K : PK} {p d : Nat} {w : World} (h : Ctx K p d w) : posOf K.rb w = p := by
  unfold posOf
  rw [h.cells.2.1]
  simp [intOf]

theorem wordPP_ok {L : List Tok} {E : Int} {p p3 : Nat} {t : Tok} (h : wordPP L E p = some (.ok t p3)) : p3 = p + 1 ∧ t = nowP L E p := by
  unfold wordPP failP at h
  split at h
  · injection h with h; injection h with h1 h2; exact ⟨h2.symm, h1.symm⟩
  · injection h with h; cases h
theorem postfix_any (k : Nat) (ih : EAt k) (K : PK) (p d : Nat) (w : World) (h : Ctx K p d w) (hd : d ≤ 40) (r : PR T) (hr : postfixP K.L K.E (k + 1) d p = some r) :
    Calls Tryz.prog 320 #[ptrV K.rb] w (PP K d w r (NewTree w)) := by
  unfold postfixP at hr
  obtain ⟨y, hy, hr⟩ := pbind_some hr
  have HC := Lib.hid h
  have HP := Lib.hid (fun w1 (hc : Ctx K p d w1) => ih.prim K p d w1 hc hd y hy)
  have hrb := h.lt
  have hB := h.hB
  clear h hy
  go_enter Tryz.func320, Tryz.ntmps320
  go_wp2_with fail
  refine (HP.out _ (HC.out.alloc _)).mono ?_
  rintro e w1 ⟨hm1, hres⟩
  cases y with
  | err a er =>
    subst hr hres
    exact ⟨rfl, ((Md.refl _ _).alloc _).trans hm1, rfl⟩
  | ok t0 p1 =>
    obtain ⟨v, rfl, ⟨b, rfl, ht⟩, hc1⟩ := hres
    have R1 := hm1.blk (blk_alloc _ _) (show w.heap.size ≠ K.rb by omega)
    have hz1 := blkLt R1
    have hM1 : Md K.rb w w1 := ((Md.refl _ _).alloc _).trans hm1
    have hlb := ht.lt
    have HT1 : Hid (TreeAt w1 (fun k => w.heap.size < k ∧ k ≠ w1.heap.size) b t0) := ht.imp (fun k hl hk => by rw [World.size_alloc] at hk; omega)
    have HR := Lib.hid hr
    clear ht hm1 hr HP
    go_wp2_with fail
    go_loopw [] (fun wr => ∃ p' t' b' k', Ctx K p' d wr ∧ Md K.rb w wr ∧ wr.heap[w1.heap.size]? = some (.cells #[ptrV b'] 53 (0, 0)) ∧ TreeAt wr (fun k => w.heap.size < k ∧ k ≠ w1.heap.size) b' t' ∧ wr.heap[w.heap.size]? = some (.cells #[.pointer none] 53 (0, 0)) ∧ Hid (postLoopP K.L K.E k' t' p' = some r)) (fun wr => K.L.length - posOf K.rb wr)
    case atStart => exact ⟨p1, t0, b, k, hc1.alloc _, hM1.alloc _, blk_alloc _ _, HT1.out.al, blk_alloc_lt R1, HR.out⟩
    case round =>
      obtain ⟨p', t', b', k', hc, hM, hN, hT, hRR, hL⟩ := hrel
      have hpos := posOf_ctx hc
      cases k' with
      | zero => have := hL.out; simp [postLoopP] at this
      | succ k2 =>
        have hL' := hL.out
        unfold postLoopP at hL'
        cases hi : isP K.L K.E p' xDot
        · rw [hi] at hL'
          simp only [Bool.false_eq_true, if_false, Option.some.injEq] at hL'
          have HL := Lib.hid hL'
          have HA := Lib.hid (accept_no K p' d ⟨#[46]⟩ _ hc hi)
          clear hL' hL hi hpos
          go_wp2_with fail
          refine HA.out.mono ?_
          rintro e w2 ⟨rfl, hg2⟩
          have N2 := hg2.blk hN
          have R2 := hg2.blk hRR
          have n2 := cellAt N2 (i := 0) rfl
          have r2 := cellAt R2 (i := 0) rfl
          have f2 := frozenAt R2
          have hz2 := blkLt R2
          have HT2 := Lib.hid (hT.gr hg2)
          go_wp2_with fail
          refine bodyPost_ret (v := nodeV b') (by simp [results, Tryz.results320, go_sem, r2, hz2]) rfl ?_
          rw [← HL.out]
          refine ⟨?_, _, rfl, ⟨b', rfl, ?_⟩, ?_⟩
          · exact (hM.trans (.of_gr hg2)).setCell (.inl (by simp)) _
          · exact TreeAt.imp (X := fun k => w.heap.size < k ∧ k ≠ w1.heap.size) (fun k _ hk => Nat.le_of_lt hk.1) (by repeat' (first | (with_reducible exact HT2.out) | (with_reducible refine TreeAt.al ?_) | (with_reducible refine TreeAt.dr ?_) | (with_reducible refine TreeAt.drN ?_) | (with_reducible refine TreeAt.set ?_ (by intro k hk; (try simp at hk); (try simp); omega))))
          · exact (hc.gr hg2).setNew (by simp; omega) (by simp; omega) _
        · rw [hi] at hL'
          simp only [if_true] at hL'
          obtain ⟨y, hy, hL'⟩ := pbind_some hL'
          have HL := Lib.hid hL'
          have HA := Lib.hid (accept_yes K p' d ⟨#[46]⟩ _ hc hi)
          have hpl := isP_lt hi
          have HW := Lib.hid (fun w1 (hc : Ctx K (p' + 1) d w1) => word_p K (p' + 1) d w1 hc y hy)
          have hn1 := blkLt hN
          have hne1 : w1.heap.size ≠ K.rb := by omega
          have hne0 : w.heap.size ≠ K.rb := by omega
          clear hL' hL hi
          go_wp2_with fail
          refine HA.out.mono ?_
          rintro e w2 ⟨rfl, hc2, hm2⟩
          have N2 := hm2.blk hN hne1
          have R2 := hm2.blk hRR hne0
          have n2 := cellAt N2 (i := 0) rfl
          have fn2 := frozenAt N2
          have hz2 := blkLt N2
          have hM2 := hM.trans hm2
          have hlb := hT.lt
          have HT2 : Hid (TreeAt w2 (fun k => w.heap.size < k ∧ k ≠ w1.heap.size) b' t') := Md.tree hT (fun k hk => by omega) hm2
          have hb2 := HT2.out.lt
          have HN2 := Lib.hid N2
          have HR2 := Lib.hid R2
          clear hm2 hM hT hRR hN hc N2 R2
          cases y with
          | err a er =>
            have HL2 := HL.out
            simp only [] at HL2
            subst HL2
            go_wp2_with fail
            refine wp_region_held_drew (S := fun _ => True) rfl trivial (fun hS => ?_)
            refine wpAnyH_take (i := 0) (v := ?_) rfl (by kernel_rfl) (by kernel_rfl) (by kernel_rfl) (fun _ _ _ h => h) (Or.inl ⟨by rfl, ?_⟩) hS ?_
            rotate_left
            · intro w' hSw; (try dsimp only at hSw); go_simp; try with_reducible rfl
            (try simp only [Act.put, List.setIfInBounds_toArray, List.set_cons_zero, List.set_cons_succ])
            refine wpAnyH_ready (rs := [1, 2]) (by kernel_rfl) (by simp) ?_
            refine AllReadyH.cons rfl (fun K' hK => ?_) (AllReadyH.cons rfl (fun K' hK => ?_) AllReadyH.nil)
            · simp only [List.getElem_toArray, List.getElem_cons_succ, List.getElem_cons_zero]
              go_simp
              refine (HW.out _ (by repeat' (first | (with_reducible exact hc2) | (with_reducible refine Ctx.alloc ?_ _) | (with_reducible refine Ctx.drew ?_) | (with_reducible refine Ctx.drewN ?_ _) | (with_reducible refine Ctx.setNew ?_ (by first | omega | (simp; done) | (simp; omega)) (by first | omega | (simp; done) | (simp; omega)) _)))).mono ?_
              rintro e w3 ⟨hm3, rfl⟩
              exact ⟨rfl, Md.trans (by repeat' (first | (with_reducible exact hM2) | (with_reducible refine Md.alloc ?_ _) | (with_reducible refine Md.drew ?_) | (with_reducible refine Md.drewN ?_ _) | (with_reducible refine Md.setCell ?_ (.inl (by first | omega | (simp; done) | (simp; omega))) _))) hm3, rfl⟩
            · simp only [List.getElem_toArray, List.getElem_cons_succ, List.getElem_cons_zero]
              go_simp
              refine hK.out _ _ trivial (fun hS => ?_)
              (try simp only [Act.put, List.setIfInBounds_toArray, List.set_cons_zero, List.set_cons_succ])
              refine wpAnyH_ready (rs := [1, 3]) (by kernel_rfl) (by simp) ?_
              refine AllReadyH.cons rfl (fun K' hK => ?_) (AllReadyH.cons rfl (fun K' hK => ?_) AllReadyH.nil)
              · simp only [List.getElem_toArray, List.getElem_cons_succ, List.getElem_cons_zero]
                go_simp
                refine (HW.out _ (by repeat' (first | (with_reducible exact hc2) | (with_reducible refine Ctx.alloc ?_ _) | (with_reducible refine Ctx.drew ?_) | (with_reducible refine Ctx.drewN ?_ _) | (with_reducible refine Ctx.setNew ?_ (by first | omega | (simp; done) | (simp; omega)) (by first | omega | (simp; done) | (simp; omega)) _)))).mono ?_
                rintro e w3 ⟨hm3, rfl⟩
                exact ⟨rfl, Md.trans (by repeat' (first | (with_reducible exact hM2) | (with_reducible refine Md.alloc ?_ _) | (with_reducible refine Md.drew ?_) | (with_reducible refine Md.drewN ?_ _) | (with_reducible refine Md.setCell ?_ (.inl (by first | omega | (simp; done) | (simp; omega))) _))) hm3, rfl⟩
              · simp only [List.getElem_toArray, List.getElem_cons_succ, List.getElem_cons_zero]
                go_simp
                refine hK.out _ _ trivial (fun hS => ?_)
                (try simp only [Act.put, List.setIfInBounds_toArray, List.set_cons_zero, List.set_cons_succ])
                refine wpAnyH_ready (rs := [1]) (by kernel_rfl) (by simp) ?_
                refine AllReadyH.cons rfl (fun K' hK => ?_) AllReadyH.nil
                simp only [List.getElem_toArray, List.getElem_cons_succ, List.getElem_cons_zero]
                go_simp
                refine (HW.out _ (by repeat' (first | (with_reducible exact hc2) | (with_reducible refine Ctx.alloc ?_ _) | (with_reducible refine Ctx.drew ?_) | (with_reducible refine Ctx.drewN ?_ _) | (with_reducible refine Ctx.setNew ?_ (by first | omega | (simp; done) | (simp; omega)) (by first | omega | (simp; done) | (simp; omega)) _)))).mono ?_
                rintro e w3 ⟨hm3, rfl⟩
                exact ⟨rfl, Md.trans (by repeat' (first | (with_reducible exact hM2) | (with_reducible refine Md.alloc ?_ _) | (with_reducible refine Md.drew ?_) | (with_reducible refine Md.drewN ?_ _) | (with_reducible refine Md.setCell ?_ (.inl (by first | omega | (simp; done) | (simp; omega))) _))) hm3, rfl⟩
          | ok tt p3 =>
            obtain ⟨tk, tx, at_⟩ := tt
            simp only [] at HL
            have hp3 := (wordPP_ok hy).1
            clear hy
            unfold tokV at HW
            have n2 := cellAt HN2.out (i := 0) rfl
            go_wp2_with fail
            refine wp_region_held_drew (S := fun _ => True) rfl trivial (fun hS => ?_)
            refine wpAnyH_take (i := 0) (v := ?_) rfl (by kernel_rfl) (by kernel_rfl) (by kernel_rfl) (fun _ _ _ h => h) (Or.inl ⟨by rfl, ?_⟩) hS ?_
            rotate_left
            · intro w' hSw; (try dsimp only at hSw); go_simp; try with_reducible rfl
            (try simp only [Act.put, List.setIfInBounds_toArray, List.set_cons_zero, List.set_cons_succ])
            refine wpAnyH_ready (rs := [1, 2]) (by kernel_rfl) (by simp) ?_
            refine AllReadyH.cons rfl (fun K' hK => ?_) (AllReadyH.cons rfl (fun K' hK => ?_) AllReadyH.nil)
            · simp only [List.getElem_toArray, List.getElem_cons_succ, List.getElem_cons_zero]
              go_simp
              refine (HW.out _ (by repeat' (first | (with_reducible exact hc2) | (with_reducible refine Ctx.alloc ?_ _) | (with_reducible refine Ctx.drew ?_) | (with_reducible refine Ctx.drewN ?_ _) | (with_reducible refine Ctx.setNew ?_ (by first | omega | (simp; done) | (simp; omega)) (by first | omega | (simp; done) | (simp; omega)) _)))).mono ?_
              rintro e w3 ⟨hm3, v, rfl, rfl, hc3⟩
              have C3 : w3.heap[w1.heap.size]? = some (.cells #[ptrV b'] 53 (0, 0)) := hm3.blk (by repeat' (first | (with_reducible exact HN2.out) | (with_reducible exact blk_alloc _ _) | (with_reducible refine blk_alloc_lt ?_) | (with_reducible refine blk_drew ?_) | (with_reducible refine blk_drewN ?_) | (with_reducible refine blk_setCell_ne ?_ (by first | omega | (simp; done) | (simp; omega))) | (with_reducible refine blk_setCell_to (cs := ?_) ?_ ?_) | rfl | exact HN2.out)) hne1
              have n3 := cellAt C3 (i := 0) rfl
              have hs3 := blkLt C3
              refine hK.out _ _ trivial (fun hS => ?_)
              (try simp only [Act.put, List.setIfInBounds_toArray, List.set_cons_zero, List.set_cons_succ])
              refine wpAnyH_ready (rs := [2]) (by kernel_rfl) (by simp) ?_
              refine AllReadyH.cons rfl (fun K' hK => ?_) AllReadyH.nil
              simp only [List.getElem_toArray, List.getElem_cons_succ, List.getElem_cons_zero]
              go_simp
              refine hK.out _ _ trivial (fun hS => ?_)
              (try simp only [Act.put, List.setIfInBounds_toArray, List.set_cons_zero, List.set_cons_succ])
              refine wpAnyH_ready (rs := [3]) (by kernel_rfl) (by simp) ?_
              refine AllReadyH.cons rfl (fun K' hK => ?_) AllReadyH.nil
              simp only [List.getElem_toArray, List.getElem_cons_succ, List.getElem_cons_zero]
              go_simp
              refine hK.out _ _ trivial (fun hS => ?_)
              (try simp only [Act.put, List.setIfInBounds_toArray, List.set_cons_zero, List.set_cons_succ])
              refine wpAnyH_ready (rs := [4]) (by kernel_rfl) (by simp) ?_
              refine AllReadyH.cons rfl (fun K' hK => ?_) AllReadyH.nil
              simp only [List.getElem_toArray, List.getElem_cons_succ, List.getElem_cons_zero]
              go_simp
              refine (node_any 20 ⟨tk, tx, at_⟩ _ _ _ _).mono ?_
              rintro e w4 ⟨bn, rfl, hnb, hnd, hng⟩
              have C4 : w4.heap[w1.heap.size]? = some (.cells #[ptrV b'] 53 (0, 0)) := hng.blk (by repeat' (first | (with_reducible exact C3) | (with_reducible exact blk_alloc _ _) | (with_reducible refine blk_alloc_lt ?_) | (with_reducible refine blk_drew ?_) | (with_reducible refine blk_drewN ?_) | (with_reducible refine blk_setCell_ne ?_ (by first | omega | (simp; done) | (simp; omega))) | (with_reducible refine blk_setCell_to (cs := ?_) ?_ ?_) | rfl | exact C3))
              have n4 := cellAt C4 (i := 0) rfl
              have fn4 := frozenAt C4
              have C4' := blk_setCell_to (i := 0) (v := ptrV bn) C4 rfl
              refine hK.out _ _ trivial (fun hS => ?_)
              (try simp only [Act.put, List.setIfInBounds_toArray, List.set_cons_zero, List.set_cons_succ])
              refine wpAnyH_ready (rs := [5]) (by kernel_rfl) (by simp) ?_
              refine AllReadyH.cons rfl (fun K' hK => ?_) AllReadyH.nil
              simp only [List.getElem_toArray, List.getElem_cons_succ, List.getElem_cons_zero]
              go_simp
              refine hK.out _ _ trivial (fun hS => ?_)
              (try simp only [Act.put, List.setIfInBounds_toArray, List.set_cons_zero, List.set_cons_succ])
              refine wpAnyH_done (by kernel_rfl) ?_ _
              have hg34 : Gr w3 w4 := by first | exact hng | exact (Gr.al _ _).trans hng
              have HT3 : TreeAt w3 (fun k => w.heap.size < k ∧ k ≠ w1.heap.size) b' t' := Md.tree (by repeat' (first | (with_reducible exact HT2.out) | (with_reducible refine TreeAt.al ?_) | (with_reducible refine TreeAt.dr ?_) | (with_reducible refine TreeAt.drN ?_) | (with_reducible refine TreeAt.set ?_ (by intro k hk; (try simp at hk); (try simp); omega)))) (fun k hk => by omega) hm3
              have HT4 := HT3.gr hg34
              have R3 : w3.heap[w.heap.size]? = some (.cells #[.pointer none] 53 (0, 0)) := hm3.blk (by repeat' (first | (with_reducible exact HR2.out) | (with_reducible exact blk_alloc _ _) | (with_reducible refine blk_alloc_lt ?_) | (with_reducible refine blk_drew ?_) | (with_reducible refine blk_drewN ?_) | (with_reducible refine blk_setCell_ne ?_ (by first | omega | (simp; done) | (simp; omega))) | (with_reducible refine blk_setCell_to (cs := ?_) ?_ ?_) | rfl | exact HR2.out)) hne0
              have hs23 := hm3.size
              have hs34 := hg34.size
              (try rw [World.size_alloc] at hnb)
              (try rw [World.size_alloc] at hs23)
              have hM3 : Md K.rb w w3 := Md.trans (by repeat' (first | (with_reducible exact hM2) | (with_reducible refine Md.alloc ?_ _) | (with_reducible refine Md.drew ?_) | (with_reducible refine Md.drewN ?_ _) | (with_reducible refine Md.setCell ?_ (.inl (by first | omega | (simp; done) | (simp; omega))) _))) hm3
              have hc4 := hc3.gr hg34
              have HX : Hid (TreeAt (w4.setCell ⟨w1.heap.size, 0, none⟩ (ptrV bn)) (fun k => w.heap.size < k ∧ k ≠ w1.heap.size) bn (.mk ⟨20, tx, [], 0, at_⟩ [t'])) := by
                refine TreeAt.mk (bs := [b']) ⟨by omega, by omega⟩ (blk_setCell_ne hnd (by simp <;> omega)) (RowR.frame ?_ (fun k hk _ => Below.heap_setCell _ _ _ _ hk.2)) rfl ?_
                · first
                  | exact row_of (cs := [ptrV b']) (hng.blk (blk_alloc _ _)) ⟨by omega, by omega⟩
                  | exact row_of (cs := [ptrV b']) (hng.blk BS3) ⟨by omega, by omega⟩
                · intro i b2 t2 hb' ht'
                  match i, hb', ht' with
                  | 0, hb', ht' =>
                    injection hb' with hb'
                    injection ht' with ht'
                    subst hb' ht'
                    exact HT4.set (fun k hk => hk.2)
              clear HT3 HT4 hnd
              go_wp2_with fail
              go_roundw
              case rel => exact ⟨p3, .mk ⟨20, tx, [], 0, at_⟩ [t'], bn, k2, hc4.setNew (by simp <;> omega) (by simp <;> omega) _, (hM3.trans (.of_gr hg34)).setCell (.inl (by simp <;> omega)) _, C4', HX.out, blk_setCell_ne (hg34.blk R3) (by simp <;> omega), HL.out⟩
              case measure =>
                rw [posOf_ctx (hc4.setNew (by simp <;> omega) (by simp <;> omega) _), hpos]
                have := hc4.pos
                omega
            · simp only [List.getElem_toArray, List.getElem_cons_succ, List.getElem_cons_zero]
              go_simp
              refine hK.out _ _ trivial (fun hS => ?_)
              (try simp only [Act.put, List.setIfInBounds_toArray, List.set_cons_zero, List.set_cons_succ])
              refine wpAnyH_ready (rs := [1, 3]) (by kernel_rfl) (by simp) ?_
              refine AllReadyH.cons rfl (fun K' hK => ?_) (AllReadyH.cons rfl (fun K' hK => ?_) AllReadyH.nil)
              · simp only [List.getElem_toArray, List.getElem_cons_succ, List.getElem_cons_zero]
                go_simp
                refine (HW.out _ (by repeat' (first | (with_reducible exact hc2) | (with_reducible refine Ctx.alloc ?_ _) | (with_reducible refine Ctx.drew ?_) | (with_reducible refine Ctx.drewN ?_ _) | (with_reducible refine Ctx.setNew ?_ (by first | omega | (simp; done) | (simp; omega)) (by first | omega | (simp; done) | (simp; omega)) _)))).mono ?_
                rintro e w3 ⟨hm3, v, rfl, rfl, hc3⟩
                have C3 : w3.heap[w1.heap.size]? = some (.cells #[ptrV b'] 53 (0, 0)) := hm3.blk (by repeat' (first | (with_reducible exact HN2.out) | (with_reducible exact blk_alloc _ _) | (with_reducible refine blk_alloc_lt ?_) | (with_reducible refine blk_drew ?_) | (with_reducible refine blk_drewN ?_) | (with_reducible refine blk_setCell_ne ?_ (by first | omega | (simp; done) | (simp; omega))) | (with_reducible refine blk_setCell_to (cs := ?_) ?_ ?_) | rfl | exact HN2.out)) hne1
                have n3 := cellAt C3 (i := 0) rfl
                have hs3 := blkLt C3
                refine hK.out _ _ trivial (fun hS => ?_)
                (try simp only [Act.put, List.setIfInBounds_toArray, List.set_cons_zero, List.set_cons_succ])
                refine wpAnyH_ready (rs := [3]) (by kernel_rfl) (by simp) ?_
                refine AllReadyH.cons rfl (fun K' hK => ?_) AllReadyH.nil
                simp only [List.getElem_toArray, List.getElem_cons_succ, List.getElem_cons_zero]
                go_simp
                refine hK.out _ _ trivial (fun hS => ?_)
                (try simp only [Act.put, List.setIfInBounds_toArray, List.set_cons_zero, List.set_cons_succ])
                refine wpAnyH_ready (rs := [4]) (by kernel_rfl) (by simp) ?_
                refine AllReadyH.cons rfl (fun K' hK => ?_) AllReadyH.nil
                simp only [List.getElem_toArray, List.getElem_cons_succ, List.getElem_cons_zero]
                go_simp
                refine (node_any 20 ⟨tk, tx, at_⟩ _ _ _ _).mono ?_
                rintro e w4 ⟨bn, rfl, hnb, hnd, hng⟩
                have C4 : w4.heap[w1.heap.size]? = some (.cells #[ptrV b'] 53 (0, 0)) := hng.blk (by repeat' (first | (with_reducible exact C3) | (with_reducible exact blk_alloc _ _) | (with_reducible refine blk_alloc_lt ?_) | (with_reducible refine blk_drew ?_) | (with_reducible refine blk_drewN ?_) | (with_reducible refine blk_setCell_ne ?_ (by first | omega | (simp; done) | (simp; omega))) | (with_reducible refine blk_setCell_to (cs := ?_) ?_ ?_) | rfl | exact C3))
                have n4 := cellAt C4 (i := 0) rfl
                have fn4 := frozenAt C4
                have C4' := blk_setCell_to (i := 0) (v := ptrV bn) C4 rfl
                refine hK.out _ _ trivial (fun hS => ?_)
                (try simp only [Act.put, List.setIfInBounds_toArray, List.set_cons_zero, List.set_cons_succ])
                refine wpAnyH_ready (rs := [5]) (by kernel_rfl) (by simp) ?_
                refine AllReadyH.cons rfl (fun K' hK => ?_) AllReadyH.nil
                simp only [List.getElem_toArray, List.getElem_cons_succ, List.getElem_cons_zero]
                go_simp
                refine hK.out _ _ trivial (fun hS => ?_)
                (try simp only [Act.put, List.setIfInBounds_toArray, List.set_cons_zero, List.set_cons_succ])
                refine wpAnyH_done (by kernel_rfl) ?_ _
                have hg34 : Gr w3 w4 := by first | exact hng | exact (Gr.al _ _).trans hng
                have HT3 : TreeAt w3 (fun k => w.heap.size < k ∧ k ≠ w1.heap.size) b' t' := Md.tree (by repeat' (first | (with_reducible exact HT2.out) | (with_reducible refine TreeAt.al ?_) | (with_reducible refine TreeAt.dr ?_) | (with_reducible refine TreeAt.drN ?_) | (with_reducible refine TreeAt.set ?_ (by intro k hk; (try simp at hk); (try simp); omega)))) (fun k hk => by omega) hm3
                have HT4 := HT3.gr hg34
                have R3 : w3.heap[w.heap.size]? = some (.cells #[.pointer none] 53 (0, 0)) := hm3.blk (by repeat' (first | (with_reducible exact HR2.out) | (with_reducible exact blk_alloc _ _) | (with_reducible refine blk_alloc_lt ?_) | (with_reducible refine blk_drew ?_) | (with_reducible refine blk_drewN ?_) | (with_reducible refine blk_setCell_ne ?_ (by first | omega | (simp; done) | (simp; omega))) | (with_reducible refine blk_setCell_to (cs := ?_) ?_ ?_) | rfl | exact HR2.out)) hne0
                have hs23 := hm3.size
                have hs34 := hg34.size
                (try rw [World.size_alloc] at hnb)
                (try rw [World.size_alloc] at hs23)
                have hM3 : Md K.rb w w3 := Md.trans (by repeat' (first | (with_reducible exact hM2) | (with_reducible refine Md.alloc ?_ _) | (with_reducible refine Md.drew ?_) | (with_reducible refine Md.drewN ?_ _) | (with_reducible refine Md.setCell ?_ (.inl (by first | omega | (simp; done) | (simp; omega))) _))) hm3
                have hc4 := hc3.gr hg34
                have HX : Hid (TreeAt (w4.setCell ⟨w1.heap.size, 0, none⟩ (ptrV bn)) (fun k => w.heap.size < k ∧ k ≠ w1.heap.size) bn (.mk ⟨20, tx, [], 0, at_⟩ [t'])) := by
                  refine TreeAt.mk (bs := [b']) ⟨by omega, by omega⟩ (blk_setCell_ne hnd (by simp <;> omega)) (RowR.frame ?_ (fun k hk _ => Below.heap_setCell _ _ _ _ hk.2)) rfl ?_
                  · first
                    | exact row_of (cs := [ptrV b']) (hng.blk (blk_alloc _ _)) ⟨by omega, by omega⟩
                    | exact row_of (cs := [ptrV b']) (hng.blk BS3) ⟨by omega, by omega⟩
                  · intro i b2 t2 hb' ht'
                    match i, hb', ht' with
                    | 0, hb', ht' =>
                      injection hb' with hb'
                      injection ht' with ht'
                      subst hb' ht'
                      exact HT4.set (fun k hk => hk.2)
                clear HT3 HT4 hnd
                go_wp2_with fail
                go_roundw
                case rel => exact ⟨p3, .mk ⟨20, tx, [], 0, at_⟩ [t'], bn, k2, hc4.setNew (by simp <;> omega) (by simp <;> omega) _, (hM3.trans (.of_gr hg34)).setCell (.inl (by simp <;> omega)) _, C4', HX.out, blk_setCell_ne (hg34.blk R3) (by simp <;> omega), HL.out⟩
                case measure =>
                  rw [posOf_ctx (hc4.setNew (by simp <;> omega) (by simp <;> omega) _), hpos]
                  have := hc4.pos
                  omega
              · simp only [List.getElem_toArray, List.getElem_cons_succ, List.getElem_cons_zero]
                go_simp
                refine hK.out _ _ trivial (fun hS => ?_)
                (try simp only [Act.put, List.setIfInBounds_toArray, List.set_cons_zero, List.set_cons_succ])
                refine wpAnyH_ready (rs := [1]) (by kernel_rfl) (by simp) ?_
                refine AllReadyH.cons rfl (fun K' hK => ?_) AllReadyH.nil
                simp only [List.getElem_toArray, List.getElem_cons_succ, List.getElem_cons_zero]
                go_simp
                refine (HW.out _ (by repeat' (first | (with_reducible exact hc2) | (with_reducible refine Ctx.alloc ?_ _) | (with_reducible refine Ctx.drew ?_) | (with_reducible refine Ctx.drewN ?_ _) | (with_reducible refine Ctx.setNew ?_ (by first | omega | (simp; done) | (simp; omega)) (by first | omega | (simp; done) | (simp; omega)) _)))).mono ?_
                rintro e w3 ⟨hm3, v, rfl, rfl, hc3⟩
                have C3 : w3.heap[w1.heap.size]? = some (.cells #[ptrV b'] 53 (0, 0)) := hm3.blk (by repeat' (first | (with_reducible exact HN2.out) | (with_reducible exact blk_alloc _ _) | (with_reducible refine blk_alloc_lt ?_) | (with_reducible refine blk_drew ?_) | (with_reducible refine blk_drewN ?_) | (with_reducible refine blk_setCell_ne ?_ (by first | omega | (simp; done) | (simp; omega))) | (with_reducible refine blk_setCell_to (cs := ?_) ?_ ?_) | rfl | exact HN2.out)) hne1
                have n3 := cellAt C3 (i := 0) rfl
                have hs3 := blkLt C3
                have BS3 : w3.heap[w2.heap.size]? = some (.cells #[ptrV b'] 53 (0, 0)) := hm3.blk (blk_alloc _ _) (by omega)
                refine hK.out _ _ trivial (fun hS => ?_)
                (try simp only [Act.put, List.setIfInBounds_toArray, List.set_cons_zero, List.set_cons_succ])
                refine wpAnyH_ready (rs := [4]) (by kernel_rfl) (by simp) ?_
                refine AllReadyH.cons rfl (fun K' hK => ?_) AllReadyH.nil
                simp only [List.getElem_toArray, List.getElem_cons_succ, List.getElem_cons_zero]
                go_simp
                refine (node_any 20 ⟨tk, tx, at_⟩ _ _ _ _).mono ?_
                rintro e w4 ⟨bn, rfl, hnb, hnd, hng⟩
                have C4 : w4.heap[w1.heap.size]? = some (.cells #[ptrV b'] 53 (0, 0)) := hng.blk (by repeat' (first | (with_reducible exact C3) | (with_reducible exact blk_alloc _ _) | (with_reducible refine blk_alloc_lt ?_) | (with_reducible refine blk_drew ?_) | (with_reducible refine blk_drewN ?_) | (with_reducible refine blk_setCell_ne ?_ (by first | omega | (simp; done) | (simp; omega))) | (with_reducible refine blk_setCell_to (cs := ?_) ?_ ?_) | rfl | exact C3))
                have n4 := cellAt C4 (i := 0) rfl
                have fn4 := frozenAt C4
                have C4' := blk_setCell_to (i := 0) (v := ptrV bn) C4 rfl
                refine hK.out _ _ trivial (fun hS => ?_)
                (try simp only [Act.put, List.setIfInBounds_toArray, List.set_cons_zero, List.set_cons_succ])
                refine wpAnyH_ready (rs := [5]) (by kernel_rfl) (by simp) ?_
                refine AllReadyH.cons rfl (fun K' hK => ?_) AllReadyH.nil
                simp only [List.getElem_toArray, List.getElem_cons_succ, List.getElem_cons_zero]
                go_simp
                refine hK.out _ _ trivial (fun hS => ?_)
                (try simp only [Act.put, List.setIfInBounds_toArray, List.set_cons_zero, List.set_cons_succ])
                refine wpAnyH_done (by kernel_rfl) ?_ _
                have hg34 : Gr w3 w4 := by first | exact hng | exact (Gr.al _ _).trans hng
                have HT3 : TreeAt w3 (fun k => w.heap.size < k ∧ k ≠ w1.heap.size) b' t' := Md.tree (by repeat' (first | (with_reducible exact HT2.out) | (with_reducible refine TreeAt.al ?_) | (with_reducible refine TreeAt.dr ?_) | (with_reducible refine TreeAt.drN ?_) | (with_reducible refine TreeAt.set ?_ (by intro k hk; (try simp at hk); (try simp); omega)))) (fun k hk => by omega) hm3
                have HT4 := HT3.gr hg34
                have R3 : w3.heap[w.heap.size]? = some (.cells #[.pointer none] 53 (0, 0)) := hm3.blk (by repeat' (first | (with_reducible exact HR2.out) | (with_reducible exact blk_alloc _ _) | (with_reducible refine blk_alloc_lt ?_) | (with_reducible refine blk_drew ?_) | (with_reducible refine blk_drewN ?_) | (with_reducible refine blk_setCell_ne ?_ (by first | omega | (simp; done) | (simp; omega))) | (with_reducible refine blk_setCell_to (cs := ?_) ?_ ?_) | rfl | exact HR2.out)) hne0
                have hs23 := hm3.size
                have hs34 := hg34.size
                (try rw [World.size_alloc] at hnb)
                (try rw [World.size_alloc] at hs23)
                have hM3 : Md K.rb w w3 := Md.trans (by repeat' (first | (with_reducible exact hM2) | (with_reducible refine Md.alloc ?_ _) | (with_reducible refine Md.drew ?_) | (with_reducible refine Md.drewN ?_ _) | (with_reducible refine Md.setCell ?_ (.inl (by first | omega | (simp; done) | (simp; omega))) _))) hm3
                have hc4 := hc3.gr hg34
                have HX : Hid (TreeAt (w4.setCell ⟨w1.heap.size, 0, none⟩ (ptrV bn)) (fun k => w.heap.size < k ∧ k ≠ w1.heap.size) bn (.mk ⟨20, tx, [], 0, at_⟩ [t'])) := by
                  refine TreeAt.mk (bs := [b']) ⟨by omega, by omega⟩ (blk_setCell_ne hnd (by simp <;> omega)) (RowR.frame ?_ (fun k hk _ => Below.heap_setCell _ _ _ _ hk.2)) rfl ?_
                  · first
                    | exact row_of (cs := [ptrV b']) (hng.blk (blk_alloc _ _)) ⟨by omega, by omega⟩
                    | exact row_of (cs := [ptrV b']) (hng.blk BS3) ⟨by omega, by omega⟩
                  · intro i b2 t2 hb' ht'
                    match i, hb', ht' with
                    | 0, hb', ht' =>
                      injection hb' with hb'
                      injection ht' with ht'
                      subst hb' ht'
                      exact HT4.set (fun k hk => hk.2)
                clear HT3 HT4 hnd
                go_wp2_with fail
                go_roundw
                case rel => exact ⟨p3, .mk ⟨20, tx, [], 0, at_⟩ [t'], bn, k2, hc4.setNew (by simp <;> omega) (by simp <;> omega) _, (hM3.trans (.of_gr hg34)).setCell (.inl (by simp <;> omega)) _, C4', HX.out, blk_setCell_ne (hg34.blk R3) (by simp <;> omega), HL.out⟩
                case measure =>
                  rw [posOf_ctx (hc4.setNew (by simp <;> omega) (by simp <;> omega) _), hpos]
                  have := hc4.pos
                  omega
end Go.Proofs.YthniejnbkkkbnaaGreatDoor
