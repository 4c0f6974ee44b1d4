/- Walks of layer parse: expressions of signs between two. -/
import Derived.Test.YthniejnbkkkbnaaGreatDoorM35
set_option linter.all false
set_option linter.unusedSimpArgs false
set_option linter.unusedVariables false
namespace Go.Proofs.YthniejnbkkkbnaaGreatDoor
open Go.RowKit
set_option maxRecDepth 100000
set_option maxHeartbeats 40000000
attribute [local go_sem ↓] Go.wp_at_zero Go.wp_at_succ

/-- Lists written out. -/
theorem sL : (∀ {α : Type} (l : List α) (i : Nat) (h : i < l.toArray.size), l.toArray[i] = l[i]'(by simpa using h)) ∧ (∀ {α : Type} (a : α) (l : List α) (i : Nat) (h : i + 1 < (a :: l).length), (a :: l)[i + 1] = l[i]'(by simpa using h)) ∧
    (∀ {α : Type} (a : α) (l : List α) (h : 0 < (a :: l).length), (a :: l)[0] = a) ∧ (∀ {α : Type} (l : List α) (i : Nat) (a : α), l.toArray.setIfInBounds i a = (l.set i a).toArray) ∧
    (∀ {α : Type} (a b : α) (l : List α), (a :: l).set 0 b = b :: l) ∧ ∀ {α : Type} (a b : α) (l : List α) (n : Nat), (a :: l).set (n + 1) b = a :: l.set n b :=
  ⟨fun _ _ _ => by simp, fun _ _ _ _ => by simp, fun _ _ _ => by simp, fun _ _ _ => by simp, fun _ _ _ => rfl, fun _ _ _ _ => rfl⟩
/-- What is held may be more from here on. -/
theorem wpAnyH_more {P : Program} {md : Region.Mode} {ops : Array Oper} {Q : Exit → Act → World → Prop} {S T : World → Prop} {fuel : Nat} {listed : Array Bool} {a : Act} {w : World} (hS : S w) (hT : T w)
    (h : S w ∧ T w → wpAnyH P md ops Q (fun w => S w ∧ T w) fuel listed a w) : wpAnyH P md ops Q S fuel listed a w := by
  have key : ∀ (fuel : Nat) (listed : Array Bool) (a : Act) (w : World), wpAnyH P md ops Q (fun w => S w ∧ T w) fuel listed a w → wpAnyH P md ops Q S fuel listed a w := by
    intro fuel
    induction fuel with
    | zero => exact fun _ _ _ h => h
    | succ f ih => exact fun listed a w h => ⟨h.1, fun i hi => wpOp_mono (fun a' w' h' => ⟨h'.1.1, ih _ a' w' h'.2⟩) (h.2 i hi)⟩
  exact key _ _ _ _ (h ⟨hS, hT⟩)
theorem al3_1 (w : World) (A B C : Obj) : (((w.alloc A).alloc B).alloc C).heap[w.heap.size]? = some A := blk_alloc_lt (alloc2_fst w A B)
theorem al3_2 (w : World) (A B C : Obj) : (((w.alloc A).alloc B).alloc C).heap[w.heap.size + 1]? = some B := blk_alloc_lt (alloc2_snd w A B)
theorem numLevel_le (op : Int) : 0 ≤ numLevel op ∧ numLevel op ≤ 5 := by
  unfold numLevel
  repeat' split
  all_goals omega
theorem levelP_le (t : Tok) : 0 ≤ (levelP t).1 ∧ (levelP t).1 ≤ 5 := by
  unfold levelP
  have := numLevel_le (signed2 t.text)
  repeat' split
  all_goals simp only []
  all_goals omega

theorem expr_any (k : Nat) (ih : ∀ j, j < k + 1 → EAt j) (K : PK) (least : Int) (p d : Nat) (w : World) (h : Ctx K p d w) (hd : d ≤ 40) (hl1 : 1 ≤ least) (hl6 : least ≤ 6) (r : PR T) (hr : exprP K.L K.E (k + 1) least d p = some r) :
    Calls Tryz.prog 257 #[ptrV K.rb, .int .i64 least] w (PP K d w r (NewTree w)) := by
  unfold exprP at hr
  have hf := run_field_tok2
  obtain ⟨y, hy, hr⟩ := pbind_some hr
  have HC := Lib.hid h
  have HP := Lib.hid (fun w1 (hc : Ctx K p d w1) => (ih k (by omega)).unary K p d w1 hc hd y hy)
  have hrb := h.lt
  have hB := h.hB
  clear h hy
  go_enter Tryz.func257, Tryz.ntmps257
  go_wp2_with fail
  refine (HP.out _ (HC.out.alloc _)).mono ?_
  rintro e w1 ⟨hm1, hres⟩
  cases y with
  | err a er =>
    subst hr hres
    exact ⟨rfl, ((Md.refl _ _).alloc _).trans hm1, rfl⟩
  | ok t0 p1 =>
    obtain ⟨v, rfl, ⟨b, rfl, ht⟩, hc1⟩ := hres
    have R1 := hm1.blk (blk_alloc _ _) (show w.heap.size ≠ K.rb by omega)
    have hz1 := blkLt R1
    have hM1 : Md K.rb w w1 := ((Md.refl _ _).alloc _).trans hm1
    have hlb := ht.lt
    have HT1 : Hid (TreeAt w1 (fun k => w.heap.size < k ∧ k ≠ w1.heap.size) b t0) := ht.imp (fun k hl hk => by rw [World.size_alloc] at hk; omega)
    have HR := Lib.hid hr
    clear ht hm1 hr HP
    go_wp2_with fail
    go_loopg [] k (fun gg wr => ∃ g p' t' b', gg = g ∧ g ≤ k ∧ Ctx K p' d wr ∧ Md K.rb w wr ∧ wr.heap[w1.heap.size]? = some (.cells #[ptrV b'] 53 (0, 0)) ∧ TreeAt wr (fun k => w.heap.size < k ∧ k ≠ w1.heap.size) b' t' ∧ wr.heap[w.heap.size]? = some (.cells #[.pointer none] 53 (0, 0)) ∧ Hid (exprLoopP K.L K.E g least d t' p' = some r))
    case atStart => exact ⟨k, p1, t0, b, rfl, Nat.le_refl _, hc1.alloc _, hM1.alloc _, blk_alloc _ _, HT1.out.al, blk_alloc_lt R1, HR.out⟩
    case round =>
      obtain ⟨g, p', t', b', hgg, hgk, hc, hM, hN, hT, hRR, hL⟩ := hrel
      cases g with
      | zero => have := hL.out; simp [exprLoopP] at this
      | succ g =>
        have hL' := hL.out
        unfold exprLoopP at hL'
        obtain ⟨⟨lv, op⟩, hlv⟩ : ∃ l, levelP (nowP K.L K.E p') = l := ⟨_, rfl⟩
        have hle := levelP_le (nowP K.L K.E p')
        have HLV := Lib.hid (level_any K p' d wr hc)
        rw [hlv] at hle HLV hL'
        simp only [] at hle HLV hL'
        have hn1 := blkLt hN
        by_cases hstop : lv = 0 ∨ lv < least
        · rw [if_pos hstop] at hL'
          injection hL' with hL'
          have HL := Lib.hid hL'
          clear hL' hL
          have key : ∀ (w2 : World), Gr wr w2 → w2.cell? ⟨w1.heap.size, 0, none⟩ = some (ptrV b') ∧ w2.cell? ⟨w.heap.size, 0, none⟩ = some (.pointer none) ∧ (∀ i, w2.frozen? ⟨w.heap.size, i, none⟩ = false) ∧ w.heap.size < w2.heap.size := fun w2 hg2 =>
            ⟨cellAt (hg2.blk hN) rfl, cellAt (hg2.blk hRR) rfl, frozenAt (hg2.blk hRR), blkLt (hg2.blk hRR)⟩
          have HKEY := Lib.hid key
          have HTR := Lib.hid hT
          clear key hN hT hRR
          rcases Decidable.em (lv = 0) with h0 | h0
          · subst h0
            go_wp2_with fail
            refine HLV.out.mono ?_
            rintro e w2 ⟨rfl, hg2⟩
            obtain ⟨n2, r2, f2, hz2⟩ := HKEY.out w2 hg2
            go_wp2_with fail
            refine bodyPost_ret (v := nodeV b') (by simp [results, Tryz.results257, go_sem, r2, hz2]) rfl ?_
            rw [← HL.out]
            refine ⟨?_, _, rfl, ⟨b', rfl, ?_⟩, ?_⟩
            · exact (hM.trans (.of_gr hg2)).setCell (.inl (by simp)) _
            · exact TreeAt.imp (X := fun k => w.heap.size < k ∧ k ≠ w1.heap.size) (fun k _ hk => Nat.le_of_lt hk.1) (TreeAt.set (HTR.out.gr hg2) (by intro k hk; simp; omega))
            · exact (hc.gr hg2).setNew (by simp; omega) (by simp; omega) _
          · have hlt : lv < least := by omega
            go_wp2_with fail
            refine HLV.out.mono ?_
            rintro e w2 ⟨rfl, hg2⟩
            obtain ⟨n2, r2, f2, hz2⟩ := HKEY.out w2 hg2
            go_wp2_with fail
            refine bodyPost_ret (v := nodeV b') (by simp [results, Tryz.results257, go_sem, r2, hz2]) rfl ?_
            rw [← HL.out]
            refine ⟨?_, _, rfl, ⟨b', rfl, ?_⟩, ?_⟩
            · exact (hM.trans (.of_gr hg2)).setCell (.inl (by simp)) _
            · exact TreeAt.imp (X := fun k => w.heap.size < k ∧ k ≠ w1.heap.size) (fun k _ hk => Nat.le_of_lt hk.1) (TreeAt.set (HTR.out.gr hg2) (by intro k hk; simp; omega))
            · exact (hc.gr hg2).setNew (by simp; omega) (by simp; omega) _
        · rw [if_neg hstop] at hL'
          obtain ⟨n, rfl⟩ := Int.eq_ofNat_of_zero_le hle.1
          have hn0 : 1 ≤ n := by omega
          have hn5 : n ≤ 5 := by omega
          have hnl : ¬ (n : Int) < least := by omega
          have hnz : ((n : Int) == 0) = false := by simp; omega
          have hnd : decide ((n : Int) < least) = false := by simp; omega
          have hpl : p' < K.L.length := by
            refine kind_lt (E := K.E) fun h0 => ?_
            have : levelP (nowP K.L K.E p') = (0, 0) := by unfold levelP; rw [h0]; rfl
            rw [this] at hlv
            injection hlv with h1 h2
            omega
          have HTA := Lib.hid (fun w1 (hc : Ctx K p' d w1) => take_any K p' d w1 hc hpl)
          have hopn : Hid (levelOp (n : Int) = ([0, 26, 25, 24, 24, 24] : List Int).getD n 0) := by
            show levelOp (n : Int) = _
            have : n = 1 ∨ n = 2 ∨ n = 3 ∨ n = 4 ∨ n = 5 := by omega
            rcases this with rfl | rfl | rfl | rfl | rfl <;> rfl
          obtain ⟨⟨tk, tx, at_⟩, hT0⟩ : ∃ T, nowP K.L K.E p' = T := ⟨_, rfl⟩
          rw [hT0] at HTA hL'
          simp only [] at hL'
          unfold tokV at HTA
          obtain ⟨y, hy, hL'⟩ := pbind_some hL'
          have HE := Lib.hid (fun w1 (hc : Ctx K (p' + 1) d w1) => (ih g (by omega)).expr K ((n : Int) + 1) (p' + 1) d w1 hc hd (by omega) (by omega) y hy)
          have HL := Lib.hid hL'
          have hb0 := hT.lt
          have HTR := Lib.hid hT
          clear hlv hle hstop hL' hL hy hT0 hT
          go_wp2_with fail
          refine HLV.out.mono ?_
          rintro e w2 ⟨rfl, hg2⟩
          go_wp2_with fail
          refine (HTA.out _ (hc.gr hg2)).mono ?_
          rintro e w3 ⟨rfl, hc3, hm3⟩
          have N3 := hm3.blk (hg2.blk hN) (by omega)
          have R3 := hm3.blk (hg2.blk hRR) (by omega)
          have hM3 := (hM.trans (.of_gr hg2)).trans hm3
          have HT3 : Hid (TreeAt w3 (fun k => w.heap.size < k ∧ k ≠ w1.heap.size) b' t') := Md.tree (HTR.out.gr hg2) (fun k hk => by omega) hm3
          have HT3' : Hid (TreeAt w3 (fun k => w.heap.size < k ∧ k ≠ w1.heap.size ∧ k < w3.heap.size) b' t') := HT3.out.imp (fun k hk h => ⟨h.1, h.2, hk⟩)
          have hb3 := HT3.out.lt
          have n3 := cellAt N3 (i := 0) rfl
          have hz3 := blkLt N3
          have HN3 := Lib.hid N3
          have HR3 := Lib.hid R3
          clear hm3 hg2 N3 R3 hN hRR HTR hM hc HLV
          have hTBc : ∀ (W : World) (k : Nat), W.heap[k]? = some (.cells #[.int .i64 0, .int .i64 26, .int .i64 25, .int .i64 24, .int .i64 24, .int .i64 24] 3 (0, 0)) → W.cell? ⟨k, n, none⟩ = some (.int .i64 (levelOp n)) := fun W k h => by
            refine cellAt h ?_
            have : n = 1 ∨ n = 2 ∨ n = 3 ∨ n = 4 ∨ n = 5 := by omega
            rcases this with rfl | rfl | rfl | rfl | rfl <;> rfl
          have hTBa : ∀ (W : World) (k : Nat), k = W.heap.size → (W.alloc (.cells #[.int .i64 0, .int .i64 26, .int .i64 25, .int .i64 24, .int .i64 24, .int .i64 24] 3 (0, 0))).cell? ⟨k, n, none⟩ = some (.int .i64 (levelOp n)) := fun W k h => hTBc _ _ (by rw [h]; exact blk_alloc _ _)
          have HTBc := Lib.hid hTBc
          have HTBa := Lib.hid hTBa
          clear hTBc hTBa
          have hLn : ([Value.int .i64 0, .int .i64 26, .int .i64 25, .int .i64 24, .int .i64 24, .int .i64 24] : List Value)[n]? = some (.int .i64 (levelOp n)) := by
            have : n = 1 ∨ n = 2 ∨ n = 3 ∨ n = 4 ∨ n = 5 := by omega
            rcases this with rfl | rfl | rfl | rfl | rfl <;> rfl
          have hni : (0 : Int) ≤ (n : Int) := by omega
          have hnw : IntKind.i64.wrap ((n : Int) + 1) = (n : Int) + 1 := by rw [IntKind.wrap_i64]; omega
          have hni6 : (n : Int) < 6 := by omega
          go_upto_region 6 with fail
          cases y with
          | err a er =>
            have hL2 := HL.out
            simp only [] at hL2
            subst hL2
            refine wp_region_held_drew (S := fun w' => w'.cell? ⟨w1.heap.size, 0, none⟩ = some (ptrV b')) rfl n3 (fun hS => ?_)
            refine wpAnyH_take (i := 1) (v := ?_) rfl (by kernel_rfl) (by kernel_rfl) (by kernel_rfl) (fun _ _ _ h => h) (Or.inl ⟨by rfl, ?_⟩) hS ?_
            rotate_left
            · intro w' hSw; (try dsimp only at hSw); go_simp; try with_reducible rfl
            (try simp only [sL, Act.put])
            refine wpAnyH_take (i := 4) (v := ?_) rfl (by kernel_rfl) (by kernel_rfl) (by kernel_rfl) (fun _ _ _ h => h) (Or.inl ⟨by rfl, ?_⟩) hS ?_
            rotate_left
            · intro w' hSw; (try dsimp only at hSw); go_simp; try with_reducible rfl
            (try simp only [sL, Act.put])
            refine wpAnyH_take (i := 5) (v := ?_) rfl (by kernel_rfl) (by kernel_rfl) (by kernel_rfl) (fun _ _ _ h => h) (Or.inl ⟨by rfl, ?_⟩) hS ?_
            rotate_left
            · intro w' hSw; (try dsimp only at hSw); go_simp; try with_reducible rfl
            (try simp only [sL, Act.put])
            refine wpAnyH_take (i := 6) (v := ?_) rfl (by kernel_rfl) (by kernel_rfl) (by kernel_rfl) (fun _ _ _ h => h) (Or.inl ⟨by rfl, ?_⟩) hS ?_
            rotate_left
            · intro w' hSw; (try dsimp only at hSw); go_simp; try with_reducible rfl
            (try simp only [sL, Act.put])
            refine wpAnyH_take (i := 7) (v := ?_) rfl (by kernel_rfl) (by kernel_rfl) (by kernel_rfl) (fun _ _ _ h => h) (Or.inl ⟨by rfl, ?_⟩) hS ?_
            rotate_left
            · intro w' hSw; (try dsimp only at hSw); go_simp; try with_reducible rfl
            (try simp only [sL, Act.put])
            refine wpAnyH_take (i := 8) (v := ?_) rfl (by kernel_rfl) (by kernel_rfl) (by kernel_rfl) (fun _ _ _ h => h) (Or.inl ⟨by rfl, ?_⟩) hS ?_
            rotate_left
            · intro w' hSw; (try dsimp only at hSw); go_simp; try with_reducible rfl
            (try simp only [sL, Act.put])
            refine wpAnyH_ready (rs := [0, 9, 12]) (by kernel_rfl) (by simp) ?_
            refine AllReadyH.cons rfl (fun K' hK => ?_) (AllReadyH.cons rfl (fun K' hK => ?_) (AllReadyH.cons rfl (fun K' hK => ?_) (AllReadyH.nil)))
            · simp only [sL]
              go_simp
              refine hK.out _ _ ?_ (fun hS => ?_)
              · first | exact hS | exact n3 | exact cellAt (blk_alloc_lt HN3.out) rfl | exact cellAt (blk_alloc_lt (blk_alloc_lt HN3.out)) rfl
              clear hK
              (try simp only [sL, Act.put])
              refine wpAnyH_take (i := 2) (v := ?_) rfl (by kernel_rfl) (by kernel_rfl) (by kernel_rfl) (fun _ _ _ h => h) (Or.inl ⟨by rfl, ?_⟩) hS ?_
              rotate_left
              · intro w' hSw; (try dsimp only at hSw); go_simp; try with_reducible rfl
              (try simp only [sL, Act.put])
              refine wpAnyH_ready (rs := [3, 9, 12]) (by kernel_rfl) (by simp) ?_
              refine AllReadyH.cons rfl (fun K' hK => ?_) (AllReadyH.cons rfl (fun K' hK => ?_) (AllReadyH.cons rfl (fun K' hK => ?_) (AllReadyH.nil)))
              · simp only [sL]
                have hTBa := HTBa.out
                go_simp
                clear hTBa
                refine hK.out _ _ ?_ (fun hS => ?_)
                · first | exact hS | exact n3 | exact cellAt (blk_alloc_lt HN3.out) rfl | exact cellAt (blk_alloc_lt (blk_alloc_lt HN3.out)) rfl
                clear hK
                (try simp only [sL, Act.put])
                refine wpAnyH_ready (rs := [9, 12]) (by kernel_rfl) (by simp) ?_
                refine AllReadyH.cons rfl (fun K' hK => ?_) (AllReadyH.cons rfl (fun K' hK => ?_) (AllReadyH.nil))
                · simp only [sL]
                  go_simp
                  refine (HE.out _ (by repeat' (first | (with_reducible exact hc3) | (with_reducible refine Ctx.alloc ?_ _) | (with_reducible refine Ctx.drew ?_) | (with_reducible refine Ctx.drewN ?_ _) | (with_reducible refine Ctx.setNew ?_ (by first | omega | (simp; done) | (simp; omega)) (by first | omega | (simp; done) | (simp; omega)) _)))).mono ?_
                  rintro e w4 ⟨hm4, rfl⟩
                  exact ⟨rfl, Md.trans (by repeat' (first | (with_reducible exact hM3) | (with_reducible refine Md.alloc ?_ _) | (with_reducible refine Md.drew ?_) | (with_reducible refine Md.drewN ?_ _) | (with_reducible refine Md.setCell ?_ (.inl (by first | omega | (simp; done) | (simp; omega))) _))) hm4, rfl⟩
                · simp only [sL]
                  go_simp
                  refine hK.out _ _ ?_ (fun hS => ?_)
                  · first | exact hS | exact n3 | exact cellAt (blk_alloc_lt HN3.out) rfl | exact cellAt (blk_alloc_lt (blk_alloc_lt HN3.out)) rfl
                  clear hK
                  (try simp only [sL, Act.put])
                  refine wpAnyH_ready (rs := [9]) (by kernel_rfl) (by simp) ?_
                  refine AllReadyH.cons rfl (fun K' hK => ?_) (AllReadyH.nil)
                  · simp only [sL]
                    go_simp
                    refine (HE.out _ (by repeat' (first | (with_reducible exact hc3) | (with_reducible refine Ctx.alloc ?_ _) | (with_reducible refine Ctx.drew ?_) | (with_reducible refine Ctx.drewN ?_ _) | (with_reducible refine Ctx.setNew ?_ (by first | omega | (simp; done) | (simp; omega)) (by first | omega | (simp; done) | (simp; omega)) _)))).mono ?_
                    rintro e w4 ⟨hm4, rfl⟩
                    exact ⟨rfl, Md.trans (by repeat' (first | (with_reducible exact hM3) | (with_reducible refine Md.alloc ?_ _) | (with_reducible refine Md.drew ?_) | (with_reducible refine Md.drewN ?_ _) | (with_reducible refine Md.setCell ?_ (.inl (by first | omega | (simp; done) | (simp; omega))) _))) hm4, rfl⟩
              · simp only [sL]
                go_simp
                refine (HE.out _ (by repeat' (first | (with_reducible exact hc3) | (with_reducible refine Ctx.alloc ?_ _) | (with_reducible refine Ctx.drew ?_) | (with_reducible refine Ctx.drewN ?_ _) | (with_reducible refine Ctx.setNew ?_ (by first | omega | (simp; done) | (simp; omega)) (by first | omega | (simp; done) | (simp; omega)) _)))).mono ?_
                rintro e w4 ⟨hm4, rfl⟩
                exact ⟨rfl, Md.trans (by repeat' (first | (with_reducible exact hM3) | (with_reducible refine Md.alloc ?_ _) | (with_reducible refine Md.drew ?_) | (with_reducible refine Md.drewN ?_ _) | (with_reducible refine Md.setCell ?_ (.inl (by first | omega | (simp; done) | (simp; omega))) _))) hm4, rfl⟩
              · simp only [sL]
                go_simp
                refine hK.out _ _ ?_ (fun hS => ?_)
                · first | exact hS | exact n3 | exact cellAt (blk_alloc_lt HN3.out) rfl | exact cellAt (blk_alloc_lt (blk_alloc_lt HN3.out)) rfl
                clear hK
                (try simp only [sL, Act.put])
                refine wpAnyH_ready (rs := [3, 9]) (by kernel_rfl) (by simp) ?_
                refine AllReadyH.cons rfl (fun K' hK => ?_) (AllReadyH.cons rfl (fun K' hK => ?_) (AllReadyH.nil))
                · simp only [sL]
                  have hTBa := HTBa.out
                  go_simp
                  clear hTBa
                  refine hK.out _ _ ?_ (fun hS => ?_)
                  · first | exact hS | exact n3 | exact cellAt (blk_alloc_lt HN3.out) rfl | exact cellAt (blk_alloc_lt (blk_alloc_lt HN3.out)) rfl
                  clear hK
                  (try simp only [sL, Act.put])
                  refine wpAnyH_ready (rs := [9]) (by kernel_rfl) (by simp) ?_
                  refine AllReadyH.cons rfl (fun K' hK => ?_) (AllReadyH.nil)
                  · simp only [sL]
                    go_simp
                    refine (HE.out _ (by repeat' (first | (with_reducible exact hc3) | (with_reducible refine Ctx.alloc ?_ _) | (with_reducible refine Ctx.drew ?_) | (with_reducible refine Ctx.drewN ?_ _) | (with_reducible refine Ctx.setNew ?_ (by first | omega | (simp; done) | (simp; omega)) (by first | omega | (simp; done) | (simp; omega)) _)))).mono ?_
                    rintro e w4 ⟨hm4, rfl⟩
                    exact ⟨rfl, Md.trans (by repeat' (first | (with_reducible exact hM3) | (with_reducible refine Md.alloc ?_ _) | (with_reducible refine Md.drew ?_) | (with_reducible refine Md.drewN ?_ _) | (with_reducible refine Md.setCell ?_ (.inl (by first | omega | (simp; done) | (simp; omega))) _))) hm4, rfl⟩
                · simp only [sL]
                  go_simp
                  refine (HE.out _ (by repeat' (first | (with_reducible exact hc3) | (with_reducible refine Ctx.alloc ?_ _) | (with_reducible refine Ctx.drew ?_) | (with_reducible refine Ctx.drewN ?_ _) | (with_reducible refine Ctx.setNew ?_ (by first | omega | (simp; done) | (simp; omega)) (by first | omega | (simp; done) | (simp; omega)) _)))).mono ?_
                  rintro e w4 ⟨hm4, rfl⟩
                  exact ⟨rfl, Md.trans (by repeat' (first | (with_reducible exact hM3) | (with_reducible refine Md.alloc ?_ _) | (with_reducible refine Md.drew ?_) | (with_reducible refine Md.drewN ?_ _) | (with_reducible refine Md.setCell ?_ (.inl (by first | omega | (simp; done) | (simp; omega))) _))) hm4, rfl⟩
            · simp only [sL]
              go_simp
              refine (HE.out _ (by repeat' (first | (with_reducible exact hc3) | (with_reducible refine Ctx.alloc ?_ _) | (with_reducible refine Ctx.drew ?_) | (with_reducible refine Ctx.drewN ?_ _) | (with_reducible refine Ctx.setNew ?_ (by first | omega | (simp; done) | (simp; omega)) (by first | omega | (simp; done) | (simp; omega)) _)))).mono ?_
              rintro e w4 ⟨hm4, rfl⟩
              exact ⟨rfl, Md.trans (by repeat' (first | (with_reducible exact hM3) | (with_reducible refine Md.alloc ?_ _) | (with_reducible refine Md.drew ?_) | (with_reducible refine Md.drewN ?_ _) | (with_reducible refine Md.setCell ?_ (.inl (by first | omega | (simp; done) | (simp; omega))) _))) hm4, rfl⟩
            · simp only [sL]
              go_simp
              refine hK.out _ _ ?_ (fun hS => ?_)
              · first | exact hS | exact n3 | exact cellAt (blk_alloc_lt HN3.out) rfl | exact cellAt (blk_alloc_lt (blk_alloc_lt HN3.out)) rfl
              clear hK
              (try simp only [sL, Act.put])
              refine wpAnyH_ready (rs := [0, 9]) (by kernel_rfl) (by simp) ?_
              refine AllReadyH.cons rfl (fun K' hK => ?_) (AllReadyH.cons rfl (fun K' hK => ?_) (AllReadyH.nil))
              · simp only [sL]
                go_simp
                refine hK.out _ _ ?_ (fun hS => ?_)
                · first | exact hS | exact n3 | exact cellAt (blk_alloc_lt HN3.out) rfl | exact cellAt (blk_alloc_lt (blk_alloc_lt HN3.out)) rfl
                clear hK
                (try simp only [sL, Act.put])
                refine wpAnyH_take (i := 2) (v := ?_) rfl (by kernel_rfl) (by kernel_rfl) (by kernel_rfl) (fun _ _ _ h => h) (Or.inl ⟨by rfl, ?_⟩) hS ?_
                rotate_left
                · intro w' hSw; (try dsimp only at hSw); go_simp; try with_reducible rfl
                (try simp only [sL, Act.put])
                refine wpAnyH_ready (rs := [3, 9]) (by kernel_rfl) (by simp) ?_
                refine AllReadyH.cons rfl (fun K' hK => ?_) (AllReadyH.cons rfl (fun K' hK => ?_) (AllReadyH.nil))
                · simp only [sL]
                  have hTBa := HTBa.out
                  go_simp
                  clear hTBa
                  refine hK.out _ _ ?_ (fun hS => ?_)
                  · first | exact hS | exact n3 | exact cellAt (blk_alloc_lt HN3.out) rfl | exact cellAt (blk_alloc_lt (blk_alloc_lt HN3.out)) rfl
                  clear hK
                  (try simp only [sL, Act.put])
                  refine wpAnyH_ready (rs := [9]) (by kernel_rfl) (by simp) ?_
                  refine AllReadyH.cons rfl (fun K' hK => ?_) (AllReadyH.nil)
                  · simp only [sL]
                    go_simp
                    refine (HE.out _ (by repeat' (first | (with_reducible exact hc3) | (with_reducible refine Ctx.alloc ?_ _) | (with_reducible refine Ctx.drew ?_) | (with_reducible refine Ctx.drewN ?_ _) | (with_reducible refine Ctx.setNew ?_ (by first | omega | (simp; done) | (simp; omega)) (by first | omega | (simp; done) | (simp; omega)) _)))).mono ?_
                    rintro e w4 ⟨hm4, rfl⟩
                    exact ⟨rfl, Md.trans (by repeat' (first | (with_reducible exact hM3) | (with_reducible refine Md.alloc ?_ _) | (with_reducible refine Md.drew ?_) | (with_reducible refine Md.drewN ?_ _) | (with_reducible refine Md.setCell ?_ (.inl (by first | omega | (simp; done) | (simp; omega))) _))) hm4, rfl⟩
                · simp only [sL]
                  go_simp
                  refine (HE.out _ (by repeat' (first | (with_reducible exact hc3) | (with_reducible refine Ctx.alloc ?_ _) | (with_reducible refine Ctx.drew ?_) | (with_reducible refine Ctx.drewN ?_ _) | (with_reducible refine Ctx.setNew ?_ (by first | omega | (simp; done) | (simp; omega)) (by first | omega | (simp; done) | (simp; omega)) _)))).mono ?_
                  rintro e w4 ⟨hm4, rfl⟩
                  exact ⟨rfl, Md.trans (by repeat' (first | (with_reducible exact hM3) | (with_reducible refine Md.alloc ?_ _) | (with_reducible refine Md.drew ?_) | (with_reducible refine Md.drewN ?_ _) | (with_reducible refine Md.setCell ?_ (.inl (by first | omega | (simp; done) | (simp; omega))) _))) hm4, rfl⟩
              · simp only [sL]
                go_simp
                refine (HE.out _ (by repeat' (first | (with_reducible exact hc3) | (with_reducible refine Ctx.alloc ?_ _) | (with_reducible refine Ctx.drew ?_) | (with_reducible refine Ctx.drewN ?_ _) | (with_reducible refine Ctx.setNew ?_ (by first | omega | (simp; done) | (simp; omega)) (by first | omega | (simp; done) | (simp; omega)) _)))).mono ?_
                rintro e w4 ⟨hm4, rfl⟩
                exact ⟨rfl, Md.trans (by repeat' (first | (with_reducible exact hM3) | (with_reducible refine Md.alloc ?_ _) | (with_reducible refine Md.drew ?_) | (with_reducible refine Md.drewN ?_ _) | (with_reducible refine Md.setCell ?_ (.inl (by first | omega | (simp; done) | (simp; omega))) _))) hm4, rfl⟩
          | ok x p2 =>
            go_cut [9] from 28 to 45 (fun vn wx => ∃ w2 c bu, vn = .pointer (some ⟨c, 0, none⟩) ∧ Made w2 wx w3.heap.size c (levelOp n) at_ [b', bu] ∧ Md K.rb w w2 ∧ Ctx K p2 d w2 ∧ TreeAt w2 (fun k => w3.heap.size ≤ k ∧ k ≠ c) bu x ∧ TreeAt w2 (fun k => w.heap.size < k ∧ k ≠ w1.heap.size ∧ k < w3.heap.size) b' t' ∧ w2.heap[w.heap.size]? = some (.cells #[.pointer none] 53 (0, 0)) ∧ w2.heap[w1.heap.size]? = some (.cells #[ptrV b'] 53 (0, 0)))
            case first =>
              refine wp_region_held_drew (S := fun w' => w'.cell? ⟨w1.heap.size, 0, none⟩ = some (ptrV b')) rfl n3 (fun hS => ?_)
              refine wpAnyH_take (i := 1) (v := ?_) rfl (by kernel_rfl) (by kernel_rfl) (by kernel_rfl) (fun _ _ _ h => h) (Or.inl ⟨by rfl, ?_⟩) hS ?_
              rotate_left
              · intro w' hSw; (try dsimp only at hSw); go_simp; try with_reducible rfl
              (try simp only [sL, Act.put])
              refine wpAnyH_take (i := 4) (v := ?_) rfl (by kernel_rfl) (by kernel_rfl) (by kernel_rfl) (fun _ _ _ h => h) (Or.inl ⟨by rfl, ?_⟩) hS ?_
              rotate_left
              · intro w' hSw; (try dsimp only at hSw); go_simp; try with_reducible rfl
              (try simp only [sL, Act.put])
              refine wpAnyH_take (i := 5) (v := ?_) rfl (by kernel_rfl) (by kernel_rfl) (by kernel_rfl) (fun _ _ _ h => h) (Or.inl ⟨by rfl, ?_⟩) hS ?_
              rotate_left
              · intro w' hSw; (try dsimp only at hSw); go_simp; try with_reducible rfl
              (try simp only [sL, Act.put])
              refine wpAnyH_take (i := 6) (v := ?_) rfl (by kernel_rfl) (by kernel_rfl) (by kernel_rfl) (fun _ _ _ h => h) (Or.inl ⟨by rfl, ?_⟩) hS ?_
              rotate_left
              · intro w' hSw; (try dsimp only at hSw); go_simp; try with_reducible rfl
              (try simp only [sL, Act.put])
              refine wpAnyH_take (i := 7) (v := ?_) rfl (by kernel_rfl) (by kernel_rfl) (by kernel_rfl) (fun _ _ _ h => h) (Or.inl ⟨by rfl, ?_⟩) hS ?_
              rotate_left
              · intro w' hSw; (try dsimp only at hSw); go_simp; try with_reducible rfl
              (try simp only [sL, Act.put])
              refine wpAnyH_take (i := 8) (v := ?_) rfl (by kernel_rfl) (by kernel_rfl) (by kernel_rfl) (fun _ _ _ h => h) (Or.inl ⟨by rfl, ?_⟩) hS ?_
              rotate_left
              · intro w' hSw; (try dsimp only at hSw); go_simp; try with_reducible rfl
              (try simp only [sL, Act.put])
              refine wpAnyH_ready (rs := [0, 9, 12]) (by kernel_rfl) (by simp) ?_
              refine AllReadyH.cons rfl (fun K' hK => ?_) (AllReadyH.cons rfl (fun K' hK => ?_) (AllReadyH.cons rfl (fun K' hK => ?_) (AllReadyH.nil)))
              simp only [sL]
              go_simp
              refine hK.out _ _ (cellAt (blk_alloc_lt (HN3.out)) rfl) (fun hS => ?_)
              clear hK
              (try simp only [sL, Act.put])
              refine wpAnyH_more (T := fun w' => w'.heap[w3.heap.size]? = some (.cells #[.int .i64 0, .int .i64 26, .int .i64 25, .int .i64 24, .int .i64 24, .int .i64 24] 3 (0, 0))) hS (blk_alloc _ _) (fun hS => ?_)
              refine wpAnyH_take (i := 2) (v := ?_) rfl (by kernel_rfl) (by kernel_rfl) (by kernel_rfl) (fun _ _ _ h => h) (Or.inl ⟨by rfl, ?_⟩) hS ?_
              rotate_left
              · intro w' hSw; (try dsimp only at hSw); go_simp; try with_reducible rfl
              (try simp only [sL, Act.put])
              refine wpAnyH_take (i := 3) (v := .int .i64 (levelOp n)) rfl (by kernel_rfl) (by kernel_rfl) (by kernel_rfl) (fun _ _ _ h => h) (Or.inl ⟨by rfl, ?_⟩) hS ?_
              · intro w' hSw; (try dsimp only at hSw); have hT := HTBc.out _ _ hSw.2; go_simp; try with_reducible rfl
              (try simp only [sL, Act.put])
              refine wpAnyH_ready (rs := [9, 12]) (by kernel_rfl) (by simp) ?_
              refine AllReadyH.cons rfl (fun K' hK => ?_) (AllReadyH.cons rfl (fun K' hK => ?_) (AllReadyH.nil))
              simp only [sL]
              go_simp
              refine (HE.out _ (by repeat' (first | (with_reducible exact hc3) | (with_reducible refine Ctx.alloc ?_ _) | (with_reducible refine Ctx.drew ?_) | (with_reducible refine Ctx.drewN ?_ _) | (with_reducible refine Ctx.setNew ?_ (by first | omega | (simp; done) | (simp; omega)) (by first | omega | (simp; done) | (simp; omega)) _)))).mono ?_
              rintro e w4 ⟨hm4, v, rfl, ⟨bu, rfl, ht⟩, hc4⟩
              have N4 : w4.heap[w1.heap.size]? = some (.cells #[ptrV b'] 53 (0, 0)) := hm4.blk (blk_alloc_lt (HN3.out)) (by omega)
              have hl4 := blkLt N4
              have hs4 := hm4.size
              have hT4 := hm4.blk hS.2 (by omega)
              have hlT4 := blkLt hT4
              refine hK.out _ _ ⟨cellAt N4 rfl, hT4⟩ (fun hS => ?_)
              clear hK
              (try simp only [sL, Act.put])
              refine wpAnyH_ready (rs := [10, 12]) (by kernel_rfl) (by simp) ?_
              refine AllReadyH.cons rfl (fun K' hK => ?_) (AllReadyH.cons rfl (fun K' hK => ?_) (AllReadyH.nil))
              simp only [sL]
              go_simp
              refine hK.out _ _ ⟨cellAt (blk_alloc_lt (N4)) rfl, blk_alloc_lt hS.2⟩ (fun hS => ?_)
              clear hK
              (try simp only [sL, Act.put])
              refine wpAnyH_ready (rs := [11, 12]) (by kernel_rfl) (by simp) ?_
              refine AllReadyH.cons rfl (fun K' hK => ?_) (AllReadyH.cons rfl (fun K' hK => ?_) (AllReadyH.nil))
              simp only [sL]
              go_simp
              refine (plain_any (levelOp n) at_ _ _ _ _).mono ?_
              rintro e w5 ⟨bn, rfl, hnb, hnd, hng⟩
              have N5 : w5.heap[w1.heap.size]? = some (.cells #[ptrV b'] 53 (0, 0)) := hng.blk (blk_alloc_lt (N4))
              have n5 := cellAt N5 (i := 0) rfl
              have hT5 := hng.blk hS.2
              refine hK.out _ _ ⟨n5, hT5⟩ (fun hS => ?_)
              clear hK
              (try simp only [sL, Act.put])
              refine wpAnyH_ready (rs := [12]) (by kernel_rfl) (by simp) ?_
              refine AllReadyH.cons rfl (fun K' hK => ?_) (AllReadyH.nil)
              simp only [sL]
              go_simp
              refine hK.out _ _ ⟨cellAt (blk_alloc_lt (N5)) rfl, blk_alloc_lt hS.2⟩ (fun hS => ?_)
              clear hK
              (try simp only [sL, Act.put])
              refine wpAnyH_ready (rs := [13]) (by kernel_rfl) (by simp) ?_
              refine AllReadyH.cons rfl (fun K' hK => ?_) (AllReadyH.nil)
              simp only [sL]
              go_simp
              refine hK.out _ _ ⟨(by first | exact cellAt (blk_alloc_lt N5) rfl | exact (World.cell?_setCell_far _ _ _ _ (by simp <;> omega)).trans (cellAt (blk_alloc_lt N5) rfl)), (by first | exact blk_alloc_lt hT5 | exact blk_setCell_ne hS.2 (by simp <;> omega))⟩ (fun hS => ?_)
              clear hK
              (try simp only [sL, Act.put])
              refine wpAnyH_done (by kernel_rfl) ?_ _
              rotate_left
              simp only [sL]
              go_simp
              refine hK.out _ _ ⟨cellAt (blk_alloc_lt (blk_alloc_lt (N4))) rfl, blk_alloc_lt hS.2⟩ (fun hS => ?_)
              clear hK
              (try simp only [sL, Act.put])
              refine wpAnyH_ready (rs := [11]) (by kernel_rfl) (by simp) ?_
              refine AllReadyH.cons rfl (fun K' hK => ?_) (AllReadyH.nil)
              simp only [sL]
              go_simp
              refine (plain_any (levelOp n) at_ _ _ _ _).mono ?_
              rintro e w5 ⟨bn, rfl, hnb, hnd, hng⟩
              have N5 : w5.heap[w1.heap.size]? = some (.cells #[ptrV b'] 53 (0, 0)) := hng.blk (blk_alloc_lt (blk_alloc_lt (N4)))
              have n5 := cellAt N5 (i := 0) rfl
              have C5 : w5.heap[w4.heap.size + 1]? = some (.cells #[.pointer none] 53 (0, 0)) := hng.blk (alloc2_snd _ _ _)
              have c5 := cellAt C5 (i := 0) rfl
              have f5 := frozenAt C5
              have hT5 := hng.blk hS.2
              refine hK.out _ _ ⟨n5, hT5⟩ (fun hS => ?_)
              clear hK
              (try simp only [sL, Act.put])
              refine wpAnyH_ready (rs := [13]) (by kernel_rfl) (by simp) ?_
              refine AllReadyH.cons rfl (fun K' hK => ?_) (AllReadyH.nil)
              simp only [sL]
              go_simp
              refine hK.out _ _ ⟨(World.cell?_setCell_far _ _ _ _ (by simp <;> omega)).trans n5, blk_setCell_ne hS.2 (by simp <;> omega)⟩ (fun hS => ?_)
              clear hK
              (try simp only [sL, Act.put])
              refine wpAnyH_done (by kernel_rfl) ?_ _
              rotate_left
              simp only [sL]
              go_simp
              refine hK.out _ _ ⟨cellAt (blk_alloc_lt (N4)) rfl, blk_alloc_lt hS.2⟩ (fun hS => ?_)
              clear hK
              (try simp only [sL, Act.put])
              refine wpAnyH_ready (rs := [10]) (by kernel_rfl) (by simp) ?_
              refine AllReadyH.cons rfl (fun K' hK => ?_) (AllReadyH.nil)
              simp only [sL]
              go_simp
              refine hK.out _ _ ⟨cellAt (blk_alloc_lt (blk_alloc_lt (N4))) rfl, blk_alloc_lt hS.2⟩ (fun hS => ?_)
              clear hK
              (try simp only [sL, Act.put])
              refine wpAnyH_ready (rs := [11]) (by kernel_rfl) (by simp) ?_
              refine AllReadyH.cons rfl (fun K' hK => ?_) (AllReadyH.nil)
              simp only [sL]
              go_simp
              refine (plain_any (levelOp n) at_ _ _ _ _).mono ?_
              rintro e w5 ⟨bn, rfl, hnb, hnd, hng⟩
              have N5 : w5.heap[w1.heap.size]? = some (.cells #[ptrV b'] 53 (0, 0)) := hng.blk (blk_alloc_lt (blk_alloc_lt (N4)))
              have n5 := cellAt N5 (i := 0) rfl
              have C5 : w5.heap[w4.heap.size]? = some (.cells #[.pointer none] 53 (0, 0)) := hng.blk (blk_alloc_lt (blk_alloc _ _))
              have c5 := cellAt C5 (i := 0) rfl
              have f5 := frozenAt C5
              have hT5 := hng.blk hS.2
              refine hK.out _ _ ⟨n5, hT5⟩ (fun hS => ?_)
              clear hK
              (try simp only [sL, Act.put])
              refine wpAnyH_ready (rs := [13]) (by kernel_rfl) (by simp) ?_
              refine AllReadyH.cons rfl (fun K' hK => ?_) (AllReadyH.nil)
              simp only [sL]
              go_simp
              refine hK.out _ _ ⟨(World.cell?_setCell_far _ _ _ _ (by simp <;> omega)).trans n5, blk_setCell_ne hS.2 (by simp <;> omega)⟩ (fun hS => ?_)
              clear hK
              (try simp only [sL, Act.put])
              refine wpAnyH_done (by kernel_rfl) ?_ _
              rotate_left
              simp only [sL]
              go_simp
              refine hK.out _ _ ⟨cellAt (blk_alloc_lt (blk_alloc_lt (HN3.out))) rfl, blk_alloc_lt hS.2⟩ (fun hS => ?_)
              clear hK
              (try simp only [sL, Act.put])
              refine wpAnyH_ready (rs := [9]) (by kernel_rfl) (by simp) ?_
              refine AllReadyH.cons rfl (fun K' hK => ?_) (AllReadyH.nil)
              simp only [sL]
              go_simp
              refine (HE.out _ (by repeat' (first | (with_reducible exact hc3) | (with_reducible refine Ctx.alloc ?_ _) | (with_reducible refine Ctx.drew ?_) | (with_reducible refine Ctx.drewN ?_ _) | (with_reducible refine Ctx.setNew ?_ (by first | omega | (simp; done) | (simp; omega)) (by first | omega | (simp; done) | (simp; omega)) _)))).mono ?_
              rintro e w4 ⟨hm4, v, rfl, ⟨bu, rfl, ht⟩, hc4⟩
              have N4 : w4.heap[w1.heap.size]? = some (.cells #[ptrV b'] 53 (0, 0)) := hm4.blk (blk_alloc_lt (blk_alloc_lt (HN3.out))) (by omega)
              have hl4 := blkLt N4
              have hs4 := hm4.size
              have C4 : w4.heap[w3.heap.size + 1]? = some (.cells #[.pointer none] 53 (0, 0)) := hm4.blk (alloc2_snd _ _ _) (by omega)
              have hlC4 := blkLt C4
              have hT4 := hm4.blk hS.2 (by omega)
              have hlT4 := blkLt hT4
              refine hK.out _ _ ⟨cellAt N4 rfl, hT4⟩ (fun hS => ?_)
              clear hK
              (try simp only [sL, Act.put])
              refine wpAnyH_ready (rs := [10]) (by kernel_rfl) (by simp) ?_
              refine AllReadyH.cons rfl (fun K' hK => ?_) (AllReadyH.nil)
              simp only [sL]
              go_simp
              refine hK.out _ _ ⟨cellAt (blk_alloc_lt (N4)) rfl, blk_alloc_lt hS.2⟩ (fun hS => ?_)
              clear hK
              (try simp only [sL, Act.put])
              refine wpAnyH_ready (rs := [11]) (by kernel_rfl) (by simp) ?_
              refine AllReadyH.cons rfl (fun K' hK => ?_) (AllReadyH.nil)
              simp only [sL]
              go_simp
              refine (plain_any (levelOp n) at_ _ _ _ _).mono ?_
              rintro e w5 ⟨bn, rfl, hnb, hnd, hng⟩
              have N5 : w5.heap[w1.heap.size]? = some (.cells #[ptrV b'] 53 (0, 0)) := hng.blk (blk_alloc_lt (N4))
              have n5 := cellAt N5 (i := 0) rfl
              have C5 : w5.heap[w3.heap.size + 1]? = some (.cells #[.pointer none] 53 (0, 0)) := hng.blk (blk_alloc_lt (C4))
              have c5 := cellAt C5 (i := 0) rfl
              have f5 := frozenAt C5
              have hT5 := hng.blk hS.2
              refine hK.out _ _ ⟨n5, hT5⟩ (fun hS => ?_)
              clear hK
              (try simp only [sL, Act.put])
              refine wpAnyH_ready (rs := [13]) (by kernel_rfl) (by simp) ?_
              refine AllReadyH.cons rfl (fun K' hK => ?_) (AllReadyH.nil)
              simp only [sL]
              go_simp
              refine hK.out _ _ ⟨(World.cell?_setCell_far _ _ _ _ (by simp <;> omega)).trans n5, blk_setCell_ne hS.2 (by simp <;> omega)⟩ (fun hS => ?_)
              clear hK
              (try simp only [sL, Act.put])
              refine wpAnyH_done (by kernel_rfl) ?_ _
              rotate_left
              simp only [sL]
              go_simp
              refine (HE.out _ (by repeat' (first | (with_reducible exact hc3) | (with_reducible refine Ctx.alloc ?_ _) | (with_reducible refine Ctx.drew ?_) | (with_reducible refine Ctx.drewN ?_ _) | (with_reducible refine Ctx.setNew ?_ (by first | omega | (simp; done) | (simp; omega)) (by first | omega | (simp; done) | (simp; omega)) _)))).mono ?_
              rintro e w4 ⟨hm4, v, rfl, ⟨bu, rfl, ht⟩, hc4⟩
              have N4 : w4.heap[w1.heap.size]? = some (.cells #[ptrV b'] 53 (0, 0)) := hm4.blk (HN3.out) (by omega)
              have hl4 := blkLt N4
              have hs4 := hm4.size
              refine hK.out _ _ (cellAt N4 rfl) (fun hS => ?_)
              clear hK
              (try simp only [sL, Act.put])
              refine wpAnyH_ready (rs := [0, 10, 12]) (by kernel_rfl) (by simp) ?_
              refine AllReadyH.cons rfl (fun K' hK => ?_) (AllReadyH.cons rfl (fun K' hK => ?_) (AllReadyH.cons rfl (fun K' hK => ?_) (AllReadyH.nil)))
              simp only [sL]
              go_simp
              refine hK.out _ _ (cellAt (blk_alloc_lt (N4)) rfl) (fun hS => ?_)
              clear hK
              (try simp only [sL, Act.put])
              refine wpAnyH_more (T := fun w' => w'.heap[w4.heap.size]? = some (.cells #[.int .i64 0, .int .i64 26, .int .i64 25, .int .i64 24, .int .i64 24, .int .i64 24] 3 (0, 0))) hS (blk_alloc _ _) (fun hS => ?_)
              refine wpAnyH_take (i := 2) (v := ?_) rfl (by kernel_rfl) (by kernel_rfl) (by kernel_rfl) (fun _ _ _ h => h) (Or.inl ⟨by rfl, ?_⟩) hS ?_
              rotate_left
              · intro w' hSw; (try dsimp only at hSw); go_simp; try with_reducible rfl
              (try simp only [sL, Act.put])
              refine wpAnyH_take (i := 3) (v := .int .i64 (levelOp n)) rfl (by kernel_rfl) (by kernel_rfl) (by kernel_rfl) (fun _ _ _ h => h) (Or.inl ⟨by rfl, ?_⟩) hS ?_
              · intro w' hSw; (try dsimp only at hSw); have hT := HTBc.out _ _ hSw.2; go_simp; try with_reducible rfl
              (try simp only [sL, Act.put])
              refine wpAnyH_ready (rs := [10, 12]) (by kernel_rfl) (by simp) ?_
              refine AllReadyH.cons rfl (fun K' hK => ?_) (AllReadyH.cons rfl (fun K' hK => ?_) (AllReadyH.nil))
              simp only [sL]
              go_simp
              refine hK.out _ _ ⟨cellAt (blk_alloc_lt (blk_alloc_lt (N4))) rfl, blk_alloc_lt hS.2⟩ (fun hS => ?_)
              clear hK
              (try simp only [sL, Act.put])
              refine wpAnyH_ready (rs := [11, 12]) (by kernel_rfl) (by simp) ?_
              refine AllReadyH.cons rfl (fun K' hK => ?_) (AllReadyH.cons rfl (fun K' hK => ?_) (AllReadyH.nil))
              simp only [sL]
              go_simp
              refine (plain_any (levelOp n) at_ _ _ _ _).mono ?_
              rintro e w5 ⟨bn, rfl, hnb, hnd, hng⟩
              have N5 : w5.heap[w1.heap.size]? = some (.cells #[ptrV b'] 53 (0, 0)) := hng.blk (blk_alloc_lt (blk_alloc_lt (N4)))
              have n5 := cellAt N5 (i := 0) rfl
              have hT5 := hng.blk hS.2
              refine hK.out _ _ ⟨n5, hT5⟩ (fun hS => ?_)
              clear hK
              (try simp only [sL, Act.put])
              refine wpAnyH_ready (rs := [12]) (by kernel_rfl) (by simp) ?_
              refine AllReadyH.cons rfl (fun K' hK => ?_) (AllReadyH.nil)
              simp only [sL]
              go_simp
              refine hK.out _ _ ⟨cellAt (blk_alloc_lt (N5)) rfl, blk_alloc_lt hS.2⟩ (fun hS => ?_)
              clear hK
              (try simp only [sL, Act.put])
              refine wpAnyH_ready (rs := [13]) (by kernel_rfl) (by simp) ?_
              refine AllReadyH.cons rfl (fun K' hK => ?_) (AllReadyH.nil)
              simp only [sL]
              go_simp
              refine hK.out _ _ ⟨(by first | exact cellAt (blk_alloc_lt N5) rfl | exact (World.cell?_setCell_far _ _ _ _ (by simp <;> omega)).trans (cellAt (blk_alloc_lt N5) rfl)), (by first | exact blk_alloc_lt hT5 | exact blk_setCell_ne hS.2 (by simp <;> omega))⟩ (fun hS => ?_)
              clear hK
              (try simp only [sL, Act.put])
              refine wpAnyH_done (by kernel_rfl) ?_ _
              rotate_left
              simp only [sL]
              go_simp
              refine hK.out _ _ ⟨cellAt (blk_alloc_lt (blk_alloc_lt (blk_alloc_lt (N4)))) rfl, blk_alloc_lt hS.2⟩ (fun hS => ?_)
              clear hK
              (try simp only [sL, Act.put])
              refine wpAnyH_ready (rs := [11]) (by kernel_rfl) (by simp) ?_
              refine AllReadyH.cons rfl (fun K' hK => ?_) (AllReadyH.nil)
              simp only [sL]
              go_simp
              refine (plain_any (levelOp n) at_ _ _ _ _).mono ?_
              rintro e w5 ⟨bn, rfl, hnb, hnd, hng⟩
              have N5 : w5.heap[w1.heap.size]? = some (.cells #[ptrV b'] 53 (0, 0)) := hng.blk (blk_alloc_lt (blk_alloc_lt (blk_alloc_lt (N4))))
              have n5 := cellAt N5 (i := 0) rfl
              have C5 : w5.heap[w4.heap.size + 2]? = some (.cells #[.pointer none] 53 (0, 0)) := hng.blk (alloc3_trd _ _ _ _)
              have c5 := cellAt C5 (i := 0) rfl
              have f5 := frozenAt C5
              have hT5 := hng.blk hS.2
              refine hK.out _ _ ⟨n5, hT5⟩ (fun hS => ?_)
              clear hK
              (try simp only [sL, Act.put])
              refine wpAnyH_ready (rs := [13]) (by kernel_rfl) (by simp) ?_
              refine AllReadyH.cons rfl (fun K' hK => ?_) (AllReadyH.nil)
              simp only [sL]
              go_simp
              refine hK.out _ _ ⟨(World.cell?_setCell_far _ _ _ _ (by simp <;> omega)).trans n5, blk_setCell_ne hS.2 (by simp <;> omega)⟩ (fun hS => ?_)
              clear hK
              (try simp only [sL, Act.put])
              refine wpAnyH_done (by kernel_rfl) ?_ _
              rotate_left
              simp only [sL]
              go_simp
              refine hK.out _ _ ⟨cellAt (blk_alloc_lt (blk_alloc_lt (N4))) rfl, blk_alloc_lt hS.2⟩ (fun hS => ?_)
              clear hK
              (try simp only [sL, Act.put])
              refine wpAnyH_ready (rs := [10]) (by kernel_rfl) (by simp) ?_
              refine AllReadyH.cons rfl (fun K' hK => ?_) (AllReadyH.nil)
              simp only [sL]
              go_simp
              refine hK.out _ _ ⟨cellAt (blk_alloc_lt (blk_alloc_lt (blk_alloc_lt (N4)))) rfl, blk_alloc_lt hS.2⟩ (fun hS => ?_)
              clear hK
              (try simp only [sL, Act.put])
              refine wpAnyH_ready (rs := [11]) (by kernel_rfl) (by simp) ?_
              refine AllReadyH.cons rfl (fun K' hK => ?_) (AllReadyH.nil)
              simp only [sL]
              go_simp
              refine (plain_any (levelOp n) at_ _ _ _ _).mono ?_
              rintro e w5 ⟨bn, rfl, hnb, hnd, hng⟩
              have N5 : w5.heap[w1.heap.size]? = some (.cells #[ptrV b'] 53 (0, 0)) := hng.blk (blk_alloc_lt (blk_alloc_lt (blk_alloc_lt (N4))))
              have n5 := cellAt N5 (i := 0) rfl
              have C5 : w5.heap[w4.heap.size + 1]? = some (.cells #[.pointer none] 53 (0, 0)) := hng.blk (blk_alloc_lt (alloc2_snd _ _ _))
              have c5 := cellAt C5 (i := 0) rfl
              have f5 := frozenAt C5
              have hT5 := hng.blk hS.2
              refine hK.out _ _ ⟨n5, hT5⟩ (fun hS => ?_)
              clear hK
              (try simp only [sL, Act.put])
              refine wpAnyH_ready (rs := [13]) (by kernel_rfl) (by simp) ?_
              refine AllReadyH.cons rfl (fun K' hK => ?_) (AllReadyH.nil)
              simp only [sL]
              go_simp
              refine hK.out _ _ ⟨(World.cell?_setCell_far _ _ _ _ (by simp <;> omega)).trans n5, blk_setCell_ne hS.2 (by simp <;> omega)⟩ (fun hS => ?_)
              clear hK
              (try simp only [sL, Act.put])
              refine wpAnyH_done (by kernel_rfl) ?_ _
              rotate_left
              simp only [sL]
              go_simp
              refine hK.out _ _ (cellAt (blk_alloc_lt (N4)) rfl) (fun hS => ?_)
              clear hK
              (try simp only [sL, Act.put])
              refine wpAnyH_ready (rs := [0, 12]) (by kernel_rfl) (by simp) ?_
              refine AllReadyH.cons rfl (fun K' hK => ?_) (AllReadyH.cons rfl (fun K' hK => ?_) (AllReadyH.nil))
              simp only [sL]
              go_simp
              refine hK.out _ _ (cellAt (blk_alloc_lt (blk_alloc_lt (N4))) rfl) (fun hS => ?_)
              clear hK
              (try simp only [sL, Act.put])
              refine wpAnyH_more (T := fun w' => w'.heap[w4.heap.size + 1]? = some (.cells #[.int .i64 0, .int .i64 26, .int .i64 25, .int .i64 24, .int .i64 24, .int .i64 24] 3 (0, 0))) hS (alloc2_snd _ _ _) (fun hS => ?_)
              refine wpAnyH_take (i := 2) (v := ?_) rfl (by kernel_rfl) (by kernel_rfl) (by kernel_rfl) (fun _ _ _ h => h) (Or.inl ⟨by rfl, ?_⟩) hS ?_
              rotate_left
              · intro w' hSw; (try dsimp only at hSw); go_simp; try with_reducible rfl
              (try simp only [sL, Act.put])
              refine wpAnyH_take (i := 3) (v := .int .i64 (levelOp n)) rfl (by kernel_rfl) (by kernel_rfl) (by kernel_rfl) (fun _ _ _ h => h) (Or.inl ⟨by rfl, ?_⟩) hS ?_
              · intro w' hSw; (try dsimp only at hSw); have hT := HTBc.out _ _ hSw.2; go_simp; try with_reducible rfl
              (try simp only [sL, Act.put])
              refine wpAnyH_ready (rs := [11, 12]) (by kernel_rfl) (by simp) ?_
              refine AllReadyH.cons rfl (fun K' hK => ?_) (AllReadyH.cons rfl (fun K' hK => ?_) (AllReadyH.nil))
              simp only [sL]
              go_simp
              refine (plain_any (levelOp n) at_ _ _ _ _).mono ?_
              rintro e w5 ⟨bn, rfl, hnb, hnd, hng⟩
              have N5 : w5.heap[w1.heap.size]? = some (.cells #[ptrV b'] 53 (0, 0)) := hng.blk (blk_alloc_lt (blk_alloc_lt (N4)))
              have n5 := cellAt N5 (i := 0) rfl
              have hT5 := hng.blk hS.2
              refine hK.out _ _ ⟨n5, hT5⟩ (fun hS => ?_)
              clear hK
              (try simp only [sL, Act.put])
              refine wpAnyH_ready (rs := [12]) (by kernel_rfl) (by simp) ?_
              refine AllReadyH.cons rfl (fun K' hK => ?_) (AllReadyH.nil)
              simp only [sL]
              go_simp
              refine hK.out _ _ ⟨cellAt (blk_alloc_lt (N5)) rfl, blk_alloc_lt hS.2⟩ (fun hS => ?_)
              clear hK
              (try simp only [sL, Act.put])
              refine wpAnyH_ready (rs := [13]) (by kernel_rfl) (by simp) ?_
              refine AllReadyH.cons rfl (fun K' hK => ?_) (AllReadyH.nil)
              simp only [sL]
              go_simp
              refine hK.out _ _ ⟨(by first | exact cellAt (blk_alloc_lt N5) rfl | exact (World.cell?_setCell_far _ _ _ _ (by simp <;> omega)).trans (cellAt (blk_alloc_lt N5) rfl)), (by first | exact blk_alloc_lt hT5 | exact blk_setCell_ne hS.2 (by simp <;> omega))⟩ (fun hS => ?_)
              clear hK
              (try simp only [sL, Act.put])
              refine wpAnyH_done (by kernel_rfl) ?_ _
              rotate_left
              simp only [sL]
              go_simp
              refine hK.out _ _ ⟨cellAt (blk_alloc_lt (blk_alloc_lt (blk_alloc_lt (N4)))) rfl, blk_alloc_lt hS.2⟩ (fun hS => ?_)
              clear hK
              (try simp only [sL, Act.put])
              refine wpAnyH_ready (rs := [11]) (by kernel_rfl) (by simp) ?_
              refine AllReadyH.cons rfl (fun K' hK => ?_) (AllReadyH.nil)
              simp only [sL]
              go_simp
              refine (plain_any (levelOp n) at_ _ _ _ _).mono ?_
              rintro e w5 ⟨bn, rfl, hnb, hnd, hng⟩
              have N5 : w5.heap[w1.heap.size]? = some (.cells #[ptrV b'] 53 (0, 0)) := hng.blk (blk_alloc_lt (blk_alloc_lt (blk_alloc_lt (N4))))
              have n5 := cellAt N5 (i := 0) rfl
              have C5 : w5.heap[w4.heap.size + 2]? = some (.cells #[.pointer none] 53 (0, 0)) := hng.blk (alloc3_trd _ _ _ _)
              have c5 := cellAt C5 (i := 0) rfl
              have f5 := frozenAt C5
              have hT5 := hng.blk hS.2
              refine hK.out _ _ ⟨n5, hT5⟩ (fun hS => ?_)
              clear hK
              (try simp only [sL, Act.put])
              refine wpAnyH_ready (rs := [13]) (by kernel_rfl) (by simp) ?_
              refine AllReadyH.cons rfl (fun K' hK => ?_) (AllReadyH.nil)
              simp only [sL]
              go_simp
              refine hK.out _ _ ⟨(World.cell?_setCell_far _ _ _ _ (by simp <;> omega)).trans n5, blk_setCell_ne hS.2 (by simp <;> omega)⟩ (fun hS => ?_)
              clear hK
              (try simp only [sL, Act.put])
              refine wpAnyH_done (by kernel_rfl) ?_ _
              rotate_left
              simp only [sL]
              go_simp
              refine hK.out _ _ (cellAt (blk_alloc_lt (blk_alloc_lt (N4))) rfl) (fun hS => ?_)
              clear hK
              (try simp only [sL, Act.put])
              refine wpAnyH_ready (rs := [0]) (by kernel_rfl) (by simp) ?_
              refine AllReadyH.cons rfl (fun K' hK => ?_) (AllReadyH.nil)
              simp only [sL]
              go_simp
              refine hK.out _ _ (cellAt (blk_alloc_lt (blk_alloc_lt (blk_alloc_lt (N4)))) rfl) (fun hS => ?_)
              clear hK
              (try simp only [sL, Act.put])
              refine wpAnyH_more (T := fun w' => w'.heap[w4.heap.size + 2]? = some (.cells #[.int .i64 0, .int .i64 26, .int .i64 25, .int .i64 24, .int .i64 24, .int .i64 24] 3 (0, 0))) hS (alloc3_trd _ _ _ _) (fun hS => ?_)
              refine wpAnyH_take (i := 2) (v := ?_) rfl (by kernel_rfl) (by kernel_rfl) (by kernel_rfl) (fun _ _ _ h => h) (Or.inl ⟨by rfl, ?_⟩) hS ?_
              rotate_left
              · intro w' hSw; (try dsimp only at hSw); go_simp; try with_reducible rfl
              (try simp only [sL, Act.put])
              refine wpAnyH_take (i := 3) (v := .int .i64 (levelOp n)) rfl (by kernel_rfl) (by kernel_rfl) (by kernel_rfl) (fun _ _ _ h => h) (Or.inl ⟨by rfl, ?_⟩) hS ?_
              · intro w' hSw; (try dsimp only at hSw); have hT := HTBc.out _ _ hSw.2; go_simp; try with_reducible rfl
              (try simp only [sL, Act.put])
              refine wpAnyH_ready (rs := [11]) (by kernel_rfl) (by simp) ?_
              refine AllReadyH.cons rfl (fun K' hK => ?_) (AllReadyH.nil)
              simp only [sL]
              go_simp
              refine (plain_any (levelOp n) at_ _ _ _ _).mono ?_
              rintro e w5 ⟨bn, rfl, hnb, hnd, hng⟩
              have N5 : w5.heap[w1.heap.size]? = some (.cells #[ptrV b'] 53 (0, 0)) := hng.blk (blk_alloc_lt (blk_alloc_lt (blk_alloc_lt (N4))))
              have n5 := cellAt N5 (i := 0) rfl
              have C5 : w5.heap[w4.heap.size + 1]? = some (.cells #[.pointer none] 53 (0, 0)) := hng.blk (blk_alloc_lt (alloc2_snd _ _ _))
              have c5 := cellAt C5 (i := 0) rfl
              have f5 := frozenAt C5
              have hT5 := hng.blk hS.2
              refine hK.out _ _ ⟨n5, hT5⟩ (fun hS => ?_)
              clear hK
              (try simp only [sL, Act.put])
              refine wpAnyH_ready (rs := [13]) (by kernel_rfl) (by simp) ?_
              refine AllReadyH.cons rfl (fun K' hK => ?_) (AllReadyH.nil)
              simp only [sL]
              go_simp
              refine hK.out _ _ ⟨(World.cell?_setCell_far _ _ _ _ (by simp <;> omega)).trans n5, blk_setCell_ne hS.2 (by simp <;> omega)⟩ (fun hS => ?_)
              clear hK
              (try simp only [sL, Act.put])
              refine wpAnyH_done (by kernel_rfl) ?_ _
              rotate_left
              simp only [sL]
              go_simp
              refine hK.out _ _ (cellAt (blk_alloc_lt (N4)) rfl) (fun hS => ?_)
              clear hK
              (try simp only [sL, Act.put])
              refine wpAnyH_ready (rs := [0, 10]) (by kernel_rfl) (by simp) ?_
              refine AllReadyH.cons rfl (fun K' hK => ?_) (AllReadyH.cons rfl (fun K' hK => ?_) (AllReadyH.nil))
              simp only [sL]
              go_simp
              refine hK.out _ _ (cellAt (blk_alloc_lt (blk_alloc_lt (N4))) rfl) (fun hS => ?_)
              clear hK
              (try simp only [sL, Act.put])
              refine wpAnyH_more (T := fun w' => w'.heap[w4.heap.size + 1]? = some (.cells #[.int .i64 0, .int .i64 26, .int .i64 25, .int .i64 24, .int .i64 24, .int .i64 24] 3 (0, 0))) hS (alloc2_snd _ _ _) (fun hS => ?_)
              refine wpAnyH_take (i := 2) (v := ?_) rfl (by kernel_rfl) (by kernel_rfl) (by kernel_rfl) (fun _ _ _ h => h) (Or.inl ⟨by rfl, ?_⟩) hS ?_
              rotate_left
              · intro w' hSw; (try dsimp only at hSw); go_simp; try with_reducible rfl
              (try simp only [sL, Act.put])
              refine wpAnyH_take (i := 3) (v := .int .i64 (levelOp n)) rfl (by kernel_rfl) (by kernel_rfl) (by kernel_rfl) (fun _ _ _ h => h) (Or.inl ⟨by rfl, ?_⟩) hS ?_
              · intro w' hSw; (try dsimp only at hSw); have hT := HTBc.out _ _ hSw.2; go_simp; try with_reducible rfl
              (try simp only [sL, Act.put])
              refine wpAnyH_ready (rs := [10]) (by kernel_rfl) (by simp) ?_
              refine AllReadyH.cons rfl (fun K' hK => ?_) (AllReadyH.nil)
              simp only [sL]
              go_simp
              refine hK.out _ _ ⟨cellAt (blk_alloc_lt (blk_alloc_lt (blk_alloc_lt (N4)))) rfl, blk_alloc_lt hS.2⟩ (fun hS => ?_)
              clear hK
              (try simp only [sL, Act.put])
              refine wpAnyH_ready (rs := [11]) (by kernel_rfl) (by simp) ?_
              refine AllReadyH.cons rfl (fun K' hK => ?_) (AllReadyH.nil)
              simp only [sL]
              go_simp
              refine (plain_any (levelOp n) at_ _ _ _ _).mono ?_
              rintro e w5 ⟨bn, rfl, hnb, hnd, hng⟩
              have N5 : w5.heap[w1.heap.size]? = some (.cells #[ptrV b'] 53 (0, 0)) := hng.blk (blk_alloc_lt (blk_alloc_lt (blk_alloc_lt (N4))))
              have n5 := cellAt N5 (i := 0) rfl
              have C5 : w5.heap[w4.heap.size]? = some (.cells #[.pointer none] 53 (0, 0)) := hng.blk (blk_alloc_lt (blk_alloc_lt (blk_alloc _ _)))
              have c5 := cellAt C5 (i := 0) rfl
              have f5 := frozenAt C5
              have hT5 := hng.blk hS.2
              refine hK.out _ _ ⟨n5, hT5⟩ (fun hS => ?_)
              clear hK
              (try simp only [sL, Act.put])
              refine wpAnyH_ready (rs := [13]) (by kernel_rfl) (by simp) ?_
              refine AllReadyH.cons rfl (fun K' hK => ?_) (AllReadyH.nil)
              simp only [sL]
              go_simp
              refine hK.out _ _ ⟨(World.cell?_setCell_far _ _ _ _ (by simp <;> omega)).trans n5, blk_setCell_ne hS.2 (by simp <;> omega)⟩ (fun hS => ?_)
              clear hK
              (try simp only [sL, Act.put])
              refine wpAnyH_done (by kernel_rfl) ?_ _
              rotate_left
              simp only [sL]
              go_simp
              refine hK.out _ _ (cellAt (blk_alloc_lt (blk_alloc_lt (N4))) rfl) (fun hS => ?_)
              clear hK
              (try simp only [sL, Act.put])
              refine wpAnyH_ready (rs := [0]) (by kernel_rfl) (by simp) ?_
              refine AllReadyH.cons rfl (fun K' hK => ?_) (AllReadyH.nil)
              simp only [sL]
              go_simp
              refine hK.out _ _ (cellAt (blk_alloc_lt (blk_alloc_lt (blk_alloc_lt (N4)))) rfl) (fun hS => ?_)
              clear hK
              (try simp only [sL, Act.put])
              refine wpAnyH_more (T := fun w' => w'.heap[w4.heap.size + 2]? = some (.cells #[.int .i64 0, .int .i64 26, .int .i64 25, .int .i64 24, .int .i64 24, .int .i64 24] 3 (0, 0))) hS (alloc3_trd _ _ _ _) (fun hS => ?_)
              refine wpAnyH_take (i := 2) (v := ?_) rfl (by kernel_rfl) (by kernel_rfl) (by kernel_rfl) (fun _ _ _ h => h) (Or.inl ⟨by rfl, ?_⟩) hS ?_
              rotate_left
              · intro w' hSw; (try dsimp only at hSw); go_simp; try with_reducible rfl
              (try simp only [sL, Act.put])
              refine wpAnyH_take (i := 3) (v := .int .i64 (levelOp n)) rfl (by kernel_rfl) (by kernel_rfl) (by kernel_rfl) (fun _ _ _ h => h) (Or.inl ⟨by rfl, ?_⟩) hS ?_
              · intro w' hSw; (try dsimp only at hSw); have hT := HTBc.out _ _ hSw.2; go_simp; try with_reducible rfl
              (try simp only [sL, Act.put])
              refine wpAnyH_ready (rs := [11]) (by kernel_rfl) (by simp) ?_
              refine AllReadyH.cons rfl (fun K' hK => ?_) (AllReadyH.nil)
              simp only [sL]
              go_simp
              refine (plain_any (levelOp n) at_ _ _ _ _).mono ?_
              rintro e w5 ⟨bn, rfl, hnb, hnd, hng⟩
              have N5 : w5.heap[w1.heap.size]? = some (.cells #[ptrV b'] 53 (0, 0)) := hng.blk (blk_alloc_lt (blk_alloc_lt (blk_alloc_lt (N4))))
              have n5 := cellAt N5 (i := 0) rfl
              have C5 : w5.heap[w4.heap.size]? = some (.cells #[.pointer none] 53 (0, 0)) := hng.blk (blk_alloc_lt (blk_alloc_lt (blk_alloc _ _)))
              have c5 := cellAt C5 (i := 0) rfl
              have f5 := frozenAt C5
              have hT5 := hng.blk hS.2
              refine hK.out _ _ ⟨n5, hT5⟩ (fun hS => ?_)
              clear hK
              (try simp only [sL, Act.put])
              refine wpAnyH_ready (rs := [13]) (by kernel_rfl) (by simp) ?_
              refine AllReadyH.cons rfl (fun K' hK => ?_) (AllReadyH.nil)
              simp only [sL]
              go_simp
              refine hK.out _ _ ⟨(World.cell?_setCell_far _ _ _ _ (by simp <;> omega)).trans n5, blk_setCell_ne hS.2 (by simp <;> omega)⟩ (fun hS => ?_)
              clear hK
              (try simp only [sL, Act.put])
              refine wpAnyH_done (by kernel_rfl) ?_ _
              rotate_left
              simp only [sL]
              go_simp
              refine hK.out _ _ (cellAt (blk_alloc_lt (HN3.out)) rfl) (fun hS => ?_)
              clear hK
              (try simp only [sL, Act.put])
              refine wpAnyH_ready (rs := [0, 9]) (by kernel_rfl) (by simp) ?_
              refine AllReadyH.cons rfl (fun K' hK => ?_) (AllReadyH.cons rfl (fun K' hK => ?_) (AllReadyH.nil))
              simp only [sL]
              go_simp
              refine hK.out _ _ (cellAt (blk_alloc_lt (blk_alloc_lt (HN3.out))) rfl) (fun hS => ?_)
              clear hK
              (try simp only [sL, Act.put])
              refine wpAnyH_more (T := fun w' => w'.heap[w3.heap.size + 1]? = some (.cells #[.int .i64 0, .int .i64 26, .int .i64 25, .int .i64 24, .int .i64 24, .int .i64 24] 3 (0, 0))) hS (alloc2_snd _ _ _) (fun hS => ?_)
              refine wpAnyH_take (i := 2) (v := ?_) rfl (by kernel_rfl) (by kernel_rfl) (by kernel_rfl) (fun _ _ _ h => h) (Or.inl ⟨by rfl, ?_⟩) hS ?_
              rotate_left
              · intro w' hSw; (try dsimp only at hSw); go_simp; try with_reducible rfl
              (try simp only [sL, Act.put])
              refine wpAnyH_take (i := 3) (v := .int .i64 (levelOp n)) rfl (by kernel_rfl) (by kernel_rfl) (by kernel_rfl) (fun _ _ _ h => h) (Or.inl ⟨by rfl, ?_⟩) hS ?_
              · intro w' hSw; (try dsimp only at hSw); have hT := HTBc.out _ _ hSw.2; go_simp; try with_reducible rfl
              (try simp only [sL, Act.put])
              refine wpAnyH_ready (rs := [9]) (by kernel_rfl) (by simp) ?_
              refine AllReadyH.cons rfl (fun K' hK => ?_) (AllReadyH.nil)
              simp only [sL]
              go_simp
              refine (HE.out _ (by repeat' (first | (with_reducible exact hc3) | (with_reducible refine Ctx.alloc ?_ _) | (with_reducible refine Ctx.drew ?_) | (with_reducible refine Ctx.drewN ?_ _) | (with_reducible refine Ctx.setNew ?_ (by first | omega | (simp; done) | (simp; omega)) (by first | omega | (simp; done) | (simp; omega)) _)))).mono ?_
              rintro e w4 ⟨hm4, v, rfl, ⟨bu, rfl, ht⟩, hc4⟩
              have N4 : w4.heap[w1.heap.size]? = some (.cells #[ptrV b'] 53 (0, 0)) := hm4.blk (blk_alloc_lt (blk_alloc_lt (HN3.out))) (by omega)
              have hl4 := blkLt N4
              have hs4 := hm4.size
              have C4 : w4.heap[w3.heap.size]? = some (.cells #[.pointer none] 53 (0, 0)) := hm4.blk (blk_alloc_lt (blk_alloc _ _)) (by omega)
              have hlC4 := blkLt C4
              have hT4 := hm4.blk hS.2 (by omega)
              have hlT4 := blkLt hT4
              refine hK.out _ _ ⟨cellAt N4 rfl, hT4⟩ (fun hS => ?_)
              clear hK
              (try simp only [sL, Act.put])
              refine wpAnyH_ready (rs := [10]) (by kernel_rfl) (by simp) ?_
              refine AllReadyH.cons rfl (fun K' hK => ?_) (AllReadyH.nil)
              simp only [sL]
              go_simp
              refine hK.out _ _ ⟨cellAt (blk_alloc_lt (N4)) rfl, blk_alloc_lt hS.2⟩ (fun hS => ?_)
              clear hK
              (try simp only [sL, Act.put])
              refine wpAnyH_ready (rs := [11]) (by kernel_rfl) (by simp) ?_
              refine AllReadyH.cons rfl (fun K' hK => ?_) (AllReadyH.nil)
              simp only [sL]
              go_simp
              refine (plain_any (levelOp n) at_ _ _ _ _).mono ?_
              rintro e w5 ⟨bn, rfl, hnb, hnd, hng⟩
              have N5 : w5.heap[w1.heap.size]? = some (.cells #[ptrV b'] 53 (0, 0)) := hng.blk (blk_alloc_lt (N4))
              have n5 := cellAt N5 (i := 0) rfl
              have C5 : w5.heap[w3.heap.size]? = some (.cells #[.pointer none] 53 (0, 0)) := hng.blk (blk_alloc_lt (C4))
              have c5 := cellAt C5 (i := 0) rfl
              have f5 := frozenAt C5
              have hT5 := hng.blk hS.2
              refine hK.out _ _ ⟨n5, hT5⟩ (fun hS => ?_)
              clear hK
              (try simp only [sL, Act.put])
              refine wpAnyH_ready (rs := [13]) (by kernel_rfl) (by simp) ?_
              refine AllReadyH.cons rfl (fun K' hK => ?_) (AllReadyH.nil)
              simp only [sL]
              go_simp
              refine hK.out _ _ ⟨(World.cell?_setCell_far _ _ _ _ (by simp <;> omega)).trans n5, blk_setCell_ne hS.2 (by simp <;> omega)⟩ (fun hS => ?_)
              clear hK
              (try simp only [sL, Act.put])
              refine wpAnyH_done (by kernel_rfl) ?_ _
              rotate_left
              simp only [sL]
              go_simp
              refine (HE.out _ (by repeat' (first | (with_reducible exact hc3) | (with_reducible refine Ctx.alloc ?_ _) | (with_reducible refine Ctx.drew ?_) | (with_reducible refine Ctx.drewN ?_ _) | (with_reducible refine Ctx.setNew ?_ (by first | omega | (simp; done) | (simp; omega)) (by first | omega | (simp; done) | (simp; omega)) _)))).mono ?_
              rintro e w4 ⟨hm4, v, rfl, ⟨bu, rfl, ht⟩, hc4⟩
              have N4 : w4.heap[w1.heap.size]? = some (.cells #[ptrV b'] 53 (0, 0)) := hm4.blk (blk_alloc_lt (HN3.out)) (by omega)
              have hl4 := blkLt N4
              have hs4 := hm4.size
              have C4 : w4.heap[w3.heap.size]? = some (.cells #[.pointer none] 53 (0, 0)) := hm4.blk (blk_alloc _ _) (by omega)
              have hlC4 := blkLt C4
              refine hK.out _ _ (cellAt N4 rfl) (fun hS => ?_)
              clear hK
              (try simp only [sL, Act.put])
              refine wpAnyH_ready (rs := [0, 10]) (by kernel_rfl) (by simp) ?_
              refine AllReadyH.cons rfl (fun K' hK => ?_) (AllReadyH.cons rfl (fun K' hK => ?_) (AllReadyH.nil))
              simp only [sL]
              go_simp
              refine hK.out _ _ (cellAt (blk_alloc_lt (N4)) rfl) (fun hS => ?_)
              clear hK
              (try simp only [sL, Act.put])
              refine wpAnyH_more (T := fun w' => w'.heap[w4.heap.size]? = some (.cells #[.int .i64 0, .int .i64 26, .int .i64 25, .int .i64 24, .int .i64 24, .int .i64 24] 3 (0, 0))) hS (blk_alloc _ _) (fun hS => ?_)
              refine wpAnyH_take (i := 2) (v := ?_) rfl (by kernel_rfl) (by kernel_rfl) (by kernel_rfl) (fun _ _ _ h => h) (Or.inl ⟨by rfl, ?_⟩) hS ?_
              rotate_left
              · intro w' hSw; (try dsimp only at hSw); go_simp; try with_reducible rfl
              (try simp only [sL, Act.put])
              refine wpAnyH_take (i := 3) (v := .int .i64 (levelOp n)) rfl (by kernel_rfl) (by kernel_rfl) (by kernel_rfl) (fun _ _ _ h => h) (Or.inl ⟨by rfl, ?_⟩) hS ?_
              · intro w' hSw; (try dsimp only at hSw); have hT := HTBc.out _ _ hSw.2; go_simp; try with_reducible rfl
              (try simp only [sL, Act.put])
              refine wpAnyH_ready (rs := [10]) (by kernel_rfl) (by simp) ?_
              refine AllReadyH.cons rfl (fun K' hK => ?_) (AllReadyH.nil)
              simp only [sL]
              go_simp
              refine hK.out _ _ ⟨cellAt (blk_alloc_lt (blk_alloc_lt (N4))) rfl, blk_alloc_lt hS.2⟩ (fun hS => ?_)
              clear hK
              (try simp only [sL, Act.put])
              refine wpAnyH_ready (rs := [11]) (by kernel_rfl) (by simp) ?_
              refine AllReadyH.cons rfl (fun K' hK => ?_) (AllReadyH.nil)
              simp only [sL]
              go_simp
              refine (plain_any (levelOp n) at_ _ _ _ _).mono ?_
              rintro e w5 ⟨bn, rfl, hnb, hnd, hng⟩
              have N5 : w5.heap[w1.heap.size]? = some (.cells #[ptrV b'] 53 (0, 0)) := hng.blk (blk_alloc_lt (blk_alloc_lt (N4)))
              have n5 := cellAt N5 (i := 0) rfl
              have C5 : w5.heap[w3.heap.size]? = some (.cells #[.pointer none] 53 (0, 0)) := hng.blk (blk_alloc_lt (blk_alloc_lt (C4)))
              have c5 := cellAt C5 (i := 0) rfl
              have f5 := frozenAt C5
              have hT5 := hng.blk hS.2
              refine hK.out _ _ ⟨n5, hT5⟩ (fun hS => ?_)
              clear hK
              (try simp only [sL, Act.put])
              refine wpAnyH_ready (rs := [13]) (by kernel_rfl) (by simp) ?_
              refine AllReadyH.cons rfl (fun K' hK => ?_) (AllReadyH.nil)
              simp only [sL]
              go_simp
              refine hK.out _ _ ⟨(World.cell?_setCell_far _ _ _ _ (by simp <;> omega)).trans n5, blk_setCell_ne hS.2 (by simp <;> omega)⟩ (fun hS => ?_)
              clear hK
              (try simp only [sL, Act.put])
              refine wpAnyH_done (by kernel_rfl) ?_ _
              rotate_left
              simp only [sL]
              go_simp
              refine hK.out _ _ (cellAt (blk_alloc_lt (N4)) rfl) (fun hS => ?_)
              clear hK
              (try simp only [sL, Act.put])
              refine wpAnyH_ready (rs := [0]) (by kernel_rfl) (by simp) ?_
              refine AllReadyH.cons rfl (fun K' hK => ?_) (AllReadyH.nil)
              simp only [sL]
              go_simp
              refine hK.out _ _ (cellAt (blk_alloc_lt (blk_alloc_lt (N4))) rfl) (fun hS => ?_)
              clear hK
              (try simp only [sL, Act.put])
              refine wpAnyH_more (T := fun w' => w'.heap[w4.heap.size + 1]? = some (.cells #[.int .i64 0, .int .i64 26, .int .i64 25, .int .i64 24, .int .i64 24, .int .i64 24] 3 (0, 0))) hS (alloc2_snd _ _ _) (fun hS => ?_)
              refine wpAnyH_take (i := 2) (v := ?_) rfl (by kernel_rfl) (by kernel_rfl) (by kernel_rfl) (fun _ _ _ h => h) (Or.inl ⟨by rfl, ?_⟩) hS ?_
              rotate_left
              · intro w' hSw; (try dsimp only at hSw); go_simp; try with_reducible rfl
              (try simp only [sL, Act.put])
              refine wpAnyH_take (i := 3) (v := .int .i64 (levelOp n)) rfl (by kernel_rfl) (by kernel_rfl) (by kernel_rfl) (fun _ _ _ h => h) (Or.inl ⟨by rfl, ?_⟩) hS ?_
              · intro w' hSw; (try dsimp only at hSw); have hT := HTBc.out _ _ hSw.2; go_simp; try with_reducible rfl
              (try simp only [sL, Act.put])
              refine wpAnyH_ready (rs := [11]) (by kernel_rfl) (by simp) ?_
              refine AllReadyH.cons rfl (fun K' hK => ?_) (AllReadyH.nil)
              simp only [sL]
              go_simp
              refine (plain_any (levelOp n) at_ _ _ _ _).mono ?_
              rintro e w5 ⟨bn, rfl, hnb, hnd, hng⟩
              have N5 : w5.heap[w1.heap.size]? = some (.cells #[ptrV b'] 53 (0, 0)) := hng.blk (blk_alloc_lt (blk_alloc_lt (N4)))
              have n5 := cellAt N5 (i := 0) rfl
              have C5 : w5.heap[w3.heap.size]? = some (.cells #[.pointer none] 53 (0, 0)) := hng.blk (blk_alloc_lt (blk_alloc_lt (C4)))
              have c5 := cellAt C5 (i := 0) rfl
              have f5 := frozenAt C5
              have hT5 := hng.blk hS.2
              refine hK.out _ _ ⟨n5, hT5⟩ (fun hS => ?_)
              clear hK
              (try simp only [sL, Act.put])
              refine wpAnyH_ready (rs := [13]) (by kernel_rfl) (by simp) ?_
              refine AllReadyH.cons rfl (fun K' hK => ?_) (AllReadyH.nil)
              simp only [sL]
              go_simp
              refine hK.out _ _ ⟨(World.cell?_setCell_far _ _ _ _ (by simp <;> omega)).trans n5, blk_setCell_ne hS.2 (by simp <;> omega)⟩ (fun hS => ?_)
              clear hK
              (try simp only [sL, Act.put])
              refine wpAnyH_done (by kernel_rfl) ?_ _
              rotate_left
              all_goals (try go_wp2_with fail)
              all_goals go_meet
              all_goals (try simp only [World.size_alloc] at hnb)
              all_goals have hbl5 := blkLt hnd
              all_goals have hg45 : Gr w4 w5 := Gr.trans (by repeat' (first | (with_reducible exact Gr.refl _) | (with_reducible refine Gr.alloc ?_ _))) hng
              all_goals have HT4 : TreeAt w4 (fun k => w.heap.size < k ∧ k ≠ w1.heap.size ∧ k < w3.heap.size) b' t' := Md.tree (by repeat' (first | (with_reducible exact HT3'.out) | (with_reducible refine TreeAt.al ?_) | (with_reducible refine TreeAt.dr ?_) | (with_reducible refine TreeAt.drN ?_) | (with_reducible refine TreeAt.set ?_ (by intro k hk; (try simp at hk); (try simp); omega)))) (fun k hk => by omega) hm4
              all_goals (try simp only [World.size_alloc, World.size_drew] at hs4)
              all_goals refine ⟨w4, _, bu, rfl, ?_, Md.trans (by repeat' (first | (with_reducible exact hM3) | (with_reducible refine Md.alloc ?_ _) | (with_reducible refine Md.drew ?_) | (with_reducible refine Md.drewN ?_ _) | (with_reducible refine Md.setCell ?_ (.inl (by first | omega | (simp; done) | (simp; omega))) _))) hm4, hc4, ht.imp (fun k hlt hk => by simp at hk; omega), HT4, hm4.blk (by repeat' (first | (with_reducible exact HR3.out) | (with_reducible exact blk_alloc _ _) | (with_reducible refine blk_alloc_lt ?_) | (with_reducible refine blk_drew ?_) | (with_reducible refine blk_drewN ?_) | (with_reducible refine blk_setCell_ne ?_ (by first | omega | (simp; done) | (simp; omega))) | (with_reducible refine blk_setCell_to (cs := ?_) ?_ ?_) | rfl | exact HR3.out)) (by omega), N4⟩
              all_goals first
                | exact made_new (by omega) (by omega) hg45 hnd (by first | exact row_of (cs := [ptrV b', ptrV bu]) (hng.blk (blk_alloc _ _)) ⟨by omega, by omega⟩ | exact row_of (cs := [ptrV b', ptrV bu]) (hng.blk (alloc2_fst _ _ _)) ⟨by omega, by omega⟩ | exact row_of (cs := [ptrV b', ptrV bu]) (hng.blk (alloc2_snd _ _ _)) ⟨by omega, by omega⟩ | exact row_of (cs := [ptrV b', ptrV bu]) (hng.blk (al3_1 _ _ _ _)) ⟨by omega, by omega⟩ | exact row_of (cs := [ptrV b', ptrV bu]) (hng.blk (al3_2 _ _ _ _)) ⟨by omega, by omega⟩ | exact row_of (cs := [ptrV b', ptrV bu]) (hng.blk (alloc3_trd _ _ _ _)) ⟨by omega, by omega⟩)
                | exact made_set (by omega) (by omega) (by omega) hg45 C5 hnd (by first | exact row_of (cs := [ptrV b', ptrV bu]) (hng.blk (blk_alloc _ _)) ⟨by omega, by omega, by omega⟩ | exact row_of (cs := [ptrV b', ptrV bu]) (hng.blk (alloc2_fst _ _ _)) ⟨by omega, by omega, by omega⟩ | exact row_of (cs := [ptrV b', ptrV bu]) (hng.blk (alloc2_snd _ _ _)) ⟨by omega, by omega, by omega⟩ | exact row_of (cs := [ptrV b', ptrV bu]) (hng.blk (al3_1 _ _ _ _)) ⟨by omega, by omega, by omega⟩ | exact row_of (cs := [ptrV b', ptrV bu]) (hng.blk (al3_2 _ _ _ _)) ⟨by omega, by omega, by omega⟩ | exact row_of (cs := [ptrV b', ptrV bu]) (hng.blk (alloc3_trd _ _ _ _)) ⟨by omega, by omega, by omega⟩)
            case rest =>
              obtain ⟨ws, c, bu, rfl, ⟨bn, A, cc, hlo, hbn, hbc, hmc, hcc, hcd, hcr⟩, hm2, hc2, ht, ht', hR, hN⟩ := hcut
              have hbu := ht.lt
              have hlN := blkLt hN
              have hlR := blkLt hR
              have hlc := blkLt hcc
              have hlbn := blkLt hcd
              have NC : wc.heap[w1.heap.size]? = some (.cells #[ptrV b'] 53 (0, 0)) := hmc.blk hN (by omega)
              have RC : wc.heap[w.heap.size]? = some (.cells #[.pointer none] 53 (0, 0)) := hmc.blk hR (by omega)
              have HTx : Hid (TreeAt wc (fun k => w.heap.size < k ∧ k ≠ w1.heap.size ∧ k ≠ c ∧ k ≠ bn) bu x) := Md.tree (ht.imp (fun k hlt hk => ⟨by omega, by omega, hk.2, by omega⟩)) (fun k hk => hk.2.2.1) hmc
              have HTl : Hid (TreeAt wc (fun k => w.heap.size < k ∧ k ≠ w1.heap.size ∧ k ≠ c ∧ k ≠ bn) b' t') := Md.tree (ht'.imp (fun k hlt hk => ⟨by omega, by omega, by omega, by omega⟩)) (fun k hk => hk.2.2.1) hmc
              have HRow : Hid (RowR wc (fun k => w.heap.size < k ∧ k ≠ w1.heap.size ∧ k ≠ c ∧ k ≠ bn) A ([b', bu].map ptrV)) := hcr.imp (fun k _ hk => ⟨by omega, by omega, hk.2.1, hk.2.2⟩)
              have hMC : Md K.rb w wc := Md.grown hm2 hmc (fun k e => by injection e with e; omega)
              have hCC : Ctx K p2 d wc := hc2.md_new (by omega) (by omega) hmc
              have s0 := cellAt hcc (i := 0) rfl
              have n0 := cellAt hcd (i := 3) rfl
              have nf := frozenAt hcd
              have m0 := cellAt NC (i := 0) rfl
              have mf := frozenAt NC
              have HCD := Lib.hid hcd
              have HNC := Lib.hid NC
              have HRC := Lib.hid RC
              clear ht ht' hcr hR hm2 hmc hcd NC RC hN
              go_wp2_with fail
              go_roundg g
              case measure => omega
              case rel =>
                refine ⟨g, p2, .mk ⟨levelOp n, [], [], op, at_⟩ [t', x], bn, rfl, by omega, (hCC.setNew (by simp; omega) (by simp; omega) _).setNew (by simp; omega) (by simp; omega) _, (hMC.setCell (.inl (by simp; omega)) _).setCell (.inl (by simp; omega)) _, blk_setCell_to (blk_setCell_ne HNC.out (by simp; omega)) rfl, ?_, blk_setCell_ne (blk_setCell_ne HRC.out (by simp; omega)) (by simp; omega), HL.out⟩
                refine TreeAt.mk (bs := [b', bu]) ⟨by omega, by omega⟩ (blk_setCell_ne (blk_setCell_to (i := 3) (v := .int .i64 op) HCD.out rfl) (by simp; omega)) ((HRow.out.frame (fun k hk _ => by rw [Below.heap_setCell _ _ _ _ (by simp; omega), Below.heap_setCell _ _ _ _ (by simp; omega)])).imp (fun k _ hk => ⟨hk.1, hk.2.1⟩)) rfl ?_
                intro i b2 t2 hb' ht'
                match i, hb', ht' with
                | 0, hb', ht' =>
                  injection hb' with hb'
                  injection ht' with ht'
                  subst hb' ht'
                  exact TreeAt.imp (X := fun k => w.heap.size < k ∧ k ≠ w1.heap.size ∧ k ≠ c ∧ k ≠ bn) (fun k _ hk => ⟨hk.1, hk.2.1⟩) (by repeat' (first | (with_reducible exact HTl.out) | (with_reducible refine TreeAt.al ?_) | (with_reducible refine TreeAt.dr ?_) | (with_reducible refine TreeAt.drN ?_) | (with_reducible refine TreeAt.set ?_ (by intro k hk; (try simp at hk); (try simp); omega))))
                | 1, hb', ht' =>
                  injection hb' with hb'
                  injection ht' with ht'
                  subst hb' ht'
                  exact TreeAt.imp (X := fun k => w.heap.size < k ∧ k ≠ w1.heap.size ∧ k ≠ c ∧ k ≠ bn) (fun k _ hk => ⟨hk.1, hk.2.1⟩) (by repeat' (first | (with_reducible exact HTx.out) | (with_reducible refine TreeAt.al ?_) | (with_reducible refine TreeAt.dr ?_) | (with_reducible refine TreeAt.drN ?_) | (with_reducible refine TreeAt.set ?_ (by intro k hk; (try simp at hk); (try simp); omega))))
end Go.Proofs.YthniejnbkkkbnaaGreatDoor
