/- Walks of layer parse: the expressions joined. Walks of layer parse: statements that end with a semicolon. Walks of layer parse: a return with a value. Walks of layer parse: a variable's definition. -/
import Derived.Test.YthniejnbkkkbnaaGreatDoorM40
import Derived.Test.YthniejnbkkkbnaaGreatDoorM39
import Derived.Test.YthniejnbkkkbnaaGreatDoorM27
set_option linter.all false
set_option linter.unusedSimpArgs false
set_option linter.unusedVariables false
namespace Go.Proofs.YthniejnbkkkbnaaGreatDoor
open Go.RowKit

/-- The expressions' contracts, at every fuel. -/
theorem eAt_all : ∀ k, k ≤ 1000000 → EAt k := by
  intro k
  induction k using Nat.strongRecOn with
  | _ k ih =>
    intro hk
    cases k with
    | zero =>
      exact ⟨fun K l p d w h hd _ _ r hr => by simp [exprP] at hr, fun K p d w h hd r hr => by simp [unaryP] at hr, fun K p d w h hd r hr => by simp [postfixP] at hr,
        fun K p d w h hd r hr => by simp [primaryP] at hr, fun K p d w h hd r hr => by simp [bracketsP] at hr, fun K t p d w h hd hp r hr => by simp [callP] at hr⟩
    | succ k =>
      have ih2 : ∀ j, j < k + 1 → EAt j := fun j hj => ih j hj (by omega)
      have i1 := ih2 k (by omega)
      exact ⟨fun K l p d w h hd h1 h2 r hr => expr_any k ih2 K l p d w h hd h1 h2 r hr, fun K p d w h hd r hr => unary_any k i1 K p d w h hd r hr, fun K p d w h hd r hr => postfix_any k i1 K p d w h hd r hr,
        fun K p d w h hd r hr => primary_any k i1 K p d w h hd r hr, fun K p d w h hd r hr => brackets_any k i1 K p d w h hd r hr, fun K t p d w h hd hp r hr => pcall_any k (by omega) (fun j hj => ih2 j (by omega)) K t p d w h hd hp r hr⟩
end Go.Proofs.YthniejnbkkkbnaaGreatDoor

namespace Go.Proofs.YthniejnbkkkbnaaGreatDoor
open Go.RowKit
set_option maxRecDepth 100000
set_option maxHeartbeats 4000000
attribute [local go_sem ↓] Go.wp_at_zero Go.wp_at_succ

theorem simple_print (k : Nat) (ie : EAt k) (K : PK) (p d : Nat) (w : World) (h : Ctx K p d w) (hd : d ≤ 40) (hi : isP K.L K.E p xPrint = true) (r : PR T)
    (hr : pbind (bracketsP K.L K.E k d (p + 1)) (fun x p2 => some (.ok (.mk ⟨12, [], [], 0, (nowP K.L K.E p).at_⟩ [x]) p2)) = some r) :
    Calls Tryz.prog 258 #[ptrV K.rb] w (PP K d w r (NewTree w)) := by
  have hfl := run_field_tok2
  have hp := isP_lt hi
  have HC := Lib.hid h
  have hrb := h.lt
  have hB := h.hB
  have HI := Lib.hid (fun (x : ByteArray) w1 (hc : Ctx K p d w1) => is_any K p d x w1 hc)
  have H1 : Hid (isP K.L K.E p (⟨#[112, 114, 105, 110, 116]⟩ : ByteArray).data.toList = true) := hi
  obtain ⟨⟨tk, tx, at_⟩, hT⟩ : ∃ T, nowP K.L K.E p = T := ⟨_, rfl⟩
  have HTA := Lib.hid (fun w1 (hc : Ctx K p d w1) => take_any K p d w1 hc hp)
  rw [hT] at HTA hr
  simp only [] at hr
  unfold tokV at HTA
  obtain ⟨y, hy, hr⟩ := pbind_some hr
  have HX := Lib.hid (fun w1 (hc : Ctx K (p + 1) d w1) => ie.brac K (p + 1) d w1 hc hd y hy)
  clear h hi hy hT
  go_enter Tryz.func258, Tryz.ntmps258
  go_wp2_with fail
  refine (HI.out _ _ (HC.out.alloc _)).mono ?_
  rintro e w1 ⟨rfl, hg1⟩
  rw [H1.out]
  have R1 := hg1.blk (blk_alloc _ _)
  have hc1 := (HC.out.alloc _).gr hg1
  have hM1 : Md K.rb w w1 := ((Md.refl _ _).alloc _).trans (.of_gr hg1)
  clear hg1
  go_wp2_with fail
  refine (HTA.out _ hc1).mono ?_
  rintro e w1c ⟨rfl, hc1c, hm1c⟩
  have R1c := hm1c.blk R1 (by omega)
  have hM1c := hM1.trans hm1c
  have hz1c := blkLt R1c
  clear hm1c
  go_wp2_with fail
  refine (HX.out _ hc1c).mono ?_
  rintro e w1d ⟨hm1d, hres⟩
  cases y with
  | err a er =>
    subst hr hres
    exact ⟨rfl, hM1c.trans hm1d, rfl⟩
  | ok x p2 =>
    obtain ⟨v, rfl, ⟨b0, rfl, hx⟩, hc1d⟩ := hres
    injection hr with hr
    subst hr
    have R1d := hm1d.blk R1c (by omega)
    have hM1d := hM1c.trans hm1d
    have hz1d := hm1d.size
    clear hm1d R1 R1c
    go_wp2_with fail
    refine (plain_any 12 at_ _ _ _ _).mono ?_
    rintro e w2 ⟨bn, rfl, hnb, hnd, hng⟩
    rw [World.size_alloc] at hnb
    have R2 := hng.blk (blk_alloc_lt (o' := .cells #[ptrV b0] 53) R1d)
    have r2 := cellAt R2 (i := 0) rfl
    have f2 := frozenAt R2
    have hz2 := blkLt R2
    have hg2 : Gr w1d w2 := (Gr.al _ _).trans hng
    have HTx : Hid (TreeAt w2 (fun k => w.heap.size < k) b0 x) := (hx.imp (fun k hk h => by omega)).gr hg2
    have Row := row_of (X := fun k => w.heap.size < k) (cs := [ptrV b0]) (hng.blk (blk_alloc w1d (.cells #[ptrV b0] 53))) (by omega)
    have HND := Lib.hid hnd
    have HRow := Lib.hid Row
    clear hx hnd Row
    go_wp2_with fail
    refine bodyPost_ret (v := nodeV bn) (by simp [results, Tryz.results258, go_sem, r2, hz2]) rfl ⟨?_, _, rfl, ⟨bn, rfl, ?_⟩, ?_⟩
    · exact (hM1d.trans (.of_gr hg2)).setCell (.inl (by simp)) _
    · refine TreeAt.mk (X := fun k => w.heap.size ≤ k) (by omega) (blk_setCell_ne HND.out (by simp; omega)) (bs := [b0]) ((HRow.out.frame (fun k hk _ => Below.heap_setCell _ _ _ _ (by simp; omega))).imp (fun k _ hk => by omega)) rfl ?_
      intro i b' t' hb' ht'
      match i, hb', ht' with
      | 0, hb', ht' =>
        injection hb' with hb'
        injection ht' with ht'
        subst hb' ht'
        exact TreeAt.imp (X := fun k => w.heap.size < k) (fun k _ hk => Nat.le_of_lt hk) (by repeat' (first | (with_reducible exact HTx.out) | (with_reducible refine TreeAt.al ?_) | (with_reducible refine TreeAt.dr ?_) | (with_reducible refine TreeAt.drN ?_) | (with_reducible refine TreeAt.set ?_ (by intro k hk; (try simp at hk); (try simp); omega))))
    · exact (hc1d.gr hg2).setNew hB (by simp; omega) _

theorem simple_ret0 (K : PK) (p d : Nat) (w : World) (h : Ctx K p d w) (hd : d ≤ 40) (hpr : isP K.L K.E p xPrint = false) (hi : isP K.L K.E p xReturn = true) (hs : isP K.L K.E (p + 1) xSemi = true) :
    Calls Tryz.prog 258 #[ptrV K.rb] w (PP K d w (.ok (.mk ⟨13, [], [], 0, (nowP K.L K.E p).at_⟩ []) (p + 1)) (NewTree w)) := by
  have hfl := run_field_tok2
  have hp := isP_lt hi
  have HC := Lib.hid h
  have hrb := h.lt
  have hB := h.hB
  have HI := Lib.hid (fun (x : ByteArray) p w1 (hc : Ctx K p d w1) => is_any K p d x w1 hc)
  have H0 : Hid (isP K.L K.E p (⟨#[112, 114, 105, 110, 116]⟩ : ByteArray).data.toList = false) := hpr
  have H1 : Hid (isP K.L K.E p (⟨#[114, 101, 116, 117, 114, 110]⟩ : ByteArray).data.toList = true) := hi
  have H2 : Hid (isP K.L K.E (p + 1) (⟨#[59]⟩ : ByteArray).data.toList = true) := hs
  obtain ⟨⟨tk, tx, at_⟩, hT⟩ : ∃ T, nowP K.L K.E p = T := ⟨_, rfl⟩
  have HTA := Lib.hid (fun w1 (hc : Ctx K p d w1) => take_any K p d w1 hc hp)
  rw [hT] at HTA ⊢
  unfold tokV at HTA
  clear h hi hT hpr hs
  go_enter Tryz.func258, Tryz.ntmps258
  go_wp2_with fail
  refine (HI.out _ _ _ (HC.out.alloc _)).mono ?_
  rintro e w0 ⟨rfl, hg0⟩
  rw [H0.out]
  have R0 := hg0.blk (blk_alloc _ _)
  have hc0 := (HC.out.alloc _).gr hg0
  have hM0 : Md K.rb w w0 := ((Md.refl _ _).alloc _).trans (.of_gr hg0)
  clear hg0
  go_wp2_with fail
  refine (HI.out _ _ _ hc0).mono ?_
  rintro e w1 ⟨rfl, hg1⟩
  rw [H1.out]
  have R1 := hg1.blk R0
  have hc1 := hc0.gr hg1
  have hM1 := hM0.trans (.of_gr hg1)
  clear hg1
  go_wp2_with fail
  refine (HTA.out _ hc1).mono ?_
  rintro e w1c ⟨rfl, hc1c, hm1c⟩
  have R1c := hm1c.blk R1 (by omega)
  have hM1c := hM1.trans hm1c
  have hz1c := blkLt R1c
  clear hm1c
  go_wp2_with fail
  refine (plain_any 13 at_ none 0 0 _).mono ?_
  rintro e w2 ⟨bn, rfl, hnb, hnd, hng⟩
  have R2 := hng.blk R1c
  have hl2 := blkLt R2
  have hbn := blkLt hnd
  have hc2 := hc1c.gr hng
  have hM2 := hM1c.trans (.of_gr hng)
  have HND := Lib.hid hnd
  clear hng hnd R1 R1c R0
  go_wp2_with fail
  refine (HI.out _ _ _ (hc2.alloc _)).mono ?_
  rintro e w3 ⟨rfl, hg3⟩
  rw [H2.out]
  have N3 := hg3.blk (blk_alloc _ _)
  have R3 := hg3.blk (blk_alloc_lt R2)
  have D3 := hg3.blk (blk_alloc_lt HND.out)
  have n3 := cellAt N3 (i := 0) rfl
  have r3 := cellAt R3 (i := 0) rfl
  have f3 := frozenAt R3
  have hz3 := blkLt R3
  go_wp2_with fail
  refine bodyPost_ret (v := nodeV bn) (by simp [results, Tryz.results258, go_sem, r3, hz3]) rfl ⟨?_, _, rfl, ⟨bn, rfl, .leaf (by omega) (blk_setCell_ne D3 (by simp; omega))⟩, ?_⟩
  · exact ((hM2.alloc _).trans (.of_gr hg3)).setCell (.inl (by simp)) _
  · exact ((hc2.alloc _).gr hg3).setNew hB (by simp; omega) _
end Go.Proofs.YthniejnbkkkbnaaGreatDoor

namespace Go.Proofs.YthniejnbkkkbnaaGreatDoor
open Go.RowKit
set_option maxRecDepth 100000
set_option maxHeartbeats 4000000
attribute [local go_sem ↓] Go.wp_at_zero Go.wp_at_succ

theorem simple_ret1 (k : Nat) (ie : EAt k) (K : PK) (p d : Nat) (w : World) (h : Ctx K p d w) (hd : d ≤ 40) (hpr : isP K.L K.E p xPrint = false) (hi : isP K.L K.E p xReturn = true) (hs : isP K.L K.E (p + 1) xSemi = false) (r : PR T)
    (hr : pbind (exprP K.L K.E k 1 d (p + 1)) (fun x p2 => some (.ok (.mk ⟨13, [], [], 0, (nowP K.L K.E p).at_⟩ [x]) p2)) = some r) :
    Calls Tryz.prog 258 #[ptrV K.rb] w (PP K d w r (NewTree w)) := by
  have hfl := run_field_tok2
  have hp := isP_lt hi
  have HC := Lib.hid h
  have hrb := h.lt
  have hB := h.hB
  have HI := Lib.hid (fun (x : ByteArray) p w1 (hc : Ctx K p d w1) => is_any K p d x w1 hc)
  have H0 : Hid (isP K.L K.E p (⟨#[112, 114, 105, 110, 116]⟩ : ByteArray).data.toList = false) := hpr
  have H1 : Hid (isP K.L K.E p (⟨#[114, 101, 116, 117, 114, 110]⟩ : ByteArray).data.toList = true) := hi
  have H2 : Hid (isP K.L K.E (p + 1) (⟨#[59]⟩ : ByteArray).data.toList = false) := hs
  obtain ⟨⟨tk, tx, at_⟩, hT⟩ : ∃ T, nowP K.L K.E p = T := ⟨_, rfl⟩
  have HTA := Lib.hid (fun w1 (hc : Ctx K p d w1) => take_any K p d w1 hc hp)
  rw [hT] at HTA hr
  simp only [] at hr
  obtain ⟨y, hy, hr⟩ := pbind_some hr
  obtain ⟨i0, hi0, hz0, hz1, hz2⟩ := info_parts info_node
  have HE := Lib.hid (fun w1 (hc : Ctx K (p + 1) d w1) => ie.expr K 1 (p + 1) d w1 hc hd (by decide) (by decide) y hy)
  have HL := Lib.hid hr
  clear hr hy
  unfold tokV at HTA
  clear h hi hT hpr hs
  go_enter Tryz.func258, Tryz.ntmps258
  go_wp2_with fail
  refine (HI.out _ _ _ (HC.out.alloc _)).mono ?_
  rintro e w0 ⟨rfl, hg0⟩
  rw [H0.out]
  have R0 := hg0.blk (blk_alloc _ _)
  have hc0 := (HC.out.alloc _).gr hg0
  have hM0 : Md K.rb w w0 := ((Md.refl _ _).alloc _).trans (.of_gr hg0)
  clear hg0
  go_wp2_with fail
  refine (HI.out _ _ _ hc0).mono ?_
  rintro e w1 ⟨rfl, hg1⟩
  rw [H1.out]
  have R1 := hg1.blk R0
  have hc1 := hc0.gr hg1
  have hM1 := hM0.trans (.of_gr hg1)
  clear hg1
  go_wp2_with fail
  refine (HTA.out _ hc1).mono ?_
  rintro e w1c ⟨rfl, hc1c, hm1c⟩
  have R1c := hm1c.blk R1 (by omega)
  have hM1c := hM1.trans hm1c
  have hz1c := blkLt R1c
  clear hm1c
  go_wp2_with fail
  refine (plain_any 13 at_ none 0 0 _).mono ?_
  rintro e w2 ⟨bn, rfl, hnb, hnd, hng⟩
  have R2 := hng.blk R1c
  have hl2 := blkLt R2
  have hbn := blkLt hnd
  have hc2 := hc1c.gr hng
  have hM2 := hM1c.trans (.of_gr hng)
  have HND := Lib.hid hnd
  clear hng hnd R1 R1c R0
  go_wp2_with fail
  refine (HI.out _ _ _ (hc2.alloc _)).mono ?_
  rintro e wa ⟨rfl, hga⟩
  rw [H2.out]
  have hcR : w2.heap.size ≠ K.rb := by omega
  have hbR : bn ≠ K.rb := by omega
  have Ne := blk_alloc w2 (.cells #[ptrV bn] 53)
  have De := blk_alloc_lt (o' := .cells #[ptrV bn] 53) HND.out
  have Re := blk_alloc_lt (o' := .cells #[ptrV bn] 53) R2
  have HKe := Lib.hid (KidsAt.nil (w2.heap.size + 1) (w2.alloc (.cells #[ptrV bn] 53)))
  have hce := hc2.alloc (.cells #[ptrV bn] 53)
  have hMe := hM2.alloc (.cells #[ptrV bn] 53)
  have Na := hga.blk Ne
  have Da := hga.blk De
  have HRa := Lib.hid (hga.blk Re)
  have HKa := Lib.hid (HKe.out.gr hga)
  have hca := hce.gr hga
  have hMa := hMe.trans (.of_gr hga)
  have hsa := hga.size
  have na := cellAt Na (i := 0) rfl
  have da := cellAt Da (i := 5) rfl
  have fa := frozenAt Da
  have hbnw := blkLt Da
  have hNaw := blkLt Na
  have HNa := Lib.hid Na
  have HDa := Lib.hid Da
  clear Na Da hga Ne De Re
  rw [World.size_alloc] at hsa
  generalize hks : ([] : List T) = ks at HKa
  generalize hbs : ([] : List Nat) = bs at HKa
  generalize hkv : Value.slice none 0 0 = kv at *
  have hkl : ks.length ≤ 0 := by rw [← hks]; exact Nat.le_refl _
  have Hks := Lib.hid hks
  have Hbs := Lib.hid hbs
  have Hkv := Lib.hid hkv
  clear hks hbs hkv
  cases y with
  | err a er =>
    have hL2 := HL.out
    simp only [] at hL2
    subst hL2
    go_wp2_with fail
    refine wp_region_held_drew (S := fun w' => w'.cell? ⟨w2.heap.size, 0, none⟩ = some (ptrV bn)) rfl na (fun hS => ?_)
    refine wpAnyH_take (i := 0) (v := ?_) rfl (by kernel_rfl) (by kernel_rfl) (by kernel_rfl) (fun _ _ _ h => h) (Or.inl ⟨by rfl, ?_⟩) hS ?_
    rotate_left
    · intro w' hSw; (try dsimp only at hSw); go_simp; try with_reducible rfl
    (try simp only [sL, Act.put])
    refine wpAnyH_take (i := 1) (v := ?_) rfl (by kernel_rfl) (by kernel_rfl) (by kernel_rfl) (fun _ _ _ h => h) (Or.inl ⟨by rfl, ?_⟩) hS ?_
    rotate_left
    · intro w' hSw; (try dsimp only at hSw); go_simp; try with_reducible rfl
    (try simp only [sL, Act.put])
    refine wpAnyH_take (i := 2) (v := ?_) rfl (by kernel_rfl) (by kernel_rfl) (by kernel_rfl) (fun _ _ _ h => h) (Or.inl ⟨by rfl, ?_⟩) hS ?_
    rotate_left
    · intro w' hSw; (try dsimp only at hSw); go_simp; try with_reducible rfl
    (try simp only [sL, Act.put])
    refine wpAnyH_take (i := 3) (v := ?_) rfl (by kernel_rfl) (by kernel_rfl) (by kernel_rfl) (fun _ _ _ h => h) (Or.inl ⟨by rfl, ?_⟩) hS ?_
    rotate_left
    · intro w' hSw; (try dsimp only at hSw); go_simp; try with_reducible rfl
    (try simp only [sL, Act.put])
    refine wpAnyH_take (i := 4) (v := ?_) rfl (by kernel_rfl) (by kernel_rfl) (by kernel_rfl) (fun _ _ _ h => h) (Or.inl ⟨by rfl, ?_⟩) hS ?_
    rotate_left
    · intro w' hSw; (try dsimp only at hSw); go_simp; try with_reducible rfl
    (try simp only [sL, Act.put])
    refine wpAnyH_take (i := 5) (v := ?_) rfl (by kernel_rfl) (by kernel_rfl) (by kernel_rfl) (fun _ _ _ h => h) (Or.inl ⟨by rfl, ?_⟩) hS ?_
    rotate_left
    · intro w' hSw; (try dsimp only at hSw); go_simp; try with_reducible rfl
    (try simp only [sL, Act.put])
    refine wpAnyH_take (i := 7) (v := ?_) rfl (by kernel_rfl) (by kernel_rfl) (by kernel_rfl) (fun _ _ _ h => h) (Or.inl ⟨by rfl, ?_⟩) hS ?_
    rotate_left
    · intro w' hSw; (try dsimp only at hSw); go_simp; try with_reducible rfl
    (try simp only [sL, Act.put])
    refine wpAnyH_ready (rs := [6, 8]) (by kernel_rfl) (by simp) ?_
    refine AllReadyH.cons rfl (fun K' hK => ?_) (AllReadyH.cons rfl (fun K' hK => ?_) AllReadyH.nil)
    · simp only [sL]
      go_simp
      refine hK.out _ _ na (fun hS => ?_)
      (try simp only [sL, Act.put])
      refine wpAnyH_ready (rs := [8]) (by kernel_rfl) (by simp) ?_
      refine AllReadyH.cons rfl (fun K' hK => ?_) AllReadyH.nil
      simp only [sL]
      go_simp
      refine (HE.out _ (by first | exact hca | exact hca.drew)).mono ?_
      rintro e wd ⟨hmd, rfl⟩
      exact ⟨rfl, Md.trans (by first | exact hMa | exact hMa.drew) hmd, rfl⟩
    · simp only [sL]
      go_simp
      refine (HE.out _ (by first | exact hca | exact hca.drew)).mono ?_
      rintro e wd ⟨hmd, rfl⟩
      exact ⟨rfl, Md.trans (by first | exact hMa | exact hMa.drew) hmd, rfl⟩
  | ok x3 p3 =>
    have hL2 := HL.out
    simp only [Option.some.injEq] at hL2
    go_wp2_with fail
    refine wp_region_K 13 (S := fun w' => w'.cell? ⟨w2.heap.size, 0, none⟩ = some (ptrV bn) ∧ w'.cell? ⟨bn, 5, none⟩ = some kv) rfl ⟨na, da⟩ (fun hS => ?_)
    refine wpAnyK_take (i := 0) (v := ?_) rfl (by kernel_rfl) (by kernel_rfl) (by kernel_rfl) (by kernel_rfl) (fun _ _ _ h => h) (Or.inl ⟨by rfl, ?_⟩) hS ?_
    rotate_left
    · intro w' hSw; (try dsimp only at hSw); go_simp; try with_reducible rfl
    (try simp only [sL, Act.put])
    refine wpAnyK_take (i := 1) (v := ?_) rfl (by kernel_rfl) (by kernel_rfl) (by kernel_rfl) (by kernel_rfl) (fun _ _ _ h => h) (Or.inl ⟨by rfl, ?_⟩) hS ?_
    rotate_left
    · intro w' hSw; (try dsimp only at hSw); go_simp; try with_reducible rfl
    (try simp only [sL, Act.put])
    refine wpAnyK_take (i := 2) (v := ?_) rfl (by kernel_rfl) (by kernel_rfl) (by kernel_rfl) (by kernel_rfl) (fun _ _ _ h => h) (Or.inl ⟨by rfl, ?_⟩) hS ?_
    rotate_left
    · intro w' hSw; (try dsimp only at hSw); go_simp; try with_reducible rfl
    (try simp only [sL, Act.put])
    refine wpAnyK_take (i := 3) (v := ?_) rfl (by kernel_rfl) (by kernel_rfl) (by kernel_rfl) (by kernel_rfl) (fun _ _ _ h => h) (Or.inl ⟨by rfl, ?_⟩) hS ?_
    rotate_left
    · intro w' hSw; (try dsimp only at hSw); go_simp; try with_reducible rfl
    (try simp only [sL, Act.put])
    refine wpAnyK_take (i := 4) (v := ?_) rfl (by kernel_rfl) (by kernel_rfl) (by kernel_rfl) (by kernel_rfl) (fun _ _ _ h => h) (Or.inl ⟨by rfl, ?_⟩) hS ?_
    rotate_left
    · intro w' hSw; (try dsimp only at hSw); go_simp; try with_reducible rfl
    (try simp only [sL, Act.put])
    refine wpAnyK_take (i := 5) (v := ?_) rfl (by kernel_rfl) (by kernel_rfl) (by kernel_rfl) (by kernel_rfl) (fun _ _ _ h => h) (Or.inl ⟨by rfl, ?_⟩) hS ?_
    rotate_left
    · intro w' hSw; (try dsimp only at hSw); go_simp; try with_reducible rfl
    (try simp only [sL, Act.put])
    refine wpAnyK_take (i := 6) (v := ?_) rfl (by kernel_rfl) (by kernel_rfl) (by kernel_rfl) (by kernel_rfl) (fun _ _ _ h => h) (Or.inl ⟨by rfl, ?_⟩) hS ?_
    rotate_left
    · intro w' hSw; (try dsimp only at hSw); go_simp; try with_reducible rfl
    (try simp only [sL, Act.put])
    refine wpAnyK_take (i := 7) (v := ?_) rfl (by kernel_rfl) (by kernel_rfl) (by kernel_rfl) (by kernel_rfl) (fun _ _ _ h => h) (Or.inl ⟨by rfl, ?_⟩) hS ?_
    rotate_left
    · intro w' hSw; (try dsimp only at hSw); go_simp; try with_reducible rfl
    (try simp only [sL, Act.put])
    refine wpAnyK_one (i := 8) (by kernel_rfl) rfl (fun K' hK => ?_)
    simp only [sL]
    go_simp
    refine (HE.out _ (by first | exact hca | exact hca.drew)).mono ?_
    rintro e wd ⟨hmd, v, rfl, ⟨b3, rfl, ht3⟩, hcd⟩
    have Nd : wd.heap[w2.heap.size]? = some (.cells #[ptrV bn] 53 (0, 0)) := hmd.blk HNa.out hcR
    have Dd : wd.heap[bn]? = some (.cells #[.int .i64 13, .string (S []), .string (S []), .int .i64 0, .int .i64 at_, kv] 96 (0, 0)) := hmd.blk HDa.out hbR
    have hzd := blkLt Nd
    have hbnd := blkLt Dd
    have hsd := hmd.size
    have KD : Hid (KidsAt (w2.heap.size + 1) wd kv ks bs) := KidsAt.grown (row := some K.rb) (HKa.out.gr (Gr.refl wa).drew) hmd (fun k e => by injection e with e; omega)
    refine hK.out _ _ ⟨cellAt (Nd) rfl, cellAt (Dd) rfl⟩ (fun hS => ?_)
    (try simp only [sL, Act.put])
    refine wpAnyK_one (i := 9) (by kernel_rfl) rfl (fun K' hK => ?_)
    simp only [sL]
    go_simp
    refine hK.out _ _ ⟨cellAt (blk_alloc_lt Nd) rfl, cellAt (blk_alloc_lt Dd) rfl⟩ (fun hS => ?_)
    (try simp only [sL, Act.put])
    refine wpAnyK_one (i := 10) (by kernel_rfl) rfl (fun K' hK => ?_)
    simp only [sL]
    refine Eq.mpr (if_pos (by rfl)) ?_
    refine wp_append_lies _ _ _ _ (by rfl) (w2.heap.size + 1) 53 i0 _ 1 8 Tryz.underlying94 hi0 hz0 hz1 hz2 (by rfl) (by decide) kv ks.length (bs.map ptrV) (by rfl) (ownGr KD.out.own (Gr.al _ _)) ⟨wd.heap.size, 0, none⟩ 1 1 [ptrV b3] (by rfl) (by rfl) (news_ptr (blk_alloc _ _)) (one_ptr _) (by omega) (by unfold maxLen; omega) (by omega) (by simp; omega) (wd.heap.size + 1) (by simp) ?_
    intro g4 cap w4 hown4 hgrow hat hlt4
    have hro : ∀ k, kv.ownBlock = some k → w2.heap.size + 1 ≤ k ∧ k < wd.heap.size := KD.out.own_lt
    have N4 : w4.heap[w2.heap.size]? = some (.cells #[ptrV bn] 53 (0, 0)) := grown_blk hgrow (blk_alloc_lt Nd) (fun j e => by have := (hro j e).1; omega)
    have D4 : w4.heap[bn]? = some (.cells #[.int .i64 13, .string (S []), .string (S []), .int .i64 0, .int .i64 at_, kv] 96 (0, 0)) := grown_blk hgrow (blk_alloc_lt Dd) (fun j e => by have := (hro j e).1; omega)
    have n4 := cellAt N4 (i := 0) rfl
    have d4 := cellAt D4 (i := 5) rfl
    have f4 := frozenAt D4
    refine hK.out _ _ ⟨n4, d4⟩ (fun hS => ?_)
    (try simp only [sL, Act.put])
    refine wpAnyK_one (i := 11) (by kernel_rfl) rfl (fun K' hK => ?_)
    simp only [sL]
    go_simp
    refine hK.out _ _ ⟨n4, d4⟩ (fun hS => ?_)
    (try simp only [sL, Act.put])
    refine wpAnyK_one (i := 12) (by kernel_rfl) rfl (fun K' hK => ?_)
    simp only [sL]
    go_simp
    refine hK.out _ _ ⟨n4, d4⟩ (fun hS => ?_)
    (try simp only [sL, Act.put])
    refine wpAnyK_end (by kernel_rfl) rfl (by kernel_rfl) ?_
    simp only [sL]
    go_simp
    clear hK hS
    all_goals
      have Rd := hmd.blk HRa.out (by omega)
      have R4 := grown_blk hgrow (blk_alloc_lt (o' := .cells #[ptrV b3] 53) Rd) (fun j e => by have := (hro j e).1; omega)
      have hc4 := ((hcd.alloc (.cells #[ptrV b3] 53)).grown hgrow (fun k e => by have := hro k e; omega))
      have hM4 := Md.grown ((hMa.drew.trans hmd).alloc (.cells #[ptrV b3] 53)) hgrow (fun k e => by have := hro k e; omega)
      have K4 := KD.out.push (lo := wa.heap.size) (by omega) (fun k e => (HKa.out.own_lt k e).2) (ht3.imp (fun k _ hk => by simpa using hk)) (Gr.al _ _) hown4 hgrow (by simpa using hat)
      have N5 := blk_setCell_ne (a := ⟨bn, 5, none⟩) (v := .slice (some ⟨g4, 0, none⟩) (ks.length + 1) cap) N4 (by simp; omega)
      have R5 := blk_setCell_ne (a := ⟨bn, 5, none⟩) (v := .slice (some ⟨g4, 0, none⟩) (ks.length + 1) cap) R4 (by simp; omega)
      have D5 := blk_setCell_to (i := 5) (v := .slice (some ⟨g4, 0, none⟩) (ks.length + 1) cap) D4 rfl
      have n5 := cellAt N5 (i := 0) rfl
      have r5 := cellAt R5 (i := 0) rfl
      have f5 := frozenAt R5
      have K5 := K4.set (a := ⟨bn, 5, none⟩) (v := .slice (some ⟨g4, 0, none⟩) (ks.length + 1) cap) (by simp; omega)
      have HD5 := Lib.hid D5
      have HK5 := Lib.hid K5
      clear N5 R5 D5 K4 K5 R4 Rd n4 d4 f4
      go_wp2_with fail
      refine bodyPost_ret (v := nodeV bn) (by simp [results, Tryz.results258, go_sem, r5]) rfl ?_
      rw [← hL2]
      have e := Hks.out
      subst e
      refine ⟨?_, _, rfl, ⟨bn, rfl, ?_⟩, ?_⟩
      · exact (hM4.setCell (.inl (by simp; omega)) _).setCell (.inl (by simp)) _
      · exact (HK5.out.set (a := ⟨w.heap.size, 0, none⟩) (by simp; omega)).tree (typ := []) (blk_setCell_ne HD5.out (by simp; omega)) (by omega) (fun k hk => by omega)
      · exact (hc4.setNew (by simp; omega) (by simp; omega) _).setNew (by simp; omega) (by simp; omega) _
end Go.Proofs.YthniejnbkkkbnaaGreatDoor

namespace Go.Proofs.YthniejnbkkkbnaaGreatDoor
open Go.RowKit
set_option maxRecDepth 100000
set_option maxHeartbeats 4000000
attribute [local go_sem ↓] Go.wp_at_zero Go.wp_at_succ

theorem simple_def (k : Nat) (ie : EAt k) (K : PK) (p d : Nat) (w : World) (h : Ctx K p d w) (hd : d ≤ 40) (hpr : isP K.L K.E p xPrint = false) (hi : isP K.L K.E p xReturn = false)
    (hk1 : (nowP K.L K.E p).kind = 1) (hk4 : (nowP K.L K.E (p + 1)).kind = 4) (hkd : (nowP K.L K.E (p + 1)).text = xDef) (r : PR T)
    (hr : pbind (exprP K.L K.E k 1 d (p + 2)) (fun x p2 => some (.ok (.mk ⟨7, (nowP K.L K.E p).text, [], 0, (nowP K.L K.E p).at_⟩ [x]) p2)) = some r) :
    Calls Tryz.prog 258 #[ptrV K.rb] w (PP K d w r (NewTree w)) := by
  have hf0 := run_field_tok0
  have hf1 := run_field_tok1
  have hp : p < K.L.length := kind_lt (E := K.E) (by rw [hk1]; decide)
  have hp1 : p + 1 < K.L.length := kind_lt (E := K.E) (by rw [hk4]; decide)
  have HC := Lib.hid h
  have hrb := h.lt
  have hB := h.hB
  have HI := Lib.hid (fun (x : ByteArray) p w1 (hc : Ctx K p d w1) => is_any K p d x w1 hc)
  have H0 : Hid (isP K.L K.E p (⟨#[112, 114, 105, 110, 116]⟩ : ByteArray).data.toList = false) := hpr
  have H1 : Hid (isP K.L K.E p (⟨#[114, 101, 116, 117, 114, 110]⟩ : ByteArray).data.toList = false) := hi
  have HN := Lib.hid (fun w1 (hc : Ctx K p d w1) => now_any K p d w1 hc)
  have HAH := Lib.hid (fun w1 (hc : Ctx K p d w1) => ahead_any K p d w1 hc)
  have HTA := Lib.hid (fun w1 (hc : Ctx K p d w1) => take_any K p d w1 hc hp)
  have HTB := Lib.hid (fun w1 (hc : Ctx K (p + 1) d w1) => take_any K (p + 1) d w1 hc hp1)
  obtain ⟨⟨tk, tx, at_⟩, hT⟩ : ∃ T, nowP K.L K.E p = T := ⟨_, rfl⟩
  obtain ⟨⟨ak, ax, aat⟩, hA⟩ : ∃ T, nowP K.L K.E (p + 1) = T := ⟨_, rfl⟩
  rw [hT] at HTA HN hr hk1
  rw [hA] at HTB HAH hk4 hkd
  simp only [] at hr hk1 hk4 hkd
  subst hk1 hk4 hkd
  have k1 : ((S xDef).toList == [(58 : UInt8), 61]) = true := by rw [ByteArray.toList_eq, data_S]; rfl
  unfold tokV at HTA HTB HN HAH
  generalize S xDef = sd at *
  obtain ⟨y, hy, hr⟩ := pbind_some hr
  have HE := Lib.hid (fun w1 (hc : Ctx K (p + 1 + 1) d w1) => ie.expr K 1 (p + 2) d w1 hc hd (by decide) (by decide) y hy)
  have HL := Lib.hid hr
  clear h hi hT hpr hA hr hy
  go_enter Tryz.func258, Tryz.ntmps258
  go_wp2_with fail
  refine (HI.out _ _ _ (HC.out.alloc _)).mono ?_
  rintro e w0 ⟨rfl, hg0⟩
  rw [H0.out]
  have R0 := hg0.blk (blk_alloc _ _)
  have hc0 := (HC.out.alloc _).gr hg0
  have hM0 : Md K.rb w w0 := ((Md.refl _ _).alloc _).trans (.of_gr hg0)
  clear hg0
  go_wp2_with fail
  refine (HI.out _ _ _ hc0).mono ?_
  rintro e w1 ⟨rfl, hg1⟩
  rw [H1.out]
  have R1 := hg1.blk R0
  have hc1 := hc0.gr hg1
  have hM1 := hM0.trans (.of_gr hg1)
  clear hg1 R0
  go_wp2_with fail
  refine (HN.out _ hc1).mono ?_
  rintro e w2 ⟨rfl, hg2⟩
  have R2 := hg2.blk R1
  have hc2 := hc1.gr hg2
  have hM2 := hM1.trans (.of_gr hg2)
  clear hg2 R1
  go_wp2_with fail
  refine (HAH.out _ hc2).mono ?_
  rintro e w3 ⟨rfl, hg3⟩
  have R3 := hg3.blk R2
  have hc3 := hc2.gr hg3
  have hM3 := hM2.trans (.of_gr hg3)
  clear hg3 R2
  go_wp2_with fail
  refine (HAH.out _ hc3).mono ?_
  rintro e w4 ⟨rfl, hg4⟩
  have R4 := hg4.blk R3
  have hc4 := hc3.gr hg4
  have hM4 := hM3.trans (.of_gr hg4)
  clear hg4 R3
  go_wp2_with fail
  refine (HTA.out _ hc4).mono ?_
  rintro e w5 ⟨rfl, hc5, hm5⟩
  have R5 := hm5.blk R4 (by omega)
  have hM5 := hM4.trans hm5
  have hl5 := blkLt R5
  clear hm5 R4
  go_wp2_with fail
  refine (HTB.out _ (hc5.alloc _)).mono ?_
  rintro e wa ⟨rfl, hca, hma⟩
  have Ra := hma.blk (blk_alloc_lt (o' := .cells #[.int .i64 1, .string (S tx), .int .i64 at_] 136) R5) (by omega)
  have Ta := hma.blk (blk_alloc w5 (.cells #[.int .i64 1, .string (S tx), .int .i64 at_] 136)) (by omega)
  have hMa := (hM5.alloc (.cells #[.int .i64 1, .string (S tx), .int .i64 at_] 136)).trans hma
  obtain ⟨t0, t1, t2⟩ := cells3 Ta
  have hsa := blkLt Ta
  have HRa := Lib.hid Ra
  have HTa := Lib.hid Ta
  clear hma Ra Ta R5
  cases y with
  | err a er =>
    have hL2 := HL.out
    simp only [] at hL2
    subst hL2
    go_wp2_with fail
    refine wp_region_held_drew (S := (fun w' => w'.cell? ⟨w5.heap.size, 0, none⟩ = some (.int .i64 1) ∧ w'.cell? ⟨w5.heap.size, 1, none⟩ = some (.string (S tx)) ∧ w'.cell? ⟨w5.heap.size, 2, none⟩ = some (.int .i64 at_))) rfl ⟨t0, t1, t2⟩ (fun hS => ?_)
    refine wpAnyH_take (i := 0) (v := ?_) rfl (by kernel_rfl) (by kernel_rfl) (by kernel_rfl) (fun _ _ _ h => h) (Or.inl ⟨by rfl, ?_⟩) hS ?_
    rotate_left
    · intro w' hSw; (try dsimp only at hSw); go_simp; try with_reducible rfl
    (try simp only [sL, Act.put])
    refine wpAnyH_take (i := 1) (v := ?_) rfl (by kernel_rfl) (by kernel_rfl) (by kernel_rfl) (fun _ _ _ h => h) (Or.inl ⟨by rfl, ?_⟩) hS ?_
    rotate_left
    · intro w' hSw; (try dsimp only at hSw); go_simp; try with_reducible rfl
    (try simp only [sL, Act.put])
    refine wpAnyH_ready (rs := [2]) (by kernel_rfl) (by simp) ?_
    refine AllReadyH.cons rfl (fun K' hK => ?_) AllReadyH.nil
    simp only [sL]
    go_simp
    refine (HE.out _ (by repeat' (first | (with_reducible exact hca) | (with_reducible refine Ctx.alloc ?_ _) | (with_reducible refine Ctx.drew ?_) | (with_reducible refine Ctx.drewN ?_ _) | (with_reducible refine Ctx.setNew ?_ (by first | omega | (simp; done) | (simp; omega)) (by first | omega | (simp; done) | (simp; omega)) _)))).mono ?_
    rintro e wb ⟨hmb, rfl⟩
    exact ⟨rfl, Md.trans (by repeat' (first | (with_reducible exact hMa) | (with_reducible refine Md.alloc ?_ _) | (with_reducible refine Md.drew ?_) | (with_reducible refine Md.drewN ?_ _) | (with_reducible refine Md.setCell ?_ (.inl (by first | omega | (simp; done) | (simp; omega))) _))) hmb, rfl⟩
  | ok x p2 =>
    have hL2 := HL.out
    simp only [Option.some.injEq] at hL2
    go_wp2_with fail
    go_region_held3 (fun w' => w'.cell? ⟨w5.heap.size, 0, none⟩ = some (.int .i64 1) ∧ w'.cell? ⟨w5.heap.size, 1, none⟩ = some (.string (S tx)) ∧ w'.cell? ⟨w5.heap.size, 2, none⟩ = some (.int .i64 at_)) (first | exact ⟨t0, t1, t2⟩ | exact ⟨u0, u1, u2⟩ | exact ⟨v0, v1, v2⟩ | exact ⟨(World.cell?_setCell_far _ _ _ _ (by simp <;> omega)).trans v0, (World.cell?_setCell_far _ _ _ _ (by simp <;> omega)).trans v1, (World.cell?_setCell_far _ _ _ _ (by simp <;> omega)).trans v2⟩ | go_keep) (first | (go_at_call 152; refine (node_any 7 ⟨1, tx, at_⟩ _ _ _ _).mono ?_; rintro e wc ⟨bn, rfl, hnb, hnd, hng⟩; have Tc : wc.heap[w5.heap.size]? = some (.cells #[.int .i64 1, .string (S tx), .int .i64 at_] 136 (0, 0)) := hng.blk (blk_alloc_lt Tb); have Rc : wc.heap[w.heap.size]? = some (.cells #[.pointer none] 53 (0, 0)) := hng.blk (blk_alloc_lt Rb); have v0 := cellAt Tc (i := 0) rfl; have v1 := cellAt Tc (i := 1) rfl; have v2 := cellAt Tc (i := 2) rfl; have rc := cellAt Rc (i := 0) rfl; have fc := frozenAt Rc; have lc := blkLt Rc) | (go_at_call 257; refine (HE.out _ (by exact hca.drew)).mono ?_; rintro e wb ⟨hmb, v, rfl, ⟨b0, rfl, hx⟩, hcb⟩; have Tb : wb.heap[w5.heap.size]? = some (.cells #[.int .i64 1, .string (S tx), .int .i64 at_] 136 (0, 0)) := hmb.blk HTa.out (by omega); have Rb : wb.heap[w.heap.size]? = some (.cells #[.pointer none] 53 (0, 0)) := hmb.blk HRa.out (by omega); have u0 := cellAt Tb (i := 0) rfl; have u1 := cellAt Tb (i := 1) rfl; have u2 := cellAt Tb (i := 2) rfl; have lb := blkLt Rb))
    rw [World.size_alloc] at hnb
    have hgc : Gr wb wc := (Gr.al _ _).trans hng
    have hsb := hmb.size
    have HTx : Hid (TreeAt wc (fun k => w.heap.size < k) b0 x) := (hx.imp (fun k hk h => by simp at h; omega)).gr hgc
    have Row := row_of (X := fun k => w.heap.size < k) (cs := [ptrV b0]) (hng.blk (blk_alloc wb (.cells #[ptrV b0] 53))) (by omega)
    have hMb : Md K.rb w wb := Md.trans hMa.drew hmb
    have hbn := blkLt hnd
    have HND := Lib.hid hnd
    have HRow := Lib.hid Row
    have R6 := blk_setCell_to (i := 0) (v := ptrV bn) Rc rfl
    have r6 := cellAt R6 (i := 0) rfl
    clear hx hnd Row R6
    go_wp2_with fail
    refine bodyPost_ret (v := nodeV bn) (by simp [results, Tryz.results258, go_sem, r6]) rfl ?_
    rw [← hL2]
    refine ⟨?_, _, rfl, ⟨bn, rfl, ?_⟩, ?_⟩
    · exact (hMb.trans (.of_gr hgc)).setCell (.inl (by simp)) _
    · refine TreeAt.mk (X := fun k => w.heap.size ≤ k) (by omega) (blk_setCell_ne HND.out (by simp; omega)) (bs := [b0]) ((HRow.out.frame (fun k hk _ => Below.heap_setCell _ _ _ _ (by simp; omega))).imp (fun k _ hk => by omega)) rfl ?_
      intro i b' t' hb' ht'
      match i, hb', ht' with
      | 0, hb', ht' =>
        injection hb' with hb'
        injection ht' with ht'
        subst hb' ht'
        exact TreeAt.imp (X := fun k => w.heap.size < k) (fun k _ hk => Nat.le_of_lt hk) (by repeat' (first | (with_reducible exact HTx.out) | (with_reducible refine TreeAt.al ?_) | (with_reducible refine TreeAt.dr ?_) | (with_reducible refine TreeAt.drN ?_) | (with_reducible refine TreeAt.set ?_ (by intro k hk; (try simp at hk); (try simp); omega))))
    · exact (hcb.gr hgc).setNew hB (by simp; omega) _
end Go.Proofs.YthniejnbkkkbnaaGreatDoor
