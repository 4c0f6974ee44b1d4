/- Walks of layer parse: signs ahead. -/
import Derived.Test.YthniejnbkkkbnaaGreatDoorM31
import Derived.Deep.Cut
import Derived.Deep.CutRange
set_option linter.all false
set_option linter.unusedSimpArgs false
set_option linter.unusedVariables false
namespace Go.Proofs.YthniejnbkkkbnaaGreatDoor
open Go.RowKit
set_option maxRecDepth 100000
set_option maxHeartbeats 1000000
attribute [local go_sem ↓] Go.wp_at_zero Go.wp_at_succ

/-- A node that was made behind a world, and the variable that holds it. -/
def Made (w2 wx : World) (lo c : Nat) (op at_ : Int) (bs : List Nat) : Prop :=
  ∃ bn A cc, lo ≤ c ∧ w2.heap.size ≤ bn ∧ bn ≠ c ∧ Md c w2 wx ∧ wx.heap[c]? = some (.cells #[ptrV bn] 53 (0, 0)) ∧
    wx.heap[bn]? = some (.cells #[.int .i64 op, .string (S []), .string ⟨#[]⟩, .int .i64 0, .int .i64 at_, .slice A bs.length cc] 96 (0, 0)) ∧ RowR wx (fun k => w2.heap.size ≤ k ∧ k ≠ c ∧ k ≠ bn) A (bs.map ptrV)

theorem made_set {w2 w3 : World} {lo c bn : Nat} {op at_ : Int} {bs : List Nat} {A : Option Addr} {cc : Nat} (hlo : lo ≤ c) (hb : w2.heap.size ≤ bn) (hne : bn ≠ c) (hg : Gr w2 w3) (hc : w3.heap[c]? = some (.cells #[.pointer none] 53 (0, 0)))
    (hd : w3.heap[bn]? = some (.cells #[.int .i64 op, .string (S []), .string ⟨#[]⟩, .int .i64 0, .int .i64 at_, .slice A bs.length cc] 96 (0, 0))) (hr : RowR w3 (fun k => w2.heap.size ≤ k ∧ k ≠ c ∧ k ≠ bn) A (bs.map ptrV)) :
    Made w2 (w3.setCell ⟨c, 0, none⟩ (ptrV bn)) lo c op at_ bs :=
  ⟨bn, A, cc, hlo, hb, hne, (Md.of_gr hg).setCell (.inr rfl) _, blk_setCell_to hc rfl, blk_setCell_ne hd hne, hr.frame fun k hk _ => Below.heap_setCell _ _ _ _ hk.2.1⟩
theorem made_new {w2 w3 : World} {lo bn : Nat} {op at_ : Int} {bs : List Nat} {A : Option Addr} {cc : Nat} (hlo : lo ≤ w3.heap.size) (hb : w2.heap.size ≤ bn) (hg : Gr w2 w3)
    (hd : w3.heap[bn]? = some (.cells #[.int .i64 op, .string (S []), .string ⟨#[]⟩, .int .i64 0, .int .i64 at_, .slice A bs.length cc] 96 (0, 0))) (hr : RowR w3 (fun k => w2.heap.size ≤ k ∧ k ≠ bn) A (bs.map ptrV)) :
    Made w2 (w3.alloc (.cells #[ptrV bn] 53)) lo w3.heap.size op at_ bs :=
  ⟨bn, A, cc, hlo, hb, by have := blkLt hd; omega, (Md.of_gr hg).alloc _, blk_alloc _ _, blk_alloc_lt hd, (hr.imp (Y := fun k => w2.heap.size ≤ k ∧ k ≠ w3.heap.size ∧ k ≠ bn) (fun k hk h => ⟨h.1, by omega, h.2⟩)).gr (Gr.al _ _)⟩
theorem row_of {w : World} {X : Nat → Prop} {b : Nat} {cs : List Value} {t : TypeId} {fr : Nat × Nat} (h : w.heap[b]? = some (.cells cs.toArray t fr)) (hX : X b) : RowR w X (some ⟨b, 0, none⟩) cs :=
  .inr ⟨b, 0, _, t, fr, hX, rfl, h, fun i v hv => by simpa using hv⟩

theorem Ctx.md_new {K : PK} {p d c : Nat} {w w' : World} (h : Ctx K p d w) (hcB : K.B ≤ c) (hne : K.rb ≠ c) (hm : Md c w w') : Ctx K p d w' := by
  have hBG := h.hBG
  refine ⟨h.len, h.sm, h.nm, ?_, h.hBG, h.pos, h.dep, hm.blk h.rd hne, h.row.frame fun k hk hlt => hm.block k hlt fun e => ?_, Nat.le_trans h.hB hm.size⟩
  · obtain ⟨t, fr, te, pe, hb⟩ := h.gl
    exact ⟨t, fr, te, pe, hm.blk hb (by omega)⟩
  · injection e with e
    have := hk.2
    omega

theorem unary1_any (k : Nat) (ih : EAt k) (K : PK) (p d : Nat) (w : World) (h : Ctx K p d w) (hd : d ≤ 40) (bx : Nat) (hbx : Box K w bx) (hne : bx ≠ K.rb) (hp : p < K.L.length) (tk : Int) (tx : Str) (at_ : Int) (hT : nowP K.L K.E p = ⟨tk, tx, at_⟩) (y : PR T)
    (hy : unaryP K.L K.E k d (p + 1) = some y) :
    Calls Tryz.prog 321 #[.pointer (some ⟨bx, 0, none⟩)] w (PP K d w (match y with | .err a e => .err a e | .ok u p2 => .ok (.mk ⟨23, [], [], signed1 tx, at_⟩ [u]) p2) (NewTree w)) := by
  have HC := Lib.hid h
  have HU := Lib.hid (fun w1 (hc : Ctx K (p + 1) d w1) => ih.unary K (p + 1) d w1 hc hd y hy)
  have HB := Lib.hid hbx
  have b0 := cellAt hbx (i := 0) rfl
  have hbl := blkLt hbx
  have hrb := h.lt
  have hB := h.hB
  have HTA := Lib.hid (fun w1 (hc : Ctx K p d w1) => take_any K p d w1 hc hp)
  rw [hT] at HTA
  unfold tokV at HTA
  clear h hbx hy hT
  go_enter Tryz.func321, Tryz.ntmps321
  go_wp2_with fail
  refine (HTA.out _ (HC.out.alloc _)).mono ?_
  rintro e w1 ⟨rfl, hc1, hm1⟩
  have B1 := hm1.blk (blk_alloc_lt HB.out) hne
  have b1 := cellAt B1 (i := 0) rfl
  have hbl1 := blkLt B1
  have R1 := hm1.blk (blk_alloc _ _) (show w.heap.size ≠ K.rb by omega)
  have hz1 := blkLt R1
  have hM1 : Md K.rb w w1 := ((Md.refl _ _).alloc _).trans hm1
  clear hm1
  have HT0 : Hid ((w1.alloc (.cells #[.int .i64 tk, .string (S tx), .int .i64 at_] 136)).heap[w1.heap.size]? = some (.cells #[.int .i64 tk, .string (S tx), .int .i64 at_] 136 (0, 0))) := blk_alloc _ _
  have HB0 : Hid (Box K (w1.alloc (.cells #[.int .i64 tk, .string (S tx), .int .i64 at_] 136)) bx) := blk_alloc_lt B1
  have HR0 : Hid ((w1.alloc (.cells #[.int .i64 tk, .string (S tx), .int .i64 at_] 136)).heap[w.heap.size]? = some (.cells #[.pointer none] 53 (0, 0))) := blk_alloc_lt R1
  have k0 := cellAt HT0.out (i := 2) rfl
  have k1 := cellAt HB0.out (i := 0) rfl
  clear B1 R1
  go_upto_region 2 with fail
  cases y with
  | err a er =>
    refine wp_region_held_drew (S := fun w' => w'.cell? ⟨w1.heap.size, 2, none⟩ = some (.int .i64 at_) ∧ w'.cell? ⟨bx, 0, none⟩ = some (ptrV K.rb)) rfl ⟨k0, k1⟩ (fun hS => ?_)
    refine wpAnyH_take (i := 0) (v := ?_) rfl (by kernel_rfl) (by kernel_rfl) (by kernel_rfl) (fun _ _ _ h => h) (Or.inl ⟨by rfl, ?_⟩) hS ?_
    rotate_left
    · intro w' hSw; (try dsimp only at hSw); go_simp; try with_reducible rfl
    (try simp only [Act.put, List.setIfInBounds_toArray, List.set_cons_zero, List.set_cons_succ])
    refine wpAnyH_take (i := 1) (v := ?_) rfl (by kernel_rfl) (by kernel_rfl) (by kernel_rfl) (fun _ _ _ h => h) (Or.inl ⟨by rfl, ?_⟩) hS ?_
    rotate_left
    · intro w' hSw; (try dsimp only at hSw); go_simp; try with_reducible rfl
    (try simp only [Act.put, List.setIfInBounds_toArray, List.set_cons_zero, List.set_cons_succ])
    refine wpAnyH_take (i := 2) (v := ?_) rfl (by kernel_rfl) (by kernel_rfl) (by kernel_rfl) (fun _ _ _ h => h) (Or.inl ⟨by rfl, ?_⟩) hS ?_
    rotate_left
    · intro w' hSw; (try dsimp only at hSw); go_simp; try with_reducible rfl
    (try simp only [Act.put, List.setIfInBounds_toArray, List.set_cons_zero, List.set_cons_succ])
    refine wpAnyH_ready (rs := [3, 6]) (by kernel_rfl) (by simp) ?_
    refine AllReadyH.cons rfl (fun K' hK => ?_) (AllReadyH.cons rfl (fun K' hK => ?_) AllReadyH.nil)
    · simp only [List.getElem_toArray, List.getElem_cons_succ, List.getElem_cons_zero]
      go_simp
      refine (HU.out _ (by repeat' (first | (with_reducible exact hc1) | (with_reducible refine Ctx.alloc ?_ _) | (with_reducible refine Ctx.drew ?_) | (with_reducible refine Ctx.drewN ?_ _) | (with_reducible refine Ctx.setNew ?_ (by first | omega | (simp; done) | (simp; omega)) (by first | omega | (simp; done) | (simp; omega)) _)))).mono ?_
      rintro e w2 ⟨hm2, rfl⟩
      exact ⟨rfl, Md.trans (by repeat' (first | (with_reducible exact hM1) | (with_reducible refine Md.alloc ?_ _) | (with_reducible refine Md.drew ?_) | (with_reducible refine Md.drewN ?_ _) | (with_reducible refine Md.setCell ?_ (.inl (by first | omega | (simp; done) | (simp; omega))) _))) hm2, rfl⟩
    · simp only [List.getElem_toArray, List.getElem_cons_succ, List.getElem_cons_zero]
      go_simp
      refine hK.out _ _ ⟨cellAt (blk_alloc_lt HT0.out) rfl, cellAt (blk_alloc_lt HB0.out) rfl⟩ (fun hS => ?_)
      (try simp only [Act.put, List.setIfInBounds_toArray, List.set_cons_zero, List.set_cons_succ])
      refine wpAnyH_ready (rs := [3]) (by kernel_rfl) (by simp) ?_
      refine AllReadyH.cons rfl (fun K' hK => ?_) AllReadyH.nil
      simp only [List.getElem_toArray, List.getElem_cons_succ, List.getElem_cons_zero]
      go_simp
      refine (HU.out _ (by repeat' (first | (with_reducible exact hc1) | (with_reducible refine Ctx.alloc ?_ _) | (with_reducible refine Ctx.drew ?_) | (with_reducible refine Ctx.drewN ?_ _) | (with_reducible refine Ctx.setNew ?_ (by first | omega | (simp; done) | (simp; omega)) (by first | omega | (simp; done) | (simp; omega)) _)))).mono ?_
      rintro e w2 ⟨hm2, rfl⟩
      exact ⟨rfl, Md.trans (by repeat' (first | (with_reducible exact hM1) | (with_reducible refine Md.alloc ?_ _) | (with_reducible refine Md.drew ?_) | (with_reducible refine Md.drewN ?_ _) | (with_reducible refine Md.setCell ?_ (.inl (by first | omega | (simp; done) | (simp; omega))) _))) hm2, rfl⟩
  | ok u p2 =>
    go_cut [3] from 6 (fun vn wx => ∃ w2 c bu, vn = .pointer (some ⟨c, 0, none⟩) ∧ Made w2 wx (w1.heap.size + 1) c 23 at_ [bu] ∧ Md K.rb w w2 ∧ Ctx K p2 d w2 ∧ TreeAt w2 (fun k => w1.heap.size + 1 ≤ k ∧ k ≠ c) bu u ∧ w2.heap[w.heap.size]? = some (.cells #[.pointer none] 53 (0, 0)) ∧ w2.heap[w1.heap.size]? = some (.cells #[.int .i64 tk, .string (S tx), .int .i64 at_] 136 (0, 0)))
    case first =>
      go_region_held3 (fun w' => w'.cell? ⟨w1.heap.size, 2, none⟩ = some (.int .i64 at_) ∧ w'.cell? ⟨bx, 0, none⟩ = some (ptrV K.rb)) (first | exact ⟨k0, k1⟩ | exact ⟨k2, k3⟩ | exact ⟨k4, k5⟩ | exact ⟨(World.cell?_setCell_far _ _ _ _ (by simp <;> omega)).trans k4, (World.cell?_setCell_far _ _ _ _ (by simp <;> omega)).trans k5⟩ | go_keep) (first | (go_at_call 298; refine (HU.out _ (by repeat' (first | (with_reducible exact hc1) | (with_reducible refine Ctx.alloc ?_ _) | (with_reducible refine Ctx.drew ?_) | (with_reducible refine Ctx.drewN ?_ _) | (with_reducible refine Ctx.setNew ?_ (by first | omega | (simp; done) | (simp; omega)) (by first | omega | (simp; done) | (simp; omega)) _)))).mono ?_; rintro e w2 ⟨hm2, v, rfl, ⟨bu, rfl, ht⟩, hc2⟩; have T2 : w2.heap[w1.heap.size]? = some (.cells #[.int .i64 tk, .string (S tx), .int .i64 at_] 136 (0, 0)) := hm2.blk (by repeat' (first | (with_reducible exact HT0.out) | (with_reducible exact blk_alloc _ _) | (with_reducible refine blk_alloc_lt ?_) | (with_reducible refine blk_drew ?_) | (with_reducible refine blk_drewN ?_) | (with_reducible refine blk_setCell_ne ?_ (by first | omega | (simp; done) | (simp; omega))) | (with_reducible refine blk_setCell_to (cs := ?_) ?_ ?_) | rfl | exact HT0.out)) (by omega); have B2 : Box K w2 bx := hm2.blk (by repeat' (first | (with_reducible exact HB0.out) | (with_reducible exact blk_alloc _ _) | (with_reducible refine blk_alloc_lt ?_) | (with_reducible refine blk_drew ?_) | (with_reducible refine blk_drewN ?_) | (with_reducible refine blk_setCell_ne ?_ (by first | omega | (simp; done) | (simp; omega))) | (with_reducible refine blk_setCell_to (cs := ?_) ?_ ?_) | rfl | exact HB0.out)) hne; have k2 := cellAt T2 (i := 2) rfl; have k3 := cellAt B2 (i := 0) rfl; have hs2 := blkLt T2; have hb2 := blkLt B2; (try (have C2 : w2.heap[w1.heap.size + 1]? = some (.cells #[.pointer none] 53 (0, 0)) := hm2.blk (by first | exact alloc2_snd w1 _ _ | (have := blk_alloc (w1.alloc (.cells #[.int .i64 tk, .string (S tx), .int .i64 at_] 136)) (.cells #[.pointer none] 53); rw [World.size_alloc] at this; exact this)) (by omega); have hlC2 := blkLt C2))) | (go_at_call 56; refine (plain_any 23 at_ _ _ _ _).mono ?_; rintro e w3 ⟨bn, rfl, hnb, hnd, hng⟩; have T3 : w3.heap[w1.heap.size]? = some (.cells #[.int .i64 tk, .string (S tx), .int .i64 at_] 136 (0, 0)) := hng.blk (by repeat' (first | (with_reducible exact T2) | (with_reducible exact blk_alloc _ _) | (with_reducible refine blk_alloc_lt ?_) | (with_reducible refine blk_drew ?_) | (with_reducible refine blk_drewN ?_) | (with_reducible refine blk_setCell_ne ?_ (by first | omega | (simp; done) | (simp; omega))) | (with_reducible refine blk_setCell_to (cs := ?_) ?_ ?_) | rfl | exact T2)); have B3 : Box K w3 bx := hng.blk (by repeat' (first | (with_reducible exact B2) | (with_reducible exact blk_alloc _ _) | (with_reducible refine blk_alloc_lt ?_) | (with_reducible refine blk_drew ?_) | (with_reducible refine blk_drewN ?_) | (with_reducible refine blk_setCell_ne ?_ (by first | omega | (simp; done) | (simp; omega))) | (with_reducible refine blk_setCell_to (cs := ?_) ?_ ?_) | rfl | exact B2)); have k4 := cellAt T3 (i := 2) rfl; have k5 := cellAt B3 (i := 0) rfl; (try (have C3 : w3.heap[w2.heap.size + 1]? = some (.cells #[.pointer none] 53 (0, 0)) := hng.blk (alloc2_snd _ _ _); have c0 := cellAt C3 (i := 0) rfl; have fc := frozenAt C3)); (try (have C3 : w3.heap[w2.heap.size]? = some (.cells #[.pointer none] 53 (0, 0)) := hng.blk (alloc2_fst _ _ _); have c0 := cellAt C3 (i := 0) rfl; have fc := frozenAt C3)); (try (have C3 : w3.heap[w1.heap.size + 1]? = some (.cells #[.pointer none] 53 (0, 0)) := hng.blk (blk_alloc_lt C2); have c0 := cellAt C3 (i := 0) rfl; have fc := frozenAt C3))))
      all_goals (try go_wp2_with fail)
      all_goals go_meet
      all_goals (try rw [World.size_alloc] at hnb); (try rw [World.size_alloc] at hnb)
      all_goals have hbl3 := blkLt hnd
      all_goals refine ⟨w2, _, bu, rfl, ?_, Md.trans (by repeat' (first | (with_reducible exact hM1) | (with_reducible refine Md.alloc ?_ _) | (with_reducible refine Md.drew ?_) | (with_reducible refine Md.drewN ?_ _) | (with_reducible refine Md.setCell ?_ (.inl (by first | omega | (simp; done) | (simp; omega))) _))) hm2, hc2, ht.imp (fun k hlt hk => by simp at hk; omega), hm2.blk (by repeat' (first | (with_reducible exact HR0.out) | (with_reducible exact blk_alloc _ _) | (with_reducible refine blk_alloc_lt ?_) | (with_reducible refine blk_drew ?_) | (with_reducible refine blk_drewN ?_) | (with_reducible refine blk_setCell_ne ?_ (by first | omega | (simp; done) | (simp; omega))) | (with_reducible refine blk_setCell_to (cs := ?_) ?_ ?_) | rfl | exact HR0.out)) (by omega), T2⟩
      · exact made_new (by omega) (by omega) (((Gr.al _ _)).trans hng) hnd (row_of (cs := [ptrV bu]) (hng.blk (blk_alloc _ _)) ⟨by omega, by omega⟩)
      · exact made_set (by omega) (by omega) (by omega) (((Gr.al _ _).alloc _).trans hng) C3 hnd (row_of (cs := [ptrV bu]) (hng.blk (alloc2_fst _ _ _)) ⟨by omega, by omega, by omega⟩)
      · exact made_set (by omega) (by omega) (by omega) (((Gr.al _ _).alloc _).trans hng) C3 hnd (row_of (cs := [ptrV bu]) (hng.blk (alloc2_snd _ _ _)) ⟨by omega, by omega, by omega⟩)
      · exact made_set (by omega) (by omega) (by omega) (((Gr.al _ _)).trans hng) C3 hnd (row_of (cs := [ptrV bu]) (hng.blk (blk_alloc _ _)) ⟨by omega, by omega, by omega⟩)
    case rest =>
      obtain ⟨w2, c, bu, rfl, ⟨bn, A, cc, hlo, hbn, hbc, hmc, hcc, hcd, hcr⟩, hm2, hc2, ht, hR, hTk⟩ := hcut
      have hbu := ht.lt
      have hl2 := blkLt hR
      have hlT := blkLt hTk
      have hlc := blkLt hcc
      have hlbn := blkLt hcd
      have TC : wc.heap[w1.heap.size]? = some (.cells #[.int .i64 tk, .string (S tx), .int .i64 at_] 136 (0, 0)) := hmc.blk hTk (by omega)
      have RC : wc.heap[w.heap.size]? = some (.cells #[.pointer none] 53 (0, 0)) := hmc.blk hR (by omega)
      have HT : Hid (TreeAt wc (fun k => w.heap.size < k ∧ k < w2.heap.size ∧ k ≠ c) bu u) := Md.tree (ht.imp (fun k hlt hk => ⟨by omega, hlt, hk.2⟩)) (fun k hk => hk.2.2) hmc
      have HCR := Lib.hid hcr
      have hcB : K.B ≤ c := by omega
      have hMC : Md K.rb w wc := by
        refine ⟨hmc.os.trans hm2.os, hmc.tape.trans hm2.tape, hmc.output.trans hm2.output, Nat.le_trans hm2.size hmc.size, fun k hk hn => ?_⟩
        rw [hmc.block k (Nat.lt_of_lt_of_le hk hm2.size) (fun e => by injection e with e; omega)]
        exact hm2.block k hk hn
      have hCC : Ctx K p2 d wc := hc2.md_new hcB (by omega) hmc
      have HRC := Lib.hid RC
      have HCC := Lib.hid hcc
      have HCD := Lib.hid hcd
      have s0 := cellAt hcc (i := 0) rfl
      have s1 := cellAt TC (i := 1) rfl
      have n0 := cellAt hcd (i := 3) rfl
      have nf := frozenAt hcd
      clear ht hcr hR hm2 hmc hcc hcd RC hTk
      have e1 : ¬ c = w.heap.size := by omega
      have e2 : ¬ bn = w.heap.size := by omega
      go_wp2_with fail
      go_region_held3 (fun w' => w'.cell? ⟨c, 0, none⟩ = some (ptrV bn) ∧ w'.cell? ⟨w1.heap.size, 1, none⟩ = some (.string (S tx))) (first | exact ⟨s0, s1⟩ | exact ⟨s2, s3⟩ | exact ⟨(World.cell?_setCell_far _ _ _ _ (by simp <;> omega)).trans s2, (World.cell?_setCell_far _ _ _ _ (by simp <;> omega)).trans s3⟩ | go_keep) (first | (go_at_call 322; refine (Signed1_any tx _).mono ?_; rintro e w4 ⟨⟨bb, rfl⟩, hg4⟩; have C4 : w4.heap[c]? = some (.cells #[ptrV bn] 53 (0, 0)) := hg4.blk (by repeat' (first | (with_reducible exact HCC.out) | (with_reducible exact blk_alloc _ _) | (with_reducible refine blk_alloc_lt ?_) | (with_reducible refine blk_drew ?_) | (with_reducible refine blk_drewN ?_) | (with_reducible refine blk_setCell_ne ?_ (by first | omega | (simp; done) | (simp; omega))) | (with_reducible refine blk_setCell_to (cs := ?_) ?_ ?_) | rfl | exact HCC.out)); have D4 : w4.heap[bn]? = some (.cells #[.int .i64 23, .string (S []), .string ⟨#[]⟩, .int .i64 0, .int .i64 at_, .slice A [bu].length cc] 96 (0, 0)) := hg4.blk (by repeat' (first | (with_reducible exact HCD.out) | (with_reducible exact blk_alloc _ _) | (with_reducible refine blk_alloc_lt ?_) | (with_reducible refine blk_drew ?_) | (with_reducible refine blk_drewN ?_) | (with_reducible refine blk_setCell_ne ?_ (by first | omega | (simp; done) | (simp; omega))) | (with_reducible refine blk_setCell_to (cs := ?_) ?_ ?_) | rfl | exact HCD.out)); have T4 : w4.heap[w1.heap.size]? = some (.cells #[.int .i64 tk, .string (S tx), .int .i64 at_] 136 (0, 0)) := hg4.blk (by repeat' (first | (with_reducible exact TC) | (with_reducible exact blk_alloc _ _) | (with_reducible refine blk_alloc_lt ?_) | (with_reducible refine blk_drew ?_) | (with_reducible refine blk_drewN ?_) | (with_reducible refine blk_setCell_ne ?_ (by first | omega | (simp; done) | (simp; omega))) | (with_reducible refine blk_setCell_to (cs := ?_) ?_ ?_) | rfl | exact TC)); have R4 : w4.heap[w.heap.size]? = some (.cells #[.pointer none] 53 (0, 0)) := hg4.blk (by repeat' (first | (with_reducible exact HRC.out) | (with_reducible exact blk_alloc _ _) | (with_reducible refine blk_alloc_lt ?_) | (with_reducible refine blk_drew ?_) | (with_reducible refine blk_drewN ?_) | (with_reducible refine blk_setCell_ne ?_ (by first | omega | (simp; done) | (simp; omega))) | (with_reducible refine blk_setCell_to (cs := ?_) ?_ ?_) | rfl | exact HRC.out)); have s2 := cellAt C4 (i := 0) rfl; have s3 := cellAt T4 (i := 1) rfl; have n4 := cellAt D4 (i := 3) rfl; have nf4 := frozenAt D4))
      have q0 : (w4.setCell ⟨bn, 3, none⟩ (.int .i64 (signed1 tx))).cell? ⟨c, 0, none⟩ = some (ptrV bn) := cellAt (blk_setCell_ne C4 (by simp <;> omega)) rfl
      have R5 : (w4.setCell ⟨bn, 3, none⟩ (.int .i64 (signed1 tx))).heap[w.heap.size]? = some (.cells #[.pointer none] 53 (0, 0)) := blk_setCell_ne R4 (by simp <;> omega)
      have r5 := cellAt R5 (i := 0) rfl
      have rf5 := frozenAt R5
      have D5 := blk_setCell_to (i := 3) (v := .int .i64 (signed1 tx)) D4 rfl
      clear s2 s3 n4 nf4 s0 s1 n0 nf
      go_wp2_with fail
      refine bodyPost_ret (v := nodeV bn) (by simp [results, Tryz.results321, go_sem, r5]) rfl ⟨?_, _, rfl, ⟨bn, rfl, ?_⟩, ?_⟩
      · exact ((hMC.drew.trans (.of_gr hg4)).setCell (.inl (by simp <;> omega)) _).setCell (.inl (by simp)) _
      · refine TreeAt.mk (X := fun k => w.heap.size ≤ k) (by omega) (blk_setCell_ne D5 (by simp <;> omega)) (bs := [bu]) ?_ rfl ?_
        · exact ((HCR.out.gr (Gr.refl _).drew).gr hg4).frame (fun k hk _ => by rw [Below.heap_setCell _ _ _ _ (by simp <;> omega), Below.heap_setCell _ _ _ _ (by simp <;> omega)]) |>.imp (fun k _ hk => by omega)
        · intro i b' t' hb' ht'
          match i, hb', ht' with
          | 0, hb', ht' =>
            injection hb' with hb'
            injection ht' with ht'
            subst hb' ht'
            have HT4 : TreeAt w4 (fun k => w.heap.size < k ∧ k < w2.heap.size ∧ k ≠ c) bu u := (HT.out.dr).gr hg4
            exact TreeAt.imp (X := fun k => w.heap.size < k ∧ k < w2.heap.size ∧ k ≠ c) (fun k _ hk => Nat.le_of_lt hk.1) (by repeat' (first | (with_reducible exact HT4) | (with_reducible refine TreeAt.al ?_) | (with_reducible refine TreeAt.dr ?_) | (with_reducible refine TreeAt.drN ?_) | (with_reducible refine TreeAt.set ?_ (by intro k hk; (try simp at hk); (try simp); omega))))
      · exact (((hCC.drew).gr hg4).setNew (by simp <;> omega) (by simp <;> omega) _).setNew (by simp <;> omega) (by simp <;> omega) _
theorem en_unary1 : Enters 321 := fun _ _ => by kernel_rfl

theorem unary_any (k : Nat) (ih : EAt k) (K : PK) (p d : Nat) (w : World) (h : Ctx K p d w) (hd : d ≤ 40) (r : PR T) (hr : unaryP K.L K.E (k + 1) d p = some r) :
    Calls Tryz.prog 298 #[ptrV K.rb] w (PP K d w r (NewTree w)) := by
  have HC := Lib.hid h
  have hrb := h.lt
  have hB := h.hB
  unfold unaryP at hr
  have HI := Lib.hid (fun (x : ByteArray) w1 (hc : Ctx K p d w1) => is_any K p d x w1 hc)
  obtain ⟨T, hT⟩ : ∃ T, nowP K.L K.E p = T := ⟨_, rfl⟩
  obtain ⟨tk, tx, at_⟩ := T
  by_cases h1 : isP K.L K.E p xMinus = false ∧ isP K.L K.E p xNot = false
  · rw [if_pos h1] at hr
    have HPO := Lib.hid (fun w1 (hc : Ctx K p d w1) => ih.post K p d w1 hc hd r hr)
    have H1 := Lib.hid h1
    clear h h1 hr hT
    go_enter Tryz.func298, Tryz.ntmps298
    go_wp2_with fail
    refine (HI.out _ _ ((HC.out.alloc _).alloc _)).mono ?_
    rintro e w1 ⟨rfl, hg1⟩
    rw [show isP K.L K.E p (⟨#[45]⟩ : ByteArray).data.toList = false from H1.out.1]
    have B1 := hg1.blk (alloc2_fst _ _ _)
    have R1 := hg1.blk (alloc2_snd _ _ _)
    have b1 := cellAt B1 (i := 0) rfl
    have hz1 := blkLt R1
    have hM1 : Md K.rb w w1 := (((Md.refl _ _).alloc _).alloc _).trans (.of_gr hg1)
    have hc1 := ((HC.out.alloc _).alloc _).gr hg1
    clear hg1
    go_wp2_with fail
    refine (HI.out _ _ hc1).mono ?_
    rintro e w2 ⟨rfl, hg2⟩
    rw [show isP K.L K.E p (⟨#[33]⟩ : ByteArray).data.toList = false from H1.out.2]
    have B2 := hg2.blk B1
    have R2 := hg2.blk R1
    have b2 := cellAt B2 (i := 0) rfl
    have hl2 := blkLt R2
    have hM2 := hM1.trans (.of_gr hg2)
    have hc2 := hc1.gr hg2
    clear hg2
    go_wp2_with fail
    refine (HPO.out _ hc2).mono ?_
    rintro e w3 ⟨hm3, hres⟩
    cases r with
    | err a er =>
      subst hres
      exact ⟨rfl, hM2.trans hm3, rfl⟩
    | ok t p2 =>
      obtain ⟨v, rfl, ⟨b, rfl, ht⟩, hc3⟩ := hres
      have R3 := hm3.blk R2 (by omega)
      have r3 := cellAt R3 (i := 0) rfl
      have f3 := frozenAt R3
      have hz3 := blkLt R3
      have HT : Hid (TreeAt w3 (fun k => w.heap.size + 1 < k) b t) := ht.imp (fun k _ hk => by omega)
      clear ht
      go_wp2_with fail
      refine bodyPost_ret (v := nodeV b) (by simp [results, Tryz.results298, go_sem, r3, hz3]) rfl ⟨?_, _, rfl, ⟨b, rfl, ?_⟩, ?_⟩
      · exact (hM2.trans hm3).setCell (.inl (by simp)) _
      · exact TreeAt.imp (X := fun k => w.heap.size + 1 < k) (fun k _ hk => by omega) (by repeat' (first | (with_reducible exact HT.out) | (with_reducible refine TreeAt.al ?_) | (with_reducible refine TreeAt.dr ?_) | (with_reducible refine TreeAt.drN ?_) | (with_reducible refine TreeAt.set ?_ (by intro k hk; (try simp at hk); (try simp); omega))))
      · exact hc3.setNew (by simp; omega) (by simp; omega) _
  · rw [if_neg h1] at hr
    have hp : p < K.L.length := by
      by_cases hm : isP K.L K.E p xMinus = false
      · have : isP K.L K.E p xNot = true := by
          cases hn : isP K.L K.E p xNot
          · exact absurd ⟨hm, hn⟩ h1
          · rfl
        exact isP_lt this
      · exact isP_lt (by simpa using hm)
    have HR := Lib.hid hr
    have H1 := Lib.hid h1
    have HTT := Lib.hid hT
    clear hr h1 h hT
    have HD : Hid (∀ w1, Ctx K p d w1 → Box K w1 w.heap.size → w.heap.size ≠ K.rb → Calls Tryz.prog 210 #[ptrV K.rb, .func (.func 321) #[] #[.pointer (some ⟨w.heap.size, 0, none⟩)]] w1 (PP K d w1 r (NewTree w1))) := fun w1 hc1 B1 hne => by
      rcases deeperP_some HR.out with ⟨hdd, rfl⟩ | ⟨hdd, hx⟩
      · exact deeper_any K p d w1 hc1 hd _ _ _ rfl (.err 0 0) _ (by unfold deeperP; rw [if_pos hdd]) en_unary1 (fun h => by omega)
      · obtain ⟨y, hy, hyr⟩ := pbind_some hx
        have e : r = (match (motive := PR T → PR T) y with | .err a e => .err a e | .ok u p2 => .ok (.mk ⟨23, [], [], signed1 tx, at_⟩ [u]) p2) := by
          cases y with
          | err a e => exact hyr
          | ok u p2 => injection hyr with hyr; rw [HTT.out] at hyr; exact hyr.symm
        subst e
        exact deeper_any K p d w1 hc1 hd _ _ _ rfl _ _ (by unfold deeperP; rw [if_neg (by omega)]) en_unary1 (fun h w' hc' hm' =>
          unary1_any k ih K p (d + 1) w' hc' h _ (hm'.blk B1 hne) hne hp tk tx at_ HTT.out y hy)
    go_enter Tryz.func298, Tryz.ntmps298
    go_wp2_with fail
    refine (HI.out _ _ ((HC.out.alloc _).alloc _)).mono ?_
    rintro e w1 ⟨rfl, hg1⟩
    have B1 := hg1.blk (alloc2_fst _ _ _)
    have R1 := hg1.blk (alloc2_snd _ _ _)
    have b1 := cellAt B1 (i := 0) rfl
    have hz1 := blkLt R1
    have hM1 : Md K.rb w w1 := (((Md.refl _ _).alloc _).alloc _).trans (.of_gr hg1)
    have hc1 := ((HC.out.alloc _).alloc _).gr hg1
    clear hg1
    cases hm : isP K.L K.E p (⟨#[45]⟩ : ByteArray).data.toList
    · have hn : Hid (isP K.L K.E p (⟨#[33]⟩ : ByteArray).data.toList = true) := by
        show isP K.L K.E p xNot = true
        cases hn : isP K.L K.E p xNot
        · exact absurd ⟨hm, hn⟩ H1.out
        · rfl
      clear hm
      go_wp2_with fail
      refine (HI.out _ _ hc1).mono ?_
      rintro e w2 ⟨rfl, hg2⟩
      rw [hn.out]
      have B2 := hg2.blk B1
      have R2 := hg2.blk R1
      have b2 := cellAt B2 (i := 0) rfl
      have hl2 := blkLt R2
      have hM2 := hM1.trans (.of_gr hg2)
      have hc2 := hc1.gr hg2
      clear hg2
      go_wp2_with fail
      refine (HD.out _ hc2 B2 (by omega)).mono ?_
      rintro e w3 ⟨hm3, hres⟩
      cases r with
      | err a er =>
        subst hres
        exact ⟨rfl, hM2.trans hm3, rfl⟩
      | ok t p2 =>
        obtain ⟨v, rfl, ⟨b, rfl, ht⟩, hc3⟩ := hres
        have R3 := hm3.blk R2 (by omega)
        have r3 := cellAt R3 (i := 0) rfl
        have f3 := frozenAt R3
        have hz3 := blkLt R3
        have HT : Hid (TreeAt w3 (fun k => w.heap.size + 1 < k) b t) := ht.imp (fun k _ hk => by omega)
        clear ht
        go_wp2_with fail
        refine bodyPost_ret (v := nodeV b) (by simp [results, Tryz.results298, go_sem, r3, hz3]) rfl ⟨?_, _, rfl, ⟨b, rfl, ?_⟩, ?_⟩
        · exact (hM2.trans hm3).setCell (.inl (by simp)) _
        · exact TreeAt.imp (X := fun k => w.heap.size + 1 < k) (fun k _ hk => by omega) (by repeat' (first | (with_reducible exact HT.out) | (with_reducible refine TreeAt.al ?_) | (with_reducible refine TreeAt.dr ?_) | (with_reducible refine TreeAt.drN ?_) | (with_reducible refine TreeAt.set ?_ (by intro k hk; (try simp at hk); (try simp); omega))))
        · exact hc3.setNew (by simp; omega) (by simp; omega) _
    · clear hm
      have B2 := B1
      have R2 := R1
      have hl2 := blkLt R2
      have hM2 := hM1
      have hc2 := hc1
      go_wp2_with fail
      refine (HD.out _ hc2 B2 (by omega)).mono ?_
      rintro e w3 ⟨hm3, hres⟩
      cases r with
      | err a er =>
        subst hres
        exact ⟨rfl, hM2.trans hm3, rfl⟩
      | ok t p2 =>
        obtain ⟨v, rfl, ⟨b, rfl, ht⟩, hc3⟩ := hres
        have R3 := hm3.blk R2 (by omega)
        have r3 := cellAt R3 (i := 0) rfl
        have f3 := frozenAt R3
        have hz3 := blkLt R3
        have HT : Hid (TreeAt w3 (fun k => w.heap.size + 1 < k) b t) := ht.imp (fun k _ hk => by omega)
        clear ht
        go_wp2_with fail
        refine bodyPost_ret (v := nodeV b) (by simp [results, Tryz.results298, go_sem, r3, hz3]) rfl ⟨?_, _, rfl, ⟨b, rfl, ?_⟩, ?_⟩
        · exact (hM2.trans hm3).setCell (.inl (by simp)) _
        · exact TreeAt.imp (X := fun k => w.heap.size + 1 < k) (fun k _ hk => by omega) (by repeat' (first | (with_reducible exact HT.out) | (with_reducible refine TreeAt.al ?_) | (with_reducible refine TreeAt.dr ?_) | (with_reducible refine TreeAt.drN ?_) | (with_reducible refine TreeAt.set ?_ (by intro k hk; (try simp at hk); (try simp); omega))))
        · exact hc3.setNew (by simp; omega) (by simp; omega) _
end Go.Proofs.YthniejnbkkkbnaaGreatDoor
