/- A node's kids, while it is being made, in blocks of a kind (where the first kids are older than the node). Walks of layer parse: the statement for. -/
import Derived.Test.YthniejnbkkkbnaaGreatDoorM34
import Derived.Test.YthniejnbkkkbnaaGreatDoorM27
import Derived.Test.YthniejnbkkkbnaaGreatDoorM36
set_option linter.all false
set_option linter.unusedSimpArgs false
set_option linter.unusedVariables false
namespace Go.Proofs.YthniejnbkkkbnaaGreatDoor
open Go.RowKit
set_option maxRecDepth 100000
set_option maxHeartbeats 1000000

structure KidsP (P : Nat → Prop) (w : World) (kv : Value) (ks : List T) (bs : List Nat) : Prop where
  own : w.ownsRow 0 53 1 kv ks.length (bs.map ptrV)
  pk : ∀ k, kv.ownBlock = some k → P k
  len : bs.length = ks.length
  kid : ∀ (i b : Nat) (t : T), bs[i]? = some b → ks[i]? = some t → TreeAt w (fun k => P k ∧ some k ≠ kv.ownBlock) b t

theorem KidsP.grown {P : Nat → Prop} {w w' : World} {kv : Value} {ks : List T} {bs : List Nat} {row : Option Nat} (h : KidsP P w kv ks bs) (hg : w.grownBy w' row) (hr : ∀ k, row = some k → ¬ P k) : KidsP P w' kv ks bs := by
  refine ⟨h.own.kept hg ?_, h.pk, h.len, fun i b t hb ht => (h.kid i b t hb ht).frame fun k hk hlt => hg.block k hlt fun e => hr k e.symm hk.1⟩
  cases hkv : kv.ownBlock with
  | none => exact .inl rfl
  | some k => exact .inr fun e => hr k e.symm (h.pk k hkv)
theorem KidsP.gr {P : Nat → Prop} {w w' : World} {kv : Value} {ks : List T} {bs : List Nat} (h : KidsP P w kv ks bs) (hg : Gr w w') : KidsP P w' kv ks bs := h.grown hg.grownNone (fun k e => by cases e)
theorem KidsP.set {P : Nat → Prop} {w : World} {kv : Value} {ks : List T} {bs : List Nat} (h : KidsP P w kv ks bs) {a : Addr} {v : Value} (ha : ¬ P a.block) : KidsP P (w.setCell a v) kv ks bs :=
  h.grown (grownBy_setCell w a v) (fun k e => by injection e with e; rw [← e]; exact ha)
theorem KidsP.push {P : Nat → Prop} {w3 wa w4 : World} {kv : Value} {ks : List T} {bs : List Nat} {x : T} {bx lo g cap : Nat} (h : KidsP P w3 kv ks bs) (hlo : ∀ k, lo ≤ k → P k) (hkv : ∀ k, kv.ownBlock = some k → k < lo) (hlw : lo ≤ w3.heap.size)
    (hx : TreeAt w3 (fun k => lo ≤ k) bx x) (hga : Gr w3 wa) (hown : w4.ownsRow 0 53 1 (.slice (some ⟨g, 0, none⟩) (ks.length + 1) cap) (ks.length + 1) (bs.map ptrV ++ [ptrV bx]))
    (hgr : wa.grownBy w4 kv.ownBlock) (hat : kv.ownBlock = some g ∨ g = wa.heap.size) : KidsP P w4 (.slice (some ⟨g, 0, none⟩) (ks.length + 1) cap) (ks ++ [x]) (bs ++ [bx]) := by
  have hsz := hga.size
  refine ⟨by simpa using hown, fun k e => ?_, by simp [h.len], fun i b t hb ht => ?_⟩
  · have e : k = g := by simpa [Value.ownBlock] using e.symm
    subst e
    rcases hat with ha | ha
    · exact h.pk _ ha
    · exact hlo _ (by omega)
  have key : ∀ (b : Nat) (t : T), TreeAt w3 (fun k => P k ∧ some k ≠ kv.ownBlock) b t → TreeAt w4 (fun k => P k ∧ some k ≠ (Value.slice (some ⟨g, 0, none⟩) (ks.length + 1) cap).ownBlock) b t := fun b t ht => by
    have h1 : TreeAt w3 (fun k => P k ∧ some k ≠ kv.ownBlock ∧ k < w3.heap.size) b t := ht.imp fun k hk hh => ⟨hh.1, hh.2, hk⟩
    have h2 := (h1.gr hga).frame (w' := w4) fun k hk hlt => hgr.block k hlt hk.2.1
    refine h2.imp fun k hk hh => ⟨hh.1, fun e => ?_⟩
    have e : k = g := by simpa [Value.ownBlock] using e
    rcases hat with ha | ha
    · exact hh.2.1 (by rw [e, ha])
    · omega
  rcases Nat.lt_or_ge i ks.length with hi | hi
  · rw [List.getElem?_append_left (by rw [h.len]; exact hi)] at hb
    rw [List.getElem?_append_left hi] at ht
    exact key b t (h.kid i b t hb ht)
  · rw [List.getElem?_append_right hi] at ht
    rw [List.getElem?_append_right (by rw [h.len]; exact hi), h.len] at hb
    match hj : i - ks.length, hb, ht with
    | 0, hb, ht =>
      injection hb with hb
      injection ht with ht
      subst hb ht
      refine key _ _ (hx.imp fun k _ hk => ⟨hlo k hk, fun e => ?_⟩)
      have := hkv k e.symm
      omega
    | n + 1, hb, ht => simp at hb
theorem KidsP.lit {P : Nat → Prop} {w : World} {x : T} {bx : Nat} (hb : P w.heap.size) (hx : TreeAt w P bx x) : KidsP P (w.alloc (.cells #[ptrV bx] 53)) (.slice (some ⟨w.heap.size, 0, none⟩) 1 1) [x] [bx] := by
  refine ⟨World.ownsRow_lit w #[ptrV bx] 1 (Nat.zero_le _) (by decide) rfl, fun k e => ?_, rfl, fun i b t hb ht => ?_⟩
  · have e : k = w.heap.size := by simpa [Value.ownBlock] using e.symm
    rw [e]; exact hb
  match i, hb, ht with
  | 0, hb, ht =>
    injection hb with hb
    injection ht with ht
    subst hb ht
    refine TreeAt.al (hx.imp fun k hk h => ⟨h, fun e => ?_⟩)
    have e : k = w.heap.size := by simpa [Value.ownBlock] using e
    omega
theorem KidsP.form {P : Nat → Prop} {w : World} {kv : Value} {ks : List T} {bs : List Nat} (h : KidsP P w kv ks bs) : ∃ A c, kv = .slice A ks.length c ∧ RowR w P A (bs.map ptrV) := by
  have hpk := h.pk
  obtain ⟨hl, h1⟩ := h.own
  rcases h1 with ⟨hv, hn⟩ | ⟨g, cap, cur, hv, hb, hg, h2, h3, h4, h5⟩
  · refine ⟨none, 0, by rw [hv, hn], .inl ?_⟩
    have := h.len
    rw [hn] at this
    rw [List.length_eq_zero_iff.1 this]; rfl
  · refine ⟨_, _, hv, .inr ⟨g, 0, cur, _, _, hpk g (by rw [hv]; rfl), rfl, hg, fun i v hi => ?_⟩⟩
    rw [← h5, List.getElem?_take] at hi
    split at hi
    · simpa using hi
    · cases hi
theorem KidsP.tree {P : Nat → Prop} {bn : Nat} {w : World} {kv : Value} {ks : List T} {bs : List Nat} (h : KidsP P w kv ks bs) {op n at_ : Int} {name typ : Str} {X : Nat → Prop}
    (hb : w.heap[bn]? = some (.cells #[.int .i64 op, .string (S name), .string (S typ), .int .i64 n, .int .i64 at_, kv] 96 (0, 0))) (hX : X bn) (hXY : ∀ k, P k → X k) : TreeAt w X bn (.mk ⟨op, name, typ, n, at_⟩ ks) := by
  obtain ⟨A, c, hv, hr⟩ := h.form
  rw [hv] at hb
  exact .mk (bs := bs) hX hb (hr.imp fun k _ hk => hXY k hk) h.len (fun i b t hb ht => (h.kid i b t hb ht).imp fun k _ hk => hXY k hk.1)
end Go.Proofs.YthniejnbkkkbnaaGreatDoor

namespace Go.Proofs.YthniejnbkkkbnaaGreatDoor
open Go.RowKit
set_option maxRecDepth 100000
set_option maxHeartbeats 4000000
attribute [local go_sem ↓] Go.wp_at_zero Go.wp_at_succ

theorem stmt_for (k : Nat) (ih : SAt k) (ie : EAt k) (K : PK) (p d : Nat) (w : World) (h : Ctx K p d w) (hd : d ≤ 40) (hi : isP K.L K.E p xIf = false) (hf : isP K.L K.E p xFor = true) (r : PR T)
    (hr : pbind (exprP K.L K.E k 1 d (p + 1)) (fun x p2 => pbind (blockP K.L K.E k d p2) fun b p3 => some (.ok (.mk ⟨11, [], [], 0, (nowP K.L K.E p).at_⟩ [x, b]) p3)) = some r) :
    Calls Tryz.prog 212 #[ptrV K.rb] w (PP K d w r (NewTree w)) := by
  have hfl := run_field_tok2
  obtain ⟨i0, hi0, hz0, hz1, hz2⟩ := info_parts info_node
  have hp := isP_lt hf
  have HC := Lib.hid h
  have hrb := h.lt
  have hB := h.hB
  have HI := Lib.hid (fun (x : ByteArray) w1 (hc : Ctx K p d w1) => is_any K p d x w1 hc)
  have H1 : Hid (isP K.L K.E p (⟨#[105, 102]⟩ : ByteArray).data.toList = false) := hi
  have H2 : Hid (isP K.L K.E p (⟨#[102, 111, 114]⟩ : ByteArray).data.toList = true) := hf
  obtain ⟨⟨tk, tx, at_⟩, hT⟩ : ∃ T, nowP K.L K.E p = T := ⟨_, rfl⟩
  have HTA := Lib.hid (fun w1 (hc : Ctx K p d w1) => take_any K p d w1 hc hp)
  rw [hT] at HTA hr
  simp only [] at hr
  unfold tokV at HTA
  obtain ⟨y, hy, hr⟩ := pbind_some hr
  have HX := Lib.hid (fun w1 (hc : Ctx K (p + 1) d w1) => ie.expr K 1 (p + 1) d w1 hc hd (by decide) (by decide) y hy)
  clear h hi hf hy hT
  go_enter Tryz.func212, Tryz.ntmps212
  go_wp2_with fail
  refine (HI.out _ _ (HC.out.alloc _)).mono ?_
  rintro e w1 ⟨rfl, hg1⟩
  rw [H1.out]
  have R1 := hg1.blk (blk_alloc _ _)
  have hc1 := (HC.out.alloc _).gr hg1
  have hM1 : Md K.rb w w1 := ((Md.refl _ _).alloc _).trans (.of_gr hg1)
  clear hg1
  go_wp2_with fail
  refine (HI.out _ _ hc1).mono ?_
  rintro e w1b ⟨rfl, hg2⟩
  rw [H2.out]
  have R1b := hg2.blk R1
  have hc1b := hc1.gr hg2
  have hM1b := hM1.trans (.of_gr hg2)
  clear hg2
  go_wp2_with fail
  refine (HTA.out _ hc1b).mono ?_
  rintro e w1c ⟨rfl, hc1c, hm1c⟩
  have R1c := hm1c.blk R1b (by omega)
  have hM1c := hM1b.trans hm1c
  have hz1c := blkLt R1c
  clear hm1c
  go_wp2_with fail
  refine (HX.out _ hc1c).mono ?_
  rintro e w1d ⟨hm1d, hres⟩
  cases y with
  | err a er =>
    subst hr hres
    exact ⟨rfl, hM1c.trans hm1d, rfl⟩
  | ok x p2 =>
    obtain ⟨v, rfl, ⟨b0, rfl, hx⟩, hc1d⟩ := hres
    obtain ⟨y, hy, hr⟩ := pbind_some hr
    have R1d := hm1d.blk R1c (by omega)
    have hM1d := hM1c.trans hm1d
    have hz1d := hm1d.size
    clear hm1d R1 R1b R1c
    go_wp2_with fail
    refine (plain_any 11 at_ _ _ _ _).mono ?_
    rintro e w2 ⟨bn, rfl, hnb, hnd, hng⟩
    rw [World.size_alloc] at hnb
    have hs2 := hng.size
    rw [World.size_alloc] at hs2
    have hbn := blkLt hnd
    have hbR : bn ≠ K.rb := by omega
    have hcR : w2.heap.size ≠ K.rb := by omega
    have HKid : Hid (KidsP (fun k => w.heap.size < k ∧ k ≠ w2.heap.size ∧ k ≠ bn) w2 (.slice (some ⟨w1d.heap.size, 0, none⟩) 1 1) [x] [b0]) :=
      (KidsP.lit ⟨by omega, by omega, by omega⟩ (hx.imp fun k hk h => ⟨by omega, by omega, by omega⟩)).gr hng
    have R2 := hng.blk (blk_alloc_lt (o' := .cells #[ptrV b0] 53) R1d)
    have hc2 := (hc1d.alloc (.cells #[ptrV b0] 53)).gr hng
    have hM2 := (hM1d.alloc (.cells #[ptrV b0] 53)).trans (.of_gr hng)
    have HND := Lib.hid hnd
    clear hng R1d hx hnd
    have HE := Lib.hid (fun w1 (hc : Ctx K p2 d w1) => ih.block K p2 d w1 hc hd y hy)
    have HL := Lib.hid hr
    clear hy hr
    go_wp2_with fail
    have Na := blk_alloc w2 (.cells #[ptrV bn] 53)
    have Da := blk_alloc_lt (o' := .cells #[ptrV bn] 53) HND.out
    have HRa := Lib.hid (blk_alloc_lt (o' := .cells #[ptrV bn] 53) R2)
    have HKa := Lib.hid (HKid.out.gr (Gr.al w2 (.cells #[ptrV bn] 53)))
    have hca := hc2.alloc (.cells #[ptrV bn] 53)
    have hMa := hM2.alloc (.cells #[ptrV bn] 53)
    have hsa : (w2.alloc (.cells #[ptrV bn] 53)).heap.size = w2.heap.size + 1 := by simp
    generalize hwa : w2.alloc (.cells #[ptrV bn] 53) = wa at *
    generalize hkv : Value.slice (some ⟨w1d.heap.size, 0, none⟩) 1 1 = kv at *
    have na := cellAt Na (i := 0) rfl
    have da := cellAt Da (i := 5) rfl
    have fa := frozenAt Da
    have HNa := Lib.hid Na
    have HDa := Lib.hid Da
    clear Na Da HKid HND R2
    generalize hks : [x] = ks at HKa
    generalize hbs : [b0] = bs at HKa
    have hkl : ks.length ≤ 1 := by rw [← hks]; exact Nat.le_refl _
    cases y with
    | err a er =>
      have hL2 := HL.out
      simp only [] at hL2
      subst hL2
      refine wp_region_held_drew (S := fun w' => w'.cell? ⟨w2.heap.size, 0, none⟩ = some (ptrV bn)) rfl na (fun hS => ?_)
      refine wpAnyH_take (i := 0) (v := ?_) rfl (by kernel_rfl) (by kernel_rfl) (by kernel_rfl) (fun _ _ _ h => h) (Or.inl ⟨by rfl, ?_⟩) hS ?_
      rotate_left
      · intro w' hSw; (try dsimp only at hSw); go_simp; try with_reducible rfl
      (try simp only [Act.put, List.setIfInBounds_toArray, List.set_cons_zero, List.set_cons_succ])
      refine wpAnyH_take (i := 1) (v := ?_) rfl (by kernel_rfl) (by kernel_rfl) (by kernel_rfl) (fun _ _ _ h => h) (Or.inl ⟨by rfl, ?_⟩) hS ?_
      rotate_left
      · intro w' hSw; (try dsimp only at hSw); go_simp; try with_reducible rfl
      (try simp only [Act.put, List.setIfInBounds_toArray, List.set_cons_zero, List.set_cons_succ])
      refine wpAnyH_take (i := 2) (v := ?_) rfl (by kernel_rfl) (by kernel_rfl) (by kernel_rfl) (fun _ _ _ h => h) (Or.inl ⟨by rfl, ?_⟩) hS ?_
      rotate_left
      · intro w' hSw; (try dsimp only at hSw); go_simp; try with_reducible rfl
      (try simp only [Act.put, List.setIfInBounds_toArray, List.set_cons_zero, List.set_cons_succ])
      refine wpAnyH_take (i := 3) (v := ?_) rfl (by kernel_rfl) (by kernel_rfl) (by kernel_rfl) (fun _ _ _ h => h) (Or.inl ⟨by rfl, ?_⟩) hS ?_
      rotate_left
      · intro w' hSw; (try dsimp only at hSw); go_simp; try with_reducible rfl
      (try simp only [Act.put, List.setIfInBounds_toArray, List.set_cons_zero, List.set_cons_succ])
      refine wpAnyH_take (i := 4) (v := ?_) rfl (by kernel_rfl) (by kernel_rfl) (by kernel_rfl) (fun _ _ _ h => h) (Or.inl ⟨by rfl, ?_⟩) hS ?_
      rotate_left
      · intro w' hSw; (try dsimp only at hSw); go_simp; try with_reducible rfl
      (try simp only [Act.put, List.setIfInBounds_toArray, List.set_cons_zero, List.set_cons_succ])
      refine wpAnyH_take (i := 5) (v := ?_) rfl (by kernel_rfl) (by kernel_rfl) (by kernel_rfl) (fun _ _ _ h => h) (Or.inl ⟨by rfl, ?_⟩) hS ?_
      rotate_left
      · intro w' hSw; (try dsimp only at hSw); go_simp; try with_reducible rfl
      (try simp only [Act.put, List.setIfInBounds_toArray, List.set_cons_zero, List.set_cons_succ])
      refine wpAnyH_take (i := 7) (v := ?_) rfl (by kernel_rfl) (by kernel_rfl) (by kernel_rfl) (fun _ _ _ h => h) (Or.inl ⟨by rfl, ?_⟩) hS ?_
      rotate_left
      · intro w' hSw; (try dsimp only at hSw); go_simp; try with_reducible rfl
      (try simp only [Act.put, List.setIfInBounds_toArray, List.set_cons_zero, List.set_cons_succ])
      refine wpAnyH_ready (rs := [6, 8]) (by kernel_rfl) (by simp) ?_
      refine AllReadyH.cons rfl (fun K' hK => ?_) (AllReadyH.cons rfl (fun K' hK => ?_) AllReadyH.nil)
      · simp only [List.getElem_toArray, List.getElem_cons_succ, List.getElem_cons_zero]
        go_simp
        refine hK.out _ _ na (fun hS => ?_)
        (try simp only [Act.put, List.setIfInBounds_toArray, List.set_cons_zero, List.set_cons_succ])
        refine wpAnyH_ready (rs := [8]) (by kernel_rfl) (by simp) ?_
        refine AllReadyH.cons rfl (fun K' hK => ?_) AllReadyH.nil
        simp only [List.getElem_toArray, List.getElem_cons_succ, List.getElem_cons_zero]
        go_simp
        refine (HE.out _ (by first | exact hca | exact hca.drew)).mono ?_
        rintro e wd ⟨hmd, rfl⟩
        exact ⟨rfl, Md.trans (by first | exact hMa | exact hMa.drew) hmd, rfl⟩
      · simp only [List.getElem_toArray, List.getElem_cons_succ, List.getElem_cons_zero]
        go_simp
        refine (HE.out _ (by first | exact hca | exact hca.drew)).mono ?_
        rintro e wd ⟨hmd, rfl⟩
        exact ⟨rfl, Md.trans (by first | exact hMa | exact hMa.drew) hmd, rfl⟩
    | ok x3 p3 =>
      have hL2 := HL.out
      simp only [Option.some.injEq] at hL2
      refine wp_region_K 13 (S := fun w' => w'.cell? ⟨w2.heap.size, 0, none⟩ = some (ptrV bn) ∧ w'.cell? ⟨bn, 5, none⟩ = some kv) rfl ⟨na, da⟩ (fun hS => ?_)
      refine wpAnyK_take (i := 0) (v := ?_) rfl (by kernel_rfl) (by kernel_rfl) (by kernel_rfl) (by kernel_rfl) (fun _ _ _ h => h) (Or.inl ⟨by rfl, ?_⟩) hS ?_
      rotate_left
      · intro w' hSw; (try dsimp only at hSw); go_simp; try with_reducible rfl
      (try simp only [List.getElem_toArray, List.getElem_cons_succ, List.getElem_cons_zero, Act.put, List.setIfInBounds_toArray, List.set_cons_zero, List.set_cons_succ])
      refine wpAnyK_take (i := 1) (v := ?_) rfl (by kernel_rfl) (by kernel_rfl) (by kernel_rfl) (by kernel_rfl) (fun _ _ _ h => h) (Or.inl ⟨by rfl, ?_⟩) hS ?_
      rotate_left
      · intro w' hSw; (try dsimp only at hSw); go_simp; try with_reducible rfl
      (try simp only [List.getElem_toArray, List.getElem_cons_succ, List.getElem_cons_zero, Act.put, List.setIfInBounds_toArray, List.set_cons_zero, List.set_cons_succ])
      refine wpAnyK_take (i := 2) (v := ?_) rfl (by kernel_rfl) (by kernel_rfl) (by kernel_rfl) (by kernel_rfl) (fun _ _ _ h => h) (Or.inl ⟨by rfl, ?_⟩) hS ?_
      rotate_left
      · intro w' hSw; (try dsimp only at hSw); go_simp; try with_reducible rfl
      (try simp only [List.getElem_toArray, List.getElem_cons_succ, List.getElem_cons_zero, Act.put, List.setIfInBounds_toArray, List.set_cons_zero, List.set_cons_succ])
      refine wpAnyK_take (i := 3) (v := ?_) rfl (by kernel_rfl) (by kernel_rfl) (by kernel_rfl) (by kernel_rfl) (fun _ _ _ h => h) (Or.inl ⟨by rfl, ?_⟩) hS ?_
      rotate_left
      · intro w' hSw; (try dsimp only at hSw); go_simp; try with_reducible rfl
      (try simp only [List.getElem_toArray, List.getElem_cons_succ, List.getElem_cons_zero, Act.put, List.setIfInBounds_toArray, List.set_cons_zero, List.set_cons_succ])
      refine wpAnyK_take (i := 4) (v := ?_) rfl (by kernel_rfl) (by kernel_rfl) (by kernel_rfl) (by kernel_rfl) (fun _ _ _ h => h) (Or.inl ⟨by rfl, ?_⟩) hS ?_
      rotate_left
      · intro w' hSw; (try dsimp only at hSw); go_simp; try with_reducible rfl
      (try simp only [List.getElem_toArray, List.getElem_cons_succ, List.getElem_cons_zero, Act.put, List.setIfInBounds_toArray, List.set_cons_zero, List.set_cons_succ])
      refine wpAnyK_take (i := 5) (v := ?_) rfl (by kernel_rfl) (by kernel_rfl) (by kernel_rfl) (by kernel_rfl) (fun _ _ _ h => h) (Or.inl ⟨by rfl, ?_⟩) hS ?_
      rotate_left
      · intro w' hSw; (try dsimp only at hSw); go_simp; try with_reducible rfl
      (try simp only [List.getElem_toArray, List.getElem_cons_succ, List.getElem_cons_zero, Act.put, List.setIfInBounds_toArray, List.set_cons_zero, List.set_cons_succ])
      refine wpAnyK_take (i := 6) (v := ?_) rfl (by kernel_rfl) (by kernel_rfl) (by kernel_rfl) (by kernel_rfl) (fun _ _ _ h => h) (Or.inl ⟨by rfl, ?_⟩) hS ?_
      rotate_left
      · intro w' hSw; (try dsimp only at hSw); go_simp; try with_reducible rfl
      (try simp only [List.getElem_toArray, List.getElem_cons_succ, List.getElem_cons_zero, Act.put, List.setIfInBounds_toArray, List.set_cons_zero, List.set_cons_succ])
      refine wpAnyK_take (i := 7) (v := ?_) rfl (by kernel_rfl) (by kernel_rfl) (by kernel_rfl) (by kernel_rfl) (fun _ _ _ h => h) (Or.inl ⟨by rfl, ?_⟩) hS ?_
      rotate_left
      · intro w' hSw; (try dsimp only at hSw); go_simp; try with_reducible rfl
      (try simp only [List.getElem_toArray, List.getElem_cons_succ, List.getElem_cons_zero, Act.put, List.setIfInBounds_toArray, List.set_cons_zero, List.set_cons_succ])
      refine wpAnyK_one (i := 8) (by kernel_rfl) rfl (fun K' hK => ?_)
      simp only [List.getElem_toArray, List.getElem_cons_succ, List.getElem_cons_zero]
      go_simp
      refine (HE.out _ (by first | exact hca | exact hca.drew)).mono ?_
      rintro e wd ⟨hmd, v, rfl, ⟨b3, rfl, ht3⟩, hcd⟩
      have Nd : wd.heap[w2.heap.size]? = some (.cells #[ptrV bn] 53 (0, 0)) := hmd.blk HNa.out hcR
      have Dd : wd.heap[bn]? = some (.cells #[.int .i64 11, .string (S []), .string (S []), .int .i64 0, .int .i64 at_, kv] 96 (0, 0)) := hmd.blk HDa.out hbR
      have hzd := blkLt Nd
      have hbnd := blkLt Dd
      have hsd := hmd.size
      have KD : Hid (KidsP (fun k => w.heap.size < k ∧ k ≠ w2.heap.size ∧ k ≠ bn) wd kv ks bs) := KidsP.grown (row := some K.rb) (HKa.out.gr (Gr.refl wa).drew) hmd (fun k e hP => by injection e with e; have := hP.1; omega)
      refine hK.out _ _ ⟨cellAt (Nd) rfl, cellAt (Dd) rfl⟩ (fun hS => ?_)
      (try simp only [Act.put, List.setIfInBounds_toArray, List.set_cons_zero, List.set_cons_succ])
      refine wpAnyK_one (i := 9) (by kernel_rfl) rfl (fun K' hK => ?_)
      simp only [List.getElem_toArray, List.getElem_cons_succ, List.getElem_cons_zero]
      go_simp
      refine hK.out _ _ ⟨cellAt (blk_alloc_lt Nd) rfl, cellAt (blk_alloc_lt Dd) rfl⟩ (fun hS => ?_)
      (try simp only [Act.put, List.setIfInBounds_toArray, List.set_cons_zero, List.set_cons_succ])
      refine wpAnyK_one (i := 10) (by kernel_rfl) rfl (fun K' hK => ?_)
      simp only [List.getElem_toArray, List.getElem_cons_succ, List.getElem_cons_zero]
      refine Eq.mpr (if_pos (by rfl)) ?_
      refine wp_append_lies _ _ _ _ (by rfl) 0 53 i0 _ 1 8 Tryz.underlying94 hi0 hz0 hz1 hz2 (by rfl) (by decide) kv ks.length (bs.map ptrV) (by rfl) (ownGr KD.out.own (Gr.al _ _)) ⟨wd.heap.size, 0, none⟩ 1 1 [ptrV b3] (by rfl) (by rfl) (news_ptr (blk_alloc _ _)) (one_ptr _) (by omega) (by unfold maxLen; omega) (by omega) (Nat.zero_le _) (wd.heap.size + 1) (by simp) ?_
      intro g4 cap w4 hown4 hgrow hat hlt4
      have hro : ∀ k, kv.ownBlock = some k → w.heap.size < k ∧ k ≠ w2.heap.size ∧ k ≠ bn := KD.out.pk
      have N4 : w4.heap[w2.heap.size]? = some (.cells #[ptrV bn] 53 (0, 0)) := grown_blk hgrow (blk_alloc_lt Nd) (fun j e => by have := hro j e; omega)
      have D4 : w4.heap[bn]? = some (.cells #[.int .i64 11, .string (S []), .string (S []), .int .i64 0, .int .i64 at_, kv] 96 (0, 0)) := grown_blk hgrow (blk_alloc_lt Dd) (fun j e => by have := hro j e; omega)
      have n4 := cellAt N4 (i := 0) rfl
      have d4 := cellAt D4 (i := 5) rfl
      have f4 := frozenAt D4
      refine hK.out _ _ ⟨n4, d4⟩ (fun hS => ?_)
      (try simp only [Act.put, List.setIfInBounds_toArray, List.set_cons_zero, List.set_cons_succ])
      refine wpAnyK_one (i := 11) (by kernel_rfl) rfl (fun K' hK => ?_)
      simp only [List.getElem_toArray, List.getElem_cons_succ, List.getElem_cons_zero]
      go_simp
      refine hK.out _ _ ⟨n4, d4⟩ (fun hS => ?_)
      (try simp only [Act.put, List.setIfInBounds_toArray, List.set_cons_zero, List.set_cons_succ])
      refine wpAnyK_one (i := 12) (by kernel_rfl) rfl (fun K' hK => ?_)
      simp only [List.getElem_toArray, List.getElem_cons_succ, List.getElem_cons_zero]
      go_simp
      refine hK.out _ _ ⟨n4, d4⟩ (fun hS => ?_)
      (try simp only [Act.put, List.setIfInBounds_toArray, List.set_cons_zero, List.set_cons_succ])
      refine wpAnyK_end (by kernel_rfl) rfl (by kernel_rfl) ?_
      simp only [List.getElem_toArray, List.getElem_cons_succ, List.getElem_cons_zero]
      go_simp
      clear hK hS
      all_goals
        have Rd := hmd.blk HRa.out (by omega)
        have R4 := grown_blk hgrow (blk_alloc_lt (o' := .cells #[ptrV b3] 53) Rd) (fun j e => by have := hro j e; omega)
        have hc4 := ((hcd.alloc (.cells #[ptrV b3] 53)).grown hgrow (fun k e => by have := hro k e; omega))
        have hM4 := Md.grown ((hMa.drew.trans hmd).alloc (.cells #[ptrV b3] 53)) hgrow (fun k e => by have := hro k e; omega)
        have K4 := KD.out.push (lo := wa.heap.size) (fun k hk => ⟨by omega, by omega, by omega⟩) (fun k e => (HKa.out.own.lt k e).2) (by simpa using hmd.size) (ht3.imp (fun k _ hk => by simpa using hk)) (Gr.al _ _) hown4 hgrow (by simpa using hat)
        have N5 := blk_setCell_ne (a := ⟨bn, 5, none⟩) (v := .slice (some ⟨g4, 0, none⟩) (ks.length + 1) cap) N4 (by simp; omega)
        have R5 := blk_setCell_ne (a := ⟨bn, 5, none⟩) (v := .slice (some ⟨g4, 0, none⟩) (ks.length + 1) cap) R4 (by simp; omega)
        have D5 := blk_setCell_to (i := 5) (v := .slice (some ⟨g4, 0, none⟩) (ks.length + 1) cap) D4 rfl
        have n5 := cellAt N5 (i := 0) rfl
        have r5 := cellAt R5 (i := 0) rfl
        have f5 := frozenAt R5
        have K5 := K4.set (a := ⟨bn, 5, none⟩) (v := .slice (some ⟨g4, 0, none⟩) (ks.length + 1) cap) (by simp)
        have hbn4 := blkLt D4
        have hN4l := blkLt N4
        have HD5 := Lib.hid D5
        have HK5 := Lib.hid K5
        clear N5 R5 D5 K4 K5 R4 Rd n4 d4 f4
        go_wp2_with fail
        refine bodyPost_ret (v := nodeV bn) (by simp [results, Tryz.results212, go_sem, r5]) rfl ?_
        rw [← hL2]
        subst hks
        refine ⟨?_, _, rfl, ⟨bn, rfl, ?_⟩, ?_⟩
        · exact (hM4.setCell (.inl (by simp; omega)) _).setCell (.inl (by simp)) _
        · exact (HK5.out.set (a := ⟨w.heap.size, 0, none⟩) (by simp)).tree (typ := []) (blk_setCell_ne HD5.out (by simp; omega)) (by omega) (fun k hk => by omega)
        · exact (hc4.setNew (by simp; omega) (by simp; omega) _).setNew (by simp; omega) (by simp; omega) _
end Go.Proofs.YthniejnbkkkbnaaGreatDoor
