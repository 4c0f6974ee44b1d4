/- Walks of layer parse: expressions in brackets, with signs ahead, names, what stands for itself. -/
import Derived.Test.YthniejnbkkkbnaaGreatDoorM09
import Derived.Deep.DrawnRows
set_option linter.all false
set_option linter.unusedSimpArgs false
set_option linter.unusedVariables false
namespace Go.Proofs.YthniejnbkkkbnaaGreatDoor
open Go.RowKit
set_option maxRecDepth 100000
set_option maxHeartbeats 4000000
attribute [local go_sem ↓] Go.wp_at_zero Go.wp_at_succ

/-- The contracts of the expressions' walks, at so much fuel. -/
structure EAt (k : Nat) : Prop where
  expr : ∀ (K : PK) (least : Int) (p d : Nat) (w : World), Ctx K p d w → d ≤ 40 → 1 ≤ least → least ≤ 6 → ∀ r, exprP K.L K.E k least d p = some r → Calls Tryz.prog 257 #[ptrV K.rb, .int .i64 least] w (PP K d w r (NewTree w))
  unary : ∀ (K : PK) (p d : Nat) (w : World), Ctx K p d w → d ≤ 40 → ∀ r, unaryP K.L K.E k d p = some r → Calls Tryz.prog 298 #[ptrV K.rb] w (PP K d w r (NewTree w))
  post : ∀ (K : PK) (p d : Nat) (w : World), Ctx K p d w → d ≤ 40 → ∀ r, postfixP K.L K.E k d p = some r → Calls Tryz.prog 320 #[ptrV K.rb] w (PP K d w r (NewTree w))
  prim : ∀ (K : PK) (p d : Nat) (w : World), Ctx K p d w → d ≤ 40 → ∀ r, primaryP K.L K.E k d p = some r → Calls Tryz.prog 331 #[ptrV K.rb] w (PP K d w r (NewTree w))
  brac : ∀ (K : PK) (p d : Nat) (w : World), Ctx K p d w → d ≤ 40 → ∀ r, bracketsP K.L K.E k d p = some r → Calls Tryz.prog 300 #[ptrV K.rb] w (PP K d w r (NewTree w))
  call : ∀ (K : PK) (t : Tok) (p d : Nat) (w : World), Ctx K p d w → d ≤ 40 → p < K.L.length → ∀ r, callP K.L K.E k t d p = some r → Calls Tryz.prog 346 #[ptrV K.rb, tokV t] w (PP K d w r (NewTree w))

/-- A box: a block that holds the reader's pointer. -/
abbrev Box (K : PK) (w : World) (bx : Nat) : Prop := w.heap[bx]? = some (.cells #[ptrV K.rb] 106 (0, 0))
theorem pbind_some {α β : Type} {x : Option (PR α)} {f : α → Nat → Option (PR β)} {r : PR β} (h : pbind x f = some r) : ∃ y, x = some y ∧ match y with | .err a e => r = .err a e | .ok a p => f a p = some r := by
  cases x with
  | none => cases h
  | some y =>
    cases y with
    | err a e => injection h with h; exact ⟨_, rfl, h.symm⟩
    | ok a p => exact ⟨_, rfl, h⟩

theorem brackets1_any (k : Nat) (ih : EAt k) (K : PK) (p d : Nat) (w : World) (h : Ctx K p d w) (hd : d ≤ 40) (bx : Nat) (hbx : Box K w bx) (hne : bx ≠ K.rb) (hp : p < K.L.length) (r : PR T)
    (hr : pbind (exprP K.L K.E k 1 d (p + 1)) (fun t p => pbind (expectP K.L K.E p xRp) fun _ p => some (.ok t p)) = some r) :
    Calls Tryz.prog 323 #[.pointer (some ⟨bx, 0, none⟩)] w (PP K d w r (NewTree w)) := by
  obtain ⟨y, hy, hr⟩ := pbind_some hr
  have HC := Lib.hid h
  have HE := Lib.hid (fun w1 (hc : Ctx K (p + 1) d w1) => ih.expr K 1 (p + 1) d w1 hc hd (by decide) (by decide) y hy)
  have HB := Lib.hid hbx
  have b0 := cellAt hbx (i := 0) rfl
  have hbl := blkLt hbx
  have hrb := h.lt
  have hB := h.hB
  clear h hbx hy
  go_enter Tryz.func323, Tryz.ntmps323
  go_wp2_with fail
  refine (take_any K p d _ (HC.out.alloc _) hp).mono ?_
  rintro e w1 ⟨rfl, hc1, hm1⟩
  have B1 := hm1.blk (blk_alloc_lt HB.out) hne
  have b1 := cellAt B1 (i := 0) rfl
  have R1 := hm1.blk (blk_alloc _ _) (show w.heap.size ≠ K.rb by omega)
  have hz1 := blkLt R1
  have hM1 : Md K.rb w w1 := ((Md.refl _ _).alloc _).trans hm1
  clear hm1
  unfold tokV
  go_wp2_with fail
  refine (HE.out _ hc1).mono ?_
  rintro e w2 ⟨hm2, hres⟩
  cases y with
  | err a er =>
    subst hr hres
    exact ⟨rfl, hM1.trans hm2, rfl⟩
  | ok t p2 =>
    obtain ⟨v, rfl, ⟨b, rfl, ht⟩, hc2⟩ := hres
    obtain ⟨y3, hy3, hr⟩ := pbind_some hr
    have b2 := cellAt (hm2.blk B1 hne) (i := 0) rfl
    have bl2 := blkLt (hm2.blk B1 hne)
    have R2 := hm2.blk R1 (show w.heap.size ≠ K.rb by omega)
    have hz2 := blkLt R2
    have hM2 := hM1.trans hm2
    clear hm2
    have HE3 := Lib.hid (expect_any K p2 d ⟨#[41]⟩ _ (hc2.alloc (.cells #[ptrV b] 53)) y3 hy3)
    clear hy3
    go_wp2_with fail
    refine HE3.out.mono ?_
    rintro e w3 ⟨hm3, hres⟩
    cases y3 with
    | err a er =>
      subst hr hres
      exact ⟨rfl, (hM2.alloc _).trans hm3, rfl⟩
    | ok t3 p3 =>
      injection hr with hr
      subst hr
      obtain ⟨v, rfl, rfl, hc3⟩ := hres
      have R3 := hm3.blk (blk_alloc_lt (o' := .cells #[ptrV b] 53) R2) (show w.heap.size ≠ K.rb by omega)
      have r3 := cellAt R3 (i := 0) rfl
      have f3 := frozenAt R3
      have hz3 := blkLt R3
      have n3 := cellAt (hm3.blk (blk_alloc w2 (.cells #[ptrV b] 53)) (by omega)) (i := 0) rfl
      have hlt2 := ht.lt
      have HT : Hid (TreeAt w3 (fun k => w.heap.size < k) b t) := Md.tree (ht.al.imp (Y := fun k => w.heap.size < k) (fun k _ hk => by omega)) (fun k hk => by omega) hm3
      clear B1 R1 R2 HE3
      go_wp2_with fail
      refine bodyPost_ret (v := nodeV b) (by simp [results, Tryz.results323, go_sem, r3, hz3]) rfl ⟨?_, _, rfl, ⟨b, rfl, ?_⟩, ?_⟩
      · exact ((hM2.alloc _).trans hm3).setCell (.inl (by simp)) _
      · exact TreeAt.imp (X := fun k => w.heap.size < k) (fun k _ hk => Nat.le_of_lt hk) (by repeat' (first | (with_reducible exact HT.out) | (with_reducible refine TreeAt.al ?_) | (with_reducible refine TreeAt.dr ?_) | (with_reducible refine TreeAt.drN ?_) | (with_reducible refine TreeAt.set ?_ (by intro k hk; (try simp at hk); (try simp); omega))))
      · exact hc3.setNew hB (by simp; omega) _
theorem en_brackets1 : Enters 323 := fun _ _ => by kernel_rfl

theorem deeperP_some {L : List Tok} {E : Int} {d p : Nat} {x : Option (PR T)} {r : PR T} (h : deeperP L E d p x = some r) : (40 < d + 1 ∧ r = .err (nowP L E p).at_ 3) ∨ (d + 1 ≤ 40 ∧ x = some r) := by
  unfold deeperP at h
  split at h
  · injection h with h; exact .inl ⟨by assumption, h.symm⟩
  · exact .inr ⟨by omega, h⟩
theorem brackets_any (k : Nat) (ih : EAt k) (K : PK) (p d : Nat) (w : World) (h : Ctx K p d w) (hd : d ≤ 40) (r : PR T) (hr : bracketsP K.L K.E (k + 1) d p = some r) :
    Calls Tryz.prog 300 #[ptrV K.rb] w (PP K d w r (NewTree w)) := by
  have HC := Lib.hid h
  have hrb := h.lt
  have hB := h.hB
  unfold bracketsP at hr
  have HI := Lib.hid (fun w1 (hc : Ctx K p d w1) => is_any K p d ⟨#[40]⟩ w1 hc)
  clear h
  cases h1 : isP K.L K.E p xLp
  · rw [h1] at hr
    simp only [Bool.false_eq_true, if_false, failP, Option.some.injEq] at hr
    subst hr
    have H1 := Lib.hid h1
    clear h1
    go_enter Tryz.func300, Tryz.ntmps300
    go_wp2_with fail
    refine (HI.out _ ((HC.out.alloc _).alloc _)).mono ?_
    rintro e w1 ⟨rfl, hg1⟩
    rw [show isP K.L K.E p (⟨#[40]⟩ : ByteArray).data.toList = false from H1.out]
    have B1 := hg1.blk (alloc2_fst _ _ _)
    have b1 := cellAt B1 (i := 0) rfl
    have hc1 := ((HC.out.alloc _).alloc _).gr hg1
    go_wp2_with fail
    refine (fail_any K p d w1 hc1).mono ?_
    rintro e w2 ⟨rfl, hg2⟩
    go_wp2_with fail
    exact ⟨rfl, (((Md.refl _ _).alloc _).alloc _).trans ((Md.of_gr hg1).trans (.of_gr hg2)), rfl⟩
  · rw [h1] at hr
    simp only [if_true] at hr
    have hp := isP_lt h1
    have H1 := Lib.hid h1
    have HR := Lib.hid hr
    clear h1 hr
    go_enter Tryz.func300, Tryz.ntmps300
    go_wp2_with fail
    refine (HI.out _ ((HC.out.alloc _).alloc _)).mono ?_
    rintro e w1 ⟨rfl, hg1⟩
    rw [show isP K.L K.E p (⟨#[40]⟩ : ByteArray).data.toList = true from H1.out]
    have B1 := hg1.blk (alloc2_fst _ _ _)
    have R1 := hg1.blk (alloc2_snd _ _ _)
    have b1 := cellAt B1 (i := 0) rfl
    have hz1 := blkLt R1
    have hm1 : Md K.rb w w1 := (((Md.refl _ _).alloc _).alloc _).trans (.of_gr hg1)
    have hc1 := ((HC.out.alloc _).alloc _).gr hg1
    clear hg1
    have HD : Hid (Calls Tryz.prog 210 #[ptrV K.rb, .func (.func 323) #[] #[.pointer (some ⟨w.heap.size, 0, none⟩)]] w1 (PP K d w1 r (NewTree w1))) := by
      rcases deeperP_some HR.out with ⟨hdd, rfl⟩ | ⟨hdd, hx⟩
      · exact deeper_any K p d w1 hc1 hd _ _ _ rfl (.err 0 0) _ (by unfold deeperP; rw [if_pos hdd]) en_brackets1 (fun h => by omega)
      · exact deeper_any K p d w1 hc1 hd _ _ _ rfl r r (by unfold deeperP; rw [if_neg (by omega)]) en_brackets1 (fun h w' hc' hm' =>
          brackets1_any k ih K p (d + 1) w' hc' h _ (hm'.blk B1 (by omega)) (by omega) hp r hx)
    go_wp2_with fail
    refine HD.out.mono ?_
    rintro e w2 ⟨hm2, hres⟩
    cases r with
    | err a er =>
      subst hres
      exact ⟨rfl, hm1.trans hm2, rfl⟩
    | ok t p2 =>
      obtain ⟨v, rfl, ⟨b, rfl, ht⟩, hc2⟩ := hres
      have R2 := hm2.blk R1 (by omega)
      have r2 := cellAt R2 (i := 0) rfl
      have f2 := frozenAt R2
      have hz2 := blkLt R2
      have HT : Hid (TreeAt w2 (fun k => w.heap.size + 1 < k) b t) := ht.imp (fun k _ hk => by omega)
      clear ht HR HD
      go_wp2_with fail
      refine bodyPost_ret (v := nodeV b) (by simp [results, Tryz.results300, go_sem, r2, hz2]) rfl ⟨?_, _, rfl, ⟨b, rfl, ?_⟩, ?_⟩
      · exact (hm1.trans hm2).setCell (.inl (by simp)) _
      · exact TreeAt.imp (X := fun k => w.heap.size + 1 < k) (fun k _ hk => by omega) (by repeat' (first | (with_reducible exact HT.out) | (with_reducible refine TreeAt.al ?_) | (with_reducible refine TreeAt.dr ?_) | (with_reducible refine TreeAt.drN ?_) | (with_reducible refine TreeAt.set ?_ (by intro k hk; (try simp at hk); (try simp); omega))))
      · exact hc2.setNew (by simp; omega) (by simp; omega) _

theorem named_any (k : Nat) (ih : EAt k) (K : PK) (p d : Nat) (w : World) (h : Ctx K p d w) (hd : d ≤ 40) (hk : (nowP K.L K.E p).kind = 1) (r : PR T)
    (hr : (if isP K.L K.E (p + 1) xLp then callP K.L K.E k (nowP K.L K.E p) d (p + 1) else some (.ok (.mk ⟨18, (nowP K.L K.E p).text, [], 0, (nowP K.L K.E p).at_⟩ []) (p + 1))) = some r) :
    Calls Tryz.prog 339 #[ptrV K.rb] w (PP K d w r (NewTree w)) := by
  have HC := Lib.hid h
  have hrb := h.lt
  have hB := h.hB
  have HW : Hid (∀ w1, Ctx K p d w1 → _) := fun w1 (hc : Ctx K p d w1) => word_p K p d w1 hc (.ok (nowP K.L K.E p) (p + 1)) (by unfold wordPP; rw [if_pos hk])
  obtain ⟨⟨tk, tx, at_⟩, hT⟩ : ∃ T, nowP K.L K.E p = T := ⟨_, rfl⟩
  rw [hT] at HW hr
  clear h hk hT
  go_enter Tryz.func339, Tryz.ntmps339
  go_wp2_with fail
  refine (HW.out _ (HC.out.alloc _)).mono ?_
  rintro e w1 ⟨hm1, v, rfl, rfl, hc1⟩
  have R1 := hm1.blk (blk_alloc _ _) (by omega)
  have hz1 := blkLt R1
  have hM1 : Md K.rb w w1 := ((Md.refl _ _).alloc _).trans hm1
  have HI := Lib.hid (is_any K (p + 1) d ⟨#[40]⟩ (w1.alloc (.cells #[.int .i64 tk, .string (S tx), .int .i64 at_] 136)) (hc1.alloc _))
  clear hm1 HW
  unfold tokV
  cases h1 : isP K.L K.E (p + 1) xLp
  · rw [h1] at hr
    simp only [Bool.false_eq_true, if_false, Option.some.injEq] at hr
    subst hr
    have H1 := Lib.hid h1
    clear h1
    go_wp2_with fail
    refine HI.out.mono ?_
    rintro e w2 ⟨rfl, hg2⟩
    rw [show isP K.L K.E (p + 1) (⟨#[40]⟩ : ByteArray).data.toList = false from H1.out]
    have T2 := hg2.blk (blk_alloc _ _)
    obtain ⟨t0, t1, t2⟩ := cells3 T2
    have R2 := hg2.blk (blk_alloc_lt R1)
    have hc2 := (hc1.alloc _).gr hg2
    have hM2 := (hM1.alloc _).trans (.of_gr hg2)
    have ft := frozenAt T2
    clear hg2
    go_wp2_with fail
    refine (node_any 18 ⟨tk, tx, at_⟩ none 0 0 _).mono ?_
    rintro e w3 ⟨b, rfl, hnb, hnd, hng⟩
    have R3 := hng.blk R2
    have hl2 := blkLt R2
    have r3 := cellAt R3 (i := 0) rfl
    have f3 := frozenAt R3
    have hz3 := blkLt R3
    go_wp2_with fail
    refine bodyPost_ret (v := nodeV b) (by simp [results, Tryz.results339, go_sem, r3, hz3]) rfl ⟨?_, _, rfl, ⟨b, rfl, ?_⟩, ?_⟩
    · exact (hM2.trans (.of_gr hng)).setCell (.inl (by simp)) _
    · exact .leaf (by have := blkLt R2; omega) (by repeat' (first | (with_reducible exact hnd) | (with_reducible exact blk_alloc _ _) | (with_reducible refine blk_alloc_lt ?_) | (with_reducible refine blk_drew ?_) | (with_reducible refine blk_drewN ?_) | (with_reducible refine blk_setCell_ne ?_ (by first | omega | (simp; done) | (simp; omega))) | (with_reducible refine blk_setCell_to (cs := ?_) ?_ ?_) | rfl | exact hnd))
    · exact (hc2.gr hng).setNew hB (by simp; omega) _
  · rw [h1] at hr
    simp only [if_true] at hr
    have hp := isP_lt h1
    have H1 := Lib.hid h1
    have HCL := Lib.hid (fun w1 (hc : Ctx K (p + 1) d w1) => ih.call K ⟨tk, tx, at_⟩ (p + 1) d w1 hc hd hp r hr)
    unfold tokV at HCL
    clear h1 hr
    go_wp2_with fail
    refine HI.out.mono ?_
    rintro e w2 ⟨rfl, hg2⟩
    rw [show isP K.L K.E (p + 1) (⟨#[40]⟩ : ByteArray).data.toList = true from H1.out]
    have T2 := hg2.blk (blk_alloc _ _)
    obtain ⟨t0, t1, t2⟩ := cells3 T2
    have R2 := hg2.blk (blk_alloc_lt R1)
    have hc2 := (hc1.alloc _).gr hg2
    have hM2 := (hM1.alloc _).trans (.of_gr hg2)
    have hs2 := hg2.size
    rw [World.size_alloc] at hs2
    clear hg2
    go_wp2_with fail
    refine (HCL.out _ hc2).mono ?_
    rintro e w3 ⟨hm3, hres⟩
    cases r with
    | err a er =>
      subst hres
      exact ⟨rfl, hM2.trans hm3, rfl⟩
    | ok t p2 =>
      obtain ⟨v, rfl, ⟨b, rfl, ht⟩, hc3⟩ := hres
      have R3 := hm3.blk R2 (by omega)
      have r3 := cellAt R3 (i := 0) rfl
      have f3 := frozenAt R3
      have hz3 := blkLt R3
      have HT : Hid (TreeAt w3 (fun k => w.heap.size < k) b t) := ht.imp (fun k _ hk => by omega)
      clear ht
      go_wp2_with fail
      refine bodyPost_ret (v := nodeV b) (by simp [results, Tryz.results339, go_sem, r3, hz3]) rfl ⟨?_, _, rfl, ⟨b, rfl, ?_⟩, ?_⟩
      · exact (hM2.trans hm3).setCell (.inl (by simp)) _
      · exact TreeAt.imp (X := fun k => w.heap.size < k) (fun k _ hk => by omega) (by repeat' (first | (with_reducible exact HT.out) | (with_reducible refine TreeAt.al ?_) | (with_reducible refine TreeAt.dr ?_) | (with_reducible refine TreeAt.drN ?_) | (with_reducible refine TreeAt.set ?_ (by intro k hk; (try simp at hk); (try simp); omega))))
      · exact hc3.setNew hB (by simp; omega) _

end Go.Proofs.YthniejnbkkkbnaaGreatDoor
