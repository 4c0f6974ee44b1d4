/- Walks of layer parse: what stands for itself. -/
import Derived.Test.YthniejnbkkkbnaaGreatDoorM30
set_option linter.all false
set_option linter.unusedSimpArgs false
set_option linter.unusedVariables false
namespace Go.Proofs.YthniejnbkkkbnaaGreatDoor
open Go.RowKit
set_option maxRecDepth 100000
set_option maxHeartbeats 1000000
attribute [local go_sem ↓] Go.wp_at_zero Go.wp_at_succ

theorem primary_num (K : PK) (p d : Nat) (w : World) (h : Ctx K p d w) (hd : d ≤ 40) (tx : Str) (at_ : Int) (hT : nowP K.L K.E p = ⟨3, tx, at_⟩) :
    Calls Tryz.prog 331 #[ptrV K.rb] w (PP K d w (.ok (numberT ⟨3, tx, at_⟩) (p + 1)) (NewTree w)) := by
  have hf := run_field_tok0
  have HC := Lib.hid h
  have hrb := h.lt
  have hB := h.hB
  have HN := Lib.hid (fun w1 (hc : Ctx K p d w1) => now_any K p d w1 hc)
  have hp : p < K.L.length := kind_lt (E := K.E) (by rw [hT]; simp)
  have hnm := h.nm p (by rw [hT])
  have HTA := Lib.hid (fun w1 (hc : Ctx K p d w1) => take_any K p d w1 hc hp)
  rw [hT] at hnm HTA HN
  have HP := Lib.hid (fun w1 (hc : Ctx K (p + 1) d w1) => pnumber_any ⟨3, tx, at_⟩ hnm.1 hnm.2.1 hnm.2.2 w1 hc.gl)
  unfold tokV at HTA HP HN
  generalize numberT ⟨3, tx, at_⟩ = nt at HP ⊢
  clear h hT hnm
  go_enter Tryz.func331, Tryz.ntmps331
  go_wp2_with fail
  refine (HN.out _ (HC.out.alloc _)).mono ?_
  rintro e w1 ⟨rfl, hg1⟩
  have R1 := hg1.blk (blk_alloc _ _)
  have hc1 := (HC.out.alloc _).gr hg1
  have hM1 : Md K.rb w w1 := ((Md.refl _ _).alloc _).trans (.of_gr hg1)
  clear hg1
  go_wp2_with fail
  refine (HTA.out _ hc1).mono ?_
  rintro e w2 ⟨rfl, hc2, hm2⟩
  have R2 := hm2.blk R1 (by omega)
  have hl2 := blkLt R2
  have hM2 := hM1.trans hm2
  go_wp2_with fail
  refine (HP.out _ hc2).mono ?_
  rintro e w3 ⟨b, rfl, ht, hg3⟩
  have R3 := hg3.blk R2
  have r3 := cellAt R3 (i := 0) rfl
  have f3 := frozenAt R3
  have hz3 := blkLt R3
  have HT : Hid (TreeAt w3 (fun k => w.heap.size < k) b nt) := ht.imp (fun k _ hk => by omega)
  clear ht
  go_wp2_with fail
  refine bodyPost_ret (v := nodeV b) (by simp [results, Tryz.results331, go_sem, r3, hz3]) rfl ⟨?_, _, rfl, ⟨b, rfl, ?_⟩, ?_⟩
  · exact (hM2.trans (.of_gr hg3)).setCell (.inl (by simp)) _
  · exact TreeAt.imp (X := fun k => w.heap.size < k) (fun k _ hk => by omega) (by repeat' (first | (with_reducible exact HT.out) | (with_reducible refine TreeAt.al ?_) | (with_reducible refine TreeAt.dr ?_) | (with_reducible refine TreeAt.drN ?_) | (with_reducible refine TreeAt.set ?_ (by intro k hk; (try simp at hk); (try simp); omega))))
  · exact (hc2.gr hg3).setNew hB (by simp; omega) _

theorem primary_word (k : Nat) (ih : EAt k) (K : PK) (p d : Nat) (w : World) (h : Ctx K p d w) (hd : d ≤ 40) (tx : Str) (at_ : Int) (hT : nowP K.L K.E p = ⟨1, tx, at_⟩) (r : PR T)
    (hr : (if isP K.L K.E (p + 1) xLp then callP K.L K.E k ⟨1, tx, at_⟩ d (p + 1) else some (.ok (.mk ⟨18, tx, [], 0, at_⟩ []) (p + 1))) = some r) :
    Calls Tryz.prog 331 #[ptrV K.rb] w (PP K d w r (NewTree w)) := by
  have hf := run_field_tok0
  have HC := Lib.hid h
  have hrb := h.lt
  have hB := h.hB
  have HN := Lib.hid (fun w1 (hc : Ctx K p d w1) => now_any K p d w1 hc)
  rw [hT] at HN
  have HNM := Lib.hid (fun w1 (hc : Ctx K p d w1) => named_any k ih K p d w1 hc hd (by rw [hT]) r (by rw [hT]; exact hr))
  unfold tokV at HN
  clear h hT hr
  go_enter Tryz.func331, Tryz.ntmps331
  go_wp2_with fail
  refine (HN.out _ (HC.out.alloc _)).mono ?_
  rintro e w1 ⟨rfl, hg1⟩
  have R1 := hg1.blk (blk_alloc _ _)
  have hc1 := (HC.out.alloc _).gr hg1
  have hM1 : Md K.rb w w1 := ((Md.refl _ _).alloc _).trans (.of_gr hg1)
  clear hg1
  go_wp2_with fail
  refine (HN.out _ hc1).mono ?_
  rintro e w2 ⟨rfl, hg2⟩
  have R2 := hg2.blk R1
  have hl2 := blkLt R2
  have hc2 := hc1.gr hg2
  have hM2 := hM1.trans (.of_gr hg2)
  clear hg2
  go_wp2_with fail
  refine (HNM.out _ hc2).mono ?_
  rintro e w3 ⟨hm3, hres⟩
  cases r with
  | err a er =>
    subst hres
    exact ⟨rfl, hM2.trans hm3, rfl⟩
  | ok t p2 =>
    obtain ⟨v, rfl, ⟨b, rfl, ht⟩, hc3⟩ := hres
    have R3 := hm3.blk R2 (by omega)
    have r3 := cellAt R3 (i := 0) rfl
    have f3 := frozenAt R3
    have hz3 := blkLt R3
    have HT : Hid (TreeAt w3 (fun k => w.heap.size < k) b t) := ht.imp (fun k _ hk => by omega)
    clear ht
    go_wp2_with fail
    refine bodyPost_ret (v := nodeV b) (by simp [results, Tryz.results331, go_sem, r3, hz3]) rfl ⟨?_, _, rfl, ⟨b, rfl, ?_⟩, ?_⟩
    · exact (hM2.trans hm3).setCell (.inl (by simp)) _
    · exact TreeAt.imp (X := fun k => w.heap.size < k) (fun k _ hk => by omega) (by repeat' (first | (with_reducible exact HT.out) | (with_reducible refine TreeAt.al ?_) | (with_reducible refine TreeAt.dr ?_) | (with_reducible refine TreeAt.drN ?_) | (with_reducible refine TreeAt.set ?_ (by intro k hk; (try simp at hk); (try simp); omega))))
    · exact hc3.setNew hB (by simp; omega) _

theorem primary_rest (k : Nat) (ih : EAt k) (K : PK) (p d : Nat) (w : World) (h : Ctx K p d w) (hd : d ≤ 40) (tk : Int) (tx : Str) (at_ : Int) (hT : nowP K.L K.E p = ⟨tk, tx, at_⟩) (hk3 : ¬ tk = 3) (hk1 : ¬ tk = 1) (r : PR T)
    (hr : (if isP K.L K.E p xLp then bracketsP K.L K.E k d p else if isP K.L K.E p xNil || isP K.L K.E p xTrue || isP K.L K.E p xFalse || isP K.L K.E p xNew || isP K.L K.E p xRead then keyP K.L K.E p else failP K.L K.E p) = some r) :
    Calls Tryz.prog 331 #[ptrV K.rb] w (PP K d w r (NewTree w)) := by
  have hf := run_field_tok0
  have HC := Lib.hid h
  have hrb := h.lt
  have hB := h.hB
  have HN := Lib.hid (fun w1 (hc : Ctx K p d w1) => now_any K p d w1 hc)
  rw [hT] at HN
  have HI := Lib.hid (fun (x : ByteArray) w1 (hc : Ctx K p d w1) => is_any K p d x w1 hc)
  unfold tokV at HN
  cases h1 : isP K.L K.E p xLp
  · rw [h1] at hr
    simp only [Bool.false_eq_true, if_false] at hr
    have H1 : Hid (isP K.L K.E p (⟨#[40]⟩ : ByteArray).data.toList = false) := h1
    have HKEY : Hid (p < K.L.length → ∀ r', keyP K.L K.E p = some r' → ∀ w1, Ctx K p d w1 → Calls Tryz.prog 340 #[ptrV K.rb] w1 (PP K d w1 r' (NewTree w1))) := fun hp r' hr' w1 hc => key_any K p d w1 hc hp r' hr'
    have HR := Lib.hid hr
    clear h1 hr
    go_enter Tryz.func331, Tryz.ntmps331
    clear h hT
    go_wp2_with fail
    refine (HN.out _ (HC.out.alloc _)).mono ?_
    rintro e w1 ⟨rfl, hg1⟩
    have R1 := hg1.blk (blk_alloc _ _)
    have hc1 := (HC.out.alloc _).gr hg1
    have hM1 : Md K.rb w w1 := ((Md.refl _ _).alloc _).trans (.of_gr hg1)
    clear hg1
    go_wp2_with fail
    refine (HN.out _ hc1).mono ?_
    rintro e w2 ⟨rfl, hg2⟩
    have R2 := hg2.blk R1
    have hc2 := hc1.gr hg2
    have hM2 := hM1.trans (.of_gr hg2)
    clear hg2
    go_wp2_with fail
    refine (HI.out _ _ hc2).mono ?_
    rintro e w3 ⟨rfl, hg3⟩
    rw [H1.out]
    have R3 := hg3.blk R2
    have hl3 := blkLt R3
    have hc3 := hc2.gr hg3
    have hM3 := hM2.trans (.of_gr hg3)
    clear hg3
    go_wp2_with fail
    refine (HI.out _ _ hc3).mono ?_
    rintro e w4 ⟨rfl, hg4⟩
    have R4 := hg4.blk R3
    have hc4 := hc3.gr hg4
    have hM4 := hM3.trans (.of_gr hg4)
    clear hg4
    cases hi4 : isP K.L K.E p (⟨#[110, 105, 108]⟩ : ByteArray).data.toList
    rotate_left
    · have hp := isP_lt hi4
      have HK2 := Lib.hid (HKEY.out hp r (by have := HR.out; rwa [show (isP K.L K.E p xNil || isP K.L K.E p xTrue || isP K.L K.E p xFalse || isP K.L K.E p xNew || isP K.L K.E p xRead) = true from by have t : isP K.L K.E p xNil = true := hi4; simp [t], if_pos rfl] at this))
      have R2 := R4
      have hM2 := hM4
      have hl2 := blkLt R2
      have hc2 := hc4
      go_wp2_with fail
      refine (HK2.out _ hc2).mono ?_
      rintro e wk ⟨hm3, hres⟩
      cases r with
      | err a er =>
        subst hres
        exact ⟨rfl, hM2.trans hm3, rfl⟩
      | ok t p2 =>
        obtain ⟨v, rfl, ⟨b, rfl, ht⟩, hc3⟩ := hres
        have R3 := hm3.blk R2 (by omega)
        have r3 := cellAt R3 (i := 0) rfl
        have f3 := frozenAt R3
        have hz3 := blkLt R3
        have HT : Hid (TreeAt wk (fun k => w.heap.size < k) b t) := ht.imp (fun k _ hk => by omega)
        clear ht
        go_wp2_with fail
        refine bodyPost_ret (v := nodeV b) (by simp [results, Tryz.results331, go_sem, r3, hz3]) rfl ⟨?_, _, rfl, ⟨b, rfl, ?_⟩, ?_⟩
        · exact (hM2.trans hm3).setCell (.inl (by simp)) _
        · exact TreeAt.imp (X := fun k => w.heap.size < k) (fun k _ hk => by omega) (by repeat' (first | (with_reducible exact HT.out) | (with_reducible refine TreeAt.al ?_) | (with_reducible refine TreeAt.dr ?_) | (with_reducible refine TreeAt.drN ?_) | (with_reducible refine TreeAt.set ?_ (by intro k hk; (try simp at hk); (try simp); omega))))
        · exact hc3.setNew hB (by simp; omega) _
    have F4 : Hid (isP K.L K.E p xNil = false) := hi4
    clear hi4
    go_wp2_with fail
    refine (HI.out _ _ hc4).mono ?_
    rintro e w5 ⟨rfl, hg5⟩
    have R5 := hg5.blk R4
    have hc5 := hc4.gr hg5
    have hM5 := hM4.trans (.of_gr hg5)
    clear hg5
    cases hi5 : isP K.L K.E p (⟨#[116, 114, 117, 101]⟩ : ByteArray).data.toList
    rotate_left
    · have hp := isP_lt hi5
      have HK2 := Lib.hid (HKEY.out hp r (by have := HR.out; rwa [show (isP K.L K.E p xNil || isP K.L K.E p xTrue || isP K.L K.E p xFalse || isP K.L K.E p xNew || isP K.L K.E p xRead) = true from by have t : isP K.L K.E p xTrue = true := hi5; simp [t], if_pos rfl] at this))
      have R2 := R5
      have hM2 := hM5
      have hl2 := blkLt R2
      have hc2 := hc5
      go_wp2_with fail
      refine (HK2.out _ hc2).mono ?_
      rintro e wk ⟨hm3, hres⟩
      cases r with
      | err a er =>
        subst hres
        exact ⟨rfl, hM2.trans hm3, rfl⟩
      | ok t p2 =>
        obtain ⟨v, rfl, ⟨b, rfl, ht⟩, hc3⟩ := hres
        have R3 := hm3.blk R2 (by omega)
        have r3 := cellAt R3 (i := 0) rfl
        have f3 := frozenAt R3
        have hz3 := blkLt R3
        have HT : Hid (TreeAt wk (fun k => w.heap.size < k) b t) := ht.imp (fun k _ hk => by omega)
        clear ht
        go_wp2_with fail
        refine bodyPost_ret (v := nodeV b) (by simp [results, Tryz.results331, go_sem, r3, hz3]) rfl ⟨?_, _, rfl, ⟨b, rfl, ?_⟩, ?_⟩
        · exact (hM2.trans hm3).setCell (.inl (by simp)) _
        · exact TreeAt.imp (X := fun k => w.heap.size < k) (fun k _ hk => by omega) (by repeat' (first | (with_reducible exact HT.out) | (with_reducible refine TreeAt.al ?_) | (with_reducible refine TreeAt.dr ?_) | (with_reducible refine TreeAt.drN ?_) | (with_reducible refine TreeAt.set ?_ (by intro k hk; (try simp at hk); (try simp); omega))))
        · exact hc3.setNew hB (by simp; omega) _
    have F5 : Hid (isP K.L K.E p xTrue = false) := hi5
    clear hi5
    go_wp2_with fail
    refine (HI.out _ _ hc5).mono ?_
    rintro e w6 ⟨rfl, hg6⟩
    have R6 := hg6.blk R5
    have hc6 := hc5.gr hg6
    have hM6 := hM5.trans (.of_gr hg6)
    clear hg6
    cases hi6 : isP K.L K.E p (⟨#[102, 97, 108, 115, 101]⟩ : ByteArray).data.toList
    rotate_left
    · have hp := isP_lt hi6
      have HK2 := Lib.hid (HKEY.out hp r (by have := HR.out; rwa [show (isP K.L K.E p xNil || isP K.L K.E p xTrue || isP K.L K.E p xFalse || isP K.L K.E p xNew || isP K.L K.E p xRead) = true from by have t : isP K.L K.E p xFalse = true := hi6; simp [t], if_pos rfl] at this))
      have R2 := R6
      have hM2 := hM6
      have hl2 := blkLt R2
      have hc2 := hc6
      go_wp2_with fail
      refine (HK2.out _ hc2).mono ?_
      rintro e wk ⟨hm3, hres⟩
      cases r with
      | err a er =>
        subst hres
        exact ⟨rfl, hM2.trans hm3, rfl⟩
      | ok t p2 =>
        obtain ⟨v, rfl, ⟨b, rfl, ht⟩, hc3⟩ := hres
        have R3 := hm3.blk R2 (by omega)
        have r3 := cellAt R3 (i := 0) rfl
        have f3 := frozenAt R3
        have hz3 := blkLt R3
        have HT : Hid (TreeAt wk (fun k => w.heap.size < k) b t) := ht.imp (fun k _ hk => by omega)
        clear ht
        go_wp2_with fail
        refine bodyPost_ret (v := nodeV b) (by simp [results, Tryz.results331, go_sem, r3, hz3]) rfl ⟨?_, _, rfl, ⟨b, rfl, ?_⟩, ?_⟩
        · exact (hM2.trans hm3).setCell (.inl (by simp)) _
        · exact TreeAt.imp (X := fun k => w.heap.size < k) (fun k _ hk => by omega) (by repeat' (first | (with_reducible exact HT.out) | (with_reducible refine TreeAt.al ?_) | (with_reducible refine TreeAt.dr ?_) | (with_reducible refine TreeAt.drN ?_) | (with_reducible refine TreeAt.set ?_ (by intro k hk; (try simp at hk); (try simp); omega))))
        · exact hc3.setNew hB (by simp; omega) _
    have F6 : Hid (isP K.L K.E p xFalse = false) := hi6
    clear hi6
    go_wp2_with fail
    refine (HI.out _ _ hc6).mono ?_
    rintro e w7 ⟨rfl, hg7⟩
    have R7 := hg7.blk R6
    have hc7 := hc6.gr hg7
    have hM7 := hM6.trans (.of_gr hg7)
    clear hg7
    cases hi7 : isP K.L K.E p (⟨#[110, 101, 119]⟩ : ByteArray).data.toList
    rotate_left
    · have hp := isP_lt hi7
      have HK2 := Lib.hid (HKEY.out hp r (by have := HR.out; rwa [show (isP K.L K.E p xNil || isP K.L K.E p xTrue || isP K.L K.E p xFalse || isP K.L K.E p xNew || isP K.L K.E p xRead) = true from by have t : isP K.L K.E p xNew = true := hi7; simp [t], if_pos rfl] at this))
      have R2 := R7
      have hM2 := hM7
      have hl2 := blkLt R2
      have hc2 := hc7
      go_wp2_with fail
      refine (HK2.out _ hc2).mono ?_
      rintro e wk ⟨hm3, hres⟩
      cases r with
      | err a er =>
        subst hres
        exact ⟨rfl, hM2.trans hm3, rfl⟩
      | ok t p2 =>
        obtain ⟨v, rfl, ⟨b, rfl, ht⟩, hc3⟩ := hres
        have R3 := hm3.blk R2 (by omega)
        have r3 := cellAt R3 (i := 0) rfl
        have f3 := frozenAt R3
        have hz3 := blkLt R3
        have HT : Hid (TreeAt wk (fun k => w.heap.size < k) b t) := ht.imp (fun k _ hk => by omega)
        clear ht
        go_wp2_with fail
        refine bodyPost_ret (v := nodeV b) (by simp [results, Tryz.results331, go_sem, r3, hz3]) rfl ⟨?_, _, rfl, ⟨b, rfl, ?_⟩, ?_⟩
        · exact (hM2.trans hm3).setCell (.inl (by simp)) _
        · exact TreeAt.imp (X := fun k => w.heap.size < k) (fun k _ hk => by omega) (by repeat' (first | (with_reducible exact HT.out) | (with_reducible refine TreeAt.al ?_) | (with_reducible refine TreeAt.dr ?_) | (with_reducible refine TreeAt.drN ?_) | (with_reducible refine TreeAt.set ?_ (by intro k hk; (try simp at hk); (try simp); omega))))
        · exact hc3.setNew hB (by simp; omega) _
    have F7 : Hid (isP K.L K.E p xNew = false) := hi7
    clear hi7
    go_wp2_with fail
    refine (HI.out _ _ hc7).mono ?_
    rintro e w8 ⟨rfl, hg8⟩
    have R8 := hg8.blk R7
    have hc8 := hc7.gr hg8
    have hM8 := hM7.trans (.of_gr hg8)
    clear hg8
    cases hi8 : isP K.L K.E p (⟨#[114, 101, 97, 100]⟩ : ByteArray).data.toList
    rotate_left
    · have hp := isP_lt hi8
      have HK2 := Lib.hid (HKEY.out hp r (by have := HR.out; rwa [show (isP K.L K.E p xNil || isP K.L K.E p xTrue || isP K.L K.E p xFalse || isP K.L K.E p xNew || isP K.L K.E p xRead) = true from by have t : isP K.L K.E p xRead = true := hi8; simp [t], if_pos rfl] at this))
      have R2 := R8
      have hM2 := hM8
      have hl2 := blkLt R2
      have hc2 := hc8
      go_wp2_with fail
      refine (HK2.out _ hc2).mono ?_
      rintro e wk ⟨hm3, hres⟩
      cases r with
      | err a er =>
        subst hres
        exact ⟨rfl, hM2.trans hm3, rfl⟩
      | ok t p2 =>
        obtain ⟨v, rfl, ⟨b, rfl, ht⟩, hc3⟩ := hres
        have R3 := hm3.blk R2 (by omega)
        have r3 := cellAt R3 (i := 0) rfl
        have f3 := frozenAt R3
        have hz3 := blkLt R3
        have HT : Hid (TreeAt wk (fun k => w.heap.size < k) b t) := ht.imp (fun k _ hk => by omega)
        clear ht
        go_wp2_with fail
        refine bodyPost_ret (v := nodeV b) (by simp [results, Tryz.results331, go_sem, r3, hz3]) rfl ⟨?_, _, rfl, ⟨b, rfl, ?_⟩, ?_⟩
        · exact (hM2.trans hm3).setCell (.inl (by simp)) _
        · exact TreeAt.imp (X := fun k => w.heap.size < k) (fun k _ hk => by omega) (by repeat' (first | (with_reducible exact HT.out) | (with_reducible refine TreeAt.al ?_) | (with_reducible refine TreeAt.dr ?_) | (with_reducible refine TreeAt.drN ?_) | (with_reducible refine TreeAt.set ?_ (by intro k hk; (try simp at hk); (try simp); omega))))
        · exact hc3.setNew hB (by simp; omega) _
    have F8 : Hid (isP K.L K.E p xRead = false) := hi8
    clear hi8
    go_wp2_with fail
    have hre := HR.out
    rw [F4.out, F5.out, F6.out, F7.out, F8.out] at hre
    simp only [Bool.or_false, Bool.false_eq_true, if_false, failP, Option.some.injEq] at hre
    subst hre
    refine (fail_any K p d w8 hc8).mono ?_
    rintro e w9 ⟨rfl, hg9⟩
    go_wp2_with fail
    exact ⟨rfl, hM8.trans (.of_gr hg9), rfl⟩
  · rw [h1] at hr
    simp only [if_true] at hr
    have H1 : Hid (isP K.L K.E p (⟨#[40]⟩ : ByteArray).data.toList = true) := h1
    have HBR := Lib.hid (fun w1 (hc : Ctx K p d w1) => ih.brac K p d w1 hc hd r hr)
    clear h hT hr h1
    go_enter Tryz.func331, Tryz.ntmps331
    go_wp2_with fail
    refine (HN.out _ (HC.out.alloc _)).mono ?_
    rintro e w1 ⟨rfl, hg1⟩
    have R1 := hg1.blk (blk_alloc _ _)
    have hc1 := (HC.out.alloc _).gr hg1
    have hM1 : Md K.rb w w1 := ((Md.refl _ _).alloc _).trans (.of_gr hg1)
    clear hg1
    go_wp2_with fail
    refine (HN.out _ hc1).mono ?_
    rintro e w1' ⟨rfl, hg2⟩
    have R1' := hg2.blk R1
    have hc1' := hc1.gr hg2
    have hM1' := hM1.trans (.of_gr hg2)
    clear hg2
    go_wp2_with fail
    refine (HI.out _ _ hc1').mono ?_
    rintro e w2 ⟨rfl, hg2⟩
    rw [H1.out]
    have R2 := hg2.blk R1'
    have hl2 := blkLt R2
    have hc2 := hc1'.gr hg2
    have hM2 := hM1'.trans (.of_gr hg2)
    clear hg2
    go_wp2_with fail
    refine (HBR.out _ hc2).mono ?_
    rintro e w3 ⟨hm3, hres⟩
    cases r with
    | err a er =>
      subst hres
      exact ⟨rfl, hM2.trans hm3, rfl⟩
    | ok t p2 =>
      obtain ⟨v, rfl, ⟨b, rfl, ht⟩, hc3⟩ := hres
      have R3 := hm3.blk R2 (by omega)
      have r3 := cellAt R3 (i := 0) rfl
      have f3 := frozenAt R3
      have hz3 := blkLt R3
      have HT : Hid (TreeAt w3 (fun k => w.heap.size < k) b t) := ht.imp (fun k _ hk => by omega)
      clear ht
      go_wp2_with fail
      refine bodyPost_ret (v := nodeV b) (by simp [results, Tryz.results331, go_sem, r3, hz3]) rfl ⟨?_, _, rfl, ⟨b, rfl, ?_⟩, ?_⟩
      · exact (hM2.trans hm3).setCell (.inl (by simp)) _
      · exact TreeAt.imp (X := fun k => w.heap.size < k) (fun k _ hk => by omega) (by repeat' (first | (with_reducible exact HT.out) | (with_reducible refine TreeAt.al ?_) | (with_reducible refine TreeAt.dr ?_) | (with_reducible refine TreeAt.drN ?_) | (with_reducible refine TreeAt.set ?_ (by intro k hk; (try simp at hk); (try simp); omega))))
      · exact hc3.setNew hB (by simp; omega) _

theorem primary_any (k : Nat) (ih : EAt k) (K : PK) (p d : Nat) (w : World) (h : Ctx K p d w) (hd : d ≤ 40) (r : PR T) (hr : primaryP K.L K.E (k + 1) d p = some r) :
    Calls Tryz.prog 331 #[ptrV K.rb] w (PP K d w r (NewTree w)) := by
  obtain ⟨T, hT⟩ : ∃ T, nowP K.L K.E p = T := ⟨_, rfl⟩
  obtain ⟨tk, tx, at_⟩ := T
  unfold primaryP at hr
  rw [hT] at hr
  simp only [] at hr
  by_cases hk3 : tk = 3
  · rw [if_pos hk3] at hr
    injection hr with hr
    subst hr hk3
    exact primary_num K p d w h hd tx at_ hT
  · rw [if_neg hk3] at hr
    by_cases hk1 : tk = 1
    · rw [if_pos hk1] at hr
      subst hk1
      exact primary_word k ih K p d w h hd tx at_ hT r hr
    · rw [if_neg hk1] at hr
      exact primary_rest k ih K p d w h hd tk tx at_ hT hk3 hk1 r hr
end Go.Proofs.YthniejnbkkkbnaaGreatDoor
