/- num.Parse of a text of digits: what it comes to, and its walk. Walks: number, sign, next, Scan of layer lex. -/
import Derived.Test.YthniejnbkkkbnaaGreatDoorM03
import Derived.Test.YthniejnbkkkbnaaGreatDoorM04
import Derived.Shelf.Strings.SlTrimAscii
set_option linter.all false
set_option linter.unusedSimpArgs false
set_option linter.unusedVariables false
namespace Go.Proofs.YthniejnbkkkbnaaGreatDoor
open Go.RowKit
set_option maxRecDepth 100000
set_option maxHeartbeats 1000000

/-- What the walks ask of the package-level variables: strconv.ErrRange holds an interface value. -/
def Glob (w : World) : Prop := ∃ t fr te pe, w.heap[1]? = some (.cells #[.iface te pe] t fr)
theorem Glob.gr {w w' : World} (h : Glob w) (hg : Gr w w') : Glob w' := by
  obtain ⟨t, fr, te, pe, hb⟩ := h
  exact ⟨t, fr, te, pe, hg.blk hb⟩

def dvN (acc : Nat) (l : Str) : Nat := l.foldl (fun n b => n * 10 + (b.toNat - 48)) acc
theorem dvN_ge : ∀ (l : Str) (acc : Nat), acc ≤ dvN acc l
  | [], acc => Nat.le_refl _
  | b :: l, acc => by
    have := dvN_ge l (acc * 10 + (b.toNat - 48))
    simp only [dvN, List.foldl_cons] at *
    omega
theorem parse_digits : ∀ (l : Str) (acc : Nat), acc < 18446744073709551616 → l.all isDigitB = true →
    Lib.parseUint10 acc l = if dvN acc l < 18446744073709551616 then .ok (dvN acc l) else .range
  | [], acc, ha, _ => by simp [Lib.parseUint10, dvN, ha]
  | b :: l, acc, ha, h => by
    simp only [List.all_cons, Bool.and_eq_true] at h
    have hb : 48 ≤ b.toNat ∧ b.toNat ≤ 57 := by
      have := h.1
      simp only [isDigitB, Bool.and_eq_true, decide_eq_true_eq] at this
      omega
    have e : dvN acc (b :: l) = dvN (acc * 10 + (b.toNat - 48)) l := rfl
    have hge := dvN_ge l (acc * 10 + (b.toNat - 48))
    rw [Lib.parseUint10, if_pos hb, e]
    by_cases h1 : 1844674407370955162 ≤ acc
    · rw [if_pos h1, if_neg (by omega)]
    · rw [if_neg h1]
      by_cases h2 : 18446744073709551616 ≤ acc * 10 + (b.toNat - 48)
      · rw [if_pos h2, if_neg (by omega)]
      · rw [if_neg h2]
        exact parse_digits l _ (by omega) h.2
theorem dvN_int : ∀ (l : Str) (acc : Nat), l.all isDigitB = true → (dvN acc l : Int) = l.foldl (fun n b => n * 10 + ((b.toNat : Int) - 48)) (acc : Int)
  | [], acc, _ => rfl
  | b :: l, acc, h => by
    simp only [List.all_cons, Bool.and_eq_true] at h
    have hb : 48 ≤ b.toNat := by
      have := h.1
      simp only [isDigitB, Bool.and_eq_true, decide_eq_true_eq] at this
      omega
    have := dvN_int l (acc * 10 + (b.toNat - 48)) h.2
    simp only [dvN, List.foldl_cons] at *
    rw [this]
    congr 1
    omega
theorem atoi_digits (a : UInt8) (l : Str) (h : (a :: l).all isDigitB = true) :
    Lib.atoiAll (a :: l) = if digitsVal (a :: l) ≤ 9223372036854775807 then .ok (digitsVal (a :: l)) else .range := by
  have ha : 48 ≤ a.toNat ∧ a.toNat ≤ 57 := by
    simp only [List.all_cons, Bool.and_eq_true] at h
    have := h.1
    simp only [isDigitB, Bool.and_eq_true, decide_eq_true_eq] at this
    omega
  have hd : digitsVal (a :: l) = (dvN 0 (a :: l) : Int) := by rw [dvN_int _ _ h]; rfl
  have hp := parse_digits (a :: l) 0 (by omega) h
  unfold Lib.atoiAll
  simp only []
  rw [if_neg (by omega)]
  unfold Lib.parseMag
  rw [if_neg (by simp), hp, hd]
  generalize dvN 0 (a :: l) = v
  by_cases h1 : v < 18446744073709551616
  · rw [if_pos h1]
    simp only []
    by_cases h2 : 9223372036854775808 ≤ v
    · rw [if_pos ⟨by omega, h2⟩, if_neg (by omega)]
    · rw [if_neg (by omega), if_neg (by omega), if_neg (by omega : ¬ (a.toNat = 45)), if_pos (by omega)]
  · rw [if_neg h1, if_neg (by omega)]

theorem trim_digits (l : Str) (h : l.all isDigitB = true) : Lib.trimS l [48, 49, 50, 51, 52, 53, 54, 55, 56, 57] = [] := by
  have key : ∀ b : UInt8, isDigitB b = true → [(48 : UInt8), 49, 50, 51, 52, 53, 54, 55, 56, 57].contains b = true := by
    intro b hb
    simp only [isDigitB, Bool.and_eq_true, decide_eq_true_eq] at hb
    have : b.toNat = 48 ∨ b.toNat = 49 ∨ b.toNat = 50 ∨ b.toNat = 51 ∨ b.toNat = 52 ∨ b.toNat = 53 ∨ b.toNat = 54 ∨ b.toNat = 55 ∨ b.toNat = 56 ∨ b.toNat = 57 := by omega
    have e : b = UInt8.ofNat b.toNat := by simp
    rcases this with h | h | h | h | h | h | h | h | h | h <;> (rw [e, h]; decide)
  have hr : Lib.trimRightS l [48, 49, 50, 51, 52, 53, 54, 55, 56, 57] = [] := by
    unfold Lib.trimRightS
    have : l.reverse.dropWhile (fun x => [(48 : UInt8), 49, 50, 51, 52, 53, 54, 55, 56, 57].contains x) = [] := by
      have hall : ∀ x ∈ l.reverse, [(48 : UInt8), 49, 50, 51, 52, 53, 54, 55, 56, 57].contains x = true := fun x hx => key x (List.all_eq_true.1 h x (by simpa using hx))
      generalize l.reverse = m at hall ⊢
      induction m with
      | nil => rfl
      | cons x m ih => rw [List.dropWhile_cons_of_pos (hall x (by simp))]; exact ih fun y hy => hall y (by simp [hy])
    rw [this]; rfl
  rw [Lib.trimS, hr]; rfl

theorem digits48 (a : UInt8) : (((a.toNat : Int) != 48) = (a != 48)) := by
  rw [Bool.eq_iff_iff]
  simp only [bne_iff_ne, ne_eq]
  constructor
  · intro h e; subst e; exact h rfl
  · intro h e
    have h' : a.toNat = 48 := by omega
    exact h (UInt8.toNat_inj.1 h')

theorem isDigits_any (s : ByteArray) (a : UInt8) (l : Str) (hs : s.data.toList = a :: l) (hd : s.data.toList.all isDigitB = true) (hl : s.size ≤ 4096) (w : World) :
    Calls Tryz.prog 207 #[.string s] w fun e w' => e = .returned (.bool (isDigitsP (a :: l))) ∧ Gr w w' := by
  have hne := isEmpty_cons hs
  have h0 := size_cons hs
  have HT : Hid (∀ w, Calls Tryz.prog 253 #[.string s, .string ⟨#[48, 49, 50, 51, 52, 53, 54, 55, 56, 57]⟩] w fun e w' => e = .returned (.string ⟨#[]⟩) ∧ Gr w w') := fun w => by
    have h := Any.strings_Trim_laid Tryz.lays160 (by kernel_rfl) s ⟨#[48, 49, 50, 51, 52, 53, 54, 55, 56, 57]⟩ w (by omega) (by decide) (ascii_of_all (by decide))
    change Calls Tryz.prog 253 _ _ _ at h
    refine h.mono ?_
    rintro e w' ⟨rfl, hb⟩
    refine ⟨?_, hb⟩
    have e1 : Lib.trimS s.data.toList (⟨#[48, 49, 50, 51, 52, 53, 54, 55, 56, 57]⟩ : ByteArray).data.toList = [] := trim_digits _ hd
    rw [e1]
  have HS := Lib.hid hs
  have HD := Lib.hid hd
  have ea : ((s[0]'h0).toNat : Int) = (a.toNat : Int) := by rw [get0_cons hs h0]
  clear hs hd
  by_cases h48 : (a.toNat : Int) = 48
  · have h1 : ((a.toNat : Int) != 48) = false := by simp [h48]
    have H48 := Lib.hid h48
    have h2 : (s.toList == [(48 : UInt8)]) = (a :: l == [48]) := by rw [ByteArray.toList_eq, HS.out]
    have HP : Hid (isDigitsP (a :: l) = (a :: l == [48])) := by
      show isDigitsP (a :: l) = (a :: l == [48])
      have := HD.out
      rw [HS.out] at this
      simp only [isDigitsP, this, h1, Bool.true_and, Bool.false_or]
    clear h48
    go_enter Tryz.func207, Tryz.ntmps207
    go_wp2_with fail
    refine (HT.out _).mono ?_
    rintro e w' ⟨rfl, hg⟩
    go_wp2_with fail
    go_ret
    refine ⟨ret_bool ?_, hg⟩
    rw [HP.out]
    simp [List.isEmpty_iff]
  · have h1 : ((a.toNat : Int) != 48) = true := by simp [h48]
    have HP : Hid (isDigitsP (a :: l) = true) := by
      show isDigitsP (a :: l) = true
      have := HD.out
      rw [HS.out] at this
      simp only [isDigitsP, this, h1, Bool.true_and, Bool.true_or]
    clear h48
    go_enter Tryz.func207, Tryz.ntmps207
    go_wp2_with fail
    refine (HT.out _).mono ?_
    rintro e w' ⟨rfl, hg⟩
    go_wp2_with fail
    go_ret
    refine ⟨ret_bool ?_, hg⟩
    rw [HP.out]

theorem numParse_any (s : ByteArray) (hne : s.data.toList ≠ []) (hd : s.data.toList.all isDigitB = true) (hl : s.size ≤ 4096) (w : World) (hG : Glob w) :
    Calls Tryz.prog 147 #[.string s] w fun e w' => e = .returned (.tuple #[.int .i64 (numParseU s.data.toList).1, .int .i64 (numParseU s.data.toList).2]) ∧ Gr w w' := by
  obtain ⟨a, l, hs⟩ : ∃ a l, s.data.toList = a :: l := by
    cases h : s.data.toList with
    | nil => exact absurd h hne
    | cons a l => exact ⟨a, l, rfl⟩
  have hda : isDigitB a = true := by rw [hs] at hd; simp only [List.all_cons, Bool.and_eq_true] at hd; exact hd.1
  have HTP : Hid (∀ w, Calls Tryz.prog 206 #[.string s, .string ⟨#[45]⟩] w fun e w' => e = .returned (.string s) ∧ w = w') := fun w => by
    refine (Tryz.strings_TrimPrefix s ⟨#[45]⟩ w).mono ?_
    rintro e w' ⟨rfl, rfl⟩
    refine ⟨?_, rfl⟩
    have e1 : Lib.trimPrefix s.data.toList (⟨#[45]⟩ : ByteArray).data.toList = s.data.toList := by
      have : Lib.hasPrefix s.data.toList [45] = false := by
        rw [hs]
        unfold Lib.hasPrefix
        have : ((45 : UInt8) == a) = false := by
          rw [beq_eq_false_iff_ne]
          intro e; subst e; revert hda; decide
        simp [List.isPrefixOf, this]
      unfold Lib.trimPrefix
      rw [show (⟨#[45]⟩ : ByteArray).data.toList = [45] from rfl, this]
      rfl
    rw [e1]
  have HID := Lib.hid (isDigits_any s a l hs hd hl)
  have hat := atoi_digits a l (by rw [← hs]; exact hd)
  rw [← hs] at hat
  have hm0 : (s.toList == [(45 : UInt8), 48]) = false := by
    rw [ByteArray.toList_eq, hs, beq_eq_false_iff_ne]
    intro e
    have := (List.cons.inj e).1
    subst this
    exact absurd hda (by decide)
  have HS := Lib.hid hs
  obtain ⟨t, fr, te, pe, hb⟩ := hG
  have hcell : w.cell? ⟨1, 0, none⟩ = some (.iface te pe) := cellAt hb rfl
  cases hdg : isDigitsP (a :: l)
  · have HDG := Lib.hid hdg
    clear hdg hs hd hne hat hcell hb
    go_enter Tryz.func147, Tryz.ntmps147
    go_wp2_with fail
    refine (HTP.out _).mono ?_
    rintro e w' ⟨rfl, rfl⟩
    go_wp2_with fail
    refine (HID.out _).mono ?_
    rintro e w' ⟨rfl, hg⟩
    rw [HDG.out]
    go_wp2_with fail
    go_ret2
    refine ⟨?_, hg⟩
    rw [HS.out]
    simp [numParseU, HDG.out]
  · have HDG := Lib.hid hdg
    by_cases hr : digitsVal s.data.toList ≤ 9223372036854775807
    · rw [if_pos hr] at hat
      have HAT := Lib.hid (Tryz.strconv_Atoi_ok s (by omega) _ hat)
      have HR := Lib.hid hr
      clear hdg hs hd hne hat hcell hb hr
      go_enter Tryz.func147, Tryz.ntmps147
      go_wp2_with fail
      refine (HTP.out _).mono ?_
      rintro e w' ⟨rfl, rfl⟩
      go_wp2_with fail
      refine (HID.out _).mono ?_
      rintro e w' ⟨rfl, hg⟩
      rw [HDG.out]
      go_wp2_with fail
      refine (HAT.out _).mono ?_
      rintro e w2 ⟨rfl, hw2⟩
      have hg2 : Gr w' w2 := by
        rcases hw2 with rfl | ⟨t, rfl⟩
        · exact Gr.refl _
        · exact Lib.bytesWorld_below _ _ _
      clear hw2
      go_wp2_with fail
      go_ret2
      refine ⟨?_, hg.trans hg2⟩
      rw [HS.out]
      have := HR.out
      rw [HS.out] at this
      simp [numParseU, HDG.out, this]
    · rw [if_neg hr] at hat
      have HAT := Lib.hid (fun w => Tryz.strconv_Atoi_range s (by omega) hat (.iface te pe) w)
      have HR := Lib.hid hr
      have HB := Lib.hid hb
      clear hdg hs hd hne hat hcell hb hr
      go_enter Tryz.func147, Tryz.ntmps147
      go_wp2_with fail
      refine (HTP.out _).mono ?_
      rintro e w' ⟨rfl, rfl⟩
      go_wp2_with fail
      refine (HID.out _).mono ?_
      rintro e w' ⟨rfl, hg⟩
      rw [HDG.out]
      go_wp2_with fail
      refine (HAT.out _ (cellAt (hg.blk HB.out) rfl) (.inr ⟨te, pe, rfl⟩)).mono ?_
      rintro e w2 ⟨N, rfl, _, _, hg2⟩
      go_wp2_with fail
      go_ret2
      refine ⟨?_, hg.trans hg2⟩
      rw [HS.out]
      have h3 : ¬ digitsVal (a :: l) ≤ 9223372036854775807 := by rw [← HS.out]; exact Int.not_le.2 HR.out
      unfold numParseU
      rw [if_pos HDG.out, if_neg h3]
      rfl
end Go.Proofs.YthniejnbkkkbnaaGreatDoor

namespace Go.Proofs.YthniejnbkkkbnaaGreatDoor
open Go.RowKit
set_option maxRecDepth 100000
set_option maxHeartbeats 1000000

theorem runP_all (p : UInt8 → Bool) (l : Str) : (l.take (runP p l)).all p = true := by
  unfold runP
  induction l with
  | nil => rfl
  | cons a l ih =>
    cases h : p a
    · simp [List.takeWhile, h]
    · simp [List.takeWhile, h, ih]

theorem number_any (s : ByteArray) (a : UInt8) (l : Str) (hs : s.data.toList = a :: l) (ha : isDigitB a = true) (hl : s.size ≤ 4096) (w : World) (hG : Glob w) :
    Calls Tryz.prog 91 #[.string s] w fun e w' => e = .returned (.tuple #[tokV (numberP s.data.toList).1, .int .i64 (numberP s.data.toList).2]) ∧ Gr w w' := by
  have HR := Lib.hid (run_any s _ isDigitB bf_digit (by omega))
  obtain ⟨n, hn⟩ : ∃ n, n = runP isDigitB s.data.toList := ⟨_, rfl⟩
  rw [← hn] at HR
  have hns : n ≤ s.size := by rw [hn, ← size_list]; exact runP_le _ _
  have hn1 : 1 ≤ n := by rw [hn, hs]; simp [runP, List.takeWhile, ha]
  have ex : (s.extract 0 n).data.toList = s.data.toList.take n := by rw [extract_list]; simp
  have esz : (s.extract 0 n).size = n := by rw [← size_list, ex]; simp; omega
  have HK : Hid (∀ w, Glob w → Calls Tryz.prog 147 #[.string (s.extract 0 n)] w fun e w' => e = .returned (.tuple #[.int .i64 (numParseU (s.data.toList.take n)).1, .int .i64 (numParseU (s.data.toList.take n)).2]) ∧ Gr w w') := fun w hG => by
    rw [← ex]
    exact numParse_any (s.extract 0 n) (by rw [ex]; intro e; have := congrArg List.length e; simp at this; have : s.size = 0 ∨ n = 0 := this.symm.imp (fun h => by rw [← size_list, h]; rfl) id; omega) (by rw [ex, hn]; exact runP_all _ _) (by omega) w hG
  have EX : Hid (s.extract 0 n = S (s.data.toList.take n)) := ba_ext (by rw [ex, data_S])
  have HN := Lib.hid hn
  have HG := Lib.hid hG
  clear hn ex hs hG esz
  by_cases hlt : n < s.size
  · obtain ⟨c, hc⟩ : ∃ c, c = s[n]'hlt := ⟨_, rfl⟩
    have hcl : s.data.toList[n]? = some c := by rw [hc, List.getElem?_eq_getElem (by simpa using hlt)]; rfl
    have HL := Lib.hid (isLetter_any (s[n]'hlt))
    rw [← hc] at HL
    have hcc : ((s[n]'hlt).toNat : Int) = (c.toNat : Int) := by rw [hc]
    have HCL := Lib.hid hcl
    clear hc hcl
    cases hlet : isLetterB c
    · have HLT := Lib.hid hlet
      clear hlet
      go_enter Tryz.func91, Tryz.ntmps91
      go_wp2_with fail
      refine (HR.out _).mono ?_
      rintro e w' ⟨rfl, rfl⟩
      go_wp2_with fail
      refine (HL.out _).mono ?_
      rintro e w' ⟨rfl, rfl⟩
      rw [HLT.out]
      go_wp2_with fail
      refine (HK.out _ ((HG.out).gr ((Gr.al _ _).alloc _))).mono ?_
      rintro e w' ⟨rfl, hg⟩
      have B1 := hg.blk (alloc2_fst _ _ _)
      have B2 := hg.blk (alloc2_snd _ _ _)
      obtain ⟨a0, a1, a2⟩ := cells3 B1
      obtain ⟨b0, b1, b2⟩ := cells3 B2
      have fa := frozenAt B1
      have fb := frozenAt B2
      have hgw : Gr w w' := ((Gr.al _ _).alloc _).trans hg
      clear B1 B2
      go_wp2_with fail
      refine bodyPost_ret (v := .tuple #[.agg #[.int .i64 3, .string (s.extract 0 n), .int .i64 0], .int .i64 (numParseU (s.data.toList.take n)).2]) (by simp [results, Tryz.results91, go_sem, a0, a1, a2]) rfl ⟨?_, ?_⟩
      · simp [numberP, tokV, ← HN.out, HCL.out, HLT.out, EX.out]
      · exact (((hgw.setCell (Nat.le_refl _) _).setCell (Nat.le_refl _) _).setCell (Nat.le_refl _) _)
    · have HLT := Lib.hid hlet
      clear hlet
      go_enter Tryz.func91, Tryz.ntmps91
      go_wp2_with fail
      refine (HR.out _).mono ?_
      rintro e w' ⟨rfl, rfl⟩
      go_wp2_with fail
      refine (HL.out _).mono ?_
      rintro e w' ⟨rfl, rfl⟩
      rw [HLT.out]
      go_wp2_with fail
      refine bodyPost_ret (v := .tuple #[.agg #[.int .i64 3, .string (s.extract 0 n), .int .i64 0], .int .i64 1]) (by simp [results, Tryz.results91, go_sem]) rfl ⟨?_, ?_⟩
      · simp [numberP, tokV, ← HN.out, HCL.out, HLT.out, EX.out]
      · exact (Gr.al _ _).alloc _
  · have hcl : s.data.toList[n]? = none := by rw [List.getElem?_eq_none_iff, size_list]; omega
    have HCL := Lib.hid hcl
    clear hcl
    go_enter Tryz.func91, Tryz.ntmps91
    go_wp2_with fail
    refine (HR.out _).mono ?_
    rintro e w' ⟨rfl, rfl⟩
    go_wp2_with fail
    refine (HK.out _ ((HG.out).gr ((Gr.al _ _).alloc _))).mono ?_
    rintro e w' ⟨rfl, hg⟩
    have B1 := hg.blk (alloc2_fst _ _ _)
    have B2 := hg.blk (alloc2_snd _ _ _)
    obtain ⟨a0, a1, a2⟩ := cells3 B1
    obtain ⟨b0, b1, b2⟩ := cells3 B2
    have fa := frozenAt B1
    have fb := frozenAt B2
    have hgw : Gr w w' := ((Gr.al _ _).alloc _).trans hg
    clear B1 B2
    go_wp2_with fail
    refine bodyPost_ret (v := .tuple #[.agg #[.int .i64 3, .string (s.extract 0 n), .int .i64 0], .int .i64 (numParseU (s.data.toList.take n)).2]) (by simp [results, Tryz.results91, go_sem, a0, a1, a2]) rfl ⟨?_, ?_⟩
    · simp [numberP, tokV, ← HN.out, HCL.out, EX.out]
    · exact (((hgw.setCell (Nat.le_refl _) _).setCell (Nat.le_refl _) _).setCell (Nat.le_refl _) _)

theorem idxFn_find {α : Type} (p : α → Bool) (L : List α) : (idxFn p L = -1 ∧ L.find? p = none) ∨ ∃ i, ∃ (hi : i < L.length), idxFn p L = (i : Int) ∧ L.find? p = some L[i] := by
  unfold idxFn
  cases h : L.findIdx? p with
  | none =>
    rw [List.findIdx?_eq_none_iff] at h
    exact .inl ⟨rfl, List.find?_eq_none.2 fun x hx => by simp [h x hx]⟩
  | some i =>
    rw [List.findIdx?_eq_some_iff_getElem] at h
    obtain ⟨hi, hp, hlt⟩ := h
    refine .inr ⟨i, hi, rfl, ?_⟩
    rw [List.find?_eq_some_iff_getElem]
    exact ⟨hp, i, hi, rfl, fun j hj => by simpa using hlt j hj⟩

theorem strCells_get (L : List Str) (i : Nat) (hi : i < L.length) : (strCells L)[i]? = some (.string (S L[i])) := by simp [strCells, hi]
theorem sign_any (s : ByteArray) (w : World) :
    Calls Tryz.prog 92 #[.string s] w fun e w' => e = .returned (.tuple #[tokV (signP s.data.toList).1, .int .i64 (signP s.data.toList).2]) ∧ Gr w w' := by
  have HI := Lib.hid (idxFn_find (fun x => hasP s.data.toList x) signList)
  obtain ⟨r, hr⟩ : ∃ r, r = idxFn (fun x => hasP s.data.toList x) signList := ⟨_, rfl⟩
  have HRR := Lib.hid hr
  rcases HI.out with ⟨h1, h2⟩ | ⟨i, hi, h1, h2⟩
  all_goals
    rw [← hr] at h1
    have H2 := Lib.hid h2
    clear h2 hr HI
    obtain rfl := h1
    go_enter Tryz.func92, Tryz.ntmps92
    go_wp2_with fail
    refine (signs_any _).mono ?_
    rintro e w' ⟨A, rfl, hrow, hg⟩
    have HB1 := Lib.hid (hg.blk (alloc2_fst _ _ _))
    have HROW := Lib.hid hrow
    have HG := Lib.hid hg
    clear hrow hg
    go_wp2_with fail
    refine (indexFuncStr_any signList A 28 28 rfl _ _ _ (fun x => hasP s.data.toList x) _ HROW.out (by decide) en_sign1 (fun x _ w'' hg' => sign1_any x s.data.toList _ _ (by rw [S_data]; exact hg'.blk HB1.out))).mono ?_
    rintro e w2 ⟨rfl, hg2⟩
    rw [← HRR.out]
    have B1 := hg2.blk (HG.out.blk (alloc2_fst _ _ _))
    have B2 := hg2.blk (HG.out.blk (alloc2_snd _ _ _))
    have hgw : Gr w w2 := (((Gr.al _ _).alloc _).trans HG.out).trans hg2
  · obtain ⟨a0, a1, a2⟩ := cells3 B2
    have fa := frozenAt B2
    have HB := Lib.hid B1
    clear B1 B2 hg2
    go_wp2_with fail
    refine bodyPost_ret (v := .tuple #[.agg #[.int .i64 0, .string ⟨#[]⟩, .int .i64 0], .int .i64 1]) (by simp [results, Tryz.results92, go_sem, a0, a1, a2]) rfl ⟨?_, ?_⟩
    · simp only [signP, H2.out]; rfl
    · exact (((hgw.setCell (by simp) _).setCell (by simp) _).setCell (by simp) _)
  · have HB := Lib.hid B1
    have HB2 := Lib.hid B2
    clear B1 B2 hg2
    go_wp2_with fail
    refine (signs_any _).mono ?_
    rintro e w3 ⟨A2, rfl, hrow2, hg3⟩
    have B2 := hg3.blk HB2.out
    obtain ⟨a0, a1, a2⟩ := cells3 B2
    have fa := frozenAt B2
    have hgw2 := hgw.trans hg3
    have hi28 : i < 28 := hi
    obtain ⟨k, off, rfl, hk, _, hc⟩ := hrow2.open_ (j := i) hi
    have hci0 := hc i (.string (S signList[i])) (strCells_get signList i hi)
    obtain ⟨x, hx⟩ : ∃ x, signList[i] = x := ⟨_, rfl⟩
    have H3 : Hid (List.find? (fun x => hasP s.data.toList x) signList = some x) := by rw [← hx]; exact H2.out
    have hci : w3.cell? ⟨k, off + i, none⟩ = some (.string (S x)) := by rw [← hx]; exact hci0
    clear hc hci0 hx H2 B2 hg3 hrow2
    go_wp2_with fail
    refine bodyPost_ret (v := .tuple #[.agg #[.int .i64 4, .string (S x), .int .i64 0], .int .i64 0]) (by simp [results, Tryz.results92, go_sem, a0, a1, a2]) rfl ⟨?_, ?_⟩
    · simp only [signP, H3.out]; rfl
    · exact (((hgw2.setCell (by simp) _).setCell (by simp) _).setCell (by simp) _)

theorem next_any (s : ByteArray) (a : UInt8) (l : Str) (hs : s.data.toList = a :: l) (hl : s.size ≤ 4096) (w : World) (hG : Glob w) :
    Calls Tryz.prog 54 #[.string s] w fun e w' => e = .returned (.tuple #[tokV (nextP s.data.toList).1, .int .i64 (nextP s.data.toList).2]) ∧ Gr w w' := by
  have h0 := size_cons hs
  have HL := Lib.hid (isLetter_any (s[0]'h0))
  have HD := Lib.hid (isDigit_any (s[0]'h0))
  rw [get0_cons hs h0] at HL HD
  have e0 : ((s[0]'h0).toNat : Int) = (a.toNat : Int) := by rw [get0_cons hs h0]
  have HG := Lib.hid hG
  have HS := Lib.hid hs
  clear hG hs
  cases h1 : isLetterB a
  · have H1 := Lib.hid h1
    clear h1
    cases h2 : isDigitB a
    · have H2 := Lib.hid h2
      clear h2
      have hn : nextP s.data.toList = signP s.data.toList := by rw [HS.out]; simp [nextP, H1.out, H2.out]
      rw [hn]
      clear hn
      go_enter Tryz.func54, Tryz.ntmps54
      go_wp2_with fail
      refine (HL.out _).mono ?_
      rintro e w' ⟨rfl, rfl⟩
      rw [H1.out]
      go_wp2_with fail
      refine (HD.out _).mono ?_
      rintro e w' ⟨rfl, rfl⟩
      rw [H2.out]
      go_wp2_with fail
      refine (sign_any _ _).mono ?_
      rintro e w' ⟨rfl, hg⟩
      have B1 := hg.blk (blk_alloc _ _)
      obtain ⟨a0, a1, a2⟩ := cells3 B1
      have fa := frozenAt B1
      have hgw : Gr w w' := (Gr.al _ _).trans hg
      clear B1 hg
      obtain ⟨⟨⟨k, tx, at_⟩, er⟩, hr⟩ : ∃ r, signP s.data.toList = r := ⟨_, rfl⟩
      rw [hr]
      have HRQ := Lib.hid hr
      clear hr
      unfold tokV
      go_wp2_with fail
      refine bodyPost_ret (v := .tuple #[.agg #[.int .i64 k, .string (S tx), .int .i64 at_], .int .i64 er]) (by simp [results, Tryz.results54, go_sem, a0, a1, a2]) rfl ⟨by rw [HRQ.out]; rfl, ?_⟩
      exact (((hgw.setCell (by simp) _).setCell (by simp) _).setCell (by simp) _)
    · have H2 := Lib.hid h2
      have HNU : Hid (∀ w, Glob w → Calls Tryz.prog 91 #[.string s] w fun e w' => e = .returned (.tuple #[tokV (numberP s.data.toList).1, .int .i64 (numberP s.data.toList).2]) ∧ Gr w w') := fun w hG => number_any s a l HS.out h2 hl w hG
      clear h2
      have hn : nextP s.data.toList = numberP s.data.toList := by rw [HS.out]; simp [nextP, H1.out, H2.out]
      rw [hn]
      clear hn
      go_enter Tryz.func54, Tryz.ntmps54
      go_wp2_with fail
      refine (HL.out _).mono ?_
      rintro e w' ⟨rfl, rfl⟩
      rw [H1.out]
      go_wp2_with fail
      refine (HD.out _).mono ?_
      rintro e w' ⟨rfl, rfl⟩
      rw [H2.out]
      go_wp2_with fail
      refine (HNU.out _ (HG.out.gr (Gr.al _ _))).mono ?_
      rintro e w' ⟨rfl, hg⟩
      have B1 := hg.blk (blk_alloc _ _)
      obtain ⟨a0, a1, a2⟩ := cells3 B1
      have fa := frozenAt B1
      have hgw : Gr w w' := (Gr.al _ _).trans hg
      clear B1 hg HNU
      obtain ⟨⟨⟨k, tx, at_⟩, er⟩, hr⟩ : ∃ r, numberP s.data.toList = r := ⟨_, rfl⟩
      rw [hr]
      have HRQ := Lib.hid hr
      clear hr
      unfold tokV
      go_wp2_with fail
      refine bodyPost_ret (v := .tuple #[.agg #[.int .i64 k, .string (S tx), .int .i64 at_], .int .i64 er]) (by simp [results, Tryz.results54, go_sem, a0, a1, a2]) rfl ⟨by rw [HRQ.out]; rfl, ?_⟩
      exact (((hgw.setCell (by simp) _).setCell (by simp) _).setCell (by simp) _)
  · have H1 := Lib.hid h1
    clear h1
    have hn : nextP s.data.toList = wordP s.data.toList := by rw [HS.out]; simp [nextP, H1.out]
    rw [hn]
    clear hn
    go_enter Tryz.func54, Tryz.ntmps54
    go_wp2_with fail
    refine (HL.out _).mono ?_
    rintro e w' ⟨rfl, rfl⟩
    rw [H1.out]
    go_wp2_with fail
    refine (word_any _ (by omega) _).mono ?_
    rintro e w' ⟨rfl, hg⟩
    have B1 := hg.blk (blk_alloc _ _)
    obtain ⟨a0, a1, a2⟩ := cells3 B1
    have fa := frozenAt B1
    have hgw : Gr w w' := (Gr.al _ _).trans hg
    clear B1 hg
    obtain ⟨⟨⟨k, tx, at_⟩, er⟩, hr⟩ : ∃ r, wordP s.data.toList = r := ⟨_, rfl⟩
    rw [hr]
    have HRQ := Lib.hid hr
    clear hr
    unfold tokV
    go_wp2_with fail
    refine bodyPost_ret (v := .tuple #[.agg #[.int .i64 k, .string (S tx), .int .i64 at_], .int .i64 er]) (by simp [results, Tryz.results54, go_sem, a0, a1, a2]) rfl ⟨by rw [HRQ.out]; rfl, ?_⟩
    exact (((hgw.setCell (by simp) _).setCell (by simp) _).setCell (by simp) _)
end Go.Proofs.YthniejnbkkkbnaaGreatDoor
