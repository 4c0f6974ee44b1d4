/- Walks: IndexFunc over texts, names, words, skip, signs of layer lex. -/
import Derived.Test.YthniejnbkkkbnaaGreatDoorM02
set_option linter.all false
set_option linter.unusedSimpArgs false
set_option linter.unusedVariables false
namespace Go.Proofs.YthniejnbkkkbnaaGreatDoor
open Go.RowKit
set_option maxRecDepth 100000
set_option maxHeartbeats 1000000

theorem idxFn_hit {α : Type} {p : α → Bool} {L : List α} {j : Nat} (hlt : j < L.length) (h : ∀ i (hi : i < L.length), i < j → p L[i] = false) (hj : p L[j] = true) : idxFn p L = j := by
  have : L.findIdx? p = some j := by
    rw [List.findIdx?_eq_some_iff_getElem]
    exact ⟨hlt, hj, fun i hi => by simpa using h i (by omega) hi⟩
  simp [idxFn, this]
theorem idxFn_miss {α : Type} {p : α → Bool} {L : List α} (h : ∀ i (hi : i < L.length), p L[i] = false) : idxFn p L = -1 := by
  have : L.findIdx? p = none := by
    rw [List.findIdx?_eq_none_iff]
    intro y hy
    obtain ⟨i, hi, rfl⟩ := List.getElem_of_mem hy
    exact h i hi
  simp [idxFn, this]

/-- A closed function that a value of one captured cell leads to. -/
def Enters (k : FuncId) : Prop := ∀ (args : Array Value) (w : World), (callFunc k args).run Tryz.prog w = .ok (.enter k args) w

theorem indexFuncStr_any (L : List Str) (A : Option Addr) (n c : Nat) (hn : n = L.length) (X : Nat → Prop) (k : FuncId) (cp : Value) (p : Str → Bool) (w : World) (hr : RowR w X A (strCells L)) (hl : n < 1000000)
    (hk1 : Enters k) (hk2 : ∀ x, x ∈ L → ∀ w', Gr w w' → Calls Tryz.prog k #[.string (S x), cp] w' fun e w'' => e = .returned (.bool (p x)) ∧ Gr w' w'') :
    Calls Tryz.prog 148 #[.slice A n c, .func (.func k) #[] #[cp]] w fun e w' => e = .returned (.int .i64 (idxFn p L)) ∧ Gr w w' := by
  have HN := Lib.hid hn
  have HK := Lib.hid hk2
  have HR := Lib.hid hr
  unfold Enters at hk1
  clear hn hk2 hr
  go_enter Tryz.func148, Tryz.ntmps148
  go_wp2
  go_loopw [5, 8] (fun _ t wr => ∃ j : Nat, j ≤ n ∧ Hid (∀ i (hi : i < L.length), i < j → p L[i] = false) ∧ t = .int .i64 j ∧ Gr w wr) (fun _ t _ => n - (intOf t).toNat)
  case atStart => exact ⟨0, by omega, fun i hi h => by omega, rfl, Gr.refl _⟩
  case round =>
    obtain ⟨j, hj, hall, rfl, hg⟩ := hrel
    by_cases hlt : j < n
    · have hltL : j < L.length := by rw [← HN.out]; exact hlt
      obtain ⟨g, off, rfl, hk, _, hc⟩ := (HR.out.gr hg).open_ (j := j) (by simpa [strCells] using hltL)
      have hcj := hc j (.string (S (L[j]'hltL))) (by simp [strCells, hltL])
      clear hc
      go_wp2_with fail
      refine (HK.out _ (List.getElem_mem hltL) _ hg).mono ?_
      rintro e w' ⟨rfl, hg'⟩
      have hgg := hg.trans hg'
      clear hcj hk
      cases hpj : p (L[j]'hltL)
      · have HP := Lib.hid hpj
        clear hpj
        go_wp2_with fail
        go_roundw
        case rel => exact ⟨j + 1, by omega, fun i hi hij => by { rcases Nat.lt_succ_iff_lt_or_eq.1 hij with h | rfl; exact hall.out i hi h; exact HP.out }, by go_num, hgg⟩
        case measure => simp [intOf]; omega
      · have HP := Lib.hid hpj
        clear hpj
        go_wp2_with fail
        go_ret
        exact ⟨ret_int (idxFn_hit hltL hall.out HP.out).symm, hgg⟩
    · go_wp2_with fail
      go_ret
      exact ⟨ret_int (idxFn_miss fun i hi => hall.out i hi (by have := HN.out; omega)).symm, hg⟩

theorem sign1_any (x l : Str) (b : Nat) (w : World) (hb : w.heap[b]? = some (.cells #[.string (S l)] 9 (0, 0))) :
    Calls Tryz.prog 150 #[.string (S x), .pointer (some ⟨b, 0, none⟩)] w fun e w' => e = .returned (.bool (hasP l x)) ∧ Gr w w' := by
  have hc : w.cell? ⟨b, 0, none⟩ = some (.string (S l)) := cellAt hb rfl
  have hlt := blkLt hb
  clear hb
  go_enter Tryz.func150, Tryz.ntmps150
  go_wp2_with fail
  refine (hasPrefix_any _ _ _).mono ?_
  rintro e w' ⟨rfl, rfl⟩
  go_wp2_with fail
  go_ret
  exact ⟨ret_bool (by rw [data_S, data_S]), Gr.refl _⟩
theorem en_sign1 : Enters 150 := fun _ _ => by kernel_rfl

theorem list_nil_of_isEmpty {s : ByteArray} (h : s.data.toList = []) : s = ⟨#[]⟩ := ba_ext (by rw [h])
theorem isEmpty_cons {s : ByteArray} {a : UInt8} {l : Str} (h : s.data.toList = a :: l) : s.toList.isEmpty = false := by rw [ByteArray.toList_eq, h]; rfl
theorem size_cons {s : ByteArray} {a : UInt8} {l : Str} (h : s.data.toList = a :: l) : 0 < s.size := by rw [← size_list, h]; simp
theorem get0_cons {s : ByteArray} {a : UInt8} {l : Str} (h : s.data.toList = a :: l) (h0 : 0 < s.size) : s[0]'h0 = a := by
  have h1 : s.data.toList[0]'(by rw [h]; simp) = a := by simp only [h, List.getElem_cons_zero]
  rw [← h1]
  rfl

theorem isName_any (s : ByteArray) (hl : s.size < 1000000) (w : World) : Calls Tryz.prog 107 #[.string s] w fun e w' => e = .returned (.bool (isNameP s.data.toList)) ∧ Gr w w' := by
  cases hs : s.data.toList with
  | nil =>
    obtain rfl := list_nil_of_isEmpty hs
    clear hs
    go_enter Tryz.func107, Tryz.ntmps107
    go_wp2
    go_ret
    exact ⟨rfl, Gr.refl _⟩
  | cons a l =>
    have h0 := size_cons hs
    have hne := isEmpty_cons hs
    have hrun := Lib.hid (run_any s _ nameB bf_isName1 hl)
    have hlet : Hid (∀ w, Calls Tryz.prog 88 #[.int .u8 (s[0]'h0).toNat] w fun e w' => e = .returned (.bool (isLetterB a)) ∧ w = w') := fun w => by
      have := isLetter_any (s[0]'h0) w
      rw [get0_cons hs h0] at this ⊢
      exact this
    have HS := Lib.hid hs
    clear hs
    go_enter Tryz.func107, Tryz.ntmps107
    go_wp2_with fail
    refine (hlet.out _).mono ?_
    rintro e w' ⟨rfl, rfl⟩
    cases hla : isLetterB a
    · have HA := Lib.hid hla
      clear hla
      go_wp2_with fail
      go_ret
      exact ⟨ret_bool (by simp [isNameP, HA.out]), Gr.refl _⟩
    · have HA := Lib.hid hla
      clear hla
      go_wp2_with fail
      refine (hrun.out _).mono ?_
      rintro e w' ⟨rfl, rfl⟩
      go_wp2_with fail
      go_ret
      refine ⟨ret_bool ?_, Gr.refl _⟩
      have e1 : s.size = (a :: l).length := by rw [← size_list, HS.out]
      simp only [isNameP, HA.out, e1, HS.out, Bool.true_and]
      rw [Bool.eq_iff_iff]
      simp
      omega
theorem isKey_ba (s : ByteArray) (w : World) : Calls Tryz.prog 108 #[.string s] w fun e w' => e = .returned (.bool (isKeyP s.data.toList)) ∧ Gr w w' := by
  have := isKey_any s.data.toList w
  rw [S_data] at this
  exact this
theorem isWord_any (s : ByteArray) (hl : s.size < 1000000) (w : World) : Calls Tryz.prog 68 #[.string s] w fun e w' => e = .returned (.bool (isWordP s.data.toList)) ∧ Gr w w' := by
  go_enter Tryz.func68, Tryz.ntmps68
  go_wp2_with fail
  refine (isName_any s hl _).mono ?_
  rintro e w' ⟨rfl, hg⟩
  cases h1 : isNameP s.data.toList
  · have H1 := Lib.hid h1
    clear h1
    go_wp2_with fail
    go_ret
    exact ⟨ret_bool (by simp [isWordP, H1.out]), hg⟩
  · have H1 := Lib.hid h1
    clear h1
    by_cases h2 : s.size ≤ 12
    · go_wp2_with fail
      refine (isKey_ba s _).mono ?_
      rintro e w'' ⟨rfl, hg'⟩
      go_wp2_with fail
      go_ret
      exact ⟨ret_bool (by simp [isWordP, H1.out, size_list, h2]), hg.trans hg'⟩
    · go_wp2_with fail
      go_ret
      exact ⟨ret_bool (by have : decide (s.data.toList.length ≤ 12) = false := by { rw [size_list]; simp; omega }; simp only [isWordP, this]; simp), hg⟩

theorem skip_any (s : ByteArray) (hl : s.size < 100000) (w : World) : Calls Tryz.prog 53 #[.string s] w fun e w' => e = .returned (.int .i64 (skipP s.data.toList)) ∧ w = w' := by
  go_enter Tryz.func53, Tryz.ntmps53
  go_wp2
  go_loop [3] (fun t => ∃ j : Nat, j ≤ s.size ∧ t = .int .i64 j ∧ Hid (∃ k, s.size < k + j ∧ skipP s.data.toList = j + skipF k (s.data.toList.drop j))) (fun t => s.size - (intOf t).toNat)
  case atStart => exact ⟨0, by omega, rfl, s.size + 1, by omega, by simp [skipP, size_list]⟩
  case round =>
    obtain ⟨j, hj, rfl, hk⟩ := hrel
    have e1 : (s.extract j s.size).data.toList = s.data.toList.drop j := by
      rw [extract_list, List.take_of_length_le (by simp)]
    have HR1 := Lib.hid (run_any (s.extract j s.size) _ isBlankB bf_blank (by rw [← size_list, e1]; simp; omega))
    rw [e1] at HR1
    obtain ⟨d, hd⟩ : ∃ d, d = s.data.toList.drop j := ⟨_, rfl⟩
    rw [← hd] at HR1
    obtain ⟨a, ha⟩ : ∃ a, a = runP isBlankB d := ⟨_, rfl⟩
    rw [← ha] at HR1
    have had : a ≤ d.length := by rw [ha]; exact runP_le _ _
    have hdl : j + d.length ≤ s.size := by rw [hd]; simp; omega
    obtain ⟨m, hm⟩ : ∃ m : Nat, j + a = m := ⟨_, rfl⟩
    have hmi : (j : Int) + (a : Int) = (m : Int) := by omega
    have hms : m ≤ s.size := by omega
    have hjm : j ≤ m := by omega
    have HD := Lib.hid hd
    have HA := Lib.hid ha
    have HM := Lib.hid hm
    clear hd ha hm e1
    have e2 : (s.extract m s.size).data.toList = d.drop a := by
      rw [extract_list, List.take_of_length_le (by simp), HD.out, List.drop_drop, HM.out]
    have HP := Lib.hid (hasPrefix_any (s.extract m s.size) ⟨#[47, 47]⟩)
    have HR2 := Lib.hid (run_any (s.extract m s.size) _ notNlB bf_skip1 (by rw [← size_list, e2]; simp; omega))
    rw [e2] at HP HR2
    obtain ⟨b, hb⟩ : ∃ b, b = runP notNlB (d.drop a) := ⟨_, rfl⟩
    rw [← hb] at HR2
    have hbd : b ≤ (d.drop a).length := by rw [hb]; exact runP_le _ _
    have hbl : m + b ≤ s.size := by simp at hbd; omega
    obtain ⟨q, hq⟩ : ∃ q : Nat, m + b = q := ⟨_, rfl⟩
    have hqi : (m : Int) + (b : Int) = (q : Int) := by omega
    have hqs : q ≤ s.size := by omega
    have HB := Lib.hid hb
    have HQ := Lib.hid hq
    clear e2 hb hq hbd
    cases hp : hasP (d.drop a) [47, 47]
    · have HPF := Lib.hid hp
      clear hp
      go_wp2_with fail
      refine (HR1.out _).mono ?_
      rintro e w' ⟨rfl, rfl⟩
      go_wp2_with fail
      refine (HP.out _).mono ?_
      rintro e w' ⟨rfl, rfl⟩
      rw [HPF.out]
      go_wp2_with fail
      go_ret
      refine ⟨ret_int ?_, rfl⟩
      obtain ⟨k, hk1, hk2⟩ := hk.out
      obtain ⟨k, rfl⟩ : ∃ k', k = k' + 1 := ⟨k - 1, by omega⟩
      rw [hk2, ← HD.out, skipF, ← HA.out, HPF.out]
      simp
      omega
    · have HPF := Lib.hid hp
      have hb1 : 1 ≤ b := by
        rw [HB.out]
        revert hp
        cases d.drop a with
        | nil => intro hp; simp [hasP] at hp
        | cons x l =>
          intro hp
          have hx : x = 47 := by
            have := beq_iff_eq.1 hp
            simp only [List.length_cons, List.length_nil, List.take_succ_cons] at this
            exact (List.cons.inj this).1
          subst hx
          have h47 : notNlB 47 = true := by decide
          simp [runP, List.takeWhile, h47]
      clear hp
      go_wp2_with fail
      refine (HR1.out _).mono ?_
      rintro e w' ⟨rfl, rfl⟩
      go_wp2_with fail
      refine (HP.out _).mono ?_
      rintro e w' ⟨rfl, rfl⟩
      rw [HPF.out]
      go_wp2_with fail
      refine (HR2.out _).mono ?_
      rintro e w' ⟨rfl, rfl⟩
      go_wp2_with fail
      go_round
      case rel =>
        refine ⟨q, hqs, rfl, ?_⟩
        obtain ⟨k, hk1, hk2⟩ := hk.out
        obtain ⟨k, rfl⟩ : ∃ k', k = k' + 1 := ⟨k - 1, by omega⟩
        refine ⟨k, by have := HQ.out; have := HM.out; omega, ?_⟩
        rw [hk2, ← HD.out, skipF, ← HA.out, HPF.out, ← HB.out]
        simp only [if_true]
        rw [← HQ.out, ← HM.out, HD.out, List.drop_drop, List.drop_drop]
        have e3 : j + (a + b) = j + a + b := by omega
        rw [e3]
        omega
      case measure => simp [intOf]; have := HQ.out; have := HM.out; omega

def tokV (t : Tok) : Value := .agg #[.int .i64 t.kind, .string (S t.text), .int .i64 t.at_]

theorem word_any (s : ByteArray) (hl : s.size < 100000) (w : World) : Calls Tryz.prog 89 #[.string s] w fun e w' => e = .returned (.tuple #[tokV (wordP s.data.toList).1, .int .i64 (wordP s.data.toList).2]) ∧ Gr w w' := by
  have HR := Lib.hid (run_any s _ nameB bf_word1 (by omega))
  obtain ⟨n, hn⟩ : ∃ n, n = runP nameB s.data.toList := ⟨_, rfl⟩
  rw [← hn] at HR
  have hns : n ≤ s.size := by rw [hn, ← size_list]; exact runP_le _ _
  have HN := Lib.hid hn
  clear hn
  have HK := Lib.hid (isKey_ba (s.extract 0 n))
  have ex : (s.extract 0 n).data.toList = s.data.toList.take n := by rw [extract_list]; simp
  rw [ex] at HK
  have esz : (s.extract 0 n).size = n := by rw [← size_list, ex]; simp; omega
  have EX : Hid (s.extract 0 n = S (s.data.toList.take n)) := ba_ext (by rw [ex, data_S])
  clear ex
  go_enter Tryz.func89, Tryz.ntmps89
  go_wp2_with fail
  refine (HR.out _).mono ?_
  rintro e w' ⟨rfl, rfl⟩
  go_wp2_with fail
  refine (HK.out _).mono ?_
  rintro e w' ⟨rfl, hg⟩
  have B1 := hg.blk (alloc2_fst _ _ _)
  have B2 := hg.blk (alloc2_snd _ _ _)
  obtain ⟨a0, a1, a2⟩ := cells3 B1
  obtain ⟨b0, b1, b2⟩ := cells3 B2
  have fa := frozenAt B1
  have fb := frozenAt B2
  have hz := hg.size
  simp only [World.size_alloc] at hz
  have hz1 : w.heap.size + 1 < w'.heap.size := by omega
  clear B1 B2
  have hgw : Gr w w' := ((Gr.al _ _).alloc _).trans hg
  cases hk : isKeyP (s.data.toList.take n)
  · have HKP := Lib.hid hk
    clear hk
    by_cases h12 : 12 < n
    · go_wp2_with fail
      refine bodyPost_ret (v := .tuple #[.agg #[.int .i64 1, .string (s.extract 0 n), .int .i64 0], .int .i64 4]) (by simp [results, Tryz.results89, go_sem, a0, a1, a2]) rfl ⟨?_, ?_⟩
      · simp [wordP, tokV, ← HN.out, HKP.out, EX.out, h12, hns, size_list]
      · exact (((hgw.setCell (Nat.le_refl _) _).setCell (Nat.le_refl _) _).setCell (Nat.le_refl _) _)
    · go_wp2_with fail
      refine bodyPost_ret (v := .tuple #[.agg #[.int .i64 1, .string (s.extract 0 n), .int .i64 0], .int .i64 0]) (by simp [results, Tryz.results89, go_sem, a0, a1, a2]) rfl ⟨?_, ?_⟩
      · simp [wordP, tokV, ← HN.out, HKP.out, EX.out, h12, hns, size_list]
      · exact (((hgw.setCell (Nat.le_refl _) _).setCell (Nat.le_refl _) _).setCell (Nat.le_refl _) _)
  · have HKP := Lib.hid hk
    clear hk
    by_cases h12 : 12 < n
    · go_wp2_with fail
      refine bodyPost_ret (v := .tuple #[.agg #[.int .i64 2, .string (s.extract 0 n), .int .i64 0], .int .i64 4]) (by simp [results, Tryz.results89, go_sem, a0, a1, a2]) rfl ⟨?_, ?_⟩
      · simp [wordP, tokV, ← HN.out, HKP.out, EX.out, h12, hns, size_list]
      · exact ((((hgw.setCell (by simp) _).setCell (Nat.le_refl _) _).setCell (Nat.le_refl _) _).setCell (Nat.le_refl _) _)
    · go_wp2_with fail
      refine bodyPost_ret (v := .tuple #[.agg #[.int .i64 2, .string (s.extract 0 n), .int .i64 0], .int .i64 0]) (by simp [results, Tryz.results89, go_sem, a0, a1, a2]) rfl ⟨?_, ?_⟩
      · simp [wordP, tokV, ← HN.out, HKP.out, EX.out, h12, hns, size_list]
      · exact ((((hgw.setCell (by simp) _).setCell (Nat.le_refl _) _).setCell (Nat.le_refl _) _).setCell (Nat.le_refl _) _)
end Go.Proofs.YthniejnbkkkbnaaGreatDoor
