/- Trees in memory, and the walks of parse.Node's methods. Walks: the byte tests, run, keys, Index, Contains, HasPrefix of layer lex. -/
import Derived.Test.YthniejnbkkkbnaaGreatDoorM01
set_option linter.all false
set_option linter.unusedSimpArgs false
set_option linter.unusedVariables false
namespace Go.Proofs.YthniejnbkkkbnaaGreatDoor
open Go.RowKit
set_option maxRecDepth 100000
set_option maxHeartbeats 1000000

abbrev ptrV (b : Nat) : Value := .pointer (some ⟨b, 0, none⟩)
abbrev nodeV (b : Nat) : Value := .agg #[.pointer (some ⟨b, 0, none⟩)]
abbrev nilV : Value := .agg #[.pointer none]

inductive TreeAt (w : World) (X : Nat → Prop) : Nat → T → Prop
  | mk {b : Nat} {d : D} {kids : List T} {A : Option Addr} {c : Nat} {bs : List Nat} (hX : X b)
      (hb : w.heap[b]? = some (.cells #[.int .i64 d.op, .string (S d.name), .string (S d.typ), .int .i64 d.n, .int .i64 d.at_, .slice A kids.length c] 96 (0, 0)))
      (hr : RowR w X A (bs.map ptrV)) (hl : bs.length = kids.length)
      (hk : ∀ (i b' : Nat) (t : T), bs[i]? = some b' → kids[i]? = some t → TreeAt w X b' t) : TreeAt w X b (.mk d kids)

theorem TreeAt.frame {w w' : World} {X : Nat → Prop} (hf : ∀ k, X k → k < w.heap.size → w'.heap[k]? = w.heap[k]?) {b : Nat} {t : T} (h : TreeAt w X b t) : TreeAt w' X b t := by
  induction h with
  | mk hX hb hr hl hk ih => exact .mk hX (by rw [hf _ hX (blkLt hb)]; exact hb) (hr.frame hf) hl ih
theorem TreeAt.gr {w w' : World} {X : Nat → Prop} {b : Nat} {t : T} (h : TreeAt w X b t) (hg : Gr w w') : TreeAt w' X b t := h.frame fun k _ hk => hg.block k hk
theorem TreeAt.imp {w : World} {X Y : Nat → Prop} (hXY : ∀ k, k < w.heap.size → X k → Y k) {b : Nat} {t : T} (h : TreeAt w X b t) : TreeAt w Y b t := by
  induction h with
  | mk hX hb hr hl hk ih => exact .mk (hXY _ (blkLt hb) hX) hb (hr.imp hXY) hl ih
theorem TreeAt.lt {w : World} {X : Nat → Prop} {b : Nat} {t : T} (h : TreeAt w X b t) : b < w.heap.size := by cases h with | mk hX hb hr hl hk => exact blkLt hb

/-- A node's value, or the zero node. -/
def NodeAt (w : World) (X : Nat → Prop) (v : Value) : Option T → Prop
  | none => v = nilV
  | some t => ∃ b, v = nodeV b ∧ TreeAt w X b t
theorem NodeAt.gr {w w' : World} {X : Nat → Prop} {v : Value} {o : Option T} (h : NodeAt w X v o) (hg : Gr w w') : NodeAt w' X v o := by
  cases o with
  | none => exact h
  | some t => obtain ⟨b, hv, ht⟩ := h; exact ⟨b, hv, ht.gr hg⟩

def D0 : D := ⟨0, [], [], 0, 0⟩
def dO : Option T → D | none => D0 | some t => t.d
def kidsO : Option T → List T | none => [] | some t => t.kids

/-- get: what a node is. -/
theorem get_any (v : Value) (o : Option T) (X : Nat → Prop) (w : World) (h : NodeAt w X v o) :
    Calls Tryz.prog 35 #[v] w fun e w' => ∃ A c bs, e = .returned (.agg #[.int .i64 (dO o).op, .string (S (dO o).name), .string (S (dO o).typ), .int .i64 (dO o).n, .int .i64 (dO o).at_, .slice A (kidsO o).length c]) ∧
      Gr w w' ∧ RowR w X A (List.map ptrV bs) ∧ bs.length = (kidsO o).length ∧ ∀ (i b : Nat) (t : T), bs[i]? = some b → (kidsO o)[i]? = some t → TreeAt w X b t := by
  cases o with
  | none =>
    obtain rfl := h
    go_enter Tryz.func35, Tryz.ntmps35
    go_wp2
    go_returns
    exact ⟨none, 0, [], rfl, (Gr.al _ _).alloc _, .inl rfl, rfl, fun i b t h => by simp at h⟩
  | some t =>
    obtain ⟨b, rfl, ht⟩ := h
    cases ht with
    | mk hX hb hr hl hk =>
      rename_i d kids A c bs
      obtain ⟨h0, h1, h2, h3, h4, h5⟩ := cells6 hb
      have hlt := blkLt hb
      have HR := Lib.hid hr
      have HK := Lib.hid hk
      have HL := Lib.hid hl
      clear hb hr hk hl hX
      go_enter Tryz.func35, Tryz.ntmps35
      go_wp2
      go_returns
      exact ⟨A, c, bs, rfl, (Gr.al _ _).alloc _, HR.out, HL.out, HK.out⟩

theorem run_field_data0 (x0 x1 x2 x3 x4 x5 : Value) (w : World) : (Instr.field 96 (.agg #[x0, x1, x2, x3, x4, x5]) 0).run Tryz.prog w = .ok x0 w := by kernel_rfl
theorem run_field_data1 (x0 x1 x2 x3 x4 x5 : Value) (w : World) : (Instr.field 96 (.agg #[x0, x1, x2, x3, x4, x5]) 1).run Tryz.prog w = .ok x1 w := by kernel_rfl
theorem run_field_data2 (x0 x1 x2 x3 x4 x5 : Value) (w : World) : (Instr.field 96 (.agg #[x0, x1, x2, x3, x4, x5]) 2).run Tryz.prog w = .ok x2 w := by kernel_rfl
theorem run_field_data3 (x0 x1 x2 x3 x4 x5 : Value) (w : World) : (Instr.field 96 (.agg #[x0, x1, x2, x3, x4, x5]) 3).run Tryz.prog w = .ok x3 w := by kernel_rfl
theorem run_field_data4 (x0 x1 x2 x3 x4 x5 : Value) (w : World) : (Instr.field 96 (.agg #[x0, x1, x2, x3, x4, x5]) 4).run Tryz.prog w = .ok x4 w := by kernel_rfl
theorem run_field_data5 (x0 x1 x2 x3 x4 x5 : Value) (w : World) : (Instr.field 96 (.agg #[x0, x1, x2, x3, x4, x5]) 5).run Tryz.prog w = .ok x5 w := by kernel_rfl

theorem Op_any (v : Value) (o : Option T) (X : Nat → Prop) (w : World) (h : NodeAt w X v o) :
    Calls Tryz.prog 26 #[v] w fun e w' => e = .returned (.int .i64 (dO o).op) ∧ Gr w w' := by
  have hf := run_field_data0
  obtain ⟨x, hx⟩ : ∃ x, v = .agg #[.pointer x] := by
    cases o with
    | none => exact ⟨none, h⟩
    | some t => obtain ⟨b, hv, _⟩ := h; exact ⟨_, hv⟩
  subst hx
  have H := Lib.hid h
  clear h
  go_enter Tryz.func26, Tryz.ntmps26
  go_wp2_with fail
  refine (get_any _ o X _ (H.out.gr (Gr.al _ _))).mono ?_
  rintro e w' ⟨A, c, bs, rfl, hg, _, _, _⟩
  go_wp2_with fail
  go_ret
  exact ⟨rfl, (Gr.al _ _).trans hg⟩
theorem Name_any (v : Value) (o : Option T) (X : Nat → Prop) (w : World) (h : NodeAt w X v o) :
    Calls Tryz.prog 27 #[v] w fun e w' => e = .returned (.string (S (dO o).name)) ∧ Gr w w' := by
  have hf := run_field_data1
  obtain ⟨x, hx⟩ : ∃ x, v = .agg #[.pointer x] := by
    cases o with
    | none => exact ⟨none, h⟩
    | some t => obtain ⟨b, hv, _⟩ := h; exact ⟨_, hv⟩
  subst hx
  have H := Lib.hid h
  clear h
  go_enter Tryz.func27, Tryz.ntmps27
  go_wp2_with fail
  refine (get_any _ o X _ (H.out.gr (Gr.al _ _))).mono ?_
  rintro e w' ⟨A, c, bs, rfl, hg, _, _, _⟩
  go_wp2_with fail
  go_ret
  exact ⟨rfl, (Gr.al _ _).trans hg⟩
theorem Type_any (v : Value) (o : Option T) (X : Nat → Prop) (w : World) (h : NodeAt w X v o) :
    Calls Tryz.prog 62 #[v] w fun e w' => e = .returned (.string (S (dO o).typ)) ∧ Gr w w' := by
  have hf := run_field_data2
  obtain ⟨x, hx⟩ : ∃ x, v = .agg #[.pointer x] := by
    cases o with
    | none => exact ⟨none, h⟩
    | some t => obtain ⟨b, hv, _⟩ := h; exact ⟨_, hv⟩
  subst hx
  have H := Lib.hid h
  clear h
  go_enter Tryz.func62, Tryz.ntmps62
  go_wp2_with fail
  refine (get_any _ o X _ (H.out.gr (Gr.al _ _))).mono ?_
  rintro e w' ⟨A, c, bs, rfl, hg, _, _, _⟩
  go_wp2_with fail
  go_ret
  exact ⟨rfl, (Gr.al _ _).trans hg⟩
theorem Num_any (v : Value) (o : Option T) (X : Nat → Prop) (w : World) (h : NodeAt w X v o) :
    Calls Tryz.prog 113 #[v] w fun e w' => e = .returned (.int .i64 (dO o).n) ∧ Gr w w' := by
  have hf := run_field_data3
  obtain ⟨x, hx⟩ : ∃ x, v = .agg #[.pointer x] := by
    cases o with
    | none => exact ⟨none, h⟩
    | some t => obtain ⟨b, hv, _⟩ := h; exact ⟨_, hv⟩
  subst hx
  have H := Lib.hid h
  clear h
  go_enter Tryz.func113, Tryz.ntmps113
  go_wp2_with fail
  refine (get_any _ o X _ (H.out.gr (Gr.al _ _))).mono ?_
  rintro e w' ⟨A, c, bs, rfl, hg, _, _, _⟩
  go_wp2_with fail
  go_ret
  exact ⟨rfl, (Gr.al _ _).trans hg⟩
theorem At_any (v : Value) (o : Option T) (X : Nat → Prop) (w : World) (h : NodeAt w X v o) :
    Calls Tryz.prog 158 #[v] w fun e w' => e = .returned (.int .i64 (dO o).at_) ∧ Gr w w' := by
  have hf := run_field_data4
  obtain ⟨x, hx⟩ : ∃ x, v = .agg #[.pointer x] := by
    cases o with
    | none => exact ⟨none, h⟩
    | some t => obtain ⟨b, hv, _⟩ := h; exact ⟨_, hv⟩
  subst hx
  have H := Lib.hid h
  clear h
  go_enter Tryz.func158, Tryz.ntmps158
  go_wp2_with fail
  refine (get_any _ o X _ (H.out.gr (Gr.al _ _))).mono ?_
  rintro e w' ⟨A, c, bs, rfl, hg, _, _, _⟩
  go_wp2_with fail
  go_ret
  exact ⟨rfl, (Gr.al _ _).trans hg⟩

theorem Kids_any (v : Value) (o : Option T) (X : Nat → Prop) (w : World) (h : NodeAt w X v o) :
    Calls Tryz.prog 24 #[v] w fun e w' => e = .returned (.int .i64 (kidsO o).length) ∧ Gr w w' := by
  have hf := run_field_data5
  obtain ⟨x, hx⟩ : ∃ x, v = .agg #[.pointer x] := by
    cases o with
    | none => exact ⟨none, h⟩
    | some t => obtain ⟨b, hv, _⟩ := h; exact ⟨_, hv⟩
  subst hx
  have H := Lib.hid h
  clear h
  go_enter Tryz.func24, Tryz.ntmps24
  go_wp2_with fail
  refine (get_any _ o X _ (H.out.gr (Gr.al _ _))).mono ?_
  rintro e w' ⟨A, c, bs, rfl, hg, _, _, _⟩
  go_wp2_with fail
  go_ret
  exact ⟨rfl, (Gr.al _ _).trans hg⟩

theorem Kid_some (b : Nat) (t : T) (X : Nat → Prop) (i : Int) (h0 : 0 ≤ i) (t' : T) (ht' : t.kids[i.toNat]? = some t') (w : World) (h : TreeAt w X b t) :
    Calls Tryz.prog 25 #[nodeV b, .int .i64 i] w fun e w' => ∃ b', e = .returned (nodeV b') ∧ TreeAt w X b' t' ∧ Gr w w' := by
  have HA := Lib.hid (fun w' (hg : Gr w w') => Kids_any (nodeV b) (some t) X w' ⟨b, rfl, h.gr hg⟩)
  obtain ⟨j, rfl⟩ := Int.eq_ofNat_of_zero_le h0
  rw [Int.toNat_natCast] at ht'
  cases h with
  | mk hX hb hr hl hk =>
    rename_i d kids A c bs
    have hj : j < kids.length := (List.getElem?_eq_some_iff.1 ht').1
    have hjb : j < bs.length := by rw [hl]; exact hj
    have HR := Lib.hid hr
    obtain ⟨k, off, rfl, hkk, hXk, hc⟩ := hr.open_ (j := j) (by simpa using hjb)
    have HB := Lib.hid hb
    have HT := Lib.hid (hk j bs[j] t' (by simp [hjb]) ht')
    obtain ⟨bi, hbi⟩ : ∃ bi, bs[j] = bi := ⟨_, rfl⟩
    rw [hbi] at HT
    have HRI : Hid ((List.map ptrV bs)[j]? = some (ptrV bi)) := by show (List.map ptrV bs)[j]? = some (ptrV bi); simp [hjb, hbi]
    have hi2 : j < (kidsO (some (T.mk d kids))).length := hj
    clear hbi hr hl hk hb hX hc hXk hjb ht' h0
    go_enter Tryz.func25, Tryz.ntmps25
    go_wp2_with fail
    refine (HA.out _ ((Gr.al _ _).alloc _)).mono ?_
    rintro e w1 ⟨rfl, hg⟩
    have B1 := hg.blk (alloc2_fst _ _ _)
    have B2 := hg.blk (alloc2_snd _ _ _)
    have hgw : Gr w w1 := ((Gr.al _ _).alloc _).trans hg
    have B3 := hgw.blk HB.out
    have a0 : w1.cell? ⟨w.heap.size, 0, none⟩ = some (ptrV b) := cellAt B1 rfl
    have b0 : w1.cell? ⟨w.heap.size + 1, 0, none⟩ = some (.pointer none) := cellAt B2 rfl
    have fb := frozenAt B2
    have c5 : w1.cell? ⟨b, 5, none⟩ = some (.slice (some ⟨k, off, none⟩) kids.length c) := cellAt B3 rfl
    obtain ⟨k2, off2, hkeq, hkk2, _, hc2⟩ := (HR.out.gr hgw).open_ (j := j) (by rw [List.length_map]; have := (List.getElem?_eq_some_iff.1 HRI.out).1; simpa using this)
    have hci := hc2 j _ HRI.out
    injection hkeq with hkeq
    injection hkeq with e1 e2
    subst e1 e2
    clear B1 B2 B3 hc2 hkk2
    unfold kidsO at *
    simp only [T.kids] at *
    go_wp2_with fail
    refine bodyPost_ret (v := nodeV bi) (by simp [results, Tryz.results25, go_sem, b0]) rfl ⟨bi, rfl, HT.out, ?_⟩
    exact hgw.setCell (by simp) _
/-- Kid, of a place that there is not. -/
theorem Kid_none (v : Value) (o : Option T) (X : Nat → Prop) (i : Int) (h0 : 0 ≤ i) (hi : (kidsO o).length ≤ i) (w : World) (h : NodeAt w X v o) :
    Calls Tryz.prog 25 #[v, .int .i64 i] w fun e w' => e = .returned nilV ∧ Gr w w' := by
  have HA := Lib.hid (fun w' (hg : Gr w w') => Kids_any v o X w' (h.gr hg))
  obtain ⟨x, hx⟩ : ∃ x, v = .agg #[.pointer x] := by
    cases o with
    | none => exact ⟨none, h⟩
    | some t => obtain ⟨b, hv, _⟩ := h; exact ⟨_, hv⟩
  subst hx
  clear h
  go_enter Tryz.func25, Tryz.ntmps25
  go_wp2_with fail
  refine (HA.out _ ((Gr.al _ _).alloc _)).mono ?_
  rintro e w1 ⟨rfl, hg⟩
  have B1 := hg.blk (alloc2_fst _ _ _)
  have B2 := hg.blk (alloc2_snd _ _ _)
  have hgw : Gr w w1 := ((Gr.al _ _).alloc _).trans hg
  have a0 : w1.cell? ⟨w.heap.size, 0, none⟩ = some (.pointer x) := cellAt B1 rfl
  have b0 : w1.cell? ⟨w.heap.size + 1, 0, none⟩ = some (.pointer none) := cellAt B2 rfl
  have fb := frozenAt B2
  clear B1 B2
  go_wp2_with fail
  refine bodyPost_ret (v := nilV) (by simp [results, Tryz.results25, go_sem, b0]) rfl ⟨rfl, ?_⟩
  exact hgw.setCell (by simp) _
end Go.Proofs.YthniejnbkkkbnaaGreatDoor

namespace Go.Proofs.YthniejnbkkkbnaaGreatDoor
open Go.RowKit
set_option maxRecDepth 100000
set_option maxHeartbeats 1000000

/-- A closed function of a byte. -/
def ByteFn (k : FuncId) (p : UInt8 → Bool) : Prop :=
  (∀ (x : Value) (w : World), (callFunc k #[x]).run Tryz.prog w = .ok (.enter k #[x]) w) ∧
  ∀ (b : UInt8) (w : World), Calls Tryz.prog k #[.int .u8 b.toNat] w fun e w' => e = .returned (.bool (p b)) ∧ w = w'

theorem isBlank_any (b : UInt8) (w : World) : Calls Tryz.prog 85 #[.int .u8 b.toNat] w fun e w' => e = .returned (.bool (isBlankB b)) ∧ w = w' := by
  go_enter Tryz.func85, Tryz.ntmps85
  go_wp2
  all_goals (go_ret; exact ⟨by simp [isBlankB, *], rfl⟩)
theorem isDigit_any (b : UInt8) (w : World) : Calls Tryz.prog 90 #[.int .u8 b.toNat] w fun e w' => e = .returned (.bool (isDigitB b)) ∧ w = w' := by
  go_enter Tryz.func90, Tryz.ntmps90
  go_wp2
  all_goals (go_ret; exact ⟨by simp [isDigitB, *] <;> omega, rfl⟩)
theorem isLetter_any (b : UInt8) (w : World) : Calls Tryz.prog 88 #[.int .u8 b.toNat] w fun e w' => e = .returned (.bool (isLetterB b)) ∧ w = w' := by
  go_enter Tryz.func88, Tryz.ntmps88
  go_wp2
  all_goals (go_ret; refine ⟨ret_bool ?_, rfl⟩; rw [Bool.eq_iff_iff]; simp [isLetterB]; omega)
theorem skip1_any (b : UInt8) (w : World) : Calls Tryz.prog 87 #[.int .u8 b.toNat] w fun e w' => e = .returned (.bool (notNlB b)) ∧ w = w' := by
  go_enter Tryz.func87, Tryz.ntmps87
  go_wp2
  all_goals (go_ret; exact ⟨by simp [notNlB, *], rfl⟩)
theorem word1_any (b : UInt8) (w : World) : Calls Tryz.prog 146 #[.int .u8 b.toNat] w fun e w' => e = .returned (.bool (nameB b)) ∧ w = w' := by
  go_enter Tryz.func146, Tryz.ntmps146
  go_wp2_with fail
  refine (isLetter_any b _).mono ?_
  rintro e w' ⟨rfl, rfl⟩
  cases h : isLetterB b
  · go_wp2_with fail
    refine (isDigit_any b _).mono ?_
    rintro e w' ⟨rfl, rfl⟩
    go_wp2_with fail
    go_ret
    exact ⟨by simp [nameB, h], rfl⟩
  · go_wp2_with fail
    go_ret
    exact ⟨by simp [nameB, h], rfl⟩
theorem isName1_any (b : UInt8) (w : World) : Calls Tryz.prog 165 #[.int .u8 b.toNat] w fun e w' => e = .returned (.bool (nameB b)) ∧ w = w' := by
  go_enter Tryz.func165, Tryz.ntmps165
  go_wp2_with fail
  refine (isLetter_any b _).mono ?_
  rintro e w' ⟨rfl, rfl⟩
  cases h : isLetterB b
  · go_wp2_with fail
    refine (isDigit_any b _).mono ?_
    rintro e w' ⟨rfl, rfl⟩
    go_wp2_with fail
    go_ret
    exact ⟨by simp [nameB, h], rfl⟩
  · go_wp2_with fail
    go_ret
    exact ⟨by simp [nameB, h], rfl⟩
theorem bf_blank : ByteFn 85 isBlankB := ⟨fun _ _ => by kernel_rfl, isBlank_any⟩
theorem bf_digit : ByteFn 90 isDigitB := ⟨fun _ _ => by kernel_rfl, isDigit_any⟩
theorem bf_skip1 : ByteFn 87 notNlB := ⟨fun _ _ => by kernel_rfl, skip1_any⟩
theorem bf_word1 : ByteFn 146 nameB := ⟨fun _ _ => by kernel_rfl, word1_any⟩
theorem bf_isName1 : ByteFn 165 nameB := ⟨fun _ _ => by kernel_rfl, isName1_any⟩

theorem run_any (s : ByteArray) (k : FuncId) (p : UInt8 → Bool) (hk : ByteFn k p) (hs : s.size < 1000000) (w : World) :
    Calls Tryz.prog 84 #[.string s, .func (.func k) #[] #[]] w fun e w' => e = .returned (.int .i64 (runP p s.data.toList)) ∧ w = w' := by
  obtain ⟨hk1, hk2⟩ := hk
  have HK := Lib.hid hk2
  clear hk2
  go_enter Tryz.func84, Tryz.ntmps84
  go_wp2
  go_loop [5] (fun t => ∃ j : Nat, j ≤ s.size ∧ Hid (∀ i (hi : i < s.data.toList.length), i < j → p s.data.toList[i] = true) ∧ t = .int .i64 j) (fun t => s.size - (intOf t).toNat)
  case atStart => exact ⟨0, by omega, fun i hi h => by omega, rfl⟩
  case round =>
    obtain ⟨j, hj, hall, rfl⟩ := hrel
    by_cases hlt : j < s.size
    · cases hpj : p s[j]
      · have HP := Lib.hid hpj
        clear hpj
        go_wp2_with fail
        refine (HK.out _ _).mono ?_
        rintro e w' ⟨rfl, rfl⟩
        rw [HP.out]
        go_wp2
        go_ret
        exact ⟨by rw [take_all hall.out (by simpa using hlt) HP.out]; rfl, rfl⟩
      · have HP := Lib.hid hpj
        clear hpj
        go_wp2_with fail
        refine (HK.out _ _).mono ?_
        rintro e w' ⟨rfl, rfl⟩
        rw [HP.out]
        go_wp2
        go_round
        case rel => exact ⟨j + 1, by omega, fun i hi hij => by { rcases Nat.lt_succ_iff_lt_or_eq.1 hij with h | rfl; exact hall.out i hi h; exact HP.out }, by go_num⟩
        case measure => simp [intOf]; omega
    · go_wp2_with fail
      go_ret
      have : j = s.size := by omega
      subst this
      exact ⟨by rw [take_end fun i hi => hall.out i hi (by simpa using hi)]; simp, rfl⟩

theorem hasPrefix_any (s t : ByteArray) (w : World) : Calls Tryz.prog 86 #[.string s, .string t] w fun e w' => e = .returned (.bool (hasP s.data.toList t.data.toList)) ∧ w = w' := by
  by_cases h : t.size ≤ s.size
  · go_enter Tryz.func86, Tryz.ntmps86
    go_wp2
    go_ret
    refine ⟨?_, rfl⟩
    simp only [hasP, ByteArray.toList_eq, extract_list, size_list]
    simp
  · go_enter Tryz.func86, Tryz.ntmps86
    go_wp2
    go_ret
    refine ⟨?_, rfl⟩
    have : hasP s.data.toList t.data.toList = false := by
      unfold hasP
      rw [beq_eq_false_iff_ne]
      intro e
      have := congrArg List.length e
      simp only [List.length_take, size_list] at this
      omega
    rw [this]
    rfl

def strCells (L : List Str) : List Value := L.map fun l => .string (S l)

theorem keys_any (w : World) : Calls Tryz.prog 167 #[] w fun e w' => ∃ A, e = .returned (.slice A 16 16) ∧ RowR w' (fun _ => True) A (strCells keyList) ∧ Gr w w' := by
  go_enter Tryz.func167, Tryz.ntmps167
  go_wp2
  go_ret
  exact ⟨_, rfl, RowR.alloc (strCells keyList), Gr.al _ _⟩
theorem signs_any (w : World) : Calls Tryz.prog 149 #[] w fun e w' => ∃ A, e = .returned (.slice A 28 28) ∧ RowR w' (fun _ => True) A (strCells signList) ∧ Gr w w' := by
  go_enter Tryz.func149, Tryz.ntmps149
  go_wp2
  go_ret
  exact ⟨_, rfl, RowR.alloc (strCells signList), Gr.al _ _⟩

theorem idxOf_hit {L : List Str} {x : Str} {j : Nat} (hlt : j < L.length) (h : ∀ i (hi : i < L.length), i < j → (L[i] == x) = false) (hj : (L[j] == x) = true) : idxOf L x = j := by
  have : L.findIdx? (· == x) = some j := by
    rw [List.findIdx?_eq_some_iff_getElem]
    exact ⟨hlt, hj, fun i hi => by simpa using h i (by omega) hi⟩
  simp [idxOf, this]
theorem idxOf_miss {L : List Str} {x : Str} (h : ∀ i (hi : i < L.length), (L[i] == x) = false) : idxOf L x = -1 := by
  have : L.findIdx? (· == x) = none := by
    rw [List.findIdx?_eq_none_iff]
    intro y hy
    obtain ⟨i, hi, rfl⟩ := List.getElem_of_mem hy
    exact h i hi
  simp [idxOf, this]

theorem idx_any (L : List Str) (A : Option Addr) (n c : Nat) (hn : n = L.length) (x : Str) (X : Nat → Prop) (w : World) (hr : RowR w X A (strCells L)) (hl : n < 1000000) :
    Calls Tryz.prog 220 #[.slice A n c, .string (S x)] w fun e w' => e = .returned (.int .i64 (idxOf L x)) ∧ w = w' := by
  have HN := Lib.hid hn
  clear hn
  go_enter Tryz.func220, Tryz.ntmps220
  go_wp2
  go_loop [5, 8] (fun _ t => ∃ j : Nat, j ≤ n ∧ Hid (∀ i (hi : i < L.length), i < j → (L[i] == x) = false) ∧ t = .int .i64 j) (fun _ t => n - (intOf t).toNat)
  case atStart => exact ⟨0, by omega, fun i hi h => by omega, rfl⟩
  case round =>
    obtain ⟨j, hj, hall, rfl⟩ := hrel
    by_cases hlt : j < n
    · obtain ⟨k, off, rfl, hk, _, hc⟩ := hr.open_ (j := j) (by simp [strCells, ← HN.out, hlt])
      have hcj : w.cell? ⟨k, off + j, none⟩ = some (.string (S (L[j]'(by rw [← HN.out]; exact hlt)))) := hc j _ (by simp [strCells, ← HN.out, hlt])
      clear hc
      cases hpj : (L[j]'(by rw [← HN.out]; exact hlt) == x)
      · have HP := Lib.hid hpj
        have ht : ((S x).toList == (S (L[j]'(by rw [← HN.out]; exact hlt))).toList) = false := by
          rw [ByteArray.toList_eq, ByteArray.toList_eq, data_S, data_S, Bool.beq_comm]; exact hpj
        clear hpj
        go_wp2
        go_round
        case rel => exact ⟨j + 1, by omega, fun i hi hij => by { rcases Nat.lt_succ_iff_lt_or_eq.1 hij with h | rfl; exact hall.out i hi h; exact HP.out }, by go_num⟩
        case measure => simp [intOf]; omega
      · have HP := Lib.hid hpj
        have ht : ((S x).toList == (S (L[j]'(by rw [← HN.out]; exact hlt))).toList) = true := by
          rw [ByteArray.toList_eq, ByteArray.toList_eq, data_S, data_S, Bool.beq_comm]; exact hpj
        clear hpj
        go_wp2
        go_ret
        exact ⟨by rw [idxOf_hit (by rw [← HN.out]; exact hlt) hall.out HP.out]; rfl, rfl⟩
    · go_wp2
      go_ret
      exact ⟨by rw [idxOf_miss fun i hi => hall.out i hi (by have := HN.out; omega)]; rfl, rfl⟩

theorem idxOf_nonneg (L : List Str) (x : Str) : decide (0 ≤ idxOf L x) = L.contains x := by
  unfold idxOf
  cases h : L.findIdx? (· == x) with
  | none =>
    rw [List.findIdx?_eq_none_iff] at h
    have : L.contains x = false := by
      rw [Bool.eq_false_iff]
      intro hc
      rw [List.contains_iff_mem] at hc
      have := h x hc
      simp at this
    rw [this]; rfl
  | some i =>
    rw [List.findIdx?_eq_some_iff_getElem] at h
    obtain ⟨hi, he, _⟩ := h
    have : L.contains x = true := by
      rw [List.contains_iff_mem]
      have := eq_of_beq he
      rw [← this]; exact List.getElem_mem hi
    rw [this]; simp

theorem contains_any (L : List Str) (A : Option Addr) (n c : Nat) (hn : n = L.length) (x : Str) (X : Nat → Prop) (w : World) (hr : RowR w X A (strCells L)) (hl : n < 1000000) :
    Calls Tryz.prog 166 #[.slice A n c, .string (S x)] w fun e w' => e = .returned (.bool (L.contains x)) ∧ w = w' := by
  have HR := Lib.hid hr
  have HN := Lib.hid hn
  clear hr hn
  go_enter Tryz.func166, Tryz.ntmps166
  go_wp2_with fail
  refine (idx_any L A n c HN.out x X _ HR.out hl).mono ?_
  rintro e w' ⟨rfl, rfl⟩
  go_wp2_with fail
  go_ret
  exact ⟨by rw [← idxOf_nonneg]; rfl, rfl⟩

theorem isKey_any (x : Str) (w : World) : Calls Tryz.prog 108 #[.string (S x)] w fun e w' => e = .returned (.bool (isKeyP x)) ∧ Gr w w' := by
  go_enter Tryz.func108, Tryz.ntmps108
  go_wp2_with fail
  refine (keys_any _).mono ?_
  rintro e w' ⟨A, rfl, hr, hg⟩
  have HR := Lib.hid hr
  clear hr
  go_wp2_with fail
  refine (contains_any keyList A 16 16 rfl x _ _ HR.out (by decide)).mono ?_
  rintro e w'' ⟨rfl, rfl⟩
  go_wp2_with fail
  go_ret
  exact ⟨by simp [isKeyP], hg⟩
end Go.Proofs.YthniejnbkkkbnaaGreatDoor
