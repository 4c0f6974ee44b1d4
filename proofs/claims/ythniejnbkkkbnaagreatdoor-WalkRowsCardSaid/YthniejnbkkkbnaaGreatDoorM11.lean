/- Walks of layer kind: rows of pairs in memory, IndexFunc over them, Elem, Find, Place, Is. -/
import Derived.Test.YthniejnbkkkbnaaGreatDoorM03
import Derived.Test.YthniejnbkkkbnaaGreatDoorM10
set_option linter.all false
set_option linter.unusedSimpArgs false
set_option linter.unusedVariables false
namespace Go.Proofs.YthniejnbkkkbnaaGreatDoor
open Go.RowKit
set_option maxRecDepth 100000
set_option maxHeartbeats 1000000

def pairCells (L : List (Value × Value)) : List Value := L.flatMap fun p => [p.1, p.2]
theorem pairCells_length (L : List (Value × Value)) : (pairCells L).length = L.length * 2 := by
  induction L with
  | nil => rfl
  | cons p L ih => simp [pairCells] at *; omega
theorem pairCells_get (L : List (Value × Value)) : ∀ (j : Nat) (hj : j < L.length), (pairCells L)[j * 2]? = some L[j].1 ∧ (pairCells L)[j * 2 + 1]? = some L[j].2 := by
  induction L with
  | nil => intro j hj; simp at hj
  | cons t L ih =>
    intro j hj
    have e : pairCells (t :: L) = [t.1, t.2] ++ pairCells L := by simp [pairCells]
    rw [e]
    cases j with
    | zero => simp
    | succ j =>
      have h := ih j (by simpa using hj)
      rw [List.getElem?_append_right (by simp; omega), List.getElem?_append_right (by simp; omega)]
      simp only [List.length_cons, List.length_nil, List.getElem_cons_succ]
      have e1 : (j + 1) * 2 - (0 + 1 + 1) = j * 2 := by omega
      have e2 : (j + 1) * 2 + 1 - (0 + 1 + 1) = j * 2 + 1 := by omega
      rw [e1, e2]
      exact h
theorem pairCells_append (L M : List (Value × Value)) : pairCells (L ++ M) = pairCells L ++ pairCells M := by simp [pairCells]
/-- A slice of pairs. -/
def PairsAt (w : World) (X : Nat → Prop) (v : Value) (L : List (Value × Value)) : Prop := ∃ A c, v = .slice A L.length c ∧ L.length ≤ c ∧ RowR w X A (pairCells L)
theorem PairsAt.gr {w w' : World} {X : Nat → Prop} {v : Value} {L : List (Value × Value)} (h : PairsAt w X v L) (hg : Gr w w') : PairsAt w' X v L := by
  obtain ⟨A, c, hv, hlc, hr⟩ := h
  exact ⟨A, c, hv, hlc, hr.gr hg⟩
theorem PairsAt.frame {w w' : World} {X : Nat → Prop} {v : Value} {L : List (Value × Value)} (h : PairsAt w X v L) (hf : ∀ k, X k → k < w.heap.size → w'.heap[k]? = w.heap[k]?) : PairsAt w' X v L := by
  obtain ⟨A, c, hv, hlc, hr⟩ := h
  exact ⟨A, c, hv, hlc, hr.frame hf⟩
theorem PairsAt.imp {w : World} {X Y : Nat → Prop} {v : Value} {L : List (Value × Value)} (h : PairsAt w X v L) (hXY : ∀ k, k < w.heap.size → X k → Y k) : PairsAt w Y v L := by
  obtain ⟨A, c, hv, hlc, hr⟩ := h
  exact ⟨A, c, hv, hlc, hr.imp hXY⟩

def fldPair (f : Fld) : Value × Value := (.string (S f.name), .string (S f.typ))
def FldsAt (w : World) (X : Nat → Prop) (v : Value) (L : List Fld) : Prop := PairsAt w X v (L.map fldPair)
theorem FldsAt.gr {w w' : World} {X : Nat → Prop} {v : Value} {L : List Fld} (h : FldsAt w X v L) (hg : Gr w w') : FldsAt w' X v L := PairsAt.gr h hg
def strucPair (p : Struc × Value) : Value × Value := (.string (S p.1.name), p.2)
def StrucsAt (w : World) (X : Nat → Prop) (v : Value) (L : List Struc) : Prop :=
  ∃ vs : List Value, vs.length = L.length ∧ PairsAt w X v ((L.zip vs).map strucPair) ∧ ∀ (i : Nat) (s : Struc) (u : Value), L[i]? = some s → vs[i]? = some u → FldsAt w X u s.fields
theorem StrucsAt.gr {w w' : World} {X : Nat → Prop} {v : Value} {L : List Struc} (h : StrucsAt w X v L) (hg : Gr w w') : StrucsAt w' X v L := by
  obtain ⟨vs, hl, hp, hf⟩ := h
  exact ⟨vs, hl, hp.gr hg, fun i s u hs hu => (hf i s u hs hu).gr hg⟩
theorem StrucsAt.frame {w w' : World} {X : Nat → Prop} {v : Value} {L : List Struc} (h : StrucsAt w X v L) (hf : ∀ k, X k → k < w.heap.size → w'.heap[k]? = w.heap[k]?) : StrucsAt w' X v L := by
  obtain ⟨vs, hl, hp, hq⟩ := h
  exact ⟨vs, hl, hp.frame hf, fun i s u hs hu => PairsAt.frame (hq i s u hs hu) hf⟩
theorem StrucsAt.imp {w : World} {X Y : Nat → Prop} {v : Value} {L : List Struc} (h : StrucsAt w X v L) (hXY : ∀ k, k < w.heap.size → X k → Y k) : StrucsAt w Y v L := by
  obtain ⟨vs, hl, hp, hq⟩ := h
  exact ⟨vs, hl, hp.imp hXY, fun i s u hs hu => PairsAt.imp (hq i s u hs hu) hXY⟩

theorem idxFn_map {α β : Type} (p : β → Bool) (f : α → β) (L : List α) : idxFn p (L.map f) = idxFn (fun a => p (f a)) L := by
  unfold idxFn
  rw [List.findIdx?_map]
  rfl
theorem idxFn_lt {α : Type} (p : α → Bool) (L : List α) : -1 ≤ idxFn p L ∧ idxFn p L < L.length := by
  unfold idxFn
  cases h : L.findIdx? p with
  | none => simp; omega
  | some i =>
    rw [List.findIdx?_eq_some_iff_getElem] at h
    obtain ⟨hi, _⟩ := h
    simp; omega
def strOf : Value → Str
  | .string b => b.data.toList
  | _ => []
theorem strOf_S (s : Str) : strOf (.string (S s)) = s := data_S s

theorem idxStruct_any (P : List (Value × Value)) (A : Option Addr) (n c : Nat) (hn : n = P.length) (X : Nat → Prop) (k : FuncId) (cp : Value) (p : Value × Value → Bool) (w : World) (hr : RowR w X A (pairCells P)) (hl : n < 1000000)
    (hk1 : Enters k) (hk2 : ∀ x, x ∈ P → ∀ w', Gr w w' → Calls Tryz.prog k #[.agg #[x.1, x.2], cp] w' fun e w'' => e = .returned (.bool (p x)) ∧ Gr w' w'') :
    Calls Tryz.prog 109 #[.slice A n c, .func (.func k) #[] #[cp]] w fun e w' => e = .returned (.int .i64 (idxFn p P)) ∧ Gr w w' := by
  have HN := Lib.hid hn
  have HK := Lib.hid hk2
  have HR := Lib.hid hr
  unfold Enters at hk1
  clear hn hk2 hr
  go_enter Tryz.func109, Tryz.ntmps109
  go_wp2
  go_loopw [5, 8] (fun _ t wr => ∃ j : Nat, j ≤ n ∧ Hid (∀ i (hi : i < P.length), i < j → p P[i] = false) ∧ t = .int .i64 j ∧ Gr w wr) (fun _ t _ => n - (intOf t).toNat)
  case atStart => exact ⟨0, by omega, fun i hi h => by omega, rfl, Gr.refl _⟩
  case round =>
    obtain ⟨j, hj, hall, rfl, hg⟩ := hrel
    by_cases hlt : j < n
    · have hltL : j < P.length := by rw [← HN.out]; exact hlt
      obtain ⟨g, off, rfl, hk, _, hc⟩ := (HR.out.gr hg).open_ (j := j * 2) (by rw [pairCells_length]; omega)
      obtain ⟨t0, t1⟩ := pairCells_get P j hltL
      have hc0 := hc _ _ t0
      have hc1 := hc _ _ t1
      rw [← Nat.add_assoc] at hc1
      have HKJ := Lib.hid (HK.out _ (List.getElem_mem hltL) _ hg)
      obtain ⟨x, hx⟩ : ∃ x, P[j]'hltL = x := ⟨_, rfl⟩
      rw [hx] at hc0 hc1 HKJ
      obtain ⟨x1, x2⟩ := x
      have HX := Lib.hid hx
      clear hc t0 t1 hx
      go_wp2_with fail
      refine HKJ.out.mono ?_
      rintro e w' ⟨rfl, hg'⟩
      have hgg := hg.trans hg'
      clear hc0 hc1 hk
      cases hpj : p (x1, x2)
      · have HP : Hid (p P[j] = false) := by show p P[j] = false; rw [HX.out]; exact hpj
        clear hpj
        go_wp2_with fail
        go_roundw
        case rel => exact ⟨j + 1, by omega, fun i hi hij => by { rcases Nat.lt_succ_iff_lt_or_eq.1 hij with h | rfl; exact hall.out i hi h; exact HP.out }, by go_num, hgg⟩
        case measure => simp [intOf]; omega
      · have HP : Hid (p P[j] = true) := by show p P[j] = true; rw [HX.out]; exact hpj
        clear hpj
        go_wp2_with fail
        go_ret
        exact ⟨ret_int (idxFn_hit hltL hall.out HP.out).symm, hgg⟩
    · go_wp2_with fail
      go_ret
      exact ⟨ret_int (idxFn_miss fun i hi => hall.out i hi (by have := HN.out; omega)).symm, hg⟩
theorem idxField_any (P : List (Value × Value)) (A : Option Addr) (n c : Nat) (hn : n = P.length) (X : Nat → Prop) (k : FuncId) (cp : Value) (p : Value × Value → Bool) (w : World) (hr : RowR w X A (pairCells P)) (hl : n < 1000000)
    (hk1 : Enters k) (hk2 : ∀ x, x ∈ P → ∀ w', Gr w w' → Calls Tryz.prog k #[.agg #[x.1, x.2], cp] w' fun e w'' => e = .returned (.bool (p x)) ∧ Gr w' w'') :
    Calls Tryz.prog 168 #[.slice A n c, .func (.func k) #[] #[cp]] w fun e w' => e = .returned (.int .i64 (idxFn p P)) ∧ Gr w w' := by
  have HN := Lib.hid hn
  have HK := Lib.hid hk2
  have HR := Lib.hid hr
  unfold Enters at hk1
  clear hn hk2 hr
  go_enter Tryz.func168, Tryz.ntmps168
  go_wp2
  go_loopw [5, 8] (fun _ t wr => ∃ j : Nat, j ≤ n ∧ Hid (∀ i (hi : i < P.length), i < j → p P[i] = false) ∧ t = .int .i64 j ∧ Gr w wr) (fun _ t _ => n - (intOf t).toNat)
  case atStart => exact ⟨0, by omega, fun i hi h => by omega, rfl, Gr.refl _⟩
  case round =>
    obtain ⟨j, hj, hall, rfl, hg⟩ := hrel
    by_cases hlt : j < n
    · have hltL : j < P.length := by rw [← HN.out]; exact hlt
      obtain ⟨g, off, rfl, hk, _, hc⟩ := (HR.out.gr hg).open_ (j := j * 2) (by rw [pairCells_length]; omega)
      obtain ⟨t0, t1⟩ := pairCells_get P j hltL
      have hc0 := hc _ _ t0
      have hc1 := hc _ _ t1
      rw [← Nat.add_assoc] at hc1
      have HKJ := Lib.hid (HK.out _ (List.getElem_mem hltL) _ hg)
      obtain ⟨x, hx⟩ : ∃ x, P[j]'hltL = x := ⟨_, rfl⟩
      rw [hx] at hc0 hc1 HKJ
      obtain ⟨x1, x2⟩ := x
      have HX := Lib.hid hx
      clear hc t0 t1 hx
      go_wp2_with fail
      refine HKJ.out.mono ?_
      rintro e w' ⟨rfl, hg'⟩
      have hgg := hg.trans hg'
      clear hc0 hc1 hk
      cases hpj : p (x1, x2)
      · have HP : Hid (p P[j] = false) := by show p P[j] = false; rw [HX.out]; exact hpj
        clear hpj
        go_wp2_with fail
        go_roundw
        case rel => exact ⟨j + 1, by omega, fun i hi hij => by { rcases Nat.lt_succ_iff_lt_or_eq.1 hij with h | rfl; exact hall.out i hi h; exact HP.out }, by go_num, hgg⟩
        case measure => simp [intOf]; omega
      · have HP : Hid (p P[j] = true) := by show p P[j] = true; rw [HX.out]; exact hpj
        clear hpj
        go_wp2_with fail
        go_ret
        exact ⟨ret_int (idxFn_hit hltL hall.out HP.out).symm, hgg⟩
    · go_wp2_with fail
      go_ret
      exact ⟨ret_int (idxFn_miss fun i hi => hall.out i hi (by have := HN.out; omega)).symm, hg⟩

theorem find1_any (a : Str) (u : Value) (x : Str) (b : Nat) (w : World) (hb : w.heap[b]? = some (.cells #[.string (S x)] 9 (0, 0))) :
    Calls Tryz.prog 110 #[.agg #[.string (S a), u], .pointer (some ⟨b, 0, none⟩)] w fun e w' => e = .returned (.bool (a == x)) ∧ Gr w w' := by
  have hc : w.cell? ⟨b, 0, none⟩ = some (.string (S x)) := cellAt hb rfl
  have hlt := blkLt hb
  clear hb
  have he : ((S a).toList == (S x).toList) = (a == x) := by rw [ByteArray.toList_eq, ByteArray.toList_eq, data_S, data_S]
  generalize hq : (a == x) = q at he ⊢
  clear hq
  go_enter Tryz.func110, Tryz.ntmps110
  go_wp2_with fail
  go_ret
  exact ⟨rfl, Gr.al _ _⟩
theorem en_find1 : Enters 110 := fun _ _ => by kernel_rfl
theorem place1_any (a : Str) (u : Value) (x : Str) (b : Nat) (w : World) (hb : w.heap[b]? = some (.cells #[.string (S x)] 9 (0, 0))) :
    Calls Tryz.prog 224 #[.agg #[.string (S a), u], .pointer (some ⟨b, 0, none⟩)] w fun e w' => e = .returned (.bool (a == x)) ∧ Gr w w' := by
  have hc : w.cell? ⟨b, 0, none⟩ = some (.string (S x)) := cellAt hb rfl
  have hlt := blkLt hb
  clear hb
  have he : ((S a).toList == (S x).toList) = (a == x) := by rw [ByteArray.toList_eq, ByteArray.toList_eq, data_S, data_S]
  generalize hq : (a == x) = q at he ⊢
  clear hq
  go_enter Tryz.func224, Tryz.ntmps224
  go_wp2_with fail
  go_ret
  exact ⟨rfl, Gr.al _ _⟩
theorem en_place1 : Enters 224 := fun _ _ => by kernel_rfl

/-- 'max(i, 0), i >= 0' of a place. -/
def placeV (i : Int) : Value := .tuple #[.int .i64 (max i 0), .bool (decide (0 ≤ i))]
theorem ret_two {a b : Int} {p q : Bool} (h : a = b) (hpq : p = q) : Ending.returned (.tuple #[.int .i64 a, .bool p]) = .returned (.tuple #[.int .i64 b, .bool q]) := by rw [h, hpq]
theorem zip_fst {α β : Type} : ∀ (L : List α) (vs : List β), vs.length = L.length → (L.zip vs).map Prod.fst = L
  | [], _, _ => by simp
  | a :: L, [], h => by simp at h
  | a :: L, v :: vs, h => by simp [zip_fst L vs (by simpa using h)]
theorem idx_strucs (L : List Struc) (vs : List Value) (x : Str) (h : vs.length = L.length) : idxFn (fun q => strOf q.1 == x) ((L.zip vs).map strucPair) = findS L x := by
  rw [idxFn_map]
  unfold findS
  conv => rhs; rw [← zip_fst L vs h, idxFn_map]
  refine congrArg (fun f => idxFn f _) (funext fun q => ?_)
  show (strOf (.string (S q.1.name)) == x) = _
  rw [strOf_S]
theorem idx_flds (L : List Fld) (x : Str) : idxFn (fun q => strOf q.1 == x) (L.map fldPair) = findF L x := by
  rw [idxFn_map]
  unfold findF
  refine congrArg (fun f => idxFn f _) (funext fun q => ?_)
  show (strOf (.string (S q.name)) == x) = _
  rw [strOf_S]
theorem find_any (L : List Struc) (v : Value) (X : Nat → Prop) (x : Str) (w : World) (h : StrucsAt w X v L) (hl : L.length < 1000000) :
    Calls Tryz.prog 69 #[v, .string (S x)] w fun e w' => e = .returned (placeV (findS L x)) ∧ Gr w w' := by
  obtain ⟨vs, hvl, ⟨A, c, rfl, hlc, hr⟩, hf⟩ := h
  have hix := idx_strucs L vs x hvl
  obtain ⟨P, hP⟩ : ∃ P, P = (L.zip vs).map strucPair := ⟨_, rfl⟩
  have hpl : P.length = L.length := by rw [hP]; simp [hvl]
  have hmem : ∀ y ∈ P, ∃ a u, y = (.string (S a), u) := by
    rw [hP]
    intro y hy
    obtain ⟨q, _, rfl⟩ := List.mem_map.1 hy
    exact ⟨q.1.name, q.2, rfl⟩
  rw [← hP] at hr hix ⊢
  obtain ⟨n, hn⟩ : ∃ n, n = P.length := ⟨_, rfl⟩
  have hn2 : n < 1000000 := by omega
  have HR := Lib.hid hr
  have HN := Lib.hid hn
  have HM := Lib.hid hmem
  rw [← hn]
  rw [← hix]
  obtain ⟨lo, hi⟩ := idxFn_lt (fun q => strOf q.1 == x) P
  rw [← hn] at hi
  obtain ⟨i, hi0⟩ : ∃ i, i = idxFn (fun q => strOf q.1 == x) P := ⟨_, rfl⟩
  rw [← hi0] at lo hi ⊢
  have HI := Lib.hid hi0
  clear hr hn hP hf hmem hix hpl hl hi0
  have en := en_find1
  unfold placeV
  go_enter Tryz.func69, Tryz.ntmps69
  go_wp2_with fail
  refine (idxStruct_any P A n c HN.out X 110 (.pointer (some ⟨w.heap.size, 0, none⟩)) (fun q => strOf q.1 == x) _ (HR.out.gr (Gr.al _ _)) hn2 en ?_).mono ?_
  · intro y hy w' hg
    obtain ⟨a, u, rfl⟩ := HM.out y hy
    refine (find1_any a u x _ w' (hg.blk (blk_alloc _ _))).mono ?_
    rintro e w'' ⟨rfl, hg'⟩
    exact ⟨by rw [strOf_S], hg'⟩
  · rintro e w' ⟨rfl, hg⟩
    rw [← HI.out]
    go_wp2_with fail
    all_goals
      go_ret2
      exact ⟨ret_two (by omega) (by first | rfl | (simp; omega)), (Gr.al _ _).trans hg⟩

theorem place_any (s : Str) (L : List Fld) (v : Value) (X : Nat → Prop) (x : Str) (w : World) (h : FldsAt w X v L) (hl : L.length < 1000000) :
    Calls Tryz.prog 178 #[.agg #[.string (S s), v], .string (S x)] w fun e w' => e = .returned (placeV (findF L x)) ∧ Gr w w' := by
  obtain ⟨A, c, rfl, hlc, hr⟩ := h
  have hix := idx_flds L x
  obtain ⟨P, hP⟩ : ∃ P, P = L.map fldPair := ⟨_, rfl⟩
  have hpl : P.length = L.length := by rw [hP]; simp
  have hmem : ∀ y ∈ P, ∃ a u, y = (.string (S a), u) := by
    rw [hP]
    intro y hy
    obtain ⟨q, _, rfl⟩ := List.mem_map.1 hy
    exact ⟨q.name, _, rfl⟩
  rw [← hP] at hr hix ⊢
  obtain ⟨n, hn⟩ : ∃ n, n = P.length := ⟨_, rfl⟩
  have hn2 : n < 1000000 := by omega
  have HR := Lib.hid hr
  have HN := Lib.hid hn
  have HM := Lib.hid hmem
  rw [← hn]
  rw [← hix]
  obtain ⟨lo, hi⟩ := idxFn_lt (fun q => strOf q.1 == x) P
  rw [← hn] at hi
  obtain ⟨i, hi0⟩ : ∃ i, i = idxFn (fun q => strOf q.1 == x) P := ⟨_, rfl⟩
  rw [← hi0] at lo hi ⊢
  have HI := Lib.hid hi0
  clear hr hn hP hmem hix hpl hl hi0
  have en := en_place1
  unfold placeV
  go_enter Tryz.func178, Tryz.ntmps178
  go_wp2_with fail
  refine (idxField_any P A n c HN.out X 224 (.pointer (some ⟨w.heap.size + 1, 0, none⟩)) (fun q => strOf q.1 == x) _ (HR.out.gr ((Gr.al _ _).alloc _)) hn2 en ?_).mono ?_
  · intro y hy w' hg
    obtain ⟨a, u, rfl⟩ := HM.out y hy
    refine (place1_any a u x _ w' (hg.blk (alloc2_snd _ _ _))).mono ?_
    rintro e w'' ⟨rfl, hg'⟩
    exact ⟨by rw [strOf_S], hg'⟩
  · rintro e w' ⟨rfl, hg⟩
    rw [← HI.out]
    go_wp2_with fail
    all_goals
      go_ret2
      exact ⟨ret_two (by omega) (by first | rfl | (simp; omega)), ((Gr.al _ _).alloc _).trans hg⟩

theorem slHasPrefix_any (s t : ByteArray) (w : World) : Calls Tryz.prog 145 #[.string s, .string t] w fun e w' => e = .returned (.bool (hasP s.data.toList t.data.toList)) ∧ w = w' := by
  by_cases h : t.size ≤ s.size
  · go_enter Tryz.func145, Tryz.ntmps145
    go_wp2
    go_ret
    refine ⟨?_, rfl⟩
    simp only [hasP, ByteArray.toList_eq, extract_list, size_list]
    simp
  · go_enter Tryz.func145, Tryz.ntmps145
    go_wp2
    go_ret
    refine ⟨?_, rfl⟩
    have : hasP s.data.toList t.data.toList = false := by
      unfold hasP
      rw [beq_eq_false_iff_ne]
      intro e
      have := congrArg List.length e
      simp only [List.length_take, size_list] at this
      omega
    rw [this]
    rfl
/-- CutPrefix of a star. -/
def cutP (t : Str) : Str × Bool := match t with | [] => ([], false) | a :: n => if a == 42 then (n, true) else (a :: n, false)
theorem cut_any (t : Str) (w : World) : Calls Tryz.prog 103 #[.string (S t), .string ⟨#[42]⟩] w fun e w' => e = .returned (.tuple #[.string (S (cutP t).1), .bool (cutP t).2]) ∧ w = w' := by
  have HP : Hid (∀ w, Calls Tryz.prog 145 #[.string (S t), .string ⟨#[42]⟩] w fun e w' => e = .returned (.bool (cutP t).2) ∧ w = w') := fun w => by
    have := slHasPrefix_any (S t) ⟨#[42]⟩ w
    rw [data_S] at this
    have e : hasP t (⟨#[42]⟩ : ByteArray).data.toList = (cutP t).2 := by
      cases t with
      | nil => rfl
      | cons a n =>
        unfold cutP hasP
        simp only [List.length_cons, List.length_nil, List.take_succ_cons, List.take_zero]
        cases h : a == 42 <;> simp_all
    rw [e] at this
    exact this
  have hsz : (S t).size = t.length := size_S t
  cases hc : (cutP t).2
  · have e1 : (cutP t).1 = t := by
      cases t with
      | nil => rfl
      | cons a n =>
        cases h : a == 42
        · simp [cutP, h]
        · simp [cutP, h] at hc
    rw [hc] at HP
    rw [e1]
    clear hc e1
    go_enter Tryz.func103, Tryz.ntmps103
    go_wp2_with (first | (go_at_call 145; refine (HP.out _).mono ?_; rintro e w' ⟨rfl, rfl⟩) | go_in)
    go_ret2
    exact ⟨rfl, rfl⟩
  · have e1 : S (cutP t).1 = (S t).extract 1 (S t).size := by
      rw [extract_S, data_S, size_S]
      cases t with
      | nil => cases hc
      | cons a n =>
        cases h : a == 42
        · simp [cutP, h] at hc
        · simp [cutP, h]
    have hpos : 1 ≤ (S t).size := by
      rw [size_S]
      cases t with
      | nil => cases hc
      | cons a n => simp
    rw [hc] at HP
    rw [e1]
    clear hc e1 hsz
    go_enter Tryz.func103, Tryz.ntmps103
    go_wp2_with (first | (go_at_call 145; refine (HP.out _).mono ?_; rintro e w' ⟨rfl, rfl⟩) | go_in)
    go_ret2
    exact ⟨rfl, rfl⟩

theorem elem_any (t : Str) (hl : t.length < 1000000) (w : World) : Calls Tryz.prog 240 #[.string (S t)] w fun e w' => e = .returned (.tuple #[.string (S ((elemP t).getD [])), .bool (elemP t).isSome]) ∧ Gr w w' := by
  have HC := Lib.hid (cut_any t)
  cases t with
  | nil =>
    simp only [cutP] at HC
    go_enter Tryz.func240, Tryz.ntmps240
    go_wp2_with fail
    refine (HC.out _).mono ?_
    rintro e w' ⟨rfl, rfl⟩
    go_wp2_with fail
    go_ret2
    exact ⟨rfl, Gr.refl _⟩
  | cons a n =>
    cases ha : a == 42
    · have e1 : cutP (a :: n) = (a :: n, false) := by simp [cutP, ha]
      have e2 : elemP (a :: n) = none := by simp [elemP, ha]
      rw [e1] at HC
      rw [e2]
      clear e1 e2 ha
      go_enter Tryz.func240, Tryz.ntmps240
      go_wp2_with fail
      refine (HC.out _).mono ?_
      rintro e w' ⟨rfl, rfl⟩
      go_wp2_with fail
      go_ret2
      exact ⟨rfl, Gr.refl _⟩
    · have e1 : cutP (a :: n) = (n, true) := by simp [cutP, ha]
      have e2 : elemP (a :: n) = if isWordP n then some n else none := by simp [elemP, ha]
      rw [e1] at HC
      rw [e2]
      have HW := Lib.hid (isWord_any (S n) (by rw [size_S]; simp at hl; omega))
      rw [data_S] at HW
      cases hw : isWordP n
      · rw [hw] at HW
        clear e1 e2 ha hw
        go_enter Tryz.func240, Tryz.ntmps240
        go_wp2_with fail
        refine (HC.out _).mono ?_
        rintro e w' ⟨rfl, rfl⟩
        go_wp2_with fail
        refine (HW.out _).mono ?_
        rintro e w' ⟨rfl, hg⟩
        go_wp2_with fail
        go_ret2
        exact ⟨rfl, hg⟩
      · rw [hw] at HW
        clear e1 e2 ha hw
        go_enter Tryz.func240, Tryz.ntmps240
        go_wp2_with fail
        refine (HC.out _).mono ?_
        rintro e w' ⟨rfl, rfl⟩
        go_wp2_with fail
        refine (HW.out _).mono ?_
        rintro e w' ⟨rfl, hg⟩
        go_wp2_with fail
        go_ret2
        exact ⟨rfl, hg⟩

theorem kIs_any (L : List Struc) (v : Value) (X : Nat → Prop) (t : Str) (w : World) (h : StrucsAt w X v L) (hl : L.length < 1000000) :
    Calls Tryz.prog 65 #[v, .string (S t)] w fun e w' => e = .returned (.bool (isTypP L t)) ∧ Gr w w' := by
  have HC := Lib.hid (cut_any t)
  have HF := Lib.hid (fun x w' (hg : Gr w w') => find_any L v X x w' (h.gr hg) hl)
  obtain ⟨vs, _, ⟨A, c, rfl, _, _⟩, _⟩ := h
  generalize ((L.zip vs).map strucPair).length = n at *
  have hi : ((S t).toList == [(105 : UInt8), 110, 116]) = (t == xInt) := by rw [ByteArray.toList_eq, data_S]; rfl
  have hb : ((S t).toList == [(98 : UInt8), 111, 111, 108]) = (t == xBool) := by rw [ByteArray.toList_eq, data_S]; rfl
  have hT : Hid (isTypP L t = (t == xInt || t == xBool || ((cutP t).2 && decide (0 ≤ findS L (cutP t).1)))) := by
    show isTypP L t = _
    unfold isTypP
    cases t with
    | nil => rfl
    | cons a n => unfold cutP; cases ha : a == 42 <;> simp [ha]
  obtain ⟨b1, hb1⟩ : ∃ b1, (t == xInt) = b1 := ⟨_, rfl⟩
  obtain ⟨b2, hb2⟩ : ∃ b2, (t == xBool) = b2 := ⟨_, rfl⟩
  rw [hb1] at hi hT
  rw [hb2] at hb hT
  clear hb1 hb2
  unfold placeV at HF
  cases b1
  · cases b2
    · cases hc : (cutP t).2
      · rw [hc] at HC hT
        clear hc
        go_enter Tryz.func65, Tryz.ntmps65
        go_wp2_with fail
        refine (HC.out _).mono ?_
        rintro e w' ⟨rfl, rfl⟩
        go_wp2_with fail
        go_ret
        exact ⟨ret_bool (by rw [hT.out]; rfl), Gr.refl _⟩
      · rw [hc] at HC hT
        clear hc
        go_enter Tryz.func65, Tryz.ntmps65
        go_wp2_with fail
        refine (HC.out _).mono ?_
        rintro e w' ⟨rfl, rfl⟩
        go_wp2_with fail
        refine (HF.out _ _ (Gr.refl _)).mono ?_
        rintro e w' ⟨rfl, hg⟩
        go_wp2_with fail
        go_ret
        exact ⟨ret_bool (by rw [hT.out]; rfl), hg⟩
    · go_enter Tryz.func65, Tryz.ntmps65
      go_wp2_with fail
      go_ret
      exact ⟨ret_bool (by rw [hT.out]; rfl), Gr.refl _⟩
  · go_enter Tryz.func65, Tryz.ntmps65
    go_wp2_with fail
    go_ret
    exact ⟨ret_bool (by rw [hT.out]; rfl), Gr.refl _⟩
end Go.Proofs.YthniejnbkkkbnaaGreatDoor
