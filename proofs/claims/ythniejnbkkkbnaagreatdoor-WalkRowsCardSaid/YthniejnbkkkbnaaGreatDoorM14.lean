/- Walks of layer check: what is declared, in memory; Fun and Global. Walks of layer check: the checker in memory; names and types. Walks of layer check: isFit, isEqual, binary. -/
import Derived.Test.YthniejnbkkkbnaaGreatDoorM13
set_option linter.all false
set_option linter.unusedSimpArgs false
set_option linter.unusedVariables false
namespace Go.Proofs.YthniejnbkkkbnaaGreatDoor
open Go.RowKit
set_option maxRecDepth 100000
set_option maxHeartbeats 1000000

def tripCells (L : List (Value × Value × Value)) : List Value := L.flatMap fun p => [p.1, p.2.1, p.2.2]
theorem tripCells_length (L : List (Value × Value × Value)) : (tripCells L).length = L.length * 3 := by
  induction L with
  | nil => rfl
  | cons p L ih => simp [tripCells] at *; omega
theorem tripCells_append (L M : List (Value × Value × Value)) : tripCells (L ++ M) = tripCells L ++ tripCells M := by simp [tripCells]
theorem tripCells_get (L : List (Value × Value × Value)) : ∀ (j : Nat) (hj : j < L.length), (tripCells L)[j * 3]? = some L[j].1 ∧ (tripCells L)[j * 3 + 1]? = some L[j].2.1 ∧ (tripCells L)[j * 3 + 2]? = some L[j].2.2 := by
  induction L with
  | nil => intro j hj; simp at hj
  | cons t L ih =>
    intro j hj
    have e : tripCells (t :: L) = [t.1, t.2.1, t.2.2] ++ tripCells L := by simp [tripCells]
    rw [e]
    cases j with
    | zero => simp
    | succ j =>
      have h := ih j (by simpa using hj)
      rw [List.getElem?_append_right (by simp; omega), List.getElem?_append_right (by simp; omega), List.getElem?_append_right (by simp; omega)]
      simp only [List.length_cons, List.length_nil, List.getElem_cons_succ]
      have e1 : (j + 1) * 3 - (0 + 1 + 1 + 1) = j * 3 := by omega
      have e2 : (j + 1) * 3 + 1 - (0 + 1 + 1 + 1) = j * 3 + 1 := by omega
      have e3 : (j + 1) * 3 + 2 - (0 + 1 + 1 + 1) = j * 3 + 2 := by omega
      rw [e1, e2, e3]
      exact h
def sigTrip (p : Sig × Value) : Value × Value × Value := (.string (S p.1.name), p.2, .string (S p.1.result))
/-- A slice of signatures. -/
def SigsAt (w : World) (X : Nat → Prop) (v : Value) (L : List Sig) : Prop :=
  ∃ vs : List Value, vs.length = L.length ∧ (∃ A c, v = .slice A L.length c ∧ L.length ≤ c ∧ RowR w X A (tripCells ((L.zip vs).map sigTrip))) ∧ ∀ (i : Nat) (s : Sig) (u : Value), L[i]? = some s → vs[i]? = some u → FldsAt w X u s.params
theorem SigsAt.frame {w w' : World} {X : Nat → Prop} {v : Value} {L : List Sig} (h : SigsAt w X v L) (hf : ∀ k, X k → k < w.heap.size → w'.heap[k]? = w.heap[k]?) : SigsAt w' X v L := by
  obtain ⟨vs, hl, ⟨A, c, hv, hc, hr⟩, hq⟩ := h
  exact ⟨vs, hl, ⟨A, c, hv, hc, hr.frame hf⟩, fun i s u hs hu => PairsAt.frame (hq i s u hs hu) hf⟩
theorem SigsAt.gr {w w' : World} {X : Nat → Prop} {v : Value} {L : List Sig} (h : SigsAt w X v L) (hg : Gr w w') : SigsAt w' X v L := h.frame fun k _ hk => hg.block k hk
theorem SigsAt.imp {w : World} {X Y : Nat → Prop} {v : Value} {L : List Sig} (h : SigsAt w X v L) (hXY : ∀ k, k < w.heap.size → X k → Y k) : SigsAt w Y v L := by
  obtain ⟨vs, hl, ⟨A, c, hv, hc, hr⟩, hq⟩ := h
  exact ⟨vs, hl, ⟨A, c, hv, hc, hr.imp hXY⟩, fun i s u hs hu => PairsAt.imp (hq i s u hs hu) hXY⟩

theorem idxSig_any (P : List (Value × Value × Value)) (A : Option Addr) (n c : Nat) (hn : n = P.length) (X : Nat → Prop) (k : FuncId) (cp : Value) (p : Value × Value × Value → Bool) (w : World) (hr : RowR w X A (tripCells P)) (hl : n < 1000000)
    (hk1 : Enters k) (hk2 : ∀ x, x ∈ P → ∀ w', Gr w w' → Calls Tryz.prog k #[.agg #[x.1, x.2.1, x.2.2], cp] w' fun e w'' => e = .returned (.bool (p x)) ∧ Gr w' w'') :
    Calls Tryz.prog 105 #[.slice A n c, .func (.func k) #[] #[cp]] w fun e w' => e = .returned (.int .i64 (idxFn p P)) ∧ Gr w w' := by
  have HN := Lib.hid hn
  have HK := Lib.hid hk2
  have HR := Lib.hid hr
  unfold Enters at hk1
  clear hn hk2 hr
  go_enter Tryz.func105, Tryz.ntmps105
  go_wp2
  go_loopw [5, 8] (fun _ t wr => ∃ j : Nat, j ≤ n ∧ Hid (∀ i (hi : i < P.length), i < j → p P[i] = false) ∧ t = .int .i64 j ∧ Gr w wr) (fun _ t _ => n - (intOf t).toNat)
  case atStart => exact ⟨0, by omega, fun i hi h => by omega, rfl, Gr.refl _⟩
  case round =>
    obtain ⟨j, hj, hall, rfl, hg⟩ := hrel
    by_cases hlt : j < n
    · have hltL : j < P.length := by rw [← HN.out]; exact hlt
      obtain ⟨g, off, rfl, hk, _, hc⟩ := (HR.out.gr hg).open_ (j := j * 3) (by rw [tripCells_length]; omega)
      obtain ⟨t0, t1, t2⟩ := tripCells_get P j hltL
      have hc0 := hc _ _ t0
      have hc1 := hc _ _ t1
      have hc2 := hc _ _ t2
      rw [← Nat.add_assoc] at hc1 hc2
      have HKJ := Lib.hid (HK.out _ (List.getElem_mem hltL) _ hg)
      obtain ⟨x, hx⟩ : ∃ x, P[j]'hltL = x := ⟨_, rfl⟩
      rw [hx] at hc0 hc1 hc2 HKJ
      obtain ⟨x1, x2, x3⟩ := x
      have HX := Lib.hid hx
      clear hc t0 t1 t2 hx
      go_wp2_with fail
      refine HKJ.out.mono ?_
      rintro e w' ⟨rfl, hg'⟩
      have hgg := hg.trans hg'
      clear hc0 hc1 hc2 hk
      cases hpj : p (x1, x2, x3)
      · have HP : Hid (p P[j] = false) := by show p P[j] = false; rw [HX.out]; exact hpj
        clear hpj
        go_wp2_with fail
        go_roundw
        case rel => exact ⟨j + 1, by omega, fun i hi hij => by { rcases Nat.lt_succ_iff_lt_or_eq.1 hij with h | rfl; exact hall.out i hi h; exact HP.out }, by go_num, hgg⟩
        case measure => simp [intOf]; omega
      · have HP : Hid (p P[j] = true) := by show p P[j] = true; rw [HX.out]; exact hpj
        clear hpj
        go_wp2_with fail
        go_ret
        exact ⟨ret_int (idxFn_hit hltL hall.out HP.out).symm, hgg⟩
    · go_wp2_with fail
      go_ret
      exact ⟨ret_int (idxFn_miss fun i hi => hall.out i hi (by have := HN.out; omega)).symm, hg⟩
theorem global1_any (a : Str) (u : Value) (x : Str) (b : Nat) (w : World) (hb : w.heap[b]? = some (.cells #[.string (S x)] 9 (0, 0))) :
    Calls Tryz.prog 175 #[.agg #[.string (S a), u], .pointer (some ⟨b, 0, none⟩)] w fun e w' => e = .returned (.bool (a == x)) ∧ Gr w w' := by
  have hc : w.cell? ⟨b, 0, none⟩ = some (.string (S x)) := cellAt hb rfl
  have hlt := blkLt hb
  clear hb
  have he : ((S a).toList == (S x).toList) = (a == x) := by rw [ByteArray.toList_eq, ByteArray.toList_eq, data_S, data_S]
  generalize hq : (a == x) = q at he ⊢
  clear hq
  go_enter Tryz.func175, Tryz.ntmps175
  go_wp2_with fail
  go_ret
  exact ⟨rfl, Gr.al _ _⟩
theorem en_global1 : Enters 175 := fun _ _ => by kernel_rfl
theorem fun1_any (a : Str) (u v : Value) (x : Str) (b : Nat) (w : World) (hb : w.heap[b]? = some (.cells #[.string (S x)] 9 (0, 0))) :
    Calls Tryz.prog 106 #[.agg #[.string (S a), u, v], .pointer (some ⟨b, 0, none⟩)] w fun e w' => e = .returned (.bool (a == x)) ∧ Gr w w' := by
  have hc : w.cell? ⟨b, 0, none⟩ = some (.string (S x)) := cellAt hb rfl
  have hlt := blkLt hb
  clear hb
  have he : ((S a).toList == (S x).toList) = (a == x) := by rw [ByteArray.toList_eq, ByteArray.toList_eq, data_S, data_S]
  generalize hq : (a == x) = q at he ⊢
  clear hq
  go_enter Tryz.func106, Tryz.ntmps106
  go_wp2_with fail
  go_ret
  exact ⟨rfl, Gr.al _ _⟩
theorem en_fun1 : Enters 106 := fun _ _ => by kernel_rfl
theorem idx_sigs (L : List Sig) (vs : List Value) (x : Str) (h : vs.length = L.length) : idxFn (fun q => strOf q.1 == x) ((L.zip vs).map sigTrip) = findG L x := by
  rw [idxFn_map]
  unfold findG
  conv => rhs; rw [← zip_fst L vs h, idxFn_map]
  refine congrArg (fun f => idxFn f _) (funext fun q => ?_)
  show (strOf (.string (S q.1.name)) == x) = _
  rw [strOf_S]

theorem infoFun_any (L : List Sig) (sv gv fv : Value) (X : Nat → Prop) (x : Str) (w : World) (h : SigsAt w X fv L) (hl : L.length < 1000000) :
    Calls Tryz.prog 67 #[.agg #[sv, gv, fv], .string (S x)] w fun e w' => e = .returned (placeV (findG L x)) ∧ Gr w w' := by
  obtain ⟨vs, hvl, ⟨A, c, rfl, hlc, hr⟩, hf⟩ := h
  have hix := idx_sigs L vs x hvl
  obtain ⟨P, hP⟩ : ∃ P, P = (L.zip vs).map sigTrip := ⟨_, rfl⟩
  have hpl : P.length = L.length := by rw [hP]; simp [hvl]
  have hmem : ∀ y ∈ P, ∃ a u v, y = (.string (S a), u, v) := by
    rw [hP]
    intro y hy
    obtain ⟨q, _, rfl⟩ := List.mem_map.1 hy
    exact ⟨q.1.name, _, _, rfl⟩
  rw [← hP] at hr hix
  obtain ⟨n, hn⟩ : ∃ n, n = L.length := ⟨_, rfl⟩
  have hn1 : n = P.length := by omega
  have hn2 : n < 1000000 := by omega
  have HR := Lib.hid hr
  have HN := Lib.hid hn1
  have HM := Lib.hid hmem
  rw [← hn]
  rw [← hix]
  obtain ⟨lo, hi⟩ := idxFn_lt (fun q => strOf q.1 == x) P
  rw [← hn1] at hi
  obtain ⟨i, hi0⟩ : ∃ i, i = idxFn (fun q => strOf q.1 == x) P := ⟨_, rfl⟩
  rw [← hi0] at lo hi ⊢
  have HI := Lib.hid hi0
  clear hr hn hn1 hP hf hmem hix hpl hl hi0 hlc
  have en := en_fun1
  unfold placeV
  go_enter Tryz.func67, Tryz.ntmps67
  go_wp2_with fail
  refine (idxSig_any P A n c HN.out X 106 (.pointer (some ⟨w.heap.size + 1, 0, none⟩)) (fun q => strOf q.1 == x) _ (HR.out.gr ((Gr.al _ _).alloc _)) hn2 en ?_).mono ?_
  · intro y hy w' hg
    obtain ⟨a, u, v, rfl⟩ := HM.out y hy
    refine (fun1_any a u v x _ w' (hg.blk (alloc2_snd _ _ _))).mono ?_
    rintro e w'' ⟨rfl, hg'⟩
    exact ⟨by rw [strOf_S], hg'⟩
  · rintro e w' ⟨rfl, hg⟩
    rw [← HI.out]
    go_wp2_with fail
    all_goals
      go_ret2
      exact ⟨ret_two (by omega) (by first | rfl | (simp; omega)), ((Gr.al _ _).alloc _).trans hg⟩

theorem infoGlobal_any (L : List Fld) (sv gv fv : Value) (X : Nat → Prop) (x : Str) (w : World) (h : FldsAt w X gv L) (hl : L.length < 1000000) :
    Calls Tryz.prog 122 #[.agg #[sv, gv, fv], .string (S x)] w fun e w' => e = .returned (placeV (findF L x)) ∧ Gr w w' := by
  obtain ⟨A, c, rfl, hlc, hr⟩ := h
  have hix := idx_flds L x
  obtain ⟨P, hP⟩ : ∃ P, P = L.map fldPair := ⟨_, rfl⟩
  have hpl : P.length = L.length := by rw [hP]; simp
  have hmem : ∀ y ∈ P, ∃ a u, y = (.string (S a), u) := by
    rw [hP]
    intro y hy
    obtain ⟨q, _, rfl⟩ := List.mem_map.1 hy
    exact ⟨q.name, _, rfl⟩
  rw [← hP] at hr hix ⊢
  obtain ⟨n, hn⟩ : ∃ n, n = P.length := ⟨_, rfl⟩
  have hn2 : n < 1000000 := by omega
  have HR := Lib.hid hr
  have HN := Lib.hid hn
  have HM := Lib.hid hmem
  rw [← hn]
  rw [← hix]
  obtain ⟨lo, hi⟩ := idxFn_lt (fun q => strOf q.1 == x) P
  rw [← hn] at hi
  obtain ⟨i, hi0⟩ : ∃ i, i = idxFn (fun q => strOf q.1 == x) P := ⟨_, rfl⟩
  rw [← hi0] at lo hi ⊢
  have HI := Lib.hid hi0
  clear hr hn hP hmem hix hpl hl hi0 hlc
  have en := en_global1
  unfold placeV
  go_enter Tryz.func122, Tryz.ntmps122
  go_wp2_with fail
  refine (idxField_any P A n c HN.out X 175 (.pointer (some ⟨w.heap.size + 1, 0, none⟩)) (fun q => strOf q.1 == x) _ (HR.out.gr ((Gr.al _ _).alloc _)) hn2 en ?_).mono ?_
  · intro y hy w' hg
    obtain ⟨a, u, rfl⟩ := HM.out y hy
    refine (global1_any a u x _ w' (hg.blk (alloc2_snd _ _ _))).mono ?_
    rintro e w'' ⟨rfl, hg'⟩
    exact ⟨by rw [strOf_S], hg'⟩
  · rintro e w' ⟨rfl, hg⟩
    rw [← HI.out]
    go_wp2_with fail
    all_goals
      go_ret2
      exact ⟨ret_two (by omega) (by first | rfl | (simp; omega)), ((Gr.al _ _).alloc _).trans hg⟩
end Go.Proofs.YthniejnbkkkbnaaGreatDoor

namespace Go.Proofs.YthniejnbkkkbnaaGreatDoor
open Go.RowKit
set_option maxRecDepth 100000
set_option maxHeartbeats 1000000

/-- A checker, but for its blocks: where it lies, and what it knows. -/
structure CK where
  cb : Nat
  B : Nat
  x : Info
  res : Str
  sv : Value
  gv : Value
  fv : Value
/-- The blocks that nobody writes while bodies are checked. -/
abbrev CK.X (C : CK) (k : Nat) : Prop := k < C.B ∧ k ≠ C.cb
def tmap (b : Blk) : List (Str × Value) := b.map fun p => (p.1, .string (S p.2))
structure CkAt (C : CK) (bl : List Blk) (ms : List Nat) (bv : Value) (w : World) : Prop where
  blk : w.heap[C.cb]? = some (.cells #[C.sv, C.gv, C.fv, bv, .string (S C.res)] 118 (0, 0))
  st : StrucsAt w C.X C.sv C.x.structs
  fl : FldsAt w C.X C.gv C.x.globals
  sg : SigsAt w C.X C.fv C.x.funs
  row : w.ownsRow C.B 150 1 bv bl.length (ms.map fun m => .map (some m))
  ml : ms.length = bl.length
  mp : ∀ (i m : Nat) (b : Blk), ms[i]? = some m → bl[i]? = some b → C.B ≤ m ∧ MapAt encS w m (tmap b)
  nd : ms.Nodup
  hB : C.B ≤ w.heap.size
  hcb : C.cb < C.B
  ls : C.x.structs.length < 1000000
  lg : C.x.globals.length < 1000000
  lf : C.x.funs.length < 1000000
  lb : bl.length < 1000000
theorem CkAt.gr {C : CK} {bl : List Blk} {ms : List Nat} {bv : Value} {w w' : World} (h : CkAt C bl ms bv w) (hg : Gr w w') : CkAt C bl ms bv w' :=
  ⟨hg.blk h.blk, h.st.gr hg, h.fl.gr hg, h.sg.gr hg, ownGr h.row hg, h.ml, fun i m b hm hb => ⟨(h.mp i m b hm hb).1, (h.mp i m b hm hb).2.gr hg⟩, h.nd, Nat.le_trans h.hB hg.size, h.hcb, h.ls, h.lg, h.lf, h.lb⟩
theorem cells5 {w : World} {b : Nat} {x y z u v : Value} {t : TypeId} {fr : Nat × Nat} (h : w.heap[b]? = some (.cells #[x, y, z, u, v] t fr)) :
    w.cell? ⟨b, 0, none⟩ = some x ∧ w.cell? ⟨b, 1, none⟩ = some y ∧ w.cell? ⟨b, 2, none⟩ = some z ∧ w.cell? ⟨b, 3, none⟩ = some u ∧ w.cell? ⟨b, 4, none⟩ = some v := ⟨cellAt h rfl, cellAt h rfl, cellAt h rfl, cellAt h rfl, cellAt h rfl⟩
theorem CkAt.cells {C : CK} {bl : List Blk} {ms : List Nat} {bv : Value} {w : World} (h : CkAt C bl ms bv w) :
    w.cell? ⟨C.cb, 0, none⟩ = some C.sv ∧ w.cell? ⟨C.cb, 1, none⟩ = some C.gv ∧ w.cell? ⟨C.cb, 2, none⟩ = some C.fv ∧ w.cell? ⟨C.cb, 3, none⟩ = some bv ∧ w.cell? ⟨C.cb, 4, none⟩ = some (.string (S C.res)) := cells5 h.blk
theorem CkAt.lt {C : CK} {bl : List Blk} {ms : List Nat} {bv : Value} {w : World} (h : CkAt C bl ms bv w) : C.cb < w.heap.size := blkLt h.blk

theorem zero_string (w : World) : (zeroValue 9).run Tryz.prog w = .ok (.string ⟨#[]⟩) w := by kernel_rfl
theorem aget_map {α β γ : Type} [BEq α] (f : β → γ) (m : List (α × β)) (x : α) : aget (m.map fun p => (p.1, f p.2)) x = (aget m x).map f := by
  unfold aget
  rw [List.find?_map]
  cases h : m.find? ((fun e => e.1 == x) ∘ fun p => (p.1, f p.2)) with
  | none =>
    have h2 : m.find? (fun e => e.1 == x) = none := h
    rw [h2]; rfl
  | some p =>
    have h2 : m.find? (fun e => e.1 == x) = some p := h
    rw [h2]; rfl
theorem run_get_mss (w : World) (m : Nat) (b : Blk) (x : Str) (h : MapAt encS w m (tmap b)) :
    (Instr.lookup 150 (.map (some m)) (.string (S x)) true).run Tryz.prog w = .ok (.tuple #[.string (S ((aget b x).getD [])), .bool (aget b x).isSome]) w := by
  have h1 := run_get_ok keyS Tryz.underlying150 Tryz.underlying9 (zero_string w) h x
  have e : aget (tmap b) x = (aget b x).map fun t => .string (S t) := aget_map (fun t => Value.string (S t)) b x
  rw [e] at h1
  cases h2 : aget b x with
  | none => rw [h2] at h1; exact h1
  | some t => rw [h2] at h1; exact h1

theorem localP_take (bl : List Blk) (x : Str) (j : Nat) (hj : j < bl.length) : localP (bl.take (j + 1)) x = match aget bl[j] x with | some t => some t | none => localP (bl.take j) x := by
  unfold localP
  rw [List.take_succ_eq_append_getElem hj]
  simp only [List.reverse_append, List.reverse_cons, List.reverse_nil, List.nil_append, List.cons_append, List.findSome?_cons]
  cases aget bl[j] x <;> rfl
def optS (o : Option Str) : Value := .tuple #[.string (S (o.getD [])), .bool o.isSome]
theorem ret_optS {o : Option Str} {t : Str} {q : Bool} (h : o.getD [] = t) (hq : o.isSome = q) : Ending.returned (.tuple #[.string (S t), .bool q]) = .returned (optS o) := by rw [← h, ← hq]; rfl

theorem local_any (C : CK) (bl : List Blk) (ms : List Nat) (bv : Value) (x : Str) (w : World) (h : CkAt C bl ms bv w) :
    Calls Tryz.prog 260 #[ptrV C.cb, .string (S x)] w fun e w' => e = .returned (optS (localP bl x)) ∧ w = w' := by
  obtain ⟨c0, c1, c2, c3, c4⟩ := h.cells
  have hlt := h.lt
  have hlb := h.lb
  obtain ⟨A, c, rfl, hc, hr⟩ := ownRow_row h.row
  have hml := h.ml
  have HMP := Lib.hid h.mp
  obtain ⟨cb, hcb⟩ : ∃ cb, cb = C.cb := ⟨_, rfl⟩
  rw [← hcb] at c3 hlt ⊢
  obtain ⟨n, hn⟩ : ∃ n, n = bl.length := ⟨_, rfl⟩
  rw [← hn] at hc hml c3 hlb
  have HR := Lib.hid hr
  have HN := Lib.hid hn
  have HML := Lib.hid hml
  clear c0 c1 c2 c4 h hr hn hcb hml
  go_enter Tryz.func260, Tryz.ntmps260
  go_wp2_with fail
  go_loop [6] (fun t => ∃ q : Int, t = .int .i64 q ∧ -1 ≤ q ∧ q < n ∧ Hid (localP bl x = localP (bl.take (q + 1).toNat) x)) (fun t => (intOf t + 1).toNat)
  case atStart =>
    refine ⟨(n : Int) - 1, by go_num, by omega, by omega, ?_⟩
    show localP bl x = _
    rw [List.take_of_length_le (by rw [← HN.out]; omega)]
  case round =>
    obtain ⟨q, rfl, hq1, hq2, hL⟩ := hrel
    by_cases hq : 0 ≤ q
    · obtain ⟨j, rfl⟩ := Int.eq_ofNat_of_zero_le hq
      have hjn : j < n := by omega
      have hjb : j < bl.length := by rw [← HN.out]; exact hjn
      have hjm : j < ms.length := by rw [HML.out]; exact hjn
      obtain ⟨g, off, rfl, hg, _, hcl⟩ := HR.out.open_ (j := j) (by simpa using hjm)
      have hcj := hcl j (.map (some ms[j])) (by simp [hjm])
      have hmj := (HMP.out j ms[j] bl[j] (by simp [hjm]) (by simp [hjb])).2
      have hlk := run_get_mss w ms[j] bl[j] x hmj
      have hL2 := hL.out
      rw [show ((j : Int) + 1).toNat = j + 1 by omega, localP_take bl x j hjb] at hL2
      obtain ⟨m, hm⟩ : ∃ m, ms[j] = m := ⟨_, rfl⟩
      rw [hm] at hcj hlk
      obtain ⟨o, ho⟩ : ∃ o, aget bl[j] x = o := ⟨_, rfl⟩
      rw [ho] at hL2 hlk
      clear hcl hmj hL hm ho hq
      cases o with
      | none =>
        have HL := Lib.hid hL2
        clear hL2
        simp only [Option.getD, Option.isSome] at hlk
        go_wp2_with fail
        go_round
        case rel =>
          refine ⟨(j : Int) - 1, by go_num, by omega, by omega, ?_⟩
          show localP bl x = _
          rw [HL.out, show ((j : Int) - 1 + 1).toNat = j by omega]
        case measure => first | (simp [intOf]; done) | (simp [intOf]; omega)
      | some t =>
        have HL := Lib.hid hL2
        clear hL2
        simp only [Option.getD, Option.isSome] at hlk
        go_wp2_with fail
        go_ret2
        exact ⟨ret_optS (by rw [HL.out]; rfl) (by rw [HL.out]; rfl), rfl⟩
    · have hm1 : q = -1 := by omega
      subst hm1
      go_wp2_with fail
      go_ret2
      have : localP bl x = none := by rw [hL.out]; rfl
      exact ⟨ret_optS (by rw [this]; rfl) (by rw [this]; rfl), rfl⟩

theorem isNamed_any (C : CK) (bl : List Blk) (ms : List Nat) (bv : Value) (x : Str) (w : World) (h : CkAt C bl ms bv w) :
    Calls Tryz.prog 261 #[ptrV C.cb, .string (S x)] w fun e w' => e = .returned (.bool (isNamedP C.x x)) ∧ Gr w w' := by
  have HC := Lib.hid h
  have HS := Lib.hid (fun w' (hg : Gr w w') => find_any C.x.structs C.sv _ x w' (h.st.gr hg) h.ls)
  have HG := Lib.hid (fun w' (hg : Gr w w') => infoGlobal_any C.x.globals C.sv C.gv C.fv _ x w' (h.fl.gr hg) h.lg)
  have HF := Lib.hid (fun w' (hg : Gr w w') => infoFun_any C.x.funs C.sv C.gv C.fv _ x w' (h.sg.gr hg) h.lf)
  obtain ⟨c0, c1, c2, c3, c4⟩ := h.cells
  have hlt := h.lt
  have hP : Hid (isNamedP C.x x = (decide (0 ≤ findS C.x.structs x) || decide (0 ≤ findF C.x.globals x) || decide (0 ≤ findG C.x.funs x))) := rfl
  generalize findS C.x.structs x = a at HS hP
  generalize findF C.x.globals x = b at HG hP
  generalize findG C.x.funs x = c at HF hP
  unfold placeV at HS HG HF
  clear h
  by_cases ha : 0 ≤ a
  · simp only [ha, decide_true, Bool.true_or] at HS hP
    go_enter Tryz.func261, Tryz.ntmps261
    go_wp2_with fail
    refine (HS.out _ (Gr.refl _)).mono ?_
    rintro e w1 ⟨rfl, hg1⟩
    obtain ⟨d0, d1, d2, d3, d4⟩ := (HC.out.gr hg1).cells
    have hl1 := (HC.out.gr hg1).lt
    go_wp2_with fail
    refine (HG.out _ hg1).mono ?_
    rintro e w2 ⟨rfl, hg2⟩
    have hg12 := hg1.trans hg2
    obtain ⟨e0, e1, e2, e3, e4⟩ := (HC.out.gr hg12).cells
    have hl2 := (HC.out.gr hg12).lt
    go_wp2_with fail
    refine (HF.out _ hg12).mono ?_
    rintro e w3 ⟨rfl, hg3⟩
    go_wp2_with fail
    go_ret
    exact ⟨ret_bool (by rw [hP.out]), hg12.trans hg3⟩
  · have ha' : decide (0 ≤ a) = false := by simpa using ha
    by_cases hb : 0 ≤ b
    · simp only [ha', hb, decide_true, Bool.true_or, Bool.false_or] at HS HG hP
      clear ha ha'
      go_enter Tryz.func261, Tryz.ntmps261
      go_wp2_with fail
      refine (HS.out _ (Gr.refl _)).mono ?_
      rintro e w1 ⟨rfl, hg1⟩
      obtain ⟨d0, d1, d2, d3, d4⟩ := (HC.out.gr hg1).cells
      have hl1 := (HC.out.gr hg1).lt
      go_wp2_with fail
      refine (HG.out _ hg1).mono ?_
      rintro e w2 ⟨rfl, hg2⟩
      have hg12 := hg1.trans hg2
      obtain ⟨e0, e1, e2, e3, e4⟩ := (HC.out.gr hg12).cells
      have hl2 := (HC.out.gr hg12).lt
      go_wp2_with fail
      refine (HF.out _ hg12).mono ?_
      rintro e w3 ⟨rfl, hg3⟩
      go_wp2_with fail
      go_ret
      exact ⟨ret_bool (by rw [hP.out]), hg12.trans hg3⟩
    · have hb' : decide (0 ≤ b) = false := by simpa using hb
      simp only [ha', hb', Bool.false_or] at HS HG hP
      clear ha ha' hb hb'
      obtain ⟨q, hq⟩ : ∃ q, decide (0 ≤ c) = q := ⟨_, rfl⟩
      rw [hq] at HF hP
      clear hq
      go_enter Tryz.func261, Tryz.ntmps261
      go_wp2_with fail
      refine (HS.out _ (Gr.refl _)).mono ?_
      rintro e w1 ⟨rfl, hg1⟩
      obtain ⟨d0, d1, d2, d3, d4⟩ := (HC.out.gr hg1).cells
      have hl1 := (HC.out.gr hg1).lt
      go_wp2_with fail
      refine (HG.out _ hg1).mono ?_
      rintro e w2 ⟨rfl, hg2⟩
      have hg12 := hg1.trans hg2
      obtain ⟨e0, e1, e2, e3, e4⟩ := (HC.out.gr hg12).cells
      have hl2 := (HC.out.gr hg12).lt
      go_wp2_with fail
      refine (HF.out _ hg12).mono ?_
      rintro e w3 ⟨rfl, hg3⟩
      go_wp2_with fail
      go_ret
      exact ⟨ret_bool (by rw [hP.out]), hg12.trans hg3⟩

theorem isPointer_any (t : Str) (hl : t.length < 1000000) (w : World) : Calls Tryz.prog 259 #[.string (S t)] w fun e w' => e = .returned (.bool (isPointerP t)) ∧ Gr w w' := by
  have HE := Lib.hid (elem_any t hl)
  have hP : Hid (isPointerP t = (elemP t).isSome) := rfl
  generalize (elemP t).isSome = q at HE hP
  generalize (elemP t).getD [] = u at HE
  go_enter Tryz.func259, Tryz.ntmps259
  go_wp2_with fail
  refine (HE.out _).mono ?_
  rintro e w1 ⟨rfl, hg1⟩
  go_wp2_with fail
  go_ret
  exact ⟨ret_bool hP.out.symm, hg1⟩
end Go.Proofs.YthniejnbkkkbnaaGreatDoor

namespace Go.Proofs.YthniejnbkkkbnaaGreatDoor
open Go.RowKit
set_option maxRecDepth 100000
set_option maxHeartbeats 1000000

theorem eqS (a b : Str) : ((S a).toList == (S b).toList) = (a == b) := by rw [ByteArray.toList_eq, ByteArray.toList_eq, data_S, data_S]
theorem eqL (a b : Str) : ((S a).toList == b) = (a == b) := by rw [ByteArray.toList_eq, data_S]
theorem emptyS (a : Str) : (S a).toList.isEmpty = (a == []) := by rw [ByteArray.toList_eq, data_S]; cases a <;> rfl

theorem isFit_any (a b : Str) (hb : b.length < 1000000) (w : World) : Calls Tryz.prog 213 #[.string (S a), .string (S b)] w fun e w' => e = .returned (.bool (isFitP a b)) ∧ Gr w w' := by
  have HP := Lib.hid (isPointer_any b hb)
  have hF : Hid (isFitP a b = ((a != [] && a == b) || (a == xNull && isPointerP b))) := rfl
  have h1 := eqS a b
  have h2 : ((S a).toList == [(110 : UInt8), 105, 108]) = (a == xNull) := eqL a _
  have h3 := emptyS a
  have hne : (a != []) = !(a == []) := rfl
  rw [hne] at hF
  generalize isPointerP b = p at HP hF
  generalize (a == []) = q1 at *
  generalize (a == b) = q2 at *
  generalize (a == xNull) = q3 at *
  clear hne
  cases q1 <;> cases q2 <;> cases q3
  all_goals
    go_enter Tryz.func213, Tryz.ntmps213
    go_wp2_with (go_at_call 259; refine (HP.out _).mono ?_; rintro e w1 ⟨rfl, hg1⟩)
    go_ret
    exact ⟨ret_bool (by rw [hF.out]; simp), by first | exact Gr.refl _ | exact hg1⟩

theorem isEqual_any (a b : Str) (ha : a.length < 1000000) (hb : b.length < 1000000) (w : World) : Calls Tryz.prog 262 #[.string (S a), .string (S b)] w fun e w' => e = .returned (.bool (isEqualP a b)) ∧ Gr w w' := by
  have HA := Lib.hid (isPointer_any a ha)
  have HB := Lib.hid (isPointer_any b hb)
  have hF : Hid (isEqualP a b = ((a == b && (a == xInt || a == xBool || isPointerP a)) || (a == xNull && isPointerP b) || (b == xNull && isPointerP a))) := rfl
  have h1 := eqS a b
  have h2 : ((S a).toList == [(110 : UInt8), 105, 108]) = (a == xNull) := eqL a _
  have h3 : ((S b).toList == [(110 : UInt8), 105, 108]) = (b == xNull) := eqL b _
  have h4 : ((S a).toList == [(105 : UInt8), 110, 116]) = (a == xInt) := eqL a _
  have h5 : ((S a).toList == [(98 : UInt8), 111, 111, 108]) = (a == xBool) := eqL a _
  generalize isPointerP a = pa at *
  generalize isPointerP b = pb at *
  generalize (a == b) = q1 at *
  generalize (a == xNull) = q2 at *
  generalize (b == xNull) = q3 at *
  generalize (a == xInt) = q4 at *
  generalize (a == xBool) = q5 at *
  clear ha hb
  cases q1
  · skip
    cases q2
    · skip
      cases q3
      · skip
        go_enter Tryz.func262, Tryz.ntmps262
        go_wp2_with fail
        go_ret
        exact ⟨ret_bool (by rw [hF.out]; simp), (Gr.refl w)⟩
      · skip
        go_enter Tryz.func262, Tryz.ntmps262
        go_wp2_with fail
        refine (HA.out _).mono ?_
        rintro e w1 ⟨rfl, hg1⟩
        go_wp2_with fail
        go_ret
        exact ⟨ret_bool (by rw [hF.out]; simp), ((Gr.refl w).trans hg1)⟩
    · skip
      cases pb
      · skip
        cases q3
        · skip
          go_enter Tryz.func262, Tryz.ntmps262
          go_wp2_with fail
          refine (HB.out _).mono ?_
          rintro e w1 ⟨rfl, hg1⟩
          go_wp2_with fail
          go_ret
          exact ⟨ret_bool (by rw [hF.out]; simp), ((Gr.refl w).trans hg1)⟩
        · skip
          go_enter Tryz.func262, Tryz.ntmps262
          go_wp2_with fail
          refine (HB.out _).mono ?_
          rintro e w1 ⟨rfl, hg1⟩
          go_wp2_with fail
          refine (HA.out _).mono ?_
          rintro e w2 ⟨rfl, hg2⟩
          go_wp2_with fail
          go_ret
          exact ⟨ret_bool (by rw [hF.out]; simp), (((Gr.refl w).trans hg1).trans hg2)⟩
      · skip
        go_enter Tryz.func262, Tryz.ntmps262
        go_wp2_with fail
        refine (HB.out _).mono ?_
        rintro e w1 ⟨rfl, hg1⟩
        go_wp2_with fail
        go_ret
        exact ⟨ret_bool (by rw [hF.out]; simp), ((Gr.refl w).trans hg1)⟩
  · cases q4
    · cases q5
      · cases pa
        · skip
          cases q2
          · skip
            cases q3
            · skip
              go_enter Tryz.func262, Tryz.ntmps262
              go_wp2_with fail
              refine (HA.out _).mono ?_
              rintro e w1 ⟨rfl, hg1⟩
              go_wp2_with fail
              go_ret
              exact ⟨ret_bool (by rw [hF.out]; simp), ((Gr.refl w).trans hg1)⟩
            · skip
              go_enter Tryz.func262, Tryz.ntmps262
              go_wp2_with fail
              refine (HA.out _).mono ?_
              rintro e w1 ⟨rfl, hg1⟩
              go_wp2_with fail
              refine (HA.out _).mono ?_
              rintro e w2 ⟨rfl, hg2⟩
              go_wp2_with fail
              go_ret
              exact ⟨ret_bool (by rw [hF.out]; simp), (((Gr.refl w).trans hg1).trans hg2)⟩
          · skip
            cases pb
            · skip
              cases q3
              · skip
                go_enter Tryz.func262, Tryz.ntmps262
                go_wp2_with fail
                refine (HA.out _).mono ?_
                rintro e w1 ⟨rfl, hg1⟩
                go_wp2_with fail
                refine (HB.out _).mono ?_
                rintro e w2 ⟨rfl, hg2⟩
                go_wp2_with fail
                go_ret
                exact ⟨ret_bool (by rw [hF.out]; simp), (((Gr.refl w).trans hg1).trans hg2)⟩
              · skip
                go_enter Tryz.func262, Tryz.ntmps262
                go_wp2_with fail
                refine (HA.out _).mono ?_
                rintro e w1 ⟨rfl, hg1⟩
                go_wp2_with fail
                refine (HB.out _).mono ?_
                rintro e w2 ⟨rfl, hg2⟩
                go_wp2_with fail
                refine (HA.out _).mono ?_
                rintro e w3 ⟨rfl, hg3⟩
                go_wp2_with fail
                go_ret
                exact ⟨ret_bool (by rw [hF.out]; simp), ((((Gr.refl w).trans hg1).trans hg2).trans hg3)⟩
            · skip
              go_enter Tryz.func262, Tryz.ntmps262
              go_wp2_with fail
              refine (HA.out _).mono ?_
              rintro e w1 ⟨rfl, hg1⟩
              go_wp2_with fail
              refine (HB.out _).mono ?_
              rintro e w2 ⟨rfl, hg2⟩
              go_wp2_with fail
              go_ret
              exact ⟨ret_bool (by rw [hF.out]; simp), (((Gr.refl w).trans hg1).trans hg2)⟩
        · skip
          go_enter Tryz.func262, Tryz.ntmps262
          go_wp2_with fail
          refine (HA.out _).mono ?_
          rintro e w1 ⟨rfl, hg1⟩
          go_wp2_with fail
          go_ret
          exact ⟨ret_bool (by rw [hF.out]; simp), ((Gr.refl w).trans hg1)⟩
      · skip
        go_enter Tryz.func262, Tryz.ntmps262
        go_wp2_with fail
        go_ret
        exact ⟨ret_bool (by rw [hF.out]; simp), (Gr.refl w)⟩
    · skip
      go_enter Tryz.func262, Tryz.ntmps262
      go_wp2_with fail
      go_ret
      exact ⟨ret_bool (by rw [hF.out]; simp), (Gr.refl w)⟩
end Go.Proofs.YthniejnbkkkbnaaGreatDoor
