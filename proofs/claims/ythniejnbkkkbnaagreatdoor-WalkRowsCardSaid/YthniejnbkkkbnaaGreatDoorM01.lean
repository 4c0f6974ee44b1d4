/- Small lemmas on worlds, rows of cells, and texts, used by the walks. The plain functions of the layers num (signs, levels) and lex: what the Go functions answer, over lists of bytes. The plain functions of layer parse: what Parse answers, over lists of tokens. -/
import Derived.Test.YthniejnbkkkbnaaGreatDoorProg
import Derived.WalkKit
import Derived.WalkSpells
import Derived.WalkLawsBesides
import Derived.Handy
import Derived.Lib.Hide
import Derived.BigQuiet
import Derived.KernelRfl
set_option linter.all false
set_option linter.unusedSimpArgs false
set_option linter.unusedVariables false
namespace Go.Proofs.YthniejnbkkkbnaaGreatDoor
open Go.RowKit

abbrev Str := List UInt8
/-- A text as the model's string. -/
def S (l : Str) : ByteArray := ⟨l.toArray⟩
theorem S_data (b : ByteArray) : S b.data.toList = b := by cases b; simp [S]
theorem data_S (l : Str) : (S l).data.toList = l := by simp [S]
theorem size_S (l : Str) : (S l).size = l.length := by simp [S, ByteArray.size]
theorem ba_ext {a b : ByteArray} (h : a.data.toList = b.data.toList) : a = b := by
  rw [← S_data a, ← S_data b, h]
theorem extract_list (s : ByteArray) (a b : Nat) : (s.extract a b).data.toList = (s.data.toList.drop a).take (b - a) := by
  simp [ByteArray.data_extract]
theorem extract_S (s : ByteArray) (a b : Nat) : s.extract a b = S ((s.data.toList.drop a).take (b - a)) := by
  apply ba_ext; rw [extract_list, data_S]
theorem size_list (s : ByteArray) : s.data.toList.length = s.size := rfl
theorem S_inj {a b : Str} (h : S a = S b) : a = b := by rw [← data_S a, ← data_S b, h]
/-- Nothing that was there has turned; there may be more. -/
def Gr (w w' : World) : Prop := Below w.heap.size w w'
theorem Gr.refl (w : World) : Gr w w := Below.refl _ _
theorem Gr.trans {a b c : World} (h : Gr a b) (k : Gr b c) : Gr a c := Below.trans h (Below.mono k h.size)
theorem Gr.alloc {a b : World} (h : Gr a b) (o : Obj) : Gr a (b.alloc o) := Below.alloc h h.size o
theorem Gr.al (w : World) (o : Obj) : Gr w (w.alloc o) := (Gr.refl w).alloc o
theorem Gr.drew {a b : World} (h : Gr a b) : Gr a b.drew := Below.drew h
theorem Gr.drewN {a b : World} (h : Gr a b) (n : Nat) : Gr a (b.drewN n) := ⟨h.os, h.tape, h.output, h.size, h.block⟩
theorem Gr.setCell {a b : World} (h : Gr a b) {p : Addr} (hp : a.heap.size ≤ p.block) (u : Value) : Gr a (b.setCell p u) := Below.setCell h hp u
theorem Gr.blk {a b : World} (h : Gr a b) {k : Nat} {o : Obj} (hk : a.heap[k]? = some o) : b.heap[k]? = some o := by
  rw [h.block k (Array.getElem?_eq_some_iff.1 hk).1]; exact hk
theorem Gr.below {a b : World} (h : Gr a b) : Below a.heap.size a b := h
theorem Gr.of {a b : World} (h : Below a.heap.size a b) : Gr a b := h

theorem cellAt' {w : World} {b i : Nat} {cs : Array Value} {t : TypeId} {fr : Nat × Nat} {v : Value} (h : w.heap[b]? = some (.cells cs t fr)) (hv : cs[i]? = some v) :
    w.cell? ⟨b, i, none⟩ = some v := by simp [World.cell?, h, hv]
theorem Gr.cells {a b : World} (h : Gr a b) : (∀ k o, k < a.heap.size → b.cell? ⟨k, o, none⟩ = a.cell? ⟨k, o, none⟩) ∧ (∀ k o, k < a.heap.size → b.frozen? ⟨k, o, none⟩ = a.frozen? ⟨k, o, none⟩) ∧ a.heap.size ≤ b.heap.size :=
  ⟨fun k o hk => Below.cell (p := ⟨k, o, none⟩) h hk, fun k o hk => Below.frozen (p := ⟨k, o, none⟩) h hk, h.size⟩
theorem Gr.grownNone {a b : World} (h : Gr a b) : a.grownBy b none := ⟨h.os, h.tape, h.output, h.size, fun k hk _ => h.block k hk⟩
theorem ownGr {w w' : World} {base : Nat} {e : TypeId} {size : Nat} {v : Value} {n : Nat} {xs : List Value} (h : w.ownsRow base e size v n xs) (hg : Gr w w') : w'.ownsRow base e size v n xs :=
  h.kept hg.grownNone (by cases v.ownBlock <;> simp)
theorem Gr.grown {w w1 w2 : World} (h : Gr w w1) {row : Option Nat} (hg : w1.grownBy w2 row) (hr : ∀ k, row = some k → w.heap.size ≤ k) : Gr w w2 := Below.grown h hg h.size hr
theorem own_ge {w : World} {base : Nat} {e : TypeId} {size n : Nat} {v : Value} {xs : List Value} (h : w.ownsRow base e size v n xs) : ∀ k, v.ownBlock = some k → base ≤ k := fun k hk => (h.lt k hk).1
theorem cells3_add {w : World} {b : Nat} {x y z : Value} {t : TypeId} {fr : Nat × Nat} (h : w.heap[b]? = some (.cells #[x, y, z] t fr)) :
    ∀ j u, [x, y, z][j]? = some u → w.cell? ((⟨b, 0, none⟩ : Addr).add j) = some u := by
  intro j u hu
  have : (⟨b, 0, none⟩ : Addr).add j = ⟨b, j, none⟩ := by unfold Addr.add; split <;> simp_all
  rw [this]
  exact cellAt' h (by simpa using hu)
theorem cellAt {w : World} {b i : Nat} {cs : Array Value} {t : TypeId} {fr : Nat × Nat} {v : Value} (h : w.heap[b]? = some (.cells cs t fr)) (hv : cs[i]? = some v) :
    w.cell? ⟨b, i, none⟩ = some v := by simp [World.cell?, h, hv]
theorem blkLt {w : World} {b : Nat} {o : Obj} (h : w.heap[b]? = some o) : b < w.heap.size := (Array.getElem?_eq_some_iff.1 h).1
theorem frAt {w : World} {b i : Nat} {cs : Array Value} {t : TypeId} (h : w.heap[b]? = some (.cells cs t (0, 0))) : w.frozen? ⟨b, i, none⟩ = false := by
  simp [World.frozen?, h]
theorem blk_alloc (w : World) (o : Obj) : (w.alloc o).heap[w.heap.size]? = some o := heap_alloc_new w o
theorem blk_alloc_lt {w : World} {b : Nat} {o o' : Obj} (h : w.heap[b]? = some o) : (w.alloc o').heap[b]? = some o := (Gr.al w o').blk h

theorem alloc2_fst (w : World) (A B : Obj) : ((w.alloc A).alloc B).heap[w.heap.size]? = some A := blk_alloc_lt (blk_alloc w A)
theorem alloc2_snd (w : World) (A B : Obj) : ((w.alloc A).alloc B).heap[w.heap.size + 1]? = some B := by
  have h := blk_alloc (w.alloc A) B
  rwa [World.size_alloc] at h
theorem alloc3_trd (w : World) (A B C : Obj) : (((w.alloc A).alloc B).alloc C).heap[w.heap.size + 2]? = some C := by
  have h := alloc2_snd (w.alloc A) B C
  rwa [World.size_alloc] at h
theorem cells2 {w : World} {b : Nat} {x y : Value} {t : TypeId} {fr : Nat × Nat} (h : w.heap[b]? = some (.cells #[x, y] t fr)) :
    w.cell? ⟨b, 0, none⟩ = some x ∧ w.cell? ⟨b, 1, none⟩ = some y := ⟨cellAt h rfl, cellAt h rfl⟩
theorem cells3 {w : World} {b : Nat} {x y z : Value} {t : TypeId} {fr : Nat × Nat} (h : w.heap[b]? = some (.cells #[x, y, z] t fr)) :
    w.cell? ⟨b, 0, none⟩ = some x ∧ w.cell? ⟨b, 1, none⟩ = some y ∧ w.cell? ⟨b, 2, none⟩ = some z := ⟨cellAt h rfl, cellAt h rfl, cellAt h rfl⟩
theorem cells4 {w : World} {b : Nat} {x y z u : Value} {t : TypeId} {fr : Nat × Nat} (h : w.heap[b]? = some (.cells #[x, y, z, u] t fr)) :
    w.cell? ⟨b, 0, none⟩ = some x ∧ w.cell? ⟨b, 1, none⟩ = some y ∧ w.cell? ⟨b, 2, none⟩ = some z ∧ w.cell? ⟨b, 3, none⟩ = some u := ⟨cellAt h rfl, cellAt h rfl, cellAt h rfl, cellAt h rfl⟩
theorem cells6 {w : World} {b : Nat} {x y z u v p : Value} {t : TypeId} {fr : Nat × Nat} (h : w.heap[b]? = some (.cells #[x, y, z, u, v, p] t fr)) :
    w.cell? ⟨b, 0, none⟩ = some x ∧ w.cell? ⟨b, 1, none⟩ = some y ∧ w.cell? ⟨b, 2, none⟩ = some z ∧ w.cell? ⟨b, 3, none⟩ = some u ∧ w.cell? ⟨b, 4, none⟩ = some v ∧ w.cell? ⟨b, 5, none⟩ = some p := ⟨cellAt h rfl, cellAt h rfl, cellAt h rfl, cellAt h rfl, cellAt h rfl, cellAt h rfl⟩
theorem frozenAt {w : World} {b : Nat} {cs : Array Value} {t : TypeId} (h : w.heap[b]? = some (.cells cs t (0, 0))) : ∀ i, w.frozen? ⟨b, i, none⟩ = false := fun _ => frAt h

theorem blk_setCell {w : World} {b i : Nat} {cs : Array Value} {t : TypeId} {fr : Nat × Nat} {v : Value} (h : w.heap[b]? = some (.cells cs t fr)) :
    (w.setCell ⟨b, i, none⟩ v).heap[b]? = some (.cells (cs.setIfInBounds i v) t fr) := by simp [World.setCell, Array.getElem?_modify, h]
theorem blk_setCell_ne {w : World} {k : Nat} {o : Obj} {a : Addr} {v : Value} (h : w.heap[k]? = some o) (hne : k ≠ a.block) : (w.setCell a v).heap[k]? = some o := by
  rw [Below.heap_setCell _ _ _ _ hne]; exact h

/-- A row of cells that a slice's address leads to, in blocks of a kind. -/
def RowR (w : World) (X : Nat → Prop) (A : Option Addr) (cs : List Value) : Prop :=
  cs = [] ∨ ∃ k off arr t fr, X k ∧ A = some ⟨k, off, none⟩ ∧ w.heap[k]? = some (.cells arr t fr) ∧ ∀ i v, cs[i]? = some v → arr[off + i]? = some v
theorem RowR.frame {w w' : World} {X : Nat → Prop} {A : Option Addr} {cs : List Value} (h : RowR w X A cs) (hf : ∀ k, X k → k < w.heap.size → w'.heap[k]? = w.heap[k]?) : RowR w' X A cs := by
  rcases h with h | ⟨k, off, arr, t, fr, hX, hA, hk, hc⟩
  · exact .inl h
  · exact .inr ⟨k, off, arr, t, fr, hX, hA, by rw [hf k hX (blkLt hk)]; exact hk, hc⟩
theorem RowR.gr {w w' : World} {X : Nat → Prop} {A : Option Addr} {cs : List Value} (h : RowR w X A cs) (hg : Gr w w') : RowR w' X A cs :=
  h.frame fun k _ hk => hg.block k hk
theorem RowR.imp {w : World} {X Y : Nat → Prop} {A : Option Addr} {cs : List Value} (h : RowR w X A cs) (hXY : ∀ k, k < w.heap.size → X k → Y k) : RowR w Y A cs := by
  rcases h with h | ⟨k, off, arr, t, fr, hX, hA, hk, hc⟩
  · exact .inl h
  · exact .inr ⟨k, off, arr, t, fr, hXY k (blkLt hk) hX, hA, hk, hc⟩
theorem RowR.open_ {w : World} {X : Nat → Prop} {A : Option Addr} {cs : List Value} (h : RowR w X A cs) {j : Nat} (hj : j < cs.length) :
    ∃ k off, A = some ⟨k, off, none⟩ ∧ k < w.heap.size ∧ X k ∧ ∀ i v, cs[i]? = some v → w.cell? ⟨k, off + i, none⟩ = some v := by
  rcases h with h | ⟨k, off, arr, t, fr, hX, hA, hk, hc⟩
  · subst h; simp at hj
  · exact ⟨k, off, hA, blkLt hk, hX, fun i v hv => cellAt hk (hc i v hv)⟩
theorem RowR.alloc {w : World} {t : TypeId} (cs : List Value) : RowR (w.alloc (.cells cs.toArray t (0, 0))) (fun _ => True) (some ⟨w.heap.size, 0, none⟩) cs :=
  .inr ⟨w.heap.size, 0, cs.toArray, t, (0, 0), trivial, rfl, blk_alloc _ _, fun i v hv => by simpa using hv⟩

theorem ret_bool {a b : Bool} (h : a = b) : Ending.returned (.bool a) = .returned (.bool b) := by rw [h]
theorem ret_int {k : IntKind} {a b : Int} (h : a = b) : Ending.returned (.int k a) = .returned (.int k b) := by rw [h]
theorem ret_str {a b : ByteArray} (h : a = b) : Ending.returned (.string a) = .returned (.string b) := by rw [h]
theorem ret_v {a b : Value} (h : a = b) : Ending.returned a = .returned b := by rw [h]

end Go.Proofs.YthniejnbkkkbnaaGreatDoor

namespace Go.Proofs.YthniejnbkkkbnaaGreatDoor

def isBlankB (b : UInt8) : Bool := (b.toNat : Int) == 32 || (b.toNat : Int) == 9 || (b.toNat : Int) == 10 || (b.toNat : Int) == 13
def isDigitB (b : UInt8) : Bool := decide (48 ≤ (b.toNat : Int)) && decide ((b.toNat : Int) ≤ 57)
def isLetterB (b : UInt8) : Bool := (decide (97 ≤ (b.toNat : Int)) && decide ((b.toNat : Int) ≤ 122)) || (decide (65 ≤ (b.toNat : Int)) && decide ((b.toNat : Int) ≤ 90)) || (b.toNat : Int) == 95
def notNlB (b : UInt8) : Bool := (b.toNat : Int) != 10
def nameB (b : UInt8) : Bool := isLetterB b || isDigitB b

def runP (p : UInt8 → Bool) (l : Str) : Nat := (l.takeWhile p).length
theorem runP_le (p : UInt8 → Bool) (l : Str) : runP p l ≤ l.length := (List.takeWhile_prefix p).length_le
theorem take_all {p : UInt8 → Bool} {l : Str} {k : Nat} (h : ∀ i (hi : i < l.length), i < k → p l[i] = true) (hk : k < l.length) (hp : p l[k] = false) : runP p l = k := by
  unfold runP
  induction l generalizing k with
  | nil => simp at hk
  | cons a l ih =>
    cases k with
    | zero => simp at hp; simp [hp]
    | succ k =>
      have h0 := h 0 (by simp) (by omega)
      simp at h0
      simp [h0]
      exact ih (fun i hi hik => by have := h (i+1) (by simp; omega) (by omega); simpa using this) (by simpa using hk) (by simpa using hp)
theorem take_end {p : UInt8 → Bool} {l : Str} (h : ∀ i (hi : i < l.length), p l[i] = true) : runP p l = l.length := by
  unfold runP
  induction l with
  | nil => rfl
  | cons a l ih =>
    have h0 := h 0 (by simp)
    simp at h0
    simp [h0]
    exact ih fun i hi => by have := h (i+1) (by simp; omega); simpa using this

/-- 'HasPrefix'. -/
def hasP (l p : Str) : Bool := l.take p.length == p

def keyList : List Str := [[116, 121, 112, 101], [115, 116, 114, 117, 99, 116], [102, 117, 110, 99], [118, 97, 114], [105, 102], [101, 108, 115, 101], [102, 111, 114], [114, 101, 116, 117, 114, 110], [112, 114, 105, 110, 116], [110, 101, 119], [110, 105, 108], [116, 114, 117, 101], [102, 97, 108, 115, 101], [105, 110, 116], [98, 111, 111, 108], [114, 101, 97, 100]]
def signList : List Str := [[60, 60], [62, 62], [61, 61], [33, 61], [60, 61], [62, 61], [38, 38], [124, 124], [58, 61], [43], [45], [42], [47], [37], [38], [124], [94], [60], [62], [33], [61], [46], [44], [59], [40], [41], [123], [125]]
def numSigns : List Str := [[], [43], [45], [42], [47], [37], [38], [124], [94], [60, 60], [62, 62], [61, 61], [33, 61], [60], [60, 61], [62], [62, 61], [45], [33]]

def isKeyP (l : Str) : Bool := keyList.contains l
/-- What 'slices.Index' answers: a place, or -1. -/
def idxOf (L : List Str) (x : Str) : Int := match L.findIdx? (· == x) with | some i => (i : Int) | none => -1
/-- What 'slices.IndexFunc' answers. -/
def idxFn {α : Type} (p : α → Bool) (L : List α) : Int := match L.findIdx? p with | some i => (i : Int) | none => -1

def isNameP (l : Str) : Bool := match l with | [] => false | a :: _ => isLetterB a && (runP nameB l == l.length)
def isWordP (l : Str) : Bool := isNameP l && decide (l.length ≤ 12) && !isKeyP l

/-- skip: how many bytes stand between (fuel: more than the bytes). -/
def skipF : Nat → Str → Nat
  | 0, _ => 0
  | k + 1, l =>
    let a := runP isBlankB l
    if hasP (l.drop a) [47, 47] then a + (runP notNlB (l.drop a) + skipF k ((l.drop a).drop (runP notNlB (l.drop a)))) else a
def skipP (l : Str) : Nat := skipF (l.length + 1) l

structure Tok where
  kind : Int
  text : Str
  at_ : Int
  deriving DecidableEq

/-- The number that digits say, if it is one of 64 bits. -/
def digitsVal (l : Str) : Int := l.foldl (fun n b => n * 10 + ((b.toNat : Int) - 48)) 0
def isDigitsP (l : Str) : Bool := match l with | [] => false | a :: _ => l.all isDigitB && ((a.toNat : Int) != 48 || l == [48])
/-- num.Parse of a text without a sign: the number and its error. -/
def numParseU (l : Str) : Int × Int := if isDigitsP l then (if digitsVal l ≤ 9223372036854775807 then (digitsVal l, 0) else (0, 2)) else (0, 1)

def wordP (l : Str) : Tok × Int :=
  let t := l.take (runP nameB l)
  (⟨if isKeyP t then 2 else 1, t, 0⟩, if 12 < t.length then 4 else 0)
def numberP (l : Str) : Tok × Int :=
  let n := runP isDigitB l
  let t : Tok := ⟨3, l.take n, 0⟩
  match l[n]? with
  | some c => if isLetterB c then (t, 1) else (t, (numParseU t.text).2)
  | none => (t, (numParseU t.text).2)
def signP (l : Str) : Tok × Int := match signList.find? (fun x => hasP l x) with | some x => (⟨4, x, 0⟩, 0) | none => (⟨0, [], 0⟩, 1)
def nextP (l : Str) : Tok × Int := match l with
  | [] => (⟨0, [], 0⟩, 1)
  | a :: _ => if isLetterB a then wordP l else if isDigitB a then numberP l else signP l

inductive ScanR where
  | ok (l : List Tok)
  | err (at_ : Int) (e : Int)

/-- From a place on: the tokens, or the place of what is wrong. -/
def scanF : Nat → Nat → Str → ScanR
  | 0, _, _ => .ok []
  | k + 1, at_, l => match l with
    | [] => .ok []
    | _ :: _ =>
      let r := nextP l
      if r.2 ≠ 0 then .err at_ r.2
      else
        let l1 := l.drop r.1.text.length
        let sk := skipP l1
        match scanF k (at_ + r.1.text.length + sk) (l1.drop sk) with
        | .ok ts => .ok ({ r.1 with at_ := at_ } :: ts)
        | .err p e => .err p e
def scanP (l : Str) : ScanR := if 4096 < l.length then .err 4096 4 else scanF (l.length + 1) (skipP l) (l.drop (skipP l))

theorem hasP_len {l p : Str} (h : hasP l p = true) : p.length ≤ l.length := by
  have := congrArg List.length (eq_of_beq h)
  simp at this
  omega
theorem signList_pos : ∀ x ∈ signList, 1 ≤ x.length := by decide
theorem nextP_len (a : UInt8) (l : Str) (h : (nextP (a :: l)).2 = 0) : 1 ≤ (nextP (a :: l)).1.text.length ∧ (nextP (a :: l)).1.text.length ≤ (a :: l).length := by
  unfold nextP at *
  cases h1 : isLetterB a
  · simp only [h1, Bool.false_eq_true, if_false] at h ⊢
    cases h2 : isDigitB a
    · simp only [h2, Bool.false_eq_true, if_false] at h ⊢
      unfold signP at *
      cases hf : signList.find? (fun x => hasP (a :: l) x) with
      | none => simp [hf] at h
      | some x =>
        simp only []
        exact ⟨signList_pos x (List.mem_of_find?_eq_some hf), hasP_len (by have := List.find?_some hf; simpa using this)⟩
    · simp only [h2, if_true] at h ⊢
      have e : (numberP (a :: l)).1.text = (a :: l).take (runP isDigitB (a :: l)) := by
        unfold numberP
        simp only []
        split
        · split <;> rfl
        · rfl
      rw [e]
      have hr : 1 ≤ runP isDigitB (a :: l) := by simp [runP, List.takeWhile, h2]
      have := runP_le isDigitB (a :: l)
      simp only [List.length_take]
      omega
  · simp only [h1, if_true] at h ⊢
    have hr : 1 ≤ runP nameB (a :: l) := by simp [runP, List.takeWhile, nameB, h1]
    have := runP_le nameB (a :: l)
    simp only [wordP, List.length_take]
    omega

theorem skipF_le : ∀ (k : Nat) (l : Str), skipF k l ≤ l.length := by
  intro k
  induction k with
  | zero => intro l; simp [skipF]
  | succ k ih =>
    intro l
    simp only [skipF]
    have h1 := runP_le isBlankB l
    split
    · have h2 := runP_le notNlB (l.drop (runP isBlankB l))
      have h3 := ih ((l.drop (runP isBlankB l)).drop (runP notNlB (l.drop (runP isBlankB l))))
      simp only [List.length_drop] at h2 h3
      omega
    · exact h1
theorem skipP_le (l : Str) : skipP l ≤ l.length := skipF_le _ _
/-- More fuel than needed gives the same. -/
theorem scanF_cons (k at_ : Nat) (a : UInt8) (l : Str) (h : (nextP (a :: l)).2 = 0) : scanF (k + 1) at_ (a :: l) =
    match scanF k (at_ + (nextP (a :: l)).1.text.length + skipP ((a :: l).drop (nextP (a :: l)).1.text.length)) (((a :: l).drop (nextP (a :: l)).1.text.length).drop (skipP ((a :: l).drop (nextP (a :: l)).1.text.length))) with
    | .ok ts => .ok ({ (nextP (a :: l)).1 with at_ := at_ } :: ts)
    | .err p e => .err p e := by
  rw [scanF]
  simp only [h, ne_eq, not_true, if_false]
theorem scanF_err (k at_ : Nat) (a : UInt8) (l : Str) (h : (nextP (a :: l)).2 ≠ 0) : scanF (k + 1) at_ (a :: l) = .err at_ (nextP (a :: l)).2 := by
  rw [scanF]
  simp only [h, ne_eq, not_false_iff, if_true]
def ScanR.cat (ts : List Tok) : ScanR → ScanR
  | .ok r => .ok (ts ++ r)
  | .err p e => .err p e
end Go.Proofs.YthniejnbkkkbnaaGreatDoor

namespace Go.Proofs.YthniejnbkkkbnaaGreatDoor

structure D where
  op : Int
  name : Str
  typ : Str
  n : Int
  at_ : Int
  deriving DecidableEq
/-- A node and its kids. -/
inductive T where
  | mk (d : D) (kids : List T)
def T.d : T → D | .mk d _ => d
def T.kids : T → List T | .mk _ k => k

inductive PR (α : Type) where
  | ok (a : α) (p : Nat)
  | err (at_ : Int) (e : Int)

def pbind {α β : Type} (x : Option (PR α)) (f : α → Nat → Option (PR β)) : Option (PR β) :=
  match x with
  | none => none
  | some (.err a e) => some (.err a e)
  | some (.ok a p) => f a p

section
variable (L : List Tok) (E : Int)

def nowP (p : Nat) : Tok := L.getD p ⟨0, [], E⟩
def isP (p : Nat) (x : Str) : Bool := (nowP L E p).text == x && ((nowP L E p).kind == 2 || (nowP L E p).kind == 4)
def failP {α : Type} (p : Nat) : Option (PR α) := some (.err (nowP L E p).at_ 1)
def expectP (p : Nat) (x : Str) : Option (PR Int) := if isP L E p x then some (.ok (nowP L E p).at_ (p + 1)) else failP L E p
def wordPP (p : Nat) : Option (PR Tok) := if (nowP L E p).kind = 1 then some (.ok (nowP L E p) (p + 1)) else failP L E p

def xStar : Str := [42]
def xInt : Str := [105, 110, 116]
def xBool : Str := [98, 111, 111, 108]
def xSemi : Str := [59]
def xComma : Str := [44]
def xLp : Str := [40]
def xRp : Str := [41]
def xLb : Str := [123]
def xRb : Str := [125]
def xDot : Str := [46]
def xEq : Str := [61]
def xIf : Str := [105, 102]
def xElse : Str := [101, 108, 115, 101]
def xFor : Str := [102, 111, 114]
def xPrint : Str := [112, 114, 105, 110, 116]
def xReturn : Str := [114, 101, 116, 117, 114, 110]
def xDef : Str := [58, 61]
def xMinus : Str := [45]
def xNot : Str := [33]
def xNil : Str := [110, 105, 108]
def xTrue : Str := [116, 114, 117, 101]
def xFalse : Str := [102, 97, 108, 115, 101]
def xNew : Str := [110, 101, 119]
def xRead : Str := [114, 101, 97, 100]
def xType : Str := [116, 121, 112, 101]
def xStruct : Str := [115, 116, 114, 117, 99, 116]
def xFunc : Str := [102, 117, 110, 99]
def xVar : Str := [118, 97, 114]
def xOr : Str := [124, 124]
def xAnd : Str := [38, 38]
def xMain : Str := [109, 97, 105, 110]

/-- num.Signed of a sign of two. -/
def signed2 (x : Str) : Int := if x = [] then 0 else max (idxOf (numSigns.take 17) x) 0
/-- num.Signed of a sign of one. -/
def signed1 (x : Str) : Int := if x = [] then 0 else if idxOf (numSigns.drop 17) x < 0 then 0 else idxOf (numSigns.drop 17) x + 17
def numLevel (op : Int) : Int :=
  if op = 3 ∨ op = 4 ∨ op = 5 ∨ op = 9 ∨ op = 10 ∨ op = 6 then 5
  else if op = 1 ∨ op = 2 ∨ op = 7 ∨ op = 8 then 4
  else if op = 11 ∨ op = 12 ∨ op = 13 ∨ op = 14 ∨ op = 15 ∨ op = 16 then 3
  else 0
def levelP (t : Tok) : Int × Int :=
  if t.kind ≠ 4 then (0, 0)
  else if t.text = xOr then (1, 0)
  else if t.text = xAnd then (2, 0)
  else (numLevel (signed2 t.text), signed2 t.text)
def levelOp (lv : Int) : Int := if lv = 1 then 26 else if lv = 2 then 25 else 24

def typP (p : Nat) : Option (PR Str) :=
  if isP L E p xStar then pbind (wordPP L E (p + 1)) fun t p => some (.ok (42 :: t.text) p)
  else if isP L E p xInt || isP L E p xBool then some (.ok (nowP L E p).text (p + 1))
  else failP L E p
def partP (op : Int) (p : Nat) : Option (PR T) :=
  pbind (wordPP L E p) fun t p => pbind (typP L E p) fun ty p => some (.ok (.mk ⟨op, t.text, ty, 0, t.at_⟩ []) p)

def numberT (t : Tok) : T := .mk ⟨15, [], [], (numParseU t.text).1, t.at_⟩ []
def keyP (p : Nat) : Option (PR T) :=
  let t := nowP L E p
  if t.text = xTrue then some (.ok (.mk ⟨16, [], [], 1, t.at_⟩ []) (p + 1))
  else if t.text = xFalse then some (.ok (.mk ⟨16, [], [], 0, t.at_⟩ []) (p + 1))
  else if t.text = xNew then
    pbind (expectP L E (p + 1) xLp) fun _ p => pbind (wordPP L E p) fun w p => pbind (expectP L E p xRp) fun _ p => some (.ok (.mk ⟨19, w.text, [], 0, w.at_⟩ []) p)
  else if t.text = xRead then
    pbind (expectP L E (p + 1) xLp) fun _ p => pbind (expectP L E p xRp) fun _ p => some (.ok (.mk ⟨22, [], [], 0, t.at_⟩ []) p)
  else some (.ok (.mk ⟨17, [], [], 0, t.at_⟩ []) (p + 1))

/-- What stands one deeper. -/
def deeperP {α : Type} (d p : Nat) (f : Option (PR α)) : Option (PR α) := if 40 < d + 1 then some (.err (nowP L E p).at_ 3) else f

def postLoopP : Nat → T → Nat → Option (PR T)
  | 0, _, _ => none
  | k + 1, t, p => if isP L E p xDot then pbind (wordPP L E (p + 1)) fun w p => postLoopP k (.mk ⟨20, w.text, [], 0, w.at_⟩ [t]) p else some (.ok t p)

mutual
def exprP : Nat → Int → Nat → Nat → Option (PR T)
  | 0, _, _, _ => none
  | k + 1, least, d, p => pbind (unaryP k d p) fun left p => exprLoopP k least d left p
def exprLoopP : Nat → Int → Nat → T → Nat → Option (PR T)
  | 0, _, _, _, _ => none
  | k + 1, least, d, left, p =>
    let lv := levelP (nowP L E p)
    if lv.1 = 0 ∨ lv.1 < least then some (.ok left p)
    else pbind (exprP k (lv.1 + 1) d (p + 1)) fun r p2 => exprLoopP k least d (.mk ⟨levelOp lv.1, [], [], lv.2, (nowP L E p).at_⟩ [left, r]) p2
def unaryP : Nat → Nat → Nat → Option (PR T)
  | 0, _, _ => none
  | k + 1, d, p =>
    if isP L E p xMinus = false ∧ isP L E p xNot = false then postfixP k d p
    else deeperP L E d p (pbind (unaryP k (d + 1) (p + 1)) fun u p2 => some (.ok (.mk ⟨23, [], [], signed1 (nowP L E p).text, (nowP L E p).at_⟩ [u]) p2))
def postfixP : Nat → Nat → Nat → Option (PR T)
  | 0, _, _ => none
  | k + 1, d, p => pbind (primaryP k d p) fun t p => postLoopP L E k t p
def primaryP : Nat → Nat → Nat → Option (PR T)
  | 0, _, _ => none
  | k + 1, d, p =>
    if (nowP L E p).kind = 3 then some (.ok (numberT (nowP L E p)) (p + 1))
    else if (nowP L E p).kind = 1 then
      if isP L E (p + 1) xLp then callP k (nowP L E p) d (p + 1) else some (.ok (.mk ⟨18, (nowP L E p).text, [], 0, (nowP L E p).at_⟩ []) (p + 1))
    else if isP L E p xLp then bracketsP k d p
    else if isP L E p xNil || isP L E p xTrue || isP L E p xFalse || isP L E p xNew || isP L E p xRead then keyP L E p
    else failP L E p
def bracketsP : Nat → Nat → Nat → Option (PR T)
  | 0, _, _ => none
  | k + 1, d, p =>
    if isP L E p xLp then deeperP L E d p (pbind (exprP k 1 (d + 1) (p + 1)) fun t p => pbind (expectP L E p xRp) fun _ p => some (.ok t p))
    else failP L E p
def callP : Nat → Tok → Nat → Nat → Option (PR T)
  | 0, _, _, _ => none
  | k + 1, t, d, p => deeperP L E d p (callLoopP k t (d + 1) [] (p + 1))
def callLoopP : Nat → Tok → Nat → List T → Nat → Option (PR T)
  | 0, _, _, _, _ => none
  | k + 1, t, d, ks, p =>
    if isP L E p xRp then some (.ok (.mk ⟨21, t.text, [], 0, t.at_⟩ ks) (p + 1))
    else pbind (exprP k 1 d p) fun x p =>
      if isP L E p xRp then callLoopP k t d (ks ++ [x]) p
      else pbind (expectP L E p xComma) fun _ p => if isP L E p xRp then failP L E p else callLoopP k t d (ks ++ [x]) p
end

/-- change: an assignment, or a call. Not said yet: `none` (nothing is claimed of a statement that comes here). -/
def changeP (_L : List Tok) (_E : Int) (_k _d _p : Nat) : Option (PR T) := none
/-- What change answers (to be put in for changeP once change is walked). -/
def changeFullP (k d p : Nat) : Option (PR T) :=
  pbind (postfixP L E k d p) fun left p2 =>
    if isP L E p xLp && (L.getD (p2 - 1) ⟨0, [], 0⟩).text == xRp then failP L E p2
    else if left.d.op = 21 ∧ isP L E p2 xEq = false then some (.ok (.mk ⟨14, [], [], 0, left.d.at_⟩ [left]) p2)
    else if left.d.op = 18 then
      pbind (expectP L E p2 xEq) fun _ p3 => pbind (exprP L E k 1 d p3) fun x p4 => some (.ok (.mk ⟨8, left.d.name, [], 0, left.d.at_⟩ [x]) p4)
    else if left.d.op = 20 then
      pbind (expectP L E p2 xEq) fun _ p3 => pbind (exprP L E k 1 d p3) fun x p4 => some (.ok (.mk ⟨9, left.d.name, [], 0, left.d.at_⟩ [left.kids.getD 0 (.mk ⟨0, [], [], 0, 0⟩ []), x]) p4)
    else failP L E p2
def simpleP (k d p : Nat) : Option (PR T) :=
  if isP L E p xPrint then pbind (bracketsP L E k d (p + 1)) fun x p2 => some (.ok (.mk ⟨12, [], [], 0, (nowP L E p).at_⟩ [x]) p2)
  else if isP L E p xReturn then
    if isP L E (p + 1) xSemi then some (.ok (.mk ⟨13, [], [], 0, (nowP L E p).at_⟩ []) (p + 1))
    else pbind (exprP L E k 1 d (p + 1)) fun x p2 => some (.ok (.mk ⟨13, [], [], 0, (nowP L E p).at_⟩ [x]) p2)
  else if (nowP L E p).kind = 1 ∧ (nowP L E (p + 1)).kind = 4 ∧ (nowP L E (p + 1)).text = xDef then
    pbind (exprP L E k 1 d (p + 2)) fun x p2 => some (.ok (.mk ⟨7, (nowP L E p).text, [], 0, (nowP L E p).at_⟩ [x]) p2)
  else changeP L E k d p

mutual
def stmtP : Nat → Nat → Nat → Option (PR T)
  | 0, _, _ => none
  | k + 1, d, p =>
    if isP L E p xIf then branchP k d p
    else if isP L E p xFor then
      pbind (exprP L E k 1 d (p + 1)) fun x p2 => pbind (blockP k d p2) fun b p3 => some (.ok (.mk ⟨11, [], [], 0, (nowP L E p).at_⟩ [x, b]) p3)
    else pbind (simpleP L E k d p) fun x p2 => pbind (expectP L E p2 xSemi) fun _ p3 => some (.ok x p3)
def branchP : Nat → Nat → Nat → Option (PR T)
  | 0, _, _ => none
  | k + 1, d, p =>
    pbind (expectP L E p xIf) fun at_ p1 => pbind (exprP L E k 1 d p1) fun x p2 => pbind (blockP k d p2) fun b p3 =>
      if isP L E p3 xElse then
        pbind (if isP L E (p3 + 1) xIf then branchP k d (p3 + 1) else blockP k d (p3 + 1)) fun c p4 => some (.ok (.mk ⟨10, [], [], 0, at_⟩ [x, b, c]) p4)
      else some (.ok (.mk ⟨10, [], [], 0, at_⟩ [x, b]) p3)
def blockP : Nat → Nat → Nat → Option (PR T)
  | 0, _, _ => none
  | k + 1, d, p => if isP L E p xLb then deeperP L E d p (blockLoopP k (nowP L E p).at_ (d + 1) [] (p + 1)) else failP L E p
def blockLoopP : Nat → Int → Nat → List T → Nat → Option (PR T)
  | 0, _, _, _, _ => none
  | k + 1, at_, d, ks, p =>
    if isP L E p xRb then some (.ok (.mk ⟨6, [], [], 0, at_⟩ ks) (p + 1))
    else pbind (stmtP k d p) fun x p => blockLoopP k at_ d (ks ++ [x]) p
end

def structLoopP : Nat → Tok → List T → Nat → Option (PR T)
  | 0, _, _, _ => none
  | k + 1, t, ks, p =>
    if isP L E p xRb then some (.ok (.mk ⟨2, t.text, [], 0, t.at_⟩ ks) (p + 1))
    else pbind (partP L E 5 p) fun x p => pbind (expectP L E p xSemi) fun _ p => structLoopP k t (ks ++ [x]) p
def structureP (k p : Nat) : Option (PR T) :=
  pbind (wordPP L E p) fun t p => pbind (expectP L E p xStruct) fun _ p => pbind (expectP L E p xLb) fun _ p => structLoopP L E k t [] p
def paramLoopP : Nat → List T → Nat → Option (PR (List T))
  | 0, _, _ => none
  | k + 1, ks, p =>
    if isP L E p xRp then some (.ok ks p)
    else pbind (partP L E 5 p) fun x p =>
      if isP L E p xRp then paramLoopP k (ks ++ [x]) p
      else pbind (expectP L E p xComma) fun _ p => if isP L E p xRp then failP L E p else paramLoopP k (ks ++ [x]) p
def functionP (k p : Nat) : Option (PR T) :=
  pbind (wordPP L E p) fun t p => pbind (expectP L E p xLp) fun _ p => pbind (paramLoopP L E k [] p) fun ks p => pbind (expectP L E p xRp) fun _ p =>
    pbind (if isP L E p xLb then some (.ok [] p) else typP L E p) fun ty p => pbind (blockP L E k 0 p) fun b p => some (.ok (.mk ⟨4, t.text, ty, 0, t.at_⟩ (ks ++ [b])) p)
def declarationP (k p : Nat) : Option (PR T) :=
  if isP L E p xType then structureP L E k (p + 1)
  else if isP L E p xFunc then functionP L E k (p + 1)
  else if isP L E p xVar then pbind (partP L E 3 (p + 1)) fun x p => pbind (expectP L E p xSemi) fun _ p => some (.ok x p)
  else failP L E p
def programLoopP : Nat → List T → Nat → Option (PR T)
  | 0, _, _ => none
  | k + 1, ks, p => if p < L.length then pbind (declarationP L E k p) fun x p => programLoopP k (ks ++ [x]) p else some (.ok (.mk ⟨1, [], [], 0, 0⟩ ks) p)
end

inductive ParseR where
  | ok (t : T)
  | err (at_ : Int) (e : Int)
/-- Enough rounds for so many tokens. -/
def parseFuel (n : Nat) : Nat := 20 * n + 40
def parseP (s : Str) : ParseR :=
  match scanP s with
  | .err p e => .err p e
  | .ok L => match programLoopP L s.length (parseFuel L.length) [] 0 with
    | some (.ok t _) => .ok t
    | some (.err a e) => .err a e
    | none => .err 0 0
end Go.Proofs.YthniejnbkkkbnaaGreatDoor
