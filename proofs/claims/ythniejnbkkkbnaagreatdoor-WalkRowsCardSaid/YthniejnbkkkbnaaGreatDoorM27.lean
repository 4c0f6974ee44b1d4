/- Walks of layer check: names: the plain steps, and the two maps. Regions whose order is drawn and whose LAST operation is a store into a cell that they load: what is held (S) is asked behind every operation but that one. -/
import Derived.Test.YthniejnbkkkbnaaGreatDoorM26
import Derived.Test.YthniejnbkkkbnaaGreatDoorM01
import Derived.Deep.RegionHeld
set_option linter.all false
set_option linter.unusedSimpArgs false
set_option linter.unusedVariables false
namespace Go.Proofs.YthniejnbkkkbnaaGreatDoor
open Go.RowKit

theorem names_drop (ks : List T) (j : Nat) (d : T) (hj : ks[j]? = some d) (seen : List Str) (most : List (Int × Int)) (x : Info) : namesC (ks.drop j) seen most x =
    if seen.contains d.d.name then .err d.d.at_ 6
    else if (aget most d.d.op).getD 0 - 1 < 0 then .err d.d.at_ 4
    else namesC (ks.drop (j + 1)) (seen ++ [d.d.name]) (aput most d.d.op ((aget most d.d.op).getD 0 - 1)) (declP x d) := by
  obtain ⟨hlt, he⟩ := List.getElem?_eq_some_iff.1 hj
  rw [List.drop_eq_getElem_cons hlt, he, namesC]
/-- The names seen, as the map's row. -/
def smap (l : List Str) : List (Str × Value) := l.map fun s => (s, .bool true)
theorem smap_get (l : List Str) (x : Str) : (aget (smap l) x).getD (.bool false) = .bool (l.contains x) := by
  induction l with
  | nil => rfl
  | cons a l ih =>
    rw [show smap (a :: l) = (a, .bool true) :: smap l from rfl, aget_cons, List.contains_cons]
    cases h : a == x with
    | true => simp [BEq.comm (a := x), h]
    | false => rw [BEq.comm (a := x), h]; simpa using ih
theorem smap_put (l : List Str) (x : Str) (h : l.contains x = false) : aput (smap l) x (.bool true) = smap (l ++ [x]) := by
  induction l with
  | nil => rfl
  | cons a l ih =>
    rw [List.contains_cons] at h
    have h1 : (a == x) = false := by rw [BEq.comm]; cases hx : x == a <;> simp_all
    have h2 : l.contains x = false := by cases hx : l.contains x <;> simp_all
    show aput ((a, .bool true) :: smap l) x _ = (a, .bool true) :: smap (l ++ [x])
    rw [← ih h2, aput]
    simp only [h1, Bool.false_eq_true, if_false]
def imap (l : List (Int × Int)) : List (Int × Value) := l.map fun p => (p.1, .int .i64 p.2)
theorem imap_get (l : List (Int × Int)) (x : Int) : (aget (imap l) x).getD (.int .i64 0) = .int .i64 ((aget l x).getD 0) := by
  induction l with
  | nil => rfl
  | cons a l ih =>
    obtain ⟨a1, a2⟩ := a
    rw [show imap ((a1, a2) :: l) = (a1, .int .i64 a2) :: imap l from rfl]
    unfold aget at ih ⊢
    rw [List.find?_cons, List.find?_cons]
    cases h : a1 == x with
    | true => simp
    | false => simpa using ih
theorem imap_put (l : List (Int × Int)) (x v : Int) : aput (imap l) x (.int .i64 v) = imap (aput l x v) := by
  induction l with
  | nil => rfl
  | cons p l ih =>
    simp only [imap, List.map_cons, aput] at ih ⊢
    cases hp : p.1 == x with
    | true => simp
    | false => simp only [Bool.false_eq_true, if_false, List.map_cons]; rw [ih]
/-- What is declared so far, in memory: three rows of their own in three blocks, and the fields' rows in other blocks. -/
structure NamesAt (B m1 m2 cb : Nat) (sv gv fv : Value) (x : Info) (w : World) : Prop where
  st : ∃ vs : List Value, vs.length = x.structs.length ∧ w.ownsRow B 90 2 sv x.structs.length (pairCells ((x.structs.zip vs).map strucPair)) ∧
    ∀ (i : Nat) (s : Struc) (u : Value), x.structs[i]? = some s → vs[i]? = some u → FldsAt w (fun k => B ≤ k ∧ k ≠ m1 ∧ k ≠ m2 ∧ some k ≠ sv.ownBlock ∧ some k ≠ gv.ownBlock ∧ some k ≠ fv.ownBlock) u s.fields
  gl : w.ownsRow B 93 2 gv x.globals.length (pairCells (x.globals.map fldPair))
  sg : ∃ vs : List Value, vs.length = x.funs.length ∧ w.ownsRow B 147 3 fv x.funs.length (tripCells ((x.funs.zip vs).map sigTrip)) ∧
    ∀ (i : Nat) (s : Sig) (u : Value), x.funs[i]? = some s → vs[i]? = some u → FldsAt w (fun k => B ≤ k ∧ k ≠ m1 ∧ k ≠ m2 ∧ some k ≠ sv.ownBlock ∧ some k ≠ gv.ownBlock ∧ some k ≠ fv.ownBlock) u s.params
  ap : ∀ k, (some k = sv.ownBlock → k ≠ m1 ∧ k ≠ m2 ∧ some k ≠ gv.ownBlock ∧ some k ≠ fv.ownBlock) ∧ (some k = gv.ownBlock → k ≠ m1 ∧ k ≠ m2 ∧ some k ≠ fv.ownBlock) ∧ (some k = fv.ownBlock → k ≠ m1 ∧ k ≠ m2)
  ck : ∃ bv res, w.heap[cb]? = some (.cells #[sv, gv, fv, bv, .string (S res)] 118 (0, 0))
  lo : cb < B
end Go.Proofs.YthniejnbkkkbnaaGreatDoor

namespace Go.Proofs.YthniejnbkkkbnaaGreatDoor
open Go

section
variable {P : Program} {ops : Array Oper} {Q : Exit → Act → World → Prop} {md : Region.Mode} {S : World → Prop} {last : Nat}

/-- Whatever order is picked from here on, and S holds behind every operation that is carried out, but 'last'. -/
def wpAnyK (P : Program) (md : Region.Mode) (ops : Array Oper) (Q : Exit → Act → World → Prop) (S : World → Prop) (last : Nat) : Nat → Array Bool → Act → World → Prop
  | 0, listed, a, w => Region.ready md ops listed = [] ∧ Q .normal a w
  | fuel + 1, listed, a, w =>
    (Region.ready md ops listed = [] → Q .normal a w) ∧
    ∀ i ∈ Region.ready md ops listed, wpOp P ops Q i (fun a' w' => (i ≠ last → S w') ∧ wpAnyK P md ops Q S last fuel (listed.setIfInBounds i true) a' w') a w
theorem wpAny_of_K : ∀ (fuel : Nat) (listed : Array Bool) (a : Act) (w : World), wpAnyK P md ops Q S last fuel listed a w → wpAny P md ops Q fuel listed a w
  | 0, _, _, _, h => h
  | fuel + 1, _, _, _, h => ⟨h.1, fun i hi => wpOp_mono (fun a' w' h' => wpAny_of_K fuel _ a' w' h'.2) (h.2 i hi)⟩
/-- 'last' waits for number i. -/
def waitsB (md : Region.Mode) (ops : Array Oper) (last i : Nat) : Bool := match ops[last]? with | some o => o.after.any fun e => Region.binds md e && e.on == i | none => false
theorem wpAnyK_first {i : Nat} {oi : Oper} {v : Value} (hi : ops[i]? = some oi) (hsel : ∀ (j : Nat) (o : Oper) cs b, ops[j]? = some o → o.op ≠ .select cs b)
    (hlast : waitsB md ops last i = true) (hQ : ∀ c a w, Q (.panic c) (a.put oi.dst v) w → Q (.panic c) a w) :
    ∀ (fuel : Nat) (listed : Array Bool) (a : Act) (w : World),
      (∀ j oj, ops[j]? = some oj → j ≠ i → listed.getD j true = false → (∀ e ∈ oj.after, Region.binds md e = true → e.on ≠ i) → oi.apart ops oj = true) →
      i ∈ Region.ready md ops listed → YieldsIf P ops S oi v a → S w →
      wpAnyK P md ops Q S last fuel (listed.setIfInBounds i true) (a.put oi.dst v) w → wpAnyK P md ops Q S last (fuel + 1) listed a w := by
  intro fuel
  induction fuel with
  | zero =>
    intro listed a w _ hr hy hS H
    refine ⟨fun h => (by rw [h] at hr; cases hr), fun j hj => ?_⟩
    by_cases hji : j = i
    · subst hji; exact hy.wpOp hi hS ⟨fun _ => hS, H⟩
    · have := ready_mono hj hji
      rw [H.1] at this
      cases this
  | succ fuel ih =>
    intro listed a w hfree hr hy hS H
    refine ⟨fun h => (by rw [h] at hr; cases hr), fun j hj => ?_⟩
    by_cases hji : j = i
    · subst hji; exact hy.wpOp hi hS ⟨fun _ => hS, H⟩
    · have h1 := H.2 j (ready_mono hj hji)
      obtain ⟨hjun, oj, hoj, hall⟩ := mem_ready.1 hj
      have hnot : ∀ e ∈ oj.after, Region.binds md e = true → e.on ≠ i := fun e he hb heq => by
        have h1 := hall e he hb
        have h0 := (mem_ready.1 hr).1
        rw [heq] at h1
        rcases Nat.lt_or_ge i listed.size with h' | h'
        · simp [h'] at h0 h1; rw [h0] at h1; cases h1
        · simp [Array.getElem?_eq_none h'] at h1
      have hjl : j ≠ last := by
        intro e
        subst e
        unfold waitsB at hlast
        rw [hoj] at hlast
        simp only [Array.any_eq_true'] at hlast
        obtain ⟨e, he, hb⟩ := hlast
        simp only [Bool.and_eq_true, beq_iff_eq] at hb
        exact hnot e he hb.1 hb.2
      have h2 := wpOp_putIf hoj (hfree j oj hoj hji hjun hnot) (fun cs b => hsel i oi cs b hi) (fun cs b => hsel j oj cs b hoj) hQ hy h1
      have hfree' : ∀ k ok, ops[k]? = some ok → k ≠ i → (listed.setIfInBounds j true).getD k true = false →
          (∀ e ∈ ok.after, Region.binds md e = true → e.on ≠ i) → oi.apart ops ok = true := fun k ok hk hki hun hno => by
        refine hfree k ok hk hki ?_ hno
        by_cases hjk : j = k
        · subst hjk; exact hjun
        · rw [getD_set_ne true hjk] at hun; exact hun
      refine wpOp_mono (fun a' w' h3 => ⟨h3.2.1, ih (listed.setIfInBounds j true) a' w' hfree' (ready_mono hr (Ne.symm hji)) h3.1 (h3.2.1 hjl) ?_⟩) h2
      rw [Array.setIfInBounds_comm _ _ hji]
      exact h3.2.2
theorem wpAnyK_take {i : Nat} {oi : Oper} {v : Value} {fuel : Nat} {listed : Array Bool} {a : Act} {w : World} (hi : ops[i]? = some oi)
    (hs : Region.noSelect ops = true) (hf : Region.free md ops listed i = true) (hr : (Region.ready md ops listed).contains i = true) (hl : waitsB md ops last i = true)
    (hQ : ∀ c a w, Q (.panic c) (a.put oi.dst v) w → Q (.panic c) a w) (hy : YieldsIf P ops S oi v a) (hS : S w)
    (h : wpAnyK P md ops Q S last fuel (listed.setIfInBounds i true) (a.put oi.dst v) w) : wpAnyK P md ops Q S last (fuel + 1) listed a w :=
  wpAnyK_first hi (Region.noSelect_spec hs) hl hQ fuel listed a w (Region.free_spec hi hf) (by simpa using hr) hy hS h
/-- One operation alone may come up. -/
theorem wpAnyK_one {i : Nat} {o : Oper} {fuel : Nat} {listed : Array Bool} {a : Act} {w : World} (hr : Region.ready md ops listed = [i]) (ho : ops[i]? = some o)
    (h : ∀ K' : Act → World → Prop, Shut (∀ a w, S w → (S w → wpAnyK P md ops Q S last fuel (listed.setIfInBounds i true) a w) → K' a w) → if Region.wanted o (yielded ops a.tmps) = true then Oper.wp P o a w K' Q else K' (a.put o.dst undef) w) :
    wpAnyK P md ops Q S last (fuel + 1) listed a w := by
  refine ⟨fun h0 => (by rw [h0] at hr; cases hr), fun j hj => ?_⟩
  rw [hr] at hj
  obtain rfl : j = i := by simpa using hj
  exact wpOp_step ho (fun K' hK => h K' (fun a w hS hW => hK a w ⟨fun _ => hS, hW hS⟩))
/-- The last one: behind it nothing is held. -/
theorem wpAnyK_end {o : Oper} {fuel : Nat} {listed : Array Bool} {a : Act} {w : World} (hr : Region.ready md ops listed = [last]) (ho : ops[last]? = some o) (hr2 : Region.ready md ops (listed.setIfInBounds last true) = [])
    (h : if Region.wanted o (yielded ops a.tmps) = true then Oper.wp P o a w (Q .normal) Q else Q .normal (a.put o.dst undef) w) :
    wpAnyK P md ops Q S last (fuel + 1) listed a w := by
  refine ⟨fun h0 => (by rw [h0] at hr; cases hr), fun j hj => ?_⟩
  rw [hr] at hj
  obtain rfl : j = last := by simpa using hj
  have hd : ∀ a w, Q .normal a w → wpAnyK P md ops Q S j fuel (listed.setIfInBounds j true) a w := fun a w hq => by
    cases fuel with
    | zero => exact ⟨hr2, hq⟩
    | succ f => exact ⟨fun _ => hq, by rw [hr2]; simp⟩
  refine wpOp_mono (fun a' w' hq => ⟨fun e => absurd rfl e, hd a' w' hq⟩) ?_
  unfold wpOp
  simp only [ho]
  split
  · rename_i hw
    rw [if_pos hw] at h
    exact .inl h
  · rename_i hw
    rw [if_neg hw] at h
    exact h
theorem wp_region_K (last : Nat) {id : Nat} {a : Act} {w : World} (hm : P.follows .mixedOrders = true) (hS : S w.drew)
    (h : S w.drew → wpAnyK P .any ops Q S last ops.size (Array.replicate ops.size false) a w.drew) : (Code.region id ops true).wp P Q a w :=
  wp_region_any hm (wpAny_of_K _ _ _ _ (h hS))
end
end Go.Proofs.YthniejnbkkkbnaaGreatDoor
