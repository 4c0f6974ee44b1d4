/- Walks: the signs of layer num; the parser's level and deeper. The plain functions of the layers kind and check: what Check answers, over trees. The plain functions of layer walk, as far as their walks go: numbers, reads, quotients by 0, and prints. Elsewhere nothing is said (bad). -/
import Derived.Test.YthniejnbkkkbnaaGreatDoorM08
import Derived.Test.YthniejnbkkkbnaaGreatDoorM01
set_option linter.all false
set_option linter.unusedSimpArgs false
set_option linter.unusedVariables false
namespace Go.Proofs.YthniejnbkkkbnaaGreatDoor
open Go.RowKit
set_option maxRecDepth 100000
set_option maxHeartbeats 4000000

theorem RowR.take {w : World} {X : Nat → Prop} {A : Option Addr} {cs : List Value} (h : RowR w X A cs) (n : Nat) : RowR w X A (cs.take n) := by
  rcases h with h | ⟨k, off, arr, t, fr, hX, hA, hk, hc⟩
  · exact .inl (by rw [h]; simp)
  · refine .inr ⟨k, off, arr, t, fr, hX, hA, hk, fun i v hv => hc i v ?_⟩
    rw [List.getElem?_take] at hv
    split at hv
    · exact hv
    · cases hv
theorem RowR.drop {w : World} {X : Nat → Prop} {k off : Nat} {cs : List Value} (h : RowR w X (some ⟨k, off, none⟩) cs) (n : Nat) : RowR w X (some ⟨k, off + n, none⟩) (cs.drop n) := by
  rcases h with h | ⟨k', off', arr, t, fr, hX, hA, hk, hc⟩
  · exact .inl (by rw [h]; simp)
  · injection hA with hA
    injection hA with e1 e2
    subst e1 e2
    refine .inr ⟨k, off + n, arr, t, fr, hX, rfl, hk, fun i v hv => ?_⟩
    rw [List.getElem?_drop] at hv
    have := hc (n + i) v hv
    rw [Nat.add_assoc]
    exact this

theorem numSigns_any (w : World) : Calls Tryz.prog 332 #[] w fun e w' => ∃ k, e = .returned (.slice (some ⟨k, 0, none⟩) 19 19) ∧ RowR w' (fun _ => True) (some ⟨k, 0, none⟩) (strCells numSigns) ∧ Gr w w' := by
  go_enter Tryz.func332, Tryz.ntmps332
  go_wp2
  go_ret
  exact ⟨_, rfl, RowR.alloc (strCells numSigns), Gr.al _ _⟩

theorem idxOf_lo (L : List Str) (x : Str) : -1 ≤ idxOf L x ∧ idxOf L x ≤ L.length := by
  unfold idxOf
  cases h : L.findIdx? (· == x) with
  | none => simp
  | some i =>
    rw [List.findIdx?_eq_some_iff_getElem] at h
    obtain ⟨hi, _⟩ := h
    simp; omega
theorem Signed2_any (x : Str) (w : World) : Calls Tryz.prog 322 #[.string (S x), .int .i64 2] w fun e w' => (∃ b, e = .returned (.tuple #[.int .i64 (signed2 x), .bool b])) ∧ Gr w w' := by
  by_cases hx : x = []
  · subst hx
    have k1 : ((S []).toList.isEmpty) = true := by rw [ByteArray.toList_eq, data_S]; rfl
    go_enter Tryz.func322, Tryz.ntmps322
    go_wp2_with fail
    refine (numSigns_any _).mono ?_
    rintro e w1 ⟨k, rfl, hr, hg⟩
    go_wp2_with fail
    go_ret2
    exact ⟨⟨_, rfl⟩, hg⟩
  · have k1 : ((S x).toList.isEmpty) = false := by rw [ByteArray.toList_eq, data_S]; cases x with | nil => exact absurd rfl hx | cons a l => rfl
    have HS : Hid (signed2 x = max (idxOf (numSigns.take 17) x) 0) := by show signed2 x = _; simp [signed2, hx]
    obtain ⟨r, hr0⟩ : ∃ r, idxOf (numSigns.take 17) x = r := ⟨_, rfl⟩
    have hlo := idxOf_lo (numSigns.take 17) x
    rw [hr0] at hlo HS
    have HI : Hid (∀ k (w : World), RowR w (fun _ => True) (some ⟨k, 0, none⟩) (strCells numSigns) → Calls Tryz.prog 220 #[.slice (some ⟨k, 0, none⟩) 17 19, .string (S x)] w fun e w' => e = .returned (.int .i64 r) ∧ w = w') := fun k w hr => by
      rw [← hr0]
      exact idx_any (numSigns.take 17) _ 17 19 rfl x _ w (by have := hr.take 17; simpa [strCells, List.map_take] using this) (by decide)
    clear hr0
    go_enter Tryz.func322, Tryz.ntmps322
    go_wp2_with fail
    refine (numSigns_any _).mono ?_
    rintro e w1 ⟨k, rfl, hr, hg⟩
    have HR := Lib.hid hr
    clear hr
    go_wp2_with fail
    refine (HI.out _ _ HR.out).mono ?_
    rintro e w2 ⟨rfl, rfl⟩
    go_wp2_with fail
    go_ret2
    exact ⟨⟨_, by rw [HS.out]; rfl⟩, hg⟩
theorem Signed1_any (x : Str) (w : World) : Calls Tryz.prog 322 #[.string (S x), .int .i64 1] w fun e w' => (∃ b, e = .returned (.tuple #[.int .i64 (signed1 x), .bool b])) ∧ Gr w w' := by
  by_cases hx : x = []
  · subst hx
    have k1 : ((S []).toList.isEmpty) = true := by rw [ByteArray.toList_eq, data_S]; rfl
    go_enter Tryz.func322, Tryz.ntmps322
    go_wp2_with fail
    refine (numSigns_any _).mono ?_
    rintro e w1 ⟨k, rfl, hr, hg⟩
    go_wp2_with fail
    go_ret2
    exact ⟨⟨_, rfl⟩, hg⟩
  · have k1 : ((S x).toList.isEmpty) = false := by rw [ByteArray.toList_eq, data_S]; cases x with | nil => exact absurd rfl hx | cons a l => rfl
    have HS : Hid (signed1 x = if idxOf (numSigns.drop 17) x < 0 then 0 else idxOf (numSigns.drop 17) x + 17) := by show signed1 x = _; simp [signed1, hx]
    obtain ⟨r, hr0⟩ : ∃ r, idxOf (numSigns.drop 17) x = r := ⟨_, rfl⟩
    have hlo := idxOf_lo (numSigns.drop 17) x
    rw [hr0] at hlo HS
    simp only [show (numSigns.drop 17).length = 2 from rfl] at hlo
    have HI : Hid (∀ k (w : World), RowR w (fun _ => True) (some ⟨k, 0, none⟩) (strCells numSigns) → Calls Tryz.prog 220 #[.slice (some ⟨k, 17, none⟩) 2 2, .string (S x)] w fun e w' => e = .returned (.int .i64 r) ∧ w = w') := fun k w hr => by
      rw [← hr0]
      exact idx_any (numSigns.drop 17) _ 2 2 rfl x _ w (by have := hr.drop 17; simpa [strCells, List.map_drop] using this) (by decide)
    clear hr0
    by_cases hneg : r < 0
    · go_enter Tryz.func322, Tryz.ntmps322
      go_wp2_with fail
      refine (numSigns_any _).mono ?_
      rintro e w1 ⟨k, rfl, hr, hg⟩
      have HR := Lib.hid hr
      clear hr
      go_wp2_with fail
      refine (HI.out _ _ HR.out).mono ?_
      rintro e w2 ⟨rfl, rfl⟩
      go_wp2_with fail
      go_ret2
      exact ⟨⟨_, by rw [HS.out, if_pos hneg]; rfl⟩, hg⟩
    · go_enter Tryz.func322, Tryz.ntmps322
      go_wp2_with fail
      refine (numSigns_any _).mono ?_
      rintro e w1 ⟨k, rfl, hr, hg⟩
      have HR := Lib.hid hr
      clear hr
      go_wp2_with fail
      refine (HI.out _ _ HR.out).mono ?_
      rintro e w2 ⟨rfl, rfl⟩
      go_wp2_with fail
      go_ret2
      exact ⟨⟨_, by rw [HS.out, if_neg (by omega)]; rfl⟩, hg⟩

theorem numLevel_any (op : Int) (w : World) : Calls Tryz.prog 263 #[.int .i64 op] w fun e w' => e = .returned (.int .i64 (numLevel op)) ∧ w = w' := by
  go_enter Tryz.func263, Tryz.ntmps263
  go_wp2_with fail
  all_goals
    go_ret
    refine ⟨ret_int ?_, rfl⟩
    unfold numLevel
    simp_all

theorem level_any (K : PK) (p d : Nat) (w : World) (h : Ctx K p d w) :
    Calls Tryz.prog 299 #[ptrV K.rb] w fun e w' => e = .returned (.tuple #[.int .i64 (levelP (nowP K.L K.E p)).1, .int .i64 (levelP (nowP K.L K.E p)).2]) ∧ Gr w w' := by
  have HN := Lib.hid (now_any K p d w h)
  obtain ⟨⟨k, tx, at_⟩, hT⟩ : ∃ T, nowP K.L K.E p = T := ⟨_, rfl⟩
  rw [hT] at HN ⊢
  unfold tokV at HN
  clear hT h
  by_cases hk : k = 4
  · by_cases ho : tx = xOr
    · have k1 : ((S tx).toList == [(124 : UInt8), 124]) = true := by rw [ByteArray.toList_eq, data_S, ho]; rfl
      have HR : Hid (levelP ⟨k, tx, at_⟩ = (1, 0)) := by show levelP _ = _; simp [levelP, hk, ho]
      clear ho
      go_enter Tryz.func299, Tryz.ntmps299
      go_wp2_with fail
      refine HN.out.mono ?_
      rintro e w1 ⟨rfl, hg⟩
      go_wp2_with fail
      go_ret2
      exact ⟨by rw [HR.out]; rfl, hg.alloc _⟩
    · have k1 : ((S tx).toList == [(124 : UInt8), 124]) = false := by rw [ByteArray.toList_eq, data_S]; exact beq_eq_false_iff_ne.2 ho
      by_cases ha : tx = xAnd
      · have k2 : ((S tx).toList == [(38 : UInt8), 38]) = true := by rw [ByteArray.toList_eq, data_S, ha]; rfl
        have HR : Hid (levelP ⟨k, tx, at_⟩ = (2, 0)) := by show levelP _ = _; simp only [levelP, hk, ha]; decide
        clear ho ha
        go_enter Tryz.func299, Tryz.ntmps299
        go_wp2_with fail
        refine HN.out.mono ?_
        rintro e w1 ⟨rfl, hg⟩
        go_wp2_with fail
        go_ret2
        exact ⟨by rw [HR.out]; rfl, hg.alloc _⟩
      · have k2 : ((S tx).toList == [(38 : UInt8), 38]) = false := by rw [ByteArray.toList_eq, data_S]; exact beq_eq_false_iff_ne.2 ha
        have HR : Hid (levelP ⟨k, tx, at_⟩ = (numLevel (signed2 tx), signed2 tx)) := by show levelP _ = _; simp [levelP, hk, ha, ho]
        clear ho ha
        go_enter Tryz.func299, Tryz.ntmps299
        go_wp2_with fail
        refine HN.out.mono ?_
        rintro e w1 ⟨rfl, hg⟩
        go_wp2_with fail
        refine (Signed2_any tx _).mono ?_
        rintro e w2 ⟨⟨b, rfl⟩, hg2⟩
        go_wp2_with fail
        refine (numLevel_any _ _).mono ?_
        rintro e w3 ⟨rfl, rfl⟩
        go_wp2_with fail
        go_ret2
        exact ⟨by rw [HR.out]; rfl, (hg.alloc _).trans hg2⟩
  · have HR : Hid (levelP ⟨k, tx, at_⟩ = (0, 0)) := by show levelP _ = _; simp [levelP, hk]
    go_enter Tryz.func299, Tryz.ntmps299
    go_wp2_with fail
    refine HN.out.mono ?_
    rintro e w1 ⟨rfl, hg⟩
    go_wp2_with fail
    go_ret2
    exact ⟨by rw [HR.out]; rfl, hg.alloc _⟩

/-- The reader's block with another depth. -/
theorem Ctx.deep {K : PK} {p d : Nat} {w : World} (h : Ctx K p d w) (d' : Nat) (hd : d' ≤ 1000) (x : Int) (hx : x = d') : Ctx K p d' (w.setCell ⟨K.rb, 3, none⟩ (.int .i64 x)) := by
  subst hx
  have hgne : 1 ≠ K.rb := by
    obtain ⟨t, fr, te, pe, hb⟩ := h.gl
    intro e
    have := h.rd
    rw [← e, hb] at this
    simp at this
  refine ⟨h.len, h.sm, h.nm, h.gl.setCell hgne _, h.hBG, h.pos, hd, ?_, ?_, ?_⟩
  · have := blk_setCell (i := 3) (v := .int .i64 (d' : Int)) h.rd
    rw [this]
    simp
  · refine h.row.frame fun k hk _ => ?_
    exact Below.heap_setCell _ _ _ _ (by simpa using hk.1)
  · rw [World.size_setCell]; exact h.hB

theorem TreeAt.set {w : World} {X : Nat → Prop} {b : Nat} {t : T} (h : TreeAt w X b t) {a : Addr} {v : Value} (hX : ∀ k, X k → k ≠ a.block) : TreeAt (w.setCell a v) X b t :=
  h.frame fun k hk _ => Below.heap_setCell _ _ _ _ (hX k hk)
theorem TreeAt.al {w : World} {X : Nat → Prop} {b : Nat} {t : T} (h : TreeAt w X b t) {o : Obj} : TreeAt (w.alloc o) X b t := h.gr (Gr.al _ _)
theorem TreeAt.dr {w : World} {X : Nat → Prop} {b : Nat} {t : T} (h : TreeAt w X b t) : TreeAt w.drew X b t := h.gr (Gr.refl _).drew
theorem TreeAt.drN {w : World} {X : Nat → Prop} {b : Nat} {t : T} (h : TreeAt w X b t) {n : Nat} : TreeAt (w.drewN n) X b t := h.gr ((Gr.refl _).drewN n)

theorem deeper_any (K : PK) (p d : Nat) (w : World) (h : Ctx K p d w) (hd : d ≤ 40) (fn : Value) (k : Nat) (caps : Array Value) (hfn : fn = .func (.func k) #[] caps) (r r' : PR T)
    (hr : deeperP K.L K.E d p (some r) = some r')
    (hk1 : Enters k) (hdo : d + 1 ≤ 40 → ∀ w', Ctx K p (d + 1) w' → Md K.rb w w' → Calls Tryz.prog k caps w' (PP K (d + 1) w' r (NewTree w'))) :
    Calls Tryz.prog 210 #[ptrV K.rb, fn] w (PP K d w r' (NewTree w)) := by
  subst hfn
  unfold Enters at hk1
  have hf := run_field_tok2
  have HC := Lib.hid h
  obtain ⟨c0, c1, c2, c3⟩ := h.cells
  have hlt := h.lt
  have fr := frozenAt h.rd
  have HD := Lib.hid hdo
  have hrb := h.lt
  unfold deeperP at hr
  by_cases hdd : 40 < d + 1
  · rw [if_pos hdd] at hr
    injection hr with hr
    subst hr
    have hc1 := Lib.hid ((h.deep (d + 1) (by omega) ((d : Int) + 1) (by omega)).alloc (.cells #[.pointer none] 53 (0, 0)))
    have HN := Lib.hid (now_any K p (d + 1) _ hc1.out)
    obtain ⟨⟨k, tx, at_⟩, hT⟩ : ∃ T, nowP K.L K.E p = T := ⟨_, rfl⟩
    rw [hT] at HN ⊢
    unfold tokV at HN
    clear hT h hdo
    go_enter Tryz.func210, Tryz.ntmps210
    go_wp2_with fail
    refine HN.out.mono ?_
    rintro e w1 ⟨rfl, hg1⟩
    go_wp2_with fail
    exact ⟨rfl, (((Md.refl _ _).setCell (.inr rfl) _).alloc _).trans (.of_gr hg1), rfl⟩
  · rw [if_neg hdd] at hr
    injection hr with hr
    subst hr
    have hd1 : d + 1 ≤ 40 := by omega
    clear h hdo
    go_enter Tryz.func210, Tryz.ntmps210
    go_wp2_with fail
    refine (HD.out hd1 _ ((HC.out.deep (d + 1) (by omega) ((d : Int) + 1) (by omega)).alloc _) (((Md.refl _ _).setCell (.inr rfl) _).alloc _)).mono ?_
    rintro e w1 ⟨hm1, hres⟩
    cases r with
    | err a er =>
      subst hres
      exact ⟨rfl, (((Md.refl _ _).setCell (.inr rfl) _).alloc _).trans hm1, rfl⟩
    | ok t p2 =>
      obtain ⟨v, rfl, ⟨b, rfl, ht⟩, hc⟩ := hres
      obtain ⟨e0, e1, e2, e3⟩ := hc.cells
      have fe := frozenAt hc.rd
      have hlt1 := hc.lt
      have B1 := hm1.blk (blk_alloc _ _) (by rw [World.size_setCell]; omega)
      rw [World.size_setCell] at B1
      have b1 := cellAt B1 (i := 0) rfl
      have fb := frozenAt B1
      have hz1 := blkLt B1
      have HT : Hid (TreeAt w1 (fun k => w.heap.size < k) b t) := ht.imp (fun k _ hk => by rw [World.size_alloc, World.size_setCell] at hk; omega)
      have q6 : (w1.setCell ⟨K.rb, 3, none⟩ (.int .i64 d)).cell? ⟨w.heap.size, 0, none⟩ = some (.pointer none) := cellAt (blk_setCell_ne B1 (by simp; omega)) rfl
      clear B1
      have HC1 := Lib.hid hc
      have HM1 := Lib.hid hm1
      clear ht hc hm1
      go_wp2_with fail
      refine bodyPost_ret (v := nodeV b) (by simp [results, Tryz.results210, go_sem, hz1, q6]) rfl ⟨?_, _, rfl, ⟨b, rfl, ?_⟩, ?_⟩
      · exact (((((Md.refl _ _).setCell (.inr rfl) _).alloc _).trans HM1.out).setCell (.inr rfl) _).setCell (.inl (by simp)) _ |>.alloc _
      · refine TreeAt.imp (X := fun k => w.heap.size < k) (fun k _ hk => Nat.le_of_lt hk) (by repeat' (first | (with_reducible exact HT.out) | (with_reducible refine TreeAt.al ?_) | (with_reducible refine TreeAt.dr ?_) | (with_reducible refine TreeAt.drN ?_) | (with_reducible refine TreeAt.set ?_ (by intro k hk; (try simp at hk); (try simp); omega))))
      · exact ((HC1.out.deep d (by omega) _ rfl).setNew HC.out.hB (by simp; omega) _).alloc _
end Go.Proofs.YthniejnbkkkbnaaGreatDoor

namespace Go.Proofs.YthniejnbkkkbnaaGreatDoor

structure Fld where
  name : Str
  typ : Str
  deriving DecidableEq
structure Struc where
  name : Str
  fields : List Fld
  deriving DecidableEq
structure Sig where
  name : Str
  params : List Fld
  result : Str
  deriving DecidableEq
structure Info where
  structs : List Struc
  globals : List Fld
  funs : List Sig
  deriving DecidableEq

/-- What a rule answers: a value, or the place and the number of what is broken; 'bad': nothing is said. -/
inductive CR (α : Type) where
  | ok (a : α)
  | err (at_ : Int) (e : Int)
  | bad
def cbind {α β : Type} (x : CR α) (f : α → CR β) : CR β :=
  match x with
  | .ok a => f a
  | .err a e => .err a e
  | .bad => .bad

/-- Look-ups in rows of pairs. -/
def aget {α β : Type} [BEq α] (m : List (α × β)) (x : α) : Option β := (m.find? (fun e => e.1 == x)).map (·.2)
def aput {α β : Type} [BEq α] (m : List (α × β)) (x : α) (v : β) : List (α × β) :=
  match m with
  | [] => [(x, v)]
  | e :: r => if e.1 == x then (x, v) :: r else e :: aput r x v

def findS (L : List Struc) (x : Str) : Int := idxFn (fun s => s.name == x) L
def findF (L : List Fld) (x : Str) : Int := idxFn (fun s => s.name == x) L
def findG (L : List Sig) (x : Str) : Int := idxFn (fun s => s.name == x) L
def elemP (t : Str) : Option Str := match t with | [] => none | a :: n => if a == 42 && isWordP n then some n else none
def isTypP (L : List Struc) (t : Str) : Bool := t == xInt || t == xBool || (match t with | [] => false | a :: n => a == 42 && decide (0 ≤ findS L n))

/-- kind.Check. -/
def fieldKC (L : List Struc) (ahead : List Fld) (f : Fld) : Int :=
  if !isWordP f.name then 1 else if ahead.any (fun g => g.name == f.name) then 6 else if !isTypP L f.typ then 7 else 0
def fieldsKC (L : List Struc) : List Fld → List Fld → Int
  | _, [] => 0
  | ahead, f :: r => if fieldKC L ahead f ≠ 0 then fieldKC L ahead f else fieldsKC L (ahead ++ [f]) r
def oneKC (L : List Struc) (i : Nat) (s : Struc) : Int :=
  if !isWordP s.name then 1
  else if max (findS L s.name) 0 < i then 6
  else if 8 < s.fields.length then 4
  else fieldsKC L [] s.fields
def allKC (L : List Struc) : Nat → List Struc → Int
  | _, [] => 0
  | i, s :: r => if oneKC L i s ≠ 0 then oneKC L i s else allKC L (i + 1) r
def kindCheckP (L : List Struc) : Int := if 12 < L.length then 4 else allKC L 0 L

def fieldsP (l : List T) : List Fld := l.map fun n => ⟨n.d.name, n.d.typ⟩
def partsP (t : T) : List T := t.kids.filter fun k => k.d.op == 5
def xNull : Str := xNil

def declP (x : Info) (d : T) : Info :=
  if d.d.op = 2 then { x with structs := x.structs ++ [⟨d.d.name, fieldsP (partsP d)⟩] }
  else if d.d.op = 3 then { x with globals := x.globals ++ [⟨d.d.name, d.d.typ⟩] }
  else if d.d.op = 4 then { x with funs := x.funs ++ [⟨d.d.name, fieldsP (partsP d), d.d.typ⟩] }
  else x
def namesC : List T → List Str → List (Int × Int) → Info → CR Info
  | [], _, _, x => .ok x
  | d :: ds, seen, most, x =>
    if seen.contains d.d.name then .err d.d.at_ 6
    else if (aget most d.d.op).getD 0 - 1 < 0 then .err d.d.at_ 4
    else namesC ds (seen ++ [d.d.name]) (aput most d.d.op ((aget most d.d.op).getD 0 - 1)) (declP x d)
def most0 : List (Int × Int) := [(2, 12), (3, 12), (4, 24)]

def partsC (x : Info) (most : Int) (all : List T) : Nat → List T → CR Unit
  | _, [] => .ok ()
  | i, p :: r =>
    if most ≤ i then .err p.d.at_ 4
    else if (all.take i).any (fun q => q.d.name == p.d.name) then .err p.d.at_ 6
    else if !isTypP x.structs p.d.typ then .err p.d.at_ 5
    else partsC x most all (i + 1) r
def mostT (op : Int) : Int := if op = 2 then 8 else if op = 4 then 6 else if op = 3 then 1 else 0
def listT (d : T) : List T := if d.d.op = 3 then [d] else partsP d
def typesC (x : Info) : List T → CR Unit
  | [] => .ok ()
  | d :: ds => cbind (partsC x (mostT d.d.op) (listT d) 0 (listT d)) fun _ =>
    if d.d.op ≠ 4 ∨ d.d.typ = [] ∨ isTypP x.structs d.d.typ = true then typesC x ds else .err d.d.at_ 5

abbrev Blk := List (Str × Str)
def localP (bl : List Blk) (x : Str) : Option Str := bl.reverse.findSome? fun m => aget m x
def isNamedP (x : Info) (n : Str) : Bool := decide (0 ≤ findS x.structs n) || decide (0 ≤ findF x.globals n) || decide (0 ≤ findG x.funs n)
def variableC (x : Info) (bl : List Blk) (d : D) : CR Str :=
  match localP bl d.name with
  | some t => .ok t
  | none =>
    if !isNamedP x d.name then .err d.at_ 5
    else if findF x.globals d.name < 0 then .err d.at_ 7
    else match x.globals[(findF x.globals d.name).toNat]? with
      | some f => .ok f.typ
      | none => .bad
/-- A text that is not too long for the walks' reckoning. -/
def shortC {α : Type} (t : Str) (r : CR α) : CR α := if t.length < 1000000 then r else .bad
def isPointerP (t : Str) : Bool := (elemP t).isSome
def isFitP (have_ want : Str) : Bool := (have_ != [] && have_ == want) || (have_ == xNull && isPointerP want)
def fieldC (x : Info) (d : D) (base : Str) : CR Str := shortC base <|
  match elemP base with
  | none => .err d.at_ 7
  | some n => match x.structs[(max (findS x.structs n) 0).toNat]? with
    | none => .bad
    | some s =>
      if findF s.fields d.name < 0 then .err d.at_ 5
      else match s.fields[(findF s.fields d.name).toNat]? with
        | some f => .ok f.typ
        | none => .bad
def madeC (x : Info) (d : D) : CR Str :=
  if !isNamedP x d.name then .err d.at_ 5
  else if findS x.structs d.name < 0 then .err d.at_ 7
  else .ok (42 :: d.name)
def fitsC (at_ : Int) : List Str → List Fld → CR Unit
  | a :: l, p :: ps => shortC p.typ (if isFitP a p.typ then fitsC at_ l ps else .err at_ 7)
  | _, _ => .ok ()
def callC (x : Info) (bl : List Blk) (d : D) (args : List Str) : CR Str :=
  if (localP bl d.name).isNone && !isNamedP x d.name then .err d.at_ 5
  else if findG x.funs d.name < 0 ∨ (localP bl d.name).isSome = true then .err d.at_ 7
  else match x.funs[(findG x.funs d.name).toNat]? with
    | none => .bad
    | some f => if args.length ≠ f.params.length then .err d.at_ 7 else cbind (fitsC d.at_ args f.params) fun _ => .ok f.result
def isEqualP (a b : Str) : Bool := (a == b && (a == xInt || a == xBool || isPointerP a)) || (a == xNull && isPointerP b) || (b == xNull && isPointerP a)
def binaryC (d : D) (a b : Str) : CR Str :=
  if d.op ≠ 24 then (if a = xBool ∧ b = xBool then .ok xBool else .err d.at_ 7)
  else if d.n = 11 ∨ d.n = 12 then shortC a (shortC b (if isEqualP a b then .ok xBool else .err d.at_ 7))
  else if a = xInt ∧ b = xInt then (if numLevel d.n = 3 then .ok xBool else .ok xInt) else .err d.at_ 7
mutual
def exprC (x : Info) (bl : List Blk) : T → CR Str
  | .mk d ks =>
    if d.op = 16 then .ok xBool
    else if d.op = 17 then .ok xNull
    else if d.op = 18 then variableC x bl d
    else if d.op = 19 then madeC x d
    else if d.op = 20 then (match ks with | a :: _ => cbind (exprC x bl a) fun b => fieldC x d b | [] => .bad)
    else if d.op = 21 then cbind (argsC x bl ks) fun l => callC x bl d l
    else if d.op = 23 then
      (match ks with
        | a :: _ => cbind (exprC x bl a) fun t => if t = (if d.n = 18 then xBool else xInt) then .ok (if d.n = 18 then xBool else xInt) else .err d.at_ 7
        | [] => .bad)
    else if d.op = 24 ∨ d.op = 25 ∨ d.op = 26 then
      (match ks with
        | a :: b :: _ => cbind (exprC x bl a) fun s => cbind (exprC x bl b) fun t => binaryC d s t
        | _ => .bad)
    else .ok xInt
def argsC (x : Info) (bl : List Blk) : List T → CR (List Str)
  | [] => .ok []
  | a :: r => cbind (exprC x bl a) fun s => cbind (argsC x bl r) fun t => .ok (s :: t)
end
def defineC (d : D) (bl : List Blk) (t : Str) : CR (List Blk) :=
  match bl.getLast? with
  | none => .bad
  | some m =>
    if (aget m d.name).isSome then .err d.at_ 6
    else if t = [] ∨ t = xNull then .err d.at_ 7
    else .ok (bl.dropLast ++ [m ++ [(d.name, t)]])
mutual
def stmtC (x : Info) (res : Str) : T → List Blk → CR (List Blk)
  | .mk d ks, bl =>
    if d.op = 6 then (if 100000 ≤ bl.length then .bad else cbind (insideC x res ks (bl ++ [[]])) fun bl => .ok bl.dropLast)
    else if d.op = 7 then (match ks with | a :: _ => cbind (exprC x bl a) fun t => defineC d bl t | [] => .bad)
    else if d.op = 8 then (match ks with
      | a :: _ => cbind (exprC x bl a) fun t => cbind (variableC x bl d) fun u => shortC u (if isFitP t u then .ok bl else .err d.at_ 7)
      | [] => .bad)
    else if d.op = 9 then (match ks with
      | a :: b :: _ => cbind (exprC x bl a) fun s => cbind (exprC x bl b) fun t => cbind (fieldC x d s) fun u => shortC u (if isFitP t u then .ok bl else .err d.at_ 7)
      | _ => .bad)
    else if d.op = 10 ∨ d.op = 11 then (match ks with
      | a :: b :: r => cbind (exprC x bl a) fun t => if t = xBool then insideC x res (b :: r) bl else .err d.at_ 7
      | _ => .bad)
    else if d.op = 12 then (match ks with
      | a :: _ => cbind (exprC x bl a) fun t => if t = xInt then .ok bl else .err d.at_ 7
      | [] => .bad)
    else if d.op = 13 then (match ks with
      | [] => if res = [] then .ok bl else .err d.at_ 7
      | a :: _ => cbind (exprC x bl a) fun t => shortC res (if isFitP t res then .ok bl else .err d.at_ 7))
    else if d.op = 14 then (match ks with
      | a :: _ => cbind (exprC x bl a) fun _ => .ok bl
      | [] => .bad)
    else .ok bl
def insideC (x : Info) (res : Str) : List T → List Blk → CR (List Blk)
  | [], bl => .ok bl
  | a :: r, bl => cbind (stmtC x res a bl) fun bl => insideC x res r bl
end
def varsP (l : List T) : Blk := l.foldl (fun m p => aput m p.d.name p.d.typ) []
def bodiesC (x : Info) : List T → CR Unit
  | [] => .ok ()
  | d :: ds =>
    if d.d.op ≠ 4 then bodiesC x ds
    else match d.kids.getLast? with
      | none => .bad
      | some b => cbind (insideC x d.d.typ b.kids [varsP (partsP d)]) fun _ => bodiesC x ds
def mainC (x : Info) : CR Unit :=
  if findG x.funs xMain < 0 then .err 0 8
  else match x.funs[(findG x.funs xMain).toNat]? with
    | none => .bad
    | some f => if f.params.length > 0 ∨ f.result ≠ [] then .err 0 8 else .ok ()
mutual
/-- No node has too many kids, or too long a text. -/
def smallT : T → Bool
  | .mk d ks => decide (d.name.length < 100000) && decide (d.typ.length < 100000) && decide (ks.length < 1000000) && smallL ks
def smallL : List T → Bool
  | [] => true
  | t :: r => smallT t && smallL r
end
def isPart (t : T) : Bool := t.d.op == 5
/-- All kids but the last one are parts. -/
def partsOk (ts : List T) : Bool := ts.dropLast.all isPart
def checkP (t : T) : CR Info :=
  if t.d.op ≠ 1 then .err 0 1
  else if !(smallT t && t.kids.all fun d => partsOk d.kids) then .bad
  else cbind (namesC t.kids [] most0 ⟨[], [], []⟩) fun x => cbind (typesC x t.kids) fun _ => cbind (bodiesC x t.kids) fun _ => cbind (mainC x) fun _ => .ok x
def sourceP (s : Str) : CR (T × Info) :=
  match parseP s with
  | .err a e => .err a e
  | .ok t => cbind (checkP t) fun x => .ok (t, x)
end Go.Proofs.YthniejnbkkkbnaaGreatDoor

namespace Go.Proofs.YthniejnbkkkbnaaGreatDoor

/-- A run's state. -/
structure MS where
  inp : List Int
  fuel : Nat
  out : List Int
  steps : Nat
  deriving DecidableEq
/-- What a part of a run comes to: a value, an end, or (bad) nothing that is said here. -/
inductive XR (α : Type) where
  | ok (a : α) (m : MS)
  | stop (end_ fault : Int) (m : MS)
  | bad
def xbind {α β : Type} (x : XR α) (f : α → MS → XR β) : XR β :=
  match x with
  | .ok a m => f a m
  | .stop e c m => .stop e c m
  | .bad => .bad
def stepM {α : Type} (m : MS) (f : MS → XR α) : XR α := match m.fuel with | 0 => .stop 3 0 m | n + 1 => f { m with fuel := n, steps := m.steps + 1 }
def readM (m : MS) : XR Int := match m.inp with | [] => .ok 0 m | a :: r => .ok a { m with inp := r }
def twoG (f : T → MS → XR Int) (a b : T) (m : MS) : XR Int := xbind (f a m) fun _ m => xbind (f b m) fun y m => if y = 0 then .stop 2 11 m else .bad
def exprM : Nat → T → MS → XR Int
  | 0, _, _ => .bad
  | k + 1, t, m => stepM m fun m =>
    if t.d.op = 15 then .ok t.d.n m
    else if t.d.op = 22 then readM m
    else if t.d.op = 24 ∧ t.d.n = 4 then
      match t.kids with
      | [a, b] => twoG (exprM k) a b m
      | _ => .bad
    else .bad
def quoG (f : T → MS → XR Int) (ks : List T) (m : MS) : XR Int := match ks with | [a, b] => twoG f a b m | _ => .bad
theorem exprM_succ (k : Nat) (d : D) (ks : List T) (m : MS) : exprM (k + 1) (.mk d ks) m = stepM m fun m => if d.op = 15 then .ok d.n m else if d.op = 22 then readM m else if d.op = 24 ∧ d.n = 4 then quoG (exprM k) ks m else .bad := by
  unfold exprM quoG
  rfl
def stmtM (k : Nat) (t : T) (m : MS) : XR Unit := stepM m fun m =>
  if t.d.op = 12 then
    match t.kids with
    | [a] => xbind (exprM k a m) fun v m => if m.out = [] then .ok () { m with out := [v] } else .bad
    | _ => .bad
  else .bad
def insideM (k : Nat) : List T → MS → XR Unit
  | [], m => .ok () m
  | t :: r, m => xbind (stmtM k t m) fun _ m => insideM k r m
end Go.Proofs.YthniejnbkkkbnaaGreatDoor
