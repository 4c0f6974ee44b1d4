/- A node's kids, while it is being made: a slice of its own, and the trees that it leads to. -/
import Derived.Test.YthniejnbkkkbnaaGreatDoorM33
import Derived.Deep.LoopGhost
import Derived.Deep.AppendLies
import Derived.Laws.OwnMore
set_option linter.all false
set_option linter.unusedSimpArgs false
set_option linter.unusedVariables false
namespace Go.Proofs.YthniejnbkkkbnaaGreatDoor
open Go.RowKit
set_option maxRecDepth 100000
set_option maxHeartbeats 1000000

structure KidsAt (base : Nat) (w : World) (kv : Value) (ks : List T) (bs : List Nat) : Prop where
  own : w.ownsRow base 53 1 kv ks.length (bs.map ptrV)
  len : bs.length = ks.length
  kid : ∀ (i b : Nat) (t : T), bs[i]? = some b → ks[i]? = some t → TreeAt w (fun k => base ≤ k ∧ some k ≠ kv.ownBlock) b t

theorem KidsAt.nil (base : Nat) (w : World) : KidsAt base w (.slice none 0 0) [] [] := ⟨World.ownsRow_nil _ _ _ _, rfl, fun i b t h => by simp at h⟩
theorem KidsAt.grown {base : Nat} {w w' : World} {kv : Value} {ks : List T} {bs : List Nat} {row : Option Nat} (h : KidsAt base w kv ks bs) (hg : w.grownBy w' row) (hr : ∀ k, row = some k → k < base) : KidsAt base w' kv ks bs := by
  refine ⟨h.own.kept hg ?_, h.len, fun i b t hb ht => (h.kid i b t hb ht).frame fun k hk hlt => hg.block k hlt fun e => ?_⟩
  · cases hkv : kv.ownBlock with
    | none => exact .inl rfl
    | some k =>
      refine .inr fun e => ?_
      have := hr k e.symm
      have := (h.own.lt k hkv).1
      omega
  · have := hr k e.symm
    omega
theorem KidsAt.gr {base : Nat} {w w' : World} {kv : Value} {ks : List T} {bs : List Nat} (h : KidsAt base w kv ks bs) (hg : Gr w w') : KidsAt base w' kv ks bs := h.grown hg.grownNone (fun k e => by cases e)
theorem grownBy_setCell (w : World) (a : Addr) (v : Value) : w.grownBy (w.setCell a v) (some a.block) :=
  ⟨rfl, rfl, rfl, by rw [World.size_setCell]; exact Nat.le_refl _, fun k _ hn => Below.heap_setCell _ _ _ _ fun e => hn (by rw [e])⟩
theorem KidsAt.set {base : Nat} {w : World} {kv : Value} {ks : List T} {bs : List Nat} (h : KidsAt base w kv ks bs) {a : Addr} {v : Value} (ha : a.block < base) : KidsAt base (w.setCell a v) kv ks bs :=
  h.grown (grownBy_setCell w a v) (fun k e => by injection e with e; omega)
theorem KidsAt.push {base : Nat} {w3 wa w4 : World} {kv : Value} {ks : List T} {bs : List Nat} {x : T} {bx lo g cap : Nat} (h : KidsAt base w3 kv ks bs) (hlo : base ≤ lo) (hkv : ∀ k, kv.ownBlock = some k → k < lo)
    (hx : TreeAt w3 (fun k => lo ≤ k) bx x) (hga : Gr w3 wa) (hown : w4.ownsRow base 53 1 (.slice (some ⟨g, 0, none⟩) (ks.length + 1) cap) (ks.length + 1) (bs.map ptrV ++ [ptrV bx]))
    (hgr : wa.grownBy w4 kv.ownBlock) (hat : kv.ownBlock = some g ∨ g = wa.heap.size) : KidsAt base w4 (.slice (some ⟨g, 0, none⟩) (ks.length + 1) cap) (ks ++ [x]) (bs ++ [bx]) := by
  have hsz := hga.size
  refine ⟨by simpa using hown, by simp [h.len], fun i b t hb ht => ?_⟩
  have key : ∀ (b : Nat) (t : T), TreeAt w3 (fun k => base ≤ k ∧ some k ≠ kv.ownBlock) b t → TreeAt w4 (fun k => base ≤ k ∧ some k ≠ (Value.slice (some ⟨g, 0, none⟩) (ks.length + 1) cap).ownBlock) b t := fun b t ht => by
    have h1 : TreeAt w3 (fun k => base ≤ k ∧ some k ≠ kv.ownBlock ∧ k < w3.heap.size) b t := ht.imp fun k hk hh => ⟨hh.1, hh.2, hk⟩
    have h2 := (h1.gr hga).frame (w' := w4) fun k hk hlt => hgr.block k hlt hk.2.1
    refine h2.imp fun k hk hh => ⟨hh.1, fun e => ?_⟩
    have e : k = g := by simpa [Value.ownBlock] using e
    rcases hat with ha | ha
    · exact hh.2.1 (by rw [e, ha])
    · omega
  rcases Nat.lt_or_ge i ks.length with hi | hi
  · rw [List.getElem?_append_left (by rw [h.len]; exact hi)] at hb
    rw [List.getElem?_append_left hi] at ht
    exact key b t (h.kid i b t hb ht)
  · rw [List.getElem?_append_right hi] at ht
    rw [List.getElem?_append_right (by rw [h.len]; exact hi), h.len] at hb
    match hj : i - ks.length, hb, ht with
    | 0, hb, ht =>
      injection hb with hb
      injection ht with ht
      subst hb ht
      refine key _ _ (hx.imp fun k _ hk => ⟨by omega, fun e => ?_⟩)
      have := hkv k e.symm
      omega
    | n + 1, hb, ht => simp at hb
theorem KidsAt.lit {base : Nat} {w : World} {x : T} {bx : Nat} (hb : base ≤ w.heap.size) (hx : TreeAt w (fun k => base ≤ k) bx x) : KidsAt base (w.alloc (.cells #[ptrV bx] 53)) (.slice (some ⟨w.heap.size, 0, none⟩) 1 1) [x] [bx] := by
  refine ⟨World.ownsRow_lit w #[ptrV bx] 1 hb (by decide) rfl, rfl, fun i b t hb ht => ?_⟩
  match i, hb, ht with
  | 0, hb, ht =>
    injection hb with hb
    injection ht with ht
    subst hb ht
    refine TreeAt.al (hx.imp fun k hk h => ⟨h, fun e => ?_⟩)
    have e : k = w.heap.size := by simpa [Value.ownBlock] using e
    omega
theorem KidsAt.form {base : Nat} {w : World} {kv : Value} {ks : List T} {bs : List Nat} (h : KidsAt base w kv ks bs) : ∃ A c, kv = .slice A ks.length c ∧ RowR w (fun k => some k = kv.ownBlock) A (bs.map ptrV) := by
  obtain ⟨hl, h1⟩ := h.own
  rcases h1 with ⟨hv, hn⟩ | ⟨g, cap, cur, hv, hb, hg, h2, h3, h4, h5⟩
  · refine ⟨none, 0, by rw [hv, hn], .inl ?_⟩
    have := h.len
    rw [hn] at this
    rw [List.length_eq_zero_iff.1 this]; rfl
  · refine ⟨_, _, hv, .inr ⟨g, 0, cur, _, _, by rw [hv]; rfl, rfl, hg, fun i v hi => ?_⟩⟩
    rw [← h5, List.getElem?_take] at hi
    split at hi
    · simpa using hi
    · cases hi
/-- The finished node. -/
theorem KidsAt.tree {base bn : Nat} {w : World} {kv : Value} {ks : List T} {bs : List Nat} (h : KidsAt base w kv ks bs) {op n at_ : Int} {name typ : Str} {X : Nat → Prop}
    (hb : w.heap[bn]? = some (.cells #[.int .i64 op, .string (S name), .string (S typ), .int .i64 n, .int .i64 at_, kv] 96 (0, 0))) (hX : X bn) (hXY : ∀ k, base ≤ k → X k) : TreeAt w X bn (.mk ⟨op, name, typ, n, at_⟩ ks) := by
  obtain ⟨A, c, hv, hr⟩ := h.form
  have hown := h.own
  rw [hv] at hb
  refine .mk (bs := bs) hX hb (hr.imp fun k _ hk => hXY k (hown.lt k hk.symm).1) h.len (fun i b t hb ht => (h.kid i b t hb ht).imp fun k _ hk => hXY k hk.1)
theorem KidsAt.own_lt {base : Nat} {w : World} {kv : Value} {ks : List T} {bs : List Nat} (h : KidsAt base w kv ks bs) : ∀ k, kv.ownBlock = some k → base ≤ k ∧ k < w.heap.size := h.own.lt

theorem Ctx.grown {K : PK} {p d : Nat} {w w' : World} {row : Option Nat} (h : Ctx K p d w) (hm : w.grownBy w' row) (hr : ∀ k, row = some k → K.B ≤ k ∧ k ≠ K.rb) : Ctx K p d w' := by
  have hBG := h.hBG
  have key : ∀ k, k < w.heap.size → (k < K.B ∨ k = K.rb) → w'.heap[k]? = w.heap[k]? := fun k hk h2 => hm.block k hk fun e => by have := hr k e.symm; omega
  refine ⟨h.len, h.sm, h.nm, ?_, h.hBG, h.pos, h.dep, ?_, h.row.frame fun k hk hlt => key k hlt (.inl hk.2), Nat.le_trans h.hB hm.size⟩
  · obtain ⟨t, fr, te, pe, hb⟩ := h.gl
    exact ⟨t, fr, te, pe, by rw [key _ (blkLt hb) (.inl hBG)]; exact hb⟩
  · rw [key _ h.lt (.inr rfl)]; exact h.rd
theorem Md.grown {rb : Nat} {w w' w2 : World} {row : Option Nat} (h : Md rb w w') (hm : w'.grownBy w2 row) (hr : ∀ k, row = some k → w.heap.size ≤ k) : Md rb w w2 :=
  ⟨hm.os.trans h.os, hm.tape.trans h.tape, hm.output.trans h.output, Nat.le_trans h.size hm.size, fun k hk hn => by
    rw [hm.block k (Nat.lt_of_lt_of_le hk h.size) (fun e => by have := hr k e.symm; omega)]
    exact h.block k hk hn⟩
theorem grown_blk {w w' : World} {row : Option Nat} {k : Nat} {o : Obj} (hm : w.grownBy w' row) (h : w.heap[k]? = some o) (hr : ∀ j, row = some j → j ≠ k) : w'.heap[k]? = some o := by
  rw [hm.block k (blkLt h) (fun e => hr k e.symm rfl)]; exact h
theorem info_node : (Tryz.prog.info? 53).map (fun i => (i.zero, i.size, i.bytes)) = some (some (.agg #[.pointer none]), 1, 8) := by kernel_rfl
theorem news_ptr {w : World} {B b : Nat} {t : TypeId} {fr : Nat × Nat} (hb : w.heap[B]? = some (.cells #[ptrV b] t fr)) : ∀ j u, [ptrV b][j]? = some u → w.cell? ((⟨B, 0, none⟩ : Addr).add j) = some u := World.news_of_block hb
theorem one_ptr (b : Nat) : ∀ u ∈ [ptrV b], u.oneCell' = true := by simp [Value.oneCell']
end Go.Proofs.YthniejnbkkkbnaaGreatDoor
