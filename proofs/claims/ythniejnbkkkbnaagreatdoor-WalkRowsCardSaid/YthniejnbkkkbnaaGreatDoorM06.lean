/- Walk: Scan of layer lex. Walks of layer parse: the reader's small methods. -/
import Derived.Test.YthniejnbkkkbnaaGreatDoorM05
import Derived.OwnWalk
import Derived.Test.YthniejnbkkkbnaaGreatDoorM02
import Derived.BigRegion
set_option linter.all false
set_option linter.unusedSimpArgs false
set_option linter.unusedVariables false
namespace Go.Proofs.YthniejnbkkkbnaaGreatDoor
open Go.RowKit
set_option maxRecDepth 100000
set_option maxHeartbeats 1000000

def tokCells (ts : List Tok) : List Value := ts.flatMap fun t => [.int .i64 t.kind, .string (S t.text), .int .i64 t.at_]
theorem tokCells_length (ts : List Tok) : (tokCells ts).length = ts.length * 3 := by
  unfold tokCells
  induction ts with
  | nil => rfl
  | cons t ts ih => simp [ih]; omega
theorem info_tok : (Tryz.prog.info? 136).map (fun i => (i.zero, i.size, i.bytes)) = some (some (.agg #[.int .i64 0, .string ⟨#[]⟩, .int .i64 0]), 3, 32) := by kernel_rfl

/-- What Scan leaves. -/
def ScanPost (w : World) (r : ScanR) (e : Ending) (w' : World) : Prop := Gr w w' ∧ match r with
  | .ok ts => ∃ v, e = .returned (.tuple #[v, .int .i64 0, .int .i64 0]) ∧ w'.ownsRow w.heap.size 136 3 v ts.length (tokCells ts) ∧ ts.length ≤ 4096
  | .err p er => e = .returned (.tuple #[.slice none 0 0, .int .i64 p, .int .i64 er])

theorem tokCells_snoc (ts : List Tok) (k : Int) (tx : Str) (j : Int) : tokCells (ts ++ [⟨k, tx, j⟩]) = tokCells ts ++ [.int .i64 k, .string (S tx), .int .i64 j] := by
  simp [tokCells]

theorem scan_any (s : ByteArray) (hl : s.size ≤ 4096) (w : World) (hG : Glob w) :
    Calls Tryz.prog 39 #[.string s] w (ScanPost w (scanP s.data.toList)) := by
  obtain ⟨i0, hi, hz0, hz1, hz2⟩ := info_parts info_tok
  have HG := Lib.hid hG
  clear hG
  have HSK := Lib.hid (skip_any s (by omega))
  obtain ⟨j0, hj0⟩ : ∃ j, j = skipP s.data.toList := ⟨_, rfl⟩
  have hjs : j0 ≤ s.size := by rw [hj0, ← size_list]; exact skipP_le _
  have HS0 : Hid (scanP s.data.toList = scanF (s.size + 1) j0 (s.data.toList.drop j0)) := by
    unfold scanP
    rw [if_neg (by rw [size_list]; omega), size_list, hj0]
    rfl
  rw [← hj0] at HSK
  clear hj0
  go_enter Tryz.func39, Tryz.ntmps39
  go_wp2_with fail
  refine (HSK.out _).mono ?_
  rintro e w' ⟨rfl, rfl⟩
  go_wp2_with fail
  go_loopw [5, 6, 7, 8] (fun v t _ _ wr => ∃ (j : Nat) (ts : List Tok), j ≤ s.size ∧ t = .int .i64 j ∧ wr.ownsRow w.heap.size 136 3 v ts.length (tokCells ts) ∧ Gr w wr ∧ ts.length ≤ j ∧ Hid (∃ k, s.size - j < k ∧ scanP s.data.toList = (scanF k j (s.data.toList.drop j)).cat ts)) (fun _ t _ _ _ => s.size - (intOf t).toNat)
  case atStart =>
    refine ⟨j0, [], hjs, rfl, World.ownsRow_nil _ _ _ _, Gr.refl _, by simp, s.size + 1, by omega, ?_⟩
    rw [HS0.out]
    cases scanF (s.size + 1) j0 (s.data.toList.drop j0) <;> rfl
  case round =>
    obtain ⟨j, ts, hj, rfl, hown, hg, htl, hk⟩ := hrel
    by_cases hlt : j < s.size
    · obtain ⟨d, hd⟩ : ∃ d, d = s.data.toList.drop j := ⟨_, rfl⟩
      have hdl : d.length = s.size - j := by rw [hd]; simp
      obtain ⟨a, l, hal⟩ : ∃ a l, d = a :: l := by
        cases d with
        | nil => simp at hdl; omega
        | cons a l => exact ⟨a, l, rfl⟩
      have e1 : (s.extract j s.size).data.toList = d := by rw [extract_list, List.take_of_length_le (by simp), hd]
      have HNX : Hid (∀ w, Glob w → Calls Tryz.prog 54 #[.string (s.extract j s.size)] w fun e w' => e = .returned (.tuple #[tokV (nextP d).1, .int .i64 (nextP d).2]) ∧ Gr w w') := fun w hG => by
        have := next_any (s.extract j s.size) a l (by rw [e1, hal]) (by rw [← size_list, e1, hdl]; omega) w hG
        rw [e1] at this
        exact this
      obtain ⟨⟨⟨k, tx, at_⟩, er⟩, hr⟩ : ∃ r, nextP d = r := ⟨_, rfl⟩
      rw [hr] at HNX
      unfold tokV at HNX
      by_cases her : er = 0
      · subst her
        have hlen := nextP_len a l (by rw [← hal, hr])
        rw [← hal, hr] at hlen
        simp only [] at hlen
        rw [hdl] at hlen
        obtain ⟨m, hm⟩ : ∃ m : Nat, j + tx.length = m := ⟨_, rfl⟩
        have hms : m ≤ s.size := by omega
        have hmj : j < m := by omega
        have hmi : (j : Int) + ((S tx).size : Int) = (m : Int) := by rw [size_S]; omega
        have e2 : (s.extract m s.size).data.toList = d.drop tx.length := by rw [extract_list, List.take_of_length_le (by simp), hd, List.drop_drop, hm]
        have HK2 := Lib.hid (skip_any (s.extract m s.size) (by rw [← size_list, e2]; simp; omega))
        rw [e2] at HK2
        obtain ⟨sk, hsk⟩ : ∃ sk, sk = skipP (d.drop tx.length) := ⟨_, rfl⟩
        rw [← hsk] at HK2
        have hskl : sk ≤ d.length - tx.length := by rw [hsk]; have := skipP_le (d.drop tx.length); simpa using this
        obtain ⟨q, hq⟩ : ∃ q : Nat, m + sk = q := ⟨_, rfl⟩
        have hqs : q ≤ s.size := by omega
        have hqj : j < q := by omega
        have hqi : (m : Int) + (sk : Int) = (q : Int) := by omega
        have HFIN : Hid (∃ k', s.size - q < k' ∧ scanP s.data.toList = (scanF k' q (s.data.toList.drop q)).cat (ts ++ [⟨k, tx, j⟩])) := by
          obtain ⟨f, hf1, hf2⟩ := hk.out
          obtain ⟨f, rfl⟩ : ∃ f', f = f' + 1 := ⟨f - 1, by omega⟩
          refine ⟨f, by omega, ?_⟩
          rw [hf2, ← hd, hal, scanF_cons f j a l (by rw [← hal, hr]), ← hal, hr]
          simp only []
          rw [← hsk, hm, hq, List.drop_drop, hd, List.drop_drop]
          have e3 : j + (tx.length + sk) = q := by omega
          rw [e3]
          cases scanF f q (s.data.toList.drop q) <;> simp [ScanR.cat]
        clear hd hal e1 hr hm e2 hsk hq hdl hk
        go_wp2_with fail
        refine (HNX.out _ (HG.out.gr hg)).mono ?_
        rintro e w1 ⟨rfl, hg1⟩
        have HO := ownGr hown hg1
        clear hown
        go_wp2_with (at_builtin; refine wpList_append_own _ rfl _ _ 103 rfl w.heap.size 136 i0 _ 3 32 Tryz.underlying103 hi hz0 hz1 hz2 rfl (by decide) _ ts.length (tokCells ts) rfl ((HO.alloc _).alloc _) ⟨w1.heap.size + 1, 0, none⟩ 1 1 [.int .i64 k, .string (S tx), .int .i64 j] rfl rfl ?c1 ?c2 ?c3 ?c4 ?c5 ?_)
        case c1 => exact cells3_add (alloc2_snd _ _ _)
        case c2 => simp [Value.oneCell']
        case c3 => unfold maxLen; omega
        case c4 => omega
        case c5 => have := hg.size; have := hg1.size; simp; omega
        intro v' w2 hown2 hgrow _
        have hne : u5.ownBlock ≠ some w1.heap.size := fun e => by have := (HO.lt _ e).2; omega
        have B1 : w2.heap[w1.heap.size]? = some (.cells #[.int .i64 k, .string (S tx), .int .i64 j] 136 (0, 0)) := by
          rw [hgrow.block _ (by simp; omega) hne.symm]
          exact alloc2_fst _ _ _
        obtain ⟨a0, a1, a2⟩ := cells3 B1
        have hgg : Gr w w2 := (((hg.trans hg1).alloc _).alloc _).grown hgrow (own_ge HO)
        rw [← tokCells_snoc] at hown2
        have HO2 := Lib.hid hown2
        clear hown2 hgrow HO B1 hne
        go_wp2_with fail
        refine (HK2.out _).mono ?_
        rintro e w3 ⟨rfl, rfl⟩
        go_wp2_with fail
        go_roundw
        case rel => exact ⟨q, ts ++ [⟨k, tx, j⟩], hqs, rfl, by simpa using HO2.out, hgg, by simp; omega, HFIN⟩
        case measure => simp [intOf]; omega
      · have HE : Hid (scanP s.data.toList = .err j er) := by
          obtain ⟨f, hf1, hf2⟩ := hk.out
          obtain ⟨f, rfl⟩ : ∃ f', f = f' + 1 := ⟨f - 1, by omega⟩
          rw [hf2, ← hd, hal, scanF_err f j a l (by rw [← hal, hr]; exact her), ← hal, hr]
          rfl
        clear hd hal e1 hr hdl hk
        go_wp2_with fail
        refine (HNX.out _ (HG.out.gr hg)).mono ?_
        rintro e w1 ⟨rfl, hg1⟩
        go_wp2_with fail
        go_ret3
        exact ⟨(hg.trans hg1).alloc _, by rw [HE.out]; rfl⟩
    · have HE : Hid (scanP s.data.toList = .ok ts) := by
        obtain ⟨f, hf1, hf2⟩ := hk.out
        obtain ⟨f, rfl⟩ : ∃ f', f = f' + 1 := ⟨f - 1, by omega⟩
        rw [hf2, List.drop_of_length_le (by rw [size_list]; omega), scanF]
        show (ScanR.ok []).cat ts = ScanR.ok ts
        simp [ScanR.cat]
      clear hk
      go_wp2_with fail
      go_ret3
      exact ⟨hg, by rw [HE.out]; exact ⟨_, rfl, hown, by omega⟩⟩
end Go.Proofs.YthniejnbkkkbnaaGreatDoor

namespace Go.Proofs.YthniejnbkkkbnaaGreatDoor
open Go.RowKit
set_option maxRecDepth 100000
set_option maxHeartbeats 1000000

/-- What of the old memory may turn: the reader's own block. -/
def Md (rb : Nat) (w w' : World) : Prop := w.grownBy w' (some rb)
theorem Md.refl (rb : Nat) (w : World) : Md rb w w := ⟨rfl, rfl, rfl, Nat.le_refl _, fun _ _ _ => rfl⟩
theorem Md.of_gr {rb : Nat} {w w' : World} (h : Gr w w') : Md rb w w' := ⟨h.os, h.tape, h.output, h.size, fun k hk _ => h.block k hk⟩
theorem Md.trans {rb : Nat} {a b c : World} (h : Md rb a b) (k : Md rb b c) : Md rb a c :=
  ⟨k.os.trans h.os, k.tape.trans h.tape, k.output.trans h.output, Nat.le_trans h.size k.size, fun i hi hn => (k.block i (Nat.lt_of_lt_of_le hi h.size) hn).trans (h.block i hi hn)⟩
theorem Md.alloc {rb : Nat} {a b : World} (h : Md rb a b) (o : Obj) : Md rb a (b.alloc o) := h.trans (.of_gr (Gr.al _ _))
theorem Md.drew {rb : Nat} {a b : World} (h : Md rb a b) : Md rb a b.drew := h.trans (.of_gr (Gr.refl _).drew)
theorem Md.setCell {rb : Nat} {a b : World} (h : Md rb a b) {p : Addr} (hp : a.heap.size ≤ p.block ∨ p.block = rb) (u : Value) : Md rb a (b.setCell p u) :=
  ⟨h.os, h.tape, h.output, by rw [World.size_setCell]; exact h.size, fun k hk hn => by
    rw [Below.heap_setCell b p u k (by rcases hp with hp | hp <;> (intro e; subst e; first | omega | (apply hn; rw [hp])))]
    exact h.block k hk hn⟩
theorem Md.blk {rb : Nat} {a b : World} (h : Md rb a b) {k : Nat} {o : Obj} (hk : a.heap[k]? = some o) (hn : k ≠ rb) : b.heap[k]? = some o := by
  rw [h.block k (blkLt hk) (fun e => hn (Option.some.inj e))]; exact hk
theorem Md.row {rb : Nat} {w w' : World} {X : Nat → Prop} {A : Option Addr} {cs : List Value} (h : RowR w X A cs) (hX : ∀ k, X k → k ≠ rb) (hm : Md rb w w') : RowR w' X A cs :=
  h.frame fun k hk hlt => hm.block k hlt fun e => hX k hk (Option.some.inj e)
theorem Md.tree {rb : Nat} {w w' : World} {X : Nat → Prop} {b : Nat} {t : T} (h : TreeAt w X b t) (hX : ∀ k, X k → k ≠ rb) (hm : Md rb w w') : TreeAt w' X b t :=
  h.frame fun k hk hlt => hm.block k hlt fun e => hX k hk (Option.some.inj e)

theorem Md.drewN {rb : Nat} {a b : World} (h : Md rb a b) (n : Nat) : Md rb a (b.drewN n) := h.trans (.of_gr ((Gr.refl _).drewN n))
theorem blk_setCell_to {w : World} {b i : Nat} {cs cs' : Array Value} {t : TypeId} {fr : Nat × Nat} {v : Value} (h : w.heap[b]? = some (.cells cs t fr)) (e : cs.setIfInBounds i v = cs') :
    (w.setCell ⟨b, i, none⟩ v).heap[b]? = some (.cells cs' t fr) := e ▸ blk_setCell h
theorem blk_drew {w : World} {k : Nat} {o : Obj} (h : w.heap[k]? = some o) : w.drew.heap[k]? = some o := h
theorem blk_drewN {w : World} {k n : Nat} {o : Obj} (h : w.heap[k]? = some o) : (w.drewN n).heap[k]? = some o := h
/-- What the reader reads, and where it lies. -/
structure PK where
  L : List Tok
  E : Int
  rb : Nat
  A : Option Addr
  c : Nat
  B : Nat

theorem Glob.setCell {w : World} (h : Glob w) {a : Addr} (hne : 1 ≠ a.block) (v : Value) : Glob (w.setCell a v) := by
  obtain ⟨t, fr, te, pe, hb⟩ := h
  exact ⟨t, fr, te, pe, blk_setCell_ne hb hne⟩

structure Ctx (K : PK) (p d : Nat) (w : World) : Prop where
  len : K.L.length ≤ 4096
  sm : ∀ i, (nowP K.L K.E i).text.length ≤ 5000
  nm : ∀ i, (nowP K.L K.E i).kind = 3 → (nowP K.L K.E i).text ≠ [] ∧ (nowP K.L K.E i).text.all isDigitB = true ∧ (nowP K.L K.E i).text.length ≤ 4096
  gl : Glob w
  hBG : 1 < K.B
  pos : p ≤ K.L.length
  dep : d ≤ 1000
  rd : w.heap[K.rb]? = some (.cells #[.slice K.A K.L.length K.c, .int .i64 p, .int .i64 K.E, .int .i64 d] 108 (0, 0))
  row : RowR w (fun k => k ≠ K.rb ∧ k < K.B) K.A (tokCells K.L)
  hB : K.B ≤ w.heap.size
theorem Ctx.gr {K : PK} {p d : Nat} {w w' : World} (h : Ctx K p d w) (hg : Gr w w') : Ctx K p d w' := ⟨h.len, h.sm, h.nm, h.gl.gr hg, h.hBG, h.pos, h.dep, hg.blk h.rd, h.row.gr hg, Nat.le_trans h.hB hg.size⟩
theorem Ctx.setNew {K : PK} {p d : Nat} {w : World} (h : Ctx K p d w) {a : Addr} (ha : K.B ≤ a.block) (hne : K.rb ≠ a.block) (v : Value) : Ctx K p d (w.setCell a v) :=
  ⟨h.len, h.sm, h.nm, h.gl.setCell (by have := h.hBG; omega) v, h.hBG, h.pos, h.dep, blk_setCell_ne h.rd hne, h.row.frame fun k hk _ => Below.heap_setCell _ _ _ _ (by omega), by rw [World.size_setCell]; exact h.hB⟩
theorem Ctx.drew {K : PK} {p d : Nat} {w : World} (h : Ctx K p d w) : Ctx K p d w.drew := h.gr (Gr.refl _).drew
theorem Ctx.drewN {K : PK} {p d : Nat} {w : World} (h : Ctx K p d w) (n : Nat) : Ctx K p d (w.drewN n) := h.gr ((Gr.refl _).drewN n)
theorem Ctx.alloc {K : PK} {p d : Nat} {w : World} (h : Ctx K p d w) (o : Obj) : Ctx K p d (w.alloc o) := h.gr (Gr.al _ _)
/-- The reader's cells. -/
theorem Ctx.cells {K : PK} {p d : Nat} {w : World} (h : Ctx K p d w) : w.cell? ⟨K.rb, 0, none⟩ = some (.slice K.A K.L.length K.c) ∧ w.cell? ⟨K.rb, 1, none⟩ = some (.int .i64 p) ∧ w.cell? ⟨K.rb, 2, none⟩ = some (.int .i64 K.E) ∧ w.cell? ⟨K.rb, 3, none⟩ = some (.int .i64 d) := cells4 h.rd
theorem Ctx.lt {K : PK} {p d : Nat} {w : World} (h : Ctx K p d w) : K.rb < w.heap.size := blkLt h.rd

theorem tokCells_get (L : List Tok) : ∀ (j : Nat) (hj : j < L.length), (tokCells L)[j * 3]? = some (.int .i64 L[j].kind) ∧ (tokCells L)[j * 3 + 1]? = some (.string (S L[j].text)) ∧ (tokCells L)[j * 3 + 2]? = some (.int .i64 L[j].at_) := by
  induction L with
  | nil => intro j hj; simp at hj
  | cons t L ih =>
    intro j hj
    have e : tokCells (t :: L) = [.int .i64 t.kind, .string (S t.text), .int .i64 t.at_] ++ tokCells L := by simp [tokCells]
    rw [e]
    cases j with
    | zero => simp
    | succ j =>
      have h := ih j (by simpa using hj)
      rw [List.getElem?_append_right (by simp; omega), List.getElem?_append_right (by simp; omega), List.getElem?_append_right (by simp; omega)]
      simp only [List.length_cons, List.length_nil, List.getElem_cons_succ]
      have e1 : (j + 1) * 3 - (0 + 1 + 1 + 1) = j * 3 := by omega
      have e2 : (j + 1) * 3 + 1 - (0 + 1 + 1 + 1) = j * 3 + 1 := by omega
      have e3 : (j + 1) * 3 + 2 - (0 + 1 + 1 + 1) = j * 3 + 2 := by omega
      rw [e1, e2, e3]
      exact h

theorem now_any (K : PK) (p d : Nat) (w : World) (h : Ctx K p d w) :
    Calls Tryz.prog 156 #[ptrV K.rb] w fun e w' => e = .returned (tokV (nowP K.L K.E p)) ∧ Gr w w' := by
  obtain ⟨c0, c1, c2, c3⟩ := h.cells
  have hlt := h.lt
  have hlen := h.len
  have hpos := h.pos
  by_cases hp : p < K.L.length
  · have HN : Hid (nowP K.L K.E p = K.L[p]) := by show nowP K.L K.E p = K.L[p]; simp [nowP, hp]
    obtain ⟨g, off, hA, hg, _, hc⟩ := h.row.open_ (j := p * 3) (by rw [tokCells_length]; omega)
    obtain ⟨t0, t1, t2⟩ := tokCells_get K.L p hp
    have d0 := hc _ _ t0
    have d1 := hc _ _ t1
    have d2 := hc _ _ t2
    rw [← Nat.add_assoc] at d1 d2
    rw [hA] at c0
    obtain ⟨n, hn⟩ : ∃ n, n = K.L.length := ⟨_, rfl⟩
    obtain ⟨⟨k, tx, at_⟩, hT⟩ : ∃ T, K.L[p] = T := ⟨_, rfl⟩
    rw [hT] at d0 d1 d2
    have HT := Lib.hid hT
    obtain ⟨rb, hrb⟩ : ∃ rb, rb = K.rb := ⟨_, rfl⟩
    rw [← hrb] at c0 c1 c2 c3 hlt ⊢
    rw [← hn] at hp hlen hpos c0
    clear h hc t0 t1 t2 hT hA hrb hn
    go_enter Tryz.func156, Tryz.ntmps156
    go_wp2_with fail
    go_quiet (fail)
    go_wp2_with fail
    go_region
    go_wp2_with fail
    refine bodyPost_ret (v := .agg #[.int .i64 k, .string (S tx), .int .i64 at_]) (by simp [results, Tryz.results156, go_sem]) rfl ⟨by rw [HN.out, HT.out]; rfl, ?_⟩
    exact ((((Gr.al _ _).drewN _).setCell (Nat.le_refl _) _).setCell (Nat.le_refl _) _).setCell (Nat.le_refl _) _
  · have HN : Hid (nowP K.L K.E p = ⟨0, [], K.E⟩) := by
      show nowP K.L K.E p = ⟨0, [], K.E⟩
      unfold nowP
      rw [List.getD_eq_getElem?_getD, List.getElem?_eq_none (by omega)]
      rfl
    obtain ⟨n, hn⟩ : ∃ n, n = K.L.length := ⟨_, rfl⟩
    obtain ⟨rb, hrb⟩ : ∃ rb, rb = K.rb := ⟨_, rfl⟩
    obtain ⟨E, hE⟩ : ∃ E, E = K.E := ⟨_, rfl⟩
    rw [← hrb] at c0 c1 c2 c3 hlt ⊢
    rw [← hn] at hp hlen hpos c0
    rw [← hE] at c2
    have HE := Lib.hid hE
    clear h hrb hn hE
    go_enter Tryz.func156, Tryz.ntmps156
    go_wp2_with fail
    go_quiet (fail)
    go_wp2_with fail
    refine bodyPost_ret (v := .agg #[.int .i64 0, .string ⟨#[]⟩, .int .i64 E]) (by simp [results, Tryz.results156, go_sem]) rfl ⟨by rw [HN.out, HE.out]; rfl, ?_⟩
    exact ((((Gr.al _ _).drewN _).setCell (Nat.le_refl _) _).setCell (Nat.le_refl _) _).setCell (Nat.le_refl _) _
theorem ahead_any (K : PK) (p d : Nat) (w : World) (h : Ctx K p d w) :
    Calls Tryz.prog 301 #[ptrV K.rb] w fun e w' => e = .returned (tokV (nowP K.L K.E (p + 1))) ∧ Gr w w' := by
  obtain ⟨c0, c1, c2, c3⟩ := h.cells
  have hlt := h.lt
  have hlen := h.len
  have hpos := h.pos
  by_cases hp : p + 1 < K.L.length
  · have HN : Hid (nowP K.L K.E (p + 1) = K.L[p + 1]) := by show nowP K.L K.E (p + 1) = K.L[p + 1]; simp [nowP, hp]
    obtain ⟨g, off, hA, hg, _, hc⟩ := h.row.open_ (j := (p + 1) * 3) (by rw [tokCells_length]; omega)
    obtain ⟨t0, t1, t2⟩ := tokCells_get K.L (p + 1) hp
    have d0 := hc _ _ t0
    have d1 := hc _ _ t1
    have d2 := hc _ _ t2
    rw [← Nat.add_assoc] at d1 d2
    rw [hA] at c0
    obtain ⟨n, hn⟩ : ∃ n, n = K.L.length := ⟨_, rfl⟩
    obtain ⟨⟨k, tx, at_⟩, hT⟩ : ∃ T, K.L[p + 1] = T := ⟨_, rfl⟩
    rw [hT] at d0 d1 d2
    have HT := Lib.hid hT
    obtain ⟨rb, hrb⟩ : ∃ rb, rb = K.rb := ⟨_, rfl⟩
    rw [← hrb] at c0 c1 c2 c3 hlt ⊢
    rw [← hn] at hp hlen hpos c0
    clear h hc t0 t1 t2 hT hA hrb hn
    go_enter Tryz.func301, Tryz.ntmps301
    go_wp2_with fail
    go_quiet (fail)
    go_wp2_with fail
    go_region
    go_wp2_with fail
    refine bodyPost_ret (v := .agg #[.int .i64 k, .string (S tx), .int .i64 at_]) (by simp [results, Tryz.results301, go_sem]) rfl ⟨by rw [HN.out, HT.out]; rfl, ?_⟩
    exact ((((Gr.al _ _).drewN _).setCell (Nat.le_refl _) _).setCell (Nat.le_refl _) _).setCell (Nat.le_refl _) _
  · have HN : Hid (nowP K.L K.E (p + 1) = ⟨0, [], K.E⟩) := by
      show nowP K.L K.E (p + 1) = ⟨0, [], K.E⟩
      unfold nowP
      rw [List.getD_eq_getElem?_getD, List.getElem?_eq_none (by omega)]
      rfl
    obtain ⟨n, hn⟩ : ∃ n, n = K.L.length := ⟨_, rfl⟩
    obtain ⟨rb, hrb⟩ : ∃ rb, rb = K.rb := ⟨_, rfl⟩
    obtain ⟨E, hE⟩ : ∃ E, E = K.E := ⟨_, rfl⟩
    rw [← hrb] at c0 c1 c2 c3 hlt ⊢
    rw [← hn] at hp hlen hpos c0
    rw [← hE] at c2
    have HE := Lib.hid hE
    clear h hrb hn hE
    go_enter Tryz.func301, Tryz.ntmps301
    go_wp2_with fail
    go_quiet (fail)
    go_wp2_with fail
    refine bodyPost_ret (v := .agg #[.int .i64 0, .string ⟨#[]⟩, .int .i64 E]) (by simp [results, Tryz.results301, go_sem]) rfl ⟨by rw [HN.out, HE.out]; rfl, ?_⟩
    exact ((((Gr.al _ _).drewN _).setCell (Nat.le_refl _) _).setCell (Nat.le_refl _) _).setCell (Nat.le_refl _) _

def pstopV (at_ e : Int) : Value := .iface 110 (.agg #[.int .i64 at_, .int .i64 e])
/-- A panic of a value of one's own. -/
abbrev thrown (v : Value) : Ending := .panicked [{ v := v, recovered := false }]

theorem run_field_tok0 (x0 x1 x2 : Value) (w : World) : (Instr.field 136 (.agg #[x0, x1, x2]) 0).run Tryz.prog w = .ok x0 w := by kernel_rfl
theorem run_field_tok1 (x0 x1 x2 : Value) (w : World) : (Instr.field 136 (.agg #[x0, x1, x2]) 1).run Tryz.prog w = .ok x1 w := by kernel_rfl
theorem run_field_tok2 (x0 x1 x2 : Value) (w : World) : (Instr.field 136 (.agg #[x0, x1, x2]) 2).run Tryz.prog w = .ok x2 w := by kernel_rfl

theorem fail_any (K : PK) (p d : Nat) (w : World) (h : Ctx K p d w) :
    Calls Tryz.prog 96 #[ptrV K.rb] w fun e w' => e = thrown (pstopV (nowP K.L K.E p).at_ 1) ∧ Gr w w' := by
  have hf := run_field_tok2
  have HN := Lib.hid (now_any K p d w h)
  obtain ⟨⟨k, tx, at_⟩, hT⟩ : ∃ T, nowP K.L K.E p = T := ⟨_, rfl⟩
  rw [hT] at HN ⊢
  unfold tokV at HN
  clear hT h
  go_enter Tryz.func96, Tryz.ntmps96
  go_wp2_with fail
  refine HN.out.mono ?_
  rintro e w' ⟨rfl, hg⟩
  go_wp2_with fail
  exact ⟨rfl, rfl, hg⟩

theorem is_any (K : PK) (p d : Nat) (x : ByteArray) (w : World) (h : Ctx K p d w) :
    Calls Tryz.prog 151 #[ptrV K.rb, .string x] w fun e w' => e = .returned (.bool (isP K.L K.E p x.data.toList)) ∧ Gr w w' := by
  have HN := Lib.hid (now_any K p d w h)
  have HI : Hid (isP K.L K.E p x.data.toList = ((nowP K.L K.E p).text == x.data.toList && ((nowP K.L K.E p).kind == 2 || (nowP K.L K.E p).kind == 4))) := rfl
  obtain ⟨⟨k, tx, at_⟩, hT⟩ : ∃ T, nowP K.L K.E p = T := ⟨_, rfl⟩
  rw [hT] at HN HI
  unfold tokV at HN
  clear hT h
  simp only [] at HI
  cases htx : (tx == x.data.toList)
  · have ht : ((S tx).toList == x.toList) = false := by rw [ByteArray.toList_eq, ByteArray.toList_eq, data_S]; exact htx
    have HX := Lib.hid htx
    clear htx
    go_enter Tryz.func151, Tryz.ntmps151
    go_wp2_with fail
    refine HN.out.mono ?_
    rintro e w' ⟨rfl, hg⟩
    go_wp2_with fail
    go_ret
    exact ⟨ret_bool (by rw [HI.out, HX.out]; rfl), hg.alloc _⟩
  · have ht : ((S tx).toList == x.toList) = true := by rw [ByteArray.toList_eq, ByteArray.toList_eq, data_S]; exact htx
    have HX := Lib.hid htx
    clear htx
    go_enter Tryz.func151, Tryz.ntmps151
    go_wp2_with fail
    refine HN.out.mono ?_
    rintro e w' ⟨rfl, hg⟩
    go_wp2_with fail
    all_goals
      go_ret
      refine ⟨ret_bool ?_, hg.alloc _⟩
      rw [HI.out, HX.out]
      simp [*]

theorem isP_lt {L : List Tok} {E : Int} {p : Nat} {x : Str} (h : isP L E p x = true) : p < L.length := by
  by_cases hp : p < L.length
  · exact hp
  · have : nowP L E p = ⟨0, [], E⟩ := by
      unfold nowP
      rw [List.getD_eq_getElem?_getD, List.getElem?_eq_none (by omega)]
      rfl
    simp [isP, this] at h
theorem kind_lt {L : List Tok} {E : Int} {p : Nat} (h : (nowP L E p).kind ≠ 0) : p < L.length := by
  by_cases hp : p < L.length
  · exact hp
  · have : nowP L E p = ⟨0, [], E⟩ := by
      unfold nowP
      rw [List.getD_eq_getElem?_getD, List.getElem?_eq_none (by omega)]
      rfl
    rw [this] at h
    exact absurd rfl h

/-- The reader's block with the place moved on. -/
theorem Ctx.step {K : PK} {p d : Nat} {w w' : World} (h : Ctx K p d w) (hg : Gr w w') (hp : p < K.L.length) : Ctx K (p + 1) d (w'.setCell ⟨K.rb, 1, none⟩ (.int .i64 ((p : Int) + 1))) := by
  have hgne : 1 ≠ K.rb := by
    obtain ⟨t, fr, te, pe, hb⟩ := h.gl
    intro e
    have := h.rd
    rw [← e, hb] at this
    simp at this
  refine ⟨h.len, h.sm, h.nm, (h.gl.gr hg).setCell hgne _, h.hBG, hp, h.dep, ?_, ?_, ?_⟩
  · have := blk_setCell (i := 1) (v := .int .i64 ((p : Int) + 1)) (hg.blk h.rd)
    rw [this]
    simp
  · refine (h.row.gr hg).frame fun k hk _ => ?_
    exact Below.heap_setCell _ _ _ _ (by simpa using hk.1)
  · rw [World.size_setCell]; exact Nat.le_trans h.hB hg.size
theorem Ctx.md {K : PK} {p d : Nat} {w w' : World} (h : Ctx K p d w) (hg : Gr w w') (v : Value) : Md K.rb w (w'.setCell ⟨K.rb, 1, none⟩ v) := (Md.of_gr hg).setCell (.inr rfl) v

theorem take_any (K : PK) (p d : Nat) (w : World) (h : Ctx K p d w) (hp : p < K.L.length) :
    Calls Tryz.prog 157 #[ptrV K.rb] w fun e w' => e = .returned (tokV (nowP K.L K.E p)) ∧ Ctx K (p + 1) d w' ∧ Md K.rb w w' := by
  have HN := Lib.hid (fun w' (hg : Gr w w') => now_any K p d w' (h.gr hg))
  have HC := Lib.hid h
  have hlen := h.len
  have hlt := h.lt
  obtain ⟨⟨k, tx, at_⟩, hT⟩ : ∃ T, nowP K.L K.E p = T := ⟨_, rfl⟩
  rw [hT] at HN ⊢
  unfold tokV at HN
  clear hT h
  go_enter Tryz.func157, Tryz.ntmps157
  go_wp2_with fail
  refine (HN.out _ (Gr.al _ _)).mono ?_
  rintro e w1 ⟨rfl, hg1⟩
  have hg : Gr w w1 := (Gr.al _ _).trans hg1
  obtain ⟨c0, c1, c2, c3⟩ := (HC.out.gr hg).cells
  have hlt1 := (HC.out.gr hg).lt
  have fr := frozenAt (HC.out.gr hg).rd
  have B1 := hg1.blk (blk_alloc _ _)
  obtain ⟨a0, a1, a2⟩ := cells3 B1
  have fa := frozenAt B1
  have hz1 := blkLt B1
  clear B1
  go_wp2_with fail
  have hb := HC.out.hB
  have hne : K.rb ≠ w.heap.size := by omega
  refine bodyPost_ret (v := .agg #[.int .i64 k, .string (S tx), .int .i64 at_]) (by simp [results, Tryz.results157, go_sem, a0, a1, a2, hz1]) rfl ⟨rfl, ?_, ?_⟩
  · exact ((((HC.out.step hg hp).setNew hb hne _).setNew hb hne _).setNew hb hne _).alloc _
  · exact ((((HC.out.md hg _).setCell (.inl (Nat.le_refl _)) _).setCell (.inl (Nat.le_refl _)) _).setCell (.inl (Nat.le_refl _)) _).alloc _

/-- What a part of the parser leaves. -/
def PP {α : Type} (K : PK) (d : Nat) (w : World) (r : PR α) (enc : α → Value → World → Prop) (e : Ending) (w' : World) : Prop :=
  Md K.rb w w' ∧ match r with
    | .ok a p => ∃ v, e = .returned v ∧ enc a v w' ∧ Ctx K p d w'
    | .err a er => e = thrown (pstopV a er)

theorem accept_yes (K : PK) (p d : Nat) (x : ByteArray) (w : World) (h : Ctx K p d w) (hi : isP K.L K.E p x.data.toList = true) :
    Calls Tryz.prog 93 #[ptrV K.rb, .string x] w fun e w' => e = .returned (.bool true) ∧ Ctx K (p + 1) d w' ∧ Md K.rb w w' := by
  have HI := Lib.hid (is_any K p d x w h)
  rw [hi] at HI
  have hp := isP_lt hi
  have HC := Lib.hid h
  have hlen := h.len
  clear hi h
  go_enter Tryz.func93, Tryz.ntmps93
  go_wp2_with fail
  refine HI.out.mono ?_
  rintro e w1 ⟨rfl, hg⟩
  obtain ⟨c0, c1, c2, c3⟩ := (HC.out.gr hg).cells
  have fr := frozenAt (HC.out.gr hg).rd
  go_wp2_with fail
  go_ret
  exact ⟨rfl, HC.out.step hg hp, HC.out.md hg _⟩
theorem accept_no (K : PK) (p d : Nat) (x : ByteArray) (w : World) (h : Ctx K p d w) (hi : isP K.L K.E p x.data.toList = false) :
    Calls Tryz.prog 93 #[ptrV K.rb, .string x] w fun e w' => e = .returned (.bool false) ∧ Gr w w' := by
  have HI := Lib.hid (is_any K p d x w h)
  rw [hi] at HI
  clear hi h
  go_enter Tryz.func93, Tryz.ntmps93
  go_wp2_with fail
  refine HI.out.mono ?_
  rintro e w1 ⟨rfl, hg⟩
  go_wp2_with fail
  go_ret
  exact ⟨rfl, hg⟩

theorem expect_any (K : PK) (p d : Nat) (x : ByteArray) (w : World) (h : Ctx K p d w) (r : PR Int) (hr : expectP K.L K.E p x.data.toList = some r) :
    Calls Tryz.prog 98 #[ptrV K.rb, .string x] w (PP K d w r fun a v _ => v = .int .i64 a) := by
  have hf := run_field_tok2
  have HI := Lib.hid (is_any K p d x w h)
  have HC := Lib.hid h
  unfold expectP failP at hr
  cases hi : isP K.L K.E p x.data.toList
  · rw [hi] at HI hr
    simp only [Bool.false_eq_true, if_false, Option.some.injEq] at hr
    subst hr
    clear h hi
    go_enter Tryz.func98, Tryz.ntmps98
    go_wp2_with fail
    refine HI.out.mono ?_
    rintro e w1 ⟨rfl, hg⟩
    go_wp2_with fail
    refine (fail_any K p d w1 (HC.out.gr hg)).mono ?_
    rintro e w2 ⟨rfl, hg2⟩
    go_wp2_with fail
    exact ⟨rfl, .of_gr (hg.trans hg2), rfl⟩
  · have hp := isP_lt hi
    rw [hi] at HI hr
    simp only [if_true, Option.some.injEq] at hr
    subst hr
    obtain ⟨⟨k, tx, at_⟩, hT⟩ : ∃ T, nowP K.L K.E p = T := ⟨_, rfl⟩
    have HT := Lib.hid (fun w1 (hg : Gr w w1) => take_any K p d w1 (h.gr hg) hp)
    rw [hT] at HT ⊢
    unfold tokV at HT
    clear h hi hT
    go_enter Tryz.func98, Tryz.ntmps98
    go_wp2_with fail
    refine HI.out.mono ?_
    rintro e w1 ⟨rfl, hg⟩
    go_wp2_with fail
    refine (HT.out _ hg).mono ?_
    rintro e w2 ⟨rfl, hc2, hm2⟩
    go_wp2_with fail
    go_ret
    exact ⟨(Md.of_gr hg).trans hm2, _, rfl, rfl, hc2⟩

theorem word_p (K : PK) (p d : Nat) (w : World) (h : Ctx K p d w) (r : PR Tok) (hr : wordPP K.L K.E p = some r) :
    Calls Tryz.prog 153 #[ptrV K.rb] w (PP K d w r fun t v _ => v = tokV t) := by
  have hf := run_field_tok0
  have HN := Lib.hid (fun w1 (hg : Gr w w1) => now_any K p d w1 (h.gr hg))
  have HC := Lib.hid h
  unfold wordPP failP at hr
  obtain ⟨⟨k, tx, at_⟩, hT⟩ : ∃ T, nowP K.L K.E p = T := ⟨_, rfl⟩
  rw [hT] at HN hr
  simp only [] at hr
  unfold tokV at HN
  by_cases hk : k = 1
  · rw [if_pos hk] at hr
    injection hr with hr
    subst hr
    have hp : p < K.L.length := kind_lt (E := K.E) (by rw [hT]; simp [hk])
    have HT := Lib.hid (fun w1 (hg : Gr w w1) => take_any K p d w1 (h.gr hg) hp)
    rw [hT] at HT
    unfold tokV at HT
    subst hk
    clear h hT
    go_enter Tryz.func153, Tryz.ntmps153
    go_wp2_with fail
    refine (HN.out _ (Gr.al _ _)).mono ?_
    rintro e w1 ⟨rfl, hg1⟩
    have hg : Gr w w1 := (Gr.al _ _).trans hg1
    have B1 := Lib.hid (hg1.blk (blk_alloc _ _))
    clear hg1
    go_wp2_with fail
    refine (HT.out _ hg).mono ?_
    rintro e w2 ⟨rfl, hc2, hm2⟩
    have hlt := HC.out.lt
    have B2 := hm2.blk B1.out (by omega)
    obtain ⟨a0, a1, a2⟩ := cells3 B2
    have fa := frozenAt B2
    have hb := HC.out.hB
    have hne : K.rb ≠ w.heap.size := by omega
    have hm : Md K.rb w w2 := (Md.of_gr hg).trans hm2
    clear B2
    go_wp2_with fail
    refine bodyPost_ret (v := .agg #[.int .i64 1, .string (S tx), .int .i64 at_]) (by simp [results, Tryz.results153, go_sem, a0, a1, a2]) rfl ⟨?_, _, rfl, rfl, ?_⟩
    · exact ((hm.setCell (.inl (Nat.le_refl _)) _).setCell (.inl (Nat.le_refl _)) _).setCell (.inl (Nat.le_refl _)) _
    · exact (((hc2.setNew hb hne _).setNew hb hne _).setNew hb hne _)
  · rw [if_neg hk] at hr
    injection hr with hr
    subst hr
    have HF := Lib.hid (fun w1 (hg : Gr w w1) => fail_any K p d w1 (h.gr hg))
    rw [hT] at HF
    clear h hT
    have hkb : (k != 1) = true := by simp [hk]
    clear hk
    go_enter Tryz.func153, Tryz.ntmps153
    go_wp2_with fail
    refine (HN.out _ (Gr.al _ _)).mono ?_
    rintro e w1 ⟨rfl, hg1⟩
    have hg : Gr w w1 := (Gr.al _ _).trans hg1
    clear hg1
    go_wp2_with fail
    refine (HF.out _ hg).mono ?_
    rintro e w2 ⟨rfl, hg2⟩
    go_wp2_with fail
    exact ⟨rfl, .of_gr (hg.trans hg2), rfl⟩
end Go.Proofs.YthniejnbkkkbnaaGreatDoor
