/- Walks of layer check: main; types. Walks of layer check: the closure of types; a declaration's parts. -/
import Derived.Test.YthniejnbkkkbnaaGreatDoorM24
set_option linter.all false
set_option linter.unusedSimpArgs false
set_option linter.unusedVariables false
namespace Go.Proofs.YthniejnbkkkbnaaGreatDoor
open Go.RowKit
set_option maxRecDepth 100000
set_option maxHeartbeats 4000000

def GPost (w : World) (r : CR Unit) (e : Ending) (w' : World) : Prop :=
  Gr w w' ∧ match r with
    | .ok _ => e = .returned (.tuple #[])
    | .err a c => e = thrownC (cstopV a c)
    | .bad => True

theorem cmain_any (C : CK) (w : World) (h : CStat C w) (hc : ChkAt C w) (hbad : mainC C.x ≠ .bad) : Calls Tryz.prog 45 #[ptrV C.cb] w (GPost w (mainC C.x)) := by
  have HC := Lib.hid h
  have HFN : Hid (∀ w', Gr w w' → Calls Tryz.prog 67 #[.agg #[C.sv, C.gv, C.fv], .string ⟨#[109, 97, 105, 110]⟩] w' fun e w'' => e = .returned (placeV (findG C.x.funs xMain)) ∧ Gr w' w'') :=
    fun w' hg => infoFun_any C.x.funs C.sv C.gv C.fv _ xMain w' (h.sg.gr hg) h.lf
  obtain ⟨bv, res, hb⟩ := hc
  obtain ⟨c0, c1, c2, c3, c4⟩ := cells5 hb
  have hlt := blkLt hb
  have HB := Lib.hid hb
  obtain ⟨a, ha⟩ : ∃ a, findG C.x.funs xMain = a := ⟨_, rfl⟩
  have hM : mainC C.x = if a < 0 then .err 0 8 else match C.x.funs[a.toNat]? with
      | none => .bad
      | some f => if f.params.length > 0 ∨ f.result ≠ [] then .err 0 8 else .ok () := by rw [← ha]; rfl
  have hahi := (idxFn_lt (fun s : Sig => s.name == xMain) C.x.funs).2
  rw [show idxFn (fun s : Sig => s.name == xMain) C.x.funs = a from ha] at hahi
  obtain ⟨R, hR⟩ : ∃ R, mainC C.x = R := ⟨_, rfl⟩
  rw [hR] at hM hbad ⊢
  rw [ha] at HFN
  have hsg := h.sg
  have HR := Lib.hid hM
  unfold placeV at HFN
  clear h hb ha hM hR
  by_cases h0 : 0 ≤ a
  · obtain ⟨m, rfl⟩ := Int.eq_ofNat_of_zero_le h0
    have hml : m < C.x.funs.length := by omega
    have hq : decide (0 ≤ (m : Int)) = true := by simp
    have hmx : max (m : Int) 0 = m := by omega
    rw [hq, hmx] at HFN
    obtain ⟨gs, offs, cs, fv, hsv, hgs, s0, s1, s2, hfl⟩ := hsg.get (j := m) (s := C.x.funs[m]) (by simp [hml])
    obtain ⟨⟨fname, params, result⟩, hf⟩ : ∃ f, C.x.funs[m] = f := ⟨_, rfl⟩
    rw [hf] at s2 hfl
    simp only [] at s2 hfl
    have hRF : R = if params.length > 0 ∨ result ≠ [] then .err 0 8 else .ok () := by
      rw [HR.out, if_neg (by omega)]
      have h1 : C.x.funs[((m : Int)).toNat]? = some ⟨fname, params, result⟩ := by simp [hml, hf]
      rw [h1]
    obtain ⟨nf, hnf⟩ : ∃ nf, nf = C.x.funs.length := ⟨_, rfl⟩
    rw [← hnf] at hsv hml hahi
    obtain ⟨Af, cf, hfv⟩ := hfl.slice
    rw [hfv] at s1
    obtain ⟨np, hnp⟩ : ∃ np, np = params.length := ⟨_, rfl⟩
    rw [← hnp] at s1 hRF
    have HRF := Lib.hid hRF
    have HS1 := Lib.hid (fun w' (hg : Gr w w') => (hg.cells.1 gs (offs + m * 3 + 1) hgs).trans s1)
    have HS2 := Lib.hid (fun w' (hg : Gr w w') => (hg.cells.1 gs (offs + m * 3 + 2) hgs).trans s2)
    have HSV := Lib.hid hsv
    have hem := emptyS result
    obtain ⟨q, hqe⟩ : ∃ q, (result == []) = q := ⟨_, rfl⟩
    have HQE := Lib.hid hqe
    rw [hqe] at hem
    clear hf hRF hnp hnf s0 s1 s2 hsv hfv hq hmx h0 hfl hqe hsg
    by_cases hp : 0 < np
    · have hr : Hid (R = .err 0 8) := by show R = _; rw [HRF.out, if_pos (.inl hp)]
      go_enter Tryz.func45, Tryz.ntmps45
      go_wp2_with fail
      refine (HFN.out _ (Gr.refl _)).mono ?_
      rintro e w1 ⟨rfl, hg1⟩
      obtain ⟨d0, d1, d2, d3, d4⟩ := cells5 (hg1.blk HB.out)
      rw [HSV.out] at d2
      have hl1 := blkLt (hg1.blk HB.out)
      have s1 := HS1.out w1 hg1
      have s2 := HS2.out w1 hg1
      go_wp2_with fail
      refine ⟨rfl, ?_⟩
      rw [hr.out]
      exact ⟨hg1, rfl⟩
    · have hnp0 : np = 0 := by omega
      subst hnp0
      cases q
      · have hr : Hid (R = .err 0 8) := by
          show R = _
          rw [HRF.out, if_pos (.inr (by have := HQE.out; simpa using this))]
        go_enter Tryz.func45, Tryz.ntmps45
        go_wp2_with fail
        refine (HFN.out _ (Gr.refl _)).mono ?_
        rintro e w1 ⟨rfl, hg1⟩
        obtain ⟨d0, d1, d2, d3, d4⟩ := cells5 (hg1.blk HB.out)
        rw [HSV.out] at d2
        have hl1 := blkLt (hg1.blk HB.out)
        have s1 := HS1.out w1 hg1
        have s2 := HS2.out w1 hg1
        go_wp2_with fail
        refine ⟨rfl, ?_⟩
        rw [hr.out]
        exact ⟨hg1, rfl⟩
      · have hr : Hid (R = .ok ()) := by
          show R = _
          have : result = [] := by have := HQE.out; simpa using this
          rw [HRF.out, if_neg (by simp [this])]
        go_enter Tryz.func45, Tryz.ntmps45
        go_wp2_with fail
        refine (HFN.out _ (Gr.refl _)).mono ?_
        rintro e w1 ⟨rfl, hg1⟩
        obtain ⟨d0, d1, d2, d3, d4⟩ := cells5 (hg1.blk HB.out)
        rw [HSV.out] at d2
        have hl1 := blkLt (hg1.blk HB.out)
        have s1 := HS1.out w1 hg1
        have s2 := HS2.out w1 hg1
        go_wp2_with fail
        go_end0
        rw [hr.out]
        exact ⟨hg1, rfl⟩
  · have hq : decide (0 ≤ a) = false := by simpa using h0
    rw [hq] at HFN
    have hr : Hid (R = .err 0 8) := by show R = _; rw [HR.out, if_pos (by omega)]
    clear hq h0 hsg
    go_enter Tryz.func45, Tryz.ntmps45
    go_wp2_with fail
    refine (HFN.out _ (Gr.refl _)).mono ?_
    rintro e w1 ⟨rfl, hg1⟩
    go_wp2_with fail
    refine ⟨rfl, ?_⟩
    rw [hr.out]
    exact ⟨hg1, rfl⟩
end Go.Proofs.YthniejnbkkkbnaaGreatDoor

namespace Go.Proofs.YthniejnbkkkbnaaGreatDoor
open Go.RowKit
set_option maxRecDepth 100000
set_option maxHeartbeats 4000000

theorem RowR.left {w : World} {X : Nat → Prop} {A : Option Addr} {l m : List Value} (h : RowR w X A (l ++ m)) : RowR w X A l := by
  rcases h with h | ⟨g, off, arr, t, fr, hX, hA, hg, hc⟩
  · exact .inl (List.append_eq_nil_iff.1 h).1
  · exact .inr ⟨g, off, arr, t, fr, hX, hA, hg, fun i v hv => hc i v (by rw [List.getElem?_append_left (List.getElem?_eq_some_iff.1 hv).1]; exact hv)⟩
theorem types1_any (b pb tb : Nat) (t p : T) (X : Nat → Prop) (w : World) (ht : TreeAt w X b t) (hp : TreeAt w X pb p) (htb : w.heap[tb]? = some (.cells #[ptrV pb] 53 (0, 0))) :
    Calls Tryz.prog 64 #[nodeV b, .pointer (some ⟨tb, 0, none⟩)] w fun e w' => e = .returned (.bool (t.d.name == p.d.name)) ∧ Gr w w' := by
  have HNM := Lib.hid (fun w' (hg : Gr w w') => Name_any (nodeV b) (some t) X w' ⟨b, rfl, ht.gr hg⟩)
  have HNP := Lib.hid (fun w' (hg : Gr w w') => Name_any (nodeV pb) (some p) X w' ⟨pb, rfl, hp.gr hg⟩)
  rw [show (dO (some t)).name = t.d.name from rfl] at HNM
  rw [show (dO (some p)).name = p.d.name from rfl] at HNP
  have c0 := cellAt htb (i := 0) rfl
  have hl := blkLt htb
  have HTB := Lib.hid htb
  have he := eqS t.d.name p.d.name
  generalize t.d.name = n1 at *
  generalize p.d.name = n2 at *
  obtain ⟨q, hq⟩ : ∃ q, (n1 == n2) = q := ⟨_, rfl⟩
  rw [hq] at he ⊢
  clear ht hp htb hq
  go_enter Tryz.func64, Tryz.ntmps64
  go_wp2_with fail
  have B1 := blk_alloc w (.cells #[ptrV b] 53)
  have T1 := blk_alloc_lt (o' := .cells #[ptrV b] 53) HTB.out
  refine wp_region_held_drew (S := fun w' => w'.cell? ⟨w.heap.size, 0, none⟩ = some (ptrV b) ∧ w'.cell? ⟨tb, 0, none⟩ = some (ptrV pb)) rfl ⟨cellAt B1 rfl, cellAt T1 rfl⟩ (fun hS => ?_)
  refine wpAnyH_take (i := 0) (v := ?_) rfl (by kernel_rfl) (by kernel_rfl) (by kernel_rfl) (fun _ _ _ h => h) (Or.inl ⟨by rfl, ?_⟩) hS ?_
  rotate_left
  · intro w' hSw; (try dsimp only at hSw); go_simp; try with_reducible rfl
  (try simp only [Act.put, List.setIfInBounds_toArray, List.set_cons_zero, List.set_cons_succ])
  refine wpAnyH_take (i := 2) (v := ?_) rfl (by kernel_rfl) (by kernel_rfl) (by kernel_rfl) (fun _ _ _ h => h) (Or.inl ⟨by rfl, ?_⟩) hS ?_
  rotate_left
  · intro w' hSw; (try dsimp only at hSw); go_simp; try with_reducible rfl
  (try simp only [Act.put, List.setIfInBounds_toArray, List.set_cons_zero, List.set_cons_succ])
  refine wpAnyH_ready (rs := [1]) (by kernel_rfl) (by simp) ?_
  refine AllReadyH.cons rfl (fun K' hK => ?_) AllReadyH.nil
  simp only [List.getElem_toArray, List.getElem_cons_succ, List.getElem_cons_zero]
  go_simp
  refine (HNM.out _ ((Gr.al _ _).drew)).mono ?_
  rintro e w2 ⟨rfl, hg2⟩
  have hG2 : Gr w w2 := ((Gr.al _ _).drew).trans hg2
  refine hK.out _ _ ⟨cellAt (hg2.blk B1) rfl, cellAt (hg2.blk T1) rfl⟩ (fun hS => ?_)
  (try simp only [Act.put, List.setIfInBounds_toArray, List.set_cons_zero, List.set_cons_succ])
  refine wpAnyH_ready (rs := [3]) (by kernel_rfl) (by simp) ?_
  refine AllReadyH.cons rfl (fun K' hK => ?_) AllReadyH.nil
  simp only [List.getElem_toArray, List.getElem_cons_succ, List.getElem_cons_zero]
  go_simp
  refine (HNP.out _ hG2).mono ?_
  rintro e w3 ⟨rfl, hg3⟩
  have hG3 := hG2.trans hg3
  refine hK.out _ _ ⟨cellAt (hg3.blk (hg2.blk B1)) rfl, cellAt (hg3.blk (hg2.blk T1)) rfl⟩ (fun hS => ?_)
  (try simp only [Act.put, List.setIfInBounds_toArray, List.set_cons_zero, List.set_cons_succ])
  refine wpAnyH_take (i := 4) (v := ?_) rfl (by kernel_rfl) (by kernel_rfl) (by kernel_rfl) (fun _ _ _ h => h) (Or.inl ⟨by rfl, ?_⟩) hS ?_
  rotate_left
  · intro w' hSw; (try dsimp only at hSw); go_simp; try with_reducible rfl
  (try simp only [Act.put, List.setIfInBounds_toArray, List.set_cons_zero, List.set_cons_succ])
  refine wpAnyH_take (i := 5) (v := ?_) rfl (by kernel_rfl) (by kernel_rfl) (by kernel_rfl) (fun _ _ _ h => h) (Or.inl ⟨by rfl, ?_⟩) hS ?_
  rotate_left
  · intro w' hSw; (try dsimp only at hSw); go_simp; try with_reducible rfl
  (try simp only [Act.put, List.setIfInBounds_toArray, List.set_cons_zero, List.set_cons_succ])
  refine wpAnyH_done (by kernel_rfl) ?_ _
  (try simp only [List.getElem_toArray, List.getElem_cons_succ, List.getElem_cons_zero, Act.put, List.setIfInBounds_toArray, List.set_cons_zero, List.set_cons_succ])
  clear hK hS
  go_wp2_with fail
  go_ret
  exact ⟨rfl, hG3⟩
theorem en_types1 : Enters 64 := fun _ _ => by kernel_rfl
theorem hasNode_any (ts : List T) (bs : List Nat) (A : Option Addr) (n c : Nat) (hn : n = ts.length) (hbl : bs.length = ts.length) (Y X : Nat → Prop) (pb tb : Nat) (p : T) (w : World) (hr : RowR w Y A (bs.map ptrV)) (hl : n < 1000000)
    (ht : ∀ (i b : Nat) (t : T), bs[i]? = some b → ts[i]? = some t → TreeAt w X b t) (hp : TreeAt w X pb p) (htb : w.heap[tb]? = some (.cells #[ptrV pb] 53 (0, 0))) :
    Calls Tryz.prog 63 #[.slice A n c, .func (.func 64) #[] #[.pointer (some ⟨tb, 0, none⟩)]] w fun e w' => e = .returned (.bool (ts.any fun q => q.d.name == p.d.name)) ∧ Gr w w' := by
  have H := Lib.hid (idxNode1_any ts bs A n c hn hbl Y X 64 (.pointer (some ⟨tb, 0, none⟩)) (fun q => q.d.name == p.d.name) w hr hl ht en_types1 (fun b t w' hg ht' => types1_any b pb tb t p X w' ht' (hp.gr hg) (hg.blk htb)))
  have HE := Lib.hid (idxFn_any (fun q : T => q.d.name == p.d.name) ts)
  clear hn hr hbl ht hp htb
  go_enter Tryz.func63, Tryz.ntmps63
  go_wp2_with fail
  refine H.out.mono ?_
  rintro e w' ⟨rfl, hg⟩
  go_wp2_with fail
  go_ret
  exact ⟨ret_bool HE.out, hg⟩
theorem zero_int (w : World) : (zeroValue 3).run Tryz.prog w = .ok (.int .i64 0) w := by kernel_rfl
def mostL : List (Int × Value) := [(2, .int .i64 8), (4, .int .i64 6), (3, .int .i64 1)]
theorem mostL_get (op : Int) : (aget mostL op).getD (.int .i64 0) = .int .i64 (mostT op) := by
  unfold mostL mostT
  by_cases h2 : op = 2
  · subst h2; rfl
  by_cases h4 : op = 4
  · subst h4; rfl
  by_cases h3 : op = 3
  · subst h3; rfl
  have e2 : ((2 : Int) == op) = false := by simp; omega
  have e4 : ((4 : Int) == op) = false := by simp; omega
  have e3 : ((3 : Int) == op) = false := by simp; omega
  rw [if_neg h2, if_neg h4, if_neg h3, aget_cons, aget_cons, aget_cons]
  simp only [e2, e4, e3, Bool.false_eq_true, if_false]
  rfl
/-- The table of limits, made. -/
theorem most_made (w : World) : ∃ wA wB wC, (Instr.mapUpdate 141 (.map (some w.heap.size)) (.int .i64 2) (.int .i64 8)).run Tryz.prog (w.alloc (.map #[] 0)) = .ok () wA ∧
    (Instr.mapUpdate 141 (.map (some w.heap.size)) (.int .i64 4) (.int .i64 6)).run Tryz.prog wA = .ok () wB ∧ (Instr.mapUpdate 141 (.map (some w.heap.size)) (.int .i64 3) (.int .i64 1)).run Tryz.prog wB = .ok () wC ∧
    MapAt encI wC w.heap.size mostL ∧ Gr w wC := by
  obtain ⟨wA, r1, m1, g1⟩ := run_put keyI Tryz.underlying141 Tryz.underlying3 (MapAt.made encI w) 2 (.int .i64 8)
  obtain ⟨wB, r2, m2, g2⟩ := run_put keyI Tryz.underlying141 Tryz.underlying3 m1 4 (.int .i64 6)
  obtain ⟨wC, r3, m3, g3⟩ := run_put keyI Tryz.underlying141 Tryz.underlying3 m2 3 (.int .i64 1)
  refine ⟨wA, wB, wC, r1, r2, r3, m3, ?_⟩
  have h1 : ∀ k, some w.heap.size = some k → w.heap.size ≤ k := fun k e => by injection e with e; omega
  exact (((Gr.al w (.map #[] 0)).grown g1 h1).grown g2 h1).grown g3 h1
theorem run_get_mii (w : World) (m : Nat) (L : List (Int × Value)) (x : Int) (h : MapAt encI w m L) :
    (Instr.lookup 141 (.map (some m)) (.int .i64 x) false).run Tryz.prog w = .ok ((aget L x).getD (.int .i64 0)) w :=
  run_get keyI Tryz.underlying141 Tryz.underlying3 (zero_int w) h x
end Go.Proofs.YthniejnbkkkbnaaGreatDoor
