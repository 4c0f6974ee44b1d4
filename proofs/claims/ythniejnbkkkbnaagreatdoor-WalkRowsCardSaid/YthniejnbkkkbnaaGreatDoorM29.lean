/- Walks of layer check: Check (of what its rules answer). Walks of layer check: Check, of no declaration or of one function that its rules let by. -/
import Derived.Test.YthniejnbkkkbnaaGreatDoorM28
import Derived.Recover
import Derived.Defers
set_option linter.all false
set_option linter.unusedSimpArgs false
set_option linter.unusedVariables false
namespace Go.Proofs.YthniejnbkkkbnaaGreatDoor
open Go.RowKit
set_option maxRecDepth 100000
set_option maxHeartbeats 4000000

theorem Check1_idle (a b c : Addr) (w : World) : CallsD Tryz.prog 41 #[.pointer (some a), .pointer (some b), .pointer (some c)] .returning w fun e u' w' => e = .returned (.tuple #[]) ∧ u' = .returning ∧ w' = w := by
  refine callsD_of_wpS Tryz.func41 rfl fun c₀ cs hu => ?_
  apply wpS_seq
  apply wpS_region
  simp [wpOpsS, go_sem, recoverD, hu, Tryz.ntmps41, Exit.thenS]
  apply wpS_seq
  apply wpS_region
  simp [wpOpsS, go_sem, recoverD, hu, Tryz.ntmps41, Exit.thenS]
  refine wpS_cond (t := false) (by simp [Act.eval, Array.replicate]) ?_
  simp only [Bool.false_eq_true, if_false]
  refine wpS_of_wp (wp_skip ?_)
  cases c₀
  simp_all [bodyPostS, results, Tryz.results41]

theorem Check1_panic (k2 k3 k4 : Nat) (x y z p q : Value) (at_ er : Int) (older : List PanicEntry) (w : World) (h2 : w.heap[k2]? = some (.cells #[x, y, z] 56 (0, 0))) (h3 : w.heap[k3]? = some (.cells #[p] 3 (0, 0)))
    (h4 : w.heap[k4]? = some (.cells #[q] 23 (0, 0))) (n23 : k2 ≠ k3) (n24 : k2 ≠ k4) (n34 : k3 ≠ k4) :
    CallsD Tryz.prog 41 #[.pointer (some ⟨k2, 0, none⟩), .pointer (some ⟨k3, 0, none⟩), .pointer (some ⟨k4, 0, none⟩)] (.panicking ({ v := cstopV at_ er, recovered := false } :: older)) w fun e u' w' =>
      e = .returned (.tuple #[]) ∧ u' = .panicking ({ v := cstopV at_ er, recovered := true } :: older) ∧
        w' = (((((w.setCell ⟨k2, 0, none⟩ nilS).setCell ⟨k2, 1, none⟩ nilS).setCell ⟨k2, 2, none⟩ nilS).setCell ⟨k3, 0, none⟩ (.int .i64 at_)).setCell ⟨k4, 0, none⟩ (.int .i64 er)).drew := by
  have c20 := cellAt h2 (i := 0) rfl
  have c21 := cellAt h2 (i := 1) rfl
  have c22 := cellAt h2 (i := 2) rfl
  have c3 := cellAt h3 (i := 0) rfl
  have c4 := cellAt h4 (i := 0) rfl
  have f2 := frozenAt h2
  have f3 := frozenAt h3
  have f4 := frozenAt h4
  have hq1 : ∀ (o p : Operand) (w : World), (eqGuard .neq 20 o p (.iface 114 (.agg #[.int .i64 at_, .int .i64 er])) .nilIface).run Tryz.prog w = .ok () w := fun _ _ _ => rfl
  have hq2 : ∀ w : World, (binOp .neq 20 (.iface 114 (.agg #[.int .i64 at_, .int .i64 er])) .nilIface).run Tryz.prog w = .ok (.bool true) w := fun _ => by kernel_rfl
  unfold cstopV
  refine callsD_of_wpS Tryz.func41 rfl fun c₀ cs hu => ?_
  apply wpS_seq
  apply wpS_region
  simp [wpOpsS, go_sem, recoverD, hu, Tryz.ntmps41, Exit.thenS]
  apply wpS_seq
  apply wpS_region
  simp [wpOpsS, go_sem, recoverD, hu, Tryz.ntmps41, Exit.thenS, hq1, hq2]
  refine wpS_cond (t := true) (by simp [Act.eval, Array.replicate]) ?_
  simp only [if_true]
  refine wpS_of_wp ?_
  have hta : ∀ w', (Instr.typeAssert (.iface 114 (.agg #[.int .i64 at_, .int .i64 er])) 20 114 false).run Tryz.prog w' = .ok (.agg #[.int .i64 at_, .int .i64 er]) w' := fun _ => by kernel_rfl
  have hfa : ∀ (x y : Value) w', (Instr.field 114 (.agg #[x, y]) 0).run Tryz.prog w' = .ok x w' := fun _ _ _ => by kernel_rfl
  have hfb : ∀ (x y : Value) w', (Instr.field 114 (.agg #[x, y]) 1).run Tryz.prog w' = .ok y w' := fun _ _ _ => by kernel_rfl
  have hz : (zeroValue 56).run Tryz.prog w.drew = .ok (.agg #[nilS, nilS, nilS]) w.drew := by kernel_rfl
  simp only [List.push_toArray, Array.setIfInBounds, Array.replicate]
  refine wp_region_held_drew (S := fun _ => True) rfl trivial (fun hS => ?_)
  refine wpAnyH_take (i := 0) (v := ?_) rfl (by kernel_rfl) (by kernel_rfl) (by kernel_rfl) (fun _ _ _ h => h) (Or.inl ⟨by rfl, ?_⟩) hS ?_
  rotate_left
  · intro w' hSw; (try dsimp only at hSw); go_simp; try with_reducible rfl
  (try simp only [List.getElem_toArray, List.getElem_cons_succ, List.getElem_cons_zero, Act.put, List.setIfInBounds_toArray, List.set_cons_zero, List.set_cons_succ])
  refine wpAnyH_take (i := 1) (v := ?_) rfl (by kernel_rfl) (by kernel_rfl) (by kernel_rfl) (fun _ _ _ h => h) (Or.inl ⟨by rfl, ?_⟩) hS ?_
  rotate_left
  · intro w' hSw; (try dsimp only at hSw); go_simp; try with_reducible rfl
  (try simp only [List.getElem_toArray, List.getElem_cons_succ, List.getElem_cons_zero, Act.put, List.setIfInBounds_toArray, List.set_cons_zero, List.set_cons_succ])
  refine wpAnyH_take (i := 2) (v := ?_) rfl (by kernel_rfl) (by kernel_rfl) (by kernel_rfl) (fun _ _ _ h => h) (Or.inl ⟨by rfl, ?_⟩) hS ?_
  rotate_left
  · intro w' hSw; (try dsimp only at hSw); go_simp; try with_reducible rfl
  (try simp only [List.getElem_toArray, List.getElem_cons_succ, List.getElem_cons_zero, Act.put, List.setIfInBounds_toArray, List.set_cons_zero, List.set_cons_succ])
  refine wpAnyH_take (i := 3) (v := ?_) rfl (by kernel_rfl) (by kernel_rfl) (by kernel_rfl) (fun _ _ _ h => h) (Or.inl ⟨by rfl, ?_⟩) hS ?_
  rotate_left
  · intro w' hSw; (try dsimp only at hSw); go_simp; try with_reducible rfl
  (try simp only [List.getElem_toArray, List.getElem_cons_succ, List.getElem_cons_zero, Act.put, List.setIfInBounds_toArray, List.set_cons_zero, List.set_cons_succ])
  refine wpAnyH_take (i := 4) (v := ?_) rfl (by kernel_rfl) (by kernel_rfl) (by kernel_rfl) (fun _ _ _ h => h) (Or.inl ⟨by rfl, ?_⟩) hS ?_
  rotate_left
  · intro w' hSw; (try dsimp only at hSw); go_simp; try with_reducible rfl
  (try simp only [List.getElem_toArray, List.getElem_cons_succ, List.getElem_cons_zero, Act.put, List.setIfInBounds_toArray, List.set_cons_zero, List.set_cons_succ])
  refine wpAnyH_take (i := 5) (v := ?_) rfl (by kernel_rfl) (by kernel_rfl) (by kernel_rfl) (fun _ _ _ h => h) (Or.inl ⟨by rfl, ?_⟩) hS ?_
  rotate_left
  · intro w' hSw; (try dsimp only at hSw); go_simp; try with_reducible rfl
  (try simp only [List.getElem_toArray, List.getElem_cons_succ, List.getElem_cons_zero, Act.put, List.setIfInBounds_toArray, List.set_cons_zero, List.set_cons_succ])
  refine wpAnyH_take (i := 6) (v := ?_) rfl (by kernel_rfl) (by kernel_rfl) (by kernel_rfl) (fun _ _ _ h => h) (Or.inl ⟨by rfl, ?_⟩) hS ?_
  rotate_left
  · intro w' hSw; (try dsimp only at hSw); go_simp; try with_reducible rfl
  (try simp only [List.getElem_toArray, List.getElem_cons_succ, List.getElem_cons_zero, Act.put, List.setIfInBounds_toArray, List.set_cons_zero, List.set_cons_succ])
  refine wpAnyH_ready (rs := [7]) (by kernel_rfl) (by simp) ?_
  refine AllReadyH.cons rfl (fun K' hK => ?_) AllReadyH.nil
  simp only [List.getElem_toArray, List.getElem_cons_succ, List.getElem_cons_zero]
  go_simp
  refine hK.out _ _ trivial (fun hS => ?_)
  (try simp only [Act.put, List.setIfInBounds_toArray, List.set_cons_zero, List.set_cons_succ])
  refine wpAnyH_ready (rs := [8]) (by kernel_rfl) (by simp) ?_
  refine AllReadyH.cons rfl (fun K' hK => ?_) AllReadyH.nil
  simp only [List.getElem_toArray, List.getElem_cons_succ, List.getElem_cons_zero]
  go_simp
  refine hK.out _ _ trivial (fun hS => ?_)
  (try simp only [Act.put, List.setIfInBounds_toArray, List.set_cons_zero, List.set_cons_succ])
  refine wpAnyH_ready (rs := [9]) (by kernel_rfl) (by simp) ?_
  refine AllReadyH.cons rfl (fun K' hK => ?_) AllReadyH.nil
  simp only [List.getElem_toArray, List.getElem_cons_succ, List.getElem_cons_zero]
  go_simp
  refine hK.out _ _ trivial (fun hS => ?_)
  (try simp only [Act.put, List.setIfInBounds_toArray, List.set_cons_zero, List.set_cons_succ])
  refine wpAnyH_done (by kernel_rfl) ?_ _
  exact ⟨rfl, _, rfl, .tuple #[], by simp [results, Tryz.results41], rfl, rfl, rfl⟩
end Go.Proofs.YthniejnbkkkbnaaGreatDoor

namespace Go.Proofs.YthniejnbkkkbnaaGreatDoor
open Go.RowKit
set_option maxRecDepth 100000
set_option maxHeartbeats 40000000

def CkNil (cb : Nat) (w : World) : Prop := w.heap[cb]? = some (.cells #[nilS, nilS, nilS, nilS, .string (S [])] 118 (0, 0))
/-- What is declared, once names is done. -/
def CkDone (cb b w0 : Nat) (t : T) (x : Info) (w : World) : Prop := ∃ C : CK, C.cb = cb ∧ C.x = x ∧ C.sv = nilS ∧ C.gv = nilS ∧ C.Ok ∧ CStat C w ∧ ChkAt C w ∧ TreeAt w C.X b t ∧ SigsAt w (fun k => w0 ≤ k ∧ C.X k) C.fv x.funs
def CheckPost (w : World) (x : Info) (r : CR Unit) (e : Ending) (w' : World) : Prop := Gr w w' ∧ match r with
  | .ok _ => ∃ fv, e = .returned (.tuple #[.agg #[nilS, nilS, fv], .int .i64 0, .int .i64 0]) ∧ SigsAt w' (fun k => w.heap.size ≤ k) fv x.funs
  | .err a er => e = .returned (.tuple #[.agg #[nilS, nilS, nilS], .int .i64 a, .int .i64 er])
  | .bad => True

/-- The variables of Check. -/
structure Blks (k1 k2 k3 k4 cb b : Nat) (w : World) : Prop where
  b1 : w.heap[k1]? = some (.cells #[ptrV b] 53 (0, 0))
  b2 : w.heap[k2]? = some (.cells #[.slice none 0 0, .slice none 0 0, .slice none 0 0] 56 (0, 0))
  b3 : w.heap[k3]? = some (.cells #[.int .i64 0] 3 (0, 0))
  b4 : w.heap[k4]? = some (.cells #[.int .i64 0] 23 (0, 0))
  bf : w.heap[cb + 1]? = some (.cells #[.func (.func 42) #[ptrV cb] #[], .func (.func 43) #[ptrV cb] #[], .func (.func 44) #[ptrV cb] #[]] 119 (0, 0))
theorem Blks.fr {k1 k2 k3 k4 cb b : Nat} {w w' : World} (h : Blks k1 k2 k3 k4 cb b w) (hf : Fr (fun k => k = cb) w w') (h1 : k1 < cb) (h2 : k2 < cb) (h3 : k3 < cb) (h4 : k4 < cb) : Blks k1 k2 k3 k4 cb b w' :=
  ⟨hf.blk h.b1 (by omega), hf.blk h.b2 (by omega), hf.blk h.b3 (by omega), hf.blk h.b4 (by omega), hf.blk h.bf (by omega)⟩
theorem fr_of_md {cb : Nat} {w w' : World} (h : Md cb w w') : Fr (fun k => k = cb) w w' := ⟨h.os, h.tape, h.output, h.size, fun k hk hn => h.block k hk (fun e => hn (by injection e))⟩
theorem gr_fr {cb : Nat} {w wr w' : World} (hG : Gr w wr) (hf : Fr (fun k => k = cb) wr w') (h : w.heap.size ≤ cb) : Gr w w' :=
  ⟨hf.os.trans hG.os, hf.tape.trans hG.tape, hf.output.trans hG.output, Nat.le_trans hG.size hf.size, fun k hk => (hf.block k (Nat.lt_of_lt_of_le hk hG.size) (by omega)).trans (hG.block k hk)⟩
theorem CkDone.fr {cb b w0 : Nat} {t : T} {x : Info} {w w' : World} (h : CkDone cb b w0 t x w) (hf : Fr (fun k => k = cb) w w') (hc : ∀ C : CK, C.cb = cb → ChkAt C w → ChkAt C w') : CkDone cb b w0 t x w' := by
  obtain ⟨C, hcb, hx, hs, hg, hok, hst, hck, ht, hsg⟩ := h
  subst hcb
  exact ⟨C, rfl, hx, hs, hg, hok, hst.fr hf, hc C rfl hck, ht.frame fun k hk hlt => hf.block k hlt hk.2, hsg.frame fun k hk hlt => hf.block k hlt hk.2.2⟩
theorem ckDone_made {cb b : Nat} {d : D} {ks : List T} {X : Nat → Prop} {w wr w' : World} {fv : Value} (hks : ks = [] ∨ ∃ t, ks = [t] ∧ t.d.op = 4 ∧ partsOk t.kids = true ∧ smallT t = true) (hcw : w.heap.size ≤ cb) (hcr : cb < wr.heap.size)
    (hG : Gr w wr) (hm : Md cb wr w') (hT : TreeAt w' X b (.mk d ks)) (hX : ∀ k, X k → k < w.heap.size) (hc : w'.heap[cb]? = some (.cells #[nilS, nilS, fv, nilS, .string (S [])] 118 (0, 0))) (hs : SigsAt w' (fun k => wr.heap.size ≤ k) fv (ks.map sigT)) :
    CkDone cb b cb (.mk d ks) ⟨[], [], ks.map sigT⟩ w' := by
  have hlt := blkLt hc
  have hsz := hG.size
  have hsm := hm.size
  refine ⟨⟨cb, w'.heap.size, ⟨[], [], ks.map sigT⟩, [], nilS, nilS, fv⟩, rfl, rfl, rfl, rfl, ⟨fun s h => (by cases h), fun s h => ?_⟩, ⟨?_, ?_, hs.imp fun k hk h => ⟨hk, by show k ≠ cb; omega⟩, Nat.le_refl _, hlt, by simp, by simp, ?_⟩, ⟨nilS, [], hc⟩, hT.imp fun k hk h => ⟨hk, by have := hX k h; show k ≠ cb; omega⟩, hs.imp fun k hk h => ⟨by omega, hk, by show k ≠ cb; omega⟩⟩
  · rcases hks with rfl | ⟨t, rfl, _, _, hsm⟩
    · cases h
    · obtain rfl : s = sigT t := by simpa using h
      obtain ⟨dt, kt⟩ := t
      obtain ⟨_, _, h3, _⟩ := smallT_mk hsm
      refine Nat.lt_of_le_of_lt ?_ h3
      show (fieldsP (partsP (.mk dt kt))).length ≤ kt.length
      unfold fieldsP partsP
      rw [List.length_map]
      exact List.length_filter_le _ _
  · exact ⟨[], rfl, ⟨none, 0, rfl, Nat.le_refl _, .inl rfl⟩, fun i s u h => by simp at h⟩
  · exact ⟨none, 0, rfl, Nat.le_refl _, .inl rfl⟩
  · rcases hks with rfl | ⟨t, rfl, _⟩ <;> simp

theorem Check_any (b : Nat) (d : D) (ks : List T) (X : Nat → Prop) (w : World) (hd : d.op = 1) (hks : ks = [] ∨ ∃ t, ks = [t] ∧ t.d.op = 4 ∧ partsOk t.kids = true ∧ smallT t = true)
    (ht : TreeAt w X b (.mk d ks)) (hX : ∀ k, X k → k < w.heap.size) (hty : typesC ⟨[], [], ks.map sigT⟩ ks = .ok ()) (hbo : bodiesC ⟨[], [], ks.map sigT⟩ ks = .ok ()) (hmn : mainC ⟨[], [], ks.map sigT⟩ ≠ .bad) :
    Calls Tryz.prog 32 #[nodeV b] w (CheckPost w ⟨[], [], ks.map sigT⟩ (mainC ⟨[], [], ks.map sigT⟩)) := by
  have hmf : ∀ (fn : Fn) (first cap : Array Value) (w : World), (Instr.makeFunc fn first cap).run Tryz.prog w = .ok (.func fn first cap) w := fun _ _ _ _ => rfl
  have en1 : ∀ (args : Array Value) (w : World), (callFunc 42 args).run Tryz.prog w = .ok (.enter 42 args) w := fun _ _ => by kernel_rfl
  have en2 : ∀ (args : Array Value) (w : World), (callFunc 43 args).run Tryz.prog w = .ok (.enter 43 args) w := fun _ _ => by kernel_rfl
  have en3 : ∀ (args : Array Value) (w : World), (callFunc 44 args).run Tryz.prog w = .ok (.enter 44 args) w := fun _ _ => by kernel_rfl
  have HT : Hid (∀ w', Gr w w' → TreeAt w' X b (.mk d ks)) := fun w' hg => ht.gr hg
  have HKS := Lib.hid hks
  have HXX := Lib.hid hX
  have HTY := Lib.hid hty
  have HBO := Lib.hid hbo
  have hks2 : ks = [] ∨ ∃ t, ks = [t] ∧ t.d.op = 4 ∧ partsOk t.kids = true ∧ t.kids.length < 1000000 := by
    rcases hks with h | ⟨⟨dt, kt⟩, h, h1, h2, h3⟩
    · exact .inl h
    · exact .inr ⟨_, h, h1, h2, (smallT_mk h3).2.2.1⟩
  have HK2 := Lib.hid hks2
  have hkl : ks.length < 1000000 := by rcases hks with h | ⟨t, h, _⟩ <;> rw [h] <;> simp
  have hsa : ∀ a ∈ ks, smallT a = true := by
    intro a ha
    rcases hks with h | ⟨t, h, _, _, h3⟩
    · rw [h] at ha; cases ha
    · rw [h] at ha; obtain rfl : a = t := by simpa using ha
      exact h3
  have hpa : ∀ a ∈ ks, partsOk a.kids = true := by
    intro a ha
    rcases hks with h | ⟨t, h, _, h2, _⟩
    · rw [h] at ha; cases ha
    · rw [h] at ha; obtain rfl : a = t := by simpa using ha
      exact h2
  have HSA := Lib.hid hsa
  have HPA := Lib.hid hpa
  obtain ⟨R, hR⟩ : ∃ R, mainC ⟨[], [], ks.map sigT⟩ = R := ⟨_, rfl⟩
  have HR := Lib.hid hR
  rw [hR] at hmn ⊢
  have HMN := Lib.hid hmn
  have HOP := Lib.hid (fun w' (hg : Gr w w') => Op_any (nodeV b) (some (.mk d ks)) X w' ⟨b, rfl, HT.out w' hg⟩)
  have e1 : (dO (some (T.mk d ks))).op = 1 := hd
  rw [e1] at HOP
  clear e1 hks hX hty hbo hks2 hsa hpa hR hmn hd ht
  go_enter_defers Tryz.func32, Tryz.ntmps32
  go_wp2_with fail
  have hG4 : Gr w ((((w.alloc (.cells #[ptrV b] 53)).alloc (.cells #[nilS, nilS, nilS] 56)).alloc (.cells #[.int .i64 0] 3)).alloc (.cells #[.int .i64 0] 23)) := (((Gr.al _ _).alloc _).alloc _).alloc _
  have B1 : ((((w.alloc (.cells #[ptrV b] 53)).alloc (.cells #[nilS, nilS, nilS] 56)).alloc (.cells #[.int .i64 0] 3)).alloc (.cells #[.int .i64 0] 23)).heap[w.heap.size]? = some (.cells #[ptrV b] 53 (0, 0)) := blk_alloc_lt (blk_alloc_lt (alloc2_fst _ _ _))
  have B2 : ((((w.alloc (.cells #[ptrV b] 53)).alloc (.cells #[nilS, nilS, nilS] 56)).alloc (.cells #[.int .i64 0] 3)).alloc (.cells #[.int .i64 0] 23)).heap[w.heap.size + 1]? = some (.cells #[nilS, nilS, nilS] 56 (0, 0)) := blk_alloc_lt (blk_alloc_lt (alloc2_snd _ _ _))
  have B3 : ((((w.alloc (.cells #[ptrV b] 53)).alloc (.cells #[nilS, nilS, nilS] 56)).alloc (.cells #[.int .i64 0] 3)).alloc (.cells #[.int .i64 0] 23)).heap[w.heap.size + 1 + 1]? = some (.cells #[.int .i64 0] 3 (0, 0)) := blk_alloc_lt (alloc3_trd _ _ _ _)
  have B4 : ((((w.alloc (.cells #[ptrV b] 53)).alloc (.cells #[nilS, nilS, nilS] 56)).alloc (.cells #[.int .i64 0] 3)).alloc (.cells #[.int .i64 0] 23)).heap[w.heap.size + 1 + 1 + 1]? = some (.cells #[.int .i64 0] 23 (0, 0)) := by
    have := blk_alloc (((w.alloc (.cells #[ptrV b] 53)).alloc (.cells #[nilS, nilS, nilS] 56)).alloc (.cells #[.int .i64 0] 3)) (.cells #[.int .i64 0] 23)
    rwa [World.size_alloc, World.size_alloc, World.size_alloc] at this
  unfold nilS at B1 B2 B3 B4 hG4
  generalize hw4 : ((((w.alloc (.cells #[ptrV b] 53)).alloc (.cells #[.slice none 0 0, .slice none 0 0, .slice none 0 0] 56)).alloc (.cells #[.int .i64 0] 3)).alloc (.cells #[.int .i64 0] 23)) = w4 at *
  obtain ⟨k2, hk2⟩ : ∃ k, w.heap.size + 1 = k := ⟨_, rfl⟩
  obtain ⟨k3, hk3⟩ : ∃ k, k2 + 1 = k := ⟨_, rfl⟩
  obtain ⟨k4, hk4⟩ : ∃ k, k3 + 1 = k := ⟨_, rfl⟩
  obtain ⟨k1, hk1⟩ : ∃ k, w.heap.size = k := ⟨_, rfl⟩
  rw [hk2, hk3, hk4] at B4 ⊢
  rw [hk2, hk3] at B3
  rw [hk2] at B2
  have g1 : w.heap.size ≤ k1 := by omega
  have g2 : w.heap.size < k2 := by omega
  have g12 : k1 < k2 := by omega
  have g23 : k2 < k3 := by omega
  have g34 : k3 < k4 := by omega
  rw [hk1] at B1 ⊢
  clear hw4 hk1 hk2 hk3 hk4
  refine (HOP.out _ hG4).mono ?_
  rintro e w5 ⟨rfl, hg5⟩
  have hG5 := hG4.trans hg5
  have HB1 := Lib.hid (hg5.blk B1)
  have HB2 := Lib.hid (hg5.blk B2)
  have HB3 := Lib.hid (hg5.blk B3)
  have HB4 := Lib.hid (hg5.blk B4)
  have b1 := cellAt HB1.out (i := 0) rfl
  have hl4 := blkLt HB4.out
  clear hg5 hG4 B1 B2 B3 B4
  go_wp2_with fail
  have hGA : Gr w5 ((w5.alloc (.cells #[.slice none 0 0, .slice none 0 0, .slice none 0 0, .slice none 0 0, .string ⟨#[]⟩] 118)).alloc (.cells #[.func (.func 42) #[ptrV w5.heap.size] #[], .func (.func 43) #[ptrV w5.heap.size] #[], .func (.func 44) #[ptrV w5.heap.size] #[]] 119)) := (Gr.al _ _).alloc _
  have BC := alloc2_fst w5 (.cells #[.slice none 0 0, .slice none 0 0, .slice none 0 0, .slice none 0 0, .string ⟨#[]⟩] 118) (.cells #[.func (.func 42) #[ptrV w5.heap.size] #[], .func (.func 43) #[ptrV w5.heap.size] #[], .func (.func 44) #[ptrV w5.heap.size] #[]] 119)
  have BF := alloc2_snd w5 (.cells #[.slice none 0 0, .slice none 0 0, .slice none 0 0, .slice none 0 0, .string ⟨#[]⟩] 118) (.cells #[.func (.func 42) #[ptrV w5.heap.size] #[], .func (.func 43) #[ptrV w5.heap.size] #[], .func (.func 44) #[ptrV w5.heap.size] #[]] 119)
  generalize hw6 : (w5.alloc (.cells #[.slice none 0 0, .slice none 0 0, .slice none 0 0, .slice none 0 0, .string ⟨#[]⟩] 118)).alloc (.cells #[.func (.func 42) #[ptrV w5.heap.size] #[], .func (.func 43) #[ptrV w5.heap.size] #[], .func (.func 44) #[ptrV w5.heap.size] #[]] 119) = w6 at *
  have HBK : Hid (Blks k1 k2 k3 k4 w5.heap.size b w6) := ⟨hGA.blk HB1.out, hGA.blk HB2.out, hGA.blk HB3.out, hGA.blk HB4.out, BF⟩
  have HG6 := Lib.hid (hG5.trans hGA)
  have HCN : Hid (CkNil w5.heap.size w6) := BC
  have hcw := hG5.size
  obtain ⟨cb, hcb⟩ : ∃ k, w5.heap.size = k := ⟨_, rfl⟩
  rw [hcb] at HBK HCN hcw hl4 ⊢
  clear hw6 BC BF hGA HB1 HB2 HB3 HB4 b1 hG5
  go_loopw [23] (fun t wr => Hid (Gr w wr) ∧ Hid (Blks k1 k2 k3 k4 cb b wr) ∧ ((t = .int .i64 0 ∧ Hid (CkNil cb wr)) ∨ (t = .int .i64 1 ∧ Hid (CkDone cb b cb (.mk d ks) ⟨[], [], ks.map sigT⟩ wr)) ∨ (t = .int .i64 2 ∧ Hid (CkDone cb b cb (.mk d ks) ⟨[], [], ks.map sigT⟩ wr)) ∨ (t = .int .i64 3 ∧ Hid (CkDone cb b cb (.mk d ks) ⟨[], [], ks.map sigT⟩ wr)))) (fun t _ => 3 - (intOf t).toNat)
  case atStart => exact ⟨HG6, HBK, .inl ⟨rfl, HCN⟩⟩
  case round =>
    obtain ⟨hgr, hbk, hj⟩ := hrel
    have b1 := cellAt hbk.out.b1 (i := 0) rfl
    have bf0 := cellAt hbk.out.bf (i := 0) rfl
    have bf1 := cellAt hbk.out.bf (i := 1) rfl
    have bf2 := cellAt hbk.out.bf (i := 2) rfl
    have hlk1 := blkLt hbk.out.b1
    have hlf := blkLt hbk.out.bf
    rcases hj with ⟨rfl, hn⟩ | ⟨rfl, hn⟩ | ⟨rfl, hn⟩ | ⟨rfl, hn⟩
    · go_wp2_with fail
      refine (cnames_any cb b d ks X wr HK2.out (HT.out _ hgr.out) (fun k hk => ⟨by have := HXX.out k hk; have := hgr.out.size; omega, by have := HXX.out k hk; omega⟩) hn.out).mono ?_
      rintro e w7 ⟨rfl, hm7, fv, hc7, hs7⟩
      have hf7 := fr_of_md hm7
      have HG7 := Lib.hid (gr_fr hgr.out hf7 hcw)
      have HBK7 : Hid (Blks k1 k2 k3 k4 cb b w7) := hbk.out.fr hf7 (by omega) (by omega) (by omega) (by omega)
      have HD := Lib.hid (ckDone_made HKS.out hcw (by omega) hgr.out hm7 (HT.out _ HG7.out) HXX.out hc7 hs7)
      clear hm7 hf7 hc7 hs7
      go_wp2_with fail
      go_roundw
      case rel => exact ⟨HG7, HBK7, .inr (.inl ⟨by first | rfl | go_num, HD⟩)⟩
      case measure => simp [intOf]
    · obtain ⟨C, hcbC, hx, hs, hg, hok, hst, hck, htr, hsg⟩ := hn.out
      have HW := Lib.hid (ctypes_any C d ks b wr hst hck htr hkl HSA.out HPA.out)
      rw [hx, HTY.out, hcbC] at HW
      have HCC := Lib.hid (show ∀ w', Gr wr w' → CkDone cb b cb (.mk d ks) ⟨[], [], ks.map sigT⟩ w' from fun w' h => ⟨C, hcbC, hx, hs, hg, hok, hst.gr h, hck.gr h, htr.gr h, hsg.gr h⟩)
      clear hcbC hx hs hg hok hst hck htr hsg
      go_wp2_with fail
      refine (HW.out).mono ?_
      rintro e w7 ⟨hg7, rfl⟩
      have HG7 := Lib.hid (hgr.out.trans hg7)
      have HBK7 : Hid (Blks k1 k2 k3 k4 cb b w7) := hbk.out.fr (.of_gr hg7) (by omega) (by omega) (by omega) (by omega)
      have HD := Lib.hid (HCC.out w7 hg7)
      clear hg7
      go_wp2_with fail
      go_roundw
      case rel => exact ⟨HG7, HBK7, .inr (.inr (.inl ⟨by first | rfl | go_num, HD⟩))⟩
      case measure => simp [intOf]
    · obtain ⟨C, hcbC, hx, hs, hg, hok, hst, hck, htr, hsg⟩ := hn.out
      have HW := Lib.hid (cbodies_any C hok d ks b wr hst hck htr hkl HSA.out HPA.out (by rw [hx, HBO.out]; intro h; cases h))
      unfold BPost at HW
      rw [hx, HBO.out, hcbC] at HW
      have HCC := Lib.hid (show ∀ w', Fr (fun k => k = cb) wr w' → ChkAt C w' → CkDone cb b cb (.mk d ks) ⟨[], [], ks.map sigT⟩ w' from fun w' hf h => by
        subst hcbC
        exact ⟨C, rfl, hx, hs, hg, hok, hst.fr hf, h, htr.frame fun k hk hlt => hf.block k hlt hk.2, hsg.frame fun k hk hlt => hf.block k hlt hk.2.2⟩)
      clear hcbC hx hs hg hok hst hck htr hsg
      go_wp2_with fail
      refine (HW.out).mono ?_
      rintro e w7 ⟨hf7, rfl, hck7⟩
      have HG7 := Lib.hid (gr_fr hgr.out hf7 hcw)
      have HBK7 : Hid (Blks k1 k2 k3 k4 cb b w7) := hbk.out.fr hf7 (by omega) (by omega) (by omega) (by omega)
      have HD := Lib.hid (HCC.out w7 hf7 hck7)
      clear hf7 hck7
      go_wp2_with fail
      go_roundw
      case rel => exact ⟨HG7, HBK7, .inr (.inr (.inr ⟨by first | rfl | go_num, HD⟩))⟩
      case measure => simp [intOf]
    · obtain ⟨C, hcbC, hx, hs, hg, hok, hst, hck, htr, hsg⟩ := hn.out
      have HW := Lib.hid (cmain_any C wr hst hck (by rw [hx, HR.out]; exact HMN.out))
      rw [hx, HR.out, hcbC] at HW
      have HSG : Hid (SigsAt wr (fun k => cb < k) C.fv (ks.map sigT)) := by
        show SigsAt wr (fun k => cb < k) C.fv (ks.map sigT)
        exact hsg.imp fun k _ hk => by have := hk.2.2; have := hk.1; omega
      obtain ⟨bv, res, hcc⟩ := hck
      rw [hcbC, hs, hg] at hcc
      have HCC := Lib.hid hcc
      clear hcbC hx hs hg hok hst htr hsg hcc
      go_wp2_with fail
      cases R with
      | bad => exact absurd rfl HMN.out
      | err a er =>
        refine (HW.out).mono ?_
        rintro e w7 ⟨hg7, rfl⟩
        have HB := hbk.out.fr (.of_gr hg7) (by omega) (by omega) (by omega) (by omega)
        have hG7 := hgr.out.trans hg7
        refine leaves_cons (f := 41) (args := #[.pointer (some ⟨k2, 0, none⟩), .pointer (some ⟨k3, 0, none⟩), .pointer (some ⟨k4, 0, none⟩)]) (by simp) (by simp [go_sem]) ?_
        refine (Check1_panic k2 k3 k4 _ _ _ _ _ a er [] w7 HB.b2 HB.b3 HB.b4 (by omega) (by omega) (by omega)).mono ?_
        rintro e u' w'' ⟨rfl, rfl, rfl⟩
        have E2 : (((((w7.setCell ⟨k2, 0, none⟩ nilS).setCell ⟨k2, 1, none⟩ nilS).setCell ⟨k2, 2, none⟩ nilS).setCell ⟨k3, 0, none⟩ (.int .i64 a)).setCell ⟨k4, 0, none⟩ (.int .i64 er)).heap[k2]? = some (.cells #[nilS, nilS, nilS] 56 (0, 0)) :=
          blk_setCell_ne (blk_setCell_ne (blk_setCell_to (blk_setCell_to (blk_setCell_to HB.b2 rfl) rfl) rfl) (by simp; omega)) (by simp; omega)
        have E3 : (((((w7.setCell ⟨k2, 0, none⟩ nilS).setCell ⟨k2, 1, none⟩ nilS).setCell ⟨k2, 2, none⟩ nilS).setCell ⟨k3, 0, none⟩ (.int .i64 a)).setCell ⟨k4, 0, none⟩ (.int .i64 er)).heap[k3]? = some (.cells #[.int .i64 a] 3 (0, 0)) :=
          blk_setCell_ne (blk_setCell_to (blk_setCell_ne (blk_setCell_ne (blk_setCell_ne HB.b3 (by simp; omega)) (by simp; omega)) (by simp; omega)) rfl) (by simp; omega)
        have E4 : (((((w7.setCell ⟨k2, 0, none⟩ nilS).setCell ⟨k2, 1, none⟩ nilS).setCell ⟨k2, 2, none⟩ nilS).setCell ⟨k3, 0, none⟩ (.int .i64 a)).setCell ⟨k4, 0, none⟩ (.int .i64 er)).heap[k4]? = some (.cells #[.int .i64 er] 23 (0, 0)) :=
          blk_setCell_to (blk_setCell_ne (blk_setCell_ne (blk_setCell_ne (blk_setCell_ne HB.b4 (by simp; omega)) (by simp; omega)) (by simp; omega)) (by simp; omega)) rfl
        have hGW := ((((hG7.setCell (p := ⟨k2, 0, none⟩) (by simp; omega) nilS).setCell (p := ⟨k2, 1, none⟩) (by simp; omega) nilS).setCell (p := ⟨k2, 2, none⟩) (by simp; omega) nilS).setCell (p := ⟨k3, 0, none⟩) (by simp; omega) (.int .i64 a)).setCell (p := ⟨k4, 0, none⟩) (by simp; omega) (.int .i64 er)
        generalize ((((w7.setCell ⟨k2, 0, none⟩ nilS).setCell ⟨k2, 1, none⟩ nilS).setCell ⟨k2, 2, none⟩ nilS).setCell ⟨k3, 0, none⟩ (.int .i64 a)).setCell ⟨k4, 0, none⟩ (.int .i64 er) = wz at *
        have c20 := cellAt E2 (i := 0) rfl
        have c21 := cellAt E2 (i := 1) rfl
        have c22 := cellAt E2 (i := 2) rfl
        have c3 := cellAt E3 (i := 0) rfl
        have c4 := cellAt E4 (i := 0) rfl
        refine ⟨.tuple #[.agg #[nilS, nilS, nilS], .int .i64 a, .int .i64 er], ?_, hGW.drew, rfl⟩
        simp [results, Tryz.results32, go_sem, c20, c21, c22, c3, c4]
      | ok u =>
        refine (HW.out).mono ?_
        rintro e w7 ⟨hg7, rfl⟩
        have HB := Lib.hid (hbk.out.fr (.of_gr hg7) (by omega) (by omega) (by omega) (by omega))
        have hG7 := hgr.out.trans hg7
        have HS7 := Lib.hid (SigsAt.gr HSG.out hg7)
        obtain ⟨c0, c1, c2, _, _⟩ := cells5 (hg7.blk HCC.out)
        obtain ⟨fA, nf, fc, hfv⟩ : ∃ A n c, C.fv = .slice A n c := by
          obtain ⟨_, _, ⟨A, c, hv, _⟩, _⟩ := HSG.out
          exact ⟨A, _, c, hv⟩
        rw [hfv] at c2
        replace c0 : w7.cell? ⟨cb, 0, none⟩ = some (.slice none 0 0) := c0
        replace c1 : w7.cell? ⟨cb, 1, none⟩ = some (.slice none 0 0) := c1
        have hlc := blkLt (hg7.blk HCC.out)
        have d20 := cellAt HB.out.b2 (i := 0) rfl
        have d21 := cellAt HB.out.b2 (i := 1) rfl
        have d22 := cellAt HB.out.b2 (i := 2) rfl
        have d3 := cellAt HB.out.b3 (i := 0) rfl
        have d4 := cellAt HB.out.b4 (i := 0) rfl
        have f2 := frozenAt HB.out.b2
        have f3 := frozenAt HB.out.b3
        have f4 := frozenAt HB.out.b4
        clear hgr hbk b1 bf0 bf1 bf2 hg7 HSG HCC
        go_wp2_with fail
        refine leaves_cons (f := 41) (args := #[.pointer (some ⟨k2, 0, none⟩), .pointer (some ⟨k3, 0, none⟩), .pointer (some ⟨k4, 0, none⟩)]) (by simp) (by simp [go_sem]) ?_
        refine (Check1_idle _ _ _ _).mono ?_
        rintro e u' w'' ⟨rfl, rfl, rfl⟩
        have E2 : (((((w7.setCell ⟨k2, 0, none⟩ (.slice none 0 0)).setCell ⟨k2, 1, none⟩ (.slice none 0 0)).setCell ⟨k2, 2, none⟩ (.slice fA nf fc)).setCell ⟨k3, 0, none⟩ (.int .i64 0)).setCell ⟨k4, 0, none⟩ (.int .i64 0)).heap[k2]? = some (.cells #[nilS, nilS, .slice fA nf fc] 56 (0, 0)) :=
          blk_setCell_ne (blk_setCell_ne (blk_setCell_to (blk_setCell_to (blk_setCell_to HB.out.b2 rfl) rfl) rfl) (by simp; omega)) (by simp; omega)
        have E3 : (((((w7.setCell ⟨k2, 0, none⟩ (.slice none 0 0)).setCell ⟨k2, 1, none⟩ (.slice none 0 0)).setCell ⟨k2, 2, none⟩ (.slice fA nf fc)).setCell ⟨k3, 0, none⟩ (.int .i64 0)).setCell ⟨k4, 0, none⟩ (.int .i64 0)).heap[k3]? = some (.cells #[.int .i64 0] 3 (0, 0)) :=
          blk_setCell_ne (blk_setCell_to (blk_setCell_ne (blk_setCell_ne (blk_setCell_ne HB.out.b3 (by simp; omega)) (by simp; omega)) (by simp; omega)) rfl) (by simp; omega)
        have E4 : (((((w7.setCell ⟨k2, 0, none⟩ (.slice none 0 0)).setCell ⟨k2, 1, none⟩ (.slice none 0 0)).setCell ⟨k2, 2, none⟩ (.slice fA nf fc)).setCell ⟨k3, 0, none⟩ (.int .i64 0)).setCell ⟨k4, 0, none⟩ (.int .i64 0)).heap[k4]? = some (.cells #[.int .i64 0] 23 (0, 0)) :=
          blk_setCell_to (blk_setCell_ne (blk_setCell_ne (blk_setCell_ne (blk_setCell_ne HB.out.b4 (by simp; omega)) (by simp; omega)) (by simp; omega)) (by simp; omega)) rfl
        have hGW := ((((hG7.setCell (p := ⟨k2, 0, none⟩) (by simp; omega) (.slice none 0 0)).setCell (p := ⟨k2, 1, none⟩) (by simp; omega) (.slice none 0 0)).setCell (p := ⟨k2, 2, none⟩) (by simp; omega) (.slice fA nf fc)).setCell (p := ⟨k3, 0, none⟩) (by simp; omega) (.int .i64 0)).setCell (p := ⟨k4, 0, none⟩) (by simp; omega) (.int .i64 0)
        have HSW : SigsAt (((((w7.setCell ⟨k2, 0, none⟩ (.slice none 0 0)).setCell ⟨k2, 1, none⟩ (.slice none 0 0)).setCell ⟨k2, 2, none⟩ (.slice fA nf fc)).setCell ⟨k3, 0, none⟩ (.int .i64 0)).setCell ⟨k4, 0, none⟩ (.int .i64 0)) (fun k => cb < k) C.fv (ks.map sigT) :=
          HS7.out.frame fun k hk _ => by
            rw [Below.heap_setCell _ _ _ _ (show k ≠ k4 by omega), Below.heap_setCell _ _ _ _ (show k ≠ k3 by omega), Below.heap_setCell _ _ _ _ (show k ≠ k2 by omega), Below.heap_setCell _ _ _ _ (show k ≠ k2 by omega), Below.heap_setCell _ _ _ _ (show k ≠ k2 by omega)]
        rw [hfv] at HSW
        have z20 := cellAt E2 (i := 0) rfl
        have z21 := cellAt E2 (i := 1) rfl
        have z22 := cellAt E2 (i := 2) rfl
        have z3 := cellAt E3 (i := 0) rfl
        have z4 := cellAt E4 (i := 0) rfl
        refine ⟨.tuple #[.agg #[nilS, nilS, .slice fA nf fc], .int .i64 0, .int .i64 0], ?_, hGW, _, rfl, HSW.imp fun k _ hk => by omega⟩
        simp [results, Tryz.results32, go_sem, z20, z21, z22, z3, z4]
end Go.Proofs.YthniejnbkkkbnaaGreatDoor
