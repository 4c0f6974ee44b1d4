/- Walks of layer walk: heap.New of no structs, Len; run. Walks of layer walk: run. Walks of layer walk: Run, where it is said. -/
import Derived.Test.YthniejnbkkkbnaaGreatDoorM45
import Derived.Test.YthniejnbkkkbnaaGreatDoorM12
import Derived.Test.YthniejnbkkkbnaaGreatDoorM28
import Derived.Recover
import Derived.Defers
import Derived.Test.YthniejnbkkkbnaaGreatDoorM44
import Derived.Deep.CutRange
set_option linter.all false
set_option linter.unusedSimpArgs false
set_option linter.unusedVariables false
namespace Go.Proofs.YthniejnbkkkbnaaGreatDoor
open Go.RowKit
set_option maxRecDepth 100000
set_option maxHeartbeats 4000000

theorem HNew_nil (w : World) : Calls Tryz.prog 23 #[.slice none 0 0] w fun e w' => ∃ hb, e = .returned (ptrV hb) ∧ w.heap.size ≤ hb ∧ w'.heap[hb]? = some (.cells #[.slice none 0 0, .slice none 0 0] 88 (0, 0)) ∧ Gr w w' := by
  have HK := Lib.hid (fun w' => kCheck_any [] (.slice none 0 0) (fun _ => False) w' ⟨[], rfl, ⟨none, 0, rfl, Nat.le_refl _, .inl rfl⟩, fun i s u h => by simp at h⟩ (by simp) (fun s h => by cases h))
  rw [show kindCheckP [] = 0 from rfl] at HK
  go_enter Tryz.func23, Tryz.ntmps23
  go_wp2_with fail
  refine (HK.out _).mono ?_
  rintro e w1 ⟨at_, rfl, hg1⟩
  go_wp2_with fail
  have hgA : Gr w (w1.alloc (.cells #[.slice none 0 0, .slice none 0 0] 88)) := hg1.alloc _
  have HA := Lib.hid (blk_alloc w1 (.cells #[.slice none 0 0, .slice none 0 0] 88))
  have hsz := hg1.size
  generalize w1.alloc (.cells #[.slice none 0 0, .slice none 0 0] 88) = w2 at *
  go_loopw [19] (fun t wr => t = .int .i64 0 ∧ wr = w2) (fun _ _ => 0)
  case atStart => exact ⟨rfl, rfl⟩
  case round =>
    obtain ⟨rfl, rfl⟩ := hrel
    go_wp2_with fail
    go_ret
    exact ⟨w1.heap.size, rfl, hsz, HA.out, hgA⟩

theorem HLen_nil (hb : Nat) (w : World) (h : w.heap[hb]? = some (.cells #[.slice none 0 0, .slice none 0 0] 88 (0, 0))) : Calls Tryz.prog 29 #[ptrV hb] w fun e w' => e = .returned (.int .i64 0) ∧ Gr w w' := by
  have h1 := cellAt h (i := 1) rfl
  have hl := blkLt h
  clear h
  go_enter Tryz.func29, Tryz.ntmps29
  go_wp2_with fail
  go_ret
  exact ⟨rfl, Gr.refl _⟩

theorem wrun1_idle (a : Addr) (w : World) : CallsD Tryz.prog 36 #[.pointer (some a)] .returning w fun e u' w' => e = .returned (.tuple #[]) ∧ u' = .returning ∧ w' = w := by
  refine callsD_of_wpS Tryz.func36 rfl fun c₀ cs hu => ?_
  apply wpS_seq
  apply wpS_region
  simp [wpOpsS, go_sem, recoverD, hu, Tryz.ntmps36, Exit.thenS]
  apply wpS_seq
  apply wpS_region
  simp [wpOpsS, go_sem, recoverD, hu, Tryz.ntmps36, Exit.thenS]
  refine wpS_cond (t := false) (by simp [Act.eval, Array.replicate]) ?_
  simp only [Bool.false_eq_true, if_false]
  refine wpS_of_wp (wp_skip ?_)
  cases c₀
  simp_all [bodyPostS, results, Tryz.results36]

theorem wrun1_panic (bx mb : Nat) (en fa : Int) (older : List PanicEntry) (w : World) (hx : w.heap[bx]? = some (.cells #[ptrV mb] 59 (0, 0))) (hne : bx ≠ mb) (x9 x10 : Value) (h9 : w.cell? ⟨mb, 9, none⟩ = some x9) (h10 : w.cell? ⟨mb, 10, none⟩ = some x10)
    (hf : ∀ i, w.frozen? ⟨mb, i, none⟩ = false) :
    CallsD Tryz.prog 36 #[.pointer (some ⟨bx, 0, none⟩)] (.panicking ({ v := wstopV en fa, recovered := false } :: older)) w fun e u' w' =>
      e = .returned (.tuple #[]) ∧ u' = .panicking ({ v := wstopV en fa, recovered := true } :: older) ∧ w' = ((w.setCell ⟨mb, 9, none⟩ (.int .i64 en)).setCell ⟨mb, 10, none⟩ (.int .i64 fa)).drew := by
  have bx0 := cellAt hx (i := 0) rfl
  have hlx := blkLt hx
  have hX1 : (w.setCell ⟨mb, 9, none⟩ (.int .i64 en)).heap[bx]? = _ := blk_setCell_ne hx (by simp; omega)
  have bx1 := cellAt hX1 (i := 0) rfl
  have hX2 : ((w.setCell ⟨mb, 9, none⟩ (.int .i64 en)).setCell ⟨mb, 10, none⟩ (.int .i64 fa)).heap[bx]? = _ := blk_setCell_ne hX1 (by simp; omega)
  have bx2 := cellAt hX2 (i := 0) rfl
  have hq1 : ∀ (o p : Operand) (w : World), (eqGuard .neq 20 o p (.iface 99 (.agg #[.int .i64 en, .int .i64 fa])) .nilIface).run Tryz.prog w = .ok () w := fun _ _ _ => rfl
  have hq2 : ∀ w : World, (binOp .neq 20 (.iface 99 (.agg #[.int .i64 en, .int .i64 fa])) .nilIface).run Tryz.prog w = .ok (.bool true) w := fun _ => by kernel_rfl
  unfold wstopV
  refine callsD_of_wpS Tryz.func36 rfl fun c₀ cs hu => ?_
  apply wpS_seq
  apply wpS_region
  simp [wpOpsS, go_sem, recoverD, hu, Tryz.ntmps36, Exit.thenS]
  apply wpS_seq
  apply wpS_region
  simp [wpOpsS, go_sem, recoverD, hu, Tryz.ntmps36, Exit.thenS, hq1, hq2]
  refine wpS_cond (t := true) (by simp [Act.eval, Array.replicate]) ?_
  simp only [if_true]
  refine wpS_of_wp ?_
  have hta : ∀ w', (Instr.typeAssert (.iface 99 (.agg #[.int .i64 en, .int .i64 fa])) 20 99 false).run Tryz.prog w' = .ok (.agg #[.int .i64 en, .int .i64 fa]) w' := fun _ => by kernel_rfl
  have hfa : ∀ (x y : Value) w', (Instr.field 99 (.agg #[x, y]) 0).run Tryz.prog w' = .ok x w' := fun _ _ _ => by kernel_rfl
  have hfb : ∀ (x y : Value) w', (Instr.field 99 (.agg #[x, y]) 1).run Tryz.prog w' = .ok y w' := fun _ _ _ => by kernel_rfl
  simp only [List.push_toArray, Array.setIfInBounds, Array.replicate]
  refine wp_region_held_drew (S := fun w' => w'.cell? ⟨bx, 0, none⟩ = some (ptrV mb)) rfl bx0 (fun hS => ?_)
  refine wpAnyH_take (i := 0) (v := ?_) rfl (by kernel_rfl) (by kernel_rfl) (by kernel_rfl) (fun _ _ _ h => h) (Or.inl ⟨by rfl, ?_⟩) hS ?_
  rotate_left
  · intro w' hSw; (try dsimp only at hSw); go_simp; try with_reducible rfl
  (try simp only [List.getElem_toArray, List.getElem_cons_succ, List.getElem_cons_zero, Act.put, List.setIfInBounds_toArray, List.set_cons_zero, List.set_cons_succ])
  refine wpAnyH_take (i := 1) (v := ?_) rfl (by kernel_rfl) (by kernel_rfl) (by kernel_rfl) (fun _ _ _ h => h) (Or.inl ⟨by rfl, ?_⟩) hS ?_
  rotate_left
  · intro w' hSw; (try dsimp only at hSw); go_simp; try with_reducible rfl
  (try simp only [List.getElem_toArray, List.getElem_cons_succ, List.getElem_cons_zero, Act.put, List.setIfInBounds_toArray, List.set_cons_zero, List.set_cons_succ])
  refine wpAnyH_take (i := 2) (v := ?_) rfl (by kernel_rfl) (by kernel_rfl) (by kernel_rfl) (fun _ _ _ h => h) (Or.inl ⟨by rfl, ?_⟩) hS ?_
  rotate_left
  · intro w' hSw; (try dsimp only at hSw); go_simp; try with_reducible rfl
  (try simp only [List.getElem_toArray, List.getElem_cons_succ, List.getElem_cons_zero, Act.put, List.setIfInBounds_toArray, List.set_cons_zero, List.set_cons_succ])
  refine wpAnyH_take (i := 3) (v := ?_) rfl (by kernel_rfl) (by kernel_rfl) (by kernel_rfl) (fun _ _ _ h => h) (Or.inl ⟨by rfl, ?_⟩) hS ?_
  rotate_left
  · intro w' hSw; (try dsimp only at hSw); go_simp; try with_reducible rfl
  (try simp only [List.getElem_toArray, List.getElem_cons_succ, List.getElem_cons_zero, Act.put, List.setIfInBounds_toArray, List.set_cons_zero, List.set_cons_succ])
  refine wpAnyH_take (i := 4) (v := ?_) rfl (by kernel_rfl) (by kernel_rfl) (by kernel_rfl) (fun _ _ _ h => h) (Or.inl ⟨by rfl, ?_⟩) hS ?_
  rotate_left
  · intro w' hSw; (try dsimp only at hSw); go_simp; try with_reducible rfl
  (try simp only [List.getElem_toArray, List.getElem_cons_succ, List.getElem_cons_zero, Act.put, List.setIfInBounds_toArray, List.set_cons_zero, List.set_cons_succ])
  refine wpAnyH_take (i := 5) (v := ?_) rfl (by kernel_rfl) (by kernel_rfl) (by kernel_rfl) (fun _ _ _ h => h) (Or.inl ⟨by rfl, ?_⟩) hS ?_
  rotate_left
  · intro w' hSw; (try dsimp only at hSw); go_simp; try with_reducible rfl
  (try simp only [List.getElem_toArray, List.getElem_cons_succ, List.getElem_cons_zero, Act.put, List.setIfInBounds_toArray, List.set_cons_zero, List.set_cons_succ])
  refine wpAnyH_take (i := 6) (v := ?_) rfl (by kernel_rfl) (by kernel_rfl) (by kernel_rfl) (fun _ _ _ h => h) (Or.inl ⟨by rfl, ?_⟩) hS ?_
  rotate_left
  · intro w' hSw; (try dsimp only at hSw); go_simp; try with_reducible rfl
  (try simp only [List.getElem_toArray, List.getElem_cons_succ, List.getElem_cons_zero, Act.put, List.setIfInBounds_toArray, List.set_cons_zero, List.set_cons_succ])
  refine wpAnyH_take (i := 7) (v := ?_) rfl (by kernel_rfl) (by kernel_rfl) (by kernel_rfl) (fun _ _ _ h => h) (Or.inl ⟨by rfl, ?_⟩) hS ?_
  rotate_left
  · intro w' hSw; (try dsimp only at hSw); go_simp; try with_reducible rfl
  (try simp only [List.getElem_toArray, List.getElem_cons_succ, List.getElem_cons_zero, Act.put, List.setIfInBounds_toArray, List.set_cons_zero, List.set_cons_succ])
  refine wpAnyH_take (i := 8) (v := ?_) rfl (by kernel_rfl) (by kernel_rfl) (by kernel_rfl) (fun _ _ _ h => h) (Or.inl ⟨by rfl, ?_⟩) hS ?_
  rotate_left
  · intro w' hSw; (try dsimp only at hSw); go_simp; try with_reducible rfl
  (try simp only [List.getElem_toArray, List.getElem_cons_succ, List.getElem_cons_zero, Act.put, List.setIfInBounds_toArray, List.set_cons_zero, List.set_cons_succ])
  refine wpAnyH_take (i := 9) (v := ?_) rfl (by kernel_rfl) (by kernel_rfl) (by kernel_rfl) (fun _ _ _ h => h) (Or.inl ⟨by rfl, ?_⟩) hS ?_
  rotate_left
  · intro w' hSw; (try dsimp only at hSw); go_simp; try with_reducible rfl
  (try simp only [List.getElem_toArray, List.getElem_cons_succ, List.getElem_cons_zero, Act.put, List.setIfInBounds_toArray, List.set_cons_zero, List.set_cons_succ])
  refine wpAnyH_take (i := 10) (v := ?_) rfl (by kernel_rfl) (by kernel_rfl) (by kernel_rfl) (fun _ _ _ h => h) (Or.inl ⟨by rfl, ?_⟩) hS ?_
  rotate_left
  · intro w' hSw; (try dsimp only at hSw); go_simp; try with_reducible rfl
  (try simp only [List.getElem_toArray, List.getElem_cons_succ, List.getElem_cons_zero, Act.put, List.setIfInBounds_toArray, List.set_cons_zero, List.set_cons_succ])
  refine wpAnyH_ready (rs := [11]) (by kernel_rfl) (by simp) ?_
  refine AllReadyH.cons rfl (fun K' hK => ?_) AllReadyH.nil
  simp only [List.getElem_toArray, List.getElem_cons_succ, List.getElem_cons_zero]
  go_simp
  refine hK.out _ _ bx1 (fun hS => ?_)
  (try simp only [Act.put, List.setIfInBounds_toArray, List.set_cons_zero, List.set_cons_succ])
  refine wpAnyH_take (i := 12) (v := ?_) rfl (by kernel_rfl) (by kernel_rfl) (by kernel_rfl) (fun _ _ _ h => h) (Or.inl ⟨by rfl, ?_⟩) hS ?_
  rotate_left
  · intro w' hSw; (try dsimp only at hSw); go_simp; try with_reducible rfl
  (try simp only [List.getElem_toArray, List.getElem_cons_succ, List.getElem_cons_zero, Act.put, List.setIfInBounds_toArray, List.set_cons_zero, List.set_cons_succ])
  refine wpAnyH_take (i := 13) (v := ?_) rfl (by kernel_rfl) (by kernel_rfl) (by kernel_rfl) (fun _ _ _ h => h) (Or.inl ⟨by rfl, ?_⟩) hS ?_
  rotate_left
  · intro w' hSw; (try dsimp only at hSw); go_simp; try with_reducible rfl
  (try simp only [List.getElem_toArray, List.getElem_cons_succ, List.getElem_cons_zero, Act.put, List.setIfInBounds_toArray, List.set_cons_zero, List.set_cons_succ])
  refine wpAnyH_take (i := 14) (v := ?_) rfl (by kernel_rfl) (by kernel_rfl) (by kernel_rfl) (fun _ _ _ h => h) (Or.inl ⟨by rfl, ?_⟩) hS ?_
  rotate_left
  · intro w' hSw; (try dsimp only at hSw); go_simp; try with_reducible rfl
  (try simp only [List.getElem_toArray, List.getElem_cons_succ, List.getElem_cons_zero, Act.put, List.setIfInBounds_toArray, List.set_cons_zero, List.set_cons_succ])
  refine wpAnyH_ready (rs := [15]) (by kernel_rfl) (by simp) ?_
  refine AllReadyH.cons rfl (fun K' hK => ?_) AllReadyH.nil
  simp only [List.getElem_toArray, List.getElem_cons_succ, List.getElem_cons_zero]
  go_simp
  refine hK.out _ _ bx2 (fun hS => ?_)
  (try simp only [Act.put, List.setIfInBounds_toArray, List.set_cons_zero, List.set_cons_succ])
  refine wpAnyH_done (by kernel_rfl) ?_ _
  exact ⟨rfl, _, rfl, .tuple #[], by simp [results, Tryz.results36], rfl, rfl, rfl⟩
end Go.Proofs.YthniejnbkkkbnaaGreatDoor

namespace Go.Proofs.YthniejnbkkkbnaaGreatDoor
open Go.RowKit
set_option maxRecDepth 100000
set_option maxHeartbeats 4000000

/-- The machine once the run is over. -/
def FAt (K : WK) (en fa : Int) (m : MS) (w : World) : Prop := ∃ A c oA oc vs, w.heap[K.mb]? = some (.cells #[K.sv, K.gv, K.fv, K.bod, K.gl, K.hp, .slice A m.inp.length c, iV m.fuel, .slice oA m.out.length oc, iV en, iV fa, iV m.steps, iV 0, vs, iV 0] 66 (0, 0)) ∧
  RowR w (fun k => K.mb < k) oA (m.out.map iV) ∧ m.out.length ≤ oc
def RunPost (K : WK) (w : World) (R : XR Unit) (e : Ending) (w' : World) : Prop := e = .returned (.tuple #[]) ∧ Md K.mb w w' ∧ match R with
  | .ok _ m' => FAt K 1 0 m' w'
  | .stop en fa m' => FAt K en fa m' w'
  | .bad => True
theorem leaves_tmps {P : Program} {fn : Func} {R : Ending → World → Prop} (hf : fn.results = #[]) (t t' : Array Value) : ∀ (ds : List Deferred) (u : FrameMode) (w : World), Leaves P fn t R ds u w → Leaves P fn t' R ds u w
  | [], .returning, w, ⟨v, h, hr⟩ => ⟨v, by simpa [results, hf] using h, hr⟩
  | [], .panicking _, _, h => h
  | [], .run, _, h => h
  | d :: ds, u, w, ⟨h1, fv, cap, f, args, h2, h3, h4⟩ => ⟨h1, fv, cap, f, args, h2, h3, CallsD.mono h4 fun e u' w' h => by
      cases e with
      | returned v => exact leaves_tmps hf t t' ds _ _ h
      | panicked c => exact leaves_tmps hf t t' ds _ _ h
      | outgrown => exact h⟩

theorem wrun_any (k : Nat) (K : WK) (m : MS) (w : World) (h : MAt K m w) (bm fb : Nat) (hb : K.bod = .map (some bm)) (hM : MapAt encS w bm [(xMain, nodeV fb)]) (hne : bm ≠ K.mb) (dm : D) (body : T) (ht : TreeAt w K.X fb (.mk dm [body]))
    (hl : body.kids.length < 1000000) (R : XR Unit) (hR : insideM k body.kids m = R) (hbad : R ≠ .bad) :
    Calls Tryz.prog 28 #[ptrV K.mb] w (RunPost K w R) := by
  have hmf : ∀ (fn : Fn) (first cap : Array Value) (w : World), (Instr.makeFunc fn first cap).run Tryz.prog w = .ok (.func fn first cap) w := fun _ _ _ _ => rfl
  have hmm := @run_makeMap Tryz.prog
  have hzn := zero_node
  have hlt := h.lt
  have HM := Lib.hid h
  have HMP := Lib.hid hM
  have HT := Lib.hid ht
  have HR := Lib.hid hR
  have HBD := Lib.hid hbad
  have hbml := hM.lt
  obtain ⟨A, c, oA, oc, hmb, hrow, hout, hon, hst, hcc, hil⟩ := h
  have c3 : w.cell? ⟨K.mb, 3, none⟩ = some K.bod := cellAt' hmb rfl
  have c13 : w.cell? ⟨K.mb, 13, none⟩ = some K.vars := cellAt' hmb rfl
  have fr := frozenAt hmb
  rw [hb] at c3
  have HMB := Lib.hid hmb
  have B3 : (((w.alloc (.cells #[ptrV K.mb] 59)).alloc (.map #[] 0)).alloc (.cells #[.map (some (w.heap.size + 1))] 100)).heap[K.mb]? = _ := blk_alloc_lt (blk_alloc_lt (blk_alloc_lt hmb))
  have c13' : (((w.alloc (.cells #[ptrV K.mb] 59)).alloc (.map #[] 0)).alloc (.cells #[.map (some (w.heap.size + 1))] 100)).cell? ⟨K.mb, 13, none⟩ = some K.vars := cellAt' B3 rfl
  have fr3 := frozenAt B3
  have X3 : (((w.alloc (.cells #[ptrV K.mb] 59)).alloc (.map #[] 0)).alloc (.cells #[.map (some (w.heap.size + 1))] 100)).heap[w.heap.size]? = some (.cells #[ptrV K.mb] 59 (0, 0)) := blk_alloc_lt (alloc2_fst _ _ _)
  have HG3 : Hid (Gr w (((w.alloc (.cells #[ptrV K.mb] 59)).alloc (.map #[] 0)).alloc (.cells #[.map (some (w.heap.size + 1))] 100))) := ((Gr.al _ _).alloc _).alloc _
  have HB3 := Lib.hid B3
  have HX3 := Lib.hid X3
  clear hmb hM ht hR hbad c13 B3 X3
  go_enter_defers Tryz.func28, Tryz.ntmps28
  go_upto_region 3 with fail
  have hM4 : Md K.mb w (((((w.alloc (.cells #[ptrV K.mb] 59)).alloc (.map #[] 0)).alloc (.cells #[.map (some (w.heap.size + 1))] 100))).setCell ⟨K.mb, 13, none⟩ (.slice (some ⟨w.heap.size + 1 + 1, 0, none⟩) 1 1)) := (Md.of_gr HG3.out).own _ _
  have M4 := blk_setCell_to (i := 13) (v := .slice (some ⟨w.heap.size + 1 + 1, 0, none⟩) 1 1) HB3.out rfl
  have X4 := blk_setCell_ne (a := ⟨K.mb, 13, none⟩) (v := .slice (some ⟨w.heap.size + 1 + 1, 0, none⟩) 1 1) HX3.out (by simp; omega)
  have HMP4 : Hid (MapAt encS ((((w.alloc (.cells #[ptrV K.mb] 59)).alloc (.map #[] 0)).alloc (.cells #[.map (some (w.heap.size + 1))] 100)).setCell ⟨K.mb, 13, none⟩ (.slice (some ⟨w.heap.size + 1 + 1, 0, none⟩) 1 1)) bm [(xMain, nodeV fb)]) := (HMP.out.gr HG3.out).frame (frame_own hne)
  obtain ⟨K4, hK4⟩ : ∃ K4 : WK, K4 = { K with vars := .slice (some ⟨w.heap.size + 1 + 1, 0, none⟩) 1 1 } := ⟨_, rfl⟩
  have HA4 : Hid (MAt K4 m ((((w.alloc (.cells #[ptrV K.mb] 59)).alloc (.map #[] 0)).alloc (.cells #[.map (some (w.heap.size + 1))] 100)).setCell ⟨K.mb, 13, none⟩ (.slice (some ⟨w.heap.size + 1 + 1, 0, none⟩) 1 1))) := by
    show MAt K4 m _
    rw [hK4]
    exact ⟨A, c, oA, oc, M4, (hrow.gr HG3.out).frame fun k hk _ => frame_own (K.hX k hk), (hout.gr HG3.out).frame fun k hk _ => frame_own (Nat.ne_of_gt hk), hon, hst, hcc, hil⟩
  generalize hw4 : (((w.alloc (.cells #[ptrV K.mb] 59)).alloc (.map #[] 0)).alloc (.cells #[.map (some (w.heap.size + 1))] 100)).setCell ⟨K.mb, 13, none⟩ (.slice (some ⟨w.heap.size + 1 + 1, 0, none⟩) 1 1) = w4 at *
  have hmbK : K4.mb = K.mb := by rw [hK4]
  have hXK : K4.X = K.X := by rw [hK4]
  have hlk : (Instr.lookup 60 (.map (some bm)) (.string ⟨#[109, 97, 105, 110]⟩) false).run Tryz.prog w4 = .ok (nodeV fb) w4 := by
    have := run_get keyS Tryz.underlying60 Tryz.underlying9 (hzn w4) HMP4.out xMain
    rw [show (aget [(xMain, nodeV fb)] xMain).getD (.agg #[.pointer none]) = nodeV fb from by simp [aget]] at this
    exact this
  rw [hb] at M4
  have d3 : w4.cell? ⟨K.mb, 3, none⟩ = some (.map (some bm)) := cellAt' M4 rfl
  have x4 := cellAt X4 (i := 0) rfl
  have hx4 := blkLt X4
  have HX4 := Lib.hid X4
  have hbx : w.heap.size ≠ K.mb := by omega
  have HT4 : Hid (∀ w', Md K.mb w w' → TreeAt w' K.X fb (.mk dm [body])) := fun w' hm => Md.tree HT.out K.hX hm
  have HKS := Lib.hid (fun w' (hm : Md K.mb w w') => Kids_any (nodeV fb) (some (.mk dm [body])) K.X w' ⟨fb, rfl, HT4.out w' hm⟩)
  rw [show (kidsO (some (T.mk dm [body]))).length = 1 from rfl] at HKS
  have HKD := Lib.hid (fun w' (hm : Md K.mb w w') => Kid_some fb (.mk dm [body]) K.X 0 (by decide) body rfl w' (HT4.out w' hm))
  have HIN : Hid (∀ w' b', MAt K4 m w' → TreeAt w' K.X b' body → Calls Tryz.prog 37 #[ptrV K.mb, nodeV b'] w' (UPost K4 w' R)) := by
    show ∀ w' b', _
    intro w' b' h1 h2
    rw [← hXK] at h2
    have := inside_walk k K4 m w' b' body h1 h2 hl (by rw [HR.out]; exact HBD.out)
    rw [HR.out, hmbK] at this
    exact this
  have HK4 := Lib.hid hK4
  clear c13' fr3 HG3 HB3 HX3 M4 X4 HMP4 hw4 c3 hrow hout HMB fr hK4 HM HMP
  go_wp2_with fail
  have T5 := blk_alloc w4 (.cells #[ptrV fb] 53)
  have X5 := blk_alloc_lt (o' := .cells #[ptrV fb] 53) HX4.out
  have hM5 := hM4.alloc (.cells #[ptrV fb] 53)
  have hA5 := HA4.out.gr (Gr.al w4 (.cells #[ptrV fb] 53))
  have hsz4 := blkLt HX4.out
  have htne : w4.heap.size ≠ K.mb := by have := hM4.size; omega
  generalize w4.alloc (.cells #[ptrV fb] 53) = w5 at *
  have t5 := cellAt T5 (i := 0) rfl
  have x5 := cellAt X5 (i := 0) rfl
  refine wp_region_held_drew (S := fun w' => w'.cell? ⟨w.heap.size, 0, none⟩ = some (ptrV K.mb) ∧ w'.cell? ⟨w4.heap.size, 0, none⟩ = some (ptrV fb)) rfl ⟨x5, t5⟩ (fun hS => ?_)
  refine wpAnyH_take (i := 0) (v := ?_) rfl (by kernel_rfl) (by kernel_rfl) (by kernel_rfl) (fun _ _ _ h => leaves_tmps rfl _ _ _ _ _ h) (Or.inl ⟨by rfl, ?_⟩) hS ?_
  rotate_left
  · intro w' hSw; (try dsimp only at hSw); go_simp; try with_reducible rfl
  (try simp only [List.getElem_toArray, List.getElem_cons_succ, List.getElem_cons_zero, Act.put, List.setIfInBounds_toArray, List.set_cons_zero, List.set_cons_succ])
  refine wpAnyH_take (i := 1) (v := ?_) rfl (by kernel_rfl) (by kernel_rfl) (by kernel_rfl) (fun _ _ _ h => leaves_tmps rfl _ _ _ _ _ h) (Or.inl ⟨by rfl, ?_⟩) hS ?_
  rotate_left
  · intro w' hSw; (try dsimp only at hSw); go_simp; try with_reducible rfl
  (try simp only [List.getElem_toArray, List.getElem_cons_succ, List.getElem_cons_zero, Act.put, List.setIfInBounds_toArray, List.set_cons_zero, List.set_cons_succ])
  refine wpAnyH_take (i := 2) (v := ?_) rfl (by kernel_rfl) (by kernel_rfl) (by kernel_rfl) (fun _ _ _ h => leaves_tmps rfl _ _ _ _ _ h) (Or.inl ⟨by rfl, ?_⟩) hS ?_
  rotate_left
  · intro w' hSw; (try dsimp only at hSw); go_simp; try with_reducible rfl
  (try simp only [List.getElem_toArray, List.getElem_cons_succ, List.getElem_cons_zero, Act.put, List.setIfInBounds_toArray, List.set_cons_zero, List.set_cons_succ])
  refine wpAnyH_ready (rs := [3]) (by kernel_rfl) (by simp) ?_
  refine AllReadyH.cons rfl (fun K' hK => ?_) AllReadyH.nil
  simp only [List.getElem_toArray, List.getElem_cons_succ, List.getElem_cons_zero]
  go_simp
  refine (HKS.out _ hM5.drew).mono ?_
  rintro e w6 ⟨rfl, hg6⟩
  have T6 := hg6.blk (blk_drew T5)
  have X6 := hg6.blk (blk_drew X5)
  have hM6 := hM5.drew.trans (.of_gr hg6)
  have hA6 := (hA5.gr (Gr.refl w5).drew).gr hg6
  refine hK.out _ _ ⟨cellAt X6 rfl, cellAt T6 rfl⟩ (fun hS => ?_)
  (try simp only [Act.put, List.setIfInBounds_toArray, List.set_cons_zero, List.set_cons_succ])
  refine wpAnyH_take (i := 4) (v := ?_) rfl (by kernel_rfl) (by kernel_rfl) (by kernel_rfl) (fun _ _ _ h => leaves_tmps rfl _ _ _ _ _ h) (Or.inl ⟨by rfl, ?_⟩) hS ?_
  rotate_left
  · intro w' hSw; (try dsimp only at hSw); go_simp; try with_reducible rfl
  (try simp only [List.getElem_toArray, List.getElem_cons_succ, List.getElem_cons_zero, Act.put, List.setIfInBounds_toArray, List.set_cons_zero, List.set_cons_succ])
  refine wpAnyH_ready (rs := [5]) (by kernel_rfl) (by simp) ?_
  refine AllReadyH.cons rfl (fun K' hK => ?_) AllReadyH.nil
  simp only [List.getElem_toArray, List.getElem_cons_succ, List.getElem_cons_zero]
  go_simp
  refine (HKD.out _ hM6).mono ?_
  rintro e w7 ⟨b7, rfl, ht7, hg7⟩
  have T7 := hg7.blk T6
  have X7 := hg7.blk X6
  have hM7 := hM6.trans (.of_gr hg7)
  have hA7 := hA6.gr hg7
  have ht8 := ht7.gr hg7
  refine hK.out _ _ ⟨cellAt X7 rfl, cellAt T7 rfl⟩ (fun hS => ?_)
  (try simp only [Act.put, List.setIfInBounds_toArray, List.set_cons_zero, List.set_cons_succ])
  refine wpAnyH_ready (rs := [6]) (by kernel_rfl) (by simp) ?_
  refine AllReadyH.cons rfl (fun K' hK => ?_) AllReadyH.nil
  simp only [List.getElem_toArray, List.getElem_cons_succ, List.getElem_cons_zero]
  go_simp
  cases R with
  | bad => exact absurd rfl HBD.out
  | stop en fa mz =>
    refine (HIN.out _ _ hA7 ht8).mono ?_
    rintro e w8 ⟨hm8, rfl, hA8⟩
    rw [hmbK] at hm8
    have X8 := hm8.blk X7 hbx
    have hM8 := hM7.trans hm8
    obtain ⟨A8, c8, oA8, oc8, hb8, _, ho8, hn8, _⟩ := hA8
    rw [hmbK] at hb8 ho8
    refine leaves_cons (f := 36) (args := #[.pointer (some ⟨w.heap.size, 0, none⟩)]) (by simp) (by simp [go_sem]) ?_
    refine (wrun1_panic w.heap.size K.mb en fa [] w8 X8 hbx _ _ (cellAt' hb8 rfl) (cellAt' hb8 rfl) (frozenAt hb8)).mono ?_
    rintro e u' w'' ⟨rfl, rfl, rfl⟩
    refine ⟨.tuple #[], by simp [results, Tryz.results28], rfl, ((hM8.own _ _).own _ _).drew, ?_⟩
    have e4 := HK4.out
    subst e4
    exact ⟨A8, c8, oA8, oc8, _, blk_drew (blk_setCell_to (blk_setCell_to hb8 rfl) rfl), ((ho8.frame fun k hk _ => frame_own (Nat.ne_of_gt hk)).frame fun k hk _ => frame_own (Nat.ne_of_gt hk)).gr (Gr.refl _).drew, hn8.2⟩
  | ok u mz =>
    refine (HIN.out _ _ hA7 ht8).mono ?_
    rintro e w8 ⟨hm8, rfl, hA8⟩
    rw [hmbK] at hm8
    have X8 := hm8.blk X7 hbx
    have T8 := hm8.blk T7 htne
    have hM8 := hM7.trans hm8
    obtain ⟨A8, c8, oA8, oc8, hb8, _, ho8, hn8, _⟩ := hA8
    rw [hmbK] at hb8 ho8
    refine hK.out _ _ ⟨cellAt X8 rfl, cellAt T8 rfl⟩ (fun hS => ?_)
    (try simp only [Act.put, List.setIfInBounds_toArray, List.set_cons_zero, List.set_cons_succ])
    refine wpAnyH_done (by kernel_rfl) ?_ _
    have x8 := cellAt X8 (i := 0) rfl
    have c9 : w8.cell? ⟨K.mb, 9, none⟩ = some (iV 0) := cellAt' hb8 rfl
    have f8 := frozenAt hb8
    have hl8 := blkLt hb8
    go_wp2_with fail
    refine leaves_cons (f := 36) (args := #[.pointer (some ⟨w.heap.size, 0, none⟩)]) (by simp) (by simp [go_sem]) ?_
    refine (wrun1_idle _ _).mono ?_
    rintro e u' w'' ⟨rfl, rfl, rfl⟩
    refine ⟨.tuple #[], by simp [results, Tryz.results28], rfl, hM8.own _ _, ?_⟩
    have e4 := HK4.out
    subst e4
    exact ⟨A8, c8, oA8, oc8, _, blk_setCell_to hb8 rfl, ho8.frame fun k hk _ => frame_own (Nat.ne_of_gt hk), hn8.2⟩
end Go.Proofs.YthniejnbkkkbnaaGreatDoor

namespace Go.Proofs.YthniejnbkkkbnaaGreatDoor
open Go.RowKit
set_option maxRecDepth 100000
set_option maxHeartbeats 40000000

/-- What Run answers: the state at the end, End, Fault, the error. -/
structure RunR where
  m : MS
  en : Int
  fa : Int
  er : Int
def noRun (er : Int) : RunR := ⟨⟨[], 0, [], 0⟩, 0, 0, er⟩
def RunRes (w : World) (r : RunR) (e : Ending) (w' : World) : Prop := Gr w w' ∧ ∃ oA oc, e = .returned (.tuple #[.agg #[.slice oA r.m.out.length oc, iV r.en, iV r.fa, iV r.m.steps, iV 0], iV r.er]) ∧ RowR w' (fun k => w.heap.size ≤ k) oA (r.m.out.map iV) ∧ r.m.out.length ≤ oc

theorem Run_err (s : ByteArray) (t : T) (a er : Int) (hs : sourceM s.data.toList = some (t, .err a er)) (her : er ≠ 0) (A : Option Addr) (n c : Nat) (fuel : Int) (w : World) (hG : Glob w) :
    Calls Tryz.prog 15 #[.string s, .slice A n c, .int .i64 fuel] w (RunRes w (noRun er)) := by
  have HS := Lib.hid (fun w' (hg : Gr w w') => Source_any s t _ hs (fun a' er' h => by injection h with _ h; rw [← h]; exact her) w' (hG.gr hg))
  have hbe : (er != 0) = true := by simpa using her
  clear hs hG
  go_enter Tryz.func15, Tryz.ntmps15
  go_wp2_with fail
  have R0 := blk_alloc w (.cells #[.slice none 0 0, iV 0, iV 0, iV 0, iV 0] 25)
  refine (HS.out _ (Gr.al _ _)).mono ?_
  rintro e w1 ⟨hg1, hres⟩
  obtain rfl := hres her
  have R1 := hg1.blk R0
  have hG1 : Gr w w1 := (Gr.al _ _).trans hg1
  unfold nilS
  go_upto_region 2 with fail
  have R2 := blk_alloc_lt (o' := .cells #[.slice none 0 0, .slice none 0 0, .slice none 0 0] 56) (blk_alloc_lt (o' := .cells #[.pointer none] 53) R1)
  have hG2 : Gr w ((w1.alloc (.cells #[.pointer none] 53)).alloc (.cells #[.slice none 0 0, .slice none 0 0, .slice none 0 0] 56)) := (hG1.alloc _).alloc _
  generalize (w1.alloc (.cells #[.pointer none] 53)).alloc (.cells #[.slice none 0 0, .slice none 0 0, .slice none 0 0] 56) = w2 at *
  have r0 := cellAt R2 (i := 0) rfl
  have r1 := cellAt R2 (i := 1) rfl
  have r2 := cellAt R2 (i := 2) rfl
  have r3 := cellAt R2 (i := 3) rfl
  have r4 := cellAt R2 (i := 4) rfl
  have fr := frozenAt R2
  have hl := blkLt R2
  clear hg1 R0 R1 hG1
  go_wp2_with fail
  have RZ : (((((w2.setCell ⟨w.heap.size, 0, none⟩ (.slice none 0 0)).setCell ⟨w.heap.size, 1, none⟩ (iV 0)).setCell ⟨w.heap.size, 2, none⟩ (iV 0)).setCell ⟨w.heap.size, 3, none⟩ (iV 0)).setCell ⟨w.heap.size, 4, none⟩ (iV 0)).heap[w.heap.size]? = some (.cells #[.slice none 0 0, iV 0, iV 0, iV 0, iV 0] 25 (0, 0)) := blk_setCell_to (blk_setCell_to (blk_setCell_to (blk_setCell_to (blk_setCell_to R2 rfl) rfl) rfl) rfl) rfl
  have hGZ := ((((hG2.setCell (p := ⟨w.heap.size, 0, none⟩) (Nat.le_refl _) (.slice none 0 0)).setCell (p := ⟨w.heap.size, 1, none⟩) (Nat.le_refl _) (iV 0)).setCell (p := ⟨w.heap.size, 2, none⟩) (Nat.le_refl _) (iV 0)).setCell (p := ⟨w.heap.size, 3, none⟩) (Nat.le_refl _) (iV 0)).setCell (p := ⟨w.heap.size, 4, none⟩) (Nat.le_refl _) (iV 0)
  generalize ((((w2.setCell ⟨w.heap.size, 0, none⟩ (.slice none 0 0)).setCell ⟨w.heap.size, 1, none⟩ (iV 0)).setCell ⟨w.heap.size, 2, none⟩ (iV 0)).setCell ⟨w.heap.size, 3, none⟩ (iV 0)).setCell ⟨w.heap.size, 4, none⟩ (iV 0) = wz at *
  have z0 := cellAt RZ (i := 0) rfl
  have z1 := cellAt RZ (i := 1) rfl
  have z2 := cellAt RZ (i := 2) rfl
  have z3 := cellAt RZ (i := 3) rfl
  have z4 := cellAt RZ (i := 4) rfl
  refine bodyPost_ret (v := .tuple #[.agg #[.slice none 0 0, iV 0, iV 0, iV 0, iV 0], iV er]) (by simp [results, Tryz.results15, go_sem, z0, z1, z2, z3, z4]) rfl ⟨hGZ, none, 0, rfl, .inl rfl, Nat.le_refl _⟩

theorem Run_arg (s : ByteArray) (t : T) (u : Unit) (hs : sourceM s.data.toList = some (t, .ok u)) (A : Option Addr) (n c : Nat) (fuel : Int) (hf : fuel < 0) (w : World) (hG : Glob w) :
    Calls Tryz.prog 15 #[.string s, .slice A n c, .int .i64 fuel] w (RunRes w (noRun 9)) := by
  have HS := Lib.hid (fun w' (hg : Gr w w') => Source_any s t _ hs (fun a' er' h => by cases h) w' (hG.gr hg))
  clear hs hG
  go_enter Tryz.func15, Tryz.ntmps15
  go_wp2_with fail
  have R0 := blk_alloc w (.cells #[.slice none 0 0, iV 0, iV 0, iV 0, iV 0] 25)
  refine (HS.out _ (Gr.al _ _)).mono ?_
  rintro e w1 ⟨hg1, b, fv, rfl, _, hsg⟩
  have R1 := hg1.blk R0
  have hG1 : Gr w w1 := (Gr.al _ _).trans hg1
  obtain ⟨fA, nf, fc, hfv⟩ : ∃ A n c, fv = .slice A n c := by
    obtain ⟨_, _, ⟨A, c, hv, _⟩, _⟩ := hsg
    exact ⟨A, _, c, hv⟩
  subst hfv
  clear hsg
  unfold nilS
  go_upto_region 2 with fail
  have R2 := blk_alloc_lt (o' := .cells #[.slice none 0 0, .slice none 0 0, .slice fA nf fc] 56) (blk_alloc_lt (o' := .cells #[ptrV b] 53) R1)
  have hG2 : Gr w ((w1.alloc (.cells #[ptrV b] 53)).alloc (.cells #[.slice none 0 0, .slice none 0 0, .slice fA nf fc] 56)) := (hG1.alloc _).alloc _
  generalize (w1.alloc (.cells #[ptrV b] 53)).alloc (.cells #[.slice none 0 0, .slice none 0 0, .slice fA nf fc] 56) = w2 at *
  have r0 := cellAt R2 (i := 0) rfl
  have r1 := cellAt R2 (i := 1) rfl
  have r2 := cellAt R2 (i := 2) rfl
  have r3 := cellAt R2 (i := 3) rfl
  have r4 := cellAt R2 (i := 4) rfl
  have fr := frozenAt R2
  have hl := blkLt R2
  clear hg1 R0 R1 hG1
  go_wp2_with fail
  have RZ : (((((w2.setCell ⟨w.heap.size, 0, none⟩ (.slice none 0 0)).setCell ⟨w.heap.size, 1, none⟩ (iV 0)).setCell ⟨w.heap.size, 2, none⟩ (iV 0)).setCell ⟨w.heap.size, 3, none⟩ (iV 0)).setCell ⟨w.heap.size, 4, none⟩ (iV 0)).heap[w.heap.size]? = some (.cells #[.slice none 0 0, iV 0, iV 0, iV 0, iV 0] 25 (0, 0)) := blk_setCell_to (blk_setCell_to (blk_setCell_to (blk_setCell_to (blk_setCell_to R2 rfl) rfl) rfl) rfl) rfl
  have hGZ := ((((hG2.setCell (p := ⟨w.heap.size, 0, none⟩) (Nat.le_refl _) (.slice none 0 0)).setCell (p := ⟨w.heap.size, 1, none⟩) (Nat.le_refl _) (iV 0)).setCell (p := ⟨w.heap.size, 2, none⟩) (Nat.le_refl _) (iV 0)).setCell (p := ⟨w.heap.size, 3, none⟩) (Nat.le_refl _) (iV 0)).setCell (p := ⟨w.heap.size, 4, none⟩) (Nat.le_refl _) (iV 0)
  generalize ((((w2.setCell ⟨w.heap.size, 0, none⟩ (.slice none 0 0)).setCell ⟨w.heap.size, 1, none⟩ (iV 0)).setCell ⟨w.heap.size, 2, none⟩ (iV 0)).setCell ⟨w.heap.size, 3, none⟩ (iV 0)).setCell ⟨w.heap.size, 4, none⟩ (iV 0) = wz at *
  have z0 := cellAt RZ (i := 0) rfl
  have z1 := cellAt RZ (i := 1) rfl
  have z2 := cellAt RZ (i := 2) rfl
  have z3 := cellAt RZ (i := 3) rfl
  have z4 := cellAt RZ (i := 4) rfl
  refine bodyPost_ret (v := .tuple #[.agg #[.slice none 0 0, iV 0, iV 0, iV 0, iV 0], iV 9]) (by simp [results, Tryz.results15, go_sem, z0, z1, z2, z3, z4]) rfl ⟨hGZ, none, 0, rfl, .inl rfl, Nat.le_refl _⟩
end Go.Proofs.YthniejnbkkkbnaaGreatDoor
