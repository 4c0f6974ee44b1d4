/- WalkRows: the contract in the row's form; what the card asks of the parameters. -/
import Derived.Test.YthniejnbkkkbnaaGreatDoorRows
import Derived.Test.YthniejnbkkkbnaaGreatDoorTie
import Derived.Test.YthniejnbkkkbnaaGreatDoorCards
import Derived.Test.YthniejnbkkkbnaaGreatDoorM49
import Derived.ProofKit
import Derived.OpenShut
import Derived.Carry
import Derived.LaidMore
import Derived.Lay
import Derived.SevenTiedAt
import Derived.Stop.Joined
set_option linter.all false
set_option linter.unusedSimpArgs false
set_option linter.unusedVariables false
namespace Go.Proofs.YthniejnbkkkbnaaGreatDoor
open Go.ChangeShapes Go.WideShapes Go.ChangeAt Go.RowKit
set_option maxRecDepth 100000
set_option maxHeartbeats 4000000

theorem rowR_of_cells {w : World} {A : Addr} {zs : List Int} (h : ∀ i, i < zs.length → w.cell? (A.add i) = some (iV (zs.getD i 0))) : RowR w (fun _ => True) (some A) (zs.map iV) := by
  cases zs with
  | nil => exact .inl rfl
  | cons z zs =>
    obtain ⟨b, off, spot⟩ := A
    have h0 := h 0 (by simp)
    have hs : spot = none := by simpa [Addr.add] using World.cell?_spot h0
    subst hs
    have hb : ∃ arr t fr, w.heap[b]? = some (.cells arr t fr) := by
      unfold World.cell? at h0
      simp only [Addr.add, if_true] at h0
      cases hh : w.heap[b]? with
      | none => rw [hh] at h0; cases h0
      | some o =>
        cases o with
        | cells c t fr => exact ⟨c, t, fr, rfl⟩
        | _ => rw [hh] at h0; cases h0
    obtain ⟨arr, t, fr, hb⟩ := hb
    refine .inr ⟨b, off, arr, t, fr, trivial, rfl, hb, fun i v hv => ?_⟩
    have hi : i < (z :: zs).length := by
      have := (List.getElem?_eq_some_iff.1 hv).1
      simpa using this
    have hc := h i hi
    have ha : (⟨b, off, none⟩ : Addr).add i = ⟨b, off + i, none⟩ := by unfold Addr.add; split <;> simp_all
    rw [ha] at hc
    unfold World.cell? at hc
    rw [hb] at hc
    simp only [Option.isSome_none, Bool.false_eq_true, if_false] at hc
    rw [hc]
    rw [List.getElem?_map, List.getElem?_eq_getElem hi] at hv
    simp only [Option.map_some, Option.some.injEq] at hv
    rw [← hv]
    simp [List.getD, List.getElem?_eq_getElem hi]

theorem open_result {H : Type} {enc : TypeId × Value → H} {W : World} {base : Nat} {v : Value} {d : DataW H} {p : List MemPlace} (hv : Value.okWide Tryz.prog W .any base 25 v) (h : DataW.Trod enc Tryz.prog W 0 (fun _ => true) true 25 v d p) :
    ∃ (A : Option Addr) (a : List Int) (c : Nat) (en fa st mk : Int), v = .agg #[.slice A a.length c, iV en, iV fa, iV st, iV mk] ∧ RowR W (fun _ => True) A (a.map iV) ∧ a.length ≤ c := by
  obtain ⟨cs, rfl, hsz⟩ := okWide_struct Tryz.underlying25 hv
  have c26 : Tryz.prog.cellsOf 25 = 5 := by kernel_rfl
  have c22 : Tryz.prog.cellsOf 22 = 1 := by kernel_rfl
  have c3 : Tryz.prog.cellsOf 3 = 1 := by kernel_rfl
  have c24 : Tryz.prog.cellsOf 23 = 1 := by kernel_rfl
  rw [c26] at hsz
  obtain ⟨l⟩ := cs
  match l, hsz with
  | [x0, x1, x2, x3, x4], _ =>
  obtain ⟨fuel, hd⟩ := h
  obtain ⟨xs, n, rfl, hx, hl, hxl, hf⟩ := DataW.trod_struct Tryz.underlying25 hd
  match xs, hxl with
  | [y0, y1, y2, y3, y4], _ =>
  have h0 := hf 0 _ rfl
  have h1 := hf 1 _ rfl
  have h2 := hf 2 _ rfl
  have h3 := hf 3 _ rfl
  have h4 := hf 4 _ rfl
  have h0' : DataW.trod enc Tryz.prog W 0 (fun _ => true) true n 22 (([x0, x1, x2, x3, x4].drop 0).take (Tryz.prog.cellsOf 22)) = some y0 := h0
  rw [c22] at h0'
  replace h0' : DataW.trod enc Tryz.prog W 0 (fun _ => true) true n 22 [x0] = some y0 := h0'
  have h1' : DataW.trod enc Tryz.prog W 0 (fun _ => true) true n 3 (([x0, x1, x2, x3, x4].drop 1).take (Tryz.prog.cellsOf 3)) = some y1 := h1
  rw [c3] at h1'
  replace h1' : DataW.trod enc Tryz.prog W 0 (fun _ => true) true n 3 [x1] = some y1 := h1'
  have h2' : DataW.trod enc Tryz.prog W 0 (fun _ => true) true n 23 (([x0, x1, x2, x3, x4].drop 2).take (Tryz.prog.cellsOf 23)) = some y2 := h2
  rw [c24] at h2'
  replace h2' : DataW.trod enc Tryz.prog W 0 (fun _ => true) true n 23 [x2] = some y2 := h2'
  have h3' : DataW.trod enc Tryz.prog W 0 (fun _ => true) true n 3 (([x0, x1, x2, x3, x4].drop 3).take (Tryz.prog.cellsOf 3)) = some y3 := h3
  rw [c3] at h3'
  replace h3' : DataW.trod enc Tryz.prog W 0 (fun _ => true) true n 3 [x3] = some y3 := h3'
  have h4' : DataW.trod enc Tryz.prog W 0 (fun _ => true) true n 3 (([x0, x1, x2, x3, x4].drop 4).take (Tryz.prog.cellsOf 3)) = some y4 := h4
  rw [c3] at h4'
  replace h4' : DataW.trod enc Tryz.prog W 0 (fun _ => true) true n 3 [x4] = some y4 := h4'
  obtain ⟨m1, e1, _, _⟩ := DataW.trod_int Tryz.underlying3 h1'
  obtain ⟨m2, e2, _, _⟩ := DataW.trod_int Tryz.underlying23 h2'
  obtain ⟨m3, e3, _, _⟩ := DataW.trod_int Tryz.underlying3 h3'
  obtain ⟨m4, e4, _, _⟩ := DataW.trod_int Tryz.underlying3 h4'
  injection e1 with e1
  injection e2 with e2
  injection e3 with e3
  injection e4 with e4
  subst e1 e2 e3 e4
  rcases open_ints Tryz.underlying22 Tryz.underlying3 c3 h0' with ⟨hc, _⟩ | ⟨a, len, cap, zs, hc, _, hlc, _, hzl, _, hcells, _⟩
  · injection hc with hc
    subst hc
    exact ⟨none, [], 0, m1, m2, m3, m4, rfl, .inl rfl, Nat.le_refl _⟩
  · injection hc with hc
    subst hc
    simp only [if_true] at hzl
    have hlen : (zs.take len).length = len := by simp; omega
    refine ⟨some a, zs.take len, cap, m1, m2, m3, m4, by rw [hlen], rowR_of_cells fun i hi => ?_, by omega⟩
    rw [hlen] at hi
    rw [hcells i (by omega)]
    simp [List.getD, List.getElem?_take, hi]

theorem iface_cells {H : Type} {enc : TypeId × Value → H} {P : Program} {w : World} {base : Nat} {spare : Nat → Bool} {held : Bool} {fuel : Nat} {t : TypeId} {cs : List Value} {ms : Array (String × TypeId)} {n : String} {d : DataW H} {ps : List MemPlace}
    (ht : P.underlying t = some (.interface ms)) (h : DataW.trod enc P w base spare held fuel t cs = some (.iface n d, ps)) : ∃ u v, cs = [.iface u v] := by
  cases fuel with
  | zero => simp [DataW.trod] at h
  | succ m =>
    unfold DataW.trod at h
    rw [ht] at h
    split at h <;> simp_all
theorem laidOut : laidOutB Tryz.prog = true := by kernel_rfl
theorem own : ownKnob Tryz.prog.godebug = none := by kernel_rfl

/-- What the condition on the listed variables gives: strconv.ErrRange holds an interface value. -/
theorem glob_of_laid {W : World} (h : laidMetH Tryz.prog Rows.walkRowsRow.laid W) : Glob W := by
  rw [MakeChecks.laidMetH_plain _ _ _ (by kernel_rfl)] at h
  obtain ⟨ps, ⟨g0, t0, cs0, f0, p0, q0, hg0, ht0, hv0, hd0, ⟨g1, t1, cs1, f1, p1, q1, hg1, ht1, hv1, hd1, ⟨g2, t2, cs2, f2, p2, q2, hg2, ht2, hv2, hd2, ⟨g3, t3, cs3, f3, p3, q3, hg3, ht3, hv3, hd3, ⟨g4, t4, cs4, f4, p4, q4, hg4, ht4, hv4, hd4, _⟩, _⟩, _⟩, _⟩, _⟩, _⟩ := h
  obtain rfl := Option.some.inj ((show Tryz.prog.globalNamed "strconv.ErrRange" = some 1 by kernel_rfl).symm.trans hg4)
  obtain rfl := Option.some.inj ((show (Tryz.prog.globals[1]?).map (·.type) = some 249 by kernel_rfl).symm.trans ht4)
  obtain ⟨u, v, hcs⟩ := iface_cells Tryz.underlying249 hd4
  have hb : ∃ tt fr, W.heap[1]? = some (.cells cs4 tt fr) := by
    unfold World.var? at hv4
    rw [hg4] at hv4
    simp only [Option.bind_some] at hv4
    cases hh : W.heap[1]? with
    | none => rw [hh] at hv4; cases hv4
    | some o =>
      rw [hh] at hv4
      cases o with
      | cells c tt fr => injection hv4 with hv4; subst hv4; exact ⟨tt, fr, rfl⟩
      | _ => cases hv4
  obtain ⟨tt, fr, hb⟩ := hb
  have e : cs4 = #[.iface u v] := by cases cs4; simp_all
  exact ⟨tt, fr, u, v, by rw [hb, e]⟩

/-- For every two results, in every world that holds the listed variables. -/
theorem rows_contract (H : Type) (enc : TypeId × Value → H) (W : World) (base : Nat) (args : Array Value) (ds gs : List (DataW H)) (before : List MemPlace)
    (hval : ∀ (j : Nat) t v, Tryz.f3.params[j]? = some t → args[j]? = some v → Value.okWide Tryz.prog W .any base t v)
    (hW : DataW.Whole enc Tryz.prog Tryz.f3.params.toList Rows.walkRowsSpec.vars false W args.toList ds gs before) (hL : laidMetH Tryz.prog Rows.walkRowsRow.laid W) :
    Calls Tryz.prog 3 args W fun e W' => ∃ v, e = .returned v ∧ Rows.walkRowsSpec.post enc Tryz.prog Tryz.f3 false true false false W args v W' := by
  have hW' := hW
  obtain ⟨p, q, hA0, hV, rfl, hfz, hnd⟩ := hW
  have hA : DataW.TrodAll enc Tryz.prog W 0 (fun _ => true) true Tryz.f3.params.toList args.toList ds p := hA0
  rw [Tryz.params3] at hA hval
  obtain ⟨v0, v1, d0, d1, p0, p1, rfl, rfl, rfl, h0, h1⟩ := trodAll_two hA
  obtain ⟨rfl, rfl⟩ := trodVars_none hV
  have hlt : ∀ x ∈ (p0 ++ p1) ++ [], x.block < W.heap.size := fun x hx => by simpa using hW'.lt x hx
  obtain ⟨A, a, ca, en, fa, st, mk, rfl, hra, _⟩ := open_result (hval 0 25 v0 rfl rfl) h0
  obtain ⟨B, b, cb, en', fa', st', mk', rfl, hrb, hcb⟩ := open_result (hval 1 25 v1 rfl rfl) h1
  refine (WalkRows_any A B a b ca cb _ _ en fa st mk en' fa' st' mk' W hra hrb hcb (glob_of_laid hL)).mono fun e W' ⟨he, hg⟩ => ?_
  subst he
  refine ⟨_, rfl, [d0, d1], [], _, [], p0 ++ p1, [], hW', trodAll_mk1 (shut_bool Tryz.underlying4 _), ?_, rfl, Below.frame hg _, fun h => by cases h⟩
  exact trodAll_mk2 (Below.trod laidOut (by kernel_rfl) (of_decide_eq_true (by kernel_rfl)) h0 hg fun x hx => hlt x (by simp [hx]))
    (Below.trod laidOut (by kernel_rfl) (of_decide_eq_true (by kernel_rfl)) h1 hg fun x hx => hlt x (by simp [hx]))

def zeroRes : Value := .agg #[.slice none 0 0, .int .i64 0, .int .i64 0, .int .i64 0, .int .i64 0]
theorem lifted (os : Os) (started : os.Started) (H : Type) (enc : TypeId × Value → H) :
    ReturnsInHanded {} Tryz.checked os 3 .any (fun w args => (Rows.walkRowsSpec.pre enc Tryz.prog Tryz.f3 Rows.walkRowsRow.domain false w args ∧ laidMetH Tryz.prog Rows.walkRowsRow.laid w) ∧ sizedMet enc Tryz.prog Tryz.f3 (OpenSpec.ofChange Rows.walkRowsSpec) false w args)
      (Rows.walkRowsSpec.post enc Tryz.prog Tryz.f3 false true false false) := by
  refine returnsInHanded_of_change_and (C := Tryz.checked) (X := fun w _ => laidMetH Tryz.prog Rows.walkRowsRow.laid w) (fun _ _ _ hh h => h.of_heap hh) own started (by kernel_rfl) Tryz.func3
    (ChangeSpec.witness_shaped (enc := enc) (C := Tryz.checked) (os := os) (X := fun w _ => laidMetH Tryz.prog Rows.walkRowsRow.laid w) false (World.laidAll Tryz.prog os Rows.walkRowsRow.laid) #[zeroRes, zeroRes] 8 (World.laidAll_os _ _ _)
      (World.shaped_of_ZipB (by kernel_rfl) (by kernel_rfl)) (by kernel_rfl) (by kernel_rfl) (by kernel_rfl)
      (by rw [MakeChecks.laidMetH_plain _ _ _ (by kernel_rfl)]; exact laidMet_laidAll _ (by kernel_rfl) (by kernel_rfl))) ?_
  intro W base args ds gs before hval hW _ _ hL _
  exact rows_contract H enc W base args ds gs before hval hW hL
/-- No parameter wants a stand-in; the program's own looks are off: what the card asks. -/
theorem plain_rows (f : FuncId) (fn : Func) (hf : Tryz.pinned.checked.prog.funcNamed "truant/truantlaw07.WalkRows" = some f) (hfn : Tryz.pinned.checked.prog.funcs[f]? = some fn) :
    true = Tryz.pinned.checked.prog.looks [] ∧ ∀ (j : Nat) t, fn.params[j]? = some t → Tryz.pinned.checked.prog.wantsStandIn t = false := by
  obtain rfl : f = 3 := Option.some.inj ((show Tryz.prog.funcNamed "truant/truantlaw07.WalkRows" = some 3 by kernel_rfl).symm.trans hf) |>.symm
  obtain rfl : fn = Tryz.f3 := (Option.some.inj (Tryz.func3.symm.trans hfn)).symm
  refine ⟨by kernel_rfl, fun j t ht => ?_⟩
  rw [Tryz.params3] at ht
  have hm : t ∈ [25, 25] := by simpa using Array.mem_of_getElem? ht
  have hall : ([25, 25].all fun u => !Tryz.prog.wantsStandIn u) = true := by kernel_rfl
  exact (show Tryz.prog.wantsStandIn t = false by simpa using List.all_eq_true.1 hall t hm)
end Go.Proofs.YthniejnbkkkbnaaGreatDoor
