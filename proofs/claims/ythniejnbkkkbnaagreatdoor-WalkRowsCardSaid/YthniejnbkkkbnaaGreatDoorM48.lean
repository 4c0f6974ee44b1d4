/- Walks of the law's own functions: awake. -/
import Derived.Test.YthniejnbkkkbnaaGreatDoorM47
import Derived.Test.YthniejnbkkkbnaaGreatDoorM44
import Derived.Test.YthniejnbkkkbnaaGreatDoorM10
set_option linter.all false
set_option linter.unusedSimpArgs false
set_option linter.unusedVariables false
namespace Go.Proofs.YthniejnbkkkbnaaGreatDoor
open Go.RowKit
set_option maxRecDepth 100000
set_option maxHeartbeats 40000000

theorem run1 (w : World) (hG : Glob w) : Calls Tryz.prog 15 #[.string txt1, .slice none 0 0, .int .i64 2] w (RunRes w ⟨⟨[], 0, [1], 2⟩, 1, 0, 0⟩) :=
  Run_ok txt1 _ _ body1 () src1 rfl rfl (by decide) none 0 [] (fun _ => True) (by simp) (by simp) 2 (by omega) w (.inl rfl) hG 50 _ in1 _ rfl
theorem run2 (w : World) (hG : Glob w) : Calls Tryz.prog 15 #[.string txt1, .slice none 0 0, .int .i64 1] w (RunRes w ⟨⟨[], 0, [], 1⟩, 3, 0, 0⟩) :=
  Run_ok txt1 _ _ body1 () src1 rfl rfl (by decide) none 0 [] (fun _ => True) (by simp) (by simp) 1 (by omega) w (.inl rfl) hG 50 _ in2 _ rfl
theorem run3 (b : Nat) (w : World) (hG : Glob w) (hb : w.heap[b]? = some (.cells #[.int .i64 6] 3 (0, 0))) : Calls Tryz.prog 15 #[.string txt2, .slice (some ⟨b, 0, none⟩) 1 1, .int .i64 9] w (RunRes w ⟨⟨[], 5, [], 4⟩, 2, 11, 0⟩) :=
  Run_ok txt2 _ _ body2 () src2 rfl rfl (by decide) (some ⟨b, 0, none⟩) 1 [6] (fun _ => True) (by simp) (by simp) 9 (by omega) w (row_of (cs := [iV 6]) hb trivial) hG 50 _ in3 _ rfl
theorem run4 (w : World) (hG : Glob w) : Calls Tryz.prog 15 #[.string ⟨#[]⟩, .slice none 0 0, .int .i64 9] w (RunRes w (noRun 8)) :=
  Run_err _ _ 0 8 src0 (by decide) none 0 0 9 w hG
theorem run5 (w : World) (hG : Glob w) : Calls Tryz.prog 15 #[.string txt3, .slice none 0 0, .int .i64 (-1)] w (RunRes w (noRun 9)) :=
  Run_arg _ _ () src3 none 0 0 (-1) (by decide) w hG

def ResV (n : Nat) (en fa st er : Int) (out : List Value) (w : World) (e : Ending) (w' : World) : Prop := Gr w w' ∧ ∃ A c, e = .returned (.tuple #[.agg #[.slice A n c, .int .i64 en, .int .i64 fa, .int .i64 st, .int .i64 0], .int .i64 er]) ∧ RowR w' (fun k => w.heap.size ≤ k) A out ∧ n ≤ c
theorem res1 (w : World) (hG : Glob w) : Calls Tryz.prog 15 #[.string ⟨#[102, 117, 110, 99, 32, 109, 97, 105, 110, 40, 41, 32, 123, 32, 112, 114, 105, 110, 116, 40, 49, 41, 59, 32, 125]⟩, .slice none 0 0, .int .i64 2] w (ResV 1 1 0 2 0 [iV 1] w) := run1 w hG
theorem res2 (w : World) (hG : Glob w) : Calls Tryz.prog 15 #[.string ⟨#[102, 117, 110, 99, 32, 109, 97, 105, 110, 40, 41, 32, 123, 32, 112, 114, 105, 110, 116, 40, 49, 41, 59, 32, 125]⟩, .slice none 0 0, .int .i64 1] w (ResV 0 3 0 1 0 [] w) := run2 w hG
theorem res3 (b : Nat) (w : World) (hG : Glob w) (hb : w.heap[b]? = some (.cells #[.int .i64 6] 3 (0, 0))) : Calls Tryz.prog 15 #[.string ⟨#[102, 117, 110, 99, 32, 109, 97, 105, 110, 40, 41, 32, 123, 32, 112, 114, 105, 110, 116, 40, 114, 101, 97, 100, 40, 41, 32, 47, 32, 114, 101, 97, 100, 40, 41, 41, 59, 32, 125]⟩, .slice (some ⟨b, 0, none⟩) 1 1, .int .i64 9] w (ResV 0 2 11 4 0 [] w) := run3 b w hG hb
theorem res4 (w : World) (hG : Glob w) : Calls Tryz.prog 15 #[.string ⟨#[]⟩, .slice none 0 0, .int .i64 9] w (ResV 0 0 0 0 8 [] w) := run4 w hG
theorem res5 (w : World) (hG : Glob w) : Calls Tryz.prog 15 #[.string ⟨#[102, 117, 110, 99, 32, 109, 97, 105, 110, 40, 41, 32, 123, 32, 125]⟩, .slice none 0 0, .int .i64 (-1)] w (ResV 0 0 0 0 9 [] w) := run5 w hG

theorem awake_any (w : World) (hG : Glob w) : Calls Tryz.prog 6 #[] w fun e w' => e = .returned (.bool true) ∧ Gr w w' := by
  have HG := Lib.hid hG
  clear hG
  go_enter Tryz.func6, Tryz.ntmps6
  go_wp2_with fail
  refine (res1 _ HG.out).mono ?_
  rintro e w1 ⟨hg1, A1, c1, rfl, hr1, hc1⟩
  go_wp2_with fail
  have K1 := blk_alloc w1 (.cells #[.slice A1 1 c1, .int .i64 1, .int .i64 0, .int .i64 2, .int .i64 0] 25)
  have hg1a := hg1.alloc (.cells #[.slice A1 1 c1, .int .i64 1, .int .i64 0, .int .i64 2, .int .i64 0] 25)
  have HR1 := Lib.hid (hr1.gr (Gr.al w1 (.cells #[.slice A1 1 c1, .int .i64 1, .int .i64 0, .int .i64 2, .int .i64 0] 25)))
  obtain ⟨k1, hk1⟩ : ∃ k, w1.heap.size = k := ⟨_, rfl⟩
  rw [hk1] at K1 ⊢
  generalize w1.alloc (.cells #[.slice A1 1 c1, .int .i64 1, .int .i64 0, .int .i64 2, .int .i64 0] 25) = w2 at *
  clear hg1 hr1 hk1
  refine (res2 _ (HG.out.gr hg1a)).mono ?_
  rintro e w3 ⟨hg3, A2, c2, rfl, hr2, hc2⟩
  go_wp2_with fail
  have K2 := alloc2_fst w3 (.cells #[.slice A2 0 c2, .int .i64 3, .int .i64 0, .int .i64 1, .int .i64 0] 25) (.cells #[.int .i64 6] 3)
  have V2 := alloc2_snd w3 (.cells #[.slice A2 0 c2, .int .i64 3, .int .i64 0, .int .i64 1, .int .i64 0] 25) (.cells #[.int .i64 6] 3)
  have hg3a : Gr w2 ((w3.alloc (.cells #[.slice A2 0 c2, .int .i64 3, .int .i64 0, .int .i64 1, .int .i64 0] 25)).alloc (.cells #[.int .i64 6] 3)) := (hg3.alloc _).alloc _
  obtain ⟨k3, hk3⟩ : ∃ k, w3.heap.size = k := ⟨_, rfl⟩
  rw [hk3] at K2 V2 ⊢
  generalize (w3.alloc (.cells #[.slice A2 0 c2, .int .i64 3, .int .i64 0, .int .i64 1, .int .i64 0] 25)).alloc (.cells #[.int .i64 6] 3) = w4 at *
  have K1b := hg3a.blk K1
  have HR1b := Lib.hid (HR1.out.gr hg3a)
  have hG4 := hg1a.trans hg3a
  clear hg3 hr2 hk3 K1 HR1 hg1a hg3a
  refine (res3 _ _ (HG.out.gr hG4) V2).mono ?_
  rintro e w5 ⟨hg5, A3, c3, rfl, hr3, hc3⟩
  go_wp2_with fail
  have K5 := blk_alloc w5 (.cells #[.slice A3 0 c3, .int .i64 2, .int .i64 11, .int .i64 4, .int .i64 0] 25)
  have hg5a := hg5.alloc (.cells #[.slice A3 0 c3, .int .i64 2, .int .i64 11, .int .i64 4, .int .i64 0] 25)
  obtain ⟨k5, hk5⟩ : ∃ k, w5.heap.size = k := ⟨_, rfl⟩
  rw [hk5] at K5 ⊢
  generalize w5.alloc (.cells #[.slice A3 0 c3, .int .i64 2, .int .i64 11, .int .i64 4, .int .i64 0] 25) = w6 at *
  have K1c := hg5a.blk K1b
  have K2c := hg5a.blk K2
  have HR1c := Lib.hid (HR1b.out.gr hg5a)
  have hG6 := hG4.trans hg5a
  clear hg5 hr3 hk5 K1b HR1b hG4 hg5a K2 V2
  refine (res4 _ (HG.out.gr hG6)).mono ?_
  rintro e w7 ⟨hg7, A4, c4, rfl, hr4, hc4⟩
  go_wp2_with fail
  have hg7a := hg7.alloc (.cells #[.slice A4 0 c4, .int .i64 0, .int .i64 0, .int .i64 0, .int .i64 0] 25)
  obtain ⟨k7, hk7⟩ : ∃ k, w7.heap.size = k := ⟨_, rfl⟩
  rw [hk7]
  generalize w7.alloc (.cells #[.slice A4 0 c4, .int .i64 0, .int .i64 0, .int .i64 0, .int .i64 0] 25) = w8 at *
  have K1d := hg7a.blk K1c
  have K2d := hg7a.blk K2c
  have K5d := hg7a.blk K5
  have HR1d := Lib.hid (HR1c.out.gr hg7a)
  have hG8 := hG6.trans hg7a
  clear hg7 hr4 hk7 K1c HR1c hG6 hg7a K2c K5
  refine (res5 _ (HG.out.gr hG8)).mono ?_
  rintro e w9 ⟨hg9, A6, c6, rfl, hr6, hc6⟩
  go_upto_region 6 with fail
  have hg9a := hg9.alloc (.cells #[.slice A6 0 c6, .int .i64 0, .int .i64 0, .int .i64 0, .int .i64 0] 25)
  obtain ⟨k9, hk9⟩ : ∃ k, w9.heap.size = k := ⟨_, rfl⟩
  rw [hk9]
  generalize w9.alloc (.cells #[.slice A6 0 c6, .int .i64 0, .int .i64 0, .int .i64 0, .int .i64 0] 25) = wa at *
  have K1e := hg9a.blk K1d
  have K2e := hg9a.blk K2d
  have K5e := hg9a.blk K5d
  have HR1e := Lib.hid (HR1d.out.gr hg9a)
  have hGa := hG8.trans hg9a
  clear hg9 hr6 hk9 K1d HR1d hG8 hg9a K2d K5d
  have a0 := cellAt K1e (i := 0) rfl
  have a1 := cellAt K1e (i := 1) rfl
  have a2 := cellAt K1e (i := 2) rfl
  have a3 := cellAt K1e (i := 3) rfl
  have a4 := cellAt K1e (i := 4) rfl
  have b0 := cellAt K2e (i := 0) rfl
  have b1 := cellAt K2e (i := 1) rfl
  have d1 := cellAt K5e (i := 1) rfl
  have d2 := cellAt K5e (i := 2) rfl
  have l1 := blkLt K1e
  have l2 := blkLt K2e
  have l5 := blkLt K5e
  obtain ⟨g, off, rfl, hgl, _, hcl⟩ := HR1e.out.open_ (j := 0) (by simp)
  have o0 : wa.cell? ⟨g, off, none⟩ = some (.int .i64 1) := hcl 0 (iV 1) rfl
  have HK1 := Lib.hid K1e
  have HK2 := Lib.hid K2e
  clear hcl K1e K2e K5e
  go_wp2_with fail
  have HPX : Calls Tryz.prog 7 #[.slice A2 0 c2, .slice (some ⟨g, off, none⟩) 1 c1] wa (fun e w' => e = .returned (.bool true) ∧ Gr wa w') :=
    IsPrefix_any A2 (some ⟨g, off, none⟩) [] [1] c2 c1 (fun _ => True) _ wa (.inl rfl) HR1e.out (by simp) (by simp) hc1
  refine HPX.mono ?_
  rintro e wb ⟨rfl, hgb⟩
  have B1 := hgb.blk HK1.out
  have B2 := hgb.blk HK2.out
  have hGb := hGa.trans hgb
  have a0' := cellAt B1 (i := 0) rfl
  have a1' := cellAt B1 (i := 1) rfl
  have a2' := cellAt B1 (i := 2) rfl
  have a3' := cellAt B1 (i := 3) rfl
  have a4' := cellAt B1 (i := 4) rfl
  have b0' := cellAt B2 (i := 0) rfl
  have b1' := cellAt B2 (i := 1) rfl
  have b2' := cellAt B2 (i := 2) rfl
  have b3' := cellAt B2 (i := 3) rfl
  have b4' := cellAt B2 (i := 4) rfl
  have l1' := blkLt B1
  have l2' := blkLt B2
  have HSM : Calls Tryz.prog 8 #[.agg #[.slice (some ⟨g, off, none⟩) 1 c1, .int .i64 1, .int .i64 0, .int .i64 2, .int .i64 0], .agg #[.slice A2 0 c2, .int .i64 3, .int .i64 0, .int .i64 1, .int .i64 0]] wb (fun e w' => e = .returned (.bool false) ∧ Gr wb w') :=
    Same_any (some ⟨g, off, none⟩) A2 [1] [] c1 c2 _ (fun _ => True) 1 0 2 0 3 0 1 0 wb (HR1e.out.gr hgb) (.inl rfl) (by simp)
  clear a0 a1 a2 a3 a4 b0 b1 d1 d2 o0 B1 B2 hgb HPX
  go_wp2_with fail
  refine HSM.mono ?_
  rintro e wc ⟨rfl, hgc⟩
  go_wp2_with fail
  go_ret
  exact ⟨rfl, hGb.trans hgc⟩
end Go.Proofs.YthniejnbkkkbnaaGreatDoor
