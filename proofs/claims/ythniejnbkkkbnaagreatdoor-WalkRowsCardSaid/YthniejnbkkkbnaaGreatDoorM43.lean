/- Walks of layer parse: a declaration; all of them (where nothing is wrong). Walks of layer parse: Parse (where nothing is wrong). -/
import Derived.Test.YthniejnbkkkbnaaGreatDoorM27
import Derived.Test.YthniejnbkkkbnaaGreatDoorM42
import Derived.Recover
import Derived.Defers
import Derived.StillTailTactics
import Derived.Test.YthniejnbkkkbnaaGreatDoorM13
set_option linter.all false
set_option linter.unusedSimpArgs false
set_option linter.unusedVariables false
namespace Go.Proofs.YthniejnbkkkbnaaGreatDoor
open Go.RowKit
set_option maxRecDepth 100000
set_option maxHeartbeats 4000000

theorem declaration_any (k : Nat) (hk : k ≤ 1000000) (K : PK) (p : Nat) (w : World) (h : Ctx K p 0 w) (t : T) (q : Nat) (hr : declarationM K.L K.E k p = some (t, q)) :
    Calls Tryz.prog 57 #[ptrV K.rb] w (PP K 0 w (.ok t q) (NewTree w)) := by
  unfold declarationM at hr
  split at hr
  case isFalse => cases hr
  rename_i hcs
  obtain ⟨hty, hfu⟩ := hcs
  have HC := Lib.hid h
  have hrb := h.lt
  have hB := h.hB
  have HAN := Lib.hid (fun w1 (hc : Ctx K p 0 w1) => accept_no K p 0 ⟨#[116, 121, 112, 101]⟩ w1 hc hty)
  have HAY := Lib.hid (fun w1 (hc : Ctx K p 0 w1) => accept_yes K p 0 ⟨#[102, 117, 110, 99]⟩ w1 hc hfu)
  have HF := Lib.hid (fun w1 (hc : Ctx K (p + 1) 0 w1) => function_any k hk K (p + 1) w1 hc t q hr)
  clear h hty hfu hr
  go_enter Tryz.func57, Tryz.ntmps57
  go_wp2_with fail
  refine (HAN.out _ (HC.out.alloc _)).mono ?_
  rintro e w1 ⟨rfl, hg1⟩
  have R1 := hg1.blk (blk_alloc _ _)
  have hc1 := (HC.out.alloc _).gr hg1
  have hM1 : Md K.rb w w1 := ((Md.refl _ _).alloc _).trans (.of_gr hg1)
  clear hg1
  go_wp2_with fail
  refine (HAY.out _ hc1).mono ?_
  rintro e w2 ⟨rfl, hc2, hm2⟩
  have R2 := hm2.blk R1 (by omega)
  have hM2 := hM1.trans hm2
  have hs2 := blkLt R2
  clear hm2 R1 hc1 hM1
  go_wp2_with fail
  refine (HF.out _ hc2).mono ?_
  rintro e w3 ⟨hm3, v, rfl, ⟨b, rfl, ht⟩, hc3⟩
  have R3 := hm3.blk R2 (by omega)
  have r3 := cellAt R3 (i := 0) rfl
  have f3 := frozenAt R3
  have hz3 := blkLt R3
  have HT : Hid (TreeAt w3 (fun k => w.heap.size < k) b t) := ht.imp (fun k _ hk => by omega)
  clear ht
  go_wp2_with fail
  refine bodyPost_ret (v := nodeV b) (by simp [results, Tryz.results57, go_sem, r3, hz3]) rfl ⟨?_, _, rfl, ⟨b, rfl, ?_⟩, ?_⟩
  · exact (hM2.trans hm3).setCell (.inl (by simp)) _
  · exact TreeAt.imp (X := fun k => w.heap.size < k) (fun k _ hk => by omega) (by repeat' (first | (with_reducible exact HT.out) | (with_reducible refine TreeAt.al ?_) | (with_reducible refine TreeAt.dr ?_) | (with_reducible refine TreeAt.drN ?_) | (with_reducible refine TreeAt.set ?_ (by intro k hk; (try simp at hk); (try simp); omega))))
  · exact hc3.setNew hB (by simp; omega) _

theorem program1_idle (a b : Addr) (w : World) : CallsD Tryz.prog 55 #[.pointer (some a), .pointer (some b)] .returning w fun e u' w' => e = .returned (.tuple #[]) ∧ u' = .returning ∧ w' = w := by
  refine callsD_of_wpS Tryz.func55 rfl fun c₀ cs hu => ?_
  apply wpS_seq
  apply wpS_region
  simp [wpOpsS, go_sem, recoverD, hu, Tryz.ntmps55, Exit.thenS]
  apply wpS_seq
  apply wpS_region
  simp [wpOpsS, go_sem, recoverD, hu, Tryz.ntmps55, Exit.thenS]
  refine wpS_cond (t := false) (by simp [Act.eval, Array.replicate]) ?_
  simp only [Bool.false_eq_true, if_false]
  refine wpS_of_wp (wp_skip ?_)
  cases c₀
  simp_all [bodyPostS, results, Tryz.results55]

theorem program_any (f : Nat) (hf : f ≤ 1000000) (k : Nat) (hk : k ≤ 1000000) (K : PK) (w2 : World) (h : Ctx K 0 0 w2) (t : T) (hr : programM K.L K.E f k [] 0 = some t) :
    Calls Tryz.prog 40 #[ptrV K.rb] w2 fun e w' => Md K.rb w2 w' ∧ ∃ b, e = .returned (.tuple #[nodeV b, .agg #[.int .i64 0, .int .i64 0]]) ∧ TreeAt w' (fun k => w2.heap.size ≤ k) b t := by
  obtain ⟨i0, hi0, hz0, hz1, hz2⟩ := info_parts info_node
  have hmf : ∀ (fn : Fn) (first cap : Array Value) (w : World), (Instr.makeFunc fn first cap).run Tryz.prog w = .ok (.func fn first cap) w := fun _ _ _ _ => rfl
  have HC := Lib.hid h
  have HR := Lib.hid hr
  have hrb := h.lt
  have hB := h.hB
  obtain ⟨w, hws⟩ : ∃ w : World, w.heap.size = w2.heap.size + 1 := ⟨w2.alloc (.cells #[.pointer none] 53 (0, 0)), by simp⟩
  clear h hr
  go_enter_defers Tryz.func40, Tryz.ntmps40
  go_wp2_with fail
  refine (plain_any 1 0 none 0 0 _).mono ?_
  rintro e w1 ⟨bn, rfl, hnb, hnd, hng⟩
  have N1 := hng.blk (alloc2_fst _ _ _)
  have S1 := hng.blk (alloc2_snd _ _ _)
  have hM1 : Md K.rb w2 w1 := (((Md.refl _ _).alloc _).alloc _).trans (.of_gr hng)
  have hc1 := ((HC.out.alloc _).alloc _).gr hng
  have n1 := cellAt N1 (i := 0) rfl
  have f1 := frozenAt N1
  have hs1 := blkLt S1
  have hbn := blkLt hnd
  have hbw : w2.heap.size + 2 ≤ bn := by simpa using hnb
  have hcR : w2.heap.size ≠ K.rb := by omega
  have hsR : w2.heap.size + 1 ≠ K.rb := by omega
  have hbR : bn ≠ K.rb := by omega
  have HN1 := Lib.hid N1
  have HS1 := Lib.hid S1
  have HD1 := Lib.hid hnd
  clear hng hnd N1 S1 hnb
  go_wp2_with fail
  go_loopg [] k (fun gg wr => ∃ g p' ks bs kv, gg = g ∧ Ctx K p' 0 wr ∧ Md K.rb w2 wr ∧ wr.heap[w2.heap.size]? = some (.cells #[ptrV bn] 53 (0, 0)) ∧ wr.heap[w2.heap.size + 1]? = some (.cells #[.int .i64 0, .int .i64 0] 110 (0, 0)) ∧
    wr.heap[bn]? = some (.cells #[.int .i64 1, .string (S []), .string (S []), .int .i64 0, .int .i64 0, kv] 96 (0, 0)) ∧ KidsP (fun k => w.heap.size < k ∧ k ≠ w2.heap.size ∧ k ≠ bn) wr kv ks bs ∧ ks.length + g ≤ k ∧ Hid (programM K.L K.E f g ks p' = some t))
  case atStart =>
    refine ⟨k, 0, [], [], .slice none 0 0, rfl, hc1.setNew (by simp; omega) (by simp; omega) _, hM1.setCell (.inl (by simp)) _, blk_setCell_to HN1.out rfl, blk_setCell_ne HS1.out (by simp), blk_setCell_ne HD1.out (by simp; omega), ?_, by simp, HR.out⟩
    exact ⟨World.ownsRow_nil _ _ _ _, fun k e => (by cases e), rfl, fun i b t h => by simp at h⟩
  case round =>
    obtain ⟨g, p', ks, bs, kv, hgg, hc, hM, hN, hS, hD, hK, hkl, hL⟩ := hrel
    cases g with
    | zero => have := hL.out; simp [programM] at this
    | succ g =>
      have hL' := hL.out
      unfold programM at hL'
      obtain ⟨c0, c1, _, _⟩ := hc.cells
      have hrw := hc.lt
      have hnR := cellAt hN (i := 0) rfl
      obtain ⟨nl, hnl⟩ : ∃ nl, K.L.length = nl := ⟨_, rfl⟩
      have hnlm := hc.len
      have hpos := hc.pos
      rw [hnl] at c0 hL' hnlm hpos
      by_cases hlt : p' < nl
      · rw [if_pos hlt] at hL'
        obtain ⟨y, hy⟩ : ∃ y, declarationM K.L K.E f p' = y := ⟨_, rfl⟩
        rw [hy] at hL'
        obtain ⟨x, q, rfl⟩ : ∃ x q, y = some (x, q) := by
          match y, hL' with
          | some (x, q), _ => exact ⟨x, q, rfl⟩
        have HE := Lib.hid (fun w' (hc : Ctx K p' 0 w') => declaration_any f hf K p' w' hc x q hy)
        have HL : Hid (programM K.L K.E f g (ks ++ [x]) q = some t) := hL'
        have HRw := Lib.hid hS
        have HNw := Lib.hid hN
        have HDw := Lib.hid hD
        have HKw := Lib.hid hK
        have HCw := Lib.hid hc
        have HMw := Lib.hid hM
        clear hS hN hD hK hc hM hL' hL hy
        go_wp2_with fail
        go_quiet (fail)
        go_wp2_with fail
        have hga : Gr wr (wr.drewN nq) := (Gr.refl _).drewN nq
        generalize wr.drewN nq = wa at hga ⊢
        have Na := hga.blk HNw.out
        have Da := hga.blk HDw.out
        have Sa := hga.blk HRw.out
        have na := cellAt Na (i := 0) rfl
        have da := cellAt Da (i := 5) rfl
        have fa := frozenAt Da
        have hca := HCw.out.gr hga
        have hMa := HMw.out.trans (.of_gr hga)
        have hsa := blkLt Na
        have hbnw := blkLt Da
        have HRa := Lib.hid Sa
        have HNa := Lib.hid Na
        have HDa := Lib.hid Da
        have HKa := Lib.hid (HKw.out.gr hga)
        clear hga Sa Na Da HKw HNw HDw HRw HCw HMw c0 c1 hnR
        refine wp_region_noPanic ?_
        refine wp_region_K 13 (S := fun w' => w'.cell? ⟨w2.heap.size, 0, none⟩ = some (ptrV bn) ∧ w'.cell? ⟨bn, 5, none⟩ = some kv) rfl ⟨na, da⟩ (fun hS => ?_)
        refine wpAnyK_take (i := 0) (v := ?_) rfl (by kernel_rfl) (by kernel_rfl) (by kernel_rfl) (by kernel_rfl) (fun _ _ _ h => h) (Or.inl ⟨by rfl, ?_⟩) hS ?_
        rotate_left
        · intro w' hSw; (try dsimp only at hSw); go_simp; try with_reducible rfl
        (try simp only [sL, Act.put])
        refine wpAnyK_take (i := 1) (v := ?_) rfl (by kernel_rfl) (by kernel_rfl) (by kernel_rfl) (by kernel_rfl) (fun _ _ _ h => h) (Or.inl ⟨by rfl, ?_⟩) hS ?_
        rotate_left
        · intro w' hSw; (try dsimp only at hSw); go_simp; try with_reducible rfl
        (try simp only [sL, Act.put])
        refine wpAnyK_take (i := 2) (v := ?_) rfl (by kernel_rfl) (by kernel_rfl) (by kernel_rfl) (by kernel_rfl) (fun _ _ _ h => h) (Or.inl ⟨by rfl, ?_⟩) hS ?_
        rotate_left
        · intro w' hSw; (try dsimp only at hSw); go_simp; try with_reducible rfl
        (try simp only [sL, Act.put])
        refine wpAnyK_take (i := 3) (v := ?_) rfl (by kernel_rfl) (by kernel_rfl) (by kernel_rfl) (by kernel_rfl) (fun _ _ _ h => h) (Or.inl ⟨by rfl, ?_⟩) hS ?_
        rotate_left
        · intro w' hSw; (try dsimp only at hSw); go_simp; try with_reducible rfl
        (try simp only [sL, Act.put])
        refine wpAnyK_take (i := 4) (v := ?_) rfl (by kernel_rfl) (by kernel_rfl) (by kernel_rfl) (by kernel_rfl) (fun _ _ _ h => h) (Or.inl ⟨by rfl, ?_⟩) hS ?_
        rotate_left
        · intro w' hSw; (try dsimp only at hSw); go_simp; try with_reducible rfl
        (try simp only [sL, Act.put])
        refine wpAnyK_take (i := 5) (v := ?_) rfl (by kernel_rfl) (by kernel_rfl) (by kernel_rfl) (by kernel_rfl) (fun _ _ _ h => h) (Or.inl ⟨by rfl, ?_⟩) hS ?_
        rotate_left
        · intro w' hSw; (try dsimp only at hSw); go_simp; try with_reducible rfl
        (try simp only [sL, Act.put])
        refine wpAnyK_take (i := 6) (v := ?_) rfl (by kernel_rfl) (by kernel_rfl) (by kernel_rfl) (by kernel_rfl) (fun _ _ _ h => h) (Or.inl ⟨by rfl, ?_⟩) hS ?_
        rotate_left
        · intro w' hSw; (try dsimp only at hSw); go_simp; try with_reducible rfl
        (try simp only [sL, Act.put])
        refine wpAnyK_take (i := 7) (v := ?_) rfl (by kernel_rfl) (by kernel_rfl) (by kernel_rfl) (by kernel_rfl) (fun _ _ _ h => h) (Or.inl ⟨by rfl, ?_⟩) hS ?_
        rotate_left
        · intro w' hSw; (try dsimp only at hSw); go_simp; try with_reducible rfl
        (try simp only [sL, Act.put])
        refine wpAnyK_one (i := 8) (by kernel_rfl) rfl (fun K' hK => ?_)
        simp only [sL]
        go_simp
        refine (HE.out _ (by first | exact hca | exact hca.drew)).mono ?_
        rintro e wd ⟨hmd, v, rfl, ⟨b3, rfl, ht3⟩, hcd⟩
        have Nd : wd.heap[w2.heap.size]? = some (.cells #[ptrV bn] 53 (0, 0)) := hmd.blk HNa.out hcR
        have Dd : wd.heap[bn]? = some (.cells #[.int .i64 1, .string (S []), .string (S []), .int .i64 0, .int .i64 0, kv] 96 (0, 0)) := hmd.blk HDa.out hbR
        have hzd := blkLt Nd
        have hbnd := blkLt Dd
        have hsd := hmd.size
        have KD : Hid (KidsP (fun k => w.heap.size < k ∧ k ≠ w2.heap.size ∧ k ≠ bn) wd kv ks bs) := KidsP.grown (row := some K.rb) (HKa.out.gr (Gr.refl wa).drew) hmd (fun k e hP => by injection e with e; have := hP.1; omega)
        refine hK.out _ _ ⟨cellAt (Nd) rfl, cellAt (Dd) rfl⟩ (fun hS => ?_)
        (try simp only [sL, Act.put])
        refine wpAnyK_one (i := 9) (by kernel_rfl) rfl (fun K' hK => ?_)
        simp only [sL]
        go_simp
        refine hK.out _ _ ⟨cellAt (blk_alloc_lt Nd) rfl, cellAt (blk_alloc_lt Dd) rfl⟩ (fun hS => ?_)
        (try simp only [sL, Act.put])
        refine wpAnyK_one (i := 10) (by kernel_rfl) rfl (fun K' hK => ?_)
        simp only [sL]
        refine Eq.mpr (if_pos (by rfl)) ?_
        refine wp_append_lies _ _ _ _ (by rfl) 0 53 i0 _ 1 8 Tryz.underlying94 hi0 hz0 hz1 hz2 (by rfl) (by decide) kv ks.length (bs.map ptrV) (by rfl) (ownGr KD.out.own (Gr.al _ _)) ⟨wd.heap.size, 0, none⟩ 1 1 [ptrV b3] (by rfl) (by rfl) (news_ptr (blk_alloc _ _)) (one_ptr _) (by omega) (by unfold maxLen; omega) (by omega) (Nat.zero_le _) (wd.heap.size + 1) (by simp) ?_
        intro g4 cap w4 hown4 hgrow hat hlt4
        have hro : ∀ k, kv.ownBlock = some k → w.heap.size < k ∧ k ≠ w2.heap.size ∧ k ≠ bn := KD.out.pk
        have N4 : w4.heap[w2.heap.size]? = some (.cells #[ptrV bn] 53 (0, 0)) := grown_blk hgrow (blk_alloc_lt Nd) (fun j e => by have := hro j e; omega)
        have D4 : w4.heap[bn]? = some (.cells #[.int .i64 1, .string (S []), .string (S []), .int .i64 0, .int .i64 0, kv] 96 (0, 0)) := grown_blk hgrow (blk_alloc_lt Dd) (fun j e => by have := hro j e; omega)
        have n4 := cellAt N4 (i := 0) rfl
        have d4 := cellAt D4 (i := 5) rfl
        have f4 := frozenAt D4
        refine hK.out _ _ ⟨n4, d4⟩ (fun hS => ?_)
        (try simp only [sL, Act.put])
        refine wpAnyK_one (i := 11) (by kernel_rfl) rfl (fun K' hK => ?_)
        simp only [sL]
        go_simp
        refine hK.out _ _ ⟨n4, d4⟩ (fun hS => ?_)
        (try simp only [sL, Act.put])
        refine wpAnyK_one (i := 12) (by kernel_rfl) rfl (fun K' hK => ?_)
        simp only [sL]
        go_simp
        refine hK.out _ _ ⟨n4, d4⟩ (fun hS => ?_)
        (try simp only [sL, Act.put])
        refine wpAnyK_end (by kernel_rfl) rfl (by kernel_rfl) ?_
        simp only [sL]
        go_simp
        clear hK hS
        refine NoPanic.normal ?_
        all_goals
          have Sd := hmd.blk HRa.out hsR
          have S4 := grown_blk hgrow (blk_alloc_lt (o' := .cells #[ptrV b3] 53) Sd) (fun j e => by have := hro j e; omega)
          go_wp2_with fail
          go_roundg g
          case measure => omega
          case rel =>
            refine ⟨g, q, ks ++ [x], bs ++ [b3], _, rfl, ((hcd.alloc _).grown hgrow (fun k e => by have := hro k e; omega)).setNew (by simp; omega) (by simp; omega) _, (Md.grown ((hMa.drew.trans hmd).alloc _) hgrow (fun k e => by have := hro k e; omega)).setCell (.inl (by simp; omega)) _,
              blk_setCell_ne N4 (by simp; omega), blk_setCell_ne S4 (by simp; omega), blk_setCell_to D4 rfl, ?_, by simp; omega, HL.out⟩
            have hwa : w.heap.size < wa.heap.size := by have := blkLt HRa.out; omega
            have hwb : bn < wa.heap.size := by omega
            have K4 := KD.out.push (lo := wa.heap.size) (fun k hk => ⟨by omega, by omega, by omega⟩) (fun k e => (HKa.out.own.lt k e).2) (by simpa using hmd.size) (ht3.imp (fun k _ hk => by simpa using hk)) (Gr.al _ _) hown4 hgrow (by simpa using hat)
            exact K4.set (by simp)
      · rw [if_neg hlt] at hL'
        injection hL' with ht
        have s0 := cellAt hS (i := 0) rfl
        have s1 := cellAt hS (i := 1) rfl
        have fn := frozenAt hN
        have fs := frozenAt hS
        have hlS := blkLt hS
        have HS := Lib.hid hS
        have HN := Lib.hid hN
        have HD := Lib.hid hD
        have HK := Lib.hid hK
        have HM := Lib.hid hM
        clear hS hN hD hK hM hc hL
        go_wp2_with fail
        go_quiet (fail)
        go_wp2_with fail
        have hga : Gr wr (wr.drewN nq) := (Gr.refl _).drewN nq
        generalize wr.drewN nq = wa at hga ⊢
        have Na := hga.blk HN.out
        have Sa := hga.blk HS.out
        have Da := hga.blk HD.out
        have HKa := Lib.hid (HK.out.gr hga)
        have hMa := HM.out.trans (.of_gr hga)
        have na := cellAt Na (i := 0) rfl
        have sa0 := cellAt Sa (i := 0) rfl
        have sa1 := cellAt Sa (i := 1) rfl
        have fna := frozenAt Na
        have fsa := frozenAt Sa
        have hlS' := blkLt Sa
        have Nb : (wa.setCell ⟨w2.heap.size, 0, none⟩ (.pointer (some ⟨bn, 0, none⟩))).heap[w2.heap.size]? = some (.cells #[ptrV bn] 53 (0, 0)) := blk_setCell_to Na rfl
        have Sb : (wa.setCell ⟨w2.heap.size, 0, none⟩ (.pointer (some ⟨bn, 0, none⟩))).heap[w2.heap.size + 1]? = some (.cells #[.int .i64 0, .int .i64 0] 110 (0, 0)) := blk_setCell_ne Sa (by simp)
        have nb := cellAt Nb (i := 0) rfl
        have sb0 := cellAt Sb (i := 0) rfl
        have sb1 := cellAt Sb (i := 1) rfl
        have Nc : (((wa.setCell ⟨w2.heap.size, 0, none⟩ (.pointer (some ⟨bn, 0, none⟩))).setCell ⟨w2.heap.size + 1, 0, none⟩ (.int .i64 0)).setCell ⟨w2.heap.size + 1, 1, none⟩ (.int .i64 0)).heap[w2.heap.size]? = some (.cells #[ptrV bn] 53 (0, 0)) := blk_setCell_ne (blk_setCell_ne Nb (by simp)) (by simp)
        have Sc : (((wa.setCell ⟨w2.heap.size, 0, none⟩ (.pointer (some ⟨bn, 0, none⟩))).setCell ⟨w2.heap.size + 1, 0, none⟩ (.int .i64 0)).setCell ⟨w2.heap.size + 1, 1, none⟩ (.int .i64 0)).heap[w2.heap.size + 1]? = some (.cells #[.int .i64 0, .int .i64 0] 110 (0, 0)) := blk_setCell_to (blk_setCell_to Sb rfl) rfl
        have nc := cellAt Nc (i := 0) rfl
        have sc0 := cellAt Sc (i := 0) rfl
        have sc1 := cellAt Sc (i := 1) rfl
        go_region_held3 (fun w' => w'.cell? ⟨w2.heap.size, 0, none⟩ = some (ptrV bn) ∧ w'.cell? ⟨w2.heap.size + 1, 0, none⟩ = some (.int .i64 0) ∧ w'.cell? ⟨w2.heap.size + 1, 1, none⟩ = some (.int .i64 0)) (first | exact ⟨na, sa0, sa1⟩ | exact ⟨nb, sb0, sb1⟩ | exact ⟨nc, sc0, sc1⟩ | go_keep) (fail)
        go_wp2_with fail
        refine leaves_cons (f := 55) (args := #[.pointer (some ⟨w2.heap.size, 0, none⟩), .pointer (some ⟨w2.heap.size + 1, 0, none⟩)]) (by simp) (by simp [go_sem]) ?_
        refine (program1_idle _ _ _).mono ?_
        rintro e u' w'' ⟨rfl, rfl, rfl⟩
        refine ⟨.tuple #[nodeV bn, .agg #[.int .i64 0, .int .i64 0]], ?_, ?_, bn, rfl, ?_⟩
        · simp [results, Tryz.results40, go_sem, nc, sc0, sc1]
        · exact (((hMa.setCell (.inl (by simp)) _).setCell (.inl (by simp)) _).setCell (.inl (by simp)) _).drew
        · rw [← ht]
          have Db : (((wa.setCell ⟨w2.heap.size, 0, none⟩ (.pointer (some ⟨bn, 0, none⟩))).setCell ⟨w2.heap.size + 1, 0, none⟩ (.int .i64 0)).setCell ⟨w2.heap.size + 1, 1, none⟩ (.int .i64 0)).heap[bn]? = _ := blk_setCell_ne (blk_setCell_ne (blk_setCell_ne Da (by simp; omega)) (by simp; omega)) (by simp; omega)
          exact ((((HKa.out.set (a := ⟨w2.heap.size, 0, none⟩) (v := .pointer (some ⟨bn, 0, none⟩)) (by simp)).set (a := ⟨w2.heap.size + 1, 0, none⟩) (v := .int .i64 0) (by simp; omega)).set (a := ⟨w2.heap.size + 1, 1, none⟩) (v := .int .i64 0) (by simp; omega)).tree (typ := []) Db (by omega) (fun k hk => by omega)).gr ((Gr.refl _).drew)
end Go.Proofs.YthniejnbkkkbnaaGreatDoor

namespace Go.Proofs.YthniejnbkkkbnaaGreatDoor
open Go.RowKit
set_option maxRecDepth 100000
set_option maxHeartbeats 4000000

theorem Parse_any (s : ByteArray) (t : T) (hp : parseM s.data.toList = some t) (w : World) (hG : Glob w) :
    Calls Tryz.prog 31 #[.string s] w fun e w' => Gr w w' ∧ ∃ b, e = .returned (.tuple #[nodeV b, .int .i64 0, .int .i64 0]) ∧ TreeAt w' (fun k => w.heap.size ≤ k) b t := by
  obtain ⟨r, hr⟩ : ∃ r, scanP s.data.toList = r := ⟨_, rfl⟩
  have hle : s.size ≤ 4096 ∨ ∃ a b, r = .err a b := by
    rcases Nat.lt_or_ge 4096 s.data.toList.length with h | h
    · right
      unfold scanP at hr
      rw [if_pos h] at hr
      exact ⟨_, _, hr.symm⟩
    · left
      rw [size_list] at h
      exact h
  unfold parseM at hp
  rw [hr] at hp
  cases r with
  | err a b => cases hp
  | ok L =>
    simp only [] at hp
    split at hp
    case isFalse => cases hp
    rename_i hall
    have hsz : s.size ≤ 4096 := by
      rcases hle with h | ⟨a, b, h⟩
      · exact h
      · cases h
    have HS := Lib.hid (fun w' (hg : Gr w w') => scan_any s hsz w' (hG.gr hg))
    rw [hr] at HS
    rw [size_list] at hp
    have HP := Lib.hid hp
    have HALL := Lib.hid hall
    have HG := Lib.hid hG
    clear hr hp hall hle hG
    go_enter Tryz.func31, Tryz.ntmps31
    go_wp2_with fail
    refine (HS.out _ (Gr.al _ _)).mono ?_
    rintro e w1 ⟨hg1, v, rfl, hown, hlen⟩
    have R1 := hg1.blk (blk_alloc _ _)
    have hG1 : Gr w w1 := (Gr.al _ _).trans hg1
    have hs1 := blkLt R1
    obtain ⟨A, c, rfl, hc, hrow⟩ := ownRow_row hown
    have hlo : ∀ k, some k = (Value.slice A L.length c).ownBlock → k < w1.heap.size := fun k e => (hown.lt k e.symm).2
    clear hg1
    obtain ⟨K, hK⟩ : ∃ K : PK, K = ⟨L, s.size, w1.heap.size, A, c, w1.heap.size + 1⟩ := ⟨_, rfl⟩
    have HCT : Hid (Ctx K 0 0 (w1.alloc (.cells #[.slice A L.length c, .int .i64 0, .int .i64 s.size, .int .i64 0] 108 (0, 0)))) := by
      show Ctx K 0 0 _
      rw [hK]
      have hge : 1 < w1.heap.size := by obtain ⟨_, _, _, _, hb⟩ := HG.out.gr hG1; exact blkLt hb
      exact ⟨hlen, fun i => (tokOk_now HALL.out _ i).1, fun i => (tokOk_now HALL.out _ i).2, (HG.out.gr hG1).gr (Gr.al _ _), by show 1 < w1.heap.size + 1; omega, Nat.zero_le _, by decide, blk_alloc _ _,
        (hrow.imp fun k _ hk => ⟨by have := hlo k hk; show k ≠ w1.heap.size; omega, by have := hlo k hk; show k < w1.heap.size + 1; omega⟩).gr (Gr.al _ _), by simp⟩
    have HPR := Lib.hid (fun w' (h : Ctx K 0 0 w') => program_any 400 (by decide) 400 (by decide) K w' h t (by rw [hK]; exact HP.out))
    have hrb : K.rb = w1.heap.size := by rw [hK]
    have hpv : ptrV K.rb = ptrV w1.heap.size := by rw [hrb]
    rw [hpv] at HPR
    have HRB := Lib.hid hrb
    clear hown hrow hK hlo hpv hrb
    go_wp2_with fail
    refine (HPR.out _ HCT.out).mono ?_
    rintro e w2 ⟨hm2, b, rfl, ht⟩
    have hG2 : Gr w w2 := Gr.grown (hG1.alloc _) hm2 (fun k e => by injection e with e; have := HRB.out; omega)
    have R2 := hm2.blk (blk_alloc_lt R1) (by have := HRB.out; omega)
    have r2 := cellAt R2 (i := 0) rfl
    have f2 := frozenAt R2
    have hs2 := blkLt R2
    have HT : Hid (TreeAt w2 (fun k => w.heap.size < k) b t) := ht.imp (fun k _ hk => by simp at hk; omega)
    clear ht hm2
    go_wp2_with fail
    have N3 := alloc2_fst w2 (.cells #[ptrV b] 53) (.cells #[.int .i64 0, .int .i64 0] 110)
    have S3 := alloc2_snd w2 (.cells #[ptrV b] 53) (.cells #[.int .i64 0, .int .i64 0] 110)
    have R3 : ((w2.alloc (.cells #[ptrV b] 53)).alloc (.cells #[.int .i64 0, .int .i64 0] 110)).heap[w.heap.size]? = some (.cells #[.pointer none] 53 (0, 0)) := blk_alloc_lt (blk_alloc_lt R2)
    have hG3 := (hG2.alloc (.cells #[ptrV b] 53)).alloc (.cells #[.int .i64 0, .int .i64 0] 110)
    have HT3 := Lib.hid ((HT.out.al (o := .cells #[ptrV b] 53)).al (o := .cells #[.int .i64 0, .int .i64 0] 110))
    generalize hw3 : (w2.alloc (.cells #[ptrV b] 53)).alloc (.cells #[.int .i64 0, .int .i64 0] 110) = w3 at *
    have n3 := cellAt N3 (i := 0) rfl
    have s30 := cellAt S3 (i := 0) rfl
    have s31 := cellAt S3 (i := 1) rfl
    have f3 := frozenAt R3
    have r3 := cellAt R3 (i := 0) rfl
    have hl3 := blkLt S3
    have R4 : (w3.setCell ⟨w.heap.size, 0, none⟩ (.pointer (some ⟨b, 0, none⟩))).heap[w.heap.size]? = some (.cells #[ptrV b] 53 (0, 0)) := blk_setCell_to R3 rfl
    have r4 := cellAt R4 (i := 0) rfl
    have N4 : (w3.setCell ⟨w.heap.size, 0, none⟩ (.pointer (some ⟨b, 0, none⟩))).heap[w2.heap.size]? = _ := blk_setCell_ne N3 (by simp; omega)
    have S4 : (w3.setCell ⟨w.heap.size, 0, none⟩ (.pointer (some ⟨b, 0, none⟩))).heap[w2.heap.size + 1]? = _ := blk_setCell_ne S3 (by simp; omega)
    have n4 := cellAt N4 (i := 0) rfl
    have s40 := cellAt S4 (i := 0) rfl
    have s41 := cellAt S4 (i := 1) rfl
    clear hw3 r2 f2
    go_region_held3 (fun w' => w'.cell? ⟨w2.heap.size, 0, none⟩ = some (ptrV b) ∧ w'.cell? ⟨w2.heap.size + 1, 0, none⟩ = some (.int .i64 0) ∧ w'.cell? ⟨w2.heap.size + 1, 1, none⟩ = some (.int .i64 0)) (first | exact ⟨n3, s30, s31⟩ | exact ⟨n4, s40, s41⟩ | go_keep) (fail)
    go_wp2_with fail
    refine bodyPost_ret (v := .tuple #[nodeV b, .int .i64 0, .int .i64 0]) (by simp [results, Tryz.results31, go_sem, r4]) rfl ⟨?_, b, rfl, ?_⟩
    · exact (hG3.setCell (by simp) _).drew
    · exact ((HT3.out.set (a := ⟨w.heap.size, 0, none⟩) (by intro k hk; simp; omega)).imp (fun k _ hk => by omega)).gr ((Gr.refl _).drew)
end Go.Proofs.YthniejnbkkkbnaaGreatDoor
