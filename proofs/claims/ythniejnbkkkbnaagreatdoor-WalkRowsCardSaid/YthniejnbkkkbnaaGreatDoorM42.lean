/- Walks of layer parse: the statements joined (of a statement that comes to 'change' nothing is said: see ParseP). The plain parser of programs, as far as its walk goes: functions without parameters and without a result. Elsewhere nothing is said (none). Walks of layer parse: a function without parameters and without a result. -/
import Derived.Test.YthniejnbkkkbnaaGreatDoorM39
import Derived.Test.YthniejnbkkkbnaaGreatDoorM41
import Derived.Test.YthniejnbkkkbnaaGreatDoorM01
import Derived.Test.YthniejnbkkkbnaaGreatDoorM27
set_option linter.all false
set_option linter.unusedSimpArgs false
set_option linter.unusedVariables false
namespace Go.Proofs.YthniejnbkkkbnaaGreatDoor
open Go.RowKit

theorem simple_any : SimpleOk := by
  intro K p d w h hd k r hk hr
  have ie := eAt_all k hk
  unfold simpleP at hr
  cases hpr : isP K.L K.E p xPrint
  · rw [hpr] at hr
    simp only [Bool.false_eq_true, if_false] at hr
    cases hrt : isP K.L K.E p xReturn
    · rw [hrt] at hr
      simp only [Bool.false_eq_true, if_false] at hr
      split at hr
      · rename_i hc
        exact simple_def k ie K p d w h hd hpr hrt hc.1 hc.2.1 hc.2.2 r hr
      · cases hr
    · rw [hrt] at hr
      simp only [if_true] at hr
      cases hs : isP K.L K.E (p + 1) xSemi
      · rw [hs] at hr
        simp only [Bool.false_eq_true, if_false] at hr
        exact simple_ret1 k ie K p d w h hd hpr hrt hs r hr
      · rw [hs] at hr
        simp only [if_true] at hr
        cases hr
        exact simple_ret0 K p d w h hd hpr hrt hs
  · rw [hpr] at hr
    simp only [if_true] at hr
    exact simple_print k ie K p d w h hd hpr r hr
/-- The statements' contracts, at every fuel. -/
theorem sAt (k : Nat) (hk : k ≤ 1000000) : SAt k := sAt_all simple_any eAt_all k hk
end Go.Proofs.YthniejnbkkkbnaaGreatDoor

namespace Go.Proofs.YthniejnbkkkbnaaGreatDoor

section
variable (L : List Tok) (E : Int)
/-- function: behind the key. -/
def functionM (k p : Nat) : Option (T × Nat) :=
  if (nowP L E p).kind = 1 ∧ isP L E (p + 1) xLp = true ∧ isP L E (p + 2) xRp = true ∧ isP L E (p + 3) xLb = true then
    match blockP L E k 0 (p + 3) with
    | some (.ok b q) => some (.mk ⟨4, (nowP L E p).text, [], 0, (nowP L E p).at_⟩ [b], q)
    | _ => none
  else none
def declarationM (k p : Nat) : Option (T × Nat) := if isP L E p xType = false ∧ isP L E p xFunc = true then functionM L E k (p + 1) else none
def programM (f : Nat) : Nat → List T → Nat → Option T
  | 0, _, _ => none
  | k + 1, ks, p => if p < L.length then (match declarationM L E f p with | some (x, q) => programM f k (ks ++ [x]) q | none => none) else some (.mk ⟨1, [], [], 0, 0⟩ ks)
end
/-- A token that is as the walks want it. -/
def tokOk (t : Tok) : Bool := decide (t.text.length ≤ 5000) && (t.kind != 3 || (t.text != [] && t.text.all isDigitB && decide (t.text.length ≤ 4096)))
/-- Parse, where it is said. -/
def parseM (s : Str) : Option T :=
  match scanP s with
  | .err _ _ => none
  | .ok L => if L.all tokOk then programM L s.length 400 400 [] 0 else none
theorem tokOk_now {L : List Tok} (h : L.all tokOk = true) (E : Int) (i : Nat) : (nowP L E i).text.length ≤ 5000 ∧ ((nowP L E i).kind = 3 → (nowP L E i).text ≠ [] ∧ (nowP L E i).text.all isDigitB = true ∧ (nowP L E i).text.length ≤ 4096) := by
  unfold nowP
  by_cases hi : i < L.length
  · have e : L.getD i ⟨0, [], E⟩ = L[i] := by simp [List.getD, hi]
    rw [e]
    have := List.all_eq_true.1 h L[i] (List.getElem_mem hi)
    unfold tokOk at this
    simp only [Bool.and_eq_true, Bool.or_eq_true, bne_iff_ne, ne_eq, decide_eq_true_eq] at this
    refine ⟨this.1, fun hk => ?_⟩
    rcases this.2 with h3 | ⟨⟨h4, h5⟩, h6⟩
    · exact absurd hk h3
    · exact ⟨h4, h5, h6⟩
  · have e : L.getD i ⟨0, [], E⟩ = ⟨0, [], E⟩ := by simp [List.getD, List.getElem?_eq_none (Nat.le_of_not_lt hi)]
    rw [e]
    exact ⟨by simp, fun h => by simp at h⟩
end Go.Proofs.YthniejnbkkkbnaaGreatDoor

namespace Go.Proofs.YthniejnbkkkbnaaGreatDoor
open Go.RowKit
set_option maxRecDepth 100000
set_option maxHeartbeats 4000000
attribute [local go_sem ↓] Go.wp_at_zero Go.wp_at_succ

theorem function_any (k : Nat) (hk : k ≤ 1000000) (K : PK) (p : Nat) (w : World) (h : Ctx K p 0 w) (t : T) (q : Nat) (hr : functionM K.L K.E k p = some (t, q)) :
    Calls Tryz.prog 95 #[ptrV K.rb] w (PP K 0 w (.ok t q) (NewTree w)) := by
  obtain ⟨i0, hi0, hz0, hz1, hz2⟩ := info_parts info_node
  unfold functionM at hr
  split at hr
  case isFalse => cases hr
  rename_i hcs
  obtain ⟨hk1, hlp, hrp, hlb⟩ := hcs
  obtain ⟨y, hy⟩ : ∃ y, blockP K.L K.E k 0 (p + 3) = y := ⟨_, rfl⟩
  rw [hy] at hr
  obtain ⟨b, q', rfl⟩ : ∃ b q', y = some (.ok b q') := by
    match y, hr with
    | some (.ok b q'), _ => exact ⟨b, q', rfl⟩
  simp only [Option.some.injEq, Prod.mk.injEq] at hr
  obtain ⟨hr, rfl⟩ := hr
  have HC := Lib.hid h
  have hrb := h.lt
  have hB := h.hB
  obtain ⟨⟨tk, tx, at_⟩, hT⟩ : ∃ T, nowP K.L K.E p = T := ⟨_, rfl⟩
  have HW := Lib.hid (fun w1 (hc : Ctx K p 0 w1) => word_p K p 0 w1 hc (.ok (nowP K.L K.E p) (p + 1)) (by unfold wordPP; rw [if_pos hk1]))
  have HX1 := Lib.hid (fun w1 (hc : Ctx K (p + 1) 0 w1) => expect_any K (p + 1) 0 ⟨#[40]⟩ w1 hc (.ok _ (p + 2)) (by unfold expectP; rw [if_pos (show isP K.L K.E (p + 1) (⟨#[40]⟩ : ByteArray).data.toList = true from hlp)]))
  have HX2 := Lib.hid (fun w1 (hc : Ctx K (p + 2) 0 w1) => expect_any K (p + 2) 0 ⟨#[41]⟩ w1 hc (.ok _ (p + 3)) (by unfold expectP; rw [if_pos (show isP K.L K.E (p + 2) (⟨#[41]⟩ : ByteArray).data.toList = true from hrp)]))
  have HI2 := Lib.hid (fun w1 (hc : Ctx K (p + 2) 0 w1) => is_any K (p + 2) 0 ⟨#[41]⟩ w1 hc)
  have HI3 := Lib.hid (fun w1 (hc : Ctx K (p + 3) 0 w1) => is_any K (p + 3) 0 ⟨#[123]⟩ w1 hc)
  have h2 : Hid (isP K.L K.E (p + 2) (⟨#[41]⟩ : ByteArray).data.toList = true) := hrp
  have h3 : Hid (isP K.L K.E (p + 3) (⟨#[123]⟩ : ByteArray).data.toList = true) := hlb
  have HE := Lib.hid (fun w1 (hc : Ctx K (p + 3) 0 w1) => (sAt k hk).block K (p + 3) 0 w1 hc (by decide) _ hy)
  rw [hT] at HW hr hk1
  simp only [] at hr hk1
  have HR := Lib.hid hr
  clear h hy hT hrp hlp hlb hr hk1
  go_enter Tryz.func95, Tryz.ntmps95
  go_wp2_with fail
  refine (HW.out _ (HC.out.alloc _)).mono ?_
  rintro e w1 ⟨hm1, v, rfl, rfl, hc1⟩
  have R1 := hm1.blk (blk_alloc _ _) (show w.heap.size ≠ K.rb by omega)
  have hM1 : Md K.rb w w1 := ((Md.refl _ _).alloc _).trans hm1
  have hs1 := blkLt R1
  clear hm1
  go_wp2_with fail
  refine (node_any 4 ⟨tk, tx, at_⟩ none 0 0 _).mono ?_
  rintro e w2 ⟨bn, rfl, hnb, hnd, hng⟩
  have R2 := hng.blk R1
  have hc2 := hc1.gr hng
  have hM2 := hM1.trans (.of_gr hng)
  have hbn := blkLt hnd
  have hz2' := blkLt R2
  have HND := Lib.hid hnd
  have hbR : bn ≠ K.rb := by omega
  have hcR : w2.heap.size ≠ K.rb := by omega
  clear hng R1 hc1 hM1 hnd
  go_wp2_with fail
  refine (HX1.out _ (hc2.alloc _)).mono ?_
  rintro e w3 ⟨hm3, v, rfl, rfl, hc3⟩
  have R3 := hm3.blk (blk_alloc_lt R2) (show w.heap.size ≠ K.rb by omega)
  have N3 := hm3.blk (blk_alloc _ _) hcR
  have D3 := hm3.blk (blk_alloc_lt HND.out) hbR
  have hM3 := (hM2.alloc _).trans hm3
  clear hm3 R2 hc2 hM2
  have HC3 := Lib.hid hc3
  have HM3 := Lib.hid hM3
  have HR3 := Lib.hid R3
  have HN3 := Lib.hid N3
  have HD3 := Lib.hid D3
  have hs3 := blkLt N3
  clear hc3 hM3 R3 N3 D3 HND
  go_wp2_with fail
  go_loopw [] (fun wr => wr = w3) (fun _ => 0)
  case atStart => rfl
  case round =>
    subst hrel
    go_wp2_with fail
    refine (HI2.out _ HC3.out).mono ?_
    rintro e w4 ⟨rfl, hg4⟩
    rw [h2.out]
    have R4 := hg4.blk HR3.out
    have N4 := hg4.blk HN3.out
    have D4 := hg4.blk HD3.out
    have hc4 := HC3.out.gr hg4
    have hM4 := HM3.out.trans (.of_gr hg4)
    clear hg4 HC3 HM3 HR3 HN3 HD3
    go_wp2_with fail
    refine (HX2.out _ hc4).mono ?_
    rintro e w5 ⟨hm5, v, rfl, rfl, hc5⟩
    have R5 := hm5.blk R4 (show w.heap.size ≠ K.rb by omega)
    have N5 := hm5.blk N4 hcR
    have D5 := hm5.blk D4 hbR
    have hM5 := hM4.trans hm5
    clear hm5 R4 N4 D4 hc4 hM4
    go_wp2_with fail
    refine (HI3.out _ hc5).mono ?_
    rintro e wa ⟨rfl, hga⟩
    rw [h3.out]
    have Ra := hga.blk R5
    have Na := hga.blk N5
    have Da := hga.blk D5
    have na := cellAt Na (i := 0) rfl
    have da := cellAt Da (i := 5) rfl
    have fa := frozenAt Da
    have hca := hc5.gr hga
    have hMa := hM5.trans (.of_gr hga)
    have hsa := blkLt Na
    have HRa := Lib.hid Ra
    have HNa := Lib.hid Na
    have HDa := Lib.hid Da
    have HKa : Hid (KidsAt (w2.heap.size + 1) wa (.slice none 0 0) [] []) := KidsAt.nil _ _
    obtain ⟨ks, hks⟩ : ∃ ks : List T, [] = ks := ⟨_, rfl⟩
    obtain ⟨bs, hbs⟩ : ∃ bs : List Nat, [] = bs := ⟨_, rfl⟩
    generalize hkv : Value.slice none 0 0 = kv at *
    rw [hks, hbs] at HKa
    have hkl : ks.length ≤ 1 := by rw [← hks]; decide
    have HKS := Lib.hid hks
    have HBS := Lib.hid hbs
    clear hks hbs hkv
    clear hga Ra Na Da R5 N5 D5 hc5 hM5
    go_wp2_with fail
    refine wp_region_K 13 (S := fun w' => w'.cell? ⟨w2.heap.size, 0, none⟩ = some (ptrV bn) ∧ w'.cell? ⟨bn, 5, none⟩ = some kv) rfl ⟨na, da⟩ (fun hS => ?_)
    refine wpAnyK_take (i := 0) (v := ?_) rfl (by kernel_rfl) (by kernel_rfl) (by kernel_rfl) (by kernel_rfl) (fun _ _ _ h => h) (Or.inl ⟨by rfl, ?_⟩) hS ?_
    rotate_left
    · intro w' hSw; (try dsimp only at hSw); go_simp; try with_reducible rfl
    (try simp only [sL, Act.put])
    refine wpAnyK_take (i := 1) (v := ?_) rfl (by kernel_rfl) (by kernel_rfl) (by kernel_rfl) (by kernel_rfl) (fun _ _ _ h => h) (Or.inl ⟨by rfl, ?_⟩) hS ?_
    rotate_left
    · intro w' hSw; (try dsimp only at hSw); go_simp; try with_reducible rfl
    (try simp only [sL, Act.put])
    refine wpAnyK_take (i := 2) (v := ?_) rfl (by kernel_rfl) (by kernel_rfl) (by kernel_rfl) (by kernel_rfl) (fun _ _ _ h => h) (Or.inl ⟨by rfl, ?_⟩) hS ?_
    rotate_left
    · intro w' hSw; (try dsimp only at hSw); go_simp; try with_reducible rfl
    (try simp only [sL, Act.put])
    refine wpAnyK_take (i := 3) (v := ?_) rfl (by kernel_rfl) (by kernel_rfl) (by kernel_rfl) (by kernel_rfl) (fun _ _ _ h => h) (Or.inl ⟨by rfl, ?_⟩) hS ?_
    rotate_left
    · intro w' hSw; (try dsimp only at hSw); go_simp; try with_reducible rfl
    (try simp only [sL, Act.put])
    refine wpAnyK_take (i := 4) (v := ?_) rfl (by kernel_rfl) (by kernel_rfl) (by kernel_rfl) (by kernel_rfl) (fun _ _ _ h => h) (Or.inl ⟨by rfl, ?_⟩) hS ?_
    rotate_left
    · intro w' hSw; (try dsimp only at hSw); go_simp; try with_reducible rfl
    (try simp only [sL, Act.put])
    refine wpAnyK_take (i := 5) (v := ?_) rfl (by kernel_rfl) (by kernel_rfl) (by kernel_rfl) (by kernel_rfl) (fun _ _ _ h => h) (Or.inl ⟨by rfl, ?_⟩) hS ?_
    rotate_left
    · intro w' hSw; (try dsimp only at hSw); go_simp; try with_reducible rfl
    (try simp only [sL, Act.put])
    refine wpAnyK_take (i := 6) (v := ?_) rfl (by kernel_rfl) (by kernel_rfl) (by kernel_rfl) (by kernel_rfl) (fun _ _ _ h => h) (Or.inl ⟨by rfl, ?_⟩) hS ?_
    rotate_left
    · intro w' hSw; (try dsimp only at hSw); go_simp; try with_reducible rfl
    (try simp only [sL, Act.put])
    refine wpAnyK_take (i := 7) (v := ?_) rfl (by kernel_rfl) (by kernel_rfl) (by kernel_rfl) (by kernel_rfl) (fun _ _ _ h => h) (Or.inl ⟨by rfl, ?_⟩) hS ?_
    rotate_left
    · intro w' hSw; (try dsimp only at hSw); go_simp; try with_reducible rfl
    (try simp only [sL, Act.put])
    refine wpAnyK_one (i := 8) (by kernel_rfl) rfl (fun K' hK => ?_)
    simp only [sL]
    go_simp
    refine (HE.out _ (by first | exact hca | exact hca.drew)).mono ?_
    rintro e wd ⟨hmd, v, rfl, ⟨b3, rfl, ht3⟩, hcd⟩
    have Nd : wd.heap[w2.heap.size]? = some (.cells #[ptrV bn] 53 (0, 0)) := hmd.blk HNa.out hcR
    have Dd : wd.heap[bn]? = some (.cells #[.int .i64 4, .string (S tx), .string (S []), .int .i64 0, .int .i64 at_, kv] 96 (0, 0)) := hmd.blk HDa.out hbR
    have hzd := blkLt Nd
    have hbnd := blkLt Dd
    have hsd := hmd.size
    have KD : Hid (KidsAt (w2.heap.size + 1) wd kv ks bs) := KidsAt.grown (row := some K.rb) (HKa.out.gr (Gr.refl wa).drew) hmd (fun k e => by injection e with e; omega)
    refine hK.out _ _ ⟨cellAt (Nd) rfl, cellAt (Dd) rfl⟩ (fun hS => ?_)
    (try simp only [sL, Act.put])
    refine wpAnyK_one (i := 9) (by kernel_rfl) rfl (fun K' hK => ?_)
    simp only [sL]
    go_simp
    refine hK.out _ _ ⟨cellAt (blk_alloc_lt Nd) rfl, cellAt (blk_alloc_lt Dd) rfl⟩ (fun hS => ?_)
    (try simp only [sL, Act.put])
    refine wpAnyK_one (i := 10) (by kernel_rfl) rfl (fun K' hK => ?_)
    simp only [sL]
    refine Eq.mpr (if_pos (by rfl)) ?_
    refine wp_append_lies _ _ _ _ (by rfl) (w2.heap.size + 1) 53 i0 _ 1 8 Tryz.underlying94 hi0 hz0 hz1 hz2 (by rfl) (by decide) kv ks.length (bs.map ptrV) (by rfl) (ownGr KD.out.own (Gr.al _ _)) ⟨wd.heap.size, 0, none⟩ 1 1 [ptrV b3] (by rfl) (by rfl) (news_ptr (blk_alloc _ _)) (one_ptr _) (by omega) (by unfold maxLen; omega) (by omega) (by simp; omega) (wd.heap.size + 1) (by simp) ?_
    intro g4 cap w4 hown4 hgrow hat hlt4
    have hro : ∀ k, kv.ownBlock = some k → w2.heap.size + 1 ≤ k ∧ k < wd.heap.size := KD.out.own_lt
    have N4 : w4.heap[w2.heap.size]? = some (.cells #[ptrV bn] 53 (0, 0)) := grown_blk hgrow (blk_alloc_lt Nd) (fun j e => by have := (hro j e).1; omega)
    have D4 : w4.heap[bn]? = some (.cells #[.int .i64 4, .string (S tx), .string (S []), .int .i64 0, .int .i64 at_, kv] 96 (0, 0)) := grown_blk hgrow (blk_alloc_lt Dd) (fun j e => by have := (hro j e).1; omega)
    have n4 := cellAt N4 (i := 0) rfl
    have d4 := cellAt D4 (i := 5) rfl
    have f4 := frozenAt D4
    refine hK.out _ _ ⟨n4, d4⟩ (fun hS => ?_)
    (try simp only [sL, Act.put])
    refine wpAnyK_one (i := 11) (by kernel_rfl) rfl (fun K' hK => ?_)
    simp only [sL]
    go_simp
    refine hK.out _ _ ⟨n4, d4⟩ (fun hS => ?_)
    (try simp only [sL, Act.put])
    refine wpAnyK_one (i := 12) (by kernel_rfl) rfl (fun K' hK => ?_)
    simp only [sL]
    go_simp
    refine hK.out _ _ ⟨n4, d4⟩ (fun hS => ?_)
    (try simp only [sL, Act.put])
    refine wpAnyK_end (by kernel_rfl) rfl (by kernel_rfl) ?_
    simp only [sL]
    go_simp
    clear hK hS
    all_goals
      have Rd := hmd.blk HRa.out (by omega)
      have R4 := grown_blk hgrow (blk_alloc_lt (o' := .cells #[ptrV b3] 53) Rd) (fun j e => by have := hro j e; omega)
      have hc4 := ((hcd.alloc (.cells #[ptrV b3] 53)).grown hgrow (fun k e => by have := hro k e; omega))
      have hM4 := Md.grown ((hMa.drew.trans hmd).alloc (.cells #[ptrV b3] 53)) hgrow (fun k e => by have := hro k e; omega)
      have K4 := KD.out.push (lo := wa.heap.size) (by omega) (fun k e => (HKa.out.own_lt k e).2) (ht3.imp (fun k _ hk => by simpa using hk)) (Gr.al _ _) hown4 hgrow (by simpa using hat)
      have N5 := blk_setCell_ne (a := ⟨bn, 5, none⟩) (v := .slice (some ⟨g4, 0, none⟩) (ks.length + 1) cap) N4 (by simp; omega)
      have R5 := blk_setCell_ne (a := ⟨bn, 5, none⟩) (v := .slice (some ⟨g4, 0, none⟩) (ks.length + 1) cap) R4 (by simp; omega)
      have D5 := blk_setCell_to (i := 5) (v := .slice (some ⟨g4, 0, none⟩) (ks.length + 1) cap) D4 rfl
      have n5 := cellAt N5 (i := 0) rfl
      have r5 := cellAt R5 (i := 0) rfl
      have f5 := frozenAt R5
      have K5 := K4.set (a := ⟨bn, 5, none⟩) (v := .slice (some ⟨g4, 0, none⟩) (ks.length + 1) cap) (by simp; omega)
      have hbn4 := blkLt D4
      have hN4l := blkLt N4
      have HD5 := Lib.hid D5
      have HK5 := Lib.hid K5
      clear N5 R5 D5 K4 K5 R4 Rd n4 d4 f4
      go_wp2_with fail
      refine bodyPost_ret (v := nodeV bn) (by simp [results, Tryz.results95, go_sem, r5]) rfl ?_
      rw [← HR.out]
      have hks := HKS.out
      have hbs := HBS.out
      subst hks hbs
      refine ⟨?_, _, rfl, ⟨bn, rfl, ?_⟩, ?_⟩
      · exact (hM4.setCell (.inl (by simp; omega)) _).setCell (.inl (by simp)) _
      · exact (HK5.out.set (a := ⟨w.heap.size, 0, none⟩) (by simp; omega)).tree (typ := []) (blk_setCell_ne HD5.out (by simp; omega)) (by omega) (fun k hk => by omega)
      · exact (hc4.setNew (by simp; omega) (by simp; omega) _).setNew (by simp; omega) (by simp; omega) _
end Go.Proofs.YthniejnbkkkbnaaGreatDoor
