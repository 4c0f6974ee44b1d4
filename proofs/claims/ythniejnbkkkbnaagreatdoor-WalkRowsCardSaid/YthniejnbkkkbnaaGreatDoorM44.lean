/- Walks of layer check: Source, where it is said. What the five runs of 'awake' answer, reckoned. -/
import Derived.Test.YthniejnbkkkbnaaGreatDoorM29
import Derived.Test.YthniejnbkkkbnaaGreatDoorM43
import Derived.Test.YthniejnbkkkbnaaGreatDoorM09
set_option linter.all false
set_option linter.unusedSimpArgs false
set_option linter.unusedVariables false
namespace Go.Proofs.YthniejnbkkkbnaaGreatDoor
open Go.RowKit
set_option maxRecDepth 100000
set_option maxHeartbeats 4000000

def xinfo (t : T) : Info := ⟨[], [], t.kids.map sigT⟩
def oneFun : List T → Bool
  | [] => true
  | [t] => t.d.op == 4 && partsOk t.kids && smallT t
  | _ => false
def isOkC : CR Unit → Bool | .ok _ => true | _ => false
def isBadC : CR Unit → Bool | .bad => true | _ => false
/-- Source, where it is said: the tree, and whether there is a main. -/
def sourceM (s : Str) : Option (T × CR Unit) :=
  match parseM s with
  | none => none
  | some t => if t.d.op == 1 && oneFun t.kids && isOkC (typesC (xinfo t) t.kids) && isOkC (bodiesC (xinfo t) t.kids) && !isBadC (mainC (xinfo t)) then some (t, mainC (xinfo t)) else none

def SrcPost (w : World) (t : T) (r : CR Unit) (e : Ending) (w' : World) : Prop := Gr w w' ∧ match r with
  | .ok _ => ∃ b fv, e = .returned (.tuple #[nodeV b, .agg #[nilS, nilS, fv], .int .i64 0, .int .i64 0]) ∧ TreeAt w' (fun k => w.heap.size ≤ k) b t ∧ SigsAt w' (fun k => w.heap.size ≤ k) fv (t.kids.map sigT)
  | .err a er => er ≠ 0 → e = .returned (.tuple #[nilV, .agg #[nilS, nilS, nilS], .int .i64 a, .int .i64 er])
  | .bad => True

theorem Source_any (s : ByteArray) (t : T) (r : CR Unit) (hs : sourceM s.data.toList = some (t, r)) (hr : ∀ a er, r = .err a er → er ≠ 0) (w : World) (hG : Glob w) :
    Calls Tryz.prog 22 #[.string s] w (SrcPost w t r) := by
  unfold sourceM at hs
  obtain ⟨y, hy⟩ : ∃ y, parseM s.data.toList = y := ⟨_, rfl⟩
  rw [hy] at hs
  cases y with
  | none => cases hs
  | some t' =>
    simp only [] at hs
    split at hs
    case isFalse => cases hs
    rename_i hc
    simp only [Option.some.injEq, Prod.mk.injEq] at hs
    obtain ⟨rfl, hrr⟩ := hs
    simp only [Bool.and_eq_true, beq_iff_eq, Bool.not_eq_true'] at hc
    obtain ⟨⟨⟨⟨hd, h1⟩, hty⟩, hbo⟩, hmn⟩ := hc
    obtain ⟨d, ks⟩ := t'
    have HP := Lib.hid (fun w' (hg : Gr w w') => Parse_any s _ hy w' (hG.gr hg))
    have hks : ks = [] ∨ ∃ t, ks = [t] ∧ t.d.op = 4 ∧ partsOk t.kids = true ∧ smallT t = true := by
      match ks, h1 with
      | [], _ => exact .inl rfl
      | [t], h1 =>
        have h1 : (t.d.op == 4 && partsOk t.kids && smallT t) = true := h1
        simp only [Bool.and_eq_true, beq_iff_eq] at h1
        exact .inr ⟨t, rfl, h1.1.1, h1.1.2, h1.2⟩
    have hty' : typesC ⟨[], [], ks.map sigT⟩ ks = .ok () := by
      have hty : isOkC (typesC ⟨[], [], ks.map sigT⟩ ks) = true := hty
      cases h : typesC ⟨[], [], ks.map sigT⟩ ks with
      | ok u => rfl
      | err a b => rw [h] at hty; cases hty
      | bad => rw [h] at hty; cases hty
    have hbo' : bodiesC ⟨[], [], ks.map sigT⟩ ks = .ok () := by
      have hbo : isOkC (bodiesC ⟨[], [], ks.map sigT⟩ ks) = true := hbo
      cases h : bodiesC ⟨[], [], ks.map sigT⟩ ks with
      | ok u => rfl
      | err a b => rw [h] at hbo; cases hbo
      | bad => rw [h] at hbo; cases hbo
    have hmn' : mainC ⟨[], [], ks.map sigT⟩ ≠ .bad := by
      intro h
      have hmn : isBadC (mainC ⟨[], [], ks.map sigT⟩) = false := hmn
      rw [h] at hmn
      cases hmn
    have HCK := Lib.hid (fun b X w' (ht : TreeAt w' X b (.mk d ks)) (hX : ∀ k, X k → k < w'.heap.size) => Check_any b d ks X w' hd hks ht hX hty' hbo' hmn')
    replace hrr : mainC ⟨[], [], ks.map sigT⟩ = r := hrr
    rw [hrr] at HCK hmn'
    clear hks hty hbo hmn hty' hbo' h1 hd hy hrr hG
    go_enter Tryz.func22, Tryz.ntmps22
    go_wp2_with fail
    have hG0 : Gr w ((w.alloc (.cells #[.pointer none] 53)).alloc (.cells #[.slice none 0 0, .slice none 0 0, .slice none 0 0] 56)) := (Gr.al _ _).alloc _
    have N0 := alloc2_fst w (.cells #[.pointer none] 53) (.cells #[.slice none 0 0, .slice none 0 0, .slice none 0 0] 56)
    have I0 := alloc2_snd w (.cells #[.pointer none] 53) (.cells #[.slice none 0 0, .slice none 0 0, .slice none 0 0] 56)
    refine (HP.out _ hG0).mono ?_
    rintro e w1 ⟨hg1, b, rfl, ht1⟩
    have N1 := hg1.blk N0
    have I1 := hg1.blk I0
    have hG1 := hG0.trans hg1
    have hs1 := blkLt I1
    have HT1 : Hid (TreeAt w1 (fun k => w.heap.size + 1 < k ∧ k < w1.heap.size) b (.mk d ks)) := ht1.imp fun k hk h => ⟨by simp at h; omega, hk⟩
    clear N0 I0 hG0 hg1 ht1
    go_wp2_with fail
    have hG2 := hG1.alloc (.cells #[ptrV b] 53)
    have T2 := blk_alloc w1 (.cells #[ptrV b] 53)
    have N2 := blk_alloc_lt (o' := .cells #[ptrV b] 53) N1
    have I2 := blk_alloc_lt (o' := .cells #[ptrV b] 53) I1
    have HT2 := Lib.hid (HT1.out.al (o := .cells #[ptrV b] 53))
    have hsz2 : (w1.alloc (.cells #[ptrV b] 53)).heap.size = w1.heap.size + 1 := by simp
    generalize hw2 : w1.alloc (.cells #[ptrV b] 53) = w2 at *
    refine (HCK.out b _ w2 HT2.out (fun k hk => by have := hk.2; omega)).mono ?_
    rintro e w3 ⟨hg3, hres⟩
    have hG3 := hG2.trans hg3
    have T3 := hg3.blk T2
    have N3 := hg3.blk N2
    have I3 := hg3.blk I2
    have HT3 := Lib.hid (HT2.out.gr hg3)
    have hs3 := hg3.size
    clear hw2 hG2 hg3 T2 N2 I2 HT2 HT1 N1 I1 hG1
    cases r with
    | bad => exact absurd rfl hmn'
    | err a er =>
      have her := hr a er rfl
      have hbe : (er != 0) = true := by simpa using her
      subst hres
      unfold nilS
      have n3 := cellAt N3 (i := 0) rfl
      have i30 := cellAt I3 (i := 0) rfl
      have i31 := cellAt I3 (i := 1) rfl
      have i32 := cellAt I3 (i := 2) rfl
      have fn := frozenAt N3
      have fi := frozenAt I3
      have hl3 := blkLt I3
      have hl3n := blkLt N3
      go_wp2_with fail
      refine bodyPost_ret (v := .tuple #[nilV, .agg #[.slice none 0 0, .slice none 0 0, .slice none 0 0], .int .i64 a, .int .i64 er]) (by simp [results, Tryz.results22, go_sem, n3, i30, i31, i32, hl3, hl3n]) rfl ⟨?_, fun _ => rfl⟩
      exact (by repeat' (first | (with_reducible exact hG3) | (with_reducible exact Gr.refl _) | (with_reducible refine Gr.alloc ?_ _) | (with_reducible refine Gr.drew ?_) | (with_reducible refine Gr.drewN ?_ _) | (with_reducible refine Gr.setCell ?_ (by first | omega | (simp; done) | (simp; omega)) _)))
    | ok u =>
      obtain ⟨fv, rfl, hsg⟩ := hres
      have HSG := Lib.hid hsg
      obtain ⟨fA, nf, fc, hfv⟩ : ∃ A n c, fv = .slice A n c := by
        obtain ⟨_, _, ⟨A, c, hv, _⟩, _⟩ := hsg
        exact ⟨A, _, c, hv⟩
      subst hfv
      unfold nilS
      clear hsg
      go_wp2_with fail
      have hG4 := hG3.alloc (.cells #[.slice none 0 0, .slice none 0 0, .slice fA nf fc] 56)
      have V4 := blk_alloc w3 (.cells #[.slice none 0 0, .slice none 0 0, .slice fA nf fc] 56)
      have T4 := blk_alloc_lt (o' := .cells #[.slice none 0 0, .slice none 0 0, .slice fA nf fc] 56) T3
      have N4 := blk_alloc_lt (o' := .cells #[.slice none 0 0, .slice none 0 0, .slice fA nf fc] 56) N3
      have I4 := blk_alloc_lt (o' := .cells #[.slice none 0 0, .slice none 0 0, .slice fA nf fc] 56) I3
      have HT4 := Lib.hid (HT3.out.al (o := .cells #[.slice none 0 0, .slice none 0 0, .slice fA nf fc] 56))
      have HS4 := Lib.hid (SigsAt.gr HSG.out (Gr.al w3 (.cells #[.slice none 0 0, .slice none 0 0, .slice fA nf fc] 56)))
      generalize hw4 : w3.alloc (.cells #[.slice none 0 0, .slice none 0 0, .slice fA nf fc] 56) = w4 at *
      have v40 := cellAt V4 (i := 0) rfl
      have v41 := cellAt V4 (i := 1) rfl
      have v42 := cellAt V4 (i := 2) rfl
      have t4 := cellAt T4 (i := 0) rfl
      have n4 := cellAt N4 (i := 0) rfl
      have i40 := cellAt I4 (i := 0) rfl
      have i41 := cellAt I4 (i := 1) rfl
      have i42 := cellAt I4 (i := 2) rfl
      have fn4 := frozenAt N4
      have fi4 := frozenAt I4
      have hl4 := blkLt V4
      have N5 : (w4.setCell ⟨w.heap.size, 0, none⟩ (.pointer (some ⟨b, 0, none⟩))).heap[w.heap.size]? = some (.cells #[ptrV b] 53 (0, 0)) := blk_setCell_to N4 rfl
      have V5 : (w4.setCell ⟨w.heap.size, 0, none⟩ (.pointer (some ⟨b, 0, none⟩))).heap[w3.heap.size]? = _ := blk_setCell_ne V4 (by simp; omega)
      have T5 : (w4.setCell ⟨w.heap.size, 0, none⟩ (.pointer (some ⟨b, 0, none⟩))).heap[w1.heap.size]? = _ := blk_setCell_ne T4 (by simp; omega)
      have I5 : (w4.setCell ⟨w.heap.size, 0, none⟩ (.pointer (some ⟨b, 0, none⟩))).heap[w.heap.size + 1]? = _ := blk_setCell_ne I4 (by simp)
      have v50 := cellAt V5 (i := 0) rfl
      have v51 := cellAt V5 (i := 1) rfl
      have v52 := cellAt V5 (i := 2) rfl
      have t5 := cellAt T5 (i := 0) rfl
      have V6 : ((((w4.setCell ⟨w.heap.size, 0, none⟩ (.pointer (some ⟨b, 0, none⟩))).setCell ⟨w.heap.size + 1, 0, none⟩ (.slice none 0 0)).setCell ⟨w.heap.size + 1, 1, none⟩ (.slice none 0 0)).setCell ⟨w.heap.size + 1, 2, none⟩ (.slice fA nf fc)).heap[w3.heap.size]? = _ := blk_setCell_ne (blk_setCell_ne (blk_setCell_ne V5 (by simp; omega)) (by simp; omega)) (by simp; omega)
      have T6 : ((((w4.setCell ⟨w.heap.size, 0, none⟩ (.pointer (some ⟨b, 0, none⟩))).setCell ⟨w.heap.size + 1, 0, none⟩ (.slice none 0 0)).setCell ⟨w.heap.size + 1, 1, none⟩ (.slice none 0 0)).setCell ⟨w.heap.size + 1, 2, none⟩ (.slice fA nf fc)).heap[w1.heap.size]? = _ := blk_setCell_ne (blk_setCell_ne (blk_setCell_ne T5 (by simp; omega)) (by simp; omega)) (by simp; omega)
      have N6 : ((((w4.setCell ⟨w.heap.size, 0, none⟩ (.pointer (some ⟨b, 0, none⟩))).setCell ⟨w.heap.size + 1, 0, none⟩ (.slice none 0 0)).setCell ⟨w.heap.size + 1, 1, none⟩ (.slice none 0 0)).setCell ⟨w.heap.size + 1, 2, none⟩ (.slice fA nf fc)).heap[w.heap.size]? = _ := blk_setCell_ne (blk_setCell_ne (blk_setCell_ne N5 (by simp)) (by simp)) (by simp)
      have I6 : ((((w4.setCell ⟨w.heap.size, 0, none⟩ (.pointer (some ⟨b, 0, none⟩))).setCell ⟨w.heap.size + 1, 0, none⟩ (.slice none 0 0)).setCell ⟨w.heap.size + 1, 1, none⟩ (.slice none 0 0)).setCell ⟨w.heap.size + 1, 2, none⟩ (.slice fA nf fc)).heap[w.heap.size + 1]? = some (.cells #[.slice none 0 0, .slice none 0 0, .slice fA nf fc] 56 (0, 0)) := blk_setCell_to (blk_setCell_to (blk_setCell_to I5 rfl) rfl) rfl
      have v60 := cellAt V6 (i := 0) rfl
      have v61 := cellAt V6 (i := 1) rfl
      have v62 := cellAt V6 (i := 2) rfl
      have t6 := cellAt T6 (i := 0) rfl
      have n6 := cellAt N6 (i := 0) rfl
      have i60 := cellAt I6 (i := 0) rfl
      have i61 := cellAt I6 (i := 1) rfl
      have i62 := cellAt I6 (i := 2) rfl
      have hGZ := (((hG4.setCell (p := ⟨w.heap.size, 0, none⟩) (by simp) (.pointer (some ⟨b, 0, none⟩))).setCell (p := ⟨w.heap.size + 1, 0, none⟩) (by simp) (.slice none 0 0)).setCell (p := ⟨w.heap.size + 1, 1, none⟩) (by simp) (.slice none 0 0)).setCell (p := ⟨w.heap.size + 1, 2, none⟩) (by simp) (.slice fA nf fc)
      have hfr : ∀ k, w.heap.size + 1 < k → ((((w4.setCell ⟨w.heap.size, 0, none⟩ (.pointer (some ⟨b, 0, none⟩))).setCell ⟨w.heap.size + 1, 0, none⟩ (.slice none 0 0)).setCell ⟨w.heap.size + 1, 1, none⟩ (.slice none 0 0)).setCell ⟨w.heap.size + 1, 2, none⟩ (.slice fA nf fc)).heap[k]? = w4.heap[k]? := fun k hk => by
        rw [Below.heap_setCell _ _ _ _ (show k ≠ w.heap.size + 1 by omega), Below.heap_setCell _ _ _ _ (show k ≠ w.heap.size + 1 by omega), Below.heap_setCell _ _ _ _ (show k ≠ w.heap.size + 1 by omega), Below.heap_setCell _ _ _ _ (show k ≠ w.heap.size by omega)]
      have HTZ := Lib.hid (HT4.out.frame fun k hk _ => hfr k hk.1)
      have HSZ := Lib.hid (SigsAt.frame HS4.out fun k hk _ => hfr k (by omega))
      clear hfr HT4 HS4 hw4 N5 N4 I5 I4 T5 T4 V5 V4
      go_region_held3 (fun w' => w'.cell? ⟨w1.heap.size, 0, none⟩ = some (ptrV b) ∧ w'.cell? ⟨w3.heap.size, 0, none⟩ = some (.slice none 0 0) ∧ w'.cell? ⟨w3.heap.size, 1, none⟩ = some (.slice none 0 0) ∧ w'.cell? ⟨w3.heap.size, 2, none⟩ = some (.slice fA nf fc)) (first | exact ⟨t4, v40, v41, v42⟩ | exact ⟨t5, v50, v51, v52⟩ | exact ⟨t6, v60, v61, v62⟩ | go_keep) (fail)
      go_wp2_with fail
      refine bodyPost_ret (v := .tuple #[nodeV b, .agg #[.slice none 0 0, .slice none 0 0, .slice fA nf fc], .int .i64 0, .int .i64 0]) (by simp [results, Tryz.results22, go_sem, n6, i60, i61, i62]) rfl ⟨hGZ.drew, b, _, rfl, ?_, ?_⟩
      · exact (HTZ.out.imp fun k _ hk => by omega).gr (Gr.refl _).drew
      · exact SigsAt.gr (HSZ.out.imp fun k _ hk => by omega) (Gr.refl _).drew
end Go.Proofs.YthniejnbkkkbnaaGreatDoor

namespace Go.Proofs.YthniejnbkkkbnaaGreatDoor
open Go.RowKit
set_option maxRecDepth 100000
set_option maxHeartbeats 4000000

/-- "func main() { print(1); }" -/
def txt1 : ByteArray := ⟨#[102, 117, 110, 99, 32, 109, 97, 105, 110, 40, 41, 32, 123, 32, 112, 114, 105, 110, 116, 40, 49, 41, 59, 32, 125]⟩
/-- "func main() { print(read() / read()); }" -/
def txt2 : ByteArray := ⟨#[102, 117, 110, 99, 32, 109, 97, 105, 110, 40, 41, 32, 123, 32, 112, 114, 105, 110, 116, 40, 114, 101, 97, 100, 40, 41, 32, 47, 32, 114, 101, 97, 100, 40, 41, 41, 59, 32, 125]⟩
/-- "func main() { }" -/
def txt3 : ByteArray := ⟨#[102, 117, 110, 99, 32, 109, 97, 105, 110, 40, 41, 32, 123, 32, 125]⟩
def body1 : T := .mk ⟨6, [], [], 0, 12⟩ [.mk ⟨12, [], [], 0, 14⟩ [.mk ⟨15, [], [], 1, 20⟩ []]]
def body2 : T := .mk ⟨6, [], [], 0, 12⟩ [.mk ⟨12, [], [], 0, 14⟩ [.mk ⟨24, [], [], 4, 27⟩ [.mk ⟨22, [], [], 0, 20⟩ [], .mk ⟨22, [], [], 0, 29⟩ []]]]
def body3 : T := .mk ⟨6, [], [], 0, 12⟩ []
theorem parse1 : parseM txt1.data.toList = some (.mk ⟨1, [], [], 0, 0⟩ [.mk ⟨4, xMain, [], 0, 5⟩ [body1]]) := by kernel_rfl
theorem src1 : sourceM txt1.data.toList = some (.mk ⟨1, [], [], 0, 0⟩ [.mk ⟨4, xMain, [], 0, 5⟩ [body1]], .ok ()) := by kernel_rfl
theorem src2 : sourceM txt2.data.toList = some (.mk ⟨1, [], [], 0, 0⟩ [.mk ⟨4, xMain, [], 0, 5⟩ [body2]], .ok ()) := by kernel_rfl
theorem src3 : sourceM txt3.data.toList = some (.mk ⟨1, [], [], 0, 0⟩ [.mk ⟨4, xMain, [], 0, 5⟩ [body3]], .ok ()) := by kernel_rfl
theorem src0 : sourceM (⟨#[]⟩ : ByteArray).data.toList = some (.mk ⟨1, [], [], 0, 0⟩ [], .err 0 8) := by kernel_rfl
theorem in1 : insideM 50 body1.kids ⟨[], 2, [], 0⟩ = .ok () ⟨[], 0, [1], 2⟩ := by kernel_rfl
theorem in2 : insideM 50 body1.kids ⟨[], 1, [], 0⟩ = .stop 3 0 ⟨[], 0, [], 1⟩ := by kernel_rfl
theorem in3 : insideM 50 body2.kids ⟨[6], 9, [], 0⟩ = .stop 2 11 ⟨[], 5, [], 4⟩ := by kernel_rfl
end Go.Proofs.YthniejnbkkkbnaaGreatDoor
