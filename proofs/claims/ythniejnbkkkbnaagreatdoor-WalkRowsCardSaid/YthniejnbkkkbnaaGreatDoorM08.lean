/- Walks of layer parse: numbers, keys, signs' levels. -/
import Derived.Test.YthniejnbkkkbnaaGreatDoorM07
set_option linter.all false
set_option linter.unusedSimpArgs false
set_option linter.unusedVariables false
namespace Go.Proofs.YthniejnbkkkbnaaGreatDoor
open Go.RowKit
set_option maxRecDepth 100000
set_option maxHeartbeats 8000000

theorem TreeAt.leaf {w : World} {X : Nat → Prop} {b : Nat} {op n at_ : Int} {name typ : Str} {A : Option Addr} {c : Nat} (hX : X b)
    (hb : w.heap[b]? = some (.cells #[.int .i64 op, .string (S name), .string (S typ), .int .i64 n, .int .i64 at_, .slice A 0 c] 96 (0, 0))) : TreeAt w X b (.mk ⟨op, name, typ, n, at_⟩ []) :=
  .mk (bs := []) hX hb (.inl rfl) rfl (fun i b' t' hb' => by simp at hb')
/-- What is returned is a new tree. -/
def RetTree (w : World) (t : T) (e : Ending) (w' : World) : Prop := ∃ b, e = .returned (nodeV b) ∧ TreeAt w' (fun k => w.heap.size ≤ k) b t ∧ Gr w w'
theorem pnumber_any (t : Tok) (h1 : t.text ≠ []) (h2 : t.text.all isDigitB = true) (h3 : t.text.length ≤ 4096) (w : World) (hG : Glob w) :
    Calls Tryz.prog 338 #[tokV t] w (RetTree w (numberT t)) := by
  obtain ⟨k, tx, at_⟩ := t
  simp only [] at h1 h2 h3
  have HP : Hid (∀ w, Glob w → Calls Tryz.prog 147 #[.string (S tx)] w fun e w' => e = .returned (.tuple #[.int .i64 (numParseU tx).1, .int .i64 (numParseU tx).2]) ∧ Gr w w') := fun w hG => by
    have := numParse_any (S tx) (by rw [data_S]; exact h1) (by rw [data_S]; exact h2) (by rw [size_S]; exact h3) w hG
    rw [data_S] at this
    exact this
  obtain ⟨n, hn⟩ : ∃ n, numParseU tx = n := ⟨_, rfl⟩
  obtain ⟨n1, n2⟩ := n
  rw [hn] at HP
  have HN := Lib.hid hn
  have HG := Lib.hid hG
  clear hn h1 h2 h3 hG
  unfold tokV
  go_enter Tryz.func338, Tryz.ntmps338
  go_wp2_with fail
  refine (plain_any 15 at_ none 0 0 _).mono ?_
  rintro e w1 ⟨b, rfl, hnb, hnd, hng⟩
  simp only [World.size_alloc] at hnb
  have hg : Gr w w1 := ((Gr.al _ _).alloc _).trans hng
  have hbl := blkLt hnd
  have X1 := hng.blk (alloc2_fst _ _ _)
  have X2 := hng.blk (alloc2_snd _ _ _)
  have HX1 : Hid ((w1.alloc (.cells #[ptrV b] 53)).heap[w.heap.size]? = some (.cells #[.int .i64 k, .string (S tx), .int .i64 at_] 136 (0, 0))) := blk_alloc_lt X1
  have HX2 : Hid ((w1.alloc (.cells #[ptrV b] 53)).heap[w.heap.size + 1]? = some (.cells #[.pointer none] 53 (0, 0))) := blk_alloc_lt X2
  have HX3 : Hid ((w1.alloc (.cells #[ptrV b] 53)).heap[b]? = some (.cells #[.int .i64 15, .string ⟨#[]⟩, .string ⟨#[]⟩, .int .i64 0, .int .i64 at_, .slice none 0 0] 96 (0, 0))) := blk_alloc_lt hnd
  have HX4 : Hid ((w1.alloc (.cells #[ptrV b] 53)).heap[w1.heap.size]? = some (.cells #[ptrV b] 53 (0, 0))) := blk_alloc _ _
  have hz1 := hng.size
  simp only [World.size_alloc] at hz1
  have e1 : ¬ b = w1.heap.size := by omega
  have e2 : ¬ b = w.heap.size := by omega
  have e3 : ¬ b = w.heap.size + 1 := by omega
  have s1 : w1.cell? ⟨w.heap.size, 1, none⟩ = some (.string (S tx)) := cellAt X1 rfl
  have s0 : w1.cell? ⟨w.heap.size, 2, none⟩ = some (.int .i64 at_) := cellAt X1 rfl
  clear X1 X2 hnd hng
  go_wp2_with fail
  go_region_held3 (fun w' => w'.cell? ⟨w1.heap.size, 0, none⟩ = some (ptrV b) ∧ w'.cell? ⟨w.heap.size, 1, none⟩ = some (.string (S tx))) (first | exact ⟨cellAt HX4.out rfl, cellAt HX1.out rfl⟩ | exact ⟨s2a, s2b⟩ | go_keep) (first | (go_at_call 147; refine (HP.out _ (HG.out.gr ((hg.alloc _).drew))).mono ?_; rintro e w2 ⟨rfl, hg2⟩; have s2a := cellAt (hg2.blk HX4.out) (i := 0) rfl; have s2b := cellAt (hg2.blk HX1.out) (i := 1) rfl; have n4 := cellAt (hg2.blk HX3.out) (i := 3) rfl; have f4 := frozenAt (hg2.blk HX3.out)))
  have B5 := blk_setCell (i := 3) (v := .int .i64 n1) (hg2.blk HX3.out)
  have c1 : (w2.setCell ⟨b, 3, none⟩ (.int .i64 n1)).cell? ⟨w1.heap.size, 0, none⟩ = some (ptrV b) := cellAt (blk_setCell_ne (hg2.blk HX4.out) (by simp; omega)) rfl
  have c2 : (w2.setCell ⟨b, 3, none⟩ (.int .i64 n1)).cell? ⟨w.heap.size + 1, 0, none⟩ = some (.pointer none) := cellAt (blk_setCell_ne (hg2.blk HX2.out) (by simp; omega)) rfl
  have c3 := frozenAt (blk_setCell_ne (a := ⟨b, 3, none⟩) (v := .int .i64 n1) (hg2.blk HX2.out) (by simp; omega))
  clear s2a s2b n4 f4
  go_wp2_with fail
  refine bodyPost_ret (v := nodeV b) (by simp [results, Tryz.results338, go_sem, c2]) rfl ⟨b, rfl, ?_, ?_⟩
  · have e : numberT ⟨k, tx, at_⟩ = .mk ⟨15, [], [], n1, at_⟩ [] := by simp [numberT, HN.out]
    rw [e]
    exact .leaf (by omega) (blk_setCell_ne B5 (by simp; omega))
  · exact ((((hg.alloc _).drew).trans hg2).setCell (by simp; omega) _).setCell (by simp) _

/-- kind.key: what begins with a key. -/
theorem key_any (K : PK) (p d : Nat) (w : World) (h : Ctx K p d w) (hp : p < K.L.length) (r : PR T) (hr : keyP K.L K.E p = some r) :
    Calls Tryz.prog 340 #[ptrV K.rb] w (PP K d w r (NewTree w)) := by
  obtain ⟨⟨k, tx, at_⟩, hT⟩ : ∃ T, nowP K.L K.E p = T := ⟨_, rfl⟩
  have HT := Lib.hid (fun w1 (hc : Ctx K p d w1) => take_any K p d w1 hc hp)
  rw [hT] at HT
  unfold tokV at HT
  have HC := Lib.hid h
  unfold keyP at hr
  rw [hT] at hr
  simp only [] at hr
  have hrb := h.lt
  have hBB := h.hB
  clear h hT
  go_enter Tryz.func340, Tryz.ntmps340
  go_wp2_with fail
  refine (HT.out _ (HC.out.alloc _)).mono ?_
  rintro e w1 ⟨rfl, hc1, hm1⟩
  have hne0 : w.heap.size ≠ K.rb := by omega
  have X0 := hm1.blk (blk_alloc _ _) hne0
  have hz1 : w.heap.size < w1.heap.size := blkLt X0
  go_wp2_with fail
  refine (plain_any 17 at_ none 0 0 _).mono ?_
  rintro e w2 ⟨b, rfl, hnb, hnd, hng⟩
  simp only [World.size_alloc] at hnb
  have hbl := blkLt hnd
  have Y0 := hng.blk (blk_alloc_lt (o' := .cells #[.int .i64 k, .string (S tx), .int .i64 at_] 136) X0)
  have Y1 := hng.blk (blk_alloc w1 (.cells #[.int .i64 k, .string (S tx), .int .i64 at_] 136))
  have hm2 : Md K.rb w w2 := ((Md.of_gr (Gr.al _ _)).trans hm1).trans (.of_gr ((Gr.al _ _).trans hng))
  have hc2 := (hc1.alloc (.cells #[.int .i64 k, .string (S tx), .int .i64 at_] 136)).gr hng
  have hz2 : w1.heap.size < w2.heap.size := blkLt Y1
  obtain ⟨y0, y1, y2⟩ := cells3 Y1
  obtain ⟨d0, d1, d2, d3, d4, d5⟩ := cells6 hnd
  have hbl1 := hbl
  have fd := frozenAt hnd
  have q0 : w2.cell? ⟨w.heap.size, 0, none⟩ = some (.pointer none) := cellAt Y0 rfl
  have fq := frozenAt Y0
  have hlt0 : w.heap.size < w2.heap.size := by omega
  have e1 : ¬ b = w.heap.size := by omega
  have HY0 := Lib.hid Y0
  have HND := Lib.hid hnd
  clear X0 Y0 Y1 hng hm1 hc1 hnd
  have HM2 := Lib.hid hm2
  have HC2 := Lib.hid hc2
  clear hm2 hc2
  by_cases t1 : tx = xTrue
  · rw [if_pos t1] at hr
    injection hr with hr
    subst hr
    have k1 : ((S tx).toList == [(116 : UInt8), 114, 117, 101]) = true := by rw [ByteArray.toList_eq, data_S, t1]; rfl
    clear t1
    go_wp2_with fail
    refine bodyPost_ret (v := nodeV b) (by simp [results, Tryz.results340, go_sem, q0, hlt0, e1]) rfl ⟨(by repeat' (first | (with_reducible exact HM2.out) | (with_reducible refine Md.alloc ?_ _) | (with_reducible refine Md.drew ?_) | (with_reducible refine Md.drewN ?_ _) | (with_reducible refine Md.setCell ?_ (.inl (by first | omega | (simp; done) | (simp; omega))) _))), _, rfl, ⟨b, rfl, .leaf (by omega) (by repeat' (first | (with_reducible exact HND.out) | (with_reducible exact blk_alloc _ _) | (with_reducible refine blk_alloc_lt ?_) | (with_reducible refine blk_drew ?_) | (with_reducible refine blk_drewN ?_) | (with_reducible refine blk_setCell_ne ?_ (by first | omega | (simp; done) | (simp; omega))) | (with_reducible refine blk_setCell_to (cs := ?_) ?_ ?_) | rfl | exact HND.out))⟩, (by repeat' (first | (with_reducible exact HC2.out) | (with_reducible refine Ctx.alloc ?_ _) | (with_reducible refine Ctx.drew ?_) | (with_reducible refine Ctx.drewN ?_ _) | (with_reducible refine Ctx.setNew ?_ (by first | omega | (simp; done) | (simp; omega)) (by first | omega | (simp; done) | (simp; omega)) _)))⟩
  · rw [if_neg t1] at hr
    have k1 : ((S tx).toList == [(116 : UInt8), 114, 117, 101]) = false := by rw [ByteArray.toList_eq, data_S]; exact beq_eq_false_iff_ne.2 t1
    clear t1
    by_cases t2 : tx = xFalse
    · rw [if_pos t2] at hr
      injection hr with hr
      subst hr
      have k2 : ((S tx).toList == [(102 : UInt8), 97, 108, 115, 101]) = true := by rw [ByteArray.toList_eq, data_S, t2]; rfl
      clear t2
      go_wp2_with fail
      refine bodyPost_ret (v := nodeV b) (by simp [results, Tryz.results340, go_sem, q0, hlt0, e1]) rfl ⟨(by repeat' (first | (with_reducible exact HM2.out) | (with_reducible refine Md.alloc ?_ _) | (with_reducible refine Md.drew ?_) | (with_reducible refine Md.drewN ?_ _) | (with_reducible refine Md.setCell ?_ (.inl (by first | omega | (simp; done) | (simp; omega))) _))), _, rfl, ⟨b, rfl, .leaf (by omega) (by repeat' (first | (with_reducible exact HND.out) | (with_reducible exact blk_alloc _ _) | (with_reducible refine blk_alloc_lt ?_) | (with_reducible refine blk_drew ?_) | (with_reducible refine blk_drewN ?_) | (with_reducible refine blk_setCell_ne ?_ (by first | omega | (simp; done) | (simp; omega))) | (with_reducible refine blk_setCell_to (cs := ?_) ?_ ?_) | rfl | exact HND.out))⟩, (by repeat' (first | (with_reducible exact HC2.out) | (with_reducible refine Ctx.alloc ?_ _) | (with_reducible refine Ctx.drew ?_) | (with_reducible refine Ctx.drewN ?_ _) | (with_reducible refine Ctx.setNew ?_ (by first | omega | (simp; done) | (simp; omega)) (by first | omega | (simp; done) | (simp; omega)) _)))⟩
    · rw [if_neg t2] at hr
      have k2 : ((S tx).toList == [(102 : UInt8), 97, 108, 115, 101]) = false := by rw [ByteArray.toList_eq, data_S]; exact beq_eq_false_iff_ne.2 t2
      clear t2
      by_cases t3 : tx = xNew
      · rw [if_pos t3] at hr
        have k3 : ((S tx).toList == [(110 : UInt8), 101, 119]) = true := by rw [ByteArray.toList_eq, data_S, t3]; rfl
        clear t3
        obtain ⟨r1, hr1⟩ := expectP_some K.L K.E (p + 1) xLp
        have HE1 := Lib.hid (expect_any K (p + 1) d ⟨#[40]⟩ _ (HC2.out.alloc (.cells #[ptrV b] 53)) r1 hr1)
        rw [hr1] at hr
        clear hr1
        go_wp2_with fail
        refine HE1.out.mono ?_
        rintro e w3 ⟨hm3, hres⟩
        cases r1 with
        | err a er =>
          subst hres
          injection hr with hr
          subst hr
          exact ⟨rfl, (HM2.out.alloc _).trans hm3, rfl⟩
        | ok a1 p1 =>
          obtain ⟨v, rfl, rfl, hc3⟩ := hres
          simp only [pbind] at hr
          obtain ⟨r2, hr2⟩ := wordPP_some K.L K.E p1
          have HW := Lib.hid (word_p K p1 d w3 hc3 r2 hr2)
          rw [hr2] at hr
          clear hr2 HE1
          go_wp2_with fail
          refine HW.out.mono ?_
          rintro e w4 ⟨hm4, hres⟩
          cases r2 with
          | err a er =>
            subst hres
            injection hr with hr
            subst hr
            exact ⟨rfl, ((HM2.out.alloc _).trans hm3).trans hm4, rfl⟩
          | ok wt p2 =>
            obtain ⟨v, rfl, rfl, hc4⟩ := hres
            simp only [pbind] at hr
            go_wp2_with fail
            refine (node_any 19 wt none 0 0 _).mono ?_
            rintro e w5 ⟨b2, rfl, hnb2, hnd2, hng2⟩
            have hne1 : w2.heap.size ≠ K.rb := by omega
            have N5 := hng2.blk (hm4.blk (hm3.blk (blk_alloc w2 (.cells #[ptrV b] 53)) hne1) hne1)
            have Q5 := hng2.blk (hm4.blk (hm3.blk (blk_alloc_lt (o' := .cells #[ptrV b] 53) HY0.out) hne0) hne0)
            have n5 := cellAt N5 (i := 0) rfl
            have f5 := frozenAt N5
            have hc5 := hc4.gr hng2
            have hM5 : Md K.rb w w5 := (((HM2.out.alloc _).trans hm3).trans hm4).trans (.of_gr hng2)
            have hb2l := blkLt hnd2
            have hs3 := hm3.size
            have hs4 := hm4.size
            simp only [World.size_alloc] at hs3
            have HN5 := Lib.hid N5
            have HQ5 := Lib.hid Q5
            have HC5 := Lib.hid hc5
            have HM5 := Lib.hid hM5
            have HN2 := Lib.hid hnd2
            clear N5 Q5 hc5 hM5 hng2 hm4 hm3 hc4 HW hnd2
            obtain ⟨r3, hr3⟩ := expectP_some K.L K.E p2 xRp
            rw [hr3] at hr
            have HE3 := Lib.hid (fun w' (hc : Ctx K p2 d w') => expect_any K p2 d ⟨#[41]⟩ w' hc r3 hr3)
            clear hr3
            go_wp2_with fail
            refine (HE3.out _ (HC5.out.setNew (by simp; omega) (by simp; omega) _)).mono ?_
            rintro e w6 ⟨hm6, hres⟩
            cases r3 with
            | err a er =>
              subst hres
              injection hr with hr
              subst hr
              exact ⟨rfl, (HM5.out.setCell (.inl (by simp; omega)) _).trans hm6, rfl⟩
            | ok a3 p3 =>
              obtain ⟨v, rfl, rfl, hc6⟩ := hres
              simp only [pbind, Option.some.injEq] at hr
              subst hr
              have n6 := cellAt (hm6.blk (blk_setCell (i := 0) (v := ptrV b2) HN5.out) hne1) (i := 0) rfl
              have Q6 := hm6.blk (blk_setCell_ne (a := ⟨w2.heap.size, 0, none⟩) (v := ptrV b2) HQ5.out (by simp; omega)) hne0
              have q6 := cellAt Q6 (i := 0) rfl
              have hlt6 := blkLt Q6
              have fq6 := frozenAt Q6
              have hs6 := hm6.size
              rw [World.size_setCell] at hs6
              have D6 := hm6.blk (blk_setCell_ne (a := ⟨w2.heap.size, 0, none⟩) (v := ptrV b2) HN2.out (by simp; omega)) (by omega)
              go_wp2_with fail
              refine bodyPost_ret (v := nodeV b2) (by simp [results, Tryz.results340, go_sem, q6, hlt6]) rfl ⟨(by repeat' (first | (with_reducible exact (HM5.out.setCell (.inl (by simp; omega)) _).trans hm6) | (with_reducible refine Md.alloc ?_ _) | (with_reducible refine Md.drew ?_) | (with_reducible refine Md.drewN ?_ _) | (with_reducible refine Md.setCell ?_ (.inl (by first | omega | (simp; done) | (simp; omega))) _))), _, rfl, ⟨b2, rfl, .leaf (by omega) (by repeat' (first | (with_reducible exact D6) | (with_reducible exact blk_alloc _ _) | (with_reducible refine blk_alloc_lt ?_) | (with_reducible refine blk_drew ?_) | (with_reducible refine blk_drewN ?_) | (with_reducible refine blk_setCell_ne ?_ (by first | omega | (simp; done) | (simp; omega))) | (with_reducible refine blk_setCell_to (cs := ?_) ?_ ?_) | rfl | exact D6))⟩, (by repeat' (first | (with_reducible exact hc6) | (with_reducible refine Ctx.alloc ?_ _) | (with_reducible refine Ctx.drew ?_) | (with_reducible refine Ctx.drewN ?_ _) | (with_reducible refine Ctx.setNew ?_ (by first | omega | (simp; done) | (simp; omega)) (by first | omega | (simp; done) | (simp; omega)) _)))⟩
      · rw [if_neg t3] at hr
        have k3 : ((S tx).toList == [(110 : UInt8), 101, 119]) = false := by rw [ByteArray.toList_eq, data_S]; exact beq_eq_false_iff_ne.2 t3
        clear t3
        by_cases t4 : tx = xRead
        · rw [if_pos t4] at hr
          have k4 : ((S tx).toList == [(114 : UInt8), 101, 97, 100]) = true := by rw [ByteArray.toList_eq, data_S, t4]; rfl
          clear t4
          obtain ⟨r1, hr1⟩ := expectP_some K.L K.E (p + 1) xLp
          have HE1 := Lib.hid (expect_any K (p + 1) d ⟨#[40]⟩ _ (HC2.out.alloc (.cells #[ptrV b] 53)) r1 hr1)
          rw [hr1] at hr
          clear hr1
          go_wp2_with fail
          refine HE1.out.mono ?_
          rintro e w3 ⟨hm3, hres⟩
          cases r1 with
          | err a er =>
            subst hres
            injection hr with hr
            subst hr
            exact ⟨rfl, (HM2.out.alloc _).trans hm3, rfl⟩
          | ok a1 p1 =>
            obtain ⟨v, rfl, rfl, hc3⟩ := hres
            simp only [pbind] at hr
            obtain ⟨r3, hr3⟩ := expectP_some K.L K.E p1 xRp
            have HE3 := Lib.hid (expect_any K p1 d ⟨#[41]⟩ w3 hc3 r3 hr3)
            rw [hr3] at hr
            clear hr3 HE1
            have hne1 : w2.heap.size ≠ K.rb := by omega
            go_wp2_with fail
            refine HE3.out.mono ?_
            rintro e w4 ⟨hm4, hres⟩
            cases r3 with
            | err a er =>
              subst hres
              injection hr with hr
              subst hr
              exact ⟨rfl, ((HM2.out.alloc _).trans hm3).trans hm4, rfl⟩
            | ok a3 p3 =>
              obtain ⟨v, rfl, rfl, hc4⟩ := hres
              simp only [pbind, Option.some.injEq] at hr
              subst hr
              have N4 := hm4.blk (hm3.blk (blk_alloc w2 (.cells #[ptrV b] 53)) hne1) hne1
              have Q4 := hm4.blk (hm3.blk (blk_alloc_lt (o' := .cells #[ptrV b] 53) HY0.out) hne0) hne0
              have D4 := hm4.blk (hm3.blk (blk_alloc_lt (o' := .cells #[ptrV b] 53) HND.out) (by omega)) (by omega)
              have n4 := cellAt N4 (i := 0) rfl
              have q4 := cellAt Q4 (i := 0) rfl
              have fq4 := frozenAt Q4
              have o4 := cellAt D4 (i := 0) rfl
              have fo4 := frozenAt D4
              have hlt4 := blkLt Q4
              have hne4 : ¬ b = w2.heap.size := by omega
              have hM4 := ((HM2.out.alloc (.cells #[ptrV b] 53)).trans hm3).trans hm4
              clear y0 y1 y2 d0 d1 d2 d3 d4 d5 fd q0 fq
              go_wp2_with fail
              refine bodyPost_ret (v := nodeV b) (by simp [results, Tryz.results340, go_sem, q4, hlt4, e1]) rfl ⟨(by repeat' (first | (with_reducible exact hM4) | (with_reducible refine Md.alloc ?_ _) | (with_reducible refine Md.drew ?_) | (with_reducible refine Md.drewN ?_ _) | (with_reducible refine Md.setCell ?_ (.inl (by first | omega | (simp; done) | (simp; omega))) _))), _, rfl, ⟨b, rfl, .leaf (by omega) (by repeat' (first | (with_reducible exact D4) | (with_reducible exact blk_alloc _ _) | (with_reducible refine blk_alloc_lt ?_) | (with_reducible refine blk_drew ?_) | (with_reducible refine blk_drewN ?_) | (with_reducible refine blk_setCell_ne ?_ (by first | omega | (simp; done) | (simp; omega))) | (with_reducible refine blk_setCell_to (cs := ?_) ?_ ?_) | rfl | exact D4))⟩, (by repeat' (first | (with_reducible exact hc4) | (with_reducible refine Ctx.alloc ?_ _) | (with_reducible refine Ctx.drew ?_) | (with_reducible refine Ctx.drewN ?_ _) | (with_reducible refine Ctx.setNew ?_ (by first | omega | (simp; done) | (simp; omega)) (by first | omega | (simp; done) | (simp; omega)) _)))⟩
        · rw [if_neg t4] at hr
          injection hr with hr
          subst hr
          have k4 : ((S tx).toList == [(114 : UInt8), 101, 97, 100]) = false := by rw [ByteArray.toList_eq, data_S]; exact beq_eq_false_iff_ne.2 t4
          clear t4
          go_wp2_with fail
          refine bodyPost_ret (v := nodeV b) (by simp [results, Tryz.results340, go_sem, q0, hlt0, e1]) rfl ⟨(by repeat' (first | (with_reducible exact HM2.out) | (with_reducible refine Md.alloc ?_ _) | (with_reducible refine Md.drew ?_) | (with_reducible refine Md.drewN ?_ _) | (with_reducible refine Md.setCell ?_ (.inl (by first | omega | (simp; done) | (simp; omega))) _))), _, rfl, ⟨b, rfl, .leaf (by omega) (by repeat' (first | (with_reducible exact HND.out) | (with_reducible exact blk_alloc _ _) | (with_reducible refine blk_alloc_lt ?_) | (with_reducible refine blk_drew ?_) | (with_reducible refine blk_drewN ?_) | (with_reducible refine blk_setCell_ne ?_ (by first | omega | (simp; done) | (simp; omega))) | (with_reducible refine blk_setCell_to (cs := ?_) ?_ ?_) | rfl | exact HND.out))⟩, (by repeat' (first | (with_reducible exact HC2.out) | (with_reducible refine Ctx.alloc ?_ _) | (with_reducible refine Ctx.drew ?_) | (with_reducible refine Ctx.drewN ?_ _) | (with_reducible refine Ctx.setNew ?_ (by first | omega | (simp; done) | (simp; omega)) (by first | omega | (simp; done) | (simp; omega)) _)))⟩
end Go.Proofs.YthniejnbkkkbnaaGreatDoor
