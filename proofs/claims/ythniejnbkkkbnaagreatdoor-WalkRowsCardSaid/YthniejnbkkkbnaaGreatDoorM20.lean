/- Walks of layer check: what a statement turns; change, back. Walks of layer check: put, back, define. -/
import Derived.Test.YthniejnbkkkbnaaGreatDoorM19
set_option linter.all false
set_option linter.unusedSimpArgs false
set_option linter.unusedVariables false
namespace Go.Proofs.YthniejnbkkkbnaaGreatDoor
open Go.RowKit
set_option maxRecDepth 100000
set_option maxHeartbeats 4000000

/-- The blocks that the checker may write. -/
def COwn (C : CK) (bv : Value) (ms : List Nat) (k : Nat) : Prop := k = C.cb ∨ some k = bv.ownBlock ∨ k ∈ ms
/-- All old blocks but some are as they were. -/
structure Fr (O : Nat → Prop) (w w' : World) : Prop where
  os : w'.os = w.os
  tape : w'.tape = w.tape
  output : w'.output = w.output
  size : w.heap.size ≤ w'.heap.size
  block : ∀ k, k < w.heap.size → ¬ O k → w'.heap[k]? = w.heap[k]?
theorem Fr.of_gr {O : Nat → Prop} {w w' : World} (h : Gr w w') : Fr O w w' := ⟨h.os, h.tape, h.output, h.size, fun k hk _ => h.block k hk⟩
theorem Fr.trans {O P : Nat → Prop} {a b c : World} (h : Fr O a b) (k : Fr P b c) (hs : ∀ i, P i → O i ∨ a.heap.size ≤ i) : Fr O a c :=
  ⟨k.os.trans h.os, k.tape.trans h.tape, k.output.trans h.output, Nat.le_trans h.size k.size, fun i hi hn => (k.block i (Nat.lt_of_lt_of_le hi h.size) (fun hp => by rcases hs i hp with h1 | h1; exact hn h1; omega)).trans (h.block i hi hn)⟩
theorem Fr.blk {O : Nat → Prop} {w w' : World} (h : Fr O w w') {k : Nat} {o : Obj} (hk : w.heap[k]? = some o) (hn : ¬ O k) : w'.heap[k]? = some o := by rw [h.block k (blkLt hk) hn]; exact hk
theorem Fr.gr {O : Nat → Prop} {a b c : World} (h : Fr O a b) (k : Gr b c) : Fr O a c := h.trans (P := fun _ => False) ⟨k.os, k.tape, k.output, k.size, fun i hi _ => k.block i hi⟩ (fun i hi => hi.elim)
theorem Fr.grl {O : Nat → Prop} {a b c : World} (h : Gr a b) (k : Fr O b c) : Fr O a c :=
  ⟨k.os.trans h.os, k.tape.trans h.tape, k.output.trans h.output, Nat.le_trans h.size k.size, fun i hi hn => (k.block i (Nat.lt_of_lt_of_le hi h.size) hn).trans (h.block i hi)⟩

structure SRel (C : CK) (bv : Value) (ms : List Nat) (w : World) (bv' : Value) (ms' : List Nat) (w' : World) : Prop where
  fr : Fr (COwn C bv ms) w w'
  sub : ∀ k, COwn C bv' ms' k → COwn C bv ms k ∨ w.heap.size ≤ k
theorem SRel.refl (C : CK) (bv : Value) (ms : List Nat) (w : World) : SRel C bv ms w bv ms w := ⟨.of_gr (Gr.refl w), fun k h => .inl h⟩
theorem SRel.of_gr {C : CK} {bv : Value} {ms : List Nat} {w w' : World} (h : Gr w w') : SRel C bv ms w bv ms w' := ⟨.of_gr h, fun k h => .inl h⟩
theorem SRel.trans {C : CK} {bv bv' bv'' : Value} {ms ms' ms'' : List Nat} {a b c : World} (h : SRel C bv ms a bv' ms' b) (k : SRel C bv' ms' b bv'' ms'' c) : SRel C bv ms a bv'' ms'' c :=
  ⟨h.fr.trans k.fr h.sub, fun i hi => by
    rcases k.sub i hi with h1 | h1
    · exact h.sub i h1
    · exact .inr (Nat.le_trans h.fr.size h1)⟩
theorem SRel.gr {C : CK} {bv bv' : Value} {ms ms' : List Nat} {a b c : World} (h : SRel C bv ms a bv' ms' b) (k : Gr b c) : SRel C bv ms a bv' ms' c := h.trans (.of_gr k)
theorem SRel.grl {C : CK} {bv bv' : Value} {ms ms' : List Nat} {a b c : World} (h : Gr a b) (k : SRel C bv ms b bv' ms' c) : SRel C bv ms a bv' ms' c := (SRel.of_gr h).trans k

theorem CkAt.own_lt {C : CK} {bl : List Blk} {ms : List Nat} {bv : Value} {w : World} (h : CkAt C bl ms bv w) {k : Nat} (hk : COwn C bv ms k) : k < w.heap.size := by
  rcases hk with rfl | hk | hk
  · exact h.lt
  · exact (h.row.lt k hk.symm).2
  · obtain ⟨i, hi, rfl⟩ := List.getElem_of_mem hk
    have hb : i < bl.length := by rw [← h.ml]; exact hi
    exact (h.mp i ms[i] bl[i] (by simp [hi]) (by simp [hb])).2.lt
theorem CkAt.own_X {C : CK} {bl : List Blk} {ms : List Nat} {bv : Value} {w : World} (h : CkAt C bl ms bv w) {k : Nat} (hk : C.X k) : ¬ COwn C bv ms k := by
  rintro (h1 | h1 | h1)
  · exact hk.2 h1
  · have := (h.row.lt k h1.symm).1; have := hk.1; omega
  · obtain ⟨i, hi, rfl⟩ := List.getElem_of_mem h1
    have hb : i < bl.length := by rw [← h.ml]; exact hi
    have := (h.mp i ms[i] bl[i] (by simp [hi]) (by simp [hb])).1
    have := hk.1; omega
/-- Trees stay. -/
theorem SRel.tree {C : CK} {bl : List Blk} {bv bv' : Value} {ms ms' : List Nat} {w w' : World} (h : SRel C bv ms w bv' ms' w') (hc : CkAt C bl ms bv w) {b : Nat} {t : T} (ht : TreeAt w C.X b t) : TreeAt w' C.X b t :=
  ht.frame fun k hk hlt => h.fr.block k hlt (hc.own_X hk)

/-- What a statement leaves. -/
def SPost (C : CK) (ms : List Nat) (bv : Value) (w : World) (r : CR (List Blk)) (e : Ending) (w' : World) : Prop :=
  match r with
  | .ok bl' => e = .returned (.tuple #[]) ∧ ∃ ms' bv', CkAt C bl' ms' bv' w' ∧ SRel C bv ms w bv' ms' w'
  | .err a c => e = thrownC (cstopV a c) ∧ Fr (COwn C bv ms) w w'
  | .bad => True
theorem SPost.same {C : CK} {bl : List Blk} {ms : List Nat} {bv : Value} {w w' : World} (h : CkAt C bl ms bv w) (hg : Gr w w') : SPost C ms bv w (.ok bl) (.returned (.tuple #[])) w' := ⟨rfl, ms, bv, h.gr hg, .of_gr hg⟩
theorem SPost.thr {C : CK} {ms : List Nat} {bv : Value} {w w' : World} {a c : Int} (hg : Gr w w') : SPost C ms bv w (.err a c) (thrownC (cstopV a c)) w' := ⟨rfl, .of_gr hg⟩

def assignR (x : Info) (bl : List Blk) (d : D) (ra : CR Str) : CR (List Blk) := cbind ra fun t => cbind (variableC x bl d) fun u => shortC u (if isFitP t u then .ok bl else .err d.at_ 7)
theorem cchange_assign (C : CK) (hok : C.Ok) (bl : List Blk) (ms : List Nat) (bv : Value) (b : Nat) (d : D) (ks : List T) (a : T) (hk : ks[0]? = some a) (w : World) (h : CkAt C bl ms bv w) (ht : TreeAt w C.X b (.mk d ks)) (hop : d.op = 8) (hsa : smallT a = true)
    (hbad : assignR C.x bl d (exprC C.x bl a) ≠ .bad) : Calls Tryz.prog 162 #[ptrV C.cb, nodeV b] w (SPost C ms bv w (assignR C.x bl d (exprC C.x bl a))) := by
  have HC := Lib.hid h
  have HOP := Lib.hid (fun w' (hg : Gr w w') => Op_any (nodeV b) (some (.mk d ks)) C.X w' ⟨b, rfl, ht.gr hg⟩)
  rw [show (dO (some (T.mk d ks))).op = d.op from rfl, hop] at HOP
  have HKD := Lib.hid (fun w' (hg : Gr w w') => Kid_some b (.mk d ks) C.X 0 (by decide) a hk w' (ht.gr hg))
  have hnb : exprC C.x bl a ≠ .bad := fun e => hbad (by rw [e]; rfl)
  have HEX := Lib.hid (fun ba w' (hg : Gr w w') (hta : TreeAt w' C.X ba a) => cexpr_ok C hok bl ms bv a ba w' (h.gr hg) hta hsa hnb)
  have HVA := Lib.hid (fun w' (hg : Gr w w') (hb : variableC C.x bl d ≠ .bad) => cvariable_any C bl ms bv b (.mk d ks) w' (h.gr hg) (ht.gr hg) hb)
  rw [show (T.mk d ks).d = d from rfl] at HVA
  have HMN := Lib.hid (fun er w' (hg : Gr w w') => must_no b (.mk d ks) C.X er w' (ht.gr hg))
  rw [show (T.mk d ks).d = d from rfl] at HMN
  have HMY := Lib.hid (fun er w' => must_yes (nodeV b) ⟨_, rfl⟩ er w')
  obtain ⟨ra, hra⟩ : ∃ ra, exprC C.x bl a = ra := ⟨_, rfl⟩
  rw [hra] at HEX hbad ⊢
  have HBD := Lib.hid hbad
  clear h ht hra hbad hnb hk hop
  go_enter Tryz.func162, Tryz.ntmps162
  go_wp2_with fail
  refine (HOP.out _ (Gr.al _ _)).mono ?_
  rintro e w1 ⟨rfl, hg1⟩
  have hG1 : Gr w w1 := (Gr.al _ _).trans hg1
  have B1 := hg1.blk (blk_alloc _ _)
  have b1 := cellAt B1 (i := 0) rfl
  go_wp2_with fail
  refine (HKD.out _ hG1).mono ?_
  rintro e w2 ⟨ba, rfl, hta, hg2⟩
  have B2 := hg2.blk B1
  have hG2 : Gr w w2 := hG1.trans hg2
  go_wp2_with fail
  refine (HEX.out ba _ hG2 (hta.gr hg2)).mono ?_
  rintro e w3 ⟨hg3, hres⟩
  have hG3 := hG2.trans hg3
  have B3 := hg3.blk B2
  clear hg1 B1 b1 hg2 hta B2 hg3
  cases ra with
  | bad => exact absurd rfl HBD.out
  | err ea ec =>
    simp only [] at hres
    subst hres
    exact ⟨rfl, SPost.thr hG3⟩
  | ok ty =>
    simp only [] at hres
    subst hres
    have b3 := cellAt B3 (i := 0) rfl
    have HB3 := Lib.hid B3
    have hvb : variableC C.x bl d ≠ .bad := fun e => HBD.out (by unfold assignR cbind; simp only [e])
    clear B3
    go_wp2_with fail
    refine wp_region_held_drew (S := fun w' => w'.cell? ⟨w.heap.size, 0, none⟩ = some (ptrV b)) rfl b3 (fun hS => ?_)
    refine wpAnyH_take (i := 0) (v := ?_) rfl (by kernel_rfl) (by kernel_rfl) (by kernel_rfl) (fun _ _ _ h => h) (Or.inl ⟨by rfl, ?_⟩) hS ?_
    rotate_left
    · intro w' hSw; (try dsimp only at hSw); go_simp; try with_reducible rfl
    (try simp only [Act.put, List.setIfInBounds_toArray, List.set_cons_zero, List.set_cons_succ])
    refine wpAnyH_take (i := 1) (v := ?_) rfl (by kernel_rfl) (by kernel_rfl) (by kernel_rfl) (fun _ _ _ h => h) (Or.inl ⟨by rfl, ?_⟩) hS ?_
    rotate_left
    · intro w' hSw; (try dsimp only at hSw); go_simp; try with_reducible rfl
    (try simp only [Act.put, List.setIfInBounds_toArray, List.set_cons_zero, List.set_cons_succ])
    refine wpAnyH_take (i := 2) (v := ?_) rfl (by kernel_rfl) (by kernel_rfl) (by kernel_rfl) (fun _ _ _ h => h) (Or.inl ⟨by rfl, ?_⟩) hS ?_
    rotate_left
    · intro w' hSw; (try dsimp only at hSw); go_simp; try with_reducible rfl
    (try simp only [Act.put, List.setIfInBounds_toArray, List.set_cons_zero, List.set_cons_succ])
    refine wpAnyH_take (i := 5) (v := ?_) rfl (by kernel_rfl) (by kernel_rfl) (by kernel_rfl) (fun _ _ _ h => h) (Or.inl ⟨by rfl, ?_⟩) hS ?_
    rotate_left
    · intro w' hSw; (try dsimp only at hSw); go_simp; try with_reducible rfl
    (try simp only [Act.put, List.setIfInBounds_toArray, List.set_cons_zero, List.set_cons_succ])
    refine wpAnyH_ready (rs := [3]) (by kernel_rfl) (by simp) ?_
    refine AllReadyH.cons rfl (fun K' hK => ?_) AllReadyH.nil
    simp only [List.getElem_toArray, List.getElem_cons_succ, List.getElem_cons_zero]
    go_simp
    refine (HVA.out _ hG3.drew hvb).mono ?_
    rintro e w4 ⟨hg4, hres⟩
    have B4 := hg4.blk HB3.out
    have hG4 : Gr w w4 := hG3.drew.trans hg4
    cases hV : variableC C.x bl d with
    | bad => exact absurd hV hvb
    | err ea ec =>
      rw [hV] at hres
      simp only [] at hres
      subst hres
      refine ⟨rfl, ?_⟩
      have hr : assignR C.x bl d (.ok ty) = .err ea ec := by unfold assignR cbind; simp only [hV]
      rw [hr]
      exact SPost.thr hG4
    | ok tz =>
      rw [hV] at hres
      simp only [] at hres
      subst hres
      have hr : assignR C.x bl d (.ok ty) = shortC tz (if isFitP ty tz then .ok bl else .err d.at_ 7) := by unfold assignR cbind; simp only [hV]
      have hsh : tz.length < 1000000 := by
        apply Decidable.byContradiction
        intro hc
        exact HBD.out (by rw [hr]; unfold shortC; rw [if_neg hc])
      unfold shortC at hr
      rw [if_pos hsh] at hr
      have HR := Lib.hid hr
      clear hr
      have HFT := Lib.hid (isFit_any ty tz hsh)
      refine hK.out _ _ (cellAt B4 rfl) (fun hS => ?_)
      (try simp only [Act.put, List.setIfInBounds_toArray, List.set_cons_zero, List.set_cons_succ])
      refine wpAnyH_ready (rs := [4]) (by kernel_rfl) (by simp) ?_
      refine AllReadyH.cons rfl (fun K' hK => ?_) AllReadyH.nil
      simp only [List.getElem_toArray, List.getElem_cons_succ, List.getElem_cons_zero]
      go_simp
      refine (HFT.out _).mono ?_
      rintro e w5 ⟨rfl, hg5⟩
      have B5 := hg5.blk B4
      have hG5 := hG4.trans hg5
      refine hK.out _ _ (cellAt B5 rfl) (fun hS => ?_)
      (try simp only [Act.put, List.setIfInBounds_toArray, List.set_cons_zero, List.set_cons_succ])
      refine wpAnyH_ready (rs := [6]) (by kernel_rfl) (by simp) ?_
      refine AllReadyH.cons rfl (fun K' hK => ?_) AllReadyH.nil
      simp only [List.getElem_toArray, List.getElem_cons_succ, List.getElem_cons_zero]
      go_simp
      cases hq : isFitP ty tz
      · refine (HMN.out 7 _ hG5).mono ?_
        rintro e w6 ⟨rfl, hg6⟩
        refine ⟨rfl, ?_⟩
        rw [HR.out, hq]
        exact SPost.thr (hG5.trans hg6)
      · refine (HMY.out 7 _).mono ?_
        rintro e w6 ⟨rfl, hg6⟩
        have B6 := hg6.blk B5
        have hG6 := hG5.trans hg6
        refine hK.out _ _ (cellAt B6 rfl) (fun hS => ?_)
        (try simp only [Act.put, List.setIfInBounds_toArray, List.set_cons_zero, List.set_cons_succ])
        refine wpAnyH_done (by kernel_rfl) ?_ _
        (try simp only [List.getElem_toArray, List.getElem_cons_succ, List.getElem_cons_zero, Act.put, List.setIfInBounds_toArray, List.set_cons_zero, List.set_cons_succ])
        have HQ := Lib.hid hq
        clear hK hq B4 B5 B6 hg4 hg5 hg6 hV
        go_wp2_with fail
        go_end0
        rw [HR.out, HQ.out]
        exact SPost.same HC.out hG6
end Go.Proofs.YthniejnbkkkbnaaGreatDoor

namespace Go.Proofs.YthniejnbkkkbnaaGreatDoor
open Go.RowKit
set_option maxRecDepth 100000
set_option maxHeartbeats 4000000

def putR (x : Info) (bl : List Blk) (d : D) (ra rb : CR Str) : CR (List Blk) := cbind ra fun s => cbind rb fun t => cbind (fieldC x d s) fun u => shortC u (if isFitP t u then .ok bl else .err d.at_ 7)
theorem cchange_put (C : CK) (hok : C.Ok) (bl : List Blk) (ms : List Nat) (bv : Value) (b : Nat) (d : D) (ks : List T) (a a2 : T) (hk : ks[0]? = some a) (hk2 : ks[1]? = some a2) (w : World) (h : CkAt C bl ms bv w) (ht : TreeAt w C.X b (.mk d ks)) (hop : d.op = 9) (hsa : smallT a = true) (hsb : smallT a2 = true)
    (hbad : putR C.x bl d (exprC C.x bl a) (exprC C.x bl a2) ≠ .bad) : Calls Tryz.prog 162 #[ptrV C.cb, nodeV b] w (SPost C ms bv w (putR C.x bl d (exprC C.x bl a) (exprC C.x bl a2))) := by
  have HC := Lib.hid h
  have HOP := Lib.hid (fun w' (hg : Gr w w') => Op_any (nodeV b) (some (.mk d ks)) C.X w' ⟨b, rfl, ht.gr hg⟩)
  rw [show (dO (some (T.mk d ks))).op = d.op from rfl, hop] at HOP
  have HKD := Lib.hid (fun w' (hg : Gr w w') => Kid_some b (.mk d ks) C.X 0 (by decide) a hk w' (ht.gr hg))
  have HKE := Lib.hid (fun w' (hg : Gr w w') => Kid_some b (.mk d ks) C.X 1 (by decide) a2 hk2 w' (ht.gr hg))
  have hnb : exprC C.x bl a ≠ .bad := fun e => hbad (by rw [e]; rfl)
  have HEX := Lib.hid (fun ba w' (hg : Gr w w') (hta : TreeAt w' C.X ba a) => cexpr_ok C hok bl ms bv a ba w' (h.gr hg) hta hsa hnb)
  have HEY := Lib.hid (fun ba w' (hg : Gr w w') (hnb : exprC C.x bl a2 ≠ .bad) (hta : TreeAt w' C.X ba a2) => cexpr_ok C hok bl ms bv a2 ba w' (h.gr hg) hta hsb hnb)
  have HFD := Lib.hid (fun base w' (hg : Gr w w') (hb : fieldC C.x d base ≠ .bad) => cfield_any C bl ms bv b (.mk d ks) base w' (h.gr hg) (ht.gr hg) hb hok.sf)
  rw [show (T.mk d ks).d = d from rfl] at HFD
  have HMN := Lib.hid (fun er w' (hg : Gr w w') => must_no b (.mk d ks) C.X er w' (ht.gr hg))
  rw [show (T.mk d ks).d = d from rfl] at HMN
  have HMY := Lib.hid (fun er w' => must_yes (nodeV b) ⟨_, rfl⟩ er w')
  obtain ⟨ra, hra⟩ : ∃ ra, exprC C.x bl a = ra := ⟨_, rfl⟩
  obtain ⟨rb, hrb⟩ : ∃ rb, exprC C.x bl a2 = rb := ⟨_, rfl⟩
  rw [hra] at HEX hbad ⊢
  rw [hrb] at HEY hbad ⊢
  have HBD := Lib.hid hbad
  clear h ht hra hrb hbad hnb hk hk2 hop
  go_enter Tryz.func162, Tryz.ntmps162
  go_wp2_with fail
  refine (HOP.out _ (Gr.al _ _)).mono ?_
  rintro e w1 ⟨rfl, hg1⟩
  have hG1 : Gr w w1 := (Gr.al _ _).trans hg1
  have B1 := hg1.blk (blk_alloc _ _)
  have b1 := cellAt B1 (i := 0) rfl
  go_wp2_with fail
  refine (HKD.out _ hG1).mono ?_
  rintro e w2 ⟨ba, rfl, hta, hg2⟩
  have B2 := hg2.blk B1
  have hG2 : Gr w w2 := hG1.trans hg2
  go_wp2_with fail
  refine (HEX.out ba _ hG2 (hta.gr hg2)).mono ?_
  rintro e w3 ⟨hg3, hres⟩
  have hG3 := hG2.trans hg3
  have B3 := hg3.blk B2
  clear hg1 B1 b1 hg2 hta B2 hg3
  cases ra with
  | bad => exact absurd rfl HBD.out
  | err ea ec =>
    simp only [] at hres
    subst hres
    exact ⟨rfl, SPost.thr hG3⟩
  | ok ty =>
    simp only [] at hres
    subst hres
    have b3 := cellAt B3 (i := 0) rfl
    go_wp2_with fail
    refine (HKE.out _ hG3).mono ?_
    rintro e w4 ⟨bb, rfl, htb, hg4⟩
    have B4 := hg4.blk B3
    have hG4 : Gr w w4 := hG3.trans hg4
    go_wp2_with fail
    refine (HEY.out bb _ hG4 (fun e => HBD.out (by rw [e]; rfl)) (htb.gr hg4)).mono ?_
    rintro e w5 ⟨hg5, hres⟩
    have hG5 := hG4.trans hg5
    have B5 := hg5.blk B4
    clear b3 B3 hg4 htb B4 hg5
    cases rb with
    | bad => exact absurd rfl HBD.out
    | err ea ec =>
      simp only [] at hres
      subst hres
      exact ⟨rfl, SPost.thr hG5⟩
    | ok tt =>
      simp only [] at hres
      subst hres
      have b5 := cellAt B5 (i := 0) rfl
      have HB5 := Lib.hid B5
      have hvb : fieldC C.x d ty ≠ .bad := fun e => HBD.out (by unfold putR cbind; simp only [e])
      clear B5
      go_wp2_with fail
      refine wp_region_held_drew (S := fun w' => w'.cell? ⟨w.heap.size, 0, none⟩ = some (ptrV b)) rfl b5 (fun hS => ?_)
      refine wpAnyH_take (i := 0) (v := ?_) rfl (by kernel_rfl) (by kernel_rfl) (by kernel_rfl) (fun _ _ _ h => h) (Or.inl ⟨by rfl, ?_⟩) hS ?_
      rotate_left
      · intro w' hSw; (try dsimp only at hSw); go_simp; try with_reducible rfl
      (try simp only [Act.put, List.setIfInBounds_toArray, List.set_cons_zero, List.set_cons_succ])
      refine wpAnyH_take (i := 1) (v := ?_) rfl (by kernel_rfl) (by kernel_rfl) (by kernel_rfl) (fun _ _ _ h => h) (Or.inl ⟨by rfl, ?_⟩) hS ?_
      rotate_left
      · intro w' hSw; (try dsimp only at hSw); go_simp; try with_reducible rfl
      (try simp only [Act.put, List.setIfInBounds_toArray, List.set_cons_zero, List.set_cons_succ])
      refine wpAnyH_take (i := 2) (v := ?_) rfl (by kernel_rfl) (by kernel_rfl) (by kernel_rfl) (fun _ _ _ h => h) (Or.inl ⟨by rfl, ?_⟩) hS ?_
      rotate_left
      · intro w' hSw; (try dsimp only at hSw); go_simp; try with_reducible rfl
      (try simp only [Act.put, List.setIfInBounds_toArray, List.set_cons_zero, List.set_cons_succ])
      refine wpAnyH_take (i := 3) (v := ?_) rfl (by kernel_rfl) (by kernel_rfl) (by kernel_rfl) (fun _ _ _ h => h) (Or.inl ⟨by rfl, ?_⟩) hS ?_
      rotate_left
      · intro w' hSw; (try dsimp only at hSw); go_simp; try with_reducible rfl
      (try simp only [Act.put, List.setIfInBounds_toArray, List.set_cons_zero, List.set_cons_succ])
      refine wpAnyH_take (i := 6) (v := ?_) rfl (by kernel_rfl) (by kernel_rfl) (by kernel_rfl) (fun _ _ _ h => h) (Or.inl ⟨by rfl, ?_⟩) hS ?_
      rotate_left
      · intro w' hSw; (try dsimp only at hSw); go_simp; try with_reducible rfl
      (try simp only [Act.put, List.setIfInBounds_toArray, List.set_cons_zero, List.set_cons_succ])
      refine wpAnyH_ready (rs := [4]) (by kernel_rfl) (by simp) ?_
      refine AllReadyH.cons rfl (fun K' hK => ?_) AllReadyH.nil
      simp only [List.getElem_toArray, List.getElem_cons_succ, List.getElem_cons_zero]
      go_simp
      refine (HFD.out ty _ hG5.drew hvb).mono ?_
      rintro e w6 ⟨hg6, hres⟩
      have B6 := hg6.blk HB5.out
      have hG6 : Gr w w6 := hG5.drew.trans hg6
      cases hV : fieldC C.x d ty with
      | bad => exact absurd hV hvb
      | err ea ec =>
        rw [hV] at hres
        simp only [] at hres
        subst hres
        refine ⟨rfl, ?_⟩
        have hr : putR C.x bl d (.ok ty) (.ok tt) = .err ea ec := by unfold putR cbind; simp only [hV]
        rw [hr]
        exact SPost.thr hG6
      | ok tz =>
        rw [hV] at hres
        simp only [] at hres
        subst hres
        have hr : putR C.x bl d (.ok ty) (.ok tt) = shortC tz (if isFitP tt tz then .ok bl else .err d.at_ 7) := by unfold putR cbind; simp only [hV]
        have hsh : tz.length < 1000000 := by
          apply Decidable.byContradiction
          intro hc
          exact HBD.out (by rw [hr]; unfold shortC; rw [if_neg hc])
        unfold shortC at hr
        rw [if_pos hsh] at hr
        have HR := Lib.hid hr
        clear hr
        have HFT := Lib.hid (isFit_any tt tz hsh)
        refine hK.out _ _ (cellAt B6 rfl) (fun hS => ?_)
        (try simp only [Act.put, List.setIfInBounds_toArray, List.set_cons_zero, List.set_cons_succ])
        refine wpAnyH_ready (rs := [5]) (by kernel_rfl) (by simp) ?_
        refine AllReadyH.cons rfl (fun K' hK => ?_) AllReadyH.nil
        simp only [List.getElem_toArray, List.getElem_cons_succ, List.getElem_cons_zero]
        go_simp
        refine (HFT.out _).mono ?_
        rintro e w7 ⟨rfl, hg7⟩
        have B7 := hg7.blk B6
        have hG7 := hG6.trans hg7
        refine hK.out _ _ (cellAt B7 rfl) (fun hS => ?_)
        (try simp only [Act.put, List.setIfInBounds_toArray, List.set_cons_zero, List.set_cons_succ])
        refine wpAnyH_ready (rs := [7]) (by kernel_rfl) (by simp) ?_
        refine AllReadyH.cons rfl (fun K' hK => ?_) AllReadyH.nil
        simp only [List.getElem_toArray, List.getElem_cons_succ, List.getElem_cons_zero]
        go_simp
        cases hq : isFitP tt tz
        · refine (HMN.out 7 _ hG7).mono ?_
          rintro e w8 ⟨rfl, hg8⟩
          refine ⟨rfl, ?_⟩
          rw [HR.out, hq]
          exact SPost.thr (hG7.trans hg8)
        · refine (HMY.out 7 _).mono ?_
          rintro e w8 ⟨rfl, hg8⟩
          have B8 := hg8.blk B7
          have hG8 := hG7.trans hg8
          refine hK.out _ _ (cellAt B8 rfl) (fun hS => ?_)
          (try simp only [Act.put, List.setIfInBounds_toArray, List.set_cons_zero, List.set_cons_succ])
          refine wpAnyH_done (by kernel_rfl) ?_ _
          (try simp only [List.getElem_toArray, List.getElem_cons_succ, List.getElem_cons_zero, Act.put, List.setIfInBounds_toArray, List.set_cons_zero, List.set_cons_succ])
          have HQ := Lib.hid hq
          clear hK hq B6 B7 B8 hg6 hg7 hg8 hV
          go_wp2_with fail
          go_end0
          rw [HR.out, HQ.out]
          exact SPost.same HC.out hG8

theorem cback_none (C : CK) (bl : List Blk) (ms : List Nat) (bv : Value) (b : Nat) (d : D) (w : World) (h : CkAt C bl ms bv w) (ht : TreeAt w C.X b (.mk d [])) :
    Calls Tryz.prog 164 #[ptrV C.cb, nodeV b] w (SPost C ms bv w (if C.res = [] then .ok bl else .err d.at_ 7)) := by
  have HC := Lib.hid h
  have HKS := Lib.hid (fun w' (hg : Gr w w') => Kids_any (nodeV b) (some (.mk d [])) C.X w' ⟨b, rfl, ht.gr hg⟩)
  rw [show ((kidsO (some (T.mk d []))).length : Int) = 0 from rfl] at HKS
  have HMN := Lib.hid (fun er w' (hg : Gr w w') => must_no b (.mk d []) C.X er w' (ht.gr hg))
  rw [show (T.mk d []).d = d from rfl] at HMN
  have HMY := Lib.hid (fun er w' => must_yes (nodeV b) ⟨_, rfl⟩ er w')
  have hres := emptyS C.res
  have hR : Hid ((if C.res = [] then CR.ok bl else CR.err d.at_ 7) = if (C.res == []) = true then .ok bl else .err d.at_ 7) := by
    show _ = _
    by_cases hc : C.res = [] <;> simp [hc]
  generalize hq : (C.res == []) = q at *
  obtain ⟨R, hRR⟩ : ∃ R, (if C.res = [] then CR.ok bl else CR.err d.at_ 7) = R := ⟨_, rfl⟩
  rw [hRR] at hR ⊢
  clear h ht hRR hq
  go_enter Tryz.func164, Tryz.ntmps164
  go_wp2_with fail
  refine (HKS.out _ (Gr.al _ _)).mono ?_
  rintro e w1 ⟨rfl, hg1⟩
  have hG1 : Gr w w1 := (Gr.al _ _).trans hg1
  have B1 := hg1.blk (blk_alloc _ _)
  have b1 := cellAt B1 (i := 0) rfl
  have c4 := (HC.out.gr hG1).cells.2.2.2.2
  have hl1 := (HC.out.gr hG1).lt
  go_wp2_with fail
  refine wp_region_held_drew (S := fun w' => w'.cell? ⟨w.heap.size, 0, none⟩ = some (ptrV b) ∧ w'.cell? ⟨C.cb, 4, none⟩ = some (.string (S C.res))) rfl ⟨b1, c4⟩ (fun hS => ?_)
  refine wpAnyH_take (i := 0) (v := ?_) rfl (by kernel_rfl) (by kernel_rfl) (by kernel_rfl) (fun _ _ _ h => h) (Or.inl ⟨by rfl, ?_⟩) hS ?_
  rotate_left
  · intro w' hSw; (try dsimp only at hSw); go_simp; try with_reducible rfl
  (try simp only [Act.put, List.setIfInBounds_toArray, List.set_cons_zero, List.set_cons_succ])
  refine wpAnyH_take (i := 1) (v := ?_) rfl (by kernel_rfl) (by kernel_rfl) (by kernel_rfl) (fun _ _ _ h => h) (Or.inl ⟨by rfl, ?_⟩) hS ?_
  rotate_left
  · intro w' hSw; (try dsimp only at hSw); go_simp; try with_reducible rfl
  (try simp only [Act.put, List.setIfInBounds_toArray, List.set_cons_zero, List.set_cons_succ])
  refine wpAnyH_take (i := 2) (v := ?_) rfl (by kernel_rfl) (by kernel_rfl) (by kernel_rfl) (fun _ _ _ h => h) (Or.inl ⟨by rfl, ?_⟩) hS ?_
  rotate_left
  · intro w' hSw; (try dsimp only at hSw); go_simp; try with_reducible rfl
  (try simp only [Act.put, List.setIfInBounds_toArray, List.set_cons_zero, List.set_cons_succ])
  refine wpAnyH_take (i := 3) (v := ?_) rfl (by kernel_rfl) (by kernel_rfl) (by kernel_rfl) (fun _ _ _ h => h) (Or.inl ⟨by rfl, ?_⟩) hS ?_
  rotate_left
  · intro w' hSw; (try dsimp only at hSw); go_simp; try with_reducible rfl
  (try simp only [Act.put, List.setIfInBounds_toArray, List.set_cons_zero, List.set_cons_succ])
  refine wpAnyH_take (i := 4) (v := ?_) rfl (by kernel_rfl) (by kernel_rfl) (by kernel_rfl) (fun _ _ _ h => h) (Or.inl ⟨by rfl, ?_⟩) hS ?_
  rotate_left
  · intro w' hSw; (try dsimp only at hSw); go_simp; try with_reducible rfl
  (try simp only [Act.put, List.setIfInBounds_toArray, List.set_cons_zero, List.set_cons_succ])
  refine wpAnyH_take (i := 5) (v := ?_) rfl (by kernel_rfl) (by kernel_rfl) (by kernel_rfl) (fun _ _ _ h => h) (Or.inl ⟨by rfl, ?_⟩) hS ?_
  rotate_left
  · intro w' hSw; (try dsimp only at hSw); go_simp; try with_reducible rfl
  (try simp only [Act.put, List.setIfInBounds_toArray, List.set_cons_zero, List.set_cons_succ])
  refine wpAnyH_ready (rs := [6]) (by kernel_rfl) (by simp) ?_
  refine AllReadyH.cons rfl (fun K' hK => ?_) AllReadyH.nil
  simp only [List.getElem_toArray, List.getElem_cons_succ, List.getElem_cons_zero]
  go_simp
  cases q
  · refine (HMN.out 7 _ hG1.drew).mono ?_
    rintro e w2 ⟨rfl, hg2⟩
    refine ⟨rfl, ?_⟩
    rw [hR.out]
    exact SPost.thr (hG1.drew.trans hg2)
  · refine (HMY.out 7 _).mono ?_
    rintro e w2 ⟨rfl, hg2⟩
    have hG2 : Gr w w2 := hG1.drew.trans hg2
    refine hK.out _ _ ⟨cellAt (hg2.blk B1) rfl, (HC.out.gr hG2).cells.2.2.2.2⟩ (fun hS => ?_)
    (try simp only [Act.put, List.setIfInBounds_toArray, List.set_cons_zero, List.set_cons_succ])
    refine wpAnyH_done (by kernel_rfl) ?_ _
    (try simp only [List.getElem_toArray, List.getElem_cons_succ, List.getElem_cons_zero, Act.put, List.setIfInBounds_toArray, List.set_cons_zero, List.set_cons_succ])
    clear hK B1 b1 c4 hg2 hl1
    go_wp2_with fail
    go_end0
    rw [hR.out]
    exact SPost.same HC.out hG2
end Go.Proofs.YthniejnbkkkbnaaGreatDoor
