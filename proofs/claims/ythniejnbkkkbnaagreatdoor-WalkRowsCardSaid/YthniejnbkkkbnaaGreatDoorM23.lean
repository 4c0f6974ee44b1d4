/- Walks of layer check: if, for; statements joined. -/
import Derived.Test.YthniejnbkkkbnaaGreatDoorM22
set_option linter.all false
set_option linter.unusedSimpArgs false
set_option linter.unusedVariables false
namespace Go.Proofs.YthniejnbkkkbnaaGreatDoor
open Go.RowKit
set_option maxRecDepth 100000
set_option maxHeartbeats 4000000

theorem cstmt_if (C : CK) (hok : C.Ok) (d : D) (a : T) (r : List T) (hrne : r ≠ []) (ih : ∀ t ∈ r, StmtOk C t) (bl : List Blk) (ms : List Nat) (bv : Value) (b : Nat) (w : World) (h : CkAt C bl ms bv w) (ht : TreeAt w C.X b (.mk d (a :: r))) (hkl : (a :: r).length < 1000000) (hsa : smallT a = true) (hsr : ∀ t ∈ r, smallT t = true) (hop : d.op = 10 ∨ d.op = 11)
    (hbad : testR C.x bl d xBool (exprC C.x bl a) (insideC C.x C.res r bl) ≠ .bad) : Calls Tryz.prog 104 #[ptrV C.cb, nodeV b] w (SPost C ms bv w (testR C.x bl d xBool (exprC C.x bl a) (insideC C.x C.res r bl))) := by
  have HC := Lib.hid h
  have HOP := Lib.hid (fun w' (hg : Gr w w') => Op_any (nodeV b) (some (.mk d (a :: r))) C.X w' ⟨b, rfl, ht.gr hg⟩)
  rw [show (dO (some (T.mk d (a :: r)))).op = d.op from rfl] at HOP
  have HKD := Lib.hid (fun w' (hg : Gr w w') => Kid_some b (.mk d (a :: r)) C.X 0 (by decide) a rfl w' (ht.gr hg))
  have HKS := Lib.hid (fun w' (hg : Gr w w') => kids_any b (.mk d (a :: r)) C.X w' (ht.gr hg) (fun k hk => by have := h.hB; have := hg.size; have := hk.1; omega) hkl)
  rw [show (T.mk d (a :: r)).kids = a :: r from rfl] at HKS
  have HNL : Hid (∀ k, w.heap.size ≤ k → ¬ COwn C bv ms k) := fun k hk ho => by have := h.own_lt ho; omega
  have hnb : exprC C.x bl a ≠ .bad := fun e => hbad (by rw [e]; rfl)
  have HEX := Lib.hid (fun ba w' (hg : Gr w w') (hta : TreeAt w' C.X ba a) => cexpr_ok C hok bl ms bv a ba w' (h.gr hg) hta hsa hnb)
  have HMN := Lib.hid (fun er w' (hg : Gr w w') => must_no b (.mk d (a :: r)) C.X er w' (ht.gr hg))
  rw [show (T.mk d (a :: r)).d = d from rfl] at HMN
  have HMY := Lib.hid (fun er w' => must_yes (nodeV b) ⟨_, rfl⟩ er w')
  obtain ⟨ra, hra⟩ : ∃ ra, exprC C.x bl a = ra := ⟨_, rfl⟩
  rw [hra] at HEX hbad ⊢
  have HBD := Lib.hid hbad
  obtain ⟨n, hn⟩ : ∃ n, n = r.length := ⟨_, rfl⟩
  have hn0 : 0 < n := by rw [hn]; exact List.length_pos_iff.2 hrne
  have hkl2 : n + 1 < 1000000 := by rw [hn]; simpa using hkl
  have HN := Lib.hid hn
  obtain ⟨R, hR⟩ : ∃ R, testR C.x bl d xBool ra (insideC C.x C.res r bl) = R := ⟨_, rfl⟩
  have HR := Lib.hid hR
  rw [hR] at hbad HBD ⊢
  have hops : ((d.op == 10) = true) ∨ ((d.op == 10) = false ∧ (d.op == 11) = true) := by simp; omega
  have o6 : (d.op == 6) = false ∧ (d.op == 7) = false ∧ (d.op == 8) = false ∧ (d.op == 9) = false := by simp; omega
  obtain ⟨o6, o7, o8, o9⟩ := o6
  generalize d.op = oo at HOP hops o6 o7 o8 o9
  clear h ht hra hbad hnb hop hn hR hkl hrne
  rcases hops with o10 | ⟨o10, o11⟩
  all_goals
    go_enter Tryz.func104, Tryz.ntmps104
    go_wp2_with fail
    refine (HOP.out _ (Gr.al _ _)).mono ?_
    rintro e w1 ⟨rfl, hg1⟩
    have hG1 : Gr w w1 := (Gr.al _ _).trans hg1
    have B1 := hg1.blk (blk_alloc _ _)
    have b1 := cellAt B1 (i := 0) rfl
    clear hg1
    go_wp2_with fail
    refine wp_region_held_drew (S := fun w' => w'.cell? ⟨w.heap.size, 0, none⟩ = some (ptrV b)) rfl b1 (fun hS => ?_)
    refine wpAnyH_take (i := 0) (v := ?_) rfl (by kernel_rfl) (by kernel_rfl) (by kernel_rfl) (fun _ _ _ h => h) (Or.inl ⟨by rfl, ?_⟩) hS ?_
    rotate_left
    · intro w' hSw; (try dsimp only at hSw); go_simp; try with_reducible rfl
    (try simp only [Act.put, List.setIfInBounds_toArray, List.set_cons_zero, List.set_cons_succ])
    refine wpAnyH_take (i := 1) (v := ?_) rfl (by kernel_rfl) (by kernel_rfl) (by kernel_rfl) (fun _ _ _ h => h) (Or.inl ⟨by rfl, ?_⟩) hS ?_
    rotate_left
    · intro w' hSw; (try dsimp only at hSw); go_simp; try with_reducible rfl
    (try simp only [Act.put, List.setIfInBounds_toArray, List.set_cons_zero, List.set_cons_succ])
    refine wpAnyH_take (i := 5) (v := ?_) rfl (by kernel_rfl) (by kernel_rfl) (by kernel_rfl) (fun _ _ _ h => h) (Or.inl ⟨by rfl, ?_⟩) hS ?_
    rotate_left
    · intro w' hSw; (try dsimp only at hSw); go_simp; try with_reducible rfl
    (try simp only [Act.put, List.setIfInBounds_toArray, List.set_cons_zero, List.set_cons_succ])
    refine wpAnyH_ready (rs := [2]) (by kernel_rfl) (by simp) ?_
    refine AllReadyH.cons rfl (fun K' hK => ?_) AllReadyH.nil
    simp only [List.getElem_toArray, List.getElem_cons_succ, List.getElem_cons_zero]
    go_simp
    refine (HKD.out _ hG1.drew).mono ?_
    rintro e w2 ⟨ba, rfl, hta, hg2⟩
    have B2 := hg2.blk B1
    have hG2 : Gr w w2 := hG1.drew.trans hg2
    refine hK.out _ _ (cellAt B2 rfl) (fun hS => ?_)
    (try simp only [Act.put, List.setIfInBounds_toArray, List.set_cons_zero, List.set_cons_succ])
    refine wpAnyH_ready (rs := [3]) (by kernel_rfl) (by simp) ?_
    refine AllReadyH.cons rfl (fun K' hK => ?_) AllReadyH.nil
    simp only [List.getElem_toArray, List.getElem_cons_succ, List.getElem_cons_zero]
    go_simp
    refine (HEX.out ba _ hG2 (hta.gr hg2)).mono ?_
    rintro e w3 ⟨hg3, hres⟩
    have hG3 := hG2.trans hg3
    cases ra with
    | bad => exact absurd HR.out.symm HBD.out
    | err ea ec =>
      simp only [] at hres
      subst hres
      refine ⟨rfl, ?_⟩
      have hr : R = .err ea ec := HR.out.symm
      rw [hr]
      exact SPost.thr hG3
    | ok ty =>
    simp only [] at hres
    subst hres
    have B3 := hg3.blk B2
    refine hK.out _ _ (cellAt B3 rfl) (fun hS => ?_)
    (try simp only [Act.put, List.setIfInBounds_toArray, List.set_cons_zero, List.set_cons_succ])
    have heq : ((S ty).toList == ([98, 111, 111, 108] : List UInt8)) = (ty == xBool) := eqL ty _
    refine wpAnyH_take (i := 4) (v := ?_) rfl (by kernel_rfl) (by kernel_rfl) (by kernel_rfl) (fun _ _ _ h => h) (Or.inl ⟨by rfl, ?_⟩) hS ?_
    rotate_left
    · intro w' hSw; (try dsimp only at hSw); go_simp; try with_reducible rfl
    (try simp only [Act.put, List.setIfInBounds_toArray, List.set_cons_zero, List.set_cons_succ])
    refine wpAnyH_ready (rs := [6]) (by kernel_rfl) (by simp) ?_
    refine AllReadyH.cons rfl (fun K' hK => ?_) AllReadyH.nil
    simp only [List.getElem_toArray, List.getElem_cons_succ, List.getElem_cons_zero]
    go_simp
    obtain ⟨q, hq⟩ : ∃ q, (ty == xBool) = q := ⟨_, rfl⟩
    rw [hq]
    cases q
    · refine (HMN.out 7 _ hG3).mono ?_
      rintro e w4 ⟨rfl, hg4⟩
      refine ⟨rfl, ?_⟩
      have hr : R = .err d.at_ 7 := by
        have : ty ≠ xBool := by simpa using hq
        rw [← HR.out]
        simp only [testR, cbind, if_neg this]
      rw [hr]
      exact SPost.thr (hG3.trans hg4)
    · refine (HMY.out 7 _).mono ?_
      rintro e w4 ⟨rfl, hg4⟩
      have B4 := hg4.blk B3
      have hG4 := hG3.trans hg4
      refine hK.out _ _ (cellAt B4 rfl) (fun hS => ?_)
      (try simp only [Act.put, List.setIfInBounds_toArray, List.set_cons_zero, List.set_cons_succ])
      refine wpAnyH_done (by kernel_rfl) ?_ _
      (try simp only [List.getElem_toArray, List.getElem_cons_succ, List.getElem_cons_zero, Act.put, List.setIfInBounds_toArray, List.set_cons_zero, List.set_cons_succ])
      have HRI : Hid (insideC C.x C.res r bl = R) := by
        show _ = R
        have : ty = xBool := by simpa using hq
        rw [← HR.out]
        simp only [testR, cbind, if_pos this]
      have b4 := cellAt B4 (i := 0) rfl
      clear hK hq heq hS B1 B2 B3 B4 b1 hg2 hg3 hg4 hta hG2 hG3
      go_wp2_with fail
      refine (HKS.out _ hG4).mono ?_
      rintro e w5 ⟨kv, bs, rfl, ho, hg5⟩
      have hG5 : Gr w w5 := hG4.trans hg5
      obtain ⟨A, c, bs', hkv, hkc, hkr, hbl, htr⟩ := ho.nodes
      have hlen : (a :: r).length = n + 1 := by simp [HN.out]
      rw [hlen] at hkv hkc hbl
      have hkow : ∀ k, some k = kv.ownBlock → w.heap.size ≤ k := fun k hk => by have := (ho.own.lt k hk.symm).1; have := hG4.size; omega
      have hrow := ho.own
      rw [hlen] at hrow
      obtain ⟨g, cap, hvg, hgb, hgl⟩ := hrow.form (by omega)
      have hcap : n + 1 ≤ cap := by rw [hkv] at hvg; injection hvg with _ _ h3; omega
      have hw4 := hG4.size
      have hcell : ∀ w', Fr (COwn C bv ms) w5 w' → ∀ (j : Nat) (bj : Nat), bs[j]? = some bj → w'.cell? ⟨g, j, none⟩ = some (ptrV bj) := fun w' hf j bj hj => by
        have hb : w'.heap[g]? = w5.heap[g]? := hf.block g hgl (HNL.out g (by omega))
        rw [World.cell?_of_block (a := ⟨g, j, none⟩) hb]
        have hrow2 := hrow
        rw [hvg] at hrow2
        have hjb : j < bs.length := (List.getElem?_eq_some_iff.1 hj).1
        have hbs : bs.length = n + 1 := by rw [ho.len, hlen]
        rw [World.ownsRow.cellAt hrow2 j (by omega)]
        simp [hj]
      have HCE := Lib.hid hcell
      have HTR := Lib.hid ho.tree
      have hbs : bs.length = n + 1 := by rw [ho.len, hlen]
      have HC5 := Lib.hid (HC.out.gr hG5)
      rw [hvg]
      have hcap1 : ¬ cap = 1 := by omega
      have hcapI : (1 : Int) ≤ (cap : Int) := by omega
      have hnI : (0 : Int) ≤ (n : Int) := by omega
      clear hkv hkc hkr hbl htr hkow hrow hvg hcell ho hg5 b4 hlen
      go_wp2_with fail
      go_loopw [38] (fun t wr => ∃ (j : Nat) (blr : List Blk) (msr : List Nat) (bvr : Value), j ≤ n ∧ t = .int .i64 j ∧ CkAt C blr msr bvr wr ∧ SRel C bv ms w5 bvr msr wr ∧ Hid (insideC C.x C.res r bl = insideC C.x C.res (r.drop j) blr)) (fun t _ => n - (intOf t).toNat)
      case atStart => exact ⟨0, bl, ms, bv, by omega, rfl, HC5.out, SRel.refl _ _ _ _, rfl⟩
      case round =>
        obtain ⟨j, blr, msr, bvr, hj, rfl, hck, hsr2, hI⟩ := hrel
        have HCK := Lib.hid hck
        have HSR := Lib.hid hsr2
        have hlr := hck.lt
        clear hck hsr2
        by_cases hlt : j < n
        · have hjk : j < r.length := by rw [← HN.out]; exact hlt
          have hjb : j + 1 < bs.length := by omega
          obtain ⟨bj, hbj⟩ : ∃ b, bs[j + 1] = b := ⟨_, rfl⟩
          have hcj := HCE.out _ HSR.out.fr (j + 1) bj (by simp [hjb, hbj])
          rw [Nat.add_comm] at hcj
          have htj := HSR.out.tree HC5.out (HTR.out (j + 1) bs[j + 1] r[j] (by simp [hjb]) (by simp [hjk]))
          rw [hbj] at htj
          have hstep := insideC_drop C.x C.res r j r[j] blr (by simp [hjk])
          have hmem : r[j] ∈ r := List.getElem_mem hjk
          have hnb : stmtC C.x C.res r[j] blr ≠ .bad := fun e => HBD.out (by rw [← HRI.out, hI.out, hstep, e]; rfl)
          have HE := Lib.hid (fun w' (hg : Gr _ w') => ih r[j] hmem blr msr bvr bj w' (HCK.out.gr hg) (htj.gr hg) (hsr r[j] hmem) hnb)
          obtain ⟨rs, hrs⟩ : ∃ rs, stmtC C.x C.res r[j] blr = rs := ⟨_, rfl⟩
          rw [hrs] at hstep HE
          have HST := Lib.hid hstep
          clear hbj htj hstep hmem hnb hrs hjb
          go_wp2_with fail
          refine (HE.out _ (Gr.al _ _)).mono ?_
          rintro e w6 hres
          cases rs with
          | bad => exact absurd (by rw [← HRI.out, hI.out, HST.out]; rfl) HBD.out
          | err ea ec =>
            obtain ⟨he, hfr⟩ := hres
            have hr : R = .err ea ec := by rw [← HRI.out, hI.out, HST.out]; rfl
            subst he
            refine ⟨rfl, ?_⟩
            rw [hr]
            exact ⟨rfl, Fr.grl hG5 (HSR.out.fr.trans (Fr.grl (Gr.al _ _) hfr) HSR.out.sub)⟩
          | ok blx =>
            obtain ⟨he, msx, bvx, hcx, hsx⟩ := hres
            subst he
            have HCX := Lib.hid hcx
            have HSX := Lib.hid (HSR.out.trans (SRel.grl (Gr.al _ _) hsx))
            clear hcx hsx
            go_wp2_with fail
            go_roundw
            case rel =>
              refine ⟨j + 1, blx, msx, bvx, by omega, by go_num, HCX.out, HSX.out, ?_⟩
              show insideC C.x C.res r bl = _
              rw [hI.out, HST.out]; rfl
            case measure => simp [intOf]; omega
        · have hr : Hid (R = .ok blr) := by
            show R = .ok blr
            rw [← HRI.out, hI.out, List.drop_of_length_le (by rw [← HN.out]; omega), insideC]
          go_wp2_with fail
          go_end0
          rw [hr.out]
          exact ⟨rfl, msr, bvr, HCK.out, SRel.grl hG5 HSR.out⟩
theorem cstmt_step (C : CK) (hok : C.Ok) (d : D) (ks : List T) (ih : ∀ a ∈ ks, StmtOk C a) : StmtOk C (.mk d ks) := by
  intro bl ms bv b w h ht hsm hbad
  obtain ⟨_, _, hs3, hs4⟩ := smallT_mk hsm
  have hsa := smallL_mem hs4
  unfold stmtC at hbad ⊢
  by_cases h6 : d.op = 6
  · rw [if_pos h6] at hbad ⊢
    exact cstmt_hand C d ks bl ms bv b w ht _ hbad (fun _ w' hg => cblock_any C d ks ih bl ms bv b w' (h.gr hg) (ht.gr hg) hs3 hsa hbad) (by omega) (by omega) (by omega) (by omega)
  rw [if_neg h6] at hbad ⊢
  by_cases h7 : d.op = 7
  · rw [if_pos h7] at hbad ⊢
    cases ks with
    | nil => exact absurd rfl hbad
    | cons a r => exact cstmt_hand C d (a :: r) bl ms bv b w ht _ hbad (by omega) (fun _ w' hg => cdefine_any C hok bl ms bv b d (a :: r) a rfl w' (h.gr hg) (ht.gr hg) (hsa a (.head _)) hbad) (by omega) (by omega) (by omega)
  rw [if_neg h7] at hbad ⊢
  by_cases h8 : d.op = 8
  · rw [if_pos h8] at hbad ⊢
    cases ks with
    | nil => exact absurd rfl hbad
    | cons a r => exact cstmt_hand C d (a :: r) bl ms bv b w ht _ hbad (by omega) (by omega) (fun _ w' hg => cchange_assign C hok bl ms bv b d (a :: r) a rfl w' (h.gr hg) (ht.gr hg) h8 (hsa a (.head _)) hbad) (by omega) (by omega)
  rw [if_neg h8] at hbad ⊢
  by_cases h9 : d.op = 9
  · rw [if_pos h9] at hbad ⊢
    match ks, ht, hsa, hbad with
    | [], _, _, hbad => exact absurd rfl hbad
    | [_], _, _, hbad => exact absurd rfl hbad
    | a :: a2 :: r, ht, hsa, hbad => exact cstmt_hand C d (a :: a2 :: r) bl ms bv b w ht _ hbad (by omega) (by omega) (fun _ w' hg => cchange_put C hok bl ms bv b d (a :: a2 :: r) a a2 rfl rfl w' (h.gr hg) (ht.gr hg) h9 (hsa a (.head _)) (hsa a2 (.tail _ (.head _))) hbad) (by omega) (by omega)
  rw [if_neg h9] at hbad ⊢
  by_cases h10 : d.op = 10 ∨ d.op = 11
  · rw [if_pos h10] at hbad ⊢
    match ks, ht, hsa, hs3, ih, hbad with
    | [], _, _, _, _, hbad => exact absurd rfl hbad
    | [_], _, _, _, _, hbad => exact absurd rfl hbad
    | a :: a2 :: r, ht, hsa, hs3, ih, hbad => exact cstmt_if C hok d a (a2 :: r) (by simp) (fun t ht => ih t (.tail _ ht)) bl ms bv b w h ht hs3 (hsa a (.head _)) (fun t ht => hsa t (.tail _ ht)) h10 hbad
  rw [if_neg h10] at hbad ⊢
  by_cases h12 : d.op = 12
  · rw [if_pos h12] at hbad ⊢
    cases ks with
    | nil => exact absurd rfl hbad
    | cons a r => exact cstmt_print C hok d a r bl ms bv b w h ht (hsa a (.head _)) h12 hbad
  rw [if_neg h12] at hbad ⊢
  by_cases h13 : d.op = 13
  · rw [if_pos h13] at hbad ⊢
    cases ks with
    | nil => exact cstmt_hand C d [] bl ms bv b w ht _ hbad (by omega) (by omega) (by omega) (fun _ w' hg => cback_none C bl ms bv b d w' (h.gr hg) (ht.gr hg)) (by omega)
    | cons a r => exact cstmt_hand C d (a :: r) bl ms bv b w ht _ hbad (by omega) (by omega) (by omega) (fun _ w' hg => cback_some C hok bl ms bv b d a r hs3 w' (h.gr hg) (ht.gr hg) (hsa a (.head _)) hbad) (by omega)
  rw [if_neg h13] at hbad ⊢
  by_cases h14 : d.op = 14
  · rw [if_pos h14] at hbad ⊢
    cases ks with
    | nil => exact absurd rfl hbad
    | cons a r => exact cstmt_do C hok d a r bl ms bv b w h ht (hsa a (.head _)) h14 hbad
  rw [if_neg h14] at hbad ⊢
  exact cstmt_else C d ks bl ms bv b w h ht (by omega)
theorem cstmt_all (C : CK) (hok : C.Ok) : ∀ (n : Nat) (t : T), sizeT t ≤ n → StmtOk C t := by
  intro n
  induction n with
  | zero =>
    intro t ht
    cases t with
    | mk d ks => rw [sizeT] at ht; omega
  | succ n ih =>
    intro t ht
    cases t with
    | mk d ks =>
      rw [sizeT] at ht
      exact cstmt_step C hok d ks fun a ha => ih a (by have := sizeL_mem ha; omega)
theorem cstmt_ok (C : CK) (hok : C.Ok) (t : T) : StmtOk C t := cstmt_all C hok _ t (Nat.le_refl _)
end Go.Proofs.YthniejnbkkkbnaaGreatDoor
