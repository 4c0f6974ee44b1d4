/- Walks of layer check: bodies. -/
import Derived.Test.YthniejnbkkkbnaaGreatDoorM23
set_option linter.all false
set_option linter.unusedSimpArgs false
set_option linter.unusedVariables false
namespace Go.Proofs.YthniejnbkkkbnaaGreatDoor
open Go.RowKit
set_option maxRecDepth 100000
set_option maxHeartbeats 4000000

theorem grownC_blk {w w' : World} {row : Option Nat} {k : Nat} {o : Obj} (hm : w.grownBy w' row) (h : w.heap[k]? = some o) (hr : ∀ j, row = some j → j ≠ k) : w'.heap[k]? = some o := by
  rw [hm.block k (blkLt h) (fun e => hr k e.symm rfl)]; exact h
/-- What is declared, in memory, and where the checker lies. -/
structure CStat (C : CK) (w : World) : Prop where
  st : StrucsAt w C.X C.sv C.x.structs
  fl : FldsAt w C.X C.gv C.x.globals
  sg : SigsAt w C.X C.fv C.x.funs
  hB : C.B ≤ w.heap.size
  hcb : C.cb < C.B
  ls : C.x.structs.length < 1000000
  lg : C.x.globals.length < 1000000
  lf : C.x.funs.length < 1000000
theorem CStat.fr {C : CK} {w w' : World} (h : CStat C w) (hf : Fr (fun k => k = C.cb) w w') : CStat C w' := by
  have hX : ∀ k, C.X k → k < w.heap.size → w'.heap[k]? = w.heap[k]? := fun k hk hlt => hf.block k hlt hk.2
  exact ⟨h.st.frame hX, PairsAt.frame h.fl hX, h.sg.frame hX, Nat.le_trans h.hB hf.size, h.hcb, h.ls, h.lg, h.lf⟩
theorem CStat.gr {C : CK} {w w' : World} (h : CStat C w) (hg : Gr w w') : CStat C w' := h.fr (.of_gr hg)
def ChkAt (C : CK) (w : World) : Prop := ∃ bv res, w.heap[C.cb]? = some (.cells #[C.sv, C.gv, C.fv, bv, .string (S res)] 118 (0, 0))
theorem ChkAt.gr {C : CK} {w w' : World} (h : ChkAt C w) (hg : Gr w w') : ChkAt C w' := by obtain ⟨bv, res, hb⟩ := h; exact ⟨bv, res, hg.blk hb⟩

theorem aput_tmap (m : Blk) (x t : Str) : aput (tmap m) x (.string (S t)) = tmap (aput m x t) := by
  induction m with
  | nil => rfl
  | cons p m ih =>
    simp only [tmap, List.map_cons, aput] at ih ⊢
    cases hp : p.1 == x with
    | true => simp
    | false => simp only [Bool.false_eq_true, if_false, List.map_cons]; rw [ih]
theorem varsP_snoc (l : List T) (t : T) : varsP (l ++ [t]) = aput (varsP l) t.d.name t.d.typ := by simp [varsP]

/-- The parameters' own block. -/
theorem bodies_drop (x : Info) (ks : List T) (j : Nat) (d : T) (hj : ks[j]? = some d) : bodiesC x (ks.drop j) = if d.d.op ≠ 4 then bodiesC x (ks.drop (j + 1)) else match d.kids.getLast? with
    | none => .bad
    | some b => cbind (insideC x d.d.typ b.kids [varsP (partsP d)]) fun _ => bodiesC x (ks.drop (j + 1)) := by
  obtain ⟨hlt, he⟩ := List.getElem?_eq_some_iff.1 hj
  rw [List.drop_eq_getElem_cons hlt, he, bodiesC]
  cases d.kids.getLast? <;> rfl
def BPost (C : CK) (w : World) (r : CR Unit) (e : Ending) (w' : World) : Prop :=
  Fr (fun k => k = C.cb) w w' ∧ match r with
    | .ok _ => e = .returned (.tuple #[]) ∧ ChkAt C w'
    | .err a c => e = thrownC (cstopV a c)
    | .bad => True

theorem cbodies_any (C : CK) (hok : C.Ok) (d : D) (ks : List T) (b : Nat) (w : World) (h : CStat C w) (hc : ChkAt C w) (ht : TreeAt w C.X b (.mk d ks)) (hkl : ks.length < 1000000) (hsa : ∀ a ∈ ks, smallT a = true) (hpa : ∀ a ∈ ks, partsOk a.kids = true)
    (hbad : bodiesC C.x ks ≠ .bad) : Calls Tryz.prog 44 #[ptrV C.cb, nodeV b] w (BPost C w (bodiesC C.x ks)) := by
  have HC := Lib.hid h
  have HCH := Lib.hid hc
  have HKS := Lib.hid (fun w' (hg : Gr w w') => kids_any b (.mk d ks) C.X w' (ht.gr hg) (fun k hk => by have := h.hB; have := hg.size; have := hk.1; omega) hkl)
  rw [show (T.mk d ks).kids = ks from rfl] at HKS
  obtain ⟨R, hR⟩ : ∃ R, bodiesC C.x ks = R := ⟨_, rfl⟩
  have HR := Lib.hid hR
  rw [hR] at hbad ⊢
  have HBD := Lib.hid hbad
  obtain ⟨n, hn⟩ : ∃ n, n = ks.length := ⟨_, rfl⟩
  rw [← hn] at hkl
  have HN := Lib.hid hn
  have hmm := @run_makeMap Tryz.prog
  have hcb := hc
  obtain ⟨_, _, hcb0⟩ := hcb
  have hcbl := blkLt hcb0
  clear h hc ht hR hbad hn hcb0
  go_enter Tryz.func44, Tryz.ntmps44
  go_wp2_with fail
  refine (HKS.out _ (Gr.al _ _)).mono ?_
  rintro e w1 ⟨kv, bs, rfl, ho, hg1⟩
  have hG1 : Gr w w1 := (Gr.al _ _).trans hg1
  obtain ⟨A, c, bs', hkv, hkc, hkr, hbl, htr⟩ := ho.nodes
  rw [← HN.out] at hkv hkc hbl
  have hkow : ∀ k, some k = kv.ownBlock → k ≠ C.cb := fun k hk => by have := (ho.own.lt k hk.symm).1; simp at this; omega
  have HKR : Hid (∀ w', Fr (fun k => k = C.cb) w1 w' → RowR w' (fun _ => True) A (bs'.map ptrV)) := fun w' hf => (hkr.frame fun k hk hlt => hf.block k hlt (hkow k hk)).imp fun _ _ _ => trivial
  subst hkv
  have HTR := Lib.hid htr
  have HBL := Lib.hid hbl
  have HC1 := Lib.hid (HC.out.gr hG1)
  have HCH1 := Lib.hid (HCH.out.gr hG1)
  clear ho hkr htr hg1 hbl hkow
  go_wp2_with fail
  go_loopw [12] (fun t wr => ∃ j : Nat, j ≤ n ∧ t = .int .i64 j ∧ ChkAt C wr ∧ Fr (fun k => k = C.cb) w1 wr ∧ Hid (bodiesC C.x ks = bodiesC C.x (ks.drop j))) (fun t _ => n - (intOf t).toNat)
  case atStart => exact ⟨0, by omega, rfl, HCH1.out, .of_gr (Gr.refl _), rfl⟩
  case round =>
    obtain ⟨j, hj, rfl, hck, hfr, hI⟩ := hrel
    have HCK := Lib.hid hck
    have HFR := Lib.hid hfr
    have hsz := hfr.size
    have hsz1 := hG1.size
    clear hck hfr
    by_cases hlt : j < n
    · have hjk : j < ks.length := by rw [← HN.out]; exact hlt
      have hjb : j < bs'.length := by rw [HBL.out]; exact hlt
      obtain ⟨g, off, rfl, hg, _, hcl⟩ := (HKR.out _ HFR.out).open_ (j := j) (by simpa using hjb)
      obtain ⟨bj, hbj⟩ : ∃ b, bs'[j] = b := ⟨_, rfl⟩
      have hcj := hcl j (ptrV bj) (by simp [hjb, hbj])
      have htj0 := HTR.out j bs'[j] ks[j] (by simp [hjb]) (by simp [hjk])
      rw [hbj] at htj0
      have htj := htj0.frame (fun k (hk : C.X k) hlt => HFR.out.block k hlt hk.2)
      have hstep := bodies_drop C.x ks j ks[j] (by simp [hjk])
      have hmem : ks[j] ∈ ks := List.getElem_mem hjk
      have hsm := hsa ks[j] hmem
      have hpo := hpa ks[j] hmem
      obtain ⟨⟨dj, kj⟩, hdj⟩ : ∃ t, ks[j] = t := ⟨_, rfl⟩
      rw [hdj] at htj hstep hsm hpo
      obtain ⟨_, _, hkjl, hkjs⟩ := smallT_mk hsm
      have HOP := Lib.hid (fun w' (hg : Gr _ w') => Op_any (nodeV bj) (some (.mk dj kj)) C.X w' ⟨bj, rfl, htj.gr hg⟩)
      rw [show (dO (some (T.mk dj kj))).op = dj.op from rfl] at HOP
      have HSTEP := Lib.hid hstep
      have HTJ := Lib.hid htj
      have HNB := Lib.hid hpo
      clear hcl hbj htj htj0 hstep hmem hdj hsm hpo
      by_cases h4 : dj.op = 4
      · rw [h4] at HOP
        have hstep2 : bodiesC C.x (ks.drop j) = match kj.getLast? with
            | none => .bad
            | some bb => cbind (insideC C.x dj.typ bb.kids [varsP (partsP (.mk dj kj))]) fun _ => bodiesC C.x (ks.drop (j + 1)) := by
          rw [HSTEP.out]
          have e : ¬ (T.mk dj kj).d.op ≠ 4 := by show ¬ dj.op ≠ 4; omega
          rw [if_neg e]; rfl
        obtain ⟨bb, hbb⟩ : ∃ bb, kj.getLast? = some bb := by
          cases hl : kj.getLast? with
          | none => rw [hl] at hstep2; exact absurd (by rw [← HR.out, hI.out, hstep2]) HBD.out
          | some bb => exact ⟨bb, rfl⟩
        rw [hbb] at hstep2
        simp only [] at hstep2
        have HST2 := Lib.hid hstep2
        clear hstep2 HSTEP
        go_wp2_with fail
        refine (HOP.out _ (Gr.al _ _)).mono ?_
        rintro e w2 ⟨rfl, hg2⟩
        have hG2 := (Gr.al _ (.cells #[ptrV bj] 53)).trans hg2
        have BX2 := hg2.blk (blk_alloc _ _)
        have HFR2 := Lib.hid (HFR.out.gr hG2)
        have htj2 := HTJ.out.gr hG2
        have hs2 := hG2.size
        obtain ⟨xb, hxb⟩ : ∃ x, x = wr.heap.size := ⟨_, rfl⟩
        rw [← hxb] at BX2 ⊢
        have hxl := blkLt BX2
        have hxg : w1.heap.size ≤ xb := by omega
        have HPA := Lib.hid (fun w' (hg : Gr w2 w') => parts_any bj (.mk dj kj) C.X w' (htj2.gr hg) (fun k hk => by have := HC.out.hB; have := hk.1; have := hg.size; omega) hkjl HNB.out)
        rw [show (T.mk dj kj).kids.filter isPart = partsP (.mk dj kj) from rfl] at HPA
        have HTJ2 := Lib.hid htj2
        have HCH2 := Lib.hid (HCK.out.gr hG2)
        have bx2 := cellAt BX2 (i := 0) rfl
        have HBX2 := Lib.hid BX2
        clear HOP hg2 hG2 hxb HTJ
        go_wp2_with fail
        have hmade := MapAt.made (α := Str) encS w2
        refine (HPA.out _ (Gr.al _ _)).mono ?_
        rintro e w3 ⟨pv, bps, rfl, hop3, hg3⟩
        have hG3 : Gr w2 w3 := (Gr.al _ _).trans hg3
        have hm3 := hmade.gr hg3
        obtain ⟨ps, hps⟩ : ∃ ps, ps = partsP (.mk dj kj) := ⟨_, rfl⟩
        rw [← hps] at hop3 HST2
        obtain ⟨Ap, cp, bps', hpv, hpc, hpr, hpbl, hptr⟩ := hop3.nodes
        obtain ⟨np, hnp⟩ : ∃ np, np = ps.length := ⟨_, rfl⟩
        rw [← hnp] at hpv hpc hpbl
        have hpow : ∀ k, some k = pv.ownBlock → w2.heap.size < k := fun k hk => by have := (hop3.own.lt k hk.symm).1; simp at this; omega
        have hnpl : np < 1000000 := by
          have h1 : np ≤ kj.length := by rw [hnp, hps]; exact List.length_filter_le _ _
          omega
        have HPR : Hid (∀ w', w3.grownBy w' (some w2.heap.size) → RowR w' (fun _ => True) Ap (bps'.map ptrV)) := fun w' hf => (hpr.frame fun k hk hlt => hf.block k hlt (fun e => by have := hpow k hk; injection e with e; omega)).imp fun _ _ _ => trivial
        subst hpv
        have hpsm : ∀ t ∈ ps, smallT t = true := fun t ht => smallL_mem hkjs t (by rw [hps] at ht; exact (List.mem_filter.1 ht).1)
        have hXn : ∀ k, C.X k → k ≠ w2.heap.size := fun k hk => by have := HC.out.hB; have := hk.1; omega
        have HPT := Lib.hid hptr
        have HPB := Lib.hid hpbl
        have HNP := Lib.hid hnp
        have HM3 := Lib.hid hm3
        have hs3 := hG3.size
        have hlm3 := hm3.lt
        have HBX3 := Lib.hid (hG3.blk HBX2.out)
        clear hop3 hpr hptr hpbl hnp hm3 hmade hpow bx2 hg3 hpc
        go_wp2_with fail
        go_loopw [23] (fun t wr => ∃ i : Nat, i ≤ np ∧ t = .int .i64 i ∧ MapAt encS wr w2.heap.size (tmap (varsP (ps.take i))) ∧ w3.grownBy wr (some w2.heap.size)) (fun t _ => np - (intOf t).toNat)
        case atStart => exact ⟨0, by omega, rfl, HM3.out, World.grownBy.refl _ _⟩
        case round =>
          obtain ⟨i, hi, rfl, hmi, hgi⟩ := hrel
          have HMI := Lib.hid hmi
          have HGI := Lib.hid hgi
          have hsi := hgi.size
          clear hmi hgi
          by_cases hlti : i < np
          · have hik : i < ps.length := by rw [← HNP.out]; exact hlti
            have hib : i < bps'.length := by rw [HPB.out]; exact hlti
            obtain ⟨gp, offp, rfl, hgp, _, hclp⟩ := (HPR.out _ HGI.out).open_ (j := i) (by simpa using hib)
            obtain ⟨bi, hbi⟩ : ∃ b, bps'[i] = b := ⟨_, rfl⟩
            have hci := hclp i (ptrV bi) (by simp [hib, hbi])
            have hti0 := HPT.out i bps'[i] ps[i] (by simp [hib]) (by simp [hik])
            rw [hbi] at hti0
            have hti := hti0.frame (fun k (hk : C.X k) hlt => HGI.out.block k hlt (fun e => hXn k hk (Option.some.inj e)))
            have hvs : varsP (ps.take (i + 1)) = aput (varsP (ps.take i)) (ps[i]).d.name (ps[i]).d.typ := by rw [List.take_succ_eq_append_getElem hik, varsP_snoc]
            obtain ⟨⟨di, ki⟩, hdi⟩ : ∃ t, ps[i] = t := ⟨_, rfl⟩
            rw [hdi] at hti hvs
            change varsP (ps.take (i + 1)) = aput (varsP (ps.take i)) di.name di.typ at hvs
            have HNMi := Lib.hid (fun w' (hg : Gr _ w') => Name_any (nodeV bi) (some (.mk di ki)) C.X w' ⟨bi, rfl, hti.gr hg⟩)
            have HTYi := Lib.hid (fun w' (hg : Gr _ w') => Type_any (nodeV bi) (some (.mk di ki)) C.X w' ⟨bi, rfl, hti.gr hg⟩)
            rw [show (dO (some (T.mk di ki))).name = di.name from rfl] at HNMi
            rw [show (dO (some (T.mk di ki))).typ = di.typ from rfl] at HTYi
            have HVS := Lib.hid hvs
            clear hclp hbi hti0 hti hvs hdi
            go_wp2_with fail
            obtain ⟨yb, hyb⟩ : ∃ x, x = wr.heap.size := ⟨_, rfl⟩
            have N1 := blk_alloc wr (.cells #[ptrV bi] 53)
            rw [← hyb] at N1 ⊢
            have n1 := cellAt N1 (i := 0) rfl
            have hyn : yb ≠ w2.heap.size := by omega
            clear hyb
            refine wp_region_held_drew (S := fun w' => w'.cell? ⟨yb, 0, none⟩ = some (ptrV bi)) rfl n1 (fun hS => ?_)
            refine wpAnyH_take (i := 0) (v := ?_) rfl (by kernel_rfl) (by kernel_rfl) (by kernel_rfl) (fun _ _ _ h => h) (Or.inl ⟨by rfl, ?_⟩) hS ?_
            rotate_left
            · intro w' hSw; (try dsimp only at hSw); go_simp; try with_reducible rfl
            (try simp only [Act.put, List.setIfInBounds_toArray, List.set_cons_zero, List.set_cons_succ])
            refine wpAnyH_take (i := 1) (v := ?_) rfl (by kernel_rfl) (by kernel_rfl) (by kernel_rfl) (fun _ _ _ h => h) (Or.inl ⟨by rfl, ?_⟩) hS ?_
            rotate_left
            · intro w' hSw; (try dsimp only at hSw); go_simp; try with_reducible rfl
            (try simp only [Act.put, List.setIfInBounds_toArray, List.set_cons_zero, List.set_cons_succ])
            refine wpAnyH_take (i := 3) (v := ?_) rfl (by kernel_rfl) (by kernel_rfl) (by kernel_rfl) (fun _ _ _ h => h) (Or.inl ⟨by rfl, ?_⟩) hS ?_
            rotate_left
            · intro w' hSw; (try dsimp only at hSw); go_simp; try with_reducible rfl
            (try simp only [Act.put, List.setIfInBounds_toArray, List.set_cons_zero, List.set_cons_succ])
            refine wpAnyH_ready (rs := [2]) (by kernel_rfl) (by simp) ?_
            refine AllReadyH.cons rfl (fun K' hK => ?_) AllReadyH.nil
            simp only [List.getElem_toArray, List.getElem_cons_succ, List.getElem_cons_zero]
            go_simp
            refine (HNMi.out _ ((Gr.al _ _).drew)).mono ?_
            rintro e w4 ⟨rfl, hg4⟩
            have N2 := hg4.blk N1
            have hG4 := ((Gr.al _ (.cells #[ptrV bi] 53)).drew).trans hg4
            refine hK.out _ _ (cellAt N2 rfl) (fun hS => ?_)
            (try simp only [Act.put, List.setIfInBounds_toArray, List.set_cons_zero, List.set_cons_succ])
            refine wpAnyH_ready (rs := [4]) (by kernel_rfl) (by simp) ?_
            refine AllReadyH.cons rfl (fun K' hK => ?_) AllReadyH.nil
            simp only [List.getElem_toArray, List.getElem_cons_succ, List.getElem_cons_zero]
            go_simp
            refine (HTYi.out _ hG4).mono ?_
            rintro e w5 ⟨rfl, hg5⟩
            have N3 := hg5.blk N2
            have hG5 := hG4.trans hg5
            refine hK.out _ _ (cellAt N3 rfl) (fun hS => ?_)
            (try simp only [Act.put, List.setIfInBounds_toArray, List.set_cons_zero, List.set_cons_succ])
            obtain ⟨w6, hrun, hm6, hg6⟩ := run_put keyS Tryz.underlying150 Tryz.underlying9 (HMI.out.gr hG5) di.name (.string (S di.typ))
            rw [aput_tmap, ← HVS.out] at hm6
            have hrun2 : (Instr.mapUpdate 150 (.map (some w2.heap.size)) (.string (S di.name)) (.string (S di.typ))).run Tryz.prog w5 = .ok () w6 := hrun
            refine wpAnyH_ready (rs := [5]) (by kernel_rfl) (by simp) ?_
            refine AllReadyH.cons rfl (fun K' hK => ?_) AllReadyH.nil
            simp only [List.getElem_toArray, List.getElem_cons_succ, List.getElem_cons_zero]
            go_simp
            refine hK.out _ _ (cellAt (grownC_blk hg6 N3 (fun j e => by injection e with e; omega)) rfl) (fun hS => ?_)
            refine wpAnyH_done (by kernel_rfl) ?_ _
            (try simp only [List.getElem_toArray, List.getElem_cons_succ, List.getElem_cons_zero, Act.put, List.setIfInBounds_toArray, List.set_cons_zero, List.set_cons_succ])
            have HG6 : Hid (w3.grownBy w6 (some w2.heap.size)) := by
              have hG5' := hG5
              exact ⟨hg6.os.trans (hG5.os.trans HGI.out.os), hg6.tape.trans (hG5.tape.trans HGI.out.tape), hg6.output.trans (hG5.output.trans HGI.out.output), Nat.le_trans HGI.out.size (Nat.le_trans hG5.size hg6.size), fun k hk hn => by
                have h1 := HGI.out.size
                have h2 := hG5.size
                rw [hg6.block k (by omega) hn, hG5.block k (by omega), HGI.out.block k hk hn]⟩
            have HM6 := Lib.hid hm6
            clear hK hrun hrun2 hm6 hg6 hG4 hG5 hg4 hg5 N1 N2 N3 n1 hS
            go_wp2_with fail
            go_roundw
            case rel => exact ⟨i + 1, by omega, by go_num, HM6.out, HG6.out⟩
            case measure => simp [intOf]; omega
          · have hin : i = np := by omega
            have hps2 : ps.take i = ps := List.take_of_length_le (by rw [← HNP.out]; omega)
            have hmi := HMI.out
            rw [hps2] at hmi
            have HMF := Lib.hid hmi
            have HTJ3 : Hid (∀ w', Gr wr w' → TreeAt w' C.X bj (.mk dj kj)) := fun w' hg => (((HTJ2.out.gr hG3).frame (fun k (hk : C.X k) hlt => HGI.out.block k hlt (fun e => hXn k hk (Option.some.inj e)))).gr hg)
            have HTY := Lib.hid (fun w' (hg : Gr wr w') => Type_any (nodeV bj) (some (.mk dj kj)) C.X w' ⟨bj, rfl, HTJ3.out w' hg⟩)
            rw [show (dO (some (T.mk dj kj))).typ = dj.typ from rfl] at HTY
            have hnn : xb ≠ w2.heap.size := by omega
            have HBX4 := Lib.hid (grownC_blk HGI.out HBX3.out (fun j e => by injection e with e; omega))
            have bx4 := cellAt HBX4.out (i := 0) rfl
            have hxl4 := blkLt HBX4.out
            have hcbn : C.cb ≠ w2.heap.size := by have := HC.out.hB; have := HC.out.hcb; omega
            have HFRW : Hid (Fr (fun k => k = C.cb) w1 wr) := ⟨HGI.out.os.trans (hG3.os.trans HFR2.out.os), HGI.out.tape.trans (hG3.tape.trans HFR2.out.tape), HGI.out.output.trans (hG3.output.trans HFR2.out.output), Nat.le_trans HFR2.out.size (Nat.le_trans hG3.size HGI.out.size), fun k hk hn => by
              have h1 := HFR2.out.size
              rw [HGI.out.block k (by omega) (fun e => by injection e with e; omega), hG3.block k (by omega), HFR2.out.block k hk hn]⟩
            have HCHW : Hid (ChkAt C wr) := by
              obtain ⟨bv0, res0, hb0⟩ := HCH2.out.gr hG3
              exact ⟨bv0, res0, grownC_blk HGI.out hb0 (fun j e => by injection e with e; omega)⟩
            have hlmf := hmi.lt
            have hcbw : C.cb < wr.heap.size := by obtain ⟨_, _, hb0⟩ := HCHW.out; exact blkLt hb0
            clear hmi hps2
            go_wp2_with fail
            refine (HTY.out _ (Gr.al _ _)).mono ?_
            rintro e w4 ⟨rfl, hg4⟩
            have hG4 := (Gr.al _ (.cells #[.map (some w2.heap.size)] 150)).trans hg4
            obtain ⟨bv0, res0, hb0⟩ := HCHW.out.gr hG4
            have hrow4 : w4.ownsRow C.B 150 1 (.slice (some ⟨wr.heap.size, 0, none⟩) 1 1) 1 [.map (some w2.heap.size)] :=
              ownGr (World.ownsRow_lit wr #[.map (some w2.heap.size)] 1 (by have := HC.out.hB; omega) (by decide) rfl) hg4
            obtain ⟨zb, hzb⟩ : ∃ z, z = wr.heap.size := ⟨_, rfl⟩
            rw [← hzb] at hrow4 ⊢
            have hzg : w1.heap.size ≤ zb := by omega
            have hzc : zb ≠ C.cb := by omega
            have hz2 : w2.heap.size < zb := by omega
            have hbx5 := HBX4.out
            have hbx4 := hG4.blk HBX4.out
            have hm4 := HMF.out.gr hG4
            have hs4 := hG4.size
            have c3 := cellAt hb0 (i := 3) rfl
            have c4 := cellAt hb0 (i := 4) rfl
            have cf := frozenAt hb0
            have cl := blkLt hb0
            have hcs := blk_setCell_to (i := 4) (v := .string (S dj.typ)) (blk_setCell_to (i := 3) (v := .slice (some ⟨zb, 0, none⟩) 1 1) hb0 rfl) rfl
            have hXs : ∀ k, C.X k → k < wr.heap.size → ((w4.setCell ⟨C.cb, 3, none⟩ (.slice (some ⟨zb, 0, none⟩) 1 1)).setCell ⟨C.cb, 4, none⟩ (.string (S dj.typ))).heap[k]? = wr.heap[k]? := fun k hk hlt => by
              rw [Below.heap_setCell _ _ _ _ (by simpa using hk.2), Below.heap_setCell _ _ _ _ (by simpa using hk.2), hG4.block k hlt]
            have hstat := (HC1.out.fr HFRW.out)
            have hck5 : CkAt { C with res := dj.typ } [varsP ps] [w2.heap.size] (.slice (some ⟨zb, 0, none⟩) 1 1) ((w4.setCell ⟨C.cb, 3, none⟩ (.slice (some ⟨zb, 0, none⟩) 1 1)).setCell ⟨C.cb, 4, none⟩ (.string (S dj.typ))) := by
              refine ⟨hcs, hstat.st.frame hXs, PairsAt.frame hstat.fl hXs, hstat.sg.frame hXs, ?_, rfl, ?_, by simp, ?_, hstat.hcb, hstat.ls, hstat.lg, hstat.lf, by simp⟩
              · exact (hrow4.kept (grownSetB w4 ⟨C.cb, 3, none⟩ _) (.inr fun e => hzc (by simpa [Value.ownBlock] using e))).kept (grownSetB _ ⟨C.cb, 4, none⟩ _) (.inr fun e => hzc (by simpa [Value.ownBlock] using e))
              · intro i m b hm hb
                match i, hm, hb with
                | 0, hm, hb =>
                  injection hm with hm
                  injection hb with hb
                  subst hm hb
                  refine ⟨by have := HC.out.hB; show C.B ≤ _; omega, hm4.frame ?_⟩
                  rw [Below.heap_setCell _ _ _ _ (Ne.symm hcbn), Below.heap_setCell _ _ _ _ (Ne.symm hcbn)]
              · rw [World.size_setCell, World.size_setCell]
                have := hstat.hB
                exact Nat.le_trans this hG4.size
            have htj5 : TreeAt ((w4.setCell ⟨C.cb, 3, none⟩ (.slice (some ⟨zb, 0, none⟩) 1 1)).setCell ⟨C.cb, 4, none⟩ (.string (S dj.typ))) C.X bj (.mk dj kj) := (HTJ3.out wr (Gr.refl _)).frame fun k hk hlt => hXs k hk hlt
            have hbx6 : ((w4.setCell ⟨C.cb, 3, none⟩ (.slice (some ⟨zb, 0, none⟩) 1 1)).setCell ⟨C.cb, 4, none⟩ (.string (S dj.typ))).heap[xb]? = some (.cells #[ptrV bj] 53 (0, 0)) := blk_setCell_ne (blk_setCell_ne hbx4 (by simp; omega)) (by simp; omega)
            have HFR5 : Hid (Fr (fun k => k = C.cb) w1 ((w4.setCell ⟨C.cb, 3, none⟩ (.slice (some ⟨zb, 0, none⟩) 1 1)).setCell ⟨C.cb, 4, none⟩ (.string (S dj.typ)))) :=
              ⟨hG4.os.trans HFRW.out.os, hG4.tape.trans HFRW.out.tape, hG4.output.trans HFRW.out.output, by rw [World.size_setCell, World.size_setCell]; exact Nat.le_trans HFRW.out.size hG4.size, fun k hk hn => by
                have h1 := HFRW.out.size
                rw [Below.heap_setCell _ _ _ _ (by simpa using hn), Below.heap_setCell _ _ _ _ (by simpa using hn), hG4.block k (by omega), HFRW.out.block k hk hn]⟩
            have HCK5 := Lib.hid hck5
            have HTJ5 := Lib.hid htj5
            have HBX6 := Lib.hid hbx6
            clear hzb hrow4 hbx5 hbx4 hm4 hcs hXs hstat hck5 htj5 hbx6 hG4 hg4 hb0
            generalize hw5 : (w4.setCell ⟨C.cb, 3, none⟩ (.slice (some ⟨zb, 0, none⟩) 1 1)).setCell ⟨C.cb, 4, none⟩ (.string (S dj.typ)) = w5 at HCK5 HTJ5 HBX6 HFR5
            have HW5 := Lib.hid hw5
            clear hw5
            obtain ⟨nk, hnk⟩ : ∃ nk, kj.length = nk + 1 := by
              cases kj with
              | nil => cases hbb
              | cons a r => exact ⟨r.length, rfl⟩
            have hkid : kj[nk]? = some bb := by
              rw [List.getLast?_eq_getElem?] at hbb
              rw [hnk] at hbb
              exact hbb
            have hbsm := smallL_mem hkjs bb (List.mem_of_getElem? hkid)
            obtain ⟨⟨db, kb⟩, hbbe⟩ : ∃ t, bb = t := ⟨_, rfl⟩
            rw [hbbe] at hkid hbsm HST2
            obtain ⟨_, _, hbl3, hbl4⟩ := smallT_mk hbsm
            have hst2 : bodiesC C.x (ks.drop j) = cbind (insideC C.x dj.typ kb [varsP ps]) fun _ => bodiesC C.x (ks.drop (j + 1)) := HST2.out
            have hnb : insideC C.x dj.typ kb [varsP ps] ≠ .bad := fun e => HBD.out (by rw [← HR.out, hI.out, hst2, e]; rfl)
            have HKN := Lib.hid (fun w' (hg : Gr w5 w') => Kids_any (nodeV bj) (some (.mk dj kj)) C.X w' ⟨bj, rfl, HTJ5.out.gr hg⟩)
            rw [show ((kidsO (some (T.mk dj kj))).length : Int) = (nk : Int) + 1 from by show (kj.length : Int) = _; omega] at HKN
            have HKD := Lib.hid (fun w' (hg : Gr w5 w') => Kid_some bj (.mk dj kj) C.X (nk : Int) (by omega) (.mk db kb) (by show kj[((nk : Int)).toNat]? = _; simpa using hkid) w' (HTJ5.out.gr hg))
            have HIN := Lib.hid (fun bi w' (hg : Gr w5 w') (ht : TreeAt w' C.X bi (.mk db kb)) => cinside_any { C with res := dj.typ } db kb (fun a _ => cstmt_ok { C with res := dj.typ } ⟨hok.sf, hok.fp⟩ a) [varsP ps] [w2.heap.size] (.slice (some ⟨zb, 0, none⟩) 1 1) bi w' (HCK5.out.gr hg) ht hbl3 (smallL_mem hbl4) hnb)
            simp only [] at HIN
            obtain ⟨ri, hri⟩ : ∃ ri, insideC C.x dj.typ kb [varsP ps] = ri := ⟨_, rfl⟩
            rw [hri] at HIN hst2 hnb
            have HST3 := Lib.hid hst2
            have hnkl : nk < 1000000 := by omega
            have bx6 := cellAt HBX6.out (i := 0) rfl
            have hwr := IntWalk.i64_in (nk : Int) (by omega)
            clear hst2 hri hnk hkid hbbe hbb
            go_wp2_with fail
            rw [HW5.out]
            refine wp_region_held_drew (S := fun w' => w'.cell? ⟨xb, 0, none⟩ = some (ptrV bj)) rfl bx6 (fun hS => ?_)
            refine wpAnyH_take (i := 0) (v := ?_) rfl (by kernel_rfl) (by kernel_rfl) (by kernel_rfl) (fun _ _ _ h => h) (Or.inl ⟨by rfl, ?_⟩) hS ?_
            rotate_left
            · intro w' hSw; (try dsimp only at hSw); go_simp; try with_reducible rfl
            (try simp only [Act.put, List.setIfInBounds_toArray, List.set_cons_zero, List.set_cons_succ])
            refine wpAnyH_take (i := 1) (v := ?_) rfl (by kernel_rfl) (by kernel_rfl) (by kernel_rfl) (fun _ _ _ h => h) (Or.inl ⟨by rfl, ?_⟩) hS ?_
            rotate_left
            · intro w' hSw; (try dsimp only at hSw); go_simp; try with_reducible rfl
            (try simp only [Act.put, List.setIfInBounds_toArray, List.set_cons_zero, List.set_cons_succ])
            refine wpAnyH_take (i := 2) (v := ?_) rfl (by kernel_rfl) (by kernel_rfl) (by kernel_rfl) (fun _ _ _ h => h) (Or.inl ⟨by rfl, ?_⟩) hS ?_
            rotate_left
            · intro w' hSw; (try dsimp only at hSw); go_simp; try with_reducible rfl
            (try simp only [Act.put, List.setIfInBounds_toArray, List.set_cons_zero, List.set_cons_succ])
            refine wpAnyH_ready (rs := [3]) (by kernel_rfl) (by simp) ?_
            refine AllReadyH.cons rfl (fun K' hK => ?_) AllReadyH.nil
            simp only [List.getElem_toArray, List.getElem_cons_succ, List.getElem_cons_zero]
            go_simp
            refine (HKN.out _ (Gr.refl _).drew).mono ?_
            rintro e w6 ⟨rfl, hg6⟩
            have X6 := hg6.blk HBX6.out
            have hG6 := ((Gr.refl w5).drew).trans hg6
            refine hK.out _ _ (cellAt X6 rfl) (fun hS => ?_)
            (try simp only [Act.put, List.setIfInBounds_toArray, List.set_cons_zero, List.set_cons_succ])
            refine wpAnyH_take (i := 4) (v := ?_) rfl (by kernel_rfl) (by kernel_rfl) (by kernel_rfl) (fun _ _ _ h => h) (Or.inl ⟨by rfl, ?_⟩) hS ?_
            rotate_left
            · intro w' hSw; (try dsimp only at hSw); go_simp; try with_reducible rfl
            (try simp only [Act.put, List.setIfInBounds_toArray, List.set_cons_zero, List.set_cons_succ])
            refine wpAnyH_ready (rs := [5]) (by kernel_rfl) (by simp) ?_
            refine AllReadyH.cons rfl (fun K' hK => ?_) AllReadyH.nil
            simp only [List.getElem_toArray, List.getElem_cons_succ, List.getElem_cons_zero]
            go_simp
            refine (HKD.out _ hG6).mono ?_
            rintro e w7 ⟨bi, rfl, hti, hg7⟩
            have X7 := hg7.blk X6
            have hG7 := hG6.trans hg7
            refine hK.out _ _ (cellAt X7 rfl) (fun hS => ?_)
            (try simp only [Act.put, List.setIfInBounds_toArray, List.set_cons_zero, List.set_cons_succ])
            refine wpAnyH_ready (rs := [6]) (by kernel_rfl) (by simp) ?_
            refine AllReadyH.cons rfl (fun K' hK => ?_) AllReadyH.nil
            simp only [List.getElem_toArray, List.getElem_cons_succ, List.getElem_cons_zero]
            go_simp
            refine (HIN.out bi _ hG7 (hti.gr hg7)).mono ?_
            rintro e w8 hres
            have hown : ∀ k, COwn { C with res := dj.typ } (.slice (some ⟨zb, 0, none⟩) 1 1) [w2.heap.size] k → k = C.cb ∨ w1.heap.size ≤ k := fun k hk => by
              rcases hk with hk | hk | hk
              · exact .inl hk
              · exact .inr (by have : k = zb := by simpa [Value.ownBlock] using hk
                               omega)
              · exact .inr (by have := List.mem_singleton.1 hk
                               omega)
            have hfr7 : Fr (fun k => k = C.cb) w1 w7 := HFR5.out.gr hG7
            cases ri with
            | bad => exact absurd rfl hnb
            | err ea ec =>
              obtain ⟨he, hfr8⟩ := hres
              have hr : R = .err ea ec := by rw [← HR.out, hI.out, HST3.out]; rfl
              subst he
              refine ⟨rfl, ?_⟩
              rw [hr]
              exact ⟨Fr.grl hG1 (hfr7.trans hfr8 hown), rfl⟩
            | ok blx =>
              obtain ⟨he, msx, bvx, hcx, hsx⟩ := hres
              subst he
              have hfr8 : Fr (fun k => k = C.cb) w1 w8 := hfr7.trans hsx.fr hown
              have hch8 : ChkAt C w8 := ⟨bvx, dj.typ, hcx.blk⟩
              have hx8 : w8.heap[xb]? = some (.cells #[ptrV bj] 53 (0, 0)) := hsx.fr.blk X7 (fun hk => by
                rcases hk with hk | hk | hk
                · have hk : xb = C.cb := hk
                  omega
                · have : xb = zb := by simpa [Value.ownBlock] using hk
                  omega
                · have := List.mem_singleton.1 hk
                  omega)
              refine hK.out _ _ (cellAt hx8 rfl) (fun hS => ?_)
              (try simp only [Act.put, List.setIfInBounds_toArray, List.set_cons_zero, List.set_cons_succ])
              refine wpAnyH_done (by kernel_rfl) ?_ _
              (try simp only [List.getElem_toArray, List.getElem_cons_succ, List.getElem_cons_zero, Act.put, List.setIfInBounds_toArray, List.set_cons_zero, List.set_cons_succ])
              have HF8 := Lib.hid hfr8
              have HC8 := Lib.hid hch8
              clear hK hfr8 hch8 hx8 hcx hsx X6 X7 hg6 hg7 hti hG6 hG7 hown hfr7 bx6 hS
              go_wp2_with fail
              go_roundw
              case rel =>
                refine ⟨j + 1, by omega, by go_num, HC8.out, HF8.out, ?_⟩
                show bodiesC C.x ks = _
                rw [hI.out, HST3.out]; rfl
              case measure => simp [intOf]; omega
      · have h4b : (dj.op != 4) = true := by simp [h4]
        have H4 := Lib.hid h4
        clear h4
        go_wp2_with fail
        refine (HOP.out _ (Gr.al _ _)).mono ?_
        rintro e w2 ⟨rfl, hg2⟩
        have hG2 := (Gr.al _ (.cells #[ptrV bj] 53)).trans hg2
        go_wp2_with fail
        go_roundw
        case rel =>
          refine ⟨j + 1, by omega, by go_num, HCK.out.gr hG2, HFR.out.gr hG2, ?_⟩
          show bodiesC C.x ks = _
          rw [hI.out, HSTEP.out]
          exact if_pos H4.out
        case measure => simp [intOf]; omega
    · have hr : Hid (R = .ok ()) := by
        show R = .ok ()
        rw [← HR.out, hI.out, List.drop_of_length_le (by rw [← HN.out]; omega), bodiesC]
      go_wp2_with fail
      go_end0
      rw [hr.out]
      exact ⟨Fr.grl hG1 HFR.out, rfl, HCK.out⟩
end Go.Proofs.YthniejnbkkkbnaaGreatDoor
