/- Walks of layer check: types. -/
import Derived.Test.YthniejnbkkkbnaaGreatDoorM25
set_option linter.all false
set_option linter.unusedSimpArgs false
set_option linter.unusedVariables false
namespace Go.Proofs.YthniejnbkkkbnaaGreatDoor
open Go.RowKit
set_option maxRecDepth 100000
set_option maxHeartbeats 40000000

theorem take_get {α : Type} {l : List α} {i a : Nat} {x : α} (h : (l.take i)[a]? = some x) : l[a]? = some x := by
  rw [List.getElem?_take] at h
  split at h
  · exact h
  · cases h
theorem types_drop (x : Info) (ks : List T) (j : Nat) (d : T) (hj : ks[j]? = some d) : typesC x (ks.drop j) = cbind (partsC x (mostT d.d.op) (listT d) 0 (listT d)) fun _ =>
    if d.d.op ≠ 4 ∨ d.d.typ = [] ∨ isTypP x.structs d.d.typ = true then typesC x (ks.drop (j + 1)) else .err d.d.at_ 5 := by
  obtain ⟨hlt, he⟩ := List.getElem?_eq_some_iff.1 hj
  rw [List.drop_eq_getElem_cons hlt, he, typesC]
theorem pc_drop (x : Info) (mo : Int) (ps : List T) (i : Nat) (p : T) (hi : ps[i]? = some p) : partsC x mo ps i (ps.drop i) =
    if mo ≤ i then .err p.d.at_ 4 else if (ps.take i).any (fun q => q.d.name == p.d.name) then .err p.d.at_ 6 else if !isTypP x.structs p.d.typ then .err p.d.at_ 5 else partsC x mo ps (i + 1) (ps.drop (i + 1)) := by
  obtain ⟨hlt, he⟩ := List.getElem?_eq_some_iff.1 hi
  rw [List.drop_eq_getElem_cons hlt, he, partsC]

theorem ctypes_any (C : CK) (d : D) (ks : List T) (b : Nat) (w : World) (h : CStat C w) (hc : ChkAt C w) (ht : TreeAt w C.X b (.mk d ks)) (hkl : ks.length < 1000000) (hsa : ∀ a ∈ ks, smallT a = true) (hpa : ∀ a ∈ ks, partsOk a.kids = true) :
    Calls Tryz.prog 43 #[ptrV C.cb, nodeV b] w (GPost w (typesC C.x ks)) := by
  have HC := Lib.hid h
  have HCH := Lib.hid hc
  have HKS := Lib.hid (fun w' (hg : Gr w w') => kids_any b (.mk d ks) C.X w' (ht.gr hg) (fun k hk => by have := h.hB; have := hg.size; have := hk.1; omega) hkl)
  rw [show (T.mk d ks).kids = ks from rfl] at HKS
  obtain ⟨R, hR⟩ : ∃ R, typesC C.x ks = R := ⟨_, rfl⟩
  have HR := Lib.hid hR
  rw [hR]
  obtain ⟨n, hn⟩ : ∃ n, n = ks.length := ⟨_, rfl⟩
  rw [← hn] at hkl
  have HN := Lib.hid hn
  have hmm := @run_makeMap Tryz.prog
  have HKI := Lib.hid (fun t w' (hg : Gr w w') => kIs_any C.x.structs C.sv _ t w' (h.st.gr hg) h.ls)
  obtain ⟨_, _, hcb0⟩ := hc
  have hcbl := blkLt hcb0
  clear h ht hR hn hcb0
  go_enter Tryz.func43, Tryz.ntmps43
  go_wp2_with fail
  refine (HKS.out _ (Gr.al _ _)).mono ?_
  rintro e w1 ⟨kv, bs, rfl, ho, hg1⟩
  have hG1 : Gr w w1 := (Gr.al _ _).trans hg1
  obtain ⟨A, c, bs', hkv, hkc, hkr, hbl, htr⟩ := ho.nodes
  rw [← HN.out] at hkv hkc hbl
  subst hkv
  have HKR := Lib.hid hkr
  have HTR := Lib.hid htr
  have HBL := Lib.hid hbl
  have HG1 := Lib.hid hG1
  clear ho hkr htr hg1 hbl
  go_wp2_with fail
  go_loopw [13] (fun t wr => ∃ j : Nat, j ≤ n ∧ t = .int .i64 j ∧ Gr w1 wr ∧ Hid (typesC C.x ks = typesC C.x (ks.drop j))) (fun t _ => n - (intOf t).toNat)
  case atStart => exact ⟨0, by omega, rfl, Gr.refl _, rfl⟩
  case round =>
    obtain ⟨j, hj, rfl, hgr, hI⟩ := hrel
    have HGR := Lib.hid hgr
    have hsz := hgr.size
    have hsz1 := hG1.size
    by_cases hlt : j < n
    · have hjk : j < ks.length := by rw [← HN.out]; exact hlt
      have hjb : j < bs'.length := by rw [HBL.out]; exact hlt
      obtain ⟨g, off, rfl, hg, _, hcl⟩ := (HKR.out.gr HGR.out).open_ (j := j) (by simpa using hjb)
      obtain ⟨bj, hbj⟩ : ∃ b, bs'[j] = b := ⟨_, rfl⟩
      have hcj := hcl j (ptrV bj) (by simp [hjb, hbj])
      have htj0 := HTR.out j bs'[j] ks[j] (by simp [hjb]) (by simp [hjk])
      rw [hbj] at htj0
      have htj := htj0.gr HGR.out
      have hstep := types_drop C.x ks j ks[j] (by simp [hjk])
      have hmem : ks[j] ∈ ks := List.getElem_mem hjk
      have hsm := hsa ks[j] hmem
      have hpo := hpa ks[j] hmem
      obtain ⟨⟨dj, kj⟩, hdj⟩ : ∃ t, ks[j] = t := ⟨_, rfl⟩
      rw [hdj] at htj hstep hsm hpo
      obtain ⟨_, _, hkjl, hkjs⟩ := smallT_mk hsm
      have HOP := Lib.hid (fun w' (hg : Gr wr w') => Op_any (nodeV bj) (some (.mk dj kj)) C.X w' ⟨bj, rfl, htj.gr hg⟩)
      rw [show (dO (some (T.mk dj kj))).op = dj.op from rfl] at HOP
      have HTY := Lib.hid (fun w' (hg : Gr wr w') => Type_any (nodeV bj) (some (.mk dj kj)) C.X w' ⟨bj, rfl, htj.gr hg⟩)
      rw [show (dO (some (T.mk dj kj))).typ = dj.typ from rfl] at HTY
      have HMN := Lib.hid (fun er w' (hg : Gr wr w') => must_no bj (.mk dj kj) C.X er w' (htj.gr hg))
      rw [show (T.mk dj kj).d = dj from rfl] at HMN
      have HMY := Lib.hid (fun er w' => must_yes (nodeV bj) ⟨_, rfl⟩ er w')
      have HPA := Lib.hid (fun w' (hg : Gr wr w') => parts_any bj (.mk dj kj) C.X w' (htj.gr hg) (fun k hk => by have := HC.out.hB; have := hk.1; have := hg.size; omega) hkjl hpo)
      rw [show (T.mk dj kj).kids.filter isPart = partsP (.mk dj kj) from rfl] at HPA
      have HSTEP := Lib.hid hstep
      rw [show (T.mk dj kj).d = dj from rfl] at HSTEP
      have HTJ := Lib.hid htj
      obtain ⟨mo, hmo⟩ : ∃ mo, mostT dj.op = mo := ⟨_, rfl⟩
      have HMO := Lib.hid hmo
      rw [hmo] at HSTEP
      clear hcl hbj htj htj0 hstep hmem hdj hsm hpo hmo
      go_upto_region 4 with fail
      have hG2 : Gr wr (wr.alloc (.cells #[ptrV bj] 53 (0, 0))) := Gr.al _ _
      have BX2 := blk_alloc wr (.cells #[ptrV bj] 53)
      obtain ⟨xb, hxb⟩ : ∃ x, x = wr.heap.size := ⟨_, rfl⟩
      rw [← hxb] at BX2 ⊢
      generalize hw2 : wr.alloc (.cells #[ptrV bj] 53 (0, 0)) = w2 at BX2 hG2 ⊢
      obtain ⟨wA, wB, wC, r1, r2, r3, hm, hgC⟩ := most_made w2
      have BXC := hgC.blk BX2
      have hGC := hG2.trans hgC
      have bxC := cellAt BXC (i := 0) rfl
      have HM := Lib.hid hm
      have hxl := blkLt BXC
      have HBXC := Lib.hid BXC
      have HGC := Lib.hid hGC
      have hxg : w1.heap.size ≤ xb := by omega
      clear hm hw2 hcj hgC hG2 BX2 BXC hGC hxb
      go_wp2_with fail
      refine (HOP.out _ HGC.out).mono ?_
      rintro e w3 ⟨rfl, hg3⟩
      have hlk := run_get_mii w3 _ mostL dj.op (HM.out.gr hg3)
      rw [mostL_get, HMO.out] at hlk
      have HBX3 := Lib.hid (hg3.blk HBXC.out)
      have HG3 := Lib.hid (HGC.out.trans hg3)
      have bx3 := cellAt HBX3.out (i := 0) rfl
      have hxl3 := blkLt HBX3.out
      clear HM HMO bxC hg3
      go_wp2_with fail
      refine (HPA.out _ HG3.out).mono ?_
      rintro e w4 ⟨pv, bps, rfl, hop4, hg4⟩
      have HBX4 := Lib.hid (hg4.blk HBX3.out)
      have HG4 := Lib.hid (HG3.out.trans hg4)
      have bx4 := cellAt HBX4.out (i := 0) rfl
      have hxl4 := blkLt HBX4.out
      have HOP4 := Lib.hid hop4
      have HGG4 := Lib.hid hg4
      clear hop4 hg4 hlk bx3
      go_wp2_with fail
      refine (HOP.out _ HG4.out).mono ?_
      rintro e w5 ⟨rfl, hg5⟩
      have HBX5 := Lib.hid (hg5.blk HBX4.out)
      have HG5 := Lib.hid (HG4.out.trans hg5)
      have bx5 := cellAt HBX5.out (i := 0) rfl
      have hxl5 := blkLt HBX5.out
      have hop5 := HOP4.out.gr hg5
      have hxw := hsz1
      clear hg5 bx4
      by_cases h3 : dj.op = 3
      · have hls : listT (.mk dj kj) = [.mk dj kj] := by unfold listT; rw [if_pos (show (T.mk dj kj).d.op = 3 from h3)]
        rw [hls] at HSTEP
        obtain ⟨ps, hps⟩ : ∃ ps, ps = [T.mk dj kj] := ⟨_, rfl⟩
        rw [← hps] at HSTEP
        have h4 : ¬ dj.op = 4 := by omega
        have h3b : (dj.op == 3) = true := by simp [h3]
        have hgz : Gr w5 (w5.alloc (.cells #[ptrV bj] 53 (0, 0))) := Gr.al _ _
        have hrz : RowR (w5.alloc (.cells #[ptrV bj] 53 (0, 0))) (fun _ => True) (some ⟨w5.heap.size, 0, none⟩) ([bj].map ptrV) := RowR.alloc [ptrV bj]
        clear hop5 hls HOP4 HPA h3
        go_upto_region 8 with fail
        obtain ⟨A3, hA3⟩ : ∃ A : Option Addr, A = some ⟨w5.heap.size, 0, none⟩ := ⟨_, rfl⟩
        rw [← hA3] at hrz ⊢
        clear hA3
        obtain ⟨np, hnp⟩ : ∃ np : Nat, np = 1 := ⟨_, rfl⟩
        rw [show Value.slice A3 1 1 = Value.slice A3 np np from by rw [hnp]]
        have hnpl : np < 1000000 := by omega
        generalize w5.alloc (.cells #[ptrV bj] 53 (0, 0)) = wz at hgz hrz ⊢
        obtain ⟨bps', hbps⟩ : ∃ l, l = [bj] := ⟨_, rfl⟩
        rw [← hbps] at hrz
        have HPR := Lib.hid (fun w' (hg : Gr wz w') => hrz.gr hg)
        have HPB : Hid (bps'.length = np) := by show _ = _; rw [hbps, hnp]; rfl
        have HNP : Hid (np = ps.length) := by show _ = _; rw [hps, hnp]; rfl
        have HG5 := Lib.hid (HG5.out.trans hgz)
        have HBX5 := Lib.hid (hgz.blk HBX5.out)
        have HPT : Hid (∀ (i b : Nat) (t : T), bps'[i]? = some b → ps[i]? = some t → TreeAt wz C.X b t) := fun i b t hb ht => by
          rw [hbps] at hb
          rw [hps] at ht
          match i, hb, ht with
          | 0, hb, ht => injection hb with hb; injection ht with ht; subst hb ht; exact HTJ.out.gr HG5.out
        have hpc : np ≤ np := Nat.le_refl np
        clear hps hbps hrz hnp
        go_wp2_with fail
        go_loopw [31] (fun t wr => ∃ i : Nat, i ≤ np ∧ t = .int .i64 i ∧ Gr wz wr ∧ Hid (partsC C.x mo ps 0 ps = partsC C.x mo ps i (ps.drop i))) (fun t _ => np - (intOf t).toNat)
        case atStart => exact ⟨0, by omega, rfl, Gr.refl _, by show _ = _; rw [List.drop_zero]⟩
        case round =>
          obtain ⟨i, hi, rfl, hgi, hIi⟩ := hrel
          have HGI := Lib.hid hgi
          have hsi := hgi.size
          clear hgi
          by_cases hlti : i < np
          · have hik : i < ps.length := by rw [← HNP.out]; exact hlti
            have hib : i < bps'.length := by rw [HPB.out]; exact hlti
            have HPRi := HPR.out _ HGI.out
            obtain ⟨gp, offp, hA3, hgp, _, hclp⟩ := HPRi.open_ (j := i) (by simpa using hib)
            subst hA3
            obtain ⟨bi, hbi⟩ : ∃ b, bps'[i] = b := ⟨_, rfl⟩
            have hci := hclp i (ptrV bi) (by simp [hib, hbi])
            have hti0 := HPT.out i bps'[i] ps[i] (by simp [hib]) (by simp [hik])
            rw [hbi] at hti0
            have hti := hti0.gr HGI.out
            have hpd := pc_drop C.x mo ps i ps[i] (by simp [hik])
            obtain ⟨⟨di, ki⟩, hdi⟩ : ∃ t, ps[i] = t := ⟨_, rfl⟩
            rw [hdi] at hti hpd
            rw [show (T.mk di ki).d = di from rfl] at hpd
            have HPD := Lib.hid hpd
            have HTI := Lib.hid hti
            have HCI := Lib.hid hci
            have HMNi := Lib.hid (fun er w' (hg : Gr _ w') => must_no bi (.mk di ki) C.X er w' (hti.gr hg))
            rw [show (T.mk di ki).d = di from rfl] at HMNi
            have HMYi := Lib.hid (fun er w' => must_yes (nodeV bi) ⟨_, rfl⟩ er w')
            have HTYi := Lib.hid (fun w' (hg : Gr _ w') => Type_any (nodeV bi) (some (.mk di ki)) C.X w' ⟨bi, rfl, hti.gr hg⟩)
            rw [show (dO (some (T.mk di ki))).typ = di.typ from rfl] at HTYi
            clear hclp hbi hti0 hti hpd hdi
            have N1 := blk_alloc wr (.cells #[ptrV bi] 53)
            have HG6 := Lib.hid (Gr.al wr (.cells #[ptrV bi] 53 (0, 0)))
            have HGB := Lib.hid ((HG1.out.trans HGR.out).trans (HG5.out.trans HGI.out))
            have hic : i ≤ np := by omega
            by_cases hlm : (i : Int) < mo
            · go_wp2_with fail
              refine (HMYi.out 4 _).mono ?_
              rintro e w7 ⟨rfl, hg7⟩
              have N7 := hg7.blk N1
              have hG7 := HG6.out.trans hg7
              have n7 := cellAt N7 (i := 0) rfl
              have nl7 := blkLt N7
              obtain ⟨yb, hyb⟩ : ∃ x, x = wr.heap.size := ⟨_, rfl⟩
              rw [← hyb] at N7 n7 nl7 ⊢
              clear hyb
              have HHN := Lib.hid (fun w' (hg : Gr w7 w') => hasNode_any (ps.take i) (bps'.take i) (some ⟨gp, offp, none⟩) i np (by simp; omega) (by simp; omega) (fun _ => True) C.X bi yb (.mk di ki) w' (RowR.left (m := (bps'.drop i).map ptrV) (by rw [← List.map_append, List.take_append_drop]; exact HPR.out _ (HGI.out.trans (hG7.trans hg)))) (by omega) (fun a b' t hb ht => (HPT.out a b' t (take_get hb) (take_get ht)).gr (HGI.out.trans (hG7.trans hg))) (HTI.out.gr (hG7.trans hg)) (hg.blk N7))
              rw [show (T.mk di ki).d = di from rfl] at HHN
              obtain ⟨q1, hq1⟩ : ∃ q, ((ps.take i).any fun q => q.d.name == di.name) = q := ⟨_, rfl⟩
              rw [hq1] at HHN
              have HQ1 := Lib.hid hq1
              clear hq1 hci N1
              go_wp2_with fail
              refine wp_region_held_drew (S := fun w' => w'.cell? ⟨yb, 0, none⟩ = some (ptrV bi)) rfl n7 (fun hS => ?_)
              refine wpAnyH_take (i := 0) (v := ?_) rfl (by kernel_rfl) (by kernel_rfl) (by kernel_rfl) (fun _ _ _ h => h) (Or.inl ⟨by rfl, ?_⟩) hS ?_
              rotate_left
              · intro w' hSw; (try dsimp only at hSw); go_simp; try with_reducible rfl
              (try simp only [Act.put, List.setIfInBounds_toArray, List.set_cons_zero, List.set_cons_succ])
              refine wpAnyH_take (i := 1) (v := ?_) rfl (by kernel_rfl) (by kernel_rfl) (by kernel_rfl) (fun _ _ _ h => h) (Or.inl ⟨by rfl, ?_⟩) hS ?_
              rotate_left
              · intro w' hSw; (try dsimp only at hSw); go_simp; try with_reducible rfl
              (try simp only [Act.put, List.setIfInBounds_toArray, List.set_cons_zero, List.set_cons_succ])
              refine wpAnyH_take (i := 2) (v := ?_) rfl (by kernel_rfl) (by kernel_rfl) (by kernel_rfl) (fun _ _ _ h => h) (Or.inl ⟨by rfl, ?_⟩) hS ?_
              rotate_left
              · intro w' hSw; (try dsimp only at hSw); go_simp; try with_reducible rfl
              (try simp only [Act.put, List.setIfInBounds_toArray, List.set_cons_zero, List.set_cons_succ])
              refine wpAnyH_take (i := 3) (v := ?_) rfl (by kernel_rfl) (by kernel_rfl) (by kernel_rfl) (fun _ _ _ h => h) (Or.inl ⟨by rfl, ?_⟩) hS ?_
              rotate_left
              · intro w' hSw; (try dsimp only at hSw); go_simp; try with_reducible rfl
              (try simp only [Act.put, List.setIfInBounds_toArray, List.set_cons_zero, List.set_cons_succ])
              refine wpAnyH_take (i := 6) (v := ?_) rfl (by kernel_rfl) (by kernel_rfl) (by kernel_rfl) (fun _ _ _ h => h) (Or.inl ⟨by rfl, ?_⟩) hS ?_
              rotate_left
              · intro w' hSw; (try dsimp only at hSw); go_simp; try with_reducible rfl
              (try simp only [Act.put, List.setIfInBounds_toArray, List.set_cons_zero, List.set_cons_succ])
              refine wpAnyH_ready (rs := [4]) (by kernel_rfl) (by simp) ?_
              refine AllReadyH.cons rfl (fun K' hK => ?_) AllReadyH.nil
              simp only [List.getElem_toArray, List.getElem_cons_succ, List.getElem_cons_zero]
              go_simp
              refine (HHN.out _ ((Gr.refl w7).drew)).mono ?_
              rintro e w8 ⟨rfl, hg8⟩
              have N8 := hg8.blk N7
              have hG8 : Gr wr w8 := hG7.drew.trans hg8
              refine hK.out _ _ (cellAt N8 rfl) (fun hS => ?_)
              (try simp only [Act.put, List.setIfInBounds_toArray, List.set_cons_zero, List.set_cons_succ])
              refine wpAnyH_take (i := 5) (v := ?_) rfl (by kernel_rfl) (by kernel_rfl) (by kernel_rfl) (fun _ _ _ h => h) (Or.inl ⟨by rfl, ?_⟩) hS ?_
              rotate_left
              · intro w' hSw; (try dsimp only at hSw); go_simp; try with_reducible rfl
              (try simp only [Act.put, List.setIfInBounds_toArray, List.set_cons_zero, List.set_cons_succ])
              refine wpAnyH_ready (rs := [7]) (by kernel_rfl) (by simp) ?_
              refine AllReadyH.cons rfl (fun K' hK => ?_) AllReadyH.nil
              simp only [List.getElem_toArray, List.getElem_cons_succ, List.getElem_cons_zero]
              go_simp
              cases q1
              · refine (HMYi.out 6 _).mono ?_
                rintro e w9 ⟨rfl, hg9⟩
                have N9 := hg9.blk N8
                have hG9 := hG8.trans hg9
                refine hK.out _ _ (cellAt N9 rfl) (fun hS => ?_)
                (try simp only [Act.put, List.setIfInBounds_toArray, List.set_cons_zero, List.set_cons_succ])
                refine wpAnyH_done (by kernel_rfl) ?_ _
                (try simp only [List.getElem_toArray, List.getElem_cons_succ, List.getElem_cons_zero, Act.put, List.setIfInBounds_toArray, List.set_cons_zero, List.set_cons_succ])
                have n9 := cellAt N9 (i := 0) rfl
                have nl9 := blkLt N9
                have HCI9 := (HCH.out.gr (HGB.out.trans hG9))
                obtain ⟨bv9, res9, hb9⟩ := HCI9
                have c9 := cellAt hb9 (i := 0) rfl
                have cl9 := blkLt hb9
                have HN9 := Lib.hid N9
                have HG9 := Lib.hid hG9
                have HB9 := Lib.hid hb9
                have HKIi := Lib.hid (fun w' (hg : Gr wr w') => HKI.out di.typ w' (HGB.out.trans hg))
                obtain ⟨q2, hq2⟩ : ∃ q, isTypP C.x.structs di.typ = q := ⟨_, rfl⟩
                rw [hq2] at HKIi
                have HQ2 := Lib.hid hq2
                clear hq2 hK hS N7 N8 hg7 hg8 hg9 n7 nl7 hG7 hG8 N9 hG9 hb9
                go_wp2_with fail
                refine wp_region_held_drew (S := fun w' => w'.cell? ⟨yb, 0, none⟩ = some (ptrV bi) ∧ w'.cell? ⟨C.cb, 0, none⟩ = some C.sv) rfl ⟨n9, c9⟩ (fun hS => ?_)
                refine wpAnyH_take (i := 0) (v := ?_) rfl (by kernel_rfl) (by kernel_rfl) (by kernel_rfl) (fun _ _ _ h => h) (Or.inl ⟨by rfl, ?_⟩) hS ?_
                rotate_left
                · intro w' hSw; (try dsimp only at hSw); go_simp; try with_reducible rfl
                (try simp only [Act.put, List.setIfInBounds_toArray, List.set_cons_zero, List.set_cons_succ])
                refine wpAnyH_take (i := 1) (v := ?_) rfl (by kernel_rfl) (by kernel_rfl) (by kernel_rfl) (fun _ _ _ h => h) (Or.inl ⟨by rfl, ?_⟩) hS ?_
                rotate_left
                · intro w' hSw; (try dsimp only at hSw); go_simp; try with_reducible rfl
                (try simp only [Act.put, List.setIfInBounds_toArray, List.set_cons_zero, List.set_cons_succ])
                refine wpAnyH_take (i := 2) (v := ?_) rfl (by kernel_rfl) (by kernel_rfl) (by kernel_rfl) (fun _ _ _ h => h) (Or.inl ⟨by rfl, ?_⟩) hS ?_
                rotate_left
                · intro w' hSw; (try dsimp only at hSw); go_simp; try with_reducible rfl
                (try simp only [Act.put, List.setIfInBounds_toArray, List.set_cons_zero, List.set_cons_succ])
                refine wpAnyH_take (i := 3) (v := ?_) rfl (by kernel_rfl) (by kernel_rfl) (by kernel_rfl) (fun _ _ _ h => h) (Or.inl ⟨by rfl, ?_⟩) hS ?_
                rotate_left
                · intro w' hSw; (try dsimp only at hSw); go_simp; try with_reducible rfl
                (try simp only [Act.put, List.setIfInBounds_toArray, List.set_cons_zero, List.set_cons_succ])
                refine wpAnyH_take (i := 4) (v := ?_) rfl (by kernel_rfl) (by kernel_rfl) (by kernel_rfl) (fun _ _ _ h => h) (Or.inl ⟨by rfl, ?_⟩) hS ?_
                rotate_left
                · intro w' hSw; (try dsimp only at hSw); go_simp; try with_reducible rfl
                (try simp only [Act.put, List.setIfInBounds_toArray, List.set_cons_zero, List.set_cons_succ])
                refine wpAnyH_take (i := 5) (v := ?_) rfl (by kernel_rfl) (by kernel_rfl) (by kernel_rfl) (fun _ _ _ h => h) (Or.inl ⟨by rfl, ?_⟩) hS ?_
                rotate_left
                · intro w' hSw; (try dsimp only at hSw); go_simp; try with_reducible rfl
                (try simp only [Act.put, List.setIfInBounds_toArray, List.set_cons_zero, List.set_cons_succ])
                refine wpAnyH_take (i := 8) (v := ?_) rfl (by kernel_rfl) (by kernel_rfl) (by kernel_rfl) (fun _ _ _ h => h) (Or.inl ⟨by rfl, ?_⟩) hS ?_
                rotate_left
                · intro w' hSw; (try dsimp only at hSw); go_simp; try with_reducible rfl
                (try simp only [Act.put, List.setIfInBounds_toArray, List.set_cons_zero, List.set_cons_succ])
                refine wpAnyH_ready (rs := [6]) (by kernel_rfl) (by simp) ?_
                refine AllReadyH.cons rfl (fun K' hK => ?_) AllReadyH.nil
                simp only [List.getElem_toArray, List.getElem_cons_succ, List.getElem_cons_zero]
                go_simp
                refine (HTYi.out _ HG9.out.drew).mono ?_
                rintro e w10 ⟨rfl, hg10⟩
                have N10 := hg10.blk (show w9.drew.heap[yb]? = _ from HN9.out)
                have hG10 : Gr wr w10 := HG9.out.drew.trans hg10
                have C10 := hg10.blk (show w9.drew.heap[C.cb]? = _ from HB9.out)
                refine hK.out _ _ ⟨cellAt N10 rfl, cellAt C10 rfl⟩ (fun hS => ?_)
                (try simp only [Act.put, List.setIfInBounds_toArray, List.set_cons_zero, List.set_cons_succ])
                refine wpAnyH_ready (rs := [7]) (by kernel_rfl) (by simp) ?_
                refine AllReadyH.cons rfl (fun K' hK => ?_) AllReadyH.nil
                simp only [List.getElem_toArray, List.getElem_cons_succ, List.getElem_cons_zero]
                go_simp
                refine (HKIi.out _ hG10).mono ?_
                rintro e w11 ⟨rfl, hg11⟩
                have N11 := hg11.blk N10
                have hG11 : Gr wr w11 := hG10.trans hg11
                have C11 := hg11.blk C10
                refine hK.out _ _ ⟨cellAt N11 rfl, cellAt C11 rfl⟩ (fun hS => ?_)
                (try simp only [Act.put, List.setIfInBounds_toArray, List.set_cons_zero, List.set_cons_succ])
                refine wpAnyH_ready (rs := [9]) (by kernel_rfl) (by simp) ?_
                refine AllReadyH.cons rfl (fun K' hK => ?_) AllReadyH.nil
                simp only [List.getElem_toArray, List.getElem_cons_succ, List.getElem_cons_zero]
                go_simp
                cases q2
                · refine (HMNi.out 5 _ hG11).mono ?_
                  rintro e w12 ⟨rfl, hg12⟩
                  have hr : R = .err di.at_ 5 := by rw [← HR.out, hI.out, HSTEP.out, hIi.out, HPD.out, if_neg (by omega), HQ1.out, HQ2.out]; rfl
                  refine ⟨rfl, ?_⟩
                  rw [hr]
                  exact ⟨HGB.out.trans (hG11.trans hg12), rfl⟩
                · refine (HMYi.out 5 _).mono ?_
                  rintro e w12 ⟨rfl, hg12⟩
                  have hG12 := hG11.trans hg12
                  refine hK.out _ _ ⟨cellAt (hg12.blk N11) rfl, cellAt (hg12.blk C11) rfl⟩ (fun hS => ?_)
                  (try simp only [Act.put, List.setIfInBounds_toArray, List.set_cons_zero, List.set_cons_succ])
                  refine wpAnyH_done (by kernel_rfl) ?_ _
                  (try simp only [List.getElem_toArray, List.getElem_cons_succ, List.getElem_cons_zero, Act.put, List.setIfInBounds_toArray, List.set_cons_zero, List.set_cons_succ])
                  have hpn : Hid (partsC C.x mo ps 0 ps = partsC C.x mo ps (i + 1) (ps.drop (i + 1))) := by
                    show _ = _
                    rw [hIi.out, HPD.out, if_neg (by omega), HQ1.out, HQ2.out]; rfl
                  have HG12 := Lib.hid (HGI.out.trans hG12)
                  clear hK hS N10 N11 C10 C11 hg10 hg11 hg12 hG10 hG11 hG12
                  go_wp2_with fail
                  go_roundw
                  case rel => exact ⟨i + 1, by omega, by go_num, HG12.out, hpn⟩
                  case measure => simp [intOf]; omega
              · refine (HMNi.out 6 _ hG8).mono ?_
                rintro e w9 ⟨rfl, hg9⟩
                have hr : R = .err di.at_ 6 := by rw [← HR.out, hI.out, HSTEP.out, hIi.out, HPD.out, if_neg (by omega), HQ1.out]; rfl
                refine ⟨rfl, ?_⟩
                rw [hr]
                exact ⟨HGB.out.trans (hG8.trans hg9), rfl⟩
            · go_wp2_with fail
              refine (HMNi.out 4 _ HG6.out).mono ?_
              rintro e w7 ⟨rfl, hg7⟩
              have hr : R = .err di.at_ 4 := by rw [← HR.out, hI.out, HSTEP.out, hIi.out, HPD.out, if_pos (by omega)]; rfl
              refine ⟨rfl, ?_⟩
              rw [hr]
              exact ⟨((HG1.out.trans HGR.out).trans (HG5.out.trans HGI.out)).trans (HG6.out.trans hg7), rfl⟩
          · have hpe : partsC C.x mo ps 0 ps = .ok () := by rw [hIi.out, List.drop_of_length_le (by rw [← HNP.out]; omega)]; rfl
            have HST : Hid (typesC C.x ks = if dj.op ≠ 4 ∨ dj.typ = [] ∨ isTypP C.x.structs dj.typ = true then typesC C.x (ks.drop (j + 1)) else .err dj.at_ 5) := by show _ = _; rw [hI.out, HSTEP.out, hpe]; rfl
            have HXB := Lib.hid (HGI.out.blk HBX5.out)
            have HGW := Lib.hid (HG5.out.trans HGI.out)
            have HGA := Lib.hid ((HG1.out.trans HGR.out).trans HGW.out)
            obtain ⟨bvt, rest, hbt⟩ := HCH.out.gr HGA.out
            have ct := cellAt hbt (i := 0) rfl
            have clt := blkLt hbt
            have xt := cellAt HXB.out (i := 0) rfl
            have xlt := blkLt HXB.out
            have HBT := Lib.hid hbt
            clear hpe hbt bx5
            clear HKR HTR HBL HPR HPT HPB HNP HBX4 HBX5 HG4 HG3 HKS HGG4 HBX3 hIi HGI HBXC HGC r1 r2 r3 hmm HTJ
            have hb4 : (dj.op == 4) = false := by simp [h4]
            have hb4n : (dj.op != 4) = true := by simp [h4]
            have hr : Hid (typesC C.x ks = typesC C.x (ks.drop (j + 1))) := by show _ = _; rw [HST.out, if_pos (.inl h4)]
            go_wp2_with fail
            refine wp_region_held_drew (S := fun w' => w'.cell? ⟨xb, 0, none⟩ = some (ptrV bj) ∧ w'.cell? ⟨C.cb, 0, none⟩ = some C.sv) rfl ⟨xt, ct⟩ (fun hS => ?_)
            refine wpAnyH_take (i := 0) (v := ?_) rfl (by kernel_rfl) (by kernel_rfl) (by kernel_rfl) (fun _ _ _ h => h) (Or.inl ⟨by rfl, ?_⟩) hS ?_
            rotate_left
            · intro w' hSw; (try dsimp only at hSw); go_simp; try with_reducible rfl
            (try simp only [List.getElem_toArray, List.getElem_cons_succ, List.getElem_cons_zero, Act.put, List.setIfInBounds_toArray, List.set_cons_zero, List.set_cons_succ])
            refine wpAnyH_take (i := 18) (v := ?_) rfl (by kernel_rfl) (by kernel_rfl) (by kernel_rfl) (fun _ _ _ h => h) (Or.inl ⟨by rfl, ?_⟩) hS ?_
            rotate_left
            · intro w' hSw; (try dsimp only at hSw); go_simp; try with_reducible rfl
            (try simp only [List.getElem_toArray, List.getElem_cons_succ, List.getElem_cons_zero, Act.put, List.setIfInBounds_toArray, List.set_cons_zero, List.set_cons_succ])
            refine wpAnyH_ready (rs := [1]) (by kernel_rfl) (by simp) ?_
            refine AllReadyH.cons rfl (fun K' hK => ?_) AllReadyH.nil
            simp only [List.getElem_toArray, List.getElem_cons_succ, List.getElem_cons_zero]
            go_simp
            refine (HOP.out _ HGW.out.drew).mono ?_
            rintro e w6 ⟨rfl, hg6⟩
            have X6 := hg6.blk (show (wr.drew).heap[xb]? = _ from HXB.out)
            have C6 := hg6.blk (show (wr.drew).heap[C.cb]? = _ from HBT.out)
            have hG6 := HGW.out.drew.trans hg6
            refine hK.out _ _ ⟨cellAt X6 rfl, cellAt C6 rfl⟩ (fun hS => ?_)
            (try simp only [Act.put, List.setIfInBounds_toArray, List.set_cons_zero, List.set_cons_succ])
            refine wpAnyH_take (i := 2) (v := ?_) rfl (by kernel_rfl) (by kernel_rfl) (by kernel_rfl) (fun _ _ _ h => h) (Or.inl ⟨by rfl, ?_⟩) hS ?_
            rotate_left
            · intro w' hSw; (try dsimp only at hSw); go_simp; try with_reducible rfl
            (try simp only [List.getElem_toArray, List.getElem_cons_succ, List.getElem_cons_zero, Act.put, List.setIfInBounds_toArray, List.set_cons_zero, List.set_cons_succ])
            refine wpAnyH_take (i := 3) (v := ?_) rfl (by kernel_rfl) (by kernel_rfl) (by kernel_rfl) (fun _ _ _ h => h) (Or.inl ⟨by rfl, ?_⟩) hS ?_
            rotate_left
            · intro w' hSw; (try dsimp only at hSw); go_simp; try with_reducible rfl
            (try simp only [List.getElem_toArray, List.getElem_cons_succ, List.getElem_cons_zero, Act.put, List.setIfInBounds_toArray, List.set_cons_zero, List.set_cons_succ])
            refine wpAnyH_take (i := 4) (v := undef) rfl (by kernel_rfl) (by kernel_rfl) (by kernel_rfl) (fun _ _ _ h => h) (Or.inr ⟨by rfl, rfl⟩) hS ?_
            (try simp only [List.getElem_toArray, List.getElem_cons_succ, List.getElem_cons_zero, Act.put, List.setIfInBounds_toArray, List.set_cons_zero, List.set_cons_succ])
            refine wpAnyH_take (i := 5) (v := undef) rfl (by kernel_rfl) (by kernel_rfl) (by kernel_rfl) (fun _ _ _ h => h) (Or.inr ⟨by rfl, rfl⟩) hS ?_
            (try simp only [List.getElem_toArray, List.getElem_cons_succ, List.getElem_cons_zero, Act.put, List.setIfInBounds_toArray, List.set_cons_zero, List.set_cons_succ])
            refine wpAnyH_take (i := 6) (v := undef) rfl (by kernel_rfl) (by kernel_rfl) (by kernel_rfl) (fun _ _ _ h => h) (Or.inr ⟨by rfl, rfl⟩) hS ?_
            (try simp only [List.getElem_toArray, List.getElem_cons_succ, List.getElem_cons_zero, Act.put, List.setIfInBounds_toArray, List.set_cons_zero, List.set_cons_succ])
            refine wpAnyH_take (i := 7) (v := .bool true) rfl (by kernel_rfl) (by kernel_rfl) (by kernel_rfl) (fun _ _ _ h => h) (Or.inl ⟨by rfl, fun w' hSw => by rfl⟩) hS ?_
            (try simp only [List.getElem_toArray, List.getElem_cons_succ, List.getElem_cons_zero, Act.put, List.setIfInBounds_toArray, List.set_cons_zero, List.set_cons_succ])
            refine wpAnyH_take (i := 8) (v := ?_) rfl (by kernel_rfl) (by kernel_rfl) (by kernel_rfl) (fun _ _ _ h => h) (Or.inl ⟨by rfl, ?_⟩) hS ?_
            rotate_left
            · intro w' hSw; (try dsimp only at hSw); go_simp; try with_reducible rfl
            (try simp only [List.getElem_toArray, List.getElem_cons_succ, List.getElem_cons_zero, Act.put, List.setIfInBounds_toArray, List.set_cons_zero, List.set_cons_succ])
            refine wpAnyH_take (i := 9) (v := undef) rfl (by kernel_rfl) (by kernel_rfl) (by kernel_rfl) (fun _ _ _ h => h) (Or.inr ⟨by rfl, rfl⟩) hS ?_
            (try simp only [List.getElem_toArray, List.getElem_cons_succ, List.getElem_cons_zero, Act.put, List.setIfInBounds_toArray, List.set_cons_zero, List.set_cons_succ])
            refine wpAnyH_take (i := 10) (v := undef) rfl (by kernel_rfl) (by kernel_rfl) (by kernel_rfl) (fun _ _ _ h => h) (Or.inr ⟨by rfl, rfl⟩) hS ?_
            (try simp only [List.getElem_toArray, List.getElem_cons_succ, List.getElem_cons_zero, Act.put, List.setIfInBounds_toArray, List.set_cons_zero, List.set_cons_succ])
            refine wpAnyH_take (i := 11) (v := undef) rfl (by kernel_rfl) (by kernel_rfl) (by kernel_rfl) (fun _ _ _ h => h) (Or.inr ⟨by rfl, rfl⟩) hS ?_
            (try simp only [List.getElem_toArray, List.getElem_cons_succ, List.getElem_cons_zero, Act.put, List.setIfInBounds_toArray, List.set_cons_zero, List.set_cons_succ])
            refine wpAnyH_take (i := 12) (v := undef) rfl (by kernel_rfl) (by kernel_rfl) (by kernel_rfl) (fun _ _ _ h => h) (Or.inr ⟨by rfl, rfl⟩) hS ?_
            (try simp only [List.getElem_toArray, List.getElem_cons_succ, List.getElem_cons_zero, Act.put, List.setIfInBounds_toArray, List.set_cons_zero, List.set_cons_succ])
            refine wpAnyH_take (i := 13) (v := undef) rfl (by kernel_rfl) (by kernel_rfl) (by kernel_rfl) (fun _ _ _ h => h) (Or.inr ⟨by rfl, rfl⟩) hS ?_
            (try simp only [List.getElem_toArray, List.getElem_cons_succ, List.getElem_cons_zero, Act.put, List.setIfInBounds_toArray, List.set_cons_zero, List.set_cons_succ])
            refine wpAnyH_take (i := 14) (v := undef) rfl (by kernel_rfl) (by kernel_rfl) (by kernel_rfl) (fun _ _ _ h => h) (Or.inr ⟨by rfl, rfl⟩) hS ?_
            (try simp only [List.getElem_toArray, List.getElem_cons_succ, List.getElem_cons_zero, Act.put, List.setIfInBounds_toArray, List.set_cons_zero, List.set_cons_succ])
            refine wpAnyH_take (i := 15) (v := undef) rfl (by kernel_rfl) (by kernel_rfl) (by kernel_rfl) (fun _ _ _ h => h) (Or.inr ⟨by rfl, rfl⟩) hS ?_
            (try simp only [List.getElem_toArray, List.getElem_cons_succ, List.getElem_cons_zero, Act.put, List.setIfInBounds_toArray, List.set_cons_zero, List.set_cons_succ])
            refine wpAnyH_take (i := 16) (v := undef) rfl (by kernel_rfl) (by kernel_rfl) (by kernel_rfl) (fun _ _ _ h => h) (Or.inr ⟨by rfl, rfl⟩) hS ?_
            (try simp only [List.getElem_toArray, List.getElem_cons_succ, List.getElem_cons_zero, Act.put, List.setIfInBounds_toArray, List.set_cons_zero, List.set_cons_succ])
            refine wpAnyH_take (i := 17) (v := .bool true) rfl (by kernel_rfl) (by kernel_rfl) (by kernel_rfl) (fun _ _ _ h => h) (Or.inl ⟨by rfl, fun w' hSw => by rfl⟩) hS ?_
            (try simp only [List.getElem_toArray, List.getElem_cons_succ, List.getElem_cons_zero, Act.put, List.setIfInBounds_toArray, List.set_cons_zero, List.set_cons_succ])
            refine wpAnyH_ready (rs := [19]) (by kernel_rfl) (by simp) ?_
            refine AllReadyH.cons rfl (fun K' hK => ?_) AllReadyH.nil
            simp only [List.getElem_toArray, List.getElem_cons_succ, List.getElem_cons_zero]
            go_simp
            refine (HMY.out 5 _).mono ?_
            rintro e w9 ⟨rfl, hg9⟩
            have hG9 := Lib.hid (hG6.trans hg9)
            refine hK.out _ _ ⟨cellAt (hg9.blk X6) rfl, cellAt (hg9.blk C6) rfl⟩ (fun hS => ?_)
            (try simp only [Act.put, List.setIfInBounds_toArray, List.set_cons_zero, List.set_cons_succ])
            refine wpAnyH_done (by kernel_rfl) ?_ _
            (try simp only [List.getElem_toArray, List.getElem_cons_succ, List.getElem_cons_zero, Act.put, List.setIfInBounds_toArray, List.set_cons_zero, List.set_cons_succ])
            clear hK hS X6 C6 hg6 hG6 hg9
            go_wp2_with fail
            go_roundw
            case rel => exact ⟨j + 1, by omega, by go_num, HGR.out.trans hG9.out, hr⟩
            case measure => simp [intOf]; omega
      · have hls : listT (.mk dj kj) = partsP (.mk dj kj) := by unfold listT; rw [if_neg (show ¬ (T.mk dj kj).d.op = 3 from h3)]
        rw [hls] at HSTEP
        obtain ⟨ps, hps⟩ : ∃ ps, ps = partsP (.mk dj kj) := ⟨_, rfl⟩
        rw [← hps] at hop5 HSTEP
        obtain ⟨A3, c3, bps', hpv, hpc, hpr, hpbl, hptr⟩ := hop5.nodes
        obtain ⟨np, hnp⟩ : ∃ np, np = ps.length := ⟨_, rfl⟩
        rw [← hnp] at hpv hpc hpbl
        have hnpl : np < 1000000 := by
          have h1 : np ≤ kj.length := by rw [hnp, hps]; exact List.length_filter_le _ _
          omega
        subst hpv
        have HPR := Lib.hid (fun w' (hg : Gr w5 w') => (hpr.gr hg).imp (Y := fun _ => True) fun _ _ _ => trivial)
        have HPT := Lib.hid hptr
        have HPB := Lib.hid hpbl
        have HNP := Lib.hid hnp
        have h3b : (dj.op == 3) = false := by simp [h3]
        clear hop5 hpr hptr hpbl hnp hls hps HOP4 HPA h3
        go_wp2_with fail
        go_loopw [31] (fun t wr => ∃ i : Nat, i ≤ np ∧ t = .int .i64 i ∧ Gr w5 wr ∧ Hid (partsC C.x mo ps 0 ps = partsC C.x mo ps i (ps.drop i))) (fun t _ => np - (intOf t).toNat)
        case atStart => exact ⟨0, by omega, rfl, Gr.refl _, by show _ = _; rw [List.drop_zero]⟩
        case round =>
          obtain ⟨i, hi, rfl, hgi, hIi⟩ := hrel
          have HGI := Lib.hid hgi
          have hsi := hgi.size
          clear hgi
          by_cases hlti : i < np
          · have hik : i < ps.length := by rw [← HNP.out]; exact hlti
            have hib : i < bps'.length := by rw [HPB.out]; exact hlti
            have HPRi := HPR.out _ HGI.out
            obtain ⟨gp, offp, hA3, hgp, _, hclp⟩ := HPRi.open_ (j := i) (by simpa using hib)
            subst hA3
            obtain ⟨bi, hbi⟩ : ∃ b, bps'[i] = b := ⟨_, rfl⟩
            have hci := hclp i (ptrV bi) (by simp [hib, hbi])
            have hti0 := HPT.out i bps'[i] ps[i] (by simp [hib]) (by simp [hik])
            rw [hbi] at hti0
            have hti := hti0.gr HGI.out
            have hpd := pc_drop C.x mo ps i ps[i] (by simp [hik])
            obtain ⟨⟨di, ki⟩, hdi⟩ : ∃ t, ps[i] = t := ⟨_, rfl⟩
            rw [hdi] at hti hpd
            rw [show (T.mk di ki).d = di from rfl] at hpd
            have HPD := Lib.hid hpd
            have HTI := Lib.hid hti
            have HCI := Lib.hid hci
            have HMNi := Lib.hid (fun er w' (hg : Gr _ w') => must_no bi (.mk di ki) C.X er w' (hti.gr hg))
            rw [show (T.mk di ki).d = di from rfl] at HMNi
            have HMYi := Lib.hid (fun er w' => must_yes (nodeV bi) ⟨_, rfl⟩ er w')
            have HTYi := Lib.hid (fun w' (hg : Gr _ w') => Type_any (nodeV bi) (some (.mk di ki)) C.X w' ⟨bi, rfl, hti.gr hg⟩)
            rw [show (dO (some (T.mk di ki))).typ = di.typ from rfl] at HTYi
            clear hclp hbi hti0 hti hpd hdi
            have N1 := blk_alloc wr (.cells #[ptrV bi] 53)
            have HG6 := Lib.hid (Gr.al wr (.cells #[ptrV bi] 53 (0, 0)))
            have HGB := Lib.hid ((HG1.out.trans HGR.out).trans (HG5.out.trans HGI.out))
            have hic : i ≤ c3 := by omega
            by_cases hlm : (i : Int) < mo
            · go_wp2_with fail
              refine (HMYi.out 4 _).mono ?_
              rintro e w7 ⟨rfl, hg7⟩
              have N7 := hg7.blk N1
              have hG7 := HG6.out.trans hg7
              have n7 := cellAt N7 (i := 0) rfl
              have nl7 := blkLt N7
              obtain ⟨yb, hyb⟩ : ∃ x, x = wr.heap.size := ⟨_, rfl⟩
              rw [← hyb] at N7 n7 nl7 ⊢
              clear hyb
              have HHN := Lib.hid (fun w' (hg : Gr w7 w') => hasNode_any (ps.take i) (bps'.take i) (some ⟨gp, offp, none⟩) i c3 (by simp; omega) (by simp; omega) (fun _ => True) C.X bi yb (.mk di ki) w' (RowR.left (m := (bps'.drop i).map ptrV) (by rw [← List.map_append, List.take_append_drop]; exact HPR.out _ (HGI.out.trans (hG7.trans hg)))) (by omega) (fun a b' t hb ht => (HPT.out a b' t (take_get hb) (take_get ht)).gr (HGI.out.trans (hG7.trans hg))) (HTI.out.gr (hG7.trans hg)) (hg.blk N7))
              rw [show (T.mk di ki).d = di from rfl] at HHN
              obtain ⟨q1, hq1⟩ : ∃ q, ((ps.take i).any fun q => q.d.name == di.name) = q := ⟨_, rfl⟩
              rw [hq1] at HHN
              have HQ1 := Lib.hid hq1
              clear hq1 hci N1
              go_wp2_with fail
              refine wp_region_held_drew (S := fun w' => w'.cell? ⟨yb, 0, none⟩ = some (ptrV bi)) rfl n7 (fun hS => ?_)
              refine wpAnyH_take (i := 0) (v := ?_) rfl (by kernel_rfl) (by kernel_rfl) (by kernel_rfl) (fun _ _ _ h => h) (Or.inl ⟨by rfl, ?_⟩) hS ?_
              rotate_left
              · intro w' hSw; (try dsimp only at hSw); go_simp; try with_reducible rfl
              (try simp only [Act.put, List.setIfInBounds_toArray, List.set_cons_zero, List.set_cons_succ])
              refine wpAnyH_take (i := 1) (v := ?_) rfl (by kernel_rfl) (by kernel_rfl) (by kernel_rfl) (fun _ _ _ h => h) (Or.inl ⟨by rfl, ?_⟩) hS ?_
              rotate_left
              · intro w' hSw; (try dsimp only at hSw); go_simp; try with_reducible rfl
              (try simp only [Act.put, List.setIfInBounds_toArray, List.set_cons_zero, List.set_cons_succ])
              refine wpAnyH_take (i := 2) (v := ?_) rfl (by kernel_rfl) (by kernel_rfl) (by kernel_rfl) (fun _ _ _ h => h) (Or.inl ⟨by rfl, ?_⟩) hS ?_
              rotate_left
              · intro w' hSw; (try dsimp only at hSw); go_simp; try with_reducible rfl
              (try simp only [Act.put, List.setIfInBounds_toArray, List.set_cons_zero, List.set_cons_succ])
              refine wpAnyH_take (i := 3) (v := ?_) rfl (by kernel_rfl) (by kernel_rfl) (by kernel_rfl) (fun _ _ _ h => h) (Or.inl ⟨by rfl, ?_⟩) hS ?_
              rotate_left
              · intro w' hSw; (try dsimp only at hSw); go_simp; try with_reducible rfl
              (try simp only [Act.put, List.setIfInBounds_toArray, List.set_cons_zero, List.set_cons_succ])
              refine wpAnyH_take (i := 6) (v := ?_) rfl (by kernel_rfl) (by kernel_rfl) (by kernel_rfl) (fun _ _ _ h => h) (Or.inl ⟨by rfl, ?_⟩) hS ?_
              rotate_left
              · intro w' hSw; (try dsimp only at hSw); go_simp; try with_reducible rfl
              (try simp only [Act.put, List.setIfInBounds_toArray, List.set_cons_zero, List.set_cons_succ])
              refine wpAnyH_ready (rs := [4]) (by kernel_rfl) (by simp) ?_
              refine AllReadyH.cons rfl (fun K' hK => ?_) AllReadyH.nil
              simp only [List.getElem_toArray, List.getElem_cons_succ, List.getElem_cons_zero]
              go_simp
              refine (HHN.out _ ((Gr.refl w7).drew)).mono ?_
              rintro e w8 ⟨rfl, hg8⟩
              have N8 := hg8.blk N7
              have hG8 : Gr wr w8 := hG7.drew.trans hg8
              refine hK.out _ _ (cellAt N8 rfl) (fun hS => ?_)
              (try simp only [Act.put, List.setIfInBounds_toArray, List.set_cons_zero, List.set_cons_succ])
              refine wpAnyH_take (i := 5) (v := ?_) rfl (by kernel_rfl) (by kernel_rfl) (by kernel_rfl) (fun _ _ _ h => h) (Or.inl ⟨by rfl, ?_⟩) hS ?_
              rotate_left
              · intro w' hSw; (try dsimp only at hSw); go_simp; try with_reducible rfl
              (try simp only [Act.put, List.setIfInBounds_toArray, List.set_cons_zero, List.set_cons_succ])
              refine wpAnyH_ready (rs := [7]) (by kernel_rfl) (by simp) ?_
              refine AllReadyH.cons rfl (fun K' hK => ?_) AllReadyH.nil
              simp only [List.getElem_toArray, List.getElem_cons_succ, List.getElem_cons_zero]
              go_simp
              cases q1
              · refine (HMYi.out 6 _).mono ?_
                rintro e w9 ⟨rfl, hg9⟩
                have N9 := hg9.blk N8
                have hG9 := hG8.trans hg9
                refine hK.out _ _ (cellAt N9 rfl) (fun hS => ?_)
                (try simp only [Act.put, List.setIfInBounds_toArray, List.set_cons_zero, List.set_cons_succ])
                refine wpAnyH_done (by kernel_rfl) ?_ _
                (try simp only [List.getElem_toArray, List.getElem_cons_succ, List.getElem_cons_zero, Act.put, List.setIfInBounds_toArray, List.set_cons_zero, List.set_cons_succ])
                have n9 := cellAt N9 (i := 0) rfl
                have nl9 := blkLt N9
                have HCI9 := (HCH.out.gr (HGB.out.trans hG9))
                obtain ⟨bv9, res9, hb9⟩ := HCI9
                have c9 := cellAt hb9 (i := 0) rfl
                have cl9 := blkLt hb9
                have HN9 := Lib.hid N9
                have HG9 := Lib.hid hG9
                have HB9 := Lib.hid hb9
                have HKIi := Lib.hid (fun w' (hg : Gr wr w') => HKI.out di.typ w' (HGB.out.trans hg))
                obtain ⟨q2, hq2⟩ : ∃ q, isTypP C.x.structs di.typ = q := ⟨_, rfl⟩
                rw [hq2] at HKIi
                have HQ2 := Lib.hid hq2
                clear hq2 hK hS N7 N8 hg7 hg8 hg9 n7 nl7 hG7 hG8 N9 hG9 hb9
                go_wp2_with fail
                refine wp_region_held_drew (S := fun w' => w'.cell? ⟨yb, 0, none⟩ = some (ptrV bi) ∧ w'.cell? ⟨C.cb, 0, none⟩ = some C.sv) rfl ⟨n9, c9⟩ (fun hS => ?_)
                refine wpAnyH_take (i := 0) (v := ?_) rfl (by kernel_rfl) (by kernel_rfl) (by kernel_rfl) (fun _ _ _ h => h) (Or.inl ⟨by rfl, ?_⟩) hS ?_
                rotate_left
                · intro w' hSw; (try dsimp only at hSw); go_simp; try with_reducible rfl
                (try simp only [Act.put, List.setIfInBounds_toArray, List.set_cons_zero, List.set_cons_succ])
                refine wpAnyH_take (i := 1) (v := ?_) rfl (by kernel_rfl) (by kernel_rfl) (by kernel_rfl) (fun _ _ _ h => h) (Or.inl ⟨by rfl, ?_⟩) hS ?_
                rotate_left
                · intro w' hSw; (try dsimp only at hSw); go_simp; try with_reducible rfl
                (try simp only [Act.put, List.setIfInBounds_toArray, List.set_cons_zero, List.set_cons_succ])
                refine wpAnyH_take (i := 2) (v := ?_) rfl (by kernel_rfl) (by kernel_rfl) (by kernel_rfl) (fun _ _ _ h => h) (Or.inl ⟨by rfl, ?_⟩) hS ?_
                rotate_left
                · intro w' hSw; (try dsimp only at hSw); go_simp; try with_reducible rfl
                (try simp only [Act.put, List.setIfInBounds_toArray, List.set_cons_zero, List.set_cons_succ])
                refine wpAnyH_take (i := 3) (v := ?_) rfl (by kernel_rfl) (by kernel_rfl) (by kernel_rfl) (fun _ _ _ h => h) (Or.inl ⟨by rfl, ?_⟩) hS ?_
                rotate_left
                · intro w' hSw; (try dsimp only at hSw); go_simp; try with_reducible rfl
                (try simp only [Act.put, List.setIfInBounds_toArray, List.set_cons_zero, List.set_cons_succ])
                refine wpAnyH_take (i := 4) (v := ?_) rfl (by kernel_rfl) (by kernel_rfl) (by kernel_rfl) (fun _ _ _ h => h) (Or.inl ⟨by rfl, ?_⟩) hS ?_
                rotate_left
                · intro w' hSw; (try dsimp only at hSw); go_simp; try with_reducible rfl
                (try simp only [Act.put, List.setIfInBounds_toArray, List.set_cons_zero, List.set_cons_succ])
                refine wpAnyH_take (i := 5) (v := ?_) rfl (by kernel_rfl) (by kernel_rfl) (by kernel_rfl) (fun _ _ _ h => h) (Or.inl ⟨by rfl, ?_⟩) hS ?_
                rotate_left
                · intro w' hSw; (try dsimp only at hSw); go_simp; try with_reducible rfl
                (try simp only [Act.put, List.setIfInBounds_toArray, List.set_cons_zero, List.set_cons_succ])
                refine wpAnyH_take (i := 8) (v := ?_) rfl (by kernel_rfl) (by kernel_rfl) (by kernel_rfl) (fun _ _ _ h => h) (Or.inl ⟨by rfl, ?_⟩) hS ?_
                rotate_left
                · intro w' hSw; (try dsimp only at hSw); go_simp; try with_reducible rfl
                (try simp only [Act.put, List.setIfInBounds_toArray, List.set_cons_zero, List.set_cons_succ])
                refine wpAnyH_ready (rs := [6]) (by kernel_rfl) (by simp) ?_
                refine AllReadyH.cons rfl (fun K' hK => ?_) AllReadyH.nil
                simp only [List.getElem_toArray, List.getElem_cons_succ, List.getElem_cons_zero]
                go_simp
                refine (HTYi.out _ HG9.out.drew).mono ?_
                rintro e w10 ⟨rfl, hg10⟩
                have N10 := hg10.blk (show w9.drew.heap[yb]? = _ from HN9.out)
                have hG10 : Gr wr w10 := HG9.out.drew.trans hg10
                have C10 := hg10.blk (show w9.drew.heap[C.cb]? = _ from HB9.out)
                refine hK.out _ _ ⟨cellAt N10 rfl, cellAt C10 rfl⟩ (fun hS => ?_)
                (try simp only [Act.put, List.setIfInBounds_toArray, List.set_cons_zero, List.set_cons_succ])
                refine wpAnyH_ready (rs := [7]) (by kernel_rfl) (by simp) ?_
                refine AllReadyH.cons rfl (fun K' hK => ?_) AllReadyH.nil
                simp only [List.getElem_toArray, List.getElem_cons_succ, List.getElem_cons_zero]
                go_simp
                refine (HKIi.out _ hG10).mono ?_
                rintro e w11 ⟨rfl, hg11⟩
                have N11 := hg11.blk N10
                have hG11 : Gr wr w11 := hG10.trans hg11
                have C11 := hg11.blk C10
                refine hK.out _ _ ⟨cellAt N11 rfl, cellAt C11 rfl⟩ (fun hS => ?_)
                (try simp only [Act.put, List.setIfInBounds_toArray, List.set_cons_zero, List.set_cons_succ])
                refine wpAnyH_ready (rs := [9]) (by kernel_rfl) (by simp) ?_
                refine AllReadyH.cons rfl (fun K' hK => ?_) AllReadyH.nil
                simp only [List.getElem_toArray, List.getElem_cons_succ, List.getElem_cons_zero]
                go_simp
                cases q2
                · refine (HMNi.out 5 _ hG11).mono ?_
                  rintro e w12 ⟨rfl, hg12⟩
                  have hr : R = .err di.at_ 5 := by rw [← HR.out, hI.out, HSTEP.out, hIi.out, HPD.out, if_neg (by omega), HQ1.out, HQ2.out]; rfl
                  refine ⟨rfl, ?_⟩
                  rw [hr]
                  exact ⟨HGB.out.trans (hG11.trans hg12), rfl⟩
                · refine (HMYi.out 5 _).mono ?_
                  rintro e w12 ⟨rfl, hg12⟩
                  have hG12 := hG11.trans hg12
                  refine hK.out _ _ ⟨cellAt (hg12.blk N11) rfl, cellAt (hg12.blk C11) rfl⟩ (fun hS => ?_)
                  (try simp only [Act.put, List.setIfInBounds_toArray, List.set_cons_zero, List.set_cons_succ])
                  refine wpAnyH_done (by kernel_rfl) ?_ _
                  (try simp only [List.getElem_toArray, List.getElem_cons_succ, List.getElem_cons_zero, Act.put, List.setIfInBounds_toArray, List.set_cons_zero, List.set_cons_succ])
                  have hpn : Hid (partsC C.x mo ps 0 ps = partsC C.x mo ps (i + 1) (ps.drop (i + 1))) := by
                    show _ = _
                    rw [hIi.out, HPD.out, if_neg (by omega), HQ1.out, HQ2.out]; rfl
                  have HG12 := Lib.hid (HGI.out.trans hG12)
                  clear hK hS N10 N11 C10 C11 hg10 hg11 hg12 hG10 hG11 hG12
                  go_wp2_with fail
                  go_roundw
                  case rel => exact ⟨i + 1, by omega, by go_num, HG12.out, hpn⟩
                  case measure => simp [intOf]; omega
              · refine (HMNi.out 6 _ hG8).mono ?_
                rintro e w9 ⟨rfl, hg9⟩
                have hr : R = .err di.at_ 6 := by rw [← HR.out, hI.out, HSTEP.out, hIi.out, HPD.out, if_neg (by omega), HQ1.out]; rfl
                refine ⟨rfl, ?_⟩
                rw [hr]
                exact ⟨HGB.out.trans (hG8.trans hg9), rfl⟩
            · go_wp2_with fail
              refine (HMNi.out 4 _ HG6.out).mono ?_
              rintro e w7 ⟨rfl, hg7⟩
              have hr : R = .err di.at_ 4 := by rw [← HR.out, hI.out, HSTEP.out, hIi.out, HPD.out, if_pos (by omega)]; rfl
              refine ⟨rfl, ?_⟩
              rw [hr]
              exact ⟨((HG1.out.trans HGR.out).trans (HG5.out.trans HGI.out)).trans (HG6.out.trans hg7), rfl⟩
          · have hpe : partsC C.x mo ps 0 ps = .ok () := by rw [hIi.out, List.drop_of_length_le (by rw [← HNP.out]; omega)]; rfl
            have HST : Hid (typesC C.x ks = if dj.op ≠ 4 ∨ dj.typ = [] ∨ isTypP C.x.structs dj.typ = true then typesC C.x (ks.drop (j + 1)) else .err dj.at_ 5) := by show _ = _; rw [hI.out, HSTEP.out, hpe]; rfl
            have HXB := Lib.hid (HGI.out.blk HBX5.out)
            have HGW := Lib.hid (HG5.out.trans HGI.out)
            have HGA := Lib.hid ((HG1.out.trans HGR.out).trans HGW.out)
            obtain ⟨bvt, rest, hbt⟩ := HCH.out.gr HGA.out
            have ct := cellAt hbt (i := 0) rfl
            have clt := blkLt hbt
            have xt := cellAt HXB.out (i := 0) rfl
            have xlt := blkLt HXB.out
            have HBT := Lib.hid hbt
            clear hpe hbt bx5
            clear HKR HTR HBL HPR HPT HPB HNP HBX4 HBX5 HG4 HG3 HKS HGG4 HBX3 hIi HGI HBXC HGC r1 r2 r3 hmm HTJ
            by_cases h4 : dj.op = 4
            · rw [h4] at HOP
              obtain ⟨q1, hq1⟩ : ∃ q, (dj.typ == []) = q := ⟨_, rfl⟩
              have hem := emptyS dj.typ
              rw [hq1] at hem
              have HQ1 := Lib.hid hq1
              have HH4 := Lib.hid h4
              clear h4 hq1
              cases q1
              · obtain ⟨q2, hq2⟩ : ∃ q, isTypP C.x.structs dj.typ = q := ⟨_, rfl⟩
                have HKIj := Lib.hid (fun w' (hg : Gr w w') => HKI.out dj.typ w' hg)
                rw [hq2] at HKIj
                have HQ2 := Lib.hid hq2
                clear hq2
                go_wp2_with fail
                refine wp_region_held_drew (S := fun w' => w'.cell? ⟨xb, 0, none⟩ = some (ptrV bj) ∧ w'.cell? ⟨C.cb, 0, none⟩ = some C.sv) rfl ⟨xt, ct⟩ (fun hS => ?_)
                refine wpAnyH_take (i := 0) (v := ?_) rfl (by kernel_rfl) (by kernel_rfl) (by kernel_rfl) (fun _ _ _ h => h) (Or.inl ⟨by rfl, ?_⟩) hS ?_
                rotate_left
                · intro w' hSw; (try dsimp only at hSw); go_simp; try with_reducible rfl
                (try simp only [List.getElem_toArray, List.getElem_cons_succ, List.getElem_cons_zero, Act.put, List.setIfInBounds_toArray, List.set_cons_zero, List.set_cons_succ])
                refine wpAnyH_take (i := 18) (v := ?_) rfl (by kernel_rfl) (by kernel_rfl) (by kernel_rfl) (fun _ _ _ h => h) (Or.inl ⟨by rfl, ?_⟩) hS ?_
                rotate_left
                · intro w' hSw; (try dsimp only at hSw); go_simp; try with_reducible rfl
                (try simp only [List.getElem_toArray, List.getElem_cons_succ, List.getElem_cons_zero, Act.put, List.setIfInBounds_toArray, List.set_cons_zero, List.set_cons_succ])
                refine wpAnyH_ready (rs := [1]) (by kernel_rfl) (by simp) ?_
                refine AllReadyH.cons rfl (fun K' hK => ?_) AllReadyH.nil
                simp only [List.getElem_toArray, List.getElem_cons_succ, List.getElem_cons_zero]
                go_simp
                refine (HOP.out _ HGW.out.drew).mono ?_
                rintro e w6 ⟨rfl, hg6⟩
                have X6 := hg6.blk (show (wr.drew).heap[xb]? = _ from HXB.out)
                have C6 := hg6.blk (show (wr.drew).heap[C.cb]? = _ from HBT.out)
                have hG6 := HGW.out.drew.trans hg6
                refine hK.out _ _ ⟨cellAt X6 rfl, cellAt C6 rfl⟩ (fun hS => ?_)
                (try simp only [Act.put, List.setIfInBounds_toArray, List.set_cons_zero, List.set_cons_succ])
                refine wpAnyH_take (i := 2) (v := ?_) rfl (by kernel_rfl) (by kernel_rfl) (by kernel_rfl) (fun _ _ _ h => h) (Or.inl ⟨by rfl, ?_⟩) hS ?_
                rotate_left
                · intro w' hSw; (try dsimp only at hSw); go_simp; try with_reducible rfl
                (try simp only [List.getElem_toArray, List.getElem_cons_succ, List.getElem_cons_zero, Act.put, List.setIfInBounds_toArray, List.set_cons_zero, List.set_cons_succ])
                refine wpAnyH_take (i := 3) (v := ?_) rfl (by kernel_rfl) (by kernel_rfl) (by kernel_rfl) (fun _ _ _ h => h) (Or.inl ⟨by rfl, ?_⟩) hS ?_
                rotate_left
                · intro w' hSw; (try dsimp only at hSw); go_simp; try with_reducible rfl
                (try simp only [List.getElem_toArray, List.getElem_cons_succ, List.getElem_cons_zero, Act.put, List.setIfInBounds_toArray, List.set_cons_zero, List.set_cons_succ])
                refine wpAnyH_take (i := 4) (v := ?_) rfl (by kernel_rfl) (by kernel_rfl) (by kernel_rfl) (fun _ _ _ h => h) (Or.inl ⟨by rfl, ?_⟩) hS ?_
                rotate_left
                · intro w' hSw; (try dsimp only at hSw); go_simp; try with_reducible rfl
                (try simp only [List.getElem_toArray, List.getElem_cons_succ, List.getElem_cons_zero, Act.put, List.setIfInBounds_toArray, List.set_cons_zero, List.set_cons_succ])
                refine wpAnyH_ready (rs := [5]) (by kernel_rfl) (by simp) ?_
                refine AllReadyH.cons rfl (fun K' hK => ?_) AllReadyH.nil
                simp only [List.getElem_toArray, List.getElem_cons_succ, List.getElem_cons_zero]
                go_simp
                refine (HTY.out _ hG6).mono ?_
                rintro e w7 ⟨rfl, hg7⟩
                have X7 := hg7.blk X6
                have C7 := hg7.blk C6
                have hG7 := hG6.trans hg7
                refine hK.out _ _ ⟨cellAt X7 rfl, cellAt C7 rfl⟩ (fun hS => ?_)
                (try simp only [Act.put, List.setIfInBounds_toArray, List.set_cons_zero, List.set_cons_succ])
                refine wpAnyH_take (i := 6) (v := ?_) rfl (by kernel_rfl) (by kernel_rfl) (by kernel_rfl) (fun _ _ _ h => h) (Or.inl ⟨by rfl, ?_⟩) hS ?_
                rotate_left
                · intro w' hSw; (try dsimp only at hSw); go_simp; try with_reducible rfl
                (try simp only [List.getElem_toArray, List.getElem_cons_succ, List.getElem_cons_zero, Act.put, List.setIfInBounds_toArray, List.set_cons_zero, List.set_cons_succ])
                refine wpAnyH_take (i := 7) (v := .bool false) rfl (by kernel_rfl) (by kernel_rfl) (by kernel_rfl) (fun _ _ _ h => h) (Or.inl ⟨by rfl, fun w' hSw => by rfl⟩) hS ?_
                (try simp only [List.getElem_toArray, List.getElem_cons_succ, List.getElem_cons_zero, Act.put, List.setIfInBounds_toArray, List.set_cons_zero, List.set_cons_succ])
                refine wpAnyH_take (i := 8) (v := ?_) rfl (by kernel_rfl) (by kernel_rfl) (by kernel_rfl) (fun _ _ _ h => h) (Or.inl ⟨by rfl, ?_⟩) hS ?_
                rotate_left
                · intro w' hSw; (try dsimp only at hSw); go_simp; try with_reducible rfl
                (try simp only [List.getElem_toArray, List.getElem_cons_succ, List.getElem_cons_zero, Act.put, List.setIfInBounds_toArray, List.set_cons_zero, List.set_cons_succ])
                refine wpAnyH_take (i := 9) (v := ?_) rfl (by kernel_rfl) (by kernel_rfl) (by kernel_rfl) (fun _ _ _ h => h) (Or.inl ⟨by rfl, ?_⟩) hS ?_
                rotate_left
                · intro w' hSw; (try dsimp only at hSw); go_simp; try with_reducible rfl
                (try simp only [List.getElem_toArray, List.getElem_cons_succ, List.getElem_cons_zero, Act.put, List.setIfInBounds_toArray, List.set_cons_zero, List.set_cons_succ])
                refine wpAnyH_take (i := 10) (v := ?_) rfl (by kernel_rfl) (by kernel_rfl) (by kernel_rfl) (fun _ _ _ h => h) (Or.inl ⟨by rfl, ?_⟩) hS ?_
                rotate_left
                · intro w' hSw; (try dsimp only at hSw); go_simp; try with_reducible rfl
                (try simp only [List.getElem_toArray, List.getElem_cons_succ, List.getElem_cons_zero, Act.put, List.setIfInBounds_toArray, List.set_cons_zero, List.set_cons_succ])
                refine wpAnyH_take (i := 11) (v := ?_) rfl (by kernel_rfl) (by kernel_rfl) (by kernel_rfl) (fun _ _ _ h => h) (Or.inl ⟨by rfl, ?_⟩) hS ?_
                rotate_left
                · intro w' hSw; (try dsimp only at hSw); go_simp; try with_reducible rfl
                (try simp only [List.getElem_toArray, List.getElem_cons_succ, List.getElem_cons_zero, Act.put, List.setIfInBounds_toArray, List.set_cons_zero, List.set_cons_succ])
                refine wpAnyH_take (i := 12) (v := ?_) rfl (by kernel_rfl) (by kernel_rfl) (by kernel_rfl) (fun _ _ _ h => h) (Or.inl ⟨by rfl, ?_⟩) hS ?_
                rotate_left
                · intro w' hSw; (try dsimp only at hSw); go_simp; try with_reducible rfl
                (try simp only [List.getElem_toArray, List.getElem_cons_succ, List.getElem_cons_zero, Act.put, List.setIfInBounds_toArray, List.set_cons_zero, List.set_cons_succ])
                refine wpAnyH_take (i := 13) (v := ?_) rfl (by kernel_rfl) (by kernel_rfl) (by kernel_rfl) (fun _ _ _ h => h) (Or.inl ⟨by rfl, ?_⟩) hS ?_
                rotate_left
                · intro w' hSw; (try dsimp only at hSw); go_simp; try with_reducible rfl
                (try simp only [List.getElem_toArray, List.getElem_cons_succ, List.getElem_cons_zero, Act.put, List.setIfInBounds_toArray, List.set_cons_zero, List.set_cons_succ])
                refine wpAnyH_take (i := 14) (v := ?_) rfl (by kernel_rfl) (by kernel_rfl) (by kernel_rfl) (fun _ _ _ h => h) (Or.inl ⟨by rfl, ?_⟩) hS ?_
                rotate_left
                · intro w' hSw; (try dsimp only at hSw); go_simp; try with_reducible rfl
                (try simp only [List.getElem_toArray, List.getElem_cons_succ, List.getElem_cons_zero, Act.put, List.setIfInBounds_toArray, List.set_cons_zero, List.set_cons_succ])
                refine wpAnyH_ready (rs := [15]) (by kernel_rfl) (by simp) ?_
                refine AllReadyH.cons rfl (fun K' hK => ?_) AllReadyH.nil
                simp only [List.getElem_toArray, List.getElem_cons_succ, List.getElem_cons_zero]
                go_simp
                refine (HTY.out _ hG7).mono ?_
                rintro e w8 ⟨rfl, hg8⟩
                have X8 := hg8.blk X7
                have C8 := hg8.blk C7
                have hG8 := hG7.trans hg8
                refine hK.out _ _ ⟨cellAt X8 rfl, cellAt C8 rfl⟩ (fun hS => ?_)
                (try simp only [Act.put, List.setIfInBounds_toArray, List.set_cons_zero, List.set_cons_succ])
                refine wpAnyH_ready (rs := [16]) (by kernel_rfl) (by simp) ?_
                refine AllReadyH.cons rfl (fun K' hK => ?_) AllReadyH.nil
                simp only [List.getElem_toArray, List.getElem_cons_succ, List.getElem_cons_zero]
                go_simp
                refine (HKIj.out _ ((HG1.out.trans HGR.out).trans hG8)).mono ?_
                rintro e wq ⟨rfl, hgq⟩
                have Xq := hgq.blk X8
                have Cq := hgq.blk C8
                have hGq := hG8.trans hgq
                refine hK.out _ _ ⟨cellAt Xq rfl, cellAt Cq rfl⟩ (fun hS => ?_)
                (try simp only [Act.put, List.setIfInBounds_toArray, List.set_cons_zero, List.set_cons_succ])
                refine wpAnyH_take (i := 17) (v := .bool q2) rfl (by kernel_rfl) (by kernel_rfl) (by kernel_rfl) (fun _ _ _ h => h) (Or.inl ⟨by rfl, fun w' hSw => by rfl⟩) hS ?_
                (try simp only [List.getElem_toArray, List.getElem_cons_succ, List.getElem_cons_zero, Act.put, List.setIfInBounds_toArray, List.set_cons_zero, List.set_cons_succ])
                refine wpAnyH_ready (rs := [19]) (by kernel_rfl) (by simp) ?_
                refine AllReadyH.cons rfl (fun K' hK => ?_) AllReadyH.nil
                simp only [List.getElem_toArray, List.getElem_cons_succ, List.getElem_cons_zero]
                go_simp
                cases q2
                · refine (HMN.out 5 _ hGq).mono ?_
                  rintro e w9 ⟨rfl, hg9⟩
                  have hr : R = .err dj.at_ 5 := by
                    rw [← HR.out, HST.out, if_neg]
                    have h1 := HQ1.out
                    have h2 := HQ2.out
                    have h3 := HH4.out
                    simp only [beq_eq_false_iff_ne] at h1
                    simp [h1, h2, h3]
                  refine ⟨rfl, ?_⟩
                  rw [hr]
                  exact ⟨(HG1.out.trans HGR.out).trans (hGq.trans hg9), rfl⟩
                · have hr : Hid (typesC C.x ks = typesC C.x (ks.drop (j + 1))) := by show _ = _; rw [HST.out, if_pos (.inr (.inr HQ2.out))]
                  refine (HMY.out 5 _).mono ?_
                  rintro e w9 ⟨rfl, hg9⟩
                  have hG9 := Lib.hid (hGq.trans hg9)
                  refine hK.out _ _ ⟨cellAt (hg9.blk Xq) rfl, cellAt (hg9.blk Cq) rfl⟩ (fun hS => ?_)
                  (try simp only [Act.put, List.setIfInBounds_toArray, List.set_cons_zero, List.set_cons_succ])
                  refine wpAnyH_done (by kernel_rfl) ?_ _
                  (try simp only [List.getElem_toArray, List.getElem_cons_succ, List.getElem_cons_zero, Act.put, List.setIfInBounds_toArray, List.set_cons_zero, List.set_cons_succ])
                  clear hK hS X6 C6 hg6 hG6 hg9
                  go_wp2_with fail
                  go_roundw
                  case rel => exact ⟨j + 1, by omega, by go_num, HGR.out.trans hG9.out, hr⟩
                  case measure => simp [intOf]; omega
              · have hr : Hid (typesC C.x ks = typesC C.x (ks.drop (j + 1))) := by show _ = _; rw [HST.out, if_pos (.inr (.inl (by have := HQ1.out; simpa using this)))]
                go_wp2_with fail
                refine wp_region_held_drew (S := fun w' => w'.cell? ⟨xb, 0, none⟩ = some (ptrV bj) ∧ w'.cell? ⟨C.cb, 0, none⟩ = some C.sv) rfl ⟨xt, ct⟩ (fun hS => ?_)
                refine wpAnyH_take (i := 0) (v := ?_) rfl (by kernel_rfl) (by kernel_rfl) (by kernel_rfl) (fun _ _ _ h => h) (Or.inl ⟨by rfl, ?_⟩) hS ?_
                rotate_left
                · intro w' hSw; (try dsimp only at hSw); go_simp; try with_reducible rfl
                (try simp only [List.getElem_toArray, List.getElem_cons_succ, List.getElem_cons_zero, Act.put, List.setIfInBounds_toArray, List.set_cons_zero, List.set_cons_succ])
                refine wpAnyH_take (i := 18) (v := ?_) rfl (by kernel_rfl) (by kernel_rfl) (by kernel_rfl) (fun _ _ _ h => h) (Or.inl ⟨by rfl, ?_⟩) hS ?_
                rotate_left
                · intro w' hSw; (try dsimp only at hSw); go_simp; try with_reducible rfl
                (try simp only [List.getElem_toArray, List.getElem_cons_succ, List.getElem_cons_zero, Act.put, List.setIfInBounds_toArray, List.set_cons_zero, List.set_cons_succ])
                refine wpAnyH_ready (rs := [1]) (by kernel_rfl) (by simp) ?_
                refine AllReadyH.cons rfl (fun K' hK => ?_) AllReadyH.nil
                simp only [List.getElem_toArray, List.getElem_cons_succ, List.getElem_cons_zero]
                go_simp
                refine (HOP.out _ HGW.out.drew).mono ?_
                rintro e w6 ⟨rfl, hg6⟩
                have X6 := hg6.blk (show (wr.drew).heap[xb]? = _ from HXB.out)
                have C6 := hg6.blk (show (wr.drew).heap[C.cb]? = _ from HBT.out)
                have hG6 := HGW.out.drew.trans hg6
                refine hK.out _ _ ⟨cellAt X6 rfl, cellAt C6 rfl⟩ (fun hS => ?_)
                (try simp only [Act.put, List.setIfInBounds_toArray, List.set_cons_zero, List.set_cons_succ])
                refine wpAnyH_take (i := 2) (v := ?_) rfl (by kernel_rfl) (by kernel_rfl) (by kernel_rfl) (fun _ _ _ h => h) (Or.inl ⟨by rfl, ?_⟩) hS ?_
                rotate_left
                · intro w' hSw; (try dsimp only at hSw); go_simp; try with_reducible rfl
                (try simp only [List.getElem_toArray, List.getElem_cons_succ, List.getElem_cons_zero, Act.put, List.setIfInBounds_toArray, List.set_cons_zero, List.set_cons_succ])
                refine wpAnyH_take (i := 3) (v := ?_) rfl (by kernel_rfl) (by kernel_rfl) (by kernel_rfl) (fun _ _ _ h => h) (Or.inl ⟨by rfl, ?_⟩) hS ?_
                rotate_left
                · intro w' hSw; (try dsimp only at hSw); go_simp; try with_reducible rfl
                (try simp only [List.getElem_toArray, List.getElem_cons_succ, List.getElem_cons_zero, Act.put, List.setIfInBounds_toArray, List.set_cons_zero, List.set_cons_succ])
                refine wpAnyH_take (i := 4) (v := ?_) rfl (by kernel_rfl) (by kernel_rfl) (by kernel_rfl) (fun _ _ _ h => h) (Or.inl ⟨by rfl, ?_⟩) hS ?_
                rotate_left
                · intro w' hSw; (try dsimp only at hSw); go_simp; try with_reducible rfl
                (try simp only [List.getElem_toArray, List.getElem_cons_succ, List.getElem_cons_zero, Act.put, List.setIfInBounds_toArray, List.set_cons_zero, List.set_cons_succ])
                refine wpAnyH_ready (rs := [5]) (by kernel_rfl) (by simp) ?_
                refine AllReadyH.cons rfl (fun K' hK => ?_) AllReadyH.nil
                simp only [List.getElem_toArray, List.getElem_cons_succ, List.getElem_cons_zero]
                go_simp
                refine (HTY.out _ hG6).mono ?_
                rintro e w7 ⟨rfl, hg7⟩
                have X7 := hg7.blk X6
                have C7 := hg7.blk C6
                have hG7 := hG6.trans hg7
                refine hK.out _ _ ⟨cellAt X7 rfl, cellAt C7 rfl⟩ (fun hS => ?_)
                (try simp only [Act.put, List.setIfInBounds_toArray, List.set_cons_zero, List.set_cons_succ])
                refine wpAnyH_take (i := 6) (v := ?_) rfl (by kernel_rfl) (by kernel_rfl) (by kernel_rfl) (fun _ _ _ h => h) (Or.inl ⟨by rfl, ?_⟩) hS ?_
                rotate_left
                · intro w' hSw; (try dsimp only at hSw); go_simp; try with_reducible rfl
                (try simp only [List.getElem_toArray, List.getElem_cons_succ, List.getElem_cons_zero, Act.put, List.setIfInBounds_toArray, List.set_cons_zero, List.set_cons_succ])
                refine wpAnyH_take (i := 7) (v := .bool true) rfl (by kernel_rfl) (by kernel_rfl) (by kernel_rfl) (fun _ _ _ h => h) (Or.inl ⟨by rfl, fun w' hSw => by rfl⟩) hS ?_
                (try simp only [List.getElem_toArray, List.getElem_cons_succ, List.getElem_cons_zero, Act.put, List.setIfInBounds_toArray, List.set_cons_zero, List.set_cons_succ])
                refine wpAnyH_take (i := 8) (v := ?_) rfl (by kernel_rfl) (by kernel_rfl) (by kernel_rfl) (fun _ _ _ h => h) (Or.inl ⟨by rfl, ?_⟩) hS ?_
                rotate_left
                · intro w' hSw; (try dsimp only at hSw); go_simp; try with_reducible rfl
                (try simp only [List.getElem_toArray, List.getElem_cons_succ, List.getElem_cons_zero, Act.put, List.setIfInBounds_toArray, List.set_cons_zero, List.set_cons_succ])
                refine wpAnyH_take (i := 9) (v := undef) rfl (by kernel_rfl) (by kernel_rfl) (by kernel_rfl) (fun _ _ _ h => h) (Or.inr ⟨by rfl, rfl⟩) hS ?_
                (try simp only [List.getElem_toArray, List.getElem_cons_succ, List.getElem_cons_zero, Act.put, List.setIfInBounds_toArray, List.set_cons_zero, List.set_cons_succ])
                refine wpAnyH_take (i := 10) (v := undef) rfl (by kernel_rfl) (by kernel_rfl) (by kernel_rfl) (fun _ _ _ h => h) (Or.inr ⟨by rfl, rfl⟩) hS ?_
                (try simp only [List.getElem_toArray, List.getElem_cons_succ, List.getElem_cons_zero, Act.put, List.setIfInBounds_toArray, List.set_cons_zero, List.set_cons_succ])
                refine wpAnyH_take (i := 11) (v := undef) rfl (by kernel_rfl) (by kernel_rfl) (by kernel_rfl) (fun _ _ _ h => h) (Or.inr ⟨by rfl, rfl⟩) hS ?_
                (try simp only [List.getElem_toArray, List.getElem_cons_succ, List.getElem_cons_zero, Act.put, List.setIfInBounds_toArray, List.set_cons_zero, List.set_cons_succ])
                refine wpAnyH_take (i := 12) (v := undef) rfl (by kernel_rfl) (by kernel_rfl) (by kernel_rfl) (fun _ _ _ h => h) (Or.inr ⟨by rfl, rfl⟩) hS ?_
                (try simp only [List.getElem_toArray, List.getElem_cons_succ, List.getElem_cons_zero, Act.put, List.setIfInBounds_toArray, List.set_cons_zero, List.set_cons_succ])
                refine wpAnyH_take (i := 13) (v := undef) rfl (by kernel_rfl) (by kernel_rfl) (by kernel_rfl) (fun _ _ _ h => h) (Or.inr ⟨by rfl, rfl⟩) hS ?_
                (try simp only [List.getElem_toArray, List.getElem_cons_succ, List.getElem_cons_zero, Act.put, List.setIfInBounds_toArray, List.set_cons_zero, List.set_cons_succ])
                refine wpAnyH_take (i := 14) (v := undef) rfl (by kernel_rfl) (by kernel_rfl) (by kernel_rfl) (fun _ _ _ h => h) (Or.inr ⟨by rfl, rfl⟩) hS ?_
                (try simp only [List.getElem_toArray, List.getElem_cons_succ, List.getElem_cons_zero, Act.put, List.setIfInBounds_toArray, List.set_cons_zero, List.set_cons_succ])
                refine wpAnyH_take (i := 15) (v := undef) rfl (by kernel_rfl) (by kernel_rfl) (by kernel_rfl) (fun _ _ _ h => h) (Or.inr ⟨by rfl, rfl⟩) hS ?_
                (try simp only [List.getElem_toArray, List.getElem_cons_succ, List.getElem_cons_zero, Act.put, List.setIfInBounds_toArray, List.set_cons_zero, List.set_cons_succ])
                refine wpAnyH_take (i := 16) (v := undef) rfl (by kernel_rfl) (by kernel_rfl) (by kernel_rfl) (fun _ _ _ h => h) (Or.inr ⟨by rfl, rfl⟩) hS ?_
                (try simp only [List.getElem_toArray, List.getElem_cons_succ, List.getElem_cons_zero, Act.put, List.setIfInBounds_toArray, List.set_cons_zero, List.set_cons_succ])
                refine wpAnyH_take (i := 17) (v := .bool true) rfl (by kernel_rfl) (by kernel_rfl) (by kernel_rfl) (fun _ _ _ h => h) (Or.inl ⟨by rfl, fun w' hSw => by rfl⟩) hS ?_
                (try simp only [List.getElem_toArray, List.getElem_cons_succ, List.getElem_cons_zero, Act.put, List.setIfInBounds_toArray, List.set_cons_zero, List.set_cons_succ])
                refine wpAnyH_ready (rs := [19]) (by kernel_rfl) (by simp) ?_
                refine AllReadyH.cons rfl (fun K' hK => ?_) AllReadyH.nil
                simp only [List.getElem_toArray, List.getElem_cons_succ, List.getElem_cons_zero]
                go_simp
                refine (HMY.out 5 _).mono ?_
                rintro e w9 ⟨rfl, hg9⟩
                have hG9 := Lib.hid (hG7.trans hg9)
                refine hK.out _ _ ⟨cellAt (hg9.blk X7) rfl, cellAt (hg9.blk C7) rfl⟩ (fun hS => ?_)
                (try simp only [Act.put, List.setIfInBounds_toArray, List.set_cons_zero, List.set_cons_succ])
                refine wpAnyH_done (by kernel_rfl) ?_ _
                (try simp only [List.getElem_toArray, List.getElem_cons_succ, List.getElem_cons_zero, Act.put, List.setIfInBounds_toArray, List.set_cons_zero, List.set_cons_succ])
                clear hK hS X6 C6 hg6 hG6 hg9
                go_wp2_with fail
                go_roundw
                case rel => exact ⟨j + 1, by omega, by go_num, HGR.out.trans hG9.out, hr⟩
                case measure => simp [intOf]; omega
            · have hb4 : (dj.op == 4) = false := by simp [h4]
              have hb4n : (dj.op != 4) = true := by simp [h4]
              have hr : Hid (typesC C.x ks = typesC C.x (ks.drop (j + 1))) := by show _ = _; rw [HST.out, if_pos (.inl h4)]
              go_wp2_with fail
              refine wp_region_held_drew (S := fun w' => w'.cell? ⟨xb, 0, none⟩ = some (ptrV bj) ∧ w'.cell? ⟨C.cb, 0, none⟩ = some C.sv) rfl ⟨xt, ct⟩ (fun hS => ?_)
              refine wpAnyH_take (i := 0) (v := ?_) rfl (by kernel_rfl) (by kernel_rfl) (by kernel_rfl) (fun _ _ _ h => h) (Or.inl ⟨by rfl, ?_⟩) hS ?_
              rotate_left
              · intro w' hSw; (try dsimp only at hSw); go_simp; try with_reducible rfl
              (try simp only [List.getElem_toArray, List.getElem_cons_succ, List.getElem_cons_zero, Act.put, List.setIfInBounds_toArray, List.set_cons_zero, List.set_cons_succ])
              refine wpAnyH_take (i := 18) (v := ?_) rfl (by kernel_rfl) (by kernel_rfl) (by kernel_rfl) (fun _ _ _ h => h) (Or.inl ⟨by rfl, ?_⟩) hS ?_
              rotate_left
              · intro w' hSw; (try dsimp only at hSw); go_simp; try with_reducible rfl
              (try simp only [List.getElem_toArray, List.getElem_cons_succ, List.getElem_cons_zero, Act.put, List.setIfInBounds_toArray, List.set_cons_zero, List.set_cons_succ])
              refine wpAnyH_ready (rs := [1]) (by kernel_rfl) (by simp) ?_
              refine AllReadyH.cons rfl (fun K' hK => ?_) AllReadyH.nil
              simp only [List.getElem_toArray, List.getElem_cons_succ, List.getElem_cons_zero]
              go_simp
              refine (HOP.out _ HGW.out.drew).mono ?_
              rintro e w6 ⟨rfl, hg6⟩
              have X6 := hg6.blk (show (wr.drew).heap[xb]? = _ from HXB.out)
              have C6 := hg6.blk (show (wr.drew).heap[C.cb]? = _ from HBT.out)
              have hG6 := HGW.out.drew.trans hg6
              refine hK.out _ _ ⟨cellAt X6 rfl, cellAt C6 rfl⟩ (fun hS => ?_)
              (try simp only [Act.put, List.setIfInBounds_toArray, List.set_cons_zero, List.set_cons_succ])
              refine wpAnyH_take (i := 2) (v := ?_) rfl (by kernel_rfl) (by kernel_rfl) (by kernel_rfl) (fun _ _ _ h => h) (Or.inl ⟨by rfl, ?_⟩) hS ?_
              rotate_left
              · intro w' hSw; (try dsimp only at hSw); go_simp; try with_reducible rfl
              (try simp only [List.getElem_toArray, List.getElem_cons_succ, List.getElem_cons_zero, Act.put, List.setIfInBounds_toArray, List.set_cons_zero, List.set_cons_succ])
              refine wpAnyH_take (i := 3) (v := ?_) rfl (by kernel_rfl) (by kernel_rfl) (by kernel_rfl) (fun _ _ _ h => h) (Or.inl ⟨by rfl, ?_⟩) hS ?_
              rotate_left
              · intro w' hSw; (try dsimp only at hSw); go_simp; try with_reducible rfl
              (try simp only [List.getElem_toArray, List.getElem_cons_succ, List.getElem_cons_zero, Act.put, List.setIfInBounds_toArray, List.set_cons_zero, List.set_cons_succ])
              refine wpAnyH_take (i := 4) (v := undef) rfl (by kernel_rfl) (by kernel_rfl) (by kernel_rfl) (fun _ _ _ h => h) (Or.inr ⟨by rfl, rfl⟩) hS ?_
              (try simp only [List.getElem_toArray, List.getElem_cons_succ, List.getElem_cons_zero, Act.put, List.setIfInBounds_toArray, List.set_cons_zero, List.set_cons_succ])
              refine wpAnyH_take (i := 5) (v := undef) rfl (by kernel_rfl) (by kernel_rfl) (by kernel_rfl) (fun _ _ _ h => h) (Or.inr ⟨by rfl, rfl⟩) hS ?_
              (try simp only [List.getElem_toArray, List.getElem_cons_succ, List.getElem_cons_zero, Act.put, List.setIfInBounds_toArray, List.set_cons_zero, List.set_cons_succ])
              refine wpAnyH_take (i := 6) (v := undef) rfl (by kernel_rfl) (by kernel_rfl) (by kernel_rfl) (fun _ _ _ h => h) (Or.inr ⟨by rfl, rfl⟩) hS ?_
              (try simp only [List.getElem_toArray, List.getElem_cons_succ, List.getElem_cons_zero, Act.put, List.setIfInBounds_toArray, List.set_cons_zero, List.set_cons_succ])
              refine wpAnyH_take (i := 7) (v := .bool true) rfl (by kernel_rfl) (by kernel_rfl) (by kernel_rfl) (fun _ _ _ h => h) (Or.inl ⟨by rfl, fun w' hSw => by rfl⟩) hS ?_
              (try simp only [List.getElem_toArray, List.getElem_cons_succ, List.getElem_cons_zero, Act.put, List.setIfInBounds_toArray, List.set_cons_zero, List.set_cons_succ])
              refine wpAnyH_take (i := 8) (v := ?_) rfl (by kernel_rfl) (by kernel_rfl) (by kernel_rfl) (fun _ _ _ h => h) (Or.inl ⟨by rfl, ?_⟩) hS ?_
              rotate_left
              · intro w' hSw; (try dsimp only at hSw); go_simp; try with_reducible rfl
              (try simp only [List.getElem_toArray, List.getElem_cons_succ, List.getElem_cons_zero, Act.put, List.setIfInBounds_toArray, List.set_cons_zero, List.set_cons_succ])
              refine wpAnyH_take (i := 9) (v := undef) rfl (by kernel_rfl) (by kernel_rfl) (by kernel_rfl) (fun _ _ _ h => h) (Or.inr ⟨by rfl, rfl⟩) hS ?_
              (try simp only [List.getElem_toArray, List.getElem_cons_succ, List.getElem_cons_zero, Act.put, List.setIfInBounds_toArray, List.set_cons_zero, List.set_cons_succ])
              refine wpAnyH_take (i := 10) (v := undef) rfl (by kernel_rfl) (by kernel_rfl) (by kernel_rfl) (fun _ _ _ h => h) (Or.inr ⟨by rfl, rfl⟩) hS ?_
              (try simp only [List.getElem_toArray, List.getElem_cons_succ, List.getElem_cons_zero, Act.put, List.setIfInBounds_toArray, List.set_cons_zero, List.set_cons_succ])
              refine wpAnyH_take (i := 11) (v := undef) rfl (by kernel_rfl) (by kernel_rfl) (by kernel_rfl) (fun _ _ _ h => h) (Or.inr ⟨by rfl, rfl⟩) hS ?_
              (try simp only [List.getElem_toArray, List.getElem_cons_succ, List.getElem_cons_zero, Act.put, List.setIfInBounds_toArray, List.set_cons_zero, List.set_cons_succ])
              refine wpAnyH_take (i := 12) (v := undef) rfl (by kernel_rfl) (by kernel_rfl) (by kernel_rfl) (fun _ _ _ h => h) (Or.inr ⟨by rfl, rfl⟩) hS ?_
              (try simp only [List.getElem_toArray, List.getElem_cons_succ, List.getElem_cons_zero, Act.put, List.setIfInBounds_toArray, List.set_cons_zero, List.set_cons_succ])
              refine wpAnyH_take (i := 13) (v := undef) rfl (by kernel_rfl) (by kernel_rfl) (by kernel_rfl) (fun _ _ _ h => h) (Or.inr ⟨by rfl, rfl⟩) hS ?_
              (try simp only [List.getElem_toArray, List.getElem_cons_succ, List.getElem_cons_zero, Act.put, List.setIfInBounds_toArray, List.set_cons_zero, List.set_cons_succ])
              refine wpAnyH_take (i := 14) (v := undef) rfl (by kernel_rfl) (by kernel_rfl) (by kernel_rfl) (fun _ _ _ h => h) (Or.inr ⟨by rfl, rfl⟩) hS ?_
              (try simp only [List.getElem_toArray, List.getElem_cons_succ, List.getElem_cons_zero, Act.put, List.setIfInBounds_toArray, List.set_cons_zero, List.set_cons_succ])
              refine wpAnyH_take (i := 15) (v := undef) rfl (by kernel_rfl) (by kernel_rfl) (by kernel_rfl) (fun _ _ _ h => h) (Or.inr ⟨by rfl, rfl⟩) hS ?_
              (try simp only [List.getElem_toArray, List.getElem_cons_succ, List.getElem_cons_zero, Act.put, List.setIfInBounds_toArray, List.set_cons_zero, List.set_cons_succ])
              refine wpAnyH_take (i := 16) (v := undef) rfl (by kernel_rfl) (by kernel_rfl) (by kernel_rfl) (fun _ _ _ h => h) (Or.inr ⟨by rfl, rfl⟩) hS ?_
              (try simp only [List.getElem_toArray, List.getElem_cons_succ, List.getElem_cons_zero, Act.put, List.setIfInBounds_toArray, List.set_cons_zero, List.set_cons_succ])
              refine wpAnyH_take (i := 17) (v := .bool true) rfl (by kernel_rfl) (by kernel_rfl) (by kernel_rfl) (fun _ _ _ h => h) (Or.inl ⟨by rfl, fun w' hSw => by rfl⟩) hS ?_
              (try simp only [List.getElem_toArray, List.getElem_cons_succ, List.getElem_cons_zero, Act.put, List.setIfInBounds_toArray, List.set_cons_zero, List.set_cons_succ])
              refine wpAnyH_ready (rs := [19]) (by kernel_rfl) (by simp) ?_
              refine AllReadyH.cons rfl (fun K' hK => ?_) AllReadyH.nil
              simp only [List.getElem_toArray, List.getElem_cons_succ, List.getElem_cons_zero]
              go_simp
              refine (HMY.out 5 _).mono ?_
              rintro e w9 ⟨rfl, hg9⟩
              have hG9 := Lib.hid (hG6.trans hg9)
              refine hK.out _ _ ⟨cellAt (hg9.blk X6) rfl, cellAt (hg9.blk C6) rfl⟩ (fun hS => ?_)
              (try simp only [Act.put, List.setIfInBounds_toArray, List.set_cons_zero, List.set_cons_succ])
              refine wpAnyH_done (by kernel_rfl) ?_ _
              (try simp only [List.getElem_toArray, List.getElem_cons_succ, List.getElem_cons_zero, Act.put, List.setIfInBounds_toArray, List.set_cons_zero, List.set_cons_succ])
              clear hK hS X6 C6 hg6 hG6 hg9
              go_wp2_with fail
              go_roundw
              case rel => exact ⟨j + 1, by omega, by go_num, HGR.out.trans hG9.out, hr⟩
              case measure => simp [intOf]; omega
    · have hjn : j = n := by omega
      have hr : R = .ok () := by rw [← HR.out, hI.out, List.drop_of_length_le (by rw [← HN.out]; omega)]; rfl
      rw [hr]
      go_wp2_with fail
      go_end0
      exact ⟨HG1.out.trans HGR.out, rfl⟩
end Go.Proofs.YthniejnbkkkbnaaGreatDoor
