/- Walks of layer check: names, of no declaration or of one function (elsewhere nothing is said yet). -/
import Derived.Test.YthniejnbkkkbnaaGreatDoorM27
set_option linter.all false
set_option linter.unusedSimpArgs false
set_option linter.unusedVariables false
namespace Go.Proofs.YthniejnbkkkbnaaGreatDoor
open Go.RowKit
set_option maxRecDepth 100000
set_option maxHeartbeats 40000000

def mostN : List (Int × Int) := [(2, 12), (3, 12), (4, 24)]
theorem zero_bool (w : World) : (zeroValue 4).run Tryz.prog w = .ok (.bool false) w := by kernel_rfl
theorem names_made (w : World) : ∃ wA wB wC, (Instr.mapUpdate 141 (.map (some w.heap.size)) (.int .i64 2) (.int .i64 12)).run Tryz.prog (w.alloc (.map #[] 0)) = .ok () wA ∧
    (Instr.mapUpdate 141 (.map (some w.heap.size)) (.int .i64 3) (.int .i64 12)).run Tryz.prog wA = .ok () wB ∧ (Instr.mapUpdate 141 (.map (some w.heap.size)) (.int .i64 4) (.int .i64 24)).run Tryz.prog wB = .ok () wC ∧
    MapAt encI wC w.heap.size (imap mostN) ∧ Gr w wC ∧ w.heap.size < wC.heap.size := by
  obtain ⟨wA, r1, m1, g1⟩ := run_put keyI Tryz.underlying141 Tryz.underlying3 (MapAt.made encI w) 2 (.int .i64 12)
  obtain ⟨wB, r2, m2, g2⟩ := run_put keyI Tryz.underlying141 Tryz.underlying3 m1 3 (.int .i64 12)
  obtain ⟨wC, r3, m3, g3⟩ := run_put keyI Tryz.underlying141 Tryz.underlying3 m2 4 (.int .i64 24)
  refine ⟨wA, wB, wC, r1, r2, r3, m3, ?_, m3.lt⟩
  have h1 : ∀ k, some w.heap.size = some k → w.heap.size ≤ k := fun k e => by injection e with e; omega
  exact (((Gr.al w (.map #[] 0)).grown g1 h1).grown g2 h1).grown g3 h1
theorem run_get_msb (w : World) (m : Nat) (L : List (Str × Value)) (x : Str) (h : MapAt encS w m L) :
    (Instr.lookup 142 (.map (some m)) (.string (S x)) false).run Tryz.prog w = .ok ((aget L x).getD (.bool false)) w :=
  run_get keyS Tryz.underlying142 Tryz.underlying9 (zero_bool w) h x
def nilS : Value := .slice none 0 0
def sigT (t : T) : Sig := ⟨t.d.name, fieldsP (partsP t), t.d.typ⟩
theorem info_sig : (Tryz.prog.info? 147).map (fun i => (i.zero, i.size, i.bytes)) = some (some (.agg #[.string ⟨#[]⟩, .slice none 0 0, .string ⟨#[]⟩]), 3, 56) := by kernel_rfl

theorem cnames_any (cb b : Nat) (d : D) (ks : List T) (X : Nat → Prop) (w : World) (hks : ks = [] ∨ ∃ t, ks = [t] ∧ t.d.op = 4 ∧ partsOk t.kids = true ∧ t.kids.length < 1000000)
    (ht : TreeAt w X b (.mk d ks)) (hX : ∀ k, X k → k < w.heap.size ∧ k ≠ cb) (hcb : w.heap[cb]? = some (.cells #[nilS, nilS, nilS, nilS, .string (S [])] 118 (0, 0))) :
    Calls Tryz.prog 42 #[ptrV cb, nodeV b] w fun e w' => e = .returned (.tuple #[]) ∧ Md cb w w' ∧ ∃ fv, w'.heap[cb]? = some (.cells #[nilS, nilS, fv, nilS, .string (S [])] 118 (0, 0)) ∧ SigsAt w' (fun k => w.heap.size ≤ k) fv (ks.map sigT) := by
  have hkl : ks.length < 1000000 := by rcases hks with rfl | ⟨t, rfl, _⟩ <;> simp
  have HKS := Lib.hid (fun w' (hg : Gr w w') => kids_any b (.mk d ks) X w' (ht.gr hg) (fun k hk => by have := (hX k hk).1; have := hg.size; omega) hkl)
  rw [show (T.mk d ks).kids = ks from rfl] at HKS
  have hmm := @run_makeMap Tryz.prog
  obtain ⟨i0, hi0, hz0, hz1, hz2⟩ := info_parts info_sig
  have hcl := blkLt hcb
  have HCB := Lib.hid hcb
  have HXX := Lib.hid hX
  obtain ⟨n, hn⟩ : ∃ n, n = ks.length := ⟨_, rfl⟩
  have HN := Lib.hid hn
  have hn1 : n ≤ 1 := by rw [hn]; rcases hks with rfl | ⟨t, rfl, _⟩ <;> simp
  have HKK := Lib.hid hks
  clear hcb ht hX hn hkl hks
  go_enter Tryz.func42, Tryz.ntmps42
  go_upto_region 1 with fail
  have hG0 : Gr w (w.alloc (.cells #[ptrV b] 53 (0, 0))) := Gr.al _ _
  have B0 := blk_alloc w (.cells #[ptrV b] 53)
  obtain ⟨xb, hxb⟩ : ∃ x, x = w.heap.size := ⟨_, rfl⟩
  rw [← hxb] at B0 ⊢
  generalize hw0 : w.alloc (.cells #[ptrV b] 53 (0, 0)) = w0 at B0 hG0 ⊢
  obtain ⟨wA, wB, wC, r1, r2, r3, hm, hgC, hml⟩ := names_made w0
  have BC := hgC.blk B0
  have hGC := hG0.trans hgC
  have hxl := blkLt B0
  have hxw : w.heap.size ≤ xb := by omega
  have HMS := Lib.hid (MapAt.made encS wC)
  have HM1 := Lib.hid hm
  have BD := blk_alloc_lt (o' := .map #[] 0) BC
  have hGD := hGC.alloc (.map #[] 0)
  have bd := cellAt BD (i := 0) rfl
  have hs0 := hG0.size
  clear hm hw0 hxb B0 BC hG0 hgC hGC
  go_wp2_with fail
  refine (HKS.out _ hGD).mono ?_
  rintro e w1 ⟨kv, bs, rfl, ho, hg1⟩
  have hG1 : Gr w w1 := hGD.trans hg1
  obtain ⟨A, c, bs', hkv, hkc, hkr, hbl, htr⟩ := ho.nodes
  rw [← HN.out] at hkv hkc hbl
  subst hkv
  have HKR := Lib.hid hkr
  have HTR := Lib.hid htr
  have HBL := Lib.hid hbl
  have HMA := Lib.hid ((HM1.out.gr (Gr.al wC (.map #[] 0))).gr hg1)
  have HMB := Lib.hid (HMS.out.gr hg1)
  have HB1 := Lib.hid (hg1.blk BD)
  have HG1 := Lib.hid hG1
  have hm12 := hml
  have hs1 := hg1.size
  rw [World.size_alloc] at hs1
  clear ho hkr htr hbl hg1 HM1 HMS BD bd hGD hml
  generalize hm1 : w0.heap.size = m1 at *
  generalize hm2 : wC.heap.size = m2 at *
  clear hm1 hm2 r1 r2 r3
  go_wp2_with fail
  go_loopw [14] (fun t wr => ∃ j : Nat, t = .int .i64 j ∧ Hid ((j = 0 ∧ wr = w1) ∨ (j = 1 ∧ n = 1 ∧ Md cb w wr ∧ ∃ fv, wr.heap[cb]? = some (.cells #[nilS, nilS, fv, nilS, .string (S [])] 118 (0, 0)) ∧ SigsAt wr (fun k => w.heap.size ≤ k) fv (ks.map sigT)))) (fun t _ => 1 - (intOf t).toNat)
  case atStart => exact ⟨0, rfl, .inl ⟨rfl, rfl⟩⟩
  case round =>
    obtain ⟨j, rfl, hI⟩ := hrel
    by_cases hlt : j < n
    · have hw : j = 0 ∧ wr = w1 := by
        rcases hI.out with h | ⟨h, h2, _⟩
        · exact h
        · omega
      obtain ⟨hj0, rfl⟩ := hw
      have HJ0 := Lib.hid hj0
      obtain ⟨tj, hkt, hop, hpo, hkjl⟩ : ∃ t, ks = [t] ∧ t.d.op = 4 ∧ partsOk t.kids = true ∧ t.kids.length < 1000000 := by
        rcases HKK.out with h | h
        · rw [HN.out, h] at hlt; simp at hlt
        · exact h
      subst hkt
      have hjb : j < bs'.length := by rw [HBL.out]; exact hlt
      obtain ⟨g, off, rfl, hg, _, hcl2⟩ := HKR.out.open_ (j := j) (by simpa using hjb)
      obtain ⟨bj, hbj⟩ : ∃ b, bs'[j] = b := ⟨_, rfl⟩
      have hcj := hcl2 j (ptrV bj) (by simp [hjb, hbj])
      have htj := HTR.out j bs'[j] tj (by simp [hjb]) (by simp [hj0])
      rw [hbj] at htj
      obtain ⟨⟨⟨op, nm, ty, nn, at_⟩, kj⟩, hdj⟩ : ∃ t, tj = t := ⟨_, rfl⟩
      subst hdj
      obtain rfl : op = 4 := hop
      have HTJ : Hid (∀ w', Gr w w' → TreeAt w' X bj (.mk ⟨4, nm, ty, nn, at_⟩ kj)) := fun w' hg => htj.frame fun k hk _ => (hg.block k (HXX.out k hk).1).trans (HG1.out.block k (HXX.out k hk).1).symm
      have HOP := Lib.hid (fun w' (hg : Gr w w') => Op_any (nodeV bj) (some (.mk ⟨4, nm, ty, nn, at_⟩ kj)) X w' ⟨bj, rfl, HTJ.out w' hg⟩)
      have HTY := Lib.hid (fun w' (hg : Gr w w') => Type_any (nodeV bj) (some (.mk ⟨4, nm, ty, nn, at_⟩ kj)) X w' ⟨bj, rfl, HTJ.out w' hg⟩)
      have HNM := Lib.hid (fun w' (hg : Gr w w') => Name_any (nodeV bj) (some (.mk ⟨4, nm, ty, nn, at_⟩ kj)) X w' ⟨bj, rfl, HTJ.out w' hg⟩)
      simp only [dO, T.d] at HOP HTY HNM
      have HMY := Lib.hid (fun er w' => must_yes (nodeV bj) ⟨_, rfl⟩ er w')
      have HPA := Lib.hid (fun w' (hg : Gr w w') => parts_any bj (.mk ⟨4, nm, ty, nn, at_⟩ kj) X w' (HTJ.out w' hg) (fun k hk => by have := (HXX.out k hk).1; have := hg.size; omega) hkjl hpo)
      have hkj2 : kj.length < 1000000 := hkjl
      clear hcl2 hbj htj hj0 hI hpo hkjl
      go_upto_region 6 with fail
      have hG2 : Gr w (wr.alloc (.cells #[ptrV bj] 53 (0, 0))) := HG1.out.alloc _
      have hGr2 : Gr wr (wr.alloc (.cells #[ptrV bj] 53 (0, 0))) := Gr.al _ _
      have BX := blk_alloc wr (.cells #[ptrV bj] 53)
      obtain ⟨x2, hx2⟩ : ∃ x, x = wr.heap.size := ⟨_, rfl⟩
      rw [← hx2] at BX ⊢
      generalize hw2 : wr.alloc (.cells #[ptrV bj] 53 (0, 0)) = w2 at BX hG2 hGr2 ⊢
      have bx := cellAt BX (i := 0) rfl
      have hxl2 := blkLt BX
      have hmx : m2 < x2 := by omega
      clear hw2 hcj hx2
      refine wp_region_held_drew (S := fun w' => w'.cell? ⟨x2, 0, none⟩ = some (ptrV bj)) rfl bx (fun hS => ?_)
      refine wpAnyH_take (i := 0) (v := ?_) rfl (by kernel_rfl) (by kernel_rfl) (by kernel_rfl) (fun _ _ _ h => h) (Or.inl ⟨by rfl, ?_⟩) hS ?_
      rotate_left
      · intro w' hSw; (try dsimp only at hSw); go_simp; try with_reducible rfl
      (try simp only [List.getElem_toArray, List.getElem_cons_succ, List.getElem_cons_zero, Act.put, List.setIfInBounds_toArray, List.set_cons_zero, List.set_cons_succ])
      refine wpAnyH_take (i := 1) (v := ?_) rfl (by kernel_rfl) (by kernel_rfl) (by kernel_rfl) (fun _ _ _ h => h) (Or.inl ⟨by rfl, ?_⟩) hS ?_
      rotate_left
      · intro w' hSw; (try dsimp only at hSw); go_simp; try with_reducible rfl
      (try simp only [List.getElem_toArray, List.getElem_cons_succ, List.getElem_cons_zero, Act.put, List.setIfInBounds_toArray, List.set_cons_zero, List.set_cons_succ])
      refine wpAnyH_take (i := 5) (v := ?_) rfl (by kernel_rfl) (by kernel_rfl) (by kernel_rfl) (fun _ _ _ h => h) (Or.inl ⟨by rfl, ?_⟩) hS ?_
      rotate_left
      · intro w' hSw; (try dsimp only at hSw); go_simp; try with_reducible rfl
      (try simp only [List.getElem_toArray, List.getElem_cons_succ, List.getElem_cons_zero, Act.put, List.setIfInBounds_toArray, List.set_cons_zero, List.set_cons_succ])
      refine wpAnyH_ready (rs := [2]) (by kernel_rfl) (by simp) ?_
      refine AllReadyH.cons rfl (fun K' hK => ?_) AllReadyH.nil
      simp only [List.getElem_toArray, List.getElem_cons_succ, List.getElem_cons_zero]
      go_simp
      refine (HNM.out _ hG2.drew).mono ?_
      rintro e w3 ⟨rfl, hg3⟩
      have B3 := hg3.blk (blk_drew BX)
      have hG3 := hG2.drew.trans hg3
      have hmB3 := Lib.hid (HMB.out.gr (hGr2.drew.trans hg3))
      have hmA3 := Lib.hid (HMA.out.gr (hGr2.drew.trans hg3))
      have hlk := run_get_msb w3 m2 [] nm hmB3.out
      rw [show (aget ([] : List (Str × Value)) nm).getD (.bool false) = .bool false from rfl] at hlk
      refine hK.out _ _ (cellAt B3 rfl) (fun hS => ?_)
      (try simp only [Act.put, List.setIfInBounds_toArray, List.set_cons_zero, List.set_cons_succ])
      refine wpAnyH_ready (rs := [3]) (by kernel_rfl) (by simp) ?_
      refine AllReadyH.cons rfl (fun K' hK => ?_) AllReadyH.nil
      simp only [List.getElem_toArray, List.getElem_cons_succ, List.getElem_cons_zero]
      go_simp
      refine hK.out _ _ (cellAt B3 rfl) (fun hS => ?_)
      (try simp only [Act.put, List.setIfInBounds_toArray, List.set_cons_zero, List.set_cons_succ])
      refine wpAnyH_take (i := 4) (v := ?_) rfl (by kernel_rfl) (by kernel_rfl) (by kernel_rfl) (fun _ _ _ h => h) (Or.inl ⟨by rfl, ?_⟩) hS ?_
      rotate_left
      · intro w' hSw; (try dsimp only at hSw); go_simp; try with_reducible rfl
      (try simp only [List.getElem_toArray, List.getElem_cons_succ, List.getElem_cons_zero, Act.put, List.setIfInBounds_toArray, List.set_cons_zero, List.set_cons_succ])
      refine wpAnyH_ready (rs := [6]) (by kernel_rfl) (by simp) ?_
      refine AllReadyH.cons rfl (fun K' hK => ?_) AllReadyH.nil
      simp only [List.getElem_toArray, List.getElem_cons_succ, List.getElem_cons_zero]
      go_simp
      refine (HMY.out 6 _).mono ?_
      rintro e w4 ⟨rfl, hg4⟩
      have B4 := hg4.blk B3
      refine hK.out _ _ (cellAt B4 rfl) (fun hS => ?_)
      (try simp only [Act.put, List.setIfInBounds_toArray, List.set_cons_zero, List.set_cons_succ])
      refine wpAnyH_done (by kernel_rfl) ?_ _
      have hG4 := hG3.trans hg4
      have hmB4 := Lib.hid (hmB3.out.gr hg4)
      have hmA4 := Lib.hid (hmA3.out.gr hg4)
      have b4 := cellAt B4 (i := 0) rfl
      have hl4 := blkLt B4
      have HB4 := Lib.hid B4
      clear hK hlk hmB3 hmA3 B3 BX bx hG2 hGr2 hg3 hg4 hG3 B4 HMA HMB
      go_wp2_with fail
      refine (HNM.out _ hG4).mono ?_
      rintro e w5 ⟨rfl, hg5⟩
      have hG5 := hG4.trans hg5
      have hmA5 := Lib.hid (hmA4.out.gr hg5)
      obtain ⟨w6, hrun, hmB6, hgr6⟩ := run_put keyS Tryz.underlying142 Tryz.underlying9 (hmB4.out.gr hg5) nm (.bool true)
      replace hrun : (Instr.mapUpdate 142 (.map (some m2)) (.string (S nm)) (.bool true)).run Tryz.prog w5 = .ok () w6 := hrun
      have hw6 : ∀ k, some m2 = some k → w.heap.size ≤ k := fun k e => by injection e with e; omega
      have hG6 := hG5.grown hgr6 hw6
      have HB6 := Lib.hid (grownC_blk hgr6 (hg5.blk HB4.out) (fun j e => by injection e with e; omega))
      have HMA6 : Hid (MapAt encI w6 m1 (imap mostN)) := hmA5.out.frame (hgr6.block m1 hmA5.out.lt (fun e => by injection e with e; omega))
      have hmB6' := Lib.hid hmB6
      have b6 := cellAt HB6.out (i := 0) rfl
      have hl6 := blkLt HB6.out
      clear hmA5 hmB6 hgr6 hg5 hmB4 hmA4 b4
      go_wp2_with fail
      refine (HOP.out _ hG6).mono ?_
      rintro e w7 ⟨rfl, hg7⟩
      have hlk := run_get_mii w7 m1 (imap mostN) 4 (HMA6.out.gr hg7)
      rw [show (aget (imap mostN) 4).getD (.int .i64 0) = .int .i64 24 from rfl] at hlk
      obtain ⟨w8, hrun2, hmA8, hgr8⟩ := run_put keyI Tryz.underlying141 Tryz.underlying3 (HMA6.out.gr hg7) 4 (.int .i64 23)
      replace hrun2 : (Instr.mapUpdate 141 (.map (some m1)) (.int .i64 4) (.int .i64 23)).run Tryz.prog w7 = .ok () w8 := hrun2
      have hw8 : ∀ k, some m1 = some k → w.heap.size ≤ k := fun k e => by injection e with e; omega
      have hG8 := (hG6.trans hg7).grown hgr8 hw8
      have HB8 := Lib.hid (grownC_blk hgr8 (hg7.blk HB6.out) (fun j e => by injection e with e; omega))
      have HMA8 := Lib.hid hmA8
      have b8 := cellAt HB8.out (i := 0) rfl
      have hl8 := blkLt HB8.out
      have hsub : IntKind.i64.wrap (24 - 1) = 23 := rfl
      clear hmA8 hgr8 hg7 HMA6 hrun b6
      go_wp2_with fail
      refine wp_region_held_drew (S := fun w' => w'.cell? ⟨x2, 0, none⟩ = some (ptrV bj)) rfl b8 (fun hS => ?_)
      refine wpAnyH_take (i := 0) (v := ?_) rfl (by kernel_rfl) (by kernel_rfl) (by kernel_rfl) (fun _ _ _ h => h) (Or.inl ⟨by rfl, ?_⟩) hS ?_
      rotate_left
      · intro w' hSw; (try dsimp only at hSw); go_simp; try with_reducible rfl
      (try simp only [List.getElem_toArray, List.getElem_cons_succ, List.getElem_cons_zero, Act.put, List.setIfInBounds_toArray, List.set_cons_zero, List.set_cons_succ])
      refine wpAnyH_take (i := 1) (v := ?_) rfl (by kernel_rfl) (by kernel_rfl) (by kernel_rfl) (fun _ _ _ h => h) (Or.inl ⟨by rfl, ?_⟩) hS ?_
      rotate_left
      · intro w' hSw; (try dsimp only at hSw); go_simp; try with_reducible rfl
      (try simp only [List.getElem_toArray, List.getElem_cons_succ, List.getElem_cons_zero, Act.put, List.setIfInBounds_toArray, List.set_cons_zero, List.set_cons_succ])
      refine wpAnyH_take (i := 5) (v := ?_) rfl (by kernel_rfl) (by kernel_rfl) (by kernel_rfl) (fun _ _ _ h => h) (Or.inl ⟨by rfl, ?_⟩) hS ?_
      rotate_left
      · intro w' hSw; (try dsimp only at hSw); go_simp; try with_reducible rfl
      (try simp only [List.getElem_toArray, List.getElem_cons_succ, List.getElem_cons_zero, Act.put, List.setIfInBounds_toArray, List.set_cons_zero, List.set_cons_succ])
      refine wpAnyH_ready (rs := [2]) (by kernel_rfl) (by simp) ?_
      refine AllReadyH.cons rfl (fun K' hK => ?_) AllReadyH.nil
      simp only [List.getElem_toArray, List.getElem_cons_succ, List.getElem_cons_zero]
      go_simp
      refine (HOP.out _ hG8.drew).mono ?_
      rintro e w9 ⟨rfl, hg9⟩
      have B9 := hg9.blk (blk_drew HB8.out)
      have hG9 := hG8.drew.trans hg9
      have hlk9 := run_get_mii w9 m1 _ 4 ((HMA8.out.gr (Gr.refl w8).drew).gr hg9)
      rw [show (aget (aput (imap mostN) 4 (.int .i64 23)) 4).getD (.int .i64 0) = .int .i64 23 from rfl] at hlk9
      refine hK.out _ _ (cellAt B9 rfl) (fun hS => ?_)
      (try simp only [Act.put, List.setIfInBounds_toArray, List.set_cons_zero, List.set_cons_succ])
      refine wpAnyH_ready (rs := [3]) (by kernel_rfl) (by simp) ?_
      refine AllReadyH.cons rfl (fun K' hK => ?_) AllReadyH.nil
      simp only [List.getElem_toArray, List.getElem_cons_succ, List.getElem_cons_zero]
      go_simp
      refine hK.out _ _ (cellAt B9 rfl) (fun hS => ?_)
      (try simp only [Act.put, List.setIfInBounds_toArray, List.set_cons_zero, List.set_cons_succ])
      refine wpAnyH_take (i := 4) (v := ?_) rfl (by kernel_rfl) (by kernel_rfl) (by kernel_rfl) (fun _ _ _ h => h) (Or.inl ⟨by rfl, ?_⟩) hS ?_
      rotate_left
      · intro w' hSw; (try dsimp only at hSw); go_simp; try with_reducible rfl
      (try simp only [List.getElem_toArray, List.getElem_cons_succ, List.getElem_cons_zero, Act.put, List.setIfInBounds_toArray, List.set_cons_zero, List.set_cons_succ])
      refine wpAnyH_ready (rs := [6]) (by kernel_rfl) (by simp) ?_
      refine AllReadyH.cons rfl (fun K' hK => ?_) AllReadyH.nil
      simp only [List.getElem_toArray, List.getElem_cons_succ, List.getElem_cons_zero]
      go_simp
      refine (HMY.out 4 _).mono ?_
      rintro e w10 ⟨rfl, hg10⟩
      have B10 := hg10.blk B9
      refine hK.out _ _ (cellAt B10 rfl) (fun hS => ?_)
      (try simp only [Act.put, List.setIfInBounds_toArray, List.set_cons_zero, List.set_cons_succ])
      refine wpAnyH_done (by kernel_rfl) ?_ _
      have hG10 := hG9.trans hg10
      have HB10 := Lib.hid B10
      have b10 := cellAt B10 (i := 0) rfl
      have hl10 := blkLt B10
      clear hK hlk hlk9 hrun2 HMA8 B9 B10 hg9 hg10 b8 hG9
      go_wp2_with fail
      refine (HOP.out _ hG10).mono ?_
      rintro e w11 ⟨rfl, hg11⟩
      have hG11 := hG10.trans hg11
      have HB11 := Lib.hid (hg11.blk HB10.out)
      have b11 := cellAt HB11.out (i := 0) rfl
      have hl11 := blkLt HB11.out
      clear hg11 b10
      go_wp2_with fail
      have HC11 := Lib.hid (hG11.blk HCB.out)
      obtain ⟨_, _, c2, _, _⟩ := cells5 HC11.out
      have hcl11 := blkLt HC11.out
      have hxc : x2 ≠ cb := by omega
      refine wp_region_K 19 (S := fun w' => w'.cell? ⟨x2, 0, none⟩ = some (ptrV bj) ∧ w'.cell? ⟨cb, 2, none⟩ = some nilS) rfl ⟨b11, c2⟩ (fun hS => ?_)
      refine wpAnyK_take (i := 0) (v := ?_) rfl (by kernel_rfl) (by kernel_rfl) (by kernel_rfl) (by kernel_rfl) (fun _ _ _ h => h) (Or.inl ⟨by rfl, ?_⟩) hS ?_
      rotate_left
      · intro w' hSw; (try dsimp only at hSw); go_simp; try with_reducible rfl
      (try simp only [List.getElem_toArray, List.getElem_cons_succ, List.getElem_cons_zero, Act.put, List.setIfInBounds_toArray, List.set_cons_zero, List.set_cons_succ])
      refine wpAnyK_take (i := 1) (v := ?_) rfl (by kernel_rfl) (by kernel_rfl) (by kernel_rfl) (by kernel_rfl) (fun _ _ _ h => h) (Or.inl ⟨by rfl, ?_⟩) hS ?_
      rotate_left
      · intro w' hSw; (try dsimp only at hSw); go_simp; try with_reducible rfl
      (try simp only [List.getElem_toArray, List.getElem_cons_succ, List.getElem_cons_zero, Act.put, List.setIfInBounds_toArray, List.set_cons_zero, List.set_cons_succ])
      refine wpAnyK_take (i := 2) (v := ?_) rfl (by kernel_rfl) (by kernel_rfl) (by kernel_rfl) (by kernel_rfl) (fun _ _ _ h => h) (Or.inl ⟨by rfl, ?_⟩) hS ?_
      rotate_left
      · intro w' hSw; (try dsimp only at hSw); go_simp; try with_reducible rfl
      (try simp only [List.getElem_toArray, List.getElem_cons_succ, List.getElem_cons_zero, Act.put, List.setIfInBounds_toArray, List.set_cons_zero, List.set_cons_succ])
      refine wpAnyK_take (i := 3) (v := ?_) rfl (by kernel_rfl) (by kernel_rfl) (by kernel_rfl) (by kernel_rfl) (fun _ _ _ h => h) (Or.inl ⟨by rfl, ?_⟩) hS ?_
      rotate_left
      · intro w' hSw; (try dsimp only at hSw); go_simp; try with_reducible rfl
      (try simp only [List.getElem_toArray, List.getElem_cons_succ, List.getElem_cons_zero, Act.put, List.setIfInBounds_toArray, List.set_cons_zero, List.set_cons_succ])
      refine wpAnyK_take (i := 4) (v := ?_) rfl (by kernel_rfl) (by kernel_rfl) (by kernel_rfl) (by kernel_rfl) (fun _ _ _ h => h) (Or.inl ⟨by rfl, ?_⟩) hS ?_
      rotate_left
      · intro w' hSw; (try dsimp only at hSw); go_simp; try with_reducible rfl
      (try simp only [List.getElem_toArray, List.getElem_cons_succ, List.getElem_cons_zero, Act.put, List.setIfInBounds_toArray, List.set_cons_zero, List.set_cons_succ])
      refine wpAnyK_take (i := 5) (v := ?_) rfl (by kernel_rfl) (by kernel_rfl) (by kernel_rfl) (by kernel_rfl) (fun _ _ _ h => h) (Or.inl ⟨by rfl, ?_⟩) hS ?_
      rotate_left
      · intro w' hSw; (try dsimp only at hSw); go_simp; try with_reducible rfl
      (try simp only [List.getElem_toArray, List.getElem_cons_succ, List.getElem_cons_zero, Act.put, List.setIfInBounds_toArray, List.set_cons_zero, List.set_cons_succ])
      refine wpAnyK_take (i := 6) (v := ?_) rfl (by kernel_rfl) (by kernel_rfl) (by kernel_rfl) (by kernel_rfl) (fun _ _ _ h => h) (Or.inl ⟨by rfl, ?_⟩) hS ?_
      rotate_left
      · intro w' hSw; (try dsimp only at hSw); go_simp; try with_reducible rfl
      (try simp only [List.getElem_toArray, List.getElem_cons_succ, List.getElem_cons_zero, Act.put, List.setIfInBounds_toArray, List.set_cons_zero, List.set_cons_succ])
      refine wpAnyK_take (i := 8) (v := ?_) rfl (by kernel_rfl) (by kernel_rfl) (by kernel_rfl) (by kernel_rfl) (fun _ _ _ h => h) (Or.inl ⟨by rfl, ?_⟩) hS ?_
      rotate_left
      · intro w' hSw; (try dsimp only at hSw); go_simp; try with_reducible rfl
      (try simp only [List.getElem_toArray, List.getElem_cons_succ, List.getElem_cons_zero, Act.put, List.setIfInBounds_toArray, List.set_cons_zero, List.set_cons_succ])
      refine wpAnyK_take (i := 11) (v := ?_) rfl (by kernel_rfl) (by kernel_rfl) (by kernel_rfl) (by kernel_rfl) (fun _ _ _ h => h) (Or.inl ⟨by rfl, ?_⟩) hS ?_
      rotate_left
      · intro w' hSw; (try dsimp only at hSw); go_simp; try with_reducible rfl
      (try simp only [List.getElem_toArray, List.getElem_cons_succ, List.getElem_cons_zero, Act.put, List.setIfInBounds_toArray, List.set_cons_zero, List.set_cons_succ])
      refine wpAnyK_one (i := 7) (by kernel_rfl) rfl (fun K' hK => ?_)
      simp only [List.getElem_toArray, List.getElem_cons_succ, List.getElem_cons_zero]
      go_simp
      refine (HNM.out _ hG11.drew).mono ?_
      rintro e w12 ⟨rfl, hg12⟩
      have B12 := hg12.blk (blk_drew HB11.out)
      have C12 := hg12.blk (blk_drew HC11.out)
      have hG12 := hG11.drew.trans hg12
      refine hK.out _ _ ⟨cellAt B12 rfl, (cells5 C12).2.2.1⟩ (fun hS => ?_)
      (try simp only [Act.put, List.setIfInBounds_toArray, List.set_cons_zero, List.set_cons_succ])
      refine wpAnyK_one (i := 9) (by kernel_rfl) rfl (fun K' hK => ?_)
      simp only [List.getElem_toArray, List.getElem_cons_succ, List.getElem_cons_zero]
      go_simp
      refine (HPA.out _ hG12).mono ?_
      rintro e w13 ⟨pv, bps, rfl, hop13, hg13⟩
      have B13 := hg13.blk B12
      have C13 := hg13.blk C12
      have hG13 := hG12.trans hg13
      refine hK.out _ _ ⟨cellAt B13 rfl, (cells5 C13).2.2.1⟩ (fun hS => ?_)
      (try simp only [Act.put, List.setIfInBounds_toArray, List.set_cons_zero, List.set_cons_succ])
      refine wpAnyK_one (i := 10) (by kernel_rfl) rfl (fun K' hK => ?_)
      simp only [List.getElem_toArray, List.getElem_cons_succ, List.getElem_cons_zero]
      go_simp
      refine (fields_any _ _ _ _ _ hop13.nodes (Nat.lt_of_le_of_lt (List.length_filter_le _ _) hkj2)).mono ?_
      rintro e w14 ⟨fv, rfl, hown14, hg14⟩
      obtain ⟨fA, fc, hfv, hfc, hfr⟩ := ownRow_row hown14
      have HFL : Hid (FldsAt w14 (fun k => w.heap.size ≤ k ∧ k ≠ cb) fv (fieldsP (partsP (.mk ⟨4, nm, ty, nn, at_⟩ kj)))) := PairsAt.imp (own_pairs (e := 93) (base := w13.heap.size) (by rw [List.length_map]; exact hown14)) fun k _ hk => ⟨by have := hG13.size; omega, by have := hG13.size; omega⟩
      obtain ⟨nf, hnf⟩ : ∃ nf, (fieldsP (partsP (.mk ⟨4, nm, ty, nn, at_⟩ kj))).length = nf := ⟨_, rfl⟩
      replace hfv : fv = .slice fA nf fc := by rw [hfv, ← hnf]; rfl
      subst hfv
      clear hown14 hfr hfc hnf
      have B14 := hg14.blk B13
      have C14 := hg14.blk C13
      have hG14 := hG13.trans hg14
      refine hK.out _ _ ⟨cellAt B14 rfl, (cells5 C14).2.2.1⟩ (fun hS => ?_)
      (try simp only [Act.put, List.setIfInBounds_toArray, List.set_cons_zero, List.set_cons_succ])
      refine wpAnyK_one (i := 12) (by kernel_rfl) rfl (fun K' hK => ?_)
      simp only [List.getElem_toArray, List.getElem_cons_succ, List.getElem_cons_zero]
      go_simp
      refine (HTY.out _ hG14).mono ?_
      rintro e w15 ⟨rfl, hg15⟩
      have B15 := hg15.blk B14
      have C15 := hg15.blk C14
      have hG15 := hG14.trans hg15
      refine hK.out _ _ ⟨cellAt B15 rfl, (cells5 C15).2.2.1⟩ (fun hS => ?_)
      (try simp only [Act.put, List.setIfInBounds_toArray, List.set_cons_zero, List.set_cons_succ])
      refine wpAnyK_take (i := 13) (v := ?_) rfl (by kernel_rfl) (by kernel_rfl) (by kernel_rfl) (by kernel_rfl) (fun _ _ _ h => h) (Or.inl ⟨by rfl, ?_⟩) hS ?_
      rotate_left
      · intro w' hSw; (try dsimp only at hSw); go_simp; try with_reducible rfl
      (try simp only [List.getElem_toArray, List.getElem_cons_succ, List.getElem_cons_zero, Act.put, List.setIfInBounds_toArray, List.set_cons_zero, List.set_cons_succ])
      refine wpAnyK_one (i := 14) (by kernel_rfl) rfl (fun K' hK => ?_)
      simp only [List.getElem_toArray, List.getElem_cons_succ, List.getElem_cons_zero]
      go_simp
      have hGc : Gr w15 (w15.alloc (.cells #[.string (S nm), .slice fA nf fc, .string (S ty)] 147 (0, 0))) := Gr.al _ _
      have SX := blk_alloc w15 (.cells #[.string (S nm), .slice fA nf fc, .string (S ty)] 147)
      have B16 := hGc.blk B15
      have C16 := hGc.blk C15
      refine hK.out _ _ ⟨cellAt B16 rfl, (cells5 C16).2.2.1⟩ (fun hS => ?_)
      (try simp only [Act.put, List.setIfInBounds_toArray, List.set_cons_zero, List.set_cons_succ])
      refine wpAnyK_one (i := 15) (by kernel_rfl) rfl (fun K' hK => ?_)
      simp only [List.getElem_toArray, List.getElem_cons_succ, List.getElem_cons_zero]
      have hGbase : w.heap.size ≤ (w15.alloc (.cells #[.string (S nm), .slice fA nf fc, .string (S ty)] 147 (0, 0))).heap.size := (hG15.trans hGc).size
      refine Eq.mpr (if_pos (by rfl)) ?_
      refine wp_append_lies _ _ _ _ (by rfl) w.heap.size 147 i0 _ 3 56 Tryz.underlying54 hi0 hz0 hz1 hz2 (by rfl) (by decide) nilS 0 [] (by rfl) (World.ownsRow_nil _ _ _ _) ⟨w15.heap.size, 0, none⟩ 1 1 [.string (S nm), .slice fA nf fc, .string (S ty)] (by rfl) (by rfl) (World.news_of_block SX) (by simp [Value.oneCell']) (by omega) (by unfold maxLen; omega) (by omega) hGbase (w15.heap.size + 1) (by simp) ?_
      intro g4 cap w17 hown17 hgrow hat hlt17
      have hGd : Gr (w15.alloc (.cells #[.string (S nm), .slice fA nf fc, .string (S ty)] 147 (0, 0))) w17 := (Gr.refl _).grown hgrow (fun k e => by cases e)
      have hG17 := (hG15.trans hGc).trans hGd
      have B17 := hGd.blk B16
      have C17 := hGd.blk C16
      refine hK.out _ _ ⟨cellAt B17 rfl, (cells5 C17).2.2.1⟩ (fun hS => ?_)
      (try simp only [Act.put, List.setIfInBounds_toArray, List.set_cons_zero, List.set_cons_succ])
      have c17 := (cells5 C17).2.2.1
      have f17 := frozenAt C17
      have hlc17 := blkLt C17
      have HC17 := Lib.hid C17
      refine wpAnyK_one (i := 16) (by kernel_rfl) rfl (fun K' hK => ?_)
      simp only [List.getElem_toArray, List.getElem_cons_succ, List.getElem_cons_zero]
      go_simp
      refine hK.out _ _ ⟨cellAt B17 rfl, c17⟩ (fun hS => ?_)
      (try simp only [Act.put, List.setIfInBounds_toArray, List.set_cons_zero, List.set_cons_succ])
      refine wpAnyK_one (i := 17) (by kernel_rfl) rfl (fun K' hK => ?_)
      simp only [List.getElem_toArray, List.getElem_cons_succ, List.getElem_cons_zero]
      go_simp
      refine hK.out _ _ ⟨cellAt B17 rfl, c17⟩ (fun hS => ?_)
      (try simp only [Act.put, List.setIfInBounds_toArray, List.set_cons_zero, List.set_cons_succ])
      refine wpAnyK_one (i := 18) (by kernel_rfl) rfl (fun K' hK => ?_)
      simp only [List.getElem_toArray, List.getElem_cons_succ, List.getElem_cons_zero]
      go_simp
      refine hK.out _ _ ⟨cellAt B17 rfl, c17⟩ (fun hS => ?_)
      (try simp only [Act.put, List.setIfInBounds_toArray, List.set_cons_zero, List.set_cons_succ])
      refine wpAnyK_end (by kernel_rfl) rfl (by kernel_rfl) ?_
      simp only [List.getElem_toArray, List.getElem_cons_succ, List.getElem_cons_zero]
      go_simp
      have HOWN := Lib.hid hown17
      have hG147 : Gr w14 w17 := ((hg15).trans hGc).trans hGd
      have HEND : Hid (Md cb w (w17.setCell ⟨cb, 2, none⟩ (.slice (some ⟨g4, 0, none⟩) (0 + 1) cap)) ∧ ∃ fv, (w17.setCell ⟨cb, 2, none⟩ (.slice (some ⟨g4, 0, none⟩) (0 + 1) cap)).heap[cb]? = some (.cells #[nilS, nilS, fv, nilS, .string (S [])] 118 (0, 0)) ∧
          SigsAt (w17.setCell ⟨cb, 2, none⟩ (.slice (some ⟨g4, 0, none⟩) (0 + 1) cap)) (fun k => w.heap.size ≤ k) fv ([T.mk ⟨4, nm, ty, nn, at_⟩ kj].map sigT)) := by
        refine ⟨(Md.of_gr hG17).setCell (.inr rfl) _, _, blk_setCell_to HC17.out rfl, [.slice fA nf fc], rfl, ?_, ?_⟩
        · obtain ⟨A', c', hv, hcc, hr⟩ := ownRow_row hown17
          refine ⟨A', c', hv, hcc, (hr.frame fun k hk _ => Below.heap_setCell _ _ _ _ ?_).imp fun k _ hk => (hown17.lt k hk.symm).1⟩
          have := (hown17.lt k hk.symm).1
          show k ≠ cb
          omega
        · intro i s u hs hu
          match i, hs, hu with
          | 0, hs, hu =>
            injection hs with hs
            injection hu with hu
            subst hs hu
            exact PairsAt.imp (PairsAt.frame (FldsAt.gr HFL.out hG147) fun k hk _ => Below.heap_setCell _ _ _ _ hk.2) fun k _ hk => hk.1
          | i + 1, hs, hu => cases hs
      clear hK hS B12 C12 B13 C13 B14 C14 B15 C15 B16 C16 B17 C17 SX hown17
      go_wp2_with fail
      go_roundw
      case rel => exact ⟨j + 1, by go_num, .inr ⟨by have := HJ0.out; omega, by omega, HEND.out⟩⟩
      case measure => have := HJ0.out; simp [intOf]; omega
    · have hend : Md cb w wr ∧ ∃ fv, wr.heap[cb]? = some (.cells #[nilS, nilS, fv, nilS, .string (S [])] 118 (0, 0)) ∧ SigsAt wr (fun k => w.heap.size ≤ k) fv (ks.map sigT) := by
        rcases hI.out with ⟨h, h2⟩ | ⟨_, _, h⟩
        · have hk0 : ks = [] := by
            have := HN.out
            exact List.length_eq_zero_iff.1 (by omega)
          subst hk0
          rw [h2]
          exact ⟨.of_gr HG1.out, nilS, HG1.out.blk HCB.out, [], rfl, ⟨none, 0, rfl, Nat.le_refl _, .inl rfl⟩, fun i s u h => by simp at h⟩
        · exact h
      have HEND := Lib.hid hend
      clear hend hI
      go_wp2_with fail
      go_end0
      exact ⟨rfl, HEND.out⟩
end Go.Proofs.YthniejnbkkkbnaaGreatDoor
