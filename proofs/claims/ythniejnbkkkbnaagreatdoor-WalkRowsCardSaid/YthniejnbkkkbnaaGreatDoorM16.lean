/- Walks of layer check: field, binary. Walks of layer check: binary. -/
import Derived.Test.YthniejnbkkkbnaaGreatDoorM15
import Derived.Test.YthniejnbkkkbnaaGreatDoorM08
import Derived.Test.YthniejnbkkkbnaaGreatDoorM09
set_option linter.all false
set_option linter.unusedSimpArgs false
set_option linter.unusedVariables false
namespace Go.Proofs.YthniejnbkkkbnaaGreatDoor
open Go.RowKit
set_option maxRecDepth 100000
set_option maxHeartbeats 2000000

theorem StrucsAt.get {w : World} {X : Nat → Prop} {v : Value} {L : List Struc} (h : StrucsAt w X v L) {j : Nat} {s : Struc} (hs : L[j]? = some s) :
    ∃ g off c fv, v = .slice (some ⟨g, off, none⟩) L.length c ∧ g < w.heap.size ∧ w.cell? ⟨g, off + j * 2, none⟩ = some (.string (S s.name)) ∧ w.cell? ⟨g, off + j * 2 + 1, none⟩ = some fv ∧ FldsAt w X fv s.fields := by
  obtain ⟨vs, hvl, ⟨A, c, hv, hc, hr⟩, hf⟩ := h
  obtain ⟨hj, he⟩ := List.getElem?_eq_some_iff.1 hs
  have hjv : j < vs.length := by omega
  have hjP : j < ((L.zip vs).map strucPair).length := by simp; omega
  obtain ⟨g, off, hA, hg, _, hcl⟩ := hr.open_ (j := j * 2) (by rw [pairCells_length]; omega)
  obtain ⟨t0, t1⟩ := pairCells_get _ j hjP
  have d0 := hcl _ _ t0
  have d1 := hcl _ _ t1
  rw [← Nat.add_assoc] at d1
  simp only [List.getElem_map, List.getElem_zip, strucPair, he] at d0 d1
  have hl : ((L.zip vs).map strucPair).length = L.length := by simp; omega
  rw [hl, hA] at hv
  exact ⟨g, off, c, vs[j], hv, hg, d0, d1, hf j s vs[j] hs (by simp [hjv])⟩
theorem FldsAt.get {w : World} {X : Nat → Prop} {v : Value} {L : List Fld} (h : FldsAt w X v L) {j : Nat} {f : Fld} (hs : L[j]? = some f) :
    ∃ g off c, v = .slice (some ⟨g, off, none⟩) L.length c ∧ L.length ≤ c ∧ g < w.heap.size ∧ w.cell? ⟨g, off + j * 2, none⟩ = some (.string (S f.name)) ∧ w.cell? ⟨g, off + j * 2 + 1, none⟩ = some (.string (S f.typ)) := by
  obtain ⟨A, c, hv, hc, hr⟩ := h
  obtain ⟨hj, he⟩ := List.getElem?_eq_some_iff.1 hs
  obtain ⟨g, off, hA, hg, _, hcl⟩ := hr.open_ (j := j * 2) (by rw [pairCells_length]; simp; omega)
  obtain ⟨t0, t1⟩ := pairCells_get (L.map fldPair) j (by simpa using hj)
  have d0 := hcl _ _ t0
  have d1 := hcl _ _ t1
  rw [← Nat.add_assoc] at d1
  simp only [List.getElem_map, fldPair, he] at d0 d1
  have hl : (L.map fldPair).length = L.length := by simp
  rw [hl] at hc
  rw [hl, hA] at hv
  exact ⟨g, off, c, hv, hc, hg, d0, d1⟩
theorem FldsAt.slice {w : World} {X : Nat → Prop} {v : Value} {L : List Fld} (h : FldsAt w X v L) : ∃ A c, v = .slice A L.length c := by
  obtain ⟨A, c, hv, _⟩ := h
  exact ⟨A, c, by rw [hv]; simp⟩

theorem cfield_any (C : CK) (bl : List Blk) (ms : List Nat) (bv : Value) (b : Nat) (t : T) (base : Str) (w : World) (h : CkAt C bl ms bv w) (ht : TreeAt w C.X b t) (hbad : fieldC C.x t.d base ≠ .bad) (hsl : ∀ s ∈ C.x.structs, s.fields.length < 1000000) :
    Calls Tryz.prog 215 #[ptrV C.cb, nodeV b, .string (S base)] w (EPost w (fieldC C.x t.d base)) := by
  have HC := Lib.hid h
  have HNM := Lib.hid (fun w' (hg : Gr w w') => Name_any (nodeV b) (some t) C.X w' ⟨b, rfl, ht.gr hg⟩)
  have HMN := Lib.hid (fun er w' (hg : Gr w w') => must_no b t C.X er w' (ht.gr hg))
  have HMY := Lib.hid (fun er w' => must_yes (nodeV b) ⟨_, rfl⟩ er w')
  have HFI := Lib.hid (fun x w' (hg : Gr w w') => find_any C.x.structs C.sv _ x w' (h.st.gr hg) h.ls)
  have hst := h.st
  have hlen : base.length < 1000000 := by
    apply Decidable.byContradiction
    intro hn
    exact hbad (by unfold fieldC shortC; rw [if_neg hn])
  have HEL := Lib.hid (elem_any base hlen)
  obtain ⟨⟨op, name, typ, n, at_⟩, hd⟩ : ∃ d, t.d = d := ⟨_, rfl⟩
  have e1 : (dO (some t)).name = name := by show t.d.name = name; rw [hd]
  have hV : fieldC C.x t.d base = match elemP base with
      | none => .err at_ 7
      | some n => match C.x.structs[(max (findS C.x.structs n) 0).toNat]? with
        | none => .bad
        | some s => if findF s.fields name < 0 then .err at_ 5 else match s.fields[(findF s.fields name).toNat]? with | some f => .ok f.typ | none => .bad := by
    unfold fieldC shortC
    rw [if_pos hlen, hd]
    rfl
  obtain ⟨R, hR⟩ : ∃ R, fieldC C.x t.d base = R := ⟨_, rfl⟩
  have hRV := hR.symm.trans hV
  rw [hR] at hbad ⊢
  rw [e1] at HNM
  rw [hd] at HMN
  simp only [] at HMN
  obtain ⟨o, ho⟩ : ∃ o, elemP base = o := ⟨_, rfl⟩
  rw [ho] at HEL hRV
  clear h ht e1 hd ho hV hR hlen
  cases o with
  | none =>
    simp only [Option.getD, Option.isSome] at HEL hRV
    have HR := Lib.hid hRV
    clear hRV hbad hst
    go_enter Tryz.func215, Tryz.ntmps215
    go_wp2_with fail
    refine (HEL.out _).mono ?_
    rintro e w1 ⟨rfl, hg1⟩
    have B1 := hg1.blk (blk_alloc _ _)
    have b1 := cellAt B1 (i := 0) rfl
    have hG1 : Gr w w1 := (Gr.al _ _).trans hg1
    go_wp2_with fail
    refine (HMN.out 7 _ hG1).mono ?_
    rintro e w2 ⟨rfl, hg2⟩
    refine ⟨rfl, ?_⟩
    rw [HR.out]
    exact ⟨hG1.trans hg2, rfl⟩
  | some sn =>
    simp only [Option.getD, Option.isSome] at HEL hRV
    have HFN := Lib.hid (HFI.out sn)
    unfold placeV at HFN
    obtain ⟨a, ha⟩ : ∃ a, findS C.x.structs sn = a := ⟨_, rfl⟩
    rw [ha] at HFN hRV
    obtain ⟨j, hj⟩ : ∃ j : Nat, max a 0 = (j : Int) := ⟨(max a 0).toNat, by omega⟩
    rw [hj] at HFN hRV
    rw [show ((j : Int)).toNat = j by omega] at hRV
    cases hs : C.x.structs[j]? with
    | none => rw [hs] at hRV; exact absurd hRV hbad
    | some s =>
      rw [hs] at hRV
      simp only [] at hRV
      have hjl : j < C.x.structs.length := (List.getElem?_eq_some_iff.1 hs).1
      have hsfl := hsl s (List.mem_of_getElem? hs)
      obtain ⟨gs, offs, cs, fv, hsv, hgs, s0, s1, hfl⟩ := hst.get hs
      have HPL := Lib.hid (fun w' (hg : Gr w w') => place_any s.name s.fields fv _ name w' (hfl.gr hg) hsfl)
      obtain ⟨i, hi⟩ : ∃ i, findF s.fields name = i := ⟨_, rfl⟩
      have hilo := (idxFn_lt (fun s : Fld => s.name == name) s.fields)
      rw [show idxFn (fun s : Fld => s.name == name) s.fields = i from hi] at hilo
      obtain ⟨hilo, hihi⟩ := hilo
      rw [hi] at HPL hRV
      unfold placeV at HPL
      obtain ⟨sname, hsname⟩ : ∃ x, s.name = x := ⟨_, rfl⟩
      obtain ⟨nst, hnst⟩ : ∃ n, n = C.x.structs.length := ⟨_, rfl⟩
      rw [hsname] at s0 HPL
      rw [← hnst] at hsv hjl
      have HS0 := Lib.hid (fun w' (hg : Gr w w') => (hg.cells.1 gs (offs + j * 2) hgs).trans s0)
      have HS1 := Lib.hid (fun w' (hg : Gr w w') => (hg.cells.1 gs (offs + j * 2 + 1) hgs).trans s1)
      have HSV := Lib.hid hsv
      have HR := Lib.hid hRV
      clear hRV ha hj hi hsname hnst s0 s1 hsv hst HFI
      go_enter Tryz.func215, Tryz.ntmps215
      go_wp2_with fail
      refine (HEL.out _).mono ?_
      rintro e w1 ⟨rfl, hg1⟩
      have B1 := hg1.blk (blk_alloc _ _)
      have b1 := cellAt B1 (i := 0) rfl
      have hG1 : Gr w w1 := (Gr.al _ _).trans hg1
      go_wp2_with fail
      refine (HMY.out 7 _).mono ?_
      rintro e w2 ⟨rfl, hg2⟩
      have B2 := hg2.blk B1
      have hG2 := hG1.trans hg2
      obtain ⟨c0, c1, c2, c3, c4⟩ := (HC.out.gr hG2).cells
      have hl2 := (HC.out.gr hG2).lt
      clear b1 B1 hg1 hG1 hg2
      go_wp2_with fail
      refine (HFN.out _ hG2).mono ?_
      rintro e w3 ⟨rfl, hg3⟩
      have B3 := hg3.blk B2
      have hG3 := hG2.trans hg3
      have b3 := cellAt B3 (i := 0) rfl
      obtain ⟨d0, d1, d2, d3, d4⟩ := (HC.out.gr hG3).cells
      have hl3 := (HC.out.gr hG3).lt
      rw [HSV.out] at d0
      have s0 := HS0.out w3 hG3
      have s1 := HS1.out w3 hG3
      have HB3 := Lib.hid B3
      clear c0 c1 c2 c3 c4 hl2 B2 hg3 B3
      go_wp2_with fail
      refine wp_region_held_drew (S := fun w' => w'.cell? ⟨w.heap.size, 0, none⟩ = some (ptrV b) ∧ w'.cell? ⟨C.cb, 0, none⟩ = some (.slice (some ⟨gs, offs, none⟩) nst cs) ∧ w'.cell? ⟨gs, offs + j * 2, none⟩ = some (.string (S sname)) ∧ w'.cell? ⟨gs, offs + j * 2 + 1, none⟩ = some fv) rfl ⟨b3, d0, s0, s1⟩ (fun hS => ?_)
      refine wpAnyH_take (i := 0) (v := ?_) rfl (by kernel_rfl) (by kernel_rfl) (by kernel_rfl) (fun _ _ _ h => h) (Or.inl ⟨by rfl, ?_⟩) hS ?_
      rotate_left
      · intro w' hSw; (try dsimp only at hSw); go_simp; try with_reducible rfl
      (try simp only [Act.put, List.setIfInBounds_toArray, List.set_cons_zero, List.set_cons_succ])
      refine wpAnyH_take (i := 1) (v := ?_) rfl (by kernel_rfl) (by kernel_rfl) (by kernel_rfl) (fun _ _ _ h => h) (Or.inl ⟨by rfl, ?_⟩) hS ?_
      rotate_left
      · intro w' hSw; (try dsimp only at hSw); go_simp; try with_reducible rfl
      (try simp only [Act.put, List.setIfInBounds_toArray, List.set_cons_zero, List.set_cons_succ])
      refine wpAnyH_take (i := 2) (v := ?_) rfl (by kernel_rfl) (by kernel_rfl) (by kernel_rfl) (fun _ _ _ h => h) (Or.inl ⟨by rfl, ?_⟩) hS ?_
      rotate_left
      · intro w' hSw; (try dsimp only at hSw); go_simp; try with_reducible rfl
      (try simp only [Act.put, List.setIfInBounds_toArray, List.set_cons_zero, List.set_cons_succ])
      refine wpAnyH_take (i := 3) (v := ?_) rfl (by kernel_rfl) (by kernel_rfl) (by kernel_rfl) (fun _ _ _ h => h) (Or.inl ⟨by rfl, ?_⟩) hS ?_
      rotate_left
      · intro w' hSw; (try dsimp only at hSw); go_simp; try with_reducible rfl
      (try simp only [Act.put, List.setIfInBounds_toArray, List.set_cons_zero, List.set_cons_succ])
      refine wpAnyH_take (i := 4) (v := ?_) rfl (by kernel_rfl) (by kernel_rfl) (by kernel_rfl) (fun _ _ _ h => h) (Or.inl ⟨by rfl, ?_⟩) hS ?_
      rotate_left
      · intro w' hSw; (try dsimp only at hSw); go_simp; try with_reducible rfl
      (try simp only [Act.put, List.setIfInBounds_toArray, List.set_cons_zero, List.set_cons_succ])
      refine wpAnyH_take (i := 5) (v := ?_) rfl (by kernel_rfl) (by kernel_rfl) (by kernel_rfl) (fun _ _ _ h => h) (Or.inl ⟨by rfl, ?_⟩) hS ?_
      rotate_left
      · intro w' hSw; (try dsimp only at hSw); go_simp; try with_reducible rfl
      (try simp only [Act.put, List.setIfInBounds_toArray, List.set_cons_zero, List.set_cons_succ])
      refine wpAnyH_take (i := 6) (v := ?_) rfl (by kernel_rfl) (by kernel_rfl) (by kernel_rfl) (fun _ _ _ h => h) (Or.inl ⟨by rfl, ?_⟩) hS ?_
      rotate_left
      · intro w' hSw; (try dsimp only at hSw); go_simp; try with_reducible rfl
      (try simp only [Act.put, List.setIfInBounds_toArray, List.set_cons_zero, List.set_cons_succ])
      refine wpAnyH_take (i := 7) (v := ?_) rfl (by kernel_rfl) (by kernel_rfl) (by kernel_rfl) (fun _ _ _ h => h) (Or.inl ⟨by rfl, ?_⟩) hS ?_
      rotate_left
      · intro w' hSw; (try dsimp only at hSw); go_simp; try with_reducible rfl
      (try simp only [Act.put, List.setIfInBounds_toArray, List.set_cons_zero, List.set_cons_succ])
      refine wpAnyH_take (i := 8) (v := ?_) rfl (by kernel_rfl) (by kernel_rfl) (by kernel_rfl) (fun _ _ _ h => h) (Or.inl ⟨by rfl, ?_⟩) hS ?_
      rotate_left
      · intro w' hSw; (try dsimp only at hSw); go_simp; try with_reducible rfl
      (try simp only [Act.put, List.setIfInBounds_toArray, List.set_cons_zero, List.set_cons_succ])
      refine wpAnyH_ready (rs := [9]) (by kernel_rfl) (by simp) ?_
      refine AllReadyH.cons rfl (fun K' hK => ?_) AllReadyH.nil
      simp only [List.getElem_toArray, List.getElem_cons_succ, List.getElem_cons_zero]
      go_simp
      refine (HNM.out _ hG3.drew).mono ?_
      rintro e w4 ⟨rfl, hg4⟩
      have B4 := hg4.blk HB3.out
      have hG4 : Gr w w4 := hG3.drew.trans hg4
      refine hK.out _ _ ⟨cellAt B4 rfl, by rw [← HSV.out]; exact (HC.out.gr hG4).cells.1, HS0.out _ hG4, HS1.out _ hG4⟩ (fun hS => ?_)
      (try simp only [Act.put, List.setIfInBounds_toArray, List.set_cons_zero, List.set_cons_succ])
      refine wpAnyH_ready (rs := [10]) (by kernel_rfl) (by simp) ?_
      refine AllReadyH.cons rfl (fun K' hK => ?_) AllReadyH.nil
      simp only [List.getElem_toArray, List.getElem_cons_succ, List.getElem_cons_zero]
      go_simp
      refine (HPL.out _ hG4).mono ?_
      rintro e w5 ⟨rfl, hg5⟩
      have B5 := hg5.blk B4
      have hG5 : Gr w w5 := hG4.trans hg5
      refine hK.out _ _ ⟨cellAt B5 rfl, by rw [← HSV.out]; exact (HC.out.gr hG5).cells.1, HS0.out _ hG5, HS1.out _ hG5⟩ (fun hS => ?_)
      (try simp only [Act.put, List.setIfInBounds_toArray, List.set_cons_zero, List.set_cons_succ])
      refine wpAnyH_take (i := 11) (v := ?_) rfl (by kernel_rfl) (by kernel_rfl) (by kernel_rfl) (fun _ _ _ h => h) (Or.inl ⟨by rfl, ?_⟩) hS ?_
      rotate_left
      · intro w' hSw; (try dsimp only at hSw); go_simp; try with_reducible rfl
      (try simp only [Act.put, List.setIfInBounds_toArray, List.set_cons_zero, List.set_cons_succ])
      refine wpAnyH_take (i := 12) (v := ?_) rfl (by kernel_rfl) (by kernel_rfl) (by kernel_rfl) (fun _ _ _ h => h) (Or.inl ⟨by rfl, ?_⟩) hS ?_
      rotate_left
      · intro w' hSw; (try dsimp only at hSw); go_simp; try with_reducible rfl
      (try simp only [Act.put, List.setIfInBounds_toArray, List.set_cons_zero, List.set_cons_succ])
      refine wpAnyH_take (i := 13) (v := ?_) rfl (by kernel_rfl) (by kernel_rfl) (by kernel_rfl) (fun _ _ _ h => h) (Or.inl ⟨by rfl, ?_⟩) hS ?_
      rotate_left
      · intro w' hSw; (try dsimp only at hSw); go_simp; try with_reducible rfl
      (try simp only [Act.put, List.setIfInBounds_toArray, List.set_cons_zero, List.set_cons_succ])
      refine wpAnyH_take (i := 14) (v := ?_) rfl (by kernel_rfl) (by kernel_rfl) (by kernel_rfl) (fun _ _ _ h => h) (Or.inl ⟨by rfl, ?_⟩) hS ?_
      rotate_left
      · intro w' hSw; (try dsimp only at hSw); go_simp; try with_reducible rfl
      (try simp only [Act.put, List.setIfInBounds_toArray, List.set_cons_zero, List.set_cons_succ])
      refine wpAnyH_take (i := 15) (v := ?_) rfl (by kernel_rfl) (by kernel_rfl) (by kernel_rfl) (fun _ _ _ h => h) (Or.inl ⟨by rfl, ?_⟩) hS ?_
      rotate_left
      · intro w' hSw; (try dsimp only at hSw); go_simp; try with_reducible rfl
      (try simp only [Act.put, List.setIfInBounds_toArray, List.set_cons_zero, List.set_cons_succ])
      refine wpAnyH_done (by kernel_rfl) ?_ _
      have b5 := cellAt B5 (i := 0) rfl
      have hl5 := blkLt B5
      clear hK B4 hg4 hG4 HB3 b3 d0 d1 d2 d3 d4 s0 s1 hg5 hl3
      by_cases hi : i < 0
      · have hq : decide (0 ≤ i) = false := by simpa using hi
        rw [hq]
        have HI := Lib.hid hi
        clear hq
        go_wp2_with fail
        refine (HMN.out 5 _ hG5).mono ?_
        rintro e w6 ⟨rfl, hg6⟩
        refine ⟨rfl, ?_⟩
        rw [HR.out, if_pos HI.out]
        exact ⟨hG5.trans hg6, rfl⟩
      · obtain ⟨k, rfl⟩ := Int.eq_ofNat_of_zero_le (by omega : 0 ≤ i)
        have hq : decide (0 ≤ (k : Int)) = true := by simp
        have hmx : max (k : Int) 0 = k := by omega
        have hkf : k < s.fields.length := by omega
        rw [hq, hmx]
        obtain ⟨gf, off, cf2, hfv2, hcf2, hgf, _, f1⟩ := hfl.get (j := k) (f := s.fields[k]) (by simp [hkf])
        obtain ⟨ft, hft⟩ : ∃ x, (s.fields[k]).typ = x := ⟨_, rfl⟩
        rw [hft] at f1
        obtain ⟨nf, hnf⟩ : ∃ n, n = s.fields.length := ⟨_, rfl⟩
        rw [← hnf] at hfv2 hkf hcf2
        have HRJ : Hid (R = .ok ft) := by
          show R = .ok ft
          rw [HR.out, if_neg hi]
          have : s.fields[((k : Int)).toNat]? = some s.fields[k] := by simp [hnf ▸ hkf]
          rw [this]
          simp only [hft]
        have HF1 := Lib.hid (fun w' (hg : Gr w w') => (hg.cells.1 gf (off + k * 2 + 1) hgf).trans f1)
        have HFV := Lib.hid hfv2
        clear hfl hfv2 f1 hft hnf hq hmx hi hbad
        go_wp2_with fail
        refine (HMY.out 5 _).mono ?_
        rintro e w6 ⟨rfl, hg6⟩
        have hG6 := hG5.trans hg6
        have f6 := HF1.out w6 hG6
        have z0 := (HC.out.gr hG6).cells.1
        have hl6 := (HC.out.gr hG6).lt
        rw [HSV.out] at z0
        have z1 := HS1.out w6 hG6
        rw [HFV.out] at z1
        go_wp2_with fail
        go_ret
        rw [HRJ.out]
        exact ⟨hG6, rfl⟩
end Go.Proofs.YthniejnbkkkbnaaGreatDoor

namespace Go.Proofs.YthniejnbkkkbnaaGreatDoor
open Go.RowKit
set_option maxRecDepth 100000
set_option maxHeartbeats 2000000

theorem cbinary_any (C : CK) (bl : List Blk) (ms : List Nat) (bv : Value) (b : Nat) (t : T) (x y : Str) (w : World) (h : CkAt C bl ms bv w) (ht : TreeAt w C.X b t) (hbad : binaryC t.d x y ≠ .bad) :
    Calls Tryz.prog 219 #[ptrV C.cb, nodeV b, .string (S x), .string (S y)] w (EPost w (binaryC t.d x y)) := by
  have HOP := Lib.hid (fun w' (hg : Gr w w') => Op_any (nodeV b) (some t) C.X w' ⟨b, rfl, ht.gr hg⟩)
  have HNU := Lib.hid (fun w' (hg : Gr w w') => Num_any (nodeV b) (some t) C.X w' ⟨b, rfl, ht.gr hg⟩)
  have HMN := Lib.hid (fun er w' (hg : Gr w w') => must_no b t C.X er w' (ht.gr hg))
  have HMY := Lib.hid (fun er w' => must_yes (nodeV b) ⟨_, rfl⟩ er w')
  obtain ⟨⟨op, name, typ, n, at_⟩, hd⟩ : ∃ d, t.d = d := ⟨_, rfl⟩
  have e1 : (dO (some t)).op = op := by show t.d.op = op; rw [hd]
  have e2 : (dO (some t)).n = n := by show t.d.n = n; rw [hd]
  have hV : binaryC t.d x y = if op ≠ 24 then (if x = xBool ∧ y = xBool then .ok xBool else .err at_ 7)
    else if n = 11 ∨ n = 12 then shortC x (shortC y (if isEqualP x y then .ok xBool else .err at_ 7))
    else if x = xInt ∧ y = xInt then (if numLevel n = 3 then .ok xBool else .ok xInt) else .err at_ 7 := by rw [hd]; rfl
  obtain ⟨R, hR⟩ : ∃ R, binaryC t.d x y = R := ⟨_, rfl⟩
  have hRV := hR.symm.trans hV
  rw [hR] at hbad ⊢
  rw [e1] at HOP
  rw [e2] at HNU
  rw [hd] at HMN
  simp only [] at HMN
  have hxb : ((S x).toList == [(98 : UInt8), 111, 111, 108]) = (x == xBool) := eqL x _
  have hyb : ((S y).toList == [(98 : UInt8), 111, 111, 108]) = (y == xBool) := eqL y _
  have hxi : ((S x).toList == [(105 : UInt8), 110, 116]) = (x == xInt) := eqL x _
  have hyi : ((S y).toList == [(105 : UInt8), 110, 116]) = (y == xInt) := eqL y _
  clear h ht e1 e2 hd hV hR
  by_cases hop : op = 24
  · subst hop
    rw [if_neg (by simp)] at hRV
    by_cases hn : n = 11 ∨ n = 12
    · rw [if_pos hn] at hRV
      have hlx : x.length < 1000000 := by
        apply Decidable.byContradiction
        intro hc
        exact hbad (by rw [hRV]; unfold shortC; rw [if_neg hc])
      have hly : y.length < 1000000 := by
        apply Decidable.byContradiction
        intro hc
        exact hbad (by rw [hRV]; unfold shortC; rw [if_pos hlx, if_neg hc])
      unfold shortC at hRV
      rw [if_pos hlx, if_pos hly] at hRV
      have HEQ := Lib.hid (isEqual_any x y hlx hly)
      obtain ⟨q, hq⟩ : ∃ q, isEqualP x y = q := ⟨_, rfl⟩
      rw [hq] at HEQ hRV
      have HR := Lib.hid hRV
      clear hRV hq hlx hly hxb hyb hxi hyi hbad
      by_cases h11 : n = 11
      · subst h11
        clear hn
        go_enter Tryz.func219, Tryz.ntmps219
        go_wp2_with fail
        refine (HOP.out _ (Gr.al _ _)).mono ?_
        rintro e w1 ⟨rfl, hg1⟩
        have B1 := hg1.blk (blk_alloc _ _)
        have b1 := cellAt B1 (i := 0) rfl
        have hG1 : Gr w w1 := (Gr.al _ _).trans hg1
        go_wp2_with fail
        refine (HNU.out _ hG1).mono ?_
        rintro e w2 ⟨rfl, hg2⟩
        have B2 := hg2.blk B1
        have b2 := cellAt B2 (i := 0) rfl
        have hG2 := hG1.trans hg2
        clear B1 b1 hg1 hG1 hg2
        go_wp2_with fail
        refine wp_region_held_drew (S := fun w' => w'.cell? ⟨w.heap.size, 0, none⟩ = some (ptrV b)) rfl b2 (fun hS => ?_)
        refine wpAnyH_take (i := 0) (v := ?_) rfl (by kernel_rfl) (by kernel_rfl) (by kernel_rfl) (fun _ _ _ h => h) (Or.inl ⟨by rfl, ?_⟩) hS ?_
        rotate_left
        · intro w' hSw; (try dsimp only at hSw); go_simp; try with_reducible rfl
        (try simp only [Act.put, List.setIfInBounds_toArray, List.set_cons_zero, List.set_cons_succ])
        refine wpAnyH_take (i := 1) (v := ?_) rfl (by kernel_rfl) (by kernel_rfl) (by kernel_rfl) (fun _ _ _ h => h) (Or.inl ⟨by rfl, ?_⟩) hS ?_
        rotate_left
        · intro w' hSw; (try dsimp only at hSw); go_simp; try with_reducible rfl
        (try simp only [Act.put, List.setIfInBounds_toArray, List.set_cons_zero, List.set_cons_succ])
        refine wpAnyH_take (i := 3) (v := ?_) rfl (by kernel_rfl) (by kernel_rfl) (by kernel_rfl) (fun _ _ _ h => h) (Or.inl ⟨by rfl, ?_⟩) hS ?_
        rotate_left
        · intro w' hSw; (try dsimp only at hSw); go_simp; try with_reducible rfl
        (try simp only [Act.put, List.setIfInBounds_toArray, List.set_cons_zero, List.set_cons_succ])
        refine wpAnyH_ready (rs := [2]) (by kernel_rfl) (by simp) ?_
        refine AllReadyH.cons rfl (fun K' hK => ?_) AllReadyH.nil
        simp only [List.getElem_toArray, List.getElem_cons_succ, List.getElem_cons_zero]
        go_simp
        refine (HEQ.out _).mono ?_
        rintro e w3 ⟨rfl, hg3⟩
        have hG3 : Gr w w3 := hG2.drew.trans hg3
        refine hK.out _ _ (cellAt (hg3.blk B2) rfl) (fun hS => ?_)
        (try simp only [Act.put, List.setIfInBounds_toArray, List.set_cons_zero, List.set_cons_succ])
        refine wpAnyH_ready (rs := [4]) (by kernel_rfl) (by simp) ?_
        refine AllReadyH.cons rfl (fun K' hK => ?_) AllReadyH.nil
        simp only [List.getElem_toArray, List.getElem_cons_succ, List.getElem_cons_zero]
        go_simp
        cases q
        · refine (HMN.out 7 _ hG3).mono ?_
          rintro e w4 ⟨rfl, hg4⟩
          refine ⟨rfl, ?_⟩
          rw [HR.out]
          exact ⟨hG3.trans hg4, rfl⟩
        · refine (HMY.out 7 _).mono ?_
          rintro e w4 ⟨rfl, hg4⟩
          refine hK.out _ _ (cellAt (hg4.blk (hg3.blk B2)) rfl) (fun hS => ?_)
          (try simp only [Act.put, List.setIfInBounds_toArray, List.set_cons_zero, List.set_cons_succ])
          refine wpAnyH_done (by kernel_rfl) ?_ _
          have hG4 := hG3.trans hg4
          clear hK hg3 hg4 B2 b2
          go_wp2_with fail
          go_ret
          rw [HR.out]
          exact ⟨hG4, rfl⟩
      · obtain rfl : n = 12 := by omega
        have hb11 : ((12 : Int) == 11) = false := by decide
        clear hn h11
        go_enter Tryz.func219, Tryz.ntmps219
        go_wp2_with fail
        refine (HOP.out _ (Gr.al _ _)).mono ?_
        rintro e w1 ⟨rfl, hg1⟩
        have B1 := hg1.blk (blk_alloc _ _)
        have b1 := cellAt B1 (i := 0) rfl
        have hG1 : Gr w w1 := (Gr.al _ _).trans hg1
        go_wp2_with fail
        refine (HNU.out _ hG1).mono ?_
        rintro e w2 ⟨rfl, hg2⟩
        have B2 := hg2.blk B1
        have b2 := cellAt B2 (i := 0) rfl
        have hG2 := hG1.trans hg2
        clear B1 b1 hg1 hG1 hg2
        go_wp2_with fail
        refine (HNU.out _ hG2).mono ?_
        rintro e w2 ⟨rfl, hg2⟩
        have B2 := hg2.blk B2
        have b2 := cellAt B2 (i := 0) rfl
        have hG2 := hG2.trans hg2
        clear hg2
        go_wp2_with fail
        refine wp_region_held_drew (S := fun w' => w'.cell? ⟨w.heap.size, 0, none⟩ = some (ptrV b)) rfl b2 (fun hS => ?_)
        refine wpAnyH_take (i := 0) (v := ?_) rfl (by kernel_rfl) (by kernel_rfl) (by kernel_rfl) (fun _ _ _ h => h) (Or.inl ⟨by rfl, ?_⟩) hS ?_
        rotate_left
        · intro w' hSw; (try dsimp only at hSw); go_simp; try with_reducible rfl
        (try simp only [Act.put, List.setIfInBounds_toArray, List.set_cons_zero, List.set_cons_succ])
        refine wpAnyH_take (i := 1) (v := ?_) rfl (by kernel_rfl) (by kernel_rfl) (by kernel_rfl) (fun _ _ _ h => h) (Or.inl ⟨by rfl, ?_⟩) hS ?_
        rotate_left
        · intro w' hSw; (try dsimp only at hSw); go_simp; try with_reducible rfl
        (try simp only [Act.put, List.setIfInBounds_toArray, List.set_cons_zero, List.set_cons_succ])
        refine wpAnyH_take (i := 3) (v := ?_) rfl (by kernel_rfl) (by kernel_rfl) (by kernel_rfl) (fun _ _ _ h => h) (Or.inl ⟨by rfl, ?_⟩) hS ?_
        rotate_left
        · intro w' hSw; (try dsimp only at hSw); go_simp; try with_reducible rfl
        (try simp only [Act.put, List.setIfInBounds_toArray, List.set_cons_zero, List.set_cons_succ])
        refine wpAnyH_ready (rs := [2]) (by kernel_rfl) (by simp) ?_
        refine AllReadyH.cons rfl (fun K' hK => ?_) AllReadyH.nil
        simp only [List.getElem_toArray, List.getElem_cons_succ, List.getElem_cons_zero]
        go_simp
        refine (HEQ.out _).mono ?_
        rintro e w3 ⟨rfl, hg3⟩
        have hG3 : Gr w w3 := hG2.drew.trans hg3
        refine hK.out _ _ (cellAt (hg3.blk B2) rfl) (fun hS => ?_)
        (try simp only [Act.put, List.setIfInBounds_toArray, List.set_cons_zero, List.set_cons_succ])
        refine wpAnyH_ready (rs := [4]) (by kernel_rfl) (by simp) ?_
        refine AllReadyH.cons rfl (fun K' hK => ?_) AllReadyH.nil
        simp only [List.getElem_toArray, List.getElem_cons_succ, List.getElem_cons_zero]
        go_simp
        cases q
        · refine (HMN.out 7 _ hG3).mono ?_
          rintro e w4 ⟨rfl, hg4⟩
          refine ⟨rfl, ?_⟩
          rw [HR.out]
          exact ⟨hG3.trans hg4, rfl⟩
        · refine (HMY.out 7 _).mono ?_
          rintro e w4 ⟨rfl, hg4⟩
          refine hK.out _ _ (cellAt (hg4.blk (hg3.blk B2)) rfl) (fun hS => ?_)
          (try simp only [Act.put, List.setIfInBounds_toArray, List.set_cons_zero, List.set_cons_succ])
          refine wpAnyH_done (by kernel_rfl) ?_ _
          have hG4 := hG3.trans hg4
          clear hK hg3 hg4 B2 b2
          go_wp2_with fail
          go_ret
          rw [HR.out]
          exact ⟨hG4, rfl⟩
    · rw [if_neg hn] at hRV
      have hb11 : (n == 11) = false := by simp; omega
      have hb12 : (n == 12) = false := by simp; omega
      have HLV := Lib.hid (numLevel_any n)
      have HL13 := Lib.hid (numLevel_any 13)
      rw [show numLevel 13 = 3 from by decide] at HL13
      obtain ⟨lv, hlv⟩ : ∃ lv, numLevel n = lv := ⟨_, rfl⟩
      rw [hlv] at HLV hRV
      have hx : (x = xInt) = ((x == xInt) = true) := by simp
      have hy : (y = xInt) = ((y == xInt) = true) := by simp
      simp only [hx, hy] at hRV
      generalize (x == xInt) = p at *
      generalize (y == xInt) = q at *
      have HR := Lib.hid hRV
      clear hRV hlv hx hy hn hxb hyb hbad
      cases p
      · go_enter Tryz.func219, Tryz.ntmps219
        go_wp2_with fail
        refine (HOP.out _ (Gr.al _ _)).mono ?_
        rintro e w1 ⟨rfl, hg1⟩
        have B1 := hg1.blk (blk_alloc _ _)
        have b1 := cellAt B1 (i := 0) rfl
        have hG1 : Gr w w1 := (Gr.al _ _).trans hg1
        go_wp2_with fail
        refine (HNU.out _ hG1).mono ?_
        rintro e w2 ⟨rfl, hg2⟩
        have B2 := hg2.blk B1
        have b2 := cellAt B2 (i := 0) rfl
        have hG2 := hG1.trans hg2
        clear B1 b1 hg1 hG1 hg2
        go_wp2_with fail
        refine (HNU.out _ hG2).mono ?_
        rintro e w3 ⟨rfl, hg3⟩
        have B3 := hg3.blk B2
        have b3 := cellAt B3 (i := 0) rfl
        have hG3 := hG2.trans hg3
        clear B2 b2 hg3 hG2
        go_wp2_with fail
        refine (HMN.out 7 _ hG3).mono ?_
        rintro e w4 ⟨rfl, hg4⟩
        refine ⟨rfl, ?_⟩
        rw [HR.out]
        exact ⟨hG3.trans hg4, rfl⟩
      · cases q
        · go_enter Tryz.func219, Tryz.ntmps219
          go_wp2_with fail
          refine (HOP.out _ (Gr.al _ _)).mono ?_
          rintro e w1 ⟨rfl, hg1⟩
          have B1 := hg1.blk (blk_alloc _ _)
          have b1 := cellAt B1 (i := 0) rfl
          have hG1 : Gr w w1 := (Gr.al _ _).trans hg1
          go_wp2_with fail
          refine (HNU.out _ hG1).mono ?_
          rintro e w2 ⟨rfl, hg2⟩
          have B2 := hg2.blk B1
          have b2 := cellAt B2 (i := 0) rfl
          have hG2 := hG1.trans hg2
          clear B1 b1 hg1 hG1 hg2
          go_wp2_with fail
          refine (HNU.out _ hG2).mono ?_
          rintro e w3 ⟨rfl, hg3⟩
          have B3 := hg3.blk B2
          have b3 := cellAt B3 (i := 0) rfl
          have hG3 := hG2.trans hg3
          clear B2 b2 hg3 hG2
          go_wp2_with fail
          refine (HMN.out 7 _ hG3).mono ?_
          rintro e w4 ⟨rfl, hg4⟩
          refine ⟨rfl, ?_⟩
          rw [HR.out]
          exact ⟨hG3.trans hg4, rfl⟩
        · go_enter Tryz.func219, Tryz.ntmps219
          go_wp2_with fail
          refine (HOP.out _ (Gr.al _ _)).mono ?_
          rintro e w1 ⟨rfl, hg1⟩
          have B1 := hg1.blk (blk_alloc _ _)
          have b1 := cellAt B1 (i := 0) rfl
          have hG1 : Gr w w1 := (Gr.al _ _).trans hg1
          go_wp2_with fail
          refine (HNU.out _ hG1).mono ?_
          rintro e w2 ⟨rfl, hg2⟩
          have B2 := hg2.blk B1
          have b2 := cellAt B2 (i := 0) rfl
          have hG2 := hG1.trans hg2
          clear B1 b1 hg1 hG1 hg2
          go_wp2_with fail
          refine (HNU.out _ hG2).mono ?_
          rintro e w3 ⟨rfl, hg3⟩
          have B3 := hg3.blk B2
          have b3 := cellAt B3 (i := 0) rfl
          have hG3 := hG2.trans hg3
          clear B2 b2 hg3 hG2
          go_wp2_with fail
          refine (HMY.out 7 _).mono ?_
          rintro e w4 ⟨rfl, hg4⟩
          have hG4 := hG3.trans hg4
          have b4 := cellAt (hg4.blk B3) (i := 0) rfl
          clear B3 b3 hG3 hg4
          go_wp2_with fail
          refine (HNU.out _ hG4).mono ?_
          rintro e w5 ⟨rfl, hg5⟩
          have hG5 := hG4.trans hg5
          go_wp2_with fail
          refine (HLV.out _).mono ?_
          rintro e w6 ⟨rfl, rfl⟩
          go_wp2_with fail
          refine (HL13.out _).mono ?_
          rintro e w6 ⟨rfl, rfl⟩
          by_cases h3 : lv = 3
          · subst h3
            go_wp2_with fail
            go_ret
            rw [HR.out]
            exact ⟨hG5, rfl⟩
          · have h3b : (lv == 3) = false := by simp [h3]
            have H3 := Lib.hid h3
            clear h3
            go_wp2_with fail
            go_ret
            rw [HR.out]
            simp only [true_and, if_true, if_neg H3.out]
            exact ⟨hG5, rfl⟩
  · rw [if_pos hop] at hRV
    have hopb : (op != 24) = true := by simp [hop]
    have hx : (x = xBool) = ((x == xBool) = true) := by simp
    have hy : (y = xBool) = ((y == xBool) = true) := by simp
    simp only [hx, hy] at hRV
    generalize (x == xBool) = p at *
    generalize (y == xBool) = q at *
    have HR := Lib.hid hRV
    clear hRV hx hy hop hxi hyi hbad
    cases p
    · go_enter Tryz.func219, Tryz.ntmps219
      go_wp2_with fail
      refine (HOP.out _ (Gr.al _ _)).mono ?_
      rintro e w1 ⟨rfl, hg1⟩
      have B1 := hg1.blk (blk_alloc _ _)
      have b1 := cellAt B1 (i := 0) rfl
      have hG1 : Gr w w1 := (Gr.al _ _).trans hg1
      go_wp2_with fail
      refine (HMN.out 7 _ hG1).mono ?_
      rintro e w4 ⟨rfl, hg4⟩
      refine ⟨rfl, ?_⟩
      rw [HR.out]
      exact ⟨hG1.trans hg4, rfl⟩
    · cases q
      · go_enter Tryz.func219, Tryz.ntmps219
        go_wp2_with fail
        refine (HOP.out _ (Gr.al _ _)).mono ?_
        rintro e w1 ⟨rfl, hg1⟩
        have B1 := hg1.blk (blk_alloc _ _)
        have b1 := cellAt B1 (i := 0) rfl
        have hG1 : Gr w w1 := (Gr.al _ _).trans hg1
        go_wp2_with fail
        refine (HMN.out 7 _ hG1).mono ?_
        rintro e w4 ⟨rfl, hg4⟩
        refine ⟨rfl, ?_⟩
        rw [HR.out]
        exact ⟨hG1.trans hg4, rfl⟩
      · go_enter Tryz.func219, Tryz.ntmps219
        go_wp2_with fail
        refine (HOP.out _ (Gr.al _ _)).mono ?_
        rintro e w1 ⟨rfl, hg1⟩
        have B1 := hg1.blk (blk_alloc _ _)
        have b1 := cellAt B1 (i := 0) rfl
        have hG1 : Gr w w1 := (Gr.al _ _).trans hg1
        go_wp2_with fail
        refine (HMY.out 7 _).mono ?_
        rintro e w4 ⟨rfl, hg4⟩
        go_wp2_with fail
        go_ret
        rw [HR.out]
        exact ⟨hG1.trans hg4, rfl⟩
end Go.Proofs.YthniejnbkkkbnaaGreatDoor
