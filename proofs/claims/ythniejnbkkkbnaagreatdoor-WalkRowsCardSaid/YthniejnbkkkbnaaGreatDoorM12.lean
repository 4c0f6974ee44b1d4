/- Walks of layer kind: the check of structs. -/
import Derived.Test.YthniejnbkkkbnaaGreatDoorM11
import Derived.Deep.QuietTactic
import Derived.Deep.RegionHeld3
set_option linter.all false
set_option linter.unusedSimpArgs false
set_option linter.unusedVariables false
namespace Go.Proofs.YthniejnbkkkbnaaGreatDoor
open Go.RowKit
set_option maxRecDepth 100000
set_option maxHeartbeats 1000000

def shortF (f : Fld) : Prop := f.name.length < 1000000 ∧ f.typ.length < 1000000
def shortS (s : Struc) : Prop := s.name.length < 1000000 ∧ s.fields.length < 1000000 ∧ ∀ f ∈ s.fields, shortF f

theorem kfield1_any (a : Str) (u u2 : Value) (x : Str) (b : Nat) (w : World) (hb : w.heap[b]? = some (.cells #[.string (S x), u2] 93 (0, 0))) :
    Calls Tryz.prog 112 #[.agg #[.string (S a), u], .pointer (some ⟨b, 0, none⟩)] w fun e w' => e = .returned (.bool (a == x)) ∧ Gr w w' := by
  have hc : w.cell? ⟨b, 0, none⟩ = some (.string (S x)) := cellAt hb rfl
  have hlt := blkLt hb
  clear hb
  have he : ((S a).toList == (S x).toList) = (a == x) := by rw [ByteArray.toList_eq, ByteArray.toList_eq, data_S, data_S]
  generalize hq : (a == x) = q at he ⊢
  clear hq
  go_enter Tryz.func112, Tryz.ntmps112
  go_wp2_with fail
  go_ret
  exact ⟨rfl, Gr.al _ _⟩
theorem en_kfield1 : Enters 112 := fun _ _ => by kernel_rfl
theorem idxFn_any {α : Type} (p : α → Bool) (L : List α) : decide (0 ≤ idxFn p L) = L.any p := by
  unfold idxFn
  cases h : L.findIdx? p with
  | none =>
    rw [List.findIdx?_eq_none_iff] at h
    have : L.any p = false := by rw [List.any_eq_false]; intro x hx; simp [h x hx]
    rw [this]; rfl
  | some i =>
    rw [List.findIdx?_eq_some_iff_getElem] at h
    obtain ⟨hi, he, _⟩ := h
    have : L.any p = true := List.any_eq_true.2 ⟨_, List.getElem_mem hi, he⟩
    rw [this]; simp
theorem hasField_any (P : List (Value × Value)) (A : Option Addr) (n c : Nat) (hn : n = P.length) (X : Nat → Prop) (k : FuncId) (cp : Value) (p : Value × Value → Bool) (w : World) (hr : RowR w X A (pairCells P)) (hl : n < 1000000)
    (hk1 : Enters k) (hk2 : ∀ x, x ∈ P → ∀ w', Gr w w' → Calls Tryz.prog k #[.agg #[x.1, x.2], cp] w' fun e w'' => e = .returned (.bool (p x)) ∧ Gr w' w'') :
    Calls Tryz.prog 111 #[.slice A n c, .func (.func k) #[] #[cp]] w fun e w' => e = .returned (.bool (P.any p)) ∧ Gr w w' := by
  have H := Lib.hid (idxField_any P A n c hn X k cp p w hr hl hk1 hk2)
  have HE := Lib.hid (idxFn_any p P)
  clear hn hr hk1 hk2
  go_enter Tryz.func111, Tryz.ntmps111
  go_wp2_with fail
  refine H.out.mono ?_
  rintro e w' ⟨rfl, hg⟩
  go_wp2_with fail
  go_ret
  exact ⟨ret_bool HE.out, hg⟩

theorem kfield_any (L : List Struc) (v : Value) (ah : List Fld) (av : Value) (f : Fld) (X : Nat → Prop) (w : World) (h : StrucsAt w X v L) (ha : FldsAt w X av ah) (hl : L.length < 1000000) (hal : ah.length < 1000000) (hf : shortF f) :
    Calls Tryz.prog 70 #[v, av, .agg #[.string (S f.name), .string (S f.typ)]] w fun e w' => e = .returned (.int .i64 (fieldKC L ah f)) ∧ Gr w w' := by
  obtain ⟨fn, ft⟩ := f
  obtain ⟨hf1, hf2⟩ := hf
  simp only [] at hf1 hf2
  have HW := Lib.hid (isWord_any (S fn) (by rw [size_S]; exact hf1))
  rw [data_S] at HW
  have HI := Lib.hid (fun w' (hg : Gr w w') => kIs_any L v X ft w' (h.gr hg) hl)
  obtain ⟨A, c, rfl, hlc, hr⟩ := ha
  obtain ⟨vs, _, ⟨A2, c2, rfl, _, _⟩, _⟩ := h
  generalize ((L.zip vs).map strucPair).length = n2 at *
  have hmem : ∀ y ∈ ah.map fldPair, ∃ a u, y = (.string (S a), u) := by
    intro y hy
    obtain ⟨q, _, rfl⟩ := List.mem_map.1 hy
    exact ⟨q.name, _, rfl⟩
  have hany : (ah.map fldPair).any (fun q => strOf q.1 == fn) = ah.any (fun g => g.name == fn) := by
    rw [List.any_map]
    refine congrArg (fun f => List.any ah f) (funext fun q => ?_)
    show (strOf (.string (S q.name)) == fn) = _
    rw [strOf_S]
  have hpl : (ah.map fldPair).length = ah.length := by simp
  obtain ⟨P, hP⟩ : ∃ P, P = ah.map fldPair := ⟨_, rfl⟩
  rw [← hP] at hr hmem hany hpl ⊢
  obtain ⟨n, hn⟩ : ∃ n, n = P.length := ⟨_, rfl⟩
  rw [← hn]
  have HH : Hid (∀ w1 b, Gr w w1 → w1.heap[b]? = some (.cells #[.string (S fn), .string (S ft)] 93 (0, 0)) → Calls Tryz.prog 111 #[.slice A n c, .func (.func 112) #[] #[.pointer (some ⟨b, 0, none⟩)]] w1 fun e w' => e = .returned (.bool (ah.any fun g => g.name == fn)) ∧ Gr w1 w') := by
    intro w1 b hg hb
    rw [← hany]
    refine hasField_any P A n c hn X 112 (.pointer (some ⟨b, 0, none⟩)) _ w1 (hr.gr hg) (by omega) en_kfield1 ?_
    intro y hy w' hg'
    obtain ⟨a, u, rfl⟩ := hmem y hy
    refine (kfield1_any a u _ fn b w' (hg'.blk hb)).mono ?_
    rintro e w'' ⟨rfl, hg''⟩
    exact ⟨by rw [strOf_S], hg''⟩
  have hK : Hid (fieldKC L ah ⟨fn, ft⟩ = if !isWordP fn then 1 else if ah.any (fun g => g.name == fn) then 6 else if !isTypP L ft then 7 else 0) := rfl
  obtain ⟨b1, hb1⟩ : ∃ b1, isWordP fn = b1 := ⟨_, rfl⟩
  obtain ⟨b2, hb2⟩ : ∃ b2, ah.any (fun g => g.name == fn) = b2 := ⟨_, rfl⟩
  obtain ⟨b3, hb3⟩ : ∃ b3, isTypP L ft = b3 := ⟨_, rfl⟩
  rw [hb1] at HW hK
  rw [hb2] at HH hK
  rw [hb3] at HI hK
  clear hb1 hb2 hb3 hr hmem hany hpl hP hn
  cases b1
  · go_enter Tryz.func70, Tryz.ntmps70
    go_wp2_with fail
    refine (HW.out _).mono ?_
    rintro e w1 ⟨rfl, hg1⟩
    go_wp2_with fail
    go_ret
    exact ⟨ret_int (by rw [hK.out]; rfl), (Gr.al _ _).trans hg1⟩
  · go_enter Tryz.func70, Tryz.ntmps70
    go_wp2_with fail
    refine (HW.out _).mono ?_
    rintro e w1 ⟨rfl, hg1⟩
    have B1 := hg1.blk (blk_alloc _ _)
    have hgw : Gr w w1 := (Gr.al _ _).trans hg1
    clear hg1
    go_wp2_with fail
    refine (HH.out _ _ hgw B1).mono ?_
    rintro e w2 ⟨rfl, hg2⟩
    have B2 := hg2.blk B1
    obtain ⟨c0, c1⟩ := cells2 B2
    have hl2 := blkLt B2
    have hgw2 := hgw.trans hg2
    clear B1 B2 hg2
    cases b2
    · go_wp2_with fail
      refine (HI.out _ hgw2).mono ?_
      rintro e w3 ⟨rfl, hg3⟩
      cases b3
      · go_wp2_with fail
        go_ret
        exact ⟨ret_int (by rw [hK.out]; rfl), hgw2.trans hg3⟩
      · go_wp2_with fail
        go_ret
        exact ⟨ret_int (by rw [hK.out]; rfl), hgw2.trans hg3⟩
    · go_wp2_with fail
      go_ret
      exact ⟨ret_int (by rw [hK.out]; rfl), hgw2⟩

theorem fldsKC_take (L : List Struc) (fs : List Fld) (k : Nat) (hk : k < fs.length) : fieldsKC L (fs.take k) (fs.drop k) = if fieldKC L (fs.take k) fs[k] ≠ 0 then fieldKC L (fs.take k) fs[k] else fieldsKC L (fs.take (k + 1)) (fs.drop (k + 1)) := by
  rw [List.drop_eq_getElem_cons hk, fieldsKC, List.take_succ_eq_append_getElem hk]
theorem flds_take {w : World} {X : Nat → Prop} {A : Option Addr} {fs : List Fld} (h : RowR w X A (pairCells (fs.map fldPair))) (k : Nat) : RowR w X A (pairCells ((fs.take k).map fldPair)) := by
  rcases h with h | ⟨g, off, arr, t, fr, hX, hA, hg, hc⟩
  · have : fs = [] := by
      cases fs with
      | nil => rfl
      | cons a l => simp [pairCells] at h
    subst this
    exact .inl (by simp [pairCells])
  · refine .inr ⟨g, off, arr, t, fr, hX, hA, hg, fun i v hv => hc i v ?_⟩
    have e : fs.map fldPair = (fs.take k).map fldPair ++ (fs.drop k).map fldPair := by rw [← List.map_append, List.take_append_drop]
    rw [e, pairCells_append, List.getElem?_append_left (by have := (List.getElem?_eq_some_iff.1 hv).1; exact this)]
    exact hv

theorem one_any (L : List Struc) (v : Value) (i : Nat) (s : Struc) (X : Nat → Prop) (w : World) (h : StrucsAt w X v L) (hl : L.length < 1000000) (hi : L[i]? = some s) (hs : shortS s) :
    Calls Tryz.prog 46 #[v, .int .i64 i] w fun e w' => e = .returned (.int .i64 (oneKC L i s)) ∧ Gr w w' := by
  have HK := Lib.hid (fun ah av f w' (hg : Gr w w') (ha : FldsAt w' X av ah) => kfield_any L v ah av f X w' (h.gr hg) ha hl)
  have HF := Lib.hid (fun x w' (hg : Gr w w') => find_any L v X x w' (h.gr hg) hl)
  obtain ⟨hs1, hs2, hs3⟩ := hs
  obtain ⟨sn, fs⟩ := s
  simp only [] at hs1 hs2 hs3
  obtain ⟨vs, hvl, ⟨A, c, rfl, hlc, hr⟩, hfs⟩ := h
  have hiL : i < L.length := (List.getElem?_eq_some_iff.1 hi).1
  have hiv : i < vs.length := by omega
  have hfi := hfs i _ vs[i] hi (by simp [hiv])
  obtain ⟨fv, hfv⟩ : ∃ fv, vs[i] = fv := ⟨_, rfl⟩
  rw [hfv] at hfi
  have hPi : ((L.zip vs).map strucPair)[i]? = some (.string (S sn), fv) := by
    have hz : (L.zip vs)[i]? = some (⟨sn, fs⟩, fv) := by
      rw [List.getElem?_zip_eq_some]
      exact ⟨hi, by simp [hiv, hfv]⟩
    rw [List.getElem?_map, hz]; rfl
  have hPl : ((L.zip vs).map strucPair).length = L.length := by simp; omega
  obtain ⟨P, hP⟩ : ∃ P, P = (L.zip vs).map strucPair := ⟨_, rfl⟩
  rw [← hP] at hr hPi hPl ⊢ HK HF
  have hiP : i < P.length := by omega
  obtain ⟨g, off, rfl, hg, _, hc⟩ := hr.open_ (j := i * 2) (by rw [pairCells_length]; omega)
  obtain ⟨t0, t1⟩ := pairCells_get P i hiP
  have hPe : P[i] = (.string (S sn), fv) := by
    have := List.getElem?_eq_getElem hiP
    rw [hPi] at this
    exact (Option.some.inj this).symm
  rw [hPe] at t0 t1
  have d0 := hc _ _ t0
  have d1 := hc _ _ t1
  rw [← Nat.add_assoc] at d1
  simp only [] at d0 d1
  obtain ⟨n, hn⟩ : ∃ n, n = P.length := ⟨_, rfl⟩
  rw [← hn] at HK HF ⊢
  have hin : i < n := by omega
  obtain ⟨Af, cf, rfl, hlf, hrf⟩ := hfi
  have hfl : (fs.map fldPair).length = fs.length := by simp
  rw [hfl] at d1 hlf
  have HW := Lib.hid (isWord_any (S sn) (by rw [size_S]; exact hs1))
  rw [data_S] at HW
  have HRF := Lib.hid hrf
  have HS3 := Lib.hid hs3
  obtain ⟨at_, hat⟩ : ∃ at_, findS L sn = at_ := ⟨_, rfl⟩
  have HFS := Lib.hid (HF.out sn)
  rw [hat] at HFS
  unfold placeV at HFS
  have hon : Hid (oneKC L i ⟨sn, fs⟩ = if !isWordP sn then 1 else if max at_ 0 < i then 6 else if 8 < fs.length then 4 else fieldsKC L [] fs) := by
    show oneKC L i ⟨sn, fs⟩ = _
    unfold oneKC
    rw [hat]
  obtain ⟨nf, hnf⟩ : ∃ nf, nf = fs.length := ⟨_, rfl⟩
  rw [← hnf] at d1 hs2 hlf
  have HNF := Lib.hid hnf
  obtain ⟨b1, hb1⟩ : ∃ b1, isWordP sn = b1 := ⟨_, rfl⟩
  rw [hb1] at HW hon
  clear hc t0 t1 hPe hPi hPl hP hr hfs hfv hvl hi hrf hs3 hat hn hnf hb1 hfl HF
  cases b1
  · go_enter Tryz.func46, Tryz.ntmps46
    go_wp2_with fail
    refine (HW.out _).mono ?_
    rintro e w1 ⟨rfl, hg1⟩
    go_wp2_with fail
    go_ret
    exact ⟨ret_int (by rw [hon.out]; rfl), (Gr.al _ _).trans hg1⟩
  · go_enter Tryz.func46, Tryz.ntmps46
    go_wp2_with fail
    refine (HW.out _).mono ?_
    rintro e w1 ⟨rfl, hg1⟩
    have B1 := hg1.blk (blk_alloc _ _)
    have hgw : Gr w w1 := (Gr.al _ _).trans hg1
    obtain ⟨e0, e1⟩ := cells2 B1
    have hl1 := blkLt B1
    clear hg1
    go_wp2_with fail
    refine (HFS.out _ hgw).mono ?_
    rintro e w2 ⟨rfl, hg2⟩
    have B2 := hg2.blk B1
    have hgw2 := hgw.trans hg2
    obtain ⟨x0, x1⟩ := cells2 B2
    have hl2 := blkLt B2
    clear B1 hg2 e0 e1
    obtain ⟨m, hm⟩ : ∃ m, max at_ 0 = m := ⟨_, rfl⟩
    have hm0 : 0 ≤ m := by omega
    rw [hm] at hon ⊢
    clear hm
    by_cases h6 : m < i
    · go_wp2_with fail
      go_ret
      exact ⟨ret_int (by rw [hon.out]; simp [h6]), hgw2⟩
    · have h6' : (i : Int) ≤ m := by omega
      by_cases h8 : 8 < nf
      · go_wp2_with fail
        go_ret
        exact ⟨ret_int (by rw [hon.out, ← HNF.out]; simp [h8]; omega), hgw2⟩
      · have h8' : nf ≤ 8 := by omega
        have hon2 : Hid (oneKC L i ⟨sn, fs⟩ = fieldsKC L [] fs) := by
          show oneKC L i ⟨sn, fs⟩ = _
          rw [hon.out, ← HNF.out]
          simp only [Bool.not_true, Bool.false_eq_true, if_false]
          rw [if_neg (by omega), if_neg (by omega)]
        have HB2 := Lib.hid B2
        clear hon h6 h8 B2
        go_wp2_with fail
        go_loopw [36] (fun t wr => ∃ j : Nat, j ≤ nf ∧ t = .int .i64 j ∧ Gr w wr ∧ wr.heap[w.heap.size]? = some (.cells #[.string (S sn), .slice Af nf cf] 90 (0, 0)) ∧ Hid (fieldsKC L [] fs = fieldsKC L (fs.take j) (fs.drop j))) (fun t _ => nf - (intOf t).toNat)
        case atStart => exact ⟨0, by omega, rfl, hgw2, HB2.out, rfl⟩
        case round =>
          obtain ⟨j, hj, rfl, hgr, hB, hkc⟩ := hrel
          have HKC := Lib.hid hkc
          have HBR := Lib.hid hB
          clear hkc hB
          by_cases hlt : j < nf
          · have hjf : j < fs.length := by rw [← HNF.out]; exact hlt
            obtain ⟨kf, offf, rfl, hkf, _, hcf⟩ := (HRF.out.gr hgr).open_ (j := j * 2) (by rw [pairCells_length]; simp; omega)
            obtain ⟨u0, u1⟩ := pairCells_get (fs.map fldPair) j (by simpa using hjf)
            have v0 := hcf _ _ u0
            have v1 := hcf _ _ u1
            rw [← Nat.add_assoc] at v1
            have hstep := fldsKC_take L fs j hjf
            have hsj := HS3.out fs[j] (List.getElem_mem hjf)
            have hRj : RowR w X (some ⟨kf, offf, none⟩) (pairCells ((fs.take j).map fldPair)) := flds_take HRF.out j
            have hFj : ∀ w', Gr w w' → FldsAt w' X (.slice (some ⟨kf, offf, none⟩) j cf) (fs.take j) := fun w' hg => ⟨_, cf, by simp; omega, by simp; omega, hRj.gr hg⟩
            have HKJ := Lib.hid (fun w' (hg : Gr w w') => HK.out (fs.take j) _ fs[j] w' hg (hFj w' hg) (by simp; omega) hsj)
            simp only [List.getElem_map, fldPair] at v0 v1
            obtain ⟨⟨fn, ft⟩, hf⟩ : ∃ f, fs[j] = f := ⟨_, rfl⟩
            obtain ⟨kc, hkc⟩ : ∃ kc, fieldKC L (fs.take j) fs[j] = kc := ⟨_, rfl⟩
            rw [hkc] at HKJ hstep
            rw [hf] at v0 v1 HKJ
            simp only [] at v0 v1
            have HST := Lib.hid hstep
            obtain ⟨y0, y1⟩ := cells2 HBR.out
            have hlr := blkLt HBR.out
            have hjc : (j : Int) ≤ (cf : Int) := by omega
            clear hcf u0 u1 hstep hsj hRj hFj hf hkc
            go_wp2_with fail
            have N1 := blk_alloc wr (.cells #[.string (S fn), .string (S ft)] 93)
            have Q1 := blk_alloc_lt (o' := .cells #[.string (S fn), .string (S ft)] 93) HBR.out
            have n0 := cellAt N1 (i := 0) rfl
            have n1 := cellAt N1 (i := 1) rfl
            have q1 := cellAt Q1 (i := 1) rfl
            go_region_held3 (fun w' => w'.cell? ⟨w.heap.size, 1, none⟩ = some (.slice (some ⟨kf, offf, none⟩) nf cf) ∧ w'.cell? ⟨wr.heap.size, 0, none⟩ = some (.string (S fn)) ∧ w'.cell? ⟨wr.heap.size, 1, none⟩ = some (.string (S ft))) (first | exact ⟨q1, n0, n1⟩ | exact ⟨q2, m0, m1⟩) (first | (go_at_call 70; refine (HKJ.out _ ((hgr.alloc _).drew)).mono ?_; rintro e w3 ⟨rfl, hg3⟩; have N2 := hg3.blk N1; have Q2 := hg3.blk Q1; have m0 := cellAt N2 (i := 0) rfl; have m1 := cellAt N2 (i := 1) rfl; have q2 := cellAt Q2 (i := 1) rfl))
            have hg4 : Gr w w3 := ((hgr.alloc _).drew).trans hg3
            have HQ2 := Lib.hid Q2
            clear N1 Q1 n0 n1 q1 N2 Q2 m0 m1 q2 y0 y1
            by_cases hz : kc = 0
            · subst hz
              go_wp2_with fail
              go_roundw
              case rel =>
                refine ⟨j + 1, by omega, by go_num, hg4, HQ2.out, ?_⟩
                show fieldsKC L [] fs = _
                rw [HKC.out, HST.out]; rfl
              case measure => simp [intOf]; omega
            · have hz2 : (kc != 0) = true := by simp [hz]
              go_wp2_with fail
              go_ret
              refine ⟨ret_int ?_, hg4⟩
              rw [hon2.out, HKC.out, HST.out, if_pos hz]
          · go_wp2_with fail
            go_ret
            refine ⟨ret_int ?_, hgr⟩
            rw [hon2.out, HKC.out, List.drop_of_length_le (by rw [← HNF.out]; omega), fieldsKC]
theorem ret_ii {k q : IntKind} {a b c d : Int} (h : a = c) (h2 : b = d) : Ending.returned (.tuple #[.int k a, .int q b]) = .returned (.tuple #[.int k c, .int q d]) := by rw [h, h2]
theorem allKC_drop (L : List Struc) (i : Nat) (s : Struc) (hi : L[i]? = some s) : allKC L i (L.drop i) = if oneKC L i s ≠ 0 then oneKC L i s else allKC L (i + 1) (L.drop (i + 1)) := by
  obtain ⟨hlt, he⟩ := List.getElem?_eq_some_iff.1 hi
  rw [List.drop_eq_getElem_cons hlt, allKC, he]

/-- kind.Check: the error; its place plays no part here. -/
theorem kCheck_any (L : List Struc) (v : Value) (X : Nat → Prop) (w : World) (h : StrucsAt w X v L) (hl : L.length < 1000000) (hs : ∀ s ∈ L, shortS s) :
    Calls Tryz.prog 33 #[v] w fun e w' => ∃ at_ : Int, e = .returned (.tuple #[.int .i64 at_, .int .i64 (kindCheckP L)]) ∧ Gr w w' := by
  have HO := Lib.hid (fun i s w' (hg : Gr w w') hi hs => one_any L v i s X w' (h.gr hg) hl hi hs)
  have HS := Lib.hid hs
  obtain ⟨vs, hvl, ⟨A, c, rfl, _, _⟩, _⟩ := h
  have hPl : ((L.zip vs).map strucPair).length = L.length := by simp; omega
  rw [hPl] at HO ⊢
  obtain ⟨n, hn⟩ : ∃ n, n = L.length := ⟨_, rfl⟩
  rw [← hn] at HO hl ⊢
  have HN := Lib.hid hn
  clear hPl hvl hs hn
  by_cases h12 : 12 < n
  · go_enter Tryz.func33, Tryz.ntmps33
    go_wp2_with fail
    go_ret2
    exact ⟨0, ret_ii rfl (by rw [kindCheckP, if_pos (by rw [← HN.out]; exact h12)]), Gr.refl _⟩
  · have h12' : n ≤ 12 := by omega
    have HKC : Hid (kindCheckP L = allKC L 0 (L.drop 0)) := by
      show kindCheckP L = _
      rw [kindCheckP, if_neg (by rw [← HN.out]; exact h12)]; rfl
    clear h12
    go_enter Tryz.func33, Tryz.ntmps33
    go_wp2_with fail
    go_loopw [11] (fun t wr => ∃ j : Nat, j ≤ n ∧ t = .int .i64 j ∧ Gr w wr ∧ Hid (kindCheckP L = allKC L j (L.drop j))) (fun t _ => n - (intOf t).toNat)
    case atStart => exact ⟨0, by omega, rfl, Gr.refl _, HKC.out⟩
    case round =>
      obtain ⟨j, hj, rfl, hgr, hkc⟩ := hrel
      by_cases hlt : j < n
      · have hjL : j < L.length := by rw [← HN.out]; exact hlt
        have hst := allKC_drop L j L[j] (by simp [hjL])
        have HOJ := Lib.hid (HO.out j L[j] wr hgr (by simp [hjL]) (HS.out _ (List.getElem_mem hjL)))
        obtain ⟨kc, hk⟩ : ∃ kc, oneKC L j L[j] = kc := ⟨_, rfl⟩
        rw [hk] at hst HOJ
        have HST := Lib.hid hst
        clear hst hk
        go_wp2_with fail
        refine HOJ.out.mono ?_
        rintro e w3 ⟨rfl, hg3⟩
        have hg4 := hgr.trans hg3
        by_cases hz : kc = 0
        · subst hz
          go_wp2_with fail
          go_roundw
          case rel =>
            refine ⟨j + 1, by omega, by go_num, hg4, ?_⟩
            show kindCheckP L = _
            rw [hkc.out, HST.out]; rfl
          case measure => simp [intOf]; omega
        · have hz2 : (kc != 0) = true := by simp [hz]
          go_wp2_with fail
          go_ret2
          exact ⟨_, ret_ii rfl (by rw [hkc.out, HST.out, if_pos hz]), hg4⟩
      · go_wp2_with fail
        go_ret2
        exact ⟨0, ret_ii rfl (by rw [hkc.out, List.drop_of_length_le (by rw [← HN.out]; omega), allKC]), hgr⟩
end Go.Proofs.YthniejnbkkkbnaaGreatDoor
