/- Walks of layer check: a call. -/
import Derived.Test.YthniejnbkkkbnaaGreatDoorM17
import Derived.Deep.Cut
import Derived.Deep.CutRange
set_option linter.all false
set_option linter.unusedSimpArgs false
set_option linter.unusedVariables false
namespace Go.Proofs.YthniejnbkkkbnaaGreatDoor
open Go.RowKit
set_option maxRecDepth 100000
set_option maxHeartbeats 4000000

theorem info_string : (Tryz.prog.info? 9).map (fun i => (i.zero, i.size, i.bytes)) = some (some (.string ⟨#[]⟩), 1, 16) := by kernel_rfl
def preC {α : Type} (pre : List α) : CR (List α) → CR (List α)
  | .ok l => .ok (pre ++ l)
  | .err a e => .err a e
  | .bad => .bad
theorem preC_nil {α : Type} (r : CR (List α)) : preC [] r = r := by cases r <;> rfl
theorem argsC_drop (x : Info) (bl : List Blk) (ks : List T) (j : Nat) (a : T) (hj : ks[j]? = some a) : argsC x bl (ks.drop j) = cbind (exprC x bl a) fun s => cbind (argsC x bl (ks.drop (j + 1))) fun t => .ok (s :: t) := by
  obtain ⟨hlt, he⟩ := List.getElem?_eq_some_iff.1 hj
  rw [List.drop_eq_getElem_cons hlt, he, argsC]
def callR (x : Info) (bl : List Blk) (d : D) (r : CR (List Str)) : CR Str := cbind r fun l => callC x bl d l

theorem SigsAt.get {w : World} {X : Nat → Prop} {v : Value} {L : List Sig} (h : SigsAt w X v L) {j : Nat} {s : Sig} (hs : L[j]? = some s) :
    ∃ g off c fv, v = .slice (some ⟨g, off, none⟩) L.length c ∧ g < w.heap.size ∧ w.cell? ⟨g, off + j * 3, none⟩ = some (.string (S s.name)) ∧ w.cell? ⟨g, off + j * 3 + 1, none⟩ = some fv ∧ w.cell? ⟨g, off + j * 3 + 2, none⟩ = some (.string (S s.result)) ∧ FldsAt w X fv s.params := by
  obtain ⟨vs, hvl, ⟨A, c, hv, hc, hr⟩, hf⟩ := h
  obtain ⟨hj, he⟩ := List.getElem?_eq_some_iff.1 hs
  have hjv : j < vs.length := by omega
  have hjP : j < ((L.zip vs).map sigTrip).length := by simp; omega
  obtain ⟨g, off, hA, hg, _, hcl⟩ := hr.open_ (j := j * 3) (by rw [tripCells_length]; omega)
  obtain ⟨t0, t1, t2⟩ := tripCells_get _ j hjP
  have d0 := hcl _ _ t0
  have d1 := hcl _ _ t1
  have d2 := hcl _ _ t2
  rw [← Nat.add_assoc] at d1 d2
  simp only [List.getElem_map, List.getElem_zip, sigTrip, he] at d0 d1 d2
  rw [hA] at hv
  exact ⟨g, off, c, vs[j], hv, hg, d0, d1, d2, hf j s vs[j] hs (by simp [hjv])⟩
theorem fitsC_drop (at_ : Int) (l : List Str) (ps : List Fld) (k : Nat) (a : Str) (p : Fld) (ha : l[k]? = some a) (hp : ps[k]? = some p) :
    fitsC at_ (l.drop k) (ps.drop k) = shortC p.typ (if isFitP a p.typ then fitsC at_ (l.drop (k + 1)) (ps.drop (k + 1)) else .err at_ 7) := by
  obtain ⟨h1, e1⟩ := List.getElem?_eq_some_iff.1 ha
  obtain ⟨h2, e2⟩ := List.getElem?_eq_some_iff.1 hp
  rw [List.drop_eq_getElem_cons h1, List.drop_eq_getElem_cons h2, e1, e2, fitsC]

theorem ccall_any (C : CK) (bl : List Blk) (ms : List Nat) (bv : Value) (b : Nat) (t : T) (w : World) (h : CkAt C bl ms bv w) (ht : TreeAt w C.X b t) (hkl : t.kids.length < 1000000) (ia : ∀ a ∈ t.kids, ExprOk C bl ms bv a) (hsa : ∀ a ∈ t.kids, smallT a = true)
    (hbad : callR C.x bl t.d (argsC C.x bl t.kids) ≠ .bad) (hpl : ∀ s ∈ C.x.funs, s.params.length < 1000000) : Calls Tryz.prog 217 #[ptrV C.cb, nodeV b] w (EPost w (callR C.x bl t.d (argsC C.x bl t.kids))) := by
  have HC := Lib.hid h
  have HNM := Lib.hid (fun w' (hg : Gr w w') => Name_any (nodeV b) (some t) C.X w' ⟨b, rfl, ht.gr hg⟩)
  have HKS := Lib.hid (fun w' (hg : Gr w w') => kids_any b t C.X w' (ht.gr hg) (fun k hk => by have := h.hB; have := hg.size; have := hk.1; omega) hkl)
  have HMN := Lib.hid (fun er w' (hg : Gr w w') => must_no b t C.X er w' (ht.gr hg))
  have HMY := Lib.hid (fun er w' => must_yes (nodeV b) ⟨_, rfl⟩ er w')
  have HEX := Lib.hid (fun a (ha : a ∈ t.kids) (hnb : exprC C.x bl a ≠ .bad) ba w' (hg : Gr w w') (hta : TreeAt w' C.X ba a) => ia a ha ba w' (h.gr hg) hta (hsa a ha) hnb)
  have HLO := Lib.hid (fun w' (hg : Gr w w') => local_any C bl ms bv t.d.name w' (h.gr hg))
  have HIN := Lib.hid (fun w' (hg : Gr w w') => isNamed_any C bl ms bv t.d.name w' (h.gr hg))
  have HFN := Lib.hid (fun w' (hg : Gr w w') => infoFun_any C.x.funs C.sv C.gv C.fv _ t.d.name w' (h.sg.gr hg) h.lf)
  have HSG := Lib.hid h.sg
  obtain ⟨⟨op, name, typ, nn, at_⟩, hd⟩ : ∃ d, t.d = d := ⟨_, rfl⟩
  have e1 : (dO (some t)).name = name := by show t.d.name = name; rw [hd]
  obtain ⟨ks, hks⟩ : ∃ ks, ks = t.kids := ⟨_, rfl⟩
  rw [← hks] at HKS HEX hbad hkl ⊢
  rw [e1] at HNM
  rw [hd] at HMN HLO HIN HFN hbad ⊢
  simp only [] at HMN HLO HIN HFN
  obtain ⟨R, hR⟩ : ∃ R, callR C.x bl ⟨op, name, typ, nn, at_⟩ (argsC C.x bl ks) = R := ⟨_, rfl⟩
  have HR := Lib.hid hR
  rw [hR] at hbad ⊢
  have HBD := Lib.hid hbad
  obtain ⟨n, hn⟩ : ∃ n, n = ks.length := ⟨_, rfl⟩
  rw [← hn] at hkl
  have HN := Lib.hid hn
  obtain ⟨i0, hi0, hz0, hz1, hz2⟩ := info_parts info_string
  obtain ⟨o, hoo⟩ : ∃ o, localP bl name = o := ⟨_, rfl⟩
  obtain ⟨q, hqq⟩ : ∃ q, isNamedP C.x name = q := ⟨_, rfl⟩
  obtain ⟨a, haa⟩ : ∃ a, findG C.x.funs name = a := ⟨_, rfl⟩
  have hCC : Hid (∀ l, callC C.x bl ⟨op, name, typ, nn, at_⟩ l = if o.isNone && !q then .err at_ 5 else if a < 0 ∨ o.isSome = true then .err at_ 7 else match C.x.funs[a.toNat]? with
      | none => .bad
      | some f => if l.length ≠ f.params.length then .err at_ 7 else cbind (fitsC at_ l f.params) fun _ => .ok f.result) := by
    show ∀ l, _
    intro l
    unfold callC
    simp only []
    rw [hoo, hqq, haa]
    rfl
  rw [hoo] at HLO
  rw [hqq] at HIN
  rw [haa] at HFN
  unfold placeV at HFN
  unfold optS at HLO
  have halo := (idxFn_lt (fun s : Sig => s.name == name) C.x.funs)
  rw [show idxFn (fun s : Sig => s.name == name) C.x.funs = a from haa] at halo
  obtain ⟨halo, hahi⟩ := halo
  clear hoo hqq haa h ht e1 hd hks ia hsa hR hbad hn
  go_enter Tryz.func217, Tryz.ntmps217
  go_wp2_with fail
  refine (HKS.out _ (Gr.al _ _)).mono ?_
  rintro e w1 ⟨kv, bs, rfl, ho, hg1⟩
  have B1 := hg1.blk (blk_alloc _ _)
  have hG1 : Gr w w1 := (Gr.al _ _).trans hg1
  obtain ⟨A, c, bs', hkv, hkc, hkr, hbl, htr⟩ := ho.nodes
  rw [← HN.out] at hkv hkc hbl
  subst hkv
  have HKR := Lib.hid hkr
  have HTR := Lib.hid htr
  have HBL := Lib.hid hbl
  clear ho hkr htr hg1 hbl
  go_wp2_with fail
  go_loopw [5, 18] (fun v t wr => ∃ (j : Nat) (pre : List Str), j ≤ n ∧ t = .int .i64 j ∧ Gr w1 wr ∧ wr.heap[w.heap.size]? = some (.cells #[ptrV b] 53 (0, 0)) ∧ wr.ownsRow w1.heap.size 9 1 v j (strCells pre) ∧ pre.length = j ∧ Hid (argsC C.x bl ks = preC pre (argsC C.x bl (ks.drop j)))) (fun _ t _ => n - (intOf t).toNat)
  case atStart => exact ⟨0, [], by omega, rfl, Gr.refl _, B1, World.ownsRow_nil _ _ _ _, rfl, (preC_nil _).symm⟩
  case round =>
    obtain ⟨j, pre, hj, rfl, hgr, hB, hO, hpre, hA⟩ := hrel
    have HB := Lib.hid hB
    have HO := Lib.hid hO
    have HPL := Lib.hid hpre
    have hsz := hgr.size
    have hsz1 := blkLt B1
    clear hB hO hpre
    by_cases hlt : j < n
    · have hjk : j < ks.length := by rw [← HN.out]; exact hlt
      have hjb : j < bs'.length := by rw [HBL.out]; exact hlt
      obtain ⟨g, off, rfl, hg, _, hcl⟩ := (HKR.out.gr hgr).open_ (j := j) (by simpa using hjb)
      have htj := (HTR.out j bs'[j] ks[j] (by simp [hjb]) (by simp [hjk])).gr hgr
      obtain ⟨bj, hbj⟩ : ∃ b, bs'[j] = b := ⟨_, rfl⟩
      have hcj := hcl j (ptrV bj) (by simp [hjb, hbj])
      rw [hbj] at htj
      have hstep := argsC_drop C.x bl ks j ks[j] (by simp [hjk])
      have hmem : ks[j] ∈ ks := List.getElem_mem hjk
      have hnb : exprC C.x bl ks[j] ≠ .bad := fun e => HBD.out (by rw [← HR.out, hA.out, hstep, e]; rfl)
      have HE := Lib.hid (fun w' (hg : Gr wr w') => HEX.out ks[j] hmem hnb bj w' (hG1.trans (hgr.trans hg)) (htj.gr hg))
      obtain ⟨ra, hra⟩ : ∃ ra, exprC C.x bl ks[j] = ra := ⟨_, rfl⟩
      rw [hra] at hstep HE
      have HST := Lib.hid hstep
      clear hcl hbj htj hstep hmem hnb hra
      go_wp2_with fail
      refine (HE.out _ (Gr.al _ _)).mono ?_
      rintro e w3 ⟨hg3, hres⟩
      have hG3 : Gr wr w3 := (Gr.al _ _).trans hg3
      cases ra with
      | bad => exact absurd (by rw [← HR.out, hA.out, HST.out]; rfl) HBD.out
      | err ea ec =>
        have hr : R = .err ea ec := by rw [← HR.out, hA.out, HST.out]; rfl
        subst hr hres
        exact ⟨rfl, hG1.trans (hgr.trans hG3), rfl⟩
      | ok ty =>
        simp only [] at hres
        subst hres
        have hs3 := hG3.size
        go_wp2_with (at_builtin; refine wpList_append_own _ rfl _ _ 50 rfl w1.heap.size 9 i0 _ 1 16 Tryz.underlying50 hi0 hz0 hz1 hz2 rfl (by decide) _ j (strCells pre) rfl (ownGr HO.out (hG3.alloc _)) ⟨w3.heap.size, 0, none⟩ 1 1 [.string (S ty)] rfl rfl ?c1 ?c2 ?c3 ?c4 ?c5 ?_)
        case c1 => exact World.news_of_block (blk_alloc _ _)
        case c2 => simp [Value.oneCell']
        case c3 => unfold maxLen; omega
        case c4 => omega
        case c5 => simp; omega
        intro v' w4 hown4 hgrow _
        have hro : ∀ k, u5.ownBlock = some k → w1.heap.size ≤ k ∧ k < wr.heap.size := HO.out.lt
        have hG4 : Gr w1 w4 := ((hgr.trans hG3).alloc _).grown hgrow (fun k e => (hro k e).1)
        have B4 : w4.heap[w.heap.size]? = some (.cells #[ptrV b] 53 (0, 0)) := by
          rw [hgrow.block _ (by simp; omega) (fun e => by have := hro _ e.symm; omega)]
          exact blk_alloc_lt (hG3.blk HB.out)
        have hown4' : Hid (w4.ownsRow w1.heap.size 9 1 v' (j + 1) (strCells (pre ++ [ty]))) := by
          show w4.ownsRow _ _ _ _ _ _
          have : strCells (pre ++ [ty]) = strCells pre ++ [.string (S ty)] := by simp [strCells]
          rw [this]; exact hown4
        clear hown4 hgrow hro
        go_wp2_with fail
        go_roundw
        case rel =>
          refine ⟨j + 1, pre ++ [ty], by omega, by go_num, hG4, B4, hown4'.out, by simp [HPL.out], ?_⟩
          show argsC C.x bl ks = _
          rw [hA.out, HST.out]
          cases argsC C.x bl (ks.drop (j + 1)) <;> simp [cbind, preC]
        case measure => simp [intOf]; omega
    · have hje : j = n := by omega
      have hRC : R = callC C.x bl ⟨op, name, typ, nn, at_⟩ pre := by
        rw [← HR.out, hA.out, List.drop_of_length_le (by rw [← HN.out]; omega)]
        simp [argsC, preC, callR, cbind]
      have HRC := Lib.hid hRC
      have HGr := Lib.hid (hG1.trans hgr)
      obtain ⟨Aa, ca, hv5, hca, hra⟩ := ownRow_row HO.out
      subst hv5
      have HRA := Lib.hid hra
      have b0 := cellAt HB.out (i := 0) rfl
      have hlr := blkLt HB.out
      clear hra hRC hje
      go_wp2_with fail
      refine (HNM.out _ HGr.out).mono ?_
      rintro e w3 ⟨rfl, hg3⟩
      have hG3 := HGr.out.trans hg3
      have hQ3 := hg3
      go_wp2_with fail
      refine (HLO.out _ hG3).mono ?_
      rintro e w4 ⟨rfl, rfl⟩
      have B3 := hg3.blk HB.out
      have b3 := cellAt B3 (i := 0) rfl
      have hl3 := blkLt B3
      have HB3 := Lib.hid B3
      clear b0 hg3 B3 hlr
      cases o with
      | some ty =>
        simp only [Option.getD, Option.isSome]
        go_wp2_with fail
        refine wp_region_held_drew (S := fun w' => w'.cell? ⟨w.heap.size, 0, none⟩ = some (ptrV b)) rfl b3 (fun hS => ?_)
        refine wpAnyH_take (i := 0) (v := ?_) rfl (by kernel_rfl) (by kernel_rfl) (by kernel_rfl) (fun _ _ _ h => h) (Or.inl ⟨by rfl, ?_⟩) hS ?_
        rotate_left
        · intro w' hSw; (try dsimp only at hSw); go_simp; try with_reducible rfl
        (try simp only [Act.put, List.setIfInBounds_toArray, List.set_cons_zero, List.set_cons_succ])
        refine wpAnyH_take (i := 1) (v := ?_) rfl (by kernel_rfl) (by kernel_rfl) (by kernel_rfl) (fun _ _ _ h => h) (Or.inl ⟨by rfl, ?_⟩) hS ?_
        rotate_left
        · intro w' hSw; (try dsimp only at hSw); go_simp; try with_reducible rfl
        (try simp only [Act.put, List.setIfInBounds_toArray, List.set_cons_zero, List.set_cons_succ])
        refine wpAnyH_take (i := 2) (v := undef) rfl (by kernel_rfl) (by kernel_rfl) (by kernel_rfl) (fun _ _ _ h => h) (Or.inr ⟨by rfl, rfl⟩) hS ?_
        (try simp only [Act.put, List.setIfInBounds_toArray, List.set_cons_zero, List.set_cons_succ])
        refine wpAnyH_take (i := 3) (v := undef) rfl (by kernel_rfl) (by kernel_rfl) (by kernel_rfl) (fun _ _ _ h => h) (Or.inr ⟨by rfl, rfl⟩) hS ?_
        (try simp only [Act.put, List.setIfInBounds_toArray, List.set_cons_zero, List.set_cons_succ])
        refine wpAnyH_take (i := 4) (v := undef) rfl (by kernel_rfl) (by kernel_rfl) (by kernel_rfl) (fun _ _ _ h => h) (Or.inr ⟨by rfl, rfl⟩) hS ?_
        (try simp only [Act.put, List.setIfInBounds_toArray, List.set_cons_zero, List.set_cons_succ])
        refine wpAnyH_take (i := 5) (v := undef) rfl (by kernel_rfl) (by kernel_rfl) (by kernel_rfl) (fun _ _ _ h => h) (Or.inr ⟨by rfl, rfl⟩) hS ?_
        (try simp only [Act.put, List.setIfInBounds_toArray, List.set_cons_zero, List.set_cons_succ])
        refine wpAnyH_take (i := 6) (v := ?_) rfl (by kernel_rfl) (by kernel_rfl) (by kernel_rfl) (fun _ _ _ h => h) (Or.inl ⟨by rfl, ?_⟩) hS ?_
        rotate_left
        · intro w' hSw; (try dsimp only at hSw); go_simp; try with_reducible rfl
        (try simp only [Act.put, List.setIfInBounds_toArray, List.set_cons_zero, List.set_cons_succ])
        refine wpAnyH_take (i := 7) (v := ?_) rfl (by kernel_rfl) (by kernel_rfl) (by kernel_rfl) (fun _ _ _ h => h) (Or.inl ⟨by rfl, ?_⟩) hS ?_
        rotate_left
        · intro w' hSw; (try dsimp only at hSw); go_simp; try with_reducible rfl
        (try simp only [Act.put, List.setIfInBounds_toArray, List.set_cons_zero, List.set_cons_succ])
        refine wpAnyH_ready (rs := [8]) (by kernel_rfl) (by simp) ?_
        refine AllReadyH.cons rfl (fun K' hK => ?_) AllReadyH.nil
        simp only [List.getElem_toArray, List.getElem_cons_succ, List.getElem_cons_zero]
        go_simp
        refine (HMY.out 5 _).mono ?_
        rintro e w5 ⟨rfl, hg5⟩
        have B5 := hg5.blk HB3.out
        have b5 := cellAt B5 (i := 0) rfl
        refine hK.out _ _ b5 (fun hS => ?_)
        (try simp only [Act.put, List.setIfInBounds_toArray, List.set_cons_zero, List.set_cons_succ])
        refine wpAnyH_done (by kernel_rfl) ?_ _
        clear hK
        have hG5 : Gr w w5 := hG3.drew.trans hg5
        have hQ5 : Gr wr w5 := hQ3.drew.trans hg5
        obtain ⟨c0, c1, c2, _, _⟩ := (HC.out.gr hG5).cells
        have hl5 := (HC.out.gr hG5).lt
        have HB5 := Lib.hid B5
        clear B5 hg5 b3
        go_wp2_with fail
        refine wp_region_held_drew (S := fun w' => w'.cell? ⟨w.heap.size, 0, none⟩ = some (ptrV b) ∧ w'.cell? ⟨C.cb, 0, none⟩ = some C.sv ∧ w'.cell? ⟨C.cb, 1, none⟩ = some C.gv ∧ w'.cell? ⟨C.cb, 2, none⟩ = some C.fv) rfl ⟨b5, c0, c1, c2⟩ (fun hS => ?_)
        refine wpAnyH_take (i := 0) (v := ?_) rfl (by kernel_rfl) (by kernel_rfl) (by kernel_rfl) (fun _ _ _ h => h) (Or.inl ⟨by rfl, ?_⟩) hS ?_
        rotate_left
        · intro w' hSw; (try dsimp only at hSw); go_simp; try with_reducible rfl
        (try simp only [Act.put, List.setIfInBounds_toArray, List.set_cons_zero, List.set_cons_succ])
        refine wpAnyH_take (i := 1) (v := ?_) rfl (by kernel_rfl) (by kernel_rfl) (by kernel_rfl) (fun _ _ _ h => h) (Or.inl ⟨by rfl, ?_⟩) hS ?_
        rotate_left
        · intro w' hSw; (try dsimp only at hSw); go_simp; try with_reducible rfl
        (try simp only [Act.put, List.setIfInBounds_toArray, List.set_cons_zero, List.set_cons_succ])
        refine wpAnyH_take (i := 2) (v := ?_) rfl (by kernel_rfl) (by kernel_rfl) (by kernel_rfl) (fun _ _ _ h => h) (Or.inl ⟨by rfl, ?_⟩) hS ?_
        rotate_left
        · intro w' hSw; (try dsimp only at hSw); go_simp; try with_reducible rfl
        (try simp only [Act.put, List.setIfInBounds_toArray, List.set_cons_zero, List.set_cons_succ])
        refine wpAnyH_take (i := 3) (v := ?_) rfl (by kernel_rfl) (by kernel_rfl) (by kernel_rfl) (fun _ _ _ h => h) (Or.inl ⟨by rfl, ?_⟩) hS ?_
        rotate_left
        · intro w' hSw; (try dsimp only at hSw); go_simp; try with_reducible rfl
        (try simp only [Act.put, List.setIfInBounds_toArray, List.set_cons_zero, List.set_cons_succ])
        refine wpAnyH_take (i := 4) (v := ?_) rfl (by kernel_rfl) (by kernel_rfl) (by kernel_rfl) (fun _ _ _ h => h) (Or.inl ⟨by rfl, ?_⟩) hS ?_
        rotate_left
        · intro w' hSw; (try dsimp only at hSw); go_simp; try with_reducible rfl
        (try simp only [Act.put, List.setIfInBounds_toArray, List.set_cons_zero, List.set_cons_succ])
        refine wpAnyH_ready (rs := [5]) (by kernel_rfl) (by simp) ?_
        refine AllReadyH.cons rfl (fun K' hK => ?_) AllReadyH.nil
        simp only [List.getElem_toArray, List.getElem_cons_succ, List.getElem_cons_zero]
        go_simp
        refine (HNM.out _ hG5.drew).mono ?_
        rintro e w6 ⟨rfl, hg6⟩
        have B6 := hg6.blk HB5.out
        have hG6 : Gr w w6 := hG5.drew.trans hg6
        have hQ6 : Gr wr w6 := hQ5.drew.trans hg6
        obtain ⟨x0, x1, x2, _, _⟩ := (HC.out.gr hG6).cells
        refine hK.out _ _ ⟨cellAt B6 rfl, x0, x1, x2⟩ (fun hS => ?_)
        (try simp only [Act.put, List.setIfInBounds_toArray, List.set_cons_zero, List.set_cons_succ])
        refine wpAnyH_ready (rs := [6]) (by kernel_rfl) (by simp) ?_
        refine AllReadyH.cons rfl (fun K' hK => ?_) AllReadyH.nil
        simp only [List.getElem_toArray, List.getElem_cons_succ, List.getElem_cons_zero]
        go_simp
        refine (HFN.out _ hG6).mono ?_
        rintro e w7 ⟨rfl, hg7⟩
        have B7 := hg7.blk B6
        have hG7 : Gr w w7 := hG6.trans hg7
        have hQ7 : Gr wr w7 := hQ6.trans hg7
        obtain ⟨y0, y1, y2, _, _⟩ := (HC.out.gr hG7).cells
        refine hK.out _ _ ⟨cellAt B7 rfl, y0, y1, y2⟩ (fun hS => ?_)
        (try simp only [Act.put, List.setIfInBounds_toArray, List.set_cons_zero, List.set_cons_succ])
        refine wpAnyH_take (i := 7) (v := ?_) rfl (by kernel_rfl) (by kernel_rfl) (by kernel_rfl) (fun _ _ _ h => h) (Or.inl ⟨by rfl, ?_⟩) hS ?_
        rotate_left
        · intro w' hSw; (try dsimp only at hSw); go_simp; try with_reducible rfl
        (try simp only [Act.put, List.setIfInBounds_toArray, List.set_cons_zero, List.set_cons_succ])
        refine wpAnyH_take (i := 8) (v := ?_) rfl (by kernel_rfl) (by kernel_rfl) (by kernel_rfl) (fun _ _ _ h => h) (Or.inl ⟨by rfl, ?_⟩) hS ?_
        rotate_left
        · intro w' hSw; (try dsimp only at hSw); go_simp; try with_reducible rfl
        (try simp only [Act.put, List.setIfInBounds_toArray, List.set_cons_zero, List.set_cons_succ])
        refine wpAnyH_take (i := 9) (v := ?_) rfl (by kernel_rfl) (by kernel_rfl) (by kernel_rfl) (fun _ _ _ h => h) (Or.inl ⟨by rfl, ?_⟩) hS ?_
        rotate_left
        · intro w' hSw; (try dsimp only at hSw); go_simp; try with_reducible rfl
        (try simp only [Act.put, List.setIfInBounds_toArray, List.set_cons_zero, List.set_cons_succ])
        refine wpAnyH_take (i := 10) (v := ?_) rfl (by kernel_rfl) (by kernel_rfl) (by kernel_rfl) (fun _ _ _ h => h) (Or.inl ⟨by rfl, ?_⟩) hS ?_
        rotate_left
        · intro w' hSw; (try dsimp only at hSw); go_simp; try with_reducible rfl
        (try simp only [Act.put, List.setIfInBounds_toArray, List.set_cons_zero, List.set_cons_succ])
        refine wpAnyH_take (i := 11) (v := ?_) rfl (by kernel_rfl) (by kernel_rfl) (by kernel_rfl) (fun _ _ _ h => h) (Or.inl ⟨by rfl, ?_⟩) hS ?_
        rotate_left
        · intro w' hSw; (try dsimp only at hSw); go_simp; try with_reducible rfl
        (try simp only [Act.put, List.setIfInBounds_toArray, List.set_cons_zero, List.set_cons_succ])
        refine wpAnyH_done (by kernel_rfl) ?_ _
        have b7 := cellAt B7 (i := 0) rfl
        have hl7 := blkLt B7
        have HB7 := Lib.hid B7
        clear hK B6 hg6 hg7 hG6 HB5 b5 c0 c1 c2 B7 hl5 x0 x1 x2 y0 y1 y2
        have hr : Hid (R = .err at_ 7) := by
          show R = .err at_ 7
          rw [HRC.out, hCC.out]; simp
        by_cases hi : 0 ≤ a
        · have hq : decide (0 ≤ a) = true := by simp [hi]
          rw [hq]
          go_wp2_with fail
          refine (HMN.out 7 _ hG7).mono ?_
          rintro e w8 ⟨rfl, hg8⟩
          refine ⟨rfl, ?_⟩
          rw [hr.out]
          exact ⟨hG7.trans hg8, rfl⟩
        · have hq : decide (0 ≤ a) = false := by simpa using hi
          rw [hq]
          go_wp2_with fail
          refine (HMN.out 7 _ hG7).mono ?_
          rintro e w8 ⟨rfl, hg8⟩
          refine ⟨rfl, ?_⟩
          rw [hr.out]
          exact ⟨hG7.trans hg8, rfl⟩
      | none =>
        simp only [Option.getD, Option.isSome]
        go_wp2_with fail
        refine wp_region_held_drew (S := fun w' => w'.cell? ⟨w.heap.size, 0, none⟩ = some (ptrV b)) rfl b3 (fun hS => ?_)
        refine wpAnyH_take (i := 0) (v := ?_) rfl (by kernel_rfl) (by kernel_rfl) (by kernel_rfl) (fun _ _ _ h => h) (Or.inl ⟨by rfl, ?_⟩) hS ?_
        rotate_left
        · intro w' hSw; (try dsimp only at hSw); go_simp; try with_reducible rfl
        (try simp only [Act.put, List.setIfInBounds_toArray, List.set_cons_zero, List.set_cons_succ])
        refine wpAnyH_take (i := 1) (v := ?_) rfl (by kernel_rfl) (by kernel_rfl) (by kernel_rfl) (fun _ _ _ h => h) (Or.inl ⟨by rfl, ?_⟩) hS ?_
        rotate_left
        · intro w' hSw; (try dsimp only at hSw); go_simp; try with_reducible rfl
        (try simp only [Act.put, List.setIfInBounds_toArray, List.set_cons_zero, List.set_cons_succ])
        refine wpAnyH_take (i := 2) (v := ?_) rfl (by kernel_rfl) (by kernel_rfl) (by kernel_rfl) (fun _ _ _ h => h) (Or.inl ⟨by rfl, ?_⟩) hS ?_
        rotate_left
        · intro w' hSw; (try dsimp only at hSw); go_simp; try with_reducible rfl
        (try simp only [Act.put, List.setIfInBounds_toArray, List.set_cons_zero, List.set_cons_succ])
        refine wpAnyH_take (i := 3) (v := ?_) rfl (by kernel_rfl) (by kernel_rfl) (by kernel_rfl) (fun _ _ _ h => h) (Or.inl ⟨by rfl, ?_⟩) hS ?_
        rotate_left
        · intro w' hSw; (try dsimp only at hSw); go_simp; try with_reducible rfl
        (try simp only [Act.put, List.setIfInBounds_toArray, List.set_cons_zero, List.set_cons_succ])
        refine wpAnyH_take (i := 7) (v := ?_) rfl (by kernel_rfl) (by kernel_rfl) (by kernel_rfl) (fun _ _ _ h => h) (Or.inl ⟨by rfl, ?_⟩) hS ?_
        rotate_left
        · intro w' hSw; (try dsimp only at hSw); go_simp; try with_reducible rfl
        (try simp only [Act.put, List.setIfInBounds_toArray, List.set_cons_zero, List.set_cons_succ])
        refine wpAnyH_ready (rs := [4]) (by kernel_rfl) (by simp) ?_
        refine AllReadyH.cons rfl (fun K' hK => ?_) AllReadyH.nil
        simp only [List.getElem_toArray, List.getElem_cons_succ, List.getElem_cons_zero]
        go_simp
        refine (HNM.out _ hG3.drew).mono ?_
        rintro e w4 ⟨rfl, hg4⟩
        have B4 := hg4.blk HB3.out
        have hG4 : Gr w w4 := hG3.drew.trans hg4
        refine hK.out _ _ (cellAt B4 rfl) (fun hS => ?_)
        (try simp only [Act.put, List.setIfInBounds_toArray, List.set_cons_zero, List.set_cons_succ])
        refine wpAnyH_ready (rs := [5]) (by kernel_rfl) (by simp) ?_
        refine AllReadyH.cons rfl (fun K' hK => ?_) AllReadyH.nil
        simp only [List.getElem_toArray, List.getElem_cons_succ, List.getElem_cons_zero]
        go_simp
        refine (HIN.out _ hG4).mono ?_
        rintro e w4b ⟨rfl, hg4b⟩
        have B4b := hg4b.blk B4
        have hG4b := hG4.trans hg4b
        refine hK.out _ _ (cellAt B4b rfl) (fun hS => ?_)
        (try simp only [Act.put, List.setIfInBounds_toArray, List.set_cons_zero, List.set_cons_succ])
        refine wpAnyH_take (i := 6) (v := ?_) rfl (by kernel_rfl) (by kernel_rfl) (by kernel_rfl) (fun _ _ _ h => h) (Or.inl ⟨by rfl, ?_⟩) hS ?_
        rotate_left
        · intro w' hSw; (try dsimp only at hSw); go_simp; try with_reducible rfl
        (try simp only [Act.put, List.setIfInBounds_toArray, List.set_cons_zero, List.set_cons_succ])
        refine wpAnyH_ready (rs := [8]) (by kernel_rfl) (by simp) ?_
        refine AllReadyH.cons rfl (fun K' hK => ?_) AllReadyH.nil
        simp only [List.getElem_toArray, List.getElem_cons_succ, List.getElem_cons_zero]
        go_simp
        cases q
        · refine (HMN.out 5 _ hG4b).mono ?_
          rintro e w5 ⟨rfl, hg5⟩
          refine ⟨rfl, ?_⟩
          rw [HRC.out, hCC.out]
          exact ⟨hG4b.trans hg5, rfl⟩
        · refine (HMY.out 5 _).mono ?_
          rintro e w5 ⟨rfl, hg5⟩
          have B5 := hg5.blk B4b
          refine hK.out _ _ (cellAt B5 rfl) (fun hS => ?_)
          (try simp only [Act.put, List.setIfInBounds_toArray, List.set_cons_zero, List.set_cons_succ])
          refine wpAnyH_done (by kernel_rfl) ?_ _
          have hG5 : Gr w w5 := hG4b.trans hg5
          have hQ5 : Gr wr w5 := ((hQ3.drew.trans hg4).trans hg4b).trans hg5
          obtain ⟨c0, c1, c2, _, _⟩ := (HC.out.gr hG5).cells
          have hl5 := (HC.out.gr hG5).lt
          have b5 := cellAt B5 (i := 0) rfl
          have HB5 := Lib.hid B5
          clear hK B5 hg5 b3 B4 B4b hg4 hg4b hG4 hG4b
          go_wp2_with fail
          refine wp_region_held_drew (S := fun w' => w'.cell? ⟨w.heap.size, 0, none⟩ = some (ptrV b) ∧ w'.cell? ⟨C.cb, 0, none⟩ = some C.sv ∧ w'.cell? ⟨C.cb, 1, none⟩ = some C.gv ∧ w'.cell? ⟨C.cb, 2, none⟩ = some C.fv) rfl ⟨b5, c0, c1, c2⟩ (fun hS => ?_)
          refine wpAnyH_take (i := 0) (v := ?_) rfl (by kernel_rfl) (by kernel_rfl) (by kernel_rfl) (fun _ _ _ h => h) (Or.inl ⟨by rfl, ?_⟩) hS ?_
          rotate_left
          · intro w' hSw; (try dsimp only at hSw); go_simp; try with_reducible rfl
          (try simp only [Act.put, List.setIfInBounds_toArray, List.set_cons_zero, List.set_cons_succ])
          refine wpAnyH_take (i := 1) (v := ?_) rfl (by kernel_rfl) (by kernel_rfl) (by kernel_rfl) (fun _ _ _ h => h) (Or.inl ⟨by rfl, ?_⟩) hS ?_
          rotate_left
          · intro w' hSw; (try dsimp only at hSw); go_simp; try with_reducible rfl
          (try simp only [Act.put, List.setIfInBounds_toArray, List.set_cons_zero, List.set_cons_succ])
          refine wpAnyH_take (i := 2) (v := ?_) rfl (by kernel_rfl) (by kernel_rfl) (by kernel_rfl) (fun _ _ _ h => h) (Or.inl ⟨by rfl, ?_⟩) hS ?_
          rotate_left
          · intro w' hSw; (try dsimp only at hSw); go_simp; try with_reducible rfl
          (try simp only [Act.put, List.setIfInBounds_toArray, List.set_cons_zero, List.set_cons_succ])
          refine wpAnyH_take (i := 3) (v := ?_) rfl (by kernel_rfl) (by kernel_rfl) (by kernel_rfl) (fun _ _ _ h => h) (Or.inl ⟨by rfl, ?_⟩) hS ?_
          rotate_left
          · intro w' hSw; (try dsimp only at hSw); go_simp; try with_reducible rfl
          (try simp only [Act.put, List.setIfInBounds_toArray, List.set_cons_zero, List.set_cons_succ])
          refine wpAnyH_take (i := 4) (v := ?_) rfl (by kernel_rfl) (by kernel_rfl) (by kernel_rfl) (fun _ _ _ h => h) (Or.inl ⟨by rfl, ?_⟩) hS ?_
          rotate_left
          · intro w' hSw; (try dsimp only at hSw); go_simp; try with_reducible rfl
          (try simp only [Act.put, List.setIfInBounds_toArray, List.set_cons_zero, List.set_cons_succ])
          refine wpAnyH_ready (rs := [5]) (by kernel_rfl) (by simp) ?_
          refine AllReadyH.cons rfl (fun K' hK => ?_) AllReadyH.nil
          simp only [List.getElem_toArray, List.getElem_cons_succ, List.getElem_cons_zero]
          go_simp
          refine (HNM.out _ hG5.drew).mono ?_
          rintro e w6 ⟨rfl, hg6⟩
          have B6 := hg6.blk HB5.out
          have hG6 : Gr w w6 := hG5.drew.trans hg6
          have hQ6 : Gr wr w6 := hQ5.drew.trans hg6
          obtain ⟨x0, x1, x2, _, _⟩ := (HC.out.gr hG6).cells
          refine hK.out _ _ ⟨cellAt B6 rfl, x0, x1, x2⟩ (fun hS => ?_)
          (try simp only [Act.put, List.setIfInBounds_toArray, List.set_cons_zero, List.set_cons_succ])
          refine wpAnyH_ready (rs := [6]) (by kernel_rfl) (by simp) ?_
          refine AllReadyH.cons rfl (fun K' hK => ?_) AllReadyH.nil
          simp only [List.getElem_toArray, List.getElem_cons_succ, List.getElem_cons_zero]
          go_simp
          refine (HFN.out _ hG6).mono ?_
          rintro e w7 ⟨rfl, hg7⟩
          have B7 := hg7.blk B6
          have hG7 : Gr w w7 := hG6.trans hg7
          have hQ7 : Gr wr w7 := hQ6.trans hg7
          obtain ⟨y0, y1, y2, _, _⟩ := (HC.out.gr hG7).cells
          refine hK.out _ _ ⟨cellAt B7 rfl, y0, y1, y2⟩ (fun hS => ?_)
          (try simp only [Act.put, List.setIfInBounds_toArray, List.set_cons_zero, List.set_cons_succ])
          refine wpAnyH_take (i := 7) (v := ?_) rfl (by kernel_rfl) (by kernel_rfl) (by kernel_rfl) (fun _ _ _ h => h) (Or.inl ⟨by rfl, ?_⟩) hS ?_
          rotate_left
          · intro w' hSw; (try dsimp only at hSw); go_simp; try with_reducible rfl
          (try simp only [Act.put, List.setIfInBounds_toArray, List.set_cons_zero, List.set_cons_succ])
          refine wpAnyH_take (i := 8) (v := ?_) rfl (by kernel_rfl) (by kernel_rfl) (by kernel_rfl) (fun _ _ _ h => h) (Or.inl ⟨by rfl, ?_⟩) hS ?_
          rotate_left
          · intro w' hSw; (try dsimp only at hSw); go_simp; try with_reducible rfl
          (try simp only [Act.put, List.setIfInBounds_toArray, List.set_cons_zero, List.set_cons_succ])
          refine wpAnyH_take (i := 9) (v := ?_) rfl (by kernel_rfl) (by kernel_rfl) (by kernel_rfl) (fun _ _ _ h => h) (Or.inl ⟨by rfl, ?_⟩) hS ?_
          rotate_left
          · intro w' hSw; (try dsimp only at hSw); go_simp; try with_reducible rfl
          (try simp only [Act.put, List.setIfInBounds_toArray, List.set_cons_zero, List.set_cons_succ])
          refine wpAnyH_take (i := 10) (v := ?_) rfl (by kernel_rfl) (by kernel_rfl) (by kernel_rfl) (fun _ _ _ h => h) (Or.inl ⟨by rfl, ?_⟩) hS ?_
          rotate_left
          · intro w' hSw; (try dsimp only at hSw); go_simp; try with_reducible rfl
          (try simp only [Act.put, List.setIfInBounds_toArray, List.set_cons_zero, List.set_cons_succ])
          refine wpAnyH_take (i := 11) (v := ?_) rfl (by kernel_rfl) (by kernel_rfl) (by kernel_rfl) (fun _ _ _ h => h) (Or.inl ⟨by rfl, ?_⟩) hS ?_
          rotate_left
          · intro w' hSw; (try dsimp only at hSw); go_simp; try with_reducible rfl
          (try simp only [Act.put, List.setIfInBounds_toArray, List.set_cons_zero, List.set_cons_succ])
          refine wpAnyH_done (by kernel_rfl) ?_ _
          have b7 := cellAt B7 (i := 0) rfl
          have hl7 := blkLt B7
          have HB7 := Lib.hid B7
          clear hK B6 hg6 hg7 hG6 HB5 b5 c0 c1 c2 B7 hl5 x0 x1 x2 y0 y1 y2
          by_cases hi : 0 ≤ a
          · obtain ⟨m, rfl⟩ := Int.eq_ofNat_of_zero_le hi
            have hml : m < C.x.funs.length := by omega
            have hq : decide (0 ≤ (m : Int)) = true := by simp
            have hmx : max (m : Int) 0 = m := by omega
            rw [hq, hmx]
            obtain ⟨gs, offs, cs, fv, hsv, hgs, s0, s1, s2, hfl⟩ := HSG.out.get (j := m) (s := C.x.funs[m]) (by simp [hml])
            have hfp := hpl C.x.funs[m] (List.getElem_mem hml)
            obtain ⟨⟨fname, params, result⟩, hf⟩ : ∃ f, C.x.funs[m] = f := ⟨_, rfl⟩
            rw [hf] at s0 s2 hfl hfp
            simp only [] at s0 s2 hfl hfp
            have hRF : R = if pre.length ≠ params.length then .err at_ 7 else cbind (fitsC at_ pre params) fun _ => .ok result := by
              rw [HRC.out, hCC.out]
              have h1 : C.x.funs[((m : Int)).toNat]? = some ⟨fname, params, result⟩ := by simp [hml, hf]
              rw [h1]
              simp only [Option.isNone, Bool.not_true, Bool.and_false, Bool.false_eq_true, if_false, Option.isSome, or_false]
              rw [if_neg (by omega)]
            obtain ⟨nf, hnf⟩ : ∃ nf, nf = C.x.funs.length := ⟨_, rfl⟩
            rw [← hnf] at hsv hml hahi
            obtain ⟨Af, cf, hfv⟩ := hfl.slice
            have HFLD := Lib.hid hfl
            rw [hfv] at s1
            obtain ⟨np, hnp⟩ : ∃ np, np = params.length := ⟨_, rfl⟩
            rw [← hnp] at s1 hfp hRF
            rw [HPL.out] at hRF
            have HRF := Lib.hid hRF
            have HNP := Lib.hid hnp
            have HFV := Lib.hid hfv
            have HS0 := Lib.hid (fun w' (hg : Gr w w') => (hg.cells.1 gs (offs + m * 3) hgs).trans s0)
            have HS1 := Lib.hid (fun w' (hg : Gr w w') => (hg.cells.1 gs (offs + m * 3 + 1) hgs).trans s1)
            have HS2 := Lib.hid (fun w' (hg : Gr w w') => (hg.cells.1 gs (offs + m * 3 + 2) hgs).trans s2)
            have HSV := Lib.hid hsv
            clear hf hRF hnf hnp s0 s1 s2 hsv hfv hq hmx hi hfl
            go_wp2_with fail
            refine (HMY.out 7 _).mono ?_
            rintro e w8 ⟨rfl, hg8⟩
            have B8 := hg8.blk HB7.out
            have hG8 := hG7.trans hg8
            have d2 := (HC.out.gr hG8).cells.2.2.1
            have hl8 := (HC.out.gr hG8).lt
            rw [HSV.out] at d2
            have s0 := HS0.out w8 hG8
            have s1 := HS1.out w8 hG8
            have s2 := HS2.out w8 hG8
            have b8 := cellAt B8 (i := 0) rfl
            have hlb8 := blkLt B8
            have HB8 := Lib.hid B8
            have hQ8 : Gr wr w8 := hQ7.trans hg8
            clear hg8 B8 b7 hl7 hQ7
            by_cases hjn : j = np
            · have hjb : ((j : Int) == (np : Int)) = true := by simp [hjn]
              have HRK : Hid (R = cbind (fitsC at_ (pre.drop 0) (params.drop 0)) fun _ => .ok result) := by
                show R = _
                rw [HRF.out, if_neg (by omega)]; rfl
              have hjnp := hjn
              clear hjn
              go_wp2_with fail
              refine (HMY.out 7 _).mono ?_
              rintro e w9 ⟨rfl, hg9⟩
              have hGa : Gr w8 w9 := (Gr.al _ _).trans hg9
              have B9 := hGa.blk HB8.out
              have F9 := hg9.blk (blk_alloc w8 (.cells #[.string (S fname), .slice Af np cf, .string (S result)] 147))
              obtain ⟨f0, f1, f2⟩ := cells3 F9
              have hlf9 := blkLt F9
              have hG9 := hG8.trans hGa
              have hQ9 : Gr wr w9 := hQ8.trans hGa
              have HB9 := Lib.hid B9
              have HF9 := Lib.hid F9
              have HQ9 := Lib.hid hQ9
              clear B9 F9 hGa hg9 b8 hlb8 d2 s0 s1 s2 hQ8 hQ9
              go_wp2_with fail
              go_loopw [81] (fun t wz => ∃ k : Nat, k ≤ np ∧ t = .int .i64 k ∧ Gr w9 wz ∧ Hid (R = cbind (fitsC at_ (pre.drop k) (params.drop k)) fun _ => .ok result)) (fun t _ => np - (intOf t).toNat)
              case atStart => exact ⟨0, by omega, rfl, Gr.refl _, HRK.out⟩
              case round =>
                obtain ⟨k, hk, rfl, hgz, hRk⟩ := hrel
                have HRk := Lib.hid hRk.out
                clear hRk
                have Bz := hgz.blk HB9.out
                have Fz := hgz.blk HF9.out
                have bz := cellAt Bz (i := 0) rfl
                obtain ⟨z0, z1, z2⟩ := cells3 Fz
                have hlbz := blkLt Bz
                have hlfz := blkLt Fz
                have hGz := hG9.trans hgz
                have HBz := Lib.hid Bz
                clear Bz Fz
                by_cases hlt : k < np
                · have hkp : k < params.length := by rw [← HNP.out]; exact hlt
                  have hkr : k < pre.length := by rw [HPL.out]; omega
                  obtain ⟨gp, offp, cp, hv, hcp, hgp, p0, p1⟩ := HFLD.out.get (j := k) (f := params[k]) (by simp [hkp])
                  rw [HFV.out] at hv
                  injection hv with hv1 hv2 hv3
                  subst hv1 hv3
                  obtain ⟨ga, offa, rfl, hga, _, hca2⟩ := (HRA.out.gr (HQ9.out.trans hgz)).open_ (j := k) (by simpa [strCells] using hkr)
                  have ha1 := hca2 k (.string (S pre[k])) (by simp [strCells, hkr])
                  have hp1 := (hGz.cells.1 gp (offp + k * 2 + 1) hgp).trans p1
                  have hp0 := (hGz.cells.1 gp (offp + k * 2) hgp).trans p0
                  obtain ⟨u, hu⟩ : ∃ u, (params[k]).name = u := ⟨_, rfl⟩
                  rw [hu] at hp0
                  have hfst := fitsC_drop at_ pre params k pre[k] params[k] (by simp [hkr]) (by simp [hkp])
                  obtain ⟨pa, hpa⟩ : ∃ x, pre[k] = x := ⟨_, rfl⟩
                  obtain ⟨pt, hpt⟩ : ∃ x, (params[k]).typ = x := ⟨_, rfl⟩
                  rw [hpa] at ha1 hfst
                  rw [hpt] at hp1 hfst
                  have hsh : pt.length < 1000000 := by
                    apply Decidable.byContradiction
                    intro hc
                    exact HBD.out (by rw [HRk.out, hfst]; unfold shortC; rw [if_neg hc]; rfl)
                  unfold shortC at hfst
                  rw [if_pos hsh] at hfst
                  have HFT := Lib.hid (isFit_any pa pt hsh)
                  obtain ⟨q2, hq2⟩ : ∃ q2, isFitP pa pt = q2 := ⟨_, rfl⟩
                  rw [hq2] at HFT hfst
                  have HST := Lib.hid hfst
                  clear hca2 hfst hpa hpt hq2 p0 p1 hv2 hu
                  go_wp2_with fail
                  have N1 := blk_alloc wr (.cells #[.string (S u), .string (S pt)] 93)
                  have M1 := blk_alloc_lt (o' := .cells #[.string (S u), .string (S pt)] 93) HBz.out
                  have n1 := cellAt N1 (i := 1) rfl
                  have m1 := cellAt M1 (i := 0) rfl
                  have a1 : (wr.alloc (.cells #[.string (S u), .string (S pt)] 93)).cell? ⟨ga, offa + k, none⟩ = some (.string (S pa)) := ((Gr.al wr _).cells.1 ga (offa + k) hga).trans ha1
                  refine wp_region_held_drew (S := fun w' => w'.cell? ⟨w.heap.size, 0, none⟩ = some (ptrV b) ∧ w'.cell? ⟨wr.heap.size, 1, none⟩ = some (.string (S pt)) ∧ w'.cell? ⟨ga, offa + k, none⟩ = some (.string (S pa))) rfl ⟨m1, n1, a1⟩ (fun hS => ?_)
                  refine wpAnyH_take (i := 0) (v := ?_) rfl (by kernel_rfl) (by kernel_rfl) (by kernel_rfl) (fun _ _ _ h => h) (Or.inl ⟨by rfl, ?_⟩) hS ?_
                  rotate_left
                  · intro w' hSw; (try dsimp only at hSw); go_simp; try with_reducible rfl
                  (try simp only [Act.put, List.setIfInBounds_toArray, List.set_cons_zero, List.set_cons_succ])
                  refine wpAnyH_take (i := 1) (v := ?_) rfl (by kernel_rfl) (by kernel_rfl) (by kernel_rfl) (fun _ _ _ h => h) (Or.inl ⟨by rfl, ?_⟩) hS ?_
                  rotate_left
                  · intro w' hSw; (try dsimp only at hSw); go_simp; try with_reducible rfl
                  (try simp only [Act.put, List.setIfInBounds_toArray, List.set_cons_zero, List.set_cons_succ])
                  refine wpAnyH_take (i := 2) (v := ?_) rfl (by kernel_rfl) (by kernel_rfl) (by kernel_rfl) (fun _ _ _ h => h) (Or.inl ⟨by rfl, ?_⟩) hS ?_
                  rotate_left
                  · intro w' hSw; (try dsimp only at hSw); go_simp; try with_reducible rfl
                  (try simp only [Act.put, List.setIfInBounds_toArray, List.set_cons_zero, List.set_cons_succ])
                  refine wpAnyH_take (i := 3) (v := ?_) rfl (by kernel_rfl) (by kernel_rfl) (by kernel_rfl) (fun _ _ _ h => h) (Or.inl ⟨by rfl, ?_⟩) hS ?_
                  rotate_left
                  · intro w' hSw; (try dsimp only at hSw); go_simp; try with_reducible rfl
                  (try simp only [Act.put, List.setIfInBounds_toArray, List.set_cons_zero, List.set_cons_succ])
                  refine wpAnyH_take (i := 4) (v := ?_) rfl (by kernel_rfl) (by kernel_rfl) (by kernel_rfl) (fun _ _ _ h => h) (Or.inl ⟨by rfl, ?_⟩) hS ?_
                  rotate_left
                  · intro w' hSw; (try dsimp only at hSw); go_simp; try with_reducible rfl
                  (try simp only [Act.put, List.setIfInBounds_toArray, List.set_cons_zero, List.set_cons_succ])
                  refine wpAnyH_take (i := 5) (v := ?_) rfl (by kernel_rfl) (by kernel_rfl) (by kernel_rfl) (fun _ _ _ h => h) (Or.inl ⟨by rfl, ?_⟩) hS ?_
                  rotate_left
                  · intro w' hSw; (try dsimp only at hSw); go_simp; try with_reducible rfl
                  (try simp only [Act.put, List.setIfInBounds_toArray, List.set_cons_zero, List.set_cons_succ])
                  refine wpAnyH_take (i := 7) (v := ?_) rfl (by kernel_rfl) (by kernel_rfl) (by kernel_rfl) (fun _ _ _ h => h) (Or.inl ⟨by rfl, ?_⟩) hS ?_
                  rotate_left
                  · intro w' hSw; (try dsimp only at hSw); go_simp; try with_reducible rfl
                  (try simp only [Act.put, List.setIfInBounds_toArray, List.set_cons_zero, List.set_cons_succ])
                  refine wpAnyH_ready (rs := [6]) (by kernel_rfl) (by simp) ?_
                  refine AllReadyH.cons rfl (fun K' hK => ?_) AllReadyH.nil
                  simp only [List.getElem_toArray, List.getElem_cons_succ, List.getElem_cons_zero]
                  go_simp
                  refine (HFT.out _).mono ?_
                  rintro e wy ⟨rfl, hgy⟩
                  have hGy : Gr wr wy := ((Gr.al _ _).drew).trans hgy
                  refine hK.out _ _ ⟨cellAt (hgy.blk M1) rfl, cellAt (hgy.blk N1) rfl, (hgy.cells.1 ga (offa + k) (Nat.lt_trans hga (by simp))).trans a1⟩ (fun hS => ?_)
                  (try simp only [Act.put, List.setIfInBounds_toArray, List.set_cons_zero, List.set_cons_succ])
                  refine wpAnyH_ready (rs := [8]) (by kernel_rfl) (by simp) ?_
                  refine AllReadyH.cons rfl (fun K' hK => ?_) AllReadyH.nil
                  simp only [List.getElem_toArray, List.getElem_cons_succ, List.getElem_cons_zero]
                  go_simp
                  cases q2
                  · refine (HMN.out 7 _ (hGz.trans hGy)).mono ?_
                    rintro e wx ⟨rfl, hgx⟩
                    refine ⟨rfl, ?_⟩
                    have hr : R = .err at_ 7 := by rw [HRk.out, HST.out]; rfl
                    rw [hr]
                    exact ⟨(hGz.trans hGy).trans hgx, rfl⟩
                  · refine (HMY.out 7 _).mono ?_
                    rintro e wx ⟨rfl, hgx⟩
                    refine hK.out _ _ ⟨cellAt (hgx.blk (hgy.blk M1)) rfl, cellAt (hgx.blk (hgy.blk N1)) rfl, ((hGy.trans hgx).cells.1 ga (offa + k) hga).trans ha1⟩ (fun hS => ?_)
                    (try simp only [Act.put, List.setIfInBounds_toArray, List.set_cons_zero, List.set_cons_succ])
                    refine wpAnyH_done (by kernel_rfl) ?_ _
                    have hGx : Gr w9 wx := hgz.trans (hGy.trans hgx)
                    clear hK hgx hGy hgy N1 M1 n1 m1 a1 ha1 hp1 hp0
                    go_wp2_with fail
                    go_roundw
                    case rel =>
                      refine ⟨k + 1, by omega, by go_num, hGx, ?_⟩
                      show R = _
                      rw [HRk.out, HST.out]; rfl
                    case measure => simp [intOf]; omega
                · have hr : Hid (R = .ok result) := by
                    show R = .ok result
                    rw [HRk.out, List.drop_of_length_le (by rw [HPL.out]; omega), List.drop_of_length_le (by rw [← HNP.out]; omega)]; rfl
                  go_wp2_with fail
                  go_ret
                  rw [hr.out]
                  exact ⟨hGz, rfl⟩
            · have hjb : ((j : Int) == (np : Int)) = false := by simp; omega
              have hr : Hid (R = .err at_ 7) := by
                show R = .err at_ 7
                rw [HRF.out, if_pos hjn]
              clear hjn
              go_wp2_with fail
              refine (HMN.out 7 _ (hG8.alloc _)).mono ?_
              rintro e w9 ⟨rfl, hg9⟩
              refine ⟨rfl, ?_⟩
              rw [hr.out]
              exact ⟨(hG8.alloc _).trans hg9, rfl⟩
          · have hq : decide (0 ≤ a) = false := by simpa using hi
            rw [hq]
            have hr : Hid (R = .err at_ 7) := by
              show R = .err at_ 7
              rw [HRC.out, hCC.out]; simp; omega
            go_wp2_with fail
            refine (HMN.out 7 _ hG7).mono ?_
            rintro e w8 ⟨rfl, hg8⟩
            refine ⟨rfl, ?_⟩
            rw [hr.out]
            exact ⟨hG7.trans hg8, rfl⟩
end Go.Proofs.YthniejnbkkkbnaaGreatDoor
