/- Walks of layer check: block. Walks of layer check: stmt. -/
import Derived.Test.YthniejnbkkkbnaaGreatDoorM21
import Derived.StillTailTactics
set_option linter.all false
set_option linter.unusedSimpArgs false
set_option linter.unusedVariables false
namespace Go.Proofs.YthniejnbkkkbnaaGreatDoor
open Go.RowKit
set_option maxRecDepth 100000
set_option maxHeartbeats 4000000

abbrev mapV (m : Nat) : Value := .map (some m)
theorem grownSetB (w : World) (a : Addr) (v : Value) : w.grownBy (w.setCell a v) (some a.block) :=
  ⟨rfl, rfl, rfl, by rw [World.size_setCell]; exact Nat.le_refl _, fun k _ hn => Below.heap_setCell _ _ _ _ fun e => hn (by rw [e])⟩
theorem CkAt.bv_cb {C : CK} {bl : List Blk} {ms : List Nat} {bv : Value} {w : World} (h : CkAt C bl ms bv w) : some C.cb ≠ bv.ownBlock := fun e => by
  have := (h.row.lt _ e.symm).1; have := h.hcb; omega
theorem CkAt.push {C : CK} {bl : List Blk} {ms : List Nat} {bv v' : Value} {w w2 : World} {nb : Nat} (h : CkAt C bl ms bv w) (hm : MapAt encS w nb []) (hnb : C.B ≤ nb) (hnn : nb ∉ ms)
    (hr : w2.ownsRow C.B 150 1 v' (bl.length + 1) ((ms.map fun m => .map (some m)) ++ [mapV nb])) (hg : w.grownBy w2 bv.ownBlock) (hlb : bl.length + 1 < 1000000) :
    CkAt C (bl ++ [[]]) (ms ++ [nb]) v' (w2.setCell ⟨C.cb, 3, none⟩ v') := by
  have hbX : ∀ k, C.X k → some k ≠ bv.ownBlock := fun k hk e => h.own_X hk (.inr (.inl e))
  have hkm : ∀ k L, MapAt encS w k L → some k ≠ bv.ownBlock := fun k L hk e => by
    obtain ⟨es, cl, hb, _⟩ := hk
    rcases h.row.2 with ⟨hv, _⟩ | ⟨g, cap, cur, hv, _, hgh, _⟩
    · rw [hv] at e; cases e
    · rw [hv] at e
      injection e with e
      subst e
      rw [hgh] at hb; cases hb
  have hsX : ∀ k, C.X k → k < w.heap.size → (w2.setCell ⟨C.cb, 3, none⟩ v').heap[k]? = w.heap[k]? := fun k hk hlt => by
    rw [Below.heap_setCell _ _ _ _ (by simpa using hk.2), hg.block k hlt (hbX k hk)]
  have hmm : ∀ k L, C.B ≤ k → MapAt encS w k L → MapAt encS (w2.setCell ⟨C.cb, 3, none⟩ v') k L := fun k L hB hk => hk.frame (by
    rw [Below.heap_setCell _ _ _ _ (by have := h.hcb; simp; omega), hg.block k hk.lt (hkm k L hk)])
  have hcb2 : w2.heap[C.cb]? = some (.cells #[C.sv, C.gv, C.fv, bv, .string (S C.res)] 118 (0, 0)) := by rw [hg.block _ h.lt h.bv_cb]; exact h.blk
  refine ⟨?_, h.st.frame hsX, PairsAt.frame h.fl hsX, h.sg.frame hsX, ?_, by simp [h.ml], ?_, ?_, ?_, h.hcb, h.ls, h.lg, h.lf, by simpa using hlb⟩
  · have := blk_setCell (i := 3) (v := v') hcb2
    rw [this]; rfl
  · have hk := hr.kept (grownSetB w2 ⟨C.cb, 3, none⟩ v') (by
      cases hv : v'.ownBlock with
      | none => exact .inl rfl
      | some k =>
        refine .inr fun e => ?_
        have e2 : k = C.cb := by simpa using e
        have h1 := (hr.lt k hv).1
        have h2 := h.hcb
        omega)
    have e : (bl ++ [[]]).length = bl.length + 1 := by simp
    rw [e]
    simpa using hk
  · intro i k b hk hb
    rcases Nat.lt_or_ge i bl.length with hi | hi
    · rw [List.getElem?_append_left (by rw [h.ml]; exact hi)] at hk
      rw [List.getElem?_append_left hi] at hb
      have h1 := h.mp i k b hk hb
      exact ⟨h1.1, hmm k _ h1.1 h1.2⟩
    · rw [List.getElem?_append_right hi] at hb
      rw [List.getElem?_append_right (by rw [h.ml]; exact hi), h.ml] at hk
      match hj : i - bl.length, hk, hb with
      | 0, hk, hb =>
        injection hk with hk
        injection hb with hb
        subst hk hb
        exact ⟨hnb, hmm _ _ hnb hm⟩
      | n + 1, hk, hb => simp at hb
  · rw [List.nodup_append]
    exact ⟨h.nd, by simp, fun a ha b hb e => by have := List.mem_singleton.1 hb; subst this; subst e; exact hnn ha⟩
  · rw [World.size_setCell]; exact Nat.le_trans h.hB hg.size
theorem CkAt.pop {C : CK} {bl : List Blk} {m : Blk} {ms : List Nat} {mb : Nat} {g n cap : Nat} {w : World} (h : CkAt C (bl ++ [m]) (ms ++ [mb]) (.slice (some ⟨g, 0, none⟩) (n + 1) cap) w) (hn : n = bl.length) :
    CkAt C bl ms (.slice (some ⟨g, 0, none⟩) n cap) (w.setCell ⟨C.cb, 3, none⟩ (.slice (some ⟨g, 0, none⟩) n cap)) := by
  have hml : ms.length = bl.length := by have := h.ml; simpa using this
  have hsX : ∀ k, C.X k → k < w.heap.size → (w.setCell ⟨C.cb, 3, none⟩ (.slice (some ⟨g, 0, none⟩) n cap)).heap[k]? = w.heap[k]? := fun k hk hlt => Below.heap_setCell _ _ _ _ (by simpa using hk.2)
  refine ⟨?_, h.st.frame hsX, PairsAt.frame h.fl hsX, h.sg.frame hsX, ?_, hml, ?_, ?_, ?_, h.hcb, h.ls, h.lg, h.lf, by have := h.lb; simp at this; omega⟩
  · have := blk_setCell (i := 3) (v := .slice (some ⟨g, 0, none⟩) n cap) h.blk
    rw [this]; rfl
  · have hr := h.row
    have hlt := hr.lt g rfl
    obtain ⟨hsz, h1⟩ := hr
    rcases h1 with ⟨hv, _⟩ | ⟨g', cap', cur, hv, hb, hg, h2, h3, h4, h5⟩
    · cases hv
    · injection hv with e1 e2 e3
      injection e1 with e1
      injection e1 with e1
      subst e1 e3
      have hne : g ≠ C.cb := by have := h.hcb; omega
      refine ⟨by simp; omega, .inr ⟨g, cap, cur, by rw [hn], hb, blk_setCell_ne hg hne, by simp at h2; omega, h3, h4, ?_⟩⟩
      have := congrArg (List.take (bl.length * 1)) h5
      rw [List.take_take] at this
      simp only [List.map_append, List.map_cons, List.map_nil] at this
      rw [List.take_left' (by simp; omega)] at this
      rw [← this]
      congr 1
      first | (simp; done) | (simp; omega)
  · intro i k b hk hb
    have hi : i < bl.length := (List.getElem?_eq_some_iff.1 hb).1
    have h1 := h.mp i k b (by rw [List.getElem?_append_left (by omega)]; exact hk) (by rw [List.getElem?_append_left hi]; exact hb)
    exact ⟨h1.1, h1.2.frame (Below.heap_setCell _ _ _ _ (by have := h1.1; have := h.hcb; simp; omega))⟩
  · have := h.nd
    rw [List.nodup_append] at this
    exact this.1
  · rw [World.size_setCell]; exact h.hB

theorem info_mss : (Tryz.prog.info? 150).map (fun i => (i.zero, i.size, i.bytes)) = some (some (.map none), 1, 8) := by kernel_rfl
def blockR (x : Info) (res : Str) (ks : List T) (bl : List Blk) : CR (List Blk) := if 100000 ≤ bl.length then .bad else cbind (insideC x res ks (bl ++ [[]])) fun bl => .ok bl.dropLast
theorem cblock_any (C : CK) (d : D) (ks : List T) (ih : ∀ a ∈ ks, StmtOk C a) (bl : List Blk) (ms : List Nat) (bv : Value) (b : Nat) (w : World) (h : CkAt C bl ms bv w) (ht : TreeAt w C.X b (.mk d ks)) (hkl : ks.length < 1000000) (hsa : ∀ a ∈ ks, smallT a = true)
    (hbad : blockR C.x C.res ks bl ≠ .bad) : Calls Tryz.prog 160 #[ptrV C.cb, nodeV b] w (SPost C ms bv w (blockR C.x C.res ks bl)) := by
  have hl5 : bl.length < 100000 := by
    apply Decidable.byContradiction
    intro hc
    exact hbad (by unfold blockR; rw [if_pos (by omega)])
  have hRV : blockR C.x C.res ks bl = cbind (insideC C.x C.res ks (bl ++ [[]])) fun bl => .ok bl.dropLast := by unfold blockR; rw [if_neg (by omega)]
  have HC := Lib.hid h
  have HT := Lib.hid ht
  obtain ⟨n, hn⟩ : ∃ n, n = bl.length := ⟨_, rfl⟩
  rw [← hn] at hl5
  have HN := Lib.hid hn
  have hmm := @run_makeMap Tryz.prog
  obtain ⟨i0, hi0, hz0, hz1, hz2⟩ := info_parts info_mss
  obtain ⟨R, hR⟩ : ∃ R, blockR C.x C.res ks bl = R := ⟨_, rfl⟩
  rw [hR] at hbad hRV ⊢
  have HR := Lib.hid hRV
  have HBD := Lib.hid hbad
  have hrow := h.row
  rw [← hn] at hrow
  have c3 := h.cells.2.2.2.1
  have hlt := h.lt
  have hcf := frozenAt h.blk
  have HROW := Lib.hid hrow
  clear h ht hR hRV hbad hn hrow
  go_enter Tryz.func160, Tryz.ntmps160
  have hg2 : Gr w (((w.alloc (.cells #[ptrV b] 53)).alloc (.map #[] 0)).alloc (.cells #[mapV (w.heap.size + 1)] 150)) := ((Gr.al _ _).alloc _).alloc _
  have hnB : C.B ≤ w.heap.size := HC.out.hB
  go_wp2_with (at_builtin; refine wpList_append_lies _ rfl _ _ 116 rfl C.B 150 i0 _ 1 8 Tryz.underlying116 hi0 hz0 hz1 hz2 rfl (by decide) bv n (ms.map fun m => .map (some m)) rfl (ownGr HROW.out hg2) ⟨w.heap.size + 1 + 1, 0, none⟩ 1 1 [mapV (w.heap.size + 1)] rfl rfl ?c1 ?c2 (by decide) ?c3 ?c4 ?c5 (w.heap.size + 1 + 1 + 1) ?c6 ?_)
  case c1 =>
    have := blk_alloc ((w.alloc (.cells #[ptrV b] 53)).alloc (.map #[] 0)) (.cells #[mapV (w.heap.size + 1)] 150)
    simp only [World.size_alloc] at this
    exact World.news_of_block this
  case c2 => simp [Value.oneCell']
  case c3 => unfold maxLen; omega
  case c4 => omega
  case c5 => simp; omega
  case c6 => simp
  intro g cap w2 hown2 hgrow hat hglt
  have hCB := HC.out.gr hg2
  have hcb2 : w2.heap[C.cb]? = some (.cells #[C.sv, C.gv, C.fv, bv, .string (S C.res)] 118 (0, 0)) := by rw [hgrow.block _ hCB.lt hCB.bv_cb]; exact hCB.blk
  have hbo : ∀ k, bv.ownBlock = some k → C.B ≤ k ∧ k < w.heap.size := HROW.out.lt
  have hb2 : w2.heap[w.heap.size]? = some (.cells #[ptrV b] 53 (0, 0)) := by
    rw [hgrow.block _ (by simp; omega) (fun e => by have := hbo _ e.symm; omega)]
    exact blk_alloc_lt (blk_alloc_lt (blk_alloc _ _))
  have hmap : MapAt (α := Str) encS (((w.alloc (.cells #[ptrV b] 53)).alloc (.map #[] 0)).alloc (.cells #[mapV (w.heap.size + 1)] 150)) (w.heap.size + 1) [] := by
    have := (MapAt.made (α := Str) encS (w.alloc (.cells #[ptrV b] 53))).gr (Gr.al _ (.cells #[mapV (w.heap.size + 1)] 150))
    simpa using this
  have hown2' : w2.ownsRow C.B 150 1 (.slice (some ⟨g, 0, none⟩) (n + 1) cap) (bl.length + 1) ((ms.map fun m => .map (some m)) ++ [mapV (w.heap.size + 1)]) := by rw [← HN.out]; exact hown2
  have hck3 := hCB.push hmap (by omega) (fun hm => by have := HC.out.own_lt (.inr (.inr hm)); omega) hown2' hgrow (by rw [← HN.out]; omega)
  have hfr3 : Fr (COwn C bv ms) w (w2.setCell ⟨C.cb, 3, none⟩ (.slice (some ⟨g, 0, none⟩) (n + 1) cap)) :=
    ⟨hgrow.os.trans hg2.os, hgrow.tape.trans hg2.tape, hgrow.output.trans hg2.output, by rw [World.size_setCell]; exact Nat.le_trans hg2.size hgrow.size, fun k hk hn => by
      rw [Below.heap_setCell _ _ _ _ (fun e => hn (.inl e)), hgrow.block k (Nat.lt_of_lt_of_le hk hg2.size) (fun e => hn (.inr (.inl e))), hg2.block k hk]⟩
  have hsr3 : SRel C bv ms w (.slice (some ⟨g, 0, none⟩) (n + 1) cap) (ms ++ [w.heap.size + 1]) (w2.setCell ⟨C.cb, 3, none⟩ (.slice (some ⟨g, 0, none⟩) (n + 1) cap)) := ⟨hfr3, fun k hk => by
    rcases hk with rfl | hk | hk
    · exact .inl (.inl rfl)
    · have e : k = g := by simpa [Value.ownBlock] using hk
      rcases hat with ha | ha
      · exact .inl (.inr (.inl (by rw [e, ha])))
      · exact .inr (by omega)
    · rcases List.mem_append.1 hk with hk | hk
      · exact .inl (.inr (.inr hk))
      · have := List.mem_singleton.1 hk; exact .inr (by omega)⟩
  have ht3 := hsr3.tree HC.out HT.out
  have hB3 : (w2.setCell ⟨C.cb, 3, none⟩ (.slice (some ⟨g, 0, none⟩) (n + 1) cap)).heap[w.heap.size]? = some (.cells #[ptrV b] 53 (0, 0)) := blk_setCell_ne hb2 (by simp; omega)
  obtain ⟨ri, hri⟩ : ∃ ri, insideC C.x C.res ks (bl ++ [[]]) = ri := ⟨_, rfl⟩
  have hnb : insideC C.x C.res ks (bl ++ [[]]) ≠ .bad := fun e => HBD.out (by rw [HR.out, e]; rfl)
  have HIN := Lib.hid (cinside_any C d ks ih (bl ++ [[]]) _ _ b _ hck3 ht3 hkl hsa hnb)
  have hlen : ∀ blx, ri = .ok blx → blx.length = n + 1 := fun blx e => by have := inside_len (hri.trans e); simp at this; rw [this, ← HN.out]
  rw [hri] at HIN
  have HR2 : Hid (R = cbind ri fun bl => .ok bl.dropLast) := by show R = _; rw [HR.out, hri]
  have hc3 := cellAt hcb2 (i := 3) rfl
  have hcf2 := frozenAt hcb2
  have hcl2 := blkLt hcb2
  have hb3 := cellAt hB3 (i := 0) rfl
  have HB3 := Lib.hid hB3
  have HSR := Lib.hid hsr3
  have HLEN := Lib.hid hlen
  clear hCB hcb2 hb2 hmap hown2 hown2' hgrow hck3 hfr3 hsr3 ht3 hB3 hri hnb hlen c3 hcf
  go_wp2_with fail
  refine (HIN.out).mono ?_
  rintro e w4 hres
  cases ri with
  | bad => exact absurd HR2.out HBD.out
  | err ea ec =>
    obtain ⟨he, hfr⟩ := hres
    subst he
    refine ⟨rfl, ?_⟩
    rw [HR2.out]
    exact ⟨rfl, HSR.out.fr.trans hfr HSR.out.sub⟩
  | ok blx =>
    obtain ⟨he, msx, bvx, hcx, hsx⟩ := hres
    subst he
    have hblx := HLEN.out blx rfl
    have hne : blx ≠ [] := fun e => by rw [e] at hblx; simp at hblx
    obtain ⟨bl', mm, rfl⟩ : ∃ bl0 m, blx = bl0 ++ [m] := ⟨blx.dropLast, blx.getLast hne, (List.dropLast_concat_getLast hne).symm⟩
    have hmne : msx ≠ [] := fun e => by have := hcx.ml; rw [e] at this; simp at this
    obtain ⟨ms', mb, rfl⟩ : ∃ ms0 mb, msx = ms0 ++ [mb] := ⟨msx.dropLast, msx.getLast hmne, (List.dropLast_concat_getLast hmne).symm⟩
    have hbn : n = bl'.length := by simp at hblx; omega
    have hrx := hcx.row
    rw [hblx] at hrx
    obtain ⟨g2, cap2, hbvx, hg2B, _⟩ := hrx.form (by omega)
    subst hbvx
    have hcap2 : n + 1 ≤ cap2 := by
      obtain ⟨A, c, hv, hc, _⟩ := ownRow_row hrx
      injection hv with _ _ h3
      omega
    have hpop := hcx.pop hbn
    have hr : Hid (R = .ok bl') := by show R = .ok bl'; rw [HR2.out]; simp [cbind]
    have c3x := hcx.cells.2.2.2.1
    have hltx := hcx.lt
    have hcfx := frozenAt hcx.blk
    have hstep : SRel C (.slice (some ⟨g2, 0, none⟩) (n + 1) cap2) (ms' ++ [mb]) w4 (.slice (some ⟨g2, 0, none⟩) n cap2) ms' (w4.setCell ⟨C.cb, 3, none⟩ (.slice (some ⟨g2, 0, none⟩) n cap2)) :=
      ⟨⟨rfl, rfl, rfl, by rw [World.size_setCell]; exact Nat.le_refl _, fun k hk hn => Below.heap_setCell _ _ _ _ (fun e => hn (.inl e))⟩, fun k hk => by
        rcases hk with rfl | hk | hk
        · exact .inl (.inl rfl)
        · exact .inl (.inr (.inl hk))
        · exact .inl (.inr (.inr (List.mem_append_left _ hk)))⟩
    have HALL := Lib.hid ((HSR.out.trans hsx).trans hstep)
    have HPOP := Lib.hid hpop
    have hsub : IntKind.i64.wrap (n : Int) = (n : Int) := IntWalk.i64_in (n : Int) (by omega)
    have hnc : (n : Int) ≤ (cap2 : Int) := by omega
    have hn0 : (0 : Int) ≤ (n : Int) := by omega
    clear hblx hne hmne hbn hrx hpop hstep hsx hcx hat hcl2 hb3 hc3 hcf2
    go_wp2_with fail
    go_still_tail 14, (by kernel_rfl)
    change wpList _ _ _ _ _ w4.drew
    go_wp2_with fail
    go_end0
    rw [hr.out]
    exact ⟨rfl, ms', _, HPOP.out.gr (Gr.refl _).drew, HALL.out.gr (Gr.refl _).drew⟩
end Go.Proofs.YthniejnbkkkbnaaGreatDoor

namespace Go.Proofs.YthniejnbkkkbnaaGreatDoor
open Go.RowKit
set_option maxRecDepth 100000
set_option maxHeartbeats 4000000

theorem stmtC_6 (x : Info) (res : Str) (d : D) (ks : List T) (bl : List Blk) (h : d.op = 6) : stmtC x res (.mk d ks) bl = blockR x res ks bl := by
  unfold stmtC
  rw [if_pos h]; rfl
/-- The ways of stmt that hand on to another method. -/
theorem cstmt_hand (C : CK) (d : D) (ks : List T) (bl : List Blk) (ms : List Nat) (bv : Value) (b : Nat) (w : World) (ht : TreeAt w C.X b (.mk d ks)) (R : CR (List Blk)) (hb : R ≠ .bad)
    (h6 : d.op = 6 → ∀ w', Gr w w' → Calls Tryz.prog 160 #[ptrV C.cb, nodeV b] w' (SPost C ms bv w' R))
    (h7 : d.op = 7 → ∀ w', Gr w w' → Calls Tryz.prog 161 #[ptrV C.cb, nodeV b] w' (SPost C ms bv w' R))
    (h8 : d.op = 8 ∨ d.op = 9 → ∀ w', Gr w w' → Calls Tryz.prog 162 #[ptrV C.cb, nodeV b] w' (SPost C ms bv w' R))
    (h13 : d.op = 13 → ∀ w', Gr w w' → Calls Tryz.prog 164 #[ptrV C.cb, nodeV b] w' (SPost C ms bv w' R))
    (hop : d.op = 6 ∨ d.op = 7 ∨ d.op = 8 ∨ d.op = 9 ∨ d.op = 13) : Calls Tryz.prog 104 #[ptrV C.cb, nodeV b] w (SPost C ms bv w R) := by
  have HOP := Lib.hid (fun w' (hg : Gr w w') => Op_any (nodeV b) (some (.mk d ks)) C.X w' ⟨b, rfl, ht.gr hg⟩)
  rw [show (dO (some (T.mk d ks))).op = d.op from rfl] at HOP
  have H6 := Lib.hid h6
  have H7 := Lib.hid h7
  have H8 := Lib.hid h8
  have H13 := Lib.hid h13
  clear h6 h7 h8 h13 ht
  generalize d.op = oo at *
  have FIN : Hid (∀ (w1 w2 : World) (e : Ending), Gr w w1 → SPost C ms bv w1 R e w2 → SPost C ms bv w R e w2) := fun w1 w2 e hg hp => by
    cases R with
    | bad => exact absurd rfl hb
    | err a c => exact ⟨hp.1, Fr.grl hg hp.2⟩
    | ok bl' => obtain ⟨he, ms', bv', hc, hs⟩ := hp; exact ⟨he, ms', bv', hc, SRel.grl hg hs⟩
  rcases hop with rfl | rfl | rfl | rfl | rfl
  · have HX := Lib.hid (H6.out rfl)
    go_enter Tryz.func104, Tryz.ntmps104
    go_wp2_with fail
    refine (HOP.out _ (Gr.al _ _)).mono ?_
    rintro e w1 ⟨rfl, hg1⟩
    have hG1 : Gr w w1 := (Gr.al _ _).trans hg1
    have b1 := cellAt (hg1.blk (blk_alloc _ _)) (i := 0) rfl
    go_wp2_with fail
    refine (HX.out _ hG1).mono ?_
    rintro e w2 hres
    have hfin := FIN.out _ _ _ hG1 hres
    cases R with
    | bad => exact absurd rfl hb
    | err a c =>
      obtain ⟨he, hf⟩ := hfin
      subst he
      exact ⟨rfl, rfl, hf⟩
    | ok bl' =>
      obtain ⟨he, hf⟩ := hfin
      subst he
      have HF := Lib.hid hf
      clear hf hres
      go_wp2_with fail
      go_end0
      exact ⟨rfl, HF.out⟩
  · have HX := Lib.hid (H7.out rfl)
    go_enter Tryz.func104, Tryz.ntmps104
    go_wp2_with fail
    refine (HOP.out _ (Gr.al _ _)).mono ?_
    rintro e w1 ⟨rfl, hg1⟩
    have hG1 : Gr w w1 := (Gr.al _ _).trans hg1
    have b1 := cellAt (hg1.blk (blk_alloc _ _)) (i := 0) rfl
    go_wp2_with fail
    refine (HX.out _ hG1).mono ?_
    rintro e w2 hres
    have hfin := FIN.out _ _ _ hG1 hres
    cases R with
    | bad => exact absurd rfl hb
    | err a c =>
      obtain ⟨he, hf⟩ := hfin
      subst he
      exact ⟨rfl, rfl, hf⟩
    | ok bl' =>
      obtain ⟨he, hf⟩ := hfin
      subst he
      have HF := Lib.hid hf
      clear hf hres
      go_wp2_with fail
      go_end0
      exact ⟨rfl, HF.out⟩
  · have HX := Lib.hid (H8.out (.inl rfl))
    go_enter Tryz.func104, Tryz.ntmps104
    go_wp2_with fail
    refine (HOP.out _ (Gr.al _ _)).mono ?_
    rintro e w1 ⟨rfl, hg1⟩
    have hG1 : Gr w w1 := (Gr.al _ _).trans hg1
    have b1 := cellAt (hg1.blk (blk_alloc _ _)) (i := 0) rfl
    go_wp2_with fail
    refine (HX.out _ hG1).mono ?_
    rintro e w2 hres
    have hfin := FIN.out _ _ _ hG1 hres
    cases R with
    | bad => exact absurd rfl hb
    | err a c =>
      obtain ⟨he, hf⟩ := hfin
      subst he
      exact ⟨rfl, rfl, hf⟩
    | ok bl' =>
      obtain ⟨he, hf⟩ := hfin
      subst he
      have HF := Lib.hid hf
      clear hf hres
      go_wp2_with fail
      go_end0
      exact ⟨rfl, HF.out⟩
  · have HX := Lib.hid (H8.out (.inr rfl))
    go_enter Tryz.func104, Tryz.ntmps104
    go_wp2_with fail
    refine (HOP.out _ (Gr.al _ _)).mono ?_
    rintro e w1 ⟨rfl, hg1⟩
    have hG1 : Gr w w1 := (Gr.al _ _).trans hg1
    have b1 := cellAt (hg1.blk (blk_alloc _ _)) (i := 0) rfl
    go_wp2_with fail
    refine (HX.out _ hG1).mono ?_
    rintro e w2 hres
    have hfin := FIN.out _ _ _ hG1 hres
    cases R with
    | bad => exact absurd rfl hb
    | err a c =>
      obtain ⟨he, hf⟩ := hfin
      subst he
      exact ⟨rfl, rfl, hf⟩
    | ok bl' =>
      obtain ⟨he, hf⟩ := hfin
      subst he
      have HF := Lib.hid hf
      clear hf hres
      go_wp2_with fail
      go_end0
      exact ⟨rfl, HF.out⟩
  · have HX := Lib.hid (H13.out rfl)
    go_enter Tryz.func104, Tryz.ntmps104
    go_wp2_with fail
    refine (HOP.out _ (Gr.al _ _)).mono ?_
    rintro e w1 ⟨rfl, hg1⟩
    have hG1 : Gr w w1 := (Gr.al _ _).trans hg1
    have b1 := cellAt (hg1.blk (blk_alloc _ _)) (i := 0) rfl
    go_wp2_with fail
    refine (HX.out _ hG1).mono ?_
    rintro e w2 hres
    have hfin := FIN.out _ _ _ hG1 hres
    cases R with
    | bad => exact absurd rfl hb
    | err a c =>
      obtain ⟨he, hf⟩ := hfin
      subst he
      exact ⟨rfl, rfl, hf⟩
    | ok bl' =>
      obtain ⟨he, hf⟩ := hfin
      subst he
      have HF := Lib.hid hf
      clear hf hres
      go_wp2_with fail
      go_end0
      exact ⟨rfl, HF.out⟩
/-- A test ahead: the expression's type must be a given one. -/
def testR (x : Info) (bl : List Blk) (d : D) (want : Str) (ra : CR Str) (k : CR (List Blk)) : CR (List Blk) := cbind ra fun t => if t = want then k else .err d.at_ 7
theorem cstmt_print (C : CK) (hok : C.Ok) (d : D) (a : T) (r : List T) (bl : List Blk) (ms : List Nat) (bv : Value) (b : Nat) (w : World) (h : CkAt C bl ms bv w) (ht : TreeAt w C.X b (.mk d (a :: r))) (hsa : smallT a = true) (hop : d.op = 12)
    (hbad : testR C.x bl d xInt (exprC C.x bl a) (.ok bl) ≠ .bad) : Calls Tryz.prog 104 #[ptrV C.cb, nodeV b] w (SPost C ms bv w (testR C.x bl d xInt (exprC C.x bl a) (.ok bl))) := by
  have HC := Lib.hid h
  have HOP := Lib.hid (fun w' (hg : Gr w w') => Op_any (nodeV b) (some (.mk d (a :: r))) C.X w' ⟨b, rfl, ht.gr hg⟩)
  rw [show (dO (some (T.mk d (a :: r)))).op = d.op from rfl, hop] at HOP
  have HKD := Lib.hid (fun w' (hg : Gr w w') => Kid_some b (.mk d (a :: r)) C.X 0 (by decide) a rfl w' (ht.gr hg))
  have hnb : exprC C.x bl a ≠ .bad := fun e => hbad (by rw [e]; rfl)
  have HEX := Lib.hid (fun ba w' (hg : Gr w w') (hta : TreeAt w' C.X ba a) => cexpr_ok C hok bl ms bv a ba w' (h.gr hg) hta hsa hnb)
  have HMN := Lib.hid (fun er w' (hg : Gr w w') => must_no b (.mk d (a :: r)) C.X er w' (ht.gr hg))
  rw [show (T.mk d (a :: r)).d = d from rfl] at HMN
  have HMY := Lib.hid (fun er w' => must_yes (nodeV b) ⟨_, rfl⟩ er w')
  obtain ⟨ra, hra⟩ : ∃ ra, exprC C.x bl a = ra := ⟨_, rfl⟩
  rw [hra] at HEX hbad ⊢
  have HBD := Lib.hid hbad
  clear h ht hra hbad hnb hop
  go_enter Tryz.func104, Tryz.ntmps104
  go_wp2_with fail
  refine (HOP.out _ (Gr.al _ _)).mono ?_
  rintro e w1 ⟨rfl, hg1⟩
  have hG1 : Gr w w1 := (Gr.al _ _).trans hg1
  have B1 := hg1.blk (blk_alloc _ _)
  have b1 := cellAt B1 (i := 0) rfl
  clear hg1
  go_wp2_with fail
  refine wp_region_held_drew (S := fun w' => w'.cell? ⟨w.heap.size, 0, none⟩ = some (ptrV b)) rfl b1 (fun hS => ?_)
  refine wpAnyH_take (i := 0) (v := ?_) rfl (by kernel_rfl) (by kernel_rfl) (by kernel_rfl) (fun _ _ _ h => h) (Or.inl ⟨by rfl, ?_⟩) hS ?_
  rotate_left
  · intro w' hSw; (try dsimp only at hSw); go_simp; try with_reducible rfl
  (try simp only [Act.put, List.setIfInBounds_toArray, List.set_cons_zero, List.set_cons_succ])
  refine wpAnyH_take (i := 1) (v := ?_) rfl (by kernel_rfl) (by kernel_rfl) (by kernel_rfl) (fun _ _ _ h => h) (Or.inl ⟨by rfl, ?_⟩) hS ?_
  rotate_left
  · intro w' hSw; (try dsimp only at hSw); go_simp; try with_reducible rfl
  (try simp only [Act.put, List.setIfInBounds_toArray, List.set_cons_zero, List.set_cons_succ])
  refine wpAnyH_take (i := 5) (v := ?_) rfl (by kernel_rfl) (by kernel_rfl) (by kernel_rfl) (fun _ _ _ h => h) (Or.inl ⟨by rfl, ?_⟩) hS ?_
  rotate_left
  · intro w' hSw; (try dsimp only at hSw); go_simp; try with_reducible rfl
  (try simp only [Act.put, List.setIfInBounds_toArray, List.set_cons_zero, List.set_cons_succ])
  refine wpAnyH_ready (rs := [2]) (by kernel_rfl) (by simp) ?_
  refine AllReadyH.cons rfl (fun K' hK => ?_) AllReadyH.nil
  simp only [List.getElem_toArray, List.getElem_cons_succ, List.getElem_cons_zero]
  go_simp
  refine (HKD.out _ hG1.drew).mono ?_
  rintro e w2 ⟨ba, rfl, hta, hg2⟩
  have B2 := hg2.blk B1
  have hG2 : Gr w w2 := hG1.drew.trans hg2
  refine hK.out _ _ (cellAt B2 rfl) (fun hS => ?_)
  (try simp only [Act.put, List.setIfInBounds_toArray, List.set_cons_zero, List.set_cons_succ])
  refine wpAnyH_ready (rs := [3]) (by kernel_rfl) (by simp) ?_
  refine AllReadyH.cons rfl (fun K' hK => ?_) AllReadyH.nil
  simp only [List.getElem_toArray, List.getElem_cons_succ, List.getElem_cons_zero]
  go_simp
  refine (HEX.out ba _ hG2 (hta.gr hg2)).mono ?_
  rintro e w3 ⟨hg3, hres⟩
  have hG3 := hG2.trans hg3
  cases ra with
  | bad => exact absurd rfl HBD.out
  | err ea ec =>
    simp only [] at hres
    subst hres
    exact ⟨rfl, SPost.thr hG3⟩
  | ok ty =>
  simp only [] at hres
  subst hres
  have B3 := hg3.blk B2
  refine hK.out _ _ (cellAt B3 rfl) (fun hS => ?_)
  (try simp only [Act.put, List.setIfInBounds_toArray, List.set_cons_zero, List.set_cons_succ])
  have heq : ((S ty).toList == ([105, 110, 116] : List UInt8)) = (ty == xInt) := eqL ty _
  refine wpAnyH_take (i := 4) (v := ?_) rfl (by kernel_rfl) (by kernel_rfl) (by kernel_rfl) (fun _ _ _ h => h) (Or.inl ⟨by rfl, ?_⟩) hS ?_
  rotate_left
  · intro w' hSw; (try dsimp only at hSw); go_simp; try with_reducible rfl
  (try simp only [Act.put, List.setIfInBounds_toArray, List.set_cons_zero, List.set_cons_succ])
  refine wpAnyH_ready (rs := [6]) (by kernel_rfl) (by simp) ?_
  refine AllReadyH.cons rfl (fun K' hK => ?_) AllReadyH.nil
  simp only [List.getElem_toArray, List.getElem_cons_succ, List.getElem_cons_zero]
  go_simp
  obtain ⟨q, hq⟩ : ∃ q, (ty == xInt) = q := ⟨_, rfl⟩
  rw [hq]
  cases q
  · refine (HMN.out 7 _ hG3).mono ?_
    rintro e w4 ⟨rfl, hg4⟩
    refine ⟨rfl, ?_⟩
    have hr : testR C.x bl d xInt (.ok ty) (.ok bl) = .err d.at_ 7 := by
      have : ty ≠ xInt := by simpa using hq
      simp only [testR, cbind, if_neg this]
    rw [hr]
    exact SPost.thr (hG3.trans hg4)
  · refine (HMY.out 7 _).mono ?_
    rintro e w4 ⟨rfl, hg4⟩
    have B4 := hg4.blk B3
    have hG4 := hG3.trans hg4
    refine hK.out _ _ (cellAt B4 rfl) (fun hS => ?_)
    (try simp only [Act.put, List.setIfInBounds_toArray, List.set_cons_zero, List.set_cons_succ])
    refine wpAnyH_done (by kernel_rfl) ?_ _
    (try simp only [List.getElem_toArray, List.getElem_cons_succ, List.getElem_cons_zero, Act.put, List.setIfInBounds_toArray, List.set_cons_zero, List.set_cons_succ])
    have hr : Hid (testR C.x bl d xInt (.ok ty) (.ok bl) = .ok bl) := by
      show _ = _
      have : ty = xInt := by simpa using hq
      simp only [testR, cbind, if_pos this]
    clear hK hq heq hS
    go_wp2_with fail
    go_end0
    rw [hr.out]
    exact SPost.same HC.out hG4

theorem cstmt_do (C : CK) (hok : C.Ok) (d : D) (a : T) (r : List T) (bl : List Blk) (ms : List Nat) (bv : Value) (b : Nat) (w : World) (h : CkAt C bl ms bv w) (ht : TreeAt w C.X b (.mk d (a :: r))) (hsa : smallT a = true) (hop : d.op = 14)
    (hbad : (cbind (exprC C.x bl a) fun _ => CR.ok bl) ≠ .bad) : Calls Tryz.prog 104 #[ptrV C.cb, nodeV b] w (SPost C ms bv w (cbind (exprC C.x bl a) fun _ => CR.ok bl)) := by
  have HC := Lib.hid h
  have HOP := Lib.hid (fun w' (hg : Gr w w') => Op_any (nodeV b) (some (.mk d (a :: r))) C.X w' ⟨b, rfl, ht.gr hg⟩)
  rw [show (dO (some (T.mk d (a :: r)))).op = d.op from rfl, hop] at HOP
  have HKD := Lib.hid (fun w' (hg : Gr w w') => Kid_some b (.mk d (a :: r)) C.X 0 (by decide) a rfl w' (ht.gr hg))
  have hnb : exprC C.x bl a ≠ .bad := fun e => hbad (by rw [e]; rfl)
  have HEX := Lib.hid (fun ba w' (hg : Gr w w') (hta : TreeAt w' C.X ba a) => cexpr_ok C hok bl ms bv a ba w' (h.gr hg) hta hsa hnb)
  obtain ⟨ra, hra⟩ : ∃ ra, exprC C.x bl a = ra := ⟨_, rfl⟩
  rw [hra] at HEX hbad ⊢
  have HBD := Lib.hid hbad
  clear h ht hra hbad hnb hop
  go_enter Tryz.func104, Tryz.ntmps104
  go_wp2_with fail
  refine (HOP.out _ (Gr.al _ _)).mono ?_
  rintro e w1 ⟨rfl, hg1⟩
  have hG1 : Gr w w1 := (Gr.al _ _).trans hg1
  have B1 := hg1.blk (blk_alloc _ _)
  have b1 := cellAt B1 (i := 0) rfl
  clear hg1
  go_wp2_with fail
  refine (HKD.out _ hG1).mono ?_
  rintro e w2 ⟨ba, rfl, hta, hg2⟩
  have hG2 : Gr w w2 := hG1.trans hg2
  go_wp2_with fail
  refine (HEX.out ba _ hG2 (hta.gr hg2)).mono ?_
  rintro e w3 ⟨hg3, hres⟩
  have hG3 := hG2.trans hg3
  cases ra with
  | bad => exact absurd rfl HBD.out
  | err ea ec =>
    simp only [] at hres
    subst hres
    exact ⟨rfl, SPost.thr hG3⟩
  | ok ty =>
    simp only [] at hres
    subst hres
    go_wp2_with fail
    go_end0
    exact SPost.same HC.out hG3

theorem cstmt_else (C : CK) (d : D) (ks : List T) (bl : List Blk) (ms : List Nat) (bv : Value) (b : Nat) (w : World) (h : CkAt C bl ms bv w) (ht : TreeAt w C.X b (.mk d ks))
    (hop : d.op ≠ 6 ∧ d.op ≠ 7 ∧ d.op ≠ 8 ∧ d.op ≠ 9 ∧ d.op ≠ 10 ∧ d.op ≠ 11 ∧ d.op ≠ 12 ∧ d.op ≠ 13 ∧ d.op ≠ 14) : Calls Tryz.prog 104 #[ptrV C.cb, nodeV b] w (SPost C ms bv w (.ok bl)) := by
  have HC := Lib.hid h
  have HOP := Lib.hid (fun w' (hg : Gr w w') => Op_any (nodeV b) (some (.mk d ks)) C.X w' ⟨b, rfl, ht.gr hg⟩)
  rw [show (dO (some (T.mk d ks))).op = d.op from rfl] at HOP
  have hops : (d.op == 6) = false ∧ (d.op == 7) = false ∧ (d.op == 8) = false ∧ (d.op == 9) = false ∧ (d.op == 10) = false ∧ (d.op == 11) = false ∧ (d.op == 12) = false ∧ (d.op == 13) = false ∧ (d.op == 14) = false := by simp; omega
  obtain ⟨o6, o7, o8, o9, o10, o11, o12, o13, o14⟩ := hops
  generalize d.op = oo at *
  clear h ht hop
  go_enter Tryz.func104, Tryz.ntmps104
  go_wp2_with fail
  refine (HOP.out _ (Gr.al _ _)).mono ?_
  rintro e w1 ⟨rfl, hg1⟩
  go_wp2_with fail
  go_end0
  exact SPost.same HC.out ((Gr.al _ _).trans hg1)
end Go.Proofs.YthniejnbkkkbnaaGreatDoor
