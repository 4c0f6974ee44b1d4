/- Walks of layer check: a node's kids, parts, fields; fail and must. Walks of layer check: IndexFunc and DeleteFunc over nodes, parts. -/
import Derived.Test.YthniejnbkkkbnaaGreatDoorM12
import Derived.Test.YthniejnbkkkbnaaGreatDoorM02
import Derived.Deep.AppendLies
import Derived.Laws.OwnMore
import Derived.Lib.SliceRun
set_option linter.all false
set_option linter.unusedSimpArgs false
set_option linter.unusedVariables false
namespace Go.Proofs.YthniejnbkkkbnaaGreatDoor
open Go.RowKit
set_option maxRecDepth 100000
set_option maxHeartbeats 1000000

/-- A row of nodes that a call has made, and the trees that it leads to. -/
structure OwnNodes (base : Nat) (X : Nat → Prop) (w : World) (v : Value) (ts : List T) (bs : List Nat) : Prop where
  own : w.ownsRow base 53 1 v ts.length (bs.map ptrV)
  len : bs.length = ts.length
  tree : ∀ (i b : Nat) (t : T), bs[i]? = some b → ts[i]? = some t → TreeAt w X b t
theorem OwnNodes.gr {base : Nat} {X : Nat → Prop} {w w' : World} {v : Value} {ts : List T} {bs : List Nat} (h : OwnNodes base X w v ts bs) (hg : Gr w w') : OwnNodes base X w' v ts bs :=
  ⟨ownGr h.own hg, h.len, fun i b t hb ht => (h.tree i b t hb ht).gr hg⟩
theorem ownMono {w : World} {base base2 : Nat} {e : TypeId} {size : Nat} {v : Value} {n : Nat} {xs : List Value} (h : w.ownsRow base e size v n xs) (hb : base2 ≤ base) : w.ownsRow base2 e size v n xs := by
  obtain ⟨hl, h1⟩ := h
  refine ⟨hl, h1.imp id ?_⟩
  rintro ⟨g, cap, cur, hv, hg, h⟩
  exact ⟨g, cap, cur, hv, Nat.le_trans hb hg, h⟩
theorem OwnNodes.mono {base base2 : Nat} {X : Nat → Prop} {w : World} {v : Value} {ts : List T} {bs : List Nat} (h : OwnNodes base X w v ts bs) (hb : base2 ≤ base) : OwnNodes base2 X w v ts bs := ⟨ownMono h.own hb, h.len, h.tree⟩
/-- One more node. -/
theorem OwnNodes.push {base : Nat} {X : Nat → Prop} {w w' : World} {v v' : Value} {ts : List T} {bs : List Nat} {t : T} {b : Nat} {row : Option Nat} (h : OwnNodes base X w v ts bs) (ht : TreeAt w X b t) (hg : w.grownBy w' row) (hX : ∀ k, row = some k → ¬ X k)
    (ho : w'.ownsRow base 53 1 v' (ts.length + 1) (bs.map ptrV ++ [ptrV b])) : OwnNodes base X w' v' (ts ++ [t]) (bs ++ [b]) := by
  have key : ∀ (b : Nat) (t : T), TreeAt w X b t → TreeAt w' X b t := fun b t ht => ht.frame fun k hk hlt => hg.block k hlt fun e => hX k e.symm hk
  refine ⟨by simpa using ho, by simp [h.len], fun i b' t' hb ht' => ?_⟩
  rcases Nat.lt_or_ge i ts.length with hi | hi
  · rw [List.getElem?_append_left (by rw [h.len]; exact hi)] at hb
    rw [List.getElem?_append_left hi] at ht'
    exact key _ _ (h.tree i _ _ hb ht')
  · rw [List.getElem?_append_right hi] at ht'
    rw [List.getElem?_append_right (by rw [h.len]; exact hi), h.len] at hb
    match hj : i - ts.length, hb, ht' with
    | 0, hb, ht' =>
      injection hb with hb
      injection ht' with ht'
      subst hb ht'
      exact key _ _ ht
    | n + 1, hb, ht' => simp at hb
theorem info_nodeC : (Tryz.prog.info? 53).map (fun i => (i.zero, i.size, i.bytes)) = some (some (.agg #[.pointer none]), 1, 8) := by kernel_rfl

def KidsPost (w : World) (X : Nat → Prop) (ks : List T) (e : Ending) (w' : World) : Prop := ∃ v bs, e = .returned v ∧ OwnNodes w.heap.size X w' v ks bs ∧ Gr w w'

theorem kids_any (b : Nat) (t : T) (X : Nat → Prop) (w : World) (h : TreeAt w X b t) (hX : ∀ k, X k → k < w.heap.size) (hl : t.kids.length < 1000000) :
    Calls Tryz.prog 58 #[nodeV b] w (KidsPost w X t.kids) := by
  have HKS := Lib.hid (fun w' (hg : Gr w w') => Kids_any (nodeV b) (some t) X w' ⟨b, rfl, h.gr hg⟩)
  have HKD := Lib.hid (fun (i : Nat) t' (ht : t.kids[i]? = some t') w' (hg : Gr w w') => Kid_some b t X (i : Int) (by omega) t' (by simpa using ht) w' (h.gr hg))
  obtain ⟨i0, hi0, hz0, hz1, hz2⟩ := info_parts info_nodeC
  obtain ⟨ks, hks⟩ : ∃ ks, ks = t.kids := ⟨_, rfl⟩
  rw [show kidsO (some t) = t.kids from rfl, ← hks] at HKS
  rw [← hks] at hl HKD ⊢
  obtain ⟨n, hn⟩ : ∃ n, n = ks.length := ⟨_, rfl⟩
  rw [← hn] at HKS hl
  have HN := Lib.hid hn
  have HX := Lib.hid hX
  clear h hks hn hX
  go_enter Tryz.func58, Tryz.ntmps58
  go_wp2_with fail
  refine (HKS.out _ (Gr.al _ _)).mono ?_
  rintro e w1 ⟨rfl, hg1⟩
  have B1 := hg1.blk (blk_alloc _ _)
  have hgw1 : Gr w w1 := (Gr.al _ _).trans hg1
  clear hg1
  go_wp2_with fail
  go_loopw [3, 7] (fun v t wr => ∃ j : Nat, ∃ bs, j ≤ n ∧ t = .int .i64 j ∧ Gr w wr ∧ wr.heap[w.heap.size]? = some (.cells #[ptrV b] 53 (0, 0)) ∧ OwnNodes (w.heap.size + 1) X wr v (ks.take j) bs) (fun _ t _ => n - (intOf t).toNat)
  case atStart => exact ⟨0, [], by omega, rfl, hgw1, B1, World.ownsRow_nil _ _ _ _, rfl, fun i b t hb => by simp at hb⟩
  case round =>
    obtain ⟨j, bs, hj, rfl, hgr, hB, hO⟩ := hrel
    have b0 := cellAt hB (i := 0) rfl
    have hlr := blkLt hB
    by_cases hlt : j < n
    · have hjk : j < ks.length := by rw [← HN.out]; exact hlt
      have HK := Lib.hid (HKD.out j ks[j] (by simp [hjk]) wr hgr)
      have HB := Lib.hid hB
      have HO := Lib.hid hO
      clear hB hO
      go_wp2_with fail
      refine HK.out.mono ?_
      rintro e w2 ⟨bj, rfl, htj, hg2⟩
      have HT := Lib.hid htj
      have HOG := Lib.hid (HO.out.gr hg2)
      have hlen : (ks.take j).length = j := by simp; omega
      have ho := HOG.out.own
      rw [hlen] at ho
      clear htj hlen
      go_wp2_with (at_builtin; refine wpList_append_own _ rfl _ _ 94 rfl (w.heap.size + 1) 53 i0 _ 1 8 Tryz.underlying94 hi0 hz0 hz1 hz2 rfl (by decide) _ j (bs.map ptrV) rfl (ho.alloc _) ⟨w2.heap.size, 0, none⟩ 1 1 [ptrV bj] rfl rfl ?c1 ?c2 ?c3 ?c4 ?c5 ?_)
      case c1 => exact World.news_of_block (blk_alloc _ _)
      case c2 => simp [Value.oneCell']
      case c3 => unfold maxLen; omega
      case c4 => omega
      case c5 => have := hg2.size; simp; omega
      intro v' w3 hown3 hgrow _
      have hro : ∀ k, u3.ownBlock = some k → w.heap.size + 1 ≤ k ∧ k < w2.heap.size := ho.lt
      have hgg : Gr w w3 := ((hgr.trans hg2).alloc _).grown hgrow (fun k e => by have := hro k e; omega)
      have B3 : w3.heap[w.heap.size]? = some (.cells #[ptrV b] 53 (0, 0)) := by
        rw [hgrow.block _ (by have := hg2.size; simp; omega) (fun e => by have := hro _ e.symm; omega)]
        exact blk_alloc_lt (hg2.blk HB.out)
      have HO3 : Hid (OwnNodes (w.heap.size + 1) X w3 v' (ks.take (j + 1)) (bs ++ [bj])) := by
        show OwnNodes (w.heap.size + 1) X w3 v' (ks.take (j + 1)) (bs ++ [bj])
        rw [List.take_succ_eq_append_getElem hjk]
        refine (HOG.out.gr (Gr.al _ _)).push (HT.out.gr ((hg2.trans (Gr.al _ _)))) hgrow (fun k e hk => ?_) ?_
        · have := hro k e; have := HX.out k hk; omega
        · have e : (ks.take j).length = j := by simp; omega
          rw [e]; exact hown3
      clear hown3 hgrow ho hro
      go_wp2_with fail
      go_roundw
      case rel => exact ⟨j + 1, bs ++ [bj], by omega, by go_num, hgg, B3, HO3.out⟩
      case measure => simp [intOf]; omega
    · have HO := Lib.hid hO
      clear hO
      go_wp2_with fail
      go_ret
      have e : ks.take j = ks := List.take_of_length_le (by rw [← HN.out]; omega)
      refine ⟨_, bs, rfl, ?_, hgr⟩
      have := HO.out.mono (Nat.le_succ w.heap.size)
      rw [e] at this
      exact this
/-- A row of nodes. -/
def NodesAt (w : World) (Y X : Nat → Prop) (v : Value) (ts : List T) : Prop :=
  ∃ (A : Option Addr) (c : Nat) (bs : List Nat), v = .slice A ts.length c ∧ ts.length ≤ c ∧ RowR w Y A (bs.map ptrV) ∧ bs.length = ts.length ∧ ∀ (i b : Nat) (t : T), bs[i]? = some b → ts[i]? = some t → TreeAt w X b t
theorem NodesAt.gr {w w' : World} {Y X : Nat → Prop} {v : Value} {ts : List T} (h : NodesAt w Y X v ts) (hg : Gr w w') : NodesAt w' Y X v ts := by
  obtain ⟨A, c, bs, hv, hc, hr, hl, ht⟩ := h
  exact ⟨A, c, bs, hv, hc, hr.gr hg, hl, fun i b t hb h => (ht i b t hb h).gr hg⟩
theorem ownRow_row {w : World} {base : Nat} {e : TypeId} {size : Nat} {v : Value} {n : Nat} {xs : List Value} (h : w.ownsRow base e size v n xs) :
    ∃ A c, v = .slice A n c ∧ n ≤ c ∧ RowR w (fun k => some k = v.ownBlock) A xs := by
  obtain ⟨hl, h1⟩ := h
  rcases h1 with ⟨hv, hn⟩ | ⟨g, cap, cur, hv, hb, hg, h2, h3, h4, h5⟩
  · refine ⟨none, 0, by rw [hv, hn], by omega, .inl ?_⟩
    rw [hn] at hl
    exact List.length_eq_zero_iff.1 (by simpa using hl)
  · refine ⟨_, _, hv, h2, .inr ⟨g, 0, cur, _, _, by rw [hv]; rfl, rfl, hg, fun i v hi => ?_⟩⟩
    rw [← h5, List.getElem?_take] at hi
    split at hi
    · simpa using hi
    · cases hi
theorem OwnNodes.nodes {base : Nat} {X : Nat → Prop} {w : World} {v : Value} {ts : List T} {bs : List Nat} (h : OwnNodes base X w v ts bs) : NodesAt w (fun k => some k = v.ownBlock) X v ts := by
  obtain ⟨A, c, hv, hc, hr⟩ := ownRow_row h.own
  exact ⟨A, c, bs, hv, hc, hr, h.len, h.tree⟩
theorem own_pairs {w : World} {base : Nat} {e : TypeId} {v : Value} {L : List (Value × Value)} (h : w.ownsRow base e 2 v L.length (pairCells L)) : PairsAt w (fun k => base ≤ k) v L := by
  obtain ⟨A, c, hv, hc, hr⟩ := ownRow_row h
  exact ⟨A, c, hv, hc, hr.imp fun k _ hk => (h.lt k hk.symm).1⟩
theorem info_field : (Tryz.prog.info? 93).map (fun i => (i.zero, i.size, i.bytes)) = some (some (.agg #[.string ⟨#[]⟩, .string ⟨#[]⟩]), 2, 32) := by kernel_rfl

/-- What fields makes: a row of fields of its own. -/
def FldsPost (w : World) (L : List Fld) (e : Ending) (w' : World) : Prop := ∃ v, e = .returned v ∧ w'.ownsRow w.heap.size 93 2 v L.length (pairCells (L.map fldPair)) ∧ Gr w w'
theorem fields_any (v : Value) (ts : List T) (Y X : Nat → Prop) (w : World) (h : NodesAt w Y X v ts) (hl : ts.length < 1000000) :
    Calls Tryz.prog 60 #[v] w (FldsPost w (fieldsP ts)) := by
  obtain ⟨A, c, bs, rfl, hc, hr, hbl, ht⟩ := h
  obtain ⟨i0, hi0, hz0, hz1, hz2⟩ := info_parts info_field
  have HNM := Lib.hid (fun b t w' (h : TreeAt w' X b t) => Name_any (nodeV b) (some t) X w' ⟨b, rfl, h⟩)
  have HTY := Lib.hid (fun b t w' (h : TreeAt w' X b t) => Type_any (nodeV b) (some t) X w' ⟨b, rfl, h⟩)
  obtain ⟨n, hn⟩ : ∃ n, n = ts.length := ⟨_, rfl⟩
  rw [← hn] at hl hc hbl ⊢
  have HN := Lib.hid hn
  have HBL := Lib.hid hbl
  have HR := Lib.hid hr
  have HT := Lib.hid ht
  clear hn hbl hr ht
  go_enter Tryz.func60, Tryz.ntmps60
  go_wp2_with fail
  go_loopw [3, 8] (fun v t wr => ∃ j : Nat, j ≤ n ∧ t = .int .i64 j ∧ Gr w wr ∧ wr.ownsRow w.heap.size 93 2 v j (pairCells ((fieldsP (ts.take j)).map fldPair))) (fun _ t _ => n - (intOf t).toNat)
  case atStart => exact ⟨0, by omega, rfl, Gr.refl _, World.ownsRow_nil _ _ _ _⟩
  case round =>
    obtain ⟨j, hj, rfl, hgr, hO⟩ := hrel
    by_cases hlt : j < n
    · have hjt : j < ts.length := by rw [← HN.out]; exact hlt
      have hjb : j < bs.length := by rw [HBL.out]; exact hlt
      obtain ⟨g, off, rfl, hg, _, hcl⟩ := (HR.out.gr hgr).open_ (j := j) (by simpa using hjb)
      have htj := (HT.out j bs[j] ts[j] (by simp [hjb]) (by simp [hjt])).gr hgr
      obtain ⟨b, hb⟩ : ∃ b, bs[j] = b := ⟨_, rfl⟩
      have hcj := hcl j (ptrV b) (by simp [hjb, hb])
      rw [hb] at htj
      obtain ⟨t, ht⟩ : ∃ t, ts[j] = t := ⟨_, rfl⟩
      rw [ht] at htj
      have HT1 := Lib.hid ht
      have HTJ := Lib.hid htj
      have HO := Lib.hid hO
      have hsz0 := hgr.size
      clear hcl hb ht htj hO
      go_wp2_with fail
      have N1 := blk_alloc wr (.cells #[ptrV b] 53)
      have n1 := cellAt N1 (i := 0) rfl
      go_region_held3 (fun w' => w'.cell? ⟨wr.heap.size, 0, none⟩ = some (ptrV b)) (first | exact n1 | exact n4 | exact n3 | exact n2 | go_keep) (first | (refine step_append_lies _ (by rfl) _ _ 42 (by rfl) w.heap.size 93 i0 _ 2 32 Tryz.underlying42 hi0 hz0 hz1 hz2 (by rfl) (by decide) _ j (pairCells ((fieldsP (ts.take j)).map fldPair)) (by rfl) (ownGr HO.out (hg03.alloc _)) ⟨w3.heap.size, 0, none⟩ 1 1 [.string (S t.d.name), .string (S t.d.typ)] (by rfl) (by rfl) (World.news_of_block (blk_alloc _ _)) (by simp [Value.oneCell']) (by omega) (by unfold maxLen; omega) (by omega) (by simp; omega) (w3.heap.size + 1) (by simp) ?_; intro g4 cap w4 hown4 hgrow hat hlt4; have n4 : w4.cell? ⟨wr.heap.size, 0, none⟩ = some (ptrV b) := (hgrow.cell_far _ (by simp; omega) (fun e => by have := (HO.out.lt _ e.symm).2; simp at this)).trans (cellAt (blk_alloc_lt N3) rfl)) | (go_at_call 27; refine (HNM.out b t _ (HTJ.out.gr ((Gr.al _ _).drew))).mono ?_; rintro e w2 ⟨rfl, hg2⟩; have N2 := hg2.blk N1; have n2 := cellAt N2 (i := 0) rfl; have hg02 : Gr wr w2 := ((Gr.al _ _).drew).trans hg2) | (go_at_call 62; refine (HTY.out b t _ (HTJ.out.gr hg02)).mono ?_; rintro e w3 ⟨rfl, hg3⟩; have N3 := hg3.blk N2; have n3 := cellAt N3 (i := 0) rfl; have hg03 := hg02.trans hg3; have hs3 := blkLt N3; have hs03 := hg03.size))
      have hgw4 : Gr w w4 := ((hgr.trans hg03).alloc _).grown hgrow (fun k e => (HO.out.lt k e).1)
      have hO4 : Hid (w4.ownsRow w.heap.size 93 2 (.slice (some ⟨g4, 0, none⟩) (j + 1) cap) (j + 1) (pairCells ((fieldsP (ts.take (j + 1))).map fldPair))) := by
        show w4.ownsRow _ _ _ _ _ _
        rw [List.take_succ_eq_append_getElem hjt, HT1.out]
        simp only [fieldsP, List.map_append, List.map_cons, List.map_nil, pairCells_append]
        simp only [fieldsP] at hown4
        exact hown4
      clear hown4
      go_wp2_with fail
      go_roundw
      case rel => exact ⟨j + 1, by omega, by go_num, hgw4, hO4.out⟩
      case measure => simp [intOf]; omega
    · have HO := Lib.hid hO
      clear hO
      go_wp2_with fail
      go_ret
      have e : ts.take j = ts := List.take_of_length_le (by rw [← HN.out]; omega)
      have h1 := HO.out
      rw [e] at h1
      have e2 : j = (fieldsP ts).length := by simp [fieldsP]; rw [← HN.out]; omega
      rw [e2] at h1
      exact ⟨_, rfl, h1, hgr⟩
def cstopV (at_ e : Int) : Value := .iface 114 (.agg #[.int .i64 at_, .int .i64 e])
abbrev thrownC (v : Value) : Ending := .panicked [{ v := v, recovered := false }]
theorem cfail_any (b : Nat) (t : T) (X : Nat → Prop) (er : Int) (w : World) (h : TreeAt w X b t) :
    Calls Tryz.prog 99 #[nodeV b, .int .i64 er] w fun e w' => e = thrownC (cstopV t.d.at_ er) ∧ Gr w w' := by
  have HA := Lib.hid (fun w' (hg : Gr w w') => At_any (nodeV b) (some t) X w' ⟨b, rfl, h.gr hg⟩)
  clear h
  go_enter Tryz.func99, Tryz.ntmps99
  go_wp2_with fail
  refine (HA.out _ (Gr.al _ _)).mono ?_
  rintro e w1 ⟨rfl, hg1⟩
  go_wp2_with fail
  first | exact ⟨rfl, rfl, (Gr.al _ _).trans hg1⟩ | exact ⟨rfl, (Gr.al _ _).trans hg1⟩
theorem must_yes (v : Value) (hv : ∃ x, v = .agg #[.pointer x]) (er : Int) (w : World) :
    Calls Tryz.prog 59 #[.bool true, v, .int .i64 er] w fun e w' => e = .returned (.tuple #[]) ∧ Gr w w' := by
  obtain ⟨x, rfl⟩ := hv
  go_enter Tryz.func59, Tryz.ntmps59
  go_wp2_with fail
  go_end0
  exact ⟨rfl, Gr.al _ _⟩
theorem must_no (b : Nat) (t : T) (X : Nat → Prop) (er : Int) (w : World) (h : TreeAt w X b t) :
    Calls Tryz.prog 59 #[.bool false, nodeV b, .int .i64 er] w fun e w' => e = thrownC (cstopV t.d.at_ er) ∧ Gr w w' := by
  have HF := Lib.hid (fun w' (hg : Gr w w') => cfail_any b t X er w' (h.gr hg))
  clear h
  go_enter Tryz.func59, Tryz.ntmps59
  go_wp2_with fail
  refine (HF.out _ (Gr.al _ _)).mono ?_
  rintro e w1 ⟨rfl, hg1⟩
  go_wp2_with fail
  first | exact ⟨rfl, (Gr.al _ _).trans hg1⟩ | exact ⟨rfl, rfl, (Gr.al _ _).trans hg1⟩
end Go.Proofs.YthniejnbkkkbnaaGreatDoor

namespace Go.Proofs.YthniejnbkkkbnaaGreatDoor
open Go.RowKit
set_option maxRecDepth 100000
set_option maxHeartbeats 1000000

theorem idxNode0_any (ts : List T) (bs : List Nat) (A : Option Addr) (n c : Nat) (hn : n = ts.length) (hbl : bs.length = ts.length) (Y X : Nat → Prop) (k : FuncId) (cp : Value) (p : T → Bool) (w : World) (hr : RowR w Y A (bs.map ptrV)) (hl : n < 1000000)
    (ht : ∀ (i b : Nat) (t : T), bs[i]? = some b → ts[i]? = some t → TreeAt w X b t)
    (hk1 : Enters k) (hk2 : ∀ b t w', Gr w w' → TreeAt w' X b t → Calls Tryz.prog k #[nodeV b] w' fun e w'' => e = .returned (.bool (p t)) ∧ Gr w' w'') :
    Calls Tryz.prog 102 #[.slice A n c, .func (.func k) #[] #[]] w fun e w' => e = .returned (.int .i64 (idxFn p ts)) ∧ Gr w w' := by
  have HN := Lib.hid hn
  have HBL := Lib.hid hbl
  have HK := Lib.hid hk2
  have HR := Lib.hid hr
  have HT := Lib.hid ht
  unfold Enters at hk1
  clear hn hk2 hr hbl ht
  go_enter Tryz.func102, Tryz.ntmps102
  go_wp2
  go_loopw [5, 8] (fun _ t wr => ∃ j : Nat, j ≤ n ∧ Hid (∀ i (hi : i < ts.length), i < j → p ts[i] = false) ∧ t = .int .i64 j ∧ Gr w wr) (fun _ t _ => n - (intOf t).toNat)
  case atStart => exact ⟨0, by omega, fun i hi h => by omega, rfl, Gr.refl _⟩
  case round =>
    obtain ⟨j, hj, hall, rfl, hg⟩ := hrel
    by_cases hlt : j < n
    · have hjt : j < ts.length := by rw [← HN.out]; exact hlt
      have hjb : j < bs.length := by rw [HBL.out]; exact hjt
      obtain ⟨g, off, rfl, hk, _, hc⟩ := (HR.out.gr hg).open_ (j := j) (by simpa using hjb)
      have htj := (HT.out j bs[j] ts[j] (by simp [hjb]) (by simp [hjt])).gr hg
      obtain ⟨b, hb⟩ : ∃ b, bs[j] = b := ⟨_, rfl⟩
      have hcj := hc j (ptrV b) (by simp [hjb, hb])
      rw [hb] at htj
      have HKJ := Lib.hid (HK.out b ts[j] _ hg htj)
      obtain ⟨q, hq⟩ : ∃ q, p ts[j] = q := ⟨_, rfl⟩
      rw [hq] at HKJ
      have HQ := Lib.hid hq
      clear hc hb htj hq
      go_wp2_with fail
      refine HKJ.out.mono ?_
      rintro e w' ⟨rfl, hg'⟩
      have hgg := hg.trans hg'
      clear hcj hk
      cases q
      · go_wp2_with fail
        go_roundw
        case rel => exact ⟨j + 1, by omega, fun i hi hij => by { rcases Nat.lt_succ_iff_lt_or_eq.1 hij with h | rfl; exact hall.out i hi h; exact HQ.out }, by go_num, hgg⟩
        case measure => simp [intOf]; omega
      · go_wp2_with fail
        go_ret
        exact ⟨ret_int (idxFn_hit hjt hall.out HQ.out).symm, hgg⟩
    · go_wp2_with fail
      go_ret
      exact ⟨ret_int (idxFn_miss fun i hi => hall.out i hi (by have := HN.out; omega)).symm, hg⟩
theorem idxNode1_any (ts : List T) (bs : List Nat) (A : Option Addr) (n c : Nat) (hn : n = ts.length) (hbl : bs.length = ts.length) (Y X : Nat → Prop) (k : FuncId) (cp : Value) (p : T → Bool) (w : World) (hr : RowR w Y A (bs.map ptrV)) (hl : n < 1000000)
    (ht : ∀ (i b : Nat) (t : T), bs[i]? = some b → ts[i]? = some t → TreeAt w X b t)
    (hk1 : Enters k) (hk2 : ∀ b t w', Gr w w' → TreeAt w' X b t → Calls Tryz.prog k #[nodeV b, cp] w' fun e w'' => e = .returned (.bool (p t)) ∧ Gr w' w'') :
    Calls Tryz.prog 102 #[.slice A n c, .func (.func k) #[] #[cp]] w fun e w' => e = .returned (.int .i64 (idxFn p ts)) ∧ Gr w w' := by
  have HN := Lib.hid hn
  have HBL := Lib.hid hbl
  have HK := Lib.hid hk2
  have HR := Lib.hid hr
  have HT := Lib.hid ht
  unfold Enters at hk1
  clear hn hk2 hr hbl ht
  go_enter Tryz.func102, Tryz.ntmps102
  go_wp2
  go_loopw [5, 8] (fun _ t wr => ∃ j : Nat, j ≤ n ∧ Hid (∀ i (hi : i < ts.length), i < j → p ts[i] = false) ∧ t = .int .i64 j ∧ Gr w wr) (fun _ t _ => n - (intOf t).toNat)
  case atStart => exact ⟨0, by omega, fun i hi h => by omega, rfl, Gr.refl _⟩
  case round =>
    obtain ⟨j, hj, hall, rfl, hg⟩ := hrel
    by_cases hlt : j < n
    · have hjt : j < ts.length := by rw [← HN.out]; exact hlt
      have hjb : j < bs.length := by rw [HBL.out]; exact hjt
      obtain ⟨g, off, rfl, hk, _, hc⟩ := (HR.out.gr hg).open_ (j := j) (by simpa using hjb)
      have htj := (HT.out j bs[j] ts[j] (by simp [hjb]) (by simp [hjt])).gr hg
      obtain ⟨b, hb⟩ : ∃ b, bs[j] = b := ⟨_, rfl⟩
      have hcj := hc j (ptrV b) (by simp [hjb, hb])
      rw [hb] at htj
      have HKJ := Lib.hid (HK.out b ts[j] _ hg htj)
      obtain ⟨q, hq⟩ : ∃ q, p ts[j] = q := ⟨_, rfl⟩
      rw [hq] at HKJ
      have HQ := Lib.hid hq
      clear hc hb htj hq
      go_wp2_with fail
      refine HKJ.out.mono ?_
      rintro e w' ⟨rfl, hg'⟩
      have hgg := hg.trans hg'
      clear hcj hk
      cases q
      · go_wp2_with fail
        go_roundw
        case rel => exact ⟨j + 1, by omega, fun i hi hij => by { rcases Nat.lt_succ_iff_lt_or_eq.1 hij with h | rfl; exact hall.out i hi h; exact HQ.out }, by go_num, hgg⟩
        case measure => simp [intOf]; omega
      · go_wp2_with fail
        go_ret
        exact ⟨ret_int (idxFn_hit hjt hall.out HQ.out).symm, hgg⟩
    · go_wp2_with fail
      go_ret
      exact ⟨ret_int (idxFn_miss fun i hi => hall.out i hi (by have := HN.out; omega)).symm, hg⟩

theorem parts1_any (b : Nat) (t : T) (X : Nat → Prop) (w : World) (h : TreeAt w X b t) :
    Calls Tryz.prog 101 #[nodeV b] w fun e w' => e = .returned (.bool (t.d.op != 5)) ∧ Gr w w' := by
  have HO := Lib.hid (fun w' (hg : Gr w w') => Op_any (nodeV b) (some t) X w' ⟨b, rfl, h.gr hg⟩)
  clear h
  go_enter Tryz.func101, Tryz.ntmps101
  go_wp2_with fail
  refine (HO.out _ (Gr.al _ _)).mono ?_
  rintro e w1 ⟨rfl, hg1⟩
  go_wp2_with fail
  go_ret
  exact ⟨rfl, (Gr.al _ _).trans hg1⟩
theorem en_parts1 : Enters 101 := fun _ _ => by kernel_rfl
theorem zero_node (w : World) : (zeroValue 53).run Tryz.prog w = .ok (.agg #[.pointer none]) w := by kernel_rfl
theorem idx_parts (ts : List T) (h : partsOk ts = true) : (ts.filter isPart = ts ∧ idxFn (fun t => t.d.op != 5) ts = -1) ∨ (∃ f l, ts = f ++ [l] ∧ ts.filter isPart = f ∧ idxFn (fun t => t.d.op != 5) ts = f.length) := by
  rcases List.eq_nil_or_concat ts with rfl | ⟨f, l, rfl⟩
  · exact .inl ⟨rfl, rfl⟩
  · unfold partsOk at h
    simp only [List.concat_eq_append, List.dropLast_concat] at h
    rw [List.concat_eq_append]
    have hf : f.filter isPart = f := List.filter_eq_self.2 (List.all_eq_true.1 h)
    cases hl : isPart l
    · refine .inr ⟨f, l, rfl, by rw [List.filter_append, hf]; simp [hl], ?_⟩
      refine idxFn_hit (j := f.length) (by simp) (fun i hi hij => ?_) (by simp [isPart] at hl ⊢; exact hl)
      rw [List.getElem_append_left hij]
      have := List.all_eq_true.1 h _ (List.getElem_mem hij)
      simpa [isPart] using this
    · refine .inl ⟨by rw [List.filter_append, hf]; simp [hl], idxFn_miss fun i hi => ?_⟩
      have : isPart ((f ++ [l])[i]) = true := by
        have hm := List.getElem_mem hi
        rcases List.mem_append.1 hm with hm | hm
        · exact List.all_eq_true.1 h _ hm
        · rw [List.mem_singleton.1 hm]; exact hl
      simpa [isPart] using this
theorem clear_node (w : World) (ty : TypeId) (b o c : Nat) (hc : (w.cell? ⟨b, o, none⟩).isSome = true) (hf : w.frozen? ⟨b, o, none⟩ = false) :
    (Builtin.clear_ #[94] ty #[.slice (some ⟨b, o, none⟩) 1 c]).run Tryz.prog w = .ok (.tuple #[]) (w.setCell ⟨b, o, none⟩ (.pointer none)) := by
  have hzc : (Builtin.zeroCells (Value.agg #[.pointer none]).cells 1).toList = [.pointer none] := by kernel_rfl
  have h0 : ∀ j, j < [Value.pointer none].length → j = 0 := fun j hj => by simpa using hj
  have hst := run_storeCells_cells (P := Tryz.prog) b o [.pointer none] 0 w (fun j hj => by rw [h0 j hj]; exact hc) (fun j hj => by rw [h0 j hj]; exact hf) (by simp [Value.oneCell'])
  simp only [Nat.add_zero] at hst
  simp [Builtin.clear_, run_underlying Tryz.underlying94, zero_node, hzc, hst, World.setCells]
def DelPost (w : World) (base : Nat) (X : Nat → Prop) (v : Value) (ts : List T) (e : Ending) (w' : World) : Prop := ∃ v' bs', e = .returned v' ∧ OwnNodes base X w' v' ts bs' ∧ w.grownBy w' v.ownBlock
theorem deleteNode_any (base : Nat) (v : Value) (ts : List T) (bs : List Nat) (X : Nat → Prop) (w : World) (h : OwnNodes base X w v ts bs) (hX : ∀ k, X k → k < base) (hl : ts.length < 1000000) (hok : partsOk ts = true) :
    Calls Tryz.prog 100 #[v, .func (.func 101) #[] #[]] w (DelPost w base X v (ts.filter isPart)) := by
  obtain ⟨A, c, hv, hc, hr⟩ := ownRow_row h.own
  have HI := Lib.hid (idxNode0_any ts bs A ts.length c rfl h.len (fun k => some k = v.ownBlock) X 101 v (fun t => t.d.op != 5) w hr hl h.tree en_parts1 (fun b t w' _ ht => parts1_any b t X w' ht))
  rw [← hv] at HI
  rcases idx_parts ts hok with ⟨hf, hi⟩ | ⟨f, l, hts, hf, hi⟩
  · rw [hi] at HI
    rw [hf]
    have HO := Lib.hid h
    subst hv
    generalize ts.length = n at *
    clear h hi hf hok
    go_enter Tryz.func100, Tryz.ntmps100
    go_wp2_with fail
    refine HI.out.mono ?_
    rintro e w1 ⟨rfl, hg1⟩
    go_wp2_with fail
    go_ret
    exact ⟨_, bs, rfl, HO.out.gr hg1, ⟨hg1.os, hg1.tape, hg1.output, hg1.size, fun k hk _ => hg1.block k hk⟩⟩
  · rw [hi] at HI
    rw [hf]
    obtain ⟨g, cap, hvg, hbg, hglt⟩ := h.own.form (by rw [hts]; simp)
    obtain ⟨m, hm⟩ : ∃ m, m = f.length := ⟨_, rfl⟩
    have hn : ts.length = m + 1 := by rw [hts, hm]; simp
    rw [← hm] at HI
    have hbl : bs.length = m + 1 := by rw [h.len, hn]
    have hcap : m + 1 ≤ cap := by
      rw [hv] at hvg
      injection hvg with _ h1 h2
      subst h2; omega
    rw [hvg, hn] at HI ⊢
    have ho := h.own
    rw [hvg, hn] at ho
    have hcell : ∀ w1, Gr w w1 → w1.cell? ⟨g, m, none⟩ = some (ptrV bs[m]) := fun w1 hg => by
      rw [World.ownsRow.cellAt (ownGr ho hg) m (by omega)]; simp [hbl]
    have hfz : ∀ w1, Gr w w1 → w1.frozen? ⟨g, m, none⟩ = false := fun w1 hg => World.ownsRow.frozenAt (ownGr ho hg) m
    have hcl : ∀ w1, Gr w w1 → ∀ ty, (Builtin.clear_ #[94] ty #[.slice (some ⟨g, m, none⟩) 1 (cap - m)]).run Tryz.prog w1 = .ok (.tuple #[]) (w1.setCell ⟨g, m, none⟩ (.pointer none)) := fun w1 hg ty => clear_node w1 ty g m (cap - m) (by rw [hcell w1 hg]; rfl) (hfz w1 hg)
    have HCL := Lib.hid hcl
    have HOwn := Lib.hid ho
    have HTR := Lib.hid h.tree
    have HM := Lib.hid hm
    have HTS := Lib.hid hts
    have hlen : m + 1 < 1000000 := by omega
    clear h hi hf hok hr hv hc hcell hfz ho hcl hts hm hn hvg
    go_enter Tryz.func100, Tryz.ntmps100
    go_wp2_with fail
    refine HI.out.mono ?_
    rintro e w1 ⟨rfl, hg1⟩
    have hcl1 := HCL.out w1 hg1
    go_wp2_with fail
    refine wp_loop_rounds 1 ?_
    rw [rounds_succ]
    go_wp2
    go_ret
    have ho1 := ownGr HOwn.out hg1
    obtain ⟨ho2, hgb⟩ := ho1.stored m (.pointer none)
    have e1 : (bs.map ptrV).set m (.pointer none) = (bs.take m).map ptrV ++ [.pointer none] := by
      apply List.ext_getElem?
      intro i
      rw [List.getElem?_set]
      by_cases hmi : m = i
      · subst hmi
        rw [if_pos rfl, if_pos (by simp; omega), List.getElem?_append_right (by simp; omega)]
        simp [hbl]
      · rw [if_neg hmi]
        rcases Nat.lt_or_ge i m with h | h
        · rw [List.getElem?_append_left (by simp; omega)]
          simp [List.getElem?_take, h]
        · rw [List.getElem?_append_right (by simp; omega), List.getElem?_eq_none (by simp; omega), List.getElem?_eq_none (by simp; omega)]
    have hfl : f.length = m := HM.out.symm
    refine ⟨_, bs.take m, rfl, ⟨?_, by simp [hfl]; omega, ?_⟩, ?_⟩
    · rw [hfl]
      obtain ⟨hsz, h1⟩ := ho2
      rcases h1 with ⟨hv, _⟩ | ⟨g', cap', cur, hv, hb, hg, h2, h3, h4, h5⟩
      · cases hv
      · injection hv with e2 e3 e4
        subst e4
        injection e2 with e2
        injection e2 with e2
        subst e2
        refine ⟨by simp; omega, .inr ⟨g, cap, cur, rfl, hb, hg, by omega, h3, h4, ?_⟩⟩
        have := congrArg (List.take m) h5
        rw [List.take_take, e1, List.take_left' (by simp; omega)] at this
        rw [← this]
        congr 1
        omega
    · intro i b t hb ht
      have hi : i < m := by have := (List.getElem?_eq_some_iff.1 ht).1; omega
      have hb' : bs[i]? = some b := by rw [List.getElem?_take, if_pos hi] at hb; exact hb
      have ht' : ts[i]? = some t := by rw [HTS.out, List.getElem?_append_left (by omega)]; exact ht
      exact ((HTR.out i b t hb' ht').gr hg1).frame fun k hk _ => Below.heap_setCell _ _ _ _ (by have := hX k hk; simp; omega)
    · exact ⟨hg1.os, hg1.tape, hg1.output, by rw [World.size_setCell]; exact hg1.size, fun k hk hne => by
        rw [hgb.block k (Nat.lt_of_lt_of_le hk hg1.size) hne, hg1.block k hk]⟩

/-- parts: those of a declaration, in a row of its own. -/
theorem parts_any (b : Nat) (t : T) (X : Nat → Prop) (w : World) (h : TreeAt w X b t) (hX : ∀ k, X k → k < w.heap.size) (hl : t.kids.length < 1000000) (hok : partsOk t.kids = true) :
    Calls Tryz.prog 61 #[nodeV b] w (KidsPost w X (t.kids.filter isPart)) := by
  have HK := Lib.hid (fun w' (hg : Gr w w') => kids_any b t X w' (h.gr hg) (fun k hk => Nat.lt_of_lt_of_le (hX k hk) hg.size) hl)
  have HD := Lib.hid (fun w' v bs (hg : Gr w w') (ho : OwnNodes w.heap.size X w' v t.kids bs) => deleteNode_any w.heap.size v t.kids bs X w' ho hX hl hok)
  clear h
  go_enter Tryz.func61, Tryz.ntmps61
  go_wp2_with fail
  refine (HK.out _ (Gr.al _ _)).mono ?_
  rintro e w1 ⟨v, bs, rfl, ho, hg1⟩
  have hgw : Gr w w1 := (Gr.al _ _).trans hg1
  have hov : ∀ k, v.ownBlock = some k → w.heap.size ≤ k := fun k hk => by have := (ho.own.lt k hk).1; simp at this; omega
  have HO := Lib.hid (ho.mono (base2 := w.heap.size) (by simp))
  clear ho hg1
  go_wp2_with fail
  refine (HD.out _ _ _ hgw HO.out).mono ?_
  rintro e w2 ⟨v', bs', rfl, ho2, hgb⟩
  go_wp2_with fail
  go_ret
  exact ⟨_, bs', rfl, ho2, hgw.grown hgb hov⟩
end Go.Proofs.YthniejnbkkkbnaaGreatDoor
