/-
slices.Grow of nothing, slices.Concat of four rows of pieces; pat.small.
-/
import Derived.Test.YtdbcdgojbegakaaSM1
namespace Go.Proofs.Ytdbcdgojbegakaa
open Go.RowKit

set_option maxRecDepth 100000 in
set_option maxHeartbeats 1000000 in
theorem grow_nil (w : World) (n : Nat) (hn : n ≤ 2000) :
    Calls Try.prog 68 #[.slice none 0 0, .int .i64 n] w fun e w' => ∃ v, e = .returned v ∧ OwnT w' w.heap.size v [] ∧ w.grownBy w' none := by
  rcases Nat.eq_zero_or_pos n with rfl | h0
  · go_enter Try.func68, Try.ntmps68
    go_wp2
    go_ret
    exact ⟨_, rfl, OwnT.nil_ _ _, only_refl _ _⟩
  · obtain ⟨i0, hi, hz0, hz1, hz2⟩ := info_parts info34
    have hfit : Builtin.nextslicecap (0 + n) 0 * i0.bytes ≤ 281474976710656 := by
      rw [hz2]
      have : Builtin.nextslicecap (0 + n) 0 = 0 + n := by unfold Builtin.nextslicecap; rw [if_pos (by omega)]
      rw [this]; omega
    have hrz := Lib.run_append_grow_zeros (P := Try.prog) w 22 3 22 34 i0 _ .i64 .i64 Try.underlying22 Try.underlying3 hi hz0 none 0 0 [] (run_firstCells_none _ i0.size 0 0 0) n h0 (by rw [hz1]; decide) (by omega) (by omega) (by rw [hz2]; omega) hfit
    have hge := Lib.hid (grownCap_ge w (0 + n) 0 34)
    have hle := Lib.hid (grownCap_le_maxLen w (0 + n) 0 34 (by simp only [maxLen]; omega))
    have hz3 := Lib.hid hz1
    generalize hcap : grownCap w (0 + n) 0 34 = cap at *
    have hsz : Hid ((([] : List Value).toArray ++ Builtin.zeroCells (Value.agg #[(.int .i64 0), (.int .i32 0)]).cells n ++ Builtin.zeroCells (Value.agg #[(.int .i64 0), (.int .i32 0)]).cells (cap - (0 + n))).size = cap * 2) := by
      have hs : ∀ k, (Builtin.zeroCells (Value.agg #[(.int .i64 0), (.int .i32 0)]).cells k).size = k * 2 := fun k => by rw [size_zeroCells]; rfl
      have := hge.out
      show (([] : List Value).toArray ++ Builtin.zeroCells (Value.agg #[(.int .i64 0), (.int .i32 0)]).cells n ++ Builtin.zeroCells (Value.agg #[(.int .i64 0), (.int .i32 0)]).cells (cap - (0 + n))).size = cap * 2
      rw [Array.size_append, Array.size_append, hs, hs]
      simp only [List.size_toArray, List.length_nil]
      omega
    generalize ([] : List Value).toArray ++ Builtin.zeroCells (Value.agg #[(.int .i64 0), (.int .i32 0)]).cells n ++ Builtin.zeroCells (Value.agg #[(.int .i64 0), (.int .i32 0)]).cells (cap - (0 + n)) = cs at *
    have h1 : decide (0 < (n : Int)) = true := by simp; omega
    have hncap : (n : Int) ≤ (cap : Int) := by have := hge.out; omega
    simp only [Nat.zero_add] at hrz
    clear hi hz0 hz1 hz2 hcap hfit
    go_enter Try.func68, Try.ntmps68
    go_wp2_with (at_builtin; refine Lib.wpList_append_run _ rfl _ _ _ _ rfl _ _ rfl rfl _ _ hrz ?_)
    go_ret
    refine ⟨_, rfl, ⟨rfl, .inr ⟨w.heap.size, cap, cs, rfl, Nat.le_refl _, heap_alloc_new w.drew _, Nat.zero_le _, hle.out, hsz.out, rfl⟩⟩, only_alloc (only_drew (only_refl w none)) _⟩

set_option maxRecDepth 100000 in
/-- append of a row that lies somewhere onto a row of the call's own. -/
theorem wpList_append_tl {ops : Array Oper} {rest : List Oper} {o : Oper} {a : Act} {Q : Exit → Act → World → Prop} (w0 : World) (hgd : o.guard = none) (s x : Operand)
    (ho : o.op = .call { callee := .builtin .append, args := #[s, x], argTypes := #[22, 22] }) (B : Nat) (v v2 : Value) (ts ts2 : List Tk)
    (hs : a.eval s = v) (hown : OwnT w0 B v ts) (hx : a.eval x = v2) (h2 : TL w0 v2 ts2) (hlen : ts.length + ts2.length ≤ 65536) (hB : B ≤ w0.heap.size)
    (h : ∀ v' w', OwnT w' B v' (ts ++ ts2) → w0.grownBy w' v.ownBlock → wpList Try.prog ops Q rest (a.put o.dst v') w') :
    wpList Try.prog ops Q (o :: rest) a w0 := by
  obtain ⟨i0, hi, hz0, hz1, hz2⟩ := info_parts info34
  obtain ⟨A, cap, hv, hT, hz⟩ := h2
  cases A with
  | none =>
    have h2 : ts2 = [] := by
      cases ts2 with
      | nil => rfl
      | cons t u => obtain ⟨ad, e, _⟩ := hT 0 t rfl; cases e
    subst h2
    have hc : cap = 0 := hz rfl
    subst hc
    refine wpList_append_own_none hgd s x 22 ho B 34 i0 2 Try.underlying22 hi v ts.length (tkCells ts) hs hown (hx.trans hv) ?_
    exact h v w0 (by rw [List.append_nil]; exact hown) (only_refl w0 _)
  | some ad =>
    refine wpList_append_own _ hgd s x 22 ho B 34 i0 _ 2 16 Try.underlying22 hi hz0 hz1 hz2 rfl (by decide) v ts.length (tkCells ts) hs hown ad ts2.length cap
      (tkCells ts2) (hx.trans hv) (tkCells_length ts2) ?_ (tkCells_one ts2) (by simp only [maxLen]; omega) (by omega) hB ?_
    · intro j u hj
      have hl : j < (tkCells ts2).length := (List.getElem?_eq_some_iff.1 hj).1
      rw [tkCells_length] at hl
      have hi2 : j / 2 < ts2.length := by omega
      obtain ⟨ad', e, c1, c2⟩ := hT (j / 2) ts2[j / 2] (List.getElem?_eq_getElem hi2)
      injection e with e
      subst e
      have k1 := tkCells_at ts2 (j / 2) _ (List.getElem?_eq_getElem hi2)
      by_cases hm : j % 2 = 0
      · have e1 : j / 2 * 2 = j := by omega
        rw [e1] at c1 k1
        rw [c1, ← k1.1, hj]
      · have e1 : j / 2 * 2 + 1 = j := by omega
        rw [e1] at c2 k1
        rw [c2, ← k1.2, hj]
    · intro v' w' h1 h2 _
      refine h v' w' ?_ h2
      show w'.ownsRow B 34 2 v' (ts ++ ts2).length (tkCells (ts ++ ts2))
      rw [tkCells_append, List.length_append]
      exact h1

theorem len_app {a b U : List Tk} {n : Nat} (hu : U = a ++ b) (h : a.length ≤ n) : Hid (U.length ≤ n + b.length) := by
  subst hu; show _ ≤ _; rw [List.length_append]; omega
theorem cat_step {w W wa : World} {g : Nat} {cs : Array Value} {v : Value} {ts : List Tk} (hg : w.grownBy W none) (hB : Blk W g 22 cs) (ho : OwnT W w.heap.size v ts) (hgr : W.grownBy wa v.ownBlock) : w.grownBy wa none ∧ Blk wa g 22 cs :=
  ⟨only_own hg ho (Nat.le_refl _) hgr, hB.grown hgr ((ho.far (by decide)).ne hB.typ)⟩

set_option maxRecDepth 100000 in
set_option maxHeartbeats 40000000 in
theorem concat_any (w : World) (g : Nat) (v1 v2 v3 v4 : Value) (t1 t2 t3 t4 : List Tk) (hb : Blk w g 22 #[v1, v2, v3, v4]) (h1 : TL w v1 t1) (h2 : TL w v2 t2) (h3 : TL w v3 t3) (h4 : TL w v4 t4) (hl : t1.length + t2.length + t3.length + t4.length ≤ 300) :
    Calls Try.prog 45 #[.slice (some ⟨g, 0, none⟩) 4 4] w fun e w' => ∃ v, e = .returned v ∧ TL w' v (t1 ++ t2 ++ t3 ++ t4) ∧ w.grownBy w' none := by
  have HB := Lib.hid hb
  have e0 := hb.cell 0
  have e1 := hb.cell 1
  have e2 := hb.cell 2
  have e3 := hb.cell 3
  simp only [List.getElem?_toArray, List.getElem?_cons_zero, List.getElem?_cons_succ] at e0 e1 e2 e3
  have H1 := Lib.hid h1
  have H2 := Lib.hid h2
  have H3 := Lib.hid h3
  have H4 := Lib.hid h4
  obtain ⟨A1, c1, rfl, -⟩ := h1
  obtain ⟨A2, c2, rfl, -⟩ := h2
  obtain ⟨A3, c3, rfl, -⟩ := h3
  obtain ⟨A4, c4, rfl, -⟩ := h4
  have CG : Hid (∀ W : World, Calls Try.prog 68 #[.slice none 0 0, .int .i64 ((t1.length : Int) + t2.length + t3.length + t4.length)] W fun e w' => ∃ v, e = .returned v ∧ OwnT w' W.heap.size v [] ∧ W.grownBy w' none) := fun W => by
    have := grow_nil W (t1.length + t2.length + t3.length + t4.length) (by omega)
    simpa using this
  have HL := Lib.hid hl
  clear hb
  go_enter Try.func45, Try.ntmps45
  go_wp2_with fail
  refine wp_loop_rounds 5 ?_
  rw [rounds_succ]
  go_wp2_with fail
  rw [rounds_succ]
  go_wp2_with fail
  rw [rounds_succ]
  go_wp2_with fail
  rw [rounds_succ]
  go_wp2_with fail
  rw [rounds_succ]
  go_wp2_with (go_at_call 68; refine (CG.out _).mono ?_; rintro e W ⟨v0, rfl, ho, hg⟩; have HO := Lib.hid ho; have HG := Lib.hid hg; have HB1 := Lib.hid (HB.out.grown hg (by simp)); have e0 := HB1.out.cell 0; have e1 := HB1.out.cell 1; have e2 := HB1.out.cell 2; have e3 := HB1.out.cell 3; simp only [List.getElem?_toArray, List.getElem?_cons_zero, List.getElem?_cons_succ] at e0 e1 e2 e3; clear ho hg)
  refine wp_loop_rounds 5 ?_
  rw [rounds_succ]
  go_wp2_with (at_builtin; go_must (refine wpList_append_tl _ rfl (.tmp 31) (.tmp 32) rfl w.heap.size v0 (.slice A1 t1.length c1) [] t1 rfl (by exact HO.out) rfl (by exact H1.out.grown HG.out) (by simp; omega) (by exact HG.out.size) ?_); intro va wa hown hgr; have HS := cat_step HG.out HB1.out HO.out hgr; have HG1 := Lib.hid HS.1; have HBB1 := Lib.hid HS.2; obtain ⟨U1, hu⟩ : ∃ U : List Tk, U = [] ++ t1 := ⟨_, rfl⟩; rw [← hu] at hown; have HV1 := Lib.hid hu; have HU1 := len_app (n := 0) hu (Nat.le_refl _); obtain ⟨X1, d1, rfl⟩ := hown.form; have HO1 := Lib.hid hown; have e0 := HBB1.out.cell 0; have e1 := HBB1.out.cell 1; have e2 := HBB1.out.cell 2; have e3 := HBB1.out.cell 3; simp only [List.getElem?_toArray, List.getElem?_cons_zero, List.getElem?_cons_succ] at e0 e1 e2 e3; clear hown hgr HS hu)
  rw [rounds_succ]
  go_wp2_with (at_builtin; go_must (refine wpList_append_tl _ rfl (.tmp 31) (.tmp 32) rfl w.heap.size (.slice X1 U1.length d1) (.slice A2 t2.length c2) U1 t2 rfl (by exact HO1.out) rfl (by exact H2.out.grown HG1.out) (by have := HU1.out; omega) (by exact HG1.out.size) ?_); intro va wa hown hgr; have HS := cat_step HG1.out HBB1.out HO1.out hgr; have HG2 := Lib.hid HS.1; have HBB2 := Lib.hid HS.2; obtain ⟨U2, hu⟩ : ∃ U : List Tk, U = U1 ++ t2 := ⟨_, rfl⟩; rw [← hu] at hown; have HV2 := Lib.hid hu; have HU2 := len_app hu HU1.out; obtain ⟨X2, d2, rfl⟩ := hown.form; have HO2 := Lib.hid hown; have e0 := HBB2.out.cell 0; have e1 := HBB2.out.cell 1; have e2 := HBB2.out.cell 2; have e3 := HBB2.out.cell 3; simp only [List.getElem?_toArray, List.getElem?_cons_zero, List.getElem?_cons_succ] at e0 e1 e2 e3; clear hown hgr HS hu)
  rw [rounds_succ]
  go_wp2_with (at_builtin; go_must (refine wpList_append_tl _ rfl (.tmp 31) (.tmp 32) rfl w.heap.size (.slice X2 U2.length d2) (.slice A3 t3.length c3) U2 t3 rfl (by exact HO2.out) rfl (by exact H3.out.grown HG2.out) (by have := HU2.out; omega) (by exact HG2.out.size) ?_); intro va wa hown hgr; have HS := cat_step HG2.out HBB2.out HO2.out hgr; have HG3 := Lib.hid HS.1; have HBB3 := Lib.hid HS.2; obtain ⟨U3, hu⟩ : ∃ U : List Tk, U = U2 ++ t3 := ⟨_, rfl⟩; rw [← hu] at hown; have HV3 := Lib.hid hu; have HU3 := len_app hu HU2.out; obtain ⟨X3, d3, rfl⟩ := hown.form; have HO3 := Lib.hid hown; have e0 := HBB3.out.cell 0; have e1 := HBB3.out.cell 1; have e2 := HBB3.out.cell 2; have e3 := HBB3.out.cell 3; simp only [List.getElem?_toArray, List.getElem?_cons_zero, List.getElem?_cons_succ] at e0 e1 e2 e3; clear hown hgr HS hu)
  rw [rounds_succ]
  go_wp2_with (at_builtin; go_must (refine wpList_append_tl _ rfl (.tmp 31) (.tmp 32) rfl w.heap.size (.slice X3 U3.length d3) (.slice A4 t4.length c4) U3 t4 rfl (by exact HO3.out) rfl (by exact H4.out.grown HG3.out) (by have := HU3.out; omega) (by exact HG3.out.size) ?_); intro va wa hown hgr; have HS := cat_step HG3.out HBB3.out HO3.out hgr; have HG4 := Lib.hid HS.1; have HBB4 := Lib.hid HS.2; obtain ⟨U4, hu⟩ : ∃ U : List Tk, U = U3 ++ t4 := ⟨_, rfl⟩; rw [← hu] at hown; have HV4 := Lib.hid hu; have HU4 := len_app hu HU3.out; obtain ⟨X4, d4, rfl⟩ := hown.form; have HO4 := Lib.hid hown; have e0 := HBB4.out.cell 0; have e1 := HBB4.out.cell 1; have e2 := HBB4.out.cell 2; have e3 := HBB4.out.cell 3; simp only [List.getElem?_toArray, List.getElem?_cons_zero, List.getElem?_cons_succ] at e0 e1 e2 e3; clear hown hgr HS hu)
  rw [rounds_succ]
  go_wp2_with fail
  go_ret
  refine ⟨_, rfl, ?_, HG4.out⟩
  have := HO4.out.lies
  rw [show t1 ++ t2 ++ t3 ++ t4 = U4 by rw [HV4.out, HV3.out, HV2.out, HV1.out]; simp]
  exact this
end Go.Proofs.Ytdbcdgojbegakaa
