/-
pat.small's helpers: its two closures, IndexFunc, ContainsFunc, Grow, Concat.
slices.Grow of nothing, slices.Concat of four rows of pieces; pat.small.
pat.small: are a pattern's numbers such that it has a text?
-/
import Derived.Test.YtdbcdgojbegakaaP1
import Derived.Test.YtdbcdgojbegakaaU2
import Derived.Lib.SliceRun
import Derived.Lib.AppendZerosOnto
import Derived.Test.YtdbcdgojbegakaaN3
namespace Go.Proofs.Ytdbcdgojbegakaa
open Go.RowKit

def badN (n : Int) : Bool := decide (n < 0) || decide (40 < n)
theorem bad_num (n : Int) (w : World) : Calls Try.prog 42 #[.int .i64 n] w fun e w' => e = .returned (.bool (badN n)) ∧ w' = w := by
  by_cases h : n < 0
  · have HB : Hid (badN n = true) := by simp [Hid, badN, h]
    have h2 : decide (n < 0) = true := by simpa using h
    clear h
    go_enter Try.func42, Try.ntmps42
    go_wp2
    go_ret
    exact ⟨by rw [HB.out]; rfl, rfl⟩
  · have HB : Hid (badN n = decide (40 < n)) := by simp [Hid, badN, h]
    have h2 : decide (n < 0) = false := by simpa using h
    clear h
    go_enter Try.func42, Try.ntmps42
    go_wp2
    go_ret
    exact ⟨by rw [HB.out]; rfl, rfl⟩

theorem bad_tok (t : Tk) (w : World) : Calls Try.prog 46 #[.agg #[.int .i64 t.kind, .int .i32 t.r]] w fun e w' => e = .returned (.bool (!isRune t.r)) ∧ w.grownBy w' none := by
  have C := Lib.hid (is_rune t.r)
  have e1 : (w.alloc (.cells #[.int .i64 t.kind, .int .i32 t.r] 34)).cell? ⟨w.heap.size, 1, none⟩ = some (.int .i32 t.r) := (Blk.new w 34 _).cell 1
  go_enter Try.func46, Try.ntmps46
  go_wp2_with (go_at_call 43; refine (C.out _).mono ?_; rintro e w1 ⟨rfl, rfl⟩)
  go_ret
  exact ⟨rfl, only_alloc (only_refl _ _) _⟩

theorem run_loop_any {α : Type} (f : α → Bool) (l : List α) (k : Nat) (h : (l.take k).any f = false) : l.any f = (l.drop k).any f := by
  conv => lhs; rw [← List.take_append_drop k l]
  rw [List.any_append, h, Bool.false_or]

set_option maxHeartbeats 1000000 in
theorem index_num (w : World) (ad : Addr) (gs : List Int) (cap : Nat) (hl : gs.length ≤ 100) (hc : ∀ i x, gs[i]? = some x → w.cell? (ad.add i) = some (.int .i64 x)) :
    Calls Try.prog 66 #[.slice (some ad) gs.length cap, .func (.func 42) #[] #[]] w fun e w' => (∃ x : Int, e = .returned (.int .i64 x) ∧ decide (0 ≤ x) = gs.any badN) ∧ w' = w := by
  have HC := Lib.hid hc
  have CB := Lib.hid bad_num
  clear hc
  go_enter Try.func66, Try.ntmps66
  go_wp2_with fail
  go_loopg [8] gs.length (fun kq v8 wr => ∃ k : Nat, v8 = .int .i64 k ∧ Hid (kq + k = gs.length) ∧ Hid ((gs.take k).any badN = false) ∧ wr = w)
  case atStart => exact ⟨0, rfl, rfl, by simp [Hid], rfl⟩
  case round =>
    obtain ⟨k, rfl, HK, HE, rfl⟩ := hrel
    by_cases hk : k < gs.length
    · have d1 := HC.out k gs[k] (List.getElem?_eq_getElem hk)
      have hk2 : (k : Int) < (gs.length : Int) := by omega
      cases hb : badN gs[k] with
      | false =>
        have HE2 : Hid ((gs.take (k + 1)).any badN = false) := by
          rw [Hid, List.take_add_one, List.any_append, HE.out, List.getElem?_eq_getElem hk]; simp [hb]
        go_wp2_with (go_at_call 42; refine (CB.out gs[k] _).mono ?_; rintro e w1 ⟨rfl, rfl⟩)
        go_roundg (gs.length - (k + 1))
        case measure => have := HK.out; omega
        case rel => exact ⟨k + 1, by simp, by show _ = _; omega, HE2, rfl⟩
      | true =>
        have HF : Hid (gs.any badN = true) := List.any_eq_true.2 ⟨gs[k], List.getElem_mem hk, hb⟩
        go_wp2_with (go_at_call 42; refine (CB.out gs[k] _).mono ?_; rintro e w1 ⟨rfl, rfl⟩)
        go_ret
        exact ⟨⟨k, rfl, by rw [HF.out]; simp⟩, rfl⟩
    · have HF : Hid (gs.any badN = false) := by
        have := HE.out
        rwa [show k = gs.length by have := HK.out; omega, List.take_length] at this
      have hk2 : ¬ ((k : Int) < (gs.length : Int)) := by omega
      go_wp2_with fail
      go_ret
      exact ⟨⟨-1, rfl, by rw [HF.out]; rfl⟩, rfl⟩

set_option maxHeartbeats 1000000 in
theorem index_tok (w : World) (v : Value) (ts : List Tk) (h : TL w v ts) (hl : ts.length ≤ 2000) :
    Calls Try.prog 67 #[v, .func (.func 46) #[] #[]] w fun e w' => (∃ x : Int, e = .returned (.int .i64 x) ∧ decide (0 ≤ x) = ts.any fun t => !isRune t.r) ∧ w.grownBy w' none := by
  obtain ⟨A, cap, rfl, hT, -⟩ := h
  have HC := Lib.hid hT
  have CB := Lib.hid bad_tok
  clear hT
  go_enter Try.func67, Try.ntmps67
  go_wp2_with fail
  go_loopg [8] ts.length (fun kq v8 wr => ∃ k : Nat, v8 = .int .i64 k ∧ Hid (kq + k = ts.length) ∧ Hid ((ts.take k).any (fun t => !isRune t.r) = false) ∧ Hid (w.grownBy wr none))
  case atStart => exact ⟨0, rfl, rfl, by simp [Hid], only_refl _ _⟩
  case round =>
    obtain ⟨k, rfl, HK, HE, HG⟩ := hrel
    by_cases hk : k < ts.length
    · obtain ⟨ad, rfl, c1, c2⟩ := HC.out k ts[k] (List.getElem?_eq_getElem hk)
      have d1 := HG.out.cell c1 (by simp)
      have d2 := HG.out.cell c2 (by simp)
      rw [← add_of_add, show ∀ x : Addr, x.add 1 = ⟨x.block, x.off + 1, none⟩ from fun x => by simp [Addr.add]] at d2
      have hk2 : (k : Int) < (ts.length : Int) := by omega
      clear c1 c2
      cases hb : isRune ts[k].r with
      | true =>
        have HE2 : Hid ((ts.take (k + 1)).any (fun t => !isRune t.r) = false) := by
          rw [Hid, List.take_add_one, List.any_append, HE.out, List.getElem?_eq_getElem hk]; simp [hb]
        go_wp2_with (go_at_call 46; refine (CB.out ts[k] _).mono ?_; rintro e w1 ⟨rfl, hg⟩; have HG1 := Lib.hid (only_trans HG.out hg); clear hg)
        go_roundg (ts.length - (k + 1))
        case measure => have := HK.out; omega
        case rel => exact ⟨k + 1, by simp, by show _ = _; omega, HE2, HG1⟩
      | false =>
        have HF : Hid (ts.any (fun t => !isRune t.r) = true) := List.any_eq_true.2 ⟨ts[k], List.getElem_mem hk, by simp [hb]⟩
        go_wp2_with (go_at_call 46; refine (CB.out ts[k] _).mono ?_; rintro e w1 ⟨rfl, hg⟩; have HG1 := Lib.hid (only_trans HG.out hg); clear hg)
        go_ret
        exact ⟨⟨k, rfl, by rw [HF.out]; simp⟩, HG1.out⟩
    · have HF : Hid (ts.any (fun t => !isRune t.r) = false) := by
        have := HE.out
        rwa [show k = ts.length by have := HK.out; omega, List.take_length] at this
      have hk2 : ¬ ((k : Int) < (ts.length : Int)) := by omega
      go_wp2_with fail
      go_ret
      exact ⟨⟨-1, rfl, by rw [HF.out]; rfl⟩, HG.out⟩

theorem has_num (w : World) (ad : Addr) (gs : List Int) (cap : Nat) (hl : gs.length ≤ 100) (hc : ∀ i x, gs[i]? = some x → w.cell? (ad.add i) = some (.int .i64 x)) :
    Calls Try.prog 41 #[.slice (some ad) gs.length cap, .func (.func 42) #[] #[]] w fun e w' => e = .returned (.bool (gs.any badN)) ∧ w' = w := by
  have C := Lib.hid (index_num w ad gs cap hl hc)
  clear hc
  go_enter Try.func41, Try.ntmps41
  go_wp2_with (go_at_call 66; refine C.out.mono ?_; rintro e w1 ⟨⟨x, rfl, hx⟩, rfl⟩; have HX := Lib.hid hx; clear hx)
  go_ret
  exact ⟨by rw [← HX.out]; rfl, rfl⟩
theorem has_tok (w : World) (v : Value) (ts : List Tk) (h : TL w v ts) (hl : ts.length ≤ 2000) :
    Calls Try.prog 44 #[v, .func (.func 46) #[] #[]] w fun e w' => e = .returned (.bool (ts.any fun t => !isRune t.r)) ∧ w.grownBy w' none := by
  have C := Lib.hid (index_tok w v ts h hl)
  clear h
  go_enter Try.func44, Try.ntmps44
  go_wp2_with (go_at_call 67; refine C.out.mono ?_; rintro e w1 ⟨⟨x, rfl, hx⟩, hg⟩; have HX := Lib.hid hx; have HG := Lib.hid hg; clear hx hg)
  go_ret
  exact ⟨by rw [← HX.out]; rfl, HG.out⟩
end Go.Proofs.Ytdbcdgojbegakaa
namespace Go.Proofs.Ytdbcdgojbegakaa
open Go.RowKit

set_option maxRecDepth 100000 in
set_option maxHeartbeats 1000000 in
theorem grow_nil (w : World) (n : Nat) (hn : n ≤ 2000) :
    Calls Try.prog 68 #[.slice none 0 0, .int .i64 n] w fun e w' => ∃ v, e = .returned v ∧ OwnT w' w.heap.size v [] ∧ w.grownBy w' none := by
  rcases Nat.eq_zero_or_pos n with rfl | h0
  · go_enter Try.func68, Try.ntmps68
    go_wp2
    go_ret
    exact ⟨_, rfl, OwnT.nil_ _ _, only_refl _ _⟩
  · obtain ⟨i0, hi, hz0, hz1, hz2⟩ := info_parts info34
    have hfit : Builtin.nextslicecap (0 + n) 0 * i0.bytes ≤ 281474976710656 := by
      rw [hz2]
      have : Builtin.nextslicecap (0 + n) 0 = 0 + n := by unfold Builtin.nextslicecap; rw [if_pos (by omega)]
      rw [this]; omega
    have hrz := Lib.run_append_grow_zeros (P := Try.prog) w 22 3 22 34 i0 _ .i64 .i64 Try.underlying22 Try.underlying3 hi hz0 none 0 0 [] (run_firstCells_none _ i0.size 0 0 0) n h0 (by rw [hz1]; decide) (by omega) (by omega) (by rw [hz2]; omega) hfit
    have hge := Lib.hid (grownCap_ge w (0 + n) 0 34)
    have hle := Lib.hid (grownCap_le_maxLen w (0 + n) 0 34 (by simp only [maxLen]; omega))
    have hz3 := Lib.hid hz1
    generalize hcap : grownCap w (0 + n) 0 34 = cap at *
    have hsz : Hid ((([] : List Value).toArray ++ Builtin.zeroCells (Value.agg #[(.int .i64 0), (.int .i32 0)]).cells n ++ Builtin.zeroCells (Value.agg #[(.int .i64 0), (.int .i32 0)]).cells (cap - (0 + n))).size = cap * 2) := by
      have hs : ∀ k, (Builtin.zeroCells (Value.agg #[(.int .i64 0), (.int .i32 0)]).cells k).size = k * 2 := fun k => by rw [size_zeroCells]; rfl
      have := hge.out
      show (([] : List Value).toArray ++ Builtin.zeroCells (Value.agg #[(.int .i64 0), (.int .i32 0)]).cells n ++ Builtin.zeroCells (Value.agg #[(.int .i64 0), (.int .i32 0)]).cells (cap - (0 + n))).size = cap * 2
      rw [Array.size_append, Array.size_append, hs, hs]
      simp only [List.size_toArray, List.length_nil]
      omega
    generalize ([] : List Value).toArray ++ Builtin.zeroCells (Value.agg #[(.int .i64 0), (.int .i32 0)]).cells n ++ Builtin.zeroCells (Value.agg #[(.int .i64 0), (.int .i32 0)]).cells (cap - (0 + n)) = cs at *
    have h1 : decide (0 < (n : Int)) = true := by simp; omega
    have hncap : (n : Int) ≤ (cap : Int) := by have := hge.out; omega
    simp only [Nat.zero_add] at hrz
    clear hi hz0 hz1 hz2 hcap hfit
    go_enter Try.func68, Try.ntmps68
    go_wp2_with (at_builtin; refine Lib.wpList_append_run _ rfl _ _ _ _ rfl _ _ rfl rfl _ _ hrz ?_)
    go_ret
    refine ⟨_, rfl, ⟨rfl, .inr ⟨w.heap.size, cap, cs, rfl, Nat.le_refl _, heap_alloc_new w.drew _, Nat.zero_le _, hle.out, hsz.out, rfl⟩⟩, only_alloc (only_drew (only_refl w none)) _⟩

set_option maxRecDepth 100000 in
/-- append of a row that lies somewhere onto a row of the call's own. -/
theorem wpList_append_tl {ops : Array Oper} {rest : List Oper} {o : Oper} {a : Act} {Q : Exit → Act → World → Prop} (w0 : World) (hgd : o.guard = none) (s x : Operand)
    (ho : o.op = .call { callee := .builtin .append, args := #[s, x], argTypes := #[22, 22] }) (B : Nat) (v v2 : Value) (ts ts2 : List Tk)
    (hs : a.eval s = v) (hown : OwnT w0 B v ts) (hx : a.eval x = v2) (h2 : TL w0 v2 ts2) (hlen : ts.length + ts2.length ≤ 65536) (hB : B ≤ w0.heap.size)
    (h : ∀ v' w', OwnT w' B v' (ts ++ ts2) → w0.grownBy w' v.ownBlock → wpList Try.prog ops Q rest (a.put o.dst v') w') :
    wpList Try.prog ops Q (o :: rest) a w0 := by
  obtain ⟨i0, hi, hz0, hz1, hz2⟩ := info_parts info34
  obtain ⟨A, cap, hv, hT, hz⟩ := h2
  cases A with
  | none =>
    have h2 : ts2 = [] := by
      cases ts2 with
      | nil => rfl
      | cons t u => obtain ⟨ad, e, _⟩ := hT 0 t rfl; cases e
    subst h2
    have hc : cap = 0 := hz rfl
    subst hc
    refine wpList_append_own_none hgd s x 22 ho B 34 i0 2 Try.underlying22 hi v ts.length (tkCells ts) hs hown (hx.trans hv) ?_
    exact h v w0 (by rw [List.append_nil]; exact hown) (only_refl w0 _)
  | some ad =>
    refine wpList_append_own _ hgd s x 22 ho B 34 i0 _ 2 16 Try.underlying22 hi hz0 hz1 hz2 rfl (by decide) v ts.length (tkCells ts) hs hown ad ts2.length cap
      (tkCells ts2) (hx.trans hv) (tkCells_length ts2) ?_ (tkCells_one ts2) (by simp only [maxLen]; omega) (by omega) hB ?_
    · intro j u hj
      have hl : j < (tkCells ts2).length := (List.getElem?_eq_some_iff.1 hj).1
      rw [tkCells_length] at hl
      have hi2 : j / 2 < ts2.length := by omega
      obtain ⟨ad', e, c1, c2⟩ := hT (j / 2) ts2[j / 2] (List.getElem?_eq_getElem hi2)
      injection e with e
      subst e
      have k1 := tkCells_at ts2 (j / 2) _ (List.getElem?_eq_getElem hi2)
      by_cases hm : j % 2 = 0
      · have e1 : j / 2 * 2 = j := by omega
        rw [e1] at c1 k1
        rw [c1, ← k1.1, hj]
      · have e1 : j / 2 * 2 + 1 = j := by omega
        rw [e1] at c2 k1
        rw [c2, ← k1.2, hj]
    · intro v' w' h1 h2 _
      refine h v' w' ?_ h2
      show w'.ownsRow B 34 2 v' (ts ++ ts2).length (tkCells (ts ++ ts2))
      rw [tkCells_append, List.length_append]
      exact h1

theorem len_app {a b U : List Tk} {n : Nat} (hu : U = a ++ b) (h : a.length ≤ n) : Hid (U.length ≤ n + b.length) := by
  subst hu; show _ ≤ _; rw [List.length_append]; omega
theorem cat_step {w W wa : World} {g : Nat} {cs : Array Value} {v : Value} {ts : List Tk} (hg : w.grownBy W none) (hB : Blk W g 22 cs) (ho : OwnT W w.heap.size v ts) (hgr : W.grownBy wa v.ownBlock) : w.grownBy wa none ∧ Blk wa g 22 cs :=
  ⟨only_own hg ho (Nat.le_refl _) hgr, hB.grown hgr ((ho.far (by decide)).ne hB.typ)⟩

set_option maxRecDepth 100000 in
set_option maxHeartbeats 40000000 in
theorem concat_any (w : World) (g : Nat) (v1 v2 v3 v4 : Value) (t1 t2 t3 t4 : List Tk) (hb : Blk w g 22 #[v1, v2, v3, v4]) (h1 : TL w v1 t1) (h2 : TL w v2 t2) (h3 : TL w v3 t3) (h4 : TL w v4 t4) (hl : t1.length + t2.length + t3.length + t4.length ≤ 300) :
    Calls Try.prog 45 #[.slice (some ⟨g, 0, none⟩) 4 4] w fun e w' => ∃ v, e = .returned v ∧ TL w' v (t1 ++ t2 ++ t3 ++ t4) ∧ w.grownBy w' none := by
  have HB := Lib.hid hb
  have e0 := hb.cell 0
  have e1 := hb.cell 1
  have e2 := hb.cell 2
  have e3 := hb.cell 3
  simp only [List.getElem?_toArray, List.getElem?_cons_zero, List.getElem?_cons_succ] at e0 e1 e2 e3
  have H1 := Lib.hid h1
  have H2 := Lib.hid h2
  have H3 := Lib.hid h3
  have H4 := Lib.hid h4
  obtain ⟨A1, c1, rfl, -⟩ := h1
  obtain ⟨A2, c2, rfl, -⟩ := h2
  obtain ⟨A3, c3, rfl, -⟩ := h3
  obtain ⟨A4, c4, rfl, -⟩ := h4
  have CG : Hid (∀ W : World, Calls Try.prog 68 #[.slice none 0 0, .int .i64 ((t1.length : Int) + t2.length + t3.length + t4.length)] W fun e w' => ∃ v, e = .returned v ∧ OwnT w' W.heap.size v [] ∧ W.grownBy w' none) := fun W => by
    have := grow_nil W (t1.length + t2.length + t3.length + t4.length) (by omega)
    simpa using this
  have HL := Lib.hid hl
  clear hb
  go_enter Try.func45, Try.ntmps45
  go_wp2_with fail
  refine wp_loop_rounds 5 ?_
  rw [rounds_succ]
  go_wp2_with fail
  rw [rounds_succ]
  go_wp2_with fail
  rw [rounds_succ]
  go_wp2_with fail
  rw [rounds_succ]
  go_wp2_with fail
  rw [rounds_succ]
  go_wp2_with (go_at_call 68; refine (CG.out _).mono ?_; rintro e W ⟨v0, rfl, ho, hg⟩; have HO := Lib.hid ho; have HG := Lib.hid hg; have HB1 := Lib.hid (HB.out.grown hg (by simp)); have e0 := HB1.out.cell 0; have e1 := HB1.out.cell 1; have e2 := HB1.out.cell 2; have e3 := HB1.out.cell 3; simp only [List.getElem?_toArray, List.getElem?_cons_zero, List.getElem?_cons_succ] at e0 e1 e2 e3; clear ho hg)
  refine wp_loop_rounds 5 ?_
  rw [rounds_succ]
  go_wp2_with (at_builtin; go_must (refine wpList_append_tl _ rfl (.tmp 31) (.tmp 32) rfl w.heap.size v0 (.slice A1 t1.length c1) [] t1 rfl (by exact HO.out) rfl (by exact H1.out.grown HG.out) (by simp; omega) (by exact HG.out.size) ?_); intro va wa hown hgr; have HS := cat_step HG.out HB1.out HO.out hgr; have HG1 := Lib.hid HS.1; have HBB1 := Lib.hid HS.2; obtain ⟨U1, hu⟩ : ∃ U : List Tk, U = [] ++ t1 := ⟨_, rfl⟩; rw [← hu] at hown; have HV1 := Lib.hid hu; have HU1 := len_app (n := 0) hu (Nat.le_refl _); obtain ⟨X1, d1, rfl⟩ := hown.form; have HO1 := Lib.hid hown; have e0 := HBB1.out.cell 0; have e1 := HBB1.out.cell 1; have e2 := HBB1.out.cell 2; have e3 := HBB1.out.cell 3; simp only [List.getElem?_toArray, List.getElem?_cons_zero, List.getElem?_cons_succ] at e0 e1 e2 e3; clear hown hgr HS hu)
  rw [rounds_succ]
  go_wp2_with (at_builtin; go_must (refine wpList_append_tl _ rfl (.tmp 31) (.tmp 32) rfl w.heap.size (.slice X1 U1.length d1) (.slice A2 t2.length c2) U1 t2 rfl (by exact HO1.out) rfl (by exact H2.out.grown HG1.out) (by have := HU1.out; omega) (by exact HG1.out.size) ?_); intro va wa hown hgr; have HS := cat_step HG1.out HBB1.out HO1.out hgr; have HG2 := Lib.hid HS.1; have HBB2 := Lib.hid HS.2; obtain ⟨U2, hu⟩ : ∃ U : List Tk, U = U1 ++ t2 := ⟨_, rfl⟩; rw [← hu] at hown; have HV2 := Lib.hid hu; have HU2 := len_app hu HU1.out; obtain ⟨X2, d2, rfl⟩ := hown.form; have HO2 := Lib.hid hown; have e0 := HBB2.out.cell 0; have e1 := HBB2.out.cell 1; have e2 := HBB2.out.cell 2; have e3 := HBB2.out.cell 3; simp only [List.getElem?_toArray, List.getElem?_cons_zero, List.getElem?_cons_succ] at e0 e1 e2 e3; clear hown hgr HS hu)
  rw [rounds_succ]
  go_wp2_with (at_builtin; go_must (refine wpList_append_tl _ rfl (.tmp 31) (.tmp 32) rfl w.heap.size (.slice X2 U2.length d2) (.slice A3 t3.length c3) U2 t3 rfl (by exact HO2.out) rfl (by exact H3.out.grown HG2.out) (by have := HU2.out; omega) (by exact HG2.out.size) ?_); intro va wa hown hgr; have HS := cat_step HG2.out HBB2.out HO2.out hgr; have HG3 := Lib.hid HS.1; have HBB3 := Lib.hid HS.2; obtain ⟨U3, hu⟩ : ∃ U : List Tk, U = U2 ++ t3 := ⟨_, rfl⟩; rw [← hu] at hown; have HV3 := Lib.hid hu; have HU3 := len_app hu HU2.out; obtain ⟨X3, d3, rfl⟩ := hown.form; have HO3 := Lib.hid hown; have e0 := HBB3.out.cell 0; have e1 := HBB3.out.cell 1; have e2 := HBB3.out.cell 2; have e3 := HBB3.out.cell 3; simp only [List.getElem?_toArray, List.getElem?_cons_zero, List.getElem?_cons_succ] at e0 e1 e2 e3; clear hown hgr HS hu)
  rw [rounds_succ]
  go_wp2_with (at_builtin; go_must (refine wpList_append_tl _ rfl (.tmp 31) (.tmp 32) rfl w.heap.size (.slice X3 U3.length d3) (.slice A4 t4.length c4) U3 t4 rfl (by exact HO3.out) rfl (by exact H4.out.grown HG3.out) (by have := HU3.out; omega) (by exact HG3.out.size) ?_); intro va wa hown hgr; have HS := cat_step HG3.out HBB3.out HO3.out hgr; have HG4 := Lib.hid HS.1; have HBB4 := Lib.hid HS.2; obtain ⟨U4, hu⟩ : ∃ U : List Tk, U = U3 ++ t4 := ⟨_, rfl⟩; rw [← hu] at hown; have HV4 := Lib.hid hu; have HU4 := len_app hu HU3.out; obtain ⟨X4, d4, rfl⟩ := hown.form; have HO4 := Lib.hid hown; have e0 := HBB4.out.cell 0; have e1 := HBB4.out.cell 1; have e2 := HBB4.out.cell 2; have e3 := HBB4.out.cell 3; simp only [List.getElem?_toArray, List.getElem?_cons_zero, List.getElem?_cons_succ] at e0 e1 e2 e3; clear hown hgr HS hu)
  rw [rounds_succ]
  go_wp2_with fail
  go_ret
  refine ⟨_, rfl, ?_, HG4.out⟩
  have := HO4.out.lies
  rw [show t1 ++ t2 ++ t3 ++ t4 = U4 by rw [HV4.out, HV3.out, HV2.out, HV1.out]; simp]
  exact this
end Go.Proofs.Ytdbcdgojbegakaa
namespace Go.Proofs.Ytdbcdgojbegakaa
open Go.RowKit

def nums (p : Nm) : List Int := [p.hash, p.minInt, p.minFrac, p.maxFrac, p.g1, p.g2, p.minSig, p.maxSig, p.exp]
theorem small_eq (p : Pt) : smallP p = (!(nums p.nm).any badN && isRune p.pad && !((p.pre ++ p.suf ++ p.npre ++ p.nsuf).any fun t => !isRune t.r)) := by
  have h1 : smallNm p.nm = !(nums p.nm).any badN := by
    simp only [smallNm, nums, List.all_cons, List.all_nil, List.any_cons, List.any_nil, badN]
    rw [Bool.eq_iff_iff]
    simp
  rw [smallP, h1]
  congr 1
  rw [List.all_eq_not_any_not]

set_option maxRecDepth 100000 in
set_option maxHeartbeats 4000000 in
theorem small_any (w : World) (u : Value) (p : Pt) (h : PatV w u p) (hl : (p.pre ++ p.suf ++ p.npre ++ p.nsuf).length ≤ 300) :
    Calls Try.prog 23 #[u] w fun e w' => e = .returned (.bool (smallP p)) ∧ w.grownBy w' none := by
  obtain ⟨v1, v2, v3, v4, rfl, t1, t2, t3, t4⟩ := h
  have T := Lib.hid (And.intro t1 (And.intro t2 (And.intro t3 t4)))
  obtain ⟨A1, c1, rfl, -⟩ := id t1
  obtain ⟨A2, c2, rfl, -⟩ := id t2
  obtain ⟨A3, c3, rfl, -⟩ := id t3
  obtain ⟨A4, c4, rfl, -⟩ := id t4
  have hlen : p.pre.length + p.suf.length + p.npre.length + p.nsuf.length ≤ 300 := by simpa using (by simp at hl; omega : _)
  have HS := Lib.hid (small_eq p)
  have H0 := Lib.hid (TI.new w (ptCells (.slice A1 p.pre.length c1) (.slice A2 p.suf.length c2) (.slice A3 p.npre.length c3) (.slice A4 p.nsuf.length c4) p))
  have C41 : Hid (∀ W : World, Calls Try.prog 41 #[.slice (some ⟨W.heap.size, 0, none⟩) 9 9, .func (.func 42) #[] #[]] (W.alloc (.cells #[.int .i64 p.nm.hash, .int .i64 p.nm.minInt, .int .i64 p.nm.minFrac, .int .i64 p.nm.maxFrac, .int .i64 p.nm.g1, .int .i64 p.nm.g2, .int .i64 p.nm.minSig, .int .i64 p.nm.maxSig, .int .i64 p.nm.exp] 3)) fun e w' =>
      e = .returned (.bool ((nums p.nm).any badN)) ∧ w' = (W.alloc (.cells #[.int .i64 p.nm.hash, .int .i64 p.nm.minInt, .int .i64 p.nm.minFrac, .int .i64 p.nm.maxFrac, .int .i64 p.nm.g1, .int .i64 p.nm.g2, .int .i64 p.nm.minSig, .int .i64 p.nm.maxSig, .int .i64 p.nm.exp] 3))) := fun W =>
    has_num _ ⟨W.heap.size, 0, none⟩ (nums p.nm) 9 (by simp [nums]) (fun i x hx => by
      have hb := (Blk.new W 3 #[.int .i64 p.nm.hash, .int .i64 p.nm.minInt, .int .i64 p.nm.minFrac, .int .i64 p.nm.maxFrac, .int .i64 p.nm.g1, .int .i64 p.nm.g2, .int .i64 p.nm.minSig, .int .i64 p.nm.maxSig, .int .i64 p.nm.exp]).cell i
      rw [show (⟨W.heap.size, 0, none⟩ : Addr).add i = ⟨W.heap.size, i, none⟩ by unfold Addr.add; split <;> simp_all, hb]
      have : (#[.int .i64 p.nm.hash, .int .i64 p.nm.minInt, .int .i64 p.nm.minFrac, .int .i64 p.nm.maxFrac, .int .i64 p.nm.g1, .int .i64 p.nm.g2, .int .i64 p.nm.minSig, .int .i64 p.nm.maxSig, .int .i64 p.nm.exp] : Array Value) = ((nums p.nm).map (Value.int .i64)).toArray := rfl
      rw [this]; simp [hx])
  have C43 := Lib.hid (is_rune p.pad)
  have HLEN := Lib.hid hlen
  clear t1 t2 t3 t4 hl hlen
  go_enter Try.func23, Try.ntmps23
  go_upto_region 1 with fail
  generalize w.alloc (.cells (ptCells (.slice A1 p.pre.length c1) (.slice A2 p.suf.length c2) (.slice A3 p.npre.length c3) (.slice A4 p.nsuf.length c4) p) 24) = W0 at *
  have k5 : W0.cell? ⟨w.heap.size, 5, none⟩ = some (.int .i64 p.nm.hash) := H0.out.blk.cell 5
  have k6 : W0.cell? ⟨w.heap.size, 6, none⟩ = some (.int .i64 p.nm.minInt) := H0.out.blk.cell 6
  have k7 : W0.cell? ⟨w.heap.size, 7, none⟩ = some (.int .i64 p.nm.minFrac) := H0.out.blk.cell 7
  have k8 : W0.cell? ⟨w.heap.size, 8, none⟩ = some (.int .i64 p.nm.maxFrac) := H0.out.blk.cell 8
  have k9 : W0.cell? ⟨w.heap.size, 9, none⟩ = some (.int .i64 p.nm.g1) := H0.out.blk.cell 9
  have k10 : W0.cell? ⟨w.heap.size, 10, none⟩ = some (.int .i64 p.nm.g2) := H0.out.blk.cell 10
  have k11 : W0.cell? ⟨w.heap.size, 11, none⟩ = some (.int .i64 p.nm.minSig) := H0.out.blk.cell 11
  have k12 : W0.cell? ⟨w.heap.size, 12, none⟩ = some (.int .i64 p.nm.maxSig) := H0.out.blk.cell 12
  have k13 : W0.cell? ⟨w.heap.size, 13, none⟩ = some (.int .i64 p.nm.exp) := H0.out.blk.cell 13
  have H1 := Lib.hid (H0.out.grown (only_alloc (only_refl W0 none) (.cells #[.int .i64 p.nm.hash, .int .i64 p.nm.minInt, .int .i64 p.nm.minFrac, .int .i64 p.nm.maxFrac, .int .i64 p.nm.g1, .int .i64 p.nm.g2, .int .i64 p.nm.minSig, .int .i64 p.nm.maxSig, .int .i64 p.nm.exp] 3)))
  go_upto_region 2 with fail
  have C := C41.out W0
  clear C41 k5 k6 k7 k8 k9 k10 k11 k12 k13
  generalize W0.alloc (.cells #[.int .i64 p.nm.hash, .int .i64 p.nm.minInt, .int .i64 p.nm.minFrac, .int .i64 p.nm.maxFrac, .int .i64 p.nm.g1, .int .i64 p.nm.g2, .int .i64 p.nm.minSig, .int .i64 p.nm.maxSig, .int .i64 p.nm.exp] 3) = W1 at *
  have D41 := Lib.hid C
  clear C
  have k0 : W1.cell? ⟨w.heap.size, 0, none⟩ = some (.slice A1 p.pre.length c1) := H1.out.blk.cell 0
  have k1 : W1.cell? ⟨w.heap.size, 1, none⟩ = some (.slice A2 p.suf.length c2) := H1.out.blk.cell 1
  have k2 : W1.cell? ⟨w.heap.size, 2, none⟩ = some (.slice A3 p.npre.length c3) := H1.out.blk.cell 2
  have k3 : W1.cell? ⟨w.heap.size, 3, none⟩ = some (.slice A4 p.nsuf.length c4) := H1.out.blk.cell 3
  have k15 : W1.cell? ⟨w.heap.size, 15, none⟩ = some (.int .i32 p.pad) := H1.out.blk.cell 15
  have C45 : Hid (Calls Try.prog 45 #[.slice (some ⟨W1.heap.size, 0, none⟩) 4 4] (W1.alloc (.cells #[.slice A1 p.pre.length c1, .slice A2 p.suf.length c2, .slice A3 p.npre.length c3, .slice A4 p.nsuf.length c4] 22)) fun e w' => ∃ v, e = .returned v ∧ TL w' v (p.pre ++ p.suf ++ p.npre ++ p.nsuf) ∧ w.grownBy w' none) := by
    have hg : w.grownBy (W1.alloc (.cells #[.slice A1 p.pre.length c1, .slice A2 p.suf.length c2, .slice A3 p.npre.length c3, .slice A4 p.nsuf.length c4] 22)) none := only_alloc H1.out.gr _
    refine (concat_any _ W1.heap.size _ _ _ _ _ _ _ _ (Blk.new W1 22 _) (T.out.1.grown hg) (T.out.2.1.grown hg) (T.out.2.2.1.grown hg) (T.out.2.2.2.grown hg) HLEN.out).mono ?_
    rintro e w' ⟨v, rfl, ht, hg2⟩
    exact ⟨v, rfl, ht, only_trans hg hg2⟩
  generalize (nums p.nm).any badN = b1 at *
  cases b1 with
  | true =>
    go_wp2_with (go_at_call 41; refine D41.out.mono ?_; rintro e w2 ⟨rfl, rfl⟩)
    go_ret
    exact ⟨by rw [HS.out]; rfl, H1.out.gr⟩
  | false =>
    generalize isRune p.pad = b2 at *
    cases b2 with
    | false =>
      go_wp2_with (first
        | (go_at_call 41; refine D41.out.mono ?_; rintro e w2 ⟨rfl, rfl⟩)
        | (go_at_call 43; refine (C43.out _).mono ?_; rintro e w2 ⟨rfl, rfl⟩))
      go_ret
      exact ⟨by rw [HS.out]; rfl, H1.out.gr⟩
    | true =>
      go_wp2_with (first
        | (go_at_call 41; refine D41.out.mono ?_; rintro e w2 ⟨rfl, rfl⟩)
        | (go_at_call 43; refine (C43.out _).mono ?_; rintro e w2 ⟨rfl, rfl⟩)
        | (go_at_call 45; refine C45.out.mono ?_; rintro e w3 ⟨v, rfl, ht, hg⟩; have HT := Lib.hid ht; have HG := Lib.hid hg; clear ht hg)
        | (go_at_call 44; refine (has_tok _ _ _ (by exact HT.out) (by have := HLEN.out; simp; omega)).mono ?_; rintro e w4 ⟨rfl, hg⟩; have HG4 := Lib.hid (only_trans HG.out hg); clear hg))
      go_ret
      exact ⟨by rw [HS.out]; simp, HG4.out⟩
end Go.Proofs.Ytdbcdgojbegakaa
