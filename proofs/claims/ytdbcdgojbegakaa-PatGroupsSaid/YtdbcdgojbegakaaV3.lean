/-
The reference's Sign, affix, many: what each comes to.
-/
import Derived.Test.YtdbcdgojbegakaaV2
namespace Go.Proofs.Ytdbcdgojbegakaa.V
open Go.RowKit Go.Proofs.YtdbcdgojbegakaaW.PrintWords Go.Proofs.YtdbcdgojbegakaaW.PrintLast Go.Proofs.YtdbcdgojbegakaaW.PrintMore

attribute [local go_sem] max2_int min2_int max_two min_two max_three min_three max_four min_four
set_option linter.unusedVariables false
set_option linter.unusedSimpArgs false

/-! ### exergueref10_Sign: function 86 -/
def exergueref10_Sign.f (a0 : Int) : Option (Int) := if a0 = 45 then (some 1) else (if a0 = 43 then (some 2) else (if a0 = 37 then (some 3) else (if a0 = 164 then (some 4) else (some 0))))
set_option maxHeartbeats 8000000 in
set_option maxRecDepth 100000 in
theorem exergueref10_Sign.calls (a0 : Int) (r : Int) (w : World) (h : exergueref10_Sign.f a0 = some r) :
    Calls Try.prog 86 #[.int .i32 a0] w fun e w' => e = .returned (.int .i64 r) ∧ Drawn0 w w' := by
  have H : (if a0 = 45 then (some 1) else (if a0 = 43 then (some 2) else (if a0 = 37 then (some 3) else (if a0 = 164 then (some 4) else (some 0))))) = some r := h
  clear h
  by_cases c2 : a0 = 45
  · rw [if_pos c2] at H
    have c2b0 : (a0 == 45) = true := beq_iff_eq.mpr c2
    have c2b1 : (a0 != 45) = false := bne_eq_false_iff_eq.mpr c2
    clear c2
    obtain rfl := Option.some.inj H
    go_enter Try.func86, Try.ntmps86
    go_wp2
    go_ret
    exact ⟨by first | rfl | (simp; done) | (simp [*]; done), by repeat (first | exact Drawn0.refl _ | apply Drawn0.step)⟩
  · rw [if_neg c2] at H
    have c2b0 : (a0 == 45) = false := beq_eq_false_iff_ne.mpr c2
    have c2b1 : (a0 != 45) = true := bne_iff_ne.mpr c2
    by_cases c3 : a0 = 43
    · rw [if_pos c3] at H
      have c3b0 : (a0 == 43) = true := beq_iff_eq.mpr c3
      have c3b1 : (a0 != 43) = false := bne_eq_false_iff_eq.mpr c3
      clear c3
      obtain rfl := Option.some.inj H
      go_enter Try.func86, Try.ntmps86
      go_wp2
      go_ret
      exact ⟨by first | rfl | (simp; done) | (simp [*]; done), by repeat (first | exact Drawn0.refl _ | apply Drawn0.step)⟩
    · rw [if_neg c3] at H
      have c3b0 : (a0 == 43) = false := beq_eq_false_iff_ne.mpr c3
      have c3b1 : (a0 != 43) = true := bne_iff_ne.mpr c3
      by_cases c4 : a0 = 37
      · rw [if_pos c4] at H
        have c4b0 : (a0 == 37) = true := beq_iff_eq.mpr c4
        have c4b1 : (a0 != 37) = false := bne_eq_false_iff_eq.mpr c4
        clear c4
        obtain rfl := Option.some.inj H
        go_enter Try.func86, Try.ntmps86
        go_wp2
        go_ret
        exact ⟨by first | rfl | (simp; done) | (simp [*]; done), by repeat (first | exact Drawn0.refl _ | apply Drawn0.step)⟩
      · rw [if_neg c4] at H
        have c4b0 : (a0 == 37) = false := beq_eq_false_iff_ne.mpr c4
        have c4b1 : (a0 != 37) = true := bne_iff_ne.mpr c4
        by_cases c5 : a0 = 164
        · rw [if_pos c5] at H
          have c5b0 : (a0 == 164) = true := beq_iff_eq.mpr c5
          have c5b1 : (a0 != 164) = false := bne_eq_false_iff_eq.mpr c5
          clear c5
          obtain rfl := Option.some.inj H
          go_enter Try.func86, Try.ntmps86
          go_wp2
          go_ret
          exact ⟨by first | rfl | (simp; done) | (simp [*]; done), by repeat (first | exact Drawn0.refl _ | apply Drawn0.step)⟩
        · rw [if_neg c5] at H
          have c5b0 : (a0 == 164) = false := beq_eq_false_iff_ne.mpr c5
          have c5b1 : (a0 != 164) = true := bne_iff_ne.mpr c5
          obtain rfl := Option.some.inj H
          go_enter Try.func86, Try.ntmps86
          go_wp2
          go_ret
          exact ⟨by first | rfl | (simp; done) | (simp [*]; done), by repeat (first | exact Drawn0.refl _ | apply Drawn0.step)⟩

/-! ### exergueref10_affix: function 64 -/
mutual
def exergueref10_affix.l0 : Nat → List Int → Int → List (S34) → Option ((List (S34)) × Int × Bool)
  | 0, _, _, _ => none
  | k + 1, x0, x1, x7 => if x1 < (x0.length : Int) then (if 0 ≤ x1 then ((exergueref10_Sign.f (rd x0 x1)).bind fun t384 => ((exergueref10_Special.f k (rd x0 x1)).bind fun t385 => (if t384 > 0 then (if x7.length < 8796093022208 then (exergueref10_affix.l0 k x0 (wrap64 (x1 + 1)) (x7 ++ [(⟨t384, 0⟩ : S34)])) else (none)) else (if (rd x0 x1) = 39 then ((exergueref10_at.f x0 (wrap64 (x1 + 1))).bind fun t392 => (if t392 = 39 then (if x7.length < 8796093022208 then (exergueref10_affix.l0 k x0 (wrap64 (x1 + 2)) (x7 ++ [(⟨0, 39⟩ : S34)])) else (none)) else (exergueref10_affix.l1 k x0 (wrap64 (x1 + 1)) x7 x1))) else (if t385 = true then (some (x7, x1, true)) else (if x7.length < 8796093022208 then (exergueref10_affix.l0 k x0 (wrap64 (x1 + 1)) (x7 ++ [(⟨0, rd x0 x1⟩ : S34)])) else (none))))))) else (none)) else (some (x7, x1, true))
def exergueref10_affix.l1 : Nat → List Int → Int → List (S34) → Int → Option ((List (S34)) × Int × Bool)
  | 0, _, _, _, _ => none
  | k + 1, x0, x1, x7, x11 => if x1 < (x0.length : Int) then (if 0 ≤ x1 then (if (rd x0 x1) = 39 then ((exergueref10_at.f x0 (wrap64 (x1 + 1))).bind fun t397 => (exergueref10_affix.j2 k x0 x1 x7 x11 (t397 == 39))) else (exergueref10_affix.j2 k x0 x1 x7 x11 true)) else (none)) else (exergueref10_affix.j2 k x0 x1 x7 x11 false)
def exergueref10_affix.j2 : Nat → List Int → Int → List (S34) → Int → Bool → Option ((List (S34)) × Int × Bool)
  | 0, _, _, _, _, _ => none
  | k + 1, x0, x1, x7, x11, x76 => if x76 = true then (if 0 ≤ x1 then (if x1 < (x0.length : Int) then (if x7.length < 8796093022208 then ((some (x7 ++ [(⟨0, rd x0 x1⟩ : S34)] : List (S34))).bind fun y399 => (if (rd x0 x1) = 39 then (exergueref10_affix.l1 k x0 (wrap64 ((wrap64 (x1 + 1)) + 1)) y399 x11) else (exergueref10_affix.l1 k x0 (wrap64 (x1 + 1)) y399 x11))) else (none)) else (none)) else (none)) else (if x1 ≥ (x0.length : Int) then (some (([] : List (S34)), x11, false)) else (exergueref10_affix.l0 k x0 (wrap64 (x1 + 1)) x7))
end
def exergueref10_affix.f (k : Nat) (l0 : List Int) (a1 : Int) : Option ((List (S34)) × Int × Bool) := exergueref10_affix.l0 k l0 a1 ([] : List (S34))
theorem exergueref10_affix.mono_l : ∀ k, (∀ y0 y1 y2, LeO (exergueref10_affix.l0 k y0 y1 y2) (exergueref10_affix.l0 (k + 1) y0 y1 y2)) ∧ (∀ y0 y1 y2 y3, LeO (exergueref10_affix.l1 k y0 y1 y2 y3) (exergueref10_affix.l1 (k + 1) y0 y1 y2 y3)) ∧ (∀ y0 y1 y2 y3 y4, LeO (exergueref10_affix.j2 k y0 y1 y2 y3 y4) (exergueref10_affix.j2 (k + 1) y0 y1 y2 y3 y4))
  | 0 => ⟨fun _ _ _ r h => by simp [exergueref10_affix.l0] at h, fun _ _ _ _ r h => by simp [exergueref10_affix.l1] at h, fun _ _ _ _ _ r h => by simp [exergueref10_affix.j2] at h⟩
  | k + 1 => by
    obtain ⟨ih0, ih1, ih2⟩ := exergueref10_affix.mono_l k
    refine ⟨?_, ?_, ?_⟩
    · intro y0 y1 y2
      unfold exergueref10_affix.l0
      repeat' first
      | (with_reducible exact ih0 _ _ _)
      | (with_reducible exact ih1 _ _ _ _)
      | (with_reducible exact ih2 _ _ _ _ _)
      | (with_reducible exact exergueref10_Special.mono _ _)
      | (with_reducible exact LeO.refl _)
      | (with_reducible exact LeO.none _)
      | (with_reducible refine LeO.ite ?_ ?_)
      | (with_reducible refine LeO.bind ?_ (fun _ => ?_))
      | exact ih0 _ _ _
      | exact ih1 _ _ _ _
      | exact ih2 _ _ _ _ _
      | exact exergueref10_Special.mono _ _
      | exact LeO.none _
      | refine LeO.ite ?_ ?_
      | refine LeO.bind ?_ (fun _ => ?_)
    · intro y0 y1 y2 y3
      unfold exergueref10_affix.l1
      repeat' first
      | (with_reducible exact ih0 _ _ _)
      | (with_reducible exact ih1 _ _ _ _)
      | (with_reducible exact ih2 _ _ _ _ _)
      | (with_reducible exact exergueref10_Special.mono _ _)
      | (with_reducible exact LeO.refl _)
      | (with_reducible exact LeO.none _)
      | (with_reducible refine LeO.ite ?_ ?_)
      | (with_reducible refine LeO.bind ?_ (fun _ => ?_))
      | exact ih0 _ _ _
      | exact ih1 _ _ _ _
      | exact ih2 _ _ _ _ _
      | exact exergueref10_Special.mono _ _
      | exact LeO.none _
      | refine LeO.ite ?_ ?_
      | refine LeO.bind ?_ (fun _ => ?_)
    · intro y0 y1 y2 y3 y4
      unfold exergueref10_affix.j2
      repeat' first
      | (with_reducible exact ih0 _ _ _)
      | (with_reducible exact ih1 _ _ _ _)
      | (with_reducible exact ih2 _ _ _ _ _)
      | (with_reducible exact exergueref10_Special.mono _ _)
      | (with_reducible exact LeO.refl _)
      | (with_reducible exact LeO.none _)
      | (with_reducible refine LeO.ite ?_ ?_)
      | (with_reducible refine LeO.bind ?_ (fun _ => ?_))
      | exact ih0 _ _ _
      | exact ih1 _ _ _ _
      | exact ih2 _ _ _ _ _
      | exact exergueref10_Special.mono _ _
      | exact LeO.none _
      | refine LeO.ite ?_ ?_
      | refine LeO.bind ?_ (fun _ => ?_)
theorem exergueref10_affix.mono : ∀ a0 a1 k, LeO (exergueref10_affix.f k a0 a1) (exergueref10_affix.f (k + 1) a0 a1) := by
  intro a0 a1 k
  obtain ⟨ih0, ih1, ih2⟩ := exergueref10_affix.mono_l k
  unfold exergueref10_affix.f
  repeat' first
      | (with_reducible exact ih0 _ _ _)
      | (with_reducible exact ih1 _ _ _ _)
      | (with_reducible exact ih2 _ _ _ _ _)
      | (with_reducible exact exergueref10_Special.mono _ _)
      | (with_reducible exact LeO.refl _)
      | (with_reducible exact LeO.none _)
      | (with_reducible refine LeO.ite ?_ ?_)
      | (with_reducible refine LeO.bind ?_ (fun _ => ?_))
      | exact ih0 _ _ _
      | exact ih1 _ _ _ _
      | exact ih2 _ _ _ _ _
      | exact exergueref10_Special.mono _ _
      | exact LeO.none _
      | refine LeO.ite ?_ ?_
      | refine LeO.bind ?_ (fun _ => ?_)
set_option maxHeartbeats 8000000 in
set_option maxRecDepth 100000 in
theorem exergueref10_affix.calls (k : Nat) (A0 : Option Addr) (c0 : Nat) (l0 : List Int) (a1 : Int) (r1 : List (S34)) (r2 : Int) (r3 : Bool) (w : World) (hr0 : Kd.C (Kd.int .i32) w A0 l0.length l0) (hc0 : l0.length ≤ c0) (h : exergueref10_affix.f k l0 a1 = some (r1, r2, r3)) :
    Calls Try.prog 64 #[.slice A0 l0.length c0, .int .i64 a1] w fun e w' => ∃ v0_ : Value, e = .returned (.tuple #[v0_, .int .i64 r2, .bool r3]) ∧ Kd.R k34 34 w' w.heap.size (fun _ => True) v0_ r1 ∧ Below w.heap.size w w' := by
  have hu34 := Try.underlying34
  have HR0 := Aside0.mk hr0
  have HC0 := Aside0.mk hc0
  clear hr0 hc0
  have HB := Aside0.mk (Below.refl w.heap.size w)
  have H : (exergueref10_affix.l0 k l0 a1 ([] : List (S34))) = some (r1, r2, r3) := h
  clear h
  have H' := Aside0.mk H
  clear H
  go_enter Try.func64, Try.ntmps64
  go_wp2
  go_loopg [1, 7] k (fun kq v1 v7 w' => ∃ (x1_1 : Int) (x7_1 : List (S34)), v1 = .int .i64 x1_1 ∧ Aside0 (exergueref10_affix.l0 kq l0 x1_1 x7_1 = some (r1, r2, r3)) ∧ Aside0 (kq ≤ k) ∧ Aside0 (Kd.R k34 34 w' w.heap.size (fun _ => True) v7 x7_1) ∧ Aside0 (Below w.heap.size w w'))
  case atStart => exact ⟨(a1), (([] : List (S34))), (by first | rfl | (simp; done) | (simp [*]; done)), H', ⟨Nat.le_refl _⟩, ⟨by first | exact Kd.R_nil _ _ _ _ _ | exact Kd.N_nil _ _ _ _ _ | exact Kd.V_nil _ _ _ _ _ | exact Kd.Q_nil _ _ _ _ _ | exact Kd.S_nil _ _ _ _ _⟩, ⟨by repeat (first | (with_reducible first | exact HB.out | apply below_alloc | apply pw_below_drewN | apply below_drew1) | exact HB.out)⟩⟩
  case round =>
    clear H'
    try clear p2
    obtain ⟨x1_1, x7_1, rfl, HA, HK1, HO_7, HB⟩ := hrel
    cases gk with
    | zero => exact absurd HA.out (by simp [exergueref10_affix.l0])
    | succ k1 =>
      have H := HA.out
      clear HA
      simp only [exergueref10_affix.l0] at H
      by_cases c3 : x1_1 < (l0.length : Int)
      · rw [if_pos c3] at H
        have c3b0 : decide (x1_1 < (l0.length : Int)) = true := decide_eq_true c3
        clear c3
        by_cases c4 : 0 ≤ x1_1
        · rw [if_pos c4] at H
          have c4b0 : decide (0 ≤ x1_1) = true := decide_eq_true c4
          clear c4
          replace H := Option.bind_eq_some_iff.mp H
          obtain ⟨t384, A50, H⟩ := H
          replace H : ((exergueref10_Special.f k1 (rd l0 x1_1)).bind fun t385 => (if t384 > 0 then (if x7_1.length < 8796093022208 then (exergueref10_affix.l0 k1 l0 (wrap64 (x1_1 + 1)) (x7_1 ++ [(⟨t384, 0⟩ : S34)])) else (none)) else (if (rd l0 x1_1) = 39 then ((exergueref10_at.f l0 (wrap64 (x1_1 + 1))).bind fun t392 => (if t392 = 39 then (if x7_1.length < 8796093022208 then (exergueref10_affix.l0 k1 l0 (wrap64 (x1_1 + 2)) (x7_1 ++ [(⟨0, 39⟩ : S34)])) else (none)) else (exergueref10_affix.l1 k1 l0 (wrap64 (x1_1 + 1)) x7_1 x1_1))) else (if t385 = true then (some (x7_1, x1_1, true)) else (if x7_1.length < 8796093022208 then (exergueref10_affix.l0 k1 l0 (wrap64 (x1_1 + 1)) (x7_1 ++ [(⟨0, rd l0 x1_1⟩ : S34)])) else (none)))))) = some (r1, r2, r3) := H
          have A5 := Aside0.mk A50
          clear A50
          replace H := Option.bind_eq_some_iff.mp H
          obtain ⟨t385, A60, H⟩ := H
          replace H : (if t384 > 0 then (if x7_1.length < 8796093022208 then (exergueref10_affix.l0 k1 l0 (wrap64 (x1_1 + 1)) (x7_1 ++ [(⟨t384, 0⟩ : S34)])) else (none)) else (if (rd l0 x1_1) = 39 then ((exergueref10_at.f l0 (wrap64 (x1_1 + 1))).bind fun t392 => (if t392 = 39 then (if x7_1.length < 8796093022208 then (exergueref10_affix.l0 k1 l0 (wrap64 (x1_1 + 2)) (x7_1 ++ [(⟨0, 39⟩ : S34)])) else (none)) else (exergueref10_affix.l1 k1 l0 (wrap64 (x1_1 + 1)) x7_1 x1_1))) else (if t385 = true then (some (x7_1, x1_1, true)) else (if x7_1.length < 8796093022208 then (exergueref10_affix.l0 k1 l0 (wrap64 (x1_1 + 1)) (x7_1 ++ [(⟨0, rd l0 x1_1⟩ : S34)])) else (none))))) = some (r1, r2, r3) := H
          have A6 := Aside0.mk A60
          clear A60
          by_cases c7 : t384 > 0
          · rw [if_pos c7] at H
            have c7b0 : decide (0 < t384) = true := decide_eq_true c7
            clear c7
            by_cases c8 : x7_1.length < 8796093022208
            · rw [if_pos c8] at H
              have LMc8 := Aside0.mk c8
              clear c8
              obtain ⟨y386, hy386⟩ : ∃ y_ : List (S34), y_ = (x7_1 ++ [(⟨t384, 0⟩ : S34)]) := ⟨_, rfl⟩
              replace H : (exergueref10_affix.l0 k1 l0 (wrap64 (x1_1 + 1)) y386) = some (r1, r2, r3) := by first | (rw [hy386]; with_reducible exact H) | (have H2_ := (Option.bind_some _ _).symm.trans H; rw [hy386]; with_reducible exact H2_) | (have H2_ := (Option.bind_some _ _).symm.trans H; with_reducible exact H2_) | with_reducible exact H | (rw [hy386]; exact H) | exact H
              have Ny386 := Aside0.mk hy386
              clear hy386
              have H' := Aside0.mk H
              clear H
              have p383 : 0 ≤ (x1_1 : Int) := of_decide_eq_true (by first | (with_reducible assumption) | assumption)
              have q383 : x1_1 < (l0.length : Int) := of_decide_eq_true (by first | (with_reducible assumption) | assumption)
              obtain ⟨ad383, e383, hx383_0⟩ := Kd.at_int HR0.out x1_1 p383 q383
              cases e383
              replace hx383_0 := (HB.out.cell (World.block_lt_of_cell? w _ hx383_0)).trans hx383_0
              replace p383 := eq_true p383
              replace q383 := eq_true q383
              go_wp2_with (first | ((with_reducible refine gate_callee (f := 86) rfl ?_); refine goesL_ (some 21) rfl rfl Try.func86 (by kernel_rfl) rfl #[.int .i32 (rd l0 x1_1)] rfl (by (try simp only [List.map_toArray, List.map_cons, List.map_nil]); first | done | rfl | (simp only [List.length_drop, List.length_take]; rfl)) ?_; (with_reducible refine (exergueref10_Sign.calls (rd l0 x1_1) t384 _ A5.out).mono ?_); rintro e w' ⟨rfl, ⟨nd, rfl⟩⟩; refine ⟨_, rfl, ?_⟩) | ((with_reducible refine gate_callee (f := 52) rfl ?_); refine goesL_ (some 23) rfl rfl Try.func52 (by kernel_rfl) rfl #[.int .i32 (rd l0 x1_1)] rfl (by (try simp only [List.map_toArray, List.map_cons, List.map_nil]); first | done | rfl | (simp only [List.length_drop, List.length_take]; rfl)) ?_; (with_reducible refine (exergueref10_Special.calls k1 (rd l0 x1_1) t385 _ A6.out).mono ?_); rintro e w' ⟨rfl, ⟨nd, rfl⟩⟩; refine ⟨_, rfl, ?_⟩) | ((with_reducible refine gate_builtin (b := .append) (xs := #[.tmp 26, .tmp 29]) rfl ?_); at_builtin; refine Kd.R_append k34 (w0 := w) w.heap.size rfl (.tmp 26) (.tmp 29) 22 34 (.agg #[(.int .i64 0), (.int .i32 0)]) 16 rfl Try.underlying22 info34 rfl (by decide) (by omega) u7 x7_1 (⟨t384, 0⟩ : S34) [.int .i64 t384, .int .i32 0] (fun _ => True) (fun _ => False) rfl rfl ?aP (fun _ hk => hk.elim) ?aF ?aO ?aB ?aS ?aL ?_; (case aP => exact k34_mkM _ _ _ (⟨t384, 0⟩ : S34)); (case aB => exact (by repeat (first | (with_reducible first | exact HB.out | apply below_alloc | apply pw_below_drewN | apply below_drew1) | exact HB.out))); (case aF => exact (fun _ _ => trivial)); (case aO => exact (by (with_reducible repeat (first | apply Kd.R_alloc | apply Kd.R_drewN | apply Kd.R_drew)); exact HO_7.out)); (case aS => exact (below_size (by repeat (first | (with_reducible first | exact HB.out | apply below_alloc | apply pw_below_drewN | apply below_drew1) | exact HB.out)))); (case aL => have := LMc8.out; omega); intro v387 w9 ho hb hg hat; rw [← Ny386.out] at ho; have n0_ := Aside0.mk (hb); have n1_ := Aside0.mk (ho); clear HB; clear HO_7; have HB := n0_; have HO388 := n1_; clear n0_ n1_; clear ho hb hg hat))
              go_roundg k1
              case measure => have := HK1.out; omega
              case rel => exact ⟨(wrap64 (x1_1 + 1)), (y386), (by first | rfl | (simp; done) | (simp [*]; done)), H', ⟨by have := HK1.out; omega⟩, ⟨by (with_reducible repeat (first | apply Kd.R_alloc | apply Kd.R_drewN | apply Kd.R_drew)); exact HO388.out⟩, ⟨by repeat (first | (with_reducible first | exact HB.out | apply below_alloc | apply pw_below_drewN | apply below_drew1) | exact HB.out)⟩⟩
            · rw [if_neg c8] at H
              exact absurd H (by simp)
          · rw [if_neg c7] at H
            have c7b0 : decide (0 < t384) = false := decide_eq_false c7
            clear c7
            by_cases c10 : (rd l0 x1_1) = 39
            · rw [if_pos c10] at H
              have c10b0 : ((rd l0 x1_1) == 39) = true := beq_iff_eq.mpr c10
              have c10b1 : ((rd l0 x1_1) != 39) = false := bne_eq_false_iff_eq.mpr c10
              clear c10
              replace H := Option.bind_eq_some_iff.mp H
              obtain ⟨t392, A110, H⟩ := H
              replace H : (if t392 = 39 then (if x7_1.length < 8796093022208 then (exergueref10_affix.l0 k1 l0 (wrap64 (x1_1 + 2)) (x7_1 ++ [(⟨0, 39⟩ : S34)])) else (none)) else (exergueref10_affix.l1 k1 l0 (wrap64 (x1_1 + 1)) x7_1 x1_1)) = some (r1, r2, r3) := H
              have A11 := Aside0.mk A110
              clear A110
              by_cases c12 : t392 = 39
              · rw [if_pos c12] at H
                have c12b0 : (t392 == 39) = true := beq_iff_eq.mpr c12
                have c12b1 : (t392 != 39) = false := bne_eq_false_iff_eq.mpr c12
                clear c12
                by_cases c13 : x7_1.length < 8796093022208
                · rw [if_pos c13] at H
                  have LMc13 := Aside0.mk c13
                  clear c13
                  obtain ⟨y393, hy393⟩ : ∃ y_ : List (S34), y_ = (x7_1 ++ [(⟨0, 39⟩ : S34)]) := ⟨_, rfl⟩
                  replace H : (exergueref10_affix.l0 k1 l0 (wrap64 (x1_1 + 2)) y393) = some (r1, r2, r3) := by first | (rw [hy393]; with_reducible exact H) | (have H2_ := (Option.bind_some _ _).symm.trans H; rw [hy393]; with_reducible exact H2_) | (have H2_ := (Option.bind_some _ _).symm.trans H; with_reducible exact H2_) | with_reducible exact H | (rw [hy393]; exact H) | exact H
                  have Ny393 := Aside0.mk hy393
                  clear hy393
                  have H' := Aside0.mk H
                  clear H
                  have p383 : 0 ≤ (x1_1 : Int) := of_decide_eq_true (by first | (with_reducible assumption) | assumption)
                  have q383 : x1_1 < (l0.length : Int) := of_decide_eq_true (by first | (with_reducible assumption) | assumption)
                  obtain ⟨ad383, e383, hx383_0⟩ := Kd.at_int HR0.out x1_1 p383 q383
                  cases e383
                  replace hx383_0 := (HB.out.cell (World.block_lt_of_cell? w _ hx383_0)).trans hx383_0
                  replace p383 := eq_true p383
                  replace q383 := eq_true q383
                  go_wp2_with (first | ((with_reducible refine gate_callee (f := 86) rfl ?_); refine goesL_ (some 21) rfl rfl Try.func86 (by kernel_rfl) rfl #[.int .i32 (rd l0 x1_1)] rfl (by (try simp only [List.map_toArray, List.map_cons, List.map_nil]); first | done | rfl | (simp only [List.length_drop, List.length_take]; rfl)) ?_; (with_reducible refine (exergueref10_Sign.calls (rd l0 x1_1) t384 _ A5.out).mono ?_); rintro e w' ⟨rfl, ⟨nd, rfl⟩⟩; refine ⟨_, rfl, ?_⟩) | ((with_reducible refine gate_callee (f := 52) rfl ?_); refine goesL_ (some 23) rfl rfl Try.func52 (by kernel_rfl) rfl #[.int .i32 (rd l0 x1_1)] rfl (by (try simp only [List.map_toArray, List.map_cons, List.map_nil]); first | done | rfl | (simp only [List.length_drop, List.length_take]; rfl)) ?_; (with_reducible refine (exergueref10_Special.calls k1 (rd l0 x1_1) t385 _ A6.out).mono ?_); rintro e w' ⟨rfl, ⟨nd, rfl⟩⟩; refine ⟨_, rfl, ?_⟩) | ((with_reducible refine gate_callee (f := 39) rfl ?_); refine goesL_ (some 48) rfl rfl Try.func39 (by kernel_rfl) rfl #[.slice (some ad383) l0.length c0, .int .i64 (wrap64 (x1_1 + 1))] rfl (by (try simp only [List.map_toArray, List.map_cons, List.map_nil]); first | done | rfl | (simp only [List.length_drop, List.length_take]; rfl)) ?_; (with_reducible refine (exergueref10_at.calls _ _ l0 (wrap64 (x1_1 + 1)) t392 _ ?side1 ?side2 A11.out).mono ?_); (case side1 => repeat (first | exact (Kd.C_below HR0.out (by repeat (first | (with_reducible first | exact HB.out | apply below_alloc | apply pw_below_drewN | apply below_drew1) | exact HB.out))) | (with_reducible refine Kd.C_alloc ?_ _) | (with_reducible refine Kd.C_drewN ?_ _) | (with_reducible refine Kd.C_drew ?_))); (case side2 => exact HC0.out); rintro e w' ⟨rfl, ⟨nd, rfl⟩⟩; refine ⟨_, rfl, ?_⟩) | ((with_reducible refine gate_builtin (b := .append) (xs := #[.tmp 50, .tmp 52]) rfl ?_); at_builtin; refine Kd.R_append k34 (w0 := w) w.heap.size rfl (.tmp 50) (.tmp 52) 22 34 (.agg #[(.int .i64 0), (.int .i32 0)]) 16 rfl Try.underlying22 info34 rfl (by decide) (by omega) u7 x7_1 (⟨0, 39⟩ : S34) [.int .i64 0, .int .i32 39] (fun _ => True) (fun _ => False) rfl rfl ?aP (fun _ hk => hk.elim) ?aF ?aO ?aB ?aS ?aL ?_; (case aP => exact k34_mkM _ _ _ (⟨0, 39⟩ : S34)); (case aB => exact (by repeat (first | (with_reducible first | exact HB.out | apply below_alloc | apply pw_below_drewN | apply below_drew1) | exact HB.out))); (case aF => exact (fun _ _ => trivial)); (case aO => exact (by (with_reducible repeat (first | apply Kd.R_alloc | apply Kd.R_drewN | apply Kd.R_drew)); exact HO_7.out)); (case aS => exact (below_size (by repeat (first | (with_reducible first | exact HB.out | apply below_alloc | apply pw_below_drewN | apply below_drew1) | exact HB.out)))); (case aL => have := LMc13.out; omega); intro v394 w14 ho hb hg hat; rw [← Ny393.out] at ho; have n0_ := Aside0.mk (hb); have n1_ := Aside0.mk (ho); clear HB; clear HO_7; have HB := n0_; have HO395 := n1_; clear n0_ n1_; clear ho hb hg hat))
                  go_roundg k1
                  case measure => have := HK1.out; omega
                  case rel => exact ⟨(wrap64 (x1_1 + 2)), (y393), (by first | rfl | (simp; done) | (simp [*]; done)), H', ⟨by have := HK1.out; omega⟩, ⟨by (with_reducible repeat (first | apply Kd.R_alloc | apply Kd.R_drewN | apply Kd.R_drew)); exact HO395.out⟩, ⟨by repeat (first | (with_reducible first | exact HB.out | apply below_alloc | apply pw_below_drewN | apply below_drew1) | exact HB.out)⟩⟩
                · rw [if_neg c13] at H
                  exact absurd H (by simp)
              · rw [if_neg c12] at H
                have c12b0 : (t392 == 39) = false := beq_eq_false_iff_ne.mpr c12
                have c12b1 : (t392 != 39) = true := bne_iff_ne.mpr c12
                have H' := Aside0.mk H
                clear H
                have p383 : 0 ≤ (x1_1 : Int) := of_decide_eq_true (by first | (with_reducible assumption) | assumption)
                have q383 : x1_1 < (l0.length : Int) := of_decide_eq_true (by first | (with_reducible assumption) | assumption)
                obtain ⟨ad383, e383, hx383_0⟩ := Kd.at_int HR0.out x1_1 p383 q383
                cases e383
                replace hx383_0 := (HB.out.cell (World.block_lt_of_cell? w _ hx383_0)).trans hx383_0
                replace p383 := eq_true p383
                replace q383 := eq_true q383
                go_wp2_with (first | ((with_reducible refine gate_callee (f := 86) rfl ?_); refine goesL_ (some 21) rfl rfl Try.func86 (by kernel_rfl) rfl #[.int .i32 (rd l0 x1_1)] rfl (by (try simp only [List.map_toArray, List.map_cons, List.map_nil]); first | done | rfl | (simp only [List.length_drop, List.length_take]; rfl)) ?_; (with_reducible refine (exergueref10_Sign.calls (rd l0 x1_1) t384 _ A5.out).mono ?_); rintro e w' ⟨rfl, ⟨nd, rfl⟩⟩; refine ⟨_, rfl, ?_⟩) | ((with_reducible refine gate_callee (f := 52) rfl ?_); refine goesL_ (some 23) rfl rfl Try.func52 (by kernel_rfl) rfl #[.int .i32 (rd l0 x1_1)] rfl (by (try simp only [List.map_toArray, List.map_cons, List.map_nil]); first | done | rfl | (simp only [List.length_drop, List.length_take]; rfl)) ?_; (with_reducible refine (exergueref10_Special.calls k1 (rd l0 x1_1) t385 _ A6.out).mono ?_); rintro e w' ⟨rfl, ⟨nd, rfl⟩⟩; refine ⟨_, rfl, ?_⟩) | ((with_reducible refine gate_callee (f := 39) rfl ?_); refine goesL_ (some 48) rfl rfl Try.func39 (by kernel_rfl) rfl #[.slice (some ad383) l0.length c0, .int .i64 (wrap64 (x1_1 + 1))] rfl (by (try simp only [List.map_toArray, List.map_cons, List.map_nil]); first | done | rfl | (simp only [List.length_drop, List.length_take]; rfl)) ?_; (with_reducible refine (exergueref10_at.calls _ _ l0 (wrap64 (x1_1 + 1)) t392 _ ?side1 ?side2 A11.out).mono ?_); (case side1 => repeat (first | exact (Kd.C_below HR0.out (by repeat (first | (with_reducible first | exact HB.out | apply below_alloc | apply pw_below_drewN | apply below_drew1) | exact HB.out))) | (with_reducible refine Kd.C_alloc ?_ _) | (with_reducible refine Kd.C_drewN ?_ _) | (with_reducible refine Kd.C_drew ?_))); (case side2 => exact HC0.out); rintro e w' ⟨rfl, ⟨nd, rfl⟩⟩; refine ⟨_, rfl, ?_⟩))
                go_loopg [1, 7] k1 (fun kq v1 v7 w' => ∃ (x1_2 : Int) (x7_2 : List (S34)), v1 = .int .i64 x1_2 ∧ Aside0 (exergueref10_affix.l1 kq l0 x1_2 x7_2 x1_1 = some (r1, r2, r3)) ∧ Aside0 (kq ≤ k1) ∧ Aside0 (Kd.R k34 34 w' w.heap.size (fun _ => True) v7 x7_2) ∧ Aside0 (Below w.heap.size w w'))
                case atStart => exact ⟨(wrap64 (x1_1 + 1)), (x7_1), (by first | rfl | (simp; done) | (simp [*]; done)), H', ⟨Nat.le_refl _⟩, ⟨by (with_reducible repeat (first | apply Kd.R_alloc | apply Kd.R_drewN | apply Kd.R_drew)); exact HO_7.out⟩, ⟨by repeat (first | (with_reducible first | exact HB.out | apply below_alloc | apply pw_below_drewN | apply below_drew1) | exact HB.out)⟩⟩
                case round =>
                  clear H'
                  try clear c1
                  try clear p2
                  try clear c3
                  try clear c3b0
                  try clear p3
                  try clear q3
                  try clear hx3
                  try clear c4
                  try clear c4b0
                  try clear c5
                  try clear c6
                  try clear p6
                  try clear c7
                  try clear c7b0
                  try clear c8
                  try clear c10
                  try clear c10b0
                  try clear c10b1
                  try clear c12
                  try clear c12b0
                  try clear c12b1
                  try clear c13
                  try clear hx383_0
                  try clear p2
                  try clear p383
                  try clear q383
                  obtain ⟨x1_2, x7_2, rfl, HA, HK2, HO_7, HB⟩ := hrel
                  cases gk with
                  | zero => exact absurd HA.out (by simp [exergueref10_affix.l1])
                  | succ k2 =>
                    have H := HA.out
                    clear HA
                    simp only [exergueref10_affix.l1] at H
                    have HC15 := Aside0.mk H
                    clear H
                    go_upto_region 19 with (fail)
                    go_cut [76] (fun v76 wc => ∃ (kq : Nat) (x76_14 : Bool), v76 = .bool x76_14 ∧ Aside0 (exergueref10_affix.j2 kq l0 x1_2 x7_2 x1_1 x76_14 = some (r1, r2, r3)) ∧ Aside0 (kq ≤ k2) ∧ Aside0 (Kd.R k34 34 wc w.heap.size (fun _ => True) u7 x7_2) ∧ Aside0 (Below w.heap.size w wc))
                    case first =>
                      have H := HC15.out
                      clear HC15
                      by_cases c16 : x1_2 < (l0.length : Int)
                      · rw [if_pos c16] at H
                        have c16b0 : decide (x1_2 < (l0.length : Int)) = true := decide_eq_true c16
                        clear c16
                        (first | rw [c16b0] | (simp only [i64_w, i32_w]; rw [c16b0]) | skip)
                        by_cases c17 : 0 ≤ x1_2
                        · rw [if_pos c17] at H
                          have c17b0 : decide (0 ≤ x1_2) = true := decide_eq_true c17
                          clear c17
                          by_cases c18 : (rd l0 x1_2) = 39
                          · rw [if_pos c18] at H
                            have c18b0 : ((rd l0 x1_2) == 39) = true := beq_iff_eq.mpr c18
                            have c18b1 : ((rd l0 x1_2) != 39) = false := bne_eq_false_iff_eq.mpr c18
                            clear c18
                            replace H := Option.bind_eq_some_iff.mp H
                            obtain ⟨t397, A190, H⟩ := H
                            replace H : (exergueref10_affix.j2 k2 l0 x1_2 x7_2 x1_1 (t397 == 39)) = some (r1, r2, r3) := H
                            have A19 := Aside0.mk A190
                            clear A190
                            have H' := Aside0.mk H
                            clear H
                            have p396 : 0 ≤ (x1_2 : Int) := of_decide_eq_true (by first | (with_reducible assumption) | assumption)
                            have q396 : x1_2 < (l0.length : Int) := of_decide_eq_true (by first | (with_reducible assumption) | assumption)
                            obtain ⟨ad396, e396, hx396_0⟩ := Kd.at_int HR0.out x1_2 p396 q396
                            obtain rfl : ad383 = ad396 := (by injection e396)
                            replace hx396_0 := (HB.out.cell (World.block_lt_of_cell? w _ hx396_0)).trans hx396_0
                            replace p396 := eq_true p396
                            replace q396 := eq_true q396
                            go_wp2_with (first | (go_at_call 39; (with_reducible refine (exergueref10_at.calls _ _ l0 (wrap64 (x1_2 + 1)) t397 _ ?side1 ?side2 A19.out).mono ?_); (case side1 => repeat (first | exact (Kd.C_below HR0.out HB.out) | (with_reducible refine Kd.C_alloc ?_ _) | (with_reducible refine Kd.C_drewN ?_ _) | (with_reducible refine Kd.C_drew ?_))); (case side2 => exact HC0.out); rintro e w' ⟨rfl, ⟨nd, rfl⟩⟩))
                            go_meet
                            case rel => exact ⟨_, ((t397 == 39)), (by first | rfl | (simp; done) | (simp [*]; done)), H', ⟨by have := HK1.out; have := HK2.out; first | omega | exact Nat.le_refl _⟩, ⟨by (with_reducible repeat (first | apply Kd.R_alloc | apply Kd.R_drewN | apply Kd.R_drew)); exact HO_7.out⟩, ⟨by repeat (first | (with_reducible first | exact HB.out | apply below_alloc | apply pw_below_drewN | apply below_drew1) | exact HB.out)⟩⟩
                          · rw [if_neg c18] at H
                            have c18b0 : ((rd l0 x1_2) == 39) = false := beq_eq_false_iff_ne.mpr c18
                            have c18b1 : ((rd l0 x1_2) != 39) = true := bne_iff_ne.mpr c18
                            have H' := Aside0.mk H
                            clear H
                            have p396 : 0 ≤ (x1_2 : Int) := of_decide_eq_true (by first | (with_reducible assumption) | assumption)
                            have q396 : x1_2 < (l0.length : Int) := of_decide_eq_true (by first | (with_reducible assumption) | assumption)
                            obtain ⟨ad396, e396, hx396_0⟩ := Kd.at_int HR0.out x1_2 p396 q396
                            obtain rfl : ad383 = ad396 := (by injection e396)
                            replace hx396_0 := (HB.out.cell (World.block_lt_of_cell? w _ hx396_0)).trans hx396_0
                            replace p396 := eq_true p396
                            replace q396 := eq_true q396
                            go_wp2
                            go_meet
                            case rel => exact ⟨_, (true), (by first | rfl | (simp; done) | (simp [*]; done)), H', ⟨by have := HK1.out; have := HK2.out; first | omega | exact Nat.le_refl _⟩, ⟨by (with_reducible repeat (first | apply Kd.R_alloc | apply Kd.R_drewN | apply Kd.R_drew)); exact HO_7.out⟩, ⟨by repeat (first | (with_reducible first | exact HB.out | apply below_alloc | apply pw_below_drewN | apply below_drew1) | exact HB.out)⟩⟩
                        · rw [if_neg c17] at H
                          exact absurd H (by simp)
                      · rw [if_neg c16] at H
                        have c16b0 : decide (x1_2 < (l0.length : Int)) = false := decide_eq_false c16
                        clear c16
                        (first | rw [c16b0] | (simp only [i64_w, i32_w]; rw [c16b0]) | skip)
                        have H' := Aside0.mk H
                        clear H
                        go_wp2
                        go_meet
                        case rel => exact ⟨_, (false), (by first | rfl | (simp; done) | (simp [*]; done)), H', ⟨by have := HK1.out; have := HK2.out; first | omega | exact Nat.le_refl _⟩, ⟨by (with_reducible repeat (first | apply Kd.R_alloc | apply Kd.R_drewN | apply Kd.R_drew)); exact HO_7.out⟩, ⟨by repeat (first | (with_reducible first | exact HB.out | apply below_alloc | apply pw_below_drewN | apply below_drew1) | exact HB.out)⟩⟩
                    case rest =>
                      clear HC15
                      try clear c1
                      try clear p2
                      try clear c3
                      try clear c3b0
                      try clear p3
                      try clear q3
                      try clear hx3
                      try clear c4
                      try clear c4b0
                      try clear c5
                      try clear c6
                      try clear p6
                      try clear c7
                      try clear c7b0
                      try clear c8
                      try clear c10
                      try clear c10b0
                      try clear c10b1
                      try clear c12
                      try clear c12b0
                      try clear c12b1
                      try clear c13
                      try clear c16
                      try clear c16b0
                      try clear c17
                      try clear c17b0
                      try clear c18
                      try clear c18b0
                      try clear c18b1
                      try clear hx383_0
                      try clear hx396_0
                      try clear p2
                      try clear p3
                      try clear p383
                      try clear p396
                      try clear p6
                      try clear q3
                      try clear q383
                      try clear q396
                      obtain ⟨kq, x76_14, rfl, HA, HJ14, HO_7, HB⟩ := hcut
                      cases kq with
                      | zero => exact absurd HA.out (by simp [exergueref10_affix.j2])
                      | succ kj14 =>
                        have H := HA.out
                        clear HA
                        simp only [exergueref10_affix.j2] at H
                        by_cases c20 : x76_14 = true
                        · subst c20
                          have H1 : (if 0 ≤ x1_2 then (if x1_2 < (l0.length : Int) then (if x7_2.length < 8796093022208 then ((some (x7_2 ++ [(⟨0, rd l0 x1_2⟩ : S34)] : List (S34))).bind fun y399 => (if (rd l0 x1_2) = 39 then (exergueref10_affix.l1 kj14 l0 (wrap64 ((wrap64 (x1_2 + 1)) + 1)) y399 x1_1) else (exergueref10_affix.l1 kj14 l0 (wrap64 (x1_2 + 1)) y399 x1_1))) else (none)) else (none)) else (none)) = some (r1, r2, r3) := by rw [if_pos rfl] at H; exact H
                          clear H
                          have H := H1
                          clear H1
                          by_cases c21 : 0 ≤ x1_2
                          · rw [if_pos c21] at H
                            have c21b0 : decide (0 ≤ x1_2) = true := decide_eq_true c21
                            clear c21
                            by_cases c22 : x1_2 < (l0.length : Int)
                            · rw [if_pos c22] at H
                              have c22b0 : decide (x1_2 < (l0.length : Int)) = true := decide_eq_true c22
                              clear c22
                              by_cases c23 : x7_2.length < 8796093022208
                              · rw [if_pos c23] at H
                                have LMc23 := Aside0.mk c23
                                clear c23
                                obtain ⟨y399, hy399⟩ : ∃ y_ : List (S34), y_ = (x7_2 ++ [(⟨0, rd l0 x1_2⟩ : S34)]) := ⟨_, rfl⟩
                                replace H : (if (rd l0 x1_2) = 39 then (exergueref10_affix.l1 kj14 l0 (wrap64 ((wrap64 (x1_2 + 1)) + 1)) y399 x1_1) else (exergueref10_affix.l1 kj14 l0 (wrap64 (x1_2 + 1)) y399 x1_1)) = some (r1, r2, r3) := by first | (rw [hy399]; with_reducible exact H) | (have H2_ := (Option.bind_some _ _).symm.trans H; rw [hy399]; with_reducible exact H2_) | (have H2_ := (Option.bind_some _ _).symm.trans H; with_reducible exact H2_) | with_reducible exact H | (rw [hy399]; exact H) | exact H
                                have Ny399 := Aside0.mk hy399
                                clear hy399
                                by_cases c24 : (rd l0 x1_2) = 39
                                · rw [if_pos c24] at H
                                  have c24b0 : ((rd l0 x1_2) == 39) = true := beq_iff_eq.mpr c24
                                  have c24b1 : ((rd l0 x1_2) != 39) = false := bne_eq_false_iff_eq.mpr c24
                                  clear c24
                                  have H' := Aside0.mk H
                                  clear H
                                  have p398 : 0 ≤ (x1_2 : Int) := of_decide_eq_true (by first | (with_reducible assumption) | assumption)
                                  have q398 : x1_2 < (l0.length : Int) := of_decide_eq_true (by first | (with_reducible assumption) | assumption)
                                  obtain ⟨ad398, e398, hx398_0⟩ := Kd.at_int HR0.out x1_2 p398 q398
                                  obtain rfl : ad383 = ad398 := (by injection e398)
                                  replace hx398_0 := (HB.out.cell (World.block_lt_of_cell? w _ hx398_0)).trans hx398_0
                                  replace p398 := eq_true p398
                                  replace q398 := eq_true q398
                                  go_wp2_with (first | ((with_reducible refine gate_builtin (b := .append) (xs := #[.tmp 77, .tmp 83]) rfl ?_); at_builtin; refine Kd.R_append k34 (w0 := w) w.heap.size rfl (.tmp 77) (.tmp 83) 22 34 (.agg #[(.int .i64 0), (.int .i32 0)]) 16 rfl Try.underlying22 info34 rfl (by decide) (by omega) u7 x7_2 (⟨0, rd l0 x1_2⟩ : S34) [.int .i64 0, .int .i32 (rd l0 x1_2)] (fun _ => True) (fun _ => False) rfl rfl ?aP (fun _ hk => hk.elim) ?aF ?aO ?aB ?aS ?aL ?_; (case aP => exact k34_mkM _ _ _ (⟨0, rd l0 x1_2⟩ : S34)); (case aB => exact (by repeat (first | (with_reducible first | exact HB.out | apply below_alloc | apply pw_below_drewN | apply below_drew1) | exact HB.out))); (case aF => exact (fun _ _ => trivial)); (case aO => exact (by (with_reducible repeat (first | apply Kd.R_alloc | apply Kd.R_drewN | apply Kd.R_drew)); exact HO_7.out)); (case aS => exact (below_size (by repeat (first | (with_reducible first | exact HB.out | apply below_alloc | apply pw_below_drewN | apply below_drew1) | exact HB.out)))); (case aL => have := LMc23.out; omega); intro v400 w25 ho hb hg hat; rw [← Ny399.out] at ho; have n0_ := Aside0.mk (hb); have n1_ := Aside0.mk (ho); clear HB; clear HO_7; have HB := n0_; have HO401 := n1_; clear n0_ n1_; clear ho hb hg hat; have p402 : 0 ≤ (x1_2 : Int) := of_decide_eq_true (by first | (with_reducible assumption) | assumption); have q402 : x1_2 < (l0.length : Int) := of_decide_eq_true (by first | (with_reducible assumption) | assumption); obtain ⟨ad402, e402, hx402_0⟩ := Kd.at_int HR0.out x1_2 p402 q402; obtain rfl : ad383 = ad402 := (by injection e402); replace hx402_0 := (HB.out.cell (World.block_lt_of_cell? w _ hx402_0)).trans hx402_0; replace p402 := eq_true p402; replace q402 := eq_true q402))
                                  go_roundg kj14
                                  case measure => have := HK1.out; have := HK2.out; have := HJ14.out; omega
                                  case rel => exact ⟨(wrap64 ((wrap64 (x1_2 + 1)) + 1)), (y399), (by first | rfl | (simp; done) | (simp [*]; done)), H', ⟨by have := HK1.out; have := HK2.out; have := HJ14.out; omega⟩, ⟨by (with_reducible repeat (first | apply Kd.R_alloc | apply Kd.R_drewN | apply Kd.R_drew)); exact HO401.out⟩, ⟨by repeat (first | (with_reducible first | exact HB.out | apply below_alloc | apply pw_below_drewN | apply below_drew1) | exact HB.out)⟩⟩
                                · rw [if_neg c24] at H
                                  have c24b0 : ((rd l0 x1_2) == 39) = false := beq_eq_false_iff_ne.mpr c24
                                  have c24b1 : ((rd l0 x1_2) != 39) = true := bne_iff_ne.mpr c24
                                  have H' := Aside0.mk H
                                  clear H
                                  have p398 : 0 ≤ (x1_2 : Int) := of_decide_eq_true (by first | (with_reducible assumption) | assumption)
                                  have q398 : x1_2 < (l0.length : Int) := of_decide_eq_true (by first | (with_reducible assumption) | assumption)
                                  obtain ⟨ad398, e398, hx398_0⟩ := Kd.at_int HR0.out x1_2 p398 q398
                                  obtain rfl : ad383 = ad398 := (by injection e398)
                                  replace hx398_0 := (HB.out.cell (World.block_lt_of_cell? w _ hx398_0)).trans hx398_0
                                  replace p398 := eq_true p398
                                  replace q398 := eq_true q398
                                  go_wp2_with (first | ((with_reducible refine gate_builtin (b := .append) (xs := #[.tmp 77, .tmp 83]) rfl ?_); at_builtin; refine Kd.R_append k34 (w0 := w) w.heap.size rfl (.tmp 77) (.tmp 83) 22 34 (.agg #[(.int .i64 0), (.int .i32 0)]) 16 rfl Try.underlying22 info34 rfl (by decide) (by omega) u7 x7_2 (⟨0, rd l0 x1_2⟩ : S34) [.int .i64 0, .int .i32 (rd l0 x1_2)] (fun _ => True) (fun _ => False) rfl rfl ?aP (fun _ hk => hk.elim) ?aF ?aO ?aB ?aS ?aL ?_; (case aP => exact k34_mkM _ _ _ (⟨0, rd l0 x1_2⟩ : S34)); (case aB => exact (by repeat (first | (with_reducible first | exact HB.out | apply below_alloc | apply pw_below_drewN | apply below_drew1) | exact HB.out))); (case aF => exact (fun _ _ => trivial)); (case aO => exact (by (with_reducible repeat (first | apply Kd.R_alloc | apply Kd.R_drewN | apply Kd.R_drew)); exact HO_7.out)); (case aS => exact (below_size (by repeat (first | (with_reducible first | exact HB.out | apply below_alloc | apply pw_below_drewN | apply below_drew1) | exact HB.out)))); (case aL => have := LMc23.out; omega); intro v400 w26 ho hb hg hat; rw [← Ny399.out] at ho; have n0_ := Aside0.mk (hb); have n1_ := Aside0.mk (ho); clear HB; clear HO_7; have HB := n0_; have HO401 := n1_; clear n0_ n1_; clear ho hb hg hat; have p402 : 0 ≤ (x1_2 : Int) := of_decide_eq_true (by first | (with_reducible assumption) | assumption); have q402 : x1_2 < (l0.length : Int) := of_decide_eq_true (by first | (with_reducible assumption) | assumption); obtain ⟨ad402, e402, hx402_0⟩ := Kd.at_int HR0.out x1_2 p402 q402; obtain rfl : ad383 = ad402 := (by injection e402); replace hx402_0 := (HB.out.cell (World.block_lt_of_cell? w _ hx402_0)).trans hx402_0; replace p402 := eq_true p402; replace q402 := eq_true q402))
                                  go_roundg kj14
                                  case measure => have := HK1.out; have := HK2.out; have := HJ14.out; omega
                                  case rel => exact ⟨(wrap64 (x1_2 + 1)), (y399), (by first | rfl | (simp; done) | (simp [*]; done)), H', ⟨by have := HK1.out; have := HK2.out; have := HJ14.out; omega⟩, ⟨by (with_reducible repeat (first | apply Kd.R_alloc | apply Kd.R_drewN | apply Kd.R_drew)); exact HO401.out⟩, ⟨by repeat (first | (with_reducible first | exact HB.out | apply below_alloc | apply pw_below_drewN | apply below_drew1) | exact HB.out)⟩⟩
                              · rw [if_neg c23] at H
                                exact absurd H (by simp)
                            · rw [if_neg c22] at H
                              exact absurd H (by simp)
                          · rw [if_neg c21] at H
                            exact absurd H (by simp)
                        · replace c20 := Bool.eq_false_iff.mpr c20
                          subst c20
                          have H1 : (if x1_2 ≥ (l0.length : Int) then (some (([] : List (S34)), x1_1, false)) else (exergueref10_affix.l0 kj14 l0 (wrap64 (x1_2 + 1)) x7_2)) = some (r1, r2, r3) := by rw [if_neg (show ¬ (false = true) by decide)] at H; exact H
                          clear H
                          have H := H1
                          clear H1
                          by_cases c27 : x1_2 ≥ (l0.length : Int)
                          · rw [if_pos c27] at H
                            have c27b0 : decide ((l0.length : Int) ≤ x1_2) = true := decide_eq_true c27
                            clear c27
                            simp only [Option.some.injEq, Prod.mk.injEq] at H
                            obtain ⟨rfl, rfl, rfl⟩ := H
                            go_wp2
                            go_ret3
                            exact ⟨_, by first | rfl | (simp [errW_none, errW_some] <;> rfl) | (simp [*, errW_none, errW_some] <;> rfl), by first | exact Kd.R_nil _ _ _ _ _ | exact Kd.N_nil _ _ _ _ _ | exact Kd.V_nil _ _ _ _ _ | exact Kd.Q_nil _ _ _ _ _ | exact Kd.S_nil _ _ _ _ _, by repeat (first | (with_reducible first | exact HB.out | apply below_alloc | apply pw_below_drewN | apply below_drew1) | exact HB.out)⟩
                          · rw [if_neg c27] at H
                            have c27b0 : decide ((l0.length : Int) ≤ x1_2) = false := decide_eq_false c27
                            clear c27
                            have H' := Aside0.mk H
                            clear H
                            go_wp2
                            go_roundg kj14
                            case measure => have := HK1.out; have := HK2.out; have := HJ14.out; omega
                            case rel => exact ⟨(wrap64 (x1_2 + 1)), (x7_2), (by first | rfl | (simp; done) | (simp [*]; done)), H', ⟨by have := HK1.out; have := HK2.out; have := HJ14.out; omega⟩, ⟨by (with_reducible repeat (first | apply Kd.R_alloc | apply Kd.R_drewN | apply Kd.R_drew)); exact HO_7.out⟩, ⟨by repeat (first | (with_reducible first | exact HB.out | apply below_alloc | apply pw_below_drewN | apply below_drew1) | exact HB.out)⟩⟩
            · rw [if_neg c10] at H
              have c10b0 : ((rd l0 x1_1) == 39) = false := beq_eq_false_iff_ne.mpr c10
              have c10b1 : ((rd l0 x1_1) != 39) = true := bne_iff_ne.mpr c10
              by_cases c28 : t385 = true
              · subst c28
                have H1 : (some (x7_1, x1_1, true)) = some (r1, r2, r3) := by rw [if_pos rfl] at H; exact H
                clear H
                have H := H1
                clear H1
                simp only [Option.some.injEq, Prod.mk.injEq] at H
                obtain ⟨rfl, rfl, rfl⟩ := H
                have p383 : 0 ≤ (x1_1 : Int) := of_decide_eq_true (by first | (with_reducible assumption) | assumption)
                have q383 : x1_1 < (l0.length : Int) := of_decide_eq_true (by first | (with_reducible assumption) | assumption)
                obtain ⟨ad383, e383, hx383_0⟩ := Kd.at_int HR0.out x1_1 p383 q383
                cases e383
                replace hx383_0 := (HB.out.cell (World.block_lt_of_cell? w _ hx383_0)).trans hx383_0
                replace p383 := eq_true p383
                replace q383 := eq_true q383
                go_wp2_with (first | ((with_reducible refine gate_callee (f := 86) rfl ?_); refine goesL_ (some 21) rfl rfl Try.func86 (by kernel_rfl) rfl #[.int .i32 (rd l0 x1_1)] rfl (by (try simp only [List.map_toArray, List.map_cons, List.map_nil]); first | done | rfl | (simp only [List.length_drop, List.length_take]; rfl)) ?_; (with_reducible refine (exergueref10_Sign.calls (rd l0 x1_1) t384 _ A5.out).mono ?_); rintro e w' ⟨rfl, ⟨nd, rfl⟩⟩; refine ⟨_, rfl, ?_⟩) | ((with_reducible refine gate_callee (f := 52) rfl ?_); refine goesL_ (some 23) rfl rfl Try.func52 (by kernel_rfl) rfl #[.int .i32 (rd l0 x1_1)] rfl (by (try simp only [List.map_toArray, List.map_cons, List.map_nil]); first | done | rfl | (simp only [List.length_drop, List.length_take]; rfl)) ?_; (with_reducible refine (exergueref10_Special.calls k1 (rd l0 x1_1) true _ A6.out).mono ?_); rintro e w' ⟨rfl, ⟨nd, rfl⟩⟩; refine ⟨_, rfl, ?_⟩))
                go_ret3
                exact ⟨_, by first | rfl | (simp [errW_none, errW_some] <;> rfl) | (simp [*, errW_none, errW_some] <;> rfl), by (with_reducible repeat (first | apply Kd.R_alloc | apply Kd.R_drewN | apply Kd.R_drew)); exact HO_7.out, by repeat (first | (with_reducible first | exact HB.out | apply below_alloc | apply pw_below_drewN | apply below_drew1) | exact HB.out)⟩
              · replace c28 := Bool.eq_false_iff.mpr c28
                subst c28
                have H1 : (if x7_1.length < 8796093022208 then (exergueref10_affix.l0 k1 l0 (wrap64 (x1_1 + 1)) (x7_1 ++ [(⟨0, rd l0 x1_1⟩ : S34)])) else (none)) = some (r1, r2, r3) := by rw [if_neg (show ¬ (false = true) by decide)] at H; exact H
                clear H
                have H := H1
                clear H1
                by_cases c29 : x7_1.length < 8796093022208
                · rw [if_pos c29] at H
                  have LMc29 := Aside0.mk c29
                  clear c29
                  obtain ⟨y389, hy389⟩ : ∃ y_ : List (S34), y_ = (x7_1 ++ [(⟨0, rd l0 x1_1⟩ : S34)]) := ⟨_, rfl⟩
                  replace H : (exergueref10_affix.l0 k1 l0 (wrap64 (x1_1 + 1)) y389) = some (r1, r2, r3) := by first | (rw [hy389]; with_reducible exact H) | (have H2_ := (Option.bind_some _ _).symm.trans H; rw [hy389]; with_reducible exact H2_) | (have H2_ := (Option.bind_some _ _).symm.trans H; with_reducible exact H2_) | with_reducible exact H | (rw [hy389]; exact H) | exact H
                  have Ny389 := Aside0.mk hy389
                  clear hy389
                  have H' := Aside0.mk H
                  clear H
                  have p383 : 0 ≤ (x1_1 : Int) := of_decide_eq_true (by first | (with_reducible assumption) | assumption)
                  have q383 : x1_1 < (l0.length : Int) := of_decide_eq_true (by first | (with_reducible assumption) | assumption)
                  obtain ⟨ad383, e383, hx383_0⟩ := Kd.at_int HR0.out x1_1 p383 q383
                  cases e383
                  replace hx383_0 := (HB.out.cell (World.block_lt_of_cell? w _ hx383_0)).trans hx383_0
                  replace p383 := eq_true p383
                  replace q383 := eq_true q383
                  go_wp2_with (first | ((with_reducible refine gate_callee (f := 86) rfl ?_); refine goesL_ (some 21) rfl rfl Try.func86 (by kernel_rfl) rfl #[.int .i32 (rd l0 x1_1)] rfl (by (try simp only [List.map_toArray, List.map_cons, List.map_nil]); first | done | rfl | (simp only [List.length_drop, List.length_take]; rfl)) ?_; (with_reducible refine (exergueref10_Sign.calls (rd l0 x1_1) t384 _ A5.out).mono ?_); rintro e w' ⟨rfl, ⟨nd, rfl⟩⟩; refine ⟨_, rfl, ?_⟩) | ((with_reducible refine gate_callee (f := 52) rfl ?_); refine goesL_ (some 23) rfl rfl Try.func52 (by kernel_rfl) rfl #[.int .i32 (rd l0 x1_1)] rfl (by (try simp only [List.map_toArray, List.map_cons, List.map_nil]); first | done | rfl | (simp only [List.length_drop, List.length_take]; rfl)) ?_; (with_reducible refine (exergueref10_Special.calls k1 (rd l0 x1_1) false _ A6.out).mono ?_); rintro e w' ⟨rfl, ⟨nd, rfl⟩⟩; refine ⟨_, rfl, ?_⟩) | ((with_reducible refine gate_builtin (b := .append) (xs := #[.tmp 38, .tmp 41]) rfl ?_); at_builtin; refine Kd.R_append k34 (w0 := w) w.heap.size rfl (.tmp 38) (.tmp 41) 22 34 (.agg #[(.int .i64 0), (.int .i32 0)]) 16 rfl Try.underlying22 info34 rfl (by decide) (by omega) u7 x7_1 (⟨0, rd l0 x1_1⟩ : S34) [.int .i64 0, .int .i32 (rd l0 x1_1)] (fun _ => True) (fun _ => False) rfl rfl ?aP (fun _ hk => hk.elim) ?aF ?aO ?aB ?aS ?aL ?_; (case aP => exact k34_mkM _ _ _ (⟨0, rd l0 x1_1⟩ : S34)); (case aB => exact (by repeat (first | (with_reducible first | exact HB.out | apply below_alloc | apply pw_below_drewN | apply below_drew1) | exact HB.out))); (case aF => exact (fun _ _ => trivial)); (case aO => exact (by (with_reducible repeat (first | apply Kd.R_alloc | apply Kd.R_drewN | apply Kd.R_drew)); exact HO_7.out)); (case aS => exact (below_size (by repeat (first | (with_reducible first | exact HB.out | apply below_alloc | apply pw_below_drewN | apply below_drew1) | exact HB.out)))); (case aL => have := LMc29.out; omega); intro v390 w30 ho hb hg hat; rw [← Ny389.out] at ho; have n0_ := Aside0.mk (hb); have n1_ := Aside0.mk (ho); clear HB; clear HO_7; have HB := n0_; have HO391 := n1_; clear n0_ n1_; clear ho hb hg hat))
                  go_roundg k1
                  case measure => have := HK1.out; omega
                  case rel => exact ⟨(wrap64 (x1_1 + 1)), (y389), (by first | rfl | (simp; done) | (simp [*]; done)), H', ⟨by have := HK1.out; omega⟩, ⟨by (with_reducible repeat (first | apply Kd.R_alloc | apply Kd.R_drewN | apply Kd.R_drew)); exact HO391.out⟩, ⟨by repeat (first | (with_reducible first | exact HB.out | apply below_alloc | apply pw_below_drewN | apply below_drew1) | exact HB.out)⟩⟩
                · rw [if_neg c29] at H
                  exact absurd H (by simp)
        · rw [if_neg c4] at H
          exact absurd H (by simp)
      · rw [if_neg c3] at H
        have c3b0 : decide (x1_1 < (l0.length : Int)) = false := decide_eq_false c3
        clear c3
        simp only [Option.some.injEq, Prod.mk.injEq] at H
        obtain ⟨rfl, rfl, rfl⟩ := H
        go_wp2
        go_ret3
        exact ⟨_, by first | rfl | (simp [errW_none, errW_some] <;> rfl) | (simp [*, errW_none, errW_some] <;> rfl), by (with_reducible repeat (first | apply Kd.R_alloc | apply Kd.R_drewN | apply Kd.R_drew)); exact HO_7.out, by repeat (first | (with_reducible first | exact HB.out | apply below_alloc | apply pw_below_drewN | apply below_drew1) | exact HB.out)⟩

/-! ### exergueref10_many: function 87 -/
def exergueref10_many.l0 : Nat → List Int → Int → Int → Int → Option (Int)
  | 0, _, _, _, _ => none
  | k + 1, x0, x1, x2, x7 => (exergueref10_at.f x0 (wrap64 (x1 + x7))).bind fun t403 => (if t403 = x2 then (exergueref10_many.l0 k x0 x1 x2 (wrap64 (x7 + 1))) else (some x7))
def exergueref10_many.f (k : Nat) (l0 : List Int) (a1 : Int) (a2 : Int) : Option (Int) := exergueref10_many.l0 k l0 a1 a2 0
theorem exergueref10_many.mono_l : ∀ k, (∀ y0 y1 y2 y3, LeO (exergueref10_many.l0 k y0 y1 y2 y3) (exergueref10_many.l0 (k + 1) y0 y1 y2 y3))
  | 0 => fun _ _ _ _ r h => by simp [exergueref10_many.l0] at h
  | k + 1 => by
    have ih0 := exergueref10_many.mono_l k
    · intro y0 y1 y2 y3
      unfold exergueref10_many.l0
      repeat' first
      | (with_reducible exact ih0 _ _ _ _)
      | (with_reducible exact LeO.refl _)
      | (with_reducible exact LeO.none _)
      | (with_reducible refine LeO.ite ?_ ?_)
      | (with_reducible refine LeO.bind ?_ (fun _ => ?_))
      | exact ih0 _ _ _ _
      | exact LeO.none _
      | refine LeO.ite ?_ ?_
      | refine LeO.bind ?_ (fun _ => ?_)
theorem exergueref10_many.mono : ∀ a0 a1 a2 k, LeO (exergueref10_many.f k a0 a1 a2) (exergueref10_many.f (k + 1) a0 a1 a2) := by
  intro a0 a1 a2 k
  have ih0 := exergueref10_many.mono_l k
  unfold exergueref10_many.f
  repeat' first
      | (with_reducible exact ih0 _ _ _ _)
      | (with_reducible exact LeO.refl _)
      | (with_reducible exact LeO.none _)
      | (with_reducible refine LeO.ite ?_ ?_)
      | (with_reducible refine LeO.bind ?_ (fun _ => ?_))
      | exact ih0 _ _ _ _
      | exact LeO.none _
      | refine LeO.ite ?_ ?_
      | refine LeO.bind ?_ (fun _ => ?_)
set_option maxHeartbeats 8000000 in
set_option maxRecDepth 100000 in
theorem exergueref10_many.calls (k : Nat) (A0 : Option Addr) (c0 : Nat) (l0 : List Int) (a1 : Int) (a2 : Int) (r : Int) (w : World) (hr0 : Kd.C (Kd.int .i32) w A0 l0.length l0) (hc0 : l0.length ≤ c0) (h : exergueref10_many.f k l0 a1 a2 = some r) :
    Calls Try.prog 87 #[.slice A0 l0.length c0, .int .i64 a1, .int .i32 a2] w fun e w' => e = .returned (.int .i64 r) ∧ Drawn0 w w' := by
  have HR0 := Aside0.mk hr0
  have HC0 := Aside0.mk hc0
  clear hr0 hc0
  have H : (exergueref10_many.l0 k l0 a1 a2 0) = some r := h
  clear h
  have H' := Aside0.mk H
  clear H
  go_enter Try.func87, Try.ntmps87
  go_wp2
  go_loopg [7] k (fun kq v7 w' => ∃ (x7_1 : Int), v7 = .int .i64 x7_1 ∧ Aside0 (exergueref10_many.l0 kq l0 a1 a2 x7_1 = some r) ∧ Aside0 (kq ≤ k) ∧ Drawn0 w w')
  case atStart => exact ⟨(0), (by first | rfl | (simp; done) | (simp [*]; done)), H', ⟨Nat.le_refl _⟩, by repeat (first | exact Drawn0.refl _ | apply Drawn0.step)⟩
  case round =>
    clear H'
    try clear p2
    obtain ⟨x7_1, rfl, HA, HK1, ⟨m1, rfl⟩⟩ := hrel
    cases gk with
    | zero => exact absurd HA.out (by simp [exergueref10_many.l0])
    | succ k1 =>
      have H := HA.out
      clear HA
      simp only [exergueref10_many.l0] at H
      replace H := Option.bind_eq_some_iff.mp H
      obtain ⟨t403, A40, H⟩ := H
      replace H : (if t403 = a2 then (exergueref10_many.l0 k1 l0 a1 a2 (wrap64 (x7_1 + 1))) else (some x7_1)) = some r := H
      have A4 := Aside0.mk A40
      clear A40
      by_cases c5 : t403 = a2
      · rw [if_pos c5] at H
        have c5b0 : (t403 == a2) = true := beq_iff_eq.mpr c5
        have c5b1 : (t403 != a2) = false := bne_eq_false_iff_eq.mpr c5
        clear c5
        have H' := Aside0.mk H
        clear H
        go_wp2_with (first | ((with_reducible refine gate_callee (f := 39) rfl ?_); refine goesL_ (some 12) rfl rfl Try.func39 (by kernel_rfl) rfl #[.slice A0 l0.length c0, .int .i64 (wrap64 (a1 + x7_1))] rfl (by (try simp only [List.map_toArray, List.map_cons, List.map_nil]); first | done | rfl | (simp only [List.length_drop, List.length_take]; rfl)) ?_; (with_reducible refine (exergueref10_at.calls _ _ l0 (wrap64 (a1 + x7_1)) t403 _ ?side1 ?side2 A4.out).mono ?_); (case side1 => repeat (first | exact HR0.out | (with_reducible refine Kd.C_alloc ?_ _) | (with_reducible refine Kd.C_drewN ?_ _) | (with_reducible refine Kd.C_drew ?_))); (case side2 => exact HC0.out); rintro e w' ⟨rfl, ⟨nd, rfl⟩⟩; refine ⟨_, rfl, ?_⟩))
        go_roundg k1
        case measure => have := HK1.out; omega
        case rel => exact ⟨(wrap64 (x7_1 + 1)), (by first | rfl | (simp; done) | (simp [*]; done)), H', ⟨by have := HK1.out; omega⟩, by repeat (first | exact Drawn0.refl _ | apply Drawn0.step)⟩
      · rw [if_neg c5] at H
        have c5b0 : (t403 == a2) = false := beq_eq_false_iff_ne.mpr c5
        have c5b1 : (t403 != a2) = true := bne_iff_ne.mpr c5
        obtain rfl := Option.some.inj H
        go_wp2_with (first | ((with_reducible refine gate_callee (f := 39) rfl ?_); refine goesL_ (some 12) rfl rfl Try.func39 (by kernel_rfl) rfl #[.slice A0 l0.length c0, .int .i64 (wrap64 (a1 + x7_1))] rfl (by (try simp only [List.map_toArray, List.map_cons, List.map_nil]); first | done | rfl | (simp only [List.length_drop, List.length_take]; rfl)) ?_; (with_reducible refine (exergueref10_at.calls _ _ l0 (wrap64 (a1 + x7_1)) t403 _ ?side1 ?side2 A4.out).mono ?_); (case side1 => repeat (first | exact HR0.out | (with_reducible refine Kd.C_alloc ?_ _) | (with_reducible refine Kd.C_drewN ?_ _) | (with_reducible refine Kd.C_drew ?_))); (case side2 => exact HC0.out); rintro e w' ⟨rfl, ⟨nd, rfl⟩⟩; refine ⟨_, rfl, ?_⟩))
        go_ret
        exact ⟨by first | rfl | (simp; done) | (simp [*]; done), by repeat (first | exact Drawn0.refl _ | apply Drawn0.step)⟩

-- NOT PRINTED: function 88 (exergueref10_places)

-- NOT PRINTED: function 65 (exergueref10_number)

-- NOT PRINTED: function 38 (exergueref10_first)

end Go.Proofs.Ytdbcdgojbegakaa.V
