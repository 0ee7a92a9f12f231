/-
What a number that was read is like, and that a number's text is read as it. Plain Lean, no program.
What a right pattern's number is like: its text alone is a pattern with that number; its places and commas. Plain Lean, no program.
-/
import Derived.Test.YtdbcdgojbegakaaM
import Derived.Test.YtdbcdgojbegakaaP1
namespace Go.Proofs.Ytdbcdgojbegakaa

/-- What the groups of a number of so many places may be. -/
def GrOk (t g1 g2 : Int) : Prop := (g1 = 0 ∧ g2 = 0) ∨ (0 < g1 ∧ 0 < g2 ∧ g1 < t ∧ (g1 + g2 < t ∨ g1 = g2))

/-- What a number that was read is like. -/
structure NmOk (p : Nm) : Prop where
  fig : (0 < p.minSig ∧ p.minSig ≤ p.maxSig ∧ p.hash = 0 ∧ p.minInt = 0 ∧ p.minFrac = 0 ∧ p.maxFrac = 0 ∧ p.g1 = 0 ∧ p.g2 = 0) ∨
    (p.minSig = 0 ∧ p.maxSig = 0 ∧ 0 ≤ p.hash ∧ 0 ≤ p.minInt ∧ 0 < p.hash + p.minInt ∧ 0 ≤ p.minFrac ∧ p.minFrac ≤ p.maxFrac ∧ GrOk (p.hash + p.minInt) p.g1 p.g2)
  exp0 : 0 ≤ p.exp
  expP : p.exp = 0 → p.expPlus = false

/-- What stands between, while the places are read. -/
def GsOk (tot n : Int) (gs : List Int) : Prop :=
  match gs with
  | [] => tot = n
  | [a] => 0 < a ∧ tot = a + n
  | a :: b :: _ => 0 < a ∧ 0 < b ∧ a + b + n ≤ tot

theorem GsOk.step {tot n : Int} {gs : List Int} (h : GsOk tot n gs) : GsOk (tot + 1) (n + 1) gs := by
  match gs, h with
  | [], h => show tot + 1 = n + 1; have : tot = n := h; omega
  | [a], h => have := h.1; have := h.2; exact ⟨h.1, by omega⟩
  | a :: b :: r, h => exact ⟨h.1, h.2.1, by have := h.2.2; omega⟩
theorem GsOk.comma {tot n : Int} {gs : List Int} (h : GsOk tot n gs) (hn : 0 < n) : GsOk tot 0 (gs ++ [n]) := by
  match gs, h with
  | [], h => exact ⟨hn, by have : tot = n := h; omega⟩
  | [a], h => exact ⟨h.1, hn, by have := h.2; omega⟩
  | a :: b :: r, h => exact ⟨h.1, h.2.1, by have := h.2.2; omega⟩
theorem GsOk.fin {tot n : Int} {gs : List Int} (h : GsOk tot n gs) (hn : gs ≠ [] → 0 < n) : GrOk tot (groupsOf gs n).1 (groupsOf gs n).2 := by
  match gs, h, hn with
  | [], _, _ => exact .inl ⟨rfl, rfl⟩
  | [a], h, hn => have := hn (by simp); have := h.1; have := h.2; exact .inr ⟨this |> fun _ => hn (by simp), hn (by simp), by show n < tot; omega, .inr rfl⟩
  | a :: b :: r, h, hn => have h1 := hn (by simp); have := h.1; have := h.2.2; have h2 := h.2.1; exact .inr ⟨h1, h2, by show n < tot; omega, .inl (by show n + b < tot; omega)⟩

theorem placesL_ok : ∀ (l : List Int) (h m n : Int) (gs : List Int) (q : (Int × Int × Int × Int) × List Int), placesL h m n gs l = some q →
    0 ≤ h → 0 ≤ m → 0 ≤ n → GsOk (h + m) n gs → (gs ≠ [] → n = 0 → commaAt m l = true) →
    0 ≤ q.1.1 ∧ 0 ≤ q.1.2.1 ∧ 0 < q.1.1 + q.1.2.1 ∧ GrOk (q.1.1 + q.1.2.1) q.1.2.2.1 q.1.2.2.2
  | [], h, m, n, gs, q, hq, h0, m0, n0, hg, hc => by
    simp only [placesL] at hq
    split at hq
    · cases hq
    · injection hq with hq; subst hq
      refine ⟨h0, m0, by show 0 < h + m; omega, hg.fin fun e => ?_⟩
      rcases Int.lt_or_eq_of_le n0 with hn | hn
      · exact hn
      · have := hc e hn.symm; simp [commaAt] at this
  | c :: t, h, m, n, gs, q, hq, h0, m0, n0, hg, hc => by
    simp only [placesL] at hq
    split at hq
    · exact placesL_ok t _ _ _ _ q hq (by omega) m0 (by omega) (by have := hg.step; rwa [show h + 1 + m = h + m + 1 by omega]) (fun _ e => by omega)
    · rename_i hh
      split at hq
      · exact placesL_ok t _ _ _ _ q hq h0 (by omega) (by omega) (by have := hg.step; rwa [show h + (m + 1) = h + m + 1 by omega]) (fun _ e => by omega)
      · rename_i hz
        split at hq
        · rename_i hk
          split at hq
          · cases hq
          · exact placesL_ok t _ _ _ _ q hq h0 m0 (by omega) (hg.comma hk.1) (fun _ _ => hk.2.2)
        · split at hq
          · cases hq
          · injection hq with hq; subst hq
            refine ⟨h0, m0, by show 0 < h + m; omega, hg.fin fun e => ?_⟩
            rcases Int.lt_or_eq_of_le n0 with hn | hn
            · exact hn
            · have := hc e hn.symm
              simp [commaAt] at this
              rcases this with h1 | ⟨h1, h2⟩
              · exact absurd h1 hz
              · exact absurd ⟨h2, h1⟩ hh

theorem fracL_ok {l : List Int} {q : (Int × Int) × List Int} (h : fracL l = some q) : 0 ≤ q.1.1 ∧ q.1.1 ≤ q.1.2 := by
  cases l with
  | nil => simp only [fracL] at h; injection h with h; subst h; simp
  | cons c t =>
    simp only [fracL] at h
    split at h
    · split at h
      · cases h
      · injection h with h; subst h; simp; omega
    · injection h with h; subst h; simp
theorem expL_ok {l : List Int} {q : (Bool × Int) × List Int} (h : expL l = some q) : 0 ≤ q.1.2 ∧ (q.1.2 = 0 → q.1.1 = false) := by
  cases l with
  | nil => simp only [expL] at h; injection h with h; subst h; simp
  | cons c t =>
    simp only [expL] at h
    by_cases hc : c = 69
    · rw [if_pos hc] at h
      generalize hu : (if decide (t.head? = some 43) = true then t.drop 1 else t) = u at h
      by_cases he : runLen 48 u = 0
      · rw [if_pos he] at h; cases h
      · rw [if_neg he] at h; injection h with h; subst h; exact ⟨by simp, fun e => by simp at e; omega⟩
    · rw [if_neg hc] at h; injection h with h; subst h; simp

theorem numberL_ok {l : List Int} {q : Nm × List Int} (h : numberL l = some q) : NmOk q.1 := by
  simp only [numberL] at h
  obtain ⟨a, ha, h2⟩ := Option.bind_eq_some_iff.1 h
  obtain ⟨e, he, rfl⟩ := Option.map_eq_some_iff.1 h2
  have h3 := expL_ok he
  split at ha
  · rename_i hn
    injection ha with ha
    subst ha
    refine ⟨.inl ⟨by simp; omega, by simp; omega, rfl, rfl, rfl, rfl, rfl, rfl⟩, h3.1, h3.2⟩
  · obtain ⟨p, hp, h5⟩ := Option.bind_eq_some_iff.1 ha
    obtain ⟨f, hf, rfl⟩ := Option.map_eq_some_iff.1 h5
    have h6 := placesL_ok _ _ _ _ _ _ hp (by omega) (by omega) (by omega) (show (0 : Int) + 0 = 0 by omega) (fun e => absurd rfl e)
    have h7 := fracL_ok hf
    exact ⟨.inr ⟨rfl, rfl, h6.1, h6.2.1, h6.2.2.1, h7.1, h7.2, h6.2.2.2⟩, h3.1, h3.2⟩

/-! A number's text is read as it. -/

/-- Does a comma stand in front of the last so many places? -/
def CAt (p : Nm) (j : Int) : Prop := 0 < p.g1 ∧ p.g1 ≤ j ∧ p.g2 ∣ j - p.g1

theorem CAt_iff {p : Nm} (h2 : 0 < p.g1 → 0 < p.g2) (k : Nat) : (0 < p.g1 ∧ p.g1 < (k + 1 : Nat) ∧ ((k : Int) - p.g1) % (max p.g2 1) = 0) ↔ CAt p k := by
  unfold CAt
  constructor
  · intro ⟨a, b, c⟩
    have := h2 a
    rw [show max p.g2 1 = p.g2 by omega] at c
    exact ⟨a, by omega, Int.dvd_of_emod_eq_zero c⟩
  · intro ⟨a, b, c⟩
    have := h2 a
    rw [show max p.g2 1 = p.g2 by omega]
    exact ⟨a, by omega, Int.emod_eq_zero_of_dvd c⟩

/-- What was read of the places, when so many are left. -/
def PlSt (p : Nm) (T k n : Int) (gs : List Int) : Prop :=
  (∀ j, k ≤ j → j < k + n → ¬ CAt p j) ∧
  match gs with
  | [] => T = k + n
  | [_] => CAt p (k + n) ∧ T ≤ k + n + p.g2
  | _ :: b :: _ => CAt p (k + n) ∧ b = p.g2

theorem CAt.up {p : Nm} {j : Int} (h2 : 0 < p.g1 → 0 < p.g2) (h : CAt p j) : CAt p (j + p.g2) := by
  have := h2 h.1
  refine ⟨h.1, by have := h.2.1; omega, ?_⟩
  have e : j + p.g2 - p.g1 = (j - p.g1) + p.g2 := by omega
  rw [e]; exact Int.dvd_add h.2.2 (Int.dvd_refl _)
theorem CAt.gap {p : Nm} {k n : Int} (h2 : 0 < p.g1 → 0 < p.g2) (h : CAt p k) (h' : CAt p (k + n)) (hn : 0 < n) (hno : ∀ j, k + 1 ≤ j → j < k + n → ¬ CAt p j) : n = p.g2 := by
  have g2 := h2 h.1
  have hle : n ≤ p.g2 := by
    by_cases hc : n ≤ p.g2
    · exact hc
    · exact absurd (h.up h2) (hno _ (by omega) (by omega))
  have hd : p.g2 ∣ n := by
    have := Int.dvd_sub h'.2.2 h.2.2
    rwa [show k + n - p.g1 - (k - p.g1) = n by omega] at this
  have := Int.le_of_dvd hn hd
  omega

/-- How many # and 0 were read, when so many places are left. -/
def HM (p : Nm) (k h m : Int) : Prop := (p.minInt ≤ k → h = p.hash + p.minInt - k ∧ m = 0) ∧ (k < p.minInt → h = p.hash ∧ m = p.minInt - k)

theorem placesT_head (p : Nm) (k : Nat) (hk : 0 < k) (rest : List Int) (m : Int) (hm : p.minInt < k → m = 0) : commaAt m (placesT p k ++ rest) = true := by
  obtain ⟨j, rfl⟩ : ∃ j, k = j + 1 := ⟨k - 1, by omega⟩
  simp only [placesT, commaAt, List.cons_append, List.head?_cons]
  by_cases h : p.minInt < (j + 1 : Nat)
  · rw [if_pos h, hm h]; simp
  · rw [if_neg h]; simp

theorem PlSt.fin {p : Nm} {T n : Int} {gs : List Int} (h : PlSt p T 0 n gs) (hT : T = p.hash + p.minInt) (hg : GrOk T p.g1 p.g2) (hn : gs ≠ [] → 0 < n) : groupsOf gs n = (p.g1, p.g2) := by
  have h2 : 0 < p.g1 → 0 < p.g2 := fun h => by unfold GrOk at hg; omega
  obtain ⟨h1, h3⟩ := h
  have one : CAt p (0 + n) → n = p.g1 := fun hc => by
    by_cases e : n = p.g1
    · exact e
    · have := hc.2.1
      exact absurd (show CAt p p.g1 from ⟨hc.1, Int.le_refl _, by rw [Int.sub_self]; exact Int.dvd_zero _⟩) (h1 p.g1 (by have := hc.1; omega) (by omega))
  match gs, h3, hn with
  | [], h3, _ =>
    rcases hg with ⟨a, b⟩ | ⟨a, b, c, d⟩
    · rw [a, b]; rfl
    · have : T = 0 + n := h3
      exact absurd ⟨a, Int.le_refl _, by rw [Int.sub_self]; exact Int.dvd_zero _⟩ (h1 p.g1 (by omega) (by omega))
  | [a], h3, _ =>
    obtain ⟨hc, hle⟩ := h3
    have e := one hc
    rcases hg with ⟨a, b⟩ | ⟨a, b, c, d⟩
    · exact absurd hc.1 (by omega)
    · have e2 : p.g1 = p.g2 := by rw [e] at hle; omega
      show (n, n) = _
      rw [e, ← e2]
  | a :: b :: r, h3, _ =>
    obtain ⟨hc, hb⟩ := h3
    show (n, b) = _
    rw [one hc, hb]

theorem placesL_text (p : Nm) (T : Int) (hT : T = p.hash + p.minInt) (p0 : 0 < T) (hh : 0 ≤ p.hash) (hm : 0 ≤ p.minInt) (hg : GrOk T p.g1 p.g2) (rest : List Int) (hr : rest = [] ∨ ∃ c t, rest = c :: t ∧ c ≠ 35 ∧ c ≠ 48 ∧ c ≠ 44) :
    ∀ (k : Nat) (h m n : Int) (gs : List Int), (k : Int) ≤ T → HM p k h m → 0 ≤ n → PlSt p T k n gs → (k = 0 → gs ≠ [] → 0 < n) →
      placesL h m n gs (placesT p k ++ rest) = some ((p.hash, p.minInt, p.g1, p.g2), rest)
  | 0, h, m, n, gs, hk, hhm, hn, hst, hn0 => by
    have e := hst.fin hT hg (hn0 rfl)
    have hx : h = p.hash ∧ m = p.minInt := by
      rcases Int.lt_or_eq_of_le hm with h1 | h1
      · have := hhm.2 h1; exact ⟨this.1, by have := this.2; simp at this; omega⟩
      · have := hhm.1 (by rw [← h1]; simp); exact ⟨by have := this.1; simp at this; omega, by have := this.2; omega⟩
    obtain ⟨rfl, rfl⟩ := hx
    have hne : ¬ p.hash + p.minInt = 0 := by omega
    rcases hr with rfl | ⟨c, t, rfl, c1, c2, c3⟩
    · simp only [placesT, List.nil_append, placesL]
      rw [if_neg hne, e]
    · simp only [placesT, List.nil_append, placesL]
      rw [if_neg (fun x => c1 x.2), if_neg c2, if_neg (fun x => c3 x.2.1), if_neg hne, e]
  | k + 1, h, m, n, gs, hk, hhm, hn, hst, hn0 => by
    have h2 : 0 < p.g1 → 0 < p.g2 := fun h => by unfold GrOk at hg; omega
    have ih := placesL_text p T hT p0 hh hm hg rest hr k
    -- behind the digit
    have key : ∀ h' m', HM p k h' m' → placesL h' m' (n + 1) gs ((if 0 < p.g1 ∧ p.g1 < (k + 1 : Nat) ∧ ((k : Int) - p.g1) % (max p.g2 1) = 0 then 44 :: placesT p k else placesT p k) ++ rest) = some ((p.hash, p.minInt, p.g1, p.g2), rest) := by
      intro h' m' hhm'
      by_cases hc : CAt p k
      · rw [if_pos ((CAt_iff h2 k).2 hc)]
        have hk0 : 0 < k := by have := hc.1; have := hc.2.1; omega
        have hca : commaAt m' (placesT p k ++ rest) = true := placesT_head p k hk0 rest m' fun hlt => (hhm'.1 (by omega)).2
        simp only [List.cons_append, placesL]
        rw [if_neg (fun x => by have := x.2; omega), if_neg (by decide), if_pos ⟨by omega, by trivial, hca⟩]
        have hno : ∀ j, (k : Int) + 1 ≤ j → j < k + (n + 1) → ¬ CAt p j := fun j a b => hst.1 j (by push_cast; omega) (by push_cast; omega)
        have hgap : ∀ (hc' : CAt p (k + (n + 1))), n + 1 = p.g2 := fun hc' => hc.gap h2 hc' (by omega) hno
        have hcond : ¬ (1 < gs.length ∧ gs[1]? ≠ some (n + 1)) := by
          match gs, hst.2 with
          | [], _ => simp
          | [a], _ => simp
          | a :: b :: r, h3 =>
            have : n + 1 = p.g2 := hgap (by have := h3.1; push_cast at this; rwa [show (k : Int) + 1 + n = k + (n + 1) by omega] at this)
            simp [this, h3.2]
        rw [if_neg hcond]
        refine ih h' m' 0 (gs ++ [n + 1]) (by push_cast at hk; omega) hhm' (Int.le_refl _) ⟨fun j a b => by omega, ?_⟩ (fun e => by omega)
        match gs, hst.2 with
        | [], h3 =>
          refine ⟨by simpa using hc, ?_⟩
          have h4 : T = (k + 1 : Nat) + n := h3
          by_cases hle : T ≤ k + 0 + p.g2
          · exact hle
          · have := h2 hc.1
            exact absurd (hc.up h2) (hno _ (by omega) (by push_cast at h4; omega))
        | [a], h3 =>
          exact ⟨by simpa using hc, hgap (by have := h3.1; push_cast at this; rwa [show (k : Int) + 1 + n = k + (n + 1) by omega] at this)⟩
        | a :: b :: r, h3 => exact ⟨by simpa using hc, h3.2⟩
      · rw [if_neg (fun x => hc ((CAt_iff h2 k).1 x))]
        refine ih h' m' (n + 1) gs (by push_cast at hk; omega) hhm' (by omega) ⟨fun j a b => ?_, ?_⟩ (fun _ _ => by omega)
        · by_cases e : j = k
          · rw [e]; exact hc
          · exact hst.1 j (by push_cast; omega) (by push_cast; omega)
        · have ek : (k : Int) + (n + 1) = (k + 1 : Nat) + n := by push_cast; omega
          have h3 := hst.2
          match gs, h3 with
          | [], h3 => show T = _; rw [ek]; exact h3
          | [a], h3 => show _ ∧ _; rw [ek]; exact h3
          | a :: b :: r, h3 => show _ ∧ _; rw [ek]; exact h3
    simp only [placesT, List.cons_append, placesL]
    by_cases hd : p.minInt < (k + 1 : Nat)
    · have hx := hhm.1 (by omega)
      rw [if_pos hd, if_pos ⟨hx.2, rfl⟩]
      refine key _ _ ⟨fun _ => ⟨by have := hx.1; push_cast at this; omega, hx.2⟩, fun e => by omega⟩
    · rw [if_neg hd, if_neg (fun x => by have := x.2; omega), if_pos rfl]
      refine key _ _ ⟨fun e => ?_, fun e => ?_⟩
      · omega
      · by_cases he : p.minInt = (k + 1 : Nat)
        · have hx := hhm.1 (by omega)
          push_cast at hx he
          omega
        · have hx := hhm.2 (by omega)
          push_cast at hx
          omega

theorem runLen_rep (c : Int) (rest : List Int) (hr : rest.head? ≠ some c) : ∀ n, runLen c (List.replicate n c ++ rest) = n
  | 0 => by
    cases rest with
    | nil => rfl
    | cons d t => simp only [List.replicate_zero, List.nil_append, runLen]; rw [if_neg (fun e => hr (by simp [e]))]
  | n + 1 => by
    simp only [List.replicate_succ, List.cons_append, runLen, if_true]
    rw [runLen_rep c rest hr n]
theorem drop_rep (c : Int) (rest : List Int) (n : Nat) : (List.replicate n c ++ rest).drop n = rest := by
  have := List.drop_left (l₁ := List.replicate n c) (l₂ := rest)
  rwa [List.length_replicate] at this

/-- What stands behind a number's places: the exponent. -/
def expT (p : Nm) : List Int := if 0 < p.exp then 69 :: ((if p.expPlus then [43] else []) ++ List.replicate p.exp.toNat 48) else []
def fracT (p : Nm) : List Int := if 0 < p.maxFrac then 46 :: (List.replicate p.minFrac.toNat 48 ++ List.replicate (p.maxFrac - p.minFrac).toNat 35) else []
theorem numT_eq (p : Nm) : numT p = List.replicate p.minSig.toNat 64 ++ List.replicate (p.maxSig - p.minSig).toNat 35 ++ placesT p (p.hash + p.minInt).toNat ++ fracT p ++ expT p := rfl
theorem expT_head (p : Nm) (c : Int) (hc : c ≠ 69) : (expT p).head? ≠ some c := by
  unfold expT; split
  · simp; omega
  · simp
theorem expL_text {p : Nm} (h0 : 0 ≤ p.exp) (hp : p.exp = 0 → p.expPlus = false) : expL (expT p) = some ((p.expPlus, p.exp), []) := by
  unfold expT
  by_cases h : 0 < p.exp
  · rw [if_pos h]
    obtain ⟨n, hn⟩ : ∃ n, p.exp.toNat = n + 1 := ⟨p.exp.toNat - 1, by omega⟩
    have he : ((n + 1 : Nat) : Int) = p.exp := by omega
    have hr := runLen_rep 48 [] (by simp) (n + 1)
    have hd := drop_rep 48 [] (n + 1)
    simp only [List.append_nil] at hr hd
    cases hx : p.expPlus with
    | true =>
      simp only [expL, if_true, List.cons_append, List.nil_append, List.head?_cons, decide_true, List.drop_one, List.tail_cons]
      rw [hn, hr, hd, if_neg (by omega), he]
    | false =>
      have ht : (decide ((List.replicate (n + 1) (48 : Int)).head? = some 43)) = false := rfl
      have e0 : ((if (false : Bool) = true then [43] else []) ++ List.replicate (n + 1) (48 : Int)) = List.replicate (n + 1) 48 := rfl
      rw [hn, e0]
      simp only [expL, if_true, ht]
      rw [if_neg (show ¬ (false : Bool) = true by decide), hr, hd, if_neg (by omega), he]
  · rw [if_neg h]
    have e : p.exp = 0 := by omega
    rw [hp e, e]; rfl
theorem fracL_text {p : Nm} (h0 : 0 ≤ p.minFrac) (h1 : p.minFrac ≤ p.maxFrac) : fracL (fracT p ++ expT p) = some ((p.minFrac, p.maxFrac), expT p) := by
  unfold fracT
  by_cases h : 0 < p.maxFrac
  · rw [if_pos h]
    have hb : (List.replicate (p.maxFrac - p.minFrac).toNat (35 : Int) ++ expT p).head? ≠ some 48 := by
      cases hk : (p.maxFrac - p.minFrac).toNat with
      | zero => simpa using expT_head p 48 (by decide)
      | succ k => simp [List.replicate_succ]
    simp only [List.cons_append, List.append_assoc, fracL, if_true]
    rw [runLen_rep 48 _ hb, drop_rep, runLen_rep 35 _ (expT_head p 35 (by decide)), drop_rep, if_neg (by omega)]
    rw [show ((p.minFrac.toNat : Nat) : Int) = p.minFrac by omega, show ((p.minFrac.toNat + (p.maxFrac - p.minFrac).toNat : Nat) : Int) = p.maxFrac by omega]
  · rw [if_neg h, show p.minFrac = 0 by omega, show p.maxFrac = 0 by omega]
    simp only [List.nil_append]
    unfold expT
    split
    · simp [fracL]
    · rfl

theorem numberL_text {p : Nm} (h : NmOk p) : numberL (numT p) = some (p, []) := by
  have hx := expL_text h.exp0 h.expP
  rw [numT_eq]
  rcases h.fig with ⟨a1, a2, a3, a4, a5, a6, a7, a8⟩ | ⟨a1, a2, a3, a4, a5, a6, a7, a8⟩
  · have e1 : placesT p (p.hash + p.minInt).toNat = [] := by rw [a3, a4]; rfl
    have e2 : fracT p = [] := by unfold fracT; rw [a6]; rfl
    have hb : (List.replicate (p.maxSig - p.minSig).toNat (35 : Int) ++ expT p).head? ≠ some 64 := by
      cases hk : (p.maxSig - p.minSig).toNat with
      | zero => simpa using expT_head p 64 (by decide)
      | succ k => simp [List.replicate_succ]
    rw [e1, e2]
    simp only [List.append_nil, List.append_assoc, numberL]
    rw [runLen_rep 64 _ hb, drop_rep, runLen_rep 35 _ (expT_head p 35 (by decide)), drop_rep, if_pos (by omega)]
    simp only [Option.bind_some, hx, Option.map_some]
    rw [show ((p.minSig.toNat : Nat) : Int) = p.minSig by omega, show ((p.minSig.toNat + (p.maxSig - p.minSig).toNat : Nat) : Int) = p.maxSig by omega]
    obtain ⟨q1, q2, q3, q4, q5, q6, q7, q8, q9, q10⟩ := p
    simp only at a3 a4 a5 a6 a7 a8
    subst a3 a4 a5 a6 a7 a8
    rfl
  · rw [a1, a2]
    have e0 : (List.replicate (0 : Int).toNat (64 : Int) ++ List.replicate ((0 : Int) - 0).toNat 35 ++ placesT p (p.hash + p.minInt).toNat ++ fracT p ++ expT p) = placesT p (p.hash + p.minInt).toNat ++ (fracT p ++ expT p) := by simp
    rw [e0]
    have hr : (fracT p ++ expT p) = [] ∨ ∃ c t, (fracT p ++ expT p) = c :: t ∧ c ≠ 35 ∧ c ≠ 48 ∧ c ≠ 44 := by
      unfold fracT expT
      split
      · exact .inr ⟨46, _, rfl, by decide, by decide, by decide⟩
      · split
        · exact .inr ⟨69, _, rfl, by decide, by decide, by decide⟩
        · exact .inl rfl
    obtain ⟨k, hk⟩ : ∃ k : Nat, (k : Int) = p.hash + p.minInt := ⟨(p.hash + p.minInt).toNat, by omega⟩
    have hkn : (p.hash + p.minInt).toNat = k := by omega
    rw [hkn]
    have hp := placesL_text p (p.hash + p.minInt) rfl a5 a3 a4 a8 _ hr k 0 0 0 [] (by omega) ⟨fun _ => ⟨by omega, rfl⟩, fun e => by omega⟩ (by omega) ⟨fun j a b => by omega, by show p.hash + p.minInt = k + 0; omega⟩ (fun _ e => absurd rfl e)
    have hz : runLen 64 (placesT p k ++ (fracT p ++ expT p)) = 0 := by
      obtain ⟨j, rfl⟩ : ∃ j, k = j + 1 := ⟨k - 1, by omega⟩
      simp only [placesT, List.cons_append, runLen]
      rw [if_neg]
      split <;> decide
    simp only [numberL, hz]
    rw [if_neg (by omega), hp]
    simp only [Option.bind_some, fracL_text a6 a7, Option.map_some, hx]
    obtain ⟨q1, q2, q3, q4, q5, q6, q7, q8, q9, q10⟩ := p
    simp only at a1 a2
    subst a1 a2
    rfl

/-- A number alone. -/
def bareP (p : Nm) : Pt := ⟨[], [], [], [], false, p, 0, 0⟩
theorem numT_head {p : Nm} (h : NmOk p) : ∃ c t, numT p = c :: t ∧ (c = 64 ∨ c = 35 ∨ c = 48) := by
  rw [numT_eq]
  rcases h.fig with ⟨a1, -⟩ | ⟨a1, a2, a3, a4, a5, -⟩
  · obtain ⟨n, hn⟩ : ∃ n, p.minSig.toNat = n + 1 := ⟨p.minSig.toNat - 1, by omega⟩
    rw [hn]; exact ⟨64, _, rfl, .inl rfl⟩
  · obtain ⟨n, hn⟩ : ∃ n, (p.hash + p.minInt).toNat = n + 1 := ⟨(p.hash + p.minInt).toNat - 1, by omega⟩
    rw [a1, a2, hn]
    simp only [placesT]
    by_cases h : p.minInt < (n + 1 : Nat)
    · rw [if_pos h]; exact ⟨35, _, rfl, by simp⟩
    · rw [if_neg h]; exact ⟨48, _, rfl, by simp⟩
theorem wholeL_number {p : Nm} (h : NmOk p) : wholeL (numT p) = some (bareP p) := by
  have hn := numberL_text h
  obtain ⟨c, t, e, hc⟩ := numT_head h
  have h1 : padL 1 (0, 0) (numT p) = some ((0, 0), numT p) := by
    rw [e]; simp only [padL]; rw [if_neg (by decide), if_neg (by omega)]
  have h2 : padL 2 (0, 0) (numT p) = some ((0, 0), numT p) := by
    rw [e]; simp only [padL]; rw [if_neg (by decide), if_neg (by omega)]
  have h3 : affixL (numT p) = some ([], numT p) := by
    rw [e]
    rcases hc with rfl | rfl | rfl
    · exact affixL_spec t rfl (by decide) (by decide)
    · exact affixL_spec t rfl (by decide) (by decide)
    · exact affixL_spec t rfl (by decide) (by decide)
  simp only [wholeL, h1, Option.bind_some, whole1, h3, whole2, h2, whole3, hn, whole4]
  rfl
end Go.Proofs.Ytdbcdgojbegakaa
namespace Go.Proofs.Ytdbcdgojbegakaa

theorem numT_le_text (p : Pt) : (numT p.nm).length ≤ (textT p).length := by
  unfold textT; simp only [List.length_append]; omega
theorem parseL_whole {l : List Int} {p : Pt} (h : parseL l = some p) : l.length ≤ 120 ∧ wholeL l = some p ∧ ¬ (40 < p.nm.hash + p.nm.minInt ∨ 40 < p.nm.maxFrac ∨ 40 < p.nm.maxSig ∨ 40 < p.nm.exp) := by
  unfold parseL at h
  split at h
  · cases h
  · obtain ⟨q, hq, h2⟩ := Option.bind_eq_some_iff.1 h
    split at h2
    · cases h2
    · injection h2 with h2; subst h2; exact ⟨by omega, hq, ‹_›⟩
theorem parseL_ok {l : List Int} {p : Pt} (h : parseL l = some p) : NmOk p.nm := by
  obtain ⟨u, q, hq, -, e⟩ := wholeL_num (parseL_whole h).2.1
  rw [e]; exact numberL_ok hq
theorem right_parse {p : Pt} (h : rightP p = true) : smallP p = true ∧ parseL (textT p) = some p := by
  unfold rightP at h
  rw [Bool.and_eq_true] at h
  exact ⟨h.1, of_decide_eq_true h.2⟩
theorem right_number {p : Pt} (h : rightP p = true) : NmOk p.nm ∧ (numT p.nm).length ≤ 120 ∧ smallNm p.nm = true ∧ parseL (numT p.nm) = some (bareP p.nm) := by
  obtain ⟨h1, h2⟩ := right_parse h
  obtain ⟨a, b, c⟩ := parseL_whole h2
  have hok := parseL_ok h2
  have hl := numT_le_text p
  refine ⟨hok, by omega, ?_, ?_⟩
  · unfold smallP at h1; simp only [Bool.and_eq_true] at h1; exact h1.1.1
  · unfold parseL
    rw [if_neg (by omega), wholeL_number hok, Option.bind_some]; exact if_neg c

/-- The law's own walk over a number's text: none: it says no; else how many places it saw. -/
def glL (p : Nm) (n : Int) : Int → List Int → Option Int
  | seen, [] => some seen
  | seen, c :: t =>
    if n < seen then some seen
    else if c = 35 ∨ c = 48 then (if seen < n ∧ (decide (c = 48) ≠ decide (p.hash ≤ seen)) then none else glL p n (seen + 1) t)
    else if c = 44 then (if p.g1 = 0 ∨ n - seen < p.g1 ∨ (n - seen - p.g1) % p.g2 ≠ 0 ∨ seen = 0 then none else glL p n seen t)
    else glL p n seen t

theorem glL_rest (p : Nm) (n : Int) : ∀ (l : List Int) (seen : Int), n ≤ seen → 44 ∉ l → ∃ s, glL p n seen l = some s ∧ n ≤ s
  | [], seen, h, _ => ⟨seen, rfl, h⟩
  | c :: t, seen, h, hc => by
    have ht : 44 ∉ t := fun e => hc (List.mem_cons_of_mem _ e)
    simp only [glL]
    split
    · exact ⟨_, rfl, h⟩
    · split
      · rw [if_neg (fun x => by have := x.1; omega)]; exact glL_rest p n t _ (by omega) ht
      · rw [if_neg (fun e => hc (by rw [e]; exact List.mem_cons_self))]; exact glL_rest p n t _ h ht
theorem glL_places (p : Nm) (T : Int) (hT : T = p.hash + p.minInt) (hh : 0 ≤ p.hash) (h2 : 0 < p.g1 → 0 < p.g2) (rest : List Int) :
    ∀ k : Nat, (k : Int) ≤ T → glL p T (T - k) (placesT p k ++ rest) = glL p T T rest
  | 0, _ => by simp [placesT]
  | k + 1, hk => by
    have ih := glL_places p T hT hh h2 rest k (by push_cast at hk; omega)
    have key : glL p T (T - k) ((if 0 < p.g1 ∧ p.g1 < (k + 1 : Nat) ∧ ((k : Int) - p.g1) % (max p.g2 1) = 0 then 44 :: placesT p k else placesT p k) ++ rest) = glL p T T rest := by
      by_cases hc : 0 < p.g1 ∧ p.g1 < (k + 1 : Nat) ∧ ((k : Int) - p.g1) % (max p.g2 1) = 0
      · rw [if_pos hc]
        obtain ⟨c1, c2, c3⟩ := hc
        have := h2 c1
        rw [show max p.g2 1 = p.g2 by omega] at c3
        simp only [List.cons_append, glL]
        rw [if_neg (by omega), if_neg (by decide), if_pos (by trivial), if_neg, ih]
        rw [show T - (T - (k : Int)) - p.g1 = k - p.g1 by omega]
        push_cast at hk c2
        intro x
        rcases x with x | x | x | x
        · omega
        · omega
        · exact x c3
        · omega
      · rw [if_neg hc, ih]
    simp only [placesT, List.cons_append, glL]
    rw [if_neg (by push_cast at hk ⊢; omega), if_pos (by split <;> simp), if_neg, show T - ((k + 1 : Nat) : Int) + 1 = T - k by push_cast; omega, key]
    intro x
    apply x.2
    by_cases hm : p.minInt < (k + 1 : Nat)
    · rw [if_pos hm]
      have : ¬ p.hash ≤ T - ((k + 1 : Nat) : Int) := by omega
      simp; push_cast at this; omega
    · rw [if_neg hm]
      have : p.hash ≤ T - ((k + 1 : Nat) : Int) := by omega
      simp; push_cast at this; omega
theorem numT_groups {p : Nm} (h : NmOk p) (hs : p.minSig ≤ 0) : ∃ s, glL p (p.hash + p.minInt) 0 (numT p) = some s ∧ p.hash + p.minInt ≤ s := by
  rcases h.fig with ⟨a1, -⟩ | ⟨a1, a2, a3, a4, a5, a6, a7, a8⟩
  · omega
  · obtain ⟨k, hk⟩ : ∃ k : Nat, (k : Int) = p.hash + p.minInt := ⟨(p.hash + p.minInt).toNat, by omega⟩
    have e0 : numT p = placesT p k ++ (fracT p ++ expT p) := by
      rw [numT_eq, a1, a2, show (p.hash + p.minInt).toNat = k by omega]; simp
    have h2 : 0 < p.g1 → 0 < p.g2 := fun h => by unfold GrOk at a8; omega
    have hg := glL_places p _ rfl a3 h2 (fracT p ++ expT p) k (by omega)
    rw [e0]
    rw [show p.hash + p.minInt - (k : Int) = 0 by omega] at hg
    rw [hg]
    refine glL_rest p _ _ _ (Int.le_refl _) ?_
    unfold fracT expT
    intro hm
    rcases List.mem_append.1 hm with h | h
    · split at h
      · simp [List.mem_replicate] at h
      · cases h
    · split at h
      · split at h <;> simp [List.mem_replicate] at h
      · cases h
theorem numT_long (p : Nm) : p.hash + p.minInt ≤ (numT p).length := by
  have hk : ∀ k : Nat, k ≤ (placesT p k).length := by
    intro k
    induction k with
    | zero => simp
    | succ k ih => simp only [placesT, List.length_cons]; split <;> simp <;> omega
  have := hk (p.hash + p.minInt).toNat
  rw [numT_eq]; simp only [List.length_append]; omega
end Go.Proofs.Ytdbcdgojbegakaa
