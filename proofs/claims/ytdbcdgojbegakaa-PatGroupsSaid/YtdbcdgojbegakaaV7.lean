/-
What the reference's small functions come to, in this proof's own words: plain Lean.
What the reference's affix comes to: plain Lean.
What the reference's Decode comes to on the bytes of runes: plain Lean.
The reference's small functions, by contracts.
-/
import Derived.Test.YtdbcdgojbegakaaV3
import Derived.Test.YtdbcdgojbegakaaP1
namespace Go.Proofs.Ytdbcdgojbegakaa
open Go.RowKit Go.Proofs.YtdbcdgojbegakaaW.PrintWords

theorem w64 {x : Int} (h0 : -9223372036854775808 ≤ x) (h1 : x < 9223372036854775808) : wrap64 x = x := by unfold wrap64; omega
theorem w32 {x : Int} (h0 : -2147483648 ≤ x) (h1 : x < 2147483648) : wrap32 x = x := by unfold wrap32; omega
theorem rune_bd {r : Int} (h : isRune r = true) : 0 ≤ r ∧ r ≤ 1114111 ∧ (r < 55296 ∨ 57343 < r) := by simpa [isRune, and_assoc] using h

theorem is_f (r : Int) (h0 : -2147483648 ≤ r) (h1 : r < 2147483648) : V.exergueref01_Is.f r = some (isRune r) := by
  unfold V.exergueref01_Is.f isRune
  rw [w64 (by omega) (by omega)]
  by_cases a : r ≥ 0
  · rw [if_pos a]
    by_cases b : r < 55296
    · rw [if_pos b]; exact congrArg some (by rw [Bool.eq_iff_iff]; simp; omega)
    · rw [if_neg b]
      by_cases c : r > 57343
      · rw [if_pos c]; exact congrArg some (by rw [Bool.eq_iff_iff]; simp; omega)
      · rw [if_neg c]; exact congrArg some (by rw [Bool.eq_iff_iff]; simp; omega)
  · rw [if_neg a]
    rw [if_neg (by omega)]; exact congrArg some (by rw [Bool.eq_iff_iff]; simp; omega)
theorem size_f (r : Int) (hr : isRune r = true) : V.exergueref01_Size.f r = some ((Lib.encodeRuneZ r).length : Int) := by
  have h := rune_bd hr
  unfold V.exergueref01_Size.f
  rw [is_f r (by omega) (by omega), hr, Option.bind_some, if_pos rfl]
  by_cases h1 : r < 128
  · rw [if_pos h1, Lib.encodeRuneZ_one h.1 (by omega)]; rfl
  by_cases h2 : r < 2048
  · rw [if_neg h1, if_pos h2, Lib.encodeRuneZ_two (by omega) (by omega)]; rfl
  by_cases h3 : r < 65536
  · rw [if_neg h1, if_neg h2, if_pos h3, Lib.encodeRuneZ_three (by omega)]; rfl
  · rw [if_neg h1, if_neg h2, if_neg h3, Lib.encodeRuneZ_four (by omega) (by omega)]; rfl
theorem bytes_f (r : Int) (hr : isRune r = true) : V.exergueref01_Bytes.f r = some (Lib.encodeRuneZ r) := by
  have h := rune_bd hr
  unfold V.exergueref01_Bytes.f
  rw [size_f r hr, Option.bind_some]
  rw [w64 (by omega) (by omega)]
  have td : ∀ d : Int, 0 < d → Int.tdiv r d = r / d := fun d _ => Int.tdiv_eq_ediv_of_nonneg h.1
  have tm : ∀ (x d : Int), 0 ≤ x → Int.tmod x d = x % d := fun x d hx => Int.tmod_eq_emod_of_nonneg hx
  rw [td 64 (by omega), td 4096 (by omega), td 262144 (by omega), tm r 64 h.1]
  rw [w64 (x := r / 64) (by omega) (by omega), w64 (x := r / 4096) (by omega) (by omega), w64 (x := r / 262144) (by omega) (by omega)]
  rw [tm (r / 64) 64 (by omega), tm (r / 4096) 64 (by omega)]
  rw [w64 (x := 192 + r / 64) (by omega) (by omega), w64 (x := 128 + r % 64) (by omega) (by omega), w64 (x := 224 + r / 4096) (by omega) (by omega), w64 (x := 128 + r / 64 % 64) (by omega) (by omega), w64 (x := 240 + r / 262144) (by omega) (by omega), w64 (x := 128 + r / 4096 % 64) (by omega) (by omega)]
  by_cases h1 : r < 128
  · rw [Lib.encodeRuneZ_one h.1 (by omega)]
    rw [if_pos (by rfl)]
    have : r % 256 = r := by omega
    rw [this]
  by_cases h2 : r < 2048
  · rw [Lib.encodeRuneZ_two (by omega) (by omega)]
    simp only [List.length_cons, List.length_nil]
    rw [if_neg (by decide), if_pos (by rfl)]
    have e1 : (192 + r / 64) % 256 = 192 + r / 64 := by omega
    have e2 : (128 + r % 64) % 256 = 128 + r % 64 := by omega
    rw [e1, e2]
  by_cases h3 : r < 65536
  · rw [Lib.encodeRuneZ_three (by omega)]
    simp only [List.length_cons, List.length_nil]
    rw [if_neg (by decide), if_neg (by decide), if_pos (by rfl)]
    have e1 : (224 + r / 4096) % 256 = 224 + r / 4096 := by omega
    have e2 : (128 + r / 64 % 64) % 256 = 128 + r / 64 % 64 := by omega
    have e3 : (128 + r % 64) % 256 = 128 + r % 64 := by omega
    rw [e1, e2, e3]
  · rw [Lib.encodeRuneZ_four (by omega) (by omega)]
    simp only [List.length_cons, List.length_nil]
    rw [if_neg (by decide), if_neg (by decide), if_neg (by decide), if_pos (by rfl)]
    have e0 : (240 + r / 262144) % 256 = 240 + r / 262144 := by omega
    have e1 : (128 + r / 4096 % 64) % 256 = 128 + r / 4096 % 64 := by omega
    have e2 : (128 + r / 64 % 64) % 256 = 128 + r / 64 % 64 := by omega
    have e3 : (128 + r % 64) % 256 = 128 + r % 64 := by omega
    rw [e0, e1, e2, e3]
theorem text_f (r : Int) (hr : isRune r = true) : V.exergueref10_text.f r = some (strOf [r]) := by
  unfold V.exergueref10_text.f
  rw [bytes_f r hr, Option.bind_some]
  simp only [strOf, strOfNums, List.flatMap_cons, List.flatMap_nil, List.append_nil, Lib.encodeRune]

theorem special_f (r : Int) : V.exergueref10_Special.f 13 r = some (isSpec r) := by
  unfold V.exergueref10_Special.f
  have hl : V.exergueref10_Special.l0 12 r 0 = some (decide (r = 35) || decide (r = 64) || decide (r = 44) || decide (r = 46) || decide (r = 59) || decide (r = 42) || decide (r = 37) || decide (r = 45) || decide (r = 43) || decide (r = 39) || decide (r = 69)) := by
    have b : ∀ i : Nat, i < 11 → bt (⟨#[35, 64, 44, 46, 59, 42, 37, 45, 43, 39, 69]⟩ : ByteArray) (i : Int) = [35, 64, 44, 46, 59, 42, 37, 45, 43, 39, 69].getD i 0 := by decide +kernel
    have step : ∀ (k i : Nat), i < 11 → V.exergueref10_Special.l0 (k + 1) r (i : Int) = if [35, 64, 44, 46, 59, 42, 37, 45, 43, 39, 69].getD i 0 = r then some true else V.exergueref10_Special.l0 k r ((i + 1 : Nat) : Int) := by
      intro k i hi
      simp only [V.exergueref10_Special.l0]
      rw [if_pos (by omega), if_pos (by omega), b i hi, w64 (by omega) (by omega)]
      rw [w32]
      · rfl
      · match i, hi with
        | 0, _ => decide
        | 1, _ => decide
        | 2, _ => decide
        | 3, _ => decide
        | 4, _ => decide
        | 5, _ => decide
        | 6, _ => decide
        | 7, _ => decide
        | 8, _ => decide
        | 9, _ => decide
        | 10, _ => decide
      · match i, hi with
        | 0, _ => decide
        | 1, _ => decide
        | 2, _ => decide
        | 3, _ => decide
        | 4, _ => decide
        | 5, _ => decide
        | 6, _ => decide
        | 7, _ => decide
        | 8, _ => decide
        | 9, _ => decide
        | 10, _ => decide
    have last : V.exergueref10_Special.l0 1 r ((11 : Nat) : Int) = some false := by
      simp only [V.exergueref10_Special.l0]; rw [if_neg (by decide)]
    have s0 := step 11 0 (by omega)
    have s1 := step 10 1 (by omega)
    have s2 := step 9 2 (by omega)
    have s3 := step 8 3 (by omega)
    have s4 := step 7 4 (by omega)
    have s5 := step 6 5 (by omega)
    have s6 := step 5 6 (by omega)
    have s7 := step 4 7 (by omega)
    have s8 := step 3 8 (by omega)
    have s9 := step 2 9 (by omega)
    have s10 := step 1 10 (by omega)
    rw [show (0 : Int) = ((0 : Nat) : Int) by rfl, s0, s1, s2, s3, s4, s5, s6, s7, s8, s9, s10, last]
    simp only [List.getD_eq_getElem?_getD, List.getElem?_cons_zero, List.getElem?_cons_succ, Option.getD_some]
    by_cases a0 : r = 35
    · subst a0; rfl
    by_cases a1 : r = 64
    · subst a1; rfl
    by_cases a2 : r = 44
    · subst a2; rfl
    by_cases a3 : r = 46
    · subst a3; rfl
    by_cases a4 : r = 59
    · subst a4; rfl
    by_cases a5 : r = 42
    · subst a5; rfl
    by_cases a6 : r = 37
    · subst a6; rfl
    by_cases a7 : r = 45
    · subst a7; rfl
    by_cases a8 : r = 43
    · subst a8; rfl
    by_cases a9 : r = 39
    · subst a9; rfl
    by_cases a10 : r = 69
    · subst a10; rfl
    simp only [a0, a1, a2, a3, a4, a5, a6, a7, a8, a9, a10, decide_false, Bool.or_self]
    rw [if_neg (Ne.symm a0), if_neg (Ne.symm a1), if_neg (Ne.symm a2), if_neg (Ne.symm a3), if_neg (Ne.symm a4), if_neg (Ne.symm a5), if_neg (Ne.symm a6), if_neg (Ne.symm a7), if_neg (Ne.symm a8), if_neg (Ne.symm a9), if_neg (Ne.symm a10)]
  have hj : ∀ b, V.exergueref10_Special.j0 13 r b = if b = true then some true else V.exergueref10_Special.l0 12 r 0 := fun b => rfl
  have hs : isSpec r = (decide (48 ≤ r ∧ r ≤ 57) || decide (r = 164) || (decide (r = 35) || decide (r = 64) || decide (r = 44) || decide (r = 46) || decide (r = 59) || decide (r = 42) || decide (r = 37) || decide (r = 45) || decide (r = 43) || decide (r = 39) || decide (r = 69))) := by
    rw [Bool.eq_iff_iff]
    simp only [isSpec, specials, List.contains_iff_mem, List.mem_cons, List.not_mem_nil, or_false, Bool.or_eq_true, decide_eq_true_eq]
    omega
  rw [hj, hj, hl, hs]
  by_cases a : r ≥ 48
  · rw [if_pos a]
    by_cases b : r ≤ 57
    · rw [if_pos b, if_pos rfl]
      have : decide (48 ≤ r ∧ r ≤ 57) = true := by simp; omega
      rw [this]; rfl
    · rw [if_neg b]
      have : decide (48 ≤ r ∧ r ≤ 57) = false := by simp; omega
      rw [this]
      by_cases c : r = 164
      · subst c; rfl
      · have e1 : (r == 164) = false := by simpa using c
        rw [e1, if_neg (by decide), decide_eq_false c]
        rfl
  · rw [if_neg a]
    have : decide (48 ≤ r ∧ r ≤ 57) = false := by simp; omega
    rw [this]
    by_cases c : r = 164
    · subst c; omega
    · have e1 : (r == 164) = false := by simpa using c
      rw [e1, if_neg (by decide), decide_eq_false c]
      rfl
theorem sign_f (r : Int) : V.exergueref10_Sign.f r = some (signOf r) := by
  unfold V.exergueref10_Sign.f signOf
  by_cases a : r = 45
  · rw [if_pos a, if_pos a]
  rw [if_neg a, if_neg a]
  by_cases b : r = 43
  · rw [if_pos b, if_pos b]
  rw [if_neg b, if_neg b]
  by_cases c : r = 37
  · rw [if_pos c, if_pos c]
  rw [if_neg c, if_neg c]
  by_cases d : r = 164
  · rw [if_pos d, if_pos d]
  rw [if_neg d, if_neg d]

theorem times_l (c : Int) (n : Int) (hn : n ≤ 1000) (hc : (strOf [c]).size = 1) : ∀ (m : Nat) (i : Nat) (k : Nat), n - i = m → m < k →
    V.exergueref10_times.l0 k (strOf [c]) n (strOf (List.replicate i c)) (i : Int) = some (strOf (List.replicate n.toNat c))
  | 0, i, k, hm, hk => by
    obtain ⟨k, rfl⟩ : ∃ j, k = j + 1 := ⟨k - 1, by omega⟩
    simp only [V.exergueref10_times.l0]
    rw [if_neg (by omega), show n.toNat = i by omega]
  | m + 1, i, k, hm, hk => by
    obtain ⟨k, rfl⟩ : ∃ j, k = j + 1 := ⟨k - 1, by omega⟩
    have hs : (strOf (List.replicate i c)).size = i := by
      have : ∀ j : Nat, (strOf (List.replicate j c)).size = j := by
        intro j
        induction j with
        | zero => rfl
        | succ j ih => rw [List.replicate_succ, show c :: List.replicate j c = [c] ++ List.replicate j c by rfl, strOf_append, ByteArray.size_append, ih, hc]; omega
      exact this i
    simp only [V.exergueref10_times.l0]
    rw [if_pos (by omega), if_pos (by rw [hs, hc]; omega), w64 (by omega) (by omega)]
    have e : strOf (List.replicate i c) ++ strOf [c] = strOf (List.replicate (i + 1) c) := by rw [← strOf_append, List.replicate_succ']
    rw [e]
    exact times_l c n hn hc m (i + 1) k (by push_cast; omega) (by omega)
theorem times_f (c n : Int) (hn : n ≤ 1000) (hc : (strOf [c]).size = 1) : V.exergueref10_times.f 1002 (strOf [c]) n = some (strOf (List.replicate n.toNat c)) := by
  unfold V.exergueref10_times.f
  by_cases h : 0 ≤ n
  · exact times_l c n hn hc n.toNat 0 1002 (by omega) (by omega)
  · have st : ∀ k, V.exergueref10_times.l0 (k + 1) (strOf [c]) n (⟨#[]⟩ : ByteArray) 0 = some ⟨#[]⟩ := by
      intro k
      simp only [V.exergueref10_times.l0]
      rw [if_neg (by omega)]
    rw [st 1001, show n.toNat = 0 by omega]
    rfl

/-- The rune at a list's head; -1: there is none. -/
def atL (l : List Int) : Int := l.head?.getD (-1)
theorem atL_nil : atL [] = -1 := rfl
theorem atL_cons (c : Int) (t : List Int) : atL (c :: t) = c := rfl
theorem at_f (l : List Int) (i : Nat) : V.exergueref10_at.f l i = some (atL (l.drop i)) := by
  unfold V.exergueref10_at.f
  by_cases h : (i : Int) < l.length
  · have h' : i < l.length := by omega
    rw [if_pos h, if_pos (by omega), atL, List.head?_drop, List.getElem?_eq_getElem h']
    show some (l.getD (i : Int).toNat 0) = _
    rw [Int.toNat_natCast, List.getD_eq_getElem?_getD, List.getElem?_eq_getElem h']
    rfl
  · rw [if_neg h, List.drop_of_length_le (by omega)]
    rfl

theorem drop_cons {l : List Int} {i : Nat} {c : Int} {t : List Int} (h : l.drop i = c :: t) : i < l.length ∧ rd l i = c ∧ l.drop (i + 1) = t := by
  have h1 : i < l.length := by
    rcases Nat.lt_or_ge i l.length with h1 | h1
    · exact h1
    · rw [List.drop_of_length_le h1] at h; cases h
  have h2 : l[i]? = some c := by rw [← List.head?_drop, h]; rfl
  refine ⟨h1, ?_, ?_⟩
  · show l.getD (i : Int).toNat 0 = c
    rw [Int.toNat_natCast, List.getD_eq_getElem?_getD, h2]; rfl
  · rw [← List.tail_drop, h]; rfl
theorem many_l (l : List Int) (i : Nat) (c : Int) (hc : 0 ≤ c) (hl : l.length ≤ 65536) (hi : i ≤ 65536) : ∀ (m : Nat) (j k : Nat), (l.drop (i + j)).length ≤ m → m < k → j ≤ l.length →
    V.exergueref10_many.l0 k l i c (j : Int) = some ((j + runLen c (l.drop (i + j)) : Nat) : Int)
  | m, j, 0, hm, hk, hj => by omega
  | m, j, k + 1, hm, hk, hj => by
    simp only [V.exergueref10_many.l0]
    rw [w64 (by omega) (by omega), show (i : Int) + (j : Int) = ((i + j : Nat) : Int) by push_cast; rfl, at_f, Option.bind_some]
    cases hd : l.drop (i + j) with
    | nil =>
      rw [atL_nil, if_neg (by omega)]
      rfl
    | cons d t =>
      obtain ⟨h1, -, h3⟩ := drop_cons hd
      rw [atL_cons]
      simp only [runLen]
      by_cases e : d = c
      · rw [if_pos e, if_pos e, w64 (by omega) (by omega), show (j : Int) + 1 = ((j + 1 : Nat) : Int) by push_cast; rfl]
        rw [hd] at hm
        have h4 : l.drop (i + (j + 1)) = t := by rw [← h3]; rfl
        have := many_l l i c hc hl hi (m - 1) (j + 1) k (by rw [h4]; simp at hm; omega) (by simp at hm; omega) (by omega)
        rw [this, h4]
        congr 2; omega
      · rw [if_neg e, if_neg e]
        rfl
theorem many_f (l : List Int) (i : Nat) (c : Int) (hc : 0 ≤ c) (hl : l.length ≤ 65536) (hi : i ≤ 65536) : V.exergueref10_many.f (l.length + 1) l i c = some ((runLen c (l.drop i) : Nat) : Int) := by
  have := many_l l i c hc hl hi l.length 0 (l.length + 1) (by simp) (by omega) (by omega)
  simpa [V.exergueref10_many.f] using this

/-- A piece, as the printed walks hold it. -/
def sOf (t : Tk) : V.S34 := ⟨t.kind, t.r⟩
def tOf (s : V.S34) : Tk := ⟨s.f0, s.f1⟩
theorem tOf_sOf (t : Tk) : tOf (sOf t) = t := rfl
theorem map_tOf (ts : List Tk) : (ts.map sOf).map tOf = ts := by
  rw [List.map_map]
  have : tOf ∘ sOf = id := rfl
  rw [this, List.map_id]

theorem runes_l (ts : List Tk) (hb : ∀ t ∈ ts, -2147483648 ≤ t.r ∧ t.r < 2147483648) (hl : ts.length ≤ 65536) : ∀ (m i k : Nat), ts.length - i = m → m < k → i ≤ ts.length →
    V.exergueref10_runes.l0 k (ts.map sOf) (i : Int) = some ((ts.drop i).all fun t => isRune t.r)
  | m, i, 0, hm, hk, hi => by omega
  | 0, i, k + 1, hm, hk, hi => by
    simp only [V.exergueref10_runes.l0]
    rw [if_neg (by rw [List.length_map]; omega), List.drop_of_length_le (by omega)]
    rfl
  | m + 1, i, k + 1, hm, hk, hi => by
    have hlt : i < ts.length := by omega
    have hrd : V.rd_T34 (ts.map sOf) (i : Int) = sOf ts[i] := by
      show (ts.map sOf).getD (i : Int).toNat V.z34 = _
      rw [Int.toNat_natCast, List.getD_eq_getElem?_getD, List.getElem?_map, List.getElem?_eq_getElem hlt]
      rfl
    have hbb := hb ts[i] (List.getElem_mem hlt)
    simp only [V.exergueref10_runes.l0]
    rw [if_pos (by rw [List.length_map]; omega), if_pos (by omega), hrd]
    show (V.exergueref01_Is.f ts[i].r).bind _ = _
    rw [is_f _ hbb.1 hbb.2, Option.bind_some, List.drop_eq_getElem_cons hlt, List.all_cons]
    cases hr : isRune ts[i].r with
    | true =>
      rw [if_pos rfl, w64 (by omega) (by omega), show (i : Int) + 1 = ((i + 1 : Nat) : Int) by push_cast; rfl, runes_l ts hb hl m (i + 1) k (by omega) (by omega) (by omega)]
      rfl
    | false => rw [if_neg (by decide)]; rfl
theorem runes_f (ts : List Tk) (hb : ∀ t ∈ ts, -2147483648 ≤ t.r ∧ t.r < 2147483648) (hl : ts.length ≤ 65536) : V.exergueref10_runes.f (ts.length + 1) (ts.map sOf) = some (ts.all fun t => isRune t.r) := by
  have := runes_l ts hb hl ts.length 0 (ts.length + 1) (by omega) (by omega) (by omega)
  exact this

/-! An affix. -/
/-- What is read from a place on: 'out' was read ahead of it. -/
def AffOk (l : List Int) (i : Nat) (out : List V.S34) (o : Option (List V.S34 × Int × Bool)) : Prop :=
  ∃ r, o = some r ∧ match affixL (l.drop i) with
    | some q => r = (out ++ q.1.map sOf, ((l.length - q.2.length : Nat) : Int), true) ∧ q.2.length ≤ l.length - i
    | none => r.2.2 = false
/-- Likewise within quotes. -/
def QuoOk (l : List Int) (i : Nat) (out : List V.S34) (o : Option (List V.S34 × Int × Bool)) : Prop :=
  match quotedL (l.drop i) with
  | some q => AffOk l (l.length - q.2.length) (out ++ q.1.map sOf) o
  | none => ∃ r, o = some r ∧ r.2.2 = false
end Go.Proofs.Ytdbcdgojbegakaa
namespace Go.Proofs.Ytdbcdgojbegakaa
open Go.RowKit Go.Proofs.YtdbcdgojbegakaaW.PrintWords

theorem special_k (r : Int) : ∀ k, 13 ≤ k → V.exergueref10_Special.f k r = some (isSpec r)
  | k, hk => by
    obtain ⟨j, rfl⟩ : ∃ j, k = 13 + j := ⟨k - 13, by omega⟩
    clear hk
    induction j with
    | zero => exact special_f r
    | succ j ih => exact V.exergueref10_Special.mono r (13 + j) _ ih

theorem quotedL_drop : ∀ (n : Nat) (l : List Int), l.length ≤ n → ∀ q, quotedL l = some q → l.drop (l.length - q.2.length) = q.2
  | 0, [], _, q, h => by rw [quotedL.eq_def] at h; cases h
  | n + 1, [], _, q, h => by rw [quotedL.eq_def] at h; cases h
  | n + 1, c :: t, hl, q, h => by
    have hl' : t.length ≤ n := by simpa using hl
    have hle := quotedL_le _ (c :: t) (Nat.le_refl _) q h
    rw [quotedL.eq_def] at h
    simp only at h
    split at h
    · cases t with
      | nil => simp at h; subst h; simp
      | cons d u =>
        simp only at h
        split at h
        · obtain ⟨p, hp, rfl⟩ := Option.map_eq_some_iff.1 h
          have h1 := quotedL_drop n u (by simp at hl'; omega) p hp
          have h2 := quotedL_le _ u (Nat.le_refl _) p hp
          show (c :: d :: u).drop ((c :: d :: u).length - p.2.length) = p.2
          rw [show (c :: d :: u).length - p.2.length = (u.length - p.2.length) + 2 by simp; omega]
          exact h1
        · simp at h; subst h
          show (c :: d :: u).drop ((c :: d :: u).length - (d :: u).length) = d :: u
          rw [show (c :: d :: u).length - (d :: u).length = 1 by simp]
          rfl
    · obtain ⟨p, hp, rfl⟩ := Option.map_eq_some_iff.1 h
      have h1 := quotedL_drop n t hl' p hp
      have h2 := quotedL_le _ t (Nat.le_refl _) p hp
      show (c :: t).drop ((c :: t).length - p.2.length) = p.2
      rw [show (c :: t).length - p.2.length = (t.length - p.2.length) + 1 by simp; omega]
      exact h1

theorem signOf_pos (c : Int) : (signOf c > 0) ↔ signOf c ≠ 0 := by
  unfold signOf
  by_cases a : c = 45
  · rw [if_pos a]; simp
  by_cases b : c = 43
  · rw [if_neg a, if_pos b]; simp
  by_cases d : c = 37
  · rw [if_neg a, if_neg b, if_pos d]; simp
  by_cases e : c = 164
  · rw [if_neg a, if_neg b, if_neg d, if_pos e]; simp
  · rw [if_neg a, if_neg b, if_neg d, if_neg e]; simp
theorem atL_39 (t : List Int) : atL t = 39 ↔ t.head? = some 39 := by
  cases t with
  | nil => simp [atL]
  | cons c t => simp [atL]
theorem quoL_two (u : List Int) : quotedL (39 :: 39 :: u) = (quotedL u).map fun p => (⟨0, 39⟩ :: p.1, p.2) := by
  rw [quotedL.eq_def]; simp
theorem quoL_end {t : List Int} (h : t.head? ≠ some 39) : quotedL (39 :: t) = some ([], t) := by
  rw [quotedL.eq_def]
  cases t with
  | nil => rfl
  | cons d u => simp at h; simp [h]
theorem quoL_one {c : Int} (t : List Int) (h : c ≠ 39) : quotedL (c :: t) = (quotedL t).map fun p => (⟨0, c⟩ :: p.1, p.2) := by
  rw [quotedL.eq_def]; simp [h]

theorem AffOk.pre {l : List Int} {i j : Nat} {out : List V.S34} {tk : List Tk} {o : Option (List V.S34 × Int × Bool)} {f : List Int → Option (List Tk × List Int)} (h : AffOk l j (out ++ tk.map sOf) o) (hij : i ≤ j) (hj : j ≤ l.length)
    (e : affixL (l.drop i) = (affixL (l.drop j)).map fun p => (tk ++ p.1, p.2)) : AffOk l i out o := by
  obtain ⟨r, hr, hm⟩ := h
  refine ⟨r, hr, ?_⟩
  rw [e]
  cases ha : affixL (l.drop j) with
  | none => rw [ha] at hm; exact hm
  | some q =>
    rw [ha] at hm
    simp only [Option.map_some] at hm ⊢
    refine ⟨?_, by have := hm.2; omega⟩
    rw [hm.1, List.map_append, List.append_assoc]

theorem aff_quo (l : List Int) (hl : l.length ≤ 65536) : ∀ n : Nat,
    (∀ i k out, i ≤ l.length → l.length - i ≤ n → 3 * n + 20 ≤ k → out.length + (l.length - i) ≤ 65536 → AffOk l i out (V.exergueref10_affix.l0 k l i out)) ∧
    (∀ i k out op, i ≤ l.length → l.length - i ≤ n → 3 * n + 20 ≤ k → out.length + (l.length - i) ≤ 65536 → QuoOk l i out (V.exergueref10_affix.l1 k l i out op))
  | 0 => by
    constructor
    · intro i k out hi hn hk ho
      obtain ⟨k, rfl⟩ : ∃ j, k = j + 1 := ⟨k - 1, by omega⟩
      refine ⟨(out, (i : Int), true), ?_, ?_⟩
      · simp only [V.exergueref10_affix.l0]; rw [if_neg (by omega)]
      · rw [List.drop_of_length_le (by omega), affixL_nil]
        exact ⟨by simp; omega, by simp⟩
    · intro i k out op hi hn hk ho
      obtain ⟨k, rfl⟩ : ∃ j, k = j + 2 := ⟨k - 2, by omega⟩
      unfold QuoOk
      rw [List.drop_of_length_le (by omega), show quotedL [] = none by rw [quotedL.eq_def]]
      refine ⟨([], op, false), ?_, rfl⟩
      simp only [V.exergueref10_affix.l1, V.exergueref10_affix.j2]
      rw [if_neg (by omega), if_neg (by decide), if_pos (by omega)]
  | n + 1 => by
    obtain ⟨ihA, ihQ⟩ := aff_quo l hl n
    constructor
    · intro i k out hi hn hk ho
      by_cases hend : l.length ≤ i
      · exact (aff_quo l hl 0).1 i k out hi (by omega) (by omega) ho
      obtain ⟨k, rfl⟩ : ∃ j, k = j + 1 := ⟨k - 1, by omega⟩
      cases hd : l.drop i with
      | nil => have := congrArg List.length hd; simp at this; omega
      | cons c t =>
        obtain ⟨h1, h2, h3⟩ := drop_cons hd
        simp only [V.exergueref10_affix.l0]
        rw [if_pos (by omega), if_pos (by omega), h2, sign_f, Option.bind_some, special_k _ _ (by omega), Option.bind_some, w64 (by omega) (by omega), show (i : Int) + 1 = ((i + 1 : Nat) : Int) by push_cast; rfl]
        by_cases hs : signOf c = 0
        · rw [if_neg (fun x => (signOf_pos c).1 x hs)]
          by_cases hq : c = 39
          · rw [if_pos hq, at_f, Option.bind_some, h3]
            subst hq
            by_cases h39 : atL t = 39
            · rw [if_pos h39, if_pos (by omega), w64 (by omega) (by omega), show (i : Int) + 2 = ((i + 2 : Nat) : Int) by push_cast; rfl]
              obtain ⟨u, rfl⟩ : ∃ u, t = 39 :: u := by
                cases t with
                | nil => cases h39
                | cons d u => rw [atL_cons] at h39; exact ⟨u, by rw [h39]⟩
              have h5 : l.drop (i + 2) = u := (drop_cons h3).2.2
              have hlen := (drop_cons h3).1
              refine AffOk.pre (j := i + 2) (tk := [⟨0, 39⟩]) (f := affixL) (ihA (i + 2) k _ (by omega) (by omega) (by omega) (by simp; omega)) (by omega) (by omega) ?_
              rw [hd, h5, affixL_two]; rfl
            · rw [if_neg h39]
              have hne : t.head? ≠ some 39 := fun x => h39 ((atL_39 t).2 x)
              have hQ := ihQ (i + 1) k out (i : Int) (by omega) (by omega) (by omega) (by omega)
              unfold QuoOk at hQ
              rw [h3] at hQ
              unfold AffOk
              rw [hd, affixL_quote hne]
              cases hqt : quotedL t with
              | none =>
                rw [hqt] at hQ
                obtain ⟨r, hr, hf⟩ := hQ
                exact ⟨r, hr, hf⟩
              | some q =>
                rw [hqt] at hQ
                obtain ⟨r, hr, hm⟩ := hQ
                refine ⟨r, hr, ?_⟩
                have hle := quotedL_le _ t (Nat.le_refl _) q hqt
                have hdr := quotedL_drop _ t (Nat.le_refl _) q hqt
                have htl : t.length = l.length - (i + 1) := by rw [← h3, List.length_drop]
                have e2 : l.drop (l.length - q.2.length) = q.2 := by
                  rw [← h3, List.drop_drop] at hdr
                  rw [h3] at hdr
                  rw [show i + 1 + (t.length - q.2.length) = l.length - q.2.length by omega] at hdr
                  exact hdr
                rw [e2] at hm
                simp only [Option.bind_some]
                cases ha : affixL q.2 with
                | none => rw [ha] at hm; exact hm
                | some p =>
                  rw [ha] at hm
                  simp only [Option.map_some] at hm ⊢
                  refine ⟨?_, by have := hm.2; omega⟩
                  rw [hm.1, List.map_append, List.append_assoc]
          · rw [if_neg hq]
            cases hsp : isSpec c with
            | true =>
              rw [if_pos rfl]
              refine ⟨_, rfl, ?_⟩
              rw [hd, affixL_spec t hs hq hsp]
              have htl : (c :: t).length = l.length - i := by rw [← hd, List.length_drop]
              exact ⟨by rw [htl]; simp; omega, by rw [htl]; exact Nat.le_refl _⟩
            | false =>
              rw [if_neg (by decide), if_pos (by omega)]
              refine AffOk.pre (j := i + 1) (tk := [⟨0, c⟩]) (f := affixL) (ihA (i + 1) k _ (by omega) (by omega) (by omega) (by simp; omega)) (by omega) (by omega) ?_
              rw [hd, h3, affixL_plain t hs hq hsp]; rfl
        · rw [if_pos ((signOf_pos c).2 hs), if_pos (by omega)]
          refine AffOk.pre (j := i + 1) (tk := [⟨signOf c, 0⟩]) (f := affixL) (ihA (i + 1) k _ (by omega) (by omega) (by omega) (by simp; omega)) (by omega) (by omega) ?_
          rw [hd, h3, affixL_sign t hs]; rfl
    · intro i k out op hi hn hk ho
      by_cases hend : l.length ≤ i
      · exact (aff_quo l hl 0).2 i k out op hi (by omega) (by omega) ho
      obtain ⟨k, rfl⟩ : ∃ j, k = j + 2 := ⟨k - 2, by omega⟩
      cases hd : l.drop i with
      | nil => have := congrArg List.length hd; simp at this; omega
      | cons c t =>
        obtain ⟨h1, h2, h3⟩ := drop_cons hd
        simp only [V.exergueref10_affix.l1]
        rw [if_pos (by omega), if_pos (by omega), h2, w64 (by omega) (by omega), show (i : Int) + 1 = ((i + 1 : Nat) : Int) by push_cast; rfl, at_f, Option.bind_some, h3]
        unfold QuoOk
        rw [hd]
        have htl : t.length = l.length - (i + 1) := by rw [← h3, List.length_drop]
        by_cases hq : c = 39
        · rw [if_pos hq]
          subst hq
          by_cases h39 : atL t = 39
          · obtain ⟨u, rfl⟩ : ∃ u, t = 39 :: u := by
              cases t with
              | nil => cases h39
              | cons d u => rw [atL_cons] at h39; exact ⟨u, by rw [h39]⟩
            have h5 : l.drop (i + 2) = u := (drop_cons h3).2.2
            have hlen := (drop_cons h3).1
            have hb : (atL (39 :: u) == 39) = true := by simp [atL]
            rw [hb]
            simp only [V.exergueref10_affix.j2]
            rw [if_pos (by trivial), if_pos (by omega), if_pos (by omega), if_pos (by omega), h2, Option.bind_some, if_pos rfl, w64 (x := (i : Int) + 1) (by omega) (by omega), w64 (by omega) (by omega), show (i : Int) + 1 + 1 = ((i + 2 : Nat) : Int) by push_cast; omega]
            have hQ := ihQ (i + 2) k (out ++ [⟨0, 39⟩]) op (by omega) (by omega) (by omega) (by simp; omega)
            unfold QuoOk at hQ
            rw [h5] at hQ
            rw [quoL_two]
            cases hqt : quotedL u with
            | none => rw [hqt] at hQ; exact hQ
            | some q =>
              rw [hqt] at hQ
              simp only [Option.map_some] at hQ ⊢
              rw [List.append_assoc] at hQ
              exact hQ
          · have hb : (atL t == 39) = false := by simpa using h39
            have hne : t.head? ≠ some 39 := fun x => h39 ((atL_39 t).2 x)
            rw [hb, quoL_end hne]
            simp only [V.exergueref10_affix.j2]
            rw [if_neg (by decide), if_neg (by omega), w64 (by omega) (by omega), show (i : Int) + 1 = ((i + 1 : Nat) : Int) by push_cast; rfl]
            have hA := ihA (i + 1) k out (by omega) (by omega) (by omega) (by omega)
            simp only [List.map_nil, List.append_nil]
            rw [show l.length - t.length = i + 1 by omega]
            exact hA
        · rw [if_neg hq]
          simp only [V.exergueref10_affix.j2]
          rw [if_pos (by trivial), if_pos (by omega), if_pos (by omega), if_pos (by omega), h2, Option.bind_some, if_neg hq, w64 (by omega) (by omega), show (i : Int) + 1 = ((i + 1 : Nat) : Int) by push_cast; rfl]
          have hQ := ihQ (i + 1) k (out ++ [⟨0, c⟩]) op (by omega) (by omega) (by omega) (by simp; omega)
          unfold QuoOk at hQ
          rw [h3] at hQ
          rw [quoL_one t hq]
          cases hqt : quotedL t with
          | none => rw [hqt] at hQ; exact hQ
          | some q =>
            rw [hqt] at hQ
            simp only [Option.map_some] at hQ ⊢
            rw [List.append_assoc] at hQ
            exact hQ

theorem affix_f (l : List Int) (hl : l.length ≤ 60000) (i : Nat) (hi : i ≤ l.length) : ∃ k, AffOk l i [] (V.exergueref10_affix.f k l i) :=
  ⟨3 * l.length + 20, (aff_quo l (by omega) l.length).1 i _ [] hi (by omega) (by omega) (by simp; omega)⟩
end Go.Proofs.Ytdbcdgojbegakaa
namespace Go.Proofs.Ytdbcdgojbegakaa
open Go.RowKit Go.Proofs.YtdbcdgojbegakaaW.PrintWords

theorem tails_end (k : Nat) (l : List Int) (a m n i : Int) (h : m < i) : V.exergueref01_tails.l0 (k + 1) l a m n i = some n := by
  simp only [V.exergueref01_tails.l0]; rw [if_neg (by omega)]
theorem tails_step (k : Nat) (l : List Int) (a i : Nat) (m n : Int) (hl : l.length ≤ 65536) (h : (i : Int) ≤ m) (hlt : a + i < l.length) (hn : 0 ≤ n ∧ n < 1000000) (hc : 128 ≤ rd l ((a + i : Nat) : Int) ∧ rd l ((a + i : Nat) : Int) < 192) :
    V.exergueref01_tails.l0 (k + 1) l a m n i = V.exergueref01_tails.l0 k l a m (n * 64 + (rd l ((a + i : Nat) : Int) - 128)) ((i + 1 : Nat) : Int) := by
  simp only [V.exergueref01_tails.l0]
  rw [if_pos h, w64 (x := (a : Int) + i) (by omega) (by omega), show (a : Int) + (i : Int) = ((a + i : Nat) : Int) by push_cast; rfl, if_pos (by omega), if_pos (by omega)]
  generalize rd l ((a + i : Nat) : Int) = c at *
  rw [w64 (x := c) (by omega) (by omega), if_neg (by omega), if_neg (by omega), w64 (x := n * 64) (by omega) (by omega), w64 (x := n * 64 + c) (by omega) (by omega), w64 (x := n * 64 + c - 128) (by omega) (by omega), w64 (x := (i : Int) + 1) (by omega) (by omega)]
  rw [show n * 64 + c - 128 = n * 64 + (c - 128) by omega, show (i : Int) + 1 = ((i + 1 : Nat) : Int) by push_cast; rfl]

theorem rd_get {l : List Int} {i : Nat} {c : Int} (h : l[i]? = some c) : rd l (i : Int) = c := by
  show l.getD (i : Int).toNat 0 = c
  rw [Int.toNat_natCast, List.getD_eq_getElem?_getD, h]; rfl
theorem lt_get {l : List Int} {i : Nat} {c : Int} (h : l[i]? = some c) : i < l.length := (List.getElem?_eq_some_iff.1 h).1

theorem one_j5f (k : Nat) (l : List Int) (a c r x7 : Int) (hr : isRune r = true) (h7 : x7 ≤ r) : V.exergueref01_one.j5 (k + 1) l a c r x7 false = some r := by
  have hb := rune_bd hr
  simp only [V.exergueref01_one.j5]
  rw [if_neg (by decide), w32 (by omega) (by omega), is_f r (by omega) (by omega), hr, Option.bind_some, if_neg (by omega), if_pos rfl]
section
variable (k : Nat) (l : List Int) (a x5 x6 x7 : Int)
theorem j0e : V.exergueref01_one.j0 (k + 1) l a x5 x6 x7 = if x5 ≥ 192 then V.exergueref01_one.j1 k l a x5 x6 x7 (decide (x5 < 224)) else V.exergueref01_one.j1 k l a x5 x6 x7 false := by simp only [V.exergueref01_one.j0]
theorem j1f : V.exergueref01_one.j1 (k + 1) l a x5 x6 x7 false = V.exergueref01_one.j2 k l a x5 x6 x7 := by simp only [V.exergueref01_one.j1]; rw [if_neg (by decide)]
theorem j1t : V.exergueref01_one.j1 (k + 1) l a x5 x6 x7 true = (V.exergueref01_tails.f k l a 1 (wrap64 (x5 - 192))).bind fun t => V.exergueref01_one.j2 k l a x5 t 128 := by simp only [V.exergueref01_one.j1]; rw [if_pos (by trivial)]
theorem j2e : V.exergueref01_one.j2 (k + 1) l a x5 x6 x7 = if x5 ≥ 224 then V.exergueref01_one.j3 k l a x5 x6 x7 (decide (x5 < 240)) else V.exergueref01_one.j3 k l a x5 x6 x7 false := by simp only [V.exergueref01_one.j2]
theorem j3f : V.exergueref01_one.j3 (k + 1) l a x5 x6 x7 false = V.exergueref01_one.j4 k l a x5 x6 x7 := by simp only [V.exergueref01_one.j3]; rw [if_neg (by decide)]
theorem j3t : V.exergueref01_one.j3 (k + 1) l a x5 x6 x7 true = (V.exergueref01_tails.f k l a 2 (wrap64 (x5 - 224))).bind fun t => V.exergueref01_one.j4 k l a x5 t 2048 := by simp only [V.exergueref01_one.j3]; rw [if_pos (by trivial)]
theorem j4e : V.exergueref01_one.j4 (k + 1) l a x5 x6 x7 = if x5 ≥ 240 then V.exergueref01_one.j5 k l a x5 x6 x7 (decide (x5 < 248)) else V.exergueref01_one.j5 k l a x5 x6 x7 false := by simp only [V.exergueref01_one.j4]
theorem j5t : V.exergueref01_one.j5 (k + 1) l a x5 x6 x7 true = (V.exergueref01_tails.f k l a 3 (wrap64 (x5 - 240))).bind fun t => (V.exergueref01_Is.f (wrap32 t)).bind fun u => if t < 65536 then some (-1) else if u = true then some t else some (-1) := by simp only [V.exergueref01_one.j5]; rw [if_pos (by trivial)]
end
theorem one_f (k : Nat) (l : List Int) (hl : l.length ≤ 65536) (a : Nat) (r : Int) (hr : isRune r = true) (rest : List Int) (h : l.drop a = Lib.encodeRuneZ r ++ rest) : V.exergueref01_one.f (k + 20) l a = some r := by
  have hb := rune_bd hr
  have get : ∀ j c, (Lib.encodeRuneZ r)[j]? = some c → l[a + j]? = some c := fun j c hc => by
    rw [← List.getElem?_drop, h, List.getElem?_append_left (lt_get hc), hc]
  unfold V.exergueref01_one.f
  by_cases h1 : r < 128
  · have g0 := get 0 r (by rw [Lib.encodeRuneZ_one hb.1 (by omega)]; rfl)
    have e0 := rd_get g0
    have lt0 := lt_get g0
    simp only [Nat.add_zero] at e0 lt0
    rw [if_pos (by omega), if_pos (by omega), e0, w64 (by omega) (by omega), if_pos h1, j0e, if_neg (by omega), j1f, j2e, if_neg (by omega), j3f, j4e, if_neg (by omega)]
    exact one_j5f (k + 14) l a r r 0 hr hb.1
  by_cases h2 : r < 2048
  · have g0 := get 0 (192 + r / 64) (by rw [Lib.encodeRuneZ_two (by omega) (by omega)]; rfl)
    have g1 := get 1 (128 + r % 64) (by rw [Lib.encodeRuneZ_two (by omega) (by omega)]; rfl)
    have e0 := rd_get g0
    have e1 := rd_get g1
    have lt0 := lt_get g0
    have lt1 := lt_get g1
    simp only [Nat.add_zero] at e0 lt0
    have ht : V.exergueref01_tails.f (k + 18) l a 1 (r / 64) = some r := by
      unfold V.exergueref01_tails.f
      rw [w64 (by omega) (by omega), if_neg (by omega)]
      have s1 := tails_step (k + 17) l a 1 1 (r / 64) hl (by omega) (by omega) (by omega) (by rw [e1]; omega)
      rw [e1] at s1
      rw [show ((1 : Nat) : Int) = 1 from rfl] at s1
      rw [s1, tails_end (k + 16) _ _ _ _ _ (by omega)]
      congr 1; omega
    rw [if_pos (by omega), if_pos (by omega), e0, w64 (by omega) (by omega), if_neg (by omega), j0e, if_pos (by omega), decide_eq_true (by omega), j1t, w64 (by omega) (by omega), show 192 + r / 64 - 192 = r / 64 by omega, ht, Option.bind_some, j2e, if_neg (by omega), j3f, j4e, if_neg (by omega)]
    exact one_j5f (k + 14) l a _ r 128 hr (by omega)
  by_cases h3 : r < 65536
  · have g0 := get 0 (224 + r / 4096) (by rw [Lib.encodeRuneZ_three (by omega)]; rfl)
    have g1 := get 1 (128 + r / 64 % 64) (by rw [Lib.encodeRuneZ_three (by omega)]; rfl)
    have g2 := get 2 (128 + r % 64) (by rw [Lib.encodeRuneZ_three (by omega)]; rfl)
    have e0 := rd_get g0
    have e1 := rd_get g1
    have e2 := rd_get g2
    have lt0 := lt_get g0
    have lt2 := lt_get g2
    simp only [Nat.add_zero] at e0 lt0
    have ht : V.exergueref01_tails.f (k + 16) l a 2 (r / 4096) = some r := by
      unfold V.exergueref01_tails.f
      rw [w64 (by omega) (by omega), if_neg (by omega)]
      have s1 := tails_step (k + 15) l a 1 2 (r / 4096) hl (by omega) (by omega) (by omega) (by rw [e1]; omega)
      have s2 := tails_step (k + 14) l a 2 2 (r / 4096 * 64 + (128 + r / 64 % 64 - 128)) hl (by omega) (by omega) (by omega) (by rw [e2]; omega)
      rw [e1] at s1
      rw [e2] at s2
      rw [show ((1 : Nat) : Int) = 1 from rfl] at s1
      rw [s1, s2, tails_end (k + 13) _ _ _ _ _ (by omega)]
      congr 1; omega
    rw [if_pos (by omega), if_pos (by omega), e0, w64 (by omega) (by omega), if_neg (by omega), j0e, if_pos (by omega), decide_eq_false (by omega), j1f, j2e, if_pos (by omega), decide_eq_true (by omega), j3t, w64 (by omega) (by omega), show 224 + r / 4096 - 224 = r / 4096 by omega, ht, Option.bind_some, j4e, if_neg (by omega)]
    exact one_j5f (k + 14) l a _ r 2048 hr (by omega)
  · have g0 := get 0 (240 + r / 262144) (by rw [Lib.encodeRuneZ_four (by omega) (by omega)]; rfl)
    have g1 := get 1 (128 + r / 4096 % 64) (by rw [Lib.encodeRuneZ_four (by omega) (by omega)]; rfl)
    have g2 := get 2 (128 + r / 64 % 64) (by rw [Lib.encodeRuneZ_four (by omega) (by omega)]; rfl)
    have g3 := get 3 (128 + r % 64) (by rw [Lib.encodeRuneZ_four (by omega) (by omega)]; rfl)
    have e0 := rd_get g0
    have e1 := rd_get g1
    have e2 := rd_get g2
    have e3 := rd_get g3
    have lt0 := lt_get g0
    have lt3 := lt_get g3
    simp only [Nat.add_zero] at e0 lt0
    have ht : V.exergueref01_tails.f (k + 14) l a 3 (r / 262144) = some r := by
      unfold V.exergueref01_tails.f
      rw [w64 (by omega) (by omega), if_neg (by omega)]
      have s1 := tails_step (k + 13) l a 1 3 (r / 262144) hl (by omega) (by omega) (by omega) (by rw [e1]; omega)
      have s2 := tails_step (k + 12) l a 2 3 (r / 262144 * 64 + (128 + r / 4096 % 64 - 128)) hl (by omega) (by omega) (by omega) (by rw [e2]; omega)
      have s3 := tails_step (k + 11) l a 3 3 ((r / 262144 * 64 + (128 + r / 4096 % 64 - 128)) * 64 + (128 + r / 64 % 64 - 128)) hl (by omega) (by omega) (by omega) (by rw [e3]; omega)
      rw [e1] at s1
      rw [e2] at s2
      rw [e3] at s3
      rw [show ((1 : Nat) : Int) = 1 from rfl] at s1
      rw [s1, s2, s3, tails_end (k + 10) _ _ _ _ _ (by omega)]
      congr 1; omega
    rw [if_pos (by omega), if_pos (by omega), e0, w64 (by omega) (by omega), if_neg (by omega), j0e, if_pos (by omega), decide_eq_false (by omega), j1f, j2e, if_pos (by omega), decide_eq_false (by omega), j3f, j4e, if_pos (by omega), decide_eq_true (by omega), j5t, w64 (by omega) (by omega), show 240 + r / 262144 - 240 = r / 262144 by omega, ht, Option.bind_some, w32 (by omega) (by omega), is_f r (by omega) (by omega), hr, Option.bind_some, if_neg (by omega), if_pos rfl]

theorem one_k (l : List Int) (hl : l.length ≤ 65536) (a : Nat) (r : Int) (hr : isRune r = true) (rest : List Int) (h : l.drop a = Lib.encodeRuneZ r ++ rest) (k : Nat) (hk : 20 ≤ k) : V.exergueref01_one.f k l a = some r := by
  obtain ⟨j, rfl⟩ : ∃ j, k = j + 20 := ⟨k - 20, by omega⟩
  exact one_f j l hl a r hr rest h

theorem decode_l (l : List Int) (hl : l.length ≤ 65536) : ∀ (rs dn : List Int) (k : Nat), (∀ r ∈ rs, isRune r = true) → l = encL dn ++ encL rs → dn.length ≤ (encL dn).length → rs.length + 22 ≤ k →
    V.exergueref01_Decode.l0 k l dn ((encL dn).length : Int) = some (dn ++ rs, 0, 0)
  | [], dn, k, hr, e, hd, hk => by
    obtain ⟨k, rfl⟩ : ∃ j, k = j + 1 := ⟨k - 1, by omega⟩
    simp only [V.exergueref01_Decode.l0]
    rw [if_neg (by rw [e]; simp [encL]), List.append_nil]
  | r :: rs, dn, k, hr, e, hd, hk => by
    obtain ⟨k, rfl⟩ : ∃ j, k = j + 1 := ⟨k - 1, by omega⟩
    have hrr := hr r List.mem_cons_self
    have hb := rune_bd hrr
    have hp := enc_pos r hrr
    have hlen : (encL dn).length + (Lib.encodeRuneZ r).length + (encL rs).length = l.length := by
      rw [e, encL_cons, List.length_append, List.length_append]; omega
    simp only [V.exergueref01_Decode.l0]
    have hdr : l.drop (encL dn).length = Lib.encodeRuneZ r ++ encL rs := by rw [e, List.drop_left, encL_cons]
    rw [if_pos (by omega), one_k l hl _ r hrr _ hdr k (by simp at hk; omega), Option.bind_some, if_neg (by omega), if_pos (by omega), w32 (by omega) (by omega), size_f r hrr, Option.bind_some, w64 (by omega) (by omega)]
    have e2 : ((encL dn).length : Int) + ((Lib.encodeRuneZ r).length : Int) = ((encL (dn ++ [r])).length : Int) := by
      rw [encL_append, List.length_append, encL_cons, List.length_append]
      simp [encL]
    rw [e2]
    rw [decode_l l hl rs (dn ++ [r]) k (fun x hx => hr x (List.mem_cons_of_mem _ hx)) (by rw [e, encL_append, encL_cons, encL_cons]; simp [encL]) (by rw [encL_append, encL_cons, List.length_append, List.length_append, List.length_append]; simp; omega) (by simp at hk; omega)]
    simp
end Go.Proofs.Ytdbcdgojbegakaa
namespace Go.Proofs.Ytdbcdgojbegakaa
open Go.RowKit Go.Proofs.YtdbcdgojbegakaaW.PrintWords

theorem kd_int {k : IntKind} {w : World} {A : Option Addr} {l : List Int} (h : ∀ i c, l[i]? = some c → ∃ ad, A = some ad ∧ w.cell? (ad.add i) = some (.int k c)) (hl : l.length ≤ 65536) : Kd.C (Kd.int k) w A l.length l := by
  refine ⟨rfl, by omega, fun hn => ?_⟩
  obtain ⟨ad, e, -⟩ := h 0 _ (List.getElem?_eq_getElem hn)
  refine ⟨ad, e, fun j p hp => ?_⟩
  obtain ⟨ad', e', hc⟩ := h j p hp
  rw [e] at e'
  injection e' with e'
  subst e'
  refine ⟨[.int k p], rfl, rfl, fun i u hu => ?_⟩
  cases i with
  | zero =>
    injection hu with hu
    subst hu
    rw [show j * (Kd.int k).sz + 0 = j by show j * 1 + 0 = j; omega]
    exact hc
  | succ i => cases hu
theorem kd_int_rl {k : IntKind} {w : World} {A : Option Addr} {n : Nat} {l : List Int} (h : Kd.C (Kd.int k) w A n l) : ∀ i c, l[i]? = some c → ∃ ad, A = some ad ∧ w.cell? (ad.add i) = some (.int k c) := by
  intro i c hi
  have hlt := lt_get hi
  have hn : l.length = n := h.1
  obtain ⟨ad, e, hc⟩ := h.2.2 (by omega)
  obtain ⟨cs, -, hk, hcell⟩ := hc i c hi
  have hk' : cs = [.int k c] := hk
  subst hk'
  refine ⟨ad, e, ?_⟩
  have := hcell 0 (.int k c) rfl
  rwa [show i * (Kd.int k).sz + 0 = i by show i * 1 + 0 = i; omega] at this
theorem kd_toks {w : World} {A : Option Addr} {cap : Nat} {ts : List Tk} (h : TL w (.slice A ts.length cap) ts) (hl : ts.length ≤ 65536) : Kd.C V.k34 w A (ts.map sOf).length (ts.map sOf) := by
  obtain ⟨A', cap', e, hT, -⟩ := h
  injection e with e1 e2 e3
  subst e1
  rw [List.length_map]
  refine ⟨by rw [List.length_map], by omega, fun hn => ?_⟩
  obtain ⟨ad, e, -⟩ := hT 0 _ (List.getElem?_eq_getElem hn)
  refine ⟨ad, e, fun j p hp => ?_⟩
  rw [List.getElem?_map] at hp
  obtain ⟨t, ht, rfl⟩ := Option.map_eq_some_iff.1 hp
  obtain ⟨ad', e', c0, c1⟩ := hT j t ht
  rw [e] at e'
  injection e' with e'
  subst e'
  refine ⟨[.int .i64 t.kind, .int .i32 t.r], rfl, V.k34_mk w (sOf t), fun i u hu => ?_⟩
  have hs : V.k34.sz = 2 := rfl
  rw [hs]
  match i, hu with
  | 0, hu => injection hu with hu; subst hu; exact c0
  | 1, hu => injection hu with hu; subst hu; exact c1
theorem toks_tl {w : World} {base : Nat} {ok : Nat → Prop} {v : Value} {ts : List Tk} (h : Kd.R V.k34 34 w base ok v (ts.map sOf)) : TL w v ts := by
  obtain ⟨A, c, hv, -, hc⟩ := Kd.R_reads h
  rw [List.length_map] at hv
  refine ⟨A, c, hv, ?_, ?_⟩
  · intro i t hi
    have hlt : i < ts.length := (List.getElem?_eq_some_iff.1 hi).1
    obtain ⟨ad, e, hcc⟩ := hc.2.2 (by rw [List.length_map]; omega)
    obtain ⟨cs, -, hk, hcell⟩ := hcc i (sOf t) (by rw [List.getElem?_map, hi]; rfl)
    have hk' := V.k34_open hk
    subst hk'
    have hs : V.k34.sz = 2 := rfl
    rw [hs] at hcell
    exact ⟨ad, e, hcell 0 _ rfl, hcell 1 _ rfl⟩
  · intro hA
    obtain ⟨inner, ho⟩ := Kd.R_own h
    rcases ho.2 with ⟨e, _⟩ | ⟨g, cap, cur, e, _⟩
    · rw [hv] at e
      injection e with e1 e2 e3
    · rw [hv, hA] at e
      injection e with e1 e2 e3
      cases e1

theorem drawn_none {w w' : World} (h : Drawn0 w w') : w.grownBy w' none := by
  obtain ⟨n, rfl⟩ := h.out
  exact only_drewN (only_refl w none) n

theorem is_ref (r : Int) (h : -2147483648 ≤ r ∧ r < 2147483648) (w : World) : Calls Try.prog 20 #[.int .i32 r] w fun e w' => e = .returned (.bool (isRune r)) ∧ w.grownBy w' none :=
  (V.exergueref01_Is.calls r _ w (is_f r h.1 h.2)).mono fun _ _ ⟨he, hd⟩ => ⟨he, drawn_none hd⟩
theorem text_ref (r : Int) (hr : isRune r = true) (w : World) : Calls Try.prog 51 #[.int .i32 r] w fun e w' => e = .returned (.string (strOf [r])) ∧ w.grownBy w' none :=
  (V.exergueref10_text.calls r _ w (text_f r hr)).mono fun _ _ ⟨he, hd⟩ => ⟨he, none_of_below hd⟩
theorem special_ref (r : Int) (w : World) : Calls Try.prog 52 #[.int .i32 r] w fun e w' => e = .returned (.bool (isSpec r)) ∧ w.grownBy w' none :=
  (V.exergueref10_Special.calls 13 r _ w (special_f r)).mono fun _ _ ⟨he, hd⟩ => ⟨he, drawn_none hd⟩
theorem times_ref (c n : Int) (hn : n ≤ 1000) (hc : (strOf [c]).size = 1) (w : World) : Calls Try.prog 34 #[.string (strOf [c]), .int .i64 n] w fun e w' => e = .returned (.string (strOf (List.replicate n.toNat c))) ∧ w.grownBy w' none :=
  (V.exergueref10_times.calls 1002 _ n _ w (times_f c n hn hc)).mono fun _ _ ⟨he, hd⟩ => ⟨he, drawn_none hd⟩
theorem runes_ref (w : World) (A : Option Addr) (cap : Nat) (ts : List Tk) (h : TL w (.slice A ts.length cap) ts) (hcap : ts.length ≤ cap) (hb : ∀ t ∈ ts, -2147483648 ≤ t.r ∧ t.r < 2147483648) (hl : ts.length ≤ 65536) :
    Calls Try.prog 21 #[.slice A ts.length cap] w fun e w' => e = .returned (.bool (ts.all fun t => isRune t.r)) ∧ w.grownBy w' none := by
  have := V.exergueref10_runes.calls (ts.length + 1) A cap (ts.map sOf) _ w (kd_toks h hl) (by rw [List.length_map]; exact hcap) (runes_f ts hb hl)
  rw [List.length_map] at this
  exact this.mono fun _ _ ⟨he, hd⟩ => ⟨he, drawn_none hd⟩
theorem at_ref (w : World) (A : Option Addr) (cap : Nat) (l : List Int) (h : RL w A l) (hcap : l.length ≤ cap) (hl : l.length ≤ 65536) (i : Nat) :
    Calls Try.prog 39 #[.slice A l.length cap, .int .i64 i] w fun e w' => e = .returned (.int .i32 (atL (l.drop i))) ∧ w.grownBy w' none :=
  (V.exergueref10_at.calls A cap l i _ w (kd_int h hl) hcap (at_f l i)).mono fun _ _ ⟨he, hd⟩ => ⟨he, drawn_none hd⟩
theorem many_ref (w : World) (A : Option Addr) (cap : Nat) (l : List Int) (h : RL w A l) (hcap : l.length ≤ cap) (hl : l.length ≤ 65536) (i : Nat) (hi : i ≤ 65536) (c : Int) (hc : 0 ≤ c) :
    Calls Try.prog 87 #[.slice A l.length cap, .int .i64 i, .int .i32 c] w fun e w' => e = .returned (.int .i64 ((runLen c (l.drop i) : Nat) : Int)) ∧ w.grownBy w' none :=
  (V.exergueref10_many.calls (l.length + 1) A cap l i c _ w (kd_int h hl) hcap (many_f l i c hc hl hi)).mono fun _ _ ⟨he, hd⟩ => ⟨he, drawn_none hd⟩
theorem decode_ref (w : World) (A : Option Addr) (cap : Nat) (rs : List Int) (h : BL w A (encL rs)) (hcap : (encL rs).length ≤ cap) (hr : ∀ r ∈ rs, isRune r = true) (hl : (encL rs).length ≤ 65536) :
    Calls Try.prog 37 #[.slice A (encL rs).length cap] w fun e w' => (∃ A' c', e = .returned (.tuple #[.slice A' rs.length c', .int .i64 0, .int .i64 0]) ∧ RL w' A' rs ∧ rs.length ≤ c') ∧ w.grownBy w' none := by
  have hd : V.exergueref01_Decode.f (rs.length + 22) (encL rs) = some (rs, 0, 0) := by
    have := decode_l (encL rs) hl rs [] (rs.length + 22) hr (by simp [encL]) (by simp) (by omega)
    simpa [V.exergueref01_Decode.f, encL] using this
  refine (V.exergueref01_Decode.calls _ A cap (encL rs) rs 0 0 w (kd_int h hl) hcap hd).mono fun e w' ⟨v, he, hR, hb⟩ => ⟨?_, none_of_below hb⟩
  obtain ⟨A', c', hv, hle, hC⟩ := Kd.R_reads hR
  exact ⟨A', c', by rw [he, hv], kd_int_rl hC, hle⟩

/-- What the reference's affix hands back. -/
def AffV (l : List Int) (i : Nat) (e : Ending) (w' : World) : Prop :=
  match affixL (l.drop i) with
  | some q => ∃ v, e = .returned (.tuple #[v, .int .i64 ((l.length - q.2.length : Nat) : Int), .bool true]) ∧ TL w' v q.1
  | none => ∃ A n c a, e = .returned (.tuple #[.slice A n c, .int .i64 a, .bool false])
theorem affix_ref (w : World) (A : Option Addr) (cap : Nat) (l : List Int) (h : RL w A l) (hcap : l.length ≤ cap) (hl : l.length ≤ 60000) (i : Nat) (hi : i ≤ l.length) :
    Calls Try.prog 64 #[.slice A l.length cap, .int .i64 i] w fun e w' => AffV l i e w' ∧ w.grownBy w' none := by
  obtain ⟨k, r, hk, hm⟩ := affix_f l hl i hi
  obtain ⟨r1, r2, r3⟩ := r
  refine (V.exergueref10_affix.calls k A cap l i r1 r2 r3 w (kd_int h (by omega)) hcap hk).mono fun e w' ⟨v, he, hR, hb⟩ => ⟨?_, none_of_below hb⟩
  unfold AffV
  cases ha : affixL (l.drop i) with
  | none =>
    rw [ha] at hm
    have hm' : r3 = false := hm
    obtain ⟨A', c', hv, -, -⟩ := Kd.R_reads hR
    exact ⟨A', r1.length, c', r2, by rw [he, hv, hm']⟩
  | some q =>
    rw [ha] at hm
    obtain ⟨hm1, -⟩ := hm
    simp only [Prod.mk.injEq, List.nil_append] at hm1
    obtain ⟨rfl, rfl, rfl⟩ := hm1
    exact ⟨v, he, toks_tl hR⟩
end Go.Proofs.Ytdbcdgojbegakaa
