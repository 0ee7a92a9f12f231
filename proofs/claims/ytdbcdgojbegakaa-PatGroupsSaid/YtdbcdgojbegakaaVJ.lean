/-
The reference's Right: what it comes to.
-/
import Derived.Test.YtdbcdgojbegakaaVI
import Derived.Test.YtdbcdgojbegakaaRJ
import Derived.Test.YtdbcdgojbegakaaK2
namespace Go.Proofs.Ytdbcdgojbegakaa
open Go.RowKit

theorem placesR_rune (p : Nm) : ∀ k, ∀ r ∈ placesR p k, isRune r = true
  | 0, r, h => by simp [placesR] at h
  | k + 1, r, h => by
    have ih := placesR_rune p k r
    have h1 : isRune 35 = true := by decide
    have h2 : isRune 48 = true := by decide
    have h3 : isRune 44 = true := by decide
    simp only [placesR] at h
    rcases List.mem_cons.1 h with h | h
    · split at h <;> subst h <;> assumption
    · split at h
      · rcases List.mem_cons.1 h with h | h
        · subst h; exact h3
        · exact ih h
      · exact ih h
theorem numR_rune (p : Nm) : ∀ r ∈ numR p, isRune r = true := by
  intro r h
  have h1 : isRune 35 = true := by decide
  have h2 : isRune 48 = true := by decide
  have h3 : isRune 64 = true := by decide
  have h4 : isRune 46 = true := by decide
  have h5 : isRune 69 = true := by decide
  have h6 : isRune 43 = true := by decide
  simp only [numR, List.mem_append] at h
  rcases h with (((h | h) | h) | h) | h
  · exact rep_rune h3 _ r h
  · exact rep_rune h1 _ r h
  · exact placesR_rune p _ r h
  · split at h
    · rcases List.mem_cons.1 h with h | h
      · subst h; exact h4
      · rcases List.mem_append.1 h with h | h
        · exact rep_rune h2 _ r h
        · exact rep_rune h1 _ r h
    · cases h
  · split at h
    · rcases List.mem_cons.1 h with h | h
      · subst h; exact h5
      · rcases List.mem_append.1 h with h | h
        · split at h
          · rw [List.mem_singleton.1 h]; exact h6
          · cases h
        · exact rep_rune h2 _ r h
    · cases h
theorem textR_rune (p : Pt) (hs : smallP p = true) : ∀ r ∈ textR p, isRune r = true := by
  simp only [smallP, Bool.and_eq_true] at hs
  obtain ⟨⟨_, hp⟩, hall⟩ := hs
  have hru : ∀ ts : List Tk, (∀ t ∈ ts, t ∈ p.pre ++ p.suf ++ p.npre ++ p.nsuf) → ∀ t ∈ ts, isRune t.r = true := fun ts h t ht => List.all_eq_true.1 hall t (h t ht)
  intro r h
  simp only [textR, List.mem_append] at h
  rcases h with ((((((h | h) | h) | h) | h) | h) | h) | h
  · exact padT_rune p _ hp r h
  · exact writtenT_rune _ _ (hru _ fun t ht => by simp [ht]) r h
  · exact padT_rune p _ hp r h
  · exact numR_rune _ r h
  · exact padT_rune p _ hp r h
  · exact writtenT_rune _ _ (hru _ fun t ht => by simp [ht]) r h
  · exact padT_rune p _ hp r h
  · split at h
    · rcases List.mem_cons.1 h with h | h
      · subst h; decide
      · rcases List.mem_append.1 h with h | h
        · rcases List.mem_append.1 h with h | h
          · exact writtenT_rune _ _ (hru _ fun t ht => by simp [ht]) r h
          · exact numR_rune _ r h
        · exact writtenT_rune _ _ (hru _ fun t ht => by simp [ht]) r h
    · cases h
theorem textR_le (p : Pt) (hs : smallP p = true) (hl : (p.pre ++ p.suf ++ p.npre ++ p.nsuf).length ≤ 300) : (textR p).length ≤ 8192 := by
  simp only [smallP, Bool.and_eq_true] at hs
  have l1 := padT_le p 1
  have l2 := writtenT_le p.pre false
  have l3 := padT_le p 2
  have l4 := numR_le p.nm hs.1.1
  have l5 := padT_le p 3
  have l6 := writtenT_le p.suf false
  have l7 := padT_le p 4
  have l8 := writtenT_le p.npre false
  have l9 := writtenT_le p.nsuf false
  simp only [List.length_append] at hl
  unfold textR
  split <;> simp <;> omega

theorem textR_eq (p : Pt) (h : 0 < p.nm.g1 → 0 < p.nm.g2) : textR p = textT p := by unfold textR textT; rw [numR_eq p.nm h]
theorem right_textR (p : Pt) : decide (parseL (textR p) = some p) = decide (parseL (textT p) = some p) := by
  by_cases h : 0 < p.nm.g1 → 0 < p.nm.g2
  · rw [textR_eq p h]
  · have hno : ∀ l, parseL l ≠ some p := fun l hl => by
      have hok := (parseL_ok hl).fig
      rcases hok with ⟨_, _, _, _, _, _, h1, h2⟩ | ⟨_, _, _, _, _, _, _, hg⟩
      · omega
      · rcases hg with ⟨h1, h2⟩ | ⟨h1, h2, _, _⟩ <;> omega
    rw [decide_eq_false (hno _), decide_eq_false (hno _)]
/-- The nine numbers. -/
def nine (p : Nm) : List Int := [p.hash, p.minInt, p.minFrac, p.maxFrac, p.g1, p.g2, p.minSig, p.maxSig, p.exp]
def okN (n : Int) : Bool := decide (0 ≤ n) && decide (n ≤ 40)
theorem smallNm_nine (p : Nm) : smallNm p = (nine p).all okN := rfl
theorem rightP_parts (p : Pt) : rightP p = ((nine p.nm).all okN && (isRune p.pad && ((p.pre.all fun t => isRune t.r) && (p.suf.all fun t => isRune t.r)) && ((p.npre.all fun t => isRune t.r) && (p.nsuf.all fun t => isRune t.r))) && decide (parseL (textR p) = some p)) := by
  rw [right_textR]
  unfold rightP smallP
  rw [smallNm_nine]
  simp only [List.all_append, Bool.and_assoc]
theorem smallP_parts (p : Pt) : smallP p = ((nine p.nm).all okN && (isRune p.pad && ((p.pre.all fun t => isRune t.r) && (p.suf.all fun t => isRune t.r)) && ((p.npre.all fun t => isRune t.r) && (p.nsuf.all fun t => isRune t.r)))) := by
  unfold smallP
  rw [smallNm_nine]
  simp only [List.all_append, Bool.and_assoc]
end Go.Proofs.Ytdbcdgojbegakaa
