/-
pat.Right: is a pattern right?
-/
import Derived.Test.YtdbcdgojbegakaaSM3
import Derived.Test.YtdbcdgojbegakaaE2
namespace Go.Proofs.Ytdbcdgojbegakaa
open Go.RowKit

theorem placesT_rune (p : Nm) : ∀ k, ∀ r ∈ placesT p k, isRune r = true
  | 0, r, h => by simp [placesT] at h
  | k + 1, r, h => by
    have ih := placesT_rune p k r
    have h1 : isRune 35 = true := by decide
    have h2 : isRune 48 = true := by decide
    have h3 : isRune 44 = true := by decide
    simp only [placesT] at h
    rcases List.mem_cons.1 h with h | h
    · split at h <;> subst h <;> assumption
    · split at h
      · rcases List.mem_cons.1 h with h | h
        · subst h; exact h3
        · exact ih h
      · exact ih h
theorem rep_rune {c : Int} (hc : isRune c = true) (n : Nat) : ∀ r ∈ List.replicate n c, isRune r = true := fun r h => by rw [List.eq_of_mem_replicate h]; exact hc
theorem numT_rune (p : Nm) : ∀ r ∈ numT p, isRune r = true := by
  intro r h
  have h1 : isRune 35 = true := by decide
  have h2 : isRune 48 = true := by decide
  have h3 : isRune 64 = true := by decide
  have h4 : isRune 46 = true := by decide
  have h5 : isRune 69 = true := by decide
  have h6 : isRune 43 = true := by decide
  simp only [numT, List.mem_append] at h
  rcases h with (((h | h) | h) | h) | h
  · exact rep_rune h3 _ r h
  · exact rep_rune h1 _ r h
  · exact placesT_rune p _ r h
  · split at h
    · rcases List.mem_cons.1 h with h | h
      · subst h; exact h4
      · rcases List.mem_append.1 h with h | h
        · exact rep_rune h2 _ r h
        · exact rep_rune h1 _ r h
    · cases h
  · split at h
    · rcases List.mem_cons.1 h with h | h
      · subst h; exact h5
      · rcases List.mem_append.1 h with h | h
        · split at h
          · rw [List.mem_singleton.1 h]; exact h6
          · cases h
        · exact rep_rune h2 _ r h
    · cases h
theorem writtenT_rune : ∀ (ts : List Tk) (q : Bool), (∀ t ∈ ts, isRune t.r = true) → ∀ r ∈ writtenT q ts, isRune r = true
  | [], q, _, r, h => by
    cases q
    · simp [writtenT] at h
    · simp [writtenT] at h; subst h; decide
  | t :: ts, q, ht, r, h => by
    have h39 : isRune 39 = true := by decide
    have hts : ∀ t ∈ ts, isRune t.r = true := fun x hx => ht x (by simp [hx])
    simp only [writtenT] at h
    split at h
    · rcases List.mem_append.1 h with h | h
      · rcases List.mem_append.1 h with h | h
        · split at h
          · rw [List.mem_singleton.1 h]; exact h39
          · cases h
        · unfold runeOf at h
          split at h
          · rw [List.mem_singleton.1 h]; decide
          · split at h
            · rw [List.mem_singleton.1 h]; decide
            · split at h
              · rw [List.mem_singleton.1 h]; decide
              · split at h
                · rw [List.mem_singleton.1 h]; decide
                · cases h
      · exact writtenT_rune ts _ hts r h
    · split at h
      · rcases List.mem_cons.1 h with h | h
        · subst h; exact h39
        · rcases List.mem_cons.1 h with h | h
          · subst h; exact h39
          · exact writtenT_rune ts _ hts r h
      · rcases List.mem_append.1 h with h | h
        · split at h
          · rw [List.mem_singleton.1 h]; exact h39
          · cases h
        · rcases List.mem_cons.1 h with h | h
          · subst h; exact ht t (by simp)
          · exact writtenT_rune ts _ hts r h
theorem padT_rune (p : Pt) (x : Int) (hp : isRune p.pad = true) : ∀ r ∈ padT p x, isRune r = true := by
  intro r h
  unfold padT at h
  split at h
  · simp at h
    rcases h with rfl | rfl
    · decide
    · exact hp
  · cases h
theorem textT_rune (p : Pt) (hs : smallP p = true) : ∀ r ∈ textT p, isRune r = true := by
  simp only [smallP, Bool.and_eq_true] at hs
  obtain ⟨⟨_, hp⟩, hall⟩ := hs
  have hru : ∀ ts : List Tk, (∀ t ∈ ts, t ∈ p.pre ++ p.suf ++ p.npre ++ p.nsuf) → ∀ t ∈ ts, isRune t.r = true := fun ts h t ht => List.all_eq_true.1 hall t (h t ht)
  intro r h
  simp only [textT, List.mem_append] at h
  rcases h with ((((((h | h) | h) | h) | h) | h) | h) | h
  · exact padT_rune p _ hp r h
  · exact writtenT_rune _ _ (hru _ fun t ht => by simp [ht]) r h
  · exact padT_rune p _ hp r h
  · exact numT_rune _ r h
  · exact padT_rune p _ hp r h
  · exact writtenT_rune _ _ (hru _ fun t ht => by simp [ht]) r h
  · exact padT_rune p _ hp r h
  · split at h
    · rcases List.mem_cons.1 h with h | h
      · subst h; decide
      · rcases List.mem_append.1 h with h | h
        · rcases List.mem_append.1 h with h | h
          · exact writtenT_rune _ _ (hru _ fun t ht => by simp [ht]) r h
          · exact numT_rune _ r h
        · exact writtenT_rune _ _ (hru _ fun t ht => by simp [ht]) r h
    · cases h
theorem textT_le (p : Pt) (hs : smallP p = true) (hl : (p.pre ++ p.suf ++ p.npre ++ p.nsuf).length ≤ 300) : (textT p).length ≤ 8192 := by
  simp only [smallP, Bool.and_eq_true] at hs
  have l1 := padT_le p 1
  have l2 := writtenT_le p.pre false
  have l3 := padT_le p 2
  have l4 := numT_le p.nm hs.1.1
  have l5 := padT_le p 3
  have l6 := writtenT_le p.suf false
  have l7 := padT_le p 4
  have l8 := writtenT_le p.npre false
  have l9 := writtenT_le p.nsuf false
  simp only [List.length_append] at hl
  unfold textT
  split <;> simp <;> omega
end Go.Proofs.Ytdbcdgojbegakaa
