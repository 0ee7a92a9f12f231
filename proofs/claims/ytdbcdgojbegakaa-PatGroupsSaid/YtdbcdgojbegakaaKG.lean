/-
PatGroups' plain laws: a number's text is of one byte each.
-/
import Derived.Test.YtdbcdgojbegakaaK2
import Derived.Test.YtdbcdgojbegakaaP1
namespace Go.Proofs.Ytdbcdgojbegakaa
open Go.RowKit

/-- One byte. -/
def asc (r : Int) : Bool := decide (0 ≤ r) && decide (r < 128)
theorem placesT_asc (p : Nm) : ∀ k, ∀ r ∈ placesT p k, asc r = true
  | 0, r, h => by simp [placesT] at h
  | k + 1, r, h => by
    have ih := placesT_asc p k r
    have h1 : asc 35 = true := by decide
    have h2 : asc 48 = true := by decide
    have h3 : asc 44 = true := by decide
    simp only [placesT] at h
    rcases List.mem_cons.1 h with h | h
    · split at h <;> subst h <;> assumption
    · split at h
      · rcases List.mem_cons.1 h with h | h
        · subst h; exact h3
        · exact ih h
      · exact ih h
theorem rep_asc {c : Int} (hc : asc c = true) (n : Nat) : ∀ r ∈ List.replicate n c, asc r = true := fun r h => by rw [List.eq_of_mem_replicate h]; exact hc
theorem numT_asc (p : Nm) : ∀ r ∈ numT p, asc r = true := by
  intro r h
  have h1 : asc 35 = true := by decide
  have h2 : asc 48 = true := by decide
  have h3 : asc 64 = true := by decide
  have h4 : asc 46 = true := by decide
  have h5 : asc 69 = true := by decide
  have h6 : asc 43 = true := by decide
  simp only [numT, List.mem_append] at h
  rcases h with (((h | h) | h) | h) | h
  · exact rep_asc h3 _ r h
  · exact rep_asc h1 _ r h
  · exact placesT_asc p _ r h
  · split at h
    · rcases List.mem_cons.1 h with h | h
      · subst h; exact h4
      · rcases List.mem_append.1 h with h | h
        · exact rep_asc h2 _ r h
        · exact rep_asc h1 _ r h
    · cases h
  · split at h
    · rcases List.mem_cons.1 h with h | h
      · subst h; exact h5
      · rcases List.mem_append.1 h with h | h
        · split at h
          · rw [List.mem_singleton.1 h]; exact h6
          · cases h
        · exact rep_asc h2 _ r h
    · cases h

theorem enc_asc {r : Int} (h : asc r = true) : Lib.encodeRuneZ r = [r] := by
  simp only [asc, Bool.and_eq_true, decide_eq_true_eq] at h
  unfold Lib.encodeRuneZ
  simp [show r ≤ 127 by omega, h.1]
theorem encL_asc : ∀ (rs : List Int), (∀ r ∈ rs, asc r = true) → encL rs = rs
  | [], _ => rfl
  | r :: rs, h => by
    rw [encL_cons, enc_asc (h r (by simp)), encL_asc rs fun x hx => h x (by simp [hx])]
    rfl
theorem strOf_asc_size (rs : List Int) (h : ∀ r ∈ rs, asc r = true) : (strOf rs).size = rs.length := by rw [strOf_size, encL_asc rs h]
theorem strOf_asc_get (rs : List Int) (h : ∀ r ∈ rs, asc r = true) (i : Nat) (c : Int) (hi : rs[i]? = some c) (hl : i < (strOf rs).size) : (((strOf rs)[i]'hl).toNat : Int) = c := by
  have hd := strOf_data rs
  rw [encL_asc rs h] at hd
  have hc := h c (List.mem_of_getElem? hi)
  simp only [asc, Bool.and_eq_true, decide_eq_true_eq] at hc
  have e : (strOf rs).data.toList[i]? = some c.toNat.toUInt8 := by rw [hd, List.getElem?_map, hi]; rfl
  rw [Array.getElem?_toList] at e
  obtain ⟨hlt, e2⟩ := Array.getElem?_eq_some_iff.1 e
  show (((strOf rs).data[i]).toNat : Int) = c
  rw [e2]
  simp
  omega
end Go.Proofs.Ytdbcdgojbegakaa
