/-
Is a rune special: a range over the text of all special runes.
-/
import Derived.Test.YtdbcdgojbegakaaS1
import Derived.Lib.OthersKept
namespace Go.Proofs.Ytdbcdgojbegakaa
open Go.RowKit

def specStr : ByteArray := ⟨#[35, 48, 49, 50, 51, 52, 53, 54, 55, 56, 57, 64, 44, 46, 59, 42, 37, 45, 43, 39, 69, 194, 164]⟩
theorem specStr_size : specStr.size = 23 := rfl
theorem spec_decode : ∀ j : Fin 22, Utf8.decode specStr j.val = ((specials.getD j.val 0).toNat, if j.val = 21 then 2 else 1) := by decide +kernel

def posOf (j : Nat) : Nat := if j = 22 then 23 else j

theorem spec_nat : ∀ j : Fin 22, (((specials.getD j.val 0).toNat : Nat) : Int) = specials.getD j.val 0 := by decide

theorem spec_next (w : World) (g j : Nat) (hk : w.heap[g]? = some (.stringIter specStr j)) (hj : j < 22) :
    (Instr.next (.pointer (some ⟨g, 0, none⟩)) true 0).run Try.prog w = .ok (.tuple #[.bool true, .int .i64 j, .int .i32 (specials.getD j 0)]) (w.iterAt g specStr (posOf (j + 1))) := by
  rw [Lib.run_next_any_at w g specStr j 0 hk (by rw [specStr_size]; omega), spec_decode ⟨j, hj⟩]
  simp only [spec_nat ⟨j, hj⟩]
  unfold posOf
  by_cases h : j = 21
  · subst h; rfl
  · rw [if_neg h, if_neg (by omega)]

set_option maxHeartbeats 400000 in
theorem hasRune_any (w : World) (r : Int) :
    Calls Try.prog 70 #[.string specStr, .int .i32 r] w fun e w' => e = .returned (.bool (isSpec r)) ∧ Below w.heap.size w w' := by
  have hsz := specStr_size
  generalize hS : specStr = S at *
  go_enter Try.func70, Try.ntmps70
  go_wp2_with fail
  go_loopg [6] 22 (fun kq _ wr => ∃ j : Nat, Hid (kq = 22 - j) ∧ Hid (j ≤ 22) ∧ Hid (wr.heap[w.heap.size]? = some (.stringIter S (posOf j))) ∧ Hid ((specials.take j).contains r = false) ∧ Hid (Below w.heap.size w wr))
  case atStart => exact ⟨0, rfl, Nat.zero_le _, World.iter_heap _ _ _, rfl, (Below.refl _ _).alloc (Nat.le_refl _) _⟩
  case round =>
    obtain ⟨j, HK, HJ, HI, HC, HB⟩ := hrel
    by_cases hj : j < 22
    · have hnx := spec_next wr w.heap.size j (by rw [hS, HI.out]; unfold posOf; rw [if_neg (by omega)]) hj
      rw [hS] at hnx
      have HI2 : Hid ((wr.iterAt w.heap.size S (posOf (j + 1))).heap[w.heap.size]? = some (.stringIter S (posOf (j + 1)))) := Lib.iterAt_heap _ _ _ _ _ HI.out
      have HB2 : Hid (Below w.heap.size w (wr.iterAt w.heap.size S (posOf (j + 1)))) := Lib.below_iterAt HB.out (Nat.le_refl _) _ _
      have HT : Hid (specials.take (j + 1) = specials.take j ++ [specials.getD j 0]) := by
        have hl : j < specials.length := hj
        rw [show specials.getD j 0 = specials[j] by simp [List.getD, hl]]
        exact List.take_succ_eq_append_getElem hl
      have HM : Hid (specials.getD j 0 ∈ specials) := by
        have hl : j < specials.length := hj
        rw [show specials.getD j 0 = specials[j] by simp [List.getD, hl]]
        exact List.getElem_mem hl
      generalize specials.getD j 0 = c at *
      generalize hW : wr.iterAt w.heap.size S (posOf (j + 1)) = W at *
      have HW := Lib.hid hW
      clear hW hS
      by_cases hc : c = r
      · subst hc
        go_wp2
        go_ret
        exact ⟨by rw [show isSpec c = true by simpa [isSpec] using HM.out]; rfl, HB2.out⟩
      · have hcb : (c == r) = false := by simpa using hc
        have HC2 : Hid ((specials.take (j + 1)).contains r = false) := by
          have := HC.out
          rw [HT.out]
          simp at this ⊢
          exact ⟨this, fun e => hc e.symm⟩
        clear hc
        go_wp2
        go_roundg (21 - j)
        case measure => have := HK.out; omega
        case rel => exact ⟨j + 1, by show _ = _; omega, hj, HI2, HC2, HB2⟩
    · have hj2 : j = 22 := by have := HJ.out; omega
      subst hj2
      have hnx := Lib.run_next_end_at (P := Try.prog) wr w.heap.size S (posOf 22) 0 HI.out (by rw [hsz]; decide)
      have HE : Hid (isSpec r = false) := HC.out
      clear hj hS
      go_wp2
      go_ret
      exact ⟨by rw [HE.out]; rfl, HB.out⟩

set_option maxHeartbeats 400000 in
theorem isSpecial_any (w : World) (r : Int) :
    Calls Try.prog 50 #[.int .i32 r] w fun e w' => e = .returned (.bool (isSpec r)) ∧ w.grownBy w' none := by
  have C : Calls Try.prog 70 #[.string ⟨#[35, 48, 49, 50, 51, 52, 53, 54, 55, 56, 57, 64, 44, 46, 59, 42, 37, 45, 43, 39, 69, 194, 164]⟩, .int .i32 r] w _ := hasRune_any w r
  have C := Lib.hid C
  go_enter Try.func50, Try.ntmps50
  go_wp2_with (go_at_call 70; refine (C.out).mono ?_; rintro e w' ⟨rfl, hb⟩; have HB := Lib.hid hb; clear hb)
  go_ret
  exact ⟨rfl, none_of_below HB.out⟩
end Go.Proofs.Ytdbcdgojbegakaa
