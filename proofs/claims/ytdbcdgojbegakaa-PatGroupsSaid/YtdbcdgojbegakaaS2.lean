/-
The signs' map: made, and looked up in.
Is a rune special: a range over the text of all special runes.
-/
import Derived.Test.YtdbcdgojbegakaaB
import Derived.MapKept
import Derived.Lib.OthersKept
namespace Go.Proofs.Ytdbcdgojbegakaa
open Go.RowKit

theorem und78 : Try.prog.underlying 78 = some (.map 21 3) := by kernel_rfl

def ent (k v : Int) (n : Nat) : MapEntry := { key := .int .i32 k, val := .int .i64 v, born := n }
def signEs : Array MapEntry := #[ent 45 1 0, ent 43 2 1, ent 37 3 2, ent 164 4 3]

theorem run_ins (w : World) (es : Array MapEntry) (c : Nat) (k v : Int) (hn : Instr.findNow (.int .i32) (.int .i32 k) es.toList 0 = some none) :
    (Instr.mapUpdate 78 (.map (some w.heap.size)) (.int .i32 k) (.int .i64 v)).run Try.prog (w.alloc (.map es c)) = .ok () (w.alloc (.map (es.push (ent k v c)) (c + 1))) := by
  have hh : (w.alloc (.map es c)).heap[w.heap.size]? = some (.map es c) := heap_alloc_new w _
  have hck := fun W => MapKept.run_checkKey (P := Try.prog) (w := W) (kt := 21) (k := .int .i32 k) Try.underlying21 (by simp [MapKept.IsKey]) false 9999
  have hfk := fun W => MapKept.run_findKey (P := Try.prog) (w := W) Try.underlying21 hn
  simp only [Instr.mapUpdate, Sem.run_bind, run_underlying und78, Result.andThen_ok, MapKept.run_getObj_map hh, hck, hfk, MapKept.run_setObj_map _ hh]
  refine congrArg (Result.ok ()) ?_
  show World.mk _ _ _ _ _ = World.mk _ _ _ _ _
  congr 1
  show (w.heap.push _).setIfInBounds w.heap.size _ = w.heap.push _
  apply Array.ext'
  simp [List.set_append_right, ent]

set_option maxHeartbeats 400000 in
theorem signs_any (w : World) :
    Calls Try.prog 48 #[] w fun e w' => e = .returned (.map (some w.heap.size)) ∧ w' = w.alloc (.map signEs 4) := by
  have hmm := @run_makeMap Try.prog
  have h1 := run_ins w #[] 0 45 1 rfl
  have h2 := run_ins w #[ent 45 1 0] 1 43 2 rfl
  have h3 := run_ins w #[ent 45 1 0, ent 43 2 1] 2 37 3 rfl
  have h4 := run_ins w #[ent 45 1 0, ent 43 2 1, ent 37 3 2] 3 164 4 rfl
  go_enter Try.func48, Try.ntmps48
  go_wp2
  go_ret
  exact ⟨rfl, rfl⟩

/-- The look-up: the kind, and whether the rune is a sign. -/
theorem run_sign (w : World) (g : Nat) (c : Int) (hg : w.heap[g]? = some (.map signEs 4)) :
    (Instr.lookup 78 (.map (some g)) (.int .i32 c) true).run Try.prog w = .ok (.tuple #[.int .i64 (signOf c), .bool (signOf c != 0)]) w := by
  have hck := fun em => MapKept.run_checkKey (P := Try.prog) (w := w) (kt := 21) (k := .int .i32 c) Try.underlying21 (by simp [MapKept.IsKey]) em 9999
  have hz : (zeroValue 3).run Try.prog w = .ok (.int .i64 0) w := by kernel_rfl
  have hn : ∀ r, Instr.findNow (.int .i32) (.int .i32 c) signEs.toList 0 = some r → (Instr.findKey 21 (.int .i32 c) signEs.toList).run Try.prog w = .ok r w := fun r h => MapKept.run_findKey Try.underlying21 h
  simp only [Instr.lookup, Sem.run_bind, run_underlying und78, Result.andThen_ok, MapKept.run_getObj_map hg, hck, Sem.run_pure]
  by_cases h1 : c = 45
  · subst h1
    rw [hn (some (0, .int .i64 1)) rfl]; rfl
  by_cases h2 : c = 43
  · subst h2
    rw [hn (some (1, .int .i64 2)) rfl]; rfl
  by_cases h3 : c = 37
  · subst h3
    rw [hn (some (2, .int .i64 3)) rfl]; rfl
  by_cases h4 : c = 164
  · subst h4
    rw [hn (some (3, .int .i64 4)) rfl]; rfl
  have b1 : (c == 45) = false := by simpa using h1
  have b2 : (c == 43) = false := by simpa using h2
  have b3 : (c == 37) = false := by simpa using h3
  have b4 : (c == 164) = false := by simpa using h4
  rw [hn none (by simp only [signEs, ent, Instr.findNow, Instr.sameNow, if_true, b1, b2, b3, b4])]
  simp [signOf, h1, h2, h3, h4, hz, Result.andThen]
end Go.Proofs.Ytdbcdgojbegakaa
namespace Go.Proofs.Ytdbcdgojbegakaa
open Go.RowKit

def specStr : ByteArray := ⟨#[35, 48, 49, 50, 51, 52, 53, 54, 55, 56, 57, 64, 44, 46, 59, 42, 37, 45, 43, 39, 69, 194, 164]⟩
theorem specStr_size : specStr.size = 23 := rfl
theorem spec_decode : ∀ j : Fin 22, Utf8.decode specStr j.val = ((specials.getD j.val 0).toNat, if j.val = 21 then 2 else 1) := by decide +kernel

def posOf (j : Nat) : Nat := if j = 22 then 23 else j

theorem spec_nat : ∀ j : Fin 22, (((specials.getD j.val 0).toNat : Nat) : Int) = specials.getD j.val 0 := by decide

theorem spec_next (w : World) (g j : Nat) (hk : w.heap[g]? = some (.stringIter specStr j)) (hj : j < 22) :
    (Instr.next (.pointer (some ⟨g, 0, none⟩)) true 0).run Try.prog w = .ok (.tuple #[.bool true, .int .i64 j, .int .i32 (specials.getD j 0)]) (w.iterAt g specStr (posOf (j + 1))) := by
  rw [Lib.run_next_any_at w g specStr j 0 hk (by rw [specStr_size]; omega), spec_decode ⟨j, hj⟩]
  simp only [spec_nat ⟨j, hj⟩]
  unfold posOf
  by_cases h : j = 21
  · subst h; rfl
  · rw [if_neg h, if_neg (by omega)]

set_option maxHeartbeats 400000 in
theorem hasRune_any (w : World) (r : Int) :
    Calls Try.prog 70 #[.string specStr, .int .i32 r] w fun e w' => e = .returned (.bool (isSpec r)) ∧ Below w.heap.size w w' := by
  have hsz := specStr_size
  generalize hS : specStr = S at *
  go_enter Try.func70, Try.ntmps70
  go_wp2_with fail
  go_loopg [6] 22 (fun kq _ wr => ∃ j : Nat, Hid (kq = 22 - j) ∧ Hid (j ≤ 22) ∧ Hid (wr.heap[w.heap.size]? = some (.stringIter S (posOf j))) ∧ Hid ((specials.take j).contains r = false) ∧ Hid (Below w.heap.size w wr))
  case atStart => exact ⟨0, rfl, Nat.zero_le _, World.iter_heap _ _ _, rfl, (Below.refl _ _).alloc (Nat.le_refl _) _⟩
  case round =>
    obtain ⟨j, HK, HJ, HI, HC, HB⟩ := hrel
    by_cases hj : j < 22
    · have hnx := spec_next wr w.heap.size j (by rw [hS, HI.out]; unfold posOf; rw [if_neg (by omega)]) hj
      rw [hS] at hnx
      have HI2 : Hid ((wr.iterAt w.heap.size S (posOf (j + 1))).heap[w.heap.size]? = some (.stringIter S (posOf (j + 1)))) := Lib.iterAt_heap _ _ _ _ _ HI.out
      have HB2 : Hid (Below w.heap.size w (wr.iterAt w.heap.size S (posOf (j + 1)))) := Lib.below_iterAt HB.out (Nat.le_refl _) _ _
      have HT : Hid (specials.take (j + 1) = specials.take j ++ [specials.getD j 0]) := by
        have hl : j < specials.length := hj
        rw [show specials.getD j 0 = specials[j] by simp [List.getD, hl]]
        exact List.take_succ_eq_append_getElem hl
      have HM : Hid (specials.getD j 0 ∈ specials) := by
        have hl : j < specials.length := hj
        rw [show specials.getD j 0 = specials[j] by simp [List.getD, hl]]
        exact List.getElem_mem hl
      generalize specials.getD j 0 = c at *
      generalize hW : wr.iterAt w.heap.size S (posOf (j + 1)) = W at *
      have HW := Lib.hid hW
      clear hW hS
      by_cases hc : c = r
      · subst hc
        go_wp2
        go_ret
        exact ⟨by rw [show isSpec c = true by simpa [isSpec] using HM.out]; rfl, HB2.out⟩
      · have hcb : (c == r) = false := by simpa using hc
        have HC2 : Hid ((specials.take (j + 1)).contains r = false) := by
          have := HC.out
          rw [HT.out]
          simp at this ⊢
          exact ⟨this, fun e => hc e.symm⟩
        clear hc
        go_wp2
        go_roundg (21 - j)
        case measure => have := HK.out; omega
        case rel => exact ⟨j + 1, by show _ = _; omega, hj, HI2, HC2, HB2⟩
    · have hj2 : j = 22 := by have := HJ.out; omega
      subst hj2
      have hnx := Lib.run_next_end_at (P := Try.prog) wr w.heap.size S (posOf 22) 0 HI.out (by rw [hsz]; decide)
      have HE : Hid (isSpec r = false) := HC.out
      clear hj hS
      go_wp2
      go_ret
      exact ⟨by rw [HE.out]; rfl, HB.out⟩

set_option maxHeartbeats 400000 in
theorem isSpecial_any (w : World) (r : Int) :
    Calls Try.prog 50 #[.int .i32 r] w fun e w' => e = .returned (.bool (isSpec r)) ∧ w.grownBy w' none := by
  have C : Calls Try.prog 70 #[.string ⟨#[35, 48, 49, 50, 51, 52, 53, 54, 55, 56, 57, 64, 44, 46, 59, 42, 37, 45, 43, 39, 69, 194, 164]⟩, .int .i32 r] w _ := hasRune_any w r
  have C := Lib.hid C
  go_enter Try.func50, Try.ntmps50
  go_wp2_with (go_at_call 70; refine (C.out).mono ?_; rintro e w' ⟨rfl, hb⟩; have HB := Lib.hid hb; clear hb)
  go_ret
  exact ⟨rfl, none_of_below HB.out⟩
end Go.Proofs.Ytdbcdgojbegakaa
