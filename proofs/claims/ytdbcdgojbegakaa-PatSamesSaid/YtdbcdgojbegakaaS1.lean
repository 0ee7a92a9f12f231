/-
The signs' map: made, and looked up in.
-/
import Derived.Test.YtdbcdgojbegakaaB
import Derived.MapKept
namespace Go.Proofs.Ytdbcdgojbegakaa
open Go.RowKit

theorem und78 : Try.prog.underlying 78 = some (.map 21 3) := by kernel_rfl

def ent (k v : Int) (n : Nat) : MapEntry := { key := .int .i32 k, val := .int .i64 v, born := n }
def signEs : Array MapEntry := #[ent 45 1 0, ent 43 2 1, ent 37 3 2, ent 164 4 3]

theorem run_ins (w : World) (es : Array MapEntry) (c : Nat) (k v : Int) (hn : Instr.findNow (.int .i32) (.int .i32 k) es.toList 0 = some none) :
    (Instr.mapUpdate 78 (.map (some w.heap.size)) (.int .i32 k) (.int .i64 v)).run Try.prog (w.alloc (.map es c)) = .ok () (w.alloc (.map (es.push (ent k v c)) (c + 1))) := by
  have hh : (w.alloc (.map es c)).heap[w.heap.size]? = some (.map es c) := heap_alloc_new w _
  have hck := fun W => MapKept.run_checkKey (P := Try.prog) (w := W) (kt := 21) (k := .int .i32 k) Try.underlying21 (by simp [MapKept.IsKey]) false 9999
  have hfk := fun W => MapKept.run_findKey (P := Try.prog) (w := W) Try.underlying21 hn
  simp only [Instr.mapUpdate, Sem.run_bind, run_underlying und78, Result.andThen_ok, MapKept.run_getObj_map hh, hck, hfk, MapKept.run_setObj_map _ hh]
  refine congrArg (Result.ok ()) ?_
  show World.mk _ _ _ _ _ = World.mk _ _ _ _ _
  congr 1
  show (w.heap.push _).setIfInBounds w.heap.size _ = w.heap.push _
  apply Array.ext'
  simp [List.set_append_right, ent]

set_option maxHeartbeats 400000 in
theorem signs_any (w : World) :
    Calls Try.prog 48 #[] w fun e w' => e = .returned (.map (some w.heap.size)) ∧ w' = w.alloc (.map signEs 4) := by
  have hmm := @run_makeMap Try.prog
  have h1 := run_ins w #[] 0 45 1 rfl
  have h2 := run_ins w #[ent 45 1 0] 1 43 2 rfl
  have h3 := run_ins w #[ent 45 1 0, ent 43 2 1] 2 37 3 rfl
  have h4 := run_ins w #[ent 45 1 0, ent 43 2 1, ent 37 3 2] 3 164 4 rfl
  go_enter Try.func48, Try.ntmps48
  go_wp2
  go_ret
  exact ⟨rfl, rfl⟩

/-- The look-up: the kind, and whether the rune is a sign. -/
theorem run_sign (w : World) (g : Nat) (c : Int) (hg : w.heap[g]? = some (.map signEs 4)) :
    (Instr.lookup 78 (.map (some g)) (.int .i32 c) true).run Try.prog w = .ok (.tuple #[.int .i64 (signOf c), .bool (signOf c != 0)]) w := by
  have hck := fun em => MapKept.run_checkKey (P := Try.prog) (w := w) (kt := 21) (k := .int .i32 c) Try.underlying21 (by simp [MapKept.IsKey]) em 9999
  have hz : (zeroValue 3).run Try.prog w = .ok (.int .i64 0) w := by kernel_rfl
  have hn : ∀ r, Instr.findNow (.int .i32) (.int .i32 c) signEs.toList 0 = some r → (Instr.findKey 21 (.int .i32 c) signEs.toList).run Try.prog w = .ok r w := fun r h => MapKept.run_findKey Try.underlying21 h
  simp only [Instr.lookup, Sem.run_bind, run_underlying und78, Result.andThen_ok, MapKept.run_getObj_map hg, hck, Sem.run_pure]
  by_cases h1 : c = 45
  · subst h1
    rw [hn (some (0, .int .i64 1)) rfl]; rfl
  by_cases h2 : c = 43
  · subst h2
    rw [hn (some (1, .int .i64 2)) rfl]; rfl
  by_cases h3 : c = 37
  · subst h3
    rw [hn (some (2, .int .i64 3)) rfl]; rfl
  by_cases h4 : c = 164
  · subst h4
    rw [hn (some (3, .int .i64 4)) rfl]; rfl
  have b1 : (c == 45) = false := by simpa using h1
  have b2 : (c == 43) = false := by simpa using h2
  have b3 : (c == 37) = false := by simpa using h3
  have b4 : (c == 164) = false := by simpa using h4
  rw [hn none (by simp only [signEs, ent, Instr.findNow, Instr.sameNow, if_true, b1, b2, b3, b4])]
  simp [signOf, h1, h2, h3, h4, hz, Result.andThen]
end Go.Proofs.Ytdbcdgojbegakaa
