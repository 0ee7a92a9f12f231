/-
The pattern reader's read: the whole, its panics recovered.
-/
import Derived.Test.YtdbcdgojbegakaaR9
import Derived.Tactics
import Derived.Tactics2
import Derived.Defers
import Derived.Recover
import Derived.Laws.Pointers
namespace Go.Proofs.Ytdbcdgojbegakaa
open Go.RowKit

theorem catch_panicking (p q : Addr) (hpq : p ≠ q) (x : Int) (y : Int) (b : Bool) (w : World) (hc : w.cell? p = some (.int .i64 y)) (hz : w.frozen? p = false) (hd : w.cell? q = some (.bool b)) (hy : w.frozen? q = false) :
    CallsD Try.prog 59 #[.pointer (some p), .pointer (some q)] (.panicking [{ v := .iface 62 (.int .i64 x), recovered := false }]) w fun e u' w' =>
      e = .returned (.tuple #[]) ∧ u' = .panicking [{ v := .iface 62 (.int .i64 x), recovered := true }] ∧ w' = (w.setCell p (.int .i64 x)).setCell q (.bool false) := by
  have hta : ∀ w : World, (Instr.typeAssert (.iface 62 (.int .i64 x)) 20 62 false).run Try.prog w = .ok (.int .i64 x) w := fun w => by kernel_rfl
  have hne : ∀ w : World, (binOp .neq 20 (.iface 62 (.int .i64 x)) .nilIface).run Try.prog w = .ok (.bool true) w := fun w => by kernel_rfl
  refine callsD_of_wpS Try.func59 rfl fun c₀ cs hu => ?_
  apply wpS_seq
  apply wpS_region
  simp [wpOpsS, go_sem, recoverD, hu, Try.ntmps59, Exit.thenS]
  rw [show #[Value.pointer (some p), Value.pointer (some q)] ++ ((Array.replicate 6 undef).setIfInBounds 1 (Value.iface 62 (Value.int IntKind.i64 x))).setIfInBounds 0 (Value.iface 62 (Value.int IntKind.i64 x)) =
    #[.pointer (some p), .pointer (some q), .iface 62 (.int .i64 x), .iface 62 (.int .i64 x), undef, undef, undef, undef] from rfl]
  apply wpS_seq
  apply wpS_region
  simp [wpOpsS, go_sem, hne, Exit.thenS]
  refine wpS_cond (t := true) (by rfl) ?_
  simp only [if_true]
  apply wpS_region
  have hd2 : (w.setCell p (.int .i64 x)).cell? q = some (.bool b) := (World.cell?_setCell_other w p q _ hpq).trans hd
  simp [wpOpsS, go_sem, hta, hc, hz, hd2, hy, bodyPostS, results, Try.results59]

theorem catch_idle (p q : Addr) (w : World) :
    CallsD Try.prog 59 #[.pointer (some p), .pointer (some q)] .returning w fun e u' w' => e = .returned (.tuple #[]) ∧ u' = .returning ∧ w' = w := by
  have hne : ∀ w : World, (binOp .neq 20 .nilIface .nilIface).run Try.prog w = .ok (.bool false) w := fun w => by kernel_rfl
  refine callsD_of_wpS Try.func59 rfl fun c₀ cs hu => ?_
  apply wpS_seq
  apply wpS_region
  simp [wpOpsS, go_sem, recoverD, hu, Try.ntmps59, Exit.thenS]
  rw [show #[Value.pointer (some p), Value.pointer (some q)] ++ ((Array.replicate 6 undef).setIfInBounds 1 Value.nilIface).setIfInBounds 0 Value.nilIface =
    #[.pointer (some p), .pointer (some q), .nilIface, .nilIface, undef, undef, undef, undef] from rfl]
  apply wpS_seq
  apply wpS_region
  simp [wpOpsS, go_sem, hne, Exit.thenS]
  refine wpS_cond (t := false) (by rfl) ?_
  simp only [Bool.false_eq_true, if_false]
  refine wpS_of_wp (wp_skip ?_)
  cases c₀
  simp_all [bodyPostS, results, Try.results59]

section
variable {w : World} {rb : Nat} {A : Option Addr} {cap : Nat} {l : List Int}

/-- What the read comes to. -/
def RPost (B rb : Nat) (A : Option Addr) (cap : Nat) (l : List Int) (o : Option Pt) (e : Ending) (w' : World) : Prop :=
  match o with
  | none => ∃ x : Int, e = .returned (.tuple #[.int .i64 x, .bool false])
  | some p => e = .returned (.tuple #[.int .i64 0, .bool true]) ∧ ∃ k v1 v2 v3 v4, Rd w' rb A cap l ⟨k, v1, v2, v3, v4, p.neg, p.nm, p.pad, p.padAt⟩ ∧ OwnT w' B v1 p.pre ∧ OwnT w' B v2 p.suf ∧ OwnT w' B v3 p.npre ∧ OwnT w' B v4 p.nsuf

set_option maxHeartbeats 800000 in
theorem read_any (h : Rd w rb A cap l ⟨0, .slice none 0 0, .slice none 0 0, .slice none 0 0, .slice none 0 0, false, zNm, 0, 0⟩) (hcap : l.length ≤ cap) :
    Calls Try.prog 36 #[.pointer (some ⟨rb, 0, none⟩)] w fun e w' =>
      RPost w.heap.size rb A cap l (wholeL l) e w' ∧ w.grownBy w' (some rb) := by
  have hmf : ∀ (fn : Fn) (first cap : Array Value) (w : World), (Instr.makeFunc fn first cap).run Try.prog w = .ok (.func fn first cap) w := fun _ _ _ _ => rfl
  have C0 := whole_any ((h.alloc (.cells #[.int .i64 0] 62)).alloc (.cells #[.bool false] 4)) hcap
  have HB1 : Hid (Blk ((w.alloc (.cells #[.int .i64 0] 62)).alloc (.cells #[.bool false] 4)) w.heap.size 62 #[.int .i64 0]) := (Blk.new w 62 _).alloc _
  have HB2 : Hid (Blk ((w.alloc (.cells #[.int .i64 0] 62)).alloc (.cells #[.bool false] 4)) (w.heap.size + 1) 4 #[.bool false]) := by
    have := Blk.new (w.alloc (.cells #[.int .i64 0] 62)) 4 #[.bool false]
    rw [show (w.alloc (.cells #[.int .i64 0] 62)).heap.size = w.heap.size + 1 by simp] at this
    exact this
  have HRB := Lib.hid h.lt
  have G0 : Hid (w.grownBy ((w.alloc (.cells #[.int .i64 0] 62)).alloc (.cells #[.bool false] 4)) (some rb)) := only_alloc (only_alloc (only_refl w _) _) _
  have HSZ : Hid (((w.alloc (.cells #[.int .i64 0] 62)).alloc (.cells #[.bool false] 4)).heap.size = w.heap.size + 2) := by simp [Hid]
  cases hw : wholeL l with
  | none =>
    rw [hw] at C0
    have C := Lib.hid C0
    clear C0 hw h
    go_enter_defers Try.func36, Try.ntmps36
    go_wp2_with fail
    refine C.out.mono ?_
    rintro e W ⟨⟨x, rfl⟩, hg⟩
    have G1 := Lib.hid hg
    clear hg
    go_wp2_with fail
    have e1 := HB1.out.grown G1.out (by have := HRB.out; intro e; injection e; omega)
    have e2 := HB2.out.grown G1.out (by have := HRB.out; intro e; injection e; omega)
    refine leaves_cons (f := 59) (args := #[.pointer (some ⟨w.heap.size, 0, none⟩), .pointer (some ⟨w.heap.size + 1, 0, none⟩)]) (by simp) (by simp [go_sem]) ?_
    refine (catch_panicking ⟨w.heap.size, 0, none⟩ ⟨w.heap.size + 1, 0, none⟩ (by simp) x 0 false _ (e1.cell 0) (e1.frozen 0) (e2.cell 0) (e2.frozen 0)).mono ?_
    rintro e u' w'' ⟨rfl, rfl, rfl⟩
    have b1 : Blk ((W.setCell ⟨w.heap.size, 0, none⟩ (.int .i64 x)).setCell ⟨w.heap.size + 1, 0, none⟩ (.bool false)) w.heap.size 62 #[.int .i64 x] := (e1.set_ 0 (.int .i64 x)).far (p := ⟨w.heap.size + 1, 0, none⟩) (by simp) (.bool false)
    have b2 : Blk ((W.setCell ⟨w.heap.size, 0, none⟩ (.int .i64 x)).setCell ⟨w.heap.size + 1, 0, none⟩ (.bool false)) (w.heap.size + 1) 4 #[.bool false] := (e2.far (p := ⟨w.heap.size, 0, none⟩) (by simp) (.int .i64 x)).set_ 0 (.bool false)
    have G2 : w.grownBy ((W.setCell ⟨w.heap.size, 0, none⟩ (.int .i64 x)).setCell ⟨w.heap.size + 1, 0, none⟩ (.bool false)) (some rb) :=
      only_setCell (p := ⟨w.heap.size + 1, 0, none⟩) (only_setCell (p := ⟨w.heap.size, 0, none⟩) (only_trans G0.out G1.out) (.inr (Nat.le_refl _)) _) (.inr (Nat.le_succ _)) _
    have c1 := b1.cell 0
    have c2 := b2.cell 0
    generalize (W.setCell ⟨w.heap.size, 0, none⟩ (.int .i64 x)).setCell ⟨w.heap.size + 1, 0, none⟩ (.bool false) = W2 at *
    simp only [settle, List.dropWhile_nil]
    refine ⟨.tuple #[.int .i64 x, .bool false], ?_, ⟨x, rfl⟩, G2⟩
    simp at c1 c2
    simp [results, Try.results36, go_sem, c1, c2]
  | some p =>
    rw [hw] at C0
    have C := Lib.hid C0
    clear C0 hw h
    go_enter_defers Try.func36, Try.ntmps36
    go_wp2_with fail
    refine C.out.mono ?_
    rintro e W ⟨⟨rfl, k, v1, v2, v3, v4, hr, o1, o2, o3, o4⟩, hg⟩
    have G1 := Lib.hid hg
    have e1 := HB1.out.grown G1.out (by have := HRB.out; intro e; injection e; omega)
    have e2 := HB2.out.grown G1.out (by have := HRB.out; intro e; injection e; omega)
    have d1 := e1.cell 0
    have d2 := e2.cell 0
    have f1 := e1.frozen 0
    have f2 := e2.frozen 0
    simp at d1 d2
    have E1 := Lib.hid e1
    have E2 := Lib.hid e2
    have R1 := Lib.hid (And.intro hr (And.intro o1 (And.intro o2 (And.intro o3 o4))))
    clear hg e1 e2 hr o1 o2 o3 o4
    go_wp2_with fail
    obtain ⟨hr, o1, o2, o3, o4⟩ := R1.out
    have hs := HSZ.out
    rw [hs] at o1 o2 o3 o4
    have g1 : W.grownBy (W.setCell ⟨w.heap.size, 0, none⟩ (.int .i64 0)) (some w.heap.size) := only_setCell (p := ⟨w.heap.size, 0, none⟩) (only_refl W _) (.inl rfl) _
    have b1 : Blk (W.setCell ⟨w.heap.size, 0, none⟩ (.int .i64 0)) w.heap.size 62 #[.int .i64 0] := E1.out.set_ 0 _
    have b2 : Blk (W.setCell ⟨w.heap.size, 0, none⟩ (.int .i64 0)) (w.heap.size + 1) 4 #[.bool false] := E2.out.far (p := ⟨w.heap.size, 0, none⟩) (by simp) _
    have g2 : (W.setCell ⟨w.heap.size, 0, none⟩ (.int .i64 0)).grownBy ((W.setCell ⟨w.heap.size, 0, none⟩ (.int .i64 0)).setCell ⟨w.heap.size + 1, 0, none⟩ (.bool true)) (some (w.heap.size + 1)) :=
      only_setCell (p := ⟨w.heap.size + 1, 0, none⟩) (only_refl _ _) (.inl rfl) _
    have b3 : Blk ((W.setCell ⟨w.heap.size, 0, none⟩ (.int .i64 0)).setCell ⟨w.heap.size + 1, 0, none⟩ (.bool true)) w.heap.size 62 #[.int .i64 0] := b1.far (p := ⟨w.heap.size + 1, 0, none⟩) (by simp) _
    have b4 : Blk ((W.setCell ⟨w.heap.size, 0, none⟩ (.int .i64 0)).setCell ⟨w.heap.size + 1, 0, none⟩ (.bool true)) (w.heap.size + 1) 4 #[.bool true] := b2.set_ 0 _
    have r2 := (hr.grown g1 (E1.out.far1 (by decide)) (E1.out.far1 (by decide))).grown g2 (b2.far1 (by decide)) (b2.far1 (by decide))
    have p1 := (o1.grown g1 (E1.out.far1 (by decide))).grown g2 (b2.far1 (by decide))
    have p2 := (o2.grown g1 (E1.out.far1 (by decide))).grown g2 (b2.far1 (by decide))
    have p3 := (o3.grown g1 (E1.out.far1 (by decide))).grown g2 (b2.far1 (by decide))
    have p4 := (o4.grown g1 (E1.out.far1 (by decide))).grown g2 (b2.far1 (by decide))
    have G2 := only_new (only_new (only_trans G0.out G1.out) g1 (Nat.le_refl _)) g2 (Nat.le_succ _)
    refine leaves_cons (f := 59) (args := #[.pointer (some ⟨w.heap.size, 0, none⟩), .pointer (some ⟨w.heap.size + 1, 0, none⟩)]) (by simp) (by simp [go_sem]) ?_
    refine (catch_idle ⟨w.heap.size, 0, none⟩ ⟨w.heap.size + 1, 0, none⟩ _).mono ?_
    rintro e u' w'' ⟨rfl, rfl, rfl⟩
    have c1 := b3.cell 0
    have c2 := b4.cell 0
    clear g1 b1 b2 g2 b3 b4 hr o1 o2 o3 o4 R1 E1 E2 d1 d2 f1 f2
    generalize (W.setCell ⟨w.heap.size, 0, none⟩ (.int .i64 0)).setCell ⟨w.heap.size + 1, 0, none⟩ (.bool true) = W2 at *
    simp only [settle]
    refine ⟨.tuple #[.int .i64 0, .bool true], ?_, ⟨rfl, k, v1, v2, v3, v4, r2, p1.mono (by omega), p2.mono (by omega), p3.mono (by omega), p4.mono (by omega)⟩, G2⟩
    simp at c1 c2
    simp [results, Try.results36, go_sem, c1, c2]
end
end Go.Proofs.Ytdbcdgojbegakaa
