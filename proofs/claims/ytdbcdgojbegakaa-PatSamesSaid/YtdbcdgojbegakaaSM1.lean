/-
pat.small's helpers: its two closures, IndexFunc, ContainsFunc, Grow, Concat.
-/
import Derived.Test.YtdbcdgojbegakaaP1
import Derived.Test.YtdbcdgojbegakaaU1
import Derived.Lib.SliceRun
import Derived.Lib.AppendZerosOnto
namespace Go.Proofs.Ytdbcdgojbegakaa
open Go.RowKit

def badN (n : Int) : Bool := decide (n < 0) || decide (40 < n)
theorem bad_num (n : Int) (w : World) : Calls Try.prog 42 #[.int .i64 n] w fun e w' => e = .returned (.bool (badN n)) ∧ w' = w := by
  by_cases h : n < 0
  · have HB : Hid (badN n = true) := by simp [Hid, badN, h]
    have h2 : decide (n < 0) = true := by simpa using h
    clear h
    go_enter Try.func42, Try.ntmps42
    go_wp2
    go_ret
    exact ⟨by rw [HB.out]; rfl, rfl⟩
  · have HB : Hid (badN n = decide (40 < n)) := by simp [Hid, badN, h]
    have h2 : decide (n < 0) = false := by simpa using h
    clear h
    go_enter Try.func42, Try.ntmps42
    go_wp2
    go_ret
    exact ⟨by rw [HB.out]; rfl, rfl⟩

theorem bad_tok (t : Tk) (w : World) : Calls Try.prog 46 #[.agg #[.int .i64 t.kind, .int .i32 t.r]] w fun e w' => e = .returned (.bool (!isRune t.r)) ∧ w.grownBy w' none := by
  have C := Lib.hid (is_rune t.r)
  have e1 : (w.alloc (.cells #[.int .i64 t.kind, .int .i32 t.r] 34)).cell? ⟨w.heap.size, 1, none⟩ = some (.int .i32 t.r) := (Blk.new w 34 _).cell 1
  go_enter Try.func46, Try.ntmps46
  go_wp2_with (go_at_call 43; refine (C.out _).mono ?_; rintro e w1 ⟨rfl, rfl⟩)
  go_ret
  exact ⟨rfl, only_alloc (only_refl _ _) _⟩

theorem run_loop_any {α : Type} (f : α → Bool) (l : List α) (k : Nat) (h : (l.take k).any f = false) : l.any f = (l.drop k).any f := by
  conv => lhs; rw [← List.take_append_drop k l]
  rw [List.any_append, h, Bool.false_or]

set_option maxHeartbeats 1000000 in
theorem index_num (w : World) (ad : Addr) (gs : List Int) (cap : Nat) (hl : gs.length ≤ 100) (hc : ∀ i x, gs[i]? = some x → w.cell? (ad.add i) = some (.int .i64 x)) :
    Calls Try.prog 66 #[.slice (some ad) gs.length cap, .func (.func 42) #[] #[]] w fun e w' => (∃ x : Int, e = .returned (.int .i64 x) ∧ decide (0 ≤ x) = gs.any badN) ∧ w' = w := by
  have HC := Lib.hid hc
  have CB := Lib.hid bad_num
  clear hc
  go_enter Try.func66, Try.ntmps66
  go_wp2_with fail
  go_loopg [8] gs.length (fun kq v8 wr => ∃ k : Nat, v8 = .int .i64 k ∧ Hid (kq + k = gs.length) ∧ Hid ((gs.take k).any badN = false) ∧ wr = w)
  case atStart => exact ⟨0, rfl, rfl, by simp [Hid], rfl⟩
  case round =>
    obtain ⟨k, rfl, HK, HE, rfl⟩ := hrel
    by_cases hk : k < gs.length
    · have d1 := HC.out k gs[k] (List.getElem?_eq_getElem hk)
      have hk2 : (k : Int) < (gs.length : Int) := by omega
      cases hb : badN gs[k] with
      | false =>
        have HE2 : Hid ((gs.take (k + 1)).any badN = false) := by
          rw [Hid, List.take_add_one, List.any_append, HE.out, List.getElem?_eq_getElem hk]; simp [hb]
        go_wp2_with (go_at_call 42; refine (CB.out gs[k] _).mono ?_; rintro e w1 ⟨rfl, rfl⟩)
        go_roundg (gs.length - (k + 1))
        case measure => have := HK.out; omega
        case rel => exact ⟨k + 1, by simp, by show _ = _; omega, HE2, rfl⟩
      | true =>
        have HF : Hid (gs.any badN = true) := List.any_eq_true.2 ⟨gs[k], List.getElem_mem hk, hb⟩
        go_wp2_with (go_at_call 42; refine (CB.out gs[k] _).mono ?_; rintro e w1 ⟨rfl, rfl⟩)
        go_ret
        exact ⟨⟨k, rfl, by rw [HF.out]; simp⟩, rfl⟩
    · have HF : Hid (gs.any badN = false) := by
        have := HE.out
        rwa [show k = gs.length by have := HK.out; omega, List.take_length] at this
      have hk2 : ¬ ((k : Int) < (gs.length : Int)) := by omega
      go_wp2_with fail
      go_ret
      exact ⟨⟨-1, rfl, by rw [HF.out]; rfl⟩, rfl⟩

set_option maxHeartbeats 1000000 in
theorem index_tok (w : World) (v : Value) (ts : List Tk) (h : TL w v ts) (hl : ts.length ≤ 2000) :
    Calls Try.prog 67 #[v, .func (.func 46) #[] #[]] w fun e w' => (∃ x : Int, e = .returned (.int .i64 x) ∧ decide (0 ≤ x) = ts.any fun t => !isRune t.r) ∧ w.grownBy w' none := by
  obtain ⟨A, cap, rfl, hT, -⟩ := h
  have HC := Lib.hid hT
  have CB := Lib.hid bad_tok
  clear hT
  go_enter Try.func67, Try.ntmps67
  go_wp2_with fail
  go_loopg [8] ts.length (fun kq v8 wr => ∃ k : Nat, v8 = .int .i64 k ∧ Hid (kq + k = ts.length) ∧ Hid ((ts.take k).any (fun t => !isRune t.r) = false) ∧ Hid (w.grownBy wr none))
  case atStart => exact ⟨0, rfl, rfl, by simp [Hid], only_refl _ _⟩
  case round =>
    obtain ⟨k, rfl, HK, HE, HG⟩ := hrel
    by_cases hk : k < ts.length
    · obtain ⟨ad, rfl, c1, c2⟩ := HC.out k ts[k] (List.getElem?_eq_getElem hk)
      have d1 := HG.out.cell c1 (by simp)
      have d2 := HG.out.cell c2 (by simp)
      rw [← add_of_add, show ∀ x : Addr, x.add 1 = ⟨x.block, x.off + 1, none⟩ from fun x => by simp [Addr.add]] at d2
      have hk2 : (k : Int) < (ts.length : Int) := by omega
      clear c1 c2
      cases hb : isRune ts[k].r with
      | true =>
        have HE2 : Hid ((ts.take (k + 1)).any (fun t => !isRune t.r) = false) := by
          rw [Hid, List.take_add_one, List.any_append, HE.out, List.getElem?_eq_getElem hk]; simp [hb]
        go_wp2_with (go_at_call 46; refine (CB.out ts[k] _).mono ?_; rintro e w1 ⟨rfl, hg⟩; have HG1 := Lib.hid (only_trans HG.out hg); clear hg)
        go_roundg (ts.length - (k + 1))
        case measure => have := HK.out; omega
        case rel => exact ⟨k + 1, by simp, by show _ = _; omega, HE2, HG1⟩
      | false =>
        have HF : Hid (ts.any (fun t => !isRune t.r) = true) := List.any_eq_true.2 ⟨ts[k], List.getElem_mem hk, by simp [hb]⟩
        go_wp2_with (go_at_call 46; refine (CB.out ts[k] _).mono ?_; rintro e w1 ⟨rfl, hg⟩; have HG1 := Lib.hid (only_trans HG.out hg); clear hg)
        go_ret
        exact ⟨⟨k, rfl, by rw [HF.out]; simp⟩, HG1.out⟩
    · have HF : Hid (ts.any (fun t => !isRune t.r) = false) := by
        have := HE.out
        rwa [show k = ts.length by have := HK.out; omega, List.take_length] at this
      have hk2 : ¬ ((k : Int) < (ts.length : Int)) := by omega
      go_wp2_with fail
      go_ret
      exact ⟨⟨-1, rfl, by rw [HF.out]; rfl⟩, HG.out⟩

theorem has_num (w : World) (ad : Addr) (gs : List Int) (cap : Nat) (hl : gs.length ≤ 100) (hc : ∀ i x, gs[i]? = some x → w.cell? (ad.add i) = some (.int .i64 x)) :
    Calls Try.prog 41 #[.slice (some ad) gs.length cap, .func (.func 42) #[] #[]] w fun e w' => e = .returned (.bool (gs.any badN)) ∧ w' = w := by
  have C := Lib.hid (index_num w ad gs cap hl hc)
  clear hc
  go_enter Try.func41, Try.ntmps41
  go_wp2_with (go_at_call 66; refine C.out.mono ?_; rintro e w1 ⟨⟨x, rfl, hx⟩, rfl⟩; have HX := Lib.hid hx; clear hx)
  go_ret
  exact ⟨by rw [← HX.out]; rfl, rfl⟩
theorem has_tok (w : World) (v : Value) (ts : List Tk) (h : TL w v ts) (hl : ts.length ≤ 2000) :
    Calls Try.prog 44 #[v, .func (.func 46) #[] #[]] w fun e w' => e = .returned (.bool (ts.any fun t => !isRune t.r)) ∧ w.grownBy w' none := by
  have C := Lib.hid (index_tok w v ts h hl)
  clear h
  go_enter Try.func44, Try.ntmps44
  go_wp2_with (go_at_call 67; refine C.out.mono ?_; rintro e w1 ⟨⟨x, rfl, hx⟩, hg⟩; have HX := Lib.hid hx; have HG := Lib.hid hg; clear hx hg)
  go_ret
  exact ⟨by rw [← HX.out]; rfl, HG.out⟩
end Go.Proofs.Ytdbcdgojbegakaa
