/-
Package utf: is it a rune, how many bytes has it, of how many bytes does a first byte tell.
-/
import Derived.Test.YtdbcdgojbegakaaB
import Derived.Lib.RuneBytes
namespace Go.Proofs.Ytdbcdgojbegakaa
open Go.RowKit

set_option maxHeartbeats 800000 in
theorem is_rune (r : Int) (w : World) :
    Calls Try.prog 43 #[.int .i32 r] w fun e w' => e = .returned (.bool (isRune r)) ∧ w' = w := by
  by_cases h1 : 0 ≤ r
  · have b1 : decide (0 ≤ r) = true := by simpa using h1
    by_cases h2 : r ≤ 1114111
    · have b2 : decide (r ≤ 1114111) = true := by simpa using h2
      by_cases h3 : r < 55296
      · have b3 : decide (r < 55296) = true := by simpa using h3
        have HE : Hid (isRune r = true) := by show _ = _; simp [isRune, h1, h2, h3]
        go_enter Try.func43, Try.ntmps43
        go_wp2
        go_ret
        exact ⟨by rw [HE.out]; rfl, rfl⟩
      · have b3 : decide (r < 55296) = false := by simpa using h3
        have HE : Hid (isRune r = decide (57343 < r)) := by show _ = _; simp [isRune, h1, h2, h3]
        go_enter Try.func43, Try.ntmps43
        go_wp2
        go_ret
        exact ⟨by rw [HE.out]; rfl, rfl⟩
    · have b2 : decide (r ≤ 1114111) = false := by simpa using h2
      have HE : Hid (isRune r = false) := by show _ = _; simp [isRune, h2]
      go_enter Try.func43, Try.ntmps43
      go_wp2
      go_ret
      exact ⟨by rw [HE.out]; rfl, rfl⟩
  · have b1 : decide (0 ≤ r) = false := by simpa using h1
    have HE : Hid (isRune r = false) := by show _ = _; simp [isRune, h1]
    go_enter Try.func43, Try.ntmps43
    go_wp2
    go_ret
    exact ⟨by rw [HE.out]; rfl, rfl⟩

def leadV (n : Nat) : Int := if n = 1 then 0 else if n = 2 then 192 else if n = 3 then 224 else if n = 4 then 240 else 248

set_option maxHeartbeats 800000 in
theorem lead_any (n : Nat) (h1 : 1 ≤ n) (h5 : n ≤ 5) (w : World) :
    Calls Try.prog 78 #[.int .i64 n] w fun e w' => e = .returned (.int .u8 (leadV n)) ∧ w' = w := by
  have hn : n = 1 ∨ n = 2 ∨ n = 3 ∨ n = 4 ∨ n = 5 := by omega
  clear h1 h5
  rcases hn with rfl | rfl | rfl | rfl | rfl
  all_goals
    go_enter Try.func78, Try.ntmps78
    go_wp2
    go_ret
    exact ⟨rfl, rfl⟩

set_option maxHeartbeats 800000 in
theorem size_rune (r : Int) (hr : isRune r = true) (w : World) :
    Calls Try.prog 79 #[.int .i32 r] w fun e w' => e = .returned (.int .i64 ((Lib.encodeRuneZ r).length : Nat)) ∧ w' = w := by
  have C := Lib.hid (is_rune r w)
  have hb : 0 ≤ r ∧ r ≤ 1114111 ∧ (r < 55296 ∨ 57343 < r) := by simpa [isRune, and_assoc] using hr
  rw [hr] at C
  clear hr
  obtain ⟨h0, h1, h2⟩ := hb
  by_cases a1 : r < 128
  · have HE : Hid ((Lib.encodeRuneZ r).length = 1) := by rw [Lib.encodeRuneZ_one h0 (by omega)]; rfl
    go_enter Try.func79, Try.ntmps79
    go_wp2_with (go_at_call 43; refine (C.out).mono ?_; rintro e w' ⟨rfl, rfl⟩)
    go_ret
    exact ⟨by rw [HE.out]; rfl, rfl⟩
  by_cases a2 : r < 2048
  · have HE : Hid ((Lib.encodeRuneZ r).length = 2) := by rw [Lib.encodeRuneZ_two (by omega) (by omega)]; rfl
    go_enter Try.func79, Try.ntmps79
    go_wp2_with (go_at_call 43; refine (C.out).mono ?_; rintro e w' ⟨rfl, rfl⟩)
    go_ret
    exact ⟨by rw [HE.out]; rfl, rfl⟩
  by_cases a3 : r < 65536
  · have HE : Hid ((Lib.encodeRuneZ r).length = 3) := by rw [Lib.encodeRuneZ_three (by omega)]; rfl
    go_enter Try.func79, Try.ntmps79
    go_wp2_with (go_at_call 43; refine (C.out).mono ?_; rintro e w' ⟨rfl, rfl⟩)
    go_ret
    exact ⟨by rw [HE.out]; rfl, rfl⟩
  · have HE : Hid ((Lib.encodeRuneZ r).length = 4) := by rw [Lib.encodeRuneZ_four (by omega) (by omega)]; rfl
    go_enter Try.func79, Try.ntmps79
    go_wp2_with (go_at_call 43; refine (C.out).mono ?_; rintro e w' ⟨rfl, rfl⟩)
    go_ret
    exact ⟨by rw [HE.out]; rfl, rfl⟩

theorem lead2 : ∀ w, Calls Try.prog 78 #[.int .i64 2] w fun e w' => e = .returned (.int .u8 192) ∧ w' = w := lead_any 2 (by omega) (by omega)
theorem lead3 : ∀ w, Calls Try.prog 78 #[.int .i64 3] w fun e w' => e = .returned (.int .u8 224) ∧ w' = w := lead_any 3 (by omega) (by omega)
theorem lead4 : ∀ w, Calls Try.prog 78 #[.int .i64 4] w fun e w' => e = .returned (.int .u8 240) ∧ w' = w := lead_any 4 (by omega) (by omega)
theorem lead5 : ∀ w, Calls Try.prog 78 #[.int .i64 5] w fun e w' => e = .returned (.int .u8 248) ∧ w' = w := lead_any 5 (by omega) (by omega)

/-! The bits of a first byte, and of those behind it. -/
theorem bits_and (c : Int) (h0 : 0 ≤ c) (h1 : c < 256) : bits .and .u8 c 224 = c / 32 * 32 ∧ bits .and .u8 c 240 = c / 16 * 16 ∧ bits .and .u8 c 248 = c / 8 * 8 ∧ bits .and .u8 c 63 = c % 64 := by
  have h : ∀ x : Fin 256, bits .and .u8 (x.val : Int) 224 = (x.val : Int) / 32 * 32 ∧ bits .and .u8 (x.val : Int) 240 = (x.val : Int) / 16 * 16 ∧ bits .and .u8 (x.val : Int) 248 = (x.val : Int) / 8 * 8 ∧ bits .and .u8 (x.val : Int) 63 = (x.val : Int) % 64 := by decide +kernel
  have := h ⟨c.toNat, by omega⟩
  simpa [Int.toNat_of_nonneg h0] using this

def sizeV (c : Int) : Nat := if c < 128 then 1 else if c < 224 then 2 else if c < 240 then 3 else 4

set_option maxHeartbeats 1600000 in
theorem size_any (c : Int) (h0 : 0 ≤ c) (h1 : c < 248) (h2 : c < 128 ∨ 192 ≤ c) (w : World) :
    Calls Try.prog 77 #[.int .u8 c] w fun e w' => e = .returned (.int .i64 (sizeV c : Nat)) ∧ w' = w := by
  obtain ⟨a3, a4, a5, _⟩ := bits_and c h0 (by omega)
  go_enter Try.func77, Try.ntmps77
  go_wp2_with fail
  go_loopg [3] 4 (fun kq v3 wr => ∃ n : Int, v3 = .int .i64 n ∧ Hid (kq + n = 5) ∧ Hid (1 ≤ n ∧ n ≤ sizeV c) ∧ wr = w)
  case atStart => exact ⟨1, rfl, rfl, ⟨Int.le_refl _, by unfold sizeV; split <;> (try split) <;> (try split) <;> omega⟩, rfl⟩
  case round =>
    obtain ⟨n, rfl, HK, HN, rfl⟩ := hrel
    have hn : n = 1 ∨ n = 2 ∨ n = 3 ∨ n = 4 := by
      have h3 := HN.out
      have : sizeV c ≤ 4 := by unfold sizeV; split <;> (try split) <;> (try split) <;> omega
      omega
    have hlo : (2 ≤ n → 192 ≤ c) ∧ (3 ≤ n → 224 ≤ c) ∧ (4 ≤ n → 240 ≤ c) := by
      have h3 := HN.out.2
      unfold sizeV at h3
      refine ⟨fun h => ?_, fun h => ?_, fun h => ?_⟩ <;> (split at h3 <;> (try split at h3) <;> (try split at h3) <;> omega)
    rcases hn with rfl | rfl | rfl | rfl
    · by_cases hc : c < 128
      · have HE : Hid (sizeV c = 1) := by show _ = _; unfold sizeV; rw [if_pos hc]
        have hcb : decide (c < 128) = true := by simpa using hc
        clear a3 a4 a5
        go_wp2_with fail
        go_ret
        exact ⟨by rw [HE.out]; rfl, rfl⟩
      · have HE : Hid (((1 + 1 : Int)) ≤ sizeV c) := by show _ ≤ _; unfold sizeV; rw [if_neg hc]; split <;> (try split) <;> omega
        have hcb : decide (c < 128) = false := by simpa using hc
        clear a3 a4 a5
        go_wp2_with fail
        go_roundg (gk - 1)
        case measure => have := HK.out; omega
        case rel => exact ⟨2, rfl, by have := HK.out; show _ = _; omega, ⟨by omega, HE.out⟩, rfl⟩
    · have hc2 := hlo.1 (by omega)
      clear hlo
      by_cases hc : c < 224
      · have HE : Hid (sizeV c = 2) := by show _ = _; unfold sizeV; rw [if_neg (by omega), if_pos hc]
        have hx : (bits .and .u8 c 224 == 192) = true := by rw [a3]; exact beq_iff_eq.2 (by omega)
        clear a3 a4 a5 hc
        go_wp2_with (first | (go_at_call 78; (with_reducible refine (lead3 _).mono ?_); rintro e w' ⟨rfl, rfl⟩) | (go_at_call 78; (with_reducible refine (lead2 _).mono ?_); rintro e w' ⟨rfl, rfl⟩))
        go_ret
        exact ⟨by rw [HE.out]; rfl, rfl⟩
      · have HE : Hid (((2 + 1 : Int)) ≤ sizeV c) := by show _ ≤ _; unfold sizeV; rw [if_neg (by omega), if_neg (by omega)]; split <;> omega
        have hx : (bits .and .u8 c 224 == 192) = false := by rw [a3]; exact beq_eq_false_iff_ne.2 (by omega)
        clear a3 a4 a5
        go_wp2_with (first | (go_at_call 78; (with_reducible refine (lead3 _).mono ?_); rintro e w' ⟨rfl, rfl⟩) | (go_at_call 78; (with_reducible refine (lead2 _).mono ?_); rintro e w' ⟨rfl, rfl⟩))
        go_roundg (gk - 1)
        case measure => have := HK.out; omega
        case rel => exact ⟨3, rfl, by have := HK.out; show _ = _; omega, ⟨by omega, HE.out⟩, rfl⟩
    · have hc2 := hlo.2.1 (by omega)
      clear hlo
      by_cases hc : c < 240
      · have HE : Hid (sizeV c = 3) := by show _ = _; unfold sizeV; rw [if_neg (by omega), if_neg (by omega), if_pos hc]
        have hx : (bits .and .u8 c 240 == 224) = true := by rw [a4]; exact beq_iff_eq.2 (by omega)
        clear a3 a4 a5 hc
        go_wp2_with (first | (go_at_call 78; (with_reducible refine (lead4 _).mono ?_); rintro e w' ⟨rfl, rfl⟩) | (go_at_call 78; (with_reducible refine (lead3 _).mono ?_); rintro e w' ⟨rfl, rfl⟩))
        go_ret
        exact ⟨by rw [HE.out]; rfl, rfl⟩
      · have HE : Hid (((3 + 1 : Int)) ≤ sizeV c) := by show _ ≤ _; unfold sizeV; rw [if_neg (by omega), if_neg (by omega)]; split <;> omega
        have hx : (bits .and .u8 c 240 == 224) = false := by rw [a4]; exact beq_eq_false_iff_ne.2 (by omega)
        clear a3 a4 a5
        go_wp2_with (first | (go_at_call 78; (with_reducible refine (lead4 _).mono ?_); rintro e w' ⟨rfl, rfl⟩) | (go_at_call 78; (with_reducible refine (lead3 _).mono ?_); rintro e w' ⟨rfl, rfl⟩))
        go_roundg (gk - 1)
        case measure => have := HK.out; omega
        case rel => exact ⟨4, rfl, by have := HK.out; show _ = _; omega, ⟨by omega, HE.out⟩, rfl⟩
    · have hc2 := hlo.2.2 (by omega)
      clear hlo
      by_cases hc : c < 248
      · have HE : Hid (sizeV c = 4) := by show _ = _; unfold sizeV; rw [if_neg (by omega), if_neg (by omega), if_neg (by omega)]
        have hx : (bits .and .u8 c 248 == 240) = true := by rw [a5]; exact beq_iff_eq.2 (by omega)
        clear a3 a4 a5 hc
        go_wp2_with (first | (go_at_call 78; (with_reducible refine (lead5 _).mono ?_); rintro e w' ⟨rfl, rfl⟩) | (go_at_call 78; (with_reducible refine (lead4 _).mono ?_); rintro e w' ⟨rfl, rfl⟩))
        go_ret
        exact ⟨by rw [HE.out]; rfl, rfl⟩
      · omega

end Go.Proofs.Ytdbcdgojbegakaa
