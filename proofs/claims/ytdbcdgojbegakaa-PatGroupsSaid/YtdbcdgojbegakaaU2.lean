/-
Package utf: is it a rune, how many bytes has it, of how many bytes does a first byte tell.
Package utf: the rune with which bytes begin.
-/
import Derived.Test.YtdbcdgojbegakaaB
import Derived.Lib.RuneBytes
namespace Go.Proofs.Ytdbcdgojbegakaa
open Go.RowKit

set_option maxHeartbeats 800000 in
theorem is_rune (r : Int) (w : World) :
    Calls Try.prog 43 #[.int .i32 r] w fun e w' => e = .returned (.bool (isRune r)) ∧ w' = w := by
  by_cases h1 : 0 ≤ r
  · have b1 : decide (0 ≤ r) = true := by simpa using h1
    by_cases h2 : r ≤ 1114111
    · have b2 : decide (r ≤ 1114111) = true := by simpa using h2
      by_cases h3 : r < 55296
      · have b3 : decide (r < 55296) = true := by simpa using h3
        have HE : Hid (isRune r = true) := by show _ = _; simp [isRune, h1, h2, h3]
        go_enter Try.func43, Try.ntmps43
        go_wp2
        go_ret
        exact ⟨by rw [HE.out]; rfl, rfl⟩
      · have b3 : decide (r < 55296) = false := by simpa using h3
        have HE : Hid (isRune r = decide (57343 < r)) := by show _ = _; simp [isRune, h1, h2, h3]
        go_enter Try.func43, Try.ntmps43
        go_wp2
        go_ret
        exact ⟨by rw [HE.out]; rfl, rfl⟩
    · have b2 : decide (r ≤ 1114111) = false := by simpa using h2
      have HE : Hid (isRune r = false) := by show _ = _; simp [isRune, h2]
      go_enter Try.func43, Try.ntmps43
      go_wp2
      go_ret
      exact ⟨by rw [HE.out]; rfl, rfl⟩
  · have b1 : decide (0 ≤ r) = false := by simpa using h1
    have HE : Hid (isRune r = false) := by show _ = _; simp [isRune, h1]
    go_enter Try.func43, Try.ntmps43
    go_wp2
    go_ret
    exact ⟨by rw [HE.out]; rfl, rfl⟩

def leadV (n : Nat) : Int := if n = 1 then 0 else if n = 2 then 192 else if n = 3 then 224 else if n = 4 then 240 else 248

set_option maxHeartbeats 800000 in
theorem lead_any (n : Nat) (h1 : 1 ≤ n) (h5 : n ≤ 5) (w : World) :
    Calls Try.prog 78 #[.int .i64 n] w fun e w' => e = .returned (.int .u8 (leadV n)) ∧ w' = w := by
  have hn : n = 1 ∨ n = 2 ∨ n = 3 ∨ n = 4 ∨ n = 5 := by omega
  clear h1 h5
  rcases hn with rfl | rfl | rfl | rfl | rfl
  all_goals
    go_enter Try.func78, Try.ntmps78
    go_wp2
    go_ret
    exact ⟨rfl, rfl⟩

set_option maxHeartbeats 800000 in
theorem size_rune (r : Int) (hr : isRune r = true) (w : World) :
    Calls Try.prog 79 #[.int .i32 r] w fun e w' => e = .returned (.int .i64 ((Lib.encodeRuneZ r).length : Nat)) ∧ w' = w := by
  have C := Lib.hid (is_rune r w)
  have hb : 0 ≤ r ∧ r ≤ 1114111 ∧ (r < 55296 ∨ 57343 < r) := by simpa [isRune, and_assoc] using hr
  rw [hr] at C
  clear hr
  obtain ⟨h0, h1, h2⟩ := hb
  by_cases a1 : r < 128
  · have HE : Hid ((Lib.encodeRuneZ r).length = 1) := by rw [Lib.encodeRuneZ_one h0 (by omega)]; rfl
    go_enter Try.func79, Try.ntmps79
    go_wp2_with (go_at_call 43; refine (C.out).mono ?_; rintro e w' ⟨rfl, rfl⟩)
    go_ret
    exact ⟨by rw [HE.out]; rfl, rfl⟩
  by_cases a2 : r < 2048
  · have HE : Hid ((Lib.encodeRuneZ r).length = 2) := by rw [Lib.encodeRuneZ_two (by omega) (by omega)]; rfl
    go_enter Try.func79, Try.ntmps79
    go_wp2_with (go_at_call 43; refine (C.out).mono ?_; rintro e w' ⟨rfl, rfl⟩)
    go_ret
    exact ⟨by rw [HE.out]; rfl, rfl⟩
  by_cases a3 : r < 65536
  · have HE : Hid ((Lib.encodeRuneZ r).length = 3) := by rw [Lib.encodeRuneZ_three (by omega)]; rfl
    go_enter Try.func79, Try.ntmps79
    go_wp2_with (go_at_call 43; refine (C.out).mono ?_; rintro e w' ⟨rfl, rfl⟩)
    go_ret
    exact ⟨by rw [HE.out]; rfl, rfl⟩
  · have HE : Hid ((Lib.encodeRuneZ r).length = 4) := by rw [Lib.encodeRuneZ_four (by omega) (by omega)]; rfl
    go_enter Try.func79, Try.ntmps79
    go_wp2_with (go_at_call 43; refine (C.out).mono ?_; rintro e w' ⟨rfl, rfl⟩)
    go_ret
    exact ⟨by rw [HE.out]; rfl, rfl⟩

theorem lead2 : ∀ w, Calls Try.prog 78 #[.int .i64 2] w fun e w' => e = .returned (.int .u8 192) ∧ w' = w := lead_any 2 (by omega) (by omega)
theorem lead3 : ∀ w, Calls Try.prog 78 #[.int .i64 3] w fun e w' => e = .returned (.int .u8 224) ∧ w' = w := lead_any 3 (by omega) (by omega)
theorem lead4 : ∀ w, Calls Try.prog 78 #[.int .i64 4] w fun e w' => e = .returned (.int .u8 240) ∧ w' = w := lead_any 4 (by omega) (by omega)
theorem lead5 : ∀ w, Calls Try.prog 78 #[.int .i64 5] w fun e w' => e = .returned (.int .u8 248) ∧ w' = w := lead_any 5 (by omega) (by omega)

/-! The bits of a first byte, and of those behind it. -/
theorem bits_and (c : Int) (h0 : 0 ≤ c) (h1 : c < 256) : bits .and .u8 c 224 = c / 32 * 32 ∧ bits .and .u8 c 240 = c / 16 * 16 ∧ bits .and .u8 c 248 = c / 8 * 8 ∧ bits .and .u8 c 63 = c % 64 := by
  have h : ∀ x : Fin 256, bits .and .u8 (x.val : Int) 224 = (x.val : Int) / 32 * 32 ∧ bits .and .u8 (x.val : Int) 240 = (x.val : Int) / 16 * 16 ∧ bits .and .u8 (x.val : Int) 248 = (x.val : Int) / 8 * 8 ∧ bits .and .u8 (x.val : Int) 63 = (x.val : Int) % 64 := by decide +kernel
  have := h ⟨c.toNat, by omega⟩
  simpa [Int.toNat_of_nonneg h0] using this

def sizeV (c : Int) : Nat := if c < 128 then 1 else if c < 224 then 2 else if c < 240 then 3 else 4

set_option maxHeartbeats 1600000 in
theorem size_any (c : Int) (h0 : 0 ≤ c) (h1 : c < 248) (h2 : c < 128 ∨ 192 ≤ c) (w : World) :
    Calls Try.prog 77 #[.int .u8 c] w fun e w' => e = .returned (.int .i64 (sizeV c : Nat)) ∧ w' = w := by
  obtain ⟨a3, a4, a5, _⟩ := bits_and c h0 (by omega)
  go_enter Try.func77, Try.ntmps77
  go_wp2_with fail
  go_loopg [3] 4 (fun kq v3 wr => ∃ n : Int, v3 = .int .i64 n ∧ Hid (kq + n = 5) ∧ Hid (1 ≤ n ∧ n ≤ sizeV c) ∧ wr = w)
  case atStart => exact ⟨1, rfl, rfl, ⟨Int.le_refl _, by unfold sizeV; split <;> (try split) <;> (try split) <;> omega⟩, rfl⟩
  case round =>
    obtain ⟨n, rfl, HK, HN, rfl⟩ := hrel
    have hn : n = 1 ∨ n = 2 ∨ n = 3 ∨ n = 4 := by
      have h3 := HN.out
      have : sizeV c ≤ 4 := by unfold sizeV; split <;> (try split) <;> (try split) <;> omega
      omega
    have hlo : (2 ≤ n → 192 ≤ c) ∧ (3 ≤ n → 224 ≤ c) ∧ (4 ≤ n → 240 ≤ c) := by
      have h3 := HN.out.2
      unfold sizeV at h3
      refine ⟨fun h => ?_, fun h => ?_, fun h => ?_⟩ <;> (split at h3 <;> (try split at h3) <;> (try split at h3) <;> omega)
    rcases hn with rfl | rfl | rfl | rfl
    · by_cases hc : c < 128
      · have HE : Hid (sizeV c = 1) := by show _ = _; unfold sizeV; rw [if_pos hc]
        have hcb : decide (c < 128) = true := by simpa using hc
        clear a3 a4 a5
        go_wp2_with fail
        go_ret
        exact ⟨by rw [HE.out]; rfl, rfl⟩
      · have HE : Hid (((1 + 1 : Int)) ≤ sizeV c) := by show _ ≤ _; unfold sizeV; rw [if_neg hc]; split <;> (try split) <;> omega
        have hcb : decide (c < 128) = false := by simpa using hc
        clear a3 a4 a5
        go_wp2_with fail
        go_roundg (gk - 1)
        case measure => have := HK.out; omega
        case rel => exact ⟨2, rfl, by have := HK.out; show _ = _; omega, ⟨by omega, HE.out⟩, rfl⟩
    · have hc2 := hlo.1 (by omega)
      clear hlo
      by_cases hc : c < 224
      · have HE : Hid (sizeV c = 2) := by show _ = _; unfold sizeV; rw [if_neg (by omega), if_pos hc]
        have hx : (bits .and .u8 c 224 == 192) = true := by rw [a3]; exact beq_iff_eq.2 (by omega)
        clear a3 a4 a5 hc
        go_wp2_with (first | (go_at_call 78; (with_reducible refine (lead3 _).mono ?_); rintro e w' ⟨rfl, rfl⟩) | (go_at_call 78; (with_reducible refine (lead2 _).mono ?_); rintro e w' ⟨rfl, rfl⟩))
        go_ret
        exact ⟨by rw [HE.out]; rfl, rfl⟩
      · have HE : Hid (((2 + 1 : Int)) ≤ sizeV c) := by show _ ≤ _; unfold sizeV; rw [if_neg (by omega), if_neg (by omega)]; split <;> omega
        have hx : (bits .and .u8 c 224 == 192) = false := by rw [a3]; exact beq_eq_false_iff_ne.2 (by omega)
        clear a3 a4 a5
        go_wp2_with (first | (go_at_call 78; (with_reducible refine (lead3 _).mono ?_); rintro e w' ⟨rfl, rfl⟩) | (go_at_call 78; (with_reducible refine (lead2 _).mono ?_); rintro e w' ⟨rfl, rfl⟩))
        go_roundg (gk - 1)
        case measure => have := HK.out; omega
        case rel => exact ⟨3, rfl, by have := HK.out; show _ = _; omega, ⟨by omega, HE.out⟩, rfl⟩
    · have hc2 := hlo.2.1 (by omega)
      clear hlo
      by_cases hc : c < 240
      · have HE : Hid (sizeV c = 3) := by show _ = _; unfold sizeV; rw [if_neg (by omega), if_neg (by omega), if_pos hc]
        have hx : (bits .and .u8 c 240 == 224) = true := by rw [a4]; exact beq_iff_eq.2 (by omega)
        clear a3 a4 a5 hc
        go_wp2_with (first | (go_at_call 78; (with_reducible refine (lead4 _).mono ?_); rintro e w' ⟨rfl, rfl⟩) | (go_at_call 78; (with_reducible refine (lead3 _).mono ?_); rintro e w' ⟨rfl, rfl⟩))
        go_ret
        exact ⟨by rw [HE.out]; rfl, rfl⟩
      · have HE : Hid (((3 + 1 : Int)) ≤ sizeV c) := by show _ ≤ _; unfold sizeV; rw [if_neg (by omega), if_neg (by omega)]; split <;> omega
        have hx : (bits .and .u8 c 240 == 224) = false := by rw [a4]; exact beq_eq_false_iff_ne.2 (by omega)
        clear a3 a4 a5
        go_wp2_with (first | (go_at_call 78; (with_reducible refine (lead4 _).mono ?_); rintro e w' ⟨rfl, rfl⟩) | (go_at_call 78; (with_reducible refine (lead3 _).mono ?_); rintro e w' ⟨rfl, rfl⟩))
        go_roundg (gk - 1)
        case measure => have := HK.out; omega
        case rel => exact ⟨4, rfl, by have := HK.out; show _ = _; omega, ⟨by omega, HE.out⟩, rfl⟩
    · have hc2 := hlo.2.2 (by omega)
      clear hlo
      by_cases hc : c < 248
      · have HE : Hid (sizeV c = 4) := by show _ = _; unfold sizeV; rw [if_neg (by omega), if_neg (by omega), if_neg (by omega)]
        have hx : (bits .and .u8 c 248 == 240) = true := by rw [a5]; exact beq_iff_eq.2 (by omega)
        clear a3 a4 a5 hc
        go_wp2_with (first | (go_at_call 78; (with_reducible refine (lead5 _).mono ?_); rintro e w' ⟨rfl, rfl⟩) | (go_at_call 78; (with_reducible refine (lead4 _).mono ?_); rintro e w' ⟨rfl, rfl⟩))
        go_ret
        exact ⟨by rw [HE.out]; rfl, rfl⟩
      · omega

end Go.Proofs.Ytdbcdgojbegakaa
namespace Go.Proofs.Ytdbcdgojbegakaa
open Go.RowKit

/-- A row of bytes. -/
def BL (w : World) (A : Option Addr) (l : List Int) : Prop := ∀ i c, l[i]? = some c → ∃ ad, A = some ad ∧ w.cell? (ad.add i) = some (.int .u8 c)

theorem bits_andNot (c : Int) (h0 : 0 ≤ c) (h1 : c < 256) :
    bits .andNot .u8 c 0 = c ∧ (192 ≤ c → c < 224 → bits .andNot .u8 c 192 = c - 192) ∧ (224 ≤ c → c < 240 → bits .andNot .u8 c 224 = c - 224) ∧ (240 ≤ c → c < 248 → bits .andNot .u8 c 240 = c - 240) ∧ bits .andNot .u8 c 63 = c / 64 * 64 := by
  have h : ∀ x : Fin 256, bits .andNot .u8 (x.val : Int) 0 = (x.val : Int) ∧ (192 ≤ x.val → x.val < 224 → bits .andNot .u8 (x.val : Int) 192 = (x.val : Int) - 192) ∧ (224 ≤ x.val → x.val < 240 → bits .andNot .u8 (x.val : Int) 224 = (x.val : Int) - 224) ∧
      (240 ≤ x.val → x.val < 248 → bits .andNot .u8 (x.val : Int) 240 = (x.val : Int) - 240) ∧ bits .andNot .u8 (x.val : Int) 63 = (x.val : Int) / 64 * 64 := by decide +kernel
  have := h ⟨c.toNat, by omega⟩
  simp only [Int.toNat_of_nonneg h0] at this
  exact ⟨this.1, fun a b => this.2.1 (by omega) (by omega), fun a b => this.2.2.1 (by omega) (by omega), fun a b => this.2.2.2.1 (by omega) (by omega), this.2.2.2.2⟩

def foldU (u : Int) (ts : List Int) : Int := ts.foldl (fun u t => u * 64 + (t - 128)) u
theorem foldU_take {u : Int} {ts : List Int} {j : Nat} {t : Int} (h : ts[j]? = some t) : foldU u (ts.take (j + 1)) = foldU u (ts.take j) * 64 + (t - 128) := by
  have hl := (List.getElem?_eq_some_iff.1 h).1
  rw [List.take_succ_eq_append_getElem hl, (List.getElem?_eq_some_iff.1 h).2]
  simp [foldU]
theorem foldU_bound (ts : List Int) : ∀ u, 0 ≤ u → (∀ t ∈ ts, 128 ≤ t ∧ t < 192) → 0 ≤ foldU u ts ∧ foldU u ts < (u + 1) * 64 ^ ts.length := by
  induction ts with
  | nil => intro u h0 _; simp [foldU]; omega
  | cons t ts ih =>
    intro u h0 ht
    have h1 := ht t (by simp)
    have h2 := ih (u * 64 + (t - 128)) (by omega) (fun x hx => ht x (by simp [hx]))
    refine ⟨h2.1, Int.lt_of_lt_of_le h2.2 ?_⟩
    rw [List.length_cons, Int.pow_succ, ← Int.mul_assoc]
    have h3 : (0 : Int) ≤ 64 ^ ts.length := Int.pow_nonneg (by omega)
    have h4 : (u * 64 + (t - 128) + 1) ≤ (u + 1) * 64 := by omega
    calc (u * 64 + (t - 128) + 1) * 64 ^ ts.length ≤ ((u + 1) * 64) * 64 ^ ts.length := Int.mul_le_mul_of_nonneg_right h4 h3
      _ = (u + 1) * 64 ^ ts.length * 64 := by rw [Int.mul_assoc, Int.mul_comm 64, ← Int.mul_assoc]

theorem enc_split (r : Int) (hr : isRune r = true) : ∃ c ts u0, Lib.encodeRuneZ r = c :: ts ∧ (0 ≤ c ∧ c < 248) ∧ (c < 128 ∨ 192 ≤ c) ∧ sizeV c = ts.length + 1 ∧ (∀ t ∈ ts, 128 ≤ t ∧ t < 192) ∧
    bits .andNot .u8 c (leadV (ts.length + 1)) = u0 ∧ (0 ≤ u0 ∧ u0 < 128) ∧ foldU u0 ts = r ∧ ts.length ≤ 3 := by
  have hb : 0 ≤ r ∧ r ≤ 1114111 ∧ (r < 55296 ∨ 57343 < r) := by simpa [isRune, and_assoc] using hr
  by_cases a1 : r ≤ 127
  · refine ⟨r, [], r, Lib.encodeRuneZ_one hb.1 a1, by omega, by omega, by simp [sizeV]; omega, by simp, (bits_andNot r hb.1 (by omega)).1, by omega, rfl, by simp⟩
  by_cases a2 : r ≤ 2047
  · refine ⟨192 + r / 64, [128 + r % 64], r / 64, Lib.encodeRuneZ_two (by omega) a2, by omega, by omega, ?_, ?_, ?_, by omega, by simp [foldU]; omega, by simp⟩
    · simp only [sizeV]; rw [if_neg (by omega), if_pos (by omega)]; rfl
    · intro t ht; simp at ht; omega
    · have := (bits_andNot (192 + r / 64) (by omega) (by omega)).2.1 (by omega) (by omega)
      show bits .andNot .u8 (192 + r / 64) 192 = _
      omega
  by_cases a3 : r ≤ 65535
  · refine ⟨224 + r / 4096, [128 + r / 64 % 64, 128 + r % 64], r / 4096, Lib.encodeRuneZ_three (by omega), by omega, by omega, ?_, ?_, ?_, by omega, by simp [foldU]; omega, by simp⟩
    · simp only [sizeV]; rw [if_neg (by omega), if_neg (by omega), if_pos (by omega)]; rfl
    · intro t ht; simp at ht; omega
    · have := (bits_andNot (224 + r / 4096) (by omega) (by omega)).2.2.1 (by omega) (by omega)
      show bits .andNot .u8 (224 + r / 4096) 224 = _
      omega
  · refine ⟨240 + r / 262144, [128 + r / 4096 % 64, 128 + r / 64 % 64, 128 + r % 64], r / 262144, Lib.encodeRuneZ_four (by omega) (by omega), by omega, by omega, ?_, ?_, ?_, by omega, by simp [foldU]; omega, by simp⟩
    · simp only [sizeV]; rw [if_neg (by omega), if_neg (by omega), if_neg (by omega)]; rfl
    · intro t ht; simp at ht; omega
    · have := (bits_andNot (240 + r / 262144) (by omega) (by omega)).2.2.2.1 (by omega) (by omega)
      show bits .andNot .u8 (240 + r / 262144) 240 = _
      omega

theorem bits_or (u x : Int) (h0 : 0 ≤ u) (h1 : u < 33554432) (h2 : 0 ≤ x) (h3 : x < 64) : bits .or .u32 (u * 64) x = u * 64 + x := by
  obtain ⟨a, rfl⟩ := Int.eq_ofNat_of_zero_le h0
  obtain ⟨b, rfl⟩ := Int.eq_ofNat_of_zero_le h2
  have ha : a < 33554432 := by omega
  have hb : b < 64 := by omega
  show IntKind.u32.wrap ((BitVec.ofInt 32 ((a : Int) * 64) ||| BitVec.ofInt 32 (b : Int)).toNat : Int) = _
  have e1 : BitVec.ofInt 32 ((a : Int) * 64) = BitVec.ofNat 32 (a * 64) := by rw [show ((a : Int) * 64) = ((a * 64 : Nat) : Int) by omega]; exact BitVec.ofInt_natCast ..
  have e2 : BitVec.ofInt 32 (b : Int) = BitVec.ofNat 32 b := BitVec.ofInt_natCast ..
  rw [e1, e2, BitVec.toNat_or, BitVec.toNat_ofNat, BitVec.toNat_ofNat, Nat.mod_eq_of_lt (by omega), Nat.mod_eq_of_lt (by omega)]
  have e3 : a * 64 ||| b = a * 64 + b := by
    have := Nat.two_pow_add_eq_or_of_lt (i := 6) (b := b) (by simpa using hb) a
    rw [show 2 ^ 6 * a = a * 64 by omega] at this
    exact this.symm
  rw [e3, IntKind.wrap_u32]
  omega

set_option maxRecDepth 100000 in
set_option maxHeartbeats 1600000 in
theorem first_any (w : World) (A : Option Addr) (cap : Nat) (r : Int) (rest : List Int) (hr : isRune r = true) (hb : BL w A (Lib.encodeRuneZ r ++ rest)) (hn : (Lib.encodeRuneZ r ++ rest).length ≤ cap) (hl : (Lib.encodeRuneZ r ++ rest).length ≤ 65536) :
    Calls Try.prog 58 #[.slice A (Lib.encodeRuneZ r ++ rest).length cap] w fun e w' => e = .returned (.tuple #[.int .i32 r, .int .i64 ((Lib.encodeRuneZ r).length : Nat)]) ∧ w.grownBy w' none := by
  obtain ⟨c, ts, u0, he, hc, hc2, hsz, hts, hu, hu0, hf, hl3⟩ := enc_split r hr
  have CS := fun W => size_rune r hr W
  rw [he] at hb hn hl CS ⊢
  have C1 := fun W => size_any c hc.1 hc.2 hc2 W
  rw [hsz] at C1
  have C2 := fun W => lead_any (ts.length + 1) (by omega) (by omega) W
  have h0 : ((c :: ts) ++ rest)[0]? = some c := rfl
  obtain ⟨ad, rfl, hc0⟩ := hb 0 c h0
  have hall : ∀ j t, ts[j]? = some t → w.cell? (ad.add (j + 1)) = some (.int .u8 t) := by
    intro j t hj
    have hl := (List.getElem?_eq_some_iff.1 hj).1
    obtain ⟨ad', e1, e2⟩ := hb (j + 1) t (by rw [List.getElem?_append_left (by simp; omega)]; simpa using hj)
    injection e1 with e1
    subst e1
    exact e2
  have hrr : 0 ≤ r ∧ r < 2147483648 := by have : 0 ≤ r ∧ r ≤ 1114111 ∧ (r < 55296 ∨ 57343 < r) := by simpa [isRune, and_assoc] using hr
                                          omega
  have hlen : ((c :: ts) ++ rest).length = ts.length + 1 + rest.length := by simp; omega
  rw [hlen] at hn hl ⊢
  rw [show (c :: ts).length = ts.length + 1 from rfl] at CS ⊢
  have hcc : w.cell? ad = some (.int .u8 c) := by simpa [Addr.add] using hc0
  have HALL := Lib.hid hall
  have HF := Lib.hid hf
  have HTS := Lib.hid hts
  have HFB := Lib.hid (foldU_bound)
  have HC1 := Lib.hid C1
  have HC2 := Lib.hid C2
  have HCS := Lib.hid CS
  obtain ⟨hc3, hc4⟩ := hc
  obtain ⟨hu1, hu2⟩ := hu0
  obtain ⟨hr1, hr2⟩ := hrr
  generalize hm : ts.length = m at *
  generalize hLL : leadV (m + 1) = L at *
  have HM := Lib.hid hm
  have HLL := Lib.hid hLL
  generalize hk : rest.length = k at *
  have hz1 : ((m : Int) + 1 == 0) = false := by simp; omega
  have hz2 : decide ((m : Int) + 1 + (k : Int) < (m : Int) + 1) = false := by simp; omega
  clear hall hf hts he hsz C1 C2 CS hb h0 hlen hk hr hc0 hm hLL
  by_cases h1 : 0 < m
  · have hcap : ¬ (cap = 1) := by omega
    go_enter Try.func58, Try.ntmps58
    go_wp2_with (go_at_call 77; refine (HC1.out _).mono ?_; rintro e w' ⟨rfl, rfl⟩)
    go_quiet ((go_at_call 78; exact Calls.quiet_of_same (HC2.out _)))
    go_wp2_with fail
    go_loopg [5, 32] m (fun kq v5 v32 wr => ∃ (j : Nat) (u : Int), v32 = .int .i64 j ∧ v5 = .int .u32 u ∧ Hid (u = foldU u0 (ts.take j)) ∧ Hid (kq + j = m) ∧ wr = w'.drewN nq)
    case atStart => exact ⟨0, u0, rfl, rfl, rfl, rfl, rfl⟩
    case round =>
      obtain ⟨j, u, rfl, rfl, HU, HK, rfl⟩ := hrel
      have hkj := HK.out
      by_cases hj : j < m
      · have hjl : j < ts.length := by have := HM.out; omega
        have ht := HALL.out j ts[j] (List.getElem?_eq_getElem hjl)
        have htb := HTS.out ts[j] (List.getElem_mem hjl)
        have hub := HFB.out (ts.take j) u0 hu1 (fun x hx => HTS.out x (List.mem_of_mem_take hx))
        rw [← HU.out] at hub
        have hub2 : u < 33554432 := by
          have hj2 : (ts.take j).length ≤ 2 := by simp; omega
          have : (64 : Int) ^ (ts.take j).length ≤ 4096 := by
            rcases (show (ts.take j).length = 0 ∨ (ts.take j).length = 1 ∨ (ts.take j).length = 2 by omega) with h | h | h <;> rw [h] <;> decide
          have h2 := hub.2
          have h3 : (u0 + 1) * 64 ^ (ts.take j).length ≤ 128 * 4096 := by
            calc (u0 + 1) * 64 ^ (ts.take j).length ≤ 128 * 64 ^ (ts.take j).length := Int.mul_le_mul_of_nonneg_right (by omega) (Int.pow_nonneg (by omega))
              _ ≤ 128 * 4096 := Int.mul_le_mul_of_nonneg_left this (by omega)
          omega
        have hub1 := hub.1
        have hstep : foldU u0 (ts.take (j + 1)) = u * 64 + (ts[j] - 128) := by rw [foldU_take (List.getElem?_eq_getElem hjl), HU.out]
        have hcell : w'.cell? ⟨ad.block, ad.off + 1 + j, none⟩ = some (.int .u8 ts[j]) := by
          rw [show (⟨ad.block, ad.off + 1 + j, none⟩ : Addr) = (⟨ad.block, ad.off + 1, none⟩ : Addr).add j by unfold Addr.add; split <;> simp_all]
          rw [show (⟨ad.block, ad.off + 1, none⟩ : Addr) = ad.add 1 by simp [Addr.add], add_of_add, Nat.add_comm]
          exact ht
        have HS := Lib.hid hstep
        obtain ⟨ht1, ht2⟩ := htb
        have hb1 := (bits_andNot ts[j] (by omega) (by omega)).2.2.2.2
        have hb2 := (bits_and ts[j] (by omega) (by omega)).2.2.2
        have hor := bits_or u (ts[j] - 128) hub1 hub2 (by omega) (by omega)
        generalize ts[j] = t at *
        have hx1 : (bits .andNot .u8 t 63 != 128) = false := by rw [hb1]; simp; omega
        have hx2 : bits .and .u8 t 63 = t - 128 := by rw [hb2]; omega
        clear hub hstep ht hb1 hb2 hkj
        go_wp2
        go_roundg (gk - 1)
        case measure => have := HK.out; omega
        case rel =>
          refine ⟨j + 1, _, by go_num, rfl, ?_, by have := HK.out; show _ = _; omega, rfl⟩
          show _ = _
          rw [HS.out]
      · have hjm : j = m := by omega
        subst hjm
        have HU2 : Hid (u = r) := by rw [HU.out, ← HM.out, List.take_length]; exact HF.out
        obtain rfl := HU2.out
        clear hj hkj
        go_wp2_with (go_at_call 79; refine (HCS.out _).mono ?_; rintro e w2 ⟨rfl, rfl⟩)
        go_ret2
        exact ⟨rfl, only_drewN (only_refl _ _) _⟩
  · have hm0 : m = 0 := by omega
    subst hm0
    have hts0 : ts = [] := List.eq_nil_of_length_eq_zero HM.out
    have HU : Hid (u0 = r) := by have := HF.out; rw [hts0] at this; exact this
    obtain rfl := HU.out
    clear h1 hts0 HU
    by_cases hcap : cap = 1
    · subst hcap
      go_enter Try.func58, Try.ntmps58
      go_wp2_with (go_at_call 77; refine (HC1.out _).mono ?_; rintro e w' ⟨rfl, rfl⟩)
      go_quiet ((go_at_call 78; exact Calls.quiet_of_same (HC2.out _)))
      go_wp2_with fail
      refine wp_loop_rounds 1 ?_
      rw [rounds_succ]
      go_wp2_with (go_at_call 79; refine (HCS.out _).mono ?_; rintro e w2 ⟨rfl, rfl⟩)
      go_ret2
      exact ⟨rfl, only_drewN (only_refl _ _) _⟩
    · go_enter Try.func58, Try.ntmps58
      go_wp2_with (go_at_call 77; refine (HC1.out _).mono ?_; rintro e w' ⟨rfl, rfl⟩)
      go_quiet ((go_at_call 78; exact Calls.quiet_of_same (HC2.out _)))
      go_wp2_with fail
      refine wp_loop_rounds 1 ?_
      rw [rounds_succ]
      go_wp2_with (go_at_call 79; refine (HCS.out _).mono ?_; rintro e w2 ⟨rfl, rfl⟩)
      go_ret2
      exact ⟨rfl, only_drewN (only_refl _ _) _⟩
end Go.Proofs.Ytdbcdgojbegakaa
