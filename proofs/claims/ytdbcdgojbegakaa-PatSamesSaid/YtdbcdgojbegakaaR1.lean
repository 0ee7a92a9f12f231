/-
The pattern reader's small steps: does a rune stand here; go over it; go over it as often as it stands here.
-/
import Derived.Test.YtdbcdgojbegakaaB
namespace Go.Proofs.Ytdbcdgojbegakaa
open Go.RowKit

section
variable {w : World} {rb : Nat} {A : Option Addr} {cap : Nat} {l : List Int} {s : RS}

set_option maxHeartbeats 400000 in
theorem is_some (h : Rd w rb A cap l s) (c d : Int) {t : List Int} (hd : l.drop s.at_ = d :: t) :
    Calls Try.prog 91 #[.pointer (some ⟨rb, 0, none⟩), .int .i32 c] w fun e w' => e = .returned (.bool (d == c)) ∧ ∃ m, w' = w.drewN m := by
  obtain ⟨hlt, ad, rfl, hr⟩ := h.rl.drop hd
  have h0 := h.c0
  have h1 := h.c1
  clear hd h
  generalize s.at_ = k at *
  generalize l.length = n at *
  have hd : decide (k < n) = true := by simpa using hlt
  go_enter Try.func91, Try.ntmps91
  go_wp2
  go_quiet (fail)
  go_wp2
  go_ret
  exact ⟨rfl, _, rfl⟩

set_option maxHeartbeats 400000 in
theorem is_none (h : Rd w rb A cap l s) (c : Int) (hd : l.drop s.at_ = []) :
    Calls Try.prog 91 #[.pointer (some ⟨rb, 0, none⟩), .int .i32 c] w fun e w' => e = .returned (.bool false) ∧ ∃ m, w' = w.drewN m := by
  have hge : l.length ≤ s.at_ := List.drop_eq_nil_iff.1 hd
  have h0 := h.c0
  have h1 := h.c1
  clear hd h
  generalize s.at_ = k at *
  generalize l.length = n at *
  have hd : decide (k < n) = false := by simpa using hge
  go_enter Try.func91, Try.ntmps91
  go_wp2
  go_quiet (fail)
  go_wp2
  go_ret
  exact ⟨rfl, _, rfl⟩

theorem is_yes (h : Rd w rb A cap l s) {c : Int} {t : List Int} (hd : l.drop s.at_ = c :: t) :
    Calls Try.prog 91 #[.pointer (some ⟨rb, 0, none⟩), .int .i32 c] w fun e w' => e = .returned (.bool true) ∧ ∃ m, w' = w.drewN m :=
  (is_some h c c hd).mono fun e w' ⟨he, hw⟩ => ⟨by rw [he]; simp, hw⟩
theorem is_no (h : Rd w rb A cap l s) {c : Int} (hd : (l.drop s.at_).head? ≠ some c) :
    Calls Try.prog 91 #[.pointer (some ⟨rb, 0, none⟩), .int .i32 c] w fun e w' => e = .returned (.bool false) ∧ ∃ m, w' = w.drewN m := by
  cases hl : l.drop s.at_ with
  | nil => exact is_none h c hl
  | cons d t =>
    refine (is_some h c d hl).mono fun e w' ⟨he, hw⟩ => ⟨?_, hw⟩
    rw [hl] at hd
    rw [he, show (d == c) = false by simpa using hd]

set_option maxHeartbeats 400000 in
theorem has_yes (h : Rd w rb A cap l s) {c : Int} {t : List Int} (hd : l.drop s.at_ = c :: t) :
    Calls Try.prog 83 #[.pointer (some ⟨rb, 0, none⟩), .int .i32 c] w fun e w' =>
      e = .returned (.bool true) ∧ Rd w' rb A cap l { s with at_ := s.at_ + 1 } ∧ w.grownBy w' (some rb) := by
  have hlt := (h.rl.drop hd).1
  have h1 := h.c1
  have hf := h.frozen 1
  have hb : s.at_ ≤ 120 := Nat.le_trans h.le h.len
  have C := Lib.hid (is_yes h hd)
  have H := Lib.hid h
  clear h hd
  go_enter Try.func83, Try.ntmps83
  go_wp2_with (go_at_call 91; refine (C.out).mono ?_; rintro e w' ⟨rfl, m, rfl⟩)
  go_ret
  refine ⟨rfl, ?_, only_setCell (p := ⟨rb, 1, none⟩) (only_drewN (only_refl w _) m) (.inl rfl) _⟩
  exact (H.out.drewN m).set_ 1 _ rfl hlt

set_option maxHeartbeats 400000 in
theorem has_no (h : Rd w rb A cap l s) {c : Int} (hd : (l.drop s.at_).head? ≠ some c) :
    Calls Try.prog 83 #[.pointer (some ⟨rb, 0, none⟩), .int .i32 c] w fun e w' =>
      e = .returned (.bool false) ∧ Rd w' rb A cap l s ∧ w.grownBy w' (some rb) := by
  have C := Lib.hid (is_no h hd)
  have H := Lib.hid h
  clear h hd
  go_enter Try.func83, Try.ntmps83
  go_wp2_with (go_at_call 91; refine (C.out).mono ?_; rintro e w' ⟨rfl, m, rfl⟩)
  go_ret
  exact ⟨rfl, H.out.drewN m, only_drewN (only_refl w _) m⟩

theorem drop_succ {l t : List Int} {k : Nat} {c : Int} (h : l.drop k = c :: t) : l.drop (k + 1) = t := by
  rw [← List.drop_drop, h]; rfl
theorem runLen_cons (c : Int) (t : List Int) : runLen c (c :: t) = runLen c t + 1 := by simp [runLen]
theorem runLen_not {c : Int} {l : List Int} (h : l.head? ≠ some c) : runLen c l = 0 := by
  cases l with
  | nil => rfl
  | cons d t => simp only [runLen]; rw [if_neg (by simpa using h)]
theorem runLen_le (c : Int) (l : List Int) : runLen c l ≤ l.length := by
  induction l with
  | nil => exact Nat.le_refl _
  | cons d t ih => simp only [runLen]; split <;> simp <;> omega

set_option maxHeartbeats 400000 in
theorem count_any (h : Rd w rb A cap l s) (c : Int) :
    Calls Try.prog 93 #[.pointer (some ⟨rb, 0, none⟩), .int .i32 c] w fun e w' =>
      e = .returned (.int .i64 (runLen c (l.drop s.at_) : Nat)) ∧ Rd w' rb A cap l { s with at_ := s.at_ + runLen c (l.drop s.at_) } ∧ w.grownBy w' (some rb) := by
  have H := Lib.hid h
  clear h
  go_enter Try.func93, Try.ntmps93
  go_wp2_with fail
  go_loopw [5] (fun v wr => ∃ j : Nat, v = .int .i64 j ∧ Hid (Rd wr rb A cap l { s with at_ := s.at_ + j }) ∧ Hid (w.grownBy wr (some rb)) ∧ Hid (runLen c (l.drop s.at_) = j + runLen c (l.drop (s.at_ + j)))) (fun v _ => 120 - (intOf v).toNat)
  case atStart => exact ⟨0, rfl, H, only_refl w _, by simp [Hid]⟩
  case round =>
    obtain ⟨j, rfl, HR, HG, HN⟩ := hrel
    have hb : s.at_ + j ≤ 120 := Nat.le_trans HR.out.le HR.out.len
    by_cases hc : (l.drop (s.at_ + j)).head? = some c
    · obtain ⟨t, ht⟩ : ∃ t, l.drop (s.at_ + j) = c :: t := by
        cases hl : l.drop (s.at_ + j) with
        | nil => rw [hl] at hc; cases hc
        | cons d t => rw [hl] at hc; simp at hc; exact ⟨t, by rw [hc]⟩
      have hlt := (HR.out.rl.drop ht).1
      have hb2 : s.at_ + j < 120 := Nat.lt_of_lt_of_le hlt HR.out.len
      have C := Lib.hid (has_yes HR.out ht)
      have HN' : Hid (runLen c (l.drop s.at_) = (j + 1) + runLen c (l.drop (s.at_ + (j + 1)))) := by
        have := HN.out
        rw [ht, runLen_cons] at this
        rw [← Nat.add_assoc, drop_succ ht]
        show _ = _
        omega
      clear ht hlt hc
      go_wp2_with (go_at_call 83; refine (C.out).mono ?_; rintro e w' ⟨rfl, hr2, hg2⟩; have HR2 := Lib.hid hr2; have HG2 := Lib.hid hg2; clear hr2 hg2)
      go_roundw
      case rel => exact ⟨j + 1, by go_num, HR2, only_trans HG.out HG2.out, HN'⟩
      case measure => simp [intOf]; omega
    · have C := Lib.hid (has_no HR.out hc)
      have HE : Hid (runLen c (l.drop s.at_) = j) := by
        have := HN.out
        rw [runLen_not hc] at this
        exact this
      clear hc
      go_wp2_with (go_at_call 83; refine (C.out).mono ?_; rintro e w' ⟨rfl, hr2, hg2⟩; have HR2 := Lib.hid hr2; have HG2 := Lib.hid hg2; clear hr2 hg2)
      go_ret
      refine ⟨by rw [HE.out]; rfl, ?_, only_trans HG.out HG2.out⟩
      rw [HE.out]
      exact HR2.out
end
end Go.Proofs.Ytdbcdgojbegakaa
