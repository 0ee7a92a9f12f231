/-
The pattern reader's pad.
-/
import Derived.Test.YtdbcdgojbegakaaR1
import Derived.RegionTactic
import Derived.ChangeAlike
import Derived.BigRegion
namespace Go.Proofs.Ytdbcdgojbegakaa
open Go.RowKit

/-- A panic of the reader's own. -/
def Wrong (e : Ending) : Prop := ∃ x : Int, e = .panicked [{ v := .iface 62 (.int .i64 x), recovered := false }]

section
variable {w : World} {rb : Nat} {A : Option Addr} {cap : Nat} {l : List Int} {s : RS}

set_option maxHeartbeats 400000 in
theorem pad_there (h : Rd w rb A cap l s) (wh : Int) (hp : s.padAt ≠ 0) :
    Calls Try.prog 80 #[.pointer (some ⟨rb, 0, none⟩), .int .i64 wh] w fun e w' =>
      e = .returned (.tuple #[]) ∧ Rd w' rb A cap l s ∧ w.grownBy w' (some rb) := by
  have h17 := h.c17
  have h18 := h.c18
  have H := Lib.hid h
  clear h
  have hb : (s.padAt != 0) = true := by simpa using hp
  generalize s.padAt = pa at *
  generalize s.pad = pd at *
  clear hp
  by_cases hq : pd = 0
  · subst hq
    go_enter Try.func80, Try.ntmps80
    go_wp2
    refine bodyPost_ret (results_none rfl _ _ _) rfl ?_
    exact ⟨rfl, H.out, only_refl w _⟩
  · have hq2 : (pd != 0) = true := by simpa using hq
    clear hq
    go_enter Try.func80, Try.ntmps80
    go_wp2
    refine bodyPost_ret (results_none rfl _ _ _) rfl ?_
    exact ⟨rfl, H.out, only_refl w _⟩

set_option maxHeartbeats 400000 in
theorem pad_not (h : Rd w rb A cap l s) (wh : Int) (hp : s.padAt = 0) (hq : s.pad = 0) (hd : (l.drop s.at_).head? ≠ some 42) :
    Calls Try.prog 80 #[.pointer (some ⟨rb, 0, none⟩), .int .i64 wh] w fun e w' =>
      e = .returned (.tuple #[]) ∧ Rd w' rb A cap l s ∧ w.grownBy w' (some rb) := by
  have h17 := h.c17
  have h18 := h.c18
  have C := Lib.hid (is_no h hd)
  have H := Lib.hid h
  rw [hq] at h17
  rw [hp] at h18
  clear h hd hp hq
  go_enter Try.func80, Try.ntmps80
  go_wp2_with (go_at_call 91; refine (C.out).mono ?_; rintro e w' ⟨rfl, m, rfl⟩)
  refine bodyPost_ret (results_none rfl _ _ _) rfl ?_
  exact ⟨rfl, H.out.drewN m, only_drewN (only_refl w _) m⟩

set_option maxHeartbeats 400000 in
theorem pad_end (h : Rd w rb A cap l s) (wh : Int) (hp : s.padAt = 0) (hq : s.pad = 0) (hd : l.drop s.at_ = [42]) :
    Calls Try.prog 80 #[.pointer (some ⟨rb, 0, none⟩), .int .i64 wh] w fun e w' =>
      Wrong e ∧ w.grownBy w' (some rb) := by
  have h17 := h.c17
  have h18 := h.c18
  have h0 := h.c0
  have h1 := h.c1
  have hf := h.frozen 1
  have C := Lib.hid (is_yes h hd)
  have hlt := (h.rl.drop hd).1
  have hge : l.length ≤ s.at_ + 1 := List.drop_eq_nil_iff.1 (drop_succ hd)
  have hlen := h.len
  have H := Lib.hid h
  rw [hq] at h17
  rw [hp] at h18
  clear h hd hp hq
  generalize hn : l.length = n at *
  generalize hk : s.at_ = k at *
  have hge2 : decide (n ≤ k + 1) = true := by simpa using hge
  clear hn hk
  go_enter Try.func80, Try.ntmps80
  go_wp2_with (go_at_call 91; refine (C.out).mono ?_; rintro e w' ⟨rfl, m, rfl⟩)
  go_quiet (fail)
  go_wp2
  exact ⟨rfl, ⟨_, rfl⟩, only_drewN (only_setCell (p := ⟨rb, 1, none⟩) (only_drewN (only_refl w _) m) (.inl rfl) _) _⟩

set_option maxHeartbeats 400000 in
theorem pad_rune (h : Rd w rb A cap l s) (wh : Int) (hp : s.padAt = 0) (hq : s.pad = 0) {c : Int} {t : List Int} (hd : l.drop s.at_ = 42 :: c :: t) :
    Calls Try.prog 80 #[.pointer (some ⟨rb, 0, none⟩), .int .i64 wh] w fun e w' =>
      e = .returned (.tuple #[]) ∧ Rd w' rb A cap l { s with at_ := s.at_ + 2, pad := c, padAt := wh } ∧ w.grownBy w' (some rb) := by
  have h17 := h.c17
  have h18 := h.c18
  have h0 := h.c0
  have h1 := h.c1
  have hf := h.frozen
  have C := Lib.hid (is_yes h hd)
  have hd2 := drop_succ hd
  obtain ⟨hlt, ad, rfl, hr⟩ := h.rl.drop hd2
  have hlen := h.len
  have hne := h.ne _ rfl
  have H := Lib.hid h
  rw [hq] at h17
  rw [hp] at h18
  clear h hd hp hq hd2
  generalize hn : l.length = n at *
  generalize hk : s.at_ = k at *
  have hge2 : decide (n ≤ k + 1) = false := by simpa using hlt
  have HN := Lib.hid hn
  have HK := Lib.hid hk
  clear hn hk
  have hz : (0 : Int) ≤ (k : Int) + 1 := by omega
  have hr2 : w.cell? ⟨ad.block, ad.off + (k + 1), none⟩ = some (.int .i32 c) := by simpa [Addr.add] using hr
  have hne2 : ¬ ad.block = rb := fun e => hne (by rw [e])
  clear hne hr
  go_enter Try.func80, Try.ntmps80
  go_wp2_with (go_at_call 91; refine (C.out).mono ?_; rintro e w' ⟨rfl, m, rfl⟩)
  go_quiet (fail)
  go_wp2
  go_region
  go_wp2
  go_end0
  have hnl := HN.out
  have hkl := HK.out
  subst hnl hkl
  refine ⟨rfl, ?_, ?_⟩
  · exact ((((((H.out.drewN m).set_ 1 _ (s' := { s with at_ := s.at_ + 1 }) rfl (by simp; omega)).drewN (nq + 1)).set_ 17 _ (s' := { s with at_ := s.at_ + 1, pad := c }) rfl (by simp; omega)).set_ 18 _
      (s' := { s with at_ := s.at_ + 1, pad := c, padAt := wh }) rfl (by simp; omega)).set_ 1 _ rfl (by simp; omega))
  · exact only_setCell (p := ⟨rb, 1, none⟩) (only_setCell (p := ⟨rb, 18, none⟩) (only_setCell (p := ⟨rb, 17, none⟩) (only_drewN (only_setCell (p := ⟨rb, 1, none⟩) (only_drewN (only_refl w _) m) (.inl rfl) _) _) (.inl rfl) _) (.inl rfl) _) (.inl rfl) _

theorem pad_stop (h : Rd w rb A cap l s) (wh : Int) (hp : s.padAt = 0 → s.pad = 0) (hn : padL wh (s.pad, s.padAt) (l.drop s.at_) = none) :
    Calls Try.prog 80 #[.pointer (some ⟨rb, 0, none⟩), .int .i64 wh] w fun e w' => Wrong e ∧ w.grownBy w' (some rb) := by
  by_cases h0 : s.padAt = 0
  · cases hl : l.drop s.at_ with
    | nil => rw [hl] at hn; simp [padL, h0] at hn
    | cons c t =>
      rw [hl] at hn
      by_cases hc : c = 42
      · subst hc
        cases t with
        | nil => exact pad_end h wh h0 (hp h0) hl
        | cons d u => simp [padL, h0] at hn
      · simp [padL, h0, hc] at hn
  · simp [padL, h0] at hn

theorem pad_goes (h : Rd w rb A cap l s) (wh : Int) (hp : s.padAt = 0 → s.pad = 0) {q : (Int × Int) × List Int} (hn : padL wh (s.pad, s.padAt) (l.drop s.at_) = some q) :
    Calls Try.prog 80 #[.pointer (some ⟨rb, 0, none⟩), .int .i64 wh] w fun e w' =>
      e = .returned (.tuple #[]) ∧ (∃ k, l.drop k = q.2 ∧ Rd w' rb A cap l { s with at_ := k, pad := q.1.1, padAt := q.1.2 }) ∧ w.grownBy w' (some rb) := by
  have same : ∀ {w'}, Rd w' rb A cap l s → q = ((s.pad, s.padAt), l.drop s.at_) → ∃ k, l.drop k = q.2 ∧ Rd w' rb A cap l { s with at_ := k, pad := q.1.1, padAt := q.1.2 } :=
    fun {w'} hr e => ⟨s.at_, by rw [e], by rw [e]; exact hr⟩
  by_cases h0 : s.padAt = 0
  · cases hl : l.drop s.at_ with
    | nil =>
      rw [hl] at hn
      refine (pad_not h wh h0 (hp h0) (by rw [hl]; simp)).mono fun e w' ⟨he, hr, hg⟩ => ⟨he, same hr ?_, hg⟩
      rw [hl]
      simp [padL, h0] at hn
      rw [← hn, h0]
    | cons c t =>
      rw [hl] at hn
      by_cases hc : c = 42
      · subst hc
        cases t with
        | nil => simp [padL, h0] at hn
        | cons d u =>
          simp [padL, h0] at hn
          refine (pad_rune h wh h0 (hp h0) hl).mono fun e w' ⟨he, hr, hg⟩ => ⟨he, ⟨s.at_ + 2, ?_, ?_⟩, hg⟩
          · rw [← hn]; exact drop_succ (drop_succ hl)
          · rw [← hn]; exact hr
      · refine (pad_not h wh h0 (hp h0) (by rw [hl]; simpa using hc)).mono fun e w' ⟨he, hr, hg⟩ => ⟨he, same hr ?_, hg⟩
        rw [hl]
        simp [padL, h0, hc] at hn
        rw [← hn, h0]
  · refine (pad_there h wh h0).mono fun e w' ⟨he, hr, hg⟩ => ⟨he, same hr ?_, hg⟩
    simp [padL, h0] at hn
    exact hn.symm
end
end Go.Proofs.Ytdbcdgojbegakaa
