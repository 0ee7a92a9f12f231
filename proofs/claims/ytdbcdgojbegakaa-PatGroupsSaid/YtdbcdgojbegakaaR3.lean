/-
The pattern reader's small steps: does a rune stand here; go over it; go over it as often as it stands here.
The pattern reader's pad.
The pattern reader's quoted: what is in quotes, behind the first one.
-/
import Derived.Test.YtdbcdgojbegakaaB
import Derived.RegionTactic
import Derived.ChangeAlike
import Derived.BigRegion
namespace Go.Proofs.Ytdbcdgojbegakaa
open Go.RowKit

section
variable {w : World} {rb : Nat} {A : Option Addr} {cap : Nat} {l : List Int} {s : RS}

set_option maxHeartbeats 400000 in
theorem is_some (h : Rd w rb A cap l s) (c d : Int) {t : List Int} (hd : l.drop s.at_ = d :: t) :
    Calls Try.prog 91 #[.pointer (some ⟨rb, 0, none⟩), .int .i32 c] w fun e w' => e = .returned (.bool (d == c)) ∧ ∃ m, w' = w.drewN m := by
  obtain ⟨hlt, ad, rfl, hr⟩ := h.rl.drop hd
  have h0 := h.c0
  have h1 := h.c1
  clear hd h
  generalize s.at_ = k at *
  generalize l.length = n at *
  have hd : decide (k < n) = true := by simpa using hlt
  go_enter Try.func91, Try.ntmps91
  go_wp2
  go_quiet (fail)
  go_wp2
  go_ret
  exact ⟨rfl, _, rfl⟩

set_option maxHeartbeats 400000 in
theorem is_none (h : Rd w rb A cap l s) (c : Int) (hd : l.drop s.at_ = []) :
    Calls Try.prog 91 #[.pointer (some ⟨rb, 0, none⟩), .int .i32 c] w fun e w' => e = .returned (.bool false) ∧ ∃ m, w' = w.drewN m := by
  have hge : l.length ≤ s.at_ := List.drop_eq_nil_iff.1 hd
  have h0 := h.c0
  have h1 := h.c1
  clear hd h
  generalize s.at_ = k at *
  generalize l.length = n at *
  have hd : decide (k < n) = false := by simpa using hge
  go_enter Try.func91, Try.ntmps91
  go_wp2
  go_quiet (fail)
  go_wp2
  go_ret
  exact ⟨rfl, _, rfl⟩

theorem is_yes (h : Rd w rb A cap l s) {c : Int} {t : List Int} (hd : l.drop s.at_ = c :: t) :
    Calls Try.prog 91 #[.pointer (some ⟨rb, 0, none⟩), .int .i32 c] w fun e w' => e = .returned (.bool true) ∧ ∃ m, w' = w.drewN m :=
  (is_some h c c hd).mono fun e w' ⟨he, hw⟩ => ⟨by rw [he]; simp, hw⟩
theorem is_no (h : Rd w rb A cap l s) {c : Int} (hd : (l.drop s.at_).head? ≠ some c) :
    Calls Try.prog 91 #[.pointer (some ⟨rb, 0, none⟩), .int .i32 c] w fun e w' => e = .returned (.bool false) ∧ ∃ m, w' = w.drewN m := by
  cases hl : l.drop s.at_ with
  | nil => exact is_none h c hl
  | cons d t =>
    refine (is_some h c d hl).mono fun e w' ⟨he, hw⟩ => ⟨?_, hw⟩
    rw [hl] at hd
    rw [he, show (d == c) = false by simpa using hd]

set_option maxHeartbeats 400000 in
theorem has_yes (h : Rd w rb A cap l s) {c : Int} {t : List Int} (hd : l.drop s.at_ = c :: t) :
    Calls Try.prog 83 #[.pointer (some ⟨rb, 0, none⟩), .int .i32 c] w fun e w' =>
      e = .returned (.bool true) ∧ Rd w' rb A cap l { s with at_ := s.at_ + 1 } ∧ w.grownBy w' (some rb) := by
  have hlt := (h.rl.drop hd).1
  have h1 := h.c1
  have hf := h.frozen 1
  have hb : s.at_ ≤ 120 := Nat.le_trans h.le h.len
  have C := Lib.hid (is_yes h hd)
  have H := Lib.hid h
  clear h hd
  go_enter Try.func83, Try.ntmps83
  go_wp2_with (go_at_call 91; refine (C.out).mono ?_; rintro e w' ⟨rfl, m, rfl⟩)
  go_ret
  refine ⟨rfl, ?_, only_setCell (p := ⟨rb, 1, none⟩) (only_drewN (only_refl w _) m) (.inl rfl) _⟩
  exact (H.out.drewN m).set_ 1 _ rfl hlt

set_option maxHeartbeats 400000 in
theorem has_no (h : Rd w rb A cap l s) {c : Int} (hd : (l.drop s.at_).head? ≠ some c) :
    Calls Try.prog 83 #[.pointer (some ⟨rb, 0, none⟩), .int .i32 c] w fun e w' =>
      e = .returned (.bool false) ∧ Rd w' rb A cap l s ∧ w.grownBy w' (some rb) := by
  have C := Lib.hid (is_no h hd)
  have H := Lib.hid h
  clear h hd
  go_enter Try.func83, Try.ntmps83
  go_wp2_with (go_at_call 91; refine (C.out).mono ?_; rintro e w' ⟨rfl, m, rfl⟩)
  go_ret
  exact ⟨rfl, H.out.drewN m, only_drewN (only_refl w _) m⟩

theorem drop_succ {l t : List Int} {k : Nat} {c : Int} (h : l.drop k = c :: t) : l.drop (k + 1) = t := by
  rw [← List.drop_drop, h]; rfl
theorem runLen_cons (c : Int) (t : List Int) : runLen c (c :: t) = runLen c t + 1 := by simp [runLen]
theorem runLen_not {c : Int} {l : List Int} (h : l.head? ≠ some c) : runLen c l = 0 := by
  cases l with
  | nil => rfl
  | cons d t => simp only [runLen]; rw [if_neg (by simpa using h)]
theorem runLen_le (c : Int) (l : List Int) : runLen c l ≤ l.length := by
  induction l with
  | nil => exact Nat.le_refl _
  | cons d t ih => simp only [runLen]; split <;> simp <;> omega

set_option maxHeartbeats 400000 in
theorem count_any (h : Rd w rb A cap l s) (c : Int) :
    Calls Try.prog 93 #[.pointer (some ⟨rb, 0, none⟩), .int .i32 c] w fun e w' =>
      e = .returned (.int .i64 (runLen c (l.drop s.at_) : Nat)) ∧ Rd w' rb A cap l { s with at_ := s.at_ + runLen c (l.drop s.at_) } ∧ w.grownBy w' (some rb) := by
  have H := Lib.hid h
  clear h
  go_enter Try.func93, Try.ntmps93
  go_wp2_with fail
  go_loopw [5] (fun v wr => ∃ j : Nat, v = .int .i64 j ∧ Hid (Rd wr rb A cap l { s with at_ := s.at_ + j }) ∧ Hid (w.grownBy wr (some rb)) ∧ Hid (runLen c (l.drop s.at_) = j + runLen c (l.drop (s.at_ + j)))) (fun v _ => 120 - (intOf v).toNat)
  case atStart => exact ⟨0, rfl, H, only_refl w _, by simp [Hid]⟩
  case round =>
    obtain ⟨j, rfl, HR, HG, HN⟩ := hrel
    have hb : s.at_ + j ≤ 120 := Nat.le_trans HR.out.le HR.out.len
    by_cases hc : (l.drop (s.at_ + j)).head? = some c
    · obtain ⟨t, ht⟩ : ∃ t, l.drop (s.at_ + j) = c :: t := by
        cases hl : l.drop (s.at_ + j) with
        | nil => rw [hl] at hc; cases hc
        | cons d t => rw [hl] at hc; simp at hc; exact ⟨t, by rw [hc]⟩
      have hlt := (HR.out.rl.drop ht).1
      have hb2 : s.at_ + j < 120 := Nat.lt_of_lt_of_le hlt HR.out.len
      have C := Lib.hid (has_yes HR.out ht)
      have HN' : Hid (runLen c (l.drop s.at_) = (j + 1) + runLen c (l.drop (s.at_ + (j + 1)))) := by
        have := HN.out
        rw [ht, runLen_cons] at this
        rw [← Nat.add_assoc, drop_succ ht]
        show _ = _
        omega
      clear ht hlt hc
      go_wp2_with (go_at_call 83; refine (C.out).mono ?_; rintro e w' ⟨rfl, hr2, hg2⟩; have HR2 := Lib.hid hr2; have HG2 := Lib.hid hg2; clear hr2 hg2)
      go_roundw
      case rel => exact ⟨j + 1, by go_num, HR2, only_trans HG.out HG2.out, HN'⟩
      case measure => simp [intOf]; omega
    · have C := Lib.hid (has_no HR.out hc)
      have HE : Hid (runLen c (l.drop s.at_) = j) := by
        have := HN.out
        rw [runLen_not hc] at this
        exact this
      clear hc
      go_wp2_with (go_at_call 83; refine (C.out).mono ?_; rintro e w' ⟨rfl, hr2, hg2⟩; have HR2 := Lib.hid hr2; have HG2 := Lib.hid hg2; clear hr2 hg2)
      go_ret
      refine ⟨by rw [HE.out]; rfl, ?_, only_trans HG.out HG2.out⟩
      rw [HE.out]
      exact HR2.out
end
end Go.Proofs.Ytdbcdgojbegakaa
namespace Go.Proofs.Ytdbcdgojbegakaa
open Go.RowKit

/-- A panic of the reader's own. -/
def Wrong (e : Ending) : Prop := ∃ x : Int, e = .panicked [{ v := .iface 62 (.int .i64 x), recovered := false }]

section
variable {w : World} {rb : Nat} {A : Option Addr} {cap : Nat} {l : List Int} {s : RS}

set_option maxHeartbeats 400000 in
theorem pad_there (h : Rd w rb A cap l s) (wh : Int) (hp : s.padAt ≠ 0) :
    Calls Try.prog 80 #[.pointer (some ⟨rb, 0, none⟩), .int .i64 wh] w fun e w' =>
      e = .returned (.tuple #[]) ∧ Rd w' rb A cap l s ∧ w.grownBy w' (some rb) := by
  have h17 := h.c17
  have h18 := h.c18
  have H := Lib.hid h
  clear h
  have hb : (s.padAt != 0) = true := by simpa using hp
  generalize s.padAt = pa at *
  generalize s.pad = pd at *
  clear hp
  by_cases hq : pd = 0
  · subst hq
    go_enter Try.func80, Try.ntmps80
    go_wp2
    refine bodyPost_ret (results_none rfl _ _ _) rfl ?_
    exact ⟨rfl, H.out, only_refl w _⟩
  · have hq2 : (pd != 0) = true := by simpa using hq
    clear hq
    go_enter Try.func80, Try.ntmps80
    go_wp2
    refine bodyPost_ret (results_none rfl _ _ _) rfl ?_
    exact ⟨rfl, H.out, only_refl w _⟩

set_option maxHeartbeats 400000 in
theorem pad_not (h : Rd w rb A cap l s) (wh : Int) (hp : s.padAt = 0) (hq : s.pad = 0) (hd : (l.drop s.at_).head? ≠ some 42) :
    Calls Try.prog 80 #[.pointer (some ⟨rb, 0, none⟩), .int .i64 wh] w fun e w' =>
      e = .returned (.tuple #[]) ∧ Rd w' rb A cap l s ∧ w.grownBy w' (some rb) := by
  have h17 := h.c17
  have h18 := h.c18
  have C := Lib.hid (is_no h hd)
  have H := Lib.hid h
  rw [hq] at h17
  rw [hp] at h18
  clear h hd hp hq
  go_enter Try.func80, Try.ntmps80
  go_wp2_with (go_at_call 91; refine (C.out).mono ?_; rintro e w' ⟨rfl, m, rfl⟩)
  refine bodyPost_ret (results_none rfl _ _ _) rfl ?_
  exact ⟨rfl, H.out.drewN m, only_drewN (only_refl w _) m⟩

set_option maxHeartbeats 400000 in
theorem pad_end (h : Rd w rb A cap l s) (wh : Int) (hp : s.padAt = 0) (hq : s.pad = 0) (hd : l.drop s.at_ = [42]) :
    Calls Try.prog 80 #[.pointer (some ⟨rb, 0, none⟩), .int .i64 wh] w fun e w' =>
      Wrong e ∧ w.grownBy w' (some rb) := by
  have h17 := h.c17
  have h18 := h.c18
  have h0 := h.c0
  have h1 := h.c1
  have hf := h.frozen 1
  have C := Lib.hid (is_yes h hd)
  have hlt := (h.rl.drop hd).1
  have hge : l.length ≤ s.at_ + 1 := List.drop_eq_nil_iff.1 (drop_succ hd)
  have hlen := h.len
  have H := Lib.hid h
  rw [hq] at h17
  rw [hp] at h18
  clear h hd hp hq
  generalize hn : l.length = n at *
  generalize hk : s.at_ = k at *
  have hge2 : decide (n ≤ k + 1) = true := by simpa using hge
  clear hn hk
  go_enter Try.func80, Try.ntmps80
  go_wp2_with (go_at_call 91; refine (C.out).mono ?_; rintro e w' ⟨rfl, m, rfl⟩)
  go_quiet (fail)
  go_wp2
  exact ⟨rfl, ⟨_, rfl⟩, only_drewN (only_setCell (p := ⟨rb, 1, none⟩) (only_drewN (only_refl w _) m) (.inl rfl) _) _⟩

set_option maxHeartbeats 400000 in
theorem pad_rune (h : Rd w rb A cap l s) (wh : Int) (hp : s.padAt = 0) (hq : s.pad = 0) {c : Int} {t : List Int} (hd : l.drop s.at_ = 42 :: c :: t) :
    Calls Try.prog 80 #[.pointer (some ⟨rb, 0, none⟩), .int .i64 wh] w fun e w' =>
      e = .returned (.tuple #[]) ∧ Rd w' rb A cap l { s with at_ := s.at_ + 2, pad := c, padAt := wh } ∧ w.grownBy w' (some rb) := by
  have h17 := h.c17
  have h18 := h.c18
  have h0 := h.c0
  have h1 := h.c1
  have hf := h.frozen
  have C := Lib.hid (is_yes h hd)
  have hd2 := drop_succ hd
  obtain ⟨hlt, ad, rfl, hr⟩ := h.rl.drop hd2
  have hlen := h.len
  have hne := h.ne _ rfl
  have H := Lib.hid h
  rw [hq] at h17
  rw [hp] at h18
  clear h hd hp hq hd2
  generalize hn : l.length = n at *
  generalize hk : s.at_ = k at *
  have hge2 : decide (n ≤ k + 1) = false := by simpa using hlt
  have HN := Lib.hid hn
  have HK := Lib.hid hk
  clear hn hk
  have hz : (0 : Int) ≤ (k : Int) + 1 := by omega
  have hr2 : w.cell? ⟨ad.block, ad.off + (k + 1), none⟩ = some (.int .i32 c) := by simpa [Addr.add] using hr
  have hne2 : ¬ ad.block = rb := fun e => hne (by rw [e])
  clear hne hr
  go_enter Try.func80, Try.ntmps80
  go_wp2_with (go_at_call 91; refine (C.out).mono ?_; rintro e w' ⟨rfl, m, rfl⟩)
  go_quiet (fail)
  go_wp2
  go_region
  go_wp2
  go_end0
  have hnl := HN.out
  have hkl := HK.out
  subst hnl hkl
  refine ⟨rfl, ?_, ?_⟩
  · exact ((((((H.out.drewN m).set_ 1 _ (s' := { s with at_ := s.at_ + 1 }) rfl (by simp; omega)).drewN (nq + 1)).set_ 17 _ (s' := { s with at_ := s.at_ + 1, pad := c }) rfl (by simp; omega)).set_ 18 _
      (s' := { s with at_ := s.at_ + 1, pad := c, padAt := wh }) rfl (by simp; omega)).set_ 1 _ rfl (by simp; omega))
  · exact only_setCell (p := ⟨rb, 1, none⟩) (only_setCell (p := ⟨rb, 18, none⟩) (only_setCell (p := ⟨rb, 17, none⟩) (only_drewN (only_setCell (p := ⟨rb, 1, none⟩) (only_drewN (only_refl w _) m) (.inl rfl) _) _) (.inl rfl) _) (.inl rfl) _) (.inl rfl) _

theorem pad_stop (h : Rd w rb A cap l s) (wh : Int) (hp : s.padAt = 0 → s.pad = 0) (hn : padL wh (s.pad, s.padAt) (l.drop s.at_) = none) :
    Calls Try.prog 80 #[.pointer (some ⟨rb, 0, none⟩), .int .i64 wh] w fun e w' => Wrong e ∧ w.grownBy w' (some rb) := by
  by_cases h0 : s.padAt = 0
  · cases hl : l.drop s.at_ with
    | nil => rw [hl] at hn; simp [padL, h0] at hn
    | cons c t =>
      rw [hl] at hn
      by_cases hc : c = 42
      · subst hc
        cases t with
        | nil => exact pad_end h wh h0 (hp h0) hl
        | cons d u => simp [padL, h0] at hn
      · simp [padL, h0, hc] at hn
  · simp [padL, h0] at hn

theorem pad_goes (h : Rd w rb A cap l s) (wh : Int) (hp : s.padAt = 0 → s.pad = 0) {q : (Int × Int) × List Int} (hn : padL wh (s.pad, s.padAt) (l.drop s.at_) = some q) :
    Calls Try.prog 80 #[.pointer (some ⟨rb, 0, none⟩), .int .i64 wh] w fun e w' =>
      e = .returned (.tuple #[]) ∧ (∃ k, l.drop k = q.2 ∧ Rd w' rb A cap l { s with at_ := k, pad := q.1.1, padAt := q.1.2 }) ∧ w.grownBy w' (some rb) := by
  have same : ∀ {w'}, Rd w' rb A cap l s → q = ((s.pad, s.padAt), l.drop s.at_) → ∃ k, l.drop k = q.2 ∧ Rd w' rb A cap l { s with at_ := k, pad := q.1.1, padAt := q.1.2 } :=
    fun {w'} hr e => ⟨s.at_, by rw [e], by rw [e]; exact hr⟩
  by_cases h0 : s.padAt = 0
  · cases hl : l.drop s.at_ with
    | nil =>
      rw [hl] at hn
      refine (pad_not h wh h0 (hp h0) (by rw [hl]; simp)).mono fun e w' ⟨he, hr, hg⟩ => ⟨he, same hr ?_, hg⟩
      rw [hl]
      simp [padL, h0] at hn
      rw [← hn, h0]
    | cons c t =>
      rw [hl] at hn
      by_cases hc : c = 42
      · subst hc
        cases t with
        | nil => simp [padL, h0] at hn
        | cons d u =>
          simp [padL, h0] at hn
          refine (pad_rune h wh h0 (hp h0) hl).mono fun e w' ⟨he, hr, hg⟩ => ⟨he, ⟨s.at_ + 2, ?_, ?_⟩, hg⟩
          · rw [← hn]; exact drop_succ (drop_succ hl)
          · rw [← hn]; exact hr
      · refine (pad_not h wh h0 (hp h0) (by rw [hl]; simpa using hc)).mono fun e w' ⟨he, hr, hg⟩ => ⟨he, same hr ?_, hg⟩
        rw [hl]
        simp [padL, h0, hc] at hn
        rw [← hn, h0]
  · refine (pad_there h wh h0).mono fun e w' ⟨he, hr, hg⟩ => ⟨he, same hr ?_, hg⟩
    simp [padL, h0] at hn
    exact hn.symm
end
end Go.Proofs.Ytdbcdgojbegakaa
namespace Go.Proofs.Ytdbcdgojbegakaa
open Go.RowKit

/-- What an affix's reading comes to: a row of pieces of the call's own and the place behind; or a panic of the reader's. -/
def QPost (B : Nat) (rb : Nat) (A : Option Addr) (cap : Nat) (l : List Int) (s : RS) (o : Option (List Tk × List Int)) (e : Ending) (w' : World) : Prop :=
  match o with
  | none => Wrong e
  | some q => ∃ v k, e = .returned v ∧ OwnT w' B v q.1 ∧ l.drop k = q.2 ∧ Rd w' rb A cap l { s with at_ := k }

theorem quotedL_plain {c : Int} (t : List Int) (h : c ≠ 39) : quotedL (c :: t) = (quotedL t).map fun p => (⟨0, c⟩ :: p.1, p.2) := by
  rw [quotedL.eq_def]; simp [h]
theorem quotedL_two (t : List Int) : quotedL (39 :: 39 :: t) = (quotedL t).map fun p => (⟨0, 39⟩ :: p.1, p.2) := by
  rw [quotedL.eq_def]; simp
theorem quotedL_end {t : List Int} (h : t.head? ≠ some 39) : quotedL (39 :: t) = some ([], t) := by
  rw [quotedL.eq_def]
  cases t with
  | nil => simp
  | cons d u => simp at h; simp [h]
theorem quotedL_nil : quotedL [] = none := by rw [quotedL.eq_def]

theorem map_app {ts : List Tk} {t : Tk} {o : Option (List Tk × List Int)} :
    (o.map fun p => ((t :: p.1, p.2) : List Tk × List Int)).map (fun p => ((ts ++ p.1, p.2) : List Tk × List Int)) = o.map fun p => (ts ++ [t] ++ p.1, p.2) := by
  cases o <;> simp

section
variable {w : World} {rb : Nat} {A : Option Addr} {cap : Nat} {l : List Int} {s : RS}

set_option maxHeartbeats 400000 in
theorem quoted_two (h : Rd w rb A cap l s) (fr : Int) {t : List Int} (hd : l.drop s.at_ = 39 :: t) :
    Calls Try.prog 92 #[.pointer (some ⟨rb, 0, none⟩), .int .i64 fr] w fun e w' =>
      (∃ v, e = .returned v ∧ OwnT w' w.heap.size v [⟨0, 39⟩] ∧ Rd w' rb A cap l { s with at_ := s.at_ + 1 }) ∧ w.grownBy w' (some rb) := by
  have C := Lib.hid (has_yes h hd)
  clear h hd
  go_enter Try.func92, Try.ntmps92
  go_wp2_with (go_at_call 83; refine (C.out).mono ?_; rintro e w' ⟨rfl, hr2, hg2⟩; have HR2 := Lib.hid hr2; have HG2 := Lib.hid hg2; clear hr2 hg2)
  go_ret
  exact ⟨⟨_, rfl, OwnT.new _ _ ⟨0, 39⟩ HG2.out.size, HR2.out.alloc _⟩, only_alloc HG2.out _⟩

set_option maxRecDepth 100000 in
set_option maxHeartbeats 800000 in
theorem quoted_any (h : Rd w rb A cap l s) (fr : Int) (hd : (l.drop s.at_).head? ≠ some 39) :
    Calls Try.prog 92 #[.pointer (some ⟨rb, 0, none⟩), .int .i64 fr] w fun e w' =>
      QPost w.heap.size rb A cap l s (quotedL (l.drop s.at_)) e w' ∧ w.grownBy w' (some rb) := by
  have C := Lib.hid (has_no h hd)
  have HL := Lib.hid h.len
  clear h hd
  go_enter Try.func92, Try.ntmps92
  go_wp2_with (go_at_call 83; refine (C.out).mono ?_; rintro e w' ⟨rfl, hr2, hg2⟩; have HR2 := Lib.hid hr2; have HG2 := Lib.hid hg2; clear hr2 hg2)
  go_loopg [5] (121 - s.at_) (fun kq v5 wr => ∃ (k : Nat) (ts : List Tk), Hid (kq = 121 - k) ∧ Hid (ts.length ≤ k) ∧ Hid (OwnT wr w.heap.size v5 ts) ∧ Hid (Rd wr rb A cap l { s with at_ := k }) ∧ Hid (w.grownBy wr (some rb)) ∧
    Hid (quotedL (l.drop s.at_) = (quotedL (l.drop k)).map fun p => (ts ++ p.1, p.2)))
  case atStart =>
    exact ⟨s.at_, [], rfl, Nat.zero_le _, OwnT.nil_ _ _, HR2, HG2, by show _ = _; simp⟩
  case round =>
    obtain ⟨k, ts, HK, HT, HO, HR, HG, HQ⟩ := hrel
    clear HR2 HG2
    have hk1 := HR.out.le
    have hk2 := HR.out.len
    have h0 := HR.out.c0
    have h1 := HR.out.c1
    have hf := HR.out.frozen 1
    cases hl : l.drop k with
    | nil =>
      have hge : l.length ≤ k := List.drop_eq_nil_iff.1 hl
      have HE : Hid (quotedL (l.drop s.at_) = none) := by rw [HQ.out, hl, quotedL_nil]; rfl
      generalize hn : l.length = n at *
      have hge2 : decide (k < n) = false := by simpa using hge
      clear hn hl
      go_wp2
      go_quiet (fail)
      go_wp2
      refine ⟨rfl, ?_, ?_⟩
      · rw [HE.out]; exact ⟨_, rfl⟩
      · exact only_drewN HG.out _
    | cons c t =>
      obtain ⟨hlt, ad, rfl, hr⟩ := HR.out.rl.drop hl
      have hne2 : ¬ ad.block = rb := fun e => HR.out.ne _ rfl (by rw [e])
      have HS : Hid (Rd (wr.setCell ⟨rb, 1, none⟩ (.int .i64 ((k : Int) + 1))) rb (some ad) cap l { s with at_ := k + 1 }) := HR.out.set_ 1 _ rfl hlt
      have HGS : Hid (w.grownBy (wr.setCell ⟨rb, 1, none⟩ (.int .i64 ((k : Int) + 1))) (some rb)) := only_setCell (p := ⟨rb, 1, none⟩) HG.out (.inl rfl) _
      have HOS : Hid (OwnT (wr.setCell ⟨rb, 1, none⟩ (.int .i64 ((k : Int) + 1))) w.heap.size u5 ts) := HO.out.set_ (HR.out.far (by decide)) 1 _
      have hd2 := Lib.hid (drop_succ hl)
      generalize hn0 : l.length = n at *
      have hlt2 : decide (k < n) = true := by simpa using hlt
      by_cases hc : c = 39
      · subst hc
        have hcb : ((39 : Int) == 39) = true := rfl
        by_cases hh : t.head? = some 39
        · obtain ⟨u, rfl⟩ : ∃ u, t = 39 :: u := by
            cases t with
            | nil => cases hh
            | cons d u => simp at hh; exact ⟨u, by rw [hh]⟩
          have HQ2 : Hid (quotedL (l.drop s.at_) = (quotedL (l.drop (k + 1 + 1))).map fun p => ((ts ++ [⟨0, 39⟩]) ++ p.1, p.2)) := by
            rw [HQ.out, hl, quotedL_two, map_app, drop_succ hd2.out]; rfl
          have hk3 : k + 1 < 120 := Nat.lt_of_lt_of_le (HR.out.rl.drop hd2.out).1 HR.out.len
          clear hl hn0 hh
          go_wp2
          go_quiet (fail)
          go_wp2
          go_quiet (fail)
          go_wp2_with (first
            | (go_at_call 83; go_must (refine (has_yes (s := { s with at_ := k + 1 }) (c := 39) (t := u) (by exact HS.out.heap rfl) (by exact hd2.out)).mono ?_; rintro e w' ⟨rfl, hr2, hg2⟩; have HR2 := Lib.hid hr2; have HG2 := Lib.hid hg2; clear hr2 hg2))
            | (at_builtin; go_must (refine wpList_append_tk _ rfl (.tmp 46) (.tmp 49) rfl w.heap.size u5 ts 0 39 rfl (by exact HOS.out.grown (only_from HG2.out rfl rfl rfl rfl) (HS.out.far (by decide))) _ rfl rfl (by have := HT.out; omega) (by exact Nat.le_trans HG.out.size (by have := HG2.out.size; rw [size_setCell] at this; exact this)) ?_); intro v' w' hown hgr))
          have HO2 := HOS.out.grown (only_from HG2.out rfl rfl rfl rfl) (HS.out.far (by decide))
          obtain ⟨hr3, hg3⟩ := step_tk hgr HR2.out HO2 (only_trans HGS.out (only_from HG2.out rfl rfl rfl rfl)) (Nat.le_refl _)
          go_roundg (119 - k)
          case measure => have := HK.out; omega
          case rel => exact ⟨k + 1 + 1, ts ++ [⟨0, 39⟩], by show _ = _; omega, by have := HT.out; show _ ≤ _; simp; omega, Lib.hid hown, Lib.hid hr3, Lib.hid hg3, HQ2⟩
        · have HE : Hid (quotedL (l.drop s.at_) = some (ts, l.drop (k + 1))) := by
            rw [HQ.out, hl, quotedL_end hh, hd2.out]; simp [Hid]
          have HH := Lib.hid hh
          clear hl hn0 hh
          go_wp2
          go_quiet (fail)
          go_wp2
          go_quiet (fail)
          go_wp2_with (go_at_call 83; go_must (refine (has_no (s := { s with at_ := k + 1 }) (c := 39) (by exact HS.out.heap rfl) (by rw [show List.drop (RS.at_ { s with at_ := k + 1 }) l = t from hd2.out]; exact HH.out)).mono ?_; rintro e w' ⟨rfl, hr2, hg2⟩; have HR2 := Lib.hid hr2; have HG2 := Lib.hid hg2; clear hr2 hg2))
          go_ret
          refine ⟨?_, only_trans HGS.out (only_from HG2.out rfl rfl rfl rfl)⟩
          rw [HE.out]
          refine ⟨_, k + 1, rfl, ?_, rfl, HR2.out⟩
          exact HOS.out.grown (only_from HG2.out rfl rfl rfl rfl) (HS.out.far (by decide))
      · have hcb : (c == 39) = false := by simpa using hc
        have HQ2 : Hid (quotedL (l.drop s.at_) = (quotedL (l.drop (k + 1))).map fun p => ((ts ++ [⟨0, c⟩]) ++ p.1, p.2)) := by
          rw [HQ.out, hl, quotedL_plain _ hc, map_app, hd2.out]; rfl
        clear hl hc hn0
        go_wp2
        go_quiet (fail)
        go_wp2
        go_quiet (fail)
        go_wp2_with (at_builtin; go_must (refine wpList_append_tk _ rfl (.tmp 46) (.tmp 49) rfl w.heap.size u5 ts 0 c rfl (by exact HOS.out.heap rfl) _ rfl (size_setCell _ _ _).symm (by have := HT.out; omega) (by rw [size_setCell]; exact HG.out.size) ?_); intro v' w' hown hgr)
        obtain ⟨hr3, hg3⟩ := step_tk hgr (HS.out.heap rfl) (HOS.out.heap rfl) (only_same HGS.out rfl rfl rfl rfl) (Nat.le_refl _)
        go_roundg (120 - k)
        case measure => have := HK.out; omega
        case rel => exact ⟨k + 1, ts ++ [⟨0, c⟩], by show _ = _; omega, by have := HT.out; show _ ≤ _; simp; omega, Lib.hid hown, Lib.hid hr3, Lib.hid hg3, HQ2⟩
end
end Go.Proofs.Ytdbcdgojbegakaa
