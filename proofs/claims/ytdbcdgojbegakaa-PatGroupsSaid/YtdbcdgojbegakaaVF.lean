/-
The reference's first half: what it comes to.
-/
import Derived.Test.YtdbcdgojbegakaaVE
namespace Go.Proofs.Ytdbcdgojbegakaa
open Go.RowKit Go.Proofs.YtdbcdgojbegakaaW.PrintWords

/-- A row of tokens, its block's type known. -/
def TT (w : World) (v : Value) (ts : List Tk) : Prop := TL w v ts ∧ ∀ k, v.ownBlock = some k → Typ w k 34
section
variable {w W W' : World} {v : Value} {ts : List Tk}
theorem TT.grown (h : TT w v ts) (hg : w.grownBy W none) : TT W v ts := ⟨h.1.grown hg, fun k hk => (h.2 k hk).grown hg (by simp)⟩
theorem TT.form (h : TT w v ts) : ∃ A c, v = .slice A ts.length c := by
  obtain ⟨A, c, e, -⟩ := h.1
  exact ⟨A, c, e⟩
theorem TT.nil (w : World) : TT w (.slice none 0 0) [] := ⟨⟨none, 0, rfl, fun i t hi => by simp at hi, fun _ => rfl⟩, fun k hk => by simp [Value.ownBlock] at hk⟩
theorem TT.set_ (h : TT w v ts) {g : Nat} {cs : Array Value} (hb : Blk w g 24 cs) (i : Nat) (u : Value) : TT (w.setCell ⟨g, i, none⟩ u) v ts := by
  obtain ⟨⟨A, cap, e, hh, hz⟩, ht⟩ := h
  have hne : ∀ ad, A = some ad → ad.block ≠ g := by
    rintro ad rfl
    subst e
    exact (ht ad.block rfl).ne hb.typ (by decide)
  refine ⟨⟨A, cap, e, fun j t hj => ?_, hz⟩, fun k hk => ?_⟩
  · obtain ⟨ad, ea, h1, h2⟩ := hh j t hj
    have hn := hne ad ea
    have ha : ∀ n, (w.setCell ⟨g, i, none⟩ u).cell? (ad.add n) = w.cell? (ad.add n) := fun n => by
      unfold World.cell?
      have hbk : (ad.add n).block = ad.block := by unfold Addr.add; split <;> rfl
      rw [hbk, Below.heap_setCell w ⟨g, i, none⟩ u ad.block hn]
    exact ⟨ad, ea, (ha _).trans h1, (ha _).trans h2⟩
  · obtain ⟨cs', fz, hc⟩ := ht k hk
    have hn : k ≠ g := (show Typ w k 34 from ⟨cs', fz, hc⟩).ne hb.typ (by decide)
    exact ⟨cs', fz, (Below.heap_setCell w ⟨g, i, none⟩ u k hn).trans hc⟩
end
theorem toks_tt {w : World} {base : Nat} {ok : Nat → Prop} {v : Value} {ts : List Tk} (h : Kd.R V.k34 34 w base ok v (ts.map sOf)) : TT w v ts :=
  ⟨toks_tl h, fun k hk => by obtain ⟨cells, hc⟩ := Kd.R_typed h k hk; exact ⟨cells, (0, 0), hc⟩⟩

/-- What the reference's affix hands back. -/
def AffW (l : List Int) (o : Option (List Tk × List Int)) (e : Ending) (w' : World) : Prop :=
  match o with
  | some q => ∃ v, e = .returned (.tuple #[v, .int .i64 ((l.length - q.2.length : Nat) : Int), .bool true]) ∧ TT w' v q.1
  | none => ∃ A n c a, e = .returned (.tuple #[.slice A n c, .int .i64 a, .bool false])
theorem affix_ref2 (w : World) (A : Option Addr) (cap : Nat) (l : List Int) (h : RL w A l) (hcap : l.length ≤ cap) (hl : l.length ≤ 60000) (i : Nat) (hi : i ≤ l.length) :
    Calls Try.prog 64 #[.slice A l.length cap, .int .i64 i] w fun e w' => AffW l (affixL (l.drop i)) e w' ∧ w.grownBy w' none := by
  obtain ⟨k, r, hk, hm⟩ := affix_f l hl i hi
  obtain ⟨r1, r2, r3⟩ := r
  refine (V.exergueref10_affix.calls k A cap l i r1 r2 r3 w (kd_int h (by omega)) hcap hk).mono fun e w' ⟨v, he, hR, hb⟩ => ⟨?_, none_of_below hb⟩
  cases ha : affixL (l.drop i) with
  | none =>
    rw [ha] at hm
    have hm' : r3 = false := hm
    obtain ⟨A', c', hv, -, -⟩ := Kd.R_reads hR
    exact ⟨A', r1.length, c', r2, by rw [he, hv, hm']⟩
  | some q =>
    rw [ha] at hm
    obtain ⟨hm1, -⟩ := hm
    simp only [Prod.mk.injEq, List.nil_append] at hm1
    obtain ⟨rfl, rfl, rfl⟩ := hm1
    exact ⟨v, he, toks_tt hR⟩

/-! What is behind what was read is an end of it. -/
theorem padL_suf {wh : Int} {pd : Int × Int} {l : List Int} {q : (Int × Int) × List Int} (h : padL wh pd l = some q) : ∃ j, l.drop j = q.2 := by
  unfold padL at h
  split at h
  · injection h with h; subst h; exact ⟨0, rfl⟩
  · cases l with
    | nil => injection h with h; subst h; exact ⟨0, rfl⟩
    | cons c t =>
      simp only at h
      split at h
      · cases t with
        | nil => cases h
        | cons d u => injection h with h; subst h; exact ⟨2, rfl⟩
      · injection h with h; subst h; exact ⟨0, rfl⟩
theorem padL_nn {wh : Int} {pd : Int × Int} {l : List Int} {q : (Int × Int) × List Int} (h : padL wh pd l = some q) (hw : 0 ≤ wh) (hp : 0 ≤ pd.2) : 0 ≤ q.1.2 := by
  unfold padL at h
  split at h
  · injection h with h; subst h; exact hp
  · cases l with
    | nil => injection h with h; subst h; exact hp
    | cons c t =>
      simp only at h
      split at h
      · cases t with
        | nil => cases h
        | cons d u => injection h with h; subst h; exact hw
      · injection h with h; subst h; exact hp
theorem quotedL_suf : ∀ (n : Nat) (l : List Int), l.length ≤ n → ∀ q, quotedL l = some q → ∃ j, l.drop j = q.2
  | 0, [], _, q, h => by rw [quotedL.eq_def] at h; cases h
  | n + 1, [], _, q, h => by rw [quotedL.eq_def] at h; cases h
  | n + 1, c :: t, hl, q, h => by
    have hl' : t.length ≤ n := by simpa using hl
    rw [quotedL.eq_def] at h
    simp only at h
    split at h
    · cases t with
      | nil => simp at h; subst h; exact ⟨1, rfl⟩
      | cons d u =>
        simp only at h
        split at h
        · obtain ⟨p, hp, rfl⟩ := Option.map_eq_some_iff.1 h
          obtain ⟨j, hj⟩ := quotedL_suf n u (by simp at hl'; omega) p hp
          exact ⟨j + 2, hj⟩
        · simp at h; subst h; exact ⟨1, rfl⟩
    · obtain ⟨p, hp, rfl⟩ := Option.map_eq_some_iff.1 h
      obtain ⟨j, hj⟩ := quotedL_suf n t hl' p hp
      exact ⟨j + 1, hj⟩
theorem affixF_suf : ∀ (n : Nat) (l : List Int) (q : List Tk × List Int), affixF n l = some q → ∃ j, l.drop j = q.2
  | 0, l, q, h => by cases h
  | n + 1, [], q, h => by injection h with h; subst h; exact ⟨0, rfl⟩
  | n + 1, c :: t, q, h => by
    simp only [affixF] at h
    split at h
    · cases hq : affixF n t with
      | none => rw [hq] at h; cases h
      | some r =>
        rw [hq] at h
        injection h with h
        subst h
        obtain ⟨j, hj⟩ := affixF_suf n t r hq
        exact ⟨j + 1, hj⟩
    · split at h
      · split at h
        · cases hq : affixF n (t.drop 1) with
          | none => rw [hq] at h; cases h
          | some r =>
            rw [hq] at h
            injection h with h
            subst h
            obtain ⟨j, hj⟩ := affixF_suf n _ r hq
            exact ⟨1 + j + 1, by rw [List.drop_succ_cons, ← List.drop_drop]; exact hj⟩
        · cases hk : quotedL t with
          | none => rw [hk] at h; cases h
          | some z =>
            rw [hk] at h
            simp only [Option.bind_some] at h
            cases hq : affixF n z.2 with
            | none => rw [hq] at h; cases h
            | some r =>
              rw [hq] at h
              injection h with h
              subst h
              obtain ⟨i, hi⟩ := quotedL_suf _ t (Nat.le_refl _) z hk
              obtain ⟨j, hj⟩ := affixF_suf n _ r hq
              rw [← hi, List.drop_drop] at hj
              exact ⟨i + j + 1, hj⟩
      · split at h
        · injection h with h; subst h; exact ⟨0, rfl⟩
        · cases hq : affixF n t with
          | none => rw [hq] at h; cases h
          | some r =>
            rw [hq] at h
            injection h with h
            subst h
            obtain ⟨j, hj⟩ := affixF_suf n t r hq
            exact ⟨j + 1, hj⟩
theorem affixL_suf {l : List Int} {q : List Tk × List Int} (h : affixL l = some q) : ∃ j, l.drop j = q.2 := affixF_suf _ l q h
theorem fracL_suf {l : List Int} {q : (Int × Int) × List Int} (h : fracL l = some q) : ∃ j, l.drop j = q.2 := by
  cases l with
  | nil => injection h with h; subst h; exact ⟨0, rfl⟩
  | cons c t =>
    simp only [fracL] at h
    split at h
    · split at h
      · cases h
      · injection h with h; subst h
        exact ⟨runLen 48 t + runLen 35 (t.drop (runLen 48 t)) + 1, by rw [List.drop_succ_cons, ← List.drop_drop]⟩
    · injection h with h; subst h; exact ⟨0, rfl⟩
theorem expL_suf {l : List Int} {q : (Bool × Int) × List Int} (h : expL l = some q) : ∃ j, l.drop j = q.2 := by
  cases l with
  | nil => injection h with h; subst h; exact ⟨0, rfl⟩
  | cons c t =>
    simp only [expL] at h
    split at h
    · split at h
      · split at h
        · cases h
        · injection h with h; subst h
          exact ⟨1 + _ + 1, by rw [List.drop_succ_cons, ← List.drop_drop]⟩
      · split at h
        · cases h
        · injection h with h; subst h
          exact ⟨_ + 1, by rw [List.drop_succ_cons]⟩
    · injection h with h; subst h; exact ⟨0, rfl⟩
theorem suf_trans {l r s : List Int} (h : ∃ j, l.drop j = r) (k : ∃ j, r.drop j = s) : ∃ j, l.drop j = s := by
  obtain ⟨i, rfl⟩ := h
  obtain ⟨j, hj⟩ := k
  exact ⟨i + j, by rw [← hj, List.drop_drop]⟩
theorem numberL_suf {l : List Int} {q : Nm × List Int} (h : numberL l = some q) : ∃ j, l.drop j = q.2 := by
  simp only [numberL] at h
  obtain ⟨z, hz, h2⟩ := Option.bind_eq_some_iff.1 h
  obtain ⟨e, he, hq⟩ := Option.map_eq_some_iff.1 h2
  subst hq
  refine suf_trans ?_ (expL_suf he)
  split at hz
  · injection hz with hz; subst hz
    exact ⟨_, by rw [← List.drop_drop]⟩
  · obtain ⟨y, hy, hz⟩ := Option.bind_eq_some_iff.1 hz
    obtain ⟨f, hf, hz⟩ := Option.map_eq_some_iff.1 hz
    subst hz
    exact suf_trans (placesL_suf _ _ _ _ _ y hy) (fracL_suf hf)
theorem suf_len {l r : List Int} {i : Nat} (h : ∃ j, (l.drop i).drop j = r) : l.drop (l.length - r.length) = r := by
  obtain ⟨j, hj⟩ := h
  rw [List.drop_drop] at hj
  exact drop_len hj

/-- What the first half hands on. -/
structure Fst where
  pre : List Tk
  suf : List Tk
  nm : Nm
  pd : Int × Int
  fr : Nat
  to_ : Nat
  at_ : Nat
/-- The first half. -/
def fst6 (n : Nat) (pre : List Tk) (b : List Int) (nm : Nm × List Int) (c : Int × Int) (suf : List Tk × List Int) : Option Fst := (padL 4 c suf.2).bind fun d => some ⟨pre, suf.1, nm.1, d.1, n - b.length, n - nm.2.length, n - d.2.length⟩
def fst5 (n : Nat) (pre : List Tk) (b : List Int) (nm : Nm × List Int) (c : (Int × Int) × List Int) : Option Fst := (affixL c.2).bind fun suf => fst6 n pre b nm c.1 suf
def fst4 (n : Nat) (pre : List Tk) (b : (Int × Int) × List Int) (nm : Nm × List Int) : Option Fst := (padL 3 b.1 nm.2).bind fun c => fst5 n pre b.2 nm c
def fst3 (n : Nat) (pre : List Tk) (b : (Int × Int) × List Int) : Option Fst := (numberL b.2).bind fun nm => fst4 n pre b nm
def fst2 (n : Nat) (a : Int × Int) (pre : List Tk × List Int) : Option Fst := (padL 2 a pre.2).bind fun b => fst3 n pre.1 b
def fst1 (n : Nat) (a : (Int × Int) × List Int) : Option Fst := (affixL a.2).bind fun pre => fst2 n a.1 pre
def fstL (l : List Int) : Option Fst := (padL 1 (0, 0) l).bind fun a => fst1 l.length a

theorem whole_fst (l : List Int) : wholeL l = (fstL l).bind fun x => whole7 x.pre x.suf x.nm ((l.drop x.fr).take (x.to_ - x.fr)) (x.pd, l.drop x.at_) := by
  unfold wholeL fstL
  cases h1 : padL 1 (0, 0) l with
  | none => rfl
  | some a =>
    have s1 := padL_suf h1
    simp only [Option.bind_some, whole1, fst1]
    cases h2 : affixL a.2 with
    | none => rfl
    | some b =>
      have s2 := suf_trans s1 (affixL_suf h2)
      simp only [Option.bind_some, whole2, fst2]
      cases h3 : padL 2 a.1 b.2 with
      | none => rfl
      | some c =>
        have s3 := suf_trans s2 (padL_suf h3)
        simp only [Option.bind_some, whole3, fst3]
        cases h4 : numberL c.2 with
        | none => rfl
        | some d =>
          have s4 := suf_trans s3 (numberL_suf h4)
          simp only [Option.bind_some, whole4, fst4]
          cases h5 : padL 3 c.1 d.2 with
          | none => rfl
          | some e =>
            have s5 := suf_trans s4 (padL_suf h5)
            simp only [Option.bind_some, whole5, fst5]
            cases h6 : affixL e.2 with
            | none => rfl
            | some f =>
              have s6 := suf_trans s5 (affixL_suf h6)
              simp only [Option.bind_some, whole6, fst6]
              cases h7 : padL 4 e.1 f.2 with
              | none => rfl
              | some g =>
                have s7 := suf_trans s6 (padL_suf h7)
                simp only [Option.bind_some]
                have e3 : l.drop (l.length - c.2.length) = c.2 := suf_len (i := 0) (by simpa using s3)
                have e7 : l.drop (l.length - g.2.length) = g.2 := suf_len (i := 0) (by simpa using s7)
                rw [e3, e7]
                have hl : c.2.length ≤ l.length := by obtain ⟨j, hj⟩ := s3; rw [← hj, List.length_drop]; omega
                rw [show l.length - d.2.length - (l.length - c.2.length) = c.2.length - d.2.length by omega]
end Go.Proofs.Ytdbcdgojbegakaa
