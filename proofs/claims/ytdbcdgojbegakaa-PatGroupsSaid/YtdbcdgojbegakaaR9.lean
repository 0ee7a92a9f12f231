/-
The pattern reader's whole: a whole pattern.
-/
import Derived.Test.YtdbcdgojbegakaaR4
import Derived.Test.YtdbcdgojbegakaaR8
namespace Go.Proofs.Ytdbcdgojbegakaa
open Go.RowKit

theorem OwnT.form {w : World} {B : Nat} {v : Value} {ts : List Tk} (h : OwnT w B v ts) : ∃ A c, v = .slice A ts.length c := by
  rcases h.2 with ⟨hv, hn⟩ | ⟨g, cap, cur, hv, _⟩
  · exact ⟨none, 0, by rw [hv, hn]⟩
  · exact ⟨_, cap, hv⟩
theorem padL_inv {wh : Int} {pd : Int × Int} {l : List Int} {q : (Int × Int) × List Int} (h : padL wh pd l = some q) (hw : wh ≠ 0) (hp : pd.2 = 0 → pd.1 = 0) : q.1.2 = 0 → q.1.1 = 0 := by
  unfold padL at h
  split at h
  · injection h with h; subst h; exact hp
  · cases l with
    | nil => injection h with h; subst h; exact hp
    | cons c t =>
      simp only at h
      split at h
      · cases t with
        | nil => cases h
        | cons d u => injection h with h; subst h; exact fun e => absurd e hw
      · injection h with h; subst h; exact hp

/-- Where nothing is padded no rune is told. -/
def PInv (pd : Int × Int) : Prop := pd.2 = 0 → pd.1 = 0

/-- What the whole's stages hand on. -/
def WRel (w : World) (rb : Nat) (A : Option Addr) (cap : Nat) (l : List Int) (k : Nat) (v1 v2 v3 v4 : Value) (t1 t2 t3 t4 : List Tk) (neg : Bool) (nm : Nm) (pd : Int × Int) (W : World) : Prop :=
  Rd W rb A cap l ⟨k, v1, v2, v3, v4, neg, nm, pd.1, pd.2⟩ ∧ w.grownBy W (some rb) ∧ OwnT W w.heap.size v1 t1 ∧ OwnT W w.heap.size v2 t2 ∧ OwnT W w.heap.size v3 t3 ∧ OwnT W w.heap.size v4 t4
/-- What the whole comes to. -/
def WPost (B rb : Nat) (A : Option Addr) (cap : Nat) (l : List Int) (o : Option Pt) (e : Ending) (w' : World) : Prop :=
  match o with
  | none => Wrong e
  | some p => e = .returned (.tuple #[]) ∧ ∃ k v1 v2 v3 v4, Rd w' rb A cap l ⟨k, v1, v2, v3, v4, p.neg, p.nm, p.pad, p.padAt⟩ ∧ OwnT w' B v1 p.pre ∧ OwnT w' B v2 p.suf ∧ OwnT w' B v3 p.npre ∧ OwnT w' B v4 p.nsuf

section
variable {w W W' : World} {rb : Nat} {A : Option Addr} {cap : Nat} {l : List Int} {k k' : Nat} {v v1 v2 v3 v4 : Value} {t t1 t2 t3 t4 : List Tk} {neg neg' : Bool} {nm nm' : Nm} {pd pd' : Int × Int}
theorem WRel.step (H : WRel w rb A cap l k v1 v2 v3 v4 t1 t2 t3 t4 neg nm pd W) (hg : W.grownBy W' (some rb)) (hr : Rd W' rb A cap l ⟨k', v1, v2, v3, v4, neg', nm', pd'.1, pd'.2⟩) :
    WRel w rb A cap l k' v1 v2 v3 v4 t1 t2 t3 t4 neg' nm' pd' W' := by
  obtain ⟨h1, h2, o1, o2, o3, o4⟩ := H
  have hf := h1.far (e := 34) (by decide)
  exact ⟨hr, only_trans h2 hg, o1.grown hg hf, o2.grown hg hf, o3.grown hg hf, o4.grown hg hf⟩
theorem WRel.set1 (H : WRel w rb A cap l k v1 v2 v3 v4 t1 t2 t3 t4 neg nm pd W) {B : Nat} (hB : w.heap.size ≤ B) (ho : OwnT W B v t) : WRel w rb A cap l k v v2 v3 v4 t t2 t3 t4 neg nm pd (W.setCell ⟨rb, 2, none⟩ v) := by
  obtain ⟨h1, h2, o1, o2, o3, o4⟩ := H
  have hf := h1.far (e := 34) (by decide)
  exact ⟨h1.set_ 2 _ rfl h1.le, only_setCell (p := ⟨rb, 2, none⟩) h2 (.inl rfl) _, (ho.mono hB).set_ hf _ _, o2.set_ hf _ _, o3.set_ hf _ _, o4.set_ hf _ _⟩
theorem WRel.set2 (H : WRel w rb A cap l k v1 v2 v3 v4 t1 t2 t3 t4 neg nm pd W) {B : Nat} (hB : w.heap.size ≤ B) (ho : OwnT W B v t) : WRel w rb A cap l k v1 v v3 v4 t1 t t3 t4 neg nm pd (W.setCell ⟨rb, 3, none⟩ v) := by
  obtain ⟨h1, h2, o1, o2, o3, o4⟩ := H
  have hf := h1.far (e := 34) (by decide)
  exact ⟨h1.set_ 3 _ rfl h1.le, only_setCell (p := ⟨rb, 3, none⟩) h2 (.inl rfl) _, o1.set_ hf _ _, (ho.mono hB).set_ hf _ _, o3.set_ hf _ _, o4.set_ hf _ _⟩
theorem WRel.set3 (H : WRel w rb A cap l k v1 v2 v3 v4 t1 t2 t3 t4 neg nm pd W) {B : Nat} (hB : w.heap.size ≤ B) (ho : OwnT W B v t) : WRel w rb A cap l k v1 v2 v v4 t1 t2 t t4 neg nm pd (W.setCell ⟨rb, 4, none⟩ v) := by
  obtain ⟨h1, h2, o1, o2, o3, o4⟩ := H
  have hf := h1.far (e := 34) (by decide)
  exact ⟨h1.set_ 4 _ rfl h1.le, only_setCell (p := ⟨rb, 4, none⟩) h2 (.inl rfl) _, o1.set_ hf _ _, o2.set_ hf _ _, (ho.mono hB).set_ hf _ _, o4.set_ hf _ _⟩
theorem WRel.set4 (H : WRel w rb A cap l k v1 v2 v3 v4 t1 t2 t3 t4 neg nm pd W) {B : Nat} (hB : w.heap.size ≤ B) (ho : OwnT W B v t) : WRel w rb A cap l k v1 v2 v3 v t1 t2 t3 t neg nm pd (W.setCell ⟨rb, 5, none⟩ v) := by
  obtain ⟨h1, h2, o1, o2, o3, o4⟩ := H
  have hf := h1.far (e := 34) (by decide)
  exact ⟨h1.set_ 5 _ rfl h1.le, only_setCell (p := ⟨rb, 5, none⟩) h2 (.inl rfl) _, o1.set_ hf _ _, o2.set_ hf _ _, o3.set_ hf _ _, (ho.mono hB).set_ hf _ _⟩
theorem WRel.setNeg (H : WRel w rb A cap l k v1 v2 v3 v4 t1 t2 t3 t4 neg nm pd W) (b : Bool) : WRel w rb A cap l k v1 v2 v3 v4 t1 t2 t3 t4 b nm pd (W.setCell ⟨rb, 6, none⟩ (.bool b)) := by
  obtain ⟨h1, h2, o1, o2, o3, o4⟩ := H
  have hf := h1.far (e := 34) (by decide)
  exact ⟨h1.set_ 6 _ rfl h1.le, only_setCell (p := ⟨rb, 6, none⟩) h2 (.inl rfl) _, o1.set_ hf _ _, o2.set_ hf _ _, o3.set_ hf _ _, o4.set_ hf _ _⟩

theorem slice_rl {w : World} {A : Option Addr} {l : List Int} (h : RL w A l) (k n : Nat) : RL w (A.map (·.add k)) ((l.drop k).take n) := by
  intro i c hi
  have hi2 : l[k + i]? = some c := by
    rw [List.getElem?_take] at hi
    split at hi
    · simpa using hi
    · cases hi
  obtain ⟨ad, e, hc⟩ := h (k + i) c hi2
  exact ⟨ad.add k, by rw [e]; rfl, by rw [add_of_add]; exact hc⟩

set_option maxRecDepth 100000 in
set_option maxHeartbeats 4000000 in
theorem whole_any (h : Rd w rb A cap l ⟨0, .slice none 0 0, .slice none 0 0, .slice none 0 0, .slice none 0 0, false, zNm, 0, 0⟩) (hcap : l.length ≤ cap) :
    Calls Try.prog 60 #[.pointer (some ⟨rb, 0, none⟩)] w fun e w' =>
      WPost w.heap.size rb A cap l (wholeL l) e w' ∧ w.grownBy w' (some rb) := by
  have H0 : Hid (WRel w rb A cap l 0 (.slice none 0 0) (.slice none 0 0) (.slice none 0 0) (.slice none 0 0) [] [] [] [] false zNm (0, 0) w) := ⟨h, only_refl w _, OwnT.nil_ _ _, OwnT.nil_ _ _, OwnT.nil_ _ _, OwnT.nil_ _ _⟩
  have HL := Lib.hid h.len
  have HC := Lib.hid hcap
  have P0 : PInv (0, 0) := fun _ => rfl
  have Q0 : Hid (wholeL l = (padL 1 (0, 0) (l.drop 0)).bind fun a => whole1 a) := rfl
  clear h hcap
  go_enter Try.func60, Try.ntmps60
  go_wp2_with fail
  cases hp1 : padL 1 (0, 0) (l.drop 0) with
  | none =>
    have HE : Hid (wholeL l = none) := by rw [Q0.out, hp1]; rfl
    have C := Lib.hid (pad_stop H0.out.1 1 P0 (by exact hp1))
    clear hp1
    refine C.out.mono ?_
    rintro e W1 ⟨⟨x, rfl⟩, hg⟩
    have GG := Lib.hid (only_trans H0.out.2.1 hg)
    clear hg
    go_wp2_with fail
    exact ⟨rfl, by rw [HE.out]; exact ⟨_, rfl⟩, GG.out⟩
  | some q1 =>
    have Q1 : Hid (wholeL l = whole1 q1) := by rw [Q0.out, hp1]; rfl
    have P1 : PInv q1.1 := padL_inv hp1 (by decide) P0
    have C := Lib.hid (pad_goes H0.out.1 1 P0 (by exact hp1))
    clear hp1
    refine C.out.mono ?_
    rintro e W1 ⟨rfl, ⟨k1, hk, hr⟩, hg⟩
    have H1 := Lib.hid (H0.out.step (pd' := q1.1) hg hr)
    have K1 := Lib.hid hk
    clear hr hg hk C
    go_wp2_with fail
    have B2 : Hid (wholeL l = (affixL (l.drop k1)).bind fun pre => whole2 q1.1 pre) := by rw [Q1.out, K1.out]; rfl
    cases hp2 : affixL (l.drop k1) with
    | none =>
      have HE : Hid (wholeL l = none) := by rw [B2.out, hp2]; rfl
      have C0 := affix_any H1.out.1
      rw [show affixL (List.drop (RS.at_ _) l) = none from hp2] at C0
      have C := Lib.hid C0
      clear hp2 C0
      refine C.out.mono ?_
      rintro e W2 ⟨⟨x, rfl⟩, hg⟩
      have GG := Lib.hid (only_trans H1.out.2.1 hg)
      clear hg
      go_wp2_with fail
      exact ⟨rfl, by rw [HE.out]; exact ⟨_, rfl⟩, GG.out⟩
    | some q2 =>
      have Q2 : Hid (wholeL l = whole2 q1.1 q2) := by rw [B2.out, hp2]; rfl
      have C0 := affix_any H1.out.1
      rw [show affixL (List.drop (RS.at_ _) l) = some q2 from hp2] at C0
      have C := Lib.hid C0
      clear hp2 C0
      refine C.out.mono ?_
      rintro e X2 ⟨⟨v2, k2, rfl, ho, hk, hr⟩, hg⟩
      obtain ⟨Av2, cv2, rfl⟩ := ho.form
      have H2a := Lib.hid (H1.out.step (pd' := q1.1) hg hr)
      have H2 := Lib.hid (H2a.out.set1 (Nat.le_trans H1.out.2.1.size (Nat.le_refl _)) ho)
      have K2 := Lib.hid hk
      have cc := hr.c2
      have cf := hr.frozen
      clear hr hg hk ho C
      go_wp2_with fail
      have B3 : Hid (wholeL l = (padL 2 q1.1 (l.drop k2)).bind fun b => whole3 q2.1 b) := by rw [Q2.out, K2.out]; rfl
      cases hp3 : padL 2 q1.1 (l.drop k2) with
      | none =>
        have HE : Hid (wholeL l = none) := by rw [B3.out, hp3]; rfl
        have C := Lib.hid (pad_stop H2.out.1 2 P1 (by exact hp3))
        clear hp3
        refine C.out.mono ?_
        rintro e W3 ⟨⟨x, rfl⟩, hg⟩
        have GG := Lib.hid (only_trans H2.out.2.1 hg)
        clear hg
        go_wp2_with fail
        exact ⟨rfl, by rw [HE.out]; exact ⟨_, rfl⟩, GG.out⟩
      | some q3 =>
        have Q3 : Hid (wholeL l = whole3 q2.1 q3) := by rw [B3.out, hp3]; rfl
        have P3 : PInv q3.1 := padL_inv hp3 (by decide) P1
        have C := Lib.hid (pad_goes H2.out.1 2 P1 (by exact hp3))
        clear hp3
        refine C.out.mono ?_
        rintro e W3 ⟨rfl, ⟨k3, hk, hr⟩, hg⟩
        have H3 := Lib.hid (H2.out.step (pd' := q3.1) hg hr)
        have K3 := Lib.hid hk
        clear hr hg hk C
        have c1 := H3.out.1.c1
        go_wp2_with fail
        clear c1
        have B4 : Hid (wholeL l = (numberL (l.drop k3)).bind fun nm => whole4 q2.1 (q3.1, l.drop k3) nm) := by rw [Q3.out, K3.out]; rfl
        have C0 := number_any H3.out.1 rfl
        cases hp4 : numberL (l.drop k3) with
        | none =>
          have HE : Hid (wholeL l = none) := by rw [B4.out, hp4]; rfl
          rw [show numberL (List.drop (RS.at_ _) l) = none from hp4] at C0
          have C := Lib.hid C0
          clear hp4 C0
          refine C.out.mono ?_
          rintro e W4 ⟨⟨x, rfl⟩, hg⟩
          have GG := Lib.hid (only_trans H3.out.2.1 hg)
          clear hg
          go_wp2_with fail
          exact ⟨rfl, by rw [HE.out]; exact ⟨_, rfl⟩, GG.out⟩
        | some q4 =>
          have hlt4 := numberL_lt hp4
          rw [show numberL (List.drop (RS.at_ _) l) = some q4 from hp4] at C0
          have C := Lib.hid C0
          have hp4h := Lib.hid hp4
          clear hp4 C0
          refine C.out.mono ?_
          rintro e W4 ⟨⟨rfl, k4, hk, hr⟩, hg⟩
          have H4a := Lib.hid (H3.out.step (pd' := q3.1) hg hr)
          have K4 := Lib.hid hk
          have HK34 : Hid (k3 < k4 ∧ k4 ≤ l.length ∧ k3 ≤ 120) := by
            have h1 : k4 ≤ l.length := hr.le
            have h2 := congrArg List.length hk
            have h3 := hr.len
            simp at h2 hlt4
            exact ⟨by omega, h1, by omega⟩
          have Q4 : Hid (wholeL l = (padL 3 q3.1 q4.2).bind fun c => whole5 q2.1 q4.1 ((l.drop k3).take (k4 - k3)) c) := by
            rw [B4.out, hp4h.out]
            show whole4 q2.1 (q3.1, l.drop k3) q4 = _
            unfold whole4
            rw [show (l.drop k3).length - q4.2.length = k4 - k3 by rw [← K4.out]; have := HK34.out; simp; omega]
          clear hr hg hk C hlt4
          have c0 := H4a.out.1.c0
          have c1 := H4a.out.1.c1
          have hcap := HC.out
          have hll := HL.out
          have hz3 : (0 : Int) ≤ (k3 : Int) := by omega
          have HLEN : Hid (∃ len, len = l.length) := ⟨_, rfl⟩
          obtain ⟨hk34, hk4, hk3⟩ := HK34.out
          generalize hlen : l.length = len at *
          have HLN := Lib.hid hlen
          clear hlen HLEN
          have hcb : ¬ (cap = k3) := by omega
          go_wp2_with fail
          go_quiet (fail)
          go_wp2_with fail
          have H4 := Lib.hid (show WRel w rb A cap l k4 _ _ _ _ _ _ _ _ false q4.1 q3.1 (W4.drewN nq) from ⟨H4a.out.1.heap rfl, only_drewN H4a.out.2.1 _, H4a.out.2.2.1.heap rfl, H4a.out.2.2.2.1.heap rfl, H4a.out.2.2.2.2.1.heap rfl, H4a.out.2.2.2.2.2.heap rfl⟩)
          clear c0 c1
          have B5 : Hid (wholeL l = (padL 3 q3.1 (l.drop k4)).bind fun c => whole5 q2.1 q4.1 ((l.drop k3).take (k4 - k3)) c) := by rw [Q4.out, K4.out]; rfl
          cases hp5 : padL 3 q3.1 (l.drop k4) with
          | none =>
            have HE : Hid (wholeL l = none) := by rw [B5.out, hp5]; rfl
            have C := Lib.hid (pad_stop H4.out.1 3 P3 (by exact hp5))
            clear hp5
            refine C.out.mono ?_
            rintro e W5 ⟨⟨x, rfl⟩, hg⟩
            have GG := Lib.hid (only_trans H4.out.2.1 hg)
            clear hg
            go_wp2_with fail
            exact ⟨rfl, by rw [HE.out]; exact ⟨_, rfl⟩, GG.out⟩
          | some q5 =>
            have Q5 : Hid (wholeL l = whole5 q2.1 q4.1 ((l.drop k3).take (k4 - k3)) q5) := by rw [B5.out, hp5]; rfl
            have P5 : PInv q5.1 := padL_inv hp5 (by decide) P3
            have C := Lib.hid (pad_goes H4.out.1 3 P3 (by exact hp5))
            clear hp5
            refine C.out.mono ?_
            rintro e W5 ⟨rfl, ⟨k5, hk, hr⟩, hg⟩
            have H5 := Lib.hid (H4.out.step (pd' := q5.1) hg hr)
            have K5 := Lib.hid hk
            clear hr hg hk C
            go_wp2_with fail
            have B6 : Hid (wholeL l = (affixL (l.drop k5)).bind fun suf => whole6 q2.1 q4.1 ((l.drop k3).take (k4 - k3)) q5.1 suf) := by rw [Q5.out, K5.out]; rfl
            cases hp6 : affixL (l.drop k5) with
            | none =>
              have HE : Hid (wholeL l = none) := by rw [B6.out, hp6]; rfl
              have C0 := affix_any H5.out.1
              rw [show affixL (List.drop (RS.at_ _) l) = none from hp6] at C0
              have C := Lib.hid C0
              clear hp6 C0
              refine C.out.mono ?_
              rintro e W6 ⟨⟨x, rfl⟩, hg⟩
              have GG := Lib.hid (only_trans H5.out.2.1 hg)
              clear hg
              go_wp2_with fail
              exact ⟨rfl, by rw [HE.out]; exact ⟨_, rfl⟩, GG.out⟩
            | some q6 =>
              have Q6 : Hid (wholeL l = whole6 q2.1 q4.1 ((l.drop k3).take (k4 - k3)) q5.1 q6) := by rw [B6.out, hp6]; rfl
              have C0 := affix_any H5.out.1
              rw [show affixL (List.drop (RS.at_ _) l) = some q6 from hp6] at C0
              have C := Lib.hid C0
              clear hp6 C0
              refine C.out.mono ?_
              rintro e X6 ⟨⟨v6, k6, rfl, ho, hk, hr⟩, hg⟩
              obtain ⟨Av6, cv6, rfl⟩ := ho.form
              have H6a := Lib.hid (H5.out.step (pd' := q5.1) hg hr)
              have H6 := Lib.hid (H6a.out.set2 (Nat.le_trans H5.out.2.1.size (Nat.le_refl _)) ho)
              have K6 := Lib.hid hk
              have cc := hr.c3
              have cf := hr.frozen
              clear hr hg hk ho C
              go_wp2_with fail
              have B7 : Hid (wholeL l = (padL 4 q5.1 (l.drop k6)).bind fun d => whole7 q2.1 q6.1 q4.1 ((l.drop k3).take (k4 - k3)) d) := by rw [Q6.out, K6.out]; rfl
              cases hp7 : padL 4 q5.1 (l.drop k6) with
              | none =>
                have HE : Hid (wholeL l = none) := by rw [B7.out, hp7]; rfl
                have C := Lib.hid (pad_stop H6.out.1 4 P5 (by exact hp7))
                clear hp7
                refine C.out.mono ?_
                rintro e W7 ⟨⟨x, rfl⟩, hg⟩
                have GG := Lib.hid (only_trans H6.out.2.1 hg)
                clear hg
                go_wp2_with fail
                exact ⟨rfl, by rw [HE.out]; exact ⟨_, rfl⟩, GG.out⟩
              | some q7 =>
                have Q7 : Hid (wholeL l = whole7 q2.1 q6.1 q4.1 ((l.drop k3).take (k4 - k3)) q7) := by rw [B7.out, hp7]; rfl
                have P7 : PInv q7.1 := padL_inv hp7 (by decide) P5
                have C := Lib.hid (pad_goes H6.out.1 4 P5 (by exact hp7))
                clear hp7
                refine C.out.mono ?_
                rintro e W7 ⟨rfl, ⟨k7, hk, hr⟩, hg⟩
                have H7 := Lib.hid (H6.out.step (pd' := q7.1) hg hr)
                have K7 := Lib.hid hk
                clear hr hg hk C
                go_wp2_with fail
                by_cases h59 : (l.drop k7).head? = some 59
                · obtain ⟨t, ht⟩ := head_cons h59
                  have HT := Lib.hid ht
                  clear h59 ht
                  have Q8 : Hid (wholeL l = (affixL t).bind fun npre => whole8 q2.1 q6.1 q4.1 ((l.drop k3).take (k4 - k3)) q7.1 npre) := by
                    rw [Q7.out]; unfold whole7; rw [← K7.out, HT.out]; rfl
                  refine (has_yes H7.out.1 HT.out).mono ?_
                  rintro e W8 ⟨rfl, hr, hg⟩
                  have H8 := Lib.hid (H7.out.step (k' := k7 + 1) (pd' := q7.1) hg hr)
                  have K8 : Hid (l.drop (k7 + 1) = t) := drop_succ HT.out
                  have cc := hr.c6
                  have cf := hr.frozen
                  clear hr hg
                  go_wp2_with fail
                  have H9 := Lib.hid (H8.out.setNeg true)
                  clear cc cf
                  have B10 : Hid (wholeL l = (affixL (l.drop (k7 + 1))).bind fun npre => whole8 q2.1 q6.1 q4.1 ((l.drop k3).take (k4 - k3)) q7.1 npre) := by rw [Q8.out, K8.out]; rfl
                  cases hp10 : affixL (l.drop (k7 + 1)) with
                  | none =>
                    have HE : Hid (wholeL l = none) := by rw [B10.out, hp10]; rfl
                    have C0 := affix_any H9.out.1
                    rw [show affixL (List.drop (RS.at_ _) l) = none from hp10] at C0
                    have C := Lib.hid C0
                    clear hp10 C0
                    refine C.out.mono ?_
                    rintro e W10 ⟨⟨x, rfl⟩, hg⟩
                    have GG := Lib.hid (only_trans H9.out.2.1 hg)
                    clear hg
                    go_wp2_with fail
                    exact ⟨rfl, by rw [HE.out]; exact ⟨_, rfl⟩, GG.out⟩
                  | some q10 =>
                    have Q10 : Hid (wholeL l = whole8 q2.1 q6.1 q4.1 ((l.drop k3).take (k4 - k3)) q7.1 q10) := by rw [B10.out, hp10]; rfl
                    have C0 := affix_any H9.out.1
                    rw [show affixL (List.drop (RS.at_ _) l) = some q10 from hp10] at C0
                    have C := Lib.hid C0
                    clear hp10 C0
                    refine C.out.mono ?_
                    rintro e X10 ⟨⟨v10, k10, rfl, ho, hk, hr⟩, hg⟩
                    obtain ⟨Av10, cv10, rfl⟩ := ho.form
                    have H10a := Lib.hid (H9.out.step (pd' := q7.1) hg hr)
                    have H10 := Lib.hid (H10a.out.set3 (Nat.le_trans H9.out.2.1.size (Nat.le_refl _)) ho)
                    have K10 := Lib.hid hk
                    have cc := hr.c4
                    have cf := hr.frozen
                    clear hr hg hk ho C
                    go_wp2_with fail
                    have B11 : Hid (wholeL l = (againL ((l.drop k3).take (k4 - k3)) (l.drop k10)).bind fun u => whole9 q2.1 q6.1 q10.1 q4.1 q7.1 u) := by rw [Q10.out, K10.out]; rfl
                    have NL : Hid (((l.drop k3).take (k4 - k3)).length = k4 - k3) := by have := HK34.out; have := HLN.out; show _ = _; simp; omega
                    have C0 := again_any H10.out.1 (cap2 := cap - k3) (slice_rl H10.out.1.rl k3 (k4 - k3)) (fun ad e => by obtain ⟨a0, e0, rfl⟩ := Option.map_eq_some_iff.1 e; rw [block_of_add]; exact H10.out.1.ty a0 e0) (by have := HK34.out; have := HLN.out; have := HL.out; have := NL.out; omega)
                    rw [NL.out] at C0
                    cases hp11 : againL ((l.drop k3).take (k4 - k3)) (l.drop k10) with
                    | none =>
                      have HE : Hid (wholeL l = none) := by rw [B11.out, hp11]; rfl
                      rw [show againL ((l.drop k3).take (k4 - k3)) (List.drop (RS.at_ _) l) = none from hp11] at C0
                      have C := Lib.hid C0
                      clear hp11 C0
                      refine C.out.mono ?_
                      rintro e W11 ⟨⟨x, rfl⟩, hg⟩
                      have GG := Lib.hid (only_trans H10.out.2.1 hg)
                      clear hg
                      go_wp2_with fail
                      exact ⟨rfl, by rw [HE.out]; exact ⟨_, rfl⟩, GG.out⟩
                    | some q11 =>
                      have Q11 : Hid (wholeL l = whole9 q2.1 q6.1 q10.1 q4.1 q7.1 q11) := by rw [B11.out, hp11]; rfl
                      rw [show againL ((l.drop k3).take (k4 - k3)) (List.drop (RS.at_ _) l) = some q11 from hp11] at C0
                      have C := Lib.hid C0
                      clear hp11 C0
                      refine C.out.mono ?_
                      rintro e W11 ⟨⟨rfl, k11, hk, hr⟩, hg⟩
                      have H11 := Lib.hid (H10.out.step (pd' := q7.1) hg hr)
                      have K11 := Lib.hid hk
                      clear hr hg hk C
                      go_wp2_with fail
                      have B12 : Hid (wholeL l = (affixL (l.drop k11)).bind fun nsuf => if nsuf.2 = [] then some ⟨q2.1, q6.1, q10.1, nsuf.1, true, q4.1, q7.1.1, q7.1.2⟩ else none) := by rw [Q11.out, K11.out]; rfl
                      cases hp12 : affixL (l.drop k11) with
                      | none =>
                        have HE : Hid (wholeL l = none) := by rw [B12.out, hp12]; rfl
                        have C0 := affix_any H11.out.1
                        rw [show affixL (List.drop (RS.at_ _) l) = none from hp12] at C0
                        have C := Lib.hid C0
                        clear hp12 C0
                        refine C.out.mono ?_
                        rintro e W12 ⟨⟨x, rfl⟩, hg⟩
                        have GG := Lib.hid (only_trans H11.out.2.1 hg)
                        clear hg
                        go_wp2_with fail
                        exact ⟨rfl, by rw [HE.out]; exact ⟨_, rfl⟩, GG.out⟩
                      | some q12 =>
                        have Q12 : Hid (wholeL l = if q12.2 = [] then some ⟨q2.1, q6.1, q10.1, q12.1, true, q4.1, q7.1.1, q7.1.2⟩ else none) := by rw [B12.out, hp12]; rfl
                        have C0 := affix_any H11.out.1
                        rw [show affixL (List.drop (RS.at_ _) l) = some q12 from hp12] at C0
                        have C := Lib.hid C0
                        clear hp12 C0
                        refine C.out.mono ?_
                        rintro e X12 ⟨⟨v12, k12, rfl, ho, hk, hr⟩, hg⟩
                        obtain ⟨Av12, cv12, rfl⟩ := ho.form
                        have H12a := Lib.hid (H11.out.step (pd' := q7.1) hg hr)
                        have H12 := Lib.hid (H12a.out.set4 (Nat.le_trans H11.out.2.1.size (Nat.le_refl _)) ho)
                        have K12 := Lib.hid hk
                        have cc := hr.c5
                        have cf := hr.frozen
                        clear hr hg hk ho C
                        go_wp2_with fail
                        have c0 := H12.out.1.c0
                        have c1 := H12.out.1.c1
                        have cf := H12.out.1.frozen
                        have hke : k12 ≤ l.length := H12.out.1.le
                        have hll := HL.out
                        cases hl : l.drop k12 with
                        | nil =>
                          have hge : l.length ≤ k12 := List.drop_eq_nil_iff.1 hl
                          have HE : Hid (wholeL l = some ⟨q2.1, q6.1, q10.1, q12.1, true, q4.1, q7.1.1, q7.1.2⟩) := by rw [Q12.out]; rw [← K12.out, hl]; rfl
                          generalize hlen : l.length = len at *
                          have hgb : decide (k12 < len) = false := by simpa using hge
                          have hgb2 : decide ((k12 : Int) < (len : Int)) = false := by simp; omega
                          clear hl hlen
                          go_wp2_with fail
                          go_quiet (fail)
                          go_wp2_with fail
                          go_end0
                          obtain ⟨r1, r2, r3, r4, r5, r6⟩ := H12.out
                          refine ⟨?_, only_drewN r2 _⟩
                          rw [HE.out]
                          exact ⟨rfl, k12, _, _, _, _, r1.drewN _, r3.heap rfl, r4.heap rfl, r5.heap rfl, r6.heap rfl⟩
                        | cons c t =>
                          have hlt : k12 < l.length := (H12.out.1.rl.drop hl).1
                          have HE : Hid (wholeL l = none) := by rw [Q12.out]; rw [if_neg (by rw [← K12.out, hl]; simp)]; rfl
                          generalize hlen : l.length = len at *
                          have hgb : decide (k12 < len) = true := by simpa using hlt
                          have hgb2 : decide ((k12 : Int) < (len : Int)) = true := by simp; omega
                          clear hl hlen
                          go_wp2_with fail
                          go_quiet (fail)
                          go_wp2_with fail
                          obtain ⟨r1, r2, r3, r4, r5, r6⟩ := H12.out
                          refine ⟨rfl, ?_, only_drewN r2 _⟩
                          rw [HE.out]
                          exact ⟨_, rfl⟩
                · have HNO := Lib.hid h59
                  clear h59
                  have Q8 : Hid (wholeL l = match q7.2 with | [] => some ⟨q2.1, q6.1, [], [], false, q4.1, q7.1.1, q7.1.2⟩ | _ :: _ => none) := by
                    rw [Q7.out]; unfold whole7
                    have h1 := HNO.out
                    rw [K7.out] at h1
                    cases hq : q7.2 with
                    | nil => rfl
                    | cons x t => rw [hq] at h1; simp at h1; simp [h1, Hid]
                  refine (has_no H7.out.1 HNO.out).mono ?_
                  rintro e W8 ⟨rfl, hr, hg⟩
                  have H8 := Lib.hid (H7.out.step (k' := k7) (pd' := q7.1) hg hr)
                  clear hr hg
                  go_wp2_with fail
                  have c0 := H8.out.1.c0
                  have c1 := H8.out.1.c1
                  have cf := H8.out.1.frozen
                  have hke : k7 ≤ l.length := H8.out.1.le
                  have hll := HL.out
                  cases hl : l.drop k7 with
                  | nil =>
                    have hge : l.length ≤ k7 := List.drop_eq_nil_iff.1 hl
                    have HE : Hid (wholeL l = some ⟨q2.1, q6.1, [], [], false, q4.1, q7.1.1, q7.1.2⟩) := by rw [Q8.out]; rw [← K7.out, hl]; rfl
                    generalize hlen : l.length = len at *
                    have hgb : decide (k7 < len) = false := by simpa using hge
                    have hgb2 : decide ((k7 : Int) < (len : Int)) = false := by simp; omega
                    clear hl hlen
                    go_wp2_with fail
                    go_quiet (fail)
                    go_wp2_with fail
                    go_end0
                    obtain ⟨r1, r2, r3, r4, r5, r6⟩ := H8.out
                    refine ⟨?_, only_drewN r2 _⟩
                    rw [HE.out]
                    exact ⟨rfl, k7, _, _, _, _, r1.drewN _, r3.heap rfl, r4.heap rfl, r5.heap rfl, r6.heap rfl⟩
                  | cons c t =>
                    have hlt : k7 < l.length := (H8.out.1.rl.drop hl).1
                    have HE : Hid (wholeL l = none) := by rw [Q8.out]; rw [← K7.out, hl]; rfl
                    generalize hlen : l.length = len at *
                    have hgb : decide (k7 < len) = true := by simpa using hlt
                    have hgb2 : decide ((k7 : Int) < (len : Int)) = true := by simp; omega
                    clear hl hlen
                    go_wp2_with fail
                    go_quiet (fail)
                    go_wp2_with fail
                    obtain ⟨r1, r2, r3, r4, r5, r6⟩ := H8.out
                    refine ⟨rfl, ?_, only_drewN r2 _⟩
                    rw [HE.out]
                    exact ⟨_, rfl⟩
end
end Go.Proofs.Ytdbcdgojbegakaa
