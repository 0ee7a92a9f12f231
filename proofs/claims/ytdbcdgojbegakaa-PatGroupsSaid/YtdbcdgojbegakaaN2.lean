/-
pat.written: an affix's text.
-/
import Derived.Test.YtdbcdgojbegakaaN1
import Derived.Test.YtdbcdgojbegakaaS2
import Derived.Maps.RangeRun
namespace Go.Proofs.Ytdbcdgojbegakaa
open Go.RowKit
open Go.ChangeMaps (setBlock)

/-- Block k is as it was, but for the builder, its bytes, and block n + 1. -/
def Wk (n : Nat) (w w' : World) : Prop := ∀ k o, w.heap[k]? = some o → k ≠ n → k ≠ n + 1 → (∀ c fz, o ≠ .cells c 5 fz) → w'.heap[k]? = some o
theorem Wk.refl (n : Nat) (w : World) : Wk n w w := fun _ _ h _ _ _ => h
theorem Wk.trans {n : Nat} {u v w : World} (h : Wk n u v) (k : Wk n v w) : Wk n u w := fun i o hi h1 h2 h3 => k i o (h i o hi h1 h2 h3) h1 h2 h3
theorem Wk.of_kp {n : Nat} {w w' : World} (k : Kp n n w w') : Wk n w w' := fun i o hi h1 _ h3 => k.kept i o hi (fun e => h1 (by injection e)) h3
theorem Wk.of_none {n : Nat} {w w' : World} (h : w.grownBy w' none) : Wk n w w' := fun i o hi _ _ _ => by
  have hlt : i < w.heap.size := (Array.getElem?_eq_some_iff.1 hi).1
  rw [h.block i hlt (by simp)]
  exact hi

/-- In the midst of an affix's text: the builder in block n, in quotes or not in block n + 1. -/
structure WI (w W : World) (rs : List Int) (q : Bool) : Prop where
  bu : Bu W w.heap.size w.heap.size rs
  fl : Blk W (w.heap.size + 1) 4 #[.bool q]
  gr : w.grownBy W none
  size : w.heap.size + 2 ≤ W.heap.size
theorem WI.new (w : World) : WI w ((w.alloc (.cells #[.pointer none, .slice none 0 0] 48)).alloc (.cells #[.bool false] 4)) [] false := by
  have h1 := bu_new w
  have h2 := Blk.new (w.alloc (.cells #[.pointer none, .slice none 0 0] 48)) 4 #[.bool false]
  rw [show (w.alloc (.cells #[.pointer none, .slice none 0 0] 48)).heap.size = w.heap.size + 1 by simp] at h2
  exact ⟨h1.grown (only_alloc (only_refl _ _) _), h2, only_alloc (only_alloc (only_refl _ _) _) _, by simp⟩
theorem WI.grown {w W W' : World} {rs : List Int} {q : Bool} (h : WI w W rs q) (hg : W.grownBy W' none) : WI w W' rs q :=
  ⟨h.bu.grown hg, h.fl.grown hg (by simp), only_trans h.gr hg, Nat.le_trans h.size hg.size⟩
theorem WI.step {w W W' : World} {rs rs' : List Int} {q : Bool} (h : WI w W rs q) (k : Kp w.heap.size w.heap.size W W') (b : Bu W' w.heap.size w.heap.size rs') : WI w W' rs' q := by
  refine ⟨b, k.blk h.fl (by omega) (by decide), ⟨k.below.os.trans h.gr.os, k.below.tape.trans h.gr.tape, k.below.output.trans h.gr.output, Nat.le_trans h.gr.size k.below.size, fun i hi hn => ?_⟩, Nat.le_trans h.size k.below.size⟩
  exact (k.below.block i (by omega)).trans (h.gr.block i hi hn)
theorem Bu.far {W : World} {B b g : Nat} {t : TypeId} {cs : Array Value} {rs : List Int} (h : Bu W B b rs) (hb : Blk W g t cs) (hg : g ≠ b) (ht : t ≠ 5) (u : Value) (i : Nat) : Bu (W.setCell ⟨g, i, none⟩ u) B b rs := by
  have one : ∀ p, Lib.BuilderAtF 48 5 B b p (Lib.byteCells (rs.flatMap Lib.encodeRune)) W → Lib.BuilderAtF 48 5 B b p (Lib.byteCells (rs.flatMap Lib.encodeRune)) (W.setCell ⟨g, i, none⟩ u) := by
    rintro p ⟨hB, v, hbk, ho, hne⟩
    refine ⟨hB, v, (Below.heap_setCell W ⟨g, i, none⟩ u b (fun e => hg e.symm)).trans hbk, ho.kept (only_setCell (p := ⟨g, i, none⟩) (only_refl W (some g)) (.inl rfl) u) ?_, hne⟩
    rcases hv : v.ownBlock with _ | k
    · exact .inl rfl
    · refine .inr fun e => ?_
      injection e with e
      subst e
      obtain ⟨c, fz, hc⟩ := Lib.ownsRowF_kind ho k hv
      rw [hb] at hc
      injection hc with hc
      injection hc with _ hc _
      exact ht hc
  exact h.elim (fun x => .inl (one _ x)) (fun x => .inr (one _ x))
theorem WI.flag {w W : World} {rs : List Int} {q : Bool} (h : WI w W rs q) (q' : Bool) : WI w (W.setCell ⟨w.heap.size + 1, 0, none⟩ (.bool q')) rs q' :=
  ⟨h.bu.far h.fl (by omega) (by decide) _ _, h.fl.set_ 0 _, only_setCell (p := ⟨w.heap.size + 1, 0, none⟩) h.gr (.inr (Nat.le_succ _)) _, by rw [size_setCell]; exact h.size⟩
theorem Wk.flag (n : Nat) (W : World) (u : Value) : Wk n W (W.setCell ⟨n + 1, 0, none⟩ u) := fun i _ hi _ h2 _ => (Below.heap_setCell W ⟨n + 1, 0, none⟩ u i h2).trans hi

theorem WI.keeps {w W W' : World} {rs : List Int} {q : Bool} (h : WI w W rs q) (k : Kp w.heap.size w.heap.size W W') : w.grownBy W' none :=
  ⟨k.below.os.trans h.gr.os, k.below.tape.trans h.gr.tape, k.below.output.trans h.gr.output, Nat.le_trans h.gr.size k.below.size, fun i hi hn => (k.below.block i (by omega)).trans (h.gr.block i hi hn)⟩

/-- The quote that is written when the state turns. -/
def flipT (q want : Bool) : List Int := if q != want then [39] else []

theorem flipT_le (q x : Bool) : (flipT q x).length ≤ 1 := by cases q <;> cases x <;> simp [flipT]

theorem quote_any (w W : World) (rs : List Int) (q want : Bool) (h : WI w W rs q) (hl : rs.length ≤ 1000000) :
    Calls Try.prog 47 #[.bool want, .pointer (some ⟨w.heap.size + 1, 0, none⟩), .pointer (some ⟨w.heap.size, 0, none⟩)] W fun e W' =>
      e = .returned (.tuple #[]) ∧ WI w W' (rs ++ flipT q want) want ∧ Wk w.heap.size W W' := by
  have c0 : W.cell? ⟨w.heap.size + 1, 0, none⟩ = some (.bool q) := h.fl.cell 0
  have H := Lib.hid h
  clear h
  by_cases hq : q = want
  · subst hq
    have hb : (q != q) = false := by simp
    go_enter Try.func47, Try.ntmps47
    go_wp2
    go_end0
    exact ⟨rfl, by simpa [flipT] using H.out, Wk.refl _ _⟩
  · have hb : (q != want) = true := by simpa using hq
    have hb2 : (q == want) = false := by simpa using hq
    have HQ := Lib.hid hb
    go_enter Try.func47, Try.ntmps47
    go_wp2_with (go_at_call 32; refine (bu_byte (by exact H.out.bu) 39 (by omega) (by omega) hl (by have := H.out.size; omega)).mono ?_; rintro e w1 ⟨rfl, hb, hk⟩; have H1 := Lib.hid (H.out.step hk hb); have HK := Lib.hid (Wk.of_kp hk); have c1 : w1.cell? ⟨w.heap.size + 1, 0, none⟩ = some (.bool q) := H1.out.fl.cell 0; have f1 : w1.frozen? ⟨w.heap.size + 1, 0, none⟩ = false := H1.out.fl.frozen 0; clear hb hk)
    go_end0
    refine ⟨rfl, ?_, HK.out.trans (Wk.flag _ _ _)⟩
    rw [flipT, if_pos HQ.out]
    exact H1.out.flag want

theorem s3939 : strOf [39, 39] = ⟨#[39, 39]⟩ := by decide +kernel
theorem bu_two {w : World} {B b : Nat} {rs : List Int} (h : Bu w B b rs) (hl : rs.length ≤ 1000000) (hB : B ≤ w.heap.size) :
    Calls Try.prog 30 #[.pointer (some ⟨b, 0, none⟩), .string ⟨#[39, 39]⟩] w fun e w' => (∃ v, e = .returned v) ∧ Bu w' B b (rs ++ [39, 39]) ∧ Kp B b w w' := by
  rw [← s3939]; exact bu_str h [39, 39] hl (by simp) hB
theorem Wk.blk {n g : Nat} {w w' : World} {t : TypeId} {cs : Array Value} (h : Wk n w w') (hb : Blk w g t cs) (h1 : n + 2 ≤ g) (ht : t ≠ 5) : Blk w' g t cs :=
  h g _ hb (by omega) (by omega) (fun c fz e => by injection e with _ e _; exact ht e)

theorem only_block (W : World) (R : Nat) (o : Obj) : W.grownBy (setBlock W R o) (some R) :=
  ⟨rfl, rfl, rfl, by simp [setBlock], fun i _ hn => by
    have : R ≠ i := fun e => hn (by rw [e])
    simp [setBlock, Array.getElem?_setIfInBounds, this]⟩
theorem block_new (W : World) (R : Nat) (o o' : Obj) (h : W.heap[R]? = some o') : (setBlock W R o).heap[R]? = some o := by
  have hlt : R < W.heap.size := (Array.getElem?_eq_some_iff.1 h).1
  simp [setBlock, hlt]
theorem WI.block {w W : World} {rs : List Int} {q : Bool} (h : WI w W rs q) {R : Nat} {a : Option Nat} {b d : Nat} {c : Array Nat} (hR : W.heap[R]? = some (.mapIter a b c d)) (hn : w.heap.size + 2 ≤ R) (o : Obj) : WI w (setBlock W R o) rs q := by
  have hg := only_block W R o
  refine ⟨?_, h.fl.grown hg (by intro e; injection e; omega), ⟨h.gr.os, h.gr.tape, h.gr.output, Nat.le_trans h.gr.size hg.size, fun i hi hh => ?_⟩, Nat.le_trans h.size hg.size⟩
  · have one : ∀ p, Lib.BuilderAtF 48 5 w.heap.size w.heap.size p (Lib.byteCells (rs.flatMap Lib.encodeRune)) W → Lib.BuilderAtF 48 5 w.heap.size w.heap.size p (Lib.byteCells (rs.flatMap Lib.encodeRune)) (setBlock W R o) := by
      rintro p ⟨hB, v, hbk, ho, hne⟩
      have hlt : w.heap.size < W.heap.size := (Array.getElem?_eq_some_iff.1 hbk).1
      refine ⟨hB, v, (hg.block _ hlt (by intro e; injection e; omega)).trans hbk, ho.kept hg ?_, hne⟩
      rcases hv : v.ownBlock with _ | k
      · exact .inl rfl
      · refine .inr fun e => ?_
        injection e with e
        subst e
        obtain ⟨c, fz, hc⟩ := Lib.ownsRowF_kind ho k hv
        rw [hR] at hc
        cases hc
    exact h.bu.elim (fun x => .inl (one _ x)) (fun x => .inr (one _ x))
  · have hlt : i < W.heap.size := Nat.lt_of_lt_of_le hi h.gr.size
    exact (hg.block i hlt (by intro e; injection e; omega)).trans (h.gr.block i hi hh)

/-- What is written of a kind when some of the map's entries are seen. -/
def outS (K : Int) (seen : Array Nat) : List Int := if seen.toList.any (fun b => K == (b : Int) + 1) then runeOf K else []
theorem sign_ents : ∀ e ∈ signEs.toList, ∃ k : Int, e.key = .int .i32 k ∧ e.val = .int .i64 ((e.born : Int) + 1) ∧ runeOf ((e.born : Int) + 1) = [k] ∧ 0 ≤ k ∧ k < 256 ∧ e.born < 4 := by
  intro e he
  simp [signEs, ent] at he
  rcases he with rfl | rfl | rfl | rfl
  · exact ⟨45, rfl, rfl, rfl, by decide, by decide, by decide⟩
  · exact ⟨43, rfl, rfl, rfl, by decide, by decide, by decide⟩
  · exact ⟨37, rfl, rfl, rfl, by decide, by decide, by decide⟩
  · exact ⟨164, rfl, rfl, rfl, by decide, by decide, by decide⟩
theorem outS_yes {K : Int} {seen : Array Nat} {b : Nat} (h : b ∈ seen.toList) (e : K = (b : Int) + 1) : outS K seen = runeOf K := by
  rw [outS, if_pos]
  exact List.any_eq_true.2 ⟨b, h, by simpa using e⟩
theorem outS_no {K : Int} {seen : Array Nat} (h : ∀ b ∈ seen.toList, K ≠ (b : Int) + 1) : outS K seen = [] := by
  rw [outS, if_neg]
  intro h2
  obtain ⟨b, hb, e⟩ := List.any_eq_true.1 h2
  exact h b hb (by simpa using e)
theorem runeOf_le (K : Int) : (runeOf K).length ≤ 1 := by
  unfold runeOf; repeat' split
  all_goals simp
theorem outS_le (K : Int) (seen : Array Nat) : (outS K seen).length ≤ 1 := by
  unfold outS; split
  · exact runeOf_le K
  · simp
theorem outS_same (K : Int) (seen : Array Nat) (b : Nat) (h : K ≠ (b : Int) + 1) : outS K (seen.push b) = outS K seen := by
  by_cases h2 : ∃ x ∈ seen.toList, K = (x : Int) + 1
  · obtain ⟨x, hx, e⟩ := h2
    rw [outS_yes (b := x) (by simp at hx ⊢; exact .inl hx) e, outS_yes hx e]
  · rw [outS_no (seen := seen) (fun x hx e => h2 ⟨x, hx, e⟩), outS_no]
    intro x hx e
    rw [Array.toList_push, List.mem_append] at hx
    rcases hx with hx | hx
    · exact h2 ⟨x, hx, e⟩
    · simp at hx; subst hx; exact h e
theorem outS_new (seen : Array Nat) (b : Nat) (h : seen.contains b = false) : outS ((b : Int) + 1) (seen.push b) = runeOf ((b : Int) + 1) ∧ outS ((b : Int) + 1) seen = [] := by
  refine ⟨outS_yes (b := b) (by simp) rfl, outS_no fun x hx e => ?_⟩
  have : b = x := by omega
  subst this
  rw [← Bool.not_eq_true, Array.contains_iff_mem] at h
  exact h (by simpa using hx)
theorem outS_end (K : Int) (seen : Array Nat) (h : (leftOf signEs seen).size = 0) : outS K seen = runeOf K := by
  have hall : ∀ e ∈ signEs, e.born ∈ seen.toList := by
    have := Array.eq_empty_of_size_eq_zero h
    rw [leftOf, Array.filter_eq_empty_iff] at this
    intro e he
    have h2 := this e he
    simp at h2
    simpa using h2
  by_cases h1 : K = 1
  · exact outS_yes (hall (ent 45 1 0) (by simp [signEs])) h1
  by_cases h2 : K = 2
  · exact outS_yes (hall (ent 43 2 1) (by simp [signEs])) h2
  by_cases h3 : K = 3
  · exact outS_yes (hall (ent 37 3 2) (by simp [signEs])) h3
  by_cases h4 : K = 4
  · exact outS_yes (hall (ent 164 4 3) (by simp [signEs])) h4
  have : runeOf K = [] := by simp [runeOf, h1, h2, h3, h4]
  rw [this, outS, this]; split <;> rfl
theorem leftOf_less (seen : Array Nat) (e : MapEntry) (h : e ∈ (leftOf signEs seen).toList) : (leftOf signEs (seen.push e.born)).size < (leftOf signEs seen).size ∧ e ∈ signEs.toList ∧ seen.contains e.born = false := by
  have h1 : e ∈ signEs.toList ∧ seen.contains e.born = false := by simpa [leftOf] using h
  refine ⟨?_, h1.1, h1.2⟩
  have h2 := filter_lt (fun x : MapEntry => !seen.contains x.born) (fun x : MapEntry => !(seen.push e.born).contains x.born) (by
    intro x hx
    simp at hx ⊢
    exact hx.1) e (by show (!seen.contains e.born) = true; rw [h1.2]; rfl) (by simp) signEs.toList h1.1
  rw [← Array.length_toList, ← Array.length_toList]
  simp only [leftOf, Array.toList_filter']
  exact h2

set_option maxRecDepth 100000 in
set_option maxHeartbeats 4000000 in
theorem written_any (w : World) (v : Value) (ts : List Tk) (h : TL w v ts) (hr : ∀ t ∈ ts, isRune t.r = true) (hl : ts.length ≤ 300) :
    Calls Try.prog 27 #[v] w fun e w' => e = .returned (.string (strOf (writtenT false ts))) ∧ w.grownBy w' none := by
  obtain ⟨A, cap, rfl, hT, -⟩ := h
  have HI := Lib.hid (WI.new w)
  go_enter Try.func27, Try.ntmps27
  go_wp2_with fail
  go_loopg [13] ts.length (fun kq v13 wr => ∃ (done rest : List Tk) (q : Bool) (rs : List Int), ts = done ++ rest ∧ v13 = .int .i64 done.length ∧ kq = rest.length ∧ Hid (rs ++ writtenT q rest = writtenT false ts) ∧ Hid (WI w wr rs q) ∧ Hid (rs.length ≤ 4 * done.length))
  case atStart => exact ⟨[], ts, false, [], rfl, rfl, rfl, rfl, HI, by simp [Hid]⟩
  case round =>
    obtain ⟨done, rest, q, rs, hts, rfl, rfl, HW, HN, HL⟩ := hrel
    cases rest with
    | nil =>
      have HF : Hid (writtenT false ts = rs ++ flipT q false) := by rw [Hid, ← HW.out, writtenT, flipT]; cases q <;> rfl
      clear HW
      go_wp2_with (first
        | (go_at_call 47; with_reducible refine (quote_any w _ rs q false (by exact HN.out) (by have := HL.out; rw [hts] at hl; simp at hl; omega)).mono ?_; rintro e w1 ⟨rfl, h1, -⟩; have H1 := Lib.hid h1; clear h1)
        | (go_at_call 33; with_reducible refine (bu_string (by exact H1.out.bu) (by have := H1.out.size; omega)).mono ?_; rintro e w2 ⟨rfl, hk⟩; have H2 := Lib.hid hk; clear hk))
      go_ret
      exact ⟨by rw [HF.out]; rfl, H1.out.keeps H2.out⟩
    | cons t rest =>
      have ht : ts[done.length]? = some t := by rw [hts]; simp
      obtain ⟨ad, rfl, hc1, hc2⟩ := hT done.length t ht
      have d1 := HN.out.gr.cell hc1 (by simp)
      have d2 := HN.out.gr.cell hc2 (by simp)
      rw [← add_of_add, show ∀ x : Addr, x.add 1 = ⟨x.block, x.off + 1, none⟩ from fun x => by simp [Addr.add]] at d2
      have hlen : done.length < ts.length := by rw [hts]; simp
      have hlen2 : (done.length : Int) < (ts.length : Int) := by omega
      have HTS := Lib.hid hts
      have HL2 : Hid (rs.length ≤ 1200) := by have := HL.out; show _ ≤ _; omega
      have HRUN : Hid (isRune t.r = true) := hr t (by rw [hts]; simp)
      have HRR : Hid (0 ≤ t.r ∧ t.r ≤ 1114111) := by
        have := HRUN.out
        simp only [isRune, Bool.and_eq_true, decide_eq_true_eq] at this
        exact ⟨this.1.1, this.1.2⟩
      clear hc1 hc2 ht hT hts hr
      by_cases hk : t.kind = 0
      · have hk2 : (t.kind != 0) = false := by simp [hk]
        by_cases h39 : t.r = 39
        · have h392 : (t.r == 39) = true := by simp [h39]
          have HW2 : Hid (rs ++ [39, 39] ++ writtenT q rest = writtenT false ts) := by rw [Hid, ← HW.out, writtenT]; simp [hk, h39]
          clear HW hk h39
          go_wp2_with (go_at_call 30; with_reducible refine (bu_two (HN.out.grown (only_alloc (only_refl _ none) _)).bu (by have := HL2.out; omega) (by have := (HN.out.grown (only_alloc (only_refl _ none) (.cells #[Value.int IntKind.i64 t.kind, Value.int IntKind.i32 t.r] 34))).size; omega)).mono ?_; rintro e w1 ⟨⟨v, rfl⟩, hb, hk⟩; have H1 := Lib.hid ((HN.out.grown (only_alloc (only_refl _ none) _)).step hk hb); clear hb hk)
          go_roundg rest.length
          case measure => exact Nat.lt_succ_self _
          case rel => exact ⟨done ++ [t], rest, q, _, by rw [HTS.out]; simp, by simp, rfl, HW2, H1, by have := HL.out; show _ ≤ _; simp; omega⟩
        · have h392 : (t.r == 39) = false := by simpa using h39
          have HW2 : Hid (rs ++ flipT q (isSpec t.r) ++ [t.r] ++ writtenT (isSpec t.r) rest = writtenT false ts) := by rw [Hid, ← HW.out, writtenT]; simp [hk, h39, flipT]
          have HA := Lib.hid (HN.out.grown (only_alloc (only_refl wr none) (.cells #[Value.int IntKind.i64 t.kind, Value.int IntKind.i32 t.r] 34)))
          have HB := Lib.hid (Blk.new wr 34 #[Value.int IntKind.i64 t.kind, Value.int IntKind.i32 t.r])
          clear HW hk h39
          go_wp2_with (first
            | (go_at_call 50; with_reducible refine (isSpecial_any _ t.r).mono ?_; rintro e w1 ⟨rfl, hg⟩; have H1 := Lib.hid (HA.out.grown hg); have B1 := Lib.hid (HB.out.grown hg (by simp)); clear hg)
            | (go_at_call 47; with_reducible refine (quote_any w _ rs q _ (by exact H1.out) (by have := HL2.out; omega)).mono ?_; rintro e w2 ⟨rfl, h2, hk⟩; have H2 := Lib.hid h2; have B2 := Lib.hid (hk.blk B1.out HN.out.size (by decide)); have e1 := B2.out.cell 1; have f1 := B2.out.frozen 1; clear h2 hk)
            | (go_at_call 49; with_reducible refine (bu_rune (by exact H2.out.bu) t.r (by have := HRR.out; omega) (by have := HRR.out; omega) (by have := HL2.out; have := flipT_le q (isSpec t.r); simp; omega) (by have := H2.out.size; omega)).mono ?_; rintro e w3 ⟨⟨v, rfl⟩, hb, hk⟩; have H3 := Lib.hid (H2.out.step hk hb); clear hb hk))
          go_roundg rest.length
          case measure => exact Nat.lt_succ_self _
          case rel => exact ⟨done ++ [t], rest, _, _, by rw [HTS.out]; simp, by simp, rfl, HW2, H3, by have := HL.out; have := flipT_le q (isSpec t.r); show _ ≤ _; simp; omega⟩
      · have hk2 : (t.kind != 0) = true := by simp [hk]
        have HW2 : Hid (rs ++ flipT q false ++ runeOf t.kind ++ writtenT false rest = writtenT false ts) := by rw [Hid, ← HW.out, writtenT]; simp [hk, flipT]
        have HA := Lib.hid (HN.out.grown (only_alloc (only_refl wr none) (.cells #[Value.int IntKind.i64 t.kind, Value.int IntKind.i32 t.r] 34)))
        have HB := Lib.hid (Blk.new wr 34 #[Value.int IntKind.i64 t.kind, Value.int IntKind.i32 t.r])
        clear HW hk
        have HRM : Hid (∀ W : World, (Instr.range 78 (.map (some W.heap.size))).run Try.prog (W.alloc (.map signEs 4)) = .ok (.pointer (some ⟨W.heap.size + 1, 0, none⟩)) ((W.alloc (.map signEs 4)).alloc (.mapIter (some W.heap.size) 4 #[] 4))) := fun W => by
          have := run_range_map (P := Try.prog) (W.alloc (.map signEs 4)) 78 21 3 W.heap.size signEs 4 und78 (heap_alloc_new W _)
          rw [show (W.alloc (.map signEs 4)).heap.size = W.heap.size + 1 by simp] at this
          exact this
        go_wp2_with (first
          | (go_at_call 47; with_reducible refine (quote_any w _ rs q false (by exact HA.out) (by have := HL2.out; omega)).mono ?_; rintro e w2 ⟨rfl, h2, hk⟩; have H2 := Lib.hid h2; have B2 := Lib.hid (hk.blk HB.out HN.out.size (by decide)); clear h2 hk)
          | (go_at_call 48; with_reducible refine (signs_any _).mono ?_; rintro e w3 ⟨rfl, rfl⟩; have hrm := HRM.out w2))
        clear hrm HRM
        have HM0 : Hid (((w2.alloc (.map signEs 4)).alloc (.mapIter (some w2.heap.size) 4 #[] 4)).heap[w2.heap.size]? = some (.map signEs 4)) := (Below.heap_alloc _ _ _ (by simp)).trans (heap_alloc_new _ _)
        have HR0 : Hid (((w2.alloc (.map signEs 4)).alloc (.mapIter (some w2.heap.size) 4 #[] 4)).heap[w2.heap.size + 1]? = some (.mapIter (some w2.heap.size) 4 #[] 4)) := by
          have := heap_alloc_new (w2.alloc (.map signEs 4)) (.mapIter (some w2.heap.size) 4 #[] 4)
          rw [show (w2.alloc (.map signEs 4)).heap.size = w2.heap.size + 1 by simp] at this
          exact this
        have HI0 := Lib.hid (H2.out.grown (only_alloc (only_alloc (only_refl w2 none) (.map signEs 4)) (.mapIter (some w2.heap.size) 4 #[] 4)))
        have HB0 := Lib.hid (B2.out.grown (only_alloc (only_alloc (only_refl w2 none) (.map signEs 4)) (.mapIter (some w2.heap.size) 4 #[] 4)) (by simp))
        have HSZ : Hid (w.heap.size + 2 ≤ w2.heap.size) := H2.out.size
        have HBS : Hid (wr.heap.size < w2.heap.size) := B2.out.lt
        have HG : Hid (w.heap.size + 2 ≤ wr.heap.size) := HN.out.size
        clear H2 B2 HN HA HB
        generalize w2.heap.size = M at *
        generalize wr.heap.size = G at *
        go_loopg [] (leftOf signEs #[]).size (fun kq wx => ∃ seen, kq = (leftOf signEs seen).size ∧ Hid (WI w wx (rs ++ flipT q false ++ outS t.kind seen) false) ∧ Hid (Blk wx G 34 #[Value.int IntKind.i64 t.kind, Value.int IntKind.i32 t.r]) ∧ Hid (wx.heap[M]? = some (.map signEs 4)) ∧ Hid (wx.heap[M + 1]? = some (.mapIter (some M) 4 seen 4)))
        case atStart => exact ⟨#[], rfl, by simpa [outS] using HI0, HB0, HM0, HR0⟩
        case round =>
          obtain ⟨seen, rfl, HX, HB, HM, HR⟩ := hrel
          clear HI0 HB0 HM0 HR0
          rcases run_next_at (P := Try.prog) _ 0 (M + 1) M 4 4 seen signEs 4 HR.out HM.out (by simp [signEs, ent]) (Nat.le_refl _) with ⟨h0, hrun⟩ | ⟨e, he, w1, hw1, hrun⟩
          · have HE : Hid (outS t.kind seen = runeOf t.kind) := outS_end _ _ h0
            clear h0
            go_wp2_with fail
            go_roundg rest.length
            case measure => exact Nat.lt_succ_self _
            case rel => exact ⟨done ++ [t], rest, false, _, by rw [HTS.out]; simp, by simp, rfl, HW2, by rw [← HE.out]; exact HX, by have := HL.out; have := flipT_le q false; have := runeOf_le t.kind; show _ ≤ _; simp; omega⟩
          · obtain ⟨hless, hmem, hnew⟩ := leftOf_less seen e he
            obtain ⟨k, hek, hev, hrk, hk0, hk1, hb4⟩ := sign_ents e hmem
            have hent := fun W h1 h2 => run_entry_at (P := Try.prog) W (M + 1) M 4 seen signEs 4 e h1 h2 hmem (by decide)
            rw [hek, hev] at hrun hent
            have HX1 : Hid (WI w w1 (rs ++ flipT q false ++ outS t.kind seen) false) := by rcases hw1 with rfl | rfl; exact HX; exact HX.out.grown (only_drew (only_refl _ _))
            have HB1 : Hid (Blk w1 G 34 #[Value.int IntKind.i64 t.kind, Value.int IntKind.i32 t.r]) := by rcases hw1 with rfl | rfl <;> exact HB.out
            have HM1 : Hid (w1.heap[M]? = some (.map signEs 4)) := by rcases hw1 with rfl | rfl <;> exact HM.out
            have HR1 : Hid (w1.heap[M + 1]? = some (.mapIter (some M) 4 seen 4)) := by rcases hw1 with rfl | rfl <;> exact HR.out
            have hlt : M + 1 < w1.heap.size := (Array.getElem?_eq_some_iff.1 HR1.out).1
            have HX2 := Lib.hid (HX1.out.block HR1.out (by have := HSZ.out; omega) (.mapIter (some M) 4 (seen.push e.born) 4))
            have HB2 : Hid (Blk (setBlock w1 (M + 1) (.mapIter (some M) 4 (seen.push e.born) 4)) G 34 #[Value.int IntKind.i64 t.kind, Value.int IntKind.i32 t.r]) := HB1.out.grown (only_block _ _ _) (by have := HBS.out; intro e; injection e; omega)
            have HM2 : Hid ((setBlock w1 (M + 1) (.mapIter (some M) 4 (seen.push e.born) 4)).heap[M]? = some (.map signEs 4)) := ((only_block w1 (M + 1) _).block M (by omega) (by intro e; injection e; omega)).trans HM1.out
            have HR2 := Lib.hid (block_new w1 (M + 1) (.mapIter (some M) 4 (seen.push e.born) 4) _ HR1.out)
            clear hw1 HX1 HB1 HM1 HR1 HX HB HM HR he hmem hek hev hlt
            generalize setBlock w1 (M + 1) (.mapIter (some M) 4 (seen.push e.born) 4) = w4 at *
            have hen := hent w4 HR2.out HM2.out
            have e0 := HB2.out.cell 0
            have HRK := Lib.hid hrk
            have HLS := Lib.hid hless
            have HNW := Lib.hid hnew
            clear hent hrk hless hnew
            by_cases hv : (e.born : Int) + 1 = t.kind
            · have hv2 : ((e.born : Int) + 1 == t.kind) = true := by simpa using hv
              have HV := Lib.hid hv
              clear hv
              go_wp2_with (go_at_call 49; go_must (with_reducible refine (bu_rune (by exact HX2.out.bu) k (by omega) (by omega) (by have := HL2.out; have := flipT_le q false; have := outS_le t.kind seen; simp; omega) (by have := HX2.out.size; omega)).mono ?_); rintro en w5 ⟨⟨v, rfl⟩, hb, hk⟩; go_must (have H5 := Lib.hid (HX2.out.step hk hb)); have B5 := Lib.hid ((Wk.of_kp hk).blk HB2.out HG.out (by decide)); have M5 : Hid (w5.heap[M]? = some (.map signEs 4)) := Wk.of_kp hk M _ HM2.out (by have := HSZ.out; omega) (by have := HSZ.out; omega) (fun c fz e => by cases e); have R5 : Hid (w5.heap[M + 1]? = some (.mapIter (some M) 4 (seen.push e.born) 4)) := Wk.of_kp hk (M + 1) _ HR2.out (by have := HSZ.out; omega) (by have := HSZ.out; omega) (fun c fz e => by cases e); clear hb hk)
              go_roundg (leftOf signEs (seen.push e.born)).size
              case measure => exact HLS.out
              case rel =>
                have h1 := outS_new seen e.born HNW.out
                rw [HV.out] at h1
                refine ⟨seen.push e.born, rfl, ?_, B5, M5, R5⟩
                have h2 := HRK.out
                rw [HV.out] at h2
                rw [h1.1, h2]
                have h3 := H5
                rw [h1.2, List.append_nil] at h3
                exact h3
            · have hv2 : ((e.born : Int) + 1 == t.kind) = false := by simpa using hv
              have HV := Lib.hid hv
              clear hv
              go_wp2_with fail
              go_roundg (leftOf signEs (seen.push e.born)).size
              case measure => exact HLS.out
              case rel => exact ⟨seen.push e.born, rfl, by rw [outS_same _ _ _ (fun h => HV.out h.symm)]; exact HX2, HB2, HM2, HR2⟩
end Go.Proofs.Ytdbcdgojbegakaa
