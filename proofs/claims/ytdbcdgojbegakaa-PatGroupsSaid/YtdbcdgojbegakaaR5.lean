/-
The pattern reader's comma and grouped: a row of the groups' lengths.
-/
import Derived.Test.YtdbcdgojbegakaaR3
namespace Go.Proofs.Ytdbcdgojbegakaa
open Go.RowKit

/-- A row of numbers that the call owns. -/
def OwnI (w : World) (B : Nat) (v : Value) (gs : List Int) : Prop := w.ownsRow B 3 1 v gs.length (gs.map (.int .i64))
theorem OwnI.nil_ (w : World) (B : Nat) : OwnI w B (.slice none 0 0) [] := World.ownsRow_nil w B 3 1
theorem OwnI.typ {w : World} {B : Nat} {v : Value} {gs : List Int} (h : OwnI w B v gs) {k : Nat} (hk : v.ownBlock = some k) : Typ w k 3 := by
  rcases h.2 with ⟨rfl, _⟩ | ⟨g, cap, cur, rfl, _, hh, _⟩
  · simp [Value.ownBlock] at hk
  · have : g = k := by simpa [Value.ownBlock] using hk
    subst this
    exact ⟨cur, (0, 0), hh⟩
theorem OwnI.grown {w w' : World} {B : Nat} {v : Value} {gs : List Int} {row : Option Nat} (h : OwnI w B v gs) (hg : w.grownBy w' row) (hf : Far w row 3) : OwnI w' B v gs := by
  refine World.ownsRow.kept h hg ?_
  rcases hv : v.ownBlock with _ | k
  · exact .inl rfl
  · exact .inr (hf.ne (h.typ hv))
theorem OwnI.far {w : World} {B : Nat} {v : Value} {gs : List Int} (h : OwnI w B v gs) {e : TypeId} (he : (3 : Nat) ≠ e) : Far w v.ownBlock e := far_own h he
theorem OwnI.heap {w w' : World} {B : Nat} {v : Value} {gs : List Int} (h : OwnI w B v gs) (e : w'.heap = w.heap) : OwnI w' B v gs := by
  refine ⟨h.1, ?_⟩
  rw [e]
  exact h.2
theorem OwnI.alloc {w : World} {B : Nat} {v : Value} {gs : List Int} (h : OwnI w B v gs) (o : Obj) : OwnI (w.alloc o) B v gs := World.ownsRow.alloc h o
theorem OwnI.form {w : World} {B : Nat} {v : Value} {gs : List Int} (h : OwnI w B v gs) :
    ∃ A cap, v = .slice A gs.length cap ∧ ∀ i x, gs[i]? = some x → ∃ g, A = some ⟨g, 0, none⟩ ∧ w.cell? ⟨g, i, none⟩ = some (.int .i64 x) := by
  rcases h.2 with ⟨hv, hn⟩ | ⟨g, cap, cur, hv, hg, hh, hnc, hcm, hcs, hct⟩
  · refine ⟨none, 0, by rw [hv, hn], fun i x hx => ?_⟩
    have := List.eq_nil_of_length_eq_zero hn
    subst this
    simp at hx
  · refine ⟨_, cap, hv, fun i x hx => ⟨g, rfl, ?_⟩⟩
    have hl : i < gs.length := (List.getElem?_eq_some_iff.1 hx).1
    have h1 : (gs.map (Value.int .i64))[i]? = some (.int .i64 x) := by simp [hx]
    rw [← hct, List.getElem?_take, if_pos (by omega)] at h1
    rw [cell_of_row w g i cur 3 (0, 0) hh]
    simpa using h1

/-- Below block B the world is as it was, but for block rb. -/
structure But (B rb : Nat) (w w' : World) : Prop where
  os : w'.os = w.os
  tape : w'.tape = w.tape
  output : w'.output = w.output
  size : w.heap.size ≤ w'.heap.size
  block : ∀ k, k < B → k ≠ rb → w'.heap[k]? = w.heap[k]?
theorem But.refl (B rb : Nat) (w : World) : But B rb w w := ⟨rfl, rfl, rfl, Nat.le_refl _, fun _ _ _ => rfl⟩
theorem But.trans {B rb : Nat} {a b c : World} (h : But B rb a b) (k : But B rb b c) : But B rb a c :=
  ⟨k.os.trans h.os, k.tape.trans h.tape, k.output.trans h.output, Nat.le_trans h.size k.size, fun i h1 h2 => (k.block i h1 h2).trans (h.block i h1 h2)⟩
theorem But.of_only {B rb : Nat} {a b : World} {row : Option Nat} (h : a.grownBy b row) (hB : B ≤ a.heap.size) (hr : ∀ k, row = some k → k = rb ∨ B ≤ k) : But B rb a b :=
  ⟨h.os, h.tape, h.output, h.size, fun i h1 h2 => h.block i (by omega) (fun e => by rcases hr i e.symm with h3 | h3 <;> omega)⟩
theorem But.only {B rb : Nat} {a b : World} (h : But B rb a b) (hB : a.heap.size ≤ B) : a.grownBy b (some rb) :=
  ⟨h.os, h.tape, h.output, h.size, fun i h1 h2 => h.block i (by omega) (fun e => h2 (by rw [e]))⟩
theorem But.heap {B rb : Nat} {a b c : World} (h : But B rb a b) (e : c.heap = b.heap) (e1 : c.os = b.os) (e2 : c.tape = b.tape) (e3 : c.output = b.output) : But B rb a c :=
  ⟨e1.trans h.os, e2.trans h.tape, e3.trans h.output, by rw [e]; exact h.size, fun i h1 h2 => by rw [e]; exact h.block i h1 h2⟩

/-- append of one number, laid in a new block, onto a row of the call's own. -/
theorem wpList_append_int {ops : Array Oper} {rest : List Oper} {o : Oper} {a : Act} {Q : Exit → Act → World → Prop} (w0 : World) (hgd : o.guard = none) (s x : Operand)
    (ho : o.op = .call { callee := .builtin .append, args := #[s, x], argTypes := #[36, 36] }) (B : Nat) (v : Value) (gs : List Int) (n : Int)
    (hs : a.eval s = v) (hown : OwnI w0 B v gs) (g : Nat) (hx : a.eval x = .slice (some ⟨g, 0, none⟩) 1 1) (hg : g = w0.heap.size) (hlen : gs.length ≤ 65536) (hB : B ≤ w0.heap.size)
    (h : ∀ v' w', OwnI w' B v' (gs ++ [n]) → (w0.alloc (.cells #[.int .i64 n] 3)).grownBy w' v.ownBlock → wpList Try.prog ops Q rest (a.put o.dst v') w') :
    wpList Try.prog ops Q (o :: rest) a (w0.alloc (.cells #[.int .i64 n] 3)) := by
  subst hg
  obtain ⟨i0, hi, hz0, hz1, hz2⟩ := info_parts info3
  refine wpList_append_own _ hgd s x 36 ho B 3 i0 _ 1 8 Try.underlying36 hi hz0 hz1 hz2 rfl (by decide) v gs.length (gs.map (.int .i64)) hs (World.ownsRow.alloc hown _) ⟨w0.heap.size, 0, none⟩ 1 1
    [.int .i64 n] hx rfl (cell_one_new _ _ _) (by simp [Value.oneCell']) (by simp only [maxLen]; omega) (by omega) (by simp; omega) ?_
  intro v' w' h1 h2 _
  refine h v' w' ?_ h2
  show w'.ownsRow B 3 1 v' (gs ++ [n]).length ((gs ++ [n]).map (.int .i64))
  rw [List.map_append, List.length_append]
  exact h1

section
variable {w : World} {rb : Nat} {A : Option Addr} {cap : Nat} {l : List Int} {s : RS}

set_option maxRecDepth 100000 in
set_option maxHeartbeats 800000 in
theorem grouped_any (h : Rd w rb A cap l s) {B : Nat} {gv : Value} {gs : List Int} (ho : OwnI w B gv gs) (n : Int) (h1 : s.nm.g1 = 0) (h2 : s.nm.g2 = 0) (hl : gs.length ≤ 120) :
    Calls Try.prog 96 #[.pointer (some ⟨rb, 0, none⟩), gv, .int .i64 n] w fun e w' =>
      e = .returned (.tuple #[]) ∧ Rd w' rb A cap l { s with nm := { s.nm with g1 := (groupsOf gs n).1, g2 := (groupsOf gs n).2 } } ∧ w.grownBy w' (some rb) := by
  obtain ⟨Ag, capg, rfl, hc⟩ := ho.form
  have c11 := h.c11
  have c12 := h.c12
  have hf := h.frozen
  have H := Lib.hid h
  clear h ho
  match gs, hc, hl with
  | [], _, _ =>
    have HS : Hid (Rd w rb A cap l { s with nm := { s.nm with g1 := (groupsOf [] n).1, g2 := (groupsOf [] n).2 } }) := by
      have e : ({ s with nm := { s.nm with g1 := (groupsOf [] n).1, g2 := (groupsOf [] n).2 } } : RS) = s := by
        obtain ⟨at_, pre, suf, npre, nsuf, neg, ⟨a1, a2, a3, a4, a5, a6, a7, a8, a9, a10⟩, pad, padAt⟩ := s
        simp only at h1 h2
        simp [groupsOf, h1, h2]
      rw [e]
      exact H.out
    clear h1 h2 c11 c12 hf
    go_enter Try.func96, Try.ntmps96
    go_wp2
    go_end0
    exact ⟨rfl, HS.out, only_refl w _⟩
  | [x], _, _ =>
    clear h1 h2
    go_enter Try.func96, Try.ntmps96
    go_wp2
    go_end0
    refine ⟨rfl, ?_, ?_⟩
    · exact (H.out.set_ 11 _ (s' := { s with nm := { s.nm with g1 := n } }) rfl H.out.le).set_ 12 _ rfl H.out.le
    · exact only_setCell (p := ⟨rb, 12, none⟩) (only_setCell (p := ⟨rb, 11, none⟩) (only_refl w _) (.inl rfl) _) (.inl rfl) _
  | x :: y :: t, hc, hl =>
    obtain ⟨g, rfl, hy⟩ := hc 1 y rfl
    have hlen : (2 : Int) ≤ ((x :: y :: t).length : Int) := by simp; omega
    have hlb : ((x :: y :: t).length : Int) ≤ 120 := by omega
    clear h1 h2 hc
    generalize hn : (x :: y :: t).length = m at *
    have hm0 : ((m : Int) == 0) = false := by simp; omega
    have hm1 : ((m : Int) == 1) = false := by simp; omega
    have HN := Lib.hid hn
    clear hn hl
    go_enter Try.func96, Try.ntmps96
    go_wp2
    go_end0
    refine ⟨rfl, ?_, ?_⟩
    · exact (H.out.set_ 11 _ (s' := { s with nm := { s.nm with g1 := n } }) rfl H.out.le).set_ 12 _ rfl H.out.le
    · exact only_setCell (p := ⟨rb, 12, none⟩) (only_setCell (p := ⟨rb, 11, none⟩) (only_refl w _) (.inl rfl) _) (.inl rfl) _

set_option maxRecDepth 100000 in
set_option maxHeartbeats 800000 in
theorem comma_stop (h : Rd w rb A cap l s) {B gb : Nat} {gv : Value} {gs : List Int} (hgb : Blk w gb 36 #[gv]) (ho : OwnI w B gv gs) (n : Int) (h1 : 1 < gs.length) (h2 : gs[1]? ≠ some n) (hl : gs.length ≤ 120) :
    Calls Try.prog 95 #[.pointer (some ⟨rb, 0, none⟩), .pointer (some ⟨gb, 0, none⟩), .int .i64 n] w fun e w' => Wrong e ∧ w' = w := by
  obtain ⟨Ag, capg, rfl, hc⟩ := ho.form
  have c1 := h.c1
  obtain ⟨g, rfl, hy⟩ := hc 1 gs[1] (List.getElem?_eq_getElem h1)
  have hne : (n != gs[1]) = true := by
    rw [List.getElem?_eq_getElem h1] at h2
    rw [bne_iff_ne]; intro e; exact h2 (by rw [e])
  have hd : decide (1 < gs.length) = true := by simpa using h1
  have g0 : w.cell? ⟨gb, 0, none⟩ = some (.slice (some ⟨g, 0, none⟩) gs.length capg) := hgb.cell 0
  generalize gs[1] = y at *
  generalize gs.length = m at *
  clear hc h2 ho hgb h
  go_enter Try.func95, Try.ntmps95
  go_wp2
  exact ⟨rfl, ⟨_, rfl⟩, rfl⟩

theorem comma_step {w' : World} {B gb : Nat} {gv : Value} {gs : List Int} {o : Obj} (hgr : (w.alloc o).grownBy w' gv.ownBlock) (h : Rd w rb A cap l s) (hgb : Blk w gb 36 #[gv]) (ho : OwnI w B gv gs) (hB : B ≤ w.heap.size) :
    Hid (Rd w' rb A cap l s) ∧ Hid (Blk w' gb 36 #[gv]) ∧ Hid (But B rb w w') ∧ w'.cell? ⟨rb, 1, none⟩ = some (.int .i64 s.at_) ∧ w'.frozen? ⟨rb, 1, none⟩ = false ∧ w'.cell? ⟨gb, 0, none⟩ = some gv ∧ w'.frozen? ⟨gb, 0, none⟩ = false := by
  have h1 := (h.alloc o).grown hgr ((ho.alloc o).far (by decide)) ((ho.alloc o).far (by decide))
  have h2 := (hgb.alloc o).grown hgr (((ho.alloc o).far (by decide)).ne (hgb.alloc o).typ)
  exact ⟨h1, h2, (But.of_only (only_alloc (only_refl w none) o) hB (fun k hk => by cases hk)).trans (But.of_only hgr (by simp; omega) fun k hk => .inr (World.ownsRow.lt ho k hk).1), h1.c1, h1.frozen 1, h2.cell 0, h2.frozen 0⟩

set_option maxRecDepth 100000 in
set_option maxHeartbeats 800000 in
theorem comma_goes (h : Rd w rb A cap l s) {B gb : Nat} {gv : Value} {gs : List Int} (hgb : Blk w gb 36 #[gv]) (ho : OwnI w B gv gs) (hB : B ≤ gb) (n : Int) (h1 : ¬ (1 < gs.length ∧ gs[1]? ≠ some n)) (hl : gs.length ≤ 120) (hat : s.at_ < l.length) :
    Calls Try.prog 95 #[.pointer (some ⟨rb, 0, none⟩), .pointer (some ⟨gb, 0, none⟩), .int .i64 n] w fun e w' =>
      e = .returned (.tuple #[]) ∧ Rd w' rb A cap l { s with at_ := s.at_ + 1 } ∧ (∃ gv', Blk w' gb 36 #[gv'] ∧ OwnI w' B gv' (gs ++ [n])) ∧ But B rb w w' := by
  obtain ⟨Ag, capg, rfl, hc⟩ := ho.form
  have c1 := h.c1
  have g0 : w.cell? ⟨gb, 0, none⟩ = some (.slice Ag gs.length capg) := hgb.cell 0
  have gf : w.frozen? ⟨gb, 0, none⟩ = false := hgb.frozen 0
  have H := Lib.hid h
  have HO := Lib.hid ho
  have HGB := Lib.hid hgb
  have hne : ¬ gb = rb := hgb.typ.ne h.blk.typ (by decide)
  have HAT := Lib.hid hat
  have hb1 : s.at_ ≤ 120 := Nat.le_trans h.le h.len
  clear h ho hgb hat
  have HE : Hid (∃ b : Bool, decide (1 < gs.length) = b ∧ (b = true → ∃ g y, Ag = some ⟨g, 0, none⟩ ∧ w.cell? ⟨g, 1, none⟩ = some (.int .i64 y) ∧ (n != y) = false)) := by
    by_cases h2 : 1 < gs.length
    · obtain ⟨g, e, hy⟩ := hc 1 gs[1] (List.getElem?_eq_getElem h2)
      refine ⟨true, by simpa using h2, fun _ => ⟨g, gs[1], e, hy, ?_⟩⟩
      have h3 : gs[1]? = some n := Classical.byContradiction fun hh => h1 ⟨h2, hh⟩
      rw [List.getElem?_eq_getElem h2] at h3
      injection h3 with h3
      simp [h3]
    · exact ⟨false, by simpa using h2, fun hh => by cases hh⟩
  clear hc h1
  obtain ⟨b, hd, hy⟩ := HE.out
  generalize hm : gs.length = m at *
  have HM := Lib.hid hm
  clear hm HE
  cases b with
  | true =>
    obtain ⟨g, y, rfl, hy1, hy2⟩ := hy rfl
    have hlt : 1 < m := by simpa using hd
    clear hy
    go_enter Try.func95, Try.ntmps95
    go_wp2_with (at_builtin; go_must (refine wpList_append_int _ rfl (.tmp 28) (.tmp 30) rfl B (.slice (some ⟨g, 0, none⟩) m capg) gs n rfl (by exact HO.out) _ rfl rfl (by rw [HM.out]; omega) (by have := HGB.out.lt; omega) ?_); intro v' w' hown hgr; obtain ⟨HR3, HB3, HT3, e1, e2, e3, e4⟩ := comma_step hgr H.out HGB.out HO.out (by have := HGB.out.lt; omega); obtain ⟨A3, cap3, rfl, _⟩ := hown.form; have HO3 := Lib.hid hown; clear hgr hown)
    go_end0
    have HB5 : Blk (w'.setCell ⟨gb, 0, none⟩ (.slice A3 (gs ++ [n]).length cap3)) gb 36 #[.slice A3 (gs ++ [n]).length cap3] := HB3.out.set_ 0 _
    have hg5 : w'.grownBy (w'.setCell ⟨gb, 0, none⟩ (.slice A3 (gs ++ [n]).length cap3)) (some gb) := only_setCell (p := ⟨gb, 0, none⟩) (only_refl w' _) (.inl rfl) _
    have HR5 : Rd (w'.setCell ⟨gb, 0, none⟩ (.slice A3 (gs ++ [n]).length cap3)) rb A cap l s := HR3.out.grown hg5 (HB3.out.far1 (by decide)) (HB3.out.far1 (by decide))
    have HO5 := HO3.out.grown hg5 (HB3.out.far1 (by decide))
    rw [List.length_append, List.length_singleton] at HB5 HR5 HO5 hg5
    have hg6 : (w'.setCell ⟨gb, 0, none⟩ (.slice A3 (gs.length + 1) cap3)).grownBy ((w'.setCell ⟨gb, 0, none⟩ (.slice A3 (gs.length + 1) cap3)).setCell ⟨rb, 1, none⟩ (.int .i64 ((s.at_ : Int) + 1))) (some rb) :=
      only_setCell (p := ⟨rb, 1, none⟩) (only_refl _ _) (.inl rfl) _
    have hBw : B ≤ w'.heap.size := Nat.le_trans (by have := HGB.out.lt; omega) HT3.out.size
    refine ⟨rfl, HR5.set_ 1 _ rfl HAT.out, ⟨_, HB5.grown hg6 (by intro e; exact hne (by injection e)), HO5.grown hg6 (HR5.far (by decide))⟩, (HT3.out.trans (But.of_only hg5 hBw fun k hk => .inr ?_)).trans (But.of_only hg6 (by rw [size_setCell]; exact hBw) fun k hk => .inl ?_)⟩
    · injection hk with hk; omega
    · injection hk with hk; exact hk.symm
  | false =>
    have hle : m ≤ 1 := by simpa using hd
    clear hy
    go_enter Try.func95, Try.ntmps95
    go_wp2_with (at_builtin; go_must (refine wpList_append_int _ rfl (.tmp 28) (.tmp 30) rfl B (.slice Ag m capg) gs n rfl (by exact HO.out) _ rfl rfl (by rw [HM.out]; omega) (by have := HGB.out.lt; omega) ?_); intro v' w' hown hgr; obtain ⟨HR3, HB3, HT3, e1, e2, e3, e4⟩ := comma_step hgr H.out HGB.out HO.out (by have := HGB.out.lt; omega); obtain ⟨A3, cap3, rfl, _⟩ := hown.form; have HO3 := Lib.hid hown; clear hgr hown)
    go_end0
    have HB5 : Blk (w'.setCell ⟨gb, 0, none⟩ (.slice A3 (gs ++ [n]).length cap3)) gb 36 #[.slice A3 (gs ++ [n]).length cap3] := HB3.out.set_ 0 _
    have hg5 : w'.grownBy (w'.setCell ⟨gb, 0, none⟩ (.slice A3 (gs ++ [n]).length cap3)) (some gb) := only_setCell (p := ⟨gb, 0, none⟩) (only_refl w' _) (.inl rfl) _
    have HR5 : Rd (w'.setCell ⟨gb, 0, none⟩ (.slice A3 (gs ++ [n]).length cap3)) rb A cap l s := HR3.out.grown hg5 (HB3.out.far1 (by decide)) (HB3.out.far1 (by decide))
    have HO5 := HO3.out.grown hg5 (HB3.out.far1 (by decide))
    rw [List.length_append, List.length_singleton] at HB5 HR5 HO5 hg5
    have hg6 : (w'.setCell ⟨gb, 0, none⟩ (.slice A3 (gs.length + 1) cap3)).grownBy ((w'.setCell ⟨gb, 0, none⟩ (.slice A3 (gs.length + 1) cap3)).setCell ⟨rb, 1, none⟩ (.int .i64 ((s.at_ : Int) + 1))) (some rb) :=
      only_setCell (p := ⟨rb, 1, none⟩) (only_refl _ _) (.inl rfl) _
    have hBw : B ≤ w'.heap.size := Nat.le_trans (by have := HGB.out.lt; omega) HT3.out.size
    refine ⟨rfl, HR5.set_ 1 _ rfl HAT.out, ⟨_, HB5.grown hg6 (by intro e; exact hne (by injection e)), HO5.grown hg6 (HR5.far (by decide))⟩, (HT3.out.trans (But.of_only hg5 hBw fun k hk => .inr ?_)).trans (But.of_only hg6 (by rw [size_setCell]; exact hBw) fun k hk => .inl ?_)⟩
    · injection hk with hk; omega
    · injection hk with hk; exact hk.symm
end
end Go.Proofs.Ytdbcdgojbegakaa
