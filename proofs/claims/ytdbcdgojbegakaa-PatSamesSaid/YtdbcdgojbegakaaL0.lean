/-
append of a row of pieces onto a row of the call's own, at a step of a region that draws its order.
-/
import Derived.Test.YtdbcdgojbegakaaSM2
import Derived.Test.YtdbcdgojbegakaaRJ
import Derived.Deep.AppendLies
namespace Go.Proofs.Ytdbcdgojbegakaa
open Go.RowKit

set_option maxRecDepth 100000 in
theorem run_append_tl (w0 : World) (ty : TypeId) (B : Nat) (v v2 : Value) (ts ts2 : List Tk) (hown : OwnT w0 B v ts) (h2 : TL w0 v2 ts2) (hlen : ts.length + ts2.length ≤ 65536) (hB : B ≤ w0.heap.size) :
    ∃ v' w', (Builtin.append_ #[22, 22] ty #[v, v2]).run Try.prog w0 = .ok v' w' ∧ OwnT w' B v' (ts ++ ts2) ∧ w0.grownBy w' v.ownBlock := by
  obtain ⟨i0, hi, hz0, hz1, hz2⟩ := info_parts info34
  obtain ⟨A, cap, hv, hT, hz⟩ := h2
  cases A with
  | none =>
    have h2 : ts2 = [] := by
      cases ts2 with
      | nil => rfl
      | cons t u => obtain ⟨ad, e, _⟩ := hT 0 t rfl; cases e
    subst h2
    have hc : cap = 0 := hz rfl
    subst hc
    subst hv
    refine ⟨v, w0, run_append_owned_none (P := Try.prog) (w := w0) B 22 ty 34 i0 2 Try.underlying22 hi v ts.length (tkCells ts) hown, by rw [List.append_nil]; exact hown, only_refl w0 _⟩
  | some ad =>
    subst hv
    obtain ⟨v', w', hr, h1, h2, -, -⟩ := run_append_own_at (P := Try.prog) w0 B 22 ty 34 i0 _ 2 16 Try.underlying22 hi hz0 hz1 hz2 rfl (by decide) v ts.length (tkCells ts) hown ad ts2.length cap
      (tkCells ts2) (tkCells_length ts2) (by
        intro j u hj
        have hl : j < (tkCells ts2).length := (List.getElem?_eq_some_iff.1 hj).1
        rw [tkCells_length] at hl
        have hi2 : j / 2 < ts2.length := by omega
        obtain ⟨ad', e, c1, c2⟩ := hT (j / 2) ts2[j / 2] (List.getElem?_eq_getElem hi2)
        injection e with e
        subst e
        have k1 := tkCells_at ts2 (j / 2) _ (List.getElem?_eq_getElem hi2)
        by_cases hm : j % 2 = 0
        · have e1 : j / 2 * 2 = j := by omega
          rw [e1] at c1 k1
          rw [c1, ← k1.1, hj]
        · have e1 : j / 2 * 2 + 1 = j := by omega
          rw [e1] at c2 k1
          rw [c2, ← k1.2, hj]) (tkCells_one ts2) (by simp only [maxLen]; omega) (by omega) hB
    refine ⟨v', w', hr, ?_, h2⟩
    show w'.ownsRow B 34 2 v' (ts ++ ts2).length (tkCells (ts ++ ts2))
    rw [tkCells_append, List.length_append]
    exact h1

theorem step_append_tl {ops : Array Oper} {o : Oper} {a : Act} {K : Act → World → Prop} {Q : Exit → Act → World → Prop} {E : Prop} {w0 : World} (hgd : o.guard = none) (s x : Operand)
    (ho : o.op = .call { callee := .builtin .append, args := #[s, x], argTypes := #[22, 22] }) (B : Nat) (v v2 : Value) (ts ts2 : List Tk)
    (hs : a.eval s = v) (hx : a.eval x = v2) (hown : OwnT w0 B v ts) (h2 : TL w0 v2 ts2) (hlen : ts.length + ts2.length ≤ 65536) (hB : B ≤ w0.heap.size)
    (h : ∀ v' w', OwnT w' B v' (ts ++ ts2) → w0.grownBy w' v.ownBlock → K (a.put o.dst v') w') :
    if Region.wanted o (yielded ops a.tmps) = true then Oper.wp Try.prog o a w0 K Q else E := by
  have hw : Region.wanted o (yielded ops a.tmps) = true := by simp [Region.wanted, hgd]
  rw [if_pos hw]
  obtain ⟨v', w', hr, h3, h4⟩ := run_append_tl w0 o.type B v v2 ts ts2 hown h2 hlen hB
  unfold Oper.wp execOp
  simp only [ho, resolve, invoke, builtin, Sem.run_bind, Sem.run_pure, Result.andThen_ok, List.map_toArray, List.map_cons, List.map_nil, hs, hx, hr]
  exact h v' w' h3 h4

/-- A block of no cells is a row of the call's own. -/
theorem OwnT.empty {w : World} {g B : Nat} (h : Blk w g 34 #[]) (hB : B ≤ g) : OwnT w B (.slice (some ⟨g, 0, none⟩) 0 0) [] :=
  ⟨rfl, .inr ⟨g, 0, #[], rfl, hB, h, by simp, by simp [maxLen], rfl, rfl⟩⟩
theorem TL.one {w : World} {g : Nat} {t : Tk} {cap : Nat} (h : Blk w g 34 #[.int .i64 t.kind, .int .i32 t.r]) : TL w (.slice (some ⟨g, 0, none⟩) 1 cap) [t] := by
  refine ⟨some ⟨g, 0, none⟩, cap, rfl, ?_, by simp⟩
  intro i u hi
  cases i with
  | zero =>
    injection hi with hi; subst hi
    exact ⟨_, rfl, h.cell 0, h.cell 1⟩
  | succ i => cases hi

/-- What stands when q is made. -/
structure AfterQ (w wx : World) (m : Nat) (PA QC : Array Value) (q : Pt) : Prop where
  bx : Blk wx w.heap.size 24 PA
  qx : Blk wx m 24 QC
  gx : w.grownBy wx none
  px : PatV wx (.agg QC) q
def NewQ (w wx : World) (m : Nat) (PA : Array Value) (p : Pt) : Prop := ∃ X1 X2 X3 X4 q, ¬ p = q ∧ (q.pre ++ q.suf ++ q.npre ++ q.nsuf).length ≤ 400 ∧ AfterQ w wx m PA (ptCells X1 X2 X3 X4 q) q
theorem wrap_ne (x : Int) : ¬ x = wrap64 (x + 1) := by unfold wrap64; omega
theorem wrap32_ne (x : Int) : ¬ x = wrap32 (x + 1) := by unfold wrap32; omega

/-- What stands while q's new row is made. -/
structure AtS (w W : World) (m : Nat) (PA : Array Value) (t : Tk) : Prop where
  g : w.grownBy W none
  bp : Blk W w.heap.size 24 PA
  bq : Blk W m 24 PA
  bt : Blk W (w.heap.size + 1) 34 #[.int .i64 t.kind, .int .i32 t.r]
theorem AtS.alloc {w W : World} {m : Nat} {PA : Array Value} {t : Tk} (h : AtS w W m PA t) (o : Obj) : AtS w (W.alloc o) m PA t := ⟨only_alloc h.g o, h.bp.alloc o, h.bq.alloc o, h.bt.alloc o⟩
theorem AtS.same {w W W' : World} {m : Nat} {PA : Array Value} {t : Tk} (h : AtS w W m PA t) (e : W'.heap = W.heap) (e1 : W'.os = W.os) (e2 : W'.tape = W.tape) (e3 : W'.output = W.output) : AtS w W' m PA t := by
  have hg := only_same (only_refl W none) e e1 e2 e3
  exact ⟨only_trans h.g hg, h.bp.grown hg (by simp), h.bq.grown hg (by simp), h.bt.grown hg (by simp)⟩
theorem AtS.grow {w W W' : World} {m : Nat} {PA : Array Value} {t : Tk} {v : Value} {ts : List Tk} (h : AtS w W m PA t) (ho : OwnT W (w.heap.size + 2) v ts) (hg : W.grownBy W' v.ownBlock) : AtS w W' m PA t := by
  refine ⟨only_own h.g ho (by omega) hg, h.bp.grown hg ((ho.far (by decide)).ne h.bp.typ), h.bq.grown hg ((ho.far (by decide)).ne h.bq.typ), h.bt.grown hg ?_⟩
  rcases ho.2 with ⟨rfl, _⟩ | ⟨g, cap, cur, rfl, hb, _⟩
  · simp [Value.ownBlock]
  · intro e; simp [Value.ownBlock] at e; omega
theorem AtS.grow2 {w W W1 W' : World} {m : Nat} {PA : Array Value} {t : Tk} {v : Value} {ts : List Tk} (hg : W1.grownBy W' v.ownBlock) (h : AtS w W m PA t) (e : W1.heap = W.heap) (e1 : W1.os = W.os) (e2 : W1.tape = W.tape) (e3 : W1.output = W.output) (ho : OwnT W (w.heap.size + 2) v ts) : AtS w W' m PA t :=
  (h.same e e1 e2 e3).grow (ho.heap e) hg
theorem own_new {W : World} {B : Nat} (hB : B ≤ W.heap.size) : OwnT (W.alloc (.cells #[] 34)) B (.slice (some ⟨W.heap.size, 0, none⟩) 0 0) [] := OwnT.empty (Blk.new W 34 #[]) hB
theorem own_new1 {W : World} {B : Nat} (hB : B ≤ W.heap.size) (o : Obj) : OwnT ((W.alloc o).alloc (.cells #[] 34)) B (.slice (some ⟨W.heap.size + 1, 0, none⟩) 0 0) [] := by
  have := own_new (W := W.alloc o) (B := B) (by simp; omega)
  simpa using this
theorem blk_new1 (W : World) (o : Obj) (t : TypeId) (cs : Array Value) : Blk ((W.alloc o).alloc (.cells cs t)) (W.heap.size + 1) t cs := by
  have := Blk.new (W.alloc o) t cs
  simpa using this
/-- The new row is stored. -/
theorem AtS.put {w W : World} {m : Nat} {PA QC : Array Value} {t : Tk} {q : Pt} {v : Value} {B : Nat} {ts : List Tk} {i : Nat} (h : AtS w W m PA t) (hm : w.heap.size + 2 ≤ m) (ho : OwnT W B v ts) (e : PA.setIfInBounds i v = QC)
    (hp : ∀ wx, w.grownBy wx none → TL wx v ts → PatV wx (.agg QC) q) : AfterQ w (W.setCell ⟨m, i, none⟩ v) m PA QC q := by
  have g1 := only_setCell (p := ⟨m, i, none⟩) h.g (.inr (by show w.heap.size ≤ m; omega)) v
  have g2 : W.grownBy (W.setCell ⟨m, i, none⟩ v) (some m) := only_setCell (p := ⟨m, i, none⟩) (only_refl W (some m)) (.inl rfl) v
  exact ⟨h.bp.far (p := ⟨m, i, none⟩) (by show w.heap.size ≠ m; omega) v, by have := h.bq.set_ i v; rwa [e] at this, g1, hp _ g1 (ho.grown g2 (h.bq.far1 (by decide))).lies⟩
theorem AtS.put1 {w W : World} {m : Nat} {PA QC : Array Value} {t : Tk} {q : Pt} {v : Value} {i : Nat} (h : AtS w W m PA t) (hm : w.heap.size + 2 ≤ m) (e : PA.setIfInBounds i v = QC)
    (hp : ∀ wx, w.grownBy wx none → PatV wx (.agg QC) q) : AfterQ w (W.setCell ⟨m, i, none⟩ v) m PA QC q := by
  have g1 := only_setCell (p := ⟨m, i, none⟩) h.g (.inr (by show w.heap.size ≤ m; omega)) v
  exact ⟨h.bp.far (p := ⟨m, i, none⟩) (by show w.heap.size ≠ m; omega) v, by have := h.bq.set_ i v; rwa [e] at this, g1, hp _ g1⟩
theorem set_far {W : World} {m i g j : Nat} {v x : Value} (h : W.cell? ⟨g, j, none⟩ = some x) (hg : g ≠ m) : (W.setCell ⟨m, i, none⟩ v).cell? ⟨g, j, none⟩ = some x :=
  (only_setCell (p := ⟨m, i, none⟩) (only_refl W (some m)) (.inl rfl) v).cell h (by simpa using hg)
theorem blk_grown2 {w w1 w' : World} {g : Nat} {t : TypeId} {cs : Array Value} {row : Option Nat} (hg : w1.grownBy w' row) (h : Blk w g t cs) (e : w1.heap = w.heap) (hne : some g ≠ row) : Blk w' g t cs :=
  Blk.grown (w := w1) (by unfold Blk; rw [e]; exact h) hg hne
theorem own_ne1 (n : Nat) : some (n + 1) ≠ (Value.slice (some ⟨n, 0, none⟩) 0 0).ownBlock := by simp [Value.ownBlock]
theorem own_ne2 (n : Nat) : some n ≠ (Value.slice (some ⟨n + 1, 0, none⟩) 0 0).ownBlock := by simp [Value.ownBlock]
theorem size_alloc (w : World) (o : Obj) : (w.alloc o).heap.size = w.heap.size + 1 := by simp
/-- A guarded load, wanted, of a whole struct that is a block. -/
theorem wpList_load_cells {ops : Array Oper} {a : Act} {w : World} {Q : Exit → Act → World → Prop} {rest : List Oper} {op : Oper} (hw : Region.wanted op (yielded ops a.tmps) = true) (x : Operand) (ho : op.op = .load 24 x)
    (b : Nat) (hx : a.eval x = .pointer (some ⟨b, 0, none⟩)) (cs : Array Value) (hs : cs.size = 17) (hb : Blk w b 24 cs) (h : wpList Try.prog ops Q rest (a.put op.dst (.agg cs)) w) : wpList Try.prog ops Q (op :: rest) a w := by
  refine wpList_load_wanted hw 24 x ho b 0 hx cs.toList _ (row_range hb) Try.underlying24 rfl ?_ (by simpa using h)
  rw [info24, Array.length_toList, hs]

end Go.Proofs.Ytdbcdgojbegakaa
