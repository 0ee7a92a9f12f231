/-
A pattern that came in as an argument, its rows' bounds told.
-/
import Derived.Test.YtdbcdgojbegakaaOP
import Derived.OpenShut
namespace Go.Proofs.Ytdbcdgojbegakaa
open Go.ChangeShapes Go.WideShapes Go.ChangeAt Go.RowKit Go.Deep Go.Joins

/-- A pattern as a value, its rows' bounds told. -/
structure PatIn (w : World) (A1 A2 A3 A4 : Option Addr) (c1 c2 c3 c4 : Nat) (p : Pt) : Prop where
  t1 : TL w (.slice A1 p.pre.length c1) p.pre
  t2 : TL w (.slice A2 p.suf.length c2) p.suf
  t3 : TL w (.slice A3 p.npre.length c3) p.npre
  t4 : TL w (.slice A4 p.nsuf.length c4) p.nsuf
  k1 : p.pre.length ≤ c1
  k2 : p.suf.length ≤ c2
  k3 : p.npre.length ≤ c3
  k4 : p.nsuf.length ≤ c4
  b : ∀ t ∈ p.pre ++ p.suf ++ p.npre ++ p.nsuf, -2147483648 ≤ t.r ∧ t.r < 2147483648
  bp : -2147483648 ≤ p.pad ∧ p.pad < 2147483648
  l : p.pre.length ≤ 1000000000000000000 ∧ p.suf.length ≤ 1000000000000000000 ∧ p.npre.length ≤ 1000000000000000000 ∧ p.nsuf.length ≤ 1000000000000000000

theorem open_toks2 {H : Type} {enc : TypeId × Value → H} {w : World} {base n : Nat} {spare : Nat → Bool} {held : Bool} {c : Value} {x : DataW H × List MemPlace} (h : DataW.trod enc Try.prog w base spare held n 22 [c] = some x) :
    ∃ (ts : List Tk) (A : Option Addr) (cap : Nat), c = .slice A ts.length cap ∧ TL w c ts ∧ ts.length ≤ cap ∧ (∀ t ∈ ts, -2147483648 ≤ t.r ∧ t.r < 2147483648) ∧ ((x.1.weights Try.prog 22).all (· ≤ reachBytes) = true → ts.length ≤ 1000000000000000000) := by
  rcases open_slice_pairs Try.underlying22 Try.underlying34 cells34 rfl rfl (by kernel_rfl) (by kernel_rfl) h with ⟨hc, -⟩ | ⟨a, len, cap, m, n, V0, V1, D0, D1, P0, P1, hc, -, hlc, -, hm, hx, hcell⟩
  · injection hc with hc
    subst hc
    exact ⟨[], none, 0, rfl, ⟨none, 0, rfl, fun i t hi => by simp at hi, fun _ => rfl⟩, by simp, fun t ht => by simp at ht, fun _ => by simp⟩
  · injection hc with hc
    subst hc
    subst hx
    have hlm : len ≤ m := by rw [hm]; split <;> omega
    refine ⟨(List.range len).map fun i => ⟨intOf (V0 i), intOf (V1 i)⟩, some a, cap, by simp, ⟨some a, cap, by simp, ?_, by simp⟩, by simpa using hlc, ?_, ?_⟩
    · intro i t hi
      rw [List.getElem?_map] at hi
      obtain ⟨j, hj, rfl⟩ := Option.map_eq_some_iff.1 hi
      have hlt : i < len := by
        have := (List.getElem?_eq_some_iff.1 hj).1
        simpa using this
      rw [List.getElem?_range hlt] at hj
      injection hj with hj
      subst hj
      obtain ⟨c0, c1, t0, t1⟩ := hcell i (by omega)
      obtain ⟨z0, e0, -, -⟩ := DataW.trod_int Try.underlying3 t0
      obtain ⟨z1, e1, -, -⟩ := DataW.trod_int Try.underlying21 t1
      injection e0 with e0
      injection e1 with e1
      refine ⟨a, rfl, ?_, ?_⟩
      · rw [c0, e0]; rfl
      · rw [c1, e1]; rfl
    · intro t ht
      obtain ⟨j, hj, rfl⟩ := List.mem_map.1 ht
      have hlt : j < len := List.mem_range.1 hj
      obtain ⟨c0, c1, t0, t1⟩ := hcell j (by omega)
      obtain ⟨z1, e1, -, hw⟩ := DataW.trod_int Try.underlying21 t1
      injection e1 with e1
      have hb := bounds_i32 hw
      show -2147483648 ≤ intOf (V1 j) ∧ intOf (V1 j) < 2147483648
      rw [e1]
      show -2147483648 ≤ z1 ∧ z1 < 2147483648
      omega
    · intro hz
      have := List.all_eq_true.1 hz _ (by
        show (((List.range len).map fun i => DataW.agg [D0 i, D1 i]).length + ((List.range (m - len)).map fun j => DataW.agg [D0 (len + j), D1 (len + j)]).length) * Try.prog.bytesOf 34 ∈ _
        simp only [DataW.weights, Try.underlying22]
        exact List.mem_cons_self)
      rw [bytes34] at this
      simp only [List.length_map, List.length_range, decide_eq_true_eq, reachBytes] at this ⊢
      omega

set_option maxRecDepth 100000 in
set_option maxHeartbeats 4000000 in
/-- A pattern that came in. -/
theorem open_pat2 {H : Type} {enc : TypeId × Value → H} {W : World} {b0 base : Nat} {r : Reach} {spare : Nat → Bool} {held : Bool} {v : Value} {d : DataW H} {ps : List MemPlace} (hv : Value.okWide Try.prog W r b0 24 v)
    (h : DataW.Trod enc Try.prog W base spare held 24 v d ps) (hz : (d.weights Try.prog 24).all (· ≤ reachBytes) = true) :
    ∃ (p : Pt) (A1 A2 A3 A4 : Option Addr) (a1 a2 a3 a4 : Nat), v = .agg (ptCells (.slice A1 p.pre.length a1) (.slice A2 p.suf.length a2) (.slice A3 p.npre.length a3) (.slice A4 p.nsuf.length a4) p) ∧ PatIn W A1 A2 A3 A4 a1 a2 a3 a4 p := by
  obtain ⟨cs, rfl, hsz⟩ := okWide_struct Try.underlying24 hv
  obtain ⟨fuel, hf⟩ := h
  obtain ⟨xs, n, -, hx, -, hxl, hfs⟩ := DataW.trod_struct Try.underlying24 hf
  obtain ⟨c0, c1, c2, c3, c4, c5, c6, c7, c8, c9, c10, c11, c12, c13, c14, c15, c16, hcs⟩ := list17 (cs := cs.toList) (by rw [Array.length_toList, hsz]; exact cells24)
  have hcs2 : cs = #[c0, c1, c2, c3, c4, c5, c6, c7, c8, c9, c10, c11, c12, c13, c14, c15, c16] := by rw [← hcs]
  subst hcs2
  clear hcs hsz hf
  have hd : d = .agg (xs.map (·.1)) := (Prod.mk.inj hx).1
  have weigh : ∀ (j : Nat) (x : DataW H × List MemPlace), j < 4 → xs[j]? = some x → (x.1.weights Try.prog 22).all (· ≤ reachBytes) = true := by
    intro j x hj hxj
    rw [List.all_eq_true] at hz ⊢
    intro k hk
    refine hz k ?_
    rw [hd]
    simp only [DataW.weights, Try.underlying24]
    refine DataW.weights_mem_each (j := j) (t := 22) (d := x.1) ?_ ?_ k hk
    · match j, hj with
      | 0, _ => rfl
      | 1, _ => rfl
      | 2, _ => rfl
      | 3, _ => rfl
    · rw [List.getElem?_map, hxj]; rfl
  obtain ⟨x0, e0⟩ : ∃ x, xs[0]? = some x := ⟨xs[0]'(by rw [hxl]; decide), List.getElem?_eq_getElem _⟩
  have t0 : DataW.trod enc Try.prog W base spare held n 22 [c0] = some x0 := by
    have : DataW.trod enc Try.prog W base spare held n 22 (List.take (Try.prog.cellsOf 22) (List.drop 0 [c0, _, _, _, _, _, _, _, _, _, _, _, _, _, _, _, _])) = xs[0]? := hfs 0 _ rfl
    rw [e0, cells22] at this
    exact this
  obtain ⟨l0, A0, a0, rfl, tl0, hc0, hb0, hl0⟩ := open_toks2 t0
  have hl0 := hl0 (weigh 0 x0 (by omega) e0)
  obtain ⟨x1, e1⟩ : ∃ x, xs[1]? = some x := ⟨xs[1]'(by rw [hxl]; decide), List.getElem?_eq_getElem _⟩
  have t1 : DataW.trod enc Try.prog W base spare held n 22 [c1] = some x1 := by
    have : DataW.trod enc Try.prog W base spare held n 22 (List.take (Try.prog.cellsOf 22) (List.drop 1 [_, c1, _, _, _, _, _, _, _, _, _, _, _, _, _, _, _])) = xs[1]? := hfs 1 _ rfl
    rw [e1, cells22] at this
    exact this
  obtain ⟨l1, A1, a1, rfl, tl1, hc1, hb1, hl1⟩ := open_toks2 t1
  have hl1 := hl1 (weigh 1 x1 (by omega) e1)
  obtain ⟨x2, e2⟩ : ∃ x, xs[2]? = some x := ⟨xs[2]'(by rw [hxl]; decide), List.getElem?_eq_getElem _⟩
  have t2 : DataW.trod enc Try.prog W base spare held n 22 [c2] = some x2 := by
    have : DataW.trod enc Try.prog W base spare held n 22 (List.take (Try.prog.cellsOf 22) (List.drop 2 [_, _, c2, _, _, _, _, _, _, _, _, _, _, _, _, _, _])) = xs[2]? := hfs 2 _ rfl
    rw [e2, cells22] at this
    exact this
  obtain ⟨l2, A2, a2, rfl, tl2, hc2, hb2, hl2⟩ := open_toks2 t2
  have hl2 := hl2 (weigh 2 x2 (by omega) e2)
  obtain ⟨x3, e3⟩ : ∃ x, xs[3]? = some x := ⟨xs[3]'(by rw [hxl]; decide), List.getElem?_eq_getElem _⟩
  have t3 : DataW.trod enc Try.prog W base spare held n 22 [c3] = some x3 := by
    have : DataW.trod enc Try.prog W base spare held n 22 (List.take (Try.prog.cellsOf 22) (List.drop 3 [_, _, _, c3, _, _, _, _, _, _, _, _, _, _, _, _, _])) = xs[3]? := hfs 3 _ rfl
    rw [e3, cells22] at this
    exact this
  obtain ⟨l3, A3, a3, rfl, tl3, hc3, hb3, hl3⟩ := open_toks2 t3
  have hl3 := hl3 (weigh 3 x3 (by omega) e3)
  obtain ⟨x4, e4⟩ : ∃ x, xs[4]? = some x := ⟨xs[4]'(by rw [hxl]; decide), List.getElem?_eq_getElem _⟩
  have t4 : DataW.trod enc Try.prog W base spare held n 4 [c4] = some x4 := by
    have : DataW.trod enc Try.prog W base spare held n 4 (List.take (Try.prog.cellsOf 4) (List.drop 4 [_, _, _, _, c4, _, _, _, _, _, _, _, _, _, _, _, _])) = xs[4]? := hfs 4 _ rfl
    rw [e4, cells4] at this
    exact this
  obtain ⟨z4, y4, -⟩ := DataW.trod_bool Try.underlying4 t4
  injection y4 with y4
  subst y4
  obtain ⟨x5, e5⟩ : ∃ x, xs[5]? = some x := ⟨xs[5]'(by rw [hxl]; decide), List.getElem?_eq_getElem _⟩
  have t5 : DataW.trod enc Try.prog W base spare held n 3 [c5] = some x5 := by
    have : DataW.trod enc Try.prog W base spare held n 3 (List.take (Try.prog.cellsOf 3) (List.drop 5 [_, _, _, _, _, c5, _, _, _, _, _, _, _, _, _, _, _])) = xs[5]? := hfs 5 _ rfl
    rw [e5, cells3] at this
    exact this
  obtain ⟨z5, y5, -, hw5⟩ := DataW.trod_int Try.underlying3 t5
  injection y5 with y5
  subst y5
  obtain ⟨x6, e6⟩ : ∃ x, xs[6]? = some x := ⟨xs[6]'(by rw [hxl]; decide), List.getElem?_eq_getElem _⟩
  have t6 : DataW.trod enc Try.prog W base spare held n 3 [c6] = some x6 := by
    have : DataW.trod enc Try.prog W base spare held n 3 (List.take (Try.prog.cellsOf 3) (List.drop 6 [_, _, _, _, _, _, c6, _, _, _, _, _, _, _, _, _, _])) = xs[6]? := hfs 6 _ rfl
    rw [e6, cells3] at this
    exact this
  obtain ⟨z6, y6, -, hw6⟩ := DataW.trod_int Try.underlying3 t6
  injection y6 with y6
  subst y6
  obtain ⟨x7, e7⟩ : ∃ x, xs[7]? = some x := ⟨xs[7]'(by rw [hxl]; decide), List.getElem?_eq_getElem _⟩
  have t7 : DataW.trod enc Try.prog W base spare held n 3 [c7] = some x7 := by
    have : DataW.trod enc Try.prog W base spare held n 3 (List.take (Try.prog.cellsOf 3) (List.drop 7 [_, _, _, _, _, _, _, c7, _, _, _, _, _, _, _, _, _])) = xs[7]? := hfs 7 _ rfl
    rw [e7, cells3] at this
    exact this
  obtain ⟨z7, y7, -, hw7⟩ := DataW.trod_int Try.underlying3 t7
  injection y7 with y7
  subst y7
  obtain ⟨x8, e8⟩ : ∃ x, xs[8]? = some x := ⟨xs[8]'(by rw [hxl]; decide), List.getElem?_eq_getElem _⟩
  have t8 : DataW.trod enc Try.prog W base spare held n 3 [c8] = some x8 := by
    have : DataW.trod enc Try.prog W base spare held n 3 (List.take (Try.prog.cellsOf 3) (List.drop 8 [_, _, _, _, _, _, _, _, c8, _, _, _, _, _, _, _, _])) = xs[8]? := hfs 8 _ rfl
    rw [e8, cells3] at this
    exact this
  obtain ⟨z8, y8, -, hw8⟩ := DataW.trod_int Try.underlying3 t8
  injection y8 with y8
  subst y8
  obtain ⟨x9, e9⟩ : ∃ x, xs[9]? = some x := ⟨xs[9]'(by rw [hxl]; decide), List.getElem?_eq_getElem _⟩
  have t9 : DataW.trod enc Try.prog W base spare held n 3 [c9] = some x9 := by
    have : DataW.trod enc Try.prog W base spare held n 3 (List.take (Try.prog.cellsOf 3) (List.drop 9 [_, _, _, _, _, _, _, _, _, c9, _, _, _, _, _, _, _])) = xs[9]? := hfs 9 _ rfl
    rw [e9, cells3] at this
    exact this
  obtain ⟨z9, y9, -, hw9⟩ := DataW.trod_int Try.underlying3 t9
  injection y9 with y9
  subst y9
  obtain ⟨x10, e10⟩ : ∃ x, xs[10]? = some x := ⟨xs[10]'(by rw [hxl]; decide), List.getElem?_eq_getElem _⟩
  have t10 : DataW.trod enc Try.prog W base spare held n 3 [c10] = some x10 := by
    have : DataW.trod enc Try.prog W base spare held n 3 (List.take (Try.prog.cellsOf 3) (List.drop 10 [_, _, _, _, _, _, _, _, _, _, c10, _, _, _, _, _, _])) = xs[10]? := hfs 10 _ rfl
    rw [e10, cells3] at this
    exact this
  obtain ⟨z10, y10, -, hw10⟩ := DataW.trod_int Try.underlying3 t10
  injection y10 with y10
  subst y10
  obtain ⟨x11, e11⟩ : ∃ x, xs[11]? = some x := ⟨xs[11]'(by rw [hxl]; decide), List.getElem?_eq_getElem _⟩
  have t11 : DataW.trod enc Try.prog W base spare held n 3 [c11] = some x11 := by
    have : DataW.trod enc Try.prog W base spare held n 3 (List.take (Try.prog.cellsOf 3) (List.drop 11 [_, _, _, _, _, _, _, _, _, _, _, c11, _, _, _, _, _])) = xs[11]? := hfs 11 _ rfl
    rw [e11, cells3] at this
    exact this
  obtain ⟨z11, y11, -, hw11⟩ := DataW.trod_int Try.underlying3 t11
  injection y11 with y11
  subst y11
  obtain ⟨x12, e12⟩ : ∃ x, xs[12]? = some x := ⟨xs[12]'(by rw [hxl]; decide), List.getElem?_eq_getElem _⟩
  have t12 : DataW.trod enc Try.prog W base spare held n 3 [c12] = some x12 := by
    have : DataW.trod enc Try.prog W base spare held n 3 (List.take (Try.prog.cellsOf 3) (List.drop 12 [_, _, _, _, _, _, _, _, _, _, _, _, c12, _, _, _, _])) = xs[12]? := hfs 12 _ rfl
    rw [e12, cells3] at this
    exact this
  obtain ⟨z12, y12, -, hw12⟩ := DataW.trod_int Try.underlying3 t12
  injection y12 with y12
  subst y12
  obtain ⟨x13, e13⟩ : ∃ x, xs[13]? = some x := ⟨xs[13]'(by rw [hxl]; decide), List.getElem?_eq_getElem _⟩
  have t13 : DataW.trod enc Try.prog W base spare held n 3 [c13] = some x13 := by
    have : DataW.trod enc Try.prog W base spare held n 3 (List.take (Try.prog.cellsOf 3) (List.drop 13 [_, _, _, _, _, _, _, _, _, _, _, _, _, c13, _, _, _])) = xs[13]? := hfs 13 _ rfl
    rw [e13, cells3] at this
    exact this
  obtain ⟨z13, y13, -, hw13⟩ := DataW.trod_int Try.underlying3 t13
  injection y13 with y13
  subst y13
  obtain ⟨x14, e14⟩ : ∃ x, xs[14]? = some x := ⟨xs[14]'(by rw [hxl]; decide), List.getElem?_eq_getElem _⟩
  have t14 : DataW.trod enc Try.prog W base spare held n 4 [c14] = some x14 := by
    have : DataW.trod enc Try.prog W base spare held n 4 (List.take (Try.prog.cellsOf 4) (List.drop 14 [_, _, _, _, _, _, _, _, _, _, _, _, _, _, c14, _, _])) = xs[14]? := hfs 14 _ rfl
    rw [e14, cells4] at this
    exact this
  obtain ⟨z14, y14, -⟩ := DataW.trod_bool Try.underlying4 t14
  injection y14 with y14
  subst y14
  obtain ⟨x15, e15⟩ : ∃ x, xs[15]? = some x := ⟨xs[15]'(by rw [hxl]; decide), List.getElem?_eq_getElem _⟩
  have t15 : DataW.trod enc Try.prog W base spare held n 21 [c15] = some x15 := by
    have : DataW.trod enc Try.prog W base spare held n 21 (List.take (Try.prog.cellsOf 21) (List.drop 15 [_, _, _, _, _, _, _, _, _, _, _, _, _, _, _, c15, _])) = xs[15]? := hfs 15 _ rfl
    rw [e15, cells21] at this
    exact this
  obtain ⟨z15, y15, -, hw15⟩ := DataW.trod_int Try.underlying21 t15
  injection y15 with y15
  subst y15
  obtain ⟨x16, e16⟩ : ∃ x, xs[16]? = some x := ⟨xs[16]'(by rw [hxl]; decide), List.getElem?_eq_getElem _⟩
  have t16 : DataW.trod enc Try.prog W base spare held n 3 [c16] = some x16 := by
    have : DataW.trod enc Try.prog W base spare held n 3 (List.take (Try.prog.cellsOf 3) (List.drop 16 [_, _, _, _, _, _, _, _, _, _, _, _, _, _, _, _, c16])) = xs[16]? := hfs 16 _ rfl
    rw [e16, cells3] at this
    exact this
  obtain ⟨z16, y16, -, hw16⟩ := DataW.trod_int Try.underlying3 t16
  injection y16 with y16
  subst y16
  refine ⟨⟨l0, l1, l2, l3, z4, ⟨z5, z6, z7, z8, z9, z10, z11, z12, z13, z14⟩, z15, z16⟩, A0, A1, A2, A3, a0, a1, a2, a3, rfl, ⟨tl0, tl1, tl2, tl3, hc0, hc1, hc2, hc3, ?_, ?_, hl0, hl1, hl2, hl3⟩⟩
  · intro t ht
    simp only [List.mem_append] at ht
    rcases ht with ((ht | ht) | ht) | ht
    · exact hb0 t ht
    · exact hb1 t ht
    · exact hb2 t ht
    · exact hb3 t ht
  · have := bounds_i32 hw15
    show -2147483648 ≤ z15 ∧ z15 < 2147483648
    omega
end Go.Proofs.Ytdbcdgojbegakaa
