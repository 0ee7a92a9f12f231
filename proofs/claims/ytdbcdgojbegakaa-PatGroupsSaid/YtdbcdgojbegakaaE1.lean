/-
slices.Equal on rows of pieces; pat.Same.
-/
import Derived.Test.YtdbcdgojbegakaaP1
import Derived.Test.YtdbcdgojbegakaaS3
import Derived.Laws.StructEq
namespace Go.Proofs.Ytdbcdgojbegakaa
open Go.RowKit

theorem eqf_two {d : Nat} {xs ys : Array Value} {f g : Field} {a b c e : Value} {r s : Bool} {w : World} (hn : (f.name == "_") = false) (hn2 : (g.name == "_") = false)
    (ha : (part f.type xs f.offset).run Try.prog w = .ok a w) (hb : (part f.type ys f.offset).run Try.prog w = .ok b w) (he : (Op.equalIn d f.type a b).run Try.prog w = .ok r w)
    (hc : (part g.type xs g.offset).run Try.prog w = .ok c w) (hd : (part g.type ys g.offset).run Try.prog w = .ok e w) (hf : (Op.equalIn d g.type c e).run Try.prog w = .ok s w) :
    (Op.eqFields d xs ys [f, g]).run Try.prog w = .ok (r && s) w := by
  have h1 : f.name ≠ "_" := by simpa using hn
  have h2 : g.name ≠ "_" := by simpa using hn2
  simp only [Op.eqFields, if_pos h1, if_pos h2, Sem.run_bind, ha, hb, he, Result.andThen_ok]
  cases r <;> simp [hc, hd, hf]
  cases s <;> simp
theorem tk_neq (x y : Tk) (w : World) : (binOp .neq 34 (.agg #[.int .i64 x.kind, .int .i32 x.r]) (.agg #[.int .i64 y.kind, .int .i32 y.r])).run Try.prog w = .ok (.bool (decide (x ≠ y))) w := by
  have hu : Try.prog.underlying 34 = some (.struct (Try.prog.fieldsOf 34)) := by kernel_rfl
  have hp : Try.prog.stoodInHeld 34 = false := by kernel_rfl
  have hf : Try.prog.fieldsOf 34 = #[{ name := "Kind", type := 3, offset := 0, embedded := false, tag := "", pkgPath := "", byteOffset := 0 }, { name := "R", type := 21, offset := 1, embedded := false, tag := "", pkgPath := "", byteOffset := 8 }] := by kernel_rfl
  have h := eqf_two (d := 9999) (xs := #[.int .i64 x.kind, .int .i32 x.r]) (ys := #[.int .i64 y.kind, .int .i32 y.r]) (f := { name := "Kind", type := 3, offset := 0, embedded := false, tag := "", pkgPath := "", byteOffset := 0 }) (g := { name := "R", type := 21, offset := 1, embedded := false, tag := "", pkgPath := "", byteOffset := 8 })
    (w := w) (by decide) (by decide) (a := .int .i64 x.kind) (b := .int .i64 y.kind) (c := .int .i32 x.r) (e := .int .i32 y.r) (by kernel_rfl) (by kernel_rfl) (run_equalIn_int w 9998 3 .i64 .i64 _ _ Try.underlying3) (by kernel_rfl) (by kernel_rfl) (run_equalIn_int w 9998 21 .i32 .i32 _ _ Try.underlying21)
  rw [run_neq_struct, run_equalIn_struct w 9999 34 _ _ hu hp, hf, h]
  simp only [Result.andThen_ok]
  have : (x.kind == y.kind && x.r == y.r) = decide (x = y) := by
    obtain ⟨a, b⟩ := x; obtain ⟨c, d⟩ := y
    by_cases h1 : a = c <;> by_cases h2 : b = d <;> simp [h1, h2]
  rw [this]; simp
theorem tk_guard : Try.prog.eqGuardType Try.prog.depth 34 = false := by kernel_rfl

theorem TL.nth {w : World} {v : Value} {ts : List Tk} (h : TL w v ts) : ∃ A cap, v = .slice A ts.length cap ∧ ∀ i (hi : i < ts.length), ∃ ad, A = some ad ∧ w.cell? (ad.add (i * 2)) = some (.int .i64 ts[i].kind) ∧ w.cell? ⟨(ad.add (i * 2)).block, (ad.add (i * 2)).off + 1, none⟩ = some (.int .i32 ts[i].r) := by
  obtain ⟨A, cap, e, hh, -⟩ := h
  refine ⟨A, cap, e, fun i hi => ?_⟩
  obtain ⟨ad, ea, h1, h2⟩ := hh i ts[i] (List.getElem?_eq_getElem hi)
  refine ⟨ad, ea, h1, ?_⟩
  rw [← add_of_add, show ∀ x : Addr, x.add 1 = ⟨x.block, x.off + 1, none⟩ from fun x => by simp [Addr.add]] at h2
  exact h2

set_option maxRecDepth 100000 in
set_option maxHeartbeats 4000000 in
theorem equal_any (w : World) (v1 v2 : Value) (a b : List Tk) (h1 : TL w v1 a) (h2 : TL w v2 b) (ha : a.length ≤ 400) :
    Calls Try.prog 24 #[v1, v2] w fun e w' => e = .returned (.bool (decide (a = b))) ∧ w.grownBy w' none := by
  obtain ⟨A1, c1, rfl, n1⟩ := h1.nth
  obtain ⟨A2, c2, rfl, n2⟩ := h2.nth
  clear h1 h2
  by_cases hn : a.length = b.length
  · have hn2 : ((a.length : Int) != (b.length : Int)) = false := by simp [hn]
    have HN := Lib.hid hn
    have N2 := Lib.hid n2
    have N1 := Lib.hid n1
    clear n1 n2 hn
    go_enter Try.func24, Try.ntmps24
    go_wp2_with fail
    go_loopg [13] a.length (fun kq v13 wr => ∃ k : Nat, v13 = .int .i64 k ∧ Hid (kq + k = a.length) ∧ Hid (a.take k = b.take k) ∧ Hid (w.grownBy wr none))
    case atStart => exact ⟨0, rfl, rfl, by simp [Hid], only_refl _ _⟩
    case round =>
      obtain ⟨k, rfl, HK, HE, HG⟩ := hrel
      by_cases hk : k < a.length
      · obtain ⟨ad1, rfl, d1, d2⟩ := N1.out k hk
        obtain ⟨ad2, rfl, d3, d4⟩ := N2.out k (by have := HN.out; omega)
        have e1 := HG.out.cell d1 (by simp)
        have e2 := HG.out.cell d2 (by simp)
        have e3 := HG.out.cell d3 (by simp)
        have e4 := HG.out.cell d4 (by simp)
        have hkb : k < b.length := by have := HN.out; omega
        have hk2 : (k : Int) < (a.length : Int) := by omega
        have hk3 : (k : Int) < (b.length : Int) := by omega
        clear d1 d2 d3 d4
        have hgd := tk_guard
        have hne := tk_neq a[k] b[k]
        by_cases he : a[k] = b[k]
        · have hd : decide (a[k] ≠ b[k]) = false := by simpa using he
          have HE2 : Hid (a.take (k + 1) = b.take (k + 1)) := by
            rw [Hid, List.take_add_one, List.take_add_one, HE.out, List.getElem?_eq_getElem hk, List.getElem?_eq_getElem hkb, he]
          rw [hd] at hne
          clear he hd
          go_wp2_with fail
          go_quiet (fail)
          go_wp2_with fail
          go_roundg (a.length - (k + 1))
          case measure => have := HK.out; omega
          case rel => exact ⟨k + 1, by simp, by show _ = _; omega, HE2, only_drewN HG.out _⟩
        · have hd : decide (a[k] ≠ b[k]) = true := by simpa using he
          have HF : Hid (a ≠ b) := fun e => he (by simp only [e])
          rw [hd] at hne
          clear he hd
          go_wp2_with fail
          go_quiet (fail)
          go_wp2_with fail
          go_ret
          exact ⟨by have := HF.out; simp [this], only_drewN HG.out _⟩
      · have hkn : k = a.length := by have := HK.out; omega
        have HF : Hid (a = b) := by
          have := HE.out
          rw [hkn, List.take_length, HN.out, List.take_length] at this
          exact this
        have hk2 : ¬ ((k : Int) < (a.length : Int)) := by omega
        clear hkn
        go_wp2_with fail
        go_ret
        exact ⟨by have := HF.out; simp [this], HG.out⟩
  · have hn2 : ((a.length : Int) != (b.length : Int)) = true := by simp; omega
    have HN := Lib.hid hn
    clear n1 n2 hn
    go_enter Try.func24, Try.ntmps24
    go_wp2_with fail
    go_ret
    refine ⟨?_, only_refl _ _⟩
    have : ¬ a = b := fun e => HN.out (by rw [e])
    simp [this]
end Go.Proofs.Ytdbcdgojbegakaa
