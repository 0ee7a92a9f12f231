/-
The shelf's contracts on strings.Builder's writers, its String, and strings.Repeat, at this program: one numbering for all; and said of texts of runes.
-/
import Derived.Shelf.Strings.BuilderK
import Derived.Shelf.Strings.BuilderRune
import Derived.Shelf.Strings.Repeat
import Derived.Test.YtdbcdgojbegakaaP1
namespace Go.Proofs.Ytdbcdgojbegakaa
open Go.RowKit Go.Shelf

def rn : Go.Shelf.Ren := ⟨fun | 105 => 31 | 212 => 54 | 99 => 55 | 165 => 56 | 166 => 30 | 170 => 57 | 169 => 33 | 263 => 73 | 264 => 74 | 206 => 75 | 240 => 53 | 241 => 76 | 276 => 72 | 277 => 90 | 167 => 32 | 168 => 49 | 242 => 69 | 278 => 89 | n => n, fun | 9 => 9 | 3 => 3 | 4 => 4 | 20 => 20 | 0 => 0 | 46 => 82 | 109 => 83 | 5 => 5 | 72 => 48 | 76 => 51 | 51 => 106 | 146 => 107 | 53 => 109 | 148 => 110 | 70 => 45 | 37 => 46 | 75 => 50 | 127 => 88 | 164 => 104 | 80 => 55 | 21 => 21 | n => n, fun | n => n⟩
theorem bx : Builder.Extra Try.prog rn := {
  sizeBuilder := by kernel_rfl
  liesBuilder := by kernel_rfl
  t5 := Try.underlying5
  a5 := Try.isAgg5
  z5 := Try.sizeOf5
  v5 := Try.zeroValue5
  infoByte := by kernel_rfl
  cellsByte := by kernel_rfl
  sizeByte := by kernel_rfl
  neB5 := by decide }
theorem lays166 : Lays.n166 Try.prog rn := {
  mixed := by kernel_rfl
  f166 := Try.func30.trans (congrArg some (by kernel_rfl))
  f240 := Try.func53.trans (congrArg some (by kernel_rfl))
  f276 := Try.func72.trans (congrArg some (by kernel_rfl))
  t0 := Try.underlying0
  a0 := Try.isAgg0
  z0 := Try.sizeOf0
  v0 := Try.zeroValue0
  t3 := Try.underlying3
  a3 := Try.isAgg3
  z3 := Try.sizeOf3
  v3 := Try.zeroValue3
  t4 := Try.underlying4
  a4 := Try.isAgg4
  z4 := Try.sizeOf4
  v4 := Try.zeroValue4
  t9 := Try.underlying9
  a9 := Try.isAgg9
  z9 := Try.sizeOf9
  v9 := Try.zeroValue9
  t20 := Try.underlying20
  a20 := Try.isAgg20
  z20 := Try.sizeOf20
  v20 := Try.zeroValue20
  t37 := Try.underlying46
  a37 := Try.isAgg46
  z37 := Try.sizeOf46
  v37 := Try.zeroValue46
  t70 := Try.underlying45
  a70 := Try.isAgg45
  z70 := Try.sizeOf45
  v70 := Try.zeroValue45
  t72 := Try.underlying48
  a72 := Try.isAgg48
  z72 := Try.sizeOf48
  v72 := Try.zeroValue48
  t75 := Try.underlying50
  a75 := Try.isAgg50
  z75 := Try.sizeOf50
  v75 := Try.zeroValue50
  t164 := Try.underlying104
  a164 := Try.isAgg104
  z164 := Try.sizeOf104
  v164 := Try.zeroValue104 }
theorem lays167 : Lays.n167 Try.prog rn := {
  mixed := by kernel_rfl
  f167 := Try.func32.trans (congrArg some (by kernel_rfl))
  f240 := Try.func53.trans (congrArg some (by kernel_rfl))
  f276 := Try.func72.trans (congrArg some (by kernel_rfl))
  t0 := Try.underlying0
  a0 := Try.isAgg0
  z0 := Try.sizeOf0
  v0 := Try.zeroValue0
  t4 := Try.underlying4
  a4 := Try.isAgg4
  z4 := Try.sizeOf4
  v4 := Try.zeroValue4
  t5 := Try.underlying5
  a5 := Try.isAgg5
  z5 := Try.sizeOf5
  v5 := Try.zeroValue5
  t9 := Try.underlying9
  a9 := Try.isAgg9
  z9 := Try.sizeOf9
  v9 := Try.zeroValue9
  t20 := Try.underlying20
  a20 := Try.isAgg20
  z20 := Try.sizeOf20
  v20 := Try.zeroValue20
  t37 := Try.underlying46
  a37 := Try.isAgg46
  z37 := Try.sizeOf46
  v37 := Try.zeroValue46
  t70 := Try.underlying45
  a70 := Try.isAgg45
  z70 := Try.sizeOf45
  v70 := Try.zeroValue45
  t72 := Try.underlying48
  a72 := Try.isAgg48
  z72 := Try.sizeOf48
  v72 := Try.zeroValue48
  t75 := Try.underlying50
  a75 := Try.isAgg50
  z75 := Try.sizeOf50
  v75 := Try.zeroValue50
  t164 := Try.underlying104
  a164 := Try.isAgg104
  z164 := Try.sizeOf104
  v164 := Try.zeroValue104 }
theorem lays168 : Lays.n168 Try.prog rn := {
  mixed := by kernel_rfl
  f168 := Try.func49.trans (congrArg some (by kernel_rfl))
  f240 := Try.func53.trans (congrArg some (by kernel_rfl))
  f242 := Try.func69.trans (congrArg some (by kernel_rfl))
  f276 := Try.func72.trans (congrArg some (by kernel_rfl))
  f278 := Try.func89.trans (congrArg some (by kernel_rfl))
  t0 := Try.underlying0
  a0 := Try.isAgg0
  z0 := Try.sizeOf0
  v0 := Try.zeroValue0
  t3 := Try.underlying3
  a3 := Try.isAgg3
  z3 := Try.sizeOf3
  v3 := Try.zeroValue3
  t4 := Try.underlying4
  a4 := Try.isAgg4
  z4 := Try.sizeOf4
  v4 := Try.zeroValue4
  t5 := Try.underlying5
  a5 := Try.isAgg5
  z5 := Try.sizeOf5
  v5 := Try.zeroValue5
  t9 := Try.underlying9
  a9 := Try.isAgg9
  z9 := Try.sizeOf9
  v9 := Try.zeroValue9
  t20 := Try.underlying20
  a20 := Try.isAgg20
  z20 := Try.sizeOf20
  v20 := Try.zeroValue20
  t21 := Try.underlying21
  a21 := Try.isAgg21
  z21 := Try.sizeOf21
  v21 := Try.zeroValue21
  t37 := Try.underlying46
  a37 := Try.isAgg46
  z37 := Try.sizeOf46
  v37 := Try.zeroValue46
  t46 := Try.underlying82
  a46 := Try.isAgg82
  z46 := Try.sizeOf82
  v46 := Try.zeroValue82
  t51 := Try.underlying106
  a51 := Try.isAgg106
  z51 := Try.sizeOf106
  v51 := Try.zeroValue106
  t70 := Try.underlying45
  a70 := Try.isAgg45
  z70 := Try.sizeOf45
  v70 := Try.zeroValue45
  t72 := Try.underlying48
  a72 := Try.isAgg48
  z72 := Try.sizeOf48
  v72 := Try.zeroValue48
  t75 := Try.underlying50
  a75 := Try.isAgg50
  z75 := Try.sizeOf50
  v75 := Try.zeroValue50
  t164 := Try.underlying104
  a164 := Try.isAgg104
  z164 := Try.sizeOf104
  v164 := Try.zeroValue104 }
theorem lays169 : Lays.n169 Try.prog rn := {
  mixed := by kernel_rfl
  f169 := Try.func33.trans (congrArg some (by kernel_rfl))
  t0 := Try.underlying0
  a0 := Try.isAgg0
  z0 := Try.sizeOf0
  v0 := Try.zeroValue0
  t3 := Try.underlying3
  a3 := Try.isAgg3
  z3 := Try.sizeOf3
  v3 := Try.zeroValue3
  t9 := Try.underlying9
  a9 := Try.isAgg9
  z9 := Try.sizeOf9
  v9 := Try.zeroValue9
  t37 := Try.underlying46
  a37 := Try.isAgg46
  z37 := Try.sizeOf46
  v37 := Try.zeroValue46
  t70 := Try.underlying45
  a70 := Try.isAgg45
  z70 := Try.sizeOf45
  v70 := Try.zeroValue45
  t72 := Try.underlying48
  a72 := Try.isAgg48
  z72 := Try.sizeOf48
  v72 := Try.zeroValue48
  t127 := Try.underlying88
  a127 := Try.isAgg88
  z127 := Try.sizeOf88
  v127 := Try.zeroValue88 }
theorem lays105 : Lays.n105 Try.prog rn := {
  mixed := by kernel_rfl
  f99 := Try.func55.trans (congrArg some (by kernel_rfl))
  f105 := Try.func31.trans (congrArg some (by kernel_rfl))
  f165 := Try.func56.trans (congrArg some (by kernel_rfl))
  f166 := Try.func30.trans (congrArg some (by kernel_rfl))
  f169 := Try.func33.trans (congrArg some (by kernel_rfl))
  f170 := Try.func57.trans (congrArg some (by kernel_rfl))
  f206 := Try.func75.trans (congrArg some (by kernel_rfl))
  f212 := Try.func54.trans (congrArg some (by kernel_rfl))
  f240 := Try.func53.trans (congrArg some (by kernel_rfl))
  f241 := Try.func76.trans (congrArg some (by kernel_rfl))
  f263 := Try.func73.trans (congrArg some (by kernel_rfl))
  f264 := Try.func74.trans (congrArg some (by kernel_rfl))
  f276 := Try.func72.trans (congrArg some (by kernel_rfl))
  f277 := Try.func90.trans (congrArg some (by kernel_rfl))
  t0 := Try.underlying0
  a0 := Try.isAgg0
  z0 := Try.sizeOf0
  v0 := Try.zeroValue0
  t3 := Try.underlying3
  a3 := Try.isAgg3
  z3 := Try.sizeOf3
  v3 := Try.zeroValue3
  t4 := Try.underlying4
  a4 := Try.isAgg4
  z4 := Try.sizeOf4
  v4 := Try.zeroValue4
  t5 := Try.underlying5
  a5 := Try.isAgg5
  z5 := Try.sizeOf5
  v5 := Try.zeroValue5
  t9 := Try.underlying9
  a9 := Try.isAgg9
  z9 := Try.sizeOf9
  v9 := Try.zeroValue9
  t20 := Try.underlying20
  a20 := Try.isAgg20
  z20 := Try.sizeOf20
  v20 := Try.zeroValue20
  t37 := Try.underlying46
  a37 := Try.isAgg46
  z37 := Try.sizeOf46
  v37 := Try.zeroValue46
  t46 := Try.underlying82
  a46 := Try.isAgg82
  z46 := Try.sizeOf82
  v46 := Try.zeroValue82
  t51 := Try.underlying106
  a51 := Try.isAgg106
  z51 := Try.sizeOf106
  v51 := Try.zeroValue106
  t53 := Try.underlying109
  a53 := Try.isAgg109
  z53 := Try.sizeOf109
  v53 := Try.zeroValue109
  t70 := Try.underlying45
  a70 := Try.isAgg45
  z70 := Try.sizeOf45
  v70 := Try.zeroValue45
  t72 := Try.underlying48
  a72 := Try.isAgg48
  z72 := Try.sizeOf48
  v72 := Try.zeroValue48
  t75 := Try.underlying50
  a75 := Try.isAgg50
  z75 := Try.sizeOf50
  v75 := Try.zeroValue50
  t76 := Try.underlying51
  a76 := Try.isAgg51
  z76 := Try.sizeOf51
  v76 := Try.zeroValue51
  t109 := Try.underlying83
  a109 := Try.isAgg83
  z109 := Try.sizeOf83
  v109 := Try.zeroValue83
  t127 := Try.underlying88
  a127 := Try.isAgg88
  z127 := Try.sizeOf88
  v127 := Try.zeroValue88
  t146 := Try.underlying107
  a146 := Try.isAgg107
  z146 := Try.sizeOf107
  v146 := Try.zeroValue107
  t148 := Try.underlying110
  a148 := Try.isAgg110
  z148 := Try.sizeOf110
  v148 := Try.zeroValue110
  t164 := Try.underlying104
  a164 := Try.isAgg104
  z164 := Try.sizeOf104
  v164 := Try.zeroValue104 }
/-- A builder that holds a text of runes. -/
def Bu (w : World) (B b : Nat) (rs : List Int) : Prop := Lib.IsBuilderF 48 5 B b (Lib.byteCells (rs.flatMap Lib.encodeRune)) w
/-- What a writer of builder b keeps. -/
structure Kp (B b : Nat) (w w' : World) : Prop where
  below : Below B w w'
  kept : Lib.OthersKept 5 (some b) w w'
theorem Kp.refl (B b : Nat) (w : World) : Kp B b w w := ⟨Below.refl B w, Lib.OthersKept.refl _ _ _⟩
theorem Kp.trans {B b : Nat} {u v w : World} (h : Kp B b u v) (k : Kp B b v w) : Kp B b u w := ⟨h.below.trans k.below, h.kept.trans k.kept⟩
theorem Kp.blk {B b g : Nat} {w w' : World} {t : TypeId} {cs : Array Value} (h : Kp B b w w') (hb : Blk w g t cs) (hg : g ≠ b) (ht : t ≠ 5) : Blk w' g t cs :=
  h.kept g _ hb (by intro e; injection e with e; exact hg e) (fun c fz e => by injection e with _ e _; exact ht e)
theorem Kp.drewN {B b : Nat} {w w' : World} (h : Kp B b w w') (n : Nat) : Kp B b w (w'.drewN n) := ⟨⟨h.below.os, h.below.tape, h.below.output, h.below.size, h.below.block⟩, h.kept⟩
theorem Bu.drewN {B b : Nat} {w : World} {rs : List Int} (h : Bu w B b rs) (n : Nat) : Bu (w.drewN n) B b rs := h

theorem enc_bytes (rs : List Int) : (Lib.byteCells (rs.flatMap Lib.encodeRune)).length ≤ 4 * rs.length := by
  rw [Lib.byteCells_length]
  induction rs with
  | nil => simp
  | cons r rs ih =>
    have := (Lib.encodeRuneZ_length r).2
    simp [Lib.encodeRune] at ih ⊢
    omega
theorem cells_app (a b : List Int) : Lib.byteCells ((a ++ b).flatMap Lib.encodeRune) = Lib.byteCells (a.flatMap Lib.encodeRune) ++ Lib.byteCells (b.flatMap Lib.encodeRune) := by
  simp [Lib.byteCells]
theorem cells_one (r : Int) : Lib.byteCells ([r].flatMap Lib.encodeRune) = Lib.runeCells r := by
  simp only [List.flatMap_cons, List.flatMap_nil, List.append_nil, Lib.byteCells, Lib.encodeRune, Lib.runeCells, List.map_map]
  refine List.map_congr_left fun x hx => ?_
  have := Lib.encodeRuneZ_byte r x hx
  simp
  omega
theorem cells_str (xs : List Int) : Lib.strCells (strOf xs) = Lib.byteCells (xs.flatMap Lib.encodeRune) := by
  rw [Lib.strCells_eq]; rfl

section
variable {w : World} {B b : Nat} {rs : List Int}
theorem bu_byte (h : Bu w B b rs) (c : Int) (h0 : 0 ≤ c) (h1 : c < 128) (hl : rs.length ≤ 1000000) (hB : B ≤ w.heap.size) :
    Calls Try.prog 32 #[.pointer (some ⟨b, 0, none⟩), .int .u8 c] w fun e w' => e = .returned .nilIface ∧ Bu w' B b (rs ++ [c]) ∧ Kp B b w w' := by
  have := enc_bytes rs
  refine (Any.Builder_WriteByte_k lays167 bx B b _ c w h (by omega) hB).mono ?_
  rintro e w' ⟨rfl, h2, h3, h4⟩
  refine ⟨rfl, .inr ?_, h3, h4⟩
  rw [cells_app, cells_one, Lib.runeCells, Lib.encodeRuneZ_one h0 (by omega)]
  exact h2
theorem bu_str (h : Bu w B b rs) (xs : List Int) (hl : rs.length ≤ 1000000) (hx : xs.length ≤ 1000000) (hB : B ≤ w.heap.size) :
    Calls Try.prog 30 #[.pointer (some ⟨b, 0, none⟩), .string (strOf xs)] w fun e w' => (∃ v, e = .returned v) ∧ Bu w' B b (rs ++ xs) ∧ Kp B b w w' := by
  have := enc_bytes rs
  have h5 := enc_bytes xs
  have h6 : (strOf xs).size = (Lib.byteCells (xs.flatMap Lib.encodeRune)).length := by rw [← cells_str, Lib.strCells_length]
  refine (Any.Builder_WriteString_k lays166 bx B b _ (strOf xs) w h (by omega) hB).mono ?_
  rintro e w' ⟨rfl, h2, h3, h4⟩
  refine ⟨⟨_, rfl⟩, .inr ?_, h3, h4⟩
  rw [cells_app, ← cells_str xs]
  exact h2
theorem bu_rune (h : Bu w B b rs) (r : Int) (h0 : -2147483648 ≤ r) (h1 : r ≤ 2147483647) (hl : rs.length ≤ 1000000) (hB : B ≤ w.heap.size) :
    Calls Try.prog 49 #[.pointer (some ⟨b, 0, none⟩), .int .i32 r] w fun e w' => (∃ v, e = .returned v) ∧ Bu w' B b (rs ++ [r]) ∧ Kp B b w w' := by
  have := enc_bytes rs
  refine (Any.Builder_WriteRune_k lays168 bx B b _ r h0 h1 w h (by omega) hB).mono ?_
  rintro e w' ⟨rfl, h2, h3, h4⟩
  refine ⟨⟨_, rfl⟩, .inr ?_, h3, h4⟩
  rw [cells_app, cells_one]
  exact h2
theorem bu_string (h : Bu w B b rs) (hB : B ≤ w.heap.size) :
    Calls Try.prog 33 #[.pointer (some ⟨b, 0, none⟩)] w fun e w' => e = .returned (.string (strOf rs)) ∧ Kp B b w w' := by
  refine (Any.Builder_String_any_k lays169 bx B b (rs.flatMap Lib.encodeRune) w h hB).mono ?_
  rintro e w' ⟨rfl, h2, h3, h4⟩
  exact ⟨rfl, h3, h4⟩
end
theorem bu_new (w : World) : Bu (w.alloc (.cells #[.pointer none, .slice none 0 0] 48)) w.heap.size w.heap.size [] := Lib.IsBuilderF.of (Lib.fresh_isBuilder 48 5 w)

theorem repeat_any (c : Int) (h0 : 0 ≤ c) (h1 : c < 128) (n : Nat) (hn : n ≤ 1000) (w : World) :
    Calls Try.prog 31 #[.string (strOf [c]), .int .i64 n] w fun e w' => e = .returned (.string (strOf (List.replicate n c))) ∧ w.grownBy w' none := by
  have he : (strOf [c]).data.toList = [c.toNat.toUInt8] := by
    rw [strOf_data]; simp [encL, Lib.encodeRuneZ_one h0 (show c ≤ 127 by omega)]
  have hs : (strOf [c]).size = 1 := by rw [strOf_size]; simp [encL, Lib.encodeRuneZ_one h0 (show c ≤ 127 by omega)]
  refine (Any.strings_Repeat lays105 bx (strOf [c]) n w (by omega) (by rw [hs]; omega)).mono ?_
  rintro e w' ⟨rfl, hb⟩
  refine ⟨?_, none_of_below hb⟩
  rw [he]
  have : ∀ n : Nat, Lib.repeatL [c.toNat.toUInt8] n = (List.replicate n c).flatMap Lib.encodeRune := by
    intro n
    induction n with
    | zero => rfl
    | succ n ih =>
      rw [List.replicate_succ, List.flatMap_cons, ← ih]
      simp [Lib.repeatL, Lib.encodeRune, Lib.encodeRuneZ_one h0 (show c ≤ 127 by omega), List.replicate_succ]
  rw [this]
  rfl
end Go.Proofs.Ytdbcdgojbegakaa

