/-
pat.Number: a number's text.
-/
import Derived.Test.YtdbcdgojbegakaaS3
import Derived.Deep.RegionHeld3
import Derived.Deep.DeepCutAuto
namespace Go.Proofs.Ytdbcdgojbegakaa
open Go.RowKit

theorem Bu.grown {w w' : World} {B b : Nat} {rs : List Int} (h : Bu w B b rs) (hg : w.grownBy w' none) : Bu w' B b rs := by
  have one : ∀ p, Lib.BuilderAtF 48 5 B b p (Lib.byteCells (rs.flatMap Lib.encodeRune)) w → Lib.BuilderAtF 48 5 B b p (Lib.byteCells (rs.flatMap Lib.encodeRune)) w' := by
    rintro p ⟨hB, v, hb, ho, hne⟩
    have hlt : b < w.heap.size := by
      rcases Nat.lt_or_ge b w.heap.size with h' | h'
      · exact h'
      · simp [Array.getElem?_eq_none h'] at hb
    refine ⟨hB, v, (hg.block b hlt (by simp)).trans hb, ho.kept hg ?_, hne⟩
    cases v.ownBlock with
    | none => exact .inl rfl
    | some k => exact .inr (by simp)
  exact h.elim (fun x => .inl (one _ x)) (fun x => .inr (one _ x))

/-- In the midst of a text's making: the struct's box, the builder behind it, and what it holds. -/
structure NI (w W : World) (cs : Array Value) (rs : List Int) : Prop where
  bu : Bu W (w.heap.size + 1) (w.heap.size + 1) rs
  blk : Blk W w.heap.size 24 cs
  gr : w.grownBy W none
  size : w.heap.size + 2 ≤ W.heap.size
theorem NI.new (w : World) (cs : Array Value) : NI w ((w.alloc (.cells cs 24)).alloc (.cells #[.pointer none, .slice none 0 0] 48)) cs [] :=
  ⟨by have := bu_new (w.alloc (.cells cs 24)); rw [show (w.alloc (.cells cs 24)).heap.size = w.heap.size + 1 by simp] at this; exact this, (Blk.new w 24 cs).alloc _, only_alloc (only_alloc (only_refl _ _) _) _, by simp⟩
theorem NI.grown {w W W' : World} {cs : Array Value} {rs : List Int} (h : NI w W cs rs) (hg : W.grownBy W' none) : NI w W' cs rs :=
  ⟨h.bu.grown hg, h.blk.grown hg (by simp), only_trans h.gr hg, Nat.le_trans h.size hg.size⟩
theorem NI.drewN {w W : World} {cs : Array Value} {rs : List Int} (h : NI w W cs rs) (n : Nat) : NI w (W.drewN n) cs rs := h.grown (only_drewN (only_refl _ _) n)
theorem NI.drew {w W : World} {cs : Array Value} {rs : List Int} (h : NI w W cs rs) : NI w W.drew cs rs := h.grown (only_drew (only_refl _ _))
theorem NI.step {w W W' : World} {cs : Array Value} {rs rs' : List Int} (h : NI w W cs rs) (k : Kp (w.heap.size + 1) (w.heap.size + 1) W W') (b : Bu W' (w.heap.size + 1) (w.heap.size + 1) rs') : NI w W' cs rs' := by
  refine ⟨b, k.blk h.blk (by omega) (by decide), ⟨k.below.os.trans h.gr.os, k.below.tape.trans h.gr.tape, k.below.output.trans h.gr.output, Nat.le_trans h.gr.size k.below.size, fun i hi hn => ?_⟩, Nat.le_trans h.size k.below.size⟩
  exact (k.below.block i (by omega)).trans (h.gr.block i hi hn)

theorem rep_int (c : Int) (s : ByteArray) (hs : strOf [c] = s) (h0 : 0 ≤ c) (h1 : c < 128) (n : Int) (hn0 : 0 ≤ n) (hn : n ≤ 1000) (w : World) :
    Calls Try.prog 31 #[.string s, .int .i64 n] w fun e w' => e = .returned (.string (strOf (List.replicate n.toNat c))) ∧ w.grownBy w' none := by
  have := repeat_any c h0 h1 n.toNat (by omega) w
  rw [hs, Int.toNat_of_nonneg hn0] at this
  exact this
theorem s64 : strOf [64] = ⟨#[64]⟩ := by decide +kernel
theorem s35 : strOf [35] = ⟨#[35]⟩ := by decide +kernel
theorem s48 : strOf [48] = ⟨#[48]⟩ := by decide +kernel
theorem s46 : strOf [46] = ⟨#[46]⟩ := by decide +kernel

theorem cat_any (xs ys : List Int) (h : xs.length + ys.length ≤ 1000000) (w : World) : (Op.stringOp .add (strOf xs) (strOf ys)).run Try.prog w = .ok (.string (strOf (xs ++ ys))) w := by
  have h1 : ∀ l : List Int, (strOf l).size ≤ 4 * l.length := fun l => by
    have := enc_bytes l
    rw [← cells_str, Lib.strCells_length] at this
    exact this
  have a := h1 xs
  have b := h1 ys
  rw [run_string_add_sum (P := Try.prog) w _ _ (by omega), strOf_append]

theorem NI.keeps {w W W' : World} {cs : Array Value} {rs : List Int} (h : NI w W cs rs) (k : Kp (w.heap.size + 1) (w.heap.size + 1) W W') : w.grownBy W' none :=
  ⟨k.below.os.trans h.gr.os, k.below.tape.trans h.gr.tape, k.below.output.trans h.gr.output, Nat.le_trans h.gr.size k.below.size, fun i hi hn => (k.below.block i (by omega)).trans (h.gr.block i hi hn)⟩

section
variable {w : World} {p : Pt} {v1 v2 v3 v4 : Value}
theorem NI.cells {w W : World} {rs : List Int} (h : NI w W (ptCells v1 v2 v3 v4 p) rs) :
    W.cell? ⟨w.heap.size, 5, none⟩ = some (.int .i64 p.nm.hash) ∧ W.cell? ⟨w.heap.size, 6, none⟩ = some (.int .i64 p.nm.minInt) ∧ W.cell? ⟨w.heap.size, 7, none⟩ = some (.int .i64 p.nm.minFrac) ∧ W.cell? ⟨w.heap.size, 8, none⟩ = some (.int .i64 p.nm.maxFrac) ∧
    W.cell? ⟨w.heap.size, 9, none⟩ = some (.int .i64 p.nm.g1) ∧ W.cell? ⟨w.heap.size, 10, none⟩ = some (.int .i64 p.nm.g2) ∧ W.cell? ⟨w.heap.size, 11, none⟩ = some (.int .i64 p.nm.minSig) ∧ W.cell? ⟨w.heap.size, 12, none⟩ = some (.int .i64 p.nm.maxSig) ∧
    W.cell? ⟨w.heap.size, 13, none⟩ = some (.int .i64 p.nm.exp) ∧ W.cell? ⟨w.heap.size, 14, none⟩ = some (.bool p.nm.expPlus) :=
  ⟨h.blk.cell 5, h.blk.cell 6, h.blk.cell 7, h.blk.cell 8, h.blk.cell 9, h.blk.cell 10, h.blk.cell 11, h.blk.cell 12, h.blk.cell 13, h.blk.cell 14⟩

set_option maxRecDepth 100000 in
set_option maxHeartbeats 40000000 in
theorem numT_any (hs : smallNm p.nm = true) (h1 : ∃ A n c, v1 = .slice A n c) (h2 : ∃ A n c, v2 = .slice A n c) (h3 : ∃ A n c, v3 = .slice A n c) (h4 : ∃ A n c, v4 = .slice A n c) :
    Calls Try.prog 15 #[.agg (ptCells v1 v2 v3 v4 p)] w fun e w' => e = .returned (.string (strOf (numT p.nm))) ∧ w.grownBy w' none := by
  obtain ⟨A1, n1, c1, rfl⟩ := h1
  obtain ⟨A2, n2, c2, rfl⟩ := h2
  obtain ⟨A3, n3, c3, rfl⟩ := h3
  obtain ⟨A4, n4, c4, rfl⟩ := h4
  simp only [smallNm, List.all_cons, List.all_nil, Bool.and_true, Bool.and_eq_true, decide_eq_true_eq] at hs
  obtain ⟨⟨a1, b1⟩, ⟨a2, b2⟩, ⟨a3, b3⟩, ⟨a4, b4⟩, ⟨a5, b5⟩, ⟨a6, b6⟩, ⟨a7, b7⟩, ⟨a8, b8⟩, ⟨a9, b9⟩⟩ := hs
  have HN0 := Lib.hid (NI.new w (ptCells (.slice A1 n1 c1) (.slice A2 n2 c2) (.slice A3 n3 c3) (.slice A4 n4 c4) p))
  obtain ⟨e5, e6, e7, e8, e9, e10, e11, e12, e13, e14⟩ := HN0.out.cells
  have R64 := Lib.hid (rep_int 64 _ s64 (by decide) (by decide))
  have R35 := Lib.hid (rep_int 35 _ s35 (by decide) (by decide))
  have R48 := Lib.hid (rep_int 48 _ s48 (by decide) (by decide))
  have hmx2 : ∀ (ts : Array TypeId) (t : TypeId) (x y : Int) (w : World), (Builtin.max_ ts t #[.int .i64 x, .int .i64 y]).run Try.prog w = .ok (.int .i64 (max x y)) w := fun ts t x y w => by
    rw [run_max_int2]; congr 2; split <;> omega
  have hwr : IntKind.i64.wrap (p.nm.maxSig - p.nm.minSig) = p.nm.maxSig - p.nm.minSig := by rw [IntKind.wrap_i64]; omega
  have cat1 := cat_any (List.replicate p.nm.minSig.toNat 64) (List.replicate (max (p.nm.maxSig - p.nm.minSig) 0).toNat 35) (by simp; omega)
  go_enter Try.func15, Try.ntmps15
  go_upto_region 2 with fail
  go_cut [] (fun wx => Hid (NI w wx (ptCells (.slice A1 n1 c1) (.slice A2 n2 c2) (.slice A3 n3 c3) (.slice A4 n4 c4) p) (List.replicate p.nm.minSig.toNat 64 ++ List.replicate (max (p.nm.maxSig - p.nm.minSig) 0).toNat 35)))
  case first =>
    clear e5 e6 e7 e8 e9 e10 e13 e14
    go_region_held3 (fun w' => w'.cell? ⟨w.heap.size, 11, none⟩ = some (.int .i64 p.nm.minSig) ∧ w'.cell? ⟨w.heap.size, 12, none⟩ = some (.int .i64 p.nm.maxSig)) (go_keep)
    (first
      | (go_at_call_of 31 (Value.string ⟨#[64]⟩); refine (R64.out p.nm.minSig (by omega) (by omega) _).mono ?_; rintro e w1 ⟨rfl, hg⟩; have HN1 := Lib.hid (HN0.out.grown (only_from hg rfl rfl rfl rfl)); have q1 := HN1.out.cells.2.2.2.2.2.2.1; have q2 := HN1.out.cells.2.2.2.2.2.2.2.1; clear hg)
      | (go_at_call_of 31 (Value.string ⟨#[35]⟩); refine (R35.out _ (by omega) (by omega) _).mono ?_; rintro e w2 ⟨rfl, hg⟩; have HN2 := Lib.hid (HN1.out.grown (only_from hg rfl rfl rfl rfl)); have q3 := HN2.out.cells.2.2.2.2.2.2.1; have q4 := HN2.out.cells.2.2.2.2.2.2.2.1; clear hg)
      | (go_at_call 30; refine (bu_str (by exact HN2.out.bu) _ (by simp) (by simp; omega) (by have := HN2.out.size; omega)).mono ?_; rintro e w3 ⟨⟨v, rfl⟩, hb, hk⟩; have HN3 := Lib.hid (HN2.out.step hk hb); have q5 := HN3.out.cells.2.2.2.2.2.2.1; have q6 := HN3.out.cells.2.2.2.2.2.2.2.1; clear hb hk))
    all_goals (go_wp2_with fail; go_meet; exact HN3)
  case rest =>
    have HT0 : Hid ((List.replicate p.nm.minSig.toNat (64 : Int) ++ List.replicate (max (p.nm.maxSig - p.nm.minSig) 0).toNat (35 : Int)).length ≤ 80) := by simp [Hid]; omega
    have HT : Hid (numT p.nm = (List.replicate p.nm.minSig.toNat 64 ++ List.replicate (max (p.nm.maxSig - p.nm.minSig) 0).toNat 35) ++ placesT p.nm (p.nm.hash + p.nm.minInt).toNat ++
      (if 0 < p.nm.maxFrac then 46 :: (List.replicate p.nm.minFrac.toNat 48 ++ List.replicate (p.nm.maxFrac - p.nm.minFrac).toNat 35) else []) ++
      (if 0 < p.nm.exp then 69 :: ((if p.nm.expPlus then [43] else []) ++ List.replicate p.nm.exp.toNat 48) else [])) := by
      have : (max (p.nm.maxSig - p.nm.minSig) 0).toNat = (p.nm.maxSig - p.nm.minSig).toNat := by omega
      rw [this]; rfl
    have HC := hcut
    clear hcut HN0 e5 e6 e7 e8 e9 e10 e11 e12 e13 e14 cat1 hwr R64
    generalize List.replicate p.nm.minSig.toNat (64 : Int) ++ List.replicate (max (p.nm.maxSig - p.nm.minSig) 0).toNat (35 : Int) = T0 at *
    generalize hcs : ptCells (.slice A1 n1 c1) (.slice A2 n2 c2) (.slice A3 n3 c3) (.slice A4 n4 c4) p = cs at *
    have HCS := Lib.hid hcs
    have HCE : Hid (∀ W rs, NI w W cs rs → W.cell? ⟨w.heap.size, 5, none⟩ = some (.int .i64 p.nm.hash) ∧ W.cell? ⟨w.heap.size, 6, none⟩ = some (.int .i64 p.nm.minInt) ∧ W.cell? ⟨w.heap.size, 7, none⟩ = some (.int .i64 p.nm.minFrac) ∧ W.cell? ⟨w.heap.size, 8, none⟩ = some (.int .i64 p.nm.maxFrac) ∧
      W.cell? ⟨w.heap.size, 9, none⟩ = some (.int .i64 p.nm.g1) ∧ W.cell? ⟨w.heap.size, 10, none⟩ = some (.int .i64 p.nm.g2) ∧ W.cell? ⟨w.heap.size, 11, none⟩ = some (.int .i64 p.nm.minSig) ∧ W.cell? ⟨w.heap.size, 12, none⟩ = some (.int .i64 p.nm.maxSig) ∧
      W.cell? ⟨w.heap.size, 13, none⟩ = some (.int .i64 p.nm.exp) ∧ W.cell? ⟨w.heap.size, 14, none⟩ = some (.bool p.nm.expPlus)) := by
      intro W rs h; rw [← hcs] at h; exact h.cells
    clear hcs
    obtain ⟨e5, e6, e7, e8, e9, e10, -, -, e13, e14⟩ := HCE.out _ _ HC.out
    have HNN : Hid (((p.nm.hash + p.nm.minInt).toNat : Int) = p.nm.hash + p.nm.minInt) := by show _ = _; omega
    go_wp2_with fail
    go_loopg [4] (p.nm.hash + p.nm.minInt).toNat (fun kq v4 wr => ∃ (rs : List Int), v4 = .int .i64 kq ∧ Hid (rs ++ placesT p.nm kq = T0 ++ placesT p.nm (p.nm.hash + p.nm.minInt).toNat) ∧ Hid (NI w wr cs rs) ∧ Hid (rs.length + 2 * kq ≤ 240))
    case atStart => exact ⟨T0, by rw [HNN.out], rfl, HC, by have := HT0.out; show T0.length + 2 * (p.nm.hash + p.nm.minInt).toNat ≤ 240; omega⟩
    case round =>
      obtain ⟨rs, rfl, HP, HN, HL⟩ := hrel
      clear e5 e6 e7 e8 e9 e10 e13 e14 HC
      obtain ⟨e5, e6, e7, e8, e9, e10, -, -, e13, e14⟩ := HCE.out _ _ HN.out
      cases gk with
      | zero =>
        have HP2 : Hid (rs = T0 ++ placesT p.nm (p.nm.hash + p.nm.minInt).toNat) := by have := HP.out; simpa [Hid, placesT] using this
        rw [← HP2.out] at HT
        clear HP HP2 HT0 HNN
        by_cases hf : 0 < p.nm.maxFrac
        · have HT2 : Hid (numT p.nm = (rs ++ (46 :: List.replicate p.nm.minFrac.toNat 48 ++ List.replicate (max (p.nm.maxFrac - p.nm.minFrac) 0).toNat 35)) ++ (if 0 < p.nm.exp then 69 :: ((if p.nm.expPlus then [43] else []) ++ List.replicate p.nm.exp.toNat 48) else [])) := by
            have e : (max (p.nm.maxFrac - p.nm.minFrac) 0).toNat = (p.nm.maxFrac - p.nm.minFrac).toNat := by omega
            rw [e, Hid, HT.out, if_pos hf]; simp
          have hwr : IntKind.i64.wrap (p.nm.maxFrac - p.nm.minFrac) = p.nm.maxFrac - p.nm.minFrac := by rw [IntKind.wrap_i64]; omega
          have cat1 := cat_any [46] (List.replicate p.nm.minFrac.toNat 48) (by simp; omega)
          rw [s46] at cat1
          have cat2 := cat_any (46 :: List.replicate p.nm.minFrac.toNat 48) (List.replicate (max (p.nm.maxFrac - p.nm.minFrac) 0).toNat 35) (by simp; omega)
          go_upto_region 12 with fail
          go_cut [] (fun wx => Hid (NI w wx cs (rs ++ (46 :: List.replicate p.nm.minFrac.toNat 48 ++ List.replicate (max (p.nm.maxFrac - p.nm.minFrac) 0).toNat 35))))
          case first =>
            clear e5 e6 e9 e10 e13 e14
            go_region_held3 (fun w' => w'.cell? ⟨w.heap.size, 7, none⟩ = some (.int .i64 p.nm.minFrac) ∧ w'.cell? ⟨w.heap.size, 8, none⟩ = some (.int .i64 p.nm.maxFrac)) (go_keep)
              (first
                | (go_at_call_of 31 (Value.string ⟨#[48]⟩); with_reducible refine (R48.out p.nm.minFrac (by omega) (by omega) _).mono ?_; rintro e w1 ⟨rfl, hg⟩; have HN1 := Lib.hid (HN.out.grown (only_from hg rfl rfl rfl rfl)); obtain ⟨-, -, q1, q2, -⟩ := HCE.out _ _ HN1.out; clear hg)
                | (go_at_call_of 31 (Value.string ⟨#[35]⟩); refine (R35.out _ (by omega) (by omega) _).mono ?_; rintro e w2 ⟨rfl, hg⟩; have HN2 := Lib.hid (HN1.out.grown (only_from hg rfl rfl rfl rfl)); obtain ⟨-, -, q3, q4, -⟩ := HCE.out _ _ HN2.out; clear hg)
                | (go_at_call 30; with_reducible refine (bu_str (by exact HN2.out.bu) _ (by have := HL.out; omega) (by simp; omega) (by have := HN2.out.size; omega)).mono ?_; rintro e w3 ⟨⟨v, rfl⟩, hb, hk⟩; have HN3 := Lib.hid (HN2.out.step hk hb); obtain ⟨-, -, q5, q6, -⟩ := HCE.out _ _ HN3.out; clear hb hk))
            all_goals (go_wp2_with fail; go_meet; exact HN3)
          case rest =>
            clear e5 e6 e7 e8 e9 e10 e13 e14 cat1 cat2 hwr
            have HL2 : Hid ((rs ++ (46 :: List.replicate p.nm.minFrac.toNat 48 ++ List.replicate (max (p.nm.maxFrac - p.nm.minFrac) 0).toNat 35)).length ≤ 400) := by have := HL.out; simp only [Hid, List.length_append, List.length_cons, List.length_replicate]; omega
            have HN9 := hcut
            clear hcut HL HT HN
            generalize rs ++ (46 :: List.replicate p.nm.minFrac.toNat (48 : Int) ++ List.replicate (max (p.nm.maxFrac - p.nm.minFrac) 0).toNat (35 : Int)) = rs2 at *
            by_cases he : 0 < p.nm.exp
            · cases hp : p.nm.expPlus with
              | true =>
                have HF : Hid (numT p.nm = rs2 ++ [69] ++ [43] ++ List.replicate p.nm.exp.toNat 48) := by rw [Hid, HT2.out, if_pos he, hp]; simp
                rw [hp] at HCE
                obtain ⟨e5, e6, e7, e8, e9, e10, -, -, e13, e14⟩ := HCE.out _ _ HN9.out
                go_wp2_with (go_at_call 32; with_reducible refine (bu_byte (by exact HN9.out.bu) 69 (by omega) (by omega) (by have := HL2.out; omega) (by have := HN9.out.size; omega)).mono ?_; rintro e wA ⟨rfl, hb, hk⟩; have HA := Lib.hid (HN9.out.step hk hb); obtain ⟨e5, e6, e7, e8, e9, e10, -, -, e13, e14⟩ := HCE.out _ _ HA.out; clear hk hb)
                go_wp2_with (go_at_call 32; with_reducible refine (bu_byte (by exact HA.out.bu) 43 (by omega) (by omega) (by have := HL2.out; simp; omega) (by have := HA.out.size; omega)).mono ?_; rintro e wB ⟨rfl, hb, hk⟩; have HB := Lib.hid (HA.out.step hk hb); obtain ⟨e5, e6, e7, e8, e9, e10, -, -, e13, e14⟩ := HCE.out _ _ HB.out; clear hk hb)
                go_wp2_with (first
                  | (go_at_call 31; with_reducible refine (R48.out p.nm.exp (by omega) (by omega) _).mono ?_; rintro e wC ⟨rfl, hg⟩; have HC3 := Lib.hid (HB.out.grown hg); clear hg)
                  | (go_at_call 30; with_reducible refine (bu_str (by exact HC3.out.bu) _ (by have := HL2.out; simp; omega) (by simp; omega) (by have := HC3.out.size; omega)).mono ?_; rintro e wD ⟨⟨v, rfl⟩, hb, hk⟩; have HD := Lib.hid (HC3.out.step hk hb); clear hb hk)
                  | (go_at_call 33; refine (bu_string (by exact HD.out.bu) (by have := HD.out.size; omega)).mono ?_; rintro e wE ⟨rfl, hk⟩; have HE := Lib.hid hk; clear hk))
                go_ret
                exact ⟨by rw [HF.out]; first | rfl | simp, HD.out.keeps HE.out⟩
              | false =>
                have HF : Hid (numT p.nm = rs2 ++ [69] ++ [] ++ List.replicate p.nm.exp.toNat 48) := by rw [Hid, HT2.out, if_pos he, hp]; simp
                rw [hp] at HCE
                obtain ⟨e5, e6, e7, e8, e9, e10, -, -, e13, e14⟩ := HCE.out _ _ HN9.out
                go_wp2_with (go_at_call 32; with_reducible refine (bu_byte (by exact HN9.out.bu) 69 (by omega) (by omega) (by have := HL2.out; omega) (by have := HN9.out.size; omega)).mono ?_; rintro e wA ⟨rfl, hb, hk⟩; have HA := Lib.hid (HN9.out.step hk hb); obtain ⟨e5, e6, e7, e8, e9, e10, -, -, e13, e14⟩ := HCE.out _ _ HA.out; clear hk hb)
                go_wp2_with (first
                  | (go_at_call 31; with_reducible refine (R48.out p.nm.exp (by omega) (by omega) _).mono ?_; rintro e wC ⟨rfl, hg⟩; have HC3 := Lib.hid (HA.out.grown hg); clear hg)
                  | (go_at_call 30; with_reducible refine (bu_str (by exact HC3.out.bu) _ (by have := HL2.out; simp; omega) (by simp; omega) (by have := HC3.out.size; omega)).mono ?_; rintro e wD ⟨⟨v, rfl⟩, hb, hk⟩; have HD := Lib.hid (HC3.out.step hk hb); clear hb hk)
                  | (go_at_call 33; refine (bu_string (by exact HD.out.bu) (by have := HD.out.size; omega)).mono ?_; rintro e wE ⟨rfl, hk⟩; have HE := Lib.hid hk; clear hk))
                go_ret
                exact ⟨by rw [HF.out]; first | rfl | simp, HD.out.keeps HE.out⟩
            · have HF : Hid (numT p.nm = rs2) := by rw [Hid, HT2.out, if_neg he]; simp
              obtain ⟨e5, e6, e7, e8, e9, e10, -, -, e13, e14⟩ := HCE.out _ _ HN9.out
              go_wp2_with (go_at_call 33; refine (bu_string (by exact HN9.out.bu) (by have := HN9.out.size; omega)).mono ?_; rintro e wE ⟨rfl, hk⟩; have HE := Lib.hid hk; clear hk)
              go_ret
              exact ⟨by rw [HF.out]; rfl, HN9.out.keeps HE.out⟩
        · have HT2 : Hid (numT p.nm = rs ++ (if 0 < p.nm.exp then 69 :: ((if p.nm.expPlus then [43] else []) ++ List.replicate p.nm.exp.toNat 48) else [])) := by
            rw [Hid, HT.out, if_neg hf]; simp
          by_cases he : 0 < p.nm.exp
          · cases hp : p.nm.expPlus with
            | true =>
              have HF : Hid (numT p.nm = rs ++ [69] ++ [43] ++ List.replicate p.nm.exp.toNat 48) := by rw [Hid, HT2.out, if_pos he, hp]; simp
              rw [hp] at HCE
              obtain ⟨e5, e6, e7, e8, e9, e10, -, -, e13, e14⟩ := HCE.out _ _ HN.out
              go_wp2_with (go_at_call 32; with_reducible refine (bu_byte (by exact HN.out.bu) 69 (by omega) (by omega) (by have := HL.out; omega) (by have := HN.out.size; omega)).mono ?_; rintro e wA ⟨rfl, hb, hk⟩; have HA := Lib.hid (HN.out.step hk hb); obtain ⟨e5, e6, e7, e8, e9, e10, -, -, e13, e14⟩ := HCE.out _ _ HA.out; clear hk hb)
              go_wp2_with (go_at_call 32; with_reducible refine (bu_byte (by exact HA.out.bu) 43 (by omega) (by omega) (by have := HL.out; simp; omega) (by have := HA.out.size; omega)).mono ?_; rintro e wB ⟨rfl, hb, hk⟩; have HB := Lib.hid (HA.out.step hk hb); obtain ⟨e5, e6, e7, e8, e9, e10, -, -, e13, e14⟩ := HCE.out _ _ HB.out; clear hk hb)
              go_wp2_with (first
                | (go_at_call 31; with_reducible refine (R48.out p.nm.exp (by omega) (by omega) _).mono ?_; rintro e wC ⟨rfl, hg⟩; have HC3 := Lib.hid (HB.out.grown hg); clear hg)
                | (go_at_call 30; with_reducible refine (bu_str (by exact HC3.out.bu) _ (by have := HL.out; simp; omega) (by simp; omega) (by have := HC3.out.size; omega)).mono ?_; rintro e wD ⟨⟨v, rfl⟩, hb, hk⟩; have HD := Lib.hid (HC3.out.step hk hb); clear hb hk)
                | (go_at_call 33; refine (bu_string (by exact HD.out.bu) (by have := HD.out.size; omega)).mono ?_; rintro e wE ⟨rfl, hk⟩; have HE := Lib.hid hk; clear hk))
              go_ret
              exact ⟨by rw [HF.out]; first | rfl | simp, HD.out.keeps HE.out⟩
            | false =>
              have HF : Hid (numT p.nm = rs ++ [69] ++ [] ++ List.replicate p.nm.exp.toNat 48) := by rw [Hid, HT2.out, if_pos he, hp]; simp
              rw [hp] at HCE
              obtain ⟨e5, e6, e7, e8, e9, e10, -, -, e13, e14⟩ := HCE.out _ _ HN.out
              go_wp2_with (go_at_call 32; with_reducible refine (bu_byte (by exact HN.out.bu) 69 (by omega) (by omega) (by have := HL.out; omega) (by have := HN.out.size; omega)).mono ?_; rintro e wA ⟨rfl, hb, hk⟩; have HA := Lib.hid (HN.out.step hk hb); obtain ⟨e5, e6, e7, e8, e9, e10, -, -, e13, e14⟩ := HCE.out _ _ HA.out; clear hk hb)
              go_wp2_with (first
                | (go_at_call 31; with_reducible refine (R48.out p.nm.exp (by omega) (by omega) _).mono ?_; rintro e wC ⟨rfl, hg⟩; have HC3 := Lib.hid (HA.out.grown hg); clear hg)
                | (go_at_call 30; with_reducible refine (bu_str (by exact HC3.out.bu) _ (by have := HL.out; simp; omega) (by simp; omega) (by have := HC3.out.size; omega)).mono ?_; rintro e wD ⟨⟨v, rfl⟩, hb, hk⟩; have HD := Lib.hid (HC3.out.step hk hb); clear hb hk)
                | (go_at_call 33; refine (bu_string (by exact HD.out.bu) (by have := HD.out.size; omega)).mono ?_; rintro e wE ⟨rfl, hk⟩; have HE := Lib.hid hk; clear hk))
              go_ret
              exact ⟨by rw [HF.out]; first | rfl | simp, HD.out.keeps HE.out⟩
          · have HF : Hid (numT p.nm = rs) := by rw [Hid, HT2.out, if_neg he]; simp
            obtain ⟨e5, e6, e7, e8, e9, e10, -, -, e13, e14⟩ := HCE.out _ _ HN.out
            go_wp2_with (go_at_call 33; refine (bu_string (by exact HN.out.bu) (by have := HN.out.size; omega)).mono ?_; rintro e wE ⟨rfl, hk⟩; have HE := Lib.hid hk; clear hk)
            go_ret
            exact ⟨by rw [HF.out]; rfl, HN.out.keeps HE.out⟩
      | succ k =>
        have HK : Hid (k ≤ 120) := by have := HL.out; show _ ≤ _; omega
        have hk := HK.out
        by_cases hm : p.nm.minInt < (k : Int) + 1
        · have hm1 : decide (p.nm.minInt < (k : Int) + 1) = true := by simpa using hm
          by_cases hg : 0 < p.nm.g1
          · by_cases hg2 : p.nm.g1 < (k : Int) + 1
            · have hw1 : IntKind.i64.wrap ((k : Int) - p.nm.g1) = (k : Int) - p.nm.g1 := by rw [IntKind.wrap_i64]; omega
              by_cases hr : ((k : Int) - p.nm.g1) % max p.nm.g2 1 = 0
              · have hr2 : ((k : Int) - p.nm.g1).tmod (max p.nm.g2 1) = 0 := by rw [Int.tmod_eq_emod_of_nonneg (by omega)]; exact hr
                have HP2 : Hid (placesT p.nm (k + 1) = 35 :: 44 :: placesT p.nm k) := by simp only [Hid, placesT]; rw [if_pos (show p.nm.minInt < ((k + 1 : Nat) : Int) by omega), if_pos ⟨hg, by omega, hr⟩]
                go_wp2_with (go_at_call 32; with_reducible refine (bu_byte (by exact HN.out.bu) 35 (by omega) (by omega) (by have := HL.out; omega) (by have := HN.out.size; omega)).mono ?_; rintro e wHN1 ⟨rfl, hb, hk⟩; have HN1 := Lib.hid (HN.out.step hk hb); obtain ⟨e5, e6, e7, e8, e9, e10, -, -, e13, e14⟩ := HCE.out _ _ HN1.out; clear hk hb)
                go_wp2_with (go_at_call 32; with_reducible refine (bu_byte (by exact HN1.out.bu) 44 (by omega) (by omega) (by have := HL.out; simp; omega) (by have := HN1.out.size; omega)).mono ?_; rintro e wHN2 ⟨rfl, hb, hk⟩; have HN2 := Lib.hid (HN1.out.step hk hb); obtain ⟨e5, e6, e7, e8, e9, e10, -, -, e13, e14⟩ := HCE.out _ _ HN2.out; clear hk hb)
                go_roundg k
                case measure => exact Nat.lt_succ_self _
                case rel => exact ⟨_, rfl, by have := HP.out; rw [HP2.out] at this; rw [← this]; simp [Hid], HN2, by have := HL.out; show _ ≤ _; simp; omega⟩
              · have hr2 : (((k : Int) - p.nm.g1).tmod (max p.nm.g2 1) == 0) = false := by rw [Int.tmod_eq_emod_of_nonneg (by omega)]; simpa using hr
                have HP2 : Hid (placesT p.nm (k + 1) = 35 :: placesT p.nm k) := by simp only [Hid, placesT]; rw [if_pos (show p.nm.minInt < ((k + 1 : Nat) : Int) by omega), if_neg (fun h => hr h.2.2)]
                go_wp2_with (go_at_call 32; with_reducible refine (bu_byte (by exact HN.out.bu) 35 (by omega) (by omega) (by have := HL.out; omega) (by have := HN.out.size; omega)).mono ?_; rintro e wHN1 ⟨rfl, hb, hk⟩; have HN1 := Lib.hid (HN.out.step hk hb); obtain ⟨e5, e6, e7, e8, e9, e10, -, -, e13, e14⟩ := HCE.out _ _ HN1.out; clear hk hb)
                go_roundg k
                case measure => exact Nat.lt_succ_self _
                case rel => exact ⟨_, rfl, by have := HP.out; rw [HP2.out] at this; rw [← this]; simp [Hid], HN1, by have := HL.out; show _ ≤ _; simp; omega⟩
            · have hg3 : decide (p.nm.g1 < (k : Int) + 1) = false := by simpa using hg2
              have HP2 : Hid (placesT p.nm (k + 1) = 35 :: placesT p.nm k) := by simp only [Hid, placesT]; rw [if_pos (show p.nm.minInt < ((k + 1 : Nat) : Int) by omega), if_neg (fun h => hg2 (by have := h.2.1; omega))]
              go_wp2_with (go_at_call 32; with_reducible refine (bu_byte (by exact HN.out.bu) 35 (by omega) (by omega) (by have := HL.out; omega) (by have := HN.out.size; omega)).mono ?_; rintro e wHN1 ⟨rfl, hb, hk⟩; have HN1 := Lib.hid (HN.out.step hk hb); obtain ⟨e5, e6, e7, e8, e9, e10, -, -, e13, e14⟩ := HCE.out _ _ HN1.out; clear hk hb)
              go_roundg k
              case measure => exact Nat.lt_succ_self _
              case rel => exact ⟨_, rfl, by have := HP.out; rw [HP2.out] at this; rw [← this]; simp [Hid], HN1, by have := HL.out; show _ ≤ _; simp; omega⟩
          · have hg3 : decide (0 < p.nm.g1) = false := by simpa using hg
            have HP2 : Hid (placesT p.nm (k + 1) = 35 :: placesT p.nm k) := by simp only [Hid, placesT]; rw [if_pos (show p.nm.minInt < ((k + 1 : Nat) : Int) by omega), if_neg (fun h => hg h.1)]
            go_wp2_with (go_at_call 32; with_reducible refine (bu_byte (by exact HN.out.bu) 35 (by omega) (by omega) (by have := HL.out; omega) (by have := HN.out.size; omega)).mono ?_; rintro e wHN1 ⟨rfl, hb, hk⟩; have HN1 := Lib.hid (HN.out.step hk hb); obtain ⟨e5, e6, e7, e8, e9, e10, -, -, e13, e14⟩ := HCE.out _ _ HN1.out; clear hk hb)
            go_roundg k
            case measure => exact Nat.lt_succ_self _
            case rel => exact ⟨_, rfl, by have := HP.out; rw [HP2.out] at this; rw [← this]; simp [Hid], HN1, by have := HL.out; show _ ≤ _; simp; omega⟩
        · have hm1 : decide (p.nm.minInt < (k : Int) + 1) = false := by simpa using hm
          by_cases hg : 0 < p.nm.g1
          · by_cases hg2 : p.nm.g1 < (k : Int) + 1
            · have hw1 : IntKind.i64.wrap ((k : Int) - p.nm.g1) = (k : Int) - p.nm.g1 := by rw [IntKind.wrap_i64]; omega
              by_cases hr : ((k : Int) - p.nm.g1) % max p.nm.g2 1 = 0
              · have hr2 : ((k : Int) - p.nm.g1).tmod (max p.nm.g2 1) = 0 := by rw [Int.tmod_eq_emod_of_nonneg (by omega)]; exact hr
                have HP2 : Hid (placesT p.nm (k + 1) = 48 :: 44 :: placesT p.nm k) := by simp only [Hid, placesT]; rw [if_neg (show ¬ p.nm.minInt < ((k + 1 : Nat) : Int) by omega), if_pos ⟨hg, by omega, hr⟩]
                go_wp2_with (go_at_call 32; with_reducible refine (bu_byte (by exact HN.out.bu) 48 (by omega) (by omega) (by have := HL.out; omega) (by have := HN.out.size; omega)).mono ?_; rintro e wHN1 ⟨rfl, hb, hk⟩; have HN1 := Lib.hid (HN.out.step hk hb); obtain ⟨e5, e6, e7, e8, e9, e10, -, -, e13, e14⟩ := HCE.out _ _ HN1.out; clear hk hb)
                go_wp2_with (go_at_call 32; with_reducible refine (bu_byte (by exact HN1.out.bu) 44 (by omega) (by omega) (by have := HL.out; simp; omega) (by have := HN1.out.size; omega)).mono ?_; rintro e wHN2 ⟨rfl, hb, hk⟩; have HN2 := Lib.hid (HN1.out.step hk hb); obtain ⟨e5, e6, e7, e8, e9, e10, -, -, e13, e14⟩ := HCE.out _ _ HN2.out; clear hk hb)
                go_roundg k
                case measure => exact Nat.lt_succ_self _
                case rel => exact ⟨_, rfl, by have := HP.out; rw [HP2.out] at this; rw [← this]; simp [Hid], HN2, by have := HL.out; show _ ≤ _; simp; omega⟩
              · have hr2 : (((k : Int) - p.nm.g1).tmod (max p.nm.g2 1) == 0) = false := by rw [Int.tmod_eq_emod_of_nonneg (by omega)]; simpa using hr
                have HP2 : Hid (placesT p.nm (k + 1) = 48 :: placesT p.nm k) := by simp only [Hid, placesT]; rw [if_neg (show ¬ p.nm.minInt < ((k + 1 : Nat) : Int) by omega), if_neg (fun h => hr h.2.2)]
                go_wp2_with (go_at_call 32; with_reducible refine (bu_byte (by exact HN.out.bu) 48 (by omega) (by omega) (by have := HL.out; omega) (by have := HN.out.size; omega)).mono ?_; rintro e wHN1 ⟨rfl, hb, hk⟩; have HN1 := Lib.hid (HN.out.step hk hb); obtain ⟨e5, e6, e7, e8, e9, e10, -, -, e13, e14⟩ := HCE.out _ _ HN1.out; clear hk hb)
                go_roundg k
                case measure => exact Nat.lt_succ_self _
                case rel => exact ⟨_, rfl, by have := HP.out; rw [HP2.out] at this; rw [← this]; simp [Hid], HN1, by have := HL.out; show _ ≤ _; simp; omega⟩
            · have hg3 : decide (p.nm.g1 < (k : Int) + 1) = false := by simpa using hg2
              have HP2 : Hid (placesT p.nm (k + 1) = 48 :: placesT p.nm k) := by simp only [Hid, placesT]; rw [if_neg (show ¬ p.nm.minInt < ((k + 1 : Nat) : Int) by omega), if_neg (fun h => hg2 (by have := h.2.1; omega))]
              go_wp2_with (go_at_call 32; with_reducible refine (bu_byte (by exact HN.out.bu) 48 (by omega) (by omega) (by have := HL.out; omega) (by have := HN.out.size; omega)).mono ?_; rintro e wHN1 ⟨rfl, hb, hk⟩; have HN1 := Lib.hid (HN.out.step hk hb); obtain ⟨e5, e6, e7, e8, e9, e10, -, -, e13, e14⟩ := HCE.out _ _ HN1.out; clear hk hb)
              go_roundg k
              case measure => exact Nat.lt_succ_self _
              case rel => exact ⟨_, rfl, by have := HP.out; rw [HP2.out] at this; rw [← this]; simp [Hid], HN1, by have := HL.out; show _ ≤ _; simp; omega⟩
          · have hg3 : decide (0 < p.nm.g1) = false := by simpa using hg
            have HP2 : Hid (placesT p.nm (k + 1) = 48 :: placesT p.nm k) := by simp only [Hid, placesT]; rw [if_neg (show ¬ p.nm.minInt < ((k + 1 : Nat) : Int) by omega), if_neg (fun h => hg h.1)]
            go_wp2_with (go_at_call 32; with_reducible refine (bu_byte (by exact HN.out.bu) 48 (by omega) (by omega) (by have := HL.out; omega) (by have := HN.out.size; omega)).mono ?_; rintro e wHN1 ⟨rfl, hb, hk⟩; have HN1 := Lib.hid (HN.out.step hk hb); obtain ⟨e5, e6, e7, e8, e9, e10, -, -, e13, e14⟩ := HCE.out _ _ HN1.out; clear hk hb)
            go_roundg k
            case measure => exact Nat.lt_succ_self _
            case rel => exact ⟨_, rfl, by have := HP.out; rw [HP2.out] at this; rw [← this]; simp [Hid], HN1, by have := HL.out; show _ ≤ _; simp; omega⟩
end
end Go.Proofs.Ytdbcdgojbegakaa

