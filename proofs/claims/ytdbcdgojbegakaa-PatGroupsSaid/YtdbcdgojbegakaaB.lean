/-
Words for memory: a block known whole, a row of runes, the pattern reader's own block; how each is kept while the world grows.
-/
import Derived.Test.YtdbcdgojbegakaaProg
import Derived.Test.YtdbcdgojbegakaaM
import Derived.WalkKit
import Derived.WalkSpells
import Derived.WalkLawsBesides
import Derived.Deep.QuietTactic
import Derived.Deep.Draws
import Derived.BigQuiet
import Derived.Lib.Hide
import Derived.Deep.DeepFit
import Derived.Deep.DeepMust
import Derived.Deep.LoopGhost
import Derived.Deep.AppendLies
import Derived.Maps.AppendAt
import Derived.Laws.AppendOwnNone
namespace Go.Proofs.Ytdbcdgojbegakaa
open Go.RowKit

theorem block_of_add (a : Addr) (n : Nat) : (a.add n).block = a.block := by unfold Addr.add; split <;> rfl
theorem add_of_add (a : Addr) (i j : Nat) : (a.add i).add j = a.add (i + j) := by
  unfold Addr.add
  by_cases hi : i = 0 <;> by_cases hj : j = 0 <;> simp [hi, hj, Nat.add_assoc]

/-! A block known whole. -/
def Blk (w : World) (g : Nat) (t : TypeId) (cs : Array Value) : Prop := w.heap[g]? = some (.cells cs t (0, 0))

section
variable {w w' : World} {g : Nat} {t : TypeId} {cs : Array Value}
theorem Blk.lt (h : Blk w g t cs) : g < w.heap.size := by
  rcases Nat.lt_or_ge g w.heap.size with hlt | hge
  · exact hlt
  · unfold Blk at h; rw [Array.getElem?_eq_none hge] at h; cases h
theorem Blk.cell (h : Blk w g t cs) (i : Nat) : w.cell? ⟨g, i, none⟩ = cs[i]? := cell_of_row w g i cs t (0, 0) h
theorem Blk.frozen (h : Blk w g t cs) (i : Nat) : w.frozen? ⟨g, i, none⟩ = false := by
  unfold Blk at h
  simp [World.frozen?, h]
theorem Blk.new (w : World) (t : TypeId) (cs : Array Value) : Blk (w.alloc (.cells cs t)) w.heap.size t cs := heap_alloc_new w _
theorem Blk.drewN (h : Blk w g t cs) (n : Nat) : Blk (w.drewN n) g t cs := h
theorem Blk.alloc (h : Blk w g t cs) (o : Obj) : Blk (w.alloc o) g t cs := (Below.heap_alloc w o g h.lt).trans h
theorem Blk.set_ (h : Blk w g t cs) (i : Nat) (u : Value) : Blk (w.setCell ⟨g, i, none⟩ u) g t (cs.setIfInBounds i u) := by
  unfold Blk at h ⊢
  simp [World.setCell, Array.getElem?_modify, h]
theorem Blk.far (h : Blk w g t cs) {p : Addr} (hp : g ≠ p.block) (u : Value) : Blk (w.setCell p u) g t cs := (Below.heap_setCell w p u g hp).trans h
theorem Blk.grown {row : Option Nat} (h : Blk w g t cs) (hb : w.grownBy w' row) (hg : some g ≠ row) : Blk w' g t cs := (hb.block g h.lt hg).trans h
end

/-! Only one block has turned. -/
theorem only_same {a w w' : World} {row : Option Nat} (h : a.grownBy w row) (e : w'.heap = w.heap) (e1 : w'.os = w.os) (e2 : w'.tape = w.tape) (e3 : w'.output = w.output) : a.grownBy w' row :=
  ⟨e1.trans h.os, e2.trans h.tape, e3.trans h.output, by rw [e]; exact h.size, fun i hi hne => by rw [e]; exact h.block i hi hne⟩
theorem only_from {a a' w : World} {row : Option Nat} (h : a.grownBy w row) (e : a.heap = a'.heap) (e1 : a.os = a'.os) (e2 : a.tape = a'.tape) (e3 : a.output = a'.output) : a'.grownBy w row :=
  ⟨h.os.trans e1, h.tape.trans e2, h.output.trans e3, by rw [← e]; exact h.size, fun i hi hne => by rw [← e]; exact h.block i (by rw [e]; exact hi) hne⟩
theorem only_refl (w : World) (row : Option Nat) : w.grownBy w row := ⟨rfl, rfl, rfl, Nat.le_refl _, fun _ _ _ => rfl⟩
theorem only_drewN {a w : World} {row : Option Nat} (h : a.grownBy w row) (n : Nat) : a.grownBy (w.drewN n) row := ⟨h.os, h.tape, h.output, h.size, h.block⟩
theorem only_drew {a w : World} {row : Option Nat} (h : a.grownBy w row) : a.grownBy w.drew row := ⟨h.os, h.tape, h.output, h.size, h.block⟩
theorem only_alloc {a w : World} {row : Option Nat} (h : a.grownBy w row) (o : Obj) : a.grownBy (w.alloc o) row :=
  ⟨h.os, h.tape, h.output, Nat.le_trans h.size (by simp), fun i hi hne => (Below.heap_alloc w o i (Nat.lt_of_lt_of_le hi h.size)).trans (h.block i hi hne)⟩
theorem only_setCell {a w : World} {row : Option Nat} (h : a.grownBy w row) {p : Addr} (hp : some p.block = row ∨ a.heap.size ≤ p.block) (u : Value) : a.grownBy (w.setCell p u) row :=
  ⟨h.os, h.tape, h.output, by simpa [World.setCell] using h.size, fun i hi hne => (Below.heap_setCell w p u i (by
    rintro rfl
    rcases hp with hp | hp
    · exact hne hp
    · omega)).trans (h.block i hi hne)⟩
theorem only_trans {a b c : World} {row : Option Nat} (h : a.grownBy b row) (k : b.grownBy c row) : a.grownBy c row :=
  ⟨k.os.trans h.os, k.tape.trans h.tape, k.output.trans h.output, Nat.le_trans h.size k.size, fun i hi hne => (k.block i (Nat.lt_of_lt_of_le hi h.size) hne).trans (h.block i hi hne)⟩
theorem only_of_none {a w : World} (h : a.grownBy w none) (row : Option Nat) : a.grownBy w row := ⟨h.os, h.tape, h.output, h.size, fun i hi _ => h.block i hi (by simp)⟩
theorem only_new {a b c : World} {row : Option Nat} {g : Nat} (h : a.grownBy b row) (k : b.grownBy c (some g)) (hg : a.heap.size ≤ g) : a.grownBy c row :=
  ⟨k.os.trans h.os, k.tape.trans h.tape, k.output.trans h.output, Nat.le_trans h.size k.size,
    fun i hi hne => (k.block i (Nat.lt_of_lt_of_le hi h.size) (by rintro ⟨⟩; omega)).trans (h.block i hi hne)⟩
theorem below_of_none {a w : World} (h : a.grownBy w none) : Below a.heap.size a w := ⟨h.os, h.tape, h.output, h.size, fun i hi => h.block i hi (by simp)⟩
theorem none_of_below {a w : World} (h : Below a.heap.size a w) : a.grownBy w none := ⟨h.os, h.tape, h.output, h.size, fun i hi _ => h.block i hi⟩

/-! A row of runes. -/
def RL (w : World) (A : Option Addr) (l : List Int) : Prop := ∀ i c, l[i]? = some c → ∃ ad, A = some ad ∧ w.cell? (ad.add i) = some (.int .i32 c)
theorem RL.grown {w w' : World} {A : Option Addr} {l : List Int} {row : Option Nat} (h : RL w A l) (hg : w.grownBy w' row) (hne : ∀ ad, A = some ad → some ad.block ≠ row) : RL w' A l := by
  intro i c hi
  obtain ⟨ad, e, hc⟩ := h i c hi
  exact ⟨ad, e, hg.cell hc (by rw [block_of_add]; exact hne ad e)⟩
theorem RL.drop {w : World} {A : Option Addr} {l : List Int} (h : RL w A l) {i : Nat} {c : Int} {t : List Int} (hd : l.drop i = c :: t) :
    i < l.length ∧ ∃ ad, A = some ad ∧ w.cell? (ad.add i) = some (.int .i32 c) := by
  have hi : l[i]? = some c := by
    have : (l.drop i)[0]? = some c := by rw [hd]; rfl
    simpa using this
  exact ⟨by have := List.getElem?_eq_some_iff.1 hi; exact this.1, h i c hi⟩

/-! The pattern reader's own block. -/
structure RS where
  at_ : Nat
  pre : Value
  suf : Value
  npre : Value
  nsuf : Value
  neg : Bool
  nm : Nm
  pad : Int
  padAt : Int

def RS.cells (lv : Value) (s : RS) : Array Value :=
  #[lv, .int .i64 s.at_, s.pre, s.suf, s.npre, s.nsuf, .bool s.neg, .int .i64 s.nm.hash, .int .i64 s.nm.minInt, .int .i64 s.nm.minFrac, .int .i64 s.nm.maxFrac, .int .i64 s.nm.g1, .int .i64 s.nm.g2,
    .int .i64 s.nm.minSig, .int .i64 s.nm.maxSig, .int .i64 s.nm.exp, .bool s.nm.expPlus, .int .i32 s.pad, .int .i64 s.padAt]

/-- The block's element type. -/
def Typ (w : World) (b : Nat) (e : TypeId) : Prop := ∃ cs fz, w.heap[b]? = some (.cells cs e fz)
theorem Typ.lt {w : World} {b : Nat} {e : TypeId} (h : Typ w b e) : b < w.heap.size := by
  obtain ⟨cs, fz, h⟩ := h
  exact (Array.getElem?_eq_some_iff.1 h).1
theorem Typ.ne {w : World} {b c : Nat} {e f : TypeId} (h : Typ w b e) (k : Typ w c f) (hn : e ≠ f) : b ≠ c := by
  rintro rfl
  obtain ⟨cs, fz, h⟩ := h
  obtain ⟨cs', fz', k⟩ := k
  rw [h] at k
  injection k with k
  injection k with _ k
  exact hn k
theorem Typ.grown {w w' : World} {b : Nat} {e : TypeId} {row : Option Nat} (h : Typ w b e) (hg : w.grownBy w' row) (hne : some b ≠ row) : Typ w' b e := by
  have hl := h.lt
  obtain ⟨cs, fz, h⟩ := h
  exact ⟨cs, fz, (hg.block b hl hne).trans h⟩
theorem Blk.typ {w : World} {g : Nat} {t : TypeId} {cs : Array Value} (h : Blk w g t cs) : Typ w g t := ⟨cs, (0, 0), h⟩

/-- What may have been written is new, or of another element type. -/
def Far (w : World) (row : Option Nat) (e : TypeId) : Prop := ∀ k, row = some k → w.heap.size ≤ k ∨ ∃ f, f ≠ e ∧ Typ w k f
theorem Far.none_ (w : World) (e : TypeId) : Far w none e := fun _ h => by cases h
theorem Far.ne {w : World} {row : Option Nat} {e : TypeId} {b : Nat} (h : Far w row e) (ht : Typ w b e) : some b ≠ row := by
  intro he
  rcases h b he.symm with h | ⟨f, hf, h⟩
  · have := ht.lt; omega
  · exact ht.ne h (Ne.symm hf) rfl
theorem far_own {w : World} {B : Nat} {e f : TypeId} {size n : Nat} {v : Value} {xs : List Value} (h : w.ownsRow B f size v n xs) (hn : f ≠ e) : Far w v.ownBlock e := by
  rcases h.2 with ⟨rfl, _⟩ | ⟨g, cap, cur, rfl, _, hh, _⟩
  · exact fun k hk => by simp [Value.ownBlock] at hk
  · intro k hk
    have : g = k := by simpa [Value.ownBlock] using hk
    subst this
    exact .inr ⟨f, hn, cur, (0, 0), hh⟩

theorem Blk.far1 {w : World} {g : Nat} {t e : TypeId} {cs : Array Value} (h : Blk w g t cs) (he : t ≠ e) : Far w (some g) e := fun k hk => by
  injection hk with hk
  subst hk
  exact .inr ⟨t, he, h.typ⟩

structure Rd (w : World) (rb : Nat) (A : Option Addr) (cap : Nat) (l : List Int) (s : RS) : Prop where
  blk : Blk w rb 61 (s.cells (.slice A l.length cap))
  rl : RL w A l
  ty : ∀ ad, A = some ad → Typ w ad.block 21
  len : l.length ≤ 120
  le : s.at_ ≤ l.length

section
variable {w w' : World} {rb : Nat} {A : Option Addr} {cap : Nat} {l : List Int} {s s' : RS}
theorem Rd.cell (h : Rd w rb A cap l s) (i : Nat) {v : Value} (e : (s.cells (.slice A l.length cap))[i]? = some v) : w.cell? ⟨rb, i, none⟩ = some v := (h.blk.cell i).trans e
theorem Rd.c0 (h : Rd w rb A cap l s) : w.cell? ⟨rb, 0, none⟩ = some (.slice A l.length cap) := h.cell 0 rfl
theorem Rd.c1 (h : Rd w rb A cap l s) : w.cell? ⟨rb, 1, none⟩ = some (.int .i64 s.at_) := h.cell 1 rfl
theorem Rd.c2 (h : Rd w rb A cap l s) : w.cell? ⟨rb, 2, none⟩ = some (s.pre) := h.cell 2 rfl
theorem Rd.c3 (h : Rd w rb A cap l s) : w.cell? ⟨rb, 3, none⟩ = some (s.suf) := h.cell 3 rfl
theorem Rd.c4 (h : Rd w rb A cap l s) : w.cell? ⟨rb, 4, none⟩ = some (s.npre) := h.cell 4 rfl
theorem Rd.c5 (h : Rd w rb A cap l s) : w.cell? ⟨rb, 5, none⟩ = some (s.nsuf) := h.cell 5 rfl
theorem Rd.c6 (h : Rd w rb A cap l s) : w.cell? ⟨rb, 6, none⟩ = some (.bool s.neg) := h.cell 6 rfl
theorem Rd.c7 (h : Rd w rb A cap l s) : w.cell? ⟨rb, 7, none⟩ = some (.int .i64 s.nm.hash) := h.cell 7 rfl
theorem Rd.c8 (h : Rd w rb A cap l s) : w.cell? ⟨rb, 8, none⟩ = some (.int .i64 s.nm.minInt) := h.cell 8 rfl
theorem Rd.c9 (h : Rd w rb A cap l s) : w.cell? ⟨rb, 9, none⟩ = some (.int .i64 s.nm.minFrac) := h.cell 9 rfl
theorem Rd.c10 (h : Rd w rb A cap l s) : w.cell? ⟨rb, 10, none⟩ = some (.int .i64 s.nm.maxFrac) := h.cell 10 rfl
theorem Rd.c11 (h : Rd w rb A cap l s) : w.cell? ⟨rb, 11, none⟩ = some (.int .i64 s.nm.g1) := h.cell 11 rfl
theorem Rd.c12 (h : Rd w rb A cap l s) : w.cell? ⟨rb, 12, none⟩ = some (.int .i64 s.nm.g2) := h.cell 12 rfl
theorem Rd.c13 (h : Rd w rb A cap l s) : w.cell? ⟨rb, 13, none⟩ = some (.int .i64 s.nm.minSig) := h.cell 13 rfl
theorem Rd.c14 (h : Rd w rb A cap l s) : w.cell? ⟨rb, 14, none⟩ = some (.int .i64 s.nm.maxSig) := h.cell 14 rfl
theorem Rd.c15 (h : Rd w rb A cap l s) : w.cell? ⟨rb, 15, none⟩ = some (.int .i64 s.nm.exp) := h.cell 15 rfl
theorem Rd.c16 (h : Rd w rb A cap l s) : w.cell? ⟨rb, 16, none⟩ = some (.bool s.nm.expPlus) := h.cell 16 rfl
theorem Rd.c17 (h : Rd w rb A cap l s) : w.cell? ⟨rb, 17, none⟩ = some (.int .i32 s.pad) := h.cell 17 rfl
theorem Rd.c18 (h : Rd w rb A cap l s) : w.cell? ⟨rb, 18, none⟩ = some (.int .i64 s.padAt) := h.cell 18 rfl
theorem Rd.frozen (h : Rd w rb A cap l s) (i : Nat) : w.frozen? ⟨rb, i, none⟩ = false := h.blk.frozen i
theorem Rd.ne (h : Rd w rb A cap l s) : ∀ ad, A = some ad → some ad.block ≠ some rb := fun ad e e' => (h.ty ad e).ne h.blk.typ (by decide) (by injection e')
theorem Rd.drewN (h : Rd w rb A cap l s) (n : Nat) : Rd (w.drewN n) rb A cap l s := ⟨h.blk, h.rl, h.ty, h.len, h.le⟩
theorem Rd.drew (h : Rd w rb A cap l s) : Rd w.drew rb A cap l s := ⟨h.blk, h.rl, h.ty, h.len, h.le⟩
theorem Rd.heap (h : Rd w rb A cap l s) (e : w'.heap = w.heap) : Rd w' rb A cap l s := by
  have hc : ∀ a, w'.cell? a = w.cell? a := fun a => by simp [World.cell?, e]
  exact ⟨by unfold Blk; rw [e]; exact h.blk, fun i c hi => (h.rl i c hi).imp fun ad ⟨e1, e2⟩ => ⟨e1, (hc _).trans e2⟩, fun ad ea => by unfold Typ; rw [e]; exact h.ty ad ea, h.len, h.le⟩
theorem Rd.lt (h : Rd w rb A cap l s) : rb < w.heap.size := h.blk.lt
theorem Rd.grown {row : Option Nat} (h : Rd w rb A cap l s) (hg : w.grownBy w' row) (h1 : Far w row 61) (h2 : Far w row 21) : Rd w' rb A cap l s :=
  ⟨h.blk.grown hg (h1.ne h.blk.typ), h.rl.grown hg fun ad e => h2.ne (h.ty ad e), fun ad e => (h.ty ad e).grown hg (h2.ne (h.ty ad e)), h.len, h.le⟩
theorem Rd.alloc (h : Rd w rb A cap l s) (o : Obj) : Rd (w.alloc o) rb A cap l s := h.grown (only_alloc (only_refl w none) o) (Far.none_ _ _) (Far.none_ _ _)
theorem Rd.far (h : Rd w rb A cap l s) {e : TypeId} (he : (61 : Nat) ≠ e) : Far w (some rb) e := fun k hk => by
  injection hk with hk
  subst hk
  exact .inr ⟨61, he, h.blk.typ⟩
theorem Rd.set_ (h : Rd w rb A cap l s) (i : Nat) (u : Value) (e : (s.cells (.slice A l.length cap)).setIfInBounds i u = s'.cells (.slice A l.length cap)) (hle : s'.at_ ≤ l.length) :
    Rd (w.setCell ⟨rb, i, none⟩ u) rb A cap l s' :=
  have hg : w.grownBy (w.setCell ⟨rb, i, none⟩ u) (some rb) := only_setCell (p := ⟨rb, i, none⟩) (only_refl w (some rb)) (.inl rfl) u
  ⟨e ▸ h.blk.set_ i u, h.rl.grown hg h.ne, fun ad e => (h.ty ad e).grown hg (h.ne ad e), h.len, hle⟩
end

/-! Rows of pieces that the call owns. -/
theorem info3 : (Try.prog.info? 3).map (fun i => (i.zero, i.size, i.bytes)) = some (some (.int .i64 0), 1, 8) := by kernel_rfl
theorem info21 : (Try.prog.info? 21).map (fun i => (i.zero, i.size, i.bytes)) = some (some (.int .i32 0), 1, 4) := by kernel_rfl
theorem info34 : (Try.prog.info? 34).map (fun i => (i.zero, i.size, i.bytes)) = some (some (.agg #[(.int .i64 0), (.int .i32 0)]), 2, 16) := by kernel_rfl

def tkCells (ts : List Tk) : List Value := ts.flatMap fun t => [.int .i64 t.kind, .int .i32 t.r]
theorem tkCells_append (a b : List Tk) : tkCells (a ++ b) = tkCells a ++ tkCells b := by simp [tkCells]
theorem tkCells_length (a : List Tk) : (tkCells a).length = a.length * 2 := by
  induction a with
  | nil => rfl
  | cons t ts ih => simp [tkCells] at ih ⊢; omega
theorem tkCells_one (ts : List Tk) : ∀ u ∈ tkCells ts, u.oneCell' = true := by
  intro u hu
  simp only [tkCells, List.mem_flatMap] at hu
  obtain ⟨t, _, ht⟩ := hu
  simp at ht
  rcases ht with rfl | rfl <;> rfl

def OwnT (w : World) (B : Nat) (v : Value) (ts : List Tk) : Prop := w.ownsRow B 34 2 v ts.length (tkCells ts)
theorem OwnT.nil_ (w : World) (B : Nat) : OwnT w B (.slice none 0 0) [] := World.ownsRow_nil w B 34 2
theorem OwnT.new (w : World) (B : Nat) (t : Tk) (hB : B ≤ w.heap.size) : OwnT (w.alloc (.cells #[.int .i64 t.kind, .int .i32 t.r] 34)) B (.slice (some ⟨w.heap.size, 0, none⟩) 1 1) [t] :=
  ⟨rfl, .inr ⟨w.heap.size, 1, #[.int .i64 t.kind, .int .i32 t.r], rfl, hB, heap_alloc_new w _, by simp, by simp [maxLen], rfl, rfl⟩⟩
theorem OwnT.grown {w w' : World} {B : Nat} {v : Value} {ts : List Tk} {row : Option Nat} (h : OwnT w B v ts) (hg : w.grownBy w' row) (hf : Far w row 34) : OwnT w' B v ts := by
  refine World.ownsRow.kept h hg ?_
  rcases h.2 with ⟨rfl, _⟩ | ⟨g, cap, cur, rfl, _, hh, _⟩
  · exact .inl rfl
  · exact .inr (hf.ne ⟨cur, (0, 0), hh⟩)
theorem OwnT.heap {w w' : World} {B : Nat} {v : Value} {ts : List Tk} (h : OwnT w B v ts) (e : w'.heap = w.heap) : OwnT w' B v ts := by
  refine ⟨h.1, ?_⟩
  rw [e]
  exact h.2
theorem OwnT.far {w : World} {B : Nat} {v : Value} {ts : List Tk} (h : OwnT w B v ts) {e : TypeId} (he : (34 : Nat) ≠ e) : Far w v.ownBlock e := far_own h he
theorem OwnT.mono {w : World} {B B' : Nat} {v : Value} {ts : List Tk} (h : OwnT w B v ts) (hB : B' ≤ B) : OwnT w B' v ts := by
  refine ⟨h.1, ?_⟩
  rcases h.2 with h' | ⟨g, cap, cur, hv, hg, r⟩
  · exact .inl h'
  · exact .inr ⟨g, cap, cur, hv, by omega, r⟩
theorem only_own {a b c : World} {row : Option Nat} {B n size : Nat} {e : TypeId} {v : Value} {xs : List Value} (h : a.grownBy b row) (ho : b.ownsRow B e size v n xs) (hB : a.heap.size ≤ B) (k : b.grownBy c v.ownBlock) :
    a.grownBy c row := by
  rcases hv : v.ownBlock with _ | g
  · rw [hv] at k; exact only_trans h (only_of_none k row)
  · rw [hv] at k; exact only_new h k (by have := ho.lt g hv; omega)

theorem OwnT.set_ {w : World} {B rb : Nat} {v : Value} {ts : List Tk} (h : OwnT w B v ts) (hf : Far w (some rb) 34) (i : Nat) (u : Value) : OwnT (w.setCell ⟨rb, i, none⟩ u) B v ts :=
  h.grown (only_setCell (p := ⟨rb, i, none⟩) (only_refl w (some rb)) (.inl rfl) u) hf

theorem OwnT.alloc {w : World} {B : Nat} {v : Value} {ts : List Tk} (h : OwnT w B v ts) (o : Obj) : OwnT (w.alloc o) B v ts := World.ownsRow.alloc h o
/-- Behind an append of a piece the reader's block is as it was. -/
theorem step_tk {w W1 w' : World} {rb : Nat} {A : Option Addr} {cap : Nat} {l : List Int} {s : RS} {B : Nat} {v : Value} {ts : List Tk} {o : Obj} (hgr : (W1.alloc o).grownBy w' v.ownBlock)
    (hR : Rd W1 rb A cap l s) (hO : OwnT W1 B v ts) (hG : w.grownBy W1 (some rb)) (hB : w.heap.size ≤ B) : Rd w' rb A cap l s ∧ w.grownBy w' (some rb) :=
  ⟨(hR.alloc o).grown hgr ((hO.alloc o).far (by decide)) ((hO.alloc o).far (by decide)), only_own (only_alloc hG o) (hO.alloc o) hB hgr⟩

theorem size_setCell (w : World) (p : Addr) (u : Value) : (w.setCell p u).heap.size = w.heap.size := by simp [World.setCell]

/-- append of one piece, laid in a new block, onto a row of the call's own. -/
theorem wpList_append_tk {ops : Array Oper} {rest : List Oper} {o : Oper} {a : Act} {Q : Exit → Act → World → Prop} (w0 : World) (hgd : o.guard = none) (s x : Operand)
    (ho : o.op = .call { callee := .builtin .append, args := #[s, x], argTypes := #[22, 22] }) (B : Nat) (v : Value) (ts : List Tk) (k r : Int)
    (hs : a.eval s = v) (hown : OwnT w0 B v ts) (g : Nat) (hx : a.eval x = .slice (some ⟨g, 0, none⟩) 1 1) (hg : g = w0.heap.size) (hlen : ts.length ≤ 65536) (hB : B ≤ w0.heap.size)
    (h : ∀ v' w', OwnT w' B v' (ts ++ [⟨k, r⟩]) → (w0.alloc (.cells #[.int .i64 k, .int .i32 r] 34)).grownBy w' v.ownBlock → wpList Try.prog ops Q rest (a.put o.dst v') w') :
    wpList Try.prog ops Q (o :: rest) a (w0.alloc (.cells #[.int .i64 k, .int .i32 r] 34)) := by
  subst hg
  obtain ⟨i0, hi, hz0, hz1, hz2⟩ := info_parts info34
  refine wpList_append_own _ hgd s x 22 ho B 34 i0 _ 2 16 Try.underlying22 hi hz0 hz1 hz2 rfl (by decide) v ts.length (tkCells ts) hs (World.ownsRow.alloc hown _) ⟨w0.heap.size, 0, none⟩ 1 1
    [.int .i64 k, .int .i32 r] hx rfl ?_ (by simp [Value.oneCell']) (by simp only [maxLen]; omega) (by omega) (by simp; omega) ?_
  · intro j u hj
    match j, hj with
    | 0, hj => simp at hj; subst hj; simp [Addr.add]
    | 1, hj => simp at hj; subst hj; simp [Addr.add]
  · intro v' w' h1 h2 _
    refine h v' w' ?_ h2
    show w'.ownsRow B 34 2 v' (ts ++ [(⟨k, r⟩ : Tk)]).length (tkCells (ts ++ [⟨k, r⟩]))
    rw [tkCells_append, List.length_append]
    exact h1

/-- append of one row of the call's own onto another. -/
theorem wpList_append_tks {ops : Array Oper} {rest : List Oper} {o : Oper} {a : Act} {Q : Exit → Act → World → Prop} (w0 : World) (hgd : o.guard = none) (s x : Operand)
    (ho : o.op = .call { callee := .builtin .append, args := #[s, x], argTypes := #[22, 22] }) (B B2 : Nat) (v v2 : Value) (ts ts2 : List Tk)
    (hs : a.eval s = v) (hown : OwnT w0 B v ts) (hx : a.eval x = v2) (hown2 : OwnT w0 B2 v2 ts2) (hlen : ts.length + ts2.length ≤ 65536) (hB : B ≤ w0.heap.size)
    (h : ∀ v' w', OwnT w' B v' (ts ++ ts2) → w0.grownBy w' v.ownBlock → wpList Try.prog ops Q rest (a.put o.dst v') w') :
    wpList Try.prog ops Q (o :: rest) a w0 := by
  obtain ⟨i0, hi, hz0, hz1, hz2⟩ := info_parts info34
  rcases hown2.2 with ⟨hv, hn⟩ | ⟨g, cap, cur, hv, hg, hh, hnc, hcm, hcs, hct⟩
  · have h2 : ts2 = [] := List.eq_nil_of_length_eq_zero hn
    subst h2
    refine wpList_append_own_none hgd s x 22 ho B 34 i0 2 Try.underlying22 hi v ts.length (tkCells ts) hs hown (hx.trans hv) ?_
    exact h v w0 (by rw [List.append_nil]; exact hown) (only_refl w0 _)
  · refine wpList_append_own _ hgd s x 22 ho B 34 i0 _ 2 16 Try.underlying22 hi hz0 hz1 hz2 rfl (by decide) v ts.length (tkCells ts) hs hown ⟨g, 0, none⟩ ts2.length cap
      (tkCells ts2) (hx.trans hv) (tkCells_length ts2) ?_ (tkCells_one ts2) (by simp only [maxLen]; omega) (by omega) hB ?_
    · intro j u hj
      have hc := cell_of_row w0 g j cur 34 (0, 0) hh
      have e : (⟨g, 0, none⟩ : Addr).add j = ⟨g, j, none⟩ := by unfold Addr.add; split <;> simp_all
      rw [e, hc]
      have hl : j < (tkCells ts2).length := (List.getElem?_eq_some_iff.1 hj).1
      rw [tkCells_length] at hl
      rw [← hct, List.getElem?_take, if_pos hl] at hj
      simpa using hj
    · intro v' w' h1 h2 _
      refine h v' w' ?_ h2
      show w'.ownsRow B 34 2 v' (ts ++ ts2).length (tkCells (ts ++ ts2))
      rw [tkCells_append, List.length_append]
      exact h1

end Go.Proofs.Ytdbcdgojbegakaa
