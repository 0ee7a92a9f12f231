/-
What the package pat's functions, and the reference's, compute, as plain Lean functions on lists of runes: no program, no memory. One parser serves both texts.
-/
namespace Go.Proofs.Ytdbcdgojbegakaa

/-- A piece of an affix. -/
structure Tk where
  kind : Int
  r : Int
deriving DecidableEq

/-- A number's fields. -/
structure Nm where
  hash : Int
  minInt : Int
  minFrac : Int
  maxFrac : Int
  g1 : Int
  g2 : Int
  minSig : Int
  maxSig : Int
  exp : Int
  expPlus : Bool
deriving DecidableEq

/-- A number pattern. -/
structure Pt where
  pre : List Tk
  suf : List Tk
  npre : List Tk
  nsuf : List Tk
  neg : Bool
  nm : Nm
  pad : Int
  padAt : Int
deriving DecidableEq

def zNm : Nm := ⟨0, 0, 0, 0, 0, 0, 0, 0, 0, false⟩
def zPt : Pt := ⟨[], [], [], [], false, zNm, 0, 0⟩

/-- Is it a rune? -/
def isRune (r : Int) : Bool := decide (0 ≤ r) && decide (r ≤ 1114111) && (decide (r < 55296) || decide (57343 < r))

/-- The runes that are special. -/
def specials : List Int := [35, 48, 49, 50, 51, 52, 53, 54, 55, 56, 57, 64, 44, 46, 59, 42, 37, 45, 43, 39, 69, 164]
def isSpec (r : Int) : Bool := specials.contains r

/-- The kind of the piece that a sign is; 0: it is none. -/
def signOf (r : Int) : Int := if r = 45 then 1 else if r = 43 then 2 else if r = 37 then 3 else if r = 164 then 4 else 0
/-- The rune of a kind's sign; none: of no sign. -/
def runeOf (k : Int) : List Int := if k = 1 then [45] else if k = 2 then [43] else if k = 3 then [37] else if k = 4 then [164] else []

/-- How often a rune stands at a list's head. -/
def runLen (c : Int) : List Int → Nat
  | [] => 0
  | x :: t => if x = c then runLen c t + 1 else 0

/-- What is in quotes, behind the first one, and what is behind the last one. -/
def quotedL : List Int → Option (List Tk × List Int)
  | [] => none
  | c :: t =>
    if c = 39 then
      match t with
      | [] => some ([], [])
      | d :: u => if d = 39 then (quotedL u).map fun p => (⟨0, 39⟩ :: p.1, p.2) else some ([], d :: u)
    else (quotedL t).map fun p => (⟨0, c⟩ :: p.1, p.2)

/-- An affix, and what is behind it. 'n': a bound on the rounds (the list's length will do). -/
def affixF : Nat → List Int → Option (List Tk × List Int)
  | 0, _ => none
  | _ + 1, [] => some ([], [])
  | n + 1, c :: t =>
    if signOf c ≠ 0 then (affixF n t).map fun p => (⟨signOf c, 0⟩ :: p.1, p.2)
    else if c = 39 then
      if t.head? = some 39 then (affixF n (t.drop 1)).map fun p => (⟨0, 39⟩ :: p.1, p.2)
      else (quotedL t).bind fun q => (affixF n q.2).map fun p => (q.1 ++ p.1, p.2)
    else if isSpec c then some ([], c :: t)
    else (affixF n t).map fun p => (⟨0, c⟩ :: p.1, p.2)
def affixL (l : List Int) : Option (List Tk × List Int) := affixF (l.length + 1) l

theorem quotedL_le : ∀ (n : Nat) (l : List Int), l.length ≤ n → ∀ q, quotedL l = some q → q.2.length ≤ l.length
  | 0, [], _, q, h => by rw [quotedL.eq_def] at h; cases h
  | n + 1, [], _, q, h => by rw [quotedL.eq_def] at h; cases h
  | n + 1, c :: t, hl, q, h => by
    have hl' : t.length ≤ n := by simpa using hl
    rw [quotedL.eq_def] at h
    simp only at h
    split at h
    · cases t with
      | nil => simp at h; subst h; simp
      | cons d u =>
        simp only at h
        split at h
        · obtain ⟨p, hp, rfl⟩ := Option.map_eq_some_iff.1 h
          have := quotedL_le n u (by simp at hl'; omega) p hp
          simp; omega
        · simp at h; subst h; simp
    · obtain ⟨p, hp, rfl⟩ := Option.map_eq_some_iff.1 h
      have := quotedL_le n t hl' p hp
      simp; omega
theorem quotedL_sum : ∀ (n : Nat) (l : List Int), l.length ≤ n → ∀ q, quotedL l = some q → q.1.length + q.2.length ≤ l.length
  | 0, [], _, q, h => by rw [quotedL.eq_def] at h; cases h
  | n + 1, [], _, q, h => by rw [quotedL.eq_def] at h; cases h
  | n + 1, c :: t, hl, q, h => by
    have hl' : t.length ≤ n := by simpa using hl
    rw [quotedL.eq_def] at h
    simp only at h
    split at h
    · cases t with
      | nil => simp at h; subst h; simp
      | cons d u =>
        simp only at h
        split at h
        · obtain ⟨p, hp, rfl⟩ := Option.map_eq_some_iff.1 h
          have := quotedL_sum n u (by simp at hl'; omega) p hp
          simp; omega
        · simp at h; subst h; simp
    · obtain ⟨p, hp, rfl⟩ := Option.map_eq_some_iff.1 h
      have := quotedL_sum n t hl' p hp
      simp; omega
theorem affixF_more : ∀ (n : Nat) (l : List Int), l.length < n → ∀ m, l.length < m → affixF n l = affixF m l
  | 0, _, h, _, _ => by omega
  | n + 1, l, h, 0, hm => by omega
  | n + 1, [], h, m + 1, hm => rfl
  | n + 1, c :: t, h, m + 1, hm => by
    have ht : affixF n t = affixF m t := affixF_more n t (by simp at h; omega) m (by simp at hm; omega)
    have hd : affixF n (t.drop 1) = affixF m (t.drop 1) := affixF_more n _ (by simp at h ⊢; omega) m (by simp at hm ⊢; omega)
    have hq : ∀ q, quotedL t = some q → affixF n q.2 = affixF m q.2 := fun q hq => by
      have := quotedL_le _ t (Nat.le_refl _) q hq
      exact affixF_more n _ (by simp at h; omega) m (by simp at hm; omega)
    simp only [affixF, ht, hd]
    cases hql : quotedL t with
    | none => rfl
    | some q => simp only [Option.bind_some, hq q hql]
theorem affixL_nil : affixL [] = some ([], []) := rfl
theorem affixL_sign {c : Int} (t : List Int) (h : signOf c ≠ 0) : affixL (c :: t) = (affixL t).map fun p => (⟨signOf c, 0⟩ :: p.1, p.2) := by
  show affixF ((c :: t).length + 1) (c :: t) = _
  simp only [affixF, if_pos h, affixL]
  rw [affixF_more _ t (by simp) (t.length + 1) (by omega)]
theorem affixL_two (t : List Int) : affixL (39 :: 39 :: t) = (affixL t).map fun p => (⟨0, 39⟩ :: p.1, p.2) := by
  show affixF ((39 :: 39 :: t).length + 1) (39 :: 39 :: t) = _
  simp only [affixF, affixL, List.head?_cons, if_true, List.drop_one, List.tail_cons]
  rw [if_neg (by decide), affixF_more _ t (by simp; omega) (t.length + 1) (by omega)]
theorem affixL_quote {t : List Int} (h : t.head? ≠ some 39) : affixL (39 :: t) = (quotedL t).bind fun q => (affixL q.2).map fun p => (q.1 ++ p.1, p.2) := by
  show affixF ((39 :: t).length + 1) (39 :: t) = _
  simp only [affixF, affixL, if_true, if_neg h]
  rw [if_neg (by decide)]
  cases hql : quotedL t with
  | none => rfl
  | some q =>
    have := quotedL_le _ t (Nat.le_refl _) q hql
    simp only [Option.bind_some]
    rw [affixF_more _ q.2 (by simp; omega) (q.2.length + 1) (by omega)]
theorem affixL_spec {c : Int} (t : List Int) (h1 : signOf c = 0) (h2 : c ≠ 39) (h3 : isSpec c = true) : affixL (c :: t) = some ([], c :: t) := by
  show affixF ((c :: t).length + 1) (c :: t) = _
  simp [affixF, h1, h2, h3]
theorem affixL_plain {c : Int} (t : List Int) (h1 : signOf c = 0) (h2 : c ≠ 39) (h3 : isSpec c = false) : affixL (c :: t) = (affixL t).map fun p => (⟨0, c⟩ :: p.1, p.2) := by
  show affixF ((c :: t).length + 1) (c :: t) = _
  simp only [affixF, affixL, h1, h2, h3, if_false]
  rw [affixF_more _ t (by simp) (t.length + 1) (by omega)]
  rfl

/-- What is padded (a rune, and where), if it stands here, and may. -/
def padL (wh : Int) (pd : Int × Int) (l : List Int) : Option ((Int × Int) × List Int) :=
  if pd.2 ≠ 0 then some (pd, l)
  else match l with
    | [] => some (pd, [])
    | c :: t => if c = 42 then (match t with | [] => none | d :: u => some ((d, wh), u)) else some (pd, c :: t)

/-- May a comma stand here: what is behind it. -/
def commaAt (m : Int) (t : List Int) : Bool := t.head? == some 48 || (t.head? == some 35 && m == 0)

/-- The groups' lengths, when the last one is read. -/
def groupsOf (gs : List Int) (n : Int) : Int × Int :=
  match gs with
  | [] => (0, 0)
  | [_] => (n, n)
  | _ :: b :: _ => (n, b)

/-- The places ahead of the point: how many #, how many 0, the groups. -/
def placesL (h m n : Int) (gs : List Int) : List Int → Option ((Int × Int × Int × Int) × List Int)
  | [] => if h + m = 0 then none else some ((h, m, (groupsOf gs n).1, (groupsOf gs n).2), [])
  | c :: t =>
    if m = 0 ∧ c = 35 then placesL (h + 1) m (n + 1) gs t
    else if c = 48 then placesL h (m + 1) (n + 1) gs t
    else if 0 < n ∧ c = 44 ∧ commaAt m t = true then
      if 1 < gs.length ∧ gs[1]? ≠ some n then none else placesL h m 0 (gs ++ [n]) t
    else if h + m = 0 then none else some ((h, m, (groupsOf gs n).1, (groupsOf gs n).2), c :: t)

/-- The places behind the point. -/
def fracL (l : List Int) : Option ((Int × Int) × List Int) :=
  match l with
  | [] => some ((0, 0), [])
  | c :: t =>
    if c = 46 then
      let a := runLen 48 t
      let b := runLen 35 (t.drop a)
      if a + b = 0 then none else some (((a : Int), ((a + b : Nat) : Int)), (t.drop a).drop b)
    else some ((0, 0), c :: t)

/-- The exponent. -/
def expL (l : List Int) : Option ((Bool × Int) × List Int) :=
  match l with
  | [] => some ((false, 0), [])
  | c :: t =>
    if c = 69 then
      let q := decide (t.head? = some 43)
      let u := if q then t.drop 1 else t
      let e := runLen 48 u
      if e = 0 then none else some ((q, (e : Int)), u.drop e)
    else some ((false, 0), c :: t)

/-- A number. -/
def numberL (l : List Int) : Option (Nm × List Int) :=
  let n := runLen 64 l
  (if 0 < n then
    let m := runLen 35 (l.drop n)
    some ({ zNm with minSig := n, maxSig := ((n + m : Nat) : Int) }, (l.drop n).drop m)
  else (placesL 0 0 0 [] l).bind fun q => (fracL q.2).map fun f =>
    ({ zNm with hash := q.1.1, minInt := q.1.2.1, g1 := q.1.2.2.1, g2 := q.1.2.2.2, minFrac := f.1.1, maxFrac := f.1.2 }, f.2)).bind fun q =>
  (expL q.2).map fun e => ({ q.1 with expPlus := e.1.1, exp := e.1.2 }, e.2)

/-- A number that was read, once more: what is behind it. -/
def againL : List Int → List Int → Option (List Int)
  | [], l => some l
  | _ :: _, [] => none
  | c :: u, d :: t => if d = c then againL u t else none

/-- A whole pattern, stage by stage (the last one first). -/
def whole9 (pre suf npre : List Tk) (nm : Nm) (d : Int × Int) (u : List Int) : Option Pt :=
  (affixL u).bind fun nsuf => if nsuf.2 = [] then some ⟨pre, suf, npre, nsuf.1, true, nm, d.1, d.2⟩ else none
def whole8 (pre suf : List Tk) (nm : Nm) (nr : List Int) (d : Int × Int) (npre : List Tk × List Int) : Option Pt :=
  (againL nr npre.2).bind fun u => whole9 pre suf npre.1 nm d u
def whole7 (pre suf : List Tk) (nm : Nm) (nr : List Int) (d : (Int × Int) × List Int) : Option Pt :=
  match d.2 with
  | [] => some ⟨pre, suf, [], [], false, nm, d.1.1, d.1.2⟩
  | x :: t => if x = 59 then (affixL t).bind fun npre => whole8 pre suf nm nr d.1 npre else none
def whole6 (pre : List Tk) (nm : Nm) (nr : List Int) (c : Int × Int) (suf : List Tk × List Int) : Option Pt := (padL 4 c suf.2).bind fun d => whole7 pre suf.1 nm nr d
def whole5 (pre : List Tk) (nm : Nm) (nr : List Int) (c : (Int × Int) × List Int) : Option Pt := (affixL c.2).bind fun suf => whole6 pre nm nr c.1 suf
def whole4 (pre : List Tk) (b : (Int × Int) × List Int) (nm : Nm × List Int) : Option Pt := (padL 3 b.1 nm.2).bind fun c => whole5 pre nm.1 (b.2.take (b.2.length - nm.2.length)) c
def whole3 (pre : List Tk) (b : (Int × Int) × List Int) : Option Pt := (numberL b.2).bind fun nm => whole4 pre b nm
def whole2 (a : Int × Int) (pre : List Tk × List Int) : Option Pt := (padL 2 a pre.2).bind fun b => whole3 pre.1 b
def whole1 (a : (Int × Int) × List Int) : Option Pt := (affixL a.2).bind fun pre => whole2 a.1 pre
def wholeL (l : List Int) : Option Pt := (padL 1 (0, 0) l).bind fun a => whole1 a

/-! What is behind what was read is shorter. -/
theorem placesL_lt : ∀ (l : List Int) (h m n : Int) (gs : List Int) (q : (Int × Int × Int × Int) × List Int), placesL h m n gs l = some q → q.2.length ≤ l.length ∧ (h + m = 0 → q.2.length < l.length)
  | [], h, m, n, gs, q, hq => by
    simp only [placesL] at hq
    split at hq
    · cases hq
    · injection hq with hq; subst hq; exact ⟨by simp, fun e => absurd e ‹_›⟩
  | c :: t, h, m, n, gs, q, hq => by
    simp only [placesL] at hq
    split at hq
    · have := placesL_lt t _ _ _ _ q hq; simp; omega
    · split at hq
      · have := placesL_lt t _ _ _ _ q hq; simp; omega
      · split at hq
        · split at hq
          · cases hq
          · have := placesL_lt t _ _ _ _ q hq; simp; omega
        · split at hq
          · cases hq
          · injection hq with hq; subst hq; exact ⟨by simp, fun e => absurd e ‹_›⟩
theorem fracL_le {l : List Int} {q : (Int × Int) × List Int} (h : fracL l = some q) : q.2.length ≤ l.length := by
  cases l with
  | nil => simp only [fracL] at h; injection h with h; subst h; simp
  | cons c t =>
    simp only [fracL] at h
    split at h
    · split at h
      · cases h
      · injection h with h; subst h; simp; omega
    · injection h with h; subst h; simp
theorem expL_le {l : List Int} {q : (Bool × Int) × List Int} (h : expL l = some q) : q.2.length ≤ l.length := by
  cases l with
  | nil => simp only [expL] at h; injection h with h; subst h; simp
  | cons c t =>
    simp only [expL] at h
    by_cases hc : c = 69
    · rw [if_pos hc] at h
      generalize hu : (if decide (t.head? = some 43) = true then t.drop 1 else t) = u at h
      have hl : u.length ≤ t.length := by rw [← hu]; split <;> simp
      by_cases he : runLen 48 u = 0
      · rw [if_pos he] at h; cases h
      · rw [if_neg he] at h; injection h with h; subst h; simp; omega
    · rw [if_neg hc] at h; injection h with h; subst h; simp
theorem numberL_lt {l : List Int} {q : Nm × List Int} (h : numberL l = some q) : q.2.length < l.length := by
  simp only [numberL] at h
  obtain ⟨a, ha, h2⟩ := Option.bind_eq_some_iff.1 h
  obtain ⟨e, he, rfl⟩ := Option.map_eq_some_iff.1 h2
  have h3 := expL_le he
  have h4 : a.2.length < l.length := by
    split at ha
    · rename_i hn
      injection ha with ha
      subst ha
      cases l with
      | nil => simp [runLen] at hn
      | cons c t => simp; omega
    · obtain ⟨p, hp, h5⟩ := Option.bind_eq_some_iff.1 ha
      obtain ⟨f, hf, rfl⟩ := Option.map_eq_some_iff.1 h5
      have h6 := (placesL_lt _ _ _ _ _ _ hp).2 rfl
      have h7 := fracL_le hf
      show f.2.length < _
      omega
  show e.2.length < _
  omega

/-- A text's pattern. -/
def parseL (l : List Int) : Option Pt :=
  if 120 < l.length then none
  else (wholeL l).bind fun p =>
    if 40 < p.nm.hash + p.nm.minInt ∨ 40 < p.nm.maxFrac ∨ 40 < p.nm.maxSig ∨ 40 < p.nm.exp then none else some p

/-- The places' text, from the place 'left' on. -/
def placesT (p : Nm) : Nat → List Int
  | 0 => []
  | k + 1 => (if p.minInt < (k + 1 : Nat) then 35 else 48) ::
      (if 0 < p.g1 ∧ p.g1 < (k + 1 : Nat) ∧ ((k : Int) - p.g1) % (max p.g2 1) = 0 then 44 :: placesT p k else placesT p k)

/-- A number's text. -/
def numT (p : Nm) : List Int :=
  List.replicate p.minSig.toNat 64 ++ List.replicate (p.maxSig - p.minSig).toNat 35 ++ placesT p (p.hash + p.minInt).toNat ++
  (if 0 < p.maxFrac then 46 :: (List.replicate p.minFrac.toNat 48 ++ List.replicate (p.maxFrac - p.minFrac).toNat 35) else []) ++
  (if 0 < p.exp then 69 :: ((if p.expPlus then [43] else []) ++ List.replicate p.exp.toNat 48) else [])

/-- An affix's text; are we in quotes? -/
def writtenT (q : Bool) : List Tk → List Int
  | [] => if q then [39] else []
  | t :: ts =>
    if t.kind ≠ 0 then (if q then [39] else []) ++ runeOf t.kind ++ writtenT false ts
    else if t.r = 39 then 39 :: 39 :: writtenT q ts
    else (if q != isSpec t.r then [39] else []) ++ t.r :: writtenT (isSpec t.r) ts

def padT (p : Pt) (wh : Int) : List Int := if p.padAt = wh then [42, p.pad] else []

/-- A pattern's text. -/
def textT (p : Pt) : List Int :=
  padT p 1 ++ writtenT false p.pre ++ padT p 2 ++ numT p.nm ++ padT p 3 ++ writtenT false p.suf ++ padT p 4 ++
  (if p.neg then 59 :: (writtenT false p.npre ++ numT p.nm ++ writtenT false p.nsuf) else [])

/-- Are a pattern's numbers such that it has a text? -/
def smallNm (p : Nm) : Bool :=
  [p.hash, p.minInt, p.minFrac, p.maxFrac, p.g1, p.g2, p.minSig, p.maxSig, p.exp].all fun n => decide (0 ≤ n) && decide (n ≤ 40)
def smallP (p : Pt) : Bool := smallNm p.nm && isRune p.pad && (p.pre ++ p.suf ++ p.npre ++ p.nsuf).all fun t => isRune t.r

def rightP (p : Pt) : Bool := smallP p && decide (parseL (textT p) = some p)

def p0 : Pt := ⟨[], [], [⟨0, 40⟩], [⟨0, 41⟩], true, ⟨3, 1, 2, 2, 3, 3, 0, 0, 0, false⟩, 0, 0⟩
def s0 : List Int := [35, 44, 35, 35, 48, 46, 48, 48, 59, 40, 35, 44, 35, 35, 48, 46, 48, 48, 41]
theorem shown_parse : parseL s0 = some p0 := by decide +kernel
theorem shown_text : textT p0 = s0 := by decide +kernel
theorem shown_right : rightP p0 = true := by decide +kernel

end Go.Proofs.Ytdbcdgojbegakaa
