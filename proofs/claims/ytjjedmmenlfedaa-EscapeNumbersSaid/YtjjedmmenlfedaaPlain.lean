/- The plain mathematics of the escape layer: what a parser makes of characters, one by one. No program occurs here. -/
namespace Go.Proofs.Ytjjedmmenlfedaa
namespace Esc

/-- An act: its kind, its character, what stood ahead, how many numbers, the numbers. -/
structure A where
  kind : Int
  r : Int
  priv : Int
  mid : Int
  n : Int
  n0 : Int
  n1 : Int
  n2 : Int
  n3 : Int
  n4 : Int
  n5 : Int
  n6 : Int
  n7 : Int

def A0 : A := ⟨0, 0, 0, 0, 0, 0, 0, 0, 0, 0, 0, 0, 0⟩

/-- A parser: what it is in (0 rest, 1 escape, 2 sequence, 3 spoilt, 4 text), the act that grows, whether a character of a sequence was read. -/
structure P where
  inn : Int
  act : A
  any : Bool

def P0 : P := ⟨0, A0, false⟩

/-- A digit more in a number. -/
def num (x r : Int) : Int := min (x * 10 + (r - 48)) 9999

/-- A digit more. -/
def digit (a : A) (r : Int) : A :=
  let n := max a.n 1
  if n = 1 then { a with n := n, n0 := num a.n0 r }
  else if n = 2 then { a with n := n, n1 := num a.n1 r }
  else if n = 3 then { a with n := n, n2 := num a.n2 r }
  else if n = 4 then { a with n := n, n3 := num a.n3 r }
  else if n = 5 then { a with n := n, n4 := num a.n4 r }
  else if n = 6 then { a with n := n, n5 := num a.n5 r }
  else if n = 7 then { a with n := n, n6 := num a.n6 r }
  else if n = 8 then { a with n := n, n7 := num a.n7 r }
  else { a with n := n }

/-- Does a character end a sequence? -/
def last (r : Int) : Bool := decide (64 ≤ r ∧ r < 127)

def escaped (p : P) (r : Int) : P × A :=
  if r < 48 ∧ p.act.mid = 0 then ({ p with act := { p.act with mid := r } }, A0)
  else if r < 48 then ({ p with act := { p.act with mid := 255 } }, A0)
  else if r = 91 ∧ p.act.mid = 0 then ({ p with inn := 2 }, A0)
  else if (r = 80 ∨ r = 88 ∨ r = 93 ∨ r = 94 ∨ r = 95) ∧ p.act.mid = 0 then ({ p with inn := 4 }, A0)
  else if 127 ≤ r ∨ p.act.mid = 255 then ({ p with inn := 0 }, A0)
  else ({ p with inn := 0 }, ⟨3, r, 0, p.act.mid, 0, 0, 0, 0, 0, 0, 0, 0, 0⟩)

def sequenced (p : P) (r : Int) : P × A :=
  if last r = true then ({ p with inn := 0, any := true }, { p.act with kind := 4, r := r, n := min p.act.n 8 })
  else if p.act.mid = 0 ∧ 48 ≤ r ∧ r ≤ 57 then ({ p with act := digit p.act r, any := true }, A0)
  else if p.act.mid = 0 ∧ (r = 58 ∨ r = 59) then ({ p with act := { p.act with n := min (max p.act.n 1 + 1) 9 }, any := true }, A0)
  else if p.act.mid = 0 ∧ r < 48 then ({ p with act := { p.act with mid := r }, any := true }, A0)
  else if p.any = false ∧ 60 ≤ r ∧ r ≤ 63 then ({ p with act := { p.act with priv := r }, any := true }, A0)
  else ({ p with inn := 3, any := true }, A0)

def other (p : P) (r : Int) : P × A :=
  if p.inn = 0 then (p, ⟨1, r, 0, 0, 0, 0, 0, 0, 0, 0, 0, 0, 0⟩)
  else if p.inn = 1 then escaped p r
  else if p.inn = 2 then sequenced p r
  else if p.inn = 3 ∧ last r = true then ({ p with inn := 0 }, A0)
  else (p, A0)

def stp (p : P) (r : Int) : P × A :=
  if r = 27 then (⟨1, A0, false⟩, A0)
  else if r = 24 ∨ r = 26 then ({ p with inn := 0 }, A0)
  else if r < 0 ∨ 1114111 < r ∨ (127 ≤ r ∧ r ≤ 159) then (p, A0)
  else if r < 32 ∧ ¬ p.inn = 4 then (p, ⟨2, r, 0, 0, 0, 0, 0, 0, 0, 0, 0, 0, 0⟩)
  else if r = 7 then ({ p with inn := 0 }, A0)
  else if r < 32 then (p, A0)
  else other p r

/-- A number that is one of an act. -/
def Small (x : Int) : Prop := 0 ≤ x ∧ x ≤ 9999

/-- What is always known of a parser: what the arithmetic leans on. -/
structure Ok (p : P) : Prop where
  n : 0 ≤ p.act.n ∧ p.act.n ≤ 9
  mid : 0 ≤ p.act.mid ∧ p.act.mid ≤ 255
  priv : 0 ≤ p.act.priv ∧ p.act.priv ≤ 255
  n0 : Small p.act.n0
  n1 : Small p.act.n1
  n2 : Small p.act.n2
  n3 : Small p.act.n3
  n4 : Small p.act.n4
  n5 : Small p.act.n5
  n6 : Small p.act.n6
  n7 : Small p.act.n7

theorem ok0 : Ok P0 := by
  constructor <;> simp [P0, A0, Small]

theorem small_num (x r : Int) (h : Small x) (hr : 48 ≤ r) (_h2 : r ≤ 57) : Small (num x r) := by
  unfold Small num at *
  omega

theorem ok_digit (p : P) (r : Int) (h : Ok p) (h1 : 48 ≤ r) (h2 : r ≤ 57) (b : Bool) : Ok { p with act := digit p.act r, any := b } := by
  obtain ⟨a, b, c, d0, d1, d2, d3, d4, d5, d6, d7⟩ := h
  have e : ∀ x, Small x → Small (num x r) := fun x hx => small_num x r hx h1 h2
  unfold digit
  dsimp only
  repeat' split
  all_goals exact ⟨by dsimp only; omega, b, c, by first | exact d0 | exact e _ d0, by first | exact d1 | exact e _ d1, by first | exact d2 | exact e _ d2, by first | exact d3 | exact e _ d3, by first | exact d4 | exact e _ d4, by first | exact d5 | exact e _ d5, by first | exact d6 | exact e _ d6, by first | exact d7 | exact e _ d7⟩

theorem ok_escaped (p : P) (r : Int) (h : Ok p) (h1 : 0 ≤ r) : Ok (escaped p r).1 := by
  obtain ⟨a, b, c, d0, d1, d2, d3, d4, d5, d6, d7⟩ := h
  unfold escaped
  repeat' split
  all_goals exact ⟨a, by first | exact b | (dsimp only; omega), c, d0, d1, d2, d3, d4, d5, d6, d7⟩

theorem ok_sequenced (p : P) (r : Int) (h : Ok p) (h1 : 0 ≤ r) : Ok (sequenced p r).1 := by
  have hd := ok_digit p r h
  obtain ⟨a, b, c, d0, d1, d2, d3, d4, d5, d6, d7⟩ := h
  unfold sequenced
  repeat' split
  all_goals first
    | exact ⟨by first | exact a | (dsimp only; omega), by first | exact b | (dsimp only; omega), by first | exact c | (dsimp only; omega), d0, d1, d2, d3, d4, d5, d6, d7⟩
    | (rename_i hx; exact hd hx.2.1 hx.2.2 true)

theorem ok_other (p : P) (r : Int) (h : Ok p) (h1 : 0 ≤ r) : Ok (other p r).1 := by
  have he := ok_escaped p r h h1
  have hs := ok_sequenced p r h h1
  unfold other
  repeat' split
  all_goals first
    | exact h
    | exact he
    | exact hs
    | exact ⟨h.n, h.mid, h.priv, h.n0, h.n1, h.n2, h.n3, h.n4, h.n5, h.n6, h.n7⟩

theorem ok_stp (p : P) (r : Int) (h : Ok p) : Ok (stp p r).1 := by
  have ho := ok_other p r h
  unfold stp
  repeat' split
  all_goals first
    | exact h
    | exact ho (by omega)
    | exact ⟨h.n, h.mid, h.priv, h.n0, h.n1, h.n2, h.n3, h.n4, h.n5, h.n6, h.n7⟩
    | (constructor <;> simp [A0, Small])

end Esc
end Go.Proofs.Ytjjedmmenlfedaa
