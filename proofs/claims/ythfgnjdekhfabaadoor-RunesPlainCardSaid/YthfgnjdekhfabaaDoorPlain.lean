/- The plain mathematics of the runes layer: what the bytes of a text begin. No program occurs here. -/
namespace Go.Proofs.YthfgnjdekhfabaaDoor
namespace Ru

/-- May a second byte stand behind a first one? -/
def low (f : Nat) : Nat := if f = 224 then 160 else if f = 240 then 144 else 128
def high (f : Nat) : Nat := if f = 237 then 159 else if f = 244 then 143 else 191
def second (f b : Nat) : Bool := decide (low f ≤ b ∧ b ≤ high f)

/-- How many bytes a sequence has that begins so; 0: none does. -/
def size (f : Nat) : Nat := if f < 128 then 1 else if f < 194 ∨ 244 < f then 0 else if f < 224 then 2 else if f < 240 then 3 else 4

/-- Is a byte one of those that go on? -/
def cont (b : Nat) : Bool := decide (128 ≤ b ∧ b ≤ 191)

/-- From place i on: how far a sequence of n bytes, of which f is the first, goes. -/
def goOn (f n : Nat) : Nat → List UInt8 → Nat
  | i, [] => i
  | i, b :: t => if i < n ∧ (i = 1 → second f b.toNat = true) ∧ cont b.toNat = true then goOn f n (i + 1) t else i

/-- How many bytes of a text are a beginning of a sequence. -/
def begins : List UInt8 → Nat
  | [] => 0
  | f :: t => goOn f.toNat (size f.toNat) 1 t

end Ru
end Go.Proofs.YthfgnjdekhfabaaDoor
