/- The walks of the escape layer's small functions: last, digit. -/
import Derived.Test.YtjjedmmenlfedaaRows
import Derived.Test.YtjjedmmenlfedaaPlain
import Derived.Test.YtjjedmmenlfedaaWords
import Derived.WalkLawsBesides
import Derived.Outline
import Derived.BigQuiet
import Derived.BigRegion
namespace Go.Proofs.Ytjjedmmenlfedaa
open Go.RowKit Esc
set_option maxRecDepth 100000

/-- An act's cells; a parser's. -/
def acts (a : A) : Array Value := #[.int .i64 a.kind, .int .i32 a.r, .int .u8 a.priv, .int .u8 a.mid, .int .i64 a.n, .int .i64 a.n0, .int .i64 a.n1, .int .i64 a.n2, .int .i64 a.n3, .int .i64 a.n4, .int .i64 a.n5, .int .i64 a.n6, .int .i64 a.n7]
def aval (a : A) : Value := .agg (acts a)
def pcells (p : P) : Array Value := #[.int .i64 p.inn, .int .i64 p.act.kind, .int .i32 p.act.r, .int .u8 p.act.priv, .int .u8 p.act.mid, .int .i64 p.act.n, .int .i64 p.act.n0, .int .i64 p.act.n1, .int .i64 p.act.n2, .int .i64 p.act.n3, .int .i64 p.act.n4, .int .i64 p.act.n5, .int .i64 p.act.n6, .int .i64 p.act.n7, .bool p.any]
/-- A parser's block. -/
def Ps (w : World) (b : Nat) (p : P) : Prop := Blk w b 30 (pcells p)

theorem last_any (r : Int) (w : World) : Calls Try.prog 20 #[.int .i32 r] w fun e w' => e = .returned (.bool (last r)) ∧ w = w' := by
  by_cases h : 64 ≤ r
  · by_cases h2 : r < 127
    · have e : last r = true := by unfold last; simp [h, h2]
      rw [e]
      clear e
      go_enter Try.func20, Try.ntmps20
      go_wp2
      go_ret
      exact ⟨rfl, rfl⟩
    · have e : last r = false := by unfold last; simp [h2]
      rw [e]
      clear e
      go_enter Try.func20, Try.ntmps20
      go_wp2
      go_ret
      exact ⟨rfl, rfl⟩
  · have e : last r = false := by unfold last; simp [h]
    rw [e]
    clear e
    go_enter Try.func20, Try.ntmps20
    go_wp2
    go_ret
    exact ⟨rfl, rfl⟩

theorem dig_close {w : World} {b : Nat} {p q : P} (hp : Ps w b p) (nq i : Nat) (v N : Int) (he : pcells q = ((pcells p).setIfInBounds 5 (.int .i64 N)).setIfInBounds i (.int .i64 v)) :
    Ps (((w.setCell ⟨b, 5, none⟩ (.int .i64 N)).drewN nq).setCell ⟨b, i, none⟩ (.int .i64 v)) b q ∧ w.grownBy (((w.setCell ⟨b, 5, none⟩ (.int .i64 N)).drewN nq).setCell ⟨b, i, none⟩ (.int .i64 v)) (some b) := by
  have g1 := only_setCell (p := ⟨b, 5, none⟩) (World.grownBy.refl w (some b)) (.inl rfl) (.int .i64 N)
  have g2 := only_drewN g1 nq
  refine ⟨?_, only_setCell (p := ⟨b, i, none⟩) g2 (.inl rfl) (.int .i64 v)⟩
  have h1 : Blk w b 30 (pcells p) := hp
  have h2 := Blk.set_ h1 5 (.int .i64 N)
  have h3 := Blk.drewN h2 nq
  have h4 := Blk.set_ h3 i (.int .i64 v)
  unfold Ps
  rw [he]
  exact h4

theorem dg_0 (kind ar priv mid n0 n1 n2 n3 n4 n5 n6 n7 r : Int) : digit ⟨kind, ar, priv, mid, 0, n0, n1, n2, n3, n4, n5, n6, n7⟩ r = ⟨kind, ar, priv, mid, 1, num n0 r, n1, n2, n3, n4, n5, n6, n7⟩ := rfl
set_option maxHeartbeats 800000 in
theorem digit_0 (b : Nat) (inn kind ar priv mid n0 n1 n2 n3 n4 n5 n6 n7 : Int) (any : Bool) (r : Int) (w : World) (hp : Ps w b ⟨inn, ⟨kind, ar, priv, mid, 0, n0, n1, n2, n3, n4, n5, n6, n7⟩, any⟩) (h0 : 0 ≤ n0) (h9 : n0 ≤ 9999) (h1 : 48 ≤ r) (h2 : r ≤ 57) :
    Calls Try.prog 21 #[.pointer (some ⟨b, 0, none⟩), .int .i32 r] w fun e w' =>
      e = .returned (.tuple #[]) ∧ Ps w' b ⟨inn, digit ⟨kind, ar, priv, mid, 0, n0, n1, n2, n3, n4, n5, n6, n7⟩ r, any⟩ ∧ w.grownBy w' (some b) := by
  have c5 : w.cell? ⟨b, 5, none⟩ = some (.int .i64 0) := Blk.cell hp 5
  have cn : w.cell? ⟨b, 6, none⟩ = some (.int .i64 n0) := Blk.cell hp 6
  have f5 := Blk.frozen hp 5
  have fn := Blk.frozen hp 6
  rcases (show (n0 * 10 + (r - 48) ≤ 9999) ∨ (9999 < n0 * 10 + (r - 48)) from by omega) with h | h
  · have hv : num n0 r = n0 * 10 + (r - 48) := by unfold num; omega
    have he : pcells ⟨inn, digit ⟨kind, ar, priv, mid, 0, n0, n1, n2, n3, n4, n5, n6, n7⟩ r, any⟩ = ((pcells ⟨inn, ⟨kind, ar, priv, mid, 0, n0, n1, n2, n3, n4, n5, n6, n7⟩, any⟩).setIfInBounds 5 (.int .i64 1)).setIfInBounds 6 (.int .i64 (n0 * 10 + (r - 48))) := by rw [dg_0, hv]; rfl
    have HC := hide (fun nq => dig_close hp nq _ _ _ he)
    clear he hv
    go_enter Try.func21, Try.ntmps21
    go_wp2
    go_quiet (fail)
    go_wp2
    go_end0
    exact ⟨rfl, HC.out _⟩
  · have hv : num n0 r = 9999 := by unfold num; omega
    have he : pcells ⟨inn, digit ⟨kind, ar, priv, mid, 0, n0, n1, n2, n3, n4, n5, n6, n7⟩ r, any⟩ = ((pcells ⟨inn, ⟨kind, ar, priv, mid, 0, n0, n1, n2, n3, n4, n5, n6, n7⟩, any⟩).setIfInBounds 5 (.int .i64 1)).setIfInBounds 6 (.int .i64 9999) := by rw [dg_0, hv]; rfl
    have HC := hide (fun nq => dig_close hp nq _ _ _ he)
    clear he hv
    go_enter Try.func21, Try.ntmps21
    go_wp2
    go_quiet (fail)
    go_wp2
    go_end0
    exact ⟨rfl, HC.out _⟩

theorem dg_1 (kind ar priv mid n0 n1 n2 n3 n4 n5 n6 n7 r : Int) : digit ⟨kind, ar, priv, mid, 1, n0, n1, n2, n3, n4, n5, n6, n7⟩ r = ⟨kind, ar, priv, mid, 1, num n0 r, n1, n2, n3, n4, n5, n6, n7⟩ := rfl
set_option maxHeartbeats 800000 in
theorem digit_1 (b : Nat) (inn kind ar priv mid n0 n1 n2 n3 n4 n5 n6 n7 : Int) (any : Bool) (r : Int) (w : World) (hp : Ps w b ⟨inn, ⟨kind, ar, priv, mid, 1, n0, n1, n2, n3, n4, n5, n6, n7⟩, any⟩) (h0 : 0 ≤ n0) (h9 : n0 ≤ 9999) (h1 : 48 ≤ r) (h2 : r ≤ 57) :
    Calls Try.prog 21 #[.pointer (some ⟨b, 0, none⟩), .int .i32 r] w fun e w' =>
      e = .returned (.tuple #[]) ∧ Ps w' b ⟨inn, digit ⟨kind, ar, priv, mid, 1, n0, n1, n2, n3, n4, n5, n6, n7⟩ r, any⟩ ∧ w.grownBy w' (some b) := by
  have c5 : w.cell? ⟨b, 5, none⟩ = some (.int .i64 1) := Blk.cell hp 5
  have cn : w.cell? ⟨b, 6, none⟩ = some (.int .i64 n0) := Blk.cell hp 6
  have f5 := Blk.frozen hp 5
  have fn := Blk.frozen hp 6
  rcases (show (n0 * 10 + (r - 48) ≤ 9999) ∨ (9999 < n0 * 10 + (r - 48)) from by omega) with h | h
  · have hv : num n0 r = n0 * 10 + (r - 48) := by unfold num; omega
    have he : pcells ⟨inn, digit ⟨kind, ar, priv, mid, 1, n0, n1, n2, n3, n4, n5, n6, n7⟩ r, any⟩ = ((pcells ⟨inn, ⟨kind, ar, priv, mid, 1, n0, n1, n2, n3, n4, n5, n6, n7⟩, any⟩).setIfInBounds 5 (.int .i64 1)).setIfInBounds 6 (.int .i64 (n0 * 10 + (r - 48))) := by rw [dg_1, hv]; rfl
    have HC := hide (fun nq => dig_close hp nq _ _ _ he)
    clear he hv
    go_enter Try.func21, Try.ntmps21
    go_wp2
    go_quiet (fail)
    go_wp2
    go_end0
    exact ⟨rfl, HC.out _⟩
  · have hv : num n0 r = 9999 := by unfold num; omega
    have he : pcells ⟨inn, digit ⟨kind, ar, priv, mid, 1, n0, n1, n2, n3, n4, n5, n6, n7⟩ r, any⟩ = ((pcells ⟨inn, ⟨kind, ar, priv, mid, 1, n0, n1, n2, n3, n4, n5, n6, n7⟩, any⟩).setIfInBounds 5 (.int .i64 1)).setIfInBounds 6 (.int .i64 9999) := by rw [dg_1, hv]; rfl
    have HC := hide (fun nq => dig_close hp nq _ _ _ he)
    clear he hv
    go_enter Try.func21, Try.ntmps21
    go_wp2
    go_quiet (fail)
    go_wp2
    go_end0
    exact ⟨rfl, HC.out _⟩

theorem dg_2 (kind ar priv mid n0 n1 n2 n3 n4 n5 n6 n7 r : Int) : digit ⟨kind, ar, priv, mid, 2, n0, n1, n2, n3, n4, n5, n6, n7⟩ r = ⟨kind, ar, priv, mid, 2, n0, num n1 r, n2, n3, n4, n5, n6, n7⟩ := rfl
set_option maxHeartbeats 800000 in
theorem digit_2 (b : Nat) (inn kind ar priv mid n0 n1 n2 n3 n4 n5 n6 n7 : Int) (any : Bool) (r : Int) (w : World) (hp : Ps w b ⟨inn, ⟨kind, ar, priv, mid, 2, n0, n1, n2, n3, n4, n5, n6, n7⟩, any⟩) (h0 : 0 ≤ n1) (h9 : n1 ≤ 9999) (h1 : 48 ≤ r) (h2 : r ≤ 57) :
    Calls Try.prog 21 #[.pointer (some ⟨b, 0, none⟩), .int .i32 r] w fun e w' =>
      e = .returned (.tuple #[]) ∧ Ps w' b ⟨inn, digit ⟨kind, ar, priv, mid, 2, n0, n1, n2, n3, n4, n5, n6, n7⟩ r, any⟩ ∧ w.grownBy w' (some b) := by
  have c5 : w.cell? ⟨b, 5, none⟩ = some (.int .i64 2) := Blk.cell hp 5
  have cn : w.cell? ⟨b, 7, none⟩ = some (.int .i64 n1) := Blk.cell hp 7
  have f5 := Blk.frozen hp 5
  have fn := Blk.frozen hp 7
  rcases (show (n1 * 10 + (r - 48) ≤ 9999) ∨ (9999 < n1 * 10 + (r - 48)) from by omega) with h | h
  · have hv : num n1 r = n1 * 10 + (r - 48) := by unfold num; omega
    have he : pcells ⟨inn, digit ⟨kind, ar, priv, mid, 2, n0, n1, n2, n3, n4, n5, n6, n7⟩ r, any⟩ = ((pcells ⟨inn, ⟨kind, ar, priv, mid, 2, n0, n1, n2, n3, n4, n5, n6, n7⟩, any⟩).setIfInBounds 5 (.int .i64 2)).setIfInBounds 7 (.int .i64 (n1 * 10 + (r - 48))) := by rw [dg_2, hv]; rfl
    have HC := hide (fun nq => dig_close hp nq _ _ _ he)
    clear he hv
    go_enter Try.func21, Try.ntmps21
    go_wp2
    go_quiet (fail)
    go_wp2
    go_end0
    exact ⟨rfl, HC.out _⟩
  · have hv : num n1 r = 9999 := by unfold num; omega
    have he : pcells ⟨inn, digit ⟨kind, ar, priv, mid, 2, n0, n1, n2, n3, n4, n5, n6, n7⟩ r, any⟩ = ((pcells ⟨inn, ⟨kind, ar, priv, mid, 2, n0, n1, n2, n3, n4, n5, n6, n7⟩, any⟩).setIfInBounds 5 (.int .i64 2)).setIfInBounds 7 (.int .i64 9999) := by rw [dg_2, hv]; rfl
    have HC := hide (fun nq => dig_close hp nq _ _ _ he)
    clear he hv
    go_enter Try.func21, Try.ntmps21
    go_wp2
    go_quiet (fail)
    go_wp2
    go_end0
    exact ⟨rfl, HC.out _⟩

theorem dg_3 (kind ar priv mid n0 n1 n2 n3 n4 n5 n6 n7 r : Int) : digit ⟨kind, ar, priv, mid, 3, n0, n1, n2, n3, n4, n5, n6, n7⟩ r = ⟨kind, ar, priv, mid, 3, n0, n1, num n2 r, n3, n4, n5, n6, n7⟩ := rfl
set_option maxHeartbeats 800000 in
theorem digit_3 (b : Nat) (inn kind ar priv mid n0 n1 n2 n3 n4 n5 n6 n7 : Int) (any : Bool) (r : Int) (w : World) (hp : Ps w b ⟨inn, ⟨kind, ar, priv, mid, 3, n0, n1, n2, n3, n4, n5, n6, n7⟩, any⟩) (h0 : 0 ≤ n2) (h9 : n2 ≤ 9999) (h1 : 48 ≤ r) (h2 : r ≤ 57) :
    Calls Try.prog 21 #[.pointer (some ⟨b, 0, none⟩), .int .i32 r] w fun e w' =>
      e = .returned (.tuple #[]) ∧ Ps w' b ⟨inn, digit ⟨kind, ar, priv, mid, 3, n0, n1, n2, n3, n4, n5, n6, n7⟩ r, any⟩ ∧ w.grownBy w' (some b) := by
  have c5 : w.cell? ⟨b, 5, none⟩ = some (.int .i64 3) := Blk.cell hp 5
  have cn : w.cell? ⟨b, 8, none⟩ = some (.int .i64 n2) := Blk.cell hp 8
  have f5 := Blk.frozen hp 5
  have fn := Blk.frozen hp 8
  rcases (show (n2 * 10 + (r - 48) ≤ 9999) ∨ (9999 < n2 * 10 + (r - 48)) from by omega) with h | h
  · have hv : num n2 r = n2 * 10 + (r - 48) := by unfold num; omega
    have he : pcells ⟨inn, digit ⟨kind, ar, priv, mid, 3, n0, n1, n2, n3, n4, n5, n6, n7⟩ r, any⟩ = ((pcells ⟨inn, ⟨kind, ar, priv, mid, 3, n0, n1, n2, n3, n4, n5, n6, n7⟩, any⟩).setIfInBounds 5 (.int .i64 3)).setIfInBounds 8 (.int .i64 (n2 * 10 + (r - 48))) := by rw [dg_3, hv]; rfl
    have HC := hide (fun nq => dig_close hp nq _ _ _ he)
    clear he hv
    go_enter Try.func21, Try.ntmps21
    go_wp2
    go_quiet (fail)
    go_wp2
    go_end0
    exact ⟨rfl, HC.out _⟩
  · have hv : num n2 r = 9999 := by unfold num; omega
    have he : pcells ⟨inn, digit ⟨kind, ar, priv, mid, 3, n0, n1, n2, n3, n4, n5, n6, n7⟩ r, any⟩ = ((pcells ⟨inn, ⟨kind, ar, priv, mid, 3, n0, n1, n2, n3, n4, n5, n6, n7⟩, any⟩).setIfInBounds 5 (.int .i64 3)).setIfInBounds 8 (.int .i64 9999) := by rw [dg_3, hv]; rfl
    have HC := hide (fun nq => dig_close hp nq _ _ _ he)
    clear he hv
    go_enter Try.func21, Try.ntmps21
    go_wp2
    go_quiet (fail)
    go_wp2
    go_end0
    exact ⟨rfl, HC.out _⟩

theorem dg_4 (kind ar priv mid n0 n1 n2 n3 n4 n5 n6 n7 r : Int) : digit ⟨kind, ar, priv, mid, 4, n0, n1, n2, n3, n4, n5, n6, n7⟩ r = ⟨kind, ar, priv, mid, 4, n0, n1, n2, num n3 r, n4, n5, n6, n7⟩ := rfl
set_option maxHeartbeats 800000 in
theorem digit_4 (b : Nat) (inn kind ar priv mid n0 n1 n2 n3 n4 n5 n6 n7 : Int) (any : Bool) (r : Int) (w : World) (hp : Ps w b ⟨inn, ⟨kind, ar, priv, mid, 4, n0, n1, n2, n3, n4, n5, n6, n7⟩, any⟩) (h0 : 0 ≤ n3) (h9 : n3 ≤ 9999) (h1 : 48 ≤ r) (h2 : r ≤ 57) :
    Calls Try.prog 21 #[.pointer (some ⟨b, 0, none⟩), .int .i32 r] w fun e w' =>
      e = .returned (.tuple #[]) ∧ Ps w' b ⟨inn, digit ⟨kind, ar, priv, mid, 4, n0, n1, n2, n3, n4, n5, n6, n7⟩ r, any⟩ ∧ w.grownBy w' (some b) := by
  have c5 : w.cell? ⟨b, 5, none⟩ = some (.int .i64 4) := Blk.cell hp 5
  have cn : w.cell? ⟨b, 9, none⟩ = some (.int .i64 n3) := Blk.cell hp 9
  have f5 := Blk.frozen hp 5
  have fn := Blk.frozen hp 9
  rcases (show (n3 * 10 + (r - 48) ≤ 9999) ∨ (9999 < n3 * 10 + (r - 48)) from by omega) with h | h
  · have hv : num n3 r = n3 * 10 + (r - 48) := by unfold num; omega
    have he : pcells ⟨inn, digit ⟨kind, ar, priv, mid, 4, n0, n1, n2, n3, n4, n5, n6, n7⟩ r, any⟩ = ((pcells ⟨inn, ⟨kind, ar, priv, mid, 4, n0, n1, n2, n3, n4, n5, n6, n7⟩, any⟩).setIfInBounds 5 (.int .i64 4)).setIfInBounds 9 (.int .i64 (n3 * 10 + (r - 48))) := by rw [dg_4, hv]; rfl
    have HC := hide (fun nq => dig_close hp nq _ _ _ he)
    clear he hv
    go_enter Try.func21, Try.ntmps21
    go_wp2
    go_quiet (fail)
    go_wp2
    go_end0
    exact ⟨rfl, HC.out _⟩
  · have hv : num n3 r = 9999 := by unfold num; omega
    have he : pcells ⟨inn, digit ⟨kind, ar, priv, mid, 4, n0, n1, n2, n3, n4, n5, n6, n7⟩ r, any⟩ = ((pcells ⟨inn, ⟨kind, ar, priv, mid, 4, n0, n1, n2, n3, n4, n5, n6, n7⟩, any⟩).setIfInBounds 5 (.int .i64 4)).setIfInBounds 9 (.int .i64 9999) := by rw [dg_4, hv]; rfl
    have HC := hide (fun nq => dig_close hp nq _ _ _ he)
    clear he hv
    go_enter Try.func21, Try.ntmps21
    go_wp2
    go_quiet (fail)
    go_wp2
    go_end0
    exact ⟨rfl, HC.out _⟩

theorem dg_5 (kind ar priv mid n0 n1 n2 n3 n4 n5 n6 n7 r : Int) : digit ⟨kind, ar, priv, mid, 5, n0, n1, n2, n3, n4, n5, n6, n7⟩ r = ⟨kind, ar, priv, mid, 5, n0, n1, n2, n3, num n4 r, n5, n6, n7⟩ := rfl
set_option maxHeartbeats 800000 in
theorem digit_5 (b : Nat) (inn kind ar priv mid n0 n1 n2 n3 n4 n5 n6 n7 : Int) (any : Bool) (r : Int) (w : World) (hp : Ps w b ⟨inn, ⟨kind, ar, priv, mid, 5, n0, n1, n2, n3, n4, n5, n6, n7⟩, any⟩) (h0 : 0 ≤ n4) (h9 : n4 ≤ 9999) (h1 : 48 ≤ r) (h2 : r ≤ 57) :
    Calls Try.prog 21 #[.pointer (some ⟨b, 0, none⟩), .int .i32 r] w fun e w' =>
      e = .returned (.tuple #[]) ∧ Ps w' b ⟨inn, digit ⟨kind, ar, priv, mid, 5, n0, n1, n2, n3, n4, n5, n6, n7⟩ r, any⟩ ∧ w.grownBy w' (some b) := by
  have c5 : w.cell? ⟨b, 5, none⟩ = some (.int .i64 5) := Blk.cell hp 5
  have cn : w.cell? ⟨b, 10, none⟩ = some (.int .i64 n4) := Blk.cell hp 10
  have f5 := Blk.frozen hp 5
  have fn := Blk.frozen hp 10
  rcases (show (n4 * 10 + (r - 48) ≤ 9999) ∨ (9999 < n4 * 10 + (r - 48)) from by omega) with h | h
  · have hv : num n4 r = n4 * 10 + (r - 48) := by unfold num; omega
    have he : pcells ⟨inn, digit ⟨kind, ar, priv, mid, 5, n0, n1, n2, n3, n4, n5, n6, n7⟩ r, any⟩ = ((pcells ⟨inn, ⟨kind, ar, priv, mid, 5, n0, n1, n2, n3, n4, n5, n6, n7⟩, any⟩).setIfInBounds 5 (.int .i64 5)).setIfInBounds 10 (.int .i64 (n4 * 10 + (r - 48))) := by rw [dg_5, hv]; rfl
    have HC := hide (fun nq => dig_close hp nq _ _ _ he)
    clear he hv
    go_enter Try.func21, Try.ntmps21
    go_wp2
    go_quiet (fail)
    go_wp2
    go_end0
    exact ⟨rfl, HC.out _⟩
  · have hv : num n4 r = 9999 := by unfold num; omega
    have he : pcells ⟨inn, digit ⟨kind, ar, priv, mid, 5, n0, n1, n2, n3, n4, n5, n6, n7⟩ r, any⟩ = ((pcells ⟨inn, ⟨kind, ar, priv, mid, 5, n0, n1, n2, n3, n4, n5, n6, n7⟩, any⟩).setIfInBounds 5 (.int .i64 5)).setIfInBounds 10 (.int .i64 9999) := by rw [dg_5, hv]; rfl
    have HC := hide (fun nq => dig_close hp nq _ _ _ he)
    clear he hv
    go_enter Try.func21, Try.ntmps21
    go_wp2
    go_quiet (fail)
    go_wp2
    go_end0
    exact ⟨rfl, HC.out _⟩

theorem dg_6 (kind ar priv mid n0 n1 n2 n3 n4 n5 n6 n7 r : Int) : digit ⟨kind, ar, priv, mid, 6, n0, n1, n2, n3, n4, n5, n6, n7⟩ r = ⟨kind, ar, priv, mid, 6, n0, n1, n2, n3, n4, num n5 r, n6, n7⟩ := rfl
set_option maxHeartbeats 800000 in
theorem digit_6 (b : Nat) (inn kind ar priv mid n0 n1 n2 n3 n4 n5 n6 n7 : Int) (any : Bool) (r : Int) (w : World) (hp : Ps w b ⟨inn, ⟨kind, ar, priv, mid, 6, n0, n1, n2, n3, n4, n5, n6, n7⟩, any⟩) (h0 : 0 ≤ n5) (h9 : n5 ≤ 9999) (h1 : 48 ≤ r) (h2 : r ≤ 57) :
    Calls Try.prog 21 #[.pointer (some ⟨b, 0, none⟩), .int .i32 r] w fun e w' =>
      e = .returned (.tuple #[]) ∧ Ps w' b ⟨inn, digit ⟨kind, ar, priv, mid, 6, n0, n1, n2, n3, n4, n5, n6, n7⟩ r, any⟩ ∧ w.grownBy w' (some b) := by
  have c5 : w.cell? ⟨b, 5, none⟩ = some (.int .i64 6) := Blk.cell hp 5
  have cn : w.cell? ⟨b, 11, none⟩ = some (.int .i64 n5) := Blk.cell hp 11
  have f5 := Blk.frozen hp 5
  have fn := Blk.frozen hp 11
  rcases (show (n5 * 10 + (r - 48) ≤ 9999) ∨ (9999 < n5 * 10 + (r - 48)) from by omega) with h | h
  · have hv : num n5 r = n5 * 10 + (r - 48) := by unfold num; omega
    have he : pcells ⟨inn, digit ⟨kind, ar, priv, mid, 6, n0, n1, n2, n3, n4, n5, n6, n7⟩ r, any⟩ = ((pcells ⟨inn, ⟨kind, ar, priv, mid, 6, n0, n1, n2, n3, n4, n5, n6, n7⟩, any⟩).setIfInBounds 5 (.int .i64 6)).setIfInBounds 11 (.int .i64 (n5 * 10 + (r - 48))) := by rw [dg_6, hv]; rfl
    have HC := hide (fun nq => dig_close hp nq _ _ _ he)
    clear he hv
    go_enter Try.func21, Try.ntmps21
    go_wp2
    go_quiet (fail)
    go_wp2
    go_end0
    exact ⟨rfl, HC.out _⟩
  · have hv : num n5 r = 9999 := by unfold num; omega
    have he : pcells ⟨inn, digit ⟨kind, ar, priv, mid, 6, n0, n1, n2, n3, n4, n5, n6, n7⟩ r, any⟩ = ((pcells ⟨inn, ⟨kind, ar, priv, mid, 6, n0, n1, n2, n3, n4, n5, n6, n7⟩, any⟩).setIfInBounds 5 (.int .i64 6)).setIfInBounds 11 (.int .i64 9999) := by rw [dg_6, hv]; rfl
    have HC := hide (fun nq => dig_close hp nq _ _ _ he)
    clear he hv
    go_enter Try.func21, Try.ntmps21
    go_wp2
    go_quiet (fail)
    go_wp2
    go_end0
    exact ⟨rfl, HC.out _⟩

theorem dg_7 (kind ar priv mid n0 n1 n2 n3 n4 n5 n6 n7 r : Int) : digit ⟨kind, ar, priv, mid, 7, n0, n1, n2, n3, n4, n5, n6, n7⟩ r = ⟨kind, ar, priv, mid, 7, n0, n1, n2, n3, n4, n5, num n6 r, n7⟩ := rfl
set_option maxHeartbeats 800000 in
theorem digit_7 (b : Nat) (inn kind ar priv mid n0 n1 n2 n3 n4 n5 n6 n7 : Int) (any : Bool) (r : Int) (w : World) (hp : Ps w b ⟨inn, ⟨kind, ar, priv, mid, 7, n0, n1, n2, n3, n4, n5, n6, n7⟩, any⟩) (h0 : 0 ≤ n6) (h9 : n6 ≤ 9999) (h1 : 48 ≤ r) (h2 : r ≤ 57) :
    Calls Try.prog 21 #[.pointer (some ⟨b, 0, none⟩), .int .i32 r] w fun e w' =>
      e = .returned (.tuple #[]) ∧ Ps w' b ⟨inn, digit ⟨kind, ar, priv, mid, 7, n0, n1, n2, n3, n4, n5, n6, n7⟩ r, any⟩ ∧ w.grownBy w' (some b) := by
  have c5 : w.cell? ⟨b, 5, none⟩ = some (.int .i64 7) := Blk.cell hp 5
  have cn : w.cell? ⟨b, 12, none⟩ = some (.int .i64 n6) := Blk.cell hp 12
  have f5 := Blk.frozen hp 5
  have fn := Blk.frozen hp 12
  rcases (show (n6 * 10 + (r - 48) ≤ 9999) ∨ (9999 < n6 * 10 + (r - 48)) from by omega) with h | h
  · have hv : num n6 r = n6 * 10 + (r - 48) := by unfold num; omega
    have he : pcells ⟨inn, digit ⟨kind, ar, priv, mid, 7, n0, n1, n2, n3, n4, n5, n6, n7⟩ r, any⟩ = ((pcells ⟨inn, ⟨kind, ar, priv, mid, 7, n0, n1, n2, n3, n4, n5, n6, n7⟩, any⟩).setIfInBounds 5 (.int .i64 7)).setIfInBounds 12 (.int .i64 (n6 * 10 + (r - 48))) := by rw [dg_7, hv]; rfl
    have HC := hide (fun nq => dig_close hp nq _ _ _ he)
    clear he hv
    go_enter Try.func21, Try.ntmps21
    go_wp2
    go_quiet (fail)
    go_wp2
    go_end0
    exact ⟨rfl, HC.out _⟩
  · have hv : num n6 r = 9999 := by unfold num; omega
    have he : pcells ⟨inn, digit ⟨kind, ar, priv, mid, 7, n0, n1, n2, n3, n4, n5, n6, n7⟩ r, any⟩ = ((pcells ⟨inn, ⟨kind, ar, priv, mid, 7, n0, n1, n2, n3, n4, n5, n6, n7⟩, any⟩).setIfInBounds 5 (.int .i64 7)).setIfInBounds 12 (.int .i64 9999) := by rw [dg_7, hv]; rfl
    have HC := hide (fun nq => dig_close hp nq _ _ _ he)
    clear he hv
    go_enter Try.func21, Try.ntmps21
    go_wp2
    go_quiet (fail)
    go_wp2
    go_end0
    exact ⟨rfl, HC.out _⟩

theorem dg_8 (kind ar priv mid n0 n1 n2 n3 n4 n5 n6 n7 r : Int) : digit ⟨kind, ar, priv, mid, 8, n0, n1, n2, n3, n4, n5, n6, n7⟩ r = ⟨kind, ar, priv, mid, 8, n0, n1, n2, n3, n4, n5, n6, num n7 r⟩ := rfl
set_option maxHeartbeats 800000 in
theorem digit_8 (b : Nat) (inn kind ar priv mid n0 n1 n2 n3 n4 n5 n6 n7 : Int) (any : Bool) (r : Int) (w : World) (hp : Ps w b ⟨inn, ⟨kind, ar, priv, mid, 8, n0, n1, n2, n3, n4, n5, n6, n7⟩, any⟩) (h0 : 0 ≤ n7) (h9 : n7 ≤ 9999) (h1 : 48 ≤ r) (h2 : r ≤ 57) :
    Calls Try.prog 21 #[.pointer (some ⟨b, 0, none⟩), .int .i32 r] w fun e w' =>
      e = .returned (.tuple #[]) ∧ Ps w' b ⟨inn, digit ⟨kind, ar, priv, mid, 8, n0, n1, n2, n3, n4, n5, n6, n7⟩ r, any⟩ ∧ w.grownBy w' (some b) := by
  have c5 : w.cell? ⟨b, 5, none⟩ = some (.int .i64 8) := Blk.cell hp 5
  have cn : w.cell? ⟨b, 13, none⟩ = some (.int .i64 n7) := Blk.cell hp 13
  have f5 := Blk.frozen hp 5
  have fn := Blk.frozen hp 13
  rcases (show (n7 * 10 + (r - 48) ≤ 9999) ∨ (9999 < n7 * 10 + (r - 48)) from by omega) with h | h
  · have hv : num n7 r = n7 * 10 + (r - 48) := by unfold num; omega
    have he : pcells ⟨inn, digit ⟨kind, ar, priv, mid, 8, n0, n1, n2, n3, n4, n5, n6, n7⟩ r, any⟩ = ((pcells ⟨inn, ⟨kind, ar, priv, mid, 8, n0, n1, n2, n3, n4, n5, n6, n7⟩, any⟩).setIfInBounds 5 (.int .i64 8)).setIfInBounds 13 (.int .i64 (n7 * 10 + (r - 48))) := by rw [dg_8, hv]; rfl
    have HC := hide (fun nq => dig_close hp nq _ _ _ he)
    clear he hv
    go_enter Try.func21, Try.ntmps21
    go_wp2
    go_quiet (fail)
    go_wp2
    go_end0
    exact ⟨rfl, HC.out _⟩
  · have hv : num n7 r = 9999 := by unfold num; omega
    have he : pcells ⟨inn, digit ⟨kind, ar, priv, mid, 8, n0, n1, n2, n3, n4, n5, n6, n7⟩ r, any⟩ = ((pcells ⟨inn, ⟨kind, ar, priv, mid, 8, n0, n1, n2, n3, n4, n5, n6, n7⟩, any⟩).setIfInBounds 5 (.int .i64 8)).setIfInBounds 13 (.int .i64 9999) := by rw [dg_8, hv]; rfl
    have HC := hide (fun nq => dig_close hp nq _ _ _ he)
    clear he hv
    go_enter Try.func21, Try.ntmps21
    go_wp2
    go_quiet (fail)
    go_wp2
    go_end0
    exact ⟨rfl, HC.out _⟩

theorem digit_9 (b : Nat) (inn kind ar priv mid n0 n1 n2 n3 n4 n5 n6 n7 : Int) (any : Bool) (r : Int) (w : World) (hp : Ps w b ⟨inn, ⟨kind, ar, priv, mid, 9, n0, n1, n2, n3, n4, n5, n6, n7⟩, any⟩) :
    Calls Try.prog 21 #[.pointer (some ⟨b, 0, none⟩), .int .i32 r] w fun e w' =>
      e = .returned (.tuple #[]) ∧ Ps w' b ⟨inn, digit ⟨kind, ar, priv, mid, 9, n0, n1, n2, n3, n4, n5, n6, n7⟩ r, any⟩ ∧ w.grownBy w' (some b) := by
  have c5 : w.cell? ⟨b, 5, none⟩ = some (.int .i64 9) := Blk.cell hp 5
  have f5 := Blk.frozen hp 5
  go_enter Try.func21, Try.ntmps21
  go_wp2
  go_end0
  have h9 : Blk w b 30 (pcells ⟨inn, ⟨kind, ar, priv, mid, 9, n0, n1, n2, n3, n4, n5, n6, n7⟩, any⟩) := hp
  exact ⟨rfl, Blk.set_ h9 5 _, only_setCell (World.grownBy.refl w _) (.inl rfl) _⟩

theorem digit_any (b : Nat) (p : P) (r : Int) (w : World) (hp : Ps w b p) (hok : Ok p) (h1 : 48 ≤ r) (h2 : r ≤ 57) :
    Calls Try.prog 21 #[.pointer (some ⟨b, 0, none⟩), .int .i32 r] w fun e w' =>
      e = .returned (.tuple #[]) ∧ Ps w' b { p with act := digit p.act r } ∧ w.grownBy w' (some b) := by
  obtain ⟨inn, ⟨kind, ar, priv, mid, n, n0, n1, n2, n3, n4, n5, n6, n7⟩, any⟩ := p
  obtain ⟨⟨a1, a2⟩, _, _, ⟨d0, e0⟩, ⟨d1, e1⟩, ⟨d2, e2⟩, ⟨d3, e3⟩, ⟨d4, e4⟩, ⟨d5, e5⟩, ⟨d6, e6⟩, ⟨d7, e7⟩⟩ := hok
  dsimp only at a1 a2
  have hn : n = 0 ∨ n = 1 ∨ n = 2 ∨ n = 3 ∨ n = 4 ∨ n = 5 ∨ n = 6 ∨ n = 7 ∨ n = 8 ∨ n = 9 := by omega
  rcases hn with rfl | rfl | rfl | rfl | rfl | rfl | rfl | rfl | rfl | rfl
  · exact digit_0 b _ _ _ _ _ _ _ _ _ _ _ _ _ _ r w hp d0 e0 h1 h2
  · exact digit_1 b _ _ _ _ _ _ _ _ _ _ _ _ _ _ r w hp d0 e0 h1 h2
  · exact digit_2 b _ _ _ _ _ _ _ _ _ _ _ _ _ _ r w hp d1 e1 h1 h2
  · exact digit_3 b _ _ _ _ _ _ _ _ _ _ _ _ _ _ r w hp d2 e2 h1 h2
  · exact digit_4 b _ _ _ _ _ _ _ _ _ _ _ _ _ _ r w hp d3 e3 h1 h2
  · exact digit_5 b _ _ _ _ _ _ _ _ _ _ _ _ _ _ r w hp d4 e4 h1 h2
  · exact digit_6 b _ _ _ _ _ _ _ _ _ _ _ _ _ _ r w hp d5 e5 h1 h2
  · exact digit_7 b _ _ _ _ _ _ _ _ _ _ _ _ _ _ r w hp d6 e6 h1 h2
  · exact digit_8 b _ _ _ _ _ _ _ _ _ _ _ _ _ _ r w hp d7 e7 h1 h2
  · exact digit_9 b _ _ _ _ _ _ _ _ _ _ _ _ _ _ r w hp
end Go.Proofs.Ytjjedmmenlfedaa
