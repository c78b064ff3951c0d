/- The walks of the document's follows, first. -/
import Derived.Test.YthfgnjdekhfabaaDoorLawS
namespace Go.Proofs.YthfgnjdekhfabaaDoor
open Go.RowKit Ru
set_option maxRecDepth 100000

/-- What follows leaves. -/
def Fol (w : World) (z lo hi : Int) (e : Ending) (w' : World) : Prop := e = .returned (.agg #[.int .i64 z, .int .i64 lo, .int .i64 hi]) ∧ Below w.heap.size w w'

theorem Fol.of {w w' : World} {z lo hi z' lo' hi' : Int} {e : Ending} (h : Fol w z lo hi e w') (h1 : z = z') (h2 : lo = lo') (h3 : hi = hi') : Fol w z' lo' hi' e w' := by
  subst h1 h2 h3
  exact h

theorem follows_any (f : Nat) (z lo hi : Int) (w : World)
    (h : (f < 128 ∧ z = 0 ∧ lo = 128 ∧ hi = 191) ∨ (194 ≤ f ∧ f < 224 ∧ z = 1 ∧ lo = 128 ∧ hi = 191) ∨ (f = 224 ∧ z = 2 ∧ lo = 160 ∧ hi = 191) ∨ (f = 237 ∧ z = 2 ∧ lo = 128 ∧ hi = 159) ∨
      (225 ≤ f ∧ f ≤ 239 ∧ f ≠ 237 ∧ z = 2 ∧ lo = 128 ∧ hi = 191) ∨ (f = 240 ∧ z = 3 ∧ lo = 144 ∧ hi = 191) ∨ (241 ≤ f ∧ f ≤ 243 ∧ z = 3 ∧ lo = 128 ∧ hi = 191) ∨ (f = 244 ∧ z = 3 ∧ lo = 128 ∧ hi = 143) ∨
      (128 ≤ f ∧ f < 194 ∧ z = -1 ∧ lo = 0 ∧ hi = 0) ∨ (244 < f ∧ f < 256 ∧ z = -1 ∧ lo = 0 ∧ hi = 0)) :
    Calls Tryd.prog 33 #[.int .u8 f] w (Fol w z lo hi) := by
  rcases h with ⟨h1, rfl, rfl, rfl⟩ | ⟨h1, h2, rfl, rfl, rfl⟩ | ⟨rfl, rfl, rfl, rfl⟩ | ⟨rfl, rfl, rfl, rfl⟩ | ⟨h1, h2, h3, rfl, rfl, rfl⟩ | ⟨rfl, rfl, rfl, rfl⟩ | ⟨h1, h2, rfl, rfl, rfl⟩ | ⟨rfl, rfl, rfl, rfl⟩ | ⟨h1, h2, rfl, rfl, rfl⟩ | ⟨h1, h2, rfl, rfl, rfl⟩
  · go_enter Tryd.func33, Tryd.ntmps33
    go_wp2
    exact bodyPost_ret (v := .agg #[.int .i64 0, .int .i64 128, .int .i64 191]) (by simp [results, Tryd.results33, go_sem]) rfl ⟨rfl, (Below.refl _ _).alloc (Nat.le_refl _) _⟩
  · go_enter Tryd.func33, Tryd.ntmps33
    go_wp2
    exact bodyPost_ret (v := .agg #[.int .i64 1, .int .i64 128, .int .i64 191]) (by simp [results, Tryd.results33, go_sem]) rfl ⟨rfl, (Below.refl _ _).alloc (Nat.le_refl _) _⟩
  · go_enter Tryd.func33, Tryd.ntmps33
    go_wp2
    exact bodyPost_ret (v := .agg #[.int .i64 2, .int .i64 160, .int .i64 191]) (by simp [results, Tryd.results33, go_sem]) rfl ⟨rfl, (Below.refl _ _).alloc (Nat.le_refl _) _⟩
  · go_enter Tryd.func33, Tryd.ntmps33
    go_wp2
    exact bodyPost_ret (v := .agg #[.int .i64 2, .int .i64 128, .int .i64 159]) (by simp [results, Tryd.results33, go_sem]) rfl ⟨rfl, (Below.refl _ _).alloc (Nat.le_refl _) _⟩
  · have a1 : ((f : Int) == 224) = false := by rw [beq_eq_false_iff_ne]; omega
    have a2 : ((f : Int) == 237) = false := by rw [beq_eq_false_iff_ne]; omega
    go_enter Tryd.func33, Tryd.ntmps33
    go_wp2
    exact bodyPost_ret (v := .agg #[.int .i64 2, .int .i64 128, .int .i64 191]) (by simp [results, Tryd.results33, go_sem]) rfl ⟨rfl, (Below.refl _ _).alloc (Nat.le_refl _) _⟩
  · go_enter Tryd.func33, Tryd.ntmps33
    go_wp2
    exact bodyPost_ret (v := .agg #[.int .i64 3, .int .i64 144, .int .i64 191]) (by simp [results, Tryd.results33, go_sem]) rfl ⟨rfl, (Below.refl _ _).alloc (Nat.le_refl _) _⟩
  · have a1 : ((f : Int) == 224) = false := by rw [beq_eq_false_iff_ne]; omega
    have a2 : ((f : Int) == 237) = false := by rw [beq_eq_false_iff_ne]; omega
    have a3 : ((f : Int) == 240) = false := by rw [beq_eq_false_iff_ne]; omega
    go_enter Tryd.func33, Tryd.ntmps33
    go_wp2
    exact bodyPost_ret (v := .agg #[.int .i64 3, .int .i64 128, .int .i64 191]) (by simp [results, Tryd.results33, go_sem]) rfl ⟨rfl, (Below.refl _ _).alloc (Nat.le_refl _) _⟩
  · go_enter Tryd.func33, Tryd.ntmps33
    go_wp2
    exact bodyPost_ret (v := .agg #[.int .i64 3, .int .i64 128, .int .i64 143]) (by simp [results, Tryd.results33, go_sem]) rfl ⟨rfl, (Below.refl _ _).alloc (Nat.le_refl _) _⟩
  · have a1 : ((f : Int) == 224) = false := by rw [beq_eq_false_iff_ne]; omega
    have a2 : ((f : Int) == 237) = false := by rw [beq_eq_false_iff_ne]; omega
    have a3 : ((f : Int) == 240) = false := by rw [beq_eq_false_iff_ne]; omega
    have a4 : ((f : Int) == 244) = false := by rw [beq_eq_false_iff_ne]; omega
    go_enter Tryd.func33, Tryd.ntmps33
    go_wp2
    exact bodyPost_ret (v := .agg #[.int .i64 (-1), .int .i64 0, .int .i64 0]) (by simp [results, Tryd.results33, go_sem]) rfl ⟨rfl, (Below.refl _ _).alloc (Nat.le_refl _) _⟩
  · have a1 : ((f : Int) == 224) = false := by rw [beq_eq_false_iff_ne]; omega
    have a2 : ((f : Int) == 237) = false := by rw [beq_eq_false_iff_ne]; omega
    have a3 : ((f : Int) == 240) = false := by rw [beq_eq_false_iff_ne]; omega
    have a4 : ((f : Int) == 244) = false := by rw [beq_eq_false_iff_ne]; omega
    go_enter Tryd.func33, Tryd.ntmps33
    go_wp2
    exact bodyPost_ret (v := .agg #[.int .i64 (-1), .int .i64 0, .int .i64 0]) (by simp [results, Tryd.results33, go_sem]) rfl ⟨rfl, (Below.refl _ _).alloc (Nat.le_refl _) _⟩
end Go.Proofs.YthfgnjdekhfabaaDoor
