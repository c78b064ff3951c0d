/- The walk of second. -/
import Derived.Test.YthfgnjdekhfabaaDoorWalkA
namespace Go.Proofs.YthfgnjdekhfabaaDoor
open Go.RowKit Ru
set_option maxRecDepth 100000

theorem second_224 (b : Nat) (w : World) : Calls Tryd.prog 41 #[.int .u8 224, .int .u8 b] w fun e w' => e = .returned (.bool (second 224 b)) ∧ w = w' := by
  by_cases h1 : b < 160
  · have e : second 224 b = false := by unfold second low high; simp; omega
    rw [e]
    clear e
    go_enter Tryd.func41, Tryd.ntmps41
    go_wp2
    go_ret
    exact ⟨rfl, rfl⟩
  · have e : second 224 b = decide ((b : Int) ≤ 191) := by unfold second low high; apply decide_eq_decide.2; simp; omega
    rw [e]
    clear e
    go_enter Tryd.func41, Tryd.ntmps41
    go_wp2
    go_ret
    exact ⟨rfl, rfl⟩

theorem second_237 (b : Nat) (w : World) : Calls Tryd.prog 41 #[.int .u8 237, .int .u8 b] w fun e w' => e = .returned (.bool (second 237 b)) ∧ w = w' := by
  by_cases h1 : b < 128
  · have e : second 237 b = false := by unfold second low high; simp; omega
    rw [e]
    clear e
    go_enter Tryd.func41, Tryd.ntmps41
    go_wp2
    go_ret
    exact ⟨rfl, rfl⟩
  · have e : second 237 b = decide ((b : Int) ≤ 159) := by unfold second low high; apply decide_eq_decide.2; simp; omega
    rw [e]
    clear e
    go_enter Tryd.func41, Tryd.ntmps41
    go_wp2
    go_ret
    exact ⟨rfl, rfl⟩

theorem second_240 (b : Nat) (w : World) : Calls Tryd.prog 41 #[.int .u8 240, .int .u8 b] w fun e w' => e = .returned (.bool (second 240 b)) ∧ w = w' := by
  by_cases h1 : b < 144
  · have e : second 240 b = false := by unfold second low high; simp; omega
    rw [e]
    clear e
    go_enter Tryd.func41, Tryd.ntmps41
    go_wp2
    go_ret
    exact ⟨rfl, rfl⟩
  · have e : second 240 b = decide ((b : Int) ≤ 191) := by unfold second low high; apply decide_eq_decide.2; simp; omega
    rw [e]
    clear e
    go_enter Tryd.func41, Tryd.ntmps41
    go_wp2
    go_ret
    exact ⟨rfl, rfl⟩

theorem second_244 (b : Nat) (w : World) : Calls Tryd.prog 41 #[.int .u8 244, .int .u8 b] w fun e w' => e = .returned (.bool (second 244 b)) ∧ w = w' := by
  by_cases h1 : b < 128
  · have e : second 244 b = false := by unfold second low high; simp; omega
    rw [e]
    clear e
    go_enter Tryd.func41, Tryd.ntmps41
    go_wp2
    go_ret
    exact ⟨rfl, rfl⟩
  · have e : second 244 b = decide ((b : Int) ≤ 143) := by unfold second low high; apply decide_eq_decide.2; simp; omega
    rw [e]
    clear e
    go_enter Tryd.func41, Tryd.ntmps41
    go_wp2
    go_ret
    exact ⟨rfl, rfl⟩

theorem second_any (f b : Nat) (w : World) : Calls Tryd.prog 41 #[.int .u8 f, .int .u8 b] w fun e w' => e = .returned (.bool (second f b)) ∧ w = w' := by
  by_cases f0 : f = 224
  · subst f0; exact second_224 b w
  by_cases f1 : f = 237
  · subst f1; exact second_237 b w
  by_cases f2 : f = 240
  · subst f2; exact second_240 b w
  by_cases f3 : f = 244
  · subst f3; exact second_244 b w
  have g0 : ((f : Int) == 224) = false := by rw [beq_eq_false_iff_ne]; omega
  have g1 : ((f : Int) == 237) = false := by rw [beq_eq_false_iff_ne]; omega
  have g2 : ((f : Int) == 240) = false := by rw [beq_eq_false_iff_ne]; omega
  have g3 : ((f : Int) == 244) = false := by rw [beq_eq_false_iff_ne]; omega
  by_cases h1 : b < 128
  · have e : second f b = false := by unfold second low high; simp [f0, f1, f2, f3]; omega
    rw [e]
    clear e
    go_enter Tryd.func41, Tryd.ntmps41
    go_wp2
    go_ret
    exact ⟨rfl, rfl⟩
  · have e : second f b = decide ((b : Int) ≤ 191) := by unfold second low high; apply decide_eq_decide.2; simp [f0, f1, f2, f3]; omega
    rw [e]
    clear e
    go_enter Tryd.func41, Tryd.ntmps41
    go_wp2
    go_ret
    exact ⟨rfl, rfl⟩
end Go.Proofs.YthfgnjdekhfabaaDoor
