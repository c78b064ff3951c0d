/- The walk of short. -/
import Derived.Test.YtgjbieafjagchaaDoorWalkE
namespace Go.Proofs.YtgjbieafjagchaaDoor
open Go.RowKit Go.Lib Keys
set_option maxRecDepth 100000

/-- A text of at most n bytes. -/
def sh (s : ByteArray) (n : Nat) : ByteArray := if n < s.size then s.extract 0 n else s

theorem sh_size (s : ByteArray) (n : Nat) : (sh s n).size ≤ n := by
  unfold sh
  split
  · simp; omega
  · omega

theorem short_any (s : ByteArray) (n : Nat) (w : World) : Calls Tryd.prog 5 #[.string s, .int .i64 n] w fun e w' => e = .returned (.string (sh s n)) ∧ w = w' := by
  by_cases h : n < s.size
  · have e : sh s n = s.extract 0 n := by unfold sh; rw [if_pos h]
    rw [e]
    clear e
    go_enter Tryd.func5, Tryd.ntmps5
    go_wp2
    go_ret
    exact ⟨rfl, rfl⟩
  · have e : sh s n = s := by unfold sh; rw [if_neg h]
    rw [e]
    clear e
    go_enter Tryd.func5, Tryd.ntmps5
    go_wp2
    go_ret
    exact ⟨rfl, rfl⟩
end Go.Proofs.YtgjbieafjagchaaDoor
