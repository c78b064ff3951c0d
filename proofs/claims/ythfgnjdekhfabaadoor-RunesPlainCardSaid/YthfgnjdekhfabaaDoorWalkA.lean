/- The walks of second, size. -/
import Derived.Test.YthfgnjdekhfabaaDoorRows
import Derived.Test.YthfgnjdekhfabaaDoorPlain
import Derived.Test.YthfgnjdekhfabaaDoorWords
import Derived.WalkLawsBesides
import Derived.Outline
import Derived.BigQuiet
import Derived.BigRegion
namespace Go.Proofs.YthfgnjdekhfabaaDoor
open Go.RowKit Ru
set_option maxRecDepth 100000

theorem size_any (f : Nat) (w : World) : Calls Tryd.prog 37 #[.int .u8 f] w fun e w' => e = .returned (.int .i64 (size f)) ∧ w = w' := by
  by_cases h1 : f < 128
  · have e : size f = 1 := by unfold size; rw [if_pos h1]
    rw [e]
    clear e
    go_enter Tryd.func37, Tryd.ntmps37
    go_wp2
    go_ret
    exact ⟨rfl, rfl⟩
  · by_cases h2 : f < 194
    · have e : size f = 0 := by unfold size; rw [if_neg h1, if_pos (.inl h2)]
      rw [e]
      clear e
      go_enter Tryd.func37, Tryd.ntmps37
      go_wp2
      go_ret
      exact ⟨rfl, rfl⟩
    · by_cases h3 : 244 < f
      · have e : size f = 0 := by unfold size; rw [if_neg h1, if_pos (.inr h3)]
        rw [e]
        clear e
        go_enter Tryd.func37, Tryd.ntmps37
        go_wp2
        go_ret
        exact ⟨rfl, rfl⟩
      · by_cases h4 : f < 224
        · have e : size f = 2 := by unfold size; rw [if_neg h1, if_neg (by omega), if_pos h4]
          rw [e]
          clear e
          go_enter Tryd.func37, Tryd.ntmps37
          go_wp2
          go_ret
          exact ⟨rfl, rfl⟩
        · by_cases h5 : f < 240
          · have e : size f = 3 := by unfold size; rw [if_neg h1, if_neg (by omega), if_neg h4, if_pos h5]
            rw [e]
            clear e
            go_enter Tryd.func37, Tryd.ntmps37
            go_wp2
            go_ret
            exact ⟨rfl, rfl⟩
          · have e : size f = 4 := by unfold size; rw [if_neg h1, if_neg (by omega), if_neg h4, if_neg h5]
            rw [e]
            clear e
            go_enter Tryd.func37, Tryd.ntmps37
            go_wp2
            go_ret
            exact ⟨rfl, rfl⟩
end Go.Proofs.YthfgnjdekhfabaaDoor
