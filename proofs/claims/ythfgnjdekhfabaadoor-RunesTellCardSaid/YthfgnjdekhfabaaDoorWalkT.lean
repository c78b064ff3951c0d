/- The walks of the document's within, Width. (Printed by gen_t.py.) -/
import Derived.Test.YthfgnjdekhfabaaDoorWalkS
namespace Go.Proofs.YthfgnjdekhfabaaDoor
open Go.RowKit Ru
set_option maxRecDepth 100000

namespace Ru
/-- Is a character from one on, up to another one? -/
def wi (r lo hi : Int) : Bool := decide (lo ≤ r) && decide (r ≤ hi)
end Ru

theorem within_any (r lo hi : Int) (w : World) (hr0 : 0 ≤ r) (hr1 : r ≤ 1114111) : Calls Tryd.prog 31 #[.int .i32 r, .int .i64 lo, .int .i64 hi] w fun e w' => e = .returned (.bool (wi r lo hi)) ∧ w = w' := by
  unfold wi
  by_cases h1 : lo ≤ r
  · by_cases h2 : r ≤ hi
    · rw [decide_eq_true h1, decide_eq_true h2, Bool.and_true]
      go_enter Tryd.func31, Tryd.ntmps31
      go_wp2
      go_ret
      exact ⟨rfl, rfl⟩
    · have h2' := decide_eq_false h2
      rw [decide_eq_true h1, h2', Bool.and_false]
      go_enter Tryd.func31, Tryd.ntmps31
      go_wp2
      go_ret
      exact ⟨rfl, rfl⟩
  · have h1' := decide_eq_false h1
    rw [h1', Bool.false_and]
    go_enter Tryd.func31, Tryd.ntmps31
    go_wp2
    go_ret
    exact ⟨rfl, rfl⟩

theorem none_in (r : Int) : inS r noneL = (wi r 0 31 || (wi r 127 159 || (wi r 768 879 || (wi r 8203 8207 || (wi r 65024 65039 || false))))) := rfl
theorem wide_in (r : Int) : inS r wideL = (wi r 4352 4447 || (wi r 11904 12350 || (wi r 12353 42191 || (wi r 44032 55203 || (wi r 63744 64255 || (wi r 65072 65135 || (wi r 65281 65376 || (wi r 65504 65510 || (wi r 127744 128591 || (wi r 129280 129535 || (wi r 131072 262141 || false))))))))))) := rfl

theorem RWidth_bad (r : Int) (w : World) (hk : r < 0 ∨ 1114111 < r ∨ (55296 ≤ r ∧ r ≤ 57343)) : Calls Tryd.prog 22 #[.int .i32 r] w fun e w' => e = .returned (.int .i64 0) ∧ w = w' := by
  have HN := hide (none_yes r w hk)
  clear hk
  go_enter Tryd.func22, Tryd.ntmps22
  go_wp2_with fail
  refine HN.out.mono ?_
  rintro e w1 ⟨rfl, rfl⟩
  dsimp only
  go_wp2
  go_ret
  exact ⟨rfl, rfl⟩
theorem RWidth_low (r : Int) (w : World) (hk : (0 ≤ r ∧ r < 55296) ∨ (57343 < r ∧ r ≤ 1114111)) (h0 : decide (r < 32) = true) : Calls Tryd.prog 22 #[.int .i32 r] w fun e w' => e = .returned (.int .i64 0) ∧ w = w' := by
  have HN := hide (none_no r w hk)
  have hr0 : 0 ≤ r := by omega
  have hr1 : r ≤ 1114111 := by omega
  clear hk
  go_enter Tryd.func22, Tryd.ntmps22
  go_wp2_with fail
  refine HN.out.mono ?_
  rintro e w1 ⟨rfl, rfl⟩
  dsimp only
  go_wp2_with (go_at_call 31; refine (within_any _ _ _ _ hr0 hr1).mono ?_; rintro e w2 ⟨rfl, rfl⟩)
  go_ret
  exact ⟨rfl, rfl⟩
theorem RWidth_n0 (r : Int) (w : World) (hk : (0 ≤ r ∧ r < 55296) ∨ (57343 < r ∧ r ≤ 1114111)) (h0 : decide (r < 32) = false) (n0 : wi r 127 159 = true) : Calls Tryd.prog 22 #[.int .i32 r] w fun e w' => e = .returned (.int .i64 0) ∧ w = w' := by
  have HN := hide (none_no r w hk)
  have hr0 : 0 ≤ r := by omega
  have hr1 : r ≤ 1114111 := by omega
  clear hk
  go_enter Tryd.func22, Tryd.ntmps22
  go_wp2_with fail
  refine HN.out.mono ?_
  rintro e w1 ⟨rfl, rfl⟩
  dsimp only
  go_wp2_with (go_at_call 31; refine (within_any _ _ _ _ hr0 hr1).mono ?_; rintro e w2 ⟨rfl, rfl⟩)
  go_ret
  exact ⟨rfl, rfl⟩
theorem RWidth_n1 (r : Int) (w : World) (hk : (0 ≤ r ∧ r < 55296) ∨ (57343 < r ∧ r ≤ 1114111)) (h0 : decide (r < 32) = false) (n0 : wi r 127 159 = false) (n1 : wi r 768 879 = true) : Calls Tryd.prog 22 #[.int .i32 r] w fun e w' => e = .returned (.int .i64 0) ∧ w = w' := by
  have HN := hide (none_no r w hk)
  have hr0 : 0 ≤ r := by omega
  have hr1 : r ≤ 1114111 := by omega
  clear hk
  go_enter Tryd.func22, Tryd.ntmps22
  go_wp2_with fail
  refine HN.out.mono ?_
  rintro e w1 ⟨rfl, rfl⟩
  dsimp only
  go_wp2_with (go_at_call 31; refine (within_any _ _ _ _ hr0 hr1).mono ?_; rintro e w2 ⟨rfl, rfl⟩)
  go_ret
  exact ⟨rfl, rfl⟩
theorem RWidth_n2 (r : Int) (w : World) (hk : (0 ≤ r ∧ r < 55296) ∨ (57343 < r ∧ r ≤ 1114111)) (h0 : decide (r < 32) = false) (n0 : wi r 127 159 = false) (n1 : wi r 768 879 = false) (n2 : wi r 8203 8207 = true) : Calls Tryd.prog 22 #[.int .i32 r] w fun e w' => e = .returned (.int .i64 0) ∧ w = w' := by
  have HN := hide (none_no r w hk)
  have hr0 : 0 ≤ r := by omega
  have hr1 : r ≤ 1114111 := by omega
  clear hk
  go_enter Tryd.func22, Tryd.ntmps22
  go_wp2_with fail
  refine HN.out.mono ?_
  rintro e w1 ⟨rfl, rfl⟩
  dsimp only
  go_wp2_with (go_at_call 31; refine (within_any _ _ _ _ hr0 hr1).mono ?_; rintro e w2 ⟨rfl, rfl⟩)
  go_ret
  exact ⟨rfl, rfl⟩
theorem RWidth_n3 (r : Int) (w : World) (hk : (0 ≤ r ∧ r < 55296) ∨ (57343 < r ∧ r ≤ 1114111)) (h0 : decide (r < 32) = false) (n0 : wi r 127 159 = false) (n1 : wi r 768 879 = false) (n2 : wi r 8203 8207 = false) (n3 : wi r 65024 65039 = true) : Calls Tryd.prog 22 #[.int .i32 r] w fun e w' => e = .returned (.int .i64 0) ∧ w = w' := by
  have HN := hide (none_no r w hk)
  have hr0 : 0 ≤ r := by omega
  have hr1 : r ≤ 1114111 := by omega
  clear hk
  go_enter Tryd.func22, Tryd.ntmps22
  go_wp2_with fail
  refine HN.out.mono ?_
  rintro e w1 ⟨rfl, rfl⟩
  dsimp only
  go_wp2_with (go_at_call 31; refine (within_any _ _ _ _ hr0 hr1).mono ?_; rintro e w2 ⟨rfl, rfl⟩)
  go_ret
  exact ⟨rfl, rfl⟩
theorem RWidth_w0 (r : Int) (w : World) (hk : (0 ≤ r ∧ r < 55296) ∨ (57343 < r ∧ r ≤ 1114111)) (h0 : decide (r < 32) = false) (n0 : wi r 127 159 = false) (n1 : wi r 768 879 = false) (n2 : wi r 8203 8207 = false) (n3 : wi r 65024 65039 = false) (v0 : wi r 4352 4447 = true) : Calls Tryd.prog 22 #[.int .i32 r] w fun e w' => e = .returned (.int .i64 2) ∧ w = w' := by
  have HN := hide (none_no r w hk)
  have hr0 : 0 ≤ r := by omega
  have hr1 : r ≤ 1114111 := by omega
  clear hk
  go_enter Tryd.func22, Tryd.ntmps22
  go_wp2_with fail
  refine HN.out.mono ?_
  rintro e w1 ⟨rfl, rfl⟩
  dsimp only
  go_wp2_with (go_at_call 31; refine (within_any _ _ _ _ hr0 hr1).mono ?_; rintro e w2 ⟨rfl, rfl⟩)
  go_ret
  exact ⟨rfl, rfl⟩
theorem RWidth_w1 (r : Int) (w : World) (hk : (0 ≤ r ∧ r < 55296) ∨ (57343 < r ∧ r ≤ 1114111)) (h0 : decide (r < 32) = false) (n0 : wi r 127 159 = false) (n1 : wi r 768 879 = false) (n2 : wi r 8203 8207 = false) (n3 : wi r 65024 65039 = false) (v0 : wi r 4352 4447 = false) (v1 : wi r 11904 12350 = true) : Calls Tryd.prog 22 #[.int .i32 r] w fun e w' => e = .returned (.int .i64 2) ∧ w = w' := by
  have HN := hide (none_no r w hk)
  have hr0 : 0 ≤ r := by omega
  have hr1 : r ≤ 1114111 := by omega
  clear hk
  go_enter Tryd.func22, Tryd.ntmps22
  go_wp2_with fail
  refine HN.out.mono ?_
  rintro e w1 ⟨rfl, rfl⟩
  dsimp only
  go_wp2_with (go_at_call 31; refine (within_any _ _ _ _ hr0 hr1).mono ?_; rintro e w2 ⟨rfl, rfl⟩)
  go_ret
  exact ⟨rfl, rfl⟩
theorem RWidth_w2 (r : Int) (w : World) (hk : (0 ≤ r ∧ r < 55296) ∨ (57343 < r ∧ r ≤ 1114111)) (h0 : decide (r < 32) = false) (n0 : wi r 127 159 = false) (n1 : wi r 768 879 = false) (n2 : wi r 8203 8207 = false) (n3 : wi r 65024 65039 = false) (v0 : wi r 4352 4447 = false) (v1 : wi r 11904 12350 = false) (v2 : wi r 12353 42191 = true) : Calls Tryd.prog 22 #[.int .i32 r] w fun e w' => e = .returned (.int .i64 2) ∧ w = w' := by
  have HN := hide (none_no r w hk)
  have hr0 : 0 ≤ r := by omega
  have hr1 : r ≤ 1114111 := by omega
  clear hk
  go_enter Tryd.func22, Tryd.ntmps22
  go_wp2_with fail
  refine HN.out.mono ?_
  rintro e w1 ⟨rfl, rfl⟩
  dsimp only
  go_wp2_with (go_at_call 31; refine (within_any _ _ _ _ hr0 hr1).mono ?_; rintro e w2 ⟨rfl, rfl⟩)
  go_ret
  exact ⟨rfl, rfl⟩
theorem RWidth_w3 (r : Int) (w : World) (hk : (0 ≤ r ∧ r < 55296) ∨ (57343 < r ∧ r ≤ 1114111)) (h0 : decide (r < 32) = false) (n0 : wi r 127 159 = false) (n1 : wi r 768 879 = false) (n2 : wi r 8203 8207 = false) (n3 : wi r 65024 65039 = false) (v0 : wi r 4352 4447 = false) (v1 : wi r 11904 12350 = false) (v2 : wi r 12353 42191 = false) (v3 : wi r 44032 55203 = true) : Calls Tryd.prog 22 #[.int .i32 r] w fun e w' => e = .returned (.int .i64 2) ∧ w = w' := by
  have HN := hide (none_no r w hk)
  have hr0 : 0 ≤ r := by omega
  have hr1 : r ≤ 1114111 := by omega
  clear hk
  go_enter Tryd.func22, Tryd.ntmps22
  go_wp2_with fail
  refine HN.out.mono ?_
  rintro e w1 ⟨rfl, rfl⟩
  dsimp only
  go_wp2_with (go_at_call 31; refine (within_any _ _ _ _ hr0 hr1).mono ?_; rintro e w2 ⟨rfl, rfl⟩)
  go_ret
  exact ⟨rfl, rfl⟩
theorem RWidth_w4 (r : Int) (w : World) (hk : (0 ≤ r ∧ r < 55296) ∨ (57343 < r ∧ r ≤ 1114111)) (h0 : decide (r < 32) = false) (n0 : wi r 127 159 = false) (n1 : wi r 768 879 = false) (n2 : wi r 8203 8207 = false) (n3 : wi r 65024 65039 = false) (v0 : wi r 4352 4447 = false) (v1 : wi r 11904 12350 = false) (v2 : wi r 12353 42191 = false) (v3 : wi r 44032 55203 = false) (v4 : wi r 63744 64255 = true) : Calls Tryd.prog 22 #[.int .i32 r] w fun e w' => e = .returned (.int .i64 2) ∧ w = w' := by
  have HN := hide (none_no r w hk)
  have hr0 : 0 ≤ r := by omega
  have hr1 : r ≤ 1114111 := by omega
  clear hk
  go_enter Tryd.func22, Tryd.ntmps22
  go_wp2_with fail
  refine HN.out.mono ?_
  rintro e w1 ⟨rfl, rfl⟩
  dsimp only
  go_wp2_with (go_at_call 31; refine (within_any _ _ _ _ hr0 hr1).mono ?_; rintro e w2 ⟨rfl, rfl⟩)
  go_ret
  exact ⟨rfl, rfl⟩
theorem RWidth_w5 (r : Int) (w : World) (hk : (0 ≤ r ∧ r < 55296) ∨ (57343 < r ∧ r ≤ 1114111)) (h0 : decide (r < 32) = false) (n0 : wi r 127 159 = false) (n1 : wi r 768 879 = false) (n2 : wi r 8203 8207 = false) (n3 : wi r 65024 65039 = false) (v0 : wi r 4352 4447 = false) (v1 : wi r 11904 12350 = false) (v2 : wi r 12353 42191 = false) (v3 : wi r 44032 55203 = false) (v4 : wi r 63744 64255 = false) (v5 : wi r 65072 65135 = true) : Calls Tryd.prog 22 #[.int .i32 r] w fun e w' => e = .returned (.int .i64 2) ∧ w = w' := by
  have HN := hide (none_no r w hk)
  have hr0 : 0 ≤ r := by omega
  have hr1 : r ≤ 1114111 := by omega
  clear hk
  go_enter Tryd.func22, Tryd.ntmps22
  go_wp2_with fail
  refine HN.out.mono ?_
  rintro e w1 ⟨rfl, rfl⟩
  dsimp only
  go_wp2_with (go_at_call 31; refine (within_any _ _ _ _ hr0 hr1).mono ?_; rintro e w2 ⟨rfl, rfl⟩)
  go_ret
  exact ⟨rfl, rfl⟩
theorem RWidth_w6 (r : Int) (w : World) (hk : (0 ≤ r ∧ r < 55296) ∨ (57343 < r ∧ r ≤ 1114111)) (h0 : decide (r < 32) = false) (n0 : wi r 127 159 = false) (n1 : wi r 768 879 = false) (n2 : wi r 8203 8207 = false) (n3 : wi r 65024 65039 = false) (v0 : wi r 4352 4447 = false) (v1 : wi r 11904 12350 = false) (v2 : wi r 12353 42191 = false) (v3 : wi r 44032 55203 = false) (v4 : wi r 63744 64255 = false) (v5 : wi r 65072 65135 = false) (v6 : wi r 65281 65376 = true) : Calls Tryd.prog 22 #[.int .i32 r] w fun e w' => e = .returned (.int .i64 2) ∧ w = w' := by
  have HN := hide (none_no r w hk)
  have hr0 : 0 ≤ r := by omega
  have hr1 : r ≤ 1114111 := by omega
  clear hk
  go_enter Tryd.func22, Tryd.ntmps22
  go_wp2_with fail
  refine HN.out.mono ?_
  rintro e w1 ⟨rfl, rfl⟩
  dsimp only
  go_wp2_with (go_at_call 31; refine (within_any _ _ _ _ hr0 hr1).mono ?_; rintro e w2 ⟨rfl, rfl⟩)
  go_ret
  exact ⟨rfl, rfl⟩
theorem RWidth_w7 (r : Int) (w : World) (hk : (0 ≤ r ∧ r < 55296) ∨ (57343 < r ∧ r ≤ 1114111)) (h0 : decide (r < 32) = false) (n0 : wi r 127 159 = false) (n1 : wi r 768 879 = false) (n2 : wi r 8203 8207 = false) (n3 : wi r 65024 65039 = false) (v0 : wi r 4352 4447 = false) (v1 : wi r 11904 12350 = false) (v2 : wi r 12353 42191 = false) (v3 : wi r 44032 55203 = false) (v4 : wi r 63744 64255 = false) (v5 : wi r 65072 65135 = false) (v6 : wi r 65281 65376 = false) (v7 : wi r 65504 65510 = true) : Calls Tryd.prog 22 #[.int .i32 r] w fun e w' => e = .returned (.int .i64 2) ∧ w = w' := by
  have HN := hide (none_no r w hk)
  have hr0 : 0 ≤ r := by omega
  have hr1 : r ≤ 1114111 := by omega
  clear hk
  go_enter Tryd.func22, Tryd.ntmps22
  go_wp2_with fail
  refine HN.out.mono ?_
  rintro e w1 ⟨rfl, rfl⟩
  dsimp only
  go_wp2_with (go_at_call 31; refine (within_any _ _ _ _ hr0 hr1).mono ?_; rintro e w2 ⟨rfl, rfl⟩)
  go_ret
  exact ⟨rfl, rfl⟩
theorem RWidth_w8 (r : Int) (w : World) (hk : (0 ≤ r ∧ r < 55296) ∨ (57343 < r ∧ r ≤ 1114111)) (h0 : decide (r < 32) = false) (n0 : wi r 127 159 = false) (n1 : wi r 768 879 = false) (n2 : wi r 8203 8207 = false) (n3 : wi r 65024 65039 = false) (v0 : wi r 4352 4447 = false) (v1 : wi r 11904 12350 = false) (v2 : wi r 12353 42191 = false) (v3 : wi r 44032 55203 = false) (v4 : wi r 63744 64255 = false) (v5 : wi r 65072 65135 = false) (v6 : wi r 65281 65376 = false) (v7 : wi r 65504 65510 = false) (v8 : wi r 127744 128591 = true) : Calls Tryd.prog 22 #[.int .i32 r] w fun e w' => e = .returned (.int .i64 2) ∧ w = w' := by
  have HN := hide (none_no r w hk)
  have hr0 : 0 ≤ r := by omega
  have hr1 : r ≤ 1114111 := by omega
  clear hk
  go_enter Tryd.func22, Tryd.ntmps22
  go_wp2_with fail
  refine HN.out.mono ?_
  rintro e w1 ⟨rfl, rfl⟩
  dsimp only
  go_wp2_with (go_at_call 31; refine (within_any _ _ _ _ hr0 hr1).mono ?_; rintro e w2 ⟨rfl, rfl⟩)
  go_ret
  exact ⟨rfl, rfl⟩
theorem RWidth_w9 (r : Int) (w : World) (hk : (0 ≤ r ∧ r < 55296) ∨ (57343 < r ∧ r ≤ 1114111)) (h0 : decide (r < 32) = false) (n0 : wi r 127 159 = false) (n1 : wi r 768 879 = false) (n2 : wi r 8203 8207 = false) (n3 : wi r 65024 65039 = false) (v0 : wi r 4352 4447 = false) (v1 : wi r 11904 12350 = false) (v2 : wi r 12353 42191 = false) (v3 : wi r 44032 55203 = false) (v4 : wi r 63744 64255 = false) (v5 : wi r 65072 65135 = false) (v6 : wi r 65281 65376 = false) (v7 : wi r 65504 65510 = false) (v8 : wi r 127744 128591 = false) (v9 : wi r 129280 129535 = true) : Calls Tryd.prog 22 #[.int .i32 r] w fun e w' => e = .returned (.int .i64 2) ∧ w = w' := by
  have HN := hide (none_no r w hk)
  have hr0 : 0 ≤ r := by omega
  have hr1 : r ≤ 1114111 := by omega
  clear hk
  go_enter Tryd.func22, Tryd.ntmps22
  go_wp2_with fail
  refine HN.out.mono ?_
  rintro e w1 ⟨rfl, rfl⟩
  dsimp only
  go_wp2_with (go_at_call 31; refine (within_any _ _ _ _ hr0 hr1).mono ?_; rintro e w2 ⟨rfl, rfl⟩)
  go_ret
  exact ⟨rfl, rfl⟩
theorem RWidth_w10 (r : Int) (w : World) (hk : (0 ≤ r ∧ r < 55296) ∨ (57343 < r ∧ r ≤ 1114111)) (h0 : decide (r < 32) = false) (n0 : wi r 127 159 = false) (n1 : wi r 768 879 = false) (n2 : wi r 8203 8207 = false) (n3 : wi r 65024 65039 = false) (v0 : wi r 4352 4447 = false) (v1 : wi r 11904 12350 = false) (v2 : wi r 12353 42191 = false) (v3 : wi r 44032 55203 = false) (v4 : wi r 63744 64255 = false) (v5 : wi r 65072 65135 = false) (v6 : wi r 65281 65376 = false) (v7 : wi r 65504 65510 = false) (v8 : wi r 127744 128591 = false) (v9 : wi r 129280 129535 = false) (v10 : wi r 131072 262141 = true) : Calls Tryd.prog 22 #[.int .i32 r] w fun e w' => e = .returned (.int .i64 2) ∧ w = w' := by
  have HN := hide (none_no r w hk)
  have hr0 : 0 ≤ r := by omega
  have hr1 : r ≤ 1114111 := by omega
  clear hk
  go_enter Tryd.func22, Tryd.ntmps22
  go_wp2_with fail
  refine HN.out.mono ?_
  rintro e w1 ⟨rfl, rfl⟩
  dsimp only
  go_wp2_with (go_at_call 31; refine (within_any _ _ _ _ hr0 hr1).mono ?_; rintro e w2 ⟨rfl, rfl⟩)
  go_ret
  exact ⟨rfl, rfl⟩
theorem RWidth_one (r : Int) (w : World) (hk : (0 ≤ r ∧ r < 55296) ∨ (57343 < r ∧ r ≤ 1114111)) (h0 : decide (r < 32) = false) (n0 : wi r 127 159 = false) (n1 : wi r 768 879 = false) (n2 : wi r 8203 8207 = false) (n3 : wi r 65024 65039 = false) (v0 : wi r 4352 4447 = false) (v1 : wi r 11904 12350 = false) (v2 : wi r 12353 42191 = false) (v3 : wi r 44032 55203 = false) (v4 : wi r 63744 64255 = false) (v5 : wi r 65072 65135 = false) (v6 : wi r 65281 65376 = false) (v7 : wi r 65504 65510 = false) (v8 : wi r 127744 128591 = false) (v9 : wi r 129280 129535 = false) (v10 : wi r 131072 262141 = false) : Calls Tryd.prog 22 #[.int .i32 r] w fun e w' => e = .returned (.int .i64 1) ∧ w = w' := by
  have HN := hide (none_no r w hk)
  have hr0 : 0 ≤ r := by omega
  have hr1 : r ≤ 1114111 := by omega
  clear hk
  go_enter Tryd.func22, Tryd.ntmps22
  go_wp2_with fail
  refine HN.out.mono ?_
  rintro e w1 ⟨rfl, rfl⟩
  dsimp only
  go_wp2_with (go_at_call 31; refine (within_any _ _ _ _ hr0 hr1).mono ?_; rintro e w2 ⟨rfl, rfl⟩)
  go_ret
  exact ⟨rfl, rfl⟩

theorem RWidth_any (r : Int) (w : World) : Calls Tryd.prog 22 #[.int .i32 r] w fun e w' => e = .returned (.int .i64 (wid r)) ∧ w = w' := by
  by_cases hb : r < 0 ∨ 1114111 < r ∨ (55296 ≤ r ∧ r ≤ 57343)
  · have hv : Lib.validRune r = false := decide_eq_false (by omega)
    have hw : wid r = 0 := by unfold wid; rw [if_pos (.inl hv)]
    rw [hw]
    exact RWidth_bad r w hb
  · have hk : (0 ≤ r ∧ r < 55296) ∨ (57343 < r ∧ r ≤ 1114111) := by omega
    have hv : Lib.validRune r = true := decide_eq_true (by omega)
    cases h0 : decide (r < 32) with
    | true =>
      have hw : wid r = 0 := by
        unfold wid
        have h1 : wi r 0 31 = true := by
          have := of_decide_eq_true h0
          unfold wi
          rw [decide_eq_true (by omega : (0 : Int) ≤ r), decide_eq_true (by omega : r ≤ 31)]
          rfl
        rw [if_pos (.inr (by rw [none_in, h1]; rfl))]
      rw [hw]
      exact RWidth_low r w hk h0
    | false =>
      have hz : wi r 0 31 = false := by
        have := of_decide_eq_false h0
        unfold wi
        rw [decide_eq_false (by omega : ¬ r ≤ 31), Bool.and_false]
      cases n0 : wi r 127 159 with
      | true =>
        have hw : wid r = 0 := by
          unfold wid
          rw [if_pos (.inr (by rw [none_in, hz, n0]; rfl))]
        rw [hw]
        exact RWidth_n0 r w hk h0 n0
      | false =>
        cases n1 : wi r 768 879 with
        | true =>
          have hw : wid r = 0 := by
            unfold wid
            rw [if_pos (.inr (by rw [none_in, hz, n0, n1]; rfl))]
          rw [hw]
          exact RWidth_n1 r w hk h0 n0 n1
        | false =>
          cases n2 : wi r 8203 8207 with
          | true =>
            have hw : wid r = 0 := by
              unfold wid
              rw [if_pos (.inr (by rw [none_in, hz, n0, n1, n2]; rfl))]
            rw [hw]
            exact RWidth_n2 r w hk h0 n0 n1 n2
          | false =>
            cases n3 : wi r 65024 65039 with
            | true =>
              have hw : wid r = 0 := by
                unfold wid
                rw [if_pos (.inr (by rw [none_in, hz, n0, n1, n2, n3]; rfl))]
              rw [hw]
              exact RWidth_n3 r w hk h0 n0 n1 n2 n3
            | false =>
              have hN : ¬ (Lib.validRune r = false ∨ inS r noneL = true) := by rw [hv, none_in, hz, n0, n1, n2, n3]; decide
              cases v0 : wi r 4352 4447 with
              | true =>
                have hw : wid r = 2 := by
                  unfold wid
                  rw [if_neg hN, if_pos (by rw [wide_in, v0]; rfl)]
                rw [hw]
                exact RWidth_w0 r w hk h0 n0 n1 n2 n3 v0
              | false =>
                cases v1 : wi r 11904 12350 with
                | true =>
                  have hw : wid r = 2 := by
                    unfold wid
                    rw [if_neg hN, if_pos (by rw [wide_in, v0, v1]; rfl)]
                  rw [hw]
                  exact RWidth_w1 r w hk h0 n0 n1 n2 n3 v0 v1
                | false =>
                  cases v2 : wi r 12353 42191 with
                  | true =>
                    have hw : wid r = 2 := by
                      unfold wid
                      rw [if_neg hN, if_pos (by rw [wide_in, v0, v1, v2]; rfl)]
                    rw [hw]
                    exact RWidth_w2 r w hk h0 n0 n1 n2 n3 v0 v1 v2
                  | false =>
                    cases v3 : wi r 44032 55203 with
                    | true =>
                      have hw : wid r = 2 := by
                        unfold wid
                        rw [if_neg hN, if_pos (by rw [wide_in, v0, v1, v2, v3]; rfl)]
                      rw [hw]
                      exact RWidth_w3 r w hk h0 n0 n1 n2 n3 v0 v1 v2 v3
                    | false =>
                      cases v4 : wi r 63744 64255 with
                      | true =>
                        have hw : wid r = 2 := by
                          unfold wid
                          rw [if_neg hN, if_pos (by rw [wide_in, v0, v1, v2, v3, v4]; rfl)]
                        rw [hw]
                        exact RWidth_w4 r w hk h0 n0 n1 n2 n3 v0 v1 v2 v3 v4
                      | false =>
                        cases v5 : wi r 65072 65135 with
                        | true =>
                          have hw : wid r = 2 := by
                            unfold wid
                            rw [if_neg hN, if_pos (by rw [wide_in, v0, v1, v2, v3, v4, v5]; rfl)]
                          rw [hw]
                          exact RWidth_w5 r w hk h0 n0 n1 n2 n3 v0 v1 v2 v3 v4 v5
                        | false =>
                          cases v6 : wi r 65281 65376 with
                          | true =>
                            have hw : wid r = 2 := by
                              unfold wid
                              rw [if_neg hN, if_pos (by rw [wide_in, v0, v1, v2, v3, v4, v5, v6]; rfl)]
                            rw [hw]
                            exact RWidth_w6 r w hk h0 n0 n1 n2 n3 v0 v1 v2 v3 v4 v5 v6
                          | false =>
                            cases v7 : wi r 65504 65510 with
                            | true =>
                              have hw : wid r = 2 := by
                                unfold wid
                                rw [if_neg hN, if_pos (by rw [wide_in, v0, v1, v2, v3, v4, v5, v6, v7]; rfl)]
                              rw [hw]
                              exact RWidth_w7 r w hk h0 n0 n1 n2 n3 v0 v1 v2 v3 v4 v5 v6 v7
                            | false =>
                              cases v8 : wi r 127744 128591 with
                              | true =>
                                have hw : wid r = 2 := by
                                  unfold wid
                                  rw [if_neg hN, if_pos (by rw [wide_in, v0, v1, v2, v3, v4, v5, v6, v7, v8]; rfl)]
                                rw [hw]
                                exact RWidth_w8 r w hk h0 n0 n1 n2 n3 v0 v1 v2 v3 v4 v5 v6 v7 v8
                              | false =>
                                cases v9 : wi r 129280 129535 with
                                | true =>
                                  have hw : wid r = 2 := by
                                    unfold wid
                                    rw [if_neg hN, if_pos (by rw [wide_in, v0, v1, v2, v3, v4, v5, v6, v7, v8, v9]; rfl)]
                                  rw [hw]
                                  exact RWidth_w9 r w hk h0 n0 n1 n2 n3 v0 v1 v2 v3 v4 v5 v6 v7 v8 v9
                                | false =>
                                  cases v10 : wi r 131072 262141 with
                                  | true =>
                                    have hw : wid r = 2 := by
                                      unfold wid
                                      rw [if_neg hN, if_pos (by rw [wide_in, v0, v1, v2, v3, v4, v5, v6, v7, v8, v9, v10]; rfl)]
                                    rw [hw]
                                    exact RWidth_w10 r w hk h0 n0 n1 n2 n3 v0 v1 v2 v3 v4 v5 v6 v7 v8 v9 v10
                                  | false =>
                                    have hw : wid r = 1 := by
                                      unfold wid
                                      rw [if_neg hN, if_neg (by rw [wide_in, v0, v1, v2, v3, v4, v5, v6, v7, v8, v9, v10]; decide)]
                                    rw [hw]
                                    exact RWidth_one r w hk h0 n0 n1 n2 n3 v0 v1 v2 v3 v4 v5 v6 v7 v8 v9 v10
end Go.Proofs.YthfgnjdekhfabaaDoor
