/- The walk of Num. -/
import Derived.Test.YtjjedmmenlfedaaLawE
namespace Go.Proofs.Ytjjedmmenlfedaa
open Go.RowKit Go.Lib Esc
set_option maxRecDepth 100000

theorem Num_out (a : A) (i least : Int) (w : World) (h : i < 0 ∨ a.n ≤ i) (hn : 0 ≤ a.n) (h8 : a.n ≤ 8) : Calls Try.prog 15 #[aval a, .int .i64 i, .int .i64 least] w fun e w' => e = .returned (.int .i64 least) ∧ Below w.heap.size w w' := by
  obtain ⟨kd, ar, pv, md, nn, n0, n1, n2, n3, n4, n5, n6, n7⟩ := a
  dsimp only at h hn h8
  unfold aval acts
  dsimp only
  by_cases hi : i < 0
  · go_enter Try.func15, Try.ntmps15
    go_wp2
    go_ret
    exact ⟨rfl, (Below.refl _ w).alloc (Nat.le_refl _) _⟩
  · have hni : nn ≤ i := by omega
    have hi0 : 0 ≤ i := by omega
    clear h
    go_enter Try.func15, Try.ntmps15
    go_wp2
    go_ret
    exact ⟨rfl, (Below.refl _ w).alloc (Nat.le_refl _) _⟩

theorem Num_in (a : A) (i : Nat) (x least : Int) (w : World) (hi : i < 8) (hx : (acts a)[5 + i]? = some (.int .i64 x)) (hn : (i : Int) < a.n) (h8 : a.n ≤ 8) : Calls Try.prog 15 #[aval a, .int .i64 i, .int .i64 least] w fun e w' => e = .returned (.int .i64 (max x least)) ∧ Below w.heap.size w w' := by
  obtain ⟨kd, ar, pv, md, nn, n0, n1, n2, n3, n4, n5, n6, n7⟩ := a
  dsimp only at hn h8
  unfold aval
  unfold acts at hx ⊢
  dsimp only at hx ⊢
  match i, hi with
  | 0, _ =>
    obtain rfl : n0 = x := by simpa using hx
    have q1 : ¬ nn ≤ 0 := by omega
    clear hx hn
    by_cases hl : least ≤ n0
    · have e : max n0 least = n0 := by omega
      rw [e]
      clear e
      go_enter Try.func15, Try.ntmps15
      go_wp2
      go_ret
      exact ⟨rfl, (Below.refl _ w).alloc (Nat.le_refl _) _⟩
    · have e : max n0 least = least := by omega
      rw [e]
      clear e
      go_enter Try.func15, Try.ntmps15
      go_wp2
      go_ret
      exact ⟨rfl, (Below.refl _ w).alloc (Nat.le_refl _) _⟩
  | 1, _ =>
    obtain rfl : n1 = x := by simpa using hx
    have q1 : ¬ nn ≤ 1 := by omega
    clear hx hn
    by_cases hl : least ≤ n1
    · have e : max n1 least = n1 := by omega
      rw [e]
      clear e
      go_enter Try.func15, Try.ntmps15
      go_wp2
      go_ret
      exact ⟨rfl, (Below.refl _ w).alloc (Nat.le_refl _) _⟩
    · have e : max n1 least = least := by omega
      rw [e]
      clear e
      go_enter Try.func15, Try.ntmps15
      go_wp2
      go_ret
      exact ⟨rfl, (Below.refl _ w).alloc (Nat.le_refl _) _⟩
  | 2, _ =>
    obtain rfl : n2 = x := by simpa using hx
    have q1 : ¬ nn ≤ 2 := by omega
    clear hx hn
    by_cases hl : least ≤ n2
    · have e : max n2 least = n2 := by omega
      rw [e]
      clear e
      go_enter Try.func15, Try.ntmps15
      go_wp2
      go_ret
      exact ⟨rfl, (Below.refl _ w).alloc (Nat.le_refl _) _⟩
    · have e : max n2 least = least := by omega
      rw [e]
      clear e
      go_enter Try.func15, Try.ntmps15
      go_wp2
      go_ret
      exact ⟨rfl, (Below.refl _ w).alloc (Nat.le_refl _) _⟩
  | 3, _ =>
    obtain rfl : n3 = x := by simpa using hx
    have q1 : ¬ nn ≤ 3 := by omega
    clear hx hn
    by_cases hl : least ≤ n3
    · have e : max n3 least = n3 := by omega
      rw [e]
      clear e
      go_enter Try.func15, Try.ntmps15
      go_wp2
      go_ret
      exact ⟨rfl, (Below.refl _ w).alloc (Nat.le_refl _) _⟩
    · have e : max n3 least = least := by omega
      rw [e]
      clear e
      go_enter Try.func15, Try.ntmps15
      go_wp2
      go_ret
      exact ⟨rfl, (Below.refl _ w).alloc (Nat.le_refl _) _⟩
  | 4, _ =>
    obtain rfl : n4 = x := by simpa using hx
    have q1 : ¬ nn ≤ 4 := by omega
    clear hx hn
    by_cases hl : least ≤ n4
    · have e : max n4 least = n4 := by omega
      rw [e]
      clear e
      go_enter Try.func15, Try.ntmps15
      go_wp2
      go_ret
      exact ⟨rfl, (Below.refl _ w).alloc (Nat.le_refl _) _⟩
    · have e : max n4 least = least := by omega
      rw [e]
      clear e
      go_enter Try.func15, Try.ntmps15
      go_wp2
      go_ret
      exact ⟨rfl, (Below.refl _ w).alloc (Nat.le_refl _) _⟩
  | 5, _ =>
    obtain rfl : n5 = x := by simpa using hx
    have q1 : ¬ nn ≤ 5 := by omega
    clear hx hn
    by_cases hl : least ≤ n5
    · have e : max n5 least = n5 := by omega
      rw [e]
      clear e
      go_enter Try.func15, Try.ntmps15
      go_wp2
      go_ret
      exact ⟨rfl, (Below.refl _ w).alloc (Nat.le_refl _) _⟩
    · have e : max n5 least = least := by omega
      rw [e]
      clear e
      go_enter Try.func15, Try.ntmps15
      go_wp2
      go_ret
      exact ⟨rfl, (Below.refl _ w).alloc (Nat.le_refl _) _⟩
  | 6, _ =>
    obtain rfl : n6 = x := by simpa using hx
    have q1 : ¬ nn ≤ 6 := by omega
    clear hx hn
    by_cases hl : least ≤ n6
    · have e : max n6 least = n6 := by omega
      rw [e]
      clear e
      go_enter Try.func15, Try.ntmps15
      go_wp2
      go_ret
      exact ⟨rfl, (Below.refl _ w).alloc (Nat.le_refl _) _⟩
    · have e : max n6 least = least := by omega
      rw [e]
      clear e
      go_enter Try.func15, Try.ntmps15
      go_wp2
      go_ret
      exact ⟨rfl, (Below.refl _ w).alloc (Nat.le_refl _) _⟩
  | 7, _ =>
    obtain rfl : n7 = x := by simpa using hx
    have q1 : ¬ nn ≤ 7 := by omega
    clear hx hn
    by_cases hl : least ≤ n7
    · have e : max n7 least = n7 := by omega
      rw [e]
      clear e
      go_enter Try.func15, Try.ntmps15
      go_wp2
      go_ret
      exact ⟨rfl, (Below.refl _ w).alloc (Nat.le_refl _) _⟩
    · have e : max n7 least = least := by omega
      rw [e]
      clear e
      go_enter Try.func15, Try.ntmps15
      go_wp2
      go_ret
      exact ⟨rfl, (Below.refl _ w).alloc (Nat.le_refl _) _⟩
end Go.Proofs.Ytjjedmmenlfedaa
