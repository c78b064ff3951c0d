/- The law KeysNothing, walked: what its calls make of any byte. -/
import Derived.Test.YtgjbieafjagchaaWalkE
import Derived.BigGuardPart
namespace Go.Proofs.Ytgjbieafjagchaa
open Go.RowKit Go.Lib Keys
set_option maxRecDepth 100000

def marksAll : List UInt8 := [37, 34, 111, 120, 99, 110, 112, 104, 108, 107, 106, 100, 91, 49, 50, 51, 52, 53, 54, 55, 56, 57, 2]
/-- Is a byte among the first k marks? -/
def meansK (k : Nat) (b : UInt8) : Bool := (marksAll.take k).any (· == b)

theorem meansK_succ (k : Nat) (b : UInt8) (h : k < 23) : meansK (k + 1) b = (meansK k b || marksAll[k]'(by exact h) == b) := by
  unfold meansK
  rw [List.take_succ_eq_append_getElem (by exact h), List.any_append]
  simp

def chkN (b : UInt8) : Bool :=
  let t := feed false true [b]
  let z := feed t.c t.p [97]
  !z.p && decide (t.out.length ≤ 1) && ((t.out.length == 1) == meansK 23 b) &&
    (if b == 91 then decide (z.out.length = 0) && z.c else (match z.out with | [k] => decide (k.kind = 1) && (k.s.data.toList == [97]) | _ => false) && !z.c)

theorem chkN_all : ∀ n : Fin 256, chkN (UInt8.ofNat n) = true := by decide +kernel
theorem chkN_any (b : UInt8) : chkN b = true := by
  have h := chkN_all ⟨b.toNat, b.toNat_lt⟩
  simpa using h

theorem chkN_open (b : UInt8) : (feed (feed false true [b]).c (feed false true [b]).p [97]).p = false ∧ (feed false true [b]).out.length ≤ 1 ∧ ((feed false true [b]).out.length = 1 ↔ meansK 23 b = true) ∧
    (b = 91 → (feed (feed false true [b]).c (feed false true [b]).p [97]).out.length = 0 ∧ (feed (feed false true [b]).c (feed false true [b]).p [97]).c = true) ∧
    (¬ b = 91 → (∃ k, (feed (feed false true [b]).c (feed false true [b]).p [97]).out = [k] ∧ k.kind = 1 ∧ k.s = ⟨#[97]⟩) ∧ (feed (feed false true [b]).c (feed false true [b]).p [97]).c = false) := by
  have h := chkN_any b
  unfold chkN at h
  dsimp only at h
  generalize feed false true [b] = t at h ⊢
  generalize feed t.c t.p [97] = z at h ⊢
  simp only [Bool.and_eq_true, Bool.not_eq_true', decide_eq_true_eq, beq_iff_eq] at h
  obtain ⟨⟨⟨h1, h2⟩, h3⟩, h4⟩ := h
  refine ⟨h1, h2, ?_, ?_, ?_⟩
  · rw [← h3]; simp
  · intro hb
    rw [if_pos hb] at h4
    simpa using h4
  · intro hb
    rw [if_neg hb] at h4
    simp only [Bool.and_eq_true, Bool.not_eq_true'] at h4
    obtain ⟨h5, h6⟩ := h4
    refine ⟨?_, h6⟩
    split at h5
    · rename_i k hk
      simp only [Bool.and_eq_true, decide_eq_true_eq, beq_iff_eq] at h5
      refine ⟨k, hk, h5.1, ?_⟩
      cases hs : k.s with
      | mk d =>
        have := h5.2
        rw [hs] at this
        have h7 : d = #[97] := Array.toList_inj.1 this
        rw [h7]
    · cases h5

theorem own_shape {w : World} {base : Nat} {e : TypeId} {size : Nat} {v : Value} {n : Nat} {xs : List Value} (h : w.ownsRow base e size v n xs) : ∃ a cap, v = .slice a n cap := by
  rcases h.2 with ⟨rfl, rfl⟩ | ⟨g, cap, cur, rfl, _⟩
  · exact ⟨_, _, rfl⟩
  · exact ⟨_, _, rfl⟩

theorem byte_eq (a b : UInt8) : ((a.toNat : Int) == (b.toNat : Int)) = (a == b) := by
  rw [Bool.eq_iff_iff, beq_iff_eq, beq_iff_eq]
  exact ⟨fun h => UInt8.toNat_inj.1 (by omega), fun h => by rw [h]⟩

theorem feed_two : feed false false [2] = ⟨false, true, false, []⟩ := by rfl

set_option maxHeartbeats 1600000 in
theorem law_N (b : UInt8) (w : World) : Calls Try.prog 4 #[.int .u8 b.toNat] w fun e w' => e = .returned (.bool true) ∧ Below w.heap.size w w' := by
  obtain ⟨k1, k2, k3, k4, k5⟩ := chkN_open b
  generalize ht : feed false true [b] = t at k1 k2 k3 k4 k5
  generalize hz : feed t.c t.p [97] = z at k1 k4 k5
  have HT := hide ht
  have HZ := hide hz
  clear ht hz
  go_enter Try.func4, Try.ntmps4
  go_wp2_with fail
  refine (awake_any _).mono ?_
  rintro e w1 ⟨rfl, hb1⟩
  dsimp only
  have hr1 : Rd (w1.alloc (.cells #[.bool false, .bool false] 26)) w1.heap.size false false := Blk.new w1 _ _
  go_wp2_with fail
  refine (Feed_any w1.heap.size false false ⟨#[2]⟩ _ hr1 (by decide)).mono ?_
  rintro e w2 ⟨v2, rfl, ho2, hr2, hg2⟩
  rw [feed_two] at ho2 hr2
  obtain ⟨a2, c2, rfl⟩ := own_shape ho2
  clear ho2
  dsimp only [List.length_nil]
  go_wp2_with fail
  refine (Prefixed_any w1.heap.size false true _ hr2).mono ?_
  rintro e w2' ⟨rfl, rfl⟩
  dsimp only
  have hcv := str_one b w2 w2.heap.size rfl
  go_wp2_with fail
  refine (Feed_any w1.heap.size false true ⟨#[b]⟩ _ (Blk.alloc hr2 _) (Nat.le_of_ble_eq_true rfl)).mono ?_
  rintro e w3 ⟨v3, rfl, ho3, hr3, hg3⟩
  have e3 : feed false true (ByteArray.mk #[b]).data.toList = t := HT.out
  rw [e3] at ho3 hr3
  obtain ⟨a3, c3, rfl⟩ := own_shape ho3
  clear ho3 e3 hcv
  dsimp only
  go_wp2_with fail
  refine (Feed_any w1.heap.size t.c t.p ⟨#[97]⟩ _ hr3 (by decide)).mono ?_
  rintro e w4 ⟨v4, rfl, ho4, hr4, hg4⟩
  have e4 : feed t.c t.p (ByteArray.mk #[97]).data.toList = z := HZ.out
  rw [e4, k1] at hr4
  rw [e4] at ho4
  obtain ⟨a4, c4, rfl⟩ := own_shape ho4
  have hb4 : Below w.heap.size w w4 := by
    have h1 := hb1.alloc hb1.size (.cells #[.bool false, .bool false] 26)
    have h2 := h1.grown hg2 (by have := hb1.size; simp; omega) (fun k hk => by injection hk with hk; have := hb1.size; omega)
    have h3 := (h2.alloc h2.size (.cells #[.int .u8 b.toNat] 5)).grown hg3 (by have := h2.size; simp; omega) (fun k hk => by injection hk with hk; have := hb1.size; omega)
    exact h3.grown hg4 h3.size (fun k hk => by injection hk with hk; have := hb1.size; omega)
  clear e4 hr3 hr2 hr1 hg2 hg3 hg4 hb1
  dsimp only
  go_wp2_with fail
  go_loop [10, 11] (fun m i => ∃ k : Nat, k ≤ 23 ∧ i = .int .i64 k ∧ m = .bool (meansK k b)) (fun _ i => 23 - (intOf i).toNat)
  case atStart => exact ⟨0, by omega, rfl, rfl⟩
  case round =>
    obtain ⟨k, hk, rfl, rfl⟩ := hrel
    by_cases hlk : k < 23
    · have hs := meansK_succ k b hlk
      cases hm : meansK k b with
      | true =>
        rw [hm] at hs
        have HS := hide hs
        clear hs hm
        go_wp2
        go_round
        case rel => exact ⟨k + 1, by omega, by go_num, by rw [HS.out]; rfl⟩
        case measure => simp [intOf]; omega
      | false =>
        rw [hm] at hs
        have HS := hide hs
        clear hs hm
        go_wp2
        go_round
        case rel => exact ⟨k + 1, by omega, by go_num, by rw [HS.out, byte_eq]; rfl⟩
        case measure => simp [intOf]; omega
    · obtain rfl : k = 23 := by omega
      have c1 : w4.cell? ⟨w1.heap.size, 1, none⟩ = some (.bool false) := hr4.c1
      clear hk
      generalize t.out.length = n at k2 k3 ⊢
      have hn : n = 0 ∧ meansK 23 b = false ∨ n = 1 ∧ meansK 23 b = true := by
        rcases Nat.lt_or_ge n 1 with h | h
        · refine .inl ⟨by omega, ?_⟩
          cases hm : meansK 23 b with
          | false => rfl
          | true => have := k3.2 hm; omega
        · have h1 : n = 1 := by omega
          exact .inr ⟨h1, k3.1 h1⟩
      clear k2 k3
      by_cases h91 : b = 91
      · obtain ⟨q1, q2⟩ := k4 h91
        have t91 : ((b.toNat : Int) == 91) = true := by rw [h91]; rfl
        rw [q2] at hr4
        rw [q1]
        clear h91 q1 q2 k4 k5 ho4
        have hP := Prefixed_any w1.heap.size true false w4 hr4
        have hC := Copying_any w1.heap.size true false w4 hr4
        rcases hn with ⟨rfl, hm⟩ | ⟨rfl, hm⟩
        all_goals
          rw [hm]
          clear hm
          go_wp2_with (first | (go_at_call 11; refine hP.mono ?_; rintro e w' ⟨rfl, rfl⟩) | (go_at_call 10; refine hC.mono ?_; rintro e w' ⟨rfl, rfl⟩))
          go_ret
          exact ⟨rfl, hb4⟩
      · obtain ⟨⟨x, x1, x2, x3⟩, q2⟩ := k5 h91
        have t91 : ((b.toNat : Int) == 91) = false := by
          rw [beq_eq_false_iff_ne]
          intro h
          exact h91 (UInt8.toNat_inj.1 (by have : (91 : UInt8).toNat = 91 := rfl; omega))
        rw [x1] at ho4
        obtain ⟨g, cap, hv, _, _, hc⟩ := keys_form ho4 (by simp)
        have d0 : w4.cell? ⟨g, 0, none⟩ = some (.int .i64 x.kind) := hc 0 (by simp)
        have d2 : w4.cell? ⟨g, 2, none⟩ = some (.string x.s) := hc 2 (by simp)
        rw [x2] at d0
        rw [x3] at d2
        injection hv with hv1 _ _
        subst hv1
        rw [q2] at hr4
        rw [x1]
        dsimp only [List.length_cons, List.length_nil]
        clear h91 x1 x2 x3 q2 k4 k5 ho4 hc
        have hP := Prefixed_any w1.heap.size false false w4 hr4
        have hC := Copying_any w1.heap.size false false w4 hr4
        rcases hn with ⟨rfl, hm⟩ | ⟨rfl, hm⟩
        all_goals
          rw [hm]
          clear hm
          go_wp2_with (first | (go_at_call 11; refine hP.mono ?_; rintro e w' ⟨rfl, rfl⟩) | (go_at_call 10; refine hC.mono ?_; rintro e w' ⟨rfl, rfl⟩))
          go_ret
          exact ⟨rfl, hb4⟩
end Go.Proofs.Ytgjbieafjagchaa
