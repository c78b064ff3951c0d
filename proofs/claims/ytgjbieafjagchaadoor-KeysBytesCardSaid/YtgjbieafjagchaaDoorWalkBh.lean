/- The walk of behind: a key's byte behind a prefix. -/
import Derived.Test.YtgjbieafjagchaaDoorWalkRC
namespace Go.Proofs.YtgjbieafjagchaaDoor
open Go.RowKit
set_option maxRecDepth 100000

theorem kb_miss (kind n : Int) (h : ∀ e ∈ table, ¬ (e.1 = kind ∧ e.2.1 = n)) : kb kind n = [] := by
  unfold kb
  have : table.find? (fun e => e.1 == kind && e.2.1 == n) = none := by
    rw [List.find?_eq_none]
    intro e he hb
    simp only [Bool.and_eq_true, beq_iff_eq] at hb
    exact h e he hb
  rw [this]

theorem kb_cases (kind n : Int) : (∃ e ∈ table, e.1 = kind ∧ e.2.1 = n ∧ kb kind n = e.2.2) ∨ kb kind n = [] := by
  unfold kb
  cases hf : table.find? (fun e => e.1 == kind && e.2.1 == n) with
  | none => exact .inr rfl
  | some e =>
    have hm := List.mem_of_find?_eq_some hf
    have hp := List.find?_some hf
    simp only [Bool.and_eq_true, beq_iff_eq] at hp
    exact .inl ⟨e, hm, hp.1, hp.2, rfl⟩

theorem bh_of (kind n : Int) (l : List UInt8) (h : kb kind n = l) : bh kind n = snd2 l := by
  unfold bh
  rw [h]

theorem bh_move (n : Int) (h : n < 1 ∨ 4 < n) : bh 10 n = 0 := by
  rw [bh_of 10 n [] (kb_miss 10 n (by simp only [table, List.forall_mem_cons, List.not_mem_nil, false_implies, implies_true, and_true]; omega))]; rfl
theorem bh_select (n : Int) (h : n < 1 ∨ 9 < n) : bh 9 n = 0 := by
  rw [bh_of 9 n [] (kb_miss 9 n (by simp only [table, List.forall_mem_cons, List.not_mem_nil, false_implies, implies_true, and_true]; omega))]; rfl
theorem nine_all : ((List.range 9).all fun k => bh 9 ((k : Int) + 1) == k + 49) = true := by kernel_rfl
theorem bh_nine (n : Int) (h1 : 1 ≤ n) (h2 : n ≤ 9) : ((bh 9 n : Nat) : Int) = 48 + n := by
  have h := beq_iff_eq.1 (List.all_eq_true.1 nine_all (n - 1).toNat (List.mem_range.2 (by omega)))
  have e : (((n - 1).toNat : Nat) : Int) + 1 = n := by omega
  rw [e] at h
  rw [h]
  omega

theorem marks_all : ((List.range 9).all fun k => bh (Keys.kindsL.getD k 0) 0 == (Keys.marksL.getD k 0).toNat) = true := by kernel_rfl
theorem bh_mark (k : Nat) (h : k < 9) : bh (Keys.kindsL.getD k 0) 0 = (Keys.marksL.getD k 0).toNat := beq_iff_eq.1 (List.all_eq_true.1 marks_all k (List.mem_range.2 h))

theorem table_marks : (table.all fun e => e.1 == 9 || e.1 == 10 || e.2.2.length == 1 || (e.2.1 == 0 && (List.range 9).any fun j => Keys.kindsL.getD j 0 == e.1)) = true := by kernel_rfl
theorem bh_none (kind n : Int) (h9 : kind ≠ 9) (h10 : kind ≠ 10) (h : ∀ j : Nat, j < 9 → ¬ (Keys.kindsL.getD j 0 = kind ∧ n = 0)) : bh kind n = 0 := by
  rcases kb_cases kind n with ⟨e, he, h1, h2, h3⟩ | h3
  · have := List.all_eq_true.1 table_marks e he
    simp only [Bool.or_eq_true, Bool.and_eq_true, beq_iff_eq, List.any_eq_true, List.mem_range] at this
    rcases this with ((h4 | h4) | h4) | ⟨h4, j, hj, h5⟩
    · exact absurd (h1.symm.trans h4) h9
    · exact absurd (h1.symm.trans h4) h10
    · rw [bh_of kind n _ h3]
      match hq : e.2.2, h4 with
      | [_], _ => rfl
    · exact absurd ⟨h5.trans h1, h2.symm.trans h4⟩ (h j hj)
  · rw [bh_of kind n _ h3]
    rfl

theorem table_two : (table.all fun e => e.1 == 11 || e.1 == 12 || (e.2.2.length == 2 && e.2.2.head? == some 2 && e.2.2.getLast? != some 0)) = true := by kernel_rfl
theorem kb_behind (kind n : Int) (h11 : kind ≠ 11) (h12 : kind ≠ 12) : (bh kind n = 0 ∧ kb kind n = []) ∨ (bh kind n ≠ 0 ∧ kb kind n = [2, (bh kind n).toUInt8]) := by
  rcases kb_cases kind n with ⟨e, he, h1, h2, h3⟩ | h3
  · have := List.all_eq_true.1 table_two e he
    simp only [Bool.or_eq_true, Bool.and_eq_true, beq_iff_eq, bne_iff_ne] at this
    rcases this with (h4 | h4) | ⟨⟨h4, h5⟩, h6⟩
    · exact absurd (h1.symm.trans h4) h11
    · exact absurd (h1.symm.trans h4) h12
    · right
      rw [bh_of kind n _ h3, h3]
      match hq : e.2.2, h4 with
      | [a, b], _ =>
        rw [hq] at h5 h6
        have ha : a = 2 := by simpa using h5
        have hb : b ≠ 0 := by simpa using h6
        subst ha
        refine ⟨fun hz => hb (UInt8.toNat_inj.1 (by exact hz)), by simp [snd2]⟩
  · left
    rw [bh_of kind n _ h3]
    exact ⟨rfl, h3⟩

theorem bh_lt (kind n : Int) : bh kind n < 256 := by
  unfold bh snd2
  split
  · exact UInt8.toNat_lt _
  · omega

theorem index_marks (i : Int) (h0 : 0 ≤ i) (h1 : i < 9) (w : World) : (Instr.index 9 (.string ⟨#[37, 34, 111, 120, 99, 110, 112, 100, 91]⟩) (.int .i64 i)).run Tryd.prog w = .ok (.int .u8 ((Keys.marksL.getD i.toNat 0).toNat : Int)) w := by
  obtain ⟨n, rfl⟩ := Int.eq_ofNat_of_zero_le h0
  have hn : n = 0 ∨ n = 1 ∨ n = 2 ∨ n = 3 ∨ n = 4 ∨ n = 5 ∨ n = 6 ∨ n = 7 ∨ n = 8 := by omega
  rcases hn with rfl | rfl | rfl | rfl | rfl | rfl | rfl | rfl | rfl <;> (show _ = _; kernel_rfl)

/-- What behind leaves. -/
def Beh (w : World) (z : Int) (e : Ending) (w' : World) : Prop := e = .returned (.int .u8 z) ∧ Below w.heap.size w w'

set_option maxHeartbeats 1600000 in
theorem behind_any (kind n : Int) (S : ByteArray) (w : World) : Calls Tryd.prog 11 #[.agg #[.int .i64 kind, .int .i64 n, .string S]] w (Beh w (bh kind n : Nat)) := by
  by_cases h10 : kind = 10
  · subst h10
    by_cases h1 : 1 ≤ n
    · by_cases h4 : n ≤ 4
      · have h : n = 1 ∨ n = 2 ∨ n = 3 ∨ n = 4 := by omega
        have e1 : bh 10 1 = 104 := by kernel_rfl
        have e2 : bh 10 2 = 108 := by kernel_rfl
        have e3 : bh 10 3 = 107 := by kernel_rfl
        have e4 : bh 10 4 = 106 := by kernel_rfl
        rcases h with rfl | rfl | rfl | rfl
        · rw [e1]
          clear e1 e2 e3 e4 h1 h4
          go_enter Tryd.func11, Tryd.ntmps11
          go_wp2
          go_ret
          exact ⟨rfl, (Below.refl _ _).alloc (Nat.le_refl _) _⟩
        · rw [e2]
          clear e1 e2 e3 e4 h1 h4
          go_enter Tryd.func11, Tryd.ntmps11
          go_wp2
          go_ret
          exact ⟨rfl, (Below.refl _ _).alloc (Nat.le_refl _) _⟩
        · rw [e3]
          clear e1 e2 e3 e4 h1 h4
          go_enter Tryd.func11, Tryd.ntmps11
          go_wp2
          go_ret
          exact ⟨rfl, (Below.refl _ _).alloc (Nat.le_refl _) _⟩
        · rw [e4]
          clear e1 e2 e3 e4 h1 h4
          go_enter Tryd.func11, Tryd.ntmps11
          go_wp2
          go_ret
          exact ⟨rfl, (Below.refl _ _).alloc (Nat.le_refl _) _⟩
      · rw [bh_move n (by omega)]
        go_enter Tryd.func11, Tryd.ntmps11
        go_wp2
        go_ret
        exact ⟨rfl, (Below.refl _ _).alloc (Nat.le_refl _) _⟩
    · rw [bh_move n (by omega)]
      go_enter Tryd.func11, Tryd.ntmps11
      go_wp2
      go_ret
      exact ⟨rfl, (Below.refl _ _).alloc (Nat.le_refl _) _⟩
  · have h10' : (kind == 10) = false := by rw [beq_eq_false_iff_ne]; exact h10
    by_cases h9 : kind = 9
    · subst h9
      by_cases h1 : 1 ≤ n
      · by_cases h4 : n ≤ 9
        · rw [bh_nine n h1 h4]
          clear h10 h10'
          go_enter Tryd.func11, Tryd.ntmps11
          go_wp2
          go_ret
          exact ⟨rfl, (Below.refl _ _).alloc (Nat.le_refl _) _⟩
        · rw [bh_select n (by omega)]
          clear h10 h10'
          go_enter Tryd.func11, Tryd.ntmps11
          go_wp2
          go_ret
          exact ⟨rfl, (Below.refl _ _).alloc (Nat.le_refl _) _⟩
      · rw [bh_select n (by omega)]
        clear h10 h10'
        go_enter Tryd.func11, Tryd.ntmps11
        go_wp2
        go_ret
        exact ⟨rfl, (Below.refl _ _).alloc (Nat.le_refl _) _⟩
    · have h9' : (kind == 9) = false := by rw [beq_eq_false_iff_ne]; exact h9
      have HN := hide (bh_none kind n h9 h10)
      clear h9 h10
      obtain ⟨Z, hZ⟩ : ∃ Z, bh kind n = Z := ⟨_, rfl⟩
      have HZ := hide hZ
      rw [hZ] at HN ⊢
      clear hZ
      have HK := hide (kinds_any (w.alloc (.cells #[.int .i64 kind, .int .i64 n, .string S] 23)))
      have hb0 := Blk.new w 23 #[.int .i64 kind, .int .i64 n, .string S]
      go_enter Tryd.func11, Tryd.ntmps11
      go_wp2_with fail
      refine HK.out.mono ?_
      rintro e w1 ⟨rfl, b1⟩
      have hb1 := Blk.below hb0 b1 (by simp)
      have c0 : w1.cell? ⟨w.heap.size, 0, none⟩ = some (.int .i64 kind) := Blk.cell hb1 0
      have c1 : w1.cell? ⟨w.heap.size, 1, none⟩ = some (.int .i64 n) := Blk.cell hb1 1
      have HB := hide (((Below.refl _ w).alloc (Nat.le_refl _) (.cells #[.int .i64 kind, .int .i64 n, .string S] 23)).trans (b1.mono (by simp)))
      clear hb0 hb1 b1 HK
      dsimp only
      go_wp2
      go_loop [8] (fun i => ∃ k : Nat, k ≤ 9 ∧ i = .int .i64 k ∧ ∀ j : Nat, j < k → ¬ (Keys.kindsL.getD j 0 = kind ∧ n = 0)) (fun i => 9 - (intOf i).toNat)
      case atStart => exact ⟨0, by omega, rfl, fun j hj => absurd hj (by omega)⟩
      case round =>
        obtain ⟨k, hk, rfl, hno⟩ := hrel
        by_cases hlt : k < 9
        · have hlt' : (k : Int) < 9 := by omega
          have hx := index_kinds (k : Int) (by omega) hlt'
          have hm := index_marks (k : Int) (by omega) hlt'
          have hbm := bh_mark k hlt
          rw [Int.toNat_natCast] at hx hm
          generalize hq : Keys.kindsL.getD k 0 = q at hx hbm
          generalize (Keys.marksL.getD k 0).toNat = m at hm hbm
          have HQ := hide hq
          have HNO := hide hno
          have HBM := hide hbm
          clear hq hno hbm
          cases hqk : (q == kind) with
          | false =>
            have hno2 : ∀ j : Nat, j < k + 1 → ¬ (Keys.kindsL.getD j 0 = kind ∧ n = 0) := by
              intro j hj
              by_cases e : j = k
              · subst e
                rintro ⟨h1, _⟩
                rw [HQ.out] at h1
                rw [h1] at hqk
                simp at hqk
              · exact HNO.out j (by omega)
            have HN2 := hide hno2
            clear hno2
            go_wp2
            go_round
            case rel => exact ⟨k + 1, by omega, by go_num, HN2.out⟩
            case measure => simp [intOf]; omega
          | true =>
            cases hn0 : (n == 0) with
            | false =>
              have hno2 : ∀ j : Nat, j < k + 1 → ¬ (Keys.kindsL.getD j 0 = kind ∧ n = 0) := by
                intro j hj
                rintro ⟨_, h2⟩
                rw [h2] at hn0
                simp at hn0
              have HN2 := hide hno2
              clear hno2
              go_wp2
              go_round
              case rel => exact ⟨k + 1, by omega, by go_num, HN2.out⟩
              case measure => simp [intOf]; omega
            | true =>
              have hz : Z = m := by
                rw [← HZ.out, ← beq_iff_eq.1 hqk, beq_iff_eq.1 hn0]
                exact HBM.out
              subst hz
              go_wp2
              go_ret
              exact ⟨rfl, HB.out⟩
        · obtain rfl : k = 9 := by omega
          have hz := HN.out hno
          subst hz
          clear hno
          go_wp2
          go_ret
          exact ⟨rfl, HB.out⟩
end Go.Proofs.YtgjbieafjagchaaDoor
