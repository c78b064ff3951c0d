/- The walk of keys.Bytes. (Printed by gen_by.py.) -/
import Derived.Test.YtgjbieafjagchaaDoorWalkBh
import Derived.Test.YtgjbieafjagchaaDoorShelf
import Derived.Deep.RegionHeld
namespace Go.Proofs.YtgjbieafjagchaaDoor
open Go.RowKit Keys
set_option maxRecDepth 100000

theorem cell_lt {w : World} {a : Addr} {v : Value} (h : w.cell? a = some v) : a.block < w.heap.size := by
  by_cases hl : a.block < w.heap.size
  · exact hl
  · rw [World.cell?, Array.getElem?_eq_none (by omega)] at h
    cases h

set_option maxHeartbeats 1600000 in
theorem Bytes_text (n : Int) (S : ByteArray) (hS : S.size ≤ 1000) (m : Int) (w : World) (hm : w.cell? ⟨0, 0, none⟩ = some (.int .i64 m)) :
    Calls Tryd.prog 6 #[.agg #[.int .i64 1, .int .i64 n, .string S]] w (Byt w (dbl S.data.toList)) := by
  have hm2 : (w.alloc (.cells #[.int .i64 1, .int .i64 n, .string S] 23)).cell? ⟨0, 0, none⟩ = some (.int .i64 m) := by
    rw [World.cell?_alloc_lt _ _ _ (cell_lt hm)]
    exact hm
  have hcn := Lib.countB_le (⟨#[2]⟩ : ByteArray) (Nat.le_refl _) S.size S (Nat.le_refl _)
  have HRA := hide (Tryd.strings_ReplaceAll S ⟨#[2]⟩ ⟨#[2, 2]⟩ m _ (by omega) hm2 (Nat.le_refl _) (by show S.size + Lib.countB S ⟨#[2]⟩ * 2 ≤ _; omega))
  have hr : Lib.replaceAll S.data.toList [2] [2, 2] = dbl S.data.toList := repl_text _
  clear hm hm2 hcn hS
  generalize dbl S.data.toList = D at hr
  go_enter Tryd.func6, Tryd.ntmps6
  go_wp2_with fail
  refine HRA.out.mono ?_
  rintro e w1 ⟨he, b1⟩
  have he2 : e = .returned (.string ⟨D.toArray⟩) := by rw [he, ← hr]
  subst he2
  have HB := hide (((Below.refl _ w).alloc (Nat.le_refl _) (.cells #[.int .i64 1, .int .i64 n, .string S] 23)).trans (b1.mono (by simp)))
  clear b1 HRA he hr
  dsimp only
  go_wp2
  go_ret
  exact ⟨rfl, HB.out⟩

theorem steps_all : ((List.range 6).all fun k => kb 11 (stepsL.getD k 0) == [turnsL.getD k 0]) = true := by kernel_rfl
theorem kb_step (k : Nat) (h : k < 6) : kb 11 (stepsL.getD k 0) = [turnsL.getD k 0] := beq_iff_eq.1 (List.all_eq_true.1 steps_all k (List.mem_range.2 h))
theorem kb_nostep (n : Int) (h : ∀ j : Nat, j < 6 → ¬ stepsL.getD j 0 = n) : kb 11 n = [] := by
  have h0 := h 0 (by omega)
  have h1 := h 1 (by omega)
  have h2 := h 2 (by omega)
  have h3 := h 3 (by omega)
  have h4 := h 4 (by omega)
  have h5 := h 5 (by omega)
  simp [stepsL] at h0 h1 h2 h3 h4 h5
  refine kb_miss 11 n ?_
  simp only [table, List.forall_mem_cons, List.not_mem_nil, false_implies, implies_true, and_true]
  omega
theorem kb_noleave (n : Int) (h : ¬ n = 0) : kb 12 n = [] := by
  refine kb_miss 12 n ?_
  simp only [table, List.forall_mem_cons, List.not_mem_nil, false_implies, implies_true, and_true]
  omega
theorem marks_kinds : ((List.range 9).all fun k => Keys.kindsL.getD k 0 != 11 && Keys.kindsL.getD k 0 != 12) = true := by kernel_rfl
theorem bh_other (kind n : Int) (h : kind = 11 ∨ kind = 12) : bh kind n = 0 := by
  refine bh_none kind n (by omega) (by omega) ?_
  intro j hj
  have := List.all_eq_true.1 marks_kinds j (List.mem_range.2 hj)
  simp only [Bool.and_eq_true, bne_iff_ne] at this
  rintro ⟨h1, _⟩
  omega

theorem ext_turns (k : Nat) (h : k < 6) : (⟨#[107, 106, 117, 100, 103, 71]⟩ : ByteArray).extract k (k + 1) = ⟨[turnsL.getD k 0].toArray⟩ := by
  have hn : k = 0 ∨ k = 1 ∨ k = 2 ∨ k = 3 ∨ k = 4 ∨ k = 5 := by omega
  rcases hn with rfl | rfl | rfl | rfl | rfl | rfl <;> (show _ = _; kernel_rfl)

set_option maxHeartbeats 1600000 in
theorem Bytes_leave (n : Int) (S : ByteArray) (w : World) :
    Calls Tryd.prog 6 #[.agg #[.int .i64 12, .int .i64 n, .string S]] w (Byt w (kb 12 n)) := by
  by_cases hn : n = 0
  · subst hn
    have hk : kb 12 0 = [113] := by kernel_rfl
    rw [hk]
    clear hk
    have hcv := conv_bytes [113] (w.heap.size + 1) (w.alloc (.cells #[.int .i64 12, .int .i64 0, .string S] 23)) (by simp) 1 rfl #[.int .u8 113] rfl
    go_enter Tryd.func6, Tryd.ntmps6
    go_wp2
    go_ret
    exact ⟨rfl, ((Below.refl _ w).alloc (Nat.le_refl _) _).alloc (by simp) _⟩
  · rw [kb_noleave n hn]
    have hn0 : (n == 0) = false := by rw [beq_eq_false_iff_ne]; exact hn
    clear hn
    have HBH := hide (behind_any 12 n S (w.alloc (.cells #[.int .i64 12, .int .i64 n, .string S] 23)))
    rw [bh_other 12 n (.inr rfl)] at HBH
    go_enter Tryd.func6, Tryd.ntmps6
    go_wp2_with fail
    refine HBH.out.mono ?_
    rintro e w1 ⟨rfl, b1⟩
    have HB := hide (((Below.refl _ w).alloc (Nat.le_refl _) (.cells #[.int .i64 12, .int .i64 n, .string S] 23)).trans (b1.mono (by simp)))
    clear b1 HBH
    dsimp only
    go_wp2
    go_ret
    exact ⟨rfl, HB.out⟩

set_option maxHeartbeats 1600000 in
theorem Bytes_scroll (n : Int) (S : ByteArray) (w : World) :
    Calls Tryd.prog 6 #[.agg #[.int .i64 11, .int .i64 n, .string S]] w (Byt w (kb 11 n)) := by
  obtain ⟨L, hL⟩ : ∃ L, kb 11 n = L := ⟨_, rfl⟩
  rw [hL]
  have HL := hide hL
  clear hL
  have hb0 := Blk.new w 23 #[.int .i64 11, .int .i64 n, .string S]
  have HS := hide (steps_any (w.alloc (.cells #[.int .i64 11, .int .i64 n, .string S] 23)))
  go_enter Tryd.func6, Tryd.ntmps6
  go_wp2_with fail
  refine HS.out.mono ?_
  rintro e w1 ⟨rfl, b1⟩
  have hb1 := Blk.below hb0 b1 (by simp)
  have c0 : w1.cell? ⟨w.heap.size, 0, none⟩ = some (.int .i64 11) := Blk.cell hb1 0
  have c1 : w1.cell? ⟨w.heap.size, 1, none⟩ = some (.int .i64 n) := Blk.cell hb1 1
  have c2 : w1.cell? ⟨w.heap.size, 2, none⟩ = some (.string S) := Blk.cell hb1 2
  have hbw := ((Below.refl _ w).alloc (Nat.le_refl _) (.cells #[.int .i64 11, .int .i64 n, .string S] 23)).trans (b1.mono (by simp))
  have HB := hide hbw
  have hup := hbw.size
  clear hb0 hb1 b1 HS hbw
  dsimp only
  go_wp2
  go_loop [23] (fun i => ∃ k : Nat, k ≤ 6 ∧ i = .int .i64 k ∧ ∀ j : Nat, j < k → ¬ stepsL.getD j 0 = n) (fun i => 6 - (intOf i).toNat)
  case atStart => exact ⟨0, by omega, rfl, fun j hj => absurd hj (by omega)⟩
  case round =>
    obtain ⟨k, hk, rfl, hno⟩ := hrel
    by_cases hlt : k < 6
    · have hlt' : (k : Int) < 6 := by omega
      have hx := index_steps (k : Int) (by omega) hlt'
      have hsl := slice_one ⟨#[107, 106, 117, 100, 103, 71]⟩ k hlt
      have HST := hide (kb_step k hlt)
      rw [ext_turns k hlt] at hsl
      rw [Int.toNat_natCast] at hx
      generalize hq : stepsL.getD k 0 = q at hx HST
      generalize [turnsL.getD k 0] = M at hsl HST
      have HQ := hide hq
      have HNO := hide hno
      clear hq hno
      cases hqn : (q == n) with
      | false =>
        have hno2 : ∀ j : Nat, j < k + 1 → ¬ stepsL.getD j 0 = n := by
          intro j hj
          by_cases e : j = k
          · subst e
            intro h1
            rw [HQ.out] at h1
            rw [h1] at hqn
            simp at hqn
          · exact HNO.out j (by omega)
        have HN2 := hide hno2
        clear hno2
        go_wp2
        go_round
        case rel => exact ⟨k + 1, by omega, by go_num, HN2.out⟩
        case measure => simp [intOf]; omega
      | true =>
        have hLM : L = M := by rw [← HL.out, ← beq_iff_eq.1 hqn, HST.out]
        subst hLM
        go_wp2
        go_ret
        exact ⟨rfl, HB.out⟩
    · obtain rfl : k = 6 := by omega
      have hz : L = [] := by rw [← HL.out]; exact kb_nostep n hno
      subst hz
      have HBH := hide (behind_any 11 n S w1)
      rw [bh_other 11 n (.inl rfl)] at HBH
      clear hno
      go_wp2_with fail
      refine HBH.out.mono ?_
      rintro e w2 ⟨rfl, b2⟩
      have HB2 := hide (HB.out.trans (b2.mono hup))
      clear b2 HBH
      dsimp only
      go_wp2
      go_ret
      exact ⟨rfl, HB2.out⟩

set_option maxHeartbeats 1600000 in
theorem Bytes_other (kind n : Int) (S : ByteArray) (h1 : kind ≠ 1) (h11 : kind ≠ 11) (h12 : kind ≠ 12) (w : World) :
    Calls Tryd.prog 6 #[.agg #[.int .i64 kind, .int .i64 n, .string S]] w (Byt w (kb kind n)) := by
  have hkb := kb_behind kind n h11 h12
  have hlt := bh_lt kind n
  have h1' : (kind == 1) = false := by rw [beq_eq_false_iff_ne]; exact h1
  have h11' : (kind == 11) = false := by rw [beq_eq_false_iff_ne]; exact h11
  have h12' : (kind == 12) = false := by rw [beq_eq_false_iff_ne]; exact h12
  have HBH := hide (behind_any kind n S (w.alloc (.cells #[.int .i64 kind, .int .i64 n, .string S] 23)))
  clear h1 h11 h12
  generalize bh kind n = Z at hkb hlt HBH
  generalize kb kind n = L at hkb ⊢
  go_enter Tryd.func6, Tryd.ntmps6
  go_wp2_with fail
  refine HBH.out.mono ?_
  rintro e w1 ⟨rfl, b1⟩
  have hbw := ((Below.refl _ w).alloc (Nat.le_refl _) (.cells #[.int .i64 kind, .int .i64 n, .string S] 23)).trans (b1.mono (by simp))
  have HB := hide hbw
  have hup := hbw.size
  clear b1 HBH hbw
  dsimp only
  rcases hkb with ⟨rfl, rfl⟩ | ⟨hz, rfl⟩
  · go_wp2
    go_ret
    exact ⟨rfl, HB.out⟩
  · have hz' : ((Z : Int) == 0) = false := by rw [beq_eq_false_iff_ne]; omega
    have hcv := conv_bytes [2, Z.toUInt8] w1.heap.size w1 rfl 2 rfl #[.int .u8 2, .int .u8 Z] (by rw [← toU8 Z hlt]; rfl)
    generalize hM : [2, Z.toUInt8] = M at hcv
    have HM := hide hM
    clear hM
    go_wp2
    go_ret
    refine ⟨?_, HB.out.alloc hup _⟩
    rw [← HM.out]
    rfl

/-- What a key's bytes are. -/
def kbytes (kind n : Int) (S : ByteArray) : List UInt8 := if kind = 1 then dbl S.data.toList else kb kind n

theorem Bytes_any (kind n : Int) (S : ByteArray) (hS : S.size ≤ 1000) (m : Int) (w : World) (hm : w.cell? ⟨0, 0, none⟩ = some (.int .i64 m)) :
    Calls Tryd.prog 6 #[.agg #[.int .i64 kind, .int .i64 n, .string S]] w (Byt w (kbytes kind n S)) := by
  unfold kbytes
  by_cases h1 : kind = 1
  · subst h1
    exact Bytes_text n S hS m w hm
  · rw [if_neg h1]
    by_cases h11 : kind = 11
    · subst h11
      exact Bytes_scroll n S w
    · by_cases h12 : kind = 12
      · subst h12
        exact Bytes_leave n S w
      · exact Bytes_other kind n S h1 h11 h12 w

theorem RBytes_any (kind n : Int) (S : ByteArray) (hS : S.size ≤ 1000) (w : World) :
    Calls Tryd.prog 7 #[.agg #[.int .i64 kind, .int .i64 n, .string S]] w (Byt w (kbytes kind n S)) := by
  unfold kbytes
  by_cases h1 : kind = 1
  · subst h1
    exact RBytes_text n S hS w
  · rw [if_neg h1]
    exact RBytes_key kind n S h1 w
end Go.Proofs.YtgjbieafjagchaaDoor
