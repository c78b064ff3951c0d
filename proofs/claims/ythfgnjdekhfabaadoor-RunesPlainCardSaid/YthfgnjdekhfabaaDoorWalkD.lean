/- The walk of step. -/
import Derived.Test.YthfgnjdekhfabaaDoorWalkC
import Derived.Test.YthfgnjdekhfabaaDoorShelf
namespace Go.Proofs.YthfgnjdekhfabaaDoor
open Go.RowKit Ru
set_option maxRecDepth 100000

namespace Ru
/-- The first character of a text that is not empty: it, how many bytes it takes, whether it may still become one. -/
def stp (s : ByteArray) (f : Nat) : Int × Nat × Bool :=
  if begins s.data.toList = size f then (((Lib.decodeGo (s.extract 0 (begins s.data.toList))).1 : Int), begins s.data.toList, false)
  else (65533, begins s.data.toList, decide (begins s.data.toList = s.size ∧ begins s.data.toList < size f))
end Ru

theorem begins_le (s : ByteArray) (h0 : 0 < s.size) : 1 ≤ begins s.data.toList ∧ begins s.data.toList ≤ s.size := by
  have h := get_bytes s 0 h0
  rw [List.drop_zero] at h
  have hl : s.data.toList.length = s.size := Array.length_toList
  have h2 : (s.data.toList.drop 1).length = s.size - 1 := by rw [List.length_drop, hl]
  have h3 := goOn_le s[0].toNat (size s[0].toNat) (s.data.toList.drop 1) 1
  have e : begins s.data.toList = goOn s[0].toNat (size s[0].toNat) 1 (s.data.toList.drop 1) := by rw [h]; rfl
  rw [e]
  omega

/-- What step leaves. -/
def Stepped (w : World) (q : Int × Nat × Bool) (e : Ending) (w' : World) : Prop := e = .returned (.tuple #[.int .i32 q.1, .int .i64 q.2.1, .bool q.2.2]) ∧ Below w.heap.size w w'

theorem below_drewN {B : Nat} {w w' : World} (h : Below B w w') (n : Nat) : Below B w (w'.drewN n) := ⟨h.os, h.tape, h.output, h.size, h.block⟩

set_option maxHeartbeats 800000 in
theorem step_any (s : ByteArray) (w : World) (h0 : 0 < s.size) (h63 : s.size ≤ maxLen) (hT : Lib.Utf8Tabs 0 1 w) :
    Calls Tryd.prog 32 #[.string s] w (Stepped w (stp s s[0].toNat)) := by
  have hbl := begins_le s h0
  have HB := hide (fun wx => beginning_any s wx h0 h63)
  unfold maxLen at h63
  unfold stp
  obtain ⟨f, hf⟩ : ∃ f, s[0] = f := ⟨_, rfl⟩
  rw [hf]
  have HSZ := hide (fun wx => size_any f.toNat wx)
  have hs4 : size f.toNat ≤ 4 := by
    unfold size
    repeat' split
    all_goals omega
  generalize size f.toNat = z at HSZ hs4 ⊢
  generalize begins s.data.toList = n at HB hbl ⊢
  have hz : (0 : Int) < (s.size : Int) := by omega
  by_cases hnz : n = z
  · subst hnz
    rw [if_pos rfl]
    have HD := hide (fun wx hx => Tryd.utf8_DecodeRuneInString (s.extract 0 n) wx hx)
    generalize Lib.decodeGo (s.extract 0 n) = q at HD ⊢
    have HTA := hide hT
    clear hT
    go_enter Tryd.func32, Tryd.ntmps32
    go_wp2_with fail
    refine (HB.out _).mono ?_
    rintro e w' ⟨rfl, m, rfl⟩
    dsimp only
    go_wp2_with fail
    refine (HSZ.out _).mono ?_
    rintro e w' ⟨rfl, rfl⟩
    dsimp only
    go_wp2_with fail
    refine (HD.out _ (Utf8Tabs_below HTA.out (below_drewN (Below.refl _ w) m))).mono ?_
    rintro e w' ⟨rfl, hb⟩
    have hfin : Below w.heap.size w w' := (below_drewN (Below.refl _ w) m).trans hb
    clear hb
    dsimp only
    go_wp2
    go_ret3
    exact ⟨rfl, hfin⟩
  · rw [if_neg hnz]
    have hnz1 : ((n : Int) == (z : Int)) = false := by rw [beq_eq_false_iff_ne]; omega
    have HTA := hide hT
    clear hT
    by_cases hl : n = s.size
    · by_cases hg : n < z
      · have e : decide (n = s.size ∧ n < z) = true := decide_eq_true ⟨hl, hg⟩
        rw [e]
        have hl1 : ((n : Int) == (s.size : Int)) = true := by rw [beq_iff_eq]; omega
        have hg1 : (n : Int) < (z : Int) := by omega
        clear e hl hnz
        go_enter Tryd.func32, Tryd.ntmps32
        go_wp2_with fail
        refine (HB.out _).mono ?_
        rintro e w' ⟨rfl, m, rfl⟩
        dsimp only
        go_wp2_with fail
        refine (HSZ.out _).mono ?_
        rintro e w' ⟨rfl, rfl⟩
        dsimp only
        go_wp2_with fail
        refine (HSZ.out _).mono ?_
        rintro e w' ⟨rfl, rfl⟩
        dsimp only
        go_wp2
        go_ret3
        exact ⟨rfl, below_drewN (Below.refl _ w) m⟩
      · have e : decide (n = s.size ∧ n < z) = false := decide_eq_false (fun h => hg h.2)
        rw [e]
        have hl1 : ((n : Int) == (s.size : Int)) = true := by rw [beq_iff_eq]; omega
        have hg1 : ¬ (n : Int) < (z : Int) := by omega
        clear e hl hnz
        go_enter Tryd.func32, Tryd.ntmps32
        go_wp2_with fail
        refine (HB.out _).mono ?_
        rintro e w' ⟨rfl, m, rfl⟩
        dsimp only
        go_wp2_with fail
        refine (HSZ.out _).mono ?_
        rintro e w' ⟨rfl, rfl⟩
        dsimp only
        go_wp2_with fail
        refine (HSZ.out _).mono ?_
        rintro e w' ⟨rfl, rfl⟩
        dsimp only
        go_wp2
        go_ret3
        exact ⟨rfl, below_drewN (Below.refl _ w) m⟩
    · have e : decide (n = s.size ∧ n < z) = false := decide_eq_false (fun h => hl h.1)
      rw [e]
      have hl1 : ((n : Int) == (s.size : Int)) = false := by rw [beq_eq_false_iff_ne]; omega
      clear e hl hnz
      go_enter Tryd.func32, Tryd.ntmps32
      go_wp2_with fail
      refine (HB.out _).mono ?_
      rintro e w' ⟨rfl, m, rfl⟩
      dsimp only
      go_wp2_with fail
      refine (HSZ.out _).mono ?_
      rintro e w' ⟨rfl, rfl⟩
      dsimp only
      go_wp2
      go_ret3
      exact ⟨rfl, below_drewN (Below.refl _ w) m⟩
end Go.Proofs.YthfgnjdekhfabaaDoor
