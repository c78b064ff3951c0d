/- The walk of the document's first: it is the program's step. -/
import Derived.Test.YthfgnjdekhfabaaDoorWalkL
namespace Go.Proofs.YthfgnjdekhfabaaDoor
open Go.RowKit Ru
set_option maxRecDepth 100000

namespace Ru
/-- The number that a sequence's bytes make, so far. -/
def pv (f base : Nat) (l : List UInt8) : Int := l.foldl (fun r b => r * 64 + (b.toNat : Int) - 128) ((f : Int) - base)
end Ru

theorem pv_snoc (f base : Nat) (l : List UInt8) (b : UInt8) : pv f base (l ++ [b]) = pv f base l * 64 + (b.toNat : Int) - 128 := by
  unfold pv
  rw [List.foldl_append]
  rfl

/-- The base of a first byte. -/
def baseOf (n : Nat) : Nat := if n = 2 then 192 else if n = 3 then 224 else if n = 4 then 240 else 0

theorem pv_of_seq {f : UInt8} {t : List UInt8} {v : Nat} (h : IsSeq f t v) : pv f.toNat (baseOf (t.length + 1)) t = v := by
  have hl := low_ge f.toNat
  cases h with
  | one h => show ((f.toNat : Int) - ((0 : Nat) : Int)) = _; omega
  | two b h1 h2 b1 b2 => show ((f.toNat : Int) - ((192 : Nat) : Int)) * 64 + (b.toNat : Int) - 128 = _; omega
  | three b c h1 h2 b1 b2 c1 c2 => show (((f.toNat : Int) - ((224 : Nat) : Int)) * 64 + (b.toNat : Int) - 128) * 64 + (c.toNat : Int) - 128 = _; omega
  | four b c d h1 h2 b1 b2 c1 c2 d1 d2 => show ((((f.toNat : Int) - ((240 : Nat) : Int)) * 64 + (b.toNat : Int) - 128) * 64 + (c.toNat : Int) - 128) * 64 + (d.toNat : Int) - 128 = _; omega

/-- A whole first sequence: the step is the number that its bytes make. -/
theorem stp_full (s : ByteArray) (h0 : 0 < s.size) (n : Nat) (hn : size s[0].toNat = n) (hb : begins s.data.toList = n) :
    stp s s[0].toNat = (pv s[0].toNat (baseOf n) ((s.data.toList.drop 1).take (n - 1)), n, false) := by
  have hx := get_bytes s 0 h0
  rw [List.drop_zero] at hx
  have hbl := begins_le s h0
  have hb2 : begins (s[0] :: s.data.toList.drop 1) = size s[0].toNat := by rw [← hx, hb, hn]
  obtain ⟨t, v, y, hr, hs, hl⟩ := seq_of_begins s[0] _ hb2 (by omega)
  have e : s = txt (s[0] :: (t ++ y)) := by
    rw [← hr, ← hx]
    exact (txt_of s).symm
  have h2 := stp_seq hs y
  rw [← e] at h2
  have hp := pv_of_seq hs
  have hn1 : n - 1 = t.length := by omega
  have hn2 : t.length + 1 = n := by omega
  rw [hr, hn1, List.take_left, h2, ← hn2, hp]

/-- What first leaves. -/
def Fst (w : World) (q : Int × Nat × Bool) (e : Ending) (w' : World) : Prop := e = .returned (.agg #[.int .i64 q.2.1, .int .i32 q.1, .bool q.2.2]) ∧ Below w.heap.size w w'

theorem take_next (s : ByteArray) (k : Nat) (hk1 : 1 ≤ k) (hk : k < s.size) : (s.data.toList.drop 1).take (k + 1 - 1) = (s.data.toList.drop 1).take (k - 1) ++ [s[k]] := by
  have hl : s.data.toList.length = s.size := Array.length_toList
  obtain ⟨j, rfl⟩ : ∃ j, k = j + 1 := ⟨k - 1, by omega⟩
  have e : (s.data.toList.drop 1)[j]'(by rw [List.length_drop]; omega) = s[j + 1] := by
    rw [List.getElem_drop]
    simp only [Nat.add_comm 1 j]
    rfl
  rw [Nat.add_sub_cancel, Nat.add_sub_cancel, List.take_succ_eq_append_getElem (by rw [List.length_drop]; omega), e]

/-- The loop's relation. -/
structure PAt (s : ByteArray) (f n T k : Nat) (R : Int) : Prop where
  k1 : 1 ≤ k
  kn : k ≤ n
  ks : k ≤ s.size
  num : R = pv f (baseOf n) ((s.data.toList.drop 1).take (k - 1))
  go : goOn f n k (s.data.toList.drop k) = T
  r0 : 0 ≤ R
  r4 : R ≤ 16777215
  r3 : k ≤ 3 → R ≤ 262143
  r2 : k ≤ 2 → R ≤ 4095
  r1 : k ≤ 1 → R ≤ 63

theorem PAt.next {s : ByteArray} {f n T k : Nat} {R : Int} (h : PAt s f n T k R) (hn : n ≤ 4) (hk : k < n) (hs : k < s.size) (h1 : k = 1 → low f ≤ s[k].toNat ∧ s[k].toNat ≤ high f) (h2 : 128 ≤ s[k].toNat ∧ s[k].toNat ≤ 191) :
    PAt s f n T (k + 1) (R * 64 + (s[k].toNat : Int) - 128) := by
  have a := h.r0
  have a1 := h.r1
  have a2 := h.r2
  have a3 := h.r3
  have a4 := h.k1
  refine ⟨by omega, hk, hs, ?_, ?_, by omega, by omega, by omega, by omega, by omega⟩
  · rw [take_next s k h.k1 hs, pv_snoc, ← h.num]
  · have hg := h.go
    rw [get_bytes s k hs, goOn_next f n k _ _ hk h1 h2] at hg
    exact hg

theorem PAt.stop {s : ByteArray} {f n T k : Nat} {R : Int} (h : PAt s f n T k R) (hs : k < s.size) (h2 : ¬ (k = 1 → low f ≤ s[k].toNat ∧ s[k].toNat ≤ high f) ∨ ¬ (128 ≤ s[k].toNat ∧ s[k].toNat ≤ 191)) : T = k := by
  have hg := h.go
  rw [get_bytes s k hs] at hg
  unfold goOn at hg
  rw [if_neg] at hg
  · exact hg.symm
  · intro hc
    rcases h2 with h2 | h2
    · exact h2 (fun e => of_decide_eq_true (hc.2.1 e))
    · exact h2 (of_decide_eq_true hc.2.2)

theorem PAt.ends {s : ByteArray} {f n T k : Nat} {R : Int} (h : PAt s f n T k R) (hs : ¬ k < s.size) : T = k := by
  have hg := h.go
  have hl : s.data.toList.length = s.size := Array.length_toList
  rw [List.drop_of_length_le (by omega)] at hg
  exact hg.symm

theorem part_back {w : World} {B : Nat} (h : Blk w B 53 #[.int .i64 0, .int .i32 0, .bool false]) (n r : Int) (o : Bool) (ob : Obj) :
    ((((w.setCell ⟨B, 0, none⟩ (.int .i64 n)).setCell ⟨B, 1, none⟩ (.int .i32 r)).setCell ⟨B, 2, none⟩ (.bool o)).alloc ob).cell? ⟨B, 0, none⟩ = some (.int .i64 n) ∧
    ((((w.setCell ⟨B, 0, none⟩ (.int .i64 n)).setCell ⟨B, 1, none⟩ (.int .i32 r)).setCell ⟨B, 2, none⟩ (.bool o)).alloc ob).cell? ⟨B, 1, none⟩ = some (.int .i32 r) ∧
    ((((w.setCell ⟨B, 0, none⟩ (.int .i64 n)).setCell ⟨B, 1, none⟩ (.int .i32 r)).setCell ⟨B, 2, none⟩ (.bool o)).alloc ob).cell? ⟨B, 2, none⟩ = some (.bool o) := by
  have hB := Blk.alloc (Blk.set_ (Blk.set_ (Blk.set_ h 0 (.int .i64 n)) 1 (.int .i32 r)) 2 (.bool o)) ob
  exact ⟨Blk.cell hB 0, Blk.cell hB 1, Blk.cell hB 2⟩

set_option maxHeartbeats 1600000 in
theorem first_2 (s : ByteArray) (w : World) (h0 : 0 < s.size) (h63 : s.size ≤ maxLen) (hz : size s[0].toNat = 2)
    (hf1 : 192 ≤ s[0].toNat) (hf2 : s[0].toNat ≤ 223)
    (hfo : ∀ wx, Calls Tryd.prog 33 #[.int .u8 s[0].toNat] wx (Fol wx 1 (low s[0].toNat) (high s[0].toNat))) :
    Calls Tryd.prog 24 #[.string s] w (Fst w (stp s s[0].toNat)) := by
  unfold maxLen at h63
  have hz0 : (0 : Int) < (s.size : Int) := by omega
  have HFUL := hide (fun hb => stp_full s h0 2 hz hb)
  have hst : begins s.data.toList ≠ 2 → stp s s[0].toNat = (65533, begins s.data.toList, decide (begins s.data.toList = s.size ∧ begins s.data.toList < 2)) := by
    intro h
    unfold stp
    rw [hz, if_neg h]
  have hbeg : begins s.data.toList = goOn s[0].toNat 2 1 (s.data.toList.drop 1) := by
    have := get_bytes s 0 h0
    rw [List.drop_zero] at this
    rw [this, ← hz]
    rfl
  have hst0 : PAt s s[0].toNat 2 (begins s.data.toList) 1 ((s[0].toNat : Int) - 192) :=
    ⟨Nat.le_refl _, by omega, h0, rfl, hbeg.symm, by omega, by omega, by omega, by omega, by omega⟩
  have hlo := low_ge s[0].toNat
  have hhi := high_le s[0].toNat
  obtain ⟨f, hf⟩ : ∃ f, s[0] = f := ⟨_, rfl⟩
  rw [hf] at HFUL hst hst0 hfo hlo hhi hf1 hf2 ⊢
  generalize begins s.data.toList = T at HFUL hst hst0
  generalize stp s f.toNat = q at HFUL hst ⊢
  have HST := hide hst
  have HST0 := hide hst0
  have HFO := hide hfo
  clear hst hst0 hfo hbeg hz
  have hb0 : Blk (w.alloc (.cells #[.int .i64 0, .int .i32 0, .bool false] 53)) w.heap.size 53 #[.int .i64 0, .int .i32 0, .bool false] := Blk.new w _ _
  go_enter Tryd.func24, Tryd.ntmps24
  go_wp2_with fail
  refine (HFO.out _).mono ?_
  rintro e w1 ⟨rfl, b1⟩
  have hb1 : Blk w1 w.heap.size 53 #[.int .i64 0, .int .i32 0, .bool false] := Blk.below hb0 b1 (by simp)
  have c0 := Blk.cell hb1 0
  have c1 := Blk.cell hb1 1
  have c2 := Blk.cell hb1 2
  have g0 := Blk.frozen hb1 0
  have g1 := Blk.frozen hb1 1
  have g2 := Blk.frozen hb1 2
  have hup : w.heap.size < w1.heap.size := Blk.lt hb1
  have hbw : Below w.heap.size w w1 := ((Below.refl _ w).alloc (Nat.le_refl _) _).trans (b1.mono (by simp))
  have HBW := hide hbw
  have HB1 := hide hb1
  clear hb1 b1 hbw hb0
  dsimp only
  go_wp2_with fail
  go_loop [4, 5] (fun r i => ∃ (k : Nat) (R : Int), i = .int .i64 k ∧ r = .int .i64 R ∧ PAt s f.toNat 2 T k R) (fun _ i => 5 - (intOf i).toNat)
  case atStart => exact ⟨1, _, rfl, rfl, HST0.out⟩
  case round =>
    obtain ⟨k, R, rfl, rfl, hP⟩ := hrel
    have hR0 := hP.r0
    have hR1 := hP.r4
    have hk1 := hP.k1
    have hkn := hP.kn
    have hks := hP.ks
    by_cases hlt : k < 2
    · by_cases hlk : k < s.size
      · have hR3 := hP.r3 (by omega)
        have HN := hide (hP.next (by omega) hlt hlk)
        have HS := hide (hP.stop hlk)
        obtain ⟨b, hb⟩ : ∃ b, s[k] = b := ⟨_, rfl⟩
        rw [hb] at HN HS
        have hb256 : b.toNat < 256 := b.toNat_lt
        by_cases hone : k = 1
        · subst hone
          by_cases hx : b.toNat < low f.toNat
          · have hT : T = 1 := HS.out (.inl (fun h => by have := h rfl; omega))
            subst hT
            have hq : q = (65533, 1, false) := by rw [HST.out (by omega)]; congr 2; exact decide_eq_false (by omega)
            have HQ := hide hq
            clear hP hq
            go_wp2
            obtain ⟨k0, k1, k2⟩ := part_back HB1.out 1 65533 false (.cells #[.int .i64 1, .int .i64 (low f.toNat), .int .i64 (high f.toNat)] 74)
            refine bodyPost_ret (v := .agg #[.int .i64 1, .int .i32 65533, .bool false]) (by simp [results, Tryd.results24, go_sem, k0, k1, k2]) rfl ⟨by rw [HQ.out]; rfl, ?_⟩
            exact (((HBW.out.setCell (p := ⟨w.heap.size, 0, none⟩) (Nat.le_refl _) _).setCell (p := ⟨w.heap.size, 1, none⟩) (Nat.le_refl _) _).setCell (p := ⟨w.heap.size, 2, none⟩) (Nat.le_refl _) _).alloc (by simp; omega) _
          · by_cases hy : high f.toNat < b.toNat
            · have hT : T = 1 := HS.out (.inl (fun h => by have := h rfl; omega))
              subst hT
              have hq : q = (65533, 1, false) := by rw [HST.out (by omega)]; congr 2; exact decide_eq_false (by omega)
              have HQ := hide hq
              clear hP hq
              go_wp2
              obtain ⟨k0, k1, k2⟩ := part_back HB1.out 1 65533 false (.cells #[.int .i64 1, .int .i64 (low f.toNat), .int .i64 (high f.toNat)] 74)
              refine bodyPost_ret (v := .agg #[.int .i64 1, .int .i32 65533, .bool false]) (by simp [results, Tryd.results24, go_sem, k0, k1, k2]) rfl ⟨by rw [HQ.out]; rfl, ?_⟩
              exact (((HBW.out.setCell (p := ⟨w.heap.size, 0, none⟩) (Nat.le_refl _) _).setCell (p := ⟨w.heap.size, 1, none⟩) (Nat.le_refl _) _).setCell (p := ⟨w.heap.size, 2, none⟩) (Nat.le_refl _) _).alloc (by simp; omega) _
            · have HX := hide (HN.out (fun _ => ⟨by omega, by omega⟩) ⟨by omega, by omega⟩)
              clear hP
              go_wp2
              go_round
              case rel => exact ⟨1 + 1, _, rfl, rfl, HX.out⟩
              case measure => simp [intOf]
        · exfalso; omega
      · have hT : T = k := hP.ends hlk
        subst hT
        have hks2 : T = s.size := by omega
        have hq : q = (65533, T, true) := by rw [HST.out (by omega)]; congr 2; exact decide_eq_true ⟨hks2, hlt⟩
        have HQ := hide hq
        clear hP hq hks2
        go_wp2
        obtain ⟨k0, k1, k2⟩ := part_back HB1.out T 65533 true (.cells #[.int .i64 1, .int .i64 (low f.toNat), .int .i64 (high f.toNat)] 74)
        refine bodyPost_ret (v := .agg #[.int .i64 T, .int .i32 65533, .bool true]) (by simp [results, Tryd.results24, go_sem, k0, k1, k2]) rfl ⟨by rw [HQ.out], ?_⟩
        exact (((HBW.out.setCell (p := ⟨w.heap.size, 0, none⟩) (Nat.le_refl _) _).setCell (p := ⟨w.heap.size, 1, none⟩) (Nat.le_refl _) _).setCell (p := ⟨w.heap.size, 2, none⟩) (Nat.le_refl _) _).alloc (by simp; omega) _
    · obtain rfl : k = 2 := by omega
      have hT : T = 2 := by rw [← hP.go]; exact goOn_end _ _ _
      have hq : q = (R, 2, false) := by rw [HFUL.out hT, hP.num]
      have HQ := hide hq
      clear hP hq hT
      go_wp2
      obtain ⟨k0, k1, k2⟩ := part_back HB1.out 2 R false (.cells #[.int .i64 1, .int .i64 (low f.toNat), .int .i64 (high f.toNat)] 74)
      refine bodyPost_ret (v := .agg #[.int .i64 2, .int .i32 R, .bool false]) (by simp [results, Tryd.results24, go_sem, k0, k1, k2]) rfl ⟨by rw [HQ.out]; rfl, ?_⟩
      exact (((HBW.out.setCell (p := ⟨w.heap.size, 0, none⟩) (Nat.le_refl _) _).setCell (p := ⟨w.heap.size, 1, none⟩) (Nat.le_refl _) _).setCell (p := ⟨w.heap.size, 2, none⟩) (Nat.le_refl _) _).alloc (by simp; omega) _

set_option maxHeartbeats 1600000 in
theorem first_3 (s : ByteArray) (w : World) (h0 : 0 < s.size) (h63 : s.size ≤ maxLen) (hz : size s[0].toNat = 3)
    (hf1 : 224 ≤ s[0].toNat) (hf2 : s[0].toNat ≤ 239)
    (hfo : ∀ wx, Calls Tryd.prog 33 #[.int .u8 s[0].toNat] wx (Fol wx 2 (low s[0].toNat) (high s[0].toNat))) :
    Calls Tryd.prog 24 #[.string s] w (Fst w (stp s s[0].toNat)) := by
  unfold maxLen at h63
  have hz0 : (0 : Int) < (s.size : Int) := by omega
  have HFUL := hide (fun hb => stp_full s h0 3 hz hb)
  have hst : begins s.data.toList ≠ 3 → stp s s[0].toNat = (65533, begins s.data.toList, decide (begins s.data.toList = s.size ∧ begins s.data.toList < 3)) := by
    intro h
    unfold stp
    rw [hz, if_neg h]
  have hbeg : begins s.data.toList = goOn s[0].toNat 3 1 (s.data.toList.drop 1) := by
    have := get_bytes s 0 h0
    rw [List.drop_zero] at this
    rw [this, ← hz]
    rfl
  have hst0 : PAt s s[0].toNat 3 (begins s.data.toList) 1 ((s[0].toNat : Int) - 224) :=
    ⟨Nat.le_refl _, by omega, h0, rfl, hbeg.symm, by omega, by omega, by omega, by omega, by omega⟩
  have hlo := low_ge s[0].toNat
  have hhi := high_le s[0].toNat
  obtain ⟨f, hf⟩ : ∃ f, s[0] = f := ⟨_, rfl⟩
  rw [hf] at HFUL hst hst0 hfo hlo hhi hf1 hf2 ⊢
  generalize begins s.data.toList = T at HFUL hst hst0
  generalize stp s f.toNat = q at HFUL hst ⊢
  have HST := hide hst
  have HST0 := hide hst0
  have HFO := hide hfo
  clear hst hst0 hfo hbeg hz
  have hb0 : Blk (w.alloc (.cells #[.int .i64 0, .int .i32 0, .bool false] 53)) w.heap.size 53 #[.int .i64 0, .int .i32 0, .bool false] := Blk.new w _ _
  go_enter Tryd.func24, Tryd.ntmps24
  go_wp2_with fail
  refine (HFO.out _).mono ?_
  rintro e w1 ⟨rfl, b1⟩
  have hb1 : Blk w1 w.heap.size 53 #[.int .i64 0, .int .i32 0, .bool false] := Blk.below hb0 b1 (by simp)
  have c0 := Blk.cell hb1 0
  have c1 := Blk.cell hb1 1
  have c2 := Blk.cell hb1 2
  have g0 := Blk.frozen hb1 0
  have g1 := Blk.frozen hb1 1
  have g2 := Blk.frozen hb1 2
  have hup : w.heap.size < w1.heap.size := Blk.lt hb1
  have hbw : Below w.heap.size w w1 := ((Below.refl _ w).alloc (Nat.le_refl _) _).trans (b1.mono (by simp))
  have HBW := hide hbw
  have HB1 := hide hb1
  clear hb1 b1 hbw hb0
  dsimp only
  go_wp2_with fail
  go_loop [4, 5] (fun r i => ∃ (k : Nat) (R : Int), i = .int .i64 k ∧ r = .int .i64 R ∧ PAt s f.toNat 3 T k R) (fun _ i => 5 - (intOf i).toNat)
  case atStart => exact ⟨1, _, rfl, rfl, HST0.out⟩
  case round =>
    obtain ⟨k, R, rfl, rfl, hP⟩ := hrel
    have hR0 := hP.r0
    have hR1 := hP.r4
    have hk1 := hP.k1
    have hkn := hP.kn
    have hks := hP.ks
    by_cases hlt : k < 3
    · by_cases hlk : k < s.size
      · have hR3 := hP.r3 (by omega)
        have HN := hide (hP.next (by omega) hlt hlk)
        have HS := hide (hP.stop hlk)
        obtain ⟨b, hb⟩ : ∃ b, s[k] = b := ⟨_, rfl⟩
        rw [hb] at HN HS
        have hb256 : b.toNat < 256 := b.toNat_lt
        by_cases hone : k = 1
        · subst hone
          by_cases hx : b.toNat < low f.toNat
          · have hT : T = 1 := HS.out (.inl (fun h => by have := h rfl; omega))
            subst hT
            have hq : q = (65533, 1, false) := by rw [HST.out (by omega)]; congr 2; exact decide_eq_false (by omega)
            have HQ := hide hq
            clear hP hq
            go_wp2
            obtain ⟨k0, k1, k2⟩ := part_back HB1.out 1 65533 false (.cells #[.int .i64 2, .int .i64 (low f.toNat), .int .i64 (high f.toNat)] 74)
            refine bodyPost_ret (v := .agg #[.int .i64 1, .int .i32 65533, .bool false]) (by simp [results, Tryd.results24, go_sem, k0, k1, k2]) rfl ⟨by rw [HQ.out]; rfl, ?_⟩
            exact (((HBW.out.setCell (p := ⟨w.heap.size, 0, none⟩) (Nat.le_refl _) _).setCell (p := ⟨w.heap.size, 1, none⟩) (Nat.le_refl _) _).setCell (p := ⟨w.heap.size, 2, none⟩) (Nat.le_refl _) _).alloc (by simp; omega) _
          · by_cases hy : high f.toNat < b.toNat
            · have hT : T = 1 := HS.out (.inl (fun h => by have := h rfl; omega))
              subst hT
              have hq : q = (65533, 1, false) := by rw [HST.out (by omega)]; congr 2; exact decide_eq_false (by omega)
              have HQ := hide hq
              clear hP hq
              go_wp2
              obtain ⟨k0, k1, k2⟩ := part_back HB1.out 1 65533 false (.cells #[.int .i64 2, .int .i64 (low f.toNat), .int .i64 (high f.toNat)] 74)
              refine bodyPost_ret (v := .agg #[.int .i64 1, .int .i32 65533, .bool false]) (by simp [results, Tryd.results24, go_sem, k0, k1, k2]) rfl ⟨by rw [HQ.out]; rfl, ?_⟩
              exact (((HBW.out.setCell (p := ⟨w.heap.size, 0, none⟩) (Nat.le_refl _) _).setCell (p := ⟨w.heap.size, 1, none⟩) (Nat.le_refl _) _).setCell (p := ⟨w.heap.size, 2, none⟩) (Nat.le_refl _) _).alloc (by simp; omega) _
            · have HX := hide (HN.out (fun _ => ⟨by omega, by omega⟩) ⟨by omega, by omega⟩)
              clear hP
              go_wp2
              go_round
              case rel => exact ⟨1 + 1, _, rfl, rfl, HX.out⟩
              case measure => simp [intOf]
        · have hone' : ((k : Int) == 1) = false := by rw [beq_eq_false_iff_ne]; omega
          by_cases hx : b.toNat < 128
          · have hx' : (b.toNat : Int) < 128 := by omega
            have hT : T = k := HS.out (.inr (by omega))
            subst hT
            have hq : q = (65533, T, false) := by rw [HST.out (by omega)]; congr 2; exact decide_eq_false (by omega)
            have HQ := hide hq
            clear hP hq
            go_wp2
            obtain ⟨k0, k1, k2⟩ := part_back HB1.out T 65533 false (.cells #[.int .i64 2, .int .i64 (low f.toNat), .int .i64 (high f.toNat)] 74)
            refine bodyPost_ret (v := .agg #[.int .i64 T, .int .i32 65533, .bool false]) (by simp [results, Tryd.results24, go_sem, k0, k1, k2]) rfl ⟨by rw [HQ.out], ?_⟩
            exact (((HBW.out.setCell (p := ⟨w.heap.size, 0, none⟩) (Nat.le_refl _) _).setCell (p := ⟨w.heap.size, 1, none⟩) (Nat.le_refl _) _).setCell (p := ⟨w.heap.size, 2, none⟩) (Nat.le_refl _) _).alloc (by simp; omega) _
          · have hx' : ¬ (b.toNat : Int) < 128 := by omega
            by_cases hy : 191 < b.toNat
            · have hy' : (191 : Int) < (b.toNat : Int) := by omega
              have hT : T = k := HS.out (.inr (by omega))
              subst hT
              have hq : q = (65533, T, false) := by rw [HST.out (by omega)]; congr 2; exact decide_eq_false (by omega)
              have HQ := hide hq
              clear hP hq
              go_wp2
              obtain ⟨k0, k1, k2⟩ := part_back HB1.out T 65533 false (.cells #[.int .i64 2, .int .i64 (low f.toNat), .int .i64 (high f.toNat)] 74)
              refine bodyPost_ret (v := .agg #[.int .i64 T, .int .i32 65533, .bool false]) (by simp [results, Tryd.results24, go_sem, k0, k1, k2]) rfl ⟨by rw [HQ.out], ?_⟩
              exact (((HBW.out.setCell (p := ⟨w.heap.size, 0, none⟩) (Nat.le_refl _) _).setCell (p := ⟨w.heap.size, 1, none⟩) (Nat.le_refl _) _).setCell (p := ⟨w.heap.size, 2, none⟩) (Nat.le_refl _) _).alloc (by simp; omega) _
            · have hy' : ¬ (191 : Int) < (b.toNat : Int) := by omega
              have HX := hide (HN.out (fun h => absurd h hone) ⟨by omega, by omega⟩)
              clear hP
              go_wp2
              go_round
              case rel => exact ⟨k + 1, _, by go_num, rfl, HX.out⟩
              case measure => simp [intOf]; omega
      · have hT : T = k := hP.ends hlk
        subst hT
        have hks2 : T = s.size := by omega
        have hq : q = (65533, T, true) := by rw [HST.out (by omega)]; congr 2; exact decide_eq_true ⟨hks2, hlt⟩
        have HQ := hide hq
        clear hP hq hks2
        go_wp2
        obtain ⟨k0, k1, k2⟩ := part_back HB1.out T 65533 true (.cells #[.int .i64 2, .int .i64 (low f.toNat), .int .i64 (high f.toNat)] 74)
        refine bodyPost_ret (v := .agg #[.int .i64 T, .int .i32 65533, .bool true]) (by simp [results, Tryd.results24, go_sem, k0, k1, k2]) rfl ⟨by rw [HQ.out], ?_⟩
        exact (((HBW.out.setCell (p := ⟨w.heap.size, 0, none⟩) (Nat.le_refl _) _).setCell (p := ⟨w.heap.size, 1, none⟩) (Nat.le_refl _) _).setCell (p := ⟨w.heap.size, 2, none⟩) (Nat.le_refl _) _).alloc (by simp; omega) _
    · obtain rfl : k = 3 := by omega
      have hT : T = 3 := by rw [← hP.go]; exact goOn_end _ _ _
      have hq : q = (R, 3, false) := by rw [HFUL.out hT, hP.num]
      have HQ := hide hq
      clear hP hq hT
      go_wp2
      obtain ⟨k0, k1, k2⟩ := part_back HB1.out 3 R false (.cells #[.int .i64 2, .int .i64 (low f.toNat), .int .i64 (high f.toNat)] 74)
      refine bodyPost_ret (v := .agg #[.int .i64 3, .int .i32 R, .bool false]) (by simp [results, Tryd.results24, go_sem, k0, k1, k2]) rfl ⟨by rw [HQ.out]; rfl, ?_⟩
      exact (((HBW.out.setCell (p := ⟨w.heap.size, 0, none⟩) (Nat.le_refl _) _).setCell (p := ⟨w.heap.size, 1, none⟩) (Nat.le_refl _) _).setCell (p := ⟨w.heap.size, 2, none⟩) (Nat.le_refl _) _).alloc (by simp; omega) _

set_option maxHeartbeats 1600000 in
theorem first_4 (s : ByteArray) (w : World) (h0 : 0 < s.size) (h63 : s.size ≤ maxLen) (hz : size s[0].toNat = 4)
    (hf1 : 240 ≤ s[0].toNat) (hf2 : s[0].toNat ≤ 244)
    (hfo : ∀ wx, Calls Tryd.prog 33 #[.int .u8 s[0].toNat] wx (Fol wx 3 (low s[0].toNat) (high s[0].toNat))) :
    Calls Tryd.prog 24 #[.string s] w (Fst w (stp s s[0].toNat)) := by
  unfold maxLen at h63
  have hz0 : (0 : Int) < (s.size : Int) := by omega
  have HFUL := hide (fun hb => stp_full s h0 4 hz hb)
  have hst : begins s.data.toList ≠ 4 → stp s s[0].toNat = (65533, begins s.data.toList, decide (begins s.data.toList = s.size ∧ begins s.data.toList < 4)) := by
    intro h
    unfold stp
    rw [hz, if_neg h]
  have hbeg : begins s.data.toList = goOn s[0].toNat 4 1 (s.data.toList.drop 1) := by
    have := get_bytes s 0 h0
    rw [List.drop_zero] at this
    rw [this, ← hz]
    rfl
  have hst0 : PAt s s[0].toNat 4 (begins s.data.toList) 1 ((s[0].toNat : Int) - 240) :=
    ⟨Nat.le_refl _, by omega, h0, rfl, hbeg.symm, by omega, by omega, by omega, by omega, by omega⟩
  have hlo := low_ge s[0].toNat
  have hhi := high_le s[0].toNat
  obtain ⟨f, hf⟩ : ∃ f, s[0] = f := ⟨_, rfl⟩
  rw [hf] at HFUL hst hst0 hfo hlo hhi hf1 hf2 ⊢
  generalize begins s.data.toList = T at HFUL hst hst0
  generalize stp s f.toNat = q at HFUL hst ⊢
  have HST := hide hst
  have HST0 := hide hst0
  have HFO := hide hfo
  clear hst hst0 hfo hbeg hz
  have hb0 : Blk (w.alloc (.cells #[.int .i64 0, .int .i32 0, .bool false] 53)) w.heap.size 53 #[.int .i64 0, .int .i32 0, .bool false] := Blk.new w _ _
  go_enter Tryd.func24, Tryd.ntmps24
  go_wp2_with fail
  refine (HFO.out _).mono ?_
  rintro e w1 ⟨rfl, b1⟩
  have hb1 : Blk w1 w.heap.size 53 #[.int .i64 0, .int .i32 0, .bool false] := Blk.below hb0 b1 (by simp)
  have c0 := Blk.cell hb1 0
  have c1 := Blk.cell hb1 1
  have c2 := Blk.cell hb1 2
  have g0 := Blk.frozen hb1 0
  have g1 := Blk.frozen hb1 1
  have g2 := Blk.frozen hb1 2
  have hup : w.heap.size < w1.heap.size := Blk.lt hb1
  have hbw : Below w.heap.size w w1 := ((Below.refl _ w).alloc (Nat.le_refl _) _).trans (b1.mono (by simp))
  have HBW := hide hbw
  have HB1 := hide hb1
  clear hb1 b1 hbw hb0
  dsimp only
  go_wp2_with fail
  go_loop [4, 5] (fun r i => ∃ (k : Nat) (R : Int), i = .int .i64 k ∧ r = .int .i64 R ∧ PAt s f.toNat 4 T k R) (fun _ i => 5 - (intOf i).toNat)
  case atStart => exact ⟨1, _, rfl, rfl, HST0.out⟩
  case round =>
    obtain ⟨k, R, rfl, rfl, hP⟩ := hrel
    have hR0 := hP.r0
    have hR1 := hP.r4
    have hk1 := hP.k1
    have hkn := hP.kn
    have hks := hP.ks
    by_cases hlt : k < 4
    · by_cases hlk : k < s.size
      · have hR3 := hP.r3 (by omega)
        have HN := hide (hP.next (by omega) hlt hlk)
        have HS := hide (hP.stop hlk)
        obtain ⟨b, hb⟩ : ∃ b, s[k] = b := ⟨_, rfl⟩
        rw [hb] at HN HS
        have hb256 : b.toNat < 256 := b.toNat_lt
        by_cases hone : k = 1
        · subst hone
          by_cases hx : b.toNat < low f.toNat
          · have hT : T = 1 := HS.out (.inl (fun h => by have := h rfl; omega))
            subst hT
            have hq : q = (65533, 1, false) := by rw [HST.out (by omega)]; congr 2; exact decide_eq_false (by omega)
            have HQ := hide hq
            clear hP hq
            go_wp2
            obtain ⟨k0, k1, k2⟩ := part_back HB1.out 1 65533 false (.cells #[.int .i64 3, .int .i64 (low f.toNat), .int .i64 (high f.toNat)] 74)
            refine bodyPost_ret (v := .agg #[.int .i64 1, .int .i32 65533, .bool false]) (by simp [results, Tryd.results24, go_sem, k0, k1, k2]) rfl ⟨by rw [HQ.out]; rfl, ?_⟩
            exact (((HBW.out.setCell (p := ⟨w.heap.size, 0, none⟩) (Nat.le_refl _) _).setCell (p := ⟨w.heap.size, 1, none⟩) (Nat.le_refl _) _).setCell (p := ⟨w.heap.size, 2, none⟩) (Nat.le_refl _) _).alloc (by simp; omega) _
          · by_cases hy : high f.toNat < b.toNat
            · have hT : T = 1 := HS.out (.inl (fun h => by have := h rfl; omega))
              subst hT
              have hq : q = (65533, 1, false) := by rw [HST.out (by omega)]; congr 2; exact decide_eq_false (by omega)
              have HQ := hide hq
              clear hP hq
              go_wp2
              obtain ⟨k0, k1, k2⟩ := part_back HB1.out 1 65533 false (.cells #[.int .i64 3, .int .i64 (low f.toNat), .int .i64 (high f.toNat)] 74)
              refine bodyPost_ret (v := .agg #[.int .i64 1, .int .i32 65533, .bool false]) (by simp [results, Tryd.results24, go_sem, k0, k1, k2]) rfl ⟨by rw [HQ.out]; rfl, ?_⟩
              exact (((HBW.out.setCell (p := ⟨w.heap.size, 0, none⟩) (Nat.le_refl _) _).setCell (p := ⟨w.heap.size, 1, none⟩) (Nat.le_refl _) _).setCell (p := ⟨w.heap.size, 2, none⟩) (Nat.le_refl _) _).alloc (by simp; omega) _
            · have HX := hide (HN.out (fun _ => ⟨by omega, by omega⟩) ⟨by omega, by omega⟩)
              clear hP
              go_wp2
              go_round
              case rel => exact ⟨1 + 1, _, rfl, rfl, HX.out⟩
              case measure => simp [intOf]
        · have hone' : ((k : Int) == 1) = false := by rw [beq_eq_false_iff_ne]; omega
          by_cases hx : b.toNat < 128
          · have hx' : (b.toNat : Int) < 128 := by omega
            have hT : T = k := HS.out (.inr (by omega))
            subst hT
            have hq : q = (65533, T, false) := by rw [HST.out (by omega)]; congr 2; exact decide_eq_false (by omega)
            have HQ := hide hq
            clear hP hq
            go_wp2
            obtain ⟨k0, k1, k2⟩ := part_back HB1.out T 65533 false (.cells #[.int .i64 3, .int .i64 (low f.toNat), .int .i64 (high f.toNat)] 74)
            refine bodyPost_ret (v := .agg #[.int .i64 T, .int .i32 65533, .bool false]) (by simp [results, Tryd.results24, go_sem, k0, k1, k2]) rfl ⟨by rw [HQ.out], ?_⟩
            exact (((HBW.out.setCell (p := ⟨w.heap.size, 0, none⟩) (Nat.le_refl _) _).setCell (p := ⟨w.heap.size, 1, none⟩) (Nat.le_refl _) _).setCell (p := ⟨w.heap.size, 2, none⟩) (Nat.le_refl _) _).alloc (by simp; omega) _
          · have hx' : ¬ (b.toNat : Int) < 128 := by omega
            by_cases hy : 191 < b.toNat
            · have hy' : (191 : Int) < (b.toNat : Int) := by omega
              have hT : T = k := HS.out (.inr (by omega))
              subst hT
              have hq : q = (65533, T, false) := by rw [HST.out (by omega)]; congr 2; exact decide_eq_false (by omega)
              have HQ := hide hq
              clear hP hq
              go_wp2
              obtain ⟨k0, k1, k2⟩ := part_back HB1.out T 65533 false (.cells #[.int .i64 3, .int .i64 (low f.toNat), .int .i64 (high f.toNat)] 74)
              refine bodyPost_ret (v := .agg #[.int .i64 T, .int .i32 65533, .bool false]) (by simp [results, Tryd.results24, go_sem, k0, k1, k2]) rfl ⟨by rw [HQ.out], ?_⟩
              exact (((HBW.out.setCell (p := ⟨w.heap.size, 0, none⟩) (Nat.le_refl _) _).setCell (p := ⟨w.heap.size, 1, none⟩) (Nat.le_refl _) _).setCell (p := ⟨w.heap.size, 2, none⟩) (Nat.le_refl _) _).alloc (by simp; omega) _
            · have hy' : ¬ (191 : Int) < (b.toNat : Int) := by omega
              have HX := hide (HN.out (fun h => absurd h hone) ⟨by omega, by omega⟩)
              clear hP
              go_wp2
              go_round
              case rel => exact ⟨k + 1, _, by go_num, rfl, HX.out⟩
              case measure => simp [intOf]; omega
      · have hT : T = k := hP.ends hlk
        subst hT
        have hks2 : T = s.size := by omega
        have hq : q = (65533, T, true) := by rw [HST.out (by omega)]; congr 2; exact decide_eq_true ⟨hks2, hlt⟩
        have HQ := hide hq
        clear hP hq hks2
        go_wp2
        obtain ⟨k0, k1, k2⟩ := part_back HB1.out T 65533 true (.cells #[.int .i64 3, .int .i64 (low f.toNat), .int .i64 (high f.toNat)] 74)
        refine bodyPost_ret (v := .agg #[.int .i64 T, .int .i32 65533, .bool true]) (by simp [results, Tryd.results24, go_sem, k0, k1, k2]) rfl ⟨by rw [HQ.out], ?_⟩
        exact (((HBW.out.setCell (p := ⟨w.heap.size, 0, none⟩) (Nat.le_refl _) _).setCell (p := ⟨w.heap.size, 1, none⟩) (Nat.le_refl _) _).setCell (p := ⟨w.heap.size, 2, none⟩) (Nat.le_refl _) _).alloc (by simp; omega) _
    · obtain rfl : k = 4 := by omega
      have hT : T = 4 := by rw [← hP.go]; exact goOn_end _ _ _
      have hq : q = (R, 4, false) := by rw [HFUL.out hT, hP.num]
      have HQ := hide hq
      clear hP hq hT
      go_wp2
      obtain ⟨k0, k1, k2⟩ := part_back HB1.out 4 R false (.cells #[.int .i64 3, .int .i64 (low f.toNat), .int .i64 (high f.toNat)] 74)
      refine bodyPost_ret (v := .agg #[.int .i64 4, .int .i32 R, .bool false]) (by simp [results, Tryd.results24, go_sem, k0, k1, k2]) rfl ⟨by rw [HQ.out]; rfl, ?_⟩
      exact (((HBW.out.setCell (p := ⟨w.heap.size, 0, none⟩) (Nat.le_refl _) _).setCell (p := ⟨w.heap.size, 1, none⟩) (Nat.le_refl _) _).setCell (p := ⟨w.heap.size, 2, none⟩) (Nat.le_refl _) _).alloc (by simp; omega) _

end Go.Proofs.YthfgnjdekhfabaaDoor
