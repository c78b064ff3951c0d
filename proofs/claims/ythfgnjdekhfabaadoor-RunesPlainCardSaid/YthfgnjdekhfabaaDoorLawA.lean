/- The plain law of the runes layer: however bytes are parted, the characters are the same. -/
import Derived.Test.YthfgnjdekhfabaaDoorWalkI
namespace Go.Proofs.YthfgnjdekhfabaaDoor
open Go.RowKit Ru

theorem goOn_stop (f n i : Nat) (r : List UInt8) (h : n ≤ i) : goOn f n i r = i := by
  cases r with
  | nil => rfl
  | cons b t => unfold goOn; rw [if_neg (by omega)]

theorem goOn_more (f n : Nat) (r : List UInt8) : ∀ (l : List UInt8) (i : Nat), (goOn f n i l < i + l.length ∨ n ≤ goOn f n i l) → goOn f n i (l ++ r) = goOn f n i l := by
  intro l
  induction l with
  | nil =>
    intro i h
    have e : goOn f n i [] = i := rfl
    rw [e] at h ⊢
    rw [List.nil_append]
    exact goOn_stop f n i r (by simp at h; omega)
  | cons b t ih =>
    intro i h
    rw [List.cons_append]
    unfold goOn at h ⊢
    split
    · rename_i hc
      rw [if_pos hc] at h
      exact ih (i + 1) (by rw [List.length_cons] at h; omega)
    · rfl

theorem data_app (x y : ByteArray) : (x ++ y).data.toList = x.data.toList ++ y.data.toList := by
  rw [ByteArray.data_append, Array.toList_append]

theorem begins_more (x y : ByteArray) (h0 : 0 < x.size) (h : begins x.data.toList < x.size ∨ size x[0].toNat ≤ begins x.data.toList) : begins (x ++ y).data.toList = begins x.data.toList := by
  have hx := get_bytes x 0 h0
  rw [List.drop_zero] at hx
  have hl : x.data.toList.length = x.size := Array.length_toList
  have h2 : (x.data.toList.drop 1).length = x.size - 1 := by rw [List.length_drop, hl]
  rw [data_app, hx, List.cons_append]
  rw [hx] at h
  have e : ∀ t, begins (x[0] :: t) = goOn x[0].toNat (size x[0].toNat) 1 t := fun _ => rfl
  rw [e] at h ⊢
  rw [e]
  exact goOn_more _ _ _ _ _ (by rw [h2]; omega)

theorem stp_more (x y : ByteArray) (h0 : 0 < x.size) (ho : (stp x x[0].toNat).2.2 = false) : stp (x ++ y) x[0].toNat = stp x x[0].toNat := by
  have hb := begins_le x h0
  have hs : (x ++ y).size = x.size + y.size := ByteArray.size_append
  unfold stp at ho ⊢
  by_cases hz : begins x.data.toList = size x[0].toNat
  · have e := begins_more x y h0 (.inr (by omega))
    rw [e, if_pos hz, if_pos hz]
    have e2 : (x ++ y).extract 0 (begins x.data.toList) = x.extract 0 (begins x.data.toList) := by
      rw [ByteArray.extract_append]
      have e3 : begins x.data.toList - x.size = 0 := by omega
      rw [e3]
      apply ByteArray.ext
      simp
    rw [e2]
  · rw [if_neg hz] at ho
    have hno : ¬ (begins x.data.toList = x.size ∧ begins x.data.toList < size x[0].toNat) := of_decide_eq_false ho
    have e := begins_more x y h0 (by omega)
    rw [e, if_neg hz, if_neg hz]
    congr 2
    rw [decide_eq_false hno]
    exact decide_eq_false (by rw [hs]; omega)

theorem empty_of (s : ByteArray) (h : s.size = 0) : s = ⟨#[]⟩ := by
  apply ByteArray.ext
  have hl : s.data.toList.length = s.size := Array.length_toList
  exact Array.toList_inj.1 (List.eq_nil_of_length_eq_zero (by omega))

theorem allF_fuel : ∀ (k : Nat) (s : ByteArray) (j : Nat), s.size ≤ j → j ≤ k → allF j s = allF s.size s := by
  intro k
  induction k with
  | zero =>
    intro s j h1 h2
    have e : s.size = j := by omega
    rw [e]
  | succ k ih =>
    intro s j h1 h2
    by_cases hj : s.size = j
    · rw [hj]
    · obtain ⟨j', rfl⟩ : ∃ j', j = j' + 1 := ⟨j - 1, by omega⟩
      by_cases h0 : 0 < s.size
      · obtain ⟨m, hm⟩ : ∃ m, s.size = m + 1 := ⟨s.size - 1, by omega⟩
        have hb := begins_le s h0
        have hr : (s.extract (stp s s[0].toNat).2.1 s.size).size ≤ m := by rw [stp_n]; simp; omega
        have e1 := ih (s.extract (stp s s[0].toNat).2.1 s.size) j' (by omega) (by omega)
        have e2 := ih (s.extract (stp s s[0].toNat).2.1 s.size) m (by omega) (by omega)
        have u1 : allF (j' + 1) s = if h : 0 < s.size then (if (stp s s[0].toNat).2.2 = true then ([], s) else ((stp s s[0].toNat).1 :: (allF j' (s.extract (stp s s[0].toNat).2.1 s.size)).1, (allF j' (s.extract (stp s s[0].toNat).2.1 s.size)).2)) else ([], ⟨#[]⟩) := rfl
        have u2 : allF (m + 1) s = if h : 0 < s.size then (if (stp s s[0].toNat).2.2 = true then ([], s) else ((stp s s[0].toNat).1 :: (allF m (s.extract (stp s s[0].toNat).2.1 s.size)).1, (allF m (s.extract (stp s s[0].toNat).2.1 s.size)).2)) else ([], ⟨#[]⟩) := rfl
        have e3 : allF s.size s = allF (m + 1) s := by rw [hm]
        rw [e3, u1, u2, dif_pos h0, dif_pos h0, e1, e2]
      · have hz : s.size = 0 := by omega
        have es := empty_of s hz
        rw [hz]
        unfold allF
        rw [dif_neg h0, ← es]

namespace Ru
/-- A text's characters, and what is left of it. -/
def al (s : ByteArray) : List Int × ByteArray := allF s.size s
end Ru

theorem al_nil (s : ByteArray) (h : s.size = 0) : al s = ([], ⟨#[]⟩) := by
  unfold al
  rw [h]
  have es := empty_of s h
  rw [es]
  rfl
theorem al_pos (s : ByteArray) (h0 : 0 < s.size) : al s = if (stp s s[0].toNat).2.2 = true then ([], s) else ((stp s s[0].toNat).1 :: (al (s.extract (stp s s[0].toNat).2.1 s.size)).1, (al (s.extract (stp s s[0].toNat).2.1 s.size)).2) := by
  obtain ⟨m, hm⟩ : ∃ m, s.size = m + 1 := ⟨s.size - 1, by omega⟩
  have hb := begins_le s h0
  have hr : (s.extract (stp s s[0].toNat).2.1 s.size).size ≤ m := by rw [stp_n]; simp; omega
  have e2 := allF_fuel m (s.extract (stp s s[0].toNat).2.1 s.size) m hr (Nat.le_refl _)
  have u2 : allF (m + 1) s = if h : 0 < s.size then (if (stp s s[0].toNat).2.2 = true then ([], s) else ((stp s s[0].toNat).1 :: (allF m (s.extract (stp s s[0].toNat).2.1 s.size)).1, (allF m (s.extract (stp s s[0].toNat).2.1 s.size)).2)) else ([], ⟨#[]⟩) := rfl
  have e3 : al s = allF (m + 1) s := by unfold al; rw [hm]
  rw [e3, u2, dif_pos h0, e2]
  rfl

theorem al_parted : ∀ (k : Nat) (x y : ByteArray), x.size ≤ k → al (x ++ y) = ((al x).1 ++ (al ((al x).2 ++ y)).1, (al ((al x).2 ++ y)).2) := by
  intro k
  induction k with
  | zero =>
    intro x y h
    have hx : x.size = 0 := by omega
    rw [al_nil x hx, empty_of x hx]
    simp
  | succ k ih =>
    intro x y h
    by_cases h0 : 0 < x.size
    · have hs : (x ++ y).size = x.size + y.size := ByteArray.size_append
      have h1 : 0 < (x ++ y).size := by omega
      have hg : (x ++ y)[0] = x[0] := by rw [ByteArray.getElem_append_left h0]
      have hb := begins_le x h0
      by_cases ho : (stp x x[0].toNat).2.2 = true
      · rw [al_pos x h0, if_pos ho]
        simp
      · have hof : (stp x x[0].toNat).2.2 = false := by simpa using ho
        have hm := stp_more x y h0 hof
        have hn := stp_n x x[0].toNat
        have e : (x ++ y).extract (stp x x[0].toNat).2.1 (x ++ y).size = x.extract (stp x x[0].toNat).2.1 x.size ++ y := by
          rw [hn, hs, ByteArray.extract_append]
          congr 1
          · apply ByteArray.ext
            rw [ByteArray.data_extract, ByteArray.data_extract]
            have hl : x.data.toList.length = x.size := Array.length_toList
            apply Array.toList_inj.1
            rw [Array.toList_extract, Array.toList_extract]
            simp only [List.extract_eq_take_drop]
            rw [List.take_of_length_le (by rw [List.length_drop]; omega), List.take_of_length_le (by rw [List.length_drop]; omega)]
          · apply ByteArray.ext
            have e0 : begins x.data.toList - x.size = 0 := by omega
            have e1 : x.size + y.size - x.size = y.size := by omega
            rw [e0, e1]
            simp
        rw [al_pos (x ++ y) h1, hg, hm, e, al_pos x h0, if_neg ho, if_neg ho]
        have hi := ih (x.extract (stp x x[0].toNat).2.1 x.size) y (by rw [hn]; simp; omega)
        rw [hi]
        simp
    · have hx : x.size = 0 := by omega
      rw [al_nil x hx, empty_of x hx]
      simp

end Go.Proofs.YthfgnjdekhfabaaDoor
