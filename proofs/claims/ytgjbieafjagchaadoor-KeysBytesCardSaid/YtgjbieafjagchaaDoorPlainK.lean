/- The plain mathematics of a key's bytes. No program occurs here. -/
import Derived.Test.YtgjbieafjagchaaDoorCmd
import Derived.Lib.Replace
import Derived.Lib.SplitLaws
namespace Go.Proofs.YtgjbieafjagchaaDoor
open Go.RowKit

/-- A text, each byte 02 in it twice. -/
def dbl (l : List UInt8) : List UInt8 := l.flatMap fun b => if b = 2 then [2, 2] else [b]

theorem repl_all : ∀ l : List UInt8, Lib.replaceK [2] [2, 2] (Lib.count l [2]) l = dbl l := by
  intro l
  induction l with
  | nil => rfl
  | cons b r ih =>
    by_cases hb : b = 2
    · subst hb
      rw [Lib.count_cons_eq, Nat.add_comm, Lib.replaceK_hit _ _ _ _ 0 (by rw [Lib.index_one]; simp [Lib.indexByte])]
      simp only [List.take_zero, List.nil_append, List.length_singleton, Nat.zero_add, List.drop_succ_cons, List.drop_zero]
      rw [ih]
      simp [dbl]
    · rw [Lib.count_cons_ne _ _ _ hb]
      have hd : dbl (b :: r) = b :: dbl r := by simp [dbl, hb]
      rw [hd, ← ih]
      cases hc : Lib.count r [2] with
      | zero => rfl
      | succ k =>
        obtain ⟨i, hi⟩ := Lib.index_of_count (s := r) (old := [2]) (by omega)
        have h1 : Lib.index (b :: r) [2] = ((i + 1 : Nat) : Int) := by
          rw [Lib.index_one] at hi ⊢
          simp only [Lib.indexByte]
          rw [hi]
          have e1 : (b == 2) = false := by rw [beq_eq_false_iff_ne]; exact hb
          have e2 : ((i : Int) == -1) = false := by rw [beq_eq_false_iff_ne]; omega
          simp [e1, e2]
        rw [Lib.replaceK_hit _ _ _ _ _ h1, Lib.replaceK_hit _ _ _ _ _ hi]
        simp

theorem repl_text (l : List UInt8) : Lib.replaceAll l [2] [2, 2] = dbl l := by
  unfold Lib.replaceAll Lib.replace
  rw [if_neg (by decide)]
  have e : Lib.replaceNum l [2] (-1) = Lib.count l [2] := by unfold Lib.replaceNum; rw [if_pos (.inl (by decide))]
  rw [e]
  exact repl_all l

/-- The keys that have bytes, but for texts: kind, number, bytes. -/
def table : List (Int × Int × List UInt8) := [(12, 0, [113]), (11, 1, [107]), (11, -1, [106]), (11, 10, [117]), (11, -10, [100]), (11, 1000, [103]), (11, -1000, [71]),
  (10, 1, [2, 104]), (10, 2, [2, 108]), (10, 3, [2, 107]), (10, 4, [2, 106]), (9, 1, [2, 49]), (9, 2, [2, 50]), (9, 3, [2, 51]), (9, 4, [2, 52]), (9, 5, [2, 53]), (9, 6, [2, 54]), (9, 7, [2, 55]), (9, 8, [2, 56]), (9, 9, [2, 57]),
  (2, 0, [2, 37]), (3, 0, [2, 34]), (4, 0, [2, 111]), (5, 0, [2, 120]), (6, 0, [2, 99]), (7, 0, [2, 110]), (8, 0, [2, 112]), (13, 0, [2, 100]), (14, 0, [2, 91])]

/-- A key's bytes, where it is no text. -/
def kb (kind n : Int) : List UInt8 := match table.find? (fun e => e.1 == kind && e.2.1 == n) with
  | some e => e.2.2
  | none => []

/-- What a byte, tried, tells of a key. -/
def hitA (b : Nat) (kind n : Int) : Bool := (rcmd b).1 != 1 && (rcmd b).1 != 0 && (rcmd b).1 == kind && (rcmd b).2 == n
def hitB (b : Nat) (kind n : Int) : Bool := (rcop b).1 != 0 && (rcop b).1 == kind && (rcop b).2 == n

theorem all_cmd : ((List.range 256).all fun b => (rcmd b).1 == 1 || (rcmd b).1 == 0 || kb (rcmd b).1 (rcmd b).2 == [2, b.toUInt8]) = true := by kernel_rfl
theorem all_cop : ((List.range 256).all fun b => (rcop b).1 == 0 || kb (rcop b).1 (rcop b).2 == [b.toUInt8]) = true := by kernel_rfl
theorem all_table : (table.all fun e => match e.2.2.getLast? with
  | some b => hitA b.toNat e.1 e.2.1 || hitB b.toNat e.1 e.2.1
  | none => false) = true := by kernel_rfl

theorem kb_cmd (b : Nat) (hb : b < 256) (kind n : Int) (h : hitA b kind n = true) : kb kind n = [2, b.toUInt8] := by
  unfold hitA at h
  simp only [Bool.and_eq_true, bne_iff_ne, beq_iff_eq] at h
  obtain ⟨⟨⟨h1, h0⟩, hk⟩, hn⟩ := h
  have := List.all_eq_true.1 all_cmd b (List.mem_range.2 hb)
  simp only [Bool.or_eq_true, beq_iff_eq] at this
  rcases this with (h | h) | h
  · exact absurd h h1
  · exact absurd h h0
  · rw [← hk, ← hn]; exact h
theorem kb_cop (b : Nat) (hb : b < 256) (kind n : Int) (h : hitB b kind n = true) : kb kind n = [b.toUInt8] := by
  unfold hitB at h
  simp only [Bool.and_eq_true, bne_iff_ne, beq_iff_eq] at h
  obtain ⟨⟨h0, hk⟩, hn⟩ := h
  have := List.all_eq_true.1 all_cop b (List.mem_range.2 hb)
  simp only [Bool.or_eq_true, beq_iff_eq] at this
  rcases this with h | h
  · exact absurd h h0
  · rw [← hk, ← hn]; exact h
theorem kb_none (kind n : Int) (h : ∀ b : Nat, b < 256 → hitA b kind n = false ∧ hitB b kind n = false) : kb kind n = [] := by
  unfold kb
  cases hf : table.find? (fun e => e.1 == kind && e.2.1 == n) with
  | none => rfl
  | some e =>
    have hm := List.mem_of_find?_eq_some hf
    have hp := List.find?_some hf
    simp only [Bool.and_eq_true, beq_iff_eq] at hp
    have ht := List.all_eq_true.1 all_table e hm
    cases hl : e.2.2.getLast? with
    | none => rw [hl] at ht; cases ht
    | some b =>
      rw [hl] at ht
      have hb := h b.toNat b.toNat_lt
      rw [hp.1, hp.2] at ht
      simp only [hb.1, hb.2] at ht
      cases ht

/-- The second of two bytes; 0: there are not two. -/
def snd2 : List UInt8 → Nat
  | [_, b] => b.toNat
  | _ => 0
/-- A key's byte behind a prefix; 0: there is none. -/
def bh (kind n : Int) : Nat := snd2 (kb kind n)
end Go.Proofs.YtgjbieafjagchaaDoor
