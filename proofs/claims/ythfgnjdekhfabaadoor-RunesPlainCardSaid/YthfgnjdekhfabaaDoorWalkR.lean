/- The walk of in: is a character in one of some ranges. -/
import Derived.Test.YthfgnjdekhfabaaDoorWalkP
namespace Go.Proofs.YthfgnjdekhfabaaDoor
open Go.RowKit Ru
set_option maxRecDepth 100000

namespace Ru
/-- Is a character in one of some ranges? -/
def inS (r : Int) (l : List (Int × Int)) : Bool := l.any fun p => decide (p.1 ≤ r) && decide (r ≤ p.2)
end Ru

theorem inS_snoc (r : Int) (l : List (Int × Int)) (k : Nat) (h : k < l.length) : inS r (l.take (k + 1)) = (inS r (l.take k) || (decide (l[k].1 ≤ r) && decide (r ≤ l[k].2))) := by
  unfold inS
  rw [List.take_succ_eq_append_getElem h, List.any_append]
  simp

theorem inS_hit (r : Int) (l : List (Int × Int)) (k : Nat) (h : k < l.length) (h1 : l[k].1 ≤ r) (h2 : r ≤ l[k].2) : inS r l = true :=
  List.any_eq_true.2 ⟨l[k], List.getElem_mem h, by rw [decide_eq_true h1, decide_eq_true h2]; rfl⟩

/-- What in is told of its ranges. -/
def Spans (w : World) (g : Nat) (l : List (Int × Int)) : Prop :=
  g < w.heap.size ∧ ∀ j (h : j < l.length), w.cell? ⟨g, j * 2, none⟩ = some (.int .i32 l[j].1) ∧ w.cell? ⟨g, j * 2 + 1, none⟩ = some (.int .i32 l[j].2)

set_option maxHeartbeats 1600000 in
theorem in_any (r : Int) (l : List (Int × Int)) (g : Nat) (w : World) (hs : Spans w g l) (hl : l.length ≤ 1000) :
    Calls Tryd.prog 29 #[.int .i32 r, .slice (some ⟨g, 0, none⟩) l.length l.length] w fun e w' => e = .returned (.bool (inS r l)) ∧ Below w.heap.size w w' := by
  obtain ⟨hg, hc⟩ := hs
  have HC := hide hc
  obtain ⟨T, hT⟩ : ∃ T, inS r l = T := ⟨_, rfl⟩
  have HT := hide hT
  rw [hT]
  clear hc hT
  go_enter Tryd.func29, Tryd.ntmps29
  go_wp2
  go_loopw [9] (fun i wr => ∃ k : Nat, k ≤ l.length ∧ i = .int .i64 k ∧ inS r (l.take k) = false ∧ Below w.heap.size w wr) (fun i _ => l.length - (intOf i).toNat)
  case atStart => exact ⟨0, Nat.zero_le _, rfl, rfl, Below.refl _ _⟩
  case round =>
    obtain ⟨k, hk, rfl, hin, hbel⟩ := hrel
    by_cases hkl : k < l.length
    · obtain ⟨e0, e1⟩ := HC.out k hkl
      have d0 : wr.cell? ⟨g, k * 2, none⟩ = some (.int .i32 l[k].1) := (hbel.cell (p := ⟨g, k * 2, none⟩) hg).trans e0
      have d1 : wr.cell? ⟨g, k * 2 + 1, none⟩ = some (.int .i32 l[k].2) := (hbel.cell (p := ⟨g, k * 2 + 1, none⟩) hg).trans e1
      have hsn := inS_snoc r l k hkl
      rw [hin, Bool.false_or] at hsn
      have hht := inS_hit r l k hkl
      have HB := hide hbel
      have hup := hbel.size
      clear e0 e1 hin hbel
      generalize l[k] = p at d0 d1 hsn hht
      obtain ⟨lo, hi⟩ := p
      dsimp only at d0 d1 hsn hht
      by_cases h1 : lo ≤ r
      · by_cases h2 : r ≤ hi
        · have ht : T = true := by rw [← HT.out]; exact hht h1 h2
          subst ht
          clear hsn hht
          go_wp2
          go_ret
          exact ⟨rfl, HB.out.alloc hup _⟩
        · rw [decide_eq_false h2, Bool.and_false] at hsn
          have HSN := hide hsn
          clear hsn hht
          go_wp2
          go_roundw
          case rel => exact ⟨k + 1, by omega, by go_num, HSN.out, HB.out.alloc hup _⟩
          case measure => simp [intOf]; omega
      · rw [decide_eq_false h1, Bool.false_and] at hsn
        have HSN := hide hsn
        clear hsn hht
        go_wp2
        go_roundw
        case rel => exact ⟨k + 1, by omega, by go_num, HSN.out, HB.out.alloc hup _⟩
        case measure => simp [intOf]; omega
    · have hkk : k = l.length := by omega
      subst hkk
      rw [List.take_length, HT.out] at hin
      subst hin
      have HB := hide hbel
      clear hbel
      go_wp2
      go_ret
      exact ⟨rfl, HB.out⟩
end Go.Proofs.YthfgnjdekhfabaaDoor
