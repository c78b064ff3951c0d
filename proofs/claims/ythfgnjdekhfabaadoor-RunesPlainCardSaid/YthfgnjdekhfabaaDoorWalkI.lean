/- The walks of Same, short, and of the chapter's example. -/
import Derived.Test.YthfgnjdekhfabaaDoorWalkH
namespace Go.Proofs.YthfgnjdekhfabaaDoor
open Go.RowKit Ru
set_option maxRecDepth 100000

/-- A slice value that reads as characters. -/
def Row (w : World) (B : Nat) (v : Value) (l : List Int) : Prop :=
  ∃ a c, v = .slice a l.length c ∧ (0 < l.length → ∃ g, a = some ⟨g, 0, none⟩ ∧ g < B ∧ ∀ j (h : j < l.length), w.cell? ⟨g, j, none⟩ = some (.int .i32 l[j]))

theorem Row.of_own {w : World} {base : Nat} {v : Value} {l : List Int} (h : w.ownsRow base 21 1 v l.length (l.map (Value.int .i32))) : Row w w.heap.size v l := by
  obtain ⟨a, c, rfl⟩ := own_form h
  refine ⟨a, c, rfl, fun hl => ?_⟩
  obtain ⟨g, cap, hv, hg, hlt⟩ := h.form hl
  injection hv with h1 _ _
  subst h1
  refine ⟨g, rfl, hlt, fun j hj => ?_⟩
  rw [h.cellAt j (by omega), List.getElem?_map, List.getElem?_eq_getElem hj]
  rfl

theorem Row.below {w w' : World} {B : Nat} {v : Value} {l : List Int} (h : Row w B v l) (hb : Below B w w') : Row w' B v l := by
  obtain ⟨a, c, rfl, h⟩ := h
  refine ⟨a, c, rfl, fun hl => ?_⟩
  obtain ⟨g, rfl, hg, hc⟩ := h hl
  exact ⟨g, rfl, hg, fun j hj => (hb.cell (p := ⟨g, j, none⟩) hg).trans (hc j hj)⟩

theorem Row.more {w : World} {B B' : Nat} {v : Value} {l : List Int} (h : Row w B v l) (hB : B ≤ B') : Row w B' v l := by
  obtain ⟨a, c, rfl, h⟩ := h
  refine ⟨a, c, rfl, fun hl => ?_⟩
  obtain ⟨g, rfl, hg, hc⟩ := h hl
  exact ⟨g, rfl, by omega, hc⟩

set_option maxHeartbeats 800000 in
theorem Same_any (v v' : Value) (l : List Int) (w : World) (hv : Row w w.heap.size v l) (hv' : Row w w.heap.size v' l) (hb : l.length ≤ 1000000) :
    Calls Tryd.prog 13 #[v, v'] w fun e w' => e = .returned (.bool true) ∧ Below w.heap.size w w' := by
  obtain ⟨A, c, rfl, hc⟩ := hv
  obtain ⟨A', c', rfl, hc'⟩ := hv'
  go_enter Tryd.func13, Tryd.ntmps13
  go_wp2
  go_loopw [5] (fun i wr => ∃ k : Nat, k ≤ l.length ∧ i = .int .i64 k ∧ Below w.heap.size w wr) (fun i _ => l.length - (intOf i).toNat)
  case atStart => exact ⟨0, Nat.zero_le _, rfl, Below.refl _ _⟩
  case round =>
    obtain ⟨k, hk, rfl, hbel⟩ := hrel
    by_cases hlk : k < l.length
    · obtain ⟨g, rfl, hg, hca⟩ := hc (by omega)
      obtain ⟨g', rfl, hg', hca'⟩ := hc' (by omega)
      have d0 : wr.cell? ⟨g, k, none⟩ = some (.int .i32 l[k]) := (hbel.cell (p := ⟨g, k, none⟩) hg).trans (hca k hlk)
      have e0 : wr.cell? ⟨g', k, none⟩ = some (.int .i32 l[k]) := (hbel.cell (p := ⟨g', k, none⟩) hg').trans (hca' k hlk)
      clear hc hc' hca hca'
      generalize l[k] = K at d0 e0
      have hl3 : (k : Int) < (l.length : Int) := by omega
      go_wp2
      go_quiet (fail)
      go_wp2
      go_roundw
      case rel => exact ⟨k + 1, by omega, by go_num, below_drewN hbel _⟩
      case measure => simp [intOf]; omega
    · clear hc hc'
      go_wp2
      go_ret
      exact ⟨rfl, hbel⟩

/-- A text of at most n bytes. -/
def sh (s : ByteArray) (n : Nat) : ByteArray := if n < s.size then s.extract 0 n else s
theorem sh_size (s : ByteArray) (n : Nat) : (sh s n).size ≤ n := by
  unfold sh
  split
  · simp; omega
  · omega
theorem short_any (s : ByteArray) (n : Nat) (w : World) : Calls Tryd.prog 10 #[.string s, .int .i64 n] w fun e w' => e = .returned (.string (sh s n)) ∧ w = w' := by
  by_cases h : n < s.size
  · have e : sh s n = s.extract 0 n := by unfold sh; rw [if_pos h]
    rw [e]
    clear e
    go_enter Tryd.func10, Tryd.ntmps10
    go_wp2
    go_ret
    exact ⟨rfl, rfl⟩
  · have e : sh s n = s := by unfold sh; rw [if_neg h]
    rw [e]
    clear e
    go_enter Tryd.func10, Tryd.ntmps10
    go_wp2
    go_ret
    exact ⟨rfl, rfl⟩

theorem dec_awake : dec ⟨#[65, 226, 130, 65]⟩ = [65, 65533, 65] := by kernel_rfl

theorem src_three (w : World) (n : Nat) (hn : w.heap.size = n) : (w.alloc (.cells #[.int .i32 65, .int .i32 65533, .int .i32 65] 21)).ownsRow n 21 1 (.slice (some ⟨n, 0, none⟩) 3 3) ([65, 65533, 65] : List Int).length (([65, 65533, 65] : List Int).map (Value.int .i32)) := by
  subst hn
  exact ⟨rfl, .inr ⟨w.heap.size, 3, _, rfl, Nat.le_refl _, Blk.new w _ _, Nat.le_refl _, by unfold maxLen; omega, rfl, rfl⟩⟩

theorem awake_any (w : World) (hT : Lib.Utf8Tabs 0 1 w) : Calls Tryd.prog 9 #[] w fun e w' => e = .returned (.bool true) ∧ Below w.heap.size w w' := by
  have hD := Decode_any ⟨#[65, 226, 130, 65]⟩ w (by decide) hT
  have HD := hide hD
  clear hD hT
  go_enter Tryd.func9, Tryd.ntmps9
  go_wp2_with fail
  refine HD.out.mono ?_
  rintro e w1 ⟨v, rfl, own, b1⟩
  rw [dec_awake] at own
  have r1 := (Row.of_own own).below ((Below.refl _ w1).alloc (Nat.le_refl _) (.cells #[.int .i32 65, .int .i32 65533, .int .i32 65] 21))
  have r2 := Row.of_own (src_three w1 w1.heap.size rfl)
  dsimp only
  go_wp2_with fail
  refine (Same_any v _ [65, 65533, 65] _ (r1.more (by simp)) r2 (by decide)).mono ?_
  rintro e w2 ⟨rfl, b2⟩
  have hfin : Below w.heap.size w w2 := (b1.alloc b1.size _).trans (b2.mono (by have := b1.size; simp; omega))
  clear own r1 r2 b2
  dsimp only
  go_wp2
  go_ret
  exact ⟨rfl, hfin⟩
end Go.Proofs.YthfgnjdekhfabaaDoor
