/- The walks of short and flat. -/
import Derived.Test.YtgjbieafjagchaaWalkE
namespace Go.Proofs.Ytgjbieafjagchaa
open Go.RowKit Go.Lib Keys
set_option maxRecDepth 100000

/-- A text of at most n bytes. -/
def sh (s : ByteArray) (n : Nat) : ByteArray := if n < s.size then s.extract 0 n else s

theorem sh_size (s : ByteArray) (n : Nat) : (sh s n).size ≤ n := by
  unfold sh
  split
  · simp; omega
  · omega

theorem short_any (s : ByteArray) (n : Nat) (w : World) : Calls Try.prog 6 #[.string s, .int .i64 n] w fun e w' => e = .returned (.string (sh s n)) ∧ w = w' := by
  by_cases h : n < s.size
  · have e : sh s n = s.extract 0 n := by unfold sh; rw [if_pos h]
    rw [e]
    clear e
    go_enter Try.func6, Try.ntmps6
    go_wp2
    go_ret
    exact ⟨rfl, rfl⟩
  · have e : sh s n = s := by unfold sh; rw [if_neg h]
    rw [e]
    clear e
    go_enter Try.func6, Try.ntmps6
    go_wp2
    go_ret
    exact ⟨rfl, rfl⟩

/-- A slice value that reads as keys. -/
def Row (w : World) (B : Nat) (v : Value) (l : List K) : Prop :=
  ∃ a c, v = .slice a l.length c ∧ (0 < l.length → ∃ g, a = some ⟨g, 0, none⟩ ∧ g < B ∧ ∀ j, j < l.length * 3 → w.cell? ⟨g, j, none⟩ = (cells l)[j]?)

theorem Row.of_own {w : World} {base : Nat} {v : Value} {l : List K} (h : w.ownsRow base 34 3 v l.length (cells l)) : Row w w.heap.size v l := by
  obtain ⟨a, c, rfl⟩ := (by
    rcases h.2 with ⟨rfl, h0⟩ | ⟨g, cap, cur, rfl, _⟩
    · exact ⟨none, 0, by rw [h0]⟩
    · exact ⟨_, _, rfl⟩ : ∃ a c, v = .slice a l.length c)
  refine ⟨a, c, rfl, fun hl => ?_⟩
  obtain ⟨g, cap, hv, _, hlt, hc⟩ := keys_form h hl
  injection hv with h1 _ _
  exact ⟨g, h1, hlt, hc⟩

theorem Row.below {w w' : World} {B : Nat} {v : Value} {l : List K} (h : Row w B v l) (hb : Below B w w') : Row w' B v l := by
  obtain ⟨a, c, rfl, h⟩ := h
  refine ⟨a, c, rfl, fun hl => ?_⟩
  obtain ⟨g, rfl, hg, hc⟩ := h hl
  exact ⟨g, rfl, hg, fun j hj => (hb.cell (p := ⟨g, j, none⟩) hg).trans (hc j hj)⟩

theorem Row.more {w : World} {B B' : Nat} {v : Value} {l : List K} (h : Row w B v l) (hB : B ≤ B') : Row w B' v l := by
  obtain ⟨a, c, rfl, h⟩ := h
  refine ⟨a, c, rfl, fun hl => ?_⟩
  obtain ⟨g, rfl, hg, hc⟩ := h hl
  exact ⟨g, rfl, by omega, hc⟩

theorem extract_one (s : ByteArray) (k : Nat) (h : k < s.size) : s.extract k (k + 1) = ⟨#[s[k]]⟩ := by
  apply ByteArray.ext
  rw [ByteArray.data_extract]
  apply Array.ext
  · simp only [Array.size_extract]
    have : k + 1 ≤ s.data.size := h
    simp; omega
  · intro i h1 h2
    simp at h2
    subst h2
    simp
    rfl

theorem flat_take (l : List K) (k : Nat) (h : k < l.length) : flat (l.take (k + 1)) = flat (l.take k) ++ flat1 l[k] := by
  rw [List.take_succ_eq_append_getElem h]
  unfold flat
  rw [List.flatMap_append]
  simp

/-- A key's text, its first m bytes parted. -/
def some1 (k : K) (m : Nat) : List K := (if k.kind = 1 then [] else [k]) ++ (k.s.data.toList.take m).map txt
theorem some1_all (k : K) : some1 k k.s.size = flat1 k := by
  unfold some1 flat1
  rw [List.take_of_length_le (by rw [Array.length_toList]; exact Nat.le_refl _)]
theorem some1_succ (k : K) (m : Nat) (h : m < k.s.size) : some1 k (m + 1) = some1 k m ++ [⟨1, 0, k.s.extract m (m + 1)⟩] := by
  have hl : m < k.s.data.toList.length := by rw [Array.length_toList]; exact h
  unfold some1
  rw [List.take_succ_eq_append_getElem hl, extract_one _ _ h, List.map_append, ← List.append_assoc]
  congr 1
theorem some1_length (k : K) (m : Nat) : (some1 k m).length ≤ 1 + k.s.size := by
  have e : k.s.data.toList.length = k.s.size := Array.length_toList
  unfold some1
  rw [List.length_append, List.length_map, List.length_take, e]
  split
  · simp; omega
  · simp; omega

theorem own_snoc {w : World} {base : Nat} {v : Value} {l : List K} (k : K) (h : w.ownsRow base 34 3 v (l.length + 1) (cells l ++ [.int .i64 k.kind, .int .i64 k.n, .string k.s])) : w.ownsRow base 34 3 v (l ++ [k]).length (cells (l ++ [k])) := by
  have e : (l ++ [k]).length = l.length + 1 := by simp
  rw [e, cells_append]
  exact h

theorem slice_one (s : ByteArray) (m : Nat) (h : m < s.size) (w : World) :
    (Instr.slice 9 (.string s) (some (.int .i64 m)) (some (.int .i64 ((m : Int) + 1))) none).run Try.prog w = .ok (.string (s.extract m (m + 1))) w := by
  have := run_slice_string (P := Try.prog) w 9 s .i64 .i64 (m : Int) ((m : Int) + 1) Try.underlying9 (by omega) (by omega) (by omega)
  rw [this]
  have e1 : (m : Int).toNat = m := by omega
  have e2 : ((m : Int) + 1).toNat = m + 1 := by omega
  rw [e1, e2]

set_option maxHeartbeats 3200000 in
theorem flat_any (v : Value) (l : List K) (w : World) (hv : Row w w.heap.size v l) (hb : bulk l ≤ 100000) :
    Calls Try.prog 8 #[v] w fun e w' => ∃ v', e = .returned v' ∧ w'.ownsRow w.heap.size 34 3 v' (flat l).length (cells (flat l)) ∧ Below w.heap.size w w' := by
  obtain ⟨A, c, rfl, hcells⟩ := hv
  have hlen := length_le_bulk l
  obtain ⟨i0, hi, hz0, hz1, hz2⟩ := info_parts info_key
  go_enter Try.func8, Try.ntmps8
  go_wp2
  go_loopw [3, 4] (fun v i wr => ∃ k : Nat, k ≤ l.length ∧ i = .int .i64 k ∧ wr.ownsRow w.heap.size 34 3 v (flat (l.take k)).length (cells (flat (l.take k))) ∧ Below w.heap.size w wr) (fun _ i _ => l.length - (intOf i).toNat)
  case atStart => exact ⟨0, Nat.zero_le _, rfl, World.ownsRow_nil _ _ _ _, Below.refl _ _⟩
  case round =>
    obtain ⟨k, hk, rfl, hown, hbel⟩ := hrel
    by_cases hlk : k < l.length
    · obtain ⟨g, rfl, hg, hc⟩ := hcells (by omega)
      have hca := cells_at l k hlk
      have hft := flat_take l k hlk
      have hfl : (flat (l.take k)).length + 1 + l[k].s.size ≤ 400000 := by
        have h1 := flat_length (l.take k)
        have h2 : bulk (l.take k) ≤ bulk l := by
          conv => rhs; rw [← List.take_append_drop k l]
          rw [bulk_append]; omega
        have h3 := mem_le_bulk l l[k] (List.getElem_mem hlk)
        omega
      obtain ⟨K, hK⟩ : ∃ K, K = l[k] := ⟨_, rfl⟩
      rw [← hK] at hca hft hfl
      have g0 : ∀ wx, Below w.heap.size w wx → wx.cell? ⟨g, k * 3, none⟩ = some (.int .i64 K.kind) := fun wx hx => by rw [hx.cell (p := ⟨g, k * 3, none⟩) hg, hc _ (by omega)]; exact hca.1
      have g1 : ∀ wx, Below w.heap.size w wx → wx.cell? ⟨g, k * 3 + 1, none⟩ = some (.int .i64 K.n) := fun wx hx => by rw [hx.cell (p := ⟨g, k * 3 + 1, none⟩) hg, hc _ (by omega)]; exact hca.2.1
      have g2 : ∀ wx, Below w.heap.size w wx → wx.cell? ⟨g, k * 3 + 2, none⟩ = some (.string K.s) := fun wx hx => by rw [hx.cell (p := ⟨g, k * 3 + 2, none⟩) hg, hc _ (by omega)]; exact hca.2.2
      have d0 := g0 wr hbel
      have d1 := g1 wr hbel
      have d2 := g2 wr hbel
      have HC0 := hide g0
      have HC2 := hide g2
      have HT := hide hft
      have hbs := hbel.size
      clear hca g0 g1 g2 hft hc hcells hK
      by_cases h1 : K.kind = 1
      · have t1 : (K.kind != 1) = false := by rw [h1]; rfl
        have t2 : (K.kind == 1) = true := by rw [h1]; rfl
        have hst : some1 K 0 = [] := by unfold some1; rw [if_pos h1]; rfl
        have hownA : wr.ownsRow w.heap.size 34 3 u3 (flat (l.take k) ++ some1 K 0).length (cells (flat (l.take k) ++ some1 K 0)) := by
          rw [hst, List.append_nil]; exact hown
        have HO := hide hownA
        have hbelA := hbel
        clear h1 hst hownA hown hbel
        go_wp2
        go_loopw [3, 5] (fun v j wi => ∃ m : Nat, m ≤ K.s.size ∧ j = .int .i64 m ∧ wi.ownsRow w.heap.size 34 3 v (flat (l.take k) ++ some1 K m).length (cells (flat (l.take k) ++ some1 K m)) ∧ Below w.heap.size w wi) (fun _ j _ => K.s.size - (intOf j).toNat)
        case atStart => exact ⟨0, Nat.zero_le _, rfl, HO.out, hbelA⟩
        case round =>
          obtain ⟨m, hm, rfl, hownI, hbelI⟩ := hrel
          have i0c : wr.cell? ⟨g, k * 3, none⟩ = some (.int .i64 K.kind) := HC0.out wr hbelI
          have i2c : wr.cell? ⟨g, k * 3 + 2, none⟩ = some (.string K.s) := HC2.out wr hbelI
          have hbI := hbelI.size
          by_cases hlm : m < K.s.size
          · have hs1 := some1_succ K m hlm
            have hsl := some1_length K m
            have HS := hide hs1
            have hsli := slice_one K.s m hlm
            clear hs1
            go_wp2_with (at_builtin; refine wpList_append_own _ rfl _ _ 27 rfl w.heap.size 34 i0 (.agg #[.int .i64 0, .int .i64 0, .string ⟨#[]⟩]) 3 32 Try.underlying27 hi hz0 hz1 hz2 rfl (by decide) _ (flat (l.take k) ++ some1 K m).length (cells (flat (l.take k) ++ some1 K m)) rfl (hownI.alloc _) ⟨wr.heap.size, 0, none⟩ 1 1 [.int .i64 1, .int .i64 0, .string (K.s.extract m (m + 1))] rfl rfl ?c1 ?c2 ?c3 ?c4 ?c5 ?_)
            case c1 => exact three_new _ _ rfl _ _ _ _
            case c2 => intro u hu; simp at hu; rcases hu with rfl | rfl | rfl <;> rfl
            case c3 => rw [List.length_append]; unfold maxLen; omega
            case c4 => rw [List.length_append]; omega
            case c5 => simp; omega
            intro v1 w1 hown1 hg1 _
            have hb1 : Below w.heap.size w w1 := (hbelI.alloc hbI _).grown hg1 (by simp; omega) (fun x hx => (hownI.lt x hx).1)
            have hown2 : w1.ownsRow w.heap.size 34 3 v1 (flat (l.take k) ++ some1 K (m + 1)).length (cells (flat (l.take k) ++ some1 K (m + 1))) := by
              rw [HS.out, ← List.append_assoc]
              exact own_snoc ⟨1, 0, K.s.extract m (m + 1)⟩ (by rw [List.length_append]; exact hown1)
            have HO2 := hide hown2
            have HB2 := hide hb1
            clear hown1 hg1 hown2 hb1 hownI hbelI
            go_wp2
            go_roundw
            case rel => exact ⟨m + 1, by omega, by go_num, HO2.out, HB2.out⟩
            case measure => simp [intOf]; omega
          · obtain rfl : m = K.s.size := by omega
            rw [some1_all] at hownI
            have HO2 := hide hownI
            have HB2 := hide hbelI
            clear hownI hbelI
            go_wp2
            go_roundw
            case rel => exact ⟨k + 1, by omega, by go_num, by rw [HT.out]; exact HO2.out, HB2.out⟩
            case measure => simp [intOf]; omega
      · have t1 : (K.kind != 1) = true := by rw [bne_iff_ne]; exact h1
        have t2 : (K.kind == 1) = false := by rw [beq_eq_false_iff_ne]; exact h1
        have hst : some1 K 0 = [K] := by unfold some1; rw [if_neg h1]; rfl
        clear h1
        go_wp2_with (at_builtin; refine wpList_append_own _ rfl _ _ 27 rfl w.heap.size 34 i0 (.agg #[.int .i64 0, .int .i64 0, .string ⟨#[]⟩]) 3 32 Try.underlying27 hi hz0 hz1 hz2 rfl (by decide) _ (flat (l.take k)).length (cells (flat (l.take k))) rfl (hown.alloc _) ⟨wr.heap.size, 0, none⟩ 1 1 [.int .i64 K.kind, .int .i64 K.n, .string K.s] rfl rfl ?a1 ?a2 ?a3 ?a4 ?a5 ?_)
        case a1 => exact three_new _ _ rfl _ _ _ _
        case a2 => intro u hu; simp at hu; rcases hu with rfl | rfl | rfl <;> rfl
        case a3 => unfold maxLen; omega
        case a4 => omega
        case a5 => simp; omega
        intro vA wA hown1 hg1 _
        have hbelA : Below w.heap.size w wA := (hbel.alloc hbs _).grown hg1 (by simp; omega) (fun x hx => (hown.lt x hx).1)
        have hownA : wA.ownsRow w.heap.size 34 3 vA (flat (l.take k) ++ some1 K 0).length (cells (flat (l.take k) ++ some1 K 0)) := by
          rw [hst, cells_append, List.length_append]; exact hown1
        have e2 : wA.cell? ⟨g, k * 3 + 2, none⟩ = some (.string K.s) := HC2.out wA hbelA
        have HO := hide hownA
        clear hst hownA hown hbel hown1 hg1 d0 d1 d2
        go_wp2
        go_loopw [3, 5] (fun v j wi => ∃ m : Nat, m ≤ K.s.size ∧ j = .int .i64 m ∧ wi.ownsRow w.heap.size 34 3 v (flat (l.take k) ++ some1 K m).length (cells (flat (l.take k) ++ some1 K m)) ∧ Below w.heap.size w wi) (fun _ j _ => K.s.size - (intOf j).toNat)
        case atStart => exact ⟨0, Nat.zero_le _, rfl, HO.out, hbelA⟩
        case round =>
          obtain ⟨m, hm, rfl, hownI, hbelI⟩ := hrel
          have i0c : wr.cell? ⟨g, k * 3, none⟩ = some (.int .i64 K.kind) := HC0.out wr hbelI
          have i2c : wr.cell? ⟨g, k * 3 + 2, none⟩ = some (.string K.s) := HC2.out wr hbelI
          have hbI := hbelI.size
          by_cases hlm : m < K.s.size
          · have hs1 := some1_succ K m hlm
            have hsl := some1_length K m
            have HS := hide hs1
            have hsli := slice_one K.s m hlm
            clear hs1
            go_wp2_with (at_builtin; refine wpList_append_own _ rfl _ _ 27 rfl w.heap.size 34 i0 (.agg #[.int .i64 0, .int .i64 0, .string ⟨#[]⟩]) 3 32 Try.underlying27 hi hz0 hz1 hz2 rfl (by decide) _ (flat (l.take k) ++ some1 K m).length (cells (flat (l.take k) ++ some1 K m)) rfl (hownI.alloc _) ⟨wr.heap.size, 0, none⟩ 1 1 [.int .i64 1, .int .i64 0, .string (K.s.extract m (m + 1))] rfl rfl ?c1 ?c2 ?c3 ?c4 ?c5 ?_)
            case c1 => exact three_new _ _ rfl _ _ _ _
            case c2 => intro u hu; simp at hu; rcases hu with rfl | rfl | rfl <;> rfl
            case c3 => rw [List.length_append]; unfold maxLen; omega
            case c4 => rw [List.length_append]; omega
            case c5 => simp; omega
            intro v1 w1 hown1 hg1 _
            have hb1 : Below w.heap.size w w1 := (hbelI.alloc hbI _).grown hg1 (by simp; omega) (fun x hx => (hownI.lt x hx).1)
            have hown2 : w1.ownsRow w.heap.size 34 3 v1 (flat (l.take k) ++ some1 K (m + 1)).length (cells (flat (l.take k) ++ some1 K (m + 1))) := by
              rw [HS.out, ← List.append_assoc]
              exact own_snoc ⟨1, 0, K.s.extract m (m + 1)⟩ (by rw [List.length_append]; exact hown1)
            have HO2 := hide hown2
            have HB2 := hide hb1
            clear hown1 hg1 hown2 hb1 hownI hbelI
            go_wp2
            go_roundw
            case rel => exact ⟨m + 1, by omega, by go_num, HO2.out, HB2.out⟩
            case measure => simp [intOf]; omega
          · obtain rfl : m = K.s.size := by omega
            rw [some1_all] at hownI
            have HO2 := hide hownI
            have HB2 := hide hbelI
            clear hownI hbelI
            go_wp2
            go_roundw
            case rel => exact ⟨k + 1, by omega, by go_num, by rw [HT.out]; exact HO2.out, HB2.out⟩
            case measure => simp [intOf]; omega
    · have hke : l.take k = l := List.take_of_length_le (by omega)
      rw [hke] at hown
      have HO := hide hown
      clear hown hke hcells
      go_wp2
      go_ret
      exact ⟨_, rfl, HO.out, hbel⟩
end Go.Proofs.Ytgjbieafjagchaa
