/- The walks of few, Same, Num and of the chapter's example. -/
import Derived.Test.YtjjedmmenlfedaaWalkG
import Derived.Deep.QuietTactic
import Derived.ChangeKeysEq
namespace Go.Proofs.Ytjjedmmenlfedaa
open Go.RowKit Esc
set_option maxRecDepth 100000

theorem few_any (F : Nat → Prop) (zs : List Int) (v : Value) (w : World) (hs : Src w F v zs) : Calls Try.prog 9 #[v] w fun e w' => ∃ v', e = .returned v' ∧ w = w' ∧ Src w F v' (zs.take 60) := by
  obtain ⟨A, cap, rfl, hcap, hcell⟩ := hs
  by_cases h : 60 < zs.length
  · obtain ⟨g, off, rfl, hg, hgF, hc⟩ := hcell (by omega)
    have ht : (zs.take 60).length = 60 := by rw [List.length_take]; omega
    have hres : Src w F (.slice (some ⟨g, off, none⟩) 60 cap) (zs.take 60) := by
      refine ⟨some ⟨g, off, none⟩, cap, by rw [ht], by omega, fun _ => ⟨g, off, rfl, hg, hgF, fun j hj => ?_⟩⟩
      rw [List.getElem_take]
      exact hc j (by omega)
    have HR := hide hres
    clear hres hc hcell ht
    go_enter Try.func9, Try.ntmps9
    go_wp2
    go_ret
    exact ⟨_, rfl, rfl, HR.out⟩
  · have ht : zs.take 60 = zs := List.take_of_length_le (by omega)
    rw [ht]
    have hres : Src w F (.slice A zs.length cap) zs := ⟨A, cap, rfl, hcap, hcell⟩
    have HR := hide hres
    clear hres hcell ht
    go_enter Try.func9, Try.ntmps9
    go_wp2
    go_ret
    exact ⟨_, rfl, rfl, HR.out⟩

theorem Idle_own (b : Nat) (p : P) (w : World) (hp : Ps w b p) : Calls Try.prog 13 #[.pointer (some ⟨b, 0, none⟩)] w fun e w' => e = .returned (.bool (p.inn == 0)) ∧ w = w' := Idle_any b p w hp

/-- A slice value that reads as acts. -/
def Row (w : World) (B : Nat) (v : Value) (l : List A) : Prop :=
  ∃ a c, v = .slice a l.length c ∧ (0 < l.length → ∃ g, a = some ⟨g, 0, none⟩ ∧ g < B ∧ ∀ j, j < l.length * 13 → w.cell? ⟨g, j, none⟩ = (acells l)[j]?)

theorem Row.of_own {w : World} {base : Nat} {v : Value} {l : List A} (h : w.ownsRow base 28 13 v l.length (acells l)) : Row w w.heap.size v l := by
  obtain ⟨a, c, rfl⟩ := (by
    rcases h.2 with ⟨rfl, h0⟩ | ⟨g, cap, cur, rfl, _⟩
    · exact ⟨none, 0, by rw [h0]⟩
    · exact ⟨_, _, rfl⟩ : ∃ a c, v = .slice a l.length c)
  refine ⟨a, c, rfl, fun hl => ?_⟩
  obtain ⟨g, cap, hv, hg, hlt⟩ := h.form hl
  injection hv with h1 _ _
  subst h1
  exact ⟨g, rfl, hlt, fun j hj => h.cellAt j hj⟩

theorem Row.below {w w' : World} {B : Nat} {v : Value} {l : List A} (h : Row w B v l) (hb : Below B w w') : Row w' B v l := by
  obtain ⟨a, c, rfl, h⟩ := h
  refine ⟨a, c, rfl, fun hl => ?_⟩
  obtain ⟨g, rfl, hg, hc⟩ := h hl
  exact ⟨g, rfl, hg, fun j hj => (hb.cell (p := ⟨g, j, none⟩) hg).trans (hc j hj)⟩

theorem Row.more {w : World} {B B' : Nat} {v : Value} {l : List A} (h : Row w B v l) (hB : B ≤ B') : Row w B' v l := by
  obtain ⟨a, c, rfl, h⟩ := h
  refine ⟨a, c, rfl, fun hl => ?_⟩
  obtain ⟨g, rfl, hg, hc⟩ := h hl
  exact ⟨g, rfl, by omega, hc⟩

theorem nums_same (n0 n1 n2 n3 n4 n5 n6 n7 : Int) (w : World) : (Op.equalIn 9999 26 (.agg #[.int .i64 n0, .int .i64 n1, .int .i64 n2, .int .i64 n3, .int .i64 n4, .int .i64 n5, .int .i64 n6, .int .i64 n7]) (.agg #[.int .i64 n0, .int .i64 n1, .int .i64 n2, .int .i64 n3, .int .i64 n4, .int .i64 n5, .int .i64 n6, .int .i64 n7])).run Try.prog w = .ok true w := by
  obtain ⟨i, hi⟩ : ∃ i, Try.prog.info? 3 = some i := Option.isSome_iff_exists.1 (by kernel_rfl)
  have hc : Try.prog.cellsOf 3 = 1 := by kernel_rfl
  have e : (9999 : Nat) = 9998 + 1 := rfl
  rw [e, run_equalIn_array w 9998 _ _ Try.underlying26 hi, hc]
  simp [Op.eqItems, List.range, List.range.loop, go_sem]

theorem act_same (a : A) (w : World) : (binOp .neq 28 (.agg #[.int .i64 a.kind, .int .i32 a.r, .int .u8 a.priv, .int .u8 a.mid, .int .i64 a.n, .int .i64 a.n0, .int .i64 a.n1, .int .i64 a.n2, .int .i64 a.n3, .int .i64 a.n4, .int .i64 a.n5, .int .i64 a.n6, .int .i64 a.n7]) (.agg #[.int .i64 a.kind, .int .i32 a.r, .int .u8 a.priv, .int .u8 a.mid, .int .i64 a.n, .int .i64 a.n0, .int .i64 a.n1, .int .i64 a.n2, .int .i64 a.n3, .int .i64 a.n4, .int .i64 a.n5, .int .i64 a.n6, .int .i64 a.n7])).run Try.prog w = .ok (.bool false) w := by
  have h := nums_same a.n0 a.n1 a.n2 a.n3 a.n4 a.n5 a.n6 a.n7 w
  simp [go_sem, h]

/-- The thirteen cells of an act. -/
theorem act_cells {wr : World} {g o : Nat} {a : A} (h : ∀ j, j < 13 → wr.cell? ⟨g, o + j, none⟩ = (acts a)[j]?) :
    wr.cell? ⟨g, o, none⟩ = some (.int .i64 a.kind) ∧ wr.cell? ⟨g, o + 1, none⟩ = some (.int .i32 a.r) ∧ wr.cell? ⟨g, o + 2, none⟩ = some (.int .u8 a.priv) ∧ wr.cell? ⟨g, o + 3, none⟩ = some (.int .u8 a.mid) ∧ wr.cell? ⟨g, o + 4, none⟩ = some (.int .i64 a.n) ∧
    wr.cell? ⟨g, o + 5, none⟩ = some (.int .i64 a.n0) ∧ wr.cell? ⟨g, o + 6, none⟩ = some (.int .i64 a.n1) ∧ wr.cell? ⟨g, o + 7, none⟩ = some (.int .i64 a.n2) ∧ wr.cell? ⟨g, o + 8, none⟩ = some (.int .i64 a.n3) ∧ wr.cell? ⟨g, o + 9, none⟩ = some (.int .i64 a.n4) ∧
    wr.cell? ⟨g, o + 10, none⟩ = some (.int .i64 a.n5) ∧ wr.cell? ⟨g, o + 11, none⟩ = some (.int .i64 a.n6) ∧ wr.cell? ⟨g, o + 12, none⟩ = some (.int .i64 a.n7) :=
  ⟨h 0 (by omega), h 1 (by omega), h 2 (by omega), h 3 (by omega), h 4 (by omega), h 5 (by omega), h 6 (by omega), h 7 (by omega), h 8 (by omega), h 9 (by omega), h 10 (by omega), h 11 (by omega), h 12 (by omega)⟩

theorem below_drewN {B : Nat} {w w' : World} (h : Below B w w') (n : Nat) : Below B w (w'.drewN n) := ⟨h.os, h.tape, h.output, h.size, h.block⟩

set_option maxHeartbeats 1600000 in
theorem Same_any (v v' : Value) (l : List A) (w : World) (hv : Row w w.heap.size v l) (hv' : Row w w.heap.size v' l) (hb : l.length ≤ 1000000) :
    Calls Try.prog 12 #[v, v'] w fun e w' => e = .returned (.bool true) ∧ Below w.heap.size w w' := by
  obtain ⟨A, c, rfl, hc⟩ := hv
  obtain ⟨A', c', rfl, hc'⟩ := hv'
  go_enter Try.func12, Try.ntmps12
  go_wp2
  go_loopw [5] (fun i wr => ∃ k : Nat, k ≤ l.length ∧ i = .int .i64 k ∧ Below w.heap.size w wr) (fun i _ => l.length - (intOf i).toNat)
  case atStart => exact ⟨0, Nat.zero_le _, rfl, Below.refl _ _⟩
  case round =>
    obtain ⟨k, hk, rfl, hbel⟩ := hrel
    by_cases hlk : k < l.length
    · obtain ⟨g, rfl, hg, hca⟩ := hc (by omega)
      obtain ⟨g', rfl, hg', hca'⟩ := hc' (by omega)
      have f : ∀ g0, g0 < w.heap.size → (∀ j, j < l.length * 13 → w.cell? ⟨g0, j, none⟩ = (acells l)[j]?) → ∀ j, j < 13 → wr.cell? ⟨g0, k * 13 + j, none⟩ = (acts l[k])[j]? := by
        intro g0 hg0 h j hj
        rw [hbel.cell (p := ⟨g0, k * 13 + j, none⟩) hg0, h _ (by omega), acells_at l k j hlk hj]
      obtain ⟨d0, d1, d2, d3, d4, d5, d6, d7, d8, d9, d10, d11, d12⟩ := act_cells (f g hg hca)
      obtain ⟨e0, e1, e2, e3, e4, e5, e6, e7, e8, e9, e10, e11, e12⟩ := act_cells (f g' hg' hca')
      clear hc hc' hca hca' f
      generalize l[k] = K at d0 d1 d2 d3 d4 d5 d6 d7 d8 d9 d10 d11 d12 e0 e1 e2 e3 e4 e5 e6 e7 e8 e9 e10 e11 e12
      have hks := act_same K
      have hl3 : (k : Int) < (l.length : Int) := by omega
      go_wp2
      go_quiet (fail)
      go_wp2
      go_roundw
      case rel => exact ⟨k + 1, by omega, by go_num, below_drewN hbel _⟩
      case measure => simp [intOf]; omega
    · clear hc hc'
      go_wp2
      go_ret
      exact ⟨rfl, hbel⟩

theorem feed_awake : (feed P0 [27, 91, 50, 59, 51, 72]).2 = [⟨4, 72, 0, 0, 2, 2, 3, 0, 0, 0, 0, 0, 0⟩] := by rfl

set_option maxHeartbeats 800000 in
theorem awake_any (w : World) : Calls Try.prog 8 #[] w fun e w' => e = .returned (.bool true) ∧ Below w.heap.size w w' := by
  go_enter Try.func8, Try.ntmps8
  go_wp2_with fail
  have hp : Ps (w.alloc (.cells (pcells P0) 30)) w.heap.size P0 := Blk.new w _ _
  refine (Feed_any w.heap.size P0 [27, 91, 50, 59, 51, 72] _ _ (Blk.alloc hp _) ok0 (fun g => g = w.heap.size + 1) ⟨some ⟨w.heap.size + 1, 0, none⟩, 6, rfl, Nat.le_refl _, fun _ => ⟨w.heap.size + 1, 0, rfl, by simp, rfl, fun j hj => ?_⟩⟩ (by omega) (by decide)).mono ?_
  · have hB := Blk.new (w.alloc (.cells (pcells P0) 30)) 21 #[.int .i32 27, .int .i32 91, .int .i32 50, .int .i32 59, .int .i32 51, .int .i32 72]
    have e : (w.alloc (.cells (pcells P0) 30)).heap.size = w.heap.size + 1 := by simp
    rw [e] at hB
    match j, hj with
    | 0, _ => exact Blk.cell hB 0
    | 1, _ => exact Blk.cell hB 1
    | 2, _ => exact Blk.cell hB 2
    | 3, _ => exact Blk.cell hB 3
    | 4, _ => exact Blk.cell hB 4
    | 5, _ => exact Blk.cell hB 5
  rintro e w1 ⟨v, rfl, hown, hR, hG⟩
  rw [feed_awake] at hown
  obtain ⟨g, cap, rfl, _, _⟩ := hown.form (by decide)
  have c0 : w1.cell? ⟨g, 0, none⟩ = some (.int .i64 4) := hown.cellAt 0 (by decide)
  have c1 : w1.cell? ⟨g, 1, none⟩ = some (.int .i32 72) := hown.cellAt 1 (by decide)
  have c4 : w1.cell? ⟨g, 4, none⟩ = some (.int .i64 2) := hown.cellAt 4 (by decide)
  have c5 : w1.cell? ⟨g, 5, none⟩ = some (.int .i64 2) := hown.cellAt 5 (by decide)
  have c6 : w1.cell? ⟨g, 6, none⟩ = some (.int .i64 3) := hown.cellAt 6 (by decide)
  have hb : Below w.heap.size w w1 := by
    refine (((Below.refl _ w).alloc (Nat.le_refl _) _).alloc (by simp) _).grown hG (by simp; omega) (fun k hk => ?_)
    injection hk with hk
    omega
  clear hown hR hG hp
  dsimp only [List.length_singleton]
  go_wp2
  go_ret
  exact ⟨rfl, hb⟩
end Go.Proofs.Ytjjedmmenlfedaa
