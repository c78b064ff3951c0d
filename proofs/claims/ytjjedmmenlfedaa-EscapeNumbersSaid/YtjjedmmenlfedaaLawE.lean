/- The law EscapeEnds, walked. -/
import Derived.Test.YtjjedmmenlfedaaWalkH
namespace Go.Proofs.Ytjjedmmenlfedaa
open Go.RowKit Esc
set_option maxRecDepth 100000

/-- A slice of characters that came in. -/
theorem src_of {w : World} {a : Option Addr} {len cap : Nat} {zs : List Int} (h : (a = none ∧ len = 0 ∧ cap = 0 ∧ zs = []) ∨
    ∃ x, a = some x ∧ len ≤ cap ∧ cap ≤ maxLen ∧ zs.length = cap ∧ (∀ i, i < zs.length → w.cell? (x.add i) = some (.int .i32 (zs.getD i 0))) ∧ ∀ n ∈ zs, (Lit.int .i32 n).wf = true) :
    Src w (· < w.heap.size) (.slice a len cap) (zs.take len) := by
  rcases h with ⟨rfl, rfl, rfl, rfl⟩ | ⟨x, rfl, hl, hm, hz, hc, _⟩
  · exact ⟨none, 0, rfl, Nat.le_refl _, fun h => absurd h (by simp)⟩
  · have ht : (zs.take len).length = len := by rw [List.length_take]; omega
    refine ⟨some x, cap, by rw [ht], by omega, fun h0 => ?_⟩
    obtain ⟨g, off, spot⟩ := x
    have h1 := hc 0 (by omega)
    have hspot : spot = none := by simpa [Addr.add] using World.cell?_spot h1
    subst hspot
    have hcell : ∀ j, j < len → w.cell? ⟨g, off + j, none⟩ = some (.int .i32 (zs.getD j 0)) := by
      intro j hj
      have h2 := hc j (by omega)
      rw [Addr.add_lit] at h2
      exact h2
    have hg : g < w.heap.size := by
      rcases Nat.lt_or_ge g w.heap.size with hlt | hge
      · exact hlt
      · have h2 := hcell 0 (by omega)
        unfold World.cell? at h2
        dsimp only at h2
        rw [Array.getElem?_eq_none hge] at h2
        cases h2
    refine ⟨g, off, rfl, hg, hg, fun j hj => ?_⟩
    rw [hcell j (by omega), List.getElem_take, List.getD_eq_getElem?_getD, List.getElem?_eq_getElem (by omega)]
    rfl

theorem Src.two {w w1 wx : World} {v : Value} {zs : List Int} (h : Src w1 (· < w.heap.size) v zs) (h1 : Below w.heap.size w w1) (hx : Below w.heap.size w wx) : Src wx (· < w.heap.size) v zs := by
  obtain ⟨A, cap, rfl, h0, h⟩ := h
  refine ⟨A, cap, rfl, h0, fun hl => ?_⟩
  obtain ⟨g, off, rfl, _, h2, h3⟩ := h hl
  exact ⟨g, off, rfl, Nat.lt_of_lt_of_le h2 hx.size, h2, fun j hj => ((hx.cell (p := ⟨g, off + j, none⟩) h2).trans (h1.cell (p := ⟨g, off + j, none⟩) h2).symm).trans (h3 j hj)⟩
/-- One character of it. -/
theorem Src.at_ {w wx : World} {A : Option Addr} {cap : Nat} {zs : List Int} (h : Src wx (· < w.heap.size) (.slice A zs.length cap) zs) (k : Nat) (hk : k < zs.length) : ∃ g off, A = some ⟨g, off, none⟩ ∧ g < w.heap.size ∧ wx.cell? ⟨g, off + k, none⟩ = some (.int .i32 zs[k]) := by
  obtain ⟨A', cap', hv, _, hc⟩ := h
  injection hv with e1 _ e2
  subst e1; subst e2
  obtain ⟨g, off, rfl, _, h2, h3⟩ := hc (by omega)
  exact ⟨g, off, rfl, h2, h3 k hk⟩

/-- Three parsers, and the frame. -/
structure Three (w : World) (n : Nat) (pa pb pc : P) (wx : World) : Prop where
  a : Ps wx n pa
  b : Ps wx (n + 1) pb
  c : Ps wx (n + 2) pc
  bel : Below w.heap.size w wx
  up : w.heap.size ≤ n

theorem Three.turn_a {w wx wy : World} {n : Nat} {pa pb pc q : P} (h : Three w n pa pb pc wx) (hp : Ps wy n q) (hg : wx.grownBy wy (some n)) : Three w n q pb pc wy :=
  ⟨hp, Blk.grown h.b hg (by intro e; injection e with e; omega), Blk.grown h.c hg (by intro e; injection e with e; omega), h.bel.grown hg h.bel.size (fun k hk => by injection hk with hk; have := h.up; omega), h.up⟩
theorem Three.turn_b {w wx wy : World} {n : Nat} {pa pb pc q : P} (h : Three w n pa pb pc wx) (hp : Ps wy (n + 1) q) (hg : wx.grownBy wy (some (n + 1))) : Three w n pa q pc wy :=
  ⟨Blk.grown h.a hg (by intro e; injection e with e; omega), hp, Blk.grown h.c hg (by intro e; injection e with e; omega), h.bel.grown hg h.bel.size (fun k hk => by injection hk with hk; have := h.up; omega), h.up⟩
theorem Three.turn_c {w wx wy : World} {n : Nat} {pa pb pc q : P} (h : Three w n pa pb pc wx) (hp : Ps wy (n + 2) q) (hg : wx.grownBy wy (some (n + 2))) : Three w n pa pb q wy :=
  ⟨Blk.grown h.a hg (by intro e; injection e with e; omega), Blk.grown h.b hg (by intro e; injection e with e; omega), hp, h.bel.grown hg h.bel.size (fun k hk => by injection hk with hk; have := h.up; omega), h.up⟩
theorem Three.alloc {w wx : World} {n : Nat} {pa pb pc : P} (h : Three w n pa pb pc wx) (o : Obj) : Three w n pa pb pc (wx.alloc o) :=
  ⟨Blk.alloc h.a o, Blk.alloc h.b o, Blk.alloc h.c o, h.bel.alloc h.bel.size o, h.up⟩
theorem Three.start {w w1 : World} (h : Below w.heap.size w w1) : Three w w1.heap.size P0 P0 P0 (((w1.alloc (.cells (pcells P0) 30)).alloc (.cells (pcells P0) 30)).alloc (.cells (pcells P0) 30)) := by
  have e1 : (w1.alloc (.cells (pcells P0) 30)).heap.size = w1.heap.size + 1 := by simp
  have e2 : ((w1.alloc (.cells (pcells P0) 30)).alloc (.cells (pcells P0) 30)).heap.size = w1.heap.size + 2 := by simp
  have b1 : Below w.heap.size w (w1.alloc (.cells (pcells P0) 30)) := h.alloc h.size _
  have b2 := b1.alloc b1.size (.cells (pcells P0) 30)
  have hb := Blk.new (w1.alloc (.cells (pcells P0) 30)) 30 (pcells P0)
  have hc := Blk.new ((w1.alloc (.cells (pcells P0) 30)).alloc (.cells (pcells P0) 30)) 30 (pcells P0)
  rw [e1] at hb
  rw [e2] at hc
  exact ⟨Blk.alloc (Blk.alloc (Blk.new w1 _ _) _) _, Blk.alloc hb _, hc, b2.alloc b2.size _, h.size⟩

theorem src_one (w : World) (r : Int) : Src (w.alloc (.cells #[.int .i32 r] 21)) (· = w.heap.size) (.slice (some ⟨w.heap.size, 0, none⟩) 1 1) [r] := by
  refine ⟨some ⟨w.heap.size, 0, none⟩, 1, rfl, Nat.le_refl _, fun _ => ⟨w.heap.size, 0, rfl, by simp, rfl, fun j hj => ?_⟩⟩
  have hB := Blk.new w 21 #[.int .i32 r]
  match j, hj with
  | 0, _ => exact Blk.cell hB 0

set_option maxHeartbeats 1600000 in
theorem law_E (v0 v1 : Value) (xs ys : List Int) (w : World) (h0 : Src w (· < w.heap.size) v0 xs) (h1 : Src w (· < w.heap.size) v1 ys) :
    Calls Try.prog 6 #[v0, v1] w fun e w' => e = .returned (.bool true) ∧ Below w.heap.size w w' := by
  have hlx : (xs.take 60).length ≤ 1000 := by rw [List.length_take]; omega
  have hly : (ys.take 60).length ≤ 1000 := by rw [List.length_take]; omega
  have hly6 : (ys.take 60).length ≤ 60 := List.length_take_le _ _
  go_enter Try.func6, Try.ntmps6
  go_wp2_with fail
  refine (awake_any _).mono ?_
  rintro e w1 ⟨rfl, hb1⟩
  have T1 := Three.start hb1
  have hn := T1.up
  dsimp only
  go_wp2_with fail
  refine (few_any _ xs v0 _ (h0.below T1.bel)).mono ?_
  rintro e w2 ⟨v2, rfl, rfl, s2⟩
  dsimp only
  go_wp2_with fail
  refine (Feed_any w1.heap.size P0 (xs.take 60) v2 _ T1.a ok0 _ s2 (by omega) hlx).mono ?_
  rintro e w3 ⟨v3, rfl, _, p3, g3⟩
  have T3 := T1.turn_a p3 g3
  have ok3 := ok_feed P0 (xs.take 60) ok0
  clear T1 p3 g3 s2 hb1
  dsimp only
  go_wp2_with fail
  have T3' := T3.alloc (.cells #[.int .i32 24] 21)
  refine (Feed_any w1.heap.size _ [24] _ _ T3'.a ok3 _ (src_one w3 24) (by have := Blk.lt T3.a; omega) (by decide)).mono ?_
  rintro e w4 ⟨v4, rfl, _, p4, g4⟩
  have T4 := T3'.turn_a p4 g4
  have ok4 := ok_feed (feed P0 (xs.take 60)).1 [24] ok3
  clear T3 T3' p4 g4
  dsimp only
  go_wp2_with fail
  refine (few_any _ xs v0 _ (h0.below T4.bel)).mono ?_
  rintro e w5 ⟨v5, rfl, rfl, s5⟩
  dsimp only
  go_wp2_with fail
  refine (Feed_any (w1.heap.size + 2) P0 (xs.take 60) v5 _ T4.c ok0 _ s5 (by omega) hlx).mono ?_
  rintro e w6 ⟨v6, rfl, _, p6, g6⟩
  have T6 := T4.turn_c p6 g6
  clear T4 p6 g6 s5
  dsimp only
  go_wp2_with fail
  refine (Reset_any (w1.heap.size + 2) _ _ T6.c).mono ?_
  rintro e w7 ⟨rfl, p7, g7⟩
  have T7 := T6.turn_c p7 g7
  clear T6 p7 g7
  dsimp only
  go_wp2_with fail
  refine (Idle_any w1.heap.size _ _ T7.a).mono ?_
  rintro e w8 ⟨rfl, rfl⟩
  obtain ⟨E1, E2⟩ := ends (feed P0 (xs.take 60)).1 (ys.take 60)
  rw [E2]
  dsimp only
  go_wp2_with fail
  refine (few_any _ ys v1 _ (h1.below T7.bel)).mono ?_
  rintro e w9 ⟨v9, rfl, rfl, s9⟩
  dsimp only
  go_wp2_with fail
  refine (Feed_any w1.heap.size _ (ys.take 60) v9 _ T7.a ok4 _ s9 (by omega) hly).mono ?_
  rintro e wa ⟨va, rfl, oa, pa, ga⟩
  have Ta := T7.turn_a pa ga
  rw [E1] at oa
  clear T7 pa ga s9
  dsimp only
  go_wp2_with fail
  refine (few_any _ ys v1 _ (h1.below Ta.bel)).mono ?_
  rintro e wb ⟨vb, rfl, rfl, sb⟩
  dsimp only
  go_wp2_with fail
  refine (Feed_any (w1.heap.size + 1) P0 (ys.take 60) vb _ Ta.b ok0 _ sb (by omega) hly).mono ?_
  rintro e wc ⟨vc, rfl, oc, pc, gc⟩
  have Tc := Ta.turn_b pc gc
  have oa2 := oa.kept gc (.inr (own_blk_ne oa Ta.b (by decide)))
  clear Ta pc gc sb oa
  dsimp only
  go_wp2_with fail
  refine (few_any _ ys v1 _ (h1.below Tc.bel)).mono ?_
  rintro e wd ⟨vd, rfl, rfl, sd⟩
  dsimp only
  go_wp2_with fail
  refine (Feed_any (w1.heap.size + 2) P0 (ys.take 60) vd _ Tc.c ok0 _ sd (by omega) hly).mono ?_
  rintro e we ⟨ve, rfl, oe, pe, ge⟩
  have Te := Tc.turn_c pe ge
  have oa3 := oa2.kept ge (.inr (own_blk_ne oa2 Tc.c (by decide)))
  have oc3 := oc.kept ge (.inr (own_blk_ne oc Tc.c (by decide)))
  clear Tc pe ge sd oa2 oc
  have hlen := feed_len P0 (ys.take 60)
  dsimp only
  go_wp2_with fail
  refine (Same_any va vc (feed P0 (ys.take 60)).2 we (Row.of_own oa3) (Row.of_own oc3) (by omega)).mono ?_
  rintro e wf ⟨rfl, bf⟩
  dsimp only
  go_wp2_with fail
  refine (Same_any ve vc (feed P0 (ys.take 60)).2 wf (((Row.of_own oe).below bf).more bf.size) (((Row.of_own oc3).below bf).more bf.size) (by omega)).mono ?_
  rintro e wg ⟨rfl, bg⟩
  have hs := Te.bel.size
  have hfin := (Te.bel.trans (bf.mono hs)).trans (bg.mono (by have := bf.size; omega))
  clear oa3 oc3 oe Te bf bg
  dsimp only
  go_wp2
  go_ret
  exact ⟨rfl, hfin⟩
end Go.Proofs.Ytjjedmmenlfedaa
