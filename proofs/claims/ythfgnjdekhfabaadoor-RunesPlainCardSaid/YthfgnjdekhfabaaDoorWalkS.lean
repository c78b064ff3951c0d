/- The walk of Width. -/
import Derived.Test.YthfgnjdekhfabaaDoorWalkR
import Derived.Laws.Tables
namespace Go.Proofs.YthfgnjdekhfabaaDoor
open Go.RowKit Ru
set_option maxRecDepth 100000

namespace Ru
def noneL : List (Int × Int) := [(0, 31), (127, 159), (768, 879), (8203, 8207), (65024, 65039)]
def wideL : List (Int × Int) := [(4352, 4447), (11904, 12350), (12353, 42191), (44032, 55203), (63744, 64255), (65072, 65135), (65281, 65376), (65504, 65510), (127744, 128591), (129280, 129535), (131072, 262141)]
def cellsL (l : List (Int × Int)) : List Value := l.flatMap fun p => [.int .i32 p.1, .int .i32 p.2]
/-- How wide a character is. -/
def wid (r : Int) : Int := if Lib.validRune r = false ∨ inS r noneL = true then 0 else if inS r wideL = true then 2 else 1
end Ru

theorem spans_none (w : World) (o : Obj) : Spans ((w.alloc (.cells (cellsL noneL).toArray 66)).alloc o) w.heap.size noneL := by
  have hB := Blk.alloc (Blk.new w 66 (cellsL noneL).toArray) o
  refine ⟨Blk.lt hB, fun j hj => ?_⟩
  have hj5 : j < 5 := hj
  have hjj : j = 0 ∨ j = 1 ∨ j = 2 ∨ j = 3 ∨ j = 4 := by omega
  rcases hjj with rfl | rfl | rfl | rfl | rfl
  all_goals exact ⟨Blk.cell hB _, Blk.cell hB _⟩

theorem spans_wide (w : World) : Spans (w.alloc (.cells (cellsL wideL).toArray 67)) w.heap.size wideL := by
  have hB := Blk.new w 67 (cellsL wideL).toArray
  refine ⟨Blk.lt hB, fun j hj => ?_⟩
  have hj5 : j < 11 := hj
  have hjj : j = 0 ∨ j = 1 ∨ j = 2 ∨ j = 3 ∨ j = 4 ∨ j = 5 ∨ j = 6 ∨ j = 7 ∨ j = 8 ∨ j = 9 ∨ j = 10 := by omega
  rcases hjj with rfl | rfl | rfl | rfl | rfl | rfl | rfl | rfl | rfl | rfl | rfl
  all_goals exact ⟨Blk.cell hB _, Blk.cell hB _⟩

theorem Spans.below {w w' : World} {g : Nat} {l : List (Int × Int)} (h : Spans w g l) (hb : Below w.heap.size w w') : Spans w' g l :=
  ⟨Nat.lt_of_lt_of_le h.1 hb.size, fun j hj => ⟨(hb.cell (p := ⟨g, j * 2, none⟩) h.1).trans (h.2 j hj).1, (hb.cell (p := ⟨g, j * 2 + 1, none⟩) h.1).trans (h.2 j hj).2⟩⟩

/-- What Width leaves. -/
def Wided (w : World) (z : Int) (e : Ending) (w' : World) : Prop := e = .returned (.int .i64 z) ∧ Below w.heap.size w w'

section
variable {P : Program}
theorem wpList_build_as {ops : Array Oper} {rest : List Oper} {o : Oper} {a : Act} {w : World} {Q : Exit → Act → World → Prop} (hg : o.guard = none) (t : TypeId) (parts : Array (Nat × Operand)) (ho : o.op = .build t parts) (cells : Array Value)
    (hf : P.built t (parts.map fun (i, x) => (i, a.eval x)).toList = some cells)
    (h : wpList P ops Q rest (a.put o.dst (.agg cells)) w) : wpList P ops Q (o :: rest) a w :=
  wpList_build hg t parts ho (by rw [hf]; rfl) (by rw [hf]; exact h)

theorem setRow_new (W : World) (old cs : Array Value) (t : TypeId) : (W.alloc (.cells old t)).setRow W.heap.size cs = W.alloc (.cells cs t) := by
  unfold World.setRow World.alloc
  congr 1
  apply Array.ext
  · simp
  · intro k h1 h2
    simp only [Array.getElem_modify]
    split
    · rename_i hk
      subst hk
      simp
    · rename_i hk
      have : k < W.heap.size := by simp at h2; omega
      simp [Array.getElem_push, this]

theorem wpList_store_new {ops : Array Oper} {rest : List Oper} {o : Oper} {a : Act} {W : World} {Q : Exit → Act → World → Prop} (hgd : o.guard = none) (ty : TypeId) (x y : Operand) (ho : o.op = .store ty x y)
    (g : Nat) (hgW : W.heap.size = g) (cells : Array Value) (hx : a.eval x = .pointer (some ⟨g, 0, none⟩)) (hy : a.eval y = .agg cells)
    (t : TypeId) (old : Array Value) (hi : (P.info? ty).map (·.size) = some cells.size)
    (hold : old.size = cells.size) (h1 : cells.all (·.oneCell') = true)
    (h : wpList P ops Q rest (a.put o.dst undef) (W.alloc (.cells cells t))) : wpList P ops Q (o :: rest) a (W.alloc (.cells old t)) := by
  subst hgW
  exact wpList_store_row hgd ty x y ho W.heap.size cells hx hy t old (heap_alloc_new W _) hi hold h1 (by rw [setRow_new]; exact h)
end

set_option maxHeartbeats 1600000 in
theorem Width_any (r : Int) (w : World) : Calls Tryd.prog 21 #[.int .i32 r] w (Wided w (wid r)) := by
  obtain ⟨CN, hCN⟩ : ∃ CN, (cellsL noneL).toArray = CN := ⟨_, rfl⟩
  obtain ⟨CW, hCW⟩ : ∃ CW, (cellsL wideL).toArray = CW := ⟨_, rfl⟩
  have hs1 := spans_none w (.cells (cellsL wideL).toArray 67)
  have hs2 := spans_wide (w.alloc (.cells (cellsL noneL).toArray 66))
  have i1 : (Tryd.prog.info? 66).map (·.size) = some (cellsL noneL).toArray.size := by kernel_rfl
  have i2 : (Tryd.prog.info? 67).map (·.size) = some (cellsL wideL).toArray.size := by kernel_rfl
  have s1 : (cellsL noneL).toArray.size = 10 := by kernel_rfl
  have s2 : (cellsL wideL).toArray.size = 22 := by kernel_rfl
  have o1 : (cellsL noneL).toArray.all (·.oneCell') = true := by kernel_rfl
  have o2 : (cellsL wideL).toArray.all (·.oneCell') = true := by kernel_rfl
  have HCN := hide hCN
  have HCW := hide hCW
  rw [hCN, hCW] at hs1
  rw [hCN, hCW] at hs2
  rw [hCN] at i1 s1 o1
  rw [hCW] at i2 s2 o2
  have hV := Tryd.utf8_ValidRune r
  have hb2 : Below w.heap.size w ((w.alloc (.cells CN 66)).alloc (.cells CW 67)) :=
    ((Below.refl _ w).alloc (Nat.le_refl _) _).alloc (by simp) _
  have HV := hide hV
  have HS1 := hide hs1
  have HS2 := hide hs2
  have HB2 := hide hb2
  have HI1 := hide i1
  have HI2 := hide i2
  have HZ1 := hide s1
  have HZ2 := hide s2
  have HO1 := hide o1
  have HO2 := hide o2
  clear hs1 hs2 hV hb2 i1 i2 s1 s2 o1 o2 hCN hCW
  have hin1 : Calls Tryd.prog 29 #[.int .i32 r, .slice (some ⟨w.heap.size, 0, none⟩) 5 5] ((w.alloc (.cells CN 66)).alloc (.cells CW 67)) fun e w' => e = .returned (.bool (inS r noneL)) ∧ Below ((w.alloc (.cells CN 66)).alloc (.cells CW 67)).heap.size ((w.alloc (.cells CN 66)).alloc (.cells CW 67)) w' :=
    in_any r noneL w.heap.size _ HS1.out (by decide)
  have hin2 : ∀ wx, Below ((w.alloc (.cells CN 66)).alloc (.cells CW 67)).heap.size ((w.alloc (.cells CN 66)).alloc (.cells CW 67)) wx →
      Calls Tryd.prog 29 #[.int .i32 r, .slice (some ⟨w.heap.size + 1, 0, none⟩) 11 11] wx fun e w' => e = .returned (.bool (inS r wideL)) ∧ Below wx.heap.size wx w' := by
    intro wx hx
    have h2 : Spans ((w.alloc (.cells CN 66)).alloc (.cells CW 67)) (w.heap.size + 1) wideL := by simpa using HS2.out
    exact in_any r wideL (w.heap.size + 1) wx (h2.below hx) (by decide)
  have HIN1 := hide hin1
  have HIN2 := hide hin2
  clear hin1 hin2
  obtain ⟨Z, hZ⟩ : ∃ Z, wid r = Z := ⟨_, rfl⟩
  rw [hZ]
  unfold wid at hZ
  have HZ := hide hZ
  clear hZ
  go_enter Tryd.func21, Tryd.ntmps21
  go_wp2_with (first
    | (refine wpList_build_as rfl 66 _ rfl CN ?b1 ?_)
    | (refine wpList_build_as rfl 67 _ rfl CW ?b2 ?_)
    | (refine wpList_store_new rfl 66 (.tmp 3) (.tmp 10) rfl w.heap.size rfl CN rfl rfl 66 _ HI1.out ?s1 HO1.out ?_)
    | (refine wpList_store_new rfl 67 (.tmp 4) (.tmp 22) rfl (w.heap.size + 1) (by simp) CW rfl rfl 67 _ HI2.out ?s2 HO2.out ?_))
  case b1 => rw [← HCN.out]; kernel_rfl
  case b2 => rw [← HCW.out]; kernel_rfl
  case s1 => rw [HZ1.out]; rfl
  case s2 => rw [HZ2.out]; rfl
  refine (HV.out _).mono ?_
  rintro e w' ⟨rfl, rfl⟩
  dsimp only
  cases hv : Lib.validRune r with
  | false =>
    have hz : Z = 0 := by rw [← HZ.out, if_pos (.inl hv)]
    subst hz
    clear hv
    go_wp2
    go_ret
    exact ⟨rfl, HB2.out⟩
  | true =>
    cases h1 : inS r noneL with
    | true =>
      have hz : Z = 0 := by rw [← HZ.out, if_pos (.inr h1)]
      subst hz
      rw [h1] at HIN1
      clear hv h1
      go_wp2_with fail
      refine HIN1.out.mono ?_
      rintro e w2 ⟨rfl, b2⟩
      have HB3 := hide (HB2.out.trans (b2.mono HB2.out.size))
      clear b2
      dsimp only
      go_wp2
      go_ret
      exact ⟨rfl, HB3.out⟩
    | false =>
      have hz : Z = if inS r wideL = true then 2 else 1 := by rw [← HZ.out, if_neg (by rw [hv, h1]; decide)]
      rw [h1] at HIN1
      have HZ2 := hide hz
      clear hv h1 hz
      go_wp2_with fail
      refine HIN1.out.mono ?_
      rintro e w2 ⟨rfl, b2⟩
      have HB3 := hide (HB2.out.trans (b2.mono HB2.out.size))
      have HI3 := hide (HIN2.out w2 b2)
      clear b2 HIN2
      cases h2 : inS r wideL with
      | true =>
        have hz := HZ2.out
        rw [h2, if_pos rfl] at hz
        subst hz
        rw [h2] at HI3
        clear h2
        dsimp only
        go_wp2_with fail
        refine HI3.out.mono ?_
        rintro e w3 ⟨rfl, b3⟩
        have HB4 := hide (HB3.out.trans (b3.mono HB3.out.size))
        clear b3
        dsimp only
        go_wp2
        go_ret
        exact ⟨rfl, HB4.out⟩
      | false =>
        have hz := HZ2.out
        rw [h2, if_neg (by decide)] at hz
        subst hz
        rw [h2] at HI3
        clear h2
        dsimp only
        go_wp2_with fail
        refine HI3.out.mono ?_
        rintro e w3 ⟨rfl, b3⟩
        have HB4 := hide (HB3.out.trans (b3.mono HB3.out.size))
        clear b3
        dsimp only
        go_wp2
        go_ret
        exact ⟨rfl, HB4.out⟩
end Go.Proofs.YthfgnjdekhfabaaDoor
