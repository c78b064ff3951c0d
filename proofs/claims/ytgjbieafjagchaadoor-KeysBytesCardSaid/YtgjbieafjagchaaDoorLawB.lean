/- The law KeysBytes: a key's bytes are told as the document says. (Printed by gen_lb.py.) -/
import Derived.Test.YtgjbieafjagchaaDoorWalkF
import Derived.Test.YtgjbieafjagchaaDoorWalkBy
import Derived.IntWalk
import Derived.Deep.RegionHeld3
namespace Go.Proofs.YtgjbieafjagchaaDoor
open Go.RowKit
set_option maxRecDepth 100000

theorem wp_gen {P : Program} {c : Code} {Q : Exit → Act → World → Prop} {a : Act} {W : World} (S : World → Prop) (h : S W) (k : ∀ wr, S wr → c.wp P Q a wr) : c.wp P Q a W := k W h

theorem four_step {w2 wx wy : World} {B X Y Z : Nat} {kd n0 k1 n1 n2 m : Int} {S : ByteArray} (hB : B < w2.heap.size) (hX : X < w2.heap.size) (hY : Y < w2.heap.size) (hZ : Z < w2.heap.size) (h0 : 0 < w2.heap.size)
    (h : wx.cell? ⟨B, 0, none⟩ = some (.int .i64 kd) ∧ wx.cell? ⟨B, 1, none⟩ = some (.int .i64 n0) ∧ wx.cell? ⟨B, 2, none⟩ = some (.string S) ∧ wx.cell? ⟨X, 0, none⟩ = some (.int .i64 k1) ∧ wx.cell? ⟨X, 1, none⟩ = some (.int .i64 n1) ∧ wx.cell? ⟨X, 2, none⟩ = some (.string S) ∧ wx.cell? ⟨Y, 0, none⟩ = some (.int .i64 k1) ∧ wx.cell? ⟨Y, 1, none⟩ = some (.int .i64 0) ∧ wx.cell? ⟨Y, 2, none⟩ = some (.string S) ∧ wx.cell? ⟨Z, 0, none⟩ = some (.int .i64 k1) ∧ wx.cell? ⟨Z, 1, none⟩ = some (.int .i64 n2) ∧ wx.cell? ⟨Z, 2, none⟩ = some (.string S) ∧ wx.cell? ⟨0, 0, none⟩ = some (.int .i64 m) ∧ Below w2.heap.size w2 wx) (b : Below wx.heap.size wx wy) :
    wy.cell? ⟨B, 0, none⟩ = some (.int .i64 kd) ∧ wy.cell? ⟨B, 1, none⟩ = some (.int .i64 n0) ∧ wy.cell? ⟨B, 2, none⟩ = some (.string S) ∧ wy.cell? ⟨X, 0, none⟩ = some (.int .i64 k1) ∧ wy.cell? ⟨X, 1, none⟩ = some (.int .i64 n1) ∧ wy.cell? ⟨X, 2, none⟩ = some (.string S) ∧ wy.cell? ⟨Y, 0, none⟩ = some (.int .i64 k1) ∧ wy.cell? ⟨Y, 1, none⟩ = some (.int .i64 0) ∧ wy.cell? ⟨Y, 2, none⟩ = some (.string S) ∧ wy.cell? ⟨Z, 0, none⟩ = some (.int .i64 k1) ∧ wy.cell? ⟨Z, 1, none⟩ = some (.int .i64 n2) ∧ wy.cell? ⟨Z, 2, none⟩ = some (.string S) ∧ wy.cell? ⟨0, 0, none⟩ = some (.int .i64 m) ∧ Below w2.heap.size w2 wy := by
  obtain ⟨c0, c1, c2, c3, c4, c5, c6, c7, c8, c9, c10, c11, c12, hb⟩ := h
  have hz := hb.size
  exact ⟨(b.cell (Nat.lt_of_lt_of_le hB hz)).trans c0, (b.cell (Nat.lt_of_lt_of_le hB hz)).trans c1, (b.cell (Nat.lt_of_lt_of_le hB hz)).trans c2, (b.cell (Nat.lt_of_lt_of_le hX hz)).trans c3, (b.cell (Nat.lt_of_lt_of_le hX hz)).trans c4, (b.cell (Nat.lt_of_lt_of_le hX hz)).trans c5, (b.cell (Nat.lt_of_lt_of_le hY hz)).trans c6, (b.cell (Nat.lt_of_lt_of_le hY hz)).trans c7, (b.cell (Nat.lt_of_lt_of_le hY hz)).trans c8, (b.cell (Nat.lt_of_lt_of_le hZ hz)).trans c9, (b.cell (Nat.lt_of_lt_of_le hZ hz)).trans c10, (b.cell (Nat.lt_of_lt_of_le hZ hz)).trans c11, (b.cell (Nat.lt_of_lt_of_le h0 hz)).trans c12, hb.trans (b.mono hz)⟩

theorem four_drew {w2 wx wy : World} {B X Y Z : Nat} {kd n0 k1 n1 n2 m : Int} {S : ByteArray} (hB : B < w2.heap.size) (hX : X < w2.heap.size) (hY : Y < w2.heap.size) (hZ : Z < w2.heap.size) (h0 : 0 < w2.heap.size)
    (h : wx.cell? ⟨B, 0, none⟩ = some (.int .i64 kd) ∧ wx.cell? ⟨B, 1, none⟩ = some (.int .i64 n0) ∧ wx.cell? ⟨B, 2, none⟩ = some (.string S) ∧ wx.cell? ⟨X, 0, none⟩ = some (.int .i64 k1) ∧ wx.cell? ⟨X, 1, none⟩ = some (.int .i64 n1) ∧ wx.cell? ⟨X, 2, none⟩ = some (.string S) ∧ wx.cell? ⟨Y, 0, none⟩ = some (.int .i64 k1) ∧ wx.cell? ⟨Y, 1, none⟩ = some (.int .i64 0) ∧ wx.cell? ⟨Y, 2, none⟩ = some (.string S) ∧ wx.cell? ⟨Z, 0, none⟩ = some (.int .i64 k1) ∧ wx.cell? ⟨Z, 1, none⟩ = some (.int .i64 n2) ∧ wx.cell? ⟨Z, 2, none⟩ = some (.string S) ∧ wx.cell? ⟨0, 0, none⟩ = some (.int .i64 m) ∧ Below w2.heap.size w2 wx) (b : Below wx.drew.heap.size wx.drew wy) :
    wy.cell? ⟨B, 0, none⟩ = some (.int .i64 kd) ∧ wy.cell? ⟨B, 1, none⟩ = some (.int .i64 n0) ∧ wy.cell? ⟨B, 2, none⟩ = some (.string S) ∧ wy.cell? ⟨X, 0, none⟩ = some (.int .i64 k1) ∧ wy.cell? ⟨X, 1, none⟩ = some (.int .i64 n1) ∧ wy.cell? ⟨X, 2, none⟩ = some (.string S) ∧ wy.cell? ⟨Y, 0, none⟩ = some (.int .i64 k1) ∧ wy.cell? ⟨Y, 1, none⟩ = some (.int .i64 0) ∧ wy.cell? ⟨Y, 2, none⟩ = some (.string S) ∧ wy.cell? ⟨Z, 0, none⟩ = some (.int .i64 k1) ∧ wy.cell? ⟨Z, 1, none⟩ = some (.int .i64 n2) ∧ wy.cell? ⟨Z, 2, none⟩ = some (.string S) ∧ wy.cell? ⟨0, 0, none⟩ = some (.int .i64 m) ∧ Below w2.heap.size w2 wy := four_step hB hX hY hZ h0 (wx := wx.drew) (by
      obtain ⟨c0, c1, c2, c3, c4, c5, c6, c7, c8, c9, c10, c11, c12, hb⟩ := h
      exact ⟨c0, c1, c2, c3, c4, c5, c6, c7, c8, c9, c10, c11, c12, hb.drew⟩) b

theorem four_start {w2 : World} {B X Y Z : Nat} {kd n0 k1 n1 n2 m : Int} {S : ByteArray}
    (h : w2.cell? ⟨B, 0, none⟩ = some (.int .i64 kd) ∧ w2.cell? ⟨B, 1, none⟩ = some (.int .i64 n0) ∧ w2.cell? ⟨B, 2, none⟩ = some (.string S) ∧ w2.cell? ⟨X, 0, none⟩ = some (.int .i64 k1) ∧ w2.cell? ⟨X, 1, none⟩ = some (.int .i64 n1) ∧ w2.cell? ⟨X, 2, none⟩ = some (.string S) ∧ w2.cell? ⟨Y, 0, none⟩ = some (.int .i64 k1) ∧ w2.cell? ⟨Y, 1, none⟩ = some (.int .i64 0) ∧ w2.cell? ⟨Y, 2, none⟩ = some (.string S) ∧ w2.cell? ⟨Z, 0, none⟩ = some (.int .i64 k1) ∧ w2.cell? ⟨Z, 1, none⟩ = some (.int .i64 n2) ∧ w2.cell? ⟨Z, 2, none⟩ = some (.string S) ∧ w2.cell? ⟨0, 0, none⟩ = some (.int .i64 m) ∧ Below w2.heap.size w2 w2) :
    w2.drew.cell? ⟨B, 0, none⟩ = some (.int .i64 kd) ∧ w2.drew.cell? ⟨B, 1, none⟩ = some (.int .i64 n0) ∧ w2.drew.cell? ⟨B, 2, none⟩ = some (.string S) ∧ w2.drew.cell? ⟨X, 0, none⟩ = some (.int .i64 k1) ∧ w2.drew.cell? ⟨X, 1, none⟩ = some (.int .i64 n1) ∧ w2.drew.cell? ⟨X, 2, none⟩ = some (.string S) ∧ w2.drew.cell? ⟨Y, 0, none⟩ = some (.int .i64 k1) ∧ w2.drew.cell? ⟨Y, 1, none⟩ = some (.int .i64 0) ∧ w2.drew.cell? ⟨Y, 2, none⟩ = some (.string S) ∧ w2.drew.cell? ⟨Z, 0, none⟩ = some (.int .i64 k1) ∧ w2.drew.cell? ⟨Z, 1, none⟩ = some (.int .i64 n2) ∧ w2.drew.cell? ⟨Z, 2, none⟩ = some (.string S) ∧ w2.drew.cell? ⟨0, 0, none⟩ = some (.int .i64 m) ∧ Below w2.heap.size w2 w2.drew := by
  obtain ⟨c0, c1, c2, c3, c4, c5, c6, c7, c8, c9, c10, c11, c12, hb⟩ := h
  exact ⟨c0, c1, c2, c3, c4, c5, c6, c7, c8, c9, c10, c11, c12, hb.drew⟩

theorem four_glob {w2 wx : World} {B X Y Z : Nat} {kd n0 k1 n1 n2 m : Int} {S : ByteArray}
    (h : wx.cell? ⟨B, 0, none⟩ = some (.int .i64 kd) ∧ wx.cell? ⟨B, 1, none⟩ = some (.int .i64 n0) ∧ wx.cell? ⟨B, 2, none⟩ = some (.string S) ∧ wx.cell? ⟨X, 0, none⟩ = some (.int .i64 k1) ∧ wx.cell? ⟨X, 1, none⟩ = some (.int .i64 n1) ∧ wx.cell? ⟨X, 2, none⟩ = some (.string S) ∧ wx.cell? ⟨Y, 0, none⟩ = some (.int .i64 k1) ∧ wx.cell? ⟨Y, 1, none⟩ = some (.int .i64 0) ∧ wx.cell? ⟨Y, 2, none⟩ = some (.string S) ∧ wx.cell? ⟨Z, 0, none⟩ = some (.int .i64 k1) ∧ wx.cell? ⟨Z, 1, none⟩ = some (.int .i64 n2) ∧ wx.cell? ⟨Z, 2, none⟩ = some (.string S) ∧ wx.cell? ⟨0, 0, none⟩ = some (.int .i64 m) ∧ Below w2.heap.size w2 wx) : wx.cell? ⟨0, 0, none⟩ = some (.int .i64 m) := by
  obtain ⟨c0, c1, c2, c3, c4, c5, c6, c7, c8, c9, c10, c11, c12, hb⟩ := h
  exact c12
theorem four_below {w2 wx : World} {B X Y Z : Nat} {kd n0 k1 n1 n2 m : Int} {S : ByteArray}
    (h : wx.cell? ⟨B, 0, none⟩ = some (.int .i64 kd) ∧ wx.cell? ⟨B, 1, none⟩ = some (.int .i64 n0) ∧ wx.cell? ⟨B, 2, none⟩ = some (.string S) ∧ wx.cell? ⟨X, 0, none⟩ = some (.int .i64 k1) ∧ wx.cell? ⟨X, 1, none⟩ = some (.int .i64 n1) ∧ wx.cell? ⟨X, 2, none⟩ = some (.string S) ∧ wx.cell? ⟨Y, 0, none⟩ = some (.int .i64 k1) ∧ wx.cell? ⟨Y, 1, none⟩ = some (.int .i64 0) ∧ wx.cell? ⟨Y, 2, none⟩ = some (.string S) ∧ wx.cell? ⟨Z, 0, none⟩ = some (.int .i64 k1) ∧ wx.cell? ⟨Z, 1, none⟩ = some (.int .i64 n2) ∧ wx.cell? ⟨Z, 2, none⟩ = some (.string S) ∧ wx.cell? ⟨0, 0, none⟩ = some (.int .i64 m) ∧ Below w2.heap.size w2 wx) : Below w2.heap.size w2 wx := by
  obtain ⟨c0, c1, c2, c3, c4, c5, c6, c7, c8, c9, c10, c11, c12, hb⟩ := h
  exact hb
theorem four_new {w2 : World} {B X Y Z : Nat} {kd n0 k1 n1 n2 m : Int} {S : ByteArray} (hB : Blk w2 B 23 #[.int .i64 kd, .int .i64 n0, .string S]) (hX : Blk w2 X 23 #[.int .i64 k1, .int .i64 n1, .string S])
    (hY : Blk w2 Y 23 #[.int .i64 k1, .int .i64 0, .string S]) (hZ : Blk w2 Z 23 #[.int .i64 k1, .int .i64 n2, .string S]) (hm : w2.cell? ⟨0, 0, none⟩ = some (.int .i64 m)) :
    w2.cell? ⟨B, 0, none⟩ = some (.int .i64 kd) ∧ w2.cell? ⟨B, 1, none⟩ = some (.int .i64 n0) ∧ w2.cell? ⟨B, 2, none⟩ = some (.string S) ∧ w2.cell? ⟨X, 0, none⟩ = some (.int .i64 k1) ∧ w2.cell? ⟨X, 1, none⟩ = some (.int .i64 n1) ∧ w2.cell? ⟨X, 2, none⟩ = some (.string S) ∧ w2.cell? ⟨Y, 0, none⟩ = some (.int .i64 k1) ∧ w2.cell? ⟨Y, 1, none⟩ = some (.int .i64 0) ∧ w2.cell? ⟨Y, 2, none⟩ = some (.string S) ∧ w2.cell? ⟨Z, 0, none⟩ = some (.int .i64 k1) ∧ w2.cell? ⟨Z, 1, none⟩ = some (.int .i64 n2) ∧ w2.cell? ⟨Z, 2, none⟩ = some (.string S) ∧ w2.cell? ⟨0, 0, none⟩ = some (.int .i64 m) ∧ Below w2.heap.size w2 w2 :=
  ⟨Blk.cell hB 0, Blk.cell hB 1, Blk.cell hB 2, Blk.cell hX 0, Blk.cell hX 1, Blk.cell hX 2, Blk.cell hY 0, Blk.cell hY 1, Blk.cell hY 2, Blk.cell hZ 0, Blk.cell hZ 1, Blk.cell hZ 2, hm, Below.refl _ _⟩

set_option maxHeartbeats 6400000 in
theorem law_walk (kd n0 kind n : Int) (S0 : ByteArray) (m : Int) (w : World) (hm : w.cell? ⟨0, 0, none⟩ = some (.int .i64 m)) :
    Calls Tryd.prog 3 #[.agg #[.int .i64 kd, .int .i64 n0, .string S0], .int .i64 kind, .int .i64 n] w
      fun e w' => e = .returned (.bool true) ∧ Below w.heap.size w w' := by
  have hb0 := Blk.new w 23 #[.int .i64 kd, .int .i64 n0, .string S0]
  have HA := hide (awake_any (w.alloc (.cells #[.int .i64 kd, .int .i64 n0, .string S0] 23)))
  have hS := sh_size S0 20
  have HSH := hide (fun wx => short_any S0 20 wx)
  generalize sh S0 20 = S at hS HSH
  have HBY := hide (fun kx nx wx (hx : wx.cell? ⟨0, 0, none⟩ = some (.int .i64 m)) => Bytes_any kx nx S (by omega) m wx hx)
  have HRB := hide (fun kx nx wx => RBytes_any kx nx S (by omega) wx)
  go_enter Tryd.func3, Tryd.ntmps3
  go_wp2_with fail
  refine HA.out.mono ?_
  rintro e w1 ⟨rfl, b1⟩
  have hb1 := Blk.below hb0 b1 (by simp)
  have c0 : w1.cell? ⟨w.heap.size, 0, none⟩ = some (.int .i64 kd) := Blk.cell hb1 0
  have c1 : w1.cell? ⟨w.heap.size, 1, none⟩ = some (.int .i64 n0) := Blk.cell hb1 1
  have c2 : w1.cell? ⟨w.heap.size, 2, none⟩ = some (.string S0) := Blk.cell hb1 2
  have f2 : w1.frozen? ⟨w.heap.size, 2, none⟩ = false := Blk.frozen hb1 2
  have hbw := ((Below.refl _ w).alloc (Nat.le_refl _) (.cells #[.int .i64 kd, .int .i64 n0, .string S0] 23)).trans (b1.mono (by simp))
  have hup := hbw.size
  have h0 := cell_lt hm
  have hgl : w1.cell? ⟨0, 0, none⟩ = some (.int .i64 m) := (hbw.cell (p := ⟨0, 0, none⟩) h0).trans hm
  have hb2 : Blk (w1.setCell ⟨w.heap.size, 2, none⟩ (.string S)) w.heap.size 23 #[.int .i64 kd, .int .i64 n0, .string S] := Blk.set_ hb1 2 _
  have hw2 := hbw.setCell (p := ⟨w.heap.size, 2, none⟩) (Nat.le_refl _) (.string S)
  have hlt := Blk.lt hb2
  have hgl2 : (w1.setCell ⟨w.heap.size, 2, none⟩ (.string S)).cell? ⟨0, 0, none⟩ = some (.int .i64 m) := (hw2.cell (p := ⟨0, 0, none⟩) h0).trans hm
  have HW2 := hide hw2
  have HB2 := hide hb2
  have HGL2 := hide hgl2
  have HLT := hide hlt
  have HZ := hide h0
  clear HA hb0 hb1 b1 hbw hgl hb2 hw2 hgl2 hlt h0
  dsimp only
  go_wp2_with fail
  refine (HSH.out _).mono ?_
  rintro e w2 ⟨rfl, rfl⟩
  dsimp only
  go_wp2_with fail
  generalize bits BinOp.and IntKind.i64 kind 15 = k1
  generalize wrap64 (bits BinOp.and IntKind.i64 n 1023 - 20) = n1
  generalize bits BinOp.and IntKind.i64 n 7 = n2
  obtain ⟨V, hV⟩ : ∃ V, w1.setCell ⟨w.heap.size, 2, none⟩ (.string S) = V := ⟨_, rfl⟩
  have hVs : V.heap.size = w1.heap.size := by rw [← hV]; simp
  rw [hV] at HW2 HB2 HGL2 HLT ⊢
  clear hV c0 c1 c2 f2 hm HSH hup
  rw [← hVs]
  clear hVs w1
  generalize hB : w.heap.size = B
  have hBw := HW2.out
  rw [hB] at HB2 HLT
  refine wp_gen (fun wr => Blk wr B 23 #[.int .i64 kd, .int .i64 n0, .string S] ∧ Blk wr V.heap.size 23 #[.int .i64 k1, .int .i64 n1, .string S] ∧ Blk wr (V.heap.size + 1) 23 #[.int .i64 k1, .int .i64 0, .string S] ∧
    Blk wr (V.heap.size + 1 + 1) 23 #[.int .i64 k1, .int .i64 n2, .string S] ∧ wr.cell? ⟨0, 0, none⟩ = some (.int .i64 m) ∧ Below w.heap.size w wr) ?_ ?_
  · have a1 := HW2.out.alloc HW2.out.size (.cells #[.int .i64 k1, .int .i64 n1, .string S] 23)
    have a2 := a1.alloc a1.size (.cells #[.int .i64 k1, .int .i64 0, .string S] 23)
    have a3 := a2.alloc a2.size (.cells #[.int .i64 k1, .int .i64 n2, .string S] 23)
    refine ⟨((HB2.out.alloc _).alloc _).alloc _, ((Blk.new V _ _).alloc _).alloc _, ?_, ?_, ?_, a3⟩
    · have := Blk.new (V.alloc (.cells #[.int .i64 k1, .int .i64 n1, .string S] 23)) 23 #[.int .i64 k1, .int .i64 0, .string S]
      simpa using this.alloc (.cells #[.int .i64 k1, .int .i64 n2, .string S] 23)
    · have := Blk.new ((V.alloc (.cells #[.int .i64 k1, .int .i64 n1, .string S] 23)).alloc (.cells #[.int .i64 k1, .int .i64 0, .string S] 23)) 23 #[.int .i64 k1, .int .i64 n2, .string S]
      simpa using this
    · exact (a3.cell (p := ⟨0, 0, none⟩) HZ.out).trans ((HW2.out.cell (p := ⟨0, 0, none⟩) HZ.out).symm.trans HGL2.out)
  rintro w2 ⟨d1, d2, d3, d4, d5, d6⟩
  generalize V.heap.size + 1 + 1 = Z at d4 ⊢
  generalize V.heap.size + 1 = Y at d3 ⊢
  generalize V.heap.size = X at d2 ⊢
  have hB := Blk.lt d1
  have hX := Blk.lt d2
  have hY := Blk.lt d3
  have hZ := Blk.lt d4
  have h0 := cell_lt d5
  have HF := hide (four_new d1 d2 d3 d4 d5)
  have HW := hide d6
  clear d1 d2 d3 d4 d5 d6 HW2 HB2 HGL2 HLT HZ hBw
  go_region_held3 (fun wx => wx.cell? ⟨B, 0, none⟩ = some (.int .i64 kd) ∧ wx.cell? ⟨B, 1, none⟩ = some (.int .i64 n0) ∧ wx.cell? ⟨B, 2, none⟩ = some (.string S) ∧ wx.cell? ⟨X, 0, none⟩ = some (.int .i64 k1) ∧ wx.cell? ⟨X, 1, none⟩ = some (.int .i64 n1) ∧ wx.cell? ⟨X, 2, none⟩ = some (.string S) ∧ wx.cell? ⟨Y, 0, none⟩ = some (.int .i64 k1) ∧ wx.cell? ⟨Y, 1, none⟩ = some (.int .i64 0) ∧ wx.cell? ⟨Y, 2, none⟩ = some (.string S) ∧ wx.cell? ⟨Z, 0, none⟩ = some (.int .i64 k1) ∧ wx.cell? ⟨Z, 1, none⟩ = some (.int .i64 n2) ∧ wx.cell? ⟨Z, 2, none⟩ = some (.string S) ∧ wx.cell? ⟨0, 0, none⟩ = some (.int .i64 m) ∧ Below w2.heap.size w2 wx)
    (first | exact four_start HF.out | exact four_step hB hX hY hZ h0 (by assumption) b3 | exact four_drew hB hX hY hZ h0 (by assumption) b3 | exact four_drew hB hX hY hZ h0 HF.out b3)
    (first | (go_at_call 6; refine (HBY.out _ _ _ (four_glob (by assumption))).mono ?_; rintro e w3 ⟨rfl, b3⟩) | (go_at_call 7; refine (HRB.out _ _ _).mono ?_; rintro e w3 ⟨rfl, b3⟩))
  have hf := four_below (by assumption)
  have HE := hide (HW.out.trans (hf.mono HW.out.size))
  go_wp2
  go_ret
  exact ⟨rfl, HE.out⟩
end Go.Proofs.YtgjbieafjagchaaDoor
