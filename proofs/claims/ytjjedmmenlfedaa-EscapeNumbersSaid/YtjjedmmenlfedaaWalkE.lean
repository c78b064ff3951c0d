/- The walks of (*Parser).other and (*Parser).step. -/
import Derived.Test.YtjjedmmenlfedaaWalkD
namespace Go.Proofs.Ytjjedmmenlfedaa
open Go.RowKit Esc
set_option maxRecDepth 100000

theorem gives_same {w w1 : World} {b : Nat} {p q : P} {a : A} (hp : Ps w b q) (h : Gives (w.alloc (.cells (acts A0) 28)) b (p, a) (.returned (aval a)) w1) : Behind w w1 b p :=
  behind_of hp rfl (World.grownBy.refl w _) h.2.1 h.2.2

set_option maxHeartbeats 1600000 in
theorem other_0 (b : Nat) (p : P) (r : Int) (w : World) (hp : Ps w b p) (hi : p.inn = 0) :
    Calls Try.prog 17 #[.pointer (some ⟨b, 0, none⟩), .int .i32 r] w (Gives w b (other p r)) := by
  have hlt := Blk.lt hp
  have hne : ¬ b = w.heap.size := by omega
  have c0 : w.cell? ⟨b, 0, none⟩ = some (.int .i64 0) := by have := Blk.cell hp 0; rw [this]; show some (Value.int .i64 p.inn) = _; rw [hi]
  have hE : other p r = (p, ⟨1, r, 0, 0, 0, 0, 0, 0, 0, 0, 0, 0, 0⟩) := by unfold other; rw [if_pos hi]
  rw [hE]
  have HP := hide hp
  clear hE hp hi
  go_enter Try.func17, Try.ntmps17
  go_wp2
  exact gives_new (a := ⟨1, r, 0, 0, 0, 0, 0, 0, 0, 0, 0, 0, 0⟩) Try.results17 rfl rfl HP.out (World.grownBy.refl w _)

set_option maxHeartbeats 1600000 in
theorem other_1 (b : Nat) (p : P) (r : Int) (w : World) (hp : Ps w b p) (hi : p.inn = 1) (h1 : 32 ≤ r) :
    Calls Try.prog 17 #[.pointer (some ⟨b, 0, none⟩), .int .i32 r] w (Gives w b (other p r)) := by
  have hlt := Blk.lt hp
  have hne : ¬ b = w.heap.size := by omega
  have c0 : w.cell? ⟨b, 0, none⟩ = some (.int .i64 1) := by have := Blk.cell hp 0; rw [this]; show some (Value.int .i64 p.inn) = _; rw [hi]
  have hE : other p r = escaped p r := by unfold other; rw [if_neg (by omega), if_pos hi]
  rw [hE]
  clear hE hi
  have hcall := fun wx hx => escaped_any b p r wx hx h1
  generalize escaped p r = q at hcall ⊢
  obtain ⟨p', a'⟩ := q
  have HP := hide hp
  have HC := hide hcall
  clear hp hcall
  go_enter Try.func17, Try.ntmps17
  go_wp2_with fail
  refine (HC.out _ (Blk.alloc HP.out _)).mono ?_
  rintro e w1 ⟨rfl, hp1, hg1⟩
  have HB := hide (behind_of HP.out rfl (World.grownBy.refl w _) hp1 hg1)
  obtain ⟨v0, v1, v2, v3, v4, v5, v6, v7, v8, v9, v10, v11, v12, z0, z1, z2, z3, z4, z5, z6, z7, z8, z9, z10, z11, z12, ne1, ne2⟩ := HB.out.facts
  clear hp1 hg1 c0
  unfold aval acts
  dsimp only
  go_wp2
  exact gives_put (a := a') Try.results17 rfl HB.out

set_option maxHeartbeats 1600000 in
theorem other_2 (b : Nat) (p : P) (r : Int) (w : World) (hp : Ps w b p) (hi : p.inn = 2) (hok : Ok p) (h1 : 32 ≤ r) :
    Calls Try.prog 17 #[.pointer (some ⟨b, 0, none⟩), .int .i32 r] w (Gives w b (other p r)) := by
  have hlt := Blk.lt hp
  have hne : ¬ b = w.heap.size := by omega
  have c0 : w.cell? ⟨b, 0, none⟩ = some (.int .i64 2) := by have := Blk.cell hp 0; rw [this]; show some (Value.int .i64 p.inn) = _; rw [hi]
  have hE : other p r = sequenced p r := by unfold other; rw [if_neg (by omega), if_neg (by omega), if_pos hi]
  rw [hE]
  clear hE hi
  have hcall := fun wx hx => sequenced_any b p r wx hx hok h1
  generalize sequenced p r = q at hcall ⊢
  obtain ⟨p', a'⟩ := q
  have HP := hide hp
  have HC := hide hcall
  clear hp hcall
  go_enter Try.func17, Try.ntmps17
  go_wp2_with fail
  refine (HC.out _ (Blk.alloc HP.out _)).mono ?_
  rintro e w1 ⟨rfl, hp1, hg1⟩
  have HB := hide (behind_of HP.out rfl (World.grownBy.refl w _) hp1 hg1)
  obtain ⟨v0, v1, v2, v3, v4, v5, v6, v7, v8, v9, v10, v11, v12, z0, z1, z2, z3, z4, z5, z6, z7, z8, z9, z10, z11, z12, ne1, ne2⟩ := HB.out.facts
  clear hp1 hg1 c0
  unfold aval acts
  dsimp only
  go_wp2
  exact gives_put (a := a') Try.results17 rfl HB.out

set_option maxHeartbeats 1600000 in
theorem other_3t (b : Nat) (p : P) (r : Int) (w : World) (hp : Ps w b p) (hi : p.inn = 3) (hl : last r = true) :
    Calls Try.prog 17 #[.pointer (some ⟨b, 0, none⟩), .int .i32 r] w (Gives w b (other p r)) := by
  have hlt := Blk.lt hp
  have hne : ¬ b = w.heap.size := by omega
  have c0 : w.cell? ⟨b, 0, none⟩ = some (.int .i64 3) := by have := Blk.cell hp 0; rw [this]; show some (Value.int .i64 p.inn) = _; rw [hi]
  have f0 := Blk.frozen hp 0
  have hE : other p r = ({ p with inn := 0 }, A0) := by unfold other; rw [if_neg (by omega), if_neg (by omega), if_neg (by omega), if_pos ⟨hi, hl⟩]
  rw [hE]
  have hL := last_any r
  rw [hl] at hL
  have HP := hide hp
  clear hE hp hi hl
  go_enter Try.func17, Try.ntmps17
  go_wp2_with (go_at_call 20; refine (hL _).mono ?_; rintro e w' ⟨rfl, rfl⟩)
  exact gives_new (a := A0) Try.results17 rfl (by simp) (ps_set HP.out 0 (.int .i64 0) { p with inn := 0 } rfl) (grown_set (World.grownBy.refl w _) 0 _)

set_option maxHeartbeats 1600000 in
theorem other_3f (b : Nat) (p : P) (r : Int) (w : World) (hp : Ps w b p) (hi : p.inn = 3) (hl : last r = false) :
    Calls Try.prog 17 #[.pointer (some ⟨b, 0, none⟩), .int .i32 r] w (Gives w b (other p r)) := by
  have hlt := Blk.lt hp
  have hne : ¬ b = w.heap.size := by omega
  have c0 : w.cell? ⟨b, 0, none⟩ = some (.int .i64 3) := by have := Blk.cell hp 0; rw [this]; show some (Value.int .i64 p.inn) = _; rw [hi]
  have f0 := Blk.frozen hp 0
  have hE : other p r = (p, A0) := by unfold other; rw [if_neg (by omega), if_neg (by omega), if_neg (by omega), if_neg (by rw [hl]; simp)]
  rw [hE]
  have hL := last_any r
  rw [hl] at hL
  have HP := hide hp
  clear hE hp hi hl
  go_enter Try.func17, Try.ntmps17
  go_wp2_with (go_at_call 20; refine (hL _).mono ?_; rintro e w' ⟨rfl, rfl⟩)
  exact gives_new (a := A0) Try.results17 rfl (by simp) (HP.out) (World.grownBy.refl w _)

set_option maxHeartbeats 1600000 in
theorem other_4 (b : Nat) (p : P) (r : Int) (w : World) (hp : Ps w b p) (i0 : ¬ p.inn = 0) (i1 : ¬ p.inn = 1) (i2 : ¬ p.inn = 2) (i3 : ¬ p.inn = 3) :
    Calls Try.prog 17 #[.pointer (some ⟨b, 0, none⟩), .int .i32 r] w (Gives w b (other p r)) := by
  have hlt := Blk.lt hp
  have hne : ¬ b = w.heap.size := by omega
  have c0 : w.cell? ⟨b, 0, none⟩ = some (.int .i64 p.inn) := Blk.cell hp 0
  have hE : other p r = (p, A0) := by unfold other; rw [if_neg i0, if_neg i1, if_neg i2, if_neg (fun h => i3 h.1)]
  rw [hE]
  have e0 : (p.inn == 0) = false := beq_eq_false_iff_ne.2 i0
  have e1 : (p.inn == 1) = false := beq_eq_false_iff_ne.2 i1
  have e2 : (p.inn == 2) = false := beq_eq_false_iff_ne.2 i2
  have e3 : (p.inn == 3) = false := beq_eq_false_iff_ne.2 i3
  have HP := hide hp
  clear hE hp i0 i1 i2 i3
  go_enter Try.func17, Try.ntmps17
  go_wp2
  exact gives_new (a := A0) Try.results17 rfl (by simp) HP.out (World.grownBy.refl w _)

theorem other_any (b : Nat) (p : P) (r : Int) (w : World) (hp : Ps w b p) (hok : Ok p) (h1 : 32 ≤ r) :
    Calls Try.prog 17 #[.pointer (some ⟨b, 0, none⟩), .int .i32 r] w (Gives w b (other p r)) := by
  by_cases i0 : p.inn = 0
  · exact other_0 b p r w hp i0
  · by_cases i1 : p.inn = 1
    · exact other_1 b p r w hp i1 h1
    · by_cases i2 : p.inn = 2
      · exact other_2 b p r w hp i2 hok h1
      · by_cases i3 : p.inn = 3
        · cases hl : last r with
          | true => exact other_3t b p r w hp i3 hl
          | false => exact other_3f b p r w hp i3 hl
        · exact other_4 b p r w hp i0 i1 i2 i3

/-- A parser made new, in an escape. -/
def putEsc (w : World) (b : Nat) : World := ((((((((((((((w.setCell ⟨b, 0, none⟩ (.int .i64 1)).setCell ⟨b, 1, none⟩ (.int .i64 0)).setCell ⟨b, 2, none⟩ (.int .i32 0)).setCell ⟨b, 3, none⟩ (.int .u8 0)).setCell ⟨b, 4, none⟩ (.int .u8 0)).setCell ⟨b, 5, none⟩ (.int .i64 0)).setCell ⟨b, 6, none⟩ (.int .i64 0)).setCell ⟨b, 7, none⟩ (.int .i64 0)).setCell ⟨b, 8, none⟩ (.int .i64 0)).setCell ⟨b, 9, none⟩ (.int .i64 0)).setCell ⟨b, 10, none⟩ (.int .i64 0)).setCell ⟨b, 11, none⟩ (.int .i64 0)).setCell ⟨b, 12, none⟩ (.int .i64 0)).setCell ⟨b, 13, none⟩ (.int .i64 0)).setCell ⟨b, 14, none⟩ (.bool false)

theorem putEsc_eq (w : World) (b : Nat) : ((((((((((((((w.setCell ⟨b, 0, none⟩ (.int .i64 1)).setCell ⟨b, 1, none⟩ (.int .i64 0)).setCell ⟨b, 2, none⟩ (.int .i32 0)).setCell ⟨b, 3, none⟩ (.int .u8 0)).setCell ⟨b, 4, none⟩ (.int .u8 0)).setCell ⟨b, 5, none⟩ (.int .i64 0)).setCell ⟨b, 6, none⟩ (.int .i64 0)).setCell ⟨b, 7, none⟩ (.int .i64 0)).setCell ⟨b, 8, none⟩ (.int .i64 0)).setCell ⟨b, 9, none⟩ (.int .i64 0)).setCell ⟨b, 10, none⟩ (.int .i64 0)).setCell ⟨b, 11, none⟩ (.int .i64 0)).setCell ⟨b, 12, none⟩ (.int .i64 0)).setCell ⟨b, 13, none⟩ (.int .i64 0)).setCell ⟨b, 14, none⟩ (.bool false) = putEsc w b := rfl

theorem putEsc_ps {w : World} {b : Nat} {p : P} (h : Ps w b p) : Ps (putEsc w b) b ⟨1, A0, false⟩ := by
  have h0 := Blk.set_ (show Blk w b 30 (pcells p) from h) 0 (.int .i64 1)
  have h1 := Blk.set_ h0 1 (.int .i64 0)
  have h2 := Blk.set_ h1 2 (.int .i32 0)
  have h3 := Blk.set_ h2 3 (.int .u8 0)
  have h4 := Blk.set_ h3 4 (.int .u8 0)
  have h5 := Blk.set_ h4 5 (.int .i64 0)
  have h6 := Blk.set_ h5 6 (.int .i64 0)
  have h7 := Blk.set_ h6 7 (.int .i64 0)
  have h8 := Blk.set_ h7 8 (.int .i64 0)
  have h9 := Blk.set_ h8 9 (.int .i64 0)
  have h10 := Blk.set_ h9 10 (.int .i64 0)
  have h11 := Blk.set_ h10 11 (.int .i64 0)
  have h12 := Blk.set_ h11 12 (.int .i64 0)
  have h13 := Blk.set_ h12 13 (.int .i64 0)
  have h14 := Blk.set_ h13 14 (.bool false)
  have e : (((((((((((((((pcells p).setIfInBounds 0 (.int .i64 1)).setIfInBounds 1 (.int .i64 0)).setIfInBounds 2 (.int .i32 0)).setIfInBounds 3 (.int .u8 0)).setIfInBounds 4 (.int .u8 0)).setIfInBounds 5 (.int .i64 0)).setIfInBounds 6 (.int .i64 0)).setIfInBounds 7 (.int .i64 0)).setIfInBounds 8 (.int .i64 0)).setIfInBounds 9 (.int .i64 0)).setIfInBounds 10 (.int .i64 0)).setIfInBounds 11 (.int .i64 0)).setIfInBounds 12 (.int .i64 0)).setIfInBounds 13 (.int .i64 0)).setIfInBounds 14 (.bool false) = pcells ⟨1, A0, false⟩ := by simp [pcells, A0]
  rw [e] at h14
  unfold putEsc
  exact h14

theorem putEsc_grown {a w : World} {b : Nat} (h : a.grownBy w (some b)) : a.grownBy (putEsc w b) (some b) := by
  have h0 := grown_set h 0 (.int .i64 1)
  have h1 := grown_set h0 1 (.int .i64 0)
  have h2 := grown_set h1 2 (.int .i32 0)
  have h3 := grown_set h2 3 (.int .u8 0)
  have h4 := grown_set h3 4 (.int .u8 0)
  have h5 := grown_set h4 5 (.int .i64 0)
  have h6 := grown_set h5 6 (.int .i64 0)
  have h7 := grown_set h6 7 (.int .i64 0)
  have h8 := grown_set h7 8 (.int .i64 0)
  have h9 := grown_set h8 9 (.int .i64 0)
  have h10 := grown_set h9 10 (.int .i64 0)
  have h11 := grown_set h10 11 (.int .i64 0)
  have h12 := grown_set h11 12 (.int .i64 0)
  have h13 := grown_set h12 13 (.int .i64 0)
  have h14 := grown_set h13 14 (.bool false)
  unfold putEsc
  exact h14

theorem putEsc_size (w : World) (b : Nat) : (putEsc w b).heap.size = w.heap.size := by simp [putEsc]

set_option maxHeartbeats 1600000 in
theorem step_27 (b : Nat) (p : P) (w : World) (hp : Ps w b p)  :
    Calls Try.prog 16 #[.pointer (some ⟨b, 0, none⟩), .int .i32 27] w (Gives w b (stp p 27)) := by
  have hlt := Blk.lt hp
  have hne : ¬ b = w.heap.size := by omega
  have c0 : w.cell? ⟨b, 0, none⟩ = some (.int .i64 p.inn) := Blk.cell hp 0
  have c1 : w.cell? ⟨b, 1, none⟩ = some (.int .i64 p.act.kind) := Blk.cell hp 1
  have c2 : w.cell? ⟨b, 2, none⟩ = some (.int .i32 p.act.r) := Blk.cell hp 2
  have c3 : w.cell? ⟨b, 3, none⟩ = some (.int .u8 p.act.priv) := Blk.cell hp 3
  have c4 : w.cell? ⟨b, 4, none⟩ = some (.int .u8 p.act.mid) := Blk.cell hp 4
  have c5 : w.cell? ⟨b, 5, none⟩ = some (.int .i64 p.act.n) := Blk.cell hp 5
  have c6 : w.cell? ⟨b, 6, none⟩ = some (.int .i64 p.act.n0) := Blk.cell hp 6
  have c7 : w.cell? ⟨b, 7, none⟩ = some (.int .i64 p.act.n1) := Blk.cell hp 7
  have c8 : w.cell? ⟨b, 8, none⟩ = some (.int .i64 p.act.n2) := Blk.cell hp 8
  have c9 : w.cell? ⟨b, 9, none⟩ = some (.int .i64 p.act.n3) := Blk.cell hp 9
  have c10 : w.cell? ⟨b, 10, none⟩ = some (.int .i64 p.act.n4) := Blk.cell hp 10
  have c11 : w.cell? ⟨b, 11, none⟩ = some (.int .i64 p.act.n5) := Blk.cell hp 11
  have c12 : w.cell? ⟨b, 12, none⟩ = some (.int .i64 p.act.n6) := Blk.cell hp 12
  have c13 : w.cell? ⟨b, 13, none⟩ = some (.int .i64 p.act.n7) := Blk.cell hp 13
  have c14 : w.cell? ⟨b, 14, none⟩ = some (.bool p.any) := Blk.cell hp 14
  have f0 := Blk.frozen hp 0
  have f1 := Blk.frozen hp 1
  have f2 := Blk.frozen hp 2
  have f3 := Blk.frozen hp 3
  have f4 := Blk.frozen hp 4
  have f5 := Blk.frozen hp 5
  have f6 := Blk.frozen hp 6
  have f7 := Blk.frozen hp 7
  have f8 := Blk.frozen hp 8
  have f9 := Blk.frozen hp 9
  have f10 := Blk.frozen hp 10
  have f11 := Blk.frozen hp 11
  have f12 := Blk.frozen hp 12
  have f13 := Blk.frozen hp 13
  have f14 := Blk.frozen hp 14
  have hE : stp p 27 = (⟨1, A0, false⟩, A0) := by unfold stp; rw [if_pos rfl]
  rw [hE]
  have HP := hide hp
  clear hE hp
  go_enter Try.func16, Try.ntmps16
  go_wp2
  rw [putEsc_eq]
  have x1 := putEsc_ps HP.out
  have x2 := putEsc_grown (World.grownBy.refl w (some b))
  have x3 := putEsc_size w b
  generalize putEsc w b = w0 at x1 x2 x3 ⊢
  exact gives_new (a := A0) (w0 := w0) Try.results16 rfl x3 x1 x2

set_option maxHeartbeats 1600000 in
theorem step_24 (b : Nat) (p : P) (w : World) (hp : Ps w b p)  :
    Calls Try.prog 16 #[.pointer (some ⟨b, 0, none⟩), .int .i32 24] w (Gives w b (stp p 24)) := by
  have hlt := Blk.lt hp
  have hne : ¬ b = w.heap.size := by omega
  have c0 : w.cell? ⟨b, 0, none⟩ = some (.int .i64 p.inn) := Blk.cell hp 0
  have f0 := Blk.frozen hp 0
  have hE : stp p 24 = ({ p with inn := 0 }, A0) := by unfold stp; rw [if_neg (by omega), if_pos (by omega)]
  rw [hE]
  have HP := hide hp
  clear hE hp
  go_enter Try.func16, Try.ntmps16
  go_wp2
  exact gives_new (a := A0) Try.results16 rfl (by simp) (ps_set HP.out 0 _ { p with inn := 0 } rfl) (grown_set (World.grownBy.refl w _) 0 _)

set_option maxHeartbeats 1600000 in
theorem step_26 (b : Nat) (p : P) (w : World) (hp : Ps w b p)  :
    Calls Try.prog 16 #[.pointer (some ⟨b, 0, none⟩), .int .i32 26] w (Gives w b (stp p 26)) := by
  have hlt := Blk.lt hp
  have hne : ¬ b = w.heap.size := by omega
  have c0 : w.cell? ⟨b, 0, none⟩ = some (.int .i64 p.inn) := Blk.cell hp 0
  have f0 := Blk.frozen hp 0
  have hE : stp p 26 = ({ p with inn := 0 }, A0) := by unfold stp; rw [if_neg (by omega), if_pos (by omega)]
  rw [hE]
  have HP := hide hp
  clear hE hp
  go_enter Try.func16, Try.ntmps16
  go_wp2
  exact gives_new (a := A0) Try.results16 rfl (by simp) (ps_set HP.out 0 _ { p with inn := 0 } rfl) (grown_set (World.grownBy.refl w _) 0 _)

set_option maxHeartbeats 1600000 in
theorem step_neg (b : Nat) (p : P) (r : Int) (w : World) (hp : Ps w b p) (h1 : r < 0) :
    Calls Try.prog 16 #[.pointer (some ⟨b, 0, none⟩), .int .i32 r] w (Gives w b (stp p r)) := by
  have hlt := Blk.lt hp
  have hne : ¬ b = w.heap.size := by omega
  have e27 : (r == 27) = false := by rw [beq_eq_false_iff_ne]; omega
  have e24 : (r == 24) = false := by rw [beq_eq_false_iff_ne]; omega
  have e26 : (r == 26) = false := by rw [beq_eq_false_iff_ne]; omega
  have hE : stp p r = (p, A0) := by unfold stp; rw [if_neg (by omega), if_neg (by omega), if_pos (by omega)]
  rw [hE]
  have HP := hide hp
  clear hE hp
  go_enter Try.func16, Try.ntmps16
  go_wp2
  exact gives_new (a := A0) Try.results16 rfl (by simp) HP.out (World.grownBy.refl w _)

set_option maxHeartbeats 1600000 in
theorem step_big (b : Nat) (p : P) (r : Int) (w : World) (hp : Ps w b p) (h1 : 1114111 < r) :
    Calls Try.prog 16 #[.pointer (some ⟨b, 0, none⟩), .int .i32 r] w (Gives w b (stp p r)) := by
  have hlt := Blk.lt hp
  have hne : ¬ b = w.heap.size := by omega
  have e27 : (r == 27) = false := by rw [beq_eq_false_iff_ne]; omega
  have e24 : (r == 24) = false := by rw [beq_eq_false_iff_ne]; omega
  have e26 : (r == 26) = false := by rw [beq_eq_false_iff_ne]; omega
  have hE : stp p r = (p, A0) := by unfold stp; rw [if_neg (by omega), if_neg (by omega), if_pos (by omega)]
  rw [hE]
  have HP := hide hp
  clear hE hp
  go_enter Try.func16, Try.ntmps16
  go_wp2
  exact gives_new (a := A0) Try.results16 rfl (by simp) HP.out (World.grownBy.refl w _)

set_option maxHeartbeats 1600000 in
theorem step_del (b : Nat) (p : P) (r : Int) (w : World) (hp : Ps w b p) (h1 : 127 ≤ r) (h2 : r ≤ 159) :
    Calls Try.prog 16 #[.pointer (some ⟨b, 0, none⟩), .int .i32 r] w (Gives w b (stp p r)) := by
  have hlt := Blk.lt hp
  have hne : ¬ b = w.heap.size := by omega
  have e27 : (r == 27) = false := by rw [beq_eq_false_iff_ne]; omega
  have e24 : (r == 24) = false := by rw [beq_eq_false_iff_ne]; omega
  have e26 : (r == 26) = false := by rw [beq_eq_false_iff_ne]; omega
  have hE : stp p r = (p, A0) := by unfold stp; rw [if_neg (by omega), if_neg (by omega), if_pos (by omega)]
  rw [hE]
  have HP := hide hp
  clear hE hp
  go_enter Try.func16, Try.ntmps16
  go_wp2
  exact gives_new (a := A0) Try.results16 rfl (by simp) HP.out (World.grownBy.refl w _)

set_option maxHeartbeats 1600000 in
theorem step_ctl (b : Nat) (p : P) (r : Int) (w : World) (hp : Ps w b p) (h1 : 0 ≤ r) (h2 : r < 32) (n7 : ¬ r = 27) (n4 : ¬ r = 24) (n6 : ¬ r = 26) (hi : ¬ p.inn = 4) :
    Calls Try.prog 16 #[.pointer (some ⟨b, 0, none⟩), .int .i32 r] w (Gives w b (stp p r)) := by
  have hlt := Blk.lt hp
  have hne : ¬ b = w.heap.size := by omega
  have e27 : (r == 27) = false := by rw [beq_eq_false_iff_ne]; omega
  have e24 : (r == 24) = false := by rw [beq_eq_false_iff_ne]; omega
  have e26 : (r == 26) = false := by rw [beq_eq_false_iff_ne]; omega
  have c0 : w.cell? ⟨b, 0, none⟩ = some (.int .i64 p.inn) := Blk.cell hp 0
  have ei : (p.inn != 4) = true := by rw [bne_iff_ne]; exact hi
  have hE : stp p r = (p, ⟨2, r, 0, 0, 0, 0, 0, 0, 0, 0, 0, 0, 0⟩) := by unfold stp; rw [if_neg (by omega), if_neg (by omega), if_neg (by omega), if_pos ⟨h2, hi⟩]
  rw [hE]
  have HP := hide hp
  clear hE hp hi n7 n4 n6
  go_enter Try.func16, Try.ntmps16
  go_wp2
  exact gives_new (a := ⟨2, r, 0, 0, 0, 0, 0, 0, 0, 0, 0, 0, 0⟩) Try.results16 rfl (by simp) HP.out (World.grownBy.refl w _)

set_option maxHeartbeats 1600000 in
theorem step_bell (b : Nat) (p : P) (w : World) (hp : Ps w b p) (hi : p.inn = 4) :
    Calls Try.prog 16 #[.pointer (some ⟨b, 0, none⟩), .int .i32 7] w (Gives w b (stp p 7)) := by
  have hlt := Blk.lt hp
  have hne : ¬ b = w.heap.size := by omega
  have c0 : w.cell? ⟨b, 0, none⟩ = some (.int .i64 4) := by have := Blk.cell hp 0; rw [this]; show some (Value.int .i64 p.inn) = _; rw [hi]
  have f0 := Blk.frozen hp 0
  have hE : stp p 7 = ({ p with inn := 0 }, A0) := by unfold stp; rw [if_neg (by omega), if_neg (by omega), if_neg (by omega), if_neg (by omega), if_pos rfl]
  rw [hE]
  have HP := hide hp
  clear hE hp hi
  go_enter Try.func16, Try.ntmps16
  go_wp2
  exact gives_new (a := A0) Try.results16 rfl (by simp) (ps_set HP.out 0 _ { p with inn := 0 } rfl) (grown_set (World.grownBy.refl w _) 0 _)

set_option maxHeartbeats 1600000 in
theorem step_low (b : Nat) (p : P) (r : Int) (w : World) (hp : Ps w b p) (h1 : 0 ≤ r) (h2 : r < 32) (n7 : ¬ r = 27) (n4 : ¬ r = 24) (n6 : ¬ r = 26) (nb : ¬ r = 7) (hi : p.inn = 4) :
    Calls Try.prog 16 #[.pointer (some ⟨b, 0, none⟩), .int .i32 r] w (Gives w b (stp p r)) := by
  have hlt := Blk.lt hp
  have hne : ¬ b = w.heap.size := by omega
  have c0 : w.cell? ⟨b, 0, none⟩ = some (.int .i64 4) := by have := Blk.cell hp 0; rw [this]; show some (Value.int .i64 p.inn) = _; rw [hi]
  have e27 : (r == 27) = false := by rw [beq_eq_false_iff_ne]; omega
  have e24 : (r == 24) = false := by rw [beq_eq_false_iff_ne]; omega
  have e26 : (r == 26) = false := by rw [beq_eq_false_iff_ne]; omega
  have e7 : (r == 7) = false := by rw [beq_eq_false_iff_ne]; omega
  have hE : stp p r = (p, A0) := by unfold stp; rw [if_neg (by omega), if_neg (by omega), if_neg (by omega), if_neg (by omega), if_neg nb, if_pos h2]
  rw [hE]
  have HP := hide hp
  clear hE hp hi n7 n4 n6 nb
  go_enter Try.func16, Try.ntmps16
  go_wp2
  exact gives_new (a := A0) Try.results16 rfl (by simp) HP.out (World.grownBy.refl w _)

set_option maxHeartbeats 1600000 in
theorem step_oth1 (b : Nat) (p : P) (r : Int) (w : World) (hp : Ps w b p) (h1 : 32 ≤ r) (h2 : r < 127) (hok : Ok p) :
    Calls Try.prog 16 #[.pointer (some ⟨b, 0, none⟩), .int .i32 r] w (Gives w b (stp p r)) := by
  have hlt := Blk.lt hp
  have hne : ¬ b = w.heap.size := by omega
  have e27 : (r == 27) = false := by rw [beq_eq_false_iff_ne]; omega
  have e24 : (r == 24) = false := by rw [beq_eq_false_iff_ne]; omega
  have e26 : (r == 26) = false := by rw [beq_eq_false_iff_ne]; omega
  have e7 : (r == 7) = false := by rw [beq_eq_false_iff_ne]; omega
  have hE : stp p r = other p r := by unfold stp; rw [if_neg (by omega), if_neg (by omega), if_neg (by omega), if_neg (by omega), if_neg (by omega), if_neg (by omega)]
  rw [hE]
  clear hE
  have hcall := fun wx hx => other_any b p r wx hx hok (by omega)
  generalize other p r = q at hcall ⊢
  obtain ⟨p', a'⟩ := q
  have HP := hide hp
  have HC := hide hcall
  clear hp hok hcall
  go_enter Try.func16, Try.ntmps16
  go_wp2_with fail
  refine (HC.out _ (Blk.alloc HP.out _)).mono ?_
  rintro e w1 ⟨rfl, hp1, hg1⟩
  have HB := hide (behind_of HP.out rfl (World.grownBy.refl w _) hp1 hg1)
  obtain ⟨v0, v1, v2, v3, v4, v5, v6, v7, v8, v9, v10, v11, v12, z0, z1, z2, z3, z4, z5, z6, z7, z8, z9, z10, z11, z12, ne1, ne2⟩ := HB.out.facts
  clear hp1 hg1
  unfold aval acts
  dsimp only
  go_wp2
  exact gives_put (a := a') Try.results16 rfl HB.out

set_option maxHeartbeats 1600000 in
theorem step_oth2 (b : Nat) (p : P) (r : Int) (w : World) (hp : Ps w b p) (h1 : 159 < r) (h2 : r ≤ 1114111) (hok : Ok p) :
    Calls Try.prog 16 #[.pointer (some ⟨b, 0, none⟩), .int .i32 r] w (Gives w b (stp p r)) := by
  have hlt := Blk.lt hp
  have hne : ¬ b = w.heap.size := by omega
  have e27 : (r == 27) = false := by rw [beq_eq_false_iff_ne]; omega
  have e24 : (r == 24) = false := by rw [beq_eq_false_iff_ne]; omega
  have e26 : (r == 26) = false := by rw [beq_eq_false_iff_ne]; omega
  have e7 : (r == 7) = false := by rw [beq_eq_false_iff_ne]; omega
  have hE : stp p r = other p r := by unfold stp; rw [if_neg (by omega), if_neg (by omega), if_neg (by omega), if_neg (by omega), if_neg (by omega), if_neg (by omega)]
  rw [hE]
  clear hE
  have hcall := fun wx hx => other_any b p r wx hx hok (by omega)
  generalize other p r = q at hcall ⊢
  obtain ⟨p', a'⟩ := q
  have HP := hide hp
  have HC := hide hcall
  clear hp hok hcall
  go_enter Try.func16, Try.ntmps16
  go_wp2_with fail
  refine (HC.out _ (Blk.alloc HP.out _)).mono ?_
  rintro e w1 ⟨rfl, hp1, hg1⟩
  have HB := hide (behind_of HP.out rfl (World.grownBy.refl w _) hp1 hg1)
  obtain ⟨v0, v1, v2, v3, v4, v5, v6, v7, v8, v9, v10, v11, v12, z0, z1, z2, z3, z4, z5, z6, z7, z8, z9, z10, z11, z12, ne1, ne2⟩ := HB.out.facts
  clear hp1 hg1
  unfold aval acts
  dsimp only
  go_wp2
  exact gives_put (a := a') Try.results16 rfl HB.out

theorem step_any (b : Nat) (p : P) (r : Int) (w : World) (hp : Ps w b p) (hok : Ok p) :
    Calls Try.prog 16 #[.pointer (some ⟨b, 0, none⟩), .int .i32 r] w (Gives w b (stp p r)) := by
  by_cases e1 : r = 27
  · subst e1; exact step_27 b p w hp
  · by_cases e2 : r = 24
    · subst e2; exact step_24 b p w hp
    · by_cases e3 : r = 26
      · subst e3; exact step_26 b p w hp
      · by_cases h0 : r < 0
        · exact step_neg b p r w hp h0
        · by_cases h1 : 1114111 < r
          · exact step_big b p r w hp h1
          · by_cases h2 : r < 32
            · by_cases hi : p.inn = 4
              · by_cases h7 : r = 7
                · subst h7; exact step_bell b p w hp hi
                · exact step_low b p r w hp (by omega) h2 e1 e2 e3 h7 hi
              · exact step_ctl b p r w hp (by omega) h2 e1 e2 e3 hi
            · by_cases h3 : r < 127
              · exact step_oth1 b p r w hp (by omega) h3 hok
              · by_cases h4 : r ≤ 159
                · exact step_del b p r w hp (by omega) h4
                · exact step_oth2 b p r w hp (by omega) (by omega) hok
end Go.Proofs.Ytjjedmmenlfedaa
