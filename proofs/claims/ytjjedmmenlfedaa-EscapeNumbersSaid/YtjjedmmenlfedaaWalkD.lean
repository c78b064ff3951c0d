/- The walk of (*Parser).sequenced, at its end: the final character, a digit; all together. -/
import Derived.Test.YtjjedmmenlfedaaWalkC
namespace Go.Proofs.Ytjjedmmenlfedaa
open Go.RowKit Esc
set_option maxRecDepth 100000

/-- An act stored, cell by cell. -/
def putAct (w : World) (R : Nat) (a : A) : World := ((((((((((((w.setCell ⟨R, 0, none⟩ (.int .i64 a.kind)).setCell ⟨R, 1, none⟩ (.int .i32 a.r)).setCell ⟨R, 2, none⟩ (.int .u8 a.priv)).setCell ⟨R, 3, none⟩ (.int .u8 a.mid)).setCell ⟨R, 4, none⟩ (.int .i64 a.n)).setCell ⟨R, 5, none⟩ (.int .i64 a.n0)).setCell ⟨R, 6, none⟩ (.int .i64 a.n1)).setCell ⟨R, 7, none⟩ (.int .i64 a.n2)).setCell ⟨R, 8, none⟩ (.int .i64 a.n3)).setCell ⟨R, 9, none⟩ (.int .i64 a.n4)).setCell ⟨R, 10, none⟩ (.int .i64 a.n5)).setCell ⟨R, 11, none⟩ (.int .i64 a.n6)).setCell ⟨R, 12, none⟩ (.int .i64 a.n7)

theorem putAct_eq (w : World) (R : Nat) (a : A) : ((((((((((((w.setCell ⟨R, 0, none⟩ (.int .i64 a.kind)).setCell ⟨R, 1, none⟩ (.int .i32 a.r)).setCell ⟨R, 2, none⟩ (.int .u8 a.priv)).setCell ⟨R, 3, none⟩ (.int .u8 a.mid)).setCell ⟨R, 4, none⟩ (.int .i64 a.n)).setCell ⟨R, 5, none⟩ (.int .i64 a.n0)).setCell ⟨R, 6, none⟩ (.int .i64 a.n1)).setCell ⟨R, 7, none⟩ (.int .i64 a.n2)).setCell ⟨R, 8, none⟩ (.int .i64 a.n3)).setCell ⟨R, 9, none⟩ (.int .i64 a.n4)).setCell ⟨R, 10, none⟩ (.int .i64 a.n5)).setCell ⟨R, 11, none⟩ (.int .i64 a.n6)).setCell ⟨R, 12, none⟩ (.int .i64 a.n7) = putAct w R a := rfl

theorem putAct_res {w : World} {R : Nat} {a c : A} (h : Blk w R 28 (acts c)) : Blk (putAct w R a) R 28 (acts a) := by
  have h0 := Blk.set_ h 0 (.int .i64 a.kind)
  have h1 := Blk.set_ h0 1 (.int .i32 a.r)
  have h2 := Blk.set_ h1 2 (.int .u8 a.priv)
  have h3 := Blk.set_ h2 3 (.int .u8 a.mid)
  have h4 := Blk.set_ h3 4 (.int .i64 a.n)
  have h5 := Blk.set_ h4 5 (.int .i64 a.n0)
  have h6 := Blk.set_ h5 6 (.int .i64 a.n1)
  have h7 := Blk.set_ h6 7 (.int .i64 a.n2)
  have h8 := Blk.set_ h7 8 (.int .i64 a.n3)
  have h9 := Blk.set_ h8 9 (.int .i64 a.n4)
  have h10 := Blk.set_ h9 10 (.int .i64 a.n5)
  have h11 := Blk.set_ h10 11 (.int .i64 a.n6)
  have h12 := Blk.set_ h11 12 (.int .i64 a.n7)
  have e : (((((((((((((acts c).setIfInBounds 0 (.int .i64 a.kind)).setIfInBounds 1 (.int .i32 a.r)).setIfInBounds 2 (.int .u8 a.priv)).setIfInBounds 3 (.int .u8 a.mid)).setIfInBounds 4 (.int .i64 a.n)).setIfInBounds 5 (.int .i64 a.n0)).setIfInBounds 6 (.int .i64 a.n1)).setIfInBounds 7 (.int .i64 a.n2)).setIfInBounds 8 (.int .i64 a.n3)).setIfInBounds 9 (.int .i64 a.n4)).setIfInBounds 10 (.int .i64 a.n5)).setIfInBounds 11 (.int .i64 a.n6)).setIfInBounds 12 (.int .i64 a.n7) = acts a := by simp [acts]
  rw [e] at h12
  unfold putAct
  exact h12

theorem putAct_far {w : World} {R g : Nat} {a : A} {t : TypeId} {cs : Array Value} (h : Blk w g t cs) (hne : g ≠ R) : Blk (putAct w R a) g t cs := by
  have h0 := Blk.far (p := ⟨R, 0, none⟩) h hne (.int .i64 a.kind)
  have h1 := Blk.far (p := ⟨R, 1, none⟩) h0 hne (.int .i32 a.r)
  have h2 := Blk.far (p := ⟨R, 2, none⟩) h1 hne (.int .u8 a.priv)
  have h3 := Blk.far (p := ⟨R, 3, none⟩) h2 hne (.int .u8 a.mid)
  have h4 := Blk.far (p := ⟨R, 4, none⟩) h3 hne (.int .i64 a.n)
  have h5 := Blk.far (p := ⟨R, 5, none⟩) h4 hne (.int .i64 a.n0)
  have h6 := Blk.far (p := ⟨R, 6, none⟩) h5 hne (.int .i64 a.n1)
  have h7 := Blk.far (p := ⟨R, 7, none⟩) h6 hne (.int .i64 a.n2)
  have h8 := Blk.far (p := ⟨R, 8, none⟩) h7 hne (.int .i64 a.n3)
  have h9 := Blk.far (p := ⟨R, 9, none⟩) h8 hne (.int .i64 a.n4)
  have h10 := Blk.far (p := ⟨R, 10, none⟩) h9 hne (.int .i64 a.n5)
  have h11 := Blk.far (p := ⟨R, 11, none⟩) h10 hne (.int .i64 a.n6)
  have h12 := Blk.far (p := ⟨R, 12, none⟩) h11 hne (.int .i64 a.n7)
  unfold putAct
  exact h12

theorem putAct_grown {w0 w : World} {R b : Nat} {a : A} (h : w0.grownBy w (some b)) (hR : w0.heap.size ≤ R) : w0.grownBy (putAct w R a) (some b) := by
  have h0 := only_setCell (p := ⟨R, 0, none⟩) h (.inr hR) (.int .i64 a.kind)
  have h1 := only_setCell (p := ⟨R, 1, none⟩) h0 (.inr hR) (.int .i32 a.r)
  have h2 := only_setCell (p := ⟨R, 2, none⟩) h1 (.inr hR) (.int .u8 a.priv)
  have h3 := only_setCell (p := ⟨R, 3, none⟩) h2 (.inr hR) (.int .u8 a.mid)
  have h4 := only_setCell (p := ⟨R, 4, none⟩) h3 (.inr hR) (.int .i64 a.n)
  have h5 := only_setCell (p := ⟨R, 5, none⟩) h4 (.inr hR) (.int .i64 a.n0)
  have h6 := only_setCell (p := ⟨R, 6, none⟩) h5 (.inr hR) (.int .i64 a.n1)
  have h7 := only_setCell (p := ⟨R, 7, none⟩) h6 (.inr hR) (.int .i64 a.n2)
  have h8 := only_setCell (p := ⟨R, 8, none⟩) h7 (.inr hR) (.int .i64 a.n3)
  have h9 := only_setCell (p := ⟨R, 9, none⟩) h8 (.inr hR) (.int .i64 a.n4)
  have h10 := only_setCell (p := ⟨R, 10, none⟩) h9 (.inr hR) (.int .i64 a.n5)
  have h11 := only_setCell (p := ⟨R, 11, none⟩) h10 (.inr hR) (.int .i64 a.n6)
  have h12 := only_setCell (p := ⟨R, 12, none⟩) h11 (.inr hR) (.int .i64 a.n7)
  unfold putAct
  exact h12

/-- What stands behind a callee's call that handed the parser on, the result's place laid ahead of it. -/
structure Behind (w w1 : World) (b : Nat) (p : P) : Prop where
  ps : Ps w1 b p
  res : Blk w1 w.heap.size 28 (acts A0)
  grown : w.grownBy w1 (some b)
  ne : b ≠ w.heap.size

theorem behind_of {w w0 w1 : World} {b : Nat} {p q : P} (hp : Ps w0 b q) (hz : w0.heap.size = w.heap.size) (g0 : w.grownBy w0 (some b)) (h1 : Ps w1 b p) (hg : (w0.alloc (.cells (acts A0) 28)).grownBy w1 (some b)) : Behind w w1 b p := by
  have hlt := Blk.lt hp
  refine ⟨h1, ?_, ?_, by omega⟩
  · have h := Blk.grown (Blk.new w0 28 (acts A0)) hg (by intro h; injection h with h; omega)
    rw [hz] at h
    exact h
  · have g1 := only_alloc g0 (.cells (acts A0) 28)
    exact ⟨hg.os.trans g1.os, hg.tape.trans g1.tape, hg.output.trans g1.output, Nat.le_trans g1.size hg.size, fun k hk hne => (hg.block k (Nat.lt_of_lt_of_le hk g1.size) hne).trans (g1.block k hk hne)⟩

theorem Behind.facts {w w1 : World} {b : Nat} {p : P} (h : Behind w w1 b p) :
    w1.cell? ⟨w.heap.size, 0, none⟩ = some (.int .i64 0) ∧ w1.cell? ⟨w.heap.size, 1, none⟩ = some (.int .i32 0) ∧ w1.cell? ⟨w.heap.size, 2, none⟩ = some (.int .u8 0) ∧ w1.cell? ⟨w.heap.size, 3, none⟩ = some (.int .u8 0) ∧ w1.cell? ⟨w.heap.size, 4, none⟩ = some (.int .i64 0) ∧ w1.cell? ⟨w.heap.size, 5, none⟩ = some (.int .i64 0) ∧ w1.cell? ⟨w.heap.size, 6, none⟩ = some (.int .i64 0) ∧ w1.cell? ⟨w.heap.size, 7, none⟩ = some (.int .i64 0) ∧ w1.cell? ⟨w.heap.size, 8, none⟩ = some (.int .i64 0) ∧ w1.cell? ⟨w.heap.size, 9, none⟩ = some (.int .i64 0) ∧ w1.cell? ⟨w.heap.size, 10, none⟩ = some (.int .i64 0) ∧ w1.cell? ⟨w.heap.size, 11, none⟩ = some (.int .i64 0) ∧ w1.cell? ⟨w.heap.size, 12, none⟩ = some (.int .i64 0) ∧
    w1.frozen? ⟨w.heap.size, 0, none⟩ = false ∧ w1.frozen? ⟨w.heap.size, 1, none⟩ = false ∧ w1.frozen? ⟨w.heap.size, 2, none⟩ = false ∧ w1.frozen? ⟨w.heap.size, 3, none⟩ = false ∧ w1.frozen? ⟨w.heap.size, 4, none⟩ = false ∧ w1.frozen? ⟨w.heap.size, 5, none⟩ = false ∧ w1.frozen? ⟨w.heap.size, 6, none⟩ = false ∧ w1.frozen? ⟨w.heap.size, 7, none⟩ = false ∧ w1.frozen? ⟨w.heap.size, 8, none⟩ = false ∧ w1.frozen? ⟨w.heap.size, 9, none⟩ = false ∧ w1.frozen? ⟨w.heap.size, 10, none⟩ = false ∧ w1.frozen? ⟨w.heap.size, 11, none⟩ = false ∧ w1.frozen? ⟨w.heap.size, 12, none⟩ = false ∧ (¬ b = w.heap.size) ∧ ¬ w.heap.size = b :=
  ⟨Blk.cell h.res 0, Blk.cell h.res 1, Blk.cell h.res 2, Blk.cell h.res 3, Blk.cell h.res 4, Blk.cell h.res 5, Blk.cell h.res 6, Blk.cell h.res 7, Blk.cell h.res 8, Blk.cell h.res 9, Blk.cell h.res 10, Blk.cell h.res 11, Blk.cell h.res 12, Blk.frozen h.res 0, Blk.frozen h.res 1, Blk.frozen h.res 2, Blk.frozen h.res 3, Blk.frozen h.res 4, Blk.frozen h.res 5, Blk.frozen h.res 6, Blk.frozen h.res 7, Blk.frozen h.res 8, Blk.frozen h.res 9, Blk.frozen h.res 10, Blk.frozen h.res 11, Blk.frozen h.res 12, h.ne, fun e => h.ne e.symm⟩

theorem gives_put {fn : Func} {q : Tmp} {tmps : Array Value} {w w1 : World} {b : Nat} {p : P} {a : A} (h : fn.results = #[.cell q 28]) (ht : tmps.getD q undef = .pointer (some ⟨w.heap.size, 0, none⟩)) (hb : Behind w w1 b p) :
    bodyPost Try.prog fn (Gives w b (p, a)) .ret ⟨tmps, []⟩ (putAct w1 w.heap.size a) :=
  gives_ret h ht (putAct_res hb.res) (putAct_far hb.ps hb.ne) (putAct_grown hb.grown (Nat.le_refl _))

set_option maxHeartbeats 1600000 in
theorem seq_final_lo (b : Nat) (inn kind ar priv mid n n0 n1 n2 n3 n4 n5 n6 n7 : Int) (any : Bool) (r : Int) (w : World) (hp : Ps w b ⟨inn, ⟨kind, ar, priv, mid, n, n0, n1, n2, n3, n4, n5, n6, n7⟩, any⟩) (hl : last r = true) (hn : n ≤ 8) :
    Calls Try.prog 19 #[.pointer (some ⟨b, 0, none⟩), .int .i32 r] w (Gives w b (sequenced ⟨inn, ⟨kind, ar, priv, mid, n, n0, n1, n2, n3, n4, n5, n6, n7⟩, any⟩ r)) := by
  have hlt := Blk.lt hp
  have hne : ¬ b = w.heap.size := by omega
  have c0 : w.cell? ⟨b, 0, none⟩ = some (.int .i64 inn) := Blk.cell hp 0
  have c1 : w.cell? ⟨b, 1, none⟩ = some (.int .i64 kind) := Blk.cell hp 1
  have c2 : w.cell? ⟨b, 2, none⟩ = some (.int .i32 ar) := Blk.cell hp 2
  have c3 : w.cell? ⟨b, 3, none⟩ = some (.int .u8 priv) := Blk.cell hp 3
  have c4 : w.cell? ⟨b, 4, none⟩ = some (.int .u8 mid) := Blk.cell hp 4
  have c5 : w.cell? ⟨b, 5, none⟩ = some (.int .i64 n) := Blk.cell hp 5
  have c6 : w.cell? ⟨b, 6, none⟩ = some (.int .i64 n0) := Blk.cell hp 6
  have c7 : w.cell? ⟨b, 7, none⟩ = some (.int .i64 n1) := Blk.cell hp 7
  have c8 : w.cell? ⟨b, 8, none⟩ = some (.int .i64 n2) := Blk.cell hp 8
  have c9 : w.cell? ⟨b, 9, none⟩ = some (.int .i64 n3) := Blk.cell hp 9
  have c10 : w.cell? ⟨b, 10, none⟩ = some (.int .i64 n4) := Blk.cell hp 10
  have c11 : w.cell? ⟨b, 11, none⟩ = some (.int .i64 n5) := Blk.cell hp 11
  have c12 : w.cell? ⟨b, 12, none⟩ = some (.int .i64 n6) := Blk.cell hp 12
  have c13 : w.cell? ⟨b, 13, none⟩ = some (.int .i64 n7) := Blk.cell hp 13
  have c14 : w.cell? ⟨b, 14, none⟩ = some (.bool any) := Blk.cell hp 14
  have f0 := Blk.frozen hp 0
  have f14 := Blk.frozen hp 14
  have hE : sequenced ⟨inn, ⟨kind, ar, priv, mid, n, n0, n1, n2, n3, n4, n5, n6, n7⟩, any⟩ r = (⟨0, ⟨kind, ar, priv, mid, n, n0, n1, n2, n3, n4, n5, n6, n7⟩, true⟩, ⟨4, r, priv, mid, n, n0, n1, n2, n3, n4, n5, n6, n7⟩) := by
    have hn : min (n : Int) 8 = n := by omega
    unfold sequenced
    rw [if_pos hl]
    simp only [hn]
  rw [hE]
  have hL := last_any r
  rw [hl] at hL
  have HP := hide hp
  clear hE hp hl
  go_enter Try.func19, Try.ntmps19
  go_wp2_with (go_at_call 20; refine (hL _).mono ?_; rintro e w' ⟨rfl, rfl⟩)
  have ps2 := ps_set (ps_set HP.out 14 (.bool true) ⟨inn, ⟨kind, ar, priv, mid, n, n0, n1, n2, n3, n4, n5, n6, n7⟩, true⟩ rfl) 0 (.int .i64 0) ⟨0, ⟨kind, ar, priv, mid, n, n0, n1, n2, n3, n4, n5, n6, n7⟩, true⟩ rfl
  have g2 := grown_set (grown_set (World.grownBy.refl w (some b)) 14 (.bool true)) 0 (.int .i64 0)
  have hz : ((w.setCell ⟨b, 14, none⟩ (.bool true)).setCell ⟨b, 0, none⟩ (.int .i64 0)).heap.size = w.heap.size := by simp
  have hB := Blk.new ((w.setCell ⟨b, 14, none⟩ (.bool true)).setCell ⟨b, 0, none⟩ (.int .i64 0)) 28 (acts ⟨4, r, priv, mid, n, n0, n1, n2, n3, n4, n5, n6, n7⟩)
  rw [hz] at hB
  exact gives_ret (a := ⟨4, r, priv, mid, n, n0, n1, n2, n3, n4, n5, n6, n7⟩) Try.results19 rfl (Blk.alloc hB _) (Blk.alloc (Blk.alloc ps2 _) _) (only_alloc (only_alloc g2 _) _)

set_option maxHeartbeats 1600000 in
theorem seq_final_hi (b : Nat) (inn kind ar priv mid n0 n1 n2 n3 n4 n5 n6 n7 : Int) (any : Bool) (r : Int) (w : World) (hp : Ps w b ⟨inn, ⟨kind, ar, priv, mid, 9, n0, n1, n2, n3, n4, n5, n6, n7⟩, any⟩) (hl : last r = true)  :
    Calls Try.prog 19 #[.pointer (some ⟨b, 0, none⟩), .int .i32 r] w (Gives w b (sequenced ⟨inn, ⟨kind, ar, priv, mid, 9, n0, n1, n2, n3, n4, n5, n6, n7⟩, any⟩ r)) := by
  have hlt := Blk.lt hp
  have hne : ¬ b = w.heap.size := by omega
  have c0 : w.cell? ⟨b, 0, none⟩ = some (.int .i64 inn) := Blk.cell hp 0
  have c1 : w.cell? ⟨b, 1, none⟩ = some (.int .i64 kind) := Blk.cell hp 1
  have c2 : w.cell? ⟨b, 2, none⟩ = some (.int .i32 ar) := Blk.cell hp 2
  have c3 : w.cell? ⟨b, 3, none⟩ = some (.int .u8 priv) := Blk.cell hp 3
  have c4 : w.cell? ⟨b, 4, none⟩ = some (.int .u8 mid) := Blk.cell hp 4
  have c5 : w.cell? ⟨b, 5, none⟩ = some (.int .i64 9) := Blk.cell hp 5
  have c6 : w.cell? ⟨b, 6, none⟩ = some (.int .i64 n0) := Blk.cell hp 6
  have c7 : w.cell? ⟨b, 7, none⟩ = some (.int .i64 n1) := Blk.cell hp 7
  have c8 : w.cell? ⟨b, 8, none⟩ = some (.int .i64 n2) := Blk.cell hp 8
  have c9 : w.cell? ⟨b, 9, none⟩ = some (.int .i64 n3) := Blk.cell hp 9
  have c10 : w.cell? ⟨b, 10, none⟩ = some (.int .i64 n4) := Blk.cell hp 10
  have c11 : w.cell? ⟨b, 11, none⟩ = some (.int .i64 n5) := Blk.cell hp 11
  have c12 : w.cell? ⟨b, 12, none⟩ = some (.int .i64 n6) := Blk.cell hp 12
  have c13 : w.cell? ⟨b, 13, none⟩ = some (.int .i64 n7) := Blk.cell hp 13
  have c14 : w.cell? ⟨b, 14, none⟩ = some (.bool any) := Blk.cell hp 14
  have f0 := Blk.frozen hp 0
  have f14 := Blk.frozen hp 14
  have hE : sequenced ⟨inn, ⟨kind, ar, priv, mid, 9, n0, n1, n2, n3, n4, n5, n6, n7⟩, any⟩ r = (⟨0, ⟨kind, ar, priv, mid, 9, n0, n1, n2, n3, n4, n5, n6, n7⟩, true⟩, ⟨4, r, priv, mid, 8, n0, n1, n2, n3, n4, n5, n6, n7⟩) := by
    have hn : min (9 : Int) 8 = 8 := by omega
    unfold sequenced
    rw [if_pos hl]
    simp only [hn]
  rw [hE]
  have hL := last_any r
  rw [hl] at hL
  have HP := hide hp
  clear hE hp hl
  go_enter Try.func19, Try.ntmps19
  go_wp2_with (go_at_call 20; refine (hL _).mono ?_; rintro e w' ⟨rfl, rfl⟩)
  have ps2 := ps_set (ps_set HP.out 14 (.bool true) ⟨inn, ⟨kind, ar, priv, mid, 9, n0, n1, n2, n3, n4, n5, n6, n7⟩, true⟩ rfl) 0 (.int .i64 0) ⟨0, ⟨kind, ar, priv, mid, 9, n0, n1, n2, n3, n4, n5, n6, n7⟩, true⟩ rfl
  have g2 := grown_set (grown_set (World.grownBy.refl w (some b)) 14 (.bool true)) 0 (.int .i64 0)
  have hz : ((w.setCell ⟨b, 14, none⟩ (.bool true)).setCell ⟨b, 0, none⟩ (.int .i64 0)).heap.size = w.heap.size := by simp
  have hB := Blk.new ((w.setCell ⟨b, 14, none⟩ (.bool true)).setCell ⟨b, 0, none⟩ (.int .i64 0)) 28 (acts ⟨4, r, priv, mid, 8, n0, n1, n2, n3, n4, n5, n6, n7⟩)
  rw [hz] at hB
  exact gives_ret (a := ⟨4, r, priv, mid, 8, n0, n1, n2, n3, n4, n5, n6, n7⟩) Try.results19 rfl (Blk.alloc hB _) (Blk.alloc (Blk.alloc ps2 _) _) (only_alloc (only_alloc g2 _) _)

set_option maxHeartbeats 1600000 in
theorem seq_digit (b : Nat) (inn kind ar priv n n0 n1 n2 n3 n4 n5 n6 n7 : Int) (any : Bool) (r : Int) (w : World) (hp : Ps w b ⟨inn, ⟨kind, ar, priv, 0, n, n0, n1, n2, n3, n4, n5, n6, n7⟩, any⟩) (hok : Ok ⟨inn, ⟨kind, ar, priv, 0, n, n0, n1, n2, n3, n4, n5, n6, n7⟩, any⟩) (h1 : 48 ≤ r) (h2 : r ≤ 57) :
    Calls Try.prog 19 #[.pointer (some ⟨b, 0, none⟩), .int .i32 r] w (Gives w b (sequenced ⟨inn, ⟨kind, ar, priv, 0, n, n0, n1, n2, n3, n4, n5, n6, n7⟩, any⟩ r)) := by
  have hlt := Blk.lt hp
  have hne : ¬ b = w.heap.size := by omega
  have hl : last r = false := by unfold last; simp; omega
  have c4 : w.cell? ⟨b, 4, none⟩ = some (.int .u8 0) := Blk.cell hp 4
  have c14 : w.cell? ⟨b, 14, none⟩ = some (.bool any) := Blk.cell hp 14
  have f14 := Blk.frozen hp 14
  have hE : sequenced ⟨inn, ⟨kind, ar, priv, 0, n, n0, n1, n2, n3, n4, n5, n6, n7⟩, any⟩ r = (⟨inn, digit ⟨kind, ar, priv, 0, n, n0, n1, n2, n3, n4, n5, n6, n7⟩ r, true⟩, A0) := by
    unfold sequenced
    rw [if_neg (by rw [hl]; simp), if_pos ⟨rfl, h1, h2⟩]
  rw [hE]
  have hok' : Ok ⟨inn, ⟨kind, ar, priv, 0, n, n0, n1, n2, n3, n4, n5, n6, n7⟩, true⟩ := ⟨hok.n, hok.mid, hok.priv, hok.n0, hok.n1, hok.n2, hok.n3, hok.n4, hok.n5, hok.n6, hok.n7⟩
  have ps2 := ps_set hp 14 (.bool true) ⟨inn, ⟨kind, ar, priv, 0, n, n0, n1, n2, n3, n4, n5, n6, n7⟩, true⟩ rfl
  have hz : (w.setCell ⟨b, 14, none⟩ (.bool true)).heap.size = w.heap.size := by simp
  have g2 := grown_set (World.grownBy.refl w (some b)) 14 (.bool true)
  have hL := last_any r
  rw [hl] at hL
  have HOK := hide hok'
  have HP2 := hide ps2
  have HG2 := hide g2
  clear hE hp hl hok hok' ps2 g2
  go_enter Try.func19, Try.ntmps19
  go_wp2_with (go_at_call 20; refine (hL _).mono ?_; rintro e w' ⟨rfl, rfl⟩)
  refine (digit_any b _ r _ (Blk.alloc HP2.out _) HOK.out h1 h2).mono ?_
  rintro e w1 ⟨rfl, hp1, hg1⟩
  have HB := hide (behind_of HP2.out hz HG2.out hp1 hg1)
  obtain ⟨v0, v1, v2, v3, v4, v5, v6, v7, v8, v9, v10, v11, v12, z0, z1, z2, z3, z4, z5, z6, z7, z8, z9, z10, z11, z12, ne1, ne2⟩ := HB.out.facts
  clear hp1 hg1 hz c4 c14 f14
  dsimp only
  go_wp2
  exact gives_put (a := A0) Try.results19 rfl HB.out

theorem sequenced_any (b : Nat) (p : P) (r : Int) (w : World) (hp : Ps w b p) (hok : Ok p) (h1 : 32 ≤ r) :
    Calls Try.prog 19 #[.pointer (some ⟨b, 0, none⟩), .int .i32 r] w (Gives w b (sequenced p r)) := by
  obtain ⟨inn, ⟨kind, ar, priv, mid, n, n0, n1, n2, n3, n4, n5, n6, n7⟩, any⟩ := p
  have hn := hok.n
  dsimp only at hn
  cases hl : last r with
  | true =>
    by_cases h8 : n ≤ 8
    · exact seq_final_lo b _ _ _ _ _ _ _ _ _ _ _ _ _ _ _ r w hp hl h8
    · obtain rfl : n = 9 := by omega
      exact seq_final_hi b _ _ _ _ _ _ _ _ _ _ _ _ _ _ r w hp hl
  | false =>
    have hl' := hl
    unfold last at hl'
    simp only [decide_eq_false_iff_not] at hl'
    by_cases hm : mid = 0
    · subst hm
      by_cases h2 : r < 48
      · exact seq_mid b _ _ _ _ _ _ _ _ _ _ _ _ _ _ r w hp hl h1 h2
      · by_cases h3 : r ≤ 57
        · exact seq_digit b _ _ _ _ _ _ _ _ _ _ _ _ _ _ r w hp hok (by omega) h3
        · by_cases h58 : r = 58
          · subst h58
            rcases (show n = 0 ∨ n = 1 ∨ (2 ≤ n ∧ n ≤ 8) ∨ n = 9 from by omega) with rfl | rfl | ⟨h4, h5⟩ | rfl
            · exact seq_58_lo0 b _ _ _ _ _ _ _ _ _ _ _ _ _ w hp
            · exact seq_58_lo1 b _ _ _ _ _ _ _ _ _ _ _ _ _ w hp
            · exact seq_58_mid b _ _ _ _ _ _ _ _ _ _ _ _ _ _ w hp h4 h5
            · exact seq_58_hi b _ _ _ _ _ _ _ _ _ _ _ _ _ w hp
          · by_cases h59 : r = 59
            · subst h59
              rcases (show n = 0 ∨ n = 1 ∨ (2 ≤ n ∧ n ≤ 8) ∨ n = 9 from by omega) with rfl | rfl | ⟨h4, h5⟩ | rfl
              · exact seq_59_lo0 b _ _ _ _ _ _ _ _ _ _ _ _ _ w hp
              · exact seq_59_lo1 b _ _ _ _ _ _ _ _ _ _ _ _ _ w hp
              · exact seq_59_mid b _ _ _ _ _ _ _ _ _ _ _ _ _ _ w hp h4 h5
              · exact seq_59_hi b _ _ _ _ _ _ _ _ _ _ _ _ _ w hp
            · cases any with
              | true => exact seq_sp0 b _ _ _ _ _ _ _ _ _ _ _ _ _ r w hp hl (by omega)
              | false =>
                by_cases h6 : r ≤ 63
                · exact seq_priv0 b _ _ _ _ _ _ _ _ _ _ _ _ _ r w hp hl (by omega) h6
                · exact seq_sp1 b _ _ _ _ _ _ _ _ _ _ _ _ _ r w hp hl (by omega)
    · cases any with
      | true => exact seq_sp2 b _ _ _ _ _ _ _ _ _ _ _ _ _ _ r w hp hl hm
      | false =>
        by_cases h5 : r < 60
        · exact seq_sp3 b _ _ _ _ _ _ _ _ _ _ _ _ _ _ r w hp hl h5 hm
        · by_cases h6 : r ≤ 63
          · exact seq_priv1 b _ _ _ _ _ _ _ _ _ _ _ _ _ _ r w hp hl (by omega) h6 hm
          · exact seq_sp4 b _ _ _ _ _ _ _ _ _ _ _ _ _ _ r w hp hl (by omega) hm
end Go.Proofs.Ytjjedmmenlfedaa
