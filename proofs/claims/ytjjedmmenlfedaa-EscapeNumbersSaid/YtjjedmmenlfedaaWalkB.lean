/- The walk of (*Parser).escaped. -/
import Derived.Test.YtjjedmmenlfedaaWalkA
namespace Go.Proofs.Ytjjedmmenlfedaa
open Go.RowKit Esc
set_option maxRecDepth 100000

/-- What a function that hands back an act leaves. -/
def Gives (w : World) (b : Nat) (q : P × A) (e : Ending) (w' : World) : Prop := e = .returned (aval q.2) ∧ Ps w' b q.1 ∧ w.grownBy w' (some b)

/-- An act that is a result: it lies in a block. -/
theorem ret_act {fn : Func} {q : Tmp} {tmps : Array Value} {w : World} {R : Nat} {a : A} (h : fn.results = #[.cell q 28]) (ht : tmps.getD q undef = .pointer (some ⟨R, 0, none⟩)) (hB : Blk w R 28 (acts a)) :
    (results fn tmps).run Try.prog w = .ok (aval a) w := by
  have ht' : tmps[q]?.getD undef = .pointer (some ⟨R, 0, none⟩) := by simpa using ht
  have v0 : w.cell? ⟨R, 0, none⟩ = some (.int .i64 a.kind) := Blk.cell hB 0
  have v1 : w.cell? ⟨R, 1, none⟩ = some (.int .i32 a.r) := Blk.cell hB 1
  have v2 : w.cell? ⟨R, 2, none⟩ = some (.int .u8 a.priv) := Blk.cell hB 2
  have v3 : w.cell? ⟨R, 3, none⟩ = some (.int .u8 a.mid) := Blk.cell hB 3
  have v4 : w.cell? ⟨R, 4, none⟩ = some (.int .i64 a.n) := Blk.cell hB 4
  have v5 : w.cell? ⟨R, 5, none⟩ = some (.int .i64 a.n0) := Blk.cell hB 5
  have v6 : w.cell? ⟨R, 6, none⟩ = some (.int .i64 a.n1) := Blk.cell hB 6
  have v7 : w.cell? ⟨R, 7, none⟩ = some (.int .i64 a.n2) := Blk.cell hB 7
  have v8 : w.cell? ⟨R, 8, none⟩ = some (.int .i64 a.n3) := Blk.cell hB 8
  have v9 : w.cell? ⟨R, 9, none⟩ = some (.int .i64 a.n4) := Blk.cell hB 9
  have v10 : w.cell? ⟨R, 10, none⟩ = some (.int .i64 a.n5) := Blk.cell hB 10
  have v11 : w.cell? ⟨R, 11, none⟩ = some (.int .i64 a.n6) := Blk.cell hB 11
  have v12 : w.cell? ⟨R, 12, none⟩ = some (.int .i64 a.n7) := Blk.cell hB 12
  simp [results, h, go_sem, ht', v0, v1, v2, v3, v4, v5, v6, v7, v8, v9, v10, v11, v12, aval, acts]

theorem gives_ret {fn : Func} {q : Tmp} {tmps : Array Value} {w w' : World} {b R : Nat} {p : P} {a : A} (h : fn.results = #[.cell q 28]) (ht : tmps.getD q undef = .pointer (some ⟨R, 0, none⟩)) (hB : Blk w' R 28 (acts a)) (hp : Ps w' b p) (hg : w.grownBy w' (some b)) :
    bodyPost Try.prog fn (Gives w b (p, a)) .ret ⟨tmps, []⟩ w' :=
  bodyPost_ret (v := aval a) (ret_act h ht hB) rfl ⟨rfl, hp, hg⟩

/-- The same, where the result's block is the last one that was laid. -/
theorem gives_new {fn : Func} {q : Tmp} {tmps : Array Value} {w w0 : World} {b : Nat} {p : P} {a : A} (h : fn.results = #[.cell q 28]) (ht : tmps.getD q undef = .pointer (some ⟨w.heap.size, 0, none⟩)) (hz : w0.heap.size = w.heap.size) (hp : Ps w0 b p) (hg : w.grownBy w0 (some b)) :
    bodyPost Try.prog fn (Gives w b (p, a)) .ret ⟨tmps, []⟩ (w0.alloc (.cells (acts a) 28)) :=
  gives_ret h ht (by rw [← hz]; exact Blk.new w0 _ _) (Blk.alloc hp _) (only_alloc hg _)

theorem ps_set {w : World} {b : Nat} {p : P} (hp : Ps w b p) (i : Nat) (v : Value) (q : P) (he : (pcells p).setIfInBounds i v = pcells q) : Ps (w.setCell ⟨b, i, none⟩ v) b q := by
  have h := Blk.set_ (show Blk w b 30 (pcells p) from hp) i v
  rw [he] at h
  exact h

theorem grown_set {a w : World} {b : Nat} (h : a.grownBy w (some b)) (i : Nat) (v : Value) : a.grownBy (w.setCell ⟨b, i, none⟩ v) (some b) := only_setCell (p := ⟨b, i, none⟩) h (.inl rfl) v

set_option maxHeartbeats 1600000 in
theorem escaped_mid0 (b : Nat) (inn kind ar priv n n0 n1 n2 n3 n4 n5 n6 n7 : Int) (any : Bool) (r : Int) (w : World) (hp : Ps w b ⟨inn, ⟨kind, ar, priv, 0, n, n0, n1, n2, n3, n4, n5, n6, n7⟩, any⟩) (h1 : 32 ≤ r) (h2 : r < 48) :
    Calls Try.prog 18 #[.pointer (some ⟨b, 0, none⟩), .int .i32 r] w (Gives w b (escaped ⟨inn, ⟨kind, ar, priv, 0, n, n0, n1, n2, n3, n4, n5, n6, n7⟩, any⟩ r)) := by
  have hlt := Blk.lt hp
  have hne : ¬ b = w.heap.size := by omega
  have c0 : w.cell? ⟨b, 0, none⟩ = some (.int .i64 inn) := Blk.cell hp 0
  have c4 : w.cell? ⟨b, 4, none⟩ = some (.int .u8 0) := Blk.cell hp 4
  have f0 := Blk.frozen hp 0
  have f4 := Blk.frozen hp 4
  have hE : escaped ⟨inn, ⟨kind, ar, priv, 0, n, n0, n1, n2, n3, n4, n5, n6, n7⟩, any⟩ r = (⟨inn, ⟨kind, ar, priv, r, n, n0, n1, n2, n3, n4, n5, n6, n7⟩, any⟩, A0) := by unfold escaped; rw [if_pos ⟨h2, rfl⟩]
  rw [hE]
  have HP := hide hp
  clear hE hp
  go_enter Try.func18, Try.ntmps18
  go_wp2
  (exact gives_new (a := A0) Try.results18 rfl (by simp) (ps_set HP.out 4 _ ⟨inn, ⟨kind, ar, priv, r, n, n0, n1, n2, n3, n4, n5, n6, n7⟩, any⟩ rfl) (grown_set (World.grownBy.refl w _) 4 _))

set_option maxHeartbeats 1600000 in
theorem escaped_mid1 (b : Nat) (inn kind ar priv mid n n0 n1 n2 n3 n4 n5 n6 n7 : Int) (any : Bool) (r : Int) (w : World) (hp : Ps w b ⟨inn, ⟨kind, ar, priv, mid, n, n0, n1, n2, n3, n4, n5, n6, n7⟩, any⟩) (h2 : r < 48) (hm : ¬ mid = 0) :
    Calls Try.prog 18 #[.pointer (some ⟨b, 0, none⟩), .int .i32 r] w (Gives w b (escaped ⟨inn, ⟨kind, ar, priv, mid, n, n0, n1, n2, n3, n4, n5, n6, n7⟩, any⟩ r)) := by
  have hlt := Blk.lt hp
  have hne : ¬ b = w.heap.size := by omega
  have c0 : w.cell? ⟨b, 0, none⟩ = some (.int .i64 inn) := Blk.cell hp 0
  have c4 : w.cell? ⟨b, 4, none⟩ = some (.int .u8 mid) := Blk.cell hp 4
  have f0 := Blk.frozen hp 0
  have f4 := Blk.frozen hp 4
  have hE : escaped ⟨inn, ⟨kind, ar, priv, mid, n, n0, n1, n2, n3, n4, n5, n6, n7⟩, any⟩ r = (⟨inn, ⟨kind, ar, priv, 255, n, n0, n1, n2, n3, n4, n5, n6, n7⟩, any⟩, A0) := by unfold escaped; rw [if_neg (fun h => hm h.2), if_pos h2]
  rw [hE]
  have HP := hide hp
  clear hE hp
  have tm : (mid == 0) = false := by rw [beq_eq_false_iff_ne]; exact hm
  clear hm
  go_enter Try.func18, Try.ntmps18
  go_wp2
  (exact gives_new (a := A0) Try.results18 rfl (by simp) (ps_set HP.out 4 _ ⟨inn, ⟨kind, ar, priv, 255, n, n0, n1, n2, n3, n4, n5, n6, n7⟩, any⟩ rfl) (grown_set (World.grownBy.refl w _) 4 _))

set_option maxHeartbeats 1600000 in
theorem escaped_91 (b : Nat) (inn kind ar priv n n0 n1 n2 n3 n4 n5 n6 n7 : Int) (any : Bool) (w : World) (hp : Ps w b ⟨inn, ⟨kind, ar, priv, 0, n, n0, n1, n2, n3, n4, n5, n6, n7⟩, any⟩)  :
    Calls Try.prog 18 #[.pointer (some ⟨b, 0, none⟩), .int .i32 91] w (Gives w b (escaped ⟨inn, ⟨kind, ar, priv, 0, n, n0, n1, n2, n3, n4, n5, n6, n7⟩, any⟩ 91)) := by
  have hlt := Blk.lt hp
  have hne : ¬ b = w.heap.size := by omega
  have c0 : w.cell? ⟨b, 0, none⟩ = some (.int .i64 inn) := Blk.cell hp 0
  have c4 : w.cell? ⟨b, 4, none⟩ = some (.int .u8 0) := Blk.cell hp 4
  have f0 := Blk.frozen hp 0
  have f4 := Blk.frozen hp 4
  have hE : escaped ⟨inn, ⟨kind, ar, priv, 0, n, n0, n1, n2, n3, n4, n5, n6, n7⟩, any⟩ 91 = (⟨2, ⟨kind, ar, priv, 0, n, n0, n1, n2, n3, n4, n5, n6, n7⟩, any⟩, A0) := by unfold escaped; simp
  rw [hE]
  have HP := hide hp
  clear hE hp
  go_enter Try.func18, Try.ntmps18
  go_wp2
  (exact gives_new (a := A0) Try.results18 rfl (by simp) (ps_set (ps_set HP.out 0 (.int .i64 0) ⟨0, ⟨kind, ar, priv, 0, n, n0, n1, n2, n3, n4, n5, n6, n7⟩, any⟩ rfl) 0 (.int .i64 2) ⟨2, ⟨kind, ar, priv, 0, n, n0, n1, n2, n3, n4, n5, n6, n7⟩, any⟩ rfl) (grown_set (grown_set (World.grownBy.refl w _) 0 _) 0 _))

set_option maxHeartbeats 1600000 in
theorem escaped_80 (b : Nat) (inn kind ar priv n n0 n1 n2 n3 n4 n5 n6 n7 : Int) (any : Bool) (w : World) (hp : Ps w b ⟨inn, ⟨kind, ar, priv, 0, n, n0, n1, n2, n3, n4, n5, n6, n7⟩, any⟩)  :
    Calls Try.prog 18 #[.pointer (some ⟨b, 0, none⟩), .int .i32 80] w (Gives w b (escaped ⟨inn, ⟨kind, ar, priv, 0, n, n0, n1, n2, n3, n4, n5, n6, n7⟩, any⟩ 80)) := by
  have hlt := Blk.lt hp
  have hne : ¬ b = w.heap.size := by omega
  have c0 : w.cell? ⟨b, 0, none⟩ = some (.int .i64 inn) := Blk.cell hp 0
  have c4 : w.cell? ⟨b, 4, none⟩ = some (.int .u8 0) := Blk.cell hp 4
  have f0 := Blk.frozen hp 0
  have f4 := Blk.frozen hp 4
  have hE : escaped ⟨inn, ⟨kind, ar, priv, 0, n, n0, n1, n2, n3, n4, n5, n6, n7⟩, any⟩ 80 = (⟨4, ⟨kind, ar, priv, 0, n, n0, n1, n2, n3, n4, n5, n6, n7⟩, any⟩, A0) := by unfold escaped; simp
  rw [hE]
  have HP := hide hp
  clear hE hp
  go_enter Try.func18, Try.ntmps18
  go_wp2
  (exact gives_new (a := A0) Try.results18 rfl (by simp) (ps_set (ps_set HP.out 0 (.int .i64 0) ⟨0, ⟨kind, ar, priv, 0, n, n0, n1, n2, n3, n4, n5, n6, n7⟩, any⟩ rfl) 0 (.int .i64 4) ⟨4, ⟨kind, ar, priv, 0, n, n0, n1, n2, n3, n4, n5, n6, n7⟩, any⟩ rfl) (grown_set (grown_set (World.grownBy.refl w _) 0 _) 0 _))

set_option maxHeartbeats 1600000 in
theorem escaped_88 (b : Nat) (inn kind ar priv n n0 n1 n2 n3 n4 n5 n6 n7 : Int) (any : Bool) (w : World) (hp : Ps w b ⟨inn, ⟨kind, ar, priv, 0, n, n0, n1, n2, n3, n4, n5, n6, n7⟩, any⟩)  :
    Calls Try.prog 18 #[.pointer (some ⟨b, 0, none⟩), .int .i32 88] w (Gives w b (escaped ⟨inn, ⟨kind, ar, priv, 0, n, n0, n1, n2, n3, n4, n5, n6, n7⟩, any⟩ 88)) := by
  have hlt := Blk.lt hp
  have hne : ¬ b = w.heap.size := by omega
  have c0 : w.cell? ⟨b, 0, none⟩ = some (.int .i64 inn) := Blk.cell hp 0
  have c4 : w.cell? ⟨b, 4, none⟩ = some (.int .u8 0) := Blk.cell hp 4
  have f0 := Blk.frozen hp 0
  have f4 := Blk.frozen hp 4
  have hE : escaped ⟨inn, ⟨kind, ar, priv, 0, n, n0, n1, n2, n3, n4, n5, n6, n7⟩, any⟩ 88 = (⟨4, ⟨kind, ar, priv, 0, n, n0, n1, n2, n3, n4, n5, n6, n7⟩, any⟩, A0) := by unfold escaped; simp
  rw [hE]
  have HP := hide hp
  clear hE hp
  go_enter Try.func18, Try.ntmps18
  go_wp2
  (exact gives_new (a := A0) Try.results18 rfl (by simp) (ps_set (ps_set HP.out 0 (.int .i64 0) ⟨0, ⟨kind, ar, priv, 0, n, n0, n1, n2, n3, n4, n5, n6, n7⟩, any⟩ rfl) 0 (.int .i64 4) ⟨4, ⟨kind, ar, priv, 0, n, n0, n1, n2, n3, n4, n5, n6, n7⟩, any⟩ rfl) (grown_set (grown_set (World.grownBy.refl w _) 0 _) 0 _))

set_option maxHeartbeats 1600000 in
theorem escaped_93 (b : Nat) (inn kind ar priv n n0 n1 n2 n3 n4 n5 n6 n7 : Int) (any : Bool) (w : World) (hp : Ps w b ⟨inn, ⟨kind, ar, priv, 0, n, n0, n1, n2, n3, n4, n5, n6, n7⟩, any⟩)  :
    Calls Try.prog 18 #[.pointer (some ⟨b, 0, none⟩), .int .i32 93] w (Gives w b (escaped ⟨inn, ⟨kind, ar, priv, 0, n, n0, n1, n2, n3, n4, n5, n6, n7⟩, any⟩ 93)) := by
  have hlt := Blk.lt hp
  have hne : ¬ b = w.heap.size := by omega
  have c0 : w.cell? ⟨b, 0, none⟩ = some (.int .i64 inn) := Blk.cell hp 0
  have c4 : w.cell? ⟨b, 4, none⟩ = some (.int .u8 0) := Blk.cell hp 4
  have f0 := Blk.frozen hp 0
  have f4 := Blk.frozen hp 4
  have hE : escaped ⟨inn, ⟨kind, ar, priv, 0, n, n0, n1, n2, n3, n4, n5, n6, n7⟩, any⟩ 93 = (⟨4, ⟨kind, ar, priv, 0, n, n0, n1, n2, n3, n4, n5, n6, n7⟩, any⟩, A0) := by unfold escaped; simp
  rw [hE]
  have HP := hide hp
  clear hE hp
  go_enter Try.func18, Try.ntmps18
  go_wp2
  (exact gives_new (a := A0) Try.results18 rfl (by simp) (ps_set (ps_set HP.out 0 (.int .i64 0) ⟨0, ⟨kind, ar, priv, 0, n, n0, n1, n2, n3, n4, n5, n6, n7⟩, any⟩ rfl) 0 (.int .i64 4) ⟨4, ⟨kind, ar, priv, 0, n, n0, n1, n2, n3, n4, n5, n6, n7⟩, any⟩ rfl) (grown_set (grown_set (World.grownBy.refl w _) 0 _) 0 _))

set_option maxHeartbeats 1600000 in
theorem escaped_94 (b : Nat) (inn kind ar priv n n0 n1 n2 n3 n4 n5 n6 n7 : Int) (any : Bool) (w : World) (hp : Ps w b ⟨inn, ⟨kind, ar, priv, 0, n, n0, n1, n2, n3, n4, n5, n6, n7⟩, any⟩)  :
    Calls Try.prog 18 #[.pointer (some ⟨b, 0, none⟩), .int .i32 94] w (Gives w b (escaped ⟨inn, ⟨kind, ar, priv, 0, n, n0, n1, n2, n3, n4, n5, n6, n7⟩, any⟩ 94)) := by
  have hlt := Blk.lt hp
  have hne : ¬ b = w.heap.size := by omega
  have c0 : w.cell? ⟨b, 0, none⟩ = some (.int .i64 inn) := Blk.cell hp 0
  have c4 : w.cell? ⟨b, 4, none⟩ = some (.int .u8 0) := Blk.cell hp 4
  have f0 := Blk.frozen hp 0
  have f4 := Blk.frozen hp 4
  have hE : escaped ⟨inn, ⟨kind, ar, priv, 0, n, n0, n1, n2, n3, n4, n5, n6, n7⟩, any⟩ 94 = (⟨4, ⟨kind, ar, priv, 0, n, n0, n1, n2, n3, n4, n5, n6, n7⟩, any⟩, A0) := by unfold escaped; simp
  rw [hE]
  have HP := hide hp
  clear hE hp
  go_enter Try.func18, Try.ntmps18
  go_wp2
  (exact gives_new (a := A0) Try.results18 rfl (by simp) (ps_set (ps_set HP.out 0 (.int .i64 0) ⟨0, ⟨kind, ar, priv, 0, n, n0, n1, n2, n3, n4, n5, n6, n7⟩, any⟩ rfl) 0 (.int .i64 4) ⟨4, ⟨kind, ar, priv, 0, n, n0, n1, n2, n3, n4, n5, n6, n7⟩, any⟩ rfl) (grown_set (grown_set (World.grownBy.refl w _) 0 _) 0 _))

set_option maxHeartbeats 1600000 in
theorem escaped_95 (b : Nat) (inn kind ar priv n n0 n1 n2 n3 n4 n5 n6 n7 : Int) (any : Bool) (w : World) (hp : Ps w b ⟨inn, ⟨kind, ar, priv, 0, n, n0, n1, n2, n3, n4, n5, n6, n7⟩, any⟩)  :
    Calls Try.prog 18 #[.pointer (some ⟨b, 0, none⟩), .int .i32 95] w (Gives w b (escaped ⟨inn, ⟨kind, ar, priv, 0, n, n0, n1, n2, n3, n4, n5, n6, n7⟩, any⟩ 95)) := by
  have hlt := Blk.lt hp
  have hne : ¬ b = w.heap.size := by omega
  have c0 : w.cell? ⟨b, 0, none⟩ = some (.int .i64 inn) := Blk.cell hp 0
  have c4 : w.cell? ⟨b, 4, none⟩ = some (.int .u8 0) := Blk.cell hp 4
  have f0 := Blk.frozen hp 0
  have f4 := Blk.frozen hp 4
  have hE : escaped ⟨inn, ⟨kind, ar, priv, 0, n, n0, n1, n2, n3, n4, n5, n6, n7⟩, any⟩ 95 = (⟨4, ⟨kind, ar, priv, 0, n, n0, n1, n2, n3, n4, n5, n6, n7⟩, any⟩, A0) := by unfold escaped; simp
  rw [hE]
  have HP := hide hp
  clear hE hp
  go_enter Try.func18, Try.ntmps18
  go_wp2
  (exact gives_new (a := A0) Try.results18 rfl (by simp) (ps_set (ps_set HP.out 0 (.int .i64 0) ⟨0, ⟨kind, ar, priv, 0, n, n0, n1, n2, n3, n4, n5, n6, n7⟩, any⟩ rfl) 0 (.int .i64 4) ⟨4, ⟨kind, ar, priv, 0, n, n0, n1, n2, n3, n4, n5, n6, n7⟩, any⟩ rfl) (grown_set (grown_set (World.grownBy.refl w _) 0 _) 0 _))

set_option maxHeartbeats 1600000 in
theorem escaped_hi (b : Nat) (inn kind ar priv n n0 n1 n2 n3 n4 n5 n6 n7 : Int) (any : Bool) (r : Int) (w : World) (hp : Ps w b ⟨inn, ⟨kind, ar, priv, 0, n, n0, n1, n2, n3, n4, n5, n6, n7⟩, any⟩) (h1 : 127 ≤ r) :
    Calls Try.prog 18 #[.pointer (some ⟨b, 0, none⟩), .int .i32 r] w (Gives w b (escaped ⟨inn, ⟨kind, ar, priv, 0, n, n0, n1, n2, n3, n4, n5, n6, n7⟩, any⟩ r)) := by
  have hlt := Blk.lt hp
  have hne : ¬ b = w.heap.size := by omega
  have c0 : w.cell? ⟨b, 0, none⟩ = some (.int .i64 inn) := Blk.cell hp 0
  have c4 : w.cell? ⟨b, 4, none⟩ = some (.int .u8 0) := Blk.cell hp 4
  have f0 := Blk.frozen hp 0
  have f4 := Blk.frozen hp 4
  have hE : escaped ⟨inn, ⟨kind, ar, priv, 0, n, n0, n1, n2, n3, n4, n5, n6, n7⟩, any⟩ r = (⟨0, ⟨kind, ar, priv, 0, n, n0, n1, n2, n3, n4, n5, n6, n7⟩, any⟩, A0) := by unfold escaped; rw [if_neg (by omega), if_neg (by omega), if_neg (by omega), if_neg (by omega), if_pos (by omega)]
  rw [hE]
  have HP := hide hp
  clear hE hp
  go_enter Try.func18, Try.ntmps18
  go_wp2
  (exact gives_new (a := A0) Try.results18 rfl (by simp) (ps_set HP.out 0 _ ⟨0, ⟨kind, ar, priv, 0, n, n0, n1, n2, n3, n4, n5, n6, n7⟩, any⟩ rfl) (grown_set (World.grownBy.refl w _) 0 _))

set_option maxHeartbeats 1600000 in
theorem escaped_lo (b : Nat) (inn kind ar priv n n0 n1 n2 n3 n4 n5 n6 n7 : Int) (any : Bool) (r : Int) (w : World) (hp : Ps w b ⟨inn, ⟨kind, ar, priv, 0, n, n0, n1, n2, n3, n4, n5, n6, n7⟩, any⟩) (h0 : 48 ≤ r) (h1 : r < 127) (e1 : (r == 91) = false) (e2 : (r == 80) = false) (e3 : (r == 88) = false) (e4 : (r == 93) = false) (e5 : (r == 94) = false) (e6 : (r == 95) = false) :
    Calls Try.prog 18 #[.pointer (some ⟨b, 0, none⟩), .int .i32 r] w (Gives w b (escaped ⟨inn, ⟨kind, ar, priv, 0, n, n0, n1, n2, n3, n4, n5, n6, n7⟩, any⟩ r)) := by
  have hlt := Blk.lt hp
  have hne : ¬ b = w.heap.size := by omega
  have c0 : w.cell? ⟨b, 0, none⟩ = some (.int .i64 inn) := Blk.cell hp 0
  have c4 : w.cell? ⟨b, 4, none⟩ = some (.int .u8 0) := Blk.cell hp 4
  have f0 := Blk.frozen hp 0
  have f4 := Blk.frozen hp 4
  have hE : escaped ⟨inn, ⟨kind, ar, priv, 0, n, n0, n1, n2, n3, n4, n5, n6, n7⟩, any⟩ r = (⟨0, ⟨kind, ar, priv, 0, n, n0, n1, n2, n3, n4, n5, n6, n7⟩, any⟩, ⟨3, r, 0, 0, 0, 0, 0, 0, 0, 0, 0, 0, 0⟩) := by rw [beq_eq_false_iff_ne] at e1 e2 e3 e4 e5 e6; unfold escaped; rw [if_neg (by omega), if_neg (by omega), if_neg (by omega), if_neg (by omega), if_neg (by dsimp only; omega)]
  rw [hE]
  have HP := hide hp
  clear hE hp
  go_enter Try.func18, Try.ntmps18
  go_wp2
  (exact gives_new (a := ⟨3, r, 0, 0, 0, 0, 0, 0, 0, 0, 0, 0, 0⟩) Try.results18 rfl (by simp) (ps_set HP.out 0 _ ⟨0, ⟨kind, ar, priv, 0, n, n0, n1, n2, n3, n4, n5, n6, n7⟩, any⟩ rfl) (grown_set (World.grownBy.refl w _) 0 _))

set_option maxHeartbeats 1600000 in
theorem escaped_m_hi (b : Nat) (inn kind ar priv mid n n0 n1 n2 n3 n4 n5 n6 n7 : Int) (any : Bool) (r : Int) (w : World) (hp : Ps w b ⟨inn, ⟨kind, ar, priv, mid, n, n0, n1, n2, n3, n4, n5, n6, n7⟩, any⟩) (h1 : 127 ≤ r) (hm : ¬ mid = 0) :
    Calls Try.prog 18 #[.pointer (some ⟨b, 0, none⟩), .int .i32 r] w (Gives w b (escaped ⟨inn, ⟨kind, ar, priv, mid, n, n0, n1, n2, n3, n4, n5, n6, n7⟩, any⟩ r)) := by
  have hlt := Blk.lt hp
  have hne : ¬ b = w.heap.size := by omega
  have c0 : w.cell? ⟨b, 0, none⟩ = some (.int .i64 inn) := Blk.cell hp 0
  have c4 : w.cell? ⟨b, 4, none⟩ = some (.int .u8 mid) := Blk.cell hp 4
  have f0 := Blk.frozen hp 0
  have f4 := Blk.frozen hp 4
  have hE : escaped ⟨inn, ⟨kind, ar, priv, mid, n, n0, n1, n2, n3, n4, n5, n6, n7⟩, any⟩ r = (⟨0, ⟨kind, ar, priv, mid, n, n0, n1, n2, n3, n4, n5, n6, n7⟩, any⟩, A0) := by unfold escaped; rw [if_neg (by omega), if_neg (by omega), if_neg (by omega), if_neg (by omega), if_pos (by omega)]
  rw [hE]
  have HP := hide hp
  clear hE hp
  have tm : (mid == 0) = false := by rw [beq_eq_false_iff_ne]; exact hm
  clear hm
  go_enter Try.func18, Try.ntmps18
  go_wp2
  all_goals (exact gives_new (a := A0) Try.results18 rfl (by simp) (ps_set HP.out 0 _ ⟨0, ⟨kind, ar, priv, mid, n, n0, n1, n2, n3, n4, n5, n6, n7⟩, any⟩ rfl) (grown_set (World.grownBy.refl w _) 0 _))

set_option maxHeartbeats 1600000 in
theorem escaped_m_255 (b : Nat) (inn kind ar priv n n0 n1 n2 n3 n4 n5 n6 n7 : Int) (any : Bool) (r : Int) (w : World) (hp : Ps w b ⟨inn, ⟨kind, ar, priv, 255, n, n0, n1, n2, n3, n4, n5, n6, n7⟩, any⟩) (h0 : 48 ≤ r) (h1 : r < 127) :
    Calls Try.prog 18 #[.pointer (some ⟨b, 0, none⟩), .int .i32 r] w (Gives w b (escaped ⟨inn, ⟨kind, ar, priv, 255, n, n0, n1, n2, n3, n4, n5, n6, n7⟩, any⟩ r)) := by
  have hlt := Blk.lt hp
  have hne : ¬ b = w.heap.size := by omega
  have c0 : w.cell? ⟨b, 0, none⟩ = some (.int .i64 inn) := Blk.cell hp 0
  have c4 : w.cell? ⟨b, 4, none⟩ = some (.int .u8 255) := Blk.cell hp 4
  have f0 := Blk.frozen hp 0
  have f4 := Blk.frozen hp 4
  have hE : escaped ⟨inn, ⟨kind, ar, priv, 255, n, n0, n1, n2, n3, n4, n5, n6, n7⟩, any⟩ r = (⟨0, ⟨kind, ar, priv, 255, n, n0, n1, n2, n3, n4, n5, n6, n7⟩, any⟩, A0) := by unfold escaped; rw [if_neg (by omega), if_neg (by omega), if_neg (by dsimp only; omega), if_neg (by dsimp only; omega), if_pos (Or.inr rfl)]
  rw [hE]
  have HP := hide hp
  clear hE hp
  go_enter Try.func18, Try.ntmps18
  go_wp2
  all_goals (exact gives_new (a := A0) Try.results18 rfl (by simp) (ps_set HP.out 0 _ ⟨0, ⟨kind, ar, priv, 255, n, n0, n1, n2, n3, n4, n5, n6, n7⟩, any⟩ rfl) (grown_set (World.grownBy.refl w _) 0 _))

set_option maxHeartbeats 1600000 in
theorem escaped_m_lo (b : Nat) (inn kind ar priv mid n n0 n1 n2 n3 n4 n5 n6 n7 : Int) (any : Bool) (r : Int) (w : World) (hp : Ps w b ⟨inn, ⟨kind, ar, priv, mid, n, n0, n1, n2, n3, n4, n5, n6, n7⟩, any⟩) (h0 : 48 ≤ r) (h1 : r < 127) (hm : ¬ mid = 0) (hm2 : ¬ mid = 255) :
    Calls Try.prog 18 #[.pointer (some ⟨b, 0, none⟩), .int .i32 r] w (Gives w b (escaped ⟨inn, ⟨kind, ar, priv, mid, n, n0, n1, n2, n3, n4, n5, n6, n7⟩, any⟩ r)) := by
  have hlt := Blk.lt hp
  have hne : ¬ b = w.heap.size := by omega
  have c0 : w.cell? ⟨b, 0, none⟩ = some (.int .i64 inn) := Blk.cell hp 0
  have c4 : w.cell? ⟨b, 4, none⟩ = some (.int .u8 mid) := Blk.cell hp 4
  have f0 := Blk.frozen hp 0
  have f4 := Blk.frozen hp 4
  have hE : escaped ⟨inn, ⟨kind, ar, priv, mid, n, n0, n1, n2, n3, n4, n5, n6, n7⟩, any⟩ r = (⟨0, ⟨kind, ar, priv, mid, n, n0, n1, n2, n3, n4, n5, n6, n7⟩, any⟩, ⟨3, r, 0, mid, 0, 0, 0, 0, 0, 0, 0, 0, 0⟩) := by unfold escaped; rw [if_neg (by omega), if_neg (by omega), if_neg (fun h => hm h.2), if_neg (fun h => hm h.2), if_neg (by dsimp only; omega)]
  rw [hE]
  have HP := hide hp
  clear hE hp
  have tm : (mid == 0) = false := by rw [beq_eq_false_iff_ne]; exact hm
  have tm2 : (mid == 255) = false := by rw [beq_eq_false_iff_ne]; exact hm2
  clear hm hm2
  go_enter Try.func18, Try.ntmps18
  go_wp2
  all_goals (exact gives_new (a := ⟨3, r, 0, mid, 0, 0, 0, 0, 0, 0, 0, 0, 0⟩) Try.results18 rfl (by simp) (ps_set HP.out 0 _ ⟨0, ⟨kind, ar, priv, mid, n, n0, n1, n2, n3, n4, n5, n6, n7⟩, any⟩ rfl) (grown_set (World.grownBy.refl w _) 0 _))

theorem escaped_any (b : Nat) (p : P) (r : Int) (w : World) (hp : Ps w b p) (h1 : 32 ≤ r) :
    Calls Try.prog 18 #[.pointer (some ⟨b, 0, none⟩), .int .i32 r] w (Gives w b (escaped p r)) := by
  obtain ⟨inn, ⟨kind, ar, priv, mid, n, n0, n1, n2, n3, n4, n5, n6, n7⟩, any⟩ := p
  by_cases hm : mid = 0
  · subst hm
    by_cases h2 : r < 48
    · exact escaped_mid0 b _ _ _ _ _ _ _ _ _ _ _ _ _ _ r w hp h1 h2
    · by_cases h3 : 127 ≤ r
      · exact escaped_hi b _ _ _ _ _ _ _ _ _ _ _ _ _ _ r w hp h3
      · by_cases e1 : r = 91
        · subst e1; exact escaped_91 b _ _ _ _ _ _ _ _ _ _ _ _ _ _ w hp
        · by_cases e2 : r = 80
          · subst e2; exact escaped_80 b _ _ _ _ _ _ _ _ _ _ _ _ _ _ w hp
          · by_cases e3 : r = 88
            · subst e3; exact escaped_88 b _ _ _ _ _ _ _ _ _ _ _ _ _ _ w hp
            · by_cases e4 : r = 93
              · subst e4; exact escaped_93 b _ _ _ _ _ _ _ _ _ _ _ _ _ _ w hp
              · by_cases e5 : r = 94
                · subst e5; exact escaped_94 b _ _ _ _ _ _ _ _ _ _ _ _ _ _ w hp
                · by_cases e6 : r = 95
                  · subst e6; exact escaped_95 b _ _ _ _ _ _ _ _ _ _ _ _ _ _ w hp
                  · exact escaped_lo b _ _ _ _ _ _ _ _ _ _ _ _ _ _ r w hp (by omega) (by omega) (beq_eq_false_iff_ne.2 e1) (beq_eq_false_iff_ne.2 e2) (beq_eq_false_iff_ne.2 e3) (beq_eq_false_iff_ne.2 e4) (beq_eq_false_iff_ne.2 e5) (beq_eq_false_iff_ne.2 e6)
  · by_cases h2 : r < 48
    · exact escaped_mid1 b _ _ _ _ _ _ _ _ _ _ _ _ _ _ _ r w hp h2 hm
    · by_cases h3 : 127 ≤ r
      · exact escaped_m_hi b _ _ _ _ _ _ _ _ _ _ _ _ _ _ _ r w hp h3 hm
      · by_cases hm2 : mid = 255
        · subst hm2; exact escaped_m_255 b _ _ _ _ _ _ _ _ _ _ _ _ _ _ r w hp (by omega) (by omega)
        · exact escaped_m_lo b _ _ _ _ _ _ _ _ _ _ _ _ _ _ _ r w hp (by omega) (by omega) hm hm2
end Go.Proofs.Ytjjedmmenlfedaa
