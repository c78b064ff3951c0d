/- The walk of (*Parser).sequenced. -/
import Derived.Test.YtjjedmmenlfedaaWalkB
namespace Go.Proofs.Ytjjedmmenlfedaa
open Go.RowKit Esc
set_option maxRecDepth 100000

set_option maxHeartbeats 1600000 in
theorem seq_58_lo0 (b : Nat) (inn kind ar priv n0 n1 n2 n3 n4 n5 n6 n7 : Int) (any : Bool) (w : World) (hp : Ps w b ⟨inn, ⟨kind, ar, priv, 0, 0, n0, n1, n2, n3, n4, n5, n6, n7⟩, any⟩)  :
    Calls Try.prog 19 #[.pointer (some ⟨b, 0, none⟩), .int .i32 58] w (Gives w b (sequenced ⟨inn, ⟨kind, ar, priv, 0, 0, n0, n1, n2, n3, n4, n5, n6, n7⟩, any⟩ 58)) := by
  have hlt := Blk.lt hp
  have hne : ¬ b = w.heap.size := by omega
  have c4 : w.cell? ⟨b, 4, none⟩ = some (.int .u8 0) := Blk.cell hp 4
  have c5 : w.cell? ⟨b, 5, none⟩ = some (.int .i64 0) := Blk.cell hp 5
  have c14 : w.cell? ⟨b, 14, none⟩ = some (.bool any) := Blk.cell hp 14
  have f5 := Blk.frozen hp 5
  have f14 := Blk.frozen hp 14
  have hE : sequenced ⟨inn, ⟨kind, ar, priv, 0, 0, n0, n1, n2, n3, n4, n5, n6, n7⟩, any⟩ 58 = (⟨inn, ⟨kind, ar, priv, 0, 2, n0, n1, n2, n3, n4, n5, n6, n7⟩, true⟩, A0) := by
    have hl : last 58 = false := rfl
    have hn : min (max (0 : Int) 1 + 1) 9 = 2 := by omega
    unfold sequenced
    rw [if_neg (by rw [hl]; simp), if_neg (by omega), if_pos ⟨rfl, by omega⟩]
    simp only [hn]
  rw [hE]
  have hL := last_any 58
  rw [show last 58 = false from rfl] at hL
  have HP := hide hp
  clear hE hp
  go_enter Try.func19, Try.ntmps19
  go_wp2_with (go_at_call 20; refine (hL _).mono ?_; rintro e w' ⟨rfl, rfl⟩)
  all_goals (exact gives_new (a := A0) Try.results19 rfl (by simp) (ps_set (ps_set HP.out 14 (.bool true) ⟨inn, ⟨kind, ar, priv, 0, 0, n0, n1, n2, n3, n4, n5, n6, n7⟩, true⟩ rfl) 5 (.int .i64 (2)) ⟨inn, ⟨kind, ar, priv, 0, 2, n0, n1, n2, n3, n4, n5, n6, n7⟩, true⟩ rfl) (grown_set (grown_set (World.grownBy.refl w _) 14 _) 5 _))

set_option maxHeartbeats 1600000 in
theorem seq_58_lo1 (b : Nat) (inn kind ar priv n0 n1 n2 n3 n4 n5 n6 n7 : Int) (any : Bool) (w : World) (hp : Ps w b ⟨inn, ⟨kind, ar, priv, 0, 1, n0, n1, n2, n3, n4, n5, n6, n7⟩, any⟩)  :
    Calls Try.prog 19 #[.pointer (some ⟨b, 0, none⟩), .int .i32 58] w (Gives w b (sequenced ⟨inn, ⟨kind, ar, priv, 0, 1, n0, n1, n2, n3, n4, n5, n6, n7⟩, any⟩ 58)) := by
  have hlt := Blk.lt hp
  have hne : ¬ b = w.heap.size := by omega
  have c4 : w.cell? ⟨b, 4, none⟩ = some (.int .u8 0) := Blk.cell hp 4
  have c5 : w.cell? ⟨b, 5, none⟩ = some (.int .i64 1) := Blk.cell hp 5
  have c14 : w.cell? ⟨b, 14, none⟩ = some (.bool any) := Blk.cell hp 14
  have f5 := Blk.frozen hp 5
  have f14 := Blk.frozen hp 14
  have hE : sequenced ⟨inn, ⟨kind, ar, priv, 0, 1, n0, n1, n2, n3, n4, n5, n6, n7⟩, any⟩ 58 = (⟨inn, ⟨kind, ar, priv, 0, 2, n0, n1, n2, n3, n4, n5, n6, n7⟩, true⟩, A0) := by
    have hl : last 58 = false := rfl
    have hn : min (max (1 : Int) 1 + 1) 9 = 2 := by omega
    unfold sequenced
    rw [if_neg (by rw [hl]; simp), if_neg (by omega), if_pos ⟨rfl, by omega⟩]
    simp only [hn]
  rw [hE]
  have hL := last_any 58
  rw [show last 58 = false from rfl] at hL
  have HP := hide hp
  clear hE hp
  go_enter Try.func19, Try.ntmps19
  go_wp2_with (go_at_call 20; refine (hL _).mono ?_; rintro e w' ⟨rfl, rfl⟩)
  all_goals (exact gives_new (a := A0) Try.results19 rfl (by simp) (ps_set (ps_set HP.out 14 (.bool true) ⟨inn, ⟨kind, ar, priv, 0, 1, n0, n1, n2, n3, n4, n5, n6, n7⟩, true⟩ rfl) 5 (.int .i64 (2)) ⟨inn, ⟨kind, ar, priv, 0, 2, n0, n1, n2, n3, n4, n5, n6, n7⟩, true⟩ rfl) (grown_set (grown_set (World.grownBy.refl w _) 14 _) 5 _))

set_option maxHeartbeats 1600000 in
theorem seq_58_mid (b : Nat) (inn kind ar priv n n0 n1 n2 n3 n4 n5 n6 n7 : Int) (any : Bool) (w : World) (hp : Ps w b ⟨inn, ⟨kind, ar, priv, 0, n, n0, n1, n2, n3, n4, n5, n6, n7⟩, any⟩) (h1 : 2 ≤ n) (h2 : n ≤ 8) :
    Calls Try.prog 19 #[.pointer (some ⟨b, 0, none⟩), .int .i32 58] w (Gives w b (sequenced ⟨inn, ⟨kind, ar, priv, 0, n, n0, n1, n2, n3, n4, n5, n6, n7⟩, any⟩ 58)) := by
  have hlt := Blk.lt hp
  have hne : ¬ b = w.heap.size := by omega
  have c4 : w.cell? ⟨b, 4, none⟩ = some (.int .u8 0) := Blk.cell hp 4
  have c5 : w.cell? ⟨b, 5, none⟩ = some (.int .i64 n) := Blk.cell hp 5
  have c14 : w.cell? ⟨b, 14, none⟩ = some (.bool any) := Blk.cell hp 14
  have f5 := Blk.frozen hp 5
  have f14 := Blk.frozen hp 14
  have hE : sequenced ⟨inn, ⟨kind, ar, priv, 0, n, n0, n1, n2, n3, n4, n5, n6, n7⟩, any⟩ 58 = (⟨inn, ⟨kind, ar, priv, 0, n + 1, n0, n1, n2, n3, n4, n5, n6, n7⟩, true⟩, A0) := by
    have hl : last 58 = false := rfl
    have hn : min (max (n : Int) 1 + 1) 9 = n + 1 := by omega
    unfold sequenced
    rw [if_neg (by rw [hl]; simp), if_neg (by omega), if_pos ⟨rfl, by omega⟩]
    simp only [hn]
  rw [hE]
  have hL := last_any 58
  rw [show last 58 = false from rfl] at hL
  have HP := hide hp
  clear hE hp
  go_enter Try.func19, Try.ntmps19
  go_wp2_with (go_at_call 20; refine (hL _).mono ?_; rintro e w' ⟨rfl, rfl⟩)
  all_goals (exact gives_new (a := A0) Try.results19 rfl (by simp) (ps_set (ps_set HP.out 14 (.bool true) ⟨inn, ⟨kind, ar, priv, 0, n, n0, n1, n2, n3, n4, n5, n6, n7⟩, true⟩ rfl) 5 (.int .i64 (n + 1)) ⟨inn, ⟨kind, ar, priv, 0, n + 1, n0, n1, n2, n3, n4, n5, n6, n7⟩, true⟩ rfl) (grown_set (grown_set (World.grownBy.refl w _) 14 _) 5 _))

set_option maxHeartbeats 1600000 in
theorem seq_58_hi (b : Nat) (inn kind ar priv n0 n1 n2 n3 n4 n5 n6 n7 : Int) (any : Bool) (w : World) (hp : Ps w b ⟨inn, ⟨kind, ar, priv, 0, 9, n0, n1, n2, n3, n4, n5, n6, n7⟩, any⟩)  :
    Calls Try.prog 19 #[.pointer (some ⟨b, 0, none⟩), .int .i32 58] w (Gives w b (sequenced ⟨inn, ⟨kind, ar, priv, 0, 9, n0, n1, n2, n3, n4, n5, n6, n7⟩, any⟩ 58)) := by
  have hlt := Blk.lt hp
  have hne : ¬ b = w.heap.size := by omega
  have c4 : w.cell? ⟨b, 4, none⟩ = some (.int .u8 0) := Blk.cell hp 4
  have c5 : w.cell? ⟨b, 5, none⟩ = some (.int .i64 9) := Blk.cell hp 5
  have c14 : w.cell? ⟨b, 14, none⟩ = some (.bool any) := Blk.cell hp 14
  have f5 := Blk.frozen hp 5
  have f14 := Blk.frozen hp 14
  have hE : sequenced ⟨inn, ⟨kind, ar, priv, 0, 9, n0, n1, n2, n3, n4, n5, n6, n7⟩, any⟩ 58 = (⟨inn, ⟨kind, ar, priv, 0, 9, n0, n1, n2, n3, n4, n5, n6, n7⟩, true⟩, A0) := by
    have hl : last 58 = false := rfl
    have hn : min (max (9 : Int) 1 + 1) 9 = 9 := by omega
    unfold sequenced
    rw [if_neg (by rw [hl]; simp), if_neg (by omega), if_pos ⟨rfl, by omega⟩]
    simp only [hn]
  rw [hE]
  have hL := last_any 58
  rw [show last 58 = false from rfl] at hL
  have HP := hide hp
  clear hE hp
  go_enter Try.func19, Try.ntmps19
  go_wp2_with (go_at_call 20; refine (hL _).mono ?_; rintro e w' ⟨rfl, rfl⟩)
  all_goals (exact gives_new (a := A0) Try.results19 rfl (by simp) (ps_set (ps_set HP.out 14 (.bool true) ⟨inn, ⟨kind, ar, priv, 0, 9, n0, n1, n2, n3, n4, n5, n6, n7⟩, true⟩ rfl) 5 (.int .i64 (9)) ⟨inn, ⟨kind, ar, priv, 0, 9, n0, n1, n2, n3, n4, n5, n6, n7⟩, true⟩ rfl) (grown_set (grown_set (World.grownBy.refl w _) 14 _) 5 _))

set_option maxHeartbeats 1600000 in
theorem seq_59_lo0 (b : Nat) (inn kind ar priv n0 n1 n2 n3 n4 n5 n6 n7 : Int) (any : Bool) (w : World) (hp : Ps w b ⟨inn, ⟨kind, ar, priv, 0, 0, n0, n1, n2, n3, n4, n5, n6, n7⟩, any⟩)  :
    Calls Try.prog 19 #[.pointer (some ⟨b, 0, none⟩), .int .i32 59] w (Gives w b (sequenced ⟨inn, ⟨kind, ar, priv, 0, 0, n0, n1, n2, n3, n4, n5, n6, n7⟩, any⟩ 59)) := by
  have hlt := Blk.lt hp
  have hne : ¬ b = w.heap.size := by omega
  have c4 : w.cell? ⟨b, 4, none⟩ = some (.int .u8 0) := Blk.cell hp 4
  have c5 : w.cell? ⟨b, 5, none⟩ = some (.int .i64 0) := Blk.cell hp 5
  have c14 : w.cell? ⟨b, 14, none⟩ = some (.bool any) := Blk.cell hp 14
  have f5 := Blk.frozen hp 5
  have f14 := Blk.frozen hp 14
  have hE : sequenced ⟨inn, ⟨kind, ar, priv, 0, 0, n0, n1, n2, n3, n4, n5, n6, n7⟩, any⟩ 59 = (⟨inn, ⟨kind, ar, priv, 0, 2, n0, n1, n2, n3, n4, n5, n6, n7⟩, true⟩, A0) := by
    have hl : last 59 = false := rfl
    have hn : min (max (0 : Int) 1 + 1) 9 = 2 := by omega
    unfold sequenced
    rw [if_neg (by rw [hl]; simp), if_neg (by omega), if_pos ⟨rfl, by omega⟩]
    simp only [hn]
  rw [hE]
  have hL := last_any 59
  rw [show last 59 = false from rfl] at hL
  have HP := hide hp
  clear hE hp
  go_enter Try.func19, Try.ntmps19
  go_wp2_with (go_at_call 20; refine (hL _).mono ?_; rintro e w' ⟨rfl, rfl⟩)
  all_goals (exact gives_new (a := A0) Try.results19 rfl (by simp) (ps_set (ps_set HP.out 14 (.bool true) ⟨inn, ⟨kind, ar, priv, 0, 0, n0, n1, n2, n3, n4, n5, n6, n7⟩, true⟩ rfl) 5 (.int .i64 (2)) ⟨inn, ⟨kind, ar, priv, 0, 2, n0, n1, n2, n3, n4, n5, n6, n7⟩, true⟩ rfl) (grown_set (grown_set (World.grownBy.refl w _) 14 _) 5 _))

set_option maxHeartbeats 1600000 in
theorem seq_59_lo1 (b : Nat) (inn kind ar priv n0 n1 n2 n3 n4 n5 n6 n7 : Int) (any : Bool) (w : World) (hp : Ps w b ⟨inn, ⟨kind, ar, priv, 0, 1, n0, n1, n2, n3, n4, n5, n6, n7⟩, any⟩)  :
    Calls Try.prog 19 #[.pointer (some ⟨b, 0, none⟩), .int .i32 59] w (Gives w b (sequenced ⟨inn, ⟨kind, ar, priv, 0, 1, n0, n1, n2, n3, n4, n5, n6, n7⟩, any⟩ 59)) := by
  have hlt := Blk.lt hp
  have hne : ¬ b = w.heap.size := by omega
  have c4 : w.cell? ⟨b, 4, none⟩ = some (.int .u8 0) := Blk.cell hp 4
  have c5 : w.cell? ⟨b, 5, none⟩ = some (.int .i64 1) := Blk.cell hp 5
  have c14 : w.cell? ⟨b, 14, none⟩ = some (.bool any) := Blk.cell hp 14
  have f5 := Blk.frozen hp 5
  have f14 := Blk.frozen hp 14
  have hE : sequenced ⟨inn, ⟨kind, ar, priv, 0, 1, n0, n1, n2, n3, n4, n5, n6, n7⟩, any⟩ 59 = (⟨inn, ⟨kind, ar, priv, 0, 2, n0, n1, n2, n3, n4, n5, n6, n7⟩, true⟩, A0) := by
    have hl : last 59 = false := rfl
    have hn : min (max (1 : Int) 1 + 1) 9 = 2 := by omega
    unfold sequenced
    rw [if_neg (by rw [hl]; simp), if_neg (by omega), if_pos ⟨rfl, by omega⟩]
    simp only [hn]
  rw [hE]
  have hL := last_any 59
  rw [show last 59 = false from rfl] at hL
  have HP := hide hp
  clear hE hp
  go_enter Try.func19, Try.ntmps19
  go_wp2_with (go_at_call 20; refine (hL _).mono ?_; rintro e w' ⟨rfl, rfl⟩)
  all_goals (exact gives_new (a := A0) Try.results19 rfl (by simp) (ps_set (ps_set HP.out 14 (.bool true) ⟨inn, ⟨kind, ar, priv, 0, 1, n0, n1, n2, n3, n4, n5, n6, n7⟩, true⟩ rfl) 5 (.int .i64 (2)) ⟨inn, ⟨kind, ar, priv, 0, 2, n0, n1, n2, n3, n4, n5, n6, n7⟩, true⟩ rfl) (grown_set (grown_set (World.grownBy.refl w _) 14 _) 5 _))

set_option maxHeartbeats 1600000 in
theorem seq_59_mid (b : Nat) (inn kind ar priv n n0 n1 n2 n3 n4 n5 n6 n7 : Int) (any : Bool) (w : World) (hp : Ps w b ⟨inn, ⟨kind, ar, priv, 0, n, n0, n1, n2, n3, n4, n5, n6, n7⟩, any⟩) (h1 : 2 ≤ n) (h2 : n ≤ 8) :
    Calls Try.prog 19 #[.pointer (some ⟨b, 0, none⟩), .int .i32 59] w (Gives w b (sequenced ⟨inn, ⟨kind, ar, priv, 0, n, n0, n1, n2, n3, n4, n5, n6, n7⟩, any⟩ 59)) := by
  have hlt := Blk.lt hp
  have hne : ¬ b = w.heap.size := by omega
  have c4 : w.cell? ⟨b, 4, none⟩ = some (.int .u8 0) := Blk.cell hp 4
  have c5 : w.cell? ⟨b, 5, none⟩ = some (.int .i64 n) := Blk.cell hp 5
  have c14 : w.cell? ⟨b, 14, none⟩ = some (.bool any) := Blk.cell hp 14
  have f5 := Blk.frozen hp 5
  have f14 := Blk.frozen hp 14
  have hE : sequenced ⟨inn, ⟨kind, ar, priv, 0, n, n0, n1, n2, n3, n4, n5, n6, n7⟩, any⟩ 59 = (⟨inn, ⟨kind, ar, priv, 0, n + 1, n0, n1, n2, n3, n4, n5, n6, n7⟩, true⟩, A0) := by
    have hl : last 59 = false := rfl
    have hn : min (max (n : Int) 1 + 1) 9 = n + 1 := by omega
    unfold sequenced
    rw [if_neg (by rw [hl]; simp), if_neg (by omega), if_pos ⟨rfl, by omega⟩]
    simp only [hn]
  rw [hE]
  have hL := last_any 59
  rw [show last 59 = false from rfl] at hL
  have HP := hide hp
  clear hE hp
  go_enter Try.func19, Try.ntmps19
  go_wp2_with (go_at_call 20; refine (hL _).mono ?_; rintro e w' ⟨rfl, rfl⟩)
  all_goals (exact gives_new (a := A0) Try.results19 rfl (by simp) (ps_set (ps_set HP.out 14 (.bool true) ⟨inn, ⟨kind, ar, priv, 0, n, n0, n1, n2, n3, n4, n5, n6, n7⟩, true⟩ rfl) 5 (.int .i64 (n + 1)) ⟨inn, ⟨kind, ar, priv, 0, n + 1, n0, n1, n2, n3, n4, n5, n6, n7⟩, true⟩ rfl) (grown_set (grown_set (World.grownBy.refl w _) 14 _) 5 _))

set_option maxHeartbeats 1600000 in
theorem seq_59_hi (b : Nat) (inn kind ar priv n0 n1 n2 n3 n4 n5 n6 n7 : Int) (any : Bool) (w : World) (hp : Ps w b ⟨inn, ⟨kind, ar, priv, 0, 9, n0, n1, n2, n3, n4, n5, n6, n7⟩, any⟩)  :
    Calls Try.prog 19 #[.pointer (some ⟨b, 0, none⟩), .int .i32 59] w (Gives w b (sequenced ⟨inn, ⟨kind, ar, priv, 0, 9, n0, n1, n2, n3, n4, n5, n6, n7⟩, any⟩ 59)) := by
  have hlt := Blk.lt hp
  have hne : ¬ b = w.heap.size := by omega
  have c4 : w.cell? ⟨b, 4, none⟩ = some (.int .u8 0) := Blk.cell hp 4
  have c5 : w.cell? ⟨b, 5, none⟩ = some (.int .i64 9) := Blk.cell hp 5
  have c14 : w.cell? ⟨b, 14, none⟩ = some (.bool any) := Blk.cell hp 14
  have f5 := Blk.frozen hp 5
  have f14 := Blk.frozen hp 14
  have hE : sequenced ⟨inn, ⟨kind, ar, priv, 0, 9, n0, n1, n2, n3, n4, n5, n6, n7⟩, any⟩ 59 = (⟨inn, ⟨kind, ar, priv, 0, 9, n0, n1, n2, n3, n4, n5, n6, n7⟩, true⟩, A0) := by
    have hl : last 59 = false := rfl
    have hn : min (max (9 : Int) 1 + 1) 9 = 9 := by omega
    unfold sequenced
    rw [if_neg (by rw [hl]; simp), if_neg (by omega), if_pos ⟨rfl, by omega⟩]
    simp only [hn]
  rw [hE]
  have hL := last_any 59
  rw [show last 59 = false from rfl] at hL
  have HP := hide hp
  clear hE hp
  go_enter Try.func19, Try.ntmps19
  go_wp2_with (go_at_call 20; refine (hL _).mono ?_; rintro e w' ⟨rfl, rfl⟩)
  all_goals (exact gives_new (a := A0) Try.results19 rfl (by simp) (ps_set (ps_set HP.out 14 (.bool true) ⟨inn, ⟨kind, ar, priv, 0, 9, n0, n1, n2, n3, n4, n5, n6, n7⟩, true⟩ rfl) 5 (.int .i64 (9)) ⟨inn, ⟨kind, ar, priv, 0, 9, n0, n1, n2, n3, n4, n5, n6, n7⟩, true⟩ rfl) (grown_set (grown_set (World.grownBy.refl w _) 14 _) 5 _))

set_option maxHeartbeats 1600000 in
theorem seq_mid (b : Nat) (inn kind ar priv n n0 n1 n2 n3 n4 n5 n6 n7 : Int) (any : Bool) (r : Int) (w : World) (hp : Ps w b ⟨inn, ⟨kind, ar, priv, 0, n, n0, n1, n2, n3, n4, n5, n6, n7⟩, any⟩) (hl : last r = false) (h1 : 32 ≤ r) (h2 : r < 48) :
    Calls Try.prog 19 #[.pointer (some ⟨b, 0, none⟩), .int .i32 r] w (Gives w b (sequenced ⟨inn, ⟨kind, ar, priv, 0, n, n0, n1, n2, n3, n4, n5, n6, n7⟩, any⟩ r)) := by
  have hlt := Blk.lt hp
  have hne : ¬ b = w.heap.size := by omega
  have c0 : w.cell? ⟨b, 0, none⟩ = some (.int .i64 inn) := Blk.cell hp 0
  have c3 : w.cell? ⟨b, 3, none⟩ = some (.int .u8 priv) := Blk.cell hp 3
  have c4 : w.cell? ⟨b, 4, none⟩ = some (.int .u8 0) := Blk.cell hp 4
  have c5 : w.cell? ⟨b, 5, none⟩ = some (.int .i64 n) := Blk.cell hp 5
  have c14 : w.cell? ⟨b, 14, none⟩ = some (.bool any) := Blk.cell hp 14
  have f0 := Blk.frozen hp 0
  have f3 := Blk.frozen hp 3
  have f4 := Blk.frozen hp 4
  have f5 := Blk.frozen hp 5
  have f14 := Blk.frozen hp 14
  have hE : sequenced ⟨inn, ⟨kind, ar, priv, 0, n, n0, n1, n2, n3, n4, n5, n6, n7⟩, any⟩ r = (⟨inn, ⟨kind, ar, priv, r, n, n0, n1, n2, n3, n4, n5, n6, n7⟩, true⟩, A0) := by unfold sequenced; rw [if_neg (by rw [hl]; simp), if_neg (by omega), if_neg (by omega), if_pos ⟨rfl, h2⟩]
  rw [hE]
  have hL := last_any r
  rw [hl] at hL
  have HP := hide hp
  clear hE hp hl
  have e58 : (r == 58) = false := by rw [beq_eq_false_iff_ne]; omega
  have e59 : (r == 59) = false := by rw [beq_eq_false_iff_ne]; omega
  go_enter Try.func19, Try.ntmps19
  go_wp2_with (go_at_call 20; refine (hL _).mono ?_; rintro e w' ⟨rfl, rfl⟩)
  all_goals (exact gives_new (a := A0) Try.results19 rfl (by simp) (ps_set (ps_set (HP.out) 14 (.bool true) ⟨inn, ⟨kind, ar, priv, 0, n, n0, n1, n2, n3, n4, n5, n6, n7⟩, true⟩ rfl) 4 (.int .u8 r) ⟨inn, ⟨kind, ar, priv, r, n, n0, n1, n2, n3, n4, n5, n6, n7⟩, true⟩ rfl) (grown_set (grown_set (World.grownBy.refl w _) 14 _) 4 _))

set_option maxHeartbeats 1600000 in
theorem seq_priv0 (b : Nat) (inn kind ar priv n n0 n1 n2 n3 n4 n5 n6 n7 : Int)  (r : Int) (w : World) (hp : Ps w b ⟨inn, ⟨kind, ar, priv, 0, n, n0, n1, n2, n3, n4, n5, n6, n7⟩, false⟩) (hl : last r = false) (h1 : 60 ≤ r) (h2 : r ≤ 63) :
    Calls Try.prog 19 #[.pointer (some ⟨b, 0, none⟩), .int .i32 r] w (Gives w b (sequenced ⟨inn, ⟨kind, ar, priv, 0, n, n0, n1, n2, n3, n4, n5, n6, n7⟩, false⟩ r)) := by
  have hlt := Blk.lt hp
  have hne : ¬ b = w.heap.size := by omega
  have c0 : w.cell? ⟨b, 0, none⟩ = some (.int .i64 inn) := Blk.cell hp 0
  have c3 : w.cell? ⟨b, 3, none⟩ = some (.int .u8 priv) := Blk.cell hp 3
  have c4 : w.cell? ⟨b, 4, none⟩ = some (.int .u8 0) := Blk.cell hp 4
  have c5 : w.cell? ⟨b, 5, none⟩ = some (.int .i64 n) := Blk.cell hp 5
  have c14 : w.cell? ⟨b, 14, none⟩ = some (.bool false) := Blk.cell hp 14
  have f0 := Blk.frozen hp 0
  have f3 := Blk.frozen hp 3
  have f4 := Blk.frozen hp 4
  have f5 := Blk.frozen hp 5
  have f14 := Blk.frozen hp 14
  have hE : sequenced ⟨inn, ⟨kind, ar, priv, 0, n, n0, n1, n2, n3, n4, n5, n6, n7⟩, false⟩ r = (⟨inn, ⟨kind, ar, r, 0, n, n0, n1, n2, n3, n4, n5, n6, n7⟩, true⟩, A0) := by unfold sequenced; rw [if_neg (by rw [hl]; simp), if_neg (by omega), if_neg (by omega), if_neg (by omega), if_pos ⟨rfl, h1, h2⟩]
  rw [hE]
  have hL := last_any r
  rw [hl] at hL
  have HP := hide hp
  clear hE hp hl
  have e58 : (r == 58) = false := by rw [beq_eq_false_iff_ne]; omega
  have e59 : (r == 59) = false := by rw [beq_eq_false_iff_ne]; omega
  go_enter Try.func19, Try.ntmps19
  go_wp2_with (go_at_call 20; refine (hL _).mono ?_; rintro e w' ⟨rfl, rfl⟩)
  all_goals (exact gives_new (a := A0) Try.results19 rfl (by simp) (ps_set (ps_set (HP.out) 14 (.bool true) ⟨inn, ⟨kind, ar, priv, 0, n, n0, n1, n2, n3, n4, n5, n6, n7⟩, true⟩ rfl) 3 (.int .u8 r) ⟨inn, ⟨kind, ar, r, 0, n, n0, n1, n2, n3, n4, n5, n6, n7⟩, true⟩ rfl) (grown_set (grown_set (World.grownBy.refl w _) 14 _) 3 _))

set_option maxHeartbeats 1600000 in
theorem seq_priv1 (b : Nat) (inn kind ar priv mid n n0 n1 n2 n3 n4 n5 n6 n7 : Int)  (r : Int) (w : World) (hp : Ps w b ⟨inn, ⟨kind, ar, priv, mid, n, n0, n1, n2, n3, n4, n5, n6, n7⟩, false⟩) (hl : last r = false) (h1 : 60 ≤ r) (h2 : r ≤ 63) (hm : ¬ mid = 0) :
    Calls Try.prog 19 #[.pointer (some ⟨b, 0, none⟩), .int .i32 r] w (Gives w b (sequenced ⟨inn, ⟨kind, ar, priv, mid, n, n0, n1, n2, n3, n4, n5, n6, n7⟩, false⟩ r)) := by
  have hlt := Blk.lt hp
  have hne : ¬ b = w.heap.size := by omega
  have c0 : w.cell? ⟨b, 0, none⟩ = some (.int .i64 inn) := Blk.cell hp 0
  have c3 : w.cell? ⟨b, 3, none⟩ = some (.int .u8 priv) := Blk.cell hp 3
  have c4 : w.cell? ⟨b, 4, none⟩ = some (.int .u8 mid) := Blk.cell hp 4
  have c5 : w.cell? ⟨b, 5, none⟩ = some (.int .i64 n) := Blk.cell hp 5
  have c14 : w.cell? ⟨b, 14, none⟩ = some (.bool false) := Blk.cell hp 14
  have f0 := Blk.frozen hp 0
  have f3 := Blk.frozen hp 3
  have f4 := Blk.frozen hp 4
  have f5 := Blk.frozen hp 5
  have f14 := Blk.frozen hp 14
  have hE : sequenced ⟨inn, ⟨kind, ar, priv, mid, n, n0, n1, n2, n3, n4, n5, n6, n7⟩, false⟩ r = (⟨inn, ⟨kind, ar, r, mid, n, n0, n1, n2, n3, n4, n5, n6, n7⟩, true⟩, A0) := by unfold sequenced; rw [if_neg (by rw [hl]; simp), if_neg (fun h => hm h.1), if_neg (fun h => hm h.1), if_neg (fun h => hm h.1), if_pos ⟨rfl, h1, h2⟩]
  rw [hE]
  have hL := last_any r
  rw [hl] at hL
  have HP := hide hp
  clear hE hp hl
  have tm : (mid == 0) = false := by rw [beq_eq_false_iff_ne]; exact hm
  clear hm
  go_enter Try.func19, Try.ntmps19
  go_wp2_with (go_at_call 20; refine (hL _).mono ?_; rintro e w' ⟨rfl, rfl⟩)
  all_goals (exact gives_new (a := A0) Try.results19 rfl (by simp) (ps_set (ps_set (HP.out) 14 (.bool true) ⟨inn, ⟨kind, ar, priv, mid, n, n0, n1, n2, n3, n4, n5, n6, n7⟩, true⟩ rfl) 3 (.int .u8 r) ⟨inn, ⟨kind, ar, r, mid, n, n0, n1, n2, n3, n4, n5, n6, n7⟩, true⟩ rfl) (grown_set (grown_set (World.grownBy.refl w _) 14 _) 3 _))

set_option maxHeartbeats 1600000 in
theorem seq_sp0 (b : Nat) (inn kind ar priv n n0 n1 n2 n3 n4 n5 n6 n7 : Int)  (r : Int) (w : World) (hp : Ps w b ⟨inn, ⟨kind, ar, priv, 0, n, n0, n1, n2, n3, n4, n5, n6, n7⟩, true⟩) (hl : last r = false) (h1 : 60 ≤ r) :
    Calls Try.prog 19 #[.pointer (some ⟨b, 0, none⟩), .int .i32 r] w (Gives w b (sequenced ⟨inn, ⟨kind, ar, priv, 0, n, n0, n1, n2, n3, n4, n5, n6, n7⟩, true⟩ r)) := by
  have hlt := Blk.lt hp
  have hne : ¬ b = w.heap.size := by omega
  have c0 : w.cell? ⟨b, 0, none⟩ = some (.int .i64 inn) := Blk.cell hp 0
  have c3 : w.cell? ⟨b, 3, none⟩ = some (.int .u8 priv) := Blk.cell hp 3
  have c4 : w.cell? ⟨b, 4, none⟩ = some (.int .u8 0) := Blk.cell hp 4
  have c5 : w.cell? ⟨b, 5, none⟩ = some (.int .i64 n) := Blk.cell hp 5
  have c14 : w.cell? ⟨b, 14, none⟩ = some (.bool true) := Blk.cell hp 14
  have f0 := Blk.frozen hp 0
  have f3 := Blk.frozen hp 3
  have f4 := Blk.frozen hp 4
  have f5 := Blk.frozen hp 5
  have f14 := Blk.frozen hp 14
  have hE : sequenced ⟨inn, ⟨kind, ar, priv, 0, n, n0, n1, n2, n3, n4, n5, n6, n7⟩, true⟩ r = (⟨3, ⟨kind, ar, priv, 0, n, n0, n1, n2, n3, n4, n5, n6, n7⟩, true⟩, A0) := by unfold sequenced; rw [if_neg (by rw [hl]; simp), if_neg (by omega), if_neg (by omega), if_neg (by omega), if_neg (by simp)]
  rw [hE]
  have hL := last_any r
  rw [hl] at hL
  have HP := hide hp
  clear hE hp hl
  have e58 : (r == 58) = false := by rw [beq_eq_false_iff_ne]; omega
  have e59 : (r == 59) = false := by rw [beq_eq_false_iff_ne]; omega
  go_enter Try.func19, Try.ntmps19
  go_wp2_with (go_at_call 20; refine (hL _).mono ?_; rintro e w' ⟨rfl, rfl⟩)
  all_goals (exact gives_new (a := A0) Try.results19 rfl (by simp) (ps_set (ps_set (HP.out) 14 (.bool true) ⟨inn, ⟨kind, ar, priv, 0, n, n0, n1, n2, n3, n4, n5, n6, n7⟩, true⟩ rfl) 0 (.int .i64 3) ⟨3, ⟨kind, ar, priv, 0, n, n0, n1, n2, n3, n4, n5, n6, n7⟩, true⟩ rfl) (grown_set (grown_set (World.grownBy.refl w _) 14 _) 0 _))

set_option maxHeartbeats 1600000 in
theorem seq_sp1 (b : Nat) (inn kind ar priv n n0 n1 n2 n3 n4 n5 n6 n7 : Int)  (r : Int) (w : World) (hp : Ps w b ⟨inn, ⟨kind, ar, priv, 0, n, n0, n1, n2, n3, n4, n5, n6, n7⟩, false⟩) (hl : last r = false) (h1 : 63 < r) :
    Calls Try.prog 19 #[.pointer (some ⟨b, 0, none⟩), .int .i32 r] w (Gives w b (sequenced ⟨inn, ⟨kind, ar, priv, 0, n, n0, n1, n2, n3, n4, n5, n6, n7⟩, false⟩ r)) := by
  have hlt := Blk.lt hp
  have hne : ¬ b = w.heap.size := by omega
  have c0 : w.cell? ⟨b, 0, none⟩ = some (.int .i64 inn) := Blk.cell hp 0
  have c3 : w.cell? ⟨b, 3, none⟩ = some (.int .u8 priv) := Blk.cell hp 3
  have c4 : w.cell? ⟨b, 4, none⟩ = some (.int .u8 0) := Blk.cell hp 4
  have c5 : w.cell? ⟨b, 5, none⟩ = some (.int .i64 n) := Blk.cell hp 5
  have c14 : w.cell? ⟨b, 14, none⟩ = some (.bool false) := Blk.cell hp 14
  have f0 := Blk.frozen hp 0
  have f3 := Blk.frozen hp 3
  have f4 := Blk.frozen hp 4
  have f5 := Blk.frozen hp 5
  have f14 := Blk.frozen hp 14
  have hE : sequenced ⟨inn, ⟨kind, ar, priv, 0, n, n0, n1, n2, n3, n4, n5, n6, n7⟩, false⟩ r = (⟨3, ⟨kind, ar, priv, 0, n, n0, n1, n2, n3, n4, n5, n6, n7⟩, true⟩, A0) := by unfold sequenced; rw [if_neg (by rw [hl]; simp), if_neg (by omega), if_neg (by omega), if_neg (by omega), if_neg (by omega)]
  rw [hE]
  have hL := last_any r
  rw [hl] at hL
  have HP := hide hp
  clear hE hp hl
  have e58 : (r == 58) = false := by rw [beq_eq_false_iff_ne]; omega
  have e59 : (r == 59) = false := by rw [beq_eq_false_iff_ne]; omega
  go_enter Try.func19, Try.ntmps19
  go_wp2_with (go_at_call 20; refine (hL _).mono ?_; rintro e w' ⟨rfl, rfl⟩)
  all_goals (exact gives_new (a := A0) Try.results19 rfl (by simp) (ps_set (ps_set (HP.out) 14 (.bool true) ⟨inn, ⟨kind, ar, priv, 0, n, n0, n1, n2, n3, n4, n5, n6, n7⟩, true⟩ rfl) 0 (.int .i64 3) ⟨3, ⟨kind, ar, priv, 0, n, n0, n1, n2, n3, n4, n5, n6, n7⟩, true⟩ rfl) (grown_set (grown_set (World.grownBy.refl w _) 14 _) 0 _))

set_option maxHeartbeats 1600000 in
theorem seq_sp2 (b : Nat) (inn kind ar priv mid n n0 n1 n2 n3 n4 n5 n6 n7 : Int)  (r : Int) (w : World) (hp : Ps w b ⟨inn, ⟨kind, ar, priv, mid, n, n0, n1, n2, n3, n4, n5, n6, n7⟩, true⟩) (hl : last r = false) (hm : ¬ mid = 0) :
    Calls Try.prog 19 #[.pointer (some ⟨b, 0, none⟩), .int .i32 r] w (Gives w b (sequenced ⟨inn, ⟨kind, ar, priv, mid, n, n0, n1, n2, n3, n4, n5, n6, n7⟩, true⟩ r)) := by
  have hlt := Blk.lt hp
  have hne : ¬ b = w.heap.size := by omega
  have c0 : w.cell? ⟨b, 0, none⟩ = some (.int .i64 inn) := Blk.cell hp 0
  have c3 : w.cell? ⟨b, 3, none⟩ = some (.int .u8 priv) := Blk.cell hp 3
  have c4 : w.cell? ⟨b, 4, none⟩ = some (.int .u8 mid) := Blk.cell hp 4
  have c5 : w.cell? ⟨b, 5, none⟩ = some (.int .i64 n) := Blk.cell hp 5
  have c14 : w.cell? ⟨b, 14, none⟩ = some (.bool true) := Blk.cell hp 14
  have f0 := Blk.frozen hp 0
  have f3 := Blk.frozen hp 3
  have f4 := Blk.frozen hp 4
  have f5 := Blk.frozen hp 5
  have f14 := Blk.frozen hp 14
  have hE : sequenced ⟨inn, ⟨kind, ar, priv, mid, n, n0, n1, n2, n3, n4, n5, n6, n7⟩, true⟩ r = (⟨3, ⟨kind, ar, priv, mid, n, n0, n1, n2, n3, n4, n5, n6, n7⟩, true⟩, A0) := by unfold sequenced; rw [if_neg (by rw [hl]; simp), if_neg (fun h => hm h.1), if_neg (fun h => hm h.1), if_neg (fun h => hm h.1), if_neg (by simp)]
  rw [hE]
  have hL := last_any r
  rw [hl] at hL
  have HP := hide hp
  clear hE hp hl
  have tm : (mid == 0) = false := by rw [beq_eq_false_iff_ne]; exact hm
  clear hm
  go_enter Try.func19, Try.ntmps19
  go_wp2_with (go_at_call 20; refine (hL _).mono ?_; rintro e w' ⟨rfl, rfl⟩)
  all_goals (exact gives_new (a := A0) Try.results19 rfl (by simp) (ps_set (ps_set (HP.out) 14 (.bool true) ⟨inn, ⟨kind, ar, priv, mid, n, n0, n1, n2, n3, n4, n5, n6, n7⟩, true⟩ rfl) 0 (.int .i64 3) ⟨3, ⟨kind, ar, priv, mid, n, n0, n1, n2, n3, n4, n5, n6, n7⟩, true⟩ rfl) (grown_set (grown_set (World.grownBy.refl w _) 14 _) 0 _))

set_option maxHeartbeats 1600000 in
theorem seq_sp3 (b : Nat) (inn kind ar priv mid n n0 n1 n2 n3 n4 n5 n6 n7 : Int)  (r : Int) (w : World) (hp : Ps w b ⟨inn, ⟨kind, ar, priv, mid, n, n0, n1, n2, n3, n4, n5, n6, n7⟩, false⟩) (hl : last r = false) (h1 : r < 60) (hm : ¬ mid = 0) :
    Calls Try.prog 19 #[.pointer (some ⟨b, 0, none⟩), .int .i32 r] w (Gives w b (sequenced ⟨inn, ⟨kind, ar, priv, mid, n, n0, n1, n2, n3, n4, n5, n6, n7⟩, false⟩ r)) := by
  have hlt := Blk.lt hp
  have hne : ¬ b = w.heap.size := by omega
  have c0 : w.cell? ⟨b, 0, none⟩ = some (.int .i64 inn) := Blk.cell hp 0
  have c3 : w.cell? ⟨b, 3, none⟩ = some (.int .u8 priv) := Blk.cell hp 3
  have c4 : w.cell? ⟨b, 4, none⟩ = some (.int .u8 mid) := Blk.cell hp 4
  have c5 : w.cell? ⟨b, 5, none⟩ = some (.int .i64 n) := Blk.cell hp 5
  have c14 : w.cell? ⟨b, 14, none⟩ = some (.bool false) := Blk.cell hp 14
  have f0 := Blk.frozen hp 0
  have f3 := Blk.frozen hp 3
  have f4 := Blk.frozen hp 4
  have f5 := Blk.frozen hp 5
  have f14 := Blk.frozen hp 14
  have hE : sequenced ⟨inn, ⟨kind, ar, priv, mid, n, n0, n1, n2, n3, n4, n5, n6, n7⟩, false⟩ r = (⟨3, ⟨kind, ar, priv, mid, n, n0, n1, n2, n3, n4, n5, n6, n7⟩, true⟩, A0) := by unfold sequenced; rw [if_neg (by rw [hl]; simp), if_neg (fun h => hm h.1), if_neg (fun h => hm h.1), if_neg (fun h => hm h.1), if_neg (by omega)]
  rw [hE]
  have hL := last_any r
  rw [hl] at hL
  have HP := hide hp
  clear hE hp hl
  have tm : (mid == 0) = false := by rw [beq_eq_false_iff_ne]; exact hm
  clear hm
  go_enter Try.func19, Try.ntmps19
  go_wp2_with (go_at_call 20; refine (hL _).mono ?_; rintro e w' ⟨rfl, rfl⟩)
  all_goals (exact gives_new (a := A0) Try.results19 rfl (by simp) (ps_set (ps_set (HP.out) 14 (.bool true) ⟨inn, ⟨kind, ar, priv, mid, n, n0, n1, n2, n3, n4, n5, n6, n7⟩, true⟩ rfl) 0 (.int .i64 3) ⟨3, ⟨kind, ar, priv, mid, n, n0, n1, n2, n3, n4, n5, n6, n7⟩, true⟩ rfl) (grown_set (grown_set (World.grownBy.refl w _) 14 _) 0 _))

set_option maxHeartbeats 1600000 in
theorem seq_sp4 (b : Nat) (inn kind ar priv mid n n0 n1 n2 n3 n4 n5 n6 n7 : Int)  (r : Int) (w : World) (hp : Ps w b ⟨inn, ⟨kind, ar, priv, mid, n, n0, n1, n2, n3, n4, n5, n6, n7⟩, false⟩) (hl : last r = false) (h1 : 63 < r) (hm : ¬ mid = 0) :
    Calls Try.prog 19 #[.pointer (some ⟨b, 0, none⟩), .int .i32 r] w (Gives w b (sequenced ⟨inn, ⟨kind, ar, priv, mid, n, n0, n1, n2, n3, n4, n5, n6, n7⟩, false⟩ r)) := by
  have hlt := Blk.lt hp
  have hne : ¬ b = w.heap.size := by omega
  have c0 : w.cell? ⟨b, 0, none⟩ = some (.int .i64 inn) := Blk.cell hp 0
  have c3 : w.cell? ⟨b, 3, none⟩ = some (.int .u8 priv) := Blk.cell hp 3
  have c4 : w.cell? ⟨b, 4, none⟩ = some (.int .u8 mid) := Blk.cell hp 4
  have c5 : w.cell? ⟨b, 5, none⟩ = some (.int .i64 n) := Blk.cell hp 5
  have c14 : w.cell? ⟨b, 14, none⟩ = some (.bool false) := Blk.cell hp 14
  have f0 := Blk.frozen hp 0
  have f3 := Blk.frozen hp 3
  have f4 := Blk.frozen hp 4
  have f5 := Blk.frozen hp 5
  have f14 := Blk.frozen hp 14
  have hE : sequenced ⟨inn, ⟨kind, ar, priv, mid, n, n0, n1, n2, n3, n4, n5, n6, n7⟩, false⟩ r = (⟨3, ⟨kind, ar, priv, mid, n, n0, n1, n2, n3, n4, n5, n6, n7⟩, true⟩, A0) := by unfold sequenced; rw [if_neg (by rw [hl]; simp), if_neg (fun h => hm h.1), if_neg (fun h => hm h.1), if_neg (fun h => hm h.1), if_neg (by omega)]
  rw [hE]
  have hL := last_any r
  rw [hl] at hL
  have HP := hide hp
  clear hE hp hl
  have tm : (mid == 0) = false := by rw [beq_eq_false_iff_ne]; exact hm
  clear hm
  go_enter Try.func19, Try.ntmps19
  go_wp2_with (go_at_call 20; refine (hL _).mono ?_; rintro e w' ⟨rfl, rfl⟩)
  all_goals (exact gives_new (a := A0) Try.results19 rfl (by simp) (ps_set (ps_set (HP.out) 14 (.bool true) ⟨inn, ⟨kind, ar, priv, mid, n, n0, n1, n2, n3, n4, n5, n6, n7⟩, true⟩ rfl) 0 (.int .i64 3) ⟨3, ⟨kind, ar, priv, mid, n, n0, n1, n2, n3, n4, n5, n6, n7⟩, true⟩ rfl) (grown_set (grown_set (World.grownBy.refl w _) 14 _) 0 _))

end Go.Proofs.Ytjjedmmenlfedaa
