/- The walks of (*Parser).Step, Idle, Reset. -/
import Derived.Test.YtjjedmmenlfedaaWalkE
namespace Go.Proofs.Ytjjedmmenlfedaa
open Go.RowKit Esc
set_option maxRecDepth 100000

theorem ret_act2 {fn : Func} {q u : Tmp} {tmps : Array Value} {w : World} {R : Nat} {a : A} {x : Bool} (h : fn.results = #[.cell q 28, .tmp u]) (ht : tmps.getD q undef = .pointer (some ⟨R, 0, none⟩)) (hu : tmps.getD u undef = .bool x) (hB : Blk w R 28 (acts a)) :
    (results fn tmps).run Try.prog w = .ok (.tuple #[aval a, .bool x]) w := by
  have ht' : tmps[q]?.getD undef = .pointer (some ⟨R, 0, none⟩) := by simpa using ht
  have hu' : tmps[u]?.getD undef = .bool x := by simpa using hu
  have v0 : w.cell? ⟨R, 0, none⟩ = some (.int .i64 a.kind) := Blk.cell hB 0
  have v1 : w.cell? ⟨R, 1, none⟩ = some (.int .i32 a.r) := Blk.cell hB 1
  have v2 : w.cell? ⟨R, 2, none⟩ = some (.int .u8 a.priv) := Blk.cell hB 2
  have v3 : w.cell? ⟨R, 3, none⟩ = some (.int .u8 a.mid) := Blk.cell hB 3
  have v4 : w.cell? ⟨R, 4, none⟩ = some (.int .i64 a.n) := Blk.cell hB 4
  have v5 : w.cell? ⟨R, 5, none⟩ = some (.int .i64 a.n0) := Blk.cell hB 5
  have v6 : w.cell? ⟨R, 6, none⟩ = some (.int .i64 a.n1) := Blk.cell hB 6
  have v7 : w.cell? ⟨R, 7, none⟩ = some (.int .i64 a.n2) := Blk.cell hB 7
  have v8 : w.cell? ⟨R, 8, none⟩ = some (.int .i64 a.n3) := Blk.cell hB 8
  have v9 : w.cell? ⟨R, 9, none⟩ = some (.int .i64 a.n4) := Blk.cell hB 9
  have v10 : w.cell? ⟨R, 10, none⟩ = some (.int .i64 a.n5) := Blk.cell hB 10
  have v11 : w.cell? ⟨R, 11, none⟩ = some (.int .i64 a.n6) := Blk.cell hB 11
  have v12 : w.cell? ⟨R, 12, none⟩ = some (.int .i64 a.n7) := Blk.cell hB 12
  simp [results, h, go_sem, ht', hu', v0, v1, v2, v3, v4, v5, v6, v7, v8, v9, v10, v11, v12, aval, acts]

/-- What Step leaves. -/
def Steps (w : World) (b : Nat) (q : P × A) (e : Ending) (w' : World) : Prop := e = .returned (.tuple #[aval q.2, .bool (q.2.kind != 0)]) ∧ Ps w' b q.1 ∧ w.grownBy w' (some b)

set_option maxHeartbeats 1600000 in
theorem Step_any (b : Nat) (p : P) (r : Int) (w : World) (hp : Ps w b p) (hok : Ok p) :
    Calls Try.prog 10 #[.pointer (some ⟨b, 0, none⟩), .int .i32 r] w (Steps w b (stp p r)) := by
  have hlt := Blk.lt hp
  have hne : ¬ b = w.heap.size := by omega
  have hcall := fun wx hx => step_any b p r wx hx hok
  generalize stp p r = q at hcall ⊢
  obtain ⟨p', a'⟩ := q
  have HP := hide hp
  have HC := hide hcall
  clear hp hok hcall
  go_enter Try.func10, Try.ntmps10
  go_wp2_with fail
  refine (HC.out _ (Blk.alloc HP.out _)).mono ?_
  rintro e w1 ⟨rfl, hp1, hg1⟩
  have HB := hide (behind_of HP.out rfl (World.grownBy.refl w _) hp1 hg1)
  obtain ⟨v0, v1, v2, v3, v4, v5, v6, v7, v8, v9, v10, v11, v12, z0, z1, z2, z3, z4, z5, z6, z7, z8, z9, z10, z11, z12, ne1, ne2⟩ := HB.out.facts
  have hs1 : w.heap.size < w1.heap.size := Blk.lt HB.out.res
  have hs2 : ¬ w.heap.size = w1.heap.size := by omega
  clear hp1 hg1
  unfold aval acts
  dsimp only
  go_wp2
  go_region
  go_wp2
  rw [putAct_eq]
  have x1 := putAct_res (a := a') HB.out.res
  have x2 := putAct_far (R := w.heap.size) (a := a') (show Blk w1 b 30 (pcells p') from HB.out.ps) HB.out.ne
  have x3 := putAct_grown (R := w.heap.size) (a := a') HB.out.grown (Nat.le_refl _)
  generalize putAct w1 w.heap.size a' = w2 at x1 x2 x3 ⊢
  exact bodyPost_ret (v := .tuple #[aval a', .bool (a'.kind != 0)]) (ret_act2 Try.results10 rfl rfl (Blk.drew (Blk.alloc x1 _))) rfl ⟨rfl, Blk.drew (Blk.alloc x2 _), only_drew (only_alloc x3 _)⟩

theorem Idle_any (b : Nat) (p : P) (w : World) (hp : Ps w b p) : Calls Try.prog 13 #[.pointer (some ⟨b, 0, none⟩)] w fun e w' => e = .returned (.bool (p.inn == 0)) ∧ w = w' := by
  have c0 : w.cell? ⟨b, 0, none⟩ = some (.int .i64 p.inn) := Blk.cell hp 0
  go_enter Try.func13, Try.ntmps13
  go_wp2
  go_ret
  exact ⟨rfl, rfl⟩

/-- A parser made new. -/
def putNew (w : World) (b : Nat) : World := ((((((((((((((w.setCell ⟨b, 0, none⟩ (.int .i64 0)).setCell ⟨b, 1, none⟩ (.int .i64 0)).setCell ⟨b, 2, none⟩ (.int .i32 0)).setCell ⟨b, 3, none⟩ (.int .u8 0)).setCell ⟨b, 4, none⟩ (.int .u8 0)).setCell ⟨b, 5, none⟩ (.int .i64 0)).setCell ⟨b, 6, none⟩ (.int .i64 0)).setCell ⟨b, 7, none⟩ (.int .i64 0)).setCell ⟨b, 8, none⟩ (.int .i64 0)).setCell ⟨b, 9, none⟩ (.int .i64 0)).setCell ⟨b, 10, none⟩ (.int .i64 0)).setCell ⟨b, 11, none⟩ (.int .i64 0)).setCell ⟨b, 12, none⟩ (.int .i64 0)).setCell ⟨b, 13, none⟩ (.int .i64 0)).setCell ⟨b, 14, none⟩ (.bool false)
theorem putNew_eq (w : World) (b : Nat) : ((((((((((((((w.setCell ⟨b, 0, none⟩ (.int .i64 0)).setCell ⟨b, 1, none⟩ (.int .i64 0)).setCell ⟨b, 2, none⟩ (.int .i32 0)).setCell ⟨b, 3, none⟩ (.int .u8 0)).setCell ⟨b, 4, none⟩ (.int .u8 0)).setCell ⟨b, 5, none⟩ (.int .i64 0)).setCell ⟨b, 6, none⟩ (.int .i64 0)).setCell ⟨b, 7, none⟩ (.int .i64 0)).setCell ⟨b, 8, none⟩ (.int .i64 0)).setCell ⟨b, 9, none⟩ (.int .i64 0)).setCell ⟨b, 10, none⟩ (.int .i64 0)).setCell ⟨b, 11, none⟩ (.int .i64 0)).setCell ⟨b, 12, none⟩ (.int .i64 0)).setCell ⟨b, 13, none⟩ (.int .i64 0)).setCell ⟨b, 14, none⟩ (.bool false) = putNew w b := rfl
theorem putNew_ps {w : World} {b : Nat} {p : P} (h : Ps w b p) : Ps (putNew w b) b P0 := by
  have h0 := Blk.set_ (show Blk w b 30 (pcells p) from h) 0 (.int .i64 0)
  have h1 := Blk.set_ h0 1 (.int .i64 0)
  have h2 := Blk.set_ h1 2 (.int .i32 0)
  have h3 := Blk.set_ h2 3 (.int .u8 0)
  have h4 := Blk.set_ h3 4 (.int .u8 0)
  have h5 := Blk.set_ h4 5 (.int .i64 0)
  have h6 := Blk.set_ h5 6 (.int .i64 0)
  have h7 := Blk.set_ h6 7 (.int .i64 0)
  have h8 := Blk.set_ h7 8 (.int .i64 0)
  have h9 := Blk.set_ h8 9 (.int .i64 0)
  have h10 := Blk.set_ h9 10 (.int .i64 0)
  have h11 := Blk.set_ h10 11 (.int .i64 0)
  have h12 := Blk.set_ h11 12 (.int .i64 0)
  have h13 := Blk.set_ h12 13 (.int .i64 0)
  have h14 := Blk.set_ h13 14 (.bool false)
  have e : (((((((((((((((pcells p).setIfInBounds 0 (.int .i64 0)).setIfInBounds 1 (.int .i64 0)).setIfInBounds 2 (.int .i32 0)).setIfInBounds 3 (.int .u8 0)).setIfInBounds 4 (.int .u8 0)).setIfInBounds 5 (.int .i64 0)).setIfInBounds 6 (.int .i64 0)).setIfInBounds 7 (.int .i64 0)).setIfInBounds 8 (.int .i64 0)).setIfInBounds 9 (.int .i64 0)).setIfInBounds 10 (.int .i64 0)).setIfInBounds 11 (.int .i64 0)).setIfInBounds 12 (.int .i64 0)).setIfInBounds 13 (.int .i64 0)).setIfInBounds 14 (.bool false) = pcells P0 := by simp [pcells, P0, A0]
  rw [e] at h14
  unfold putNew
  exact h14
theorem putNew_grown {a w : World} {b : Nat} (h : a.grownBy w (some b)) : a.grownBy (putNew w b) (some b) := by
  have h0 := grown_set h 0 (.int .i64 0)
  have h1 := grown_set h0 1 (.int .i64 0)
  have h2 := grown_set h1 2 (.int .i32 0)
  have h3 := grown_set h2 3 (.int .u8 0)
  have h4 := grown_set h3 4 (.int .u8 0)
  have h5 := grown_set h4 5 (.int .i64 0)
  have h6 := grown_set h5 6 (.int .i64 0)
  have h7 := grown_set h6 7 (.int .i64 0)
  have h8 := grown_set h7 8 (.int .i64 0)
  have h9 := grown_set h8 9 (.int .i64 0)
  have h10 := grown_set h9 10 (.int .i64 0)
  have h11 := grown_set h10 11 (.int .i64 0)
  have h12 := grown_set h11 12 (.int .i64 0)
  have h13 := grown_set h12 13 (.int .i64 0)
  have h14 := grown_set h13 14 (.bool false)
  unfold putNew
  exact h14

set_option maxHeartbeats 1600000 in
theorem Reset_any (b : Nat) (p : P) (w : World) (hp : Ps w b p) : Calls Try.prog 14 #[.pointer (some ⟨b, 0, none⟩)] w fun e w' => e = .returned (.tuple #[]) ∧ Ps w' b P0 ∧ w.grownBy w' (some b) := by
  have c0 : w.cell? ⟨b, 0, none⟩ = some (.int .i64 p.inn) := Blk.cell hp 0
  have c1 : w.cell? ⟨b, 1, none⟩ = some (.int .i64 p.act.kind) := Blk.cell hp 1
  have c2 : w.cell? ⟨b, 2, none⟩ = some (.int .i32 p.act.r) := Blk.cell hp 2
  have c3 : w.cell? ⟨b, 3, none⟩ = some (.int .u8 p.act.priv) := Blk.cell hp 3
  have c4 : w.cell? ⟨b, 4, none⟩ = some (.int .u8 p.act.mid) := Blk.cell hp 4
  have c5 : w.cell? ⟨b, 5, none⟩ = some (.int .i64 p.act.n) := Blk.cell hp 5
  have c6 : w.cell? ⟨b, 6, none⟩ = some (.int .i64 p.act.n0) := Blk.cell hp 6
  have c7 : w.cell? ⟨b, 7, none⟩ = some (.int .i64 p.act.n1) := Blk.cell hp 7
  have c8 : w.cell? ⟨b, 8, none⟩ = some (.int .i64 p.act.n2) := Blk.cell hp 8
  have c9 : w.cell? ⟨b, 9, none⟩ = some (.int .i64 p.act.n3) := Blk.cell hp 9
  have c10 : w.cell? ⟨b, 10, none⟩ = some (.int .i64 p.act.n4) := Blk.cell hp 10
  have c11 : w.cell? ⟨b, 11, none⟩ = some (.int .i64 p.act.n5) := Blk.cell hp 11
  have c12 : w.cell? ⟨b, 12, none⟩ = some (.int .i64 p.act.n6) := Blk.cell hp 12
  have c13 : w.cell? ⟨b, 13, none⟩ = some (.int .i64 p.act.n7) := Blk.cell hp 13
  have c14 : w.cell? ⟨b, 14, none⟩ = some (.bool p.any) := Blk.cell hp 14
  have f0 := Blk.frozen hp 0
  have f1 := Blk.frozen hp 1
  have f2 := Blk.frozen hp 2
  have f3 := Blk.frozen hp 3
  have f4 := Blk.frozen hp 4
  have f5 := Blk.frozen hp 5
  have f6 := Blk.frozen hp 6
  have f7 := Blk.frozen hp 7
  have f8 := Blk.frozen hp 8
  have f9 := Blk.frozen hp 9
  have f10 := Blk.frozen hp 10
  have f11 := Blk.frozen hp 11
  have f12 := Blk.frozen hp 12
  have f13 := Blk.frozen hp 13
  have f14 := Blk.frozen hp 14
  have HP := hide hp
  clear hp
  go_enter Try.func14, Try.ntmps14
  go_wp2
  rw [putNew_eq]
  have x1 := putNew_ps HP.out
  have x2 := putNew_grown (World.grownBy.refl w (some b))
  generalize putNew w b = w2 at x1 x2 ⊢
  go_end0
  exact ⟨rfl, x1, x2⟩
end Go.Proofs.Ytjjedmmenlfedaa
