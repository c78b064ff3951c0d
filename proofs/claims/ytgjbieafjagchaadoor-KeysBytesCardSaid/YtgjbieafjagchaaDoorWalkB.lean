/- The walk of the keys layer's one byte: (*Reader).one. -/
import Derived.Test.YtgjbieafjagchaaDoorWalkA
namespace Go.Proofs.YtgjbieafjagchaaDoor
open Go.RowKit Go.Lib Keys
set_option maxRecDepth 100000

/-- A reader's block. -/
def Rd (w : World) (r : Nat) (c p : Bool) : Prop := Blk w r 30 #[.bool c, .bool p]

theorem Rd.c0 {w : World} {r : Nat} {c p : Bool} (h : Rd w r c p) : w.cell? ⟨r, 0, none⟩ = some (.bool c) := Blk.cell h 0
theorem Rd.c1 {w : World} {r : Nat} {c p : Bool} (h : Rd w r c p) : w.cell? ⟨r, 1, none⟩ = some (.bool p) := Blk.cell h 1
theorem Rd.f0 {w : World} {r : Nat} {c p : Bool} (h : Rd w r c p) (i : Nat) : w.frozen? ⟨r, i, none⟩ = false := Blk.frozen h i
theorem Rd.sp {w : World} {r : Nat} {c p : Bool} (h : Rd w r c p) (q : Bool) : Rd (w.setCell ⟨r, 1, none⟩ (.bool q)) r c q := Blk.set_ h 1 _
theorem Rd.sc {w : World} {r : Nat} {c p : Bool} (h : Rd w r c p) (q : Bool) : Rd (w.setCell ⟨r, 0, none⟩ (.bool q)) r q p := Blk.set_ h 0 _

/-- What stands behind a callee's call, the result's place laid ahead of it: the reader, the place, the frame. -/
structure Behind (w w1 : World) (r : Nat) (c p : Bool) : Prop where
  rd : Rd w1 r c p
  res : Blk w1 w.heap.size 23 #[.int .i64 0, .int .i64 0, .string ⟨#[]⟩]
  grown : w.grownBy w1 (some r)
  ne : ¬ r = w.heap.size
  ne' : ¬ w.heap.size = r

theorem behind_of (w w1 : World) (r : Nat) (c p q : Bool) (hr : Rd w r c p)
    (hb : Below ((w.setCell ⟨r, 1, none⟩ (.bool q)).alloc (.cells #[.int .i64 0, .int .i64 0, .string ⟨#[]⟩] 23)).heap.size ((w.setCell ⟨r, 1, none⟩ (.bool q)).alloc (.cells #[.int .i64 0, .int .i64 0, .string ⟨#[]⟩] 23)) w1) : Behind w w1 r c q := by
  have hlt : r < w.heap.size := Blk.lt hr
  have hz : (w.setCell ⟨r, 1, none⟩ (.bool q)).heap.size = w.heap.size := by simp
  have h1 : Rd ((w.setCell ⟨r, 1, none⟩ (.bool q)).alloc (.cells #[.int .i64 0, .int .i64 0, .string ⟨#[]⟩] 23)) r c q := Blk.alloc (hr.sp q) _
  have h2 := Blk.new (w.setCell ⟨r, 1, none⟩ (.bool q)) 23 #[.int .i64 0, .int .i64 0, .string ⟨#[]⟩]
  rw [hz] at h2
  have hz2 : ((w.setCell ⟨r, 1, none⟩ (.bool q)).alloc (.cells #[.int .i64 0, .int .i64 0, .string ⟨#[]⟩] 23)).heap.size = w.heap.size + 1 := by simp
  have hg : w.grownBy ((w.setCell ⟨r, 1, none⟩ (.bool q)).alloc (.cells #[.int .i64 0, .int .i64 0, .string ⟨#[]⟩] 23)) (some r) := only_alloc (only_setCell (World.grownBy.refl w _) (.inl rfl) _) _
  refine ⟨Blk.below h1 hb (by omega), Blk.below h2 hb (by omega), ?_, by omega, by omega⟩
  exact ⟨hb.os.trans hg.os, hb.tape.trans hg.tape, hb.output.trans hg.output, Nat.le_trans hg.size hb.size, fun k hk hne => (hb.block k (by omega)).trans (hg.block k hk hne)⟩

/-- The facts on cells that the walk wants behind such a call. -/
theorem Behind.facts {w w1 : World} {r : Nat} {c p : Bool} (h : Behind w w1 r c p) :
    w1.cell? ⟨r, 0, none⟩ = some (.bool c) ∧ w1.cell? ⟨r, 1, none⟩ = some (.bool p) ∧ w1.frozen? ⟨r, 0, none⟩ = false ∧ w1.frozen? ⟨r, 1, none⟩ = false ∧
    w1.cell? ⟨w.heap.size, 0, none⟩ = some (.int .i64 0) ∧ w1.cell? ⟨w.heap.size, 1, none⟩ = some (.int .i64 0) ∧ w1.cell? ⟨w.heap.size, 2, none⟩ = some (.string ⟨#[]⟩) ∧
    w1.frozen? ⟨w.heap.size, 0, none⟩ = false ∧ w1.frozen? ⟨w.heap.size, 1, none⟩ = false ∧ w1.frozen? ⟨w.heap.size, 2, none⟩ = false ∧ (¬ r = w.heap.size) ∧ ¬ w.heap.size = r :=
  ⟨h.rd.c0, h.rd.c1, h.rd.f0 0, h.rd.f0 1, Blk.cell h.res 0, Blk.cell h.res 1, Blk.cell h.res 2, Blk.frozen h.res 0, Blk.frozen h.res 1, Blk.frozen h.res 2, h.ne, h.ne'⟩

/-- A key that is a result: it lies in a block. -/
theorem ret_key {fn : Func} {q : Tmp} {tmps : Array Value} {w : World} {R : Nat} {x y z : Value} (h : fn.results = #[.cell q 23]) (ht : tmps.getD q undef = .pointer (some ⟨R, 0, none⟩)) (hB : Blk w R 23 #[x, y, z]) :
    (results fn tmps).run Tryd.prog w = .ok (.agg #[x, y, z]) w := by
  have v0 : w.cell? ⟨R, 0, none⟩ = some x := Blk.cell hB 0
  have v1 : w.cell? ⟨R, 1, none⟩ = some y := Blk.cell hB 1
  have v2 : w.cell? ⟨R, 2, none⟩ = some z := Blk.cell hB 2
  have ht' : tmps[q]?.getD undef = .pointer (some ⟨R, 0, none⟩) := by simpa using ht
  simp [results, h, go_sem, ht', v0, v1, v2]

theorem Blk.put3 {w : World} {R : Nat} {t : TypeId} {a b c : Value} (h : Blk w R t #[a, b, c]) (x y z : Value) : Blk (((w.setCell ⟨R, 0, none⟩ x).setCell ⟨R, 1, none⟩ y).setCell ⟨R, 2, none⟩ z) R t #[x, y, z] := by
  have := ((h.set_ 0 x).set_ 1 y).set_ 2 z
  simpa using this

theorem Rd.three {w : World} {r R : Nat} {c p : Bool} (h : Rd w r c p) (hne : ¬ r = R) (x y z : Value) : Rd (((w.setCell ⟨R, 0, none⟩ x).setCell ⟨R, 1, none⟩ y).setCell ⟨R, 2, none⟩ z) r c p :=
  Blk.far (p := ⟨R, 2, none⟩) (Blk.far (p := ⟨R, 1, none⟩) (Blk.far (p := ⟨R, 0, none⟩) h hne x) hne y) hne z

theorem grown_three {a w : World} {r R : Nat} (h : a.grownBy w (some r)) (hR : a.heap.size ≤ R) (x y z : Value) : a.grownBy (((w.setCell ⟨R, 0, none⟩ x).setCell ⟨R, 1, none⟩ y).setCell ⟨R, 2, none⟩ z) (some r) :=
  only_setCell (p := ⟨R, 2, none⟩) (only_setCell (p := ⟨R, 1, none⟩) (only_setCell (p := ⟨R, 0, none⟩) h (.inr hR) x) (.inr hR) y) (.inr hR) z

set_option maxHeartbeats 800000 in
/-- Behind 02. -/
theorem one_pre (r : Nat) (c : Bool) (b : UInt8) (w : World) (hr : Rd w r c true) :
    Calls Tryd.prog 15 #[.pointer (some ⟨r, 0, none⟩), .int .u8 b.toNat] w fun e w' =>
      e = .returned (val (one c true b).2.2) ∧ Rd w' r (one c true b).1 (one c true b).2.1 ∧ w.grownBy w' (some r) := by
  have hlt := Blk.lt hr
  have c0 := hr.c0
  have c1 := hr.c1
  have f0 := hr.f0 0
  have f1 := hr.f0 1
  have ho : one c true b = (fin c (cmd b), false, cmd b) := rfl
  rw [ho]
  clear ho
  have hcm := command_any b
  generalize cmd b = k at hcm ⊢
  unfold val at hcm ⊢
  by_cases h14 : k.kind = 14
  · have t14 : (k.kind == 14) = true := by rw [beq_iff_eq]; exact h14
    have hfin : fin c k = true := by unfold fin; rw [if_pos h14]
    rw [hfin]
    clear hfin h14
    go_enter Tryd.func15, Tryd.ntmps15
    go_wp2_with fail
    refine (hcm _).mono ?_
    rintro e w1 ⟨rfl, hb⟩
    have B := behind_of w w1 r c true false hr hb
    obtain ⟨d0, d1, e0, e1, v0, v1, v2, g0, g1, g2, n1, n2⟩ := B.facts
    clear hb hcm
    dsimp only
    go_wp2
    refine bodyPost_ret (v := .agg #[.int .i64 k.kind, .int .i64 k.n, .string k.s]) (ret_key Tryd.results15 rfl ?_) rfl ⟨rfl, ?_, ?_⟩
    · exact Blk.put3 (Blk.far (p := ⟨r, 0, none⟩) (Blk.put3 B.res _ _ _) n2 _) _ _ _
    · exact ((B.rd.three n1 _ _ _).sc true).three n1 _ _ _
    · exact grown_three (only_setCell (grown_three B.grown (Nat.le_refl _) _ _ _) (.inl rfl) _) (Nat.le_refl _) _ _ _
  have t14 : (k.kind == 14) = false := by rw [beq_eq_false_iff_ne]; exact h14
  by_cases h12 : k.kind = 12
  · have t12 : (k.kind == 12) = true := by rw [beq_iff_eq]; exact h12
    have hfin : fin c k = false := by unfold fin; rw [if_neg h14, if_pos h12]
    rw [hfin]
    clear hfin h14 h12
    go_enter Tryd.func15, Tryd.ntmps15
    go_wp2_with fail
    refine (hcm _).mono ?_
    rintro e w1 ⟨rfl, hb⟩
    have B := behind_of w w1 r c true false hr hb
    obtain ⟨d0, d1, e0, e1, v0, v1, v2, g0, g1, g2, n1, n2⟩ := B.facts
    clear hb hcm
    dsimp only
    go_wp2
    refine bodyPost_ret (v := .agg #[.int .i64 k.kind, .int .i64 k.n, .string k.s]) (ret_key Tryd.results15 rfl ?_) rfl ⟨rfl, ?_, ?_⟩
    · exact Blk.put3 (Blk.far (p := ⟨r, 0, none⟩) (Blk.put3 B.res _ _ _) n2 _) _ _ _
    · exact ((B.rd.three n1 _ _ _).sc false).three n1 _ _ _
    · exact grown_three (only_setCell (grown_three B.grown (Nat.le_refl _) _ _ _) (.inl rfl) _) (Nat.le_refl _) _ _ _
  · have t12 : (k.kind == 12) = false := by rw [beq_eq_false_iff_ne]; exact h12
    have hfin : fin c k = c := by unfold fin; rw [if_neg h14, if_neg h12]
    rw [hfin]
    clear hfin h14 h12
    go_enter Tryd.func15, Tryd.ntmps15
    go_wp2_with fail
    refine (hcm _).mono ?_
    rintro e w1 ⟨rfl, hb⟩
    have B := behind_of w w1 r c true false hr hb
    obtain ⟨d0, d1, e0, e1, v0, v1, v2, g0, g1, g2, n1, n2⟩ := B.facts
    clear hb hcm
    dsimp only
    go_wp2
    refine bodyPost_ret (v := .agg #[.int .i64 k.kind, .int .i64 k.n, .string k.s]) (ret_key Tryd.results15 rfl ?_) rfl ⟨rfl, ?_, ?_⟩
    · exact Blk.put3 (Blk.put3 B.res _ _ _) _ _ _
    · exact (B.rd.three n1 _ _ _).three n1 _ _ _
    · exact grown_three (grown_three B.grown (Nat.le_refl _) _ _ _) (Nat.le_refl _) _ _ _

theorem behind_of0 (w w1 : World) (r : Nat) (c p : Bool) (hr : Rd w r c p)
    (hb : Below (w.alloc (.cells #[.int .i64 0, .int .i64 0, .string ⟨#[]⟩] 23)).heap.size (w.alloc (.cells #[.int .i64 0, .int .i64 0, .string ⟨#[]⟩] 23)) w1) : Behind w w1 r c p := by
  have hlt : r < w.heap.size := Blk.lt hr
  have h1 : Rd (w.alloc (.cells #[.int .i64 0, .int .i64 0, .string ⟨#[]⟩] 23)) r c p := Blk.alloc hr _
  have h2 := Blk.new w 23 #[.int .i64 0, .int .i64 0, .string ⟨#[]⟩]
  have hz2 : (w.alloc (.cells #[.int .i64 0, .int .i64 0, .string ⟨#[]⟩] 23)).heap.size = w.heap.size + 1 := by simp
  have hg : w.grownBy (w.alloc (.cells #[.int .i64 0, .int .i64 0, .string ⟨#[]⟩] 23)) (some r) := only_alloc (World.grownBy.refl w _) _
  refine ⟨Blk.below h1 hb (by omega), Blk.below h2 hb (by omega), ?_, by omega, by omega⟩
  exact ⟨hb.os.trans hg.os, hb.tape.trans hg.tape, hb.output.trans hg.output, Nat.le_trans hg.size hb.size, fun k hk hne => (hb.block k (by omega)).trans (hg.block k hk hne)⟩

set_option maxHeartbeats 800000 in
/-- While somebody copies. -/
theorem one_cop (r : Nat) (b : UInt8) (w : World) (hb2 : ¬ b.toNat = 2) (hr : Rd w r true false) :
    Calls Tryd.prog 15 #[.pointer (some ⟨r, 0, none⟩), .int .u8 b.toNat] w fun e w' =>
      e = .returned (val (one true false b).2.2) ∧ Rd w' r (one true false b).1 (one true false b).2.1 ∧ w.grownBy w' (some r) := by
  have hlt := Blk.lt hr
  have c0 := hr.c0
  have c1 := hr.c1
  have f0 := hr.f0 0
  have f1 := hr.f0 1
  have ho : one true false b = (fin true (cop b), false, cop b) := by unfold one; rw [if_neg (by simp), if_neg hb2, if_pos rfl]
  rw [ho]
  clear ho
  have t2 : (((b.toNat : Nat) : Int) == 2) = false := by rw [beq_eq_false_iff_ne]; omega
  clear hb2
  have hcm := copied_any b
  generalize cop b = k at hcm ⊢
  unfold val at hcm ⊢
  by_cases h14 : k.kind = 14
  · have t14 : (k.kind == 14) = true := by rw [beq_iff_eq]; exact h14
    have hfin : fin true k = true := by unfold fin; rw [if_pos h14]
    rw [hfin]
    clear hfin h14
    go_enter Tryd.func15, Tryd.ntmps15
    go_wp2_with fail
    refine (hcm _).mono ?_
    rintro e w1 ⟨rfl, hb⟩
    have B := behind_of0 w w1 r true false hr hb
    obtain ⟨d0, d1, e0, e1, v0, v1, v2, g0, g1, g2, n1, n2⟩ := B.facts
    clear hb hcm
    dsimp only
    go_wp2
    refine bodyPost_ret (v := .agg #[.int .i64 k.kind, .int .i64 k.n, .string k.s]) (ret_key Tryd.results15 rfl ?_) rfl ⟨rfl, ?_, ?_⟩
    · exact Blk.put3 (Blk.far (p := ⟨r, 0, none⟩) (Blk.put3 B.res _ _ _) n2 _) _ _ _
    · exact ((B.rd.three n1 _ _ _).sc true).three n1 _ _ _
    · exact grown_three (only_setCell (grown_three B.grown (Nat.le_refl _) _ _ _) (.inl rfl) _) (Nat.le_refl _) _ _ _
  have t14 : (k.kind == 14) = false := by rw [beq_eq_false_iff_ne]; exact h14
  by_cases h12 : k.kind = 12
  · have t12 : (k.kind == 12) = true := by rw [beq_iff_eq]; exact h12
    have hfin : fin true k = false := by unfold fin; rw [if_neg h14, if_pos h12]
    rw [hfin]
    clear hfin h14 h12
    go_enter Tryd.func15, Tryd.ntmps15
    go_wp2_with fail
    refine (hcm _).mono ?_
    rintro e w1 ⟨rfl, hb⟩
    have B := behind_of0 w w1 r true false hr hb
    obtain ⟨d0, d1, e0, e1, v0, v1, v2, g0, g1, g2, n1, n2⟩ := B.facts
    clear hb hcm
    dsimp only
    go_wp2
    refine bodyPost_ret (v := .agg #[.int .i64 k.kind, .int .i64 k.n, .string k.s]) (ret_key Tryd.results15 rfl ?_) rfl ⟨rfl, ?_, ?_⟩
    · exact Blk.put3 (Blk.far (p := ⟨r, 0, none⟩) (Blk.put3 B.res _ _ _) n2 _) _ _ _
    · exact ((B.rd.three n1 _ _ _).sc false).three n1 _ _ _
    · exact grown_three (only_setCell (grown_three B.grown (Nat.le_refl _) _ _ _) (.inl rfl) _) (Nat.le_refl _) _ _ _
  · have t12 : (k.kind == 12) = false := by rw [beq_eq_false_iff_ne]; exact h12
    have hfin : fin true k = true := by unfold fin; rw [if_neg h14, if_neg h12]
    rw [hfin]
    clear hfin h14 h12
    go_enter Tryd.func15, Tryd.ntmps15
    go_wp2_with fail
    refine (hcm _).mono ?_
    rintro e w1 ⟨rfl, hb⟩
    have B := behind_of0 w w1 r true false hr hb
    obtain ⟨d0, d1, e0, e1, v0, v1, v2, g0, g1, g2, n1, n2⟩ := B.facts
    clear hb hcm
    dsimp only
    go_wp2
    refine bodyPost_ret (v := .agg #[.int .i64 k.kind, .int .i64 k.n, .string k.s]) (ret_key Tryd.results15 rfl ?_) rfl ⟨rfl, ?_, ?_⟩
    · exact Blk.put3 (Blk.put3 B.res _ _ _) _ _ _
    · exact (B.rd.three n1 _ _ _).three n1 _ _ _
    · exact grown_three (grown_three B.grown (Nat.le_refl _) _ _ _) (Nat.le_refl _) _ _ _

set_option maxHeartbeats 800000 in
/-- The byte 02. -/
theorem one_two (r : Nat) (c : Bool) (b : UInt8) (w : World) (hb2 : b.toNat = 2) (hr : Rd w r c false) :
    Calls Tryd.prog 15 #[.pointer (some ⟨r, 0, none⟩), .int .u8 b.toNat] w fun e w' =>
      e = .returned (val (one c false b).2.2) ∧ Rd w' r (one c false b).1 (one c false b).2.1 ∧ w.grownBy w' (some r) := by
  have hlt := Blk.lt hr
  have c0 := hr.c0
  have c1 := hr.c1
  have f0 := hr.f0 0
  have f1 := hr.f0 1
  have ho : one c false b = (c, true, K0) := by unfold one; rw [if_neg (by simp), if_pos hb2]
  rw [ho]
  clear ho
  have t2 : (((b.toNat : Nat) : Int) == 2) = true := by rw [hb2]; rfl
  clear hb2
  unfold val K0
  have n1 : ¬ r = w.heap.size := by omega
  go_enter Tryd.func15, Tryd.ntmps15
  go_wp2
  refine bodyPost_ret (v := .agg #[.int .i64 0, .int .i64 0, .string ⟨#[]⟩]) (ret_key Tryd.results15 rfl ?_) rfl ⟨rfl, ?_, ?_⟩
  · have := Blk.new (w.setCell ⟨r, 1, none⟩ (.bool true)) 23 #[.int .i64 0, .int .i64 0, .string ⟨#[]⟩]
    simpa using this
  · exact Blk.alloc (hr.sp true) _
  · exact only_alloc (only_setCell (World.grownBy.refl w _) (.inl rfl) _) _

set_option maxHeartbeats 800000 in
/-- A text. -/
theorem one_txt (r : Nat) (b : UInt8) (w : World) (hb2 : ¬ b.toNat = 2) (hr : Rd w r false false) :
    Calls Tryd.prog 15 #[.pointer (some ⟨r, 0, none⟩), .int .u8 b.toNat] w fun e w' =>
      e = .returned (val (one false false b).2.2) ∧ Rd w' r (one false false b).1 (one false false b).2.1 ∧ w.grownBy w' (some r) := by
  have hlt := Blk.lt hr
  have c0 := hr.c0
  have c1 := hr.c1
  have f0 := hr.f0 0
  have f1 := hr.f0 1
  have ho : one false false b = (false, false, txt b) := by unfold one; rw [if_neg (by simp), if_neg hb2, if_neg (by simp)]
  rw [ho]
  clear ho
  have t2 : (((b.toNat : Nat) : Int) == 2) = false := by rw [beq_eq_false_iff_ne]; omega
  clear hb2
  unfold val txt
  have n1 : ¬ r = w.heap.size := by omega
  have hcv := str_one b (w.alloc (.cells #[.int .i64 0, .int .i64 0, .string ⟨#[]⟩] 23)) (w.heap.size + 1) (by simp)
  go_enter Tryd.func15, Tryd.ntmps15
  go_wp2
  refine bodyPost_ret (v := .agg #[.int .i64 1, .int .i64 0, .string ⟨#[b]⟩]) (ret_key Tryd.results15 rfl ?_) rfl ⟨rfl, ?_, ?_⟩
  · exact Blk.alloc (Blk.new w _ _) _
  · exact Blk.alloc (Blk.alloc hr _) _
  · exact only_alloc (only_alloc (World.grownBy.refl w _) _) _

/-- ONE BYTE. -/
theorem one_any (r : Nat) (c p : Bool) (b : UInt8) (w : World) (hr : Rd w r c p) :
    Calls Tryd.prog 15 #[.pointer (some ⟨r, 0, none⟩), .int .u8 b.toNat] w fun e w' =>
      e = .returned (val (one c p b).2.2) ∧ Rd w' r (one c p b).1 (one c p b).2.1 ∧ w.grownBy w' (some r) := by
  cases p with
  | true => exact one_pre r c b w hr
  | false =>
    by_cases h : b.toNat = 2
    · exact one_two r c b w h hr
    · cases c with
      | true => exact one_cop r b w h hr
      | false => exact one_txt r b w h hr

end Go.Proofs.YtgjbieafjagchaaDoor
