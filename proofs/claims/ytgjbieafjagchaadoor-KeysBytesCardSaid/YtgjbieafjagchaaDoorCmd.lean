/- The walks of the document's command, copied. (Printed by gen_cmd.py.) -/
import Derived.Test.YtgjbieafjagchaaDoorMaps
namespace Go.Proofs.YtgjbieafjagchaaDoor
open Go.RowKit Go.Maps
set_option maxRecDepth 100000

def kindsM : List (Int × Int) := [(37, 2), (34, 3), (111, 4), (120, 5), (99, 6), (110, 7), (112, 8), (100, 13), (91, 14)]
def movesM : List (Int × Int) := [(104, 1), (108, 2), (107, 3), (106, 4)]
def turnsM : List (Int × Int) := [(107, 1), (106, (-1)), (117, 10), (100, (-10)), (103, 1000), (71, (-1000))]

/-- What the document's command tells: kind and number. -/
def rcmd (b : Int) : Int × Int := if 0 < lookF kindsM b then (lookF kindsM b, 0) else if 0 < lookF movesM b then (10, lookF movesM b) else if 49 ≤ b ∧ b ≤ 57 then (9, b - 48) else if b = 2 then (1, 0) else (0, 0)
/-- What the document's copied tells. -/
def rcop (b : Int) : Int × Int := if lookF turnsM b ≠ 0 then (11, lookF turnsM b) else if b = 113 then (12, 0) else (0, 0)

/-- What both leave. -/
def Told (w : World) (q : Int × Int) (e : Ending) (w' : World) : Prop := ∃ s, e = .returned (.agg #[.int .i64 q.1, .int .i64 q.2, .string s]) ∧ Below w.heap.size w w'

theorem key_back {w : World} {B : Nat} (h : Blk w B 23 #[.int .i64 0, .int .i64 0, .string ⟨#[]⟩]) (k n : Int) (s : ByteArray) :
    (((w.setCell ⟨B, 0, none⟩ (.int .i64 k)).setCell ⟨B, 1, none⟩ (.int .i64 n)).setCell ⟨B, 2, none⟩ (.string s)).cell? ⟨B, 0, none⟩ = some (.int .i64 k) ∧
    (((w.setCell ⟨B, 0, none⟩ (.int .i64 k)).setCell ⟨B, 1, none⟩ (.int .i64 n)).setCell ⟨B, 2, none⟩ (.string s)).cell? ⟨B, 1, none⟩ = some (.int .i64 n) ∧
    (((w.setCell ⟨B, 0, none⟩ (.int .i64 k)).setCell ⟨B, 1, none⟩ (.int .i64 n)).setCell ⟨B, 2, none⟩ (.string s)).cell? ⟨B, 2, none⟩ = some (.string s) := by
  have hB := Blk.set_ (Blk.set_ (Blk.set_ h 0 (.int .i64 k)) 1 (.int .i64 n)) 2 (.string s)
  exact ⟨Blk.cell hB 0, Blk.cell hB 1, Blk.cell hB 2⟩

set_option maxHeartbeats 1600000 in
theorem commandR_any (b : Nat) (hb : b < 256) (w : World) : Calls Tryd.prog 12 #[.int .u8 b] w (Told w (rcmd b)) := by
  have hmm := @run_makeMap Tryd.prog
  have hb0 : Blk (w.alloc (.cells #[.int .i64 0, .int .i64 0, .string ⟨#[]⟩] 23)) w.heap.size 23 #[.int .i64 0, .int .i64 0, .string ⟨#[]⟩] := Blk.new w _ _
  have HM := hide (map_new (w.alloc (.cells #[.int .i64 0, .int .i64 0, .string ⟨#[]⟩] 23)) (w.heap.size + 1) (by simp))
  obtain ⟨q, hq⟩ : ∃ q, rcmd b = q := ⟨_, rfl⟩
  rw [hq]
  unfold rcmd at hq
  have HQ := hide hq
  have HB0 := hide hb0
  clear hq hb0
  go_enter Tryd.func12, Tryd.ntmps12
  go_wp2_with (refine wpList_insert_own _ rfl _ _ _ 43 rfl 5 3 law5 Tryd.underlying43 _ (w.heap.size + 1) 0 _ rfl HM.out (by unfold maxLen; omega) _ _ _ rfl rfl (keyOf_int_mk Tryd.underlying5 (by decide)) _ [] (plainElem_int Tryd.underlying3 (by decide)) ?_)
  intro pw1 ph1 pg1
  refine wpList_insert_own _ rfl _ _ _ 43 rfl 5 3 law5 Tryd.underlying43 _ (w.heap.size + 1) 1 _ rfl ph1 (by unfold maxLen; omega) _ _ _ rfl rfl (keyOf_int_mk Tryd.underlying5 (by decide)) _ [] (plainElem_int Tryd.underlying3 (by decide)) ?_
  intro pw2 ph2 pg2
  refine wpList_insert_own _ rfl _ _ _ 43 rfl 5 3 law5 Tryd.underlying43 _ (w.heap.size + 1) 2 _ rfl ph2 (by unfold maxLen; omega) _ _ _ rfl rfl (keyOf_int_mk Tryd.underlying5 (by decide)) _ [] (plainElem_int Tryd.underlying3 (by decide)) ?_
  intro pw3 ph3 pg3
  refine wpList_insert_own _ rfl _ _ _ 43 rfl 5 3 law5 Tryd.underlying43 _ (w.heap.size + 1) 3 _ rfl ph3 (by unfold maxLen; omega) _ _ _ rfl rfl (keyOf_int_mk Tryd.underlying5 (by decide)) _ [] (plainElem_int Tryd.underlying3 (by decide)) ?_
  intro pw4 ph4 pg4
  refine wpList_insert_own _ rfl _ _ _ 43 rfl 5 3 law5 Tryd.underlying43 _ (w.heap.size + 1) 4 _ rfl ph4 (by unfold maxLen; omega) _ _ _ rfl rfl (keyOf_int_mk Tryd.underlying5 (by decide)) _ [] (plainElem_int Tryd.underlying3 (by decide)) ?_
  intro pw5 ph5 pg5
  refine wpList_insert_own _ rfl _ _ _ 43 rfl 5 3 law5 Tryd.underlying43 _ (w.heap.size + 1) 5 _ rfl ph5 (by unfold maxLen; omega) _ _ _ rfl rfl (keyOf_int_mk Tryd.underlying5 (by decide)) _ [] (plainElem_int Tryd.underlying3 (by decide)) ?_
  intro pw6 ph6 pg6
  refine wpList_insert_own _ rfl _ _ _ 43 rfl 5 3 law5 Tryd.underlying43 _ (w.heap.size + 1) 6 _ rfl ph6 (by unfold maxLen; omega) _ _ _ rfl rfl (keyOf_int_mk Tryd.underlying5 (by decide)) _ [] (plainElem_int Tryd.underlying3 (by decide)) ?_
  intro pw7 ph7 pg7
  refine wpList_insert_own _ rfl _ _ _ 43 rfl 5 3 law5 Tryd.underlying43 _ (w.heap.size + 1) 7 _ rfl ph7 (by unfold maxLen; omega) _ _ _ rfl rfl (keyOf_int_mk Tryd.underlying5 (by decide)) _ [] (plainElem_int Tryd.underlying3 (by decide)) ?_
  intro pw8 ph8 pg8
  refine wpList_insert_own _ rfl _ _ _ 43 rfl 5 3 law5 Tryd.underlying43 _ (w.heap.size + 1) 8 _ rfl ph8 (by unfold maxLen; omega) _ _ _ rfl rfl (keyOf_int_mk Tryd.underlying5 (by decide)) _ [] (plainElem_int Tryd.underlying3 (by decide)) ?_
  intro pw9 ph9 pg9
  have h1 : pw9.ownsMap (H := Unit) Tryd.prog 5 (plainElem Tryd.prog 3) (w.heap.size + 1) 9 (putAll kindsM) := ph9
  have gT := ((((((((((World.grownBy.refl _ (some (w.heap.size + 1))).trans pg1).trans pg2).trans pg3).trans pg4).trans pg5).trans pg6).trans pg7).trans pg8).trans pg9)
  have HB9 := hide (Blk.grown (Blk.alloc HB0.out (.map #[] 0)) gT (by simp))
  have z9 : w.heap.size + 2 ≤ pw9.heap.size := by have := gT.size; simp at this; omega
  have BW9 := hide ((((Below.refl _ w).alloc (Nat.le_refl _) (.cells #[.int .i64 0, .int .i64 0, .string ⟨#[]⟩] 23)).alloc (by simp) (.map #[] 0)).grown gT (by simp; omega) (fun x hx => by injection hx with hx; omega))
  have H1 := hide h1
  have HM2 := hide (map_new pw9 pw9.heap.size rfl)
  clear h1 gT ph1 pg1 ph2 pg2 ph3 pg3 ph4 pg4 ph5 pg5 ph6 pg6 ph7 pg7 ph8 pg8 ph9 pg9
  go_wp2_with (refine wpList_insert_own _ rfl _ _ _ 43 rfl 5 3 law5 Tryd.underlying43 _ pw9.heap.size 0 _ rfl HM2.out (by unfold maxLen; omega) _ _ _ rfl rfl (keyOf_int_mk Tryd.underlying5 (by decide)) _ [] (plainElem_int Tryd.underlying3 (by decide)) ?_)
  intro qw1 qh1 qg1
  refine wpList_insert_own _ rfl _ _ _ 43 rfl 5 3 law5 Tryd.underlying43 _ pw9.heap.size 1 _ rfl qh1 (by unfold maxLen; omega) _ _ _ rfl rfl (keyOf_int_mk Tryd.underlying5 (by decide)) _ [] (plainElem_int Tryd.underlying3 (by decide)) ?_
  intro qw2 qh2 qg2
  refine wpList_insert_own _ rfl _ _ _ 43 rfl 5 3 law5 Tryd.underlying43 _ pw9.heap.size 2 _ rfl qh2 (by unfold maxLen; omega) _ _ _ rfl rfl (keyOf_int_mk Tryd.underlying5 (by decide)) _ [] (plainElem_int Tryd.underlying3 (by decide)) ?_
  intro qw3 qh3 qg3
  refine wpList_insert_own _ rfl _ _ _ 43 rfl 5 3 law5 Tryd.underlying43 _ pw9.heap.size 3 _ rfl qh3 (by unfold maxLen; omega) _ _ _ rfl rfl (keyOf_int_mk Tryd.underlying5 (by decide)) _ [] (plainElem_int Tryd.underlying3 (by decide)) ?_
  intro qw4 qh4 qg4
  have h2 : qw4.ownsMap (H := Unit) Tryd.prog 5 (plainElem Tryd.prog 3) pw9.heap.size 4 (putAll movesM) := qh4
  have gT := (((((World.grownBy.refl _ (some pw9.heap.size)).trans qg1).trans qg2).trans qg3).trans qg4)
  have hb1 : Blk qw4 w.heap.size 23 #[.int .i64 0, .int .i64 0, .string ⟨#[]⟩] := Blk.grown (Blk.alloc HB9.out (.map #[] 0)) gT (by intro e; injection e with e; omega)
  have h1 := (H1.out.alloc (.map #[] 0)).kept gT (by intro e; injection e with e; omega)
  have hbw := (BW9.out.alloc (by omega) (.map #[] 0)).grown gT (by simp; omega) (fun x hx => by injection hx with hx; omega)
  have l1 := map_look h1 (b : Int) (by omega) (by omega)
  have l2 := map_look h2 (b : Int) (by omega) (by omega)
  have c0 := Blk.cell hb1 0
  have c1 := Blk.cell hb1 1
  have c2 := Blk.cell hb1 2
  have g0 := Blk.frozen hb1 0
  have g1 := Blk.frozen hb1 1
  have g2 := Blk.frozen hb1 2
  have HBW := hide hbw
  have HB1 := hide hb1
  clear h1 h2 gT hb1 hbw HM HM2 HB0 HB9 BW9 H1 qh1 qg1 qh2 qg2 qh3 qg3 qh4 qg4
  generalize lookF kindsM b = x at l1 HQ
  generalize lookF movesM b = y at l2 HQ
  by_cases hx : 0 < x
  · have e := HQ.out
    rw [if_pos hx] at e
    subst e
    go_wp2
    obtain ⟨k0, k1, k2⟩ := key_back HB1.out x 0 ⟨#[]⟩
    refine bodyPost_ret (v := .agg #[.int .i64 x, .int .i64 0, .string ⟨#[]⟩]) (by simp [results, Tryd.results12, go_sem, k0, k1, k2]) rfl ⟨_, rfl, ?_⟩
    exact ((HBW.out.setCell (p := ⟨w.heap.size, 0, none⟩) (Nat.le_refl _) _).setCell (p := ⟨w.heap.size, 1, none⟩) (Nat.le_refl _) _).setCell (p := ⟨w.heap.size, 2, none⟩) (Nat.le_refl _) _
  · by_cases hy : 0 < y
    · have e := HQ.out
      rw [if_neg hx, if_pos hy] at e
      subst e
      go_wp2
      obtain ⟨k0, k1, k2⟩ := key_back HB1.out 10 y ⟨#[]⟩
      refine bodyPost_ret (v := .agg #[.int .i64 10, .int .i64 y, .string ⟨#[]⟩]) (by simp [results, Tryd.results12, go_sem, k0, k1, k2]) rfl ⟨_, rfl, ?_⟩
      exact ((HBW.out.setCell (p := ⟨w.heap.size, 0, none⟩) (Nat.le_refl _) _).setCell (p := ⟨w.heap.size, 1, none⟩) (Nat.le_refl _) _).setCell (p := ⟨w.heap.size, 2, none⟩) (Nat.le_refl _) _
    · by_cases h9 : (49 : Int) ≤ b ∧ (b : Int) ≤ 57
      · have e := HQ.out
        rw [if_neg hx, if_neg hy, if_pos h9] at e
        subst e
        obtain ⟨h91, h92⟩ := h9
        go_wp2
        obtain ⟨k0, k1, k2⟩ := key_back HB1.out 9 ((b : Int) - 48) ⟨#[]⟩
        refine bodyPost_ret (v := .agg #[.int .i64 9, .int .i64 ((b : Int) - 48), .string ⟨#[]⟩]) (by simp [results, Tryd.results12, go_sem, k0, k1, k2]) rfl ⟨_, rfl, ?_⟩
        exact ((HBW.out.setCell (p := ⟨w.heap.size, 0, none⟩) (Nat.le_refl _) _).setCell (p := ⟨w.heap.size, 1, none⟩) (Nat.le_refl _) _).setCell (p := ⟨w.heap.size, 2, none⟩) (Nat.le_refl _) _
      · by_cases h2 : (b : Int) = 2
        · have e := HQ.out
          rw [if_neg hx, if_neg hy, if_neg h9, if_pos h2] at e
          subst e
          have h2' : ((b : Int) == 2) = true := by rw [beq_iff_eq]; exact h2
          have ha : ¬ (49 : Int) ≤ b := by omega
          clear h2 h9
          go_wp2
          obtain ⟨k0, k1, k2⟩ := key_back HB1.out 1 0 ⟨#[2]⟩
          refine bodyPost_ret (v := .agg #[.int .i64 1, .int .i64 0, .string ⟨#[2]⟩]) (by simp [results, Tryd.results12, go_sem, k0, k1, k2]) rfl ⟨_, rfl, ?_⟩
          exact ((HBW.out.setCell (p := ⟨w.heap.size, 0, none⟩) (Nat.le_refl _) _).setCell (p := ⟨w.heap.size, 1, none⟩) (Nat.le_refl _) _).setCell (p := ⟨w.heap.size, 2, none⟩) (Nat.le_refl _) _
        · have e := HQ.out
          rw [if_neg hx, if_neg hy, if_neg h9, if_neg h2] at e
          subst e
          have h2' : ((b : Int) == 2) = false := by rw [beq_eq_false_iff_ne]; exact h2
          by_cases ha : (49 : Int) ≤ b
          · have hc : ¬ (b : Int) ≤ 57 := fun h => h9 ⟨ha, h⟩
            clear h9
            go_wp2
            obtain ⟨k0, k1, k2⟩ := key_back HB1.out 0 0 ⟨#[]⟩
            refine bodyPost_ret (v := .agg #[.int .i64 0, .int .i64 0, .string ⟨#[]⟩]) (by simp [results, Tryd.results12, go_sem, k0, k1, k2]) rfl ⟨_, rfl, ?_⟩
            exact ((HBW.out.setCell (p := ⟨w.heap.size, 0, none⟩) (Nat.le_refl _) _).setCell (p := ⟨w.heap.size, 1, none⟩) (Nat.le_refl _) _).setCell (p := ⟨w.heap.size, 2, none⟩) (Nat.le_refl _) _
          · clear h9
            go_wp2
            obtain ⟨k0, k1, k2⟩ := key_back HB1.out 0 0 ⟨#[]⟩
            refine bodyPost_ret (v := .agg #[.int .i64 0, .int .i64 0, .string ⟨#[]⟩]) (by simp [results, Tryd.results12, go_sem, k0, k1, k2]) rfl ⟨_, rfl, ?_⟩
            exact ((HBW.out.setCell (p := ⟨w.heap.size, 0, none⟩) (Nat.le_refl _) _).setCell (p := ⟨w.heap.size, 1, none⟩) (Nat.le_refl _) _).setCell (p := ⟨w.heap.size, 2, none⟩) (Nat.le_refl _) _

set_option maxHeartbeats 1600000 in
theorem copiedR_any (b : Nat) (hb : b < 256) (w : World) : Calls Tryd.prog 13 #[.int .u8 b] w (Told w (rcop b)) := by
  have hmm := @run_makeMap Tryd.prog
  have hb0 : Blk (w.alloc (.cells #[.int .i64 0, .int .i64 0, .string ⟨#[]⟩] 23)) w.heap.size 23 #[.int .i64 0, .int .i64 0, .string ⟨#[]⟩] := Blk.new w _ _
  have HM := hide (map_new (w.alloc (.cells #[.int .i64 0, .int .i64 0, .string ⟨#[]⟩] 23)) (w.heap.size + 1) (by simp))
  obtain ⟨q, hq⟩ : ∃ q, rcop b = q := ⟨_, rfl⟩
  rw [hq]
  unfold rcop at hq
  have HQ := hide hq
  have HB0 := hide hb0
  clear hq hb0
  go_enter Tryd.func13, Tryd.ntmps13
  go_wp2_with (refine wpList_insert_own _ rfl _ _ _ 43 rfl 5 3 law5 Tryd.underlying43 _ (w.heap.size + 1) 0 _ rfl HM.out (by unfold maxLen; omega) _ _ _ rfl rfl (keyOf_int_mk Tryd.underlying5 (by decide)) _ [] (plainElem_int Tryd.underlying3 (by decide)) ?_)
  intro pw1 ph1 pg1
  refine wpList_insert_own _ rfl _ _ _ 43 rfl 5 3 law5 Tryd.underlying43 _ (w.heap.size + 1) 1 _ rfl ph1 (by unfold maxLen; omega) _ _ _ rfl rfl (keyOf_int_mk Tryd.underlying5 (by decide)) _ [] (plainElem_int Tryd.underlying3 (by decide)) ?_
  intro pw2 ph2 pg2
  refine wpList_insert_own _ rfl _ _ _ 43 rfl 5 3 law5 Tryd.underlying43 _ (w.heap.size + 1) 2 _ rfl ph2 (by unfold maxLen; omega) _ _ _ rfl rfl (keyOf_int_mk Tryd.underlying5 (by decide)) _ [] (plainElem_int Tryd.underlying3 (by decide)) ?_
  intro pw3 ph3 pg3
  refine wpList_insert_own _ rfl _ _ _ 43 rfl 5 3 law5 Tryd.underlying43 _ (w.heap.size + 1) 3 _ rfl ph3 (by unfold maxLen; omega) _ _ _ rfl rfl (keyOf_int_mk Tryd.underlying5 (by decide)) _ [] (plainElem_int Tryd.underlying3 (by decide)) ?_
  intro pw4 ph4 pg4
  refine wpList_insert_own _ rfl _ _ _ 43 rfl 5 3 law5 Tryd.underlying43 _ (w.heap.size + 1) 4 _ rfl ph4 (by unfold maxLen; omega) _ _ _ rfl rfl (keyOf_int_mk Tryd.underlying5 (by decide)) _ [] (plainElem_int Tryd.underlying3 (by decide)) ?_
  intro pw5 ph5 pg5
  refine wpList_insert_own _ rfl _ _ _ 43 rfl 5 3 law5 Tryd.underlying43 _ (w.heap.size + 1) 5 _ rfl ph5 (by unfold maxLen; omega) _ _ _ rfl rfl (keyOf_int_mk Tryd.underlying5 (by decide)) _ [] (plainElem_int Tryd.underlying3 (by decide)) ?_
  intro pw6 ph6 pg6
  have h1 : pw6.ownsMap (H := Unit) Tryd.prog 5 (plainElem Tryd.prog 3) (w.heap.size + 1) 6 (putAll turnsM) := ph6
  have gT := (((((((World.grownBy.refl _ (some (w.heap.size + 1))).trans pg1).trans pg2).trans pg3).trans pg4).trans pg5).trans pg6)
  have hb1 : Blk pw6 w.heap.size 23 #[.int .i64 0, .int .i64 0, .string ⟨#[]⟩] := Blk.grown (Blk.alloc HB0.out (.map #[] 0)) gT (by simp)
  have hbw := (((Below.refl _ w).alloc (Nat.le_refl _) (.cells #[.int .i64 0, .int .i64 0, .string ⟨#[]⟩] 23)).alloc (by simp) (.map #[] 0)).grown gT (by simp; omega) (fun x hx => by injection hx with hx; omega)
  have l1 := map_look h1 (b : Int) (by omega) (by omega)
  have c0 := Blk.cell hb1 0
  have c1 := Blk.cell hb1 1
  have c2 := Blk.cell hb1 2
  have g0 := Blk.frozen hb1 0
  have g1 := Blk.frozen hb1 1
  have g2 := Blk.frozen hb1 2
  have HBW := hide hbw
  have HB1 := hide hb1
  clear h1 gT hb1 hbw HM HB0 ph1 pg1 ph2 pg2 ph3 pg3 ph4 pg4 ph5 pg5 ph6 pg6
  generalize lookF turnsM b = x at l1 HQ
  by_cases hx : x = 0
  · subst hx
    by_cases h2 : (b : Int) = 113
    · have e := HQ.out
      rw [if_neg (by simp), if_pos h2] at e
      subst e
      have h2' : ((b : Int) == 113) = true := by rw [beq_iff_eq]; exact h2
      clear h2
      go_wp2
      obtain ⟨k0, k1, k2⟩ := key_back HB1.out 12 0 ⟨#[]⟩
      refine bodyPost_ret (v := .agg #[.int .i64 12, .int .i64 0, .string ⟨#[]⟩]) (by simp [results, Tryd.results13, go_sem, k0, k1, k2]) rfl ⟨_, rfl, ?_⟩
      exact ((HBW.out.setCell (p := ⟨w.heap.size, 0, none⟩) (Nat.le_refl _) _).setCell (p := ⟨w.heap.size, 1, none⟩) (Nat.le_refl _) _).setCell (p := ⟨w.heap.size, 2, none⟩) (Nat.le_refl _) _
    · have e := HQ.out
      rw [if_neg (by simp), if_neg h2] at e
      subst e
      have h2' : ((b : Int) == 113) = false := by rw [beq_eq_false_iff_ne]; exact h2
      go_wp2
      obtain ⟨k0, k1, k2⟩ := key_back HB1.out 0 0 ⟨#[]⟩
      refine bodyPost_ret (v := .agg #[.int .i64 0, .int .i64 0, .string ⟨#[]⟩]) (by simp [results, Tryd.results13, go_sem, k0, k1, k2]) rfl ⟨_, rfl, ?_⟩
      exact ((HBW.out.setCell (p := ⟨w.heap.size, 0, none⟩) (Nat.le_refl _) _).setCell (p := ⟨w.heap.size, 1, none⟩) (Nat.le_refl _) _).setCell (p := ⟨w.heap.size, 2, none⟩) (Nat.le_refl _) _
  · have e := HQ.out
    rw [if_pos hx] at e
    subst e
    have hx' : (x != 0) = true := by rw [bne_iff_ne]; exact hx
    have hx2 : (x == 0) = false := by rw [beq_eq_false_iff_ne]; exact hx
    go_wp2
    obtain ⟨k0, k1, k2⟩ := key_back HB1.out 11 x ⟨#[]⟩
    refine bodyPost_ret (v := .agg #[.int .i64 11, .int .i64 x, .string ⟨#[]⟩]) (by simp [results, Tryd.results13, go_sem, k0, k1, k2]) rfl ⟨_, rfl, ?_⟩
    exact ((HBW.out.setCell (p := ⟨w.heap.size, 0, none⟩) (Nat.le_refl _) _).setCell (p := ⟨w.heap.size, 1, none⟩) (Nat.le_refl _) _).setCell (p := ⟨w.heap.size, 2, none⟩) (Nat.le_refl _) _
end Go.Proofs.YtgjbieafjagchaaDoor
