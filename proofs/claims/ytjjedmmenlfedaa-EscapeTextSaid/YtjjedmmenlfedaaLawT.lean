/- The law EscapeText, walked. -/
import Derived.Test.YtjjedmmenlfedaaLawE
import Derived.OpenShut
namespace Go.Proofs.Ytjjedmmenlfedaa
open Go.RowKit Go.Lib Esc
set_option maxRecDepth 100000

/-- In a text. -/
def P4 : P := ⟨4, A0, false⟩
theorem ok4 : Ok P4 := by constructor <;> simp [P4, A0, Small]
def printed (r : Int) : A := ⟨1, r, 0, 0, 0, 0, 0, 0, 0, 0, 0, 0, 0⟩

theorem text_p (r : Int) (h1 : ¬ r < 32) (h2 : ¬ (127 ≤ r ∧ r ≤ 159)) (h3 : ¬ 1114111 < r) : stp P0 r = (P0, printed r) := by
  unfold stp other
  rw [if_neg (by omega), if_neg (by omega), if_neg (by omega), if_neg (by omega), if_neg (by omega), if_neg (by omega), if_pos (by rfl)]
  rfl
theorem text_q (r : Int) (h1 : ¬ r < 32) (h2 : ¬ (127 ≤ r ∧ r ≤ 159)) (h3 : ¬ 1114111 < r) : stp P4 r = (P4, A0) := by
  unfold stp other
  rw [if_neg (by omega), if_neg (by omega), if_neg (by omega), if_neg (by omega), if_neg (by omega), if_neg (by omega), if_neg (by decide), if_neg (by decide), if_neg (by decide), if_neg (by intro h; exact absurd h.1 (by decide))]

theorem begun (r : Int) (h : r = 80 ∨ r = 88 ∨ r = 93 ∨ r = 94 ∨ r = 95) : feed P0 [27, r] = (P4, []) := by
  rcases h with rfl | rfl | rfl | rfl | rfl <;> rfl

theorem src_two (w : World) (n : Nat) (r s : Int) (hn : w.heap.size = n) : Src (w.alloc (.cells #[.int .i32 r, .int .i32 s] 21)) (· = n) (.slice (some ⟨n, 0, none⟩) 2 2) [r, s] := by
  subst hn
  refine ⟨some ⟨w.heap.size, 0, none⟩, 2, rfl, Nat.le_refl _, fun _ => ⟨w.heap.size, 0, rfl, by simp, rfl, fun j hj => ?_⟩⟩
  have hB := Blk.new w 21 #[.int .i32 r, .int .i32 s]
  match j, hj with
  | 0, _ => exact Blk.cell hB 0
  | 1, _ => exact Blk.cell hB 1

theorem tmod5 (a : Int) : ∃ k : Nat, (a.tmod 5 + 5) % 5 = (k : Int) ∧ k < 5 ∧ -5 < a.tmod 5 ∧ a.tmod 5 < 5 := by
  have h := Int.tmod_lt_of_pos a (b := 5) (by omega)
  have h2 := Int.lt_tmod_of_pos a (b := 5) (by omega)
  exact ⟨((a.tmod 5 + 5) % 5).toNat, by omega, by omega, by omega, by omega⟩

/-- Two parsers, and the frame. -/
structure Two (w : World) (n : Nat) (pa pb : P) (wx : World) : Prop where
  a : Ps wx n pa
  b : Ps wx (n + 1) pb
  bel : Below w.heap.size w wx
  up : w.heap.size ≤ n
theorem Two.turn_a {w wx wy : World} {n : Nat} {pa pb q : P} (h : Two w n pa pb wx) (hp : Ps wy n q) (hg : wx.grownBy wy (some n)) : Two w n q pb wy :=
  ⟨hp, Blk.grown h.b hg (by intro e; injection e with e; omega), h.bel.grown hg h.bel.size (fun k hk => by injection hk with hk; have := h.up; omega), h.up⟩
theorem Two.turn_b {w wx wy : World} {n : Nat} {pa pb q : P} (h : Two w n pa pb wx) (hp : Ps wy (n + 1) q) (hg : wx.grownBy wy (some (n + 1))) : Two w n pa q wy :=
  ⟨Blk.grown h.a hg (by intro e; injection e with e; omega), hp, h.bel.grown hg h.bel.size (fun k hk => by injection hk with hk; have := h.up; omega), h.up⟩
theorem Two.alloc {w wx : World} {n : Nat} {pa pb : P} (h : Two w n pa pb wx) (o : Obj) : Two w n pa pb (wx.alloc o) :=
  ⟨Blk.alloc h.a o, Blk.alloc h.b o, h.bel.alloc h.bel.size o, h.up⟩
theorem Two.start {w w1 : World} (h : Below w.heap.size w w1) : Two w w1.heap.size P0 P0 ((w1.alloc (.cells (pcells P0) 30)).alloc (.cells (pcells P0) 30)) := by
  have e1 : (w1.alloc (.cells (pcells P0) 30)).heap.size = w1.heap.size + 1 := by simp
  have b1 : Below w.heap.size w (w1.alloc (.cells (pcells P0) 30)) := h.alloc h.size _
  have hb := Blk.new (w1.alloc (.cells (pcells P0) 30)) 30 (pcells P0)
  rw [e1] at hb
  exact ⟨Blk.alloc (Blk.new w1 _ _) _, hb, b1.alloc b1.size _, h.size⟩

theorem Step_p (b : Nat) (r : Int) (w : World) (hp : Ps w b P0) (h1 : ¬ r < 32) (h2 : ¬ (127 ≤ r ∧ r ≤ 159)) (h3 : ¬ 1114111 < r) :
    Calls Try.prog 10 #[.pointer (some ⟨b, 0, none⟩), .int .i32 r] w fun e w' => e = .returned (.tuple #[aval (printed r), .bool true]) ∧ Ps w' b P0 ∧ w.grownBy w' (some b) := by
  have h := Step_any b P0 r w hp ok0
  rw [text_p r h1 h2 h3] at h
  exact h
theorem Step_q (b : Nat) (r : Int) (w : World) (hp : Ps w b P4) (h1 : ¬ r < 32) (h2 : ¬ (127 ≤ r ∧ r ≤ 159)) (h3 : ¬ 1114111 < r) :
    Calls Try.prog 10 #[.pointer (some ⟨b, 0, none⟩), .int .i32 r] w fun e w' => e = .returned (.tuple #[aval A0, .bool false]) ∧ Ps w' b P4 ∧ w.grownBy w' (some b) := by
  have h := Step_any b P4 r w hp ok4
  rw [text_q r h1 h2 h3] at h
  exact h

theorem Idle_q (b : Nat) (w : World) (hp : Ps w b P4) : Calls Try.prog 13 #[.pointer (some ⟨b, 0, none⟩)] w fun e w' => e = .returned (.bool false) ∧ w = w' := Idle_any b P4 w hp
theorem Idle_p (b : Nat) (w : World) (hp : Ps w b P0) : Calls Try.prog 13 #[.pointer (some ⟨b, 0, none⟩)] w fun e w' => e = .returned (.bool true) ∧ w = w' := Idle_any b P0 w hp

theorem start_at (k : Nat) (hk : k < [Value.int .i32 80, Value.int .i32 88, Value.int .i32 93, Value.int .i32 94, Value.int .i32 95].length) :
    ∃ r : Int, [Value.int .i32 80, Value.int .i32 88, Value.int .i32 93, Value.int .i32 94, Value.int .i32 95][k] = .int .i32 r ∧ (r = 80 ∨ r = 88 ∨ r = 93 ∨ r = 94 ∨ r = 95) := by
  match k, hk with
  | 0, _ => exact ⟨80, rfl, by simp⟩
  | 1, _ => exact ⟨88, rfl, by simp⟩
  | 2, _ => exact ⟨93, rfl, by simp⟩
  | 3, _ => exact ⟨94, rfl, by simp⟩
  | 4, _ => exact ⟨95, rfl, by simp⟩

/-- Step at 7, at 'a', behind a text. -/
theorem bell_q : stp P4 7 = (⟨0, A0, false⟩, A0) := by rfl
theorem a_q : stp ⟨0, A0, false⟩ 97 = (⟨0, A0, false⟩, printed 97) := by rfl

set_option maxHeartbeats 1600000 in
theorem law_T (v0 : Value) (zs : List Int) (bg : Int) (w : World) (h0 : Src w (· < w.heap.size) v0 zs) (hw : (Lit.int .i64 bg).wf = true) :
    Calls Try.prog 5 #[v0, .int .i64 bg] w fun e w' => e = .returned (.bool true) ∧ Below w.heap.size w w' := by
  have hbd := bounds_i64 hw
  have hS60 : (zs.take 60).length ≤ 60 := List.length_take_le _ _
  obtain ⟨S, hS⟩ : ∃ S, S = zs.take 60 := ⟨_, rfl⟩
  rw [← hS] at hS60
  obtain ⟨m, hm, hm5, tb1, tb2⟩ := tmod5 bg
  obtain ⟨r0, hst, hr0⟩ := start_at m hm5
  go_enter Try.func5, Try.ntmps5
  go_wp2_with fail
  refine (awake_any _).mono ?_
  rintro e w1 ⟨rfl, hb1⟩
  dsimp only
  go_wp2_with fail
  refine (few_any _ zs v0 _ (h0.below hb1)).mono ?_
  rintro e w1' ⟨vS, rfl, rfl, sS⟩
  rw [← hS] at sS
  obtain ⟨AS, cS, rfl, hcapS, hcS⟩ := id sS
  have T1 := Two.start hb1
  clear hS
  have hn := T1.up
  dsimp only
  go_wp2_with fail
  refine (Feed_any (w1.heap.size + 1) P0 [27, r0] _ _ (Blk.alloc (Blk.alloc T1.b _) _) ok0 _ (src_two _ _ 27 r0 (by simp)) (by omega) (by simp)).mono ?_
  rintro e w2 ⟨v2, rfl, _, p2, g2⟩
  rw [begun r0 hr0] at p2
  have T2 : Two w w1.heap.size P0 P4 w2 := ((T1.alloc _).alloc _).turn_b p2 g2
  have HS := hide (fun wx (h : Below w.heap.size w wx) => sS.two hb1 h)
  clear T1 p2 g2 hb1 hst hr0 hm hm5 tb1 tb2 hbd hw h0
  clear sS
  dsimp only
  go_wp2_with fail
  go_loopw [10] (fun i wr => ∃ k : Nat, k ≤ S.length ∧ i = .int .i64 k ∧ Two w w1.heap.size P0 P4 wr) (fun i _ => S.length - (intOf i).toNat)
  case atStart => exact ⟨0, Nat.zero_le _, rfl, T2⟩
  case round =>
    obtain ⟨k, hk, rfl, hT⟩ := hrel
    by_cases hlk : k < S.length
    · obtain ⟨g, off, rfl, hg, hc1⟩ := (HS.out wr hT.bel).at_ k hlk
      generalize S[k] = r at hc1
      have HT := hide hT
      clear hT
      by_cases h1 : r < 32
      · go_wp2
        go_roundw
        case rel => exact ⟨k + 1, by omega, by go_num, HT.out⟩
        case measure => simp [intOf]; omega
      · by_cases h2 : 127 ≤ r
        · by_cases h3 : r ≤ 159
          · go_wp2
            go_roundw
            case rel => exact ⟨k + 1, by omega, by go_num, HT.out⟩
            case measure => simp [intOf]; omega
          · have h3' : 159 < r := by omega
            by_cases h4 : 1114111 < r
            · go_wp2
              go_roundw
              case rel => exact ⟨k + 1, by omega, by go_num, HT.out⟩
              case measure => simp [intOf]; omega
            · have h5 : ¬ (127 ≤ r ∧ r ≤ 159) := by omega
              have HP := hide (Step_p w1.heap.size r wr HT.out.a h1 h5 h4)
              have HQ := hide (fun wx hx => Step_q (w1.heap.size + 1) r wx hx h1 h5 h4)
              go_wp2_with fail
              refine HP.out.mono ?_
              rintro e w3 ⟨rfl, p3, g3⟩
              have T3 := HT.out.turn_a p3 g3
              have hlt3 := Blk.lt T3.b
              unfold aval printed acts
              dsimp only
              go_wp2_with fail
              refine (HQ.out _ (Blk.alloc T3.b _)).mono ?_
              rintro e w4 ⟨rfl, p4, g4⟩
              have T4 := (T3.alloc _).turn_b p4 g4
              have hB : Blk w4 w3.heap.size 28 (acts (printed r)) := Blk.grown (Blk.new w3 28 (acts (printed r))) g4 (by intro h; injection h with h; omega)
              have d0 : w4.cell? ⟨w3.heap.size, 0, none⟩ = some (.int .i64 1) := Blk.cell hB 0
              have d1 : w4.cell? ⟨w3.heap.size, 1, none⟩ = some (.int .i32 r) := Blk.cell hB 1
              have d4 : w4.cell? ⟨w3.heap.size, 4, none⟩ = some (.int .i64 0) := Blk.cell hB 4
              have hb4 := Blk.lt hB
              have T5 := T4.alloc (.cells (acts A0) 28)
              have hI1 := Idle_q (w1.heap.size + 1) _ T5.b
              have hI2 := Idle_p w1.heap.size _ T5.a
              unfold acts A0 at hI1 hI2
              dsimp only at hI1 hI2
              have HT5 := hide T5
              clear T3 T4 T5 hB p3 g3 p4 g4
              unfold aval acts A0
              dsimp only
              go_wp2_with (first
                | (go_at_call 13; (with_reducible refine hI1.mono ?_); rintro e w' ⟨rfl, rfl⟩)
                | (go_at_call 13; (with_reducible refine hI2.mono ?_); rintro e w' ⟨rfl, rfl⟩))
              go_roundw
              case rel => exact ⟨k + 1, by omega, by go_num, HT5.out⟩
              case measure => simp [intOf]; omega
        · have h2' : r < 127 := by omega
          by_cases h4 : 1114111 < r
          · go_wp2
            go_roundw
            case rel => exact ⟨k + 1, by omega, by go_num, HT.out⟩
            case measure => simp [intOf]; omega
          · have h5 : ¬ (127 ≤ r ∧ r ≤ 159) := by omega
            have HP := hide (Step_p w1.heap.size r wr HT.out.a h1 h5 h4)
            have HQ := hide (fun wx hx => Step_q (w1.heap.size + 1) r wx hx h1 h5 h4)
            go_wp2_with fail
            refine HP.out.mono ?_
            rintro e w3 ⟨rfl, p3, g3⟩
            have T3 := HT.out.turn_a p3 g3
            have hlt3 := Blk.lt T3.b
            unfold aval printed acts
            dsimp only
            go_wp2_with fail
            refine (HQ.out _ (Blk.alloc T3.b _)).mono ?_
            rintro e w4 ⟨rfl, p4, g4⟩
            have T4 := (T3.alloc _).turn_b p4 g4
            have hB : Blk w4 w3.heap.size 28 (acts (printed r)) := Blk.grown (Blk.new w3 28 (acts (printed r))) g4 (by intro h; injection h with h; omega)
            have d0 : w4.cell? ⟨w3.heap.size, 0, none⟩ = some (.int .i64 1) := Blk.cell hB 0
            have d1 : w4.cell? ⟨w3.heap.size, 1, none⟩ = some (.int .i32 r) := Blk.cell hB 1
            have d4 : w4.cell? ⟨w3.heap.size, 4, none⟩ = some (.int .i64 0) := Blk.cell hB 4
            have hb4 := Blk.lt hB
            have T5 := T4.alloc (.cells (acts A0) 28)
            have hI1 := Idle_q (w1.heap.size + 1) _ T5.b
            have hI2 := Idle_p w1.heap.size _ T5.a
            unfold acts A0 at hI1 hI2
            dsimp only at hI1 hI2
            have HT5 := hide T5
            clear T3 T4 T5 hB p3 g3 p4 g4
            unfold aval acts A0
            dsimp only
            go_wp2_with (first
              | (go_at_call 13; (with_reducible refine hI1.mono ?_); rintro e w' ⟨rfl, rfl⟩)
              | (go_at_call 13; (with_reducible refine hI2.mono ?_); rintro e w' ⟨rfl, rfl⟩))
            go_roundw
            case rel => exact ⟨k + 1, by omega, by go_num, HT5.out⟩
            case measure => simp [intOf]; omega
    · have hS7 := Step_any (w1.heap.size + 1) P4 7 wr hT.b ok4
      rw [bell_q] at hS7
      have ok7 : Ok ⟨0, A0, false⟩ := ok0
      have H7 := hide hS7
      clear hS7
      go_wp2_with fail
      refine H7.out.mono ?_
      rintro e w3 ⟨rfl, p3, g3⟩
      have T3 := (hT.turn_b p3 g3).alloc (.cells (acts A0) 28)
      have hS9 := Step_any (w1.heap.size + 1) _ 97 _ T3.b ok7
      rw [a_q] at hS9
      have H9 := hide hS9
      have HT3 := hide T3
      clear hS9 p3 g3 T3
      unfold aval acts A0
      dsimp only
      go_wp2_with fail
      refine H9.out.mono ?_
      rintro e w4 ⟨rfl, p4, g4⟩
      have T4 := (HT3.out.turn_b p4 g4).alloc (.cells (acts (printed 97)) 28)
      have HT4 := hide T4
      clear T4 p4 g4
      unfold aval acts printed
      dsimp only
      go_wp2
      go_ret
      exact ⟨rfl, HT4.out.bel⟩
end Go.Proofs.Ytjjedmmenlfedaa
