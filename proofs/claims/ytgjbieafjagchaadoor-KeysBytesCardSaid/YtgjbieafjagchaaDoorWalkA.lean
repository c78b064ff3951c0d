/- The walks of the keys layer's small functions: what a byte means behind 02, and while somebody copies. -/
import Derived.Test.YtgjbieafjagchaaDoorRows
import Derived.Test.YtgjbieafjagchaaDoorPlain
import Derived.Test.YtgjbieafjagchaaDoorWords
import Derived.WalkLawsBesides
import Derived.Outline
import Derived.BigQuiet
namespace Go.Proofs.YtgjbieafjagchaaDoor
open Go.RowKit Go.Lib Keys
set_option maxRecDepth 100000

/-- A key as a value. -/
def val (k : K) : Value := .agg #[.int .i64 k.kind, .int .i64 k.n, .string k.s]

theorem bcell {W w1 : World} (hb : Below W.heap.size W w1) : (∀ b o, b < W.heap.size → w1.cell? ⟨b, o, none⟩ = W.cell? ⟨b, o, none⟩) ∧ (∀ b o, b < W.heap.size → w1.frozen? ⟨b, o, none⟩ = W.frozen? ⟨b, o, none⟩) :=
  ⟨fun b o h => hb.cell (p := ⟨b, o, none⟩) h, fun b o h => hb.frozen (p := ⟨b, o, none⟩) h⟩

theorem IndexByteString_run (s : ByteArray) (c : Int) (w : World) : (callFunc 39 #[.string s, .int .u8 c]).run Tryd.prog w = .ok (.value (.int .i64 (Lib.indexByte s.data.toList c.toNat.toUInt8))) w := by
  rw [run_callFunc_extern Tryd.func39 (by kernel_rfl) (by kernel_rfl) (by kernel_rfl) (e := Extern.BytealgIndexByte.indexByte) (by kernel_rfl), Lib.run_indexByteString]
  rfl

theorem IndexByte_any (s : ByteArray) (c : Int) (w : World) : Calls Tryd.prog 26 #[.string s, .int .u8 c] w fun e w' => e = .returned (.int .i64 (Lib.indexByte s.data.toList c.toNat.toUInt8)) ∧ w = w' := by
  have h := IndexByteString_run s c
  go_enter Tryd.func26, Tryd.ntmps26
  go_wp2
  go_ret
  exact ⟨rfl, rfl⟩

theorem steps_any (w : World) : Calls Tryd.prog 10 #[] w fun e w' => e = .returned (.agg #[.int .i64 1, .int .i64 (-1), .int .i64 10, .int .i64 (-10), .int .i64 1000, .int .i64 (-1000)]) ∧ Below w.heap.size w w' := by
  go_enter Tryd.func10, Tryd.ntmps10
  go_wp2
  refine bodyPost_ret (v := .agg #[.int .i64 1, .int .i64 (-1), .int .i64 10, .int .i64 (-10), .int .i64 1000, .int .i64 (-1000)]) (by simp [results, Tryd.results10, go_sem]) rfl ⟨rfl, ?_⟩
  exact (Below.refl _ _).alloc (Nat.le_refl _) _

theorem kinds_any (w : World) : Calls Tryd.prog 17 #[] w fun e w' => e = .returned (.agg #[.int .i64 2, .int .i64 3, .int .i64 4, .int .i64 5, .int .i64 6, .int .i64 7, .int .i64 8, .int .i64 13, .int .i64 14]) ∧ Below w.heap.size w w' := by
  go_enter Tryd.func17, Tryd.ntmps17
  go_wp2
  refine bodyPost_ret (v := .agg #[.int .i64 2, .int .i64 3, .int .i64 4, .int .i64 5, .int .i64 6, .int .i64 7, .int .i64 8, .int .i64 13, .int .i64 14]) (by simp [results, Tryd.results17, go_sem]) rfl ⟨rfl, ?_⟩
  exact (Below.refl _ _).alloc (Nat.le_refl _) _

theorem index_steps (i : Int) (h0 : 0 ≤ i) (h1 : i < 6) (w : World) : (Instr.index 35 (.agg #[.int .i64 1, .int .i64 (-1), .int .i64 10, .int .i64 (-10), .int .i64 1000, .int .i64 (-1000)]) (.int .i64 i)).run Tryd.prog w = .ok (.int .i64 (stepsL.getD i.toNat 0)) w := by
  obtain ⟨n, rfl⟩ := Int.eq_ofNat_of_zero_le h0
  have hn : n = 0 ∨ n = 1 ∨ n = 2 ∨ n = 3 ∨ n = 4 ∨ n = 5 := by omega
  rcases hn with rfl | rfl | rfl | rfl | rfl | rfl <;> (show _ = _; kernel_rfl)

theorem index_kinds (i : Int) (h0 : 0 ≤ i) (h1 : i < 9) (w : World) : (Instr.index 41 (.agg #[.int .i64 2, .int .i64 3, .int .i64 4, .int .i64 5, .int .i64 6, .int .i64 7, .int .i64 8, .int .i64 13, .int .i64 14]) (.int .i64 i)).run Tryd.prog w = .ok (.int .i64 (kindsL.getD i.toNat 0)) w := by
  obtain ⟨n, rfl⟩ := Int.eq_ofNat_of_zero_le h0
  have hn : n = 0 ∨ n = 1 ∨ n = 2 ∨ n = 3 ∨ n = 4 ∨ n = 5 ∨ n = 6 ∨ n = 7 ∨ n = 8 := by omega
  rcases hn with rfl | rfl | rfl | rfl | rfl | rfl | rfl | rfl | rfl <;> (show _ = _; kernel_rfl)

/-- 'string([]byte{b})', its array laid in the block g. -/
theorem str_one (b : UInt8) (W : World) (g : Nat) (hg : g = W.heap.size) :
    (convert 34 9 (.slice (some ⟨g, 0, none⟩) 1 1)).run Tryd.prog (W.alloc (.cells #[.int .u8 b.toNat] 5)) = .ok (.string ⟨#[b]⟩) (W.alloc (.cells #[.int .u8 b.toNat] 5)) := by
  subst hg
  exact run_convert_bytes_back (P := Tryd.prog) _ 34 9 5 ⟨W.heap.size, 0, none⟩ 1 [b] Tryd.underlying34 Tryd.underlying5 Tryd.underlying9 (fun j hj => by
    obtain rfl : j = 0 := by simpa using hj
    exact cell_of_one (heap_alloc_new W _))

theorem idx_lt (l : List UInt8) (b : UInt8) : Lib.indexByte l b < l.length := by
  induction l with
  | nil => simp [Lib.indexByte]
  | cons a r ih =>
    simp only [Lib.indexByte, List.length_cons]
    split
    · omega
    · split <;> omega

set_option maxHeartbeats 400000 in
theorem copied_any (b : UInt8) (w : World) : Calls Tryd.prog 19 #[.int .u8 b.toNat] w fun e w' => e = .returned (val (cop b)) ∧ Below w.heap.size w w' := by
  by_cases h : 0 ≤ Lib.indexByte turnsL b
  · have hx := index_steps (Lib.indexByte turnsL b) h (idx_lt turnsL b)
    have hv : val (cop b) = .agg #[.int .i64 11, .int .i64 (stepsL.getD (Lib.indexByte turnsL b).toNat 0), .string ⟨#[]⟩] := by unfold cop; rw [if_pos h]; rfl
    rw [hv]
    clear hv
    revert hx h
    unfold turnsL
    intro h hx
    go_enter Tryd.func19, Tryd.ntmps19
    go_wp2_with (first | (go_at_call 26; refine (IndexByte_any _ _ _).mono ?_; rintro e w' ⟨rfl, rfl⟩) | (go_at_call 10; refine (steps_any _).mono ?_; rintro e w' ⟨rfl, hb⟩; obtain ⟨hc, hf⟩ := bcell hb))
    refine bodyPost_ret (v := .agg #[.int .i64 11, .int .i64 (stepsL.getD (Lib.indexByte [107, 106, 117, 100, 103, 71] b).toNat 0), .string ⟨#[]⟩]) (by simp [results, Tryd.results19, go_sem, hc]) rfl ⟨rfl, ?_⟩
    exact (((((Below.refl _ w).alloc (Nat.le_refl _) _).trans (hb.mono (by simp))).setCell (Nat.le_refl _) _).setCell (Nat.le_refl _) _).setCell (Nat.le_refl _) _
  · by_cases h2 : b.toNat = 113
    · have hv : val (cop b) = .agg #[.int .i64 12, .int .i64 0, .string ⟨#[]⟩] := by unfold cop; rw [if_neg h, if_pos h2]; rfl
      rw [hv]
      clear hv
      have h3 : (((b.toNat : Nat) : Int) == 113) = true := by rw [h2]; rfl
      revert h
      unfold turnsL
      intro h
      clear h2
      go_enter Tryd.func19, Tryd.ntmps19
      go_wp2_with (first | (go_at_call 26; refine (IndexByte_any _ _ _).mono ?_; rintro e w' ⟨rfl, rfl⟩))
      refine bodyPost_ret (v := .agg #[.int .i64 12, .int .i64 0, .string ⟨#[]⟩]) (by simp [results, Tryd.results19, go_sem]) rfl ⟨rfl, ?_⟩
      exact (Below.refl _ w).alloc (Nat.le_refl _) _
    · have hv : val (cop b) = .agg #[.int .i64 0, .int .i64 0, .string ⟨#[]⟩] := by unfold cop; rw [if_neg h, if_neg h2]; rfl
      rw [hv]
      clear hv
      have h3 : (((b.toNat : Nat) : Int) == 113) = false := by rw [beq_eq_false_iff_ne]; omega
      revert h
      unfold turnsL
      intro h
      clear h2
      go_enter Tryd.func19, Tryd.ntmps19
      go_wp2_with (first | (go_at_call 26; refine (IndexByte_any _ _ _).mono ?_; rintro e w' ⟨rfl, rfl⟩))
      refine bodyPost_ret (v := .agg #[.int .i64 0, .int .i64 0, .string ⟨#[]⟩]) (by simp [results, Tryd.results19, go_sem]) rfl ⟨rfl, ?_⟩
      exact (Below.refl _ w).alloc (Nat.le_refl _) _

set_option maxHeartbeats 400000 in
theorem command_any (b : UInt8) (w : World) : Calls Tryd.prog 18 #[.int .u8 b.toNat] w fun e w' => e = .returned (val (cmd b)) ∧ Below w.heap.size w w' := by
  by_cases h : 0 ≤ Lib.indexByte marksL b
  · have hx := index_kinds (Lib.indexByte marksL b) h (idx_lt marksL b)
    have hv : val (cmd b) = .agg #[.int .i64 (kindsL.getD (Lib.indexByte marksL b).toNat 0), .int .i64 0, .string ⟨#[]⟩] := by unfold cmd; rw [if_pos h]; rfl
    rw [hv]
    clear hv
    revert hx h
    unfold marksL
    intro h hx
    go_enter Tryd.func18, Tryd.ntmps18
    go_wp2_with (first | (go_at_call 26; refine (IndexByte_any _ _ _).mono ?_; rintro e w' ⟨rfl, rfl⟩) | (go_at_call 17; refine (kinds_any _).mono ?_; rintro e w' ⟨rfl, hb⟩; obtain ⟨hc, hf⟩ := bcell hb))
    refine bodyPost_ret (v := .agg #[.int .i64 (kindsL.getD (Lib.indexByte [37, 34, 111, 120, 99, 110, 112, 100, 91] b).toNat 0), .int .i64 0, .string ⟨#[]⟩]) (by simp [results, Tryd.results18, go_sem, hc]) rfl ⟨rfl, ?_⟩
    exact (((((Below.refl _ w).alloc (Nat.le_refl _) _).trans (hb.mono (by simp))).setCell (Nat.le_refl _) _).setCell (Nat.le_refl _) _).setCell (Nat.le_refl _) _
  · by_cases h2 : 0 ≤ Lib.indexByte movesL b
    · have hv : val (cmd b) = .agg #[.int .i64 10, .int .i64 (Lib.indexByte movesL b + 1), .string ⟨#[]⟩] := by unfold cmd; rw [if_neg h, if_pos h2]; rfl
      rw [hv]
      clear hv
      have h4 := idx_lt movesL b
      revert h h2 h4
      unfold marksL movesL
      intro h h2 h4
      have h5 : Lib.indexByte [104, 108, 107, 106] b < 4 := h4
      clear h4
      go_enter Tryd.func18, Tryd.ntmps18
      go_wp2_with (first | (go_at_call 26; refine (IndexByte_any _ _ _).mono ?_; rintro e w' ⟨rfl, rfl⟩))
      refine bodyPost_ret (v := .agg #[.int .i64 10, .int .i64 (Lib.indexByte [104, 108, 107, 106] b + 1), .string ⟨#[]⟩]) (by simp [results, Tryd.results18, go_sem]) rfl ⟨rfl, ?_⟩
      exact (Below.refl _ w).alloc (Nat.le_refl _) _
    · by_cases h3 : 49 ≤ b.toNat ∧ b.toNat ≤ 57
      · have hv : val (cmd b) = .agg #[.int .i64 9, .int .i64 ((b.toNat : Int) - 48), .string ⟨#[]⟩] := by unfold cmd; rw [if_neg h, if_neg h2, if_pos h3]; rfl
        rw [hv]
        clear hv
        obtain ⟨h4, h5⟩ := h3
        revert h h2
        unfold marksL movesL
        intro h h2
        go_enter Tryd.func18, Tryd.ntmps18
        go_wp2_with (first | (go_at_call 26; refine (IndexByte_any _ _ _).mono ?_; rintro e w' ⟨rfl, rfl⟩))
        refine bodyPost_ret (v := .agg #[.int .i64 9, .int .i64 ((b.toNat : Int) - 48), .string ⟨#[]⟩]) (by simp [results, Tryd.results18, go_sem]) rfl ⟨rfl, ?_⟩
        exact (Below.refl _ w).alloc (Nat.le_refl _) _
      · have h6 : (decide ((49 : Int) ≤ (b.toNat : Int)) && decide ((b.toNat : Int) ≤ 57)) = false := by
          rw [Bool.and_eq_false_iff]; simp only [decide_eq_false_iff_not]; omega
        by_cases h4 : b.toNat = 2
        · have hv : val (cmd b) = .agg #[.int .i64 1, .int .i64 0, .string ⟨#[b]⟩] := by unfold cmd; rw [if_neg h, if_neg h2, if_neg h3, if_pos h4]; rfl
          rw [hv]
          clear hv
          have h5 : (((b.toNat : Nat) : Int) == 2) = true := by rw [h4]; rfl
          have h7 : (b.toNat : Int) < 49 := by omega
          clear h3 h4 h6
          revert h h2
          unfold marksL movesL
          intro h h2
          have hcv := str_one b (w.alloc (.cells #[.int .i64 0, .int .i64 0, .string ⟨#[]⟩] 23)) (w.heap.size + 1) (by simp)
          go_enter Tryd.func18, Tryd.ntmps18
          go_wp2_with (first | (go_at_call 26; refine (IndexByte_any _ _ _).mono ?_; rintro e w' ⟨rfl, rfl⟩))
          refine bodyPost_ret (v := .agg #[.int .i64 1, .int .i64 0, .string ⟨#[b]⟩]) (by simp [results, Tryd.results18, go_sem]) rfl ⟨rfl, ?_⟩
          exact ((Below.refl _ w).alloc (Nat.le_refl _) _).alloc (by simp) _
        · have hv : val (cmd b) = .agg #[.int .i64 0, .int .i64 0, .string ⟨#[]⟩] := by unfold cmd; rw [if_neg h, if_neg h2, if_neg h3, if_neg h4]; rfl
          rw [hv]
          clear hv
          have h5 : (((b.toNat : Nat) : Int) == 2) = false := by rw [beq_eq_false_iff_ne]; omega
          revert h h2
          unfold marksL movesL
          intro h h2
          clear h4 h6
          rcases (show (b.toNat : Int) < 49 ∨ (57 : Int) < b.toNat from by omega) with h7 | h7
          · clear h3
            go_enter Tryd.func18, Tryd.ntmps18
            go_wp2_with (first | (go_at_call 26; refine (IndexByte_any _ _ _).mono ?_; rintro e w' ⟨rfl, rfl⟩))
            refine bodyPost_ret (v := .agg #[.int .i64 0, .int .i64 0, .string ⟨#[]⟩]) (by simp [results, Tryd.results18, go_sem]) rfl ⟨rfl, ?_⟩
            exact (Below.refl _ w).alloc (Nat.le_refl _) _
          · clear h3
            have h8 : (49 : Int) ≤ b.toNat := by omega
            go_enter Tryd.func18, Tryd.ntmps18
            go_wp2_with (first | (go_at_call 26; refine (IndexByte_any _ _ _).mono ?_; rintro e w' ⟨rfl, rfl⟩))
            refine bodyPost_ret (v := .agg #[.int .i64 0, .int .i64 0, .string ⟨#[]⟩]) (by simp [results, Tryd.results18, go_sem]) rfl ⟨rfl, ?_⟩
            exact (Below.refl _ w).alloc (Nat.le_refl _) _
end Go.Proofs.YtgjbieafjagchaaDoor
