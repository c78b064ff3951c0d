/- The walks of Pending, Flush. -/
import Derived.Test.YthfgnjdekhfabaaDoorWalkE
namespace Go.Proofs.YthfgnjdekhfabaaDoor
open Go.RowKit Ru
set_option maxRecDepth 100000

/-- A decoder's block: the three bytes that may be kept, and how many are. -/
def Ds (w : World) (d : Nat) (a b c : UInt8) (n : Nat) : Prop := Blk w d 28 #[.int .u8 a.toNat, .int .u8 b.toNat, .int .u8 c.toNat, .int .i64 n]

theorem Pending_any (d : Nat) (a b c : UInt8) (n : Nat) (w : World) (hd : Ds w d a b c n) : Calls Tryd.prog 14 #[.pointer (some ⟨d, 0, none⟩)] w fun e w' => e = .returned (.int .i64 n) ∧ w = w' := by
  have c3 : w.cell? ⟨d, 3, none⟩ = some (.int .i64 n) := Blk.cell hd 3
  clear hd
  go_enter Tryd.func14, Tryd.ntmps14
  go_wp2
  go_ret
  exact ⟨rfl, rfl⟩

/-- What Flush leaves: what was kept is one character that is none, and nothing is kept. -/
def Flushed (w : World) (d : Nat) (a b c : UInt8) (n : Nat) (e : Ending) (w' : World) : Prop :=
  ∃ v, e = .returned v ∧ w'.ownsRow w.heap.size 21 1 v (if n = 0 then 0 else 1) (if n = 0 then [] else [Value.int .i32 65533]) ∧ Ds w' d a b c 0 ∧ w.grownBy w' (some d)

theorem own_one (w : World) (n : Nat) (r : Int) (hn : w.heap.size = n) (base : Nat) (hb : base ≤ n) : (w.alloc (.cells #[.int .i32 r] 21)).ownsRow base 21 1 (.slice (some ⟨n, 0, none⟩) 1 1) 1 [.int .i32 r] := by
  subst hn
  exact ⟨rfl, .inr ⟨w.heap.size, 1, #[.int .i32 r], rfl, hb, Blk.new w _ _, Nat.le_refl _, by unfold maxLen; omega, rfl, rfl⟩⟩

theorem Flush_any (d : Nat) (a b c : UInt8) (n : Nat) (w : World) (hd : Ds w d a b c n) : Calls Tryd.prog 15 #[.pointer (some ⟨d, 0, none⟩)] w (Flushed w d a b c n) := by
  have hlt := Blk.lt hd
  have HP := hide (Pending_any d a b c n w hd)
  have c3 : w.cell? ⟨d, 3, none⟩ = some (.int .i64 n) := Blk.cell hd 3
  have f3 := Blk.frozen hd 3
  have HD := hide hd
  clear hd
  by_cases h0 : n = 0
  · subst h0
    have hf : Flushed w d a b c 0 (.returned (.slice none 0 0)) w := ⟨_, rfl, World.ownsRow_nil _ _ _ _, HD.out, World.grownBy.refl w _⟩
    have HF := hide hf
    clear hf
    go_enter Tryd.func15, Tryd.ntmps15
    go_wp2_with fail
    refine HP.out.mono ?_
    rintro e w' ⟨rfl, rfl⟩
    dsimp only
    go_wp2
    go_ret
    exact HF.out
  · have h1 : ((n : Int) == 0) = false := by rw [beq_eq_false_iff_ne]; omega
    have hs := Blk.set_ (show Blk w d 28 _ from HD.out) 3 (.int .i64 0)
    have hf : Flushed w d a b c n (.returned (.slice (some ⟨w.heap.size, 0, none⟩) 1 1)) ((w.setCell ⟨d, 3, none⟩ (.int .i64 0)).alloc (.cells #[.int .i32 65533] 21)) := by
      refine ⟨_, rfl, ?_, Blk.alloc hs _, only_alloc (only_setCell (p := ⟨d, 3, none⟩) (World.grownBy.refl w _) (.inl rfl) _) _⟩
      rw [if_neg h0, if_neg h0]
      exact own_one _ _ _ (by simp) _ (Nat.le_refl _)
    have HF := hide hf
    clear hf hs h0
    go_enter Tryd.func15, Tryd.ntmps15
    go_wp2_with fail
    refine HP.out.mono ?_
    rintro e w' ⟨rfl, rfl⟩
    dsimp only
    go_wp2
    go_ret
    exact HF.out
end Go.Proofs.YthfgnjdekhfabaaDoor
