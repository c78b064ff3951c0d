/- The walk of (*Decoder).Feed. -/
import Derived.Test.YthfgnjdekhfabaaDoorWalkF
import Derived.Deep.RegionLaw
import Derived.Laws.IdiomStrings
import Derived.Lib.BufferWrite
namespace Go.Proofs.YthfgnjdekhfabaaDoor
open Go.RowKit Ru
set_option maxRecDepth 100000

/-- The bytes that are kept. -/
def keptL (a b c : UInt8) (n : Nat) : List UInt8 := [a, b, c].take n

theorem kept_conv (d : Nat) (a b c : UInt8) (n : Nat) (w : World) (hd : Ds w d a b c n) (hn : n ≤ 3) :
    (convert 48 9 (.slice (some ⟨d, 0, none⟩) n 3)).run Tryd.prog w = .ok (.string ⟨(keptL a b c n).toArray⟩) w := by
  match n, hn with
  | 0, _ => exact run_convert_bytes_back (P := Tryd.prog) w 48 9 5 ⟨d, 0, none⟩ 3 [] Tryd.underlying48 Tryd.underlying5 Tryd.underlying9 (fun j hj => by
    match j, hj with
    | _, h => exact absurd h (by simp)
    )
  | 1, _ => exact run_convert_bytes_back (P := Tryd.prog) w 48 9 5 ⟨d, 0, none⟩ 3 [a] Tryd.underlying48 Tryd.underlying5 Tryd.underlying9 (fun j hj => by
    match j, hj with
    | 0, _ => exact Blk.cell hd 0
    )
  | 2, _ => exact run_convert_bytes_back (P := Tryd.prog) w 48 9 5 ⟨d, 0, none⟩ 3 [a, b] Tryd.underlying48 Tryd.underlying5 Tryd.underlying9 (fun j hj => by
    match j, hj with
    | 0, _ => exact Blk.cell hd 0
    | 1, _ => exact Blk.cell hd 1
    )
  | 3, _ => exact run_convert_bytes_back (P := Tryd.prog) w 48 9 5 ⟨d, 0, none⟩ 3 [a, b, c] Tryd.underlying48 Tryd.underlying5 Tryd.underlying9 (fun j hj => by
    match j, hj with
    | 0, _ => exact Blk.cell hd 0
    | 1, _ => exact Blk.cell hd 1
    | 2, _ => exact Blk.cell hd 2
    )

theorem grown_setRow {w0 w : World} {g : Nat} (h : w0.grownBy w (some g)) (cs : Array Value) : w0.grownBy (w.setRow g cs) (some g) :=
  ⟨h.os, h.tape, h.output, by rw [setRow_size]; exact h.size, fun k hk hne => (setRow_other w g k cs (fun e => hne (by rw [e]))).trans (h.block k hk hne)⟩

/-- What is left is copied into the array. -/
structure Copied (w w3 : World) (d n : Nat) (l : ByteArray) (a b c : UInt8) : Prop where
  ds : Ds w3 d a b c n
  grown : w.grownBy w3 (some d)
  kept : keptL a b c l.size = l.data.toList

theorem copy_left (d : Nat) (a b c : UInt8) (n : Nat) (l : ByteArray) (w : World) (hd : Ds w d a b c n) (hl : l.size ≤ 3) :
    ∃ (w3 : World) (a' b' c' : UInt8), (Builtin.copy_ #[48, 9] 3 #[.slice (some ⟨d, 0, none⟩) 3 3, .string l]).run Tryd.prog w = .ok (.int .i64 (l.size : Int)) w3 ∧ Copied w w3 d n l a' b' c' := by
  have hlen : l.data.toList.length = l.size := Array.length_toList
  have h := Lib.run_copy_row_string (P := Tryd.prog) w 48 9 3 5 d 0 3 3 l _ 28 Tryd.underlying48 (by kernel_rfl) hd hl (by simp; omega)
  have key : ∀ (x y z : UInt8) (row : Array Value), row = #[.int .u8 x.toNat, .int .u8 y.toNat, .int .u8 z.toNat, .int .i64 n] → keptL x y z l.size = l.data.toList → Copied w (w.setRow d row) d n l x y z := by
    intro x y z row hr hk
    subst hr
    exact ⟨setRow_heap w d _ _ _ _ hd, grown_setRow (World.grownBy.refl w _) _, hk⟩
  match hq : l.data.toList, hlen with
  | [], e => exact ⟨_, a, b, c, h, key a b c _ (by rw [hq, ← e]; rfl) (by rw [hq, ← e]; rfl)⟩
  | [x], e => exact ⟨_, x, b, c, h, key x b c _ (by rw [hq, ← e]; rfl) (by rw [hq, ← e]; rfl)⟩
  | [x, y], e => exact ⟨_, x, y, c, h, key x y c _ (by rw [hq, ← e]; rfl) (by rw [hq, ← e]; rfl)⟩
  | [x, y, z], e => exact ⟨_, x, y, z, h, key x y z _ (by rw [hq, ← e]; rfl) (by rw [hq, ← e]; rfl)⟩
  | _ :: _ :: _ :: _ :: _, e => simp at e; omega

theorem allF_left : ∀ (k : Nat) (s : ByteArray), s.size ≤ k → (allF k s).2.size ≤ 3 := by
  intro k
  induction k with
  | zero => intro s h; unfold allF; dsimp only; omega
  | succ k ih =>
    intro s h
    unfold allF
    split
    · rename_i h0
      split
      · rename_i ho
        have hz : size s[0].toNat ≤ 4 := by
          unfold size
          repeat' split
          all_goals omega
        unfold stp at ho
        split at ho
        · cases ho
        · have := of_decide_eq_true ho
          dsimp only
          omega
      · refine ih _ ?_
        have hb := begins_le s h0
        rw [stp_n]
        simp
        omega
    · exact Nat.zero_le 3

/-- What Feed leaves. -/
def Fed (w : World) (d : Nat) (q : List Int × ByteArray) (e : Ending) (w' : World) : Prop :=
  ∃ (v : Value) (a b c : UInt8), e = .returned v ∧ w'.ownsRow w.heap.size 21 1 v q.1.length (q.1.map (Value.int .i32)) ∧ Ds w' d a b c q.2.size ∧ keptL a b c q.2.size = q.2.data.toList ∧ w.grownBy w' (some d)

set_option maxHeartbeats 1600000 in
theorem Feed_any (d : Nat) (a b c : UInt8) (n : Nat) (s : ByteArray) (w : World) (hd : Ds w d a b c n) (hn : n ≤ 3) (hs : s.size ≤ 900) (hT : Lib.Utf8Tabs 0 1 w) :
    Calls Tryd.prog 11 #[.pointer (some ⟨d, 0, none⟩), .string s] w (Fed w d (allF ((⟨(keptL a b c n).toArray⟩ : ByteArray) ++ s).size ((⟨(keptL a b c n).toArray⟩ : ByteArray) ++ s))) := by
  have hlt := Blk.lt hd
  have c0 : w.cell? ⟨d, 0, none⟩ = some (.int .u8 a.toNat) := Blk.cell hd 0
  have c3 : w.cell? ⟨d, 3, none⟩ = some (.int .i64 n) := Blk.cell hd 3
  have hcv : (convert 48 9 (.slice (some ⟨d, 0, none⟩) n 3)).run Tryd.prog w.drew = .ok (.string ⟨(keptL a b c n).toArray⟩) w.drew := kept_conv d a b c n w.drew (Blk.drew hd) hn
  obtain ⟨K, hKe⟩ : ∃ K : ByteArray, (⟨(keptL a b c n).toArray⟩ : ByteArray) = K := ⟨_, rfl⟩
  have hK : K.size ≤ 3 := by
    rw [← hKe]
    show (keptL a b c n).toArray.size ≤ 3
    unfold keptL
    simp
    omega
  rw [hKe] at hcv ⊢
  have hsum : ¬ (9223372036854775807 < K.size + s.size) := by omega
  have HALL := hide (fun wx hx => all_any (K ++ s) wx (by rw [ByteArray.size_append]; omega) hx)
  obtain ⟨q, hq⟩ : ∃ q, allF (K ++ s).size (K ++ s) = q := ⟨_, rfl⟩
  have hl3 : q.2.size ≤ 3 := by rw [← hq]; exact allF_left _ _ (Nat.le_refl _)
  rw [hq] at HALL ⊢
  have HQ := hide hq
  clear hq
  have HKE := hide hKe
  clear hKe
  have hn1 : (n : Int) ≤ 3 := by omega
  have hn2 : (0 : Int) ≤ (n : Int) := by omega
  have HTA := hide hT
  have HD := hide hd
  clear hd hT
  go_enter Tryd.func11, Tryd.ntmps11
  go_wp2_with fail
  go_region_law (first
    | (go_simp; go_at_call 23; refine (HALL.out _ (Utf8Tabs_below HTA.out (Below.refl _ w).drew)).mono ?_; rintro e w2 ⟨v2, rfl, ho2, hb2⟩; dsimp only))
  all_goals
    have hdA : Ds w2 d a b c n := Blk.below (Blk.drew HD.out) hb2 (by simpa using hlt)
    have e0 : w2.cell? ⟨d, 0, none⟩ = some (.int .u8 a.toNat) := Blk.cell hdA 0
    have e1 : w2.cell? ⟨d, 1, none⟩ = some (.int .u8 b.toNat) := Blk.cell hdA 1
    have e2 : w2.cell? ⟨d, 2, none⟩ = some (.int .u8 c.toNat) := Blk.cell hdA 2
    have e3 : w2.cell? ⟨d, 3, none⟩ = some (.int .i64 n) := Blk.cell hdA 3
    have g0 := Blk.frozen hdA 0
    have g1 := Blk.frozen hdA 1
    have g2 := Blk.frozen hdA 2
    have g3 := Blk.frozen hdA 3
    obtain ⟨o, l⟩ := q
    dsimp only at hl3
    obtain ⟨w3, a', b', c', hcp, hC⟩ := copy_left d a b c n l w2 hdA hl3
    have k3 : w3.cell? ⟨d, 3, none⟩ = some (.int .i64 n) := Blk.cell hC.ds 3
    have l3 := Blk.frozen hC.ds 3
    have hbw : Below w.heap.size w w2 := ⟨hb2.os, hb2.tape, hb2.output, hb2.size, hb2.block⟩
    have ho3 := ho2.kept hC.grown (.inr (own_blk_ne ho2 hdA (by decide)))
    have hgS := only_setCell (p := ⟨d, 3, none⟩) (World.grownBy.refl w3 (some d)) (.inl rfl) (.int .i64 (l.size : Int))
    have ho4 := ho3.kept hgS (.inr (own_blk_ne ho3 hC.ds (by decide)))
    have hf : Fed w d (o, l) (.returned v2) (w3.setCell ⟨d, 3, none⟩ (.int .i64 (l.size : Int))) := by
      refine ⟨_, a', b', c', rfl, ho4, Blk.set_ (show Blk w3 d 28 _ from hC.ds) 3 _, hC.kept, ?_⟩
      have g1 := only_of_below hbw (some d)
      have g2 : w.grownBy w3 (some d) := ⟨hC.grown.os.trans g1.os, hC.grown.tape.trans g1.tape, hC.grown.output.trans g1.output, Nat.le_trans g1.size hC.grown.size, fun x hx hne => (hC.grown.block x (Nat.lt_of_lt_of_le hx g1.size) hne).trans (g1.block x hx hne)⟩
      exact only_setCell (p := ⟨d, 3, none⟩) g2 (.inl rfl) _
    have HF := hide hf
    clear hcv hf hgS ho4 ho3 ho2 hbw hC hb2 hdA e0 e1 e2 e3 g0 g1 g2 g3
    dsimp only
    go_wp2
    go_ret
    exact HF.out
end Go.Proofs.YthfgnjdekhfabaaDoor
