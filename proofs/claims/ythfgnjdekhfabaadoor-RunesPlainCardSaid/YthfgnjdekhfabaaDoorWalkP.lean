/- The walks of the document's none, within, one, Encode, and of Decode. -/
import Derived.Test.YthfgnjdekhfabaaDoorWalkO
namespace Go.Proofs.YthfgnjdekhfabaaDoor
open Go.RowKit Ru
set_option maxRecDepth 100000

theorem none_yes (r : Int) (w : World) (h : r < 0 ∨ 1114111 < r ∨ (55296 ≤ r ∧ r ≤ 57343)) : Calls Tryd.prog 30 #[.int .i32 r] w fun e w' => e = .returned (.bool true) ∧ w = w' := by
  by_cases h1 : r < 0
  · go_enter Tryd.func30, Tryd.ntmps30
    go_wp2
    go_ret
    exact ⟨rfl, rfl⟩
  · by_cases h2 : 1114111 < r
    · go_enter Tryd.func30, Tryd.ntmps30
      go_wp2
      go_ret
      exact ⟨rfl, rfl⟩
    · have h3 : 55296 ≤ r := by omega
      have h4 : r ≤ 57343 := by omega
      clear h
      go_enter Tryd.func30, Tryd.ntmps30
      go_wp2
      go_ret
      exact ⟨rfl, rfl⟩
theorem none_no (r : Int) (w : World) (h : (0 ≤ r ∧ r < 55296) ∨ (57343 < r ∧ r ≤ 1114111)) : Calls Tryd.prog 30 #[.int .i32 r] w fun e w' => e = .returned (.bool false) ∧ w = w' := by
  have a1 : decide (r < 0) = false := decide_eq_false (by omega)
  have a2 : decide (1114111 < r) = false := decide_eq_false (by omega)
  rcases h with ⟨h1, h2⟩ | ⟨h1, h2⟩
  · have a3 : decide (55296 ≤ r) = false := decide_eq_false (by omega)
    clear h1 h2
    go_enter Tryd.func30, Tryd.ntmps30
    go_wp2
    go_ret
    exact ⟨rfl, rfl⟩
  · have a3 : decide (55296 ≤ r) = true := decide_eq_true (by omega)
    have a4 : decide (r ≤ 57343) = false := decide_eq_false (by omega)
    clear h1 h2
    go_enter Tryd.func30, Tryd.ntmps30
    go_wp2
    go_ret
    exact ⟨rfl, rfl⟩

theorem conv_bytes (l : List UInt8) (g : Nat) (W : World) (hg : W.heap.size = g) (n : Nat) (hn : l.length = n) (cs : Array Value) (hcs : cs = (l.map fun b => Value.int .u8 b.toNat).toArray) :
    (convert 48 9 (.slice (some ⟨g, 0, none⟩) n n)).run Tryd.prog (W.alloc (.cells cs 5)) = .ok (.string ⟨l.toArray⟩) (W.alloc (.cells cs 5)) := by
  subst hg hn hcs
  exact run_convert_bytes_back (P := Tryd.prog) _ 48 9 5 ⟨W.heap.size, 0, none⟩ l.length l Tryd.underlying48 Tryd.underlying5 Tryd.underlying9 (fun j hj => by
    rw [Addr.add_lit, Nat.zero_add, Blk.cell (Blk.new W 5 _) j]
    simp [hj])

theorem u8_int (x : Int) (h0 : 0 ≤ x) (h1 : x < 256) : ((x.toNat.toUInt8).toNat : Int) = x := by
  rw [u8_val x h0 h1]
  omega

/-- What one leaves. -/
def Oned (w : World) (r : Int) (e : Ending) (w' : World) : Prop := e = .returned (.string ⟨(Lib.encodeRune r).toArray⟩) ∧ Below w.heap.size w w'

theorem one_1 (r : Int) (w : World) (h0 : 0 ≤ r) (h1 : r < 128) : Calls Tryd.prog 27 #[.int .i32 r] w (Oned w r) := by
  have hN := none_no r w (.inl ⟨h0, by omega⟩)
  obtain ⟨b1, hb1⟩ : ∃ b : UInt8, b = (r).toNat.toUInt8 := ⟨_, rfl⟩
  have kb1 : (b1.toNat : Int) = r := by rw [hb1]; exact u8_int _ (by omega) (by omega)
  have he : Lib.encodeRune r = [b1] := by unfold Lib.encodeRune; rw [Lib.encodeRuneZ_one h0 (by omega), hb1]; rfl
  have hcv := conv_bytes [b1] w.heap.size w rfl 1 rfl #[.int .u8 (r)] (by rw [← kb1]; rfl)
  have HE := hide he
  have HN := hide hN
  clear he hN hb1 kb1
  go_enter Tryd.func27, Tryd.ntmps27
  go_wp2_with fail
  refine HN.out.mono ?_
  rintro e w1 ⟨rfl, rfl⟩
  dsimp only
  go_wp2
  go_ret
  exact ⟨by rw [HE.out]; rfl, (Below.refl _ _).alloc (Nat.le_refl _) _⟩
theorem one_2 (r : Int) (w : World) (h0 : 128 ≤ r) (h1 : r < 2048) : Calls Tryd.prog 27 #[.int .i32 r] w (Oned w r) := by
  have hN := none_no r w (.inl ⟨by omega, by omega⟩)
  obtain ⟨b1, hb1⟩ : ∃ b : UInt8, b = (192 + r / 64).toNat.toUInt8 := ⟨_, rfl⟩
  have kb1 : (b1.toNat : Int) = 192 + r / 64 := by rw [hb1]; exact u8_int _ (by omega) (by omega)
  obtain ⟨b2, hb2⟩ : ∃ b : UInt8, b = (128 + r % 64).toNat.toUInt8 := ⟨_, rfl⟩
  have kb2 : (b2.toNat : Int) = 128 + r % 64 := by rw [hb2]; exact u8_int _ (by omega) (by omega)
  have he : Lib.encodeRune r = [b1, b2] := by unfold Lib.encodeRune; rw [Lib.encodeRuneZ_two h0 (by omega), hb1, hb2]; rfl
  have hcv := conv_bytes [b1, b2] w.heap.size w rfl 2 rfl #[.int .u8 (192 + r / 64), .int .u8 (128 + r % 64)] (by rw [← kb1, ← kb2]; rfl)
  have HE := hide he
  have HN := hide hN
  clear he hN hb1 kb1 hb2 kb2
  have b0 : 0 ≤ r := by omega
  go_enter Tryd.func27, Tryd.ntmps27
  go_wp2_with fail
  refine HN.out.mono ?_
  rintro e w1 ⟨rfl, rfl⟩
  dsimp only
  go_wp2
  go_ret
  exact ⟨by rw [HE.out]; rfl, (Below.refl _ _).alloc (Nat.le_refl _) _⟩
theorem one_3a (r : Int) (w : World) (h0 : 2048 ≤ r) (h1 : r < 55296) : Calls Tryd.prog 27 #[.int .i32 r] w (Oned w r) := by
  have hN := none_no r w (.inl ⟨by omega, by omega⟩)
  obtain ⟨b1, hb1⟩ : ∃ b : UInt8, b = (224 + r / 4096).toNat.toUInt8 := ⟨_, rfl⟩
  have kb1 : (b1.toNat : Int) = 224 + r / 4096 := by rw [hb1]; exact u8_int _ (by omega) (by omega)
  obtain ⟨b2, hb2⟩ : ∃ b : UInt8, b = (128 + r / 64 % 64).toNat.toUInt8 := ⟨_, rfl⟩
  have kb2 : (b2.toNat : Int) = 128 + r / 64 % 64 := by rw [hb2]; exact u8_int _ (by omega) (by omega)
  obtain ⟨b3, hb3⟩ : ∃ b : UInt8, b = (128 + r % 64).toNat.toUInt8 := ⟨_, rfl⟩
  have kb3 : (b3.toNat : Int) = 128 + r % 64 := by rw [hb3]; exact u8_int _ (by omega) (by omega)
  have he : Lib.encodeRune r = [b1, b2, b3] := by unfold Lib.encodeRune; rw [Lib.encodeRuneZ_three (by omega), hb1, hb2, hb3]; rfl
  have hcv := conv_bytes [b1, b2, b3] w.heap.size w rfl 3 rfl #[.int .u8 (224 + r / 4096), .int .u8 (128 + r / 64 % 64), .int .u8 (128 + r % 64)] (by rw [← kb1, ← kb2, ← kb3]; rfl)
  have HE := hide he
  have HN := hide hN
  clear he hN hb1 kb1 hb2 kb2 hb3 kb3
  have b0 : 0 ≤ r := by omega
  go_enter Tryd.func27, Tryd.ntmps27
  go_wp2_with fail
  refine HN.out.mono ?_
  rintro e w1 ⟨rfl, rfl⟩
  dsimp only
  go_wp2
  go_ret
  exact ⟨by rw [HE.out]; rfl, (Below.refl _ _).alloc (Nat.le_refl _) _⟩
theorem one_3b (r : Int) (w : World) (h0 : 57343 < r) (h1 : r < 65536) : Calls Tryd.prog 27 #[.int .i32 r] w (Oned w r) := by
  have hN := none_no r w (.inr ⟨by omega, by omega⟩)
  obtain ⟨b1, hb1⟩ : ∃ b : UInt8, b = (224 + r / 4096).toNat.toUInt8 := ⟨_, rfl⟩
  have kb1 : (b1.toNat : Int) = 224 + r / 4096 := by rw [hb1]; exact u8_int _ (by omega) (by omega)
  obtain ⟨b2, hb2⟩ : ∃ b : UInt8, b = (128 + r / 64 % 64).toNat.toUInt8 := ⟨_, rfl⟩
  have kb2 : (b2.toNat : Int) = 128 + r / 64 % 64 := by rw [hb2]; exact u8_int _ (by omega) (by omega)
  obtain ⟨b3, hb3⟩ : ∃ b : UInt8, b = (128 + r % 64).toNat.toUInt8 := ⟨_, rfl⟩
  have kb3 : (b3.toNat : Int) = 128 + r % 64 := by rw [hb3]; exact u8_int _ (by omega) (by omega)
  have he : Lib.encodeRune r = [b1, b2, b3] := by unfold Lib.encodeRune; rw [Lib.encodeRuneZ_three (by omega), hb1, hb2, hb3]; rfl
  have hcv := conv_bytes [b1, b2, b3] w.heap.size w rfl 3 rfl #[.int .u8 (224 + r / 4096), .int .u8 (128 + r / 64 % 64), .int .u8 (128 + r % 64)] (by rw [← kb1, ← kb2, ← kb3]; rfl)
  have HE := hide he
  have HN := hide hN
  clear he hN hb1 kb1 hb2 kb2 hb3 kb3
  have b0 : 0 ≤ r := by omega
  go_enter Tryd.func27, Tryd.ntmps27
  go_wp2_with fail
  refine HN.out.mono ?_
  rintro e w1 ⟨rfl, rfl⟩
  dsimp only
  go_wp2
  go_ret
  exact ⟨by rw [HE.out]; rfl, (Below.refl _ _).alloc (Nat.le_refl _) _⟩
theorem one_4 (r : Int) (w : World) (h0 : 65536 ≤ r) (h1 : r ≤ 1114111) : Calls Tryd.prog 27 #[.int .i32 r] w (Oned w r) := by
  have hN := none_no r w (.inr ⟨by omega, by omega⟩)
  obtain ⟨b1, hb1⟩ : ∃ b : UInt8, b = (240 + r / 262144).toNat.toUInt8 := ⟨_, rfl⟩
  have kb1 : (b1.toNat : Int) = 240 + r / 262144 := by rw [hb1]; exact u8_int _ (by omega) (by omega)
  obtain ⟨b2, hb2⟩ : ∃ b : UInt8, b = (128 + r / 4096 % 64).toNat.toUInt8 := ⟨_, rfl⟩
  have kb2 : (b2.toNat : Int) = 128 + r / 4096 % 64 := by rw [hb2]; exact u8_int _ (by omega) (by omega)
  obtain ⟨b3, hb3⟩ : ∃ b : UInt8, b = (128 + r / 64 % 64).toNat.toUInt8 := ⟨_, rfl⟩
  have kb3 : (b3.toNat : Int) = 128 + r / 64 % 64 := by rw [hb3]; exact u8_int _ (by omega) (by omega)
  obtain ⟨b4, hb4⟩ : ∃ b : UInt8, b = (128 + r % 64).toNat.toUInt8 := ⟨_, rfl⟩
  have kb4 : (b4.toNat : Int) = 128 + r % 64 := by rw [hb4]; exact u8_int _ (by omega) (by omega)
  have he : Lib.encodeRune r = [b1, b2, b3, b4] := by unfold Lib.encodeRune; rw [Lib.encodeRuneZ_four h0 h1, hb1, hb2, hb3, hb4]; rfl
  have hcv := conv_bytes [b1, b2, b3, b4] w.heap.size w rfl 4 rfl #[.int .u8 (240 + r / 262144), .int .u8 (128 + r / 4096 % 64), .int .u8 (128 + r / 64 % 64), .int .u8 (128 + r % 64)] (by rw [← kb1, ← kb2, ← kb3, ← kb4]; rfl)
  have HE := hide he
  have HN := hide hN
  clear he hN hb1 kb1 hb2 kb2 hb3 kb3 hb4 kb4
  have b0 : 0 ≤ r := by omega
  go_enter Tryd.func27, Tryd.ntmps27
  go_wp2_with fail
  refine HN.out.mono ?_
  rintro e w1 ⟨rfl, rfl⟩
  dsimp only
  go_wp2
  go_ret
  exact ⟨by rw [HE.out]; rfl, (Below.refl _ _).alloc (Nat.le_refl _) _⟩
theorem one_bad (r : Int) (w : World) (h : r < 0 ∨ 1114111 < r ∨ (55296 ≤ r ∧ r ≤ 57343)) : Calls Tryd.prog 27 #[.int .i32 r] w (Oned w r) := by
  have hN := none_yes r w h
  have he : Lib.encodeRune r = [239, 191, 189] := by unfold Lib.encodeRune; rw [Lib.encodeRuneZ_bad (by omega)]; rfl
  have hcv := conv_bytes [239, 191, 189] w.heap.size w rfl 3 rfl #[.int .u8 239, .int .u8 191, .int .u8 189] rfl
  have HE := hide he
  have HN := hide hN
  clear he hN h
  go_enter Tryd.func27, Tryd.ntmps27
  go_wp2_with fail
  refine HN.out.mono ?_
  rintro e w1 ⟨rfl, rfl⟩
  dsimp only
  go_wp2
  go_ret
  exact ⟨by rw [HE.out]; rfl, (Below.refl _ _).alloc (Nat.le_refl _) _⟩

theorem one_any (r : Int) (w : World) : Calls Tryd.prog 27 #[.int .i32 r] w (Oned w r) := by
  by_cases hb : r < 0 ∨ 1114111 < r ∨ (55296 ≤ r ∧ r ≤ 57343)
  · exact one_bad r w hb
  · by_cases h1 : r < 128
    · exact one_1 r w (by omega) h1
    · by_cases h2 : r < 2048
      · exact one_2 r w (by omega) h2
      · by_cases h3 : r < 55296
        · exact one_3a r w (by omega) h3
        · by_cases h4 : r < 65536
          · exact one_3b r w (by omega) h4
          · exact one_4 r w (by omega) (by omega)
end Go.Proofs.YthfgnjdekhfabaaDoor
