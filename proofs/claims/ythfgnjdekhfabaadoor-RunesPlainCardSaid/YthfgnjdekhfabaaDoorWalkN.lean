/- The document's first at every text. -/
import Derived.Test.YthfgnjdekhfabaaDoorWalkM
namespace Go.Proofs.YthfgnjdekhfabaaDoor
open Go.RowKit Ru
set_option maxRecDepth 100000

theorem first_1 (s : ByteArray) (w : World) (h0 : 0 < s.size) (hf1 : s[0].toNat < 128) :
    Calls Tryd.prog 24 #[.string s] w (Fst w (stp s s[0].toNat)) := by
  have hz0 : (0 : Int) < (s.size : Int) := by omega
  have hz : size s[0].toNat = 1 := by unfold size; rw [if_pos hf1]
  have hbeg : begins s.data.toList = 1 := by
    have := get_bytes s 0 h0
    rw [List.drop_zero] at this
    rw [this]
    show goOn s[0].toNat (size s[0].toNat) 1 _ = 1
    rw [hz]
    exact goOn_end _ _ _
  have hq : stp s s[0].toNat = ((s[0].toNat : Int), 1, false) := by
    rw [stp_full s h0 1 hz hbeg]
    have e : pv s[0].toNat (baseOf 1) ((s.data.toList.drop 1).take (1 - 1)) = (s[0].toNat : Int) := by
      show ((s[0].toNat : Int) - ((0 : Nat) : Int)) = _
      omega
    rw [e]
  have hfo := fun wx => follows_any s[0].toNat 0 128 191 wx (.inl ⟨hf1, rfl, rfl, rfl⟩)
  rw [hq]
  obtain ⟨f, hf⟩ : ∃ f, s[0] = f := ⟨_, rfl⟩
  rw [hf] at hfo hf1 ⊢
  have hf2 : (f.toNat : Int) < 128 := by omega
  have HFO := hide hfo
  clear hfo hq hbeg hz
  have hb0 : Blk (w.alloc (.cells #[.int .i64 0, .int .i32 0, .bool false] 53)) w.heap.size 53 #[.int .i64 0, .int .i32 0, .bool false] := Blk.new w _ _
  go_enter Tryd.func24, Tryd.ntmps24
  go_wp2_with fail
  refine (HFO.out _).mono ?_
  rintro e w1 ⟨rfl, b1⟩
  have hb1 : Blk w1 w.heap.size 53 #[.int .i64 0, .int .i32 0, .bool false] := Blk.below hb0 b1 (by simp)
  have c0 := Blk.cell hb1 0
  have c1 := Blk.cell hb1 1
  have c2 := Blk.cell hb1 2
  have g0 := Blk.frozen hb1 0
  have g1 := Blk.frozen hb1 1
  have g2 := Blk.frozen hb1 2
  have hup : w.heap.size < w1.heap.size := Blk.lt hb1
  have hbw : Below w.heap.size w w1 := ((Below.refl _ w).alloc (Nat.le_refl _) _).trans (b1.mono (by simp))
  have HBW := hide hbw
  have HB1 := hide hb1
  clear hb1 b1 hbw hb0
  dsimp only
  go_wp2
  obtain ⟨k0, k1, k2⟩ := part_back HB1.out 1 f.toNat false (.cells #[.int .i64 0, .int .i64 128, .int .i64 191] 74)
  refine bodyPost_ret (v := .agg #[.int .i64 1, .int .i32 f.toNat, .bool false]) (by simp [results, Tryd.results24, go_sem, k0, k1, k2]) rfl ⟨rfl, ?_⟩
  exact (((HBW.out.setCell (p := ⟨w.heap.size, 0, none⟩) (Nat.le_refl _) _).setCell (p := ⟨w.heap.size, 1, none⟩) (Nat.le_refl _) _).setCell (p := ⟨w.heap.size, 2, none⟩) (Nat.le_refl _) _).alloc (by simp; omega) _

theorem first_0 (s : ByteArray) (w : World) (h0 : 0 < s.size) (hz : size s[0].toNat = 0)
    (hfo : ∀ wx, Calls Tryd.prog 33 #[.int .u8 s[0].toNat] wx (Fol wx (-1) 0 0)) :
    Calls Tryd.prog 24 #[.string s] w (Fst w (stp s s[0].toNat)) := by
  have hz0 : (0 : Int) < (s.size : Int) := by omega
  have hbeg : begins s.data.toList = 1 := by
    have := get_bytes s 0 h0
    rw [List.drop_zero] at this
    rw [this]
    show goOn s[0].toNat (size s[0].toNat) 1 _ = 1
    rw [hz]
    exact goOn_stop _ _ _ _ (by omega)
  have hq : stp s s[0].toNat = (65533, 1, false) := by
    unfold stp
    rw [hbeg, hz, if_neg (by omega)]
    congr 2
    exact decide_eq_false (by omega)
  rw [hq]
  obtain ⟨f, hf⟩ : ∃ f, s[0] = f := ⟨_, rfl⟩
  rw [hf] at hfo
  have HFO := hide hfo
  clear hfo hq hbeg hz
  have hb0 : Blk (w.alloc (.cells #[.int .i64 0, .int .i32 0, .bool false] 53)) w.heap.size 53 #[.int .i64 0, .int .i32 0, .bool false] := Blk.new w _ _
  go_enter Tryd.func24, Tryd.ntmps24
  go_wp2_with fail
  refine (HFO.out _).mono ?_
  rintro e w1 ⟨rfl, b1⟩
  have hb1 : Blk w1 w.heap.size 53 #[.int .i64 0, .int .i32 0, .bool false] := Blk.below hb0 b1 (by simp)
  have c0 := Blk.cell hb1 0
  have c1 := Blk.cell hb1 1
  have c2 := Blk.cell hb1 2
  have g0 := Blk.frozen hb1 0
  have g1 := Blk.frozen hb1 1
  have g2 := Blk.frozen hb1 2
  have hup : w.heap.size < w1.heap.size := Blk.lt hb1
  have hbw : Below w.heap.size w w1 := ((Below.refl _ w).alloc (Nat.le_refl _) _).trans (b1.mono (by simp))
  have HBW := hide hbw
  have HB1 := hide hb1
  clear hb1 b1 hbw hb0
  dsimp only
  go_wp2
  obtain ⟨k0, k1, k2⟩ := part_back HB1.out 1 65533 false (.cells #[.int .i64 (-1), .int .i64 0, .int .i64 0] 74)
  refine bodyPost_ret (v := .agg #[.int .i64 1, .int .i32 65533, .bool false]) (by simp [results, Tryd.results24, go_sem, k0, k1, k2]) rfl ⟨rfl, ?_⟩
  exact (((HBW.out.setCell (p := ⟨w.heap.size, 0, none⟩) (Nat.le_refl _) _).setCell (p := ⟨w.heap.size, 1, none⟩) (Nat.le_refl _) _).setCell (p := ⟨w.heap.size, 2, none⟩) (Nat.le_refl _) _).alloc (by simp; omega) _

theorem first_any (s : ByteArray) (w : World) (h0 : 0 < s.size) (h63 : s.size ≤ maxLen) :
    Calls Tryd.prog 24 #[.string s] w (Fst w (stp s s[0].toNat)) := by
  have h256 : s[0].toNat < 256 := s[0].toNat_lt
  rcases size_cases s[0].toNat with ⟨h1, _⟩ | ⟨h1, h2, e⟩ | ⟨h1, h2, e⟩ | ⟨h1, h2, e⟩ | e
  · exact first_1 s w h0 h1
  · refine first_2 s w h0 h63 e (by omega) (by omega) (fun wx => follows_any _ _ _ _ wx (.inr (.inl ⟨h1, h2, rfl, ?_, ?_⟩)))
    · rw [low_128 _ (by omega) (by omega)]; rfl
    · rw [high_191 _ (by omega) (by omega)]; rfl
  · refine first_3 s w h0 h63 e (by omega) (by omega) (fun wx => ?_)
    have hs := seq_facts s[0].toNat h1
    by_cases a1 : s[0].toNat = 224
    · refine follows_any _ _ _ _ wx (.inr (.inr (.inl ⟨a1, rfl, ?_, ?_⟩)))
      · rw [hs.1 a1]; rfl
      · rw [high_191 _ (by omega) (by omega)]; rfl
    · by_cases a2 : s[0].toNat = 237
      · refine follows_any _ _ _ _ wx (.inr (.inr (.inr (.inl ⟨a2, rfl, ?_, ?_⟩))))
        · rw [low_128 _ (by omega) (by omega)]; rfl
        · rw [hs.2.1 a2]; rfl
      · refine follows_any _ _ _ _ wx (.inr (.inr (.inr (.inr (.inl ⟨by omega, by omega, a2, rfl, ?_, ?_⟩)))))
        · rw [low_128 _ (by omega) (by omega)]; rfl
        · rw [high_191 _ (by omega) (by omega)]; rfl
  · refine first_4 s w h0 h63 e (by omega) (by omega) (fun wx => ?_)
    have hs := seq_facts s[0].toNat (by omega)
    by_cases a1 : s[0].toNat = 240
    · refine follows_any _ _ _ _ wx (.inr (.inr (.inr (.inr (.inr (.inl ⟨a1, rfl, ?_, ?_⟩))))))
      · rw [hs.2.2.1 a1]; rfl
      · rw [high_191 _ (by omega) (by omega)]; rfl
    · by_cases a2 : s[0].toNat = 244
      · refine follows_any _ _ _ _ wx (.inr (.inr (.inr (.inr (.inr (.inr (.inr (.inl ⟨a2, rfl, ?_, ?_⟩))))))))
        · rw [low_128 _ (by omega) (by omega)]; rfl
        · rw [hs.2.2.2 a2]; rfl
      · refine follows_any _ _ _ _ wx (.inr (.inr (.inr (.inr (.inr (.inr (.inl ⟨by omega, by omega, rfl, ?_, ?_⟩)))))))
        · rw [low_128 _ (by omega) (by omega)]; rfl
        · rw [high_191 _ (by omega) (by omega)]; rfl
  · refine first_0 s w h0 e (fun wx => ?_)
    have hb : (128 ≤ s[0].toNat ∧ s[0].toNat < 194) ∨ 244 < s[0].toNat := by
      unfold size at e
      split at e
      · omega
      · split at e
        · omega
        · split at e
          · omega
          · split at e <;> omega
    rcases hb with ⟨h1, h2⟩ | h1
    · exact follows_any _ _ _ _ wx (.inr (.inr (.inr (.inr (.inr (.inr (.inr (.inr (.inl ⟨h1, h2, rfl, rfl, rfl⟩)))))))))
    · exact follows_any _ _ _ _ wx (.inr (.inr (.inr (.inr (.inr (.inr (.inr (.inr (.inr ⟨h1, h256, rfl, rfl, rfl⟩)))))))))
end Go.Proofs.YthfgnjdekhfabaaDoor
