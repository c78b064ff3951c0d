/- The law KeysParted, walked. -/
import Derived.Test.YtgjbieafjagchaaWalkG
import Derived.Deep.RegionLaw
import Derived.OpenShut
import Derived.Deep.DeepCutAuto
import Derived.Deep.CutRange
namespace Go.Proofs.Ytgjbieafjagchaa
open Go.RowKit Go.Lib Keys
set_option maxRecDepth 100000

theorem Feed_slice (r : Nat) (c p : Bool) (s : ByteArray) (w : World) (t : St) (ht : feed c p s.data.toList = t) (hr : Rd w r c p) (hs : s.size ≤ 10000) :
    Calls Try.prog 7 #[.pointer (some ⟨r, 0, none⟩), .string s] w fun e w' =>
      ∃ a cap, e = .returned (.slice a t.out.length cap) ∧ Reads w' w'.heap.size 3 a t.out.length (cells t.out) ∧ w'.ownsRow w.heap.size 34 3 (.slice a t.out.length cap) t.out.length (cells t.out) ∧ Rd w' r t.c t.p ∧ w.grownBy w' (some r) := by
  refine (Feed_any r c p s w hr hs).mono ?_
  rw [ht]
  rintro e w' ⟨v, rfl, h1, h2, h3⟩
  have hrow := Row.of_own h1
  obtain ⟨a, cap, rfl, _⟩ := hrow
  exact ⟨a, cap, rfl, Reads.of_own h1, h1, h2, h3⟩

theorem own_empty {w : World} {base x : Nat} (h : Blk w x 34 #[]) (hb : base ≤ x) : w.ownsRow base 34 3 (.slice (some ⟨x, 0, none⟩) 0 0) 0 [] :=
  ⟨rfl, .inr ⟨x, 0, #[], rfl, hb, h, Nat.le_refl _, by unfold maxLen; omega, rfl, rfl⟩⟩

theorem tmod_bd (a : Int) (n : Nat) : -(n : Int) ≤ a.tmod ((n : Int) + 1) ∧ a.tmod ((n : Int) + 1) ≤ n := by
  have h := Int.tmod_lt_of_pos a (b := (n : Int) + 1) (by omega)
  have h2 := Int.lt_tmod_of_pos a (b := (n : Int) + 1) (by omega)
  omega

/-- What is known behind the statement that feeds the second reader twice: the row, the reader, the frame. -/
structure Mid (w : World) (rb : Nat) (tb : St) (L : List K) (s10 : Value) (wx : World) : Prop where
  own : wx.ownsRow w.heap.size 34 3 s10 L.length (cells L)
  rd : Rd wx rb tb.c tb.p
  grown : w.grownBy wx (some rb)

theorem grown_far {a w w' : World} {r : Nat} {row : Option Nat} (h : a.grownBy w (some r)) (hg : w.grownBy w' row) (hr : ∀ k, row = some k → a.heap.size ≤ k) : a.grownBy w' (some r) :=
  ⟨hg.os.trans h.os, hg.tape.trans h.tape, hg.output.trans h.output, Nat.le_trans h.size hg.size, fun k hk hne => (hg.block k (Nat.lt_of_lt_of_le hk h.size) (fun e => by have := hr k e.symm; omega)).trans (h.block k hk hne)⟩

theorem app1 {w2 w3 w4 : World} {rb x : Nat} {c p : Bool} (g : w2.grownBy w3 (some rb)) (hr : Rd w3 rb c p) (hg : w3.grownBy w4 (Value.slice (some ⟨x, 0, none⟩) 0 0).ownBlock) (hx : w2.heap.size ≤ x) (hlb : rb < w2.heap.size) :
    Rd w4 rb c p ∧ w2.grownBy w4 (some rb) := by
  have hg' : w3.grownBy w4 (some x) := hg
  exact ⟨Blk.grown hr hg' (by intro h; injection h with h; omega), grown_far g hg' (fun k hk => by injection hk with hk; omega)⟩

theorem split_bytes (s : ByteArray) (q : Nat) : (s.extract 0 q).data.toList ++ (s.extract q s.size).data.toList = s.data.toList := by
  rw [ByteArray.data_extract, ByteArray.data_extract, Array.toList_extract, Array.toList_extract]
  have e : s.data.toList.length = s.size := Array.length_toList
  simp only [List.extract_eq_take_drop, List.drop_zero, Nat.sub_zero]
  rw [List.take_of_length_le (l := s.data.toList.drop q) (by rw [List.length_drop, e]; exact Nat.le_refl _)]
  exact List.take_append_drop q _

set_option maxHeartbeats 1600000 in
theorem law_P (s : ByteArray) (at' : Int) (w : World) (hw : (Lit.int .i64 at').wf = true) : Calls Try.prog 3 #[.string s, .int .i64 at'] w fun e w' => e = .returned (.bool true) ∧ Below w.heap.size w w' := by
  have hsz := sh_size s 60
  have hbd := bounds_i64 hw
  obtain ⟨tb1, tb2⟩ := tmod_bd at' (sh s 60).size
  generalize hS : sh s 60 = S at hsz tb1 tb2
  have HS := hide hS
  clear hS
  go_enter Try.func3, Try.ntmps3
  go_wp2_with fail
  refine (awake_any _).mono ?_
  rintro e w1 ⟨rfl, hb1⟩
  dsimp only
  go_wp2_with fail
  refine (short_any s 60 _).mono ?_
  rintro e w1' ⟨rfl, rfl⟩
  rw [HS.out]
  dsimp only
  go_wp2_with fail
  have hra : Rd ((w1.alloc (.cells #[.bool false, .bool false] 26)).alloc (.cells #[.bool false, .bool false] 26)) w1.heap.size false false := Blk.alloc (Blk.new w1 _ _) _
  have hrb : Rd ((w1.alloc (.cells #[.bool false, .bool false] 26)).alloc (.cells #[.bool false, .bool false] 26)) (w1.heap.size + 1) false false := by
    have := Blk.new (w1.alloc (.cells #[.bool false, .bool false] 26)) 26 #[.bool false, .bool false]
    have e : (w1.alloc (.cells #[.bool false, .bool false] 26)).heap.size = w1.heap.size + 1 := by simp
    rw [e] at this
    exact this
  obtain ⟨ta, hta⟩ : ∃ ta, feed false false S.data.toList = ta := ⟨_, rfl⟩
  refine (Feed_slice w1.heap.size false false S _ ta hta hra (by omega)).mono ?_
  rintro e w2 ⟨ax, cx, rfl, _, hxo, hra2, hg2⟩
  have hrb2 : Rd w2 (w1.heap.size + 1) false false := Blk.grown hrb hg2 (by intro h; injection h with h; omega)
  have hb2 : Below w.heap.size w w2 := by
    have h1 := (hb1.alloc hb1.size (.cells #[.bool false, .bool false] 26))
    have h2 := h1.alloc h1.size (.cells #[.bool false, .bool false] 26)
    exact h2.grown hg2 h2.size (fun k hk => by injection hk with hk; have := hb1.size; omega)
  have hw1 := hb1.size
  obtain ⟨q, hq, hq2⟩ : ∃ q : Nat, (at'.tmod ((S.size : Int) + 1) + (S.size : Int) + 1) % ((S.size : Int) + 1) = (q : Int) ∧ q ≤ S.size := by
    have h1 := Int.emod_nonneg (at'.tmod ((S.size : Int) + 1) + (S.size : Int) + 1) (b := (S.size : Int) + 1) (by omega)
    have h2 := Int.emod_lt_of_pos (at'.tmod ((S.size : Int) + 1) + (S.size : Int) + 1) (b := (S.size : Int) + 1) (by omega)
    exact ⟨((at'.tmod ((S.size : Int) + 1) + (S.size : Int) + 1) % ((S.size : Int) + 1)).toNat, by omega, by omega⟩
  rw [hq]
  have hsp := split_bytes S q
  have hpar := parted false false (S.extract 0 q).data.toList (S.extract q S.size).data.toList
  rw [hsp, hta] at hpar
  have hbt1 := bulk_feed false false (S.extract 0 q).data.toList
  generalize ht1 : feed false false (S.extract 0 q).data.toList = t1 at hpar hbt1
  have hbt2 := bulk_feed t1.c t1.p (S.extract q S.size).data.toList
  generalize ht2 : feed t1.c t1.p (S.extract q S.size).data.toList = t2 at hpar hbt2
  have HT1 := hide ht1
  have HT2 := hide ht2
  have HPAR := hide hpar
  have hsx1 : (S.extract 0 q).size ≤ 60 := by simp; omega
  have hsx2 : (S.extract q S.size).size ≤ 60 := by simp; omega
  have hl1 : (S.extract 0 q).data.toList.length = (S.extract 0 q).size := Array.length_toList
  have hl2 : (S.extract q S.size).data.toList.length = (S.extract q S.size).size := Array.length_toList
  have hn1 := length_le_bulk t1.out
  have hn2 := length_le_bulk t2.out
  have hba : bulk ta.out ≤ 1000 := by
    have h1 := bulk_feed false false S.data.toList
    have h2 : S.data.toList.length = S.size := Array.length_toList
    rw [hta] at h1
    omega
  have hbb : bulk (t1.out ++ t2.out) ≤ 1000 := by rw [bulk_append]; omega
  have hm1 : t1.out.length ≤ 200 := by omega
  have hm2 : t2.out.length ≤ 200 := by omega
  clear hl1 hl2 hn1 hn2 hbt1 hbt2
  clear hq hsp hpar hta ht1 ht2 hg2 hra hrb hb1 tb1 tb2 HS hbd hw
  dsimp only
  go_upto_region 7 with fail
  go_cut [10] (fun s10 wx => Mid w2 (w1.heap.size + 1) t2 (t1.out ++ t2.out) s10 wx)
  case first =>
    have hlb := Blk.lt hrb2
    have EA := hide (fun w3 (hg : (w2.alloc (.cells #[] 34)).drew.grownBy w3 (some (w1.heap.size + 1))) => own_empty (base := w2.heap.size) (Blk.grown (Blk.drew (Blk.new w2 34 #[])) hg (by intro h; injection h with h; omega)) (Nat.le_refl _))
    have EB := hide (fun w3 (hb : w2.heap.size ≤ w3.heap.size) => own_empty (base := w2.heap.size) (Blk.new w3 34 #[]) hb)
    have GA := hide (fun w3 (hg : (w2.alloc (.cells #[] 34)).drew.grownBy w3 (some (w1.heap.size + 1))) => grown_grown (only_drew (only_alloc (World.grownBy.refl w2 (some (w1.heap.size + 1))) (.cells #[] 34))) hg)
    have GB := hide (fun w3 (hg : w2.drew.grownBy w3 (some (w1.heap.size + 1))) => grown_grown (only_drew (World.grownBy.refl w2 (some (w1.heap.size + 1)))) hg)
    obtain ⟨i0, hi, hz0, hz1, hz2⟩ := info_parts info_key
    go_region_law (first
      | (go_simp; go_at_call_of 7 (Value.string (S.extract 0 q)); refine (Feed_slice (w1.heap.size + 1) false false (S.extract 0 q) _ t1 HT1.out (by first | exact hrb2 | exact Blk.alloc hrb2 _) (by omega)).mono ?_; rintro e w3 ⟨a3, c3, rfl, hrd3, _, hrb3, hg3⟩; dsimp only)
      | (refine step_append_any _ rfl (.tmp 37) (.tmp 42) 27 rfl w2.heap.size 34 i0 (.agg #[.int .i64 0, .int .i64 0, .string ⟨#[]⟩]) 3 32 Try.underlying27 hi hz0 hz1 hz2 rfl (by decide) (.slice (some ⟨w2.heap.size, 0, none⟩) 0 0) 0 [] (by simp [Act.eval]) (EA.out _ hg3) _ a3 t1.out.length c3 (cells t1.out) (by simp [Act.eval]) hrd3 (cells_one _) (by unfold maxLen; omega) (by omega) (GA.out _ hg3).size ?_; intro v4 w4 hown4 hg4 hat4; have hp4 := app1 (GA.out _ hg3) hrb3 hg4 (Nat.le_refl _) hlb; obtain ⟨hrb4, G4⟩ := hp4)
      | (refine step_append_any _ rfl (.tmp 37) (.tmp 42) 27 rfl w2.heap.size 34 i0 (.agg #[.int .i64 0, .int .i64 0, .string ⟨#[]⟩]) 3 32 Try.underlying27 hi hz0 hz1 hz2 rfl (by decide) (.slice (some ⟨w3.heap.size, 0, none⟩) 0 0) 0 [] (by simp [Act.eval]) (EB.out _ (GB.out _ hg3).size) w3.heap.size a3 t1.out.length c3 (cells t1.out) (by simp [Act.eval]) (hrd3.alloc (Nat.le_refl _) _) (cells_one _) (by unfold maxLen; omega) (by omega) (by have := (GB.out _ hg3).size; simp; omega) ?_; intro v4 w4 hown4 hg4 hat4; have hp4 := app1 (only_alloc (GB.out _ hg3) _) (Blk.alloc hrb3 _) hg4 (GB.out _ hg3).size hlb; obtain ⟨hrb4, G4⟩ := hp4)
      | (go_simp; go_at_call_of 7 (Value.string (S.extract q S.size)); refine (Feed_slice (w1.heap.size + 1) t1.c t1.p (S.extract q S.size) _ t2 HT2.out hrb4 (by omega)).mono ?_; rintro e w5 ⟨a5, c5, rfl, hrd5, _, hrb5, hg5⟩; dsimp only)
      | (refine step_append_any _ rfl (.tmp 43) (.tmp 48) 27 rfl w2.heap.size 34 i0 (.agg #[.int .i64 0, .int .i64 0, .string ⟨#[]⟩]) 3 32 Try.underlying27 hi hz0 hz1 hz2 rfl (by decide) v4 (0 + t1.out.length) ([] ++ cells t1.out) (by simp [Act.eval]) (hown4.kept hg5 (.inr (own_blk_ne hown4 hrb4 (by decide)))) _ a5 t2.out.length c5 (cells t2.out) (by simp [Act.eval]) hrd5 (cells_one _) (by unfold maxLen; omega) (by omega) (grown_grown G4 hg5).size ?_; intro v6 w6 hown6 hg6 hat6; have hrb6 : Rd w6 (w1.heap.size + 1) t2.c t2.p := Blk.grown hrb5 hg6 (fun h => own_blk_ne hown4 hrb4 (by decide) h.symm); have G6 : w2.grownBy w6 (some (w1.heap.size + 1)) := grown_far (grown_grown G4 hg5) hg6 (fun k hk => (hown4.lt k hk).1)))
    all_goals
      have hown7 : w6.ownsRow w2.heap.size 34 3 v6 (t1.out ++ t2.out).length (cells (t1.out ++ t2.out)) := by
        rw [cells_append, List.length_append]
        simpa using hown6
      have HM := hide (Mid.mk hown7 hrb6 G6)
      go_wp2_with fail
      go_meet
      exact HM.out
  case rest =>
    obtain ⟨hown, hrb3, hg3⟩ := hcut
    have hlb := Blk.lt hrb2
    have hxo3 := hxo.kept hg3 (.inr (own_blk_ne hxo hrb2 (by decide)))
    have hra3 : Rd wc w1.heap.size ta.c ta.p := Blk.grown hra2 hg3 (by intro h; injection h with h; omega)
    have hb3 : Below w.heap.size w wc := hb2.grown hg3 hb2.size (fun k hk => by injection hk with hk; omega)
    have hl3 := Blk.lt hra3
    have hl4 := Blk.lt hrb3
    go_wp2_with fail
    refine (flat_any _ ta.out wc (Row.of_own hxo3) (by omega)).mono ?_
    rintro e w4 ⟨v4, rfl, ho4, hb4⟩
    have hs4 := hb4.size
    dsimp only
    go_wp2_with fail
    refine (flat_any u10 (t1.out ++ t2.out) w4 (((Row.of_own hown).below hb4).more hs4) (by omega)).mono ?_
    rintro e w5 ⟨v5, rfl, ho5, hb5⟩
    have hs5 := hb5.size
    obtain ⟨hp1, hp2, hp3⟩ := HPAR.out
    rw [← hp3] at ho5
    have hfl := flat_length ta.out
    dsimp only
    go_wp2_with fail
    refine (Same_any v4 v5 (flat ta.out) w5 (((Row.of_own ho4).below hb5).more hs5) (Row.of_own ho5) (by omega)).mono ?_
    rintro e w6 ⟨rfl, hb6⟩
    have hra6 : Rd w6 w1.heap.size ta.c ta.p := kept_rd (kept_rd (kept_rd hra3 hb4 hl3) hb5 (by omega)) hb6 (by omega)
    have hrb6 : Rd w6 (w1.heap.size + 1) t2.c t2.p := kept_rd (kept_rd (kept_rd hrb3 hb4 hl4) hb5 (by omega)) hb6 (by omega)
    rw [hp1, hp2] at hra6
    have hall : Below w.heap.size w w6 := ((hb3.trans (hb4.mono hb3.size)).trans (hb5.mono (by have := hb3.size; omega))).trans (hb6.mono (by have := hb3.size; omega))
    have hC1 := Copying_any _ _ _ _ hra6
    have hC2 := Copying_any _ _ _ _ hrb6
    have hP1 := Prefixed_any _ _ _ _ hra6
    have hP2 := Prefixed_any _ _ _ _ hrb6
    clear ho4 ho5 hb4 hb5 hb6 hp1 hp2 hp3 hra6 hrb6 hra3 hrb3 hxo3 hown hg3 hb3
    dsimp only
    go_wp2_with (first
      | (go_at_call 10; (with_reducible refine hC1.mono ?_); rintro e w' ⟨rfl, rfl⟩)
      | (go_at_call 10; (with_reducible refine hC2.mono ?_); rintro e w' ⟨rfl, rfl⟩)
      | (go_at_call 11; (with_reducible refine hP1.mono ?_); rintro e w' ⟨rfl, rfl⟩)
      | (go_at_call 11; (with_reducible refine hP2.mono ?_); rintro e w' ⟨rfl, rfl⟩))
    go_ret
    exact ⟨rfl, hall⟩
end Go.Proofs.Ytgjbieafjagchaa
