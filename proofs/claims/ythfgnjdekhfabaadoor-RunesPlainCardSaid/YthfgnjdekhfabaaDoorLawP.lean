/- The law RunesParted, walked. -/
import Derived.Test.YthfgnjdekhfabaaDoorLawA
import Derived.OpenShut
namespace Go.Proofs.YthfgnjdekhfabaaDoor
open Go.RowKit Go.Lib Ru
set_option maxRecDepth 100000

theorem place (a : Int) (n : Nat) : ∃ q : Nat, (a.tmod ((n : Int) + 1) + (n : Int) + 1) % ((n : Int) + 1) = (q : Int) ∧ q ≤ n ∧ -(n : Int) ≤ a.tmod ((n : Int) + 1) ∧ a.tmod ((n : Int) + 1) ≤ n := by
  have h := Int.tmod_lt_of_pos a (b := (n : Int) + 1) (by omega)
  have h2 := Int.lt_tmod_of_pos a (b := (n : Int) + 1) (by omega)
  have h3 := Int.emod_nonneg (a.tmod ((n : Int) + 1) + (n : Int) + 1) (b := (n : Int) + 1) (by omega)
  have h4 := Int.emod_lt_of_pos (a.tmod ((n : Int) + 1) + (n : Int) + 1) (b := (n : Int) + 1) (by omega)
  exact ⟨((a.tmod ((n : Int) + 1) + (n : Int) + 1) % ((n : Int) + 1)).toNat, by omega, by omega, by omega, by omega⟩

theorem own_empty (w : World) (n : Nat) (hn : w.heap.size = n) : (w.alloc (.cells #[] 21)).ownsRow n 21 1 (.slice (some ⟨n, 0, none⟩) 0 0) 0 [] := by
  subst hn
  exact ⟨rfl, .inr ⟨w.heap.size, 0, #[], rfl, Nat.le_refl _, Blk.new w _ _, Nat.le_refl _, by unfold maxLen; omega, rfl, rfl⟩⟩

theorem al_len : ∀ (k : Nat) (s : ByteArray), s.size ≤ k → (al s).1.length + (al s).2.size ≤ s.size := by
  intro k
  induction k with
  | zero =>
    intro s h
    rw [al_nil s (by omega)]
    exact Nat.zero_le _
  | succ k ih =>
    intro s h
    by_cases h0 : 0 < s.size
    · have hb := begins_le s h0
      have hn := stp_n s s[0].toNat
      rw [al_pos s h0]
      split
      · simp
      · have h1 : (s.extract (stp s s[0].toNat).2.1 s.size).size = s.size - (stp s s[0].toNat).2.1 := by simp
        have := ih (s.extract (stp s s[0].toNat).2.1 s.size) (by rw [h1]; omega)
        rw [h1] at this
        simp only [List.length_cons]
        omega
    · rw [al_nil s (by omega)]
      exact Nat.zero_le _

theorem dec_len (s : ByteArray) : (dec s).length ≤ s.size := by
  have h := al_len s.size s (Nat.le_refl _)
  unfold al at h
  unfold dec
  rw [List.length_append]
  split
  · simp; omega
  · simp; omega

theorem three_parts (s : ByteArray) (p q : Nat) (hpq : p ≤ q) (hq : q ≤ s.size) : s = s.extract 0 p ++ (s.extract p q ++ s.extract q s.size) := by
  rw [← ByteArray.extract_eq_extract_append_extract q hpq hq, ← ByteArray.extract_eq_extract_append_extract p (Nat.zero_le _) (by omega)]
  simp

/-- What is decoded in three parts is what is decoded at once. -/
theorem dec_three (s : ByteArray) (p q : Nat) (hpq : p ≤ q) (hq : q ≤ s.size) (t1 t2 t3 : List Int × ByteArray)
    (h1 : allF (s.extract 0 p).size (s.extract 0 p) = t1) (h2 : allF (t1.2 ++ s.extract p q).size (t1.2 ++ s.extract p q) = t2)
    (h3 : allF (t2.2 ++ s.extract q s.size).size (t2.2 ++ s.extract q s.size) = t3) :
    dec s = t1.1 ++ t2.1 ++ t3.1 ++ (if t3.2.size = 0 then [] else [65533]) := by
  have e : al s = (t1.1 ++ (t2.1 ++ t3.1), t3.2) := by
    have h := three_parts s p q hpq hq
    have e1 := al_parted _ (s.extract 0 p) (s.extract p q ++ s.extract q s.size) (Nat.le_refl _)
    rw [← h] at e1
    have f1 : al (s.extract 0 p) = t1 := h1
    rw [f1, ← ByteArray.append_assoc] at e1
    have e2 := al_parted _ (t1.2 ++ s.extract p q) (s.extract q s.size) (Nat.le_refl _)
    have f2 : al (t1.2 ++ s.extract p q) = t2 := h2
    have f3 : al (t2.2 ++ s.extract q s.size) = t3 := h3
    rw [f2, f3] at e2
    rw [e2] at e1
    exact e1
  unfold al at e
  unfold dec
  rw [e]
  simp

theorem ones_map (l : ByteArray) : (if l.size = 0 then [] else [Value.int .i32 65533]) = (if l.size = 0 then ([] : List Int) else [65533]).map (Value.int .i32) := by
  split <;> rfl
theorem ones_len (l : ByteArray) : (if l.size = 0 then 0 else 1) = (if l.size = 0 then ([] : List Int) else [65533]).length := by
  split <;> rfl

theorem ints_one (l : List Int) : ∀ u ∈ l.map (Value.int .i32), u.oneCell' = true := by
  intro u hu
  obtain ⟨r, _, rfl⟩ := List.mem_map.1 hu
  rfl

set_option maxHeartbeats 1600000 in
theorem law_P (s : ByteArray) (a b : Int) (w : World) (hT : Lib.Utf8Tabs 0 1 w) (ha : (Lit.int .i64 a).wf = true) (hb : (Lit.int .i64 b).wf = true) :
    Calls Tryd.prog 4 #[.string s, .int .i64 a, .int .i64 b] w fun e w' => e = .returned (.bool true) ∧ Below w.heap.size w w' := by
  obtain ⟨i0, hii, hz0, hz1, hz2⟩ := info_parts info_rune
  have hba := bounds_i64 ha
  have hbb := bounds_i64 hb
  have hsz := sh_size s 60
  obtain ⟨S, hS⟩ : ∃ S, sh s 60 = S := ⟨_, rfl⟩
  rw [hS] at hsz
  have HSH := hide (fun wx => short_any s 60 wx)
  rw [hS] at HSH
  clear hS
  have HTA := hide hT
  clear hT
  obtain ⟨i, hi, hi2, i3, i4⟩ := place a S.size
  obtain ⟨k, hk, hk2, k3, k4⟩ := place b S.size
  go_enter Tryd.func4, Tryd.ntmps4
  go_wp2_with fail
  refine (awake_any _ HTA.out).mono ?_
  rintro e w1 ⟨rfl, b1⟩
  dsimp only
  go_wp2_with fail
  refine (HSH.out _).mono ?_
  rintro e w2 ⟨rfl, rfl⟩
  dsimp only
  obtain ⟨p, hp⟩ : ∃ p : Nat, min (i : Int) (k : Int) = (p : Int) := ⟨min i k, by omega⟩
  obtain ⟨q, hq⟩ : ∃ q : Nat, max (i : Int) (k : Int) = (q : Int) := ⟨max i k, by omega⟩
  have hpq : p ≤ q := by omega
  have hqS : q ≤ S.size := by omega
  have hTw := Utf8Tabs_below HTA.out b1
  have hd1 : Ds (w1.alloc (.cells #[.int .u8 0, .int .u8 0, .int .u8 0, .int .i64 0] 28)) w1.heap.size 0 0 0 0 := Blk.new w1 _ _
  have bA : Below w.heap.size w (w1.alloc (.cells #[.int .u8 0, .int .u8 0, .int .u8 0, .int .i64 0] 28)) := b1.alloc b1.size _
  have hF1 := Feed_any w1.heap.size 0 0 0 0 (S.extract 0 p) _ hd1 (by omega) (by simp; omega) (Utf8Tabs_below HTA.out bA)
  rw [nil_add] at hF1
  have hl1 : (allF (S.extract 0 p).size (S.extract 0 p)).2.size ≤ 3 := allF_left _ _ (Nat.le_refl _)
  have hn1 : (allF (S.extract 0 p).size (S.extract 0 p)).1.length ≤ 70 := Nat.le_trans (allF_len _ _) (by simp; omega)
  obtain ⟨t1, ht1⟩ : ∃ t, allF (S.extract 0 p).size (S.extract 0 p) = t := ⟨_, rfl⟩
  rw [ht1] at hF1 hl1 hn1
  have HT1 := hide ht1
  clear ht1
  have HF1 := hide hF1
  have hup := b1.size
  clear hF1 hd1
  go_wp2_with fail
  refine HF1.out.mono ?_
  rintro e w3 ⟨v1, a1, c1, e1, rfl, o1, ds1, kp1, g1⟩
  have b3 : Below w.heap.size w w3 := bA.grown g1 bA.size (fun x hx => by injection hx with hx; omega)
  have hP1 := Pending_any w1.heap.size a1 c1 e1 _ w3 ds1
  have HP1 := hide hP1
  clear hP1 bA
  dsimp only
  go_wp2_with fail
  refine HP1.out.mono ?_
  rintro e w4 ⟨rfl, rfl⟩
  dsimp only
  have hk1 : (⟨(keptL a1 c1 e1 t1.2.size).toArray⟩ : ByteArray) = t1.2 := by
    apply ByteArray.ext
    rw [kp1]
  have hF2 := Feed_any w1.heap.size a1 c1 e1 _ (S.extract p q) w3 ds1 hl1 (by simp; omega) (Utf8Tabs_below HTA.out b3)
  rw [hk1] at hF2
  have hl2 : (allF (t1.2 ++ S.extract p q).size (t1.2 ++ S.extract p q)).2.size ≤ 3 := allF_left _ _ (Nat.le_refl _)
  obtain ⟨t2, ht2⟩ : ∃ t, allF (t1.2 ++ S.extract p q).size (t1.2 ++ S.extract p q) = t := ⟨_, rfl⟩
  have hn2 : (allF (t1.2 ++ S.extract p q).size (t1.2 ++ S.extract p q)).1.length ≤ 70 := Nat.le_trans (allF_len _ _) (by rw [ByteArray.size_append]; simp; omega)
  rw [ht2] at hF2 hl2 hn2
  have HT2 := hide ht2
  have HF2 := hide hF2
  clear hF2 ht2 hk1 kp1
  go_wp2_with fail
  refine HF2.out.mono ?_
  rintro e w5 ⟨v2, a2, c2, e2, rfl, o2, ds2, kp2, g2⟩
  have b5 : Below w.heap.size w w5 := b3.grown g2 b3.size (fun x hx => by injection hx with hx; omega)
  have o1b := o1.kept g2 (.inr (own_blk_ne o1 ds1 (by decide)))
  have hP2 := Pending_any w1.heap.size a2 c2 e2 _ w5 ds2
  have HP2 := hide hP2
  clear hP2 o1 g1 g2
  dsimp only
  go_wp2_with fail
  refine HP2.out.mono ?_
  rintro e w6 ⟨rfl, rfl⟩
  dsimp only
  have hk2 : (⟨(keptL a2 c2 e2 t2.2.size).toArray⟩ : ByteArray) = t2.2 := by
    apply ByteArray.ext
    rw [kp2]
  have hF3 := Feed_any w1.heap.size a2 c2 e2 _ (S.extract q S.size) w5 ds2 hl2 (by simp; omega) (Utf8Tabs_below HTA.out b5)
  rw [hk2] at hF3
  obtain ⟨t3, ht3⟩ : ∃ t, allF (t2.2 ++ S.extract q S.size).size (t2.2 ++ S.extract q S.size) = t := ⟨_, rfl⟩
  have hn3 : (allF (t2.2 ++ S.extract q S.size).size (t2.2 ++ S.extract q S.size)).1.length ≤ 70 := Nat.le_trans (allF_len _ _) (by rw [ByteArray.size_append]; simp; omega)
  rw [ht3] at hF3 hn3
  have HT3 := hide ht3
  have HF3 := hide hF3
  clear hF3 ht3 hk2 kp2
  go_wp2_with fail
  refine HF3.out.mono ?_
  rintro e w7 ⟨v3, a3, c3, e3, rfl, o3, ds3, kp3, g3⟩
  have b7 : Below w.heap.size w w7 := b5.grown g3 b5.size (fun x hx => by injection hx with hx; omega)
  have o1c := o1b.kept g3 (.inr (own_blk_ne o1b ds2 (by decide)))
  have o2c := o2.kept g3 (.inr (own_blk_ne o2 ds2 (by decide)))
  have hFL := Flush_any w1.heap.size a3 c3 e3 _ w7 ds3
  have HFL := hide hFL
  clear hFL o1b o2 g3 kp3
  dsimp only
  go_wp2_with fail
  refine HFL.out.mono ?_
  rintro e w8 ⟨v4, rfl, o4, ds4, g4⟩
  have b8 : Below w.heap.size w w8 := b7.grown g4 b7.size (fun x hx => by injection hx with hx; omega)
  have o1d := o1c.kept g4 (.inr (own_blk_ne o1c ds3 (by decide)))
  have o2d := o2c.kept g4 (.inr (own_blk_ne o2c ds3 (by decide)))
  have o3d := o3.kept g4 (.inr (own_blk_ne o3 ds3 (by decide)))
  have hone := only_one t3.2
  rw [ones_map] at o4 hone
  rw [ones_len] at o4
  have hD := dec_three S p q hpq hqS t1 t2 t3 HT1.out HT2.out HT3.out
  obtain ⟨nl, hnl⟩ : ∃ l : List Int, (if t3.2.size = 0 then [] else [65533]) = l := ⟨_, rfl⟩
  rw [hnl] at o4 hone hD
  have hm1 : nl.length ≤ 1 := by rw [← hnl]; split <;> simp
  have HDD := hide hD
  have HON := hide hone
  clear hnl hone hD HT1 HT2 HT3
  have hdl := dec_len S
  obtain ⟨x1, y1, rfl⟩ := own_form o1d
  obtain ⟨x2, y2, rfl⟩ := own_form o2d
  obtain ⟨x3, y3, rfl⟩ := own_form o3d
  obtain ⟨x4, y4, rfl⟩ := own_form o4
  have R1 := hide ((Reads.of_own o1d).alloc (Nat.le_refl _) (.cells #[] 21))
  have R2 := hide ((Reads.of_own o2d).alloc (Nat.le_refl _) (.cells #[] 21))
  have R3 := hide ((Reads.of_own o3d).alloc (Nat.le_refl _) (.cells #[] 21))
  have R4 := hide ((Reads.of_own o4).alloc (Nat.le_refl _) (.cells #[] 21))
  have B8 := hide b8
  clear o1d o2d o3d o4 o1c o2c o3 b1 b3 b5 b7 b8 ds1 ds2 ds3 ds4 g4
  dsimp only
  go_wp2_with (at_builtin; refine wpList_append_any _ rfl (.tmp 80) (.tmp 81) 33 rfl w8.heap.size 21 i0 _ 1 4 Tryd.underlying33 hii hz0 hz1 hz2 rfl (by decide) (.slice (some ⟨w8.heap.size, 0, none⟩) 0 0) 0 [] rfl (own_empty w8 _ rfl) w8.heap.size x1 t1.1.length y1 (t1.1.map (Value.int .i32)) rfl R1.out (ints_one _) ?p1 ?q1 ?r1 ?_)
  case p1 => unfold maxLen; omega
  case q1 => omega
  case r1 => simp
  intro u1 W1 oA gA _
  have oA2 : W1.ownsRow w8.heap.size 21 1 u1 t1.1.length (t1.1.map (Value.int .i32)) := by simpa [Nat.add_assoc] using oA
  have z1 : w8.heap.size ≤ W1.heap.size := by have := gA.size; simp at this; omega
  have bA1 : Below w8.heap.size w8 W1 := ((Below.refl _ w8).alloc (Nat.le_refl _) _).grown gA (by simp) (fun x hx => by have h : some w8.heap.size = some x := hx; injection h with h; omega)
  have R2b := hide (R2.out.below (((Below.refl _ _).grown gA (by simp) (fun x hx => by have h : some w8.heap.size = some x := hx; injection h with h; omega))))
  have R3b := hide (R3.out.below (((Below.refl _ _).grown gA (by simp) (fun x hx => by have h : some w8.heap.size = some x := hx; injection h with h; omega))))
  have R4b := hide (R4.out.below (((Below.refl _ _).grown gA (by simp) (fun x hx => by have h : some w8.heap.size = some x := hx; injection h with h; omega))))
  have OA := hide oA2
  have BA1 := hide bA1
  clear oA oA2 gA bA1 R1 R2 R3 R4
  go_wp2_with (at_builtin; refine wpList_append_any _ rfl (.tmp 82) (.tmp 83) 33 rfl w8.heap.size 21 i0 _ 1 4 Tryd.underlying33 hii hz0 hz1 hz2 rfl (by decide) u1 _ _ rfl OA.out w8.heap.size x2 t2.1.length y2 (t2.1.map (Value.int .i32)) rfl R2b.out (ints_one _) ?p2 ?q2 ?r2 ?_)
  case p2 => unfold maxLen; (try simp only [List.length_append]); omega
  case q2 => (try simp only [List.length_append]); omega
  case r2 => omega
  intro u2 W2 oB gB _
  have oB2 : W2.ownsRow w8.heap.size 21 1 u2 (t1.1 ++ t2.1).length ((t1.1 ++ t2.1).map (Value.int .i32)) := by simpa [Nat.add_assoc] using oB
  have z2 : w8.heap.size ≤ W2.heap.size := Nat.le_trans z1 gB.size
  have kB : ∀ g, u1.ownBlock = some g → w8.heap.size ≤ g := fun g hg => (OA.out.lt g hg).1
  have R3c := hide (R3b.out.below ((Below.refl _ _).grown gB (by omega) kB))
  have R4c := hide (R4b.out.below ((Below.refl _ _).grown gB (by omega) kB))
  have OB := hide oB2
  have BB1 := hide (BA1.out.grown gB z1 kB)
  clear oB oB2 gB kB R3b R4b OA BA1
  go_wp2_with (at_builtin; refine wpList_append_any _ rfl (.tmp 84) (.tmp 85) 33 rfl w8.heap.size 21 i0 _ 1 4 Tryd.underlying33 hii hz0 hz1 hz2 rfl (by decide) u2 _ _ rfl OB.out w8.heap.size x3 t3.1.length y3 (t3.1.map (Value.int .i32)) rfl R3c.out (ints_one _) ?p3 ?q3 ?r3 ?_)
  case p3 => unfold maxLen; (try simp only [List.length_append]); omega
  case q3 => (try simp only [List.length_append]); omega
  case r3 => omega
  intro u3 W3 oC gC _
  have oC2 : W3.ownsRow w8.heap.size 21 1 u3 (t1.1 ++ t2.1 ++ t3.1).length ((t1.1 ++ t2.1 ++ t3.1).map (Value.int .i32)) := by simpa [Nat.add_assoc] using oC
  have z3 : w8.heap.size ≤ W3.heap.size := Nat.le_trans z2 gC.size
  have kC : ∀ g, u2.ownBlock = some g → w8.heap.size ≤ g := fun g hg => (OB.out.lt g hg).1
  have R4d := hide (R4c.out.below ((Below.refl _ _).grown gC (by omega) kC))
  have OC := hide oC2
  have BC1 := hide (BB1.out.grown gC z2 kC)
  clear oC oC2 gC kC R4c OB BB1
  go_wp2_with (at_builtin; refine wpList_append_any _ rfl (.tmp 86) (.tmp 87) 33 rfl w8.heap.size 21 i0 _ 1 4 Tryd.underlying33 hii hz0 hz1 hz2 rfl (by decide) u3 _ _ rfl OC.out w8.heap.size x4 nl.length y4 (nl.map (Value.int .i32)) rfl R4d.out HON.out ?p4 ?q4 ?r4 ?_)
  case p4 => unfold maxLen; (try simp only [List.length_append]); omega
  case q4 => (try simp only [List.length_append]); omega
  case r4 => omega
  intro u4 W4 oD gD _
  have oD2 : W4.ownsRow w8.heap.size 21 1 u4 (dec S).length ((dec S).map (Value.int .i32)) := by rw [HDD.out]; simpa [Nat.add_assoc] using oD
  clear oD
  have kD : ∀ g, u3.ownBlock = some g → w8.heap.size ≤ g := fun g hg => (OC.out.lt g hg).1
  have BD1 := BC1.out.grown gD z3 kD
  have BF : Below w.heap.size w W4 := B8.out.trans (BD1.mono B8.out.size)
  obtain ⟨x5, y5, rfl⟩ := own_form oD2
  have r5 := Row.of_own oD2
  have HR5 := hide r5
  have HBF := hide BF
  have HDC := hide (Decode_any S W4 (by omega) (Utf8Tabs_below HTA.out BF))
  have hdl3 : ((dec S).length : Int) ≤ (S.size : Int) := by omega
  have hdl4 : decide ((dec S).length ≤ S.size) = true := decide_eq_true hdl
  have j1 : (t1.2.size : Int) ≤ 3 := by omega
  have j2 : (t2.2.size : Int) ≤ 3 := by omega
  have j3 : (0 : Int) ≤ (t1.2.size : Int) := by omega
  have j4 : (0 : Int) ≤ (t2.2.size : Int) := by omega
  clear oD2 gD kD BC1 OC R4d BD1 BF r5 HON
  obtain ⟨L, hL⟩ : ∃ L, dec S = L := ⟨_, rfl⟩
  have HL := hide hL
  rw [hL] at HR5 hdl hdl3 hdl4 ⊢
  clear hL
  go_wp2_with fail
  refine HDC.out.mono ?_
  rintro e W5 ⟨v5, rfl, o5, b5⟩
  rw [HL.out] at o5
  have r5 := HR5.out.below b5
  have r6 := Row.of_own o5
  have HSM := hide (Same_any _ v5 L W5 (r5.more b5.size) r6 (by omega))
  have HB5 := hide (HBF.out.trans (b5.mono HBF.out.size))
  clear o5 b5 r5 r6
  dsimp only
  go_wp2_with fail
  refine HSM.out.mono ?_
  rintro e W6 ⟨rfl, b6⟩
  have HB6 := hide (HB5.out.trans (b6.mono HB5.out.size))
  clear b6
  dsimp only
  go_wp2
  go_ret
  exact ⟨rfl, HB6.out⟩
end Go.Proofs.YthfgnjdekhfabaaDoor
