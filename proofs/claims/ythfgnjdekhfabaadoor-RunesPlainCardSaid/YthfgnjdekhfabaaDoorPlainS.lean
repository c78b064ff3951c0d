/- The plain mathematics of sequences: a whole sequence, what it is decoded to, how a character is encoded. No program occurs here. -/
import Derived.Test.YthfgnjdekhfabaaDoorPlain
import Derived.Lib.RuneBytes
namespace Go.Proofs.YthfgnjdekhfabaaDoor
namespace Ru

theorem low_ge (f : Nat) : 128 ≤ low f := by
  unfold low
  repeat' split
  all_goals omega
theorem high_le (f : Nat) : high f ≤ 191 := by
  unfold high
  repeat' split
  all_goals omega

/-- A whole sequence: its first byte, those that follow, the character that it is. -/
inductive IsSeq : UInt8 → List UInt8 → Nat → Prop
  | one (f : UInt8) (h : f.toNat < 128) : IsSeq f [] f.toNat
  | two (f b : UInt8) (h1 : 194 ≤ f.toNat) (h2 : f.toNat < 224) (b1 : 128 ≤ b.toNat) (b2 : b.toNat ≤ 191) : IsSeq f [b] ((f.toNat - 192) * 64 + (b.toNat - 128))
  | three (f b c : UInt8) (h1 : 224 ≤ f.toNat) (h2 : f.toNat < 240) (b1 : low f.toNat ≤ b.toNat) (b2 : b.toNat ≤ high f.toNat) (c1 : 128 ≤ c.toNat) (c2 : c.toNat ≤ 191) :
      IsSeq f [b, c] (((f.toNat - 224) * 64 + (b.toNat - 128)) * 64 + (c.toNat - 128))
  | four (f b c d : UInt8) (h1 : 240 ≤ f.toNat) (h2 : f.toNat ≤ 244) (b1 : low f.toNat ≤ b.toNat) (b2 : b.toNat ≤ high f.toNat) (c1 : 128 ≤ c.toNat) (c2 : c.toNat ≤ 191) (d1 : 128 ≤ d.toNat) (d2 : d.toNat ≤ 191) :
      IsSeq f [b, c, d] ((((f.toNat - 240) * 64 + (b.toNat - 128)) * 64 + (c.toNat - 128)) * 64 + (d.toNat - 128))

theorem goOn_one (f n i : Nat) (r : List UInt8) (h : goOn f n i r = n) (hi : i < n) :
    ∃ b r', r = b :: r' ∧ (i = 1 → low f ≤ b.toNat ∧ b.toNat ≤ high f) ∧ (128 ≤ b.toNat ∧ b.toNat ≤ 191) ∧ goOn f n (i + 1) r' = n := by
  cases r with
  | nil => unfold goOn at h; omega
  | cons b r' =>
    unfold goOn at h
    split at h
    · rename_i hc
      exact ⟨b, r', rfl, fun e => of_decide_eq_true (hc.2.1 e), of_decide_eq_true hc.2.2, h⟩
    · omega

theorem goOn_next (f n i : Nat) (b : UInt8) (r : List UInt8) (hi : i < n) (h1 : i = 1 → low f ≤ b.toNat ∧ b.toNat ≤ high f) (h2 : 128 ≤ b.toNat ∧ b.toNat ≤ 191) :
    goOn f n i (b :: r) = goOn f n (i + 1) r := by
  conv => lhs; unfold goOn
  rw [if_pos ⟨hi, fun e => decide_eq_true (h1 e), decide_eq_true h2⟩]

theorem goOn_end (f n : Nat) (r : List UInt8) : goOn f n n r = n := by
  cases r with
  | nil => rfl
  | cons b t => unfold goOn; rw [if_neg (by omega)]

theorem size_cases (f : Nat) : (f < 128 ∧ size f = 1) ∨ (194 ≤ f ∧ f < 224 ∧ size f = 2) ∨ (224 ≤ f ∧ f < 240 ∧ size f = 3) ∨ (240 ≤ f ∧ f ≤ 244 ∧ size f = 4) ∨ size f = 0 := by
  unfold size
  repeat' split
  all_goals omega

/-- What begins a text and is whole is a whole sequence. -/
theorem seq_of_begins (f : UInt8) (r : List UInt8) (h : begins (f :: r) = size f.toNat) (hz : size f.toNat ≠ 0) : ∃ t v y, r = t ++ y ∧ IsSeq f t v ∧ t.length + 1 = size f.toNat := by
  have hb : goOn f.toNat (size f.toNat) 1 r = size f.toNat := h
  rcases size_cases f.toNat with ⟨h1, e⟩ | ⟨h1, h2, e⟩ | ⟨h1, h2, e⟩ | ⟨h1, h2, e⟩ | e
  · exact ⟨[], _, r, rfl, .one f h1, by rw [e]; rfl⟩
  · rw [e] at hb
    obtain ⟨b, r1, rfl, _, hb2, _⟩ := goOn_one _ _ _ _ hb (by omega)
    exact ⟨[b], _, r1, rfl, .two f b h1 h2 hb2.1 hb2.2, by rw [e]; rfl⟩
  · rw [e] at hb
    obtain ⟨b, r1, rfl, hb1, _, hb⟩ := goOn_one _ _ _ _ hb (by omega)
    obtain ⟨c, r2, rfl, _, hc2, _⟩ := goOn_one _ _ _ _ hb (by omega)
    exact ⟨[b, c], _, r2, rfl, .three f b c h1 h2 (hb1 rfl).1 (hb1 rfl).2 hc2.1 hc2.2, by rw [e]; rfl⟩
  · rw [e] at hb
    obtain ⟨b, r1, rfl, hb1, _, hb⟩ := goOn_one _ _ _ _ hb (by omega)
    obtain ⟨c, r2, rfl, _, hc2, hb⟩ := goOn_one _ _ _ _ hb (by omega)
    obtain ⟨d, r3, rfl, _, hd2, _⟩ := goOn_one _ _ _ _ hb (by omega)
    exact ⟨[b, c, d], _, r3, rfl, .four f b c d h1 h2 (hb1 rfl).1 (hb1 rfl).2 hc2.1 hc2.2 hd2.1 hd2.2, by rw [e]; rfl⟩
  · exact absurd e hz

/-- A whole sequence begins any text that it stands ahead of. -/
theorem begins_of_seq {f : UInt8} {t : List UInt8} {v : Nat} (h : IsSeq f t v) (y : List UInt8) : begins (f :: (t ++ y)) = t.length + 1 ∧ size f.toNat = t.length + 1 := by
  have hl := low_ge f.toNat
  have hh := high_le f.toNat
  cases h with
  | one h =>
    have e : size f.toNat = 1 := by unfold size; rw [if_pos h]
    refine ⟨?_, e⟩
    show goOn f.toNat (size f.toNat) 1 _ = _
    rw [e]
    exact goOn_end _ _ _
  | two b h1 h2 b1 b2 =>
    have e : size f.toNat = 2 := by unfold size; rw [if_neg (by omega), if_neg (by omega), if_pos h2]
    refine ⟨?_, e⟩
    show goOn f.toNat (size f.toNat) 1 _ = _
    rw [e]
    show goOn f.toNat 2 1 (b :: y) = 2
    have hf : 128 ≤ low f.toNat ∧ low f.toNat = 128 ∧ high f.toNat = 191 := by
      unfold low high
      rw [if_neg (by omega), if_neg (by omega), if_neg (by omega), if_neg (by omega)]
      omega
    rw [goOn_next _ _ _ _ _ (by omega) (fun _ => by omega) ⟨b1, b2⟩]
    exact goOn_end _ _ _
  | three b c h1 h2 b1 b2 c1 c2 =>
    have e : size f.toNat = 3 := by unfold size; rw [if_neg (by omega), if_neg (by omega), if_neg (by omega), if_pos h2]
    refine ⟨?_, e⟩
    show goOn f.toNat (size f.toNat) 1 _ = _
    rw [e]
    show goOn f.toNat 3 1 (b :: c :: y) = 3
    rw [goOn_next _ _ _ _ _ (by omega) (fun _ => ⟨b1, b2⟩) ⟨by omega, by omega⟩, goOn_next _ _ _ _ _ (by omega) (fun e => by omega) ⟨c1, c2⟩]
    exact goOn_end _ _ _
  | four b c d h1 h2 b1 b2 c1 c2 d1 d2 =>
    have e : size f.toNat = 4 := by unfold size; rw [if_neg (by omega), if_neg (by omega), if_neg (by omega), if_neg (by omega)]
    refine ⟨?_, e⟩
    show goOn f.toNat (size f.toNat) 1 _ = _
    rw [e]
    show goOn f.toNat 4 1 (b :: c :: d :: y) = 4
    rw [goOn_next _ _ _ _ _ (by omega) (fun _ => ⟨b1, b2⟩) ⟨by omega, by omega⟩, goOn_next _ _ _ _ _ (by omega) (fun e => by omega) ⟨c1, c2⟩, goOn_next _ _ _ _ _ (by omega) (fun e => by omega) ⟨d1, d2⟩]
    exact goOn_end _ _ _

/-- Has a character a sequence? -/
def okR (r : Int) : Bool := decide ((0 ≤ r ∧ r < 55296) ∨ (57344 ≤ r ∧ r ≤ 1114111))
/-- What a character is encoded as. -/
def fix (r : Int) : Int := if okR r = true then r else 65533

theorem seq_facts (f : Nat) (h : 224 ≤ f) : (f = 224 → low f = 160) ∧ (f = 237 → high f = 159) ∧ (f = 240 → low f = 144) ∧ (f = 244 → high f = 143) := by
  refine ⟨?_, ?_, ?_, ?_⟩ <;> (rintro rfl; rfl)

theorem u8_back (x : Int) (b : UInt8) (h : x = b.toNat) : x.toNat.toUInt8 = b := by
  subst h
  simp

/-- A whole sequence's character has it for its sequence, and is one. -/
theorem encode_of_seq {f : UInt8} {t : List UInt8} {v : Nat} (h : IsSeq f t v) : Lib.encodeRune v = f :: t ∧ okR v = true := by
  have hl := low_ge f.toNat
  have hh := high_le f.toNat
  have hf := f.toNat_lt
  cases h with
  | one h =>
    refine ⟨?_, decide_eq_true (by omega)⟩
    unfold Lib.encodeRune
    rw [Lib.encodeRuneZ_one (by omega) (by omega)]
    simp
  | two b h1 h2 b1 b2 =>
    refine ⟨?_, decide_eq_true (by omega)⟩
    unfold Lib.encodeRune
    rw [Lib.encodeRuneZ_two (by omega) (by omega)]
    rw [List.map_cons, List.map_cons, List.map_nil, u8_back _ f (by omega), u8_back _ b (by omega)]
  | three b c h1 h2 b1 b2 c1 c2 =>
    have hs := seq_facts f.toNat h1
    have hv : (2048 ≤ (((f.toNat - 224) * 64 + (b.toNat - 128)) * 64 + (c.toNat - 128)) ∧ (((f.toNat - 224) * 64 + (b.toNat - 128)) * 64 + (c.toNat - 128)) < 55296) ∨ (57343 < (((f.toNat - 224) * 64 + (b.toNat - 128)) * 64 + (c.toNat - 128)) ∧ (((f.toNat - 224) * 64 + (b.toNat - 128)) * 64 + (c.toNat - 128)) ≤ 65535) := by
      by_cases a1 : f.toNat = 224
      · have := hs.1 a1; omega
      · by_cases a2 : f.toNat = 237
        · have := hs.2.1 a2; omega
        · omega
    refine ⟨?_, decide_eq_true (by omega)⟩
    unfold Lib.encodeRune
    rw [Lib.encodeRuneZ_three (by omega)]
    rw [List.map_cons, List.map_cons, List.map_cons, List.map_nil, u8_back _ f (by omega), u8_back _ b (by omega), u8_back _ c (by omega)]
  | four b c d h1 h2 b1 b2 c1 c2 d1 d2 =>
    have hs := seq_facts f.toNat (by omega)
    have hv : 65536 ≤ ((((f.toNat - 240) * 64 + (b.toNat - 128)) * 64 + (c.toNat - 128)) * 64 + (d.toNat - 128)) ∧ ((((f.toNat - 240) * 64 + (b.toNat - 128)) * 64 + (c.toNat - 128)) * 64 + (d.toNat - 128)) ≤ 1114111 := by
      by_cases a1 : f.toNat = 240
      · have := hs.2.2.1 a1; omega
      · by_cases a2 : f.toNat = 244
        · have := hs.2.2.2 a2; omega
        · omega
    refine ⟨?_, decide_eq_true (by omega)⟩
    unfold Lib.encodeRune
    rw [Lib.encodeRuneZ_four (by omega) (by omega)]
    rw [List.map_cons, List.map_cons, List.map_cons, List.map_cons, List.map_nil, u8_back _ f (by omega), u8_back _ b (by omega), u8_back _ c (by omega), u8_back _ d (by omega)]

theorem u8_val (x : Int) (_h0 : 0 ≤ x) (h1 : x < 256) : (x.toNat.toUInt8).toNat = x.toNat := by
  simp
  omega

theorem low_128 (f : Nat) (h1 : f ≠ 224) (h2 : f ≠ 240) : low f = 128 := by unfold low; rw [if_neg h1, if_neg h2]
theorem high_191 (f : Nat) (h1 : f ≠ 237) (h2 : f ≠ 244) : high f = 191 := by unfold high; rw [if_neg h1, if_neg h2]

theorem seq_bad : IsSeq 239 [191, 189] 65533 := IsSeq.three 239 191 189 (by decide) (by decide) (by decide) (by decide) (by decide) (by decide)

/-- Every character is encoded as a whole sequence. -/
theorem seq_of_rune (r : Int) : ∃ f t v, Lib.encodeRune r = f :: t ∧ IsSeq f t v ∧ (v : Int) = fix r := by
  by_cases hk : okR r = true
  · have hr := of_decide_eq_true hk
    have hfix : fix r = r := by unfold fix; rw [if_pos hk]
    rw [hfix]
    by_cases c1 : r ≤ 127
    · refine ⟨r.toNat.toUInt8, [], _, ?_, .one _ ?_, ?_⟩
      · unfold Lib.encodeRune; rw [Lib.encodeRuneZ_one (by omega) c1]; rfl
      · rw [u8_val _ (by omega) (by omega)]; omega
      · rw [u8_val _ (by omega) (by omega)]; omega
    · by_cases c2 : r ≤ 2047
      · have f1 := u8_val (192 + r / 64) (by omega) (by omega)
        have f2 := u8_val (128 + r % 64) (by omega) (by omega)
        refine ⟨(192 + r / 64).toNat.toUInt8, [(128 + r % 64).toNat.toUInt8], _, ?_, .two _ _ ?_ ?_ ?_ ?_, ?_⟩
        · unfold Lib.encodeRune; rw [Lib.encodeRuneZ_two (by omega) c2]; rfl
        all_goals (try rw [f1]); (try rw [f2]); omega
      · by_cases c3 : r ≤ 65535
        · have f1 := u8_val (224 + r / 4096) (by omega) (by omega)
          have f2 := u8_val (128 + r / 64 % 64) (by omega) (by omega)
          have f3 := u8_val (128 + r % 64) (by omega) (by omega)
          have hlo : low (224 + r / 4096).toNat ≤ (128 + r / 64 % 64).toNat := by
            by_cases a : r / 4096 = 0
            · rw [a]; show 160 ≤ _; omega
            · rw [low_128 _ (by omega) (by omega)]; omega
          have hhi : (128 + r / 64 % 64).toNat ≤ high (224 + r / 4096).toNat := by
            by_cases a : r / 4096 = 13
            · rw [a]; show _ ≤ 159; omega
            · rw [high_191 _ (by omega) (by omega)]; omega
          refine ⟨(224 + r / 4096).toNat.toUInt8, [(128 + r / 64 % 64).toNat.toUInt8, (128 + r % 64).toNat.toUInt8], _, ?_, .three _ _ _ ?_ ?_ ?_ ?_ ?_ ?_, ?_⟩
          · unfold Lib.encodeRune; rw [Lib.encodeRuneZ_three (by omega)]; rfl
          · rw [f1]; omega
          · rw [f1]; omega
          · rw [f1, f2]; exact hlo
          · rw [f1, f2]; exact hhi
          · rw [f3]; omega
          · rw [f3]; omega
          · rw [f1, f2, f3]; omega
        · have f1 := u8_val (240 + r / 262144) (by omega) (by omega)
          have f2 := u8_val (128 + r / 4096 % 64) (by omega) (by omega)
          have f3 := u8_val (128 + r / 64 % 64) (by omega) (by omega)
          have f4 := u8_val (128 + r % 64) (by omega) (by omega)
          have hlo : low (240 + r / 262144).toNat ≤ (128 + r / 4096 % 64).toNat := by
            by_cases a : r / 262144 = 0
            · rw [a]; show 144 ≤ _; omega
            · rw [low_128 _ (by omega) (by omega)]; omega
          have hhi : (128 + r / 4096 % 64).toNat ≤ high (240 + r / 262144).toNat := by
            by_cases a : r / 262144 = 4
            · rw [a]; show _ ≤ 143; omega
            · rw [high_191 _ (by omega) (by omega)]; omega
          refine ⟨(240 + r / 262144).toNat.toUInt8, [(128 + r / 4096 % 64).toNat.toUInt8, (128 + r / 64 % 64).toNat.toUInt8, (128 + r % 64).toNat.toUInt8], _, ?_, .four _ _ _ _ ?_ ?_ ?_ ?_ ?_ ?_ ?_ ?_, ?_⟩
          · unfold Lib.encodeRune; rw [Lib.encodeRuneZ_four (by omega) (by omega)]; rfl
          · rw [f1]; omega
          · rw [f1]; omega
          · rw [f1, f2]; exact hlo
          · rw [f1, f2]; exact hhi
          · rw [f3]; omega
          · rw [f3]; omega
          · rw [f4]; omega
          · rw [f4]; omega
          · rw [f1, f2, f3, f4]; omega
  · have hr : ¬ ((0 ≤ r ∧ r < 55296) ∨ (57344 ≤ r ∧ r ≤ 1114111)) := fun h => hk (decide_eq_true h)
    have hfix : fix r = 65533 := by unfold fix; rw [if_neg hk]
    rw [hfix]
    refine ⟨239, [191, 189], 65533, ?_, seq_bad, rfl⟩
    unfold Lib.encodeRune
    rw [Lib.encodeRuneZ_bad (by omega)]
    rfl

/-- A whole sequence is decoded to its character. -/
theorem decode_of_seq {f : UInt8} {t : List UInt8} {v : Nat} (h : IsSeq f t v) : Utf8.decode ⟨(f :: t).toArray⟩ 0 = (v, t.length + 1) := by
  have hl := low_ge f.toNat
  have hh := high_le f.toNat
  cases h with
  | one h =>
    unfold Utf8.decode
    show (if f.toNat < 128 then _ else _) = _
    rw [if_pos h]
    rfl
  | two b h1 h2 b1 b2 =>
    have a1 : (f.toNat / 32 == 6) = true := by rw [beq_iff_eq]; omega
    have a2 : (b.toNat / 64 == 2) = true := by rw [beq_iff_eq]; omega
    unfold Utf8.decode
    show (if f.toNat < 128 then _ else if (f.toNat / 32 == 6 && (true && (b.toNat / 64 == 2))) = true then (if f.toNat % 32 * 64 + b.toNat % 64 ≥ 128 then (f.toNat % 32 * 64 + b.toNat % 64, 2) else _) else _) = _
    rw [if_neg (by omega), a1, a2, if_pos (by decide), if_pos (by omega)]
    refine Prod.ext ?_ rfl
    show f.toNat % 32 * 64 + b.toNat % 64 = (f.toNat - 192) * 64 + (b.toNat - 128)
    omega
  | three b c h1 h2 b1 b2 c1 c2 =>
    have hs := seq_facts f.toNat h1
    have a0 : (f.toNat / 32 == 6) = false := by rw [beq_eq_false_iff_ne]; omega
    have a1 : (f.toNat / 16 == 14) = true := by rw [beq_iff_eq]; omega
    have a2 : (b.toNat / 64 == 2) = true := by rw [beq_iff_eq]; omega
    have a3 : (c.toNat / 64 == 2) = true := by rw [beq_iff_eq]; omega
    have hv : f.toNat % 16 * 4096 + b.toNat % 64 * 64 + c.toNat % 64 = ((f.toNat - 224) * 64 + (b.toNat - 128)) * 64 + (c.toNat - 128) := by omega
    have hb : 2048 ≤ ((f.toNat - 224) * 64 + (b.toNat - 128)) * 64 + (c.toNat - 128) ∧ ((((f.toNat - 224) * 64 + (b.toNat - 128)) * 64 + (c.toNat - 128)) < 55296 ∨ (57344 ≤ (((f.toNat - 224) * 64 + (b.toNat - 128)) * 64 + (c.toNat - 128)) ∧ (((f.toNat - 224) * 64 + (b.toNat - 128)) * 64 + (c.toNat - 128)) ≤ 65535)) := by
      by_cases e1 : f.toNat = 224
      · have := hs.1 e1; omega
      · by_cases e2 : f.toNat = 237
        · have := hs.2.1 e2; omega
        · omega
    unfold Utf8.decode
    show (if f.toNat < 128 then _ else if (f.toNat / 32 == 6 && _) = true then _ else if (f.toNat / 16 == 14 && (true && (b.toNat / 64 == 2)) && (true && (c.toNat / 64 == 2))) = true then (if (decide (f.toNat % 16 * 4096 + b.toNat % 64 * 64 + c.toNat % 64 ≥ 2048) && Utf8.valid ((f.toNat % 16 * 4096 + b.toNat % 64 * 64 + c.toNat % 64 : Nat) : Int)) = true then (f.toNat % 16 * 4096 + b.toNat % 64 * 64 + c.toNat % 64, 3) else _) else _) = _
    rw [hv]
    generalize ((f.toNat - 224) * 64 + (b.toNat - 128)) * 64 + (c.toNat - 128) = v at hb ⊢
    have hva : Utf8.valid (v : Int) = true := by
      unfold Utf8.valid
      rw [Bool.or_eq_true, Bool.and_eq_true, Bool.and_eq_true, decide_eq_true_iff, decide_eq_true_iff, decide_eq_true_iff, decide_eq_true_iff]
      omega
    have hvb : decide (v ≥ 2048) = true := decide_eq_true hb.1
    rw [if_neg (by omega), a0, if_neg (by simp), a1, a2, a3, if_pos (by decide), hva, hvb, if_pos (by decide)]
    rfl
  | four b c d h1 h2 b1 b2 c1 c2 d1 d2 =>
    have hs := seq_facts f.toNat (by omega)
    have a0 : (f.toNat / 32 == 6) = false := by rw [beq_eq_false_iff_ne]; omega
    have a00 : (f.toNat / 16 == 14) = false := by rw [beq_eq_false_iff_ne]; omega
    have a1 : (f.toNat / 8 == 30) = true := by rw [beq_iff_eq]; omega
    have a2 : (b.toNat / 64 == 2) = true := by rw [beq_iff_eq]; omega
    have a3 : (c.toNat / 64 == 2) = true := by rw [beq_iff_eq]; omega
    have a4 : (d.toNat / 64 == 2) = true := by rw [beq_iff_eq]; omega
    have hv : f.toNat % 8 * 262144 + b.toNat % 64 * 4096 + c.toNat % 64 * 64 + d.toNat % 64 = (((f.toNat - 240) * 64 + (b.toNat - 128)) * 64 + (c.toNat - 128)) * 64 + (d.toNat - 128) := by omega
    have hb : 65536 ≤ (((f.toNat - 240) * 64 + (b.toNat - 128)) * 64 + (c.toNat - 128)) * 64 + (d.toNat - 128) ∧ (((f.toNat - 240) * 64 + (b.toNat - 128)) * 64 + (c.toNat - 128)) * 64 + (d.toNat - 128) ≤ 1114111 := by
      by_cases e1 : f.toNat = 240
      · have := hs.2.2.1 e1; omega
      · by_cases e2 : f.toNat = 244
        · have := hs.2.2.2 e2; omega
        · omega
    unfold Utf8.decode
    show (if f.toNat < 128 then _ else if (f.toNat / 32 == 6 && _) = true then _ else if (f.toNat / 16 == 14 && _ && _) = true then _ else if (f.toNat / 8 == 30 && (true && (b.toNat / 64 == 2)) && (true && (c.toNat / 64 == 2)) && (true && (d.toNat / 64 == 2))) = true then (if (decide (f.toNat % 8 * 262144 + b.toNat % 64 * 4096 + c.toNat % 64 * 64 + d.toNat % 64 ≥ 65536) && Utf8.valid ((f.toNat % 8 * 262144 + b.toNat % 64 * 4096 + c.toNat % 64 * 64 + d.toNat % 64 : Nat) : Int)) = true then (f.toNat % 8 * 262144 + b.toNat % 64 * 4096 + c.toNat % 64 * 64 + d.toNat % 64, 4) else _) else _) = _
    rw [hv]
    generalize (((f.toNat - 240) * 64 + (b.toNat - 128)) * 64 + (c.toNat - 128)) * 64 + (d.toNat - 128) = v at hb ⊢
    have hva : Utf8.valid (v : Int) = true := by
      unfold Utf8.valid
      rw [Bool.or_eq_true, Bool.and_eq_true, Bool.and_eq_true, decide_eq_true_iff, decide_eq_true_iff, decide_eq_true_iff, decide_eq_true_iff]
      omega
    have hvb : decide (v ≥ 65536) = true := decide_eq_true hb.1
    rw [if_neg (by omega), a0, if_neg (by simp), a00, if_neg (by simp), a1, a2, a3, a4, if_pos (by decide), hva, hvb, if_pos (by decide)]
    rfl
end Ru
end Go.Proofs.YthfgnjdekhfabaaDoor
