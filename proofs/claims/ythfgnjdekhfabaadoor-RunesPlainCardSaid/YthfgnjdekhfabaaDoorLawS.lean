/- The plain law of the runes layer: what is encoded is decoded; what was decoded is clean. -/
import Derived.Test.YthfgnjdekhfabaaDoorLawP
import Derived.Test.YthfgnjdekhfabaaDoorWalkK
namespace Go.Proofs.YthfgnjdekhfabaaDoor
open Go.RowKit Ru

/-- A text of these bytes. -/
def txt (l : List UInt8) : ByteArray := ⟨l.toArray⟩
theorem txt_list (l : List UInt8) : (txt l).data.toList = l := by simp [txt]
theorem txt_size (l : List UInt8) : (txt l).size = l.length := by show l.toArray.size = l.length; simp
theorem txt_of (s : ByteArray) : txt s.data.toList = s := by
  apply ByteArray.ext
  show s.data.toList.toArray = s.data
  simp
theorem txt_app (x y : List UInt8) : txt (x ++ y) = txt x ++ txt y := by
  apply ByteArray.ext
  rw [ByteArray.data_append]
  show (x ++ y).toArray = x.toArray ++ y.toArray
  simp
theorem txt_head (l : List UInt8) (n : Nat) : (txt l).extract 0 n = txt (l.take n) := by
  apply ByteArray.ext
  rw [ByteArray.data_extract]
  show l.toArray.extract 0 n = (l.take n).toArray
  simp
theorem txt_rest (l : List UInt8) (n : Nat) : (txt l).extract n (txt l).size = txt (l.drop n) := by
  apply ByteArray.ext
  rw [ByteArray.data_extract, txt_size]
  show l.toArray.extract n l.length = (l.drop n).toArray
  apply Array.toList_inj.1
  rw [Array.toList_extract]
  simp only [List.extract_eq_take_drop]
  rw [List.take_of_length_le (by rw [List.length_drop]; exact Nat.le_refl _)]

theorem stp_seq {f : UInt8} {t : List UInt8} {v : Nat} (h : IsSeq f t v) (y : List UInt8) : stp (txt (f :: (t ++ y))) f.toNat = ((v : Int), t.length + 1, false) := by
  have hb := begins_of_seq h y
  unfold stp
  rw [txt_list, hb.1, if_pos hb.2.symm]
  have e : (txt (f :: (t ++ y))).extract 0 (t.length + 1) = txt (f :: t) := by
    rw [txt_head, List.take_succ_cons, List.take_left]
  have hd := decode_of_seq h
  have e2 : Lib.decodeGo (txt (f :: t)) = (v, t.length + 1) := by
    unfold Lib.decodeGo
    rw [if_neg (by rw [txt_size]; simp)]
    exact hd
  rw [e, e2]

theorem get_zero (s : ByteArray) (f : UInt8) (r : List UInt8) (h : s.data.toList = f :: r) (h0 : 0 < s.size) : s[0] = f := by
  have h2 := get_bytes s 0 h0
  rw [List.drop_zero, h] at h2
  injection h2 with h3 _
  exact h3.symm

theorem al_seq {f : UInt8} {t : List UInt8} {v : Nat} (h : IsSeq f t v) (y : List UInt8) : al (txt (f :: (t ++ y))) = ((v : Int) :: (al (txt y)).1, (al (txt y)).2) := by
  have h0 : 0 < (txt (f :: (t ++ y))).size := by rw [txt_size]; simp
  have hg := get_zero _ f (t ++ y) (txt_list _) h0
  rw [al_pos _ h0, hg, stp_seq h y, if_neg (fun e => by cases e)]
  dsimp only
  have e : (txt (f :: (t ++ y))).extract (t.length + 1) (txt (f :: (t ++ y))).size = txt y := by
    rw [txt_rest, List.drop_succ_cons, List.drop_left]
  rw [e]

theorem al_enc : ∀ (l : List Int) (y : List UInt8), al (txt (enc l ++ y)) = (l.map fix ++ (al (txt y)).1, (al (txt y)).2) := by
  intro l
  induction l with
  | nil => intro y; simp [enc]
  | cons r l ih =>
    intro y
    obtain ⟨f, t, v, he, hs, hv⟩ := seq_of_rune r
    have e : enc (r :: l) ++ y = f :: (t ++ (enc l ++ y)) := by
      have : enc (r :: l) = Lib.encodeRune r ++ enc l := by simp [enc]
      rw [this, he]
      simp
    rw [e, al_seq hs, ih, hv]
    simp

theorem al_empty : al (txt []) = ([], ⟨#[]⟩) := al_nil _ rfl

theorem al_enc_all (l : List Int) : al (txt (enc l)) = (l.map fix, ⟨#[]⟩) := by
  have h := al_enc l []
  rw [List.append_nil, al_empty, List.append_nil] at h
  exact h

theorem dec_al (s : ByteArray) : dec s = (al s).1 ++ (if (al s).2.size = 0 then [] else [65533]) := rfl

/-- What was encoded is decoded. -/
theorem dec_enc (l : List Int) : dec (txt (enc l)) = l.map fix := by
  rw [dec_al, al_enc_all]
  show l.map fix ++ [] = l.map fix
  rw [List.append_nil]

/-- Two texts, of which the first is whole, are decoded apart. -/
theorem dec_apart (l : List Int) (y : List UInt8) : dec (txt (enc l ++ y)) = l.map fix ++ dec (txt y) := by
  rw [dec_al, al_enc, dec_al]
  simp

theorem fix_ok (r : Int) : okR (fix r) = true := by
  unfold fix
  split
  · assumption
  · rfl

/-- A text's first step: a whole sequence; or a byte, or some, that are none. -/
theorem stp_ways (s : ByteArray) (h0 : 0 < s.size) : (∃ f t v y, s = txt (f :: (t ++ y)) ∧ IsSeq f t v ∧ stp s s[0].toNat = ((v : Int), t.length + 1, false)) ∨ (stp s s[0].toNat).1 = 65533 := by
  have hx := get_bytes s 0 h0
  rw [List.drop_zero] at hx
  have hb := begins_le s h0
  by_cases hz : begins s.data.toList = size s[0].toNat
  · left
    have hb2 : begins (s[0] :: s.data.toList.drop 1) = size s[0].toNat := by rw [← hx]; exact hz
    obtain ⟨t, v, y, hr, hs, _⟩ := seq_of_begins s[0] _ hb2 (by omega)
    have e : s = txt (s[0] :: (t ++ y)) := by
      rw [← hr, ← hx]
      exact (txt_of s).symm
    refine ⟨s[0], t, v, y, e, hs, ?_⟩
    have := stp_seq hs y
    rw [← e] at this
    exact this
  · right
    unfold stp
    rw [if_neg hz]

theorem al_ok : ∀ (k : Nat) (s : ByteArray), s.size ≤ k → ∀ r ∈ (al s).1, okR r = true := by
  intro k
  induction k with
  | zero =>
    intro s h r hr
    rw [al_nil s (by omega)] at hr
    simp at hr
  | succ k ih =>
    intro s h r hr
    by_cases h0 : 0 < s.size
    · have hb := begins_le s h0
      have hn := stp_n s s[0].toNat
      rw [al_pos s h0] at hr
      split at hr
      · simp at hr
      · simp only [List.mem_cons] at hr
        rcases hr with rfl | hr
        · rcases stp_ways s h0 with ⟨f, t, v, y, _, hs, e⟩ | e
          · rw [e]; exact (encode_of_seq hs).2
          · rw [e]; rfl
        · exact ih _ (by rw [hn]; simp; omega) r hr
    · rw [al_nil s (by omega)] at hr
      simp at hr

theorem dec_ok (s : ByteArray) : ∀ r ∈ dec s, okR r = true := by
  intro r hr
  rw [dec_al, List.mem_append] at hr
  rcases hr with hr | hr
  · exact al_ok _ s (Nat.le_refl _) r hr
  · split at hr
    · simp at hr
    · simp at hr
      subst hr
      rfl

theorem map_fix (l : List Int) (h : ∀ r ∈ l, okR r = true) : l.map fix = l := by
  have : l.map fix = l.map id := List.map_congr_left (fun r hr => by unfold fix; rw [if_pos (h r hr)]; rfl)
  rw [this, List.map_id]

/-- What was decoded, and encoded again, is decoded to the same. -/
theorem dec_again (s : ByteArray) : dec (txt (enc (dec s))) = dec s := by
  rw [dec_enc]
  exact map_fix _ (dec_ok s)

theorem al_clean : ∀ (k : Nat) (s : ByteArray), s.size ≤ k → 65533 ∉ (al s).1 → (al s).2.size = 0 → enc (al s).1 = s.data.toList := by
  intro k
  induction k with
  | zero =>
    intro s h _ _
    rw [al_nil s (by omega), empty_of s (by omega)]
    rfl
  | succ k ih =>
    intro s h hn hz
    by_cases h0 : 0 < s.size
    · have hb := begins_le s h0
      rcases stp_ways s h0 with ⟨f, t, v, y, e, hs, he⟩ | he
      · have ha := al_seq hs y
        rw [← e] at ha
        rw [ha] at hn hz ⊢
        dsimp only at hn hz ⊢
        have hl : (txt y).size ≤ k := by
          have := congrArg ByteArray.size e
          rw [txt_size] at this ⊢
          simp at this
          omega
        have hi := ih (txt y) hl (fun hm => hn (List.mem_cons_of_mem _ hm)) hz
        rw [e, txt_list]
        have e2 : enc ((v : Int) :: (al (txt y)).1) = Lib.encodeRune v ++ enc (al (txt y)).1 := by simp [enc]
        rw [e2, hi, (encode_of_seq hs).1, txt_list]
        rfl
      · rw [al_pos s h0] at hn hz
        split at hn
        · rename_i ho
          rw [if_pos ho] at hz
          dsimp only at hz
          omega
        · exact absurd (List.mem_cons_self ..) (he ▸ hn)
    · rw [al_nil s (by omega), empty_of s (by omega)]
      rfl

/-- A text of which nothing is lost is what its characters are encoded as. -/
theorem enc_clean (s : ByteArray) (h : 65533 ∉ dec s) : txt (enc (dec s)) = s := by
  rw [dec_al] at h ⊢
  have h2 : (al s).2.size = 0 := by
    rcases Nat.eq_zero_or_pos (al s).2.size with hz | hz
    · exact hz
    · exact absurd (by rw [if_neg (by omega)]; simp) h
  rw [if_pos h2, List.append_nil] at h ⊢
  rw [al_clean _ s (Nat.le_refl _) h h2, txt_of]
end Go.Proofs.YthfgnjdekhfabaaDoor
