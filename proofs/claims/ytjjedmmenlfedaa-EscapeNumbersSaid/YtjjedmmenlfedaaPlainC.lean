/- Plain mathematics of the escape layer: a control sequence's numbers are what was written. -/
import Derived.Test.YtjjedmmenlfedaaPlainB
namespace Go.Proofs.Ytjjedmmenlfedaa
namespace Esc

/-- A number's five digits, as characters; what it is worth. -/
def digs (k : Nat) : List Int := [48 + (k / 10000 % 10 : Nat), 48 + (k / 1000 % 10 : Nat), 48 + (k / 100 % 10 : Nat), 48 + (k / 10 % 10 : Nat), 48 + (k / 1 % 10 : Nat)]
def worth (k : Nat) : Int := min ((k % 100000 : Nat) : Int) 9999
/-- What is written ahead of a number: a colon or a semicolon, but ahead of the first. -/
def sepa (i : Nat) (k : Nat) : List Int := if i = 0 then [] else [58 + (k % 2 : Nat)]
/-- The characters of numbers. -/
def chars : List Nat → List Int := fun ks => (ks.zipIdx).flatMap fun x => sepa x.2 x.1 ++ digs x.1

theorem chars_snoc (ks : List Nat) (k : Nat) : chars (ks ++ [k]) = chars ks ++ (sepa ks.length k ++ digs k) := by
  unfold chars
  rw [List.zipIdx_append, List.flatMap_append]
  simp

/-- An act that has read numbers. -/
def actOf (vs : List Int) : A := ⟨0, 0, 0, 0, min (vs.length : Int) 9, vs.getD 0 0, vs.getD 1 0, vs.getD 2 0, vs.getD 3 0, vs.getD 4 0, vs.getD 5 0, vs.getD 6 0, vs.getD 7 0⟩

theorem digit_first (d : Int) : digit (actOf []) d = actOf [num 0 d] := by rfl
theorem digit_more (vs : List Int) (x d : Int) (h : vs.length ≤ 9) : digit (actOf (vs ++ [x])) d = actOf (vs ++ [num x d]) := by
  match vs, h with
  | [], _ => rfl
  | [_], _ => rfl
  | [_, _], _ => rfl
  | [_, _, _], _ => rfl
  | [_, _, _, _], _ => rfl
  | [_, _, _, _, _], _ => rfl
  | [_, _, _, _, _, _], _ => rfl
  | [_, _, _, _, _, _, _], _ => rfl
  | [_, _, _, _, _, _, _, _], _ => rfl
  | [_, _, _, _, _, _, _, _, _], _ => rfl
  | _ :: _ :: _ :: _ :: _ :: _ :: _ :: _ :: _ :: _ :: _, h => simp at h

theorem colon (vs : List Int) (h : 1 ≤ vs.length) (h9 : vs.length ≤ 9) : ({ actOf vs with n := min (max (actOf vs).n 1 + 1) 9 } : A) = actOf (vs ++ [0]) := by
  match vs, h, h9 with
  | [_], _, _ => rfl
  | [_, _], _, _ => rfl
  | [_, _, _], _, _ => rfl
  | [_, _, _, _], _, _ => rfl
  | [_, _, _, _, _], _, _ => rfl
  | [_, _, _, _, _, _], _, _ => rfl
  | [_, _, _, _, _, _, _], _, _ => rfl
  | [_, _, _, _, _, _, _, _], _, _ => rfl
  | [_, _, _, _, _, _, _, _, _], _, _ => rfl
  | _ :: _ :: _ :: _ :: _ :: _ :: _ :: _ :: _ :: _ :: _, _, h => simp at h

/-- The parser that has read numbers. -/
def parserOf (vs : List Int) (b : Bool) : P := ⟨2, actOf vs, b⟩

theorem stp_digit (vs : List Int) (b : Bool) (r : Int) (h1 : 48 ≤ r) (h2 : r ≤ 57) : stp (parserOf vs b) r = (⟨2, digit (actOf vs) r, true⟩, A0) := by
  unfold stp other sequenced last
  have e : (parserOf vs b).act.mid = 0 := rfl
  rw [if_neg (by omega), if_neg (by omega), if_neg (by omega), if_neg (by omega), if_neg (by omega), if_neg (by omega), if_neg (by simp [parserOf]), if_neg (by simp [parserOf]), if_pos (by rfl), if_neg (by simp; omega), if_pos ⟨e, h1, h2⟩]
  rfl
theorem stp_sepa (vs : List Int) (b : Bool) (r : Int) (h : r = 58 ∨ r = 59) : stp (parserOf vs b) r = (⟨2, { actOf vs with n := min (max (actOf vs).n 1 + 1) 9 }, true⟩, A0) := by
  unfold stp other sequenced last
  have e : (parserOf vs b).act.mid = 0 := rfl
  rw [if_neg (by omega), if_neg (by omega), if_neg (by omega), if_neg (by omega), if_neg (by omega), if_neg (by omega), if_neg (by simp [parserOf]), if_neg (by simp [parserOf]), if_pos (by rfl), if_neg (by simp; omega), if_neg (by omega), if_pos ⟨e, h⟩]
  rfl
theorem stp_last (vs : List Int) (b : Bool) (r : Int) (h1 : 64 ≤ r) (h2 : r < 127) : stp (parserOf vs b) r = (⟨0, actOf vs, true⟩, { actOf vs with kind := 4, r := r, n := min (actOf vs).n 8 }) := by
  unfold stp other sequenced last
  rw [if_neg (by omega), if_neg (by omega), if_neg (by omega), if_neg (by omega), if_neg (by omega), if_neg (by omega), if_neg (by simp [parserOf]), if_neg (by simp [parserOf]), if_pos (by rfl), if_pos (by simp; omega)]
  rfl

theorem feed_cons (p : P) (r : Int) (zs : List Int) (h : (stp p r).2.kind = 0) : feed p (r :: zs) = feed (stp p r).1 zs := by
  have e : r :: zs = [r] ++ zs := rfl
  have e2 : feed p [r] = ((stp p r).1, []) := by
    show stF (p, []) r = _
    unfold stF
    rw [if_pos h]
  rw [e, feed_append, e2]
  simp

theorem worth_eq (k : Nat) : num (num (num (num (num 0 (48 + (k / 10000 % 10 : Nat))) (48 + (k / 1000 % 10 : Nat))) (48 + (k / 100 % 10 : Nat))) (48 + (k / 10 % 10 : Nat))) (48 + (k / 1 % 10 : Nat)) = worth k := by
  unfold num worth
  omega

theorem feed_more (vs : List Int) (x : Int) (b : Bool) (r : Int) (zs : List Int) (hv : vs.length ≤ 9) (h1 : 48 ≤ r) (h2 : r ≤ 57) : feed (parserOf (vs ++ [x]) b) (r :: zs) = feed (parserOf (vs ++ [num x r]) true) zs := by
  have e := stp_digit (vs ++ [x]) b r h1 h2
  rw [feed_cons _ _ _ (by rw [e]; rfl), e, digit_more _ _ _ hv]
  rfl

theorem feed_digs (vs : List Int) (b : Bool) (k : Nat) (hv : vs.length ≤ 9) : feed (parserOf (vs ++ [0]) b) (digs k) = (parserOf (vs ++ [worth k]) true, []) := by
  unfold digs
  rw [feed_more _ _ _ _ _ hv (by omega) (by omega), feed_more _ _ _ _ _ hv (by omega) (by omega), feed_more _ _ _ _ _ hv (by omega) (by omega), feed_more _ _ _ _ _ hv (by omega) (by omega), feed_more _ _ _ _ _ hv (by omega) (by omega), worth_eq]
  rfl

theorem feed_digs0 (b : Bool) (k : Nat) : feed (parserOf [] b) (digs k) = (parserOf [worth k] true, []) := by
  unfold digs
  have e := stp_digit [] b (48 + (k / 10000 % 10 : Nat)) (by omega) (by omega)
  rw [feed_cons _ _ _ (by rw [e]; rfl), e, digit_first]
  have h := fun r zs h1 h2 => feed_more [] (num 0 (48 + (k / 10000 % 10 : Nat))) true r zs (by simp) h1 h2
  have e2 : ∀ x, (⟨2, actOf [x], true⟩ : P) = parserOf ([] ++ [x]) true := fun _ => rfl
  dsimp only
  rw [e2, feed_more _ _ _ _ _ (by simp) (by omega) (by omega), feed_more _ _ _ _ _ (by simp) (by omega) (by omega), feed_more _ _ _ _ _ (by simp) (by omega) (by omega), feed_more _ _ _ _ _ (by simp) (by omega) (by omega), worth_eq]
  rfl

theorem feed_chars : ∀ (n : Nat) (ks : List Nat), ks.length = n → n ≤ 10 → ∃ b, feed (parserOf [] false) (chars ks) = (parserOf (ks.map worth) b, []) := by
  intro n
  induction n with
  | zero =>
    intro ks h _
    obtain rfl := List.eq_nil_of_length_eq_zero h
    exact ⟨false, rfl⟩
  | succ n ih =>
    intro ks h hn
    have hne : ks ≠ [] := by intro e; subst e; simp at h
    obtain ⟨k, hk⟩ : ∃ k, ks = ks.dropLast ++ [k] := ⟨ks.getLast hne, (List.dropLast_concat_getLast hne).symm⟩
    generalize ks.dropLast = js at hk
    subst hk
    have hj : js.length = n := by simp at h; omega
    obtain ⟨b, e⟩ := ih js hj (by omega)
    rw [chars_snoc, feed_append, e]
    dsimp only
    rw [List.nil_append, List.map_append]
    rcases Nat.eq_zero_or_pos n with h0 | h0
    · have hj0 : js = [] := List.eq_nil_of_length_eq_zero (by omega)
      subst hj0
      have es : sepa ([] : List Nat).length k = [] := rfl
      rw [es, List.nil_append]
      have := feed_digs0 b k
      simp only [List.map_nil, List.map_cons, List.nil_append]
      exact ⟨true, by rw [this]⟩
    · have es : sepa js.length k = [(58 : Int) + (k % 2 : Nat)] := by unfold sepa; rw [if_neg (by omega)]
      have e2 := stp_sepa (js.map worth) b (58 + (k % 2 : Nat)) (by omega)
      rw [colon _ (by rw [List.length_map]; omega) (by rw [List.length_map]; omega)] at e2
      rw [es, List.singleton_append, feed_cons _ _ _ (by rw [e2]; rfl), e2]
      have := feed_digs (js.map worth) true k (by rw [List.length_map]; omega)
      refine ⟨true, ?_⟩
      show feed (parserOf (js.map worth ++ [0]) true) (digs k) = _
      rw [this]
      simp

theorem feed_begun : feed P0 [27, 91] = (parserOf [] false, []) := by rfl

/-- WHAT A CONTROL SEQUENCE TELLS. -/
theorem numbers (ks : List Nat) (h : ks.length ≤ 10) : ∃ b, feed P0 ([27, 91] ++ chars ks) = (parserOf (ks.map worth) b, []) := by
  obtain ⟨b, e⟩ := feed_chars ks.length ks rfl h
  refine ⟨b, ?_⟩
  rw [feed_append, feed_begun]
  dsimp only
  rw [e]
  rfl

end Esc
end Go.Proofs.Ytjjedmmenlfedaa
