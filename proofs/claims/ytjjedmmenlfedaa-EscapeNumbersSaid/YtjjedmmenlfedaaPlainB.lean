/- More plain mathematics of the escape layer: characters fed one behind the other. -/
import Derived.Test.YtjjedmmenlfedaaPlain
namespace Go.Proofs.Ytjjedmmenlfedaa
namespace Esc

def stF (t : P × List A) (r : Int) : P × List A := ((stp t.1 r).1, if (stp t.1 r).2.kind = 0 then t.2 else t.2 ++ [(stp t.1 r).2])
def feed (p : P) (zs : List Int) : P × List A := zs.foldl stF (p, [])

theorem feed_take (p : P) (zs : List Int) (k : Nat) (h : k < zs.length) : feed p (zs.take (k + 1)) = stF (feed p (zs.take k)) zs[k] := by
  rw [List.take_succ_eq_append_getElem h]
  unfold feed
  rw [List.foldl_append]
  rfl

theorem fold_ok (zs : List Int) : ∀ t : P × List A, Ok t.1 → Ok (zs.foldl stF t).1 := by
  induction zs with
  | nil => intro t h; exact h
  | cons r zs ih => intro t h; exact ih _ (ok_stp t.1 r h)
theorem ok_feed (p : P) (zs : List Int) (h : Ok p) : Ok (feed p zs).1 := fold_ok zs (p, []) h

theorem fold_len (zs : List Int) : ∀ t : P × List A, (zs.foldl stF t).2.length ≤ t.2.length + zs.length := by
  induction zs with
  | nil => intro t; simp
  | cons r zs ih =>
    intro t
    have := ih (stF t r)
    have h2 : (stF t r).2.length ≤ t.2.length + 1 := by unfold stF; dsimp only; split <;> simp
    simp only [List.foldl_cons, List.length_cons]
    omega
theorem feed_len (p : P) (zs : List Int) : (feed p zs).2.length ≤ zs.length := by
  have := fold_len zs (p, [])
  simpa [feed] using this

theorem fold_split (zs : List Int) : ∀ t : P × List A, zs.foldl stF t = ((feed t.1 zs).1, t.2 ++ (feed t.1 zs).2) := by
  induction zs with
  | nil => intro t; simp [feed]
  | cons r zs ih =>
    intro t
    have h1 := ih (stF t r)
    have h2 := ih (stF (t.1, []) r)
    have e : feed t.1 (r :: zs) = zs.foldl stF (stF (t.1, []) r) := rfl
    rw [List.foldl_cons, e, h1, h2]
    unfold stF
    dsimp only
    split <;> simp
theorem feed_append (p : P) (xs ys : List Int) : feed p (xs ++ ys) = ((feed (feed p xs).1 ys).1, (feed p xs).2 ++ (feed (feed p xs).1 ys).2) := by
  have e : feed p (xs ++ ys) = ys.foldl stF (feed p xs) := by unfold feed; rw [List.foldl_append]
  rw [e, fold_split]

/-! ### What a parser does not look at -/

def Sim (p q : P) : Prop := p = q ∨ (p.inn = q.inn ∧ ¬ p.inn = 1 ∧ ¬ p.inn = 2)

theorem sim_stp (p q : P) (r : Int) (h : Sim p q) : (stp p r).2 = (stp q r).2 ∧ Sim (stp p r).1 (stp q r).1 := by
  rcases h with rfl | ⟨h1, h2, h3⟩
  · exact ⟨rfl, .inl rfl⟩
  · have k2 : ¬ q.inn = 1 := by omega
    have k3 : ¬ q.inn = 2 := by omega
    unfold stp other
    rw [if_neg h2, if_neg h3, if_neg k2, if_neg k3, h1]
    repeat' split
    all_goals first
      | exact ⟨rfl, .inl rfl⟩
      | exact ⟨rfl, .inr ⟨rfl, by dsimp only; omega, by dsimp only; omega⟩⟩
      | exact ⟨rfl, .inr ⟨h1, h2, h3⟩⟩

theorem sim_feed (zs : List Int) : ∀ p q : P, Sim p q → (feed p zs).2 = (feed q zs).2 := by
  induction zs with
  | nil => intro p q _; rfl
  | cons r zs ih =>
    intro p q h
    obtain ⟨e1, e2⟩ := sim_stp p q r h
    have a1 : feed p (r :: zs) = zs.foldl stF (stF (p, []) r) := rfl
    have a2 : feed q (r :: zs) = zs.foldl stF (stF (q, []) r) := rfl
    rw [a1, a2, fold_split, fold_split]
    have b1 : (stF (p, []) r).1 = (stp p r).1 := rfl
    have b2 : (stF (q, []) r).1 = (stp q r).1 := rfl
    have b3 : (stF (p, []) r).2 = (stF (q, []) r).2 := by unfold stF; dsimp only; rw [e1]
    rw [b1, b2, b3]
    dsimp only
    rw [ih _ _ e2]

/-- BEHIND 18 A PARSER GOES ON AS A NEW ONE DOES. -/
theorem ends (p : P) (zs : List Int) : (feed (feed p [24]).1 zs).2 = (feed P0 zs).2 ∧ (feed p [24]).1.inn = 0 := by
  have e : (feed p [24]).1 = { p with inn := 0 } := by
    show (stp p 24).1 = _
    unfold stp
    rw [if_neg (by omega), if_pos (by omega)]
  rw [e]
  exact ⟨sim_feed zs _ _ (.inr ⟨rfl, by simp, by simp⟩), rfl⟩

/-! ### What each act is -/

/-- Numbers that were not begun are nothing. -/
structure Zs (p : P) : Prop where
  z0 : p.act.n ≤ 0 → p.act.n0 = 0
  z1 : p.act.n ≤ 1 → p.act.n1 = 0
  z2 : p.act.n ≤ 2 → p.act.n2 = 0
  z3 : p.act.n ≤ 3 → p.act.n3 = 0
  z4 : p.act.n ≤ 4 → p.act.n4 = 0
  z5 : p.act.n ≤ 5 → p.act.n5 = 0
  z6 : p.act.n ≤ 6 → p.act.n6 = 0
  z7 : p.act.n ≤ 7 → p.act.n7 = 0

theorem zs0 : Zs P0 := by constructor <;> intro _ <;> rfl

theorem zs_digit (p : P) (r : Int) (h : Zs p) (hn : 0 ≤ p.act.n ∧ p.act.n ≤ 9) (b : Bool) : Zs { p with act := digit p.act r, any := b } := by
  obtain ⟨z0, z1, z2, z3, z4, z5, z6, z7⟩ := h
  unfold digit
  dsimp only
  repeat' split
  all_goals (constructor <;> dsimp only <;> intro hx <;> first | omega | exact z0 (by omega) | exact z1 (by omega) | exact z2 (by omega) | exact z3 (by omega) | exact z4 (by omega) | exact z5 (by omega) | exact z6 (by omega) | exact z7 (by omega))

theorem zs_colon (p : P) (h : Zs p) (hn : 0 ≤ p.act.n ∧ p.act.n ≤ 9) (b : Bool) : Zs { p with act := { p.act with n := min (max p.act.n 1 + 1) 9 }, any := b } := by
  obtain ⟨z0, z1, z2, z3, z4, z5, z6, z7⟩ := h
  constructor <;> dsimp only <;> intro hx <;> first | omega | exact z0 (by omega) | exact z1 (by omega) | exact z2 (by omega) | exact z3 (by omega) | exact z4 (by omega) | exact z5 (by omega) | exact z6 (by omega) | exact z7 (by omega)

theorem zs_same {p q : P} (h : Zs p) (e0 : q.act.n = p.act.n) (e : q.act.n0 = p.act.n0 ∧ q.act.n1 = p.act.n1 ∧ q.act.n2 = p.act.n2 ∧ q.act.n3 = p.act.n3 ∧ q.act.n4 = p.act.n4 ∧ q.act.n5 = p.act.n5 ∧ q.act.n6 = p.act.n6 ∧ q.act.n7 = p.act.n7) : Zs q := by
  obtain ⟨z0, z1, z2, z3, z4, z5, z6, z7⟩ := h
  obtain ⟨e1, e2, e3, e4, e5, e6, e7, e8⟩ := e
  constructor <;> intro hx <;> rw [e0] at hx
  · rw [e1]; exact z0 hx
  · rw [e2]; exact z1 hx
  · rw [e3]; exact z2 hx
  · rw [e4]; exact z3 hx
  · rw [e5]; exact z4 hx
  · rw [e6]; exact z5 hx
  · rw [e7]; exact z6 hx
  · rw [e8]; exact z7 hx

theorem zs_escaped (p : P) (r : Int) (h : Zs p) : Zs (escaped p r).1 := by
  unfold escaped
  repeat' split
  all_goals exact zs_same h rfl ⟨rfl, rfl, rfl, rfl, rfl, rfl, rfl, rfl⟩
theorem zs_sequenced (p : P) (r : Int) (h : Zs p) (hn : 0 ≤ p.act.n ∧ p.act.n ≤ 9) : Zs (sequenced p r).1 := by
  have hd := zs_digit p r h hn true
  have hc := zs_colon p h hn true
  unfold sequenced
  repeat' split
  all_goals first
    | exact hd
    | exact hc
    | exact zs_same h rfl ⟨rfl, rfl, rfl, rfl, rfl, rfl, rfl, rfl⟩
theorem zs_other (p : P) (r : Int) (h : Zs p) (hn : 0 ≤ p.act.n ∧ p.act.n ≤ 9) : Zs (other p r).1 := by
  have he := zs_escaped p r h
  have hs := zs_sequenced p r h hn
  unfold other
  repeat' split
  all_goals first
    | exact h
    | exact he
    | exact hs
    | exact zs_same h rfl ⟨rfl, rfl, rfl, rfl, rfl, rfl, rfl, rfl⟩
theorem zs_stp (p : P) (r : Int) (h : Zs p) (hn : 0 ≤ p.act.n ∧ p.act.n ≤ 9) : Zs (stp p r).1 := by
  have ho := zs_other p r h hn
  unfold stp
  repeat' split
  all_goals first
    | exact h
    | exact ho
    | exact zs_same h rfl ⟨rfl, rfl, rfl, rfl, rfl, rfl, rfl, rfl⟩
    | (constructor <;> intro _ <;> rfl)

/-- What every act is like: four kinds; at most eight numbers, each small; only a Csi has numbers; what is told is the character. -/
structure Good (a : A) (r : Int) : Prop where
  k0 : 0 ≤ a.kind
  k4 : a.kind ≤ 4
  n0 : 0 ≤ a.n
  n8 : a.n ≤ 8
  csi : ¬ a.kind = 4 → a.n = 0
  chr : ¬ a.kind = 0 → a.r = r
  s0 : Small a.n0 ∧ (a.n ≤ 0 → a.n0 = 0)
  s1 : Small a.n1 ∧ (a.n ≤ 1 → a.n1 = 0)
  s2 : Small a.n2 ∧ (a.n ≤ 2 → a.n2 = 0)
  s3 : Small a.n3 ∧ (a.n ≤ 3 → a.n3 = 0)
  s4 : Small a.n4 ∧ (a.n ≤ 4 → a.n4 = 0)
  s5 : Small a.n5 ∧ (a.n ≤ 5 → a.n5 = 0)
  s6 : Small a.n6 ∧ (a.n ≤ 6 → a.n6 = 0)
  s7 : Small a.n7 ∧ (a.n ≤ 7 → a.n7 = 0)

theorem good_plain (k r m : Int) (hk : 0 ≤ k ∧ k ≤ 3) : Good ⟨k, r, 0, m, 0, 0, 0, 0, 0, 0, 0, 0, 0⟩ r := by
  constructor <;> first | omega | (intro _; rfl) | exact ⟨⟨by simp, by simp⟩, fun _ => rfl⟩ | (dsimp only; omega)
theorem good_none (r : Int) : Good A0 r := by
  constructor <;> first | decide | (intro _; rfl) | (intro h; exact absurd rfl h) | exact ⟨⟨by decide, by decide⟩, fun _ => rfl⟩

theorem good_escaped (p : P) (r : Int) : Good (escaped p r).2 r := by
  unfold escaped
  repeat' split
  all_goals first
    | exact good_none r
    | exact good_plain _ r _ (by omega)
theorem good_sequenced (p : P) (r : Int) (h : Ok p) (z : Zs p) : Good (sequenced p r).2 r := by
  obtain ⟨⟨a1, a2⟩, _, _, d0, d1, d2, d3, d4, d5, d6, d7⟩ := h
  obtain ⟨z0, z1, z2, z3, z4, z5, z6, z7⟩ := z
  unfold sequenced
  repeat' split
  all_goals first
    | exact good_none r
    | exact ⟨by dsimp only; omega, by dsimp only; omega, by dsimp only; omega, by dsimp only; omega, fun h => absurd rfl h, fun _ => rfl, ⟨d0, fun hx => z0 (by dsimp only at hx; omega)⟩, ⟨d1, fun hx => z1 (by dsimp only at hx; omega)⟩, ⟨d2, fun hx => z2 (by dsimp only at hx; omega)⟩, ⟨d3, fun hx => z3 (by dsimp only at hx; omega)⟩, ⟨d4, fun hx => z4 (by dsimp only at hx; omega)⟩, ⟨d5, fun hx => z5 (by dsimp only at hx; omega)⟩, ⟨d6, fun hx => z6 (by dsimp only at hx; omega)⟩, ⟨d7, fun hx => z7 (by dsimp only at hx; omega)⟩⟩
theorem good_other (p : P) (r : Int) (h : Ok p) (z : Zs p) : Good (other p r).2 r := by
  have he := good_escaped p r
  have hs := good_sequenced p r h z
  unfold other
  repeat' split
  all_goals first
    | exact good_none r
    | exact good_plain _ r _ (by omega)
    | exact he
    | exact hs
theorem good_stp (p : P) (r : Int) (h : Ok p) (z : Zs p) : Good (stp p r).2 r := by
  have ho := good_other p r h z
  unfold stp
  repeat' split
  all_goals first
    | exact good_none r
    | exact good_plain _ r _ (by omega)
    | exact ho

end Esc
end Go.Proofs.Ytjjedmmenlfedaa
