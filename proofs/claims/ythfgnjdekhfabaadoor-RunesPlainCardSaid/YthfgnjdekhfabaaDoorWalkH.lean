/- The walk of Decode. -/
import Derived.Test.YthfgnjdekhfabaaDoorWalkG
import Derived.Deep.Onto
namespace Go.Proofs.YthfgnjdekhfabaaDoor
open Go.RowKit Ru
set_option maxRecDepth 100000

namespace Ru
/-- A text's characters. -/
def dec (s : ByteArray) : List Int := (allF s.size s).1 ++ (if (allF s.size s).2.size = 0 then [] else [65533])
end Ru

/-- What Decode leaves. -/
def Decd (w : World) (s : ByteArray) (e : Ending) (w' : World) : Prop :=
  ∃ v, e = .returned v ∧ w'.ownsRow w.heap.size 21 1 v (dec s).length ((dec s).map (Value.int .i32)) ∧ Below w.heap.size w w'

theorem own_form {w : World} {base : Nat} {e : TypeId} {size n : Nat} {v : Value} {xs : List Value} (h : w.ownsRow base e size v n xs) : ∃ a c, v = .slice a n c := by
  rcases h.2 with ⟨rfl, h0⟩ | ⟨g, cap, cur, rfl, _⟩
  · exact ⟨none, 0, by rw [h0]⟩
  · exact ⟨_, _, rfl⟩

theorem nil_add (s : ByteArray) : (⟨(keptL 0 0 0 0).toArray⟩ : ByteArray) ++ s = s := by
  apply ByteArray.ext
  rw [ByteArray.data_append]
  show #[] ++ s.data = s.data
  simp

theorem only_one (l : ByteArray) : ∀ u ∈ (if l.size = 0 then [] else [Value.int .i32 65533]), u.oneCell' = true := by
  intro u hu
  split at hu
  · simp at hu
  · simp at hu
    subst hu
    rfl

set_option maxHeartbeats 1600000 in
theorem Decode_any (s : ByteArray) (w : World) (hs : s.size ≤ 900) (hT : Lib.Utf8Tabs 0 1 w) :
    Calls Tryd.prog 16 #[.string s] w (Decd w s) := by
  obtain ⟨i0, hi, hz0, hz1, hz2⟩ := info_parts info_rune
  have hd : Ds (w.alloc (.cells #[.int .u8 0, .int .u8 0, .int .u8 0, .int .i64 0] 28)) w.heap.size 0 0 0 0 := Blk.new w _ _
  have hF := Feed_any w.heap.size 0 0 0 0 s _ hd (by omega) hs (Utf8Tabs_below hT ((Below.refl _ w).alloc (Nat.le_refl _) _))
  rw [nil_add] at hF
  have hlen := allF_len s.size s
  obtain ⟨q, hq⟩ : ∃ q, allF s.size s = q := ⟨_, rfl⟩
  rw [hq] at hF hlen
  have HF := hide hF
  have HQ := hide hq
  clear hF hd hT hq
  go_enter Tryd.func16, Tryd.ntmps16
  go_wp2_with fail
  refine HF.out.mono ?_
  rintro e w2 ⟨v, a, b, c, rfl, own, ds, _, g2⟩
  have hnF := Flush_any w.heap.size a b c q.2.size w2 ds
  have HNF := hide hnF
  clear hnF
  dsimp only
  go_wp2_with fail
  refine HNF.out.mono ?_
  rintro e w3 ⟨v3, rfl, own3, ds3, g3⟩
  have ownA := own.kept g3 (.inr (own_blk_ne own ds (by decide)))
  obtain ⟨a3, c3, rfl⟩ := own_form own3
  have hrd := Reads.of_own own3
  have hlt : w.heap.size < w2.heap.size := Blk.lt ds
  have hlt3 : w.heap.size < w3.heap.size := Blk.lt ds3
  have b3 : Below w.heap.size w w3 := by
    have g1 : Below w.heap.size w w2 := ((Below.refl _ w).alloc (Nat.le_refl _) _).grown g2 (by simp) (fun k hk => by injection hk with hk; omega)
    exact g1.grown g3 g1.size (fun k hk => by injection hk with hk; omega)
  have ownB : w3.ownsRow w.heap.size 21 1 v q.1.length (q.1.map (Value.int .i32)) := ownA.mono (by simp)
  have hone := only_one q.2
  have hdec : (dec s).length = q.1.length + (if q.2.size = 0 then 0 else 1) ∧ (dec s).map (Value.int .i32) = q.1.map (Value.int .i32) ++ (if q.2.size = 0 then [] else [Value.int .i32 65533]) := by
    unfold dec
    rw [HQ.out]
    split
    · simp
    · simp
  have hm1 : (if q.2.size = 0 then 0 else 1) ≤ 1 := by split <;> omega
  generalize (if q.2.size = 0 then [] else [Value.int .i32 65533]) = news at hrd hone hdec own3
  generalize (if q.2.size = 0 then 0 else 1) = m at hrd hdec hm1 own3 ⊢
  obtain ⟨hd1, hd2⟩ := hdec
  have HD1 := hide hd1
  have HD2 := hide hd2
  have HO := hide ownB
  have HB3 := hide b3
  have HR := hide hrd
  have HON := hide hone
  clear hd1 hd2 ownB b3 hrd hone own3 ownA own ds ds3 g2 g3
  dsimp only
  go_wp2_with (at_builtin; refine wpList_append_any _ rfl (.tmp 10) (.tmp 12) 33 rfl w.heap.size 21 i0 _ 1 4 Tryd.underlying33 hi hz0 hz1 hz2 rfl (by decide) v q.1.length (q.1.map (Value.int .i32)) rfl HO.out w3.heap.size a3 m c3 news rfl HR.out HON.out ?a2 ?a3 ?a4 ?_)
  case a2 => unfold maxLen; omega
  case a3 => omega
  case a4 => omega
  intro v4 w4 ho4 hg4 _
  have b4 : Below w.heap.size w w4 := HB3.out.grown hg4 (by omega) (fun x hx => (HO.out.lt x hx).1)
  have hf : Decd w s (.returned v4) w4 := by
    refine ⟨_, rfl, ?_, b4⟩
    rw [HD1.out, HD2.out]
    exact ho4
  have HFF := hide hf
  clear hf b4 ho4 hg4
  go_wp2
  go_ret
  exact HFF.out
end Go.Proofs.YthfgnjdekhfabaaDoor
