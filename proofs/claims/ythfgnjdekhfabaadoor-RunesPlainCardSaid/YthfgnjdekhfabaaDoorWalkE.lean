/- The walk of all: a text's characters, and what is left of it. -/
import Derived.Test.YthfgnjdekhfabaaDoorWalkD
namespace Go.Proofs.YthfgnjdekhfabaaDoor
open Go.RowKit Ru
set_option maxRecDepth 100000

namespace Ru
/-- By so many steps: a text's characters, and what is left. -/
def allF : Nat → ByteArray → List Int × ByteArray
  | 0, s => ([], s)
  | k + 1, s => if h : 0 < s.size then (if (stp s s[0].toNat).2.2 = true then ([], s) else ((stp s s[0].toNat).1 :: (allF k (s.extract (stp s s[0].toNat).2.1 s.size)).1, (allF k (s.extract (stp s s[0].toNat).2.1 s.size)).2)) else ([], ⟨#[]⟩)
end Ru

theorem stp_n (s : ByteArray) (f : Nat) : (stp s f).2.1 = begins s.data.toList := by
  unfold stp
  split <;> rfl

theorem allF_len : ∀ (k : Nat) (s : ByteArray), (allF k s).1.length ≤ k := by
  intro k
  induction k with
  | zero => intro s; simp [allF]
  | succ k ih =>
    intro s
    unfold allF
    split
    · split
      · simp
      · have := ih (s.extract (stp s s[0].toNat).2.1 s.size)
        simp only [List.length_cons]
        omega
    · simp

/-- What all leaves. -/
def AllOut (w : World) (q : List Int × ByteArray) (e : Ending) (w' : World) : Prop :=
  ∃ v, e = .returned (.tuple #[v, .string q.2]) ∧ w'.ownsRow w.heap.size 21 1 v q.1.length (q.1.map (Value.int .i32)) ∧ Below w.heap.size w w'

theorem info_rune : (Tryd.prog.info? 21).map (fun i => (i.zero, i.size, i.bytes)) = some (some (.int .i32 0), 1, 4) := by kernel_rfl

theorem rune_new (W : World) (g : Nat) (hg : g = W.heap.size) (x : Value) (t : TypeId) : ∀ (j : Nat) (u : Value), [x][j]? = some u → (W.alloc (.cells #[x] t)).cell? ((⟨g, 0, none⟩ : Addr).add j) = some u := by
  intro j u hj
  subst hg
  rw [Addr.add_lit, Nat.zero_add]
  have h := Blk.cell (Blk.new W t #[x]) j
  rw [h, ← hj]
  simp

/-- A text's length. -/
def strLen : Value → Nat
  | .string b => b.size
  | _ => 0

/-- The loop's relation. -/
structure AAt (w : World) (T : List Int × ByteArray) (s cur : ByteArray) (v : Value) (out : List Int) (fuel : Nat) (wr : World) : Prop where
  own : wr.ownsRow w.heap.size 21 1 v out.length (out.map (Value.int .i32))
  bel : Below w.heap.size w wr
  fit : cur.size ≤ fuel
  len : out.length + fuel ≤ s.size
  eq : T = (out ++ (allF fuel cur).1, (allF fuel cur).2)

set_option maxHeartbeats 1600000 in
theorem all_any (s : ByteArray) (w : World) (h1000 : s.size ≤ 1000) (hT : Lib.Utf8Tabs 0 1 w) : Calls Tryd.prog 23 #[.string s] w (AllOut w (allF s.size s)) := by
  obtain ⟨i0, hi, hz0, hz1, hz2⟩ := info_parts info_rune
  have HTA := hide hT
  clear hT
  obtain ⟨T, hTT⟩ : ∃ T, allF s.size s = T := ⟨_, rfl⟩
  rw [hTT]
  have HTT := hide hTT
  clear hTT
  go_enter Tryd.func23, Tryd.ntmps23
  go_wp2_with fail
  go_loopw [0, 4] (fun c v wr => ∃ (cur : ByteArray) (out : List Int) (fuel : Nat), c = .string cur ∧ AAt w T s cur v out fuel wr) (fun c _ _ => strLen c)
  case atStart => exact ⟨s, [], s.size, rfl, World.ownsRow_nil _ _ _ _, Below.refl _ _, Nat.le_refl _, by simp, by rw [← HTT.out]; simp⟩
  case round =>
    obtain ⟨cur, out, fuel, rfl, hat⟩ := hrel
    by_cases hc : 0 < cur.size
    · have hne : cur.toList.isEmpty = false := by
        rw [Lib.toList_data]
        cases h : cur.data.toList with
        | nil => have hl : cur.data.toList.length = cur.size := Array.length_toList; rw [h] at hl; simp at hl; omega
        | cons _ _ => rfl
      have hat0 := hat
      obtain ⟨own, bel, fit, len, eq⟩ := hat
      obtain ⟨k, rfl⟩ : ∃ k, fuel = k + 1 := ⟨fuel - 1, by omega⟩
      have hst := step_any cur wr hc (by unfold maxLen; omega) (Utf8Tabs_below HTA.out bel)
      have hnn := stp_n cur cur[0].toNat
      have hbl := begins_le cur hc
      unfold allF at eq
      rw [dif_pos hc] at eq
      generalize stp cur cur[0].toNat = q at hst hnn eq
      obtain ⟨r, n, o⟩ := q
      dsimp only at hnn eq
      rw [← hnn] at hbl
      clear hnn
      have HST := hide hst
      clear hst
      cases o with
      | true =>
        rw [if_pos rfl, List.append_nil] at eq
        have HEQ := hide eq
        have HOW := hide own
        have HBE := hide bel
        clear eq own bel hat0 len
        go_wp2_with fail
        refine HST.out.mono ?_
        rintro e w2 ⟨rfl, b2⟩
        have hf : AllOut w T (.returned (.tuple #[u4, .string cur])) w2 := by
          rw [HEQ.out]
          exact ⟨_, rfl, HOW.out.kept (only_of_below b2 none) (Classical.em _), HBE.out.trans (b2.mono HBE.out.size)⟩
        have HF := hide hf
        clear hf b2
        dsimp only
        go_wp2
        go_ret2
        exact HF.out
      | false =>
        rw [if_neg (by decide)] at eq
        have hx : (cur.extract n cur.size).size ≤ k := by simp; omega
        have HEQ := hide eq
        have HOW := hide own
        have HBE := hide bel
        clear eq own bel hat0
        go_wp2_with fail
        refine HST.out.mono ?_
        rintro e w2 ⟨rfl, b2⟩
        have hown2 := HOW.out.kept (only_of_below b2 none) (Classical.em _)
        have hbel2 : Below w.heap.size w w2 := HBE.out.trans (b2.mono HBE.out.size)
        have HO2 := hide hown2
        have HB2 := hide hbel2
        have hup := hbel2.size
        clear hown2 hbel2 b2
        dsimp only
        go_wp2_with (at_builtin; refine wpList_append_own _ rfl _ _ 33 rfl w.heap.size 21 i0 _ 1 4 Tryd.underlying33 hi hz0 hz1 hz2 rfl (by decide) _ out.length (out.map (Value.int .i32)) rfl (HO2.out.alloc _) ⟨w2.heap.size, 0, none⟩ 1 1 [Value.int .i32 r] rfl rfl ?c1 ?c2 ?c3 ?c4 ?c5 ?_)
        case c1 => exact rune_new _ _ rfl _ _
        case c2 => intro u hu; simp at hu; subst hu; rfl
        case c3 => unfold maxLen; omega
        case c4 => omega
        case c5 => simp; omega
        intro v3 w3 ho3 hg3 _
        have hbel3 : Below w.heap.size w w3 := (HB2.out.alloc hup _).grown hg3 (by simp; omega) (fun x hx => (HO2.out.lt x hx).1)
        have hfin : AAt w T s (cur.extract n cur.size) v3 (out ++ [r]) k w3 := by
          refine ⟨?_, hbel3, hx, by rw [List.length_append]; simp; omega, ?_⟩
          · rw [List.map_append, List.length_append]
            exact ho3
          · rw [HEQ.out]
            simp
        have HF := hide hfin
        clear ho3 hg3 hbel3 hfin hx
        go_wp2
        go_roundw
        case rel => exact ⟨_, _, _, rfl, HF.out⟩
        case measure => simp [strLen]; omega
    · have h0 : cur.size = 0 := by omega
      have hce : cur.toList.isEmpty = true := by
        rw [Lib.toList_data]
        have hl : cur.data.toList.length = cur.size := Array.length_toList
        rw [List.eq_nil_of_length_eq_zero (by omega : cur.data.toList.length = 0)]
        rfl
      have hce2 : cur.toList = [] := by simpa using hce
      obtain ⟨own, bel, fit, len, eq⟩ := hat
      have e0 : allF fuel cur = ([], ⟨#[]⟩) ∨ allF fuel cur = ([], cur) := by
        cases fuel with
        | zero => exact .inr rfl
        | succ k => left; unfold allF; rw [dif_neg hc]
      have ecur : cur = ⟨#[]⟩ := by
        apply ByteArray.ext
        have hl : cur.data.toList.length = cur.size := Array.length_toList
        have h2 : cur.data.toList = [] := List.eq_nil_of_length_eq_zero (by omega)
        exact Array.toList_inj.1 h2
      have e1 : allF fuel cur = ([], ⟨#[]⟩) := by
        rcases e0 with h | h
        · exact h
        · rw [h, ecur]
      rw [e1, List.append_nil] at eq
      have hf : AllOut w T (.returned (.tuple #[u4, .string ⟨#[]⟩])) wr := by
        rw [eq]
        exact ⟨_, rfl, own, bel⟩
      have HF := hide hf
      clear hf eq e1 e0 ecur own bel
      go_wp2
      go_ret2
      exact HF.out
end Go.Proofs.YthfgnjdekhfabaaDoor
