/- The walk of the document's Feed. -/
import Derived.Test.YthfgnjdekhfabaaDoorWalkN
import Derived.Deep.RegionLaw
namespace Go.Proofs.YthfgnjdekhfabaaDoor
open Go.RowKit Ru
set_option maxRecDepth 100000

/-- The document's decoder: its text. -/
def Rd (w : World) (d : Nat) (S : ByteArray) : Prop := Blk w d 31 #[.string S]

/-- What the document's Feed leaves. -/
def RFed (w : World) (d : Nat) (q : List Int × ByteArray) (e : Ending) (w' : World) : Prop :=
  ∃ v, e = .returned v ∧ w'.ownsRow w.heap.size 21 1 v q.1.length (q.1.map (Value.int .i32)) ∧ Rd w' d q.2 ∧ w.grownBy w' (some d)

/-- The loop's relation. -/
structure RAt (w : World) (d : Nat) (T : List Int × ByteArray) (size : Nat) (cur : ByteArray) (v : Value) (out : List Int) (fuel : Nat) (wr : World) : Prop where
  blk : Rd wr d cur
  own : wr.ownsRow w.heap.size 21 1 v out.length (out.map (Value.int .i32))
  grown : w.grownBy wr (some d)
  fit : cur.size ≤ fuel
  len : out.length + fuel ≤ size
  eq : T = (out ++ (allF fuel cur).1, (allF fuel cur).2)

theorem RAt.drew {w : World} {d : Nat} {T : List Int × ByteArray} {size : Nat} {cur : ByteArray} {v : Value} {out : List Int} {fuel : Nat} {wr : World} (h : RAt w d T size cur v out fuel wr) : RAt w d T size cur v out fuel wr.drew :=
  ⟨h.blk, h.own, only_drew h.grown, h.fit, h.len, h.eq⟩

/-- How long the text is that lies there. -/
def curLen (w : World) (d : Nat) : Nat := match w.cell? ⟨d, 0, none⟩ with
  | some v => strLen v
  | none => 0
theorem curLen_of {w : World} {d : Nat} {S : ByteArray} (h : Rd w d S) : curLen w d = S.size := by
  have c : w.cell? ⟨d, 0, none⟩ = some (.string S) := Blk.cell h 0
  unfold curLen
  rw [c]
  rfl

theorem grown_far {a w w' : World} {r : Nat} {row : Option Nat} (h : a.grownBy w (some r)) (hg : w.grownBy w' row) (hr : ∀ k, row = some k → a.heap.size ≤ k) : a.grownBy w' (some r) :=
  ⟨hg.os.trans h.os, hg.tape.trans h.tape, hg.output.trans h.output, Nat.le_trans h.size hg.size, fun k hk hne => (hg.block k (Nat.lt_of_lt_of_le hk h.size) (fun e => by have := hr k e.symm; omega)).trans (h.block k hk hne)⟩
theorem grown_below {a w w' : World} {r : Nat} (h : a.grownBy w (some r)) (hb : Below w.heap.size w w') : a.grownBy w' (some r) := grown_far h (only_of_below hb none) (fun k hk => by cases hk)

theorem nonempty_of (cur : ByteArray) (hc : 0 < cur.size) : cur.toList.isEmpty = false := by
  rw [Lib.toList_data]
  cases h : cur.data.toList with
  | nil => have hl : cur.data.toList.length = cur.size := Array.length_toList; rw [h] at hl; simp at hl; omega
  | cons _ _ => rfl

set_option maxHeartbeats 1600000 in
theorem RFeed_any (d : Nat) (S s : ByteArray) (w : World) (hd : Rd w d S) (hS : S.size ≤ 100) (hs : s.size ≤ 800) :
    Calls Tryd.prog 12 #[.pointer (some ⟨d, 0, none⟩), .string s] w (RFed w d (allF (S ++ s).size (S ++ s))) := by
  obtain ⟨i0, hi, hz0, hz1, hz2⟩ := info_parts info_rune
  have hlt := Blk.lt hd
  have c0 : w.cell? ⟨d, 0, none⟩ = some (.string S) := Blk.cell hd 0
  have f0 := Blk.frozen hd 0
  have hsum : ¬ (9223372036854775807 < S.size + s.size) := by omega
  have hd1 : Rd (w.setCell ⟨d, 0, none⟩ (.string (S ++ s))) d (S ++ s) := Blk.set_ (show Blk w d 31 _ from hd) 0 _
  have hgr : w.grownBy (w.setCell ⟨d, 0, none⟩ (.string (S ++ s))) (some d) := only_setCell (p := ⟨d, 0, none⟩) (World.grownBy.refl w _) (.inl rfl) _
  have hX : (S ++ s).size ≤ 900 := by rw [ByteArray.size_append]; omega
  obtain ⟨T, hTT⟩ : ∃ T, allF (S ++ s).size (S ++ s) = T := ⟨_, rfl⟩
  have hst : RAt w d T (S ++ s).size (S ++ s) (.slice none 0 0) [] (S ++ s).size (w.setCell ⟨d, 0, none⟩ (.string (S ++ s))) :=
    ⟨hd1, World.ownsRow_nil _ _ _ _, hgr, Nat.le_refl _, by simp, by rw [← hTT]; simp⟩
  rw [hTT]
  have HST := hide hst
  clear hst hd1 hgr hTT hd
  go_enter Tryd.func12, Tryd.ntmps12
  go_wp2_with fail
  go_loopw [5] (fun v wr => ∃ (cur : ByteArray) (out : List Int) (fuel : Nat), RAt w d T (S ++ s).size cur v out fuel wr) (fun _ wr => curLen wr d)
  case atStart => exact ⟨_, [], _, HST.out⟩
  case round =>
    obtain ⟨cur, out, fuel, hat⟩ := hrel
    have hcl := curLen_of hat.blk
    have k0 : wr.cell? ⟨d, 0, none⟩ = some (.string cur) := Blk.cell hat.blk 0
    have hdw : d < wr.heap.size := Blk.lt hat.blk
    have hup := hat.grown.size
    by_cases hc : 0 < cur.size
    · have hne := nonempty_of cur hc
      have fit := hat.fit
      have len := hat.len
      have eq := hat.eq
      obtain ⟨k, rfl⟩ : ∃ k, fuel = k + 1 := ⟨fuel - 1, by omega⟩
      have hF := first_any cur wr hc (by unfold maxLen; omega)
      have hnn := stp_n cur cur[0].toNat
      have hbl := begins_le cur hc
      unfold allF at eq
      rw [dif_pos hc] at eq
      generalize stp cur cur[0].toNat = q at hF hnn eq
      obtain ⟨r, n, o⟩ := q
      dsimp only at hnn eq
      rw [← hnn] at hbl
      clear hnn
      have HF := hide hF
      have HAT := hide hat
      have HCL := hide hcl
      clear hF hat hcl
      cases o with
      | true =>
        rw [if_pos rfl, List.append_nil] at eq
        have HEQ := hide eq
        clear eq
        go_wp2_with fail
        refine HF.out.mono ?_
        rintro e w2 ⟨rfl, b2⟩
        have hb3 : Below wr.heap.size wr (w2.alloc (.cells #[.int .i64 n, .int .i32 r, .bool true] 53)) := b2.alloc b2.size _
        have hf : RFed w d T (.returned u5) (w2.alloc (.cells #[.int .i64 n, .int .i32 r, .bool true] 53)) := by
          rw [HEQ.out]
          exact ⟨_, rfl, HAT.out.own.kept (only_of_below hb3 none) (Classical.em _), Blk.below (show Blk wr d _ _ from HAT.out.blk) hb3 hdw, grown_below HAT.out.grown hb3⟩
        have HFF := hide hf
        clear hf b2 hb3
        dsimp only
        go_wp2
        go_ret
        exact HFF.out
      | false =>
        rw [if_neg (by decide)] at eq
        have hx : (cur.extract n cur.size).size ≤ k := by simp; omega
        have HEQ := hide eq
        clear eq
        go_wp2_with fail
        refine HF.out.mono ?_
        rintro e w2 ⟨rfl, b2⟩
        have z2 := b2.size
        have hown2 := HAT.out.own.kept (only_of_below b2 none) (Classical.em _)
        have hblk2 : Rd w2 d cur := Blk.below (show Blk wr d _ _ from HAT.out.blk) b2 hdw
        have hgr2 : w.grownBy w2 (some d) := grown_below HAT.out.grown b2
        have hpb := Blk.new w2 53 #[.int .i64 n, .int .i32 r, .bool false]
        have HO2 := hide hown2
        have HD2 := hide hblk2
        have HG2 := hide hgr2
        have HP2 := hide hpb
        have hd2 : d < w2.heap.size := by omega
        clear hown2 hblk2 hgr2 b2 hpb
        dsimp only
        go_wp2_with (at_builtin; refine wpList_append_own _ rfl _ _ 33 rfl w.heap.size 21 i0 _ 1 4 Tryd.underlying33 hi hz0 hz1 hz2 rfl (by decide) _ out.length (out.map (Value.int .i32)) rfl ((HO2.out.alloc _).alloc _) ⟨w2.heap.size + 1, 0, none⟩ 1 1 [Value.int .i32 r] rfl rfl ?c1 ?c2 ?c3 ?c4 ?c5 ?_)
        case c1 => exact rune_new _ _ (by simp) _ _
        case c2 => intro u hu; simp at hu; subst hu; rfl
        case c3 => unfold maxLen; omega
        case c4 => omega
        case c5 => simp; omega
        intro v3 w3 ho3 hg3 _
        have hne3 : some d ≠ u5.ownBlock := fun e => own_blk_ne HO2.out (show Blk w2 d _ _ from HD2.out) (by decide) e.symm
        have hne4 : some w2.heap.size ≠ u5.ownBlock := fun e => own_blk_ne (HO2.out.alloc _) HP2.out (by decide) e.symm
        have hd3 : Rd w3 d cur := Blk.grown (Blk.alloc (Blk.alloc (show Blk w2 d _ _ from HD2.out) _) _) hg3 hne3
        have hp3 : Blk w3 w2.heap.size 53 #[.int .i64 n, .int .i32 r, .bool false] := Blk.grown (Blk.alloc HP2.out _) hg3 hne4
        have hgr3 : w.grownBy w3 (some d) := grown_far (only_alloc (only_alloc HG2.out _) _) hg3 (fun x hx => (HO2.out.lt x hx).1)
        have kd : w3.cell? ⟨d, 0, none⟩ = some (.string cur) := Blk.cell hd3 0
        have fd := Blk.frozen hd3 0
        have kp : w3.cell? ⟨w2.heap.size, 0, none⟩ = some (.int .i64 n) := Blk.cell hp3 0
        have hn1 : (n : Int) ≤ (cur.size : Int) := by omega
        have hn0 : (0 : Int) ≤ (n : Int) := by omega
        have hfin : RAt w d T (S ++ s).size (cur.extract n cur.size) v3 (out ++ [r]) k (w3.setCell ⟨d, 0, none⟩ (.string (cur.extract n cur.size))) := by
          have hgs := only_setCell (p := ⟨d, 0, none⟩) (World.grownBy.refl w3 (some d)) (.inl rfl) (.string (cur.extract n cur.size))
          refine ⟨Blk.set_ (show Blk w3 d 31 _ from hd3) 0 _, ?_, only_setCell (p := ⟨d, 0, none⟩) hgr3 (.inl rfl) _, hx, by rw [List.length_append, List.length_singleton]; omega, ?_⟩
          · rw [List.map_append, List.length_append]
            exact ho3.kept hgs (.inr (own_blk_ne ho3 (show Blk w3 d _ _ from hd3) (by decide)))
          · rw [HEQ.out]
            simp
        have hcl2 : curLen ((w3.setCell ⟨d, 0, none⟩ (.string (cur.extract n cur.size))).drew) d < cur.size := by
          have := curLen_of (Blk.drew (show Blk _ d _ _ from hfin.blk))
          rw [this]
          simp
          omega
        have HFN := hide hfin
        have HC2 := hide hcl2
        clear hfin hcl2 ho3 hg3 hne3 hne4 hd3 hp3 hgr3 hx
        go_wp2_with fail
        go_region
        go_wp2_with fail
        go_roundw
        case rel => exact ⟨_, _, _, RAt.drew HFN.out⟩
        case measure => rw [HCL.out]; exact HC2.out
    · have h0 : cur.size = 0 := by omega
      have ecur := empty_of cur h0
      subst ecur
      have e1 : allF fuel ⟨#[]⟩ = ([], ⟨#[]⟩) := by
        cases fuel with
        | zero => rfl
        | succ k => unfold allF; rw [dif_neg hc]
      have eq := hat.eq
      rw [e1, List.append_nil] at eq
      have hf : RFed w d T (.returned u5) wr := by
        rw [eq]
        exact ⟨_, rfl, hat.own, hat.blk, hat.grown⟩
      have HF := hide hf
      clear hf eq e1 hat hcl
      go_wp2
      go_ret
      exact HF.out
end Go.Proofs.YthfgnjdekhfabaaDoor
