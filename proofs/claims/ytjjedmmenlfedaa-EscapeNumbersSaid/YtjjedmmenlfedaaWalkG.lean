/- The walk of (*Parser).Feed: a parser's acts are what 'Esc.feed' says. -/
import Derived.Test.YtjjedmmenlfedaaWalkF
import Derived.Test.YtjjedmmenlfedaaPlainB
namespace Go.Proofs.Ytjjedmmenlfedaa
open Go.RowKit Esc
set_option maxRecDepth 100000

/-- The cells of acts. -/
def acells (l : List A) : List Value := l.flatMap fun a => (acts a).toList
theorem acells_append (l m : List A) : acells (l ++ m) = acells l ++ acells m := by unfold acells; exact List.flatMap_append
theorem acells_snoc (l : List A) (a : A) : acells (l ++ [a]) = acells l ++ (acts a).toList := by
  rw [acells_append]
  congr 1
theorem acells_length (l : List A) : (acells l).length = l.length * 13 := by
  induction l with
  | nil => rfl
  | cons k r ih =>
    have e : acells (k :: r) = (acts k).toList ++ acells r := rfl
    have e2 : (acts k).toList.length = 13 := rfl
    rw [e, List.length_append, ih, List.length_cons, e2]
    omega
theorem acts_one (a : A) : ∀ u ∈ (acts a).toList, u.oneCell' = true := by
  intro u hu
  simp only [acts, List.mem_cons, List.not_mem_nil, or_false] at hu
  rcases hu with rfl | rfl | rfl | rfl | rfl | rfl | rfl | rfl | rfl | rfl | rfl | rfl | rfl <;> rfl
theorem acells_one (l : List A) : ∀ u ∈ acells l, u.oneCell' = true := by
  intro u hu
  unfold acells at hu
  obtain ⟨k, _, hk⟩ := List.mem_flatMap.1 hu
  exact acts_one k u hk
theorem acells_at (l : List A) (i j : Nat) (h : i < l.length) (hj : j < 13) : (acells l)[i * 13 + j]? = (acts l[i])[j]? := by
  have e : l = l.take i ++ l[i] :: l.drop (i + 1) := by rw [List.getElem_cons_drop, List.take_append_drop]
  have hl : (l.take i).length = i := by rw [List.length_take]; omega
  have e2 : acells l = acells (l.take i) ++ ((acts l[i]).toList ++ acells (l.drop (i + 1))) := by
    conv => lhs; rw [e]
    rw [acells_append]
    rfl
  have e3 : (acells (l.take i)).length = i * 13 := by rw [acells_length, hl]
  have e4 : (acts l[i]).toList.length = 13 := rfl
  rw [e2, List.getElem?_append_right (by omega), e3, List.getElem?_append_left (by omega), Nat.add_sub_cancel_left]
  rw [Array.getElem?_toList]

theorem info_act : (Try.prog.info? 28).map (fun i => (i.zero, i.size, i.bytes)) = some (some (.agg #[.int .i64 0, .int .i32 0, .int .u8 0, .int .u8 0, .int .i64 0, .int .i64 0, .int .i64 0, .int .i64 0, .int .i64 0, .int .i64 0, .int .i64 0, .int .i64 0, .int .i64 0]), 13, 88) := by kernel_rfl

/-- A slice of characters in a block of which F holds. -/
def Src (w : World) (F : Nat → Prop) (v : Value) (zs : List Int) : Prop :=
  ∃ A cap, v = .slice A zs.length cap ∧ zs.length ≤ cap ∧ (0 < zs.length → ∃ g off, A = some ⟨g, off, none⟩ ∧ g < w.heap.size ∧ F g ∧ ∀ j (h : j < zs.length), w.cell? ⟨g, off + j, none⟩ = some (.int .i32 zs[j]))

theorem Src.grown {w w' : World} {F : Nat → Prop} {b : Nat} {v : Value} {zs : List Int} (h : Src w F v zs) (hg : w.grownBy w' (some b)) (hF : ¬ F b) : Src w' F v zs := by
  obtain ⟨A, cap, rfl, h0, h⟩ := h
  refine ⟨A, cap, rfl, h0, fun hl => ?_⟩
  obtain ⟨g, off, rfl, h1, h2, h3⟩ := h hl
  refine ⟨g, off, rfl, Nat.lt_of_lt_of_le h1 hg.size, h2, fun j hj => ?_⟩
  rw [← h3 j hj]
  exact World.cell?_of_block (hg.block g h1 (fun e => by injection e with e; subst e; exact hF h2))

theorem Src.below {w w' : World} {F : Nat → Prop} {v : Value} {zs : List Int} (h : Src w F v zs) (hg : Below w.heap.size w w') : Src w' F v zs := by
  obtain ⟨A, cap, rfl, h0, h⟩ := h
  refine ⟨A, cap, rfl, h0, fun hl => ?_⟩
  obtain ⟨g, off, rfl, h1, h2, h3⟩ := h hl
  exact ⟨g, off, rfl, Nat.lt_of_lt_of_le h1 hg.size, h2, fun j hj => (hg.cell (p := ⟨g, off + j, none⟩) h1).trans (h3 j hj)⟩

theorem grown_grown {a w w' : World} {r : Nat} (h : a.grownBy w (some r)) (hb : w.grownBy w' (some r)) : a.grownBy w' (some r) :=
  ⟨hb.os.trans h.os, hb.tape.trans h.tape, hb.output.trans h.output, Nat.le_trans h.size hb.size, fun k hk hne => (hb.block k (Nat.lt_of_lt_of_le hk h.size) hne).trans (h.block k hk hne)⟩
theorem grown_far {a w w' : World} {r : Nat} {row : Option Nat} (h : a.grownBy w (some r)) (hg : w.grownBy w' row) (hr : ∀ k, row = some k → a.heap.size ≤ k) : a.grownBy w' (some r) :=
  ⟨hg.os.trans h.os, hg.tape.trans h.tape, hg.output.trans h.output, Nat.le_trans h.size hg.size, fun k hk hne => (hg.block k (Nat.lt_of_lt_of_le hk h.size) (fun e => by have := hr k e.symm; omega)).trans (h.block k hk hne)⟩

/-- Feed's loop, behind some characters. -/
structure FAt (w : World) (b : Nat) (t : P × List A) (v : Value) (wr : World) : Prop where
  ps : Ps wr b t.1
  own : wr.ownsRow w.heap.size 28 13 v t.2.length (acells t.2)
  grown : w.grownBy wr (some b)

/-- Behind Step, the act's place laid and filled. -/
theorem FAt.stepped {w wr w1 : World} {b : Nat} {t : P × List A} {v : Value} {p' : P} (a' : A) (h : FAt w b t v wr) (hp : Ps w1 b p') (hg : wr.grownBy w1 (some b)) :
    FAt w b (p', t.2) v (w1.alloc (.cells (acts a') 28)) := by
  have g2 : wr.grownBy (w1.alloc (.cells (acts a') 28)) (some b) := only_alloc hg _
  exact ⟨Blk.alloc hp _, h.own.kept g2 (.inr (own_blk_ne h.own h.ps (by decide))), grown_grown h.grown g2⟩

/-- And behind the append. -/
theorem FAt.appended {w w2 w3 : World} {b : Nat} {t : P × List A} {v v3 : Value} {a' : A} (h : FAt w b t v w2)
    (ho : w3.ownsRow w.heap.size 28 13 v3 (t.2.length + 1) (acells t.2 ++ (acts a').toList)) (hg : (w2.alloc (.cells (acts a') 28)).grownBy w3 v.ownBlock) :
    FAt w b (t.1, t.2 ++ [a']) v3 w3 := by
  have hn := own_blk_ne h.own h.ps (by decide)
  refine ⟨Blk.grown (Blk.alloc h.ps _) hg (fun e => hn e.symm), ?_, grown_far (only_alloc h.grown _) hg (fun k hk => (h.own.lt k hk).1)⟩
  dsimp only
  rw [acells_snoc, List.length_append]
  exact ho

set_option maxHeartbeats 1600000 in
theorem Feed_any (b : Nat) (p : P) (zs : List Int) (v : Value) (w : World) (hp : Ps w b p) (hok : Ok p) (F : Nat → Prop) (hs : Src w F v zs) (hF : ¬ F b) (hl : zs.length ≤ 1000) :
    Calls Try.prog 11 #[.pointer (some ⟨b, 0, none⟩), v] w fun e w' =>
      ∃ v', e = .returned v' ∧ w'.ownsRow w.heap.size 28 13 v' (feed p zs).2.length (acells (feed p zs).2) ∧ Ps w' b (feed p zs).1 ∧ w.grownBy w' (some b) := by
  obtain ⟨A, cap, rfl, hcap, hcell⟩ := hs
  have hlt := Blk.lt hp
  obtain ⟨i0, hi, hz0, hz1, hz2⟩ := info_parts info_act
  go_enter Try.func11, Try.ntmps11
  go_wp2
  go_loopw [5, 12] (fun v i wr => ∃ k : Nat, k ≤ zs.length ∧ i = .int .i64 k ∧ FAt w b (feed p (zs.take k)) v wr) (fun _ i _ => zs.length - (intOf i).toNat)
  case atStart => exact ⟨0, Nat.zero_le _, rfl, ⟨hp, World.ownsRow_nil _ _ _ _, World.grownBy.refl w _⟩⟩
  case round =>
    obtain ⟨k, hk, rfl, hat⟩ := hrel
    have hok1 := ok_feed p (zs.take k) hok
    have hln := feed_len p (zs.take k)
    have htl : (zs.take k).length ≤ k := List.length_take_le _ _
    have hstep := fun h => feed_take p zs k h
    obtain ⟨t, ht⟩ : ∃ t, t = feed p (zs.take k) := ⟨_, rfl⟩
    rw [← ht] at hat hok1 hln hstep
    by_cases hlk : k < zs.length
    · obtain ⟨g, off, rfl, hg, hgF, hc⟩ := hcell (by omega)
      have hgb : g ≠ b := fun e => by subst e; exact hF hgF
      have hc1 : wr.cell? ⟨g, off + k, none⟩ = some (.int .i32 zs[k]) := by
        rw [← hc k hlk]
        exact World.cell?_of_block (hat.grown.block g hg (fun e => by injection e with e; exact hgb e))
      have hst := hstep hlk
      have hcall := Step_any b t.1 zs[k] wr hat.ps hok1
      generalize zs[k] = r at hc1 hst hcall
      unfold stF at hst
      generalize stp t.1 r = q at hst hcall
      obtain ⟨p', a'⟩ := q
      have HST := hide hst
      have HC := hide hcall
      clear hstep hst hcall hcell hc ht hok1
      by_cases h0 : a'.kind = 0
      · have t1 : (a'.kind != 0) = false := by rw [h0]; rfl
        have hfin := HST.out
        dsimp only at hfin
        rw [if_pos h0] at hfin
        have HF := hide hfin
        clear h0 hfin
        go_wp2_with fail
        refine (HC.out).mono ?_
        rintro e w1 ⟨rfl, hp1, hg1⟩
        have hF := hat.stepped a' hp1 hg1
        have HAT := hide hF
        clear hF hat
        unfold aval acts
        dsimp only
        go_wp2
        go_roundw
        case rel => exact ⟨k + 1, by omega, by go_num, by rw [HF.out]; exact HAT.out⟩
        case measure => simp [intOf]; omega
      · have t1 : (a'.kind != 0) = true := by rw [bne_iff_ne]; exact h0
        have hfin := HST.out
        dsimp only at hfin
        rw [if_neg h0] at hfin
        have HF := hide hfin
        clear h0 hfin
        go_wp2_with fail
        refine (HC.out).mono ?_
        rintro e w1 ⟨rfl, hp1, hg1⟩
        have hF := hat.stepped a' hp1 hg1
        have HAT := hide hF
        clear hF hat
        unfold aval acts
        dsimp only
        go_wp2_with (at_builtin; go_loud (refine wpList_append_own _ rfl _ _ 35 rfl w.heap.size 28 i0 _ 13 88 Try.underlying35 hi hz0 hz1 hz2 rfl (by decide) _ t.2.length (acells t.2) rfl (HAT.out.own.alloc _) ⟨w1.heap.size + 1, 0, none⟩ 1 1 (acts a').toList rfl rfl ?c1 ?c2 ?c3 ?c4 ?c5 ?_))
        case c1 => intro j u hj; rw [← Array.getElem?_toList] at hj; exact hj
        case c2 => simpa using acts_one a'
        case c3 => unfold maxLen; omega
        case c4 => omega
        case c5 => have := HAT.out.grown.size; simp at this ⊢; omega
        intro v3 w3 ho hg3 _
        have hF := HAT.out.appended ho hg3
        have HAT3 := hide hF
        clear hF ho hg3
        go_wp2
        go_roundw
        case rel => exact ⟨k + 1, by omega, by go_num, by rw [HF.out]; exact HAT3.out⟩
        case measure => simp [intOf]; omega
    · have hke : zs.take k = zs := List.take_of_length_le (by omega)
      rw [hke] at ht
      subst ht
      have HAT := hide hat
      clear hke hstep hok1 hln htl hat hcell
      go_wp2
      go_ret
      exact ⟨_, rfl, HAT.out.own, HAT.out.ps, HAT.out.grown⟩
end Go.Proofs.Ytjjedmmenlfedaa
