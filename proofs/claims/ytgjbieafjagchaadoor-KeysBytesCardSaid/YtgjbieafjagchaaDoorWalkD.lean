/- The walk of (*Reader).Feed: a reader's keys are what 'Keys.feed' says. -/
import Derived.Test.YtgjbieafjagchaaDoorWalkC
namespace Go.Proofs.YtgjbieafjagchaaDoor
open Go.RowKit Go.Lib Keys
set_option maxRecDepth 100000

theorem kept_rd {w w' : World} {r B : Nat} {c p : Bool} (h : Rd w r c p) (hb : Below B w w') (hr : r < B) : Rd w' r c p := Blk.below h hb hr

theorem grown_below {a w w' : World} {row : Option Nat} (h : a.grownBy w row) (hb : Below a.heap.size w w') : a.grownBy w' row :=
  ⟨hb.os.trans h.os, hb.tape.trans h.tape, hb.output.trans h.output, Nat.le_trans h.size hb.size, fun k hk hne => (hb.block k hk).trans (h.block k hk hne)⟩

theorem grown_grown {a w w' : World} {r : Nat} (h : a.grownBy w (some r)) (hb : w.grownBy w' (some r)) : a.grownBy w' (some r) :=
  ⟨hb.os.trans h.os, hb.tape.trans h.tape, hb.output.trans h.output, Nat.le_trans h.size hb.size, fun k hk hne => (hb.block k (Nat.lt_of_lt_of_le hk h.size) hne).trans (h.block k hk hne)⟩

theorem Adds.grown {w w' : World} {base tb ob r : Nat} {text : Bool} {v : Value} {out : List K} {c p : Bool} (h : Adds w base tb ob text v out) (hr : Rd w r c p) (hg : w.grownBy w' (some r)) : Adds w' base tb ob text v out :=
  ⟨Blk.grown h.tx hg (fun e => Blk.ne_ h.tx hr (by decide) (by injection e)), Blk.grown h.ou hg (fun e => Blk.ne_ h.ou hr (by decide) (by injection e)), h.own.kept hg (.inr (own_blk_ne h.own hr (by decide))), h.tb, h.ob⟩

/-- The loop's relation: behind k bytes. -/
structure At (w : World) (r : Nat) (t : St) (wr : World) : Prop where
  rd : Rd wr r t.c t.p
  adds : ∃ v, Adds wr w.heap.size (w.heap.size + 1) w.heap.size t.text v t.out
  grown : w.grownBy wr (some r)

theorem At.step {w wr w1 w2 : World} {r : Nat} {t : St} {b : UInt8} (hlt : r < w.heap.size) (h : At w r t wr)
    (hr : Rd w1 r (one t.c t.p b).1 (one t.c t.p b).2.1) (hg : wr.grownBy w1 (some r))
    (ha : ∃ v, Adds w2 w.heap.size (w.heap.size + 1) w.heap.size (decide ((one t.c t.p b).2.2.kind = 1)) v (push t.out t.text (!t.p) (one t.c t.p b).2.2)) (hb : Below w.heap.size w1 w2) : At w r (stp t b) w2 :=
  ⟨kept_rd hr hb hlt, ha, grown_below (grown_grown h.grown hg) hb⟩

set_option maxHeartbeats 800000 in
theorem Feed_any (r : Nat) (c p : Bool) (s : ByteArray) (w : World) (hr : Rd w r c p) (hs : s.size ≤ 10000) :
    Calls Tryd.prog 8 #[.pointer (some ⟨r, 0, none⟩), .string s] w fun e w' =>
      ∃ v, e = .returned v ∧ w'.ownsRow w.heap.size 23 3 v (feed c p s.data.toList).out.length (cells (feed c p s.data.toList).out) ∧ Rd w' r (feed c p s.data.toList).c (feed c p s.data.toList).p ∧ w.grownBy w' (some r) := by
  have hlt := Blk.lt hr
  go_enter Tryd.func8, Tryd.ntmps8
  go_wp2
  go_loopw [15] (fun i wr => ∃ k : Nat, k ≤ s.size ∧ i = .int .i64 k ∧ At w r (feed c p (s.data.toList.take k)) wr) (fun i _ => s.size - (intOf i).toNat)
  case atStart =>
    refine ⟨0, Nat.zero_le _, rfl, ⟨Blk.alloc (Blk.alloc hr _) _, ⟨.slice none 0 0, ?_, ?_, World.ownsRow_nil _ _ _ _, by omega, Nat.le_refl _⟩, only_alloc (only_alloc (World.grownBy.refl w _) _) _⟩⟩
    · have := Blk.new (w.alloc (.cells #[.slice none 0 0] 31)) 4 #[.bool false]
      have e : (w.alloc (.cells #[.slice none 0 0] 31)).heap.size = w.heap.size + 1 := by simp
      rw [e] at this
      exact this
    · exact Blk.alloc (Blk.new w _ _) _
  case round =>
    obtain ⟨k, hk, rfl, hat⟩ := hrel
    have hok := ok_feed c p (s.data.toList.take k)
    have hbk := bulk_feed c p (s.data.toList.take k)
    have htl : (s.data.toList.take k).length ≤ k := List.length_take_le _ _
    have hstep := fun h => feed_take c p s.data.toList k h
    obtain ⟨t, ht⟩ : ∃ t, t = feed c p (s.data.toList.take k) := ⟨_, rfl⟩
    rw [← ht] at hat hok hbk hstep
    have hat' := hat
    obtain ⟨hR, ⟨v, hA⟩, hG⟩ := hat'
    have d0 := hR.c0
    have d1 := hR.c1
    by_cases hlk : k < s.size
    · have hbs : k < s.data.toList.length := by simpa using hlk
      have hget : s.data.toList[k] = s[k] := by rw [Array.getElem_toList]; rfl
      have hst := hstep hbs
      rw [hget] at hst
      have HST := hide hst
      have HOK := hide hok
      clear hget hstep hst ht hok
      go_wp2_with fail
      refine (one_any r t.c t.p s[k] wr hR).mono ?_
      rintro e w1 ⟨rfl, hR1, hG1⟩
      have hA1 := hA.grown hR hG1
      dsimp only
      go_wp2_with fail
      refine (add_any w.heap.size (w.heap.size + 1) w.heap.size (one t.c t.p s[k]).2.2 (!t.p) t.text v t.out w1 hA1 HOK.out (by omega) (by have := one_size t.c t.p s[k]; omega)).mono ?_
      rintro e w2 ⟨rfl, hA2, hB2⟩
      have hfin := hat.step hlt hR1 hG1 hA2 hB2
      rw [← HST.out] at hfin
      have HF := hide hfin
      clear hfin hA2 hB2 hA1 hR1 hG1 hA hR hG hat d0 d1
      dsimp only
      go_wp2
      go_roundw
      case rel => exact ⟨k + 1, by omega, by go_num, HF.out⟩
      case measure => simp [intOf]; omega
    · have hke : s.data.toList.take k = s.data.toList := List.take_of_length_le (by simp; omega)
      rw [hke] at ht
      subst ht
      have co := Blk.cell hA.ou 0
      have HA := hide hA.own
      clear hke hstep hok hbk htl hat hA
      go_wp2
      go_ret
      exact ⟨v, rfl, HA.out, hR, hG⟩
end Go.Proofs.YtgjbieafjagchaaDoor
