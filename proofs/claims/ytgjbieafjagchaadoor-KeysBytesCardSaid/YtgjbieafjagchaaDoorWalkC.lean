/- The walk of the closure in (*Reader).Feed: a key is added to the row, or its text is joined to the last one. -/
import Derived.Test.YtgjbieafjagchaaDoorWalkB
import Derived.BigRegion
namespace Go.Proofs.YtgjbieafjagchaaDoor
open Go.RowKit Go.Lib Keys
set_option maxRecDepth 100000

def kcells (k : K) : List Value := [.int .i64 k.kind, .int .i64 k.n, .string k.s]
/-- Keys' cells, in a row. -/
def cells (l : List K) : List Value := l.flatMap kcells

theorem cells_append (l m : List K) : cells (l ++ m) = cells l ++ cells m := by unfold cells; exact List.flatMap_append
theorem cells_length (l : List K) : (cells l).length = l.length * 3 := by
  induction l with
  | nil => rfl
  | cons k r ih =>
    have e : cells (k :: r) = kcells k ++ cells r := rfl
    rw [e, List.length_append, ih, List.length_cons]
    simp only [kcells, List.length_cons, List.length_nil]
    omega
theorem cells_one (l : List K) : ∀ u ∈ cells l, u.oneCell' = true := by
  intro u hu
  unfold cells at hu
  obtain ⟨k, _, hk⟩ := List.mem_flatMap.1 hu
  simp only [kcells, List.mem_cons, List.not_mem_nil, or_false] at hk
  rcases hk with rfl | rfl | rfl <;> rfl
theorem cells_at (l : List K) (i : Nat) (h : i < l.length) : (cells l)[i * 3]? = some (.int .i64 l[i].kind) ∧ (cells l)[i * 3 + 1]? = some (.int .i64 l[i].n) ∧ (cells l)[i * 3 + 2]? = some (.string l[i].s) := by
  have e : l = l.take i ++ l[i] :: l.drop (i + 1) := by rw [List.getElem_cons_drop, List.take_append_drop]
  have hl : (l.take i).length = i := by rw [List.length_take]; omega
  have e2 : cells l = cells (l.take i) ++ (kcells l[i] ++ cells (l.drop (i + 1))) := by
    conv => lhs; rw [e]
    rw [cells_append]
    rfl
  have hc : (cells (l.take i)).length = i * 3 := by rw [cells_length, hl]
  rw [e2]
  refine ⟨?_, ?_, ?_⟩
  · rw [List.getElem?_append_right (by omega), hc, Nat.sub_self]; rfl
  · rw [List.getElem?_append_right (by omega), hc, show i * 3 + 1 - i * 3 = 1 from by omega]; rfl
  · rw [List.getElem?_append_right (by omega), hc, show i * 3 + 2 - i * 3 = 2 from by omega]; rfl

theorem info_key : (Tryd.prog.info? 23).map (fun i => (i.zero, i.size, i.bytes)) = some (some (.agg #[.int .i64 0, .int .i64 0, .string ⟨#[]⟩]), 3, 32) := by kernel_rfl

/-- What the closure's captured variables are. -/
structure Adds (w : World) (base tb ob : Nat) (text : Bool) (v : Value) (out : List K) : Prop where
  tx : Blk w tb 4 #[.bool text]
  ou : Blk w ob 31 #[v]
  own : w.ownsRow base 23 3 v out.length (cells out)
  tb : base ≤ tb
  ob : base ≤ ob

section
variable {w w' : World} {base tb ob : Nat} {text : Bool} {v : Value} {out : List K}
theorem Adds.ne (h : Adds w base tb ob text v out) : tb ≠ ob ∧ v.ownBlock ≠ some tb ∧ v.ownBlock ≠ some ob :=
  ⟨Blk.ne_ h.tx h.ou (by decide), own_blk_ne h.own h.tx (by decide), own_blk_ne h.own h.ou (by decide)⟩
theorem Adds.alloc (h : Adds w base tb ob text v out) (o : Obj) : Adds (w.alloc o) base tb ob text v out :=
  ⟨Blk.alloc h.tx o, Blk.alloc h.ou o, h.own.alloc o, h.tb, h.ob⟩
theorem Adds.drew (h : Adds w base tb ob text v out) : Adds w.drew base tb ob text v out := ⟨h.tx, h.ou, h.own, h.tb, h.ob⟩
theorem Adds.settb (h : Adds w base tb ob text v out) (q : Bool) : Adds (w.setCell ⟨tb, 0, none⟩ (.bool q)) base tb ob q v out :=
  ⟨Blk.set_ h.tx 0 _, Blk.far (p := ⟨tb, 0, none⟩) h.ou (fun e => h.ne.1 e.symm) _, ownsRow_setCell_other h.own h.ne.2.1 _, h.tb, h.ob⟩
end

set_option maxHeartbeats 800000 in
/-- No key: nothing is added. -/
theorem add_none (base tb ob : Nat) (k : K) (direct text : Bool) (v : Value) (out : List K) (w : World) (h : Adds w base tb ob text v out) (h0 : k.kind = 0) :
    Calls Tryd.prog 14 #[val k, .bool direct, .pointer (some ⟨tb, 0, none⟩), .pointer (some ⟨ob, 0, none⟩)] w fun e w' =>
      e = .returned (.tuple #[]) ∧ Adds w' base tb ob false v out ∧ Below base w w' := by
  have hlt := Blk.lt h.tx
  have hlo := Blk.lt h.ou
  have ct : w.cell? ⟨tb, 0, none⟩ = some (.bool text) := Blk.cell h.tx 0
  have ft := Blk.frozen h.tx 0
  have nt : ¬ tb = w.heap.size := by omega
  have t1 : (k.kind == 1) = false := by rw [h0]; rfl
  have t0 : (k.kind != 0) = false := by rw [h0]; rfl
  clear h0
  unfold val
  go_enter Tryd.func14, Tryd.ntmps14
  go_wp2
  go_end0
  exact ⟨rfl, Adds.alloc (Adds.settb h false) _, ((Below.refl base w).setCell h.tb _).alloc (by simp; have := h.tb; omega) _⟩

/-- What stands behind the append: a new row, all else as it was. -/
theorem push_facts {w w1 : World} {base tb ob : Nat} {text : Bool} {v v1 : Value} {out : List K} {k : K} {x y z : Value} (h : Adds w base tb ob text v out)
    (hown1 : w1.ownsRow base 23 3 v1 (out.length + 1) (cells out ++ [.int .i64 k.kind, .int .i64 k.n, .string k.s]))
    (hg : ((w.alloc (.cells #[.int .i64 k.kind, .int .i64 k.n, .string k.s] 23)).alloc (.cells #[x, y, z] 23)).grownBy w1 v.ownBlock) :
    (∃ g cap, v1 = .slice (some ⟨g, 0, none⟩) (out.length + 1) cap) ∧ (∀ q, Adds ((w1.setCell ⟨ob, 0, none⟩ v1).setCell ⟨tb, 0, none⟩ (.bool q)) base tb ob q v1 (out ++ [k])) ∧ Blk w1 tb 4 #[.bool text] ∧ Blk w1 ob 31 #[v] ∧ Blk w1 w.heap.size 23 #[.int .i64 k.kind, .int .i64 k.n, .string k.s] ∧ Below base w w1 := by
  obtain ⟨n1, n2, n3⟩ := h.ne
  have hb : base ≤ w.heap.size := by have := Blk.lt h.tx; have := h.tb; omega
  obtain ⟨g, cap, hv, _, _⟩ := hown1.form (by omega)
  have b1 : Blk w1 tb 4 #[.bool text] := Blk.grown (Blk.alloc (Blk.alloc h.tx _) _) hg (fun e => n2 e.symm)
  have b2 : Blk w1 ob 31 #[v] := Blk.grown (Blk.alloc (Blk.alloc h.ou _) _) hg (fun e => n3 e.symm)
  refine ⟨⟨g, cap, hv⟩, fun q => ⟨Blk.set_ (Blk.far (p := ⟨ob, 0, none⟩) b1 n1 _) 0 _, Blk.far (p := ⟨tb, 0, none⟩) (Blk.set_ b2 0 _) (fun e => n1 e.symm) _, ?_, h.tb, h.ob⟩, b1, b2, Blk.grown (Blk.alloc (Blk.new w _ _) _) hg (fun e => ?_), ?_⟩
  · have e1 : (out ++ [k]).length = out.length + 1 := by simp
    rw [e1, cells_append]
    exact ownsRow_setCell_other (ownsRow_setCell_other hown1 (own_blk_ne hown1 b2 (by decide)) _) (own_blk_ne hown1 b1 (by decide)) _
  · have := (h.own.lt _ e.symm).2
    omega
  · exact (((Below.refl base w).alloc hb _).alloc (by simp; omega) _).grown hg (by simp; omega) (fun j hj => (h.own.lt j hj).1)

theorem three_new (W : World) (g : Nat) (hg : g = W.heap.size) (x y z : Value) (t : TypeId) : ∀ (j : Nat) (u : Value), [x, y, z][j]? = some u → (W.alloc (.cells #[x, y, z] t)).cell? ((⟨g, 0, none⟩ : Addr).add j) = some u := by
  intro j u hj
  subst hg
  rw [Addr.add_lit, Nat.zero_add]
  have h := Blk.cell (Blk.new W t #[x, y, z]) j
  rw [h, ← hj]
  simp

set_option maxHeartbeats 800000 in
/-- A key that is added. -/
theorem add_push (base tb ob : Nat) (k : K) (direct text : Bool) (v : Value) (out : List K) (w : World) (h : Adds w base tb ob text v out) (h0 : ¬ k.kind = 0) (hj : ¬ (k.kind = 1 ∧ text = true ∧ direct = true)) (hn : out.length ≤ 100000) :
    Calls Tryd.prog 14 #[val k, .bool direct, .pointer (some ⟨tb, 0, none⟩), .pointer (some ⟨ob, 0, none⟩)] w fun e w' =>
      e = .returned (.tuple #[]) ∧ (∃ v', Adds w' base tb ob (decide (k.kind = 1)) v' (out ++ [k])) ∧ Below base w w' := by
  have hlt := Blk.lt h.tx
  have hlo := Blk.lt h.ou
  have ct : w.cell? ⟨tb, 0, none⟩ = some (.bool text) := Blk.cell h.tx 0
  have ft := Blk.frozen h.tx 0
  have co : w.cell? ⟨ob, 0, none⟩ = some v := Blk.cell h.ou 0
  have fo := Blk.frozen h.ou 0
  have nt : ¬ tb = w.heap.size := by omega
  have no : ¬ ob = w.heap.size := by omega
  have t0 : (k.kind != 0) = true := by rw [bne_iff_ne]; exact h0
  obtain ⟨i0, hi, hz0, hz1, hz2⟩ := info_parts info_key
  by_cases h1 : k.kind = 1
  · have t1 : (k.kind == 1) = true := by rw [beq_iff_eq]; exact h1
    have hd : decide (k.kind = 1) = true := by simp [h1]
    rw [hd]
    rcases Bool.eq_false_or_eq_true text with hx | hx
    · subst hx
      have hdr : direct = false := by
        rcases Bool.eq_false_or_eq_true direct with hy | hy
        · exact absurd ⟨h1, rfl, hy⟩ hj
        · exact hy
      subst hdr
      clear hd h1 hj h0
      unfold val
      go_enter Tryd.func14, Tryd.ntmps14
      go_wp2_with (at_builtin; refine wpList_append_own _ rfl _ _ 31 rfl base 23 i0 (.agg #[.int .i64 0, .int .i64 0, .string ⟨#[]⟩]) 3 32 Tryd.underlying31 hi hz0 hz1 hz2 rfl (by decide) v out.length (cells out) rfl ((h.own.alloc _).alloc _) ⟨w.heap.size + 1, 0, none⟩ 1 1 [.int .i64 k.kind, .int .i64 k.n, .string k.s] rfl rfl ?c1 ?c2 ?c3 ?c4 ?c5 ?_)
      case c1 => exact three_new _ _ (by simp) _ _ _ _
      case c2 => intro u hu; simp at hu; rcases hu with rfl | rfl | rfl <;> rfl
      case c3 => unfold maxLen; omega
      case c4 => omega
      case c5 => have := h.tb; simp; omega
      intro v1 w1 hown1 hg _
      obtain ⟨⟨g, cap, rfl⟩, hfin, b1, b2, b3, hb⟩ := push_facts h hown1 hg
      have HF := hide hfin
      have ct1 : w1.cell? ⟨tb, 0, none⟩ = some (.bool true) := Blk.cell b1 0
      have ft1 := Blk.frozen b1 0
      have co1 : w1.cell? ⟨ob, 0, none⟩ = some v := Blk.cell b2 0
      have fo1 := Blk.frozen b2 0
      have ck1 : w1.cell? ⟨w.heap.size, 0, none⟩ = some (.int .i64 k.kind) := Blk.cell b3 0
      have htb := h.tb
      have hob := h.ob
      have hto := h.ne.1
      have e1 : ¬ tb = ob := hto
      have e2 : ¬ ob = tb := fun e => hto e.symm
      clear ct ft co fo hown1 hg hfin
      go_wp2
      go_end0
      exact ⟨rfl, ⟨_, HF.out true⟩, (hb.setCell hob _).setCell htb _⟩
    · subst hx
      clear hd h1 hj h0
      unfold val
      go_enter Tryd.func14, Tryd.ntmps14
      go_wp2_with (at_builtin; refine wpList_append_own _ rfl _ _ 31 rfl base 23 i0 (.agg #[.int .i64 0, .int .i64 0, .string ⟨#[]⟩]) 3 32 Tryd.underlying31 hi hz0 hz1 hz2 rfl (by decide) v out.length (cells out) rfl ((h.own.alloc _).alloc _) ⟨w.heap.size + 1, 0, none⟩ 1 1 [.int .i64 k.kind, .int .i64 k.n, .string k.s] rfl rfl ?c1 ?c2 ?c3 ?c4 ?c5 ?_)
      case c1 => exact three_new _ _ (by simp) _ _ _ _
      case c2 => intro u hu; simp at hu; rcases hu with rfl | rfl | rfl <;> rfl
      case c3 => unfold maxLen; omega
      case c4 => omega
      case c5 => have := h.tb; simp; omega
      intro v1 w1 hown1 hg _
      obtain ⟨⟨g, cap, rfl⟩, hfin, b1, b2, b3, hb⟩ := push_facts h hown1 hg
      have HF := hide hfin
      have ct1 : w1.cell? ⟨tb, 0, none⟩ = some (.bool false) := Blk.cell b1 0
      have ft1 := Blk.frozen b1 0
      have co1 : w1.cell? ⟨ob, 0, none⟩ = some v := Blk.cell b2 0
      have fo1 := Blk.frozen b2 0
      have ck1 : w1.cell? ⟨w.heap.size, 0, none⟩ = some (.int .i64 k.kind) := Blk.cell b3 0
      have htb := h.tb
      have hob := h.ob
      have hto := h.ne.1
      have e1 : ¬ tb = ob := hto
      have e2 : ¬ ob = tb := fun e => hto e.symm
      clear ct ft co fo hown1 hg hfin
      go_wp2
      go_end0
      exact ⟨rfl, ⟨_, HF.out true⟩, (hb.setCell hob _).setCell htb _⟩
  · have t1 : (k.kind == 1) = false := by rw [beq_eq_false_iff_ne]; exact h1
    have hd : decide (k.kind = 1) = false := by simp [h1]
    rw [hd]
    clear hd h1 hj h0
    unfold val
    go_enter Tryd.func14, Tryd.ntmps14
    go_wp2_with (at_builtin; refine wpList_append_own _ rfl _ _ 31 rfl base 23 i0 (.agg #[.int .i64 0, .int .i64 0, .string ⟨#[]⟩]) 3 32 Tryd.underlying31 hi hz0 hz1 hz2 rfl (by decide) v out.length (cells out) rfl ((h.own.alloc _).alloc _) ⟨w.heap.size + 1, 0, none⟩ 1 1 [.int .i64 k.kind, .int .i64 k.n, .string k.s] rfl rfl ?c1 ?c2 ?c3 ?c4 ?c5 ?_)
    case c1 => exact three_new _ _ (by simp) _ _ _ _
    case c2 => intro u hu; simp at hu; rcases hu with rfl | rfl | rfl <;> rfl
    case c3 => unfold maxLen; omega
    case c4 => omega
    case c5 => have := h.tb; simp; omega
    intro v1 w1 hown1 hg _
    obtain ⟨⟨g, cap, rfl⟩, hfin, b1, b2, b3, hb⟩ := push_facts h hown1 hg
    have HF := hide hfin
    have ct1 : w1.cell? ⟨tb, 0, none⟩ = some (.bool text) := Blk.cell b1 0
    have ft1 := Blk.frozen b1 0
    have co1 : w1.cell? ⟨ob, 0, none⟩ = some v := Blk.cell b2 0
    have fo1 := Blk.frozen b2 0
    have ck1 : w1.cell? ⟨w.heap.size, 0, none⟩ = some (.int .i64 k.kind) := Blk.cell b3 0
    have htb := h.tb
    have hob := h.ob
    have hto := h.ne.1
    have e1 : ¬ tb = ob := hto
    have e2 : ¬ ob = tb := fun e => hto e.symm
    clear ct ft co fo hown1 hg hfin
    go_wp2
    go_end0
    exact ⟨rfl, ⟨_, HF.out false⟩, (hb.setCell hob _).setCell htb _⟩

theorem cells_set (init : List K) (last : K) (x : ByteArray) : (cells (init ++ [last])).set (init.length * 3 + 2) (.string x) = cells (init ++ [{ last with s := x }]) := by
  rw [cells_append, cells_append, List.set_append_right _ _ (by rw [cells_length]; omega), cells_length, show init.length * 3 + 2 - init.length * 3 = 2 from by omega]
  rfl

theorem Adds.joined {w : World} {base tb ob g cap : Nat} {text : Bool} {init : List K} {last : K} (h : Adds w base tb ob text (.slice (some ⟨g, 0, none⟩) (init ++ [last]).length cap) (init ++ [last])) (x : ByteArray) :
    Adds (w.setCell ⟨g, init.length * 3 + 2, none⟩ (.string x)) base tb ob text (.slice (some ⟨g, 0, none⟩) (init ++ [{ last with s := x }]).length cap) (init ++ [{ last with s := x }]) := by
  obtain ⟨_, n2, n3⟩ := h.ne
  have m2 : tb ≠ g := fun e => n2 (by rw [e]; rfl)
  have m3 : ob ≠ g := fun e => n3 (by rw [e]; rfl)
  have e : (init ++ [{ last with s := x }]).length = (init ++ [last]).length := by simp
  have ho := (h.own.stored (init.length * 3 + 2) (.string x)).1
  rw [cells_set] at ho
  rw [e]
  refine ⟨Blk.far (p := ⟨g, _, none⟩) h.tx m2 _, Blk.far (p := ⟨g, _, none⟩) h.ou m3 _, ?_, h.tb, h.ob⟩
  rw [e]
  exact ho

set_option maxHeartbeats 800000 in
/-- A text that is joined to the last one. -/
theorem add_join (base tb ob : Nat) (k : K) (v : Value) (init : List K) (last : K) (w : World) (h : Adds w base tb ob true v (init ++ [last])) (h1 : k.kind = 1) (hn : init.length ≤ 100000) (hs : last.s.size ≤ 1000000) (hs2 : k.s.size ≤ 1000000) :
    Calls Tryd.prog 14 #[val k, .bool true, .pointer (some ⟨tb, 0, none⟩), .pointer (some ⟨ob, 0, none⟩)] w fun e w' =>
      e = .returned (.tuple #[]) ∧ (∃ v', Adds w' base tb ob true v' (init ++ [{ last with s := last.s ++ k.s }])) ∧ Below base w w' := by
  have hlt := Blk.lt h.tx
  have hlo := Blk.lt h.ou
  have hl : (init ++ [last]).length = init.length + 1 := by simp
  obtain ⟨g, cap, rfl, hg, hgl⟩ := h.own.form (by omega)
  have ct : w.cell? ⟨tb, 0, none⟩ = some (.bool true) := Blk.cell h.tx 0
  have ft := Blk.frozen h.tx 0
  have co : w.cell? ⟨ob, 0, none⟩ = some (.slice (some ⟨g, 0, none⟩) (init.length + 1) cap) := by have := Blk.cell h.ou 0; rw [hl] at this; exact this
  have fo := Blk.frozen h.ou 0
  have nt : ¬ tb = w.heap.size := by omega
  have no : ¬ ob = w.heap.size := by omega
  have ng : ¬ g = w.heap.size := by omega
  have cg : w.cell? ⟨g, init.length * 3 + 2, none⟩ = some (.string last.s) := by
    rw [h.own.cellAt _ (by omega)]
    have := (cells_at (init ++ [last]) init.length (by omega)).2.2
    rw [this]
    simp
  have fg := h.own.frozenAt (init.length * 3 + 2)
  have t0 : (k.kind != 0) = true := by rw [h1]; rfl
  have t1 : (k.kind == 1) = true := by rw [h1]; rfl
  obtain ⟨_, n2, _⟩ := h.ne
  have m2 : ¬ tb = g := fun e => n2 (by rw [e]; rfl)
  have m3 : ¬ g = tb := fun e => m2 e.symm
  have hb : base ≤ w.heap.size := by omega
  have HJ := hide (h.joined (last.s ++ k.s))
  have htb := h.tb
  clear hl h1
  unfold val
  go_enter Tryd.func14, Tryd.ntmps14
  go_wp2
  go_region
  go_wp2
  go_end0
  exact ⟨rfl, ⟨_, Adds.drew (Adds.alloc (Adds.settb HJ.out true) _)⟩, ((((Below.refl base w).setCell hg _).setCell htb _).alloc (by simp; omega) _).drew⟩

/-- A KEY MORE. -/
theorem add_any (base tb ob : Nat) (k : K) (direct text : Bool) (v : Value) (out : List K) (w : World) (h : Adds w base tb ob text v out) (hok : Ok text out) (hb : bulk out ≤ 100000) (hs : k.s.size ≤ 100000) :
    Calls Tryd.prog 14 #[val k, .bool direct, .pointer (some ⟨tb, 0, none⟩), .pointer (some ⟨ob, 0, none⟩)] w fun e w' =>
      e = .returned (.tuple #[]) ∧ (∃ v', Adds w' base tb ob (decide (k.kind = 1)) v' (push out text direct k)) ∧ Below base w w' := by
  have hlen := length_le_bulk out
  by_cases hj : k.kind = 1 ∧ text = true ∧ direct = true
  · obtain ⟨h1, rfl, rfl⟩ := hj
    obtain ⟨i, x, rfl, hx⟩ := hok rfl
    have e : push (i ++ [x]) true true k = i ++ [{ x with s := x.s ++ k.s }] := by unfold push; rw [if_pos ⟨h1, rfl, rfl⟩, join_snoc]
    have hd : decide (k.kind = 1) = true := by simp [h1]
    rw [e, hd]
    have hxb := mem_le_bulk (i ++ [x]) x (by simp)
    have hl : (i ++ [x]).length = i.length + 1 := by simp
    exact add_join base tb ob k v i x w h h1 (by omega) (by omega) (by omega)
  · by_cases h0 : k.kind = 0
    · have e : push out text direct k = out := by unfold push; rw [if_neg hj, if_neg (by omega)]
      have hd : decide (k.kind = 1) = false := by rw [h0]; rfl
      rw [e, hd]
      exact (add_none base tb ob k direct text v out w h h0).mono fun _ _ ⟨a, b, c⟩ => ⟨a, ⟨v, b⟩, c⟩
    · have e : push out text direct k = out ++ [k] := by unfold push; rw [if_neg hj, if_pos h0]
      rw [e]
      exact add_push base tb ob k direct text v out w h h0 hj (by omega)
end Go.Proofs.YtgjbieafjagchaaDoor
