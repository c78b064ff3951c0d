/- Map literals with constant keys: what is laid by an insert, what is looked up. -/
import Derived.Test.YtgjbieafjagchaaDoorWalkA
import Derived.Maps.Own
import Derived.Maps.OwnOps
import Derived.Maps.Views
namespace Go.Proofs.YtgjbieafjagchaaDoor
open Go.RowKit Go.Maps
set_option maxRecDepth 100000

/-- What stands in a map literal at a key. -/
def lookF (l : List (Int × Int)) (b : Int) : Int := l.foldl (fun a p => if b = p.1 then p.2 else a) 0
/-- A map literal, as it reads. -/
def putAll (l : List (Int × Int)) : DataW Unit := l.foldl (fun D p => D.put (.int .u8 p.1) (.lit (.int .i64 p.2))) (.map [])

theorem putAll_at (b : Int) : ∀ (l : List (Int × Int)) (D : DataW Unit) (a : Int), IsMap D → D.atKey (.int .u8 b) (.lit (.int .i64 0)) = .lit (.int .i64 a) →
    (l.foldl (fun D p => D.put (.int .u8 p.1) (.lit (.int .i64 p.2))) D).atKey (.int .u8 b) (.lit (.int .i64 0)) = .lit (.int .i64 (l.foldl (fun a p => if b = p.1 then p.2 else a) a)) := by
  intro l
  induction l with
  | nil => intro D a _ h; exact h
  | cons p r ih =>
    intro D a hD h
    rw [List.foldl_cons, List.foldl_cons]
    refine ih _ _ (hD.put _ _) ?_
    by_cases e : b = p.1
    · rw [if_pos e, e]
      exact atKey_put_same hD (by trivial) _ _
    · rw [if_neg e]
      rw [atKey_put_other (by intro h2; injection h2 with _ h3; exact e h3)]
      exact h

theorem putAll_look (l : List (Int × Int)) (b : Int) : (putAll l).atKey (.int .u8 b) (.lit (.int .i64 0)) = .lit (.int .i64 (lookF l b)) :=
  putAll_at b l (.map []) 0 isMap_empty rfl

theorem wpList_insert_own {H : Type} {P : Program} (w : World) {ops : Array Oper} {rest : List Oper} {o : Oper} {a : Act} {Q : Exit → Act → World → Prop}
    (hg : o.guard = none) (m x v : Operand) (t : TypeId) (hop : o.op = Op.insert t m x v)
    (k e : TypeId) (K : Keyed P k) (ht : P.underlying t = some (.map k e)) (R : Value → Option (DataW H × List MemPlace)) (b n : Nat) (D : DataW H)
    (hm : a.eval m = .map (some b)) (hown : w.ownsMap P k R b n D) (hn : n < maxLen) (key val : Value) (kl : Lit) (hx : a.eval x = key) (hv : a.eval v = val) (hkey : keyOf P k key = some kl)
    (d : DataW H) (ps : List MemPlace) (hval : R val = some (d, ps))
    (hK : ∀ w', w'.ownsMap P k R b (n + 1) (D.put kl d) → w.grownBy w' (some b) → wpList P ops Q rest (a.put o.dst undef) w') :
    wpList P ops Q (o :: rest) a w := by
  refine wpList_plain hg fun K' hK' => ?_
  obtain ⟨w', hrun, r1, r2⟩ := hown.update K ht hn hkey hval
  unfold Oper.wp
  simp [execOp, hop, hm, hx, hv, hrun, Result.andThen]
  exact hK' _ _ (hK w' r1 r2)

theorem law5 : Keyed Tryd.prog 5 := int_keyed Tryd.underlying5
theorem zero3 (w : World) : (zeroValue 3).run Tryd.prog w = .ok (.int .i64 0) w := by kernel_rfl

theorem map_new (w : World) (n : Nat) (hn : w.heap.size = n) : (w.alloc (.map #[] 0)).ownsMap (H := Unit) Tryd.prog 5 (plainElem Tryd.prog 3) n 0 (.map []) := by
  subst hn
  exact World.ownsMap_made w _ _ _

/-- What is looked up in a map literal. -/
theorem map_look {w : World} {B n : Nat} {l : List (Int × Int)} (h : w.ownsMap (H := Unit) Tryd.prog 5 (plainElem Tryd.prog 3) B n (putAll l)) (b : Int) (h0 : 0 ≤ b) (h1 : b < 256) :
    (Instr.lookup 43 (.map (some B)) (.int .u8 b) false).run Tryd.prog w = .ok (.int .i64 (lookF l b)) w := by
  obtain ⟨c, hrun, hat, _⟩ := h.lookup_int law5 Tryd.underlying43 Tryd.underlying3 (zero3 w) (keyOf_int_mk Tryd.underlying5 (WalkArith.wf_u8 (n := b) ⟨h0, by omega⟩))
  rw [putAll_look] at hat
  injection hat with hat
  injection hat with _ hat
  rw [hrun, hat]
end Go.Proofs.YtgjbieafjagchaaDoor
