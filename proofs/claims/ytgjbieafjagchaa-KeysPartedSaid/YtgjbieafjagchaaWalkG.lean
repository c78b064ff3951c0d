/- The walk of Same, at two rows that read alike; and what the law KeysParted's one statement of two calls and two appends makes. -/
import Derived.Test.YtgjbieafjagchaaWalkF
import Derived.Deep.QuietTactic
namespace Go.Proofs.Ytgjbieafjagchaa
open Go.RowKit Go.Lib Keys
set_option maxRecDepth 100000

theorem key_same (a b : Int) (s : ByteArray) (w : World) : (binOp .neq 34 (.agg #[.int .i64 a, .int .i64 b, .string s]) (.agg #[.int .i64 a, .int .i64 b, .string s])).run Try.prog w = .ok (.bool false) w := by
  simp [go_sem]

set_option maxHeartbeats 800000 in
theorem Same_any (v v' : Value) (l : List K) (w : World) (hv : Row w w.heap.size v l) (hv' : Row w w.heap.size v' l) (hb : l.length ≤ 1000000) :
    Calls Try.prog 9 #[v, v'] w fun e w' => e = .returned (.bool true) ∧ Below w.heap.size w w' := by
  obtain ⟨A, c, rfl, hc⟩ := hv
  obtain ⟨A', c', rfl, hc'⟩ := hv'
  go_enter Try.func9, Try.ntmps9
  go_wp2
  go_loopw [5] (fun i wr => ∃ k : Nat, k ≤ l.length ∧ i = .int .i64 k ∧ Below w.heap.size w wr) (fun i _ => l.length - (intOf i).toNat)
  case atStart => exact ⟨0, Nat.zero_le _, rfl, Below.refl _ _⟩
  case round =>
    obtain ⟨k, hk, rfl, hbel⟩ := hrel
    by_cases hlk : k < l.length
    · obtain ⟨g, rfl, hg, hca⟩ := hc (by omega)
      obtain ⟨g', rfl, hg', hca'⟩ := hc' (by omega)
      have hcl := cells_at l k hlk
      have f : ∀ g0, g0 < w.heap.size → (∀ j, j < l.length * 3 → w.cell? ⟨g0, j, none⟩ = (cells l)[j]?) → wr.cell? ⟨g0, k * 3, none⟩ = some (.int .i64 l[k].kind) ∧ wr.cell? ⟨g0, k * 3 + 1, none⟩ = some (.int .i64 l[k].n) ∧ wr.cell? ⟨g0, k * 3 + 2, none⟩ = some (.string l[k].s) := by
        intro g0 hg0 h
        refine ⟨?_, ?_, ?_⟩
        · rw [hbel.cell (p := ⟨g0, k * 3, none⟩) hg0, h _ (by omega)]; exact hcl.1
        · rw [hbel.cell (p := ⟨g0, k * 3 + 1, none⟩) hg0, h _ (by omega)]; exact hcl.2.1
        · rw [hbel.cell (p := ⟨g0, k * 3 + 2, none⟩) hg0, h _ (by omega)]; exact hcl.2.2
      obtain ⟨d0, d1, d2⟩ := f g hg hca
      obtain ⟨e0, e1, e2⟩ := f g' hg' hca'
      generalize l[k] = K at d0 d1 d2 e0 e1 e2
      have hks := key_same K.kind K.n K.s
      have hl3 : (k : Int) < (l.length : Int) := by omega
      clear hc hc' hca hca' hcl f
      go_wp2
      go_quiet (fail)
      go_wp2
      go_roundw
      case rel => exact ⟨k + 1, by omega, by go_num, below_drewN hbel _⟩
      case measure => simp [intOf]; omega
    · clear hc hc'
      go_wp2
      go_ret
      exact ⟨rfl, hbel⟩
end Go.Proofs.Ytgjbieafjagchaa
