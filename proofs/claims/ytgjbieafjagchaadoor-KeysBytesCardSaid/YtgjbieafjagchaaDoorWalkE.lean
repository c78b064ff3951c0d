/- The walk of the chapter's example. -/
import Derived.Test.YtgjbieafjagchaaDoorWalkD
namespace Go.Proofs.YtgjbieafjagchaaDoor
open Go.RowKit Go.Lib Keys
set_option maxRecDepth 100000

theorem feed_awake : (feed false false [97, 2, 37, 98]).out = [txt 97, ⟨2, 0, ⟨#[]⟩⟩, txt 98] := by rfl

/-- A row of keys, whose number is known. -/
theorem keys_form {w : World} {base : Nat} {v : Value} {l : List K} (h : w.ownsRow base 23 3 v l.length (cells l)) (hl : 0 < l.length) :
    ∃ g cap, v = .slice (some ⟨g, 0, none⟩) l.length cap ∧ base ≤ g ∧ g < w.heap.size ∧ ∀ j, j < l.length * 3 → w.cell? ⟨g, j, none⟩ = (cells l)[j]? := by
  obtain ⟨g, cap, rfl, hg, hlt⟩ := h.form hl
  exact ⟨g, cap, rfl, hg, hlt, fun j hj => h.cellAt j hj⟩

set_option maxHeartbeats 800000 in
theorem awake_any (w : World) : Calls Tryd.prog 4 #[] w fun e w' => e = .returned (.bool true) ∧ Below w.heap.size w w' := by
  have hr : Rd (w.alloc (.cells #[.bool false, .bool false] 30)) w.heap.size false false := Blk.new w _ _
  go_enter Tryd.func4, Tryd.ntmps4
  go_wp2_with fail
  refine (Feed_any w.heap.size false false ⟨#[97, 2, 37, 98]⟩ _ hr (by decide)).mono ?_
  rintro e w1 ⟨v, rfl, hown, hR, hG⟩
  have hown' : w1.ownsRow (w.heap.size + 1) 23 3 v 3 (cells [txt 97, ⟨2, 0, ⟨#[]⟩⟩, txt 98]) := by
    have := hown
    rw [feed_awake] at this
    simpa using this
  obtain ⟨g, cap, rfl, _, _, hc⟩ := keys_form (l := [txt 97, ⟨2, 0, ⟨#[]⟩⟩, txt 98]) hown' (by decide)
  have c2 : w1.cell? ⟨g, 2, none⟩ = some (.string ⟨#[97]⟩) := hc 2 (by decide)
  have c3 : w1.cell? ⟨g, 3, none⟩ = some (.int .i64 2) := hc 3 (by decide)
  have c8 : w1.cell? ⟨g, 8, none⟩ = some (.string ⟨#[98]⟩) := hc 8 (by decide)
  have hb : Below w.heap.size w w1 := by
    refine ((Below.refl _ w).alloc (Nat.le_refl _) (.cells #[.bool false, .bool false] 30)).grown hG (by simp) (fun k hk => ?_)
    injection hk with hk
    omega
  clear hown hown' hc hR hG hr
  dsimp only
  go_wp2
  go_ret
  exact ⟨rfl, hb⟩
end Go.Proofs.YtgjbieafjagchaaDoor
