/- The walks of few, Encode. -/
import Derived.Test.YthfgnjdekhfabaaDoorWalkJ
import Derived.Test.YthfgnjdekhfabaaDoorPlainS
namespace Go.Proofs.YthfgnjdekhfabaaDoor
open Go.RowKit Ru
set_option maxRecDepth 100000

namespace Ru
/-- Characters' bytes. -/
def enc (l : List Int) : List UInt8 := l.flatMap Lib.encodeRune
end Ru

theorem enc_snoc (l : List Int) (k : Nat) (h : k < l.length) : enc (l.take (k + 1)) = enc (l.take k) ++ Lib.encodeRune l[k] := by
  unfold enc
  rw [List.take_succ_eq_append_getElem h, List.flatMap_append]
  simp

theorem enc_len : ∀ l : List Int, (enc l).length ≤ 4 * l.length := by
  intro l
  induction l with
  | nil => simp [enc]
  | cons r t ih =>
    have h := Lib.runeCells_le r
    rw [Lib.runeCells_length] at h
    have e : enc (r :: t) = Lib.encodeRune r ++ enc t := by simp [enc]
    rw [e, List.length_append, List.length_cons]
    omega

/-- A slice value that reads as characters, wherever they lie. -/
def Src (w : World) (B : Nat) (v : Value) (l : List Int) : Prop :=
  ∃ A c, v = .slice A l.length c ∧ (0 < l.length → ∃ g off, A = some ⟨g, off, none⟩ ∧ g < B ∧ ∀ j (h : j < l.length), w.cell? ⟨g, off + j, none⟩ = some (.int .i32 l[j]))

theorem Src.below {w w' : World} {B : Nat} {v : Value} {l : List Int} (h : Src w B v l) (hb : Below B w w') : Src w' B v l := by
  obtain ⟨A, c, rfl, h⟩ := h
  refine ⟨A, c, rfl, fun hl => ?_⟩
  obtain ⟨g, off, rfl, hg, hc⟩ := h hl
  exact ⟨g, off, rfl, hg, fun j hj => (hb.cell (p := ⟨g, off + j, none⟩) hg).trans (hc j hj)⟩
theorem Src.more {w : World} {B B' : Nat} {v : Value} {l : List Int} (h : Src w B v l) (hB : B ≤ B') : Src w B' v l := by
  obtain ⟨A, c, rfl, h⟩ := h
  refine ⟨A, c, rfl, fun hl => ?_⟩
  obtain ⟨g, off, rfl, hg, hc⟩ := h hl
  exact ⟨g, off, rfl, by omega, hc⟩
theorem Row.src {w : World} {B : Nat} {v : Value} {l : List Int} (h : Row w B v l) : Src w B v l := by
  obtain ⟨a, c, rfl, h⟩ := h
  refine ⟨a, c, rfl, fun hl => ?_⟩
  obtain ⟨g, rfl, hg, hc⟩ := h hl
  exact ⟨g, 0, rfl, hg, fun j hj => by rw [Nat.zero_add]; exact hc j hj⟩

/-- The first twenty, or all. -/
theorem few_any (zs : List Int) (A : Option Addr) (cap : Nat) (w : World) (hcap : zs.length ≤ cap) (hs : Src w w.heap.size (.slice A zs.length cap) zs) :
    Calls Tryd.prog 17 #[.slice A zs.length cap] w fun e w' => ∃ v', e = .returned v' ∧ w = w' ∧ Src w w.heap.size v' (zs.take 20) := by
  obtain ⟨A', cap', he, hcell⟩ := hs
  injection he with e1 _ e3
  subst e1
  subst e3
  by_cases h : 20 < zs.length
  · obtain ⟨g, off, rfl, hg, hc⟩ := hcell (by omega)
    have ht : (zs.take 20).length = 20 := by rw [List.length_take]; omega
    have hres : Src w w.heap.size (.slice (some ⟨g, off, none⟩) 20 cap) (zs.take 20) := by
      refine ⟨some ⟨g, off, none⟩, cap, by rw [ht], fun _ => ⟨g, off, rfl, hg, fun j hj => ?_⟩⟩
      rw [List.getElem_take]
      exact hc j (by omega)
    have HR := hide hres
    clear hres hc hcell ht
    go_enter Tryd.func17, Tryd.ntmps17
    go_wp2
    go_ret
    exact ⟨_, rfl, rfl, HR.out⟩
  · have ht : zs.take 20 = zs := List.take_of_length_le (by omega)
    rw [ht]
    have hres : Src w w.heap.size (.slice A zs.length cap) zs := ⟨A, cap, rfl, hcell⟩
    have HR := hide hres
    clear hres hcell ht
    go_enter Tryd.func17, Tryd.ntmps17
    go_wp2
    go_ret
    exact ⟨_, rfl, rfl, HR.out⟩

/-- What Encode leaves. -/
def Encd (w : World) (l : List Int) (e : Ending) (w' : World) : Prop := e = .returned (.string ⟨(enc l).toArray⟩) ∧ Below w.heap.size w w'

/-- Encode's loop, behind some characters. -/
structure EAt (w : World) (l : List Int) (k : Nat) (wr : World) : Prop where
  bld : Lib.IsBuilderF 57 5 w.heap.size w.heap.size (Lib.byteCells (enc (l.take k))) wr
  bel : Below w.heap.size w wr

theorem builder_new (w : World) : Lib.IsBuilderF 57 5 w.heap.size w.heap.size (Lib.byteCells []) (w.alloc (.cells #[.pointer none, .slice none 0 0] 57)) := by
  refine .inl ⟨Nat.le_refl _, .slice none 0 0, Blk.new w _ _, ?_, by simp [Value.ownBlock]⟩
  exact World.ownsRowF_of (World.ownsRow_nil _ _ _ _)

set_option maxHeartbeats 1600000 in
theorem Encode_any (v : Value) (l : List Int) (w : World) (hv : Src w w.heap.size v l) (hl : l.length ≤ 1000) (hwf : ∀ r ∈ l, -2147483648 ≤ r ∧ r ≤ 2147483647) :
    Calls Tryd.prog 18 #[v] w (Encd w l) := by
  obtain ⟨A, c, rfl, hc⟩ := hv
  have HC := hide hc
  have HW := hide hwf
  clear hc hwf
  go_enter Tryd.func18, Tryd.ntmps18
  go_wp2
  go_loopw [8] (fun i wr => ∃ k : Nat, k ≤ l.length ∧ i = .int .i64 k ∧ EAt w l k wr) (fun i _ => l.length - (intOf i).toNat)
  case atStart => exact ⟨0, Nat.zero_le _, rfl, builder_new w, (Below.refl _ _).alloc (Nat.le_refl _) _⟩
  case round =>
    obtain ⟨k, hk, rfl, hat⟩ := hrel
    by_cases hkl : k < l.length
    · obtain ⟨g, off, rfl, hg, hcc⟩ := HC.out (by omega)
      have d0 : wr.cell? ⟨g, off + k, none⟩ = some (.int .i32 l[k]) := (hat.bel.cell (p := ⟨g, off + k, none⟩) hg).trans (hcc k hkl)
      have hw := HW.out l[k] (List.getElem_mem hkl)
      have hlen : (Lib.byteCells (enc (l.take k))).length ≤ 4000 := by
        have h1 := enc_len (l.take k)
        rw [List.length_take] at h1
        unfold Lib.byteCells
        rw [List.length_map]
        omega
      have hWR := WriteRune_any w.heap.size w.heap.size _ l[k] hw.1 hw.2 wr hat.bld (by omega) hat.bel.size
      have hnext : Lib.byteCells (enc (l.take (k + 1))) = Lib.byteCells (enc (l.take k)) ++ Lib.runeCells l[k] := by
        rw [enc_snoc l k hkl]
        unfold Lib.byteCells
        rw [List.map_append]
        congr 1
        exact Lib.byteCells_encodeRune _
      have HN := hide hnext
      have HWR := hide hWR
      have HAT := hide hat
      clear hcc hWR hat hw hlen hnext
      generalize l[k] = K at d0 HWR HN
      go_wp2_with fail
      refine HWR.out.mono ?_
      rintro e w2 ⟨rfl, hb2, hl2⟩
      have hnx : EAt w l (k + 1) w2 := ⟨by rw [HN.out]; exact .inr hb2, HAT.out.bel.trans hl2⟩
      have HNX := hide hnx
      clear hnx hb2 hl2
      dsimp only
      go_wp2
      go_roundw
      case rel => exact ⟨k + 1, by omega, by go_num, HNX.out⟩
      case measure => simp [intOf]; omega
    · have hkk : k = l.length := by omega
      subst hkk
      have hb := hat.bld
      rw [List.take_length] at hb
      have hS := Tryd.Builder_String_any_f w.heap.size w.heap.size _ wr hb hat.bel.size
      have HS := hide hS
      have HB := hide hat.bel
      clear hat hb hS
      go_wp2_with fail
      refine HS.out.mono ?_
      rintro e w2 ⟨rfl, _, hb2⟩
      have HF := hide (HB.out.trans hb2)
      clear hb2
      dsimp only
      go_wp2
      go_ret
      exact ⟨rfl, HF.out⟩
end Go.Proofs.YthfgnjdekhfabaaDoor
