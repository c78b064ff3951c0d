/- The law RunesBack: what was encoded is decoded; each character that has no sequence as fffd. -/
import Derived.Test.YthfgnjdekhfabaaDoorLawS
namespace Go.Proofs.YthfgnjdekhfabaaDoor
open Go.RowKit Ru
set_option maxRecDepth 100000

theorem fix_ways (r : Int) : (r < 0 ∧ fix r = 65533) ∨ (1114111 < r ∧ fix r = 65533) ∨ (55296 ≤ r ∧ r ≤ 57343 ∧ fix r = 65533) ∨ (0 ≤ r ∧ r < 55296 ∧ fix r = r) ∨ (57343 < r ∧ r ≤ 1114111 ∧ fix r = r) := by
  unfold fix okR
  by_cases h : (0 ≤ r ∧ r < 55296) ∨ (57344 ≤ r ∧ r ≤ 1114111)
  · rw [decide_eq_true h, if_pos rfl]; omega
  · rw [decide_eq_false h, if_neg (by decide)]; omega

theorem enc_size (l : List Int) (h : l.length ≤ 200) : (⟨(enc l).toArray⟩ : ByteArray).size ≤ 900 := by
  have h1 := enc_len l
  have h2 := txt_size (enc l)
  unfold txt at h2
  omega

theorem src_of {w : World} {a : Option Addr} {len cap : Nat} {zs : List Int} (h : (a = none ∧ len = 0 ∧ cap = 0 ∧ zs = []) ∨
    ∃ x, a = some x ∧ len ≤ cap ∧ cap ≤ maxLen ∧ zs.length = cap ∧ (∀ i, i < zs.length → w.cell? (x.add i) = some (.int .i32 (zs.getD i 0))) ∧ ∀ n ∈ zs, (Lit.int .i32 n).wf = true) :
    ∃ l, l.length = len ∧ l.length ≤ cap ∧ Src w w.heap.size (.slice a l.length cap) l ∧ ∀ r ∈ l, -2147483648 ≤ r ∧ r ≤ 2147483647 := by
  rcases h with ⟨rfl, rfl, rfl, rfl⟩ | ⟨x, rfl, hl, hm, hz, hc, hw⟩
  · exact ⟨[], rfl, Nat.le_refl _, ⟨none, 0, rfl, fun h => absurd h (by simp)⟩, fun r hr => absurd hr (by simp)⟩
  · have ht : (zs.take len).length = len := by rw [List.length_take]; omega
    refine ⟨zs.take len, ht, by omega, ⟨some x, cap, rfl, fun h0 => ?_⟩, fun r hr => ?_⟩
    · rw [ht] at h0
      obtain ⟨g, off, spot⟩ := x
      have h1 := hc 0 (by omega)
      have hspot : spot = none := by simpa [Addr.add] using World.cell?_spot h1
      subst hspot
      have hcell : ∀ j, j < len → w.cell? ⟨g, off + j, none⟩ = some (.int .i32 (zs.getD j 0)) := by
        intro j hj
        have h2 := hc j (by omega)
        rw [Addr.add_lit] at h2
        exact h2
      have hg : g < w.heap.size := by
        rcases Nat.lt_or_ge g w.heap.size with hlt | hge
        · exact hlt
        · have h2 := hcell 0 (by omega)
          unfold World.cell? at h2
          dsimp only at h2
          rw [Array.getElem?_eq_none hge] at h2
          cases h2
      refine ⟨g, off, rfl, hg, fun j hj => ?_⟩
      rw [hcell j (by omega), List.getElem_take, List.getD_eq_getElem?_getD, List.getElem?_eq_getElem (by omega)]
      rfl
    · have h := hw r (List.mem_of_mem_take hr)
      simp [Lit.wf, IntKind.min, IntKind.max, IntKind.signed, IntKind.bits] at h
      omega

theorem Row.fixed {w : World} {B : Nat} {v : Value} {l : List Int} (h : Row w B v (l.map fix)) :
    ∃ a c, v = .slice a l.length c ∧ (0 < l.length → ∃ g, a = some ⟨g, 0, none⟩ ∧ g < B ∧ ∀ j (h : j < l.length), w.cell? ⟨g, j, none⟩ = some (.int .i32 (fix l[j]))) := by
  obtain ⟨a, c, rfl, h⟩ := h
  refine ⟨a, c, by rw [List.length_map], fun hl => ?_⟩
  obtain ⟨g, rfl, hg, hc⟩ := h (by rw [List.length_map]; exact hl)
  refine ⟨g, rfl, hg, fun j hj => ?_⟩
  have := hc j (by rw [List.length_map]; exact hj)
  rw [List.getElem_map] at this
  exact this

set_option maxHeartbeats 1600000 in
theorem law_B (A : Option Addr) (cap : Nat) (zs : List Int) (w : World) (hT : Lib.Utf8Tabs 0 1 w) (hcap : zs.length ≤ cap) (hs : Src w w.heap.size (.slice A zs.length cap) zs) (hwf : ∀ r ∈ zs, -2147483648 ≤ r ∧ r ≤ 2147483647) :
    Calls Tryd.prog 5 #[.slice A zs.length cap] w fun e w' => e = .returned (.bool true) ∧ Below w.heap.size w w' := by
  have HTA := hide hT
  have HS := hide hs
  have HWF := hide hwf
  clear hT hs hwf
  go_enter Tryd.func5, Tryd.ntmps5
  go_wp2_with fail
  refine (awake_any _ HTA.out).mono ?_
  rintro e w1 ⟨rfl, b1⟩
  have HFW := hide (few_any zs A cap w1 hcap ((HS.out.below b1).more b1.size))
  have HB1 := hide b1
  clear b1
  dsimp only
  go_wp2_with fail
  refine HFW.out.mono ?_
  rintro e w2 ⟨v2, rfl, rfl, hs2⟩
  have hL20 : (zs.take 20).length ≤ 20 := List.length_take_le _ _
  have hLw : ∀ r ∈ zs.take 20, -2147483648 ≤ r ∧ r ≤ 2147483647 := fun r hr => HWF.out r (List.mem_of_mem_take hr)
  obtain ⟨L, hL⟩ : ∃ L, zs.take 20 = L := ⟨_, rfl⟩
  rw [hL] at hs2 hL20 hLw
  clear hL HFW
  have HEN := hide (Encode_any v2 L w1 hs2 (by omega) hLw)
  obtain ⟨A2, c2, rfl, hc2⟩ := hs2
  have HC2 := hide hc2
  clear hc2 hLw
  dsimp only
  go_wp2_with fail
  refine HEN.out.mono ?_
  rintro e w2 ⟨rfl, b2⟩
  have b2' : Below w.heap.size w w2 := HB1.out.trans (b2.mono HB1.out.size)
  have HDC := hide (Decode_any ⟨(enc L).toArray⟩ w2 (enc_size L (by omega)) (Utf8Tabs_below HTA.out b2'))
  have HB2 := hide b2
  have HB2' := hide b2'
  clear b2 b2'
  dsimp only
  go_wp2_with fail
  refine HDC.out.mono ?_
  rintro e w3 ⟨v3, rfl, o3, b3⟩
  have hde : dec ⟨(enc L).toArray⟩ = L.map fix := dec_enc L
  rw [hde] at o3
  have HB3 := hide (HB2'.out.trans (b3.mono HB2'.out.size))
  have HB13 := hide (HB2.out.trans (b3.mono HB2.out.size))
  obtain ⟨A3, c3, rfl, hc3⟩ := Row.fixed (Row.of_own o3)
  have HC3 := hide hc3
  clear hc3 o3 b3 hde HDC HEN
  dsimp only
  go_wp2
  go_loop [6] (fun i => ∃ k : Nat, k ≤ L.length ∧ i = .int .i64 k) (fun i => L.length - (intOf i).toNat)
  case atStart => exact ⟨0, Nat.zero_le _, rfl⟩
  case round =>
    obtain ⟨k, hk, rfl⟩ := hrel
    by_cases hkl : k < L.length
    · obtain ⟨g, off, rfl, hg, hcc⟩ := HC2.out (by omega)
      obtain ⟨g', rfl, hg', hcc'⟩ := HC3.out (by omega)
      have d0 : w3.cell? ⟨g, off + k, none⟩ = some (.int .i32 L[k]) := (HB13.out.cell (p := ⟨g, off + k, none⟩) hg).trans (hcc k hkl)
      have e0 : w3.cell? ⟨g', k, none⟩ = some (.int .i32 (fix L[k])) := hcc' k hkl
      clear hcc hcc'
      have hw := fix_ways L[k]
      generalize L[k] = K at d0 e0 hw
      rcases hw with ⟨h1, hf⟩ | ⟨h1, hf⟩ | ⟨h1, h2, hf⟩ | ⟨h1, h2, hf⟩ | ⟨h1, h2, hf⟩
      all_goals
        rw [hf] at e0
        clear hf
        go_wp2
        go_round
        case rel => exact ⟨k + 1, by omega, by go_num⟩
        case measure => simp [intOf]; omega
    · go_wp2
      go_ret
      exact ⟨rfl, HB3.out⟩
end Go.Proofs.YthfgnjdekhfabaaDoor
