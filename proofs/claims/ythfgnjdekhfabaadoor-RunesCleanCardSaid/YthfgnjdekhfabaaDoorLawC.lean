/- The law RunesClean: what was decoded, and encoded again, is clean. -/
import Derived.Test.YthfgnjdekhfabaaDoorLawB
namespace Go.Proofs.YthfgnjdekhfabaaDoor
open Go.RowKit Ru
set_option maxRecDepth 100000

/-- Is some character among them that is none? -/
def anyBad (l : List Int) : Bool := l.any (· == 65533)
theorem anyBad_snoc (l : List Int) (k : Nat) (h : k < l.length) : anyBad (l.take (k + 1)) = (anyBad (l.take k) || (l[k] == 65533)) := by
  unfold anyBad
  rw [List.take_succ_eq_append_getElem h, List.any_append]
  simp
theorem not_bad (l : List Int) (h : anyBad l = false) : 65533 ∉ l := by
  intro hm
  have : anyBad l = true := List.any_eq_true.2 ⟨_, hm, by decide⟩
  rw [h] at this
  cases this
theorem okR_wf (r : Int) (h : okR r = true) : -2147483648 ≤ r ∧ r ≤ 2147483647 := by
  have := of_decide_eq_true h
  omega

set_option maxHeartbeats 1600000 in
theorem law_C (s : ByteArray) (w : World) (hT : Lib.Utf8Tabs 0 1 w) :
    Calls Tryd.prog 6 #[.string s] w fun e w' => e = .returned (.bool true) ∧ Below w.heap.size w w' := by
  have hsz := sh_size s 60
  have HSH := hide (fun wx => short_any s 60 wx)
  obtain ⟨S, hS⟩ : ∃ S, sh s 60 = S := ⟨_, rfl⟩
  rw [hS] at hsz HSH
  clear hS
  have HTA := hide hT
  clear hT
  go_enter Tryd.func6, Tryd.ntmps6
  go_wp2_with fail
  refine (awake_any _ HTA.out).mono ?_
  rintro e w1 ⟨rfl, b1⟩
  have HB1 := hide b1
  clear b1
  dsimp only
  go_wp2_with fail
  refine (HSH.out _).mono ?_
  rintro e w2 ⟨rfl, rfl⟩
  have HDC := hide (Decode_any S w1 (by omega) (Utf8Tabs_below HTA.out HB1.out))
  dsimp only
  go_wp2_with fail
  refine HDC.out.mono ?_
  rintro e w2 ⟨v2, rfl, o2, b2⟩
  have HB2 := hide (HB1.out.trans (b2.mono HB1.out.size))
  have r2 := Row.of_own o2
  have hlen := dec_len S
  have hok := dec_ok S
  have hag : dec ⟨(enc (dec S)).toArray⟩ = dec S := dec_again S
  have hcl : 65533 ∉ dec S → (⟨(enc (dec S)).toArray⟩ : ByteArray) = S := enc_clean S
  obtain ⟨L, hL⟩ : ∃ L, dec S = L := ⟨_, rfl⟩
  rw [hL] at r2 hlen hok hag hcl
  have HOK := hide (fun r hr => okR_wf r (hok r hr))
  have HAG := hide hag
  have HCL := hide hcl
  clear hL o2 b2 HDC hok hag hcl
  have HEN := hide (Encode_any v2 L w2 r2.src (by omega) HOK.out)
  have HR2 := hide r2
  clear r2
  dsimp only
  go_wp2_with fail
  refine HEN.out.mono ?_
  rintro e w3 ⟨rfl, b3⟩
  have HB3 := hide (HB2.out.trans (b3.mono HB2.out.size))
  have HR3 := hide (HR2.out.below b3)
  have z3 := b3.size
  clear b3
  obtain ⟨T, hTt⟩ : ∃ T : ByteArray, (⟨(enc L).toArray⟩ : ByteArray) = T := ⟨_, rfl⟩
  have hTs := enc_size L (by omega)
  rw [hTt] at hTs
  have HTT := hide hTt
  have HDC := hide (Decode_any T w3 hTs (Utf8Tabs_below HTA.out HB3.out))
  rw [hTt]
  clear hTt
  dsimp only
  go_wp2_with fail
  refine HDC.out.mono ?_
  rintro e w4 ⟨v4, rfl, o4, b4⟩
  have hde : dec T = L := by rw [← HTT.out]; exact HAG.out
  rw [hde] at o4
  have HSM := hide (Same_any v4 v2 L w4 (Row.of_own o4) ((HR3.out.below (b4.mono z3)).more (Nat.le_trans z3 b4.size)) (by omega))
  have HB4 := hide (HB3.out.trans (b4.mono HB3.out.size))
  have HR4 := hide (HR3.out.below (b4.mono z3))
  have z4 : w2.heap.size ≤ w4.heap.size := Nat.le_trans z3 b4.size
  clear o4 b4 hde HDC
  dsimp only
  go_wp2_with fail
  refine HSM.out.mono ?_
  rintro e w5 ⟨rfl, b5⟩
  have HB5 := hide (HB4.out.trans (b5.mono HB4.out.size))
  have HR5 := hide (HR4.out.below (b5.mono z4))
  clear b5 HSM
  obtain ⟨A2, c2, hv2, hc2⟩ := HR5.out
  subst hv2
  have HC2 := hide hc2
  clear hc2
  dsimp only
  go_wp2
  go_loop [7, 8] (fun b i => ∃ k : Nat, k ≤ L.length ∧ i = .int .i64 k ∧ b = .bool (anyBad (L.take k))) (fun _ i => L.length - (intOf i).toNat)
  case atStart => exact ⟨0, Nat.zero_le _, rfl, rfl⟩
  case round =>
    obtain ⟨k, hk, rfl, rfl⟩ := hrel
    by_cases hkl : k < L.length
    · obtain ⟨g, rfl, hg, hcc⟩ := HC2.out (by omega)
      have d0 : w5.cell? ⟨g, k, none⟩ = some (.int .i32 L[k]) := hcc k hkl
      have hsn := anyBad_snoc L k hkl
      clear hcc
      generalize L[k] = K at d0 hsn
      cases hb : anyBad (L.take k) with
      | true =>
        rw [hb, Bool.true_or] at hsn
        have HSN := hide hsn
        clear hsn hb
        go_wp2
        go_round
        case rel => exact ⟨k + 1, by omega, by go_num, by rw [HSN.out]⟩
        case measure => simp [intOf]; omega
      | false =>
        rw [hb, Bool.false_or] at hsn
        have HSN := hide hsn
        clear hsn hb
        go_wp2
        go_round
        case rel => exact ⟨k + 1, by omega, by go_num, by rw [HSN.out]⟩
        case measure => simp [intOf]; omega
    · have hkk : k = L.length := by omega
      subst hkk
      rw [List.take_length]
      have HDC := hide (Decode_any T w5 hTs (Utf8Tabs_below HTA.out HB5.out))
      have hTT2 : txt T.data.toList = T := txt_of T
      cases hb : anyBad L with
      | true =>
        clear hb hTT2
        go_wp2_with fail
        refine HDC.out.mono ?_
        rintro e w6 ⟨v6, rfl, o6, b6⟩
        have hde : dec T = L := by rw [← HTT.out]; exact HAG.out
        rw [hde] at o6
        have HEN2 := hide (Encode_any v6 L w6 (Row.of_own o6).src (by omega) HOK.out)
        have HB6 := hide (HB5.out.trans (b6.mono HB5.out.size))
        clear o6 b6 hde
        dsimp only
        go_wp2_with fail
        refine HEN2.out.mono ?_
        rintro e w7 ⟨rfl, b7⟩
        have HB7 := hide (HB6.out.trans (b7.mono HB6.out.size))
        have htt : (⟨(enc L).toArray⟩ : ByteArray) = T := HTT.out
        rw [htt]
        clear b7 htt
        dsimp only
        go_wp2
        go_ret
        exact ⟨rfl, HB7.out⟩
      | false =>
        have hTS : T = S := by rw [← HTT.out]; exact HCL.out (not_bad L hb)
        subst hTS
        clear hb hTT2
        go_wp2_with fail
        refine HDC.out.mono ?_
        rintro e w6 ⟨v6, rfl, o6, b6⟩
        have hde : dec T = L := by rw [← HTT.out]; exact HAG.out
        rw [hde] at o6
        have HEN2 := hide (Encode_any v6 L w6 (Row.of_own o6).src (by omega) HOK.out)
        have HB6 := hide (HB5.out.trans (b6.mono HB5.out.size))
        clear o6 b6 hde
        dsimp only
        go_wp2_with fail
        refine HEN2.out.mono ?_
        rintro e w7 ⟨rfl, b7⟩
        have HB7 := hide (HB6.out.trans (b7.mono HB6.out.size))
        have htt : (⟨(enc L).toArray⟩ : ByteArray) = T := HTT.out
        rw [htt]
        clear b7 htt
        dsimp only
        go_wp2
        go_ret
        exact ⟨rfl, HB7.out⟩
end Go.Proofs.YthfgnjdekhfabaaDoor
