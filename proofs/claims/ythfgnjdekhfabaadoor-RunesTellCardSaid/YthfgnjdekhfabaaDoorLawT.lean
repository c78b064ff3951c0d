/- The law RunesTell: characters, sequences and widths are told as the document tells them. -/
import Derived.Test.YthfgnjdekhfabaaDoorLawB
import Derived.Test.YthfgnjdekhfabaaDoorWalkQ
import Derived.Test.YthfgnjdekhfabaaDoorWalkT
namespace Go.Proofs.YthfgnjdekhfabaaDoor
open Go.RowKit Ru
set_option maxRecDepth 100000

set_option maxHeartbeats 1600000 in
theorem law_T (s : ByteArray) (A : Option Addr) (cap : Nat) (zs : List Int) (r : Int) (w : World) (hT : Lib.Utf8Tabs 0 1 w) (hcap : zs.length ≤ cap) (hs : Src w w.heap.size (.slice A zs.length cap) zs) (hwf : ∀ r ∈ zs, -2147483648 ≤ r ∧ r ≤ 2147483647) :
    Calls Tryd.prog 7 #[.string s, .slice A zs.length cap, .int .i32 r] w fun e w' => e = .returned (.bool true) ∧ Below w.heap.size w w' := by
  have hsz := sh_size s 60
  have HSH := hide (fun wx => short_any s 60 wx)
  obtain ⟨S, hS⟩ : ∃ S, sh s 60 = S := ⟨_, rfl⟩
  rw [hS] at hsz HSH
  clear hS
  have HTA := hide hT
  have HS := hide hs
  have HWF := hide hwf
  clear hT hs hwf
  go_enter Tryd.func7, Tryd.ntmps7
  go_wp2_with fail
  refine (awake_any _ HTA.out).mono ?_
  rintro e w1 ⟨rfl, b1⟩
  have HB1 := hide b1
  clear b1
  dsimp only
  go_wp2_with fail
  refine (HSH.out _).mono ?_
  rintro e w2 ⟨rfl, rfl⟩
  have HDC := hide (Decode_any S w1 (by omega) (Utf8Tabs_below HTA.out HB1.out))
  dsimp only
  go_wp2_with fail
  refine HDC.out.mono ?_
  rintro e w2 ⟨v2, rfl, o2, b2⟩
  have HB2 := hide (HB1.out.trans (b2.mono HB1.out.size))
  have HO2 := hide o2
  have HRD := hide (RDecode_any S w2 (by omega))
  clear o2 b2 HDC
  dsimp only
  go_wp2_with fail
  refine HRD.out.mono ?_
  rintro e w3 ⟨v3, rfl, o3, b3⟩
  have hlen := dec_len S
  have HSM := hide (Same_any v2 v3 (dec S) w3 (((Row.of_own HO2.out).below b3).more b3.size) (Row.of_own o3) (by omega))
  have HB3 := hide (HB2.out.trans (b3.mono HB2.out.size))
  clear o3 b3 HRD HO2
  dsimp only
  go_wp2_with fail
  refine HSM.out.mono ?_
  rintro e w4 ⟨rfl, b4⟩
  have HB4 := hide (HB3.out.trans (b4.mono HB3.out.size))
  clear b4 HSM hlen
  have HF4 := hide (few_any zs A cap w4 hcap ((HS.out.below HB4.out).more HB4.out.size))
  have hL20 : (zs.take 20).length ≤ 20 := List.length_take_le _ _
  have hLw : ∀ r ∈ zs.take 20, -2147483648 ≤ r ∧ r ≤ 2147483647 := fun r hr => HWF.out r (List.mem_of_mem_take hr)
  have HLW := hide hLw
  clear hLw
  dsimp only
  go_wp2_with fail
  refine HF4.out.mono ?_
  rintro e w5 ⟨v5, rfl, rfl, hs5⟩
  have HEN := hide (Encode_any v5 (zs.take 20) w4 hs5 (by omega) HLW.out)
  clear hs5 HF4
  dsimp only
  go_wp2_with fail
  refine HEN.out.mono ?_
  rintro e w5 ⟨rfl, b5⟩
  have HB5 := hide (HB4.out.trans (b5.mono HB4.out.size))
  clear b5 HEN
  have HF5 := hide (few_any zs A cap w5 hcap ((HS.out.below HB5.out).more HB5.out.size))
  dsimp only
  go_wp2_with fail
  refine HF5.out.mono ?_
  rintro e w6 ⟨v6, rfl, rfl, hs6⟩
  have HRE := hide (REncode_any v6 (zs.take 20) w5 hs6 (by omega))
  clear hs6 HF5
  dsimp only
  go_wp2_with fail
  refine HRE.out.mono ?_
  rintro e w6 ⟨rfl, b6⟩
  have HB6 := hide (HB5.out.trans (b6.mono HB5.out.size))
  clear b6 HRE
  have HW6 := hide (Width_any r w6)
  dsimp only
  go_wp2_with fail
  refine HW6.out.mono ?_
  rintro e w7 ⟨rfl, b7⟩
  have HB7 := hide (HB6.out.trans (b7.mono HB6.out.size))
  clear b7 HW6
  have HW7 := hide (RWidth_any r w7)
  dsimp only
  go_wp2_with fail
  refine HW7.out.mono ?_
  rintro e w8 ⟨rfl, rfl⟩
  clear HW7
  have HW8 := hide (fun q => Width_any q w7)
  dsimp only
  go_wp2_with fail
  refine (HW8.out _).mono ?_
  rintro e w8 ⟨rfl, b8⟩
  have HB8 := hide (HB7.out.trans (b8.mono HB7.out.size))
  clear b8 HW8
  have HW9 := hide (fun q => RWidth_any q w8)
  dsimp only
  go_wp2_with fail
  refine (HW9.out _).mono ?_
  rintro e w9 ⟨rfl, rfl⟩
  dsimp only
  go_wp2
  go_ret
  exact ⟨rfl, HB8.out⟩
end Go.Proofs.YthfgnjdekhfabaaDoor
