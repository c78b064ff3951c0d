/- The law RunesPlain: bytes from 0 to 7f are characters by themselves; two texts that are whole are decoded apart. -/
import Derived.Test.YthfgnjdekhfabaaDoorLawB
import Derived.Test.YthfgnjdekhfabaaDoorWalkS
import Derived.Deep.RegionWith
import Derived.IntWalk
import Derived.Deep.RegionHeld3
namespace Go.Proofs.YthfgnjdekhfabaaDoor
open Go.RowKit Ru
set_option maxRecDepth 100000

/-- A text's bytes by their rests by 128. -/
def low7 (l : List UInt8) : List UInt8 := l.map (· &&& 127)

theorem and_all : ((List.range 256).all fun b => bits .and .u8 (b : Int) 127 == (((b.toUInt8 &&& 127).toNat : Nat) : Int)) = true := by kernel_rfl
theorem and_bits (b : UInt8) : bits .and .u8 (b.toNat : Int) 127 = ((b &&& 127).toNat : Int) := by
  have h := List.all_eq_true.1 and_all b.toNat (List.mem_range.2 b.toNat_lt)
  have e : b.toNat.toUInt8 = b := by simp
  rw [e] at h
  exact beq_iff_eq.1 h
theorem and_lt (b : UInt8) : (b &&& 127).toNat < 128 := by
  rw [UInt8.toNat_and]
  have : b.toNat &&& 127 ≤ 127 := Nat.and_le_right
  show b.toNat &&& 127 < 128
  omega

theorem al_plain : ∀ l : List UInt8, (∀ b ∈ l, b.toNat < 128) → al (txt l) = (l.map fun b => (b.toNat : Int), ⟨#[]⟩) := by
  intro l
  induction l with
  | nil => intro _; exact al_empty
  | cons b t ih =>
    intro h
    have hb := h b (List.mem_cons_self ..)
    have := al_seq (IsSeq.one b hb) t
    rw [List.nil_append] at this
    rw [this, ih (fun x hx => h x (List.mem_cons_of_mem _ hx))]
    rfl

theorem dec_plain (l : List UInt8) (h : ∀ b ∈ l, b.toNat < 128) : dec (txt l) = l.map fun b => (b.toNat : Int) := by
  rw [dec_al, al_plain l h]
  show _ ++ [] = _
  rw [List.append_nil]

theorem wid_all : ((List.range 128).all fun b => wid (b : Int) == if 32 ≤ b ∧ b ≤ 126 then 1 else 0) = true := by kernel_rfl
theorem wid_plain (b : Nat) (h : b < 128) : wid (b : Int) = if 32 ≤ b ∧ b ≤ 126 then 1 else 0 :=
  beq_iff_eq.1 (List.all_eq_true.1 wid_all b (List.mem_range.2 h))

theorem low7_lt (l : List UInt8) : ∀ b ∈ low7 l, b.toNat < 128 := by
  intro b hb
  obtain ⟨c, _, rfl⟩ := List.mem_map.1 hb
  exact and_lt c

theorem low7_snoc (s : ByteArray) (k : Nat) (h : k < s.size) : txt (low7 (s.data.toList.take (k + 1))) = txt (low7 (s.data.toList.take k)) ++ (⟨#[s[k] &&& 127]⟩ : ByteArray) := by
  have hl : k < s.data.toList.length := by rw [Array.length_toList]; exact h
  unfold low7
  rw [List.take_succ_eq_append_getElem hl, List.map_append, txt_app]
  rfl

theorem str_and (b : UInt8) (W : World) (g : Nat) (hg : g = W.heap.size) :
    (convert 48 9 (.slice (some ⟨g, 0, none⟩) 1 1)).run Tryd.prog (W.alloc (.cells #[.int .u8 b.toNat] 5)) = .ok (.string ⟨#[b]⟩) (W.alloc (.cells #[.int .u8 b.toNat] 5)) := by
  subst hg
  exact run_convert_bytes_back (P := Tryd.prog) _ 48 9 5 ⟨W.heap.size, 0, none⟩ 1 [b] Tryd.underlying48 Tryd.underlying5 Tryd.underlying9 (fun j hj => by
    obtain rfl : j = 0 := by simpa using hj
    exact cell_of_one (heap_alloc_new W _))

theorem dec_low (S TX : ByteArray) (h : txt (low7 S.data.toList) = TX) : dec TX = TX.data.toList.map (fun b => (b.toNat : Int)) ∧ (∀ b ∈ TX.data.toList, b.toNat < 128) ∧ TX.size = S.size := by
  subst h
  rw [txt_list, dec_plain _ (low7_lt _), txt_size]
  refine ⟨rfl, low7_lt _, ?_⟩
  unfold low7
  rw [List.length_map]
  exact Array.length_toList

theorem Row.bytes {w : World} {B : Nat} {v : Value} {s : ByteArray} (h : Row w B v (s.data.toList.map fun b => (b.toNat : Int))) :
    ∃ a c, v = .slice a s.size c ∧ (0 < s.size → ∃ g, a = some ⟨g, 0, none⟩ ∧ g < B ∧ ∀ j (h : j < s.size), w.cell? ⟨g, j, none⟩ = some (.int .i32 s[j].toNat)) := by
  obtain ⟨a, c, rfl, h⟩ := h
  have hl : (s.data.toList.map fun b => (b.toNat : Int)).length = s.size := by rw [List.length_map]; exact Array.length_toList
  refine ⟨a, c, by rw [hl], fun h0 => ?_⟩
  obtain ⟨g, rfl, hg, hc⟩ := h (by rw [hl]; exact h0)
  refine ⟨g, rfl, hg, fun j hj => ?_⟩
  have := hc j (by rw [hl]; exact hj)
  rw [List.getElem_map] at this
  exact this

theorem byte_lt (s : ByteArray) (h : ∀ b ∈ s.data.toList, b.toNat < 128) (k : Nat) (hk : k < s.size) : s[k].toNat < 128 := by
  have hl : k < s.data.toList.length := by rw [Array.length_toList]; exact hk
  exact h _ (List.getElem_mem hl)

theorem keep_after {w2 wr w3 : World} {g k : Nat} {v : Value} (d0 : wr.cell? ⟨g, k, none⟩ = some v) (hb : Below w2.heap.size w2 wr) (hg : g < w2.heap.size) (b3 : Below wr.heap.size wr w3) :
    w3.cell? ⟨g, k, none⟩ = some v ∧ Below w2.heap.size w2 w3 :=
  ⟨(b3.cell (p := ⟨g, k, none⟩) (Nat.lt_of_lt_of_le hg hb.size)).trans d0, hb.trans (b3.mono hb.size)⟩

theorem keep_drew {w2 wr w3 : World} {g k : Nat} {v : Value} (d0 : wr.cell? ⟨g, k, none⟩ = some v) (hb : Below w2.heap.size w2 wr) (hg : g < w2.heap.size) (b3 : Below wr.drew.heap.size wr.drew w3) :
    w3.cell? ⟨g, k, none⟩ = some v ∧ Below w2.heap.size w2 w3 := keep_after (wr := wr.drew) d0 hb.drew hg b3

theorem enc_size' (l : List Int) (h : l.length ≤ 20) : (⟨(enc l).toArray⟩ : ByteArray).size ≤ 80 := by
  have h1 := enc_len l
  have h2 := txt_size (enc l)
  unfold txt at h2
  omega

set_option maxHeartbeats 3200000 in
theorem law_N (s : ByteArray) (A1 : Option Addr) (cap1 : Nat) (xs : List Int) (A2 : Option Addr) (cap2 : Nat) (ys : List Int) (w : World) (hT : Lib.Utf8Tabs 0 1 w)
    (hc1 : xs.length ≤ cap1) (hs1 : Src w w.heap.size (.slice A1 xs.length cap1) xs) (hw1 : ∀ r ∈ xs, -2147483648 ≤ r ∧ r ≤ 2147483647)
    (hc2 : ys.length ≤ cap2) (hs2 : Src w w.heap.size (.slice A2 ys.length cap2) ys) (hw2 : ∀ r ∈ ys, -2147483648 ≤ r ∧ r ≤ 2147483647) :
    Calls Tryd.prog 8 #[.string s, .slice A1 xs.length cap1, .slice A2 ys.length cap2] w fun e w' => e = .returned (.bool true) ∧ Below w.heap.size w w' := by
  have hsz := sh_size s 40
  have HSH := hide (fun wx => short_any s 40 wx)
  obtain ⟨S, hS⟩ : ∃ S, sh s 40 = S := ⟨_, rfl⟩
  rw [hS] at hsz HSH
  clear hS
  have HTA := hide hT
  have HS1 := hide hs1
  have HS2 := hide hs2
  have HW1 := hide hw1
  have HW2 := hide hw2
  clear hT hs1 hs2 hw1 hw2
  go_enter Tryd.func8, Tryd.ntmps8
  go_wp2_with fail
  refine (awake_any _ HTA.out).mono ?_
  rintro e w1 ⟨rfl, b1⟩
  have HB1 := hide b1
  clear b1
  dsimp only
  go_wp2_with fail
  refine (HSH.out _).mono ?_
  rintro e w2 ⟨rfl, rfl⟩
  dsimp only
  go_wp2_with fail
  go_loopw [8, 9] (fun t i wr => ∃ k : Nat, k ≤ S.size ∧ i = .int .i64 k ∧ t = .string (txt (low7 (S.data.toList.take k))) ∧ Below w.heap.size w wr) (fun _ i _ => S.size - (intOf i).toNat)
  case atStart => exact ⟨0, Nat.zero_le _, rfl, rfl, HB1.out⟩
  case round =>
    obtain ⟨k, hk, rfl, rfl, hbel⟩ := hrel
    have hup := hbel.size
    by_cases hkl : k < S.size
    · have hnext := low7_snoc S k hkl
      have hlen : (txt (low7 (S.data.toList.take k))).size ≤ 40 := by
        rw [txt_size]
        unfold low7
        rw [List.length_map, List.length_take]
        omega
      have HB := hide hbel
      have hab := and_bits S[k]
      have hcv := str_and (S[k] &&& 127) wr wr.heap.size rfl
      obtain ⟨b, hb⟩ : ∃ b, S[k] = b := ⟨_, rfl⟩
      rw [hb] at hnext hab hcv
      have HN := hide hnext
      clear hbel hnext
      generalize txt (low7 (S.data.toList.take k)) = T0 at hlen HN ⊢
      generalize b &&& 127 = c at hab hcv HN
      have hsum : ¬ (9223372036854775807 < T0.size + 1) := by omega
      go_wp2
      go_roundw
      case rel => exact ⟨k + 1, by omega, by go_num, by rw [HN.out], HB.out.alloc hup _⟩
      case measure => simp [intOf]; omega
    · have hkk : k = S.size := by omega
      subst hkk
      have hLl : S.data.toList.take S.size = S.data.toList := List.take_of_length_le (by rw [Array.length_toList]; exact Nat.le_refl _)
      rw [hLl]
      obtain ⟨TX, hTX⟩ : ∃ TX, txt (low7 S.data.toList) = TX := ⟨_, rfl⟩
      obtain ⟨hd, h128, hsz2⟩ := dec_low S TX hTX
      rw [hTX]
      have htx40 : TX.size ≤ 40 := by omega
      have HB := hide hbel
      have HDC := hide (Decode_any TX wr (by omega) (Utf8Tabs_below HTA.out hbel))
      have HD := hide hd
      have H128 := hide h128
      clear hTX hd h128 hsz2 hLl hbel
      go_wp2_with fail
      refine HDC.out.mono ?_
      rintro e w2 ⟨v2, rfl, o2, b2⟩
      rw [HD.out] at o2
      obtain ⟨a2, c2, rfl, hc2⟩ := Row.bytes (Row.of_own o2)
      have HC2 := hide hc2
      have HB2 := hide (HB.out.trans (b2.mono HB.out.size))
      have hup2 := b2.size
      clear o2 b2 hc2 HDC
      dsimp only
      go_wp2
      go_loopw [11] (fun i wx => ∃ k : Nat, k ≤ TX.size ∧ i = .int .i64 k ∧ Below w2.heap.size w2 wx) (fun i _ => TX.size - (intOf i).toNat)
      case atStart => exact ⟨0, Nat.zero_le _, rfl, Below.refl _ _⟩
      case round =>
        obtain ⟨k, hk, rfl, hbx⟩ := hrel
        by_cases hkl : k < TX.size
        · obtain ⟨g, rfl, hg, hcc⟩ := HC2.out (by omega)
          have d0 : wr.cell? ⟨g, k, none⟩ = some (.int .i32 TX[k].toNat) := (hbx.cell (p := ⟨g, k, none⟩) hg).trans (hcc k hkl)
          have h7 := byte_lt TX H128.out k hkl
          obtain ⟨b, hb⟩ : ∃ b, TX[k] = b := ⟨_, rfl⟩
          rw [hb] at d0 h7
          have hw := wid_plain b.toNat h7
          have HBX := hide hbx
          clear hcc hbx
          have hwr : IntKind.i32.wrap (b.toNat : Int) = (b.toNat : Int) := IntWalk.i32_in _ ⟨by omega, by omega⟩
          have hnn : ((b.toNat : Int) != (b.toNat : Int)) = false := by simp
          have HWD := hide (fun wy => Width_any (b.toNat : Int) wy)
          by_cases hx1 : (32 : Int) ≤ (b.toNat : Int)
          · by_cases hx2 : (b.toNat : Int) ≤ 126
            · rw [if_pos ⟨by omega, by omega⟩] at hw
              rw [hw] at HWD
              clear hw
              go_wp2_with fail
              go_region_held3 (fun w' => w'.cell? ⟨g, k, none⟩ = some (.int .i32 b.toNat) ∧ Below w2.heap.size w2 w')
                (first | exact ⟨d0, HBX.out⟩ | exact ⟨d0, HBX.out.drew⟩ | exact keep_after d0 HBX.out hg b3 | exact keep_drew d0 HBX.out hg b3)
                (first | (go_at_call 21; refine (HWD.out _).mono ?_; rintro e w3 ⟨rfl, b3⟩))
              have HH := hide (keep_drew d0 HBX.out hg b3).2
              clear b3
              go_wp2
              go_roundw
              case rel => exact ⟨k + 1, by omega, by go_num, HH.out⟩
              case measure => simp [intOf]; omega
            · rw [if_neg (by omega)] at hw
              rw [hw] at HWD
              clear hw
              go_wp2_with fail
              go_region_held3 (fun w' => w'.cell? ⟨g, k, none⟩ = some (.int .i32 b.toNat) ∧ Below w2.heap.size w2 w')
                (first | exact ⟨d0, HBX.out⟩ | exact ⟨d0, HBX.out.drew⟩ | exact keep_after d0 HBX.out hg b3 | exact keep_drew d0 HBX.out hg b3)
                (first | (go_at_call 21; refine (HWD.out _).mono ?_; rintro e w3 ⟨rfl, b3⟩))
              have HH := hide (keep_drew d0 HBX.out hg b3).2
              clear b3
              go_wp2
              go_roundw
              case rel => exact ⟨k + 1, by omega, by go_num, HH.out⟩
              case measure => simp [intOf]; omega
          · rw [if_neg (by omega)] at hw
            rw [hw] at HWD
            clear hw
            go_wp2_with fail
            go_region_held3 (fun w' => w'.cell? ⟨g, k, none⟩ = some (.int .i32 b.toNat) ∧ Below w2.heap.size w2 w')
              (first | exact ⟨d0, HBX.out⟩ | exact ⟨d0, HBX.out.drew⟩ | exact keep_after d0 HBX.out hg b3 | exact keep_drew d0 HBX.out hg b3)
              (first | (go_at_call 21; refine (HWD.out _).mono ?_; rintro e w3 ⟨rfl, b3⟩))
            have HH := hide (keep_drew d0 HBX.out hg b3).2
            clear b3
            go_wp2
            go_roundw
            case rel => exact ⟨k + 1, by omega, by go_num, HH.out⟩
            case measure => simp [intOf]; omega
        · have hkk : k = TX.size := by omega
          subst hkk
          have HB3 := hide (HB2.out.trans (hbx.mono HB2.out.size))
          clear hbx
          have hX20 : (xs.take 20).length ≤ 20 := List.length_take_le _ _
          have hY20 : (ys.take 20).length ≤ 20 := List.length_take_le _ _
          have HWX := hide (fun r (hr : r ∈ xs.take 20) => HW1.out r (List.mem_of_mem_take hr))
          have HWY := hide (fun r (hr : r ∈ ys.take 20) => HW2.out r (List.mem_of_mem_take hr))
          have HFX := hide (fun wx (hx : Src wx wx.heap.size (.slice A1 xs.length cap1) xs) => few_any xs A1 cap1 wx hc1 hx)
          have HFY := hide (fun wx (hx : Src wx wx.heap.size (.slice A2 ys.length cap2) ys) => few_any ys A2 cap2 wx hc2 hx)
          generalize xs.take 20 = X at hX20 HWX HFX
          generalize ys.take 20 = Y at hY20 HWY HFY
          have HFX2 := hide (HFX.out wr ((HS1.out.below HB3.out).more HB3.out.size))
          clear HFX
          go_wp2_with fail
          refine HFX2.out.mono ?_
          rintro e w3 ⟨v3, rfl, rfl, hs3⟩
          have HEX := hide (Encode_any v3 X wr hs3 (by omega) HWX.out)
          clear hs3 HFX2
          dsimp only
          go_wp2_with fail
          refine HEX.out.mono ?_
          rintro e w4 ⟨rfl, b4⟩
          have HB4 := hide (HB3.out.trans (b4.mono HB3.out.size))
          clear b4 HEX
          have HFY2 := hide (HFY.out w4 ((HS2.out.below HB4.out).more HB4.out.size))
          clear HFY
          dsimp only
          go_wp2_with fail
          refine HFY2.out.mono ?_
          rintro e w5 ⟨v5, rfl, rfl, hs5⟩
          have HEY := hide (Encode_any v5 Y w4 hs5 (by omega) HWY.out)
          clear hs5 HFY2
          dsimp only
          go_wp2_with fail
          refine HEY.out.mono ?_
          rintro e w5 ⟨rfl, b5⟩
          have HB5 := hide (HB4.out.trans (b5.mono HB4.out.size))
          clear b5 HEY
          have hXs := enc_size' X hX20
          have hYs := enc_size' Y hY20
          have hdX : dec ⟨(enc X).toArray⟩ = X.map fix := dec_enc X
          have hdY : dec ⟨(enc Y).toArray⟩ = Y.map fix := dec_enc Y
          have hdXY : dec ((⟨(enc X).toArray⟩ : ByteArray) ++ ⟨(enc Y).toArray⟩) = X.map fix ++ Y.map fix := by
            have h1 := dec_apart X (enc Y)
            rw [txt_app, dec_enc] at h1
            exact h1
          have hlX : (X.map fix).length ≤ 20 := by rw [List.length_map]; exact hX20
          have hlY : (Y.map fix).length ≤ 20 := by rw [List.length_map]; exact hY20
          dsimp only
          generalize (⟨(enc X).toArray⟩ : ByteArray) = PX at hXs hdX hdXY ⊢
          generalize (⟨(enc Y).toArray⟩ : ByteArray) = PY at hYs hdY hdXY ⊢
          generalize X.map fix = DX at hdX hdXY hlX
          generalize Y.map fix = DY at hdY hdXY hlY
          have hsum : ¬ (9223372036854775807 < PX.size + PY.size) := by omega
          have hXY : (PX ++ PY).size ≤ 900 := by rw [ByteArray.size_append]; omega
          have HDX := hide hdX
          have HDY := hide hdY
          have HDXY := hide hdXY
          clear hdX hdY hdXY
          have HDA := hide (Decode_any (PX ++ PY) w5 hXY (Utf8Tabs_below HTA.out HB5.out))
          go_wp2_with fail
          refine HDA.out.mono ?_
          rintro e w6 ⟨v6, rfl, o6, b6⟩
          rw [HDXY.out] at o6
          have HB6 := hide (HB5.out.trans (b6.mono HB5.out.size))
          have HR6 := hide (Row.of_own o6)
          clear o6 b6 HDA
          have hb7 : Below w6.heap.size w6 (w6.alloc (.cells #[] 21)) := (Below.refl _ _).alloc (Nat.le_refl _) _
          have hB7 : Below w.heap.size w (w6.alloc (.cells #[] 21)) := HB6.out.trans (hb7.mono HB6.out.size)
          have HDB := hide (Decode_any PX _ (by omega) (Utf8Tabs_below HTA.out hB7))
          have HB7 := hide hB7
          have hup6 := HB6.out.size
          clear hb7 hB7
          dsimp only
          go_wp2_with fail
          refine HDB.out.mono ?_
          rintro e w8 ⟨v8, rfl, o8, b8⟩
          rw [HDX.out] at o8
          have hz8 : w6.heap.size + 1 ≤ w8.heap.size := by have := b8.size; simp at this; omega
          have b68 : Below w6.heap.size w6 w8 := ((Below.refl _ w6).alloc (Nat.le_refl _) _).trans (b8.mono (by simp))
          have oE := (own_empty w6 _ rfl).kept (only_of_below b8 none) (Classical.em _)
          obtain ⟨i0, hii, hi0, hi1, hi2⟩ := info_parts info_rune
          obtain ⟨a8, c8, rfl⟩ := own_form o8
          have HR8 := hide (Reads.of_own o8)
          have HOE := hide oE
          have HB68 := hide b68
          have HB8 := hide (HB6.out.trans (b68.mono HB6.out.size))
          clear o8 b8 oE b68 HDB
          dsimp only
          go_wp2_with (at_builtin; refine wpList_append_any _ rfl (.tmp 84) (.tmp 86) 33 rfl w6.heap.size 21 i0 _ 1 4 Tryd.underlying33 hii hi0 hi1 hi2 rfl (by decide) _ 0 [] rfl HOE.out w8.heap.size a8 DX.length c8 (DX.map (Value.int .i32)) rfl HR8.out (ints_one _) ?p1 ?q1 ?r1 ?_)
          case p1 => unfold maxLen; omega
          case q1 => omega
          case r1 => omega
          intro u1 w9 o9 g9 _
          have o9' : w9.ownsRow w6.heap.size 21 1 u1 DX.length (DX.map (Value.int .i32)) := by simpa using o9
          have z9 : w8.heap.size ≤ w9.heap.size := g9.size
          have b69 : Below w6.heap.size w6 w9 := HB68.out.grown g9 (by omega) (fun x hx => (HOE.out.lt x hx).1)
          have HB9 := hide (HB6.out.trans (b69.mono HB6.out.size))
          have HB69 := hide b69
          have HO9 := hide o9'
          clear o9 o9' g9 b69 HOE HR8
          have HDC2 := hide (Decode_any PY w9 (by omega) (Utf8Tabs_below HTA.out HB9.out))
          go_wp2_with fail
          refine HDC2.out.mono ?_
          rintro e w10 ⟨v10, rfl, o10, b10⟩
          rw [HDY.out] at o10
          have hz10 := b10.size
          have b610 : Below w6.heap.size w6 w10 := HB69.out.trans (b10.mono (by omega))
          have oD := HO9.out.kept (only_of_below b10 none) (Classical.em _)
          obtain ⟨a10, c10, rfl⟩ := own_form o10
          have HR10 := hide (Reads.of_own o10)
          have HOD := hide oD
          have HB610 := hide b610
          clear o10 b10 oD b610 HDC2 HO9
          dsimp only
          go_wp2_with (at_builtin; refine wpList_append_any _ rfl (.tmp 87) (.tmp 89) 33 rfl w6.heap.size 21 i0 _ 1 4 Tryd.underlying33 hii hi0 hi1 hi2 rfl (by decide) _ _ _ rfl HOD.out w10.heap.size a10 DY.length c10 (DY.map (Value.int .i32)) rfl HR10.out (ints_one _) ?p2 ?q2 ?r2 ?_)
          case p2 => unfold maxLen; omega
          case q2 => omega
          case r2 => omega
          intro u2 w11 o11 g11 _
          have o11' : w11.ownsRow w6.heap.size 21 1 u2 (DX ++ DY).length ((DX ++ DY).map (Value.int .i32)) := by simpa using o11
          have b611 : Below w6.heap.size w6 w11 := HB610.out.grown g11 (by omega) (fun x hx => (HOD.out.lt x hx).1)
          have HB11 := hide (HB6.out.trans (b611.mono HB6.out.size))
          have hl11 : (DX ++ DY).length ≤ 1000000 := by rw [List.length_append]; omega
          have HSM := hide (Same_any v6 u2 (DX ++ DY) w11 ((HR6.out.below b611).more b611.size) (Row.of_own o11') hl11)
          clear o11 o11' g11 b611 HOD HR10
          go_wp2_with fail
          refine HSM.out.mono ?_
          rintro e w12 ⟨rfl, b12⟩
          have HB12 := hide (HB11.out.trans (b12.mono HB11.out.size))
          clear b12 HSM
          dsimp only
          go_wp2
          go_ret
          exact ⟨rfl, HB12.out⟩
end Go.Proofs.YthfgnjdekhfabaaDoor
