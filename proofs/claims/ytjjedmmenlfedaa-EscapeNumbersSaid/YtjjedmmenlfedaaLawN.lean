/- The law EscapeNumbers, walked. -/
import Derived.Test.YtjjedmmenlfedaaWalkJ
namespace Go.Proofs.Ytjjedmmenlfedaa
open Go.RowKit Go.Lib Esc
set_option maxRecDepth 100000

/-- A slice of numbers that came in. -/
def Ints (w : World) (v : Value) (n : Nat) : Prop :=
  ∃ A cap, v = .slice A n cap ∧ ((0 < n) → ∃ g off, A = some ⟨g, off, none⟩ ∧ g < w.heap.size ∧ ∀ j, j < n → ∃ x, w.cell? ⟨g, off + j, none⟩ = some (.int .i64 x))

theorem ints_of {w : World} {a : Option Addr} {len cap : Nat} {zs : List Int} (h : (a = none ∧ len = 0 ∧ cap = 0 ∧ zs = []) ∨
    ∃ x, a = some x ∧ len ≤ cap ∧ cap ≤ maxLen ∧ zs.length = cap ∧ (∀ i, i < zs.length → w.cell? (x.add i) = some (.int .i64 (zs.getD i 0))) ∧ ∀ n ∈ zs, (Lit.int .i64 n).wf = true) :
    Ints w (.slice a len cap) len ∧ len ≤ maxLen := by
  rcases h with ⟨rfl, rfl, rfl, rfl⟩ | ⟨x, rfl, hl, hm, hz, hc, _⟩
  · exact ⟨⟨none, 0, rfl, fun h => absurd h (by omega)⟩, by unfold maxLen; omega⟩
  · refine ⟨⟨some x, cap, rfl, fun h0 => ?_⟩, by omega⟩
    obtain ⟨g, off, spot⟩ := x
    have h1 := hc 0 (by omega)
    have hspot : spot = none := by simpa [Addr.add] using World.cell?_spot h1
    subst hspot
    have hcell : ∀ j, j < len → w.cell? ⟨g, off + j, none⟩ = some (.int .i64 (zs.getD j 0)) := by
      intro j hj
      have h2 := hc j (by omega)
      rw [Addr.add_lit] at h2
      exact h2
    have hg : g < w.heap.size := by
      rcases Nat.lt_or_ge g w.heap.size with hlt | hge
      · exact hlt
      · have h2 := hcell 0 (by omega)
        unfold World.cell? at h2
        dsimp only at h2
        rw [Array.getElem?_eq_none hge] at h2
        cases h2
    exact ⟨g, off, rfl, hg, fun j hj => ⟨_, hcell j hj⟩⟩

set_option maxHeartbeats 1600000 in
theorem law_N (v0 : Value) (zn : Nat) (fin : Int) (w : World) (h0 : Ints w v0 zn) (hw : (Lit.int .i64 fin).wf = true) (hmax : zn ≤ maxLen) :
    Calls Try.prog 7 #[v0, .int .i64 fin] w fun e w' => e = .returned (.bool true) ∧ Below w.heap.size w w' := by
  obtain ⟨A, cap, rfl, hc⟩ := h0
  unfold maxLen at hmax
  have hbd := bounds_i64 hw
  obtain ⟨i0, hi, hz0, hz1, hz2⟩ := info_parts info_rune
  go_enter Try.func7, Try.ntmps7
  go_wp2_with fail
  refine (awake_any _).mono ?_
  rintro e w1 ⟨rfl, hb1⟩
  have N1 := NS.start hb1
  have hup1 := hb1.size
  dsimp only
  go_wp2_with fail
  go_loopw [6, 8, 9] (fun v n i wr => ∃ ks : List Nat, ks.length ≤ zn ∧ ks.length ≤ 10 ∧ i = .int .i64 ks.length ∧ n = .int .i64 (min (ks.length : Int) 8) ∧ NS w w1.heap.size (wantOf ks) (chars ks) v wr) (fun _ _ i _ => zn - (intOf i).toNat)
  case atStart => exact ⟨[], Nat.zero_le _, by decide, rfl, rfl, N1⟩
  case round =>
    obtain ⟨ks, hk, hk10, rfl, rfl, hN⟩ := hrel
    have hcl := chars_len ks
    by_cases hlk : ks.length < zn
    · by_cases h10 : ks.length < 10
      · obtain ⟨g, off, rfl, hg, hcc⟩ := hc (by omega)
        obtain ⟨x, hx⟩ := hcc _ hlk
        have hc1 : wr.cell? ⟨g, off + ks.length, none⟩ = some (.int .i64 x) := (hN.bel.cell (p := ⟨g, off + ks.length, none⟩) hg).trans hx
        obtain ⟨kk, hkk, hb⟩ := and_small x
        have hb2 := and_one kk hkk
        clear hx hcc
        have HN := hide hN
        have hup := hN.bel.size
        clear hN
        by_cases hk0 : 0 < ks.length
        · obtain ⟨PRE, hP⟩ : ∃ PRE, PRE = chars ks ++ sepa ks.length kk := ⟨_, rfl⟩
          have hsep : sepa ks.length kk = [58 + (kk : Int) % 2] := by unfold sepa; rw [if_neg (by omega)]; congr 1
          have HP := hide hP.symm
          rw [hsep] at hP
          have HP2 := hide hP
          clear hP hsep
          go_wp2_with (at_builtin; refine wpList_append_own _ rfl _ _ 22 rfl w.heap.size 21 i0 _ 1 4 Try.underlying22 hi hz0 hz1 hz2 rfl (by decide) _ (chars ks).length ((chars ks).map (Value.int .i32)) rfl (HN.out.own.alloc _) ⟨wr.heap.size, 0, none⟩ 1 1 [Value.int .i32 (58 + (kk : Int) % 2)] rfl rfl ?c1 ?c2 ?c3 ?c4 ?c5 ?_)
          case c1 => exact rune_new _ _ rfl _ _
          case c2 => intro u hu; simp at hu; subst hu; rfl
          case c3 => unfold maxLen; omega
          case c4 => omega
          case c5 => have := HN.out.bel.size; simp; omega
          intro v3 w3 ho hg3 _
          have HO3 := hide (HN.out.append ho hg3)
          clear ho hg3
          have hpre := HO3.out
          rw [← HP2.out] at hpre
          have HPR := hide hpre
          clear hpre
          go_wp2_with fail
          clear hk0
          have H10 := hide h10
          clear h10
          have hPl : PRE.length ≤ 61 := by rw [← HP.out, List.length_append]; have : (sepa ks.length kk).length ≤ 1 := (by unfold sepa; split <;> simp); omega
          have hTl : ∀ t, (PRE ++ (digs kk).take t).length ≤ 66 := fun t => by rw [List.length_append]; have := List.length_take_le' t (digs kk); have h5 : (digs kk).length = 5 := rfl; omega
          go_loopw [6, 11] (fun v d wi => ∃ t : Nat, t ≤ 5 ∧ d = .int .i64 (powr t) ∧ NS w w1.heap.size (wantOf ks) (PRE ++ (digs kk).take t) v wi) (fun _ d _ => (intOf d).toNat)
          case atStart => exact ⟨0, by omega, rfl, by simpa using HPR.out⟩
          case round =>
            obtain ⟨t, ht, hd, hNi⟩ := hrel
            have hTt := hTl t
            have HNi := hide hNi
            clear hNi
            rcases (show t = 0 ∨ t = 1 ∨ t = 2 ∨ t = 3 ∨ t = 4 ∨ t = 5 by omega) with rfl | rfl | rfl | rfl | rfl | rfl
            · change _ = Value.int .i64 10000 at hd
              subst hd
              have hbi := HNi.out.bel.size
              obtain ⟨XS, hXS⟩ : ∃ XS, XS = PRE ++ (digs kk).take 0 := ⟨_, rfl⟩
              have hNx := HNi.out
              rw [← hXS] at hNx hTt
              have HNx := hide hNx
              have HX := hide hXS
              clear hXS hNx HNi
              go_wp2_with (at_builtin; refine wpList_append_own _ rfl _ _ 22 rfl w.heap.size 21 i0 _ 1 4 Try.underlying22 hi hz0 hz1 hz2 rfl (by decide) _ (XS).length ((XS).map (Value.int .i32)) rfl (HNx.out.own.alloc _) ⟨wr.heap.size, 0, none⟩ 1 1 [Value.int .i32 (48 + (kk : Int) / 10000 % 10)] rfl rfl ?c1 ?c2 ?c3 ?c4 ?c5 ?_)
              case c1 => exact rune_new _ _ rfl _ _
              case c2 => intro u hu; simp at hu; subst hu; rfl
              case c3 => unfold maxLen; omega
              case c4 => omega
              case c5 => have := HNx.out.bel.size; simp; omega
              intro v3 w3 ho hg3 _
              have HO3 := hide (HNx.out.append ho hg3)
              clear ho hg3
              go_wp2
              go_roundw
              case rel =>
                first
                  | refine ⟨1, by omega, rfl, ?_⟩
                  | refine ⟨_, _, _, _, _, _, _, _, _, _, _, _, _, _, _, ⟨1, by omega, rfl, ?_⟩, rfl⟩
                have h := HO3.out
                rw [HX.out, List.append_assoc] at h
                have e : (digs kk).take 0 ++ [48 + (kk : Int) / 10000 % 10] = (digs kk).take 1 := by
                  have e1 : (48 + (kk : Int) / 10000 % 10 : Int) = 48 + ((kk / 10000 % 10 : Nat) : Int) := by omega
                  rw [e1]
                  rfl
                rw [e] at h
                exact h
              case measure => simp [intOf]
            · change _ = Value.int .i64 1000 at hd
              subst hd
              have hbi := HNi.out.bel.size
              obtain ⟨XS, hXS⟩ : ∃ XS, XS = PRE ++ (digs kk).take 1 := ⟨_, rfl⟩
              have hNx := HNi.out
              rw [← hXS] at hNx hTt
              have HNx := hide hNx
              have HX := hide hXS
              clear hXS hNx HNi
              go_wp2_with (at_builtin; refine wpList_append_own _ rfl _ _ 22 rfl w.heap.size 21 i0 _ 1 4 Try.underlying22 hi hz0 hz1 hz2 rfl (by decide) _ (XS).length ((XS).map (Value.int .i32)) rfl (HNx.out.own.alloc _) ⟨wr.heap.size, 0, none⟩ 1 1 [Value.int .i32 (48 + (kk : Int) / 1000 % 10)] rfl rfl ?c1 ?c2 ?c3 ?c4 ?c5 ?_)
              case c1 => exact rune_new _ _ rfl _ _
              case c2 => intro u hu; simp at hu; subst hu; rfl
              case c3 => unfold maxLen; omega
              case c4 => omega
              case c5 => have := HNx.out.bel.size; simp; omega
              intro v3 w3 ho hg3 _
              have HO3 := hide (HNx.out.append ho hg3)
              clear ho hg3
              go_wp2
              go_roundw
              case rel =>
                first
                  | refine ⟨2, by omega, rfl, ?_⟩
                  | refine ⟨_, _, _, _, _, _, _, _, _, _, _, _, _, _, _, ⟨2, by omega, rfl, ?_⟩, rfl⟩
                have h := HO3.out
                rw [HX.out, List.append_assoc] at h
                have e : (digs kk).take 1 ++ [48 + (kk : Int) / 1000 % 10] = (digs kk).take 2 := by
                  have e1 : (48 + (kk : Int) / 1000 % 10 : Int) = 48 + ((kk / 1000 % 10 : Nat) : Int) := by omega
                  rw [e1]
                  rfl
                rw [e] at h
                exact h
              case measure => simp [intOf]
            · change _ = Value.int .i64 100 at hd
              subst hd
              have hbi := HNi.out.bel.size
              obtain ⟨XS, hXS⟩ : ∃ XS, XS = PRE ++ (digs kk).take 2 := ⟨_, rfl⟩
              have hNx := HNi.out
              rw [← hXS] at hNx hTt
              have HNx := hide hNx
              have HX := hide hXS
              clear hXS hNx HNi
              go_wp2_with (at_builtin; refine wpList_append_own _ rfl _ _ 22 rfl w.heap.size 21 i0 _ 1 4 Try.underlying22 hi hz0 hz1 hz2 rfl (by decide) _ (XS).length ((XS).map (Value.int .i32)) rfl (HNx.out.own.alloc _) ⟨wr.heap.size, 0, none⟩ 1 1 [Value.int .i32 (48 + (kk : Int) / 100 % 10)] rfl rfl ?c1 ?c2 ?c3 ?c4 ?c5 ?_)
              case c1 => exact rune_new _ _ rfl _ _
              case c2 => intro u hu; simp at hu; subst hu; rfl
              case c3 => unfold maxLen; omega
              case c4 => omega
              case c5 => have := HNx.out.bel.size; simp; omega
              intro v3 w3 ho hg3 _
              have HO3 := hide (HNx.out.append ho hg3)
              clear ho hg3
              go_wp2
              go_roundw
              case rel =>
                first
                  | refine ⟨3, by omega, rfl, ?_⟩
                  | refine ⟨_, _, _, _, _, _, _, _, _, _, _, _, _, _, _, ⟨3, by omega, rfl, ?_⟩, rfl⟩
                have h := HO3.out
                rw [HX.out, List.append_assoc] at h
                have e : (digs kk).take 2 ++ [48 + (kk : Int) / 100 % 10] = (digs kk).take 3 := by
                  have e1 : (48 + (kk : Int) / 100 % 10 : Int) = 48 + ((kk / 100 % 10 : Nat) : Int) := by omega
                  rw [e1]
                  rfl
                rw [e] at h
                exact h
              case measure => simp [intOf]
            · change _ = Value.int .i64 10 at hd
              subst hd
              have hbi := HNi.out.bel.size
              obtain ⟨XS, hXS⟩ : ∃ XS, XS = PRE ++ (digs kk).take 3 := ⟨_, rfl⟩
              have hNx := HNi.out
              rw [← hXS] at hNx hTt
              have HNx := hide hNx
              have HX := hide hXS
              clear hXS hNx HNi
              go_wp2_with (at_builtin; refine wpList_append_own _ rfl _ _ 22 rfl w.heap.size 21 i0 _ 1 4 Try.underlying22 hi hz0 hz1 hz2 rfl (by decide) _ (XS).length ((XS).map (Value.int .i32)) rfl (HNx.out.own.alloc _) ⟨wr.heap.size, 0, none⟩ 1 1 [Value.int .i32 (48 + (kk : Int) / 10 % 10)] rfl rfl ?c1 ?c2 ?c3 ?c4 ?c5 ?_)
              case c1 => exact rune_new _ _ rfl _ _
              case c2 => intro u hu; simp at hu; subst hu; rfl
              case c3 => unfold maxLen; omega
              case c4 => omega
              case c5 => have := HNx.out.bel.size; simp; omega
              intro v3 w3 ho hg3 _
              have HO3 := hide (HNx.out.append ho hg3)
              clear ho hg3
              go_wp2
              go_roundw
              case rel =>
                first
                  | refine ⟨4, by omega, rfl, ?_⟩
                  | refine ⟨_, _, _, _, _, _, _, _, _, _, _, _, _, _, _, ⟨4, by omega, rfl, ?_⟩, rfl⟩
                have h := HO3.out
                rw [HX.out, List.append_assoc] at h
                have e : (digs kk).take 3 ++ [48 + (kk : Int) / 10 % 10] = (digs kk).take 4 := by
                  have e1 : (48 + (kk : Int) / 10 % 10 : Int) = 48 + ((kk / 10 % 10 : Nat) : Int) := by omega
                  rw [e1]
                  rfl
                rw [e] at h
                exact h
              case measure => simp [intOf]
            · change _ = Value.int .i64 1 at hd
              subst hd
              have hbi := HNi.out.bel.size
              obtain ⟨XS, hXS⟩ : ∃ XS, XS = PRE ++ (digs kk).take 4 := ⟨_, rfl⟩
              have hNx := HNi.out
              rw [← hXS] at hNx hTt
              have HNx := hide hNx
              have HX := hide hXS
              clear hXS hNx HNi
              go_wp2_with (at_builtin; refine wpList_append_own _ rfl _ _ 22 rfl w.heap.size 21 i0 _ 1 4 Try.underlying22 hi hz0 hz1 hz2 rfl (by decide) _ (XS).length ((XS).map (Value.int .i32)) rfl (HNx.out.own.alloc _) ⟨wr.heap.size, 0, none⟩ 1 1 [Value.int .i32 (48 + (kk : Int) % 10)] rfl rfl ?c1 ?c2 ?c3 ?c4 ?c5 ?_)
              case c1 => exact rune_new _ _ rfl _ _
              case c2 => intro u hu; simp at hu; subst hu; rfl
              case c3 => unfold maxLen; omega
              case c4 => omega
              case c5 => have := HNx.out.bel.size; simp; omega
              intro v3 w3 ho hg3 _
              have HO3 := hide (HNx.out.append ho hg3)
              clear ho hg3
              go_wp2
              go_roundw
              case rel =>
                first
                  | refine ⟨5, by omega, rfl, ?_⟩
                  | refine ⟨_, _, _, _, _, _, _, _, _, _, _, _, _, _, _, ⟨5, by omega, rfl, ?_⟩, rfl⟩
                have h := HO3.out
                rw [HX.out, List.append_assoc] at h
                have e : (digs kk).take 4 ++ [48 + (kk : Int) % 10] = (digs kk).take 5 := by
                  have e1 : (48 + (kk : Int) % 10 : Int) = 48 + ((kk / 1 % 10 : Nat) : Int) := by omega
                  rw [e1]
                  rfl
                rw [e] at h
                exact h
              case measure => simp [intOf]
            · change _ = Value.int .i64 0 at hd
              subst hd
              have hbi := HNi.out.bel.size
              by_cases h8 : ks.length < 8
              · have hcW : wr.cell? ⟨w1.heap.size, ks.length, none⟩ = (wantOf ks)[ks.length]? := Blk.cell HNi.out.want ks.length
                obtain ⟨old, hold⟩ : ∃ old, (wantOf ks)[ks.length]? = some old := ⟨_, Array.getElem?_eq_getElem (show ks.length < 8 from h8)⟩
                rw [hold] at hcW
                have hfW := Blk.frozen HNi.out.want ks.length
                clear hold
                by_cases hm : (kk : Int) % 100000 ≤ 9999
                · have hq : worth kk = (kk : Int) % 100000 := by unfold worth; omega
                  have hset := HNi.out.set_ ks.length (.int .i64 (worth kk))
                  rw [want_set ks kk h8, hq] at hset
                  have HSET := hide hset
                  clear hset
                  go_wp2
                  go_roundw
                  case rel =>
                    have h10 := H10.out
                    refine ⟨ks ++ [kk], by rw [List.length_append]; simp; omega, by rw [List.length_append]; simp; omega, by rw [List.length_append]; go_num, by rw [List.length_append]; congr 1; simp; omega, ?_⟩
                    have h := HSET.out
                    rw [chars_snoc, ← List.append_assoc, HP.out]
                    exact h
                  case measure => simp [intOf]; omega
                · have hq : worth kk = 9999 := by unfold worth; omega
                  have hset := HNi.out.set_ ks.length (.int .i64 (worth kk))
                  rw [want_set ks kk h8, hq] at hset
                  have HSET := hide hset
                  clear hset
                  go_wp2
                  go_roundw
                  case rel =>
                    have h10 := H10.out
                    refine ⟨ks ++ [kk], by rw [List.length_append]; simp; omega, by rw [List.length_append]; simp; omega, by rw [List.length_append]; go_num, by rw [List.length_append]; congr 1; simp; omega, ?_⟩
                    have h := HSET.out
                    rw [chars_snoc, ← List.append_assoc, HP.out]
                    exact h
                  case measure => simp [intOf]; omega
              · have hset := HNi.out
                rw [← want_full ks kk (by omega)] at hset
                have HSET := hide hset
                clear hset
                go_wp2
                go_roundw
                case rel =>
                  have h10 := H10.out
                  refine ⟨ks ++ [kk], by rw [List.length_append]; simp; omega, by rw [List.length_append]; simp; omega, by rw [List.length_append]; go_num, by rw [List.length_append]; congr 1; simp; omega, ?_⟩
                  have h := HSET.out
                  rw [chars_snoc, ← List.append_assoc, HP.out]
                  exact h
                case measure => simp [intOf]; omega

        · obtain ⟨PRE, hP⟩ : ∃ PRE, PRE = chars ks ++ sepa ks.length kk := ⟨_, rfl⟩
          have hsep : sepa ks.length kk = [] := by unfold sepa; rw [if_pos (by omega)]
          have HP := hide hP.symm
          rw [hsep, List.append_nil] at hP
          have hpre := HN.out
          rw [← hP] at hpre
          have HPR := hide hpre
          clear hP hsep hpre
          go_wp2_with fail
          clear hk0
          have hdec : decide ((ks.length : Int) < 10) = true := decide_eq_true (by omega)
          rw [hdec]
          clear hdec
          have H10 := hide h10
          clear h10
          have hPl : PRE.length ≤ 61 := by rw [← HP.out, List.length_append]; have : (sepa ks.length kk).length ≤ 1 := (by unfold sepa; split <;> simp); omega
          have hTl : ∀ t, (PRE ++ (digs kk).take t).length ≤ 66 := fun t => by rw [List.length_append]; have := List.length_take_le' t (digs kk); have h5 : (digs kk).length = 5 := rfl; omega
          go_loopw [6, 11] (fun v d wi => ∃ t : Nat, t ≤ 5 ∧ d = .int .i64 (powr t) ∧ NS w w1.heap.size (wantOf ks) (PRE ++ (digs kk).take t) v wi) (fun _ d _ => (intOf d).toNat)
          case atStart => exact ⟨0, by omega, rfl, by simpa using HPR.out⟩
          case round =>
            obtain ⟨t, ht, hd, hNi⟩ := hrel
            have hTt := hTl t
            have HNi := hide hNi
            clear hNi
            rcases (show t = 0 ∨ t = 1 ∨ t = 2 ∨ t = 3 ∨ t = 4 ∨ t = 5 by omega) with rfl | rfl | rfl | rfl | rfl | rfl
            · change _ = Value.int .i64 10000 at hd
              subst hd
              have hbi := HNi.out.bel.size
              obtain ⟨XS, hXS⟩ : ∃ XS, XS = PRE ++ (digs kk).take 0 := ⟨_, rfl⟩
              have hNx := HNi.out
              rw [← hXS] at hNx hTt
              have HNx := hide hNx
              have HX := hide hXS
              clear hXS hNx HNi
              go_wp2_with (at_builtin; refine wpList_append_own _ rfl _ _ 22 rfl w.heap.size 21 i0 _ 1 4 Try.underlying22 hi hz0 hz1 hz2 rfl (by decide) _ (XS).length ((XS).map (Value.int .i32)) rfl (HNx.out.own.alloc _) ⟨wr.heap.size, 0, none⟩ 1 1 [Value.int .i32 (48 + (kk : Int) / 10000 % 10)] rfl rfl ?c1 ?c2 ?c3 ?c4 ?c5 ?_)
              case c1 => exact rune_new _ _ rfl _ _
              case c2 => intro u hu; simp at hu; subst hu; rfl
              case c3 => unfold maxLen; omega
              case c4 => omega
              case c5 => have := HNx.out.bel.size; simp; omega
              intro v3 w3 ho hg3 _
              have HO3 := hide (HNx.out.append ho hg3)
              clear ho hg3
              go_wp2
              go_roundw
              case rel =>
                first
                  | refine ⟨1, by omega, rfl, ?_⟩
                  | refine ⟨_, _, _, _, _, _, _, _, _, _, _, _, _, _, _, ⟨1, by omega, rfl, ?_⟩, rfl⟩
                have h := HO3.out
                rw [HX.out, List.append_assoc] at h
                have e : (digs kk).take 0 ++ [48 + (kk : Int) / 10000 % 10] = (digs kk).take 1 := by
                  have e1 : (48 + (kk : Int) / 10000 % 10 : Int) = 48 + ((kk / 10000 % 10 : Nat) : Int) := by omega
                  rw [e1]
                  rfl
                rw [e] at h
                exact h
              case measure => simp [intOf]
            · change _ = Value.int .i64 1000 at hd
              subst hd
              have hbi := HNi.out.bel.size
              obtain ⟨XS, hXS⟩ : ∃ XS, XS = PRE ++ (digs kk).take 1 := ⟨_, rfl⟩
              have hNx := HNi.out
              rw [← hXS] at hNx hTt
              have HNx := hide hNx
              have HX := hide hXS
              clear hXS hNx HNi
              go_wp2_with (at_builtin; refine wpList_append_own _ rfl _ _ 22 rfl w.heap.size 21 i0 _ 1 4 Try.underlying22 hi hz0 hz1 hz2 rfl (by decide) _ (XS).length ((XS).map (Value.int .i32)) rfl (HNx.out.own.alloc _) ⟨wr.heap.size, 0, none⟩ 1 1 [Value.int .i32 (48 + (kk : Int) / 1000 % 10)] rfl rfl ?c1 ?c2 ?c3 ?c4 ?c5 ?_)
              case c1 => exact rune_new _ _ rfl _ _
              case c2 => intro u hu; simp at hu; subst hu; rfl
              case c3 => unfold maxLen; omega
              case c4 => omega
              case c5 => have := HNx.out.bel.size; simp; omega
              intro v3 w3 ho hg3 _
              have HO3 := hide (HNx.out.append ho hg3)
              clear ho hg3
              go_wp2
              go_roundw
              case rel =>
                first
                  | refine ⟨2, by omega, rfl, ?_⟩
                  | refine ⟨_, _, _, _, _, _, _, _, _, _, _, _, _, _, _, ⟨2, by omega, rfl, ?_⟩, rfl⟩
                have h := HO3.out
                rw [HX.out, List.append_assoc] at h
                have e : (digs kk).take 1 ++ [48 + (kk : Int) / 1000 % 10] = (digs kk).take 2 := by
                  have e1 : (48 + (kk : Int) / 1000 % 10 : Int) = 48 + ((kk / 1000 % 10 : Nat) : Int) := by omega
                  rw [e1]
                  rfl
                rw [e] at h
                exact h
              case measure => simp [intOf]
            · change _ = Value.int .i64 100 at hd
              subst hd
              have hbi := HNi.out.bel.size
              obtain ⟨XS, hXS⟩ : ∃ XS, XS = PRE ++ (digs kk).take 2 := ⟨_, rfl⟩
              have hNx := HNi.out
              rw [← hXS] at hNx hTt
              have HNx := hide hNx
              have HX := hide hXS
              clear hXS hNx HNi
              go_wp2_with (at_builtin; refine wpList_append_own _ rfl _ _ 22 rfl w.heap.size 21 i0 _ 1 4 Try.underlying22 hi hz0 hz1 hz2 rfl (by decide) _ (XS).length ((XS).map (Value.int .i32)) rfl (HNx.out.own.alloc _) ⟨wr.heap.size, 0, none⟩ 1 1 [Value.int .i32 (48 + (kk : Int) / 100 % 10)] rfl rfl ?c1 ?c2 ?c3 ?c4 ?c5 ?_)
              case c1 => exact rune_new _ _ rfl _ _
              case c2 => intro u hu; simp at hu; subst hu; rfl
              case c3 => unfold maxLen; omega
              case c4 => omega
              case c5 => have := HNx.out.bel.size; simp; omega
              intro v3 w3 ho hg3 _
              have HO3 := hide (HNx.out.append ho hg3)
              clear ho hg3
              go_wp2
              go_roundw
              case rel =>
                first
                  | refine ⟨3, by omega, rfl, ?_⟩
                  | refine ⟨_, _, _, _, _, _, _, _, _, _, _, _, _, _, _, ⟨3, by omega, rfl, ?_⟩, rfl⟩
                have h := HO3.out
                rw [HX.out, List.append_assoc] at h
                have e : (digs kk).take 2 ++ [48 + (kk : Int) / 100 % 10] = (digs kk).take 3 := by
                  have e1 : (48 + (kk : Int) / 100 % 10 : Int) = 48 + ((kk / 100 % 10 : Nat) : Int) := by omega
                  rw [e1]
                  rfl
                rw [e] at h
                exact h
              case measure => simp [intOf]
            · change _ = Value.int .i64 10 at hd
              subst hd
              have hbi := HNi.out.bel.size
              obtain ⟨XS, hXS⟩ : ∃ XS, XS = PRE ++ (digs kk).take 3 := ⟨_, rfl⟩
              have hNx := HNi.out
              rw [← hXS] at hNx hTt
              have HNx := hide hNx
              have HX := hide hXS
              clear hXS hNx HNi
              go_wp2_with (at_builtin; refine wpList_append_own _ rfl _ _ 22 rfl w.heap.size 21 i0 _ 1 4 Try.underlying22 hi hz0 hz1 hz2 rfl (by decide) _ (XS).length ((XS).map (Value.int .i32)) rfl (HNx.out.own.alloc _) ⟨wr.heap.size, 0, none⟩ 1 1 [Value.int .i32 (48 + (kk : Int) / 10 % 10)] rfl rfl ?c1 ?c2 ?c3 ?c4 ?c5 ?_)
              case c1 => exact rune_new _ _ rfl _ _
              case c2 => intro u hu; simp at hu; subst hu; rfl
              case c3 => unfold maxLen; omega
              case c4 => omega
              case c5 => have := HNx.out.bel.size; simp; omega
              intro v3 w3 ho hg3 _
              have HO3 := hide (HNx.out.append ho hg3)
              clear ho hg3
              go_wp2
              go_roundw
              case rel =>
                first
                  | refine ⟨4, by omega, rfl, ?_⟩
                  | refine ⟨_, _, _, _, _, _, _, _, _, _, _, _, _, _, _, ⟨4, by omega, rfl, ?_⟩, rfl⟩
                have h := HO3.out
                rw [HX.out, List.append_assoc] at h
                have e : (digs kk).take 3 ++ [48 + (kk : Int) / 10 % 10] = (digs kk).take 4 := by
                  have e1 : (48 + (kk : Int) / 10 % 10 : Int) = 48 + ((kk / 10 % 10 : Nat) : Int) := by omega
                  rw [e1]
                  rfl
                rw [e] at h
                exact h
              case measure => simp [intOf]
            · change _ = Value.int .i64 1 at hd
              subst hd
              have hbi := HNi.out.bel.size
              obtain ⟨XS, hXS⟩ : ∃ XS, XS = PRE ++ (digs kk).take 4 := ⟨_, rfl⟩
              have hNx := HNi.out
              rw [← hXS] at hNx hTt
              have HNx := hide hNx
              have HX := hide hXS
              clear hXS hNx HNi
              go_wp2_with (at_builtin; refine wpList_append_own _ rfl _ _ 22 rfl w.heap.size 21 i0 _ 1 4 Try.underlying22 hi hz0 hz1 hz2 rfl (by decide) _ (XS).length ((XS).map (Value.int .i32)) rfl (HNx.out.own.alloc _) ⟨wr.heap.size, 0, none⟩ 1 1 [Value.int .i32 (48 + (kk : Int) % 10)] rfl rfl ?c1 ?c2 ?c3 ?c4 ?c5 ?_)
              case c1 => exact rune_new _ _ rfl _ _
              case c2 => intro u hu; simp at hu; subst hu; rfl
              case c3 => unfold maxLen; omega
              case c4 => omega
              case c5 => have := HNx.out.bel.size; simp; omega
              intro v3 w3 ho hg3 _
              have HO3 := hide (HNx.out.append ho hg3)
              clear ho hg3
              go_wp2
              go_roundw
              case rel =>
                first
                  | refine ⟨5, by omega, rfl, ?_⟩
                  | refine ⟨_, _, _, _, _, _, _, _, _, _, _, _, _, _, _, ⟨5, by omega, rfl, ?_⟩, rfl⟩
                have h := HO3.out
                rw [HX.out, List.append_assoc] at h
                have e : (digs kk).take 4 ++ [48 + (kk : Int) % 10] = (digs kk).take 5 := by
                  have e1 : (48 + (kk : Int) % 10 : Int) = 48 + ((kk / 1 % 10 : Nat) : Int) := by omega
                  rw [e1]
                  rfl
                rw [e] at h
                exact h
              case measure => simp [intOf]
            · change _ = Value.int .i64 0 at hd
              subst hd
              have hbi := HNi.out.bel.size
              by_cases h8 : ks.length < 8
              · have hcW : wr.cell? ⟨w1.heap.size, ks.length, none⟩ = (wantOf ks)[ks.length]? := Blk.cell HNi.out.want ks.length
                obtain ⟨old, hold⟩ : ∃ old, (wantOf ks)[ks.length]? = some old := ⟨_, Array.getElem?_eq_getElem (show ks.length < 8 from h8)⟩
                rw [hold] at hcW
                have hfW := Blk.frozen HNi.out.want ks.length
                clear hold
                by_cases hm : (kk : Int) % 100000 ≤ 9999
                · have hq : worth kk = (kk : Int) % 100000 := by unfold worth; omega
                  have hset := HNi.out.set_ ks.length (.int .i64 (worth kk))
                  rw [want_set ks kk h8, hq] at hset
                  have HSET := hide hset
                  clear hset
                  go_wp2
                  go_roundw
                  case rel =>
                    have h10 := H10.out
                    refine ⟨ks ++ [kk], by rw [List.length_append]; simp; omega, by rw [List.length_append]; simp; omega, by rw [List.length_append]; go_num, by rw [List.length_append]; congr 1; simp; omega, ?_⟩
                    have h := HSET.out
                    rw [chars_snoc, ← List.append_assoc, HP.out]
                    exact h
                  case measure => simp [intOf]; omega
                · have hq : worth kk = 9999 := by unfold worth; omega
                  have hset := HNi.out.set_ ks.length (.int .i64 (worth kk))
                  rw [want_set ks kk h8, hq] at hset
                  have HSET := hide hset
                  clear hset
                  go_wp2
                  go_roundw
                  case rel =>
                    have h10 := H10.out
                    refine ⟨ks ++ [kk], by rw [List.length_append]; simp; omega, by rw [List.length_append]; simp; omega, by rw [List.length_append]; go_num, by rw [List.length_append]; congr 1; simp; omega, ?_⟩
                    have h := HSET.out
                    rw [chars_snoc, ← List.append_assoc, HP.out]
                    exact h
                  case measure => simp [intOf]; omega
              · have hset := HNi.out
                rw [← want_full ks kk (by omega)] at hset
                have HSET := hide hset
                clear hset
                go_wp2
                go_roundw
                case rel =>
                  have h10 := H10.out
                  refine ⟨ks ++ [kk], by rw [List.length_append]; simp; omega, by rw [List.length_append]; simp; omega, by rw [List.length_append]; go_num, by rw [List.length_append]; congr 1; simp; omega, ?_⟩
                  have h := HSET.out
                  rw [chars_snoc, ← List.append_assoc, HP.out]
                  exact h
                case measure => simp [intOf]; omega

      · skip
        clear hc
        obtain ⟨Ain, cin, rfl⟩ := own_form hN.own
        obtain ⟨fm, hfm, hfm63, ft1, ft2⟩ := tmod63 fin
        have HN := hide hN
        have hupN := hN.bel.size
        have hltN := Blk.lt hN.want
        have hRd := ((Reads.of_own hN.own).alloc (Nat.le_refl _) (.cells (pcells P0) 30)).alloc (by simp) (.cells #[.int .i32 27, .int .i32 91] 21)
        have HRd := hide hRd
        clear hRd hN
        go_wp2_with (at_builtin; refine wpList_append_any _ rfl (.tmp 75) (.tmp 76) 22 rfl (wr.heap.size + 1) 21 i0 _ 1 4 Try.underlying22 hi hz0 hz1 hz2 rfl (by decide) (.slice (some ⟨wr.heap.size + 1, 0, none⟩) 2 2) 2 [.int .i32 27, .int .i32 91] rfl (own_two _ _ 27 91 (by simp)) wr.heap.size Ain (chars ks).length cin ((chars ks).map (Value.int .i32)) rfl HRd.out ?a1 ?a2 ?a3 ?a4 ?_)
        case a1 => intro u hu; obtain ⟨r, _, rfl⟩ := List.mem_map.1 hu; rfl
        case a2 => unfold maxLen; omega
        case a3 => omega
        case a4 => simp
        intro v7 w7 ho7 hg7 _
        have hg7' : (((wr.alloc (.cells (pcells P0) 30)).alloc (.cells #[.int .i32 27, .int .i32 91] 21))).grownBy w7 (some (wr.heap.size + 1)) := hg7
        have ho8 : w7.ownsRow (wr.heap.size + 1) 21 1 v7 ([27, 91] ++ chars ks).length (([27, 91] ++ chars ks).map (Value.int .i32)) := by
          have e : ([27, 91] ++ chars ks).length = 2 + (chars ks).length := by simp; omega
          rw [e, List.map_append]
          exact ho7
        have p7 : Ps w7 wr.heap.size P0 := Blk.grown (Blk.alloc (Blk.new wr _ _) _) hg7' (by intro h; injection h with h; omega)
        have b7 : Below w.heap.size w w7 := ((HN.out.bel.alloc hupN _).alloc (by simp; omega) _).grown hg7' (by simp; omega) (fun k hk => by injection hk with hk; omega)
        have q7 : Blk w7 w1.heap.size 26 (wantOf ks) := Blk.grown (Blk.alloc (Blk.alloc HN.out.want _) _) hg7' (by intro h; injection h with h; omega)
        have hl7 : ([27, 91] ++ chars ks).length ≤ 1000 := by rw [List.length_append]; simp; omega
        clear ho7 hg7 hg7' HRd
        go_wp2_with fail
        refine (Feed_any wr.heap.size P0 ([27, 91] ++ chars ks) v7 w7 p7 ok0 _ (src_own ho8) (by omega) hl7).mono ?_
        rintro e w8 ⟨v8, rfl, o8, p8, g8⟩
        have ok8 := ok_feed P0 ([27, 91] ++ chars ks) ok0
        obtain ⟨bb, hnum⟩ := numbers ks hk10
        rw [hnum] at o8 p8 ok8
        obtain ⟨a8, c8, rfl⟩ := own_form o8
        have b8 : Below w.heap.size w w8 := b7.grown g8 b7.size (fun k hk => by injection hk with hk; omega)
        have q8 : Blk w8 w1.heap.size 26 (wantOf ks) := Blk.grown q7 g8 (by intro h; injection h with h; omega)
        have hS := Step_any wr.heap.size (parserOf (ks.map worth) bb) (64 + (fm : Int)) w8 p8 ok8
        rw [stp_last _ _ _ (by omega) (by omega), act_final] at hS
        have HS := hide hS
        clear hS ho8 b7 q7 p7 hl7 hnum o8 p8 ok8 g8
        dsimp only [List.length_nil]
        go_wp2_with fail
        refine HS.out.mono ?_
        rintro e w9 ⟨rfl, p9, g9⟩
        have hwnt := want_at ks (min (ks.length : Int) 8) (64 + (fm : Int))
        have q9 : Blk w9 w1.heap.size 26 (wantOf ks) := Blk.grown q8 g9 (by intro h; injection h with h; omega)
        have b9 : Below w.heap.size w w9 := b8.grown g9 b8.size (fun k hk => by injection hk with hk; omega)
        have hl9 := Blk.lt q9
        obtain ⟨y0, hy0⟩ : ∃ y, y = (ks.map worth).getD 0 0 := ⟨_, rfl⟩
        obtain ⟨y1, hy1⟩ : ∃ y, y = (ks.map worth).getD 1 0 := ⟨_, rfl⟩
        obtain ⟨y2, hy2⟩ : ∃ y, y = (ks.map worth).getD 2 0 := ⟨_, rfl⟩
        obtain ⟨y3, hy3⟩ : ∃ y, y = (ks.map worth).getD 3 0 := ⟨_, rfl⟩
        obtain ⟨y4, hy4⟩ : ∃ y, y = (ks.map worth).getD 4 0 := ⟨_, rfl⟩
        obtain ⟨y5, hy5⟩ : ∃ y, y = (ks.map worth).getD 5 0 := ⟨_, rfl⟩
        obtain ⟨y6, hy6⟩ : ∃ y, y = (ks.map worth).getD 6 0 := ⟨_, rfl⟩
        obtain ⟨y7, hy7⟩ : ∃ y, y = (ks.map worth).getD 7 0 := ⟨_, rfl⟩
        obtain ⟨N, hNe⟩ : ∃ N, N = min (ks.length : Int) 8 := ⟨_, rfl⟩
        have hN0 : 0 ≤ N := by omega
        have hN8 : N ≤ 8 := by omega
        have eW : wantOf ks = #[.int .i64 y0, .int .i64 y1, .int .i64 y2, .int .i64 y3, .int .i64 y4, .int .i64 y5, .int .i64 y6, .int .i64 y7] := by unfold wantOf; rw [hy0, hy1, hy2, hy3, hy4, hy5, hy6, hy7]
        rw [eW] at q9
        rw [← hNe, eW, ← hy0, ← hy1, ← hy2, ← hy3, ← hy4, ← hy5, ← hy6, ← hy7] at hwnt
        unfold aval acts
        dsimp only
        rw [← hNe, ← hy0, ← hy1, ← hy2, ← hy3, ← hy4, ← hy5, ← hy6, ← hy7]
        clear hy0 hy1 hy2 hy3 hy4 hy5 hy6 hy7 hNe eW
        have dw0 : w9.cell? ⟨w1.heap.size, 0, none⟩ = some (.int .i64 y0) := Blk.cell q9 0
        have dw1 : w9.cell? ⟨w1.heap.size, 1, none⟩ = some (.int .i64 y1) := Blk.cell q9 1
        have dw2 : w9.cell? ⟨w1.heap.size, 2, none⟩ = some (.int .i64 y2) := Blk.cell q9 2
        have dw3 : w9.cell? ⟨w1.heap.size, 3, none⟩ = some (.int .i64 y3) := Blk.cell q9 3
        have dw4 : w9.cell? ⟨w1.heap.size, 4, none⟩ = some (.int .i64 y4) := Blk.cell q9 4
        have dw5 : w9.cell? ⟨w1.heap.size, 5, none⟩ = some (.int .i64 y5) := Blk.cell q9 5
        have dw6 : w9.cell? ⟨w1.heap.size, 6, none⟩ = some (.int .i64 y6) := Blk.cell q9 6
        have dw7 : w9.cell? ⟨w1.heap.size, 7, none⟩ = some (.int .i64 y7) := Blk.cell q9 7
        have hneq := nums_neq y0 y1 y2 y3 y4 y5 y6 y7
        have hI := Idle_any wr.heap.size _ _ (Blk.alloc p9 (.cells #[.int .i64 4, .int .i32 (64 + (fm : Int)), .int .u8 0, .int .u8 0, .int .i64 N, .int .i64 y0, .int .i64 y1, .int .i64 y2, .int .i64 y3, .int .i64 y4, .int .i64 y5, .int .i64 y6, .int .i64 y7] 28))
        have hI2 : ((⟨0, actOf (ks.map worth), true⟩ : P).inn == 0) = true := rfl
        rw [hI2] at hI
        have Q9 := hide (Blk.alloc q9 (.cells #[.int .i64 4, .int .i32 (64 + (fm : Int)), .int .u8 0, .int .u8 0, .int .i64 N, .int .i64 y0, .int .i64 y1, .int .i64 y2, .int .i64 y3, .int .i64 y4, .int .i64 y5, .int .i64 y6, .int .i64 y7] 28))
        have B9 := hide (b9.alloc b9.size (.cells #[.int .i64 4, .int .i32 (64 + (fm : Int)), .int .u8 0, .int .u8 0, .int .i64 N, .int .i64 y0, .int .i64 y1, .int .i64 y2, .int .i64 y3, .int .i64 y4, .int .i64 y5, .int .i64 y6, .int .i64 y7] 28))
        have R9 := hide (Blk.new w9 28 #[.int .i64 4, .int .i32 (64 + (fm : Int)), .int .u8 0, .int .u8 0, .int .i64 N, .int .i64 y0, .int .i64 y1, .int .i64 y2, .int .i64 y3, .int .i64 y4, .int .i64 y5, .int .i64 y6, .int .i64 y7])
        have HW := hide hwnt
        clear hwnt q9 b9 p9 g9 b8 q8 HS HN hI2 ft1 ft2 hbd hw
        go_wp2_with (go_at_call 13; (with_reducible refine hI.mono ?_); rintro e w' ⟨rfl, rfl⟩)
        go_loopw [17] (fun i wi => ∃ z : Int, -1 ≤ z ∧ z ≤ 9 ∧ i = .int .i64 z ∧ Blk wi w1.heap.size 26 #[.int .i64 y0, .int .i64 y1, .int .i64 y2, .int .i64 y3, .int .i64 y4, .int .i64 y5, .int .i64 y6, .int .i64 y7] ∧ Blk wi w9.heap.size 28 #[.int .i64 4, .int .i32 (64 + (fm : Int)), .int .u8 0, .int .u8 0, .int .i64 N, .int .i64 y0, .int .i64 y1, .int .i64 y2, .int .i64 y3, .int .i64 y4, .int .i64 y5, .int .i64 y6, .int .i64 y7] ∧ Below w.heap.size w wi) (fun i _ => (9 - intOf i).toNat)
        case atStart => exact ⟨-1, by omega, by omega, rfl, Q9.out, R9.out, B9.out⟩
        case round =>
          obtain ⟨z, zlo, zhi, rfl, qi, ri, bi⟩ := hrel
          have QI := hide qi
          have RI := hide ri
          have BI := hide bi
          have lq := Blk.lt qi
          have lr := Blk.lt ri
          have sbi := bi.size
          clear qi ri bi
          by_cases hz9 : z < 9
          · by_cases hz0' : z < 0
            · have C0 := Num_out (⟨4, 64 + (fm : Int), 0, 0, N, y0, y1, y2, y3, y4, y5, y6, y7⟩ : Esc.A) z 0 wr (by first | exact .inl hz0' | exact .inr (by show N ≤ z; omega)) hN0 hN8
              have C3 := fun wx => Num_out (⟨4, 64 + (fm : Int), 0, 0, N, y0, y1, y2, y3, y4, y5, y6, y7⟩ : Esc.A) z 3 wx (by first | exact .inl hz0' | exact .inr (by show N ≤ z; omega)) hN0 hN8
              unfold aval acts at C0 C3
              dsimp only at C0 C3
              have H0 := hide C0
              have H3 := hide C3
              clear C0 C3
              obtain ⟨d0, d1, d2, d3, d4, d5, d6, d7, d8, d9, d10, d11, d12⟩ := act_blk (a := (⟨4, 64 + (fm : Int), 0, 0, N, y0, y1, y2, y3, y4, y5, y6, y7⟩ : Esc.A)) RI.out
              dsimp only at d0 d1 d2 d3 d4 d5 d6 d7 d8 d9 d10 d11 d12
              go_wp2_with fail
              refine H0.out.mono ?_
              rintro e wA ⟨rfl, bA⟩
              have RA := hide (Blk.below RI.out bA lr)
              have QA := hide (Blk.below QI.out bA lq)
              have BA := hide (BI.out.trans (bA.mono sbi))
              have sA := bA.size
              clear d0 d1 d2 d3 d4 d5 d6 d7 d8 d9 d10 d11 d12 bA
              obtain ⟨d0, d1, d2, d3, d4, d5, d6, d7, d8, d9, d10, d11, d12⟩ := act_blk (a := (⟨4, 64 + (fm : Int), 0, 0, N, y0, y1, y2, y3, y4, y5, y6, y7⟩ : Esc.A)) RA.out
              dsimp only at d0 d1 d2 d3 d4 d5 d6 d7 d8 d9 d10 d11 d12
              dsimp only
              go_wp2_with fail
              refine (H3.out _).mono ?_
              rintro e wB ⟨rfl, bB⟩
              have RB := hide (Blk.below RA.out bB (by omega))
              have QB := hide (Blk.below QA.out bB (by omega))
              have BB := hide (BA.out.trans (bB.mono (by omega)))
              clear d0 d1 d2 d3 d4 d5 d6 d7 d8 d9 d10 d11 d12 bB
              dsimp only
              go_wp2
              go_roundw
              case rel => exact ⟨z + 1, by omega, by omega, rfl, QB.out, RB.out, BB.out⟩
              case measure => simp [intOf]; omega
            · by_cases hzN : z < N
              · obtain ⟨m, rfl⟩ : ∃ m : Nat, z = (m : Int) := ⟨z.toNat, by omega⟩
                obtain ⟨y, hyn, hyW, hyA⟩ := HW.out m (by omega)
                have dm : wr.cell? ⟨w1.heap.size, m, none⟩ = some (.int .i64 y) := (Blk.cell QI.out m).trans hyW
                clear hyW
                by_cases hy3 : y ≤ 3
                · have C0 := Num_in (⟨4, 64 + (fm : Int), 0, 0, N, y0, y1, y2, y3, y4, y5, y6, y7⟩ : Esc.A) m y 0 wr (by omega) hyA (by show (m : Int) < N; omega) hN8
                  have C3 := fun wx => Num_in (⟨4, 64 + (fm : Int), 0, 0, N, y0, y1, y2, y3, y4, y5, y6, y7⟩ : Esc.A) m y 3 wx (by omega) hyA (by show (m : Int) < N; omega) hN8
                  have e0 : max y 0 = y := by omega
                  have e3 : max y 3 = 3 := by omega
                  rw [e0] at C0
                  rw [e3] at C3
                  clear e0 e3 hyA
                  unfold aval acts at C0 C3
                  dsimp only at C0 C3
                  have H0 := hide C0
                  have H3 := hide C3
                  clear C0 C3
                  obtain ⟨d0, d1, d2, d3, d4, d5, d6, d7, d8, d9, d10, d11, d12⟩ := act_blk (a := (⟨4, 64 + (fm : Int), 0, 0, N, y0, y1, y2, y3, y4, y5, y6, y7⟩ : Esc.A)) RI.out
                  dsimp only at d0 d1 d2 d3 d4 d5 d6 d7 d8 d9 d10 d11 d12
                  go_wp2_with fail
                  refine H0.out.mono ?_
                  rintro e wA ⟨rfl, bA⟩
                  have RA := hide (Blk.below RI.out bA lr)
                  have QA := hide (Blk.below QI.out bA lq)
                  have BA := hide (BI.out.trans (bA.mono sbi))
                  have sA := bA.size
                  clear d0 d1 d2 d3 d4 d5 d6 d7 d8 d9 d10 d11 d12 bA
                  obtain ⟨d0, d1, d2, d3, d4, d5, d6, d7, d8, d9, d10, d11, d12⟩ := act_blk (a := (⟨4, 64 + (fm : Int), 0, 0, N, y0, y1, y2, y3, y4, y5, y6, y7⟩ : Esc.A)) RA.out
                  dsimp only at d0 d1 d2 d3 d4 d5 d6 d7 d8 d9 d10 d11 d12
                  dsimp only
                  go_wp2_with fail
                  refine (H3.out _).mono ?_
                  rintro e wB ⟨rfl, bB⟩
                  have RB := hide (Blk.below RA.out bB (by omega))
                  have QB := hide (Blk.below QA.out bB (by omega))
                  have BB := hide (BA.out.trans (bB.mono (by omega)))
                  clear d0 d1 d2 d3 d4 d5 d6 d7 d8 d9 d10 d11 d12 bB
                  dsimp only
                  go_wp2
                  go_roundw
                  case rel => exact ⟨(m : Int) + 1, by omega, by omega, rfl, QB.out, RB.out, BB.out⟩
                  case measure => simp [intOf]; omega
                · have C0 := Num_in (⟨4, 64 + (fm : Int), 0, 0, N, y0, y1, y2, y3, y4, y5, y6, y7⟩ : Esc.A) m y 0 wr (by omega) hyA (by show (m : Int) < N; omega) hN8
                  have C3 := fun wx => Num_in (⟨4, 64 + (fm : Int), 0, 0, N, y0, y1, y2, y3, y4, y5, y6, y7⟩ : Esc.A) m y 3 wx (by omega) hyA (by show (m : Int) < N; omega) hN8
                  have e0 : max y 0 = y := by omega
                  have e3 : max y 3 = y := by omega
                  rw [e0] at C0
                  rw [e3] at C3
                  clear e0 e3 hyA
                  unfold aval acts at C0 C3
                  dsimp only at C0 C3
                  have H0 := hide C0
                  have H3 := hide C3
                  clear C0 C3
                  obtain ⟨d0, d1, d2, d3, d4, d5, d6, d7, d8, d9, d10, d11, d12⟩ := act_blk (a := (⟨4, 64 + (fm : Int), 0, 0, N, y0, y1, y2, y3, y4, y5, y6, y7⟩ : Esc.A)) RI.out
                  dsimp only at d0 d1 d2 d3 d4 d5 d6 d7 d8 d9 d10 d11 d12
                  go_wp2_with fail
                  refine H0.out.mono ?_
                  rintro e wA ⟨rfl, bA⟩
                  have RA := hide (Blk.below RI.out bA lr)
                  have QA := hide (Blk.below QI.out bA lq)
                  have BA := hide (BI.out.trans (bA.mono sbi))
                  have sA := bA.size
                  clear d0 d1 d2 d3 d4 d5 d6 d7 d8 d9 d10 d11 d12 bA
                  obtain ⟨d0, d1, d2, d3, d4, d5, d6, d7, d8, d9, d10, d11, d12⟩ := act_blk (a := (⟨4, 64 + (fm : Int), 0, 0, N, y0, y1, y2, y3, y4, y5, y6, y7⟩ : Esc.A)) RA.out
                  dsimp only at d0 d1 d2 d3 d4 d5 d6 d7 d8 d9 d10 d11 d12
                  dsimp only
                  go_wp2_with fail
                  refine (H3.out _).mono ?_
                  rintro e wB ⟨rfl, bB⟩
                  have RB := hide (Blk.below RA.out bB (by omega))
                  have QB := hide (Blk.below QA.out bB (by omega))
                  have BB := hide (BA.out.trans (bB.mono (by omega)))
                  clear d0 d1 d2 d3 d4 d5 d6 d7 d8 d9 d10 d11 d12 bB
                  dsimp only
                  go_wp2
                  go_roundw
                  case rel => exact ⟨(m : Int) + 1, by omega, by omega, rfl, QB.out, RB.out, BB.out⟩
                  case measure => simp [intOf]; omega
              · have C0 := Num_out (⟨4, 64 + (fm : Int), 0, 0, N, y0, y1, y2, y3, y4, y5, y6, y7⟩ : Esc.A) z 0 wr (by first | exact .inl hz0' | exact .inr (by show N ≤ z; omega)) hN0 hN8
                have C3 := fun wx => Num_out (⟨4, 64 + (fm : Int), 0, 0, N, y0, y1, y2, y3, y4, y5, y6, y7⟩ : Esc.A) z 3 wx (by first | exact .inl hz0' | exact .inr (by show N ≤ z; omega)) hN0 hN8
                unfold aval acts at C0 C3
                dsimp only at C0 C3
                have H0 := hide C0
                have H3 := hide C3
                clear C0 C3
                obtain ⟨d0, d1, d2, d3, d4, d5, d6, d7, d8, d9, d10, d11, d12⟩ := act_blk (a := (⟨4, 64 + (fm : Int), 0, 0, N, y0, y1, y2, y3, y4, y5, y6, y7⟩ : Esc.A)) RI.out
                dsimp only at d0 d1 d2 d3 d4 d5 d6 d7 d8 d9 d10 d11 d12
                go_wp2_with fail
                refine H0.out.mono ?_
                rintro e wA ⟨rfl, bA⟩
                have RA := hide (Blk.below RI.out bA lr)
                have QA := hide (Blk.below QI.out bA lq)
                have BA := hide (BI.out.trans (bA.mono sbi))
                have sA := bA.size
                clear d0 d1 d2 d3 d4 d5 d6 d7 d8 d9 d10 d11 d12 bA
                obtain ⟨d0, d1, d2, d3, d4, d5, d6, d7, d8, d9, d10, d11, d12⟩ := act_blk (a := (⟨4, 64 + (fm : Int), 0, 0, N, y0, y1, y2, y3, y4, y5, y6, y7⟩ : Esc.A)) RA.out
                dsimp only at d0 d1 d2 d3 d4 d5 d6 d7 d8 d9 d10 d11 d12
                dsimp only
                go_wp2_with fail
                refine (H3.out _).mono ?_
                rintro e wB ⟨rfl, bB⟩
                have RB := hide (Blk.below RA.out bB (by omega))
                have QB := hide (Blk.below QA.out bB (by omega))
                have BB := hide (BA.out.trans (bB.mono (by omega)))
                clear d0 d1 d2 d3 d4 d5 d6 d7 d8 d9 d10 d11 d12 bB
                dsimp only
                go_wp2
                go_roundw
                case rel => exact ⟨z + 1, by omega, by omega, rfl, QB.out, RB.out, BB.out⟩
                case measure => simp [intOf]; omega
          · have hbf := BI.out
            go_wp2
            go_ret
            exact ⟨rfl, hbf⟩
    · skip
      clear hc
      obtain ⟨Ain, cin, rfl⟩ := own_form hN.own
      obtain ⟨fm, hfm, hfm63, ft1, ft2⟩ := tmod63 fin
      have HN := hide hN
      have hupN := hN.bel.size
      have hltN := Blk.lt hN.want
      have hRd := ((Reads.of_own hN.own).alloc (Nat.le_refl _) (.cells (pcells P0) 30)).alloc (by simp) (.cells #[.int .i32 27, .int .i32 91] 21)
      have HRd := hide hRd
      clear hRd hN
      go_wp2_with (at_builtin; refine wpList_append_any _ rfl (.tmp 75) (.tmp 76) 22 rfl (wr.heap.size + 1) 21 i0 _ 1 4 Try.underlying22 hi hz0 hz1 hz2 rfl (by decide) (.slice (some ⟨wr.heap.size + 1, 0, none⟩) 2 2) 2 [.int .i32 27, .int .i32 91] rfl (own_two _ _ 27 91 (by simp)) wr.heap.size Ain (chars ks).length cin ((chars ks).map (Value.int .i32)) rfl HRd.out ?a1 ?a2 ?a3 ?a4 ?_)
      case a1 => intro u hu; obtain ⟨r, _, rfl⟩ := List.mem_map.1 hu; rfl
      case a2 => unfold maxLen; omega
      case a3 => omega
      case a4 => simp
      intro v7 w7 ho7 hg7 _
      have hg7' : (((wr.alloc (.cells (pcells P0) 30)).alloc (.cells #[.int .i32 27, .int .i32 91] 21))).grownBy w7 (some (wr.heap.size + 1)) := hg7
      have ho8 : w7.ownsRow (wr.heap.size + 1) 21 1 v7 ([27, 91] ++ chars ks).length (([27, 91] ++ chars ks).map (Value.int .i32)) := by
        have e : ([27, 91] ++ chars ks).length = 2 + (chars ks).length := by simp; omega
        rw [e, List.map_append]
        exact ho7
      have p7 : Ps w7 wr.heap.size P0 := Blk.grown (Blk.alloc (Blk.new wr _ _) _) hg7' (by intro h; injection h with h; omega)
      have b7 : Below w.heap.size w w7 := ((HN.out.bel.alloc hupN _).alloc (by simp; omega) _).grown hg7' (by simp; omega) (fun k hk => by injection hk with hk; omega)
      have q7 : Blk w7 w1.heap.size 26 (wantOf ks) := Blk.grown (Blk.alloc (Blk.alloc HN.out.want _) _) hg7' (by intro h; injection h with h; omega)
      have hl7 : ([27, 91] ++ chars ks).length ≤ 1000 := by rw [List.length_append]; simp; omega
      clear ho7 hg7 hg7' HRd
      go_wp2_with fail
      refine (Feed_any wr.heap.size P0 ([27, 91] ++ chars ks) v7 w7 p7 ok0 _ (src_own ho8) (by omega) hl7).mono ?_
      rintro e w8 ⟨v8, rfl, o8, p8, g8⟩
      have ok8 := ok_feed P0 ([27, 91] ++ chars ks) ok0
      obtain ⟨bb, hnum⟩ := numbers ks hk10
      rw [hnum] at o8 p8 ok8
      obtain ⟨a8, c8, rfl⟩ := own_form o8
      have b8 : Below w.heap.size w w8 := b7.grown g8 b7.size (fun k hk => by injection hk with hk; omega)
      have q8 : Blk w8 w1.heap.size 26 (wantOf ks) := Blk.grown q7 g8 (by intro h; injection h with h; omega)
      have hS := Step_any wr.heap.size (parserOf (ks.map worth) bb) (64 + (fm : Int)) w8 p8 ok8
      rw [stp_last _ _ _ (by omega) (by omega), act_final] at hS
      have HS := hide hS
      clear hS ho8 b7 q7 p7 hl7 hnum o8 p8 ok8 g8
      dsimp only [List.length_nil]
      go_wp2_with fail
      refine HS.out.mono ?_
      rintro e w9 ⟨rfl, p9, g9⟩
      have hwnt := want_at ks (min (ks.length : Int) 8) (64 + (fm : Int))
      have q9 : Blk w9 w1.heap.size 26 (wantOf ks) := Blk.grown q8 g9 (by intro h; injection h with h; omega)
      have b9 : Below w.heap.size w w9 := b8.grown g9 b8.size (fun k hk => by injection hk with hk; omega)
      have hl9 := Blk.lt q9
      obtain ⟨y0, hy0⟩ : ∃ y, y = (ks.map worth).getD 0 0 := ⟨_, rfl⟩
      obtain ⟨y1, hy1⟩ : ∃ y, y = (ks.map worth).getD 1 0 := ⟨_, rfl⟩
      obtain ⟨y2, hy2⟩ : ∃ y, y = (ks.map worth).getD 2 0 := ⟨_, rfl⟩
      obtain ⟨y3, hy3⟩ : ∃ y, y = (ks.map worth).getD 3 0 := ⟨_, rfl⟩
      obtain ⟨y4, hy4⟩ : ∃ y, y = (ks.map worth).getD 4 0 := ⟨_, rfl⟩
      obtain ⟨y5, hy5⟩ : ∃ y, y = (ks.map worth).getD 5 0 := ⟨_, rfl⟩
      obtain ⟨y6, hy6⟩ : ∃ y, y = (ks.map worth).getD 6 0 := ⟨_, rfl⟩
      obtain ⟨y7, hy7⟩ : ∃ y, y = (ks.map worth).getD 7 0 := ⟨_, rfl⟩
      obtain ⟨N, hNe⟩ : ∃ N, N = min (ks.length : Int) 8 := ⟨_, rfl⟩
      have hN0 : 0 ≤ N := by omega
      have hN8 : N ≤ 8 := by omega
      have eW : wantOf ks = #[.int .i64 y0, .int .i64 y1, .int .i64 y2, .int .i64 y3, .int .i64 y4, .int .i64 y5, .int .i64 y6, .int .i64 y7] := by unfold wantOf; rw [hy0, hy1, hy2, hy3, hy4, hy5, hy6, hy7]
      rw [eW] at q9
      rw [← hNe, eW, ← hy0, ← hy1, ← hy2, ← hy3, ← hy4, ← hy5, ← hy6, ← hy7] at hwnt
      unfold aval acts
      dsimp only
      rw [← hNe, ← hy0, ← hy1, ← hy2, ← hy3, ← hy4, ← hy5, ← hy6, ← hy7]
      clear hy0 hy1 hy2 hy3 hy4 hy5 hy6 hy7 hNe eW
      have dw0 : w9.cell? ⟨w1.heap.size, 0, none⟩ = some (.int .i64 y0) := Blk.cell q9 0
      have dw1 : w9.cell? ⟨w1.heap.size, 1, none⟩ = some (.int .i64 y1) := Blk.cell q9 1
      have dw2 : w9.cell? ⟨w1.heap.size, 2, none⟩ = some (.int .i64 y2) := Blk.cell q9 2
      have dw3 : w9.cell? ⟨w1.heap.size, 3, none⟩ = some (.int .i64 y3) := Blk.cell q9 3
      have dw4 : w9.cell? ⟨w1.heap.size, 4, none⟩ = some (.int .i64 y4) := Blk.cell q9 4
      have dw5 : w9.cell? ⟨w1.heap.size, 5, none⟩ = some (.int .i64 y5) := Blk.cell q9 5
      have dw6 : w9.cell? ⟨w1.heap.size, 6, none⟩ = some (.int .i64 y6) := Blk.cell q9 6
      have dw7 : w9.cell? ⟨w1.heap.size, 7, none⟩ = some (.int .i64 y7) := Blk.cell q9 7
      have hneq := nums_neq y0 y1 y2 y3 y4 y5 y6 y7
      have hI := Idle_any wr.heap.size _ _ (Blk.alloc p9 (.cells #[.int .i64 4, .int .i32 (64 + (fm : Int)), .int .u8 0, .int .u8 0, .int .i64 N, .int .i64 y0, .int .i64 y1, .int .i64 y2, .int .i64 y3, .int .i64 y4, .int .i64 y5, .int .i64 y6, .int .i64 y7] 28))
      have hI2 : ((⟨0, actOf (ks.map worth), true⟩ : P).inn == 0) = true := rfl
      rw [hI2] at hI
      have Q9 := hide (Blk.alloc q9 (.cells #[.int .i64 4, .int .i32 (64 + (fm : Int)), .int .u8 0, .int .u8 0, .int .i64 N, .int .i64 y0, .int .i64 y1, .int .i64 y2, .int .i64 y3, .int .i64 y4, .int .i64 y5, .int .i64 y6, .int .i64 y7] 28))
      have B9 := hide (b9.alloc b9.size (.cells #[.int .i64 4, .int .i32 (64 + (fm : Int)), .int .u8 0, .int .u8 0, .int .i64 N, .int .i64 y0, .int .i64 y1, .int .i64 y2, .int .i64 y3, .int .i64 y4, .int .i64 y5, .int .i64 y6, .int .i64 y7] 28))
      have R9 := hide (Blk.new w9 28 #[.int .i64 4, .int .i32 (64 + (fm : Int)), .int .u8 0, .int .u8 0, .int .i64 N, .int .i64 y0, .int .i64 y1, .int .i64 y2, .int .i64 y3, .int .i64 y4, .int .i64 y5, .int .i64 y6, .int .i64 y7])
      have HW := hide hwnt
      clear hwnt q9 b9 p9 g9 b8 q8 HS HN hI2 ft1 ft2 hbd hw
      go_wp2_with (go_at_call 13; (with_reducible refine hI.mono ?_); rintro e w' ⟨rfl, rfl⟩)
      go_loopw [17] (fun i wi => ∃ z : Int, -1 ≤ z ∧ z ≤ 9 ∧ i = .int .i64 z ∧ Blk wi w1.heap.size 26 #[.int .i64 y0, .int .i64 y1, .int .i64 y2, .int .i64 y3, .int .i64 y4, .int .i64 y5, .int .i64 y6, .int .i64 y7] ∧ Blk wi w9.heap.size 28 #[.int .i64 4, .int .i32 (64 + (fm : Int)), .int .u8 0, .int .u8 0, .int .i64 N, .int .i64 y0, .int .i64 y1, .int .i64 y2, .int .i64 y3, .int .i64 y4, .int .i64 y5, .int .i64 y6, .int .i64 y7] ∧ Below w.heap.size w wi) (fun i _ => (9 - intOf i).toNat)
      case atStart => exact ⟨-1, by omega, by omega, rfl, Q9.out, R9.out, B9.out⟩
      case round =>
        obtain ⟨z, zlo, zhi, rfl, qi, ri, bi⟩ := hrel
        have QI := hide qi
        have RI := hide ri
        have BI := hide bi
        have lq := Blk.lt qi
        have lr := Blk.lt ri
        have sbi := bi.size
        clear qi ri bi
        by_cases hz9 : z < 9
        · by_cases hz0' : z < 0
          · have C0 := Num_out (⟨4, 64 + (fm : Int), 0, 0, N, y0, y1, y2, y3, y4, y5, y6, y7⟩ : Esc.A) z 0 wr (by first | exact .inl hz0' | exact .inr (by show N ≤ z; omega)) hN0 hN8
            have C3 := fun wx => Num_out (⟨4, 64 + (fm : Int), 0, 0, N, y0, y1, y2, y3, y4, y5, y6, y7⟩ : Esc.A) z 3 wx (by first | exact .inl hz0' | exact .inr (by show N ≤ z; omega)) hN0 hN8
            unfold aval acts at C0 C3
            dsimp only at C0 C3
            have H0 := hide C0
            have H3 := hide C3
            clear C0 C3
            obtain ⟨d0, d1, d2, d3, d4, d5, d6, d7, d8, d9, d10, d11, d12⟩ := act_blk (a := (⟨4, 64 + (fm : Int), 0, 0, N, y0, y1, y2, y3, y4, y5, y6, y7⟩ : Esc.A)) RI.out
            dsimp only at d0 d1 d2 d3 d4 d5 d6 d7 d8 d9 d10 d11 d12
            go_wp2_with fail
            refine H0.out.mono ?_
            rintro e wA ⟨rfl, bA⟩
            have RA := hide (Blk.below RI.out bA lr)
            have QA := hide (Blk.below QI.out bA lq)
            have BA := hide (BI.out.trans (bA.mono sbi))
            have sA := bA.size
            clear d0 d1 d2 d3 d4 d5 d6 d7 d8 d9 d10 d11 d12 bA
            obtain ⟨d0, d1, d2, d3, d4, d5, d6, d7, d8, d9, d10, d11, d12⟩ := act_blk (a := (⟨4, 64 + (fm : Int), 0, 0, N, y0, y1, y2, y3, y4, y5, y6, y7⟩ : Esc.A)) RA.out
            dsimp only at d0 d1 d2 d3 d4 d5 d6 d7 d8 d9 d10 d11 d12
            dsimp only
            go_wp2_with fail
            refine (H3.out _).mono ?_
            rintro e wB ⟨rfl, bB⟩
            have RB := hide (Blk.below RA.out bB (by omega))
            have QB := hide (Blk.below QA.out bB (by omega))
            have BB := hide (BA.out.trans (bB.mono (by omega)))
            clear d0 d1 d2 d3 d4 d5 d6 d7 d8 d9 d10 d11 d12 bB
            dsimp only
            go_wp2
            go_roundw
            case rel => exact ⟨z + 1, by omega, by omega, rfl, QB.out, RB.out, BB.out⟩
            case measure => simp [intOf]; omega
          · by_cases hzN : z < N
            · obtain ⟨m, rfl⟩ : ∃ m : Nat, z = (m : Int) := ⟨z.toNat, by omega⟩
              obtain ⟨y, hyn, hyW, hyA⟩ := HW.out m (by omega)
              have dm : wr.cell? ⟨w1.heap.size, m, none⟩ = some (.int .i64 y) := (Blk.cell QI.out m).trans hyW
              clear hyW
              by_cases hy3 : y ≤ 3
              · have C0 := Num_in (⟨4, 64 + (fm : Int), 0, 0, N, y0, y1, y2, y3, y4, y5, y6, y7⟩ : Esc.A) m y 0 wr (by omega) hyA (by show (m : Int) < N; omega) hN8
                have C3 := fun wx => Num_in (⟨4, 64 + (fm : Int), 0, 0, N, y0, y1, y2, y3, y4, y5, y6, y7⟩ : Esc.A) m y 3 wx (by omega) hyA (by show (m : Int) < N; omega) hN8
                have e0 : max y 0 = y := by omega
                have e3 : max y 3 = 3 := by omega
                rw [e0] at C0
                rw [e3] at C3
                clear e0 e3 hyA
                unfold aval acts at C0 C3
                dsimp only at C0 C3
                have H0 := hide C0
                have H3 := hide C3
                clear C0 C3
                obtain ⟨d0, d1, d2, d3, d4, d5, d6, d7, d8, d9, d10, d11, d12⟩ := act_blk (a := (⟨4, 64 + (fm : Int), 0, 0, N, y0, y1, y2, y3, y4, y5, y6, y7⟩ : Esc.A)) RI.out
                dsimp only at d0 d1 d2 d3 d4 d5 d6 d7 d8 d9 d10 d11 d12
                go_wp2_with fail
                refine H0.out.mono ?_
                rintro e wA ⟨rfl, bA⟩
                have RA := hide (Blk.below RI.out bA lr)
                have QA := hide (Blk.below QI.out bA lq)
                have BA := hide (BI.out.trans (bA.mono sbi))
                have sA := bA.size
                clear d0 d1 d2 d3 d4 d5 d6 d7 d8 d9 d10 d11 d12 bA
                obtain ⟨d0, d1, d2, d3, d4, d5, d6, d7, d8, d9, d10, d11, d12⟩ := act_blk (a := (⟨4, 64 + (fm : Int), 0, 0, N, y0, y1, y2, y3, y4, y5, y6, y7⟩ : Esc.A)) RA.out
                dsimp only at d0 d1 d2 d3 d4 d5 d6 d7 d8 d9 d10 d11 d12
                dsimp only
                go_wp2_with fail
                refine (H3.out _).mono ?_
                rintro e wB ⟨rfl, bB⟩
                have RB := hide (Blk.below RA.out bB (by omega))
                have QB := hide (Blk.below QA.out bB (by omega))
                have BB := hide (BA.out.trans (bB.mono (by omega)))
                clear d0 d1 d2 d3 d4 d5 d6 d7 d8 d9 d10 d11 d12 bB
                dsimp only
                go_wp2
                go_roundw
                case rel => exact ⟨(m : Int) + 1, by omega, by omega, rfl, QB.out, RB.out, BB.out⟩
                case measure => simp [intOf]; omega
              · have C0 := Num_in (⟨4, 64 + (fm : Int), 0, 0, N, y0, y1, y2, y3, y4, y5, y6, y7⟩ : Esc.A) m y 0 wr (by omega) hyA (by show (m : Int) < N; omega) hN8
                have C3 := fun wx => Num_in (⟨4, 64 + (fm : Int), 0, 0, N, y0, y1, y2, y3, y4, y5, y6, y7⟩ : Esc.A) m y 3 wx (by omega) hyA (by show (m : Int) < N; omega) hN8
                have e0 : max y 0 = y := by omega
                have e3 : max y 3 = y := by omega
                rw [e0] at C0
                rw [e3] at C3
                clear e0 e3 hyA
                unfold aval acts at C0 C3
                dsimp only at C0 C3
                have H0 := hide C0
                have H3 := hide C3
                clear C0 C3
                obtain ⟨d0, d1, d2, d3, d4, d5, d6, d7, d8, d9, d10, d11, d12⟩ := act_blk (a := (⟨4, 64 + (fm : Int), 0, 0, N, y0, y1, y2, y3, y4, y5, y6, y7⟩ : Esc.A)) RI.out
                dsimp only at d0 d1 d2 d3 d4 d5 d6 d7 d8 d9 d10 d11 d12
                go_wp2_with fail
                refine H0.out.mono ?_
                rintro e wA ⟨rfl, bA⟩
                have RA := hide (Blk.below RI.out bA lr)
                have QA := hide (Blk.below QI.out bA lq)
                have BA := hide (BI.out.trans (bA.mono sbi))
                have sA := bA.size
                clear d0 d1 d2 d3 d4 d5 d6 d7 d8 d9 d10 d11 d12 bA
                obtain ⟨d0, d1, d2, d3, d4, d5, d6, d7, d8, d9, d10, d11, d12⟩ := act_blk (a := (⟨4, 64 + (fm : Int), 0, 0, N, y0, y1, y2, y3, y4, y5, y6, y7⟩ : Esc.A)) RA.out
                dsimp only at d0 d1 d2 d3 d4 d5 d6 d7 d8 d9 d10 d11 d12
                dsimp only
                go_wp2_with fail
                refine (H3.out _).mono ?_
                rintro e wB ⟨rfl, bB⟩
                have RB := hide (Blk.below RA.out bB (by omega))
                have QB := hide (Blk.below QA.out bB (by omega))
                have BB := hide (BA.out.trans (bB.mono (by omega)))
                clear d0 d1 d2 d3 d4 d5 d6 d7 d8 d9 d10 d11 d12 bB
                dsimp only
                go_wp2
                go_roundw
                case rel => exact ⟨(m : Int) + 1, by omega, by omega, rfl, QB.out, RB.out, BB.out⟩
                case measure => simp [intOf]; omega
            · have C0 := Num_out (⟨4, 64 + (fm : Int), 0, 0, N, y0, y1, y2, y3, y4, y5, y6, y7⟩ : Esc.A) z 0 wr (by first | exact .inl hz0' | exact .inr (by show N ≤ z; omega)) hN0 hN8
              have C3 := fun wx => Num_out (⟨4, 64 + (fm : Int), 0, 0, N, y0, y1, y2, y3, y4, y5, y6, y7⟩ : Esc.A) z 3 wx (by first | exact .inl hz0' | exact .inr (by show N ≤ z; omega)) hN0 hN8
              unfold aval acts at C0 C3
              dsimp only at C0 C3
              have H0 := hide C0
              have H3 := hide C3
              clear C0 C3
              obtain ⟨d0, d1, d2, d3, d4, d5, d6, d7, d8, d9, d10, d11, d12⟩ := act_blk (a := (⟨4, 64 + (fm : Int), 0, 0, N, y0, y1, y2, y3, y4, y5, y6, y7⟩ : Esc.A)) RI.out
              dsimp only at d0 d1 d2 d3 d4 d5 d6 d7 d8 d9 d10 d11 d12
              go_wp2_with fail
              refine H0.out.mono ?_
              rintro e wA ⟨rfl, bA⟩
              have RA := hide (Blk.below RI.out bA lr)
              have QA := hide (Blk.below QI.out bA lq)
              have BA := hide (BI.out.trans (bA.mono sbi))
              have sA := bA.size
              clear d0 d1 d2 d3 d4 d5 d6 d7 d8 d9 d10 d11 d12 bA
              obtain ⟨d0, d1, d2, d3, d4, d5, d6, d7, d8, d9, d10, d11, d12⟩ := act_blk (a := (⟨4, 64 + (fm : Int), 0, 0, N, y0, y1, y2, y3, y4, y5, y6, y7⟩ : Esc.A)) RA.out
              dsimp only at d0 d1 d2 d3 d4 d5 d6 d7 d8 d9 d10 d11 d12
              dsimp only
              go_wp2_with fail
              refine (H3.out _).mono ?_
              rintro e wB ⟨rfl, bB⟩
              have RB := hide (Blk.below RA.out bB (by omega))
              have QB := hide (Blk.below QA.out bB (by omega))
              have BB := hide (BA.out.trans (bB.mono (by omega)))
              clear d0 d1 d2 d3 d4 d5 d6 d7 d8 d9 d10 d11 d12 bB
              dsimp only
              go_wp2
              go_roundw
              case rel => exact ⟨z + 1, by omega, by omega, rfl, QB.out, RB.out, BB.out⟩
              case measure => simp [intOf]; omega
        · have hbf := BI.out
          go_wp2
          go_ret
          exact ⟨rfl, hbf⟩
end Go.Proofs.Ytjjedmmenlfedaa
