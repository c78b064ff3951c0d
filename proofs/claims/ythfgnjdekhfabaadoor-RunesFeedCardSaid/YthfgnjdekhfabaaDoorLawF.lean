/- The law RunesFeed: a decoder goes on, piece by piece, as the document's does. -/
import Derived.Test.YthfgnjdekhfabaaDoorWalkO
namespace Go.Proofs.YthfgnjdekhfabaaDoor
open Go.RowKit Ru
set_option maxRecDepth 100000

/-- A slice value that reads as texts, wherever they lie. -/
def SrcS (w : World) (B : Nat) (v : Value) (l : List ByteArray) : Prop :=
  ∃ A c, v = .slice A l.length c ∧ (0 < l.length → ∃ g off, A = some ⟨g, off, none⟩ ∧ g < B ∧ ∀ j (h : j < l.length), w.cell? ⟨g, off + j, none⟩ = some (.string l[j]))

theorem srcS_of {w : World} {a : Option Addr} {len cap : Nat} {zs : List ByteArray} (h : (a = none ∧ len = 0 ∧ cap = 0 ∧ zs = []) ∨
    ∃ x, a = some x ∧ len ≤ cap ∧ cap ≤ maxLen ∧ zs.length = cap ∧ (∀ i, i < zs.length → w.cell? (x.add i) = some (.string (zs.getD i ByteArray.empty)))) :
    ∃ l, l.length = len ∧ l.length ≤ maxLen ∧ SrcS w w.heap.size (.slice a l.length cap) l := by
  rcases h with ⟨rfl, rfl, rfl, rfl⟩ | ⟨x, rfl, hl, hm, hz, hc⟩
  · exact ⟨[], rfl, Nat.zero_le _, ⟨none, 0, rfl, fun h => absurd h (by simp)⟩⟩
  · have ht : (zs.take len).length = len := by rw [List.length_take]; omega
    refine ⟨zs.take len, ht, by omega, ⟨some x, cap, rfl, fun h0 => ?_⟩⟩
    rw [ht] at h0
    obtain ⟨g, off, spot⟩ := x
    have h1 := hc 0 (by omega)
    have hspot : spot = none := by simpa [Addr.add] using World.cell?_spot h1
    subst hspot
    have hcell : ∀ j, j < len → w.cell? ⟨g, off + j, none⟩ = some (.string (zs.getD j ByteArray.empty)) := by
      intro j hj
      have h2 := hc j (by omega)
      rw [Addr.add_lit] at h2
      exact h2
    have hg : g < w.heap.size := by
      rcases Nat.lt_or_ge g w.heap.size with hlt | hge
      · exact hlt
      · have h2 := hcell 0 (by omega)
        unfold World.cell? at h2
        dsimp only at h2
        rw [Array.getElem?_eq_none hge] at h2
        cases h2
    refine ⟨g, off, rfl, hg, fun j hj => ?_⟩
    rw [hcell j (by omega), List.getElem_take, List.getD_eq_getElem?_getD, List.getElem?_eq_getElem (by omega)]
    rfl

/-- The loop's relation: both decoders keep the same bytes. -/
structure LAt (w : World) (d : Nat) (a b c : UInt8) (n : Nat) (wr : World) : Prop where
  ds : Ds wr d a b c n
  rd : Rd wr (d + 1) ⟨(keptL a b c n).toArray⟩
  n3 : n ≤ 3
  bel : Below w.heap.size w wr

set_option maxHeartbeats 3200000 in
theorem law_F (A : Option Addr) (cap : Nat) (ss : List ByteArray) (fl : Int) (w : World) (hT : Lib.Utf8Tabs 0 1 w) (hs : SrcS w w.heap.size (.slice A ss.length cap) ss) (hm : ss.length ≤ maxLen) :
    Calls Tryd.prog 3 #[.slice A ss.length cap, .int .u32 fl] w fun e w' => e = .returned (.bool true) ∧ Below w.heap.size w w' := by
  unfold maxLen at hm
  obtain ⟨A', cap', he, hcell⟩ := hs
  injection he with e1 _ e3
  subst e1
  subst e3
  have HTA := hide hT
  have HC := hide hcell
  clear hT hcell
  go_enter Tryd.func3, Tryd.ntmps3
  go_wp2_with fail
  refine (awake_any _ HTA.out).mono ?_
  rintro e w1 ⟨rfl, b1⟩
  have hl0 : LAt w w1.heap.size 0 0 0 0 ((w1.alloc (.cells #[.int .u8 0, .int .u8 0, .int .u8 0, .int .i64 0] 28)).alloc (.cells #[.string ⟨#[]⟩] 31)) := by
    refine ⟨Blk.alloc (Blk.new w1 _ _) _, ?_, by omega, (b1.alloc b1.size _).alloc (by simp; have := b1.size; omega) _⟩
    have := Blk.new (w1.alloc (.cells #[.int .u8 0, .int .u8 0, .int .u8 0, .int .i64 0] 28)) 31 #[.string ⟨#[]⟩]
    have h2 : Blk ((w1.alloc (.cells #[.int .u8 0, .int .u8 0, .int .u8 0, .int .i64 0] 28)).alloc (.cells #[.string ⟨#[]⟩] 31)) (w1.heap.size + 1) 31 #[.string ⟨#[]⟩] := by simpa using this
    exact h2
  have HL0 := hide hl0
  have hup := b1.size
  clear hl0 b1
  dsimp only
  go_wp2_with fail
  go_loopw [8] (fun i wr => ∃ (k : Nat) (a b c : UInt8) (n : Nat), k ≤ ss.length ∧ k ≤ 20 ∧ i = .int .i64 k ∧ LAt w w1.heap.size a b c n wr) (fun i _ => ss.length - (intOf i).toNat)
  case atStart => exact ⟨0, 0, 0, 0, 0, Nat.zero_le _, by omega, rfl, HL0.out⟩
  case round =>
    obtain ⟨k, a, b, c, n, hk, hk20, rfl, hat⟩ := hrel
    by_cases hkl : k < ss.length
    · by_cases hk2 : k < 20
      · obtain ⟨g, off, rfl, hg, hcc⟩ := HC.out (by omega)
        have d0 : wr.cell? ⟨g, off + k, none⟩ = some (.string ss[k]) := (hat.bel.cell (p := ⟨g, off + k, none⟩) hg).trans (hcc k hkl)
        clear hcc
        generalize ss[k] = s0 at d0
        have hsz := sh_size s0 8
        have HSH := hide (fun wx => short_any s0 8 wx)
        obtain ⟨S, hS⟩ : ∃ S, sh s0 8 = S := ⟨_, rfl⟩
        rw [hS] at hsz HSH
        clear hS
        have HF := hide (Feed_any w1.heap.size a b c n S wr hat.ds hat.n3 (by omega) (Utf8Tabs_below HTA.out hat.bel))
        have hKs : (⟨(keptL a b c n).toArray⟩ : ByteArray).size ≤ 3 := by
          show (keptL a b c n).toArray.size ≤ 3
          have := hat.n3
          unfold keptL
          simp
          omega
        obtain ⟨K, hK⟩ : ∃ K : ByteArray, (⟨(keptL a b c n).toArray⟩ : ByteArray) = K := ⟨_, rfl⟩
        have hrd := hat.rd
        rw [hK] at HF hKs hrd
        have hl3 : (allF (K ++ S).size (K ++ S)).2.size ≤ 3 := allF_left _ _ (Nat.le_refl _)
        have hlen : (allF (K ++ S).size (K ++ S)).1.length ≤ 900 := Nat.le_trans (allF_len _ _) (by rw [ByteArray.size_append]; omega)
        have HRF := hide (fun wx hx => RFeed_any (w1.heap.size + 1) K S wx hx (by omega) (by omega))
        obtain ⟨t, ht⟩ : ∃ t, allF (K ++ S).size (K ++ S) = t := ⟨_, rfl⟩
        rw [ht] at HF HRF hl3 hlen
        have HRD := hide hrd
        have HDS := hide hat.ds
        have HBE := hide hat.bel
        clear ht hrd hat hK
        go_wp2_with fail
        refine (HSH.out _).mono ?_
        rintro e w2 ⟨rfl, rfl⟩
        dsimp only
        go_wp2_with fail
        refine HF.out.mono ?_
        rintro e w2 ⟨v2, a2, b2, c2, rfl, o2, ds2, kp2, g2⟩
        have hEK : (⟨(keptL a2 b2 c2 t.2.size).toArray⟩ : ByteArray) = t.2 := by apply ByteArray.ext; rw [kp2]
        have HEK := hide hEK
        have hrd2 : Rd w2 (w1.heap.size + 1) K := Blk.grown (show Blk wr _ _ _ from HRD.out) g2 (by intro e; injection e with e; omega)
        have hbe2 : Below w.heap.size w w2 := HBE.out.grown g2 HBE.out.size (fun x hx => by injection hx with hx; omega)
        have HRF2 := hide (HRF.out w2 hrd2)
        have HRD2 := hide hrd2
        have HO2 := hide o2
        have HD2 := hide ds2
        have HB2 := hide hbe2
        clear hEK kp2 o2 ds2 g2 hrd2 hbe2 HRF HF HRD HDS
        dsimp only
        go_wp2_with fail
        refine HRF2.out.mono ?_
        rintro e w3 ⟨v3, rfl, o3, rd3, g3⟩
        have hds3 : Ds w3 w1.heap.size a2 b2 c2 t.2.size := Blk.grown (show Blk w2 _ _ _ from HD2.out) g3 (by intro e; injection e with e; omega)
        have hbe3 : Below w.heap.size w w3 := HB2.out.grown g3 HB2.out.size (fun x hx => by injection hx with hx; omega)
        have o23 := HO2.out.kept g3 (.inr (own_blk_ne HO2.out (show Blk w2 _ _ _ from HRD2.out) (by decide)))
        have HSM := hide (Same_any v2 v3 t.1 w3 (Row.of_own o23) (Row.of_own o3) (by omega))
        have HD3 := hide hds3
        have HR3 := hide rd3
        have HB3 := hide hbe3
        have z3 : w1.heap.size + 1 < w3.heap.size := Blk.lt (show Blk w3 _ _ _ from rd3)
        clear o23 o3 hds3 rd3 hbe3 g3 HRF2 HO2 HD2 HRD2
        dsimp only
        go_wp2_with fail
        refine HSM.out.mono ?_
        rintro e w4 ⟨rfl, b4⟩
        have ds4 : Ds w4 w1.heap.size a2 b2 c2 t.2.size := Blk.below (show Blk w3 _ _ _ from HD3.out) b4 (by omega)
        have rd4 : Rd w4 (w1.heap.size + 1) t.2 := Blk.below (show Blk w3 _ _ _ from HR3.out) b4 z3
        have cs4 : w4.cell? ⟨w1.heap.size + 1, 0, none⟩ = some (.string t.2) := Blk.cell rd4 0
        have HP4 := hide (fun m => Pending_any w1.heap.size a2 b2 c2 t.2.size (w4.drewN m) (Blk.drewN (show Blk w4 _ _ _ from ds4) m))
        have HD4 := hide ds4
        have HR4 := hide rd4
        have HB4 := hide (HB3.out.trans (b4.mono HB3.out.size))
        clear ds4 rd4 b4 HD3 HR3 HSM
        dsimp only
        go_wp2_with fail
        go_quiet ((go_at_call 14; exact quiet_left (HP4.out _)))
        go_wp2_with fail
        · refine (Flush_any w1.heap.size a2 b2 c2 t.2.size _ (Blk.drewN (show Blk w4 _ _ _ from HD4.out) nq)).mono ?_
          rintro e w5 ⟨v5, rfl, o5, ds5, g5⟩
          have rd5 : Rd w5 (w1.heap.size + 1) t.2 := Blk.grown (Blk.drewN (show Blk w4 _ _ _ from HR4.out) nq) g5 (by intro e; injection e with e; omega)
          have be5 : Below w.heap.size w w5 := (below_drewN HB4.out nq).grown g5 HB4.out.size (fun x hx => by injection hx with hx; omega)
          have cs5 : w5.cell? ⟨w1.heap.size + 1, 0, none⟩ = some (.string t.2) := Blk.cell rd5 0
          have fs5 := Blk.frozen rd5 0
          have HP5 := hide (fun m => Pending_any w1.heap.size a2 b2 c2 0 (w5.drewN m) (Blk.drewN (show Blk w5 _ _ _ from ds5) m))
          have hnx : ∀ m, LAt w w1.heap.size a2 b2 c2 0 ((w5.drewN m).setCell ⟨w1.heap.size + 1, 0, none⟩ (.string ⟨#[]⟩)) := fun m =>
            ⟨Blk.far (Blk.drewN (show Blk w5 _ _ _ from ds5) m) (by simp) _, Blk.set_ (Blk.drewN (show Blk w5 _ _ _ from rd5) m) 0 _, by omega, (below_drewN be5 m).setCell (p := ⟨w1.heap.size + 1, 0, none⟩) (by show w.heap.size ≤ w1.heap.size + 1; omega) _⟩
          have HNX := hide hnx
          by_cases h0 : t.2.size = 0
          · rw [if_pos h0, if_pos h0] at o5
            obtain ⟨a5, c5, rfl⟩ := own_form o5
            have e0 := empty_of t.2 h0
            rw [e0] at cs5
            clear o5 ds5 g5 rd5 be5 hnx e0
            dsimp only
            go_wp2_with fail
            go_quiet ((go_at_call 14; exact quiet_left (HP5.out _)))
            go_wp2_with fail
            go_roundw
            case rel => exact ⟨k + 1, a2, b2, c2, 0, by omega, by omega, by go_num, HNX.out _⟩
            case measure => simp [intOf]; omega
          · rw [if_neg h0, if_neg h0] at o5
            obtain ⟨a5, c5, rfl⟩ := own_form o5
            obtain ⟨g5', cap5, hv5, hg5, hlt5⟩ := o5.form (by omega)
            injection hv5 with hv5 _ _
            subst hv5
            have c50 : w5.cell? ⟨g5', 0, none⟩ = some (.int .i32 65533) := by
              have := o5.cellAt (g := g5') 0 (by omega)
              simpa using this
            have hne := nonempty_of t.2 (by omega)
            clear o5 ds5 g5 rd5 be5 hnx
            dsimp only
            go_wp2_with fail
            go_quiet ((go_at_call 14; exact quiet_left (HP5.out _)))
            go_wp2_with fail
            go_roundw
            case rel => exact ⟨k + 1, a2, b2, c2, 0, by omega, by omega, by go_num, HNX.out _⟩
            case measure => simp [intOf]; omega
        · have hnx : LAt w w1.heap.size a2 b2 c2 t.2.size (w4.drewN nq) := ⟨Blk.drewN (show Blk w4 _ _ _ from HD4.out) nq, by rw [HEK.out]; exact Blk.drewN (show Blk w4 _ _ _ from HR4.out) nq, hl3, below_drewN HB4.out nq⟩
          go_roundw
          case rel => exact ⟨k + 1, a2, b2, c2, t.2.size, by omega, by omega, by go_num, hnx⟩
          case measure => simp [intOf]; omega
      · have HB := hide hat.bel
        clear hat
        go_wp2
        go_ret
        exact ⟨rfl, HB.out⟩
    · have HB := hide hat.bel
      clear hat
      go_wp2
      go_ret
      exact ⟨rfl, HB.out⟩
end Go.Proofs.YthfgnjdekhfabaaDoor
