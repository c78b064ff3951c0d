/- The walk of the document's Bytes, of a key that is no text: each byte is tried. (Printed by gen_rb.py.) -/
import Derived.Test.YtgjbieafjagchaaDoorWalkRB
namespace Go.Proofs.YtgjbieafjagchaaDoor
open Go.RowKit
set_option maxRecDepth 100000

/-- The loop's relation: no byte below told the key. -/
structure TAt (w : World) (kind n : Int) (S : ByteArray) (k : Nat) (wr : World) : Prop where
  box : Blk wr w.heap.size 23 #[.int .i64 kind, .int .i64 n, .string S]
  bel : Below w.heap.size w wr
  none_ : ∀ j : Nat, j < k → hitA j kind n = false ∧ hitB j kind n = false

theorem TAt.next {w wr w' : World} {kind n : Int} {S : ByteArray} {k : Nat} (h : TAt w kind n S k wr) (hb : Below wr.heap.size wr w') (h1 : hitA k kind n = false) (h2 : hitB k kind n = false) : TAt w kind n S (k + 1) w' :=
  ⟨Blk.below h.box hb (Blk.lt h.box), h.bel.trans (hb.mono h.bel.size), fun j hj => by
    by_cases e : j = k
    · subst e; exact ⟨h1, h2⟩
    · exact h.none_ j (by omega)⟩

theorem toU8 (k : Nat) (h : k < 256) : ((k.toUInt8).toNat : Int) = (k : Int) := by
  simp
  omega

set_option maxHeartbeats 6400000 in
theorem RBytes_key (kind n : Int) (S : ByteArray) (hk1 : kind ≠ 1) (w : World) :
    Calls Tryd.prog 7 #[.agg #[.int .i64 kind, .int .i64 n, .string S]] w (Byt w (kb kind n)) := by
  have hk1' : (kind == 1) = false := by rw [beq_eq_false_iff_ne]; exact hk1
  have HST := hide (show TAt w kind n S 0 (w.alloc (.cells #[.int .i64 kind, .int .i64 n, .string S] 23)) from ⟨Blk.new w _ _, (Below.refl _ _).alloc (Nat.le_refl _) _, fun j hj => absurd hj (by omega)⟩)
  have HCMD := hide (fun b hb wx => commandR_any b hb wx)
  have HCOP := hide (fun b hb wx => copiedR_any b hb wx)
  obtain ⟨L, hL⟩ : ∃ L, kb kind n = L := ⟨_, rfl⟩
  rw [hL]
  have HKA := hide (fun b hb h => (kb_cmd b hb kind n h).symm.trans hL)
  have HKB := hide (fun b hb h => (kb_cop b hb kind n h).symm.trans hL)
  have HKN := hide (fun h => (kb_none kind n h).symm.trans hL)
  clear hL
  go_enter Tryd.func7, Tryd.ntmps7
  go_wp2_with fail
  go_loopw [5] (fun i wr => ∃ k : Nat, k ≤ 256 ∧ i = .int .i64 k ∧ TAt w kind n S k wr) (fun i _ => 256 - (intOf i).toNat)
  case atStart => exact ⟨0, by omega, rfl, HST.out⟩
  case round =>
    obtain ⟨k, hk, rfl, hat⟩ := hrel
    by_cases hlt : k < 256
    · have hlt' : (k : Int) < 256 := by omega
      have HAT := hide hat
      have hup := hat.bel.size
      have hlw : w.heap.size < wr.heap.size := Blk.lt hat.box
      clear hat
      go_wp2_with fail
      refine (HCMD.out k hlt wr).mono ?_
      rintro e w2 ⟨s2, rfl, b2⟩
      have hbx2 := Blk.below HAT.out.box b2 hlw
      have c0 : w2.cell? ⟨w.heap.size, 0, none⟩ = some (.int .i64 kind) := Blk.cell hbx2 0
      have c1 : w2.cell? ⟨w.heap.size, 1, none⟩ = some (.int .i64 n) := Blk.cell hbx2 1
      have z2 : w.heap.size < w2.heap.size := Blk.lt hbx2
      have HB2 := hide b2
      have HX2 := hide hbx2
      have hhA : hitA k kind n = ((rcmd k).1 != 1 && (rcmd k).1 != 0 && (rcmd k).1 == kind && (rcmd k).2 == n) := rfl
      have hcvA := conv_bytes [2, k.toUInt8] (w2.heap.size + 1) (w2.alloc (.cells #[.int .i64 (rcmd k).1, .int .i64 (rcmd k).2, .string s2] 23)) (by simp) 2 rfl #[.int .u8 2, .int .u8 k] (by rw [← toU8 k hlt]; rfl)
      clear b2 hbx2
      generalize rcmd (k : Int) = qA at hhA hcvA ⊢
      obtain ⟨x, y⟩ := qA
      dsimp only at hhA hcvA ⊢
      by_cases hx1 : x = 1
      · subst hx1
        have hA : hitA k kind n = false := hhA
        clear hhA hcvA
        go_wp2_with fail
        refine (HCOP.out k hlt _).mono ?_
        rintro e w3 ⟨s3, rfl, b3⟩
        have hbx3 := Blk.below (Blk.alloc HX2.out _) b3 (by simp; omega)
        have d0 : w3.cell? ⟨w.heap.size, 0, none⟩ = some (.int .i64 kind) := Blk.cell hbx3 0
        have d1 : w3.cell? ⟨w.heap.size, 1, none⟩ = some (.int .i64 n) := Blk.cell hbx3 1
        have z3 : w.heap.size < w3.heap.size := Blk.lt hbx3
        have hb3 : Below wr.heap.size wr w3 := ((HB2.out.alloc HB2.out.size _).trans (b3.mono (by have := HB2.out.size; simp; omega)))
        have HB3 := hide hb3
        have hup3 := hb3.size
        have hhB : hitB k kind n = ((rcop k).1 != 0 && (rcop k).1 == kind && (rcop k).2 == n) := rfl
        have hcvB := conv_bytes [k.toUInt8] (w3.heap.size + 1) (w3.alloc (.cells #[.int .i64 (rcop k).1, .int .i64 (rcop k).2, .string s3] 23)) (by simp) 1 rfl #[.int .u8 k] (by rw [← toU8 k hlt]; rfl)
        clear b3 hbx3 hb3
        generalize rcop (k : Int) = qB at hhB hcvB ⊢
        obtain ⟨u, v⟩ := qB
        dsimp only at hhB hcvB ⊢
        by_cases hu0 : u = 0
        · subst hu0
          have hB : hitB k kind n = false := hhB
          have HN := hide (TAt.next HAT.out (HB3.out.alloc hup3 (.cells #[.int .i64 0, .int .i64 v, .string s3] 23)) hA hB)
          clear hhB hcvB hA hB
          go_wp2
          go_roundw
          case rel => exact ⟨k + 1, by omega, by go_num, HN.out⟩
          case measure => simp [intOf]; omega
        · have hu0' : (u != 0) = true := by rw [bne_iff_ne]; exact hu0
          cases huk : (u == kind) with
          | false =>
            have hB : hitB k kind n = false := by rw [hhB, huk]; simp
            have HN := hide (TAt.next HAT.out (HB3.out.alloc hup3 (.cells #[.int .i64 u, .int .i64 v, .string s3] 23)) hA hB)
            clear hhB hcvB hA hB hu0
            go_wp2
            go_roundw
            case rel => exact ⟨k + 1, by omega, by go_num, HN.out⟩
            case measure => simp [intOf]; omega
          | true =>
            cases hvn : (v == n) with
            | false =>
              have hB : hitB k kind n = false := by rw [hhB, hvn]; simp
              have HN := hide (TAt.next HAT.out (HB3.out.alloc hup3 (.cells #[.int .i64 u, .int .i64 v, .string s3] 23)) hA hB)
              clear hhB hcvB hA hB hu0
              go_wp2
              go_roundw
              case rel => exact ⟨k + 1, by omega, by go_num, HN.out⟩
              case measure => simp [intOf]; omega
            | true =>
              have hB : hitB k kind n = true := by rw [hhB, hu0', huk, hvn]; rfl
              have hLk := HKB.out k hlt hB
              subst hLk
              have HBF := hide (((HAT.out.bel.trans (HB3.out.mono hup)).alloc (by omega) (.cells #[.int .i64 u, .int .i64 v, .string s3] 23)).alloc (by simp; omega) (.cells #[.int .u8 k] 5))
              clear hhB hu0 hA hB HKA HKB HKN
              go_wp2
              go_ret
              exact ⟨rfl, HBF.out⟩
      · have hx1' : (x != 1) = true := by rw [bne_iff_ne]; exact hx1
        by_cases hx0 : x = 0
        · subst hx0
          have hA : hitA k kind n = false := by rw [hhA]; rfl
          clear hhA hcvA hx1
          go_wp2_with fail
          refine (HCOP.out k hlt _).mono ?_
          rintro e w3 ⟨s3, rfl, b3⟩
          have hbx3 := Blk.below (Blk.alloc HX2.out _) b3 (by simp; omega)
          have d0 : w3.cell? ⟨w.heap.size, 0, none⟩ = some (.int .i64 kind) := Blk.cell hbx3 0
          have d1 : w3.cell? ⟨w.heap.size, 1, none⟩ = some (.int .i64 n) := Blk.cell hbx3 1
          have z3 : w.heap.size < w3.heap.size := Blk.lt hbx3
          have hb3 : Below wr.heap.size wr w3 := ((HB2.out.alloc HB2.out.size _).trans (b3.mono (by have := HB2.out.size; simp; omega)))
          have HB3 := hide hb3
          have hup3 := hb3.size
          have hhB : hitB k kind n = ((rcop k).1 != 0 && (rcop k).1 == kind && (rcop k).2 == n) := rfl
          have hcvB := conv_bytes [k.toUInt8] (w3.heap.size + 1) (w3.alloc (.cells #[.int .i64 (rcop k).1, .int .i64 (rcop k).2, .string s3] 23)) (by simp) 1 rfl #[.int .u8 k] (by rw [← toU8 k hlt]; rfl)
          clear b3 hbx3 hb3
          generalize rcop (k : Int) = qB at hhB hcvB ⊢
          obtain ⟨u, v⟩ := qB
          dsimp only at hhB hcvB ⊢
          by_cases hu0 : u = 0
          · subst hu0
            have hB : hitB k kind n = false := hhB
            have HN := hide (TAt.next HAT.out (HB3.out.alloc hup3 (.cells #[.int .i64 0, .int .i64 v, .string s3] 23)) hA hB)
            clear hhB hcvB hA hB
            go_wp2
            go_roundw
            case rel => exact ⟨k + 1, by omega, by go_num, HN.out⟩
            case measure => simp [intOf]; omega
          · have hu0' : (u != 0) = true := by rw [bne_iff_ne]; exact hu0
            cases huk : (u == kind) with
            | false =>
              have hB : hitB k kind n = false := by rw [hhB, huk]; simp
              have HN := hide (TAt.next HAT.out (HB3.out.alloc hup3 (.cells #[.int .i64 u, .int .i64 v, .string s3] 23)) hA hB)
              clear hhB hcvB hA hB hu0
              go_wp2
              go_roundw
              case rel => exact ⟨k + 1, by omega, by go_num, HN.out⟩
              case measure => simp [intOf]; omega
            | true =>
              cases hvn : (v == n) with
              | false =>
                have hB : hitB k kind n = false := by rw [hhB, hvn]; simp
                have HN := hide (TAt.next HAT.out (HB3.out.alloc hup3 (.cells #[.int .i64 u, .int .i64 v, .string s3] 23)) hA hB)
                clear hhB hcvB hA hB hu0
                go_wp2
                go_roundw
                case rel => exact ⟨k + 1, by omega, by go_num, HN.out⟩
                case measure => simp [intOf]; omega
              | true =>
                have hB : hitB k kind n = true := by rw [hhB, hu0', huk, hvn]; rfl
                have hLk := HKB.out k hlt hB
                subst hLk
                have HBF := hide (((HAT.out.bel.trans (HB3.out.mono hup)).alloc (by omega) (.cells #[.int .i64 u, .int .i64 v, .string s3] 23)).alloc (by simp; omega) (.cells #[.int .u8 k] 5))
                clear hhB hu0 hA hB HKA HKB HKN
                go_wp2
                go_ret
                exact ⟨rfl, HBF.out⟩
        · have hx0' : (x != 0) = true := by rw [bne_iff_ne]; exact hx0
          cases hxk : (x == kind) with
          | false =>
            have hA : hitA k kind n = false := by rw [hhA, hxk]; simp
            clear hhA hcvA hx1 hx0
            go_wp2_with fail
            refine (HCOP.out k hlt _).mono ?_
            rintro e w3 ⟨s3, rfl, b3⟩
            have hbx3 := Blk.below (Blk.alloc HX2.out _) b3 (by simp; omega)
            have d0 : w3.cell? ⟨w.heap.size, 0, none⟩ = some (.int .i64 kind) := Blk.cell hbx3 0
            have d1 : w3.cell? ⟨w.heap.size, 1, none⟩ = some (.int .i64 n) := Blk.cell hbx3 1
            have z3 : w.heap.size < w3.heap.size := Blk.lt hbx3
            have hb3 : Below wr.heap.size wr w3 := ((HB2.out.alloc HB2.out.size _).trans (b3.mono (by have := HB2.out.size; simp; omega)))
            have HB3 := hide hb3
            have hup3 := hb3.size
            have hhB : hitB k kind n = ((rcop k).1 != 0 && (rcop k).1 == kind && (rcop k).2 == n) := rfl
            have hcvB := conv_bytes [k.toUInt8] (w3.heap.size + 1) (w3.alloc (.cells #[.int .i64 (rcop k).1, .int .i64 (rcop k).2, .string s3] 23)) (by simp) 1 rfl #[.int .u8 k] (by rw [← toU8 k hlt]; rfl)
            clear b3 hbx3 hb3
            generalize rcop (k : Int) = qB at hhB hcvB ⊢
            obtain ⟨u, v⟩ := qB
            dsimp only at hhB hcvB ⊢
            by_cases hu0 : u = 0
            · subst hu0
              have hB : hitB k kind n = false := hhB
              have HN := hide (TAt.next HAT.out (HB3.out.alloc hup3 (.cells #[.int .i64 0, .int .i64 v, .string s3] 23)) hA hB)
              clear hhB hcvB hA hB
              go_wp2
              go_roundw
              case rel => exact ⟨k + 1, by omega, by go_num, HN.out⟩
              case measure => simp [intOf]; omega
            · have hu0' : (u != 0) = true := by rw [bne_iff_ne]; exact hu0
              cases huk : (u == kind) with
              | false =>
                have hB : hitB k kind n = false := by rw [hhB, huk]; simp
                have HN := hide (TAt.next HAT.out (HB3.out.alloc hup3 (.cells #[.int .i64 u, .int .i64 v, .string s3] 23)) hA hB)
                clear hhB hcvB hA hB hu0
                go_wp2
                go_roundw
                case rel => exact ⟨k + 1, by omega, by go_num, HN.out⟩
                case measure => simp [intOf]; omega
              | true =>
                cases hvn : (v == n) with
                | false =>
                  have hB : hitB k kind n = false := by rw [hhB, hvn]; simp
                  have HN := hide (TAt.next HAT.out (HB3.out.alloc hup3 (.cells #[.int .i64 u, .int .i64 v, .string s3] 23)) hA hB)
                  clear hhB hcvB hA hB hu0
                  go_wp2
                  go_roundw
                  case rel => exact ⟨k + 1, by omega, by go_num, HN.out⟩
                  case measure => simp [intOf]; omega
                | true =>
                  have hB : hitB k kind n = true := by rw [hhB, hu0', huk, hvn]; rfl
                  have hLk := HKB.out k hlt hB
                  subst hLk
                  have HBF := hide (((HAT.out.bel.trans (HB3.out.mono hup)).alloc (by omega) (.cells #[.int .i64 u, .int .i64 v, .string s3] 23)).alloc (by simp; omega) (.cells #[.int .u8 k] 5))
                  clear hhB hu0 hA hB HKA HKB HKN
                  go_wp2
                  go_ret
                  exact ⟨rfl, HBF.out⟩
          | true =>
            cases hyn : (y == n) with
            | false =>
              have hA : hitA k kind n = false := by rw [hhA, hyn]; simp
              clear hhA hcvA hx1 hx0
              go_wp2_with fail
              refine (HCOP.out k hlt _).mono ?_
              rintro e w3 ⟨s3, rfl, b3⟩
              have hbx3 := Blk.below (Blk.alloc HX2.out _) b3 (by simp; omega)
              have d0 : w3.cell? ⟨w.heap.size, 0, none⟩ = some (.int .i64 kind) := Blk.cell hbx3 0
              have d1 : w3.cell? ⟨w.heap.size, 1, none⟩ = some (.int .i64 n) := Blk.cell hbx3 1
              have z3 : w.heap.size < w3.heap.size := Blk.lt hbx3
              have hb3 : Below wr.heap.size wr w3 := ((HB2.out.alloc HB2.out.size _).trans (b3.mono (by have := HB2.out.size; simp; omega)))
              have HB3 := hide hb3
              have hup3 := hb3.size
              have hhB : hitB k kind n = ((rcop k).1 != 0 && (rcop k).1 == kind && (rcop k).2 == n) := rfl
              have hcvB := conv_bytes [k.toUInt8] (w3.heap.size + 1) (w3.alloc (.cells #[.int .i64 (rcop k).1, .int .i64 (rcop k).2, .string s3] 23)) (by simp) 1 rfl #[.int .u8 k] (by rw [← toU8 k hlt]; rfl)
              clear b3 hbx3 hb3
              generalize rcop (k : Int) = qB at hhB hcvB ⊢
              obtain ⟨u, v⟩ := qB
              dsimp only at hhB hcvB ⊢
              by_cases hu0 : u = 0
              · subst hu0
                have hB : hitB k kind n = false := hhB
                have HN := hide (TAt.next HAT.out (HB3.out.alloc hup3 (.cells #[.int .i64 0, .int .i64 v, .string s3] 23)) hA hB)
                clear hhB hcvB hA hB
                go_wp2
                go_roundw
                case rel => exact ⟨k + 1, by omega, by go_num, HN.out⟩
                case measure => simp [intOf]; omega
              · have hu0' : (u != 0) = true := by rw [bne_iff_ne]; exact hu0
                cases huk : (u == kind) with
                | false =>
                  have hB : hitB k kind n = false := by rw [hhB, huk]; simp
                  have HN := hide (TAt.next HAT.out (HB3.out.alloc hup3 (.cells #[.int .i64 u, .int .i64 v, .string s3] 23)) hA hB)
                  clear hhB hcvB hA hB hu0
                  go_wp2
                  go_roundw
                  case rel => exact ⟨k + 1, by omega, by go_num, HN.out⟩
                  case measure => simp [intOf]; omega
                | true =>
                  cases hvn : (v == n) with
                  | false =>
                    have hB : hitB k kind n = false := by rw [hhB, hvn]; simp
                    have HN := hide (TAt.next HAT.out (HB3.out.alloc hup3 (.cells #[.int .i64 u, .int .i64 v, .string s3] 23)) hA hB)
                    clear hhB hcvB hA hB hu0
                    go_wp2
                    go_roundw
                    case rel => exact ⟨k + 1, by omega, by go_num, HN.out⟩
                    case measure => simp [intOf]; omega
                  | true =>
                    have hB : hitB k kind n = true := by rw [hhB, hu0', huk, hvn]; rfl
                    have hLk := HKB.out k hlt hB
                    subst hLk
                    have HBF := hide (((HAT.out.bel.trans (HB3.out.mono hup)).alloc (by omega) (.cells #[.int .i64 u, .int .i64 v, .string s3] 23)).alloc (by simp; omega) (.cells #[.int .u8 k] 5))
                    clear hhB hu0 hA hB HKA HKB HKN
                    go_wp2
                    go_ret
                    exact ⟨rfl, HBF.out⟩
            | true =>
              have hA : hitA k kind n = true := by rw [hhA, hx1', hx0', hxk, hyn]; rfl
              have hLk := HKA.out k hlt hA
              subst hLk
              have HBF := hide (((HAT.out.bel.trans (HB2.out.mono hup)).alloc (by omega) (.cells #[.int .i64 x, .int .i64 y, .string s2] 23)).alloc (by simp; omega) (.cells #[.int .u8 2, .int .u8 k] 5))
              clear hhA hx1 hx0 hA HKA HKB HKN
              go_wp2
              go_ret
              exact ⟨rfl, HBF.out⟩
    · obtain rfl : k = 256 := by omega
      have hLk := HKN.out hat.none_
      subst hLk
      have HB := hide hat.bel
      clear hat
      go_wp2
      go_ret
      exact ⟨rfl, HB.out⟩
end Go.Proofs.YtgjbieafjagchaaDoor
