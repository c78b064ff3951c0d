/- The law EscapeCounts, walked. -/
import Derived.Test.YtjjedmmenlfedaaLawE
import Derived.Deep.QuietTactic
namespace Go.Proofs.Ytjjedmmenlfedaa
open Go.RowKit Go.Lib Esc
set_option maxRecDepth 100000

/-- A parser as the loop finds it. -/
structure Run (w : World) (b : Nat) (p : P) (wx : World) : Prop where
  ps : Ps wx b p
  ok : Ok p
  zs : Zs p
  bel : Below w.heap.size w wx
  up : w.heap.size ≤ b

theorem Run.turn {w wx wy : World} {b : Nat} {p : P} (r : Int) (h : Run w b p wx) (hp : Ps wy b (stp p r).1) (hg : wx.grownBy wy (some b)) : Run w b (stp p r).1 wy :=
  ⟨hp, ok_stp p r h.ok, zs_stp p r h.zs h.ok.n, h.bel.grown hg h.bel.size (fun k hk => by injection hk with hk; have := h.up; omega), h.up⟩
theorem Run.alloc {w wx : World} {b : Nat} {p : P} (h : Run w b p wx) (o : Obj) : Run w b p (wx.alloc o) := ⟨Blk.alloc h.ps o, h.ok, h.zs, h.bel.alloc h.bel.size o, h.up⟩
theorem Run.drewN {w wx : World} {b : Nat} {p : P} (h : Run w b p wx) (n : Nat) : Run w b p (wx.drewN n) := ⟨Blk.drewN h.ps n, h.ok, h.zs, ⟨h.bel.os, h.bel.tape, h.bel.output, h.bel.size, h.bel.block⟩, h.up⟩

/-- An act's numbers, one by one. -/
theorem good_num {a : A} {r : Int} (h : Esc.Good a r) (k : Nat) (hk : k < 8) : ∃ x : Int, (acts a)[5 + k]? = some (.int .i64 x) ∧ 0 ≤ x ∧ x ≤ 9999 ∧ (a.n ≤ k → x = 0) := by
  match k, hk with
  | 0, _ => exact ⟨a.n0, rfl, h.s0.1.1, h.s0.1.2, fun hn => h.s0.2 hn⟩
  | 1, _ => exact ⟨a.n1, rfl, h.s1.1.1, h.s1.1.2, fun hn => h.s1.2 hn⟩
  | 2, _ => exact ⟨a.n2, rfl, h.s2.1.1, h.s2.1.2, fun hn => h.s2.2 hn⟩
  | 3, _ => exact ⟨a.n3, rfl, h.s3.1.1, h.s3.1.2, fun hn => h.s3.2 hn⟩
  | 4, _ => exact ⟨a.n4, rfl, h.s4.1.1, h.s4.1.2, fun hn => h.s4.2 hn⟩
  | 5, _ => exact ⟨a.n5, rfl, h.s5.1.1, h.s5.1.2, fun hn => h.s5.2 hn⟩
  | 6, _ => exact ⟨a.n6, rfl, h.s6.1.1, h.s6.1.2, fun hn => h.s6.2 hn⟩
  | 7, _ => exact ⟨a.n7, rfl, h.s7.1.1, h.s7.1.2, fun hn => h.s7.2 hn⟩

set_option maxHeartbeats 3200000 in
theorem law_C (v0 : Value) (zs : List Int) (w : World) (h0 : Src w (· < w.heap.size) v0 zs) :
    Calls Try.prog 3 #[v0] w fun e w' => e = .returned (.bool true) ∧ Below w.heap.size w w' := by
  have hS60 : (zs.take 60).length ≤ 60 := List.length_take_le _ _
  obtain ⟨S, hS⟩ : ∃ S, S = zs.take 60 := ⟨_, rfl⟩
  rw [← hS] at hS60
  go_enter Try.func3, Try.ntmps3
  go_wp2_with fail
  refine (awake_any _).mono ?_
  rintro e w1 ⟨rfl, hb1⟩
  have R1 : Run w w1.heap.size P0 (w1.alloc (.cells (pcells P0) 30)) := ⟨Blk.new w1 _ _, ok0, zs0, hb1.alloc hb1.size _, hb1.size⟩
  dsimp only
  go_wp2_with fail
  refine (few_any _ zs v0 _ (h0.below R1.bel)).mono ?_
  rintro e w2 ⟨vS, rfl, rfl, sS⟩
  rw [← hS] at sS
  obtain ⟨AS, cS, rfl, hcapS, _⟩ := id sS
  have HS := hide (fun wx (h : Below w.heap.size w wx) => sS.two R1.bel h)
  have hup := R1.up
  clear hS sS
  dsimp only
  go_wp2_with fail
  go_loopw [6] (fun i wr => ∃ (k : Nat) (p : P), k ≤ S.length ∧ i = .int .i64 k ∧ Run w w1.heap.size p wr) (fun i _ => S.length - (intOf i).toNat)
  case atStart => exact ⟨0, P0, Nat.zero_le _, rfl, R1⟩
  case round =>
    obtain ⟨k, p, hk, rfl, hR⟩ := hrel
    by_cases hlk : k < S.length
    · obtain ⟨g, off, rfl, hg, hc1⟩ := (HS.out wr hR.bel).at_ k hlk
      have hup := hR.bel.size
      have hup2 := hR.up
      generalize S[k] = r at hc1
      have hgood := good_stp p r hR.ok hR.zs
      have hcall := Step_any w1.heap.size p r wr hR.ps hR.ok
      have hturn := fun wy (hp : Ps wy w1.heap.size (stp p r).1) (hg : wr.grownBy wy (some w1.heap.size)) => hR.turn r hp hg
      clear hR
      generalize stp p r = q at hgood hcall hturn
      obtain ⟨p', ⟨kd, ar, pv, md, nn, n0, n1, n2, n3, n4, n5, n6, n7⟩⟩ := q
      dsimp only at hgood hcall hturn
      have b1 := hgood.k0
      have b2 := hgood.k4
      have b3 := hgood.n0
      have b4 := hgood.n8
      have c1 := hgood.csi
      have c2 := hgood.chr
      dsimp only at b1 b2 b3 b4 c1 c2
      by_cases z0 : kd = 0
      · subst z0
        obtain rfl : nn = 0 := c1 (by omega)
        have HG := hide hgood
        have HC := hide hcall
        have HT := hide hturn
        clear hgood hcall hturn c1 c2 b1 b2 b3 b4
        go_wp2_with fail
        refine HC.out.mono ?_
        rintro e w3 ⟨rfl, p3, g3⟩
        have R3 := (HT.out _ p3 g3).alloc (.cells (acts (⟨0, ar, pv, md, 0, n0, n1, n2, n3, n4, n5, n6, n7⟩ : A)) 28)
        have hB : Blk (w3.alloc (.cells (acts (⟨0, ar, pv, md, 0, n0, n1, n2, n3, n4, n5, n6, n7⟩ : A)) 28)) w3.heap.size 28 (acts (⟨0, ar, pv, md, 0, n0, n1, n2, n3, n4, n5, n6, n7⟩ : A)) := Blk.new w3 _ _
        have hc3 : w3.cell? ⟨g, off + k, none⟩ = some (.int .i32 r) := (World.cell?_of_block (g3.block g (Nat.lt_of_lt_of_le hg hup) (fun e => by injection e with e; omega))).trans hc1
        have hg3 : g < w3.heap.size := Nat.lt_of_lt_of_le (Nat.lt_of_lt_of_le hg hup) g3.size
        have hgne : ¬ g = w3.heap.size := by omega
        have hgne2 : ¬ w3.heap.size = g := by omega
        have H3 := hide R3
        have HB3 := hide hB
        clear p3 g3 R3 hB HC HT
        unfold aval acts
        dsimp only
        go_wp2_with fail
        go_quiet (fail)
        go_wp2_with fail
        go_loopw [9] (fun j wi => ∃ m : Nat, m ≤ 8 ∧ j = .int .i64 m ∧ Run w w1.heap.size p' wi ∧ Blk wi w3.heap.size 28 (acts (⟨0, ar, pv, md, 0, n0, n1, n2, n3, n4, n5, n6, n7⟩ : A))) (fun j _ => 8 - (intOf j).toNat)
        case atStart => exact ⟨0, by omega, rfl, H3.out.drewN _, Blk.drewN HB3.out _⟩
        case round =>
          obtain ⟨m, hm, rfl, hRi, hBi⟩ := hrel
          have HRi := hide hRi
          have HBi := hide hBi
          by_cases hm8 : m < 8
          · obtain ⟨x, hx, x0, x1, xz⟩ := good_num HG.out m hm8
            have dx : wr.cell? ⟨w3.heap.size, 5 + m, none⟩ = some (.int .i64 x) := (Blk.cell hBi (5 + m)).trans hx
            have dn : wr.cell? ⟨w3.heap.size, 4, none⟩ = some (.int .i64 0) := Blk.cell hBi 4
            have x2 : ¬ x < 0 := by omega
            have x3 : ¬ 9999 < x := by omega
            clear hRi hBi hx
            obtain rfl := xz (show (0 : Int) ≤ (m : Int) by omega)
            go_wp2
            go_roundw
            case rel => exact ⟨m + 1, by omega, by go_num, HRi.out, HBi.out⟩
            case measure => simp [intOf]; omega
          · obtain rfl : m = 8 := by omega
            clear hRi hBi
            go_wp2
            go_roundw
            case rel => exact ⟨k + 1, p', by omega, by go_num, HRi.out⟩
            case measure => simp [intOf]; omega
      · have t1 : (kd != 0) = true := by rw [bne_iff_ne]; exact z0
        obtain rfl : ar = r := c2 z0
        have q1 : ¬ kd < 0 := by omega
        have q2 : ¬ 4 < kd := by omega
        have HC := hide hcall
        have HT := hide hturn
        by_cases z4 : kd = 4
        · subst z4
          have q3 : ¬ nn < 0 := by omega
          have q4 : ¬ 8 < nn := by omega
          have HG := hide hgood
          clear hgood hcall hturn c1 c2 b1 b2 b3 b4 z0
          go_wp2_with fail
          refine HC.out.mono ?_
          rintro e w3 ⟨rfl, p3, g3⟩
          have R3 := (HT.out _ p3 g3).alloc (.cells (acts (⟨4, ar, pv, md, nn, n0, n1, n2, n3, n4, n5, n6, n7⟩ : A)) 28)
          have hB : Blk (w3.alloc (.cells (acts (⟨4, ar, pv, md, nn, n0, n1, n2, n3, n4, n5, n6, n7⟩ : A)) 28)) w3.heap.size 28 (acts (⟨4, ar, pv, md, nn, n0, n1, n2, n3, n4, n5, n6, n7⟩ : A)) := Blk.new w3 _ _
          have hc3 : w3.cell? ⟨g, off + k, none⟩ = some (.int .i32 ar) := (World.cell?_of_block (g3.block g (Nat.lt_of_lt_of_le hg hup) (fun e => by injection e with e; omega))).trans hc1
          have hg3 : g < w3.heap.size := Nat.lt_of_lt_of_le (Nat.lt_of_lt_of_le hg hup) g3.size
          have hgne : ¬ g = w3.heap.size := by omega
          have hgne2 : ¬ w3.heap.size = g := by omega
          have H3 := hide R3
          have HB3 := hide hB
          clear p3 g3 R3 hB HC HT
          unfold aval acts
          dsimp only
          go_wp2_with fail
          go_quiet (fail)
          go_wp2_with fail
          go_loopw [9] (fun j wi => ∃ m : Nat, m ≤ 8 ∧ j = .int .i64 m ∧ Run w w1.heap.size p' wi ∧ Blk wi w3.heap.size 28 (acts (⟨4, ar, pv, md, nn, n0, n1, n2, n3, n4, n5, n6, n7⟩ : A))) (fun j _ => 8 - (intOf j).toNat)
          case atStart => exact ⟨0, by omega, rfl, H3.out.drewN _, Blk.drewN HB3.out _⟩
          case round =>
            obtain ⟨m, hm, rfl, hRi, hBi⟩ := hrel
            have HRi := hide hRi
            have HBi := hide hBi
            by_cases hm8 : m < 8
            · obtain ⟨x, hx, x0, x1, xz⟩ := good_num HG.out m hm8
              have dx : wr.cell? ⟨w3.heap.size, 5 + m, none⟩ = some (.int .i64 x) := (Blk.cell hBi (5 + m)).trans hx
              have dn : wr.cell? ⟨w3.heap.size, 4, none⟩ = some (.int .i64 nn) := Blk.cell hBi 4
              have x2 : ¬ x < 0 := by omega
              have x3 : ¬ 9999 < x := by omega
              clear hRi hBi hx
              by_cases hnm : nn ≤ (m : Int)
              · obtain rfl := xz hnm
                go_wp2
                go_roundw
                case rel => exact ⟨m + 1, by omega, by go_num, HRi.out, HBi.out⟩
                case measure => simp [intOf]; omega
              · clear xz
                go_wp2
                go_roundw
                case rel => exact ⟨m + 1, by omega, by go_num, HRi.out, HBi.out⟩
                case measure => simp [intOf]; omega
            · obtain rfl : m = 8 := by omega
              clear hRi hBi
              go_wp2
              go_roundw
              case rel => exact ⟨k + 1, p', by omega, by go_num, HRi.out⟩
              case measure => simp [intOf]; omega
        · obtain rfl : nn = 0 := c1 z4
          have t2 : (kd != 4) = true := by rw [bne_iff_ne]; exact z4
          have HG := hide hgood
          clear hgood hcall hturn c1 c2 b1 b2 b3 b4 z0 z4
          go_wp2_with fail
          refine HC.out.mono ?_
          rintro e w3 ⟨rfl, p3, g3⟩
          have R3 := (HT.out _ p3 g3).alloc (.cells (acts (⟨kd, ar, pv, md, 0, n0, n1, n2, n3, n4, n5, n6, n7⟩ : A)) 28)
          have hB : Blk (w3.alloc (.cells (acts (⟨kd, ar, pv, md, 0, n0, n1, n2, n3, n4, n5, n6, n7⟩ : A)) 28)) w3.heap.size 28 (acts (⟨kd, ar, pv, md, 0, n0, n1, n2, n3, n4, n5, n6, n7⟩ : A)) := Blk.new w3 _ _
          have hc3 : w3.cell? ⟨g, off + k, none⟩ = some (.int .i32 ar) := (World.cell?_of_block (g3.block g (Nat.lt_of_lt_of_le hg hup) (fun e => by injection e with e; omega))).trans hc1
          have hg3 : g < w3.heap.size := Nat.lt_of_lt_of_le (Nat.lt_of_lt_of_le hg hup) g3.size
          have hgne : ¬ g = w3.heap.size := by omega
          have hgne2 : ¬ w3.heap.size = g := by omega
          have H3 := hide R3
          have HB3 := hide hB
          clear p3 g3 R3 hB HC HT
          unfold aval acts
          dsimp only
          go_wp2_with fail
          go_quiet (fail)
          go_wp2_with fail
          go_loopw [9] (fun j wi => ∃ m : Nat, m ≤ 8 ∧ j = .int .i64 m ∧ Run w w1.heap.size p' wi ∧ Blk wi w3.heap.size 28 (acts (⟨kd, ar, pv, md, 0, n0, n1, n2, n3, n4, n5, n6, n7⟩ : A))) (fun j _ => 8 - (intOf j).toNat)
          case atStart => exact ⟨0, by omega, rfl, H3.out.drewN _, Blk.drewN HB3.out _⟩
          case round =>
            obtain ⟨m, hm, rfl, hRi, hBi⟩ := hrel
            have HRi := hide hRi
            have HBi := hide hBi
            by_cases hm8 : m < 8
            · obtain ⟨x, hx, x0, x1, xz⟩ := good_num HG.out m hm8
              have dx : wr.cell? ⟨w3.heap.size, 5 + m, none⟩ = some (.int .i64 x) := (Blk.cell hBi (5 + m)).trans hx
              have dn : wr.cell? ⟨w3.heap.size, 4, none⟩ = some (.int .i64 0) := Blk.cell hBi 4
              have x2 : ¬ x < 0 := by omega
              have x3 : ¬ 9999 < x := by omega
              clear hRi hBi hx
              obtain rfl := xz (show (0 : Int) ≤ (m : Int) by omega)
              go_wp2
              go_roundw
              case rel => exact ⟨m + 1, by omega, by go_num, HRi.out, HBi.out⟩
              case measure => simp [intOf]; omega
            · obtain rfl : m = 8 := by omega
              clear hRi hBi
              go_wp2
              go_roundw
              case rel => exact ⟨k + 1, p', by omega, by go_num, HRi.out⟩
              case measure => simp [intOf]; omega
    · have HR := hide hR
      clear hR
      have hbel := HR.out.bel
      go_wp2
      go_ret
      exact ⟨rfl, hbel⟩
end Go.Proofs.Ytjjedmmenlfedaa
