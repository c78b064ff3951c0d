/- The law EscapeParted, walked. -/
import Derived.Test.YtjjedmmenlfedaaLawE
import Derived.Deep.RegionLaw
import Derived.OpenShut
import Derived.Deep.DeepCutAuto
import Derived.Deep.CutRange
import Derived.ChangeKeysEq
namespace Go.Proofs.Ytjjedmmenlfedaa
open Go.RowKit Go.Lib Esc
set_option maxRecDepth 100000

/-- The first characters of a slice; the rest. -/
theorem Src.head {w : World} {F : Nat → Prop} {A : Option Addr} {cap : Nat} {zs : List Int} (h : Src w F (.slice A zs.length cap) zs) (q : Nat) (hq : q ≤ zs.length) : Src w F (.slice A q cap) (zs.take q) := by
  obtain ⟨A', cap', hv, h0, h⟩ := h
  injection hv with e1 _ e2
  subst e1; subst e2
  have ht : (zs.take q).length = q := by rw [List.length_take]; omega
  refine ⟨A, cap, by rw [ht], by omega, fun hl => ?_⟩
  obtain ⟨g, off, rfl, h1, h2, h3⟩ := h (by omega)
  refine ⟨g, off, rfl, h1, h2, fun j hj => ?_⟩
  rw [List.getElem_take]
  exact h3 j (by omega)
theorem Src.rest {w : World} {F : Nat → Prop} {A : Option Addr} {cap : Nat} {zs : List Int} (h : Src w F (.slice A zs.length cap) zs) (q : Nat) (hq : q ≤ zs.length) :
    Src w F (.slice (if cap = q then A else A.map (·.add q)) (zs.length - q) (cap - q)) (zs.drop q) := by
  obtain ⟨A', cap', hv, h0, h⟩ := h
  injection hv with e1 _ e2
  subst e1; subst e2
  have ht : (zs.drop q).length = zs.length - q := List.length_drop
  refine ⟨_, cap - q, by rw [ht], by omega, fun hl => ?_⟩
  obtain ⟨g, off, rfl, h1, h2, h3⟩ := h (by omega)
  rw [if_neg (by omega)]
  refine ⟨g, off + q, by simp [Addr.add_lit], h1, h2, fun j hj => ?_⟩
  rw [List.getElem_drop, ← h3 (q + j) (by omega), Nat.add_assoc]

theorem size_rune (wx : World) : (sizeOf (Try.prog.elem 22)).run Try.prog wx = .ok 1 wx := by
  have e : Try.prog.elem 22 = 21 := by kernel_rfl
  obtain ⟨i, hi⟩ : ∃ i, Try.prog.info? 21 = some i := Option.isSome_iff_exists.1 (by kernel_rfl)
  have hc : Try.prog.cellsOf 21 = 1 := by kernel_rfl
  rw [e, run_sizeOf wx hi, hc]

theorem slice_head (A : Option Addr) (cap : Nat) (zs : List Int) (q : Nat) (hq : q ≤ zs.length) (hc : zs.length ≤ cap) :
    ∃ V, (∀ wx, (Instr.slice 22 (.slice A zs.length cap) none (some (.int .i64 (q : Int))) none).run Try.prog wx = .ok V wx) ∧ ∀ wx F, Src wx F (.slice A zs.length cap) zs → Src wx F V (zs.take q) := by
  refine ⟨.slice A q cap, fun wx => ?_, fun wx F h => h.head q hq⟩
  have e := run_slice_h (P := Try.prog) (w := wx) (t := 22) (a := A) (len := zs.length) (cap := cap) Try.underlying22 .i64 (q : Int) (by omega) (by omega)
  rw [e, size_rune]
  have e2 : (if cap = 0 then A else A.map (·.add (0 * 1))) = A := by
    split
    · rfl
    · cases A with
      | none => rfl
      | some a => simp [Addr.add]
  simp only [Result.andThen_ok, sliced, Nat.sub_zero, Int.toNat_natCast, e2]
theorem slice_rest (A : Option Addr) (cap : Nat) (zs : List Int) (q : Nat) (hq : q ≤ zs.length) (_hc : zs.length ≤ cap) :
    ∃ V, (∀ wx, (Instr.slice 22 (.slice A zs.length cap) (some (.int .i64 (q : Int))) none none).run Try.prog wx = .ok V wx) ∧ ∀ wx F, Src wx F (.slice A zs.length cap) zs → Src wx F V (zs.drop q) := by
  refine ⟨.slice (if cap = q then A else A.map (·.add q)) (zs.length - q) (cap - q), fun wx => ?_, fun wx F h => h.rest q hq⟩
  have e := run_slice_l (P := Try.prog) (w := wx) (t := 22) (a := A) (len := zs.length) (cap := cap) Try.underlying22 .i64 (q : Int) (by omega) (by omega)
  rw [e, size_rune]
  simp only [Result.andThen_ok, sliced, Int.toNat_natCast, Nat.mul_one]

theorem Feed_slice (b : Nat) (p : P) (zs : List Int) (v : Value) (w : World) (t : P × List A) (ht : feed p zs = t) (hp : Ps w b p) (hok : Ok p) (F : Nat → Prop) (hs : Src w F v zs) (hF : ¬ F b) (hl : zs.length ≤ 1000) :
    Calls Try.prog 11 #[.pointer (some ⟨b, 0, none⟩), v] w fun e w' =>
      ∃ a cap, e = .returned (.slice a t.2.length cap) ∧ Reads w' w'.heap.size 13 a t.2.length (acells t.2) ∧ w'.ownsRow w.heap.size 28 13 (.slice a t.2.length cap) t.2.length (acells t.2) ∧ Ps w' b t.1 ∧ w.grownBy w' (some b) := by
  refine (Feed_any b p zs v w hp hok F hs hF hl).mono ?_
  rw [ht]
  rintro e w' ⟨v, rfl, h1, h2, h3⟩
  have hrow := Row.of_own h1
  obtain ⟨a, cap, rfl, _⟩ := hrow
  exact ⟨a, cap, rfl, Reads.of_own h1, h1, h2, h3⟩

theorem own_empty {w : World} {base x : Nat} (h : Blk w x 28 #[]) (hb : base ≤ x) : w.ownsRow base 28 13 (.slice (some ⟨x, 0, none⟩) 0 0) 0 [] :=
  ⟨rfl, .inr ⟨x, 0, #[], rfl, hb, h, Nat.le_refl _, by unfold maxLen; omega, rfl, rfl⟩⟩

theorem tmod_bd (a : Int) (n : Nat) : -(n : Int) ≤ a.tmod ((n : Int) + 1) ∧ a.tmod ((n : Int) + 1) ≤ n := by
  have h := Int.tmod_lt_of_pos a (b := (n : Int) + 1) (by omega)
  have h2 := Int.lt_tmod_of_pos a (b := (n : Int) + 1) (by omega)
  omega

/-- What is known behind the statement that feeds the second parser twice. -/
structure Mid (w : World) (rb : Nat) (pb : P) (L : List A) (s : Value) (wx : World) : Prop where
  own : wx.ownsRow w.heap.size 28 13 s L.length (acells L)
  ps : Ps wx rb pb
  grown : w.grownBy wx (some rb)

theorem app1 {w2 w3 w4 : World} {rb x : Nat} {p : P} (g : w2.grownBy w3 (some rb)) (hr : Ps w3 rb p) (hg : w3.grownBy w4 (Value.slice (some ⟨x, 0, none⟩) 0 0).ownBlock) (hx : w2.heap.size ≤ x) (hlb : rb < w2.heap.size) :
    Ps w4 rb p ∧ w2.grownBy w4 (some rb) := by
  have hg' : w3.grownBy w4 (some x) := hg
  exact ⟨Blk.grown hr hg' (by intro h; injection h with h; omega), grown_far g hg' (fun k hk => by injection hk with hk; omega)⟩

/-- Two parsers laid. -/
theorem two_laid (w1 : World) : Ps ((w1.alloc (.cells (pcells P0) 30)).alloc (.cells (pcells P0) 30)) w1.heap.size P0 ∧ Ps ((w1.alloc (.cells (pcells P0) 30)).alloc (.cells (pcells P0) 30)) (w1.heap.size + 1) P0 := by
  have e1 : (w1.alloc (.cells (pcells P0) 30)).heap.size = w1.heap.size + 1 := by simp
  have hb := Blk.new (w1.alloc (.cells (pcells P0) 30)) 30 (pcells P0)
  rw [e1] at hb
  exact ⟨Blk.alloc (Blk.new w1 _ _) _, hb⟩

set_option maxHeartbeats 1600000 in
theorem law_P (v0 : Value) (zs : List Int) (at' : Int) (w : World) (h0 : Src w (· < w.heap.size) v0 zs) (hw : (Lit.int .i64 at').wf = true) :
    Calls Try.prog 4 #[v0, .int .i64 at'] w fun e w' => e = .returned (.bool true) ∧ Below w.heap.size w w' := by
  have hbd := bounds_i64 hw
  have hS60 : (zs.take 60).length ≤ 60 := List.length_take_le _ _
  obtain ⟨S, hS⟩ : ∃ S, S = zs.take 60 := ⟨_, rfl⟩
  rw [← hS] at hS60
  obtain ⟨tb1, tb2⟩ := tmod_bd at' S.length
  go_enter Try.func4, Try.ntmps4
  go_wp2_with fail
  refine (awake_any _).mono ?_
  rintro e w1 ⟨rfl, hb1⟩
  dsimp only
  go_wp2_with fail
  refine (few_any _ zs v0 _ (h0.below hb1)).mono ?_
  rintro e w1' ⟨vS, rfl, rfl, sS⟩
  rw [← hS] at sS
  obtain ⟨AS, cS, rfl, hcapS, hcS⟩ := id sS
  clear hcS
  clear hS
  dsimp only
  go_wp2_with fail
  obtain ⟨hra, hrb⟩ := two_laid w1
  have hb1' : Below w.heap.size w ((w1.alloc (.cells (pcells P0) 30)).alloc (.cells (pcells P0) 30)) := (hb1.alloc hb1.size _).alloc (by have := hb1.size; simp; omega) _
  have sS1 : Src ((w1.alloc (.cells (pcells P0) 30)).alloc (.cells (pcells P0) 30)) (· < w.heap.size) (.slice AS S.length cS) S := sS.below (((Below.refl _ w1).alloc (Nat.le_refl _) _).alloc (by simp) _)
  have hw1 := hb1.size
  obtain ⟨ta, hta⟩ : ∃ ta, feed P0 S = ta := ⟨_, rfl⟩
  refine (Feed_slice w1.heap.size P0 S _ _ ta hta hra ok0 _ sS1 (by omega) (by omega)).mono ?_
  rintro e w2 ⟨ax, cx, rfl, _, hxo, hra2, hg2⟩
  have hrb2 : Ps w2 (w1.heap.size + 1) P0 := Blk.grown hrb hg2 (by intro h; injection h with h; omega)
  have hb2 : Below w.heap.size w w2 := hb1'.grown hg2 hb1'.size (fun k hk => by injection hk with hk; omega)
  have sS2 := sS1.grown hg2 (by omega)
  obtain ⟨q, hq, hq2⟩ : ∃ q : Nat, (at'.tmod ((S.length : Int) + 1) + (S.length : Int) + 1) % ((S.length : Int) + 1) = (q : Int) ∧ q ≤ S.length := by
    have h1 := Int.emod_nonneg (at'.tmod ((S.length : Int) + 1) + (S.length : Int) + 1) (b := (S.length : Int) + 1) (by omega)
    have h2 := Int.emod_lt_of_pos (at'.tmod ((S.length : Int) + 1) + (S.length : Int) + 1) (b := (S.length : Int) + 1) (by omega)
    exact ⟨((at'.tmod ((S.length : Int) + 1) + (S.length : Int) + 1) % ((S.length : Int) + 1)).toNat, by omega, by omega⟩
  rw [hq]
  have hpar := feed_append P0 (S.take q) (S.drop q)
  rw [List.take_append_drop, hta] at hpar
  have ok1 := ok_feed P0 (S.take q) ok0
  have hn1 := feed_len P0 (S.take q)
  generalize ht1 : feed P0 (S.take q) = t1 at hpar ok1 hn1
  have hn2 := feed_len t1.1 (S.drop q)
  generalize ht2 : feed t1.1 (S.drop q) = t2 at hpar hn2
  have hna := feed_len P0 S
  rw [hta] at hna
  have HT1 := hide ht1
  have HT2 := hide ht2
  have HPAR := hide hpar
  have HOK1 := hide ok1
  have hl1 : (S.take q).length ≤ 60 := by rw [List.length_take]; omega
  have hl2 : (S.drop q).length ≤ 60 := by rw [List.length_drop]; omega
  obtain ⟨VH, hVH, sVH⟩ := slice_head AS cS S q hq2 hcapS
  obtain ⟨VR, hVR, sVR⟩ := slice_rest AS cS S q hq2 hcapS
  have HH := hide sVH
  have HR := hide sVR
  clear sVH sVR
  clear hq hpar hta ht1 ht2 hg2 hra hrb hb1 tb1 tb2 hbd hw sS sS1 hb1' ok1 h0
  dsimp only
  go_upto_region 7 with fail
  go_cut [11] (fun s wx => Mid w2 (w1.heap.size + 1) t2.1 (t1.2 ++ t2.2) s wx)
  case first =>
    have hlb := Blk.lt hrb2
    have EA := hide (fun w3 (hg : (w2.alloc (.cells #[] 28)).drew.grownBy w3 (some (w1.heap.size + 1))) => own_empty (base := w2.heap.size) (Blk.grown (Blk.drew (Blk.new w2 28 #[])) hg (by intro h; injection h with h; omega)) (Nat.le_refl _))
    have EB := hide (fun w3 (hb : w2.heap.size ≤ w3.heap.size) => own_empty (base := w2.heap.size) (Blk.new w3 28 #[]) hb)
    have GA := hide (fun w3 (hg : (w2.alloc (.cells #[] 28)).drew.grownBy w3 (some (w1.heap.size + 1))) => grown_grown (only_drew (only_alloc (World.grownBy.refl w2 (some (w1.heap.size + 1))) (.cells #[] 28))) hg)
    have GB := hide (fun w3 (hg : w2.drew.grownBy w3 (some (w1.heap.size + 1))) => grown_grown (only_drew (World.grownBy.refl w2 (some (w1.heap.size + 1)))) hg)
    obtain ⟨i0, hi, hz0, hz1, hz2⟩ := info_parts info_act
    have SA := hide (fun wx (h : Below w2.heap.size w2 wx) => HH.out wx _ (sS2.below h))
    have SR := hide (fun wx (h : w2.grownBy wx (some (w1.heap.size + 1))) => HR.out wx _ (sS2.grown h (by omega)))
    have hl1' : (S.take q).length ≤ 1000 := by omega
    have hl2' : (S.drop q).length ≤ 1000 := by omega
    have hnF : ¬ (w1.heap.size + 1 < w.heap.size) := by omega
    go_region_law (first
      | (go_simp; go_at_call_of 11 VH; refine (Feed_slice (w1.heap.size + 1) P0 (S.take q) _ _ t1 HT1.out (by first | exact hrb2 | exact Blk.alloc hrb2 _) ok0 (· < w.heap.size) (by first | exact SA.out _ (Below.refl _ w2).drew | exact SA.out _ ((Below.refl _ w2).alloc (Nat.le_refl _) _).drew) hnF hl1').mono ?_; rintro e w3 ⟨a3, c3, rfl, hrd3, _, hrb3, hg3⟩; dsimp only)
      | (refine step_append_any _ rfl (.tmp 36) (.tmp 41) 35 rfl w2.heap.size 28 i0 _ 13 88 Try.underlying35 hi hz0 hz1 hz2 rfl (by decide) (.slice (some ⟨w2.heap.size, 0, none⟩) 0 0) 0 [] (by simp [Act.eval]) (EA.out _ hg3) _ a3 t1.2.length c3 (acells t1.2) (by simp [Act.eval]) hrd3 (acells_one _) (by unfold maxLen; omega) (by omega) (GA.out _ hg3).size ?_; intro v4 w4 hown4 hg4 hat4; have hp4 := app1 (GA.out _ hg3) hrb3 hg4 (Nat.le_refl _) hlb; obtain ⟨hrb4, G4⟩ := hp4)
      | (refine step_append_any _ rfl (.tmp 36) (.tmp 41) 35 rfl w2.heap.size 28 i0 _ 13 88 Try.underlying35 hi hz0 hz1 hz2 rfl (by decide) (.slice (some ⟨w3.heap.size, 0, none⟩) 0 0) 0 [] (by simp [Act.eval]) (EB.out _ (GB.out _ hg3).size) w3.heap.size a3 t1.2.length c3 (acells t1.2) (by simp [Act.eval]) (hrd3.alloc (Nat.le_refl _) _) (acells_one _) (by unfold maxLen; omega) (by omega) (by have := (GB.out _ hg3).size; simp; omega) ?_; intro v4 w4 hown4 hg4 hat4; have hp4 := app1 (only_alloc (GB.out _ hg3) _) (Blk.alloc hrb3 _) hg4 (GB.out _ hg3).size hlb; obtain ⟨hrb4, G4⟩ := hp4)
      | (go_simp; go_at_call_of 11 VR; refine (Feed_slice (w1.heap.size + 1) t1.1 (S.drop q) _ _ t2 HT2.out hrb4 HOK1.out (· < w.heap.size) (SR.out _ G4) hnF hl2').mono ?_; rintro e w5 ⟨a5, c5, rfl, hrd5, _, hrb5, hg5⟩; dsimp only)
      | (refine step_append_any _ rfl (.tmp 42) (.tmp 47) 35 rfl w2.heap.size 28 i0 _ 13 88 Try.underlying35 hi hz0 hz1 hz2 rfl (by decide) v4 (0 + t1.2.length) ([] ++ acells t1.2) (by simp [Act.eval]) (hown4.kept hg5 (.inr (own_blk_ne hown4 hrb4 (by decide)))) _ a5 t2.2.length c5 (acells t2.2) (by simp [Act.eval]) hrd5 (acells_one _) (by unfold maxLen; omega) (by omega) (grown_grown G4 hg5).size ?_; intro v6 w6 hown6 hg6 hat6; have hrb6 : Ps w6 (w1.heap.size + 1) t2.1 := Blk.grown hrb5 hg6 (fun h => own_blk_ne hown4 hrb4 (by decide) h.symm); have G6 : w2.grownBy w6 (some (w1.heap.size + 1)) := grown_far (grown_grown G4 hg5) hg6 (fun k hk => (hown4.lt k hk).1)))
    all_goals
      have hown7 : w6.ownsRow w2.heap.size 28 13 v6 (t1.2 ++ t2.2).length (acells (t1.2 ++ t2.2)) := by
        rw [acells_append, List.length_append]
        simpa using hown6
      have HM := hide (Mid.mk hown7 hrb6 G6)
      go_wp2_with fail
      go_meet
      exact HM.out
  case rest =>
    obtain ⟨hown, hrb3, hg3⟩ := hcut
    have hlb := Blk.lt hrb2
    have hxo3 := hxo.kept hg3 (.inr (own_blk_ne hxo hrb2 (by decide)))
    have hra3 : Ps wc w1.heap.size ta.1 := Blk.grown hra2 hg3 (by intro h; injection h with h; omega)
    have hb3 : Below w.heap.size w wc := hb2.grown hg3 hb2.size (fun k hk => by injection hk with hk; omega)
    have hl3 := Blk.lt hra3
    have hl4 := Blk.lt hrb3
    have hp1 : ta.1 = t2.1 := by rw [HPAR.out]
    have hp2 : ta.2 = t1.2 ++ t2.2 := by rw [HPAR.out]
    rw [← hp2] at hown
    rw [← hp1] at hrb3
    clear hp1 hp2
    go_wp2_with fail
    refine (Same_any _ _ ta.2 wc (Row.of_own hxo3) (Row.of_own hown) (by omega)).mono ?_
    rintro e w6 ⟨rfl, hb6⟩
    have hra6 : Ps w6 w1.heap.size ta.1 := Blk.below hra3 hb6 hl3
    have hrb6 : Ps w6 (w1.heap.size + 1) ta.1 := Blk.below hrb3 hb6 hl4
    have hall : Below w.heap.size w w6 := hb3.trans (hb6.mono hb3.size)
    have hI1 := Idle_any _ _ _ hra6
    have hI2 := Idle_any _ _ _ hrb6
    clear hb6 hra6 hrb6 hra3 hrb3 hxo3 hown hg3 hb3 hxo
    dsimp only
    go_wp2_with (first
      | (go_at_call 13; (with_reducible refine hI1.mono ?_); rintro e w' ⟨rfl, rfl⟩)
      | (go_at_call 13; (with_reducible refine hI2.mono ?_); rintro e w' ⟨rfl, rfl⟩))
    go_ret
    exact ⟨rfl, hall⟩
end Go.Proofs.Ytjjedmmenlfedaa
