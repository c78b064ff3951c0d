/- What EscapeNumbers' walk keeps: the row that grows, the array that is filled. -/
import Derived.Test.YtjjedmmenlfedaaWalkI
import Derived.Test.YtjjedmmenlfedaaPlainC
import Derived.OpenShut
import Derived.Laws.BitsLemmas
namespace Go.Proofs.Ytjjedmmenlfedaa
open Go.RowKit Go.Lib Esc
set_option maxRecDepth 100000

theorem and_small (x : Int) : ∃ k : Nat, k < 131072 ∧ bits .and .i64 x 131071 = (k : Int) := by
  refine ⟨(BitVec.ofInt 64 x).toNat &&& 131071, Nat.and_lt_two_pow (n := 17) _ (by decide), ?_⟩
  have h : (BitVec.ofInt 64 x).toNat &&& 131071 < 131072 := Nat.and_lt_two_pow (n := 17) _ (by decide)
  have e : (BitVec.ofInt 64 131071).toNat = 131071 := by decide
  have e2 : bits .and .i64 x 131071 = IntKind.i64.wrap ((((BitVec.ofInt 64 x) &&& (BitVec.ofInt 64 131071)).toNat : Nat) : Int) := rfl
  rw [e2, BitVec.toNat_and, e, IntKind.wrap_i64]
  omega
theorem and_one (k : Nat) (h : k < 131072) : bits .and .i64 (k : Int) 1 = ((k % 2 : Nat) : Int) := by
  have hw : ∀ n : Int, 0 ≤ n → n < 2 ^ 63 → IntKind.i64.wrap n = n := by intro n h0 h1; rw [IntKind.wrap_i64]; omega
  have h2 := bits_mask .i64 63 (by decide) hw 1 (by decide) (k : Int) (by omega) (by omega)
  have e : ((2 : Int) ^ 1 - 1) = 1 := by decide
  have e2 : ((2 : Int) ^ 1) = 2 := by decide
  rw [e, e2] at h2
  rw [h2]
  omega

/-- The array that is filled. -/
def wantOf (ks : List Nat) : Array Value := #[.int .i64 ((ks.map worth).getD 0 0), .int .i64 ((ks.map worth).getD 1 0), .int .i64 ((ks.map worth).getD 2 0), .int .i64 ((ks.map worth).getD 3 0), .int .i64 ((ks.map worth).getD 4 0), .int .i64 ((ks.map worth).getD 5 0), .int .i64 ((ks.map worth).getD 6 0), .int .i64 ((ks.map worth).getD 7 0)]
theorem want_set (ks : List Nat) (k : Nat) (h : ks.length < 8) : (wantOf ks).setIfInBounds ks.length (.int .i64 (worth k)) = wantOf (ks ++ [k]) := by
  match ks, h with
  | [], _ => rfl
  | [_], _ => rfl
  | [_, _], _ => rfl
  | [_, _, _], _ => rfl
  | [_, _, _, _], _ => rfl
  | [_, _, _, _, _], _ => rfl
  | [_, _, _, _, _, _], _ => rfl
  | [_, _, _, _, _, _, _], _ => rfl
  | _ :: _ :: _ :: _ :: _ :: _ :: _ :: _ :: _, h => simp only [List.length_cons] at h; omega
theorem want_full (ks : List Nat) (k : Nat) (h : 8 ≤ ks.length) : wantOf (ks ++ [k]) = wantOf ks := by
  match ks, h with
  | _ :: _ :: _ :: _ :: _ :: _ :: _ :: _ :: _, _ => rfl

structure NS (w : World) (h : Nat) (W : Array Value) (xs : List Int) (v : Value) (wr : World) : Prop where
  own : wr.ownsRow w.heap.size 21 1 v xs.length (xs.map (Value.int .i32))
  want : Blk wr h 26 W
  bel : Below w.heap.size w wr
  up : w.heap.size ≤ h

theorem NS.append {w wr w3 : World} {h : Nat} {W : Array Value} {xs : List Int} {v v3 : Value} {r : Int} (n : NS w h W xs v wr)
    (ho : w3.ownsRow w.heap.size 21 1 v3 (xs.length + 1) (xs.map (Value.int .i32) ++ [Value.int .i32 r])) (hg : (wr.alloc (.cells #[.int .i32 r] 21)).grownBy w3 v.ownBlock) : NS w h W (xs ++ [r]) v3 w3 := by
  have hn := own_blk_ne n.own n.want (by decide)
  refine ⟨?_, Blk.grown (Blk.alloc n.want _) hg (fun e => hn e.symm), (n.bel.alloc n.bel.size _).grown hg (by have := n.bel.size; simp; omega) (fun k hk => (n.own.lt k hk).1), n.up⟩
  rw [List.map_append, List.length_append]
  exact ho

theorem NS.set_ {w wr : World} {h : Nat} {W : Array Value} {xs : List Int} {v : Value} (n : NS w h W xs v wr) (i : Nat) (u : Value) : NS w h (W.setIfInBounds i u) xs v (wr.setCell ⟨h, i, none⟩ u) := by
  have g := only_setCell (p := ⟨h, i, none⟩) (World.grownBy.refl wr (some h)) (.inl rfl) u
  exact ⟨n.own.kept g (.inr (own_blk_ne n.own n.want (by decide))), Blk.set_ n.want i u, n.bel.grown g n.bel.size (fun k hk => by injection hk with hk; have := n.up; omega), n.up⟩

theorem NS.start {w w1 : World} (h : Below w.heap.size w w1) : NS w w1.heap.size (wantOf []) [] (.slice none 0 0) (w1.alloc (.cells (wantOf []) 26)) :=
  ⟨World.ownsRow_nil _ _ _ _, Blk.new w1 _ _, h.alloc h.size _, h.size⟩

theorem info_rune : (Try.prog.info? 21).map (fun i => (i.zero, i.size, i.bytes)) = some (some (.int .i32 0), 1, 4) := by kernel_rfl

theorem rune_new (W : World) (g : Nat) (hg : g = W.heap.size) (x : Value) (t : TypeId) : ∀ (j : Nat) (u : Value), [x][j]? = some u → (W.alloc (.cells #[x] t)).cell? ((⟨g, 0, none⟩ : Addr).add j) = some u := by
  intro j u hj
  subst hg
  rw [Addr.add_lit, Nat.zero_add]
  have h := Blk.cell (Blk.new W t #[x]) j
  rw [h, ← hj]
  simp

/-- The five powers, and nought. -/
def powr : Nat → Int
  | 0 => 10000
  | 1 => 1000
  | 2 => 100
  | 3 => 10
  | 4 => 1
  | _ => 0

theorem chars_len (ks : List Nat) : (chars ks).length ≤ 6 * ks.length := by
  generalize hn : ks.length = n
  induction n generalizing ks with
  | zero =>
    obtain rfl := List.eq_nil_of_length_eq_zero hn
    simp [chars]
  | succ n ih =>
    have hne : ks ≠ [] := by intro e; subst e; simp at hn
    obtain ⟨k, hk⟩ : ∃ k, ks = ks.dropLast ++ [k] := ⟨ks.getLast hne, (List.dropLast_concat_getLast hne).symm⟩
    generalize ks.dropLast = js at hk
    subst hk
    have hj : js.length = n := by simp at hn; omega
    have := ih js hj
    rw [chars_snoc, List.length_append, List.length_append]
    have h1 : (sepa js.length k).length ≤ 1 := by unfold sepa; split <;> simp
    have h2 : (digs k).length = 5 := rfl
    omega

/-- An own row of characters, as a slice to be read. -/
theorem src_own {w : World} {base : Nat} {v : Value} {xs : List Int} (h : w.ownsRow base 21 1 v xs.length (xs.map (Value.int .i32))) : Src w (base ≤ ·) v xs := by
  have hr := h
  rcases h.2 with ⟨rfl, h0⟩ | ⟨g, cap, cur, rfl, hb, hB, hnc, _⟩
  · exact ⟨none, 0, by rw [h0], by omega, fun hl => absurd hl (by omega)⟩
  · refine ⟨some ⟨g, 0, none⟩, cap, rfl, hnc, fun hl => ⟨g, 0, rfl, Blk.lt hB, hb, fun j hj => ?_⟩⟩
    rw [Nat.zero_add, hr.cellAt j (by omega), List.getElem?_map, List.getElem?_eq_getElem hj]
    rfl
theorem tmod63 (a : Int) : ∃ k : Nat, (a.tmod 63 + 63) % 63 = (k : Int) ∧ k < 63 ∧ -63 < a.tmod 63 ∧ a.tmod 63 < 63 := by
  have h := Int.tmod_lt_of_pos a (b := 63) (by omega)
  have h2 := Int.lt_tmod_of_pos a (b := 63) (by omega)
  exact ⟨((a.tmod 63 + 63) % 63).toNat, by omega, by omega, by omega, by omega⟩

theorem own_form {w : World} {base : Nat} {e : TypeId} {size n : Nat} {v : Value} {xs : List Value} (h : w.ownsRow base e size v n xs) : ∃ a c, v = .slice a n c := by
  rcases h.2 with ⟨rfl, h0⟩ | ⟨g, cap, cur, rfl, _⟩
  · exact ⟨none, 0, by rw [h0]⟩
  · exact ⟨_, _, rfl⟩

theorem own_two (w : World) (n : Nat) (r s : Int) (hn : w.heap.size = n) : (w.alloc (.cells #[.int .i32 r, .int .i32 s] 21)).ownsRow n 21 1 (.slice (some ⟨n, 0, none⟩) 2 2) 2 [.int .i32 r, .int .i32 s] := by
  subst hn
  exact ⟨rfl, .inr ⟨w.heap.size, 2, #[.int .i32 r, .int .i32 s], rfl, Nat.le_refl _, Blk.new w _ _, Nat.le_refl _, by unfold maxLen; omega, rfl, rfl⟩⟩

theorem worth_nn (ks : List Nat) (i : Nat) : 0 ≤ (ks.map worth).getD i 0 := by
  rw [List.getD_eq_getElem?_getD, List.getElem?_map]
  cases ks[i]? with
  | none => simp
  | some k => simp only [Option.map_some, Option.getD_some]; unfold worth; omega

theorem act_final (ks : List Nat) (r : Int) : ({ actOf (ks.map worth) with kind := 4, r := r, n := min (actOf (ks.map worth)).n 8 } : A) =
    ⟨4, r, 0, 0, min (ks.length : Int) 8, (ks.map worth).getD 0 0, (ks.map worth).getD 1 0, (ks.map worth).getD 2 0, (ks.map worth).getD 3 0, (ks.map worth).getD 4 0, (ks.map worth).getD 5 0, (ks.map worth).getD 6 0, (ks.map worth).getD 7 0⟩ := by
  unfold actOf
  dsimp only
  congr 1
  rw [List.length_map]
  omega

theorem nums_neq (y0 y1 y2 y3 y4 y5 y6 y7 : Int) (w : World) : (binOp .neq 26 (.agg #[.int .i64 y0, .int .i64 y1, .int .i64 y2, .int .i64 y3, .int .i64 y4, .int .i64 y5, .int .i64 y6, .int .i64 y7]) (.agg #[.int .i64 y0, .int .i64 y1, .int .i64 y2, .int .i64 y3, .int .i64 y4, .int .i64 y5, .int .i64 y6, .int .i64 y7])).run Try.prog w = .ok (.bool false) w := by
  obtain ⟨i, hi⟩ : ∃ i, Try.prog.info? 3 = some i := Option.isSome_iff_exists.1 (by kernel_rfl)
  have hc : Try.prog.cellsOf 3 = 1 := by kernel_rfl
  have e : (10000 : Nat) = 9999 + 1 := rfl
  rw [run_neq_struct, e, run_equalIn_array w 9999 _ _ Try.underlying26 hi, hc]
  simp [Op.eqItems, List.range, List.range.loop, go_sem]

/-- An act's cells in its block. -/
theorem act_blk {w : World} {g : Nat} {a : A} (h : Blk w g 28 (acts a)) :
    w.cell? ⟨g, 0, none⟩ = some (.int .i64 a.kind) ∧ w.cell? ⟨g, 1, none⟩ = some (.int .i32 a.r) ∧ w.cell? ⟨g, 2, none⟩ = some (.int .u8 a.priv) ∧ w.cell? ⟨g, 3, none⟩ = some (.int .u8 a.mid) ∧ w.cell? ⟨g, 4, none⟩ = some (.int .i64 a.n) ∧
    w.cell? ⟨g, 5, none⟩ = some (.int .i64 a.n0) ∧ w.cell? ⟨g, 6, none⟩ = some (.int .i64 a.n1) ∧ w.cell? ⟨g, 7, none⟩ = some (.int .i64 a.n2) ∧ w.cell? ⟨g, 8, none⟩ = some (.int .i64 a.n3) ∧ w.cell? ⟨g, 9, none⟩ = some (.int .i64 a.n4) ∧
    w.cell? ⟨g, 10, none⟩ = some (.int .i64 a.n5) ∧ w.cell? ⟨g, 11, none⟩ = some (.int .i64 a.n6) ∧ w.cell? ⟨g, 12, none⟩ = some (.int .i64 a.n7) :=
  ⟨Blk.cell h 0, Blk.cell h 1, Blk.cell h 2, Blk.cell h 3, Blk.cell h 4, Blk.cell h 5, Blk.cell h 6, Blk.cell h 7, Blk.cell h 8, Blk.cell h 9, Blk.cell h 10, Blk.cell h 11, Blk.cell h 12⟩

/-- A number of the array, and of the act. -/
theorem want_at (ks : List Nat) (N r : Int) (m : Nat) (hm : m < 8) : ∃ y : Int, 0 ≤ y ∧ (wantOf ks)[m]? = some (.int .i64 y) ∧ (acts ⟨4, r, 0, 0, N, (ks.map worth).getD 0 0, (ks.map worth).getD 1 0, (ks.map worth).getD 2 0, (ks.map worth).getD 3 0, (ks.map worth).getD 4 0, (ks.map worth).getD 5 0, (ks.map worth).getD 6 0, (ks.map worth).getD 7 0⟩)[5 + m]? = some (.int .i64 y) := by
  match m, hm with
  | 0, _ => exact ⟨_, worth_nn ks 0, rfl, rfl⟩
  | 1, _ => exact ⟨_, worth_nn ks 1, rfl, rfl⟩
  | 2, _ => exact ⟨_, worth_nn ks 2, rfl, rfl⟩
  | 3, _ => exact ⟨_, worth_nn ks 3, rfl, rfl⟩
  | 4, _ => exact ⟨_, worth_nn ks 4, rfl, rfl⟩
  | 5, _ => exact ⟨_, worth_nn ks 5, rfl, rfl⟩
  | 6, _ => exact ⟨_, worth_nn ks 6, rfl, rfl⟩
  | 7, _ => exact ⟨_, worth_nn ks 7, rfl, rfl⟩

end Go.Proofs.Ytjjedmmenlfedaa
