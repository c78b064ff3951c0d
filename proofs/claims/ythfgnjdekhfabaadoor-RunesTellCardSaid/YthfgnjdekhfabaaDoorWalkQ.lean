/- The walks of the document's Encode and Decode. -/
import Derived.Test.YthfgnjdekhfabaaDoorWalkP
namespace Go.Proofs.YthfgnjdekhfabaaDoor
open Go.RowKit Ru
set_option maxRecDepth 100000

set_option maxHeartbeats 1600000 in
theorem REncode_any (v : Value) (l : List Int) (w : World) (hv : Src w w.heap.size v l) (hl : l.length ≤ 1000) :
    Calls Tryd.prog 20 #[v] w (Encd w l) := by
  obtain ⟨A, c, rfl, hc⟩ := hv
  have HC := hide hc
  clear hc
  go_enter Tryd.func20, Tryd.ntmps20
  go_wp2
  go_loopw [3, 4] (fun t i wr => ∃ k : Nat, k ≤ l.length ∧ i = .int .i64 k ∧ t = .string (txt (enc (l.take k))) ∧ Below w.heap.size w wr) (fun _ i _ => l.length - (intOf i).toNat)
  case atStart => exact ⟨0, Nat.zero_le _, rfl, rfl, Below.refl _ _⟩
  case round =>
    obtain ⟨k, hk, rfl, rfl, hbel⟩ := hrel
    by_cases hkl : k < l.length
    · obtain ⟨g, off, rfl, hg, hcc⟩ := HC.out (by omega)
      have d0 : wr.cell? ⟨g, off + k, none⟩ = some (.int .i32 l[k]) := (hbel.cell (p := ⟨g, off + k, none⟩) hg).trans (hcc k hkl)
      have hlen : (txt (enc (l.take k))).size ≤ 4000 := by
        have h1 := enc_len (l.take k)
        rw [List.length_take] at h1
        rw [txt_size]
        omega
      have hO := one_any l[k] wr
      have hnext : txt (enc (l.take (k + 1))) = txt (enc (l.take k)) ++ (⟨(Lib.encodeRune l[k]).toArray⟩ : ByteArray) := by
        rw [enc_snoc l k hkl, txt_app]
        rfl
      have hr4 : (⟨(Lib.encodeRune l[k]).toArray⟩ : ByteArray).size ≤ 4 := by
        show (txt (Lib.encodeRune l[k])).size ≤ 4
        rw [txt_size]
        have := Lib.runeCells_le l[k]
        rw [Lib.runeCells_length] at this
        omega
      have HN := hide hnext
      have HO := hide hO
      have HB := hide hbel
      clear hcc hO hbel hnext
      generalize l[k] = K at d0 HO HN hr4
      unfold Oned at HO
      generalize (⟨(Lib.encodeRune K).toArray⟩ : ByteArray) = O at HO HN hr4
      generalize txt (enc (l.take k)) = T0 at hlen HN ⊢
      have hsum : ¬ (9223372036854775807 < T0.size + O.size) := by omega
      go_wp2_with fail
      refine HO.out.mono ?_
      rintro e w2 ⟨rfl, b2⟩
      have HB2 := hide (HB.out.trans (b2.mono HB.out.size))
      clear b2
      dsimp only
      go_wp2
      go_roundw
      case rel => exact ⟨k + 1, by omega, by go_num, by rw [HN.out], HB2.out⟩
      case measure => simp [intOf]; omega
    · have hkk : k = l.length := by omega
      subst hkk
      rw [List.take_length]
      have HB := hide hbel
      clear hbel
      go_wp2
      go_ret
      exact ⟨rfl, HB.out⟩

theorem dec_nil (s : ByteArray) (h : s.size = 0) : dec s = [] := by
  rw [dec_al, al_nil s h]
  rfl
/-- A text's characters: the first one, and those of the rest. -/
theorem dec_pos (s : ByteArray) (h0 : 0 < s.size) : dec s = (stp s s[0].toNat).1 :: dec (s.extract (stp s s[0].toNat).2.1 s.size) := by
  rw [dec_al, al_pos s h0]
  split
  · rename_i ho
    unfold stp at ho ⊢
    split at ho
    · cases ho
    · rename_i hz
      rw [if_neg hz]
      have hx := of_decide_eq_true ho
      dsimp only
      rw [dec_nil (s.extract (begins s.data.toList) s.size) (by simp; omega), if_neg (by omega)]
      rfl
  · rfl

/-- The loop's relation. -/
structure DAt (w : World) (T : List Int) (size : Nat) (cur : ByteArray) (v : Value) (out : List Int) (wr : World) : Prop where
  own : wr.ownsRow w.heap.size 21 1 v out.length (out.map (Value.int .i32))
  bel : Below w.heap.size w wr
  len : out.length + cur.size ≤ size
  eq : T = out ++ dec cur

set_option maxHeartbeats 1600000 in
theorem RDecode_any (s : ByteArray) (w : World) (h1000 : s.size ≤ 1000) : Calls Tryd.prog 19 #[.string s] w (Decd w s) := by
  obtain ⟨i0, hi, hz0, hz1, hz2⟩ := info_parts info_rune
  have hD : Decd w s = fun e w' => ∃ v, e = .returned v ∧ w'.ownsRow w.heap.size 21 1 v (dec s).length ((dec s).map (Value.int .i32)) ∧ Below w.heap.size w w' := rfl
  have hst : DAt w (dec s) s.size s (.slice none 0 0) [] w := ⟨World.ownsRow_nil _ _ _ _, Below.refl _ _, by simp, rfl⟩
  rw [hD]
  clear hD
  generalize dec s = T at hst ⊢
  have HST := hide hst
  clear hst
  go_enter Tryd.func19, Tryd.ntmps19
  go_wp2_with fail
  go_loopw [0, 3] (fun c v wr => ∃ (cur : ByteArray) (out : List Int), c = .string cur ∧ DAt w T s.size cur v out wr) (fun c _ _ => strLen c)
  case atStart => exact ⟨s, [], rfl, HST.out⟩
  case round =>
    obtain ⟨cur, out, rfl, hat⟩ := hrel
    by_cases hc : 0 < cur.size
    · have hne := nonempty_of cur hc
      have len := hat.len
      have eq := hat.eq
      rw [dec_pos cur hc] at eq
      have hF := first_any cur wr hc (by unfold maxLen; omega)
      have hnn := stp_n cur cur[0].toNat
      have hbl := begins_le cur hc
      generalize stp cur cur[0].toNat = q at hF hnn eq
      obtain ⟨r, n, o⟩ := q
      dsimp only at hnn eq
      rw [← hnn] at hbl
      clear hnn
      have HF := hide hF
      have HEQ := hide eq
      have HOW := hide hat.own
      have HBE := hide hat.bel
      clear hF eq hat
      go_wp2_with fail
      refine HF.out.mono ?_
      rintro e w2 ⟨rfl, b2⟩
      have hown2 := HOW.out.kept (only_of_below b2 none) (Classical.em _)
      have hbel2 : Below w.heap.size w w2 := HBE.out.trans (b2.mono HBE.out.size)
      have hpb := Blk.new w2 53 #[.int .i64 n, .int .i32 r, .bool o]
      have hup := hbel2.size
      have HO2 := hide hown2
      have HB2 := hide hbel2
      have HP2 := hide hpb
      clear hown2 hbel2 b2 hpb
      dsimp only
      go_wp2_with (at_builtin; refine wpList_append_own _ rfl _ _ 33 rfl w.heap.size 21 i0 _ 1 4 Tryd.underlying33 hi hz0 hz1 hz2 rfl (by decide) _ out.length (out.map (Value.int .i32)) rfl ((HO2.out.alloc _).alloc _) ⟨w2.heap.size + 1, 0, none⟩ 1 1 [Value.int .i32 r] rfl rfl ?c1 ?c2 ?c3 ?c4 ?c5 ?_)
      case c1 => exact rune_new _ _ (by simp) _ _
      case c2 => intro u hu; simp at hu; subst hu; rfl
      case c3 => unfold maxLen; omega
      case c4 => omega
      case c5 => simp; omega
      intro v3 w3 ho3 hg3 _
      have hne4 : some w2.heap.size ≠ u3.ownBlock := fun e => own_blk_ne (HO2.out.alloc _) HP2.out (by decide) e.symm
      have hp3 : Blk w3 w2.heap.size 53 #[.int .i64 n, .int .i32 r, .bool o] := Blk.grown (Blk.alloc HP2.out _) hg3 hne4
      have kp : w3.cell? ⟨w2.heap.size, 0, none⟩ = some (.int .i64 n) := Blk.cell hp3 0
      have hb3 : Below w.heap.size w w3 := ((HB2.out.alloc hup _).alloc (by simp; omega) _).grown hg3 (by simp; omega) (fun x hx => (HO2.out.lt x hx).1)
      have hn1 : (n : Int) ≤ (cur.size : Int) := by omega
      have hn0 : (0 : Int) ≤ (n : Int) := by omega
      have hfin : DAt w T s.size (cur.extract n cur.size) v3 (out ++ [r]) w3 := by
        refine ⟨?_, hb3, by rw [List.length_append, List.length_singleton]; simp; omega, ?_⟩
        · rw [List.map_append, List.length_append]
          exact ho3
        · rw [HEQ.out]
          simp
      have HFN := hide hfin
      clear hfin ho3 hg3 hne4 hp3 hb3
      go_wp2
      go_roundw
      case rel => exact ⟨_, _, rfl, HFN.out⟩
      case measure => simp [strLen]; omega
    · have h0 : cur.size = 0 := by omega
      have ecur := empty_of cur h0
      subst ecur
      have eq := hat.eq
      rw [dec_nil _ rfl, List.append_nil] at eq
      subst eq
      have HO := hide hat.own
      have HB := hide hat.bel
      clear hat
      go_wp2
      go_ret
      exact ⟨_, rfl, HO.out, HB.out⟩
end Go.Proofs.YthfgnjdekhfabaaDoor
