/- The walk of the document's Bytes. -/
import Derived.Test.YtgjbieafjagchaaDoorPlainK
namespace Go.Proofs.YtgjbieafjagchaaDoor
open Go.RowKit
set_option maxRecDepth 100000

theorem conv_bytes (l : List UInt8) (g : Nat) (W : World) (hg : W.heap.size = g) (n : Nat) (hn : l.length = n) (cs : Array Value) (hcs : cs = (l.map fun b => Value.int .u8 b.toNat).toArray) :
    (convert 34 9 (.slice (some ⟨g, 0, none⟩) n n)).run Tryd.prog (W.alloc (.cells cs 5)) = .ok (.string ⟨l.toArray⟩) (W.alloc (.cells cs 5)) := by
  subst hg hn hcs
  exact run_convert_bytes_back (P := Tryd.prog) _ 34 9 5 ⟨W.heap.size, 0, none⟩ l.length l Tryd.underlying34 Tryd.underlying5 Tryd.underlying9 (fun j hj => by
    rw [Addr.add_lit, Nat.zero_add, Blk.cell (Blk.new W 5 _) j]
    simp [hj])

/-- What Bytes leaves, the program's and the document's. -/
def Byt (w : World) (l : List UInt8) (e : Ending) (w' : World) : Prop := e = .returned (.string ⟨l.toArray⟩) ∧ Below w.heap.size w w'

theorem app_bytes (x : List UInt8) (y : ByteArray) (z : List UInt8) (h : y.data.toList = z) : (⟨x.toArray⟩ : ByteArray) ++ y = ⟨(x ++ z).toArray⟩ := by
  apply ByteArray.ext
  rw [ByteArray.data_append]
  apply Array.toList_inj.1
  rw [Array.toList_append, h]

theorem one_byte (S : ByteArray) (k : Nat) (h : k < S.size) : (S.extract k (k + 1)).data.toList = [S[k]] := by
  have hl : k < S.data.toList.length := by rw [Array.length_toList]; exact h
  rw [ByteArray.data_extract, Array.toList_extract]
  simp only [List.extract_eq_take_drop]
  rw [List.drop_eq_getElem_cons hl]
  have e : k + 1 - k = 1 := by omega
  rw [e]
  rfl

theorem slice_one (s : ByteArray) (m : Nat) (h : m < s.size) (w : World) :
    (Instr.slice 9 (.string s) (some (.int .i64 m)) (some (.int .i64 ((m : Int) + 1))) none).run Tryd.prog w = .ok (.string (s.extract m (m + 1))) w := by
  have := run_slice_string (P := Tryd.prog) w 9 s .i64 .i64 (m : Int) ((m : Int) + 1) Tryd.underlying9 (by omega) (by omega) (by omega)
  rw [this]
  have e1 : (m : Int).toNat = m := by omega
  have e2 : ((m : Int) + 1).toNat = m + 1 := by omega
  rw [e1, e2]

theorem dbl_snoc (S : ByteArray) (k : Nat) (h : k < S.size) : dbl (S.data.toList.take (k + 1)) = dbl (S.data.toList.take k) ++ (if S[k] = 2 then [2, 2] else [S[k]]) := by
  have hl : k < S.data.toList.length := by rw [Array.length_toList]; exact h
  unfold dbl
  rw [List.take_succ_eq_append_getElem hl, List.flatMap_append]
  simp
  rfl

theorem dbl_len : ∀ l : List UInt8, (dbl l).length ≤ 2 * l.length := by
  intro l
  induction l with
  | nil => simp [dbl]
  | cons b r ih =>
    have e : dbl (b :: r) = (if b = 2 then [2, 2] else [b]) ++ dbl r := by simp [dbl]
    rw [e, List.length_append, List.length_cons]
    split <;> simp <;> omega

set_option maxHeartbeats 1600000 in
theorem RBytes_text (n : Int) (S : ByteArray) (hS : S.size ≤ 1000) (w : World) :
    Calls Tryd.prog 7 #[.agg #[.int .i64 1, .int .i64 n, .string S]] w (Byt w (dbl S.data.toList)) := by
  have hlS : S.data.toList.take S.size = S.data.toList := List.take_of_length_le (by rw [Array.length_toList]; exact Nat.le_refl _)
  go_enter Tryd.func7, Tryd.ntmps7
  go_wp2
  go_loop [3, 4] (fun t i => ∃ k : Nat, k ≤ S.size ∧ i = .int .i64 k ∧ t = .string ⟨(dbl (S.data.toList.take k)).toArray⟩) (fun _ i => S.size - (intOf i).toNat)
  case atStart => exact ⟨0, Nat.zero_le _, rfl, rfl⟩
  case round =>
    obtain ⟨k, hk, rfl, rfl⟩ := hrel
    by_cases hkl : k < S.size
    · have hsn := dbl_snoc S k hkl
      have hob := one_byte S k hkl
      have hlen : (dbl (S.data.toList.take k)).length ≤ 2000 := by
        have := dbl_len (S.data.toList.take k)
        rw [List.length_take] at this
        omega
      obtain ⟨b, hb⟩ : ∃ b, S[k] = b := ⟨_, rfl⟩
      rw [hb] at hsn hob
      have hsli := slice_one S k hkl
      have h1 := app_bytes (dbl (S.data.toList.take k)) _ _ hob
      have hE1 : (S.extract k (k + 1)).size = 1 := by simp; omega
      have h2 := app_bytes (dbl (S.data.toList.take k) ++ [b]) (⟨#[2]⟩ : ByteArray) [2] rfl
      rw [← h1] at h2
      have hsz : (⟨(dbl (S.data.toList.take k)).toArray⟩ : ByteArray).size = (dbl (S.data.toList.take k)).length := by
        show (dbl (S.data.toList.take k)).toArray.size = _
        simp
      have HSN := hide hsn
      have H1 := hide h1
      have H2 := hide h2
      clear hsn h1 h2 hob
      generalize S.extract k (k + 1) = E1 at hsli hE1 H1 H2
      generalize (⟨(dbl (S.data.toList.take k)).toArray⟩ : ByteArray) = T0 at H1 H2 hsz ⊢
      generalize dbl (S.data.toList.take k) = D at HSN H1 H2 hlen hsz
      have hs0 : T0.size ≤ 2000 := by omega
      clear hsz hlen
      have hs1 : ¬ (9223372036854775807 < T0.size + E1.size) := by omega
      have hs2 : ¬ (9223372036854775807 < T0.size + E1.size + 1) := by omega
      have HE1 := hide hE1
      clear hE1
      by_cases h2 : b = 2
      · have hb2 : ((b.toNat : Int) == 2) = true := by
          rw [beq_iff_eq, h2]
          rfl
        rw [if_pos h2] at HSN
        rw [h2] at H2
        clear h2
        go_wp2
        go_round
        case rel => exact ⟨k + 1, by omega, by go_num, by rw [HSN.out, H2.out]; simp⟩
        case measure => simp [intOf]; omega
      · have hb2 : ((b.toNat : Int) == 2) = false := by
          rw [beq_eq_false_iff_ne]
          intro e
          exact h2 (UInt8.toNat_inj.1 (by show b.toNat = 2; omega))
        rw [if_neg h2] at HSN
        go_wp2
        go_round
        case rel => exact ⟨k + 1, by omega, by go_num, by rw [HSN.out, H1.out]⟩
        case measure => simp [intOf]; omega
    · have hkk : k = S.size := by omega
      subst hkk
      rw [hlS]
      clear hlS
      go_wp2
      go_ret
      exact ⟨rfl, (Below.refl _ _).alloc (Nat.le_refl _) _⟩
end Go.Proofs.YtgjbieafjagchaaDoor
