/- The walk of beginning. -/
import Derived.Test.YthfgnjdekhfabaaDoorWalkB
import Derived.Deep.QuietTactic
import Derived.WalkMore
namespace Go.Proofs.YthfgnjdekhfabaaDoor
open Go.RowKit Ru
set_option maxRecDepth 100000

theorem cont_all : ((List.range 256).all fun b => (bits .and .u8 (b : Int) 192 != 128) == !(cont b)) = true := by kernel_rfl
theorem cont_bits (b : Nat) (h : b < 256) : (bits .and .u8 (b : Int) 192 != 128) = !(cont b) := by
  have := List.all_eq_true.1 cont_all b (List.mem_range.2 h)
  simpa using this

theorem goOn_le (f n : Nat) : ∀ (l : List UInt8) (i : Nat), i ≤ goOn f n i l ∧ goOn f n i l ≤ i + l.length := by
  intro l
  induction l with
  | nil => intro i; simp [goOn]
  | cons b t ih =>
    intro i
    unfold goOn
    split
    · have := ih (i + 1)
      simp only [List.length_cons]
      omega
    · simp

theorem get_bytes (s : ByteArray) (i : Nat) (h : i < s.size) : s.data.toList.drop i = s[i] :: s.data.toList.drop (i + 1) := by
  have hl : i < s.data.toList.length := by rw [Array.length_toList]; exact h
  rw [← List.getElem_cons_drop hl]
  congr 1

set_option maxHeartbeats 800000 in
theorem beginning_any (s : ByteArray) (w : World) (h0 : 0 < s.size) (h63 : s.size ≤ maxLen) : Calls Tryd.prog 36 #[.string s] w fun e w' => e = .returned (.int .i64 (begins s.data.toList)) ∧ ∃ m, w' = w.drewN m := by
  unfold maxLen at h63
  have hb : begins s.data.toList = goOn s[0].toNat (size s[0].toNat) 1 (s.data.toList.drop 1) := by
    have := get_bytes s 0 h0
    rw [List.drop_zero] at this
    rw [this]
    rfl
  rw [hb]
  clear hb
  obtain ⟨f, hf⟩ : ∃ f, s[0] = f := ⟨_, rfl⟩
  rw [hf]
  have hs4 : size f.toNat ≤ 4 := by
    unfold size
    repeat' split
    all_goals omega
  obtain ⟨n, hn⟩ : ∃ n, size f.toNat = n := ⟨_, rfl⟩
  have HSZ := hide (fun wx => size_any f.toNat wx)
  rw [hn] at HSZ hs4 ⊢
  clear hn
  obtain ⟨T, hT⟩ : ∃ T, goOn f.toNat n 1 (s.data.toList.drop 1) = T := ⟨_, rfl⟩
  rw [hT]
  have HT := hide hT
  clear hT
  have hz : (0 : Int) < (s.size : Int) := by omega
  go_enter Tryd.func36, Tryd.ntmps36
  go_wp2_with fail
  go_step3
  go_wp2_with fail
  refine (HSZ.out _).mono ?_
  rintro e w' ⟨rfl, rfl⟩
  dsimp only
  go_wp2_with fail
  go_step3
  go_wp2_with fail
  go_loopw [4] (fun i wr => ∃ k : Nat, 1 ≤ k ∧ k ≤ s.size ∧ k ≤ 5 ∧ i = .int .i64 k ∧ goOn f.toNat n k (s.data.toList.drop k) = T ∧ ∃ m, wr = w.drewN m) (fun i _ => s.size - (intOf i).toNat)
  case atStart => exact ⟨1, Nat.le_refl _, h0, by omega, rfl, HT.out, 0, rfl⟩
  case round =>
    obtain ⟨k, hk1, hks, hk5, rfl, hg, m, rfl⟩ := hrel
    by_cases hkn : k < n
    · by_cases hkl : k < s.size
      · have hd := get_bytes s k hkl
        rw [hd] at hg
        clear hd
        obtain ⟨b, hbb⟩ : ∃ b, s[k] = b := ⟨_, rfl⟩
        rw [hbb] at hg
        have hb256 : b.toNat < 256 := b.toNat_lt
        have hcb := cont_bits b.toNat hb256
        have HSE := hide (fun wx => second_any f.toNat b.toNat wx)
        by_cases hk : k = 1
        · subst hk
          cases hse : second f.toNat b.toNat with
          | false =>
            have e : T = 1 := by rw [← hg]; unfold goOn; rw [if_neg (by rw [hse]; intro h; exact absurd (h.2.1 rfl) (by decide))]
            clear hg hcb
            subst e
            rw [hse] at HSE
            go_wp2_with fail
            go_quiet ((go_at_call 41; exact quiet_add_left (HSE.out _)))
            go_wp2_with fail
            try rw [Exit.noGoto_ret]
            go_ret
            first | exact ⟨rfl, _, rfl⟩ | exact ⟨rfl, _, World.drewN_drewN ..⟩
          | true =>
            rw [hse] at HSE
            cases hco : cont b.toNat with
            | false =>
              have e : T = 1 := by rw [← hg]; unfold goOn; rw [if_neg (by rw [hco]; intro h; exact absurd h.2.2 (by decide))]
              rw [hco] at hcb
              clear hg
              subst e
              go_wp2_with fail
              go_quiet ((go_at_call 41; exact quiet_add_left (HSE.out _)))
              go_wp2_with fail
              try rw [Exit.noGoto_ret]
              go_ret
              first | exact ⟨rfl, _, rfl⟩ | exact ⟨rfl, _, World.drewN_drewN ..⟩
            | true =>
              have e : goOn f.toNat n (1 + 1) (s.data.toList.drop (1 + 1)) = T := by rw [← hg]; conv => rhs; unfold goOn; rw [if_pos ⟨hkn, fun _ => hse, hco⟩]
              rw [hco] at hcb
              have HE := hide e
              clear hg e
              go_wp2_with fail
              go_quiet ((go_at_call 41; exact quiet_add_left (HSE.out _)))
              go_wp2_with fail
              go_roundw
              case rel => exact ⟨1 + 1, by omega, by omega, by omega, rfl, HE.out, by first | exact ⟨_, rfl⟩ | exact ⟨_, World.drewN_drewN ..⟩⟩
              case measure => simp [intOf]; omega
        · have hk1' : ((k : Int) == 1) = false := by rw [beq_eq_false_iff_ne]; omega
          cases hco : cont b.toNat with
          | false =>
            have e : T = k := by rw [← hg]; unfold goOn; rw [if_neg (by rw [hco]; intro h; exact absurd h.2.2 (by decide))]
            rw [hco] at hcb
            clear hg
            subst e
            go_wp2_with fail
            go_quiet ((go_at_call 41; exact quiet_add_left (HSE.out _)))
            go_wp2_with fail
            try rw [Exit.noGoto_ret]
            go_ret
            first | exact ⟨rfl, _, rfl⟩ | exact ⟨rfl, _, World.drewN_drewN ..⟩
          | true =>
            have e : goOn f.toNat n (k + 1) (s.data.toList.drop (k + 1)) = T := by rw [← hg]; conv => rhs; unfold goOn; rw [if_pos ⟨hkn, fun h => absurd h hk, hco⟩]
            rw [hco] at hcb
            have HE := hide e
            clear hg e
            go_wp2_with fail
            go_quiet ((go_at_call 41; exact quiet_add_left (HSE.out _)))
            go_wp2_with fail
            go_roundw
            case rel => exact ⟨k + 1, by omega, by omega, by omega, by go_num, HE.out, by first | exact ⟨_, rfl⟩ | exact ⟨_, World.drewN_drewN ..⟩⟩
            case measure => simp [intOf]; omega
      · have e : T = k := by rw [← hg, List.drop_of_length_le (by rw [Array.length_toList]; exact Nat.le_of_not_lt hkl)]; rfl
        clear hg
        subst e
        go_wp2_with fail
        try rw [Exit.noGoto_ret]
        go_ret
        first | exact ⟨rfl, _, rfl⟩ | exact ⟨rfl, _, World.drewN_drewN ..⟩
    · have e : T = k := by
        rw [← hg]
        cases s.data.toList.drop k with
        | nil => rfl
        | cons b t => unfold goOn; rw [if_neg (by intro h; exact hkn h.1)]
      clear hg
      subst e
      go_wp2_with fail
      try rw [Exit.noGoto_ret]
      go_ret
      first | exact ⟨rfl, _, rfl⟩ | exact ⟨rfl, _, World.drewN_drewN ..⟩
end Go.Proofs.YthfgnjdekhfabaaDoor
