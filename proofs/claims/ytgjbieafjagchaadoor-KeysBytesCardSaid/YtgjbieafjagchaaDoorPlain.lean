/- The plain mathematics of the keys layer: what a reader makes of bytes, key by key; that it does not matter where the bytes are parted, once texts are parted into their bytes; what two bytes behind one another give. No program occurs here. -/
import Derived.Lib.Bytealg
namespace Go.Proofs.YtgjbieafjagchaaDoor
namespace Keys

/-- A key: its kind, its number, its text. -/
structure K where
  kind : Int
  n : Int
  s : ByteArray

/-- No key. -/
def K0 : K := ⟨0, 0, ⟨#[]⟩⟩
/-- The text of one byte. -/
def txt (b : UInt8) : K := ⟨1, 0, ⟨#[b]⟩⟩

def marksL : List UInt8 := [37, 34, 111, 120, 99, 110, 112, 100, 91]
def movesL : List UInt8 := [104, 108, 107, 106]
def turnsL : List UInt8 := [107, 106, 117, 100, 103, 71]
def kindsL : List Int := [2, 3, 4, 5, 6, 7, 8, 13, 14]
def stepsL : List Int := [1, -1, 10, -10, 1000, -1000]

/-- What a byte behind 02 means. -/
def cmd (b : UInt8) : K :=
  if 0 ≤ Lib.indexByte marksL b then ⟨kindsL.getD (Lib.indexByte marksL b).toNat 0, 0, ⟨#[]⟩⟩
  else if 0 ≤ Lib.indexByte movesL b then ⟨10, Lib.indexByte movesL b + 1, ⟨#[]⟩⟩
  else if 49 ≤ b.toNat ∧ b.toNat ≤ 57 then ⟨9, (b.toNat : Int) - 48, ⟨#[]⟩⟩
  else if b.toNat = 2 then txt b
  else K0

/-- What a byte means while somebody copies. -/
def cop (b : UInt8) : K :=
  if 0 ≤ Lib.indexByte turnsL b then ⟨11, stepsL.getD (Lib.indexByte turnsL b).toNat 0, ⟨#[]⟩⟩
  else if b.toNat = 113 then ⟨12, 0, ⟨#[]⟩⟩
  else K0

/-- Whether somebody copies behind a key. -/
def fin (c : Bool) (k : K) : Bool := if k.kind = 14 then true else if k.kind = 12 then false else c

/-- What a byte means to a reader that copies (c), that has read 02 (p): the reader behind it, and the key. -/
def one (c p : Bool) (b : UInt8) : Bool × Bool × K :=
  if p then (fin c (cmd b), false, cmd b)
  else if b.toNat = 2 then (c, true, K0)
  else if c then (fin c (cop b), false, cop b)
  else (c, false, txt b)

/-- The last key's text is longer. -/
def join (out : List K) (s : ByteArray) : List K := out.modify (out.length - 1) fun k => { k with s := k.s ++ s }

/-- A key more. -/
def push (out : List K) (text direct : Bool) (k : K) : List K :=
  if k.kind = 1 ∧ text = true ∧ direct = true then join out k.s
  else if k.kind ≠ 0 then out ++ [k] else out

structure St where
  c : Bool
  p : Bool
  text : Bool
  out : List K

def stp (t : St) (b : UInt8) : St :=
  { c := (one t.c t.p b).1, p := (one t.c t.p b).2.1, text := decide ((one t.c t.p b).2.2.kind = 1), out := push t.out t.text (!t.p) (one t.c t.p b).2.2 }

def feed (c p : Bool) (l : List UInt8) : St := l.foldl stp ⟨c, p, false, []⟩

/-- A key, its text parted into its bytes. -/
def flat1 (k : K) : List K := (if k.kind = 1 then [] else [k]) ++ k.s.data.toList.map txt
def flat (l : List K) : List K := l.flatMap flat1

/-! ### That parting does not matter -/

/-- Behind bytes: whether somebody copies, whether 02 was read, and the keys parted. -/
def run : Bool → Bool → List UInt8 → Bool × Bool × List K
  | c, p, [] => (c, p, [])
  | c, p, b :: r =>
    let o := one c p b
    let q := run o.1 o.2.1 r
    (q.1, q.2.1, (if o.2.2.kind = 0 then [] else flat1 o.2.2) ++ q.2.2)

theorem run_append (l m : List UInt8) : ∀ c p, run c p (l ++ m) =
    ((run (run c p l).1 (run c p l).2.1 m).1, (run (run c p l).1 (run c p l).2.1 m).2.1, (run c p l).2.2 ++ (run (run c p l).1 (run c p l).2.1 m).2.2) := by
  induction l with
  | nil => intro c p; simp [run]
  | cons b r ih => intro c p; simp only [List.cons_append, run, ih, List.append_assoc]

/-- What is known of a row of keys as it grows: behind a text the last one is a text. -/
def Ok (text : Bool) (out : List K) : Prop := text = true → ∃ i k, out = i ++ [k] ∧ k.kind = 1

theorem modify_snoc {α : Type} (f : α → α) (k : α) : ∀ i : List α, (i ++ [k]).modify i.length f = i ++ [f k]
  | [] => rfl
  | a :: r => by simp only [List.cons_append, List.length_cons, List.modify_succ_cons, modify_snoc f k r]

theorem join_snoc (i : List K) (k : K) (s : ByteArray) : join (i ++ [k]) s = i ++ [{ k with s := k.s ++ s }] := by
  unfold join
  rw [List.length_append, List.length_singleton, Nat.add_sub_cancel, modify_snoc]

theorem ok_push (out : List K) (text direct : Bool) (k : K) (h : Ok text out) : Ok (decide (k.kind = 1)) (push out text direct k) := by
  intro hk
  have hk : k.kind = 1 := of_decide_eq_true hk
  unfold push
  by_cases hj : k.kind = 1 ∧ text = true ∧ direct = true
  · rw [if_pos hj]
    obtain ⟨i, x, rfl, hx⟩ := h hj.2.1
    rw [join_snoc]
    exact ⟨i, _, rfl, hx⟩
  · rw [if_neg hj, if_pos (by omega)]
    exact ⟨out, k, rfl, hk⟩

theorem flat_push (out : List K) (text direct : Bool) (k : K) (h : Ok text out) : flat (push out text direct k) = flat out ++ (if k.kind = 0 then [] else flat1 k) := by
  unfold push
  by_cases hj : k.kind = 1 ∧ text = true ∧ direct = true
  · rw [if_pos hj]
    obtain ⟨i, x, rfl, hx⟩ := h hj.2.1
    rw [join_snoc, if_neg (by omega)]
    simp [flat, flat1, hx, hj.1]
  · rw [if_neg hj]
    by_cases h0 : k.kind = 0
    · simp [h0]
    · simp [h0, flat]

theorem foldl_run (l : List UInt8) : ∀ t : St, Ok t.text t.out → (l.foldl stp t).c = (run t.c t.p l).1 ∧ (l.foldl stp t).p = (run t.c t.p l).2.1 ∧ flat (l.foldl stp t).out = flat t.out ++ (run t.c t.p l).2.2 ∧ Ok (l.foldl stp t).text (l.foldl stp t).out := by
  induction l with
  | nil => intro t h; simp [run, h]
  | cons b r ih =>
    intro t h
    have hk := ok_push t.out t.text (!t.p) (one t.c t.p b).2.2 h
    obtain ⟨h1, h2, h3, h4⟩ := ih (stp t b) hk
    refine ⟨h1, h2, ?_, h4⟩
    simp only [List.foldl_cons, run]
    rw [h3]
    simp only [stp]
    rw [flat_push _ _ _ _ h, List.append_assoc]

theorem feed_run (c p : Bool) (l : List UInt8) : (feed c p l).c = (run c p l).1 ∧ (feed c p l).p = (run c p l).2.1 ∧ flat (feed c p l).out = (run c p l).2.2 := by
  obtain ⟨h1, h2, h3, _⟩ := foldl_run l ⟨c, p, false, []⟩ (by intro h; simp at h)
  exact ⟨h1, h2, by simpa [flat, feed] using h3⟩

/-- HOWEVER KEYS ARE PARTED, THEY MEAN THE SAME. -/
theorem parted (c p : Bool) (l m : List UInt8) :
    (feed c p (l ++ m)).c = (feed (feed c p l).c (feed c p l).p m).c ∧ (feed c p (l ++ m)).p = (feed (feed c p l).c (feed c p l).p m).p ∧
    flat (feed c p (l ++ m)).out = flat ((feed c p l).out ++ (feed (feed c p l).c (feed c p l).p m).out) := by
  obtain ⟨a1, a2, a3⟩ := feed_run c p (l ++ m)
  obtain ⟨b1, b2, b3⟩ := feed_run c p l
  obtain ⟨d1, d2, d3⟩ := feed_run (feed c p l).c (feed c p l).p m
  have e := run_append l m c p
  rw [e] at a1 a2 a3
  have ff : ∀ x y : List K, flat (x ++ y) = flat x ++ flat y := fun x y => by unfold flat; exact List.flatMap_append
  refine ⟨?_, ?_, ?_⟩
  · rw [a1, d1, b1, b2]
  · rw [a2, d2, b1, b2]
  · rw [a3, ff, b3, d3, b1, b2]

/-! ### Bounds -/

theorem flat1_length (k : K) : (flat1 k).length ≤ 1 + k.s.size := by
  have e : k.s.data.toList.length = k.s.size := Array.length_toList
  unfold flat1
  rw [List.length_append, List.length_map, e]
  split
  · simp
  · simp

/-- How long the keys' texts are together, and how many keys there are. -/
def bulk (l : List K) : Nat := (l.map fun k => 1 + k.s.size).sum

theorem flat_length (l : List K) : (flat l).length ≤ bulk l := by
  induction l with
  | nil => simp [flat, bulk]
  | cons k r ih =>
    have h := flat1_length k
    have e1 : flat (k :: r) = flat1 k ++ flat r := rfl
    have e2 : bulk (k :: r) = (1 + k.s.size) + bulk r := by unfold bulk; rw [List.map_cons, List.sum_cons]
    rw [e1, e2, List.length_append]
    omega

theorem bulk_append (l m : List K) : bulk (l ++ m) = bulk l + bulk m := by simp [bulk]

theorem length_le_bulk (l : List K) : l.length ≤ bulk l := by
  induction l with
  | nil => simp
  | cons k r ih =>
    have e2 : bulk (k :: r) = (1 + k.s.size) + bulk r := by unfold bulk; rw [List.map_cons, List.sum_cons]
    rw [e2, List.length_cons]
    omega

theorem mem_le_bulk (l : List K) (k : K) (h : k ∈ l) : 1 + k.s.size ≤ bulk l := by
  induction l with
  | nil => cases h
  | cons x r ih =>
    have e2 : bulk (x :: r) = (1 + x.s.size) + bulk r := by unfold bulk; rw [List.map_cons, List.sum_cons]
    rw [e2]
    rcases List.mem_cons.1 h with rfl | h
    · omega
    · have := ih h; omega

theorem cmd_size (b : UInt8) : (cmd b).s.size ≤ 1 := by
  unfold cmd txt K0
  repeat' split
  all_goals simp [ByteArray.size]

theorem cop_size (b : UInt8) : (cop b).s.size ≤ 1 := by
  unfold cop K0
  repeat' split
  all_goals simp [ByteArray.size]

theorem one_size (c p : Bool) (b : UInt8) : (one c p b).2.2.s.size ≤ 1 := by
  have h1 := cmd_size b
  have h2 := cop_size b
  unfold one txt K0
  repeat' split
  all_goals first | exact h1 | exact h2 | simp [ByteArray.size]

theorem size_append (a b : ByteArray) : (a ++ b).size = a.size + b.size := by simp

theorem bulk_push (out : List K) (text direct : Bool) (k : K) (h : Ok text out) : bulk (push out text direct k) ≤ bulk out + 1 + k.s.size := by
  unfold push
  by_cases hj : k.kind = 1 ∧ text = true ∧ direct = true
  · rw [if_pos hj]
    obtain ⟨i, x, rfl, hx⟩ := h hj.2.1
    rw [join_snoc, bulk_append, bulk_append]
    simp [bulk]
    omega
  · rw [if_neg hj]
    by_cases h0 : k.kind = 0
    · simp [h0]; omega
    · simp [h0, bulk_append]
      simp [bulk]
      omega

theorem bulk_foldl (l : List UInt8) : ∀ t : St, Ok t.text t.out → bulk (l.foldl stp t).out ≤ bulk t.out + 2 * l.length := by
  induction l with
  | nil => intro t _; simp
  | cons b r ih =>
    intro t h
    have hk := ok_push t.out t.text (!t.p) (one t.c t.p b).2.2 h
    have h1 := ih (stp t b) hk
    have h2 := bulk_push t.out t.text (!t.p) (one t.c t.p b).2.2 h
    have h3 := one_size t.c t.p b
    simp only [List.foldl_cons, List.length_cons]
    simp only [stp] at h1 ⊢
    omega

theorem bulk_feed (c p : Bool) (l : List UInt8) : bulk (feed c p l).out ≤ 2 * l.length := by
  have := bulk_foldl l ⟨c, p, false, []⟩ (by intro h; simp at h)
  simpa [feed, bulk] using this

/-! ### One byte more -/

theorem feed_take (c p : Bool) (l : List UInt8) (k : Nat) (h : k < l.length) : feed c p (l.take (k + 1)) = stp (feed c p (l.take k)) l[k] := by
  rw [List.take_succ_eq_append_getElem h]
  unfold feed
  rw [List.foldl_append]
  rfl

theorem ok_feed (c p : Bool) (l : List UInt8) : Ok (feed c p l).text (feed c p l).out :=
  (foldl_run l ⟨c, p, false, []⟩ (by intro h; simp at h)).2.2.2

/-- A key as a value. -/
def K.val (k : K) : Value := .agg #[.int .i64 k.kind, .int .i64 k.n, .string k.s]
def K.cells (k : K) : List Value := [.int .i64 k.kind, .int .i64 k.n, .string k.s]

end Keys
end Go.Proofs.YtgjbieafjagchaaDoor
