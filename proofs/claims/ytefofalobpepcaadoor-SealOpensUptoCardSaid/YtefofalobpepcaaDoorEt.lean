/-
  Chapter 1, plain: the reference's bits and numbers; what signs they give.
-/
import Derived.Test.YtefofalobpepcaaDoorEa
namespace Go.Proofs.YtefofalobpepcaaDoor.Se
set_option linter.unusedVariables false
set_option linter.unusedSimpArgs false

def bit (c : UInt8) (s : Nat) : Bool := decide (c.toNat / (128 / 2 ^ s) % 2 = 1)
def bt (c : UInt8) : List Bool := (List.range 8).map (bit c)
def bitsL (b : By) : List Bool := b.flatMap bt
def nb (l : List Bool) : Nat := l.foldl (fun a x => 2 * a + (if x then 1 else 0)) 0
theorem nb_go (l : List Bool) (a : Nat) : l.foldl (fun a x => 2 * a + (if x then 1 else 0)) a = a * 2 ^ l.length + nb l := by
  induction l generalizing a with
  | nil => simp [nb]
  | cons x l ih =>
    unfold nb
    rw [List.foldl_cons, ih, List.foldl_cons, ih, List.length_cons, Nat.pow_succ]
    rw [Nat.add_mul, Nat.mul_comm 2 a, Nat.mul_assoc, Nat.mul_comm 2 (2 ^ l.length)]
    simp only [Nat.mul_zero, Nat.zero_add]
    omega
theorem nb_app (x y : List Bool) : nb (x ++ y) = nb x * 2 ^ y.length + nb y := by
  unfold nb
  rw [List.foldl_append, nb_go]
  rfl
theorem nb_snoc (l : List Bool) (x : Bool) : nb (l ++ [x]) = 2 * nb l + (if x then 1 else 0) := by
  rw [nb_app]; simp [nb]; omega
theorem nb_lt (l : List Bool) : nb l < 2 ^ l.length := by
  induction l with
  | nil => simp [nb]
  | cons x l ih =>
    have := nb_app [x] l
    rw [List.singleton_append] at this
    rw [this, List.length_cons, Nat.pow_succ]
    have h1 : nb [x] ≤ 1 := by cases x <;> simp [nb]
    have : nb [x] * 2 ^ l.length ≤ 1 * 2 ^ l.length := Nat.mul_le_mul_right _ h1
    omega
theorem bt_len (c : UInt8) : (bt c).length = 8 := by simp [bt]
theorem bitsL_len (b : By) : (bitsL b).length = 8 * b.length := by
  induction b with
  | nil => rfl
  | cons c r ih => unfold bitsL at *; rw [List.flatMap_cons, List.length_append, bt_len, ih, List.length_cons]; omega
theorem all_u8t {p : UInt8 → Bool} (h : (List.range 256).all (fun n => p (UInt8.ofNat n)) = true) (c : UInt8) : p c = true := by
  have := List.all_eq_true.1 h c.toNat (by have := c.toNat_lt; simpa using this)
  simpa using this
theorem n6 (c : UInt8) : nb ((bt c).take 6) = c.toNat / 4 := by simpa using all_u8t (p := fun c => nb ((bt c).take 6) == c.toNat / 4) (by decide +kernel) c
theorem n2 (c : UInt8) : nb ((bt c).drop 6) = c.toNat % 4 := by simpa using all_u8t (p := fun c => nb ((bt c).drop 6) == c.toNat % 4) (by decide +kernel) c
theorem n4a (c : UInt8) : nb ((bt c).take 4) = c.toNat / 16 := by simpa using all_u8t (p := fun c => nb ((bt c).take 4) == c.toNat / 16) (by decide +kernel) c
theorem n4b (c : UInt8) : nb ((bt c).drop 4) = c.toNat % 16 := by simpa using all_u8t (p := fun c => nb ((bt c).drop 4) == c.toNat % 16) (by decide +kernel) c
theorem n2a (c : UInt8) : nb ((bt c).take 2) = c.toNat / 64 := by simpa using all_u8t (p := fun c => nb ((bt c).take 2) == c.toNat / 64) (by decide +kernel) c
theorem n6b (c : UInt8) : nb ((bt c).drop 2) = c.toNat % 64 := by simpa using all_u8t (p := fun c => nb ((bt c).drop 2) == c.toNat % 64) (by decide +kernel) c
theorem cut6 (x y : List Bool) (p n : Nat) (hx : x.length = 8) (hp : p ≤ 8) (hn : p + n = 14 ∨ True) : ((x ++ y).drop p).take n = (x.drop p).take n ++ y.take (n - (8 - p)) := by
  rw [List.drop_append_of_le_length (by omega), List.take_append, List.length_drop, hx]
theorem web_num (k : Nat) : ∀ m : By, m.length = 3 * k → ∀ j, j < 4 * k → (web m)[j]? = some (sg (nb (((bitsL m).drop (6 * j)).take 6))) := by
  induction k with
  | zero => intro m _ j hj; omega
  | succ k ih =>
    intro m hm j hj
    match m, hm with
    | a :: b :: c :: r, hm =>
      have hr : r.length = 3 * k := by simp at hm; omega
      have hb : bitsL (a :: b :: c :: r) = bt a ++ (bt b ++ (bt c ++ bitsL r)) := by simp [bitsL, List.flatMap_cons]
      have la := bt_len a
      have lb := bt_len b
      have lc := bt_len c
      rw [hb]
      by_cases h4 : j < 4
      · have : j = 0 ∨ j = 1 ∨ j = 2 ∨ j = 3 := by omega
        rcases this with rfl | rfl | rfl | rfl
        · have e : ((bt a ++ (bt b ++ (bt c ++ bitsL r))).drop (6 * 0)).take 6 = (bt a).take 6 := by
            rw [Nat.mul_zero, List.drop_zero, List.take_append_of_le_length (by omega)]
          rw [e, n6]; rfl
        · have e : ((bt a ++ (bt b ++ (bt c ++ bitsL r))).drop (6 * 1)).take 6 = (bt a).drop 6 ++ (bt b).take 4 := by
            rw [Nat.mul_one, List.drop_append_of_le_length (by omega), List.take_append, List.take_of_length_le (by rw [List.length_drop]; omega), List.length_drop, la, List.take_append_of_le_length (by omega)]
          rw [e, nb_app, n2, n4a, List.length_take, lb]; rfl
        · have e : ((bt a ++ (bt b ++ (bt c ++ bitsL r))).drop (6 * 2)).take 6 = (bt b).drop 4 ++ (bt c).take 2 := by
            rw [show 6 * 2 = 8 + 4 from rfl, ← List.drop_drop, ← la, List.drop_left, List.drop_append_of_le_length (by omega), List.take_append, List.take_of_length_le (by rw [List.length_drop]; omega), List.length_drop, lb, List.take_append_of_le_length (by omega)]
          rw [e, nb_app, n4b, n2a, List.length_take, lc]; rfl
        · have e : ((bt a ++ (bt b ++ (bt c ++ bitsL r))).drop (6 * 3)).take 6 = (bt c).drop 2 := by
            rw [show 6 * 3 = 8 + (8 + 2) from rfl, ← List.drop_drop, ← la, List.drop_left, ← List.drop_drop, la, ← lb, List.drop_left, List.drop_append_of_le_length (by omega), List.take_append_of_le_length (by rw [List.length_drop]; omega), List.take_of_length_le (by rw [List.length_drop]; omega)]
          rw [e, n6b]; rfl
      · obtain ⟨i, rfl⟩ : ∃ i, j = i + 4 := ⟨j - 4, by omega⟩
        have e : (bt a ++ (bt b ++ (bt c ++ bitsL r))).drop (6 * (i + 4)) = (bitsL r).drop (6 * i) := by
          rw [show 6 * (i + 4) = 8 + (8 + (8 + 6 * i)) from by omega, ← List.drop_drop, ← la, List.drop_left, ← List.drop_drop, la, ← lb, List.drop_left, ← List.drop_drop, lb, ← lc, List.drop_left]
        rw [e, ← ih r hr i (by omega)]
        show (web (a :: b :: c :: r))[i + 4]? = _
        simp [web]
theorem sg_val (n : Nat) (h : n < 64) : (sg n).toNat = if n < 26 then 65 + n else if n < 52 then 71 + n else if n < 62 then n - 4 else if n = 62 then 45 else 95 := by
  have : (List.range 64).all (fun n => (sg n).toNat == if n < 26 then 65 + n else if n < 52 then 71 + n else if n < 62 then n - 4 else if n = 62 then 45 else 95) = true := by decide +kernel
  simpa using List.all_eq_true.1 this n (by simpa using h)
end Go.Proofs.YtefofalobpepcaaDoor.Se
