/-
  Chapter 16, plain: tokens and their text, what a text is read as. No program here.
  (Texts put together: Ea Eb Ec Ed.)
-/
import Derived.Test.YtffllacphfapnaaGreatDoorG09
import Derived.Test.YtffllacphfapnaaGreatDoorG10
import Derived.Test.YtffllacphfapnaaGreatDoorG11
import Derived.Test.YtffllacphfapnaaGreatDoorG07
import Derived.Test.YtffllacphfapnaaGreatDoorG04
import Derived.LoopN
import Derived.Test.YtffllacphfapnaaGreatDoorShelf
import Derived.Deep.RegionHeld3
import Derived.Lib.AppendIntMem
namespace Go.Proofs.YtffllacphfapnaaGreatDoor.Se
set_option linter.unusedVariables false
abbrev By := List UInt8
/-- a token: its kind, its family, its number -/
structure Tk where
  kd : Int
  fam : By
  ser : Int
def sgn (c : UInt8) : Bool := (97 ≤ c.toNat && c.toNat ≤ 122) || (65 ≤ c.toNat && c.toNat ≤ 90) || (48 ≤ c.toNat && c.toNat ≤ 57) || c.toNat == 45 || c.toNat == 95
def Right (t : Tk) : Prop := t.fam.all sgn = true ∧ 1 ≤ t.kd ∧ t.kd ≤ 3 ∧ 1 ≤ t.fam.length ∧ t.fam.length ≤ 32 ∧ 0 ≤ t.ser ∧ t.ser ≤ 1099511627776
instance (t : Tk) : Decidable (Right t) := by unfold Right; infer_instance
def ltrs : By := [63, 99, 97, 114]
def ltr (k : Int) : UInt8 := ltrs.getD k.toNat 0
def head (t : Tk) : By := ltr t.kd :: 46 :: (t.fam ++ 46 :: (Lib.itoa t.ser ++ [46]))
/-- the web's signs -/
def webT : By := [65, 66, 67, 68, 69, 70, 71, 72, 73, 74, 75, 76, 77, 78, 79, 80, 81, 82, 83, 84, 85, 86, 87, 88, 89, 90, 97, 98, 99, 100, 101, 102, 103, 104, 105, 106, 107, 108, 109, 110, 111, 112, 113, 114, 115, 116, 117, 118, 119, 120, 121, 122, 48, 49, 50, 51, 52, 53, 54, 55, 56, 57, 45, 95]
def sg (n : Nat) : UInt8 := webT.getD n 0
/-- three bytes, four signs -/
def web : By → By
  | a :: b :: c :: r => sg (a.toNat / 4) :: sg (a.toNat % 4 * 16 + b.toNat / 16) :: sg (b.toNat % 16 * 4 + c.toNat / 64) :: sg (c.toNat % 64) :: web r
  | _ => []
def tag (sec h : By) : By := web ((Sh.mac sec h).take 12)
def mk (sec : By) (t : Tk) : By × Int := if Right t then (head t ++ tag sec (head t), 0) else ([], 1)
def cut (s : By) : Option (By × By) := if s.contains 46 then some (Cut.before s 46, Cut.after s 46) else none
def fit (s k f s3 : By) (v : Int) : Prop := k.length = 1 ∧ Right ⟨Lib.index ltrs k, f, v⟩ ∧ head ⟨Lib.index ltrs k, f, v⟩ ++ s3 = s ∧ s3.length = 16 ∧ s3.all sgn = true
instance (s k f s3 : By) (v : Int) : Decidable (fit s k f s3 v) := by unfold fit; infer_instance
def peek (s : By) : Option Tk := match cut s with
  | none => none
  | some (k, s1) => match cut s1 with
    | none => none
    | some (f, s2) => match cut s2 with
      | none => none
      | some (n, s3) => match Lib.atoiAll n with
        | .ok v => if fit s k f s3 v then some ⟨Lib.index ltrs k, f, v⟩ else none
        | _ => none
def zt : Tk := ⟨0, [], 0⟩
def opn (sec s : By) : Tk × Int := match peek s with
  | none => (zt, 3)
  | some t => if (mk sec t).1 = s then (t, 0) else (zt, 5)

theorem cut_at (a r : By) (h : ∀ c ∈ a, c ≠ 46) : cut (a ++ 46 :: r) = some (a, r) := by
  have hb : Cut.before (a ++ 46 :: r) 46 = a := by
    unfold Cut.before
    induction a with
    | nil => simp
    | cons x l ih =>
      have hx : (x != 46) = true := by simpa using h x (by simp)
      rw [List.cons_append, List.takeWhile_cons, if_pos hx, ih (fun c hc => h c (by simp [hc]))]
  unfold cut
  rw [if_pos (by simp)]
  unfold Cut.after
  rw [hb]
  simp
theorem sgn_ne (c : UInt8) (h : sgn c = true) : c ≠ 46 := by rintro rfl; revert h; decide
theorem itoa_ne46 (v : Int) (h : 0 ≤ v) : ∀ c ∈ Lib.itoa v, c ≠ 46 := by
  intro c hc e
  have := Js.itoa_isN v c hc
  rw [e] at this
  revert this; decide
theorem ltr_ne (k : Int) (h1 : 1 ≤ k) (h3 : k ≤ 3) : ltr k ≠ 46 ∧ Lib.index ltrs [ltr k] = k := by
  have : k = 1 ∨ k = 2 ∨ k = 3 := by omega
  rcases this with rfl | rfl | rfl <;> decide
/-- a text that begins as a right token's does -/
theorem peek_head (t : Tk) (g : By) (h : Right t) : peek (head t ++ g) = if g.length = 16 ∧ g.all sgn = true then some t else none := by
  obtain ⟨kd, fam, ser⟩ := t
  obtain ⟨h1, h2, h3, h4, h5, h6, h7⟩ := id h
  simp only at h1 h2 h3 h4 h5 h6 h7
  obtain ⟨l1, l2⟩ := ltr_ne kd h2 h3
  have e1 : cut (head ⟨kd, fam, ser⟩ ++ g) = some ([ltr kd], fam ++ 46 :: (Lib.itoa ser ++ 46 :: g)) := by
    have := cut_at [ltr kd] (fam ++ 46 :: (Lib.itoa ser ++ 46 :: g)) (by simpa using l1)
    rw [← this]; simp [head]
  have e2 := cut_at fam (Lib.itoa ser ++ 46 :: g) (fun c hc => sgn_ne c (List.all_eq_true.1 h1 c hc))
  have e3 := cut_at (Lib.itoa ser) g (itoa_ne46 ser h6)
  have e4 := Js.atoi_itoa ser (by omega) (by omega)
  unfold peek
  simp only [e1, e2, e3, e4, l2]
  have hf : fit (head ⟨kd, fam, ser⟩ ++ g) [ltr kd] fam g ser ↔ g.length = 16 ∧ g.all sgn = true := by
    unfold fit
    rw [l2]
    exact ⟨fun x => x.2.2.2, fun x => ⟨rfl, h, rfl, x.1, x.2⟩⟩
  by_cases hg : g.length = 16 ∧ g.all sgn = true
  · rw [if_pos hg, if_pos (hf.2 hg)]
  · rw [if_neg hg, if_neg (fun x => hg (hf.1 x))]
theorem peek_inv {s : By} {t : Tk} (h : peek s = some t) : Right t ∧ ∃ g, g.length = 16 ∧ g.all sgn = true ∧ s = head t ++ g := by
  unfold peek at h
  split at h
  · cases h
  · split at h
    · cases h
    · split at h
      · cases h
      · split at h
        · split at h
          · rename_i hf
            cases h
            exact ⟨hf.2.1, _, hf.2.2.2.1, hf.2.2.2.2, hf.2.2.1.symm⟩
          · cases h
        · cases h
theorem sg_sgn (n : Nat) (h : n < 64) : sgn (sg n) = true := by
  have : (List.range 64).all (fun n => sgn (sg n)) = true := by decide +kernel
  exact List.all_eq_true.1 this n (by simpa using h)
theorem web_ok (m : By) (k : Nat) (h : m.length = 3 * k) : (web m).length = 4 * k ∧ (web m).all sgn = true := by
  induction k generalizing m with
  | zero => have : m = [] := List.eq_nil_of_length_eq_zero (by omega); subst this; exact ⟨rfl, rfl⟩
  | succ k ih =>
    match m, h with
    | a :: b :: c :: r, h =>
      obtain ⟨i1, i2⟩ := ih r (by simp at h; omega)
      have ha := a.toNat_lt
      have hb := b.toNat_lt
      have hc := c.toNat_lt
      simp only [web, List.length_cons, i1, List.all_cons, i2, sg_sgn _ (show a.toNat / 4 < 64 by omega), sg_sgn _ (show a.toNat % 4 * 16 + b.toNat / 16 < 64 by omega), sg_sgn _ (show b.toNat % 16 * 4 + c.toNat / 64 < 64 by omega), sg_sgn _ (show c.toNat % 64 < 64 by omega)]
      exact ⟨by omega, rfl⟩
theorem tag_ok (sec h : By) : (tag sec h).length = 16 ∧ (tag sec h).all sgn = true :=
  web_ok _ 4 (by rw [List.length_take, Sh.mac_len]; rfl)
/-- what is made is read back -/
theorem peek_mk (sec : By) (t : Tk) (h : Right t) : peek (mk sec t).1 = some t := by
  unfold mk
  rw [if_pos h]
  simp only
  rw [peek_head t _ h, if_pos (tag_ok sec _)]
theorem opn_mk (sec : By) (t : Tk) (h : Right t) : opn sec (mk sec t).1 = (t, 0) := by
  unfold opn
  rw [peek_mk sec t h]
  simp
theorem dd_len (k u : Nat) (hk : 1 ≤ k) (h : u < 10 ^ k) : (Lib.decDigits u).length ≤ k := by
  induction k generalizing u with
  | zero => omega
  | succ k ih =>
    rw [Lib.decDigits]
    split
    · simp
    · rename_i hu
      have hk1 : 1 ≤ k := by
        rcases Nat.eq_zero_or_pos k with rfl | h0
        · simp at h; omega
        · exact h0
      have := ih (u / 10) hk1 (by rw [Nat.pow_succ] at h; omega)
      simp only [List.length_append, List.length_singleton]; omega
theorem head_len (t : Tk) (h : Right t) : (head t).length ≤ 60 := by
  obtain ⟨_, _, _, _, h5, h6, h7⟩ := h
  have h2 : (Lib.itoa t.ser).length ≤ 13 := by
    have e : Lib.itoa t.ser = Lib.decDigits t.ser.toNat := by unfold Lib.itoa; rw [if_neg (by omega)]
    rw [e]; exact dd_len 13 _ (by omega) (by omega)
  unfold head
  simp only [List.length_cons, List.length_append, List.length_nil]
  omega
end Go.Proofs.YtffllacphfapnaaGreatDoor.Se
namespace Go.Proofs.YtffllacphfapnaaGreatDoor.Se
open Go.RowKit
set_option linter.unusedVariables false
/-- what the first k bytes give: signs, and what is held -/
def six (b : By) : Nat → By × Nat
  | 0 => ([], 0)
  | k + 1 => if k % 3 = 0 then ((six b k).1 ++ [sg (((six b k).2 * 256 + (b.getD k 0).toNat) / 4)], ((six b k).2 * 256 + (b.getD k 0).toNat) % 4)
      else if k % 3 = 1 then ((six b k).1 ++ [sg (((six b k).2 * 256 + (b.getD k 0).toNat) / 16)], ((six b k).2 * 256 + (b.getD k 0).toNat) % 16)
      else ((six b k).1 ++ [sg (((six b k).2 * 256 + (b.getD k 0).toNat) / 64), sg (((six b k).2 * 256 + (b.getD k 0).toNat) % 64)], 0)
theorem six_held (b : By) (k : Nat) : (k % 3 = 0 → (six b k).2 = 0) ∧ (k % 3 = 1 → (six b k).2 < 4) ∧ (k % 3 = 2 → (six b k).2 < 16) := by
  cases k with
  | zero => simp [six]
  | succ k =>
    rw [six]
    by_cases h0 : k % 3 = 0
    · rw [if_pos h0]; exact ⟨fun h => by omega, fun _ => Nat.mod_lt _ (by decide), fun h => by omega⟩
    · rw [if_neg h0]
      by_cases h1 : k % 3 = 1
      · rw [if_pos h1]; exact ⟨fun h => by omega, fun h => by omega, fun _ => Nat.mod_lt _ (by decide)⟩
      · rw [if_neg h1]; exact ⟨fun _ => rfl, fun h => by omega, fun h => by omega⟩
theorem six_web (b : By) (q : Nat) : ∀ r : By, b.length = 3 * q + r.length → b = b.take (3 * q) ++ r → r.length % 3 = 0 → (six b b.length).1 = (six b (3 * q)).1 ++ web r := by
  intro r
  generalize hn : r.length = n
  induction n using Nat.strongRecOn generalizing q r with
  | _ n ih =>
    intro hl hb h3
    match r, hn with
    | [], hn => simp at hn; subst hn; rw [show b.length = 3 * q by omega]; simp [web]
    | [_], hn => simp at hn; omega
    | [_, _], hn => simp at hn; omega
    | x :: y :: z :: t, hn =>
      have hlen : (b.take (3 * q)).length = 3 * q := by rw [List.length_take]; omega
      have hx : b.getD (3 * q) 0 = x := by rw [hb, List.getD_eq_getElem?_getD, List.getElem?_append_right (by omega), hlen]; simp
      have hy : b.getD (3 * q + 1) 0 = y := by rw [hb, List.getD_eq_getElem?_getD, List.getElem?_append_right (by omega), hlen]; simp
      have hz : b.getD (3 * q + 2) 0 = z := by rw [hb, List.getD_eq_getElem?_getD, List.getElem?_append_right (by omega), hlen]; simp [show 3 * q + 2 - 3 * q = 2 by omega]
      have h0 := (six_held b (3 * q)).1 (by omega)
      have s1 : six b (3 * q + 1) = ((six b (3 * q)).1 ++ [sg (x.toNat / 4)], x.toNat % 4) := by
        rw [six, if_pos (by omega), hx, h0]; simp
      have s2 : six b (3 * q + 2) = ((six b (3 * q)).1 ++ [sg (x.toNat / 4), sg (x.toNat % 4 * 16 + y.toNat / 16)], y.toNat % 16) := by
        rw [show 3 * q + 2 = (3 * q + 1) + 1 from rfl, six, if_neg (by omega), if_pos (by omega), hy, s1]
        simp only [List.append_assoc, List.singleton_append]
        have hy2 := y.toNat_lt
        rw [show (x.toNat % 4 * 256 + y.toNat) / 16 = x.toNat % 4 * 16 + y.toNat / 16 by omega, show (x.toNat % 4 * 256 + y.toNat) % 16 = y.toNat % 16 by omega]
      have s3 : six b (3 * q + 3) = ((six b (3 * q)).1 ++ [sg (x.toNat / 4), sg (x.toNat % 4 * 16 + y.toNat / 16), sg (y.toNat % 16 * 4 + z.toNat / 64), sg (z.toNat % 64)], 0) := by
        rw [show 3 * q + 3 = (3 * q + 2) + 1 from rfl, six, if_neg (by omega), if_neg (by omega), hz, s2]
        simp only [List.append_assoc, List.cons_append, List.nil_append]
        have hz2 := z.toNat_lt
        rw [show (y.toNat % 16 * 256 + z.toNat) / 64 = y.toNat % 16 * 4 + z.toNat / 64 by omega, show (y.toNat % 16 * 256 + z.toNat) % 64 = z.toNat % 64 by omega]
      have hb2 : b = b.take (3 * (q + 1)) ++ t := by
        have h1 : b.take (3 * (q + 1)) = b.take (3 * q) ++ [x, y, z] := by
          conv => lhs; rw [hb]
          rw [List.take_append, List.take_of_length_le (by omega), hlen, show 3 * (q + 1) - 3 * q = 3 by omega]; simp
        rw [h1, List.append_assoc]; exact hb
      simp at hn
      rw [ih t.length (by omega) (q + 1) t rfl (by omega) hb2 (by omega), show 3 * (q + 1) = 3 * q + 3 by omega, s3]
      simp [web]
theorem six_all (b : By) (h : b.length % 3 = 0) : (six b b.length).1 = web b := by
  have := six_web b 0 b (by omega) (by simp) h
  rw [this]; simp [six]
theorem six_len (b : By) (k : Nat) : (six b k).1.length ≤ 2 * k := by
  induction k with
  | zero => simp [six]
  | succ k ih =>
    rw [six]
    split
    · simp; omega
    · split
      · simp; omega
      · simp; omega
theorem or_in (y x : Nat) (hy : y < 16) (hx : x < 256) : bits .or .i64 ((y : Int) * 256) (x : Int) = ((y * 256 + x : Nat) : Int) := by
  have key : ∀ y : Fin 16, ∀ a : Fin 16, ∀ b : Fin 16, bits .or .i64 ((y.val : Int) * 256) ((16 * a.val + b.val : Nat) : Int) = ((y.val * 256 + (16 * a.val + b.val) : Nat) : Int) := by decide +kernel
  have := key ⟨y, hy⟩ ⟨x / 16, by omega⟩ ⟨x % 16, by omega⟩
  simp only [Nat.div_add_mod] at this
  exact this
theorem and_3 (v : Nat) (h : v < 256) : bits .and .i64 (v : Int) 3 = ((v % 4 : Nat) : Int) := by
  have key : ∀ a : Fin 16, ∀ b : Fin 16, bits .and .i64 ((16 * a.val + b.val : Nat) : Int) 3 = (((16 * a.val + b.val) % 4 : Nat) : Int) := by decide +kernel
  have := key ⟨v / 16, by omega⟩ ⟨v % 16, by omega⟩
  simp only [Nat.div_add_mod] at this
  exact this
theorem and_15 (v : Nat) (h : v < 1024) : bits .and .i64 (v : Int) 15 = ((v % 16 : Nat) : Int) := by
  have key : ∀ a : Fin 64, ∀ b : Fin 16, bits .and .i64 ((16 * a.val + b.val : Nat) : Int) 15 = (((16 * a.val + b.val) % 16 : Nat) : Int) := by decide +kernel
  have := key ⟨v / 16, by omega⟩ ⟨v % 16, by omega⟩
  simp only [Nat.div_add_mod] at this
  exact this
theorem and_63 (v : Nat) (h : v < 4096) : bits .and .i64 (v : Int) 63 = ((v % 64 : Nat) : Int) := by
  have key : ∀ a : Fin 64, ∀ b : Fin 64, bits .and .i64 ((64 * a.val + b.val : Nat) : Int) 63 = (((64 * a.val + b.val) % 64 : Nat) : Int) := by decide +kernel
  have := key ⟨v / 64, by omega⟩ ⟨v % 64, by omega⟩
  simp only [Nat.div_add_mod] at this
  exact this
theorem and_0 (v : Nat) (h : v < 64) : bits .and .i64 (v : Int) 0 = 0 := by
  have key : ∀ v : Fin 64, bits .and .i64 (v.val : Int) 0 = 0 := by decide +kernel
  exact key ⟨v, h⟩
theorem ixw (u : Nat) (h : u < 64) (w : World) : (Instr.index 9 (.string ⟨webT.toArray⟩) (.int .i64 (u : Int))).run Tryz.prog w = .ok (.int .u8 ((sg u).toNat : Int)) w := by
  have key : ∀ n : Fin 64, (⟨webT.toArray⟩ : ByteArray).data[n.val]? = some (sg n.val) := by decide +kernel
  have h2 := key ⟨u, h⟩
  have hz : (⟨webT.toArray⟩ : ByteArray).size = 64 := by decide
  obtain ⟨h4, h5⟩ := Array.getElem?_eq_some_iff.1 h2
  exact ix_str ⟨webT.toArray⟩ u (by rw [hz]; exact h) (sg u) h5 w
theorem rd_oneb (W : World) (c : UInt8) : Rd (W.alloc (.cells #[.int .u8 (c.toNat : Int)] 5)) 1 (.slice (some ⟨W.heap.size, 0, none⟩) 1 1) 1 (Lib.byteCells [c]) :=
  ⟨rfl, .inr ⟨W.heap.size, 0, 1, rfl, Nat.le_refl _, fun j u hj => by have := cells_new W [.int .u8 (c.toNat : Int)] 5 j u hj; rw [Addr.add_lit] at this; exact this⟩⟩
theorem info_p {P : Program} {t : TypeId} {z : Value} {s b : Nat} (h : (P.info? t).map (fun i => (i.zero, i.size, i.bytes)) = some (some z, s, b)) : ∃ i, P.info? t = some i ∧ i.zero = some z ∧ i.size = s ∧ i.bytes = b := by
  cases hi : P.info? t with
  | none => rw [hi] at h; cases h
  | some i => rw [hi] at h; simp at h; exact ⟨i, rfl, h.1, h.2.1, h.2.2⟩
end Go.Proofs.YtffllacphfapnaaGreatDoor.Se
namespace Go.Proofs.YtffllacphfapnaaGreatDoor.Se
open Go.RowKit
set_option linter.unusedVariables false

set_option maxRecDepth 20000 in
set_option maxHeartbeats 4000000 in
theorem sixes_any (v : Value) (b : By) (w : World) (h : Rd w 1 v b.length (Lib.byteCells b)) (h3 : b.length % 3 = 0) (hl : b.length ≤ 1000000) :
    Calls Tryz.prog 92 #[.string ⟨webT.toArray⟩, v] w fun e w' => ∃ v', e = .returned v' ∧ w'.ownsRow w.heap.size 5 1 v' (web b).length (Lib.byteCells (web b)) ∧ Below w.heap.size w w' := by
  obtain ⟨ba, bc, rfl⟩ := h.slice
  obtain ⟨i0, hi, hz0, hz1, hz2⟩ := info_p u8_row
  have HR := Lib.hid h
  obtain ⟨tb, htb⟩ : ∃ tb, tb = (⟨webT.toArray⟩ : ByteArray) := ⟨_, rfl⟩
  rw [← htb]
  clear h
  go_enter Tryz.func92, Tryz.ntmps92
  go_wp2_with fail
  go_loopw [5, 6, 7, 12] (fun s h bt i wr => ∃ (k y : Nat), k ≤ b.length ∧ i = .int .i64 k ∧ y = (six b k).2 ∧ h = .int .i64 y ∧ bt = .int .i64 ((2 * (k % 3) : Nat) : Int) ∧ wr.ownsRow w.heap.size 5 1 s (six b k).1.length (Lib.byteCells (six b k).1) ∧ Below w.heap.size w wr) (fun _ _ _ i _ => b.length - (intOf i).toNat)
  case atStart => exact ⟨0, 0, by omega, rfl, rfl, rfl, rfl, ⟨by simp [six, Lib.byteCells], .inl ⟨rfl, rfl⟩⟩, Below.refl _ _⟩
  case round =>
    obtain ⟨k, y, hk, rfl, hy, rfl, rfl, ho, hb⟩ := hrel
    by_cases hlt : k < b.length
    case pos =>
      have hv := HR.out.below hb
      obtain ⟨pb, po, pc, e1, hpc, hcs⟩ := hv.pos (by omega)
      cases e1
      obtain ⟨x, hx⟩ : ∃ x, x = b.getD k 0 := ⟨_, rfl⟩
      have hcell := hcs k (.int .u8 (x.toNat : Int)) (by unfold Lib.byteCells; rw [List.getElem?_map, List.getElem?_eq_getElem hlt, hx, List.getD_eq_getElem?_getD, List.getElem?_eq_getElem hlt]; rfl)
      have k0 : (k : Int) < (b.length : Int) := by omega
      have hxl : x.toNat < 256 := x.toNat_lt
      obtain ⟨sa, sc, hsl⟩ := (Rd.of_own ho).slice
      subst hsl
      have hh := six_held b k
      have HQL : Hid ((six b k).1.length ≤ 2000000) := Lib.hid (Nat.le_trans (six_len b k) (by omega))
      have hS : six b (k + 1) = _ := six.eq_2 b k
      rw [← hx, ← hy] at hS
      rw [← hy] at hh
      obtain ⟨q, hq⟩ : ∃ q, q = (six b k).1 := ⟨_, rfl⟩
      rw [← hq] at hS ho HQL ⊢
      have h3c : k % 3 = 0 ∨ k % 3 = 1 ∨ k % 3 = 2 := by omega
      clear hv hcs hq hy h3 hx
      rcases h3c with h3c | h3c | h3c
      case inl =>
        have hyl : y < 1 := by have := hh.1 h3c; omega
        rw [if_pos h3c] at hS
        have hb0 : ((2 * (k % 3) : Nat) : Int) = 0 := by omega
        rw [hb0]
        obtain ⟨v, hv⟩ : ∃ v, v = y * 256 + x.toNat := ⟨_, rfl⟩
        rw [← hv] at hS
        have hvl : v < 256 := by omega
        have e0 : bits .or .i64 ((y : Int) * 256) (x.toNat : Int) = (v : Int) := by rw [hv]; exact or_in y x.toNat (by omega) hxl
        obtain ⟨u, hu⟩ : ∃ u, u = v / 4 := ⟨_, rfl⟩
        obtain ⟨r, hr⟩ : ∃ r, r = v % 4 := ⟨_, rfl⟩
        have e1 : (v : Int) / 4 = (u : Int) := by rw [hu]; exact (Int.natCast_ediv v 4).symm
        have e2 := ixw u (by rw [hu]; omega)
        have e3 : bits .and .i64 (v : Int) 3 = (r : Int) := by rw [hr]; exact and_3 v hvl
        rw [← htb] at e2
        have hrl : r < 4 := by rw [hr]; exact Nat.mod_lt _ (by decide)
        rw [← hu, ← hr] at hS
        have HS := Lib.hid hS
        have HIX := Lib.hid e2
        have hyl2 : y < 16 := by omega
        have hul : u < 64 := by rw [hu]; omega
        clear hS hh hb0 hyl hu hr hv htb HIX
        go_wp2_with fail
        go_step3
        go_wp2_with fail
        go_step3
        go_wp2_with fail
        refine wp_loop_rounds 2 ?_
        rw [rounds_succ]
        have hba1 : w.heap.size ≤ (wr.alloc (.cells #[.int .u8 ((sg u).toNat : Int)] 5)).heap.size := by rw [World.size_alloc]; exact Nat.le_succ_of_le hb.size
        go_wp2_with (at_builtin; go_loud (refine wpList_app rfl (.tmp 27) (.tmp 33) 36 rfl 5 w.heap.size i0 (.int .u8 0) 1 1 Tryz.underlying36 hi hz0 hz1 hz2 rfl (by decide) _ _ _ rfl (ho.alloc _) (.slice (some ⟨wr.heap.size, 0, none⟩) 1 1) 1 (Lib.byteCells [sg u]) rfl (rd_oneb wr _) (byte_one _) (by have := HQL.out; unfold maxLen; omega) (by have := HQL.out; omega) hba1 ?_))
        rintro v1 w1 o1 hg1 -
        have hb1 : Below w.heap.size w w1 := below_app hb hb.size hg1 (fun j e => (ho.lt j e).1)
        have o1c := own_cast (m := (q ++ [sg u]).length) (ys := Lib.byteCells (q ++ [sg u])) o1 (by rw [List.length_append, List.length_singleton]) (by rw [bc_append])
        obtain ⟨q1, hq1⟩ : ∃ z, z = q ++ [sg u] := ⟨_, rfl⟩
        rw [← hq1] at o1c
        have HQ1 := Lib.hid hq1
        have HQ1L : Hid (q1.length ≤ 2000000 + 1) := Lib.hid (by have := HQL.out; rw [hq1, List.length_append, List.length_singleton]; omega)
        obtain ⟨sa1, sc1, hsl1⟩ := (Rd.of_own o1c).slice
        subst hsl1
        clear o1 hg1 hba1 hq1
        go_wp2_with fail
        rw [rounds_succ]
        go_wp2_with fail
        apply_assumption
        go_wp2_with fail
        go_roundw
        case rel => exact ⟨k + 1, r, by omega, by go_num, by rw [HS.out], rfl, by rw [show (2 * ((k + 1) % 3) : Nat) = 2 by omega]; rfl, own_cast o1c (by rw [HS.out, HQ1.out]; try simp) (by rw [HS.out, HQ1.out]; try simp), hb1⟩
        case measure => simp [intOf]; omega
      case inr.inl =>
        have hyl : y < 4 := by have := hh.2.1 h3c; omega
        rw [if_neg (by omega), if_pos h3c] at hS
        have hb0 : ((2 * (k % 3) : Nat) : Int) = 2 := by omega
        rw [hb0]
        obtain ⟨v, hv⟩ : ∃ v, v = y * 256 + x.toNat := ⟨_, rfl⟩
        rw [← hv] at hS
        have hvl : v < 1024 := by omega
        have e0 : bits .or .i64 ((y : Int) * 256) (x.toNat : Int) = (v : Int) := by rw [hv]; exact or_in y x.toNat (by omega) hxl
        obtain ⟨u, hu⟩ : ∃ u, u = v / 16 := ⟨_, rfl⟩
        obtain ⟨r, hr⟩ : ∃ r, r = v % 16 := ⟨_, rfl⟩
        have e1 : (v : Int) / 16 = (u : Int) := by rw [hu]; exact (Int.natCast_ediv v 16).symm
        have e2 := ixw u (by rw [hu]; omega)
        have e3 : bits .and .i64 (v : Int) 15 = (r : Int) := by rw [hr]; exact and_15 v hvl
        rw [← htb] at e2
        have hrl : r < 16 := by rw [hr]; exact Nat.mod_lt _ (by decide)
        rw [← hu, ← hr] at hS
        have HS := Lib.hid hS
        have HIX := Lib.hid e2
        have hyl2 : y < 16 := by omega
        have hul : u < 64 := by rw [hu]; omega
        clear hS hh hb0 hyl hu hr hv htb HIX
        go_wp2_with fail
        go_step3
        go_wp2_with fail
        go_step3
        go_wp2_with fail
        refine wp_loop_rounds 2 ?_
        rw [rounds_succ]
        have hba1 : w.heap.size ≤ (wr.alloc (.cells #[.int .u8 ((sg u).toNat : Int)] 5)).heap.size := by rw [World.size_alloc]; exact Nat.le_succ_of_le hb.size
        go_wp2_with (at_builtin; go_loud (refine wpList_app rfl (.tmp 27) (.tmp 33) 36 rfl 5 w.heap.size i0 (.int .u8 0) 1 1 Tryz.underlying36 hi hz0 hz1 hz2 rfl (by decide) _ _ _ rfl (ho.alloc _) (.slice (some ⟨wr.heap.size, 0, none⟩) 1 1) 1 (Lib.byteCells [sg u]) rfl (rd_oneb wr _) (byte_one _) (by have := HQL.out; unfold maxLen; omega) (by have := HQL.out; omega) hba1 ?_))
        rintro v1 w1 o1 hg1 -
        have hb1 : Below w.heap.size w w1 := below_app hb hb.size hg1 (fun j e => (ho.lt j e).1)
        have o1c := own_cast (m := (q ++ [sg u]).length) (ys := Lib.byteCells (q ++ [sg u])) o1 (by rw [List.length_append, List.length_singleton]) (by rw [bc_append])
        obtain ⟨q1, hq1⟩ : ∃ z, z = q ++ [sg u] := ⟨_, rfl⟩
        rw [← hq1] at o1c
        have HQ1 := Lib.hid hq1
        have HQ1L : Hid (q1.length ≤ 2000000 + 1) := Lib.hid (by have := HQL.out; rw [hq1, List.length_append, List.length_singleton]; omega)
        obtain ⟨sa1, sc1, hsl1⟩ := (Rd.of_own o1c).slice
        subst hsl1
        clear o1 hg1 hba1 hq1
        go_wp2_with fail
        rw [rounds_succ]
        go_wp2_with fail
        apply_assumption
        go_wp2_with fail
        go_roundw
        case rel => exact ⟨k + 1, r, by omega, by go_num, by rw [HS.out], rfl, by rw [show (2 * ((k + 1) % 3) : Nat) = 4 by omega]; rfl, own_cast o1c (by rw [HS.out, HQ1.out]; try simp) (by rw [HS.out, HQ1.out]; try simp), hb1⟩
        case measure => simp [intOf]; omega
      case inr.inr =>
        have hyl : y < 16 := by have := hh.2.2 h3c; omega
        rw [if_neg (by omega), if_neg (by omega)] at hS
        have hb0 : ((2 * (k % 3) : Nat) : Int) = 4 := by omega
        rw [hb0]
        obtain ⟨v, hv⟩ : ∃ v, v = y * 256 + x.toNat := ⟨_, rfl⟩
        rw [← hv] at hS
        have hvl : v < 4096 := by omega
        have e0 : bits .or .i64 ((y : Int) * 256) (x.toNat : Int) = (v : Int) := by rw [hv]; exact or_in y x.toNat (by omega) hxl
        obtain ⟨u, hu⟩ : ∃ u, u = v / 64 := ⟨_, rfl⟩
        obtain ⟨r, hr⟩ : ∃ r, r = v % 64 := ⟨_, rfl⟩
        have e1 : (v : Int) / 64 = (u : Int) := by rw [hu]; exact (Int.natCast_ediv v 64).symm
        have e2 := ixw u (by rw [hu]; omega)
        have e3 : bits .and .i64 (v : Int) 63 = (r : Int) := by rw [hr]; exact and_63 v hvl
        rw [← htb] at e2
        have hrl : r < 64 := by rw [hr]; exact Nat.mod_lt _ (by decide)
        rw [← hu, ← hr] at hS
        have HS := Lib.hid hS
        have HIX := Lib.hid e2
        have hyl2 : y < 16 := by omega
        have hul : u < 64 := by rw [hu]; omega
        have e4 := ixw r (by omega)
        rw [← htb] at e4
        have e5 := and_0 r (by omega)
        clear hS hh hb0 hyl hu hr hv htb HIX
        go_wp2_with fail
        go_step3
        go_wp2_with fail
        go_step3
        go_wp2_with fail
        refine wp_loop_rounds 3 ?_
        rw [rounds_succ]
        have hba1 : w.heap.size ≤ (wr.alloc (.cells #[.int .u8 ((sg u).toNat : Int)] 5)).heap.size := by rw [World.size_alloc]; exact Nat.le_succ_of_le hb.size
        go_wp2_with (at_builtin; go_loud (refine wpList_app rfl (.tmp 27) (.tmp 33) 36 rfl 5 w.heap.size i0 (.int .u8 0) 1 1 Tryz.underlying36 hi hz0 hz1 hz2 rfl (by decide) _ _ _ rfl (ho.alloc _) (.slice (some ⟨wr.heap.size, 0, none⟩) 1 1) 1 (Lib.byteCells [sg u]) rfl (rd_oneb wr _) (byte_one _) (by have := HQL.out; unfold maxLen; omega) (by have := HQL.out; omega) hba1 ?_))
        rintro v1 w1 o1 hg1 -
        have hb1 : Below w.heap.size w w1 := below_app hb hb.size hg1 (fun j e => (ho.lt j e).1)
        have o1c := own_cast (m := (q ++ [sg u]).length) (ys := Lib.byteCells (q ++ [sg u])) o1 (by rw [List.length_append, List.length_singleton]) (by rw [bc_append])
        obtain ⟨q1, hq1⟩ : ∃ z, z = q ++ [sg u] := ⟨_, rfl⟩
        rw [← hq1] at o1c
        have HQ1 := Lib.hid hq1
        have HQ1L : Hid (q1.length ≤ 2000000 + 1) := Lib.hid (by have := HQL.out; rw [hq1, List.length_append, List.length_singleton]; omega)
        obtain ⟨sa1, sc1, hsl1⟩ := (Rd.of_own o1c).slice
        subst hsl1
        clear o1 hg1 hba1 hq1
        go_wp2_with fail
        rw [rounds_succ]
        have hba2 : w.heap.size ≤ (w1.alloc (.cells #[.int .u8 ((sg r).toNat : Int)] 5)).heap.size := by rw [World.size_alloc]; exact Nat.le_succ_of_le hb1.size
        go_wp2_with (at_builtin; go_loud (refine wpList_app rfl (.tmp 27) (.tmp 33) 36 rfl 5 w.heap.size i0 (.int .u8 0) 1 1 Tryz.underlying36 hi hz0 hz1 hz2 rfl (by decide) _ _ _ rfl (o1c.alloc _) (.slice (some ⟨w1.heap.size, 0, none⟩) 1 1) 1 (Lib.byteCells [sg r]) rfl (rd_oneb w1 _) (byte_one _) (by have := HQ1L.out; unfold maxLen; omega) (by have := HQ1L.out; omega) hba2 ?_))
        rintro v2 w2 o2 hg2 -
        have hb2 : Below w.heap.size w w2 := below_app hb1 hb1.size hg2 (fun j e => (o1c.lt j e).1)
        have o2c := own_cast (m := (q1 ++ [sg r]).length) (ys := Lib.byteCells (q1 ++ [sg r])) o2 (by rw [List.length_append, List.length_singleton]) (by rw [bc_append])
        obtain ⟨q2, hq2⟩ : ∃ z, z = q1 ++ [sg r] := ⟨_, rfl⟩
        rw [← hq2] at o2c
        have HQ2 := Lib.hid hq2
        have HQ2L : Hid (q2.length ≤ 2000000 + 2) := Lib.hid (by have := HQ1L.out; rw [hq2, List.length_append, List.length_singleton]; omega)
        obtain ⟨sa2, sc2, hsl2⟩ := (Rd.of_own o2c).slice
        subst hsl2
        clear o2 hg2 hba2 hq2
        go_wp2_with fail
        rw [rounds_succ]
        go_wp2_with fail
        apply_assumption
        go_wp2_with fail
        go_roundw
        case rel => exact ⟨k + 1, 0, by omega, by go_num, by rw [HS.out], rfl, by rw [show (2 * ((k + 1) % 3) : Nat) = 0 by omega]; rfl, own_cast o2c (by rw [HS.out, HQ2.out, HQ1.out]; try simp) (by rw [HS.out, HQ2.out, HQ1.out]; try simp), hb2⟩
        case measure => simp [intOf]; omega
    case neg =>
      have hke : k = b.length := by omega
      have hb0 : ((2 * (k % 3) : Nat) : Int) = 0 := by omega
      rw [hb0]
      obtain ⟨sa, sc, hsl⟩ := (Rd.of_own ho).slice
      subst hsl
      have HW : Hid ((six b k).1 = web b) := Lib.hid (by rw [hke]; exact six_all b h3)
      have HO := Lib.hid ho
      obtain ⟨k2, hk2, hk3⟩ : ∃ x, x = k ∧ b.length ≤ x := ⟨k, rfl, by omega⟩
      generalize (six b k).1 = q at HW HO ⊢
      clear hy hb0 h3 hk hke ho htb
      subst hk2
      go_wp2_with fail
      go_ret
      refine ⟨_, rfl, ?_, hb⟩
      rw [← HW.out]; exact HO.out

set_option maxRecDepth 20000 in
theorem conv_own {w : World} {B : Nat} {v : Value} {l : List UInt8} (h : w.ownsRow B 5 1 v l.length (Lib.byteCells l)) : Sem.run Tryz.prog (convert 36 9 v) w = .ok (.string ⟨l.toArray⟩) w := by
  rcases h.2 with ⟨rfl, h0⟩ | ⟨g, cap, cur, rfl, hbg, hg, hnc, hcm, hcs, htake⟩
  · obtain rfl : l = [] := List.eq_nil_of_length_eq_zero h0
    rfl
  · refine run_convert_bytes_back w 36 9 5 ⟨g, 0, none⟩ cap l Tryz.underlying36 Tryz.underlying5 Tryz.underlying9 ?_
    have := h.cells (g := g) rfl
    exact fun j hj => this j _ (by simp [Lib.byteCells, hj])

set_option maxRecDepth 20000 in
set_option maxHeartbeats 2000000 in
theorem web_any (v : Value) (b : By) (w : World) (h : Rd w 1 v b.length (Lib.byteCells b)) (h3 : b.length % 3 = 0) (hl : b.length ≤ 1000000) :
    Calls Tryz.prog 69 #[v] w fun e w' => e = .returned (.string ⟨(web b).toArray⟩) ∧ Below w.heap.size w w' := by
  obtain ⟨ba, bc, rfl⟩ := h.slice
  have hA := sixes_any _ b w h h3 hl
  have ht : (⟨#[65, 66, 67, 68, 69, 70, 71, 72, 73, 74, 75, 76, 77, 78, 79, 80, 81, 82, 83, 84, 85, 86, 87, 88, 89, 90, 97, 98, 99, 100, 101, 102, 103, 104, 105, 106, 107, 108, 109, 110, 111, 112, 113, 114, 115, 116, 117, 118, 119, 120, 121, 122, 48, 49, 50, 51, 52, 53, 54, 55, 56, 57, 45, 95]⟩ : ByteArray) = ⟨webT.toArray⟩ := rfl
  have HA := Lib.hid hA
  clear hA h
  go_enter Tryz.func69, Tryz.ntmps69
  go_wp2_with fail
  refine HA.out.mono ?_
  rintro e w1 ⟨v', rfl, ho, hb⟩
  have hc := conv_own ho
  clear HA ho ht
  obtain ⟨wb, hwb⟩ : ∃ wb, wb = (⟨(web b).toArray⟩ : ByteArray) := ⟨_, rfl⟩
  rw [← hwb] at hc
  have HWB := Lib.hid hwb
  clear hwb
  go_wp2_with fail
  go_ret
  exact ⟨by rw [HWB.out]; rfl, hb⟩
end Go.Proofs.YtffllacphfapnaaGreatDoor.Se
namespace Go.Proofs.YtffllacphfapnaaGreatDoor.Se
open Go.RowKit
set_option linter.unusedVariables false

theorem below_step {B : Nat} {a w w' : World} (h : Below B a w) (hb : Below w.heap.size w w') (hB : B ≤ a.heap.size := by exact Nat.le_refl _) : Below B a w' := h.trans (hb.mono (Nat.le_trans hB h.size))
theorem ret_bool' {a b : Bool} (h : a = b) : Ending.returned (.bool a) = Ending.returned (.bool b) := by rw [h]
theorem all_u8' {p : UInt8 → Prop} (h : ∀ n : Fin 256, p (UInt8.ofNat n.val)) (c : UInt8) : p c := by
  have := h ⟨c.toNat, c.toNat_lt⟩
  rwa [UInt8.ofNat_toNat] at this

set_option maxRecDepth 20000 in
set_option maxHeartbeats 1000000 in
theorem sign_any (c : UInt8) (w : World) : Calls Tryz.prog 58 #[.int .u8 (c.toNat : Int)] w fun e w' => e = .returned (.bool (sgn c)) ∧ w' = w := by
  have hc := c.toNat_lt
  generalize hn : c.toNat = n at hc
  have hs : sgn c = ((97 ≤ n && n ≤ 122) || (65 ≤ n && n ≤ 90) || (48 ≤ n && n ≤ 57) || n == 45 || n == 95) := by unfold sgn; rw [hn]
  rw [hs]
  clear hs hn
  go_enter Tryz.func58, Tryz.ntmps58
  go_wp2
  all_goals (go_ret; refine ⟨ret_bool' ?_, rfl⟩; rw [Bool.eq_iff_iff]; simp; try omega)

theorem itoa_tab (n : Int) (w : World) (h0 : 0 ≤ n) (h1 : n ≤ 1099511627776) (htab : Lib.TabIs Tryz.prog w "internal/strconv.uint64pow10" .u64 Lib.pow10Tab) :
    Calls Tryz.prog 53 #[.int .i64 n] w fun e w' => e = .returned (.string ⟨(Lib.itoa n).toArray⟩) ∧ Below w.heap.size w w' :=
  (Tryz.strconv_Itoa n (by omega) (by omega) w htab).mono fun e w' ⟨h1, k, os, h2⟩ => ⟨h1, by rw [h2]; exact Lib.below_grow _ _ (Nat.le_refl _) _ _⟩

set_option maxRecDepth 20000 in
set_option maxHeartbeats 2000000 in
theorem head_1 (fam : By) (ser : Int) (w : World) (h5 : fam.length ≤ 32) (h6 : 0 ≤ ser) (h7 : ser ≤ 1099511627776) (htab : ∀ W, Below w.heap.size w W → Lib.TabIs Tryz.prog W "internal/strconv.uint64pow10" .u64 Lib.pow10Tab) :
    Calls Tryz.prog 45 #[.agg #[.int .i64 1, .string ⟨fam.toArray⟩, .int .i64 ser]] w fun e w' => e = .returned (.string ⟨(head ⟨1, fam, ser⟩).toArray⟩) ∧ Below w.heap.size w w' := by
  have hB : Blk (w.alloc (.cells #[.int .i64 1, .string ⟨fam.toArray⟩, .int .i64 ser] 54)) w.heap.size 54 [.int .i64 1, .string ⟨fam.toArray⟩, .int .i64 ser] := Blk.new w _ _
  have hbl : Below w.heap.size w (w.alloc (.cells #[.int .i64 1, .string ⟨fam.toArray⟩, .int .i64 ser] 54)).drew := ((Below.refl _ _).alloc (Nat.le_refl _) _).drew
  have hil : (Lib.itoa ser).length ≤ 13 := by
    have e : Lib.itoa ser = Lib.decDigits ser.toNat := by unfold Lib.itoa; rw [if_neg (by omega)]
    rw [e]; exact dd_len 13 _ (by omega) (by omega)
  have hHD : head ⟨1, fam, ser⟩ = [99, 46] ++ fam ++ [46] ++ Lib.itoa ser ++ [46] := by unfold head ltr ltrs; simp
  obtain ⟨it, hit⟩ : ∃ it, it = Lib.itoa ser := ⟨_, rfl⟩
  have HIT := Lib.hid (fun W => itoa_tab ser W h6 h7)
  rw [← hit] at hHD HIT hil
  obtain ⟨x2, hx2⟩ : ∃ x, x = [99, 46] ++ fam := ⟨_, rfl⟩
  have a2 := st_add [99, 46] fam x2 (by simp; omega) hx2
  have l2 : x2.length ≤ 34 := by rw [hx2]; simp; omega
  rw [← hx2] at hHD
  obtain ⟨x3, hx3⟩ : ∃ x, x = x2 ++ [46] := ⟨_, rfl⟩
  have a3 := st_add x2 [46] x3 (by simp; omega) hx3
  have l3 : x3.length ≤ 35 := by rw [hx3]; simp; omega
  rw [← hx3] at hHD
  obtain ⟨x4, hx4⟩ : ∃ x, x = x3 ++ it := ⟨_, rfl⟩
  have a4 := st_add x3 it x4 (by omega) hx4
  have l4 : x4.length ≤ 48 := by rw [hx4]; simp; omega
  rw [← hx4] at hHD
  obtain ⟨x5, hx5⟩ : ∃ x, x = x4 ++ [46] := ⟨_, rfl⟩
  have a5 := st_add x4 [46] x5 (by simp; omega) hx5
  rw [← hx5] at hHD
  rw [hHD]
  have HT := Lib.hid htab
  have z0 : (⟨#[63, 99, 97, 114]⟩ : ByteArray).size = 4 := rfl
  have z1 : (⟨#[63, 99, 97, 114]⟩ : ByteArray).extract 1 2 = ⟨#[99]⟩ := by decide
  have z2 : IntKind.i64.wrap (1 + 1) = 2 := by decide
  have z3 : IntKind.i64.wrap 2 = 2 := by decide
  have a1 := st_add [99] [46] [99, 46] (by decide) rfl
  have q1 := hB.drew.cell 0 rfl
  have q2 := hB.drew.cell 1 rfl
  have q3 := hB.drew.cell 2 rfl
  have hblk := hB.drew.lt
  clear hx2 hx3 hx4 hx5 l2 l3 l4 hit hil hHD hB htab h6 h7 h5
  go_enter Tryz.func45, Tryz.ntmps45
  go_wp2_with fail
  go_region_held3 (fun W => W.cell? ⟨w.heap.size, 0, none⟩ = some (.int .i64 1) ∧ W.cell? ⟨w.heap.size, 1, none⟩ = some (.string ⟨fam.toArray⟩) ∧ W.cell? ⟨w.heap.size, 2, none⟩ = some (.int .i64 ser) ∧ w.heap.size < W.heap.size ∧ Below w.heap.size w W)
    (first | exact ⟨q1, q2, q3, hblk, hbl⟩ | (go_split_ands; exact ⟨(hb2.cell (p := ⟨w.heap.size, _, none⟩) (by assumption)).trans (by assumption), (hb2.cell (p := ⟨w.heap.size, _, none⟩) (by assumption)).trans (by assumption), (hb2.cell (p := ⟨w.heap.size, _, none⟩) (by assumption)).trans (by assumption), Nat.lt_of_lt_of_le (by assumption) hb2.size, below_step (by assumption) hb2⟩))
    (first | (go_at_call 53; go_split_ands; refine (HIT.out _ (HT.out _ (by assumption))).mono ?_; rintro e w2 ⟨rfl, hb2⟩))
  all_goals
    go_split_ands
    go_wp2_with fail
    go_ret
    exact ⟨rfl, by assumption⟩
set_option maxRecDepth 20000 in
set_option maxHeartbeats 2000000 in
theorem head_2 (fam : By) (ser : Int) (w : World) (h5 : fam.length ≤ 32) (h6 : 0 ≤ ser) (h7 : ser ≤ 1099511627776) (htab : ∀ W, Below w.heap.size w W → Lib.TabIs Tryz.prog W "internal/strconv.uint64pow10" .u64 Lib.pow10Tab) :
    Calls Tryz.prog 45 #[.agg #[.int .i64 2, .string ⟨fam.toArray⟩, .int .i64 ser]] w fun e w' => e = .returned (.string ⟨(head ⟨2, fam, ser⟩).toArray⟩) ∧ Below w.heap.size w w' := by
  have hB : Blk (w.alloc (.cells #[.int .i64 2, .string ⟨fam.toArray⟩, .int .i64 ser] 54)) w.heap.size 54 [.int .i64 2, .string ⟨fam.toArray⟩, .int .i64 ser] := Blk.new w _ _
  have hbl : Below w.heap.size w (w.alloc (.cells #[.int .i64 2, .string ⟨fam.toArray⟩, .int .i64 ser] 54)).drew := ((Below.refl _ _).alloc (Nat.le_refl _) _).drew
  have hil : (Lib.itoa ser).length ≤ 13 := by
    have e : Lib.itoa ser = Lib.decDigits ser.toNat := by unfold Lib.itoa; rw [if_neg (by omega)]
    rw [e]; exact dd_len 13 _ (by omega) (by omega)
  have hHD : head ⟨2, fam, ser⟩ = [97, 46] ++ fam ++ [46] ++ Lib.itoa ser ++ [46] := by unfold head ltr ltrs; simp
  obtain ⟨it, hit⟩ : ∃ it, it = Lib.itoa ser := ⟨_, rfl⟩
  have HIT := Lib.hid (fun W => itoa_tab ser W h6 h7)
  rw [← hit] at hHD HIT hil
  obtain ⟨x2, hx2⟩ : ∃ x, x = [97, 46] ++ fam := ⟨_, rfl⟩
  have a2 := st_add [97, 46] fam x2 (by simp; omega) hx2
  have l2 : x2.length ≤ 34 := by rw [hx2]; simp; omega
  rw [← hx2] at hHD
  obtain ⟨x3, hx3⟩ : ∃ x, x = x2 ++ [46] := ⟨_, rfl⟩
  have a3 := st_add x2 [46] x3 (by simp; omega) hx3
  have l3 : x3.length ≤ 35 := by rw [hx3]; simp; omega
  rw [← hx3] at hHD
  obtain ⟨x4, hx4⟩ : ∃ x, x = x3 ++ it := ⟨_, rfl⟩
  have a4 := st_add x3 it x4 (by omega) hx4
  have l4 : x4.length ≤ 48 := by rw [hx4]; simp; omega
  rw [← hx4] at hHD
  obtain ⟨x5, hx5⟩ : ∃ x, x = x4 ++ [46] := ⟨_, rfl⟩
  have a5 := st_add x4 [46] x5 (by simp; omega) hx5
  rw [← hx5] at hHD
  rw [hHD]
  have HT := Lib.hid htab
  have z0 : (⟨#[63, 99, 97, 114]⟩ : ByteArray).size = 4 := rfl
  have z1 : (⟨#[63, 99, 97, 114]⟩ : ByteArray).extract 2 3 = ⟨#[97]⟩ := by decide
  have z2 : IntKind.i64.wrap (2 + 1) = 3 := by decide
  have z3 : IntKind.i64.wrap 3 = 3 := by decide
  have a1 := st_add [97] [46] [97, 46] (by decide) rfl
  have q1 := hB.drew.cell 0 rfl
  have q2 := hB.drew.cell 1 rfl
  have q3 := hB.drew.cell 2 rfl
  have hblk := hB.drew.lt
  clear hx2 hx3 hx4 hx5 l2 l3 l4 hit hil hHD hB htab h6 h7 h5
  go_enter Tryz.func45, Tryz.ntmps45
  go_wp2_with fail
  go_region_held3 (fun W => W.cell? ⟨w.heap.size, 0, none⟩ = some (.int .i64 2) ∧ W.cell? ⟨w.heap.size, 1, none⟩ = some (.string ⟨fam.toArray⟩) ∧ W.cell? ⟨w.heap.size, 2, none⟩ = some (.int .i64 ser) ∧ w.heap.size < W.heap.size ∧ Below w.heap.size w W)
    (first | exact ⟨q1, q2, q3, hblk, hbl⟩ | (go_split_ands; exact ⟨(hb2.cell (p := ⟨w.heap.size, _, none⟩) (by assumption)).trans (by assumption), (hb2.cell (p := ⟨w.heap.size, _, none⟩) (by assumption)).trans (by assumption), (hb2.cell (p := ⟨w.heap.size, _, none⟩) (by assumption)).trans (by assumption), Nat.lt_of_lt_of_le (by assumption) hb2.size, below_step (by assumption) hb2⟩))
    (first | (go_at_call 53; go_split_ands; refine (HIT.out _ (HT.out _ (by assumption))).mono ?_; rintro e w2 ⟨rfl, hb2⟩))
  all_goals
    go_split_ands
    go_wp2_with fail
    go_ret
    exact ⟨rfl, by assumption⟩
set_option maxRecDepth 20000 in
set_option maxHeartbeats 2000000 in
theorem head_3 (fam : By) (ser : Int) (w : World) (h5 : fam.length ≤ 32) (h6 : 0 ≤ ser) (h7 : ser ≤ 1099511627776) (htab : ∀ W, Below w.heap.size w W → Lib.TabIs Tryz.prog W "internal/strconv.uint64pow10" .u64 Lib.pow10Tab) :
    Calls Tryz.prog 45 #[.agg #[.int .i64 3, .string ⟨fam.toArray⟩, .int .i64 ser]] w fun e w' => e = .returned (.string ⟨(head ⟨3, fam, ser⟩).toArray⟩) ∧ Below w.heap.size w w' := by
  have hB : Blk (w.alloc (.cells #[.int .i64 3, .string ⟨fam.toArray⟩, .int .i64 ser] 54)) w.heap.size 54 [.int .i64 3, .string ⟨fam.toArray⟩, .int .i64 ser] := Blk.new w _ _
  have hbl : Below w.heap.size w (w.alloc (.cells #[.int .i64 3, .string ⟨fam.toArray⟩, .int .i64 ser] 54)).drew := ((Below.refl _ _).alloc (Nat.le_refl _) _).drew
  have hil : (Lib.itoa ser).length ≤ 13 := by
    have e : Lib.itoa ser = Lib.decDigits ser.toNat := by unfold Lib.itoa; rw [if_neg (by omega)]
    rw [e]; exact dd_len 13 _ (by omega) (by omega)
  have hHD : head ⟨3, fam, ser⟩ = [114, 46] ++ fam ++ [46] ++ Lib.itoa ser ++ [46] := by unfold head ltr ltrs; simp
  obtain ⟨it, hit⟩ : ∃ it, it = Lib.itoa ser := ⟨_, rfl⟩
  have HIT := Lib.hid (fun W => itoa_tab ser W h6 h7)
  rw [← hit] at hHD HIT hil
  obtain ⟨x2, hx2⟩ : ∃ x, x = [114, 46] ++ fam := ⟨_, rfl⟩
  have a2 := st_add [114, 46] fam x2 (by simp; omega) hx2
  have l2 : x2.length ≤ 34 := by rw [hx2]; simp; omega
  rw [← hx2] at hHD
  obtain ⟨x3, hx3⟩ : ∃ x, x = x2 ++ [46] := ⟨_, rfl⟩
  have a3 := st_add x2 [46] x3 (by simp; omega) hx3
  have l3 : x3.length ≤ 35 := by rw [hx3]; simp; omega
  rw [← hx3] at hHD
  obtain ⟨x4, hx4⟩ : ∃ x, x = x3 ++ it := ⟨_, rfl⟩
  have a4 := st_add x3 it x4 (by omega) hx4
  have l4 : x4.length ≤ 48 := by rw [hx4]; simp; omega
  rw [← hx4] at hHD
  obtain ⟨x5, hx5⟩ : ∃ x, x = x4 ++ [46] := ⟨_, rfl⟩
  have a5 := st_add x4 [46] x5 (by simp; omega) hx5
  rw [← hx5] at hHD
  rw [hHD]
  have HT := Lib.hid htab
  have z0 : (⟨#[63, 99, 97, 114]⟩ : ByteArray).size = 4 := rfl
  have z1 : (⟨#[63, 99, 97, 114]⟩ : ByteArray).extract 3 4 = ⟨#[114]⟩ := by decide
  have z2 : IntKind.i64.wrap (3 + 1) = 4 := by decide
  have z3 : IntKind.i64.wrap 4 = 4 := by decide
  have a1 := st_add [114] [46] [114, 46] (by decide) rfl
  have q1 := hB.drew.cell 0 rfl
  have q2 := hB.drew.cell 1 rfl
  have q3 := hB.drew.cell 2 rfl
  have hblk := hB.drew.lt
  clear hx2 hx3 hx4 hx5 l2 l3 l4 hit hil hHD hB htab h6 h7 h5
  go_enter Tryz.func45, Tryz.ntmps45
  go_wp2_with fail
  go_region_held3 (fun W => W.cell? ⟨w.heap.size, 0, none⟩ = some (.int .i64 3) ∧ W.cell? ⟨w.heap.size, 1, none⟩ = some (.string ⟨fam.toArray⟩) ∧ W.cell? ⟨w.heap.size, 2, none⟩ = some (.int .i64 ser) ∧ w.heap.size < W.heap.size ∧ Below w.heap.size w W)
    (first | exact ⟨q1, q2, q3, hblk, hbl⟩ | (go_split_ands; exact ⟨(hb2.cell (p := ⟨w.heap.size, _, none⟩) (by assumption)).trans (by assumption), (hb2.cell (p := ⟨w.heap.size, _, none⟩) (by assumption)).trans (by assumption), (hb2.cell (p := ⟨w.heap.size, _, none⟩) (by assumption)).trans (by assumption), Nat.lt_of_lt_of_le (by assumption) hb2.size, below_step (by assumption) hb2⟩))
    (first | (go_at_call 53; go_split_ands; refine (HIT.out _ (HT.out _ (by assumption))).mono ?_; rintro e w2 ⟨rfl, hb2⟩))
  all_goals
    go_split_ands
    go_wp2_with fail
    go_ret
    exact ⟨rfl, by assumption⟩
theorem head_any (t : Tk) (w : World) (h : Right t) (htab : ∀ W, Below w.heap.size w W → Lib.TabIs Tryz.prog W "internal/strconv.uint64pow10" .u64 Lib.pow10Tab) :
    Calls Tryz.prog 45 #[.agg #[.int .i64 t.kd, .string ⟨t.fam.toArray⟩, .int .i64 t.ser]] w fun e w' => e = .returned (.string ⟨(head t).toArray⟩) ∧ Below w.heap.size w w' := by
  obtain ⟨kd, fam, ser⟩ := t
  obtain ⟨h1, h2, h3, h4, h5, h6, h7⟩ := h
  simp only at h1 h2 h3 h4 h5 h6 h7
  have : kd = 1 ∨ kd = 2 ∨ kd = 3 := by omega
  rcases this with rfl | rfl | rfl
  · exact head_1 fam ser w h5 h6 h7 htab
  · exact head_2 fam ser w h5 h6 h7 htab
  · exact head_3 fam ser w h5 h6 h7 htab
end Go.Proofs.YtffllacphfapnaaGreatDoor.Se
