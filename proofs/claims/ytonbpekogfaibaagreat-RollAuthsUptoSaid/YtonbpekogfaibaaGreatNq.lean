/-
  Chapter 4: what the small functions of package field and of its reference compute: a byte that stands for itself, a sign by sixteen, its worth. Conditions: a byte is a byte.
-/
import Derived.Test.YtonbpekogfaibaaGreatNb
import Derived.Test.YtonbpekogfaibaaGreatShelf
import Derived.Test.YtonbpekogfaibaaGreatFs
namespace Go.Proofs.YtonbpekogfaibaaGreat
open Go.RowKit
set_option maxRecDepth 20000
set_option linter.unusedVariables false
set_option linter.unusedVariables false
namespace F
/-- a byte that stands for itself -/
def pl (a : Int) : Bool := decide ((65 ≤ a ∧ a ≤ 90) ∨ (97 ≤ a ∧ a ≤ 122) ∨ (48 ≤ a ∧ a ≤ 57) ∨ a = 42 ∨ a = 45 ∨ a = 46 ∨ a = 95)
/-- the sign of a number below sixteen -/
def hx (n : Int) : Int := if n < 10 then 48 + n else 55 + n
/-- a sign's worth -/
def wo (c : Int) : Int := if 48 ≤ c ∧ c ≤ 57 then c - 48 else if 65 ≤ c ∧ c ≤ 70 then c - 55 else if 97 ≤ c ∧ c ≤ 102 then c - 87 else -1
end F


theorem idx_plain (c : UInt8) : (0 ≤ Lib.indexByte [42, 45, 46, 95] c) ↔ (c.toNat = 42 ∨ c.toNat = 45 ∨ c.toNat = 46 ∨ c.toNat = 95) := by
  revert c; exact all_u8 (by decide +kernel)
theorem idx_pl (a : Int) (h0 : 0 ≤ a) (h1 : a < 256) : (0 ≤ Lib.indexByte [42, 45, 46, 95] (UInt8.ofNat a.toNat)) ↔ (a = 42 ∨ a = 45 ∨ a = 46 ∨ a = 95) := by
  rw [idx_plain, UInt8.toNat_ofNat', Nat.mod_eq_of_lt (by simp; omega)]; omega

set_option maxHeartbeats 400000 in
theorem plain_any (a : Int) (w : World) (h0 : 0 ≤ a) (h1 : a < 256) :
    Calls Tryz.prog 51 #[.int .u8 a] w fun e w' => e = .returned (.bool (F.pl a)) ∧ w = w' := by
  go_enter Tryz.func51, Tryz.ntmps51
  go_wp2_with (go_at_call 71; refine (Tryz.strings_IndexByte _ _ _).mono ?_; rintro e w' ⟨rfl, rfl⟩)
  all_goals (go_ret; refine ⟨ret_bool ?_, rfl⟩; have hi := idx_pl a h0 h1; rw [Bool.eq_iff_iff]; simp [F.pl, hi]; try omega)

set_option maxHeartbeats 400000 in
theorem worth_any (a : Int) (w : World) (h0 : 0 ≤ a) (h1 : a < 256) :
    Calls Tryz.prog 68 #[.int .u8 a] w fun e w' => e = .returned (.int .i64 (F.wo a)) ∧ w = w' := by
  go_enter Tryz.func68, Tryz.ntmps68
  go_wp2
  all_goals (go_ret; refine ⟨ret_int ?_, rfl⟩; simp [F.wo]; try omega)

/-- the reference's worth: 16 where there is none -/
def F.rw (c : Int) : Int := if F.wo c < 0 then 16 else F.wo c


theorem F_pl (c : UInt8) : F.pl (c.toNat : Int) = Fs.pl c := by revert c; exact all_u8 (by decide +kernel)
theorem F_hi (c : UInt8) : F.hx ((c.toNat : Int) / 16) = ((Fs.hx (c / 16)).toNat : Int) := by revert c; exact all_u8 (by decide +kernel)
theorem F_lo (c : UInt8) : F.hx ((c.toNat : Int) % 16) = ((Fs.hx (c % 16)).toNat : Int) := by revert c; exact all_u8 (by decide +kernel)
theorem u8_32 (c : UInt8) : ((c.toNat : Int) = 32) ↔ c = 32 := by revert c; exact all_u8 (by decide +kernel)
theorem digits_at (n : Fin 16) : (⟨#[48, 49, 50, 51, 52, 53, 54, 55, 56, 57, 65, 66, 67, 68, 69, 70]⟩ : ByteArray).extract n.val (n.val + 1) = ⟨#[Fs.hx (UInt8.ofNat n.val)]⟩ := by
  revert n; decide
theorem dig_slice (n : Nat) (h : n < 16) (w : World) : (Instr.slice 9 (.string ⟨#[48, 49, 50, 51, 52, 53, 54, 55, 56, 57, 65, 66, 67, 68, 69, 70]⟩) (some (.int .u8 (n : Int))) (some (.int .u8 ((n : Int) + 1))) none).run Tryz.prog w = .ok (.string ⟨#[Fs.hx (UInt8.ofNat n)]⟩) w := by
  have hz : (⟨#[48, 49, 50, 51, 52, 53, 54, 55, 56, 57, 65, 66, 67, 68, 69, 70]⟩ : ByteArray).size = 16 := by decide
  rw [run_slice_string w _ _ _ _ _ _ Tryz.underlying9 (by omega) (by omega) (by rw [hz]; omega)]
  have e1 : ((n : Int)).toNat = n := by omega
  have e2 : ((n : Int) + 1).toNat = n + 1 := by omega
  rw [e1, e2, digits_at ⟨n, h⟩]
theorem hi_ofNat (c : UInt8) : UInt8.ofNat (c.toNat / 16) = c / 16 := by revert c; exact all_u8 (by decide +kernel)
theorem and15 (c : UInt8) : bits .and .u8 (c.toNat : Int) 15 = (c.toNat : Int) % 16 := by revert c; exact all_u8 (by decide +kernel)
theorem lo_ofNat (c : UInt8) : UInt8.ofNat (c.toNat % 16) = c % 16 := by revert c; exact all_u8 (by decide +kernel)

set_option maxHeartbeats 1000000 in
theorem quote_any (s : ByteArray) (w : World) (hs : 3 * s.size ≤ 140737488355328) :
    Calls Tryz.prog 27 #[.string s] w fun e w' => e = .returned (.string ⟨(Fs.quote s.data.toList).toArray⟩) ∧ Below w.heap.size w w' := by
  go_enter Tryz.func27, Tryz.ntmps27
  go_wp2
  go_loopw [4] (fun i wr => ∃ k : Nat, k ≤ s.size ∧ i = .int .i64 k ∧ Lib.IsBuilderF 86 5 w.heap.size w.heap.size (Lib.byteCells (Fs.quote (s.data.toList.take k))) wr ∧ Below w.heap.size w wr) (fun i _ => s.size - (intOf i).toNat)
  case atStart => exact ⟨0, by omega, rfl, Lib.IsBuilderF.of (Lib.fresh_isBuilder 86 5 w), (Below.refl _ _).alloc (Nat.le_refl _) _⟩
  case round =>
    obtain ⟨k, hk, rfl, hown, hb⟩ := hrel
    have hql := Fs.quote_len (s.data.toList.take k)
    have htl : (s.data.toList.take k).length ≤ k := List.length_take_le _ _
    by_cases hlt : k < s.size
    · have hsn := take_snoc s k hlt
      have HS := Lib.hid hsn; clear hsn
      go_wp2_with (fail)
      generalize s[k] = c at HS ⊢
      have hc1 : (c.toNat : Int) < 256 := by have := c.toNat_lt; omega
      refine (plain_any _ _ (by omega) hc1).mono ?_
      rintro e w' ⟨rfl, rfl⟩
      rw [F_pl]
      have hq : Fs.quote (List.take (k + 1) s.data.toList) = Fs.quote (List.take k s.data.toList) ++ Fs.q1 c := by rw [HS.out, Fs.quote_snoc]
      have hbs := hb.size
      by_cases hp : Fs.pl c = true
      · have HQ : Hid (Fs.quote (List.take (k + 1) s.data.toList) = Fs.quote (List.take k s.data.toList) ++ [c]) := by
          have : Fs.q1 c = [c] := by simp [Fs.q1, hp]
          rw [this] at hq; exact hq
        clear hq HS
        go_wp2_with fail
        refine (sb_byte _ _ _ _ _ hown (by rw [bc_length]; omega) hbs).mono ?_
        rintro e w1 ⟨rfl, h1, hb1, -⟩
        go_wp2
        go_roundw
        case rel => exact ⟨k + 1, by omega, by go_num, .inr (by rw [HQ.out, bc_append]; exact h1), hb.trans hb1⟩
        case measure => simp [intOf]; omega
      · have hp' : Fs.pl c = false := by simpa using hp
        clear hp
        by_cases h32 : (c.toNat : Int) = 32
        · have HQ : Hid (Fs.quote (List.take (k + 1) s.data.toList) = Fs.quote (List.take k s.data.toList) ++ [43]) := by
            have : Fs.q1 c = [43] := by unfold Fs.q1; rw [if_neg (by simp [hp']), if_pos ((u8_32 c).1 h32)]
            rw [this] at hq; exact hq
          clear hq HS
          have hb32 : ((c.toNat : Int) == 32) = true := by simp [h32]
          clear h32
          go_wp2_with fail
          refine (sb_byte _ _ _ _ _ hown (by rw [bc_length]; omega) hbs).mono ?_
          rintro e w1 ⟨rfl, h1, hb1, -⟩
          go_wp2
          go_roundw
          case rel => exact ⟨k + 1, by omega, by go_num, .inr (by rw [HQ.out, bc_append]; exact h1), hb.trans hb1⟩
          case measure => simp [intOf]; omega
        · have HQ : Hid (Fs.quote (List.take (k + 1) s.data.toList) = Fs.quote (List.take k s.data.toList) ++ [37, Fs.hx (c / 16), Fs.hx (c % 16)]) := by
            have : Fs.q1 c = [37, Fs.hx (c / 16), Fs.hx (c % 16)] := by unfold Fs.q1; rw [if_neg (by simp [hp']), if_neg (fun e => h32 ((u8_32 c).2 e))]
            rw [this] at hq; exact hq
          clear hq HS
          have hb32 : ((c.toNat : Int) == 32) = false := by simp [h32]
          clear h32
          go_wp2_with fail
          have hw1 : IntKind.u8.wrap ((c.toNat : Int) / 16 + 1) = (c.toNat : Int) / 16 + 1 := by simp [IntKind.wrap, IntKind.bits, IntKind.signed]; omega
          have g0 : (0 : Int) ≤ (c.toNat : Int) / 16 := by omega
          have g1 : (c.toNat : Int) / 16 < 16 := by omega
          have hw2 : IntKind.u8.wrap ((c.toNat : Int) % 16 + 1) = (c.toNat : Int) % 16 + 1 := by simp [IntKind.wrap, IntKind.bits, IntKind.signed]; omega
          have g2 : (0 : Int) ≤ (c.toNat : Int) % 16 := by omega
          have g3 : (c.toNat : Int) % 16 < 16 := by omega
          have e1 := dig_slice (c.toNat / 16) (by omega)
          have e2 := dig_slice (c.toNat % 16) (by omega)
          rw [hi_ofNat] at e1
          rw [lo_ofNat] at e2
          simp only [Int.natCast_ediv, Int.natCast_emod, Int.cast_ofNat_Int] at e1 e2
          have ea := and15 c
          go_still_tail 14, (by kernel_rfl)
          clear e1 e2 ea hw1 hw2
          change wpList _ _ _ _ _ wr.drew
          have hown2 : Lib.IsBuilderF 86 5 w.heap.size w.heap.size (Lib.byteCells (Fs.quote (s.data.toList.take k))) wr.drew := hown
          have hb2 := hb.drew
          have hbs2 := hb2.size
          clear hown hb hbs
          generalize wr.drew = w2 at hown2 hb2 hbs2 ⊢
          go_wp2_with fail
          refine (sb_str _ _ _ _ _ hown2 (by rw [bc_length]; show _ + 3 ≤ _; omega) hbs2).mono ?_
          rintro e w1 ⟨rfl, h1, hb1, -⟩
          go_wp2
          go_roundw
          case rel => exact ⟨k + 1, by omega, by go_num, .inr (by rw [HQ.out, bc_append]; exact h1), hb2.trans hb1⟩
          case measure => simp [intOf]; omega
    · have hkk : List.take k s.data.toList = s.data.toList := List.take_of_length_le (by simp; omega)
      rw [hkk] at hown
      clear hkk hql htl
      go_wp2_with fail
      refine (Tryz.Builder_String_any_f _ _ _ _ hown hb.size).mono ?_
      rintro e w1 ⟨rfl, h1, hb1⟩
      go_wp2
      go_ret
      exact ⟨rfl, hb.trans hb1⟩


theorem F_wo (c : UInt8) : F.wo (c.toNat : Int) = match Fs.wo c with | some x => (x.toNat : Int) | none => -1 := by revert c; exact all_u8 (by decide +kernel)

set_option maxHeartbeats 400000 in
theorem next_end (b1 b2 : Nat) (s : ByteArray) (k : Nat) (w : World) (h1 : Blk w b1 3 [.int .i64 k]) (h2 : Blk w b2 9 [.string s]) (hk : s.size ≤ k) :
    Calls Tryz.prog 67 #[.pointer (some ⟨b1, 0, none⟩), .pointer (some ⟨b2, 0, none⟩)] w fun e w' => e = .returned (.int .i64 (-1)) ∧ w = w' := by
  have hc1 := h1.cell 0 rfl
  have hc2 := h2.cell 0 rfl
  clear h1 h2
  go_enter Tryz.func67, Tryz.ntmps67
  go_wp2
  go_ret
  exact ⟨rfl, rfl⟩
set_option maxHeartbeats 400000 in
theorem next_go (b1 b2 : Nat) (hne : b2 ≠ b1) (s : ByteArray) (hs : s.size ≤ 9223372036854775807) (k : Nat) (w : World) (h1 : Blk w b1 3 [.int .i64 k]) (h2 : Blk w b2 9 [.string s]) (hk : k < s.size) (c : UInt8) (hc : s[k] = c) :
    Calls Tryz.prog 67 #[.pointer (some ⟨b1, 0, none⟩), .pointer (some ⟨b2, 0, none⟩)] w fun e w' => e = .returned (.int .i64 (F.wo c.toNat)) ∧ w' = w.setCell ⟨b1, 0, none⟩ (.int .i64 ((k + 1 : Nat) : Int)) := by
  have hc1 := h1.cell 0 rfl
  have hf1 := h1.frozen 0
  have hc2 := h2.cell 0 rfl
  have hc2' : (w.setCell ⟨b1, 0, none⟩ (.int .i64 ((k : Int) + 1))).cell? ⟨b2, 0, none⟩ = some (.string s) := (h2.setOther _ _ hne).cell 0 rfl
  clear h1 h2
  have hix := idx_str s k hk c hc
  clear hc
  go_enter Tryz.func67, Tryz.ntmps67
  go_wp2_with fail
  refine (worth_any _ _ (by omega) (by have := c.toNat_lt; omega)).mono ?_
  rintro e w' ⟨rfl, rfl⟩
  go_wp2
  go_ret
  exact ⟨rfl, by simp⟩

/-- how far an Unquote has come: what the rest comes to, with what is there ahead of it, is what all comes to -/
def UqAt (s : ByteArray) (k : Nat) (acc : List UInt8) : Prop := Fs.unq s.data.toList = (Fs.unq (s.data.toList.drop k)).map (acc ++ ·)
/-- what an Unquote answers -/
def UqRet (s : ByteArray) : Value := match Fs.unq s.data.toList with
  | some l => .tuple #[.string ⟨l.toArray⟩, .int .i64 0]
  | none => .tuple #[.string ⟨#[]⟩, .int .i64 3]

set_option maxHeartbeats 1000000 in
/-- the invariant of the program's loop: k bytes are read, acc is there -/
structure UqI (s : ByteArray) (w : World) (k : Nat) (v : Value) (wr : World) : Prop where
  le : k ≤ s.size
  ex : ∃ acc : List UInt8, acc.length ≤ k ∧ UqAt s k acc ∧ wr.ownsRow (w.heap.size + 2) 5 1 v acc.length (Lib.byteCells acc)
  text : Blk wr w.heap.size 9 [.string s]
  at_ : Blk wr (w.heap.size + 1) 3 [.int .i64 k]
  size : w.heap.size + 2 ≤ wr.heap.size
  below : Below w.heap.size w wr

theorem UqI.cell {s : ByteArray} {w wr : World} {k : Nat} {v : Value} (h : UqI s w k v wr) : wr.cell? ⟨w.heap.size + 1, 0, none⟩ = some (.int .i64 k) := h.at_.cell 0 rfl

theorem UqI.push {s : ByteArray} {w W w1 : World} {k : Nat} {v v' : Value} {o : Obj} {acc : List UInt8} {x : UInt8}
    (ht : Blk W w.heap.size 9 [.string s]) (ha : Blk W (w.heap.size + 1) 3 [.int .i64 k]) (hown : W.ownsRow (w.heap.size + 2) 5 1 v acc.length (Lib.byteCells acc)) (hsz : w.heap.size + 2 ≤ W.heap.size)
    (hb : Below w.heap.size w W) (hk : k ≤ s.size) (hak : acc.length + 1 ≤ k) (hu : UqAt s k (acc ++ [x])) (hown' : w1.ownsRow (w.heap.size + 2) 5 1 v' (acc.length + 1) (Lib.byteCells acc ++ Lib.byteCells [x]))
    (hgrow : (W.alloc o).grownBy w1 v.ownBlock) : UqI s w k v' w1 := by
  refine ⟨hk, ⟨acc ++ [x], by simpa using hak, hu, own_cast hown' (by simp) (by rw [bc_append])⟩, ?_, ?_, ?_, ?_⟩
  · exact (ht.alloc o).grown hgrow (own_ne hown (by omega))
  · exact (ha.alloc o).grown hgrow (own_ne hown (by omega))
  · have := hgrow.size; simp at this; omega
  · exact below_app hb hb.size hgrow (fun r hr => by have := (hown.lt r hr).1; omega)

theorem or_dec (x y : Fin 16) : bits .or .i64 (((UInt8.ofNat x.val).toNat : Int) * 16) ((UInt8.ofNat y.val).toNat : Int) % 256 = ((UInt8.ofNat x.val * 16 + UInt8.ofNat y.val).toNat : Int) := by
  revert x y; decide +kernel
theorem or_hex (x y : UInt8) (hx : (x.toNat : Int) < 16) (hy : (y.toNat : Int) < 16) : bits .or .i64 ((x.toNat : Int) * 16) (y.toNat : Int) % 256 = ((x * 16 + y).toNat : Int) := by
  have := or_dec ⟨x.toNat, by omega⟩ ⟨y.toNat, by omega⟩
  simpa using this
theorem natCast_succ_val (k : Nat) : Value.int .i64 ((k : Int) + 1) = .int .i64 ((k + 1 : Nat) : Int) := by simp

set_option maxRecDepth 20000 in
set_option maxHeartbeats 1000000 in
theorem unquote_any (s : ByteArray) (w : World) (hs : s.size ≤ 140737488355328) :
    Calls Tryz.prog 47 #[.string s] w fun e w' => e = .returned (UqRet s) ∧ Below w.heap.size w w' := by
  obtain ⟨i0, hi, hz0, hz1, hz2⟩ := info_parts sb_info
  go_enter Tryz.func47, Tryz.ntmps47
  go_wp2
  go_loopw [4] (fun v wr => ∃ k : Nat, UqI s w k v wr) (fun _ wr => s.size - (intOf ((wr.cell? ⟨w.heap.size + 1, 0, none⟩).getD undef)).toNat)
  case atStart =>
    refine ⟨0, ⟨by omega, ⟨[], by simp, by simp [UqAt], World.ownsRow_nil _ _ _ _⟩, (Blk.new w _ [.string s]).alloc _, ?_, by simp, ((Below.refl _ _).alloc (Nat.le_refl _) _).alloc (by simp) _⟩⟩
    have := Blk.new (w.alloc (.cells #[.string s] 9)) 3 [.int .i64 0]
    simpa using this
  case round =>
    obtain ⟨k, hI⟩ := hrel
    have hck := hI.cell
    have hcs := hI.text.cell 0 rfl
    have hfk := hI.at_.frozen 0
    obtain ⟨hk, ⟨acc, hak, hu, hown⟩, htx, hat, hsz, hb⟩ := hI
    by_cases hlt : k < s.size
    · obtain ⟨c, hc⟩ : ∃ c, s[k] = c := ⟨_, rfl⟩
      have hix := idx_str s k hlt c hc
      have hd := drop_cons s k hlt
      rw [hc] at hd
      rw [UqAt, hd] at hu
      clear hc hd
      have hc1 : (c.toNat : Int) < 256 := by have := c.toNat_lt; omega
      have hs1 : Blk (wr.setCell ⟨w.heap.size + 1, 0, none⟩ (.int .i64 ((k : Int) + 1))) w.heap.size 9 [.string s] := htx.setOther _ _ (by simp)
      have hk1 : Blk (wr.setCell ⟨w.heap.size + 1, 0, none⟩ (.int .i64 ((k : Int) + 1))) (w.heap.size + 1) 3 [.int .i64 ((k + 1 : Nat) : Int)] := by have := hat.set 0 (.int .i64 ((k : Int) + 1)); simpa using this
      have hb1 : Below w.heap.size w (wr.setCell ⟨w.heap.size + 1, 0, none⟩ (.int .i64 ((k : Int) + 1))) := hb.setCell (p := ⟨w.heap.size + 1, 0, none⟩) (by simp) _
      have hown1 : (wr.setCell ⟨w.heap.size + 1, 0, none⟩ (.int .i64 ((k : Int) + 1))).ownsRow (w.heap.size + 2) 5 1 u4 acc.length (Lib.byteCells acc) := own_other hown (by simp) _
      by_cases hbad : c < 33 ∨ c > 126
      · have hr : UqRet s = .tuple #[.string ⟨#[]⟩, .int .i64 3] := by unfold UqRet; rw [hu, Fs.unq_bad c _ hbad]; rfl
        have HR := Lib.hid hr
        have hbi : (c.toNat : Int) < 33 ∨ 126 < (c.toNat : Int) := by simp only [UInt8.lt_iff_toNat_lt, gt_iff_lt] at hbad; simp at hbad; omega
        clear hr hu hbad hk1 hs1 hown1
        rcases hbi with hbi | hbi
        · go_wp2
          go_ret2
          exact ⟨by rw [HR.out]; rfl, hb1⟩
        · have hbi' : ¬ (c.toNat : Int) < 33 := by omega
          go_wp2
          go_ret2
          exact ⟨by rw [HR.out]; rfl, hb1⟩
      · have hbi : 33 ≤ (c.toNat : Int) ∧ (c.toNat : Int) ≤ 126 := by simp only [UInt8.lt_iff_toNat_lt, gt_iff_lt] at hbad; simp at hbad; omega
        obtain ⟨hbi1, hbi2⟩ := hbi
        by_cases h37 : c = 37
        · subst h37
          have h43' : (((37 : UInt8).toNat : Int) == 43) = false := by decide
          by_cases h1 : k + 1 < s.size
          · obtain ⟨a, ha⟩ : ∃ a, s[k + 1] = a := ⟨_, rfl⟩
            have hd1 := drop_cons s (k + 1) h1
            rw [ha] at hd1
            rw [hd1] at hu
            go_wp2_with fail
            refine (next_go _ _ (by omega) s (by omega) (k + 1) _ hk1 hs1 h1 a ha).mono ?_
            rintro e W2 ⟨rfl, hW2⟩
            have hs2 : Blk W2 w.heap.size 9 [.string s] := by rw [hW2]; exact hs1.setOther _ _ (by simp)
            have hk2 : Blk W2 (w.heap.size + 1) 3 [.int .i64 ((k + 1 + 1 : Nat) : Int)] := by rw [hW2]; exact hk1.set 0 _
            have hb2 : Below w.heap.size w W2 := by rw [hW2]; exact hb1.setCell (p := ⟨w.heap.size + 1, 0, none⟩) (by simp) _
            have hown2 : W2.ownsRow (w.heap.size + 2) 5 1 u4 acc.length (Lib.byteCells acc) := by rw [hW2]; exact own_other hown1 (by simp) _
            have hsz2 : w.heap.size + 2 ≤ W2.heap.size := by rw [hW2]; simp; omega
            clear hW2 ha hd1
            by_cases h2 : k + 1 + 1 < s.size
            · obtain ⟨b, hb'⟩ : ∃ b, s[k + 1 + 1] = b := ⟨_, rfl⟩
              have hd1 := drop_cons s (k + 1 + 1) h2
              rw [hb'] at hd1
              rw [hd1, Fs.unq_hex] at hu
              go_wp2_with fail
              refine (next_go _ _ (by omega) s (by omega) (k + 1 + 1) _ hk2 hs2 h2 b hb').mono ?_
              rintro e W3 ⟨rfl, hW3⟩
              have hs3 : Blk W3 w.heap.size 9 [.string s] := by rw [hW3]; exact hs2.setOther _ _ (by simp)
              have hk3 : Blk W3 (w.heap.size + 1) 3 [.int .i64 ((k + 1 + 1 + 1 : Nat) : Int)] := by rw [hW3]; exact hk2.set 0 _
              have hb3 : Below w.heap.size w W3 := by rw [hW3]; exact hb2.setCell (p := ⟨w.heap.size + 1, 0, none⟩) (by simp) _
              have hown3 : W3.ownsRow (w.heap.size + 2) 5 1 u4 acc.length (Lib.byteCells acc) := by rw [hW3]; exact own_other hown2 (by simp) _
              have hsz3 : w.heap.size + 2 ≤ W3.heap.size := by rw [hW3]; simp; omega
              clear hW3 hb' hd1 hs1 hs2 hk1 hk2 hb1 hb2 hown1 hown2
              rw [F_wo a]
              cases hwa : Fs.wo a with
              | none =>
                rw [hwa] at hu
                have hr : UqRet s = .tuple #[.string ⟨#[]⟩, .int .i64 3] := by unfold UqRet; rw [hu]; rfl
                have HR := Lib.hid hr
                clear hr hu
                go_wp2
                go_ret2
                exact ⟨by rw [HR.out]; rfl, hb3⟩
              | some x =>
                have hx : (x.toNat : Int) < 16 := by have := Fs.wo_lt a x hwa; rw [UInt8.lt_iff_toNat_lt] at this; simp at this; omega
                rw [F_wo b]
                cases hwb : Fs.wo b with
                | none =>
                  rw [hwa, hwb] at hu
                  have hr : UqRet s = .tuple #[.string ⟨#[]⟩, .int .i64 3] := by unfold UqRet; rw [hu]; rfl
                  have HR := Lib.hid hr
                  clear hr hu
                  go_wp2
                  go_ret2
                  exact ⟨by rw [HR.out]; rfl, hb3⟩
                | some y =>
                  have hy : (y.toNat : Int) < 16 := by have := Fs.wo_lt b y hwb; rw [UInt8.lt_iff_toNat_lt] at this; simp at this; omega
                  rw [hwa, hwb] at hu
                  simp only [Fs.map_app] at hu
                  have HU' : UqAt s (k + 1 + 1 + 1) (acc ++ [x * 16 + y]) := hu
                  clear hu hwa hwb
                  have hor := or_hex x y hx hy
                  generalize x * 16 + y = z at hor HU'
                  go_wp2_with (at_builtin; go_loud (refine wpList_append_own _ rfl (.tmp 48) (.tmp 50) 62 rfl (w.heap.size + 2) 5 i0 (.int .u8 0) 1 1 Tryz.underlying62 hi hz0 hz1 hz2 rfl (by decide) _ _ _ rfl (hown3.alloc _) ⟨W3.heap.size, 0, none⟩ 1 1 (Lib.byteCells [z]) rfl rfl (cells_new _ _ _) (byte_one _) ?c3 ?c4 ?c5 ?_))
                  case c3 => unfold maxLen; omega
                  case c4 => omega
                  case c5 => simp; omega
                  intro v' w1 hown' hgrow _
                  have hI := UqI.push hs3 hk3 hown3 (by omega) hb3 (by omega) (by omega) HU' hown' hgrow
                  have hcm := hI.cell
                  go_wp2
                  go_roundw
                  case rel => exact ⟨_, hI⟩
                  case measure => rw [hcm, hck]; simp [intOf]; omega
            · rw [List.drop_of_length_le (by simp; omega), Fs.unq_hex1] at hu
              go_wp2_with fail
              refine (next_end _ _ s (k + 1 + 1) _ hk2 hs2 (by omega)).mono ?_
              rintro e W3 ⟨rfl, rfl⟩
              rw [F_wo a]
              cases Fs.wo a with
              | none =>
                have hr : UqRet s = .tuple #[.string ⟨#[]⟩, .int .i64 3] := by unfold UqRet; rw [hu]; rfl
                have HR := Lib.hid hr
                clear hr hu
                go_wp2
                go_ret2
                exact ⟨by rw [HR.out]; rfl, hb2⟩
              | some x =>
                have hr : UqRet s = .tuple #[.string ⟨#[]⟩, .int .i64 3] := by unfold UqRet; rw [hu]; rfl
                have HR := Lib.hid hr
                clear hr hu
                go_wp2
                go_ret2
                exact ⟨by rw [HR.out]; rfl, hb2⟩
          · rw [List.drop_of_length_le (by simp; omega), Fs.unq_hex0] at hu
            go_wp2_with fail
            refine (next_end _ _ s (k + 1) _ hk1 hs1 (by omega)).mono ?_
            rintro e W2 ⟨rfl, rfl⟩
            go_wp2_with fail
            refine (next_end _ _ s (k + 1) _ hk1 hs1 (by omega)).mono ?_
            rintro e W3 ⟨rfl, rfl⟩
            have hr : UqRet s = .tuple #[.string ⟨#[]⟩, .int .i64 3] := by unfold UqRet; rw [hu]; rfl
            have HR := Lib.hid hr
            clear hr hu
            go_wp2
            go_ret2
            exact ⟨by rw [HR.out]; rfl, hb1⟩
        · have h37' : ((c.toNat : Int) == 37) = false := by rw [beq_eq_false_iff_ne]; intro e; exact h37 (by rw [← UInt8.toNat_inj]; simp; omega)
          rw [Fs.unq_cons c _ hbad h37, Fs.map_app] at hu
          by_cases h43 : c = 43
          · subst h43
            have HU' : UqAt s (k + 1) (acc ++ [32]) := hu
            clear hu h37 hbad
            go_wp2_with (at_builtin; go_loud (refine wpList_append_own _ rfl (.tmp 48) (.tmp 50) 62 rfl (w.heap.size + 2) 5 i0 (.int .u8 0) 1 1 Tryz.underlying62 hi hz0 hz1 hz2 rfl (by decide) _ _ _ rfl (hown1.alloc _) ⟨wr.heap.size, 0, none⟩ 1 1 (Lib.byteCells [32]) rfl rfl (cells_at _ _ _ _ (by simp)) (byte_one _) ?c3 ?c4 ?c5 ?_))
            case c3 => unfold maxLen; omega
            case c4 => omega
            case c5 => simp; omega
            intro v' w1 hown' hgrow _
            have hI := UqI.push hs1 hk1 hown1 (by simp; omega) hb1 (by omega) (by omega) HU' hown' hgrow
            have hcm := hI.cell
            go_wp2
            go_roundw
            case rel => exact ⟨_, hI⟩
            case measure => rw [hcm, hck]; simp [intOf]; omega
          · have h43' : ((c.toNat : Int) == 43) = false := by rw [beq_eq_false_iff_ne]; intro e; exact h43 (by rw [← UInt8.toNat_inj]; simp; omega)
            rw [if_neg h43] at hu
            have HU' : UqAt s (k + 1) (acc ++ [c]) := hu
            clear hu h37 hbad h43
            go_wp2_with (at_builtin; go_loud (refine wpList_append_own _ rfl (.tmp 48) (.tmp 50) 62 rfl (w.heap.size + 2) 5 i0 (.int .u8 0) 1 1 Tryz.underlying62 hi hz0 hz1 hz2 rfl (by decide) _ _ _ rfl (hown1.alloc _) ⟨wr.heap.size, 0, none⟩ 1 1 (Lib.byteCells [c]) rfl rfl (cells_at _ _ _ _ (by simp)) (byte_one _) ?c3 ?c4 ?c5 ?_))
            case c3 => unfold maxLen; omega
            case c4 => omega
            case c5 => simp; omega
            intro v' w1 hown' hgrow _
            have hI := UqI.push hs1 hk1 hown1 (by simp; omega) hb1 (by omega) (by omega) HU' hown' hgrow
            have hcm := hI.cell
            go_wp2
            go_roundw
            case rel => exact ⟨_, hI⟩
            case measure => rw [hcm, hck]; simp [intOf]; omega
    · obtain rfl : k = s.size := by omega
      have hr : UqRet s = .tuple #[.string ⟨acc.toArray⟩, .int .i64 0] := by
        unfold UqRet; rw [hu, List.drop_of_length_le (by simp), Fs.unq_nil]; simp
      have HR := Lib.hid hr
      have hcv := conv_own hown
      clear hu hr
      go_wp2
      go_ret2
      exact ⟨by rw [HR.out]; rfl, hb⟩
end Go.Proofs.YtonbpekogfaibaaGreat
