/-
  Chapter 5, the reference's worth and str. Condition: the text has at most 100000 bytes.
-/
import Derived.Test.YtffllacphfapnaaGreatDoorJk
import Derived.Test.YtffllacphfapnaaGreatDoorJr
import Derived.IntWalk
namespace Go.Proofs.YtffllacphfapnaaGreatDoor
open Go.RowKit Js

/-- a sign's worth, or 16 -/
def wn (c : UInt8) : Int := match wo c with | some x => (x.toNat : Int) | none => 16
theorem wo_of_hx (x : UInt8) : x.toNat < 16 → wo (hx x) = some x := by revert x; exact all_u8 (by decide +kernel)
theorem wn_none {c : UInt8} (h : ∀ j, j < 16 → hx (UInt8.ofNat j) ≠ c) : wn c = 16 := by
  unfold wn
  cases e : wo c with
  | none => rfl
  | some x =>
    obtain ⟨h1, h2⟩ := wo_back c x e
    rw [UInt8.lt_iff_toNat_lt] at h2
    exact absurd (by simpa using h1) (h x.toNat (by simpa using h2))
theorem wn_some {c : UInt8} {k : Nat} (hk : k < 16) (h : hx (UInt8.ofNat k) = c) : wn c = (k : Int) := by
  have e : (UInt8.ofNat k).toNat = k := by rw [UInt8.toNat_ofNat']; omega
  have := wo_of_hx (UInt8.ofNat k) (by omega)
  rw [h] at this
  unfold wn; rw [this]; simp only [e]
theorem wn_of {c x : UInt8} (h : wo c = some x) : wn c = (x.toNat : Int) := by unfold wn; rw [h]
theorem wn_no {c : UInt8} (h : wo c = none) : wn c = 16 := by unfold wn; rw [h]
theorem rsign_nat (k : Nat) (hk : k < 16) (w : World) : Calls Tryz.prog 84 #[.int .i64 (k : Int)] w fun e w' => e = .returned (.int .u8 ((hx (UInt8.ofNat k)).toNat : Int)) ∧ w' = w := by
  have e : (UInt8.ofNat k).toNat = k := by rw [UInt8.toNat_ofNat']; omega
  have := rsign_any (UInt8.ofNat k) (by omega) w
  rwa [e] at this
set_option maxRecDepth 20000 in
theorem worth_any (c : UInt8) (w : World) : Calls Tryz.prog 63 #[.int .u8 (c.toNat : Int)] w fun e w' => e = .returned (.int .i64 (wn c)) ∧ w' = w := by
  go_enter Tryz.func63, Tryz.ntmps63
  go_wp2
  go_loop [3] (fun i => ∃ k : Nat, k ≤ 16 ∧ i = .int .i64 k ∧ Hid (∀ j, j < k → hx (UInt8.ofNat j) ≠ c)) (fun i => 16 - (intOf i).toNat)
  case atStart => exact ⟨0, by omega, rfl, Lib.hid (fun j h => by omega)⟩
  case round =>
    obtain ⟨k, hk, rfl, HN⟩ := hrel
    by_cases hk2 : k < 16
    · have hki : (k : Int) < 16 := by omega
      go_wp2_with fail
      refine (rsign_nat k hk2 _).mono ?_
      rintro e w5 ⟨rfl, rfl⟩
      by_cases he : hx (UInt8.ofNat k) = c
      · have HW := Lib.hid (wn_some hk2 he)
        rw [he]
        have hb : ((c.toNat : Int) == (c.toNat : Int)) = true := by simp
        clear he
        go_wp2
        go_ret
        exact ⟨ret_int HW.out.symm, rfl⟩
      · have hb : (((hx (UInt8.ofNat k)).toNat : Int) == (c.toNat : Int)) = false := by
          rw [beq_eq_false_iff_ne]; intro h; exact he (by rw [← UInt8.toNat_inj]; omega)
        have HN2 : Hid (∀ j, j < k + 1 → hx (UInt8.ofNat j) ≠ c) := Lib.hid fun j hj => by
          rcases Nat.lt_succ_iff_lt_or_eq.1 hj with h | h
          · exact HN.out j h
          · subst h; exact he
        generalize hx (UInt8.ofNat k) = d at hb
        have hb2 : ¬ d = c := by intro e; subst e; simp at hb
        have hb3 : (d.toNat == c.toNat) = false := by rw [beq_eq_false_iff_ne]; intro h; exact hb2 (by rw [← UInt8.toNat_inj]; exact h)
        clear he
        go_wp2
        go_round
        case rel => exact ⟨k + 1, by omega, by go_num, HN2⟩
        case measure => simp [intOf]; omega
    · have HW : Hid (wn c = 16) := Lib.hid (wn_none fun j hj => HN.out j (by omega))
      have hki : ¬ (k : Int) < 16 := by omega
      go_wp2
      go_ret
      exact ⟨ret_int HW.out.symm, rfl⟩

theorem StrR.none_ {s : By} {p : Nat} {t : By} (h : (s.drop p).head? ≠ some 34) : StrR s p t (-1) :=
  ⟨.inl rfl, fun t' r e => by rw [e] at h; exact absurd rfl h⟩
theorem StrR.some_ {s acc g : By} {p k : Nat} (h : SW (s.drop p) acc (34 :: g)) (hg : s.drop k = 34 :: g) (hp : p < k) : StrR s p acc ((k + 1 : Nat) : Int) := by
  have hl : s.length - k = g.length + 1 := by have := congrArg List.length hg; rw [List.length_drop] at this; exact this
  refine ⟨.inr ⟨k + 1, rfl, by omega, by omega⟩, fun t' r e => ?_⟩
  obtain ⟨e1, e2⟩ := h.stop t' r e
  exact ⟨e1.symm, by rw [e2, show s.length - g.length = k + 1 from by omega]⟩
theorem StrR.end_ {s acc : By} {p : Nat} {t : By} (h : SW (s.drop p) acc []) : StrR s p t (-1) := ⟨.inl rfl, fun t' r e => absurd e (h.none t' r)⟩
theorem drop_at1 (s : By) (k : Nat) (h : k < s.length) : s.drop k = s[k] :: s.drop (k + 1) := List.drop_eq_getElem_cons h
theorem u8_hex (x y : UInt8) (hx : x.toNat < 16) (hy : y.toNat < 16) : IntKind.u8.wrap (16 * (x.toNat : Int) + (y.toNat : Int)) = ((x * 16 + y).toNat : Int) := by
  have key : ∀ x y : Fin 16, IntKind.u8.wrap (16 * ((UInt8.ofNat x.val).toNat : Int) + ((UInt8.ofNat y.val).toNat : Int)) = ((UInt8.ofNat x.val * 16 + UInt8.ofNat y.val).toNat : Int) := by decide +kernel
  have := key ⟨x.toNat, hx⟩ ⟨y.toNat, hy⟩
  simpa using this

set_option maxRecDepth 20000 in
set_option maxHeartbeats 4000000 in
theorem str_any (s : By) (p : Nat) (w : World) (hs : s.length ≤ 100000) (hp : p ≤ 100001) :
    Calls Tryz.prog 41 #[.string ⟨s.toArray⟩, .int .i64 (p : Int)] w fun e w' => ∃ t to, e = .returned (.tuple #[.string ⟨t.toArray⟩, .int .i64 to]) ∧ StrR s p t to ∧ t.length ≤ s.length ∧ Below w.heap.size w w' := by
  obtain ⟨i0, hi, hz0, hz1, hz2⟩ := info_parts u8_row
  have hss := st_size s
  by_cases hpl : p < s.length
  case neg =>
    have HS : Hid (StrR s p [] (-1)) := Lib.hid (StrR.none_ (by rw [List.drop_eq_nil_of_le (by omega)]; simp))
    have h1 : decide (s.length ≤ p) = true := by simp; omega
    have h2 : s.length ≤ p := by omega
    go_enter Tryz.func41, Tryz.ntmps41
    go_wp2
    go_ret2
    exact ⟨[], -1, rfl, HS.out, by simp, Below.refl _ _⟩
  case pos =>
  have hix := ix_str ⟨s.toArray⟩ p (by rw [hss]; exact hpl) s[p] (by rfl)
  have hd := drop_at1 s p hpl
  have h1 : decide (s.length ≤ p) = false := by simp; omega
  obtain ⟨q, hq⟩ : ∃ q, q = s[p] := ⟨_, rfl⟩
  rw [← hq] at hix hd
  clear hq
  by_cases h34 : q = 34
  case neg =>
    have HS : Hid (StrR s p [] (-1)) := Lib.hid (StrR.none_ (by rw [hd]; simpa using h34))
    have b34 : ((q.toNat : Int) == 34) = false := by rw [beq_eq_false_iff_ne]; intro e; exact h34 (by rw [← UInt8.toNat_inj]; show q.toNat = 34; omega)
    have e34 : ((q.toNat : Int) != 34) = true := by rw [bne, b34]; rfl
    have f34 : ¬ (q.toNat : Int) = 34 := by simpa using b34
    clear h34 hd
    go_enter Tryz.func41, Tryz.ntmps41
    go_wp2
    go_ret2
    exact ⟨[], -1, rfl, HS.out, by simp, Below.refl _ _⟩
  case pos =>
  subst h34
  have HD := Lib.hid hd
  clear hd
  go_enter Tryz.func41, Tryz.ntmps41
  go_wp2
  go_loopw [6, 7] (fun v i wr => ∃ (acc : By) (k : Nat), p < k ∧ k ≤ s.length ∧ i = .int .i64 k ∧ Hid (SW (s.drop p) acc (s.drop k)) ∧ acc.length ≤ k ∧ wr.ownsRow w.heap.size 5 1 v acc.length (Lib.byteCells acc) ∧ Below w.heap.size w wr) (fun _ i _ => s.length - (intOf i).toNat)
  case atStart => exact ⟨[], p + 1, by omega, by omega, by go_num, Lib.hid (by rw [HD.out]; exact SW.start _), by simp, World.ownsRow_nil _ _ _ _, Below.refl _ _⟩
  case round =>
    clear hix
    obtain ⟨acc, k, hpk, hk, rfl, HW, hal, hown, hb⟩ := hrel
    by_cases hlt : k < s.length
    case neg =>
      have HS : Hid (StrR s p [] (-1)) := Lib.hid (StrR.end_ (acc := acc) (by have := HW.out; rwa [List.drop_eq_nil_of_le (by omega : s.length ≤ k)] at this))
      have h2 : decide (k < s.length) = false := by simp; omega
      go_wp2
      go_ret2
      exact ⟨[], -1, rfl, HS.out, by simp, hb⟩
    case pos =>
    have h2 : decide (k < s.length) = true := by simp; omega
    have hix := ix_str ⟨s.toArray⟩ k (by rw [hss]; exact hlt) s[k] (by rfl)
    have hd := drop_at1 s k hlt
    obtain ⟨c, hc⟩ : ∃ q, q = s[k] := ⟨_, rfl⟩
    rw [← hc] at hix hd
    clear hc
    by_cases h34 : c = 34
    · subst h34
      have HS : Hid (StrR s p acc ((k + 1 : Nat) : Int)) := Lib.hid (StrR.some_ (by rw [← hd]; exact HW.out) hd hpk)
      have hcv := conv_own hown
      clear hd
      go_wp2
      go_ret2
      exact ⟨acc, ((k + 1 : Nat) : Int), by rw [Int.natCast_add]; rfl, HS.out, by omega, hb⟩
    have HD2 := Lib.hid hd
    have b34 : ((c.toNat : Int) == 34) = false := by rw [beq_eq_false_iff_ne]; intro e; exact h34 (by rw [← UInt8.toNat_inj]; show c.toNat = 34; omega)
    have H34 := Lib.hid h34
    clear hd h34
    by_cases h92 : c = 92
    case neg =>
      have b92 : ((c.toNat : Int) == 92) = false := by rw [beq_eq_false_iff_ne]; intro e; exact h92 (by rw [← UInt8.toNat_inj]; show c.toNat = 92; omega)
      have HW2 : Hid (SW (s.drop p) (acc ++ [c]) (s.drop (k + 1))) := Lib.hid (by have h := HW.out; rw [HD2.out] at h; exact h.plain H34.out h92)
      clear h92
      go_wp2_with (at_builtin; go_loud (refine wpList_append_own _ rfl _ _ 36 rfl w.heap.size 5 i0 (.int .u8 0) 1 1 Tryz.underlying36 hi hz0 hz1 hz2 rfl (by decide) _ _ _ rfl (hown.alloc _) ⟨wr.heap.size, 0, none⟩ 1 1 (Lib.byteCells [c]) rfl rfl (cells_new _ _ _) (byte_one _) ?c3 ?c4 ?c5 ?_))
      case c3 => unfold maxLen; omega
      case c4 => omega
      case c5 => have := hb.size; simp; omega
      intro v' w1 hown' hgrow hv0
      have hn := below_app hb (Nat.le_trans (Nat.le_refl _) hb.size) hgrow (fun k hk => (hown.lt k hk).1)
      have ho2 : w1.ownsRow w.heap.size 5 1 v' (acc ++ [c]).length (Lib.byteCells (acc ++ [c])) := own_cast hown' (by simp) (by rw [bc_append])
      clear hown' hgrow hv0 hown hb
      go_wp2
      go_roundw
      case rel => exact ⟨acc ++ [c], k + 1, by omega, by omega, by go_num, HW2, by simp; omega, ho2, hn⟩
      case measure => simp [intOf]; omega
    case pos =>
    subst h92
    clear b34
    have hl1 : (k : Int) + 1 < 9223372036854775807 := by omega
    by_cases hk1 : k + 1 < s.length
    case neg =>
      have h3 : decide (k + 1 < s.length) = false := by simp; omega
      have h5 : decide (k + 5 < s.length) = false := by simp; omega
      have h3' : decide ((k : Int) + 1 < (s.length : Int)) = false := by simp; omega
      have h5' : decide ((k : Int) + 5 < (s.length : Int)) = false := by simp; omega
      have HW2 : Hid (SW (s.drop p) (acc ++ [92]) (s.drop (k + 1))) := Lib.hid (by
        have h := HW.out
        rw [HD2.out] at h
        refine h.odd (fun d r' e => ?_) (fun d p q a b r' x y e => ?_) _ _
        · have := congrArg List.length e; rw [List.length_drop, List.length_cons] at this; omega
        · have := congrArg List.length e; rw [List.length_drop, List.length_cons] at this; omega)
      go_wp2_with (at_builtin; go_loud (refine wpList_append_own _ rfl _ _ 36 rfl w.heap.size 5 i0 (.int .u8 0) 1 1 Tryz.underlying36 hi hz0 hz1 hz2 rfl (by decide) _ _ _ rfl (hown.alloc _) ⟨wr.heap.size, 0, none⟩ 1 1 (Lib.byteCells [92]) rfl rfl (cells_new _ _ _) (byte_one _) ?c3 ?c4 ?c5 ?_))
      case c3 => unfold maxLen; omega
      case c4 => omega
      case c5 => have := hb.size; simp; omega
      intro v' w1 hown' hgrow hv0
      have hn := below_app hb (Nat.le_trans (Nat.le_refl _) hb.size) hgrow (fun k hk => (hown.lt k hk).1)
      have ho2 : w1.ownsRow w.heap.size 5 1 v' (acc ++ [92]).length (Lib.byteCells (acc ++ [92])) := own_cast hown' (by simp) (by rw [bc_append])
      clear hown' hgrow hv0 hown hb
      go_wp2
      go_roundw
      case rel => exact ⟨acc ++ [92], k + 1, by omega, by omega, by go_num, HW2, by simp; omega, ho2, hn⟩
      case measure => simp [intOf]; omega
    case pos =>
    have h3 : decide (k + 1 < s.length) = true := by simp; omega
    have h3' : decide ((k : Int) + 1 < (s.length : Int)) = true := by simp; omega
    have hix1 := ix_int ⟨s.toArray⟩ (k + 1) (by rw [hss]; exact hk1) s[k + 1] (by rfl) ((k : Int) + 1) (by omega)
    have hd := drop_at1 s (k + 1) hk1
    obtain ⟨d, hdd⟩ : ∃ q, q = s[k + 1] := ⟨_, rfl⟩
    rw [← hdd] at hix1 hd
    have HD3 := Lib.hid hd
    clear hdd hd
    by_cases hd : d = 34 ∨ d = 92
    · have HW2 : Hid (SW (s.drop p) (acc ++ [d]) (s.drop (k + 2))) := Lib.hid (by
        have h := HW.out
        rw [HD2.out, HD3.out] at h
        exact h.esc hd)
      rcases hd with rfl | rfl
      · skip
        go_wp2_with (at_builtin; go_loud (refine wpList_append_own _ rfl _ _ 36 rfl w.heap.size 5 i0 (.int .u8 0) 1 1 Tryz.underlying36 hi hz0 hz1 hz2 rfl (by decide) _ _ _ rfl (hown.alloc _) ⟨wr.heap.size, 0, none⟩ 1 1 (Lib.byteCells [34]) rfl rfl (cells_new _ _ _) (byte_one _) ?c3 ?c4 ?c5 ?_))
        case c3 => unfold maxLen; omega
        case c4 => omega
        case c5 => have := hb.size; simp; omega
        intro v' w1 hown' hgrow hv0
        have hn := below_app hb (Nat.le_trans (Nat.le_refl _) hb.size) hgrow (fun k hk => (hown.lt k hk).1)
        have ho2 : w1.ownsRow w.heap.size 5 1 v' (acc ++ [34]).length (Lib.byteCells (acc ++ [34])) := own_cast hown' (by simp) (by rw [bc_append])
        clear hown' hgrow hv0 hown hb
        go_wp2
        go_roundw
        case rel => exact ⟨acc ++ [34], k + 2, by omega, by omega, by go_num, HW2, by simp; omega, ho2, hn⟩
        case measure => simp [intOf]; omega
      · skip
        go_wp2_with (at_builtin; go_loud (refine wpList_append_own _ rfl _ _ 36 rfl w.heap.size 5 i0 (.int .u8 0) 1 1 Tryz.underlying36 hi hz0 hz1 hz2 rfl (by decide) _ _ _ rfl (hown.alloc _) ⟨wr.heap.size, 0, none⟩ 1 1 (Lib.byteCells [92]) rfl rfl (cells_new _ _ _) (byte_one _) ?c3 ?c4 ?c5 ?_))
        case c3 => unfold maxLen; omega
        case c4 => omega
        case c5 => have := hb.size; simp; omega
        intro v' w1 hown' hgrow hv0
        have hn := below_app hb (Nat.le_trans (Nat.le_refl _) hb.size) hgrow (fun k hk => (hown.lt k hk).1)
        have ho2 : w1.ownsRow w.heap.size 5 1 v' (acc ++ [92]).length (Lib.byteCells (acc ++ [92])) := own_cast hown' (by simp) (by rw [bc_append])
        clear hown' hgrow hv0 hown hb
        go_wp2
        go_roundw
        case rel => exact ⟨acc ++ [92], k + 2, by omega, by omega, by go_num, HW2, by simp; omega, ho2, hn⟩
        case measure => simp [intOf]; omega
    have b34 : ((d.toNat : Int) == 34) = false := by rw [beq_eq_false_iff_ne]; intro e; exact hd (.inl (by rw [← UInt8.toNat_inj]; show d.toNat = 34; omega))
    have b92 : ((d.toNat : Int) == 92) = false := by rw [beq_eq_false_iff_ne]; intro e; exact hd (.inr (by rw [← UInt8.toNat_inj]; show d.toNat = 92; omega))
    have HND := Lib.hid hd
    clear hd
    by_cases hk5 : k + 5 < s.length
    case neg =>
      have h5 : decide (k + 5 < s.length) = false := by simp; omega
      have h5' : decide ((k : Int) + 5 < (s.length : Int)) = false := by simp; omega
      have HW2 : Hid (SW (s.drop p) (acc ++ [92]) (s.drop (k + 1))) := Lib.hid (by
        have h := HW.out
        rw [HD2.out] at h
        refine h.odd (fun d' r' e => ?_) (fun d p q a b r' x y e => ?_) _ _
        · rw [HD3.out] at e; cases e; exact HND.out
        · have := congrArg List.length e; rw [List.length_drop] at this; simp at this; omega)
      go_wp2_with (at_builtin; go_loud (refine wpList_append_own _ rfl _ _ 36 rfl w.heap.size 5 i0 (.int .u8 0) 1 1 Tryz.underlying36 hi hz0 hz1 hz2 rfl (by decide) _ _ _ rfl (hown.alloc _) ⟨wr.heap.size, 0, none⟩ 1 1 (Lib.byteCells [92]) rfl rfl (cells_new _ _ _) (byte_one _) ?c3 ?c4 ?c5 ?_))
      case c3 => unfold maxLen; omega
      case c4 => omega
      case c5 => have := hb.size; simp; omega
      intro v' w1 hown' hgrow hv0
      have hn := below_app hb (Nat.le_trans (Nat.le_refl _) hb.size) hgrow (fun k hk => (hown.lt k hk).1)
      have ho2 : w1.ownsRow w.heap.size 5 1 v' (acc ++ [92]).length (Lib.byteCells (acc ++ [92])) := own_cast hown' (by simp) (by rw [bc_append])
      clear hown' hgrow hv0 hown hb
      go_wp2
      go_roundw
      case rel => exact ⟨acc ++ [92], k + 1, by omega, by omega, by go_num, HW2, by simp; omega, ho2, hn⟩
      case measure => simp [intOf]; omega
    case pos =>
    have h5 : decide (k + 5 < s.length) = true := by simp; omega
    have h5' : decide ((k : Int) + 5 < (s.length : Int)) = true := by simp; omega
    have hix4 := ix_int ⟨s.toArray⟩ (k + 4) (by rw [hss]; omega) s[k + 4] (by rfl) ((k : Int) + 4) (by omega)
    have hix5 := ix_int ⟨s.toArray⟩ (k + 5) (by rw [hss]; omega) s[k + 5] (by rfl) ((k : Int) + 5) (by omega)
    have hall : s.drop (k + 1) = d :: s[k + 2] :: s[k + 3] :: s[k + 4] :: s[k + 5] :: s.drop (k + 6) := by
      rw [HD3.out, drop_at1 s (k + 2) (by omega), drop_at1 s (k + 3) (by omega), drop_at1 s (k + 4) (by omega), drop_at1 s (k + 5) (by omega)]
    obtain ⟨a, ha⟩ : ∃ q, q = s[k + 4] := ⟨_, rfl⟩
    obtain ⟨b, hb'⟩ : ∃ q, q = s[k + 5] := ⟨_, rfl⟩
    rw [← ha] at hix4 hall
    rw [← hb'] at hix5 hall
    have HA := Lib.hid hall
    clear ha hb' hall
    cases hwa : wo a with
    | none =>
      have hwn := wn_no hwa
      have HW2 : Hid (SW (s.drop p) (acc ++ [92]) (s.drop (k + 1))) := Lib.hid (by
        have h := HW.out
        rw [HD2.out] at h
        refine h.odd (fun d' r' e => ?_) (fun d p q a' b r' x y e e1 _ => ?_) _ _
        · rw [HD3.out] at e; cases e; exact HND.out
        · rw [HA.out] at e; cases e; rw [hwa] at e1; cases e1)
      clear hwa
      go_wp2_with fail
      refine (worth_any a _).mono ?_
      rintro e w5 ⟨rfl, rfl⟩
      rw [hwn]
      go_wp2_with (at_builtin; go_loud (refine wpList_append_own _ rfl _ _ 36 rfl w.heap.size 5 i0 (.int .u8 0) 1 1 Tryz.underlying36 hi hz0 hz1 hz2 rfl (by decide) _ _ _ rfl (hown.alloc _) ⟨w5.heap.size, 0, none⟩ 1 1 (Lib.byteCells [92]) rfl rfl (cells_new _ _ _) (byte_one _) ?c3 ?c4 ?c5 ?_))
      case c3 => unfold maxLen; omega
      case c4 => omega
      case c5 => have := hb.size; simp; omega
      intro v' w1 hown' hgrow hv0
      have hn := below_app hb (Nat.le_trans (Nat.le_refl _) hb.size) hgrow (fun k hk => (hown.lt k hk).1)
      have ho2 : w1.ownsRow w.heap.size 5 1 v' (acc ++ [92]).length (Lib.byteCells (acc ++ [92])) := own_cast hown' (by simp) (by rw [bc_append])
      clear hown' hgrow hv0 hown hb
      go_wp2
      go_roundw
      case rel => exact ⟨acc ++ [92], k + 1, by omega, by omega, by go_num, HW2, by simp; omega, ho2, hn⟩
      case measure => simp [intOf]; omega
    | some x =>
      have hwn := wn_of hwa
      have hx16 := wo_lt a x hwa
      cases hwb : wo b with
      | none =>
        have hwn2 := wn_no hwb
        have HW2 : Hid (SW (s.drop p) (acc ++ [92]) (s.drop (k + 1))) := Lib.hid (by
          have h := HW.out
          rw [HD2.out] at h
          refine h.odd (fun d' r' e => ?_) (fun d p q a' b r' x y e _ e1 => ?_) _ _
          · rw [HD3.out] at e; cases e; exact HND.out
          · rw [HA.out] at e; cases e; rw [hwb] at e1; cases e1)
        clear hwa hwb
        go_wp2_with fail
        refine (worth_any a _).mono ?_
        rintro e w5 ⟨rfl, rfl⟩
        rw [hwn]
        have hxi : (x.toNat : Int) < 16 := by omega
        go_wp2_with fail
        refine (worth_any b _).mono ?_
        rintro e w6 ⟨rfl, rfl⟩
        rw [hwn2]
        go_wp2_with (at_builtin; go_loud (refine wpList_append_own _ rfl _ _ 36 rfl w.heap.size 5 i0 (.int .u8 0) 1 1 Tryz.underlying36 hi hz0 hz1 hz2 rfl (by decide) _ _ _ rfl (hown.alloc _) ⟨w6.heap.size, 0, none⟩ 1 1 (Lib.byteCells [92]) rfl rfl (cells_new _ _ _) (byte_one _) ?c3 ?c4 ?c5 ?_))
        case c3 => unfold maxLen; omega
        case c4 => omega
        case c5 => have := hb.size; simp; omega
        intro v' w1 hown' hgrow hv0
        have hn := below_app hb (Nat.le_trans (Nat.le_refl _) hb.size) hgrow (fun k hk => (hown.lt k hk).1)
        have ho2 : w1.ownsRow w.heap.size 5 1 v' (acc ++ [92]).length (Lib.byteCells (acc ++ [92])) := own_cast hown' (by simp) (by rw [bc_append])
        clear hown' hgrow hv0 hown hb
        go_wp2
        go_roundw
        case rel => exact ⟨acc ++ [92], k + 1, by omega, by omega, by go_num, HW2, by simp; omega, ho2, hn⟩
        case measure => simp [intOf]; omega
      | some y =>
        have hwn2 := wn_of hwb
        have hy16 := wo_lt b y hwb
        have HW2 : Hid (SW (s.drop p) (acc ++ [x * 16 + y]) (s.drop (k + 6))) := Lib.hid (by
          have h := HW.out
          rw [HD2.out, HA.out] at h
          exact h.hex HND.out hwa hwb)
        have hu8 := u8_hex x y hx16 hy16
        generalize x * 16 + y = z at hu8 HW2
        clear hwa hwb
        go_wp2_with fail
        refine (worth_any a _).mono ?_
        rintro e w5 ⟨rfl, rfl⟩
        rw [hwn]
        have hxi : (x.toNat : Int) < 16 := by omega
        go_wp2_with fail
        refine (worth_any b _).mono ?_
        rintro e w6 ⟨rfl, rfl⟩
        rw [hwn2]
        have hyi : (y.toNat : Int) < 16 := by omega
        have s4 : IntKind.i64.wrap ((k : Int) + 4) = (k : Int) + 4 := IntWalk.i64_in _ (by omega)
        have s5 : IntKind.i64.wrap ((k : Int) + 5) = (k : Int) + 5 := IntWalk.i64_in _ (by omega)
        have s6 : IntKind.i64.wrap (16 * (x.toNat : Int)) = 16 * (x.toNat : Int) := IntWalk.i64_in _ (by omega)
        have s7 : IntKind.i64.wrap (16 * (x.toNat : Int) + (y.toNat : Int)) = 16 * (x.toNat : Int) + (y.toNat : Int) := IntWalk.i64_in _ (by omega)
        have qa := fun w => worth_any a w
        have qb := fun w => worth_any b w
        simp only [hwn] at qa
        simp only [hwn2] at qb
        go_wp2_with fail
        go_quiet ((first | (with_reducible exact Calls.quiet_of_same (qa _)) | (with_reducible exact Calls.quiet_of_same (qb _))))
        have hown6 := own_drewN hown nq
        have hb6 := below_drewN hb nq
        clear s4 s5 s6 s7 qa qb hown hb
        have hown := hown6
        have hb := hb6
        clear hown6 hb6
        go_wp2_with (at_builtin; go_loud (refine wpList_append_own _ rfl _ _ 36 rfl w.heap.size 5 i0 (.int .u8 0) 1 1 Tryz.underlying36 hi hz0 hz1 hz2 rfl (by decide) _ _ _ rfl (hown.alloc _) ⟨(w6.drewN nq).heap.size, 0, none⟩ 1 1 (Lib.byteCells [z]) rfl rfl (cells_new _ _ _) (byte_one _) ?c3 ?c4 ?c5 ?_))
        case c3 => unfold maxLen; omega
        case c4 => omega
        case c5 => have := hb.size; have e5 : (w6.drewN nq).heap.size = w6.heap.size := rfl; simp; omega
        intro v' w1 hown' hgrow hv0
        have hn := below_app hb (Nat.le_trans (Nat.le_refl _) hb.size) hgrow (fun k hk => (hown.lt k hk).1)
        have ho2 : w1.ownsRow w.heap.size 5 1 v' (acc ++ [z]).length (Lib.byteCells (acc ++ [z])) := own_cast hown' (by simp) (by rw [bc_append])
        clear hown' hgrow hv0 hown hb
        go_wp2
        go_roundw
        case rel => exact ⟨acc ++ [z], k + 6, by omega, by omega, by go_num, HW2, by simp; omega, ho2, hn⟩
        case measure => simp [intOf]; omega
end Go.Proofs.YtffllacphfapnaaGreatDoor
