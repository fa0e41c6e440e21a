/-
  Chapter 1: octet.unsixes at the basic signs. Printed by gen_unsixes.py.
-/
import Derived.Test.YtonbpekogfaibaaGreatNy
namespace Go.Proofs.YtonbpekogfaibaaGreat.Oc
open Go.RowKit
set_option linter.unusedVariables false
set_option maxRecDepth 20000

/-- the error's number -/
def unC (x : Option By) : Int := if x.isSome = true then 0 else 3
set_option maxHeartbeats 4000000 in
theorem unsixes_any (s : By) (w : World) (hl : s.length ≤ 140737488355000) :
    Calls Tryz.prog 65 #[.string ⟨basT.toArray⟩, .string ⟨s.toArray⟩] w fun e w' => ∃ v, e = .returned (.tuple #[v, .int .i64 (unC (unsix s))]) ∧ w'.ownsRow w.heap.size 5 1 v ((unsix s).getD []).length (Lib.byteCells ((unsix s).getD [])) ∧ Below w.heap.size w w' := by
  have hsz : (⟨s.toArray⟩ : ByteArray).size = s.length := by simp [ByteArray.size]
  obtain ⟨i0, hi, hz0, hz1, hz2⟩ := info_p u8_row
  obtain ⟨SZ, hSZ⟩ : ∃ SZ, SZ = s.length := ⟨_, rfl⟩
  have HSZ := Lib.hid hSZ
  obtain ⟨sb, hsb⟩ : ∃ sb, sb = (⟨s.toArray⟩ : ByteArray) := ⟨_, rfl⟩
  rw [← hsb, ← hSZ] at hsz
  rw [← hSZ] at hl
  have HIX : Hid (∀ (k : Nat) c W, s[k]? = some c → (Instr.index 9 (.string sb) (.int .i64 (k : Int))).run Tryz.prog W = .ok (.int .u8 (c.toNat : Int)) W) := Lib.hid (fun k c W hk => by
    have h2 : s.toArray[k]? = some c := by simpa using hk
    obtain ⟨h4, h5⟩ := Array.getElem?_eq_some_iff.1 h2
    rw [hsb]
    exact ix_str ⟨s.toArray⟩ k h4 c h5 W)
  obtain ⟨tb, htb⟩ : ∃ tb, tb = (⟨basT.toArray⟩ : ByteArray) := ⟨_, rfl⟩
  have HW : Hid (∀ (c : UInt8) W, Calls Tryz.prog 82 #[.string tb, .int .u8 (c.toNat : Int)] W fun e w' => e = .returned (.int .i64 (wbI c)) ∧ W = w') := Lib.hid (fun c W => by rw [htb]; exact worth_any c W)
  rw [← hsb, ← htb]
  clear hsb htb hSZ
  by_cases hm : SZ % 4 = 1
  case pos =>
    have t0 : ((SZ : Int) % 4 == 1) = true := by rw [beq_iff_eq]; omega
    have hu := Lib.hid (show unsix s = none from by unfold unsix; rw [if_pos (by rw [← HSZ.out]; exact hm)])
    clear hm
    go_enter Tryz.func65, Tryz.ntmps65
    go_wp2_with fail
    go_ret2
    refine ⟨_, by rw [hu.out]; rfl, ?_, Below.refl _ _⟩
    rw [hu.out]
    exact World.ownsRow_nil _ _ _ _
  case neg =>
  have t0 : ((SZ : Int) % 4 == 1) = false := by rw [beq_eq_false_iff_ne]; omega
  have HM := Lib.hid hm
  clear hm
  go_enter Tryz.func65, Tryz.ntmps65
  go_wp2_with fail
  go_loopw [6, 7, 8, 9] (fun b h bt i wr => ∃ (k : Nat) (q : By) (y : Nat) (sr : Value), k ≤ SZ ∧ i = .int .i64 (k : Int) ∧ un s k = some (q, y) ∧ b = sr ∧ h = .int .i64 (y : Int) ∧ bt = .int .i64 (((6 * k) % 8 : Nat) : Int) ∧ wr.ownsRow w.heap.size 5 1 sr q.length (Lib.byteCells q) ∧ Below w.heap.size w wr) (fun _ _ _ i _ => SZ - (intOf i).toNat)
  case atStart => exact ⟨0, [], 0, _, Nat.zero_le _, rfl, rfl, rfl, rfl, rfl, World.ownsRow_nil _ _ _ _, Below.refl _ _⟩
  case round =>
    obtain ⟨k, q, y, sr, hk, rfl, hun, hsr, rfl, rfl, ho, hb⟩ := hrel
    obtain rfl := hsr.symm
    obtain ⟨sa, sc, hsl⟩ := (Rd.of_own ho).slice
    subst hsl
    have hh := un_held s k q y hun
    have HQL : Hid (q.length ≤ 140737488355000) := Lib.hid (by have := un_len s k q y hun; omega)
    have HO := Lib.hid ho
    by_cases hlt : k < SZ
    case neg =>
      have k0 : ¬ (k : Int) < (SZ : Int) := by omega
      have hke : k = s.length := by rw [← HSZ.out]; omega
      by_cases hy : y = 0
      case pos =>
        subst hy
        have hu := Lib.hid (show unsix s = some q from by unfold unsix; rw [if_neg (by rw [← HSZ.out]; exact HM.out), ← hke, hun]; simp)
        clear hun hh ho hke
        go_wp2_with fail
        go_ret2
        refine ⟨_, by rw [hu.out]; rfl, ?_, hb⟩
        rw [hu.out]
        exact HO.out
      case neg =>
        have t1 : ((y : Int) == 0) = false := by rw [beq_eq_false_iff_ne]; omega
        have t2 : ((y : Int) != 0) = true := by rw [bne, t1]; rfl
        have hu := Lib.hid (show unsix s = none from by unfold unsix; rw [if_neg (by rw [← HSZ.out]; exact HM.out), ← hke, hun]; (try simp only); rw [if_neg hy])
        clear hun hh ho hke hy
        go_wp2_with fail
        go_ret2
        refine ⟨_, by rw [hu.out]; rfl, ?_, hb⟩
        rw [hu.out]
        exact World.ownsRow_nil _ _ _ _
    case pos =>
      have k0 : (k : Int) < (SZ : Int) := by omega
      obtain ⟨c, hc⟩ : ∃ c, s[k]? = some c := ⟨_, List.getElem?_eq_getElem (by have := HSZ.out; omega)⟩
      have hix := HIX.out k c wr hc
      have hgd : s.getD k 0 = c := by rw [List.getD_eq_getElem?_getD, hc]; rfl
      have hS : un s (k + 1) = _ := un.eq_2 s k
      rw [hun, hgd] at hS
      clear hun hc hgd ho
      go_wp2_with fail
      refine (HW.out c wr).mono ?_
      rintro e w' ⟨rfl, hw⟩
      obtain rfl := hw
      by_cases hx : wbN c < 64
      case neg =>
        have hwi : wbI c = -1 := by unfold wbI; rw [if_neg hx]
        rw [hwi]
        have hu := Lib.hid (show unsix s = none from by
          unfold unsix
          rw [if_neg (by rw [← HSZ.out]; exact HM.out), un_none s (k + 1) s.length (by rw [hS]; (try simp only); rw [if_neg hx]) (by rw [← HSZ.out]; omega)])
        clear hS hh hwi hx
        go_wp2_with fail
        go_ret2
        refine ⟨_, by rw [hu.out]; rfl, ?_, hb⟩
        rw [hu.out]
        exact World.ownsRow_nil _ _ _ _
      case pos =>
        have hwi : wbI c = (wbN c : Int) := by unfold wbI; rw [if_pos hx]
        rw [hwi]
        generalize wbN c = x at *
        have hxl : x < 64 := hx
        have t3 : ¬ (x : Int) < 0 := by omega
        have t4 : decide ((x : Int) < 0) = false := decide_eq_false t3
        clear hwi hx hix
        have h4c : k % 4 = 0 ∨ k % 4 = 1 ∨ k % 4 = 2 ∨ k % 4 = 3 := by omega
        rcases h4c with h4c | h4c | h4c | h4c
        case inl =>
          have hyl : y < 1 := by have := hh.1 h4c; omega
          have hyl2 : y < 64 := by omega
          have hb0 : (6 * (k : Int)) % 8 = 0 := by omega
          rw [hb0]
          obtain ⟨v, hv⟩ : ∃ v, v = y * 64 + x := ⟨_, rfl⟩
          have hvl : v < 4096 := by omega
          have e0 : bits .or .i64 ((y : Int) * 64) (x : Int) = (v : Int) := by rw [hv]; exact or_64 y x (by omega) hxl
          have hS2 := Lib.hid (show un s (k + 1) = some (q, v) from by rw [hS]; (try simp only); rw [if_pos hxl, if_pos h4c, ← hv])
          clear hS hh hb0 hv
          go_wp2_with fail
          go_roundw
          case rel => exact ⟨k + 1, q, v, _, by omega, by go_num, hS2.out, rfl, rfl, by rw [show ((6 * (k + 1)) % 8 : Nat) = 6 from by omega]; rfl, HO.out, hb⟩
          case measure => simp [intOf]; omega
        case inr.inl =>
          have hyl : y < 64 := by have := hh.2.1 h4c; omega
          have hyl2 : y < 64 := by omega
          have hb0 : (6 * (k : Int)) % 8 = 6 := by omega
          rw [hb0]
          obtain ⟨v, hv⟩ : ∃ v, v = y * 64 + x := ⟨_, rfl⟩
          have hvl : v < 4096 := by omega
          have e0 : bits .or .i64 ((y : Int) * 64) (x : Int) = (v : Int) := by rw [hv]; exact or_64 y x (by omega) hxl
          obtain ⟨cz, hcz⟩ : ∃ cz : UInt8, cz = UInt8.ofNat (v / 16) := ⟨_, rfl⟩
          have e1 : (v : Int) / 16 = ((v / 16 : Nat) : Int) := (Int.natCast_ediv v 16).symm
          obtain ⟨u, hu⟩ : ∃ u, u = v / 16 := ⟨_, rfl⟩
          obtain ⟨r, hr⟩ : ∃ r, r = v % 16 := ⟨_, rfl⟩
          have e3 : bits .and .i64 (v : Int) 15 = (r : Int) := by rw [hr]; exact and_15b v hvl
          rw [← hu] at e1 hcz
          have hul : u < 256 := by omega
          have e4 : IntKind.u8.wrap (u : Int) = (cz.toNat : Int) := by rw [hcz, IntKind.wrap_u8, UInt8.toNat_ofNat_of_lt' (by show u < 256; exact hul)]; omega
          have e5 : (u : Int) % 256 = (cz.toNat : Int) := by rw [← e4, IntKind.wrap_u8]
          have hyl2 : y < 64 := by omega
          have hS2 := Lib.hid (show un s (k + 1) = some (q ++ [cz], r) from by rw [hS]; (try simp only); rw [if_pos hxl, if_neg (by omega), if_pos h4c, ← hv, hcz, hu, hr])
          have hba1 : w.heap.size ≤ (wr.alloc (.cells #[.int .u8 (cz.toNat : Int)] 5)).heap.size := by rw [World.size_alloc]; exact Nat.le_succ_of_le hb.size
          have hro := rd_oneb wr cz
          clear hS hh hb0 hv hcz hu hr
          go_wp2_with (at_builtin; go_loud (refine wpList_app rfl _ _ 62 rfl 5 w.heap.size i0 (.int .u8 0) 1 1 Tryz.underlying62 hi hz0 hz1 hz2 rfl (by decide) (.slice sa q.length sc) q.length _ (by rfl) (HO.out.alloc _) (.slice (some ⟨wr.heap.size, 0, none⟩) 1 1) 1 (Lib.byteCells [cz]) (by rfl) hro (byte_one _) (by have := HQL.out; unfold maxLen; omega) (by have := HQL.out; omega) hba1 ?_))
          intro v1 w1 o1 hg1 hob1
          have hb1 : Below w.heap.size w w1 := below_app hb hb.size hg1 (fun j e => (HO.out.lt j e).1)
          have o1c : w1.ownsRow w.heap.size 5 1 v1 (q ++ [cz]).length (Lib.byteCells (q ++ [cz])) := own_cast o1 (by rw [List.length_append, List.length_singleton]) (by rw [bc_append])
          have HR := Lib.hid (And.intro o1c hb1)
          clear o1 hg1 hob1 o1c hb1 hba1 hro
          go_wp2_with fail
          go_roundw
          case rel => exact ⟨k + 1, q ++ [cz], r, _, by omega, by go_num, hS2.out, rfl, rfl, by rw [show ((6 * (k + 1)) % 8 : Nat) = 4 from by omega]; rfl, HR.out⟩
          case measure => simp [intOf]; omega
        case inr.inr.inl =>
          have hyl : y < 16 := by have := hh.2.2.1 h4c; omega
          have hyl2 : y < 64 := by omega
          have hb0 : (6 * (k : Int)) % 8 = 4 := by omega
          rw [hb0]
          obtain ⟨v, hv⟩ : ∃ v, v = y * 64 + x := ⟨_, rfl⟩
          have hvl : v < 4096 := by omega
          have e0 : bits .or .i64 ((y : Int) * 64) (x : Int) = (v : Int) := by rw [hv]; exact or_64 y x (by omega) hxl
          obtain ⟨cz, hcz⟩ : ∃ cz : UInt8, cz = UInt8.ofNat (v / 4) := ⟨_, rfl⟩
          have e1 : (v : Int) / 4 = ((v / 4 : Nat) : Int) := (Int.natCast_ediv v 4).symm
          obtain ⟨u, hu⟩ : ∃ u, u = v / 4 := ⟨_, rfl⟩
          obtain ⟨r, hr⟩ : ∃ r, r = v % 4 := ⟨_, rfl⟩
          have e3 : bits .and .i64 (v : Int) 3 = (r : Int) := by rw [hr]; exact and_3b v hvl
          rw [← hu] at e1 hcz
          have hul : u < 256 := by omega
          have e4 : IntKind.u8.wrap (u : Int) = (cz.toNat : Int) := by rw [hcz, IntKind.wrap_u8, UInt8.toNat_ofNat_of_lt' (by show u < 256; exact hul)]; omega
          have e5 : (u : Int) % 256 = (cz.toNat : Int) := by rw [← e4, IntKind.wrap_u8]
          have hyl2 : y < 64 := by omega
          have hS2 := Lib.hid (show un s (k + 1) = some (q ++ [cz], r) from by rw [hS]; (try simp only); rw [if_pos hxl, if_neg (by omega), if_neg (by omega), if_pos h4c, ← hv, hcz, hu, hr])
          have hba1 : w.heap.size ≤ (wr.alloc (.cells #[.int .u8 (cz.toNat : Int)] 5)).heap.size := by rw [World.size_alloc]; exact Nat.le_succ_of_le hb.size
          have hro := rd_oneb wr cz
          clear hS hh hb0 hv hcz hu hr
          go_wp2_with (at_builtin; go_loud (refine wpList_app rfl _ _ 62 rfl 5 w.heap.size i0 (.int .u8 0) 1 1 Tryz.underlying62 hi hz0 hz1 hz2 rfl (by decide) (.slice sa q.length sc) q.length _ (by rfl) (HO.out.alloc _) (.slice (some ⟨wr.heap.size, 0, none⟩) 1 1) 1 (Lib.byteCells [cz]) (by rfl) hro (byte_one _) (by have := HQL.out; unfold maxLen; omega) (by have := HQL.out; omega) hba1 ?_))
          intro v1 w1 o1 hg1 hob1
          have hb1 : Below w.heap.size w w1 := below_app hb hb.size hg1 (fun j e => (HO.out.lt j e).1)
          have o1c : w1.ownsRow w.heap.size 5 1 v1 (q ++ [cz]).length (Lib.byteCells (q ++ [cz])) := own_cast o1 (by rw [List.length_append, List.length_singleton]) (by rw [bc_append])
          have HR := Lib.hid (And.intro o1c hb1)
          clear o1 hg1 hob1 o1c hb1 hba1 hro
          go_wp2_with fail
          go_roundw
          case rel => exact ⟨k + 1, q ++ [cz], r, _, by omega, by go_num, hS2.out, rfl, rfl, by rw [show ((6 * (k + 1)) % 8 : Nat) = 2 from by omega]; rfl, HR.out⟩
          case measure => simp [intOf]; omega
        case inr.inr.inr =>
          have hyl : y < 4 := by have := hh.2.2.2 h4c; omega
          have hyl2 : y < 64 := by omega
          have hb0 : (6 * (k : Int)) % 8 = 2 := by omega
          rw [hb0]
          obtain ⟨v, hv⟩ : ∃ v, v = y * 64 + x := ⟨_, rfl⟩
          have hvl : v < 4096 := by omega
          have e0 : bits .or .i64 ((y : Int) * 64) (x : Int) = (v : Int) := by rw [hv]; exact or_64 y x (by omega) hxl
          obtain ⟨cz, hcz⟩ : ∃ cz : UInt8, cz = UInt8.ofNat (v) := ⟨_, rfl⟩
          obtain ⟨u, hu⟩ : ∃ u, u = v := ⟨_, rfl⟩
          obtain ⟨r, hr⟩ : ∃ r, r = 0 := ⟨_, rfl⟩
          have e3 : bits .and .i64 (v : Int) 0 = 0 := and_0b v hvl
          have hul : v < 256 := by omega
          have e4 : IntKind.u8.wrap (v : Int) = (cz.toNat : Int) := by rw [hcz, IntKind.wrap_u8, UInt8.toNat_ofNat_of_lt' (by show v < 256; exact hul)]; omega
          have e5 : (v : Int) % 256 = (cz.toNat : Int) := by rw [← e4, IntKind.wrap_u8]
          have hyl2 : y < 64 := by omega
          have hS2 := Lib.hid (show un s (k + 1) = some (q ++ [cz], 0) from by rw [hS]; (try simp only); rw [if_pos hxl, if_neg (by omega), if_neg (by omega), if_neg (by omega), ← hv, hcz])
          have hba1 : w.heap.size ≤ (wr.alloc (.cells #[.int .u8 (cz.toNat : Int)] 5)).heap.size := by rw [World.size_alloc]; exact Nat.le_succ_of_le hb.size
          have hro := rd_oneb wr cz
          clear hS hh hb0 hv hcz hu hr
          go_wp2_with (at_builtin; go_loud (refine wpList_app rfl _ _ 62 rfl 5 w.heap.size i0 (.int .u8 0) 1 1 Tryz.underlying62 hi hz0 hz1 hz2 rfl (by decide) (.slice sa q.length sc) q.length _ (by rfl) (HO.out.alloc _) (.slice (some ⟨wr.heap.size, 0, none⟩) 1 1) 1 (Lib.byteCells [cz]) (by rfl) hro (byte_one _) (by have := HQL.out; unfold maxLen; omega) (by have := HQL.out; omega) hba1 ?_))
          intro v1 w1 o1 hg1 hob1
          have hb1 : Below w.heap.size w w1 := below_app hb hb.size hg1 (fun j e => (HO.out.lt j e).1)
          have o1c : w1.ownsRow w.heap.size 5 1 v1 (q ++ [cz]).length (Lib.byteCells (q ++ [cz])) := own_cast o1 (by rw [List.length_append, List.length_singleton]) (by rw [bc_append])
          have HR := Lib.hid (And.intro o1c hb1)
          clear o1 hg1 hob1 o1c hb1 hba1 hro
          go_wp2_with fail
          go_roundw
          case rel => exact ⟨k + 1, q ++ [cz], 0, _, by omega, by go_num, hS2.out, rfl, rfl, by rw [show ((6 * (k + 1)) % 8 : Nat) = 0 from by omega]; rfl, HR.out⟩
          case measure => simp [intOf]; omega
end Go.Proofs.YtonbpekogfaibaaGreat.Oc
