/-
  Chapter 15: the reference's printed and sharp.
-/
import Derived.Test.YtonbpekogfaibaaGreatOi
import Derived.Test.YtonbpekogfaibaaGreatCut
namespace Go.Proofs.YtonbpekogfaibaaGreat.Ro
open Go.RowKit
set_option linter.unusedVariables false
set_option maxRecDepth 20000

set_option maxHeartbeats 2000000 in
theorem rprinted_any (s : By) (n : Int) (w : World) (hl : s.length ≤ 9223372036854775807) : Calls Tryz.prog 31 #[.string ⟨s.toArray⟩, .int .i64 n] w fun e w' => e = .returned (.bool (prn s n)) ∧ w = w' := by
  obtain ⟨sb, hsb⟩ : ∃ sb, sb = (⟨s.toArray⟩ : ByteArray) := ⟨_, rfl⟩
  have hsz : sb.size = s.length := by rw [hsb]; simp [ByteArray.size]
  obtain ⟨SZ, hSZ⟩ : ∃ SZ, SZ = s.length := ⟨_, rfl⟩
  have HSZ := Lib.hid hSZ
  rw [← hSZ] at hsz hl
  have HIX : Hid (∀ (k : Nat) c W, s[k]? = some c → (Instr.index 9 (.string sb) (.int .i64 (k : Int))).run Tryz.prog W = .ok (.int .u8 (c.toNat : Int)) W) := Lib.hid (fun k c W hk => by
    have h2 : s.toArray[k]? = some c := by simpa using hk
    obtain ⟨h4, h5⟩ := Array.getElem?_eq_some_iff.1 h2
    rw [hsb]
    exact ix_str ⟨s.toArray⟩ k h4 c h5 W)
  rw [← hsb]
  clear hsb hSZ
  go_enter Tryz.func31, Tryz.ntmps31
  go_wp2_with fail
  go_loop [5] (fun i => ∃ k : Nat, k ≤ SZ ∧ i = .int .i64 (k : Int) ∧ (s.take k).all pc = true) (fun i => SZ - (intOf i).toNat)
  case atStart => exact ⟨0, Nat.zero_le _, rfl, rfl⟩
  case round =>
    obtain ⟨k, hk, rfl, hall⟩ := hrel
    by_cases hkn : k < SZ
    case pos =>
      have g1 : (k : Int) < (SZ : Int) := by omega
      obtain ⟨c, hc⟩ : ∃ c, s[k]? = some c := ⟨_, List.getElem?_eq_getElem (by have := HSZ.out; omega)⟩
      have hix := HIX.out k c w hc
      cases hp : pc c with
      | true =>
        have HR := Lib.hid (all_take s k c hc hall hp)
        unfold pc at hp
        simp only [Bool.and_eq_true, decide_eq_true_eq] at hp
        have t1 : ¬ (c.toNat : Int) < 33 := by omega
        have t2 : ¬ (126 : Int) < (c.toNat : Int) := by omega
        clear hp hall hc
        generalize c.toNat = cn at *
        go_wp2_with fail
        go_round
        case rel => exact ⟨k + 1, by omega, by go_num, HR.out⟩
        case measure => simp [intOf]; omega
      | false =>
        have HN := Lib.hid (show prn s n = false from by unfold prn; rw [all_no s k c hc hp]; simp)
        unfold pc at hp
        simp only [Bool.and_eq_false_iff, decide_eq_false_iff_not] at hp
        clear hall hc
        by_cases h33 : c.toNat < 33
        · have t1 : (c.toNat : Int) < 33 := by omega
          clear hp h33
          generalize c.toNat = cn at *
          go_wp2_with fail
          go_ret
          exact ⟨by rw [HN.out]; rfl, rfl⟩
        · have t1 : ¬ (c.toNat : Int) < 33 := by omega
          have t2 : (126 : Int) < (c.toNat : Int) := by omega
          clear hp h33
          generalize c.toNat = cn at *
          go_wp2_with fail
          go_ret
          exact ⟨by rw [HN.out]; rfl, rfl⟩
    case neg =>
      have g1 : ¬ (k : Int) < (SZ : Int) := by omega
      have hA : s.all pc = true := by rw [← hall, List.take_of_length_le (by have := HSZ.out; omega)]
      have HP := Lib.hid (show prn s n = (decide (1 ≤ s.length) && decide ((s.length : Int) ≤ n)) from by unfold prn; rw [hA, Bool.and_true])
      clear hall hA hkn
      by_cases h1 : 1 ≤ SZ
      · have t1 : (0 : Int) < (SZ : Int) := by omega
        have t2 : decide (0 < SZ) = true := decide_eq_true (by omega)
        have HQ : Hid (prn s n = decide ((SZ : Int) ≤ n)) := Lib.hid (by rw [HP.out, decide_eq_true (by have := HSZ.out; omega), Bool.true_and, ← HSZ.out])
        go_wp2_with fail
        go_ret
        exact ⟨by rw [HQ.out]; rfl, rfl⟩
      · have t1 : ¬ (0 : Int) < (SZ : Int) := by omega
        have t2 : decide (0 < SZ) = false := decide_eq_false (by omega)
        have HQ : Hid (prn s n = false) := Lib.hid (by rw [HP.out, decide_eq_false (by have := HSZ.out; omega), Bool.false_and])
        go_wp2_with fail
        go_ret
        exact ⟨by rw [HQ.out]; rfl, rfl⟩
theorem sharp_eq (s : By) : sharp s = s.contains 35 := by
  unfold sharp
  rw [Cut.idx_eq]
  cases h : s.contains 35 with
  | true => rw [if_pos rfl]; exact decide_eq_true (by omega)
  | false => rw [if_neg (by simp)]; exact decide_eq_false (by omega)
set_option maxHeartbeats 2000000 in
theorem rsharp_any (s : By) (w : World) (hl : s.length ≤ 9223372036854775807) : Calls Tryz.prog 32 #[.string ⟨s.toArray⟩] w fun e w' => e = .returned (.bool (sharp s)) ∧ w = w' := by
  obtain ⟨sb, hsb⟩ : ∃ sb, sb = (⟨s.toArray⟩ : ByteArray) := ⟨_, rfl⟩
  have hsz : sb.size = s.length := by rw [hsb]; simp [ByteArray.size]
  obtain ⟨SZ, hSZ⟩ : ∃ SZ, SZ = s.length := ⟨_, rfl⟩
  have HSZ := Lib.hid hSZ
  rw [← hSZ] at hsz hl
  have HIX : Hid (∀ (k : Nat) c W, s[k]? = some c → (Instr.index 9 (.string sb) (.int .i64 (k : Int))).run Tryz.prog W = .ok (.int .u8 (c.toNat : Int)) W) := Lib.hid (fun k c W hk => by
    have h2 : s.toArray[k]? = some c := by simpa using hk
    obtain ⟨h4, h5⟩ := Array.getElem?_eq_some_iff.1 h2
    rw [hsb]
    exact ix_str ⟨s.toArray⟩ k h4 c h5 W)
  rw [← hsb]
  clear hsb hSZ
  go_enter Tryz.func32, Tryz.ntmps32
  go_wp2_with fail
  go_loop [3] (fun i => ∃ k : Nat, k ≤ SZ ∧ i = .int .i64 (k : Int) ∧ ∀ j, j < k → s[j]? ≠ some 35) (fun i => SZ - (intOf i).toNat)
  case atStart => exact ⟨0, Nat.zero_le _, rfl, fun j hj => absurd hj (Nat.not_lt_zero _)⟩
  case round =>
    obtain ⟨k, hk, rfl, hall⟩ := hrel
    by_cases hkn : k < SZ
    case pos =>
      have g1 : (k : Int) < (SZ : Int) := by omega
      obtain ⟨c, hc⟩ : ∃ c, s[k]? = some c := ⟨_, List.getElem?_eq_getElem (by have := HSZ.out; omega)⟩
      have hix := HIX.out k c w hc
      by_cases h35 : c = 35
      · subst h35
        have HR := Lib.hid (show sharp s = true from by rw [sharp_eq]; exact List.contains_iff_mem.2 (List.mem_of_getElem? hc))
        clear hall hc
        go_wp2_with fail
        go_ret
        exact ⟨by rw [HR.out]; rfl, rfl⟩
      · have t1 : ((c.toNat : Int) == 35) = false := by
          rw [beq_eq_false_iff_ne]; intro e; exact h35 (UInt8.toNat_inj.1 (by show c.toNat = 35; omega))
        have HN : Hid (∀ j, j < k + 1 → s[j]? ≠ some 35) := Lib.hid (fun j hj => by
          by_cases hjk : j = k
          · subst hjk; rw [hc]; exact fun e => h35 (Option.some.inj e)
          · exact hall j (by omega))
        clear hall hc h35
        generalize c.toNat = cn at *
        go_wp2_with fail
        go_round
        case rel => exact ⟨k + 1, by omega, by go_num, HN.out⟩
        case measure => simp [intOf]; omega
    case neg =>
      have g1 : ¬ (k : Int) < (SZ : Int) := by omega
      have HR : Hid (sharp s = false) := Lib.hid (by
        rw [sharp_eq]
        cases hcn : s.contains 35 with
        | false => rfl
        | true =>
          obtain ⟨j, hj⟩ := List.getElem?_of_mem (List.contains_iff_mem.1 hcn)
          exact absurd hj (hall j (by have h1 := (List.getElem?_eq_some_iff.1 hj).1; have h2 := HSZ.out; omega)))
      clear hall
      go_wp2_with fail
      go_ret
      exact ⟨by rw [HR.out]; rfl, rfl⟩
end Go.Proofs.YtonbpekogfaibaaGreat.Ro
/- Chapter 15: a client more in the map; clients in a slice. -/
namespace Go.Proofs.YtonbpekogfaibaaGreat.Ro
open Go.RowKit Go.Maps Go.Sort
set_option linter.unusedVariables false
set_option maxRecDepth 20000

theorem RM.made (W : World) (sl : By → V3) : RM (W.alloc (.map #[] 0)) W.heap.size [] sl :=
  ⟨.map [], World.ownsMap_made _ _ _ _, (World.ownsMap_made W Tryz.prog 9 hR).tidy skey, fun x => ⟨by simp [has, find], fun c h => by simp [find] at h⟩⟩
/-- m[c.Id] = c, where no client has that Id yet -/
theorem RM.put {W : World} {m : Nat} {cs : List Cl} {sl : By → V3} (h : RM W m cs sl) (c : Cl) (v : V3) (hno : find cs c.id = none) (hx : c.id.length ≤ 9223372036854775807) (hl : cs.length < maxLen) :
    ∃ W', (Instr.mapUpdate 50 (.map (some m)) (.string ⟨c.id.toArray⟩) (av c v)).run Tryz.prog W = .ok () W' ∧ RM W' m (cs ++ [c]) (fun y => if y = c.id then v else sl y) ∧ W.grownBy W' (some m) := by
  obtain ⟨D, h1, hti, h2⟩ := h
  obtain ⟨W', hrun, hown, hg⟩ := h1.update (key := .string ⟨c.id.toArray⟩) (val := av c v) (kl := .string c.id) (d := .held (av c v)) (ps := []) skey Tryz.underlying50 hl (WideMaps.keyOf_string_mk Tryz.underlying9 (by rw [st_size]; exact hx)) rfl
  refine ⟨W', hrun, ⟨_, by simpa using hown, hown.tidy skey, fun y => ?_⟩, hg⟩
  rw [find_snoc]
  by_cases hy : c.id = y
  · subst hy
    rw [has_put_same hti.isMap (strkey _), hno, if_pos rfl]
    refine ⟨rfl, fun g hg zd => ?_⟩
    cases hg
    rw [atKey_put_same hti.isMap (strkey _)]
    simp
  · have hne : (Lit.string y) ≠ .string c.id := fun e => hy (by cases e; rfl)
    rw [has_put_other hne, if_neg hy, Option.or_none]
    refine ⟨(h2 y).1, fun g hg zd => ?_⟩
    rw [atKey_put_other hne]
    simp only [if_neg (show ¬ y = c.id from fun e => hy e.symm)]
    exact (h2 y).2 g hg zd
/-- clients in a slice -/
structure CsAt (W : World) (v : Value) (l : List Cl) (vs : Nat → V3) : Prop where
  shp : ∃ a c, v = .slice a l.length c
  cel : 0 < l.length → ∃ b o c, v = .slice (some ⟨b, o, none⟩) l.length c ∧ b < W.heap.size ∧ ∀ k x, l[k]? = some x → ∀ (j : Nat) (u : Value), (c6 x (vs k))[j]? = some u → W.cell? ⟨b, o + k * 6 + j, none⟩ = some u
  row : ∀ k x, l[k]? = some x → RdC W x (vs k)
  idl : ∀ x ∈ l, x.id.length ≤ 140737488355328 ∧ x.sec.length ≤ 140737488355328 ∧ x.gra.length ≤ 4611686018427387904
  cap : ∀ a n c, v = .slice a n c → n ≤ c
theorem CsAt.below {W W' : World} {v : Value} {l : List Cl} {vs : Nat → V3} (h : CsAt W v l vs) (hb : Below W.heap.size W W') : CsAt W' v l vs := by
  refine ⟨h.shp, fun hl => ?_, fun k x hk => (h.row k x hk).below hb, h.idl, h.cap⟩
  obtain ⟨b, o, c, e, hbB, hc⟩ := h.cel hl
  exact ⟨b, o, c, e, Nat.lt_of_lt_of_le hbB hb.size, fun k x hk j u hj => (World.cell?_of_block (a := ⟨b, o + k * 6 + j, none⟩) (hb.block b hbB)).trans (hc k x hk j u hj)⟩
end Go.Proofs.YtonbpekogfaibaaGreat.Ro
