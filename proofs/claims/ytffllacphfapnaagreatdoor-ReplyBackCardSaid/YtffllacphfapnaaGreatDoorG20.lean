/-
  Chapters 7, 17: pkce.IsVerifier, pkce.find, pkce.May, grant.shown.
  (Texts put together: Rb Rc.)
-/
import Derived.Test.YtffllacphfapnaaGreatDoorG06
import Derived.Test.YtffllacphfapnaaGreatDoorG08
import Derived.Test.YtffllacphfapnaaGreatDoorG19
import Derived.BigRegion
import Derived.RegionTactic
import Derived.BigGuardPart
import Derived.BigCall
namespace Go.Proofs.YtffllacphfapnaaGreatDoor.Gr
open Go.RowKit
set_option linter.unusedVariables false
set_option linter.unusedSimpArgs false
set_option maxRecDepth 100000

theorem run_store_func {P : Program} (w : World) (a : Addr) (m : Mode) (f : Fn) (x y : Array Value) : (store a (.func f x y) m).run P w = stored P w a (.func f x y) m := run_store P w a _ m rfl
theorem run_store_nilFunc {P : Program} (w : World) (a : Addr) (m : Mode) : (store a .nilFunc m).run P w = stored P w a .nilFunc m := run_store P w a _ m rfl
attribute [local go_sem] run_store_func run_store_nilFunc
/-- may a byte stand in a verifier? -/
def okV (c : UInt8) : Bool := (97 ≤ c && c ≤ 122) || (65 ≤ c && c ≤ 90) || (48 ≤ c && c ≤ 57) || c == 45 || c == 46 || c == 95 || c == 126
def isV (s : By) : Bool := s.all okV && (decide (43 ≤ s.length) && decide (s.length ≤ 128))
/-- the test of one byte as the program makes it -/
def badV (c : Int) : Bool := (decide (c < 97) || decide (122 < c)) && (decide (c < 65) || decide (90 < c)) && (decide (c < 48) || decide (57 < c)) && decide (Lib.indexByte [45, 46, 95, 126] (UInt8.ofNat c.toNat) < 0)
theorem badV_all (c : UInt8) : badV (c.toNat : Int) = !okV c := by
  have key : (List.range 256).all (fun n => badV (((UInt8.ofNat n).toNat : Nat) : Int) == !okV (UInt8.ofNat n)) = true := by decide +kernel
  have := List.all_eq_true.1 key c.toNat (List.mem_range.2 c.toNat_lt)
  simpa using this
theorem allV_take (s : By) (k : Nat) (c : UInt8) (hc : s[k]? = some c) (h : (s.take k).all okV = true) (hp : okV c = true) : (s.take (k + 1)).all okV = true := by
  rw [List.take_add_one, hc, List.all_append, h]; simpa using hp
theorem allV_no (s : By) (k : Nat) (c : UInt8) (hc : s[k]? = some c) (hp : okV c = false) : s.all okV = false := by
  rw [List.all_eq_false]; exact ⟨c, List.mem_of_getElem? hc, by simp [hp]⟩
set_option maxHeartbeats 4000000 in
theorem isVerifier_any (s : By) (w : World) (hl : s.length ≤ 140737488355328) :
    Calls Tryz.prog 142 #[.string ⟨s.toArray⟩] w fun e w' => e = .returned (.bool (isV s)) ∧ w = w' := by
  have hsz := st_size s
  have HIX : Hid (∀ (k : Nat) c W, s[k]? = some c → (Instr.index 9 (.string ⟨s.toArray⟩) (.int .i64 (k : Int))).run Tryz.prog W = .ok (.int .u8 (c.toNat : Int)) W) := Lib.hid (fun k c W hk => by
    have h2 : s.toArray[k]? = some c := by simpa using hk
    obtain ⟨h4, h5⟩ := Array.getElem?_eq_some_iff.1 h2
    exact ix_str ⟨s.toArray⟩ k h4 c h5 W)
  obtain ⟨SZ, hSZ⟩ : ∃ SZ, SZ = s.length := ⟨_, rfl⟩
  have HSZ := Lib.hid hSZ
  rw [← hSZ] at hsz hl
  obtain ⟨sb, hsb⟩ : ∃ sb, sb = (⟨s.toArray⟩ : ByteArray) := ⟨_, rfl⟩
  rw [← hsb] at hsz HIX ⊢
  clear hSZ hsb
  go_enter Tryz.func142, Tryz.ntmps142
  have HIB : Hid (∀ (c : UInt8) (W : World), Calls Tryz.prog 98 #[.string ⟨#[45, 46, 95, 126]⟩, .int .u8 (c.toNat : Int)] W fun e w' => e = .returned (.int .i64 (Lib.indexByte [45, 46, 95, 126] c)) ∧ w' = W) := Lib.hid (fun c W => by
    have key := Tryz.strings_IndexByte ⟨#[45, 46, 95, 126]⟩ (c.toNat : Int) W
    have e2 : (c.toNat : Int).toNat.toUInt8 = c := by simp
    rw [e2] at key
    exact key)
  go_wp2_with fail
  go_loop [2, 3] (fun r i => ∃ k : Nat, k ≤ SZ ∧ r = .bool false ∧ i = .int .i64 (k : Int) ∧ (s.take k).all okV = true) (fun _ i => SZ - (intOf i).toNat)
  case atStart => exact ⟨0, Nat.zero_le _, rfl, rfl, rfl⟩
  case round =>
    obtain ⟨k, hk, rfl, rfl, hall⟩ := hrel
    have HALL := Lib.hid hall
    clear hall
    by_cases hkn : k < SZ
    case neg =>
      have g1 : ¬ (k : Int) < (SZ : Int) := by omega
      have HA : Hid (isV s = (decide (43 ≤ SZ) && decide (SZ ≤ 128))) := Lib.hid (by
        have h1 := HALL.out
        have h2 := HSZ.out
        rw [List.take_of_length_le (by omega)] at h1
        unfold isV
        rw [h1, ← h2]; rfl)
      by_cases h43 : 43 ≤ SZ
      case neg =>
        have t1 : ¬ (43 : Int) ≤ (SZ : Int) := by omega
        have HR : Hid (isV s = false) := Lib.hid (by rw [HA.out, decide_eq_false h43]; rfl)
        go_wp2_with fail
        go_ret
        exact ⟨by rw [HR.out]; rfl, rfl⟩
      case pos =>
        have t1 : (43 : Int) ≤ (SZ : Int) := by omega
        by_cases h128 : SZ ≤ 128
        case neg =>
          have t2 : ¬ (SZ : Int) ≤ 128 := by omega
          have HR : Hid (isV s = false) := Lib.hid (by rw [HA.out, decide_eq_false h128]; simp)
          go_wp2_with fail
          go_ret
          exact ⟨by rw [HR.out]; rfl, rfl⟩
        case pos =>
          have t2 : (SZ : Int) ≤ 128 := by omega
          have HR : Hid (isV s = true) := Lib.hid (by rw [HA.out, decide_eq_true h43, decide_eq_true h128]; rfl)
          go_wp2_with fail
          go_ret
          exact ⟨by rw [HR.out]; rfl, rfl⟩
    case pos =>
      have g1 : (k : Int) < (SZ : Int) := by omega
      obtain ⟨c, hc⟩ : ∃ c, s[k]? = some c := ⟨_, List.getElem?_eq_getElem (by have := HSZ.out; omega)⟩
      have hix := fun W => HIX.out k c W hc
      have hbv := badV_all c
      unfold badV at hbv
      rw [show (UInt8.ofNat ((c.toNat : Int)).toNat) = c from by simp] at hbv
      have hib := HIB.out c w
      have HC := Lib.hid hc
      have HYE : Hid (okV c = true → ((s.take (k + 1)).all okV = true)) := Lib.hid (fun h => allV_take s k c HC.out HALL.out h)
      have HNO : Hid (okV c = false → isV s = false) := Lib.hid (fun h => by unfold isV; rw [allV_no s k c HC.out h]; rfl)
      obtain ⟨n, hn⟩ : ∃ n, n = c.toNat := ⟨_, rfl⟩
      obtain ⟨ok, hok⟩ : ∃ ok, ok = okV c := ⟨_, rfl⟩
      obtain ⟨ii, hii⟩ : ∃ ii, ii = Lib.indexByte [45, 46, 95, 126] c := ⟨_, rfl⟩
      rw [← hn] at hix hbv hib
      rw [← hok] at hbv HYE HNO
      rw [← hii] at hbv hib
      have HII := Lib.hid hib
      clear hc hn hok hii hib
      obtain hcl | hcl | hcl | hcl | hcl | hcl | hcl : (97 ≤ n ∧ n ≤ 122) ∨ (65 ≤ n ∧ n ≤ 90) ∨ (48 ≤ n ∧ n ≤ 57) ∨ (n < 48) ∨ (57 < n ∧ n < 65) ∨ (90 < n ∧ n < 97) ∨ (122 < n) := by omega
      · have f0 : ¬ (n : Int) < 97 := by omega
        have f1 : ¬ (122 : Int) < (n : Int) := by omega
        have HOK : Hid (ok = true) := Lib.hid (by simp [f0, f1] at hbv; exact hbv)
        clear hbv hcl
        go_wp2_with fail
        go_round
        case rel => exact ⟨k + 1, by omega, rfl, by go_num, HYE.out HOK.out⟩
        case measure => simp [intOf]; omega
      · have f0 : (n : Int) < 97 := by omega
        have f1 : ¬ (n : Int) < 65 := by omega
        have f2 : ¬ (90 : Int) < (n : Int) := by omega
        have HOK : Hid (ok = true) := Lib.hid (by simp [f0, f1, f2] at hbv; exact hbv)
        clear hbv hcl
        go_wp2_with fail
        go_round
        case rel => exact ⟨k + 1, by omega, rfl, by go_num, HYE.out HOK.out⟩
        case measure => simp [intOf]; omega
      · have f0 : (n : Int) < 97 := by omega
        have f1 : (n : Int) < 65 := by omega
        have f2 : ¬ (n : Int) < 48 := by omega
        have f3 : ¬ (57 : Int) < (n : Int) := by omega
        have HOK : Hid (ok = true) := Lib.hid (by simp [f0, f1, f2, f3] at hbv; exact hbv)
        clear hbv hcl
        go_wp2_with fail
        go_round
        case rel => exact ⟨k + 1, by omega, rfl, by go_num, HYE.out HOK.out⟩
        case measure => simp [intOf]; omega
      · have f0 : (n : Int) < 97 := by omega
        have f1 : (n : Int) < 65 := by omega
        have f2 : (n : Int) < 48 := by omega
        by_cases hi : ii < 0
        case pos =>
          have HOK : Hid (ok = false) := Lib.hid (by simp [f0, f1, f2, hi] at hbv; exact hbv)
          clear hbv hcl
          go_wp2_with fail
          refine HII.out.mono ?_
          rintro e w1 ⟨rfl, e1⟩
          subst e1
          go_wp2_with fail
          go_ret
          exact ⟨by rw [HNO.out HOK.out]; rfl, rfl⟩
        case neg =>
          have HOK : Hid (ok = true) := Lib.hid (by simp [f0, f1, f2, hi] at hbv; exact hbv)
          clear hbv hcl
          go_wp2_with fail
          refine HII.out.mono ?_
          rintro e w1 ⟨rfl, e1⟩
          subst e1
          go_wp2_with fail
          go_round
          case rel => exact ⟨k + 1, by omega, rfl, by go_num, HYE.out HOK.out⟩
          case measure => simp [intOf]; omega
      · have f0 : (n : Int) < 97 := by omega
        have f1 : (n : Int) < 65 := by omega
        have f2 : ¬ (n : Int) < 48 := by omega
        have f3 : (57 : Int) < (n : Int) := by omega
        by_cases hi : ii < 0
        case pos =>
          have HOK : Hid (ok = false) := Lib.hid (by simp [f0, f1, f2, f3, hi] at hbv; exact hbv)
          clear hbv hcl
          go_wp2_with fail
          refine HII.out.mono ?_
          rintro e w1 ⟨rfl, e1⟩
          subst e1
          go_wp2_with fail
          go_ret
          exact ⟨by rw [HNO.out HOK.out]; rfl, rfl⟩
        case neg =>
          have HOK : Hid (ok = true) := Lib.hid (by simp [f0, f1, f2, f3, hi] at hbv; exact hbv)
          clear hbv hcl
          go_wp2_with fail
          refine HII.out.mono ?_
          rintro e w1 ⟨rfl, e1⟩
          subst e1
          go_wp2_with fail
          go_round
          case rel => exact ⟨k + 1, by omega, rfl, by go_num, HYE.out HOK.out⟩
          case measure => simp [intOf]; omega
      · have f0 : (n : Int) < 97 := by omega
        have f1 : ¬ (n : Int) < 65 := by omega
        have f2 : (90 : Int) < (n : Int) := by omega
        have f3 : ¬ (n : Int) < 48 := by omega
        have f4 : (57 : Int) < (n : Int) := by omega
        by_cases hi : ii < 0
        case pos =>
          have HOK : Hid (ok = false) := Lib.hid (by simp [f0, f1, f2, f3, f4, hi] at hbv; exact hbv)
          clear hbv hcl
          go_wp2_with fail
          refine HII.out.mono ?_
          rintro e w1 ⟨rfl, e1⟩
          subst e1
          go_wp2_with fail
          go_ret
          exact ⟨by rw [HNO.out HOK.out]; rfl, rfl⟩
        case neg =>
          have HOK : Hid (ok = true) := Lib.hid (by simp [f0, f1, f2, f3, f4, hi] at hbv; exact hbv)
          clear hbv hcl
          go_wp2_with fail
          refine HII.out.mono ?_
          rintro e w1 ⟨rfl, e1⟩
          subst e1
          go_wp2_with fail
          go_round
          case rel => exact ⟨k + 1, by omega, rfl, by go_num, HYE.out HOK.out⟩
          case measure => simp [intOf]; omega
      · have f0 : ¬ (n : Int) < 97 := by omega
        have f1 : (122 : Int) < (n : Int) := by omega
        have f2 : ¬ (n : Int) < 65 := by omega
        have f3 : (90 : Int) < (n : Int) := by omega
        have f4 : ¬ (n : Int) < 48 := by omega
        have f5 : (57 : Int) < (n : Int) := by omega
        by_cases hi : ii < 0
        case pos =>
          have HOK : Hid (ok = false) := Lib.hid (by simp [f0, f1, f2, f3, f4, f5, hi] at hbv; exact hbv)
          clear hbv hcl
          go_wp2_with fail
          refine HII.out.mono ?_
          rintro e w1 ⟨rfl, e1⟩
          subst e1
          go_wp2_with fail
          go_ret
          exact ⟨by rw [HNO.out HOK.out]; rfl, rfl⟩
        case neg =>
          have HOK : Hid (ok = true) := Lib.hid (by simp [f0, f1, f2, f3, f4, f5, hi] at hbv; exact hbv)
          clear hbv hcl
          go_wp2_with fail
          refine HII.out.mono ?_
          rintro e w1 ⟨rfl, e1⟩
          subst e1
          go_wp2_with fail
          go_round
          case rel => exact ⟨k + 1, by omega, rfl, by go_num, HYE.out HOK.out⟩
          case measure => simp [intOf]; omega
/-- may it be a challenge by that method? -/
def plainN : By := [112, 108, 97, 105, 110]
def s256N : By := [83, 50, 53, 54]
def dec32 (cha : By) : Bool := match Ow.unsix cha with | some b => decide (b.length = 32) | none => false
def pkMay (cha met : By) : Bool := if met = plainN then isV cha else if met = s256N then dec32 cha else false
set_option maxHeartbeats 4000000 in
theorem find3_any (s : By) (w : World) (hl : s.length ≤ 140737488355000) :
    Calls Tryz.prog 144 #[.string ⟨s.toArray⟩] w fun e w' => e = .returned (.bool (dec32 s)) ∧ Below w.heap.size w w' := by
  have H := Lib.hid (Ow.unweb_any s w hl)
  go_enter Tryz.func144, Tryz.ntmps144
  go_wp2_with fail
  refine H.out.mono ?_
  rintro e w1 ⟨v, rfl, ho, hb⟩
  have HB := Lib.hid hb
  have HD : Hid ((Ow.unC (Ow.unsix s) ≠ 0 ∧ dec32 s = false) ∨ (Ow.unC (Ow.unsix s) = 0 ∧ dec32 s = decide (((Ow.unsix s).getD []).length = 32))) := Lib.hid (by
    unfold dec32 Ow.unC
    cases Ow.unsix s with
    | none => exact .inl ⟨by simp, rfl⟩
    | some b => exact .inr ⟨by simp, rfl⟩)
  obtain ⟨LB, hLB⟩ : ∃ z, z = ((Ow.unsix s).getD []).length := ⟨_, rfl⟩
  obtain ⟨cn, hcn⟩ : ∃ z, z = Ow.unC (Ow.unsix s) := ⟨_, rfl⟩
  rw [← hLB, ← hcn] at HD
  rw [← hLB] at ho
  rw [← hcn]
  obtain ⟨va, vc, e1⟩ := (Rd.of_own ho).slice
  subst e1
  clear ho hb H hLB hcn
  by_cases h0 : cn = 0
  case neg =>
    have t1 : (cn == 0) = false := by simpa using h0
    have HR : Hid (dec32 s = false) := Lib.hid (by
      rcases HD.out with h | h
      · exact h.2
      · exact absurd h.1 h0)
    go_wp2_with fail
    go_ret
    exact ⟨by rw [HR.out]; rfl, HB.out⟩
  case pos =>
    subst h0
    have HR : Hid (dec32 s = decide (LB = 32)) := Lib.hid (by
      rcases HD.out with h | h
      · exact absurd rfl h.1
      · exact h.2)
    by_cases h32 : LB = 32
    case pos =>
      subst h32
      go_wp2_with fail
      go_ret
      exact ⟨by rw [HR.out]; rfl, HB.out⟩
    case neg =>
      have t2 : ((LB : Int) == 32) = false := by simp; omega
      have HR2 : Hid (dec32 s = false) := Lib.hid (by rw [HR.out, decide_eq_false h32])
      go_wp2_with fail
      go_ret
      exact ⟨by rw [HR2.out]; rfl, HB.out⟩
theorem ret_mt {fn : Func} {p u : Tmp} (hres : fn.results = #[.cell p 162, .tmp u]) {a : Act} (hd : a.defers = []) {W : World} {b : Nat} {ty : TypeId} {x0 x1 x2 : Value} (hp : a.tmps.getD p undef = .pointer (some ⟨b, 0, none⟩)) (hb : Blk W b ty [x0, x1, x2]) {R : Ending → World → Prop}
    (hR : R (.returned (.tuple #[.agg #[x0, x1, x2], a.tmps.getD u undef])) W) : bodyPost Tryz.prog fn R .ret a W := by
  have c0 := hb.cell 0 rfl
  have c1 := hb.cell 1 rfl
  have c2 := hb.cell 2 rfl
  have t2 : a.tmps[p]?.getD undef = .pointer (some ⟨b, 0, none⟩) := by rw [← hp, Array.getD_eq_getD_getElem?]
  refine bodyPost_ret (v := .tuple #[.agg #[x0, x1, x2], a.tmps.getD u undef]) ?_ hd hR
  simp [results, hres, go_sem, t2, c0, c1, c2]
/-- the method of a name -/
def mV (met : By) : Value × Bool := if met = plainN then (.agg #[.string ⟨#[112, 108, 97, 105, 110]⟩, .func (Fn.func 141) #[] #[], .func (Fn.func 142) #[] #[]], true) else if met = s256N then (.agg #[.string ⟨#[83, 50, 53, 54]⟩, .func (Fn.func 143) #[] #[], .func (Fn.func 144) #[] #[]], true) else (.agg #[.string ⟨#[]⟩, .nilFunc, .nilFunc], false)
set_option maxHeartbeats 4000000 in
theorem pkFind_any (met : By) (w : World) :
    Calls Tryz.prog 115 #[.string ⟨met.toArray⟩] w fun e w' => e = .returned (.tuple #[(mV met).1, .bool (mV met).2]) ∧ Below w.heap.size w w' := by
  have hmf : ∀ (fn : Fn) (first cap : Array Value) (w : World), (Instr.makeFunc fn first cap).run Tryz.prog w = .ok (.func fn first cap) w := fun _ _ _ _ => rfl
  have hB1 : Below w.heap.size w (w.alloc (.cells #[.string ⟨#[]⟩, .nilFunc, .nilFunc] 162)) := (Below.refl _ _).alloc (Nat.le_refl _) _
  have hB2 := hB1.alloc hB1.size (.cells #[.string ⟨#[112, 108, 97, 105, 110]⟩, .func (Fn.func 141) #[] #[], .func (Fn.func 142) #[] #[], .string ⟨#[83, 50, 53, 54]⟩, .func (Fn.func 143) #[] #[], .func (Fn.func 144) #[] #[]] 162)
  have hk1 := (Blk.new w 162 [.string ⟨#[]⟩, .nilFunc, .nilFunc]).alloc (.cells #[.string ⟨#[112, 108, 97, 105, 110]⟩, .func (Fn.func 141) #[] #[], .func (Fn.func 142) #[] #[], .string ⟨#[83, 50, 53, 54]⟩, .func (Fn.func 143) #[] #[], .func (Fn.func 144) #[] #[]] 162)
  have hk2 := Blk.new (w.alloc (.cells #[.string ⟨#[]⟩, .nilFunc, .nilFunc] 162)) 162 [.string ⟨#[112, 108, 97, 105, 110]⟩, .func (Fn.func 141) #[] #[], .func (Fn.func 142) #[] #[], .string ⟨#[83, 50, 53, 54]⟩, .func (Fn.func 143) #[] #[], .func (Fn.func 144) #[] #[]]
  rw [World.size_alloc] at hk2
  have HS0 := Lib.hid (And.intro hk1 (And.intro hk2 hB2))
  clear hB1 hB2 hk1 hk2
  go_enter Tryz.func115, Tryz.ntmps115
  go_wp2_with fail
  obtain ⟨W0, hW0⟩ : ∃ W0, W0 = ((w.alloc (.cells #[.string ⟨#[]⟩, .nilFunc, .nilFunc] 162)).alloc (.cells #[.string ⟨#[112, 108, 97, 105, 110]⟩, .func (Fn.func 141) #[] #[], .func (Fn.func 142) #[] #[], .string ⟨#[83, 50, 53, 54]⟩, .func (Fn.func 143) #[] #[], .func (Fn.func 144) #[] #[]] 162)) := ⟨_, rfl⟩
  have hs0 := HS0.out
  change Blk ((w.alloc (.cells #[.string ⟨#[]⟩, .nilFunc, .nilFunc] 162)).alloc (.cells #[.string ⟨#[112, 108, 97, 105, 110]⟩, .func (Fn.func 141) #[] #[], .func (Fn.func 142) #[] #[], .string ⟨#[83, 50, 53, 54]⟩, .func (Fn.func 143) #[] #[], .func (Fn.func 144) #[] #[]] 162)) _ _ _ ∧ Blk ((w.alloc (.cells #[.string ⟨#[]⟩, .nilFunc, .nilFunc] 162)).alloc (.cells #[.string ⟨#[112, 108, 97, 105, 110]⟩, .func (Fn.func 141) #[] #[], .func (Fn.func 142) #[] #[], .string ⟨#[83, 50, 53, 54]⟩, .func (Fn.func 143) #[] #[], .func (Fn.func 144) #[] #[]] 162)) _ _ _ ∧ _ at hs0
  rw [← hW0] at hs0 ⊢
  clear hW0 HS0
  go_loopw [3, 10] (fun r i wr => ∃ k : Nat, k ≤ 2 ∧ r = .bool false ∧ i = .int .i64 (k : Int) ∧ (1 ≤ k → met ≠ plainN) ∧ (2 ≤ k → met ≠ s256N) ∧ Blk wr w.heap.size 162 [.string ⟨#[]⟩, .nilFunc, .nilFunc] ∧ Blk wr (w.heap.size + 1) 162 [.string ⟨#[112, 108, 97, 105, 110]⟩, .func (Fn.func 141) #[] #[], .func (Fn.func 142) #[] #[], .string ⟨#[83, 50, 53, 54]⟩, .func (Fn.func 143) #[] #[], .func (Fn.func 144) #[] #[]] ∧ Below w.heap.size w wr) (fun _ i _ => 2 - (intOf i).toNat)
  case atStart => exact ⟨0, by omega, rfl, rfl, fun h => absurd h (by omega), fun h => absurd h (by omega), hs0⟩
  case round =>
    clear hs0
    obtain ⟨k, hk, rfl, rfl, hn0, hn1, hs⟩ := hrel
    have HN0 := Lib.hid hn0
    have HN1 := Lib.hid hn1
    have HS := Lib.hid hs
    clear hn0 hn1 hs
    obtain hk0 | hk0 | hk0 : k = 0 ∨ k = 1 ∨ k = 2 := by omega
    · subst hk0
      have d0 : wr.cell? ⟨w.heap.size + 1, 0, none⟩ = some (.string ⟨#[112, 108, 97, 105, 110]⟩) := HS.out.2.1.cell 0 rfl
      have d1 : wr.cell? ⟨w.heap.size + 1, 1, none⟩ = some (.func (Fn.func 141) #[] #[]) := HS.out.2.1.cell 1 rfl
      have d2 : wr.cell? ⟨w.heap.size + 1, 2, none⟩ = some (.func (Fn.func 142) #[] #[]) := HS.out.2.1.cell 2 rfl
      by_cases hm : met = plainN
      case pos =>
        have h1 : (plainN == met) = true := by rw [hm]; rfl
        have h2 := str_eq h1
        have h3 : (met == plainN) = true := by rw [hm]; rfl
        have HV : Hid (mV met = (.agg #[.string ⟨#[112, 108, 97, 105, 110]⟩, .func (Fn.func 141) #[] #[], .func (Fn.func 142) #[] #[]], true)) := Lib.hid (by unfold mV; rw [if_pos hm])
        unfold plainN at h1 h2 h3
        clear hm
        have HK := HS.out.1.alloc (.cells #[.string ⟨#[112, 108, 97, 105, 110]⟩, .func (Fn.func 141) #[] #[], .func (Fn.func 142) #[] #[]] 162)
        have y0 := HK.cell 0 rfl
        have f0 := HK.frozen 0
        have y1 := HK.cell 1 rfl
        have f1 := HK.frozen 1
        have y2 := HK.cell 2 rfl
        have f2 := HK.frozen 2
        clear HK
        go_wp2_with fail
        try simp only [Exit.inBlock, Exit.then]
        refine ret_mt rfl rfl rfl (Se.tk_set3 (HS.out.1.alloc _) _ _ _) ?_
        exact ⟨by rw [HV.out]; rfl, Se.below_set3 (HS.out.2.2.alloc HS.out.2.2.size _) (Nat.le_refl _) _ _ _⟩
      case neg =>
        have h1 : (plainN == met) = false := by simpa using fun e => hm e.symm
        have h2 := str_ne h1
        have HN2 := Lib.hid hm
        unfold plainN at h1 h2
        clear hm
        go_wp2_with fail
        go_roundw
        case rel => exact ⟨1, by omega, rfl, by go_num, fun h => HN2.out, fun h => absurd h (by omega), HS.out.1.alloc _, HS.out.2.1.alloc _, HS.out.2.2.alloc HS.out.2.2.size _⟩
        case measure => simp [intOf]
    · subst hk0
      have d0 : wr.cell? ⟨w.heap.size + 1, 3, none⟩ = some (.string ⟨#[83, 50, 53, 54]⟩) := HS.out.2.1.cell 3 rfl
      have d1 : wr.cell? ⟨w.heap.size + 1, 4, none⟩ = some (.func (Fn.func 143) #[] #[]) := HS.out.2.1.cell 4 rfl
      have d2 : wr.cell? ⟨w.heap.size + 1, 5, none⟩ = some (.func (Fn.func 144) #[] #[]) := HS.out.2.1.cell 5 rfl
      by_cases hm : met = s256N
      case pos =>
        have h1 : (s256N == met) = true := by rw [hm]; rfl
        have h2 := str_eq h1
        have h3 : (met == s256N) = true := by rw [hm]; rfl
        have HV : Hid (mV met = (.agg #[.string ⟨#[83, 50, 53, 54]⟩, .func (Fn.func 143) #[] #[], .func (Fn.func 144) #[] #[]], true)) := Lib.hid (by unfold mV; rw [if_neg (HN0.out (by omega)), if_pos hm])
        unfold s256N at h1 h2 h3
        clear hm
        have HK := HS.out.1.alloc (.cells #[.string ⟨#[83, 50, 53, 54]⟩, .func (Fn.func 143) #[] #[], .func (Fn.func 144) #[] #[]] 162)
        have y0 := HK.cell 0 rfl
        have f0 := HK.frozen 0
        have y1 := HK.cell 1 rfl
        have f1 := HK.frozen 1
        have y2 := HK.cell 2 rfl
        have f2 := HK.frozen 2
        clear HK
        go_wp2_with fail
        try simp only [Exit.inBlock, Exit.then]
        refine ret_mt rfl rfl rfl (Se.tk_set3 (HS.out.1.alloc _) _ _ _) ?_
        exact ⟨by rw [HV.out]; rfl, Se.below_set3 (HS.out.2.2.alloc HS.out.2.2.size _) (Nat.le_refl _) _ _ _⟩
      case neg =>
        have h1 : (s256N == met) = false := by simpa using fun e => hm e.symm
        have h2 := str_ne h1
        have HN2 := Lib.hid hm
        unfold s256N at h1 h2
        clear hm
        go_wp2_with fail
        go_roundw
        case rel => exact ⟨2, by omega, rfl, by go_num, fun h => HN0.out (by omega), fun h => HN2.out, HS.out.1.alloc _, HS.out.2.1.alloc _, HS.out.2.2.alloc HS.out.2.2.size _⟩
        case measure => simp [intOf]
    · subst hk0
      have HV : Hid (mV met = (.agg #[.string ⟨#[]⟩, .nilFunc, .nilFunc], false)) := Lib.hid (by unfold mV; rw [if_neg (HN0.out (by omega)), if_neg (HN1.out (by omega))])
      have y0 := HS.out.1.cell 0 rfl
      have f0 := HS.out.1.frozen 0
      have y1 := HS.out.1.cell 1 rfl
      have f1 := HS.out.1.frozen 1
      have y2 := HS.out.1.cell 2 rfl
      have f2 := HS.out.1.frozen 2
      go_wp2_with fail
      try simp only [Exit.inBlock, Exit.then]
      refine ret_mt rfl rfl rfl (Se.tk_set3 HS.out.1 _ _ _) ?_
      exact ⟨by rw [HV.out]; rfl, Se.below_set3 HS.out.2.2 (Nat.le_refl _) _ _ _⟩
set_option maxHeartbeats 4000000 in
theorem pkMay_any (cha met : By) (w : World) (hl : cha.length ≤ 140737488355000) :
    Calls Tryz.prog 89 #[.string ⟨cha.toArray⟩, .string ⟨met.toArray⟩] w fun e w' => e = .returned (.bool (pkMay cha met)) ∧ Below w.heap.size w w' := by
  have HF := Lib.hid (pkFind_any met w)
  have HV := Lib.hid (isVerifier_any cha · (by omega))
  have H3 := Lib.hid (find3_any cha · hl)
  by_cases hp : met = plainN
  case pos =>
    have HR : Hid (pkMay cha met = isV cha) := Lib.hid (by unfold pkMay; rw [if_pos hp])
    have e1 : mV met = (.agg #[.string ⟨#[112, 108, 97, 105, 110]⟩, .func (Fn.func 141) #[] #[], .func (Fn.func 142) #[] #[]], true) := by unfold mV; rw [if_pos hp]
    rw [e1] at HF
    clear hp e1
    go_enter Tryz.func89, Tryz.ntmps89
    go_wp2_with fail
    refine HF.out.mono ?_
    rintro e w1 ⟨rfl, hb1⟩
    have HB1 := Lib.hid hb1
    clear hb1
    go_wp2_with fail
    refine (HV.out _).mono ?_
    rintro e w2 ⟨rfl, e2⟩
    subst e2
    go_wp2_with fail
    go_ret
    exact ⟨by rw [HR.out]; rfl, HB1.out.alloc HB1.out.size _⟩
  case neg =>
  by_cases hs : met = s256N
  case pos =>
    have HR : Hid (pkMay cha met = dec32 cha) := Lib.hid (by unfold pkMay; rw [if_neg hp, if_pos hs])
    have e1 : mV met = (.agg #[.string ⟨#[83, 50, 53, 54]⟩, .func (Fn.func 143) #[] #[], .func (Fn.func 144) #[] #[]], true) := by unfold mV; rw [if_neg hp, if_pos hs]
    rw [e1] at HF
    clear hp hs e1
    go_enter Tryz.func89, Tryz.ntmps89
    go_wp2_with fail
    refine HF.out.mono ?_
    rintro e w1 ⟨rfl, hb1⟩
    have HB1 := Lib.hid hb1
    clear hb1
    go_wp2_with fail
    refine (H3.out _).mono ?_
    rintro e w2 ⟨rfl, hb2⟩
    have HB2 := Lib.hid (Se.below_step (HB1.out.alloc HB1.out.size _) hb2)
    clear hb2
    go_wp2_with fail
    go_ret
    exact ⟨by rw [HR.out]; rfl, HB2.out⟩
  case neg =>
    have HR : Hid (pkMay cha met = false) := Lib.hid (by unfold pkMay; rw [if_neg hp, if_neg hs])
    have e1 : mV met = (.agg #[.string ⟨#[]⟩, .nilFunc, .nilFunc], false) := by unfold mV; rw [if_neg hp, if_neg hs]
    rw [e1] at HF
    clear hp hs e1
    go_enter Tryz.func89, Tryz.ntmps89
    go_wp2_with fail
    refine HF.out.mono ?_
    rintro e w1 ⟨rfl, hb1⟩
    have HB1 := Lib.hid hb1
    clear hb1
    go_wp2_with fail
    go_ret
    exact ⟨by rw [HR.out]; rfl, HB1.out.alloc HB1.out.size _⟩
/-- may a challenge be by a method, or is there none? -/
def shownC (cha met : By) : Bool := if cha = [] then met.isEmpty else pkMay cha met
set_option maxHeartbeats 4000000 in
theorem gshown_any (cha met : By) (w : World) (hl : cha.length ≤ 140737488355000) :
    Calls Tryz.prog 67 #[.string ⟨cha.toArray⟩, .string ⟨met.toArray⟩] w fun e w' => e = .returned (.bool (shownC cha met)) ∧ Below w.heap.size w w' := by
  by_cases hc : cha = []
  case pos =>
    subst hc
    have HR : Hid (shownC [] met = met.isEmpty) := Lib.hid (by unfold shownC; rw [if_pos rfl])
    by_cases hm : met = []
    case pos =>
      subst hm
      go_enter Tryz.func67, Tryz.ntmps67
      go_wp2_with fail
      go_ret
      exact ⟨by rw [HR.out]; rfl, Below.refl _ _⟩
    case neg =>
      have hne : (met == ([] : By)) = false := by simpa using hm
      have hne2 := str_ne hne
      have hne3 : ((⟨met.toArray⟩ : ByteArray).toList == (⟨#[]⟩ : ByteArray).toList) = false := hne2
      have hne5 : List.isEmpty met = false := by rw [List.isEmpty_eq_false_iff]; exact hm
      have HR2 : Hid (shownC [] met = false) := Lib.hid (by rw [HR.out, hne5])
      clear hm hne hne2
      go_enter Tryz.func67, Tryz.ntmps67
      go_wp2_with fail
      go_ret
      exact ⟨by rw [HR2.out]; rfl, Below.refl _ _⟩
  case neg =>
    have hne : (cha == ([] : By)) = false := by simpa using hc
    have hne2 := str_ne hne
    have hne3 : ((⟨cha.toArray⟩ : ByteArray).toList == (⟨#[]⟩ : ByteArray).toList) = false := hne2
    have hne5 : List.isEmpty cha = false := by rw [List.isEmpty_eq_false_iff]; exact hc
    have HR : Hid (shownC cha met = pkMay cha met) := Lib.hid (by unfold shownC; rw [if_neg hc])
    have HP := Lib.hid (pkMay_any cha met w hl)
    clear hc hne hne2
    go_enter Tryz.func67, Tryz.ntmps67
    go_wp2_with fail
    refine HP.out.mono ?_
    rintro e w1 ⟨rfl, hb1⟩
    have HB1 := Lib.hid hb1
    clear hb1
    go_wp2_with fail
    go_ret
    exact ⟨by rw [HR.out]; rfl, HB1.out⟩
end Go.Proofs.YtffllacphfapnaaGreatDoor.Gr
namespace Go.Proofs.YtffllacphfapnaaGreatDoor.Gr
open Go.RowKit
set_option linter.unusedVariables false
set_option linter.unusedSimpArgs false
set_option maxRecDepth 100000

/-- a command -/
structure Cm where
  kd : Int
  fam : By
  ser : Int
  tok : Int
  cli : By
  usr : By
  sco : List By
  red : By
  cha : By
  met : By
  ver : By
  rf : Bool
  edg : Int
/-- its value, its scope being read at sv -/
def cmC (c : Cm) (sv : Value) : List Value := [.int .i64 c.kd, .string ⟨c.fam.toArray⟩, .int .i64 c.ser, .int .i64 c.tok, .string ⟨c.cli.toArray⟩, .string ⟨c.usr.toArray⟩, sv, .string ⟨c.red.toArray⟩, .string ⟨c.cha.toArray⟩, .string ⟨c.met.toArray⟩, .string ⟨c.ver.toArray⟩, .bool c.rf, .int .i64 c.edg]
def cmV (c : Cm) (sv : Value) : Value := .agg #[.int .i64 c.kd, .string ⟨c.fam.toArray⟩, .int .i64 c.ser, .int .i64 c.tok, .string ⟨c.cli.toArray⟩, .string ⟨c.usr.toArray⟩, sv, .string ⟨c.red.toArray⟩, .string ⟨c.cha.toArray⟩, .string ⟨c.met.toArray⟩, .string ⟨c.ver.toArray⟩, .bool c.rf, .int .i64 c.edg]
def idC (f : By) : Bool := decide (Se.Right ⟨1, f, 0⟩)
def tooC (c : Cm) : Bool := [c.cli, c.usr, c.red, c.cha, c.met, c.ver].any lng
/-- fields that a kind does not name, and that are not zero -/
def odd (c : Cm) : Bool :=
  if c.kd = 1 then (c.ser != 0) || (c.tok != 0) || (!c.ver.isEmpty) || (c.rf) || (c.edg != 0)
  else if c.kd = 2 then (c.ser != 0) || (c.tok != 0) || (!c.usr.isEmpty) || (!c.cha.isEmpty) || (!c.met.isEmpty) || (c.edg != 0)
  else if c.kd = 3 then (c.tok != 0) || (!c.usr.isEmpty) || (!c.red.isEmpty) || (!c.cha.isEmpty) || (!c.met.isEmpty) || (!c.ver.isEmpty) || (c.rf) || (c.edg != 0)
  else if c.kd = 4 then (c.ser != 0) || (c.tok != 0) || (!c.usr.isEmpty) || (!c.red.isEmpty) || (!c.cha.isEmpty) || (!c.met.isEmpty) || (!c.ver.isEmpty) || (c.rf) || (c.edg != 0)
  else if c.kd = 5 then (!c.usr.isEmpty) || (!c.red.isEmpty) || (!c.cha.isEmpty) || (!c.met.isEmpty) || (!c.ver.isEmpty) || (c.rf) || (c.edg != 0)
  else if c.kd = 6 then (!c.cli.isEmpty) || (!c.usr.isEmpty) || (!c.red.isEmpty) || (!c.cha.isEmpty) || (!c.met.isEmpty) || (!c.ver.isEmpty) || (c.rf)
  else if c.kd = 7 then (c.ser != 0) || (c.tok != 0) || (!c.cli.isEmpty) || (!c.usr.isEmpty) || (!c.red.isEmpty) || (!c.cha.isEmpty) || (!c.met.isEmpty) || (!c.ver.isEmpty) || (c.rf) || (c.edg != 0)
  else true
def scd (c : Cm) : Bool := c.kd == 1 || c.kd == 3 || c.kd == 4
def lowC (c : Cm) : Bool := (decide (c.kd ≤ 5) && c.cli.isEmpty) || decide (c.ser < 0) || decide (1099511627776 < c.ser) || decide (c.edg < 0) || decide (32 ≤ c.edg)
def tokC (c : Cm) : Bool := (c.kd == 5 || c.kd == 6) && (decide (c.tok < 1) || decide (3 < c.tok))
/-- may a command be? -/
def mayC (c : Cm) : Bool := decide (1 ≤ c.kd ∧ c.kd ≤ 7) && !(!scd c && !c.sco.isEmpty) && setC c.sco && idC c.fam && !tooC c && !odd c && !lowC c && !tokC c && shownC c.cha c.met
structure CmOk (c : Cm) : Prop where
  fam : c.fam.length ≤ 140737488355000
  cli : c.cli.length ≤ 140737488355000
  usr : c.usr.length ≤ 140737488355000
  red : c.red.length ≤ 140737488355000
  cha : c.cha.length ≤ 140737488355000
  met : c.met.length ≤ 140737488355000
  ver : c.ver.length ≤ 140737488355000
  sco : c.sco.length ≤ 1048576
set_option maxHeartbeats 1000000 in
theorem gid_any (f : By) (w : World) (hl : f.length ≤ 140737488355000) :
    Calls Tryz.prog 65 #[.string ⟨f.toArray⟩] w fun e w' => e = .returned (.bool (idC f)) ∧ Below w.heap.size w w' := by
  have H := Lib.hid (fun w => Se.right_any ⟨1, f, 0⟩ w (by show f.length ≤ _; omega))
  unfold Se.tkv at H
  go_enter Tryz.func65, Tryz.ntmps65
  go_wp2_with fail
  refine (H.out _).mono ?_
  rintro e w1 ⟨rfl, hb⟩
  have HB := Lib.hid hb
  clear hb
  go_wp2_with fail
  go_ret
  exact ⟨rfl, HB.out⟩
/-- the command's block and the rest's -/
structure M2 (w W : World) (zc rc : List Value) : Prop where
  z : Blk W w.heap.size 39 zc
  r : Blk W (w.heap.size + 1) 39 rc
  b : Below w.heap.size w W
theorem M2.below {w W W' : World} {zc rc : List Value} (h : M2 w W zc rc) (hb : Below W.heap.size W W') : M2 w W' zc rc := ⟨h.z.below hb h.z.lt, h.r.below hb h.r.lt, h.b.trans (hb.mono h.b.size)⟩
theorem M2.alloc {w W : World} {zc rc : List Value} (h : M2 w W zc rc) (o : Obj) : M2 w (W.alloc o) zc rc := ⟨h.z.alloc o, h.r.alloc o, h.b.alloc h.b.size o⟩
theorem M2.set {w W : World} {zc rc : List Value} (h : M2 w W zc rc) (j : Nat) (v : Value) : M2 w (W.setCell ⟨w.heap.size + 1, j, none⟩ v) zc (rc.set j v) := ⟨h.z.setOther _ _ (by simp), h.r.set j v, h.b.setCell (by simp) v⟩
theorem M2.drew {w W : World} {zc rc : List Value} (h : M2 w W zc rc) : M2 w W.drew zc rc := ⟨h.z, h.r, ⟨h.b.os, h.b.tape, h.b.output, h.b.size, h.b.block⟩⟩
theorem M2.start (w : World) (zc rc : List Value) : M2 w ((w.alloc (.cells zc.toArray 39)).alloc (.cells rc.toArray 39)) zc rc := ⟨(Blk.new w _ zc).alloc _, by have h := Blk.new (w.alloc (.cells zc.toArray 39)) 39 rc; rw [World.size_alloc] at h; exact h, ((Below.refl _ _).alloc (Nat.le_refl _) _).alloc (by simp) _⟩

theorem rds6 (w : World) (a b c d e f : By) (ha : a.length ≤ 140737488355000) (hb : b.length ≤ 140737488355000) (hc : c.length ≤ 140737488355000) (hd : d.length ≤ 140737488355000) (he : e.length ≤ 140737488355000) (hf : f.length ≤ 140737488355000) :
    RdS (w.alloc (.cells #[.string ⟨a.toArray⟩, .string ⟨b.toArray⟩, .string ⟨c.toArray⟩, .string ⟨d.toArray⟩, .string ⟨e.toArray⟩, .string ⟨f.toArray⟩] 9)) (.slice (some ⟨w.heap.size, 0, none⟩) 6 6) [a, b, c, d, e, f] := by
  refine ⟨⟨rfl, .inr ⟨_, 0, 6, rfl, by simp, fun j u hj => ?_⟩⟩, ?_⟩
  · have h := cells_new w [.string ⟨a.toArray⟩, .string ⟨b.toArray⟩, .string ⟨c.toArray⟩, .string ⟨d.toArray⟩, .string ⟨e.toArray⟩, .string ⟨f.toArray⟩] 9 j u hj
    rw [Addr.add_lit] at h; exact h
  · intro x hx
    simp at hx
    rcases hx with rfl | rfl | rfl | rfl | rfl | rfl <;> omega
set_option maxHeartbeats 4000000 in
theorem may_1 (c : Cm) (sv : Value) (w : World) (hk : c.kd = 1) (hs : RdS w sv c.sco) (hc : CmOk c) :
    Calls Tryz.prog 43 #[cmV c sv] w fun e w' => e = .returned (.bool (mayC c)) ∧ Below w.heap.size w w' := by
  obtain ⟨kd, fam, ser, tok, cli, usr, sco, red, cha, met, ver, rf, edg⟩ := c
  subst hk
  obtain ⟨sa, sc, rfl⟩ := hs.1.slice
  have HS := Lib.hid hs
  have HC := Lib.hid hc
  clear hs hc
  have HM0 := Lib.hid (M2.start w [.int .i64 1, .string ⟨fam.toArray⟩, .int .i64 ser, .int .i64 tok, .string ⟨cli.toArray⟩, .string ⟨usr.toArray⟩, .slice sa sco.length sc, .string ⟨red.toArray⟩, .string ⟨cha.toArray⟩, .string ⟨met.toArray⟩, .string ⟨ver.toArray⟩, .bool rf, .int .i64 edg] [.int .i64 0, .string ⟨#[]⟩, .int .i64 0, .int .i64 0, .string ⟨cli.toArray⟩, .string ⟨usr.toArray⟩, .slice none 0 0, .string ⟨red.toArray⟩, .string ⟨cha.toArray⟩, .string ⟨met.toArray⟩, .string ⟨#[]⟩, .bool false, .int .i64 0])
  unfold cmV
  have H1 := Lib.hid (setG_any _ sco _ (HS.out.below HM0.out.b) (by have := HC.out.sco; simp only at this; omega))
  go_enter Tryz.func43, Tryz.ntmps43
  go_wp2_with fail
  refine H1.out.mono ?_
  rintro e w1 ⟨rfl, hb1⟩
  have HM1 := Lib.hid (HM0.out.below hb1)
  clear hb1 H1
  cases h1 : setC sco with
  | false =>
    have HR : Hid (mayC ⟨1, fam, ser, tok, cli, usr, sco, red, cha, met, ver, rf, edg⟩ = false) := Lib.hid (by unfold mayC; simp [h1])
    clear h1
    go_wp2_with fail
    go_ret
    exact ⟨by rw [HR.out]; rfl, HM1.out.b⟩
  | true =>
  have HQ1 := Lib.hid h1
  clear h1
  have c1 := HM1.out.z.cell 1 rfl
  have H2 := Lib.hid (gid_any fam w1 HC.out.fam)
  go_wp2_with fail
  refine H2.out.mono ?_
  rintro e w2 ⟨rfl, hb2⟩
  have HM2 := Lib.hid (HM1.out.below hb2)
  clear hb2 H2 c1
  cases h2 : idC fam with
  | false =>
    have HR : Hid (mayC ⟨1, fam, ser, tok, cli, usr, sco, red, cha, met, ver, rf, edg⟩ = false) := Lib.hid (by unfold mayC; simp [h2])
    clear h2
    go_wp2_with fail
    go_ret
    exact ⟨by rw [HR.out]; rfl, HM2.out.b⟩
  | true =>
  have HQ2 := Lib.hid h2
  clear h2
  have c4 := HM2.out.z.cell 4 rfl
  have c5 := HM2.out.z.cell 5 rfl
  have c7 := HM2.out.z.cell 7 rfl
  have c8 := HM2.out.z.cell 8 rfl
  have c9 := HM2.out.z.cell 9 rfl
  have c10 := HM2.out.z.cell 10 rfl
  have HRD := Lib.hid (rds6 w2 cli usr red cha met ver HC.out.cli HC.out.usr HC.out.red HC.out.cha HC.out.met HC.out.ver)
  have H3 := Lib.hid (texts_any _ _ _ HRD.out (by simp))
  go_wp2_with fail
  refine H3.out.mono ?_
  rintro e w3 ⟨rfl, e3⟩
  have HM3 := Lib.hid (HM2.out.alloc (.cells #[.string ⟨cli.toArray⟩, .string ⟨usr.toArray⟩, .string ⟨red.toArray⟩, .string ⟨cha.toArray⟩, .string ⟨met.toArray⟩, .string ⟨ver.toArray⟩] 9))
  rw [e3] at HM3
  clear e3 H3 HRD c4 c5 c7 c8 c9 c10
  cases h3 : [cli, usr, red, cha, met, ver].any lng with
  | true =>
    have HR : Hid (mayC ⟨1, fam, ser, tok, cli, usr, sco, red, cha, met, ver, rf, edg⟩ = false) := Lib.hid (by unfold mayC; simp [tooC, h3])
    clear h3
    go_wp2_with fail
    go_ret
    exact ⟨by rw [HR.out]; rfl, HM3.out.b⟩
  | false =>
  have HQ3 := Lib.hid h3
  clear h3
  have c0 := HM3.out.z.cell 0 rfl
  have c1 := HM3.out.z.cell 1 rfl
  have r0 := HM3.out.r.cell 0 rfl
  have fr0 := HM3.out.r.frozen 0
  have r1 := HM3.out.r.cell 1 rfl
  have fr1 := HM3.out.r.frozen 1
  have HM4 := Lib.hid ((HM3.out.set 0 (.int .i64 1)).set 1 (.string ⟨fam.toArray⟩))
  have HM5 : Hid (M2 w ((w3.setCell ⟨w.heap.size + 1, 0, none⟩ (.int .i64 1)).setCell ⟨w.heap.size + 1, 1, none⟩ (.string ⟨fam.toArray⟩)) [.int .i64 1, .string ⟨fam.toArray⟩, .int .i64 ser, .int .i64 tok, .string ⟨cli.toArray⟩, .string ⟨usr.toArray⟩, .slice sa sco.length sc, .string ⟨red.toArray⟩, .string ⟨cha.toArray⟩, .string ⟨met.toArray⟩, .string ⟨ver.toArray⟩, .bool rf, .int .i64 edg] [.int .i64 1, .string ⟨fam.toArray⟩, .int .i64 0, .int .i64 0, .string ⟨cli.toArray⟩, .string ⟨usr.toArray⟩, .slice none 0 0, .string ⟨red.toArray⟩, .string ⟨cha.toArray⟩, .string ⟨met.toArray⟩, .string ⟨#[]⟩, .bool false, .int .i64 0]) := HM4
  have c0d : w3.drew.cell? ⟨w.heap.size, 0, none⟩ = some (.int .i64 1) := c0
  have r0d : w3.drew.cell? ⟨w.heap.size + 1, 0, none⟩ = some (.int .i64 0) := r0
  have fr0d : w3.drew.frozen? ⟨w.heap.size + 1, 0, none⟩ = false := fr0
  have c1d : w3.drew.cell? ⟨w.heap.size, 1, none⟩ = some (.string ⟨fam.toArray⟩) := c1
  have r1d : w3.drew.cell? ⟨w.heap.size + 1, 1, none⟩ = some (.string ⟨#[]⟩) := r1
  have fr1d : w3.drew.frozen? ⟨w.heap.size + 1, 1, none⟩ = false := fr1
  go_wp2_with fail
  go_region
  obtain ⟨W5, hW5⟩ : ∃ W5, W5 = ((w3.setCell ⟨w.heap.size + 1, 0, none⟩ (.int .i64 1)).setCell ⟨w.heap.size + 1, 1, none⟩ (.string ⟨fam.toArray⟩)).drew := ⟨_, rfl⟩
  have HM6 : Hid (M2 w W5 [.int .i64 1, .string ⟨fam.toArray⟩, .int .i64 ser, .int .i64 tok, .string ⟨cli.toArray⟩, .string ⟨usr.toArray⟩, .slice sa sco.length sc, .string ⟨red.toArray⟩, .string ⟨cha.toArray⟩, .string ⟨met.toArray⟩, .string ⟨ver.toArray⟩, .bool rf, .int .i64 edg] [.int .i64 1, .string ⟨fam.toArray⟩, .int .i64 0, .int .i64 0, .string ⟨cli.toArray⟩, .string ⟨usr.toArray⟩, .slice none 0 0, .string ⟨red.toArray⟩, .string ⟨cha.toArray⟩, .string ⟨met.toArray⟩, .string ⟨#[]⟩, .bool false, .int .i64 0]) := by rw [hW5]; exact Lib.hid HM5.out.drew
  rw [← hW5]
  go_step
  go_step
  go_step
  simp only [List.append_eq, List.cons_append, List.nil_append]
  clear hW5 HM5 HM4 c0 c1 c0d c1d r0 r1 r0d r1d fr0 fr1 fr0d fr1d
  by_cases z2 : ser = 0
  case neg =>
    have HR : Hid (mayC ⟨1, fam, ser, tok, cli, usr, sco, red, cha, met, ver, rf, edg⟩ = false) := Lib.hid (by have ho : odd ⟨1, fam, ser, tok, cli, usr, sco, red, cha, met, ver, rf, edg⟩ = true := (by unfold odd; simp [z2]); unfold mayC; rw [ho]; simp)
    have e1 : ((0 : Int) == ser) = false := by rw [beq_eq_false_iff_ne]; exact fun e => z2 e.symm
    have e2 : ((0 : Int) != ser) = true := by simp [bne, e1]
    have c0 := HM6.out.z.cell 0 rfl
    have c2 := HM6.out.z.cell 2 rfl
    have r0 := HM6.out.r.cell 0 rfl
    have r2 := HM6.out.r.cell 2 rfl
    go_wp2_with fail
    go_ret
    exact ⟨by rw [HR.out]; rfl, HM6.out.b⟩
  case pos =>
  subst z2
  by_cases z3 : tok = 0
  case neg =>
    have HR : Hid (mayC ⟨1, fam, 0, tok, cli, usr, sco, red, cha, met, ver, rf, edg⟩ = false) := Lib.hid (by have ho : odd ⟨1, fam, 0, tok, cli, usr, sco, red, cha, met, ver, rf, edg⟩ = true := (by unfold odd; simp [z3]); unfold mayC; rw [ho]; simp)
    have e1 : ((0 : Int) == tok) = false := by rw [beq_eq_false_iff_ne]; exact fun e => z3 e.symm
    have e2 : ((0 : Int) != tok) = true := by simp [bne, e1]
    have c0 := HM6.out.z.cell 0 rfl
    have c2 := HM6.out.z.cell 2 rfl
    have c3 := HM6.out.z.cell 3 rfl
    have r0 := HM6.out.r.cell 0 rfl
    have r2 := HM6.out.r.cell 2 rfl
    have r3 := HM6.out.r.cell 3 rfl
    go_wp2_with fail
    go_ret
    exact ⟨by rw [HR.out]; rfl, HM6.out.b⟩
  case pos =>
  subst z3
  by_cases z10 : ver = []
  case neg =>
    have HR : Hid (mayC ⟨1, fam, 0, 0, cli, usr, sco, red, cha, met, ver, rf, edg⟩ = false) := Lib.hid (by have ho : odd ⟨1, fam, 0, 0, cli, usr, sco, red, cha, met, ver, rf, edg⟩ = true := (by unfold odd; simp [z10]); unfold mayC; rw [ho]; simp)
    have e1 : (([] : By) == ver) = false := by rw [beq_eq_false_iff_ne]; exact fun e => z10 e.symm
    have e2 := str_ne e1
    have e3 : ((⟨#[]⟩ : ByteArray).toList == (⟨ver.toArray⟩ : ByteArray).toList) = false := e2
    have e4 : List.isEmpty ver = false := by rw [List.isEmpty_eq_false_iff]; exact z10
    clear e1 e2
    have c0 := HM6.out.z.cell 0 rfl
    have c2 := HM6.out.z.cell 2 rfl
    have c3 := HM6.out.z.cell 3 rfl
    have c4 := HM6.out.z.cell 4 rfl
    have c5 := HM6.out.z.cell 5 rfl
    have c7 := HM6.out.z.cell 7 rfl
    have c8 := HM6.out.z.cell 8 rfl
    have c9 := HM6.out.z.cell 9 rfl
    have c10 := HM6.out.z.cell 10 rfl
    have r0 := HM6.out.r.cell 0 rfl
    have r2 := HM6.out.r.cell 2 rfl
    have r3 := HM6.out.r.cell 3 rfl
    have r4 := HM6.out.r.cell 4 rfl
    have r5 := HM6.out.r.cell 5 rfl
    have r7 := HM6.out.r.cell 7 rfl
    have r8 := HM6.out.r.cell 8 rfl
    have r9 := HM6.out.r.cell 9 rfl
    have r10 := HM6.out.r.cell 10 rfl
    go_wp2_with fail
    go_ret
    exact ⟨by rw [HR.out]; rfl, HM6.out.b⟩
  case pos =>
  subst z10
  by_cases z11 : rf = false
  case neg =>
    have HR : Hid (mayC ⟨1, fam, 0, 0, cli, usr, sco, red, cha, met, [], rf, edg⟩ = false) := Lib.hid (by have ho : odd ⟨1, fam, 0, 0, cli, usr, sco, red, cha, met, [], rf, edg⟩ = true := (by unfold odd; simp [z11]); unfold mayC; rw [ho]; simp)
    have e1 : rf = true := by simpa using z11
    subst e1
    have c0 := HM6.out.z.cell 0 rfl
    have c2 := HM6.out.z.cell 2 rfl
    have c3 := HM6.out.z.cell 3 rfl
    have c4 := HM6.out.z.cell 4 rfl
    have c5 := HM6.out.z.cell 5 rfl
    have c7 := HM6.out.z.cell 7 rfl
    have c8 := HM6.out.z.cell 8 rfl
    have c9 := HM6.out.z.cell 9 rfl
    have c10 := HM6.out.z.cell 10 rfl
    have c11 := HM6.out.z.cell 11 rfl
    have r0 := HM6.out.r.cell 0 rfl
    have r2 := HM6.out.r.cell 2 rfl
    have r3 := HM6.out.r.cell 3 rfl
    have r4 := HM6.out.r.cell 4 rfl
    have r5 := HM6.out.r.cell 5 rfl
    have r7 := HM6.out.r.cell 7 rfl
    have r8 := HM6.out.r.cell 8 rfl
    have r9 := HM6.out.r.cell 9 rfl
    have r10 := HM6.out.r.cell 10 rfl
    have r11 := HM6.out.r.cell 11 rfl
    go_wp2_with fail
    go_ret
    exact ⟨by rw [HR.out]; rfl, HM6.out.b⟩
  case pos =>
  subst z11
  by_cases z12 : edg = 0
  case neg =>
    have HR : Hid (mayC ⟨1, fam, 0, 0, cli, usr, sco, red, cha, met, [], false, edg⟩ = false) := Lib.hid (by have ho : odd ⟨1, fam, 0, 0, cli, usr, sco, red, cha, met, [], false, edg⟩ = true := (by unfold odd; simp [z12]); unfold mayC; rw [ho]; simp)
    have e1 : ((0 : Int) == edg) = false := by rw [beq_eq_false_iff_ne]; exact fun e => z12 e.symm
    have e2 : ((0 : Int) != edg) = true := by simp [bne, e1]
    have c0 := HM6.out.z.cell 0 rfl
    have c2 := HM6.out.z.cell 2 rfl
    have c3 := HM6.out.z.cell 3 rfl
    have c4 := HM6.out.z.cell 4 rfl
    have c5 := HM6.out.z.cell 5 rfl
    have c7 := HM6.out.z.cell 7 rfl
    have c8 := HM6.out.z.cell 8 rfl
    have c9 := HM6.out.z.cell 9 rfl
    have c10 := HM6.out.z.cell 10 rfl
    have c11 := HM6.out.z.cell 11 rfl
    have c12 := HM6.out.z.cell 12 rfl
    have r0 := HM6.out.r.cell 0 rfl
    have r2 := HM6.out.r.cell 2 rfl
    have r3 := HM6.out.r.cell 3 rfl
    have r4 := HM6.out.r.cell 4 rfl
    have r5 := HM6.out.r.cell 5 rfl
    have r7 := HM6.out.r.cell 7 rfl
    have r8 := HM6.out.r.cell 8 rfl
    have r9 := HM6.out.r.cell 9 rfl
    have r10 := HM6.out.r.cell 10 rfl
    have r11 := HM6.out.r.cell 11 rfl
    have r12 := HM6.out.r.cell 12 rfl
    go_wp2_with fail
    go_ret
    exact ⟨by rw [HR.out]; rfl, HM6.out.b⟩
  case pos =>
  subst z12
  by_cases hcli : cli = []
  case pos =>
    have hcli' := hcli
    subst hcli'
    clear hcli
    have HR : Hid (mayC ⟨1, fam, 0, 0, [], usr, sco, red, cha, met, [], false, 0⟩ = false) := Lib.hid (by unfold mayC; rw [show lowC ⟨1, fam, 0, 0, [], usr, sco, red, cha, met, [], false, 0⟩ = true from by simp [lowC]]; simp)
    have c0 := HM6.out.z.cell 0 rfl
    have c2 := HM6.out.z.cell 2 rfl
    have c3 := HM6.out.z.cell 3 rfl
    have c4 := HM6.out.z.cell 4 rfl
    have c5 := HM6.out.z.cell 5 rfl
    have c7 := HM6.out.z.cell 7 rfl
    have c8 := HM6.out.z.cell 8 rfl
    have c9 := HM6.out.z.cell 9 rfl
    have c10 := HM6.out.z.cell 10 rfl
    have c11 := HM6.out.z.cell 11 rfl
    have c12 := HM6.out.z.cell 12 rfl
    have r0 := HM6.out.r.cell 0 rfl
    have r2 := HM6.out.r.cell 2 rfl
    have r3 := HM6.out.r.cell 3 rfl
    have r4 := HM6.out.r.cell 4 rfl
    have r5 := HM6.out.r.cell 5 rfl
    have r7 := HM6.out.r.cell 7 rfl
    have r8 := HM6.out.r.cell 8 rfl
    have r9 := HM6.out.r.cell 9 rfl
    have r10 := HM6.out.r.cell 10 rfl
    have r11 := HM6.out.r.cell 11 rfl
    have r12 := HM6.out.r.cell 12 rfl
    go_wp2_with fail
    go_ret
    exact ⟨by rw [HR.out]; rfl, HM6.out.b⟩
  case neg =>
  have ec1 : (cli == ([] : By)) = false := by simpa using hcli
  have ec2 := str_ne ec1
  have ec3 : ((⟨cli.toArray⟩ : ByteArray).toList == (⟨#[]⟩ : ByteArray).toList) = false := ec2
  have ec4 : List.isEmpty cli = false := by rw [List.isEmpty_eq_false_iff]; exact hcli
  have HCLI := Lib.hid hcli
  clear ec1 ec2 hcli
  have HR : Hid (mayC ⟨1, fam, 0, 0, cli, usr, sco, red, cha, met, [], false, 0⟩ = shownC cha met) := Lib.hid (by
    have q1 := HQ1.out; have q2 := HQ2.out; have q3 := HQ3.out
    have g1 : odd ⟨1, fam, 0, 0, cli, usr, sco, red, cha, met, [], false, 0⟩ = false := by simp [odd]
    have g2 : lowC ⟨1, fam, 0, 0, cli, usr, sco, red, cha, met, [], false, 0⟩ = false := by simp [lowC, HCLI.out]
    have g3 : tokC ⟨1, fam, 0, 0, cli, usr, sco, red, cha, met, [], false, 0⟩ = false := by simp [tokC]
    have g4 : tooC ⟨1, fam, 0, 0, cli, usr, sco, red, cha, met, [], false, 0⟩ = false := q3
    unfold mayC; rw [g1, g2, g3, g4]; simp [q1, q2, scd])
  have HSH := Lib.hid (gshown_any cha met W5 HC.out.cha)
  have c0 := HM6.out.z.cell 0 rfl
  have c2 := HM6.out.z.cell 2 rfl
  have c3 := HM6.out.z.cell 3 rfl
  have c4 := HM6.out.z.cell 4 rfl
  have c5 := HM6.out.z.cell 5 rfl
  have c7 := HM6.out.z.cell 7 rfl
  have c8 := HM6.out.z.cell 8 rfl
  have c9 := HM6.out.z.cell 9 rfl
  have c10 := HM6.out.z.cell 10 rfl
  have c11 := HM6.out.z.cell 11 rfl
  have c12 := HM6.out.z.cell 12 rfl
  have r0 := HM6.out.r.cell 0 rfl
  have r2 := HM6.out.r.cell 2 rfl
  have r3 := HM6.out.r.cell 3 rfl
  have r4 := HM6.out.r.cell 4 rfl
  have r5 := HM6.out.r.cell 5 rfl
  have r7 := HM6.out.r.cell 7 rfl
  have r8 := HM6.out.r.cell 8 rfl
  have r9 := HM6.out.r.cell 9 rfl
  have r10 := HM6.out.r.cell 10 rfl
  have r11 := HM6.out.r.cell 11 rfl
  have r12 := HM6.out.r.cell 12 rfl
  go_wp2_with fail
  refine HSH.out.mono ?_
  rintro e w7 ⟨rfl, hb7⟩
  have HB7 := Lib.hid (Se.below_step HM6.out.b hb7)
  clear hb7
  go_wp2_with fail
  go_ret
  exact ⟨by rw [HR.out]; rfl, HB7.out⟩
end Go.Proofs.YtffllacphfapnaaGreatDoor.Gr
