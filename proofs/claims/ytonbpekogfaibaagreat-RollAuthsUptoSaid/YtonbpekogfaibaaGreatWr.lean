/-
  Chapter 6: the reference's Word.
-/
import Derived.Test.YtonbpekogfaibaaGreatWa
namespace Go.Proofs.YtonbpekogfaibaaGreat
open Go.RowKit

set_option maxRecDepth 20000 in
set_option maxHeartbeats 1000000 in
theorem rword_any (s : ByteArray) (w : World) :
    Calls Tryz.prog 58 #[.string s] w fun e w' => e = .returned (.bool (Sc.word s.data.toList)) ∧ w = w' := by
  have hsz : s.data.toList.length = s.size := by simp
  by_cases h1 : s.size < 1
  · have HW : Hid (Sc.word s.data.toList = false) := by
      have : decide (1 ≤ s.data.toList.length) = false := by rw [hsz]; exact decide_eq_false (by omega)
      exact Lib.hid (by simp only [Sc.word, this, Bool.false_and])
    have h1' : (s.size : Int) < 1 := by omega
    clear hsz
    go_enter Tryz.func58, Tryz.ntmps58
    go_wp2
    go_ret
    exact ⟨by rw [HW.out]; rfl, rfl⟩
  have h1' : decide ((s.size : Int) < 1) = false := by simp; omega
  by_cases h2 : 64 < s.size
  · have HW : Hid (Sc.word s.data.toList = false) := by
      have : decide (s.data.toList.length ≤ 64) = false := by rw [hsz]; exact decide_eq_false (by omega)
      exact Lib.hid (by simp only [Sc.word, this, Bool.and_false, Bool.false_and])
    have h2' : (64 : Int) < (s.size : Int) := by omega
    clear hsz h1
    go_enter Tryz.func58, Tryz.ntmps58
    go_wp2
    go_ret
    exact ⟨by rw [HW.out]; rfl, rfl⟩
  have h2' : decide ((64 : Int) < (s.size : Int)) = false := by simp; omega
  have h64 : s.size ≤ 64 := by omega
  have h11 : 1 ≤ s.size := by omega
  have HSZ := Lib.hid hsz
  clear hsz h1 h2
  go_enter Tryz.func58, Tryz.ntmps58
  go_wp2
  go_loop [3] (fun i => ∃ k : Nat, k ≤ s.size ∧ i = .int .i64 k ∧ ∀ j c, j < k → s.data.toList[j]? = some c → Sc.okc c = true) (fun i => s.size - (intOf i).toNat)
  case atStart => exact ⟨0, by omega, rfl, fun j c hj => by omega⟩
  case round =>
    obtain ⟨k, hk, rfl, hall⟩ := hrel
    have HA := Lib.hid hall
    clear hall
    by_cases hlt : k < s.size
    · have hg : s.data.toList[k]? = some s[k] := by
        rw [List.getElem?_eq_getElem (by simpa using hlt)]; rfl
      obtain ⟨c, hc⟩ : ∃ c, s[k] = c := ⟨_, rfl⟩
      have hi := ix_str s k hlt c hc
      rw [hc] at hg
      have HG := Lib.hid hg
      clear hc hg
      have hstep : Sc.okc c = true → ∀ j d, j < k + 1 → s.data.toList[j]? = some d → Sc.okc d = true := by
        intro ho j d hj hd
        by_cases hjk : j = k
        · subst hjk
          rw [HG.out] at hd
          cases hd
          exact ho
        · exact HA.out j d (by omega) hd
      have HST := Lib.hid hstep
      clear hstep
      have HW := Lib.hid (word_no _ k c HG.out)
      by_cases g1 : (c.toNat : Int) = 33
      · have ho : Sc.okc c = true := by simp [Sc.okc]; omega
        have HO := Lib.hid ho
        have g1' : ((c.toNat : Int) != 33) = false := by simp [g1]
        clear ho g1
        go_wp2
        go_round
        case rel => exact ⟨k + 1, by omega, by go_num, HST.out HO.out⟩
        case measure => simp [intOf]; omega
      have g1' : ((c.toNat : Int) != 33) = true := by simp; omega
      by_cases g2 : (c.toNat : Int) < 35
      · by_cases g3 : (c.toNat : Int) < 93
        · have ho : Sc.okc c = false := by simp [Sc.okc]; omega
          have HO := Lib.hid ho
          clear ho g1
          go_wp2
          go_ret
          exact ⟨by rw [HW.out HO.out]; rfl, rfl⟩
        · omega
      have g2' : decide ((c.toNat : Int) < 35) = false := by simp; omega
      by_cases g4 : 91 < (c.toNat : Int)
      · by_cases g3 : (c.toNat : Int) < 93
        · have ho : Sc.okc c = false := by simp [Sc.okc]; omega
          have HO := Lib.hid ho
          clear ho g1 g2
          go_wp2
          go_ret
          exact ⟨by rw [HW.out HO.out]; rfl, rfl⟩
        · have g3' : decide ((c.toNat : Int) < 93) = false := by simp; omega
          by_cases g5 : 126 < (c.toNat : Int)
          · have ho : Sc.okc c = false := by simp [Sc.okc]; omega
            have HO := Lib.hid ho
            clear ho g1 g2 g3
            go_wp2
            go_ret
            exact ⟨by rw [HW.out HO.out]; rfl, rfl⟩
          · have g5' : decide (126 < (c.toNat : Int)) = false := by simp; omega
            have ho : Sc.okc c = true := by simp [Sc.okc]; omega
            have HO := Lib.hid ho
            clear ho g1 g2 g3 g5
            go_wp2
            go_round
            case rel => exact ⟨k + 1, by omega, by go_num, HST.out HO.out⟩
            case measure => simp [intOf]; omega
      · have g4' : decide (91 < (c.toNat : Int)) = false := by simp; omega
        have ho : Sc.okc c = true := by simp [Sc.okc]; omega
        have HO := Lib.hid ho
        clear ho g1 g2 g4
        go_wp2
        go_round
        case rel => exact ⟨k + 1, by omega, by go_num, HST.out HO.out⟩
        case measure => simp [intOf]; omega
    · have hk' : k = s.size := by omega
      subst hk'
      have HW := Lib.hid (word_all s.data.toList (fun k c hk => HA.out k c (by have := (List.getElem?_eq_some_iff.1 hk).1; simpa using this) hk))
      rw [HSZ.out, show decide (1 ≤ s.size) = true from by simpa using h11, show decide (s.size ≤ 64) = true from by simpa using h64] at HW
      go_wp2
      go_ret
      exact ⟨by rw [HW.out]; rfl, rfl⟩
end Go.Proofs.YtonbpekogfaibaaGreat
