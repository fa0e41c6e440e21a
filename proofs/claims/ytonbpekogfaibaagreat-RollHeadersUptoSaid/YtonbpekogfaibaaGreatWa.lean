/-
  Chapter 6: what is a word: the program's IsWord and the reference's Word.
-/
import Derived.Test.YtonbpekogfaibaaGreatSt
import Derived.Test.YtonbpekogfaibaaGreatWs
namespace Go.Proofs.YtonbpekogfaibaaGreat
open Go.RowKit

theorem word_no (l : List UInt8) (k : Nat) (c : UInt8) (h : l[k]? = some c) (hc : Sc.okc c = false) : Sc.word l = false := by
  have : l.all Sc.okc = false := by
    rw [List.all_eq_false]
    exact ⟨c, List.mem_of_getElem? h, by simp [hc]⟩
  simp [Sc.word, this]
theorem word_all (l : List UInt8) (h : ∀ (k : Nat) c, l[k]? = some c → Sc.okc c = true) : Sc.word l = (decide (1 ≤ l.length) && decide (l.length ≤ 64)) := by
  have : l.all Sc.okc = true := by
    rw [List.all_eq_true]
    intro c hc
    obtain ⟨k, hk⟩ := List.getElem?_of_mem hc
    exact h k c hk
  simp [Sc.word, this]

set_option maxRecDepth 20000 in
set_option maxHeartbeats 1000000 in
theorem isWord_any (s : ByteArray) (w : World) (hs : s.size ≤ 9223372036854775807) :
    Calls Tryz.prog 88 #[.string s] w fun e w' => e = .returned (.bool (Sc.word s.data.toList)) ∧ w = w' := by
  go_enter Tryz.func88, Tryz.ntmps88
  go_wp2
  go_loop [3] (fun i => ∃ k : Nat, k ≤ s.size ∧ i = .int .i64 k ∧ ∀ j c, j < k → s.data.toList[j]? = some c → Sc.okc c = true) (fun i => s.size - (intOf i).toNat)
  case atStart => exact ⟨0, by omega, rfl, fun j c hj => by omega⟩
  case round =>
    obtain ⟨k, hk, rfl, hall⟩ := hrel
    have HA := Lib.hid hall
    clear hall
    by_cases hlt : k < s.size
    · have hg : s.data.toList[k]? = some s[k] := by
        rw [List.getElem?_eq_getElem (by simpa using hlt)]; rfl
      obtain ⟨c, hc⟩ : ∃ c, s[k] = c := ⟨_, rfl⟩
      have hi := ix_str s k hlt c hc
      rw [hc] at hg
      have HG := Lib.hid hg
      clear hc hg
      cases ho : Sc.okc c with
      | true =>
        have h1 : decide ((c.toNat : Int) < 33) = false := by simp [Sc.okc] at ho; simp; omega
        have h2 : ((c.toNat : Int) == 34) = false := by simp [Sc.okc] at ho; simp; omega
        have h3 : ((c.toNat : Int) == 92) = false := by simp [Sc.okc] at ho; simp; omega
        have h4 : decide (126 < (c.toNat : Int)) = false := by simp [Sc.okc] at ho; simp; omega
        have HO := Lib.hid ho
        clear ho
        go_wp2
        go_round
        case rel =>
          refine ⟨k + 1, by omega, by go_num, fun j d hj hd => ?_⟩
          by_cases hjk : j = k
          · subst hjk
            rw [HG.out] at hd
            cases hd
            exact HO.out
          · exact HA.out j d (by omega) hd
        case measure => simp [intOf]; omega
      | false =>
        have HW := Lib.hid (word_no _ k c HG.out ho)
        by_cases h1 : (c.toNat : Int) < 33
        · clear ho
          go_wp2
          go_ret
          exact ⟨by rw [HW.out]; rfl, rfl⟩
        · have h1' : decide ((c.toNat : Int) < 33) = false := by simp; omega
          by_cases h2 : (c.toNat : Int) = 34
          · have h2' : ((c.toNat : Int) == 34) = true := by simp [h2]
            clear ho h1 h2
            go_wp2
            go_ret
            exact ⟨by rw [HW.out]; rfl, rfl⟩
          · have h2' : ((c.toNat : Int) == 34) = false := by simp; omega
            by_cases h3 : (c.toNat : Int) = 92
            · have h3' : ((c.toNat : Int) == 92) = true := by simp [h3]
              clear ho h1 h2 h3
              go_wp2
              go_ret
              exact ⟨by rw [HW.out]; rfl, rfl⟩
            · have h3' : ((c.toNat : Int) == 92) = false := by simp; omega
              have h4 : 126 < (c.toNat : Int) := by simp [Sc.okc] at ho; omega
              clear ho h1 h2 h3
              go_wp2
              go_ret
              exact ⟨by rw [HW.out]; rfl, rfl⟩
    · have hk' : k = s.size := by omega
      subst hk'
      have HW := Lib.hid (word_all s.data.toList (fun k c hk => HA.out k c (by have := (List.getElem?_eq_some_iff.1 hk).1; simpa using this) hk))
      have hsz : s.data.toList.length = s.size := by simp
      rw [hsz] at HW
      clear hsz
      by_cases h1 : 1 ≤ s.size
      · have h1' : (1 : Int) ≤ (s.size : Int) := by omega
        go_wp2
        go_ret
        exact ⟨by rw [HW.out]; simp [h1]; omega, rfl⟩
      · have h1' : decide ((1 : Int) ≤ (s.size : Int)) = false := by simp; omega
        have h1'' : decide (1 ≤ s.size) = false := decide_eq_false (by omega)
        go_wp2
        go_ret
        exact ⟨by rw [HW.out, h1'']; rfl, rfl⟩
end Go.Proofs.YtonbpekogfaibaaGreat
