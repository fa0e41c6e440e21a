/-
  Chapter 8: the reader's Text.
-/
import Derived.Test.YthofbblgoamipaaGreatDoorVi
import Derived.Test.YthofbblgoamipaaGreatDoorSl
namespace Go.Proofs.YthofbblgoamipaaGreatDoor.Wa
open Go.RowKit Pt
set_option linter.unusedVariables false
set_option linter.unusedSimpArgs false
set_option maxRecDepth 100000

theorem own_map_add (a : Option Addr) (L M c d n : Nat) : (Value.slice (a.map (·.add n)) M d).ownBlock = (Value.slice a L c).ownBlock := by
  cases a with
  | none => rfl
  | some x =>
    show some (x.add n).block = some x.block
    unfold Addr.add
    split <;> rfl
set_option maxHeartbeats 4000000 in
theorem rtext_any (s r : By) (g : Nat) (sl : Value) (w : World) (hs : s.length ≤ 65536) (h : RC w g (uv s.length ++ (s ++ r)) sl) (hl : (s ++ r).length ≤ 1000000) :
    Calls Tryz.prog 50 #[.pointer (some ⟨g, 0, none⟩)] w fun e w' => e = .returned (.string ⟨s.toArray⟩) ∧ ∃ sl', RC w' g r sl' ∧ Out (fun k => k = g) w w' := by
  have HN := Lib.hid (rnext_any s.length 65536 (s ++ r) g sl w (by omega) hs (by omega) h hl)
  obtain ⟨n, hn⟩ : ∃ n, n = s.length := ⟨_, rfl⟩
  rw [← hn] at HN
  have e1 : IntKind.i64.wrap (n : Int) = (n : Int) := IntWalk.i64_in _ (by omega)
  have HNN := Lib.hid hn
  have HL := Lib.hid hl
  have HS : Hid (n ≤ 65536) := Lib.hid (by rw [hn]; exact hs)
  clear h hl hn hs
  go_enter Tryz.func50, Tryz.ntmps50
  go_wp2_with fail
  refine HN.out.mono ?_
  rintro e w1 ⟨rfl, s1, hc1, ho1⟩
  have HO1 := Lib.hid ho1
  obtain ⟨L, hL⟩ : ∃ L, L = (s ++ r).length := ⟨_, rfl⟩
  have hLn : n ≤ L := by rw [hL, HNN.out, List.length_append]; omega
  have hrd : Rd w1 1 s1 L (Lib.byteCells (s ++ r)) := by rw [hL]; exact hc1.r
  obtain ⟨a, cap, e2⟩ := hrd.slice
  subst e2
  have HC1 := Lib.hid hc1
  have HRD := Lib.hid hrd
  have c0 := hc1.b.cell 0 rfl
  have c1 := hc1.b.cell 1 rfl
  have f0 := hc1.b.frozen 0
  have t1 : ¬ (L : Int) < (n : Int) := by omega
  have hcv : Sem.run Tryz.prog (convert 32 9 (.slice a n cap)) w1 = .ok (.string ⟨s.toArray⟩) w1 := rd_back (l := s) (by
    have h := hrd.front n hLn
    rw [Nat.mul_one] at h
    rw [← HNN.out]
    have e : (Lib.byteCells (s ++ r)).take n = Lib.byteCells s := by rw [bc_append, HNN.out, ← bc_length s, List.take_left]
    rw [e] at h
    exact h)
  have hcap : n ≤ cap := by
    rcases hrd.2 with ⟨_, h0⟩ | ⟨b', o', c', e, hc, _⟩
    · omega
    · injection e with _ _ e3; omega
  have hback := hrd.back n hLn
  have hdr : (Lib.byteCells (s ++ r)).drop (n * 1) = Lib.byteCells r := by rw [bc_append, Nat.mul_one, HNN.out, ← bc_length s, List.drop_left]
  rw [hdr, Nat.mul_one] at hback
  have hLr : L - n = r.length := by rw [hL, HNN.out, List.length_append]; omega
  have hnl : ¬ L < n := by omega
  have HBK := Lib.hid hback
  have HLR := Lib.hid hLr
  have HNE : Hid (∀ k, (Value.slice a L cap).ownBlock = some k → k ≠ g) := Lib.hid hc1.ne
  clear hc1 ho1 hrd hL hLn HN hback hdr hLr
  by_cases hc : cap = n
  case pos =>
    have HR2 : Hid (Rd w1 1 (.slice a (L - n) 0) (L - n) (Lib.byteCells r)) := Lib.hid (by have h := HBK.out; rw [if_pos hc, hc, Nat.sub_self] at h; exact h)
    subst hc
    go_wp2_with fail
    go_ret
    refine ⟨rfl, _, ⟨HC1.out.b.set 0 _, ?_, fun k hk => HNE.out k (by rw [← hk]; rcases a with _ | ⟨_, _, _⟩ <;> rfl)⟩, HO1.out.set _ _ rfl⟩
    have h := rd_set HR2.out g 0 (.slice a (L - cap) 0) (fun k hk => HNE.out k (by rw [← hk]; rcases a with _ | ⟨_, _, _⟩ <;> rfl))
    rw [HLR.out] at h ⊢
    exact h
  case neg =>
    have HR2 : Hid (Rd w1 1 (.slice (a.map (·.add n)) (L - n) (cap - n)) (L - n) (Lib.byteCells r)) := Lib.hid (by have h := HBK.out; rw [if_neg hc] at h; exact h)
    go_wp2_with fail
    go_ret
    refine ⟨rfl, _, ⟨HC1.out.b.set 0 _, ?_, fun k hk => HNE.out k ((own_map_add a L (L - n) cap (cap - n) n).symm.trans hk)⟩, HO1.out.set _ _ rfl⟩
    have h := rd_set HR2.out g 0 (.slice (a.map (·.add n)) (L - n) (cap - n)) (fun k hk => HNE.out k ((own_map_add a L (L - n) cap (cap - n) n).symm.trans hk))
    rw [HLR.out] at h ⊢
    exact h
end Go.Proofs.YthofbblgoamipaaGreatDoor.Wa
