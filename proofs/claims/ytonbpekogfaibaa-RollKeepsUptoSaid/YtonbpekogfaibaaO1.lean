/-
  Chapter 15: wipe (of the statements): a client's lists are written over; nothing but their blocks changes.
-/
import Derived.Test.YtonbpekogfaibaaOe
namespace Go.Proofs.Ytonbpekogfaibaa.Ro
open Go.RowKit Go.Maps Go.Sort
set_option linter.unusedVariables false
set_option linter.unusedSimpArgs false
set_option maxRecDepth 100000

/-- nothing but the blocks of F changes -/
structure Out (F : Nat → Prop) (w w' : World) : Prop where
  os : w'.os = w.os
  tape : w'.tape = w.tape
  output : w'.output = w.output
  size : w.heap.size ≤ w'.heap.size
  block : ∀ k, k < w.heap.size → ¬ F k → w'.heap[k]? = w.heap[k]?
theorem Out.refl (F : Nat → Prop) (w : World) : Out F w w := ⟨rfl, rfl, rfl, Nat.le_refl _, fun _ _ _ => rfl⟩
theorem Out.trans {F G : Nat → Prop} {w w1 w2 : World} (h : Out F w w1) (g : Out G w1 w2) (hs : ∀ k, k < w.heap.size → G k → F k) : Out F w w2 :=
  ⟨g.os.trans h.os, g.tape.trans h.tape, g.output.trans h.output, Nat.le_trans h.size g.size, fun k hk hn => (g.block k (Nat.lt_of_lt_of_le hk h.size) (fun hg => hn (hs k hk hg))).trans (h.block k hk hn)⟩
theorem Out.mono {F G : Nat → Prop} {w w1 : World} (h : Out F w w1) (hs : ∀ k, k < w.heap.size → F k → G k) : Out G w w1 :=
  ⟨h.os, h.tape, h.output, h.size, fun k hk hn => h.block k hk (fun hf => hn (hs k hk hf))⟩
theorem Out.below {F : Nat → Prop} {w w' : World} {B : Nat} (h : Out F w w') (hB : B ≤ w.heap.size) (hF : ∀ k, F k → B ≤ k) : Below B w w' :=
  ⟨h.os, h.tape, h.output, h.size, fun k hk => h.block k (by omega) (fun hf => by have := hF k hf; omega)⟩
theorem Out.of_grown {w w' : World} {row : Option Nat} (h : w.grownBy w' row) : Out (fun k => row = some k) w w' :=
  ⟨h.os, h.tape, h.output, h.size, fun k hk hn => h.block k hk (fun e => hn e.symm)⟩
theorem Out.of_below {w w' : World} (F : Nat → Prop) (h : Below w.heap.size w w') : Out F w w' :=
  ⟨h.os, h.tape, h.output, h.size, fun k hk _ => h.block k hk⟩
theorem Out.alloc {F : Nat → Prop} {w w' : World} (h : Out F w w') (o : Obj) : Out F w (w'.alloc o) :=
  h.trans (Out.of_grown (World.grownBy_alloc w' o none)) (fun k _ hk => by cases hk)
theorem Out.set {F : Nat → Prop} {w w' : World} (h : Out F w w') (a : Addr) (v : Value) (ha : F a.block) : Out F w (w'.setCell a v) :=
  ⟨h.os, h.tape, h.output, by simpa using h.size, fun k hk hn => by rw [Below.heap_setCell _ _ _ _ (fun e => hn (by rw [e]; exact ha))]; exact h.block k hk hn⟩
/-- a slice of texts that may be written over: its block's cells are all there, the block is an old one -/
def Wr (B : Nat) (W : World) (v : Value) (n : Nat) : Prop := (v = .slice none 0 0 ∧ n = 0) ∨ ∃ g cap cs, v = .slice (some ⟨g, 0, none⟩) n cap ∧ Blk W g 9 cs ∧ n ≤ cs.length ∧ g < B
theorem Wr.set {B : Nat} {W : World} {v : Value} {n : Nat} (h : Wr B W v n) (b j : Nat) (u : Value) : Wr B (W.setCell ⟨b, j, none⟩ u) v n := by
  rcases h with h | ⟨g, cap, cs, e, hk, hn, hg⟩
  · exact .inl h
  · by_cases hgb : g = b
    · subst hgb
      exact .inr ⟨g, cap, _, e, hk.set j u, by rw [List.length_set]; exact hn, hg⟩
    · exact .inr ⟨g, cap, cs, e, hk.setOther _ _ hgb, hn, hg⟩
theorem Wr.drew {B : Nat} {W : World} {v : Value} {n : Nat} (h : Wr B W v n) : Wr B W.drew v n := h
theorem Wr.alloc {B : Nat} {W : World} {v : Value} {n : Nat} (h : Wr B W v n) (o : Obj) : Wr B (W.alloc o) v n := by
  rcases h with h | ⟨g, cap, cs, e, hk, hn, hg⟩
  · exact .inl h
  · exact .inr ⟨g, cap, cs, e, hk.alloc o, hn, hg⟩
theorem Wr.shape {B : Nat} {W : World} {v : Value} {n : Nat} (h : Wr B W v n) : ∃ a c, v = .slice a n c := by
  rcases h with ⟨rfl, rfl⟩ | ⟨g, cap, cs, e, _⟩
  · exact ⟨_, _, rfl⟩
  · exact ⟨_, _, e⟩
theorem Wr.pos {B : Nat} {W : World} {a : Option Addr} {n c : Nat} (h : Wr B W (.slice a n c) n) (hn : 0 < n) : ∃ g cs, a = some ⟨g, 0, none⟩ ∧ Blk W g 9 cs ∧ n ≤ cs.length ∧ g < B := by
  rcases h with ⟨_, rfl⟩ | ⟨g, cap, cs, e, h1, h2, h3⟩
  · omega
  · cases e; exact ⟨g, cs, rfl, h1, h2, h3⟩
theorem Wr.of_own {W : World} {B : Nat} {v : Value} {l : List By} (h : OwnS W B v l) : Wr W.heap.size W v l.length := by
  rcases h.2 with ⟨rfl, h0⟩ | ⟨g, cap, cur, rfl, hB, hh, hn, hm, hs, hx⟩
  · exact .inl ⟨rfl, h0⟩
  · have hl : cur.toList.length = cap := by rw [Array.length_toList, hs, Nat.mul_one]
    exact .inr ⟨g, cap, cur.toList, rfl, hh, by omega, (Array.getElem?_eq_some_iff.1 hh).1⟩
def lF (v : V3) (k : Nat) : Prop := v.1.ownBlock = some k ∨ v.2.1.ownBlock = some k ∨ v.2.2.ownBlock = some k
set_option maxHeartbeats 8000000 in
theorem wipe_any (c : Cl) (v : V3) (w : World) (h0 : Wr w.heap.size w v.1 c.red.length) (h1 : Wr w.heap.size w v.2.1 c.sco.length) (h2 : Wr w.heap.size w v.2.2 c.gra.length)
    (n0 : c.red.length ≤ 1048576) (n1 : c.sco.length ≤ 1048576) (n2 : c.gra.length ≤ 1048576) :
    Calls Try.prog 26 #[av c v] w fun e w' => e = .returned (.tuple #[]) ∧ Out (lF v) w w' := by
  obtain ⟨v0, v1, v2⟩ := v
  simp only at h0 h1 h2
  obtain ⟨a0, k0, rfl⟩ := h0.shape
  obtain ⟨a1, k1, rfl⟩ := h1.shape
  obtain ⟨a2, k2, rfl⟩ := h2.shape
  unfold av
  have hk : Blk (w.alloc (.cells #[.string ⟨c.id.toArray⟩, .string ⟨c.sec.toArray⟩, .bool c.pub, .slice a0 c.red.length k0, .slice a1 c.sco.length k1, .slice a2 c.gra.length k2] 32)) w.heap.size 32 (c6 c (.slice a0 c.red.length k0, .slice a1 c.sco.length k1, .slice a2 c.gra.length k2)) := Blk.new w _ _
  have HW : Hid (Blk (w.alloc (.cells #[.string ⟨c.id.toArray⟩, .string ⟨c.sec.toArray⟩, .bool c.pub, .slice a0 c.red.length k0, .slice a1 c.sco.length k1, .slice a2 c.gra.length k2] 32)) w.heap.size 32 (c6 c (.slice a0 c.red.length k0, .slice a1 c.sco.length k1, .slice a2 c.gra.length k2)) ∧ Wr w.heap.size (w.alloc (.cells #[.string ⟨c.id.toArray⟩, .string ⟨c.sec.toArray⟩, .bool c.pub, .slice a0 c.red.length k0, .slice a1 c.sco.length k1, .slice a2 c.gra.length k2] 32)) (.slice a0 c.red.length k0) c.red.length ∧ Wr w.heap.size (w.alloc (.cells #[.string ⟨c.id.toArray⟩, .string ⟨c.sec.toArray⟩, .bool c.pub, .slice a0 c.red.length k0, .slice a1 c.sco.length k1, .slice a2 c.gra.length k2] 32)) (.slice a1 c.sco.length k1) c.sco.length ∧ Wr w.heap.size (w.alloc (.cells #[.string ⟨c.id.toArray⟩, .string ⟨c.sec.toArray⟩, .bool c.pub, .slice a0 c.red.length k0, .slice a1 c.sco.length k1, .slice a2 c.gra.length k2] 32)) (.slice a2 c.gra.length k2) c.gra.length ∧ Out (lF (.slice a0 c.red.length k0, .slice a1 c.sco.length k1, .slice a2 c.gra.length k2)) w (w.alloc (.cells #[.string ⟨c.id.toArray⟩, .string ⟨c.sec.toArray⟩, .bool c.pub, .slice a0 c.red.length k0, .slice a1 c.sco.length k1, .slice a2 c.gra.length k2] 32))) := Lib.hid ⟨hk, h0.alloc _, h1.alloc _, h2.alloc _, Out.of_below _ ((Below.refl _ _).alloc (Nat.le_refl _) _)⟩
  have d3 := hk.cell 3 rfl
  have d4 := hk.cell 4 rfl
  have d5 := hk.cell 5 rfl
  clear hk h0 h1 h2
  go_enter Try.func26, Try.ntmps26
  go_wp2_with fail
  generalize (w.alloc (.cells #[.string ⟨c.id.toArray⟩, .string ⟨c.sec.toArray⟩, .bool c.pub, .slice a0 c.red.length k0, .slice a1 c.sco.length k1, .slice a2 c.gra.length k2] 32)) = w6 at *
  go_loopw [2] (fun i wr => ∃ k : Nat, k ≤ c.red.length ∧ i = .int .i64 (k : Int) ∧ Blk wr w.heap.size 32 (c6 c (.slice a0 c.red.length k0, .slice a1 c.sco.length k1, .slice a2 c.gra.length k2)) ∧ Wr w.heap.size wr (.slice a0 c.red.length k0) c.red.length ∧ Wr w.heap.size wr (.slice a1 c.sco.length k1) c.sco.length ∧ Wr w.heap.size wr (.slice a2 c.gra.length k2) c.gra.length ∧ Out (lF (.slice a0 c.red.length k0, .slice a1 c.sco.length k1, .slice a2 c.gra.length k2)) w wr) (fun i _ => c.red.length - (intOf i).toNat)
  case atStart => exact ⟨0, Nat.zero_le _, rfl, HW.out⟩
  case round =>
    clear HW d3 d4 d5
    obtain ⟨k, hk, rfl, hi⟩ := hrel
    have HI := Lib.hid hi
    have d3 := hi.1.cell 3 rfl
    clear hi
    by_cases hkn : k < c.red.length
    case pos =>
      have g1 : (k : Int) < (c.red.length : Int) := by omega
      obtain ⟨g, cs, rfl, hb, hn, hg⟩ := (HI.out.2.1).pos (by omega)
      obtain ⟨u, hu⟩ : ∃ u, cs[k]? = some u := ⟨_, List.getElem?_eq_getElem (by omega)⟩
      have q1 := hb.cell k hu
      have q2 := hb.frozen k
      have q3 : wr.cell? ⟨g, 0 + k, none⟩ = some u := by rw [Nat.zero_add]; exact q1
      have q4 : wr.frozen? ⟨g, 0 + k, none⟩ = false := by rw [Nat.zero_add]; exact q2
      have hne : w.heap.size ≠ g := by omega
      have HNE := Lib.hid (And.intro hne hg)
      clear hb hn hg hu hne
      go_wp2_with fail
      go_roundw
      case rel =>
        exact ⟨k + 1, by omega, by go_num, HI.out.1.setOther _ _ HNE.out.1, HI.out.2.1.set _ _ _, HI.out.2.2.1.set _ _ _, HI.out.2.2.2.1.set _ _ _, HI.out.2.2.2.2.set _ _ (.inl rfl)⟩
      case measure => simp [intOf]; omega
    case neg =>
      have g1 : ¬ (k : Int) < (c.red.length : Int) := by omega
      have HW : Hid (Blk wr w.heap.size 32 (c6 c (.slice a0 c.red.length k0, .slice a1 c.sco.length k1, .slice a2 c.gra.length k2)) ∧ Wr w.heap.size wr (.slice a0 c.red.length k0) c.red.length ∧ Wr w.heap.size wr (.slice a1 c.sco.length k1) c.sco.length ∧ Wr w.heap.size wr (.slice a2 c.gra.length k2) c.gra.length ∧ Out (lF (.slice a0 c.red.length k0, .slice a1 c.sco.length k1, .slice a2 c.gra.length k2)) w wr) := HI
      have d3 := HW.out.1.cell 3 rfl
      have d4 := HW.out.1.cell 4 rfl
      have d5 := HW.out.1.cell 5 rfl
      clear HI
      go_wp2_with fail
      generalize wr = w7 at *
      go_loopw [3] (fun i wr => ∃ k : Nat, k ≤ c.sco.length ∧ i = .int .i64 (k : Int) ∧ Blk wr w.heap.size 32 (c6 c (.slice a0 c.red.length k0, .slice a1 c.sco.length k1, .slice a2 c.gra.length k2)) ∧ Wr w.heap.size wr (.slice a0 c.red.length k0) c.red.length ∧ Wr w.heap.size wr (.slice a1 c.sco.length k1) c.sco.length ∧ Wr w.heap.size wr (.slice a2 c.gra.length k2) c.gra.length ∧ Out (lF (.slice a0 c.red.length k0, .slice a1 c.sco.length k1, .slice a2 c.gra.length k2)) w wr) (fun i _ => c.sco.length - (intOf i).toNat)
      case atStart => exact ⟨0, Nat.zero_le _, rfl, HW.out⟩
      case round =>
        clear HW d3 d4 d5
        obtain ⟨k, hk, rfl, hi⟩ := hrel
        have HI := Lib.hid hi
        have d4 := hi.1.cell 4 rfl
        clear hi
        by_cases hkn : k < c.sco.length
        case pos =>
          have g1 : (k : Int) < (c.sco.length : Int) := by omega
          obtain ⟨g, cs, rfl, hb, hn, hg⟩ := (HI.out.2.2.1).pos (by omega)
          obtain ⟨u, hu⟩ : ∃ u, cs[k]? = some u := ⟨_, List.getElem?_eq_getElem (by omega)⟩
          have q1 := hb.cell k hu
          have q2 := hb.frozen k
          have q3 : wr.cell? ⟨g, 0 + k, none⟩ = some u := by rw [Nat.zero_add]; exact q1
          have q4 : wr.frozen? ⟨g, 0 + k, none⟩ = false := by rw [Nat.zero_add]; exact q2
          have hne : w.heap.size ≠ g := by omega
          have HNE := Lib.hid (And.intro hne hg)
          clear hb hn hg hu hne
          go_wp2_with fail
          go_roundw
          case rel =>
            exact ⟨k + 1, by omega, by go_num, HI.out.1.setOther _ _ HNE.out.1, HI.out.2.1.set _ _ _, HI.out.2.2.1.set _ _ _, HI.out.2.2.2.1.set _ _ _, HI.out.2.2.2.2.set _ _ (.inr (.inl rfl))⟩
          case measure => simp [intOf]; omega
        case neg =>
          have g1 : ¬ (k : Int) < (c.sco.length : Int) := by omega
          have HW : Hid (Blk wr w.heap.size 32 (c6 c (.slice a0 c.red.length k0, .slice a1 c.sco.length k1, .slice a2 c.gra.length k2)) ∧ Wr w.heap.size wr (.slice a0 c.red.length k0) c.red.length ∧ Wr w.heap.size wr (.slice a1 c.sco.length k1) c.sco.length ∧ Wr w.heap.size wr (.slice a2 c.gra.length k2) c.gra.length ∧ Out (lF (.slice a0 c.red.length k0, .slice a1 c.sco.length k1, .slice a2 c.gra.length k2)) w wr) := HI
          have d3 := HW.out.1.cell 3 rfl
          have d4 := HW.out.1.cell 4 rfl
          have d5 := HW.out.1.cell 5 rfl
          clear HI
          go_wp2_with fail
          generalize wr = w8 at *
          go_loopw [4] (fun i wr => ∃ k : Nat, k ≤ c.gra.length ∧ i = .int .i64 (k : Int) ∧ Blk wr w.heap.size 32 (c6 c (.slice a0 c.red.length k0, .slice a1 c.sco.length k1, .slice a2 c.gra.length k2)) ∧ Wr w.heap.size wr (.slice a0 c.red.length k0) c.red.length ∧ Wr w.heap.size wr (.slice a1 c.sco.length k1) c.sco.length ∧ Wr w.heap.size wr (.slice a2 c.gra.length k2) c.gra.length ∧ Out (lF (.slice a0 c.red.length k0, .slice a1 c.sco.length k1, .slice a2 c.gra.length k2)) w wr) (fun i _ => c.gra.length - (intOf i).toNat)
          case atStart => exact ⟨0, Nat.zero_le _, rfl, HW.out⟩
          case round =>
            clear HW d3 d4 d5
            obtain ⟨k, hk, rfl, hi⟩ := hrel
            have HI := Lib.hid hi
            have d5 := hi.1.cell 5 rfl
            clear hi
            by_cases hkn : k < c.gra.length
            case pos =>
              have g1 : (k : Int) < (c.gra.length : Int) := by omega
              obtain ⟨g, cs, rfl, hb, hn, hg⟩ := (HI.out.2.2.2.1).pos (by omega)
              obtain ⟨u, hu⟩ : ∃ u, cs[k]? = some u := ⟨_, List.getElem?_eq_getElem (by omega)⟩
              have q1 := hb.cell k hu
              have q2 := hb.frozen k
              have q3 : wr.cell? ⟨g, 0 + k, none⟩ = some u := by rw [Nat.zero_add]; exact q1
              have q4 : wr.frozen? ⟨g, 0 + k, none⟩ = false := by rw [Nat.zero_add]; exact q2
              have hne : w.heap.size ≠ g := by omega
              have HNE := Lib.hid (And.intro hne hg)
              clear hb hn hg hu hne
              go_wp2_with fail
              go_roundw
              case rel =>
                exact ⟨k + 1, by omega, by go_num, HI.out.1.setOther _ _ HNE.out.1, HI.out.2.1.set _ _ _, HI.out.2.2.1.set _ _ _, HI.out.2.2.2.1.set _ _ _, HI.out.2.2.2.2.set _ _ (.inr (.inr rfl))⟩
              case measure => simp [intOf]; omega
            case neg =>
              have g1 : ¬ (k : Int) < (c.gra.length : Int) := by omega
              have HW : Hid (Blk wr w.heap.size 32 (c6 c (.slice a0 c.red.length k0, .slice a1 c.sco.length k1, .slice a2 c.gra.length k2)) ∧ Wr w.heap.size wr (.slice a0 c.red.length k0) c.red.length ∧ Wr w.heap.size wr (.slice a1 c.sco.length k1) c.sco.length ∧ Wr w.heap.size wr (.slice a2 c.gra.length k2) c.gra.length ∧ Out (lF (.slice a0 c.red.length k0, .slice a1 c.sco.length k1, .slice a2 c.gra.length k2)) w wr) := HI
              have d3 := HW.out.1.cell 3 rfl
              have d4 := HW.out.1.cell 4 rfl
              have d5 := HW.out.1.cell 5 rfl
              clear HI
              go_wp2_with fail
              refine bodyPost_end (results_none rfl _ _ _) rfl ?_
              exact ⟨rfl, HW.out.2.2.2.2⟩
end Go.Proofs.Ytonbpekogfaibaa.Ro
