/-
  Chapter 1's helpers of the statements: Apart, where the lists lie in blocks of their own (texts' bytes laid anew among them: such a block bears a mark behind its last cell).
-/
import Derived.Test.YthofbblgoamipaaGreatDoorT4
import Derived.Deep.QuietTactic
import Derived.BigQuiet
namespace Go.Proofs.YthofbblgoamipaaGreatDoor.Wa
open Go.RowKit Pt
set_option linter.unusedVariables false
set_option linter.unusedSimpArgs false

/-- block b holds these cells; none of them is frozen -/
def BlkF (W : World) (b : Nat) (t : TypeId) (cs : List Value) : Prop := ∃ fr : Nat × Nat, W.heap[b]? = some (.cells cs.toArray t fr) ∧ (fr = (0, 0) ∨ cs.length ≤ fr.1)
theorem BlkF.of {W : World} {b : Nat} {t : TypeId} {cs : List Value} (h : Blk W b t cs) : BlkF W b t cs := ⟨(0, 0), h, .inl rfl⟩
theorem BlkF.lt {W : World} {b : Nat} {t : TypeId} {cs : List Value} (h : BlkF W b t cs) : b < W.heap.size := by
  obtain ⟨fr, h, _⟩ := h
  exact (Array.getElem?_eq_some_iff.1 h).1
theorem BlkF.cell {W : World} {b : Nat} {t : TypeId} {cs : List Value} (h : BlkF W b t cs) (j : Nat) {v : Value} (hj : cs[j]? = some v) : W.cell? ⟨b, j, none⟩ = some v := by
  obtain ⟨fr, h, _⟩ := h
  rw [Lib.cell_of_heap h]; simpa using hj
theorem BlkF.frozen {W : World} {b : Nat} {t : TypeId} {cs : List Value} (h : BlkF W b t cs) (j : Nat) (hj : j < cs.length) : W.frozen? ⟨b, j, none⟩ = false := by
  obtain ⟨fr, h, hf⟩ := h
  simp only [World.frozen?, h]
  rcases hf with rfl | hf
  · simp
  · simp; omega
theorem BlkF.below {W W' : World} {B b : Nat} {t : TypeId} {cs : List Value} (h : BlkF W b t cs) (hb : Below B W W') (hlt : b < B) : BlkF W' b t cs := by
  obtain ⟨fr, h, hf⟩ := h
  exact ⟨fr, (hb.block b hlt).trans h, hf⟩
theorem BlkF.keep {W W' : World} {b : Nat} {t : TypeId} {cs : List Value} (h : BlkF W b t cs) (hb : W'.heap[b]? = W.heap[b]?) : BlkF W' b t cs := by
  obtain ⟨fr, h, hf⟩ := h
  exact ⟨fr, hb.trans h, hf⟩
theorem BlkF.set {W : World} {b : Nat} {t : TypeId} {cs : List Value} (h : BlkF W b t cs) (j : Nat) (v : Value) : BlkF (W.setCell ⟨b, j, none⟩ v) b t (cs.set j v) := by
  obtain ⟨fr, h, hf⟩ := h
  obtain ⟨hlt, hk⟩ := Array.getElem?_eq_some_iff.1 h
  refine ⟨fr, ?_, by rw [List.length_set]; exact hf⟩
  show (W.heap.modify b _)[b]? = _
  rw [Array.getElem?_eq_getElem (by rw [Array.size_modify]; exact hlt), Array.getElem_modify_self, hk]
  simp
/-- a slice of bytes that has its block for itself: cur is all that the block holds -/
def ApRow (W : World) (v : Value) (cur : List Value) : Prop := (v = .slice none 0 0 ∧ cur = []) ∨ ∃ g n, v = .slice (some ⟨g, 0, none⟩) n cur.length ∧ n ≤ cur.length ∧ BlkF W g 5 cur
theorem ApRow.of_cv {W : World} {B : Nat} {v : Value} {b : By} (h : Cv W B v b) : ∃ cur, ApRow W v cur ∧ cur.length ≤ maxLen := by
  obtain ⟨g, cap, cur, rfl, hB, hh, hn, hm, hs, ht⟩ := h
  have hl : cur.toList.length = cap := by rw [Array.length_toList, hs]
  refine ⟨cur.toList, .inr ⟨g, b.length, by rw [hl], by rw [hl]; exact hn, (cap, cap + 1), by simpa using hh, .inr (by rw [hl]; exact Nat.le_refl _)⟩, by rw [hl]; exact hm⟩
theorem ApRow.keep {W W' : World} {v : Value} {cur : List Value} (h : ApRow W v cur) (hb : ∀ g, v.ownBlock = some g → W'.heap[g]? = W.heap[g]?) : ApRow W' v cur := by
  rcases h with h | ⟨g, n, rfl, hn, hk⟩
  · exact .inl h
  · exact .inr ⟨g, n, rfl, hn, hk.keep (hb g rfl)⟩
/-- the first k are written over -/
def ApAll (W : World) (vs : List Value) (k : Nat) : Prop := ∀ (j : Nat) v, vs[j]? = some v → ∃ cur, ApRow W v cur ∧ cur.length ≤ maxLen ∧ (j < k → cur = List.replicate cur.length (.int .u8 ((j : Int) + 1)))
def ApApart (vs : List Value) : Prop := ∀ (i j : Nat) v u, i ≠ j → vs[i]? = some v → vs[j]? = some u → ∀ g, v.ownBlock = some g → u.ownBlock ≠ some g
theorem rep_set (k : Nat) (x : Value) (cur : List Value) (h : k < cur.length) : (List.replicate k x ++ cur.drop k).set k x = List.replicate (k + 1) x ++ cur.drop (k + 1) := by
  rw [List.set_append_right _ _ (by rw [List.length_replicate]; exact Nat.le_refl _), List.length_replicate, Nat.sub_self, List.drop_eq_getElem_cons h, List.set_cons_zero, List.replicate_succ', List.append_assoc]
  rfl
theorem rep_full (x : Value) (cur : List Value) (n : Nat) (h : cur.length ≤ n) (hn : n ≤ cur.length) : List.replicate n x ++ cur.drop n = List.replicate cur.length x := by
  rw [List.drop_eq_nil_of_le h, List.append_nil, show n = cur.length from by omega]
theorem rd_blt {W : World} {b o n c : Nat} {cs : List Value} (h : Rd W 1 (.slice (some ⟨b, o, none⟩) n c) n cs) (hn : 0 < n) : b < W.heap.size := by
  obtain ⟨b', o', c', e, hc, hcc⟩ := h.pos hn
  cases e
  have hl := h.1
  rw [Nat.mul_one] at hl
  have h0 := hcc 0 (cs[0]'(by omega)) (List.getElem?_eq_getElem (by omega))
  rcases Nat.lt_or_ge b W.heap.size with h' | h'
  · exact h'
  · simp [World.cell?, Array.getElem?_eq_none h'] at h0
theorem u8_conv (k : Nat) (h : k < 200) : IntKind.u8.wrap ((k : Int) + 1) = (k : Int) + 1 := by
  rw [IntKind.wrap_u8]; omega
theorem ApAll.next {W W' : World} {vs : List Value} {k : Nat} {v : Value} {cur : List Value} (h : ApAll W vs k) (hap : ApApart vs) (hv : vs[k]? = some v) (hr : ApRow W' v cur) (hc : cur.length ≤ maxLen) (hx : cur = List.replicate cur.length (.int .u8 ((k : Int) + 1)))
    (hb : ∀ g, v.ownBlock ≠ some g → g < W.heap.size → W'.heap[g]? = W.heap[g]?) : ApAll W' vs (k + 1) := by
  intro j u hj
  by_cases hjk : j = k
  · subst hjk
    rw [hv] at hj
    cases hj
    exact ⟨cur, hr, hc, fun _ => hx⟩
  · obtain ⟨c, h1, h2, h3⟩ := h j u hj
    refine ⟨c, h1.keep (fun g hg => hb g (hap j k u v hjk hj hv g hg) ?_), h2, fun h4 => h3 (by omega)⟩
    rcases h1 with ⟨rfl, _⟩ | ⟨g', n, rfl, _, hk⟩
    · cases hg
    · cases hg; exact hk.lt
/-- the lists' blocks -/
def apF (vs : List Value) (g : Nat) : Prop := ∃ v ∈ vs, v.ownBlock = some g
set_option maxRecDepth 20000 in
set_option maxHeartbeats 4000000 in
theorem apart_any (hb N : Nat) (vs : List Value) (w : World) (hN : vs.length = N) (hn200 : N < 200) (hrd : Rd w 1 (.slice (some ⟨hb, 0, none⟩) N N) N vs)
    (hall : ApAll w vs 0) (hap : ApApart vs) (hBg : ∀ v ∈ vs, ∀ g, v.ownBlock = some g → g ≠ hb) :
    Calls Tryz.prog 19 #[.slice (some ⟨hb, 0, none⟩) N N] w fun e w' => e = .returned (.bool true) ∧ Out (apF vs) w w' := by
  have hbl0 : Out (apF vs) w w := Out.refl _ _
  go_enter Tryz.func19, Tryz.ntmps19
  go_wp2_with fail
  go_loopw [3] (fun i wr => ∃ k : Nat, k ≤ N ∧ i = .int .i64 (k : Int) ∧ Rd wr 1 (.slice (some ⟨hb, 0, none⟩) N N) N vs ∧ ApAll wr vs k ∧ Out (apF vs) w wr) (fun i _ => N - (intOf i).toNat)
  case atStart => exact ⟨0, Nat.zero_le _, rfl, hrd, hall, hbl0⟩
  case round =>
    clear hrd hall hbl0
    obtain ⟨k, hk, rfl, hrd, hall, hbl⟩ := hrel
    by_cases hkn : k < N
    case neg =>
      have t1 : ¬ (k : Int) < (N : Int) := by omega
      obtain rfl : N = k := by omega
      clear hN
      generalize wr = W1 at *
      have HA := Lib.hid (And.intro hrd (And.intro hall hbl))
      clear hrd hall hbl
      go_wp2_with fail
      go_loopw [6] (fun i wr' => ∃ k2 : Nat, k2 ≤ N ∧ i = .int .i64 (k2 : Int) ∧ Below W1.heap.size W1 wr') (fun i _ => N - (intOf i).toNat)
      case atStart => exact ⟨0, Nat.zero_le _, rfl, Below.refl _ _⟩
      case round =>
        obtain ⟨k2, hk2, rfl, hb2⟩ := hrel
        have hrd := HA.out.1.below hb2
        have HX := Lib.hid (HA.out.2.2.trans (Out.of_below (apF vs) hb2) (fun _ _ h => h))
        have H2 := Lib.hid hb2
        clear hb2
        by_cases hkn2 : k2 < N
        case neg =>
          have t2 : ¬ (k2 : Int) < (N : Int) := by omega
          clear hrd
          go_wp2_with fail
          go_ret
          exact ⟨rfl, HX.out⟩
        case pos =>
          have t2 : (k2 : Int) < (N : Int) := by omega
          have t3 := u8_conv k2 (by omega)
          obtain ⟨v, hv⟩ : ∃ v, vs[k2]? = some v := ⟨_, List.getElem?_eq_getElem (by have := HA.out.1.1; omega)⟩
          obtain ⟨b0, o0, c0, e0, hc0, hcc⟩ := hrd.pos (by omega)
          cases e0
          have z1 := hcc k2 v hv
          rw [Nat.zero_add] at z1
          obtain ⟨cur, hrow, hcl, hrep⟩ := HA.out.2.1 k2 v hv
          replace hrep := hrep hkn2
          have hlen : cur.length ≤ 9223372036854775807 := by unfold maxLen at hcl; omega
          clear hrd hcc hc0
          have hrp := Lib.hid hrep
          generalize wr = W2 at *
          rcases hrow with ⟨rfl, hcur⟩ | ⟨g, n, rfl, hng, hblk⟩
          · clear hrp hrep hcur hcl hlen
            go_wp2_with fail
            go_quiet (fail)
            go_wp2_with fail
            go_loopw [8] (fun kk wr' => kk = .int .i64 0 ∧ Below W2.heap.size W2 wr') (fun _ _ => 0)
            case atStart => exact ⟨rfl, below_drewN (Below.refl _ _) _⟩
            case round =>
              obtain ⟨rfl, hb3⟩ := hrel
              have H3 := Lib.hid (H2.out.trans (hb3.mono H2.out.size))
              clear hb3
              go_wp2_with fail
              go_roundw
              case rel => exact ⟨k2 + 1, by omega, by go_num, H3.out⟩
              case measure => simp [intOf]; omega
          · have HBK := Lib.hid (hblk.below H2.out hblk.lt)
            clear hcl hblk hrep
            go_wp2_with fail
            go_quiet (fail)
            go_wp2_with fail
            go_loopw [8] (fun kk wr' => ∃ t : Nat, t ≤ cur.length ∧ kk = .int .i64 (t : Int) ∧ Below W2.heap.size W2 wr') (fun kk _ => cur.length - (intOf kk).toNat)
            case atStart => exact ⟨0, Nat.zero_le _, rfl, below_drewN (Below.refl _ _) _⟩
            case round =>
              obtain ⟨t, ht, rfl, hb3⟩ := hrel
              have hb4 := HBK.out.below hb3 HBK.out.lt
              have H3 := Lib.hid (And.intro hb3 (H2.out.trans (hb3.mono H2.out.size)))
              clear hb3
              by_cases htl : t < cur.length
              case neg =>
                have t4 : ¬ (t : Int) < (cur.length : Int) := by omega
                clear hb4
                go_wp2_with fail
                go_roundw
                case rel => exact ⟨k2 + 1, by omega, by go_num, H3.out.2⟩
                case measure => simp [intOf]; omega
              case pos =>
                have t4 : (t : Int) < (cur.length : Int) := by omega
                have y1 := hb4.cell t (v := .int .u8 ((k2 : Int) + 1)) (by rw [hrp.out, List.getElem?_replicate, if_pos htl])
                obtain ⟨CL, hCL⟩ : ∃ CL, CL = cur.length := ⟨_, rfl⟩
                rw [← hCL] at htl t4 ht hlen hng ⊢
                have HCL := Lib.hid hCL
                clear hb4 hCL
                go_wp2_with fail
                go_roundw
                case rel => exact ⟨t + 1, by omega, by go_num, H3.out.1⟩
                case measure => simp [intOf]; omega
    case pos =>
      have t1 : (k : Int) < (N : Int) := by omega
      obtain ⟨v, hv⟩ : ∃ v, vs[k]? = some v := ⟨_, List.getElem?_eq_getElem (by omega)⟩
      obtain ⟨b0, o0, c0, e0, hc0, hcc⟩ := hrd.pos (by omega)
      cases e0
      have z1 := hcc k v hv
      rw [Nat.zero_add] at z1
      obtain ⟨cur, hrow, hcl, _⟩ := hall k v hv
      have t2 := u8_conv k (by omega)
      generalize wr = W1 at *
      have H := Lib.hid (And.intro hrd (And.intro hall hbl))
      rcases hrow with ⟨rfl, hcur⟩ | ⟨g, n, rfl, hng, hblk⟩
      · clear hrd hall hbl hcc hc0
        clear hcl
        go_wp2_with fail
        go_quiet (fail)
        go_wp2_with fail
        go_loopw [5] (fun kk wr' => kk = .int .i64 0 ∧ Below W1.heap.size W1 wr') (fun _ _ => 0)
        case atStart => exact ⟨rfl, below_drewN (Below.refl _ _) _⟩
        case round =>
          obtain ⟨rfl, hb3⟩ := hrel
          have HR : Hid (Rd wr 1 (.slice (some ⟨hb, 0, none⟩) N N) N vs ∧ ApAll wr vs (k + 1) ∧ Out (apF vs) w wr) := Lib.hid ⟨H.out.1.below hb3, H.out.2.1.next hap hv (.inl ⟨rfl, hcur⟩) (by rw [hcur]; simp [maxLen]) (by rw [hcur]; rfl) (fun g _ hg => hb3.block g hg), H.out.2.2.trans (Out.of_below (apF vs) hb3) (fun _ _ h => h)⟩
          clear hb3
          go_wp2_with fail
          go_roundw
          case rel => exact ⟨k + 1, by omega, by go_num, HR.out⟩
          case measure => simp [intOf]; omega
      · have hgB := hBg _ (List.mem_of_getElem? hv) g rfl
        have hlen : cur.length ≤ 9223372036854775807 := by unfold maxLen at hcl; omega
        have HBK := Lib.hid (And.intro hblk hcl)
        clear hrd hall hbl hcc hc0 hcl hblk
        go_wp2_with fail
        go_quiet (fail)
        go_wp2_with fail
        go_loopw [5] (fun kk wr' => ∃ t : Nat, t ≤ cur.length ∧ kk = .int .i64 (t : Int) ∧ BlkF wr' g 5 (List.replicate t (.int .u8 ((k : Int) + 1)) ++ cur.drop t) ∧ Out (fun x => x = g) W1 wr') (fun kk _ => cur.length - (intOf kk).toNat)
        case atStart => exact ⟨0, Nat.zero_le _, rfl, by rw [List.replicate_zero, List.nil_append, List.drop_zero]; exact HBK.out.1, Out.of_below _ (below_drewN (Below.refl _ _) _)⟩
        case round =>
          obtain ⟨t, ht, rfl, hb3, ho3⟩ := hrel
          by_cases htl : t < cur.length
          case neg =>
            have t4 : ¬ (t : Int) < (cur.length : Int) := by omega
            have hte : List.replicate t (Value.int .u8 ((k : Int) + 1)) ++ cur.drop t = List.replicate cur.length (Value.int .u8 ((k : Int) + 1)) := rep_full _ _ _ (by omega) ht
            rw [hte] at hb3
            have HR : Hid (Rd wr 1 (.slice (some ⟨hb, 0, none⟩) N N) N vs ∧ ApAll wr vs (k + 1) ∧ Out (apF vs) w wr) := Lib.hid ⟨rd_keep H.out.1 (fun x hx => ho3.block x (by cases hx; exact rd_blt H.out.1 (by omega)) (fun e => by cases hx; exact hgB e.symm)),
              H.out.2.1.next hap hv (.inr ⟨g, n, by rw [List.length_replicate], by rw [List.length_replicate]; exact hng, hb3⟩) (by rw [List.length_replicate]; exact HBK.out.2) (by rw [List.length_replicate]) (fun x hx hxl => ho3.block x hxl (fun e => hx (by rw [e]; rfl))),
              H.out.2.2.trans ho3 (fun x _ hx => ⟨_, List.mem_of_getElem? hv, by rw [hx]; rfl⟩)⟩
            clear hb3 ho3
            go_wp2_with fail
            go_roundw
            case rel => exact ⟨k + 1, by omega, by go_num, HR.out⟩
            case measure => simp [intOf]; omega
          case pos =>
            have t4 : (t : Int) < (cur.length : Int) := by omega
            have hl2 : t < (List.replicate t (Value.int .u8 ((k : Int) + 1)) ++ cur.drop t).length := by rw [List.length_append, List.length_replicate, List.length_drop]; omega
            have hfz := hb3.frozen t hl2
            obtain ⟨u, hu⟩ : ∃ u, wr.cell? ⟨g, t, none⟩ = some u := ⟨_, hb3.cell t (List.getElem?_eq_getElem hl2)⟩
            have hset := hb3.set t (.int .u8 ((k : Int) + 1))
            rw [rep_set t _ cur htl] at hset
            have hos := ho3.set ⟨g, t, none⟩ (.int .u8 ((k : Int) + 1)) rfl
            have HR := Lib.hid (And.intro hset hos)
            obtain ⟨CL, hCL⟩ : ∃ CL, CL = cur.length := ⟨_, rfl⟩
            rw [← hCL] at htl t4 ht hlen hng ⊢
            have HCL := Lib.hid hCL
            clear hb3 ho3 hl2 hset hos hCL
            go_wp2_with fail
            go_roundw
            case rel => exact ⟨t + 1, by omega, by go_num, HR.out⟩
            case measure => simp [intOf]; omega
end Go.Proofs.YthofbblgoamipaaGreatDoor.Wa
