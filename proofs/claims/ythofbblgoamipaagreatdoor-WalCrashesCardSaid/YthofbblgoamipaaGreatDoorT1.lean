/-
  Chapter 1's helpers of the statements, in the log's seat: Same, Room, Kept (as in chapter 10's texts), Copy; chapter 12's reference: Lists, Allowed, Append, Sync.
-/
import Derived.Test.YthofbblgoamipaaGreatDoorVw
import Derived.Deep.OwnRows
import Derived.Laws.CopyOwn
import Derived.RegionTactic
import Derived.BigRegion
namespace Go.Proofs.YthofbblgoamipaaGreatDoor.Wa
open Go.RowKit Pt
set_option linter.unusedVariables false
set_option linter.unusedSimpArgs false

theorem bc_at {a : By} {k : Nat} {c : UInt8} (h : a[k]? = some c) : (Lib.byteCells a)[k]? = some (.int .u8 (c.toNat : Int)) := by
  unfold Lib.byteCells; rw [List.getElem?_map, h]; rfl
theorem take_eq_succ {a b : By} {k : Nat} {c : UInt8} (h : a.take k = b.take k) (ha : a[k]? = some c) (hb : b[k]? = some c) : a.take (k + 1) = b.take (k + 1) := by
  rw [List.take_add_one, List.take_add_one, h, ha, hb]
set_option maxRecDepth 20000 in
set_option maxHeartbeats 2000000 in
theorem same_any (a b : By) (va vb : Value) (w : World) (ha : Rd w 1 va a.length (Lib.byteCells a)) (hb : Rd w 1 vb b.length (Lib.byteCells b)) (hl : a.length ≤ 4611686018427387904) :
    Calls Tryz.prog 18 #[va, vb] w fun e w' => e = .returned (.bool (decide (a = b))) ∧ Below w.heap.size w w' := by
  obtain ⟨xa, ca, rfl⟩ := ha.slice
  obtain ⟨xb, cb, rfl⟩ := hb.slice
  have HAB := Lib.hid (And.intro ha hb)
  clear ha hb
  by_cases hlen : a.length = b.length
  case neg =>
    have t0 : ((a.length : Int) == (b.length : Int)) = false := by rw [beq_eq_false_iff_ne]; omega
    have t1 : ¬ (a.length : Int) = (b.length : Int) := by omega
    have hr : decide (a = b) = false := decide_eq_false (fun e => hlen (by rw [e]))
    rw [hr]
    clear hr hlen
    go_enter Tryz.func18, Tryz.ntmps18
    go_wp2
    go_ret
    exact ⟨rfl, Below.refl _ _⟩
  case pos =>
    obtain ⟨R, hR⟩ : ∃ R, R = decide (a = b) := ⟨_, rfl⟩
    rw [← hR]
    have HR := Lib.hid hR
    clear hR
    obtain ⟨n, hn⟩ : ∃ n, n = a.length := ⟨_, rfl⟩
    rw [← hlen]
    rw [← hn] at hl ⊢
    have HN := Lib.hid (And.intro hn hlen)
    clear hn hlen
    have hself := Below.refl w.heap.size w
    go_enter Tryz.func18, Tryz.ntmps18
    go_wp2_with fail
    go_loopw [5] (fun i wr => ∃ k : Nat, k ≤ n ∧ i = .int .i64 (k : Int) ∧ a.take k = b.take k ∧ Below w.heap.size w wr) (fun i _ => n - (intOf i).toNat)
    case atStart => exact ⟨0, Nat.zero_le _, rfl, rfl, hself⟩
    case round =>
      clear hself
      obtain ⟨k, hk, rfl, htk, hb⟩ := hrel
      by_cases hkn : k < n
      case neg =>
        have hk' : k = n := by omega
        subst hk'
        have HE : Hid (R = true) := Lib.hid (by
          rw [HR.out]
          refine decide_eq_true ?_
          have h1 := HN.out.1
          have h2 := HN.out.2
          rw [List.take_of_length_le (by omega), List.take_of_length_le (by omega)] at htk
          exact htk)
        clear htk
        go_wp2_with fail
        go_ret
        exact ⟨by rw [HE.out]; rfl, hb⟩
      case pos =>
      obtain ⟨x, hx⟩ : ∃ x, a[k]? = some x := ⟨_, List.getElem?_eq_getElem (by have := HN.out.1; omega)⟩
      obtain ⟨y, hy⟩ : ∃ y, b[k]? = some y := ⟨_, List.getElem?_eq_getElem (by have h1 := HN.out.1; have h2 := HN.out.2; omega)⟩
      have hla : 0 < a.length := by have := HN.out.1; omega
      have hlb : 0 < b.length := by have := HN.out.2; omega
      obtain ⟨b1, o1, cap1, e1, hcap1, hc1⟩ := (HAB.out.1.below hb).pos hla
      obtain ⟨b2, o2, cap2, e2, hcap2, hc2⟩ := (HAB.out.2.below hb).pos hlb
      cases e1
      cases e2
      have q1 := hc1 _ _ (bc_at hx)
      have q2 := hc2 _ _ (bc_at hy)
      have g1 : (k : Int) < (n : Int) := by omega
      have g2 : k < n := hkn
      have HX := Lib.hid (And.intro hx (And.intro hy htk))
      have HB := Lib.hid hb
      obtain ⟨cx, hcx⟩ : ∃ cx : Int, cx = (x.toNat : Int) := ⟨_, rfl⟩
      obtain ⟨cy, hcy⟩ : ∃ cy : Int, cy = (y.toNat : Int) := ⟨_, rfl⟩
      rw [← hcx] at q1
      rw [← hcy] at q2
      have HCC := Lib.hid (And.intro hcx hcy)
      clear hx hy hc1 hc2 hla hlb hb htk hcx hcy hcap1 hcap2
      by_cases hxy : cx = cy
      case pos =>
        rw [← hxy] at q2 HCC
        clear hxy
        have HNX : Hid (a.take (k + 1) = b.take (k + 1)) := Lib.hid (by
          have e : x = y := by have h1 := HCC.out.1; have h2 := HCC.out.2; exact UInt8.toNat_inj.1 (by omega)
          exact take_eq_succ HX.out.2.2 HX.out.1 (by rw [e]; exact HX.out.2.1))
        go_wp2_with fail
        refine wp_region_U (S := (fun W => W.cell? ⟨b1, o1 + k, none⟩ = some (.int .u8 cx) ∧ W.cell? ⟨b2, o2 + k, none⟩ = some (.int .u8 cx) ∧ Below wr.heap.size wr W)) (by kernel_rfl) ?_ ?_
        · exact ⟨q1, q2, (Below.refl _ _).drew⟩
        refine wpU_take (i := 0) (oi := ?oi1) (v := ?v1) ?hi1 (by kernel_rfl) (by kernel_rfl) (by kernel_rfl) ?hy1 ?rest1
        case hi1 => (simp only [List.getElem?_toArray, List.getElem?_cons_succ, List.getElem?_cons_zero]; rfl)
        case hy1 => (refine Or.inl ⟨by rfl, ?_⟩; intro W hSw; (try dsimp only at hSw); go_simp; (try with_reducible rfl))
        try simp only [Act.put, List.setIfInBounds_toArray, List.set_cons_zero, List.set_cons_succ]
        refine wpU_take (i := 1) (oi := ?oi2) (v := ?v2) ?hi2 (by kernel_rfl) (by kernel_rfl) (by kernel_rfl) ?hy2 ?rest2
        case hi2 => (simp only [List.getElem?_toArray, List.getElem?_cons_succ, List.getElem?_cons_zero]; rfl)
        case hy2 => (refine Or.inl ⟨by rfl, ?_⟩; intro W hSw; (try dsimp only at hSw); go_simp; (try with_reducible rfl))
        try simp only [Act.put, List.setIfInBounds_toArray, List.set_cons_zero, List.set_cons_succ]
        refine wpU_take (i := 2) (oi := ?oi3) (v := ?v3) ?hi3 (by kernel_rfl) (by kernel_rfl) (by kernel_rfl) ?hy3 ?rest3
        case hi3 => (simp only [List.getElem?_toArray, List.getElem?_cons_succ, List.getElem?_cons_zero]; rfl)
        case hy3 => (refine Or.inl ⟨by rfl, ?_⟩; intro W hSw; (try dsimp only at hSw); go_simp; (try with_reducible rfl))
        try simp only [Act.put, List.setIfInBounds_toArray, List.set_cons_zero, List.set_cons_succ]
        refine wpU_take (i := 3) (oi := ?oi4) (v := ?v4) ?hi4 (by kernel_rfl) (by kernel_rfl) (by kernel_rfl) ?hy4 ?rest4
        case hi4 => (simp only [List.getElem?_toArray, List.getElem?_cons_succ, List.getElem?_cons_zero]; rfl)
        case hy4 => (refine Or.inl ⟨by rfl, ?_⟩; intro W hSw; (try dsimp only at hSw); go_simp; (try with_reducible rfl))
        try simp only [Act.put, List.setIfInBounds_toArray, List.set_cons_zero, List.set_cons_succ]
        refine wpU_take (i := 4) (oi := ?oi5) (v := ?v5) ?hi5 (by kernel_rfl) (by kernel_rfl) (by kernel_rfl) ?hy5 ?rest5
        case hi5 => (simp only [List.getElem?_toArray, List.getElem?_cons_succ, List.getElem?_cons_zero]; rfl)
        case hy5 => (refine Or.inl ⟨by rfl, ?_⟩; intro W hSw; (try dsimp only at hSw); go_simp; (try with_reducible rfl))
        try simp only [Act.put, List.setIfInBounds_toArray, List.set_cons_zero, List.set_cons_succ]
        refine wpU_take (i := 5) (oi := ?oi6) (v := ?v6) ?hi6 (by kernel_rfl) (by kernel_rfl) (by kernel_rfl) ?hy6 ?rest6
        case hi6 => (simp only [List.getElem?_toArray, List.getElem?_cons_succ, List.getElem?_cons_zero]; rfl)
        case hy6 => (refine Or.inl ⟨by rfl, ?_⟩; intro W hSw; (try dsimp only at hSw); go_simp; (try with_reducible rfl))
        try simp only [Act.put, List.setIfInBounds_toArray, List.set_cons_zero, List.set_cons_succ]
        refine wpU_take (i := 6) (oi := ?oi7) (v := ?v7) ?hi7 (by kernel_rfl) (by kernel_rfl) (by kernel_rfl) ?hy7 ?rest7
        case hi7 => (simp only [List.getElem?_toArray, List.getElem?_cons_succ, List.getElem?_cons_zero]; rfl)
        case hy7 => (refine Or.inl ⟨by rfl, ?_⟩; intro W hSw; (try dsimp only at hSw); go_simp; (try with_reducible rfl))
        try simp only [Act.put, List.setIfInBounds_toArray, List.set_cons_zero, List.set_cons_succ]
        refine wpU_take (i := 7) (oi := ?oi8) (v := ?v8) ?hi8 (by kernel_rfl) (by kernel_rfl) (by kernel_rfl) ?hy8 ?rest8
        case hi8 => (simp only [List.getElem?_toArray, List.getElem?_cons_succ, List.getElem?_cons_zero]; rfl)
        case hy8 => (refine Or.inl ⟨by rfl, ?_⟩; intro W hSw; (try dsimp only at hSw); go_simp; (try with_reducible rfl))
        try simp only [Act.put, List.setIfInBounds_toArray, List.set_cons_zero, List.set_cons_succ]
        refine wpU_take (i := 8) (oi := ?oi9) (v := ?v9) ?hi9 (by kernel_rfl) (by kernel_rfl) (by kernel_rfl) ?hy9 ?rest9
        case hi9 => (simp only [List.getElem?_toArray, List.getElem?_cons_succ, List.getElem?_cons_zero]; rfl)
        case hy9 => (refine Or.inl ⟨by rfl, ?_⟩; intro W hSw; (try dsimp only at hSw); go_simp; (try with_reducible rfl))
        try simp only [Act.put, List.setIfInBounds_toArray, List.set_cons_zero, List.set_cons_succ]
        refine wpU_done (by kernel_rfl) ?_ _
        intro W hSw
        go_wp2_with fail
        go_roundw
        case rel => exact ⟨k + 1, by omega, by go_num, HNX.out, HB.out.trans ((hSw.2.2).mono HB.out.size)⟩
        case measure => simp [intOf]; omega
      case neg =>
        have HNX : Hid (R = false) := Lib.hid (by
          rw [HR.out]
          refine decide_eq_false (fun e => hxy ?_)
          have h1 := HX.out.1
          rw [e, HX.out.2.1] at h1
          rw [HCC.out.1, HCC.out.2]
          cases h1; rfl)
        have t0 : (cx == cy) = false := by rw [beq_eq_false_iff_ne]; exact hxy
        go_wp2_with fail
        refine wp_region_U (S := (fun W => W.cell? ⟨b1, o1 + k, none⟩ = some (.int .u8 cx) ∧ W.cell? ⟨b2, o2 + k, none⟩ = some (.int .u8 cy) ∧ Below wr.heap.size wr W)) (by kernel_rfl) ?_ ?_
        · exact ⟨q1, q2, (Below.refl _ _).drew⟩
        refine wpU_take (i := 0) (oi := ?oi10) (v := ?v10) ?hi10 (by kernel_rfl) (by kernel_rfl) (by kernel_rfl) ?hy10 ?rest10
        case hi10 => (simp only [List.getElem?_toArray, List.getElem?_cons_succ, List.getElem?_cons_zero]; rfl)
        case hy10 => (refine Or.inl ⟨by rfl, ?_⟩; intro W hSw; (try dsimp only at hSw); go_simp; (try with_reducible rfl))
        try simp only [Act.put, List.setIfInBounds_toArray, List.set_cons_zero, List.set_cons_succ]
        refine wpU_take (i := 1) (oi := ?oi11) (v := ?v11) ?hi11 (by kernel_rfl) (by kernel_rfl) (by kernel_rfl) ?hy11 ?rest11
        case hi11 => (simp only [List.getElem?_toArray, List.getElem?_cons_succ, List.getElem?_cons_zero]; rfl)
        case hy11 => (refine Or.inl ⟨by rfl, ?_⟩; intro W hSw; (try dsimp only at hSw); go_simp; (try with_reducible rfl))
        try simp only [Act.put, List.setIfInBounds_toArray, List.set_cons_zero, List.set_cons_succ]
        refine wpU_take (i := 2) (oi := ?oi12) (v := ?v12) ?hi12 (by kernel_rfl) (by kernel_rfl) (by kernel_rfl) ?hy12 ?rest12
        case hi12 => (simp only [List.getElem?_toArray, List.getElem?_cons_succ, List.getElem?_cons_zero]; rfl)
        case hy12 => (refine Or.inl ⟨by rfl, ?_⟩; intro W hSw; (try dsimp only at hSw); go_simp; (try with_reducible rfl))
        try simp only [Act.put, List.setIfInBounds_toArray, List.set_cons_zero, List.set_cons_succ]
        refine wpU_take (i := 3) (oi := ?oi13) (v := ?v13) ?hi13 (by kernel_rfl) (by kernel_rfl) (by kernel_rfl) ?hy13 ?rest13
        case hi13 => (simp only [List.getElem?_toArray, List.getElem?_cons_succ, List.getElem?_cons_zero]; rfl)
        case hy13 => (refine Or.inl ⟨by rfl, ?_⟩; intro W hSw; (try dsimp only at hSw); go_simp; (try with_reducible rfl))
        try simp only [Act.put, List.setIfInBounds_toArray, List.set_cons_zero, List.set_cons_succ]
        refine wpU_take (i := 4) (oi := ?oi14) (v := ?v14) ?hi14 (by kernel_rfl) (by kernel_rfl) (by kernel_rfl) ?hy14 ?rest14
        case hi14 => (simp only [List.getElem?_toArray, List.getElem?_cons_succ, List.getElem?_cons_zero]; rfl)
        case hy14 => (refine Or.inl ⟨by rfl, ?_⟩; intro W hSw; (try dsimp only at hSw); go_simp; (try with_reducible rfl))
        try simp only [Act.put, List.setIfInBounds_toArray, List.set_cons_zero, List.set_cons_succ]
        refine wpU_take (i := 5) (oi := ?oi15) (v := ?v15) ?hi15 (by kernel_rfl) (by kernel_rfl) (by kernel_rfl) ?hy15 ?rest15
        case hi15 => (simp only [List.getElem?_toArray, List.getElem?_cons_succ, List.getElem?_cons_zero]; rfl)
        case hy15 => (refine Or.inl ⟨by rfl, ?_⟩; intro W hSw; (try dsimp only at hSw); go_simp; (try with_reducible rfl))
        try simp only [Act.put, List.setIfInBounds_toArray, List.set_cons_zero, List.set_cons_succ]
        refine wpU_take (i := 6) (oi := ?oi16) (v := ?v16) ?hi16 (by kernel_rfl) (by kernel_rfl) (by kernel_rfl) ?hy16 ?rest16
        case hi16 => (simp only [List.getElem?_toArray, List.getElem?_cons_succ, List.getElem?_cons_zero]; rfl)
        case hy16 => (refine Or.inl ⟨by rfl, ?_⟩; intro W hSw; (try dsimp only at hSw); go_simp; (try with_reducible rfl))
        try simp only [Act.put, List.setIfInBounds_toArray, List.set_cons_zero, List.set_cons_succ]
        refine wpU_take (i := 7) (oi := ?oi17) (v := ?v17) ?hi17 (by kernel_rfl) (by kernel_rfl) (by kernel_rfl) ?hy17 ?rest17
        case hi17 => (simp only [List.getElem?_toArray, List.getElem?_cons_succ, List.getElem?_cons_zero]; rfl)
        case hy17 => (refine Or.inl ⟨by rfl, ?_⟩; intro W hSw; (try dsimp only at hSw); go_simp; (try with_reducible rfl))
        try simp only [Act.put, List.setIfInBounds_toArray, List.set_cons_zero, List.set_cons_succ]
        refine wpU_take (i := 8) (oi := ?oi18) (v := ?v18) ?hi18 (by kernel_rfl) (by kernel_rfl) (by kernel_rfl) ?hy18 ?rest18
        case hi18 => (simp only [List.getElem?_toArray, List.getElem?_cons_succ, List.getElem?_cons_zero]; rfl)
        case hy18 => (refine Or.inl ⟨by rfl, ?_⟩; intro W hSw; (try dsimp only at hSw); go_simp; (try with_reducible rfl))
        try simp only [Act.put, List.setIfInBounds_toArray, List.set_cons_zero, List.set_cons_succ]
        refine wpU_done (by kernel_rfl) ?_ _
        intro W hSw
        go_wp2_with fail
        go_ret
        exact ⟨by rw [HNX.out]; rfl, HB.out.trans ((hSw.2.2).mono HB.out.size)⟩
theorem made_list (z : Value) (n : Nat) : madeCells #[z] n = (List.replicate n z).toArray := by
  apply Array.ext
  · simp [size_madeCells]
  · intro i h1 h2
    simp [madeCells, Nat.mod_one]
theorem u8_info : (Tryz.prog.info? 5).map (fun i => (i.zero, i.size, i.bytes)) = some (some (.int .u8 0), 1, 1) := by kernel_rfl
theorem make_bytes (n : Nat) (h : n ≤ 140737488355328) (w : World) :
    (Instr.makeSlice 32 (.int .i64 (n : Int)) (.int .i64 (n : Int))).run Tryz.prog w = .ok (.slice (some ⟨w.heap.size, 0, none⟩) n n) (w.alloc (.cells (List.replicate n (.int .u8 0)).toArray 5)) := by
  have := run_make_row' (P := Tryz.prog) 32 5 (.int .u8 0) 1 Tryz.underlying32 u8_info rfl .i64 .i64 n (by omega) (by omega) w
  rw [made_list] at this
  exact this
def splice (cur : List Value) (off : Nat) (cs : List Value) : List Value := cur.take off ++ (cs ++ cur.drop (off + cs.length))
/-- the copy, and all that it leaves alone -/
theorem wpList_copy_grow {P : Program} {w : World} {ops : Array Oper} {rest : List Oper} {o : Oper} {a : Act} {Q : Exit → Act → World → Prop} (hgd : o.guard = none) (d s : Operand) (dT sT : TypeId)
    (ho : o.op = .call { callee := .builtin .copy, args := #[d, s], argTypes := #[dT, sT] }) (elem : TypeId) (hu : P.underlying dT = some (.slice elem)) (hsz : (P.info? elem).map (·.size) = some 1)
    (g off dLen dCap : Nat) (ad : Addr) (sLen sCap : Nat) (hd : a.eval d = .slice (some ⟨g, off, none⟩) dLen dCap) (hs : a.eval s = .slice (some ad) sLen sCap)
    (cur : List Value) (t : TypeId) (hg : Blk w g t cur) (cs : List Value) (hn : cs.length = Nat.min sLen dLen)
    (hsrc : ∀ j v, cs[j]? = some v → w.cell? (ad.add j) = some v) (hfit : off + cs.length ≤ cur.length) (h1 : ∀ v ∈ cs, v.oneCell' = true)
    (h : ∀ w', Blk w' g t (splice cur off cs) → w.grownBy w' (some g) → wpList P ops Q rest (a.put o.dst (goInt cs.length)) w') : wpList P ops Q (o :: rest) a w := by
  refine wpList_copy_own hgd d s dT sT ho elem hu hsz g off dLen dCap ad sLen sCap hd hs cur.toArray t hg cs hn hsrc (by simpa using hfit) h1 ?_
  refine h _ ?_ ?_
  · show _ = _
    have := setRow_heap w g _ (splice cur off cs).toArray t _ hg
    simpa [splice] using this
  · exact ⟨rfl, rfl, rfl, by simp [World.setRow], fun k hk hne => setRow_other w g k _ (fun e => hne (by rw [e]))⟩
/-- the copy, whatever its length -/
theorem wpList_copy_any {P : Program} {w : World} {ops : Array Oper} {rest : List Oper} {o : Oper} {a : Act} {Q : Exit → Act → World → Prop} (hgd : o.guard = none) (d s : Operand) (dT sT : TypeId)
    (ho : o.op = .call { callee := .builtin .copy, args := #[d, s], argTypes := #[dT, sT] }) (elem : TypeId) (hu : P.underlying dT = some (.slice elem)) (hsz : (P.info? elem).map (·.size) = some 1)
    (g off dLen dCap sLen : Nat) (hd : a.eval d = .slice (some ⟨g, off, none⟩) dLen dCap) (v : Value) (hs : a.eval s = v) (xs : By) (hx : Rd w 1 v sLen (Lib.byteCells xs))
    (cur : List Value) (t : TypeId) (hg : Blk w g t cur) (hfit : off + Nat.min sLen dLen ≤ cur.length)
    (h : ∀ w', Blk w' g t (splice cur off (Lib.byteCells (xs.take dLen))) → w.grownBy w' (some g) → wpList P ops Q rest (a.put o.dst (.int .i64 ((Nat.min sLen dLen : Nat) : Int))) w') : wpList P ops Q (o :: rest) a w := by
  have hxl : xs.length = sLen := by have := hx.1; rw [bc_length] at this; omega
  have hml : Nat.min sLen dLen = min sLen dLen := rfl
  have hcl : (Lib.byteCells (xs.take dLen)).length = Nat.min sLen dLen := by rw [bc_length, List.length_take, hxl, Nat.min_comm]
  rcases hx.2 with ⟨⟨sa, sc, rfl⟩, rfl⟩ | ⟨b', o', c', rfl, hc, hcells⟩
  · refine wpList_copy_nothing hgd d s dT sT ho elem hu hsz _ _ dLen dCap 0 sc hd hs (Nat.zero_min _) ?_
    have hz : xs = [] := List.eq_nil_of_length_eq_zero hxl
    subst hz
    refine h w ?_ (World.grownBy.refl _ _)
    have : splice cur off (Lib.byteCells (([] : By).take dLen)) = cur := by simp [splice, Lib.byteCells]
    rw [this]; exact hg
  · refine wpList_copy_grow hgd d s dT sT ho elem hu hsz g off dLen dCap ⟨b', o', none⟩ sLen c' hd hs cur t hg (Lib.byteCells (xs.take dLen)) hcl (fun j u hj => ?_) (by rw [hcl]; exact hfit) (byte_one _) (fun w' h1 h2 => ?_)
    · rw [Addr.add_lit]
      refine hcells j u ?_
      have hj2 := (List.getElem?_eq_some_iff.1 hj).1
      rw [hcl] at hj2
      have hj3 : j < dLen := Nat.lt_of_lt_of_le hj2 (Nat.min_le_right _ _)
      unfold Lib.byteCells at hj ⊢
      rw [List.getElem?_map, List.getElem?_take_of_lt hj3] at hj
      rw [List.getElem?_map]; exact hj
    · have := h w' h1 h2
      unfold goInt; rw [hcl]; exact this
theorem splice_room (b : By) : splice (List.replicate (b.length + 3) (Value.int .u8 0)) 0 (Lib.byteCells (b.take (b.length + 3))) = Lib.byteCells (b ++ [0, 0, 0]) := by
  rw [List.take_of_length_le (by omega)]
  unfold splice
  rw [bc_append, bc_length, List.take_zero, List.nil_append, Nat.zero_add, List.drop_replicate]
  have : b.length + 3 - b.length = 3 := by omega
  rw [this]
  rfl
set_option maxRecDepth 20000 in
set_option maxHeartbeats 4000000 in
/-- a copy with three bytes 77 of room behind it -/
theorem room_any (v : Value) (b : By) (w : World) (h : Rd w 1 v b.length (Lib.byteCells b)) (hl : b.length ≤ 140737488355000) :
    Calls Tryz.prog 16 #[v] w fun e w' => e = .returned (.slice (some ⟨w.heap.size, 0, none⟩) b.length (b.length + 3)) ∧ Blk w' w.heap.size 5 (Lib.byteCells (b ++ [77, 77, 77])) ∧ Below w.heap.size w w' := by
  obtain ⟨a0, c0, hv⟩ := h.slice
  subst hv
  have HB := Lib.hid h
  have e1 : IntKind.i64.wrap ((b.length : Int) + 3) = (b.length : Int) + 3 := IntWalk.i64_in _ (by omega)
  have hmk := make_bytes (b.length + 3) (by omega) w
  have hcast : ((b.length + 3 : Nat) : Int) = (b.length : Int) + 3 := by omega
  rw [hcast] at hmk
  have hblk := Blk.new w 5 (List.replicate (b.length + 3) (.int .u8 0))
  have hbm : Below w.heap.size w (w.alloc (.cells (List.replicate (b.length + 3) (.int .u8 0)).toArray 5)) := (Below.refl _ _).alloc (Nat.le_refl _) _
  generalize (w.alloc (.cells (List.replicate (b.length + 3) (.int .u8 0)).toArray 5)) = wm at *
  have hrm := HB.out.below hbm
  have HM := Lib.hid (And.intro hblk (And.intro hbm hrm))
  clear h hcast hblk hbm hrm
  go_enter Tryz.func16, Tryz.ntmps16
  go_wp2_with (with_reducible refine wpList_copy_any rfl (.tmp 9) (.tmp 10) 32 32 rfl 5 Tryz.underlying32 (by kernel_rfl) w.heap.size 0 (b.length + 3) (b.length + 3) b.length rfl (.slice a0 b.length c0) rfl b HM.out.2.2 _ 5 HM.out.1 (by rw [List.length_replicate, Nat.zero_add]; exact Nat.min_le_right _ _) ?_; intro w1 hb1 hg1)
  rw [splice_room] at hb1
  have hbl1 : Below w.heap.size w w1 := HM.out.2.1.grown hg1 HM.out.2.1.size (fun k e => by cases e; exact Nat.le_refl _)
  have HB1 := Lib.hid hbl1
  have hk0 : Blk w1 w.heap.size 5 (Lib.byteCells (b ++ ([77, 77, 77] : By).take 0 ++ ([0, 0, 0] : By).drop 0)) := by simpa using hb1
  clear hb1 hg1 hbl1 HM hmk
  go_wp2_with fail
  go_loopw [4] (fun i wr => ∃ k : Nat, k ≤ 3 ∧ i = .int .i64 ((b.length + k : Nat) : Int) ∧ Blk wr w.heap.size 5 (Lib.byteCells (b ++ ([77, 77, 77] : By).take k ++ ([0, 0, 0] : By).drop k)) ∧ Below w.heap.size w wr) (fun i _ => b.length + 3 - (intOf i).toNat)
  case atStart => exact ⟨0, by omega, by simp, hk0, HB1.out⟩
  case round =>
    clear hk0 HB1
    obtain ⟨k, hk, rfl, hbk, hbl⟩ := hrel
    obtain ⟨M, hM⟩ : ∃ M, M = b.length + k := ⟨_, rfl⟩
    rw [← hM]
    have HB2 := Lib.hid (And.intro hbk hbl)
    by_cases h3 : k < 3
    case neg =>
      have t1 : ¬ (M : Int) < (b.length : Int) + 3 := by omega
      have t2 : ¬ (M < b.length + 3) := by omega
      have hk3 : k = 3 := by omega
      have HX : Hid (Blk wr w.heap.size 5 (Lib.byteCells (b ++ [77, 77, 77])) ∧ Below w.heap.size w wr) := Lib.hid (by subst hk3; exact ⟨by simpa using hbk, hbl⟩)
      have t3 : (b.length : Int) ≤ (b.length : Int) + 3 := by omega
      clear hbk hbl HB2 hM
      go_wp2_with fail
      go_ret
      exact ⟨rfl, HX.out⟩
    case pos =>
      have t1 : (M : Int) < (b.length : Int) + 3 := by omega
      have t2 : M < b.length + 3 := by omega
      have hfz := hbk.frozen (0 + M)
      have hfz2 := hbk.frozen M
      have hcl : ∃ u, wr.cell? ⟨w.heap.size, M, none⟩ = some u := by
        refine ⟨_, hbk.cell M (v := (Lib.byteCells (b ++ ([77, 77, 77] : By).take k ++ ([0, 0, 0] : By).drop k))[M]'?_) ?_⟩
        · rw [bc_length, List.length_append, List.length_append, List.length_take, List.length_drop]; simp; omega
        · rw [List.getElem?_eq_getElem]
      obtain ⟨u, hu⟩ := hcl
      have hset := hbk.set M (.int .u8 77)
      have hbs : Below w.heap.size w (wr.setCell ⟨w.heap.size, M, none⟩ (.int .u8 77)) := hbl.setCell (Nat.le_refl _) _
      have he : (Lib.byteCells (b ++ ([77, 77, 77] : By).take k ++ ([0, 0, 0] : By).drop k)).set M (.int .u8 77) = Lib.byteCells (b ++ ([77, 77, 77] : By).take (k + 1) ++ ([0, 0, 0] : By).drop (k + 1)) := by
        rw [hM, List.append_assoc, List.append_assoc, bc_append, bc_append, List.set_append_right _ _ (by rw [bc_length]; omega), bc_length]
        rw [show b.length + k - b.length = k from by omega]
        match k, h3 with
        | 0, _ => rw [bc_append b]; rfl
        | 1, _ => rw [bc_append b]; rfl
        | 2, _ => rw [bc_append b]; rfl
      rw [he] at hset
      have HR := Lib.hid (And.intro hset hbs)
      have HMM := Lib.hid hM
      clear hset hbs he hbk hbl hM HB2
      go_wp2_with fail
      go_roundw
      case rel => exact ⟨k + 1, by omega, by have := HMM.out; go_num, HR.out⟩
      case measure => simp [intOf]; omega
theorem room_rd {W : World} {g : Nat} {b : By} (h : Blk W g 5 (Lib.byteCells (b ++ [77, 77, 77]))) : Rd W 1 (.slice (some ⟨g, 0, none⟩) b.length (b.length + 3)) b.length (Lib.byteCells b) :=
  ⟨by rw [bc_length, Nat.mul_one], .inr ⟨g, 0, b.length + 3, rfl, by omega, fun j u hj => by
    rw [Nat.zero_add]
    refine h.cell j ?_
    rw [bc_append]
    exact (List.getElem?_append_left (List.getElem?_eq_some_iff.1 hj).1).trans hj⟩⟩
set_option maxRecDepth 20000 in
set_option maxHeartbeats 4000000 in
theorem kept_any (g : Nat) (bv : Value) (b : By) (w : World) (hg : Blk w g 5 (Lib.byteCells (b ++ [77, 77, 77]))) (h : Rd w 1 bv b.length (Lib.byteCells b)) (hl : b.length ≤ 140737488355000) :
    Calls Tryz.prog 17 #[.slice (some ⟨g, 0, none⟩) b.length (b.length + 3), bv] w fun e w' => e = .returned (.bool true) ∧ Below w.heap.size w w' := by
  obtain ⟨ba, bc, hv⟩ := h.slice
  subst hv
  have HS := same_any b b _ _ w (room_rd hg) h (by omega)
  rw [decide_eq_true (rfl : b = b)] at HS
  have HG := Lib.hid hg
  obtain ⟨n, hn⟩ : ∃ n, n = b.length := ⟨_, rfl⟩
  have HN := Lib.hid hn
  have e1 : IntKind.i64.wrap ((n : Int) + 3) = (n : Int) + 3 := IntWalk.i64_in _ (by omega)
  have e2 : IntKind.i64.wrap ((n : Int) + 1) = (n : Int) + 1 := IntWalk.i64_in _ (by omega)
  have e3 : IntKind.i64.wrap ((n : Int) + 2) = (n : Int) + 2 := IntWalk.i64_in _ (by omega)
  have hnl : n ≤ 140737488355000 := by omega
  have HC : Hid (∀ W, Below w.heap.size w W → W.cell? ⟨g, n, none⟩ = some (.int .u8 77) ∧ W.cell? ⟨g, n + 1, none⟩ = some (.int .u8 77) ∧ W.cell? ⟨g, n + 2, none⟩ = some (.int .u8 77)) := Lib.hid (fun W hW => by
    have h1 := hg.below hW hg.lt
    have e : ∀ j, (Lib.byteCells (b ++ [77, 77, 77]))[b.length + j]? = (Lib.byteCells [77, 77, 77])[j]? := fun j => by
      rw [bc_append, List.getElem?_append_right (by rw [bc_length]; omega), bc_length]
      congr 1; omega
    rw [hn]
    exact ⟨h1.cell b.length (by have := e 0; rw [Nat.add_zero] at this; rw [this]; rfl), h1.cell _ (by rw [e 1]; rfl), h1.cell _ (by rw [e 2]; rfl)⟩)
  rw [← hn] at HS ⊢
  clear h hg hl hn
  go_enter Tryz.func17, Tryz.ntmps17
  go_wp2_with fail
  refine HS.mono ?_
  rintro e w1 ⟨rfl, hb1⟩
  obtain ⟨z0, z1, z2⟩ := HC.out w1 hb1
  have HB1 := Lib.hid hb1
  clear HS hb1
  go_wp2_with fail
  go_ret
  exact ⟨rfl, HB1.out⟩
set_option maxRecDepth 100000
set_option maxHeartbeats 4000000 in
/-- bytes of their own -/
theorem copy_any (b : By) (v : Value) (w : World) (h : Rd w 1 v b.length (Lib.byteCells b)) (hl : b.length ≤ 140737488355000) :
    Calls Tryz.prog 24 #[v] w fun e w' => e = .returned (.slice (some ⟨w.heap.size, 0, none⟩) b.length b.length) ∧ Rd w' 1 (.slice (some ⟨w.heap.size, 0, none⟩) b.length b.length) b.length (Lib.byteCells b) ∧ Below w.heap.size w w' := by
  obtain ⟨a0, c0, hv⟩ := h.slice
  subst hv
  have HB := Lib.hid h
  have hmk := make_bytes b.length (by omega) w
  have hblk := Blk.new w 5 (List.replicate b.length (.int .u8 0))
  have hbm : Below w.heap.size w (w.alloc (.cells (List.replicate b.length (.int .u8 0)).toArray 5)) := (Below.refl _ _).alloc (Nat.le_refl _) _
  generalize (w.alloc (.cells (List.replicate b.length (.int .u8 0)).toArray 5)) = wm at *
  have hrm := HB.out.below hbm
  have HM := Lib.hid (And.intro hblk (And.intro hbm hrm))
  obtain ⟨N, hN⟩ : ∃ N, N = b.length := ⟨_, rfl⟩
  rw [← hN] at hmk HM ⊢
  have HN := Lib.hid hN
  clear h hblk hbm hrm hN
  go_enter Tryz.func24, Tryz.ntmps24
  go_wp2_with (with_reducible refine wpList_copy_any rfl (.tmp 7) (.tmp 8) 32 32 rfl 5 Tryz.underlying32 (by kernel_rfl) w.heap.size 0 N N N rfl (.slice a0 N c0) rfl b HM.out.2.2 _ 5 HM.out.1 (by rw [List.length_replicate, Nat.zero_add]; exact Nat.min_le_right _ _) ?_; intro w1 hb1 hg1)
  have hsp : splice (List.replicate N (Value.int .u8 0)) 0 (Lib.byteCells (b.take N)) = Lib.byteCells b := by
    rw [HN.out, List.take_length]
    unfold splice
    rw [bc_length, List.take_zero, List.nil_append, Nat.zero_add, List.drop_replicate, Nat.sub_self, List.replicate_zero, List.append_nil]
  rw [hsp] at hb1
  have HE : Hid (Rd w1 1 (.slice (some ⟨w.heap.size, 0, none⟩) N N) N (Lib.byteCells b) ∧ Below w.heap.size w w1) := Lib.hid (by
    refine ⟨⟨by rw [bc_length, HN.out, Nat.mul_one], .inr ⟨w.heap.size, 0, N, rfl, Nat.le_refl _, fun j u hj => ?_⟩⟩, HM.out.2.1.grown hg1 HM.out.2.1.size (fun k e => by cases e; exact Nat.le_refl _)⟩
    rw [Nat.zero_add]; exact hb1.cell j hj)
  clear hb1 hg1 HM hmk hsp
  go_wp2_with fail
  go_ret
  exact ⟨rfl, HE.out⟩
/-- slice v reads as these lists of bytes; all of it lies in blocks of Z -/
def RdB (Z : Nat → Prop) (W : World) (v : Value) (L : List By) : Prop :=
  ∃ vs : List Value, Rd W 1 v L.length vs ∧ (∀ (t : Nat) u b, vs[t]? = some u → L[t]? = some b → Rd W 1 u b.length (Lib.byteCells b)) ∧ (∀ b ∈ L, b.length ≤ 140737488355000) ∧
    (0 < L.length → ∀ k, v.ownBlock = some k → Z k) ∧ ∀ (t : Nat) u b, vs[t]? = some u → L[t]? = some b → 0 < b.length → ∀ k, u.ownBlock = some k → Z k
theorem RdB.below {Z : Nat → Prop} {W W' : World} {v : Value} {L : List By} (h : RdB Z W v L) (hb : Below W.heap.size W W') : RdB Z W' v L := by
  obtain ⟨vs, h1, h2, h3⟩ := h
  exact ⟨vs, h1.below hb, fun t u b hu hL => (h2 t u b hu hL).below hb, h3⟩
theorem RdB.keep {Z : Nat → Prop} {W W' : World} {v : Value} {L : List By} (h : RdB Z W v L) (hb : ∀ k, Z k → W'.heap[k]? = W.heap[k]?) : RdB Z W' v L := by
  obtain ⟨vs, h1, h2, h3, h4, h5⟩ := h
  exact ⟨vs, rd_keep0 h1 fun h0 k hk => hb k (h4 h0 k hk), fun t u b hu hL => rd_keep0 (h2 t u b hu hL) fun h0 k hk => hb k (h5 t u b hu hL h0 k hk), h3, h4, h5⟩
theorem RdB.mono {Z Y : Nat → Prop} {W : World} {v : Value} {L : List By} (h : RdB Z W v L) (hs : ∀ k, Z k → Y k) : RdB Y W v L := by
  obtain ⟨vs, h1, h2, h3, h4, h5⟩ := h
  exact ⟨vs, h1, h2, h3, fun h0 k hk => hs k (h4 h0 k hk), fun t u b hu hL h0 k hk => hs k (h5 t u b hu hL h0 k hk)⟩
theorem RdB.nil (Z : Nat → Prop) (W : World) (a : Option Addr) (c : Nat) : RdB Z W (.slice a 0 c) [] := ⟨[], ⟨rfl, .inl ⟨⟨_, _, rfl⟩, rfl⟩⟩, fun t u b h => (by simp at h), fun b h => (by cases h), fun h => absurd h (by simp), fun t u b h => (by simp at h)⟩
theorem RdB.slice {Z : Nat → Prop} {W : World} {v : Value} {L : List By} (h : RdB Z W v L) : ∃ a cap, v = .slice a L.length cap := by
  obtain ⟨vs, h1, _⟩ := h; exact h1.slice
/-- the first so many -/
theorem RdB.front {Z : Nat → Prop} {W : World} {a : Option Addr} {n cap : Nat} {L : List By} (h : RdB Z W (.slice a n cap) L) (k : Nat) (hk : k ≤ L.length) (hn : n = L.length) : RdB Z W (.slice a k cap) (L.take k) := by
  obtain ⟨vs, h1, h2, h3, h5, h6⟩ := h
  subst hn
  have h4 := h1.front k hk
  rw [Nat.mul_one] at h4
  have hlen : (L.take k).length = k := by rw [List.length_take]; omega
  have key : ∀ (t : Nat) u b, (vs.take k)[t]? = some u → (L.take k)[t]? = some b → vs[t]? = some u ∧ L[t]? = some b := fun t u b hu hL => by
    rw [List.getElem?_take] at hu hL
    split at hu
    · rename_i ht
      rw [if_pos ht] at hL
      exact ⟨hu, hL⟩
    · cases hu
  refine ⟨vs.take k, by rw [hlen]; exact h4, fun t u b hu hL => h2 t u b (key t u b hu hL).1 (key t u b hu hL).2, fun b hb => h3 b (List.mem_of_mem_take hb), fun h0 j hj => h5 (by omega) j ?_, fun t u b hu hL => h6 t u b (key t u b hu hL).1 (key t u b hu hL).2⟩
  cases a with
  | none => cases hj
  | some a => exact hj
theorem Hd.rdB {Yc : Nat → Prop} {W : World} {B : Nat} {rv : Value} {vs : List Value} {R : List By} {bv : Value} {base : Option By} (h : Hd Yc W B rv vs R bv base) (hl : ∀ b ∈ R, b.length ≤ 140737488355000) : RdB (fun k => Yc k ∧ B ≤ k) W rv R :=
  ⟨vs, Rd.of_own h.row, fun t u b hu hR => (h.el t u b hu hR).rd, hl, fun _ k hk => ⟨h.yr k hk, (h.row.lt k hk).1⟩, fun t u b hu hR _ k hk => ⟨(h.yv u (List.mem_cons_of_mem _ (List.mem_of_getElem? hu)) k hk).1, ((h.el t u b hu hR).lt k hk).1⟩⟩
set_option maxHeartbeats 4000000 in
/-- the same lists? -/
theorem lists_any (A B : List By) (va vb : Value) (w : World) {Z Z' : Nat → Prop} (ha : RdB Z w va A) (hb : RdB Z' w vb B) (hl : A.length ≤ 4611686018427387904) :
    Calls Tryz.prog 27 #[va, vb] w fun e w' => e = .returned (.bool (decide (A = B))) ∧ Below w.heap.size w w' := by
  obtain ⟨xa, ca, rfl⟩ := ha.slice
  obtain ⟨xb, cb, rfl⟩ := hb.slice
  have HAB := Lib.hid (And.intro ha hb)
  obtain ⟨n, hn⟩ : ∃ n, n = A.length := ⟨_, rfl⟩
  obtain ⟨m, hm⟩ : ∃ m, m = B.length := ⟨_, rfl⟩
  rw [← hn, ← hm] at HAB ⊢
  have HL := Lib.hid (And.intro hn (And.intro hm hl))
  have hn9 : n ≤ 4611686018427387904 := by omega
  clear ha hb hl hn hm
  by_cases hnm : n = m
  case neg =>
    have HD : Hid (decide (A = B) = false) := Lib.hid (by rw [decide_eq_false_iff_not]; intro e; have h1 := HL.out.1; have h2 := HL.out.2.1; rw [e] at h1; omega)
    have t1 : ((n : Int) == (m : Int)) = false := by rw [beq_eq_false_iff_ne]; omega
    have t2 : ((n : Int) != (m : Int)) = true := by rw [bne_iff_ne]; omega
    have t3 : ¬ (n : Int) = (m : Int) := by omega
    rw [HD.out]
    clear hnm
    go_enter Tryz.func27, Tryz.ntmps27
    go_wp2_with fail
    go_ret
    exact ⟨rfl, Below.refl _ _⟩
  case pos =>
    subst hnm
    go_enter Tryz.func27, Tryz.ntmps27
    go_wp2_with fail
    go_loopw [5] (fun i wr => ∃ k : Nat, k ≤ n ∧ i = .int .i64 (k : Int) ∧ A.take k = B.take k ∧ Below w.heap.size w wr) (fun i _ => n - (intOf i).toNat)
    case atStart => exact ⟨0, Nat.zero_le _, rfl, by rw [List.take_zero, List.take_zero], Below.refl _ _⟩
    case round =>
      obtain ⟨k, hk, rfl, htk, hbl⟩ := hrel
      have HT := Lib.hid htk
      have HB := Lib.hid hbl
      clear htk hbl
      by_cases hkn : k < n
      case neg =>
        obtain rfl : k = n := by omega
        have t1 : ¬ (k : Int) < (k : Int) := by omega
        have HD : Hid (decide (A = B) = true) := Lib.hid (by
          rw [decide_eq_true_iff]
          have h := HT.out
          rwa [List.take_of_length_le (by rw [← HL.out.1]; exact Nat.le_refl _), List.take_of_length_le (by rw [← HL.out.2.1]; exact Nat.le_refl _)] at h)
        go_wp2_with fail
        go_ret
        exact ⟨by rw [HD.out]; rfl, HB.out⟩
      case pos =>
        have t1 : (k : Int) < (n : Int) := by omega
        obtain ⟨x, hx⟩ : ∃ x, A[k]? = some x := ⟨_, List.getElem?_eq_getElem (by rw [← HL.out.1]; exact hkn)⟩
        obtain ⟨y, hy⟩ : ∃ y, B[k]? = some y := ⟨_, List.getElem?_eq_getElem (by rw [← HL.out.2.1]; exact hkn)⟩
        obtain ⟨⟨vs, h1, h2, h3, _⟩, ⟨us, g1, g2, g3, _⟩⟩ := And.intro (HAB.out.1.below HB.out) (HAB.out.2.below HB.out)
        rw [← HL.out.1] at h1
        rw [← HL.out.2.1] at g1
        have lv : vs.length = n := by have := h1.1; omega
        have lu : us.length = n := by have := g1.1; omega
        obtain ⟨v1, hv1⟩ : ∃ v1, vs[k]? = some v1 := ⟨_, List.getElem?_eq_getElem (by omega)⟩
        obtain ⟨u1, hu1⟩ : ∃ u1, us[k]? = some u1 := ⟨_, List.getElem?_eq_getElem (by omega)⟩
        obtain ⟨ab, ao, ac, ea, hac, hca⟩ := h1.pos (by omega)
        obtain ⟨bb, bo, bc, eb, hbc, hcb⟩ := g1.pos (by omega)
        cases ea
        cases eb
        have z1 := hca k v1 hv1
        have z2 := hcb k u1 hu1
        have la : ab < wr.heap.size := World.block_lt_of_cell? wr _ z1
        have lb : bb < wr.heap.size := World.block_lt_of_cell? wr _ z2
        have HZ : Hid (∀ W, Below wr.heap.size wr W → W.cell? ⟨ab, ao + k, none⟩ = some v1 ∧ W.cell? ⟨bb, bo + k, none⟩ = some u1) := Lib.hid (fun W hb => ⟨by rw [hb.cell la]; exact z1, by rw [hb.cell lb]; exact z2⟩)
        have HSM : Hid (∀ W, Below wr.heap.size wr W → Calls Tryz.prog 18 #[v1, u1] W fun e w' => e = .returned (.bool (decide (x = y))) ∧ Below wr.heap.size wr w') := Lib.hid (fun W hb => by
          refine (same_any x y v1 u1 W ((h2 k v1 x hv1 hx).below hb) ((g2 k u1 y hu1 hy).below hb) (by have := h3 x (List.mem_of_getElem? hx); omega)).mono ?_
          rintro e w' ⟨rfl, h⟩
          exact ⟨rfl, hb.trans (h.mono hb.size)⟩)
        have HXY := Lib.hid (And.intro hx hy)
        obtain ⟨r, hr⟩ : ∃ r, r = decide (x = y) := ⟨_, rfl⟩
        rw [← hr] at HSM
        have HR := Lib.hid hr
        clear h1 h2 h3 g1 g2 g3 lv lu hv1 hu1 hca hcb z1 z2 la lb hx hy hr
        go_wp2_with fail
        refine wp_region_U (S := (fun W => Below wr.heap.size wr W)) (by kernel_rfl) ?_ ?_
        · exact (Below.refl _ _).drew
        refine wpU_take (i := 0) (oi := ?oi1) (v := ?v1) ?hi1 (by kernel_rfl) (by kernel_rfl) (by kernel_rfl) ?hy1 ?rest1
        case hi1 => (simp only [List.getElem?_toArray, List.getElem?_cons_succ, List.getElem?_cons_zero]; rfl)
        case hy1 => (refine Or.inl ⟨by rfl, ?_⟩; intro W hSw; obtain ⟨z1, z2⟩ := HZ.out W hSw; go_simp; (try with_reducible rfl))
        try simp only [Act.put, List.setIfInBounds_toArray, List.set_cons_zero, List.set_cons_succ]
        refine wpU_take (i := 1) (oi := ?oi2) (v := ?v2) ?hi2 (by kernel_rfl) (by kernel_rfl) (by kernel_rfl) ?hy2 ?rest2
        case hi2 => (simp only [List.getElem?_toArray, List.getElem?_cons_succ, List.getElem?_cons_zero]; rfl)
        case hy2 => (refine Or.inl ⟨by rfl, ?_⟩; intro W hSw; obtain ⟨z1, z2⟩ := HZ.out W hSw; go_simp; (try with_reducible rfl))
        try simp only [Act.put, List.setIfInBounds_toArray, List.set_cons_zero, List.set_cons_succ]
        refine wpU_take (i := 2) (oi := ?oi3) (v := ?v3) ?hi3 (by kernel_rfl) (by kernel_rfl) (by kernel_rfl) ?hy3 ?rest3
        case hi3 => (simp only [List.getElem?_toArray, List.getElem?_cons_succ, List.getElem?_cons_zero]; rfl)
        case hy3 => (refine Or.inl ⟨by rfl, ?_⟩; intro W hSw; obtain ⟨z1, z2⟩ := HZ.out W hSw; go_simp; (try with_reducible rfl))
        try simp only [Act.put, List.setIfInBounds_toArray, List.set_cons_zero, List.set_cons_succ]
        refine wpU_take (i := 3) (oi := ?oi4) (v := ?v4) ?hi4 (by kernel_rfl) (by kernel_rfl) (by kernel_rfl) ?hy4 ?rest4
        case hi4 => (simp only [List.getElem?_toArray, List.getElem?_cons_succ, List.getElem?_cons_zero]; rfl)
        case hy4 => (refine Or.inl ⟨by rfl, ?_⟩; intro W hSw; obtain ⟨z1, z2⟩ := HZ.out W hSw; go_simp; (try with_reducible rfl))
        try simp only [Act.put, List.setIfInBounds_toArray, List.set_cons_zero, List.set_cons_succ]
        refine wpU_take (i := 4) (oi := ?oi5) (v := ?v5) ?hi5 (by kernel_rfl) (by kernel_rfl) (by kernel_rfl) ?hy5 ?rest5
        case hi5 => (simp only [List.getElem?_toArray, List.getElem?_cons_succ, List.getElem?_cons_zero]; rfl)
        case hy5 => (refine Or.inl ⟨by rfl, ?_⟩; intro W hSw; obtain ⟨z1, z2⟩ := HZ.out W hSw; go_simp; (try with_reducible rfl))
        try simp only [Act.put, List.setIfInBounds_toArray, List.set_cons_zero, List.set_cons_succ]
        refine wpU_take (i := 5) (oi := ?oi6) (v := ?v6) ?hi6 (by kernel_rfl) (by kernel_rfl) (by kernel_rfl) ?hy6 ?rest6
        case hi6 => (simp only [List.getElem?_toArray, List.getElem?_cons_succ, List.getElem?_cons_zero]; rfl)
        case hy6 => (refine Or.inl ⟨by rfl, ?_⟩; intro W hSw; obtain ⟨z1, z2⟩ := HZ.out W hSw; go_simp; (try with_reducible rfl))
        try simp only [Act.put, List.setIfInBounds_toArray, List.set_cons_zero, List.set_cons_succ]
        refine wpU_take (i := 6) (oi := ?oi7) (v := ?v7) ?hi7 (by kernel_rfl) (by kernel_rfl) (by kernel_rfl) ?hy7 ?rest7
        case hi7 => (simp only [List.getElem?_toArray, List.getElem?_cons_succ, List.getElem?_cons_zero]; rfl)
        case hy7 => (refine Or.inl ⟨by rfl, ?_⟩; intro W hSw; obtain ⟨z1, z2⟩ := HZ.out W hSw; go_simp; (try with_reducible rfl))
        try simp only [Act.put, List.setIfInBounds_toArray, List.set_cons_zero, List.set_cons_succ]
        refine wpU_take (i := 7) (oi := ?oi8) (v := ?v8) ?hi8 (by kernel_rfl) (by kernel_rfl) (by kernel_rfl) ?hy8 ?rest8
        case hi8 => (simp only [List.getElem?_toArray, List.getElem?_cons_succ, List.getElem?_cons_zero]; rfl)
        case hy8 => (refine Or.inl ⟨by rfl, ?_⟩; intro W hSw; obtain ⟨z1, z2⟩ := HZ.out W hSw; go_simp; (try with_reducible rfl))
        try simp only [Act.put, List.setIfInBounds_toArray, List.set_cons_zero, List.set_cons_succ]
        refine wpU_take (i := 8) (oi := ?oi9) (v := .bool r) ?hi9 (by kernel_rfl) (by kernel_rfl) (by kernel_rfl) ?hy9 ?rest9
        case hi9 => (simp only [List.getElem?_toArray, List.getElem?_cons_succ, List.getElem?_cons_zero]; rfl)
        case hy9 =>
          refine Or.inr (Or.inr (Or.inl ⟨by rfl, 18, #[v1, u1], fun W hSw => (by go_simp), fun W hSw => ?_⟩))
          exact HSM.out W hSw
        try simp only [Act.put, List.setIfInBounds_toArray, List.set_cons_zero, List.set_cons_succ]
        refine wpU_take (i := 9) (oi := ?oi10) (v := ?v10) ?hi10 (by kernel_rfl) (by kernel_rfl) (by kernel_rfl) ?hy10 ?rest10
        case hi10 => (simp only [List.getElem?_toArray, List.getElem?_cons_succ, List.getElem?_cons_zero]; rfl)
        case hy10 => (refine Or.inl ⟨by rfl, ?_⟩; intro W hSw; obtain ⟨z1, z2⟩ := HZ.out W hSw; go_simp; (try with_reducible rfl))
        try simp only [Act.put, List.setIfInBounds_toArray, List.set_cons_zero, List.set_cons_succ]
        refine wpU_done (by kernel_rfl) ?_ _
        intro W hSw
        have HBW := Lib.hid (HB.out.trans (hSw.mono HB.out.size))
        clear hSw
        cases r with
        | false =>
          have HD : Hid (decide (A = B) = false) := Lib.hid (by
            rw [decide_eq_false_iff_not]
            intro e
            have h1 := HXY.out
            rw [e, h1.2] at h1
            have h2 := h1.1
            cases h2
            have := HR.out
            simp at this)
          go_wp2_with fail
          go_ret
          exact ⟨by rw [HD.out]; rfl, HBW.out⟩
        | true =>
          have HD : Hid (A.take (k + 1) = B.take (k + 1)) := Lib.hid (by
            have e : x = y := by have := HR.out; exact of_decide_eq_true this.symm
            have h1 := HXY.out
            rw [List.take_add_one, List.take_add_one, HT.out, h1.1, h1.2, e])
          go_wp2_with fail
          go_roundw
          case rel => exact ⟨k + 1, by omega, by go_num, HD.out, HBW.out⟩
          case measure => simp [intOf]; omega
end Go.Proofs.YthofbblgoamipaaGreatDoor.Wa
