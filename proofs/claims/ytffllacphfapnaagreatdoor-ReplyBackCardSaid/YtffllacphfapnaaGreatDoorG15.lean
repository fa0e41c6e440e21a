/-
  Chapter 3: the digest of parts (the program's). Condition: all bytes together are fewer than 2^59.
-/
import Derived.Test.YtffllacphfapnaaGreatDoorG14
namespace Go.Proofs.YtffllacphfapnaaGreatDoor
open Go.RowKit Sh

set_option maxRecDepth 20000 in
set_option maxHeartbeats 2000000 in
theorem begun_any (w : World) : Calls Tryz.prog 116 #[] w fun e w' => e = .returned (shV [] (List.replicate 64 0)) ∧ Below w.heap.size w w' := by
  have hz : ((((((((Tryz.zeroCells168.setIfInBounds 0 (.int .u32 1779033703)).setIfInBounds 1 (.int .u32 3144134277)).setIfInBounds 2 (.int .u32 1013904242)).setIfInBounds 3 (.int .u32 2773480762)).setIfInBounds 4 (.int .u32 1359893119)).setIfInBounds 5 (.int .u32 2600822924)).setIfInBounds 6 (.int .u32 528734635)).setIfInBounds 7 (.int .u32 1541459225)) = (stCells [] (List.replicate 64 0)).toArray := by kernel_rfl
  have hB : Blk (w.alloc (.cells Tryz.zeroCells168 168)) w.heap.size 168 Tryz.zeroCells168.toList := heap_alloc_new w _
  have hlen : Tryz.zeroCells168.toList.length = (stCells [] (List.replicate 64 0)).length := by kernel_rfl
  have hsz : (Tryz.prog.info? 168).map (·.size) = some (stCells [] (List.replicate 64 0)).length := by kernel_rfl
  have hsz2 : (Tryz.prog.info? 168).map (·.size) = some (stCells [] (List.replicate 64 0)).toArray.size := by kernel_rfl
  have hone : ∀ u ∈ stCells [] (List.replicate 64 0), u.oneCell' = true := by
    intro u hu
    have : (stCells [] (List.replicate 64 0)).all (·.oneCell') = true := by kernel_rfl
    exact List.all_eq_true.1 this u hu
  have hb0 : Below w.heap.size w (w.alloc (.cells Tryz.zeroCells168 168)) := (Below.refl _ _).alloc (Nat.le_refl _) _
  have HH := Lib.hid (And.intro hz (And.intro hlen (And.intro hsz (And.intro hsz2 hone))))
  have HBB := Lib.hid hB
  clear hz hlen hsz hsz2 hone hB
  unfold shV
  generalize stCells [] (List.replicate 64 0) = cs at HH ⊢
  go_enter Tryz.func116, Tryz.ntmps116
  go_wp2_with (refine wpList_store_blk rfl 168 (.tmp 0) (.tmp 2) rfl w.heap.size cs rfl (congrArg Value.agg HH.out.1) 168 _ HBB.out HH.out.2.2.1 HH.out.2.1 HH.out.2.2.2.2 ?_)
  intro wC hxC hgC
  have hbC : Below w.heap.size w wC := hb0.grown hgC (by simp) (fun k e => by cases e; omega)
  clear hgC hb0
  go_wp2_with fail
  try simp only [Exit.inBlock, Exit.then]
  refine bodyPost_ret (results_cell_row rfl _ _ w.heap.size 168 cs.toArray (0, 0) _ rfl hxC Tryz.underlying168 rfl HH.out.2.2.2.1) rfl ?_
  exact ⟨rfl, hbC⟩
set_option maxRecDepth 20000 in
set_option maxHeartbeats 2000000 in
theorem write_nil (sb : Nat) (m : By) (a : Option Addr) (c : Nat) (w : World) (hs : SS w sb m) :
    Calls Tryz.prog 117 #[.pointer (some ⟨sb, 0, none⟩), .slice a 0 c] w fun e w' => e = .returned (.tuple #[]) ∧ SS w' sb m ∧ w.grownBy w' (some sb) := by
  have hb0 : Below w.heap.size w (w.alloc (.cells (ks.map uw).toArray 212)) := (Below.refl _ _).alloc (Nat.le_refl _) _
  have hs0 := hs.below hb0
  have hg0 : w.grownBy (w.alloc (.cells (ks.map uw).toArray 212)) (some sb) := ⟨hb0.os, hb0.tape, hb0.output, hb0.size, fun k hk _ => hb0.block k hk⟩
  clear hb0 hs
  go_enter Tryz.func117, Tryz.ntmps117
  go_wp2_with fail
  refine (constants_any _).mono ?_
  rintro e w1 ⟨rfl, rfl⟩
  generalize w.alloc (.cells (ks.map uw).toArray 212) = w1 at hs0 hg0 ⊢
  go_wp2_with fail
  go_loopw [1] (fun v wr => v = .slice a 0 c ∧ wr = w1) (fun v _ => slLen v)
  case atStart => exact ⟨rfl, rfl⟩
  case round =>
    obtain ⟨rfl, rfl⟩ := hrel
    go_wp2_with fail
    try simp only [Exit.inBlock, Exit.then]
    go_end0
    exact ⟨rfl, hs0, hg0⟩
theorem write_val (sb : Nat) (m b : By) (v : Value) (w : World) (hs : SS w sb m) (hb : Rd w 1 v b.length (Lib.byteCells b)) (hne : ∀ bb o n c, v = .slice (some ⟨bb, o, none⟩) n c → b ≠ [] → bb ≠ sb) (hlen : m.length + b.length ≤ 1152921504606846976) :
    Calls Tryz.prog 117 #[.pointer (some ⟨sb, 0, none⟩), v] w fun e w' => e = .returned (.tuple #[]) ∧ SS w' sb (m ++ b) ∧ w.grownBy w' (some sb) := by
  by_cases h0 : b = []
  · subst h0
    obtain ⟨a, c, rfl⟩ := hb.slice
    rw [List.append_nil]
    exact write_nil sb m a c w hs
  · obtain ⟨bb, off, cap, rfl, hc, _⟩ := hb.pos (by have := List.length_pos_iff.2 h0; omega)
    exact write_any sb bb off cap m b w hs hb hc (hne _ _ _ _ rfl h0) hlen

/-- a slice of slices of bytes -/
def RdP (W : World) (v : Value) (ps : List By) : Prop := ∃ vs : List Value, Rd W 1 v ps.length vs ∧ ∀ (i : Nat) (x : Value) (b : By), vs[i]? = some x → ps[i]? = some b → Rd W 1 x b.length (Lib.byteCells b)
theorem RdP.below {W W' : World} {v : Value} {ps : List By} (h : RdP W v ps) (hb : Below W.heap.size W W') : RdP W' v ps := by
  obtain ⟨vs, h1, h2⟩ := h
  exact ⟨vs, h1.below hb, fun i x b hx hp => (h2 i x b hx hp).below hb⟩
theorem rd_lt {W : World} {n : Nat} {v : Value} {b : By} (h : Rd W 1 v n (Lib.byteCells b)) : ∀ bb o k c, v = .slice (some ⟨bb, o, none⟩) k c → b ≠ [] → bb < W.heap.size := by
  intro bb o k c hv hne
  rcases h.2 with ⟨_, h0⟩ | ⟨b', o', c', e, _, hc⟩
  · have := h.1; rw [bc_length, h0] at this; exact absurd (List.eq_nil_of_length_eq_zero (by omega)) hne
  · rw [hv] at e; cases e
    have hp := List.length_pos_iff.2 hne
    exact World.block_lt_of_cell? W _ (hc 0 (.int .u8 ((b.getD 0 0).toNat : Int)) (by simp [Lib.byteCells, List.getD, hp]))
theorem flat_take (ps : List By) (k : Nat) (h : k < ps.length) : (ps.take (k + 1)).flatten = (ps.take k).flatten ++ ps[k] := by
  rw [List.take_succ_eq_append_getElem h, List.flatten_append]; simp
theorem flat_lenH (ps : List By) (k : Nat) (h : k < ps.length) : (ps.take k).flatten.length + ps[k].length ≤ ps.flatten.length := by
  have e : ps.flatten = (ps.take (k + 1)).flatten ++ (ps.drop (k + 1)).flatten := by rw [← List.flatten_append, List.take_append_drop]
  rw [e, List.length_append, flat_take ps k h, List.length_append]; omega

set_option maxRecDepth 20000 in
set_option maxHeartbeats 4000000 in
theorem all_any (v : Value) (ps : List By) (w : World) (h : RdP w v ps) (hn : ps.length ≤ 1000000) (hlen : ps.flatten.length ≤ 576460752303423488) :
    Calls Tryz.prog 91 #[v] w fun e w' => e = .returned (.agg (Lib.byteCells (sha ps.flatten)).toArray) ∧ Below w.heap.size w w' := by
  have hsl : ∃ a c, v = .slice a ps.length c := by obtain ⟨vs, h1, _⟩ := h; exact h1.slice
  obtain ⟨a, c, rfl⟩ := hsl
  have HR := Lib.hid h
  have hr0 : Blk (w.alloc (.cells #[.int .u8 0, .int .u8 0, .int .u8 0, .int .u8 0, .int .u8 0, .int .u8 0, .int .u8 0, .int .u8 0, .int .u8 0, .int .u8 0, .int .u8 0, .int .u8 0, .int .u8 0, .int .u8 0, .int .u8 0, .int .u8 0, .int .u8 0, .int .u8 0, .int .u8 0, .int .u8 0, .int .u8 0, .int .u8 0, .int .u8 0, .int .u8 0, .int .u8 0, .int .u8 0, .int .u8 0, .int .u8 0, .int .u8 0, .int .u8 0, .int .u8 0, .int .u8 0] 117)) w.heap.size 117 (List.replicate 32 (.int .u8 0)) := Blk.new w _ _
  have hb0 : Below w.heap.size w (w.alloc (.cells #[.int .u8 0, .int .u8 0, .int .u8 0, .int .u8 0, .int .u8 0, .int .u8 0, .int .u8 0, .int .u8 0, .int .u8 0, .int .u8 0, .int .u8 0, .int .u8 0, .int .u8 0, .int .u8 0, .int .u8 0, .int .u8 0, .int .u8 0, .int .u8 0, .int .u8 0, .int .u8 0, .int .u8 0, .int .u8 0, .int .u8 0, .int .u8 0, .int .u8 0, .int .u8 0, .int .u8 0, .int .u8 0, .int .u8 0, .int .u8 0, .int .u8 0, .int .u8 0] 117)) := (Below.refl _ _).alloc (Nat.le_refl _) _
  have hst : (Tryz.prog.info? 168).map (·.size) = some (stCells [] (List.replicate 64 0)).length := by kernel_rfl
  have hlz : Tryz.zeroCells168.toList.length = (stCells [] (List.replicate 64 0)).length := by kernel_rfl
  have hone : ∀ u ∈ stCells [] (List.replicate 64 0), u.oneCell' = true := by
    intro u hu
    have : (stCells [] (List.replicate 64 0)).all (·.oneCell') = true := by kernel_rfl
    exact List.all_eq_true.1 this u hu
  have HH := Lib.hid (And.intro hst (And.intro hlz hone))
  clear h hst hlz hone
  go_enter Tryz.func91, Tryz.ntmps91
  go_wp2_with fail
  refine (begun_any _).mono ?_
  rintro e w1 ⟨rfl, hc1⟩
  have hb1 := hb0.trans (hc1.mono hb0.size)
  have hr1 := hr0.below hc1 hr0.lt
  have hz1 : Blk (w1.alloc (.cells Tryz.zeroCells168 168)) w1.heap.size 168 Tryz.zeroCells168.toList := heap_alloc_new w1 _
  clear hc1 hb0 hr0
  unfold shV
  go_wp2_with (refine wpList_store_blk rfl 168 (.tmp 3) (.tmp 6) rfl w1.heap.size (stCells [] (List.replicate 64 0)) rfl rfl 168 _ hz1 HH.out.1 HH.out.2.1 HH.out.2.2 ?_)
  intro w2 hx2 hg2
  have hr2 := (hr1.alloc (.cells Tryz.zeroCells168 168)).grown hg2 (fun r hr e => by cases hr; have := hr1.lt; omega)
  have hb2 : Below w.heap.size w w2 := (hb1.alloc hb1.size _).grown hg2 (Nat.le_trans hb1.size (by simp)) (fun k e => by cases e; exact hb1.size)
  have hs2 : SS w2 w1.heap.size [] := ⟨_, SR.start, hx2⟩
  have hlt1 : w.heap.size < w1.heap.size := Nat.lt_of_lt_of_le hr1.lt (Nat.le_refl _)
  clear hr1 hz1 hx2 hg2 hb1
  generalize w1.heap.size = sb at hs2 hlt1 ⊢
  clear HH
  go_wp2_with fail
  go_loopw [9] (fun i wr => ∃ k : Nat, k ≤ ps.length ∧ i = .int .i64 k ∧ SS wr sb (ps.take k).flatten ∧ Blk wr w.heap.size 117 (List.replicate 32 (.int .u8 0)) ∧ Below w.heap.size w wr) (fun i _ => ps.length - (intOf i).toNat)
  case atStart => exact ⟨0, by omega, rfl, hs2, hr2, hb2⟩
  case round =>
    clear hs2 hr2 hb2
    obtain ⟨k, hk, rfl, hss, hr, hb⟩ := hrel
    by_cases hlt : k < ps.length
    case pos =>
      obtain ⟨vs, hv0, hvs0⟩ := HR.out
      have hv := hv0.below hb
      obtain ⟨pb, po, pc, e1, hpc, hcs⟩ := hv.pos (by omega)
      cases e1
      have hvl : vs.length = ps.length := by rw [hv.1]; omega
      obtain ⟨x, hx⟩ : ∃ x, vs[k]? = some x := ⟨vs[k], List.getElem?_eq_getElem (by omega)⟩
      have hcell := hcs k x hx
      have hrd0 := hvs0 k x ps[k] hx (List.getElem?_eq_getElem hlt)
      have hrd := hrd0.below hb
      obtain ⟨xa, xc, hxv⟩ := hrd.slice
      have hfl := flat_lenH ps k hlt
      have hft := flat_take ps k hlt
      have HFT := Lib.hid hft
      obtain ⟨p, hp⟩ : ∃ p, p = ps[k] := ⟨_, rfl⟩
      rw [← hp] at hrd hrd0 hfl hxv HFT
      have HRD := Lib.hid (And.intro hrd (And.intro hfl hrd0))
      have k0 : (k : Int) < (ps.length : Int) := by omega
      clear hv hv0 hvs0 hcs hvl hx hrd hrd0 hfl hft hp
      subst hxv
      have HS := Lib.hid (write_val sb (ps.take k).flatten p _ wr hss HRD.out.1 (fun bb o n c he hne => by
        have := rd_lt HRD.out.2.2 bb o n c he hne; omega) (by have := HRD.out.2.1; omega))
      go_wp2_with fail
      refine HS.out.mono ?_
      rintro e w4 ⟨rfl, hs4, hg4⟩
      have HS4 : Hid (SS w4 sb (ps.take (k + 1)).flatten) := Lib.hid (by rw [HFT.out]; exact hs4)
      have hr4 := hr.grown hg4 (fun r hr e => by cases hr; omega)
      have hb4 := hb.grown hg4 hb.size (fun k e => by cases e; omega)
      clear hs4 hg4 HS hss hr hb
      go_wp2_with fail
      go_roundw
      case rel => exact ⟨k + 1, by omega, by go_num, HS4.out, hr4, hb4⟩
      case measure => simp [intOf]; omega
    case neg =>
      have htk : ps.take k = ps := List.take_of_length_le (by omega)
      rw [htk] at hss
      obtain ⟨rst, hsr, hx⟩ := hss
      have hcs : Blk wr sb 168 (stCells ps.flatten rst) := hx
      have hln : (stCells ps.flatten rst).length = 73 := by
        unfold stCells
        rw [List.length_append, List.length_append, bc_length, hsr.1]; rfl
      have hst : (Tryz.prog.info? 168).map (·.size) = some (stCells ps.flatten rst).length := by rw [hln]; kernel_rfl
      have HST := Lib.hid hst
      have HSUM := Lib.hid (fun W => sum_any ps.flatten rst W hsr hlen)
      unfold shV at HSUM
      clear htk hx hln hst
      generalize stCells ps.flatten rst = cs at hcs HST HSUM
      go_wp2_with (with_reducible refine wpList_load_blk rfl 168 (.tmp 3) rfl sb rfl 168 cs _ hcs Tryz.underlying168 rfl HST.out ?_)
      refine (HSUM.out _).mono ?_
      rintro e w5 ⟨rfl, hc5⟩
      have hr5 := hr.below hc5 hr.lt
      have hb5 := hb.trans (hc5.mono hb.size)
      have h32 : (Lib.byteCells (sha ps.flatten)).length = 32 := by rw [bc_length, sha_len]
      have hol : (List.replicate 32 (Value.int .u8 0)).length = (Lib.byteCells (sha ps.flatten)).length := by rw [h32, List.length_replicate]
      have hsz : (Tryz.prog.info? 117).map (·.size) = some (Lib.byteCells (sha ps.flatten)).length := by rw [h32]; kernel_rfl
      have hsz2 : (Tryz.prog.info? 117).map (·.size) = some (Lib.byteCells (sha ps.flatten)).toArray.size := by rw [List.size_toArray]; exact hsz
      have HSZ := Lib.hid (And.intro hol (And.intro hsz hsz2))
      clear hol hsz hsz2 h32 hc5 hr hb HSUM HST hcs
      go_wp2_with (with_reducible refine wpList_store_blk rfl 117 (.tmp 2) (.tmp 17) rfl w.heap.size (Lib.byteCells (sha ps.flatten)) rfl rfl 117 _ hr5 HSZ.out.2.1 HSZ.out.1 (byte_one _) ?_)
      intro wC hxC hgC
      have hbC : Below w.heap.size w wC := hb5.grown hgC hb5.size (fun k e => by cases e; exact Nat.le_refl _)
      clear hgC hr5 hb5
      go_wp2_with fail
      try simp only [Exit.inBlock, Exit.then]
      refine bodyPost_ret (results_cell_row rfl _ _ w.heap.size 117 (Lib.byteCells (sha ps.flatten)).toArray (0, 0) _ rfl hxC Tryz.underlying117 rfl HSZ.out.2.2) rfl ?_
      exact ⟨rfl, hbC⟩
/-- a value laid down as the one part -/
theorem rdp_one (W : World) (v : Value) (b : By) (t : TypeId) (h : Rd W 1 v b.length (Lib.byteCells b)) : RdP (W.alloc (.cells #[v] t)) (.slice (some ⟨W.heap.size, 0, none⟩) 1 1) [b] := by
  refine ⟨[v], ⟨rfl, .inr ⟨W.heap.size, 0, 1, rfl, Nat.le_refl _, fun j u hj => ?_⟩⟩, fun i x p hx hp => ?_⟩
  · have := cells_new W [v] t j u hj
    rw [Addr.add_lit] at this; exact this
  · match i, hx, hp with
    | 0, hx, hp => cases hx; cases hp; exact h.below ((Below.refl _ _).alloc (Nat.le_refl _) _)
set_option maxRecDepth 20000 in
set_option maxHeartbeats 2000000 in
theorem sum1_any (v : Value) (b : By) (w : World) (h : Rd w 1 v b.length (Lib.byteCells b)) (hlen : b.length ≤ 576460752303423488) :
    Calls Tryz.prog 90 #[v] w fun e w' => e = .returned (.agg (Lib.byteCells (sha b)).toArray) ∧ Below w.heap.size w w' := by
  have hr0 : Blk (w.alloc (.cells #[.int .u8 0, .int .u8 0, .int .u8 0, .int .u8 0, .int .u8 0, .int .u8 0, .int .u8 0, .int .u8 0, .int .u8 0, .int .u8 0, .int .u8 0, .int .u8 0, .int .u8 0, .int .u8 0, .int .u8 0, .int .u8 0, .int .u8 0, .int .u8 0, .int .u8 0, .int .u8 0, .int .u8 0, .int .u8 0, .int .u8 0, .int .u8 0, .int .u8 0, .int .u8 0, .int .u8 0, .int .u8 0, .int .u8 0, .int .u8 0, .int .u8 0, .int .u8 0] 117)) w.heap.size 117 (List.replicate 32 (.int .u8 0)) := Blk.new w _ _
  have hb0 : Below w.heap.size w (w.alloc (.cells #[.int .u8 0, .int .u8 0, .int .u8 0, .int .u8 0, .int .u8 0, .int .u8 0, .int .u8 0, .int .u8 0, .int .u8 0, .int .u8 0, .int .u8 0, .int .u8 0, .int .u8 0, .int .u8 0, .int .u8 0, .int .u8 0, .int .u8 0, .int .u8 0, .int .u8 0, .int .u8 0, .int .u8 0, .int .u8 0, .int .u8 0, .int .u8 0, .int .u8 0, .int .u8 0, .int .u8 0, .int .u8 0, .int .u8 0, .int .u8 0, .int .u8 0, .int .u8 0] 117)) := (Below.refl _ _).alloc (Nat.le_refl _) _
  have hp := rdp_one _ v b 36 (h.below hb0)
  obtain ⟨va, vc, hvv⟩ := h.slice
  subst hvv
  rw [World.size_alloc] at hp
  have hA := all_any _ [b] _ hp (by simp) (by simpa using hlen)
  rw [List.flatten_singleton] at hA
  have HA := Lib.hid hA
  clear hA hp h
  go_enter Tryz.func90, Tryz.ntmps90
  go_wp2_with fail
  refine HA.out.mono ?_
  rintro e w5 ⟨rfl, hc5⟩
  have hr5 := (hr0.alloc (.cells #[.slice va b.length vc] 36)).below hc5 (by simp; omega)
  have hb5 : Below w.heap.size w w5 := (hb0.alloc hb0.size (.cells #[.slice va b.length vc] 36)).trans (hc5.mono (by simp; omega))
  have h32 : (Lib.byteCells (sha b)).length = 32 := by rw [bc_length, sha_len]
  have hol : (List.replicate 32 (Value.int .u8 0)).length = (Lib.byteCells (sha b)).length := by rw [h32, List.length_replicate]
  have hsz : (Tryz.prog.info? 117).map (·.size) = some (Lib.byteCells (sha b)).length := by rw [h32]; kernel_rfl
  have hsz2 : (Tryz.prog.info? 117).map (·.size) = some (Lib.byteCells (sha b)).toArray.size := by rw [List.size_toArray]; exact hsz
  have HSZ := Lib.hid (And.intro hol (And.intro hsz hsz2))
  clear hol hsz hsz2 h32 hc5 hr0 hb0 HA
  go_wp2_with (with_reducible refine wpList_store_blk rfl 117 (.tmp 2) (.tmp 5) rfl w.heap.size (Lib.byteCells (sha b)) rfl rfl 117 _ hr5 HSZ.out.2.1 HSZ.out.1 (byte_one _) ?_)
  intro wC hxC hgC
  have hbC : Below w.heap.size w wC := hb5.grown hgC hb5.size (fun k e => by cases e; exact Nat.le_refl _)
  clear hgC hr5 hb5
  go_wp2_with fail
  try simp only [Exit.inBlock, Exit.then]
  refine bodyPost_ret (results_cell_row rfl _ _ w.heap.size 117 (Lib.byteCells (sha b)).toArray (0, 0) _ rfl hxC Tryz.underlying117 rfl HSZ.out.2.2) rfl ?_
  exact ⟨rfl, hbC⟩
end Go.Proofs.YtffllacphfapnaaGreatDoor
