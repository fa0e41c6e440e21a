/-
  Chapter 3: bytes are written (the program's). Condition: all bytes together are fewer than 2^60.
  (Texts put together: He Hf.)
-/
import Derived.Test.YtffllacphfapnaaGreatDoorG13
import Derived.Laws.CopyOwn
import Derived.RegionTactic
import Derived.BigRegion
namespace Go.Proofs.YtffllacphfapnaaGreatDoor
open Go.RowKit Sh

/-- block sb holds a state that was told m -/
def SS (W : World) (sb : Nat) (m : By) : Prop := ∃ rest, SR m rest ∧ Blk W sb 168 ((blks h0 m (m.length / 64)).l.map uw ++ (Lib.byteCells rest ++ [.int .i64 (m.length : Int)]))
theorem SS.lt {W : World} {sb : Nat} {m : By} (h : SS W sb m) : sb < W.heap.size := by obtain ⟨_, _, h⟩ := h; exact h.lt
theorem SS.below {W W' : World} {sb : Nat} {m : By} (h : SS W sb m) (hb : Below W.heap.size W W') : SS W' sb m := by
  obtain ⟨r, h1, h2⟩ := h; exact ⟨r, h1, h2.below hb h2.lt⟩
/-- the copy, and all that it leaves alone -/
theorem wpList_copy_grow {P : Program} {w : World} {ops : Array Oper} {rest : List Oper} {o : Oper} {a : Act} {Q : Exit → Act → World → Prop} (hgd : o.guard = none) (d s : Operand) (dT sT : TypeId)
    (ho : o.op = .call { callee := .builtin .copy, args := #[d, s], argTypes := #[dT, sT] }) (elem : TypeId) (hu : P.underlying dT = some (.slice elem)) (hsz : (P.info? elem).map (·.size) = some 1)
    (g off dLen dCap : Nat) (ad : Addr) (sLen sCap : Nat) (hd : a.eval d = .slice (some ⟨g, off, none⟩) dLen dCap) (hs : a.eval s = .slice (some ad) sLen sCap)
    (cur : List Value) (t : TypeId) (hg : Blk w g t cur) (cs : List Value) (hn : cs.length = Nat.min sLen dLen)
    (hsrc : ∀ j v, cs[j]? = some v → w.cell? (ad.add j) = some v) (hfit : off + cs.length ≤ cur.length) (h1 : ∀ v ∈ cs, v.oneCell' = true)
    (h : ∀ w', Blk w' g t (splice cur off cs) → w.grownBy w' (some g) → wpList P ops Q rest (a.put o.dst (goInt cs.length)) w') : wpList P ops Q (o :: rest) a w := by
  refine wpList_copy_own hgd d s dT sT ho elem hu hsz g off dLen dCap ad sLen sCap hd hs cur.toArray t hg cs hn hsrc (by simpa using hfit) h1 ?_
  refine h _ ?_ ?_
  · show _ = _
    have := setRow_heap w g _ (splice cur off cs).toArray t _ hg
    simpa [splice] using this
  · exact ⟨rfl, rfl, rfl, by simp [World.setRow], fun k hk hne => setRow_other w g k _ (fun e => hne (by rw [e]))⟩
theorem gg_trans {w a c : World} {b : Nat} (h : w.grownBy a (some b)) (k : a.grownBy c (some b)) : w.grownBy c (some b) :=
  ⟨k.os.trans h.os, k.tape.trans h.tape, k.output.trans h.output, Nat.le_trans h.size k.size, fun x hx hne => (k.block x (Nat.lt_of_lt_of_le hx h.size) hne).trans (h.block x hx hne)⟩
theorem grown_cell {w a : World} {g b o : Nat} (h : w.grownBy a (some g)) (hb : b < w.heap.size) (hne : b ≠ g) : a.cell? ⟨b, o, none⟩ = w.cell? ⟨b, o, none⟩ := by
  have := h.block b hb (fun e => hne (by simpa using e))
  unfold World.cell?
  simp only [this]
theorem rd_cut {w wr : World} {sb bb off cap : Nat} {b : By} (h : Rd w 1 (.slice (some ⟨bb, off, none⟩) b.length cap) b.length (Lib.byteCells b)) (hg : w.grownBy wr (some sb)) (hne : bb ≠ sb) (hbb : bb < w.heap.size) (k n c : Nat) (hk : k + n ≤ b.length) (hc : n ≤ c) :
    Rd wr 1 (.slice (some ⟨bb, off + k, none⟩) n c) n (Lib.byteCells ((b.drop k).take n)) := by
  refine ⟨by rw [bc_length, List.length_take, List.length_drop]; omega, .inr ⟨bb, off + k, c, rfl, hc, fun j u hj => ?_⟩⟩
  rw [grown_cell hg hbb hne]
  have hj2 := (List.getElem?_eq_some_iff.1 hj).1
  rw [bc_length, List.length_take, List.length_drop] at hj2
  rcases h.2 with ⟨_, h0⟩ | ⟨b', o', c', e, _, hcs⟩
  · omega
  · cases e
    rw [Nat.add_assoc]
    refine hcs (k + j) u ?_
    unfold Lib.byteCells at hj ⊢
    rw [List.getElem?_map, List.getElem?_take_of_lt (by omega), List.getElem?_drop] at hj
    rw [List.getElem?_map]
    exact hj
theorem set72 (x : List Value) (rest : By) (a b : Value) (hx : x.length = 8) (hr : rest.length = 64) : (x ++ (Lib.byteCells rest ++ [a])).set 72 b = x ++ (Lib.byteCells rest ++ [b]) := by
  rw [List.set_append_right _ _ (by omega), List.set_append_right _ _ (by rw [bc_length]; omega), bc_length, hx, hr]
  rfl
theorem at72 (x : List Value) (rest : By) (a : Value) (hx : x.length = 8) (hr : rest.length = 64) : (x ++ (Lib.byteCells rest ++ [a]))[72]? = some a := by
  rw [List.getElem?_append_right (by omega), List.getElem?_append_right (by rw [bc_length]; omega), bc_length, hx, hr]
  rfl
theorem blk_drew {W : World} {b : Nat} {t : TypeId} {cs : List Value} (h : Blk W b t cs) : Blk W.drew b t cs := h
theorem ss_block {W : World} {sb : Nat} {M seg rest : By} (hsr : SR M rest) (h0 : M.length % 64 = 0) (hs : seg.length = 64) (hx : Blk W sb 168 ((tk (blks Sh.h0 M (M.length / 64)) seg).l.map uw ++ (Lib.byteCells rest ++ [.int .i64 (M.length : Int)]))) :
    SS ((W.setCell ⟨sb, 72, none⟩ (.int .i64 ((M.length : Int) + 64))).drew) sb (M ++ seg) := by
  have hb := hsr.block h0 hs
  refine ⟨rest, hb.1, ?_⟩
  rw [hb.2]
  have := blk_drew (hx.set 72 (.int .i64 ((M.length : Int) + 64)))
  rw [set72 _ _ _ _ rfl hsr.1] at this
  rw [show (((M ++ seg).length : Nat) : Int) = (M.length : Int) + 64 from by rw [List.length_append, hs]; rfl]
  exact this
theorem splice_rest (x : List Value) (rest seg : By) (a : Value) (n : Nat) (hx : x.length = 8) (hr : rest.length = 64) (hn : n + seg.length ≤ 64) :
    splice (x ++ (Lib.byteCells rest ++ [a])) (8 + n) (Lib.byteCells seg) = x ++ (Lib.byteCells (ov rest n seg) ++ [a]) := by
  unfold splice ov
  rw [← hx, bc_append, bc_append, bc_length, show x.length + n + seg.length = x.length + (n + seg.length) from by omega, List.take_length_add_append, List.drop_length_add_append]
  rw [List.take_append_of_le_length (by rw [bc_length]; omega), List.drop_append_of_le_length (by rw [bc_length]; omega)]
  simp only [Lib.byteCells, List.map_take, List.map_drop, List.append_assoc]
theorem rest_rd {W : World} {sb : Nat} {x : List Value} {rest : By} {a : Value} (h : Blk W sb 168 (x ++ (Lib.byteCells rest ++ [a]))) (hx : x.length = 8) (hr : rest.length = 64) : Rd W 1 (.slice (some ⟨sb, 8, none⟩) 64 64) 64 (Lib.byteCells rest) := by
  refine ⟨by rw [bc_length]; omega, .inr ⟨sb, 8, 64, rfl, Nat.le_refl _, fun j u hj => h.cell (8 + j) ?_⟩⟩
  have hj2 := (List.getElem?_eq_some_iff.1 hj).1
  rw [List.getElem?_append_right (by omega), hx, show 8 + j - 8 = j from by omega, List.getElem?_append_left hj2]
  exact hj
theorem ss_part {W : World} {sb : Nat} {M seg rest : By} (hsr : SR M rest) (hs : M.length % 64 + seg.length < 64) (hx : Blk W sb 168 ((blks Sh.h0 M (M.length / 64)).l.map uw ++ (Lib.byteCells (ov rest (M.length % 64) seg) ++ [.int .i64 (((M ++ seg).length : Nat) : Int)]))) :
    SS W sb (M ++ seg) := by
  have hb := hsr.part hs
  refine ⟨_, hb.1, ?_⟩
  rw [hb.2]; exact hx
theorem ss_full {W : World} {sb : Nat} {M seg rest : By} (hsr : SR M rest) (hs : M.length % 64 + seg.length = 64) (hx : Blk W sb 168 ((tk (blks Sh.h0 M (M.length / 64)) (ov rest (M.length % 64) seg)).l.map uw ++ (Lib.byteCells (ov rest (M.length % 64) seg) ++ [.int .i64 (((M ++ seg).length : Nat) : Int)]))) :
    SS W sb (M ++ seg) := by
  have hb := hsr.full hs
  refine ⟨_, hb.1, ?_⟩
  rw [hb.2]; exact hx
def slLen : Value → Nat
  | .slice _ n _ => n
  | _ => 0
set_option maxRecDepth 20000 in
set_option maxHeartbeats 2000000 in
theorem constants_any (w : World) : Calls Tryz.prog 146 #[] w fun e w' => e = .returned (.pointer (some ⟨w.heap.size, 0, none⟩)) ∧ w' = w.alloc (.cells (ks.map uw).toArray 212) := by
  go_enter Tryz.func146, Tryz.ntmps146
  have hk : (ks.map uw).toArray = #[.int .u32 1116352408, .int .u32 1899447441, .int .u32 3049323471, .int .u32 3921009573, .int .u32 961987163, .int .u32 1508970993, .int .u32 2453635748, .int .u32 2870763221, .int .u32 3624381080, .int .u32 310598401, .int .u32 607225278, .int .u32 1426881987, .int .u32 1925078388, .int .u32 2162078206, .int .u32 2614888103, .int .u32 3248222580, .int .u32 3835390401, .int .u32 4022224774, .int .u32 264347078, .int .u32 604807628, .int .u32 770255983, .int .u32 1249150122, .int .u32 1555081692, .int .u32 1996064986, .int .u32 2554220882, .int .u32 2821834349, .int .u32 2952996808, .int .u32 3210313671, .int .u32 3336571891, .int .u32 3584528711, .int .u32 113926993, .int .u32 338241895, .int .u32 666307205, .int .u32 773529912, .int .u32 1294757372, .int .u32 1396182291, .int .u32 1695183700, .int .u32 1986661051, .int .u32 2177026350, .int .u32 2456956037, .int .u32 2730485921, .int .u32 2820302411, .int .u32 3259730800, .int .u32 3345764771, .int .u32 3516065817, .int .u32 3600352804, .int .u32 4094571909, .int .u32 275423344, .int .u32 430227734, .int .u32 506948616, .int .u32 659060556, .int .u32 883997877, .int .u32 958139571, .int .u32 1322822218, .int .u32 1537002063, .int .u32 1747873779, .int .u32 1955562222, .int .u32 2024104815, .int .u32 2227730452, .int .u32 2361852424, .int .u32 2428436474, .int .u32 2756734187, .int .u32 3204031479, .int .u32 3329325298] := by kernel_rfl
  rw [hk]
  clear hk
  go_wp2
  go_ret
  exact ⟨rfl, rfl⟩

set_option maxRecDepth 20000 in
set_option maxHeartbeats 4000000 in
theorem write_any (sb bb off cap : Nat) (m b : By) (w : World) (hs : SS w sb m) (hb : Rd w 1 (.slice (some ⟨bb, off, none⟩) b.length cap) b.length (Lib.byteCells b)) (hcap : b.length ≤ cap) (hne : bb ≠ sb) (hlen : m.length + b.length ≤ 1152921504606846976) :
    Calls Tryz.prog 117 #[.pointer (some ⟨sb, 0, none⟩), .slice (some ⟨bb, off, none⟩) b.length cap] w fun e w' => e = .returned (.tuple #[]) ∧ SS w' sb (m ++ b) ∧ w.grownBy w' (some sb) := by
  have hlt := hs.lt
  have HB := Lib.hid hb
  have hK : Blk (w.alloc (.cells (ks.map uw).toArray 212)) w.heap.size 212 (ks.map uw) := Blk.new w _ _
  have hb0 : Below w.heap.size w (w.alloc (.cells (ks.map uw).toArray 212)) := (Below.refl _ _).alloc (Nat.le_refl _) _
  have hs0 := hs.below hb0
  have hg0 : w.grownBy (w.alloc (.cells (ks.map uw).toArray 212)) (some sb) := ⟨hb0.os, hb0.tape, hb0.output, hb0.size, fun k hk _ => hb0.block k hk⟩
  clear hb hs hb0
  go_enter Tryz.func117, Tryz.ntmps117
  go_wp2_with fail
  refine (constants_any _).mono ?_
  rintro e w1 ⟨rfl, rfl⟩
  have hbb : bb < w.heap.size ∨ b.length = 0 := by
    rcases HB.out.2 with ⟨_, h0⟩ | ⟨b', o', c', e, _, hc⟩
    · exact .inr h0
    · cases e
      rcases Nat.eq_zero_or_pos b.length with h0 | h0
      · exact .inr h0
      · refine .inl (World.block_lt_of_cell? w _ (hc 0 (.int .u8 ((b.getD 0 0).toNat : Int)) ?_))
        simp [Lib.byteCells, List.getD, h0]
  generalize hw1 : w.alloc (.cells (ks.map uw).toArray 212) = w1 at hK hs0 hg0 ⊢
  clear hw1
  go_wp2_with fail
  go_loopw [1] (fun v wr => ∃ (k : Nat) (a : Option Addr) (c : Nat), k ≤ b.length ∧ v = .slice a (b.length - k) c ∧ Hid (k < b.length → a = some ⟨bb, off + k, none⟩ ∧ b.length - k ≤ c) ∧ SS wr sb (m ++ b.take k) ∧ w1.grownBy wr (some sb)) (fun v _ => slLen v)
  case atStart => exact ⟨0, _, _, by omega, rfl, Lib.hid fun _ => ⟨rfl, hcap⟩, by simpa using hs0, World.grownBy.refl _ _⟩
  case round =>
    obtain ⟨k, a, c, hk, rfl, HA, hss, hg⟩ := hrel
    by_cases hlt : k < b.length
    case pos =>
      obtain ⟨rfl, hc⟩ := HA.out hlt
      clear HA
      obtain ⟨rest, hsr, hx⟩ := hss
      have hMl : (m ++ b.take k).length = m.length + k := by simp; omega
      obtain ⟨M, hM⟩ : ∃ M, M = m ++ b.take k := ⟨_, rfl⟩
      rw [← hM] at hsr hx hMl
      have hr64 := hsr.1
      have cn : wr.cell? ⟨sb, 72, none⟩ = some (.int .i64 (M.length : Int)) := hx.cell 72 (at72 _ _ _ rfl hr64)
      have fn := hx.frozen 72
      obtain ⟨n, hn⟩ : ∃ n, n = b.length - k := ⟨_, rfl⟩
      rw [← hn] at hc ⊢
      have hn0 : 0 < n := by omega
      have hn1 : n ≤ 1152921504606846976 := by omega
      have hN1 : M.length ≤ 1152921504606846976 := by omega
      have HM := Lib.hid hM
      have HMl := Lib.hid hMl
      have HN := Lib.hid hn
      clear hM hMl hn
      obtain ⟨N, hNe⟩ : ∃ N, N = M.length := ⟨_, rfl⟩
      rw [← hNe] at cn hN1
      have HNe := Lib.hid hNe
      clear hNe
      by_cases h64 : N % 64 = 0 ∧ 64 ≤ n
      case pos =>
        obtain ⟨h0, hn64⟩ := h64
        have b0 : ((N : Int) % 64 == 0) = true := by rw [beq_iff_eq]; omega
        have hbb2 : bb < w.heap.size := by have := HN.out; rcases hbb with h | h; exact h; omega
        have hseg := rd_cut HB.out (gg_trans hg0 hg) hne hbb2 k 64 c (by have := HN.out; omega) (by omega)
        have hsl : ((b.drop k).take 64).length = 64 := by have := HN.out; rw [List.length_take, List.length_drop]; omega
        have hkk := hK.grown hg (fun r hr e => by cases hr; have := hs0.lt; have := hg0.size; omega)
        have HK1 := Lib.hid (And.intro hseg (And.intro hsl hkk))
        clear hseg hsl hkk
        go_wp2_with fail
        refine (take_any sb w.heap.size bb (off + k) c _ _ _ _ hx HK1.out.2.2 HK1.out.1 HK1.out.2.1).mono ?_
        rintro e w4 ⟨rfl, hx4, hg4⟩
        clear cn fn
        have HMN : Hid (M.length = N) := Lib.hid HNe.out.symm
        have cn : w4.cell? ⟨sb, 72, none⟩ = some (.int .i64 (N : Int)) := by have := hx4.cell 72 (at72 _ _ _ rfl hr64); rw [HMN.out] at this; exact this
        have fn := hx4.frozen 72
        have HX4 := Lib.hid hx4
        have e1 : IntKind.i64.wrap ((N : Int) + 64) = (N : Int) + 64 := IntWalk.i64_in _ (by omega)
        clear hx hx4
        have hgg := gg_trans hg hg4
        have hTK : b.take (k + 64) = b.take k ++ (b.drop k).take 64 := List.take_add
        have HTK := Lib.hid hTK
        have hM0 : M.length % 64 = 0 := by rw [HMN.out]; exact h0
        have HM0 := Lib.hid hM0
        clear hTK hM0 hg hg4 h0 b0
        by_cases hcc : c = 64
        case pos =>
          go_wp2_with fail
          go_region
          go_wp2_with fail
          go_roundw
          case rel =>
            have hn' := HN.out
            refine ⟨k + 64, _, _, by omega, by rw [show b.length - (k + 64) = n - 64 from by omega], Lib.hid fun h => by omega, ?_, gr_drew (gr_set hgg 72 _)⟩
            have := ss_block hsr HM0.out HK1.out.2.1 HX4.out
            rw [HMN.out] at this
            rw [HTK.out, ← List.append_assoc, ← HM.out]; exact this
          case measure => simp [slLen]; omega
        case neg =>
          go_wp2_with fail
          go_region
          go_wp2_with fail
          go_roundw
          case rel =>
            have hn' := HN.out
            refine ⟨k + 64, _, _, by omega, by rw [show b.length - (k + 64) = n - 64 from by omega], Lib.hid fun h => ⟨by rw [Nat.add_assoc], by omega⟩, ?_, gr_drew (gr_set hgg 72 _)⟩
            have := ss_block hsr HM0.out HK1.out.2.1 HX4.out
            rw [HMN.out] at this
            rw [HTK.out, ← List.append_assoc, ← HM.out]; exact this
          case measure => simp [slLen]; omega
      case neg =>
        obtain ⟨a0, ha0⟩ : ∃ a0, a0 = N % 64 := ⟨_, rfl⟩
        have hat : (N : Int) % 64 = (a0 : Int) := by omega
        have ha64 : a0 < 64 := by omega
        have hbb2 : bb < w.heap.size := by have := HN.out; rcases hbb with h | h; exact h; omega
        have hkk := hK.grown hg (fun r hr e => by cases hr; have := hs0.lt; have := hg0.size; omega)
        have HKK := Lib.hid hkk
        obtain ⟨cm, hcm⟩ : ∃ cm, cm = Nat.min n (64 - a0) := ⟨_, rfl⟩
        have hcm1 : 0 < cm := by rw [hcm]; exact Nat.lt_min.2 ⟨hn0, by omega⟩
        have hcm2 : cm ≤ n := by rw [hcm]; exact Nat.min_le_left _ _
        have hcm4 : cm ≤ 64 - a0 := by rw [hcm]; exact Nat.min_le_right _ _
        have hcm3 : a0 + cm ≤ 64 := by omega
        have hseg := rd_cut HB.out (gg_trans hg0 hg) hne hbb2 k cm c (by have := HN.out; omega) (by omega)
        have hsl : ((b.drop k).take cm).length = cm := by have := HN.out; rw [List.length_take, List.length_drop]; omega
        obtain ⟨seg, hsg⟩ : ∃ seg, seg = (b.drop k).take cm := ⟨_, rfl⟩
        have hTK : b.take (k + cm) = b.take k ++ seg := by rw [hsg]; exact List.take_add
        rw [← hsg] at hsl hseg
        obtain ⟨cs, hcs⟩ : ∃ cs, cs = Lib.byteCells seg := ⟨_, rfl⟩
        have hcl : cs.length = cm := by rw [hcs, bc_length, hsl]
        have hsrc : ∀ j v, cs[j]? = some v → wr.cell? ((⟨bb, off + k, none⟩ : Addr).add j) = some v := by
          rw [← hcs] at hseg
          rcases hseg.2 with ⟨_, h0⟩ | ⟨b', o', c', e, _, hc'⟩
          · omega
          · cases e; intro j v hj; rw [Addr.add_lit]; exact hc' j v hj
        have hspl : splice ((blks Sh.h0 M (M.length / 64)).l.map uw ++ (Lib.byteCells rest ++ [.int .i64 (M.length : Int)])) (8 + a0) cs = (blks Sh.h0 M (M.length / 64)).l.map uw ++ (Lib.byteCells (ov rest a0 seg) ++ [.int .i64 (M.length : Int)]) := by
          rw [hcs]; exact splice_rest _ _ _ _ _ rfl hr64 (by omega)
        have hone : ∀ v ∈ cs, v.oneCell' = true := by rw [hcs]; exact byte_one _
        have hfit : 8 + a0 + cs.length ≤ ((blks Sh.h0 M (M.length / 64)).l.map uw ++ (Lib.byteCells rest ++ [Value.int .i64 (M.length : Int)])).length := by
          rw [List.length_append, List.length_append, bc_length, hr64, hcl]; simp [Oct.l]; omega
        have hmin : cs.length = Nat.min n (64 - a0) := by rw [hcl, hcm]
        have l64 : (a0 : Int) ≤ 64 := by omega
        have l64b : (a0 : Int) < 64 := by omega
        have g64 : ¬ 64 ≤ a0 := by omega
        have HCP := Lib.hid (And.intro hsrc (And.intro hone (And.intro hfit hmin)))
        have HSP := Lib.hid hspl
        have HSL := Lib.hid hsl
        have HTK := Lib.hid hTK
        have HA0 := Lib.hid ha0
        clear hkk hseg hsl hsg hTK hcs hsrc hspl hone hfit hmin hcm ha0
        by_cases h0 : a0 = 0
        case pos =>
          have b0 : ((a0 : Int) == 0) = true := by rw [h0]; rfl
          have H0 := Lib.hid h0
          have hn64 : ¬ (64 : Int) ≤ (n : Int) := by have := HA0.out; omega
          clear h0 h64
          go_wp2_with (with_reducible refine wpList_copy_grow rfl (.tmp 42) (.tmp 43) 36 36 rfl 5 Tryz.underlying36 (by kernel_rfl) sb (8 + a0) (64 - a0) (64 - a0) ⟨bb, off + k, none⟩ n c rfl rfl _ _ hx cs HCP.out.2.2.2 HCP.out.1 HCP.out.2.2.1 HCP.out.2.1 ?_)
          intro w5 hx5 hg5
          rw [HSP.out] at hx5
          have HMN : Hid (M.length = N) := Lib.hid HNe.out.symm
          have SRov : Hid ((ov rest a0 seg).length = 64) := Lib.hid (by rw [ov_len _ _ _ (by rw [HSL.out]; omega)]; exact hr64)
          have cn5 : w5.cell? ⟨sb, 72, none⟩ = some (.int .i64 (N : Int)) := by have := hx5.cell 72 (at72 _ _ _ rfl SRov.out); rw [HMN.out] at this; exact this
          have fn5 := hx5.frozen 72
          have HX5 := Lib.hid hx5
          have e1 : IntKind.i64.wrap ((N : Int) + (cm : Int)) = (N : Int) + (cm : Int) := IntWalk.i64_in _ (by omega)
          have hci : (cm : Int) ≤ (n : Int) := by omega
          have hnc : (n : Int) ≤ (c : Int) := by omega
          have hci2 : (cm : Int) ≤ (c : Int) := by omega
          clear hx hx5 cn fn b0
          by_cases hcc : c = cm
          case pos =>
            go_wp2_with fail
            go_region
            have HX6 : Hid (Blk ((w5.setCell ⟨sb, 72, none⟩ (.int .i64 ((N : Int) + (cm : Int)))).drew) sb 168 ((blks Sh.h0 M (M.length / 64)).l.map uw ++ (Lib.byteCells (ov rest a0 seg) ++ [.int .i64 (((N + cm : Nat)) : Int)]))) := Lib.hid (by
              have e := blk_drew (HX5.out.set 72 (.int .i64 ((N : Int) + (cm : Int))))
              rw [set72 _ _ _ _ rfl SRov.out] at e
              exact e)
            have hg6 := gr_drew (gr_set hg5 72 (.int .i64 ((N : Int) + (cm : Int))))
            have cn6 : ((w5.setCell ⟨sb, 72, none⟩ (.int .i64 ((N : Int) + (cm : Int)))).drew).cell? ⟨sb, 72, none⟩ = some (.int .i64 ((N : Int) + (cm : Int))) := by
              have e := HX6.out.cell 72 (at72 _ _ _ rfl SRov.out)
              exact e
            clear cn5 fn5 hg5 e1
            generalize (w5.setCell ⟨sb, 72, none⟩ (.int .i64 ((N : Int) + (cm : Int)))).drew = w6 at HX6 hg6 cn6 ⊢
            by_cases hf : a0 + cm = 64
            · have bf : (((N : Int) + (cm : Int)) % 64 == 0) = true := by rw [beq_iff_eq]; have := HA0.out; omega
              have HF := Lib.hid hf
              have hr5 := rest_rd HX6.out rfl (SRov.out)
              have hk6 := HKK.out.grown hg6 (fun r hr e => by cases hr; have := hs0.lt; have := hg0.size; omega)
              have HR5 := Lib.hid (And.intro hr5 hk6)
              clear hf hr5 hk6
              go_wp2_with fail
              refine (take_any sb w.heap.size sb 8 64 _ _ _ _ HX6.out HR5.out.2 HR5.out.1 SRov.out).mono ?_
              rintro e w7 ⟨rfl, hx7, hg7⟩
              have hg8 := gg_trans hg6 hg7
              have hss := ss_full (seg := seg) hsr (by rw [HMN.out, HSL.out, ← HA0.out]; exact HF.out) (by rw [HMN.out, ← HA0.out, List.length_append, HSL.out, HMN.out]; have e := hx7; rw [HMN.out] at e; exact e)
              clear hg6 hg7 hx7
              go_wp2_with fail
              go_roundw
              case rel =>
                have hn' := HN.out
                refine ⟨k + cm, _, _, by omega, by rw [show b.length - (k + cm) = n - cm from by omega], Lib.hid fun h => ?_, by rw [HTK.out, ← List.append_assoc, ← HM.out]; exact hss, gg_trans hg hg8⟩
                omega
              case measure => simp [slLen]; omega
            · have bf : (((N : Int) + (cm : Int)) % 64 == 0) = false := by rw [beq_eq_false_iff_ne]; have := HA0.out; omega
              have hss := ss_part (seg := seg) hsr (by rw [HMN.out, HSL.out, ← HA0.out]; omega) (by rw [HMN.out, ← HA0.out, List.length_append, HSL.out, HMN.out]; have e := HX6.out; rw [HMN.out] at e; exact e)
              clear hf
              go_wp2_with fail
              go_roundw
              case rel =>
                have hn' := HN.out
                refine ⟨k + cm, _, _, by omega, by rw [show b.length - (k + cm) = n - cm from by omega], Lib.hid fun h => ?_, by rw [HTK.out, ← List.append_assoc, ← HM.out]; exact hss, gg_trans hg hg6⟩
                omega
              case measure => simp [slLen]; omega

          case neg =>
            go_wp2_with fail
            go_region
            have HX6 : Hid (Blk ((w5.setCell ⟨sb, 72, none⟩ (.int .i64 ((N : Int) + (cm : Int)))).drew) sb 168 ((blks Sh.h0 M (M.length / 64)).l.map uw ++ (Lib.byteCells (ov rest a0 seg) ++ [.int .i64 (((N + cm : Nat)) : Int)]))) := Lib.hid (by
              have e := blk_drew (HX5.out.set 72 (.int .i64 ((N : Int) + (cm : Int))))
              rw [set72 _ _ _ _ rfl SRov.out] at e
              exact e)
            have hg6 := gr_drew (gr_set hg5 72 (.int .i64 ((N : Int) + (cm : Int))))
            have cn6 : ((w5.setCell ⟨sb, 72, none⟩ (.int .i64 ((N : Int) + (cm : Int)))).drew).cell? ⟨sb, 72, none⟩ = some (.int .i64 ((N : Int) + (cm : Int))) := by
              have e := HX6.out.cell 72 (at72 _ _ _ rfl SRov.out)
              exact e
            clear cn5 fn5 hg5 e1
            generalize (w5.setCell ⟨sb, 72, none⟩ (.int .i64 ((N : Int) + (cm : Int)))).drew = w6 at HX6 hg6 cn6 ⊢
            by_cases hf : a0 + cm = 64
            · have bf : (((N : Int) + (cm : Int)) % 64 == 0) = true := by rw [beq_iff_eq]; have := HA0.out; omega
              have HF := Lib.hid hf
              have hr5 := rest_rd HX6.out rfl (SRov.out)
              have hk6 := HKK.out.grown hg6 (fun r hr e => by cases hr; have := hs0.lt; have := hg0.size; omega)
              have HR5 := Lib.hid (And.intro hr5 hk6)
              clear hf hr5 hk6
              go_wp2_with fail
              refine (take_any sb w.heap.size sb 8 64 _ _ _ _ HX6.out HR5.out.2 HR5.out.1 SRov.out).mono ?_
              rintro e w7 ⟨rfl, hx7, hg7⟩
              have hg8 := gg_trans hg6 hg7
              have hss := ss_full (seg := seg) hsr (by rw [HMN.out, HSL.out, ← HA0.out]; exact HF.out) (by rw [HMN.out, ← HA0.out, List.length_append, HSL.out, HMN.out]; have e := hx7; rw [HMN.out] at e; exact e)
              clear hg6 hg7 hx7
              go_wp2_with fail
              go_roundw
              case rel =>
                have hn' := HN.out
                refine ⟨k + cm, _, _, by omega, by rw [show b.length - (k + cm) = n - cm from by omega], Lib.hid fun h => ?_, by rw [HTK.out, ← List.append_assoc, ← HM.out]; exact hss, gg_trans hg hg8⟩
                exact ⟨by rw [Nat.add_assoc], by omega⟩
              case measure => simp [slLen]; omega
            · have bf : (((N : Int) + (cm : Int)) % 64 == 0) = false := by rw [beq_eq_false_iff_ne]; have := HA0.out; omega
              have hss := ss_part (seg := seg) hsr (by rw [HMN.out, HSL.out, ← HA0.out]; omega) (by rw [HMN.out, ← HA0.out, List.length_append, HSL.out, HMN.out]; have e := HX6.out; rw [HMN.out] at e; exact e)
              clear hf
              go_wp2_with fail
              go_roundw
              case rel =>
                have hn' := HN.out
                refine ⟨k + cm, _, _, by omega, by rw [show b.length - (k + cm) = n - cm from by omega], Lib.hid fun h => ?_, by rw [HTK.out, ← List.append_assoc, ← HM.out]; exact hss, gg_trans hg hg6⟩
                exact ⟨by rw [Nat.add_assoc], by omega⟩
              case measure => simp [slLen]; omega

        case neg =>
          have b0 : ((a0 : Int) == 0) = false := by rw [beq_eq_false_iff_ne]; omega
          clear h0 h64
          go_wp2_with (with_reducible refine wpList_copy_grow rfl (.tmp 42) (.tmp 43) 36 36 rfl 5 Tryz.underlying36 (by kernel_rfl) sb (8 + a0) (64 - a0) (64 - a0) ⟨bb, off + k, none⟩ n c rfl rfl _ _ hx cs HCP.out.2.2.2 HCP.out.1 HCP.out.2.2.1 HCP.out.2.1 ?_)
          intro w5 hx5 hg5
          rw [HSP.out] at hx5
          have HMN : Hid (M.length = N) := Lib.hid HNe.out.symm
          have SRov : Hid ((ov rest a0 seg).length = 64) := Lib.hid (by rw [ov_len _ _ _ (by rw [HSL.out]; omega)]; exact hr64)
          have cn5 : w5.cell? ⟨sb, 72, none⟩ = some (.int .i64 (N : Int)) := by have := hx5.cell 72 (at72 _ _ _ rfl SRov.out); rw [HMN.out] at this; exact this
          have fn5 := hx5.frozen 72
          have HX5 := Lib.hid hx5
          have e1 : IntKind.i64.wrap ((N : Int) + (cm : Int)) = (N : Int) + (cm : Int) := IntWalk.i64_in _ (by omega)
          have hci : (cm : Int) ≤ (n : Int) := by omega
          have hnc : (n : Int) ≤ (c : Int) := by omega
          have hci2 : (cm : Int) ≤ (c : Int) := by omega
          clear hx hx5 cn fn b0
          by_cases hcc : c = cm
          case pos =>
            go_wp2_with fail
            go_region
            have HX6 : Hid (Blk ((w5.setCell ⟨sb, 72, none⟩ (.int .i64 ((N : Int) + (cm : Int)))).drew) sb 168 ((blks Sh.h0 M (M.length / 64)).l.map uw ++ (Lib.byteCells (ov rest a0 seg) ++ [.int .i64 (((N + cm : Nat)) : Int)]))) := Lib.hid (by
              have e := blk_drew (HX5.out.set 72 (.int .i64 ((N : Int) + (cm : Int))))
              rw [set72 _ _ _ _ rfl SRov.out] at e
              exact e)
            have hg6 := gr_drew (gr_set hg5 72 (.int .i64 ((N : Int) + (cm : Int))))
            have cn6 : ((w5.setCell ⟨sb, 72, none⟩ (.int .i64 ((N : Int) + (cm : Int)))).drew).cell? ⟨sb, 72, none⟩ = some (.int .i64 ((N : Int) + (cm : Int))) := by
              have e := HX6.out.cell 72 (at72 _ _ _ rfl SRov.out)
              exact e
            clear cn5 fn5 hg5 e1
            generalize (w5.setCell ⟨sb, 72, none⟩ (.int .i64 ((N : Int) + (cm : Int)))).drew = w6 at HX6 hg6 cn6 ⊢
            by_cases hf : a0 + cm = 64
            · have bf : (((N : Int) + (cm : Int)) % 64 == 0) = true := by rw [beq_iff_eq]; have := HA0.out; omega
              have HF := Lib.hid hf
              have hr5 := rest_rd HX6.out rfl (SRov.out)
              have hk6 := HKK.out.grown hg6 (fun r hr e => by cases hr; have := hs0.lt; have := hg0.size; omega)
              have HR5 := Lib.hid (And.intro hr5 hk6)
              clear hf hr5 hk6
              go_wp2_with fail
              refine (take_any sb w.heap.size sb 8 64 _ _ _ _ HX6.out HR5.out.2 HR5.out.1 SRov.out).mono ?_
              rintro e w7 ⟨rfl, hx7, hg7⟩
              have hg8 := gg_trans hg6 hg7
              have hss := ss_full (seg := seg) hsr (by rw [HMN.out, HSL.out, ← HA0.out]; exact HF.out) (by rw [HMN.out, ← HA0.out, List.length_append, HSL.out, HMN.out]; have e := hx7; rw [HMN.out] at e; exact e)
              clear hg6 hg7 hx7
              go_wp2_with fail
              go_roundw
              case rel =>
                have hn' := HN.out
                refine ⟨k + cm, _, _, by omega, by rw [show b.length - (k + cm) = n - cm from by omega], Lib.hid fun h => ?_, by rw [HTK.out, ← List.append_assoc, ← HM.out]; exact hss, gg_trans hg hg8⟩
                omega
              case measure => simp [slLen]; omega
            · have bf : (((N : Int) + (cm : Int)) % 64 == 0) = false := by rw [beq_eq_false_iff_ne]; have := HA0.out; omega
              have hss := ss_part (seg := seg) hsr (by rw [HMN.out, HSL.out, ← HA0.out]; omega) (by rw [HMN.out, ← HA0.out, List.length_append, HSL.out, HMN.out]; have e := HX6.out; rw [HMN.out] at e; exact e)
              clear hf
              go_wp2_with fail
              go_roundw
              case rel =>
                have hn' := HN.out
                refine ⟨k + cm, _, _, by omega, by rw [show b.length - (k + cm) = n - cm from by omega], Lib.hid fun h => ?_, by rw [HTK.out, ← List.append_assoc, ← HM.out]; exact hss, gg_trans hg hg6⟩
                omega
              case measure => simp [slLen]; omega

          case neg =>
            go_wp2_with fail
            go_region
            have HX6 : Hid (Blk ((w5.setCell ⟨sb, 72, none⟩ (.int .i64 ((N : Int) + (cm : Int)))).drew) sb 168 ((blks Sh.h0 M (M.length / 64)).l.map uw ++ (Lib.byteCells (ov rest a0 seg) ++ [.int .i64 (((N + cm : Nat)) : Int)]))) := Lib.hid (by
              have e := blk_drew (HX5.out.set 72 (.int .i64 ((N : Int) + (cm : Int))))
              rw [set72 _ _ _ _ rfl SRov.out] at e
              exact e)
            have hg6 := gr_drew (gr_set hg5 72 (.int .i64 ((N : Int) + (cm : Int))))
            have cn6 : ((w5.setCell ⟨sb, 72, none⟩ (.int .i64 ((N : Int) + (cm : Int)))).drew).cell? ⟨sb, 72, none⟩ = some (.int .i64 ((N : Int) + (cm : Int))) := by
              have e := HX6.out.cell 72 (at72 _ _ _ rfl SRov.out)
              exact e
            clear cn5 fn5 hg5 e1
            generalize (w5.setCell ⟨sb, 72, none⟩ (.int .i64 ((N : Int) + (cm : Int)))).drew = w6 at HX6 hg6 cn6 ⊢
            by_cases hf : a0 + cm = 64
            · have bf : (((N : Int) + (cm : Int)) % 64 == 0) = true := by rw [beq_iff_eq]; have := HA0.out; omega
              have HF := Lib.hid hf
              have hr5 := rest_rd HX6.out rfl (SRov.out)
              have hk6 := HKK.out.grown hg6 (fun r hr e => by cases hr; have := hs0.lt; have := hg0.size; omega)
              have HR5 := Lib.hid (And.intro hr5 hk6)
              clear hf hr5 hk6
              go_wp2_with fail
              refine (take_any sb w.heap.size sb 8 64 _ _ _ _ HX6.out HR5.out.2 HR5.out.1 SRov.out).mono ?_
              rintro e w7 ⟨rfl, hx7, hg7⟩
              have hg8 := gg_trans hg6 hg7
              have hss := ss_full (seg := seg) hsr (by rw [HMN.out, HSL.out, ← HA0.out]; exact HF.out) (by rw [HMN.out, ← HA0.out, List.length_append, HSL.out, HMN.out]; have e := hx7; rw [HMN.out] at e; exact e)
              clear hg6 hg7 hx7
              go_wp2_with fail
              go_roundw
              case rel =>
                have hn' := HN.out
                refine ⟨k + cm, _, _, by omega, by rw [show b.length - (k + cm) = n - cm from by omega], Lib.hid fun h => ?_, by rw [HTK.out, ← List.append_assoc, ← HM.out]; exact hss, gg_trans hg hg8⟩
                exact ⟨by rw [Nat.add_assoc], by omega⟩
              case measure => simp [slLen]; omega
            · have bf : (((N : Int) + (cm : Int)) % 64 == 0) = false := by rw [beq_eq_false_iff_ne]; have := HA0.out; omega
              have hss := ss_part (seg := seg) hsr (by rw [HMN.out, HSL.out, ← HA0.out]; omega) (by rw [HMN.out, ← HA0.out, List.length_append, HSL.out, HMN.out]; have e := HX6.out; rw [HMN.out] at e; exact e)
              clear hf
              go_wp2_with fail
              go_roundw
              case rel =>
                have hn' := HN.out
                refine ⟨k + cm, _, _, by omega, by rw [show b.length - (k + cm) = n - cm from by omega], Lib.hid fun h => ?_, by rw [HTK.out, ← List.append_assoc, ← HM.out]; exact hss, gg_trans hg hg6⟩
                exact ⟨by rw [Nat.add_assoc], by omega⟩
              case measure => simp [slLen]; omega

    case neg =>
      have hk2 : b.length - k = 0 := by omega
      have htk : b.take k = b := List.take_of_length_le (by omega)
      rw [htk] at hss
      have HK2 := Lib.hid hk2
      rw [hk2]
      clear hk2 htk HA
      go_wp2_with fail
      try simp only [Exit.inBlock, Exit.then]
      go_end0
      exact ⟨rfl, hss, gg_trans hg0 hg⟩
end Go.Proofs.YtffllacphfapnaaGreatDoor
namespace Go.Proofs.YtffllacphfapnaaGreatDoor
open Go.RowKit Sh

def stCells (m rest : By) : List Value := (blks h0 m (m.length / 64)).l.map uw ++ (Lib.byteCells rest ++ [.int .i64 (m.length : Int)])
/-- a state as a value -/
def shV (m rest : By) : Value := .agg (stCells m rest).toArray
def nAt (W : World) (sb : Nat) : Nat := match W.cell? ⟨sb, 72, none⟩ with
  | some (.int _ n) => n.toNat
  | _ => 0
theorem nAt_of {W : World} {sb : Nat} {n : Int} (h : W.cell? ⟨sb, 72, none⟩ = some (.int .i64 n)) : nAt W sb = n.toNat := by unfold nAt; rw [h]
theorem SS.n {W : World} {sb : Nat} {m : By} (h : SS W sb m) : W.cell? ⟨sb, 72, none⟩ = some (.int .i64 (m.length : Int)) := by
  obtain ⟨r, h1, h2⟩ := h
  exact h2.cell 72 (at72 _ _ _ rfl h1.1)
/-- a byte, just made, as a slice -/
theorem rd_one (W : World) (c : UInt8) : Rd (W.alloc (.cells #[.int .u8 (c.toNat : Int)] 5)) 1 (.slice (some ⟨W.heap.size, 0, none⟩) 1 1) 1 (Lib.byteCells [c]) :=
  ⟨rfl, .inr ⟨W.heap.size, 0, 1, rfl, Nat.le_refl _, fun j u hj => by
    have h := cells_new W (Lib.byteCells [c]) 5 j u hj
    rw [Addr.add_lit] at h
    exact h⟩⟩

/-- the length's bytes under way -/
def lcs (n t : Nat) : List Value := Lib.byteCells ((le8 n).take t) ++ List.replicate (8 - t) (.int .u8 0)
theorem lcs_at (n t : Nat) (h : t < 8) : (lcs n t)[t]? = some (.int .u8 0) := by
  unfold lcs
  have hl : ((le8 n).take t).length = t := by simp [le8]; omega
  rw [List.getElem?_append_right (by rw [bc_length, hl]; exact Nat.le_refl _), bc_length, hl, Nat.sub_self, List.getElem?_replicate, if_pos (by omega)]
theorem lcs_set (n t : Nat) (h : t < 8) (v : Value) (hv : v = .int .u8 (((le8 n).getD t 0).toNat : Int)) : (lcs n t).set t v = lcs n (t + 1) := by
  unfold lcs
  have h8 : (le8 n).length = 8 := by simp [le8]
  have hl : ((le8 n).take t).length = t := by rw [List.length_take]; omega
  have hgd : (le8 n).getD t 0 = (le8 n)[t]'(by omega) := by simp [List.getD, h8, h]
  rw [hgd] at hv
  rw [List.set_append_right _ _ (by rw [bc_length, hl]; exact Nat.le_refl _), bc_length, hl, Nat.sub_self]
  obtain ⟨k, hk⟩ : ∃ k, 8 - t = k + 1 := ⟨7 - t, by omega⟩
  rw [hk, List.replicate_succ, List.set_cons_zero, show 8 - (t + 1) = k from by omega, List.take_succ_eq_append_getElem (by omega), bc_append, hv, List.append_assoc]
  rfl
theorem le8_at (n t : Nat) (h : t < 8) (hn : n ≤ 576460752303423488) : (((le8 n).getD t 0).toNat : Int) = (n : Int) * 8 / 2 ^ (56 - 8 * t) % 256 := by
  have h1 : (le8 n).getD t 0 = UInt8.ofNat (n * 8 % 18446744073709551616 / 2 ^ (56 - 8 * t) % 256) := by simp [le8, List.getD, h]
  rw [h1, UInt8.toNat_ofNat', Nat.mod_eq_of_lt (show n * 8 < 18446744073709551616 by omega)]
  have h2 : n * 8 / 2 ^ (56 - 8 * t) % 256 % 2 ^ 8 = n * 8 / 2 ^ (56 - 8 * t) % 256 := Nat.mod_eq_of_lt (Nat.mod_lt _ (by decide))
  rw [h2, Int.natCast_emod, Int.natCast_ediv, Int.natCast_mul, Int.natCast_pow]
  rfl

theorem wpList_load_blk {P : Program} {ops : Array Oper} {rest : List Oper} {o : Oper} {a : Act} {w : World} {Q : Exit → Act → World → Prop} (hgd : o.guard = none) (ty : TypeId) (x : Operand) (ho : o.op = .load ty x)
    (g : Nat) (hx : a.eval x = .pointer (some ⟨g, 0, none⟩)) (t : TypeId) (cs : List Value) (d : TypeDesc) (hg : Blk w g t cs)
    (hu : P.underlying ty = some d) (hd : (match d with | .struct _ | .array _ _ => true | _ => false) = true) (hi : (P.info? ty).map (·.size) = some cs.length)
    (h : wpList P ops Q rest (a.put o.dst (.agg cs.toArray)) w) : wpList P ops Q (o :: rest) a w :=
  wpList_load_row hgd ty x ho g hx t cs.toArray (0, 0) d hg hu hd (by simpa using hi) h
theorem wpList_store_blk {P : Program} {ops : Array Oper} {rest : List Oper} {o : Oper} {a : Act} {w : World} {Q : Exit → Act → World → Prop} (hgd : o.guard = none) (ty : TypeId) (x y : Operand) (ho : o.op = .store ty x y)
    (g : Nat) (cs : List Value) (hx : a.eval x = .pointer (some ⟨g, 0, none⟩)) (hy : a.eval y = .agg cs.toArray)
    (t : TypeId) (old : List Value) (hg : Blk w g t old) (hi : (P.info? ty).map (·.size) = some cs.length)
    (hold : old.length = cs.length) (h1 : ∀ u ∈ cs, u.oneCell' = true)
    (h : ∀ w', Blk w' g t cs → w.grownBy w' (some g) → wpList P ops Q rest (a.put o.dst undef) w') : wpList P ops Q (o :: rest) a w := by
  refine wpList_store_row hgd ty x y ho g cs.toArray hx hy t old.toArray hg (by simpa using hi) (by simpa using hold) ?_ ?_
  · rw [Array.all_eq_true_iff_forall_mem]
    intro u hu
    exact h1 u (by simpa using hu)
  · refine h _ ?_ ?_
    · exact setRow_heap w g _ cs.toArray t _ hg
    · exact ⟨rfl, rfl, rfl, by simp [World.setRow], fun k hk hne => setRow_other w g k _ (fun e => hne (by rw [e]))⟩
theorem lcs_full (n : Nat) : lcs n 8 = Lib.byteCells (le8 n) := by
  unfold lcs; rw [List.take_of_length_le (by simp [le8])]; simp
theorem le8_len (n : Nat) : (le8 n).length = 8 := by simp [le8]
theorem blk_rd {W : World} {g : Nat} {t : TypeId} {b : By} (h : Blk W g t (Lib.byteCells b)) (n : Nat) (hn : b.length = n) : Rd W 1 (.slice (some ⟨g, 0, none⟩) n n) n (Lib.byteCells b) :=
  ⟨by rw [bc_length]; omega, .inr ⟨g, 0, n, rfl, Nat.le_refl _, fun j u hj => by rw [Nat.zero_add]; exact h.cell j hj⟩⟩
theorem ix_word (U : Oct) (t : Nat) (h : t < 8) (W : World) : (Instr.index 166 (.agg #[.int .u32 (U.a.toNat : Int), .int .u32 (U.b.toNat : Int), .int .u32 (U.c.toNat : Int), .int .u32 (U.d.toNat : Int), .int .u32 (U.e.toNat : Int), .int .u32 (U.f.toNat : Int), .int .u32 (U.g.toNat : Int), .int .u32 (U.h.toNat : Int)]) (.int .i64 (t : Int))).run Tryz.prog W = .ok (.int .u32 ((U.l.getD t 0).toNat : Int)) W :=
  lt8 (p := fun t => (Instr.index 166 (.agg #[.int .u32 (U.a.toNat : Int), .int .u32 (U.b.toNat : Int), .int .u32 (U.c.toNat : Int), .int .u32 (U.d.toNat : Int), .int .u32 (U.e.toNat : Int), .int .u32 (U.f.toNat : Int), .int .u32 (U.g.toNat : Int), .int .u32 (U.h.toNat : Int)]) (.int .i64 (t : Int))).run Tryz.prog W = .ok (.int .u32 ((U.l.getD t 0).toNat : Int)) W) t h (by kernel_rfl) (by kernel_rfl) (by kernel_rfl) (by kernel_rfl) (by kernel_rfl) (by kernel_rfl) (by kernel_rfl) (by kernel_rfl)
/-- a digest's bytes under way -/
def dcs (U : Oct) (t : Nat) : List Value := Lib.byteCells ((dig U).take (4 * t)) ++ List.replicate (32 - 4 * t) (.int .u8 0)
theorem dcs_at (U : Oct) (t j : Nat) (h : t < 8) (hj : j < 4) : (dcs U t)[4 * t + j]? = some (.int .u8 0) := by
  unfold dcs
  have hd : (dig U).length = 32 := rfl
  have hl : ((dig U).take (4 * t)).length = 4 * t := by rw [List.length_take]; omega
  rw [List.getElem?_append_right (by rw [bc_length, hl]; omega), bc_length, hl, List.getElem?_replicate, if_pos (by omega)]
theorem dcs_full (U : Oct) : dcs U 8 = Lib.byteCells (dig U) := by
  unfold dcs; rw [List.take_of_length_le (show (dig U).length ≤ 4 * 8 from Nat.le_refl _)]; simp
theorem dcs_set (U : Oct) (t : Nat) (h : t < 8) : ((((dcs U t).set (4 * t) (.int .u8 ((UInt8.ofNat ((U.l.getD t 0).toNat / 16777216)).toNat : Int))).set (4 * t + 1) (.int .u8 ((UInt8.ofNat ((U.l.getD t 0).toNat / 65536 % 256)).toNat : Int))).set (4 * t + 2) (.int .u8 ((UInt8.ofNat ((U.l.getD t 0).toNat / 256 % 256)).toNat : Int))).set (4 * t + 3) (.int .u8 ((UInt8.ofNat ((U.l.getD t 0).toNat % 256)).toNat : Int)) = dcs U (t + 1) :=
  lt8 (p := fun t => ((((dcs U t).set (4 * t) (.int .u8 ((UInt8.ofNat ((U.l.getD t 0).toNat / 16777216)).toNat : Int))).set (4 * t + 1) (.int .u8 ((UInt8.ofNat ((U.l.getD t 0).toNat / 65536 % 256)).toNat : Int))).set (4 * t + 2) (.int .u8 ((UInt8.ofNat ((U.l.getD t 0).toNat / 256 % 256)).toNat : Int))).set (4 * t + 3) (.int .u8 ((UInt8.ofNat ((U.l.getD t 0).toNat % 256)).toNat : Int)) = dcs U (t + 1)) t h rfl rfl rfl rfl rfl rfl rfl rfl
theorem by_24 (x : UInt32) : ((UInt8.ofNat (x.toNat / 16777216)).toNat : Int) = (x.toNat : Int) / 16777216 := by
  have := x.toNat_lt; rw [UInt8.toNat_ofNat', Nat.mod_eq_of_lt (by omega)]; exact Int.natCast_ediv _ _
theorem by_16 (x : UInt32) : ((UInt8.ofNat (x.toNat / 65536 % 256)).toNat : Int) = (x.toNat : Int) / 65536 % 256 := by
  rw [UInt8.toNat_ofNat', Nat.mod_eq_of_lt (by omega), Int.natCast_emod, Int.natCast_ediv]; rfl
theorem by_8 (x : UInt32) : ((UInt8.ofNat (x.toNat / 256 % 256)).toNat : Int) = (x.toNat : Int) / 256 % 256 := by
  rw [UInt8.toNat_ofNat', Nat.mod_eq_of_lt (by omega), Int.natCast_emod, Int.natCast_ediv]; rfl
theorem by_0 (x : UInt32) : ((UInt8.ofNat (x.toNat % 256)).toNat : Int) = (x.toNat : Int) % 256 := by
  rw [UInt8.toNat_ofNat', Nat.mod_eq_of_lt (by omega), Int.natCast_emod]; rfl

set_option maxRecDepth 20000 in
set_option maxHeartbeats 4000000 in
theorem sum_any (m rest : By) (w : World) (hsr : SR m rest) (hlen : m.length ≤ 576460752303423488) :
    Calls Tryz.prog 118 #[shV m rest] w fun e w' => e = .returned (.agg (Lib.byteCells (sha m)).toArray) ∧ Below w.heap.size w w' := by
  have hx0 : Blk (w.alloc (.cells (stCells m rest).toArray 168)) w.heap.size 168 (stCells m rest) := Blk.new w _ _
  have hs0 : SS (w.alloc (.cells (stCells m rest).toArray 168)) w.heap.size m := ⟨rest, hsr, hx0⟩
  have hb0 : Below w.heap.size w (w.alloc (.cells (stCells m rest).toArray 168)) := (Below.refl _ _).alloc (Nat.le_refl _) _
  have hr1 : Blk ((w.alloc (.cells (stCells m rest).toArray 168)).alloc (.cells #[.int .u8 0, .int .u8 0, .int .u8 0, .int .u8 0, .int .u8 0, .int .u8 0, .int .u8 0, .int .u8 0, .int .u8 0, .int .u8 0, .int .u8 0, .int .u8 0, .int .u8 0, .int .u8 0, .int .u8 0, .int .u8 0, .int .u8 0, .int .u8 0, .int .u8 0, .int .u8 0, .int .u8 0, .int .u8 0, .int .u8 0, .int .u8 0, .int .u8 0, .int .u8 0, .int .u8 0, .int .u8 0, .int .u8 0, .int .u8 0, .int .u8 0, .int .u8 0] 117)) (w.heap.size + 1) 117 (List.replicate 32 (.int .u8 0)) := by
    have h := Blk.new (w.alloc (.cells (stCells m rest).toArray 168)) 117 (List.replicate 32 (.int .u8 0))
    rw [World.size_alloc] at h
    exact h
  have hs1 : SS ((w.alloc (.cells (stCells m rest).toArray 168)).alloc (.cells #[.int .u8 0, .int .u8 0, .int .u8 0, .int .u8 0, .int .u8 0, .int .u8 0, .int .u8 0, .int .u8 0, .int .u8 0, .int .u8 0, .int .u8 0, .int .u8 0, .int .u8 0, .int .u8 0, .int .u8 0, .int .u8 0, .int .u8 0, .int .u8 0, .int .u8 0, .int .u8 0, .int .u8 0, .int .u8 0, .int .u8 0, .int .u8 0, .int .u8 0, .int .u8 0, .int .u8 0, .int .u8 0, .int .u8 0, .int .u8 0, .int .u8 0, .int .u8 0] 117)) w.heap.size m := hs0.below ((Below.refl _ _).alloc (Nat.le_refl _) _)
  have hb1 : Below w.heap.size w ((w.alloc (.cells (stCells m rest).toArray 168)).alloc (.cells #[.int .u8 0, .int .u8 0, .int .u8 0, .int .u8 0, .int .u8 0, .int .u8 0, .int .u8 0, .int .u8 0, .int .u8 0, .int .u8 0, .int .u8 0, .int .u8 0, .int .u8 0, .int .u8 0, .int .u8 0, .int .u8 0, .int .u8 0, .int .u8 0, .int .u8 0, .int .u8 0, .int .u8 0, .int .u8 0, .int .u8 0, .int .u8 0, .int .u8 0, .int .u8 0, .int .u8 0, .int .u8 0, .int .u8 0, .int .u8 0, .int .u8 0, .int .u8 0] 117)) := hb0.alloc (by simp) _
  unfold shV
  generalize stCells m rest = cs at hx0 hs0 hb0 hr1 hs1 hb1 ⊢
  clear hx0 hs0 hb0
  have c72 := hs1.n
  have e1 : IntKind.u64.wrap (m.length : Int) = (m.length : Int) := wraps_u64 _ (by omega) (by omega)
  have e2 : IntKind.u64.wrap ((m.length : Int) * 8) = (m.length : Int) * 8 := wraps_u64 _ (by omega) (by omega)
  go_enter Tryz.func118, Tryz.ntmps118
  go_wp2_with fail
  have hz1 : ((w.alloc (.cells cs.toArray 168)).alloc (.cells #[.int .u8 0, .int .u8 0, .int .u8 0, .int .u8 0, .int .u8 0, .int .u8 0, .int .u8 0, .int .u8 0, .int .u8 0, .int .u8 0, .int .u8 0, .int .u8 0, .int .u8 0, .int .u8 0, .int .u8 0, .int .u8 0, .int .u8 0, .int .u8 0, .int .u8 0, .int .u8 0, .int .u8 0, .int .u8 0, .int .u8 0, .int .u8 0, .int .u8 0, .int .u8 0, .int .u8 0, .int .u8 0, .int .u8 0, .int .u8 0, .int .u8 0, .int .u8 0] 117)).heap.size = w.heap.size + 1 + 1 := by simp
  clear c72 e1 e2
  generalize (w.alloc (.cells cs.toArray 168)).alloc (.cells #[.int .u8 0, .int .u8 0, .int .u8 0, .int .u8 0, .int .u8 0, .int .u8 0, .int .u8 0, .int .u8 0, .int .u8 0, .int .u8 0, .int .u8 0, .int .u8 0, .int .u8 0, .int .u8 0, .int .u8 0, .int .u8 0, .int .u8 0, .int .u8 0, .int .u8 0, .int .u8 0, .int .u8 0, .int .u8 0, .int .u8 0, .int .u8 0, .int .u8 0, .int .u8 0, .int .u8 0, .int .u8 0, .int .u8 0, .int .u8 0, .int .u8 0, .int .u8 0] 117) = w1 at hr1 hs1 hb1 hz1 ⊢
  have hone := rd_one w1 128
  rw [hz1] at hone
  have hss := hs1.below ((Below.refl _ _).alloc (Nat.le_refl _) (.cells #[.int .u8 ((128 : UInt8).toNat : Int)] 5))
  refine (write_any w.heap.size (w.heap.size + 1 + 1) 0 1 m [128] _ hss hone (by decide) (by omega) (by simp; omega)).mono ?_
  rintro e w2 ⟨rfl, hs2, hg2⟩
  have hr2 := (hr1.alloc (.cells #[.int .u8 ((128 : UInt8).toNat : Int)] 5)).grown hg2 (fun r hr e => by cases hr; omega)
  have hb2 : Below w.heap.size w w2 := (hb1.alloc hb1.size _).grown hg2 (Nat.le_trans hb1.size (by simp)) (fun k e => by cases e; omega)
  clear hr1 hs1 hb1 hz1 hone hss hg2
  generalize N8 : (m.length : Int) * 8 = n8
  have HN8 := Lib.hid N8
  clear N8
  go_wp2_with fail
  go_loopw [18] (fun _ wr => ∃ k : Nat, k ≤ zs m.length ∧ SS wr w.heap.size (m ++ 128 :: List.replicate k 0) ∧ Blk wr (w.heap.size + 1) 117 (List.replicate 32 (.int .u8 0)) ∧ Below w.heap.size w wr) (fun _ wr => m.length + 1 + zs m.length - nAt wr w.heap.size)
  case atStart => exact ⟨0, by omega, hs2, hr2, hb2⟩
  case round =>
    clear hs2 hr2 hb2
    obtain ⟨k, hk, hss, hr, hb⟩ := hrel
    have hLl : (m ++ 128 :: List.replicate k 0).length = m.length + 1 + k := by simp; omega
    have cn := hss.n
    have hzs : zs m.length < 64 := by unfold zs; omega
    rw [hLl] at cn
    obtain ⟨L, hL⟩ : ∃ L, L = m.length + 1 + k := ⟨_, rfl⟩
    rw [← hL] at cn hLl
    have HNA := Lib.hid (nAt_of cn)
    have HLl := Lib.hid hLl
    have HL := Lib.hid hL
    by_cases hlt : k < zs m.length
    case pos =>
      have hne := pad_more m.length k hlt
      rw [← hL] at hne
      have b0 : ((L : Int) % 64 == 56) = false := by rw [beq_eq_false_iff_ne]; omega
      have b1 : ((L : Int) % 64 != 56) = true := by rw [bne, b0]; rfl
      clear hLl hL hne
      go_wp2_with fail
      refine (write_any w.heap.size wr.heap.size 0 1 _ [0] _ (hss.below ((Below.refl _ _).alloc (Nat.le_refl _) _)) (rd_one wr 0) (by decide) (by have := hss.lt; omega) (by rw [HLl.out, HL.out]; simp; omega)).mono ?_
      rintro e w4 ⟨rfl, hs4, hg4⟩
      have hr4 := (hr.alloc (.cells #[.int .u8 ((0 : UInt8).toNat : Int)] 5)).grown hg4 (fun r hr e => by cases hr; omega)
      have hb4 : Below w.heap.size w w4 := (hb.alloc hb.size _).grown hg4 (Nat.le_trans hb.size (by simp)) (fun k e => by cases e; omega)
      have HS4 : Hid (SS w4 w.heap.size (m ++ 128 :: List.replicate (k + 1) 0)) := Lib.hid (by
        rw [List.replicate_succ']
        have e := hs4
        rw [List.append_assoc] at e
        exact e)
      clear hss hr hb cn hs4 hg4
      go_wp2_with fail
      go_roundw
      case rel => exact ⟨k + 1, by omega, HS4.out, hr4, hb4⟩
      case measure =>
        rw [HNA.out, nAt_of HS4.out.n]
        have := HL.out
        simp
        omega
    case neg =>
      obtain ⟨k2, hk2, hk3⟩ : ∃ x, x = k ∧ zs m.length ≤ x := ⟨k, rfl, by omega⟩
      have hpz := pad_zeros m.length
      have b0 : ((L : Int) % 64 == 56) = true := by rw [beq_iff_eq]; omega
      have b1 : ((L : Int) % 64 != 56) = false := by rw [bne, b0]; rfl
      have HSZ : Hid (SS wr w.heap.size (m ++ 128 :: List.replicate (zs m.length) 0)) := Lib.hid (by rw [show zs m.length = k from by omega]; exact hss)
      clear hpz hLl hL hss hk2 hk3 HNA hk hlt hzs
      go_wp2_with fail
      clear cn b0 b1
      generalize wr = wB at hr hb HSZ ⊢
      have hl0 : Blk (wB.alloc (.cells #[.int .u8 0, .int .u8 0, .int .u8 0, .int .u8 0, .int .u8 0, .int .u8 0, .int .u8 0, .int .u8 0] 200)) wB.heap.size 200 (lcs m.length 0) := Blk.new wB _ _
      have hg0 : Below wB.heap.size wB (wB.alloc (.cells #[.int .u8 0, .int .u8 0, .int .u8 0, .int .u8 0, .int .u8 0, .int .u8 0, .int .u8 0, .int .u8 0] 200)) := (Below.refl _ _).alloc (Nat.le_refl _) _
      go_loopw [21] (fun i w5 => ∃ t : Nat, t ≤ 8 ∧ i = .int .i64 t ∧ Blk w5 wB.heap.size 200 (lcs m.length t) ∧ Below wB.heap.size wB w5) (fun i _ => 8 - (intOf i).toNat)
      case atStart => exact ⟨0, by omega, rfl, hl0, hg0⟩
      case round =>
        clear hl0 hg0
        obtain ⟨t, ht, rfl, hl, hg⟩ := hrel
        by_cases hlt : t < 8
        case pos =>
          have z0 := hl.cell t (lcs_at m.length t hlt)
          have z1 := hl.frozen t
          have e1 : IntKind.i64.wrap (8 * (t : Int)) = 8 * (t : Int) := IntWalk.i64_in _ (by omega)
          have e2 : IntKind.i64.wrap (56 - 8 * (t : Int)) = 56 - 8 * (t : Int) := IntWalk.i64_in _ (by omega)
          have e3 : (0 : Int) ≤ 56 - 8 * (t : Int) := by omega
          have e4 : 8 * (t : Int) ≤ 56 := by omega
          have e5 : (56 - 8 * (t : Int)).toNat = 56 - 8 * t := by omega
          have e6 : 56 - 8 * (t : Int) < 64 := by omega
          have e7 : (t : Int) < 8 := by omega
          go_wp2_with fail
          go_roundw
          case rel => exact ⟨t + 1, by omega, by go_num, by rw [← lcs_set m.length t hlt _ (by rw [le8_at m.length t hlt hlen, HN8.out])]; exact hl.set t _, hg.setCell (Nat.le_refl _) _⟩
          case measure => simp [intOf]; omega
        case neg =>
          have hl8 : Blk wr wB.heap.size 200 (lcs m.length 8) := by rw [show 8 = t from by omega]; exact hl
          obtain ⟨t2, ht2, ht3⟩ : ∃ x, x = t ∧ 8 ≤ x := ⟨t, rfl, by omega⟩
          subst ht2
          clear hl ht
          rw [lcs_full] at hl8
          have hss := HSZ.out.below hg
          have hr9 := hr.below hg hr.lt
          have hb9 := hb.trans (hg.mono hb.size)
          have hlb := HSZ.out.lt
          have hrd := blk_rd hl8 8 (le8_len _)
          have hrd2 : Rd wr 1 (.slice (some ⟨wB.heap.size, 0, none⟩) (le8 m.length).length 8) (le8 m.length).length (Lib.byteCells (le8 m.length)) := by rw [le8_len]; exact hrd
          have HW6 := write_any w.heap.size wB.heap.size 0 8 _ (le8 m.length) wr hss hrd2 (by rw [le8_len]; decide) (by omega) (by have h1 := HLl.out; rw [le8_len]; simp [zs]; omega)
          rw [le8_len] at HW6
          have HW := Lib.hid HW6
          clear hss hrd hrd2 HW6 hl8 hr hb hg HSZ
          go_wp2_with fail
          refine HW.out.mono ?_
          rintro e w6 ⟨rfl, hs6, hg6⟩
          have hr6 := hr9.grown hg6 (fun r hr e => by cases hr; omega)
          have hb6 : Below w.heap.size w w6 := hb9.grown hg6 hb9.size (fun k e => by cases e; omega)
          have hpad : m ++ 128 :: List.replicate (zs m.length) 0 ++ le8 m.length = padded m := by unfold padded; simp
          rw [hpad] at hs6
          clear hr9 hb9 hg6 hpad HW
          obtain ⟨rst, hsr6, hx6⟩ := hs6
          have hblk : blks Sh.h0 (padded m) ((padded m).length / 64) = blks Sh.h0 (padded m) ((m.length + 72) / 64) := by rw [padded_len]; congr 1; omega
          rw [hblk] at hx6
          have hsha : sha m = dig (blks Sh.h0 (padded m) ((m.length + 72) / 64)) := rfl
          have HSHA := Lib.hid hsha
          clear hblk hsha hsr6
          generalize blks Sh.h0 (padded m) ((m.length + 72) / 64) = U at hx6 HSHA
          have s0 := (hx6.alloc (.cells #[.int .u8 0, .int .u8 0, .int .u8 0, .int .u8 0, .int .u8 0, .int .u8 0, .int .u8 0, .int .u8 0, .int .u8 0, .int .u8 0, .int .u8 0, .int .u8 0, .int .u8 0, .int .u8 0, .int .u8 0, .int .u8 0, .int .u8 0, .int .u8 0, .int .u8 0, .int .u8 0, .int .u8 0, .int .u8 0, .int .u8 0, .int .u8 0, .int .u8 0, .int .u8 0, .int .u8 0, .int .u8 0, .int .u8 0, .int .u8 0, .int .u8 0, .int .u8 0] 117)).cell 0 rfl
          have s1 := (hx6.alloc (.cells #[.int .u8 0, .int .u8 0, .int .u8 0, .int .u8 0, .int .u8 0, .int .u8 0, .int .u8 0, .int .u8 0, .int .u8 0, .int .u8 0, .int .u8 0, .int .u8 0, .int .u8 0, .int .u8 0, .int .u8 0, .int .u8 0, .int .u8 0, .int .u8 0, .int .u8 0, .int .u8 0, .int .u8 0, .int .u8 0, .int .u8 0, .int .u8 0, .int .u8 0, .int .u8 0, .int .u8 0, .int .u8 0, .int .u8 0, .int .u8 0, .int .u8 0, .int .u8 0] 117)).cell 1 rfl
          have s2 := (hx6.alloc (.cells #[.int .u8 0, .int .u8 0, .int .u8 0, .int .u8 0, .int .u8 0, .int .u8 0, .int .u8 0, .int .u8 0, .int .u8 0, .int .u8 0, .int .u8 0, .int .u8 0, .int .u8 0, .int .u8 0, .int .u8 0, .int .u8 0, .int .u8 0, .int .u8 0, .int .u8 0, .int .u8 0, .int .u8 0, .int .u8 0, .int .u8 0, .int .u8 0, .int .u8 0, .int .u8 0, .int .u8 0, .int .u8 0, .int .u8 0, .int .u8 0, .int .u8 0, .int .u8 0] 117)).cell 2 rfl
          have s3 := (hx6.alloc (.cells #[.int .u8 0, .int .u8 0, .int .u8 0, .int .u8 0, .int .u8 0, .int .u8 0, .int .u8 0, .int .u8 0, .int .u8 0, .int .u8 0, .int .u8 0, .int .u8 0, .int .u8 0, .int .u8 0, .int .u8 0, .int .u8 0, .int .u8 0, .int .u8 0, .int .u8 0, .int .u8 0, .int .u8 0, .int .u8 0, .int .u8 0, .int .u8 0, .int .u8 0, .int .u8 0, .int .u8 0, .int .u8 0, .int .u8 0, .int .u8 0, .int .u8 0, .int .u8 0] 117)).cell 3 rfl
          have s4 := (hx6.alloc (.cells #[.int .u8 0, .int .u8 0, .int .u8 0, .int .u8 0, .int .u8 0, .int .u8 0, .int .u8 0, .int .u8 0, .int .u8 0, .int .u8 0, .int .u8 0, .int .u8 0, .int .u8 0, .int .u8 0, .int .u8 0, .int .u8 0, .int .u8 0, .int .u8 0, .int .u8 0, .int .u8 0, .int .u8 0, .int .u8 0, .int .u8 0, .int .u8 0, .int .u8 0, .int .u8 0, .int .u8 0, .int .u8 0, .int .u8 0, .int .u8 0, .int .u8 0, .int .u8 0] 117)).cell 4 rfl
          have s5 := (hx6.alloc (.cells #[.int .u8 0, .int .u8 0, .int .u8 0, .int .u8 0, .int .u8 0, .int .u8 0, .int .u8 0, .int .u8 0, .int .u8 0, .int .u8 0, .int .u8 0, .int .u8 0, .int .u8 0, .int .u8 0, .int .u8 0, .int .u8 0, .int .u8 0, .int .u8 0, .int .u8 0, .int .u8 0, .int .u8 0, .int .u8 0, .int .u8 0, .int .u8 0, .int .u8 0, .int .u8 0, .int .u8 0, .int .u8 0, .int .u8 0, .int .u8 0, .int .u8 0, .int .u8 0] 117)).cell 5 rfl
          have s6 := (hx6.alloc (.cells #[.int .u8 0, .int .u8 0, .int .u8 0, .int .u8 0, .int .u8 0, .int .u8 0, .int .u8 0, .int .u8 0, .int .u8 0, .int .u8 0, .int .u8 0, .int .u8 0, .int .u8 0, .int .u8 0, .int .u8 0, .int .u8 0, .int .u8 0, .int .u8 0, .int .u8 0, .int .u8 0, .int .u8 0, .int .u8 0, .int .u8 0, .int .u8 0, .int .u8 0, .int .u8 0, .int .u8 0, .int .u8 0, .int .u8 0, .int .u8 0, .int .u8 0, .int .u8 0] 117)).cell 6 rfl
          have s7 := (hx6.alloc (.cells #[.int .u8 0, .int .u8 0, .int .u8 0, .int .u8 0, .int .u8 0, .int .u8 0, .int .u8 0, .int .u8 0, .int .u8 0, .int .u8 0, .int .u8 0, .int .u8 0, .int .u8 0, .int .u8 0, .int .u8 0, .int .u8 0, .int .u8 0, .int .u8 0, .int .u8 0, .int .u8 0, .int .u8 0, .int .u8 0, .int .u8 0, .int .u8 0, .int .u8 0, .int .u8 0, .int .u8 0, .int .u8 0, .int .u8 0, .int .u8 0, .int .u8 0, .int .u8 0] 117)).cell 7 rfl
          unfold uw at s0 s1 s2 s3 s4 s5 s6 s7
          have hd0 : Blk (w6.alloc (.cells #[.int .u8 0, .int .u8 0, .int .u8 0, .int .u8 0, .int .u8 0, .int .u8 0, .int .u8 0, .int .u8 0, .int .u8 0, .int .u8 0, .int .u8 0, .int .u8 0, .int .u8 0, .int .u8 0, .int .u8 0, .int .u8 0, .int .u8 0, .int .u8 0, .int .u8 0, .int .u8 0, .int .u8 0, .int .u8 0, .int .u8 0, .int .u8 0, .int .u8 0, .int .u8 0, .int .u8 0, .int .u8 0, .int .u8 0, .int .u8 0, .int .u8 0, .int .u8 0] 117)) w6.heap.size 117 (dcs U 0) := Blk.new w6 _ _
          have hg0 : Below w6.heap.size w6 (w6.alloc (.cells #[.int .u8 0, .int .u8 0, .int .u8 0, .int .u8 0, .int .u8 0, .int .u8 0, .int .u8 0, .int .u8 0, .int .u8 0, .int .u8 0, .int .u8 0, .int .u8 0, .int .u8 0, .int .u8 0, .int .u8 0, .int .u8 0, .int .u8 0, .int .u8 0, .int .u8 0, .int .u8 0, .int .u8 0, .int .u8 0, .int .u8 0, .int .u8 0, .int .u8 0, .int .u8 0, .int .u8 0, .int .u8 0, .int .u8 0, .int .u8 0, .int .u8 0, .int .u8 0] 117)) := (Below.refl _ _).alloc (Nat.le_refl _) _
          go_wp2_with fail
          clear s0 s1 s2 s3 s4 s5 s6 s7 hx6
          go_loopw [37] (fun i w7 => ∃ t : Nat, t ≤ 8 ∧ i = .int .i64 t ∧ Blk w7 w6.heap.size 117 (dcs U t) ∧ Below w6.heap.size w6 w7) (fun i _ => 8 - (intOf i).toNat)
          case atStart => exact ⟨0, by omega, rfl, hd0, hg0⟩
          case round =>
            clear hd0 hg0
            obtain ⟨t, ht, rfl, hd, hg⟩ := hrel
            by_cases hlt : t < 8
            case pos =>
              have hix := ix_word U t hlt
              have hset := dcs_set U t hlt
              generalize U.l.getD t 0 = x at hix hset
              rw [by_24, by_16, by_8, by_0] at hset
              have HSET := Lib.hid hset
              have z0 := hd.cell (4 * t + 0) (dcs_at U t 0 hlt (by decide))
              have z1 := hd.cell (4 * t + 1) (dcs_at U t 1 hlt (by decide))
              have z2 := hd.cell (4 * t + 2) (dcs_at U t 2 hlt (by decide))
              have z3 := hd.cell (4 * t + 3) (dcs_at U t 3 hlt (by decide))
              have f0 := hd.frozen (4 * t + 0)
              have f1 := hd.frozen (4 * t + 1)
              have f2 := hd.frozen (4 * t + 2)
              have f3 := hd.frozen (4 * t + 3)
              rw [Nat.add_zero] at z0 f0
              have e0 : IntKind.i64.wrap (4 * (t : Int)) = 4 * (t : Int) := IntWalk.i64_in _ (by omega)
              have e1 : (0 : Int) ≤ 4 * (t : Int) := by omega
              have e2 : 4 * (t : Int) + 3 < 32 := by omega
              have e3 : (4 * (t : Int)).toNat = 4 * t := by omega
              have e4 : (4 * (t : Int) + 1).toNat = 4 * t + 1 := by omega
              have e5 : (4 * (t : Int) + 2).toNat = 4 * t + 2 := by omega
              have e6 : (4 * (t : Int) + 3).toNat = 4 * t + 3 := by omega
              have hxb := u32_lt x
              have HD := Lib.hid hd
              clear hset hd
              go_wp2_with fail
              go_roundw
              case rel => exact ⟨t + 1, by omega, by go_num, by rw [← HSET.out]; exact (((HD.out.set _ _).set _ _).set _ _).set _ _, (((hg.setCell (Nat.le_refl _) _).setCell (Nat.le_refl _) _).setCell (Nat.le_refl _) _).setCell (Nat.le_refl _) _⟩
              case measure => simp [intOf]; omega
            case neg =>
              have hd8 : Blk wr w6.heap.size 117 (dcs U 8) := by rw [show 8 = t from by omega]; exact hd
              rw [dcs_full] at hd8
              have hr9 := hr6.below hg hr6.lt
              have hb9 := hb6.trans (hg.mono hb6.size)
              have hl32 : (Lib.byteCells (dig U)).length = 32 := by rw [bc_length]; rfl
              have hol : (List.replicate 32 (Value.int .u8 0)).length = (Lib.byteCells (dig U)).length := by rw [hl32, List.length_replicate]
              have hsz : (Tryz.prog.info? 117).map (·.size) = some (Lib.byteCells (dig U)).length := by rw [hl32]; kernel_rfl
              have hsz2 : (Tryz.prog.info? 117).map (·.size) = some (Lib.byteCells (dig U)).toArray.size := by rw [List.size_toArray]; exact hsz
              have HSZ := Lib.hid (And.intro hol (And.intro hsz hsz2))
              clear hol hsz hsz2 hl32
              clear hd hg hr6 hb6
              go_wp2_with (first | (with_reducible refine wpList_load_blk rfl 117 (.tmp 6) rfl w6.heap.size rfl 117 (Lib.byteCells (dig U)) _ hd8 Tryz.underlying117 rfl HSZ.out.2.1 ?_) | (with_reducible refine wpList_store_blk rfl 117 (.tmp 2) (.tmp 68) rfl (w.heap.size + 1) (Lib.byteCells (dig U)) rfl rfl 117 _ hr9 HSZ.out.2.1 HSZ.out.1 (byte_one _) ?_))
              intro wC hxC hgC
              have hbC : Below w.heap.size w wC := hb9.grown hgC hb9.size (fun k e => by cases e; omega)
              clear hgC hd8 hr9 hb9
              go_wp2_with fail
              try simp only [Exit.inBlock, Exit.then]
              refine bodyPost_ret (results_cell_row rfl _ _ (w.heap.size + 1) 117 (Lib.byteCells (dig U)).toArray (0, 0) _ rfl hxC Tryz.underlying117 rfl HSZ.out.2.2) rfl ?_
              exact ⟨by rw [HSHA.out], hbC⟩
end Go.Proofs.YtffllacphfapnaaGreatDoor
