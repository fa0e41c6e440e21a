/-
  Chapter 3: the keyed digest (the program's). Condition: all bytes together are fewer than 2^58.
-/
import Derived.Test.YtffllacphfapnaaGreatDoorG15
import Derived.Test.YtffllacphfapnaaGreatDoorG07
namespace Go.Proofs.YtffllacphfapnaaGreatDoor
open Go.RowKit Sh

/-- the copy, whatever its length -/
theorem wpList_copy_any {P : Program} {w : World} {ops : Array Oper} {rest : List Oper} {o : Oper} {a : Act} {Q : Exit → Act → World → Prop} (hgd : o.guard = none) (d s : Operand) (dT sT : TypeId)
    (ho : o.op = .call { callee := .builtin .copy, args := #[d, s], argTypes := #[dT, sT] }) (elem : TypeId) (hu : P.underlying dT = some (.slice elem)) (hsz : (P.info? elem).map (·.size) = some 1)
    (g off dLen dCap sLen : Nat) (hd : a.eval d = .slice (some ⟨g, off, none⟩) dLen dCap) (v : Value) (hs : a.eval s = v) (xs : By) (hx : Rd w 1 v sLen (Lib.byteCells xs))
    (cur : List Value) (t : TypeId) (hg : Blk w g t cur) (hfit : off + Nat.min sLen dLen ≤ cur.length)
    (h : ∀ w', Blk w' g t (splice cur off (Lib.byteCells (xs.take dLen))) → w.grownBy w' (some g) → wpList P ops Q rest (a.put o.dst (.int .i64 ((Nat.min sLen dLen : Nat) : Int))) w') : wpList P ops Q (o :: rest) a w := by
  have hxl : xs.length = sLen := by have := hx.1; rw [bc_length] at this; omega
  have hml : Nat.min sLen dLen = min sLen dLen := rfl
  have hcl : (Lib.byteCells (xs.take dLen)).length = Nat.min sLen dLen := by rw [bc_length, List.length_take, hxl, Nat.min_comm]
  rcases hx.2 with ⟨⟨sa, sc, rfl⟩, rfl⟩ | ⟨b', o', c', rfl, hc, hcells⟩
  · refine wpList_copy_nothing hgd d s dT sT ho elem hu hsz _ _ dLen dCap 0 sc hd hs (Nat.zero_min _) ?_
    have hz : xs = [] := List.eq_nil_of_length_eq_zero hxl
    subst hz
    refine h w ?_ (World.grownBy.refl _ _)
    have : splice cur off (Lib.byteCells (([] : By).take dLen)) = cur := by simp [splice, Lib.byteCells]
    rw [this]; exact hg
  · refine wpList_copy_grow hgd d s dT sT ho elem hu hsz g off dLen dCap ⟨b', o', none⟩ sLen c' hd hs cur t hg (Lib.byteCells (xs.take dLen)) hcl (fun j u hj => ?_) (by rw [hcl]; exact hfit) (byte_one _) (fun w' h1 h2 => ?_)
    · rw [Addr.add_lit]
      refine hcells j u ?_
      have hj2 := (List.getElem?_eq_some_iff.1 hj).1
      rw [hcl] at hj2
      have hj3 : j < dLen := Nat.lt_of_lt_of_le hj2 (Nat.min_le_right _ _)
      unfold Lib.byteCells at hj ⊢
      rw [List.getElem?_map, List.getElem?_take_of_lt hj3] at hj
      rw [List.getElem?_map]; exact hj
    · have := h w' h1 h2
      unfold goInt; rw [hcl]; exact this
theorem xor_w8 (x y : UInt8) : bits .xor .u8 (x.toNat : Int) (y.toNat : Int) = ((x ^^^ y).toNat : Int) := by
  have key : ∀ x : UInt8, BitVec.ofInt 8 (x.toNat : Int) = x.toBitVec := fun x => by apply BitVec.eq_of_toNat_eq; simp
  show IntKind.u8.wrap ((BitVec.ofInt 8 (x.toNat : Int) ^^^ BitVec.ofInt 8 (y.toNat : Int)).toNat : Int) = _
  rw [key, key, IntKind.wrap_u8]
  have := (x ^^^ y).toNat_lt
  show ((x ^^^ y).toNat : Int) % 256 = _
  omega
/-- a key, laid over zeros -/
theorem splice_key (k : By) (h : k.length ≤ 64) : splice (List.replicate 64 (Value.int .u8 0)) 0 (Lib.byteCells (k.take 64)) = Lib.byteCells (k ++ List.replicate (64 - k.length) 0) := by
  rw [List.take_of_length_le h]
  unfold splice
  rw [bc_append, bc_length, List.take_zero, List.nil_append, Nat.zero_add, List.drop_replicate]
  simp [Lib.byteCells]
theorem rd_grown {w w' : World} {v : Value} {n : Nat} {b : By} {g : Nat} (h : Rd w 1 v n (Lib.byteCells b)) (hg : w.grownBy w' (some g)) (hne : ∀ bb o n c, v = .slice (some ⟨bb, o, none⟩) n c → b ≠ [] → bb ≠ g) : Rd w' 1 v n (Lib.byteCells b) := by
  refine ⟨h.1, ?_⟩
  have hlt := rd_lt h
  rcases h.2 with h2 | ⟨bb, o, c, rfl, hc, hcells⟩
  · exact .inl h2
  · refine .inr ⟨bb, o, c, rfl, hc, fun j u hj => ?_⟩
    have hb0 : b ≠ [] := by rintro rfl; simp [Lib.byteCells] at hj
    rw [grown_cell hg (hlt bb o _ _ rfl hb0) (hne bb o _ _ rfl hb0)]
    exact hcells j u hj
theorem bs_row : (Tryz.prog.info? 36).map (fun i => (i.zero, i.size, i.bytes)) = some (some (.slice none 0 0), 1, 24) := by kernel_rfl
theorem info_parts3 {P : Program} {t : TypeId} {z : Value} {s b : Nat} (h : (P.info? t).map (fun i => (i.zero, i.size, i.bytes)) = some (some z, s, b)) : ∃ i, P.info? t = some i ∧ i.zero = some z ∧ i.size = s ∧ i.bytes = b := by
  cases hi : P.info? t with
  | none => rw [hi] at h; cases h
  | some i => rw [hi] at h; simp at h; exact ⟨i, rfl, h.1, h.2.1, h.2.2⟩
theorem own_oneH (w : World) (t : TypeId) (c : Value) : (w.alloc (.cells #[c] t)).ownsRow w.heap.size t 1 (.slice (some ⟨w.heap.size, 0, none⟩) 1 1) 1 [c] :=
  ⟨by simp, .inr ⟨w.heap.size, 1, #[c], rfl, Nat.le_refl _, heap_alloc_new w _, Nat.le_refl _, by simp [maxLen], by simp, by simp⟩⟩
/-- a key under way: its first t bytes laid against c -/
def xk (c : UInt8) (K : By) (t : Nat) : By := (K.take t).map (· ^^^ c) ++ K.drop t
theorem xk_zero (c : UInt8) (K : By) : xk c K 0 = K := by simp [xk]
theorem xk_full (c : UInt8) (K : By) (t : Nat) (h : K.length ≤ t) : xk c K t = K.map (· ^^^ c) := by simp [xk, List.take_of_length_le h, List.drop_eq_nil_of_le h]
theorem xk_at (c : UInt8) (K : By) (t : Nat) (h : t < K.length) : (Lib.byteCells (xk c K t))[t]? = some (.int .u8 ((K[t]).toNat : Int)) := by
  unfold xk Lib.byteCells
  rw [List.getElem?_map, List.getElem?_append_right (by rw [List.length_map, List.length_take]; omega), List.length_map, List.length_take, Nat.min_eq_left (Nat.le_of_lt h), Nat.sub_self, List.getElem?_drop, Nat.add_zero, List.getElem?_eq_getElem h]; rfl
theorem xk_set (c : UInt8) (K : By) (t : Nat) (h : t < K.length) : (Lib.byteCells (xk c K t)).set t (.int .u8 ((K[t] ^^^ c).toNat : Int)) = Lib.byteCells (xk c K (t + 1)) := by
  have h1 : xk c K (t + 1) = (K.take t).map (· ^^^ c) ++ (K[t] ^^^ c) :: K.drop (t + 1) := by
    unfold xk; rw [List.take_succ_eq_append_getElem h, List.map_append, List.append_assoc]; rfl
  rw [h1]
  unfold xk Lib.byteCells
  rw [List.map_append, List.map_append, List.set_append_right _ _ (by rw [List.length_map, List.length_map, List.length_take]; omega), List.length_map, List.length_map, List.length_take, Nat.min_eq_left (Nat.le_of_lt h), Nat.sub_self, List.drop_eq_getElem_cons h]; rfl
theorem wpList_copy_key {P : Program} {w : World} {ops : Array Oper} {rest : List Oper} {o : Oper} {a : Act} {Q : Exit → Act → World → Prop} (hgd : o.guard = none) (d s : Operand) (dT sT : TypeId)
    (ho : o.op = .call { callee := .builtin .copy, args := #[d, s], argTypes := #[dT, sT] }) (elem : TypeId) (hu : P.underlying dT = some (.slice elem)) (hsz : (P.info? elem).map (·.size) = some 1)
    (g sLen : Nat) (hd : a.eval d = .slice (some ⟨g, 0, none⟩) 64 64) (v : Value) (hs : a.eval s = v) (k xs : By) (hx : Rd w 1 v sLen (Lib.byteCells xs))
    (t : TypeId) (hg : Blk w g t (List.replicate 64 (.int .u8 0))) (h64 : xs.length ≤ 64) (hk : key k = xs ++ List.replicate (64 - xs.length) 0)
    (h : ∀ w', Blk w' g t (Lib.byteCells (key k)) → w.grownBy w' (some g) → wpList P ops Q rest (a.put o.dst (.int .i64 ((Nat.min sLen 64 : Nat) : Int))) w') : wpList P ops Q (o :: rest) a w :=
  wpList_copy_any hgd d s dT sT ho elem hu hsz g 0 64 64 sLen hd v hs xs hx _ t hg (by rw [List.length_replicate, Nat.zero_add]; exact Nat.min_le_right _ _) (fun w' h1 h2 => h w' (by rw [splice_key _ h64, ← hk] at h1; exact h1) h2)
theorem xk_len (c : UInt8) (K : By) (t : Nat) : (xk c K t).length = K.length := by simp [xk]; omega

set_option maxRecDepth 20000 in
set_option maxHeartbeats 4000000 in
theorem mac_any (kv pv : Value) (k m : By) (w : World) (hk : Rd w 1 kv k.length (Lib.byteCells k)) (hp : RdP w pv [m]) (hkl : k.length ≤ 288230376151711744) (hml : m.length ≤ 288230376151711744) :
    Calls Tryz.prog 68 #[kv, pv] w fun e w' => e = .returned (.agg (Lib.byteCells (mac k m)).toArray) ∧ Below w.heap.size w w' := by
  obtain ⟨ka, kc, hkv⟩ := hk.slice
  subst hkv
  have hpv : ∃ a c, pv = .slice a 1 c := by obtain ⟨vs, h1, _⟩ := hp; exact h1.slice
  obtain ⟨pa, pc, rfl⟩ := hpv
  have hr0 : Blk (w.alloc (.cells #[.int .u8 0, .int .u8 0, .int .u8 0, .int .u8 0, .int .u8 0, .int .u8 0, .int .u8 0, .int .u8 0, .int .u8 0, .int .u8 0, .int .u8 0, .int .u8 0, .int .u8 0, .int .u8 0, .int .u8 0, .int .u8 0, .int .u8 0, .int .u8 0, .int .u8 0, .int .u8 0, .int .u8 0, .int .u8 0, .int .u8 0, .int .u8 0, .int .u8 0, .int .u8 0, .int .u8 0, .int .u8 0, .int .u8 0, .int .u8 0, .int .u8 0, .int .u8 0] 117)) w.heap.size 117 (List.replicate 32 (.int .u8 0)) := Blk.new w _ _
  have hb0 : Below w.heap.size w (w.alloc (.cells #[.int .u8 0, .int .u8 0, .int .u8 0, .int .u8 0, .int .u8 0, .int .u8 0, .int .u8 0, .int .u8 0, .int .u8 0, .int .u8 0, .int .u8 0, .int .u8 0, .int .u8 0, .int .u8 0, .int .u8 0, .int .u8 0, .int .u8 0, .int .u8 0, .int .u8 0, .int .u8 0, .int .u8 0, .int .u8 0, .int .u8 0, .int .u8 0, .int .u8 0, .int .u8 0, .int .u8 0, .int .u8 0, .int .u8 0, .int .u8 0, .int .u8 0, .int .u8 0] 117)) := (Below.refl _ _).alloc (Nat.le_refl _) _
  have HK := Lib.hid hk
  have HP := Lib.hid hp
  clear hk hp
  by_cases hlong : 64 < k.length
  case pos =>
    have hl : (64 : Int) < (k.length : Int) := by omega
    have hz32 : (List.replicate 32 (Value.int .u8 0)).length = (Lib.byteCells (sha k)).length := by rw [bc_length, sha_len, List.length_replicate]
    have hsz : (Tryz.prog.info? 117).map (·.size) = some (Lib.byteCells (sha k)).length := by rw [bc_length, sha_len]; kernel_rfl
    have HSZ := Lib.hid (And.intro hz32 hsz)
    have HKEY : Hid (key k = sha k ++ List.replicate (64 - (sha k).length) 0) := Lib.hid (by unfold key; simp only [if_pos (show k.length > 64 from hlong)])
    clear hz32 hsz hlong
    go_enter Tryz.func68, Tryz.ntmps68
    go_wp2_with fail
    refine (sum1_any _ k _ (HK.out.below hb0) (by omega)).mono ?_
    rintro e w1 ⟨rfl, hc1⟩
    have hr1 := hr0.below hc1 hr0.lt
    have hb1 := hb0.trans (hc1.mono hb0.size)
    have hz1 : Blk (w1.alloc (.cells #[.int .u8 0, .int .u8 0, .int .u8 0, .int .u8 0, .int .u8 0, .int .u8 0, .int .u8 0, .int .u8 0, .int .u8 0, .int .u8 0, .int .u8 0, .int .u8 0, .int .u8 0, .int .u8 0, .int .u8 0, .int .u8 0, .int .u8 0, .int .u8 0, .int .u8 0, .int .u8 0, .int .u8 0, .int .u8 0, .int .u8 0, .int .u8 0, .int .u8 0, .int .u8 0, .int .u8 0, .int .u8 0, .int .u8 0, .int .u8 0, .int .u8 0, .int .u8 0] 117)) w1.heap.size 117 (List.replicate 32 (.int .u8 0)) := Blk.new w1 _ _
    clear hc1 hr0 hb0
    go_wp2_with (with_reducible refine wpList_store_blk rfl 117 (.tmp 5) (.tmp 14) rfl w1.heap.size (Lib.byteCells (sha k)) rfl rfl 117 _ hz1 HSZ.out.2 HSZ.out.1 (byte_one _) ?_)
    intro wB hxB hgB
    have hrB := (hr1.alloc (.cells #[.int .u8 0, .int .u8 0, .int .u8 0, .int .u8 0, .int .u8 0, .int .u8 0, .int .u8 0, .int .u8 0, .int .u8 0, .int .u8 0, .int .u8 0, .int .u8 0, .int .u8 0, .int .u8 0, .int .u8 0, .int .u8 0, .int .u8 0, .int .u8 0, .int .u8 0, .int .u8 0, .int .u8 0, .int .u8 0, .int .u8 0, .int .u8 0, .int .u8 0, .int .u8 0, .int .u8 0, .int .u8 0, .int .u8 0, .int .u8 0, .int .u8 0, .int .u8 0] 117)).grown hgB (fun r hr e => by cases hr; have := hr1.lt; omega)
    have hbB : Below w.heap.size w wB := (hb1.alloc hb1.size _).grown hgB (Nat.le_trans hb1.size (by simp)) (fun k e => by cases e; exact hb1.size)
    have hkd := blk_rd hxB 32 (sha_len k)
    obtain ⟨k2, hk2⟩ : ∃ k2, k2 = sha k := ⟨_, rfl⟩
    have hl2 : k2.length = 32 := by rw [hk2]; exact sha_len k
    rw [← hk2] at hkd HKEY
    have HKV := Lib.hid hkd
    have HK2 : Hid (k2.length ≤ 64) := Lib.hid (by omega)
    clear hr1 hz1 hb1 hgB hxB hkd hk2 hl2
    have hi0 : Blk ((wB.alloc (.cells #[.int .u8 0, .int .u8 0, .int .u8 0, .int .u8 0, .int .u8 0, .int .u8 0, .int .u8 0, .int .u8 0, .int .u8 0, .int .u8 0, .int .u8 0, .int .u8 0, .int .u8 0, .int .u8 0, .int .u8 0, .int .u8 0, .int .u8 0, .int .u8 0, .int .u8 0, .int .u8 0, .int .u8 0, .int .u8 0, .int .u8 0, .int .u8 0, .int .u8 0, .int .u8 0, .int .u8 0, .int .u8 0, .int .u8 0, .int .u8 0, .int .u8 0, .int .u8 0, .int .u8 0, .int .u8 0, .int .u8 0, .int .u8 0, .int .u8 0, .int .u8 0, .int .u8 0, .int .u8 0, .int .u8 0, .int .u8 0, .int .u8 0, .int .u8 0, .int .u8 0, .int .u8 0, .int .u8 0, .int .u8 0, .int .u8 0, .int .u8 0, .int .u8 0, .int .u8 0, .int .u8 0, .int .u8 0, .int .u8 0, .int .u8 0, .int .u8 0, .int .u8 0, .int .u8 0, .int .u8 0, .int .u8 0, .int .u8 0, .int .u8 0, .int .u8 0] 140)).alloc (.cells #[.int .u8 0, .int .u8 0, .int .u8 0, .int .u8 0, .int .u8 0, .int .u8 0, .int .u8 0, .int .u8 0, .int .u8 0, .int .u8 0, .int .u8 0, .int .u8 0, .int .u8 0, .int .u8 0, .int .u8 0, .int .u8 0, .int .u8 0, .int .u8 0, .int .u8 0, .int .u8 0, .int .u8 0, .int .u8 0, .int .u8 0, .int .u8 0, .int .u8 0, .int .u8 0, .int .u8 0, .int .u8 0, .int .u8 0, .int .u8 0, .int .u8 0, .int .u8 0, .int .u8 0, .int .u8 0, .int .u8 0, .int .u8 0, .int .u8 0, .int .u8 0, .int .u8 0, .int .u8 0, .int .u8 0, .int .u8 0, .int .u8 0, .int .u8 0, .int .u8 0, .int .u8 0, .int .u8 0, .int .u8 0, .int .u8 0, .int .u8 0, .int .u8 0, .int .u8 0, .int .u8 0, .int .u8 0, .int .u8 0, .int .u8 0, .int .u8 0, .int .u8 0, .int .u8 0, .int .u8 0, .int .u8 0, .int .u8 0, .int .u8 0, .int .u8 0] 140)) wB.heap.size 140 (List.replicate 64 (.int .u8 0)) := by
      have h := (Blk.new wB 140 (List.replicate 64 (.int .u8 0))).alloc (.cells (List.replicate 64 (.int .u8 0)).toArray 140)
      try rw [World.size_alloc] at h
      exact h
    have ho0 : Blk ((wB.alloc (.cells #[.int .u8 0, .int .u8 0, .int .u8 0, .int .u8 0, .int .u8 0, .int .u8 0, .int .u8 0, .int .u8 0, .int .u8 0, .int .u8 0, .int .u8 0, .int .u8 0, .int .u8 0, .int .u8 0, .int .u8 0, .int .u8 0, .int .u8 0, .int .u8 0, .int .u8 0, .int .u8 0, .int .u8 0, .int .u8 0, .int .u8 0, .int .u8 0, .int .u8 0, .int .u8 0, .int .u8 0, .int .u8 0, .int .u8 0, .int .u8 0, .int .u8 0, .int .u8 0, .int .u8 0, .int .u8 0, .int .u8 0, .int .u8 0, .int .u8 0, .int .u8 0, .int .u8 0, .int .u8 0, .int .u8 0, .int .u8 0, .int .u8 0, .int .u8 0, .int .u8 0, .int .u8 0, .int .u8 0, .int .u8 0, .int .u8 0, .int .u8 0, .int .u8 0, .int .u8 0, .int .u8 0, .int .u8 0, .int .u8 0, .int .u8 0, .int .u8 0, .int .u8 0, .int .u8 0, .int .u8 0, .int .u8 0, .int .u8 0, .int .u8 0, .int .u8 0] 140)).alloc (.cells #[.int .u8 0, .int .u8 0, .int .u8 0, .int .u8 0, .int .u8 0, .int .u8 0, .int .u8 0, .int .u8 0, .int .u8 0, .int .u8 0, .int .u8 0, .int .u8 0, .int .u8 0, .int .u8 0, .int .u8 0, .int .u8 0, .int .u8 0, .int .u8 0, .int .u8 0, .int .u8 0, .int .u8 0, .int .u8 0, .int .u8 0, .int .u8 0, .int .u8 0, .int .u8 0, .int .u8 0, .int .u8 0, .int .u8 0, .int .u8 0, .int .u8 0, .int .u8 0, .int .u8 0, .int .u8 0, .int .u8 0, .int .u8 0, .int .u8 0, .int .u8 0, .int .u8 0, .int .u8 0, .int .u8 0, .int .u8 0, .int .u8 0, .int .u8 0, .int .u8 0, .int .u8 0, .int .u8 0, .int .u8 0, .int .u8 0, .int .u8 0, .int .u8 0, .int .u8 0, .int .u8 0, .int .u8 0, .int .u8 0, .int .u8 0, .int .u8 0, .int .u8 0, .int .u8 0, .int .u8 0, .int .u8 0, .int .u8 0, .int .u8 0, .int .u8 0] 140)) (wB.heap.size + 1) 140 (List.replicate 64 (.int .u8 0)) := by
      have h := Blk.new (wB.alloc (.cells #[.int .u8 0, .int .u8 0, .int .u8 0, .int .u8 0, .int .u8 0, .int .u8 0, .int .u8 0, .int .u8 0, .int .u8 0, .int .u8 0, .int .u8 0, .int .u8 0, .int .u8 0, .int .u8 0, .int .u8 0, .int .u8 0, .int .u8 0, .int .u8 0, .int .u8 0, .int .u8 0, .int .u8 0, .int .u8 0, .int .u8 0, .int .u8 0, .int .u8 0, .int .u8 0, .int .u8 0, .int .u8 0, .int .u8 0, .int .u8 0, .int .u8 0, .int .u8 0, .int .u8 0, .int .u8 0, .int .u8 0, .int .u8 0, .int .u8 0, .int .u8 0, .int .u8 0, .int .u8 0, .int .u8 0, .int .u8 0, .int .u8 0, .int .u8 0, .int .u8 0, .int .u8 0, .int .u8 0, .int .u8 0, .int .u8 0, .int .u8 0, .int .u8 0, .int .u8 0, .int .u8 0, .int .u8 0, .int .u8 0, .int .u8 0, .int .u8 0, .int .u8 0, .int .u8 0, .int .u8 0, .int .u8 0, .int .u8 0, .int .u8 0, .int .u8 0] 140)) 140 (List.replicate 64 (.int .u8 0))
      rw [World.size_alloc] at h
      try rw [World.size_alloc] at h
      exact h
    have hbz : Below wB.heap.size wB ((wB.alloc (.cells #[.int .u8 0, .int .u8 0, .int .u8 0, .int .u8 0, .int .u8 0, .int .u8 0, .int .u8 0, .int .u8 0, .int .u8 0, .int .u8 0, .int .u8 0, .int .u8 0, .int .u8 0, .int .u8 0, .int .u8 0, .int .u8 0, .int .u8 0, .int .u8 0, .int .u8 0, .int .u8 0, .int .u8 0, .int .u8 0, .int .u8 0, .int .u8 0, .int .u8 0, .int .u8 0, .int .u8 0, .int .u8 0, .int .u8 0, .int .u8 0, .int .u8 0, .int .u8 0, .int .u8 0, .int .u8 0, .int .u8 0, .int .u8 0, .int .u8 0, .int .u8 0, .int .u8 0, .int .u8 0, .int .u8 0, .int .u8 0, .int .u8 0, .int .u8 0, .int .u8 0, .int .u8 0, .int .u8 0, .int .u8 0, .int .u8 0, .int .u8 0, .int .u8 0, .int .u8 0, .int .u8 0, .int .u8 0, .int .u8 0, .int .u8 0, .int .u8 0, .int .u8 0, .int .u8 0, .int .u8 0, .int .u8 0, .int .u8 0, .int .u8 0, .int .u8 0] 140)).alloc (.cells #[.int .u8 0, .int .u8 0, .int .u8 0, .int .u8 0, .int .u8 0, .int .u8 0, .int .u8 0, .int .u8 0, .int .u8 0, .int .u8 0, .int .u8 0, .int .u8 0, .int .u8 0, .int .u8 0, .int .u8 0, .int .u8 0, .int .u8 0, .int .u8 0, .int .u8 0, .int .u8 0, .int .u8 0, .int .u8 0, .int .u8 0, .int .u8 0, .int .u8 0, .int .u8 0, .int .u8 0, .int .u8 0, .int .u8 0, .int .u8 0, .int .u8 0, .int .u8 0, .int .u8 0, .int .u8 0, .int .u8 0, .int .u8 0, .int .u8 0, .int .u8 0, .int .u8 0, .int .u8 0, .int .u8 0, .int .u8 0, .int .u8 0, .int .u8 0, .int .u8 0, .int .u8 0, .int .u8 0, .int .u8 0, .int .u8 0, .int .u8 0, .int .u8 0, .int .u8 0, .int .u8 0, .int .u8 0, .int .u8 0, .int .u8 0, .int .u8 0, .int .u8 0, .int .u8 0, .int .u8 0, .int .u8 0, .int .u8 0, .int .u8 0, .int .u8 0] 140)) := ((Below.refl _ _).alloc (Nat.le_refl _) _).alloc (by simp) _
    have hgi : wB.heap.size = wB.heap.size := by simp
    have hkz := HKV.out.below hbz
    have hklt := rd_lt HKV.out
    have hrz := hrB.below hbz hrB.lt
    have hrlt := hrB.lt
    have hbw := hbB.trans (hbz.mono hbB.size)
    have hgw := hbB.size
    rw [← hgi] at hklt hrlt hgw
    have HQ := Lib.hid (And.intro hklt (And.intro hrlt hgw))
    clear hbz hgi hklt hrlt hgw hrB hbB HKV
    go_wp2_with (with_reducible refine wpList_copy_key rfl (.tmp 16) (.tmp 17) 36 36 rfl 5 Tryz.underlying36 (by kernel_rfl) (wB.heap.size) 32 rfl (.slice (some ⟨w1.heap.size, 0, none⟩) 32 32) rfl k k2 hkz 140 hi0 HK2.out HKEY.out ?_)
    intro w3 hi3 hg3
    generalize hgi : wB.heap.size = gi at *
    have ho3 := ho0.grown hg3 (fun r hr e => by cases hr; omega)
    have hr3 := hrz.grown hg3 (fun r hr e => by cases hr; have := HQ.out.2.1; omega)
    have hb3 := hbw.grown hg3 hbw.size (fun r e => by cases e; exact HQ.out.2.2)
    have HK3 := Lib.hid (rd_grown hkz hg3 (fun bb o n c e h0 => by have := HQ.out.1 bb o n c e h0; omega))
    clear hkz hrz hbw hi0 ho0 hg3 hgi
    go_wp2_with (with_reducible refine wpList_copy_key rfl (.tmp 19) (.tmp 20) 36 36 rfl 5 Tryz.underlying36 (by kernel_rfl) (gi + 1) 32 rfl (.slice (some ⟨w1.heap.size, 0, none⟩) 32 32) rfl k k2 HK3.out 140 ho3 HK2.out HKEY.out ?_)
    intro w4 ho4 hg4
    have hi4 := hi3.grown hg4 (fun r hr e => by cases hr; omega)
    have hr4 := hr3.grown hg4 (fun r hr e => by cases hr; have := HQ.out.2.1; omega)
    have hb4 := hb3.grown hg4 hb3.size (fun r e => by cases e; have := HQ.out.2.2; omega)
    have hp4 := HP.out.below hb4
    have hq : w.heap.size < gi := HQ.out.2.1
    clear ho3 hg4 hi3 hr3 hb3 HK3 HQ HKEY HK2 hl
    have hkl6 : (key k).length = 64 := key_len k
    have hi5 : Blk w4 gi 140 (Lib.byteCells (xk 0x36 (key k) 0)) := by rw [xk_zero]; exact hi4
    have ho5 : Blk w4 (gi + 1) 140 (Lib.byteCells (xk 0x5c (key k) 0)) := by rw [xk_zero]; exact ho4
    have HPP := Lib.hid hp4
    clear hi4 ho4 hp4
    go_wp2_with fail
    go_loopw [22] (fun i wr => ∃ t : Nat, t ≤ 64 ∧ i = .int .i64 t ∧ Blk wr gi 140 (Lib.byteCells (xk 0x36 (key k) t)) ∧ Blk wr (gi + 1) 140 (Lib.byteCells (xk 0x5c (key k) t)) ∧ Blk wr w.heap.size 117 (List.replicate 32 (.int .u8 0)) ∧ Below w.heap.size w wr) (fun i _ => 64 - (intOf i).toNat)
    case atStart => exact ⟨0, by omega, rfl, hi5, ho5, hr4, hb4⟩
    case round =>
      clear hi5 ho5 hr4 hb4 HPP
      obtain ⟨t, ht, rfl, hi, ho, hr, hb⟩ := hrel
      by_cases hlt : t < 64
      case pos =>
        have hlt2 : t < (key k).length := by omega
        obtain ⟨x, hx⟩ : ∃ x, x = (key k)[t] := ⟨_, rfl⟩
        have z0 := hi.cell t (xk_at 0x36 (key k) t hlt2)
        have z1 := hi.frozen t
        have z2 := ho.cell t (xk_at 0x5c (key k) t hlt2)
        have z3 := ho.frozen t
        have s0 := xk_set 0x36 (key k) t hlt2
        have s1 := xk_set 0x5c (key k) t hlt2
        rw [← hx] at z0 z2 s0 s1
        obtain ⟨y, hy, e1⟩ : ∃ y : UInt8, y = x ^^^ 0x36 ∧ bits .xor .u8 (x.toNat : Int) 54 = (y.toNat : Int) := ⟨_, rfl, xor_w8 x 0x36⟩
        obtain ⟨y2, hy2, e2⟩ : ∃ y : UInt8, y = x ^^^ 0x5c ∧ bits .xor .u8 (x.toNat : Int) 92 = (y.toNat : Int) := ⟨_, rfl, xor_w8 x 0x5c⟩
        rw [← hy] at s0
        rw [← hy2] at s1
        have S0 := Lib.hid s0
        have S1 := Lib.hid s1
        have e7 : (t : Int) < 64 := by omega
        clear s0 s1 hx hy hy2
        go_wp2_with fail
        go_roundw
        case rel => exact ⟨t + 1, by omega, by go_num, by rw [← S0.out]; exact (hi.set t _).setOther _ _ (by simp), by rw [← S1.out]; exact (ho.setOther _ _ (by simp)).set t _, (hr.setOther _ _ (by simp; omega)).setOther _ _ (by simp; omega), (hb.setCell (by simp; omega) _).setCell (by simp; omega) _⟩
        case measure => simp [intOf]; omega
      case neg =>
        obtain ⟨ik, hik⟩ : ∃ ik, ik = (key k).map (· ^^^ 0x36) := ⟨_, rfl⟩
        obtain ⟨ok, hok⟩ : ∃ ok, ok = (key k).map (· ^^^ 0x5c) := ⟨_, rfl⟩
        have hi8 : Blk wr gi 140 (Lib.byteCells ik) := by rw [hik, ← xk_full 0x36 (key k) t (by omega)]; exact hi
        have ho8 : Blk wr (gi + 1) 140 (Lib.byteCells ok) := by rw [hok, ← xk_full 0x5c (key k) t (by omega)]; exact ho
        have hil : ik.length = 64 := by rw [hik, List.length_map, hkl6]
        have hol : ok.length = 64 := by rw [hok, List.length_map, hkl6]
        have HMAC : Hid (mac k m = sha (ok ++ sha (ik ++ m))) := Lib.hid (by rw [hik, hok]; rfl)
        have HIL := Lib.hid (And.intro hil hol)
        obtain ⟨t2, ht2, ht3⟩ : ∃ x, x = t ∧ 64 ≤ x := ⟨t, rfl, by omega⟩
        subst ht2
        clear hi ho ht hil hol hkl6 hlt hik hok
        obtain ⟨i0, hinf, hz0, hz1, hz2⟩ := info_parts3 bs_row
        have hown := own_oneH wr 36 (.slice (some ⟨gi, 0, none⟩) 64 64)
        obtain ⟨vs, hv0, hvs0⟩ := HP.out
        have hbA : Below w.heap.size w (wr.alloc (.cells #[.slice (some ⟨gi, 0, none⟩) 64 64] 36)) := hb.alloc hb.size _
        have hvA := hv0.below hbA
        have hv1 : ∀ u ∈ vs, u.oneCell' = true := by
          intro u hu
          have hvl : vs.length = 1 := by rw [hv0.1]; rfl
          obtain ⟨n, hn⟩ := List.getElem?_of_mem hu
          have hn1 := (List.getElem?_eq_some_iff.1 hn).1
          obtain ⟨xa, xc, hxv⟩ := (hvs0 n u m hn (by rw [show n = 0 from by omega]; rfl)).slice
          rw [hxv]; rfl
        have HV := Lib.hid (And.intro hvs0 (And.intro hv0 (And.intro hvA hv1)))
        have hbase : wr.heap.size ≤ (wr.alloc (.cells #[.slice (some ⟨gi, 0, none⟩) 64 64] 36)).heap.size := by rw [World.size_alloc]; omega
        clear hv0 hvs0 hvA hv1
        go_wp2_with (at_builtin; go_loud (refine wpList_app rfl (.tmp 37) (.tmp 38) 138 rfl 36 wr.heap.size i0 (.slice none 0 0) 1 24 Tryz.underlying138 hinf hz0 hz1 hz2 rfl (by decide) _ _ _ rfl hown (.slice pa 1 pc) 1 vs rfl HV.out.2.2.1 HV.out.2.2.2 (by decide) (by decide) hbase ?_))
        rintro v5 w5 o5 hg5 -
        have hi5 := (hi8.alloc (.cells #[.slice (some ⟨gi, 0, none⟩) 64 64] 36)).grown hg5 (fun r hr e => by cases hr; change gi = wr.heap.size at e; have := hi8.lt; omega)
        have ho5 := (ho8.alloc (.cells #[.slice (some ⟨gi, 0, none⟩) 64 64] 36)).grown hg5 (fun r hr e => by cases hr; change gi + 1 = wr.heap.size at e; have := ho8.lt; omega)
        have hr5 := (hr.alloc (.cells #[.slice (some ⟨gi, 0, none⟩) 64 64] 36)).grown hg5 (fun r hr' e => by cases hr'; change w.heap.size = wr.heap.size at e; have := hr.lt; omega)
        have hb5 : Below w.heap.size w w5 := below_app hb hb.size hg5 (fun k e => by cases e; exact hb.size)
        have hP : RdP w5 v5 [ik, m] := by
          refine ⟨[.slice (some ⟨gi, 0, none⟩) 64 64] ++ vs, Rd.of_own o5, fun n x p hx hp => ?_⟩
          match n, hx, hp with
          | 0, hx, hp => cases hx; cases hp; rw [HIL.out.1]; exact blk_rd hi5 64 HIL.out.1
          | 1, hx, hp => cases hp; exact (HV.out.1 0 x m (by simpa using hx) rfl).below hb5
          | n + 2, hx, hp => simp at hp
        have HA := Lib.hid (all_any v5 [ik, m] w5 hP (by simp) (by simp [HIL.out.1]; omega))
        obtain ⟨a5, c5, hv5⟩ := (Rd.of_own o5).slice
        subst hv5
        clear hi8 ho8 hr hb hown hbA hbase hg5 o5 hP hi5 HV hinf hz0 hz1 hz2
        go_wp2_with fail
        refine HA.out.mono ?_
        rintro e w6 ⟨rfl, hc6⟩
        have hfl : [ik, m].flatten = ik ++ m := by simp
        rw [hfl]
        have ho6 := ho5.below hc6 ho5.lt
        have hr6 := hr5.below hc6 hr5.lt
        have hb6 := hb5.trans (hc6.mono hb5.size)
        obtain ⟨d1, hd1⟩ : ∃ d1, d1 = sha (ik ++ m) := ⟨_, rfl⟩
        have hdl : d1.length = 32 := by rw [hd1]; exact sha_len _
        rw [← hd1] at HMAC ⊢
        have hz32b : (List.replicate 32 (Value.int .u8 0)).length = (Lib.byteCells d1).length := by rw [bc_length, hdl, List.length_replicate]
        have hszb : (Tryz.prog.info? 117).map (·.size) = some (Lib.byteCells d1).length := by rw [bc_length, hdl]; kernel_rfl
        have HSB := Lib.hid (And.intro hz32b (And.intro hszb hdl))
        have hz6 : Blk (w6.alloc (.cells #[.int .u8 0, .int .u8 0, .int .u8 0, .int .u8 0, .int .u8 0, .int .u8 0, .int .u8 0, .int .u8 0, .int .u8 0, .int .u8 0, .int .u8 0, .int .u8 0, .int .u8 0, .int .u8 0, .int .u8 0, .int .u8 0, .int .u8 0, .int .u8 0, .int .u8 0, .int .u8 0, .int .u8 0, .int .u8 0, .int .u8 0, .int .u8 0, .int .u8 0, .int .u8 0, .int .u8 0, .int .u8 0, .int .u8 0, .int .u8 0, .int .u8 0, .int .u8 0] 117)) w6.heap.size 117 (List.replicate 32 (.int .u8 0)) := Blk.new w6 _ _
        clear hc6 ho5 hr5 hb5 HA hfl hd1 hdl hz32b hszb
        go_wp2_with (with_reducible refine wpList_store_blk rfl 117 (.tmp 9) (.tmp 40) rfl w6.heap.size (Lib.byteCells d1) rfl rfl 117 _ hz6 HSB.out.2.1 HSB.out.1 (byte_one _) ?_)
        intro w7 hx7 hg7
        have ho7 := (ho6.alloc (.cells #[.int .u8 0, .int .u8 0, .int .u8 0, .int .u8 0, .int .u8 0, .int .u8 0, .int .u8 0, .int .u8 0, .int .u8 0, .int .u8 0, .int .u8 0, .int .u8 0, .int .u8 0, .int .u8 0, .int .u8 0, .int .u8 0, .int .u8 0, .int .u8 0, .int .u8 0, .int .u8 0, .int .u8 0, .int .u8 0, .int .u8 0, .int .u8 0, .int .u8 0, .int .u8 0, .int .u8 0, .int .u8 0, .int .u8 0, .int .u8 0, .int .u8 0, .int .u8 0] 117)).grown hg7 (fun r hr e => by cases hr; have := ho6.lt; omega)
        have hr7 := (hr6.alloc (.cells #[.int .u8 0, .int .u8 0, .int .u8 0, .int .u8 0, .int .u8 0, .int .u8 0, .int .u8 0, .int .u8 0, .int .u8 0, .int .u8 0, .int .u8 0, .int .u8 0, .int .u8 0, .int .u8 0, .int .u8 0, .int .u8 0, .int .u8 0, .int .u8 0, .int .u8 0, .int .u8 0, .int .u8 0, .int .u8 0, .int .u8 0, .int .u8 0, .int .u8 0, .int .u8 0, .int .u8 0, .int .u8 0, .int .u8 0, .int .u8 0, .int .u8 0, .int .u8 0] 117)).grown hg7 (fun r hr e => by cases hr; have := hr6.lt; omega)
        have hb7 : Below w.heap.size w w7 := (hb6.alloc hb6.size _).grown hg7 (Nat.le_trans hb6.size (by simp)) (fun k e => by cases e; exact hb6.size)
        have hd7 := blk_rd hx7 32 HSB.out.2.2
        have ho9 := blk_rd ho7 64 HIL.out.2
        have hP2 : ∀ W, Below w7.heap.size w7 W → RdP (W.alloc (.cells #[.slice (some ⟨gi + 1, 0, none⟩) 64 64, .slice (some ⟨w6.heap.size, 0, none⟩) 32 32] 36)) (.slice (some ⟨W.heap.size, 0, none⟩) 2 2) [ok, d1] := by
          intro W hbW
          refine ⟨[.slice (some ⟨gi + 1, 0, none⟩) 64 64, .slice (some ⟨w6.heap.size, 0, none⟩) 32 32], ⟨rfl, .inr ⟨W.heap.size, 0, 2, rfl, Nat.le_refl _, fun j u hj => ?_⟩⟩, fun n x p hx hp => ?_⟩
          · have := cells_new W [.slice (some ⟨gi + 1, 0, none⟩) 64 64, .slice (some ⟨w6.heap.size, 0, none⟩) 32 32] 36 j u hj
            rw [Addr.add_lit] at this; exact this
          · have hbW2 := hbW.alloc hbW.size (.cells #[.slice (some ⟨gi + 1, 0, none⟩) 64 64, .slice (some ⟨w6.heap.size, 0, none⟩) 32 32] 36)
            match n, hx, hp with
            | 0, hx, hp => cases hx; cases hp; rw [HIL.out.2]; exact ho9.below hbW2
            | 1, hx, hp => cases hx; cases hp; rw [HSB.out.2.2]; exact hd7.below hbW2
            | n + 2, hx, hp => simp at hp
        have HPP2 := Lib.hid hP2
        clear ho6 hr6 hb6 hz6 hg7 hd7 ho9 hP2 hx7 ho7
        go_wp2_with fail
        go_still_tail 2, (by kernel_rfl)
        change wpList _ _ _ _ _ w7.drew
        have hb8 : Below w7.heap.size w7 w7.drew := (Below.refl _ _).drew
        have hA8 := all_any _ [ok, d1] _ (HPP2.out _ hb8) (by simp) (by simp [HIL.out.2, HSB.out.2.2])
        have hfl2 : [ok, d1].flatten = ok ++ d1 := by simp
        rw [hfl2, ← HMAC.out] at hA8
        have HA8 := Lib.hid hA8
        have hr8 := hr7.below hb8 hr7.lt
        have hbw8 := hb7.trans (hb8.mono hb7.size)
        clear hA8 hfl2 hb8 hr7 hb7
        generalize w7.drew = w8 at HA8 hr8 hbw8 ⊢
        go_wp2_with fail
        refine HA8.out.mono ?_
        rintro e w9 ⟨rfl, hc9⟩
        have hr9 := (hr8.alloc (.cells #[.slice (some ⟨gi + 1, 0, none⟩) 64 64, .slice (some ⟨w6.heap.size, 0, none⟩) 32 32] 36)).below hc9 (by have := hr8.lt; simp; omega)
        have hb9 : Below w.heap.size w w9 := (hbw8.alloc hbw8.size (.cells #[.slice (some ⟨gi + 1, 0, none⟩) 64 64, .slice (some ⟨w6.heap.size, 0, none⟩) 32 32] 36)).trans (hc9.mono (by have := hbw8.size; simp; omega))
        have hz32c : (List.replicate 32 (Value.int .u8 0)).length = (Lib.byteCells (mac k m)).length := by rw [bc_length, mac_len, List.length_replicate]
        have hszc : (Tryz.prog.info? 117).map (·.size) = some (Lib.byteCells (mac k m)).length := by rw [bc_length, mac_len]; kernel_rfl
        have hszd : (Tryz.prog.info? 117).map (·.size) = some (Lib.byteCells (mac k m)).toArray.size := by rw [List.size_toArray]; exact hszc
        have HSC := Lib.hid (And.intro hz32c (And.intro hszc hszd))
        clear hz32c hszc hszd hc9 hr8 hbw8 HA8 HMAC HPP2
        go_wp2_with (with_reducible refine wpList_store_blk rfl 117 (.tmp 4) (.tmp 44) rfl w.heap.size (Lib.byteCells (mac k m)) rfl rfl 117 _ hr9 HSC.out.2.1 HSC.out.1 (byte_one _) ?_)
        intro wC hxC hgC
        have hbC : Below w.heap.size w wC := hb9.grown hgC hb9.size (fun k e => by cases e; exact Nat.le_refl _)
        clear hgC hr9 hb9
        go_wp2_with fail
        try simp only [Exit.inBlock, Exit.then]
        refine bodyPost_ret (results_cell_row rfl _ _ w.heap.size 117 (Lib.byteCells (mac k m)).toArray (0, 0) _ rfl hxC Tryz.underlying117 rfl HSC.out.2.2) rfl ?_
        exact ⟨rfl, hbC⟩

  case neg =>
    have hl : ¬ (64 : Int) < (k.length : Int) := by omega
    have HKEY : Hid (key k = k ++ List.replicate (64 - k.length) 0) := Lib.hid (by unfold key; simp only [if_neg (show ¬ k.length > 64 from hlong)])
    have HKV := Lib.hid (HK.out.below hb0)
    have HK2 : Hid (k.length ≤ 64) := Lib.hid (by omega)
    have hrB := hr0
    have hbB := hb0
    clear hr0 hb0
    go_enter Tryz.func68, Tryz.ntmps68
    have hi0 : Blk (((w.alloc (.cells #[.int .u8 0, .int .u8 0, .int .u8 0, .int .u8 0, .int .u8 0, .int .u8 0, .int .u8 0, .int .u8 0, .int .u8 0, .int .u8 0, .int .u8 0, .int .u8 0, .int .u8 0, .int .u8 0, .int .u8 0, .int .u8 0, .int .u8 0, .int .u8 0, .int .u8 0, .int .u8 0, .int .u8 0, .int .u8 0, .int .u8 0, .int .u8 0, .int .u8 0, .int .u8 0, .int .u8 0, .int .u8 0, .int .u8 0, .int .u8 0, .int .u8 0, .int .u8 0] 117)).alloc (.cells #[.int .u8 0, .int .u8 0, .int .u8 0, .int .u8 0, .int .u8 0, .int .u8 0, .int .u8 0, .int .u8 0, .int .u8 0, .int .u8 0, .int .u8 0, .int .u8 0, .int .u8 0, .int .u8 0, .int .u8 0, .int .u8 0, .int .u8 0, .int .u8 0, .int .u8 0, .int .u8 0, .int .u8 0, .int .u8 0, .int .u8 0, .int .u8 0, .int .u8 0, .int .u8 0, .int .u8 0, .int .u8 0, .int .u8 0, .int .u8 0, .int .u8 0, .int .u8 0, .int .u8 0, .int .u8 0, .int .u8 0, .int .u8 0, .int .u8 0, .int .u8 0, .int .u8 0, .int .u8 0, .int .u8 0, .int .u8 0, .int .u8 0, .int .u8 0, .int .u8 0, .int .u8 0, .int .u8 0, .int .u8 0, .int .u8 0, .int .u8 0, .int .u8 0, .int .u8 0, .int .u8 0, .int .u8 0, .int .u8 0, .int .u8 0, .int .u8 0, .int .u8 0, .int .u8 0, .int .u8 0, .int .u8 0, .int .u8 0, .int .u8 0, .int .u8 0] 140)).alloc (.cells #[.int .u8 0, .int .u8 0, .int .u8 0, .int .u8 0, .int .u8 0, .int .u8 0, .int .u8 0, .int .u8 0, .int .u8 0, .int .u8 0, .int .u8 0, .int .u8 0, .int .u8 0, .int .u8 0, .int .u8 0, .int .u8 0, .int .u8 0, .int .u8 0, .int .u8 0, .int .u8 0, .int .u8 0, .int .u8 0, .int .u8 0, .int .u8 0, .int .u8 0, .int .u8 0, .int .u8 0, .int .u8 0, .int .u8 0, .int .u8 0, .int .u8 0, .int .u8 0, .int .u8 0, .int .u8 0, .int .u8 0, .int .u8 0, .int .u8 0, .int .u8 0, .int .u8 0, .int .u8 0, .int .u8 0, .int .u8 0, .int .u8 0, .int .u8 0, .int .u8 0, .int .u8 0, .int .u8 0, .int .u8 0, .int .u8 0, .int .u8 0, .int .u8 0, .int .u8 0, .int .u8 0, .int .u8 0, .int .u8 0, .int .u8 0, .int .u8 0, .int .u8 0, .int .u8 0, .int .u8 0, .int .u8 0, .int .u8 0, .int .u8 0, .int .u8 0] 140)) (w.heap.size + 1) 140 (List.replicate 64 (.int .u8 0)) := by
      have h := (Blk.new (w.alloc (.cells #[.int .u8 0, .int .u8 0, .int .u8 0, .int .u8 0, .int .u8 0, .int .u8 0, .int .u8 0, .int .u8 0, .int .u8 0, .int .u8 0, .int .u8 0, .int .u8 0, .int .u8 0, .int .u8 0, .int .u8 0, .int .u8 0, .int .u8 0, .int .u8 0, .int .u8 0, .int .u8 0, .int .u8 0, .int .u8 0, .int .u8 0, .int .u8 0, .int .u8 0, .int .u8 0, .int .u8 0, .int .u8 0, .int .u8 0, .int .u8 0, .int .u8 0, .int .u8 0] 117)) 140 (List.replicate 64 (.int .u8 0))).alloc (.cells (List.replicate 64 (.int .u8 0)).toArray 140)
      try rw [World.size_alloc] at h
      exact h
    have ho0 : Blk (((w.alloc (.cells #[.int .u8 0, .int .u8 0, .int .u8 0, .int .u8 0, .int .u8 0, .int .u8 0, .int .u8 0, .int .u8 0, .int .u8 0, .int .u8 0, .int .u8 0, .int .u8 0, .int .u8 0, .int .u8 0, .int .u8 0, .int .u8 0, .int .u8 0, .int .u8 0, .int .u8 0, .int .u8 0, .int .u8 0, .int .u8 0, .int .u8 0, .int .u8 0, .int .u8 0, .int .u8 0, .int .u8 0, .int .u8 0, .int .u8 0, .int .u8 0, .int .u8 0, .int .u8 0] 117)).alloc (.cells #[.int .u8 0, .int .u8 0, .int .u8 0, .int .u8 0, .int .u8 0, .int .u8 0, .int .u8 0, .int .u8 0, .int .u8 0, .int .u8 0, .int .u8 0, .int .u8 0, .int .u8 0, .int .u8 0, .int .u8 0, .int .u8 0, .int .u8 0, .int .u8 0, .int .u8 0, .int .u8 0, .int .u8 0, .int .u8 0, .int .u8 0, .int .u8 0, .int .u8 0, .int .u8 0, .int .u8 0, .int .u8 0, .int .u8 0, .int .u8 0, .int .u8 0, .int .u8 0, .int .u8 0, .int .u8 0, .int .u8 0, .int .u8 0, .int .u8 0, .int .u8 0, .int .u8 0, .int .u8 0, .int .u8 0, .int .u8 0, .int .u8 0, .int .u8 0, .int .u8 0, .int .u8 0, .int .u8 0, .int .u8 0, .int .u8 0, .int .u8 0, .int .u8 0, .int .u8 0, .int .u8 0, .int .u8 0, .int .u8 0, .int .u8 0, .int .u8 0, .int .u8 0, .int .u8 0, .int .u8 0, .int .u8 0, .int .u8 0, .int .u8 0, .int .u8 0] 140)).alloc (.cells #[.int .u8 0, .int .u8 0, .int .u8 0, .int .u8 0, .int .u8 0, .int .u8 0, .int .u8 0, .int .u8 0, .int .u8 0, .int .u8 0, .int .u8 0, .int .u8 0, .int .u8 0, .int .u8 0, .int .u8 0, .int .u8 0, .int .u8 0, .int .u8 0, .int .u8 0, .int .u8 0, .int .u8 0, .int .u8 0, .int .u8 0, .int .u8 0, .int .u8 0, .int .u8 0, .int .u8 0, .int .u8 0, .int .u8 0, .int .u8 0, .int .u8 0, .int .u8 0, .int .u8 0, .int .u8 0, .int .u8 0, .int .u8 0, .int .u8 0, .int .u8 0, .int .u8 0, .int .u8 0, .int .u8 0, .int .u8 0, .int .u8 0, .int .u8 0, .int .u8 0, .int .u8 0, .int .u8 0, .int .u8 0, .int .u8 0, .int .u8 0, .int .u8 0, .int .u8 0, .int .u8 0, .int .u8 0, .int .u8 0, .int .u8 0, .int .u8 0, .int .u8 0, .int .u8 0, .int .u8 0, .int .u8 0, .int .u8 0, .int .u8 0, .int .u8 0] 140)) ((w.heap.size + 1) + 1) 140 (List.replicate 64 (.int .u8 0)) := by
      have h := Blk.new ((w.alloc (.cells #[.int .u8 0, .int .u8 0, .int .u8 0, .int .u8 0, .int .u8 0, .int .u8 0, .int .u8 0, .int .u8 0, .int .u8 0, .int .u8 0, .int .u8 0, .int .u8 0, .int .u8 0, .int .u8 0, .int .u8 0, .int .u8 0, .int .u8 0, .int .u8 0, .int .u8 0, .int .u8 0, .int .u8 0, .int .u8 0, .int .u8 0, .int .u8 0, .int .u8 0, .int .u8 0, .int .u8 0, .int .u8 0, .int .u8 0, .int .u8 0, .int .u8 0, .int .u8 0] 117)).alloc (.cells #[.int .u8 0, .int .u8 0, .int .u8 0, .int .u8 0, .int .u8 0, .int .u8 0, .int .u8 0, .int .u8 0, .int .u8 0, .int .u8 0, .int .u8 0, .int .u8 0, .int .u8 0, .int .u8 0, .int .u8 0, .int .u8 0, .int .u8 0, .int .u8 0, .int .u8 0, .int .u8 0, .int .u8 0, .int .u8 0, .int .u8 0, .int .u8 0, .int .u8 0, .int .u8 0, .int .u8 0, .int .u8 0, .int .u8 0, .int .u8 0, .int .u8 0, .int .u8 0, .int .u8 0, .int .u8 0, .int .u8 0, .int .u8 0, .int .u8 0, .int .u8 0, .int .u8 0, .int .u8 0, .int .u8 0, .int .u8 0, .int .u8 0, .int .u8 0, .int .u8 0, .int .u8 0, .int .u8 0, .int .u8 0, .int .u8 0, .int .u8 0, .int .u8 0, .int .u8 0, .int .u8 0, .int .u8 0, .int .u8 0, .int .u8 0, .int .u8 0, .int .u8 0, .int .u8 0, .int .u8 0, .int .u8 0, .int .u8 0, .int .u8 0, .int .u8 0] 140)) 140 (List.replicate 64 (.int .u8 0))
      rw [World.size_alloc] at h
      try rw [World.size_alloc] at h
      exact h
    have hbz : Below (w.alloc (.cells #[.int .u8 0, .int .u8 0, .int .u8 0, .int .u8 0, .int .u8 0, .int .u8 0, .int .u8 0, .int .u8 0, .int .u8 0, .int .u8 0, .int .u8 0, .int .u8 0, .int .u8 0, .int .u8 0, .int .u8 0, .int .u8 0, .int .u8 0, .int .u8 0, .int .u8 0, .int .u8 0, .int .u8 0, .int .u8 0, .int .u8 0, .int .u8 0, .int .u8 0, .int .u8 0, .int .u8 0, .int .u8 0, .int .u8 0, .int .u8 0, .int .u8 0, .int .u8 0] 117)).heap.size (w.alloc (.cells #[.int .u8 0, .int .u8 0, .int .u8 0, .int .u8 0, .int .u8 0, .int .u8 0, .int .u8 0, .int .u8 0, .int .u8 0, .int .u8 0, .int .u8 0, .int .u8 0, .int .u8 0, .int .u8 0, .int .u8 0, .int .u8 0, .int .u8 0, .int .u8 0, .int .u8 0, .int .u8 0, .int .u8 0, .int .u8 0, .int .u8 0, .int .u8 0, .int .u8 0, .int .u8 0, .int .u8 0, .int .u8 0, .int .u8 0, .int .u8 0, .int .u8 0, .int .u8 0] 117)) (((w.alloc (.cells #[.int .u8 0, .int .u8 0, .int .u8 0, .int .u8 0, .int .u8 0, .int .u8 0, .int .u8 0, .int .u8 0, .int .u8 0, .int .u8 0, .int .u8 0, .int .u8 0, .int .u8 0, .int .u8 0, .int .u8 0, .int .u8 0, .int .u8 0, .int .u8 0, .int .u8 0, .int .u8 0, .int .u8 0, .int .u8 0, .int .u8 0, .int .u8 0, .int .u8 0, .int .u8 0, .int .u8 0, .int .u8 0, .int .u8 0, .int .u8 0, .int .u8 0, .int .u8 0] 117)).alloc (.cells #[.int .u8 0, .int .u8 0, .int .u8 0, .int .u8 0, .int .u8 0, .int .u8 0, .int .u8 0, .int .u8 0, .int .u8 0, .int .u8 0, .int .u8 0, .int .u8 0, .int .u8 0, .int .u8 0, .int .u8 0, .int .u8 0, .int .u8 0, .int .u8 0, .int .u8 0, .int .u8 0, .int .u8 0, .int .u8 0, .int .u8 0, .int .u8 0, .int .u8 0, .int .u8 0, .int .u8 0, .int .u8 0, .int .u8 0, .int .u8 0, .int .u8 0, .int .u8 0, .int .u8 0, .int .u8 0, .int .u8 0, .int .u8 0, .int .u8 0, .int .u8 0, .int .u8 0, .int .u8 0, .int .u8 0, .int .u8 0, .int .u8 0, .int .u8 0, .int .u8 0, .int .u8 0, .int .u8 0, .int .u8 0, .int .u8 0, .int .u8 0, .int .u8 0, .int .u8 0, .int .u8 0, .int .u8 0, .int .u8 0, .int .u8 0, .int .u8 0, .int .u8 0, .int .u8 0, .int .u8 0, .int .u8 0, .int .u8 0, .int .u8 0, .int .u8 0] 140)).alloc (.cells #[.int .u8 0, .int .u8 0, .int .u8 0, .int .u8 0, .int .u8 0, .int .u8 0, .int .u8 0, .int .u8 0, .int .u8 0, .int .u8 0, .int .u8 0, .int .u8 0, .int .u8 0, .int .u8 0, .int .u8 0, .int .u8 0, .int .u8 0, .int .u8 0, .int .u8 0, .int .u8 0, .int .u8 0, .int .u8 0, .int .u8 0, .int .u8 0, .int .u8 0, .int .u8 0, .int .u8 0, .int .u8 0, .int .u8 0, .int .u8 0, .int .u8 0, .int .u8 0, .int .u8 0, .int .u8 0, .int .u8 0, .int .u8 0, .int .u8 0, .int .u8 0, .int .u8 0, .int .u8 0, .int .u8 0, .int .u8 0, .int .u8 0, .int .u8 0, .int .u8 0, .int .u8 0, .int .u8 0, .int .u8 0, .int .u8 0, .int .u8 0, .int .u8 0, .int .u8 0, .int .u8 0, .int .u8 0, .int .u8 0, .int .u8 0, .int .u8 0, .int .u8 0, .int .u8 0, .int .u8 0, .int .u8 0, .int .u8 0, .int .u8 0, .int .u8 0] 140)) := ((Below.refl _ _).alloc (Nat.le_refl _) _).alloc (by simp) _
    have hgi : (w.heap.size + 1) = (w.alloc (.cells #[.int .u8 0, .int .u8 0, .int .u8 0, .int .u8 0, .int .u8 0, .int .u8 0, .int .u8 0, .int .u8 0, .int .u8 0, .int .u8 0, .int .u8 0, .int .u8 0, .int .u8 0, .int .u8 0, .int .u8 0, .int .u8 0, .int .u8 0, .int .u8 0, .int .u8 0, .int .u8 0, .int .u8 0, .int .u8 0, .int .u8 0, .int .u8 0, .int .u8 0, .int .u8 0, .int .u8 0, .int .u8 0, .int .u8 0, .int .u8 0, .int .u8 0, .int .u8 0] 117)).heap.size := by simp
    have hkz := HKV.out.below hbz
    have hklt := rd_lt HKV.out
    have hrz := hrB.below hbz hrB.lt
    have hrlt := hrB.lt
    have hbw := hbB.trans (hbz.mono hbB.size)
    have hgw := hbB.size
    rw [← hgi] at hklt hrlt hgw
    have HQ := Lib.hid (And.intro hklt (And.intro hrlt hgw))
    clear hbz hgi hklt hrlt hgw hrB hbB HKV
    go_wp2_with (with_reducible refine wpList_copy_key rfl (.tmp 16) (.tmp 17) 36 36 rfl 5 Tryz.underlying36 (by kernel_rfl) ((w.heap.size + 1)) k.length rfl (.slice ka k.length kc) rfl k k hkz 140 hi0 HK2.out HKEY.out ?_)
    intro w3 hi3 hg3
    generalize hgi : (w.heap.size + 1) = gi at *
    have ho3 := ho0.grown hg3 (fun r hr e => by cases hr; omega)
    have hr3 := hrz.grown hg3 (fun r hr e => by cases hr; have := HQ.out.2.1; omega)
    have hb3 := hbw.grown hg3 hbw.size (fun r e => by cases e; exact HQ.out.2.2)
    have HK3 := Lib.hid (rd_grown hkz hg3 (fun bb o n c e h0 => by have := HQ.out.1 bb o n c e h0; omega))
    clear hkz hrz hbw hi0 ho0 hg3 hgi
    go_wp2_with (with_reducible refine wpList_copy_key rfl (.tmp 19) (.tmp 20) 36 36 rfl 5 Tryz.underlying36 (by kernel_rfl) (gi + 1) k.length rfl (.slice ka k.length kc) rfl k k HK3.out 140 ho3 HK2.out HKEY.out ?_)
    intro w4 ho4 hg4
    have hi4 := hi3.grown hg4 (fun r hr e => by cases hr; omega)
    have hr4 := hr3.grown hg4 (fun r hr e => by cases hr; have := HQ.out.2.1; omega)
    have hb4 := hb3.grown hg4 hb3.size (fun r e => by cases e; have := HQ.out.2.2; omega)
    have hp4 := HP.out.below hb4
    have hq : w.heap.size < gi := HQ.out.2.1
    clear ho3 hg4 hi3 hr3 hb3 HK3 HQ HKEY HK2 hl
    have hkl6 : (key k).length = 64 := key_len k
    have hi5 : Blk w4 gi 140 (Lib.byteCells (xk 0x36 (key k) 0)) := by rw [xk_zero]; exact hi4
    have ho5 : Blk w4 (gi + 1) 140 (Lib.byteCells (xk 0x5c (key k) 0)) := by rw [xk_zero]; exact ho4
    have HPP := Lib.hid hp4
    clear hi4 ho4 hp4
    go_wp2_with fail
    go_loopw [22] (fun i wr => ∃ t : Nat, t ≤ 64 ∧ i = .int .i64 t ∧ Blk wr gi 140 (Lib.byteCells (xk 0x36 (key k) t)) ∧ Blk wr (gi + 1) 140 (Lib.byteCells (xk 0x5c (key k) t)) ∧ Blk wr w.heap.size 117 (List.replicate 32 (.int .u8 0)) ∧ Below w.heap.size w wr) (fun i _ => 64 - (intOf i).toNat)
    case atStart => exact ⟨0, by omega, rfl, hi5, ho5, hr4, hb4⟩
    case round =>
      clear hi5 ho5 hr4 hb4 HPP
      obtain ⟨t, ht, rfl, hi, ho, hr, hb⟩ := hrel
      by_cases hlt : t < 64
      case pos =>
        have hlt2 : t < (key k).length := by omega
        obtain ⟨x, hx⟩ : ∃ x, x = (key k)[t] := ⟨_, rfl⟩
        have z0 := hi.cell t (xk_at 0x36 (key k) t hlt2)
        have z1 := hi.frozen t
        have z2 := ho.cell t (xk_at 0x5c (key k) t hlt2)
        have z3 := ho.frozen t
        have s0 := xk_set 0x36 (key k) t hlt2
        have s1 := xk_set 0x5c (key k) t hlt2
        rw [← hx] at z0 z2 s0 s1
        obtain ⟨y, hy, e1⟩ : ∃ y : UInt8, y = x ^^^ 0x36 ∧ bits .xor .u8 (x.toNat : Int) 54 = (y.toNat : Int) := ⟨_, rfl, xor_w8 x 0x36⟩
        obtain ⟨y2, hy2, e2⟩ : ∃ y : UInt8, y = x ^^^ 0x5c ∧ bits .xor .u8 (x.toNat : Int) 92 = (y.toNat : Int) := ⟨_, rfl, xor_w8 x 0x5c⟩
        rw [← hy] at s0
        rw [← hy2] at s1
        have S0 := Lib.hid s0
        have S1 := Lib.hid s1
        have e7 : (t : Int) < 64 := by omega
        clear s0 s1 hx hy hy2
        go_wp2_with fail
        go_roundw
        case rel => exact ⟨t + 1, by omega, by go_num, by rw [← S0.out]; exact (hi.set t _).setOther _ _ (by simp), by rw [← S1.out]; exact (ho.setOther _ _ (by simp)).set t _, (hr.setOther _ _ (by simp; omega)).setOther _ _ (by simp; omega), (hb.setCell (by simp; omega) _).setCell (by simp; omega) _⟩
        case measure => simp [intOf]; omega
      case neg =>
        obtain ⟨ik, hik⟩ : ∃ ik, ik = (key k).map (· ^^^ 0x36) := ⟨_, rfl⟩
        obtain ⟨ok, hok⟩ : ∃ ok, ok = (key k).map (· ^^^ 0x5c) := ⟨_, rfl⟩
        have hi8 : Blk wr gi 140 (Lib.byteCells ik) := by rw [hik, ← xk_full 0x36 (key k) t (by omega)]; exact hi
        have ho8 : Blk wr (gi + 1) 140 (Lib.byteCells ok) := by rw [hok, ← xk_full 0x5c (key k) t (by omega)]; exact ho
        have hil : ik.length = 64 := by rw [hik, List.length_map, hkl6]
        have hol : ok.length = 64 := by rw [hok, List.length_map, hkl6]
        have HMAC : Hid (mac k m = sha (ok ++ sha (ik ++ m))) := Lib.hid (by rw [hik, hok]; rfl)
        have HIL := Lib.hid (And.intro hil hol)
        obtain ⟨t2, ht2, ht3⟩ : ∃ x, x = t ∧ 64 ≤ x := ⟨t, rfl, by omega⟩
        subst ht2
        clear hi ho ht hil hol hkl6 hlt hik hok
        obtain ⟨i0, hinf, hz0, hz1, hz2⟩ := info_parts3 bs_row
        have hown := own_oneH wr 36 (.slice (some ⟨gi, 0, none⟩) 64 64)
        obtain ⟨vs, hv0, hvs0⟩ := HP.out
        have hbA : Below w.heap.size w (wr.alloc (.cells #[.slice (some ⟨gi, 0, none⟩) 64 64] 36)) := hb.alloc hb.size _
        have hvA := hv0.below hbA
        have hv1 : ∀ u ∈ vs, u.oneCell' = true := by
          intro u hu
          have hvl : vs.length = 1 := by rw [hv0.1]; rfl
          obtain ⟨n, hn⟩ := List.getElem?_of_mem hu
          have hn1 := (List.getElem?_eq_some_iff.1 hn).1
          obtain ⟨xa, xc, hxv⟩ := (hvs0 n u m hn (by rw [show n = 0 from by omega]; rfl)).slice
          rw [hxv]; rfl
        have HV := Lib.hid (And.intro hvs0 (And.intro hv0 (And.intro hvA hv1)))
        have hbase : wr.heap.size ≤ (wr.alloc (.cells #[.slice (some ⟨gi, 0, none⟩) 64 64] 36)).heap.size := by rw [World.size_alloc]; omega
        clear hv0 hvs0 hvA hv1
        go_wp2_with (at_builtin; go_loud (refine wpList_app rfl (.tmp 37) (.tmp 38) 138 rfl 36 wr.heap.size i0 (.slice none 0 0) 1 24 Tryz.underlying138 hinf hz0 hz1 hz2 rfl (by decide) _ _ _ rfl hown (.slice pa 1 pc) 1 vs rfl HV.out.2.2.1 HV.out.2.2.2 (by decide) (by decide) hbase ?_))
        rintro v5 w5 o5 hg5 -
        have hi5 := (hi8.alloc (.cells #[.slice (some ⟨gi, 0, none⟩) 64 64] 36)).grown hg5 (fun r hr e => by cases hr; change gi = wr.heap.size at e; have := hi8.lt; omega)
        have ho5 := (ho8.alloc (.cells #[.slice (some ⟨gi, 0, none⟩) 64 64] 36)).grown hg5 (fun r hr e => by cases hr; change gi + 1 = wr.heap.size at e; have := ho8.lt; omega)
        have hr5 := (hr.alloc (.cells #[.slice (some ⟨gi, 0, none⟩) 64 64] 36)).grown hg5 (fun r hr' e => by cases hr'; change w.heap.size = wr.heap.size at e; have := hr.lt; omega)
        have hb5 : Below w.heap.size w w5 := below_app hb hb.size hg5 (fun k e => by cases e; exact hb.size)
        have hP : RdP w5 v5 [ik, m] := by
          refine ⟨[.slice (some ⟨gi, 0, none⟩) 64 64] ++ vs, Rd.of_own o5, fun n x p hx hp => ?_⟩
          match n, hx, hp with
          | 0, hx, hp => cases hx; cases hp; rw [HIL.out.1]; exact blk_rd hi5 64 HIL.out.1
          | 1, hx, hp => cases hp; exact (HV.out.1 0 x m (by simpa using hx) rfl).below hb5
          | n + 2, hx, hp => simp at hp
        have HA := Lib.hid (all_any v5 [ik, m] w5 hP (by simp) (by simp [HIL.out.1]; omega))
        obtain ⟨a5, c5, hv5⟩ := (Rd.of_own o5).slice
        subst hv5
        clear hi8 ho8 hr hb hown hbA hbase hg5 o5 hP hi5 HV hinf hz0 hz1 hz2
        go_wp2_with fail
        refine HA.out.mono ?_
        rintro e w6 ⟨rfl, hc6⟩
        have hfl : [ik, m].flatten = ik ++ m := by simp
        rw [hfl]
        have ho6 := ho5.below hc6 ho5.lt
        have hr6 := hr5.below hc6 hr5.lt
        have hb6 := hb5.trans (hc6.mono hb5.size)
        obtain ⟨d1, hd1⟩ : ∃ d1, d1 = sha (ik ++ m) := ⟨_, rfl⟩
        have hdl : d1.length = 32 := by rw [hd1]; exact sha_len _
        rw [← hd1] at HMAC ⊢
        have hz32b : (List.replicate 32 (Value.int .u8 0)).length = (Lib.byteCells d1).length := by rw [bc_length, hdl, List.length_replicate]
        have hszb : (Tryz.prog.info? 117).map (·.size) = some (Lib.byteCells d1).length := by rw [bc_length, hdl]; kernel_rfl
        have HSB := Lib.hid (And.intro hz32b (And.intro hszb hdl))
        have hz6 : Blk (w6.alloc (.cells #[.int .u8 0, .int .u8 0, .int .u8 0, .int .u8 0, .int .u8 0, .int .u8 0, .int .u8 0, .int .u8 0, .int .u8 0, .int .u8 0, .int .u8 0, .int .u8 0, .int .u8 0, .int .u8 0, .int .u8 0, .int .u8 0, .int .u8 0, .int .u8 0, .int .u8 0, .int .u8 0, .int .u8 0, .int .u8 0, .int .u8 0, .int .u8 0, .int .u8 0, .int .u8 0, .int .u8 0, .int .u8 0, .int .u8 0, .int .u8 0, .int .u8 0, .int .u8 0] 117)) w6.heap.size 117 (List.replicate 32 (.int .u8 0)) := Blk.new w6 _ _
        clear hc6 ho5 hr5 hb5 HA hfl hd1 hdl hz32b hszb
        go_wp2_with (with_reducible refine wpList_store_blk rfl 117 (.tmp 9) (.tmp 40) rfl w6.heap.size (Lib.byteCells d1) rfl rfl 117 _ hz6 HSB.out.2.1 HSB.out.1 (byte_one _) ?_)
        intro w7 hx7 hg7
        have ho7 := (ho6.alloc (.cells #[.int .u8 0, .int .u8 0, .int .u8 0, .int .u8 0, .int .u8 0, .int .u8 0, .int .u8 0, .int .u8 0, .int .u8 0, .int .u8 0, .int .u8 0, .int .u8 0, .int .u8 0, .int .u8 0, .int .u8 0, .int .u8 0, .int .u8 0, .int .u8 0, .int .u8 0, .int .u8 0, .int .u8 0, .int .u8 0, .int .u8 0, .int .u8 0, .int .u8 0, .int .u8 0, .int .u8 0, .int .u8 0, .int .u8 0, .int .u8 0, .int .u8 0, .int .u8 0] 117)).grown hg7 (fun r hr e => by cases hr; have := ho6.lt; omega)
        have hr7 := (hr6.alloc (.cells #[.int .u8 0, .int .u8 0, .int .u8 0, .int .u8 0, .int .u8 0, .int .u8 0, .int .u8 0, .int .u8 0, .int .u8 0, .int .u8 0, .int .u8 0, .int .u8 0, .int .u8 0, .int .u8 0, .int .u8 0, .int .u8 0, .int .u8 0, .int .u8 0, .int .u8 0, .int .u8 0, .int .u8 0, .int .u8 0, .int .u8 0, .int .u8 0, .int .u8 0, .int .u8 0, .int .u8 0, .int .u8 0, .int .u8 0, .int .u8 0, .int .u8 0, .int .u8 0] 117)).grown hg7 (fun r hr e => by cases hr; have := hr6.lt; omega)
        have hb7 : Below w.heap.size w w7 := (hb6.alloc hb6.size _).grown hg7 (Nat.le_trans hb6.size (by simp)) (fun k e => by cases e; exact hb6.size)
        have hd7 := blk_rd hx7 32 HSB.out.2.2
        have ho9 := blk_rd ho7 64 HIL.out.2
        have hP2 : ∀ W, Below w7.heap.size w7 W → RdP (W.alloc (.cells #[.slice (some ⟨gi + 1, 0, none⟩) 64 64, .slice (some ⟨w6.heap.size, 0, none⟩) 32 32] 36)) (.slice (some ⟨W.heap.size, 0, none⟩) 2 2) [ok, d1] := by
          intro W hbW
          refine ⟨[.slice (some ⟨gi + 1, 0, none⟩) 64 64, .slice (some ⟨w6.heap.size, 0, none⟩) 32 32], ⟨rfl, .inr ⟨W.heap.size, 0, 2, rfl, Nat.le_refl _, fun j u hj => ?_⟩⟩, fun n x p hx hp => ?_⟩
          · have := cells_new W [.slice (some ⟨gi + 1, 0, none⟩) 64 64, .slice (some ⟨w6.heap.size, 0, none⟩) 32 32] 36 j u hj
            rw [Addr.add_lit] at this; exact this
          · have hbW2 := hbW.alloc hbW.size (.cells #[.slice (some ⟨gi + 1, 0, none⟩) 64 64, .slice (some ⟨w6.heap.size, 0, none⟩) 32 32] 36)
            match n, hx, hp with
            | 0, hx, hp => cases hx; cases hp; rw [HIL.out.2]; exact ho9.below hbW2
            | 1, hx, hp => cases hx; cases hp; rw [HSB.out.2.2]; exact hd7.below hbW2
            | n + 2, hx, hp => simp at hp
        have HPP2 := Lib.hid hP2
        clear ho6 hr6 hb6 hz6 hg7 hd7 ho9 hP2 hx7 ho7
        go_wp2_with fail
        go_still_tail 2, (by kernel_rfl)
        change wpList _ _ _ _ _ w7.drew
        have hb8 : Below w7.heap.size w7 w7.drew := (Below.refl _ _).drew
        have hA8 := all_any _ [ok, d1] _ (HPP2.out _ hb8) (by simp) (by simp [HIL.out.2, HSB.out.2.2])
        have hfl2 : [ok, d1].flatten = ok ++ d1 := by simp
        rw [hfl2, ← HMAC.out] at hA8
        have HA8 := Lib.hid hA8
        have hr8 := hr7.below hb8 hr7.lt
        have hbw8 := hb7.trans (hb8.mono hb7.size)
        clear hA8 hfl2 hb8 hr7 hb7
        generalize w7.drew = w8 at HA8 hr8 hbw8 ⊢
        go_wp2_with fail
        refine HA8.out.mono ?_
        rintro e w9 ⟨rfl, hc9⟩
        have hr9 := (hr8.alloc (.cells #[.slice (some ⟨gi + 1, 0, none⟩) 64 64, .slice (some ⟨w6.heap.size, 0, none⟩) 32 32] 36)).below hc9 (by have := hr8.lt; simp; omega)
        have hb9 : Below w.heap.size w w9 := (hbw8.alloc hbw8.size (.cells #[.slice (some ⟨gi + 1, 0, none⟩) 64 64, .slice (some ⟨w6.heap.size, 0, none⟩) 32 32] 36)).trans (hc9.mono (by have := hbw8.size; simp; omega))
        have hz32c : (List.replicate 32 (Value.int .u8 0)).length = (Lib.byteCells (mac k m)).length := by rw [bc_length, mac_len, List.length_replicate]
        have hszc : (Tryz.prog.info? 117).map (·.size) = some (Lib.byteCells (mac k m)).length := by rw [bc_length, mac_len]; kernel_rfl
        have hszd : (Tryz.prog.info? 117).map (·.size) = some (Lib.byteCells (mac k m)).toArray.size := by rw [List.size_toArray]; exact hszc
        have HSC := Lib.hid (And.intro hz32c (And.intro hszc hszd))
        clear hz32c hszc hszd hc9 hr8 hbw8 HA8 HMAC HPP2
        go_wp2_with (with_reducible refine wpList_store_blk rfl 117 (.tmp 4) (.tmp 44) rfl w.heap.size (Lib.byteCells (mac k m)) rfl rfl 117 _ hr9 HSC.out.2.1 HSC.out.1 (byte_one _) ?_)
        intro wC hxC hgC
        have hbC : Below w.heap.size w wC := hb9.grown hgC hb9.size (fun k e => by cases e; exact Nat.le_refl _)
        clear hgC hr9 hb9
        go_wp2_with fail
        try simp only [Exit.inBlock, Exit.then]
        refine bodyPost_ret (results_cell_row rfl _ _ w.heap.size 117 (Lib.byteCells (mac k m)).toArray (0, 0) _ rfl hxC Tryz.underlying117 rfl HSC.out.2.2) rfl ?_
        exact ⟨rfl, hbC⟩

end Go.Proofs.YtffllacphfapnaaGreatDoor
