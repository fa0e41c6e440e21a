/-
  Chapter 20: what is answered for a reason, the program's and the reference's. Condition: the table of powers of ten lies as the program's text lays it.
  (Texts put together: Y3 Y4 Y5.)
-/
import Derived.Test.YtffllacphfapnaaGreatDoorG29
import Derived.Test.YtffllacphfapnaaGreatDoorG30
import Derived.Test.YtffllacphfapnaaGreatDoorG32
import Derived.Test.YtffllacphfapnaaGreatDoorG31
import Derived.Deep.RegionHeld3
import Derived.Test.YtffllacphfapnaaGreatDoorG05
namespace Go.Proofs.YtffllacphfapnaaGreatDoor
open Go.RowKit Js Rp

def rc (s : Int) (b : By) : List Value := [.int .i64 s, .string ⟨b.toArray⟩]
def rv (s : Int) (b : By) : Value := .agg #[.int .i64 s, .string ⟨b.toArray⟩]
theorem ret_rc {fn : Func} {p : Tmp} (hres : fn.results = #[.cell p 23]) {a : Act} (hd : a.defers = []) {W : World} {b : Nat} {t : TypeId} {s : Int} {x : By} (hp : a.tmps.getD p undef = .pointer (some ⟨b, 0, none⟩)) (hb : Blk W b t (rc s x)) {R : Ending → World → Prop}
    (hR : R (.returned (rv s x)) W) : bodyPost Tryz.prog fn R .ret a W := by
  have c0 := hb.cell 0 rfl
  have c1 := hb.cell 1 rfl
  have t2 : a.tmps[p]?.getD undef = .pointer (some ⟨b, 0, none⟩) := by rw [← hp, Array.getD_eq_getD_getElem?]
  refine bodyPost_ret (v := rv s x) ?_ hd hR
  simp [results, hres, go_sem, t2, c0, c1, rv]
theorem rc_set {W : World} {b : Nat} {t : TypeId} {cs : List Value} (h : Blk W b t cs) (hc : cs.length = 2) (s : Int) (x : By) : Blk ((W.setCell ⟨b, 0, none⟩ (.int .i64 s)).setCell ⟨b, 1, none⟩ (.string ⟨x.toArray⟩)) b t (rc s x) := by
  match cs, hc with
  | [u, v], _ => exact (h.set 0 _).set 1 _
theorem below_rc {W : World} {B b : Nat} {w0 : World} (h : Below B w0 W) (hb : B ≤ b) (u v : Value) : Below B w0 ((W.setCell ⟨b, 0, none⟩ u).setCell ⟨b, 1, none⟩ v) := (h.setCell hb _).setCell hb _

set_option maxRecDepth 20000 in
set_option maxHeartbeats 2000000 in
theorem fail_in (u : Nat) (h1 : 1 ≤ u) (h8 : u ≤ 8) (B : Nat) (w : World) (hB : B ≤ w.heap.size) (hL : Hid (LaidB B w)) : Calls Tryz.prog 6 #[.int .i64 (u : Int)] w fun e w' => e = .returned (rv (st u) (bd u)) ∧ Below w.heap.size w w' := by
  have HB := Lib.hid hB
  obtain ⟨c, r, hcr⟩ := nm_cons u (by omega) (by omega)
  have hn := fun W => name_in u (by omega) (by omega) W
  rw [hcr] at hn
  have HN := Lib.hid hn
  have hpr := pr_bd u (by omega) (by omega)
  have hem : em u = ⟨[101, 114, 114, 111, 114], 0, c :: r, 0, false⟩ := by unfold em; rw [hcr]; rfl
  have HF := Lib.hid (fit_em u (by omega) (by omega))
  rw [hem] at hpr HF
  have HP := Lib.hid hpr
  have hz : Blk (w.alloc (.cells #[.int .i64 0, .string ⟨#[]⟩] 23)) w.heap.size 23 (rc 0 []) := Blk.new w _ (rc 0 [])
  have hb0 : Below w.heap.size w (w.alloc (.cells #[.int .i64 0, .string ⟨#[]⟩] 23)) := (Below.refl _ _).alloc (Nat.le_refl _) _
  clear hB hn hcr hem hpr
  by_cases e2 : u = 2
  · have E := Lib.hid e2
    have g1 : ¬ (u : Int) < 1 := by omega
    have g2 : ¬ (8 : Int) < (u : Int) := by omega
    have b2 : ((u : Int) == 2) = true := by rw [e2]; rfl
    have b7 : ((u : Int) == 7) = false := by rw [e2]; rfl
    clear e2
    go_enter Tryz.func6, Tryz.ntmps6
    go_wp2_with fail
    refine (HN.out _).mono ?_
    rintro e w3 ⟨rfl, hc3⟩
    have hz3 := hz.below hc3 hz.lt
    have hb3 := below_step hb0 hc3
    clear hc3 hz hb0
    go_wp2_with fail
    refine (HN.out _).mono ?_
    rintro e w7 ⟨rfl, hc7⟩
    have hz7 := hz3.below hc7 hz3.lt
    have hb7 := below_step hb3 hc7
    clear hc7 hz3 hb3
    go_wp2_with fail
    refine (text_any [101, 114, 114, 111, 114] (c :: r) _).mono ?_
    rintro e w8 ⟨rfl, hc8⟩
    have hz8 := hz7.below hc8 hz7.lt
    have hb8 := below_step hb7 hc8
    clear hc8 hz7 hb7
    unfold mv
    go_wp2_with fail
    have hrd : RdM (w8.alloc (.cells #[.string ⟨#[101, 114, 114, 111, 114]⟩, .int .i64 0, .string ⟨(c :: r).toArray⟩, .int .i64 0, .bool false] 50)) (.slice (some ⟨w8.heap.size, 0, none⟩) 1 1) [⟨[101, 114, 114, 111, 114], 0, c :: r, 0, false⟩] := ⟨rfl, .inr ⟨_, 0, 1, rfl, by simp, fun j u hj => by
      have h := cells_new w8 (mc ⟨[101, 114, 114, 111, 114], 0, c :: r, 0, false⟩) 50 j u hj
      rw [Addr.add_lit] at h; exact h⟩⟩
    have hb9 : Below w.heap.size w (w8.alloc (.cells #[.string ⟨#[101, 114, 114, 111, 114]⟩, .int .i64 0, .string ⟨(c :: r).toArray⟩, .int .i64 0, .bool false] 50)) := hb8.alloc hb8.size _
    have hz9 := hz8.alloc (.cells #[.string ⟨#[101, 114, 114, 111, 114]⟩, .int .i64 0, .string ⟨(c :: r).toArray⟩, .int .i64 0, .bool false] 50)
    refine (print_any _ _ _ hrd HF (by simp) (Lib.hid (hL.out.on (hb9.mono HB.out)).tab.here)).mono ?_
    rintro e w9 ⟨rfl, hc9⟩
    rw [HP.out]
    have hzA := hz9.below hc9 hz9.lt
    have hbA := below_step hb9 hc9
    have y0 := hzA.cell 0 rfl
    have y1 := hzA.cell 1 rfl
    have f0 := hzA.frozen 0
    have f1 := hzA.frozen 1
    clear hc9 hz9 hb9 hz8 hb8 hrd
    go_wp2
    try simp only [Exit.inBlock, Exit.then]
    exact ret_rc rfl rfl rfl (rc_set hzA rfl _ _) ⟨by rw [show st u = 401 by rw [E.out]; rfl], below_rc hbA (Nat.le_refl _) _ _⟩

  have E2 := Lib.hid e2
  by_cases e7 : u = 7
  · have E := Lib.hid e7
    have g1 : ¬ (u : Int) < 1 := by omega
    have g2 : ¬ (8 : Int) < (u : Int) := by omega
    have b2 : ((u : Int) == 2) = false := by rw [e7]; rfl
    have b7 : ((u : Int) == 7) = true := by rw [e7]; rfl
    clear e7 e2
    go_enter Tryz.func6, Tryz.ntmps6
    go_wp2_with fail
    refine (HN.out _).mono ?_
    rintro e w3 ⟨rfl, hc3⟩
    have hz3 := hz.below hc3 hz.lt
    have hb3 := below_step hb0 hc3
    clear hc3 hz hb0
    go_wp2_with fail
    refine (HN.out _).mono ?_
    rintro e w7 ⟨rfl, hc7⟩
    have hz7 := hz3.below hc7 hz3.lt
    have hb7 := below_step hb3 hc7
    clear hc7 hz3 hb3
    go_wp2_with fail
    refine (text_any [101, 114, 114, 111, 114] (c :: r) _).mono ?_
    rintro e w8 ⟨rfl, hc8⟩
    have hz8 := hz7.below hc8 hz7.lt
    have hb8 := below_step hb7 hc8
    clear hc8 hz7 hb7
    unfold mv
    go_wp2_with fail
    have hrd : RdM (w8.alloc (.cells #[.string ⟨#[101, 114, 114, 111, 114]⟩, .int .i64 0, .string ⟨(c :: r).toArray⟩, .int .i64 0, .bool false] 50)) (.slice (some ⟨w8.heap.size, 0, none⟩) 1 1) [⟨[101, 114, 114, 111, 114], 0, c :: r, 0, false⟩] := ⟨rfl, .inr ⟨_, 0, 1, rfl, by simp, fun j u hj => by
      have h := cells_new w8 (mc ⟨[101, 114, 114, 111, 114], 0, c :: r, 0, false⟩) 50 j u hj
      rw [Addr.add_lit] at h; exact h⟩⟩
    have hb9 : Below w.heap.size w (w8.alloc (.cells #[.string ⟨#[101, 114, 114, 111, 114]⟩, .int .i64 0, .string ⟨(c :: r).toArray⟩, .int .i64 0, .bool false] 50)) := hb8.alloc hb8.size _
    have hz9 := hz8.alloc (.cells #[.string ⟨#[101, 114, 114, 111, 114]⟩, .int .i64 0, .string ⟨(c :: r).toArray⟩, .int .i64 0, .bool false] 50)
    refine (print_any _ _ _ hrd HF (by simp) (Lib.hid (hL.out.on (hb9.mono HB.out)).tab.here)).mono ?_
    rintro e w9 ⟨rfl, hc9⟩
    rw [HP.out]
    have hzA := hz9.below hc9 hz9.lt
    have hbA := below_step hb9 hc9
    have y0 := hzA.cell 0 rfl
    have y1 := hzA.cell 1 rfl
    have f0 := hzA.frozen 0
    have f1 := hzA.frozen 1
    clear hc9 hz9 hb9 hz8 hb8 hrd
    go_wp2
    try simp only [Exit.inBlock, Exit.then]
    exact ret_rc rfl rfl rfl (rc_set hzA rfl _ _) ⟨by rw [show st u = 503 by rw [E.out]; rfl], below_rc hbA (Nat.le_refl _) _ _⟩

  · have E7 := Lib.hid e7
    have g1 : ¬ (u : Int) < 1 := by omega
    have g2 : ¬ (8 : Int) < (u : Int) := by omega
    have b2 : ((u : Int) == 2) = false := by rw [beq_eq_false_iff_ne]; omega
    have b7 : ((u : Int) == 7) = false := by rw [beq_eq_false_iff_ne]; omega
    clear e7 e2
    go_enter Tryz.func6, Tryz.ntmps6
    go_wp2_with fail
    refine (HN.out _).mono ?_
    rintro e w3 ⟨rfl, hc3⟩
    have hz3 := hz.below hc3 hz.lt
    have hb3 := below_step hb0 hc3
    clear hc3 hz hb0
    go_wp2_with fail
    refine (HN.out _).mono ?_
    rintro e w7 ⟨rfl, hc7⟩
    have hz7 := hz3.below hc7 hz3.lt
    have hb7 := below_step hb3 hc7
    clear hc7 hz3 hb3
    go_wp2_with fail
    refine (text_any [101, 114, 114, 111, 114] (c :: r) _).mono ?_
    rintro e w8 ⟨rfl, hc8⟩
    have hz8 := hz7.below hc8 hz7.lt
    have hb8 := below_step hb7 hc8
    clear hc8 hz7 hb7
    unfold mv
    go_wp2_with fail
    have hrd : RdM (w8.alloc (.cells #[.string ⟨#[101, 114, 114, 111, 114]⟩, .int .i64 0, .string ⟨(c :: r).toArray⟩, .int .i64 0, .bool false] 50)) (.slice (some ⟨w8.heap.size, 0, none⟩) 1 1) [⟨[101, 114, 114, 111, 114], 0, c :: r, 0, false⟩] := ⟨rfl, .inr ⟨_, 0, 1, rfl, by simp, fun j u hj => by
      have h := cells_new w8 (mc ⟨[101, 114, 114, 111, 114], 0, c :: r, 0, false⟩) 50 j u hj
      rw [Addr.add_lit] at h; exact h⟩⟩
    have hb9 : Below w.heap.size w (w8.alloc (.cells #[.string ⟨#[101, 114, 114, 111, 114]⟩, .int .i64 0, .string ⟨(c :: r).toArray⟩, .int .i64 0, .bool false] 50)) := hb8.alloc hb8.size _
    have hz9 := hz8.alloc (.cells #[.string ⟨#[101, 114, 114, 111, 114]⟩, .int .i64 0, .string ⟨(c :: r).toArray⟩, .int .i64 0, .bool false] 50)
    refine (print_any _ _ _ hrd HF (by simp) (Lib.hid (hL.out.on (hb9.mono HB.out)).tab.here)).mono ?_
    rintro e w9 ⟨rfl, hc9⟩
    rw [HP.out]
    have hzA := hz9.below hc9 hz9.lt
    have hbA := below_step hb9 hc9
    have y0 := hzA.cell 0 rfl
    have y1 := hzA.cell 1 rfl
    have f0 := hzA.frozen 0
    have f1 := hzA.frozen 1
    clear hc9 hz9 hb9 hz8 hb8 hrd
    go_wp2
    try simp only [Exit.inBlock, Exit.then]
    exact ret_rc rfl rfl rfl (rc_set hzA rfl _ _) ⟨by rw [show st u = 400 by unfold st; rw [if_neg E2.out, if_neg E7.out]], below_rc hbA (Nat.le_refl _) _ _⟩



set_option maxRecDepth 20000 in
set_option maxHeartbeats 2000000 in
theorem fail_out (u : Int) (h : u < 1 ∨ 8 < u) (B : Nat) (w : World) (hB : B ≤ w.heap.size) (hL : Hid (LaidB B w)) : Calls Tryz.prog 6 #[.int .i64 u] w fun e w' => e = .returned (rv (st 1) (bd 1)) ∧ Below w.heap.size w w' := by
  have HB := Lib.hid hB
  obtain ⟨c, r, hcr⟩ := nm_cons 1 (by omega) (by omega)
  have hn := fun W => name_1 W
  rw [hcr] at hn
  have HN := Lib.hid hn
  have hpr := pr_bd 1 (by omega) (by omega)
  have hem : em 1 = ⟨[101, 114, 114, 111, 114], 0, c :: r, 0, false⟩ := by unfold em; rw [hcr]; rfl
  have HF := Lib.hid (fit_em 1 (by omega) (by omega))
  rw [hem] at hpr HF
  have HP := Lib.hid hpr
  have hz : Blk (w.alloc (.cells #[.int .i64 0, .string ⟨#[]⟩] 23)) w.heap.size 23 (rc 0 []) := Blk.new w _ (rc 0 [])
  have hb0 : Below w.heap.size w (w.alloc (.cells #[.int .i64 0, .string ⟨#[]⟩] 23)) := (Below.refl _ _).alloc (Nat.le_refl _) _
  clear hB hn hcr hem hpr
  go_enter Tryz.func6, Tryz.ntmps6
  go_wp2_with fail
  refine (name_out u h _).mono ?_
  rintro e w3 ⟨rfl, hc3⟩
  have hz3 := hz.below hc3 hz.lt
  have hb3 := below_step hb0 hc3
  clear hc3 hz hb0
  go_wp2_with fail
  refine (HN.out _).mono ?_
  rintro e w7 ⟨rfl, hc7⟩
  have hz7 := hz3.below hc7 hz3.lt
  have hb7 := below_step hb3 hc7
  clear hc7 hz3 hb3
  go_wp2_with fail
  refine (text_any [101, 114, 114, 111, 114] (c :: r) _).mono ?_
  rintro e w8 ⟨rfl, hc8⟩
  have hz8 := hz7.below hc8 hz7.lt
  have hb8 := below_step hb7 hc8
  clear hc8 hz7 hb7
  unfold mv
  go_wp2_with fail
  have hrd : RdM (w8.alloc (.cells #[.string ⟨#[101, 114, 114, 111, 114]⟩, .int .i64 0, .string ⟨(c :: r).toArray⟩, .int .i64 0, .bool false] 50)) (.slice (some ⟨w8.heap.size, 0, none⟩) 1 1) [⟨[101, 114, 114, 111, 114], 0, c :: r, 0, false⟩] := ⟨rfl, .inr ⟨_, 0, 1, rfl, by simp, fun j u hj => by
    have h := cells_new w8 (mc ⟨[101, 114, 114, 111, 114], 0, c :: r, 0, false⟩) 50 j u hj
    rw [Addr.add_lit] at h; exact h⟩⟩
  have hb9 : Below w.heap.size w (w8.alloc (.cells #[.string ⟨#[101, 114, 114, 111, 114]⟩, .int .i64 0, .string ⟨(c :: r).toArray⟩, .int .i64 0, .bool false] 50)) := hb8.alloc hb8.size _
  have hz9 := hz8.alloc (.cells #[.string ⟨#[101, 114, 114, 111, 114]⟩, .int .i64 0, .string ⟨(c :: r).toArray⟩, .int .i64 0, .bool false] 50)
  refine (print_any _ _ _ hrd HF (by simp) (Lib.hid (hL.out.on (hb9.mono HB.out)).tab.here)).mono ?_
  rintro e w9 ⟨rfl, hc9⟩
  rw [HP.out]
  have hzA := hz9.below hc9 hz9.lt
  have hbA := below_step hb9 hc9
  have y0 := hzA.cell 0 rfl
  have y1 := hzA.cell 1 rfl
  have f0 := hzA.frozen 0
  have f1 := hzA.frozen 1
  clear hc9 hz9 hb9 hz8 hb8 hrd
  go_wp2
  try simp only [Exit.inBlock, Exit.then]
  exact ret_rc rfl rfl rfl (rc_set hzA rfl _ _) ⟨by rw [show st 1 = 400 by rfl], below_rc hbA (Nat.le_refl _) _ _⟩


end Go.Proofs.YtffllacphfapnaaGreatDoor
namespace Go.Proofs.YtffllacphfapnaaGreatDoor
open Go.RowKit Js Rp

theorem rs_flds : (Tryz.prog.fieldsOf 23).toList.map (fun f => (f.name == "_", f.type, f.offset)) = [(false, 3, 0), (false, 9, 1)] := by kernel_rfl
theorem ne_of_beq {a b : String} (h : (a == b) = false) : a ≠ b := by simpa using h
theorem rs_list : ∃ f0 f1 : Field, (Tryz.prog.fieldsOf 23).toList = [f0, f1] ∧ f0.name ≠ "_" ∧ f1.name ≠ "_" ∧ f0.type = 3 ∧ f1.type = 9 ∧ f0.offset = 0 ∧ f1.offset = 1 := by
  have h := rs_flds
  generalize (Tryz.prog.fieldsOf 23).toList = L at h
  rcases L with _ | ⟨f0, _ | ⟨f1, _ | ⟨f2, L⟩⟩⟩
  all_goals simp only [List.map_cons, List.map_nil, List.cons.injEq, Prod.mk.injEq, reduceCtorEq, and_false, and_true] at h
  obtain ⟨⟨a0, b0, c0⟩, ⟨a1, b1, c1⟩⟩ := h
  exact ⟨f0, f1, rfl, ne_of_beq a0, ne_of_beq a1, b0, b1, c0, c1⟩
theorem part_plain {t : TypeId} (ht : ∀ w : World, (isAgg t).run Tryz.prog w = .ok false w) (cs : Array Value) (k : Nat) (v : Value) (h : cs[k]? = some v) (w : World) : (part t cs k).run Tryz.prog w = .ok v w := by
  unfold part
  simp [ht, h]
theorem agg_str (w : World) : (isAgg 9).run Tryz.prog w = .ok false w := by unfold isAgg; simp [run_underlying Tryz.underlying9]
theorem agg_int (w : World) : (isAgg 3).run Tryz.prog w = .ok false w := by unfold isAgg; simp [run_underlying Tryz.underlying3]
theorem str_beq (a b : By) : ((⟨a.toArray⟩ : ByteArray).toList == (⟨b.toArray⟩ : ByteArray).toList) = (a == b) := by
  rw [ByteArray.toList_eq, ByteArray.toList_eq]
theorem eql_rs (s u : Int) (x y : By) (w : World) : (binOp .eql 23 (.agg #[.int .i64 s, .string ⟨x.toArray⟩]) (.agg #[.int .i64 u, .string ⟨y.toArray⟩])).run Tryz.prog w = .ok (.bool (s == u && x == y)) w := by
  have hst : Tryz.prog.stoodInHeld 23 = false := by kernel_rfl
  have hun : Tryz.prog.underlying 23 = some (.struct (Tryz.prog.fieldsOf 23)) := by kernel_rfl
  obtain ⟨f0, f1, hl, n0, n1, t0, t1, o0, o1⟩ := rs_list
  rw [run_eql_struct, show (10000 : Nat) = 9998 + 1 + 1 from rfl, run_equalIn_agg _ _ _ _ _ hun hst, hl]
  have us := Tryz.underlying9
  have ui := Tryz.underlying3
  have ps : ∀ (cs : Array Value) (k : Nat) (v : Value), cs[k]? = some v → (part 9 cs k).run Tryz.prog w = .ok v w := fun cs k v h => part_plain agg_str cs k v h w
  have pi : ∀ (cs : Array Value) (k : Nat) (v : Value), cs[k]? = some v → (part 3 cs k).run Tryz.prog w = .ok v w := fun cs k v h => part_plain agg_int cs k v h w
  simp only [Op.eqFields, n0, n1, t0, t1, o0, o1, ne_eq, not_false_eq_true, if_true, Sem.run_bind]
  rw [pi _ 0 (.int .i64 s) rfl, Result.andThen_ok, pi _ 0 (.int .i64 u) rfl, Result.andThen_ok, run_equalIn_int _ _ _ _ _ _ _ ui, Result.andThen_ok]
  cases h1 : (s == u)
  · simp
  simp only [Bool.not_true, Bool.false_eq_true, if_false, Sem.run_bind, Bool.true_and]
  rw [ps _ 1 (.string ⟨x.toArray⟩) rfl, Result.andThen_ok, ps _ 1 (.string ⟨y.toArray⟩) rfl, Result.andThen_ok, run_equalIn_string _ _ _ _ _ us, Result.andThen_ok, str_beq]
  cases h4 : (x == y) <;> simp
theorem guard_rs (op : BinOp) (x y : Operand) (xs ys : Array Value) (w : World) : (eqGuard op 23 x y (.agg xs) (.agg ys)).run Tryz.prog w = .ok () w :=
  run_eqGuard_agg w op _ x y xs ys (by kernel_rfl)

/-- what Class does -/
def ClR (s : Int) (b : By) (w : World) (e : Ending) (w' : World) : Prop := e = .returned (.tuple #[.int .i64 (cl s b 1 8).1, .bool (cl s b 1 8).2]) ∧ Below w.heap.size w w'
theorem ClR.is {s : Int} {b : By} {w W : World} {x : Int} {t : Bool} (h : cl s b 1 8 = (x, t)) (hb : Below w.heap.size w W) : ClR s b w (.returned (.tuple #[.int .i64 x, .bool t])) W := ⟨by rw [h], hb⟩
def CI (s : Int) (b : By) (u : Nat) : Prop := cl s b 1 8 = cl s b u (9 - u)
theorem ci_hit {s : Int} {b : By} {u : Nat} (h : CI s b u) (hu : u ≤ 8) (hh : hit s b u = true) : cl s b 1 8 = ((u : Int), true) := by
  unfold CI at h; rw [h, show 9 - u = (8 - u) + 1 from by omega, cl, if_pos hh]
theorem ci_next {s : Int} {b : By} {u : Nat} (h : CI s b u) (hu : u ≤ 8) (hh : hit s b u = false) : CI s b (u + 1) := by
  unfold CI at h ⊢; rw [h, show 9 - u = (8 - u) + 1 from by omega, cl, if_neg (by rw [hh]; decide), show 9 - (u + 1) = 8 - u from by omega]
theorem ci_done {s : Int} {b : By} (h : CI s b 9) : cl s b 1 8 = (0, rest s b) := h
theorem rk_here {W w : World} {g B : Nat} {s : Int} {b : By} (h : Blk W g 23 (rc s b)) (hB : Below B w W) : W.cell? ⟨g, 0, none⟩ = some (.int .i64 s) ∧ W.cell? ⟨g, 1, none⟩ = some (.string ⟨b.toArray⟩) ∧ Blk W g 23 (rc s b) ∧ Below B w W :=
  ⟨h.cell 0 rfl, h.cell 1 rfl, h, hB⟩

set_option maxRecDepth 20000 in
set_option maxHeartbeats 4000000 in
theorem class_any (s : Int) (b : By) (w : World) (hL : Hid (LaidB w.heap.size w)) : Calls Tryz.prog 7 #[rv s b] w (ClR s b w) := by
  have hn := unary_not
  have hz : Blk (w.alloc (.cells #[.int .i64 s, .string ⟨b.toArray⟩] 23)) w.heap.size 23 (rc s b) := Blk.new w _ (rc s b)
  have hb0 : Below w.heap.size w (w.alloc (.cells #[.int .i64 s, .string ⟨b.toArray⟩] 23)) := (Below.refl _ _).alloc (Nat.le_refl _) _
  unfold rv
  go_enter Tryz.func7, Tryz.ntmps7
  go_wp2_with fail
  go_loopw [4] (fun i wr => ∃ u : Nat, 1 ≤ u ∧ u ≤ 9 ∧ i = .int .i64 u ∧ Hid (CI s b u) ∧ Blk wr w.heap.size 23 (rc s b) ∧ Below w.heap.size w wr) (fun i _ => 9 - (intOf i).toNat)
  case atStart => exact ⟨1, by omega, by omega, rfl, Lib.hid rfl, hz, hb0⟩
  case round =>
    clear hz hb0
    obtain ⟨u, h1, h9, rfl, HC, hx, hb⟩ := hrel
    by_cases h8 : u ≤ 8
    case pos =>
      have h8i : (u : Int) ≤ 8 := by omega
      have H1 := Lib.hid h1
      have H8 := Lib.hid h8
      have HQ := Lib.hid (eql_rs s (st u) b (bd u))
      have c0 := hx.cell 0 rfl
      have c1 := hx.cell 1 rfl
      clear h1 h8 h9
      cases hh : hit s b u with
      | true =>
        have HR := Lib.hid (ci_hit HC.out H8.out hh)
        have hq : ∀ W, (binOp .eql 23 (.agg #[.int .i64 s, .string ⟨b.toArray⟩]) (.agg #[.int .i64 (st u), .string ⟨(bd u).toArray⟩])).run Tryz.prog W = .ok (.bool true) W := fun W => by
          have := HQ.out W; unfold hit at hh; rw [hh] at this; exact this
        clear hh HQ
        go_wp2_with fail
        go_region_held3 (fun W => W.cell? ⟨w.heap.size, 0, none⟩ = some (.int .i64 s) ∧ W.cell? ⟨w.heap.size, 1, none⟩ = some (.string ⟨b.toArray⟩) ∧ Blk W w.heap.size 23 (rc s b) ∧ Below w.heap.size w W)
          (first | with_reducible exact rk_here hx.drew hb.drew | with_reducible exact rk_here hx hb | (go_split_ands; with_reducible exact rk_here (by assumption) (by assumption)))
          (first | (go_split_ands; go_at_call 6; refine (fail_in u H1.out H8.out w.heap.size _ (Below.size (by assumption)) (Lib.hid (hL.out.on (by assumption)))).mono ?_; unfold rv; rintro e w2 ⟨rfl, hc2⟩; have hx2 : Blk w2 w.heap.size 23 (rc s b) := Blk.below (by assumption) hc2 (Blk.lt (by assumption)); have hb2 : Below w.heap.size w w2 := below_step (by assumption) hc2))
        all_goals
          go_split_ands
          go_wp2
          go_ret2
          exact ClR.is HR.out (by assumption)
      | false =>
        have HR := Lib.hid (ci_next HC.out H8.out hh)
        have hq : ∀ W, (binOp .eql 23 (.agg #[.int .i64 s, .string ⟨b.toArray⟩]) (.agg #[.int .i64 (st u), .string ⟨(bd u).toArray⟩])).run Tryz.prog W = .ok (.bool false) W := fun W => by
          have := HQ.out W; unfold hit at hh; rw [hh] at this; exact this
        clear hh HQ
        go_wp2_with fail
        go_region_held3 (fun W => W.cell? ⟨w.heap.size, 0, none⟩ = some (.int .i64 s) ∧ W.cell? ⟨w.heap.size, 1, none⟩ = some (.string ⟨b.toArray⟩) ∧ Blk W w.heap.size 23 (rc s b) ∧ Below w.heap.size w W)
          (first | with_reducible exact rk_here hx.drew hb.drew | with_reducible exact rk_here hx hb | (go_split_ands; with_reducible exact rk_here (by assumption) (by assumption)))
          (first | (go_split_ands; go_at_call 6; refine (fail_in u H1.out H8.out w.heap.size _ (Below.size (by assumption)) (Lib.hid (hL.out.on (by assumption)))).mono ?_; unfold rv; rintro e w2 ⟨rfl, hc2⟩; have hx2 : Blk w2 w.heap.size 23 (rc s b) := Blk.below (by assumption) hc2 (Blk.lt (by assumption)); have hb2 : Below w.heap.size w w2 := below_step (by assumption) hc2))
        all_goals
          go_split_ands
          rename_i s1 s2 hxx hbb
          go_wp2_with fail
          go_roundw
          case rel => have := H8.out; exact ⟨u + 1, by omega, by omega, by go_num, HR, hxx, hbb⟩
          case measure => simp [intOf]; omega
    case neg =>
    obtain rfl : u = 9 := by omega
    have HR := Lib.hid (ci_done HC.out)
    have c1 := hx.cell 1 rfl
    clear h1 h9 h8
    obtain ⟨P, hP⟩ : ∃ P, P = parse b := ⟨_, rfl⟩
    obtain ⟨L, E⟩ := P
    have hrest : rest s b = (s == 200 && E == 0 && !hasN L errN) := by unfold rest; rw [← hP]
    have hlen : L.length ≤ 1152921504606846976 := by
      rcases parse_err b with h | ⟨h, _⟩ | ⟨h, _⟩
      · rw [← hP] at h
        have := pr_parse (l := L) (by rw [← hP]; exact Prod.ext rfl h : parse b = (L, 0))
        have h2 := this.1
        unfold pr at h2
        by_cases h3 : L.length > 64
        · rw [if_pos h3] at h2; simp at h2
        · omega
      · rw [h] at hP; cases hP; decide
      · rw [h] at hP; cases hP; decide
    have HP := Lib.hid hP.symm
    rw [hrest] at HR
    have HLN := Lib.hid hlen
    clear hP hrest hlen
    go_wp2_with fail
    refine (jparse_any b _ (Lib.hid ((hL.out.on hb).mono hb.size))).mono ?_
    intro e w3 hQ
    unfold PaR at hQ
    rw [HP.out] at hQ
    obtain ⟨v, rfl, hown, hc3⟩ := hQ
    have hb3 := below_step hb hc3
    have hx3 := hx.below hc3 hx.lt
    clear hc3 hb hx c1
    go_wp2_with fail
    refine (get_any v L errN _ hown.rd HLN.out).mono ?_
    rintro e w4 ⟨rfl, hc4⟩
    have hb4 := below_step hb3 hc4
    have hx4 := hx3.below hc4 hx3.lt
    clear hc4 hb3 hx3 hown
    generalize hasN L errN = bad at HR
    generalize getM L errN = gm
    unfold mv
    have hx5 := hx4.alloc (.cells #[.string ⟨gm.nm.toArray⟩, .int .i64 gm.kd, .string ⟨gm.tx.toArray⟩, .int .i64 gm.n, .bool gm.b] 50)
    have hb5 := hb4.alloc hb4.size (.cells #[.string ⟨gm.nm.toArray⟩, .int .i64 gm.kd, .string ⟨gm.tx.toArray⟩, .int .i64 gm.n, .bool gm.b] 50)
    have z0 := hx5.cell 0 rfl
    clear hx4 hx5 hb4
    cases bad with
    | true =>
      have HR2 : Hid (cl s b 1 8 = (0, false)) := Lib.hid (by rw [HR.out]; simp)
      clear HR
      go_wp2
      go_ret2
      exact ClR.is HR2.out hb5
    | false =>
      by_cases hE : E = 0
      · by_cases hs : s = 200
        · have HR2 : Hid (cl s b 1 8 = (0, true)) := Lib.hid (by rw [HR.out, hE, hs]; rfl)
          have hsb : (s == 200) = true := by rw [hs]; rfl
          have hsc : (s != 200) = false := by rw [hs]; rfl
          subst hE
          clear hs HR
          go_wp2
          go_ret2
          exact ClR.is HR2.out hb5
        · have hsb : (s == 200) = false := by rw [beq_eq_false_iff_ne]; exact hs
          have HR2 : Hid (cl s b 1 8 = (0, false)) := Lib.hid (by rw [HR.out, hsb]; simp)
          have hsc : (s != 200) = true := by rw [bne, hsb]; rfl
          subst hE
          clear hs HR
          go_wp2
          go_ret2
          exact ClR.is HR2.out hb5
      · have hEb : (E == 0) = false := by rw [beq_eq_false_iff_ne]; exact hE
        have HR2 : Hid (cl s b 1 8 = (0, false)) := Lib.hid (by rw [HR.out, hEb]; simp)
        have hEc : (E != 0) = true := by rw [bne, hEb]; rfl
        clear hE HR
        go_wp2
        go_ret2
        exact ClR.is HR2.out hb5

end Go.Proofs.YtffllacphfapnaaGreatDoor
namespace Go.Proofs.YtffllacphfapnaaGreatDoor
open Go.RowKit Js Rp

theorem ret_rct {fn : Func} {p u : Tmp} (hres : fn.results = #[.cell p 23, .tmp u]) {a : Act} (hd : a.defers = []) {W : World} {b : Nat} {t : TypeId} {s : Int} {x : By} (hp : a.tmps.getD p undef = .pointer (some ⟨b, 0, none⟩)) (hb : Blk W b t (rc s x)) {R : Ending → World → Prop}
    (hR : R (.returned (.tuple #[rv s x, a.tmps.getD u undef])) W) : bodyPost Tryz.prog fn R .ret a W := by
  have c0 := hb.cell 0 rfl
  have c1 := hb.cell 1 rfl
  have t2 : a.tmps[p]?.getD undef = .pointer (some ⟨b, 0, none⟩) := by rw [← hp, Array.getD_eq_getD_getElem?]
  refine bodyPost_ret (v := .tuple #[rv s x, a.tmps.getD u undef]) ?_ hd hR
  simp [results, hres, go_sem, t2, c0, c1, rv]
/-- no command -/
def zc : Value := .agg #[.int .i64 0, .string ⟨#[]⟩, .int .i64 0, .int .i64 0, .string ⟨#[]⟩, .string ⟨#[]⟩, .slice none 0 0, .string ⟨#[]⟩, .string ⟨#[]⟩, .string ⟨#[]⟩, .string ⟨#[]⟩, .bool false, .int .i64 0]
/-- no answer -/
def za : Value := .agg #[.int .i64 0, .int .i64 0, .int .i64 0, .slice none 0 0, .string ⟨#[]⟩, .string ⟨#[]⟩, .bool false, .bool false]
def intro : By := [47, 105, 110, 116, 114, 111, 115, 112, 101, 99, 116]
set_option maxRecDepth 20000 in
set_option maxHeartbeats 1000000 in
theorem may_z (w : World) : Calls Tryz.prog 43 #[zc] w fun e w' => e = .returned (.bool false) ∧ Below w.heap.size w w' := by
  unfold zc
  go_enter Tryz.func43, Tryz.ntmps43
  go_wp2
  go_ret
  exact ⟨rfl, ((Below.refl _ _).alloc (Nat.le_refl _) _).alloc (by simp) _⟩
set_option maxRecDepth 20000 in
set_option maxHeartbeats 1000000 in
theorem fits_z (w : World) : Calls Tryz.prog 24 #[.string ⟨intro.toArray⟩, zc] w fun e w' => e = .returned (.bool true) ∧ Below w.heap.size w w' := by
  have hm := Lib.hid (fun w => may_z w)
  have he : (({ data := #[] } : ByteArray) ++ { data := #[] }) = { data := #[] } := rfl
  unfold zc at hm ⊢
  unfold intro
  have hb0 : Below w.heap.size w (w.alloc (.cells #[.int .i64 0, .string ⟨#[]⟩, .int .i64 0, .int .i64 0, .string ⟨#[]⟩, .string ⟨#[]⟩, .slice none 0 0, .string ⟨#[]⟩, .string ⟨#[]⟩, .string ⟨#[]⟩, .string ⟨#[]⟩, .bool false, .int .i64 0] 39)) := (Below.refl _ _).alloc (Nat.le_refl _) _
  have hz : Blk (w.alloc (.cells #[.int .i64 0, .string ⟨#[]⟩, .int .i64 0, .int .i64 0, .string ⟨#[]⟩, .string ⟨#[]⟩, .slice none 0 0, .string ⟨#[]⟩, .string ⟨#[]⟩, .string ⟨#[]⟩, .string ⟨#[]⟩, .bool false, .int .i64 0] 39)) w.heap.size 39 [.int .i64 0, .string ⟨#[]⟩, .int .i64 0, .int .i64 0, .string ⟨#[]⟩, .string ⟨#[]⟩, .slice none 0 0, .string ⟨#[]⟩, .string ⟨#[]⟩, .string ⟨#[]⟩, .string ⟨#[]⟩, .bool false, .int .i64 0] := Blk.new w _ _
  go_enter Tryz.func24, Tryz.ntmps24
  go_wp2_with fail
  refine (hm.out _).mono ?_
  rintro e w1 ⟨rfl, hc1⟩
  have hb1 := below_step hb0 hc1
  have hz1 := hz.below hc1 hz.lt
  have c0 := hz1.cell 0 rfl
  have c1 := hz1.cell 1 rfl
  have c2 := hz1.cell 2 rfl
  have c3 := hz1.cell 3 rfl
  have c4 := hz1.cell 4 rfl
  have c5 := hz1.cell 5 rfl
  have c6 := hz1.cell 6 rfl
  have c7 := hz1.cell 7 rfl
  have c8 := hz1.cell 8 rfl
  have c9 := hz1.cell 9 rfl
  have c10 := hz1.cell 10 rfl
  have c11 := hz1.cell 11 rfl
  have c12 := hz1.cell 12 rfl
  clear hc1 hz hb0
  go_wp2
  go_ret
  exact ⟨rfl, hb1⟩
set_option maxRecDepth 20000 in
set_option maxHeartbeats 2000000 in
theorem of_z (B : Nat) (w : World) (hB : B ≤ w.heap.size) (hL : Hid (LaidB B w)) : Calls Tryz.prog 14 #[.string ⟨intro.toArray⟩, .slice none 0 0, zc, za] w fun e w' => e = .returned (.tuple #[rv 200 abt, .int .i64 0]) ∧ Below w.heap.size w w' := by
  have HB := Lib.hid hB
  have hf := Lib.hid (fun w => fits_z w)
  have hmf : ∀ (fn : Fn) (first cap : Array Value) (w : World), (Instr.makeFunc fn first cap).run Tryz.prog w = .ok (.func fn first cap) w := fun _ _ _ _ => rfl
  unfold zc at hf ⊢
  unfold za
  unfold intro at hf ⊢
  clear hB
  have hb0 : Below w.heap.size w ((((w.alloc (.cells #[.slice none 0 0] 36)).alloc (.cells #[.int .i64 0, .string ⟨#[]⟩, .int .i64 0, .int .i64 0, .string ⟨#[]⟩, .string ⟨#[]⟩, .slice none 0 0, .string ⟨#[]⟩, .string ⟨#[]⟩, .string ⟨#[]⟩, .string ⟨#[]⟩, .bool false, .int .i64 0] 39)).alloc (.cells #[.int .i64 0, .int .i64 0, .int .i64 0, .slice none 0 0, .string ⟨#[]⟩, .string ⟨#[]⟩, .bool false, .bool false] 41)).alloc (.cells #[.int .i64 0, .string ⟨#[]⟩] 23)) := ((((Below.refl _ _).alloc (Nat.le_refl _) _).alloc (by simp) _).alloc (by simp; omega) _).alloc (by simp; omega) _
  have hr0 : Blk ((((w.alloc (.cells #[.slice none 0 0] 36)).alloc (.cells #[.int .i64 0, .string ⟨#[]⟩, .int .i64 0, .int .i64 0, .string ⟨#[]⟩, .string ⟨#[]⟩, .slice none 0 0, .string ⟨#[]⟩, .string ⟨#[]⟩, .string ⟨#[]⟩, .string ⟨#[]⟩, .bool false, .int .i64 0] 39)).alloc (.cells #[.int .i64 0, .int .i64 0, .int .i64 0, .slice none 0 0, .string ⟨#[]⟩, .string ⟨#[]⟩, .bool false, .bool false] 41)).alloc (.cells #[.int .i64 0, .string ⟨#[]⟩] 23)) (w.heap.size + 1 + 1 + 1) 23 (rc 0 []) := by
    have h := Blk.new (((w.alloc (.cells #[.slice none 0 0] 36)).alloc (.cells #[.int .i64 0, .string ⟨#[]⟩, .int .i64 0, .int .i64 0, .string ⟨#[]⟩, .string ⟨#[]⟩, .slice none 0 0, .string ⟨#[]⟩, .string ⟨#[]⟩, .string ⟨#[]⟩, .string ⟨#[]⟩, .bool false, .int .i64 0] 39)).alloc (.cells #[.int .i64 0, .int .i64 0, .int .i64 0, .slice none 0 0, .string ⟨#[]⟩, .string ⟨#[]⟩, .bool false, .bool false] 41)) 23 (rc 0 [])
    rw [World.size_alloc, World.size_alloc, World.size_alloc] at h
    exact h
  have ha0 : Blk ((((w.alloc (.cells #[.slice none 0 0] 36)).alloc (.cells #[.int .i64 0, .string ⟨#[]⟩, .int .i64 0, .int .i64 0, .string ⟨#[]⟩, .string ⟨#[]⟩, .slice none 0 0, .string ⟨#[]⟩, .string ⟨#[]⟩, .string ⟨#[]⟩, .string ⟨#[]⟩, .bool false, .int .i64 0] 39)).alloc (.cells #[.int .i64 0, .int .i64 0, .int .i64 0, .slice none 0 0, .string ⟨#[]⟩, .string ⟨#[]⟩, .bool false, .bool false] 41)).alloc (.cells #[.int .i64 0, .string ⟨#[]⟩] 23)) (w.heap.size + 1 + 1) 41 [.int .i64 0, .int .i64 0, .int .i64 0, .slice none 0 0, .string ⟨#[]⟩, .string ⟨#[]⟩, .bool false, .bool false] := by
    have h := (Blk.new ((w.alloc (.cells #[.slice none 0 0] 36)).alloc (.cells #[.int .i64 0, .string ⟨#[]⟩, .int .i64 0, .int .i64 0, .string ⟨#[]⟩, .string ⟨#[]⟩, .slice none 0 0, .string ⟨#[]⟩, .string ⟨#[]⟩, .string ⟨#[]⟩, .string ⟨#[]⟩, .bool false, .int .i64 0] 39)) 41 [.int .i64 0, .int .i64 0, .int .i64 0, .slice none 0 0, .string ⟨#[]⟩, .string ⟨#[]⟩, .bool false, .bool false]).alloc (.cells #[.int .i64 0, .string ⟨#[]⟩] 23)
    rw [World.size_alloc, World.size_alloc] at h
    exact h
  go_enter Tryz.func14, Tryz.ntmps14
  go_wp2_with fail
  refine (hf.out _).mono ?_
  rintro e w1 ⟨rfl, hc1⟩
  have hb1 := below_step hb0 hc1
  have hr1 := hr0.below hc1 hr0.lt
  have ha1 := ha0.below hc1 ha0.lt
  clear hc1 hb0 hr0 ha0
  have a0 := ha1.cell 0 rfl
  have hr2 := hr1.alloc (.cells #[.int .i64 0] 43)
  have ha2 := ha1.alloc (.cells #[.int .i64 0] 43)
  have hd2 : Blk (w1.alloc (.cells #[.int .i64 0] 43)) w1.heap.size 43 [.int .i64 0] := Blk.new w1 _ _
  have hb2 := hb1.alloc hb1.size (.cells #[.int .i64 0] 43)
  have a3 := ha2.cell 3 rfl
  clear hb1 hr1 ha1
  go_wp2_with fail
  refine (sprint_any (.slice none 0 0) [] _ ⟨Rd.nil _ _, fun x h => by cases h⟩ (by simp)).mono ?_
  rintro e w3 ⟨rfl, hc3⟩
  have hb3 := below_step hb2 hc3
  have hr3 := hr2.below hc3 hr2.lt
  have ha3 := ha2.below hc3 ha2.lt
  have hd3 := hd2.below hc3 hd2.lt
  clear hc3 hb2 hr2 ha2 hd2 a3 a0
  have hj : Sc.join (Sc.set []) = [] := by simp [Sc.set, Sc.nub, Sc.join]
  rw [hj]
  clear hj
  go_wp2_with fail
  refine (text_any [115, 99, 111, 112, 101] [] _).mono ?_
  rintro e w4 ⟨rfl, hc4⟩
  unfold mv
  have hb4 := below_step hb3 hc4
  have hr4 := hr3.below hc4 hr3.lt
  have ha4 := ha3.below hc4 ha3.lt
  have hd4 := hd3.below hc4 hd3.lt
  clear hc4 hb3 hr3 ha3 hd3
  have hb5 := hb4.alloc hb4.size (.cells #[.string ⟨#[115, 99, 111, 112, 101]⟩, .int .i64 0, .string ⟨#[]⟩, .int .i64 0, .bool false] 50)
  have hr5 := hr4.alloc (.cells #[.string ⟨#[115, 99, 111, 112, 101]⟩, .int .i64 0, .string ⟨#[]⟩, .int .i64 0, .bool false] 50)
  have ha5 := ha4.alloc (.cells #[.string ⟨#[115, 99, 111, 112, 101]⟩, .int .i64 0, .string ⟨#[]⟩, .int .i64 0, .bool false] 50)
  have hd5 := hd4.alloc (.cells #[.string ⟨#[115, 99, 111, 112, 101]⟩, .int .i64 0, .string ⟨#[]⟩, .int .i64 0, .bool false] 50)
  clear hb4 hr4 ha4 hd4
  have a6 := ha5.cell 6 rfl
  go_wp2_with fail
  refine (bool_any [97, 99, 116, 105, 118, 101] false _).mono ?_
  rintro e w6 ⟨rfl, hc6⟩
  unfold mv
  have hb6 := below_step hb5 hc6
  have hr6 := hr5.below hc6 hr5.lt
  have ha6 := ha5.below hc6 ha5.lt
  have hd6 := hd5.below hc6 hd5.lt
  clear hc6 hb5 hr5 ha5 hd5 a6
  have hb7 := hb6.alloc hb6.size (.cells #[.string ⟨#[97, 99, 116, 105, 118, 101]⟩, .int .i64 2, .string ⟨#[]⟩, .int .i64 0, .bool false] 50)
  have hr7 := hr6.alloc (.cells #[.string ⟨#[97, 99, 116, 105, 118, 101]⟩, .int .i64 2, .string ⟨#[]⟩, .int .i64 0, .bool false] 50)
  have ha7 := ha6.alloc (.cells #[.string ⟨#[97, 99, 116, 105, 118, 101]⟩, .int .i64 2, .string ⟨#[]⟩, .int .i64 0, .bool false] 50)
  have hd7 := hd6.alloc (.cells #[.string ⟨#[97, 99, 116, 105, 118, 101]⟩, .int .i64 2, .string ⟨#[]⟩, .int .i64 0, .bool false] 50)
  have hrd : RdM (w6.alloc (.cells #[.string ⟨#[97, 99, 116, 105, 118, 101]⟩, .int .i64 2, .string ⟨#[]⟩, .int .i64 0, .bool false] 50)) (.slice (some ⟨w6.heap.size, 0, none⟩) 1 1) [ab] := ⟨rfl, .inr ⟨_, 0, 1, rfl, by simp, fun j u hj => by
    have h := cells_new w6 (mc ab) 50 j u hj
    rw [Addr.add_lit] at h; exact h⟩⟩
  clear hb6 hr6 ha6 hd6
  have b6 := ha7.cell 6 rfl
  go_wp2_with fail
  have hfit : fitL [ab] := fun m hm => by
    simp at hm; subst hm
    exact ⟨by decide, by decide, by unfold inI; decide⟩
  refine (print_any _ [ab] _ hrd (Lib.hid hfit) (by simp) (Lib.hid (hL.out.on (hb7.mono HB.out)).tab.here)).mono ?_
  rintro e w8 ⟨rfl, hc8⟩
  rw [pr_ab]
  have hb8 := below_step hb7 hc8
  have hr8 := hr7.below hc8 hr7.lt
  have hd8 := hd7.below hc8 hd7.lt
  clear hc8 hb7 hr7 ha7 hd7 b6 hrd hfit
  have d0 := hd8.cell 0 rfl
  have y0 := hr8.cell 0 rfl
  have y1 := hr8.cell 1 rfl
  have f0 := hr8.frozen 0
  have f1 := hr8.frozen 1
  go_wp2
  try simp only [Exit.inBlock, Exit.then]
  refine ret_rct rfl rfl rfl (rc_set hr8 rfl 200 abt) ⟨rfl, below_rc hb8 (by omega) _ _⟩
end Go.Proofs.YtffllacphfapnaaGreatDoor
