/-
  Chapter 20: what is answered for a reason, the program's and the reference's. Condition: the table of powers of ten lies as the program's text lays it.
-/
import Derived.Test.YtffllacphfapnaaGreatDoorY2
import Derived.Test.YtffllacphfapnaaGreatDoorJo
import Derived.Test.YtffllacphfapnaaGreatDoorJy
import Derived.Test.YtffllacphfapnaaGreatDoorJn
namespace Go.Proofs.YtffllacphfapnaaGreatDoor
open Go.RowKit Js Rp

def rc (s : Int) (b : By) : List Value := [.int .i64 s, .string ⟨b.toArray⟩]
def rv (s : Int) (b : By) : Value := .agg #[.int .i64 s, .string ⟨b.toArray⟩]
theorem ret_rc {fn : Func} {p : Tmp} (hres : fn.results = #[.cell p 23]) {a : Act} (hd : a.defers = []) {W : World} {b : Nat} {t : TypeId} {s : Int} {x : By} (hp : a.tmps.getD p undef = .pointer (some ⟨b, 0, none⟩)) (hb : Blk W b t (rc s x)) {R : Ending → World → Prop}
    (hR : R (.returned (rv s x)) W) : bodyPost Tryz.prog fn R .ret a W := by
  have c0 := hb.cell 0 rfl
  have c1 := hb.cell 1 rfl
  have t2 : a.tmps[p]?.getD undef = .pointer (some ⟨b, 0, none⟩) := by rw [← hp, Array.getD_eq_getD_getElem?]
  refine bodyPost_ret (v := rv s x) ?_ hd hR
  simp [results, hres, go_sem, t2, c0, c1, rv]
theorem rc_set {W : World} {b : Nat} {t : TypeId} {cs : List Value} (h : Blk W b t cs) (hc : cs.length = 2) (s : Int) (x : By) : Blk ((W.setCell ⟨b, 0, none⟩ (.int .i64 s)).setCell ⟨b, 1, none⟩ (.string ⟨x.toArray⟩)) b t (rc s x) := by
  match cs, hc with
  | [u, v], _ => exact (h.set 0 _).set 1 _
theorem below_rc {W : World} {B b : Nat} {w0 : World} (h : Below B w0 W) (hb : B ≤ b) (u v : Value) : Below B w0 ((W.setCell ⟨b, 0, none⟩ u).setCell ⟨b, 1, none⟩ v) := (h.setCell hb _).setCell hb _

set_option maxRecDepth 20000 in
set_option maxHeartbeats 2000000 in
theorem fail_in (u : Nat) (h1 : 1 ≤ u) (h8 : u ≤ 8) (B : Nat) (w : World) (hB : B ≤ w.heap.size) (hL : Hid (LaidB B w)) : Calls Tryz.prog 6 #[.int .i64 (u : Int)] w fun e w' => e = .returned (rv (st u) (bd u)) ∧ Below w.heap.size w w' := by
  have HB := Lib.hid hB
  obtain ⟨c, r, hcr⟩ := nm_cons u (by omega) (by omega)
  have hn := fun W => name_in u (by omega) (by omega) W
  rw [hcr] at hn
  have HN := Lib.hid hn
  have hpr := pr_bd u (by omega) (by omega)
  have hem : em u = ⟨[101, 114, 114, 111, 114], 0, c :: r, 0, false⟩ := by unfold em; rw [hcr]; rfl
  have HF := Lib.hid (fit_em u (by omega) (by omega))
  rw [hem] at hpr HF
  have HP := Lib.hid hpr
  have hz : Blk (w.alloc (.cells #[.int .i64 0, .string ⟨#[]⟩] 23)) w.heap.size 23 (rc 0 []) := Blk.new w _ (rc 0 [])
  have hb0 : Below w.heap.size w (w.alloc (.cells #[.int .i64 0, .string ⟨#[]⟩] 23)) := (Below.refl _ _).alloc (Nat.le_refl _) _
  clear hB hn hcr hem hpr
  by_cases e2 : u = 2
  · have E := Lib.hid e2
    have g1 : ¬ (u : Int) < 1 := by omega
    have g2 : ¬ (8 : Int) < (u : Int) := by omega
    have b2 : ((u : Int) == 2) = true := by rw [e2]; rfl
    have b7 : ((u : Int) == 7) = false := by rw [e2]; rfl
    clear e2
    go_enter Tryz.func6, Tryz.ntmps6
    go_wp2_with fail
    refine (HN.out _).mono ?_
    rintro e w3 ⟨rfl, hc3⟩
    have hz3 := hz.below hc3 hz.lt
    have hb3 := below_step hb0 hc3
    clear hc3 hz hb0
    go_wp2_with fail
    refine (HN.out _).mono ?_
    rintro e w7 ⟨rfl, hc7⟩
    have hz7 := hz3.below hc7 hz3.lt
    have hb7 := below_step hb3 hc7
    clear hc7 hz3 hb3
    go_wp2_with fail
    refine (text_any [101, 114, 114, 111, 114] (c :: r) _).mono ?_
    rintro e w8 ⟨rfl, hc8⟩
    have hz8 := hz7.below hc8 hz7.lt
    have hb8 := below_step hb7 hc8
    clear hc8 hz7 hb7
    unfold mv
    go_wp2_with fail
    have hrd : RdM (w8.alloc (.cells #[.string ⟨#[101, 114, 114, 111, 114]⟩, .int .i64 0, .string ⟨(c :: r).toArray⟩, .int .i64 0, .bool false] 50)) (.slice (some ⟨w8.heap.size, 0, none⟩) 1 1) [⟨[101, 114, 114, 111, 114], 0, c :: r, 0, false⟩] := ⟨rfl, .inr ⟨_, 0, 1, rfl, by simp, fun j u hj => by
      have h := cells_new w8 (mc ⟨[101, 114, 114, 111, 114], 0, c :: r, 0, false⟩) 50 j u hj
      rw [Addr.add_lit] at h; exact h⟩⟩
    have hb9 : Below w.heap.size w (w8.alloc (.cells #[.string ⟨#[101, 114, 114, 111, 114]⟩, .int .i64 0, .string ⟨(c :: r).toArray⟩, .int .i64 0, .bool false] 50)) := hb8.alloc hb8.size _
    have hz9 := hz8.alloc (.cells #[.string ⟨#[101, 114, 114, 111, 114]⟩, .int .i64 0, .string ⟨(c :: r).toArray⟩, .int .i64 0, .bool false] 50)
    refine (print_any _ _ _ hrd HF (by simp) (Lib.hid (hL.out.on (hb9.mono HB.out)).tab.here)).mono ?_
    rintro e w9 ⟨rfl, hc9⟩
    rw [HP.out]
    have hzA := hz9.below hc9 hz9.lt
    have hbA := below_step hb9 hc9
    have y0 := hzA.cell 0 rfl
    have y1 := hzA.cell 1 rfl
    have f0 := hzA.frozen 0
    have f1 := hzA.frozen 1
    clear hc9 hz9 hb9 hz8 hb8 hrd
    go_wp2
    try simp only [Exit.inBlock, Exit.then]
    exact ret_rc rfl rfl rfl (rc_set hzA rfl _ _) ⟨by rw [show st u = 401 by rw [E.out]; rfl], below_rc hbA (Nat.le_refl _) _ _⟩

  have E2 := Lib.hid e2
  by_cases e7 : u = 7
  · have E := Lib.hid e7
    have g1 : ¬ (u : Int) < 1 := by omega
    have g2 : ¬ (8 : Int) < (u : Int) := by omega
    have b2 : ((u : Int) == 2) = false := by rw [e7]; rfl
    have b7 : ((u : Int) == 7) = true := by rw [e7]; rfl
    clear e7 e2
    go_enter Tryz.func6, Tryz.ntmps6
    go_wp2_with fail
    refine (HN.out _).mono ?_
    rintro e w3 ⟨rfl, hc3⟩
    have hz3 := hz.below hc3 hz.lt
    have hb3 := below_step hb0 hc3
    clear hc3 hz hb0
    go_wp2_with fail
    refine (HN.out _).mono ?_
    rintro e w7 ⟨rfl, hc7⟩
    have hz7 := hz3.below hc7 hz3.lt
    have hb7 := below_step hb3 hc7
    clear hc7 hz3 hb3
    go_wp2_with fail
    refine (text_any [101, 114, 114, 111, 114] (c :: r) _).mono ?_
    rintro e w8 ⟨rfl, hc8⟩
    have hz8 := hz7.below hc8 hz7.lt
    have hb8 := below_step hb7 hc8
    clear hc8 hz7 hb7
    unfold mv
    go_wp2_with fail
    have hrd : RdM (w8.alloc (.cells #[.string ⟨#[101, 114, 114, 111, 114]⟩, .int .i64 0, .string ⟨(c :: r).toArray⟩, .int .i64 0, .bool false] 50)) (.slice (some ⟨w8.heap.size, 0, none⟩) 1 1) [⟨[101, 114, 114, 111, 114], 0, c :: r, 0, false⟩] := ⟨rfl, .inr ⟨_, 0, 1, rfl, by simp, fun j u hj => by
      have h := cells_new w8 (mc ⟨[101, 114, 114, 111, 114], 0, c :: r, 0, false⟩) 50 j u hj
      rw [Addr.add_lit] at h; exact h⟩⟩
    have hb9 : Below w.heap.size w (w8.alloc (.cells #[.string ⟨#[101, 114, 114, 111, 114]⟩, .int .i64 0, .string ⟨(c :: r).toArray⟩, .int .i64 0, .bool false] 50)) := hb8.alloc hb8.size _
    have hz9 := hz8.alloc (.cells #[.string ⟨#[101, 114, 114, 111, 114]⟩, .int .i64 0, .string ⟨(c :: r).toArray⟩, .int .i64 0, .bool false] 50)
    refine (print_any _ _ _ hrd HF (by simp) (Lib.hid (hL.out.on (hb9.mono HB.out)).tab.here)).mono ?_
    rintro e w9 ⟨rfl, hc9⟩
    rw [HP.out]
    have hzA := hz9.below hc9 hz9.lt
    have hbA := below_step hb9 hc9
    have y0 := hzA.cell 0 rfl
    have y1 := hzA.cell 1 rfl
    have f0 := hzA.frozen 0
    have f1 := hzA.frozen 1
    clear hc9 hz9 hb9 hz8 hb8 hrd
    go_wp2
    try simp only [Exit.inBlock, Exit.then]
    exact ret_rc rfl rfl rfl (rc_set hzA rfl _ _) ⟨by rw [show st u = 503 by rw [E.out]; rfl], below_rc hbA (Nat.le_refl _) _ _⟩

  · have E7 := Lib.hid e7
    have g1 : ¬ (u : Int) < 1 := by omega
    have g2 : ¬ (8 : Int) < (u : Int) := by omega
    have b2 : ((u : Int) == 2) = false := by rw [beq_eq_false_iff_ne]; omega
    have b7 : ((u : Int) == 7) = false := by rw [beq_eq_false_iff_ne]; omega
    clear e7 e2
    go_enter Tryz.func6, Tryz.ntmps6
    go_wp2_with fail
    refine (HN.out _).mono ?_
    rintro e w3 ⟨rfl, hc3⟩
    have hz3 := hz.below hc3 hz.lt
    have hb3 := below_step hb0 hc3
    clear hc3 hz hb0
    go_wp2_with fail
    refine (HN.out _).mono ?_
    rintro e w7 ⟨rfl, hc7⟩
    have hz7 := hz3.below hc7 hz3.lt
    have hb7 := below_step hb3 hc7
    clear hc7 hz3 hb3
    go_wp2_with fail
    refine (text_any [101, 114, 114, 111, 114] (c :: r) _).mono ?_
    rintro e w8 ⟨rfl, hc8⟩
    have hz8 := hz7.below hc8 hz7.lt
    have hb8 := below_step hb7 hc8
    clear hc8 hz7 hb7
    unfold mv
    go_wp2_with fail
    have hrd : RdM (w8.alloc (.cells #[.string ⟨#[101, 114, 114, 111, 114]⟩, .int .i64 0, .string ⟨(c :: r).toArray⟩, .int .i64 0, .bool false] 50)) (.slice (some ⟨w8.heap.size, 0, none⟩) 1 1) [⟨[101, 114, 114, 111, 114], 0, c :: r, 0, false⟩] := ⟨rfl, .inr ⟨_, 0, 1, rfl, by simp, fun j u hj => by
      have h := cells_new w8 (mc ⟨[101, 114, 114, 111, 114], 0, c :: r, 0, false⟩) 50 j u hj
      rw [Addr.add_lit] at h; exact h⟩⟩
    have hb9 : Below w.heap.size w (w8.alloc (.cells #[.string ⟨#[101, 114, 114, 111, 114]⟩, .int .i64 0, .string ⟨(c :: r).toArray⟩, .int .i64 0, .bool false] 50)) := hb8.alloc hb8.size _
    have hz9 := hz8.alloc (.cells #[.string ⟨#[101, 114, 114, 111, 114]⟩, .int .i64 0, .string ⟨(c :: r).toArray⟩, .int .i64 0, .bool false] 50)
    refine (print_any _ _ _ hrd HF (by simp) (Lib.hid (hL.out.on (hb9.mono HB.out)).tab.here)).mono ?_
    rintro e w9 ⟨rfl, hc9⟩
    rw [HP.out]
    have hzA := hz9.below hc9 hz9.lt
    have hbA := below_step hb9 hc9
    have y0 := hzA.cell 0 rfl
    have y1 := hzA.cell 1 rfl
    have f0 := hzA.frozen 0
    have f1 := hzA.frozen 1
    clear hc9 hz9 hb9 hz8 hb8 hrd
    go_wp2
    try simp only [Exit.inBlock, Exit.then]
    exact ret_rc rfl rfl rfl (rc_set hzA rfl _ _) ⟨by rw [show st u = 400 by unfold st; rw [if_neg E2.out, if_neg E7.out]], below_rc hbA (Nat.le_refl _) _ _⟩



set_option maxRecDepth 20000 in
set_option maxHeartbeats 2000000 in
theorem fail_out (u : Int) (h : u < 1 ∨ 8 < u) (B : Nat) (w : World) (hB : B ≤ w.heap.size) (hL : Hid (LaidB B w)) : Calls Tryz.prog 6 #[.int .i64 u] w fun e w' => e = .returned (rv (st 1) (bd 1)) ∧ Below w.heap.size w w' := by
  have HB := Lib.hid hB
  obtain ⟨c, r, hcr⟩ := nm_cons 1 (by omega) (by omega)
  have hn := fun W => name_1 W
  rw [hcr] at hn
  have HN := Lib.hid hn
  have hpr := pr_bd 1 (by omega) (by omega)
  have hem : em 1 = ⟨[101, 114, 114, 111, 114], 0, c :: r, 0, false⟩ := by unfold em; rw [hcr]; rfl
  have HF := Lib.hid (fit_em 1 (by omega) (by omega))
  rw [hem] at hpr HF
  have HP := Lib.hid hpr
  have hz : Blk (w.alloc (.cells #[.int .i64 0, .string ⟨#[]⟩] 23)) w.heap.size 23 (rc 0 []) := Blk.new w _ (rc 0 [])
  have hb0 : Below w.heap.size w (w.alloc (.cells #[.int .i64 0, .string ⟨#[]⟩] 23)) := (Below.refl _ _).alloc (Nat.le_refl _) _
  clear hB hn hcr hem hpr
  go_enter Tryz.func6, Tryz.ntmps6
  go_wp2_with fail
  refine (name_out u h _).mono ?_
  rintro e w3 ⟨rfl, hc3⟩
  have hz3 := hz.below hc3 hz.lt
  have hb3 := below_step hb0 hc3
  clear hc3 hz hb0
  go_wp2_with fail
  refine (HN.out _).mono ?_
  rintro e w7 ⟨rfl, hc7⟩
  have hz7 := hz3.below hc7 hz3.lt
  have hb7 := below_step hb3 hc7
  clear hc7 hz3 hb3
  go_wp2_with fail
  refine (text_any [101, 114, 114, 111, 114] (c :: r) _).mono ?_
  rintro e w8 ⟨rfl, hc8⟩
  have hz8 := hz7.below hc8 hz7.lt
  have hb8 := below_step hb7 hc8
  clear hc8 hz7 hb7
  unfold mv
  go_wp2_with fail
  have hrd : RdM (w8.alloc (.cells #[.string ⟨#[101, 114, 114, 111, 114]⟩, .int .i64 0, .string ⟨(c :: r).toArray⟩, .int .i64 0, .bool false] 50)) (.slice (some ⟨w8.heap.size, 0, none⟩) 1 1) [⟨[101, 114, 114, 111, 114], 0, c :: r, 0, false⟩] := ⟨rfl, .inr ⟨_, 0, 1, rfl, by simp, fun j u hj => by
    have h := cells_new w8 (mc ⟨[101, 114, 114, 111, 114], 0, c :: r, 0, false⟩) 50 j u hj
    rw [Addr.add_lit] at h; exact h⟩⟩
  have hb9 : Below w.heap.size w (w8.alloc (.cells #[.string ⟨#[101, 114, 114, 111, 114]⟩, .int .i64 0, .string ⟨(c :: r).toArray⟩, .int .i64 0, .bool false] 50)) := hb8.alloc hb8.size _
  have hz9 := hz8.alloc (.cells #[.string ⟨#[101, 114, 114, 111, 114]⟩, .int .i64 0, .string ⟨(c :: r).toArray⟩, .int .i64 0, .bool false] 50)
  refine (print_any _ _ _ hrd HF (by simp) (Lib.hid (hL.out.on (hb9.mono HB.out)).tab.here)).mono ?_
  rintro e w9 ⟨rfl, hc9⟩
  rw [HP.out]
  have hzA := hz9.below hc9 hz9.lt
  have hbA := below_step hb9 hc9
  have y0 := hzA.cell 0 rfl
  have y1 := hzA.cell 1 rfl
  have f0 := hzA.frozen 0
  have f1 := hzA.frozen 1
  clear hc9 hz9 hb9 hz8 hb8 hrd
  go_wp2
  try simp only [Exit.inBlock, Exit.then]
  exact ret_rc rfl rfl rfl (rc_set hzA rfl _ _) ⟨by rw [show st 1 = 400 by rfl], below_rc hbA (Nat.le_refl _) _ _⟩


set_option maxRecDepth 20000 in
set_option maxHeartbeats 1000000 in
theorem rtext_mk (nm tx : By) (w : World) : Calls Tryz.prog 21 #[.string ⟨nm.toArray⟩, .string ⟨tx.toArray⟩] w fun e w' => e = .returned (mv ⟨nm, 0, tx, 0, false⟩) ∧ Below w.heap.size w w' := by
  have hz : Blk (w.alloc (.cells #[.string ⟨nm.toArray⟩, .int .i64 0, .string ⟨tx.toArray⟩, .int .i64 0, .bool false] 50)) w.heap.size 50 (mc ⟨nm, 0, tx, 0, false⟩) := Blk.new w _ _
  go_enter Tryz.func21, Tryz.ntmps21
  go_wp2
  try simp only [Exit.inBlock, Exit.then]
  exact ret_cell rfl rfl rfl hz ⟨rfl, (Below.refl _ _).alloc (Nat.le_refl _) _⟩

set_option maxRecDepth 20000 in
set_option maxHeartbeats 2000000 in
theorem rfail_in (u : Nat) (h1 : 1 ≤ u) (h8 : u ≤ 8) (B : Nat) (w : World) (hB : B ≤ w.heap.size) (hL : Hid (LaidB B w)) : Calls Tryz.prog 11 #[.int .i64 (u : Int)] w fun e w' => e = .returned (rv (st u) (bd u)) ∧ Below w.heap.size w w' := by
  have HB := Lib.hid hB
  obtain ⟨c, r, hcr⟩ := nm_cons u (by omega) (by omega)
  have hn := fun W => rname_in u (by omega) (by omega) W
  rw [hcr] at hn
  have HN := Lib.hid hn
  have hpr := pr_bd u (by omega) (by omega)
  have hem : em u = ⟨[101, 114, 114, 111, 114], 0, c :: r, 0, false⟩ := by unfold em; rw [hcr]; rfl
  have HF := Lib.hid (fit_em u (by omega) (by omega))
  rw [hem] at hpr HF
  have HP := Lib.hid hpr
  have hz : Blk (w.alloc (.cells #[.int .i64 0, .string ⟨#[]⟩] 23)) w.heap.size 23 (rc 0 []) := Blk.new w _ (rc 0 [])
  have hb0 : Below w.heap.size w (w.alloc (.cells #[.int .i64 0, .string ⟨#[]⟩] 23)) := (Below.refl _ _).alloc (Nat.le_refl _) _
  clear hB hn hcr hem hpr
  by_cases e2 : u = 2
  · have E := Lib.hid e2
    have g1 : ¬ (u : Int) < 1 := by omega
    have g2 : ¬ (8 : Int) < (u : Int) := by omega
    have b2 : ((u : Int) == 2) = true := by rw [e2]; rfl
    have b7 : ((u : Int) == 7) = false := by rw [e2]; rfl
    clear e2
    go_enter Tryz.func11, Tryz.ntmps11
    go_wp2_with fail
    refine (HN.out _).mono ?_
    rintro e w7 ⟨rfl, hc7⟩
    have hz7 := hz.below hc7 hz.lt
    have hb7 := below_step hb0 hc7
    clear hc7 hz hb0
    go_wp2_with fail
    refine (rtext_mk [101, 114, 114, 111, 114] (c :: r) _).mono ?_
    rintro e w8 ⟨rfl, hc8⟩
    have hz8 := hz7.below hc8 hz7.lt
    have hb8 := below_step hb7 hc8
    clear hc8 hz7 hb7
    unfold mv
    go_wp2_with fail
    have hrd : RdM (w8.alloc (.cells #[.string ⟨#[101, 114, 114, 111, 114]⟩, .int .i64 0, .string ⟨(c :: r).toArray⟩, .int .i64 0, .bool false] 50)) (.slice (some ⟨w8.heap.size, 0, none⟩) 1 1) [⟨[101, 114, 114, 111, 114], 0, c :: r, 0, false⟩] := ⟨rfl, .inr ⟨_, 0, 1, rfl, by simp, fun j u hj => by
      have h := cells_new w8 (mc ⟨[101, 114, 114, 111, 114], 0, c :: r, 0, false⟩) 50 j u hj
      rw [Addr.add_lit] at h; exact h⟩⟩
    have hb9 : Below w.heap.size w (w8.alloc (.cells #[.string ⟨#[101, 114, 114, 111, 114]⟩, .int .i64 0, .string ⟨(c :: r).toArray⟩, .int .i64 0, .bool false] 50)) := hb8.alloc hb8.size _
    have hz9 := hz8.alloc (.cells #[.string ⟨#[101, 114, 114, 111, 114]⟩, .int .i64 0, .string ⟨(c :: r).toArray⟩, .int .i64 0, .bool false] 50)
    refine (rprint_any _ _ _ hrd HF (by simp)).mono ?_
    rintro e w9 ⟨rfl, hc9⟩
    rw [HP.out]
    have hzA := hz9.below hc9 hz9.lt
    have hbA := below_step hb9 hc9
    have y0 := hzA.cell 0 rfl
    have y1 := hzA.cell 1 rfl
    have f0 := hzA.frozen 0
    have f1 := hzA.frozen 1
    clear hc9 hz9 hb9 hz8 hb8 hrd
    go_wp2
    try simp only [Exit.inBlock, Exit.then]
    exact ret_rc rfl rfl rfl (rc_set hzA rfl _ _) ⟨by rw [show st u = 401 by rw [E.out]; rfl], below_rc hbA (Nat.le_refl _) _ _⟩

  have E2 := Lib.hid e2
  by_cases e7 : u = 7
  · have E := Lib.hid e7
    have g1 : ¬ (u : Int) < 1 := by omega
    have g2 : ¬ (8 : Int) < (u : Int) := by omega
    have b2 : ((u : Int) == 2) = false := by rw [e7]; rfl
    have b7 : ((u : Int) == 7) = true := by rw [e7]; rfl
    clear e7 e2
    go_enter Tryz.func11, Tryz.ntmps11
    go_wp2_with fail
    refine (HN.out _).mono ?_
    rintro e w7 ⟨rfl, hc7⟩
    have hz7 := hz.below hc7 hz.lt
    have hb7 := below_step hb0 hc7
    clear hc7 hz hb0
    go_wp2_with fail
    refine (rtext_mk [101, 114, 114, 111, 114] (c :: r) _).mono ?_
    rintro e w8 ⟨rfl, hc8⟩
    have hz8 := hz7.below hc8 hz7.lt
    have hb8 := below_step hb7 hc8
    clear hc8 hz7 hb7
    unfold mv
    go_wp2_with fail
    have hrd : RdM (w8.alloc (.cells #[.string ⟨#[101, 114, 114, 111, 114]⟩, .int .i64 0, .string ⟨(c :: r).toArray⟩, .int .i64 0, .bool false] 50)) (.slice (some ⟨w8.heap.size, 0, none⟩) 1 1) [⟨[101, 114, 114, 111, 114], 0, c :: r, 0, false⟩] := ⟨rfl, .inr ⟨_, 0, 1, rfl, by simp, fun j u hj => by
      have h := cells_new w8 (mc ⟨[101, 114, 114, 111, 114], 0, c :: r, 0, false⟩) 50 j u hj
      rw [Addr.add_lit] at h; exact h⟩⟩
    have hb9 : Below w.heap.size w (w8.alloc (.cells #[.string ⟨#[101, 114, 114, 111, 114]⟩, .int .i64 0, .string ⟨(c :: r).toArray⟩, .int .i64 0, .bool false] 50)) := hb8.alloc hb8.size _
    have hz9 := hz8.alloc (.cells #[.string ⟨#[101, 114, 114, 111, 114]⟩, .int .i64 0, .string ⟨(c :: r).toArray⟩, .int .i64 0, .bool false] 50)
    refine (rprint_any _ _ _ hrd HF (by simp)).mono ?_
    rintro e w9 ⟨rfl, hc9⟩
    rw [HP.out]
    have hzA := hz9.below hc9 hz9.lt
    have hbA := below_step hb9 hc9
    have y0 := hzA.cell 0 rfl
    have y1 := hzA.cell 1 rfl
    have f0 := hzA.frozen 0
    have f1 := hzA.frozen 1
    clear hc9 hz9 hb9 hz8 hb8 hrd
    go_wp2
    try simp only [Exit.inBlock, Exit.then]
    exact ret_rc rfl rfl rfl (rc_set hzA rfl _ _) ⟨by rw [show st u = 503 by rw [E.out]; rfl], below_rc hbA (Nat.le_refl _) _ _⟩

  · have E7 := Lib.hid e7
    have g1 : ¬ (u : Int) < 1 := by omega
    have g2 : ¬ (8 : Int) < (u : Int) := by omega
    have b2 : ((u : Int) == 2) = false := by rw [beq_eq_false_iff_ne]; omega
    have b7 : ((u : Int) == 7) = false := by rw [beq_eq_false_iff_ne]; omega
    clear e7 e2
    go_enter Tryz.func11, Tryz.ntmps11
    go_wp2_with fail
    refine (HN.out _).mono ?_
    rintro e w7 ⟨rfl, hc7⟩
    have hz7 := hz.below hc7 hz.lt
    have hb7 := below_step hb0 hc7
    clear hc7 hz hb0
    go_wp2_with fail
    refine (rtext_mk [101, 114, 114, 111, 114] (c :: r) _).mono ?_
    rintro e w8 ⟨rfl, hc8⟩
    have hz8 := hz7.below hc8 hz7.lt
    have hb8 := below_step hb7 hc8
    clear hc8 hz7 hb7
    unfold mv
    go_wp2_with fail
    have hrd : RdM (w8.alloc (.cells #[.string ⟨#[101, 114, 114, 111, 114]⟩, .int .i64 0, .string ⟨(c :: r).toArray⟩, .int .i64 0, .bool false] 50)) (.slice (some ⟨w8.heap.size, 0, none⟩) 1 1) [⟨[101, 114, 114, 111, 114], 0, c :: r, 0, false⟩] := ⟨rfl, .inr ⟨_, 0, 1, rfl, by simp, fun j u hj => by
      have h := cells_new w8 (mc ⟨[101, 114, 114, 111, 114], 0, c :: r, 0, false⟩) 50 j u hj
      rw [Addr.add_lit] at h; exact h⟩⟩
    have hb9 : Below w.heap.size w (w8.alloc (.cells #[.string ⟨#[101, 114, 114, 111, 114]⟩, .int .i64 0, .string ⟨(c :: r).toArray⟩, .int .i64 0, .bool false] 50)) := hb8.alloc hb8.size _
    have hz9 := hz8.alloc (.cells #[.string ⟨#[101, 114, 114, 111, 114]⟩, .int .i64 0, .string ⟨(c :: r).toArray⟩, .int .i64 0, .bool false] 50)
    refine (rprint_any _ _ _ hrd HF (by simp)).mono ?_
    rintro e w9 ⟨rfl, hc9⟩
    rw [HP.out]
    have hzA := hz9.below hc9 hz9.lt
    have hbA := below_step hb9 hc9
    have y0 := hzA.cell 0 rfl
    have y1 := hzA.cell 1 rfl
    have f0 := hzA.frozen 0
    have f1 := hzA.frozen 1
    clear hc9 hz9 hb9 hz8 hb8 hrd
    go_wp2
    try simp only [Exit.inBlock, Exit.then]
    exact ret_rc rfl rfl rfl (rc_set hzA rfl _ _) ⟨by rw [show st u = 400 by unfold st; rw [if_neg E2.out, if_neg E7.out]], below_rc hbA (Nat.le_refl _) _ _⟩



set_option maxRecDepth 20000 in
set_option maxHeartbeats 2000000 in
theorem rfail_out (u : Int) (h : u < 1 ∨ 8 < u) (B : Nat) (w : World) (hB : B ≤ w.heap.size) (hL : Hid (LaidB B w)) : Calls Tryz.prog 11 #[.int .i64 u] w fun e w' => e = .returned (rv (st 1) (bd 1)) ∧ Below w.heap.size w w' := by
  have HB := Lib.hid hB
  obtain ⟨c, r, hcr⟩ := nm_cons 1 (by omega) (by omega)
  have hn := fun W => rname_1 W
  rw [hcr] at hn
  have HN := Lib.hid hn
  have hpr := pr_bd 1 (by omega) (by omega)
  have hem : em 1 = ⟨[101, 114, 114, 111, 114], 0, c :: r, 0, false⟩ := by unfold em; rw [hcr]; rfl
  have HF := Lib.hid (fit_em 1 (by omega) (by omega))
  rw [hem] at hpr HF
  have HP := Lib.hid hpr
  have hz : Blk (w.alloc (.cells #[.int .i64 0, .string ⟨#[]⟩] 23)) w.heap.size 23 (rc 0 []) := Blk.new w _ (rc 0 [])
  have hb0 : Below w.heap.size w (w.alloc (.cells #[.int .i64 0, .string ⟨#[]⟩] 23)) := (Below.refl _ _).alloc (Nat.le_refl _) _
  clear hB hn hcr hem hpr
  rcases h with h | h
  · go_enter Tryz.func11, Tryz.ntmps11
    go_wp2_with fail
    refine (HN.out _).mono ?_
    rintro e w7 ⟨rfl, hc7⟩
    have hz7 := hz.below hc7 hz.lt
    have hb7 := below_step hb0 hc7
    clear hc7 hz hb0
    go_wp2_with fail
    refine (rtext_mk [101, 114, 114, 111, 114] (c :: r) _).mono ?_
    rintro e w8 ⟨rfl, hc8⟩
    have hz8 := hz7.below hc8 hz7.lt
    have hb8 := below_step hb7 hc8
    clear hc8 hz7 hb7
    unfold mv
    go_wp2_with fail
    have hrd : RdM (w8.alloc (.cells #[.string ⟨#[101, 114, 114, 111, 114]⟩, .int .i64 0, .string ⟨(c :: r).toArray⟩, .int .i64 0, .bool false] 50)) (.slice (some ⟨w8.heap.size, 0, none⟩) 1 1) [⟨[101, 114, 114, 111, 114], 0, c :: r, 0, false⟩] := ⟨rfl, .inr ⟨_, 0, 1, rfl, by simp, fun j u hj => by
      have h := cells_new w8 (mc ⟨[101, 114, 114, 111, 114], 0, c :: r, 0, false⟩) 50 j u hj
      rw [Addr.add_lit] at h; exact h⟩⟩
    have hb9 : Below w.heap.size w (w8.alloc (.cells #[.string ⟨#[101, 114, 114, 111, 114]⟩, .int .i64 0, .string ⟨(c :: r).toArray⟩, .int .i64 0, .bool false] 50)) := hb8.alloc hb8.size _
    have hz9 := hz8.alloc (.cells #[.string ⟨#[101, 114, 114, 111, 114]⟩, .int .i64 0, .string ⟨(c :: r).toArray⟩, .int .i64 0, .bool false] 50)
    refine (rprint_any _ _ _ hrd HF (by simp)).mono ?_
    rintro e w9 ⟨rfl, hc9⟩
    rw [HP.out]
    have hzA := hz9.below hc9 hz9.lt
    have hbA := below_step hb9 hc9
    have y0 := hzA.cell 0 rfl
    have y1 := hzA.cell 1 rfl
    have f0 := hzA.frozen 0
    have f1 := hzA.frozen 1
    clear hc9 hz9 hb9 hz8 hb8 hrd
    go_wp2
    try simp only [Exit.inBlock, Exit.then]
    exact ret_rc rfl rfl rfl (rc_set hzA rfl _ _) ⟨by rw [show st 1 = 400 by rfl], below_rc hbA (Nat.le_refl _) _ _⟩

  · have g3 : ¬ u < 1 := by omega
    go_enter Tryz.func11, Tryz.ntmps11
    go_wp2_with fail
    refine (HN.out _).mono ?_
    rintro e w7 ⟨rfl, hc7⟩
    have hz7 := hz.below hc7 hz.lt
    have hb7 := below_step hb0 hc7
    clear hc7 hz hb0
    go_wp2_with fail
    refine (rtext_mk [101, 114, 114, 111, 114] (c :: r) _).mono ?_
    rintro e w8 ⟨rfl, hc8⟩
    have hz8 := hz7.below hc8 hz7.lt
    have hb8 := below_step hb7 hc8
    clear hc8 hz7 hb7
    unfold mv
    go_wp2_with fail
    have hrd : RdM (w8.alloc (.cells #[.string ⟨#[101, 114, 114, 111, 114]⟩, .int .i64 0, .string ⟨(c :: r).toArray⟩, .int .i64 0, .bool false] 50)) (.slice (some ⟨w8.heap.size, 0, none⟩) 1 1) [⟨[101, 114, 114, 111, 114], 0, c :: r, 0, false⟩] := ⟨rfl, .inr ⟨_, 0, 1, rfl, by simp, fun j u hj => by
      have h := cells_new w8 (mc ⟨[101, 114, 114, 111, 114], 0, c :: r, 0, false⟩) 50 j u hj
      rw [Addr.add_lit] at h; exact h⟩⟩
    have hb9 : Below w.heap.size w (w8.alloc (.cells #[.string ⟨#[101, 114, 114, 111, 114]⟩, .int .i64 0, .string ⟨(c :: r).toArray⟩, .int .i64 0, .bool false] 50)) := hb8.alloc hb8.size _
    have hz9 := hz8.alloc (.cells #[.string ⟨#[101, 114, 114, 111, 114]⟩, .int .i64 0, .string ⟨(c :: r).toArray⟩, .int .i64 0, .bool false] 50)
    refine (rprint_any _ _ _ hrd HF (by simp)).mono ?_
    rintro e w9 ⟨rfl, hc9⟩
    rw [HP.out]
    have hzA := hz9.below hc9 hz9.lt
    have hbA := below_step hb9 hc9
    have y0 := hzA.cell 0 rfl
    have y1 := hzA.cell 1 rfl
    have f0 := hzA.frozen 0
    have f1 := hzA.frozen 1
    clear hc9 hz9 hb9 hz8 hb8 hrd
    go_wp2
    try simp only [Exit.inBlock, Exit.then]
    exact ret_rc rfl rfl rfl (rc_set hzA rfl _ _) ⟨by rw [show st 1 = 400 by rfl], below_rc hbA (Nat.le_refl _) _ _⟩


end Go.Proofs.YtffllacphfapnaaGreatDoor
