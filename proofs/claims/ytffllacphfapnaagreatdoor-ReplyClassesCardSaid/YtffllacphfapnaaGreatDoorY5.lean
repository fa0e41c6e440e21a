/-
  Chapter 20: the chapter's example: what is answered at '/introspect' to nothing. Conditions: the listed variables lie as the program's text lays them.
-/
import Derived.Test.YtffllacphfapnaaGreatDoorY4
import Derived.Test.YtffllacphfapnaaGreatDoorWd
namespace Go.Proofs.YtffllacphfapnaaGreatDoor
open Go.RowKit Js Rp

theorem ret_rct {fn : Func} {p u : Tmp} (hres : fn.results = #[.cell p 23, .tmp u]) {a : Act} (hd : a.defers = []) {W : World} {b : Nat} {t : TypeId} {s : Int} {x : By} (hp : a.tmps.getD p undef = .pointer (some ⟨b, 0, none⟩)) (hb : Blk W b t (rc s x)) {R : Ending → World → Prop}
    (hR : R (.returned (.tuple #[rv s x, a.tmps.getD u undef])) W) : bodyPost Tryz.prog fn R .ret a W := by
  have c0 := hb.cell 0 rfl
  have c1 := hb.cell 1 rfl
  have t2 : a.tmps[p]?.getD undef = .pointer (some ⟨b, 0, none⟩) := by rw [← hp, Array.getD_eq_getD_getElem?]
  refine bodyPost_ret (v := .tuple #[rv s x, a.tmps.getD u undef]) ?_ hd hR
  simp [results, hres, go_sem, t2, c0, c1, rv]
/-- no command -/
def zc : Value := .agg #[.int .i64 0, .string ⟨#[]⟩, .int .i64 0, .int .i64 0, .string ⟨#[]⟩, .string ⟨#[]⟩, .slice none 0 0, .string ⟨#[]⟩, .string ⟨#[]⟩, .string ⟨#[]⟩, .string ⟨#[]⟩, .bool false, .int .i64 0]
/-- no answer -/
def za : Value := .agg #[.int .i64 0, .int .i64 0, .int .i64 0, .slice none 0 0, .string ⟨#[]⟩, .string ⟨#[]⟩, .bool false, .bool false]
def intro : By := [47, 105, 110, 116, 114, 111, 115, 112, 101, 99, 116]
set_option maxRecDepth 20000 in
set_option maxHeartbeats 1000000 in
theorem may_z (w : World) : Calls Tryz.prog 43 #[zc] w fun e w' => e = .returned (.bool false) ∧ Below w.heap.size w w' := by
  unfold zc
  go_enter Tryz.func43, Tryz.ntmps43
  go_wp2
  go_ret
  exact ⟨rfl, ((Below.refl _ _).alloc (Nat.le_refl _) _).alloc (by simp) _⟩
set_option maxRecDepth 20000 in
set_option maxHeartbeats 1000000 in
theorem fits_z (w : World) : Calls Tryz.prog 24 #[.string ⟨intro.toArray⟩, zc] w fun e w' => e = .returned (.bool true) ∧ Below w.heap.size w w' := by
  have hm := Lib.hid (fun w => may_z w)
  have he : (({ data := #[] } : ByteArray) ++ { data := #[] }) = { data := #[] } := rfl
  unfold zc at hm ⊢
  unfold intro
  have hb0 : Below w.heap.size w (w.alloc (.cells #[.int .i64 0, .string ⟨#[]⟩, .int .i64 0, .int .i64 0, .string ⟨#[]⟩, .string ⟨#[]⟩, .slice none 0 0, .string ⟨#[]⟩, .string ⟨#[]⟩, .string ⟨#[]⟩, .string ⟨#[]⟩, .bool false, .int .i64 0] 39)) := (Below.refl _ _).alloc (Nat.le_refl _) _
  have hz : Blk (w.alloc (.cells #[.int .i64 0, .string ⟨#[]⟩, .int .i64 0, .int .i64 0, .string ⟨#[]⟩, .string ⟨#[]⟩, .slice none 0 0, .string ⟨#[]⟩, .string ⟨#[]⟩, .string ⟨#[]⟩, .string ⟨#[]⟩, .bool false, .int .i64 0] 39)) w.heap.size 39 [.int .i64 0, .string ⟨#[]⟩, .int .i64 0, .int .i64 0, .string ⟨#[]⟩, .string ⟨#[]⟩, .slice none 0 0, .string ⟨#[]⟩, .string ⟨#[]⟩, .string ⟨#[]⟩, .string ⟨#[]⟩, .bool false, .int .i64 0] := Blk.new w _ _
  go_enter Tryz.func24, Tryz.ntmps24
  go_wp2_with fail
  refine (hm.out _).mono ?_
  rintro e w1 ⟨rfl, hc1⟩
  have hb1 := below_step hb0 hc1
  have hz1 := hz.below hc1 hz.lt
  have c0 := hz1.cell 0 rfl
  have c1 := hz1.cell 1 rfl
  have c2 := hz1.cell 2 rfl
  have c3 := hz1.cell 3 rfl
  have c4 := hz1.cell 4 rfl
  have c5 := hz1.cell 5 rfl
  have c6 := hz1.cell 6 rfl
  have c7 := hz1.cell 7 rfl
  have c8 := hz1.cell 8 rfl
  have c9 := hz1.cell 9 rfl
  have c10 := hz1.cell 10 rfl
  have c11 := hz1.cell 11 rfl
  have c12 := hz1.cell 12 rfl
  clear hc1 hz hb0
  go_wp2
  go_ret
  exact ⟨rfl, hb1⟩
set_option maxRecDepth 20000 in
set_option maxHeartbeats 2000000 in
theorem of_z (B : Nat) (w : World) (hB : B ≤ w.heap.size) (hL : Hid (LaidB B w)) : Calls Tryz.prog 14 #[.string ⟨intro.toArray⟩, .slice none 0 0, zc, za] w fun e w' => e = .returned (.tuple #[rv 200 abt, .int .i64 0]) ∧ Below w.heap.size w w' := by
  have HB := Lib.hid hB
  have hf := Lib.hid (fun w => fits_z w)
  have hmf : ∀ (fn : Fn) (first cap : Array Value) (w : World), (Instr.makeFunc fn first cap).run Tryz.prog w = .ok (.func fn first cap) w := fun _ _ _ _ => rfl
  unfold zc at hf ⊢
  unfold za
  unfold intro at hf ⊢
  clear hB
  have hb0 : Below w.heap.size w ((((w.alloc (.cells #[.slice none 0 0] 36)).alloc (.cells #[.int .i64 0, .string ⟨#[]⟩, .int .i64 0, .int .i64 0, .string ⟨#[]⟩, .string ⟨#[]⟩, .slice none 0 0, .string ⟨#[]⟩, .string ⟨#[]⟩, .string ⟨#[]⟩, .string ⟨#[]⟩, .bool false, .int .i64 0] 39)).alloc (.cells #[.int .i64 0, .int .i64 0, .int .i64 0, .slice none 0 0, .string ⟨#[]⟩, .string ⟨#[]⟩, .bool false, .bool false] 41)).alloc (.cells #[.int .i64 0, .string ⟨#[]⟩] 23)) := ((((Below.refl _ _).alloc (Nat.le_refl _) _).alloc (by simp) _).alloc (by simp; omega) _).alloc (by simp; omega) _
  have hr0 : Blk ((((w.alloc (.cells #[.slice none 0 0] 36)).alloc (.cells #[.int .i64 0, .string ⟨#[]⟩, .int .i64 0, .int .i64 0, .string ⟨#[]⟩, .string ⟨#[]⟩, .slice none 0 0, .string ⟨#[]⟩, .string ⟨#[]⟩, .string ⟨#[]⟩, .string ⟨#[]⟩, .bool false, .int .i64 0] 39)).alloc (.cells #[.int .i64 0, .int .i64 0, .int .i64 0, .slice none 0 0, .string ⟨#[]⟩, .string ⟨#[]⟩, .bool false, .bool false] 41)).alloc (.cells #[.int .i64 0, .string ⟨#[]⟩] 23)) (w.heap.size + 1 + 1 + 1) 23 (rc 0 []) := by
    have h := Blk.new (((w.alloc (.cells #[.slice none 0 0] 36)).alloc (.cells #[.int .i64 0, .string ⟨#[]⟩, .int .i64 0, .int .i64 0, .string ⟨#[]⟩, .string ⟨#[]⟩, .slice none 0 0, .string ⟨#[]⟩, .string ⟨#[]⟩, .string ⟨#[]⟩, .string ⟨#[]⟩, .bool false, .int .i64 0] 39)).alloc (.cells #[.int .i64 0, .int .i64 0, .int .i64 0, .slice none 0 0, .string ⟨#[]⟩, .string ⟨#[]⟩, .bool false, .bool false] 41)) 23 (rc 0 [])
    rw [World.size_alloc, World.size_alloc, World.size_alloc] at h
    exact h
  have ha0 : Blk ((((w.alloc (.cells #[.slice none 0 0] 36)).alloc (.cells #[.int .i64 0, .string ⟨#[]⟩, .int .i64 0, .int .i64 0, .string ⟨#[]⟩, .string ⟨#[]⟩, .slice none 0 0, .string ⟨#[]⟩, .string ⟨#[]⟩, .string ⟨#[]⟩, .string ⟨#[]⟩, .bool false, .int .i64 0] 39)).alloc (.cells #[.int .i64 0, .int .i64 0, .int .i64 0, .slice none 0 0, .string ⟨#[]⟩, .string ⟨#[]⟩, .bool false, .bool false] 41)).alloc (.cells #[.int .i64 0, .string ⟨#[]⟩] 23)) (w.heap.size + 1 + 1) 41 [.int .i64 0, .int .i64 0, .int .i64 0, .slice none 0 0, .string ⟨#[]⟩, .string ⟨#[]⟩, .bool false, .bool false] := by
    have h := (Blk.new ((w.alloc (.cells #[.slice none 0 0] 36)).alloc (.cells #[.int .i64 0, .string ⟨#[]⟩, .int .i64 0, .int .i64 0, .string ⟨#[]⟩, .string ⟨#[]⟩, .slice none 0 0, .string ⟨#[]⟩, .string ⟨#[]⟩, .string ⟨#[]⟩, .string ⟨#[]⟩, .bool false, .int .i64 0] 39)) 41 [.int .i64 0, .int .i64 0, .int .i64 0, .slice none 0 0, .string ⟨#[]⟩, .string ⟨#[]⟩, .bool false, .bool false]).alloc (.cells #[.int .i64 0, .string ⟨#[]⟩] 23)
    rw [World.size_alloc, World.size_alloc] at h
    exact h
  go_enter Tryz.func14, Tryz.ntmps14
  go_wp2_with fail
  refine (hf.out _).mono ?_
  rintro e w1 ⟨rfl, hc1⟩
  have hb1 := below_step hb0 hc1
  have hr1 := hr0.below hc1 hr0.lt
  have ha1 := ha0.below hc1 ha0.lt
  clear hc1 hb0 hr0 ha0
  have a0 := ha1.cell 0 rfl
  have hr2 := hr1.alloc (.cells #[.int .i64 0] 43)
  have ha2 := ha1.alloc (.cells #[.int .i64 0] 43)
  have hd2 : Blk (w1.alloc (.cells #[.int .i64 0] 43)) w1.heap.size 43 [.int .i64 0] := Blk.new w1 _ _
  have hb2 := hb1.alloc hb1.size (.cells #[.int .i64 0] 43)
  have a3 := ha2.cell 3 rfl
  clear hb1 hr1 ha1
  go_wp2_with fail
  refine (sprint_any (.slice none 0 0) [] _ ⟨Rd.nil _ _, fun x h => by cases h⟩ (by simp)).mono ?_
  rintro e w3 ⟨rfl, hc3⟩
  have hb3 := below_step hb2 hc3
  have hr3 := hr2.below hc3 hr2.lt
  have ha3 := ha2.below hc3 ha2.lt
  have hd3 := hd2.below hc3 hd2.lt
  clear hc3 hb2 hr2 ha2 hd2 a3 a0
  have hj : Sc.join (Sc.set []) = [] := by simp [Sc.set, Sc.nub, Sc.join]
  rw [hj]
  clear hj
  go_wp2_with fail
  refine (text_any [115, 99, 111, 112, 101] [] _).mono ?_
  rintro e w4 ⟨rfl, hc4⟩
  unfold mv
  have hb4 := below_step hb3 hc4
  have hr4 := hr3.below hc4 hr3.lt
  have ha4 := ha3.below hc4 ha3.lt
  have hd4 := hd3.below hc4 hd3.lt
  clear hc4 hb3 hr3 ha3 hd3
  have hb5 := hb4.alloc hb4.size (.cells #[.string ⟨#[115, 99, 111, 112, 101]⟩, .int .i64 0, .string ⟨#[]⟩, .int .i64 0, .bool false] 50)
  have hr5 := hr4.alloc (.cells #[.string ⟨#[115, 99, 111, 112, 101]⟩, .int .i64 0, .string ⟨#[]⟩, .int .i64 0, .bool false] 50)
  have ha5 := ha4.alloc (.cells #[.string ⟨#[115, 99, 111, 112, 101]⟩, .int .i64 0, .string ⟨#[]⟩, .int .i64 0, .bool false] 50)
  have hd5 := hd4.alloc (.cells #[.string ⟨#[115, 99, 111, 112, 101]⟩, .int .i64 0, .string ⟨#[]⟩, .int .i64 0, .bool false] 50)
  clear hb4 hr4 ha4 hd4
  have a6 := ha5.cell 6 rfl
  go_wp2_with fail
  refine (bool_any [97, 99, 116, 105, 118, 101] false _).mono ?_
  rintro e w6 ⟨rfl, hc6⟩
  unfold mv
  have hb6 := below_step hb5 hc6
  have hr6 := hr5.below hc6 hr5.lt
  have ha6 := ha5.below hc6 ha5.lt
  have hd6 := hd5.below hc6 hd5.lt
  clear hc6 hb5 hr5 ha5 hd5 a6
  have hb7 := hb6.alloc hb6.size (.cells #[.string ⟨#[97, 99, 116, 105, 118, 101]⟩, .int .i64 2, .string ⟨#[]⟩, .int .i64 0, .bool false] 50)
  have hr7 := hr6.alloc (.cells #[.string ⟨#[97, 99, 116, 105, 118, 101]⟩, .int .i64 2, .string ⟨#[]⟩, .int .i64 0, .bool false] 50)
  have ha7 := ha6.alloc (.cells #[.string ⟨#[97, 99, 116, 105, 118, 101]⟩, .int .i64 2, .string ⟨#[]⟩, .int .i64 0, .bool false] 50)
  have hd7 := hd6.alloc (.cells #[.string ⟨#[97, 99, 116, 105, 118, 101]⟩, .int .i64 2, .string ⟨#[]⟩, .int .i64 0, .bool false] 50)
  have hrd : RdM (w6.alloc (.cells #[.string ⟨#[97, 99, 116, 105, 118, 101]⟩, .int .i64 2, .string ⟨#[]⟩, .int .i64 0, .bool false] 50)) (.slice (some ⟨w6.heap.size, 0, none⟩) 1 1) [ab] := ⟨rfl, .inr ⟨_, 0, 1, rfl, by simp, fun j u hj => by
    have h := cells_new w6 (mc ab) 50 j u hj
    rw [Addr.add_lit] at h; exact h⟩⟩
  clear hb6 hr6 ha6 hd6
  have b6 := ha7.cell 6 rfl
  go_wp2_with fail
  have hfit : fitL [ab] := fun m hm => by
    simp at hm; subst hm
    exact ⟨by decide, by decide, by unfold inI; decide⟩
  refine (print_any _ [ab] _ hrd (Lib.hid hfit) (by simp) (Lib.hid (hL.out.on (hb7.mono HB.out)).tab.here)).mono ?_
  rintro e w8 ⟨rfl, hc8⟩
  rw [pr_ab]
  have hb8 := below_step hb7 hc8
  have hr8 := hr7.below hc8 hr7.lt
  have hd8 := hd7.below hc8 hd7.lt
  clear hc8 hb7 hr7 ha7 hd7 b6 hrd hfit
  have d0 := hd8.cell 0 rfl
  have y0 := hr8.cell 0 rfl
  have y1 := hr8.cell 1 rfl
  have f0 := hr8.frozen 0
  have f1 := hr8.frozen 1
  go_wp2
  try simp only [Exit.inBlock, Exit.then]
  refine ret_rct rfl rfl rfl (rc_set hr8 rfl 200 abt) ⟨rfl, below_rc hb8 (by omega) _ _⟩
end Go.Proofs.YtffllacphfapnaaGreatDoor
