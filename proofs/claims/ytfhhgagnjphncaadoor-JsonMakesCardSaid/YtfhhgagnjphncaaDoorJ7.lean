/-
  Chapter 5: the walk of JsonMakes. Conditions: the listed variables lie as the program's text lays them.
-/
import Derived.Test.YtfhhgagnjphncaaDoorJ4
namespace Go.Proofs.YtfhhgagnjphncaaDoor
open Go.RowKit Js

theorem neq_self (x : Mb) (w : World) : (binOp .neq 38 (.agg #[.string ⟨x.nm.toArray⟩, .int .i64 x.kd, .string ⟨x.tx.toArray⟩, .int .i64 x.n, .bool x.b]) (.agg #[.string ⟨x.nm.toArray⟩, .int .i64 x.kd, .string ⟨x.tx.toArray⟩, .int .i64 x.n, .bool x.b])).run Tryd.prog w = .ok (.bool false) w := by
  rw [neq_mb, (sameM_iff x x).2 rfl]; rfl
theorem eql_self (x : Mb) (w : World) : (binOp .eql 38 (.agg #[.string ⟨x.nm.toArray⟩, .int .i64 x.kd, .string ⟨x.tx.toArray⟩, .int .i64 x.n, .bool x.b]) (.agg #[.string ⟨x.nm.toArray⟩, .int .i64 x.kd, .string ⟨x.tx.toArray⟩, .int .i64 x.n, .bool x.b])).run Tryd.prog w = .ok (.bool true) w := by
  rw [eql_mb, (sameM_iff x x).2 rfl]

set_option maxRecDepth 20000 in
set_option maxHeartbeats 4000000 in
theorem jsonMakes_walk (nm tx : By) (n : Int) (b : Bool) (v : Value) (l : List Mb) (w : World) (h : RdM w v l) (hm : l.length ≤ 1152921504606846976) (hL : Hid (LaidB w.heap.size w)) :
    Calls Tryd.prog 8 #[.string ⟨nm.toArray⟩, .string ⟨tx.toArray⟩, .int .i64 n, .bool b, v] w fun e w' => e = .returned (.bool true) ∧ Below w.heap.size w w' := by
  have n1 := fun W => neq_self ⟨nm, 0, tx, 0, false⟩ W
  have n2 := fun W => neq_self ⟨nm, 1, [], n, false⟩ W
  have n3 := fun W => neq_self ⟨nm, 2, [], 0, b⟩ W
  dsimp only at n1 n2 n3
  go_enter Tryd.func8, Tryd.ntmps8
  go_wp2_with fail
  refine (text_any nm tx _).mono ?_
  rintro e w1 ⟨rfl, hb1⟩
  go_wp2_with fail
  refine (int_any nm n _).mono ?_
  rintro e w2 ⟨rfl, hb2⟩
  go_wp2_with fail
  refine (bool_any nm b _).mono ?_
  rintro e w3 ⟨rfl, hb3⟩
  have hbw3 : Below w.heap.size w w3 := below_step (below_step hb1 hb2) hb3
  clear hb1 hb2 hb3
  unfold mv
  go_wp2_with fail
  have hA : Blk (((w3.alloc (.cells #[.string ⟨nm.toArray⟩, .int .i64 0, .string ⟨tx.toArray⟩, .int .i64 0, .bool false] 38)).alloc (.cells #[.string ⟨nm.toArray⟩, .int .i64 1, .string ⟨#[]⟩, .int .i64 n, .bool false] 38)).alloc (.cells #[.string ⟨nm.toArray⟩, .int .i64 2, .string ⟨#[]⟩, .int .i64 0, .bool b] 38)) w3.heap.size 38 (mc ⟨nm, 0, tx, 0, false⟩) := ((Blk.new w3 _ (mc ⟨nm, 0, tx, 0, false⟩)).alloc _).alloc _
  have hB : Blk (((w3.alloc (.cells #[.string ⟨nm.toArray⟩, .int .i64 0, .string ⟨tx.toArray⟩, .int .i64 0, .bool false] 38)).alloc (.cells #[.string ⟨nm.toArray⟩, .int .i64 1, .string ⟨#[]⟩, .int .i64 n, .bool false] 38)).alloc (.cells #[.string ⟨nm.toArray⟩, .int .i64 2, .string ⟨#[]⟩, .int .i64 0, .bool b] 38)) (w3.heap.size + 1) 38 (mc ⟨nm, 1, [], n, false⟩) := by
    have h := (Blk.new (w3.alloc (.cells #[.string ⟨nm.toArray⟩, .int .i64 0, .string ⟨tx.toArray⟩, .int .i64 0, .bool false] 38)) 38 (mc ⟨nm, 1, [], n, false⟩)).alloc (.cells #[.string ⟨nm.toArray⟩, .int .i64 2, .string ⟨#[]⟩, .int .i64 0, .bool b] 38)
    rw [World.size_alloc] at h
    exact h
  have hC : Blk (((w3.alloc (.cells #[.string ⟨nm.toArray⟩, .int .i64 0, .string ⟨tx.toArray⟩, .int .i64 0, .bool false] 38)).alloc (.cells #[.string ⟨nm.toArray⟩, .int .i64 1, .string ⟨#[]⟩, .int .i64 n, .bool false] 38)).alloc (.cells #[.string ⟨nm.toArray⟩, .int .i64 2, .string ⟨#[]⟩, .int .i64 0, .bool b] 38)) (w3.heap.size + 1 + 1) 38 (mc ⟨nm, 2, [], 0, b⟩) := by
    have h := Blk.new ((w3.alloc (.cells #[.string ⟨nm.toArray⟩, .int .i64 0, .string ⟨tx.toArray⟩, .int .i64 0, .bool false] 38)).alloc (.cells #[.string ⟨nm.toArray⟩, .int .i64 1, .string ⟨#[]⟩, .int .i64 n, .bool false] 38)) 38 (mc ⟨nm, 2, [], 0, b⟩)
    rw [World.size_alloc, World.size_alloc] at h
    exact h
  have hb4 : Below w.heap.size w (((w3.alloc (.cells #[.string ⟨nm.toArray⟩, .int .i64 0, .string ⟨tx.toArray⟩, .int .i64 0, .bool false] 38)).alloc (.cells #[.string ⟨nm.toArray⟩, .int .i64 1, .string ⟨#[]⟩, .int .i64 n, .bool false] 38)).alloc (.cells #[.string ⟨nm.toArray⟩, .int .i64 2, .string ⟨#[]⟩, .int .i64 0, .bool b] 38)) := by
    have s := hbw3.size
    exact ((hbw3.alloc s _).alloc (by rw [World.size_alloc]; omega) _).alloc (by rw [World.size_alloc, World.size_alloc]; omega) _
  refine (known_any w.heap.size _ hb4.size (Lib.hid (hL.out.on hb4))).mono ?_
  rintro e w5 ⟨rfl, hb5⟩
  have hA5 := hA.below hb5 hA.lt
  have hB5 := hB.below hb5 hB.lt
  have hC5 := hC.below hb5 hC.lt
  have hbw5 := below_step hb4 hb5
  clear hA hB hC hb4 hb5 hbw3
  have a0 := hA5.cell 0 rfl
  have a1 := hA5.cell 1 rfl
  have a2 := hA5.cell 2 rfl
  have a3 := hA5.cell 3 rfl
  have a4 := hA5.cell 4 rfl
  have b0 := hB5.cell 0 rfl
  have b1 := hB5.cell 1 rfl
  have b2 := hB5.cell 2 rfl
  have b3 := hB5.cell 3 rfl
  have b4 := hB5.cell 4 rfl
  have c0 := hC5.cell 0 rfl
  have c1 := hC5.cell 1 rfl
  have c2 := hC5.cell 2 rfl
  have c3 := hC5.cell 3 rfl
  have c4 := hC5.cell 4 rfl
  go_wp2_with fail
  refine (get_any v l nm _ (h.below hbw5) hm).mono ?_
  rintro e w6 ⟨rfl, hb6⟩
  have hbw6 := below_step hbw5 hb6
  obtain ⟨g, hg⟩ : ∃ g, g = getM l nm := ⟨_, rfl⟩
  obtain ⟨t, ht⟩ : ∃ t, t = hasN l nm := ⟨_, rfl⟩
  rw [← hg, ← ht]
  have HG := Lib.hid hg
  have HT := Lib.hid ht
  have e1 := fun W => eql_self g W
  clear hg ht hb6 hbw5 hA5 hB5 hC5 a0 a1 a2 a3 a4 b0 b1 b2 b3 b4 c0 c1 c2 c3 c4 n1 n2 n3
  unfold mv
  have hD : Blk (w6.alloc (.cells #[.string ⟨g.nm.toArray⟩, .int .i64 g.kd, .string ⟨g.tx.toArray⟩, .int .i64 g.n, .bool g.b] 38)) w6.heap.size 38 (mc g) := Blk.new w6 _ (mc g)
  have hbw7 : Below w.heap.size w (w6.alloc (.cells #[.string ⟨g.nm.toArray⟩, .int .i64 g.kd, .string ⟨g.tx.toArray⟩, .int .i64 g.n, .bool g.b] 38)) := hbw6.alloc hbw6.size _
  go_wp2_with fail
  refine (rget_any v l nm _ (h.below hbw7) hm).mono ?_
  rw [← HG.out, ← HT.out]
  rintro e w8 ⟨rfl, hb8⟩
  have hD8 := (hD.below hb8 hD.lt).alloc (.cells #[.string ⟨g.nm.toArray⟩, .int .i64 g.kd, .string ⟨g.tx.toArray⟩, .int .i64 g.n, .bool g.b] 38)
  have hE8 : Blk (w8.alloc (.cells #[.string ⟨g.nm.toArray⟩, .int .i64 g.kd, .string ⟨g.tx.toArray⟩, .int .i64 g.n, .bool g.b] 38)) w8.heap.size 38 (mc g) := Blk.new w8 _ (mc g)
  have hbw8 := below_step hbw7 hb8
  clear hb8 hbw7 hD
  unfold mv
  have d0 := hD8.cell 0 rfl
  have d1 := hD8.cell 1 rfl
  have d2 := hD8.cell 2 rfl
  have d3 := hD8.cell 3 rfl
  have d4 := hD8.cell 4 rfl
  have f0 := hE8.cell 0 rfl
  have f1 := hE8.cell 1 rfl
  have f2 := hE8.cell 2 rfl
  have f3 := hE8.cell 3 rfl
  have f4 := hE8.cell 4 rfl
  go_wp2
  go_ret
  exact ⟨rfl, hbw8.alloc hbw8.size _⟩
end Go.Proofs.YtfhhgagnjphncaaDoor
