/-
  Chapter 3, the reference: its constants, the words of a block.
-/
import Derived.Test.YtefofalobpepcaaDoorHi
namespace Go.Proofs.YtefofalobpepcaaDoor
open Go.RowKit Sh
set_option linter.unusedVariables false
set_option linter.unusedSimpArgs false

theorem w64_row : (Tryd.prog.info? 101).map (fun i => (i.size)) = some 64 := by kernel_rfl
theorem ks64 : ks.length = 64 := rfl
theorem ks_lit : ks.map uw = [.int .u32 1116352408, .int .u32 1899447441, .int .u32 3049323471, .int .u32 3921009573, .int .u32 961987163, .int .u32 1508970993, .int .u32 2453635748, .int .u32 2870763221, .int .u32 3624381080, .int .u32 310598401, .int .u32 607225278, .int .u32 1426881987, .int .u32 1925078388, .int .u32 2162078206, .int .u32 2614888103, .int .u32 3248222580, .int .u32 3835390401, .int .u32 4022224774, .int .u32 264347078, .int .u32 604807628, .int .u32 770255983, .int .u32 1249150122, .int .u32 1555081692, .int .u32 1996064986, .int .u32 2554220882, .int .u32 2821834349, .int .u32 2952996808, .int .u32 3210313671, .int .u32 3336571891, .int .u32 3584528711, .int .u32 113926993, .int .u32 338241895, .int .u32 666307205, .int .u32 773529912, .int .u32 1294757372, .int .u32 1396182291, .int .u32 1695183700, .int .u32 1986661051, .int .u32 2177026350, .int .u32 2456956037, .int .u32 2730485921, .int .u32 2820302411, .int .u32 3259730800, .int .u32 3345764771, .int .u32 3516065817, .int .u32 3600352804, .int .u32 4094571909, .int .u32 275423344, .int .u32 430227734, .int .u32 506948616, .int .u32 659060556, .int .u32 883997877, .int .u32 958139571, .int .u32 1322822218, .int .u32 1537002063, .int .u32 1747873779, .int .u32 1955562222, .int .u32 2024104815, .int .u32 2227730452, .int .u32 2361852424, .int .u32 2428436474, .int .u32 2756734187, .int .u32 3204031479, .int .u32 3329325298] := by kernel_rfl
theorem wcs_nil : wcs [] = List.replicate 64 (.int .u32 0) := by unfold wcs; rfl
theorem uw_one (l : List UInt32) : ∀ u ∈ l.map uw, u.oneCell' = true := by
  intro u hu; simp only [List.mem_map] at hu; obtain ⟨x, _, rfl⟩ := hu; rfl
theorem ksz : (Tryd.prog.info? 101).map (·.size) = some (ks.map uw).length := by rw [List.length_map, ks64]; exact w64_row
theorem z64 : (List.replicate 64 (Value.int .u32 0)) = [.int .u32 0, .int .u32 0, .int .u32 0, .int .u32 0, .int .u32 0, .int .u32 0, .int .u32 0, .int .u32 0, .int .u32 0, .int .u32 0, .int .u32 0, .int .u32 0, .int .u32 0, .int .u32 0, .int .u32 0, .int .u32 0, .int .u32 0, .int .u32 0, .int .u32 0, .int .u32 0, .int .u32 0, .int .u32 0, .int .u32 0, .int .u32 0, .int .u32 0, .int .u32 0, .int .u32 0, .int .u32 0, .int .u32 0, .int .u32 0, .int .u32 0, .int .u32 0, .int .u32 0, .int .u32 0, .int .u32 0, .int .u32 0, .int .u32 0, .int .u32 0, .int .u32 0, .int .u32 0, .int .u32 0, .int .u32 0, .int .u32 0, .int .u32 0, .int .u32 0, .int .u32 0, .int .u32 0, .int .u32 0, .int .u32 0, .int .u32 0, .int .u32 0, .int .u32 0, .int .u32 0, .int .u32 0, .int .u32 0, .int .u32 0, .int .u32 0, .int .u32 0, .int .u32 0, .int .u32 0, .int .u32 0, .int .u32 0, .int .u32 0, .int .u32 0] := by kernel_rfl
theorem kl64 : (List.replicate 64 (Value.int .u32 0)).length = (ks.map uw).length := by rw [List.length_replicate, List.length_map, ks64]
set_option maxRecDepth 20000 in
set_option maxHeartbeats 4000000 in
theorem rk_any (t : Nat) (h : t < 64) (w : World) : Calls Tryd.prog 66 #[.int .i64 (t : Int)] w fun e w' => e = .returned (uw (ks.getD t 0)) ∧ Below w.heap.size w w' := by
  have hz : Blk (w.alloc (.cells (List.replicate 64 (.int .u32 0)).toArray 101)) w.heap.size 101 (List.replicate 64 (.int .u32 0)) := Blk.new w _ _
  have hb : Below w.heap.size w (w.alloc (.cells (List.replicate 64 (.int .u32 0)).toArray 101)) := (Below.refl _ _).alloc (Nat.le_refl _) _
  have hx := map_at ks t (by rw [ks64]; exact h)
  have h1 := ksz
  have h2 := kl64
  have h3 := uw_one ks
  rw [ks_lit] at hx h1 h2 h3
  rw [z64] at hz hb h2
  have HX := Lib.hid hx
  have HS := Lib.hid (And.intro h1 (And.intro h2 h3))
  have k0 : (0 : Int) ≤ (t : Int) := by omega
  have k1 : (t : Int) < 64 := by omega
  obtain ⟨x, hxe⟩ : ∃ x, x = uw (ks.getD t 0) := ⟨_, rfl⟩
  rw [← hxe] at HX ⊢
  clear hx hxe h1 h2 h3
  go_enter Tryd.func66, Tryd.ntmps66
  go_wp2_with (with_reducible refine wpList_store_blk rfl 101 (.tmp 3) (.tmp 4) rfl w.heap.size [.int .u32 1116352408, .int .u32 1899447441, .int .u32 3049323471, .int .u32 3921009573, .int .u32 961987163, .int .u32 1508970993, .int .u32 2453635748, .int .u32 2870763221, .int .u32 3624381080, .int .u32 310598401, .int .u32 607225278, .int .u32 1426881987, .int .u32 1925078388, .int .u32 2162078206, .int .u32 2614888103, .int .u32 3248222580, .int .u32 3835390401, .int .u32 4022224774, .int .u32 264347078, .int .u32 604807628, .int .u32 770255983, .int .u32 1249150122, .int .u32 1555081692, .int .u32 1996064986, .int .u32 2554220882, .int .u32 2821834349, .int .u32 2952996808, .int .u32 3210313671, .int .u32 3336571891, .int .u32 3584528711, .int .u32 113926993, .int .u32 338241895, .int .u32 666307205, .int .u32 773529912, .int .u32 1294757372, .int .u32 1396182291, .int .u32 1695183700, .int .u32 1986661051, .int .u32 2177026350, .int .u32 2456956037, .int .u32 2730485921, .int .u32 2820302411, .int .u32 3259730800, .int .u32 3345764771, .int .u32 3516065817, .int .u32 3600352804, .int .u32 4094571909, .int .u32 275423344, .int .u32 430227734, .int .u32 506948616, .int .u32 659060556, .int .u32 883997877, .int .u32 958139571, .int .u32 1322822218, .int .u32 1537002063, .int .u32 1747873779, .int .u32 1955562222, .int .u32 2024104815, .int .u32 2227730452, .int .u32 2361852424, .int .u32 2428436474, .int .u32 2756734187, .int .u32 3204031479, .int .u32 3329325298] rfl rfl 101 _ hz HS.out.1 HS.out.2.1 HS.out.2.2 ?_)
  intro w2 hx2 hg2
  have hb2 : Below w.heap.size w w2 := hb.grown hg2 hb.size (fun k e => by cases e; exact Nat.le_refl _)
  have hc := hx2.cell t HX.out
  clear hz hb hg2 hx2 HX HS
  go_wp2_with fail
  go_ret
  exact ⟨rfl, hb2⟩
end Go.Proofs.YtefofalobpepcaaDoor
