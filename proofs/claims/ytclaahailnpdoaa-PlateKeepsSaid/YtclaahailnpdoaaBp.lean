/-
  Chapter 10, the reference: Sync, Cut. Printed by gen_plate_rops.py.
-/
import Derived.Test.YtclaahailnpdoaaBo
import Derived.Test.YtclaahailnpdoaaUw
namespace Go.Proofs.Ytclaahailnpdoaa.Pt
open Go.RowKit Go.Maps
set_option linter.unusedVariables false
set_option linter.unusedSimpArgs false

theorem rd_cap {W : World} {a : Option Addr} {n c M : Nat} {xs : List Value} (h : Rd W 1 (.slice a n c) n xs) (hM : M ≤ n) : M ≤ c := by
  rcases Nat.eq_zero_or_pos n with h0 | h0
  · omega
  · obtain ⟨b, o, cap, e, hc, _⟩ := h.pos h0
    cases e; omega
theorem rd_cut {W : World} {a : Option Addr} {n c M : Nat} {xs : List Value} (h : Rd W 1 (.slice a n c) n xs) (hM : M ≤ n) : Rd W 1 (.slice a M c) M (xs.take M) := by
  have hl := h.1
  refine ⟨by rw [List.length_take]; omega, ?_⟩
  rcases Nat.eq_zero_or_pos M with h0 | h0
  · subst h0; exact .inl ⟨⟨_, _, rfl⟩, rfl⟩
  · obtain ⟨b, o, cap, e, hc, hcells⟩ := h.pos (by omega)
    cases e
    refine .inr ⟨b, o, _, rfl, by omega, fun j u hj => ?_⟩
    rw [List.getElem?_take] at hj
    split at hj
    · exact hcells j u hj
    · cases hj
set_option maxRecDepth 20000 in
set_option maxHeartbeats 2000000 in
theorem rsync_any (q : Nat) (st : St) (sl : By → Value) (fv : Value) (rl : Int) (K : Nat → Prop) (x : By) (w : World) (h : RA w q st sl fv rl K) (hx : x.length ≤ 9223372036854775807) :
    Calls Try.prog 30 #[.pointer (some ⟨q, 0, none⟩), .string ⟨x.toArray⟩] w fun e w' => e = .returned (.int .i64 ((syn st x).1 : Int)) ∧ Out (fun k => k = q) w w' ∧
      ∃ sl' fv' rl', RA w' q (syn st x).2 sl' fv' rl' (fun k => K k ∨ w.heap.size ≤ k) := by
  have HC := Lib.hid (rchange_any q st sl fv rl K x w h hx)
  have HF0 := Lib.hid h.fit
  obtain ⟨c, st1, hc⟩ : ∃ c st1, chg st x = (c, st1) := ⟨_, _, rfl⟩
  have hcf := chg_fs st x
  have hck := @chg_ok st x
  unfold syn
  rw [hc] at HC hcf hck ⊢
  simp only at HC hcf hck ⊢
  have HCK := Lib.hid hck
  have HQ := Lib.hid h.blk.lt
  clear h hc hck
  by_cases h0 : c = 0
  case neg =>
    have hz2 : ¬ (c : Int) = 0 := by omega
    have hne : ((c : Int) == 0) = false := by rw [beq_eq_false_iff_ne]; omega
    rw [if_neg h0]
    clear hcf
    go_enter Try.func30, Try.ntmps30
    go_wp2_with fail
    refine HC.out.mono ?_
    rintro e w1 ⟨rfl, ho1, rl1, hp1⟩
    have HR := Lib.hid (And.intro hp1 ho1)
    clear hp1 ho1
    go_wp2_with fail
    go_ret
    exact ⟨rfl, HR.out.2, sl, fv, rl1, HR.out.1.keep (fun _ _ _ => rfl) (Nat.le_refl _) (fun k _ hk => .inl hk)⟩
  case pos =>
    subst h0
    rw [if_pos rfl]
    have HF := Lib.hid hcf
    clear hcf
    go_enter Try.func30, Try.ntmps30
    go_wp2_with fail
    refine HC.out.mono ?_
    rintro e W ⟨rfl, ho1, rl1, hp1⟩
    have HR := Lib.hid (And.intro hp1 ho1)
    clear hp1 ho1
    go_wp2_with fail
    refine (rget_any q st1 sl fv rl1 K x W HR.out.1).mono ?_
    rintro e W2 ⟨vb, rfl, hb2, hrd, hvk⟩
    rw [HF.out.1] at hrd
    obtain ⟨va, vc, hve⟩ := hrd.slice
    subst hve
    obtain ⟨B, hB⟩ : ∃ B, B = gB st.fs x := ⟨_, rfl⟩
    obtain ⟨Sf, hSf⟩ : ∃ Sf, Sf = gS st.fs x := ⟨_, rfl⟩
    have hSf' : gS st1.fs x = Sf := by rw [HF.out.1, ← hSf]
    rw [hSf']
    rw [← hB] at hrd hvk ⊢
    have HBS := Lib.hid (And.intro hB hSf)
    have hBl : B.length ≤ 268435456 := by
      rw [hB]
      have h1 := tot_lay ⟨x, [], 0⟩ st.fs HF0.out.asc
      simp only [List.length_nil, Nat.add_zero] at h1
      have h2 := HF0.out.room
      have h3 := HF0.out.tot
      omega
    have HV := Lib.hid (And.intro (hrd.below hb2) hvk)
    have HB2 := Lib.hid hb2
    have b0 := Blk.new W2 68 [.string ⟨x.toArray⟩, .slice va B.length vc, .int .i64 (Sf : Int)]
    have HBK := Lib.hid b0
    have HBA := Lib.hid ((Below.refl W2.heap.size W2).alloc (Nat.le_refl _) (.cells #[.string ⟨x.toArray⟩, .slice va B.length vc, .int .i64 (Sf : Int)] 68))
    have d0 := b0.cell 0 rfl
    have d1 := b0.cell 1 rfl
    have d2 := b0.cell 2 rfl
    unfold fileV
    clear hB hSf hSf' hrd hvk hb2 b0
    have hszB : (W2.alloc (.cells #[.string ⟨x.toArray⟩, .slice va B.length vc, .int .i64 (Sf : Int)] 68)).heap.size = W2.heap.size + 1 := by simp
    have hbwB : Below W.heap.size W (W2.alloc (.cells #[.string ⟨x.toArray⟩, .slice va B.length vc, .int .i64 (Sf : Int)] 68)) := HB2.out.trans (HBA.out.mono HB2.out.size)
    have htot : tot (lay ⟨x, B, B.length⟩ st1.fs) ≤ st1.room := by
      rw [HF.out.1, HF.out.2]
      have h1 := tot_lay ⟨x, B, B.length⟩ st.fs HF0.out.asc
      simp only at h1
      have e : (gB st.fs x).length = B.length := by rw [← HBS.out.1]
      have h3 := HF0.out.tot
      omega
    have HLAY := Lib.hid (rlay_any q st1 sl fv rl1 K x B B.length (.slice va B.length vc) (W2.alloc (.cells #[.string ⟨x.toArray⟩, .slice va B.length vc, .int .i64 (Sf : Int)] 68)) (HR.out.1.below hbwB) (HCK.out trivial) (HV.out.1.below HBA.out) (fun g hg => by
      have h1 := HV.out.2 g hg
      exact ⟨Nat.lt_of_lt_of_le h1.1 hbwB.size, h1.2⟩) (Nat.le_refl _) htot)
    unfold fileV at HLAY
    have HEND : Hid (∀ w', Out (fun k => k = q) (W2.alloc (.cells #[.string ⟨x.toArray⟩, .slice va B.length vc, .int .i64 (Sf : Int)] 68)) w' → (∃ fv', RA w' q { st1 with fs := lay ⟨x, B, B.length⟩ st1.fs } (fun y => if y = x then .slice va B.length vc else sl y) fv' rl1 (fun k => K k ∨ (W2.alloc (.cells #[.string ⟨x.toArray⟩, .slice va B.length vc, .int .i64 (Sf : Int)] 68)).heap.size ≤ k)) →
        Out (fun k => k = q) w w' ∧ ∃ sl' fv' rl', RA w' q { st1 with fs := lay ⟨x, B, B.length⟩ st1.fs } sl' fv' rl' (fun k => K k ∨ w.heap.size ≤ k)) := Lib.hid (fun w' h1 h => by
      obtain ⟨fv', h2⟩ := h
      refine ⟨(HR.out.2.trans (Out.of_below (fun k => k = q) hbwB) (fun _ _ h => h)).trans h1 (fun _ _ h => h), _, fv', rl1, h2.keep (fun _ _ _ => rfl) (Nat.le_refl _) (fun k _ hk => ?_)⟩
      rcases hk with hk | hk
      · exact .inl hk
      · exact .inr (by have := HR.out.2.size; have := HB2.out.size; omega))
    clear hbwB htot
    go_wp2_with fail
    refine HLAY.out.mono ?_
    rintro e w6 ⟨rfl, h1, h2⟩
    have HX := Lib.hid (HEND.out w6 h1 h2)
    clear h1 h2 HEND HLAY hszB d0 d1 d2
    go_wp2_with fail
    go_ret
    have hx := HX.out
    rw [HF.out.1, HBS.out.1] at hx
    exact ⟨rfl, hx⟩
set_option maxRecDepth 20000 in
set_option maxHeartbeats 2000000 in
theorem rcut_any (q : Nat) (st : St) (sl : By → Value) (fv : Value) (rl : Int) (K : Nat → Prop) (x : By) (n : Int) (w : World) (h : RA w q st sl fv rl K) (hx : x.length ≤ 9223372036854775807) :
    Calls Try.prog 31 #[.pointer (some ⟨q, 0, none⟩), .string ⟨x.toArray⟩, .int .i64 n] w fun e w' => e = .returned (.int .i64 ((cut st x n).1 : Int)) ∧ Out (fun k => k = q) w w' ∧
      ∃ sl' fv' rl', RA w' q (cut st x n).2 sl' fv' rl' (fun k => K k ∨ w.heap.size ≤ k) := by
  have HC := Lib.hid (rchange_any q st sl fv rl K x w h hx)
  have HF0 := Lib.hid h.fit
  obtain ⟨c, st1, hc⟩ : ∃ c st1, chg st x = (c, st1) := ⟨_, _, rfl⟩
  have hcf := chg_fs st x
  have hck := @chg_ok st x
  unfold cut
  rw [hc] at HC hcf hck ⊢
  simp only at HC hcf hck ⊢
  have HCK := Lib.hid hck
  have HQ := Lib.hid h.blk.lt
  clear h hc hck
  by_cases h0 : c = 0
  case neg =>
    have hz2 : ¬ (c : Int) = 0 := by omega
    have hne : ((c : Int) == 0) = false := by rw [beq_eq_false_iff_ne]; omega
    rw [if_neg h0]
    clear hcf
    go_enter Try.func31, Try.ntmps31
    go_wp2_with fail
    refine HC.out.mono ?_
    rintro e w1 ⟨rfl, ho1, rl1, hp1⟩
    have HR := Lib.hid (And.intro hp1 ho1)
    clear hp1 ho1
    go_wp2_with fail
    go_ret
    exact ⟨rfl, HR.out.2, sl, fv, rl1, HR.out.1.keep (fun _ _ _ => rfl) (Nat.le_refl _) (fun k _ hk => .inl hk)⟩
  case pos =>
    subst h0
    rw [if_pos rfl]
    have HF := Lib.hid hcf
    clear hcf
    by_cases hr : n < 0 ∨ ((gB st.fs x).length : Int) < n
    case pos =>
      rw [if_pos hr]
      go_enter Try.func31, Try.ntmps31
      go_wp2_with fail
      refine HC.out.mono ?_
      rintro e W ⟨rfl, ho1, rl1, hp1⟩
      have HR := Lib.hid (And.intro hp1 ho1)
      clear hp1 ho1
      go_wp2_with fail
      refine (rget_any q st1 sl fv rl1 K x W HR.out.1).mono ?_
      rintro e W2 ⟨vb, rfl, hb2, hrd, hvk⟩
      rw [HF.out.1] at hrd
      obtain ⟨va, vc, hve⟩ := hrd.slice
      subst hve
      obtain ⟨B, hB⟩ : ∃ B, B = gB st.fs x := ⟨_, rfl⟩
      obtain ⟨Sf, hSf⟩ : ∃ Sf, Sf = gS st.fs x := ⟨_, rfl⟩
      have hSf' : gS st1.fs x = Sf := by rw [HF.out.1, ← hSf]
      rw [hSf']
      rw [← hB] at hrd hvk ⊢
      have HBS := Lib.hid (And.intro hB hSf)
      have hBl : B.length ≤ 268435456 := by
        rw [hB]
        have h1 := tot_lay ⟨x, [], 0⟩ st.fs HF0.out.asc
        simp only [List.length_nil, Nat.add_zero] at h1
        have h2 := HF0.out.room
        have h3 := HF0.out.tot
        omega
      have HV := Lib.hid (And.intro (hrd.below hb2) hvk)
      have HB2 := Lib.hid hb2
      have b0 := Blk.new W2 68 [.string ⟨x.toArray⟩, .slice va B.length vc, .int .i64 (Sf : Int)]
      have HBK := Lib.hid b0
      have HBA := Lib.hid ((Below.refl W2.heap.size W2).alloc (Nat.le_refl _) (.cells #[.string ⟨x.toArray⟩, .slice va B.length vc, .int .i64 (Sf : Int)] 68))
      have d0 := b0.cell 0 rfl
      have d1 := b0.cell 1 rfl
      have d2 := b0.cell 2 rfl
      unfold fileV
      rw [← hB] at hr
      clear hB hSf hSf' hrd hvk hb2 b0
      have hbwB : Below W.heap.size W (W2.alloc (.cells #[.string ⟨x.toArray⟩, .slice va B.length vc, .int .i64 (Sf : Int)] 68)) := HB2.out.trans (HBA.out.mono HB2.out.size)
      have HX : Hid (Out (fun k => k = q) w (W2.alloc (.cells #[.string ⟨x.toArray⟩, .slice va B.length vc, .int .i64 (Sf : Int)] 68)) ∧ ∃ sl' fv' rl', RA (W2.alloc (.cells #[.string ⟨x.toArray⟩, .slice va B.length vc, .int .i64 (Sf : Int)] 68)) q st1 sl' fv' rl' (fun k => K k ∨ w.heap.size ≤ k)) := Lib.hid ⟨HR.out.2.trans (Out.of_below (fun k => k = q) hbwB) (fun _ _ h => h), sl, fv, rl1, (HR.out.1.below hbwB).keep (fun _ _ _ => rfl) (Nat.le_refl _) (fun k _ hk => .inl hk)⟩
      clear hbwB
      by_cases hn : n < 0
      case pos =>
        clear hr
        go_wp2_with fail
        go_ret
        exact ⟨rfl, HX.out⟩
      case neg =>
        have t1 : (B.length : Int) < n := hr.resolve_left hn
        clear hr
        go_wp2_with fail
        go_ret
        exact ⟨rfl, HX.out⟩
    case neg =>
      rw [if_neg hr]
      obtain ⟨M, hM⟩ : ∃ M : Nat, n = (M : Int) := ⟨n.toNat, by omega⟩
      subst hM
      have hNt : (M : Int).toNat = M := Int.toNat_natCast M
      rw [hNt]
      clear hNt
      go_enter Try.func31, Try.ntmps31
      go_wp2_with fail
      refine HC.out.mono ?_
      rintro e W ⟨rfl, ho1, rl1, hp1⟩
      have HR := Lib.hid (And.intro hp1 ho1)
      clear hp1 ho1
      go_wp2_with fail
      refine (rget_any q st1 sl fv rl1 K x W HR.out.1).mono ?_
      rintro e W2 ⟨vb, rfl, hb2, hrd, hvk⟩
      rw [HF.out.1] at hrd
      obtain ⟨va, vc, hve⟩ := hrd.slice
      subst hve
      obtain ⟨B, hB⟩ : ∃ B, B = gB st.fs x := ⟨_, rfl⟩
      obtain ⟨Sf, hSf⟩ : ∃ Sf, Sf = gS st.fs x := ⟨_, rfl⟩
      have hSf' : gS st1.fs x = Sf := by rw [HF.out.1, ← hSf]
      rw [hSf']
      rw [← hB] at hrd hvk ⊢
      have HBS := Lib.hid (And.intro hB hSf)
      have hBl : B.length ≤ 268435456 := by
        rw [hB]
        have h1 := tot_lay ⟨x, [], 0⟩ st.fs HF0.out.asc
        simp only [List.length_nil, Nat.add_zero] at h1
        have h2 := HF0.out.room
        have h3 := HF0.out.tot
        omega
      have HV := Lib.hid (And.intro (hrd.below hb2) hvk)
      have HB2 := Lib.hid hb2
      have b0 := Blk.new W2 68 [.string ⟨x.toArray⟩, .slice va B.length vc, .int .i64 (Sf : Int)]
      have HBK := Lib.hid b0
      have HBA := Lib.hid ((Below.refl W2.heap.size W2).alloc (Nat.le_refl _) (.cells #[.string ⟨x.toArray⟩, .slice va B.length vc, .int .i64 (Sf : Int)] 68))
      have d0 := b0.cell 0 rfl
      have d1 := b0.cell 1 rfl
      have d2 := b0.cell 2 rfl
      unfold fileV
      rw [← hB] at hr
      clear hB hSf hSf' hrd hvk hb2 b0
      have t0 : ¬ (M : Int) < 0 := fun e => hr (Or.inl e)
      have t1 : ¬ (B.length : Int) < (M : Int) := fun e => hr (Or.inr e)
      clear hr
      go_wp2_with fail
      generalize hW0 : (W2.alloc (.cells #[.string ⟨x.toArray⟩, .slice va B.length vc, .int .i64 (Sf : Int)] 68)).drew = W0
      have HW0 := Lib.hid hW0
      have hsz0 : W0.heap.size = W2.heap.size + 1 := by rw [← hW0]; simp
      have hbk0 : Blk W0 W2.heap.size 68 [.string ⟨x.toArray⟩, .slice va B.length vc, .int .i64 (Sf : Int)] := by rw [← hW0]; exact HBK.out.drew
      have hbw0 : Below W.heap.size W W0 := by rw [← hW0]; exact (HB2.out.trans (HBA.out.mono HB2.out.size)).drew
      have hv0 : Rd W0 1 (.slice va B.length vc) B.length (Lib.byteCells B) := by rw [← hW0]; exact (HV.out.1.below HBA.out).drewN 1
      clear hW0
      have hMB : M ≤ B.length := by omega
      have hMc : M ≤ vc := rd_cap hv0 hMB
      have hcut := rd_cut hv0 hMB
      obtain ⟨i0, hi, hz0, hz1, hz2⟩ := info_parts u8_row
      have hbE : Below W0.heap.size W0 (W0.alloc (.cells #[] 5)) := (Below.refl _ _).alloc (Nat.le_refl _) _
      obtain ⟨v', w5, hrun, hown5, hgr, _⟩ := app_run (P := Try.prog) (W0.alloc (.cells #[] 5)) 33 33 5 W0.heap.size i0 (.int .u8 0) 1 1 Try.underlying33 hi hz0 hz1 hz2 rfl (by decide) (.slice (some ⟨W0.heap.size, 0, none⟩) 0 0) 0 [] (own_fresh W0 5 1) (.slice va M vc) M ((Lib.byteCells B).take M) (hcut.below hbE) (fun u hu => by
        have hu := List.mem_of_mem_take hu
        unfold Lib.byteCells at hu; obtain ⟨c, _, rfl⟩ := List.mem_map.1 hu; rfl) (by unfold maxLen; omega) (by omega) (by simp)
      have hcc : [] ++ (Lib.byteCells B).take M = Lib.byteCells (B.take M) := by rw [List.nil_append]; unfold Lib.byteCells; rw [List.map_take]
      have hll : 0 + M = (B.take M).length := by rw [List.length_take]; omega
      have hll2 : (B.take M).length = M := by omega
      rw [hcc, hll] at hown5
      have hb5 : Below W0.heap.size W0 w5 := below_app (Below.refl _ _) (Nat.le_refl _) hgr (fun k e => by cases e; exact Nat.le_refl _)
      have hbw5 : Below W.heap.size W w5 := hbw0.trans (hb5.mono hbw0.size)
      obtain ⟨ea, ec, hee⟩ := (Rd.of_own hown5).slice
      subst hee
      have HRUN := Lib.hid hrun
      have hbx5 : Blk w5 W2.heap.size 68 [.string ⟨x.toArray⟩, .slice va B.length vc, .int .i64 (Sf : Int)] := hbk0.below hb5 (by omega)
      have hbxE : Blk (W0.alloc (.cells #[] 5)) W2.heap.size 68 [.string ⟨x.toArray⟩, .slice va B.length vc, .int .i64 (Sf : Int)] := hbk0.below hbE (by omega)
      obtain ⟨N2, hN2⟩ : ∃ N2, N2 = min Sf M := ⟨_, rfl⟩
      have hmin : (if M < Sf then (M : Int) else (Sf : Int)) = (N2 : Int) := by split <;> omega
      have hmin2 : min (Sf : Int) (M : Int) = (N2 : Int) := by omega
      have HN2 := Lib.hid hN2
      have htot : tot (lay ⟨x, B.take M, N2⟩ st1.fs) ≤ st1.room := by
        rw [HF.out.1, HF.out.2]
        have h1 := tot_lay ⟨x, B.take M, N2⟩ st.fs HF0.out.asc
        simp only at h1
        have e : (gB st.fs x).length = B.length := by rw [← HBS.out.1]
        have h3 := HF0.out.tot
        omega
      have HLAY := Lib.hid (rlay_any q st1 sl fv rl1 (fun k => K k ∨ w.heap.size ≤ k) x (B.take M) N2 (.slice ea (B.take M).length ec) w5 ((HR.out.1.below hbw5).keep (fun _ _ _ => rfl) (Nat.le_refl _) (fun k _ hk => .inl hk)) (HCK.out trivial) (Rd.of_own hown5) (fun g hg => by
        have h1 := hown5.lt g hg
        have h2 := HR.out.2.size
        have h3 := HB2.out.size
        have h4 := HQ.out
        exact ⟨h1.2, .inr (by omega), by omega⟩) (by omega) htot)
      unfold fileV at HLAY
      rw [hll2] at HLAY HRUN
      clear hN2
      have HBOX : Hid (∀ (n : Nat) (w' : World), n ≤ 3 → (fun n w' => match n with | 0 => w' = W0 | 1 => w' = W0.alloc (.cells #[] 5) | 2 => w' = w5 | _ => (fun w' => Out (fun k => k = q) w5 w' ∧ ∃ fv', RA w' q { st1 with fs := lay ⟨x, B.take M, N2⟩ st1.fs } (fun y => if y = x then .slice ea M ec else sl y) fv' rl1 (fun k => (K k ∨ w.heap.size ≤ k) ∨ w5.heap.size ≤ k)) w') n w' → w'.cell? ⟨W2.heap.size, 0, none⟩ = some (.string ⟨x.toArray⟩) ∧ w'.cell? ⟨W2.heap.size, 1, none⟩ = some (.slice va B.length vc) ∧ w'.cell? ⟨W2.heap.size, 2, none⟩ = some (.int .i64 (Sf : Int))) := Lib.hid (fun n w' hn hw' => by
        have h3 : Blk w' W2.heap.size 68 [.string ⟨x.toArray⟩, .slice va B.length vc, .int .i64 (Sf : Int)] := by
          match n, hw' with
          | 0, h => rw [show w' = W0 from h]; exact hbk0
          | 1, h => rw [show w' = W0.alloc (.cells #[] 5) from h]; exact hbxE
          | 2, h => rw [show w' = w5 from h]; exact hbx5
          | n + 3, h => exact ((show (fun w' => Out (fun k => k = q) w5 w' ∧ ∃ fv', RA w' q { st1 with fs := lay ⟨x, B.take M, N2⟩ st1.fs } (fun y => if y = x then .slice ea M ec else sl y) fv' rl1 (fun k => (K k ∨ w.heap.size ≤ k) ∨ w5.heap.size ≤ k)) w' from h).1.block _ hbx5.lt (by have h2 := HR.out.2.size; have h3 := HB2.out.size; have h4 := HQ.out; omega)).trans hbx5
        exact ⟨h3.cell 0 rfl, h3.cell 1 rfl, h3.cell 2 rfl⟩)
      have HEND : Hid (∀ w', (fun w' => Out (fun k => k = q) w5 w' ∧ ∃ fv', RA w' q { st1 with fs := lay ⟨x, B.take M, N2⟩ st1.fs } (fun y => if y = x then .slice ea M ec else sl y) fv' rl1 (fun k => (K k ∨ w.heap.size ≤ k) ∨ w5.heap.size ≤ k)) w' → Out (fun k => k = q) w w' ∧ ∃ sl' fv' rl', RA w' q { st1 with fs := lay ⟨x, B.take M, N2⟩ st1.fs } sl' fv' rl' (fun k => K k ∨ w.heap.size ≤ k)) := Lib.hid (fun w' h => by
        obtain ⟨h1, fv', h2⟩ := h
        refine ⟨(HR.out.2.trans (Out.of_below (fun k => k = q) hbw5) (fun _ _ h => h)).trans h1 (fun _ _ h => h), _, fv', rl1, h2.keep (fun _ _ _ => rfl) (Nat.le_refl _) (fun k _ hk => ?_)⟩
        rcases hk with hk | hk
        · exact hk
        · exact .inr (by have := HR.out.2.size; have := hbw5.size; omega))
      clear hsz0 hbk0 hbw0 hv0 hcut hbE hown5 hgr hcc hll hll2 hb5 hbw5 hbx5 hbxE htot hi hz0 hz1 hz2 hrun d0 d1 d2
      refine wp_region_W [2, 7, 13] (fun n w' => match n with | 0 => w' = W0 | 1 => w' = W0.alloc (.cells #[] 5) | 2 => w' = w5 | _ => (fun w' => Out (fun k => k = q) w5 w' ∧ ∃ fv', RA w' q { st1 with fs := lay ⟨x, B.take M, N2⟩ st1.fs } (fun y => if y = x then .slice ea M ec else sl y) fv' rl1 (fun k => (K k ∨ w.heap.size ≤ k) ∨ w5.heap.size ≤ k)) w') (by kernel_rfl) (by rfl) ?_ ?_
      · exact HW0.out
      refine wpW_take (i := 0) (oi := ?oi1) (v := ?v1) ?hi1 (by kernel_rfl) (by kernel_rfl) (by kernel_rfl) (by rfl) ?hy1 ?rest1
      case hi1 => (simp only [List.getElem?_toArray, List.getElem?_cons_succ, List.getElem?_cons_zero]; rfl)
      case hy1 => (refine Or.inl ⟨by rfl, ?_⟩; intro n W hn hSw; (obtain ⟨d0, d1, d2⟩ := HBOX.out n W hn hSw; clear hSw hn); go_simp; (try with_reducible rfl))
      try simp only [Act.put, List.setIfInBounds_toArray, List.set_cons_zero, List.set_cons_succ]
      refine wpW_take (i := 1) (oi := ?oi2) (v := ?v2) ?hi2 (by kernel_rfl) (by kernel_rfl) (by kernel_rfl) (by rfl) ?hy2 ?rest2
      case hi2 => (simp only [List.getElem?_toArray, List.getElem?_cons_succ, List.getElem?_cons_zero]; rfl)
      case hy2 => (refine Or.inl ⟨by rfl, ?_⟩; intro n W hn hSw; (obtain ⟨d0, d1, d2⟩ := HBOX.out n W hn hSw; clear hSw hn); go_simp; (try with_reducible rfl))
      try simp only [Act.put, List.setIfInBounds_toArray, List.set_cons_zero, List.set_cons_succ]
      refine wpW_turn 0 (k := 2) (oi := ?oi3) (v := .slice (some ⟨W0.heap.size, 0, none⟩) 0 0) (by rfl) ?hi3 (by rfl) (by rfl) (by kernel_rfl) (by kernel_rfl) (by kernel_rfl) (by kernel_rfl) ?hy3 ?rest3
      case hi3 => (simp only [List.getElem?_toArray, List.getElem?_cons_succ, List.getElem?_cons_zero]; rfl)
      case hy3 =>
        refine Or.inl (Or.inr (Or.inr (Or.inr ⟨by rfl, fun w' hw' => ⟨W0.alloc (.cells #[] 5), ?_, rfl⟩⟩)))
        rw [show w' = W0 from hw']
        go_simp
        (try rfl)
      try simp only [Act.put, List.setIfInBounds_toArray, List.set_cons_zero, List.set_cons_succ]
      refine wpW_take (i := 3) (oi := ?oi4) (v := ?v4) ?hi4 (by kernel_rfl) (by kernel_rfl) (by kernel_rfl) (by rfl) ?hy4 ?rest4
      case hi4 => (simp only [List.getElem?_toArray, List.getElem?_cons_succ, List.getElem?_cons_zero]; rfl)
      case hy4 => (refine Or.inl ⟨by rfl, ?_⟩; intro n W hn hSw; (obtain ⟨d0, d1, d2⟩ := HBOX.out n W hn hSw; clear hSw hn); go_simp; (try with_reducible rfl))
      try simp only [Act.put, List.setIfInBounds_toArray, List.set_cons_zero, List.set_cons_succ]
      refine wpW_take (i := 4) (oi := ?oi5) (v := ?v5) ?hi5 (by kernel_rfl) (by kernel_rfl) (by kernel_rfl) (by rfl) ?hy5 ?rest5
      case hi5 => (simp only [List.getElem?_toArray, List.getElem?_cons_succ, List.getElem?_cons_zero]; rfl)
      case hy5 => (refine Or.inl ⟨by rfl, ?_⟩; intro n W hn hSw; (obtain ⟨d0, d1, d2⟩ := HBOX.out n W hn hSw; clear hSw hn); go_simp; (try with_reducible rfl))
      try simp only [Act.put, List.setIfInBounds_toArray, List.set_cons_zero, List.set_cons_succ]
      refine wpW_take (i := 5) (oi := ?oi6) (v := ?v6) ?hi6 (by kernel_rfl) (by kernel_rfl) (by kernel_rfl) (by rfl) ?hy6 ?rest6
      case hi6 => (simp only [List.getElem?_toArray, List.getElem?_cons_succ, List.getElem?_cons_zero]; rfl)
      case hy6 => (refine Or.inl ⟨by rfl, ?_⟩; intro n W hn hSw; (obtain ⟨d0, d1, d2⟩ := HBOX.out n W hn hSw; clear hSw hn); go_simp; (try with_reducible rfl))
      try simp only [Act.put, List.setIfInBounds_toArray, List.set_cons_zero, List.set_cons_succ]
      refine wpW_take (i := 6) (oi := ?oi7) (v := ?v7) ?hi7 (by kernel_rfl) (by kernel_rfl) (by kernel_rfl) (by rfl) ?hy7 ?rest7
      case hi7 => (simp only [List.getElem?_toArray, List.getElem?_cons_succ, List.getElem?_cons_zero]; rfl)
      case hy7 => (refine Or.inl ⟨by rfl, ?_⟩; intro n W hn hSw; (obtain ⟨d0, d1, d2⟩ := HBOX.out n W hn hSw; clear hSw hn); go_simp; (try with_reducible rfl))
      try simp only [Act.put, List.setIfInBounds_toArray, List.set_cons_zero, List.set_cons_succ]
      refine wpW_turn 1 (k := 7) (oi := ?oi8) (v := .slice ea M ec) (by rfl) ?hi8 (by rfl) (by rfl) (by kernel_rfl) (by kernel_rfl) (by kernel_rfl) (by kernel_rfl) ?hy8 ?rest8
      case hi8 => (simp only [List.getElem?_toArray, List.getElem?_cons_succ, List.getElem?_cons_zero]; rfl)
      case hy8 =>
        exact Or.inl (Or.inr (Or.inr (Or.inr ⟨by rfl, fun w' hw' => ⟨w5, (by rw [show w' = _ from hw']; exact exec_append _ _ _ rfl rfl rfl HRUN.out), rfl⟩⟩)))
      try simp only [Act.put, List.setIfInBounds_toArray, List.set_cons_zero, List.set_cons_succ]
      refine wpW_take (i := 8) (oi := ?oi9) (v := ?v9) ?hi9 (by kernel_rfl) (by kernel_rfl) (by kernel_rfl) (by rfl) ?hy9 ?rest9
      case hi9 => (simp only [List.getElem?_toArray, List.getElem?_cons_succ, List.getElem?_cons_zero]; rfl)
      case hy9 => (refine Or.inl ⟨by rfl, ?_⟩; intro n W hn hSw; (obtain ⟨d0, d1, d2⟩ := HBOX.out n W hn hSw; clear hSw hn); go_simp; (try with_reducible rfl))
      try simp only [Act.put, List.setIfInBounds_toArray, List.set_cons_zero, List.set_cons_succ]
      refine wpW_take (i := 9) (oi := ?oi10) (v := ?v10) ?hi10 (by kernel_rfl) (by kernel_rfl) (by kernel_rfl) (by rfl) ?hy10 ?rest10
      case hi10 => (simp only [List.getElem?_toArray, List.getElem?_cons_succ, List.getElem?_cons_zero]; rfl)
      case hy10 => (refine Or.inl ⟨by rfl, ?_⟩; intro n W hn hSw; (obtain ⟨d0, d1, d2⟩ := HBOX.out n W hn hSw; clear hSw hn); go_simp; (try with_reducible rfl))
      try simp only [Act.put, List.setIfInBounds_toArray, List.set_cons_zero, List.set_cons_succ]
      refine wpW_take (i := 10) (oi := ?oi11) (v := ?v11) ?hi11 (by kernel_rfl) (by kernel_rfl) (by kernel_rfl) (by rfl) ?hy11 ?rest11
      case hi11 => (simp only [List.getElem?_toArray, List.getElem?_cons_succ, List.getElem?_cons_zero]; rfl)
      case hy11 => (refine Or.inl ⟨by rfl, ?_⟩; intro n W hn hSw; (obtain ⟨d0, d1, d2⟩ := HBOX.out n W hn hSw; clear hSw hn); go_simp; (try with_reducible rfl))
      try simp only [Act.put, List.setIfInBounds_toArray, List.set_cons_zero, List.set_cons_succ]
      refine wpW_take (i := 11) (oi := ?oi12) (v := ?v12) ?hi12 (by kernel_rfl) (by kernel_rfl) (by kernel_rfl) (by rfl) ?hy12 ?rest12
      case hi12 => (simp only [List.getElem?_toArray, List.getElem?_cons_succ, List.getElem?_cons_zero]; rfl)
      case hy12 => (refine Or.inl ⟨by rfl, ?_⟩; intro n W hn hSw; (obtain ⟨d0, d1, d2⟩ := HBOX.out n W hn hSw; clear hSw hn); go_simp; (try with_reducible rfl))
      try simp only [Act.put, List.setIfInBounds_toArray, List.set_cons_zero, List.set_cons_succ]
      refine wpW_take (i := 12) (oi := ?oi13) (v := ?v13) ?hi13 (by kernel_rfl) (by kernel_rfl) (by kernel_rfl) (by rfl) ?hy13 ?rest13
      case hi13 => (simp only [List.getElem?_toArray, List.getElem?_cons_succ, List.getElem?_cons_zero]; rfl)
      case hy13 => (refine Or.inl ⟨by rfl, ?_⟩; intro n W hn hSw; (obtain ⟨d0, d1, d2⟩ := HBOX.out n W hn hSw; clear hSw hn); go_simp; (try with_reducible rfl))
      try simp only [Act.put, List.setIfInBounds_toArray, List.set_cons_zero, List.set_cons_succ]
      refine wpW_turn 2 (k := 13) (oi := ?oi14) (v := .tuple #[]) (by rfl) ?hi14 (by rfl) (by rfl) (by kernel_rfl) (by kernel_rfl) (by kernel_rfl) (by kernel_rfl) ?hy14 ?rest14
      case hi14 => (simp only [List.getElem?_toArray, List.getElem?_cons_succ, List.getElem?_cons_zero]; rfl)
      case hy14 =>
        refine Or.inl (Or.inr (Or.inr (Or.inl ⟨by rfl, 41, #[.pointer (some ⟨q, 0, none⟩), .agg #[.string ⟨x.toArray⟩, .slice ea M ec, .int .i64 (N2 : Int)]], fun W hSw => ?_, fun W hSw => ?_⟩)))
        · (go_simp; (try rfl))
        · rw [show W = w5 from hSw]
          exact HLAY.out.mono (fun e w' h => h)
      try simp only [Act.put, List.setIfInBounds_toArray, List.set_cons_zero, List.set_cons_succ]
      refine wpW_done (by kernel_rfl) (by rfl) ?_ _
      intro w6 hSw
      have HX := Lib.hid (HEND.out w6 hSw)
      clear hSw HEND HBOX HLAY HRUN
      go_wp2_with fail
      go_ret
      have hx := HX.out
      rw [HF.out.1, HN2.out, HBS.out.1, HBS.out.2] at hx
      exact ⟨rfl, hx⟩
end Go.Proofs.Ytclaahailnpdoaa.Pt
