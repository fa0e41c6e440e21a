/-
  Chapter 10, the reference: Crash. Printed by gen_plate_rcrash.py.
-/
import Derived.Test.YtclaahailnpdoaaBp
namespace Go.Proofs.Ytclaahailnpdoaa.Pt
open Go.RowKit Go.Maps
set_option linter.unusedVariables false
set_option linter.unusedSimpArgs false

theorem own_keep {w w' : World} {B : Nat} {e : TypeId} {sz n : Nat} {v : Value} {xs : List Value} (h : w.ownsRow B e sz v n xs) (hb : ∀ g, v.ownBlock = some g → w'.heap[g]? = w.heap[g]?) : w'.ownsRow B e sz v n xs := by
  refine ⟨h.1, ?_⟩
  rcases h.2 with h2 | ⟨g, cap, cur, hv, hB, hh, r⟩
  · exact .inl h2
  · exact .inr ⟨g, cap, cur, hv, hB, by rw [hb g (by rw [hv]; rfl)]; exact hh, r⟩
theorem mem_one {f g : Fl} {j : Int} (h : g ∈ one f j) : g.n = f.n ∧ g.b = f.b.take (kn f j) ∧ g.s = kn f j ∧ g.b ≠ [] := by
  unfold one at h
  split at h
  · cases h
  · rename_i hb
    obtain rfl := List.mem_singleton.1 h
    exact ⟨rfl, rfl, rfl, hb⟩
theorem mem_cr {fs : List Fl} {g : Nat → Int} {x : Fl} (h : x ∈ cr fs g) : ∃ f ∈ fs, ∃ j, x ∈ one f j := by
  induction fs generalizing g with
  | nil => cases h
  | cons f r ih =>
    unfold cr at h
    rcases List.mem_append.1 h with h | h
    · exact ⟨f, List.mem_cons_self, _, h⟩
    · obtain ⟨k, hk, j, hj⟩ := ih h
      exact ⟨k, List.mem_cons_of_mem _ hk, j, hj⟩
theorem asc_cr (fs : List Fl) (g : Nat → Int) (ha : Asc fs) : Asc (cr fs g) := by
  induction fs generalizing g with
  | nil => exact List.Pairwise.nil
  | cons f r ih =>
    unfold Asc at ha
    rw [List.pairwise_cons] at ha
    unfold cr Asc
    rw [List.pairwise_append]
    refine ⟨?_, ih _ ha.2, fun x hx y hy => ?_⟩
    · unfold one; split
      · exact List.Pairwise.nil
      · exact List.pairwise_singleton _ _
    · obtain ⟨k, hk, j, hj⟩ := mem_cr hy
      rw [(mem_one hx).1, (mem_one hj).1]
      exact ha.1 k hk
theorem tot_cr (fs : List Fl) (g : Nat → Int) : tot (cr fs g) ≤ tot fs := by
  induction fs generalizing g with
  | nil => exact Nat.le_refl _
  | cons f r ih =>
    have h1 := ih (fun i => g (i + 1))
    unfold cr
    have h2 : tot (one f (g 0)) ≤ f.b.length := by
      unfold one tot
      split
      · simp
      · simp; omega
    have e1 : tot (one f (g 0) ++ cr r (fun i => g (i + 1))) = tot (one f (g 0)) + tot (cr r (fun i => g (i + 1))) := by unfold tot; rw [List.map_append, List.sum_append]
    have e2 : tot (f :: r) = f.b.length + tot r := by simp [tot]
    omega
theorem kn_le {f : Fl} (h : f.s ≤ f.b.length) (j : Int) : kn f j ≤ f.b.length := by unfold kn; omega
theorem Fit.crash {st : St} (h : Fit st) (ks : List Int) : Fit (crash st ks) := by
  refine ⟨asc_cr _ _ h.asc, h.room, Nat.le_trans (tot_cr _ _) h.tot, fun x hx => ?_, h.left⟩
  obtain ⟨f, hf, j, hj⟩ := mem_cr hx
  obtain ⟨e1, e2, e3, e4⟩ := mem_one hj
  have h1 := h.file f hf
  refine ⟨e4, ?_, by rw [e1]; exact h1.2.2.1, by rw [e1]; exact h1.2.2.2⟩
  rw [e2, e3, List.length_take]
  have := kn_le h1.2.1 j
  omega
theorem cr_len (fs : List Fl) (g : Nat → Int) : (cr fs g).length ≤ fs.length := by
  induction fs generalizing g with
  | nil => exact Nat.le_refl _
  | cons f r ih =>
    have h1 := ih (fun i => g (i + 1))
    unfold cr
    have h2 : (one f (g 0)).length ≤ 1 := by unfold one; split <;> simp
    rw [List.length_append, List.length_cons]
    omega
theorem take_lt {fs : List Fl} {k : Nat} {f : Fl} (ha : Asc fs) (h : fs[k]? = some f) : ∀ g ∈ fs.take k, g.n < f.n := by
  intro g hg
  have hk := (List.getElem?_eq_some_iff.1 h).1
  have e : fs.take k ++ f :: fs.drop (k + 1) = fs := by
    rw [← (List.getElem?_eq_some_iff.1 h).2, ← List.drop_eq_getElem_cons hk, List.take_append_drop]
  unfold Asc at ha
  rw [← e, List.pairwise_append] at ha
  exact ha.2.2 g hg f List.mem_cons_self
/-- the reference's Crash under way: so many files are done -/
structure RC (w wr : World) (q : Nat) (st : St) (rl : Int) (A : List Fl) (l : Value) (SL : By → Value) : Prop where
  blk : Blk wr q 31 [l, .int .i64 (st.room : Int), .bool st.armed, .int .i64 rl, .bool st.down]
  row : wr.ownsRow w.heap.size 68 3 l A.length (fcells SL A)
  bs : ∀ g ∈ A, Rd wr 1 (SL g.n) g.b.length (Lib.byteCells g.b)
  bo : ∀ g ∈ A, ∀ b, (SL g.n).ownBlock = some b → w.heap.size ≤ b ∧ b < wr.heap.size ∧ l.ownBlock ≠ some b
  out : Out (fun k => k = q) w wr
  ql : q < w.heap.size
theorem RC.below {w wr W' : World} {q : Nat} {st : St} {rl : Int} {A : List Fl} {l : Value} {SL : By → Value} (h : RC w wr q st rl A l SL) (hb : Below wr.heap.size wr W') : RC w W' q st rl A l SL :=
  ⟨h.blk.below hb h.blk.lt, own_keep h.row (fun g hg => hb.block g (h.row.lt g hg).2), fun g hg => (h.bs g hg).below hb, fun g hg b hgb => ⟨(h.bo g hg b hgb).1, Nat.lt_of_lt_of_le (h.bo g hg b hgb).2.1 hb.size, (h.bo g hg b hgb).2.2⟩,
    h.out.trans (Out.of_below _ hb) (fun _ _ h => h), h.ql⟩
theorem fcells_same {SL SL' : By → Value} {A : List Fl} (h : ∀ g ∈ A, SL' g.n = SL g.n) : fcells SL' A = fcells SL A := by
  induction A with
  | nil => rfl
  | cons g r ih =>
    unfold fcells at ih ⊢
    rw [List.flatMap_cons, List.flatMap_cons, ih (fun k hk => h k (List.mem_cons_of_mem _ hk))]
    unfold fcell
    rw [h g List.mem_cons_self]
theorem RC.snoc {w W0 w5 w7 : World} {q : Nat} {st : St} {rl : Int} {A : List Fl} {l l7 v5 : Value} {SL : By → Value} {g : Fl} (h : RC w W0 q st rl A l SL) (hn : ∀ f ∈ A, f.n ≠ g.n)
    (h5 : w5.ownsRow W0.heap.size 5 1 v5 g.b.length (Lib.byteCells g.b)) (hb5 : Below W0.heap.size W0 w5) (o : Obj)
    (h7 : w7.ownsRow w.heap.size 68 3 l7 (A.length + 1) (fcells SL A ++ [.string ⟨g.n.toArray⟩, v5, .int .i64 (g.s : Int)])) (hg7 : (w5.alloc o).grownBy w7 l.ownBlock) (hl7 : l7.ownBlock = l.ownBlock ∨ l7.ownBlock = some (w5.alloc o).heap.size) :
    RC w (w7.setCell ⟨q, 0, none⟩ l7) q st rl (A ++ [g]) l7 (fun y => if y = g.n then v5 else SL y) := by
  have hsz : (w5.alloc o).heap.size = w5.heap.size + 1 := by simp
  have h6 := (h.below hb5).below ((Below.refl w5.heap.size w5).alloc (Nat.le_refl _) o)
  have hs0 := h.out.size
  have hs5 := hb5.size
  have hs7 := hg7.size
  have hz : (w7.setCell ⟨q, 0, none⟩ l7).heap.size = w7.heap.size := by simp
  have hset : ∀ k, k ≠ q → (w7.setCell ⟨q, 0, none⟩ l7).heap[k]? = w7.heap[k]? := fun k hk => Below.heap_setCell _ _ _ _ hk
  have hgr : ∀ k, k < (w5.alloc o).heap.size → l.ownBlock ≠ some k → w7.heap[k]? = (w5.alloc o).heap[k]? := fun k hk hne => hg7.block k hk (fun e => hne e.symm) 
  have hsl : ∀ f ∈ A, (if f.n = g.n then v5 else SL f.n) = SL f.n := fun f hf => if_neg (hn f hf)
  have hlq : ∀ k, l.ownBlock = some k → w.heap.size ≤ k ∧ k < W0.heap.size := fun k hk => h.row.lt k hk
  have hql := h.ql
  refine ⟨?_, ?_, ?_, ?_, ?_, h.ql⟩
  · exact ((h6.blk.grown hg7 (fun r hr e => by have := (hlq r hr).1; omega)).set 0 l7)
  · have e : fcells (fun y => if y = g.n then v5 else SL y) (A ++ [g]) = fcells SL A ++ [.string ⟨g.n.toArray⟩, v5, .int .i64 (g.s : Int)] := by
      rw [fcells_snoc, fcells_same (SL := SL) (SL' := fun y => if y = g.n then v5 else SL y) hsl]
      simp [fcell]
    rw [e, List.length_append]
    exact own_keep h7 (fun k hk => hset k (by have := (h7.lt k hk).1; omega))
  · intro f hf
    rcases List.mem_append.1 hf with hf | hf
    · simp only [hsl f hf]
      refine rd_keep (h6.bs f hf) (fun k hk => ?_)
      have h1 := h6.bo f hf k hk
      exact (hset k (by omega)).trans (hgr k h1.2.1 h1.2.2)
    · obtain rfl := List.mem_singleton.1 hf
      simp only [if_true]
      refine rd_keep (Rd.of_own h5) (fun k hk => ?_)
      have h1 := h5.lt k hk
      exact ((hset k (by omega)).trans (hgr k (by omega) (fun e => by have := (hlq k e).2; omega))).trans (((Below.refl w5.heap.size w5).alloc (Nat.le_refl _) o).block k h1.2)
  · intro f hf k hk
    rw [hz]
    have hnot : ∀ b, l.ownBlock ≠ some b → b < (w5.alloc o).heap.size → l7.ownBlock ≠ some b := fun b h1 h2 e => by
      rcases hl7 with e7 | e7
      · exact h1 (by rw [← e7]; exact e)
      · rw [e7] at e; cases e; omega
    rcases List.mem_append.1 hf with hf | hf
    · simp only [hsl f hf] at hk
      have h1 := h6.bo f hf k hk
      exact ⟨h1.1, by omega, hnot k h1.2.2 h1.2.1⟩
    · obtain rfl := List.mem_singleton.1 hf
      simp only [if_true] at hk
      have h1 := h5.lt k hk
      exact ⟨by omega, by omega, hnot k (fun e => by have := (hlq k e).2; omega) (by omega)⟩
  · exact ((h6.out.trans (Out.of_grown hg7) (fun k hk e => by have := (hlq k e).1; omega)).set _ _ rfl)
set_option maxRecDepth 100000 in
set_option maxHeartbeats 4000000 in
theorem rcrash_any (q : Nat) (st : St) (sl : By → Value) (fv : Value) (rl : Int) (K : Nat → Prop) (kv : Value) (ks : List Int) (w : World) (h : RA w q st sl fv rl K) (hk : Rd w 1 kv ks.length (ks.map fun j => Value.int .i64 j)) (hkb : 0 < ks.length → ∀ g, kv.ownBlock = some g → g < w.heap.size ∧ g ≠ q) :
    Calls Try.prog 23 #[.pointer (some ⟨q, 0, none⟩), kv] w fun e w' => e = .returned (.tuple #[]) ∧ Out (fun k => k = q) w w' ∧
      ∃ sl' fv' rl', RA w' q (crash st ks) sl' fv' rl' (fun k => K k ∨ w.heap.size ≤ k) := by
  obtain ⟨ka, kc, rfl⟩ := hk.slice
  have hlen := h.len
  have HP := Lib.hid h
  have HK := Lib.hid (And.intro hk hkb)
  have c0 := h.blk.cell 0 rfl
  have f0 := h.blk.frozen 0
  have HSL : Hid (∀ g ∈ st.fs, ∃ a c, sl g.n = .slice a g.b.length c) := Lib.hid (fun g hg => (h.row g hg).slice)
  obtain ⟨fa, fc, hfv⟩ := h.rd.slice
  subst hfv
  have ho1 := (Out.refl (fun k => k = q) w).set ⟨q, 0, none⟩ (.slice none 0 0) rfl
  have HC1 : Hid (RC w (w.setCell ⟨q, 0, none⟩ (.slice none 0 0)) q st rl (cr (st.fs.take 0) (kg ks)) (.slice none 0 0) sl) :=
    Lib.hid ⟨h.blk.set 0 (.slice none 0 0), World.ownsRow_nil _ _ _ _, fun g hg => (by cases hg), fun g hg => (by cases hg), ho1, h.blk.lt⟩
  clear h hk hkb ho1
  go_enter Try.func23, Try.ntmps23
  go_wp2_with fail
  have hC1 := HC1.out
  generalize w.setCell ⟨q, 0, none⟩ (.slice none 0 0) = w1 at hC1 ⊢
  clear HC1
  go_loopw [5] (fun i wr => ∃ (k : Nat) (la : Option Addr) (lc : Nat) (SL : By → Value), k ≤ st.fs.length ∧ i = .int .i64 (k : Int) ∧ RC w wr q st rl (cr (st.fs.take k) (kg ks)) (.slice la (cr (st.fs.take k) (kg ks)).length lc) SL) (fun i _ => st.fs.length - (intOf i).toNat)
  case atStart => exact ⟨0, none, 0, sl, Nat.zero_le _, rfl, hC1⟩
  case round =>
    clear hC1 c0 f0
    obtain ⟨k, la, lc, SL, hk, rfl, hC⟩ := hrel
    by_cases hkn : k < st.fs.length
    case neg =>
      have hk' : k = st.fs.length := by omega
      subst hk'
      rw [List.take_of_length_le (Nat.le_refl _)] at hC
      have c2 := hC.blk.cell 2 rfl
      have c4 := hC.blk.cell 4 rfl
      have f2 := hC.blk.frozen 2
      have f4 := hC.blk.frozen 4
      have ho2 := ((Out.refl (fun k => k = q) wr).set ⟨q, 2, none⟩ (.bool false) rfl).set ⟨q, 4, none⟩ (.bool false) rfl
      have HE : Hid (Out (fun k => k = q) w ((wr.setCell ⟨q, 2, none⟩ (.bool false)).setCell ⟨q, 4, none⟩ (.bool false)) ∧ ∃ sl' fv' rl', RA ((wr.setCell ⟨q, 2, none⟩ (.bool false)).setCell ⟨q, 4, none⟩ (.bool false)) q (crash st ks) sl' fv' rl' (fun k => K k ∨ w.heap.size ≤ k)) := Lib.hid (by
        have hq := hC.ql
        have hb : ∀ g, g ≠ q → ((wr.setCell ⟨q, 2, none⟩ (.bool false)).setCell ⟨q, 4, none⟩ (.bool false)).heap[g]? = wr.heap[g]? := fun g hg => (Below.heap_setCell _ _ _ _ hg).trans (Below.heap_setCell _ _ _ _ hg)
        have hz : ((wr.setCell ⟨q, 2, none⟩ (.bool false)).setCell ⟨q, 4, none⟩ (.bool false)).heap.size = wr.heap.size := by simp
        refine ⟨hC.out.trans ho2 (fun _ _ h => h), SL, _, rl, (hC.blk.set 2 (.bool false)).set 4 (.bool false), fun h => (by cases h), rd_keep (Rd.of_own hC.row) (fun g hg => hb g (by have := (hC.row.lt g hg).1; omega)), fun g hg => ?_, fun f hf => rd_keep (hC.bs f hf) (fun g hg => hb g (by have := (hC.bo f hf g hg).1; omega)), fun f hf g hg => ?_, .inl HP.out.kq, HP.out.fit.crash ks⟩
        · have := hC.row.lt g hg
          exact ⟨by omega, .inr this.1, by omega⟩
        · have := hC.bo f hf g hg
          exact ⟨by omega, .inr this.1, by omega⟩)
      clear ho2 hC
      go_wp2_with fail
      refine bodyPost_end (results_none rfl _ _ _) rfl ?_
      exact ⟨rfl, HE.out⟩
    case pos =>
    obtain ⟨f, hf⟩ : ∃ f, st.fs[k]? = some f := ⟨_, List.getElem?_eq_getElem hkn⟩
    obtain ⟨ga, gc, hgs⟩ := HSL.out f (List.mem_of_getElem? hf)
    have hfm := List.mem_of_getElem? hf
    have hff := HP.out.fit.file f hfm
    have hwr : ∀ g, g < w.heap.size → g ≠ q → wr.heap[g]? = w.heap[g]? := fun g h1 h2 => hC.out.block g h1 h2
    obtain ⟨b1, o1, cap1, e1, hcap1, hc1⟩ := (rd_keep HP.out.rd (fun g hg => hwr g (HP.out.kf g hg).1 (HP.out.kf g hg).2.2)).pos (by omega)
    cases e1
    obtain ⟨q1, q2, q3⟩ := fcells_at (sl := sl) hf
    replace q1 := hc1 _ _ q1
    replace q2 := hc1 _ _ q2
    replace q3 := hc1 _ _ q3
    simp only [← Nat.add_assoc] at q2 q3
    rw [hgs] at q2
    have g1 : (k : Int) < (st.fs.length : Int) := by omega
    have hv : Rd wr 1 (.slice ga f.b.length gc) f.b.length (Lib.byteCells f.b) := by rw [← hgs]; exact rd_keep (HP.out.row f hfm) (fun g hg => hwr g (HP.out.kr f hfm g hg).1 (HP.out.kr f hfm g hg).2.2)
    have hkk : Rd wr 1 (.slice ka ks.length kc) ks.length (ks.map fun j => Value.int .i64 j) := rd_keep0 HK.out.1 (fun h0 g hg => hwr g (HK.out.2 h0 g hg).1 (HK.out.2 h0 g hg).2)
    have hbl : f.b.length ≤ 268435456 := by
      have h1 := tot_take_succ hf
      have h2 := tot_take_le st.fs (k + 1)
      have h3 := HP.out.fit.tot
      have h4 := HP.out.fit.room
      omega
    obtain ⟨L, hL⟩ : ∃ L, L = f.b.length := ⟨_, rfl⟩
    obtain ⟨s0, hs0⟩ : ∃ s0, s0 = f.s := ⟨_, rfl⟩
    have hsL : s0 ≤ L := by rw [hs0, hL]; exact hff.2.1
    rw [← hL] at q2 hv hbl
    rw [← hs0] at q3
    have HF := Lib.hid (And.intro hf (And.intro hL (And.intro hs0 hff)))
    have hbA : Below wr.heap.size wr (wr.alloc (.cells #[.string ⟨f.n.toArray⟩, .slice ga L gc, .int .i64 (s0 : Int)] 68)) := (Below.refl _ _).alloc (Nat.le_refl _) _
    have hbk := Blk.new wr 68 [.string ⟨f.n.toArray⟩, .slice ga L gc, .int .i64 (s0 : Int)]
    have d0 := hbk.cell 0 rfl
    have d1 := hbk.cell 1 rfl
    have d2 := hbk.cell 2 rfl
    have HBX := Lib.hid (And.intro hbk hbA)
    have HCA := Lib.hid (hC.below hbA)
    have HRW := Lib.hid hC
    have HVA := Lib.hid (And.intro (hv.below hbA) (hkk.below hbA))
    clear hc1 hwr hff hgs hfm hL hs0 hv hkk hbA hbk hC hf
    obtain ⟨J, hJ⟩ : ∃ J, J = (kg ks k).toNat := ⟨_, rfl⟩
    obtain ⟨X, hX⟩ : ∃ X, X = min J (L - s0) := ⟨_, rfl⟩
    have hXJ : X ≤ J := by omega
    have hXL : s0 + X ≤ L := by omega
    have HJX := Lib.hid (And.intro hJ hX)
    have HKN : Hid (kn f (kg ks k) = s0 + X) := Lib.hid (by unfold kn; rw [hX, hJ, HF.out.2.2.1, HF.out.2.1])
    have HKJ : Hid (0 < J → k < ks.length) := Lib.hid (fun h => by
      rcases Nat.lt_or_ge k ks.length with h1 | h1
      · exact h1
      · rw [hJ] at h; unfold kg at h; rw [List.getD_eq_getElem?_getD, List.getElem?_eq_none h1] at h; simp at h)
    generalize hWA : wr.alloc (.cells #[.string ⟨f.n.toArray⟩, .slice ga L gc, .int .i64 (s0 : Int)] 68) = WA at *
    have HQW : Hid (w.heap.size ≤ wr.heap.size) := Lib.hid HRW.out.out.size
    have HLN : Hid (∀ r, (Value.slice la (cr (st.fs.take k) (kg ks)).length lc).ownBlock = some r → wr.heap.size ≠ r) := Lib.hid (fun r hr e => by have := (HRW.out.row.lt r hr).2; omega)
    clear hJ hX
    go_wp2_with fail
    clear hWA q1 q2 q3
    go_loop [7, 8] (fun n c => ∃ m : Nat, m ≤ X ∧ n = .int .i64 ((s0 + m : Nat) : Int) ∧ c = .int .i64 (m : Int)) (fun _ c => X - (intOf c).toNat)
    case atStart => exact ⟨0, Nat.zero_le _, rfl, rfl⟩
    case round =>
      obtain ⟨m, hm, rfl, rfl⟩ := hrel
      by_cases hmX : m < X
      case pos =>
        have hik := HKJ.out (by omega)
        obtain ⟨j, hj⟩ : ∃ j, ks[k]? = some j := ⟨_, List.getElem?_eq_getElem hik⟩
        have hkj : kg ks k = j := by unfold kg; rw [List.getD_eq_getElem?_getD, hj]; rfl
        obtain ⟨kb, ko, kcap, e2, hkcap, hkc⟩ := HVA.out.2.pos (by omega)
        cases e2
        have y1 := hkc k (.int .i64 j) (by rw [List.getElem?_map, hj]; rfl)
        have t1 : (k : Int) < (ks.length : Int) := by omega
        have t2 : (m : Int) < j := by have := HJX.out.1; rw [hkj] at this; omega
        have t3 : ((s0 + m : Nat) : Int) < (L : Int) := by omega
        clear hkc hj hkj
        go_wp2_with fail
        go_round
        case rel => exact ⟨m + 1, by omega, by go_num, by go_num⟩
        case measure => simp [intOf]; omega
      case neg =>
        have hmX' : m = X := by omega
        subst hmX'
        obtain ⟨n0, hn0⟩ : ∃ n0, n0 = s0 + m := ⟨_, rfl⟩
        rw [← hn0]
        have HN0 := Lib.hid hn0
        clear hn0
        by_cases hik : k < ks.length
        case neg =>
          have t1 : ¬ (k : Int) < (ks.length : Int) := by omega
          by_cases hN : n0 = 0
          case pos =>
            have HX : Hid (RC w WA q st rl (cr (st.fs.take (k + 1)) (kg ks)) (.slice la (cr (st.fs.take (k + 1)) (kg ks)).length lc) SL) := Lib.hid (by
              have e : cr (st.fs.take (k + 1)) (kg ks) = cr (st.fs.take k) (kg ks) := by
                rw [cr_take st.fs (kg ks) k f HF.out.1]
                unfold one
                rw [HKN.out, ← HN0.out, hN]
                simp
              rw [e]; exact HCA.out)
            have t6 : ¬ (0 : Int) < (n0 : Int) := by omega
            clear hN
            go_wp2_with fail
            go_roundw
            case rel => exact ⟨k + 1, la, lc, SL, by omega, by go_num, HX.out⟩
            case measure => simp [intOf]; omega
          case neg =>
            have t6 : (0 : Int) < (n0 : Int) := by omega
            rw [← HN0.out] at HKN
            have hnL : n0 ≤ L := by rw [HN0.out]; omega
            obtain ⟨A, hA⟩ : ∃ A, A = cr (st.fs.take k) (kg ks) := ⟨_, rfl⟩
            rw [← hA] at HCA HLN
            have hrc := HCA.out.below (Below.refl WA.heap.size WA).drew
            have hbx0 : Blk WA.drew wr.heap.size 68 [.string ⟨f.n.toArray⟩, .slice ga L gc, .int .i64 (s0 : Int)] := HBX.out.1.drew
            have hv0 : Rd WA.drew 1 (.slice ga L gc) L (Lib.byteCells f.b) := HVA.out.1.drewN 1
            generalize hW0 : WA.drew = W0 at hrc hbx0 hv0
            have HW0 := Lib.hid hW0
            clear hW0
            have hMc : n0 ≤ gc := rd_cap hv0 hnL
            have hcut := rd_cut hv0 hnL
            obtain ⟨i0, hi, hz0, hz1, hz2⟩ := info_parts u8_row
            obtain ⟨i1, hi1, hy0, hy1, hy2⟩ := info_parts file_row
            have hbE : Below W0.heap.size W0 (W0.alloc (.cells #[] 5)) := (Below.refl _ _).alloc (Nat.le_refl _) _
            obtain ⟨v5, w5, hrun, hown5, hgr, _⟩ := app_run (P := Try.prog) (W0.alloc (.cells #[] 5)) 33 33 5 W0.heap.size i0 (.int .u8 0) 1 1 Try.underlying33 hi hz0 hz1 hz2 rfl (by decide) (.slice (some ⟨W0.heap.size, 0, none⟩) 0 0) 0 [] (own_fresh W0 5 1) (.slice ga n0 gc) n0 ((Lib.byteCells f.b).take n0) (hcut.below hbE) (fun u hu => by
              have hu := List.mem_of_mem_take hu
              unfold Lib.byteCells at hu; obtain ⟨c, _, rfl⟩ := List.mem_map.1 hu; rfl) (by unfold maxLen; omega) (by omega) (by simp)
            have hLf : L = f.b.length := HF.out.2.1
            have hcc : [] ++ (Lib.byteCells f.b).take n0 = Lib.byteCells (f.b.take n0) := by rw [List.nil_append]; unfold Lib.byteCells; rw [List.map_take]
            have hll : 0 + n0 = (f.b.take n0).length := by rw [List.length_take]; omega
            have hll2 : (f.b.take n0).length = n0 := by omega
            rw [hcc, hll] at hown5
            have hb5 : Below W0.heap.size W0 w5 := below_app (Below.refl _ _) (Nat.le_refl _) hgr (fun k e => by cases e; exact Nat.le_refl _)
            obtain ⟨ea, ec, hee⟩ := (Rd.of_own hown5).slice
            subst hee
            have HRUN := Lib.hid hrun
            rw [hll2] at HRUN
            have hb6 : Below w5.heap.size w5 (w5.alloc (.cells #[.string ⟨f.n.toArray⟩, .slice ea (f.b.take n0).length ec, .int .i64 (n0 : Int)] 68)) := (Below.refl _ _).alloc (Nat.le_refl _) _
            have hrc6 := (hrc.below hb5).below hb6
            have hbk6 := Blk.new w5 68 [.string ⟨f.n.toArray⟩, .slice ea (f.b.take n0).length ec, .int .i64 (n0 : Int)]
            have hAl : A.length ≤ 268435456 := by
              rw [hA]
              have h1 := cr_len (st.fs.take k) (kg ks)
              rw [List.length_take] at h1
              omega
            have hrd6 : Rd (w5.alloc (.cells #[.string ⟨f.n.toArray⟩, .slice ea (f.b.take n0).length ec, .int .i64 (n0 : Int)] 68)) 3 (.slice (some ⟨w5.heap.size, 0, none⟩) 1 1) 1 [.string ⟨f.n.toArray⟩, .slice ea (f.b.take n0).length ec, .int .i64 (n0 : Int)] :=
              ⟨rfl, .inr ⟨w5.heap.size, 0, 1, rfl, Nat.le_refl _, fun j u hj => by rw [Nat.zero_add]; exact hbk6.cell j hj⟩⟩
            obtain ⟨v7, w7, hrun7, hown7, hgr7, hl7⟩ := app_run (P := Try.prog) (w5.alloc (.cells #[.string ⟨f.n.toArray⟩, .slice ea (f.b.take n0).length ec, .int .i64 (n0 : Int)] 68)) 29 29 68 w.heap.size i1 (.agg #[.string ⟨#[]⟩, .slice none 0 0, .int .i64 0]) 3 48 Try.underlying29 hi1 hy0 hy1 hy2 rfl (by decide) (.slice la A.length lc) A.length (fcells SL A) hrc6.row (.slice (some ⟨w5.heap.size, 0, none⟩) 1 1) 1 _ hrd6 (fun u hu => by
              simp only [List.mem_cons, List.not_mem_nil, or_false] at hu; rcases hu with rfl | rfl | rfl <;> rfl) (by unfold maxLen; omega) (by omega) hrc6.out.size
            obtain ⟨eb, ed, hef⟩ := (Rd.of_own hown7).slice
            subst hef
            have HRUN7 := Lib.hid hrun7
            rw [hll2] at HRUN7
            have hsnoc := RC.snoc (g := ⟨f.n, f.b.take n0, n0⟩) hrc (fun g hg => by
              rw [hA] at hg
              obtain ⟨f', hf', j, hj⟩ := mem_cr hg
              rw [(mem_one hj).1]
              have hlt := take_lt HP.out.fit.asc HF.out.1 f' hf'
              exact lt_ne hlt) hown5 hb5 (.cells #[.string ⟨f.n.toArray⟩, .slice ea (f.b.take n0).length ec, .int .i64 (n0 : Int)] 68) hown7 hgr7 hl7
            have hcr : A ++ [⟨f.n, f.b.take n0, n0⟩] = cr (st.fs.take (k + 1)) (kg ks) := by
              rw [cr_take st.fs (kg ks) k f HF.out.1, ← hA]
              unfold one
              rw [HKN.out]
              rw [if_neg (fun e => by have := congrArg List.length e; rw [hll2] at this; simp at this; omega)]
            have hlc : A.length + 1 = (cr (st.fs.take (k + 1)) (kg ks)).length := by rw [← hcr]; simp
            rw [hcr] at hsnoc
            have HSN : Hid (∃ SL', RC w (w7.setCell ⟨q, 0, none⟩ (.slice eb (A.length + 1) ed)) q st rl (cr (st.fs.take (k + 1)) (kg ks)) (.slice eb (cr (st.fs.take (k + 1)) (kg ks)).length ed) SL') := Lib.hid ⟨_, by rw [← hlc]; exact hsnoc⟩
            have hq7 : Blk w7 q 31 [.slice la A.length lc, .int .i64 (st.room : Int), .bool st.armed, .int .i64 rl, .bool st.down] := hrc6.blk.grown hgr7 (fun r hr e => by have := (hrc6.row.lt r hr).1; have := hrc6.ql; omega)
            have c7 := hq7.cell 0 rfl
            have z7 := hq7.frozen 0
            rw [hll2] at *
            have hE5 := hrc.below hbE
            have h55 := hrc.below hb5
            have hbx1 := hbx0.below hbE hbx0.lt
            have hbx5 := hbx0.below hb5 hbx0.lt
            have hbx6 := hbx5.below hb6 hbx5.lt
            have hbx7 : Blk w7 wr.heap.size 68 [.string ⟨f.n.toArray⟩, .slice ga L gc, .int .i64 (s0 : Int)] := hbx6.grown hgr7 (fun r hr e => HLN.out r hr e)
            have hbx8 : Blk (w7.setCell ⟨q, 0, none⟩ (.slice eb (A.length + 1) ed)) wr.heap.size 68 [.string ⟨f.n.toArray⟩, .slice ga L gc, .int .i64 (s0 : Int)] := (Below.heap_setCell _ _ _ _ (by have := HCA.out.ql; have := HQW.out; show wr.heap.size ≠ q; omega)).trans hbx7
            have HBOX : Hid (∀ (n : Nat) (w' : World), n ≤ 5 → (fun n w' => match n with | 0 => w' = W0 | 1 => w' = W0.alloc (.cells #[] 5) | 2 => w' = w5 | 3 => w' = w5.alloc (.cells #[.string ⟨f.n.toArray⟩, .slice ea n0 ec, .int .i64 (n0 : Int)] 68) | 4 => w' = w7 | _ => w' = w7.setCell ⟨q, 0, none⟩ (.slice eb (A.length + 1) ed)) n w' → w'.cell? ⟨wr.heap.size, 0, none⟩ = some (.string ⟨f.n.toArray⟩) ∧ w'.cell? ⟨wr.heap.size, 1, none⟩ = some (.slice ga L gc) ∧ w'.cell? ⟨wr.heap.size, 2, none⟩ = some (.int .i64 (s0 : Int))) := Lib.hid (fun n w' hn hw' => by
              have h3 : Blk w' wr.heap.size 68 [.string ⟨f.n.toArray⟩, .slice ga L gc, .int .i64 (s0 : Int)] := by
                match n, hw' with
                | 0, h => rw [show w' = _ from h]; exact hbx0
                | 1, h => rw [show w' = _ from h]; exact hbx1
                | 2, h => rw [show w' = _ from h]; exact hbx5
                | 3, h => rw [show w' = _ from h]; exact hbx6
                | 4, h => rw [show w' = _ from h]; exact hbx7
                | n + 5, h => rw [show w' = _ from h]; exact hbx8
              exact ⟨h3.cell 0 rfl, h3.cell 1 rfl, h3.cell 2 rfl⟩)
            have HFL : Hid (∀ (n : Nat) (w' : World), n ≤ 4 → (fun n w' => match n with | 0 => w' = W0 | 1 => w' = W0.alloc (.cells #[] 5) | 2 => w' = w5 | 3 => w' = w5.alloc (.cells #[.string ⟨f.n.toArray⟩, .slice ea n0 ec, .int .i64 (n0 : Int)] 68) | 4 => w' = w7 | _ => w' = w7.setCell ⟨q, 0, none⟩ (.slice eb (A.length + 1) ed)) n w' → w'.cell? ⟨q, 0, none⟩ = some (.slice la A.length lc)) := Lib.hid (fun n w' hn hw' => by
              match n, hn, hw' with
              | 0, _, h => rw [show w' = _ from h]; exact hrc.blk.cell 0 rfl
              | 1, _, h => rw [show w' = _ from h]; exact hE5.blk.cell 0 rfl
              | 2, _, h => rw [show w' = _ from h]; exact h55.blk.cell 0 rfl
              | 3, _, h => rw [show w' = _ from h]; exact hrc6.blk.cell 0 rfl
              | 4, _, h => rw [show w' = _ from h]; exact c7
              | n + 5, h, _ => omega)
            have HC7 := Lib.hid (And.intro c7 z7)
            clear hrc hbx0 hv0 hcut hi hz0 hz1 hz2 hi1 hy0 hy1 hy2 hbE hown5 hgr hLf hcc hll hll2 hb5 hb6 hrc6 hbk6 hAl hrd6 hrun7 hown7 hgr7 hl7 hsnoc hcr hlc hq7 c7 z7 hE5 h55 hbx1 hbx5 hbx6 hbx7 hbx8 hA hrun
            clear hN
            go_wp2_with fail
            refine wp_region_W [7, 12, 15, 16, 19] (fun n w' => match n with | 0 => w' = W0 | 1 => w' = W0.alloc (.cells #[] 5) | 2 => w' = w5 | 3 => w' = w5.alloc (.cells #[.string ⟨f.n.toArray⟩, .slice ea n0 ec, .int .i64 (n0 : Int)] 68) | 4 => w' = w7 | _ => w' = w7.setCell ⟨q, 0, none⟩ (.slice eb (A.length + 1) ed)) (by kernel_rfl) (by rfl) ?_ ?_
            · exact HW0.out
            refine wpW_take (i := 0) (oi := ?oi1) (v := ?v1) ?hi1 (by kernel_rfl) (by kernel_rfl) (by kernel_rfl) (by rfl) ?hy1 ?rest1
            case hi1 => (simp only [List.getElem?_toArray, List.getElem?_cons_succ, List.getElem?_cons_zero]; rfl)
            case hy1 => (refine Or.inl ⟨by rfl, ?_⟩; intro n W hn hSw; (obtain ⟨d0, d1, d2⟩ := HBOX.out n W hn hSw; clear hSw hn); go_simp; (try with_reducible rfl))
            try simp only [Act.put, List.setIfInBounds_toArray, List.set_cons_zero, List.set_cons_succ]
            refine wpW_take (i := 1) (oi := ?oi2) (v := ?v2) ?hi2 (by kernel_rfl) (by kernel_rfl) (by kernel_rfl) (by rfl) ?hy2 ?rest2
            case hi2 => (simp only [List.getElem?_toArray, List.getElem?_cons_succ, List.getElem?_cons_zero]; rfl)
            case hy2 => (refine Or.inl ⟨by rfl, ?_⟩; intro n W hn hSw; (obtain ⟨d0, d1, d2⟩ := HBOX.out n W hn hSw; clear hSw hn); go_simp; (try with_reducible rfl))
            try simp only [Act.put, List.setIfInBounds_toArray, List.set_cons_zero, List.set_cons_succ]
            refine wpW_take (i := 2) (oi := ?oi3) (v := ?v3) ?hi3 (by kernel_rfl) (by kernel_rfl) (by kernel_rfl) (by rfl) ?hy3 ?rest3
            case hi3 => (simp only [List.getElem?_toArray, List.getElem?_cons_succ, List.getElem?_cons_zero]; rfl)
            case hy3 => (refine Or.inl ⟨by rfl, ?_⟩; intro n W hn hSw; (obtain ⟨d0, d1, d2⟩ := HBOX.out n W hn hSw; clear hSw hn); go_simp; (try with_reducible rfl))
            try simp only [Act.put, List.setIfInBounds_toArray, List.set_cons_zero, List.set_cons_succ]
            refine wpW_take (i := 3) (oi := ?oi4) (v := ?v4) ?hi4 (by kernel_rfl) (by kernel_rfl) (by kernel_rfl) (by rfl) ?hy4 ?rest4
            case hi4 => (simp only [List.getElem?_toArray, List.getElem?_cons_succ, List.getElem?_cons_zero]; rfl)
            case hy4 => (refine Or.inl ⟨by rfl, ?_⟩; intro n W hn hSw; (obtain ⟨d0, d1, d2⟩ := HBOX.out n W hn hSw; clear hSw hn); go_simp; (try with_reducible rfl))
            try simp only [Act.put, List.setIfInBounds_toArray, List.set_cons_zero, List.set_cons_succ]
            refine wpW_takeB (i := 4) 4 19 (oi := ?oi5) (v := ?v5) ?hi5 (by rfl) (by kernel_rfl) (by rfl) (by kernel_rfl) (by kernel_rfl) (by kernel_rfl) (by rfl) ?hy5 ?rest5
            case hi5 => (simp only [List.getElem?_toArray, List.getElem?_cons_succ, List.getElem?_cons_zero]; rfl)
            case hy5 => (refine ⟨by rfl, ?_⟩; intro n W hn hSw; (have c4 := HFL.out n W hn hSw; clear hSw hn); go_simp; (try with_reducible rfl))
            try simp only [Act.put, List.setIfInBounds_toArray, List.set_cons_zero, List.set_cons_succ]
            refine wpW_take (i := 5) (oi := ?oi6) (v := ?v6) ?hi6 (by kernel_rfl) (by kernel_rfl) (by kernel_rfl) (by rfl) ?hy6 ?rest6
            case hi6 => (simp only [List.getElem?_toArray, List.getElem?_cons_succ, List.getElem?_cons_zero]; rfl)
            case hy6 => (refine Or.inl ⟨by rfl, ?_⟩; intro n W hn hSw; (obtain ⟨d0, d1, d2⟩ := HBOX.out n W hn hSw; clear hSw hn); go_simp; (try with_reducible rfl))
            try simp only [Act.put, List.setIfInBounds_toArray, List.set_cons_zero, List.set_cons_succ]
            refine wpW_take (i := 6) (oi := ?oi7) (v := ?v7) ?hi7 (by kernel_rfl) (by kernel_rfl) (by kernel_rfl) (by rfl) ?hy7 ?rest7
            case hi7 => (simp only [List.getElem?_toArray, List.getElem?_cons_succ, List.getElem?_cons_zero]; rfl)
            case hy7 => (refine Or.inl ⟨by rfl, ?_⟩; intro n W hn hSw; (obtain ⟨d0, d1, d2⟩ := HBOX.out n W hn hSw; clear hSw hn); go_simp; (try with_reducible rfl))
            try simp only [Act.put, List.setIfInBounds_toArray, List.set_cons_zero, List.set_cons_succ]
            refine wpW_turn 0 (k := 7) (oi := ?oi8) (v := .slice (some ⟨W0.heap.size, 0, none⟩) 0 0) (by rfl) ?hi8 (by rfl) (by rfl) (by kernel_rfl) (by kernel_rfl) (by kernel_rfl) (by kernel_rfl) ?hy8 ?rest8
            case hi8 => (simp only [List.getElem?_toArray, List.getElem?_cons_succ, List.getElem?_cons_zero]; rfl)
            case hy8 =>
              refine Or.inl (Or.inr (Or.inr (Or.inr ⟨by rfl, fun w' hw' => ⟨W0.alloc (.cells #[] 5), ?_, rfl⟩⟩)))
              rw [show w' = W0 from hw']
              go_simp
              (try rfl)
            try simp only [Act.put, List.setIfInBounds_toArray, List.set_cons_zero, List.set_cons_succ]
            refine wpW_take (i := 8) (oi := ?oi9) (v := ?v9) ?hi9 (by kernel_rfl) (by kernel_rfl) (by kernel_rfl) (by rfl) ?hy9 ?rest9
            case hi9 => (simp only [List.getElem?_toArray, List.getElem?_cons_succ, List.getElem?_cons_zero]; rfl)
            case hy9 => (refine Or.inl ⟨by rfl, ?_⟩; intro n W hn hSw; (obtain ⟨d0, d1, d2⟩ := HBOX.out n W hn hSw; clear hSw hn); go_simp; (try with_reducible rfl))
            try simp only [Act.put, List.setIfInBounds_toArray, List.set_cons_zero, List.set_cons_succ]
            refine wpW_take (i := 9) (oi := ?oi10) (v := ?v10) ?hi10 (by kernel_rfl) (by kernel_rfl) (by kernel_rfl) (by rfl) ?hy10 ?rest10
            case hi10 => (simp only [List.getElem?_toArray, List.getElem?_cons_succ, List.getElem?_cons_zero]; rfl)
            case hy10 => (refine Or.inl ⟨by rfl, ?_⟩; intro n W hn hSw; (obtain ⟨d0, d1, d2⟩ := HBOX.out n W hn hSw; clear hSw hn); go_simp; (try with_reducible rfl))
            try simp only [Act.put, List.setIfInBounds_toArray, List.set_cons_zero, List.set_cons_succ]
            refine wpW_take (i := 10) (oi := ?oi11) (v := ?v11) ?hi11 (by kernel_rfl) (by kernel_rfl) (by kernel_rfl) (by rfl) ?hy11 ?rest11
            case hi11 => (simp only [List.getElem?_toArray, List.getElem?_cons_succ, List.getElem?_cons_zero]; rfl)
            case hy11 => (refine Or.inl ⟨by rfl, ?_⟩; intro n W hn hSw; (obtain ⟨d0, d1, d2⟩ := HBOX.out n W hn hSw; clear hSw hn); go_simp; (try with_reducible rfl))
            try simp only [Act.put, List.setIfInBounds_toArray, List.set_cons_zero, List.set_cons_succ]
            refine wpW_take (i := 11) (oi := ?oi12) (v := ?v12) ?hi12 (by kernel_rfl) (by kernel_rfl) (by kernel_rfl) (by rfl) ?hy12 ?rest12
            case hi12 => (simp only [List.getElem?_toArray, List.getElem?_cons_succ, List.getElem?_cons_zero]; rfl)
            case hy12 => (refine Or.inl ⟨by rfl, ?_⟩; intro n W hn hSw; (obtain ⟨d0, d1, d2⟩ := HBOX.out n W hn hSw; clear hSw hn); go_simp; (try with_reducible rfl))
            try simp only [Act.put, List.setIfInBounds_toArray, List.set_cons_zero, List.set_cons_succ]
            refine wpW_turn 1 (k := 12) (oi := ?oi13) (v := .slice ea n0 ec) (by rfl) ?hi13 (by rfl) (by rfl) (by kernel_rfl) (by kernel_rfl) (by kernel_rfl) (by kernel_rfl) ?hy13 ?rest13
            case hi13 => (simp only [List.getElem?_toArray, List.getElem?_cons_succ, List.getElem?_cons_zero]; rfl)
            case hy13 =>
              exact Or.inl (Or.inr (Or.inr (Or.inr ⟨by rfl, fun w' hw' => ⟨w5, (by rw [show w' = _ from hw']; exact exec_append _ _ _ rfl rfl rfl HRUN.out), rfl⟩⟩)))
            try simp only [Act.put, List.setIfInBounds_toArray, List.set_cons_zero, List.set_cons_succ]
            refine wpW_take (i := 13) (oi := ?oi14) (v := ?v14) ?hi14 (by kernel_rfl) (by kernel_rfl) (by kernel_rfl) (by rfl) ?hy14 ?rest14
            case hi14 => (simp only [List.getElem?_toArray, List.getElem?_cons_succ, List.getElem?_cons_zero]; rfl)
            case hy14 => (refine Or.inl ⟨by rfl, ?_⟩; intro n W hn hSw; (obtain ⟨d0, d1, d2⟩ := HBOX.out n W hn hSw; clear hSw hn); go_simp; (try with_reducible rfl))
            try simp only [Act.put, List.setIfInBounds_toArray, List.set_cons_zero, List.set_cons_succ]
            refine wpW_take (i := 14) (oi := ?oi15) (v := ?v15) ?hi15 (by kernel_rfl) (by kernel_rfl) (by kernel_rfl) (by rfl) ?hy15 ?rest15
            case hi15 => (simp only [List.getElem?_toArray, List.getElem?_cons_succ, List.getElem?_cons_zero]; rfl)
            case hy15 => (refine Or.inl ⟨by rfl, ?_⟩; intro n W hn hSw; (obtain ⟨d0, d1, d2⟩ := HBOX.out n W hn hSw; clear hSw hn); go_simp; (try with_reducible rfl))
            try simp only [Act.put, List.setIfInBounds_toArray, List.set_cons_zero, List.set_cons_succ]
            refine wpW_turn 2 (k := 15) (oi := ?oi16) (v := .slice (some ⟨w5.heap.size, 0, none⟩) 1 1) (by rfl) ?hi16 (by rfl) (by rfl) (by kernel_rfl) (by kernel_rfl) (by kernel_rfl) (by kernel_rfl) ?hy16 ?rest16
            case hi16 => (simp only [List.getElem?_toArray, List.getElem?_cons_succ, List.getElem?_cons_zero]; rfl)
            case hy16 =>
              refine Or.inl (Or.inr (Or.inr (Or.inr ⟨by rfl, fun w' hw' => ⟨w5.alloc (.cells #[.string ⟨f.n.toArray⟩, .slice ea n0 ec, .int .i64 (n0 : Int)] 68), ?_, rfl⟩⟩)))
              rw [show w' = w5 from hw']
              go_simp
              (try rfl)
            try simp only [Act.put, List.setIfInBounds_toArray, List.set_cons_zero, List.set_cons_succ]
            refine wpW_turn 3 (k := 16) (oi := ?oi17) (v := .slice eb (A.length + 1) ed) (by rfl) ?hi17 (by rfl) (by rfl) (by kernel_rfl) (by kernel_rfl) (by kernel_rfl) (by kernel_rfl) ?hy17 ?rest17
            case hi17 => (simp only [List.getElem?_toArray, List.getElem?_cons_succ, List.getElem?_cons_zero]; rfl)
            case hy17 =>
              exact Or.inl (Or.inr (Or.inr (Or.inr ⟨by rfl, fun w' hw' => ⟨w7, (by rw [show w' = _ from hw']; exact exec_append _ _ _ rfl rfl rfl HRUN7.out), rfl⟩⟩)))
            try simp only [Act.put, List.setIfInBounds_toArray, List.set_cons_zero, List.set_cons_succ]
            refine wpW_take (i := 17) (oi := ?oi18) (v := ?v18) ?hi18 (by kernel_rfl) (by kernel_rfl) (by kernel_rfl) (by rfl) ?hy18 ?rest18
            case hi18 => (simp only [List.getElem?_toArray, List.getElem?_cons_succ, List.getElem?_cons_zero]; rfl)
            case hy18 => (refine Or.inl ⟨by rfl, ?_⟩; intro n W hn hSw; (obtain ⟨d0, d1, d2⟩ := HBOX.out n W hn hSw; clear hSw hn); go_simp; (try with_reducible rfl))
            try simp only [Act.put, List.setIfInBounds_toArray, List.set_cons_zero, List.set_cons_succ]
            refine wpW_take (i := 18) (oi := ?oi19) (v := ?v19) ?hi19 (by kernel_rfl) (by kernel_rfl) (by kernel_rfl) (by rfl) ?hy19 ?rest19
            case hi19 => (simp only [List.getElem?_toArray, List.getElem?_cons_succ, List.getElem?_cons_zero]; rfl)
            case hy19 => (refine Or.inl ⟨by rfl, ?_⟩; intro n W hn hSw; (obtain ⟨d0, d1, d2⟩ := HBOX.out n W hn hSw; clear hSw hn); go_simp; (try with_reducible rfl))
            try simp only [Act.put, List.setIfInBounds_toArray, List.set_cons_zero, List.set_cons_succ]
            refine wpW_turn 4 (k := 19) (oi := ?oi20) (v := undef) (by rfl) ?hi20 (by rfl) (by rfl) (by kernel_rfl) (by kernel_rfl) (by kernel_rfl) (by kernel_rfl) ?hy20 ?rest20
            case hi20 => (simp only [List.getElem?_toArray, List.getElem?_cons_succ, List.getElem?_cons_zero]; rfl)
            case hy20 =>
              refine Or.inr ⟨by rfl, rfl, fun w' hw' => ⟨w7.setCell ⟨q, 0, none⟩ (.slice eb (A.length + 1) ed), ?_, rfl⟩⟩
              rw [show w' = w7 from hw']
              have c7 := HC7.out.1
              have z7 := HC7.out.2
              go_simp
              (try rfl)
            try simp only [Act.put, List.setIfInBounds_toArray, List.set_cons_zero, List.set_cons_succ]
            refine wpW_done (by kernel_rfl) (by rfl) ?_ _
            intro W hSw
            have HX : Hid (∃ SL', RC w W q st rl (cr (st.fs.take (k + 1)) (kg ks)) (.slice eb (cr (st.fs.take (k + 1)) (kg ks)).length ed) SL') := Lib.hid (by rw [show W = _ from hSw]; exact HSN.out)
            clear hSw HBOX HFL HC7 HRUN HRUN7 HSN
            obtain ⟨SL', hx⟩ := HX.out
            have HX2 := Lib.hid hx
            clear hx HX
            go_wp2_with fail
            go_roundw
            case rel => exact ⟨k + 1, eb, ed, SL', by omega, by go_num, HX2.out⟩
            case measure => simp [intOf]; omega
        case pos =>
          obtain ⟨j, hj⟩ : ∃ j, ks[k]? = some j := ⟨_, List.getElem?_eq_getElem hik⟩
          have hkj : kg ks k = j := by unfold kg; rw [List.getD_eq_getElem?_getD, hj]; rfl
          obtain ⟨kb, ko, kcap, e2, hkcap, hkc⟩ := HVA.out.2.pos (by omega)
          cases e2
          have y1 := hkc k (.int .i64 j) (by rw [List.getElem?_map, hj]; rfl)
          have t1 : (k : Int) < (ks.length : Int) := by omega
          have hx := HJX.out
          rw [hkj] at hx
          clear hkc hj hkj
          by_cases hmj : (m : Int) < j
          case neg =>
            clear hx
            by_cases hN : n0 = 0
            case pos =>
              have HX : Hid (RC w WA q st rl (cr (st.fs.take (k + 1)) (kg ks)) (.slice la (cr (st.fs.take (k + 1)) (kg ks)).length lc) SL) := Lib.hid (by
                have e : cr (st.fs.take (k + 1)) (kg ks) = cr (st.fs.take k) (kg ks) := by
                  rw [cr_take st.fs (kg ks) k f HF.out.1]
                  unfold one
                  rw [HKN.out, ← HN0.out, hN]
                  simp
                rw [e]; exact HCA.out)
              have t6 : ¬ (0 : Int) < (n0 : Int) := by omega
              clear hN
              go_wp2_with fail
              go_roundw
              case rel => exact ⟨k + 1, la, lc, SL, by omega, by go_num, HX.out⟩
              case measure => simp [intOf]; omega
            case neg =>
              have t6 : (0 : Int) < (n0 : Int) := by omega
              rw [← HN0.out] at HKN
              have hnL : n0 ≤ L := by rw [HN0.out]; omega
              obtain ⟨A, hA⟩ : ∃ A, A = cr (st.fs.take k) (kg ks) := ⟨_, rfl⟩
              rw [← hA] at HCA HLN
              have hrc := HCA.out.below (Below.refl WA.heap.size WA).drew
              have hbx0 : Blk WA.drew wr.heap.size 68 [.string ⟨f.n.toArray⟩, .slice ga L gc, .int .i64 (s0 : Int)] := HBX.out.1.drew
              have hv0 : Rd WA.drew 1 (.slice ga L gc) L (Lib.byteCells f.b) := HVA.out.1.drewN 1
              generalize hW0 : WA.drew = W0 at hrc hbx0 hv0
              have HW0 := Lib.hid hW0
              clear hW0
              have hMc : n0 ≤ gc := rd_cap hv0 hnL
              have hcut := rd_cut hv0 hnL
              obtain ⟨i0, hi, hz0, hz1, hz2⟩ := info_parts u8_row
              obtain ⟨i1, hi1, hy0, hy1, hy2⟩ := info_parts file_row
              have hbE : Below W0.heap.size W0 (W0.alloc (.cells #[] 5)) := (Below.refl _ _).alloc (Nat.le_refl _) _
              obtain ⟨v5, w5, hrun, hown5, hgr, _⟩ := app_run (P := Try.prog) (W0.alloc (.cells #[] 5)) 33 33 5 W0.heap.size i0 (.int .u8 0) 1 1 Try.underlying33 hi hz0 hz1 hz2 rfl (by decide) (.slice (some ⟨W0.heap.size, 0, none⟩) 0 0) 0 [] (own_fresh W0 5 1) (.slice ga n0 gc) n0 ((Lib.byteCells f.b).take n0) (hcut.below hbE) (fun u hu => by
                have hu := List.mem_of_mem_take hu
                unfold Lib.byteCells at hu; obtain ⟨c, _, rfl⟩ := List.mem_map.1 hu; rfl) (by unfold maxLen; omega) (by omega) (by simp)
              have hLf : L = f.b.length := HF.out.2.1
              have hcc : [] ++ (Lib.byteCells f.b).take n0 = Lib.byteCells (f.b.take n0) := by rw [List.nil_append]; unfold Lib.byteCells; rw [List.map_take]
              have hll : 0 + n0 = (f.b.take n0).length := by rw [List.length_take]; omega
              have hll2 : (f.b.take n0).length = n0 := by omega
              rw [hcc, hll] at hown5
              have hb5 : Below W0.heap.size W0 w5 := below_app (Below.refl _ _) (Nat.le_refl _) hgr (fun k e => by cases e; exact Nat.le_refl _)
              obtain ⟨ea, ec, hee⟩ := (Rd.of_own hown5).slice
              subst hee
              have HRUN := Lib.hid hrun
              rw [hll2] at HRUN
              have hb6 : Below w5.heap.size w5 (w5.alloc (.cells #[.string ⟨f.n.toArray⟩, .slice ea (f.b.take n0).length ec, .int .i64 (n0 : Int)] 68)) := (Below.refl _ _).alloc (Nat.le_refl _) _
              have hrc6 := (hrc.below hb5).below hb6
              have hbk6 := Blk.new w5 68 [.string ⟨f.n.toArray⟩, .slice ea (f.b.take n0).length ec, .int .i64 (n0 : Int)]
              have hAl : A.length ≤ 268435456 := by
                rw [hA]
                have h1 := cr_len (st.fs.take k) (kg ks)
                rw [List.length_take] at h1
                omega
              have hrd6 : Rd (w5.alloc (.cells #[.string ⟨f.n.toArray⟩, .slice ea (f.b.take n0).length ec, .int .i64 (n0 : Int)] 68)) 3 (.slice (some ⟨w5.heap.size, 0, none⟩) 1 1) 1 [.string ⟨f.n.toArray⟩, .slice ea (f.b.take n0).length ec, .int .i64 (n0 : Int)] :=
                ⟨rfl, .inr ⟨w5.heap.size, 0, 1, rfl, Nat.le_refl _, fun j u hj => by rw [Nat.zero_add]; exact hbk6.cell j hj⟩⟩
              obtain ⟨v7, w7, hrun7, hown7, hgr7, hl7⟩ := app_run (P := Try.prog) (w5.alloc (.cells #[.string ⟨f.n.toArray⟩, .slice ea (f.b.take n0).length ec, .int .i64 (n0 : Int)] 68)) 29 29 68 w.heap.size i1 (.agg #[.string ⟨#[]⟩, .slice none 0 0, .int .i64 0]) 3 48 Try.underlying29 hi1 hy0 hy1 hy2 rfl (by decide) (.slice la A.length lc) A.length (fcells SL A) hrc6.row (.slice (some ⟨w5.heap.size, 0, none⟩) 1 1) 1 _ hrd6 (fun u hu => by
                simp only [List.mem_cons, List.not_mem_nil, or_false] at hu; rcases hu with rfl | rfl | rfl <;> rfl) (by unfold maxLen; omega) (by omega) hrc6.out.size
              obtain ⟨eb, ed, hef⟩ := (Rd.of_own hown7).slice
              subst hef
              have HRUN7 := Lib.hid hrun7
              rw [hll2] at HRUN7
              have hsnoc := RC.snoc (g := ⟨f.n, f.b.take n0, n0⟩) hrc (fun g hg => by
                rw [hA] at hg
                obtain ⟨f', hf', j, hj⟩ := mem_cr hg
                rw [(mem_one hj).1]
                have hlt := take_lt HP.out.fit.asc HF.out.1 f' hf'
                exact lt_ne hlt) hown5 hb5 (.cells #[.string ⟨f.n.toArray⟩, .slice ea (f.b.take n0).length ec, .int .i64 (n0 : Int)] 68) hown7 hgr7 hl7
              have hcr : A ++ [⟨f.n, f.b.take n0, n0⟩] = cr (st.fs.take (k + 1)) (kg ks) := by
                rw [cr_take st.fs (kg ks) k f HF.out.1, ← hA]
                unfold one
                rw [HKN.out]
                rw [if_neg (fun e => by have := congrArg List.length e; rw [hll2] at this; simp at this; omega)]
              have hlc : A.length + 1 = (cr (st.fs.take (k + 1)) (kg ks)).length := by rw [← hcr]; simp
              rw [hcr] at hsnoc
              have HSN : Hid (∃ SL', RC w (w7.setCell ⟨q, 0, none⟩ (.slice eb (A.length + 1) ed)) q st rl (cr (st.fs.take (k + 1)) (kg ks)) (.slice eb (cr (st.fs.take (k + 1)) (kg ks)).length ed) SL') := Lib.hid ⟨_, by rw [← hlc]; exact hsnoc⟩
              have hq7 : Blk w7 q 31 [.slice la A.length lc, .int .i64 (st.room : Int), .bool st.armed, .int .i64 rl, .bool st.down] := hrc6.blk.grown hgr7 (fun r hr e => by have := (hrc6.row.lt r hr).1; have := hrc6.ql; omega)
              have c7 := hq7.cell 0 rfl
              have z7 := hq7.frozen 0
              rw [hll2] at *
              have hE5 := hrc.below hbE
              have h55 := hrc.below hb5
              have hbx1 := hbx0.below hbE hbx0.lt
              have hbx5 := hbx0.below hb5 hbx0.lt
              have hbx6 := hbx5.below hb6 hbx5.lt
              have hbx7 : Blk w7 wr.heap.size 68 [.string ⟨f.n.toArray⟩, .slice ga L gc, .int .i64 (s0 : Int)] := hbx6.grown hgr7 (fun r hr e => HLN.out r hr e)
              have hbx8 : Blk (w7.setCell ⟨q, 0, none⟩ (.slice eb (A.length + 1) ed)) wr.heap.size 68 [.string ⟨f.n.toArray⟩, .slice ga L gc, .int .i64 (s0 : Int)] := (Below.heap_setCell _ _ _ _ (by have := HCA.out.ql; have := HQW.out; show wr.heap.size ≠ q; omega)).trans hbx7
              have HBOX : Hid (∀ (n : Nat) (w' : World), n ≤ 5 → (fun n w' => match n with | 0 => w' = W0 | 1 => w' = W0.alloc (.cells #[] 5) | 2 => w' = w5 | 3 => w' = w5.alloc (.cells #[.string ⟨f.n.toArray⟩, .slice ea n0 ec, .int .i64 (n0 : Int)] 68) | 4 => w' = w7 | _ => w' = w7.setCell ⟨q, 0, none⟩ (.slice eb (A.length + 1) ed)) n w' → w'.cell? ⟨wr.heap.size, 0, none⟩ = some (.string ⟨f.n.toArray⟩) ∧ w'.cell? ⟨wr.heap.size, 1, none⟩ = some (.slice ga L gc) ∧ w'.cell? ⟨wr.heap.size, 2, none⟩ = some (.int .i64 (s0 : Int))) := Lib.hid (fun n w' hn hw' => by
                have h3 : Blk w' wr.heap.size 68 [.string ⟨f.n.toArray⟩, .slice ga L gc, .int .i64 (s0 : Int)] := by
                  match n, hw' with
                  | 0, h => rw [show w' = _ from h]; exact hbx0
                  | 1, h => rw [show w' = _ from h]; exact hbx1
                  | 2, h => rw [show w' = _ from h]; exact hbx5
                  | 3, h => rw [show w' = _ from h]; exact hbx6
                  | 4, h => rw [show w' = _ from h]; exact hbx7
                  | n + 5, h => rw [show w' = _ from h]; exact hbx8
                exact ⟨h3.cell 0 rfl, h3.cell 1 rfl, h3.cell 2 rfl⟩)
              have HFL : Hid (∀ (n : Nat) (w' : World), n ≤ 4 → (fun n w' => match n with | 0 => w' = W0 | 1 => w' = W0.alloc (.cells #[] 5) | 2 => w' = w5 | 3 => w' = w5.alloc (.cells #[.string ⟨f.n.toArray⟩, .slice ea n0 ec, .int .i64 (n0 : Int)] 68) | 4 => w' = w7 | _ => w' = w7.setCell ⟨q, 0, none⟩ (.slice eb (A.length + 1) ed)) n w' → w'.cell? ⟨q, 0, none⟩ = some (.slice la A.length lc)) := Lib.hid (fun n w' hn hw' => by
                match n, hn, hw' with
                | 0, _, h => rw [show w' = _ from h]; exact hrc.blk.cell 0 rfl
                | 1, _, h => rw [show w' = _ from h]; exact hE5.blk.cell 0 rfl
                | 2, _, h => rw [show w' = _ from h]; exact h55.blk.cell 0 rfl
                | 3, _, h => rw [show w' = _ from h]; exact hrc6.blk.cell 0 rfl
                | 4, _, h => rw [show w' = _ from h]; exact c7
                | n + 5, h, _ => omega)
              have HC7 := Lib.hid (And.intro c7 z7)
              clear hrc hbx0 hv0 hcut hi hz0 hz1 hz2 hi1 hy0 hy1 hy2 hbE hown5 hgr hLf hcc hll hll2 hb5 hb6 hrc6 hbk6 hAl hrd6 hrun7 hown7 hgr7 hl7 hsnoc hcr hlc hq7 c7 z7 hE5 h55 hbx1 hbx5 hbx6 hbx7 hbx8 hA hrun
              clear hN
              go_wp2_with fail
              refine wp_region_W [7, 12, 15, 16, 19] (fun n w' => match n with | 0 => w' = W0 | 1 => w' = W0.alloc (.cells #[] 5) | 2 => w' = w5 | 3 => w' = w5.alloc (.cells #[.string ⟨f.n.toArray⟩, .slice ea n0 ec, .int .i64 (n0 : Int)] 68) | 4 => w' = w7 | _ => w' = w7.setCell ⟨q, 0, none⟩ (.slice eb (A.length + 1) ed)) (by kernel_rfl) (by rfl) ?_ ?_
              · exact HW0.out
              refine wpW_take (i := 0) (oi := ?oi21) (v := ?v21) ?hi21 (by kernel_rfl) (by kernel_rfl) (by kernel_rfl) (by rfl) ?hy21 ?rest21
              case hi21 => (simp only [List.getElem?_toArray, List.getElem?_cons_succ, List.getElem?_cons_zero]; rfl)
              case hy21 => (refine Or.inl ⟨by rfl, ?_⟩; intro n W hn hSw; (obtain ⟨d0, d1, d2⟩ := HBOX.out n W hn hSw; clear hSw hn); go_simp; (try with_reducible rfl))
              try simp only [Act.put, List.setIfInBounds_toArray, List.set_cons_zero, List.set_cons_succ]
              refine wpW_take (i := 1) (oi := ?oi22) (v := ?v22) ?hi22 (by kernel_rfl) (by kernel_rfl) (by kernel_rfl) (by rfl) ?hy22 ?rest22
              case hi22 => (simp only [List.getElem?_toArray, List.getElem?_cons_succ, List.getElem?_cons_zero]; rfl)
              case hy22 => (refine Or.inl ⟨by rfl, ?_⟩; intro n W hn hSw; (obtain ⟨d0, d1, d2⟩ := HBOX.out n W hn hSw; clear hSw hn); go_simp; (try with_reducible rfl))
              try simp only [Act.put, List.setIfInBounds_toArray, List.set_cons_zero, List.set_cons_succ]
              refine wpW_take (i := 2) (oi := ?oi23) (v := ?v23) ?hi23 (by kernel_rfl) (by kernel_rfl) (by kernel_rfl) (by rfl) ?hy23 ?rest23
              case hi23 => (simp only [List.getElem?_toArray, List.getElem?_cons_succ, List.getElem?_cons_zero]; rfl)
              case hy23 => (refine Or.inl ⟨by rfl, ?_⟩; intro n W hn hSw; (obtain ⟨d0, d1, d2⟩ := HBOX.out n W hn hSw; clear hSw hn); go_simp; (try with_reducible rfl))
              try simp only [Act.put, List.setIfInBounds_toArray, List.set_cons_zero, List.set_cons_succ]
              refine wpW_take (i := 3) (oi := ?oi24) (v := ?v24) ?hi24 (by kernel_rfl) (by kernel_rfl) (by kernel_rfl) (by rfl) ?hy24 ?rest24
              case hi24 => (simp only [List.getElem?_toArray, List.getElem?_cons_succ, List.getElem?_cons_zero]; rfl)
              case hy24 => (refine Or.inl ⟨by rfl, ?_⟩; intro n W hn hSw; (obtain ⟨d0, d1, d2⟩ := HBOX.out n W hn hSw; clear hSw hn); go_simp; (try with_reducible rfl))
              try simp only [Act.put, List.setIfInBounds_toArray, List.set_cons_zero, List.set_cons_succ]
              refine wpW_takeB (i := 4) 4 19 (oi := ?oi25) (v := ?v25) ?hi25 (by rfl) (by kernel_rfl) (by rfl) (by kernel_rfl) (by kernel_rfl) (by kernel_rfl) (by rfl) ?hy25 ?rest25
              case hi25 => (simp only [List.getElem?_toArray, List.getElem?_cons_succ, List.getElem?_cons_zero]; rfl)
              case hy25 => (refine ⟨by rfl, ?_⟩; intro n W hn hSw; (have c4 := HFL.out n W hn hSw; clear hSw hn); go_simp; (try with_reducible rfl))
              try simp only [Act.put, List.setIfInBounds_toArray, List.set_cons_zero, List.set_cons_succ]
              refine wpW_take (i := 5) (oi := ?oi26) (v := ?v26) ?hi26 (by kernel_rfl) (by kernel_rfl) (by kernel_rfl) (by rfl) ?hy26 ?rest26
              case hi26 => (simp only [List.getElem?_toArray, List.getElem?_cons_succ, List.getElem?_cons_zero]; rfl)
              case hy26 => (refine Or.inl ⟨by rfl, ?_⟩; intro n W hn hSw; (obtain ⟨d0, d1, d2⟩ := HBOX.out n W hn hSw; clear hSw hn); go_simp; (try with_reducible rfl))
              try simp only [Act.put, List.setIfInBounds_toArray, List.set_cons_zero, List.set_cons_succ]
              refine wpW_take (i := 6) (oi := ?oi27) (v := ?v27) ?hi27 (by kernel_rfl) (by kernel_rfl) (by kernel_rfl) (by rfl) ?hy27 ?rest27
              case hi27 => (simp only [List.getElem?_toArray, List.getElem?_cons_succ, List.getElem?_cons_zero]; rfl)
              case hy27 => (refine Or.inl ⟨by rfl, ?_⟩; intro n W hn hSw; (obtain ⟨d0, d1, d2⟩ := HBOX.out n W hn hSw; clear hSw hn); go_simp; (try with_reducible rfl))
              try simp only [Act.put, List.setIfInBounds_toArray, List.set_cons_zero, List.set_cons_succ]
              refine wpW_turn 0 (k := 7) (oi := ?oi28) (v := .slice (some ⟨W0.heap.size, 0, none⟩) 0 0) (by rfl) ?hi28 (by rfl) (by rfl) (by kernel_rfl) (by kernel_rfl) (by kernel_rfl) (by kernel_rfl) ?hy28 ?rest28
              case hi28 => (simp only [List.getElem?_toArray, List.getElem?_cons_succ, List.getElem?_cons_zero]; rfl)
              case hy28 =>
                refine Or.inl (Or.inr (Or.inr (Or.inr ⟨by rfl, fun w' hw' => ⟨W0.alloc (.cells #[] 5), ?_, rfl⟩⟩)))
                rw [show w' = W0 from hw']
                go_simp
                (try rfl)
              try simp only [Act.put, List.setIfInBounds_toArray, List.set_cons_zero, List.set_cons_succ]
              refine wpW_take (i := 8) (oi := ?oi29) (v := ?v29) ?hi29 (by kernel_rfl) (by kernel_rfl) (by kernel_rfl) (by rfl) ?hy29 ?rest29
              case hi29 => (simp only [List.getElem?_toArray, List.getElem?_cons_succ, List.getElem?_cons_zero]; rfl)
              case hy29 => (refine Or.inl ⟨by rfl, ?_⟩; intro n W hn hSw; (obtain ⟨d0, d1, d2⟩ := HBOX.out n W hn hSw; clear hSw hn); go_simp; (try with_reducible rfl))
              try simp only [Act.put, List.setIfInBounds_toArray, List.set_cons_zero, List.set_cons_succ]
              refine wpW_take (i := 9) (oi := ?oi30) (v := ?v30) ?hi30 (by kernel_rfl) (by kernel_rfl) (by kernel_rfl) (by rfl) ?hy30 ?rest30
              case hi30 => (simp only [List.getElem?_toArray, List.getElem?_cons_succ, List.getElem?_cons_zero]; rfl)
              case hy30 => (refine Or.inl ⟨by rfl, ?_⟩; intro n W hn hSw; (obtain ⟨d0, d1, d2⟩ := HBOX.out n W hn hSw; clear hSw hn); go_simp; (try with_reducible rfl))
              try simp only [Act.put, List.setIfInBounds_toArray, List.set_cons_zero, List.set_cons_succ]
              refine wpW_take (i := 10) (oi := ?oi31) (v := ?v31) ?hi31 (by kernel_rfl) (by kernel_rfl) (by kernel_rfl) (by rfl) ?hy31 ?rest31
              case hi31 => (simp only [List.getElem?_toArray, List.getElem?_cons_succ, List.getElem?_cons_zero]; rfl)
              case hy31 => (refine Or.inl ⟨by rfl, ?_⟩; intro n W hn hSw; (obtain ⟨d0, d1, d2⟩ := HBOX.out n W hn hSw; clear hSw hn); go_simp; (try with_reducible rfl))
              try simp only [Act.put, List.setIfInBounds_toArray, List.set_cons_zero, List.set_cons_succ]
              refine wpW_take (i := 11) (oi := ?oi32) (v := ?v32) ?hi32 (by kernel_rfl) (by kernel_rfl) (by kernel_rfl) (by rfl) ?hy32 ?rest32
              case hi32 => (simp only [List.getElem?_toArray, List.getElem?_cons_succ, List.getElem?_cons_zero]; rfl)
              case hy32 => (refine Or.inl ⟨by rfl, ?_⟩; intro n W hn hSw; (obtain ⟨d0, d1, d2⟩ := HBOX.out n W hn hSw; clear hSw hn); go_simp; (try with_reducible rfl))
              try simp only [Act.put, List.setIfInBounds_toArray, List.set_cons_zero, List.set_cons_succ]
              refine wpW_turn 1 (k := 12) (oi := ?oi33) (v := .slice ea n0 ec) (by rfl) ?hi33 (by rfl) (by rfl) (by kernel_rfl) (by kernel_rfl) (by kernel_rfl) (by kernel_rfl) ?hy33 ?rest33
              case hi33 => (simp only [List.getElem?_toArray, List.getElem?_cons_succ, List.getElem?_cons_zero]; rfl)
              case hy33 =>
                exact Or.inl (Or.inr (Or.inr (Or.inr ⟨by rfl, fun w' hw' => ⟨w5, (by rw [show w' = _ from hw']; exact exec_append _ _ _ rfl rfl rfl HRUN.out), rfl⟩⟩)))
              try simp only [Act.put, List.setIfInBounds_toArray, List.set_cons_zero, List.set_cons_succ]
              refine wpW_take (i := 13) (oi := ?oi34) (v := ?v34) ?hi34 (by kernel_rfl) (by kernel_rfl) (by kernel_rfl) (by rfl) ?hy34 ?rest34
              case hi34 => (simp only [List.getElem?_toArray, List.getElem?_cons_succ, List.getElem?_cons_zero]; rfl)
              case hy34 => (refine Or.inl ⟨by rfl, ?_⟩; intro n W hn hSw; (obtain ⟨d0, d1, d2⟩ := HBOX.out n W hn hSw; clear hSw hn); go_simp; (try with_reducible rfl))
              try simp only [Act.put, List.setIfInBounds_toArray, List.set_cons_zero, List.set_cons_succ]
              refine wpW_take (i := 14) (oi := ?oi35) (v := ?v35) ?hi35 (by kernel_rfl) (by kernel_rfl) (by kernel_rfl) (by rfl) ?hy35 ?rest35
              case hi35 => (simp only [List.getElem?_toArray, List.getElem?_cons_succ, List.getElem?_cons_zero]; rfl)
              case hy35 => (refine Or.inl ⟨by rfl, ?_⟩; intro n W hn hSw; (obtain ⟨d0, d1, d2⟩ := HBOX.out n W hn hSw; clear hSw hn); go_simp; (try with_reducible rfl))
              try simp only [Act.put, List.setIfInBounds_toArray, List.set_cons_zero, List.set_cons_succ]
              refine wpW_turn 2 (k := 15) (oi := ?oi36) (v := .slice (some ⟨w5.heap.size, 0, none⟩) 1 1) (by rfl) ?hi36 (by rfl) (by rfl) (by kernel_rfl) (by kernel_rfl) (by kernel_rfl) (by kernel_rfl) ?hy36 ?rest36
              case hi36 => (simp only [List.getElem?_toArray, List.getElem?_cons_succ, List.getElem?_cons_zero]; rfl)
              case hy36 =>
                refine Or.inl (Or.inr (Or.inr (Or.inr ⟨by rfl, fun w' hw' => ⟨w5.alloc (.cells #[.string ⟨f.n.toArray⟩, .slice ea n0 ec, .int .i64 (n0 : Int)] 68), ?_, rfl⟩⟩)))
                rw [show w' = w5 from hw']
                go_simp
                (try rfl)
              try simp only [Act.put, List.setIfInBounds_toArray, List.set_cons_zero, List.set_cons_succ]
              refine wpW_turn 3 (k := 16) (oi := ?oi37) (v := .slice eb (A.length + 1) ed) (by rfl) ?hi37 (by rfl) (by rfl) (by kernel_rfl) (by kernel_rfl) (by kernel_rfl) (by kernel_rfl) ?hy37 ?rest37
              case hi37 => (simp only [List.getElem?_toArray, List.getElem?_cons_succ, List.getElem?_cons_zero]; rfl)
              case hy37 =>
                exact Or.inl (Or.inr (Or.inr (Or.inr ⟨by rfl, fun w' hw' => ⟨w7, (by rw [show w' = _ from hw']; exact exec_append _ _ _ rfl rfl rfl HRUN7.out), rfl⟩⟩)))
              try simp only [Act.put, List.setIfInBounds_toArray, List.set_cons_zero, List.set_cons_succ]
              refine wpW_take (i := 17) (oi := ?oi38) (v := ?v38) ?hi38 (by kernel_rfl) (by kernel_rfl) (by kernel_rfl) (by rfl) ?hy38 ?rest38
              case hi38 => (simp only [List.getElem?_toArray, List.getElem?_cons_succ, List.getElem?_cons_zero]; rfl)
              case hy38 => (refine Or.inl ⟨by rfl, ?_⟩; intro n W hn hSw; (obtain ⟨d0, d1, d2⟩ := HBOX.out n W hn hSw; clear hSw hn); go_simp; (try with_reducible rfl))
              try simp only [Act.put, List.setIfInBounds_toArray, List.set_cons_zero, List.set_cons_succ]
              refine wpW_take (i := 18) (oi := ?oi39) (v := ?v39) ?hi39 (by kernel_rfl) (by kernel_rfl) (by kernel_rfl) (by rfl) ?hy39 ?rest39
              case hi39 => (simp only [List.getElem?_toArray, List.getElem?_cons_succ, List.getElem?_cons_zero]; rfl)
              case hy39 => (refine Or.inl ⟨by rfl, ?_⟩; intro n W hn hSw; (obtain ⟨d0, d1, d2⟩ := HBOX.out n W hn hSw; clear hSw hn); go_simp; (try with_reducible rfl))
              try simp only [Act.put, List.setIfInBounds_toArray, List.set_cons_zero, List.set_cons_succ]
              refine wpW_turn 4 (k := 19) (oi := ?oi40) (v := undef) (by rfl) ?hi40 (by rfl) (by rfl) (by kernel_rfl) (by kernel_rfl) (by kernel_rfl) (by kernel_rfl) ?hy40 ?rest40
              case hi40 => (simp only [List.getElem?_toArray, List.getElem?_cons_succ, List.getElem?_cons_zero]; rfl)
              case hy40 =>
                refine Or.inr ⟨by rfl, rfl, fun w' hw' => ⟨w7.setCell ⟨q, 0, none⟩ (.slice eb (A.length + 1) ed), ?_, rfl⟩⟩
                rw [show w' = w7 from hw']
                have c7 := HC7.out.1
                have z7 := HC7.out.2
                go_simp
                (try rfl)
              try simp only [Act.put, List.setIfInBounds_toArray, List.set_cons_zero, List.set_cons_succ]
              refine wpW_done (by kernel_rfl) (by rfl) ?_ _
              intro W hSw
              have HX : Hid (∃ SL', RC w W q st rl (cr (st.fs.take (k + 1)) (kg ks)) (.slice eb (cr (st.fs.take (k + 1)) (kg ks)).length ed) SL') := Lib.hid (by rw [show W = _ from hSw]; exact HSN.out)
              clear hSw HBOX HFL HC7 HRUN HRUN7 HSN
              obtain ⟨SL', hx⟩ := HX.out
              have HX2 := Lib.hid hx
              clear hx HX
              go_wp2_with fail
              go_roundw
              case rel => exact ⟨k + 1, eb, ed, SL', by omega, by go_num, HX2.out⟩
              case measure => simp [intOf]; omega
          case pos =>
            have t3 : ¬ (n0 : Int) < (L : Int) := by rw [HN0.out]; omega
            clear hx
            by_cases hN : n0 = 0
            case pos =>
              have HX : Hid (RC w WA q st rl (cr (st.fs.take (k + 1)) (kg ks)) (.slice la (cr (st.fs.take (k + 1)) (kg ks)).length lc) SL) := Lib.hid (by
                have e : cr (st.fs.take (k + 1)) (kg ks) = cr (st.fs.take k) (kg ks) := by
                  rw [cr_take st.fs (kg ks) k f HF.out.1]
                  unfold one
                  rw [HKN.out, ← HN0.out, hN]
                  simp
                rw [e]; exact HCA.out)
              have t6 : ¬ (0 : Int) < (n0 : Int) := by omega
              clear hN
              go_wp2_with fail
              go_roundw
              case rel => exact ⟨k + 1, la, lc, SL, by omega, by go_num, HX.out⟩
              case measure => simp [intOf]; omega
            case neg =>
              have t6 : (0 : Int) < (n0 : Int) := by omega
              rw [← HN0.out] at HKN
              have hnL : n0 ≤ L := by rw [HN0.out]; omega
              obtain ⟨A, hA⟩ : ∃ A, A = cr (st.fs.take k) (kg ks) := ⟨_, rfl⟩
              rw [← hA] at HCA HLN
              have hrc := HCA.out.below (Below.refl WA.heap.size WA).drew
              have hbx0 : Blk WA.drew wr.heap.size 68 [.string ⟨f.n.toArray⟩, .slice ga L gc, .int .i64 (s0 : Int)] := HBX.out.1.drew
              have hv0 : Rd WA.drew 1 (.slice ga L gc) L (Lib.byteCells f.b) := HVA.out.1.drewN 1
              generalize hW0 : WA.drew = W0 at hrc hbx0 hv0
              have HW0 := Lib.hid hW0
              clear hW0
              have hMc : n0 ≤ gc := rd_cap hv0 hnL
              have hcut := rd_cut hv0 hnL
              obtain ⟨i0, hi, hz0, hz1, hz2⟩ := info_parts u8_row
              obtain ⟨i1, hi1, hy0, hy1, hy2⟩ := info_parts file_row
              have hbE : Below W0.heap.size W0 (W0.alloc (.cells #[] 5)) := (Below.refl _ _).alloc (Nat.le_refl _) _
              obtain ⟨v5, w5, hrun, hown5, hgr, _⟩ := app_run (P := Try.prog) (W0.alloc (.cells #[] 5)) 33 33 5 W0.heap.size i0 (.int .u8 0) 1 1 Try.underlying33 hi hz0 hz1 hz2 rfl (by decide) (.slice (some ⟨W0.heap.size, 0, none⟩) 0 0) 0 [] (own_fresh W0 5 1) (.slice ga n0 gc) n0 ((Lib.byteCells f.b).take n0) (hcut.below hbE) (fun u hu => by
                have hu := List.mem_of_mem_take hu
                unfold Lib.byteCells at hu; obtain ⟨c, _, rfl⟩ := List.mem_map.1 hu; rfl) (by unfold maxLen; omega) (by omega) (by simp)
              have hLf : L = f.b.length := HF.out.2.1
              have hcc : [] ++ (Lib.byteCells f.b).take n0 = Lib.byteCells (f.b.take n0) := by rw [List.nil_append]; unfold Lib.byteCells; rw [List.map_take]
              have hll : 0 + n0 = (f.b.take n0).length := by rw [List.length_take]; omega
              have hll2 : (f.b.take n0).length = n0 := by omega
              rw [hcc, hll] at hown5
              have hb5 : Below W0.heap.size W0 w5 := below_app (Below.refl _ _) (Nat.le_refl _) hgr (fun k e => by cases e; exact Nat.le_refl _)
              obtain ⟨ea, ec, hee⟩ := (Rd.of_own hown5).slice
              subst hee
              have HRUN := Lib.hid hrun
              rw [hll2] at HRUN
              have hb6 : Below w5.heap.size w5 (w5.alloc (.cells #[.string ⟨f.n.toArray⟩, .slice ea (f.b.take n0).length ec, .int .i64 (n0 : Int)] 68)) := (Below.refl _ _).alloc (Nat.le_refl _) _
              have hrc6 := (hrc.below hb5).below hb6
              have hbk6 := Blk.new w5 68 [.string ⟨f.n.toArray⟩, .slice ea (f.b.take n0).length ec, .int .i64 (n0 : Int)]
              have hAl : A.length ≤ 268435456 := by
                rw [hA]
                have h1 := cr_len (st.fs.take k) (kg ks)
                rw [List.length_take] at h1
                omega
              have hrd6 : Rd (w5.alloc (.cells #[.string ⟨f.n.toArray⟩, .slice ea (f.b.take n0).length ec, .int .i64 (n0 : Int)] 68)) 3 (.slice (some ⟨w5.heap.size, 0, none⟩) 1 1) 1 [.string ⟨f.n.toArray⟩, .slice ea (f.b.take n0).length ec, .int .i64 (n0 : Int)] :=
                ⟨rfl, .inr ⟨w5.heap.size, 0, 1, rfl, Nat.le_refl _, fun j u hj => by rw [Nat.zero_add]; exact hbk6.cell j hj⟩⟩
              obtain ⟨v7, w7, hrun7, hown7, hgr7, hl7⟩ := app_run (P := Try.prog) (w5.alloc (.cells #[.string ⟨f.n.toArray⟩, .slice ea (f.b.take n0).length ec, .int .i64 (n0 : Int)] 68)) 29 29 68 w.heap.size i1 (.agg #[.string ⟨#[]⟩, .slice none 0 0, .int .i64 0]) 3 48 Try.underlying29 hi1 hy0 hy1 hy2 rfl (by decide) (.slice la A.length lc) A.length (fcells SL A) hrc6.row (.slice (some ⟨w5.heap.size, 0, none⟩) 1 1) 1 _ hrd6 (fun u hu => by
                simp only [List.mem_cons, List.not_mem_nil, or_false] at hu; rcases hu with rfl | rfl | rfl <;> rfl) (by unfold maxLen; omega) (by omega) hrc6.out.size
              obtain ⟨eb, ed, hef⟩ := (Rd.of_own hown7).slice
              subst hef
              have HRUN7 := Lib.hid hrun7
              rw [hll2] at HRUN7
              have hsnoc := RC.snoc (g := ⟨f.n, f.b.take n0, n0⟩) hrc (fun g hg => by
                rw [hA] at hg
                obtain ⟨f', hf', j, hj⟩ := mem_cr hg
                rw [(mem_one hj).1]
                have hlt := take_lt HP.out.fit.asc HF.out.1 f' hf'
                exact lt_ne hlt) hown5 hb5 (.cells #[.string ⟨f.n.toArray⟩, .slice ea (f.b.take n0).length ec, .int .i64 (n0 : Int)] 68) hown7 hgr7 hl7
              have hcr : A ++ [⟨f.n, f.b.take n0, n0⟩] = cr (st.fs.take (k + 1)) (kg ks) := by
                rw [cr_take st.fs (kg ks) k f HF.out.1, ← hA]
                unfold one
                rw [HKN.out]
                rw [if_neg (fun e => by have := congrArg List.length e; rw [hll2] at this; simp at this; omega)]
              have hlc : A.length + 1 = (cr (st.fs.take (k + 1)) (kg ks)).length := by rw [← hcr]; simp
              rw [hcr] at hsnoc
              have HSN : Hid (∃ SL', RC w (w7.setCell ⟨q, 0, none⟩ (.slice eb (A.length + 1) ed)) q st rl (cr (st.fs.take (k + 1)) (kg ks)) (.slice eb (cr (st.fs.take (k + 1)) (kg ks)).length ed) SL') := Lib.hid ⟨_, by rw [← hlc]; exact hsnoc⟩
              have hq7 : Blk w7 q 31 [.slice la A.length lc, .int .i64 (st.room : Int), .bool st.armed, .int .i64 rl, .bool st.down] := hrc6.blk.grown hgr7 (fun r hr e => by have := (hrc6.row.lt r hr).1; have := hrc6.ql; omega)
              have c7 := hq7.cell 0 rfl
              have z7 := hq7.frozen 0
              rw [hll2] at *
              have hE5 := hrc.below hbE
              have h55 := hrc.below hb5
              have hbx1 := hbx0.below hbE hbx0.lt
              have hbx5 := hbx0.below hb5 hbx0.lt
              have hbx6 := hbx5.below hb6 hbx5.lt
              have hbx7 : Blk w7 wr.heap.size 68 [.string ⟨f.n.toArray⟩, .slice ga L gc, .int .i64 (s0 : Int)] := hbx6.grown hgr7 (fun r hr e => HLN.out r hr e)
              have hbx8 : Blk (w7.setCell ⟨q, 0, none⟩ (.slice eb (A.length + 1) ed)) wr.heap.size 68 [.string ⟨f.n.toArray⟩, .slice ga L gc, .int .i64 (s0 : Int)] := (Below.heap_setCell _ _ _ _ (by have := HCA.out.ql; have := HQW.out; show wr.heap.size ≠ q; omega)).trans hbx7
              have HBOX : Hid (∀ (n : Nat) (w' : World), n ≤ 5 → (fun n w' => match n with | 0 => w' = W0 | 1 => w' = W0.alloc (.cells #[] 5) | 2 => w' = w5 | 3 => w' = w5.alloc (.cells #[.string ⟨f.n.toArray⟩, .slice ea n0 ec, .int .i64 (n0 : Int)] 68) | 4 => w' = w7 | _ => w' = w7.setCell ⟨q, 0, none⟩ (.slice eb (A.length + 1) ed)) n w' → w'.cell? ⟨wr.heap.size, 0, none⟩ = some (.string ⟨f.n.toArray⟩) ∧ w'.cell? ⟨wr.heap.size, 1, none⟩ = some (.slice ga L gc) ∧ w'.cell? ⟨wr.heap.size, 2, none⟩ = some (.int .i64 (s0 : Int))) := Lib.hid (fun n w' hn hw' => by
                have h3 : Blk w' wr.heap.size 68 [.string ⟨f.n.toArray⟩, .slice ga L gc, .int .i64 (s0 : Int)] := by
                  match n, hw' with
                  | 0, h => rw [show w' = _ from h]; exact hbx0
                  | 1, h => rw [show w' = _ from h]; exact hbx1
                  | 2, h => rw [show w' = _ from h]; exact hbx5
                  | 3, h => rw [show w' = _ from h]; exact hbx6
                  | 4, h => rw [show w' = _ from h]; exact hbx7
                  | n + 5, h => rw [show w' = _ from h]; exact hbx8
                exact ⟨h3.cell 0 rfl, h3.cell 1 rfl, h3.cell 2 rfl⟩)
              have HFL : Hid (∀ (n : Nat) (w' : World), n ≤ 4 → (fun n w' => match n with | 0 => w' = W0 | 1 => w' = W0.alloc (.cells #[] 5) | 2 => w' = w5 | 3 => w' = w5.alloc (.cells #[.string ⟨f.n.toArray⟩, .slice ea n0 ec, .int .i64 (n0 : Int)] 68) | 4 => w' = w7 | _ => w' = w7.setCell ⟨q, 0, none⟩ (.slice eb (A.length + 1) ed)) n w' → w'.cell? ⟨q, 0, none⟩ = some (.slice la A.length lc)) := Lib.hid (fun n w' hn hw' => by
                match n, hn, hw' with
                | 0, _, h => rw [show w' = _ from h]; exact hrc.blk.cell 0 rfl
                | 1, _, h => rw [show w' = _ from h]; exact hE5.blk.cell 0 rfl
                | 2, _, h => rw [show w' = _ from h]; exact h55.blk.cell 0 rfl
                | 3, _, h => rw [show w' = _ from h]; exact hrc6.blk.cell 0 rfl
                | 4, _, h => rw [show w' = _ from h]; exact c7
                | n + 5, h, _ => omega)
              have HC7 := Lib.hid (And.intro c7 z7)
              clear hrc hbx0 hv0 hcut hi hz0 hz1 hz2 hi1 hy0 hy1 hy2 hbE hown5 hgr hLf hcc hll hll2 hb5 hb6 hrc6 hbk6 hAl hrd6 hrun7 hown7 hgr7 hl7 hsnoc hcr hlc hq7 c7 z7 hE5 h55 hbx1 hbx5 hbx6 hbx7 hbx8 hA hrun
              clear hN
              go_wp2_with fail
              refine wp_region_W [7, 12, 15, 16, 19] (fun n w' => match n with | 0 => w' = W0 | 1 => w' = W0.alloc (.cells #[] 5) | 2 => w' = w5 | 3 => w' = w5.alloc (.cells #[.string ⟨f.n.toArray⟩, .slice ea n0 ec, .int .i64 (n0 : Int)] 68) | 4 => w' = w7 | _ => w' = w7.setCell ⟨q, 0, none⟩ (.slice eb (A.length + 1) ed)) (by kernel_rfl) (by rfl) ?_ ?_
              · exact HW0.out
              refine wpW_take (i := 0) (oi := ?oi41) (v := ?v41) ?hi41 (by kernel_rfl) (by kernel_rfl) (by kernel_rfl) (by rfl) ?hy41 ?rest41
              case hi41 => (simp only [List.getElem?_toArray, List.getElem?_cons_succ, List.getElem?_cons_zero]; rfl)
              case hy41 => (refine Or.inl ⟨by rfl, ?_⟩; intro n W hn hSw; (obtain ⟨d0, d1, d2⟩ := HBOX.out n W hn hSw; clear hSw hn); go_simp; (try with_reducible rfl))
              try simp only [Act.put, List.setIfInBounds_toArray, List.set_cons_zero, List.set_cons_succ]
              refine wpW_take (i := 1) (oi := ?oi42) (v := ?v42) ?hi42 (by kernel_rfl) (by kernel_rfl) (by kernel_rfl) (by rfl) ?hy42 ?rest42
              case hi42 => (simp only [List.getElem?_toArray, List.getElem?_cons_succ, List.getElem?_cons_zero]; rfl)
              case hy42 => (refine Or.inl ⟨by rfl, ?_⟩; intro n W hn hSw; (obtain ⟨d0, d1, d2⟩ := HBOX.out n W hn hSw; clear hSw hn); go_simp; (try with_reducible rfl))
              try simp only [Act.put, List.setIfInBounds_toArray, List.set_cons_zero, List.set_cons_succ]
              refine wpW_take (i := 2) (oi := ?oi43) (v := ?v43) ?hi43 (by kernel_rfl) (by kernel_rfl) (by kernel_rfl) (by rfl) ?hy43 ?rest43
              case hi43 => (simp only [List.getElem?_toArray, List.getElem?_cons_succ, List.getElem?_cons_zero]; rfl)
              case hy43 => (refine Or.inl ⟨by rfl, ?_⟩; intro n W hn hSw; (obtain ⟨d0, d1, d2⟩ := HBOX.out n W hn hSw; clear hSw hn); go_simp; (try with_reducible rfl))
              try simp only [Act.put, List.setIfInBounds_toArray, List.set_cons_zero, List.set_cons_succ]
              refine wpW_take (i := 3) (oi := ?oi44) (v := ?v44) ?hi44 (by kernel_rfl) (by kernel_rfl) (by kernel_rfl) (by rfl) ?hy44 ?rest44
              case hi44 => (simp only [List.getElem?_toArray, List.getElem?_cons_succ, List.getElem?_cons_zero]; rfl)
              case hy44 => (refine Or.inl ⟨by rfl, ?_⟩; intro n W hn hSw; (obtain ⟨d0, d1, d2⟩ := HBOX.out n W hn hSw; clear hSw hn); go_simp; (try with_reducible rfl))
              try simp only [Act.put, List.setIfInBounds_toArray, List.set_cons_zero, List.set_cons_succ]
              refine wpW_takeB (i := 4) 4 19 (oi := ?oi45) (v := ?v45) ?hi45 (by rfl) (by kernel_rfl) (by rfl) (by kernel_rfl) (by kernel_rfl) (by kernel_rfl) (by rfl) ?hy45 ?rest45
              case hi45 => (simp only [List.getElem?_toArray, List.getElem?_cons_succ, List.getElem?_cons_zero]; rfl)
              case hy45 => (refine ⟨by rfl, ?_⟩; intro n W hn hSw; (have c4 := HFL.out n W hn hSw; clear hSw hn); go_simp; (try with_reducible rfl))
              try simp only [Act.put, List.setIfInBounds_toArray, List.set_cons_zero, List.set_cons_succ]
              refine wpW_take (i := 5) (oi := ?oi46) (v := ?v46) ?hi46 (by kernel_rfl) (by kernel_rfl) (by kernel_rfl) (by rfl) ?hy46 ?rest46
              case hi46 => (simp only [List.getElem?_toArray, List.getElem?_cons_succ, List.getElem?_cons_zero]; rfl)
              case hy46 => (refine Or.inl ⟨by rfl, ?_⟩; intro n W hn hSw; (obtain ⟨d0, d1, d2⟩ := HBOX.out n W hn hSw; clear hSw hn); go_simp; (try with_reducible rfl))
              try simp only [Act.put, List.setIfInBounds_toArray, List.set_cons_zero, List.set_cons_succ]
              refine wpW_take (i := 6) (oi := ?oi47) (v := ?v47) ?hi47 (by kernel_rfl) (by kernel_rfl) (by kernel_rfl) (by rfl) ?hy47 ?rest47
              case hi47 => (simp only [List.getElem?_toArray, List.getElem?_cons_succ, List.getElem?_cons_zero]; rfl)
              case hy47 => (refine Or.inl ⟨by rfl, ?_⟩; intro n W hn hSw; (obtain ⟨d0, d1, d2⟩ := HBOX.out n W hn hSw; clear hSw hn); go_simp; (try with_reducible rfl))
              try simp only [Act.put, List.setIfInBounds_toArray, List.set_cons_zero, List.set_cons_succ]
              refine wpW_turn 0 (k := 7) (oi := ?oi48) (v := .slice (some ⟨W0.heap.size, 0, none⟩) 0 0) (by rfl) ?hi48 (by rfl) (by rfl) (by kernel_rfl) (by kernel_rfl) (by kernel_rfl) (by kernel_rfl) ?hy48 ?rest48
              case hi48 => (simp only [List.getElem?_toArray, List.getElem?_cons_succ, List.getElem?_cons_zero]; rfl)
              case hy48 =>
                refine Or.inl (Or.inr (Or.inr (Or.inr ⟨by rfl, fun w' hw' => ⟨W0.alloc (.cells #[] 5), ?_, rfl⟩⟩)))
                rw [show w' = W0 from hw']
                go_simp
                (try rfl)
              try simp only [Act.put, List.setIfInBounds_toArray, List.set_cons_zero, List.set_cons_succ]
              refine wpW_take (i := 8) (oi := ?oi49) (v := ?v49) ?hi49 (by kernel_rfl) (by kernel_rfl) (by kernel_rfl) (by rfl) ?hy49 ?rest49
              case hi49 => (simp only [List.getElem?_toArray, List.getElem?_cons_succ, List.getElem?_cons_zero]; rfl)
              case hy49 => (refine Or.inl ⟨by rfl, ?_⟩; intro n W hn hSw; (obtain ⟨d0, d1, d2⟩ := HBOX.out n W hn hSw; clear hSw hn); go_simp; (try with_reducible rfl))
              try simp only [Act.put, List.setIfInBounds_toArray, List.set_cons_zero, List.set_cons_succ]
              refine wpW_take (i := 9) (oi := ?oi50) (v := ?v50) ?hi50 (by kernel_rfl) (by kernel_rfl) (by kernel_rfl) (by rfl) ?hy50 ?rest50
              case hi50 => (simp only [List.getElem?_toArray, List.getElem?_cons_succ, List.getElem?_cons_zero]; rfl)
              case hy50 => (refine Or.inl ⟨by rfl, ?_⟩; intro n W hn hSw; (obtain ⟨d0, d1, d2⟩ := HBOX.out n W hn hSw; clear hSw hn); go_simp; (try with_reducible rfl))
              try simp only [Act.put, List.setIfInBounds_toArray, List.set_cons_zero, List.set_cons_succ]
              refine wpW_take (i := 10) (oi := ?oi51) (v := ?v51) ?hi51 (by kernel_rfl) (by kernel_rfl) (by kernel_rfl) (by rfl) ?hy51 ?rest51
              case hi51 => (simp only [List.getElem?_toArray, List.getElem?_cons_succ, List.getElem?_cons_zero]; rfl)
              case hy51 => (refine Or.inl ⟨by rfl, ?_⟩; intro n W hn hSw; (obtain ⟨d0, d1, d2⟩ := HBOX.out n W hn hSw; clear hSw hn); go_simp; (try with_reducible rfl))
              try simp only [Act.put, List.setIfInBounds_toArray, List.set_cons_zero, List.set_cons_succ]
              refine wpW_take (i := 11) (oi := ?oi52) (v := ?v52) ?hi52 (by kernel_rfl) (by kernel_rfl) (by kernel_rfl) (by rfl) ?hy52 ?rest52
              case hi52 => (simp only [List.getElem?_toArray, List.getElem?_cons_succ, List.getElem?_cons_zero]; rfl)
              case hy52 => (refine Or.inl ⟨by rfl, ?_⟩; intro n W hn hSw; (obtain ⟨d0, d1, d2⟩ := HBOX.out n W hn hSw; clear hSw hn); go_simp; (try with_reducible rfl))
              try simp only [Act.put, List.setIfInBounds_toArray, List.set_cons_zero, List.set_cons_succ]
              refine wpW_turn 1 (k := 12) (oi := ?oi53) (v := .slice ea n0 ec) (by rfl) ?hi53 (by rfl) (by rfl) (by kernel_rfl) (by kernel_rfl) (by kernel_rfl) (by kernel_rfl) ?hy53 ?rest53
              case hi53 => (simp only [List.getElem?_toArray, List.getElem?_cons_succ, List.getElem?_cons_zero]; rfl)
              case hy53 =>
                exact Or.inl (Or.inr (Or.inr (Or.inr ⟨by rfl, fun w' hw' => ⟨w5, (by rw [show w' = _ from hw']; exact exec_append _ _ _ rfl rfl rfl HRUN.out), rfl⟩⟩)))
              try simp only [Act.put, List.setIfInBounds_toArray, List.set_cons_zero, List.set_cons_succ]
              refine wpW_take (i := 13) (oi := ?oi54) (v := ?v54) ?hi54 (by kernel_rfl) (by kernel_rfl) (by kernel_rfl) (by rfl) ?hy54 ?rest54
              case hi54 => (simp only [List.getElem?_toArray, List.getElem?_cons_succ, List.getElem?_cons_zero]; rfl)
              case hy54 => (refine Or.inl ⟨by rfl, ?_⟩; intro n W hn hSw; (obtain ⟨d0, d1, d2⟩ := HBOX.out n W hn hSw; clear hSw hn); go_simp; (try with_reducible rfl))
              try simp only [Act.put, List.setIfInBounds_toArray, List.set_cons_zero, List.set_cons_succ]
              refine wpW_take (i := 14) (oi := ?oi55) (v := ?v55) ?hi55 (by kernel_rfl) (by kernel_rfl) (by kernel_rfl) (by rfl) ?hy55 ?rest55
              case hi55 => (simp only [List.getElem?_toArray, List.getElem?_cons_succ, List.getElem?_cons_zero]; rfl)
              case hy55 => (refine Or.inl ⟨by rfl, ?_⟩; intro n W hn hSw; (obtain ⟨d0, d1, d2⟩ := HBOX.out n W hn hSw; clear hSw hn); go_simp; (try with_reducible rfl))
              try simp only [Act.put, List.setIfInBounds_toArray, List.set_cons_zero, List.set_cons_succ]
              refine wpW_turn 2 (k := 15) (oi := ?oi56) (v := .slice (some ⟨w5.heap.size, 0, none⟩) 1 1) (by rfl) ?hi56 (by rfl) (by rfl) (by kernel_rfl) (by kernel_rfl) (by kernel_rfl) (by kernel_rfl) ?hy56 ?rest56
              case hi56 => (simp only [List.getElem?_toArray, List.getElem?_cons_succ, List.getElem?_cons_zero]; rfl)
              case hy56 =>
                refine Or.inl (Or.inr (Or.inr (Or.inr ⟨by rfl, fun w' hw' => ⟨w5.alloc (.cells #[.string ⟨f.n.toArray⟩, .slice ea n0 ec, .int .i64 (n0 : Int)] 68), ?_, rfl⟩⟩)))
                rw [show w' = w5 from hw']
                go_simp
                (try rfl)
              try simp only [Act.put, List.setIfInBounds_toArray, List.set_cons_zero, List.set_cons_succ]
              refine wpW_turn 3 (k := 16) (oi := ?oi57) (v := .slice eb (A.length + 1) ed) (by rfl) ?hi57 (by rfl) (by rfl) (by kernel_rfl) (by kernel_rfl) (by kernel_rfl) (by kernel_rfl) ?hy57 ?rest57
              case hi57 => (simp only [List.getElem?_toArray, List.getElem?_cons_succ, List.getElem?_cons_zero]; rfl)
              case hy57 =>
                exact Or.inl (Or.inr (Or.inr (Or.inr ⟨by rfl, fun w' hw' => ⟨w7, (by rw [show w' = _ from hw']; exact exec_append _ _ _ rfl rfl rfl HRUN7.out), rfl⟩⟩)))
              try simp only [Act.put, List.setIfInBounds_toArray, List.set_cons_zero, List.set_cons_succ]
              refine wpW_take (i := 17) (oi := ?oi58) (v := ?v58) ?hi58 (by kernel_rfl) (by kernel_rfl) (by kernel_rfl) (by rfl) ?hy58 ?rest58
              case hi58 => (simp only [List.getElem?_toArray, List.getElem?_cons_succ, List.getElem?_cons_zero]; rfl)
              case hy58 => (refine Or.inl ⟨by rfl, ?_⟩; intro n W hn hSw; (obtain ⟨d0, d1, d2⟩ := HBOX.out n W hn hSw; clear hSw hn); go_simp; (try with_reducible rfl))
              try simp only [Act.put, List.setIfInBounds_toArray, List.set_cons_zero, List.set_cons_succ]
              refine wpW_take (i := 18) (oi := ?oi59) (v := ?v59) ?hi59 (by kernel_rfl) (by kernel_rfl) (by kernel_rfl) (by rfl) ?hy59 ?rest59
              case hi59 => (simp only [List.getElem?_toArray, List.getElem?_cons_succ, List.getElem?_cons_zero]; rfl)
              case hy59 => (refine Or.inl ⟨by rfl, ?_⟩; intro n W hn hSw; (obtain ⟨d0, d1, d2⟩ := HBOX.out n W hn hSw; clear hSw hn); go_simp; (try with_reducible rfl))
              try simp only [Act.put, List.setIfInBounds_toArray, List.set_cons_zero, List.set_cons_succ]
              refine wpW_turn 4 (k := 19) (oi := ?oi60) (v := undef) (by rfl) ?hi60 (by rfl) (by rfl) (by kernel_rfl) (by kernel_rfl) (by kernel_rfl) (by kernel_rfl) ?hy60 ?rest60
              case hi60 => (simp only [List.getElem?_toArray, List.getElem?_cons_succ, List.getElem?_cons_zero]; rfl)
              case hy60 =>
                refine Or.inr ⟨by rfl, rfl, fun w' hw' => ⟨w7.setCell ⟨q, 0, none⟩ (.slice eb (A.length + 1) ed), ?_, rfl⟩⟩
                rw [show w' = w7 from hw']
                have c7 := HC7.out.1
                have z7 := HC7.out.2
                go_simp
                (try rfl)
              try simp only [Act.put, List.setIfInBounds_toArray, List.set_cons_zero, List.set_cons_succ]
              refine wpW_done (by kernel_rfl) (by rfl) ?_ _
              intro W hSw
              have HX : Hid (∃ SL', RC w W q st rl (cr (st.fs.take (k + 1)) (kg ks)) (.slice eb (cr (st.fs.take (k + 1)) (kg ks)).length ed) SL') := Lib.hid (by rw [show W = _ from hSw]; exact HSN.out)
              clear hSw HBOX HFL HC7 HRUN HRUN7 HSN
              obtain ⟨SL', hx⟩ := HX.out
              have HX2 := Lib.hid hx
              clear hx HX
              go_wp2_with fail
              go_roundw
              case rel => exact ⟨k + 1, eb, ed, SL', by omega, by go_num, HX2.out⟩
              case measure => simp [intOf]; omega
end Go.Proofs.Ytclaahailnpdoaa.Pt
