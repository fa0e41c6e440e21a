/-
  Chapter 10, the reference: a plate as memory; place, Get, Used.
-/
import Derived.Test.YtclaahailnpdoaaBk
namespace Go.Proofs.Ytclaahailnpdoaa.Pt
open Go.RowKit Go.Maps
set_option linter.unusedVariables false
set_option linter.unusedSimpArgs false

def fcell (sl : By → Value) (f : Fl) : List Value := [.string ⟨f.n.toArray⟩, sl f.n, .int .i64 (f.s : Int)]
def fcells (sl : By → Value) (fs : List Fl) : List Value := fs.flatMap (fcell sl)
theorem fcells_len (sl : By → Value) (fs : List Fl) : (fcells sl fs).length = fs.length * 3 := by
  induction fs with
  | nil => rfl
  | cons f r ih => unfold fcells at ih ⊢; rw [List.flatMap_cons, List.length_append, ih]; simp [fcell]; omega
theorem fcells_at {sl : By → Value} {fs : List Fl} {k : Nat} {f : Fl} (h : fs[k]? = some f) :
    (fcells sl fs)[k * 3]? = some (.string ⟨f.n.toArray⟩) ∧ (fcells sl fs)[k * 3 + 1]? = some (sl f.n) ∧ (fcells sl fs)[k * 3 + 2]? = some (.int .i64 (f.s : Int)) := by
  induction fs generalizing k with
  | nil => cases h
  | cons g r ih =>
    have e : fcells sl (g :: r) = fcell sl g ++ fcells sl r := by unfold fcells; rw [List.flatMap_cons]
    have hl : (fcell sl g).length = 3 := rfl
    cases k with
    | zero => cases h; rw [e]; exact ⟨rfl, rfl, rfl⟩
    | succ k =>
      have := ih (k := k) (by simpa using h)
      rw [e, List.getElem?_append_right (by omega), List.getElem?_append_right (by omega), List.getElem?_append_right (by omega), hl, show (k + 1) * 3 - 3 = k * 3 by omega, show (k + 1) * 3 + 1 - 3 = k * 3 + 1 by omega, show (k + 1) * 3 + 2 - 3 = k * 3 + 2 by omega]
      exact this
structure RA (W : World) (q : Nat) (st : St) (sl : By → Value) (fv : Value) (rl : Int) (K : Nat → Prop) : Prop where
  blk : Blk W q 31 [fv, .int .i64 (st.room : Int), .bool st.armed, .int .i64 rl, .bool st.down]
  left : st.armed = true → rl = (st.left : Int)
  rd : Rd W 3 fv st.fs.length (fcells sl st.fs)
  kf : ∀ g, fv.ownBlock = some g → g < W.heap.size ∧ K g ∧ g ≠ q
  row : ∀ f ∈ st.fs, Rd W 1 (sl f.n) f.b.length (Lib.byteCells f.b)
  kr : ∀ f ∈ st.fs, ∀ g, (sl f.n).ownBlock = some g → g < W.heap.size ∧ K g ∧ g ≠ q
  kq : K q
  fit : Fit st
theorem RA.keep {W W' : World} {q : Nat} {st : St} {sl : By → Value} {fv : Value} {rl : Int} {K K' : Nat → Prop} (h : RA W q st sl fv rl K) (hb : ∀ k, k < W.heap.size → K k → W'.heap[k]? = W.heap[k]?) (hs : W.heap.size ≤ W'.heap.size) (hK : ∀ k, k < W.heap.size → K k → K' k) : RA W' q st sl fv rl K' :=
  ⟨(hb q h.blk.lt h.kq).trans h.blk, h.left, rd_keep h.rd (fun g hg => hb g (h.kf g hg).1 (h.kf g hg).2.1), fun g hg => ⟨Nat.lt_of_lt_of_le (h.kf g hg).1 hs, hK g (h.kf g hg).1 (h.kf g hg).2.1, (h.kf g hg).2.2⟩,
    fun f hf => rd_keep (h.row f hf) (fun g hg => hb g (h.kr f hf g hg).1 (h.kr f hf g hg).2.1), fun f hf g hg => ⟨Nat.lt_of_lt_of_le (h.kr f hf g hg).1 hs, hK g (h.kr f hf g hg).1 (h.kr f hf g hg).2.1, (h.kr f hf g hg).2.2⟩, hK q h.blk.lt h.kq, h.fit⟩
theorem RA.below {W W' : World} {q : Nat} {st : St} {sl : By → Value} {fv : Value} {rl : Int} {K : Nat → Prop} (h : RA W q st sl fv rl K) (hb : Below W.heap.size W W') : RA W' q st sl fv rl K :=
  h.keep (fun k hk _ => hb.block k hk) hb.size (fun _ _ h => h)
/-- the header alone is changed -/
theorem RA.head {W W' : World} {q : Nat} {st st' : St} {sl : By → Value} {fv : Value} {rl rl' : Int} {K : Nat → Prop} (h : RA W q st sl fv rl K) (ho : Out (fun k => k = q) W W') (hb : Blk W' q 31 [fv, .int .i64 (st'.room : Int), .bool st'.armed, .int .i64 rl', .bool st'.down])
    (hl : st'.armed = true → rl' = (st'.left : Int)) (hfs : st'.fs = st.fs) (hf : Fit st') : RA W' q st' sl fv rl' K := by
  refine ⟨hb, hl, ?_, fun g hg => ⟨Nat.lt_of_lt_of_le (h.kf g hg).1 ho.size, (h.kf g hg).2⟩, ?_, ?_, h.kq, hf⟩
  · rw [hfs]; exact rd_keep h.rd (fun g hg => ho.block g (h.kf g hg).1 (h.kf g hg).2.2)
  · rw [hfs]; exact fun f hf => rd_keep (h.row f hf) (fun g hg => ho.block g (h.kr f hf g hg).1 (h.kr f hf g hg).2.2)
  · rw [hfs]; exact fun f hf g hg => ⟨Nat.lt_of_lt_of_le (h.kr f hf g hg).1 ho.size, (h.kr f hf g hg).2⟩
theorem RA.len {W : World} {q : Nat} {st : St} {sl : By → Value} {fv : Value} {rl : Int} {K : Nat → Prop} (h : RA W q st sl fv rl K) : st.fs.length ≤ 268435456 := by
  have h1 := len_tot st.fs (fun f hf => (h.fit.file f hf).1)
  have h2 := h.fit.tot
  have h3 := h.fit.room
  omega
/-- where a file stands -/
def plc (fs : List Fl) (x : By) : Int := match fs.findIdx? (fun f => f.n == x) with | some i => (i : Int) | none => -1
theorem plc_none {fs : List Fl} {x : By} (h : ∀ f ∈ fs, f.n ≠ x) : plc fs x = -1 := by
  unfold plc
  have : fs.findIdx? (fun f => f.n == x) = none := by rw [List.findIdx?_eq_none_iff]; intro f hf; simpa using h f hf
  rw [this]
theorem plc_at {fs : List Fl} {x : By} {k : Nat} {f : Fl} (h : fs[k]? = some f) (hn : f.n = x) (hb : ∀ g ∈ fs.take k, g.n ≠ x) : plc fs x = (k : Int) := by
  unfold plc
  have hk : k < fs.length := (List.getElem?_eq_some_iff.1 h).1
  have : fs.findIdx? (fun f => f.n == x) = some k := by
    rw [List.findIdx?_eq_some_iff_getElem]
    refine ⟨hk, by rw [(List.getElem?_eq_some_iff.1 h).2]; simpa using hn, fun j hj => ?_⟩
    have := hb fs[j] (List.mem_take_iff_getElem.2 ⟨j, by omega, rfl⟩)
    simpa using this
  rw [this]
set_option maxRecDepth 20000 in
set_option maxHeartbeats 2000000 in
theorem place_any (q : Nat) (st : St) (sl : By → Value) (fv : Value) (rl : Int) (K : Nat → Prop) (x : By) (w : World) (h : RA w q st sl fv rl K) :
    Calls Try.prog 42 #[.pointer (some ⟨q, 0, none⟩), .string ⟨x.toArray⟩] w fun e w' => e = .returned (.int .i64 (plc st.fs x)) ∧ w = w' := by
  have hlen := h.len
  have c0 := h.blk.cell 0 rfl
  have HR := Lib.hid h.rd
  obtain ⟨fa, fc, rfl⟩ := h.rd.slice
  generalize st.fs = fs at hlen HR c0 ⊢
  clear h
  go_enter Try.func42, Try.ntmps42
  go_wp2_with fail
  go_loop [5] (fun i => ∃ k : Nat, k ≤ fs.length ∧ i = .int .i64 (k : Int) ∧ ∀ g ∈ fs.take k, g.n ≠ x) (fun i => fs.length - (intOf i).toNat)
  case atStart => exact ⟨0, by omega, rfl, fun g hg => by simp at hg⟩
  case round =>
    obtain ⟨k, hk, rfl, hall⟩ := hrel
    have HALL := Lib.hid hall
    clear hall
    by_cases hkn : k < fs.length
    case neg =>
      have hk' : k = fs.length := by omega
      subst hk'
      have HR2 := Lib.hid (plc_none (fs := fs) (x := x) (fun f hf => HALL.out f (by rw [List.take_of_length_le (Nat.le_refl _)]; exact hf)))
      go_wp2_with fail
      go_ret
      exact ⟨by rw [HR2.out]; rfl, rfl⟩
    case pos =>
    obtain ⟨b1, o1, cap1, e1, hcap1, hc1⟩ := HR.out.pos (by omega)
    cases e1
    obtain ⟨f, hf⟩ : ∃ f, fs[k]? = some f := ⟨_, List.getElem?_eq_getElem hkn⟩
    have q1 := hc1 _ _ (fcells_at (sl := sl) hf).1
    have g1 : (k : Int) < (fs.length : Int) := by omega
    have HX := Lib.hid hf
    clear hc1 hf
    by_cases hxy : f.n = x
    · subst hxy
      have HR2 := Lib.hid (plc_at HX.out rfl HALL.out)
      go_wp2_with fail
      go_ret
      exact ⟨by rw [HR2.out]; rfl, rfl⟩
    · have hne : (f.n == x) = false := by simpa using hxy
      have hne2 := str_ne hne
      have HXY := Lib.hid hxy
      clear hxy
      go_wp2_with fail
      go_round
      case rel =>
        refine ⟨k + 1, by omega, by go_num, fun g hg => ?_⟩
        rw [List.take_succ_eq_append_getElem hkn, List.mem_append, List.mem_singleton] at hg
        rcases hg with hg | rfl
        · exact HALL.out g hg
        · rw [(List.getElem?_eq_some_iff.1 HX.out).2]; exact HXY.out
      case measure => simp [intOf]; omega
theorem plc_get {fs : List Fl} {x : By} : (get fs x = none ∧ plc fs x = -1) ∨ ∃ (k : Nat) (f : Fl), get fs x = some f ∧ fs[k]? = some f ∧ plc fs x = (k : Int) := by
  unfold plc get
  cases h : fs.findIdx? (fun f => f.n == x) with
  | none =>
    left
    refine ⟨?_, rfl⟩
    rw [List.findIdx?_eq_none_iff] at h
    rw [List.find?_eq_none]
    intro f hf
    simpa using h f hf
  | some k =>
    right
    rw [List.findIdx?_eq_some_iff_getElem] at h
    obtain ⟨hk, h1, h2⟩ := h
    refine ⟨k, fs[k], ?_, List.getElem?_eq_getElem hk, rfl⟩
    rw [List.find?_eq_some_iff_getElem]
    exact ⟨h1, k, hk, rfl, fun j hj => by have := h2 j hj; simpa using this⟩
def fileV (x : By) (v : Value) (s : Nat) : Value := .agg #[.string ⟨x.toArray⟩, v, .int .i64 (s : Int)]
theorem load_file {W : World} {b : Nat} {t : TypeId} {x : By} {v : Value} {s : Nat} (h : Blk W b t [.string ⟨x.toArray⟩, v, .int .i64 (s : Int)]) : (loadVar 68 ⟨b, 0, none⟩).run Try.prog W = .ok (fileV x v s) W := by
  have z0 := h.cell 0 rfl
  have z1 := h.cell 1 rfl
  have z2 := h.cell 2 rfl
  simp [go_sem, loadVar, z0, z1, z2, fileV]
theorem ret_file {fn : Func} {p : Tmp} (hres : fn.results = #[.cell p 68]) {a : Act} (hd : a.defers = []) {W : World} {b : Nat} {t : TypeId} {x : By} {v : Value} {s : Nat} (hp : a.tmps.getD p undef = .pointer (some ⟨b, 0, none⟩)) (hb : Blk W b t [.string ⟨x.toArray⟩, v, .int .i64 (s : Int)]) {R : Ending → World → Prop}
    (h : R (.returned (fileV x v s)) W) : bodyPost Try.prog fn R Exit.ret a W := by
  refine bodyPost_ret (v := fileV x v s) ?_ hd h
  have hp' : a.tmps[p]?.getD undef = .pointer (some ⟨b, 0, none⟩) := by simpa using hp
  simp [results, hres, asAddr, hp', load_file hb]
set_option maxRecDepth 20000 in
set_option maxHeartbeats 2000000 in
theorem rget_any (q : Nat) (st : St) (sl : By → Value) (fv : Value) (rl : Int) (K : Nat → Prop) (x : By) (w : World) (h : RA w q st sl fv rl K) :
    Calls Try.prog 34 #[.pointer (some ⟨q, 0, none⟩), .string ⟨x.toArray⟩] w fun e w' => ∃ vb, e = .returned (fileV x vb (gS st.fs x)) ∧ Below w.heap.size w w' ∧
      Rd w 1 vb (gB st.fs x).length (Lib.byteCells (gB st.fs x)) ∧ ∀ g, vb.ownBlock = some g → g < w.heap.size ∧ K g ∧ g ≠ q := by
  have hbA : Below w.heap.size w (w.alloc (.cells #[.string ⟨#[]⟩, .slice none 0 0, .int .i64 0] 68)) := (Below.refl _ _).alloc (Nat.le_refl _) _
  have HPL := Lib.hid (place_any q st sl fv rl K x _ (h.below hbA))
  have HBA := Lib.hid hbA
  have HBK := Lib.hid (Blk.new w 68 [.string ⟨#[]⟩, .slice none 0 0, .int .i64 0])
  have hlen := h.len
  rcases plc_get (fs := st.fs) (x := x) with ⟨hg, hp⟩ | ⟨k, f, hg, hf, hp⟩
  · have HE : Hid (gB st.fs x = [] ∧ gS st.fs x = 0) := Lib.hid (by unfold gB gS; rw [hg]; exact ⟨rfl, rfl⟩)
    have c0 := (h.below hbA).blk.cell 0 rfl
    rw [hp] at HPL
    rw [HE.out.1, HE.out.2]
    clear h hg hp hbA
    have d0 := HBK.out.cell 0 rfl
    have d1 := HBK.out.cell 1 rfl
    have d2 := HBK.out.cell 2 rfl
    have d3 := HBK.out.frozen 0
    have d4 := HBK.out.frozen 1
    have d5 := HBK.out.frozen 2
    go_enter Try.func34, Try.ntmps34
    go_wp2_with fail
    refine HPL.out.mono ?_
    rintro e w' ⟨rfl, hw⟩
    obtain rfl := hw
    go_wp2_with fail
    refine ret_file (v := .slice none 0 0) (s := 0) rfl rfl rfl (Blk.new w _ [.string ⟨x.toArray⟩, .slice none 0 0, .int .i64 0]) ?_
    exact ⟨_, rfl, (Below.refl _ _).alloc (Nat.le_refl _) _, Rd.nil _ _, fun g hg => by cases hg⟩
  · have hB : gB st.fs x = f.b := by unfold gB; rw [hg]; rfl
    have hS : gS st.fs x = f.s := by unfold gS; rw [hg]; rfl
    have hn := (get_name hg).2
    have hfm := (get_name hg).1
    have HROW := Lib.hid (And.intro (h.row f hfm) (h.kr f hfm))
    have hk : k < st.fs.length := (List.getElem?_eq_some_iff.1 hf).1
    have hA := h.below hbA
    have c0 := hA.blk.cell 0 rfl
    obtain ⟨b1, o1, cap1, e1, hcap1, hc1⟩ := hA.rd.pos (by omega)
    cases e1
    obtain ⟨q1, q2, q3⟩ := fcells_at (sl := sl) hf
    replace q1 := hc1 _ _ q1
    replace q2 := hc1 _ _ q2
    replace q3 := hc1 _ _ q3
    simp only [← Nat.add_assoc] at q2 q3
    obtain ⟨va, vc, hsl⟩ := (h.row f hfm).slice
    rw [hsl] at q2 HROW
    rw [hn] at q1
    rw [hp] at HPL
    rw [hB, hS]
    have g1 : (k : Int) < (st.fs.length : Int) := by omega
    have g2 : ¬ (k : Int) < 0 := by omega
    clear h hg hp hc1 hf hB hS hfm hbA hA hsl
    have d0 := HBK.out.cell 0 rfl
    have d1 := HBK.out.cell 1 rfl
    have d2 := HBK.out.cell 2 rfl
    have d3 := HBK.out.frozen 0
    have d4 := HBK.out.frozen 1
    have d5 := HBK.out.frozen 2
    go_enter Try.func34, Try.ntmps34
    go_wp2_with fail
    refine HPL.out.mono ?_
    rintro e w' ⟨rfl, hw⟩
    obtain rfl := hw
    go_wp2_with fail
    refine ret_file (v := .slice va f.b.length vc) (s := f.s) rfl rfl rfl (Blk.new w _ [.string ⟨x.toArray⟩, .slice va f.b.length vc, .int .i64 (f.s : Int)]) ?_
    exact ⟨_, rfl, (Below.refl _ _).alloc (Nat.le_refl _) _, HROW.out⟩
theorem tot_take_succ {fs : List Fl} {k : Nat} {f : Fl} (h : fs[k]? = some f) : tot (fs.take (k + 1)) = tot (fs.take k) + f.b.length := by
  have hk : k < fs.length := (List.getElem?_eq_some_iff.1 h).1
  rw [List.take_succ_eq_append_getElem hk, (List.getElem?_eq_some_iff.1 h).2]
  unfold tot
  rw [List.map_append, List.sum_append]
  simp
theorem tot_take_le (fs : List Fl) (k : Nat) : tot (fs.take k) ≤ tot fs := by
  have h : tot fs = tot (fs.take k) + tot (fs.drop k) := by
    unfold tot
    rw [← List.sum_append, ← List.map_append, List.take_append_drop]
  omega
set_option maxRecDepth 20000 in
set_option maxHeartbeats 2000000 in
theorem rused_any (q : Nat) (st : St) (sl : By → Value) (fv : Value) (rl : Int) (K : Nat → Prop) (w : World) (h : RA w q st sl fv rl K) :
    Calls Try.prog 35 #[.pointer (some ⟨q, 0, none⟩)] w fun e w' => e = .returned (.int .i64 (tot st.fs : Int)) ∧ w = w' := by
  have hlen := h.len
  have c0 := h.blk.cell 0 rfl
  have HR := Lib.hid h.rd
  have HROW := Lib.hid h.row
  have HT : Hid (tot st.fs ≤ 268435456) := Lib.hid (Nat.le_trans h.fit.tot h.fit.room)
  obtain ⟨fa, fc, rfl⟩ := h.rd.slice
  generalize st.fs = fs at hlen HR HROW HT c0 ⊢
  clear h
  go_enter Try.func35, Try.ntmps35
  go_wp2_with fail
  go_loop [3, 4] (fun n i => ∃ k : Nat, k ≤ fs.length ∧ i = .int .i64 (k : Int) ∧ n = .int .i64 (tot (fs.take k) : Int)) (fun _ i => fs.length - (intOf i).toNat)
  case atStart => exact ⟨0, by omega, rfl, rfl⟩
  case round =>
    obtain ⟨k, hk, rfl, rfl⟩ := hrel
    by_cases hkn : k < fs.length
    case neg =>
      have hk' : k = fs.length := by omega
      subst hk'
      rw [List.take_of_length_le (Nat.le_refl _)]
      obtain ⟨T, hT⟩ : ∃ T, T = tot fs := ⟨_, rfl⟩
      rw [← hT]
      have HT3 := Lib.hid hT
      clear hT
      go_wp2_with fail
      go_ret
      exact ⟨by rw [← HT3.out]; rfl, rfl⟩
    case pos =>
    obtain ⟨b1, o1, cap1, e1, hcap1, hc1⟩ := HR.out.pos (by omega)
    cases e1
    obtain ⟨f, hf⟩ : ∃ f, fs[k]? = some f := ⟨_, List.getElem?_eq_getElem hkn⟩
    have q1 := hc1 _ _ (fcells_at (sl := sl) hf).2.1
    simp only [← Nat.add_assoc] at q1
    obtain ⟨va, vc, hsl⟩ := (HROW.out f (List.mem_of_getElem? hf)).slice
    rw [hsl] at q1
    have g1 : (k : Int) < (fs.length : Int) := by omega
    have hsum : IntKind.i64.wrap ((tot (fs.take k) : Int) + (f.b.length : Int)) = (tot (fs.take (k + 1)) : Int) := by
      have h1 := tot_take_succ hf
      have h2 := tot_take_le fs (k + 1)
      have h3 := HT.out
      rw [IntWalk.i64_in _ (by omega)]
      omega
    obtain ⟨T, hT⟩ : ∃ T, T = tot (fs.take k) := ⟨_, rfl⟩
    obtain ⟨T2, hT2⟩ : ∃ T2, T2 = tot (fs.take (k + 1)) := ⟨_, rfl⟩
    rw [← hT, ← hT2] at hsum
    rw [← hT]
    have HT2 := Lib.hid hT2
    generalize f.b.length = L at q1 hsum
    clear hc1 hf hsl hT hT2
    go_wp2_with fail
    go_round
    case rel => exact ⟨k + 1, by omega, by go_num, by rw [HT2.out]⟩
    case measure => simp [intOf]; omega
set_option maxRecDepth 20000 in
set_option maxHeartbeats 2000000 in
theorem rasked_any (q : Nat) (st : St) (sl : By → Value) (fv : Value) (rl : Int) (K : Nat → Prop) (x : By) (w : World) (h : RA w q st sl fv rl K) (hx : x.length ≤ 9223372036854775807) :
    Calls Try.prog 33 #[.pointer (some ⟨q, 0, none⟩), .string ⟨x.toArray⟩, .bool false] w fun e w' => e = .returned (.int .i64 (askedC st.down x : Int)) ∧ w = w' := by
  have c4 := h.blk.cell 4 rfl
  have hs := st_size x
  unfold askedC
  by_cases h1 : x.length < 1
  · have t1 : (x.length : Int) < 1 := by omega
    rw [if_pos (Or.inl h1)]
    clear h h1
    go_enter Try.func33, Try.ntmps33
    go_wp2
    go_ret
    exact ⟨rfl, rfl⟩
  · have t1 : ¬ (x.length : Int) < 1 := by omega
    by_cases h2 : 64 < x.length
    · have t2 : (64 : Int) < (x.length : Int) := by omega
      rw [if_pos (Or.inr h2)]
      clear h h1 h2
      go_enter Try.func33, Try.ntmps33
      go_wp2
      go_ret
      exact ⟨rfl, rfl⟩
    · have t2 : ¬ (64 : Int) < (x.length : Int) := by omega
      rw [if_neg (by omega)]
      clear h1 h2 h
      cases hd : st.down with
      | true =>
        rw [hd] at c4
        go_enter Try.func33, Try.ntmps33
        go_wp2
        go_ret
        exact ⟨rfl, rfl⟩
      | false =>
        rw [hd] at c4
        go_enter Try.func33, Try.ntmps33
        go_wp2
        go_ret
        exact ⟨rfl, rfl⟩
set_option maxRecDepth 20000 in
set_option maxHeartbeats 2000000 in
theorem rchange_any (q : Nat) (st : St) (sl : By → Value) (fv : Value) (rl : Int) (K : Nat → Prop) (x : By) (w : World) (h : RA w q st sl fv rl K) (hx : x.length ≤ 9223372036854775807) :
    Calls Try.prog 33 #[.pointer (some ⟨q, 0, none⟩), .string ⟨x.toArray⟩, .bool true] w fun e w' => e = .returned (.int .i64 ((chg st x).1 : Int)) ∧ Out (fun k => k = q) w w' ∧ ∃ rl', RA w' q (chg st x).2 sl fv rl' K := by
  have c2 := h.blk.cell 2 rfl
  have c3 := h.blk.cell 3 rfl
  have c4 := h.blk.cell 4 rfl
  have f3 := h.blk.frozen 3
  have f4 := h.blk.frozen 4
  have hs := st_size x
  have HP := Lib.hid h
  have HF := Lib.hid (chg_fit st x h.fit)
  have HL := Lib.hid h.left
  clear h
  by_cases h0 : askedC st.down x = 0
  case neg =>
    have e : chg st x = (askedC st.down x, st) := by unfold chg; rw [if_neg h0]
    rw [e]
    have HE : Hid (RA w q st sl fv rl K ∧ Out (fun k => k = q) w w) := Lib.hid ⟨HP.out, Out.refl _ _⟩
    clear e HF
    unfold askedC at h0 ⊢
    by_cases h1 : x.length < 1
    · have t1 : (x.length : Int) < 1 := by omega
      rw [if_pos (Or.inl h1)]
      clear h0 h1
      go_enter Try.func33, Try.ntmps33
      go_wp2
      go_ret
      exact ⟨rfl, HE.out.2, rl, HE.out.1⟩
    · have t1 : ¬ (x.length : Int) < 1 := by omega
      by_cases h2 : 64 < x.length
      · have t2 : (64 : Int) < (x.length : Int) := by omega
        rw [if_pos (Or.inr h2)]
        clear h0 h1 h2
        go_enter Try.func33, Try.ntmps33
        go_wp2
        go_ret
        exact ⟨rfl, HE.out.2, rl, HE.out.1⟩
      · have t2 : ¬ (64 : Int) < (x.length : Int) := by omega
        rw [if_neg (by omega)] at h0 ⊢
        have hd : st.down = true := by
          cases hd : st.down with
          | true => rfl
          | false => rw [hd] at h0; exact absurd rfl h0
        rw [if_pos hd]
        rw [hd] at c4
        clear h0 h1 h2 hd
        go_enter Try.func33, Try.ntmps33
        go_wp2
        go_ret
        exact ⟨rfl, HE.out.2, rl, HE.out.1⟩
  case pos =>
    have ha0 : ¬ (x.length < 1 ∨ 64 < x.length) ∧ st.down = false := by
      unfold askedC at h0
      split at h0
      · cases h0
      · rename_i h1
        split at h0
        · cases h0
        · rename_i h2; exact ⟨h1, by simpa using h2⟩
    have t1 : ¬ (x.length : Int) < 1 := by omega
    have t2 : ¬ (64 : Int) < (x.length : Int) := by omega
    rw [ha0.2] at c4
    by_cases ha : st.armed = true
    case neg =>
      have e : chg st x = (0, st) := by unfold chg; rw [if_pos h0, if_neg ha]
      have ha' : st.armed = false := by simpa using ha
      rw [e]
      rw [ha'] at c2
      have HE : Hid (RA w q st sl fv rl K ∧ Out (fun k => k = q) w w) := Lib.hid ⟨HP.out, Out.refl _ _⟩
      clear HF e h0 ha ha' ha0
      go_enter Try.func33, Try.ntmps33
      go_wp2
      go_ret
      exact ⟨rfl, HE.out.2, rl, HE.out.1⟩
    case pos =>
      rw [ha] at c2
      have hle := HL.out ha
      subst hle
      by_cases hl : st.left = 0
      case pos =>
        have e : chg st x = (9, { st with down := true }) := by unfold chg; rw [if_pos h0, if_pos ha, if_pos hl]
        rw [e] at HF ⊢
        rw [hl] at c3
        have ho := (Out.refl (fun k => k = q) w).set ⟨q, 4, none⟩ (.bool true) rfl
        have HE : Hid (RA (w.setCell ⟨q, 4, none⟩ (.bool true)) q { st with down := true } sl fv (st.left : Int) K ∧ Out (fun k => k = q) w (w.setCell ⟨q, 4, none⟩ (.bool true))) :=
          Lib.hid ⟨HP.out.head ho (HP.out.blk.set 4 (.bool true)) (fun _ => rfl) rfl HF.out, ho⟩
        clear e h0 ha0 ho HL HP ha hl HF
        go_enter Try.func33, Try.ntmps33
        go_wp2
        go_ret
        exact ⟨rfl, HE.out.2, _, HE.out.1⟩
      case neg =>
        have e : chg st x = (0, { st with left := st.left - 1 }) := by unfold chg; rw [if_pos h0, if_pos ha, if_neg hl]
        rw [e] at HF ⊢
        have t0 : ((st.left : Int) == 0) = false := by rw [beq_eq_false_iff_ne]; omega
        have hlf := HP.out.fit.left
        have t3 : IntKind.i64.wrap ((st.left : Int) - 1) = ((st.left - 1 : Nat) : Int) := by rw [IntWalk.i64_in _ (by omega)]; omega
        have t4 : ¬ (st.left : Int) = 0 := by omega
        have ho := (Out.refl (fun k => k = q) w).set ⟨q, 3, none⟩ (.int .i64 ((st.left - 1 : Nat) : Int)) rfl
        have HE : Hid (RA (w.setCell ⟨q, 3, none⟩ (.int .i64 ((st.left - 1 : Nat) : Int))) q { st with left := st.left - 1 } sl fv ((st.left - 1 : Nat) : Int) K ∧ Out (fun k => k = q) w (w.setCell ⟨q, 3, none⟩ (.int .i64 ((st.left - 1 : Nat) : Int)))) :=
          Lib.hid ⟨HP.out.head ho (HP.out.blk.set 3 (.int .i64 ((st.left - 1 : Nat) : Int))) (fun _ => rfl) rfl HF.out, ho⟩
        clear e h0 hl hlf ha0 ho HL HP ha HF
        go_enter Try.func33, Try.ntmps33
        go_wp2
        go_ret
        exact ⟨rfl, HE.out.2, _, HE.out.1⟩
set_option maxRecDepth 20000 in
set_option maxHeartbeats 2000000 in
theorem rarm_any (q : Nat) (st : St) (sl : By → Value) (fv : Value) (rl : Int) (K : Nat → Prop) (n : Int) (w : World) (h : RA w q st sl fv rl K) (hn : n ≤ 9223372036854775807) :
    Calls Try.prog 32 #[.pointer (some ⟨q, 0, none⟩), .int .i64 n] w fun e w' => e = .returned (.tuple #[]) ∧ Out (fun k => k = q) w w' ∧ ∃ rl', RA w' q (arm st n) sl fv rl' K := by
  have c2 := h.blk.cell 2 rfl
  have c3 := h.blk.cell 3 rfl
  have c4 := h.blk.cell 4 rfl
  have f2 := h.blk.frozen 2
  have f3 := h.blk.frozen 3
  have HP := Lib.hid h
  clear h
  unfold arm
  by_cases hd : st.down = true
  case pos =>
    rw [if_pos hd]
    rw [hd] at c4
    have HE : Hid (RA w q st sl fv rl K ∧ Out (fun k => k = q) w w) := Lib.hid ⟨HP.out, Out.refl _ _⟩
    clear hd
    go_enter Try.func32, Try.ntmps32
    go_wp2
    refine bodyPost_end (results_none rfl _ _ _) rfl ?_
    exact ⟨rfl, HE.out.2, rl, HE.out.1⟩
  case neg =>
    rw [if_neg hd]
    have hd' : st.down = false := by simpa using hd
    rw [hd'] at c4
    have HFIT : Hid (Fit { st with armed := decide (0 ≤ n), left := n.toNat }) := Lib.hid ⟨HP.out.fit.asc, HP.out.fit.room, HP.out.fit.tot, HP.out.fit.file, by show n.toNat ≤ _; omega⟩
    have ho := ((Out.refl (fun k => k = q) w).set ⟨q, 2, none⟩ (.bool (decide (0 ≤ n))) rfl).set ⟨q, 3, none⟩ (.int .i64 n) rfl
    have HE : Hid (RA ((w.setCell ⟨q, 2, none⟩ (.bool (decide (0 ≤ n)))).setCell ⟨q, 3, none⟩ (.int .i64 n)) q { st with armed := decide (0 ≤ n), left := n.toNat } sl fv n K ∧ Out (fun k => k = q) w ((w.setCell ⟨q, 2, none⟩ (.bool (decide (0 ≤ n)))).setCell ⟨q, 3, none⟩ (.int .i64 n))) :=
      Lib.hid ⟨HP.out.head ho ((HP.out.blk.set 2 (.bool (decide (0 ≤ n)))).set 3 (.int .i64 n)) (fun h => by have := of_decide_eq_true h; simp only; omega) rfl HFIT.out, ho⟩
    clear hd hd' ho
    go_enter Try.func32, Try.ntmps32
    go_wp2
    refine bodyPost_end (results_none rfl _ _ _) rfl ?_
    exact ⟨rfl, HE.out.2, n, HE.out.1⟩
end Go.Proofs.Ytclaahailnpdoaa.Pt
