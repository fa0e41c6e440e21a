/-
  Chapter 22, plain: a replica, as it is said: what each call makes of it. No program here.
  (Texts put together: Da Db.)
-/

namespace Go.Proofs.YtdmjegelcdghlaaGreat.Vw
set_option linter.unusedVariables false
set_option linter.unusedSimpArgs false

structure Of (O : Type) where
  nr : Nat
  ao : Nat
  cm : Nat
  ops : List O
structure Ms (O : Type) where
  kd : Nat
  fr : Nat
  vw : Nat
  nr : Nat
  ao : Nat
  ops : List O
  cm : Nat
  sb : Nat
  ls : Nat
structure Sd (O : Type) where
  to : Nat
  m : Ms O
structure Sv (O : Type) where
  lg : Bool
  vw : Nat
  ao : Nat
  ops : List O
  sb : Nat
structure Kt (O : Type) where
  vw : Nat
  nr : Nat
  bs : Nat
  cm : Nat
  ops : List O
structure Rp (O : Type) where
  id : Nat
  n : Nat
  st : Nat
  vw : Nat
  nr : Nat
  bs : Nat
  td : Nat
  cm : Nat
  sb : Nat
  ls : Nat
  log : List O
  idle : Nat
  hv : List Nat
  offs : Nat → Option (Of O)
  saves : List (Sv O)
  out : List (Sd O)

variable {O : Type}
def TM : Nat := 1099511627776
def upd {α : Type} (f : Nat → α) (i : Nat) (v : α) : Nat → α := fun j => if j = i then v else f j
def hasN (l : List Nat) (c n : Nat) : Nat := (List.range n).countP fun k => decide (c ≤ l.getD k 0)
def most (l : List Nat) (n many : Nat) : Nat → Nat
  | 0 => 0
  | b + 1 => if many ≤ hasN l (b + 1) n then b + 1 else most l n many b
def rch (l : List Nat) (n b : Nat) : Nat := most l n (n / 2 + 1) b
def stb (l : List Nat) (n b : Nat) : Nat := most l n n b
def Of.last (o : Of O) : Nat := o.ao + o.ops.length
def newR (id n : Nat) : Rp O := ⟨id, n, 0, 0, 0, 0, 0, 0, 0, 0, [], 0, List.replicate n 0, fun _ => none, [], []⟩
def prm (r : Rp O) : Nat := r.vw % r.n
def leads (r : Rp O) : Bool := decide (r.st = 0) && decide (prm r = r.id)
def layL (r : Rp O) (a : Nat) (ops : List O) : List O := r.log.take (max a r.bs - r.bs) ++ ops.drop (max a r.bs - a)
def lay (r : Rp O) (a : Nat) (ops : List O) : Rp O := { r with log := layL r a ops, ls := r.bs + (layL r a ops).length }
def mine (r : Rp O) : Rp O := { r with offs := if prm r = r.id then upd (fun _ => none) r.id (some ⟨r.nr, r.bs, r.cm, r.log⟩) else fun _ => none }
def snd1 (m : Ms O) (r : Rp O) (k : Nat) : Rp O := if k = r.id then r else { r with out := r.out ++ [⟨k, { m with fr := r.id, vw := r.vw }⟩] }
def sndL (m : Ms O) (r : Rp O) (ks : List Nat) : Rp O := ks.foldl (snd1 m) r
def save (r : Rp O) (a : Nat) : Rp O := { r with saves := r.saves ++ [⟨true, r.vw, a, r.log.drop (a - r.bs), r.sb⟩] }
def turn (r : Rp O) (v : Nat) : Rp O :=
  let r1 := mine { r with vw := v, st := 1, idle := 0 }
  { r1 with saves := r1.saves ++ [⟨false, v, 0, [], 0⟩] }
def mOffer (r : Rp O) : Ms O := ⟨4, 0, 0, r.nr, r.bs, r.log, r.cm, 0, 0⟩
def mBegin (r : Rp O) : Ms O := ⟨5, 0, 0, 0, r.bs, r.log, r.cm, 0, 0⟩
def mKd (k : Nat) : Ms O := ⟨k, 0, 0, 0, 0, [], 0, 0, 0⟩
def mHave (r : Rp O) : Ms O := ⟨2, 0, 0, 0, 0, [], 0, 0, r.ls⟩
def mPrep (r : Rp O) (k : Nat) : Ms O := ⟨1, 0, 0, 0, max r.bs (r.hv.getD k 0), r.log.drop (max r.bs (r.hv.getD k 0) - r.bs), r.cm, r.sb, 0⟩
def offer (r : Rp O) : Rp O := snd1 (mOffer r) r (prm r)
def count (r : Rp O) : Rp O :=
  let h := r.hv.set r.id r.ls
  let c := max r.cm (rch h r.n r.ls)
  { r with hv := h, cm := c, sb := max r.sb (min (stb h r.n r.ls) c) }
def start (r : Rp O) (ks : List Nat) : Rp O := sndL (mBegin r) r ks
def tell (r : Rp O) : Rp O := (List.range r.n).foldl (fun q k => snd1 (mPrep q k) q k) r
def offL (r : Rp O) : List (Of O) := (List.range r.n).filterMap r.offs
def betterO (a b : Of O) : Bool := decide (b.nr < a.nr) || (decide (a.nr = b.nr) && decide (b.last < a.last))
def bestO : List (Of O) → Option (Of O)
  | [] => none
  | o :: l => match bestO l with
    | none => some o
    | some b => if betterO b o then some b else some o
def mayBegin (r : Rp O) : Bool := (r.offs r.id).isSome && decide (r.st = 1) && decide (r.n / 2 + 1 ≤ (offL r).length)
def begun1 (r : Rp O) (o : Of O) : Rp O :=
  let r1 := lay r o.ao o.ops
  { r1 with st := 0, nr := r1.vw, cm := (offL r).foldl (fun c x => max c (min x.cm r1.ls)) r1.cm, offs := fun _ => none, hv := List.replicate r1.n 0 }
def begin_ (r : Rp O) : Rp O :=
  if mayBegin r then
    match bestO (offL r) with
    | none => r
    | some o =>
      let r2 := save (begun1 r o) (max o.ao r.bs)
      count (start r2 (List.range r2.n))
  else r
def change (r : Rp O) (v : Nat) : Rp O := begin_ (offer (sndL (mKd 3) (turn r v) (List.range r.n)))
def ask1 (r : Rp O) (o : O) : Rp O := { r with log := r.log ++ [o], ls := r.ls + 1 }
def ask (r : Rp O) (o : O) : Rp O := tell (count (save (ask1 r o) r.ls))
def askE (ok : O → Bool) (r : Rp O) (o : O) : Nat := if ok o = false then 1 else if leads r = false then 10 else if 32 ≤ r.ls - r.bs then 8 else 0
def tick (r : Rp O) : Rp O :=
  if leads r then tell r
  else
    let r1 := { r with idle := r.idle + 1 }
    if 4 + r1.id ≤ r1.idle ∧ r1.vw < TM then change r1 (r1.vw + 1)
    else if r1.st = 1 then offer (sndL (mKd 3) r1 (List.range r1.n))
    else r1
def bare (m : Ms O) : Bool := decide (m.ao = 0) && m.ops.isEmpty && decide (m.cm = 0)
def mayM (ok : O → Bool) (r : Rp O) (m : Ms O) : Bool :=
  decide (m.fr < r.n) && decide (m.fr ≠ r.id) && decide (m.vw ≤ TM) && m.ops.all ok && decide (m.ao ≤ TM) && decide (m.cm ≤ m.ao + m.ops.length) &&
    (decide (m.kd = 1) || decide (m.sb = 0)) && (decide (m.kd = 2) || decide (m.ls = 0)) && (decide (m.kd = 4) || decide (m.nr = 0)) &&
    (if m.kd = 1 then decide (m.fr = m.vw % r.n) && decide (m.sb ≤ m.cm)
     else if m.kd = 2 then bare m && decide (m.ls ≤ TM)
     else if m.kd = 4 then decide (r.id = m.vw % r.n) && decide (m.nr ≤ m.vw) && decide (m.ao ≤ m.cm)
     else if m.kd = 5 then decide (m.fr = m.vw % r.n) && decide (m.ao ≤ m.cm)
     else if m.kd = 3 ∨ m.kd = 6 then bare m
     else false)
def report (r : Rp O) (k : Nat) : Rp O := snd1 (mHave r) r k
def prep1 (r : Rp O) (m : Ms O) : Rp O :=
  let r1 := { r with st := 0, idle := 0 }
  if m.ao ≤ r1.ls ∧ r1.ls < m.ao + m.ops.length then
    save { r1 with log := r1.log ++ m.ops.drop (r1.ls - m.ao), ls := m.ao + m.ops.length } r1.ls
  else r1
def prep2 (r : Rp O) (m : Ms O) : Rp O :=
  let c := max r.cm (min m.cm r.ls)
  { r with cm := c, sb := max r.sb (min m.sb c) }
def prepare (r : Rp O) (m : Ms O) : Rp O :=
  if r.nr = r.vw then report (prep2 (prep1 r m) m) m.fr else snd1 (mKd 6) r m.fr
def begunM1 (r : Rp O) (m : Ms O) : Rp O :=
  let r1 := lay r m.ao m.ops
  { r1 with vw := m.vw, nr := m.vw, st := 0, idle := 0, offs := fun _ => none, cm := max r1.cm m.cm }
def begunM (r : Rp O) (m : Ms O) : Rp O :=
  if r.nr = m.vw then report { r with st := 0, idle := 0 } m.fr
  else if r.ls < m.ao ∨ m.ao + m.ops.length < r.cm then r
  else report (save (begunM1 r m) (max m.ao r.bs)) m.fr
def haveM (r : Rp O) (m : Ms O) : Rp O := count { r with hv := r.hv.set m.fr (max (r.hv.getD m.fr 0) (min m.ls r.ls)) }
def offerM (r : Rp O) (m : Ms O) : Rp O :=
  if r.st = 1 ∧ m.ao ≤ r.ls ∧ r.cm ≤ m.ao + m.ops.length then begin_ { r with offs := upd r.offs m.fr (some ⟨m.nr, m.ao, m.cm, m.ops⟩) }
  else if leads r then start r [m.fr] else r
def take (r : Rp O) (m : Ms O) : Rp O :=
  if m.vw < r.vw then (if m.kd = 1 ∨ m.kd = 6 then snd1 (mKd 3) r m.fr else r)
  else if m.kd = 1 then prepare (if r.vw < m.vw then turn r m.vw else r) m
  else if m.kd = 2 then (if r.vw < m.vw then r else if leads r then haveM r m else r)
  else if m.kd = 3 then (if r.vw < m.vw then change r m.vw else if leads r then start r [m.fr] else r)
  else if m.kd = 4 then offerM (if r.vw < m.vw then change r m.vw else r) m
  else if m.kd = 5 then begunM r m
  else if m.kd = 6 then (if r.vw < m.vw then r else if leads r then start r [m.fr] else r)
  else r
def ready (r : Rp O) : List O := (r.log.drop (r.td - r.bs)).take (r.cm - r.td)
def told (r : Rp O) : Rp O :=
  { r with td := r.cm, log := if r.bs < min r.sb r.cm then r.log.drop (min r.sb r.cm - r.bs) else r.log, bs := if r.bs < min r.sb r.cm then min r.sb r.cm else r.bs }
def keptOf (r : Rp O) : Kt O := ⟨r.vw, r.nr, r.bs, r.td, r.log⟩
def ldK (ok : O → Bool) (id n : Nat) (k : Kt O) : Option (Rp O) :=
  if k.nr ≤ k.vw ∧ k.vw ≤ TM ∧ k.bs ≤ TM ∧ k.bs ≤ k.cm ∧ k.cm ≤ k.bs + k.ops.length ∧ k.ops.all ok = true then
    some { newR id n with vw := k.vw, nr := k.nr, bs := k.bs, cm := k.cm, td := k.cm, ls := k.bs + k.ops.length, log := k.ops }
  else none
def ldS (ok : O → Bool) (r : Rp O) (x : Sv O) : Option (Rp O) :=
  if r.vw ≤ x.vw ∧ x.vw ≤ TM ∧ x.ops.all ok = true then
    if x.lg = false then (if x.ao = 0 ∧ x.sb = 0 ∧ x.ops = [] then some { r with vw := x.vw } else none)
    else if r.bs ≤ x.ao ∧ x.ao ≤ r.ls ∧ max r.cm r.sb ≤ x.ao + x.ops.length ∧ x.sb ≤ TM then
      some (let r1 := lay { r with vw := x.vw, nr := x.vw } x.ao x.ops
        { r1 with sb := max r1.sb (min x.sb r1.ls) })
    else none
  else none
def ldL (ok : O → Bool) (r : Rp O) : List (Sv O) → Option (Rp O)
  | [] => some r
  | x :: l => match ldS ok r x with
    | none => none
    | some r1 => ldL ok r1 l
def ldE (r : Rp O) : Rp O :=
  let r1 := { r with cm := max r.cm r.sb, st := 2 }
  if r1.nr < r1.vw then mine { r1 with st := 1 } else r1
def load (ok : O → Bool) (id n : Nat) (k : Kt O) (l : List (Sv O)) : Option (Rp O) :=
  match ldK ok id n k with
  | none => none
  | some r => match ldL ok r l with
    | none => none
    | some r1 => some (ldE r1)
end Go.Proofs.YtdmjegelcdghlaaGreat.Vw
namespace Go.Proofs.YtdmjegelcdghlaaGreat.Vw
set_option linter.unusedVariables false
set_option linter.unusedSimpArgs false
variable {O : Type}

def Maj (n : Nat) (p : Nat → Bool) : Prop := n / 2 + 1 ≤ (List.range n).countP p
theorem count_two (p q : Nat → Bool) : ∀ l : List Nat, (∀ k ∈ l, ¬ (p k = true ∧ q k = true)) → l.countP p + l.countP q ≤ l.length := by
  intro l
  induction l with
  | nil => intro _; simp
  | cons a l ih =>
    intro h
    have h1 := ih fun k hk => h k (List.mem_cons_of_mem _ hk)
    have h2 := h a List.mem_cons_self
    rw [List.countP_cons, List.countP_cons, List.length_cons]
    by_cases hp : p a = true
    · have hq : ¬ q a = true := fun hq => h2 ⟨hp, hq⟩
      rw [if_pos hp, if_neg hq]; omega
    · rw [if_neg hp]
      split <;> omega
theorem Maj.meet {n : Nat} {p q : Nat → Bool} (h : Maj n p) (g : Maj n q) : ∃ k, k < n ∧ p k = true ∧ q k = true := by
  refine Classical.byContradiction fun hn => ?_
  have h1 := count_two p q (List.range n) fun k hk hpq => hn ⟨k, List.mem_range.1 hk, hpq⟩
  rw [List.length_range] at h1
  unfold Maj at h g
  omega
theorem Maj.mono {n : Nat} {p q : Nat → Bool} (h : Maj n p) (hs : ∀ k, k < n → p k = true → q k = true) : Maj n q :=
  Nat.le_trans h (List.countP_mono_left fun k hk => hs k (List.mem_range.1 hk))
theorem Maj.all {n : Nat} {p : Nat → Bool} (hn : 1 ≤ n) (h : ∀ k, k < n → p k = true) : Maj n p := by
  unfold Maj
  rw [List.countP_eq_length.2 fun k hk => h k (List.mem_range.1 hk), List.length_range]
  omega
theorem Maj.ex {n : Nat} {p : Nat → Bool} (h : Maj n p) : ∃ k, k < n ∧ p k = true := by
  obtain ⟨k, hk, h1, _⟩ := h.meet h
  exact ⟨k, hk, h1⟩
theorem Maj.pos {n : Nat} {p : Nat → Bool} (h : Maj n p) : 1 ≤ n := by
  obtain ⟨k, hk, _⟩ := h.ex; omega
structure Gh (O : Type) where
  W : Nat → List O
  I : Nat → Nat
  B : Nat → Prop
  A : Nat → Nat → Nat
def Cm (n : Nat) (h : Gh O) (v c : Nat) : Prop := h.B v ∧ Maj n fun k => decide (c ≤ h.A v k)
def Sb (n : Nat) (h : Gh O) (v b : Nat) : Prop := h.B v ∧ ∀ k, k < n → b ≤ h.A v k
theorem Sb.cm {n : Nat} {h : Gh O} {v b : Nat} (s : Sb n h v b) (hn : 1 ≤ n) : Cm n h v b := ⟨s.1, Maj.all hn fun k hk => by simpa using s.2 k hk⟩
theorem Cm.le {n : Nat} {h : Gh O} {v b c : Nat} (s : Cm n h v c) (hb : b ≤ c) : Cm n h v b := ⟨s.1, s.2.mono fun k _ hk => by simp at hk ⊢; omega⟩
theorem Sb.le {n : Nat} {h : Gh O} {v b c : Nat} (s : Sb n h v c) (hb : b ≤ c) : Sb n h v b := ⟨s.1, fun k hk => Nat.le_trans hb (s.2 k hk)⟩
def Beg (n : Nat) (h : Gh O) (vw : Nat → Nat) (v : Nat) : Prop :=
  ∃ (q : Nat → Option (Nat × Nat)) (kb ub lb : Nat), Maj n (fun k => (q k).isSome) ∧
    (∀ k u l, q k = some (u, l) → k < n ∧ v ≤ vw k ∧ u < v ∧ h.B u ∧ h.I u ≤ l ∧ l ≤ (h.W u).length ∧ (∀ w, w < v → 0 < h.A w k → w ≤ u ∧ (w = u → h.A w k ≤ l)) ∧ (u < ub ∨ u = ub ∧ l ≤ lb)) ∧
    q kb = some (ub, lb) ∧ h.I v = lb ∧ (h.W v).take lb = (h.W ub).take lb
structure Core (n : Nat) (h : Gh O) (vw nr ls : Nat → Nat) : Prop where
  n1 : 1 ≤ n
  b0 : h.B 0
  i0 : h.I 0 = 0
  iw : ∀ v, h.B v → h.I v ≤ (h.W v).length
  nb : ∀ v, ¬ h.B v → h.W v = [] ∧ ∀ k, h.A v k = 0
  pv : ∀ v, h.B v → v ≤ nr (v % n)
  pl : ∀ i, i < n → nr i % n = i → ls i = (h.W (nr i)).length
  bn : ∀ i, i < n → h.B (nr i)
  le : ∀ i, i < n → nr i ≤ vw i
  li : ∀ i, i < n → h.I (nr i) ≤ ls i ∧ ls i ≤ (h.W (nr i)).length
  al : ∀ i, i < n → h.A (nr i) i = ls i
  ah : ∀ i, i < n → ∀ v, nr i < v → h.A v i = 0
  aw : ∀ i, i < n → ∀ v, h.A v i ≤ (h.W v).length
  bg : ∀ v, h.B v → 0 < v → Beg n h vw v
theorem take_le {l l' : List O} {a b : Nat} (h : l.take b = l'.take b) (hab : a ≤ b) : l.take a = l'.take a := by
  have := congrArg (List.take a) h
  rwa [List.take_take, List.take_take, Nat.min_eq_left hab] at this
theorem Core.safe {n : Nat} {h : Gh O} {vw nr ls : Nat → Nat} (H : Core n h vw nr ls) : ∀ v', ∀ v c, v < v' → h.B v' → Cm n h v c → c ≤ h.I v' ∧ (h.W v').take c = (h.W v).take c := by
  intro v'
  induction v' using Nat.strongRecOn with
  | _ v' ih =>
    intro v c hv hb hc
    rcases Nat.eq_zero_or_pos c with rfl | hc0
    · simp
    obtain ⟨q, kb, ub, lb, hM, hq, hkb, hI, hW⟩ := H.bg v' hb (by omega)
    obtain ⟨k, hk, hk1, hk2⟩ := hc.2.meet hM
    simp only [decide_eq_true_eq] at hk1
    obtain ⟨⟨u, l⟩, hul⟩ := Option.isSome_iff_exists.1 hk2
    obtain ⟨_, _, hu, hBu, hIu, hlu, hfz, hbest⟩ := hq k u l hul
    obtain ⟨_, _, hub, hBub, hIub, hlub, _, _⟩ := hq kb ub lb hkb
    obtain ⟨hvu, hvl⟩ := hfz v hv (by omega)
    have hcl : c ≤ l := by
      rcases Nat.lt_or_ge v u with h1 | h1
      · have := (ih u hu v c h1 hBu hc).1; omega
      · have := hvl (by omega); omega
    have hcb : c ≤ lb ∧ (h.W ub).take c = (h.W v).take c := by
      rcases Nat.lt_or_ge v ub with h1 | h1
      · obtain ⟨h2, h3⟩ := ih ub hub v c h1 hBub hc
        exact ⟨by omega, h3⟩
      · have e : ub = v := by omega
        subst e
        exact ⟨by omega, rfl⟩
    refine ⟨by omega, ?_⟩
    rw [take_le hW hcb.1]
    exact hcb.2
theorem Core.safe' {n : Nat} {h : Gh O} {vw nr ls : Nat → Nat} (H : Core n h vw nr ls) {v v' c : Nat} (hv : v ≤ v') (hb : h.B v') (hc : Cm n h v c) : c ≤ (h.W v').length ∧ (h.W v').take c = (h.W v).take c := by
  rcases Nat.lt_or_ge v v' with h1 | h1
  · obtain ⟨h2, h3⟩ := H.safe v' v c h1 hb hc
    exact ⟨Nat.le_trans h2 (H.iw v' hb), h3⟩
  · have e : v' = v := by omega
    subst e
    obtain ⟨k, hk, h2⟩ := hc.2.ex
    simp only [decide_eq_true_eq] at h2
    exact ⟨Nat.le_trans h2 (H.aw k hk v'), rfl⟩
theorem Core.two {n : Nat} {h : Gh O} {vw nr ls : Nat → Nat} (H : Core n h vw nr ls) {v v' c d : Nat} (hc : Cm n h v c) (hd : Cm n h v' d) (hcd : c ≤ d) : (h.W v').take c = (h.W v).take c := by
  rcases Nat.le_total v v' with h1 | h1
  · exact (H.safe' h1 hd.1 hc).2
  · exact (H.safe' h1 hc.1 (hd.le hcd)).2.symm
theorem Core.mine {n : Nat} {h : Gh O} {vw nr ls : Nat → Nat} (H : Core n h vw nr ls) {i v c : Nat} (hi : i < n) (hv : v < nr i) (hc : Cm n h v c) : c ≤ ls i :=
  Nat.le_trans (H.safe _ v c hv (H.bn i hi) hc).1 (H.li i hi).1
theorem Core.sb {n : Nat} {h : Gh O} {vw nr ls : Nat → Nat} (H : Core n h vw nr ls) {i v b : Nat} (hi : i < n) (hs : Sb n h v b) : b ≤ ls i ∧ (h.W (nr i)).take b = (h.W v).take b := by
  rcases Nat.eq_zero_or_pos b with rfl | hb
  · simp
  have h1 : v ≤ nr i := by
    refine Nat.not_lt.1 fun h2 => ?_
    have h3 := H.ah i hi v h2
    have h4 := hs.2 i hi
    omega
  refine ⟨?_, (H.safe' h1 (H.bn i hi) (hs.cm H.n1)).2⟩
  rcases Nat.lt_or_ge v (nr i) with h2 | h2
  · exact H.mine hi h2 (hs.cm H.n1)
  · have e : nr i = v := by omega
    rw [← H.al i hi, e]
    exact hs.2 i hi
structure Ext (n : Nat) (h h' : Gh O) (vw : Nat → Nat) : Prop where
  b : ∀ v, h.B v → h'.B v ∧ h'.I v = h.I v
  w : ∀ v, h.B v → h.W v <+: h'.W v
  a : ∀ v k, h.A v k ≤ h'.A v k
  fz : ∀ k, k < n → ∀ v, v < vw k → h'.A v k = h.A v k
theorem Ext.refl (n : Nat) (h : Gh O) (vw : Nat → Nat) : Ext n h h vw := ⟨fun _ h => ⟨h, rfl⟩, fun _ _ => List.prefix_refl _, fun _ _ => Nat.le_refl _, fun _ _ _ _ => rfl⟩
theorem Ext.trans {n : Nat} {h h1 h2 : Gh O} {vw vw1 : Nat → Nat} (e : Ext n h h1 vw) (f : Ext n h1 h2 vw1) (hv : ∀ k, k < n → vw k ≤ vw1 k) : Ext n h h2 vw :=
  ⟨fun v hb => ⟨(f.b v (e.b v hb).1).1, ((f.b v (e.b v hb).1).2).trans (e.b v hb).2⟩, fun v hb => (e.w v hb).trans (f.w v (e.b v hb).1), fun v k => Nat.le_trans (e.a v k) (f.a v k), fun k hk v hv' => (f.fz k hk v (Nat.lt_of_lt_of_le hv' (hv k hk))).trans (e.fz k hk v hv')⟩
theorem Ext.cm {n : Nat} {h h' : Gh O} {vw : Nat → Nat} (e : Ext n h h' vw) {v c : Nat} (s : Cm n h v c) : Cm n h' v c := ⟨(e.b v s.1).1, s.2.mono fun k _ hk => by have := e.a v k; simp at hk ⊢; omega⟩
theorem Ext.sb {n : Nat} {h h' : Gh O} {vw : Nat → Nat} (e : Ext n h h' vw) {v c : Nat} (s : Sb n h v c) : Sb n h' v c := ⟨(e.b v s.1).1, fun k hk => Nat.le_trans (s.2 k hk) (e.a v k)⟩
theorem prefix_take {l l' : List O} (h : l <+: l') {c : Nat} (hc : c ≤ l.length) : l'.take c = l.take c := by
  obtain ⟨t, rfl⟩ := h
  rw [List.take_append_of_le_length hc]
theorem Ext.take {n : Nat} {h h' : Gh O} {vw : Nat → Nat} (e : Ext n h h' vw) {v c : Nat} (hb : h.B v) (hc : c ≤ (h.W v).length) : (h'.W v).take c = (h.W v).take c := prefix_take (e.w v hb) hc
theorem Ext.len {n : Nat} {h h' : Gh O} {vw : Nat → Nat} (e : Ext n h h' vw) {v : Nat} (hb : h.B v) : (h.W v).length ≤ (h'.W v).length := (e.w v hb).length_le
theorem Ext.beg {n : Nat} {h h' : Gh O} {vw vw' : Nat → Nat} (e : Ext n h h' vw) (hv : ∀ k, k < n → vw k ≤ vw' k) {v : Nat} (hb : h.B v) (hlv : h.I v ≤ (h.W v).length) (s : Beg n h vw v) : Beg n h' vw' v := by
  obtain ⟨q, kb, ub, lb, hM, hq, hkb, hI, hW⟩ := s
  refine ⟨q, kb, ub, lb, hM, fun k u l hul => ?_, hkb, (e.b v hb).2.trans hI, ?_⟩
  · obtain ⟨h1, h2, h3, h4, h5, h6, h7, h8⟩ := hq k u l hul
    refine ⟨h1, Nat.le_trans h2 (hv k h1), h3, (e.b u h4).1, by rw [(e.b u h4).2]; exact h5, Nat.le_trans h6 (e.len h4), fun w hw h0 => ?_, h8⟩
    rw [e.fz k h1 w (by omega)] at h0 ⊢
    exact h7 w hw h0
  · obtain ⟨h1, h2, h3, h4, h5, h6, h7, h8⟩ := hq kb ub lb hkb
    rw [e.take hb (by omega), e.take h4 h6]
    exact hW
def Gh.put (h : Gh O) (v i len : Nat) (Wv : List O) (Iv : Nat) : Gh O :=
  ⟨upd h.W v Wv, upd h.I v Iv, fun u => h.B u ∨ u = v, fun u k => if u = v ∧ k = i then len else h.A u k⟩
theorem upd_same {α : Type} (f : Nat → α) (i : Nat) (a : α) : upd f i a i = a := by unfold upd; rw [if_pos rfl]
theorem upd_ne {α : Type} (f : Nat → α) {i j : Nat} (a : α) (h : j ≠ i) : upd f i a j = f j := by unfold upd; rw [if_neg h]
theorem put_ext {n : Nat} {h : Gh O} {vw nr ls : Nat → Nat} (H : Core n h vw nr ls) {i v len : Nat} {Wv : List O} {Iv : Nat} (hi : i < n) (hv : vw i ≤ v) (hw : h.W v <+: Wv) (hI : h.B v → Iv = h.I v) (hl : nr i = v → ls i ≤ len) :
    Ext n h (h.put v i len Wv Iv) vw := by
  refine ⟨fun u hu => ⟨.inl hu, ?_⟩, fun u hu => ?_, fun u k => ?_, fun k hk u hu => ?_⟩
  · by_cases e : u = v
    · subst e
      show upd h.I u Iv u = _
      rw [upd_same]; exact hI hu
    · exact upd_ne _ _ e
  · by_cases e : u = v
    · subst e
      show _ <+: upd h.W u Wv u
      rw [upd_same]; exact hw
    · show _ <+: upd h.W v Wv u
      rw [upd_ne _ _ e]; exact List.prefix_refl _
  · show h.A u k ≤ if u = v ∧ k = i then len else h.A u k
    split
    · rename_i e
      obtain ⟨rfl, rfl⟩ := e
      rcases Nat.lt_or_ge (nr k) u with h1 | h1
      · rw [H.ah k hi u h1]; omega
      · have h2 : nr k = u := by have := H.le k hi; omega
        have h3 := H.al k hi
        rw [h2] at h3
        rw [h3]; exact hl h2
    · exact Nat.le_refl _
  · show (if u = v ∧ k = i then len else h.A u k) = _
    rw [if_neg]
    rintro ⟨rfl, rfl⟩
    omega
theorem put_core {n : Nat} {h : Gh O} {vw nr ls : Nat → Nat} (H : Core n h vw nr ls) {i v len : Nat} {Wv : List O} {Iv : Nat} (hi : i < n) (hv : vw i ≤ v) (hw : h.W v <+: Wv) (hI : h.B v → Iv = h.I v) (hl : nr i = v → ls i ≤ len)
    (hlen : Iv ≤ len ∧ len ≤ Wv.length) (hp : v % n = i → len = Wv.length) (hq : v % n ≠ i → h.B v ∧ Wv = h.W v) (hbg : ¬ h.B v → Beg n (h.put v i len Wv Iv) (upd vw i v) v) :
    Core n (h.put v i len Wv Iv) (upd vw i v) (upd nr i v) (upd ls i len) := by
  have E := put_ext H (len := len) (Iv := Iv) hi hv hw hI hl
  have hnv : nr i ≤ v := Nat.le_trans (H.le i hi) hv
  have hvw : ∀ k, k < n → vw k ≤ upd vw i v k := fun k hk => by
    by_cases e : k = i
    · subst e; rw [upd_same]; exact hv
    · rw [upd_ne _ _ e]; exact Nat.le_refl _
  have hWv : (h.put v i len Wv Iv).W v = Wv := upd_same _ _ _
  have hWu : ∀ u, u ≠ v → (h.put v i len Wv Iv).W u = h.W u := fun u hu => upd_ne _ _ hu
  have hIv : (h.put v i len Wv Iv).I v = Iv := upd_same _ _ _
  have hIu : ∀ u, u ≠ v → (h.put v i len Wv Iv).I u = h.I u := fun u hu => upd_ne _ _ hu
  have hAi : (h.put v i len Wv Iv).A v i = len := if_pos ⟨rfl, rfl⟩
  have hAo : ∀ u k, ¬ (u = v ∧ k = i) → (h.put v i len Wv Iv).A u k = h.A u k := fun u k hu => if_neg hu
  have hBv : (h.put v i len Wv Iv).B v := .inr rfl
  refine ⟨H.n1, .inl H.b0, ?_, fun u hu => ?_, fun u hu => ?_, fun u hu => ?_, fun j hj hjp => ?_, fun j hj => ?_, fun j hj => ?_, fun j hj => ?_, fun j hj => ?_, fun j hj u hu => ?_, fun j hj u => ?_, fun u hu hu0 => ?_⟩
  · rw [(E.b 0 H.b0).2]; exact H.i0
  · by_cases e : u = v
    · subst e; rw [hIv, hWv]; omega
    · rw [hIu u e, hWu u e]
      rcases hu with hu | hu
      · exact H.iw u hu
      · exact absurd hu e
  · have h1 : ¬ h.B u := fun hb => hu (.inl hb)
    have h2 : u ≠ v := fun e => hu (.inr e)
    refine ⟨by rw [hWu u h2]; exact (H.nb u h1).1, fun k => ?_⟩
    rw [hAo u k (fun e => h2 e.1)]; exact (H.nb u h1).2 k
  · by_cases e : u % n = i
    · rw [e, upd_same]
      rcases hu with hu | hu
      · have := H.pv u hu; rw [e] at this; omega
      · omega
    · rw [upd_ne _ _ e]
      rcases hu with hu | hu
      · exact H.pv u hu
      · subst hu; exact H.pv u (hq e).1
  · by_cases e : j = i
    · subst e; rw [upd_same] at hjp; rw [upd_same, upd_same, hWv]; exact hp hjp
    · rw [upd_ne _ _ e] at hjp
      rw [upd_ne _ _ e, upd_ne _ _ e, H.pl j hj hjp]
      by_cases e2 : nr j = v
      · rw [e2, hWv, (hq (by rw [← e2, hjp]; exact e)).2]
      · rw [hWu _ e2]
  · by_cases e : j = i
    · subst e; rw [upd_same]; exact hBv
    · rw [upd_ne _ _ e]; exact .inl (H.bn j hj)
  · by_cases e : j = i
    · subst e; rw [upd_same, upd_same]; exact Nat.le_refl _
    · rw [upd_ne _ _ e, upd_ne _ _ e]; exact H.le j hj
  · by_cases e : j = i
    · subst e; rw [upd_same, upd_same, hIv, hWv]; exact hlen
    · rw [upd_ne _ _ e, upd_ne _ _ e, (E.b _ (H.bn j hj)).2]
      exact ⟨(H.li j hj).1, Nat.le_trans (H.li j hj).2 (E.len (H.bn j hj))⟩
  · by_cases e : j = i
    · subst e; rw [upd_same, upd_same]; exact hAi
    · rw [upd_ne _ _ e, upd_ne _ _ e, hAo _ _ (fun h => e h.2)]; exact H.al j hj
  · by_cases e : j = i
    · subst e
      rw [upd_same] at hu
      rw [hAo u j (fun h => by have := h.1; omega)]
      exact H.ah j hj u (by omega)
    · rw [upd_ne _ _ e] at hu
      rw [hAo u j (fun h => e h.2)]
      exact H.ah j hj u hu
  · by_cases e : u = v ∧ j = i
    · rw [e.1, e.2, hAi, hWv]; omega
    · rw [hAo u j e]
      refine Nat.le_trans (H.aw j hj u) ?_
      by_cases e2 : u = v
      · subst e2; rw [hWv]; exact hw.length_le
      · rw [hWu u e2]; exact Nat.le_refl _
  · by_cases hb : h.B u
    · exact E.beg hvw hb (H.iw u hb) (H.bg u hb hu0)
    · have e : u = v := by
        rcases hu with hu | hu
        · exact absurd hu hb
        · exact hu
      subst e
      exact hbg hb
theorem Core.rise {n : Nat} {h : Gh O} {vw nr ls : Nat → Nat} (H : Core n h vw nr ls) {i v : Nat} (hi : i < n) (hv : vw i ≤ v) : Core n h (upd vw i v) nr ls := by
  have hvw : ∀ k, k < n → vw k ≤ upd vw i v k := fun k hk => by
    by_cases e : k = i
    · subst e; rw [upd_same]; exact hv
    · rw [upd_ne _ _ e]; exact Nat.le_refl _
  exact ⟨H.n1, H.b0, H.i0, H.iw, H.nb, H.pv, H.pl, H.bn, fun j hj => Nat.le_trans (H.le j hj) (hvw j hj), H.li, H.al, H.ah, H.aw, fun u hu h0 => (Ext.refl n h vw).beg hvw hu (H.iw u hu) (H.bg u hu h0)⟩
end Go.Proofs.YtdmjegelcdghlaaGreat.Vw
