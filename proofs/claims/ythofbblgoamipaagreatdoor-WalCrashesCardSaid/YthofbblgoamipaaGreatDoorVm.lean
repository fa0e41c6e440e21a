/-
  Chapter 12, plain: the names of a log's files, frames in a row, what each call of the log makes of plate and log.
-/
import Derived.Test.YthofbblgoamipaaGreatDoorBj
import Derived.Test.YthofbblgoamipaaGreatDoorVa
import Derived.Lib.ItoaNum
import Derived.Lib.ItoaMem
import Derived.Lib.AtoiAll
import Derived.Lib.AtoiAllCases
namespace Go.Proofs.YthofbblgoamipaaGreatDoor.Wa
open Go.RowKit Pt
set_option linter.unusedVariables false
set_option linter.unusedSimpArgs false

theorem dd_ne (u : Nat) : Lib.decDigits u ≠ [] := by
  rw [Lib.decDigits]; split <;> simp
theorem dd_all (u : Nat) : ∀ c ∈ Lib.decDigits u, 48 ≤ c.toNat ∧ c.toNat ≤ 57 := by
  induction u using Nat.strongRecOn with
  | _ u ih =>
    rw [Lib.decDigits]
    split
    · intro c hc
      simp only [List.mem_singleton] at hc
      subst hc
      rw [UInt8.toNat_ofNat']; omega
    · rename_i h
      intro c hc
      rcases List.mem_append.1 hc with hc | hc
      · exact ih (u / 10) (by omega) c hc
      · simp only [List.mem_singleton] at hc
        subst hc
        rw [UInt8.toNat_ofNat']; omega
theorem pu_dd (u : Nat) (hu : u < 18446744073709551616) (r : By) : Lib.parseUint10 0 (Lib.decDigits u ++ r) = Lib.parseUint10 u r := by
  induction u using Nat.strongRecOn generalizing r with
  | _ u ih =>
    rw [Lib.decDigits]
    split
    · rename_i h
      have e : (UInt8.ofNat (48 + u)).toNat = 48 + u := by rw [UInt8.toNat_ofNat']; omega
      rw [List.singleton_append, Lib.parseUint10, e, if_pos (by omega), if_neg (by omega), if_neg (by omega)]
      congr 1; omega
    · rename_i h
      have e : (UInt8.ofNat (48 + u % 10)).toNat = 48 + u % 10 := by rw [UInt8.toNat_ofNat']; omega
      rw [List.append_assoc, ih (u / 10) (by omega) (by omega), List.singleton_append, Lib.parseUint10, e, if_pos (by omega), if_neg (by omega), if_neg (by omega)]
      congr 1; omega
theorem pm_dd (u : Nat) (hu : u < 18446744073709551616) : Lib.parseMag (Lib.decDigits u) = .ok u := by
  unfold Lib.parseMag
  rw [if_neg (dd_ne u)]
  have := pu_dd u hu []
  rw [List.append_nil] at this
  rw [this, Lib.parseUint10]
theorem atoi_itoa (n : Nat) (h1 : n ≤ 99) : Lib.atoiAll (Lib.itoa (n : Int)) = .ok (n : Int) := by
  have e : Lib.itoa (n : Int) = Lib.decDigits n := Lib.itoa_nonneg n
  obtain ⟨c, r, hc⟩ : ∃ c r, Lib.decDigits n = c :: r := by
    cases hd : Lib.decDigits n with
    | nil => exact absurd hd (dd_ne _)
    | cons c r => exact ⟨c, r, rfl⟩
  have hcd := dd_all n c (by rw [hc]; simp)
  rw [e, hc, Lib.atoiAll_plain c r (by omega) (by omega), ← hc, pm_dd _ (by omega)]
  simp only [Lib.signless]
  rw [if_neg (by omega)]
/-- a file's name -/
def fnm (nm : By) (n : Nat) : By := nm ++ (45 :: Lib.itoa (n : Int))
theorem fnm_inj {nm : By} {a b : Nat} (ha : a ≤ 99) (hb : b ≤ 99) (h : fnm nm a = fnm nm b) : a = b := by
  unfold fnm at h
  have h1 := List.append_cancel_left h
  have h2 := (List.cons.inj h1).2
  have h3 := atoi_itoa a ha
  rw [h2, atoi_itoa b hb] at h3
  cases h3; rfl
theorem fnm_len (nm : By) (n : Nat) (hn : n ≤ 99) : (fnm nm n).length ≤ nm.length + 22 ∧ 1 ≤ (fnm nm n).length := by
  have : (Lib.itoa (n : Int)).length ≤ 2 := by
    rw [Lib.itoa_nonneg, Lib.decDigits]
    split
    · simp
    · rw [Lib.decDigits, dif_pos (by omega)]; simp
  unfold fnm
  rw [List.length_append, List.length_cons]; omega
/-- frames in a row -/
def cat : List (Nat × By) → By
  | [] => []
  | x :: l => enc x.1 x.2 ++ cat l
theorem cat_app (a b : List (Nat × By)) : cat (a ++ b) = cat a ++ cat b := by
  induction a with
  | nil => rfl
  | cons x a ih => simp only [List.cons_append, cat, ih, List.append_assoc]
theorem enc_ne (k : Nat) (b : By) : enc k b ≠ [] := fun h => by
  have := enc_len k b
  rw [h] at this
  simp only [List.length_nil] at this
  omega
def okF (x : Nat × By) : Prop := x.1 ≤ 2 ∧ x.2.length ≤ 60000
/-- a beginning of a frame, not all of it -/
def Part (p : By) : Prop := ∃ (x : Nat × By) (r : By), okF x ∧ r ≠ [] ∧ enc x.1 x.2 = p ++ r
theorem part_nil : Part [] := ⟨(0, []), enc 0 [], ⟨by decide, by decide⟩, enc_ne _ _, rfl⟩
/-- a log's file: its number, its frames, what stands behind them, how many bytes are synced -/
structure Fi where
  n : Nat
  fr : List (Nat × By)
  p : By
  s : Nat
def Fi.b (f : Fi) : By := cat f.fr ++ f.p
def Fi.fl (nm : By) (f : Fi) : Fl := ⟨fnm nm f.n, f.b, f.s⟩
structure okFi (f : Fi) : Prop where
  fr : ∀ x ∈ f.fr, okF x
  p : Part f.p
  ne : f.b ≠ []
  n : f.n ≤ 99
/-- a plate's files are these -/
structure Holds (nm : By) (fs : List Fl) (ds : List Fi) : Prop where
  mem : ∀ g, g ∈ fs ↔ ∃ f ∈ ds, g = f.fl nm
  asc : ds.Pairwise (fun f g => f.n < g.n)
  ok : ∀ f ∈ ds, okFi f
/-- the numbers of a plate's files -/
structure Named (nm : By) (fs : List Fl) (l : List Nat) : Prop where
  of : ∀ g ∈ fs, ∃ n ∈ l, g.n = fnm nm n
  all : ∀ n ∈ l, ∃ g ∈ fs, g.n = fnm nm n
  asc : l.Pairwise (fun a b => a < b)
  le : ∀ n ∈ l, n ≤ 99
theorem Holds.named {nm : By} {fs : List Fl} {ds : List Fi} (h : Holds nm fs ds) : Named nm fs (ds.map Fi.n) := by
  refine ⟨fun g hg => ?_, fun n hn => ?_, ?_, fun n hn => ?_⟩
  · obtain ⟨f, hf, rfl⟩ := (h.mem g).1 hg
    exact ⟨f.n, List.mem_map_of_mem hf, rfl⟩
  · obtain ⟨f, hf, rfl⟩ := List.mem_map.1 hn
    exact ⟨f.fl nm, (h.mem _).2 ⟨f, hf, rfl⟩, rfl⟩
  · rw [List.pairwise_map]; exact h.asc
  · obtain ⟨f, hf, rfl⟩ := List.mem_map.1 hn
    exact (h.ok f hf).n
theorem Holds.get {nm : By} {fs : List Fl} {ds : List Fi} (h : Holds nm fs ds) (ha : Asc fs) {f : Fi} (hf : f ∈ ds) : Pt.get fs (fnm nm f.n) = some (f.fl nm) :=
  get_mem ha ((h.mem _).2 ⟨f, hf, rfl⟩)
theorem Holds.gB {nm : By} {fs : List Fl} {ds : List Fi} (h : Holds nm fs ds) (ha : Asc fs) {f : Fi} (hf : f ∈ ds) : Pt.gB fs (fnm nm f.n) = f.b ∧ gS fs (fnm nm f.n) = f.s := by
  unfold Pt.gB gS
  rw [h.get ha hf]
  exact ⟨rfl, rfl⟩
theorem Holds.none {nm : By} {fs : List Fl} {ds : List Fi} (h : Holds nm fs ds) {k : Nat} (hk : k ≤ 99) (hn : ∀ f ∈ ds, f.n ≠ k) : Pt.get fs (fnm nm k) = none := by
  rw [get_none]
  intro g hg e
  obtain ⟨f, hf, rfl⟩ := (h.mem g).1 hg
  exact hn f hf (fnm_inj (h.ok f hf).n hk e)
/-- a log: its plate, the file that is written to, how long that is, how many records there are, is it dead -/
structure Wl where
  st : St
  no : Nat
  size : Nat
  count : Nat
  dead : Bool
/-- a plate's answer, and what the log makes of it -/
def fst1 (x : Wl) (r : Nat × St) : Nat × Wl := (r.1, { x with st := r.2, dead := x.dead || r.1 == 9 })
def cutW (nm : By) (x : Wl) (k n : Nat) : Nat × Wl := fst1 x (cut x.st (fnm nm k) (n : Int))
def synW (nm : By) (x : Wl) (k : Nat) : Nat × Wl := fst1 x (syn x.st (fnm nm k))
def appW (nm : By) (x : Wl) (k : Nat) (b : By) : Nat × Wl := fst1 x (app x.st (fnm nm k) b)
def cutsW (nm : By) (x : Wl) : List (Nat × Nat) → Nat × Wl
  | [] => (0, x)
  | p :: l => if (cutW nm x p.1 p.2).1 = 0 then cutsW nm (cutW nm x p.1 p.2).2 l else cutW nm x p.1 p.2
theorem cutsW_app (nm : By) (a b : List (Nat × Nat)) : ∀ x : Wl, cutsW nm x (a ++ b) = if (cutsW nm x a).1 = 0 then cutsW nm (cutsW nm x a).2 b else cutsW nm x a := by
  induction a with
  | nil => intro x; rfl
  | cons p a ih =>
    intro x
    rw [List.cons_append, cutsW, cutsW]
    by_cases h : (cutW nm x p.1 p.2).1 = 0
    · rw [if_pos h, if_pos h, ih]
    · rw [if_neg h, if_neg h, if_neg h]
/-- begin -/
def begW (nm : By) (x : Wl) (n : Nat) (base : By) (l : List Nat) : Nat × Wl :=
  let r := appW nm x n (enc 0 base)
  if r.1 = 0 then
    let r2 := synW nm r.2 n
    if r2.1 = 0 then cutsW nm { r2.2 with no := n, size := (enc 0 base).length, count := 0 } ((l.filter fun k => !(k == n)).map fun k => (k, 0)) else r2
  else r
/-- a record more, in the file that is written to -/
def recW (nm : By) (x : Wl) (b : By) : Nat × Wl :=
  let r := appW nm x x.no (enc 2 b)
  if r.1 = 0 then (0, { r.2 with size := r.2.size + (enc 2 b).length, count := r.2.count + 1 }) else r
/-- Append -/
def addW (nm : By) (most : Nat) (x : Wl) (b : By) : Nat × Wl :=
  if 60000 < b.length then (2, x) else if x.dead then (9, x) else
  if most ≤ x.size then
    let r := synW nm x x.no
    if r.1 = 0 then
      let r2 := appW nm r.2 (x.no + 1) (enc 1 [])
      if r2.1 = 0 then recW nm { r2.2 with no := x.no + 1, size := (enc 1 []).length } b else r2
    else r
  else recW nm x b
/-- Sync -/
def lastW (nm : By) (x : Wl) : Nat × Wl := if x.dead then (9, x) else synW nm x x.no
/-- Checkpoint -/
def chkW (nm : By) (x : Wl) (b : By) (l : List Nat) : Nat × Wl := if 60000 < b.length then (2, x) else if x.dead then (9, x) else begW nm x (x.no + 1) b l
/-- the first frame of a log's i-th file -/
def hdr (i : Nat) (base : By) : Nat × By := if i = 0 then (0, base) else (1, [])
/-- a log's files from one on that begins with a base -/
structure Run (a : Nat) (base : By) (l : List Fi) : Prop where
  num : ∀ (i : Nat) f, l[i]? = some f → f.n = a + i
  hd : ∀ (i : Nat) f, l[i]? = some f → ∃ rs : List By, f.fr = hdr i base :: rs.map fun r => (2, r)
/-- the records of one file, of many -/
def rec1 (f : Fi) : List By := f.fr.tail.map Prod.snd
def recs (l : List Fi) : List By := (l.map rec1).flatten
/-- replay's cuts: what is ahead, the last one's end, what is behind -/
def repC (old : List Fi) (f : Fi) (jk : List Fi) : List (Nat × Nat) :=
  (old.reverse.map fun g => (g.n, 0)) ++ ((if f.p = [] then [] else [(f.n, (cat f.fr).length)]) ++ jk.map fun g => (g.n, 0))
/-- replay -/
def repW (nm : By) (x : Wl) (old pre : List Fi) (f : Fi) (jk : List Fi) : Nat × Wl :=
  let r := cutsW nm x (repC old f jk)
  if r.1 = 0 then synW nm { r.2 with no := f.n, size := (cat f.fr).length, count := (recs (pre ++ [f])).length } f.n else r
end Go.Proofs.YthofbblgoamipaaGreatDoor.Wa
