/-
  Chapter 4, plain lists of bytes: what a text is quoted to, what it is unquoted to. No program here.
-/
import Derived.Test.YtonbpekogfaibaaGreatPl
namespace Go.Proofs.YtonbpekogfaibaaGreat.Fs
abbrev By := List UInt8
def pl (c : UInt8) : Bool := (65 ≤ c && c ≤ 90) || (97 ≤ c && c ≤ 122) || (48 ≤ c && c ≤ 57) || c == 42 || c == 45 || c == 46 || c == 95
def hx (n : UInt8) : UInt8 := if n < 10 then 48 + n else 55 + n
/-- one byte, quoted -/
def q1 (c : UInt8) : By := if pl c then [c] else if c = 32 then [43] else [37, hx (c / 16), hx (c % 16)]
def quote (l : By) : By := l.flatMap q1
theorem q1_len (c : UInt8) : (q1 c).length ≤ 3 := by unfold q1; split <;> (try split) <;> simp
theorem quote_len (l : By) : (quote l).length ≤ 3 * l.length := by
  induction l with
  | nil => simp [quote]
  | cons c l ih => simp only [quote, List.flatMap_cons, List.length_append, List.length_cons] at *; have := q1_len c; omega
theorem quote_snoc (l : By) (c : UInt8) : quote (l ++ [c]) = quote l ++ q1 c := by simp [quote]
/-- a sign's worth -/
def wo (c : UInt8) : Option UInt8 := if 48 ≤ c && c ≤ 57 then some (c - 48) else if 65 ≤ c && c ≤ 70 then some (c - 55) else if 97 ≤ c && c ≤ 102 then some (c - 87) else none
/-- a text, unquoted -/
def unq : By → Option By
  | [] => some []
  | c :: r =>
    if c < 33 || c > 126 then none
    else if c = 37 then
      match r with
      | a :: b :: r' => match wo a, wo b with
        | some x, some y => (unq r').map ((x * 16 + y) :: ·)
        | _, _ => none
      | _ => none
    else (unq r).map ((if c = 43 then 32 else c) :: ·)

theorem unq_bad (c : UInt8) (r : By) (h : c < 33 ∨ c > 126) : unq (c :: r) = none := by
  have h' : (c < 33 || c > 126) = true := by simpa using h
  rcases r with _ | ⟨a, _ | ⟨b, r⟩⟩ <;> simp only [unq, h', if_true]
theorem unq_cons (c : UInt8) (r : By) (h : ¬ (c < 33 ∨ c > 126)) (h37 : c ≠ 37) : unq (c :: r) = (unq r).map ((if c = 43 then 32 else c) :: ·) := by
  have h' : (c < 33 || c > 126) = false := by simpa using h
  rcases r with _ | ⟨a, _ | ⟨b, r⟩⟩ <;> simp only [unq, h', h37, if_false, Bool.false_eq_true]
theorem unq_hex (a b : UInt8) (r : By) : unq (37 :: a :: b :: r) = match wo a, wo b with
        | some x, some y => (unq r).map ((x * 16 + y) :: ·)
        | _, _ => none := by
  have h' : ((37 : UInt8) < 33 || (37 : UInt8) > 126) = false := by decide
  simp only [unq, h', if_false, Bool.false_eq_true, if_true]
theorem unq_hex1 (a : UInt8) : unq [37, a] = none := by simp [unq]
theorem unq_hex0 : unq [37] = none := by simp [unq]
theorem unq_nil : unq [] = some [] := by simp [unq]
theorem map_app (x : Option By) (acc : By) (c : UInt8) : (x.map (c :: ·)).map (acc ++ ·) = x.map ((acc ++ [c]) ++ ·) := by cases x <;> simp
theorem wo_all (c : UInt8) : (wo c).all (· < 16) = true := by revert c; exact all_u8 (by decide +kernel)
theorem wo_lt (c x : UInt8) (h : wo c = some x) : x < 16 := by have := wo_all c; rw [h] at this; simpa using this
/-- what stands between a text's & -/
def splitA : By → List By
  | [] => [[]]
  | c :: r => if c = 38 then [] :: splitA r else match splitA r with
    | p :: ps => (c :: p) :: ps
    | [] => [[c]]
/-- what isn't empty of it -/
def pieces (l : By) : List By := (splitA l).filter (fun p => !p.isEmpty)
/-- a piece's pair: ahead of the first =, behind it -/
def bef (l : By) (c : UInt8) : By := l.takeWhile (· != c)
def aft (l : By) (c : UInt8) : By := l.drop ((bef l c).length + 1)
def pairOf (p : By) : Option (By × By) := match unq (bef p 61), unq (aft p 61) with
  | some n, some v => some (n, v)
  | _, _ => none
/-- the pairs of pieces, behind those that are there -/
def parseGo : List By → List (By × By) → List (By × By) × Int
  | [], acc => (acc, 0)
  | p :: ps, acc => if acc.length = 64 then ([], 2) else match pairOf p with
    | none => ([], 3)
    | some x => parseGo ps (acc ++ [x])
def parse (l : By) : List (By × By) × Int := if l.length > 16384 then ([], 2) else parseGo (pieces l) []
/-- the first pieces are parsed: these pairs are there -/
def Pg (pre : List By) (acc : List (By × By)) : Prop := ∀ rest, parseGo (pre ++ rest) [] = parseGo rest acc
theorem Pg.nil : Pg [] [] := fun _ => rfl
theorem Pg.snoc {pre : List By} {acc : List (By × By)} {x : By} {y : By × By} (h : Pg pre acc) (h1 : acc.length ≠ 64) (h2 : pairOf x = some y) : Pg (pre ++ [x]) (acc ++ [y]) := by
  intro rest
  rw [List.append_assoc, h, List.singleton_append, parseGo, if_neg h1, h2]
theorem Pg.full {pre : List By} {acc : List (By × By)} {x : By} (h : Pg pre acc) (h1 : acc.length = 64) (rest : List By) : parseGo ((pre ++ [x]) ++ rest) [] = ([], 2) := by
  rw [List.append_assoc, h, List.singleton_append, parseGo, if_pos h1]
theorem Pg.bad {pre : List By} {acc : List (By × By)} {x : By} (h : Pg pre acc) (h1 : acc.length ≠ 64) (h2 : pairOf x = none) (rest : List By) : parseGo ((pre ++ [x]) ++ rest) [] = ([], 3) := by
  rw [List.append_assoc, h, List.singleton_append, parseGo, if_neg h1, h2]
end Go.Proofs.YtonbpekogfaibaaGreat.Fs
