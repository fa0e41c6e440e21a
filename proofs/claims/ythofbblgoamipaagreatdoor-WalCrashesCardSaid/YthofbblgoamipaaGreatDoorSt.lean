/-
  Texts as lists of bytes: general lemmas over this seat's program (an index, a sum, a text out of bytes).
-/
import Derived.Test.YthofbblgoamipaaGreatDoorProg
import Derived.Test.YthofbblgoamipaaGreatDoorGen
import Derived.Lib.Strings
import Derived.Lib.IndexBytes
namespace Go.Proofs.YthofbblgoamipaaGreatDoor
open Go.RowKit

theorem st_ext (a b : ByteArray) (h : a.data.toList = b.data.toList) : a = b := by
  cases a; cases b; congr 1; exact Array.toList_inj.1 h
theorem st_mk (s : ByteArray) : s = ⟨s.data.toList.toArray⟩ := by apply st_ext; simp
theorem st_size (l : List UInt8) : (⟨l.toArray⟩ : ByteArray).size = l.length := by simp [ByteArray.size]
theorem st_add (x y z : List UInt8) (h : x.length + y.length ≤ 9223372036854775807) (hz : z = x ++ y) (w : World) : (Op.stringOp .add ⟨x.toArray⟩ ⟨y.toArray⟩).run Tryz.prog w = .ok (.string ⟨z.toArray⟩) w := by
  subst hz
  rw [run_string_add_sum w _ _ (by simp [ByteArray.size]; omega), ByteArray.mk_append_mk]
theorem st_extract (l : List UInt8) (a b : Nat) : (⟨l.toArray⟩ : ByteArray).extract a b = ⟨((l.take b).drop a).toArray⟩ := by
  apply st_ext
  rw [Lib.extract_data]
  simp [List.drop_take]
theorem ix_str (s : ByteArray) (k : Nat) (h : k < s.size) (c : UInt8) (hc : s[k] = c) (w : World) : (Instr.index 9 (.string s) (.int .i64 (k : Int))).run Tryz.prog w = .ok (.int .u8 (c.toNat : Int)) w := by
  subst hc
  rw [run_index_string w _ s .i64 k Tryz.underlying9]
  simp [h]
theorem ix_int (s : ByteArray) (k : Nat) (h : k < s.size) (c : UInt8) (hc : s[k] = c) (i : Int) (hi : i = (k : Int)) (w : World) : (Instr.index 9 (.string s) (.int .i64 i)).run Tryz.prog w = .ok (.int .u8 (c.toNat : Int)) w := by
  subst hi; exact ix_str s k h c hc w
theorem u8_row : (Tryz.prog.info? 5).map (fun i => (i.zero, i.size, i.bytes)) = some (some (.int .u8 0), 1, 1) := by kernel_rfl
theorem str_row : (Tryz.prog.info? 9).map (fun i => (i.zero, i.size, i.bytes)) = some (some (.string ⟨#[]⟩), 1, 16) := by kernel_rfl
end Go.Proofs.YthofbblgoamipaaGreatDoor
