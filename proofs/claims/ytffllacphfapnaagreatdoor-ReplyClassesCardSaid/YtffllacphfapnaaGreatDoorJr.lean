/-
  Chapter 5: the reader's small methods: take, byte, sign. Each goes on, or panics with the reader's own word.
-/
import Derived.Test.YtffllacphfapnaaGreatDoorJd
import Derived.Recover
namespace Go.Proofs.YtffllacphfapnaaGreatDoor
open Go.RowKit Js

/-- the reader's own panic -/
def wrongP : List PanicEntry := [{ v := .iface 72 (.agg #[]), recovered := false }]
theorem tak_has (p s : By) : Lib.hasPrefix s p = (tak p s).isSome := by
  unfold tak Lib.hasPrefix; cases p.isPrefixOf s <;> rfl
theorem tak_trim (p s r : By) (h : tak p s = some r) : Lib.trimPrefix s p = r := by
  unfold tak at h
  unfold Lib.trimPrefix Lib.hasPrefix
  split at h
  · rename_i hp; rw [if_pos hp]; simpa using h
  · cases h

set_option maxRecDepth 20000 in
set_option maxHeartbeats 1000000 in
theorem take_ok (b : Nat) (s p r : By) (w : World) (h : Blk w b 76 [.string ⟨s.toArray⟩]) (hr : tak p s = some r) :
    Calls Tryz.prog 30 #[.pointer (some ⟨b, 0, none⟩), .string ⟨p.toArray⟩] w fun e w' => e = .returned (.tuple #[]) ∧ w' = w.setCell ⟨b, 0, none⟩ (.string ⟨r.toArray⟩) := by
  have c0 := h.cell 0 rfl
  have f0 := h.frozen 0
  have h1 := tak_has p s
  have h2 := tak_trim p s r hr
  rw [hr] at h1
  have hb := Lib.hid h
  clear h hr
  have key := Tryz.strings_CutPrefix ⟨s.toArray⟩ ⟨p.toArray⟩
  have e1 : (⟨s.toArray⟩ : ByteArray).data.toList = s := rfl
  have e2 : (⟨p.toArray⟩ : ByteArray).data.toList = p := rfl
  rw [e1, e2, h1, h2] at key
  clear h1 h2 e1 e2
  go_enter Tryz.func30, Tryz.ntmps30
  go_wp2_with (go_at_call 49; refine (key _).mono ?_; rintro e w' ⟨rfl, rfl⟩)
  go_wp2
  go_end0
  exact ⟨rfl, rfl⟩
set_option maxRecDepth 20000 in
set_option maxHeartbeats 1000000 in
theorem take_bad (b : Nat) (s p : By) (w : World) (h : Blk w b 76 [.string ⟨s.toArray⟩]) (hr : tak p s = none) :
    Calls Tryz.prog 30 #[.pointer (some ⟨b, 0, none⟩), .string ⟨p.toArray⟩] w fun e w' => e = .panicked wrongP ∧ w' = w := by
  have c0 := h.cell 0 rfl
  have f0 := h.frozen 0
  have h1 := tak_has p s
  rw [hr] at h1
  have hb := Lib.hid h
  clear h hr
  have key := Tryz.strings_CutPrefix ⟨s.toArray⟩ ⟨p.toArray⟩
  have e1 : (⟨s.toArray⟩ : ByteArray).data.toList = s := rfl
  have e2 : (⟨p.toArray⟩ : ByteArray).data.toList = p := rfl
  rw [e1, e2, h1] at key
  clear h1 e1 e2
  go_enter Tryz.func30, Tryz.ntmps30
  go_wp2_with (go_at_call 49; refine (key _).mono ?_; rintro e w' ⟨rfl, rfl⟩)
  go_wp2
  exact ⟨rfl, rfl, rfl⟩

set_option maxRecDepth 20000 in
set_option maxHeartbeats 1000000 in
theorem byte_ok (b : Nat) (c : UInt8) (r : By) (w : World) (h : Blk w b 76 [.string ⟨(c :: r).toArray⟩]) (hl : r.length ≤ 1000000) :
    Calls Tryz.prog 76 #[.pointer (some ⟨b, 0, none⟩)] w fun e w' => e = .returned (.int .u8 (c.toNat : Int)) ∧ w' = w.setCell ⟨b, 0, none⟩ (.string ⟨r.toArray⟩) := by
  have c0 := h.cell 0 rfl
  have f0 := h.frozen 0
  have hne : ((⟨(c :: r).toArray⟩ : ByteArray).toList == (⟨#[]⟩ : ByteArray).toList) = false := by
    rw [ByteArray.toList_eq, ByteArray.toList_eq]; rfl
  have hix := ix_str ⟨(c :: r).toArray⟩ 0 (by rw [st_size]; simp) c rfl
  have hsl : ∀ w : World, (Instr.slice 9 (.string ⟨(c :: r).toArray⟩) (some (.int .i64 1)) none none).run Tryz.prog w = .ok (.string ⟨r.toArray⟩) w := by
    intro w
    rw [run_slice_string_l w _ _ Tryz.underlying9 .i64 1 (by decide) (by rw [st_size]; simp; omega), show (1 : Int).toNat = 1 from rfl, st_extract, st_size]
    simp
  clear h
  go_enter Tryz.func76, Tryz.ntmps76
  go_wp2
  go_ret
  exact ⟨ret_int rfl, rfl⟩
set_option maxRecDepth 20000 in
theorem byte_bad (b : Nat) (w : World) (h : Blk w b 76 [.string ⟨#[]⟩]) :
    Calls Tryz.prog 76 #[.pointer (some ⟨b, 0, none⟩)] w fun e w' => e = .panicked wrongP ∧ w' = w := by
  have c0 := h.cell 0 rfl
  have f0 := h.frozen 0
  clear h
  go_enter Tryz.func76, Tryz.ntmps76
  go_wp2
  exact ⟨rfl, rfl, rfl⟩

def hexs : By := [48, 49, 50, 51, 52, 53, 54, 55, 56, 57, 97, 98, 99, 100, 101, 102]
theorem ix_wo (c : UInt8) : Lib.indexByte hexs c = match wo c with | some x => (x.toNat : Int) | none => -1 := by
  revert c; exact all_u8 (by decide +kernel)
theorem wo_lt (c x : UInt8) (h : wo c = some x) : x.toNat < 16 := by have := (wo_back c x h).2; rw [UInt8.lt_iff_toNat_lt] at this; simpa using this
set_option maxRecDepth 20000 in
set_option maxHeartbeats 1000000 in
theorem sign_ok (b : Nat) (c x : UInt8) (r : By) (w : World) (h : Blk w b 76 [.string ⟨(c :: r).toArray⟩]) (hl : r.length ≤ 1000000) (hx : wo c = some x) :
    Calls Tryz.prog 77 #[.pointer (some ⟨b, 0, none⟩)] w fun e w' => e = .returned (.int .u8 (x.toNat : Int)) ∧ w' = w.setCell ⟨b, 0, none⟩ (.string ⟨r.toArray⟩) := by
  have hi := ix_wo c
  rw [hx] at hi
  have hlt := wo_lt c x hx
  simp only at hi
  have key := fun w => Tryz.strings_IndexByte ⟨hexs.toArray⟩ (c.toNat : Int) w
  have e1 : (⟨hexs.toArray⟩ : ByteArray).data.toList = hexs := rfl
  have e2 : (c.toNat : Int).toNat.toUInt8 = c := by simp
  rw [e1, e2, hi] at key
  have hn : ¬ (x.toNat : Int) < 0 := by omega
  have hw : IntKind.u8.wrap (x.toNat : Int) = (x.toNat : Int) := by simp [IntKind.wrap, IntKind.bits, IntKind.signed]; omega
  clear e1 e2 hi
  go_enter Tryz.func77, Tryz.ntmps77
  go_wp2_with (first | (go_at_call 76; refine (byte_ok b c r _ h hl).mono ?_; rintro e w' ⟨rfl, rfl⟩) | (go_at_call 98; refine (key _).mono ?_; rintro e w' ⟨rfl, rfl⟩))
  go_wp2
  go_ret
  exact ⟨ret_int rfl, rfl⟩
set_option maxRecDepth 20000 in
set_option maxHeartbeats 1000000 in
theorem sign_bad (b : Nat) (c : UInt8) (r : By) (w : World) (h : Blk w b 76 [.string ⟨(c :: r).toArray⟩]) (hl : r.length ≤ 1000000) (hx : wo c = none) :
    Calls Tryz.prog 77 #[.pointer (some ⟨b, 0, none⟩)] w fun e w' => e = .panicked wrongP ∧ w' = w.setCell ⟨b, 0, none⟩ (.string ⟨r.toArray⟩) := by
  have hi := ix_wo c
  rw [hx] at hi
  simp only at hi
  have key := fun w => Tryz.strings_IndexByte ⟨hexs.toArray⟩ (c.toNat : Int) w
  have e1 : (⟨hexs.toArray⟩ : ByteArray).data.toList = hexs := rfl
  have e2 : (c.toNat : Int).toNat.toUInt8 = c := by simp
  rw [e1, e2, hi] at key
  clear e1 e2 hi
  go_enter Tryz.func77, Tryz.ntmps77
  go_wp2_with (first | (go_at_call 76; refine (byte_ok b c r _ h hl).mono ?_; rintro e w' ⟨rfl, rfl⟩) | (go_at_call 98; refine (key _).mono ?_; rintro e w' ⟨rfl, rfl⟩))
  go_wp2
  exact ⟨rfl, rfl, rfl⟩
set_option maxRecDepth 20000 in
set_option maxHeartbeats 1000000 in
theorem sign_end (b : Nat) (w : World) (h : Blk w b 76 [.string ⟨#[]⟩]) :
    Calls Tryz.prog 77 #[.pointer (some ⟨b, 0, none⟩)] w fun e w' => e = .panicked wrongP ∧ w' = w := by
  go_enter Tryz.func77, Tryz.ntmps77
  go_wp2_with (go_at_call 76; refine (byte_bad b _ h).mono ?_; rintro e w' ⟨rfl, rfl⟩)
  go_wp2
  exact ⟨rfl, rfl, rfl⟩
end Go.Proofs.YtffllacphfapnaaGreatDoor
