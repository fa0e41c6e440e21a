/-
  Chapter 4: the reference's Parse answers what the program's does. Condition: a text of at most 2^47 bytes.
-/
import Derived.Test.YtemlggemomiaeaaFg
namespace Go.Proofs.Ytemlggemomiaeaa
open Go.RowKit

/-- where a piece ends: i is the text's end, or a & stands there -/
theorem seg_step (l : List UInt8) (f i : Nat) (h1 : f ≤ i) (h2 : i ≤ l.length) (h3 : i - f ≤ (Cut.before (l.drop f) 38).length) (h4 : i = l.length ∨ (∃ h : i < l.length, l[i] = 38)) :
    (l.take i).drop f = Cut.before (l.drop f) 38 ∧ Fs.pieces (l.drop f) = (if i = f then [] else [Cut.before (l.drop f) 38]) ++ Fs.pieces (l.drop (i + 1)) := by
  have hlen : (Cut.before (l.drop f) 38).length = i - f := by
    rcases h4 with h4 | ⟨h4, h5⟩
    · have := Cut.before_le (l.drop f) 38
      rw [List.length_drop] at this; omega
    · have := (bef_at (l.drop f) 38 (i - f) (by rw [List.length_drop]; omega) h3).1 (by rw [List.getElem_drop]; rw [← h5]; congr 1; omega)
      exact this
  have hseg : (l.take i).drop f = Cut.before (l.drop f) 38 := by
    rw [← Cut.take_eq, hlen, List.drop_take]
  refine ⟨hseg, ?_⟩
  rw [pieces_cut (l.drop f)]
  have ha : Cut.after (l.drop f) 38 = l.drop (i + 1) := by
    unfold Cut.after; rw [hlen, List.drop_drop]; congr 1; omega
  have he : (Cut.before (l.drop f) 38).isEmpty = decide (i = f) := by
    rw [Bool.eq_iff_iff, List.isEmpty_iff_length_eq_zero, hlen]; simp; omega
  rw [ha, he]
  congr 1
  · by_cases h : i = f <;> simp [h]
  · by_cases hh : Cut.has (l.drop f) 38 = true
    · rw [if_pos hh]
    · rw [if_neg hh]
      have hn := Cut.not_mem _ _ (by simpa [Cut.has] using hh)
      have : i = l.length := by rw [hn, List.length_drop] at hlen; omega
      rw [List.drop_of_length_le (by omega)]; rfl

structure RpI (s : ByteArray) (w : World) (f i : Nat) (v : Value) (acc : List (List UInt8 × List UInt8)) (wr : World) : Prop where
  le : f ≤ i
  le2 : i ≤ s.size + 1
  fin : i = s.size + 1 → f = s.size + 1
  seg : i - f ≤ (Cut.before (s.data.toList.drop f) 38).length
  ex : ∃ done, Fs.Pg done acc ∧ Fs.pieces s.data.toList = done ++ Fs.pieces (s.data.toList.drop f)
  len : acc.length ≤ 64
  own : wr.ownsRow w.heap.size 44 2 v acc.length (prCells acc)
  below : Below w.heap.size w wr
theorem prRet_some (l : List UInt8) (n v : List UInt8) (h : Fs.pairOf l = some (n, v)) : prRet l = .tuple #[.agg #[.string ⟨n.toArray⟩, .string ⟨v.toArray⟩], .int .i64 0] := by unfold prRet; rw [h]
theorem prRet_none (l : List UInt8) (h : Fs.pairOf l = none) : prRet l = .tuple #[.agg #[.string ⟨#[]⟩, .string ⟨#[]⟩], .int .i64 3] := by unfold prRet; rw [h]

set_option maxRecDepth 20000 in
set_option maxHeartbeats 1000000 in
theorem rparse_any (s : ByteArray) (w : World) (hs : s.size ≤ 140737488355328) :
    Calls Try.prog 18 #[.string s] w (PsRet s w) := by
  have hsz : s.data.toList.length = s.size := by rw [Array.length_toList]; rfl
  have HS := Lib.hid hsz
  clear hsz
  obtain ⟨i0, hi, hz0, hz1, hz2⟩ := info_parts pr_info
  by_cases hs2 : s.size ≤ 16384
  case neg =>
    have hle : (16384 : Int) < (s.size : Int) := by omega
    have hpa : Fs.parse s.data.toList = ([], 2) := by unfold Fs.parse; rw [if_pos (by rw [HS.out]; omega)]
    have HP := Lib.hid hpa
    clear hpa
    go_enter Try.func18, Try.ntmps18
    go_wp2
    go_ret2
    exact ⟨.slice none 0 0, by rw [HP.out]; rfl, by rw [HP.out]; exact World.ownsRow_nil _ _ _ _, Below.refl _ _⟩
  case pos =>
  have hle : decide (16384 < (s.size : Int)) = false := by simp; omega
  go_enter Try.func18, Try.ntmps18
  go_wp2
  go_loopw [4, 5, 6] (fun v f i wr => ∃ (fn k : Nat) (acc : List (List UInt8 × List UInt8)), f = .int .i64 fn ∧ i = .int .i64 k ∧ RpI s w fn k v acc wr) (fun _ _ i _ => s.size + 1 - (intOf i).toNat)
  case atStart => exact ⟨0, 0, [], rfl, rfl, ⟨by omega, by omega, by omega, by omega, ⟨[], Fs.Pg.nil, rfl⟩, by simp, World.ownsRow_nil _ _ _ _, Below.refl _ _⟩⟩
  case round =>
    obtain ⟨f, k, acc, rfl, rfl, hI⟩ := hrel
    have hfk := hI.le
    have hk2 := hI.le2
    by_cases hle2 : k ≤ s.size
    case neg =>
      have hfe := hI.fin (by omega)
      obtain ⟨done, hpg, hpc⟩ := hI.ex
      have hpa : Fs.parse s.data.toList = (acc, 0) := by
        unfold Fs.parse; rw [if_neg (by rw [HS.out]; omega), hpc, hfe, List.drop_of_length_le (by rw [HS.out]; omega), hpg]; rfl
      have HP := Lib.hid hpa
      clear hpa hpc hpg hfe
      go_wp2
      go_ret2
      exact ⟨u4, by rw [HP.out]; rfl, by rw [HP.out]; exact hI.own, hI.below⟩
    case pos =>
    by_cases hamp : k = s.size ∨ ∃ h : k < s.size, s[k] = 38
    case neg =>
      have hlt : k < s.size := by omega
      obtain ⟨c, hc⟩ : ∃ c, s[k] = c := ⟨_, rfl⟩
      have hne : c ≠ 38 := fun e => hamp (.inr ⟨hlt, by rw [hc, e]⟩)
      have h1 : ((c.toNat : Int) != 38) = true := by rw [bne_iff_ne]; intro e; exact hne (by rw [← UInt8.toNat_inj]; simp; omega)
      have hix := idx_str s k hlt c hc
      have hseg := (bef_at (s.data.toList.drop f) 38 (k - f) (by rw [List.length_drop, HS.out]; omega) hI.seg).2 (by
        rw [List.getElem_drop]
        have : s.data.toList[f + (k - f)]'(by rw [HS.out]; omega) = s[k] := by
          have e : f + (k - f) = k := by omega
          simp only [e]; rfl
        rw [this, hc]; exact hne)
      have hI' : RpI s w f (k + 1) u4 acc wr := ⟨by omega, by omega, by omega, by omega, hI.ex, hI.len, hI.own, hI.below⟩
      clear hamp hc hne hseg hI
      go_wp2
      go_roundw
      case rel => exact ⟨f, k + 1, acc, rfl, by go_num, hI'⟩
      case measure => simp [intOf]; omega
    case pos =>
    have hfs : f ≤ s.size := by omega
    obtain ⟨hsg, hps⟩ := seg_step s.data.toList f k hfk (by rw [HS.out]; omega) hI.seg (by
      rcases hamp with h | ⟨h, h5⟩
      · exact .inl (by rw [HS.out]; exact h)
      · exact .inr ⟨by rw [HS.out]; exact h, h5⟩)
    obtain ⟨done, hpg, hpc⟩ := hI.ex
    rw [hps] at hpc
    by_cases hkf : k = f
    case pos =>
      rw [if_pos hkf, List.nil_append] at hpc
      have hI' : RpI s w (k + 1) (k + 1) u4 acc wr := ⟨by omega, by omega, by omega, by omega, ⟨done, hpg, hpc⟩, hI.len, hI.own, hI.below⟩
      have hgt : ¬ ((f : Int) < (k : Int)) := by omega
      subst hkf
      clear hpc hpg hps hsg hI
      rcases hamp with h | ⟨h, h5⟩
      · subst h
        go_wp2
        go_roundw
        case rel => exact ⟨s.size + 1, s.size + 1, acc, by go_num, by go_num, hI'⟩
        case measure => simp [intOf]
      · have hix := idx_str s k h 38 h5
        clear h5
        go_wp2
        go_roundw
        case rel => exact ⟨k + 1, k + 1, acc, by go_num, by go_num, hI'⟩
        case measure => simp [intOf]; omega
    case neg =>
    rw [if_neg hkf] at hpc
    have hgt : (f : Int) < (k : Int) := by omega
    obtain ⟨a0, cap, rfl⟩ := (Rd.of_own hI.own).slice
    have hsx : (s.extract f k).data.toList = Cut.before (s.data.toList.drop f) 38 := by rw [ext_list]; exact hsg
    have hse : (s.extract f k).size ≤ 140737488355328 := by rw [ByteArray.size_extract]; omega
    clear hps hsg
    rcases hamp with h | ⟨h, h5⟩
    · subst h
      by_cases h64 : acc.length = 64
      · have h64' : ((acc.length : Int) == 64) = true := by simp [h64]
        have hpa : Fs.parse s.data.toList = ([], 2) := by
          unfold Fs.parse; rw [if_neg (by rw [HS.out]; omega), hpc, hpg, List.singleton_append, Fs.parseGo, if_pos h64]
        have HP := Lib.hid hpa
        have hbl := hI.below
        clear hpa hpc hpg h64 hI
        go_wp2
        go_ret2
        exact ⟨.slice none 0 0, by rw [HP.out]; rfl, by rw [HP.out]; exact World.ownsRow_nil _ _ _ _, hbl⟩
      · have h64' : ((acc.length : Int) == 64) = false := by simp; omega
        go_wp2_with fail
        refine (rpair_any _ _ hse).mono ?_
        rw [hsx]
        clear hse hsx
        cases hpo : Fs.pairOf (Cut.before (s.data.toList.drop f) 38) with
        | none =>
          rw [prRet_none _ hpo]
          rintro e w1 ⟨rfl, hb1⟩
          have hpa : Fs.parse s.data.toList = ([], 3) := by
            unfold Fs.parse; rw [if_neg (by rw [HS.out]; omega), hpc, hpg, List.singleton_append, Fs.parseGo, if_neg h64, hpo]
          have HP := Lib.hid hpa
          have hbl := hI.below.trans (hb1.mono hI.below.size)
          clear hpa hpc hpg hpo h64 hI
          go_wp2
          go_ret2
          exact ⟨.slice none 0 0, by rw [HP.out]; rfl, by rw [HP.out]; exact World.ownsRow_nil _ _ _ _, hbl.alloc hbl.size _⟩
        | some nv =>
          obtain ⟨n, v⟩ := nv
          rw [prRet_some _ n v hpo]
          rintro e w1 ⟨rfl, hb1⟩
          have hown := own_below hI.own hb1
          have hbl := hI.below.trans (hb1.mono hI.below.size)
          have hbs := hbl.size
          have hpg' := hpg.snoc h64 hpo
          have HG := Lib.hid hpg'
          have HC := Lib.hid hpc
          have hlen := hI.len
          clear hpo hpg hpc hpg' hI
          go_wp2_with (at_builtin; go_loud (refine wpList_append_own _ rfl (.tmp 45) (.tmp 47) 30 rfl w.heap.size 44 i0 (.agg #[.string ⟨#[]⟩, .string ⟨#[]⟩]) 2 32 Try.underlying30 hi hz0 hz1 hz2 rfl (by decide) _ _ _ rfl ((hown.alloc _).alloc _) ⟨w1.heap.size + 1, 0, none⟩ 1 1 (prCell (n, v)) rfl rfl (cells_at _ _ _ _ (by simp)) (pr_one _) ?c3 ?c4 ?c5 ?_))
          case c3 => unfold maxLen; omega
          case c4 => omega
          case c5 => simp; omega
          intro v' w2 hown' hgrow _
          have hn := below_app (hbl.alloc hbs _) (by simp; omega) hgrow (fun r hr => (hown.lt r hr).1)
          have hI' : RpI s w (s.size + 1) (s.size + 1) v' (acc ++ [(n, v)]) w2 := ⟨by omega, by omega, by omega, by omega, ⟨done ++ [Cut.before (s.data.toList.drop f) 38], HG.out, by rw [HC.out]; simp⟩, by simp; omega, own_cast hown' (by simp) (by rw [prCells_snoc]), hn⟩
          clear hown hown' hgrow
          go_wp2
          go_roundw
          case rel => exact ⟨s.size + 1, s.size + 1, _, by go_num, by go_num, hI'⟩
          case measure => simp [intOf]
    · have hix := idx_str s k h 38 h5
      clear h5
      by_cases h64 : acc.length = 64
      · have h64' : ((acc.length : Int) == 64) = true := by simp [h64]
        have hpa : Fs.parse s.data.toList = ([], 2) := by
          unfold Fs.parse; rw [if_neg (by rw [HS.out]; omega), hpc, hpg, List.singleton_append, Fs.parseGo, if_pos h64]
        have HP := Lib.hid hpa
        have hbl := hI.below
        clear hpa hpc hpg h64 hI
        go_wp2
        go_ret2
        exact ⟨.slice none 0 0, by rw [HP.out]; rfl, by rw [HP.out]; exact World.ownsRow_nil _ _ _ _, hbl⟩
      · have h64' : ((acc.length : Int) == 64) = false := by simp; omega
        go_wp2_with fail
        refine (rpair_any _ _ hse).mono ?_
        rw [hsx]
        clear hse hsx
        cases hpo : Fs.pairOf (Cut.before (s.data.toList.drop f) 38) with
        | none =>
          rw [prRet_none _ hpo]
          rintro e w1 ⟨rfl, hb1⟩
          have hpa : Fs.parse s.data.toList = ([], 3) := by
            unfold Fs.parse; rw [if_neg (by rw [HS.out]; omega), hpc, hpg, List.singleton_append, Fs.parseGo, if_neg h64, hpo]
          have HP := Lib.hid hpa
          have hbl := hI.below.trans (hb1.mono hI.below.size)
          clear hpa hpc hpg hpo h64 hI
          go_wp2
          go_ret2
          exact ⟨.slice none 0 0, by rw [HP.out]; rfl, by rw [HP.out]; exact World.ownsRow_nil _ _ _ _, hbl.alloc hbl.size _⟩
        | some nv =>
          obtain ⟨n, v⟩ := nv
          rw [prRet_some _ n v hpo]
          rintro e w1 ⟨rfl, hb1⟩
          have hown := own_below hI.own hb1
          have hbl := hI.below.trans (hb1.mono hI.below.size)
          have hbs := hbl.size
          have hpg' := hpg.snoc h64 hpo
          have HG := Lib.hid hpg'
          have HC := Lib.hid hpc
          have hlen := hI.len
          clear hpo hpg hpc hpg' hI
          go_wp2_with (at_builtin; go_loud (refine wpList_append_own _ rfl (.tmp 45) (.tmp 47) 30 rfl w.heap.size 44 i0 (.agg #[.string ⟨#[]⟩, .string ⟨#[]⟩]) 2 32 Try.underlying30 hi hz0 hz1 hz2 rfl (by decide) _ _ _ rfl ((hown.alloc _).alloc _) ⟨w1.heap.size + 1, 0, none⟩ 1 1 (prCell (n, v)) rfl rfl (cells_at _ _ _ _ (by simp)) (pr_one _) ?c3 ?c4 ?c5 ?_))
          case c3 => unfold maxLen; omega
          case c4 => omega
          case c5 => simp; omega
          intro v' w2 hown' hgrow _
          have hn := below_app (hbl.alloc hbs _) (by simp; omega) hgrow (fun r hr => (hown.lt r hr).1)
          have hI' : RpI s w (k + 1) (k + 1) v' (acc ++ [(n, v)]) w2 := ⟨by omega, by omega, by omega, by omega, ⟨done ++ [Cut.before (s.data.toList.drop f) 38], HG.out, by rw [HC.out]; simp⟩, by simp; omega, own_cast hown' (by simp) (by rw [prCells_snoc]), hn⟩
          clear hown hown' hgrow
          go_wp2
          go_roundw
          case rel => exact ⟨k + 1, k + 1, _, by go_num, by go_num, hI'⟩
          case measure => simp [intOf]; omega
end Go.Proofs.Ytemlggemomiaeaa
