/-
  Chapter 5: the program's Parse, walked at every text. Conditions: the three listed variables lie as the program's text lays them.
-/
import Derived.Test.YtffllacphfapnaaGreatDoorJx
import Derived.Test.YtffllacphfapnaaGreatDoorJw
namespace Go.Proofs.YtffllacphfapnaaGreatDoor
open Go.RowKit Js

/-- what Parse does -/
def PaR (s : By) (w : World) (e : Ending) (w' : World) : Prop := ∃ v, e = .returned (.tuple #[v, .int .i64 (parse s).2]) ∧ OwnM w' w.heap.size v (parse s).1 ∧ Below w.heap.size w w'
theorem PaR.no {s : By} {w W : World} {k : Int} (h : parse s = ([], k)) (hb : Below w.heap.size w W) : PaR s w (.returned (.tuple #[.slice none 0 0, .int .i64 k])) W :=
  ⟨_, by rw [h], by rw [h]; exact OwnM.nil _ _, hb⟩
theorem PaR.yes {s : By} {w W : World} {v : Value} {L : List Mb} {B : Nat} (h : parse s = (L, 0)) (hown : OwnM W B v L) (hB : w.heap.size ≤ B) (hb : Below w.heap.size w W) : PaR s w (.returned (.tuple #[v, .int .i64 0])) W :=
  ⟨_, by rw [h], by rw [h]; exact own_mono hown hB, hb⟩

theorem PN.out {s : By} {w W : World} {p q : Nat} (h : PN s) (hs : ¬ 16384 < s.length) (hb : Below w.heap.size w W) (hp : w.heap.size ≤ p) (hq : w.heap.size ≤ q) :
    PaR s w (.returned (.tuple #[.slice none 0 0, .int .i64 3])) (((W.alloc (.cells #[] 72)).setCell ⟨p, 0, none⟩ (.slice none 0 0)).setCell ⟨q, 0, none⟩ (.int .i64 3)) :=
  PaR.no (h.parse hs) (((hb.alloc hb.size _).setCell hp _).setCell hq _)

set_option maxRecDepth 20000 in
set_option maxHeartbeats 4000000 in
theorem jparse_any (s : By) (w : World) (hL : Hid (LaidB w.heap.size w)) :
    Calls Tryz.prog 15 #[.string ⟨s.toArray⟩] w (PaR s w) := by
  have hmf : ∀ (fn : Fn) (first cap : Array Value) (w : World), (Instr.makeFunc fn first cap).run Tryz.prog w = .ok (.func fn first cap) w := fun _ _ _ _ => rfl
  obtain ⟨i0, hi, hz0, hz1, hz2⟩ := info_parts mb_row
  have hss := st_size s
  by_cases hlong : 16384 < s.length
  · have HP : Hid (parse s = ([], 2)) := Lib.hid (by unfold parse; rw [if_pos hlong])
    have h2 : (16384 : Int) < (s.length : Int) := by omega
    go_enter_defers Tryz.func15, Tryz.ntmps15
    go_wp2
    refine ⟨_, ?_, PaR.no HP.out ?_⟩
    · simp [results, Tryz.results15, go_sem]
    · exact ((Below.refl _ _).alloc (Nat.le_refl _) _).alloc (by simp) _
  have h2 : ¬ (16384 : Int) < (s.length : Int) := by omega
  have hb0 : Below w.heap.size w (((w.alloc (.cells #[.slice none 0 0] 46)).alloc (.cells #[.int .i64 0] 43)).alloc (.cells #[.string ⟨s.toArray⟩] 76)) :=
    (((Below.refl _ _).alloc (Nat.le_refl _) _).alloc (by simp) _).alloc (by simp; omega) _
  have hp0 : Blk (((w.alloc (.cells #[.slice none 0 0] 46)).alloc (.cells #[.int .i64 0] 43)).alloc (.cells #[.string ⟨s.toArray⟩] 76)) w.heap.size 46 [.slice none 0 0] := ((Blk.new w _ _).alloc _).alloc _
  have hq0 : Blk (((w.alloc (.cells #[.slice none 0 0] 46)).alloc (.cells #[.int .i64 0] 43)).alloc (.cells #[.string ⟨s.toArray⟩] 76)) (w.heap.size + 1) 43 [.int .i64 0] := by
    have h := (Blk.new (w.alloc (.cells #[.slice none 0 0] 46)) 43 [.int .i64 0]).alloc (.cells #[.string ⟨s.toArray⟩] 76)
    simpa using h
  have hr0 : RB (w.heap.size + 1 + 1) (((w.alloc (.cells #[.slice none 0 0] 46)).alloc (.cells #[.int .i64 0] 43)).alloc (.cells #[.string ⟨s.toArray⟩] 76)) s := by
    have h := Blk.new ((w.alloc (.cells #[.slice none 0 0] 46)).alloc (.cells #[.int .i64 0] 43)) 76 [.string ⟨s.toArray⟩]
    simpa using h
  have HLo := Lib.hid hlong
  clear hlong
  cases ht : tak [123] s with
  | none =>
    have HN := Lib.hid (PN.noOpen ht)
    go_enter_defers Tryz.func15, Tryz.ntmps15
    go_wp2_with fail
    refine (takeX (w.heap.size + 1 + 1) s [123] _ hr0 ht).mono ?_
    rintro e w2 ⟨rfl, hg2⟩
    have hp2 := hp0.grown hg2 (fun r hr e => by cases hr; omega)
    have hq2 := hq0.grown hg2 (fun r hr e => by cases hr; omega)
    have hb2 := hb0.trans (g_from hg2 (by omega) hb0.size)
    go_wp2
    exact parse_out rfl rfl hp2 hq2 (by omega) (PN.out HN.out HLo.out hb2 (by omega) (by omega))
  | some r0 =>
  have HP0 := Lib.hid (PI.start ht)
  have hr0l : Hid (r0.length ≤ 16384) := Lib.hid (by have h := congrArg List.length (tak_some ht); simp at h; have := HLo.out; omega)
  go_enter_defers Tryz.func15, Tryz.ntmps15
  go_wp2_with fail
  refine (take2 (w.heap.size + 1 + 1) s [123] r0 _ hr0 ht).mono ?_
  rintro e w2 ⟨rfl, hr2, hg2⟩
  have hp2 := hp0.grown hg2 (fun r hr e => by cases hr; omega)
  have hq2 := hq0.grown hg2 (fun r hr e => by cases hr; omega)
  have hb2 := hb0.trans (g_from hg2 (by omega) hb0.size)
  have hst0 : PSt w w2 (.slice none 0 0) [] r0 := ⟨hp2, hq2, hr2, OwnM.nil _ _, hb2⟩
  clear hp0 hq0 hr0 hb0 hg2 ht hp2 hq2 hr2 hb2
  go_wp2_with fail
  go_loopw [7] (fun _ wr => ∃ (v : Value) (L : List Mb) (r : By), Hid (PI s L r) ∧ L.length ≤ 64 ∧ Hid (r.length ≤ 16384) ∧ PSt w wr v L r) (fun _ wr => roomAt wr w.heap.size)
  case atStart => exact ⟨_, [], r0, HP0, by simp, hr0l, hst0⟩
  case round =>
    obtain ⟨v, L, r, HP, hL64, HR, hst⟩ := hrel
    clear hst0
    obtain ⟨a, c, hv⟩ := hst.own.rd.slice
    subst hv
    have hst_old := roomAt_of (hst.p.cell 0 rfl)
    have hca := hst.p.cell 0 rfl
    have hcf := hst.p.frozen 0
    have hcr := hst.r.cell 0 rfl
    have hcrf := hst.r.frozen 0
    by_cases h125 : r.head? = some 125
    · have hb125 : (r.head? == some 125) = true := by rw [h125]; rfl
      obtain ⟨r1, hr1'⟩ : ∃ r1, r = 125 :: r1 := by
        cases r with
        | nil => cases h125
        | cons c r1 => exact ⟨r1, by simp at h125; rw [h125]⟩
      have ht1 : tak [125] r = some r1 := by rw [hr1']; exact tak_app [125] r1
      have HR1 := Lib.hid hr1'
      clear hr1'
      go_wp2_with fail
      refine (has_any r 125 true _ hb125).mono ?_
      rintro e w3 ⟨rfl, rfl⟩
      clear hb125
      go_wp2_with fail
      refine (take2 (w.heap.size + 1 + 1) r [125] r1 _ hst.r ht1).mono ?_
      rintro e w4 ⟨rfl, hr4, hg4⟩
      have hst4 := hst.grown hg4 hr4
      have z4 := hr4.cell 0 rfl
      have z5 := hst4.p.cell 0 rfl
      have z6 := hst4.p.frozen 0
      have z7 := hst4.q.cell 0 rfl
      have z8 := hst4.q.frozen 0
      clear hst hr4 hg4 hca hcf hcr hcrf ht1
      by_cases hn : r1 = []
      · have HF := Lib.hid (HP.out.shut hL64 h125 (by rw [HR1.out, hn]) HLo.out)
        subst hn
        clear h125
        go_wp2
        refine parse_ret rfl rfl ((hst4.p.set 0 _).setOther ⟨w.heap.size + 1, 0, none⟩ _ (by show w.heap.size ≠ w.heap.size + 1; omega)) (hst4.q.setOther ⟨w.heap.size, 0, none⟩ _ (by show w.heap.size + 1 ≠ w.heap.size; omega) |>.set 0 _) ?_
        exact PaR.yes HF.out (own_other (own_other hst4.own (by show w.heap.size < _; omega) _) (by show w.heap.size + 1 < _; omega) _) (by omega) ((hst4.b.setCell (by show w.heap.size ≤ w.heap.size; omega) _).setCell (by show w.heap.size ≤ w.heap.size + 1; omega) _)
      · have HN := Lib.hid (HP.out.more hL64 h125 (by rw [HR1.out]; simpa using hn))
        clear h125 HR1
        obtain ⟨c1, r3, rfl⟩ := List.exists_cons_of_ne_nil hn
        clear hn
        go_wp2
        exact parse_out rfl rfl hst4.p hst4.q (by omega) (PN.out HN.out HLo.out hst4.b (by omega) (by omega))
    · have hb125 : (r.head? == some 125) = false := by rw [beq_eq_false_iff_ne]; exact h125
      go_wp2_with fail
      refine (has_any r 125 false _ hb125).mono ?_
      rintro e w3 ⟨rfl, rfl⟩
      clear hb125
      by_cases hn : L = []
      · have hl0 : ¬ (0 : Int) < (L.length : Int) := by rw [hn]; simp
        have hl1 : L.length = 0 := by rw [hn]; rfl
        have HL1 := Lib.hid hl1
        obtain ⟨r1, hr1⟩ : ∃ r1, r1 = r := ⟨_, rfl⟩
        have HC : Hid (cm L r = some r1) := Lib.hid (by unfold cm; rw [if_pos hn, hr1])
        have HR1 : Hid (r1.length ≤ 16384) := by rw [hr1]; exact HR
        have hst1 : PSt w w3 (.slice a L.length c) L r1 := by rw [hr1]; exact hst
        clear hr1 hst hn hl1
        cases hm : mem r1 with
        | none =>
          have HN := Lib.hid (HP.out.noMem hL64 h125 HC.out hm)
          go_wp2_with fail
          refine (member_any w.heap.size (w.heap.size + 1 + 1) r1 _ hst1.r (by have := HR1.out; omega) (by omega) hst1.b.size (Lib.hid (hL.out.on hst1.b))).mono ?_
          intro e w5 hM
          unfold MbR at hM
          rw [hm] at hM
          obtain ⟨hg5, rfl⟩ := hM
          have hp5 := hst1.p.grown hg5 (fun r hr e => by cases hr; omega)
          have hq5 := hst1.q.grown hg5 (fun r hr e => by cases hr; omega)
          have hb5 := hst1.b.trans (g_from hg5 (by omega) hst1.b.size)
          go_wp2
          exact parse_out rfl rfl hp5 hq5 (by omega) (PN.out HN.out HLo.out hb5 (by omega) (by omega))
        | some q =>
        obtain ⟨m, r2⟩ := q
        have HM := Lib.hid hm
        go_wp2_with fail
        refine (member_any w.heap.size (w.heap.size + 1 + 1) r1 _ hst1.r (by have := HR1.out; omega) (by omega) hst1.b.size (Lib.hid (hL.out.on hst1.b))).mono ?_
        intro e w5 hM
        unfold MbR at hM
        rw [hm] at hM
        obtain ⟨hg5, rfl, hr5⟩ := hM
        have hst5 := hst1.grown hg5 hr5
        clear hst1 hg5 hr5 hm
        have hpg : PG w (w5.alloc (.cells #[.string ⟨m.nm.toArray⟩, .int .i64 m.kd, .string ⟨m.tx.toArray⟩, .int .i64 m.n, .bool m.b] 50)) (.slice a L.length c) L r2 w5.heap.size m := PG.start hst5
        have y0 := hpg.st.p.cell 0 rfl
        have y1 := hpg.bm.cell 0 rfl
        have hlo := hpg.lo.1
        clear hst5
        unfold mv
        go_wp2_with fail
        refine (get_any _ L m.nm _ hpg.st.own.rd (by omega)).mono ?_
        rintro e w6 ⟨rfl, hb6⟩
        have hpg6 := hpg.below hb6
        clear hpg y0 y1 hb6
        generalize getM L m.nm = gm
        unfold mv
        have hpg7 : PG w (w6.alloc (.cells #[.string ⟨gm.nm.toArray⟩, .int .i64 gm.kd, .string ⟨gm.tx.toArray⟩, .int .i64 gm.n, .bool gm.b] 50)) (.slice a L.length c) L r2 w5.heap.size m := hpg6.below ((Below.refl _ _).alloc (Nat.le_refl _) _)
        clear hpg6
        have y0 := hpg7.st.p.cell 0 rfl
        have y1 := hpg7.st.p.frozen 0
        have y2 := hpg7.bm.cell 0 rfl
        have y3 := hpg7.bm.cell 1 rfl
        have y4 := hpg7.bm.cell 2 rfl
        have y5 := hpg7.bm.cell 3 rfl
        have y6 := hpg7.bm.cell 4 rfl
        cases htw : hasN L m.nm with
        | true =>
          have HN := Lib.hid (HP.out.bad hL64 h125 HC.out HM.out (.inl htw))
          go_wp2
          exact parse_out rfl rfl hpg7.st.p hpg7.st.q (by omega) (PN.out HN.out HLo.out hpg7.st.b (by omega) (by omega))
        | false =>
        by_cases h64 : L.length = 64
        · have HN := Lib.hid (HP.out.bad hL64 h125 HC.out HM.out (.inr h64))
          have b64 : ((L.length : Int) == 64) = true := by rw [h64]; rfl
          clear h64
          go_wp2
          exact parse_out rfl rfl hpg7.st.p hpg7.st.q (by omega) (PN.out HN.out HLo.out hpg7.st.b (by omega) (by omega))
        have HPN := Lib.hid (HP.out.next hL64 h125 HC.out HM.out (by rw [htw]; intro h; rcases h with h | h; cases h; exact h64 h))
        have b64 : ((L.length : Int) == 64) = false := by rw [beq_eq_false_iff_ne]; omega
        have hlt : L.length < 64 := by omega
        clear htw h125 h64
        have HPR := Lib.hid hst_old
        clear hst_old
        go_wp2_with (at_builtin; go_loud (refine wpList_append_own _ rfl _ _ 46 rfl (w.heap.size + 3) 50 i0 (.agg #[.string ⟨#[]⟩, .int .i64 0, .string ⟨#[]⟩, .int .i64 0, .bool false]) 5 56 Tryz.underlying46 hi hz0 hz1 hz2 rfl (by decide) _ _ _ rfl (World.ownsRow.alloc hpg7.st.own _) ⟨w6.heap.size + 1, 0, none⟩ 1 1 (mc m) rfl rfl (cells_at _ _ _ _ (by simp)) (mc_one m) ?c3 ?c4 ?c5 ?_))
        case c3 => unfold maxLen; omega
        case c4 => omega
        case c5 => have := hpg7.st.b.size; have h5 := Blk.lt hpg7.st.r; simp at this h5 ⊢; omega
        intro v' w9 hown' hgrow hv0
        have hown9 : OwnM w9 (w.heap.size + 3) v' (L ++ [m]) := own_cast hown' (by simp) (by rw [mCells_snoc])
        have hst9 := hpg7.st.grow hgrow hown9
        have hpn := (hpg7.st.p.alloc (.cells (mc m).toArray 50)).grown hgrow (own_ne hpg7.st.own (by omega))
        obtain ⟨a9, c9, hv9⟩ := hown9.rd.slice
        rw [show (L ++ [m]).length = L.length + 1 from by simp] at hv9
        subst hv9
        have z0 := hpn.cell 0 rfl
        have z1 := hpn.frozen 0
        have z2 := hst9.p.cell 0 rfl
        clear hown' hgrow hv0 hown9 hpn hpg7 y0 y1 y2 y3 y4 y5 y6
        go_wp2_with fail
        go_roundw
        case rel => exact ⟨_, L ++ [m], r2, HPN, by simp; omega, Lib.hid (by have h1 := HM.out; have h2 := congrArg List.length (mem_inv h1).2.1; have h3 := HR1.out; rw [List.length_append] at h2; omega), hst9⟩
        case measure => rw [roomAt_of z2, HPR.out]; simp; omega
      · cases ht : tak [44] r with
        | none =>
          have HN := Lib.hid (HP.out.noComma hL64 h125 hn ht)
          have hl0 : (0 : Int) < (L.length : Int) := by have := List.length_pos_iff.2 hn; omega
          go_wp2_with fail
          refine (takeX (w.heap.size + 1 + 1) r [44] _ hst.r ht).mono ?_
          rintro e w4 ⟨rfl, hg4⟩
          have hp5 := hst.p.grown hg4 (fun r hr e => by cases hr; omega)
          have hq5 := hst.q.grown hg4 (fun r hr e => by cases hr; omega)
          have hb5 := hst.b.trans (g_from hg4 (by omega) hst.b.size)
          go_wp2
          exact parse_out rfl rfl hp5 hq5 (by omega) (PN.out HN.out HLo.out hb5 (by omega) (by omega))
        | some r1 =>
        have HC : Hid (cm L r = some r1) := Lib.hid (by unfold cm; rw [if_neg hn]; exact ht)
        have HR1 : Hid (r1.length ≤ 16384) := Lib.hid (by have h := congrArg List.length (tak_some ht); simp at h; have := HR.out; omega)
        have hl0 : (0 : Int) < (L.length : Int) := by have := List.length_pos_iff.2 hn; omega
        go_wp2_with fail
        refine (take2 (w.heap.size + 1 + 1) r [44] r1 _ hst.r ht).mono ?_
        rintro e w4 ⟨rfl, hr4, hg4⟩
        have hst1 := hst.grown hg4 hr4
        clear hst hr4 hg4 hn ht hca hcf hcr hcrf
        cases hm : mem r1 with
        | none =>
          have HN := Lib.hid (HP.out.noMem hL64 h125 HC.out hm)
          go_wp2_with fail
          refine (member_any w.heap.size (w.heap.size + 1 + 1) r1 _ hst1.r (by have := HR1.out; omega) (by omega) hst1.b.size (Lib.hid (hL.out.on hst1.b))).mono ?_
          intro e w5 hM
          unfold MbR at hM
          rw [hm] at hM
          obtain ⟨hg5, rfl⟩ := hM
          have hp5 := hst1.p.grown hg5 (fun r hr e => by cases hr; omega)
          have hq5 := hst1.q.grown hg5 (fun r hr e => by cases hr; omega)
          have hb5 := hst1.b.trans (g_from hg5 (by omega) hst1.b.size)
          go_wp2
          exact parse_out rfl rfl hp5 hq5 (by omega) (PN.out HN.out HLo.out hb5 (by omega) (by omega))
        | some q =>
        obtain ⟨m, r2⟩ := q
        have HM := Lib.hid hm
        go_wp2_with fail
        refine (member_any w.heap.size (w.heap.size + 1 + 1) r1 _ hst1.r (by have := HR1.out; omega) (by omega) hst1.b.size (Lib.hid (hL.out.on hst1.b))).mono ?_
        intro e w5 hM
        unfold MbR at hM
        rw [hm] at hM
        obtain ⟨hg5, rfl, hr5⟩ := hM
        have hst5 := hst1.grown hg5 hr5
        clear hst1 hg5 hr5 hm
        have hpg : PG w (w5.alloc (.cells #[.string ⟨m.nm.toArray⟩, .int .i64 m.kd, .string ⟨m.tx.toArray⟩, .int .i64 m.n, .bool m.b] 50)) (.slice a L.length c) L r2 w5.heap.size m := PG.start hst5
        have y0 := hpg.st.p.cell 0 rfl
        have y1 := hpg.bm.cell 0 rfl
        have hlo := hpg.lo.1
        clear hst5
        unfold mv
        go_wp2_with fail
        refine (get_any _ L m.nm _ hpg.st.own.rd (by omega)).mono ?_
        rintro e w6 ⟨rfl, hb6⟩
        have hpg6 := hpg.below hb6
        clear hpg y0 y1 hb6
        generalize getM L m.nm = gm
        unfold mv
        have hpg7 : PG w (w6.alloc (.cells #[.string ⟨gm.nm.toArray⟩, .int .i64 gm.kd, .string ⟨gm.tx.toArray⟩, .int .i64 gm.n, .bool gm.b] 50)) (.slice a L.length c) L r2 w5.heap.size m := hpg6.below ((Below.refl _ _).alloc (Nat.le_refl _) _)
        clear hpg6
        have y0 := hpg7.st.p.cell 0 rfl
        have y1 := hpg7.st.p.frozen 0
        have y2 := hpg7.bm.cell 0 rfl
        have y3 := hpg7.bm.cell 1 rfl
        have y4 := hpg7.bm.cell 2 rfl
        have y5 := hpg7.bm.cell 3 rfl
        have y6 := hpg7.bm.cell 4 rfl
        cases htw : hasN L m.nm with
        | true =>
          have HN := Lib.hid (HP.out.bad hL64 h125 HC.out HM.out (.inl htw))
          go_wp2
          exact parse_out rfl rfl hpg7.st.p hpg7.st.q (by omega) (PN.out HN.out HLo.out hpg7.st.b (by omega) (by omega))
        | false =>
        by_cases h64 : L.length = 64
        · have HN := Lib.hid (HP.out.bad hL64 h125 HC.out HM.out (.inr h64))
          have b64 : ((L.length : Int) == 64) = true := by rw [h64]; rfl
          clear h64
          go_wp2
          exact parse_out rfl rfl hpg7.st.p hpg7.st.q (by omega) (PN.out HN.out HLo.out hpg7.st.b (by omega) (by omega))
        have HPN := Lib.hid (HP.out.next hL64 h125 HC.out HM.out (by rw [htw]; intro h; rcases h with h | h; cases h; exact h64 h))
        have b64 : ((L.length : Int) == 64) = false := by rw [beq_eq_false_iff_ne]; omega
        have hlt : L.length < 64 := by omega
        clear htw h125 h64
        have HPR := Lib.hid hst_old
        clear hst_old
        go_wp2_with (at_builtin; go_loud (refine wpList_append_own _ rfl _ _ 46 rfl (w.heap.size + 3) 50 i0 (.agg #[.string ⟨#[]⟩, .int .i64 0, .string ⟨#[]⟩, .int .i64 0, .bool false]) 5 56 Tryz.underlying46 hi hz0 hz1 hz2 rfl (by decide) _ _ _ rfl (World.ownsRow.alloc hpg7.st.own _) ⟨w6.heap.size + 1, 0, none⟩ 1 1 (mc m) rfl rfl (cells_at _ _ _ _ (by simp)) (mc_one m) ?c3 ?c4 ?c5 ?_))
        case c3 => unfold maxLen; omega
        case c4 => omega
        case c5 => have := hpg7.st.b.size; have h5 := Blk.lt hpg7.st.r; simp at this h5 ⊢; omega
        intro v' w9 hown' hgrow hv0
        have hown9 : OwnM w9 (w.heap.size + 3) v' (L ++ [m]) := own_cast hown' (by simp) (by rw [mCells_snoc])
        have hst9 := hpg7.st.grow hgrow hown9
        have hpn := (hpg7.st.p.alloc (.cells (mc m).toArray 50)).grown hgrow (own_ne hpg7.st.own (by omega))
        obtain ⟨a9, c9, hv9⟩ := hown9.rd.slice
        rw [show (L ++ [m]).length = L.length + 1 from by simp] at hv9
        subst hv9
        have z0 := hpn.cell 0 rfl
        have z1 := hpn.frozen 0
        have z2 := hst9.p.cell 0 rfl
        clear hown' hgrow hv0 hown9 hpn hpg7 y0 y1 y2 y3 y4 y5 y6
        go_wp2_with fail
        go_roundw
        case rel => exact ⟨_, L ++ [m], r2, HPN, by simp; omega, Lib.hid (by have h1 := HM.out; have h2 := congrArg List.length (mem_inv h1).2.1; have h3 := HR1.out; rw [List.length_append] at h2; omega), hst9⟩
        case measure => rw [roomAt_of z2, HPR.out]; simp; omega
end Go.Proofs.YtffllacphfapnaaGreatDoor
