/-
  Chapter 22: a small op, as the laws make it.
-/
import Derived.Test.YtdmjegelcdghlaaGreatGRi
import Derived.Test.YtdmjegelcdghlaaGreatGDs
set_option maxRecDepth 100000
set_option maxHeartbeats 64000000
set_option linter.unusedVariables false
set_option linter.unusedSimpArgs false
namespace Go.Proofs.YtdmjegelcdghlaaGreat.Vw
open Go.RowKit Go.Maps
theorem rshown_nil (w:World):Calls Tryz.prog 105 #[.string ⟨#[]⟩,.string ⟨#[]⟩] w fun e w'=>e= .returned (.bool true)∧Below w.heap.size w w':=by
 go_enter Tryz.func105,Tryz.ntmps105
 go_wp2_with fail
 go_ret
 exact⟨rfl,Below.refl _ _⟩
def cm0:Gr.Cm:=⟨4,[102],0,0,[97],[],[],[],[],[],[],false,0⟩
theorem rmay_cm0 (w:World):Calls Tryz.prog 86 #[.agg #[.int .i64 4,.string ⟨#[102]⟩,.int .i64 0,.int .i64 0,.string ⟨#[97]⟩,.string ⟨#[]⟩,.slice none 0 0,.string ⟨#[]⟩,.string ⟨#[]⟩,.string ⟨#[]⟩,.string ⟨#[]⟩,.bool false,.int .i64 0]] w fun e w'=>e= .returned (.bool true)∧Below w.heap.size w w':=by
 have HI:=Lib.hid (fun W=>Gr.rid_any [102] W Z37)
 have hid:Gr.idC [102]=true:=by decide+kernel
 rw[hid] at HI
 have HS:=Lib.hid (fun W=>Gr.rset17_any (.slice none 0 0) [] W ⟨Rd.nil W 1,fun x hx=>by cases hx⟩ Z37)
 have hset:Gr.setC []=true:=by decide+kernel
 rw[hset] at HS
 have HSH:=Lib.hid (fun W=>rshown_nil W)
 clear hid hset
 go_enter Tryz.func86,Tryz.ntmps86
 go_upto_region 1 with fail
 obtain⟨w1,hw1⟩: ∃w1,w1=w.alloc (.cells #[.int .i64 4,.string ⟨#[102]⟩,.int .i64 0,.int .i64 0,.string ⟨#[97]⟩,.string ⟨#[]⟩,.slice none 0 0,.string ⟨#[]⟩,.string ⟨#[]⟩,.string ⟨#[]⟩,.string ⟨#[]⟩,.bool false,.int .i64 0] 24):=⟨_,rfl⟩
 obtain⟨b1,hb1⟩: ∃b1,b1=w.heap.size:=⟨_,rfl⟩
 have HB1:Hid (Below w.heap.size w w1):=Lib.hid Z41
 have HM1:Hid (Blk w1 b1 24 [.int .i64 4,.string ⟨#[102]⟩,.int .i64 0,.int .i64 0,.string ⟨#[97]⟩,.string ⟨#[]⟩,.slice none 0 0,.string ⟨#[]⟩,.string ⟨#[]⟩,.string ⟨#[]⟩,.string ⟨#[]⟩,.bool false,.int .i64 0]):=Lib.hid (by rw[hw1,hb1];exact Blk.new w 24 _)
 rw[←hw1,←hb1]
 clear hw1 hb1
 have z0:=HM1.out.cell 0 rfl
 have z1:=HM1.out.cell 1 rfl
 go_wp2_with fail
 refine(HI.out _).mono ?_
 rintro e w2 ⟨rfl,hb2⟩
 have HB2:=Lib.hid (HB1.out.trans (hb2.mono HB1.out.size))
 have HM2:=Lib.hid (HM1.out.below hb2 HM1.out.lt)
 clear z0 z1 hb2
 have z4:=HM2.out.cell 4 rfl
 have z5:=HM2.out.cell 5 rfl
 have z7:=HM2.out.cell 7 rfl
 have z8:=HM2.out.cell 8 rfl
 have z9:=HM2.out.cell 9 rfl
 have z10:=HM2.out.cell 10 rfl
 have HTX:=Lib.hid (Gr.rtexts_any (.slice (some ⟨w2.heap.size,0,none⟩) 6 6) [[97],[],[],[],[],[]] (w2.alloc (.cells #[.string ⟨#[97]⟩,.string ⟨#[]⟩,.string ⟨#[]⟩,.string ⟨#[]⟩,.string ⟨#[]⟩,.string ⟨#[]⟩] 9)) ⟨rd_new w2 1 6 [.string ⟨#[97]⟩,.string ⟨#[]⟩,.string ⟨#[]⟩,.string ⟨#[]⟩,.string ⟨#[]⟩,.string ⟨#[]⟩] 9 rfl,Z37⟩ Z37)
 have hlg:(!([[97],[],[],[],[],[]]:List (List UInt8)).any Gr.lng)=true:=by decide
 rw[hlg] at HTX
 clear hlg
 have hb3:Below w2.heap.size w2 (w2.alloc (.cells #[.string ⟨#[97]⟩,.string ⟨#[]⟩,.string ⟨#[]⟩,.string ⟨#[]⟩,.string ⟨#[]⟩,.string ⟨#[]⟩] 9)):=(Below.refl _ _).alloc (Nat.le_refl _) _
 have HB3:=Lib.hid (HB2.out.trans (hb3.mono HB2.out.size))
 have HM3:=Lib.hid (HM2.out.below hb3 HM2.out.lt)
 clear hb3
 go_wp2_with fail
 refine HTX.out.mono ?_
 rintro e w4 ⟨rfl,hb4⟩
 have HB4:=Lib.hid (HB3.out.trans (hb4.mono HB3.out.size))
 have HM4:=Lib.hid (HM3.out.below hb4 HM3.out.lt)
 clear z4 z5 z7 z8 z9 z10 hb4 HTX
 have z6:=HM4.out.cell 6 rfl
 go_wp2_with fail
 refine(HS.out _).mono ?_
 rintro e w5 ⟨rfl,hb5⟩
 have HB5:=Lib.hid (HB4.out.trans (hb5.mono HB4.out.size))
 have HM5:=Lib.hid (HM4.out.below hb5 HM4.out.lt)
 clear z6 hb5
 have z0:=HM5.out.cell 0 rfl
 have z1:=HM5.out.cell 1 rfl
 have z2:=HM5.out.cell 2 rfl
 have z3:=HM5.out.cell 3 rfl
 have z4:=HM5.out.cell 4 rfl
 have z5:=HM5.out.cell 5 rfl
 have z6:=HM5.out.cell 6 rfl
 have z7:=HM5.out.cell 7 rfl
 have z8:=HM5.out.cell 8 rfl
 have z9:=HM5.out.cell 9 rfl
 have z10:=HM5.out.cell 10 rfl
 have z11:=HM5.out.cell 11 rfl
 have z12:=HM5.out.cell 12 rfl
 go_wp2_with fail
 refine(HSH.out _).mono ?_
 rintro e w6 ⟨rfl,hb6⟩
 have HB6:=Lib.hid (HB5.out.trans (hb6.mono HB5.out.size))
 clear hb6 z0 z1 z2 z3 z4 z5 z6 z7 z8 z9 z10 z11 z12
 go_wp2_with fail
 go_ret
 exact⟨rfl,HB6.out⟩
def op0:Op:=⟨1,2,0,cm0⟩
theorem command_any (w:World):Calls Tryz.prog 51 #[.int .i64 1,.int .i64 1] w fun e w'=>e= .returned (opV op0 (.slice none 0 0))∧Below w.heap.size w w':=by
 have HM:=Lib.hid (fun W=>rmay_cm0 W)
 go_enter Tryz.func51,Tryz.ntmps51
 go_upto_region 3 with fail
 obtain⟨w3,hw3⟩: ∃w3,w3=((w.alloc (.cells #[.int .i64 0,.int .i64 0,.int .i64 0,.int .i64 0,.string ⟨#[]⟩,.int .i64 0,.int .i64 0,.string ⟨#[]⟩,.string ⟨#[]⟩,.slice none 0 0,.string ⟨#[]⟩,.string ⟨#[]⟩,.string ⟨#[]⟩,.string ⟨#[]⟩,.bool false,.int .i64 0] 26)).alloc (.cells #[.int .i64 4,.string ⟨#[102]⟩,.int .i64 0,.int .i64 0,.string ⟨#[97]⟩,.string ⟨#[]⟩,.slice none 0 0,.string ⟨#[]⟩,.string ⟨#[]⟩,.string ⟨#[]⟩,.string ⟨#[]⟩,.bool false,.int .i64 0] 24)).alloc (.cells #[.int .i64 1,.int .i64 2,.int .i64 0,.int .i64 4,.string ⟨#[102]⟩,.int .i64 0,.int .i64 0,.string ⟨#[97]⟩,.string ⟨#[]⟩,.slice none 0 0,.string ⟨#[]⟩,.string ⟨#[]⟩,.string ⟨#[]⟩,.string ⟨#[]⟩,.bool false,.int .i64 0] 26):=⟨_,rfl⟩
 have hs1:(w.alloc (.cells #[.int .i64 0,.int .i64 0,.int .i64 0,.int .i64 0,.string ⟨#[]⟩,.int .i64 0,.int .i64 0,.string ⟨#[]⟩,.string ⟨#[]⟩,.slice none 0 0,.string ⟨#[]⟩,.string ⟨#[]⟩,.string ⟨#[]⟩,.string ⟨#[]⟩,.bool false,.int .i64 0] 26)).heap.size=w.heap.size+1:=World.size_alloc _ _
 have hs2:((w.alloc (.cells #[.int .i64 0,.int .i64 0,.int .i64 0,.int .i64 0,.string ⟨#[]⟩,.int .i64 0,.int .i64 0,.string ⟨#[]⟩,.string ⟨#[]⟩,.slice none 0 0,.string ⟨#[]⟩,.string ⟨#[]⟩,.string ⟨#[]⟩,.string ⟨#[]⟩,.bool false,.int .i64 0] 26)).alloc (.cells #[.int .i64 4,.string ⟨#[102]⟩,.int .i64 0,.int .i64 0,.string ⟨#[97]⟩,.string ⟨#[]⟩,.slice none 0 0,.string ⟨#[]⟩,.string ⟨#[]⟩,.string ⟨#[]⟩,.string ⟨#[]⟩,.bool false,.int .i64 0] 24)).heap.size=w.heap.size+1+1:=by rw[World.size_alloc,hs1]
 have h4:Blk w3 w.heap.size 26 [.int .i64 0,.int .i64 0,.int .i64 0,.int .i64 0,.string ⟨#[]⟩,.int .i64 0,.int .i64 0,.string ⟨#[]⟩,.string ⟨#[]⟩,.slice none 0 0,.string ⟨#[]⟩,.string ⟨#[]⟩,.string ⟨#[]⟩,.string ⟨#[]⟩,.bool false,.int .i64 0]:=by rw[hw3];exact((Blk.new w 26 _).alloc _).alloc _
 have h5:Blk w3 (w.heap.size+1) 24 [.int .i64 4,.string ⟨#[102]⟩,.int .i64 0,.int .i64 0,.string ⟨#[97]⟩,.string ⟨#[]⟩,.slice none 0 0,.string ⟨#[]⟩,.string ⟨#[]⟩,.string ⟨#[]⟩,.string ⟨#[]⟩,.bool false,.int .i64 0]:=by
  rw[hw3,←hs1];exact(Blk.new (w.alloc (.cells #[.int .i64 0,.int .i64 0,.int .i64 0,.int .i64 0,.string ⟨#[]⟩,.int .i64 0,.int .i64 0,.string ⟨#[]⟩,.string ⟨#[]⟩,.slice none 0 0,.string ⟨#[]⟩,.string ⟨#[]⟩,.string ⟨#[]⟩,.string ⟨#[]⟩,.bool false,.int .i64 0] 26)) 24 _).alloc _
 have h6:Blk w3 (w.heap.size+1+1) 26 [.int .i64 1,.int .i64 2,.int .i64 0,.int .i64 4,.string ⟨#[102]⟩,.int .i64 0,.int .i64 0,.string ⟨#[97]⟩,.string ⟨#[]⟩,.slice none 0 0,.string ⟨#[]⟩,.string ⟨#[]⟩,.string ⟨#[]⟩,.string ⟨#[]⟩,.bool false,.int .i64 0]:=by
  rw[hw3,←hs2];exact Blk.new ((w.alloc (.cells #[.int .i64 0,.int .i64 0,.int .i64 0,.int .i64 0,.string ⟨#[]⟩,.int .i64 0,.int .i64 0,.string ⟨#[]⟩,.string ⟨#[]⟩,.slice none 0 0,.string ⟨#[]⟩,.string ⟨#[]⟩,.string ⟨#[]⟩,.string ⟨#[]⟩,.bool false,.int .i64 0] 26)).alloc (.cells #[.int .i64 4,.string ⟨#[102]⟩,.int .i64 0,.int .i64 0,.string ⟨#[97]⟩,.string ⟨#[]⟩,.slice none 0 0,.string ⟨#[]⟩,.string ⟨#[]⟩,.string ⟨#[]⟩,.string ⟨#[]⟩,.bool false,.int .i64 0] 24)) 26 _
 have hb:Below w.heap.size w w3:=by rw[hw3];exact(((Below.refl _ _).alloc (Nat.le_refl _) _).alloc (by rw[hs1];exact Nat.le_succ _) _).alloc (by rw[hs2];omega) _
 have H3:=Lib.hid (And.intro h4 (And.intro h5 (And.intro h6 hb)))
 obtain⟨b4,hb4⟩: ∃b4,b4=w.heap.size:=⟨_,rfl⟩
 obtain⟨b5,hb5⟩: ∃b5,b5=w.heap.size+1:=⟨_,rfl⟩
 obtain⟨b6,hb6⟩: ∃b6,b6=w.heap.size+1+1:=⟨_,rfl⟩
 have HWB:=Lib.hid hb4
 rw[←hb6,←hb5] at H3
 rw[←hw3,←hb6,←hb5,←hb4]
 rw[←hb4] at H3
 have HBB:Hid (w.heap.size≤b4):=Lib.hid (Nat.le_of_eq HWB.out.symm)
 clear hw3 hs1 hs2 h4 h5 h6 hb hb4 hb5 hb6
 have y0:=H3.out.2.1.cell 0 rfl
 have y1:=H3.out.2.1.cell 1 rfl
 have y2:=H3.out.2.1.cell 2 rfl
 have y3:=H3.out.2.1.cell 3 rfl
 have y4:=H3.out.2.1.cell 4 rfl
 have y5:=H3.out.2.1.cell 5 rfl
 have y6:=H3.out.2.1.cell 6 rfl
 have y7:=H3.out.2.1.cell 7 rfl
 have y8:=H3.out.2.1.cell 8 rfl
 have y9:=H3.out.2.1.cell 9 rfl
 have y10:=H3.out.2.1.cell 10 rfl
 have y11:=H3.out.2.1.cell 11 rfl
 have y12:=H3.out.2.1.cell 12 rfl
 go_wp2_with fail
 refine(HM.out _).mono ?_
 rintro e w4 ⟨rfl,hb4⟩
 have HW4:Hid (Below w.heap.size w w4):=Lib.hid (by
  have h0:Below w.heap.size w w3:=by rw[←HWB.out];exact H3.out.2.2.2
  exact h0.trans (hb4.mono h0.size))
 have HB4:=Lib.hid (H3.out.1.below hb4 H3.out.1.lt)
 have HB6:=Lib.hid (H3.out.2.2.1.below hb4 H3.out.2.2.1.lt)
 clear hb4 y0 y1 y2 y3 y4 y5 y6 y7 y8 y9 y10 y11 y12
 have u0:=HB4.out.cell 0 rfl
 have f0:=HB4.out.frozen 0
 have v0:=HB6.out.cell 0 rfl
 have u1:=HB4.out.cell 1 rfl
 have f1:=HB4.out.frozen 1
 have v1:=HB6.out.cell 1 rfl
 have u2:=HB4.out.cell 2 rfl
 have f2:=HB4.out.frozen 2
 have v2:=HB6.out.cell 2 rfl
 have u3:=HB4.out.cell 3 rfl
 have f3:=HB4.out.frozen 3
 have v3:=HB6.out.cell 3 rfl
 have u4:=HB4.out.cell 4 rfl
 have f4:=HB4.out.frozen 4
 have v4:=HB6.out.cell 4 rfl
 have u5:=HB4.out.cell 5 rfl
 have f5:=HB4.out.frozen 5
 have v5:=HB6.out.cell 5 rfl
 have u6:=HB4.out.cell 6 rfl
 have f6:=HB4.out.frozen 6
 have v6:=HB6.out.cell 6 rfl
 have u7:=HB4.out.cell 7 rfl
 have f7:=HB4.out.frozen 7
 have v7:=HB6.out.cell 7 rfl
 have u8:=HB4.out.cell 8 rfl
 have f8:=HB4.out.frozen 8
 have v8:=HB6.out.cell 8 rfl
 have u9:=HB4.out.cell 9 rfl
 have f9:=HB4.out.frozen 9
 have v9:=HB6.out.cell 9 rfl
 have u10:=HB4.out.cell 10 rfl
 have f10:=HB4.out.frozen 10
 have v10:=HB6.out.cell 10 rfl
 have u11:=HB4.out.cell 11 rfl
 have f11:=HB4.out.frozen 11
 have v11:=HB6.out.cell 11 rfl
 have u12:=HB4.out.cell 12 rfl
 have f12:=HB4.out.frozen 12
 have v12:=HB6.out.cell 12 rfl
 have u13:=HB4.out.cell 13 rfl
 have f13:=HB4.out.frozen 13
 have v13:=HB6.out.cell 13 rfl
 have u14:=HB4.out.cell 14 rfl
 have f14:=HB4.out.frozen 14
 have v14:=HB6.out.cell 14 rfl
 have u15:=HB4.out.cell 15 rfl
 have f15:=HB4.out.frozen 15
 have v15:=HB6.out.cell 15 rfl
 go_wp2_with fail
 have hk5:=((((((((((((((((HB4.out.set 0 (.int .i64 1)).set 1 (.int .i64 2)).set 2 (.int .i64 0)).set 3 (.int .i64 4)).set 4 (.string ⟨#[102]⟩)).set 5 (.int .i64 0)).set 6 (.int .i64 0)).set 7 (.string ⟨#[97]⟩)).set 8 (.string ⟨#[]⟩)).set 9 (.slice none 0 0)).set 10 (.string ⟨#[]⟩)).set 11 (.string ⟨#[]⟩)).set 12 (.string ⟨#[]⟩)).set 13 (.string ⟨#[]⟩)).set 14 (.bool false)).set 15 (.int .i64 0))
 have hbl:=((((((((((((((((HW4.out.setCell (p:=⟨b4,0,none⟩) HBB.out (.int .i64 1)).setCell (p:=⟨b4,1,none⟩) HBB.out (.int .i64 2)).setCell (p:=⟨b4,2,none⟩) HBB.out (.int .i64 0)).setCell (p:=⟨b4,3,none⟩) HBB.out (.int .i64 4)).setCell (p:=⟨b4,4,none⟩) HBB.out (.string ⟨#[102]⟩)).setCell (p:=⟨b4,5,none⟩) HBB.out (.int .i64 0)).setCell (p:=⟨b4,6,none⟩) HBB.out (.int .i64 0)).setCell (p:=⟨b4,7,none⟩) HBB.out (.string ⟨#[97]⟩)).setCell (p:=⟨b4,8,none⟩) HBB.out (.string ⟨#[]⟩)).setCell (p:=⟨b4,9,none⟩) HBB.out (.slice none 0 0)).setCell (p:=⟨b4,10,none⟩) HBB.out (.string ⟨#[]⟩)).setCell (p:=⟨b4,11,none⟩) HBB.out (.string ⟨#[]⟩)).setCell (p:=⟨b4,12,none⟩) HBB.out (.string ⟨#[]⟩)).setCell (p:=⟨b4,13,none⟩) HBB.out (.string ⟨#[]⟩)).setCell (p:=⟨b4,14,none⟩) HBB.out (.bool false)).setCell (p:=⟨b4,15,none⟩) HBB.out (.int .i64 0))
 clear u0 f0 v0 u1 f1 v1 u2 f2 v2 u3 f3 v3 u4 f4 v4 u5 f5 v5 u6 f6 v6 u7 f7 v7 u8 f8 v8 u9 f9 v9 u10 f10 v10 u11 f11 v11 u12 f12 v12 u13 f13 v13 u14 f14 v14 u15 f15 v15
 generalize ((((((((((((((((w4.setCell ⟨b4,0,none⟩ (.int .i64 1)).setCell ⟨b4,1,none⟩ (.int .i64 2)).setCell ⟨b4,2,none⟩ (.int .i64 0)).setCell ⟨b4,3,none⟩ (.int .i64 4)).setCell ⟨b4,4,none⟩ (.string ⟨#[102]⟩)).setCell ⟨b4,5,none⟩ (.int .i64 0)).setCell ⟨b4,6,none⟩ (.int .i64 0)).setCell ⟨b4,7,none⟩ (.string ⟨#[97]⟩)).setCell ⟨b4,8,none⟩ (.string ⟨#[]⟩)).setCell ⟨b4,9,none⟩ (.slice none 0 0)).setCell ⟨b4,10,none⟩ (.string ⟨#[]⟩)).setCell ⟨b4,11,none⟩ (.string ⟨#[]⟩)).setCell ⟨b4,12,none⟩ (.string ⟨#[]⟩)).setCell ⟨b4,13,none⟩ (.string ⟨#[]⟩)).setCell ⟨b4,14,none⟩ (.bool false)).setCell ⟨b4,15,none⟩ (.int .i64 0))=w5 at*
 refine bodyPost_ret (results_cell_row rfl _ _ b4 26 #[.int .i64 1,.int .i64 2,.int .i64 0,.int .i64 4,.string ⟨#[102]⟩,.int .i64 0,.int .i64 0,.string ⟨#[97]⟩,.string ⟨#[]⟩,.slice none 0 0,.string ⟨#[]⟩,.string ⟨#[]⟩,.string ⟨#[]⟩,.string ⟨#[]⟩,.bool false,.int .i64 0] (0,0) _ rfl hk5 Tryz.underlying26 rfl Z27) rfl ?_
 exact⟨rfl,hbl⟩
end Go.Proofs.YtdmjegelcdghlaaGreat.Vw
