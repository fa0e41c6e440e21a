/-
  Chapter 22: may a message be?
-/
import Derived.Test.YtdmjegelcdghlaaGreatGDs
import Derived.Test.YtdmjegelcdghlaaGreatGKk
set_option maxRecDepth 100000
set_option maxHeartbeats 64000000
set_option linter.unusedVariables false
set_option linter.unusedSimpArgs false
namespace Go.Proofs.YtdmjegelcdghlaaGreat
theorem Z232 {p:Prop}(h:p:=by
 skip
 have HN:Hid (mayZ r m=false):=Lib.hid (by
  rw[mayZ_yes Z11 Z11 Z11 Z11 Z11 h5 Z11 Z11 Z11 Z42 Z11 Z11 Z11]
  unfold tailZ bareZ
  rw[←HPM.out]
  simp[hk,b1])
 exact Z5):p:=h
theorem Z231 {p:Prop}(h:p:=by
 skip
 have HN:Hid (mayZ r m=false):=Lib.hid (by
  rw[mayZ_yes Z11 Z11 Z11 Z11 Z11 h5 Z11 Z11 Z11 Z42 Z11 Z11 Z11]
  unfold tailZ bareZ
  rw[←HPM.out]
  simp[hk,b1,b2,b3])
 exact Z5):p:=h
theorem Z230 {p:Prop}(h:p:=by
 skip
 have HN:Hid (mayZ r m=false):=Lib.hid (by
  rw[mayZ_yes Z11 Z11 Z11 Z11 Z11 h5 Z11 Z11 Z11 Z42 Z11 Z11 Z11]
  unfold tailZ bareZ
  rw[←HPM.out]
  simp[hk,b1,show¬m.ops= [] from fun e=>b2 (by rw[e];rfl)])
 exact Z5):p:=h
theorem Z213 {p:Prop}(h:p:=by
 go_wp2_with fail
 all_goals first|(go_ret;exact⟨Z51,HB3.out⟩)|(exfalso;omega)):p:=h
theorem Z208 {p:Prop}(h:p:=by
 skip
 have HN:Hid (mayZ r m=false):=Lib.hid (by
  rw[mayZ_yes Z11 Z11 Z11 Z11 Z11 h5 Z11 Z11 Z11 Z42 Z11 Z11 Z11]
  unfold tailZ bareZ
  rw[←HPM.out]
  simp[hk,e1,e2])
 exact Z5):p:=h
theorem Z206 {p:Prop}(h:p:=by
 skip
 have HN:Hid (mayZ r m=false):=Lib.hid (by
  rw[mayZ_yes Z11 Z11 Z11 Z11 Z11 h5 Z11 Z11 Z11 Z42 Z11 Z11 Z11]
  unfold tailZ bareZ
  rw[←HPM.out]
  simp[hk,e1,e2,e3])
 exact Z5):p:=h
theorem Z196 {p:Prop}(h:p:=by
 skip
 have HN:Hid (mayZ r m=false):=Lib.hid (by
  rw[mayZ_yes Z11 Z11 Z11 Z11 Z11 h5 Z11 Z11 Z11 Z42 Z11 Z11 Z11]
  unfold tailZ bareZ
  rw[←HPM.out]
  simp[hk,e1])
 exact Z5):p:=h
theorem Z187 {p:Prop}(h:p:=by
 have HN:=Lib.hid (mayZ_no (r:=r) (m:=m) (.inr (.inr (.inr (.inr (.inr (.inr (.inr (.inr (.inr (.inr (.inl (⟨Z11,hx⟩)))))))))))))
 exact Z5):p:=h
theorem Z184 {p:Prop}(h:p:=by
 have HN:=Lib.hid (mayZ_no (r:=r) (m:=m) (.inr (.inr (.inr (.inr (.inr (.inr (.inr (.inr (.inr (.inr (.inr (.inl (⟨Z11,hy⟩))))))))))))))
 exact Z5):p:=h
theorem Z183 {p:Prop}(h:p:=by
 have HN:=Lib.hid (mayZ_no (r:=r) (m:=m) (.inr (.inr (.inr (.inr (.inr (.inr (.inr (.inr (.inr (.inr (.inr (.inr (⟨Z11,hz⟩))))))))))))))
 exact Z5):p:=h
theorem Z172 {p:Prop}(h:p:=by
 as_aux_lemma=>
 skip
 by_cases hx:m.sb=0
 case neg=>
  have HN:=Lib.hid (mayZ_no (r:=r) (m:=m) (.inr (.inr (.inr (.inr (.inr (.inr (.inr (.inr (.inr (.inr (.inl (⟨Z11,hx⟩)))))))))))))
  exact Z5
 by_cases hy:m.ls=0
 case neg=>
  have HN:=Lib.hid (mayZ_no (r:=r) (m:=m) (.inr (.inr (.inr (.inr (.inr (.inr (.inr (.inr (.inr (.inr (.inr (.inl (⟨Z11,hy⟩))))))))))))))
  exact Z5
 by_cases hz:m.nr=0
 case neg=>
  have HN:=Lib.hid (mayZ_no (r:=r) (m:=m) (.inr (.inr (.inr (.inr (.inr (.inr (.inr (.inr (.inr (.inr (.inr (.inr (⟨Z11,hz⟩))))))))))))))
  exact Z5
 by_cases b1:m.ao=0
 case neg=>
  exact Z232
 by_cases b2:(m.ops.length:Int)=0
 case neg=>
  exact Z230
 by_cases b3:m.cm=0
 case neg=>
  exact Z231
 have HN:Hid (mayZ r m=true):=Lib.hid (by
  rw[mayZ_yes Z11 Z11 Z11 Z11 Z11 h5 Z11 Z11 Z11 Z42 Z11 Z11 Z11]
  unfold tailZ bareZ
  rw[←HPM.out]
  simp[hk,b1,b2,b3])
 exact Z5):p:=h
theorem Z45 {p:Prop}(h:p:=by
 go_wp2_with fail
 all_goals first|(go_ret;exact⟨by rw[HN.out]<;>rfl,HB2.out⟩)|(exfalso;omega)):p:=h
theorem Z42 {p:Prop}(h:p:=by have:=HLE.out;omega):p:=h
theorem Z5 {p:Prop}(h:p:=by
 go_wp2_with fail
 all_goals first|(go_ret;refine⟨?_,HB3.out⟩;rw[HN.out]<;>first|rfl|exact congrArg (fun b=>Ending.returned (.bool b)) (beq_eq_false_iff_ne.2 b3)|exact congrArg (fun b=>Ending.returned (.bool b)) (beq_iff_eq.2 b3))|(exfalso;omega)):p:=h
end Go.Proofs.YtdmjegelcdghlaaGreat
namespace Go.Proofs.YtdmjegelcdghlaaGreat.Vw
open Go.RowKit Go.Maps
theorem may_any {i li lo:Nat}{c:Lb}{r:Rp Op}(m:Mz)(ov:Value)(p:Nat)(w:World)(h:RV i c w p r)(hn:1≤r.n∧r.n≤7)(hm:SlR (opE li) c lo w ov m.ops)(hl:m.ops.length≤1000000):
 Calls Tryz.prog 52 #[.pointer (some ⟨p,0,none⟩),msV m.kd m.fr m.vw m.nr m.ao ov m.cm m.sb m.ls] w fun e w'=>e= .returned (.bool (mayZ r m))∧Below w.heap.size w w':=by
 obtain⟨lv,hv,xv,sv,uv,hbp,hrp⟩:=h.ex
 obtain⟨oa,oc,eo⟩:=hm.slice
 subst eo
 have HP:=Lib.hid hbp
 have HF:=Lib.hid (fun W (hb:Below w.heap.size w W)=>fine_any (.slice oa m.ops.length oc) m.ops W (hm.below (opE_ok li) hb) Z11)
 have HQ:=Lib.hid (fun W=>prim_any m.vw (r.n:Int) W)
 have HNL:=Lib.hid (And.intro hn hl)
 clear h hm hbp hrp hn hl
 unfold msV
 go_enter Tryz.func52,Tryz.ntmps52
 go_upto_region 1 with fail
 obtain⟨w1,hw1⟩: ∃w1,w1=w.alloc (.cells #[.int .i64 m.kd,.int .i64 m.fr,.int .i64 m.vw,.int .i64 m.nr,.int .i64 m.ao,.slice oa m.ops.length oc,.int .i64 m.cm,.int .i64 m.sb,.int .i64 m.ls] 37):=⟨_,rfl⟩
 obtain⟨b3,hb3⟩: ∃b3,b3=w.heap.size:=⟨_,rfl⟩
 have HB1:Hid (Below w.heap.size w w1):=Lib.hid Z41
 have HM1:Hid (Blk w1 b3 37 [.int .i64 m.kd,.int .i64 m.fr,.int .i64 m.vw,.int .i64 m.nr,.int .i64 m.ao,.slice oa m.ops.length oc,.int .i64 m.cm,.int .i64 m.sb,.int .i64 m.ls]):=Lib.hid (by rw[hw1,hb3];exact Blk.new w 37 _)
 have HP1:=Lib.hid (HP.out.below HB1.out HP.out.lt)
 rw[←hw1,←hb3]
 clear hw1 hb3
 have y0:=HP1.out.cell 0 rfl
 have y1:=HP1.out.cell 1 rfl
 have y2:=HP1.out.cell 2 rfl
 have y3:=HP1.out.cell 3 rfl
 have y4:=HP1.out.cell 4 rfl
 have y5:=HP1.out.cell 5 rfl
 have y6:=HP1.out.cell 6 rfl
 have y7:=HP1.out.cell 7 rfl
 have y8:=HP1.out.cell 8 rfl
 have y9:=HP1.out.cell 9 rfl
 go_upto_region 2 with fail
 obtain⟨w2,hw2⟩: ∃w2,w2=w1.alloc (.cells #[.int .i64 (r.id:Int),.int .i64 (r.n:Int),.int .i64 (r.st:Int),.int .i64 (r.vw:Int),.int .i64 (r.nr:Int),.int .i64 (r.bs:Int),.int .i64 (r.td:Int),.int .i64 (r.cm:Int),.int .i64 (r.sb:Int),.int .i64 (r.ls:Int)] 39):=⟨_,rfl⟩
 obtain⟨b5,hb5⟩: ∃b5,b5=w1.heap.size:=⟨_,rfl⟩
 have HB2:Hid (Below w.heap.size w w2):=Lib.hid (by rw[hw2];exact HB1.out.alloc HB1.out.size _)
 have HM2:Hid (Blk w2 b3 37 [.int .i64 m.kd,.int .i64 m.fr,.int .i64 m.vw,.int .i64 m.nr,.int .i64 m.ao,.slice oa m.ops.length oc,.int .i64 m.cm,.int .i64 m.sb,.int .i64 m.ls]):=Lib.hid (by rw[hw2];exact HM1.out.alloc _)
 have HS2:Hid (Blk w2 b5 39 [.int .i64 (r.id:Int),.int .i64 (r.n:Int),.int .i64 (r.st:Int),.int .i64 (r.vw:Int),.int .i64 (r.nr:Int),.int .i64 (r.bs:Int),.int .i64 (r.td:Int),.int .i64 (r.cm:Int),.int .i64 (r.sb:Int),.int .i64 (r.ls:Int)]):=Lib.hid (by rw[hw2,hb5];exact Blk.new w1 39 _)
 rw[←hw2,←hb5]
 clear hw2 hb5 y0 y1 y2 y3 y4 y5 y6 y7 y8 y9
 have z0:=HM2.out.cell 0 rfl
 have z1:=HM2.out.cell 1 rfl
 have z2:=HM2.out.cell 2 rfl
 have z3:=HM2.out.cell 3 rfl
 have z4:=HM2.out.cell 4 rfl
 have z5:=HM2.out.cell 5 rfl
 have z6:=HM2.out.cell 6 rfl
 have z7:=HM2.out.cell 7 rfl
 have z8:=HM2.out.cell 8 rfl
 have s0:=HS2.out.cell 0 rfl
 have s1:=HS2.out.cell 1 rfl
 by_cases h:m.fr<0
 ·have HN:=Lib.hid (mayZ_no (r:=r) (m:=m) (.inl h))
  exact Z45
 have h0:=h
 clear h
 by_cases h:(r.n:Int)≤m.fr
 ·have HN:=Lib.hid (mayZ_no (r:=r) (m:=m) (.inr (.inl h)))
  exact Z45
 have h1:=h
 clear h
 by_cases h:m.fr=r.id
 ·have HN:=Lib.hid (mayZ_no (r:=r) (m:=m) (.inr (.inr (.inl h))))
  exact Z45
 have h2:=h
 clear h
 by_cases h:m.vw<0
 ·have HN:=Lib.hid (mayZ_no (r:=r) (m:=m) (.inr (.inr (.inr (.inl h)))))
  exact Z45
 have h3:=h
 clear h
 by_cases h:1099511627776<m.vw
 ·have HN:=Lib.hid (mayZ_no (r:=r) (m:=m) (.inr (.inr (.inr (.inr (.inl h))))))
  exact Z45
 have h4:=h
 clear h
 go_wp2_with fail
 refine(HF.out _ HB2.out).mono ?_
 rintro e w3 ⟨rfl,hb3⟩
 have HB3:=Lib.hid (HB2.out.trans (hb3.mono HB2.out.size))
 have HM3:=Lib.hid (HM2.out.below hb3 HM2.out.lt)
 have HS3:=Lib.hid (HS2.out.below hb3 HS2.out.lt)
 clear hb3 z0 z1 z2 z3 z4 z5 z6 z7 z8 s0 s1
 cases h:m.ops.all mayO
 ·have HN:=Lib.hid (mayZ_no (r:=r) (m:=m) (.inr (.inr (.inr (.inr (.inr (.inl h)))))))
  clear h
  exact Z5
 have h5:=h
 clear h
 have z0:=HM3.out.cell 0 rfl
 have z1:=HM3.out.cell 1 rfl
 have z2:=HM3.out.cell 2 rfl
 have z3:=HM3.out.cell 3 rfl
 have z4:=HM3.out.cell 4 rfl
 have z5:=HM3.out.cell 5 rfl
 have z6:=HM3.out.cell 6 rfl
 have z7:=HM3.out.cell 7 rfl
 have z8:=HM3.out.cell 8 rfl
 have s0:=HS3.out.cell 0 rfl
 have s1:=HS3.out.cell 1 rfl
 have hpr:Qs.prim m.vw (r.n:Int)=m.vw %(r.n:Int):=by
  unfold Qs.prim
  rw[if_neg (by have:=HNL.out;omega)]
 rw[hpr] at HQ
 obtain⟨pm,hpm⟩: ∃pm,pm=m.vw %(r.n:Int):=⟨_,rfl⟩
 rw[←hpm] at HQ
 have HPM:=Lib.hid hpm
 clear hpr hpm
 go_upto_region 4 with fail
 go_wp2_with fail
 refine(HQ.out _).mono ?_
 rintro e w4 ⟨rfl,e4⟩
 subst e4
 obtain⟨L,hL⟩: ∃L,IntKind.i64.wrap (m.ao+(m.ops.length:Int))=L:=⟨_,rfl⟩
 have HLL:Hid (0≤m.ao→m.ao≤1099511627776→L=m.ao+(m.ops.length:Int)):=Lib.hid fun h1 h2=>by
  rw[←hL]
  have:=HNL.out.2
  exact IntWalk.i64_in _ Z11
 go_upto_region 6 with fail
 clear hL
 clear HF HQ HP HP1 HB1 HM1 HB2 HM2 HS2
 by_cases h:m.ao<0
 ·have HN:=Lib.hid (mayZ_no (r:=r) (m:=m) (.inr (.inr (.inr (.inr (.inr (.inr (.inl h))))))))
  exact Z213
 have h6:=h
 clear h
 by_cases h:1099511627776<m.ao
 ·have HN:=Lib.hid (mayZ_no (r:=r) (m:=m) (.inr (.inr (.inr (.inr (.inr (.inr (.inr (.inl h)))))))))
  exact Z213
 have h7:=h
 clear h
 by_cases h:m.cm<0
 ·have HN:=Lib.hid (mayZ_no (r:=r) (m:=m) (.inr (.inr (.inr (.inr (.inr (.inr (.inr (.inr (.inl h))))))))))
  exact Z213
 have h8:=h
 clear h
 have HLE:=Lib.hid (HLL.out Z11 Z11)
 by_cases h:L<m.cm
 ·have HN:=Lib.hid (mayZ_no (r:=r) (m:=m) (.inr (.inr (.inr (.inr (.inr (.inr (.inr (.inr (.inr (.inl (by rw[←HLE.out];exact h))))))))))))
  exact Z5
 have h9:=h
 clear h
 by_cases hk:m.kd=1
 ·as_aux_lemma=>
  skip
  by_cases hy:m.ls=0
  case neg=>
   exact Z184
  by_cases hz:m.nr=0
  case neg=>
   exact Z183
  by_cases e1:m.fr=pm
  case neg=>
   exact Z196
  by_cases e2:0≤m.sb
  case neg=>
   exact Z208
  by_cases e3:m.sb≤m.cm
  case neg=>
   exact Z206
  have HN:Hid (mayZ r m=true):=Lib.hid (by
   rw[mayZ_yes Z11 Z11 Z11 Z11 Z11 h5 Z11 Z11 Z11 Z42 Z11 Z11 Z11]
   unfold tailZ bareZ
   rw[←HPM.out]
   simp[hk,e1,e2,e3])
  exact Z5
 have hk1:=hk
 clear hk
 by_cases hk:m.kd=2
 ·as_aux_lemma=>
  skip
  by_cases hx:m.sb=0
  case neg=>
   exact Z187
  by_cases hz:m.nr=0
  case neg=>
   exact Z183
  by_cases b1:m.ao=0
  case neg=>
   exact Z232
  by_cases b2:(m.ops.length:Int)=0
  case neg=>
   exact Z230
  by_cases b3:m.cm=0
  case neg=>
   exact Z231
  by_cases e2:0≤m.ls
  case neg=>
   skip
   have HN:Hid (mayZ r m=false):=Lib.hid (by
    rw[mayZ_yes Z11 Z11 Z11 Z11 Z11 h5 Z11 Z11 Z11 Z42 Z11 Z11 Z11]
    unfold tailZ bareZ
    rw[←HPM.out]
    simp[hk,b1,b2,b3,e2])
   exact Z5
  by_cases e3:m.ls≤1099511627776
  case neg=>
   skip
   have HN:Hid (mayZ r m=false):=Lib.hid (by
    rw[mayZ_yes Z11 Z11 Z11 Z11 Z11 h5 Z11 Z11 Z11 Z42 Z11 Z11 Z11]
    unfold tailZ bareZ
    rw[←HPM.out]
    simp[hk,b1,b2,b3,e2,e3])
   exact Z5
  have HN:Hid (mayZ r m=true):=Lib.hid (by
   rw[mayZ_yes Z11 Z11 Z11 Z11 Z11 h5 Z11 Z11 Z11 Z42 Z11 Z11 Z11]
   unfold tailZ bareZ
   rw[←HPM.out]
   simp[hk,b1,b2,b3,e2,e3])
  exact Z5
 have hk2:=hk
 clear hk
 by_cases hk:m.kd=4
 ·as_aux_lemma=>
  skip
  by_cases hx:m.sb=0
  case neg=>
   exact Z187
  by_cases hy:m.ls=0
  case neg=>
   exact Z184
  by_cases e1:(r.id:Int)=pm
  case neg=>
   exact Z196
  by_cases e2:0≤m.nr
  case neg=>
   exact Z208
  by_cases e3:m.nr≤m.vw
  case neg=>
   exact Z206
  by_cases e4:m.ao≤m.cm
  case neg=>
   skip
   have HN:Hid (mayZ r m=false):=Lib.hid (by
    rw[mayZ_yes Z11 Z11 Z11 Z11 Z11 h5 Z11 Z11 Z11 Z42 Z11 Z11 Z11]
    unfold tailZ bareZ
    rw[←HPM.out]
    simp[hk,e1,e2,e3,e4])
   exact Z5
  have HN:Hid (mayZ r m=true):=Lib.hid (by
   rw[mayZ_yes Z11 Z11 Z11 Z11 Z11 h5 Z11 Z11 Z11 Z42 Z11 Z11 Z11]
   unfold tailZ bareZ
   rw[←HPM.out]
   simp[hk,e1,e2,e3,e4])
  exact Z5
 have hk4:=hk
 clear hk
 by_cases hk:m.kd=5
 ·as_aux_lemma=>
  skip
  by_cases hx:m.sb=0
  case neg=>
   exact Z187
  by_cases hy:m.ls=0
  case neg=>
   exact Z184
  by_cases hz:m.nr=0
  case neg=>
   exact Z183
  by_cases e1:m.fr=pm
  case neg=>
   exact Z196
  by_cases e4:m.ao≤m.cm
  case neg=>
   skip
   have HN:Hid (mayZ r m=false):=Lib.hid (by
    rw[mayZ_yes Z11 Z11 Z11 Z11 Z11 h5 Z11 Z11 Z11 Z42 Z11 Z11 Z11]
    unfold tailZ bareZ
    rw[←HPM.out]
    simp[hk,e1,e4])
   exact Z5
  have HN:Hid (mayZ r m=true):=Lib.hid (by
   rw[mayZ_yes Z11 Z11 Z11 Z11 Z11 h5 Z11 Z11 Z11 Z42 Z11 Z11 Z11]
   unfold tailZ bareZ
   rw[←HPM.out]
   simp[hk,e1,e4])
  exact Z5
 have hk5:=hk
 clear hk
 by_cases hk:m.kd=3
 ·exact Z172
 have hk3:=hk
 clear hk
 by_cases hk:m.kd=6
 ·exact Z172
 have hk6:=hk
 clear hk
 by_cases hx:m.sb=0
 case neg=>
  exact Z187
 by_cases hy:m.ls=0
 case neg=>
  exact Z184
 by_cases hz:m.nr=0
 case neg=>
  exact Z183
 have hk: ¬(m.kd=3∨m.kd=6):=by omega
 have HN:Hid (mayZ r m=false):=Lib.hid (by
  rw[mayZ_yes Z11 Z11 Z11 Z11 Z11 h5 Z11 Z11 Z11 Z42 Z11 Z11 Z11]
  unfold tailZ bareZ
  rw[←HPM.out]
  simp[hk,hk1,hk2,hk4,hk5])
 go_wp2_with fail
 all_goals first|(go_ret;refine⟨?_,HB3.out⟩;rw[HN.out]<;>first|rfl|exact congrArg (fun b=>Ending.returned (.bool b)) (beq_eq_false_iff_ne.2 b3)|exact congrArg (fun b=>Ending.returned (.bool b)) (beq_iff_eq.2 b3))|(exfalso;omega)
end Go.Proofs.YtdmjegelcdghlaaGreat.Vw
