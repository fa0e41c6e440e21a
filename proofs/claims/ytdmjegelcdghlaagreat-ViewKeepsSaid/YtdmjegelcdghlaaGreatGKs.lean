/-
  Chapter 22: a message is taken out of those under way.
-/
import Derived.Test.YtdmjegelcdghlaaGreatGGen
import Derived.Test.YtdmjegelcdghlaaGreatGKp
set_option maxRecDepth 100000
set_option maxHeartbeats 64000000
set_option linter.unusedVariables false
set_option linter.unusedSimpArgs false
namespace Go.Proofs.YtdmjegelcdghlaaGreat
theorem Z61 {p:Prop}(h:p:=by
 go_enter Tryz.func33,Tryz.ntmps33
 go_wp2_with fail
 refine ret_cell_sd rfl rfl (cs:= [.int .i64 0,.int .i64 0,.int .i64 0,.int .i64 0,.int .i64 0,.int .i64 0,.slice none 0 0,.int .i64 0,.int .i64 0,.int .i64 0]) rfl rfl (Blk.new w 53 _) ?_
 exact⟨rfl,HB0.out⟩):p:=h
end Go.Proofs.YtdmjegelcdghlaaGreat
namespace Go.Proofs.YtdmjegelcdghlaaGreat.Vw
open Go.RowKit Go.Maps
def sdV (x:Sd Op)(u:Value):Value:= .agg (sdC x u).toArray
theorem load_sd {W:World}{b:Nat}{t:TypeId}{cs:List Value}(h:Blk W b t cs)(hl:cs.length=10):(loadVar 53 ⟨b,0,none⟩).run Tryz.prog W= .ok (.agg cs.toArray) W:=by
 obtain⟨c0,c1,c2,c3,c4,c5,c6,c7,c8,c9,rfl⟩: ∃c0 c1 c2 c3 c4 c5 c6 c7 c8 c9,cs= [c0,c1,c2,c3,c4,c5,c6,c7,c8,c9]:=by
  rcases cs with _|⟨c0,_|⟨c1,_|⟨c2,_|⟨c3,_|⟨c4,_|⟨c5,_|⟨c6,_|⟨c7,_|⟨c8,_|⟨c9,_|⟨c10,l⟩⟩⟩⟩⟩⟩⟩⟩⟩⟩⟩<;>simp at hl
  exact⟨c0,c1,c2,c3,c4,c5,c6,c7,c8,c9,rfl⟩
 have z0:=h.cell 0 rfl
 have z1:=h.cell 1 rfl
 have z2:=h.cell 2 rfl
 have z3:=h.cell 3 rfl
 have z4:=h.cell 4 rfl
 have z5:=h.cell 5 rfl
 have z6:=h.cell 6 rfl
 have z7:=h.cell 7 rfl
 have z8:=h.cell 8 rfl
 have z9:=h.cell 9 rfl
 simp[go_sem,loadVar,z0,z1,z2,z3,z4,z5,z6,z7,z8,z9]
theorem ret_cell_sd {fn:Func}{p u:Tmp}(hres:fn.results= #[.cell p 53,.tmp u]){a:Act}(hd:a.defers= []){W:World}{b:Nat}{t:TypeId}{cs:List Value}(hl:cs.length=10)(hp:a.tmps.getD p undef= .pointer (some ⟨b,0,none⟩))(hb:Blk W b t cs){R:Ending→World→Prop}
 (h:R (.returned (.tuple #[.agg cs.toArray,a.tmps.getD u undef])) W):bodyPost Tryz.prog fn R Exit.ret a W:=by
 refine bodyPost_ret (v:= .tuple #[.agg cs.toArray,a.tmps.getD u undef]) ?_ hd h
 rw[results_cell_tmp hres,hp]
 simp only[asAddr,Sem.run_pure,Result.andThen_ok,load_sd hb hl]
theorem Blk.setSd {W:World}{b:Nat}{t:TypeId}{x0 x1 x2 x3 x4 x5 x6 x7 x8 x9:Value}(h:Blk W b t [x0,x1,x2,x3,x4,x5,x6,x7,x8,x9])(y0 y1 y2 y3 y4 y5 y6 y7 y8 y9:Value):
 Blk ((((((((((W.setCell ⟨b,0,none⟩ y0).setCell ⟨b,1,none⟩ y1).setCell ⟨b,2,none⟩ y2).setCell ⟨b,3,none⟩ y3).setCell ⟨b,4,none⟩ y4).setCell ⟨b,5,none⟩ y5).setCell ⟨b,6,none⟩ y6).setCell ⟨b,7,none⟩ y7).setCell ⟨b,8,none⟩ y8).setCell ⟨b,9,none⟩ y9) b t [y0,y1,y2,y3,y4,y5,y6,y7,y8,y9]:=
 (((((((((h.set 0 y0).set 1 y1).set 2 y2).set 3 y3).set 4 y4).set 5 y5).set 6 y6).set 7 y7).set 8 y8).set 9 y9
theorem cell_eqW {w w':World}{b:Nat}(h:w'.heap[b]?=w.heap[b]?)(o:Nat):w'.cell? ⟨b,o,none⟩=w.cell? ⟨b,o,none⟩:=by simp only[World.cell?,h]
theorem gtake_no {c:Lb}{gp:Nat}{g:Gp Op}(k:Int)(w:World)(h:GV c w gp g)(hn:1≤g.n)(hk:k<0∨(g.way.length:Int)≤k):
 Calls Tryz.prog 33 #[.pointer (some ⟨gp,0,none⟩),.int .i64 k] w fun e w'=>e= .returned (.tuple #[.agg #[.int .i64 0,.int .i64 0,.int .i64 0,.int .i64 0,.int .i64 0,.int .i64 0,.slice none 0 0,.int .i64 0,.int .i64 0,.int .i64 0],.bool false])∧Below w.heap.size w w':=by
 obtain⟨ps,br,cr,bk,ck,bs,cs,wv,bt,ct,ov,ss,hB,hG,hL,-⟩:=h.opn hn
 obtain⟨wa,wc,ew⟩:=hG.w.slice
 subst ew
 have y3:=(hB.alloc (.cells #[.int .i64 0,.int .i64 0,.int .i64 0,.int .i64 0,.int .i64 0,.int .i64 0,.slice none 0 0,.int .i64 0,.int .i64 0,.int .i64 0] 53)).cell 3 rfl
 have hz:=Blk.new w 53 [.int .i64 0,.int .i64 0,.int .i64 0,.int .i64 0,.int .i64 0,.int .i64 0,.slice none 0 0,.int .i64 0,.int .i64 0,.int .i64 0]
 have HB0:Hid (Below w.heap.size w (w.alloc (.cells #[.int .i64 0,.int .i64 0,.int .i64 0,.int .i64 0,.int .i64 0,.int .i64 0,.slice none 0 0,.int .i64 0,.int .i64 0,.int .i64 0] 53))):=Lib.hid ((Below.refl _ _).alloc (Nat.le_refl _) _)
 have HZ:=Lib.hid (Blk.setSd hz (.int .i64 0) (.int .i64 0) (.int .i64 0) (.int .i64 0) (.int .i64 0) (.int .i64 0) (.slice none 0 0) (.int .i64 0) (.int .i64 0) (.int .i64 0))
 clear hz hB hG hL h
 by_cases h1:k<0
 case pos=>
  exact Z61
 case neg=>
  have h2:(g.way.length:Int)≤k:=by omega
  exact Z61
theorem SlR.keepB {α:Type}{E:Ek α}(hE:E.Ok){c c':Lb}{lo:Nat}{W W':World}{v:Value}{l:List α}(h:SlR E c lo W v l)(hc:Lx W c c')(hb: ∀k,k<W.heap.size→E.lab (c k)∨v.ownBlock=some k→W'.heap[k]?=W.heap[k]?):SlR E c' lo W' v l:=by
 obtain⟨⟨vs,h1,h2⟩,h3⟩:=h
 refine⟨⟨vs,h1.keep hE hc fun k hk hl=>hb k hk (.inl hl),rd_keepL h2 hE.pos fun h0 g hg hlt=>hb g hlt (.inr hg)⟩,fun h0 g hg=> ?_⟩
 rw[hc g (rd_lt h2 hE.pos h0 g hg)]
 exact h3 h0 g hg
theorem gtake_any {c:Lb}{gp:Nat}{g:Gp Op}(k:Nat)(w:World)(h:GV c w gp g)(hn:1≤g.n∧g.n≤5){x:Sd Op}(hk:g.way[k]?=some x)(hw:g.way.length≤100000000):
 Calls Tryz.prog 33 #[.pointer (some ⟨gp,0,none⟩),.int .i64 (k:Int)] w fun e w'=> ∃ua uc,e= .returned (.tuple #[sdV x (.slice ua x.m.ops.length uc),.bool true])∧ ∃c',Lx w c c'∧Fr (fun l=>l=200∨l=204) c w w'∧GV c' w' gp (wayOut g k)∧SlR (opE 3) c' 3 w' (.slice ua x.m.ops.length uc) x.m.ops:=by
 obtain⟨ps,br,cr,bk,ck,bs,cs,wv,bt,ct,ov,ss,hB,hG,hL,-⟩:=h.opn hn.1
 obtain⟨bw,wc,u,ew,hbw,hcw,hin,hcl,-⟩:=Row.at (sdE_ok 3) hG.w hk
 subst ew
 have hin':SdI 3 c w u x:=hin
 obtain⟨ua,uc,eu⟩:=hin'.s.slice
 subst eu
 have hkl:k<g.way.length:=(List.getElem?_eq_some_iff.1 hk).1
 obtain⟨w0,hw0⟩: ∃w0,w0=w.alloc (.cells #[.int .i64 0,.int .i64 0,.int .i64 0,.int .i64 0,.int .i64 0,.int .i64 0,.slice none 0 0,.int .i64 0,.int .i64 0,.int .i64 0] 53):=⟨_,rfl⟩
 obtain⟨w2,hw2⟩: ∃w2,w2=w0.alloc (.cells #[.int .i64 (x.to:Int),.int .i64 (x.m.kd:Int),.int .i64 (x.m.fr:Int),.int .i64 (x.m.vw:Int),.int .i64 (x.m.nr:Int),.int .i64 (x.m.ao:Int),.slice ua x.m.ops.length uc,.int .i64 (x.m.cm:Int),.int .i64 (x.m.sb:Int),.int .i64 (x.m.ls:Int)] 53):=⟨_,rfl⟩
 have hb0:Below w.heap.size w w0:=by rw[hw0];exact(Below.refl _ _).alloc (Nat.le_refl _) _
 have hb2:Below w.heap.size w w2:=by rw[hw2];exact hb0.alloc hb0.size _
 have y3:=(hB.below hb0 hB.lt).cell 3 rfl
 have hz: ∀(j:Nat) v,(sdC x (.slice ua x.m.ops.length uc))[j]?=some v→w0.cell? ⟨bw,k*10+j,none⟩=some v:=fun j v hj=>(cell_eqW (hb0.block bw hbw) _).trans (hcl j v hj)
 have z0:=hz 0 _ rfl
 have z1:=hz 1 _ rfl
 have z2:=hz 2 _ rfl
 have z3:=hz 3 _ rfl
 have z4:=hz 4 _ rfl
 have z5:=hz 5 _ rfl
 have z6:=hz 6 _ rfl
 have z7:=hz 7 _ rfl
 have z8:=hz 8 _ rfl
 have z9:=hz 9 _ rfl
 rw[Nat.add_zero] at z0
 obtain⟨b1,hb1⟩: ∃b1,b1=w.heap.size:=⟨_,rfl⟩
 have hz1:w0.heap.size=b1+1:=by rw[hw0,hb1];exact World.size_alloc _ _
 have HZ1:Hid (Blk w2 (b1+1) 53 (sdC x (.slice ua x.m.ops.length uc))):=Lib.hid (by rw[hw2,←hz1];exact Blk.new w0 53 _)
 have HZ0:Hid (Blk w2 b1 53 [.int .i64 0,.int .i64 0,.int .i64 0,.int .i64 0,.int .i64 0,.int .i64 0,.slice none 0 0,.int .i64 0,.int .i64 0,.int .i64 0]):=Lib.hid (by rw[hw2,hw0,hb1];exact(Blk.new w 53 _).alloc _)
 have HBW:=Lib.hid hbw
 have HH:=Lib.hid (And.intro hB (And.intro hG (And.intro hL (And.intro hn (And.intro hb2 (And.intro hin' (And.intro hb1 (And.intro hcw hw))))))))
 have t1:(k:Int)<(g.way.length:Int):=by omega
 have t2: ¬(g.way.length:Int)≤(k:Int):=by omega
 rw[hw0] at y3 z0 z1 z2 z3 z4 z5 z6 z7 z8 z9
 have HW:=Lib.hid (And.intro hw0 (And.intro hw2 hb1))
 clear hw0 hw2 hb1 hk hkl hz1
 clear hB hG hL h hb0 hb2 hz hbw hcw hin hcl hin' hn hw
 go_enter Tryz.func33,Tryz.ntmps33
 go_upto_region 4 with fail
 rw[←HW.out.1,←HW.out.2.1,←HW.out.2.2]
 obtain⟨c0,hc0⟩: ∃c0:Lb,c0=(fun j=>if j<w.heap.size then c j else 0):=⟨_,rfl⟩
 have HX0:Hid (Lx w c c0∧ ∀j,w.heap.size≤j→c0 j=0):=Lib.hid ⟨by rw[hc0];exact fun j hj=>if_pos hj,fun j hj=>by rw[hc0];exact if_neg Z11⟩
 clear hc0
 clear y3 z0 z1 z2 z3 z4 z5 z6 z7 z8 z9
 have HB2:=Lib.hid (HH.out.1.below HH.out.2.2.2.2.1 HH.out.1.lt)
 have HG2:=Lib.hid (HH.out.2.1.keep Z148 HX0.out.1 fun j hj _=>HH.out.2.2.2.2.1.block j hj)
 have HGP:Hid (c0 gp=200):=Lib.hid ((HX0.out.1 gp HH.out.1.lt).trans HH.out.2.2.1.1)
 have hcap:g.way.length≤wc:=by
  obtain⟨vs,_,h2⟩:=HG2.out.w.sl.ex
  obtain⟨_,_,_,e,hle,_⟩:=h2.pos Z11
  cases e;exact hle
 obtain⟨k1,hk1⟩: ∃k1,k1=k+1:=⟨_,rfl⟩
 have hsl1: ∀W,(Instr.slice 44 (.slice (some ⟨bw,0,none⟩) g.way.length wc) none (some (.int .i64 (k:Int))) none).run Tryz.prog W= .ok (.slice (some ⟨bw,0,none⟩) k wc) W:=fun W=>slice_hi W 44 _ g.way.length wc k rfl (s:=10) Z27 Z11
 obtain⟨oa,hoa⟩: ∃oa,oa=(if wc=k1 then(some ⟨bw,0,none⟩:Option Addr) else(some ⟨bw,0,none⟩:Option Addr).map (·.add (k1*10))):=⟨_,rfl⟩
 have hsl2: ∀W,(Instr.slice 44 (.slice (some ⟨bw,0,none⟩) g.way.length wc) (some (.int .i64 (k1:Int))) none none).run Tryz.prog W= .ok (.slice oa (g.way.length-k1) (wc-k1)) W:=fun W=>by
  rw[hoa]
  exact slice_int W 44 _ g.way.length wc k1 rfl (s:=10) Z27 Z11
 have hwr:IntKind.i64.wrap ((k:Int)+1)=(k1:Int):=by have:=HH.out.2.2.2.2.2.2.2.2;rw[IntWalk.i64_in _ Z11];omega
 have hwr2:wrap64 ((k:Int)+1)=(k1:Int):=by have:=HH.out.2.2.2.2.2.2.2.2;rw[IntWalk.wrap64_in _ Z11];omega
 have HF1:=Lib.hid (HG2.out.w.sl.front (sdE_ok 3) rfl k Z11)
 have HF2:=Lib.hid (HG2.out.w.sl.back (sdE_ok 3) rfl k1 Z11)
 have HK1:=Lib.hid (And.intro hk1 hoa)
 clear hcap hk1 hoa
 have HE:Hid (Lx w2 c0 (c0.row (.slice (some ⟨w2.heap.size,0,none⟩) 0 0) 204)∧Row (sdE 3) (c0.row (.slice (some ⟨w2.heap.size,0,none⟩) 0 0) 204) 204 (w2.alloc (.cells #[] 53)).drew (.slice (some ⟨w2.heap.size,0,none⟩) 0 0) []∧Fr (fun l=>l=204) c0 w2 (w2.alloc (.cells #[] 53)).drew):=Lib.hid (by
  have h1:Lx w2 c0 (c0.row (.slice (some ⟨w2.heap.size,0,none⟩) 0 0) 204):=fun j hj=>by
   unfold Lb.row
   rw[if_neg (fun e=>by have e2:w2.heap.size=j:=Option.some.inj e;omega)]
  have h2:(w2.alloc (.cells #[] 53)).ownsRow 0 53 10 (.slice (some ⟨w2.heap.size,0,none⟩) 0 0) 0 []:=
   ⟨Z93,.inr ⟨w2.heap.size,0,_,rfl,Nat.zero_le _,heap_alloc_new _ _,Nat.le_refl _,Z67,Z93,Z93⟩⟩
  have h3:Row (sdE 3) (c0.row (.slice (some ⟨w2.heap.size,0,none⟩) 0 0) 204) 204 (w2.alloc (.cells #[] 53)) (.slice (some ⟨w2.heap.size,0,none⟩) 0 0) []:=⟨⟨[],Inn.nil _ _ _,h2⟩,fun g hg=>if_pos hg⟩
  exact⟨h1,h3.keep (sdE_ok 3) (Lx.refl _ _) fun _ _ _=>rfl,((Fr.refl _ c0 w2).alloc _).drew⟩)
 generalize c0.row (.slice (some ⟨w2.heap.size,0,none⟩) 0 0) 204=cc at HE
 have hlk:(g.way.take k).length=k:=by rw[List.length_take];omega
 have hld:(g.way.drop k1).length=g.way.length-k1:=List.length_drop
 have HLK:=Lib.hid (And.intro hlk hld)
 clear hlk hld
 refine wp_region_K (fun W=>W.cell? ⟨gp,3,none⟩=some (.slice (some ⟨bw,0,none⟩) g.way.length wc)) 19 Z27 ?_ (fun hHeld1=> ?_)
 ·exact HB2.out.cell 3 rfl
 refine tkP 0 ?_ (y:=Z189)
 try simp only[ap]
 refine tkK 2 ?_ (y:=Z1)
 try simp only[ap]
 refine tkK 3 ?_ (y:=Z1)
 try simp only[ap]
 refine tkK 4 ?_ (y:=Z1)
 try simp only[ap]
 refine tkK 5 ?_ (y:=Z1)
 try simp only[ap]
 refine tkK 6 ?_ (y:=Z1)
 try simp only[ap]
 refine tkK 7 ?_ (y:=Z1)
 try simp only[ap]
 refine tkK 9 ?_ (y:=Z1)
 try simp only[ap]
 refine tkK 10 ?_ (y:=Z1)
 try simp only[ap]
 refine tkK 11 ?_ (y:=Z1)
 try simp only[ap]
 refine tkK 12 ?_ (y:=Z1)
 try simp only[ap]
 refine tkK 13 ?_ (y:=Z1)
 try simp only[ap]
 refine tkK 14 ?_ (y:=Z1)
 try simp only[ap]
 refine tkK 15 ?_ (y:=Z1)
 try simp only[ap]
 refine wpAnyK_ready (rs:= [1]) Z27 Z93 ?_
 refine AllReadyK.cons (o:= ?oi15) ?hi15 (fun K hK=> ?hs15) AllReadyK.nil
 case hi15=>exact Z20
 go_simp
 refine hK.out _ _ ?_ (fun hHeld3=> ?_)
 ·exact(cell_eqW (Lib.alloc_old w2 _ gp HB2.out.lt) 3).trans (HB2.out.cell 3 rfl)
 clear hK
 try simp only[ap]
 refine wpAnyK_ready (rs:= [8]) Z27 Z93 ?_
 refine AllReadyK.cons (o:= ?oi16) ?hi16 (fun K hK=> ?hs16) AllReadyK.nil
 case hi16=>exact Z20
 have hfx:=(HF1.out.keep (sdE_ok 3) HE.out.1 (fun j hj _=>Lib.alloc_old w2 _ j hj):SlR (sdE 3) cc 204 (w2.alloc (.cells #[] 53)).drew (.slice (some ⟨bw,0,none⟩) k wc) (g.way.take k))
 obtain⟨v3,w3,hrun,hx3,hr3,hf3,hbl3⟩:=HE.out.2.1.app (t:=44) (ty:=44) (by_:=96) (xv:= .slice (some ⟨bw,0,none⟩) k wc) (m:=g.way.take k) (sdE_ok 3) Tryz.underlying44 sd_row rfl hfx.ex (fun e=>by have:204=3:=e;omega) (by have h1:=HLK.out.1;have h2:=HH.out.2.2.2.2.2.2.2.2;rw[h1];show(0+k)*96≤_;omega) (by have h1:=HLK.out.1;have h2:=HH.out.2.2.2.2.2.2.2.2;rw[h1];show 0+k≤_;unfold maxLen;omega)
 obtain⟨a3,c3,e3⟩:=hr3.slice
 rw[List.nil_append,HLK.out.1] at e3
 subst e3
 rw[List.nil_append] at hr3
 have HRUN:=Lib.hid hrun
 have HR3:=Lib.hid (And.intro hx3 (And.intro hr3 (And.intro hf3 hbl3)))
 clear hfx hrun hx3 hr3 hf3 hbl3
 have HC3:Hid (w3.heap[gp]?=w2.heap[gp]?):=Lib.hid ((HR3.out.2.2.1.block gp (by have:=HE.out.2.2.size;exact Nat.lt_of_lt_of_le HB2.out.lt this) (by rw[HE.out.1 gp HB2.out.lt,HGP.out];decide)).trans (HE.out.2.2.block gp HB2.out.lt (by rw[HGP.out];decide)))
 refine hs_execK Z31 (exec_appK (.tmp 27) (.tmp 33) 44 rfl rfl rfl HRUN.out) ?_
 refine hK.out _ _ ?_ (fun hHeld4=> ?_)
 ·exact(cell_eqW HC3.out 3).trans (HB2.out.cell 3 rfl)
 clear hK
 try simp only[ap]
 refine wpAnyK_ready (rs:= [16]) Z27 Z93 ?_
 refine AllReadyK.cons (o:= ?oi17) ?hi17 (fun K hK=> ?hs17) AllReadyK.nil
 case hi17=>exact Z20
 have hfx:=(HF2.out.keep (sdE_ok 3) HE.out.1 (fun j hj _=>Lib.alloc_old w2 _ j hj):SlR (sdE 3) cc 204 (w2.alloc (.cells #[] 53)).drew _ (g.way.drop k1))
 rw[show(sdE 3).sz=10 from rfl,←HK1.out.2] at hfx
 have hoab: ∀j,Value.ownBlock (.slice oa (g.way.length-k1) (wc-k1))=some j→j=bw:=fun j hj=>by
  rw[HK1.out.2] at hj
  split at hj
  ·exact(Option.some.inj hj).symm
  ·exact(Option.some.inj hj).symm.trans (by unfold Addr.add;split<;>rfl)
 have hfy:SlR (sdE 3) (cc.row (.slice a3 k c3) 204) 204 w3 (.slice oa (g.way.length-k1) (wc-k1)) (g.way.drop k1):=hfx.keepB (sdE_ok 3) HR3.out.1 fun j hj hl=>by
  rcases hl with hl|hl
  ·exact HR3.out.2.2.1.block j hj (by rw[show cc j=3 from hl];decide)
  ·refine HR3.out.2.2.2 j hj fun e=> ?_
   have e2:w2.heap.size=j:=Option.some.inj e
   have e3:=hoab j hl
   have h9:w.heap.size≤w2.heap.size:=HH.out.2.2.2.2.1.size
   have h8:bw<w.heap.size:=HBW.out
   omega
 obtain⟨v4,w4,hrun,hx4,hr4,hf4,-⟩:=HR3.out.2.1.app (t:=44) (ty:=44) (by_:=96) (xv:= .slice oa (g.way.length-k1) (wc-k1)) (m:=g.way.drop k1) (sdE_ok 3) Tryz.underlying44 sd_row rfl hfy.ex (fun e=>by have:204=3:=e;omega) (by have h1:=HLK.out;have h2:=HH.out.2.2.2.2.2.2.2.2;rw[h1.1,h1.2];show(k+(g.way.length-k1))*96≤_;omega) (by have h1:=HLK.out;have h2:=HH.out.2.2.2.2.2.2.2.2;rw[h1.1,h1.2];show k+(g.way.length-k1)≤_;unfold maxLen;omega)
 obtain⟨a4,c4,e4⟩:=hr4.slice
 obtain⟨n4,hn4⟩: ∃n4,n4=(g.way.take k++g.way.drop k1).length:=⟨_,rfl⟩
 rw[←hn4] at e4
 subst e4
 have HN4:=Lib.hid hn4
 have HRUN4:=Lib.hid hrun
 have hlx4:Lx w2 c0 ((cc.row (.slice a3 k c3) 204).row (.slice a4 n4 c4) 204):=(HE.out.1.trans HR3.out.1 HE.out.2.2.size).trans hx4 (Nat.le_trans HE.out.2.2.size HR3.out.2.2.1.size)
 have hfr4:Fr (fun l=>l=204) c0 w2 w4:=(HE.out.2.2.trans HE.out.1 HR3.out.2.2.1).trans (HE.out.1.trans HR3.out.1 HE.out.2.2.size) hf4
 have HR4:=Lib.hid (And.intro hlx4 (And.intro hfr4 (GV.w1 HGP.out HB2.out HG2.out Z148 hlx4 hfr4 hr4)))
 clear hfx hoab hfy hrun hx4 hr4 hf4 hlx4 hfr4 hn4
 have HC4:Hid (w4.heap[gp]?=w2.heap[gp]?):=Lib.hid (HR4.out.2.1.block gp HB2.out.lt (by rw[HGP.out];decide))
 refine hs_execK Z31 (exec_appK (.tmp 34) (.tmp 41) 44 rfl rfl rfl HRUN4.out) ?_
 refine hK.out _ _ ?_ (fun hHeld4=> ?_)
 ·exact(cell_eqW HC4.out 3).trans (HB2.out.cell 3 rfl)
 clear hK
 try simp only[ap]
 refine tkK 17 ?_ (y:=Z1)
 try simp only[ap]
 refine tkK 18 ?_ (y:=Z1)
 try simp only[ap]
 refine wpAnyK_lasts [] Z27 Z31 Z31 ?_
 simp only[List.filterMap_cons,List.filterMap_nil,List.getElem?_toArray,List.getElem?_cons_succ,List.getElem?_cons_zero]
 have z3:=(cell_eqW HC4.out 3).trans (HB2.out.cell 3 rfl)
 have zf:w4.frozen? ⟨gp,3,none⟩=false:=by
  have h1:=HB2.out.frozen 3
  have h2:=HC4.out
  simp only[World.frozen?,h2] at h1⊢
  exact h1
 refine wpList_step fun K hK=> ?_
 rw[if_pos Z31]
 go_simp
 refine hK _ _ ?_
 clear hK
 try simp only[ap]
 have HFIN:Hid (∃c',Lx w c c'∧c' b1=0∧Fr (fun l=>l=200∨l=204) c w (w4.setCell ⟨gp,3,none⟩ (.slice a4 n4 c4))∧GV c' (w4.setCell ⟨gp,3,none⟩ (.slice a4 n4 c4)) gp (wayOut g k)∧SlR (opE 3) c' 3 (w4.setCell ⟨gp,3,none⟩ (.slice a4 n4 c4)) (.slice ua x.m.ops.length uc) x.m.ops):=Lib.hid (by
  have h0:=HR4.out
  have hb:=HH.out.2.2.2.2.1
  have hlx:=HX0.out.1.trans h0.1 hb.size
  have hf:Fr (fun l=>l=200∨l=204) c w (w4.setCell ⟨gp,3,none⟩ (.slice a4 n4 c4)):=(Fr.of_below hb).trans HX0.out.1 h0.2.2.2.1
  have hk1:=HK1.out.1
  refine⟨_,hlx,(h0.1 b1 HZ0.out.lt).trans (HX0.out.2 _ (by have:=HW.out.2.2;omega)),hf,⟨h0.2.2.1,ps,_,_,_,_,_,_,ss,h0.2.2.2.2.1,?_⟩,?_⟩
  ·have h5:=h0.2.2.2.2.2
   rw[hk1] at h5
   exact h5
  ·have hin:=HH.out.2.2.2.2.2.1
   exact(SdI.s hin).keep (opE_ok 3) hlx fun j hj hl=>hf.block j hj fun e=>by
    rcases hl with hl|hl
    ·have h1:c j=3:=hl
     omega
    ·omega)
 have HB1:Hid (w4.heap[b1]?=w2.heap[b1]?∧w4.heap[b1+1]?=w2.heap[b1+1]?∧gp≠b1∧gp≠b1+1):=Lib.hid (by
  have h1:=HW.out.2.2
  have hlt:=HH.out.1.lt
  exact⟨HR4.out.2.1.block _ HZ0.out.lt (by rw[HX0.out.2 _ Z11];decide),HR4.out.2.1.block _ HZ1.out.lt (by rw[HX0.out.2 _ Z11];decide),Z11,Z11⟩)
 have HZ5:Hid (Blk (w4.setCell ⟨gp,3,none⟩ (.slice a4 n4 c4)) (b1+1) 53 (sdC x (.slice ua x.m.ops.length uc))):=Lib.hid (Blk.setOther (show Blk w4 (b1+1) _ _ from HB1.out.2.1.trans HZ1.out) _ _ (Ne.symm HB1.out.2.2.2))
 have HZ4:Hid (Blk (w4.setCell ⟨gp,3,none⟩ (.slice a4 n4 c4)) b1 53 [.int .i64 0,.int .i64 0,.int .i64 0,.int .i64 0,.int .i64 0,.int .i64 0,.slice none 0 0,.int .i64 0,.int .i64 0,.int .i64 0]):=Lib.hid (Blk.setOther (show Blk w4 b1 _ _ from HB1.out.1.trans HZ0.out) _ _ (Ne.symm HB1.out.2.2.1))
 clear z3 zf hHeld1 hHeld3 hHeld4 HR4 HR3 HRUN HRUN4 HE HF1 HF2 HC3 HC4 hsl1 hsl2 hwr hwr2
 generalize w4.setCell ⟨gp,3,none⟩ (.slice a4 n4 c4)=w5 at*
 have hcl:=HZ5.out
 unfold sdC at hcl
 have z0:=hcl.cell 0 rfl
 have z1:=hcl.cell 1 rfl
 have z2:=hcl.cell 2 rfl
 have z3:=hcl.cell 3 rfl
 have z4:=hcl.cell 4 rfl
 have z5:=hcl.cell 5 rfl
 have z6:=hcl.cell 6 rfl
 have z7:=hcl.cell 7 rfl
 have z8:=hcl.cell 8 rfl
 have z9:=hcl.cell 9 rfl
 have q0:=HZ4.out.cell 0 rfl
 have f0:=HZ4.out.frozen 0
 have q1:=HZ4.out.cell 1 rfl
 have f1:=HZ4.out.frozen 1
 have q2:=HZ4.out.cell 2 rfl
 have f2:=HZ4.out.frozen 2
 have q3:=HZ4.out.cell 3 rfl
 have f3:=HZ4.out.frozen 3
 have q4:=HZ4.out.cell 4 rfl
 have f4:=HZ4.out.frozen 4
 have q5:=HZ4.out.cell 5 rfl
 have f5:=HZ4.out.frozen 5
 have q6:=HZ4.out.cell 6 rfl
 have f6:=HZ4.out.frozen 6
 have q7:=HZ4.out.cell 7 rfl
 have f7:=HZ4.out.frozen 7
 have q8:=HZ4.out.cell 8 rfl
 have f8:=HZ4.out.frozen 8
 have q9:=HZ4.out.cell 9 rfl
 have f9:=HZ4.out.frozen 9
 clear hcl
 go_wp2_with fail
 have HZE:=Lib.hid (Blk.setSd HZ4.out (.int .i64 (x.to:Int)) (.int .i64 (x.m.kd:Int)) (.int .i64 (x.m.fr:Int)) (.int .i64 (x.m.vw:Int)) (.int .i64 (x.m.nr:Int)) (.int .i64 (x.m.ao:Int)) (.slice ua x.m.ops.length uc) (.int .i64 (x.m.cm:Int)) (.int .i64 (x.m.sb:Int)) (.int .i64 (x.m.ls:Int)))
 refine ret_cell_sd rfl rfl rfl rfl HZE.out ?_
 obtain⟨c',g1,g2,g3,g4,g5⟩:=HFIN.out
 have hps:=(((((((((((Ps.refl b1 w5).set 0 (.int .i64 (x.to:Int))).set 1 (.int .i64 (x.m.kd:Int))).set 2 (.int .i64 (x.m.fr:Int))).set 3 (.int .i64 (x.m.vw:Int))).set 4 (.int .i64 (x.m.nr:Int))).set 5 (.int .i64 (x.m.ao:Int))).set 6 (.slice ua x.m.ops.length uc)).set 7 (.int .i64 (x.m.cm:Int))).set 8 (.int .i64 (x.m.sb:Int))).set 9 (.int .i64 (x.m.ls:Int)))
 have hbw:=HW.out.2.2
 have hnn:(wayOut g k).n≤7:=by have h1:=HH.out.2.2.2.1;show g.n≤7;omega
 have hfr2:Fr (fun l=>l=0) c' w5 _:=hps.fr (F:=fun l=>l=0) g2
 refine⟨ua,uc,rfl,c',g1,⟨hps.os.trans g3.os,hps.tape.trans g3.tape,hps.output.trans g3.output,by rw[hps.size];exact g3.size,fun j hj hn=>(hps.heap j Z11).trans (g3.block j hj hn)⟩,g4.keep hnn (Lx.refl _ _) fun j hj hl=>hfr2.block j hj (fun e=>by rw[e] at hl;unfold Gl at hl;omega),g5.keep (opE_ok 3) (Lx.refl _ _) fun j hj hl=>hfr2.block j hj (fun e=>by
  rcases hl with hl|hl
  ·have h1:c' j=3:=hl
   omega
  ·omega)⟩
end Go.Proofs.YtdmjegelcdghlaaGreat.Vw
