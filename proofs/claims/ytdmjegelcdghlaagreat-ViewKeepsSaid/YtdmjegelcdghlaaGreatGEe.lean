/-
  Chapter 16: seal.Right, tag, Make.
-/
import Derived.Test.YtdmjegelcdghlaaGreatGJs
import Derived.Test.YtdmjegelcdghlaaGreatGHg
set_option maxRecDepth 100000
set_option maxHeartbeats 64000000
set_option linter.unusedVariables false
set_option linter.unusedSimpArgs false
namespace Go.Proofs.YtdmjegelcdghlaaGreat
theorem Z181 {p:Prop}(h:p:=by
 have HT:Hid ((fam.take (k+1)).all sgn=((fam.take k).all sgn&&sgn c)):=Lib.hid (by rw[List.take_succ_eq_append_getElem hlt,List.all_append,hc];simp)
 have HF:Hid (sgn c=false→fam.all sgn=false):=Lib.hid (fun h=>by
  rw[List.all_eq_false];exact⟨c,by rw[←hc];exact List.getElem_mem hlt,by rw[h];simp⟩)
 clear hc
 go_wp2_with fail
 refine(HSG.out w0).mono ?_
 rintro e w1 ⟨rfl,rfl⟩
 cases hsc:sgn c with
 |true=>
  have HT2:=Lib.hid (HT.out.trans (by rw[hall,hsc];try rfl))
  clear hsc HT HF hall
  go_wp2_with fail
  go_round
  case rel=>exact⟨k+1,Z11,Z83,HT2.out⟩
  case measure=>simp[intOf];omega
 |false=>
  have HF2:=Lib.hid (HF.out hsc)
  clear hsc HT HF hall
  go_wp2_with fail
  go_ret
  refine⟨ret_bool' ?_,hbl⟩
  rw[HR.out,HF2.out];rfl):p:=h
end Go.Proofs.YtdmjegelcdghlaaGreat
namespace Go.Proofs.YtdmjegelcdghlaaGreat.Se
open Go.RowKit
theorem tk_set3 {W:World}{b:Nat}{ty:TypeId}{x0 x1 x2:Value}(h:Blk W b ty [x0,x1,x2])(y0 y1 y2:Value):Blk (((W.setCell ⟨b,0,none⟩ y0).setCell ⟨b,1,none⟩ y1).setCell ⟨b,2,none⟩ y2) b ty [y0,y1,y2]:=((h.set 0 y0).set 1 y1).set 2 y2
theorem below_set3 {B b:Nat}{w W:World}(h:Below B w W)(hb:B≤b)(y0 y1 y2:Value):Below B w (((W.setCell ⟨b,0,none⟩ y0).setCell ⟨b,1,none⟩ y1).setCell ⟨b,2,none⟩ y2):=((h.setCell hb _).setCell hb _).setCell hb _
def tkv (t:Tk):Value:= .agg #[.int .i64 t.kd,.string ⟨t.fam.toArray⟩,.int .i64 t.ser]
theorem right_split (kd:Int)(fam:By)(ser:Int):decide (Right ⟨kd,fam,ser⟩)=(fam.all sgn&&(decide (1≤kd)&&decide (kd≤3)&&decide (1≤(fam.length:Int))&&decide ((fam.length:Int)≤32)&&decide (0≤ser)&&decide (ser≤1099511627776))):=by
 rw[Bool.eq_iff_iff,decide_eq_true_eq]
 unfold Right
 simp only[Bool.and_eq_true,decide_eq_true_eq,and_assoc]
 constructor
 ·rintro⟨a,b,c,d,e,f,g⟩;exact⟨a,b,c,Z11,Z11,f,g⟩
 ·rintro⟨a,b,c,d,e,f,g⟩;exact⟨a,b,c,Z11,Z11,f,g⟩
theorem right_any (t:Tk)(w:World)(hm:t.fam.length≤9223372036854775807):
 Calls Tryz.prog 112 #[tkv t] w fun e w'=>e= .returned (.bool (decide (Right t)))∧Below w.heap.size w w':=by
 obtain⟨kd,fam,ser⟩:=t
 simp only at hm
 have hB:Blk (w.alloc (.cells #[.int .i64 kd,.string ⟨fam.toArray⟩,.int .i64 ser] 139)) w.heap.size 139 [.int .i64 kd,.string ⟨fam.toArray⟩,.int .i64 ser]:=Blk.new w _ _
 have hbl:Below w.heap.size w (w.alloc (.cells #[.int .i64 kd,.string ⟨fam.toArray⟩,.int .i64 ser] 139)):=(Below.refl _ _).alloc (Nat.le_refl _) _
 show Calls _ _ #[.agg #[.int .i64 kd,.string ⟨fam.toArray⟩,.int .i64 ser]] w _
 have q1:=hB.cell 0 rfl
 have q2:=hB.cell 1 rfl
 have q3:=hB.cell 2 rfl
 clear hB
 have hsz:(⟨fam.toArray⟩:ByteArray).size=fam.length:=st_size fam
 have HR:=Lib.hid (right_split kd fam ser)
 go_enter Tryz.func112,Tryz.ntmps112
 go_wp2_with fail
 generalize w.alloc (.cells #[.int .i64 kd,.string ⟨fam.toArray⟩,.int .i64 ser] 139)=w0 at q1 q2 q3 hbl⊢
 go_loop [3] (fun i=> ∃k:Nat,k≤fam.length∧i= .int .i64 k∧(fam.take k).all sgn=true) (fun i=>fam.length-(intOf i).toNat)
 case atStart=>exact⟨0,Z11,rfl,rfl⟩
 case round=>
  obtain⟨k,hk,rfl,hall⟩:=hrel
  by_cases hlt:k<fam.length
  case pos=>
   obtain⟨c,hc⟩: ∃c,fam[k]=c:=⟨_,rfl⟩
   have hix:=ix_str ⟨fam.toArray⟩ k (by rw[hsz];exact hlt) c hc
   have k0:(k:Int)<(fam.length:Int):=by omega
   have HSG:=Lib.hid (sign_any c)
   exact Z181
  case neg=>
   have hfa:fam.all sgn=true:=by rw[List.take_of_length_le Z11] at hall;exact hall
   have HFA:=Lib.hid hfa
   clear hfa hall
   go_wp2_with fail
   all_goals
    go_ret
    refine⟨ret_bool' ?_,hbl⟩
    rw[HR.out,HFA.out,Bool.eq_iff_iff]
    simp
    try omega
end Go.Proofs.YtdmjegelcdghlaaGreat.Se
