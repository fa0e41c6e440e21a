/-
  Chapter 22: what holds of a group bounds what its replicas hold.
-/
import Derived.Test.YtdmjegelcdghlaaGreatGKq
import Derived.Test.YtdmjegelcdghlaaGreatGKh
set_option maxRecDepth 100000
set_option maxHeartbeats 64000000
set_option linter.unusedVariables false
set_option linter.unusedSimpArgs false
namespace Go.Proofs.YtdmjegelcdghlaaGreat.Vw
open Go.RowKit Go.Maps
variable {N:Nat} {h:Gh Op} {g:Gp Op}
theorem GI.sgN (G:GI mayO N h g){v a:Nat}{ops:List Op}(s:Sg (h.W v) a ops):a+ops.length≤N:=Nat.le_trans s.le (G.al.wok v).2
theorem GI.li (G:GI mayO N h g)(hN:N≤1000)(hn:g.n≤7){i:Nat}(hi:i<g.n):LI (g.r i):=by
 have r:=G.rep hi
 have h1:=G.sgN r.sg
 have h2:TM=1099511627776:=rfl
 refine⟨?_,?_,r.tm,G.al.core.le i hi,r.od,r.ls,⟨Z11,Z11⟩,by rw[r.nn];exact r.hl,?_,?_⟩
 ·rw[r.nn];exact⟨G.n1,hn⟩
 ·rw[r.nn,r.id];exact hi
 ·rw[(G.em i hi).1];exact Nat.zero_le _
 ·rw[(G.em i hi).2.1];exact Nat.zero_le _
theorem GI.hbr (G:GI mayO N h g){i:Nat}(hi:i<g.n)(hl:leads (g.r i)=true):HB (g.r i):=fun k hk=>G.al.hb hi hl k (by rw[←(G.rep hi).nn];exact hk)
theorem GI.obr (G:GI mayO N h g)(hN:N≤1000){i:Nat}(hi:i<g.n):OB (g.r i):=by
 intro k o ho
 have r:=G.rep hi
 obtain⟨h1,h2,h3,f,h4,h5⟩:=r.of k o ho
 have h6:=G.sgN f.sg
 have h7:TM=1099511627776:=rfl
 have h8:=r.tm
 have h9:=f.nr
 have h10:=f.le
 have h11:o.last=o.ao+o.ops.length:=rfl
 exact⟨Z11,h4,Z11,h5,Z11,Z11⟩
theorem GI.tb (G:GI mayO N h g)(hN:N≤1000)(hn:g.n≤7){x:Sd Op}(hx:x∈g.way):TB (g.r x.to) x.m:=by
 have X:=G.wy x hx
 have h7:TM=1099511627776:=rfl
 obtain⟨_,hm,_⟩:=G.take (k:=0) Z11 hx
 have hops:x.m.ao+x.m.ops.length≤N∧x.m.cm≤N:=by
  rcases X.kd with g1|g1|g1|g1|g1
  ·have:=G.sgN g1.2.2.2.2.2.1;have:=g1.2.2.2.2.2.2.2.1;omega
  ·rw[g1.2.1,g1.2.2.1,g1.2.2.2.1];simp
  ·rw[g1.2.1,g1.2.2.1,g1.2.2.2.1];simp
  ·have h1:=G.sgN g1.2.2.2.2.sg
   have h2:=g1.2.2.2.2.le.2
   exact⟨h1,Nat.le_trans h2 h1⟩
  ·have:=G.sgN g1.2.2.2.2.2.2.1;have:=g1.2.2.2.2.2.2.2.2.2.2.1;omega
 refine⟨G.li hN hn X.to,G.hbr X.to,G.obr hN X.to,⟨Z11,Z11,Z11,fun _=>Z11⟩,hm,?_,Z11⟩
 rw[(G.em x.to X.to).1,(G.em x.to X.to).2.1]
 exact⟨Nat.zero_le _,Nat.zero_le _⟩
theorem RI.li {n i:Nat}{vw:Nat→Nat}{q:Rp Op}(r:RI n mayO h vw i q)(hw:Wok mayO N h)(hN:N≤1000)(hn:1≤n∧n≤7)(hi:i<n)(hnv:q.nr≤q.vw)(hs:q.saves.length≤50000)(ho:q.out.length≤50000):LI q:=by
 have h1:q.bs+q.log.length≤N:=Nat.le_trans r.sg.le (hw _).2
 have h2:TM=1099511627776:=rfl
 refine⟨?_,?_,r.tm,hnv,r.od,r.ls,⟨Z11,Z11⟩,by rw[r.nn];exact r.hl,hs,ho⟩
 ·rw[r.nn];exact hn
 ·rw[r.nn,r.id];exact hi
theorem Pre.sb {i:Nat}(p:Pre mayO N h g i)(hN:N≤1000)(hn:1≤g.n∧g.n≤5)(hi:i<g.n)(hs:(g.r i).saves.length≤50000)(ho:(g.r i).out.length≤50000)(hb:(g.saves i).length≤100000000∧g.way.length≤100000000):SB g i:=by
 have r:=p.al.rep i hi
 have hod:g.order.length≤N:=by
  obtain⟨v,h1,h2⟩:=p.od
  have h3:=congrArg List.length h2
  rw[List.length_take] at h3
  have h4:=(p.al.wok v).2
  omega
 exact⟨hn,hi,r.li p.al.wok hN ⟨hn.1,Z11⟩ hi (p.al.core.le i hi) hs ho,(p.td i hi).1,by rw[(p.td i hi).1];exact(p.td i hi).2.1,p.same hi,hb.1,hb.2,Z11⟩
end Go.Proofs.YtdmjegelcdghlaaGreat.Vw
