/- A part of the proof. -/
import Derived.Test.YtolkmchicplaoaaGreatG15
import Derived.Test.YtolkmchicplaoaaGreatG17
set_option linter.all false
open Go.Proofs.Tryz
namespace Go.Proofs.YtolkmchicplaoaaGreat
open Go.RowKit Go.aS Go.aS.I_ Go.aS.Y
def kU {α:Type}{l:List α}{i j:Nat}{x y:α}(h:(l.set i x)[j]?=some y):(j=i∧y=x)∨(j≠i∧l[j]?=some y):=by
 rw[tU]at h;split at h
 ·rename_i e;split at h
  ·left;exact⟨e.symm,(eQ h).symm⟩
  ·cases h
 ·rename_i e;right;exact⟨λe2=>e e2.symm,h⟩
def gq (rows:List Z.Row):List (Int×Int):=rows.map (λx=>(x.aw,x.tag))
structure HI (c:Y.cA)(ai:List (List In))(g:ag3)(d:Nat)(s:Z.St):Prop where
 aP5:ag2 c g s.mem
 n:(s.iB.length:Int)=c.t
 Hw:∀(t:Nat) u,s.iB[t]?=some u→(s.mem.cl (at_ c 1 t 0)).2≤u.count∧0≤u.count
 th:∀(t:Nat) u me k,s.iB[t]?=some u→u.at_=some (me,k)→ap0 c ai g s.mem (gq s.rows) me k∧me.aw=t∧me.tag=u.count
 rn:(gq s.rows).Nodup
 r2:∀x∈s.rows,1≤x.tag∧∃(t:Nat) (u:Z.Th),s.iB[t]?=some u∧x.aw=t∧x.tag≤u.count
 r3:∀(t:Nat) u me k,s.iB[t]?=some u→u.at_=some (me,k)→((t:Int),u.count)∈gq s.rows→u.count≤g.D t
 r4:(now s.mem).2<c.la→∀u,0≤u→u<c.t→(u,(s.mem.cl (at_ c 1 u 0)).2)∈gq s.rows→(s.mem.cl (at_ c 1 u 0)).2≤g.D u
 L4:∀x∈s.rows,x.at_+d≤s.aK
 cr:∀p,((s.rows.countP (λx=>decide (x.at_=p)):Nat):Int)≤c.t
 lk:∀(t:Nat) u me k,s.iB[t]?=some u→u.at_=some (me,k)→3≤k.next→u.looked+d≤s.aK∧(∀x∈s.rows,x.at_≠u.looked)∧∀(t2:Nat) u2 HJ k2,t2≠t→s.iB[t2]?=some u2→u2.at_=some (HJ,k2)→3≤k2.next→u2.looked≠u.looked
 tr:(s.mem.trace.length:Int)+d=s.aK
 ev:∀(i:Nat) e,s.mem.trace[i]?=some e→e.op.a=0→e.op.k=2→e.out.ok=true→∃x∈s.rows,x.at_=(i:Int)+1
 sG:∀(t:Nat) u,s.iB[t]?=some u→∀tag,1≤tag→tag≤u.count→∃r∈s.aM,r.aw=t∧r.tag=tag
section
variable {c:Y.cA} {ai:List (List In)} {g:ag3} {s:Z.St}
def HI.tick (h:HI c ai g 0 s):HI c ai g 1 {s with aK:=s.aK+1}:=
 ⟨h.aP5,h.n,h.Hw,h.th,h.rn,h.r2,h.r3,h.r4,λx hx=>by have:=h.L4 x hx;dsimp only;omega,h.cr,λt u me k a1 a2 a3=>by
  obtain⟨b1,b2,b3⟩:=h.lk t u me k a1 a2 a3;exact⟨by dsimp only;omega,b2,b3⟩,by have:=h.tr;dsimp only;omega,h.ev,h.sG⟩
def AF {rows u tag}:(u,tag)∈gq rows↔∃x∈rows,x.aw=u∧x.tag=tag:=by
 unfold gq;rw[mE];constructor
 ·rintro⟨x,h1,h2⟩;exact⟨x,h1,congrArg (·.1) h2,congrArg (·.2) h2⟩
 ·rintro⟨x,h1,h2,h3⟩;exact⟨x,h1,Prod.ext h2 h3⟩
def HI.aa5 {d:Nat}(h:HI c ai g d s){t:Nat}{u:Z.Th}(hu:s.iB[t]?=some u){tag:Int}(hr:((t:Int),tag)∈gq s.rows):1≤tag∧tag≤u.count:=by
 obtain⟨x,h1,h2,h3⟩:=AF.1 hr;obtain⟨a1,t2,u2,a2,a3,a4⟩:=h.r2 x h1;have:t2=t:=by omega
 subst this;rw[hu]at a2;obtain rfl:=eQ a2;omega
def HI.dI (aE:Y.Ok c)(h:HI c ai g 1 s){t u}(hu:s.iB[t]?=some u)(jT:u.at_=none){x xs}(hc:u.calls=x::xs):
 HI c ai g 1 (Z.dI ai t s)∧(Z.dI ai t s).iB[t]?=some ⟨xs,some (⟨t,u.count+1,x⟩,K.new ai ⟨t,u.count+1,x⟩),s.aM.length,u.count+1,u.looked⟩:=by
 have lK:t<s.iB.length:=(dE.1 hu).1;have ox:Z.iO s t=u:=by unfold Z.iO;rw[cO,hu];rfl
 have eh:u.calls.headD ⟨0,[]⟩=x:=by rw[hc];rfl
 have e:Z.dI ai t s={s with iB:=s.iB.set t {Z.begun ai t u with record:=s.aM.length},aM:=s.aM++[⟨t,u.count+1,x,s.aK,0,0,false,0,0⟩]}:=by
  unfold Z.dI Z.EX;rw[ox,eh]
 have eb:({Z.begun ai t u with record:=s.aM.length}:Z.Th)=⟨xs,some (⟨t,u.count+1,x⟩,K.new ai ⟨t,u.count+1,x⟩),s.aM.length,u.count+1,u.looked⟩:=by
  unfold Z.begun;rw[eh,hc];rfl
 rw[e,eb];have L5:=h.Hw t u hu;have kT:(K.new ai ⟨t,u.count+1,x⟩).next=0∨(K.new ai ⟨t,u.count+1,x⟩).next=2:=by unfold K.new;dsimp only;split<;>simp
 refine⟨⟨h.aP5,by dsimp only;rw[cF];exact h.n,?_,?_,h.rn,?_,?_,h.r4,h.L4,h.cr,?_,h.tr,h.ev,?_⟩,eW lK⟩
 ·intro t2 u2 h2;rcases kU h2 with⟨rfl,rfl⟩|⟨pg,h3⟩
  ·dsimp only;omega
  ·exact h.Hw t2 u2 h3
 ·intro t2 u2 me k h2 ha;rcases kU h2 with⟨rfl,rfl⟩|⟨pg,h3⟩
  ·dsimp only at ha;obtain⟨rfl,rfl⟩:=Prod.mk.inj (eQ ha);refine⟨⟨λe=>(by cases e),λ_=>by dsimp only;omega,λe=>?_,λ_ _=>by omega,λe=>by omega,λe=>by omega,λe=>by omega,λ_ _=>by omega,λ_ _ _=>by omega,λe=>by omega,λy hy=>(by cases hy),λe=>by omega,λe=>by omega⟩,rfl,rfl⟩;rcases e with e|e
   ·have e0:(K.new ai ⟨t2,u.count+1,x⟩).next=0:=by omega
    unfold K.new at e0;dsimp only at e0;split at e0
    ·omega
    ·rename_i hx;simp only[not_or]at hx;cases hr:I_.right (K.code ai ⟨t2,u.count+1,x⟩)with
     |true=>rfl
     |false=>exact absurd hr hx.1
   ·cases e
  ·exact h.th t2 u2 me k h3 ha
 ·intro y hy;obtain⟨a1,t2,u2,a2,a3,a4⟩:=h.r2 y hy;refine⟨a1,?_⟩;by_cases e2:t2=t
  ·subst e2;rw[hu]at a2;obtain rfl:=eQ a2;exact⟨t2,_,eW lK,a3,by dsimp only;omega⟩
  ·exact⟨t2,u2,by dsimp only;rw[dF (λh=>e2 h.symm)];exact a2,a3,a4⟩
 ·intro t2 u2 me k h2 ha hr;rcases kU h2 with⟨rfl,rfl⟩|⟨pg,h3⟩
  ·dsimp only at hr;have:=h.aa5 hu hr;omega
  ·exact h.r3 t2 u2 me k h3 ha hr
 ·intro t2 u2 me k h2 ha h3n;rcases kU h2 with⟨rfl,rfl⟩|⟨pg,h3⟩
  ·dsimp only at ha;obtain⟨rfl,rfl⟩:=Prod.mk.inj (eQ ha);omega
  ·obtain⟨b1,b2,b3⟩:=h.lk t2 u2 me k h3 ha h3n;refine⟨b1,b2,λt4 u4 PW k4 n4 h4 gN wR=>?_⟩;rcases kU h4 with⟨rfl,rfl⟩|⟨aq5,h5⟩
   ·dsimp only at gN;obtain⟨rfl,rfl⟩:=Prod.mk.inj (eQ gN);omega
   ·exact b3 t4 u4 PW k4 n4 h5 gN wR
 ·intro t2 u2 h2 tag g1 g2;rcases kU h2 with⟨rfl,rfl⟩|⟨pg,h3⟩
  ·dsimp only at g2;by_cases e2:tag=u.count+1
   ·exact⟨_,List.mem_append_right _ (jO.2 rfl),rfl,e2.symm⟩
   ·obtain⟨r,b1,b2⟩:=h.sG t2 u hu tag g1 (by omega);exact⟨r,List.mem_append_left _ b1,b2⟩
  ·obtain⟨r,b1,b2⟩:=h.sG t2 u2 h3 tag g1 g2;exact⟨r,List.mem_append_left _ b1,b2⟩
def yn {α:Type} [DecidableEq α]:∀(l m:List α),l.Nodup→l⊆m→l.length≤m.length
 |[],m,_,_=>cE _
 |x::l,m,hn,hs=>by
  rw[List.nodup_cons]at hn;have hx:x∈m:=hs (by simp);have h1:=yn l (m.erase x) hn.2 (λy hy=>by
   have Yu:y∈m:=hs (oB _ hy);have pg:y≠x:=λe=>hn.1 (e▸hy);exact(List.mem_erase_of_ne pg).2 Yu)
  rw[List.length_erase_of_mem hx]at h1;have:=List.length_pos_of_mem hx;rw[dT];omega
end
end Go.Proofs.YtolkmchicplaoaaGreat
namespace Go.Proofs.YtolkmchicplaoaaGreat
open Go.RowKit Go.aS Go.aS.I_ Go.aS.Y
section
variable {c:Y.cA} {ai:List (List In)} {g:ag3} {s:Z.St}
def AR {m:C.M}{aw:Int}{op:C.BU}(he:C.err m.cells.length aw op=0):(m.step aw op).trace=m.trace++[⟨aw,op,m.told aw op⟩]:=by
 unfold C.M.step C.M.told;rw[aB he,aB he]
def J1 {rows l:List Z.Row}{p:Int}{B:Int}(h1:((rows.countP (λx=>decide (x.at_=p)):Nat):Int)≤B)(q:Int)(hq:∀x∈l,x.at_=q)(h0:∀x∈rows,x.at_≠q)(hl:(l.length:Int)≤B):(((rows++l).countP (λx=>decide (x.at_=p)):Nat):Int)≤B:=by
 rw[List.countP_append];by_cases e:p=q
 ·subst e;have e1:rows.countP (λx=>decide (x.at_=p))=0:=by
   rw[List.countP_eq_zero];intro x hx;simp only[gG];exact h0 x hx
  have e2:l.countP (λx=>decide (x.at_=p))≤l.length:=List.countP_le_length;omega
 ·have e1:l.countP (λx=>decide (x.at_=p))=0:=by
   rw[List.countP_eq_zero];intro x hx;simp only[gG];rw[hq x hx];exact λh=>e h.symm
  omega
def HI.after (aE:Y.Ok c){g':ag3}{N:Int}(h:HI c ai g 1 s)(mJ:∀(t:Nat) u me k,s.iB[t]?=some u→u.at_=some (me,k)→KI c ai me N k){t:Nat}{u:Z.Th}(hu:s.iB[t]?=some u){me:K.Me}{k:K.St}(jT:u.at_=some (me,k)){op:C.BU}(he:C.err s.mem.cells.length t op=0){l:List Z.Row}{u2:Z.Th}{aM:List Z.Rec}
 (aP5:ag2 c g' (s.mem.step t op))(mv:sV c t g g' s.mem (s.mem.step t op))(hL:∀x,x≠(t:Int)→g'.L x=g.L x)(hD:∀x,g.D x≤g'.D x)
 (mw:u2.count=u.count)(hA:((s.mem.step t op).cl (at_ c 1 t 0)).2≤u.count)
 (tm:∀r∈s.aM,∃r2∈aM,r2.aw=r.aw∧r2.tag=r.tag)
 (as6:∀HJ k2,u2.at_=some (HJ,k2)→HJ=me∧ap0 c ai g' (s.mem.step t op) (gq (s.rows++l)) HJ k2)
 (o8:(gq l).Nodup)(rR:∀x∈l,1≤x.tag∧(∃(t2:Nat) (u3:Z.Th),s.iB[t2]?=some u3∧x.aw=t2∧x.tag≤u3.count)∧(x.aw,x.tag)∉gq s.rows)
 (hr:∀(x:Z.Row),x∈l→x.tag≤g'.D x.aw∨(x.aw=t∧u2.at_=none∧(((s.mem.step t op).cl (at_ c 1 t 0)).2<x.tag∨c.la≤(now (s.mem.step t op)).2)))
 (au4:(now (s.mem.step t op)).2=(now s.mem).2→(now s.mem).2<c.la→∀y tag,tag≤(s.mem.cl (at_ c 1 y 0)).2→(y,tag)∉gq s.rows→(y,tag)∉gq (s.rows++l))
 (L6:(now (s.mem.step t op)).2<c.la→((t:Int),((s.mem.step t op).cl (at_ c 1 t 0)).2)∈gq s.rows→((s.mem.step t op).cl (at_ c 1 t 0)).2≤g'.D t)
 {q:Int}(hq:∀x∈l,x.at_=q)(hq0:∀x∈s.rows,x.at_≠q)(hqp:q≤s.aK)(Hh:(l.length:Int)≤c.t)
 (xM:∀(t2:Nat) u3 ys k3,t2≠t→s.iB[t2]?=some u3→u3.at_=some (ys,k3)→3≤k3.next→l≠[]→u3.looked≠q)
 (au5:∀HJ k2,u2.at_=some (HJ,k2)→3≤k2.next→u2.looked≤s.aK∧(∀x∈s.rows++l,x.at_≠u2.looked)∧∀(t2:Nat) u3 ys k3,t2≠t→s.iB[t2]?=some u3→u3.at_=some (ys,k3)→3≤k3.next→u3.looked≠u2.looked)
 (hev:op.a=0→op.k=2→(s.mem.told t op).ok=true→∃x∈l,x.at_=s.aK):
 HI c ai g' 0 {s with mem:=s.mem.step t op,iB:=s.iB.set t u2,rows:=s.rows++l,aM:=aM}:=by
 have lK:t<s.iB.length:=(dE.1 hu).1;have hn:=h.n;have yR:gq (s.rows++l)=gq s.rows++gq l:=by unfold gq;rw[pS]
 have Lx:∀y tag,(y,tag)∈gq (s.rows++l)→(y,tag)∈gq s.rows∨∃x∈l,x.aw=y∧x.tag=tag:=λy tag hm=>by
  rw[yR]at hm;rcases jQ.1 hm with h1|h1
  ·exact .inl h1
  ·exact .inr (AF.1 h1)
 have NB:∀(t2:Nat) u3,(s.iB.set t u2)[t2]?=some u3→∃u4,s.iB[t2]?=some u4∧u3.count=u4.count:=λt2 u3 h3=>by
  rcases kU h3 with⟨rfl,rfl⟩|⟨pg,h4⟩
  ·exact⟨u,hu,mw⟩
  ·exact⟨u3,h4,rfl⟩
 have pV:∀(t2:Nat),t2≠t→(t2:Int)<c.t→(s.mem.step t op).cl (at_ c 1 t2 0)=s.mem.cl (at_ c 1 t2 0):=λt2 pg tH=>(mv.one t2 (by omega) tH (by omega)).1;refine⟨aP5,by dsimp only;rw[cF];exact hn,?_,?_,?_,?_,?_,?_,?_,?_,?_,?_,?_,?_⟩
 ·intro t2 u3 h3;rcases kU h3 with⟨rfl,rfl⟩|⟨pg,h4⟩
  ·have:=h.Hw t2 u hu;dsimp only;omega
  ·have h5:=h.Hw t2 u3 h4;have:=(dE.1 h4).1;dsimp only;rw[pV t2 pg (by omega)];exact h5
 ·intro t2 u3 ys k3 h3 LW;rcases kU h3 with⟨rfl,rfl⟩|⟨pg,h4⟩
  ·obtain⟨e1,e2⟩:=as6 ys k3 LW;obtain⟨_,e3,e4⟩:=h.th t2 u me k hu jT;exact⟨e2,by rw[e1];exact e3,by rw[e1,mw];exact e4⟩
  ·obtain⟨a1,a2,a3⟩:=h.th t2 u3 ys k3 h4 LW;have tH:=(dE.1 h4).1;have ah7:=mv.one t2 (by omega) (by omega) (by omega);rw[←a2]at ah7;refine⟨a1.move aE (mJ t2 u3 ys k3 h4 LW) aP5 mv (hL _ (by rw[a2];omega)) ah7.1 ah7.2 (mv.GC aE) au4,a2,a3⟩
 ·dsimp only;rw[yR,List.nodup_append];refine⟨h.rn,o8,λa ha b hb e=>?_⟩;obtain⟨y,tag⟩:=b;obtain⟨x,hx,e1,e2⟩:=AF.1 hb;have:=(rR x hx).2.2;rw[e1,e2,←e]at this;exact this ha
 ·intro x hx;have key:∀(t2:Nat) u3,s.iB[t2]?=some u3→∃u4,(s.iB.set t u2)[t2]?=some u4∧u4.count=u3.count:=λt2 u3 h3=>by
   by_cases e:t2=t
   ·subst e;rw[hu]at h3;obtain rfl:=eQ h3;exact⟨u2,eW lK,mw⟩
   ·exact⟨u3,by rw[dF (λh=>e h.symm)];exact h3,rfl⟩
  rcases jQ.1 hx with h1|h1
  ·obtain⟨a1,t2,u3,a2,a3,a4⟩:=h.r2 x h1;obtain⟨u4,b1,b2⟩:=key t2 u3 a2;exact⟨a1,t2,u4,b1,a3,by omega⟩
  ·obtain⟨a1,⟨t2,u3,a2,a3,a4⟩,_⟩:=rR x h1;obtain⟨u4,b1,b2⟩:=key t2 u3 a2;exact⟨a1,t2,u4,b1,a3,by omega⟩
 ·intro t2 u3 ys k3 h3 LW hm;obtain⟨u4,b1,b2⟩:=NB t2 u3 h3;rcases Lx _ _ hm with h1|⟨x,hx,e1,e2⟩
  ·have h5:∃PW k4,u4.at_=some (PW,k4):=by
    rcases kU h3 with⟨rfl,rfl⟩|⟨pg,h4⟩
    ·rw[hu]at b1;obtain rfl:=eQ b1;exact⟨me,k,jT⟩
    ·rw[h4]at b1;obtain rfl:=eQ b1;exact⟨ys,k3,LW⟩
   obtain⟨PW,k4,h6⟩:=h5;have:=h.r3 t2 u4 PW k4 b1 h6 (by rw[←b2];exact h1);have h7:=hD t2;omega
  ·rcases hr x hx with h6|⟨h6,h7,_⟩
   ·rw[e1,e2]at h6;exact h6
   ·exfalso;have:t2=t:=by omega
    subst this;rw[eW lK]at h3;obtain rfl:=eQ h3;rw[h7]at LW;cases LW
 ·intro lV y h0 h1 hm;dsimp only at lV hm⊢;rcases Lx _ _ hm with h2|⟨x,hx,e1,e2⟩
  ·by_cases e:y=t
   ·subst e;exact L6 lV h2
   ·obtain⟨y2,rfl⟩:∃y2:Nat,y=y2:=⟨y.toNat,by omega⟩;rw[pV y2 (by omega) h1]at h2⊢;have h8:=mv.n;exact oJ (h.r4 (by omega) y2 h0 h1 h2) (hD _)
  ·rcases hr x hx with h6|⟨h6,_,h7⟩
   ·rw[e1,e2]at h6;exact h6
   ·exfalso;rw[h6]at e1;rw[←e1]at e2;rcases h7 with h7|h7<;>omega
 ·intro x hx;rcases jQ.1 hx with h1|h1
  ·have:=h.L4 x h1;dsimp only;omega
  ·rw[hq x h1];dsimp only;omega
 ·exact λp=>J1 (h.cr p) q hq hq0 Hh
 ·intro t2 u3 ys k3 h3 LW Cf;dsimp only at h3⊢;rcases kU h3 with⟨rfl,rfl⟩|⟨pg,h4⟩
  ·obtain⟨b1,b2,b3⟩:=au5 ys k3 LW Cf;refine⟨by omega,b2,λt4 u4 PW k4 n4 h5 gN wR=>?_⟩;rcases kU h5 with⟨rfl,rfl⟩|⟨aq5,h6⟩
   ·exact absurd rfl n4
   ·exact b3 t4 u4 PW k4 n4 h6 gN wR
  ·obtain⟨b1,b2,b3⟩:=h.lk t2 u3 ys k3 h4 LW Cf;refine⟨by omega,λx hx=>?_,λt4 u4 PW k4 n4 h5 gN wR=>?_⟩
   ·rcases jQ.1 hx with h7|h7
    ·exact b2 x h7
    ·rw[hq x h7];exact λe=>xM t2 u3 ys k3 pg h4 LW Cf (List.ne_nil_of_mem h7) e.symm
   ·rcases kU h5 with⟨rfl,rfl⟩|⟨aq5,h6⟩
    ·exact λe=>(au5 PW k4 gN wR).2.2 t2 u3 ys k3 pg h4 LW Cf e.symm
    ·exact b3 t4 u4 PW k4 n4 h6 gN wR
 ·have:=h.tr;dsimp only;rw[AR he,eE,List.length_singleton];omega
 ·intro i e hi h0 h2 ho;dsimp only at hi⊢;rw[AR he]at hi;have k9:=h.tr;rcases qS i s.mem.trace.length with h5|h5
  ·rw[gm h5]at hi;obtain⟨x,hx,e1⟩:=h.ev i e hi h0 h2 ho;exact⟨x,List.mem_append_left _ hx,e1⟩
  ·rw[gw h5]at hi;have h6:i-s.mem.trace.length=0:=by
    have:=(dE.1 hi).1;rw[List.length_singleton]at this;omega
   rw[h6]at hi;have hi:=(eQ hi).symm;subst hi;obtain⟨x,hx,e1⟩:=hev h0 h2 ho;exact⟨x,List.mem_append_right _ hx,by omega⟩
 ·intro t2 u3 h3 tag g1 g2;obtain⟨u4,b1,b2⟩:=NB t2 u3 h3;obtain⟨r,d1,d2,d3⟩:=h.sG t2 u4 b1 tag g1 (by omega);obtain⟨r2,f1,f2,f3⟩:=tm r d1;exact⟨r2,f1,by omega,by omega⟩
end
end Go.Proofs.YtolkmchicplaoaaGreat
namespace Go.Proofs.YtolkmchicplaoaaGreat
open Go.RowKit Go.aS Go.aS.I_ Go.aS.Y
section
variable {c:Y.cA} {ai:List (List In)} {g:ag3} {s:Z.St}
def R1 {x}(h0:0≤x)(h1:x≤65536):IntKind.i64.wrap x=x:=by rw[uR];omega
def Ks {k}(h:k.eV=false):K.rows k=[]:=by unfold K.rows;rw[h];rfl
def Ky {k y}(h:k.eV=true)(hb:k.b=some y):K.rows k=y.rows:=by unfold K.rows;rw[h,hb];rfl
def aL5 {M:C.M}{t:Int}{y:B.St}(hr:∀r∈y.rows,g.D r.aw<r.tag)(x:Int):g.D x≤(aO4 c g M t y).D x:=by
 unfold aO4;dsimp only;cases hT:Kx y.rows x with
 |none=>exact iu _
 |some z=>
  unfold Kx at hT;cases hf:y.rows.find? (λr=>decide (r.aw=x))with
  |none=>rw[hf]at hT;cases hT
  |some r=>
   rw[hf]at hT;have hT:r.tag=z:=eQ hT;have h5:=List.find?_some hf;simp only[gG]at h5;have:=hr r (List.mem_of_find?_eq_some hf);rw[h5,hT]at this;show g.D x≤z;omega
def aL6 {M:C.M}{t:Int}{y:B.St}(PX:y.rows.Pairwise (λa b=>a.aw<b.aw)){r:B.Row}(hr:r∈y.rows):r.tag≤(aO4 c g M t y).D r.aw:=by
 unfold aO4;dsimp only;have h6:Kx y.rows r.aw=some r.tag:=by
  unfold Kx;cases hf:y.rows.find? (λr2=>decide (r2.aw=r.aw))with
  |none=>
   rw[List.find?_eq_none]at hf;have:=hf r hr;simp at this
  |some r2=>
   have h5:=List.find?_some hf;simp only[gG]at h5;have h7:=List.mem_of_find?_eq_some hf;have h8:r2=r:=by
    have key:∀{l:List B.Row},l.Pairwise (λa b=>a.aw<b.aw)→r2∈l→r∈l→r2=r:=by
     intro l;induction l with
     |nil=>intro _ h;cases h
     |cons a l ih=>
      intro hp h1 h2;rw[sm]at hp;rcases oG.1 h1 with e1|e1
      ·rcases oG.1 h2 with e2|e2
       ·rw[e1,e2]
       ·have:=hp.1 _ e2;rw[←e1]at this;omega
      ·rcases oG.1 h2 with e2|e2
       ·have:=hp.1 _ e1;rw[←e2]at this;omega
       ·exact ih hp.2 e1 e2
    exact key PX h7 hr
   rw[h8];rfl
 rw[h6];exact iu _
def HI.aH4 (aE:Y.Ok c){N:Int}(aD5:s.aK≤65536)(hM:MU s.mem)(aC6:(now s.mem).2≤4611686018427387904)(h:HI c ai g 1 s)(mJ:∀(t:Nat) u me k,s.iB[t]?=some u→u.at_=some (me,k)→KI c ai me N k∧oY me.call.prog me.call.args ai∧k.next≠13∧u.count≤s.aK)(bY:∀(t:Nat) u,s.iB[t]?=some u→u.count≤s.aK)
 {t:Nat}{u:Z.Th}(hu:s.iB[t]?=some u){me:K.Me}{k:K.St}(jT:u.at_=some (me,k)){op:C.BU}{k2:K.St}(j_:op=Z.nN (K.ask c me k).1)(uV:k2=K.tell c ai me (Z.o3 (s.mem.told t op)) k):(Ze c ai g s.mem (gq s.rows) me op k2→HI c ai g 0 (Z.ig c ai t s))∧∀y,Win c ai g s.mem (gq s.rows) me k (s.mem.step me.aw op) k2 y→HI c ai (aO4 c g s.mem me.aw y) 0 (Z.ig c ai t s):=by
 subst j_ uV;have lK:t<s.iB.length:=(dE.1 hu).1;have ox:Z.iO s t=u:=by unfold Z.iO;rw[cO,hu];rfl
 obtain⟨υ,DS,ξ⟩:=h.th t u me k hu jT;obtain⟨Ki,zJ,yo,_⟩:=mJ t u me k hu jT;have hn:=h.n;have L5:=h.Hw t u hu;have hw:0≤me.aw∧me.aw<c.t:=by omega
 have au6:=υ.step aE zJ hw h.aP5 hM aC6 h.r4 Ki yo;have R2:∀(t:Nat) u me k,s.iB[t]?=some u→u.at_=some (me,k)→KI c ai me N k:=λt u me k a b=>(mJ t u me k a b).1;rw[DS]at au6;have qz:∀(r1:Z.Rec),r1.aw=(s.aM.getD u.record.toNat Z.Hm).aw→r1.tag=(s.aM.getD u.record.toNat Z.Hm).tag→∀r∈s.aM,∃r2∈s.aM.set u.record.toNat r1,r2.aw=r.aw∧r2.tag=r.tag:=λr1 e1 e2 r hr=>by
  obtain⟨i,hi,e⟩:=qO hr;by_cases ei:i=u.record.toNat
  ·refine⟨r1,?_,?_⟩
   ·exact wz (eW (by omega))
   ·rw[cO,←ei,cy hi]at e1 e2;rw[e1,e2,←e];exact⟨rfl,rfl⟩
  ·exact⟨r,wz (i:=i) (by rw[dF (λx=>ei x.symm),cy hi,e]),rfl,rfl⟩
 have au7:∀(t2:Nat) u3 ys k3,t2≠t→s.iB[t2]?=some u3→u3.at_=some (ys,k3)→3≤k3.next→u3.looked≠s.aK:=λt2 u3 ys k3 _ b1 b2 b3=>by
  have:=(h.lk t2 u3 ys k3 b1 b2 b3).1;omega
 have ax5:∀x∈s.rows,x.at_≠s.aK:=λx hx=>by have:=h.L4 x hx;omega
 have ab1:k.next=0∨k.next=1→∀o,(K.tell c ai me o k).next≤2:=λe o=>by
  rcases e with e|e
  ·rw[DQ e];split
   ·show(1:Int)≤2;decide
   ·show k.next≤2;omega
  ·rw[DR e];show(2:Int)≤2;decide
 unfold Z.ig;rw[ox,jT];dsimp only;have ab1:=λe=>ab1 e (Z.o3 (s.mem.told t (Z.nN (K.ask c me k).1)));generalize Z.nN (K.ask c me k).1=op at*;generalize K.tell c ai me (Z.o3 (s.mem.told t op)) k=k2 at*;obtain⟨er,pe,SN⟩:=au6;rw[DS]at er SN;have Gb:Z.iO {s with mem:=s.mem.step t op} t=u:=ox;unfold Z.told;rw[Gb];dsimp only;have Ge:3≤k2.next→(if k2.fresh then s.aK else u.looked)≤s.aK∧(∀x∈s.rows,x.at_≠(if k2.fresh then s.aK else u.looked))∧∀(t2:Nat) u3 ys k3,t2≠t→s.iB[t2]?=some u3→u3.at_=some (ys,k3)→3≤k3.next→u3.looked≠(if k2.fresh then s.aK else u.looked):=λe3=>by
  rw[pe];by_cases e:k.next=2
  ·rw[eP e,aB rfl];exact⟨iu _,ax5,au7⟩
  ·rw[cW e,aq (by decide)];have e01:¬(k.next=0∨k.next=1):=λx=>by have:=ab1 x;omega
   have yQ:=Ki.next;obtain⟨b1,b2,b3⟩:=h.lk t u me k hu jT (by omega);exact⟨by omega,b2,b3⟩
 clear SN;refine⟨λSN=>?_,λy hW=>?_⟩
 ·
   unfold Ze at SN;rw[DS]at SN;obtain⟨aP5,mv,⟨as9,C_⟩,kL,au8⟩:=SN;rw[Ks as9,List.map_nil,sY];have hA:((s.mem.step t op).cl (at_ c 1 t 0)).2≤u.count:=by
    rcases au8 with e|e
    ·rw[e];exact L5.1
    ·omega
   have L6:(now (s.mem.step t op)).2<c.la→((t:Int),((s.mem.step t op).cl (at_ c 1 t 0)).2)∈gq s.rows→((s.mem.step t op).cl (at_ c 1 t 0)).2≤g.D t:=λlV hm=>by
    rcases au8 with e|e
    ·rw[e]at hm⊢;have:=mv.n;exact h.r4 (by omega) t (by omega) (by omega) hm
    ·rw[e,ξ]at hm⊢;exact h.r3 t u me k hu jT hm
   rcases C_ with⟨PH,aC7⟩|⟨yX,ab2⟩
   ·rw[aq PH];have:=HI.after (l:=[]) (u2:={u with at_:=some (me,k2),looked:=if k2.fresh then s.aK else u.looked}) (aM:=s.aM.set u.record.toNat {s.aM.getD u.record.toNat Z.Hm with steps:=(s.aM.getD u.record.toNat Z.Hm).steps+1}) (q:=s.aK) aE h R2 hu jT er aP5 mv (λ_ _=>rfl) (λ_=>iu _) rfl hA (qz _ rfl rfl) (λHJ k3 e=>by
     dsimp only at e;obtain⟨rfl,rfl⟩:=Prod.mk.inj (eQ e);rw[sY];exact⟨rfl,aC7⟩) List.nodup_nil (λx hx=>by cases hx) (λx hx=>by cases hx) (λ_ _ y2 tag _ hm=>by rw[sY];exact hm) L6 (λx hx=>by cases hx) ax5 (iu _) (by show((0:Nat):Int)≤c.t;omega) (λ_ _ _ _ _ _ _ _ e=>absurd rfl e) (λHJ k3 e e3=>by
     dsimp only at e;obtain⟨rfl,rfl⟩:=Prod.mk.inj (eQ e);rw[sY];exact Ge e3) (λa1 a2 a3=>absurd ⟨a1,a2,a3⟩ kL)
    rw[sY]at this;exact this
   ·rw[aB yX];cases qm:k2.alone with
    |false=>
     rw[aq (show¬(false=true) by decide)];have:=HI.after (l:=[]) (u2:={u with at_:=none,looked:=if k2.fresh then s.aK else u.looked}) (aM:=s.aM.set u.record.toNat {s.aM.getD u.record.toNat Z.Hm with steps:=(s.aM.getD u.record.toNat Z.Hm).steps+1,NN:=s.aK,done:=true,rc:=k2.rc,rv:=k2.rv}) (q:=s.aK) aE h R2 hu jT er aP5 mv (λ_ _=>rfl) (λ_=>iu _) rfl hA (qz _ rfl rfl) (λHJ k3 e=>by cases e) List.nodup_nil (λx hx=>by cases hx) (λx hx=>by cases hx) (λ_ _ y2 tag _ hm=>by rw[sY];exact hm) L6 (λx hx=>by cases hx) ax5 (iu _) (by show((0:Nat):Int)≤c.t;omega) (λ_ _ _ _ _ _ _ _ e=>absurd rfl e) (λHJ k3 e=>by cases e) (λa1 a2 a3=>absurd ⟨a1,a2,a3⟩ kL);rw[sY]at this;exact this
    |true=>
     rw[aB (show true=true from rfl)];obtain⟨q1,q2⟩:=ab2 qm;rw[DS,ξ]at q1;rw[DS,ξ]at q2;obtain⟨lk1,lk2,lk3⟩:=Ge (by omega);have hD:=h.aP5.af5 t (by omega) (by omega);have pW:=mv.n;have hmA:=mv.zI t (by omega) (by omega);refine HI.after (l:=[⟨if k2.fresh then s.aK else u.looked,t,u.count,k2.rc,k2.rv,[]⟩]) (u2:={u with at_:=none,looked:=if k2.fresh then s.aK else u.looked}) (aM:=s.aM.set u.record.toNat {s.aM.getD u.record.toNat Z.Hm with steps:=(s.aM.getD u.record.toNat Z.Hm).steps+1,NN:=s.aK,done:=true,rc:=k2.rc,rv:=k2.rv}) (q:=if k2.fresh then s.aK else u.looked) aE h R2 hu jT er aP5 mv (λ_ _=>rfl) (λ_=>iu _) rfl hA (qz _ rfl rfl) (λHJ k3 e=>by cases e) (by simp[gq]) (λx hx=>?_) (λx hx=>?_) (λe1 e2 y2 tag hle hm=>?_) L6 (λx hx=>?_) lk2 lk1 (by show((1:Nat):Int)≤c.t;omega) (λt2 u3 ys k3 n3 b1 b2 b3 _=>lk3 t2 u3 ys k3 n3 b1 b2 b3) (λHJ k3 e=>by cases e) (λa1 a2 a3=>absurd ⟨a1,a2,a3⟩ kL)
     ·rw[jO]at hx;subst hx;refine⟨by dsimp only;omega,⟨t,u,hu,rfl,iu _⟩,λhm=>?_⟩;have:=h.r3 t u me k hu jT hm;omega
     ·rw[jO]at hx;subst hx;exact .inr ⟨rfl,rfl,q2⟩
     ·unfold gq at hm⊢;rw[pS,jQ];rintro(h1|h1)
      ·exact hm h1
      ·simp only[zm,jO,nL]at h1;obtain⟨rfl,rfl⟩:=h1;rcases q2 with q2|q2<;>omega
     ·rw[jO]at hx;subst hx;rfl
 ·
   rw[DS]at hW;rw[Ky hW.eV hW.b2,aq (by rw[hW.Ex];decide)];have Fc:=hW.bi;have JI:=BJ.aw (N:=N) Fc hW.aA3;have S4:=hW.bm;have au9:∀r∈y.rows,1≤r.tag∧r.tag≤65536∧∃(t2:Nat) (u3:Z.Th),s.iB[t2]?=some u3∧r.aw=t2∧r.tag≤u3.count:=λr hr=>by
    obtain⟨a1,a2,a3⟩:=S4.r r hr;obtain⟨b1,b2⟩:=JI r hr;have hD:=h.aP5.af5 r.aw b1 b2;obtain⟨u3,SG⟩:∃u3,s.iB[r.aw.toNat]?=some u3:=⟨_,cy (by omega)⟩;have W9:=h.Hw _ u3 SG;have UB:=bY _ u3 SG;have e:((r.aw.toNat:Nat):Int)=r.aw:=by omega
    rw[e]at W9;exact⟨by omega,by omega,r.aw.toNat,u3,SG,e.symm,by omega⟩
   have as8:y.rows.map (λx=>(⟨s.aK,x.aw,IntKind.i64.wrap x.tag,x.rc,x.rv,x.news⟩:Z.Row))=y.rows.map (λx=>(⟨s.aK,x.aw,x.tag,x.rc,x.rv,x.news⟩:Z.Row)):=by
    apply List.map_congr_left;intro r hr;obtain⟨a1,a2,_⟩:=au9 r hr;rw[R1 (by omega) a2]
   rw[as8];have PJ:∀x,g.D x≤(aO4 c g s.mem me.aw y).D x:=aL5 (λr hr=>(S4.r r hr).1);have hDr:∀r∈y.rows,r.tag≤(aO4 c g s.mem me.aw y).D r.aw:=λr hr=>aL6 hW.aA3.r.ord hr;have SZ:me.aw=(t:Int):=DS;have av0:(s.mem.step t op).cl (at_ c 1 t 0)=s.mem.cl (at_ c 1 t 0):=hW.zI t (by omega) (by omega);have Gp:(now (s.mem.step t op)).2=(now s.mem).2+1:=by rw[hW.nw]
   refine HI.after (l:=y.rows.map (λx=>(⟨s.aK,x.aw,x.tag,x.rc,x.rv,x.news⟩:Z.Row))) (u2:={u with at_:=some (me,k2),looked:=if k2.fresh then s.aK else u.looked}) (aM:=s.aM.set u.record.toNat {s.aM.getD u.record.toNat Z.Hm with steps:=(s.aM.getD u.record.toNat Z.Hm).steps+1}) (q:=s.aK) aE h R2 hu jT er hW.aP5 (SZ▸hW.mv) (λx hx=>?_) PJ rfl (by rw[av0];exact L5.1) (qz _ rfl rfl) (λHJ k3 e=>?_) ?_ (λx hx=>?_) (λx hx=>?_) (λe1 _ _ _ _ _=>by omega) (λlV hm=>?_) (λx hx=>?_) ax5 (iu _) ?_ (λt2 u3 ys k3 n3 b1 b2 b3 _=>au7 t2 u3 ys k3 n3 b1 b2 b3) (λHJ k3 e e3=>?_) (λ_ _ _=>?_)
   ·unfold aO4;dsimp only;rw[aq (by omega)]
   ·dsimp only at e;obtain⟨rfl,rfl⟩:=Prod.mk.inj (eQ e);exact⟨rfl,hW.tk _⟩
   ·unfold gq;rw[List.map_map];have:=hW.aA3.r.ord;rw[List.Nodup,List.pairwise_map];exact this.imp (fun{a b} YN e=>by have:=congrArg (·.1) e;dsimp only[Function.comp]at this;omega)
   ·rw[mE]at hx;obtain⟨r,hr,rfl⟩:=hx;obtain⟨a1,a2,t2,u3,a3,a4,a5⟩:=au9 r hr;exact⟨a1,⟨t2,u3,a3,a4,a5⟩,(S4.r r hr).2.2⟩
   ·rw[mE]at hx;obtain⟨r,hr,rfl⟩:=hx;exact .inl (hDr r hr)
   ·rw[av0]at hm⊢;exact oJ (h.r4 (by omega) t (by omega) (by omega) hm) (PJ t)
   ·rw[mE]at hx;obtain⟨r,hr,rfl⟩:=hx;rfl
   ·rw[dD];have h1:=Fc.bb.rows;have h2:=Fc.bb.u;omega
   ·dsimp only at e;obtain⟨rfl,rfl⟩:=Prod.mk.inj (eQ e);obtain⟨b1,b2,b3⟩:=Ge e3;refine⟨b1,λx hx=>?_,b3⟩;rcases jQ.1 hx with h1|h1
    ·exact b2 x h1
    ·rw[mE]at h1;obtain⟨r,hr,rfl⟩:=h1;rw[pe,cW (by have:=hW.nx;omega),aq (by decide)];have:=(h.lk t u me k hu jT (by have:=hW.nx;omega)).1;dsimp only;omega
   ·obtain⟨r,hr,_⟩:=hW.own;exact⟨_,mE.2 ⟨r,hr,rfl⟩,rfl⟩
def HI.ig (aE:Y.Ok c){N}(aD5:s.aK≤65536)(hM:MU s.mem)(aC6:(now s.mem).2≤4611686018427387904)(h:HI c ai g 1 s)(mJ:∀(t:Nat) u me k,s.iB[t]?=some u→u.at_=some (me,k)→KI c ai me N k∧oY me.call.prog me.call.args ai∧k.next≠13∧u.count≤s.aK)(bY:∀(t:Nat) u,s.iB[t]?=some u→u.count≤s.aK)
 {t u}(hu:s.iB[t]?=some u){me k}(jT:u.at_=some (me,k)):∃g',HI c ai g' 0 (Z.ig c ai t s):=by
 obtain⟨υ,DS,ξ⟩:=h.th t u me k hu jT;obtain⟨Ki,zJ,yo,_⟩:=mJ t u me k hu jT;have lK:t<s.iB.length:=(dE.1 hu).1;have hn:=h.n;have au6:=υ.step aE zJ (by omega) h.aP5 hM aC6 h.r4 Ki yo;have h2:=h.aH4 aE aD5 hM aC6 mJ bY hu jT rfl rfl;rcases au6.2.2 with h3|⟨y,h3⟩
 ·exact⟨g,h2.1 (by rw[←DS];exact h3)⟩
 ·exact⟨_,h2.2 y (by rw[←DS];exact h3)⟩
end
end Go.Proofs.YtolkmchicplaoaaGreat
namespace Go.Proofs.YtolkmchicplaoaaGreat
open Go.RowKit Go.aS Go.aS.I_ Go.aS.Y
section
variable {c:Y.cA} {ai:List (List In)} {s:Z.St}
def L0 (c:Y.cA)(ai:List (List In))(s:Z.St):Prop:=SI c ai c.fi s∧∃g,HI c ai g 0 s
def aA9 {g:ag3}(aE:Y.Ok c)(hp:PI ai)(uX:c.fi≤1000000000000000)(hS:SI c ai c.fi s)(hH:HI c ai g 0 s)(t:Int){Q:Z.St→Prop}(h0:Q s)
 (hd:∀(tn:Nat) (s2:Z.St) (u2:Z.Th) (m:K.Me) (k:K.St),(s2={s with aK:=s.aK+1}∨∃u x xs,s.iB[tn]?=some u∧u.at_=none∧u.calls=x::xs∧s2=Z.dI ai tn {s with aK:=s.aK+1})→s2.aK≤65536→s2.mem=s.mem→s2.iB[tn]?=some u2→u2.at_=some (m,k)→HI c ai g 1 s2→(∀(t:Nat) u me k,s2.iB[t]?=some u→u.at_=some (me,k)→KI c ai me (s.aK+1) k∧oY me.call.prog me.call.args ai∧k.next≠13∧u.count≤s2.aK)→(∀(t:Nat) u,s2.iB[t]?=some u→u.count≤s2.aK)→SI c ai c.fi (Z.ig c ai tn s2)→Q (Z.ig c ai tn s2)):Q (Z.pick c ai t s).1:=by
 unfold Z.pick;split
 ·exact h0
 rename_i CP;have tK:=hS.aK;have hid:Z.idle s t=false:=by
  cases hh:Z.idle s t with
  |false=>rfl
  |true=>exact absurd (.inl hh) CP
 have GJ:s.aK<65536:=by
  rcases Int.lt_or_le s.aK 65536 with h1|h1
  ·exact h1
  ·exact absurd (.inr h1) CP
 unfold Z.idle at hid;rw[Bool.or_eq_false_iff]at hid;have ht:=uL hid.1;obtain⟨tn,rfl⟩:∃tn:Nat,t=tn:=⟨t.toNat,by omega⟩;have lK:tn<s.iB.length:=by omega
 rw[dU]at hid⊢;obtain⟨u,hu⟩:∃u,s.iB[tn]?=some u:=⟨_,cy lK⟩;have ox:Z.iO s tn=u:=by unfold Z.iO;rw[cO,hu];rfl
 have at0:Z.iO {s with aK:=s.aK+1} tn=u:=ox;have R3:=hid.2;rw[ox]at R3;dsimp only;rw[at0];have hTm:∀(t2:Nat) u3,s.iB[t2]?=some u3→TI c ai (s.aK+1) s.aM.length t2 u3:=λt2 u3 h3=>(hS.th t2 u3 h3).more (by omega) (iu _);have hH1:=hH.tick;have due:∀(s2:Z.St) {u2:Z.Th} {m:K.Me} {k:K.St},(s2={s with aK:=s.aK+1}∨∃u x xs,s.iB[tn]?=some u∧u.at_=none∧u.calls=x::xs∧s2=Z.dI ai tn {s with aK:=s.aK+1})→s2.aK=s.aK+1→s2.mem=s.mem→s2.rows=s.rows→s2.iB.length≤8→(s2.aM.length:Int)≤s.aK+1→(∀r∈s2.aM,0≤r.steps∧r.steps≤s.aK)→(∀(t2:Nat) u3,s2.iB[t2]?=some u3→TI c ai (s.aK+1) s2.aM.length t2 u3)→s2.iB[tn]?=some u2→u2.at_=some (m,k)→KI c ai m s.aK k→HI c ai g 1 s2→Q (Z.ig c ai tn s2):=by
  intro s2 u2 m k El e1 e2 e3 t8 rc st th XZ jT Ki uw;have Et:=th tn u2 XZ;obtain⟨a1,a2,a3,a4,a5,a6,a7,a8⟩:=Et.at_ m k jT;have p4:=(uw.th tn u2 m k XZ jT).1.kb;have hlen:∀y,k.b=some y→(B.entries c y).length≤65536:=λy hy=>by
   have h1:=p4 y hy;have h3:=(h1.1.xC aE (Ki.b y hy).2 h1.2).el;have h4:=iI aE;omega
  have hmu:MU s2.mem:=by rw[e2];exact hS.mu
  have ak8:(s2.mem.at 0).2≤c.fi+s.aK:=by rw[e2];exact hS.now
  refine hd tn s2 _ m k El (by omega) e2 XZ jT uw (λt2 u3 m3 k3 b1 b2=>?_) (λt2 u3 b1=>?_) (SI.ig aE hp uX (p:=s.aK) e1 tK.1 GJ hmu ak8 (by rw[e2];exact hS.trace) t8 (by rw[e3];exact hS.rows) rc (by rw[e3];exact hS.news) st th XZ jT Ki hlen)
  ·have h5:=th t2 u3 b1;obtain⟨d1,d2,d3,d4,d5,d6,d7,d8⟩:=h5.at_ m3 k3 b2;exact⟨d4,d3.me hp,d6,by have:=h5.count;omega⟩
  ·have:=(th t2 u3 b1).count;omega
 cases jT:u.at_ with
 |some mk=>
  obtain⟨m,k⟩:=mk;rw[aq (by simp)];have hT:=hS.th tn u hu;exact due {s with aK:=s.aK+1} (.inl rfl) rfl rfl rfl hS.t8 (by have:=hS.aM;dsimp only;omega) (λr hr=>hS.steps r hr) hTm hu jT (hT.at_ m k jT).2.2.2.1 hH1
 |none=>
  rw[aB (by simp)];rw[jT]at R3;obtain⟨x,xs,hc⟩:∃x xs,u.calls=x::xs:=by
   cases mr:u.calls with
   |nil=>rw[mr]at R3;simp at R3
   |cons x xs=>exact⟨x,xs,rfl⟩
  obtain⟨u2,c1,c2,c3,c4⟩:=hS.begun hu jT hc;obtain⟨uw,h5⟩:=HI.dI (s:={s with aK:=s.aK+1}) (ai:=ai) aE hH1 hu jT hc;have er:(Z.dI ai tn {s with aK:=s.aK+1}).aM.length=s.aM.length+1:=by unfold Z.dI;dsimp only;rw[eE,List.length_singleton]
  refine due _ (.inr ⟨u,x,xs,hu,jT,hc,rfl⟩) (by unfold Z.dI Z.EX;rfl) (by unfold Z.dI Z.EX;rfl) (by unfold Z.dI Z.EX;rfl) (by unfold Z.dI Z.EX;dsimp only;rw[cF];exact hS.t8) (by rw[er];have:=hS.aM;omega) (λr hr=>?_) (λt2 u3 h3=>?_) c1 c2 (KI.new tK.1) uw
  ·unfold Z.dI at hr;dsimp only at hr;rcases jQ.1 hr with h1|h1
   ·exact hS.steps r h1
   ·rw[jO]at h1;subst h1;dsimp only;omega
  ·rw[er];exact(c4 t2 u3 h3).more (iu _) (by omega)
def L0.pick (aE:Y.Ok c)(hp:PI ai)(uX:c.fi≤1000000000000000)(h:L0 c ai s)(t):L0 c ai (Z.pick c ai t s).1:=by
 obtain⟨hS,g,hH⟩:=h;exact aA9 aE hp uX hS hH t ⟨hS,g,hH⟩ λtn s2 u2 m k _ aD5 e2 hu jT uw mJ bY du=>⟨du,uw.ig aE aD5 (by rw[e2];exact hS.mu) (by rw[e2];have:=hS.now;have:=hS.aK;show(s.mem.at 0).2≤_;omega) mJ bY hu jT⟩
def Jp (c):∀(k a:Nat),a≠0→((jJ c k).getD a (0,0)).2=0
 |0,a,ha=>by
  unfold jJ zq;rw[cO,tU];split
  ·split<;>rfl
  ·rw[dF (by omega),yK];split<;>rfl
 |k+1,a,ha=>by
  unfold jJ;rw[cO,tU];split
  ·split<;>rfl
  ·rw[←cO];exact Jp c k a ha
end
end Go.Proofs.YtolkmchicplaoaaGreat
namespace Go.Proofs.YtolkmchicplaoaaGreat
open Go.RowKit Go.aS Go.aS.I_ Go.aS.Y
section
variable {c:Y.cA} {ai:List (List In)} {s:Z.St}
def NC (aE:Y.Ok c){a:Nat}(h0:a≠0)(h1:(jt c a).1≠12)(h2:(jt c a).1≠13):(H.ju c).at a=(0,0):=by
 obtain⟨r0,r1,r2,r3,r4,r5,r6,r7,r8,r9,u6,tF,tG⟩:=row aE;have n1:(a:Int)≠fI c:=by
  intro e;rw[e,←GZ aE,pL aE (by rw[GZ aE];omega)]at h1;exact h1 rfl
 have n2:∀i:Int,0≤i→i<c.b→(a:Int)≠cK c+i:=by
  intro i i0 i1 e;rw[e,←zt aE i0 i1,pL aE (by rw[zt aE i0 i1];omega)]at h2;exact h2 rfl
 have h:∀k:Nat,(k:Int)≤c.b→(jJ c k).getD a (0,0)=(0,0):=by
  intro k;induction k with
  |zero=>
   intro _;unfold jJ zq;rw[cO,dF (by omega),dF (by omega),yK];split<;>rfl
  |succ k ih=>
   intro hk;unfold jJ;have:=n2 k (by omega) (by omega);rw[cO,dF (by omega),←cO];exact ih (by omega)
 exact h _ (by omega)
def o9 (aE:Y.Ok c){kd i j}(hi:Is c kd i j)(hk:kd≠0∧kd≠12∧kd≠13):(H.ju c).cl (Y.at_ c kd i j)=(0,0):=by
 have h1:=fm aE hi;have e:((Y.at_ c kd i j).toNat:Int)=Y.at_ c kd i j:=by omega
 have pg:(Y.at_ c kd i j).toNat≠0:=λe0=>by
  have e1:Y.at_ c kd i j=0:=by omega
  have h2:=h1.2.2.2;rw[e1]at h2;have h3:=g8 aE;rw[h2]at h3;exact hk.1 h3
 exact NC aE pg (by rw[e,h1.2.2.2];exact hk.2.1) (by rw[e,h1.2.2.2];exact hk.2.2)
def ND (aE:Y.Ok c):now (H.ju c)=(0,c.fi):=Jn aE
def HI.start (aE:Y.Ok c)(sZ:0≤c.fi){calls}(hn:(calls.length:Int)=c.t):HI c ai ⟨λ_=>0,λ_=>c.fi,[]⟩ 0 (Z.new c calls):=by
 obtain⟨r0,r1,r2,r3,r4,r5,r6,r7,r8,r9,u6,tF,tG⟩:=row aE;have hb:=ND aE;have ox:∀(t:Nat) u,(Z.new c calls).iB[t]?=some u→u.at_=none∧u.count=0∧t<calls.length:=by
  intro t u hu;have hu:(calls.map (λl=>(⟨l,none,0,0,0⟩:Z.Th)))[t]?=some u:=hu;have hl:=(dE.1 hu).1;rw[dD]at hl;rw[jE]at hu;cases h2:calls[t]? with
  |none=>rw[h2]at hu;cases hu
  |some l=>
   rw[h2]at hu;obtain rfl:=eQ hu;exact⟨rfl,rfl,hl⟩
 have o_:=aE.fl;refine⟨⟨?_,?_,?_,?_,λe he=>(by cases he),List.Pairwise.nil,?_,λe he=>(by cases he),λ_ e he=>(by cases he),λu h0 h1=>⟨λx hx=>(by cases hx),λ_=>?_⟩,λBp=>?_,λu h0 h1 e=>?_,?_,λu=>?_,λu h0 h1=>?_⟩,?_,λt u hu=>?_,λt u m k hu ha=>?_,List.nodup_nil,λx hx=>(by cases hx),λt u m k hu ha=>?_,λ_ u _ _ hm=>(by cases hm),λx hx=>(by cases hx),λp=>?_,λt u m k hu ha=>?_,rfl,λi e hi=>(by cases hi),λt u hu tag g1 g2=>?_⟩
 ·show((H.ju c).cells.length:Int)=size c;have:(H.ju c).cells.length=(size c).toNat:=oq c _;omega
 ·show 0≤(now (H.ju c)).1∧(now (H.ju c)).1<c.t;rw[hb];dsimp only;omega
 ·show c.fi≤(now (H.ju c)).2∧(now (H.ju c)).2≤c.la;rw[hb];dsimp only;omega
 ·intro a ha;show((H.ju c).cl a).2≤(now (H.ju c)).2;rw[hb];have h2:=Js (c:=c) (p:=a) (by omega);have pg:a.toNat≠0:=λe=>by
   have e1:a=0:=by omega
   rw[e1,g8 aE]at ha;omega
  have h3:((H.ju c).cl a).2=0:=Jp c _ _ pg;rw[h3];exact sZ
 ·have:=iI aE;show((0:Nat):Int)≤cap c;omega
 ·show((H.ju c).cl (Y.at_ c 7 u 0)).1=0;rw[o9 aE (a9 aE (by omega) h0 h1) (by omega)]
 ·exfalso;unfold busy at Bp;have Bp:(H.ju c).cl (Y.at_ c 4 (now (H.ju c)).1 0)=(1,(now (H.ju c)).2):=Bp;rw[hb]at Bp;dsimp only at Bp;rw[o9 aE (a9 aE (by omega) (iu 0) (by omega)) (by omega)]at Bp;have:=congrArg (·.1) Bp;dsimp only at this;omega
 ·exfalso;have e:((H.ju c).cl (Y.at_ c 4 u 0)).1=1:=e;rw[o9 aE (a9 aE (by omega) h0 h1) (by omega)]at e;dsimp only at e;omega
 ·show c.fi=(now (H.ju c)).2;rw[hb]
 ·show c.fi≤(now (H.ju c)).2;rw[hb];exact iu _
 ·show 0≤(0:Int)∧0≤((H.ju c).cl (Y.at_ c 1 u 0)).2;rw[o9 aE (a9 aE (by omega) h0 h1) (by omega)];exact⟨iu _,iu _⟩
 ·show((calls.map _).length:Int)=c.t;rw[dD];exact hn
 ·obtain⟨_,e2,e3⟩:=ox t u hu;show((H.ju c).cl (Y.at_ c 1 t 0)).2≤u.count∧0≤u.count;rw[o9 aE (a9 aE (by omega) (by omega) (by omega)) (by omega),e2];exact⟨iu _,iu _⟩
 ·rw[(ox t u hu).1]at ha;cases ha
 ·rw[(ox t u hu).1]at ha;cases ha
 ·show((0:Nat):Int)≤c.t;omega
 ·rw[(ox t u hu).1]at ha;cases ha
 ·have:=(ox t u hu).2.1;omega
def L0.start (aE:Y.Ok c)(sZ:0≤c.fi){calls}(hn:(calls.length:Int)=c.t)(hc:∀l∈calls,∀x∈l,jr x):L0 c ai (Z.new c calls):=⟨SI.start aE sZ hn hc,_,HI.start aE sZ hn⟩
def af2 (B:Int)(s:Z.St):Prop:=∀(t:Nat) u,s.iB[t]?=some u→u.count+u.calls.length≤B
def af2.pick {B}(h:af2 B s)(t):af2 B (Z.pick c ai t s).1:=by
 have nk:∀{l:List Z.Th} {i:Nat} {u2:Z.Th},(∀(t:Nat) u,l[t]?=some u→u.count+u.calls.length≤B)→u2.count+u2.calls.length≤B→∀(t:Nat) u,(l.set i u2)[t]?=some u→u.count+u.calls.length≤B:=by
  intro l i u2 h1 h2 t u hu;rcases kU hu with⟨_,rfl⟩|⟨_,h3⟩
  ·exact h2
  ·exact h1 t u h3
 have hK:∀(s2:Z.St) (tn:Nat),af2 B s2→tn<s2.iB.length→af2 B (Z.ig c ai tn s2):=by
  intro s2 tn h2 lK;have jT:(Z.iO s2 tn).count+(Z.iO s2 tn).calls.length≤B:=by
   unfold Z.iO;rw[cO,cy lK];exact h2 tn _ (cy lK)
  unfold Z.ig;split
  ·exact h2
  ·unfold Z.told;dsimp only;split
   ·exact nk h2 jT
   ·exact nk h2 jT
 unfold Z.pick;split
 ·exact h
 rename_i CP;have hid:Z.idle s t=false:=by
  cases hh:Z.idle s t with
  |false=>rfl
  |true=>exact absurd (.inl hh) CP
 unfold Z.idle at hid;rw[Bool.or_eq_false_iff]at hid;have ht:=uL hid.1;have lK:t.toNat<s.iB.length:=by omega
 dsimp only;split
 ·rename_i hn;have jT:=h t.toNat _ (cy lK);have e:Z.iO {s with aK:=s.aK+1} t.toNat=s.iB[t.toNat]:=by unfold Z.iO;rw[cO,cy lK];rfl
  have e0:Z.iO s t.toNat=s.iB[t.toNat]:=by unfold Z.iO;rw[cO,cy lK];rfl
  rw[e]at hn;refine hK _ _ ?_ (by unfold Z.dI Z.EX;dsimp only;rw[cF];exact lK);unfold Z.dI Z.EX;rw[e];refine nk h ?_;have h2:=hid.2;rw[e0,hn,Bool.true_and]at h2;unfold Z.begun;dsimp only;rw[List.length_tail];have h3:s.iB[t.toNat].calls≠[]:=λe2=>by rw[e2]at h2;cases h2
  have:=List.length_pos_iff.2 h3;omega
 ·exact hK _ _ h lK
end
