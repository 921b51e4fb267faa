/- A part of the proof. -/
import Derived.Test.YtolkmchicplaoaaGreatG18
set_option linter.all false
open Go.Proofs.Tryz
namespace Go.Proofs.YtolkmchicplaoaaGreat
open Go.RowKit Go.aS Go.aS.I_ Go.aS.Y
def jq:List (List In):=[Ce,RK]
def nx (prog a p:Int):Int:=if prog=0∧p=0 then a+1 else p
def H3 (c:Y.cA)(v:Vw.V)(p:P.St)(w:W.S):X.St:={X.eB v p w with v:=Vw.cell (X.zR c) v}
structure af6 (c:Y.cA)(prog a r:Int)(w:W.S)(x:X.St):Prop where
 s:x.s=1
 rc:x.rc=0
 rv:x.rv=nx prog a r
 w:x.w=if prog=0∧r=0 then P.cU w (X.zR c) (a+1)else w
 v:x.v.s=1
 news:x.news=[]
def Sk {c:Y.cA}{v:Vw.V}(hv:v.s=1):Vw.cell (X.zR c) v={v with at_:=X.zR c,val:=0,step:=3,s:=0}:=by
 unfold Vw.cell;rw[aq (by omega)]
section
variable {c:Y.cA} {a:Int} (ha:0≤a∧a≤65535) {v:Vw.V} {p:P.St} {w:W.S} {prog:Int} (hp:prog=0∨prog=1)
include ha hp in
def rC {x:X.St}(hv:x.v.s=1)(hn:x.news=[])(r:Int):af6 c prog a r x.w (X.fin c (B.bU jq prog) [a,0,0,0] r x):=by
 have hu:IntKind.u64.wrap (a+1)=a+1:=by rw[ir];omega
 unfold X.fin;rcases hp with rfl|rfl
 ·rw[show B.bU jq 0=Ce from rfl,aq (by decide)];by_cases h0:r=0
  ·rw[aB ⟨rfl,h0⟩];exact⟨rfl,rfl,by simp[nx,h0,hu],by simp[h0,hu],hv,hn⟩
  ·rw[aq (λh=>h0 h.2)];exact⟨rfl,rfl,by simp[nx,h0],by simp[h0],hv,hn⟩
 ·rw[show B.bU jq 1=RK from rfl,aq (by decide),aq (λh=>absurd h.1 (by decide))];exact⟨rfl,rfl,by simp[nx],by simp,hv,hn⟩
include hp in
def nu:¬B.bU jq prog=[]:=by rcases hp with rfl|rfl<;>decide
include hp in
def aB0 (hv:v.s=1)(hg:(W.get w (X.zR c)).2=false):X.new c (B.bU jq prog) [a,0,0,0] v p w=H3 c v p w:=by
 unfold X.new X.look;rw[aq (nu hp),hg,aq (by decide),aB (by rw[Sk hv])];rfl
include ha hp in
def aK3 (hv:v.s=1){r:Int}(hg:W.get w (X.zR c)=(r,true)):af6 c prog a r w (X.new c (B.bU jq prog) [a,0,0,0] v p w):=by
 unfold X.new;rw[aq (nu hp),hg,aB rfl];exact rC (x:=X.eB v p w) ha hp hv rfl r
include ha hp in
def aw2 (hv:v.s=1){seq r n:Int}(hn:n≤seq):af6 c prog a r w (X.tell c (B.bU jq prog) [a,0,0,0] seq r n (H3 c v p w)):=by
 unfold X.tell X.look H3 Vw.tell;rw[Sk hv];simp only[X.eB,show¬seq<n by omega,if_true,if_false,ne_eq,not_true_eq_false,show¬(1:Int)=0 by decide,show¬(1:Int)=2 by decide];exact rC (x:={X.eB v p w with v:={v with at_:=X.zR c,val:=r,step:=0,s:=1}}) ha hp rfl rfl r
def Wy (hv:v.s=1)(args:List Int){code:List In}{seq r n:Int}(hn:seq<n):(X.tell c code args seq r n (H3 c v p w)).s=2:=by
 unfold X.tell X.look H3 Vw.tell;rw[Sk hv];simp[X.eB,hn]
end
end Go.Proofs.YtolkmchicplaoaaGreat
namespace Go.Proofs.YtolkmchicplaoaaGreat
open Go.RowKit Go.aS Go.aS.I_ Go.aS.Y
abbrev af1:=Int→Int→K.Call
def Sl (x:K.Call):Int:=x.args.getD 0 0
def te (x:K.Call):Prop:=(x.prog=0∨x.prog=1)∧x.args=[Sl x,0,0,0]∧0≤Sl x∧Sl x≤65535
def lN (x:K.Call)(p:Int):Int:=nx x.prog (Sl x) p
def af3 (cf:af1):Int→List B.Row→Int→Prop
 |p,[],q=>p=q
 |p,r::l,q=>r.rc=0∧r.rv=lN (cf r.aw r.tag) p∧r.news=[]∧af3 cf r.rv l q
def af3.snoc {cf:af1}:∀{l:List B.Row} {p q:Int} {r:B.Row},af3 cf p l q→r.rc=0→r.rv=lN (cf r.aw r.tag) q→r.news=[]→af3 cf p (l++[r]) r.rv
 |[],_,_,_,h,h1,h2,h3=>by cases h;exact⟨h1,h2,h3,rfl⟩
 |_::_,_,_,_,h,h1,h2,h3=>⟨h.1,h.2.1,h.2.2.1,h.2.2.2.snoc h1 h2 h3⟩
def cur (c:Y.cA)(R:Int)(w:W.S):Int:=(W.look w.list (X.zR c)).getD R
def NG {c:Y.cA}(aE:Y.Ok c)(w:W.S){kd:Int}(i j v:Int)(hk:kd≠10):W.look (P.cU w (at_ c kd i j) v).list (X.zR c)=W.look w.list (X.zR c):=
 CN _ _ _ _ (pE aE (kd:=10) (i:=0) (j:=0) (by unfold Is cr aP each;simp) (.inl (by omega)))
def aH6 {c:Y.cA}(aE:Y.Ok c)(p:P.St)(w:W.S):W.look (P.end_ c p w).list (X.zR c)=W.look w.list (X.zR c):=by
 unfold P.end_;dsimp only;split<;>split<;>simp[NG aE]
def D9 {c:Y.cA}(aE:Y.Ok c):∀(l:List Int) (k kept:Int) (x:P.St×W.S),W.look (P.fP c l k kept x).2.1.list (X.zR c)=W.look x.2.list (X.zR c)
 |[],_,_,_=>rfl
 |b::l,k,kept,x=>by
  unfold P.fP;split
  ·exact D9 aE l _ _ _
  split
  ·rw[D9 aE l];unfold P.release;split<;>simp[NG aE]
  split
  ·rw[D9 aE l];simp[NG aE]
  ·exact D9 aE l _ _ _
def af0 (c:Y.cA)(cf:af1)(R:Int)(rows:List B.Row)(w:W.S):Prop:=af3 cf R rows (cur c R w)∧∀x,W.look w.list (X.zR c)=some x→R=0∧1≤x
def af0.of {c:Y.cA}{cf:af1}{R:Int}{rows:List B.Row}{w w':W.S}(h:af0 c cf R rows w)(e:W.look w'.list (X.zR c)=W.look w.list (X.zR c)):af0 c cf R rows w':=by
 unfold af0 cur at*;rw[e];exact h
def aK4 {c:Y.cA}(w:W.S)(R:Int):((W.get w (X.zR c)).2=false∧cur c R w=R)∨W.get w (X.zR c)=(cur c R w,true):=by
 rw[W.aG9];unfold cur;cases W.look w.list (X.zR c)with
 |none=>exact .inl ⟨rfl,rfl⟩
 |some x=>exact .inr rfl
structure ap6 (c:Y.cA)(cf:af1)(R:Int)(g:ag3)(y:B.St):Prop where
 aH2:y.s≠2→y.next≠4→af0 c cf R y.rows y.x.w
 vs:y.s=0→y.next≠2→y.next≠4→y.x.v.s=1
 n2:y.s=0→y.next=2→g.D y.u<y.an→y.av=(cf y.u y.an).prog
 n3:y.s=0→y.next=3→y.av=(cf y.u y.an).prog∧∀j:Nat,(j:Int)<y.given→y.args.getD j 0=(cf y.u y.an).args.getD j 0
 n4:y.next=4→y.s≠2→af0 c cf R y.rows y.x.w∧cur c R y.x.w=R∧y.code=B.bU jq (cf y.u y.an).prog∧y.args=(cf y.u y.an).args∧∃v p w,v.s=1∧(W.get w (X.zR c)).2=false∧y.x=H3 c v p w
section
variable {c:Y.cA} (aE:Y.Ok c) {cf:af1} {R:Int} {g:ag3} {y:B.St}
include aE in
def ap6.pass (hc:af0 c cf R y.rows y.x.w)(hv:y.x.v.s=1):ap6 c cf R g (B.pass c y):=by
 unfold B.pass;split
 ·exact⟨λ_ _=>hc.of (aH6 aE _ _),λe=>by dsimp only at e;omega,λe=>by dsimp only at e;omega,λe=>by dsimp only at e;omega,λe=>by dsimp only at e;omega⟩
 ·exact⟨λ_ _=>hc,λ_ _ _=>hv,λ_ e=>by dsimp only at e;omega,λ_ e=>by dsimp only at e;omega,λe=>by dsimp only at e;omega⟩
include aE in
def ap6.note {x:X.St}{w0:W.S}(hD:af6 c (cf y.u y.an).prog (Sl (cf y.u y.an)) (cur c R w0) w0 x)(hr:w0.list.length<w0.room)(ha:0≤Sl (cf y.u y.an))(hc:af0 c cf R y.rows w0):ap6 c cf R g (B.pass c (B.ny c {y with x:=x})):=by
 refine ap6.pass aE ?_ hD.v;have h1:af0 c cf R (y.rows++[⟨y.u,y.an,x.rc,x.rv,x.news⟩]) x.w:=by
  obtain⟨h2,h3⟩:=hc;have e:cur c R x.w=x.rv:=by
   rw[hD.w,hD.rv];unfold nx;split
   ·unfold cur P.cU;rw[W.Sw _ _ _ (.inl hr)];rfl
   ·rfl
  refine⟨by rw[e];exact h2.snoc (r:=⟨y.u,y.an,x.rc,x.rv,x.news⟩) hD.rc hD.rv hD.news,λz hz=>?_⟩;rw[hD.w]at hz;split at hz
  ·rename_i h4;rw[show P.cU w0 (X.zR c) (Sl (cf y.u y.an)+1)=(W.put w0 (X.zR c) (Sl (cf y.u y.an)+1)).1 from rfl,W.Sw _ _ _ (.inl hr)]at hz;have h5:=h4.2;unfold cur at h5;cases hl:W.look w0.list (X.zR c)with
   |none=>rw[hl]at h5;exact⟨h5,by have:=eQ hz;omega⟩
   |some q=>rw[hl]at h5;have:=h3 q hl;have h6:q=0:=h5;omega
  ·exact h3 z hz
 refine h1.of ?_;unfold B.ny;dsimp only;simp only[NG aE _ _ _ _ (show(7:Int)≠10 by decide),NG aE _ _ _ _ (show(8:Int)≠10 by decide),NG aE _ _ _ _ (show(9:Int)≠10 by decide)]
include aE in
def ap6.aO0 {x:X.St}{w0:W.S}(hD:af6 c (cf y.u y.an).prog (Sl (cf y.u y.an)) (cur c R w0) w0 x)(hr:w0.list.length<w0.room)(ha:0≤Sl (cf y.u y.an))(hc:af0 c cf R y.rows w0):ap6 c cf R g (B.A_ c {y with x:=x}):=by
 unfold B.A_;have h1:=hD.s;rw[aq (by dsimp only;omega),aB h1];exact ap6.note aE hD hr ha hc
def ap6.new (c:Y.cA)(cf:af1)(R:Int)(g:ag3):ap6 c cf R g (B.fw c):=
 ⟨λ_ _=>⟨rfl,λx e=>by cases e⟩,λ_ _ _=>rfl,λ_ e=>absurd e (by show¬(0:Int)=2;decide),λ_ e=>absurd e (by show¬(0:Int)=3;decide),λe=>absurd e (by show¬(0:Int)=4;decide)⟩
def ap6.aL7 {y:B.St}(h4:y.next≠4)(hs:y.s=2):ap6 c cf R g y:=⟨λe=>absurd hs e,λe=>by omega,λe=>by omega,λe=>by omega,λe=>absurd e h4⟩
include aE in
def ap6.tell (fB:∀u tag,te (cf u tag))(hI:BI c jq y)(hJ:BJ c y){m:C.M}{rs:List (Int×Int)}(hB:ae6 c g m rs y){seq val n:Int}(YU:ae6 c g m rs (B.tell c jq seq val n y))(h:ap6 c cf R g y)
 (h1:y.s=0→y.next=1→n≠0→val=(cf y.u n).prog)(h3:y.s=0→y.next=3→val=(cf y.u y.an).args.getD y.given.toNat 0)(h4:y.s=0→y.next=4→n≤seq∧val=R):ap6 c cf R g (B.tell c jq seq val n y):=by
 have kT:=hI.next;have BZ:=hI.bb;by_cases hs:y.s≠0
 ·unfold B.tell;rw[aB hs];exact h
 have hs:y.s=0:=by omega
 have hC:=fB y.u y.an;unfold B.tell at YU⊢;rw[aq (by omega)]at YU⊢;by_cases e0:y.next=0
 ·rw[aB e0];have hc:=h.aH2 (by omega) (by omega);have hv:=h.vs hs (by omega) (by omega);unfold B.mL;split
  ·exact ap6.aL7 (by dsimp only;omega) rfl
  split
  ·refine⟨λ_ _=>?_,λ_ _ _=>hv,λ_ e=>absurd e (by show¬(1:Int)=2;decide),λ_ e=>absurd e (by show¬(1:Int)=3;decide),λe=>absurd e (by show¬(1:Int)=4;decide)⟩;exact hc.of (D9 aE _ _ _ _)
  ·exact⟨λ_ _=>hc,λ_ _ _=>hv,λ_ e=>by dsimp only at e;omega,λ_ e=>by dsimp only at e;omega,λe=>by dsimp only at e;omega⟩
 rw[aq e0]at YU⊢;by_cases e1:y.next=1
 ·rw[aB e1];have hc:=h.aH2 (by omega) (by omega);have hv:=h.vs hs (by omega) (by omega);unfold B.je;split
  ·exact ap6.pass aE (y:={y with av:=val,an:=n}) hc hv
  ·rename_i e2;exact⟨λ_ _=>hc,λ_ e=>absurd rfl e,λ_ _ _=>h1 hs e1 e2,λ_ e=>absurd e (by show¬(2:Int)=3;decide),λe=>absurd e (by show¬(2:Int)=4;decide)⟩
 rw[aq e1]at YU⊢;by_cases e2:y.next=2
 ·rw[aB e2]at YU⊢;have hc:=h.aH2 (by omega) (by omega);obtain⟨-,-,-,-,a5⟩:=hB.n2 hs e2;unfold B.tag at YU⊢;split
  ·exact ap6.aL7 (by dsimp only;omega) rfl
  rename_i e3;rw[aq e3]at YU;dsimp only at e3;have TT:(Vw.tell seq val n y.x.v).s=1:=by
   rcases a5 with a5|⟨a5,-⟩
   ·exfalso;have h0:y.x.v.step≠3:=by have:=hI.vs;unfold Vw.VS at this;omega
    have e:Vw.tell seq val n y.x.v=y.x.v:=by unfold Vw.tell;rw[aq h0]
    rw[e]at e3;exact e3 a5
   ·revert e3;unfold Vw.tell;rw[aB a5];split
    ·intro e3;exact absurd rfl e3
    ·intro _;rfl
  split
  ·exact ap6.pass aE (y:={y with x:={y.x with v:=Vw.tell seq val n y.x.v}}) hc TT
  ·rename_i e4;rw[aq e4]at YU;have hD:=(YU.mM hs (.inl rfl)).1;exact⟨λ_ _=>hc,λ_ _ _=>TT,λ_ e=>absurd e (by show¬(3:Int)=2;decide),λ_ _=>⟨h.n2 hs e2 hD,λj hj=>by dsimp only at hj;omega⟩,λe=>absurd e (by show¬(3:Int)=4;decide)⟩
 rw[aq e2]at YU⊢;by_cases e3:y.next=3
 ·rw[aB e3];have hc:=h.aH2 (by omega) (by omega);have hv:=h.vs hs (by omega) (by omega);obtain⟨tq,Zr⟩:=h.n3 hs e3;have hg:=BZ.given;have qm:=BZ.args;have nk:∀j:Nat,(j:Int)<y.given+1→(y.args.set y.given.toNat val).getD j 0=(cf y.u y.an).args.getD j 0:=λj hj=>by
   by_cases ej:j=y.given.toNat
   ·subst ej;rw[←h3 hs e3,cO,eW (by have:=hI.g3 hs e3;omega)];rfl
   ·rw[cO,dF (λe=>ej e.symm),←cO];exact Zr j (by omega)
  split
  ·rename_i e5;have bX:y.args.set y.given.toNat val=[Sl (cf y.u y.an),0,0,0]:=by
    have hl:(y.args.set y.given.toNat val).length=4:=by rw[cF];exact qm
    have k0:=nk 0 (by omega);have k1:=nk 1 (by omega);have k2:=nk 2 (by omega);have k3:=nk 3 (by omega);rw[hC.2.1]at k0 k1 k2 k3;generalize y.args.set y.given.toNat val=L at*
    match L,hl with
    |[a,b,d,e],_=>simp at k0 k1 k2 k3;subst k0 k1 k2 k3;rfl
   unfold B.dI;dsimp only;rw[bX,tq];have xD:y.x.w.list.length<y.x.w.room:=by
    have hb:=hJ.w (by omega) (by omega) (by omega);have g1:=hb.g.le;have g2:=hb.dn;have g3:=al6 aE (c:=c) (u:=y.u) BZ.u.2;have g4:=bK aE;have g5:=hb.g.room;omega
   rcases aK4 (c:=c) y.x.w R with⟨q1,q2⟩|q1
   ·rw[aB0 hC.1 hv q1];have hx:(H3 c y.x.v y.x.p y.x.w).s=0:=rfl;unfold B.A_;dsimp only;rw[aq (by omega),aq (by omega)];refine⟨λ_ e=>absurd rfl e,λ_ _ e=>absurd rfl e,λ_ e=>absurd e (by show¬(4:Int)=2;decide),λ_ e=>absurd e (by show¬(4:Int)=3;decide),λ_ _=>⟨hc,q2,rfl,hC.2.1.symm,_,_,_,hv,q1,rfl⟩⟩
   ·have hD:=aK3 (c:=c) hC.2.2 (v:=y.x.v) (p:=y.x.p) (w:=y.x.w) hC.1 hv q1;exact ap6.aO0 (y:={y with av:=(cf y.u y.an).prog,args:=[Sl (cf y.u y.an),0,0,0],given:=y.given+1,code:=B.bU jq (cf y.u y.an).prog,next:=4}) aE hD xD hC.2.2.1 hc
  ·rename_i e5;refine⟨λ_ _=>hc,λ_ _ _=>hv,λ_ e=>by dsimp only at e;omega,λ_ _=>⟨tq,λj hj=>nk j hj⟩,λe=>by dsimp only at e;omega⟩
 ·rw[aq e3];have e4:y.next=4:=by omega
  obtain⟨hc,hcu,Fy,Zr,v,p,w,hv,hg,hx⟩:=h.n4 e4 (by omega);obtain⟨k1,k2⟩:=h4 hs e4;have hD:=aw2 (c:=c) hC.2.2 (v:=v) (p:=p) (w:=w) hC.1 hv (seq:=seq) (r:=val) (n:=n) k1;rw[Zr,Fy,hx,hC.2.1];have B6:cur c R w=R:=by rw[hx]at hcu;exact hcu
  rw[k2]at hD;have xD:w.list.length<w.room:=by
   obtain⟨w1,b1,b2,b3⟩:=hJ.x4 e4;rw[hx]at b2 b3;have h9:(w1.done.length:Int)=w.done.length:=b2;have g1:w.list.length≤w.done.length:=b3.g.le;have g2:=b1.dn;have g3:=al6 aE (c:=c) (u:=y.u) BZ.u.2;have g4:=bK aE;have g5:w.room=(cap c).toNat:=b3.g.room;omega
  rw[k2];exact ap6.aO0 (y:={y with code:=B.bU jq (cf y.u y.an).prog,args:=[Sl (cf y.u y.an),0,0,0]}) aE (w0:=w) (by rw[B6];exact hD) xD hC.2.2.1 (by rw[hx]at hc;exact hc)
end
end Go.Proofs.YtolkmchicplaoaaGreat
namespace Go.Proofs.YtolkmchicplaoaaGreat
open Go.RowKit Go.aS Go.aS.I_ Go.aS.Y
abbrev pM:=Option (Int×Int×Int)
def mZ (c:Y.cA)(M:C.M)(u:Int):Int:=(M.cl (at_ c 1 u 0)).2
structure ap7 (c:Y.cA)(g:ag3)(M:C.M)(y:B.St):Prop where
 r:∀r∈y.rows,r.tag=mZ c M r.aw
 n2:y.s=0→y.next=2→g.D y.u<y.an→y.an=mZ c M y.u
 mM:y.s=0→y.next=3∨y.next=4→y.an=mZ c M y.u
structure ao9 (c:Y.cA)(cf:af1)(dec:pM)(g:ag3)(M:C.M)(lk:Int)(me:K.Me)(k:K.St):Prop where
 pl:k.asked=false→2≤k.next→me.call.prog=1
 g0:k.next=0→∀j:Nat,j<4→(j:Int)<k.given→(M.cl (at_ c 2 me.aw j)).1=me.call.args.getD j 0
 g1:k.next=1→∀j:Nat,j<4→(M.cl (at_ c 2 me.aw j)).1=me.call.args.getD j 0
 ns:3≤k.next→k.next≤8→∀n0 v p0,dec=some (n0,v,p0)→(n0≤k.ns↔p0<lk)
 p8:k.next=8→k.asked=false∧me.call.prog=1∧k.work= .ex (K.code jq me) (K.NM c jq me)
 dn:k.next=6∨k.next=7∨k.next=12→me.tag≤g.D me.aw
 p9:k.next=9→∃y,k.work= .bu y∧(k.ns=(now M).2→ap6 c cf (M.cl (X.zR c)).1 g y∧ap7 c g M y)
 qx:k.next=10∨k.next=11→∃y,k.b=some y∧(k.ns=(now M).2→af0 c cf (M.cl (X.zR c)).1 y.rows y.x.w∧∀r∈y.rows,r.tag=mZ c M r.aw)
def Ju {c:Y.cA}(aE:Y.Ok c):(jt c (X.zR c)).1=10:=by
 unfold X.zR;rw[(fm aE (kd:=10) (i:=0) (j:=0) (by unfold Is cr aP each;simp)).2.2.2]
def ap6.gh {c:Y.cA}{cf:af1}{R:Int}{g g':ag3}{y:B.St}(h:ap6 c cf R g y)(hD:∀u,g'.D u=g.D u):ap6 c cf R g' y:=
 ⟨h.aH2,h.vs,λa b e=>h.n2 a b (by rw[←hD];exact e),h.n3,h.n4⟩
section
variable {c:Y.cA} {cf:af1} {dec NH:pM} {g g':ag3} {M M':C.M} {lk:Int} {me:K.Me} {k:K.St} {rs:List (Int×Int)}
def ao9.move (aE:Y.Ok c){t:Int}(hv:sV c t g g' M M')(hK:ap0 c jq g M rs me k)(hA:(now M').2=(now M).2→∀u,g.D u<mZ c M u→mZ c M' u=mZ c M u)(hG:∀j:Nat,j<4→M'.cl (at_ c 2 me.aw j)=M.cl (at_ c 2 me.aw j))(hDm:g.D me.aw≤g'.D me.aw)
 (aM8:NH=dec∨∃n0 v p0,NH=some (n0,v,p0)∧dec=none∧(now M).2<n0∧(3≤k.next→lk≤p0))(h:ao9 c cf dec g M lk me k):ao9 c cf NH g' M' lk me k:=by
 have hn:=hv.n;have Tw:k.ns=(now M').2→9≤k.next→k.next≤11→k.ns=(now M).2∧(∀u,g'.D u=g.D u)∧M'.cl (X.zR c)=M.cl (X.zR c)∧(now M').2=(now M).2:=λe h9 u7=>by
  have h1:=(hK.ns (by omega) u7).1;have e2:(now M').2=(now M).2:=by omega
  have h3:=hv.same e2;refine⟨by omega,h3.2.2.1,?_,e2⟩;rcases hv.cell (X.zR c) (by rw[Ju aE];decide)with h4|h4
  ·exact h4
  ·exact absurd h4.1.1 (hK.st (by omega) u7 (by omega))
 refine⟨h.pl,λe j h4 hj=>by rw[hG j h4];exact h.g0 e j h4 hj,λe j hj=>by rw[hG j hj];exact h.g1 e j hj,λh3 h8 n0 v p0 e=>?_,h.p8,λe=>oJ (h.dn e) hDm,λe=>?_,λe=>?_⟩
 ·rcases aM8 with rfl|⟨n1,v1,p1,e1,e2,e3,e4⟩
  ·exact h.ns h3 h8 n0 v p0 e
  ·rw[e1]at e;obtain⟨rfl,rfl,rfl⟩:n1=n0∧v1=v∧p1=p0:=by simpa using e
   have:=(hK.ns h3 (by omega)).1;have e4:=e4 h3;constructor<;>intro _<;>omega
 ·obtain⟨y,e1,e2⟩:=h.p9 e;refine⟨y,e1,λe3=>?_⟩;obtain⟨s1,s2,s3,s4⟩:=Tw e3 (by omega) (by omega);obtain⟨v1,v2⟩:=e2 s1;obtain⟨_,y2,f1,fs,_,_,f2⟩:=hK.p9 e;rw[e1]at f1;cases f1
  have hB:=f2 s1;rw[s3];refine⟨v1.gh s2,λr hr=>?_,λa b d=>?_,λa b=>?_⟩
  ·rw[hA s4 r.aw (by rw[←v2.r r hr];exact(hB.r r hr).1)];exact v2.r r hr
  ·rw[s2]at d;have e5:=v2.n2 a b d;rw[hA s4 y.u (by rw[←e5];exact d)];exact e5
  ·have e5:=v2.mM a b;rw[hA s4 y.u (by rw[←e5];exact(hB.mM a b).1)];exact e5
 ·obtain⟨y,e1,e2⟩:=h.qx e;refine⟨y,e1,λe3=>?_⟩;obtain⟨s1,s2,s3,s4⟩:=Tw e3 (by omega) (by omega);obtain⟨v1,v2⟩:=e2 s1;obtain⟨_,y2,f1,_,_,_,f2,_⟩:=hK.qx e;rw[e1]at f1;cases f1
  have hB:=f2 s1;rw[s3];exact⟨v1,λr hr=>by rw[hA s4 r.aw (by rw[←v2 r hr];exact(hB.r r hr).1)];exact v2 r hr⟩
end
end Go.Proofs.YtolkmchicplaoaaGreat
namespace Go.Proofs.YtolkmchicplaoaaGreat
open Go.RowKit Go.aS Go.aS.I_ Go.aS.Y
structure ml (c:Y.cA)(cf:af1)(dec:pM)(g:ag3)(M M':C.M)(pk lk:Int)(me:K.Me)(k k2:K.St):Prop where
 go:k2.next≠13→ao9 c cf dec g M' (if k2.fresh then pk else lk) me k2
 en:k2.next=13→(k2.alone=false∧me.tag≤g.D me.aw)∨(k2.alone=true∧k.asked=false∧me.call.prog=1∧k2.rc=0∧k.next=8∧k2.rv=(M.cl (X.zR c)).1∧(M.cl (X.zR c)).2≤k.ns)
section
variable {c:Y.cA} {cf:af1} {dec:pM} {g:ag3} {M M':C.M} {pk lk:Int} {me:K.Me} {k:K.St} {rs:List (Int×Int)}
def ao9.same (aE:Y.Ok c)(hs:nB c M M')(h0:k.next=0→k.given=0)(h1:k.next≠1)(h:ao9 c cf dec g M lk me k):ao9 c cf dec g M' lk me k:=by
 have hr:M'.cl (X.zR c)=M.cl (X.zR c):=hs.cl _ (by rw[Ju aE];decide) (by rw[Ju aE];decide) (by rw[Ju aE];decide);have hn:=hs.now aE;have ha:∀u,mZ c M' u=mZ c M u:=λu=>by
  unfold mZ;by_cases hi:Is c 1 u 0
  ·rw[hs.at_ aE hi (by decide) (by decide) (by decide)]
  ·rw[show at_ c 1 u 0= -1 by unfold at_;rw[aq hi]];exact congrArg (·.2) hn
 refine⟨h.pl,λe j _ hj=>by rw[h0 e]at hj;omega,λe=>absurd e h1,h.ns,h.p8,h.dn,λe=>?_,λe=>?_⟩
 ·obtain⟨y,e1,e2⟩:=h.p9 e;refine⟨y,e1,λe3=>?_⟩;rw[hn]at e3;obtain⟨v1,v2⟩:=e2 e3;rw[hr];exact⟨v1,λr hr=>by rw[ha];exact v2.r r hr,λa b d=>by rw[ha];exact v2.n2 a b d,λa b=>by rw[ha];exact v2.mM a b⟩
 ·obtain⟨y,e1,e2⟩:=h.qx e;refine⟨y,e1,λe3=>?_⟩;rw[hn]at e3;obtain⟨v1,v2⟩:=e2 e3;rw[hr];exact⟨v1,λr hr=>by rw[ha];exact v2 r hr⟩
def ao9.low (B5:k.asked=false→2≤k.next→me.call.prog=1)(hn:k.next=2∨(k.next=0∧k.given=0)):ao9 c cf dec g M lk me k:=
 ⟨B5,λe j _ hj=>by rcases hn with h|h;omega;rw[h.2]at hj;omega,λe=>by omega,λe=>by omega,λe=>by omega,λe=>by omega,λe=>by omega,λe=>by omega⟩
def ao9.P1 (B5:k.asked=false→2≤k.next→me.call.prog=1)(pH:∀n0 v p0,dec=some (n0,v,p0)→(n0≤k.ns↔p0<lk))(hn:3≤k.next∧k.next≤7)(hd:k.next=6∨k.next=7→me.tag≤g.D me.aw):ao9 c cf dec g M lk me k:=
 ⟨B5,λe=>by omega,λe=>by omega,λ_ _=>pH,λe=>by omega,λe=>hd (by omega),λe=>by omega,λe=>by omega⟩
def sa0 (aE:Y.Ok c)(hw:0≤me.aw∧me.aw<c.t)(hg:ag2 c g M){N:Int}(hK:KI c jq me N k)(hT:ap0 c jq g M rs me k)(h:ao9 c cf dec g M lk me k)(e0:k.next=0):ml c cf dec g M (M.step me.aw (Z.nN (K.ask c me k).1)) pk lk me k (K.tell c jq me (Z.o3 (M.told me.aw (Z.nN (K.ask c me k).1))) k):=by
 have sg:=aE.t8;have hl:=hg.len;have Xj:=hK.given;have ZW:=hK.g0 e0;have ea:(K.ask c me k).1=⟨1,at_ c 2 me.aw k.given,0,0,me.call.args.getD k.given.toNat 0,0⟩:=by unfold K.ask;rw[aB e0]
 have hv:=fm aE (NA aE hw.1 hw.2 Xj.1 ZW);have er:=BD (n:=M.cells.length) (aw:=me.aw) (op:=⟨1,at_ c 2 me.aw k.given,0,0,me.call.args.getD k.given.toNat 0,0⟩) hw.1 (by omega) (by dsimp only;omega) (by dsimp only;omega) hv.2.1 (by dsimp only;omega);rw[ea,DQ e0];have key:∀j:Nat,(j:Int)<k.given+1→((M.step me.aw ⟨1,at_ c 2 me.aw k.given,0,0,me.call.args.getD k.given.toNat 0,0⟩).cl (at_ c 2 me.aw j)).1=me.call.args.getD j 0:=λj hj=>by
  by_cases ej:(j:Int)=k.given
  ·have e1:=C.Ee er rfl;rw[ej];have e2:((M.step me.aw ⟨1,at_ c 2 me.aw k.given,0,0,me.call.args.getD k.given.toNat 0,0⟩).cl (at_ c 2 me.aw k.given))=(me.call.args.getD k.given.toNat 0,0):=e1;rw[e2,←ej];rfl
  ·rw[C.kK (op:=⟨1,at_ c 2 me.aw k.given,0,0,me.call.args.getD k.given.toNat 0,0⟩) (fm aE (NA aE hw.1 hw.2 (by omega) (by omega))).2.1 (pE aE (NA aE hw.1 hw.2 (by omega) (by omega)) (.inr (.inr ej)))];exact h.g0 e0 j (by omega) (by omega)
 have ha:k.asked=false:=by
  cases e:k.asked with
  |false=>rfl
  |true=>have:=hK.g2 e;omega
 split
 ·rename_i e4;exact⟨λ_=>⟨λ_ e=>absurd e (by show¬(2:Int)≤1;decide),λe=>absurd e (by show¬(1:Int)=0;decide),λ_ j hj=>key j (by omega),λe=>absurd e (by show¬(3:Int)≤1;decide),λe=>absurd e (by show¬(1:Int)=8;decide),λe=>absurd e (by show¬((1:Int)=6∨(1:Int)=7∨(1:Int)=12);decide),λe=>absurd e (by show¬(1:Int)=9;decide),λe=>absurd e (by show¬((1:Int)=10∨(1:Int)=11);decide)⟩,λe=>absurd e (by show¬(1:Int)=13;decide)⟩
 ·exact⟨λ_=>⟨λ_ e=>by dsimp only at e;omega,λ_ j _ hj=>key j hj,λe=>by dsimp only at e;omega,λe=>by dsimp only at e;omega,λe=>by dsimp only at e;omega,λe=>by dsimp only at e;omega,λe=>by dsimp only at e;omega,λe=>by dsimp only at e;omega⟩,λe=>by dsimp only at e;omega⟩
def sa1 (e1:k.next=1){o:O3}:ml c cf dec g M M' pk lk me k (K.tell c jq me o k):=by
 rw[DR e1];exact⟨λ_=>ao9.low (λe=>by cases e) (.inl rfl),λe=>absurd e (by show¬(2:Int)=13;decide)⟩
def aw3 (hC:te me.call):I_.right (K.code jq me)=true:=by
 unfold K.code K.bU;rcases hC.1 with e|e<;>rw[e]<;>decide
def sa2 (hC:te me.call)(h:ao9 c cf dec g M lk me k)(e2:k.next=2){o:O3}(hd:∀n0 v p0,dec=some (n0,v,p0)→n0≤o.s∧p0<pk):ml c cf dec g M M' pk lk me k (K.tell c jq me o k):=by
 rw[xj e2];unfold K.looked;rw[aB (aw3 hC)];refine⟨λ_=>ao9.P1 (λe _=>h.pl e (by omega)) (λn0 v p0 e=>?_) ⟨by show(3:Int)≤3;decide,by show(3:Int)≤7;decide⟩ (λe=>absurd e (by show¬((3:Int)=6∨(3:Int)=7);decide)),λe=>absurd e (by show¬(3:Int)=13;decide)⟩;obtain⟨a1,a2⟩:=hd n0 v p0 e;exact⟨λ_=>by rw[aB rfl];exact a2,λ_=>a1⟩
def aB2 (hC:te me.call):K.NM c jq me=H3 c K.nV P.fw ⟨0,[],[]⟩:=by
 unfold K.NM;rw[hC.2.1,show K.code jq me=B.bU jq me.call.prog from by unfold K.code K.bU;rcases hC.1 with e|e<;>rw[e]<;>rfl];exact aB0 hC.1 rfl rfl
def aI0 (aE:Y.Ok c)(hC:te me.call)(B5:k.asked=false→me.call.prog=1)(pH:∀n0 v p0,dec=some (n0,v,p0)→(n0≤k.ns↔p0<lk)):∀k2,k2=K.qu c jq me k→k2.next≠13∧k2.fresh=k.fresh∧ao9 c cf dec g M lk me k2:=by
 rintro k2 rfl;unfold K.qu;split
 ·rename_i ha;exact⟨by show(5:Int)≠13;decide,rfl,ao9.P1 (λe=>by rw[show k.asked=false from e]at ha;cases ha) pH ⟨by show(3:Int)≤5;decide,by show(5:Int)≤7;decide⟩ (λe=>absurd e (by show¬((5:Int)=6∨(5:Int)=7);decide))⟩
 ·rename_i ha;have ha:k.asked=false:=by simpa using ha
  have hs:(K.NM c jq me).s=0:=by rw[aB2 hC];rfl
  unfold K.run K.read;rw[aq (by omega),aq (by omega)];exact⟨by show(8:Int)≠13;decide,rfl,⟨λ_ _=>B5 ha,λe=>absurd e (by show¬(8:Int)=0;decide),λe=>absurd e (by show¬(8:Int)=1;decide),λ_ _=>pH,λ_=>⟨ha,B5 ha,rfl⟩,λe=>absurd e (by show¬((8:Int)=6∨(8:Int)=7∨(8:Int)=12);decide),λe=>absurd e (by show¬(8:Int)=9;decide),λe=>absurd e (by show¬((8:Int)=10∨(8:Int)=11);decide)⟩⟩
def sa3 (aE:Y.Ok c)(hC:te me.call)(h:ao9 c cf dec g M lk me k)(e3:k.next=3){o:O3}:ml c cf dec g M M' pk lk me k (K.tell c jq me o k):=by
 rw[xk e3];have pH:=h.ns (by omega) (by omega);have B5:k.asked=false→me.call.prog=1:=λe=>h.pl e (by omega);unfold K.opened;split
 ·exact⟨λ_=>ao9.P1 (λe _=>B5 e) pH ⟨by show(3:Int)≤4;decide,by show(4:Int)≤7;decide⟩ (λe=>absurd e (by show¬((4:Int)=6∨(4:Int)=7);decide)),λe=>absurd e (by show¬(4:Int)=13;decide)⟩
 ·obtain⟨a1,a2,a3⟩:=aI0 (g:=g) (M:=M') (k:={k with fresh:=false,eV:=false}) aE hC B5 pH _ rfl;exact⟨λ_=>by rw[a2];exact a3,λe=>absurd e a1⟩
def sa4 (aE:Y.Ok c)(hC:te me.call)(h:ao9 c cf dec g M lk me k)(e4:k.next=4∨k.next=12){o:O3}{N:Int}(hK:KI c jq me N k):ml c cf dec g M M' pk lk me k (K.tell c jq me o k):=by
 obtain⟨ow,q,hh,LA,-⟩:=hK.m4 e4;rw[j5 (by rcases e4 with e|e;exact .inl e;exact .inr (.inr (.inr (.inr e))))];unfold K.fX;rw[show({k with fresh:=false,eV:=false}:K.St).work= .he ow q hh from LA];show ml c cf dec g M M' pk lk me k (K.jf c jq me (H.tell c q o.v o.s hh) {k with fresh:=false,eV:=false,work:= .he ow q (H.tell c q o.v o.s hh)});generalize H.tell c q o.v o.s hh=h3 at*;have B5:k.asked=false→me.call.prog=1:=λe=>h.pl e (by omega);unfold K.jf;split
 ·refine⟨λ_=>⟨λe _=>B5 e,λe=>?_,λe=>?_,λe1 e2=>h.ns e1 e2,λe=>?_,λe=>h.dn e,λe=>?_,λe=>?_⟩,λe=>?_⟩;all_goals(dsimp only at e;omega)
 split
 ·rename_i qN;exact⟨λe=>absurd rfl e,λ_=> .inl ⟨rfl,h.dn (.inr (.inr qN))⟩⟩
 ·rename_i qN;have qN:¬k.next=12:=qN;obtain⟨a1,a2,a3⟩:=aI0 (g:=g) (M:=M') (k:={k with fresh:=false,eV:=false,work:= .he ow q h3}) aE hC B5 (h.ns (by omega) (by omega)) _ rfl;exact⟨λ_=>by rw[a2];exact a3,λe=>absurd e a1⟩
def aP6 (hw:0≤me.aw∧me.aw<c.t)(hT:ap0 c jq g M rs me k)(h:ao9 c cf dec g M lk me k)(lV:k.ns<c.la)(e5:k.next=5∨k.next=6∨k.next=7){o:O3}(ht:k.next=5→o.v≤g.D me.aw):ml c cf dec g M M' pk lk me k (K.tell c jq me o k):=by
 have has:=hT.ay5 (by omega) (by omega) (by omega);have pH:=h.ns (by omega) (by omega);rw[y6 e5];unfold K.answer;split
 ·rename_i e6;have e6:k.next=6:=e6;exact⟨λ_=>ao9.P1 (λe=>by rw[show k.asked=false from e]at has;cases has) pH ⟨by show(3:Int)≤7;decide,by show(7:Int)≤7;decide⟩ (λ_=>h.dn (.inl e6)),λe=>absurd e (by show¬(7:Int)=13;decide)⟩
 split
 ·rename_i e7;exact⟨λe=>absurd rfl e,λ_=> .inl ⟨rfl,h.dn (.inr (.inl e7))⟩⟩
 rename_i n6 n7;have e5:k.next=5:=by have n6:¬k.next=6:=n6;have n7:¬k.next=7:=n7;omega
 split
 ·rename_i e;have:=ht e5;exact⟨λ_=>ao9.P1 (λe=>by rw[show k.asked=false from e]at has;cases has) pH ⟨by show(3:Int)≤6;decide,by show(6:Int)≤7;decide⟩ (λ_=>by omega),λe=>absurd e (by show¬(6:Int)=13;decide)⟩
 split
 ·rename_i e;have e:c.la≤k.ns∧_:=e;omega
 split
 ·rename_i e;have e:c.la≤k.ns:=e;omega
 ·refine⟨λ_=>⟨λe=>(by rw[show k.asked=false from e]at has;cases has),λe=>absurd e (by show¬(9:Int)=0;decide),λe=>absurd e (by show¬(9:Int)=1;decide),λ_ e=>absurd e (by show¬(9:Int)≤8;decide),λe=>absurd e (by show¬(9:Int)=8;decide),λe=>absurd e (by show¬((9:Int)=6∨(9:Int)=7∨(9:Int)=12);decide),λ_=>⟨_,rfl,λ_=>⟨ap6.new c cf _ g,λr hr=>absurd hr (by simp[B.fw]),λ_ e=>absurd e (by show¬(0:Int)=2;decide),λ_ e=>absurd e (by show¬((0:Int)=3∨(0:Int)=4);decide)⟩⟩,λe=>absurd e (by show¬((9:Int)=10∨(9:Int)=11);decide)⟩,λe=>absurd e (by show¬(9:Int)=13;decide)⟩
def aP7 (hT:ap0 c jq g M rs me k)(qM:k.next=11){o:O3}(ho:o.ok=false):ml c cf dec g M M' pk lk me k (K.tell c jq me o k):=by
 have has:=hT.ay5 (by omega) (by omega) (by omega);rw[y7 qM];unfold K.iT;rw[ho,aq (by decide)];exact⟨λ_=>ao9.low (λe=>by rw[show k.asked=false from e]at has;cases has) (.inl rfl),λe=>absurd e (by show¬(2:Int)=13;decide)⟩
def sa8 (aE:Y.Ok c)(hC:te me.call)(hw:0≤me.aw∧me.aw<c.t)(hg:ag2 c g M){N:Int}(hK:KI c jq me N k)(h:ao9 c cf dec g M lk me k)(e8:k.next=8):ml c cf dec g M (M.step me.aw (Z.nN (K.ask c me k).1)) pk lk me k (K.tell c jq me (Z.o3 (M.told me.aw (Z.nN (K.ask c me k).1))) k):=by
 obtain⟨has,hpr,LA⟩:=h.p8 e8;have hx:=aB2 (c:=c) (me:=me) hC;have hcr:=Sk (c:=c) (v:=K.nV) rfl;have hxv:(K.NM c jq me).v=Vw.cell (X.zR c) K.nV:=by rw[hx];rfl
 have ea:(K.ask c me k).1=⟨0,X.zR c,0,0,0,0⟩:=by
  unfold K.ask;rw[aq (by omega),aq (by omega),aq (by omega),aq (by omega),aq (by omega),aB (by omega)];unfold K.sF;rw[LA];show(X.ask (K.NM c jq me)).1=_;unfold X.ask;rw[aq (by rw[hx];exact λe=>e rfl),hxv,hcr];rfl
 have um:=fm aE (c:=c) (kd:=10) (i:=0) (j:=0) (by unfold Is cr aP each;simp);obtain⟨l1,l2,l3,aR9⟩:=nz (M:=M) (me:=me) (g:=g) aE hw hg (a:=X.zR c) um.2.1 um.2.2.1;rw[ea];show ml c cf dec g M (M.step me.aw ⟨0,X.zR c,0,0,0,0⟩) pk lk me k (K.tell c jq me (Z.o3 (M.told me.aw ⟨0,X.zR c,0,0,0,0⟩)) k);generalize M.told me.aw ⟨0,X.zR c,0,0,0,0⟩=o at*;generalize M.step me.aw ⟨0,X.zR c,0,0,0,0⟩=M2 at*;rw[j5 (.inr (.inl e8))];unfold K.fX;rw[show({k with fresh:=false,eV:=false}:K.St).work= .ex (K.code jq me) (K.NM c jq me)from LA];have aO1:K.code jq me=B.bU jq me.call.prog:=by unfold K.code K.bU;rcases hC.1 with e|e<;>rw[e]<;>rfl
 show ml c cf dec g M M2 pk lk me k (K.read (X.tell c (K.code jq me) me.call.args k.ns o.v o.s (K.NM c jq me)) {k with fresh:=false,eV:=false,work:= .ex (K.code jq me) (X.tell c (K.code jq me) me.call.args k.ns o.v o.s (K.NM c jq me))});rw[aO1,hx,hC.2.1];by_cases hn:o.s≤k.ns
 ·have hD:=aw2 (c:=c) hC.2.2 (v:=K.nV) (p:=P.fw) (w:=⟨0,[],[]⟩) hC.1 rfl (seq:=k.ns) (r:=o.v) hn;generalize X.tell c (B.bU jq me.call.prog) [Sl me.call,0,0,0] k.ns o.v o.s (H3 c K.nV P.fw ⟨0,[],[]⟩)=x at*;unfold K.read;rw[aB hD.s];refine⟨λe=>absurd rfl e,λ_=> .inr ⟨rfl,has,hpr,hD.rc,e8,?_,by rw[←aR9];exact hn⟩⟩;show x.rv=_;rw[hD.rv,←l3];unfold nx;rw[aq (by omega)]
 ·have hS:=Wy (c:=c) (v:=K.nV) (p:=P.fw) (w:=⟨0,[],[]⟩) rfl [Sl me.call,0,0,0] (code:=B.bU jq me.call.prog) (seq:=k.ns) (r:=o.v) (n:=o.s) (by omega);generalize X.tell c (B.bU jq me.call.prog) [Sl me.call,0,0,0] k.ns o.v o.s (H3 c K.nV P.fw ⟨0,[],[]⟩)=x at*;unfold K.read;rw[aq (by omega),aB hS];have uF:=hK.g1 has (by omega) (by omega);split
  ·exact⟨λ_=>ao9.low (λ_ e=>absurd e (by show¬(2:Int)≤0;decide)) (.inr ⟨rfl,uF⟩),λe=>absurd e (by show¬(0:Int)=13;decide)⟩
  ·exact⟨λ_=>ao9.low (λ_ _=>hpr) (.inl rfl),λe=>absurd e (by show¬(2:Int)=13;decide)⟩
end
end Go.Proofs.YtolkmchicplaoaaGreat
namespace Go.Proofs.YtolkmchicplaoaaGreat
open Go.RowKit Go.aS Go.aS.I_ Go.aS.Y
section
variable {c:Y.cA} {cf:af1} {dec:pM} {g:ag3} {M M':C.M} {pk lk:Int} {me:K.Me} {k:K.St} {rs:List (Int×Int)} {y:B.St}
def ap7.pass (h:∀r∈y.rows,r.tag=mZ c M r.aw):ap7 c g M (B.pass c y):=
 ⟨by rw[JZ];exact h,λ_ e=>by rw[oy]at e;omega,λ_ e=>by rw[oy]at e;omega⟩
def ap7.A_ (h:∀r∈y.rows,r.tag=mZ c M r.aw)(h4:y.next=4)(hu:y.an=mZ c M y.u):ap7 c g M (B.A_ c y):=by
 unfold B.A_;split
 ·exact⟨h,λe=>by dsimp only at e;omega,λe=>by dsimp only at e;omega⟩
 split
 ·refine ap7.pass (y:=B.ny c y) (λr hr=>?_);rcases jQ.1 (show r∈y.rows++[_]from hr)with h1|h1
  ·exact h r h1
  ·rw[jO]at h1;subst h1;exact hu
 ·exact⟨h,λ_ e=>by omega,λ_ _=>hu⟩
def ap7.tell (h:ap7 c g M y)(kT:0≤y.next∧y.next≤4){seq val n:Int}(YU:ae6 c g M rs (B.tell c jq seq val n y))(h1:y.s=0→y.next=1→n=mZ c M y.u):ap7 c g M (B.tell c jq seq val n y):=by
 unfold B.tell at YU⊢;split
 ·exact h
 rename_i hs;have hs:y.s=0:=by omega
 rw[aq (by omega)]at YU;split
 ·rename_i e0;unfold B.mL;split
  ·exact⟨h.r,λe=>by dsimp only at e;omega,λe=>by dsimp only at e;omega⟩
  split
  ·exact⟨h.r,λ_ e=>absurd e (by show¬(1:Int)=2;decide),λ_ e=>absurd e (by show¬((1:Int)=3∨(1:Int)=4);decide)⟩
  ·exact⟨h.r,λ_ e=>by dsimp only at e;omega,λ_ e=>by dsimp only at e;omega⟩
 rename_i e0;rw[aq e0]at YU;split
 ·rename_i e1;unfold B.je;split
  ·exact ap7.pass (y:={y with av:=val,an:=n}) h.r
  ·exact⟨h.r,λ_ _ _=>h1 hs e1,λ_ e=>absurd e (by show¬((2:Int)=3∨(2:Int)=4);decide)⟩
 rename_i e1;rw[aq e1]at YU;split
 ·rename_i e2;rw[aB e2]at YU;unfold B.tag at YU⊢;split
  ·exact⟨h.r,λe=>by dsimp only at e;omega,λe=>by dsimp only at e;omega⟩
  rename_i e3;rw[aq e3]at YU;split
  ·exact ap7.pass (y:={y with x:={y.x with v:=Vw.tell seq val n y.x.v}}) h.r
  ·rename_i e4;rw[aq e4]at YU;exact⟨h.r,λ_ e=>absurd e (by show¬(3:Int)=2;decide),λ_ _=>h.n2 hs e2 (YU.mM hs (.inl rfl)).1⟩
 rename_i e2;split
 ·rename_i e3;have hu:=h.mM hs (.inl e3);split
  ·unfold B.dI;exact ap7.A_ h.r rfl hu
  ·exact⟨h.r,λ_ e=>by dsimp only at e;omega,λ_ _=>hu⟩
 ·rename_i e3;have e4:y.next=4:=by omega
  exact ap7.A_ (y:={y with x:=X.tell c y.code y.args seq val n y.x}) h.r e4 (h.mM hs (.inr e4))
def sa9 (aE:Y.Ok c)(fB:∀u tag,te (cf u tag))(hC:te me.call)(hm:oY me.call.prog me.call.args jq)(hw:0≤me.aw∧me.aw<c.t)(hg:ag2 c g M)(hM:MU M)(ur:(now M).2<c.la→∀u,0≤u→u<c.t→(u,(M.cl (at_ c 1 u 0)).2)∈rs→(M.cl (at_ c 1 u 0)).2≤g.D u){N:Int}(hK:KI c jq me N k)(hT:ap0 c jq g M rs me k)(h:ao9 c cf dec g M lk me k)(e9:k.next=9)(nf:KI c jq me (N+1) (K.tell c jq me (Z.o3 (M.told me.aw (Z.nN (K.ask c me k).1))) k))
 (aO2:∀u,0≤u→u<c.t→mZ c M u≠0→(M.cl (at_ c 1 u 0)).1=(cf u (mZ c M u)).prog)(aO3:∀u,0≤u→u<c.t→g.D u<mZ c M u→∀j:Nat,j<4→(M.cl (at_ c 2 u j)).1=(cf u (mZ c M u)).args.getD j 0):ml c cf dec g M (M.step me.aw (Z.nN (K.ask c me k).1)) pk lk me k (K.tell c jq me (Z.o3 (M.told me.aw (Z.nN (K.ask c me k).1))) k):=by
 obtain⟨lV,y,LA,nO,hJ,ET,SL⟩:=hT.p9 e9;obtain⟨y2,Gf,hI,UJ⟩:=hK.m9 e9;rw[LA]at Gf;cases Gf
 obtain⟨y2,Gf,hV⟩:=h.p9 e9;rw[LA]at Gf;cases Gf
 have has:=hT.ay5 (by omega) (by omega) (by omega);have hN:=hT.tn (by omega) (by omega);have ea:(K.ask c me k).1=(B.ask c me.aw y).1:=by
  unfold K.ask;rw[aq (by omega),aq (by omega),aq (by omega),aq (by omega),aq (by omega),aB (by omega)];unfold K.sF;rw[LA]
 have hq:=l0.aC4 aE hw hg hI ET;rw[ea]at nf⊢;have hu:=hI.bb.u;have Jf:=hI.bb.us nO;have kT:=hI.next;have J5:=hM.told me.aw (Z.nN (B.ask c me.aw y).1);have ld:∀a,(B.ask c me.aw y).1=⟨0,a,0,0,0,0⟩→0≤a→a<size c→(M.told me.aw (Z.nN (B.ask c me.aw y).1)).v=(M.cl a).1∧(M.told me.aw (Z.nN (B.ask c me.aw y).1)).s=(M.cl a).2:=λa e a0 a1=>by
  obtain⟨_,_,l3,aR9⟩:=nz (me:=me) aE hw hg a0 a1;rw[e];exact⟨l3,aR9⟩
 have h1:y.next=1→(M.told me.aw (Z.nN (B.ask c me.aw y).1)).v=(M.cl (at_ c 1 y.u 0)).1∧(M.told me.aw (Z.nN (B.ask c me.aw y).1)).s=mZ c M y.u:=λe=>by
  have hv:=fm aE (a9 aE (kd:=1) (by omega) hu.1 Jf);exact ld _ (by unfold B.ask;rw[aq (by omega),aq (by omega),aB e]) hv.2.1 hv.2.2.1
 have h2:y.next=2→y.x.v.step=3→((M.told me.aw (Z.nN (B.ask c me.aw y).1)).v,(M.told me.aw (Z.nN (B.ask c me.aw y).1)).s)=M.cl y.x.v.at_:=λe es=>by
  have hv:=ET es;have:=ld _ (show(B.ask c me.aw y).1=⟨0,y.x.v.at_,0,0,0,0⟩ by unfold B.ask Vw.ask;rw[aq (by omega),aq (by omega),aq (by omega),aB e,aB es]) hv.1 hv.2.1;exact Prod.ext this.1 this.2
 have h3:y.next=3→(M.told me.aw (Z.nN (B.ask c me.aw y).1)).v=(M.cl (at_ c 2 y.u y.given)).1:=λe=>by
  have Xj:=hI.bb.given;have hv:=fm aE (NA aE (u:=y.u) (j:=y.given) hu.1 Jf Xj.1 (hI.g3 nO e));exact(ld _ (by unfold B.ask;rw[aq (by omega),aq (by omega),aq (by omega),aq (by omega),aB e]) hv.2.1 hv.2.2.1).1
 have h4:y.next=4→k.ns=(now M).2→(M.told me.aw (Z.nN (B.ask c me.aw y).1)).v=(M.cl (X.zR c)).1∧(M.told me.aw (Z.nN (B.ask c me.aw y).1)).s=(M.cl (X.zR c)).2:=λe en=>by
  obtain⟨_,_,_,_,v,p,w,TT,_,hx⟩:=(hV en).1.n4 e (by omega);have hcr:=Sk (c:=c) TT;have um:=fm aE (c:=c) (kd:=10) (i:=0) (j:=0) (by unfold Is cr aP each;simp);refine ld _ ?_ um.2.1 um.2.2.1;have wK:¬(H3 c v p w).s≠0:=λe=>e rfl;unfold B.ask;rw[aq (by omega),aq (by omega),aq (by omega),aq (by omega),aq (by omega),hx];unfold X.ask;rw[aq wK];show(Vw.ask (Vw.cell (X.zR c) v)).1=_;rw[hcr];rfl
 generalize M.told me.aw (Z.nN (B.ask c me.aw y).1)=o at*;have Lm:=hq.2.1;generalize M.step me.aw (Z.nN (B.ask c me.aw y).1)=M2 at*;rw[j5 (.inr (.inr (.inl e9)))]at nf⊢;unfold K.fX at nf⊢;rw[show({k with fresh:=false,eV:=false}:K.St).work= .bu y from LA]at nf⊢;have Bt:KI c jq me (N+1) (K.built c me (B.tell c jq k.ns o.v o.s y) {k with fresh:=false,eV:=false,work:= .bu (B.tell c jq k.ns o.v o.s y)}):=nf;clear nf;show ml c cf dec g M M2 pk lk me k (K.built c me (B.tell c jq k.ns o.v o.s y) {k with fresh:=false,eV:=false,work:= .bu (B.tell c jq k.ns o.v o.s y)});have uH:=hI.tell aE hm.pu k.ns o.v o.s J5.1 J5.2;have L7:k.ns=(now M).2→ap6 c cf (M.cl (X.zR c)).1 g (B.tell c jq k.ns o.v o.s y)∧ap7 c g M (B.tell c jq k.ns o.v o.s y):=λen=>by
  obtain⟨v1,v2⟩:=hV en;have YU:ae6 c g M rs (B.tell c jq k.ns o.v o.s y):=ae6.tell aE hg (hN.nb en) (ur (by omega)) hI (SL en) en (λe=>Prod.ext (h1 e).1 (h1 e).2) h2;refine⟨v1.tell aE fB hI hJ (SL en) YU (λ_ e hn=>?_) (λ_ e=>?_) (λ_ e=>?_),v2.tell kT YU (λ_ e=>(h1 e).2)⟩
  ·rw[(h1 e).1,(h1 e).2];exact aO2 y.u hu.1 Jf (by rw[←(h1 e).2];exact hn)
  ·have hD:=((SL en).mM nO (.inl e)).1;have ha:=v2.mM nO (.inl e);have Xj:=hI.bb.given;rw[h3 e,ha];have:=aO3 y.u hu.1 Jf (by rw[←ha];exact hD) y.given.toNat (by have:=hI.g3 nO e;omega);rw[show((y.given.toNat:Nat):Int)=y.given by omega]at this;exact this
  ·obtain⟨q1,q2⟩:=h4 e en;refine⟨?_,q1⟩;rw[q2,en];exact hg.tr _ (by rw[Ju aE];decide)
 generalize B.tell c jq k.ns o.v o.s y=y2 at*;have El:=uH.bb.s;unfold K.built;have am5:∀a:K.St,a.asked=k.asked→¬a.asked=false:=λa e1 e2=>by rw[e1]at e2;rw[e2]at has;cases has
 split
 ·rename_i hs;refine⟨λ_=>ao9.same aE Lm (λe=>by have e:k.next=0:=e;omega) (by show k.next≠1;omega) ⟨λe=>absurd e (am5 _ rfl),λe=>?_,λe=>?_,λ_ e=>?_,λe=>?_,λe=>?_,λ_=>⟨y2,rfl,L7⟩,λe=>?_⟩,λe=>?_⟩;all_goals(dsimp only at e;omega)
 rename_i wK;have PM:∀a:K.St,a.asked=k.asked→a.next=2→ml c cf dec g M M2 pk lk me k a:=λa e1 e2=>⟨λ_=>ao9.low (λe=>absurd e (am5 a e1)) (.inl e2),λe=>by omega⟩;split
 ·exact PM _ rfl rfl
 rename_i aD4;have JH:y2.s=1:=by omega
 rw[K.built,aq wK,aq aD4]at Bt;rcases pZ (c:=c) (me:=me) y2 y2.rows {k with fresh:=false,eV:=false,work:= .bu y2,next:=2}with⟨e1,_⟩|⟨Gy,c1,c2,c3,c4,c5,c6,c7,aH0⟩
 ·rw[show({({k with fresh:=false,eV:=false,work:= .bu y2}:K.St)with next:=2}:K.St)={k with fresh:=false,eV:=false,work:= .bu y2,next:=2}from rfl,e1];exact PM _ rfl rfl
 ·rw[show({({k with fresh:=false,eV:=false,work:= .bu y2}:K.St)with next:=2}:K.St)={k with fresh:=false,eV:=false,work:= .bu y2,next:=2}from rfl];generalize K.ti c me y2 y2.rows {k with fresh:=false,eV:=false,work:= .bu y2,next:=2}=k2 at*;dsimp only at c3 c4 c5 c6 c7 aH0;refine⟨λ_=>ao9.same aE Lm (λe=>by omega) (by omega) ⟨λe=>absurd e (am5 _ c4),λe=>by omega,λe=>by omega,λ_ e=>by omega,λe=>by omega,λe=>by omega,λe=>by omega,λ_=>⟨y2,c2,λen=>?_⟩⟩,λe=>by omega⟩;obtain⟨v1,v2⟩:=L7 (by rw[←c6];exact en);have Mf:=(Bt.b y2 c2).1;exact⟨v1.aH2 (by omega) (by omega),v2.r⟩
end
end Go.Proofs.YtolkmchicplaoaaGreat
namespace Go.Proofs.YtolkmchicplaoaaGreat
open Go.RowKit Go.aS Go.aS.I_ Go.aS.Y
section
variable {c:Y.cA} {g:ag3} {M:C.M} {me:K.Me} {k:K.St} {rs:List (Int×Int)}
def UI (c:Y.cA)(op:P6):Prop:=op.k=0∨2<(jt c op.a).1∨(jt c op.a).1=0
def LV {a:Int}:UI c ⟨0,a,0,0,0,0⟩:= .inl rfl
def aF3 (aE:Y.Ok c){t x:Int}(ht:0≤t∧t<c.t):UI c ⟨1,at_ c 3 t 0,0,0,x,0⟩:= .inr (.inl (by show 2<(jt c (at_ c 3 t 0)).1;rw[(fm aE (a9 aE (by omega) ht.1 ht.2)).2.2.2];show(2:Int)<3;decide))
def aO5 (x:X.St):UI c (X.ask x).1:=by
 refine .inl ?_;unfold X.ask Vw.ask
 (repeat' split)<;>rfl
def aP9 (y:B.St):UI c (B.ask c me.aw y).1:=by
 refine .inl ?_;unfold B.ask P.ask X.ask Vw.ask
 (repeat' split)<;>rfl
def aO6 (aE:Y.Ok c)(ht:0≤me.aw∧me.aw<c.t){ow q:Int}(ho:0≤ow∧ow<c.t){h:H.H}(hi:H.Inv c h):UI c (H.ask c me.aw ow q h).1:=by
 unfold H.ask
 (repeat' split)<;>first
  |exact LV
  |exact aF3 aE ht
  |exact .inl rfl
  |(refine .inr (.inl ?_);show 2<(jt c (H.nth h h.k.toNat).1).1;have:=hi.Ie (by omega);omega)
  |(refine .inr (.inl ?_);show 2<(jt c (at_ c 4 ow 0)).1;rw[(fm aE (a9 aE (by omega) ho.1 ho.2)).2.2.2];show(2:Int)<4;decide)
def aO7 (aE:Y.Ok c)(ht:0≤me.aw∧me.aw<c.t){seq:Int}{l:List (Int×Int)}(hl:(l.length:Int)≤cap c)(d:Nat):UI c (K.Hl c me.aw seq l d):=by
 refine .inr (.inl ?_);unfold K.Hl;split
 ·rw[(fm aE (jY aE ht.1 ht.2 (by omega) (by omega))).2.2.2];show(2:Int)<6;decide
 split
 ·rw[(fm aE (a9 aE (kd:=5) (by omega) ht.1 ht.2)).2.2.2];show(2:Int)<5;decide
 ·rw[(fm aE (a9 aE (kd:=4) (by omega) ht.1 ht.2)).2.2.2];show(2:Int)<4;decide
def aQ0 (aE:Y.Ok c)(ht:0≤me.aw∧me.aw<c.t){N:Int}(hK:KI c jq me N k)(hT:ap0 c jq g M rs me k)(h0:2≤k.next):UI c (K.ask c me k).1:=by
 have hn:=hK.next;unfold K.ask;rw[aq (by omega),aq (by omega)];split
 ·exact LV
 split
 ·exact LV
 split
 ·exact LV
 split
 ·rename_i h5;unfold K.sF;rcases h5 with e|e|e|e|e
  ·obtain⟨hh,a1,a2⟩:=hT.aS5 e;obtain⟨o2,s2,h2,a3,a4⟩:=hK.m4 (.inl e);rw[a1]at a3;cases a3
   rw[a1];exact aO6 aE ht a2.o a4
  ·obtain⟨hh,a1,a2⟩:=hT.Y_ e;obtain⟨o2,s2,h2,a3,a4⟩:=hK.m4 (.inr e);rw[a1]at a3;cases a3
   rw[a1];exact aO6 aE ht a2.o a4
  ·obtain⟨⟨x,a1,_⟩,_⟩:=hT.p8 e;rw[a1];exact aO5 x
  ·obtain⟨_,y,a1,_⟩:=hT.p9 e;rw[a1];exact aP9 y
  ·obtain⟨_,y,hy,hJ,JH,_,_,d,hd,_,_⟩:=hT.qx (.inl e);obtain⟨a1,a2⟩:=hd e;have hE:=hJ.xC aE (hK.b y hy).2 JH;rw[a1];dsimp only;split
   ·exact .inl rfl
   ·exact aO7 aE ht hE.el d
 split
 ·refine .inr (.inr ?_);show(jt c (at_ c 0 0 0)).1=0;rw[vQ,g8 aE]
 ·exact .inl rfl
def aI1 (aE:Y.Ok c){op:P6}(h:UI c op)(t:Int){u:Int}(hu:0≤u∧u<c.t):(∀j:Nat,j<4→(M.step t (Z.nN op)).cl (at_ c 2 u j)=M.cl (at_ c 2 u j))∧(M.step t (Z.nN op)).cl (at_ c 1 u 0)=M.cl (at_ c 1 u 0):=by
 have key:∀kd j,(kd=1∨kd=2)→Is c kd u j→(M.step t (Z.nN op)).cl (at_ c kd u j)=M.cl (at_ c kd u j):=λkd j hk hi=>by
  have hi:=fm aE hi;rcases h with h|h
  ·exact C.Qa h _
  ·refine C.kK hi.2.1 (λe=>?_);rw[show op.a=at_ c kd u j from e.symm,hi.2.2.2]at h;dsimp only at h;omega
 exact⟨λj hj=>key 2 j (.inr rfl) (NA aE hu.1 hu.2 (by omega) (by omega)),key 1 0 (.inl rfl) (a9 aE (by omega) hu.1 hu.2)⟩
end
end Go.Proofs.YtolkmchicplaoaaGreat
namespace Go.Proofs.YtolkmchicplaoaaGreat
open Go.RowKit Go.aS Go.aS.I_ Go.aS.Y
def gE (cf:af1):Int→List Z.Row→Int→Prop
 |p,[],q=>p=q
 |p,r::l,q=>r.rc=0∧r.rv=lN (cf r.aw r.tag) p∧gE cf r.rv l q
def ao6 (c:Y.cA)(cf:af1)(g:ag3)(m:C.M)(rows:List Z.Row):pM→Prop
 |none=>m.cl (X.zR c)=(0,0)∧(∀x,(X.zR c,x)∉g.E_)∧∀x∈rows,x.rc=0∧x.rv=0∧(cf x.aw x.tag).prog=1
 |some (n0,v,p0)=>1≤v∧n0≤(now m).2∧1≤n0∧(m.cl (X.zR c)=(v,n0)∨m.cl (X.zR c)=(0,0)∧busy c m∧(now m).2=n0∧(X.zR c,v)∈g.E_)∧(∀x,(X.zR c,x)∈g.E_→x=v∧(now m).2=n0)∧
  (∀x∈rows,x.rc=0∧(x.at_<p0→x.rv=0∧(cf x.aw x.tag).prog=1)∧(p0<x.at_→x.rv=v))∧gE cf 0 (rows.filter (λx=>decide (x.at_=p0))) v
section
variable {c:Y.cA} {cf:af1} {dec:pM} {g:ag3} {M M':C.M} {pk lk:Int} {me:K.Me} {k:K.St} {rs:List (Int×Int)}
def aQ1 (aE:Y.Ok c){N:Int}(hK:KI c jq me N k)(hT:ap0 c jq g M rs me k)(hv:sV c me.aw g g M M')(hA:(now M').2=(now M).2→∀u,g.D u<mZ c M u→mZ c M' u=mZ c M u)(h:ao9 c cf dec g M lk me k)(o7:k.next=10){o:O3}:ml c cf dec g M M' pk lk me k (K.tell c jq me o k):=by
 have has:=hT.ay5 (by omega) (by omega) (by omega);obtain⟨_,y,hy,hJ,JH,_,_,d,hd,_,_⟩:=hT.qx (.inl o7);obtain⟨LA,hdl⟩:=hd o7;obtain⟨y2,Yu,h2⟩:=h.qx (.inl o7);have hnr:k.ns=(now M').2→k.ns=(now M).2∧M'.cl (X.zR c)=M.cl (X.zR c)∧(now M').2=(now M).2:=λe=>by
  have h1:=(hT.ns (by omega) (by omega)).1;have hn:=hv.n;have e2:(now M').2=(now M).2:=by omega
  refine⟨by omega,?_,e2⟩;rcases hv.cell (X.zR c) (by rw[Ju aE];decide)with h4|h4
  ·exact h4
  ·exact absurd h4.1.1 (hT.st (by omega) (by omega) (by omega))
 have hp:k.ns=(now M').2→af0 c cf (M'.cl (X.zR c)).1 y2.rows y2.x.w∧∀r∈y2.rows,r.tag=mZ c M' r.aw:=λe=>by
  obtain⟨a1,a2,a3⟩:=hnr e;obtain⟨b1,b2⟩:=h2 a1;rw[a2];obtain⟨_,y3,f1,_,_,_,f2,_⟩:=hT.qx (.inl o7);rw[Yu]at f1;cases f1
  exact⟨b1,λr hr=>by rw[hA a3 r.aw (by rw[←b2 r hr];exact((f2 a1).r r hr).1)];exact b2 r hr⟩
 rw[j5 (.inr (.inr (.inr (.inl o7))))];unfold K.fX;rw[show({k with fresh:=false,eV:=false}:K.St).work= .sc (k.ns+1) (B.entries c y) d from LA];dsimp only;have key:∀a:K.St,a.asked=k.asked→a.b=k.b→a.ns=k.ns→(a.next=10∨a.next=11)→ml c cf dec g M M' pk lk me k a:=λa e1 e2 e3 e4=>
  ⟨λ_=>⟨λe=>(by rw[e1]at e;rw[e]at has;cases has),λe=>by omega,λe=>by omega,λ_ e=>by omega,λe=>by omega,λe=>by omega,λe=>by omega,λ_=>⟨y2,by rw[e2];exact Yu,λe=>hp (by rw[←e3];exact e)⟩⟩,λe=>by omega⟩
 (repeat' split)<;>first|exact key _ rfl rfl rfl (.inr rfl)|exact key _ rfl rfl rfl (.inl o7)
def af3.pos {cf:af1}:∀{l:List B.Row} {p q:Int},p≠0→af3 cf p l q→q=p∧∀r∈l,r.rc=0∧r.rv=p
 |[],_,_,_,h=>⟨h.symm,λr hr=>by cases hr⟩
 |r::l,p,q,hp,h=>by
  obtain⟨h1,h2,_,h3⟩:=h;have h4:r.rv=p:=by rw[h2];unfold lN nx;rw[aq (λe=>hp e.2)]
  rw[h4]at h3;obtain⟨h5,h6⟩:=h3.pos hp;refine⟨h5,λx hx=>?_⟩;rcases oG.1 hx with e|e
  ·rw[e];exact⟨h1,h4⟩
  ·exact h6 x e
def af3.zero {cf:af1}(fB:∀u tag,te (cf u tag)):∀{l:List B.Row},af3 cf 0 l 0→∀r∈l,r.rc=0∧r.rv=0∧(cf r.aw r.tag).prog=1
 |[],_,r,hr=>by cases hr
 |r::l,h,x,hx=>by
  obtain⟨h1,h2,_,h3⟩:=h;have h4:r.rv=0:=by
   refine Classical.byContradiction λe=>?_;have:=(h3.pos e).1;omega
  have hC:=fB r.aw r.tag;have h5:(cf r.aw r.tag).prog=1:=by
   rcases hC.1 with e|e
   ·exfalso;rw[h4]at h2;unfold lN nx at h2;rw[aB ⟨e,rfl⟩]at h2;have:=hC.2.2.1;omega
   ·exact e
  rw[h4]at h3;rcases oG.1 hx with e|e
  ·rw[e];exact⟨h1,h4,h5⟩
  ·exact af3.zero fB h3 x e
def af3.nn {cf:af1}(fB:∀u tag,te (cf u tag)):∀{l:List B.Row} {p q:Int},0≤p→af3 cf p l q→0≤q
 |[],_,_,hp,h=>by rw[←show _=_ from h];exact hp
 |r::l,p,q,hp,h=>by
  obtain⟨h1,h2,_,h3⟩:=h;refine af3.nn fB ?_ h3;rw[h2];unfold lN nx;have:=(fB r.aw r.tag).2.2.1;split<;>omega
def gE.of {cf:af1}(f:B.Row→Z.Row)(hf:∀r,(f r).rc=r.rc∧(f r).rv=r.rv∧(f r).aw=r.aw∧(f r).tag=r.tag):∀{l:List B.Row} {p q:Int},af3 cf p l q→gE cf p (l.map f) q
 |[],_,_,h=>h
 |r::l,p,q,h=>by
  obtain⟨h1,h2,_,h3⟩:=h;obtain⟨f1,f2,f3,f4⟩:=hf r;exact⟨by rw[f1];exact h1,by rw[f2,f3,f4];exact h2,by rw[f2];exact gE.of f hf h3⟩
end
end Go.Proofs.YtolkmchicplaoaaGreat
namespace Go.Proofs.YtolkmchicplaoaaGreat
open Go.RowKit Go.aS Go.aS.I_ Go.aS.Y
structure ab5 (c:Y.cA)(cf:af1)(g:ag3)(M:C.M):Prop where
 aM9:∀u,0≤u→u<c.t→mZ c M u≠0→(M.cl (at_ c 1 u 0)).1=(cf u (mZ c M u)).prog
 aN0:∀u,0≤u→u<c.t→g.D u<mZ c M u→∀j:Nat,j<4→(M.cl (at_ c 2 u j)).1=(cf u (mZ c M u)).args.getD j 0
 aO8:∀u,0≤u→u<c.t→(M.cl (at_ c 7 u 0)).1≤g.D u
structure ac0 (c:Y.cA)(cf:af1)(g:ag3)(M M':C.M)(t:Int)(tag:Int):Prop where
 oth:∀u,0≤u→u<c.t→u≠t→∀j:Nat,j<4→M'.cl (at_ c 2 u j)=M.cl (at_ c 2 u j)
 own:(M'.cl (at_ c 1 t 0)=M.cl (at_ c 1 t 0)∧((∀j:Nat,j<4→M'.cl (at_ c 2 t j)=M.cl (at_ c 2 t j))∨mZ c M t≤g.D t))∨(M'.cl (at_ c 1 t 0)=((cf t tag).prog,tag)∧mZ c M t≤g.D t∧∀j:Nat,j<4→(M'.cl (at_ c 2 t j)).1=(cf t tag).args.getD j 0)
section
variable {c:Y.cA} {cf:af1} {dec:pM} {g g':ag3} {M M':C.M} {pk lk:Int} {me:K.Me} {k:K.St} {rs:List (Int×Int)}
def aI2 {t:Int}(h:ag2 c g M)(h':ag2 c g M')(hv:sV c t g g M M'):(now M').2=(now M).2:=by
 have h1:=h'.ah0;have h2:=h.ag7 (now M').1;have:=hv.n;omega
def ab5.step (aE:Y.Ok c){t tag:Int}(hg:ag2 c g M)(hv:sV c t g g' M M')(hD:∀u,g.D u≤g'.D u)(hT:ac0 c cf g M M' t tag)(h:ab5 c cf g M):ab5 c cf g' M':=by
 have hco:∀u,0≤u→u<c.t→u≠t→M'.cl (at_ c 1 u 0)=M.cl (at_ c 1 u 0):=λu h0 h1 h2=>(hv.one u h0 h1 h2).1;have PO:∀u,0≤u→u<c.t→u≠t→mZ c M' u=mZ c M u:=λu h0 h1 h2=>by unfold mZ;rw[hco u h0 h1 h2]
 refine⟨λu h0 h1 hn=>?_,λu h0 h1 hn j hj=>?_,λu h0 h1=>?_⟩
 ·by_cases e:u=t
  ·subst e;rcases hT.own with⟨e1,_⟩|⟨e1,_⟩
   ·have e2:mZ c M' u=mZ c M u:=by unfold mZ;rw[e1]
    rw[e1,e2];rw[e2]at hn;exact h.aM9 u h0 h1 hn
   ·have e2:mZ c M' u=tag:=by unfold mZ;rw[e1]
    rw[e1,e2]
  ·rw[hco u h0 h1 e,PO u h0 h1 e];rw[PO u h0 h1 e]at hn;exact h.aM9 u h0 h1 hn
 ·have hDu:=hD u;by_cases e:u=t
  ·subst e;rcases hT.own with⟨e1,e3⟩|⟨e1,_,e3⟩
   ·have e2:mZ c M' u=mZ c M u:=by unfold mZ;rw[e1]
    rw[e2]at hn⊢;rcases e3 with e3|e3
    ·rw[e3 j hj];exact h.aN0 u h0 h1 (by omega) j hj
    ·omega
   ·have e2:mZ c M' u=tag:=by unfold mZ;rw[e1]
    rw[e2];exact e3 j hj
  ·rw[hT.oth u h0 h1 e j hj,PO u h0 h1 e];rw[PO u h0 h1 e]at hn;exact h.aN0 u h0 h1 (by omega) j hj
 ·have hDu:=hD u;have h7:7≤(jt c (at_ c 7 u 0)).1:=by rw[(fm aE (a9 aE (by omega) h0 h1)).2.2.2];show(7:Int)≤7;decide
  rcases hv.cell _ h7 with e|⟨⟨_,e⟩,_⟩
  ·rw[e];exact oJ (h.aO8 u h0 h1) hDu
  ·rw[(hg.tag u h0 h1).1 _ e];exact hDu
def aN1 (aE:Y.Ok c)(hw:0≤me.aw∧me.aw<c.t)(hg:ag2 c g M){N:Int}(hC:te me.call)(hK:KI c jq me N k)(hT:ap0 c jq g M rs me k)(h:ao9 c cf dec g M lk me k)(fB:me.call=cf me.aw me.tag)(hid:k.asked=false→mZ c M me.aw≤g.D me.aw):
 ac0 c cf g M (M.step me.aw (Z.nN (K.ask c me k).1)) me.aw me.tag∧(k.next≠1→(M.step me.aw (Z.nN (K.ask c me k).1)).cl (at_ c 1 me.aw 0)=M.cl (at_ c 1 me.aw 0)):=by
 have sg:=aE.t8;have hl:=hg.len;have hn:=hK.next;by_cases e0:k.next=0
 ·have ea:(K.ask c me k).1=⟨1,at_ c 2 me.aw k.given,0,0,me.call.args.getD k.given.toNat 0,0⟩:=by unfold K.ask;rw[aB e0]
  have Xj:=hK.given;have ZW:=hK.g0 e0;have hv:=fm aE (NA aE hw.1 hw.2 Xj.1 ZW);have e1:(M.step me.aw (Z.nN (K.ask c me k).1)).cl (at_ c 1 me.aw 0)=M.cl (at_ c 1 me.aw 0):=by
   rw[ea];exact rq aE (a9 aE (by omega) hw.1 hw.2) (by omega) (by show(1:Int)≠(jt c (at_ c 2 me.aw k.given)).1;rw[hv.2.2.2];show(1:Int)≠2;decide)
  refine⟨⟨λu h0 h1 pg j hj=>?_,.inl ⟨e1,.inr (hid ?_)⟩⟩,λ_=>e1⟩
  ·rw[ea];exact C.kK (fm aE (NA aE h0 h1 (by omega) (by omega))).2.1 (pE aE (NA aE h0 h1 (by omega) (by omega)) (.inr (.inl pg)))
  ·cases e:k.asked with
   |false=>rfl
   |true=>have:=hK.g2 e;omega
 by_cases e1:k.next=1
 ·have ea:(K.ask c me k).1=⟨1,at_ c 1 me.aw 0,0,0,IntKind.u64.wrap me.call.prog,me.tag⟩:=by unfold K.ask;rw[aq e0,aB e1]
  have hv:=fm aE (a9 aE (kd:=1) (by omega) hw.1 hw.2);have er:=BD (n:=M.cells.length) (aw:=me.aw) (op:=Z.nN (K.ask c me k).1) hw.1 (by omega) (by rw[ea];show(0:Int)≤1;decide) (by rw[ea];show(1:Int)≤3;decide) (by rw[ea];exact hv.2.1) (by rw[ea];show at_ c 1 me.aw 0<_;omega);have uV:∀u j,Is c 2 u j→(M.step me.aw (Z.nN (K.ask c me k).1)).cl (at_ c 2 u j)=M.cl (at_ c 2 u j):=λu j hi=>rq aE hi (by omega) (by rw[ea];show(2:Int)≠(jt c (at_ c 1 me.aw 0)).1;rw[hv.2.2.2];show(2:Int)≠1;decide);refine⟨⟨λu h0 h1 pg j hj=>uV u j (NA aE h0 h1 (by omega) (by omega)),.inr ⟨?_,hid ?_,λj hj=>?_⟩⟩,λe=>absurd e1 e⟩
  ·have:=C.Ee er (by rw[ea];rfl);rw[ea]at this⊢;refine this.trans ?_;show(IntKind.u64.wrap me.call.prog,me.tag)=_;rw[←fB];rcases hC.1 with e|e<;>rw[e]<;>rfl
  ·cases e:k.asked with
   |false=>rfl
   |true=>have:=hK.g2 e;omega
  ·rw[uV me.aw j (NA aE hw.1 hw.2 (by omega) (by omega)),h.g1 e1 j hj,←fB]
 ·have hna:=aQ0 aE hw hK hT (by omega);have key:=λu hu=>aI1 (M:=M) aE hna me.aw (u:=u) hu;exact⟨⟨λu h0 h1 _=>(key u ⟨h0,h1⟩).1,.inl ⟨(key _ hw).2,.inl (key _ hw).1⟩⟩,λ_=>(key _ hw).2⟩
def aN2 (aE:Y.Ok c)(ab8:∀u tag,te (cf u tag))(hm:oY me.call.prog me.call.args jq)(hw:0≤me.aw∧me.aw<c.t)(hg:ag2 c g M)(hM:MU M)(lV:(now M).2<c.la)(ur:(now M).2<c.la→∀u,0≤u→u<c.t→(u,(M.cl (at_ c 1 u 0)).2)∈rs→(M.cl (at_ c 1 u 0)).2≤g.D u){N:Int}(hK:KI c jq me N k)(hT:ap0 c jq g M rs me k)(h:ao9 c cf dec g M lk me k)(nf:KI c jq me (N+1) (K.tell c jq me (Z.o3 (M.told me.aw (Z.nN (K.ask c me k).1))) k))
 (fB:me.call=cf me.aw me.tag)(hAM:ab5 c cf g M)(yo:k.next≠13)(hd:∀n0 v p0,dec=some (n0,v,p0)→n0≤(now M).2∧p0<pk)(hv:sV c me.aw g g M (M.step me.aw (Z.nN (K.ask c me k).1)))(hA:(now (M.step me.aw (Z.nN (K.ask c me k).1))).2=(now M).2→∀u,g.D u<mZ c M u→mZ c (M.step me.aw (Z.nN (K.ask c me k).1)) u=mZ c M u)
 (kL:¬((Z.nN (K.ask c me k).1).a=0∧(Z.nN (K.ask c me k).1).k=2∧(M.told me.aw (Z.nN (K.ask c me k).1)).ok=true)):
 ml c cf dec g M (M.step me.aw (Z.nN (K.ask c me k).1)) pk lk me k (K.tell c jq me (Z.o3 (M.told me.aw (Z.nN (K.ask c me k).1))) k):=by
 have hn:=hK.next;have hC:te me.call:=by rw[fB];exact ab8 _ _
 have sg:=aE.t8;by_cases e0:k.next=0
 ·exact sa0 aE hw hg hK hT h e0
 by_cases e1:k.next=1
 ·exact sa1 e1
 by_cases e2:k.next=2
 ·have ea:(K.ask c me k).1=⟨0,0,0,0,0,0⟩:=by unfold K.ask;rw[aq e0,aq e1,aB e2,vQ]
  have h0:=(fm aE (c:=c) (kd:=0) (i:=0) (j:=0) (by unfold Is cr aP each;simp)).2.2.1;rw[vQ]at h0;obtain⟨_,_,l3,aR9⟩:=nz (M:=M) (me:=me) (g:=g) aE hw hg (a:=0) (by omega) (by omega);refine sa2 hC h e2 (λn0 v p0 e=>?_);rw[ea];rw[show(Z.o3 (M.told me.aw (Z.nN ⟨0,0,0,0,0,0⟩))).s=(now M).2 from aR9];exact hd n0 v p0 e
 by_cases e3:k.next=3
 ·exact sa3 aE hC h e3
 by_cases e4:k.next=4∨k.next=12
 ·exact sa4 aE hC h e4 hK
 by_cases e5:k.next=5∨k.next=6∨k.next=7
 ·refine aP6 hw hT h (by have:=(hT.ns (by omega) (by omega)).1;omega) e5 (λe=>?_);have hv:=fm aE (a9 aE (kd:=7) (by omega) hw.1 hw.2);have ea:(K.ask c me k).1=⟨0,at_ c 7 me.aw 0,0,0,0,0⟩:=by unfold K.ask;rw[aq e0,aq e1,aq e2,aq e3,aB e5,e];rfl
  obtain⟨_,_,l3,aR9⟩:=nz (M:=M) (me:=me) (g:=g) aE hw hg (a:=at_ c 7 me.aw 0) hv.2.1 hv.2.2.1;rw[ea,show(Z.o3 (M.told me.aw (Z.nN ⟨0,at_ c 7 me.aw 0,0,0,0,0⟩))).v=(M.cl (at_ c 7 me.aw 0)).1 from l3];exact hAM.aO8 _ hw.1 hw.2
 by_cases e8:k.next=8
 ·exact sa8 aE hC hw hg hK h e8
 by_cases e9:k.next=9
 ·exact sa9 aE ab8 hC hm hw hg hM ur hK hT h e9 nf hAM.aM9 hAM.aN0
 by_cases o7:k.next=10
 ·exact aQ1 aE hK hT hv hA h o7
 ·have qM:k.next=11:=by omega
  refine aP7 hT qM ?_;have ea:(K.ask c me k).1=⟨2,0,k.nv,k.ns,me.aw,k.ns+1⟩:=by
   unfold K.ask;rw[aq e0,aq e1,aq e2,aq e3,aq e5,aq (by omega),aB qM,vQ]
  cases e:(Z.o3 (M.told me.aw (Z.nN (K.ask c me k).1))).ok with
  |false=>rfl
  |true=>exact absurd ⟨by rw[ea];rfl,by rw[ea];rfl,e⟩ kL
end
end Go.Proofs.YtolkmchicplaoaaGreat
namespace Go.Proofs.YtolkmchicplaoaaGreat
open Go.RowKit Go.aS Go.aS.I_ Go.aS.Y
section
variable {c:Y.cA} {cf:af1} {dec NH:pM} {g g':ag3} {M M':C.M} {rows:List Z.Row} {y:B.St}
def aK5 (aE:Y.Ok c){ai:List (List In)}(hI:BI c ai y)(h:BJ c y)(hs:y.s=1)(x:Int):(X.zR c,x)∈B.entries c y↔W.look y.x.w.list (X.zR c)=some x:=by
 have hw:=h.w1 hs;have Pz:y.x.w.list.Pairwise (λa b=>a.1≠b.1):=by
  have:=hw.g.nodup;unfold W.keys at this;rwa [List.Nodup,List.pairwise_map]at this
 unfold B.entries;rw[List.mem_filter,Ef Pz];refine⟨λe=>e.1,λe=>⟨e,?_⟩⟩;unfold B.gone;dsimp only;rw[Ju aE];simp
def aN3 (aE:Y.Ok c):7≤(jt c (X.zR c)).1:=by rw[Ju aE];decide
def ao6.noW (aE:Y.Ok c){t:Int}(hg:ag2 c g M)(qF:ag2 c g M')(hv:sV c t g g M M')(h:ao6 c cf g M rows dec):ao6 c cf g M' rows dec:=by
 have hn:=aI2 hg qF hv;have hc:=hv.cell (X.zR c) (aN3 aE);cases dec with
 |none=>
  obtain⟨h1,h2,h3⟩:=h;refine⟨?_,h2,h3⟩;rcases hc with e|⟨⟨_,e⟩,_⟩
  ·rw[e];exact h1
  ·exact absurd e (h2 _)
 |some q=>
  obtain⟨n0,v,p0⟩:=q;obtain⟨h1,h2,h3,h4,h5,h6,h7⟩:=h;refine⟨h1,by omega,h3,?_,λx hx=>by rw[hn];exact h5 x hx,h6,h7⟩;rcases hc with e|⟨⟨hb,e⟩,e2,e3⟩
  ·rw[e];rcases h4 with h4|⟨h4,h8,h9,oo⟩
   ·exact .inl h4
   ·refine .inr ⟨h4,Classical.byContradiction λhb=>?_,by omega,oo⟩;have:=qF.done hb _ oo (aN3 aE);dsimp only at this;rw[e,h4]at this;dsimp only at this;omega
  ·obtain⟨e4,e5⟩:=h5 _ e;rcases h4 with h4|⟨h4,h8,h9,oo⟩
   ·rw[h4]at e2;dsimp only at e2;omega
   ·exact .inl (Prod.ext e4 (by dsimp only;omega))
def gE.rc {cf:af1}:∀{l:List Z.Row} {p q:Int},gE cf p l q→∀r∈l,r.rc=0
 |[],_,_,_,r,hr=>by cases hr
 |_::_,_,_,h,r,hr=>by
  rcases oG.1 hr with e|e
  ·rw[e];exact h.1
  ·exact gE.rc h.2.2 r e
def af3.rc {cf:af1}:∀{l:List B.Row} {p q:Int},af3 cf p l q→∀r∈l,r.rc=0
 |[],_,_,_,r,hr=>by cases hr
 |_::_,_,_,h,r,hr=>by
  rcases oG.1 hr with e|e
  ·rw[e];exact h.1
  ·exact af3.rc h.2.2.2 r e
def ao6.alone {x:Z.Row}{ns:Int}(tm:x.rc=0)(hp:(cf x.aw x.tag).prog=1)(pg:∀r∈rows,r.at_≠x.at_)(pH:∀n0 v p0,dec=some (n0,v,p0)→(n0≤ns↔p0<x.at_))(Ir:x.rv=(M.cl (X.zR c)).1)(hle:(M.cl (X.zR c)).2≤ns)(gx:ns=(now M).2→¬busy c M)(Gp:ns≤(now M).2)(h:ao6 c cf g M rows dec):ao6 c cf g M (rows++[x]) dec:=by
 cases dec with
 |none=>
  obtain⟨h1,h2,h3⟩:=h;refine⟨h1,h2,λr hr=>?_⟩;rcases jQ.1 hr with e|e
  ·exact h3 r e
  ·rw[jO]at e;subst e;exact⟨tm,by rw[Ir,h1],hp⟩
 |some q=>
  obtain⟨n0,v,p0⟩:=q;obtain⟨h1,h2,h3,h4,h5,h6,h7⟩:=h;have hn:=pH n0 v p0 rfl;have A6:x.at_≠p0:=λe=>by
   have hF:rows.filter (λx=>decide (x.at_=p0))=[]:=by
    rw[List.filter_eq_nil_iff];intro r hr;have:=pg r hr;simp;omega
   rw[hF]at h7;have h7:(0:Int)=v:=h7;omega
  refine⟨h1,h2,h3,h4,h5,λr hr=>?_,?_⟩
  ·rcases jQ.1 hr with e|e
   ·exact h6 r e
   ·rw[jO]at e;subst e;refine⟨tm,λe=>⟨?_,hp⟩,λe=>?_⟩
    ·rw[Ir];rcases h4 with h4|⟨h4,_⟩
     ·rw[h4]at hle;dsimp only at hle;omega
     ·rw[h4]
    ·rw[Ir];rcases h4 with h4|⟨h4,h8,h9,_⟩
     ·rw[h4]
     ·exact absurd h8 (gx (by omega))
  ·rw[List.filter_append,List.filter_cons_of_neg (by simpa using A6),List.filter_nil,sY];exact h7
def ao6.win (aE:Y.Ok c)(ab8:∀u tag,te (cf u tag)){t:Int}{ai:List (List In)}(hI:BI c ai y)(hJ:BJ c y)(hs:y.s=1)(hg:ag2 c g M)(hE:g'.E_=B.entries c y)(hv:sV c t g g' M M')(oR:¬busy c M)(Gs:busy c M')(Vg:(now M').2=(now M).2+1)(uX:0≤(now M).2)(L8:af0 c cf (M.cl (X.zR c)).1 y.rows y.x.w){pk:Int}(jT:∀x∈rows,x.at_<pk)(hdp:∀n0 v p0,dec=some (n0,v,p0)→p0<pk){f:B.Row→Z.Row}(hf:∀r,(f r).rc=r.rc∧(f r).rv=r.rv∧(f r).aw=r.aw∧(f r).tag=r.tag)(P7:∀r,(f r).at_=pk)(h:ao6 c cf g M rows dec):
 ∃NH,ao6 c cf g' M' (rows++y.rows.map f) NH∧(NH=dec∨∃n0 v p0,NH=some (n0,v,p0)∧dec=none∧(now M).2<n0∧pk≤p0)∧∀n0 v p0,NH=some (n0,v,p0)→p0≤pk:=by
 have xL:M'.cl (X.zR c)=M.cl (X.zR c):=by
  rcases hv.cell (X.zR c) (aN3 aE)with e|⟨⟨e,_⟩,_⟩
  ·exact e
  ·exact absurd e oR
 have aK6:∀x,(X.zR c,x)∈g'.E_↔W.look y.x.w.list (X.zR c)=some x:=by rw[hE];exact aK5 aE hI hJ hs
 obtain⟨j4,xM⟩:=L8;have al7:∀x∈y.rows.map f,∃r∈y.rows,f r=x:=λx hx=>mE.1 hx;cases dec with
 |none=>
  obtain⟨h1,h2,h3⟩:=h;rw[h1]at j4 xM;dsimp only at j4 xM;by_cases ec:cur c 0 y.x.w=0
  ·rw[ec]at j4;refine⟨none,⟨by rw[xL];exact h1,λx hx=>?_,λx hx=>?_⟩,.inl rfl,λ_ _ _ e=>by cases e⟩
   ·rw[aK6]at hx;have:=(xM x hx).2;unfold cur at ec;rw[hx]at ec;have ec:x=0:=ec;omega
   ·rcases jQ.1 hx with e|e
    ·exact h3 x e
    ·obtain⟨r,hr,rfl⟩:=al7 x e;obtain⟨f1,f2,f3,f4⟩:=hf r;rw[f1,f2,f3,f4];exact af3.zero ab8 j4 r hr
  ·have aq4:=af3.nn ab8 (iu _) j4;have Ge:W.look y.x.w.list (X.zR c)=some (cur c 0 y.x.w):=by
    unfold cur at ec⊢;cases e:W.look y.x.w.list (X.zR c)with
    |none=>rw[e]at ec;exact absurd rfl ec
    |some q=>rfl
   refine⟨some ((now M).2+1,cur c 0 y.x.w,pk),⟨by omega,by omega,by omega,.inr ⟨by rw[xL];exact h1,Gs,Vg,(aK6 _).2 Ge⟩,λx hx=>⟨?_,Vg⟩,λx hx=>?_,?_⟩,.inr ⟨_,_,_,rfl,rfl,by omega,iu _⟩,λn0 v p0 e=>?_⟩
   ·have:=(aK6 x).1 hx;rw[Ge]at this;exact(eQ this).symm
   ·rcases jQ.1 hx with e|e
    ·have:=h3 x e;have:=jT x e;exact⟨(h3 x e).1,λ_=>(h3 x e).2,λe=>by omega⟩
    ·obtain⟨r,hr,rfl⟩:=al7 x e;rw[P7];exact⟨by rw[(hf r).1];exact j4.rc r hr,λe=>by omega,λe=>by omega⟩
   ·rw[List.filter_append,List.filter_eq_nil_iff.2 (λx hx=>by have:=jT x hx;simp;omega),y_,List.filter_eq_self.2 (λx hx=>by obtain⟨r,hr,rfl⟩:=al7 x hx;rw[P7];simp)];exact gE.of f hf j4
   ·have:=Prod.mk.inj (Prod.mk.inj (eQ e)).2;omega
 |some q=>
  obtain⟨n0,v,p0⟩:=q;obtain⟨h1,h2,h3,h4,h5,h6,h7⟩:=h;have hd:=hdp n0 v p0 rfl;rcases h4 with h4|⟨_,h8,_⟩;rotate_left
  ·exact absurd h8 oR
  rw[h4]at j4 xM;dsimp only at j4 xM;obtain⟨kM,mw⟩:=j4.pos (by omega);refine⟨some (n0,v,p0),⟨h1,by omega,h3,.inl (by rw[xL];exact h4),λx hx=>?_,λx hx=>?_,?_⟩,.inl rfl,λn1 v1 p1 e=>?_⟩
  ·have:=(xM x ((aK6 x).1 hx)).1;omega
  ·rcases jQ.1 hx with e|e
   ·exact h6 x e
   ·obtain⟨r,hr,rfl⟩:=al7 x e;obtain⟨f1,f2,_,_⟩:=hf r;rw[P7,f1,f2];exact⟨(mw r hr).1,λe=>by omega,λ_=>(mw r hr).2⟩
  ·have e1:(y.rows.map f).filter (λx=>decide (x.at_=p0))=[]:=List.filter_eq_nil_iff.2 (λx hx=>by obtain⟨r,hr,rfl⟩:=al7 x hx;rw[P7];simp;omega);rw[List.filter_append,e1,sY];exact h7
  ·have:=Prod.mk.inj (Prod.mk.inj (eQ e)).2;omega
end
end Go.Proofs.YtolkmchicplaoaaGreat
namespace Go.Proofs.YtolkmchicplaoaaGreat
open Go.RowKit Go.aS Go.aS.I_ Go.aS.Y
structure ab0 (c:Y.cA)(cf:af1)(dec:pM)(g:ag3)(d:Nat)(s:Z.St):Prop where
 am:ab5 c cf g s.mem
 idle:∀(t:Nat) u,s.iB[t]?=some u→(∀me k,u.at_=some (me,k)→k.asked=false)→mZ c s.mem t≤g.D t
 th:∀(t:Nat) u me k,s.iB[t]?=some u→u.at_=some (me,k)→me.call=cf me.aw me.tag∧ao9 c cf dec g s.mem u.looked me k
 next:∀(t:Nat) u,s.iB[t]?=some u→∀(j:Nat) x,u.calls[j]?=some x→x=cf t (u.count+1+j)
 sG:∀r∈s.aM,r.call=cf r.aw r.tag
 root:ao6 c cf g s.mem s.rows dec
 aH5:∀n0 v p0,dec=some (n0,v,p0)→p0+d≤s.aK
section
variable {c:Y.cA} {cf:af1} {dec NH:pM} {g g':ag3} {s:Z.St}
def ab0.after (aE:Y.Ok c)(hH:HI c jq g 1 s)(h:ab0 c cf dec g 1 s){t:Nat}{u:Z.Th}(hu:s.iB[t]?=some u){tag:Int}{M':C.M}(hv:sV c t g g' s.mem M')(hD:∀x,g.D x≤g'.D x)(zQ:ac0 c cf g s.mem M' t tag)(hA:(now M').2=(now s.mem).2→∀u,g.D u<mZ c s.mem u→mZ c M' u=mZ c s.mem u)
 (aM8:NH=dec∨∃n0 v p0,NH=some (n0,v,p0)∧dec=none∧(now s.mem).2<n0∧s.aK≤p0){u2:Z.Th}(hc:u2.calls=u.calls)(hn:u2.count=u.count){aM:List Z.Rec}(tm:∀r∈aM,∃r0∈s.aM,r.call=r0.call∧r.aw=r0.aw∧r.tag=r0.tag)
 (as6:∀HJ k2,u2.at_=some (HJ,k2)→HJ.call=cf HJ.aw HJ.tag∧ao9 c cf NH g' M' u2.looked HJ k2)(CP:(∀me k,u2.at_=some (me,k)→k.asked=false)→mZ c M' t≤g'.D t){rows:List Z.Row}(hR:ao6 c cf g' M' rows NH)(hdp:∀n0 v p0,NH=some (n0,v,p0)→p0≤s.aK):
 ab0 c cf NH g' 0 {s with mem:=M',iB:=s.iB.set t u2,rows:=rows,aM:=aM}:=by
 have o8:=hH.n;refine⟨h.am.step aE hH.aP5 hv hD zQ,?_,?_,?_,?_,hR,λn0 v p0 e=>by have:=hdp n0 v p0 e;dsimp only;omega⟩
 ·intro t2 u3 h3 hi;rcases kU h3 with⟨rfl,rfl⟩|⟨pg,h4⟩
  ·exact CP hi
  ·have hl:=(dE.1 h4).1;have h5:=h.idle t2 u3 h4 hi;have h6:mZ c M' t2=mZ c s.mem t2:=by unfold mZ;rw[(hv.one t2 (by omega) (by omega) (by omega)).1]
   have:=hD t2;dsimp only;omega
 ·intro t2 u3 ys k3 h3 ha;rcases kU h3 with⟨rfl,rfl⟩|⟨pg,h4⟩
  ·exact as6 ys k3 ha
  ·have hl:=(dE.1 h4).1;obtain⟨h5,h6⟩:=h.th t2 u3 ys k3 h4 ha;obtain⟨h7,hw,_⟩:=hH.th t2 u3 ys k3 h4 ha;refine⟨h5,h6.move aE hv h7 hA (λj hj=>by rw[hw];exact zQ.oth t2 (by omega) (by omega) (by omega) j hj) (hD _) ?_⟩;rcases aM8 with e|⟨n0,v,p0,e1,e2,e3,e4⟩
   ·exact .inl e
   ·refine .inr ⟨n0,v,p0,e1,e2,e3,λe5=>?_⟩;have:=(hH.lk t2 u3 ys k3 h4 ha e5).1;omega
 ·intro t2 u3 h3 j x hx;rcases kU h3 with⟨rfl,rfl⟩|⟨pg,h4⟩
  ·rw[hc]at hx;rw[hn];exact h.next t2 u hu j x hx
  ·exact h.next t2 u3 h4 j x hx
 ·intro r hr;obtain⟨r0,h1,h2,h3,h4⟩:=tm r hr;rw[h2,h3,h4];exact h.sG r0 h1
def ab0.ig (aE:Y.Ok c)(ab8:∀u tag,te (cf u tag)){N:Int}(aD5:s.aK≤65536)(hM:MU s.mem)(aC6:(now s.mem).2≤4611686018427387904)(uX:0≤(now s.mem).2)(lV:(now s.mem).2<c.la)(hH:HI c jq g 1 s)(h:ab0 c cf dec g 1 s)(mJ:∀(t:Nat) u me k,s.iB[t]?=some u→u.at_=some (me,k)→KI c jq me N k∧oY me.call.prog me.call.args jq∧k.next≠13∧u.count≤s.aK)(bY:∀(t:Nat) u,s.iB[t]?=some u→u.count≤s.aK)
 {t:Nat}{u:Z.Th}(hu:s.iB[t]?=some u){me:K.Me}{k:K.St}(jT:u.at_=some (me,k)):∃g' NH,HI c jq g' 0 (Z.ig c jq t s)∧ab0 c cf NH g' 0 (Z.ig c jq t s):=by
 obtain⟨υ,DS,ξ⟩:=hH.th t u me k hu jT;obtain⟨Ki,zJ,yo,_⟩:=mJ t u me k hu jT;obtain⟨fB,Qb⟩:=h.th t u me k hu jT;have lK:t<s.iB.length:=(dE.1 hu).1;have ox:Z.iO s t=u:=by unfold Z.iO;rw[cO,hu];rfl
 have hn:=hH.n;have hw:0≤me.aw∧me.aw<c.t:=by omega
 have au6:=υ.step aE zJ hw hH.aP5 hM aC6 hH.r4 Ki yo;have h2:=hH.aH4 aE aD5 hM aC6 mJ bY hu jT rfl rfl;have J5:=hM.told me.aw (Z.nN (K.ask c me k).1);have hlen:∀y,k.b=some y→(B.entries c y).length≤65536:=λy hy=>by
  have h1:=υ.kb y hy;have h3:=(h1.1.xC aE (Ki.b y hy).2 h1.2).el;have h4:=iI aE;omega
 have hC:te me.call:=by rw[fB];exact ab8 _ _
 have hid:k.asked=false→mZ c s.mem me.aw≤g.D me.aw:=λe=>by
  rw[DS];refine h.idle t u hu (λHJ k2 e2=>?_);rw[jT]at e2;obtain⟨rfl,rfl⟩:=Prod.mk.inj (eQ e2);exact e
 obtain⟨zQ,Nu⟩:=aN1 aE hw hH.aP5 hC Ki υ Qb fB hid;have au5:k.next=2→(3:Int)≤3:=λ_=>iu _;have L5:=hH.Hw t u hu;have aQ2:3≤k.next→u.looked+1≤s.aK∧∀x∈s.rows,x.at_≠u.looked:=λe=>⟨(hH.lk t u me k hu jT e).1,(hH.lk t u me k hu jT e).2.1⟩;have qz:∀(r1:Z.Rec),r1.call=(s.aM.getD u.record.toNat Z.Hm).call→r1.aw=(s.aM.getD u.record.toNat Z.Hm).aw→r1.tag=(s.aM.getD u.record.toNat Z.Hm).tag→∀r∈s.aM.set u.record.toNat r1,∃r0∈s.aM,r.call=r0.call∧r.aw=r0.aw∧r.tag=r0.tag:=λr1 e1 e2 e3 r hr=>by
  rcases k_ hr with h5|h5
  ·exact⟨r,h5,rfl,rfl,rfl⟩
  ·by_cases hl:u.record.toNat<s.aM.length
   ·rw[cO,cy hl]at e1 e2 e3;exact⟨_,cJ hl,by rw[h5];exact e1,by rw[h5];exact e2,by rw[h5];exact e3⟩
   ·rw[List.set_eq_of_length_le (by omega)]at hr;exact⟨r,hr,rfl,rfl,rfl⟩
 have aK7:∀n0 v p0,dec=some (n0,v,p0)→n0≤(now s.mem).2∧p0<s.aK:=λn0 v p0 e=>by
  have h5:=h.aH5 n0 v p0 e;have h6:=h.root;subst e;exact⟨h6.2.1,by omega⟩
 have aI3:k.next≠1→mZ c (s.mem.step me.aw (Z.nN (K.ask c me k).1)) me.aw=mZ c s.mem me.aw:=λe=>by unfold mZ;rw[Nu e]
 have aI4:∀g2,sV c me.aw g g2 s.mem (s.mem.step me.aw (Z.nN (K.ask c me k).1))→(now (s.mem.step me.aw (Z.nN (K.ask c me k).1))).2=(now s.mem).2→∀u,g.D u<mZ c s.mem u→mZ c (s.mem.step me.aw (Z.nN (K.ask c me k).1)) u=mZ c s.mem u:=λg2 hv en u hx=>by
  by_cases hi:Is c 1 u 0
  ·have h1:=hi.1;have h3:=hi.2.1;have e:cr c 1=c.t:=by simp[cr]
   by_cases e2:u=me.aw
   ·subst e2;refine aI3 (λe3=>?_);have:k.asked=false:=by
     cases e:k.asked with
     |false=>rfl
     |true=>have:=Ki.g2 e;omega
    have:=hid this;omega
   ·unfold mZ;rw[(hv.one u h1 (by omega) e2).1]
  ·have e:at_ c 1 u 0= -1:=by unfold at_;rw[aq hi]
   unfold mZ;rw[e];exact en
 rcases au6.2.2 with h3|⟨y,h3⟩
 ·refine⟨g,dec,h2.1 (by rw[←DS];exact h3),?_⟩;have nf:KI c jq me (N+1) (K.tell c jq me (Z.o3 (s.mem.told me.aw (Z.nN (K.ask c me k).1))) k):=Ki.tell aE zJ _ J5.1 J5.2 (λe=>by
   have ea:(K.ask c me k).1=⟨0,0,0,0,0,0⟩:=by unfold K.ask;rw[aq (by omega),aq (by omega),aB e,vQ]
   have h0:=(fm aE (c:=c) (kd:=0) (i:=0) (j:=0) (by unfold Is cr aP each;simp)).2.2.1;rw[vQ]at h0;obtain⟨_,_,l3,aR9⟩:=nz (M:=s.mem) (me:=me) (g:=g) aE hw hH.aP5 (a:=0) (by omega) (by omega);rw[ea];rw[show(Z.o3 (s.mem.told me.aw (Z.nN ⟨0,0,0,0,0,0⟩))).s=(now s.mem).2 from aR9];exact aC6) hlen
  obtain⟨aP5,mv,⟨as9,C_⟩,kL,au8⟩:=h3;have hS:=aN2 (pk:=s.aK) aE ab8 zJ hw hH.aP5 hM lV hH.r4 Ki υ Qb nf fB h.am yo aK7 mv (aI4 g mv) kL;have sf:k.next=1→(K.tell c jq me (Z.o3 (s.mem.told me.aw (Z.nN (K.ask c me k).1))) k).asked=true:=λe=>by rw[DR e]
  have pe:=au6.2.1;have Fg:=aI4 g mv;clear nf h2 J5 aI4 au6;unfold Z.ig;rw[ox,jT];dsimp only;rw[←DS];generalize j_:Z.nN (K.ask c me k).1=op at*;generalize K.tell c jq me (Z.o3 (s.mem.told me.aw op)) k=k2 at*;have Gb:Z.iO {s with mem:=s.mem.step me.aw op} t=u:=ox;unfold Z.told;rw[Gb];dsimp only;rw[Ks as9,List.map_nil,sY];generalize s.mem.step me.aw op=M' at*;have rm:(t:Int)=me.aw:=DS.symm;rw[DS]at mv zQ;rcases C_ with⟨PH,aC7⟩|⟨yX,ab2⟩
  ·rw[aq PH];refine h.after (u2:={u with at_:=some (me,k2),looked:=if k2.fresh then s.aK else u.looked}) (aM:=s.aM.set u.record.toNat {s.aM.getD u.record.toNat Z.Hm with steps:=(s.aM.getD u.record.toNat Z.Hm).steps+1}) aE hH hu mv (λ_=>iu _) zQ Fg (.inl rfl) rfl rfl (qz _ rfl rfl rfl) (λHJ k3 e=>?_) (λhi=>?_) (ao6.noW aE hH.aP5 aP5 mv h.root) (λn0 v p0 e=>by have:=(aK7 n0 v p0 e).2;omega)
   ·dsimp only at e;obtain⟨rfl,rfl⟩:=Prod.mk.inj (eQ e);exact⟨fB,hS.go PH⟩
   ·have h6:=hi me k2 rfl;have h7:=aC7.hZ h6;have h8:k.asked=false:=by
     cases e:k.asked with
     |false=>rfl
     |true=>
      have h9:=υ.jl e;have oo:=mv.zI me.aw hw.1 hw.2;omega
    have h9:k.next≠1:=λe=>by rw[sf e]at h6;cases h6
    rw[rm,aI3 h9];exact hid h8
  ·rw[aB yX];have aQ3:mZ c M' t≤g.D t:=by
    rw[rm];rcases hS.en yX with⟨_,e⟩|⟨_,e,_,_,e8,_⟩
    ·have:mZ c M' me.aw≤me.tag:=by
      unfold mZ;rcases au8 with h6|h6
      ·rw[h6,ξ,DS];exact L5.1
      ·omega
     omega
    ·rw[aI3 (by omega)];exact hid e
   refine h.after (u2:={u with at_:=none,looked:=if k2.fresh then s.aK else u.looked}) (aM:=s.aM.set u.record.toNat {s.aM.getD u.record.toNat Z.Hm with steps:=(s.aM.getD u.record.toNat Z.Hm).steps+1,NN:=s.aK,done:=true,rc:=k2.rc,rv:=k2.rv}) aE hH hu mv (λ_=>iu _) zQ Fg (.inl rfl) rfl rfl (qz _ rfl rfl rfl) (λHJ k3 e=>by cases e) (λ_=>aQ3) ?_ (λn0 v p0 e=>by have:=(aK7 n0 v p0 e).2;omega);refine ao6.noW aE hH.aP5 aP5 mv ?_;split
   ·rename_i qm;rcases hS.en yX with⟨e,_⟩|⟨_,e5,e6,e7,e8,e9,o7⟩
    ·rw[qm]at e;cases e
    rw[pe,cW (by omega),aq (by decide)];refine ao6.alone (ns:=k.ns) e7 ?_ (aQ2 (by omega)).2 (Qb.ns (by omega) (by omega)) e9 o7 (υ.st (by omega) (by omega)) (υ.ns (by omega) (by omega)).1 h.root;dsimp only;rw[rm,←ξ,←fB];exact e6
   ·exact h.root
 ·have Fc:=h3.bi;have kT:=h3.nx;have has:=υ.ay5 (by omega) (by omega) (by omega);have au8:=υ.jl has;obtain⟨y2,Yu,L8⟩:=Qb.qx (.inr kT);rw[h3.kb]at Yu;obtain rfl:=eQ Yu;obtain⟨L8,Zc⟩:=L8 h3.ns;have JI:=BJ.aw (N:=N) Fc h3.aA3;have S4:=h3.bm;have as8:y.rows.map (λx=>(⟨s.aK,x.aw,IntKind.i64.wrap x.tag,x.rc,x.rv,x.news⟩:Z.Row))=y.rows.map (λx=>(⟨s.aK,x.aw,x.tag,x.rc,x.rv,x.news⟩:Z.Row)):=by
   apply List.map_congr_left;intro r hr;obtain⟨a1,a2,a3⟩:=S4.r r hr;obtain⟨b1,b2⟩:=JI r hr;have hD:=hH.aP5.af5 r.aw b1 b2;obtain⟨u3,SG⟩:∃u3,s.iB[r.aw.toNat]?=some u3:=⟨_,cy (by omega)⟩;have W9:=hH.Hw _ u3 SG;have UB:=bY _ u3 SG;have e:((r.aw.toNat:Nat):Int)=r.aw:=by omega
   rw[e]at W9;rw[R1 (by omega) (by omega)]
  have PJ:∀x,g.D x≤(aO4 c g s.mem me.aw y).D x:=aL5 (λr hr=>(S4.r r hr).1);obtain⟨NH,hR,Eg,sr⟩:=ao6.win (g':=aO4 c g s.mem me.aw y) (pk:=s.aK) (f:=λx=>(⟨s.aK,x.aw,x.tag,x.rc,x.rv,x.news⟩:Z.Row)) aE ab8 Fc h3.aA3 h3.s1 hH.aP5 rfl h3.mv h3.nbz h3.aB1 (by rw[h3.nw]) uX L8 (λx hx=>by have:=hH.L4 x hx;omega) (λn0 v p0 e=>(aK7 n0 v p0 e).2) (λ_=>⟨rfl,rfl,rfl,rfl⟩) (λ_=>rfl) h.root;refine⟨_,NH,h2.2 y (by rw[←DS];exact h3),?_⟩;have Fg:=aI4 _ h3.mv;have aI3:=aI3 (by omega);clear h2 J5 aI4 au6;unfold Z.ig;rw[ox,jT];dsimp only;rw[←DS];generalize j_:Z.nN (K.ask c me k).1=op at*;generalize K.tell c jq me (Z.o3 (s.mem.told me.aw op)) k=k2 at*;have Gb:Z.iO {s with mem:=s.mem.step me.aw op} t=u:=ox;unfold Z.told;rw[Gb];dsimp only;have rm:(t:Int)=me.aw:=DS.symm;rw[Ky h3.eV h3.b2,aq (by rw[h3.Ex];decide),as8];have hv:sV c t g (aO4 c g s.mem me.aw y) s.mem (s.mem.step me.aw op):=by rw[rm];exact h3.mv
  have h2a:k2.asked=true:=by
   cases e:k2.asked with
   |true=>rfl
   |false=>
    have h6:=(h3.tk []).hZ e;have h7:mZ c (s.mem.step me.aw op) me.aw<me.tag:=h6;have h8:mZ c s.mem me.aw=me.tag:=au8;omega
  refine h.after (u2:={u with at_:=some (me,k2),looked:=if k2.fresh then s.aK else u.looked}) (aM:=s.aM.set u.record.toNat {s.aM.getD u.record.toNat Z.Hm with steps:=(s.aM.getD u.record.toNat Z.Hm).steps+1}) aE hH hu hv PJ (by rw[rm];exact zQ) Fg Eg rfl rfl (qz _ rfl rfl rfl) (λHJ k3 e=>?_) (λhi=>?_) hR sr
  ·dsimp only at e;obtain⟨rfl,rfl⟩:=Prod.mk.inj (eQ e);have xJ:=h3.Ex;refine⟨fB,⟨λe=>(by rw[h2a]at e;cases e),λe=>by omega,λe=>by omega,λ_ e=>by omega,λe=>by omega,λ_=>?_,λe=>by omega,λe=>by omega⟩⟩;obtain⟨r,hr,N0⟩:=h3.own;have h6:=aL6 (c:=c) (g:=g) (M:=s.mem) (t:=me.aw) h3.aA3.r.ord hr;have h7:=Zc r hr;rw[N0]at h6 h7;have h8:mZ c s.mem me.aw=me.tag:=au8;omega
  ·have h6:=hi me k2 rfl;rw[h2a]at h6;cases h6
end
end Go.Proofs.YtolkmchicplaoaaGreat
namespace Go.Proofs.YtolkmchicplaoaaGreat
open Go.RowKit Go.aS Go.aS.I_ Go.aS.Y
section
variable {c:Y.cA} {cf:af1} {dec:pM} {g:ag3} {s:Z.St}
def ab0.tick (h:ab0 c cf dec g 0 s):ab0 c cf dec g 1 {s with aK:=s.aK+1}:=
 ⟨h.am,h.idle,h.th,h.next,h.sG,h.root,λn0 v p0 e=>by have:=h.aH5 n0 v p0 e;dsimp only;omega⟩
def ao9.new {t:Int}{tag:Int}{x:K.Call}(hC:te x){M:C.M}{lk:Int}:ao9 c cf dec g M lk ⟨t,tag,x⟩ (K.new jq ⟨t,tag,x⟩):=by
 have hr:=aw3 (me:=⟨t,tag,x⟩) hC;refine ao9.low (λ_ h2=>?_) ?_
 ·rcases hC.1 with e|e
  ·exfalso;unfold K.new at h2;dsimp only at h2;rw[hr,aq (by rw[show K.code jq ⟨t,tag,x⟩=Ce by unfold K.code K.bU;dsimp only;rw[e];rfl];decide)]at h2;omega
  ·exact e
 ·unfold K.new;dsimp only;split
  ·exact .inl rfl
  ·exact .inr ⟨rfl,rfl⟩
def ab0.dI (ab8:∀u tag,te (cf u tag))(h:ab0 c cf dec g 1 s){t:Nat}{u:Z.Th}(hu:s.iB[t]?=some u)(jT:u.at_=none){x:K.Call}{xs:List K.Call}(hc:u.calls=x::xs):ab0 c cf dec g 1 (Z.dI jq t s):=by
 have ox:Z.iO s t=u:=by unfold Z.iO;rw[cO,hu];rfl
 have eh:u.calls.headD ⟨0,[]⟩=x:=by rw[hc];rfl
 have e:Z.dI jq t s={s with iB:=s.iB.set t {Z.begun jq t u with record:=s.aM.length},aM:=s.aM++[⟨t,u.count+1,x,s.aK,0,0,false,0,0⟩]}:=by
  unfold Z.dI Z.EX;rw[ox,eh]
 have eb:({Z.begun jq t u with record:=s.aM.length}:Z.Th)=⟨xs,some (⟨t,u.count+1,x⟩,K.new jq ⟨t,u.count+1,x⟩),s.aM.length,u.count+1,u.looked⟩:=by
  unfold Z.begun;rw[eh,hc];rfl
 have hx:x=cf t (u.count+1):=by
  have:=h.next t u hu 0 x (by rw[hc];rfl);rw[show u.count+1+((0:Nat):Int)=u.count+1 by omega]at this;exact this
 rw[e,eb];refine⟨h.am,λt2 u3 h3 hi=>?_,λt2 u3 ys k3 h3 ha=>?_,λt2 u3 h3 j z hz=>?_,λr hr=>?_,h.root,h.aH5⟩
 ·rcases kU h3 with⟨rfl,rfl⟩|⟨pg,h4⟩
  ·exact h.idle t2 u hu (λ_ _ e=>by rw[jT]at e;cases e)
  ·exact h.idle t2 u3 h4 hi
 ·rcases kU h3 with⟨rfl,rfl⟩|⟨pg,h4⟩
  ·dsimp only at ha;obtain⟨rfl,rfl⟩:=Prod.mk.inj (eQ ha);exact⟨hx,ao9.new (by rw[hx];exact ab8 _ _)⟩
  ·exact h.th t2 u3 ys k3 h4 ha
 ·rcases kU h3 with⟨rfl,rfl⟩|⟨pg,h4⟩
  ·have:=h.next t2 u hu (j+1) z (by rw[hc];exact hz);rw[this];congr 1;dsimp only;omega
  ·exact h.next t2 u3 h4 j z hz
 ·rcases jQ.1 hr with h1|h1
  ·exact h.sG r h1
  ·rw[jO]at h1;subst h1;exact hx
def rD (c:Y.cA)(cf:af1)(s:Z.St):Prop:=SI c jq c.fi s∧∃g dec,HI c jq g 0 s∧ab0 c cf dec g 0 s
def rD.pick (aE:Y.Ok c)(hp:PI jq)(ab8:∀u tag,te (cf u tag))(uX:c.fi≤1000000000000000)(sZ:0≤c.fi)(lV:c.fi+65536<c.la)(h:rD c cf s)(t:Int):rD c cf (Z.pick c jq t s).1:=by
 obtain⟨hS,g,dec,hH,hA⟩:=h;refine aA9 aE hp uX hS hH t ⟨hS,g,dec,hH,hA⟩ λtn s2 u2 m k El aD5 e2 hu jT uw mJ bY du=>⟨du,?_⟩;have Fg:ab0 c cf dec g 1 s2:=by
  rcases El with rfl|⟨u,x,xs,h1,h3,h4,rfl⟩
  ·exact hA.tick
  ·exact hA.tick.dI ab8 h1 h3 h4
 have hn:=hS.now;have tK:=hS.aK;have h3:=uw.aP5.n;have ak8:(now s2.mem).2≤c.fi+65536:=by rw[e2];show(s.mem.at 0).2≤_;omega
 exact Fg.ig aE ab8 aD5 (by rw[e2];exact hS.mu) (by omega) (by omega) (by omega) uw mJ bY hu jT
def Q_ (calls:List (List K.Call)):af1:=λu tag=>(calls.getD u.toNat []).getD (tag.toNat-1) ⟨1,[0,0,0,0]⟩
def ab0.start (aE:Y.Ok c){calls:List (List K.Call)}(hn:(calls.length:Int)=c.t):ab0 c (Q_ calls) none ⟨λ_=>0,λ_=>c.fi,[]⟩ 0 (Z.new c calls):=by
 have ox:∀(t:Nat) u,(Z.new c calls).iB[t]?=some u→∃l,calls[t]?=some l∧u=⟨l,none,0,0,0⟩:=by
  intro t u hu;have hu:(calls.map (λl=>(⟨l,none,0,0,0⟩:Z.Th)))[t]?=some u:=hu;rw[jE]at hu;cases h2:calls[t]? with
  |none=>rw[h2]at hu;cases hu
  |some l=>rw[h2]at hu;exact⟨l,rfl,(eQ hu).symm⟩
 have au8:∀u,0≤u→u<c.t→mZ c (Z.new c calls).mem u=0:=λu h0 h1=>by
  unfold mZ;rw[show(Z.new c calls).mem=H.ju c from rfl,o9 aE (a9 aE (by omega) h0 h1) (by decide)]
 refine⟨⟨λu h0 h1 e=>absurd (au8 u h0 h1) e,λu h0 h1 e=>?_,λu h0 h1=>?_⟩,λt u hu _=>?_,λt u me k hu ha=>?_,λt u hu j x hx=>?_,λr hr=>(by cases hr),⟨?_,λx hx=>(by cases hx),λx hx=>(by cases hx)⟩,λ_ _ _ e=>(by cases e)⟩
 ·rw[au8 u h0 h1]at e;exact absurd e (by show¬(0:Int)<0;decide)
 ·rw[show(Z.new c calls).mem=H.ju c from rfl,o9 aE (a9 aE (by omega) h0 h1) (by decide)];exact iu _
 ·obtain⟨l,h1,rfl⟩:=ox t u hu;have:=(dE.1 h1).1;rw[au8 t (by omega) (by omega)];exact iu _
 ·obtain⟨l,h1,rfl⟩:=ox t u hu;cases ha
 ·obtain⟨l,h1,rfl⟩:=ox t u hu;unfold Q_;dsimp only at hx⊢;rw[dU,show((0:Int)+1+(j:Int)).toNat-1=j by omega];simp[cO,h1,hx]
 ·show(H.ju c).cl (X.zR c)=(0,0);exact o9 aE (by unfold Is cr aP each;simp) (by decide)
end
end Go.Proofs.YtolkmchicplaoaaGreat
namespace Go.Proofs.YtolkmchicplaoaaGreat
open Go.RowKit Go.aS Go.aS.I_ Go.aS.Y
def WC (x:Z.Row)(p:Int):∀{l:List Z.Row},Or.Up l→(Or.ins x l).filter (λy=>decide (y.at_=p))=l.filter (λy=>decide (y.at_=p))++[x].filter (λy=>decide (y.at_=p))
 |[],_=>by unfold Or.ins;rfl
 |y::l,h=>by
  unfold Or.Up at h;rw[sm]at h;unfold Or.ins;split
  ·rename_i e;by_cases ex:x.at_=p
   ·have e1:(y::l).filter (λy=>decide (y.at_=p))=[]:=by
     rw[List.filter_eq_nil_iff];intro z hz;rcases oG.1 hz with rfl|hz
     ·simp;omega
     ·have:=h.1 z hz;simp;omega
    rw[List.filter_cons_of_pos (by simpa using ex),e1,List.filter_cons_of_pos (by simpa using ex)];rfl
   ·have e2: [x].filter (λy=>decide (y.at_=p))=[]:=by simp[ex]
    rw[List.filter_cons_of_neg (by simpa using ex),e2,sY]
  ·by_cases ey:y.at_=p
   ·rw[List.filter_cons_of_pos (by simpa using ey),List.filter_cons_of_pos (by simpa using ey),WC x p h.2];rfl
   ·rw[List.filter_cons_of_neg (by simpa using ey),List.filter_cons_of_neg (by simpa using ey),WC x p h.2]
def ah3 (p:Int):∀(rows acc:List Z.Row),Or.Up acc→(rows.foldl (λl x=>Or.ins x l) acc).filter (λy=>decide (y.at_=p))=acc.filter (λy=>decide (y.at_=p))++rows.filter (λy=>decide (y.at_=p))
 |[],acc,_=>by simp
 |x::rows,acc,h=>by
  rw[List.foldl_cons,ah3 p rows _ (Or.aD1 x acc h),WC x p h,qP];congr 1;rw[←List.filter_append];rfl
def aB3 (rows:List Z.Row)(p:Int):(Or.sort rows).filter (λy=>decide (y.at_=p))=rows.filter (λy=>decide (y.at_=p)):=by
 have:=ah3 p rows [] (by unfold Or.Up;simp);rw[List.filter_nil,y_]at this;exact this
def aB4 (p:Int):∀{l:List Z.Row},Or.Up l→l=l.filter (λy=>decide (y.at_<p))++(l.filter (λy=>decide (y.at_=p))++l.filter (λy=>decide (p<y.at_)))
 |[],_=>rfl
 |y::l,h=>by
  unfold Or.Up at h;rw[sm]at h;have ih:=aB4 p h.2;have no:∀q:Z.Row→Bool,(∀z∈l,q z=false)→l.filter q=[]:=λq hq=>List.filter_eq_nil_iff.2 (λz hz=>by rw[hq z hz];decide);by_cases e1:y.at_<p
  ·rw[List.filter_cons_of_pos (by simpa using e1),List.filter_cons_of_neg (by simp;omega),List.filter_cons_of_neg (by simp;omega),CR,←ih]
  ·have n1:=no (λy=>decide (y.at_<p)) (λz hz=>by have:=h.1 z hz;exact cW (by omega));by_cases e2:y.at_=p
   ·rw[n1,y_]at ih;rw[List.filter_cons_of_neg (by simpa using e1),List.filter_cons_of_pos (by simpa using e2),List.filter_cons_of_neg (by simp;omega),n1,y_,CR,←ih]
   ·have n2:=no (λy=>decide (y.at_=p)) (λz hz=>by have:=h.1 z hz;exact cW (by omega));rw[n1,n2,y_,y_]at ih;rw[List.filter_cons_of_neg (by simpa using e1),List.filter_cons_of_neg (by simpa using e2),List.filter_cons_of_pos (by simp;omega),n1,n2,y_,y_,←ih]
section
variable {cf:af1}
def gE.app:∀{l l2:List Z.Row} {p q r:Int},gE cf p l q→gE cf q l2 r→gE cf p (l++l2) r
 |[],_,_,_,_,h,h2=>by cases h;exact h2
 |_::_,_,_,_,_,h,h2=>⟨h.1,h.2.1,gE.app h.2.2 h2⟩
def gE.zero:∀{l:List Z.Row},(∀x∈l,x.rc=0∧x.rv=0∧(cf x.aw x.tag).prog=1)→gE cf 0 l 0
 |[],_=>rfl
 |x::l,h=>by
  obtain⟨h1,h2,h3⟩:=h x (by simp);refine⟨h1,?_,?_⟩
  ·rw[h2];unfold lN nx;rw[aq (by omega)]
  ·rw[h2];exact gE.zero (λy hy=>h y (oB _ hy))
def gE.same {p:Int}(hp:p≠0):∀{l:List Z.Row},(∀x∈l,x.rc=0∧x.rv=p)→gE cf p l p
 |[],_=>rfl
 |x::l,h=>by
  obtain⟨h1,h2⟩:=h x (by simp);refine⟨h1,?_,?_⟩
  ·rw[h2];unfold lN nx;rw[aq (λe=>hp e.2)]
  ·rw[h2];exact gE.same hp (λy hy=>h y (oB _ hy))
def ao6.sorted {c:Y.cA}{dec:pM}{g:ag3}{m:C.M}{rows:List Z.Row}(h:ao6 c cf g m rows dec):∃q,gE cf 0 (Or.sort rows) q:=by
 have hm:∀x,x∈Or.sort rows→x∈rows:=λx hx=>(Or.kx rows).mem_iff.1 hx;cases dec with
 |none=>exact⟨0,gE.zero (λx hx=>h.2.2 x (hm x hx))⟩
 |some q=>
  obtain⟨n0,v,p0⟩:=q;obtain⟨h1,_,_,_,_,h6,h7⟩:=h;refine⟨v,?_⟩;rw[aB4 p0 (Or.aK2 rows),aB3];refine(gE.zero (λx hx=>?_)).app (h7.app (gE.same (by omega) (λx hx=>?_)))
  ·obtain⟨a1,a2⟩:=List.mem_filter.1 hx;obtain⟨b1,b2,_⟩:=h6 x (hm x a1);exact⟨b1,b2 (oC a2)⟩
  ·obtain⟨a1,a2⟩:=List.mem_filter.1 hx;obtain⟨b1,_,b2⟩:=h6 x (hm x a1);exact⟨b1,b2 (oC a2)⟩
def rD.fin {c:Y.cA}{s:Z.St}(h:rD c cf s):(∃q,gE cf 0 (Or.sort s.rows) q)∧(∀r∈s.aM,r.call=cf r.aw r.tag)∧∀x∈Or.sort s.rows,∃r∈s.aM,r.aw=x.aw∧r.tag=x.tag:=by
 obtain⟨_,g,dec,hH,hA⟩:=h;refine⟨hA.root.sorted,hA.sG,λx hx=>?_⟩;obtain⟨h1,t,u,h2,h3,h4⟩:=hH.r2 x ((Or.kx s.rows).mem_iff.1 hx);obtain⟨r,a1,a2,a3⟩:=hH.sG t u h2 x.tag h1 h4;exact⟨r,a1,by rw[a2,h3],a3⟩
end
end Go.Proofs.YtolkmchicplaoaaGreat
namespace Go.Proofs.YtolkmchicplaoaaGreat
open Go.RowKit Go.aS Go.aS.I_ Go.aS.Y
def piA:PI jq:=⟨λcode h=>by simp only[jq,oG,uP,or_false]at h;exact .inr h,by decide,by decide⟩
def aN4 {calls:List (List K.Call)}(h:∀l∈calls,∀x∈l,te x)(u tag:Int):te (Q_ calls u tag):=by
 have hd:te ⟨1,[0,0,0,0]⟩:=⟨.inr rfl,rfl,by decide,by decide⟩;unfold Q_;rw[cO,cO];cases h1:calls[u.toNat]? with
 |none=>exact hd
 |some l=>
  dsimp only[Option.getD_some];cases h2:l[tag.toNat-1]? with
  |none=>exact hd
  |some x=>exact h l (wz h1) x (wz h2)
def rD.start {c:Y.cA}(aE:Y.Ok c)(sZ:0≤c.fi){calls:List (List K.Call)}(hn:(calls.length:Int)=c.t)(hc:∀l∈calls,∀x∈l,jr x):rD c (Q_ calls) (Z.new c calls):=
 ⟨SI.start aE sZ hn hc,_,_,HI.start aE sZ hn,ab0.start aE hn⟩
