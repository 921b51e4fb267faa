/- A part of the proof. -/
import Derived.Test.YtolkmchicplaoaaGreatG11
set_option linter.all false
open Go.Proofs.Tryz
namespace Go.aS.C
def M.cl (m:M)(a:Int):Int×Int:=m.at a.toNat
def tR (m:M)(aw:Int)(op:BU)(i:Nat):(m.step aw op).at i=if err m.cells.length aw op=0∧i=op.a.toNat then gI (m.at i) op else m.at i:=by
 unfold M.step;by_cases he:err m.cells.length aw op=0
 ·rw[aB he];obtain⟨_,_,_,_,h0,h1⟩:=jV he;unfold M.at;dsimp only;by_cases e:i=op.a.toNat
  ·rw[aB ⟨he,e⟩,e,cO,eW (by omega)];rfl
  ·rw[aq (λh=>e h.2),cO,dF (λh=>e h.symm),←cO]
 ·rw[aq he,aq (λh=>he h.1)]
def Qa {m:M}{aw:Int}{op:BU}(h:op.k=0)(a:Int):(m.step aw op).cl a=m.cl a:=by
 unfold M.cl;rw[tR];split
 ·unfold gI;rw[aq (by omega),aq (by omega)]
 ·rfl
def kK {m:M}{aw:Int}{op:BU}{a:Int}(h0:0≤a)(h:a≠op.a):(m.step aw op).cl a=m.cl a:=by
 unfold M.cl;rw[tR,aq];rintro⟨he,e⟩;have:=jV he;omega
def Ee {m:M}{aw:Int}{op:BU}(he:err m.cells.length aw op=0)(hk:op.k=1):(m.step aw op).cl op.a=(op.nv,op.ns):=by
 unfold M.cl;rw[tR,aB ⟨he,rfl⟩];unfold gI;rw[aB (.inl hk)]
def Dp {m:M}{aw:Int}{op:BU}(he:err m.cells.length aw op=0)(hk:op.k=2):(m.step aw op).cl op.a=if m.cl op.a=(op.ov,op.os)then(op.nv,op.ns)else m.cl op.a:=by
 unfold M.cl;rw[tR,aB ⟨he,rfl⟩];unfold gI;split
 ·rename_i h;rw[aB (by rcases h with h|h;omega;exact h.2)]
 ·rename_i h;rw[aq (λe=>h (.inr ⟨hk,e⟩)),aq (by omega)]
def uq {m:M}{aw:Int}{op:BU}(he:err m.cells.length aw op=0):m.told aw op=ky (m.cl op.a) op:=by
 unfold M.told;rw[aB he];rfl
end Go.aS.C
namespace Go.Proofs.YtolkmchicplaoaaGreat
open Go.RowKit Go.aS Go.aS.I_ Go.aS.Y
def Qp {c kd i j}(h:Is c kd i j):at_ c kd i j=place c kd i j:=by unfold at_;rw[aB h]
def fm {c}(aE:Y.Ok c){kd i j}(h:Is c kd i j):at_ c kd i j≠-1∧0≤at_ c kd i j∧at_ c kd i j<size c∧jt c (at_ c kd i j)=(kd,i,j):=by
 have h1:=lD aE h;rw[Qp h];obtain⟨-,h2,h3⟩:=zp aE h;exact⟨by omega,h2,h3,h1⟩
def a9 {c}(aE:Y.Ok c){kd u}(hk:kd=1∨kd=3∨kd=4∨kd=5∨kd=7∨kd=8∨kd=9)(h0:0≤u)(h1:u<c.t):Is c kd u 0:=by
 unfold Is cr aP each;have:=aE.t1;refine⟨h0,?_,by omega,?_⟩
 ·repeat' split
  all_goals omega
 ·repeat' split
  all_goals omega
def jY {c}(aE:Y.Ok c){u j}(h0:0≤u)(h1:u<c.t)(h2:0≤j)(h3:j<cap c):Is c 6 u j:=by
 unfold Is cr aP each;have:=aE.t1;refine⟨h0,?_,h2,?_⟩
 ·repeat' split
  all_goals omega
 ·repeat' split
  all_goals omega
def pE {c}(aE:Y.Ok c){kd i j En i2 j2}(h:Is c kd i j)(h2:kd≠En∨i≠i2∨j≠j2):at_ c kd i j≠at_ c En i2 j2:=by
 intro e;have:=SA aE (fm aE h).1 e;omega
def ah5 {c a b}(h:(jt c a).1≠(jt c b).1):a≠b:=λe=>h (by rw[e])
def g8 {c}(aE:Y.Ok c):(jt c 0).1=0:=by
 have h5:=pL aE (c:=c) (kd:=0) (i:=0) (j:=0) (by rw[vQ];decide);rw[vQ]at h5;rw[h5]
structure ag3 where
 D:Int→Int
 L:Int→Int
 E_:List (Int×Int)
def now (m:C.M):Int×Int:=m.cl 0
def busy (c:Y.cA)(m:C.M):Prop:=m.cl (at_ c 4 (now m).1 0)=(1,(now m).2)
structure ag2 (c:Y.cA)(g:ag3)(m:C.M):Prop where
 len:(m.cells.length:Int)=size c
 o:0≤(now m).1∧(now m).1<c.t
 n:c.fi≤(now m).2∧(now m).2≤c.la
 tr:∀a,7≤(jt c a).1→(m.cl a).2≤(now m).2
 ek:∀e∈g.E_,e.1= -1∨7≤(jt c e.1).1
 en:g.E_.Pairwise (λa b=>a.1≠b.1)
 el:(g.E_.length:Int)≤cap c
 land:∀e∈g.E_,7≤(jt c e.1).1→(m.cl e.1).2=(now m).2→(m.cl e.1).1=e.2
 done:¬busy c m→∀e∈g.E_,7≤(jt c e.1).1→(m.cl e.1).2=(now m).2
 tag:∀u,0≤u→u<c.t→(∀x,(at_ c 7 u 0,x)∈g.E_→x=g.D u)∧((∀x,(at_ c 7 u 0,x)∉g.E_)→(m.cl (at_ c 7 u 0)).1=g.D u)
 log:busy c m→(m.cl (at_ c 5 (now m).1 0)).1=g.E_.length∧∀(j:Nat) (hj:j<g.E_.length),m.cl (at_ c 6 (now m).1 j)=(g.E_[j].2,IntKind.u64.wrap g.E_[j].1)
 J:∀u,0≤u→u<c.t→(m.cl (at_ c 4 u 0)).1=1→g.L u<(m.cl (at_ c 4 u 0)).2∨(u=(now m).1∧(m.cl (at_ c 4 u 0)).2=(now m).2)
 ah0:g.L (now m).1=(now m).2
 ag7:∀u,g.L u≤(now m).2
 af5:∀u,0≤u→u<c.t→0≤g.D u∧g.D u≤(m.cl (at_ c 1 u 0)).2
def ag2.Ww {c}{g:ag3}{m}(h:ag2 c g m)(hb:¬busy c m)(aE:Y.Ok c){u}(h0:0≤u)(h1:u<c.t):(m.cl (at_ c 7 u 0)).1=g.D u:=by
 by_cases e:∀x,(at_ c 7 u 0,x)∉g.E_
 ·exact(h.tag u h0 h1).2 e
 ·simp only[Classical.not_forall,sW]at e;obtain⟨x,hx⟩:=e;rw[←(h.tag u h0 h1).1 x hx];have h7:7≤(jt c (at_ c 7 u 0)).1:=by rw[(fm aE (a9 aE (by omega) h0 h1)).2.2.2];show(7:Int)≤7;decide
  exact h.land _ hx h7 (h.done hb _ hx h7)
structure nB (c:Y.cA)(m m':C.M):Prop where
 len:m'.cells.length=m.cells.length
 cl:∀a,(jt c a).1≠2→(jt c a).1≠3→0≤(jt c a).1→m'.cl a=m.cl a
def nB.now {c:Y.cA}(aE:Y.Ok c){m m':C.M}(h:nB c m m'):now m'=now m:=h.cl 0 (by rw[g8 aE];decide) (by rw[g8 aE];decide) (by rw[g8 aE];decide)
def nB.at_ {c:Y.cA}(aE:Y.Ok c){m m':C.M}(h:nB c m m'){kd i j:Int}(hi:Is c kd i j)(h0:0≤kd)(h2:kd≠2)(h3:kd≠3):m'.cl (at_ c kd i j)=m.cl (at_ c kd i j):=by
 have h4:=(fm aE hi).2.2.2;exact h.cl _ (by rw[h4];exact h2) (by rw[h4];exact h3) (by rw[h4];exact h0)
def nB.busy {c:Y.cA}(aE:Y.Ok c){m m':C.M}(h:nB c m m')(ho:0≤(Go.Proofs.YtolkmchicplaoaaGreat.now m).1∧(Go.Proofs.YtolkmchicplaoaaGreat.now m).1<c.t):busy c m'↔busy c m:=by
 unfold Go.Proofs.YtolkmchicplaoaaGreat.busy;rw[h.now aE,h.at_ aE (a9 aE (by omega) ho.1 ho.2) (by decide) (by decide) (by decide)]
def ag2.same {c}(aE:Y.Ok c){g:ag3}{m m'}(h:ag2 c g m)(hs:nB c m m'):ag2 c g m':=by
 have hn:=hs.now aE;have hb:=hs.busy aE h.o;have Y8:∀a,7≤(jt c a).1→m'.cl a=m.cl a:=λa ha=>hs.cl a (by omega) (by omega) (by omega);have one:∀kd u,(kd=1∨kd=4∨kd=5∨kd=7∨kd=8∨kd=9)→0≤u→u<c.t→m'.cl (at_ c kd u 0)=m.cl (at_ c kd u 0):=λkd u hk h0 h1=>hs.at_ aE (a9 aE (by omega) h0 h1) (by omega) (by omega) (by omega);refine⟨by rw[hs.len];exact h.len,by rw[hn];exact h.o,by rw[hn];exact h.n,λa ha=>by rw[Y8 a ha,hn];exact h.tr a ha,h.ek,h.en,h.el,λe he h7=>by rw[Y8 _ h7,hn];exact h.land e he h7,λe1 e he h7=>by rw[Y8 _ h7,hn];exact h.done (λx=>e1 (hb.2 x)) e he h7,λu h0 h1=>?_,λe1=>?_,λu h0 h1=>?_,by rw[hn];exact h.ah0,by rw[hn];exact h.ag7,λu h0 h1=>by rw[one 1 u (by omega) h0 h1];exact h.af5 u h0 h1⟩
 ·rw[one 7 u (by omega) h0 h1];exact h.tag u h0 h1
 ·rw[hn,one 5 _ (by omega) h.o.1 h.o.2];refine⟨(h.log (hb.1 e1)).1,λj hj=>?_⟩;rw[hs.at_ aE (jY aE h.o.1 h.o.2 (by omega) (by have:=h.el;omega)) (by decide) (by decide) (by decide)];exact(h.log (hb.1 e1)).2 j hj
 ·rw[one 4 u (by omega) h0 h1,hn];exact h.J u h0 h1
def Ch {c m aw op}(h:op.k=0):nB c m (m.step aw op):=⟨Nc aw op,λa _ _ _=>C.Qa h a⟩
def rB {c m aw op}(h:(jt c op.a).1=2∨(jt c op.a).1=3):nB c m (m.step aw op):=
 ⟨Nc aw op,λa h2 h3 h0=>C.kK (Js h0).1 (λe=>by rw[e]at h2 h3;omega)⟩
def Wx {c}(aE:Y.Ok c){u}(h0:0≤u)(h1:u<c.t):Vw.inner c (at_ c 7 u 0)=true:=by
 unfold Vw.inner;rw[(fm aE (a9 aE (by omega) h0 h1)).2.2.2];rfl
abbrev BK (c:Y.cA)(y:B.St):Prop:=VI c y.x.v
def BI.vs {c:Y.cA}{ai:List (List In)}{y:B.St}(h:BI c ai y):Vw.VS y.x.v:=by
 by_cases h4:y.next=4
 ·exact(h.x4 h4).1.xv.vs
 ·exact(h.xv h4).vs
def Nt (c y):(B.pass c y).x.v=y.x.v:=by unfold B.pass;split<;>rfl
def BK.A_ {c:Y.cA}{y:B.St}(h:BK c y):BK c (B.A_ c y):=by
 unfold B.A_;split
 ·exact h
 split
 ·show VI c _;rw[Nt];exact h
 ·exact h
def BK.tell {c:Y.cA}(aE:Y.Ok c){ai:List (List In)}{y:B.St}(hu:0≤y.u)(Jf:y.s=0→y.u<c.t)(h:BK c y)(seq val n:Int):BK c (B.tell c ai seq val n y):=by
 unfold B.tell;split
 ·exact h
 rename_i hs;split
 ·unfold B.mL;split
  ·exact h
  split<;>exact h
 split
 ·unfold B.je;split
  ·show VI c _;rw[Nt];exact h
  ·exact VI.cell h (Wx aE hu (Jf (by omega)))
 split
 ·unfold B.tag;split
  ·exact VI.tell h seq val n
  split
  ·show VI c _;rw[Nt];exact VI.tell h seq val n
  ·exact VI.tell h seq val n
 split
 ·split
  ·exact BK.A_ (aa8 aE _ _ _ _ h)
  ·exact h
 ·exact BK.A_ (y:={y with x:=X.tell c y.code y.args seq val n y.x}) (Wq h _ _ _ _ _)
structure ae6 (c:Y.cA)(g:ag3)(m:C.M)(rs:List (Int×Int))(y:B.St):Prop where
 r:∀r∈y.rows,g.D r.aw<r.tag∧r.tag≤(m.cl (at_ c 1 r.aw 0)).2∧(r.aw,r.tag)∉rs
 n2:y.s=0→y.next=2→0<y.an∧y.an≤(m.cl (at_ c 1 y.u 0)).2∧g.D y.u≤y.an∧(y.an≤g.D y.u∨(y.u,y.an)∉rs)∧(y.x.v.s=2∨y.x.v.step=3∧y.x.v.at_=at_ c 7 y.u 0)
 mM:y.s=0→y.next=3∨y.next=4→g.D y.u<y.an∧y.an≤(m.cl (at_ c 1 y.u 0)).2∧(y.u,y.an)∉rs
def ae6.new (c)(g:ag3)(m rs):ae6 c g m rs (B.fw c):=
 ⟨λr hr=>absurd hr (by simp[B.fw]),λ_ e=>absurd e (by show¬(0:Int)=2;decide),λ_ e=>absurd e (by show¬((0:Int)=3∨(0:Int)=4);decide)⟩
def JZ (c y):(B.pass c y).rows=y.rows:=by unfold B.pass;split<;>rfl
def ae6.pass {c}{g:ag3}{m rs y}(h:∀r∈y.rows,g.D r.aw<r.tag∧r.tag≤(m.cl (at_ c 1 r.aw 0)).2∧(r.aw,r.tag)∉rs):ae6 c g m rs (B.pass c y):=
 ⟨by rw[JZ];exact h,λ_ e=>by rw[oy]at e;omega,λ_ e=>by rw[oy]at e;omega⟩
def ae6.A_ {c}{g:ag3}{m rs y}(h4:y.next=4)(h:∀r∈y.rows,g.D r.aw<r.tag∧r.tag≤(m.cl (at_ c 1 r.aw 0)).2∧(r.aw,r.tag)∉rs)(hu:g.D y.u<y.an∧y.an≤(m.cl (at_ c 1 y.u 0)).2∧(y.u,y.an)∉rs):ae6 c g m rs (B.A_ c y):=by
 unfold B.A_;split
 ·exact⟨h,λe=>by dsimp only at e;omega,λe=>by dsimp only at e;omega⟩
 split
 ·refine ae6.pass (y:=B.ny c y) (λr hr=>?_);rcases jQ.1 (show r∈y.rows++[_]from hr)with h1|h1
  ·exact h r h1
  ·rw[jO]at h1;subst h1;exact hu
 ·exact⟨h,λ_ e=>by omega,λ_ _=>hu⟩
def ae6.tell {c:Y.cA}(aE:Y.Ok c){ai:List (List In)}{g:ag3}{m:C.M}(hg:ag2 c g m)(hb:¬busy c m){rs:List (Int×Int)}(ur:∀u,0≤u→u<c.t→(u,(m.cl (at_ c 1 u 0)).2)∈rs→(m.cl (at_ c 1 u 0)).2≤g.D u){y:B.St}(hI:BI c ai y)(h:ae6 c g m rs y){seq val n:Int}(aD3:seq=(now m).2)(h1:y.next=1→(val,n)=m.cl (at_ c 1 y.u 0))(h2:y.next=2→y.x.v.step=3→(val,n)=m.cl y.x.v.at_):ae6 c g m rs (B.tell c ai seq val n y):=by
 have BZ:=hI.bb;have kT:=hI.next;unfold B.tell;split
 ·exact h
 rename_i hs;have hs:y.s=0:=by omega
 have P_:=BZ.u;have Jf:=BZ.us hs;have hD:=hg.af5 y.u P_.1 Jf;split
 ·rename_i e0;unfold B.mL;split
  ·exact⟨h.r,λe=>by dsimp only at e;omega,λe=>by dsimp only at e;omega⟩
  split
  ·exact⟨h.r,λ_ e=>absurd e (by show¬(1:Int)=2;decide),λ_ e=>absurd e (by show¬((1:Int)=3∨(1:Int)=4);decide)⟩
  ·exact⟨h.r,λ_ e=>by dsimp only at e;omega,λ_ e=>by dsimp only at e;omega⟩
 rename_i e0;split
 ·rename_i e1;have hx:=h1 e1;have hn:n=(m.cl (at_ c 1 y.u 0)).2:=by rw[←hx]
  unfold B.je;split
  ·exact ae6.pass (y:={y with av:=val,an:=n}) h.r
  ·rename_i e2;have e2:¬n=0:=e2;refine⟨h.r,λ_ _=>⟨by dsimp only;omega,by dsimp only;omega,by dsimp only;omega,?_,?_⟩,λ_ e=>absurd e (by show¬((2:Int)=3∨(2:Int)=4);decide)⟩
   ·dsimp only;by_cases e3:(y.u,n)∈rs
    ·left;rw[hn]at e3⊢;exact ur y.u P_.1 Jf e3
    ·exact .inr e3
   ·dsimp only;unfold Vw.cell;by_cases e4:y.x.v.s=2
    ·rw[aB e4];exact .inl e4
    ·rw[aq e4];exact .inr ⟨rfl,rfl⟩
 rename_i e1;split
 ·rename_i e2;obtain⟨a1,a2,a3,a4,a5⟩:=h.n2 hs e2;unfold B.tag;split
  ·exact⟨h.r,λe=>by dsimp only at e;omega,λe=>by dsimp only at e;omega⟩
  rename_i e3;dsimp only at e3;have gx:y.x.v.step=3∧y.x.v.at_=at_ c 7 y.u 0:=by
   rcases a5 with a5|a5
   ·exfalso;have h0:y.x.v.step≠3:=by have:=hI.vs;unfold Vw.VS at this;omega
    have e:Vw.tell seq val n y.x.v=y.x.v:=by unfold Vw.tell;rw[aq h0]
    rw[e]at e3;exact e3 a5
   ·exact a5
  have hx:=h2 e2 gx.1;rw[gx.2]at hx;have hv:val=g.D y.u:=by rw[←hg.Ww hb aE P_.1 Jf,←hx]
  have hn:¬seq<n:=by
   have h5:=hg.tr (at_ c 7 y.u 0) (by rw[(fm aE (a9 aE (by omega) P_.1 Jf)).2.2.2];show(7:Int)≤7;decide);rw[←hx]at h5;dsimp only at h5;omega
  have ug:(Vw.tell seq val n y.x.v).val=val:=by
   unfold Vw.tell;rw[aB gx.1,aq hn]
  split
  ·exact ae6.pass (y:={y with x:={y.x with v:=Vw.tell seq val n y.x.v}}) h.r
  ·rename_i e4;dsimp only at e4;rw[ug,hv]at e4;refine⟨h.r,λ_ e=>absurd e (by show¬(3:Int)=2;decide),λ_ _=>⟨by dsimp only;omega,a2,?_⟩⟩;rcases a4 with a4|a4
   ·omega
   ·exact a4
 rename_i e2;split
 ·rename_i e3;have hu:=h.mM hs (.inl e3);split
  ·unfold B.dI;exact ae6.A_ rfl h.r hu
  ·exact⟨h.r,λ_ e=>by dsimp only at e;omega,λ_ _=>hu⟩
 ·rename_i e3;have e4:y.next=4:=by omega
  exact ae6.A_ (y:={y with x:=X.tell c y.code y.args seq val n y.x}) e4 h.r (h.mM hs (.inr e4))
def ae6.more {c}{g:ag3}{m m' rs QK y}(h:ae6 c g m rs y)(ha:∀u,(m.cl (at_ c 1 u 0)).2≤(m'.cl (at_ c 1 u 0)).2)(hr:∀u tag,tag≤(m.cl (at_ c 1 u 0)).2→(u,tag)∉rs→(u,tag)∉QK):ae6 c g m' QK y:=by
 refine⟨λr hx=>?_,λe1 e2=>?_,λe1 e2=>?_⟩
 ·obtain⟨a1,a2,a3⟩:=h.r r hx;exact⟨a1,oJ a2 (ha _),hr _ _ a2 a3⟩
 ·obtain⟨a1,a2,a3,a4,a5⟩:=h.n2 e1 e2;exact⟨a1,oJ a2 (ha _),a3,a4.imp id (hr _ _ a2),a5⟩
 ·obtain⟨a1,a2,a3⟩:=h.mM e1 e2;exact⟨a1,oJ a2 (ha _),hr _ _ a2 a3⟩
structure sV (c:Y.cA)(t:Int)(g g':ag3)(m m':C.M):Prop where
 n:(now m).2≤(now m').2
 same:(now m').2=(now m).2→now m'=now m∧g'.E_=g.E_∧(∀u,g'.D u=g.D u)∧(busy c m'→busy c m)
 L:∀u,g.L u≤g'.L u
 up:(now m').2≠(now m).2→¬busy c m
 cell:∀a,7≤(jt c a).1→m'.cl a=m.cl a∨((busy c m∧(a,(m'.cl a).1)∈g.E_)∧(m.cl a).2<(m'.cl a).2∧(m'.cl a).2=(now m).2)
 zI:∀u,0≤u→u<c.t→(m.cl (at_ c 1 u 0)).2≤(m'.cl (at_ c 1 u 0)).2
 one:∀u,0≤u→u<c.t→u≠t→m'.cl (at_ c 1 u 0)=m.cl (at_ c 1 u 0)∧(¬busy c m→m'.cl (at_ c 4 u 0)=m.cl (at_ c 4 u 0)∧m'.cl (at_ c 5 u 0)=m.cl (at_ c 5 u 0)∧∀j,0≤j→j<cap c→m'.cl (at_ c 6 u j)=m.cl (at_ c 6 u j))
def sV.of_same {c:Y.cA}(aE:Y.Ok c)(t:Int){g:ag3}{m m':C.M}(ho:0≤(now m).1∧(now m).1<c.t)(hs:nB c m m'):sV c t g g m m':=by
 have hn:=hs.now aE;refine⟨by rw[hn];exact iu _,λ_=>⟨hn,rfl,λ_=>rfl,(hs.busy aE ho).1⟩,λu=>iu _,λe=>absurd (by rw[hn]) e,λa ha=> .inl (hs.cl a (by omega) (by omega) (by omega)),λu h0 h1=>?_,λu h0 h1 _=>⟨?_,λ_=>⟨?_,?_,λj j0 j1=>?_⟩⟩⟩
 ·rw[hs.at_ aE (a9 aE (by omega) h0 h1) (by decide) (by decide) (by decide)];exact iu _
 ·exact hs.at_ aE (a9 aE (by omega) h0 h1) (by decide) (by decide) (by decide)
 ·exact hs.at_ aE (a9 aE (by omega) h0 h1) (by decide) (by decide) (by decide)
 ·exact hs.at_ aE (a9 aE (by omega) h0 h1) (by decide) (by decide) (by decide)
 ·exact hs.at_ aE (jY aE h0 h1 j0 j1) (by decide) (by decide) (by decide)
def sV.ge {c:Y.cA}{t:Int}{g g':ag3}{m m':C.M}(h:sV c t g g' m m'){a:Int}(ha:7≤(jt c a).1):(m.cl a).2≤(m'.cl a).2:=by
 rcases h.cell a ha with e|⟨_,e,_⟩
 ·rw[e];exact iu _
 ·omega
structure HH (c:Y.cA)(g:ag3)(m:C.M)(ow q:Int)(h:H.H):Prop where
 o:0≤ow∧ow<c.t
 qq:q≤(now m).2∧(q=(now m).2→ow=(now m).1)∧q≤g.L ow
 nc:h.next=1→h.n≤cap c
 rd1:busy c m→q=(now m).2→h.next=1→h.n=g.E_.length∧h.list=g.E_.take h.list.length
 rd2:busy c m→q=(now m).2→h.next=2→h.list=g.E_
 wk:3≤h.next→h.next≤7→busy c m→q=(now m).2→h.list=g.E_∧∀j,j<h.list.length→(h.next=7∨j<h.k.toNat)→7≤(jt c (H.nth h j).1).1→(m.cl (H.nth h j).1).2=(now m).2
 ol:3≤h.next→h.next≤7→¬(busy c m∧q=(now m).2)→∀e∈h.list,7≤(jt c e.1).1→q≤(m.cl e.1).2
 sw:h.next=6→h.cs<q∧(m.cl (H.nth h h.k.toNat).1=(h.cv,h.cs)∨q≤(m.cl (H.nth h h.k.toNat).1).2)
 fin:h.next=8→¬(busy c m∧q=(now m).2)
def QE {h j}(hj:j<h.list.length):H.nth h j∈h.list:=by
 unfold H.nth;rw[cO,cy hj];exact cJ hj
def HH.move {c t}{g g':ag3}{m m'}(qF:ag2 c g' m')(hv:sV c t g g' m m'){ow q h}(hi:H.Inv c h)(hh:HH c g m ow q h):HH c g' m' ow q h:=by
 have hn:=hv.n;obtain⟨q1,q2,q3⟩:=hh.qq;have Tw:q=(now m').2→now m'=now m∧g'.E_=g.E_∧(∀u,g'.D u=g.D u)∧(busy c m'→busy c m):=λe=>hv.same (by omega);refine⟨hh.o,⟨by omega,λe=>?_,oJ q3 (hv.L ow)⟩,hh.nc,λb e=>?_,λb e=>?_,λh3 h7 b e=>?_,λh3 h7 b x hx rj=>?_,λh6=>?_,λh8 b=>?_⟩
 ·rw[(Tw e).1];exact q2 (by omega)
 ·obtain⟨s1,s2,s3,s4⟩:=Tw e;rw[s2];exact hh.rd1 (s4 b) (by rw[←s1];exact e)
 ·obtain⟨s1,s2,s3,s4⟩:=Tw e;rw[s2];exact hh.rd2 (s4 b) (by rw[←s1];exact e)
 ·obtain⟨s1,s2,s3,s4⟩:=Tw e;obtain⟨a1,a2⟩:=hh.wk h3 h7 (s4 b) (by rw[←s1];exact e);refine⟨by rw[s2];exact a1,λj hj hk h7j=>?_⟩;have h5:=a2 j hj hk h7j;rcases hv.cell _ h7j with e1|⟨_,_,e1⟩
  ·rw[e1,s1];exact h5
  ·rw[e1,s1]
 ·by_cases hb:busy c m∧q=(now m).2
  ·by_cases Gp:(now m').2=(now m).2
   ·obtain⟨s1,s2,s3,s4⟩:=hv.same Gp;have Gs:¬busy c m':=λx=>b ⟨x,by omega⟩;have a1:=(hh.wk h3 h7 hb.1 hb.2).1;have:=qF.done Gs x (by rw[s2,←a1];exact hx) rj;omega
   ·exact absurd hb.1 (hv.up Gp)
  ·exact oJ (hh.ol h3 h7 hb x hx rj) (hv.ge rj)
 ·obtain⟨a1,a2⟩:=hh.sw h6;refine⟨a1,?_⟩;have hk:=hi.Ie (by omega);rcases hv.cell _ hk with e1|⟨_,_,e1⟩
  ·rw[e1];exact a2
  ·right;omega
 ·obtain⟨s1,s2,s3,s4⟩:=Tw b.2;exact hh.fin h8 ⟨s4 b.1,by rw[←s1];exact b.2⟩
def yr {c h}:∀g k,g+k=h.list.length→((H.gU c h g k).next=7∧∀j,k≤j→j<h.list.length→(jt c (H.nth h j).1).1<7)∨(((H.gU c h g k).next=3∨(H.gU c h g k).next=5)∧∃k2:Nat,(H.gU c h g k).k=k2∧k2<h.list.length∧∀j,k≤j→j<k2→(jt c (H.nth h j).1).1<7)
 |0,k,hk=> .inl ⟨rfl,λj h1 h2=>by omega⟩
 |g+1,k,hk=>by
  unfold H.gU;split
  ·rename_i h1;rcases yr (c:=c) (h:=h) g (k+1) (by omega)with⟨a1,a2⟩|⟨a1,k2,a2,a3,a4⟩
   ·left;refine⟨a1,λj h2 h3=>?_⟩;by_cases e:j=k
    ·rw[e];exact h1
    ·exact a2 j (by omega) h3
   ·right;refine⟨a1,k2,a2,a3,λj h2 h3=>?_⟩;by_cases e:j=k
    ·rw[e];exact h1
    ·exact a4 j (by omega) h3
  ·right;refine⟨?_,k,rfl,by omega,λj h2 h3=>by omega⟩;dsimp only;split<;>simp
def GA {c}(h k):(H.entry c h k).list=h.list∧(H.entry c h k).n=h.n:=by
 have key:∀g k,(H.gU c h g k).list=h.list∧(H.gU c h g k).n=h.n:=by
  intro g;induction g with
  |zero=>intro k;exact⟨rfl,rfl⟩
  |succ g ih=>
   intro k;unfold H.gU;split
   ·exact ih (k+1)
   ·exact⟨rfl,rfl⟩
 exact key _ _
def HH.entry {c}{g:ag3}{m ow q h}(ho:0≤ow∧ow<c.t)(hq:q≤(now m).2∧(q=(now m).2→ow=(now m).1)∧q≤g.L ow)(k)(hk:k≤h.list.length)
 (hw:busy c m→q=(now m).2→h.list=g.E_∧∀j,j<k→7≤(jt c (H.nth h j).1).1→(m.cl (H.nth h j).1).2=(now m).2)
 (hl:¬(busy c m∧q=(now m).2)→∀e∈h.list,7≤(jt c e.1).1→q≤(m.cl e.1).2):HH c g m ow q (H.entry c h k):=by
 have el:=(GA (c:=c) h k).1;have en:∀j,H.nth (H.entry c h k) j=H.nth h j:=λj=>by unfold H.nth;rw[el]
 have hs:=yr (c:=c) (h:=h) (h.list.length-k) k (by omega);have e:H.gU c h (h.list.length-k) k=H.entry c h k:=rfl;rw[e]at hs;have hn:(H.entry c h k).next=7∨(H.entry c h k).next=3∨(H.entry c h k).next=5:=by
  rcases hs with⟨a,_⟩|⟨a,_⟩
  ·exact .inl a
  ·exact .inr a
 refine⟨ho,hq,λe=>by omega,λ_ _ e=>by omega,λ_ _ e=>by omega,λ_ _ b e=>?_,λ_ _ b x hx h7=>?_,λe=>by omega,λe=>by omega⟩
 ·obtain⟨w1,w2⟩:=hw b e;refine⟨el.trans w1,λj hj uV h7=>?_⟩;rw[en]at h7⊢;rw[el]at hj;by_cases SS:j<k
  ·exact w2 j SS h7
  ·exfalso;rcases hs with⟨a1,a2⟩|⟨a1,k2,a2,a3,a4⟩
   ·have:=a2 j (by omega) hj;omega
   ·have:=a4 j (by omega) (by rcases uV with h1|h1;omega;rw[a2]at h1;omega);omega
 ·rw[el]at hx;exact hl b x hx h7
end Go.Proofs.YtolkmchicplaoaaGreat
namespace Go.Proofs.YtolkmchicplaoaaGreat
open Go.RowKit Go.aS Go.aS.I_ Go.aS.Y
def BD {n:Nat}{aw:Int}{op:C.BU}(h0:0≤aw)(h8:aw<8)(k0:0≤op.k)(k3:op.k≤3)(a0:0≤op.a)(a1:op.a<n):C.err n aw op=0:=by
 unfold C.err;rw[aq (by omega),aq (by omega),aq (by omega)]
def j3 {c:Y.cA}{m:C.M}{aw:Int}{op:C.BU}{a:Int}(h0:0≤(jt c a).1)(h:(jt c a).1≠(jt c op.a).1):(m.step aw op).cl a=m.cl a:=
 C.kK (Js h0).1 (ah5 h)
def rq {c:Y.cA}(aE:Y.Ok c){m:C.M}{aw:Int}{op:C.BU}{kd i j:Int}(hi:Is c kd i j)(h0:0≤kd)(h:kd≠(jt c op.a).1):(m.step aw op).cl (at_ c kd i j)=m.cl (at_ c kd i j):=by
 have h4:=(fm aE hi).2.2.2;exact j3 (by rw[h4];exact h0) (by rw[h4];exact h)
def Ci:∀{l:List (Int×Int)},l.Pairwise (λa b=>a.1≠b.1)→∀{e f:Int×Int},e∈l→f∈l→e.1=f.1→e=f
 |[],_,e,f,he,_,_=>by cases he
 |x::l,hp,e,f,he,hf,h=>by
  rw[sm]at hp;rcases oG.1 he with e1|e1
  ·rcases oG.1 hf with e2|e2
   ·rw[e1,e2]
   ·exact absurd (by rw[←e1];exact h) (hp.1 f e2)
  ·rcases oG.1 hf with e2|e2
   ·exact absurd (by rw[←e2];exact h.symm) (hp.1 e e1)
   ·exact Ci hp.2 e1 e2 h
section
variable {c:Y.cA} {g:ag3} {m:C.M} {aw:Int} {op:C.BU}
def ag2.ah6 (aE:Y.Ok c)(h:ag2 c g m)(he:C.err m.cells.length aw op=0)(hk:op.k=2)(hb:busy c m)(hm:(op.a,op.nv)∈g.E_)(h7:7≤(jt c op.a).1)(pH:op.ns=(now m).2)(hos:op.os<(now m).2)(hc:m.cl op.a=(op.ov,op.os)):ag2 c g (m.step aw op)∧(∀t,sV c t g g m (m.step aw op))∧(m.step aw op).cl op.a=(op.nv,op.ns)∧now (m.step aw op)=now m∧busy c (m.step aw op):=by
 have N3:(m.step aw op).cl op.a=(op.nv,op.ns):=by rw[C.Dp he hk,aB hc]
 have hn:now (m.step aw op)=now m:=j3 (by rw[g8 aE];decide) (by rw[g8 aE];omega);have o1:∀kd u,(kd=1∨kd=4∨kd=5)→0≤u→u<c.t→(m.step aw op).cl (at_ c kd u 0)=m.cl (at_ c kd u 0):=λkd u hk h0 h1=>rq (op:=op) aE (a9 aE (by omega) h0 h1) (by omega) (by omega);have aS1:∀u j,0≤u→u<c.t→0≤j→j<cap c→(m.step aw op).cl (at_ c 6 u j)=m.cl (at_ c 6 u j):=λu j h0 h1 j0 j1=>rq (op:=op) aE (jY aE h0 h1 j0 j1) (by omega) (by omega);have BZ:busy c (m.step aw op)↔busy c m:=by unfold busy;rw[hn,o1 4 _ (by omega) h.o.1 h.o.2]
 have aS4:∀x,x≠op.a→7≤(jt c x).1→(m.step aw op).cl x=m.cl x:=λx hx rj=>C.kK (Js (c:=c) (by omega)).1 hx;refine⟨⟨by rw[Nc];exact h.len,by rw[hn];exact h.o,by rw[hn];exact h.n,λx rj=>?_,h.ek,h.en,h.el,λe AT z8 hs=>?_,λx=>absurd (BZ.2 hb) x,λu h0 h1=>⟨(h.tag u h0 h1).1,λhx=>?_⟩,λ_=>?_,λu h0 h1=>?_,by rw[hn];exact h.ah0,by rw[hn];exact h.ag7,λu h0 h1=>?_⟩,λt=>⟨by rw[hn];exact iu _,λ_=>⟨hn,rfl,λ_=>rfl,BZ.1⟩,λ_=>iu _,λe=>absurd (by rw[hn]) e,λx rj=>?_,λu h0 h1=>?_,λu h0 h1 _=>⟨o1 1 u (by omega) h0 h1,λ_=>⟨o1 4 u (by omega) h0 h1,o1 5 u (by omega) h0 h1,λj j0 j1=>aS1 u j h0 h1 j0 j1⟩⟩⟩,N3,hn,BZ.2 hb⟩
 ·rw[hn];by_cases e:x=op.a
  ·rw[e,N3];dsimp only;omega
  ·rw[aS4 x e rj];exact h.tr x rj
 ·by_cases e1:e.1=op.a
  ·have:=Ci h.en AT hm e1;rw[e1,N3,this]
  ·rw[aS4 _ e1 z8]at hs⊢;rw[hn]at hs;exact h.land e AT z8 hs
 ·have e1:at_ c 7 u 0≠op.a:=λe=>hx op.nv (by rw[e];exact hm);rw[aS4 _ e1 (by rw[(fm aE (a9 aE (by omega) h0 h1)).2.2.2];show(7:Int)≤7;decide)];exact(h.tag u h0 h1).2 hx
 ·rw[hn,o1 5 _ (by omega) h.o.1 h.o.2];refine⟨(h.log hb).1,λj hj=>?_⟩;rw[aS1 _ _ h.o.1 h.o.2 (by omega) (by have:=h.el;omega)];exact(h.log hb).2 j hj
 ·rw[o1 4 u (by omega) h0 h1,hn];exact h.J u h0 h1
 ·rw[o1 1 u (by omega) h0 h1];exact h.af5 u h0 h1
 ·by_cases e:x=op.a
  ·right;rw[e,N3,hc];exact⟨⟨hb,hm⟩,by dsimp only;omega,pH⟩
  ·exact .inl (aS4 x e rj)
 ·rw[o1 1 u (by omega) h0 h1];exact iu _
def ag2.shut (aE:Y.Ok c)(h:ag2 c g m)(he:C.err m.cells.length aw op=0)(hk:op.k=2)(hb:busy c m)(ha:op.a=at_ c 4 (now m).1 0)(ho:(op.ov,op.os)=(1,(now m).2))(hv:op.nv=0)(hl:∀e∈g.E_,7≤(jt c e.1).1→(m.cl e.1).2=(now m).2):ag2 c g (m.step aw op)∧(∀t,sV c t g g m (m.step aw op))∧¬busy c (m.step aw op)∧now (m.step aw op)=now m:=by
 have h4:=(fm aE (a9 aE (kd:=4) (by omega) h.o.1 h.o.2)).2.2.2;rw[←ha]at h4;have h4':(jt c op.a).1=4:=by rw[h4]
 have N3:(m.step aw op).cl op.a=(op.nv,op.ns):=by rw[C.Dp he hk,aB (by rw[ha,ho];exact hb)]
 have hn:now (m.step aw op)=now m:=j3 (by rw[g8 aE];decide) (by rw[g8 aE];omega);have o1:∀kd u,(kd=1∨kd=5)→0≤u→u<c.t→(m.step aw op).cl (at_ c kd u 0)=m.cl (at_ c kd u 0):=λkd u hk h0 h1=>rq (op:=op) aE (a9 aE (by omega) h0 h1) (by omega) (by omega);have aS4:∀x,7≤(jt c x).1→(m.step aw op).cl x=m.cl x:=λx rj=>j3 (c:=c) (op:=op) (by omega) (by omega);have BZ:¬busy c (m.step aw op):=by
  unfold busy;rw[hn,←ha,N3,hv];intro e;have:=congrArg (·.1) e;dsimp only at this;omega
 refine⟨⟨by rw[Nc];exact h.len,by rw[hn];exact h.o,by rw[hn];exact h.n,λx rj=>by rw[aS4 x rj,hn];exact h.tr x rj,h.ek,h.en,h.el,λe AT z8=>by rw[aS4 _ z8,hn];exact h.land e AT z8,λ_ e AT z8=>by rw[aS4 _ z8,hn];exact hl e AT z8,λu h0 h1=>⟨(h.tag u h0 h1).1,λhx=>?_⟩,λe=>absurd e BZ,λu h0 h1=>?_,by rw[hn];exact h.ah0,by rw[hn];exact h.ag7,λu h0 h1=>by rw[o1 1 u (by omega) h0 h1];exact h.af5 u h0 h1⟩,λt=>⟨by rw[hn];exact iu _,λ_=>⟨hn,rfl,λ_=>rfl,λe=>absurd e BZ⟩,λ_=>iu _,λe=>absurd (by rw[hn]) e,λx rj=> .inl (aS4 x rj),λu h0 h1=>by rw[o1 1 u (by omega) h0 h1];exact iu _,λu h0 h1 _=>⟨o1 1 u (by omega) h0 h1,λe=>absurd hb e⟩⟩,BZ,hn⟩
 ·rw[aS4 _ (by rw[(fm aE (a9 aE (by omega) h0 h1)).2.2.2];show(7:Int)≤7;decide)];exact(h.tag u h0 h1).2 hx
 ·rw[hn];by_cases e:u=(now m).1
  ·intro e1;rw[e,←ha,N3,hv]at e1;dsimp only at e1;omega
  ·rw[C.kK (fm aE (a9 aE (by omega) h0 h1)).2.1 (by rw[ha];exact pE aE (a9 aE (by omega) h0 h1) (.inr (.inl e)))];exact h.J u h0 h1
end
def Dq {c}(aE:Y.Ok c){a}(h:a= -1∨7≤(jt c a).1):H.placeOf (IntKind.u64.wrap a)=a:=by
 obtain⟨r0,r1,r2,r3,r4,r5,r6,r7,r8,r9,u6,tF,tG⟩:=row aE;unfold H.placeOf;rw[ir];rcases h with h|h
 ·subst h;rw[aB (by decide)]
 ·have:=Js (c:=c) (p:=a) (by omega);rw[aq (by omega)];omega
def yg {c m aw op}(hk:op.k=2)(hc:m.cl op.a≠(op.ov,op.os)):nB c m (m.step aw op):=by
 refine⟨Nc aw op,λa _ _ _=>?_⟩;unfold C.M.cl;rw[C.tR];split
 ·rename_i h;unfold C.gI;rw[aq,aq (by omega)];rintro(e|⟨_,e⟩)
  ·omega
  ·rw[h.2]at e;exact hc e
 ·rfl
def HH.step{c}(aE:Y.Ok c){g:ag3}{m}(hg:ag2 c g m)(hm:MU m){t}(ht:0≤t∧t<c.t){ow q h}(hi:H.Inv c h)(hh:HH c g m ow q h):C.err m.cells.length t (Z.nN (H.ask c t ow q h).1)=0∧ag2 c g (m.step t (Z.nN (H.ask c t ow q h).1))∧(∀t2,sV c t2 g g m (m.step t (Z.nN (H.ask c t ow q h).1)))∧¬((Z.nN (H.ask c t ow q h).1).a=0∧(Z.nN (H.ask c t ow q h).1).k=2)∧HH c g (m.step t (Z.nN (H.ask c t ow q h).1)) ow q (H.tell c q (m.told t (Z.nN (H.ask c t ow q h).1)).v (m.told t (Z.nN (H.ask c t ow q h).1)).s h):=by
 have sg:=aE.t8;have hlen:=hg.len;have XV:=hg.el;have mV:=hi.rE;obtain⟨g1,g2,g3,g4,g5,g6⟩:=id mV;have quiet:∀(op:C.BU) (h2:H.H),C.err m.cells.length t op=0→nB c m (m.step t op)→¬(op.a=0∧op.k=2)→HH c g m ow q h2→H.Inv c h2→C.err m.cells.length t op=0∧ag2 c g (m.step t op)∧(∀t2,sV c t2 g g m (m.step t op))∧¬(op.a=0∧op.k=2)∧HH c g (m.step t op) ow q h2:=λop h2 e1 e2 e5 e3 e4=>by
  have a1:=hg.same aE e2;have a2:=λt2=>sV.of_same (g:=g) aE t2 hg.o e2;exact⟨e1,a1,a2,e5,e3.move a1 (a2 t) e4⟩
 have isO:=a9 aE (kd:=4) (by omega) hh.o.1 hh.o.2;have is5:=a9 aE (kd:=5) (by omega) hh.o.1 hh.o.2;have CE:m.cl (at_ c 4 ow 0)=(1,q)→busy c m∧q=(now m).2:=λe=>by
  rcases hg.J ow hh.o.1 hh.o.2 (by rw[e])with h1|⟨h1,h2⟩
  ·rw[e]at h1;have:=hh.qq.2.2;dsimp only at h1;omega
  ·rw[e]at h2;dsimp only at h2;refine⟨?_,h2⟩;unfold busy;rw[←h1,e,h2]
 have yi:busy c m∧q=(now m).2→m.cl (at_ c 4 ow 0)=(1,q):=fun⟨e1,e2⟩=>by
  rw[hh.qq.2.1 e2];rw[e2];exact e1
 have tv:∀op:C.BU,0≤(m.told t op).v:=λop=>(hm.told t op).1.1;have D3:∀op:C.BU,H.Inv c (H.tell c q (m.told t op).v (m.told t op).s h):=λop=>H.Qo aE hi _ _ (tv op);have load:∀a,0≤a→a<size c→C.err m.cells.length t ⟨0,a,0,0,0,0⟩=0∧nB c m (m.step t ⟨0,a,0,0,0,0⟩)∧(m.told t ⟨0,a,0,0,0,0⟩).v=(m.cl a).1∧(m.told t ⟨0,a,0,0,0,0⟩).s=(m.cl a).2:=λa a0 a1=>by
  have e:=BD (n:=m.cells.length) (aw:=t) (op:=⟨0,a,0,0,0,0⟩) ht.1 (by omega) (by dsimp only;omega) (by dsimp only;omega) a0 (by dsimp only;omega);exact⟨e,Ch rfl,by rw[C.uq e];rfl,by rw[C.uq e];rfl⟩
 have vA:∀a,7≤(jt c a).1→0≤a∧a<size c:=λa h7=>Js (by omega);obtain⟨w1,w2⟩:=hi.Wd;by_cases e0:h.next=0;refine ?Z;rotate_left;refine ?Y
 case' Z=>
  have e:(H.ask c t ow q h).1=⟨0,at_ c 5 ow 0,0,0,0,0⟩:=by unfold H.ask;rw[aB e0]
  rw[e];have hv:=fm aE is5;obtain⟨l1,l2,l3,aR9⟩:=load (at_ c 5 ow 0) hv.2.1 hv.2.2.1;refine quiet _ _ l1 l2 (λe=>absurd e.2 (by show¬(0:Int)=2;decide)) ?_ (D3 _);show HH c g m ow q (H.tell c q (m.told t ⟨0,at_ c 5 ow 0,0,0,0,0⟩).v (m.told t ⟨0,at_ c 5 ow 0,0,0,0,0⟩).s h);rw[l3,aR9];have Ip:=hi.nil e0;have et:H.tell c q (m.cl (at_ c 5 ow 0)).1 (m.cl (at_ c 5 ow 0)).2 h=H.read {h with n:=min (m.cl (at_ c 5 ow 0)).1 (cap c)}:=by unfold H.tell;rw[aB e0]
  rw[et];have hE:busy c m→q=(now m).2→min (m.cl (at_ c 5 ow 0)).1 (cap c)=g.E_.length:=λb e1=>by
   rw[hh.qq.2.1 e1,(hg.log b).1];omega
  unfold H.read;dsimp only;rw[Ip]
 case' Z=>
  split
  ·rename_i e1;refine⟨hh.o,hh.qq,λe2=>by dsimp only at e2;omega,λ_ _ e2=>by dsimp only at e2;omega,λb e2 _=>?_,λe2=>by dsimp only at e2;omega,λe2=>by dsimp only at e2;omega,λe2=>by dsimp only at e2;omega,λe2=>by dsimp only at e2;omega⟩;have e3:=hE b e2;rw[e3]at e1;have e1:((0:Nat):Int)=g.E_.length:=e1;exact(nJ (by omega)).symm
  ·exact⟨hh.o,hh.qq,λ_=>by dsimp only;omega,λb e2 _=>⟨hE b e2,by simp⟩,λ_ _ e2=>by dsimp only at e2;omega,λe2=>by dsimp only at e2;omega,λe2=>by dsimp only at e2;omega,λe2=>by dsimp only at e2;omega,λe2=>by dsimp only at e2;omega⟩
 by_cases e1:h.next=1;refine ?X;rotate_left;refine ?J
 case' X=>
  have e:(H.ask c t ow q h).1=⟨0,at_ c 6 ow h.list.length,0,0,0,0⟩:=by unfold H.ask;rw[aq e0,aB e1]
  rw[e];have o8:=g3 e1;have Sv:=hh.nc e1;have hv:=fm aE (jY aE hh.o.1 hh.o.2 (j:=h.list.length) (by omega) (by omega));obtain⟨l1,l2,l3,aR9⟩:=load (at_ c 6 ow h.list.length) hv.2.1 hv.2.2.1;refine quiet _ _ l1 l2 (λe=>absurd e.2 (by show¬(0:Int)=2;decide)) ?_ (D3 _);show HH c g m ow q (H.tell c q (m.told t ⟨0,at_ c 6 ow h.list.length,0,0,0,0⟩).v (m.told t ⟨0,at_ c 6 ow h.list.length,0,0,0,0⟩).s h);rw[l3,aR9];have et:H.tell c q (m.cl (at_ c 6 ow h.list.length)).1 (m.cl (at_ c 6 ow h.list.length)).2 h=H.read {h with list:=h.list++[(H.placeOf (m.cl (at_ c 6 ow h.list.length)).2,(m.cl (at_ c 6 ow h.list.length)).1)]}:=by unfold H.tell;rw[aq e0,aB e1]
  rw[et];have hE:busy c m→q=(now m).2→h.n=g.E_.length∧h.list++[(H.placeOf (m.cl (at_ c 6 ow h.list.length)).2,(m.cl (at_ c 6 ow h.list.length)).1)]=g.E_.take (h.list.length+1):=λb e2=>by
   obtain⟨b1,b2⟩:=hh.rd1 b e2 e1;refine⟨b1,?_⟩;have tH:h.list.length<g.E_.length:=by omega
   have h3:=(hg.log b).2 h.list.length tH;rw[←hh.qq.2.1 e2]at h3;rw[h3];dsimp only;rw[Dq aE (hg.ek _ (cJ tH)),wj tH,←b2]
  unfold H.read;dsimp only;rw[eE,List.length_singleton]
 case' X=>
  split
  ·rename_i e2;refine⟨hh.o,hh.qq,λe3=>by dsimp only at e3;omega,λ_ _ e3=>by dsimp only at e3;omega,λb e3 _=>?_,λe3=>by dsimp only at e3;omega,λe3=>by dsimp only at e3;omega,λe3=>by dsimp only at e3;omega,λe3=>by dsimp only at e3;omega⟩;obtain⟨b1,b2⟩:=hE b e3;dsimp only;rw[b2,oA (by omega)]
  ·refine⟨hh.o,hh.qq,λ_=>Sv,λb e3 _=>?_,λ_ _ e3=>by dsimp only at e3;omega,λe3=>by dsimp only at e3;omega,λe3=>by dsimp only at e3;omega,λe3=>by dsimp only at e3;omega,λe3=>by dsimp only at e3;omega⟩;obtain⟨b1,b2⟩:=hE b e3;dsimp only;rw[eE,List.length_singleton];exact⟨b1,b2⟩
 have hO:=fm aE isO;obtain⟨lo1,lo2,lo3,lo4⟩:=load (at_ c 4 ow 0) hO.2.1 hO.2.2.1;have dec:decide ((m.cl (at_ c 4 ow 0)).1=1∧(m.cl (at_ c 4 ow 0)).2=q)=true↔m.cl (at_ c 4 ow 0)=(1,q):=by
  rw[gG];constructor
  ·rintro⟨a1,a2⟩;exact Prod.ext a1 a2
  ·intro e;rw[e];exact⟨rfl,rfl⟩
 have GB:∀h2:H.H,h2.next=8→¬(busy c m∧q=(now m).2)→HH c g m ow q h2:=λh2 e3 e4=>
  ⟨hh.o,hh.qq,λe=>by omega,λ_ _ e=>by omega,λ_ _ e=>by omega,λ_ e=>by omega,λ_ e=>by omega,λe=>by omega,λ_=>e4⟩
 by_cases e2:h.next=2;refine ?G;rotate_left;refine ?D
 case' D=>
  have wkc:∀h2:H.H,3≤h.next→h.next<7→h2.list=h.list→h2.k=h.k→3≤h2.next→h2.next<6→HH c g m ow q h2:=λh2 n3 n7 el ek h3 h6=>by
   have en:∀j,H.nth h2 j=H.nth h j:=λj=>by unfold H.nth;rw[el]
   refine⟨hh.o,hh.qq,λe=>by omega,λ_ _ e=>by omega,λ_ _ e=>by omega,λ_ _ b e=>?_,λ_ _ b x hx=>?_,λe=>by omega,λe=>by omega⟩
   ·obtain⟨a1,a2⟩:=hh.wk n3 (by omega) b e;refine⟨el.trans a1,λj hj hk=>?_⟩;rw[en];exact a2 j (by rw[←el];exact hj) (by rcases hk with hk|hk;omega;rw[ek]at hk;exact .inr hk)
   ·rw[el]at hx;exact hh.ol n3 (by omega) b x hx
 case' D=>by_cases e3:h.next=3;refine ?V;rotate_left;refine ?U
 case' U=>by_cases e4:h.next=4;refine ?g0;rotate_left;refine ?g1
 case' G=>have e:(H.ask c t ow q h).1=⟨0,at_ c 4 ow 0,0,0,0,0⟩:=by unfold H.ask;rw[aq e0,aq e1,aB (.inl e2)]
 case' g0=>have e:(H.ask c t ow q h).1=⟨0,at_ c 4 ow 0,0,0,0,0⟩:=by unfold H.ask;rw[aq e0,aq e1,aB (.inr e4)]
 case' G|g0=>rw[e];refine quiet _ _ lo1 lo2 (λe=>absurd e.2 (by show¬(0:Int)=2;decide)) ?_ (D3 _);show HH c g m ow q (H.tell c q (m.told t ⟨0,at_ c 4 ow 0,0,0,0,0⟩).v (m.told t ⟨0,at_ c 4 ow 0,0,0,0,0⟩).s h);rw[lo3,lo4]
 case' G=>
  have et:H.tell c q (m.cl (at_ c 4 ow 0)).1 (m.cl (at_ c 4 ow 0)).2 h=H.zw (decide ((m.cl (at_ c 4 ow 0)).1=1∧(m.cl (at_ c 4 ow 0)).2=q)) (H.entry c h 0):=by unfold H.tell;rw[aq e0,aq e1,aB e2]
  rw[et];unfold H.zw
 case' g0=>
  have et:H.tell c q (m.cl (at_ c 4 ow 0)).1 (m.cl (at_ c 4 ow 0)).2 h=H.zw (decide ((m.cl (at_ c 4 ow 0)).1=1∧(m.cl (at_ c 4 ow 0)).2=q)) {h with held:=(jt c (H.nth h h.k.toNat).1).2.1,next:=5}:=by unfold H.tell;rw[aq e0,aq e1,aq e2,aq e3,aB e4]
  rw[et];unfold H.zw
 case' g0=>split;refine ?g2;rotate_left;refine ?g3
 case' G=>
  split
  ·rename_i e3;have hb:=CE (dec.1 e3);exact HH.entry hh.o hh.qq 0 (cE _) (λb e4=>⟨hh.rd2 b e4 e2,λj hj=>by omega⟩) (λx=>absurd hb x)
  ·rename_i e3;exact GB _ rfl (λx=>e3 (dec.2 (yi x)))
 case' V=>
  have e:(H.ask c t ow q h).1=⟨1,at_ c 3 t 0,0,0,H.nameOf (jt c (H.nth h h.k.toNat).1).2.1,0⟩:=by unfold H.ask;rw[aq e0,aq e1,aq (by omega),aB e3]
  rw[e];have hv:=fm aE (a9 aE (kd:=3) (by omega) ht.1 ht.2);have er:=BD (n:=m.cells.length) (aw:=t) (op:=⟨1,at_ c 3 t 0,0,0,H.nameOf (jt c (H.nth h h.k.toNat).1).2.1,0⟩) ht.1 (by omega) (by dsimp only;omega) (by dsimp only;omega) hv.2.1 (by dsimp only;omega);refine quiet _ _ er (rB (.inr (by show(jt c (at_ c 3 t 0)).1=3;rw[hv.2.2.2]))) (λe=>absurd e.2 (by show¬(1:Int)=2;decide)) ?_ (D3 _);have et:∀v s,H.tell c q v s h={h with held:= -1,next:=4}:=λv s=>by unfold H.tell;rw[aq e0,aq e1,aq e2,aB e3]
  rw[et]
 case' V|g2=>exact wkc _ (by omega) (by omega) rfl rfl (by dsimp only;omega) (by dsimp only;omega)
 case' g3=>rename_i e5
 case' g3=>exact GB _ rfl (λx=>e5 (dec.2 (yi x)))
 by_cases e5:h.next=5
 ·have PV:=hi.Ie (by omega);have fu:=g6 (by omega);have e:(H.ask c t ow q h).1=⟨0,(H.nth h h.k.toNat).1,0,0,0,0⟩:=by unfold H.ask;rw[aq e0,aq e1,aq (by omega),aq e3,aB e5]
  rw[e];obtain⟨l1,l2,l3,aR9⟩:=load (H.nth h h.k.toNat).1 (vA _ PV).1 (vA _ PV).2;refine quiet _ _ l1 l2 (λe=>absurd e.2 (by show¬(0:Int)=2;decide)) ?_ (D3 _);show HH c g m ow q (H.tell c q (m.told t ⟨0,(H.nth h h.k.toNat).1,0,0,0,0⟩).v (m.told t ⟨0,(H.nth h h.k.toNat).1,0,0,0,0⟩).s h);rw[l3,aR9];generalize hv:(m.cl (H.nth h h.k.toNat).1).1=v;generalize hs:(m.cl (H.nth h h.k.toNat).1).2=s;have et:H.tell c q v s h=if q≤s then H.entry c {h with cv:=v,cs:=s,next:=6} (h.k.toNat+1)else{h with cv:=v,cs:=s,next:=6}:=by unfold H.tell;rw[aq e0,aq e1,aq e2,aq e3,aq e4,aB e5]
  rw[et];have k9:=hg.tr _ PV;split
  ·rename_i e6;refine HH.entry (h:={h with cv:=v,cs:=s,next:=6}) hh.o hh.qq (h.k.toNat+1) (by dsimp only;omega) (λb e7=>?_) (λb x hx=>hh.ol (by omega) (by omega) b x hx);obtain⟨a1,a2⟩:=hh.wk (by omega) (by omega) b e7;refine⟨a1,λj hj h7=>?_⟩;show(m.cl (H.nth h j).1).2=_;by_cases ej:j=h.k.toNat
   ·rw[ej];omega
   ·exact a2 j (by omega) (.inr (by omega)) h7
  ·refine⟨hh.o,hh.qq,λe=>by dsimp only at e;omega,λ_ _ e=>by dsimp only at e;omega,λ_ _ e=>by dsimp only at e;omega,λ_ _ b e7=>?_,λ_ _ b x hx=>hh.ol (by omega) (by omega) b x hx,λ_=>⟨by dsimp only;omega,.inl (Prod.ext hv hs)⟩,λe=>by dsimp only at e;omega⟩;obtain⟨a1,a2⟩:=hh.wk (by omega) (by omega) b e7;exact⟨a1,λj hj hk=>a2 j hj (.inr (by rcases hk with hk|hk;dsimp only at hk;omega;exact hk))⟩
 by_cases e6:h.next=6
 ·have PV:=hi.Ie (by omega);have fu:=g6 (by omega);obtain⟨s1,s2⟩:=hh.sw e6;have al7:=QE (h:=h) (j:=h.k.toNat) (by omega);have e:(H.ask c t ow q h).1=⟨2,(H.nth h h.k.toNat).1,h.cv,h.cs,(H.nth h h.k.toNat).2,q⟩:=by unfold H.ask;rw[aq e0,aq e1,aq (by omega),aq e3,aq e5,aB e6]
  rw[e];have et:∀v s,H.tell c q v s h=H.entry c h (h.k.toNat+1):=λv s=>by unfold H.tell;rw[aq e0,aq e1,aq e2,aq e3,aq e4,aq e5,aB e6]
  have er:=BD (n:=m.cells.length) (aw:=t) (op:=⟨2,(H.nth h h.k.toNat).1,h.cv,h.cs,(H.nth h h.k.toNat).2,q⟩) ht.1 (by omega) (by dsimp only;omega) (by dsimp only;omega) (vA _ PV).1 (by have:=(vA _ PV).2;dsimp only;omega);have k9:=hg.tr _ PV;have pg:¬((H.nth h h.k.toNat).1=0∧(2:Int)=2):=λe=>by rw[e.1,g8 aE]at PV;omega
  by_cases hc:m.cl (H.nth h h.k.toNat).1=(h.cv,h.cs)
  ·have hb:busy c m∧q=(now m).2:=by
    refine Classical.byContradiction λb=>?_;have:=hh.ol (by omega) (by omega) b _ al7 PV;rw[hc]at this;dsimp only at this;omega
   obtain⟨a1,a2⟩:=hh.wk (by omega) (by omega) hb.1 hb.2;obtain⟨b1,b2,b3,b4,b5⟩:=hg.ah6 (op:=⟨2,(H.nth h h.k.toNat).1,h.cv,h.cs,(H.nth h h.k.toNat).2,q⟩) aE er rfl hb.1 (by rw[←a1];exact al7) PV hb.2 (by dsimp only;omega) hc;refine⟨er,b1,b2,pg,?_⟩;rw[et];show HH c g (m.step t ⟨2,(H.nth h h.k.toNat).1,h.cv,h.cs,(H.nth h h.k.toNat).2,q⟩) ow q _;refine HH.entry hh.o (by rw[b4];exact hh.qq) (h.k.toNat+1) (by omega) (λb e7=>⟨a1,λj hj h7=>?_⟩) (λb=>absurd ⟨b5,by rw[b4];exact hb.2⟩ b);rw[b4];by_cases ej:j=h.k.toNat
   ·rw[ej,b3];exact hb.2
   ·have h8:=a2 j (by omega) (.inr (by omega)) h7;rcases(b2 t).cell _ h7 with e8|⟨_,_,e8⟩
    ·rw[e8];exact h8
    ·exact e8
  ·refine quiet _ _ er (yg rfl hc) pg ?_ (D3 _);rw[et];refine HH.entry hh.o hh.qq (h.k.toNat+1) (by omega) (λb e7=>?_) (λb x hx=>hh.ol (by omega) (by omega) b x hx);obtain⟨a1,a2⟩:=hh.wk (by omega) (by omega) b e7;refine⟨a1,λj hj h7=>?_⟩;by_cases ej:j=h.k.toNat
   ·rw[ej];rcases s2 with s2|s2
    ·exact absurd s2 hc
    ·omega
   ·exact a2 j (by omega) (.inr (by omega)) h7
 by_cases e7:h.next=7
 ·have e:(H.ask c t ow q h).1=⟨2,at_ c 4 ow 0,1,q,0,q⟩:=by unfold H.ask;rw[aq e0,aq e1,aq (by omega),aq e3,aq e5,aq e6,aB e7]
  rw[e];have et:∀v s,H.tell c q v s h={h with next:=8}:=λv s=>by unfold H.tell;rw[aq e0,aq e1,aq e2,aq e3,aq e4,aq e5,aq e6,aB e7]
  have er:=BD (n:=m.cells.length) (aw:=t) (op:=⟨2,at_ c 4 ow 0,1,q,0,q⟩) ht.1 (by omega) (by dsimp only;omega) (by dsimp only;omega) hO.2.1 (by dsimp only;omega);have pg:¬(at_ c 4 ow 0=0∧(2:Int)=2):=λe=>by have h9:=hO.2.2.2;rw[e.1]at h9;have h8:=g8 aE;rw[h9]at h8;exact absurd h8 (by show¬(4:Int)=0;decide)
  by_cases hc:m.cl (at_ c 4 ow 0)=(1,q)
  ·have hb:=CE hc;have Gy:=hh.qq.2.1 hb.2;obtain⟨a1,a2⟩:=hh.wk (by omega) (by omega) hb.1 hb.2;obtain⟨b1,b2,b3,b4⟩:=hg.shut (op:=⟨2,at_ c 4 ow 0,1,q,0,q⟩) aE er rfl hb.1 (by rw[←Gy]) (by rw[←hb.2]) rfl (λx hx h7=>by
    rw[←a1]at hx;obtain⟨j,hj,rfl⟩:=qO hx;have h9:H.nth h j=h.list[j]:=by unfold H.nth;rw[cO,cy hj];rfl
    have:=a2 j hj (.inl e7) (by rw[h9];exact h7);rw[h9]at this;exact this)
   refine⟨er,b1,b2,pg,?_⟩;rw[et];exact⟨hh.o,(by show q≤(now (m.step t ⟨2,at_ c 4 ow 0,1,q,0,q⟩)).2∧(q=(now (m.step t ⟨2,at_ c 4 ow 0,1,q,0,q⟩)).2→ow=(now (m.step t ⟨2,at_ c 4 ow 0,1,q,0,q⟩)).1)∧_;rw[b4];exact hh.qq),λe=>by dsimp only at e;omega,λ_ _ e=>by dsimp only at e;omega,λ_ _ e=>by dsimp only at e;omega,λ_ e=>by dsimp only at e;omega,λ_ e=>by dsimp only at e;omega,λe=>by dsimp only at e;omega,λ_ x=>b3 x.1⟩
  ·refine quiet _ _ er (yg rfl hc) pg ?_ (D3 _);rw[et];exact GB _ rfl (λx=>hc (yi x))
 ·have e8:h.next=8:=by omega
  have e:(H.ask c t ow q h).1=p0:=by unfold H.ask;rw[aq e0,aq e1,aq (by omega),aq e3,aq e5,aq e6,aq e7]
  rw[e];obtain⟨l1,l2,l3,aR9⟩:=load 0 (iu 0) (by obtain⟨r0,r1,r2,r3,r4,r5,r6,r7,r8,r9,u6,tF,tG⟩:=row aE;omega);refine quiet _ _ l1 l2 (λe=>absurd e.2 (by show¬(0:Int)=2;decide)) ?_ (D3 _);have et:∀v s,H.tell c q v s h=h:=λv s=>by unfold H.tell;rw[aq e0,aq e1,aq e2,aq e3,aq e4,aq e5,aq e6,aq e7]
  rw[et];exact hh
end Go.Proofs.YtolkmchicplaoaaGreat
namespace Go.Proofs.YtolkmchicplaoaaGreat
open Go.RowKit Go.aS Go.aS.I_ Go.aS.Y
structure aq3 (c:Y.cA)(M:C.M)(t:Int)(l:List (Int×Int))(s:Int)(d:Nat):Prop where
 log:∀(j:Nat) (hj:j<l.length),j<d→M.cl (at_ c 6 t j)=(l[j].2,IntKind.u64.wrap l[j].1)
 len:l.length<d→(M.cl (at_ c 5 t 0)).1=l.length
 Y9:l.length+1<d→M.cl (at_ c 4 t 0)=(1,s)
structure ap0 (c:Y.cA)(ai:List (List In))(g:ag3)(M:C.M)(rs:List (Int×Int))(me:K.Me)(k:K.St):Prop where
 jl:k.asked=true→(M.cl (at_ c 1 me.aw 0)).2=me.tag
 hZ:k.asked=false→(M.cl (at_ c 1 me.aw 0)).2<me.tag
 rt:k.next≠2∨k.asked=true→I_.right (K.code ai me)=true
 ns:3≤k.next→k.next≤11→k.ns≤(now M).2∧(k.ns=(now M).2→k.nv=(now M).1)∧g.L me.aw≤k.ns
 p3:k.next=3→k.ns≤g.L (K.owner c k)∧0≤k.nv∧k.nv<c.t
 aS5:k.next=4→∃h,k.work= .he (K.owner c k) k.ns h∧HH c g M (K.owner c k) k.ns h
 Y_:k.next=12→∃h,k.work= .he me.aw (k.ns+1) h∧HH c g M me.aw (k.ns+1) h
 st:5≤k.next→k.next≤11→k.ns=(now M).2→¬busy c M
 ay5:5≤k.next→k.next≤11→k.next≠8→k.asked=true
 p8:k.next=8→(∃x,k.work= .ex (K.code ai me) x∧VI c x.v)∧(k.asked=true→c.la≤k.ns∧g.D me.aw≠me.tag)
 kb:∀y,k.b=some y→BJ c y∧y.s=1
 p9:k.next=9→k.ns<c.la∧∃y,k.work= .bu y∧y.s=0∧BJ c y∧BK c y∧(k.ns=(now M).2→ae6 c g M rs y)
 qx:k.next=10∨k.next=11→k.ns<c.la∧∃y,k.b=some y∧BJ c y∧y.s=1∧(∃r∈y.rows,r.aw=me.aw)∧(k.ns=(now M).2→ae6 c g M rs y)∧∃d,(k.next=10→k.work= .sc (k.ns+1) (B.entries c y) d∧d≤(B.entries c y).length+1)∧(k.next=11→d=(B.entries c y).length+2)∧(k.ns=(now M).2→aq3 c M me.aw (B.entries c y) (k.ns+1) d)
def aq3.more {c M M' t l s d}(hl:(l.length:Int)≤cap c)(h:aq3 c M t l s d)(h4:M'.cl (at_ c 4 t 0)=M.cl (at_ c 4 t 0))(h5:M'.cl (at_ c 5 t 0)=M.cl (at_ c 5 t 0))(h6:∀j,0≤j→j<cap c→M'.cl (at_ c 6 t j)=M.cl (at_ c 6 t j)):aq3 c M' t l s d:=
 ⟨λj hj hd=>by rw[h6 j (by omega) (by omega)];exact h.log j hj hd,λhd=>by rw[h5];exact h.len hd,λhd=>by rw[h4];exact h.Y9 hd⟩
structure Za (c:Y.cA)(y:B.St):Prop where
 ek:∀e∈B.entries c y,e.1= -1∨7≤(jt c e.1).1
 en:(B.entries c y).Pairwise (λa b=>a.1≠b.1)
 el:((B.entries c y).length:Int)≤cap c
 tag:∀u,0≤u→u<c.t→∀x,(at_ c 7 u 0,x)∈B.entries c y↔Kx y.rows u=some x
def Ef:∀{l:List (Int×Int)},l.Pairwise (λa b=>a.1≠b.1)→∀(a x:Int),(a,x)∈l↔W.look l a=some x
 |[],_,a,x=>by simp[W.look]
 |e::l,hp,a,x=>by
  rw[sm]at hp;unfold W.look;split
  ·rename_i h1;constructor
   ·intro h;rcases oG.1 h with h2|h2
    ·rw[←h2]
    ·exact absurd h1 (hp.1 _ h2)
   ·intro h;have h3:e.2=x:=eQ h;rw[←h1,←h3];exact List.mem_cons_self
  ·rename_i h1;rw[←Ef hp.2 a x];constructor
   ·intro h;rcases oG.1 h with h2|h2
    ·exact absurd (by rw[←h2]) h1
    ·exact h2
   ·exact oB _
def BJ.xC {c}(aE:Y.Ok c){ai y}(hI:BI c ai y)(h:BJ c y)(hs:y.s=1):Za c y:=by
 have hw:=h.w1 hs;have Pz:y.x.w.list.Pairwise (λa b=>a.1≠b.1):=by
  have:=hw.g.nodup;unfold W.keys at this;rwa [List.Nodup,List.pairwise_map]at this
 refine⟨λe he=>?_,List.Pairwise.filter _ Pz,?_,λu h0 h1 x=>?_⟩
 ·exact hw.g.keys e.1 (mE.2 ⟨e,(List.mem_filter.1 he).1,rfl⟩)
 ·have h1:=hw.g.le;have h2:=hw.dn;have h3:=al6 aE (c:=c) (u:=y.u) hI.bb.u.2;have h4:=bK aE;have h5:(B.entries c y).length≤y.x.w.list.length:=List.length_filter_le _ _;omega
 ·have h7:=(fm aE (a9 aE (kd:=7) (by omega) h0 h1)).2.2.2;unfold B.entries;rw[List.mem_filter,Ef Pz,hw.tags u h0 h1];refine⟨λe=>e.1,λe=>⟨e,?_⟩⟩;unfold B.gone;dsimp only;rw[h7];simp
def QM {c y}(h:Za c y):K.uh c (B.entries c y)=B.entries c y:=by
 unfold K.uh;rw[oA];have:=h.el;omega
section
variable {c:Y.cA} {ai:List (List In)} {g g':ag3} {M M':C.M} {rs QK:List (Int×Int)} {me:K.Me} {k:K.St}
def sV.GC {c:Y.cA}(aE:Y.Ok c){t:Int}{g g':ag3}{M M':C.M}(h:sV c t g g' M M')(u:Int):(M.cl (at_ c 1 u 0)).2≤(M'.cl (at_ c 1 u 0)).2:=by
 by_cases hi:Is c 1 u 0
 ·have h1:=hi.1;have h2:=hi.2.1;have e:cr c 1=c.t:=by simp[cr]
  exact h.zI u h1 (by omega)
 ·have e:at_ c 1 u 0= -1:=by unfold at_;rw[aq hi]
  rw[e];exact h.n
def ap0.move (aE:Y.Ok c){N}(hK:KI c ai me N k)(qF:ag2 c g' M'){t}(hv:sV c t g g' M M')(hL:g'.L me.aw=g.L me.aw)(hA:M'.cl (at_ c 1 me.aw 0)=M.cl (at_ c 1 me.aw 0))
 (hO:¬busy c M→M'.cl (at_ c 4 me.aw 0)=M.cl (at_ c 4 me.aw 0)∧M'.cl (at_ c 5 me.aw 0)=M.cl (at_ c 5 me.aw 0)∧∀j,0≤j→j<cap c→M'.cl (at_ c 6 me.aw j)=M.cl (at_ c 6 me.aw j))
 (Nu:∀u,(M.cl (at_ c 1 u 0)).2≤(M'.cl (at_ c 1 u 0)).2)
 (hr:(now M').2=(now M).2→(now M).2<c.la→∀u tag,tag≤(M.cl (at_ c 1 u 0)).2→(u,tag)∉rs→(u,tag)∉QK)(h:ap0 c ai g M rs me k):ap0 c ai g' M' QK me k:=by
 have hn:=hv.n;have Tw:∀x,x=(now M').2→x≤(now M).2→(now M').2=(now M).2∧now M'=now M∧g'.E_=g.E_∧(∀u,g'.D u=g.D u)∧(busy c M'→busy c M):=λx e1 e2=>⟨by omega,hv.same (by omega)⟩;refine⟨by rw[hA];exact h.jl,by rw[hA];exact h.hZ,h.rt,λh3 u7=>?_,λe=>⟨oJ (h.p3 e).1 (hv.L _),(h.p3 e).2⟩,λe=>?_,λe=>?_,λh5 u7 e b=>?_,h.ay5,λe=>⟨(h.p8 e).1,λe2=>?_⟩,h.kb,λe=>?_,λe=>?_⟩
 ·obtain⟨a1,a2,a3⟩:=h.ns h3 u7;refine⟨by omega,λe=>?_,by rw[hL];exact a3⟩;obtain⟨_,s1,_⟩:=Tw _ e a1;rw[s1];exact a2 (by rw[←s1];exact e)
 ·obtain⟨hh,a1,a2⟩:=h.aS5 e;obtain⟨o2,s2,h2,a3,a4⟩:=hK.m4 (.inl e);rw[a1]at a3;cases a3
  exact⟨hh,a1,a2.move qF hv a4⟩
 ·obtain⟨hh,a1,a2⟩:=h.Y_ e;obtain⟨o2,s2,h2,a3,a4⟩:=hK.m4 (.inr e);rw[a1]at a3;cases a3
  exact⟨hh,a1,a2.move qF hv a4⟩
 ·obtain⟨_,s1,_,_,s4⟩:=Tw _ e (h.ns (by omega) u7).1;exact h.st h5 u7 (by rw[←s1];exact e) (s4 b)
 ·obtain⟨a1,a2⟩:=(h.p8 e).2 e2;have h1:=(h.ns (by omega) (by omega)).1;have h2:=qF.n.2;obtain⟨_,_,_,s3,_⟩:=Tw k.ns (by omega) h1;exact⟨a1,by rw[s3];exact a2⟩
 ·obtain⟨a0,y,a1,ay6,a2,a3,a4⟩:=h.p9 e;refine⟨a0,y,a1,ay6,a2,a3,λe2=>?_⟩;obtain⟨s0,s1,_,s3,_⟩:=Tw _ e2 (h.ns (by omega) (by omega)).1;have hb:=a4 (by rw[←s1];exact e2);have h5:=hb.more Nu (hr s0 (by omega));refine⟨λr hx=>?_,λx1 x2=>?_,λx1 x2=>?_⟩
  ·rw[s3];exact h5.r r hx
  ·rw[s3];exact h5.n2 x1 x2
  ·rw[s3];exact h5.mM x1 x2
 ·obtain⟨a0,y,a1,a2,a3,a4,a5,d,a6,a7,a8⟩:=h.qx e;have gx:=h.st (by omega) (by omega);refine⟨a0,y,a1,a2,a3,a4,λe2=>?_,d,a6,a7,λe2=>?_⟩
  ·obtain⟨s0,s1,_,s3,_⟩:=Tw _ e2 (h.ns (by omega) (by omega)).1;have hb:=a5 (by rw[←s1];exact e2);have h5:=hb.more Nu (hr s0 (by omega));refine⟨λr hx=>?_,λx1 x2=>?_,λx1 x2=>?_⟩
   ·rw[s3];exact h5.r r hx
   ·rw[s3];exact h5.n2 x1 x2
   ·rw[s3];exact h5.mM x1 x2
  ·obtain⟨s0,s1,_,s3,_⟩:=Tw _ e2 (h.ns (by omega) (by omega)).1;have e3:k.ns=(now M).2:=by rw[←s1];exact e2
   obtain⟨b4,b5,b6⟩:=hO (gx e3);exact(a8 e3).more (a2.xC aE (hK.b y a1).2 a3).el b4 b5 b6
end
end Go.Proofs.YtolkmchicplaoaaGreat
namespace Go.Proofs.YtolkmchicplaoaaGreat
open Go.RowKit Go.aS Go.aS.I_ Go.aS.Y
def aT0 (c:Y.cA)(ai:List (List In))(g:ag3)(M:C.M)(rs:List (Int×Int))(me:K.Me)(k:K.St):Prop:=
 k.eV=false∧((k.next≠13∧ap0 c ai g M rs me k)∨(k.next=13∧(k.alone=true→g.D me.aw<me.tag∧((M.cl (at_ c 1 me.aw 0)).2<me.tag∨c.la≤(now M).2))))
structure wb (c:Y.cA)(ai:List (List In))(g:ag3)(M:C.M)(me:K.Me)(k:K.St):Prop where
 jl:k.asked=true→(M.cl (at_ c 1 me.aw 0)).2=me.tag
 hZ:k.asked=false→(M.cl (at_ c 1 me.aw 0)).2<me.tag
 rt:I_.right (K.code ai me)=true
 kb:∀y,k.b=some y→BJ c y∧y.s=1
structure aH3 (c:Y.cA)(g:ag3)(M:C.M)(me:K.Me)(k:K.St):Prop where
 ns:k.ns≤(now M).2∧(k.ns=(now M).2→k.nv=(now M).1)∧g.L me.aw≤k.ns
 nb:k.ns=(now M).2→¬busy c M
section
variable {c:Y.cA} {ai:List (List In)} {g:ag3} {M:C.M} {rs:List (Int×Int)} {me:K.Me} {k:K.St}
def ap0.tb (h:ap0 c ai g M rs me k)(hn:k.next≠2):wb c ai g M me k:=⟨h.jl,h.hZ,h.rt (.inl hn),h.kb⟩
def ap0.tn (h:ap0 c ai g M rs me k)(h5:5≤k.next)(u7:k.next≤11):aH3 c g M me k:=⟨h.ns (by omega) u7,h.st h5 u7⟩
def wb.low (h:wb c ai g M me k)(hn:k.next=0∨k.next=1∨k.next=2):ap0 c ai g M rs me k:=
 ⟨h.jl,h.hZ,λ_=>h.rt,λ_ _=>by omega,λe=>by omega,λe=>by omega,λe=>by omega,λ_ _=>by omega,λ_ _ _=>by omega,λe=>by omega,h.kb,λe=>by omega,λe=>by omega⟩
def wb.P1 (h:wb c ai g M me k)(hN:aH3 c g M me k)(ha:k.asked=true)(hn:k.next=5∨k.next=6∨k.next=7):ap0 c ai g M rs me k:=
 ⟨h.jl,h.hZ,λ_=>h.rt,λ_ _=>hN.ns,λe=>by omega,λe=>by omega,λe=>by omega,λ_ _=>hN.nb,λ_ _ _=>ha,λe=>by omega,h.kb,λe=>by omega,λe=>by omega⟩
def Em (aE:Y.Ok c)(hg:ag2 c g M)(hw:0≤me.aw∧me.aw<c.t)(h:wb c ai g M me k)(hN:k.ns≤(now M).2)(h8:k.asked=true→c.la≤k.ns∧g.D me.aw≠me.tag):g.D me.aw<me.tag∧((M.cl (at_ c 1 me.aw 0)).2<me.tag∨c.la≤(now M).2):=by
 have hD:=hg.af5 me.aw hw.1 hw.2;cases ha:k.asked with
 |true=>
  have h1:=h.jl ha;obtain⟨h2,h3⟩:=h8 ha;exact⟨by omega,.inr (by omega)⟩
 |false=>
  have h1:=h.hZ ha;exact⟨by omega,.inl h1⟩
def wb.read (aE:Y.Ok c)(hg:ag2 c g M)(hw:0≤me.aw∧me.aw<c.t)(h:wb c ai g M me k)(hN:aH3 c g M me k)(hn:k.next=8)(h8:k.asked=true→c.la≤k.ns∧g.D me.aw≠me.tag)(hd:k.eV=false){x:X.St}(LA:k.work= .ex (K.code ai me) x)(hx:VI c x.v):aT0 c ai g M rs me (K.read x k):=by
 unfold K.read;split
 ·exact⟨hd,.inr ⟨rfl,λ_=>Em aE hg hw h hN.ns.1 h8⟩⟩
 split
 ·split
  ·exact⟨hd,.inl ⟨by show(0:Int)≠13;decide,wb.low (k:={k with cZ:=k.cZ+1,next:=0}) ⟨h.jl,h.hZ,h.rt,h.kb⟩ (.inl rfl)⟩⟩
  ·exact⟨hd,.inl ⟨by show(2:Int)≠13;decide,wb.low (k:={k with cZ:=k.cZ+1,next:=2}) ⟨h.jl,h.hZ,h.rt,h.kb⟩ (.inr (.inr rfl))⟩⟩
 ·exact⟨hd,.inl ⟨by omega,h.jl,h.hZ,λ_=>h.rt,λ_ _=>hN.ns,λe=>by omega,λe=>by omega,λe=>by omega,λ_ _=>hN.nb,λ_ _ e=>absurd hn e,λ_=>⟨⟨x,LA,hx⟩,h8⟩,h.kb,λe=>by omega,λe=>by omega⟩⟩
def Wz (aE:Y.Ok c):VI c (K.NM c ai me).v:=by
 unfold K.NM;exact aa8 aE _ _ _ _ (VI.idle rfl)
def wb.run (aE:Y.Ok c)(hm:oY me.call.prog me.call.args ai)(hg:ag2 c g M)(hw:0≤me.aw∧me.aw<c.t)(h:wb c ai g M me k)(hN:aH3 c g M me k)(h8:k.asked=true→c.la≤k.ns∧g.D me.aw≠me.tag)(hd:k.eV=false):aT0 c ai g M rs me (K.run c ai me k):=by
 unfold K.run;exact wb.read (k:={k with work:= .ex (K.code ai me) (K.NM c ai me),next:=8}) aE hg hw ⟨h.jl,h.hZ,h.rt,h.kb⟩ ⟨hN.ns,hN.nb⟩ rfl h8 hd rfl (Wz aE)
def wb.qu (aE:Y.Ok c)(hm:oY me.call.prog me.call.args ai)(hg:ag2 c g M)(hw:0≤me.aw∧me.aw<c.t)(h:wb c ai g M me k)(hN:aH3 c g M me k)(hd:k.eV=false):aT0 c ai g M rs me (K.qu c ai me k):=by
 unfold K.qu;split
 ·rename_i ha;exact⟨hd,.inl ⟨by show(5:Int)≠13;decide,wb.P1 (k:={k with next:=5}) ⟨h.jl,h.hZ,h.rt,h.kb⟩ ⟨hN.ns,hN.nb⟩ ha (.inl rfl)⟩⟩
 ·rename_i ha;exact h.run aE hm hg hw hN (λe=>absurd e ha) hd
def aT0.same (aE:Y.Ok c)(hw:0≤me.aw∧me.aw<c.t){N:Int}(hK:KI c ai me N k)(hg:ag2 c g M){M':C.M}(hs:nB c M M')(h:aT0 c ai g M rs me k):ag2 c g M'∧sV c me.aw g g M M'∧aT0 c ai g M' rs me k:=by
 have h1:=hg.same aE hs;have h2:=sV.of_same (g:=g) aE me.aw hg.o hs;have hA:M'.cl (at_ c 1 me.aw 0)=M.cl (at_ c 1 me.aw 0):=hs.at_ aE (a9 aE (by omega) hw.1 hw.2) (by decide) (by decide) (by decide);refine⟨h1,h2,h.1,?_⟩;rcases h.2 with⟨h3,h4⟩|⟨h3,h4⟩
 ·left;refine⟨h3,h4.move aE hK h1 h2 rfl hA (λ_=>⟨hs.at_ aE (a9 aE (by omega) hw.1 hw.2) (by decide) (by decide) (by decide),hs.at_ aE (a9 aE (by omega) hw.1 hw.2) (by decide) (by decide) (by decide),λj j0 j1=>hs.at_ aE (jY aE hw.1 hw.2 j0 j1) (by decide) (by decide) (by decide)⟩) (λu=>?_) (λ_ _ _ _ _ x=>x)⟩;by_cases hi:Is c 1 u 0
  ·rw[hs.at_ aE hi (by decide) (by decide) (by decide)];exact iu _
  ·have e:at_ c 1 u 0= -1:=by unfold at_;rw[aq hi]
   rw[e];have h5:(now M').2=(now M).2:=by rw[hs.now aE]
   show(now M).2≤(now M').2;omega
 ·right;exact⟨h3,λe=>by rw[hA,hs.now aE];exact h4 e⟩
def pZ (b):∀(l:List B.Row) (k:K.St),(K.ti c me b l k=k∧∀r∈l,r.aw≠me.aw)∨((∃r∈l,r.aw=me.aw)∧(K.ti c me b l k).next=10∧(K.ti c me b l k).b=some b∧(K.ti c me b l k).work= .sc (k.ns+1) (K.uh c (B.entries c b)) 0∧(K.ti c me b l k).asked=k.asked∧(K.ti c me b l k).nv=k.nv∧(K.ti c me b l k).ns=k.ns∧(K.ti c me b l k).fresh=k.fresh∧(K.ti c me b l k).eV=k.eV)
 |[],k=> .inl ⟨rfl,λr hr=>by cases hr⟩
 |r::l,k=>by
  unfold K.ti;split
  ·rename_i e;right;refine⟨⟨r,List.mem_cons_self,e⟩,?_⟩;rcases pZ b l {k with oc:=r.rc,ov:=r.rv,b:=some b,work:= .sc (k.ns+1) (K.uh c (B.entries c b)) 0,next:=10}with⟨e1,_⟩|⟨_,e1⟩
   ·rw[e1];exact⟨rfl,rfl,rfl,rfl,rfl,rfl,rfl,rfl⟩
   ·exact e1
  ·rename_i e;rcases pZ b l k with⟨e1,e2⟩|⟨⟨r2,h2,h3⟩,e1⟩
   ·left;refine⟨e1,λx hx=>?_⟩;rcases oG.1 hx with h4|h4
    ·rw[h4];exact e
    ·exact e2 x h4
   ·exact .inr ⟨⟨r2,oB _ h2,h3⟩,e1⟩
end
end Go.Proofs.YtolkmchicplaoaaGreat
namespace Go.Proofs.YtolkmchicplaoaaGreat
open Go.RowKit Go.aS Go.aS.I_ Go.aS.Y
section
variable {c:Y.cA} {g:ag3} {M:C.M} {aw:Int} {op:C.BU}
def ag2.zI (aE:Y.Ok c)(h:ag2 c g M){t}(ht:0≤t∧t<c.t)(he:C.err M.cells.length aw op=0)(hk:op.k=1)(ha:op.a=at_ c 1 t 0)(hn:(M.cl (at_ c 1 t 0)).2≤op.ns):ag2 c g (M.step aw op)∧sV c t g g M (M.step aw op)∧(M.step aw op).cl (at_ c 1 t 0)=(op.nv,op.ns)∧now (M.step aw op)=now M:=by
 have h4:=(fm aE (a9 aE (kd:=1) (by omega) ht.1 ht.2)).2.2.2;rw[←ha]at h4;have h4':(jt c op.a).1=1:=by rw[h4]
 have N3:(M.step aw op).cl (at_ c 1 t 0)=(op.nv,op.ns):=by rw[←ha];exact C.Ee he hk
 have Vg:now (M.step aw op)=now M:=j3 (by rw[g8 aE];decide) (by rw[g8 aE];omega);have o1:∀kd u,(kd=4∨kd=5)→0≤u→u<c.t→(M.step aw op).cl (at_ c kd u 0)=M.cl (at_ c kd u 0):=λkd u hk h0 h1=>rq (op:=op) aE (a9 aE (by omega) h0 h1) (by omega) (by omega);have aS1:∀u j,0≤u→u<c.t→0≤j→j<cap c→(M.step aw op).cl (at_ c 6 u j)=M.cl (at_ c 6 u j):=λu j h0 h1 j0 j1=>rq (op:=op) aE (jY aE h0 h1 j0 j1) (by omega) (by omega);have oa:∀u,0≤u→u<c.t→u≠t→(M.step aw op).cl (at_ c 1 u 0)=M.cl (at_ c 1 u 0):=λu h0 h1 hu=>C.kK (fm aE (a9 aE (by omega) h0 h1)).2.1 (by rw[ha];exact pE aE (a9 aE (by omega) h0 h1) (.inr (.inl hu)));have aS2:∀u,0≤u→u<c.t→(M.cl (at_ c 1 u 0)).2≤((M.step aw op).cl (at_ c 1 u 0)).2:=λu h0 h1=>by
  by_cases e:u=t
  ·rw[e,N3];exact hn
  ·rw[oa u h0 h1 e];exact iu _
 have aS4:∀x,7≤(jt c x).1→(M.step aw op).cl x=M.cl x:=λx rj=>j3 (c:=c) (op:=op) (by omega) (by omega);have BZ:busy c (M.step aw op)↔busy c M:=by unfold busy;rw[Vg,o1 4 _ (by omega) h.o.1 h.o.2]
 refine⟨⟨by rw[Nc];exact h.len,by rw[Vg];exact h.o,by rw[Vg];exact h.n,λx rj=>by rw[aS4 x rj,Vg];exact h.tr x rj,h.ek,h.en,h.el,λe AT z8=>by rw[aS4 _ z8,Vg];exact h.land e AT z8,λhb e AT z8=>by rw[aS4 _ z8,Vg];exact h.done (λx=>hb (BZ.2 x)) e AT z8,λu h0 h1=>⟨(h.tag u h0 h1).1,λhx=>?_⟩,λhb=>?_,λu h0 h1=>by rw[o1 4 u (by omega) h0 h1,Vg];exact h.J u h0 h1,by rw[Vg];exact h.ah0,by rw[Vg];exact h.ag7,λu h0 h1=>⟨(h.af5 u h0 h1).1,oJ (h.af5 u h0 h1).2 (aS2 u h0 h1)⟩⟩,⟨by rw[Vg];exact iu _,λ_=>⟨Vg,rfl,λ_=>rfl,BZ.1⟩,λ_=>iu _,λe=>absurd (by rw[Vg]) e,λx rj=> .inl (aS4 x rj),aS2,λu h0 h1 hu=>⟨oa u h0 h1 hu,λ_=>⟨o1 4 u (by omega) h0 h1,o1 5 u (by omega) h0 h1,λj j0 j1=>aS1 u j h0 h1 j0 j1⟩⟩⟩,N3,Vg⟩
 ·rw[aS4 _ (by rw[(fm aE (a9 aE (by omega) h0 h1)).2.2.2];show(7:Int)≤7;decide)];exact(h.tag u h0 h1).2 hx
 ·rw[Vg,o1 5 _ (by omega) h.o.1 h.o.2];refine⟨(h.log (BZ.1 hb)).1,λj hj=>?_⟩;rw[aS1 _ _ h.o.1 h.o.2 (by omega) (by have:=h.el;omega)];exact(h.log (BZ.1 hb)).2 j hj
def ag2.WA (aE:Y.Ok c)(h:ag2 c g M){t}(ht:0≤t∧t<c.t)(N4:busy c M→t≠(now M).1)(he:C.err M.cells.length aw op=0)(hk:op.k=1)(si:(jt c op.a).1=5∨(jt c op.a).1=6∨(op.a=at_ c 4 t 0∧op.nv=1∧g.L t<op.ns))(hi:(jt c op.a).2.1=t):ag2 c g (M.step aw op)∧sV c t g g M (M.step aw op)∧(M.step aw op).cl op.a=(op.nv,op.ns)∧now (M.step aw op)=now M∧(busy c (M.step aw op)→busy c M)∧∀u,0≤u→u<c.t→(M.step aw op).cl (at_ c 1 u 0)=M.cl (at_ c 1 u 0):=by
 have aD2:(jt c op.a).1=4∨(jt c op.a).1=5∨(jt c op.a).1=6:=by
  rcases si with e|e|⟨e,_⟩
  ·omega
  ·omega
  ·rw[e,(fm aE (a9 aE (kd:=4) (by omega) ht.1 ht.2)).2.2.2];exact .inl rfl
 have N3:(M.step aw op).cl op.a=(op.nv,op.ns):=C.Ee he hk;have Vg:now (M.step aw op)=now M:=j3 (by rw[g8 aE];decide) (by rw[g8 aE];omega);have o1:∀u,0≤u→u<c.t→(M.step aw op).cl (at_ c 1 u 0)=M.cl (at_ c 1 u 0):=λu h0 h1=>rq (op:=op) aE (a9 aE (by omega) h0 h1) (by omega) (by omega);have aS3:∀kd u j,(kd=4∨kd=5∨kd=6)→Is c kd u j→u≠t→(M.step aw op).cl (at_ c kd u j)=M.cl (at_ c kd u j):=λkd u j hk qL hu=>C.kK (fm aE qL).2.1 (λe=>by
  have h5:=(fm aE qL).2.2.2;rw[e]at h5;rw[h5]at hi;exact hu hi)
 have aS4:∀x,7≤(jt c x).1→(M.step aw op).cl x=M.cl x:=λx rj=>j3 (c:=c) (op:=op) (by omega) (by omega);have ah8:∀u,0≤u→u<c.t→(M.step aw op).cl (at_ c 4 u 0)=M.cl (at_ c 4 u 0)∨(u=t∧(M.step aw op).cl (at_ c 4 u 0)=(op.nv,op.ns)∧op.nv=1∧g.L t<op.ns):=λu h0 h1=>by
  by_cases hu:u=t
  ·subst hu;rcases si with e|e|⟨e,e2,e3⟩
   ·exact .inl (rq (op:=op) aE (a9 aE (by omega) h0 h1) (by omega) (by omega))
   ·exact .inl (rq (op:=op) aE (a9 aE (by omega) h0 h1) (by omega) (by omega))
   ·exact .inr ⟨rfl,by rw[←e];exact N3,e2,e3⟩
  ·exact .inl (aS3 4 u 0 (by omega) (a9 aE (by omega) h0 h1) hu)
 have BZ:busy c (M.step aw op)→busy c M:=by
  unfold busy;rw[Vg];rcases ah8 _ h.o.1 h.o.2 with e|⟨e1,e2,e3,e4⟩
  ·rw[e];exact id
  ·intro e5;rw[e2]at e5;have h6:op.ns=(now M).2:=congrArg (·.2) e5;have:=h.ah0;rw[e1]at this;omega
 have hbi:busy c M→busy c (M.step aw op):=λhb=>by
  unfold busy;rw[Vg,aS3 4 _ 0 (by omega) (a9 aE (by omega) h.o.1 h.o.2) (λe=>N4 hb e.symm)];exact hb
 refine⟨⟨by rw[Nc];exact h.len,by rw[Vg];exact h.o,by rw[Vg];exact h.n,λx rj=>by rw[aS4 x rj,Vg];exact h.tr x rj,h.ek,h.en,h.el,λe AT z8=>by rw[aS4 _ z8,Vg];exact h.land e AT z8,λhb e AT z8=>by rw[aS4 _ z8,Vg];exact h.done (λx=>hb (hbi x)) e AT z8,λu h0 h1=>⟨(h.tag u h0 h1).1,λhx=>?_⟩,λhb=>?_,λu h0 h1=>?_,by rw[Vg];exact h.ah0,by rw[Vg];exact h.ag7,λu h0 h1=>by rw[o1 u h0 h1];exact h.af5 u h0 h1⟩,⟨by rw[Vg];exact iu _,λ_=>⟨Vg,rfl,λ_=>rfl,BZ⟩,λ_=>iu _,λe=>absurd (by rw[Vg]) e,λx rj=> .inl (aS4 x rj),λu h0 h1=>by rw[o1 u h0 h1];exact iu _,λu h0 h1 hu=>⟨o1 u h0 h1,λ_=>⟨aS3 4 u 0 (by omega) (a9 aE (by omega) h0 h1) hu,aS3 5 u 0 (by omega) (a9 aE (by omega) h0 h1) hu,λj j0 j1=>aS3 6 u j (by omega) (jY aE h0 h1 j0 j1) hu⟩⟩⟩,N3,Vg,BZ,o1⟩
 ·rw[aS4 _ (by rw[(fm aE (a9 aE (by omega) h0 h1)).2.2.2];show(7:Int)≤7;decide)];exact(h.tag u h0 h1).2 hx
 ·have yU:=BZ hb;have pg:(now M).1≠t:=λe=>N4 yU e.symm;rw[Vg,aS3 5 _ 0 (by omega) (a9 aE (by omega) h.o.1 h.o.2) pg];refine⟨(h.log yU).1,λj hj=>?_⟩;rw[aS3 6 _ _ (by omega) (jY aE h.o.1 h.o.2 (by omega) (by have:=h.el;omega)) pg];exact(h.log yU).2 j hj
 ·rw[Vg];rcases ah8 u h0 h1 with e|⟨e1,e2,e3,e4⟩
  ·rw[e];exact h.J u h0 h1
  ·rw[e2];intro _;left;rw[e1];exact e4
def ag2.ak1 (aE:Y.Ok c)(h:ag2 c g M){t}(ht:0≤t∧t<c.t)(he:C.err M.cells.length aw op=0)(hk:op.k=2)(ha:op.a=0)(ho:now M=(op.ov,op.os))(k7:op.nv=t)(pH:op.ns=(now M).2+1)(lV:(now M).2<c.la)(hb:¬busy c M){y}(hE:Za c y)(JI:aq3 c M t (B.entries c y) ((now M).2+1) ((B.entries c y).length+2)){rs}(hB:ae6 c g M rs y)(N0:∀r∈y.rows,0≤r.aw∧r.aw<c.t):
 ag2 c ⟨λu=>(Kx y.rows u).getD (g.D u),λu=>if u=t then(now M).2+1 else g.L u,B.entries c y⟩ (M.step aw op)∧sV c t g ⟨λu=>(Kx y.rows u).getD (g.D u),λu=>if u=t then(now M).2+1 else g.L u,B.entries c y⟩ M (M.step aw op)∧now (M.step aw op)=(t,(now M).2+1)∧busy c (M.step aw op):=by
 have Vg:now (M.step aw op)=(t,(now M).2+1):=by
  have h5:=C.Dp he hk;rw[ha]at h5;unfold now;rw[h5,aB (show M.cl 0=(op.ov,op.os)from ho),k7,pH];rfl
 have h0w:(jt c op.a).1=0:=by rw[ha];exact g8 aE
 have oc:∀kd i j,Is c kd i j→0<kd→(M.step aw op).cl (at_ c kd i j)=M.cl (at_ c kd i j):=λkd i j hi hk=>rq (op:=op) aE hi (by omega) (by omega);have o1:∀kd u,(kd=1∨kd=4∨kd=5∨kd=7)→0≤u→u<c.t→(M.step aw op).cl (at_ c kd u 0)=M.cl (at_ c kd u 0):=λkd u hk h0 h1=>oc kd u 0 (a9 aE (by omega) h0 h1) (by omega);have aS4:∀x,7≤(jt c x).1→(M.step aw op).cl x=M.cl x:=λx rj=>j3 (c:=c) (op:=op) (by omega) (by omega);have Zc:∀u x,Kx y.rows u=some x→g.D u<x∧x≤(M.cl (at_ c 1 u 0)).2:=λu x hx=>by
  unfold Kx at hx;cases hf:y.rows.find? (λr=>decide (r.aw=u))with
  |none=>rw[hf]at hx;cases hx
  |some r=>
   rw[hf]at hx;have hx:r.tag=x:=eQ hx;have hm:=List.mem_of_find?_eq_some hf;have hw:=List.find?_some hf;simp only[gG]at hw;have:=hB.r r hm;rw[hw,hx]at this;exact⟨this.1,this.2.1⟩
 have SK:busy c (M.step aw op):=by
  unfold busy;rw[Vg];dsimp only;rw[o1 4 t (by omega) ht.1 ht.2];exact JI.Y9 (by omega)
 refine⟨⟨by rw[Nc];exact h.len,by rw[Vg];exact ht,by rw[Vg];have:=h.n;dsimp only;omega,λx rj=>by rw[aS4 x rj,Vg];have:=h.tr x rj;dsimp only;omega,hE.ek,hE.en,hE.el,λe AT z8=>by rw[aS4 _ z8,Vg];have:=h.tr _ z8;intro e3;dsimp only at e3;omega,λx=>absurd SK x,λu h0 h1=>⟨λx hx=>?_,λhx=>?_⟩,λ_=>?_,λu h0 h1=>?_,by rw[Vg];dsimp only;rw[aB rfl],λu=>?_,λu h0 h1=>?_⟩,⟨by rw[Vg];dsimp only;omega,λe=>by rw[Vg]at e;dsimp only at e;omega,λu=>?_,λ_=>hb,λx rj=> .inl (aS4 x rj),λu h0 h1=>by rw[o1 1 u (by omega) h0 h1];exact iu _,λu h0 h1 hu=>⟨o1 1 u (by omega) h0 h1,λ_=>⟨o1 4 u (by omega) h0 h1,o1 5 u (by omega) h0 h1,λj j0 j1=>oc 6 u j (jY aE h0 h1 j0 j1) (by decide)⟩⟩⟩,Vg,SK⟩
 ·dsimp only;rw[(hE.tag u h0 h1 x).1 hx];rfl
 ·dsimp only;rw[o1 7 u (by omega) h0 h1,h.Ww hb aE h0 h1];cases hT:Kx y.rows u with
  |none=>rfl
  |some x=>exact absurd ((hE.tag u h0 h1 x).2 hT) (hx x)
 ·rw[Vg];dsimp only;rw[o1 5 t (by omega) ht.1 ht.2];refine⟨JI.len (by omega),λj hj=>?_⟩;rw[oc 6 t j (jY aE ht.1 ht.2 (by omega) (by have:=hE.el;omega)) (by decide)];exact JI.log j hj (by omega)
 ·rw[o1 4 u (by omega) h0 h1,Vg];dsimp only;intro e1;by_cases hu:u=t
  ·right;refine⟨hu,?_⟩;rw[hu,JI.Y9 (by omega)]
  ·left;rw[aq hu];rcases h.J u h0 h1 e1 with e2|⟨e2,e3⟩
   ·exact e2
   ·exfalso;apply hb;unfold busy;rw[←e2];exact Prod.ext e1 e3
 ·rw[Vg];dsimp only;have:=h.ag7 u;split<;>omega
 ·rw[o1 1 u (by omega) h0 h1];dsimp only;have h2:=h.af5 u h0 h1;cases hT:Kx y.rows u with
  |none=>exact h2
  |some x=>have:=Zc u x hT;show 0≤x∧x≤_;omega
 ·have:=h.ag7 u;dsimp only;split<;>omega
end
