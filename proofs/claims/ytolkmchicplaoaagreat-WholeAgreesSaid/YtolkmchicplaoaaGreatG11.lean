/- A part of the proof. -/
import Derived.Test.YtolkmchicplaoaaGreatG10
set_option linter.all false
set_option maxHeartbeats 8000000
set_option maxRecDepth 100000
open Go.Proofs.Tryz
namespace Go.Proofs.YtolkmchicplaoaaGreat
open Go.RowKit Go.aS Go.aS.I_ Go.aS.Y
structure KI (c:Y.cA)(ai:List (List In))(m:K.Me)(N:Int)(k:K.St):Prop where
 next:0≤k.next∧k.next≤13
 given:0≤k.given∧k.given≤4
 g0:k.next=0→k.given<4
 g1:k.asked=false→k.next≠0→k.next≠1→k.given=0
 g2:k.asked=true→k.next≠0∧k.next≠1
 cZ:0≤k.cZ∧k.cZ≤N
 nv:W.U_ k.nv
 ns:0≤k.ns∧k.ns≤4611686018427387904
 m8:k.next=8→∃x,k.work= .ex (K.code ai m) x∧XG c (K.code ai m) x
 m9:k.next=9→∃y,k.work= .bu y∧BI c ai y∧(y.s=1→y.next=1)
 m4:k.next=4∨k.next=12→∃o s h,k.work= .he o s h∧H.Inv c h
 De:k.next=10→∃s l d,k.work= .sc s l d∧l.length≤65536∧d≤l.length+1
 b:∀y,k.b=some y→y.next=1∧BI c ai y
 yl:k.next=10∨k.next=11→k.b≠none
def KI.still {c ai m N k}(h:KI c ai m N k){k2 N2}(hN:N≤N2)(hn:0≤k2.next∧k2.next≤13)(hm:¬fR k2.next)(u7:k2.next≠11)(hg:0≤k2.given∧k2.given≤4)(g0:k2.next=0→k2.given<4)(g1:k2.asked=false→k2.next≠0→k2.next≠1→k2.given=0)(g2:k2.asked=true→k2.next≠0∧k2.next≠1)(ht:0≤k2.cZ∧k2.cZ≤N2)(k7:W.U_ k2.nv)(pH:0≤k2.ns∧k2.ns≤4611686018427387904)(hb:k2.b=k.b):KI c ai m N2 k2:=
 ⟨hn,hg,g0,g1,g2,ht,k7,pH,λe=>absurd (Or.inr (.inl e)) hm,λe=>absurd (Or.inr (.inr (.inl e))) hm,λe=>absurd (by rcases e with e|e;exact .inl e;exact .inr (.inr (.inr (.inr e)))) hm,λe=>absurd (Or.inr (.inr (.inr (.inl e)))) hm,λy hy=>h.b y (hb▸hy),λe=>by rcases e with e|e;exact absurd (Or.inr (.inr (.inr (.inl e)))) hm;exact absurd e u7⟩
def KI.end_ {c ai m N k}(hN:N≤N+1)(h:KI c ai m N k)(rc rv al){k1}(hg:k1.given=k.given)(ht:0≤k1.cZ∧k1.cZ≤N+1)(k7:W.U_ k1.nv)(pH:0≤k1.ns∧k1.ns≤4611686018427387904)(hb:k1.b=k.b)(GM:k1.asked=false→k.given=0):KI c ai m (N+1) (K.end_ rc rv al k1):=by
 have h1:=h.given;have en:(K.end_ rc rv al k1).next=13:=rfl;have eg:(K.end_ rc rv al k1).given=k1.given:=rfl;have et:(K.end_ rc rv al k1).cZ=k1.cZ:=rfl;exact h.still hN (by omega) (by unfold fR;omega) (by omega) (by omega) (λe=>by omega) (λe _ _=>by rw[eg,hg];exact GM e) (λ_=>by omega) (by omega) k7 pH hb
def KI.read {c:Y.cA}{ai:List (List In)}{m:K.Me}{N:Int}{k:K.St}(h:KI c ai m N k){x:X.St}(hX:XG c (K.code ai m) x){k1:K.St}(hn:k1.next=8)(hw:k1.work= .ex (K.code ai m) x)(hg:k1.given=k.given)(ht:0≤k1.cZ∧k1.cZ≤N)(k7:W.U_ k1.nv)(pH:0≤k1.ns∧k1.ns≤4611686018427387904)(hb:k1.b=k.b)(GM:k1.asked=false→k.given=0):KI c ai m (N+1) (K.read x k1):=by
 unfold K.read;split
 ·exact KI.end_ (by omega) h _ _ _ hg (by omega) k7 pH hb GM
 split
 ·split
  ·rename_i hc;have g0:=GM hc.2;exact h.still (by omega) (by dsimp only;omega) (by unfold fR;dsimp only;omega) (by dsimp only;omega) (by dsimp only;omega) (by dsimp only;omega) (λ_ e=>absurd rfl e) (λe=>by dsimp only at e;rw[hc.2]at e;cases e) (by dsimp only;omega) k7 pH hb
  ·refine h.still (by omega) (by dsimp only;omega) (by unfold fR;dsimp only;omega) (by dsimp only;omega) (by have:=h.given;dsimp only;omega) (λe=>by dsimp only at e;omega) (λe _ _=>by dsimp only;rw[hg];exact GM e) (λ_=>by dsimp only;omega) (by dsimp only;omega) k7 pH hb
 ·have Xj:=h.given;exact⟨by omega,by omega,λe=>by omega,λe _ _=>by rw[hg];exact GM e,λ_=>by omega,by omega,k7,pH,λ_=>⟨x,hw,hX⟩,λe=>by omega,λe=>by omega,λe=>by omega,λy hy=>h.b y (hb▸hy),λe=>by omega⟩
def KI.run {c:Y.cA}(aE:Y.Ok c){ai:List (List In)}{m:K.Me}(hm:oY m.call.prog m.call.args ai){N:Int}{k:K.St}(h:KI c ai m N k){k1:K.St}(hg:k1.given=k.given)(ht:0≤k1.cZ∧k1.cZ≤N)(k7:W.U_ k1.nv)(pH:0≤k1.ns∧k1.ns≤4611686018427387904)(hb:k1.b=k.b)(GM:k1.asked=false→k.given=0):KI c ai m (N+1) (K.run c ai m k1):=by
 unfold K.run;exact h.read (Q5 aE m.call.args (hm.pu.mA m.call.prog)) rfl rfl hg ht k7 pH hb GM
def KI.qu {c}(aE:Y.Ok c){ai m}(hm:oY m.call.prog m.call.args ai){N k}(h:KI c ai m N k){k1}(hg:k1.given=k.given)(ht:0≤k1.cZ∧k1.cZ≤N)(k7:W.U_ k1.nv)(pH:0≤k1.ns∧k1.ns≤4611686018427387904)(hb:k1.b=k.b)(GM:k1.asked=false→k.given=0):KI c ai m (N+1) (K.qu c ai m k1):=by
 unfold K.qu;split
 ·have Xj:=h.given;exact h.still (by omega) (by dsimp only;omega) (by unfold fR;dsimp only;omega) (by dsimp only;omega) (by dsimp only;omega) (λe=>by dsimp only at e;omega) (λe _ _=>by dsimp only;rw[hg];exact GM e) (λ_=>by dsimp only;omega) (by dsimp only;omega) k7 pH hb
 ·exact h.run aE hm hg ht k7 pH hb GM
def F0 (c ai seq v n){y}(h:y.s=1→y.next=1):(B.tell c ai seq v n y).s=1→(B.tell c ai seq v n y).next=1:=by
 have aj1:∀z:B.St,z.s=0→(B.A_ c z).s=1→(B.A_ c z).next=1:=by
  intro z hz;unfold B.A_;split
  ·intro e;dsimp only at e;omega
  ·split
   ·intro _;exact oy c _
   ·intro e;omega
 unfold B.tell;split
 ·exact h
 ·rename_i hs;have wK:y.s=0:=by omega
  split
  ·unfold B.mL B.settled;split
   ·intro e;dsimp only at e;omega
   ·split
    ·intro e;dsimp only at e;omega
    ·intro e;dsimp only at e;omega
  split
  ·unfold B.je;split
   ·intro _;exact oy c _
   ·intro e;dsimp only at e;omega
  split
  ·unfold B.tag;split
   ·intro e;dsimp only at e;omega
   ·split
    ·intro _;exact oy c _
    ·intro e;dsimp only at e;omega
  split
  ·split
   ·unfold B.dI;exact aj1 _ wK
   ·intro e;dsimp only at e;omega
  ·exact aj1 _ wK
def Aq {c}(aE:Y.Ok c)(l):(K.uh c l).length≤65536:=by
 have:=iI aE;unfold K.uh;rw[oE];omega
def rM (c me y k):∀j,(gY c me y k j).given=k.given∧(gY c me y k j).cZ=k.cZ∧(gY c me y k j).asked=k.asked∧(gY c me y k j).nv=k.nv∧(gY c me y k j).ns=k.ns∧((gY c me y k j).next=10→k.next≠10→(gY c me y k j).work= .sc (k.ns+1) (K.uh c (B.entries c y)) 0)
 |0=>⟨rfl,rfl,rfl,rfl,rfl,λe h=>absurd e h⟩
 |j+1=>by
  by_cases hj:j<y.rows.length
  ·rw[oZ _ _ _ _ _ hj];unfold m_;split
   ·have:=rM c me y k j;exact⟨this.1,this.2.1,this.2.2.1,this.2.2.2.1,this.2.2.2.2.1,λ_ _=>by show K.Uf.sc _ _ _=_;rw[this.2.2.2.2.1]⟩
   ·exact rM c me y k j
  ·have:=rM c me y k j;unfold gY at this⊢;rw[oA (by omega)]at this⊢;exact this
def KI.built{c}(aE:Y.Ok c){ai m N k}(h:KI c ai m N k){y}(hI:BI c ai y)(h1:y.s=1→y.next=1){k1}(hn:k1.next=9)(hw:k1.work= .bu y)(hg:k1.given=k.given)(ht:0≤k1.cZ∧k1.cZ≤N)(k7:W.U_ k1.nv)(pH:0≤k1.ns∧k1.ns≤4611686018427387904)(hb:k1.b=k.b)(GM:k1.asked=false→k.given=0):KI c ai m (N+1) (K.built c m y k1):=by
 have Xj:=h.given;have hys:=hI.bb.s;unfold K.built;split;refine ?Z;rotate_left;refine ?Y
 case' Z=>exact⟨by omega,by omega,λe=>by omega,λe _ _=>by rw[hg];exact GM e,λ_=>by omega,by omega,k7,pH,λe=>by omega,λ_=>⟨y,hw,hI,h1⟩,λe=>by omega,λe=>by omega,λy hy=>h.b y (hb▸hy),λe=>by omega⟩
 split;refine ?X;rotate_left;refine ?J
 case' J=>
  rename_i wK El;have JH:y.s=1:=by omega
  rw[oh];have e:y.rows.foldl (m_ c m.aw y) {k1 with next:=2}=gY c m.aw y {k1 with next:=2} y.rows.length:=by unfold gY;rw[tV]
  rw[e];have Tw:=rM c m.aw y {k1 with next:=2} y.rows.length;have j8:=pI c m.aw y {k1 with next:=2} y.rows.length;generalize gY c m.aw y {k1 with next:=2} y.rows.length=k2 at*;obtain⟨a1,a2,a3,a4,a5,a6⟩:=Tw;dsimp only at a1 a2 a3 a4 a5 a6
 case' J=>rcases j8 with⟨c1,c2⟩|hc;refine ?G;rotate_left;refine ?D
 case' D=>subst hc
 case' X|D=>refine h.still (by omega) (by dsimp only;omega) (by unfold fR;dsimp only;omega) (by dsimp only;omega) (by dsimp only;omega) (λe=>by dsimp only at e;omega) (λe _ _=>by dsimp only;rw[hg];exact GM e) (λ_=>by dsimp only;omega) (by dsimp only;omega) k7 pH hb
 exact⟨by omega,by omega,λe=>by omega,λe _ _=>by rw[a1,hg];exact GM (a3▸e),λ_=>by omega,by omega,a4▸k7,a5▸pH,λe=>by omega,λe=>by omega,λe=>by omega,λ_=>⟨_,_,_,a6 c1 (by omega),Aq aE _,cE _⟩,λz hz=>by rw[c2]at hz;cases hz;exact⟨h1 JH,hI⟩,λ_=>by rw[c2];simp⟩
def DP {c ai m o k}(h:k.next=13):K.tell c ai m o k=k:=by unfold K.tell;rw[aB h]
def DQ {c ai m o k}(h:k.next=0):K.tell c ai m o k=if k.given+1=4 then{k with fresh:=false,eV:=false,given:=k.given+1,next:=1}else{k with fresh:=false,eV:=false,given:=k.given+1}:=by
 unfold K.tell;rw[aq (by omega)];dsimp only;rw[aB h,cW (by omega)]
def DR {c ai m o k}(h:k.next=1):K.tell c ai m o k={k with fresh:=false,eV:=false,asked:=true,next:=2}:=by
 unfold K.tell;rw[aq (by omega)];dsimp only;rw[aq (by omega),aB h,cW (by omega)]
def xj {c ai m o k}(h:k.next=2):K.tell c ai m o k=K.looked ai m {k with fresh:=true,eV:=false,nv:=o.v,ns:=o.s}:=by
 unfold K.tell;rw[aq (by omega)];dsimp only;rw[aq (by omega),aq (by omega),aB h,eP h]
def xk {c ai m o k}(h:k.next=3):K.tell c ai m o k=K.opened c ai m o.v o.s {k with fresh:=false,eV:=false}:=by
 unfold K.tell;rw[aq (by omega)];dsimp only;rw[aq (by omega),aq (by omega),aq (by omega),aB h,cW (by omega)]
def y6 {c ai m o k}(h:k.next=5∨k.next=6∨k.next=7):K.tell c ai m o k=K.answer c ai m o.v {k with fresh:=false,eV:=false}:=by
 unfold K.tell;rw[aq (by omega)];dsimp only;rw[aq (by omega),aq (by omega),aq (by omega),aq (by omega),aB h,cW (by omega)]
def y7 {c ai m o k}(h:k.next=11):K.tell c ai m o k=K.iT c m o.ok {k with fresh:=false,eV:=false}:=by
 unfold K.tell;rw[aq (by omega)];dsimp only;rw[aq (by omega),aq (by omega),aq (by omega),aq (by omega),aq (by omega),aB h,cW (by omega)]
def j5 {c ai m o k}(h:fR k.next):K.tell c ai m o k=K.fX c ai m o.v o.s {k with fresh:=false,eV:=false}:=by
 unfold fR at h;unfold K.tell;rw[aq (by omega)];dsimp only;rw[aq (by omega),aq (by omega),aq (by omega),aq (by omega),aq (by omega),aq (by omega),cW (by omega)]
def KI.phase {c ai m N k}(h:KI c ai m N k):k.next=13∨k.next=0∨k.next=1∨k.next=2∨k.next=3∨(k.next=5∨k.next=6∨k.next=7)∨k.next=11∨k.next=8∨k.next=9∨(k.next=4∨k.next=12)∨k.next=10:=by
 have:=h.next;omega
def KI.more {c ai m N N2 k}(h:KI c ai m N k)(hN:N≤N2):KI c ai m N2 k:={h with cZ:=by have:=h.cZ;omega}
def KI.tell {c:Y.cA}(aE:Y.Ok c){ai:List (List In)}{m:K.Me}(hm:oY m.call.prog m.call.args ai){N:Int}{k:K.St}(h:KI c ai m N k)(o:O3)(hv:W.U_ o.v)(hs:W.U_ o.s)(h2:k.next=2→o.s≤4611686018427387904)(hlen:∀y,k.b=some y→(B.entries c y).length≤65536):KI c ai m (N+1) (K.tell c ai m o k):=by
 have kT:=h.next;have Xj:=h.given;have k9:=h.cZ;have g1:=h.g1;rcases h.phase with e|e|e|e|e|e|e|e|e|e|e
 ·rw[DP e];exact h.more (by omega)
 ·rw[DQ e];have hg:=h.g0 e;have ha:k.asked=false:=by
   cases hk:k.asked with
   |false=>rfl
   |true=>exact absurd e (h.g2 hk).1
  split
  ·exact h.still (by omega) (by dsimp only;omega) (by unfold fR;dsimp only;omega) (by dsimp only;omega) (by dsimp only;omega) (λe=>by dsimp only at e;omega) (λ_ _ e=>absurd rfl e) (λe=>by dsimp only at e;rw[ha]at e;cases e) (by dsimp only;omega) h.nv h.ns rfl
  ·exact h.still (by omega) (by dsimp only;omega) (by unfold fR;dsimp only;omega) (by dsimp only;omega) (by dsimp only;omega) (λ_=>by dsimp only;omega) (λ_ e2 _=>absurd e e2) (λe=>by dsimp only at e;rw[ha]at e;cases e) (by dsimp only;omega) h.nv h.ns rfl
 ·rw[DR e];exact h.still (by omega) (by dsimp only;omega) (by unfold fR;dsimp only;omega) (by dsimp only;omega) (by dsimp only;omega) (λe=>by dsimp only at e;omega) (λe=>by cases e) (λ_=>by dsimp only;omega) (by dsimp only;omega) h.nv h.ns rfl
 ·rw[xj e];have nP:k.asked=false→k.given=0:=λha=>g1 ha (by omega) (by omega);have pH:0≤o.s∧o.s≤4611686018427387904:=⟨hs.1,h2 e⟩;unfold K.looked;split
  ·exact h.still (by omega) (by dsimp only;omega) (by unfold fR;dsimp only;omega) (by dsimp only;omega) (by dsimp only;omega) (λe=>by dsimp only at e;omega) (λe _ _=>nP e) (λ_=>by dsimp only;omega) (by dsimp only;omega) hv pH rfl
  ·exact KI.end_ (by omega) h _ _ _ rfl (by dsimp only;omega) hv pH rfl nP
 ·rw[xk e];have nP:k.asked=false→k.given=0:=λha=>g1 ha (by omega) (by omega);unfold K.opened;split
  ·exact⟨by dsimp only;omega,by dsimp only;omega,λe=>by dsimp only at e;omega,λe _ _=>nP e,λ_=>by dsimp only;omega,by dsimp only;omega,h.nv,h.ns,λe=>by dsimp only at e;omega,λe=>by dsimp only at e;omega,λ_=>⟨_,_,_,rfl,H.Vu c⟩,λe=>by dsimp only at e;omega,h.b,λe=>by dsimp only at e;omega⟩
  ·exact h.qu aE hm rfl (by dsimp only;omega) h.nv h.ns rfl nP
 ·rw[y6 e];have nP:k.asked=false→k.given=0:=λha=>g1 ha (by omega) (by omega);unfold K.answer;split
  ·exact h.still (by omega) (by dsimp only;omega) (by unfold fR;dsimp only;omega) (by dsimp only;omega) (by dsimp only;omega) (λe=>by dsimp only at e;omega) (λe _ _=>nP e) (λ_=>by dsimp only;omega) (by dsimp only;omega) h.nv h.ns rfl
  split
  ·exact KI.end_ (by omega) h _ _ _ rfl (by dsimp only;omega) h.nv h.ns rfl nP
  split
  ·exact h.still (by omega) (by dsimp only;omega) (by unfold fR;dsimp only;omega) (by dsimp only;omega) (by dsimp only;omega) (λe=>by dsimp only at e;omega) (λe _ _=>nP e) (λ_=>by dsimp only;omega) (by dsimp only;omega) h.nv h.ns rfl
  split
  ·exact h.run aE hm rfl (by dsimp only;omega) h.nv h.ns rfl nP
  split
  ·exact KI.end_ (by omega) h _ _ _ rfl (by dsimp only;omega) h.nv h.ns rfl nP
  ·exact⟨by dsimp only;omega,by dsimp only;omega,λe=>by dsimp only at e;omega,λe _ _=>nP e,λ_=>by dsimp only;omega,by dsimp only;omega,h.nv,h.ns,λe=>by dsimp only at e;omega,λ_=>⟨_,rfl,BI.new aE ai,λe=>by exact absurd e (by show¬(0:Int)=1;decide)⟩,λe=>by dsimp only at e;omega,λe=>by dsimp only at e;omega,h.b,λe=>by dsimp only at e;omega⟩
 ·rw[y7 e];have nP:k.asked=false→k.given=0:=λha=>g1 ha (by omega) (by omega);obtain⟨y,hy⟩:=yI.1 (h.yl (.inr e));unfold K.iT;split
  ·refine⟨by dsimp only;omega,by dsimp only;omega,λe=>by dsimp only at e;omega,λe _ _=>nP e,λ_=>by dsimp only;omega,by dsimp only;omega,h.nv,h.ns,λe=>by dsimp only at e;omega,λe=>by dsimp only at e;omega,λ_=>⟨_,_,_,rfl,?_⟩,λe=>by dsimp only at e;omega,h.b,λe=>by dsimp only at e;omega⟩;dsimp only;rw[hy];have:=hlen y hy;exact H.Vx c _ (by dsimp only;omega)
  ·exact h.still (by omega) (by dsimp only;omega) (by unfold fR;dsimp only;omega) (by dsimp only;omega) (by dsimp only;omega) (λe=>by dsimp only at e;omega) (λe _ _=>nP e) (λ_=>by dsimp only;omega) (by dsimp only;omega) h.nv h.ns rfl
 ·rw[j5 (.inr (.inl e))];have nP:k.asked=false→k.given=0:=λha=>g1 ha (by omega) (by omega);obtain⟨x,hw,hG⟩:=h.m8 e;have t1:=hG.tell m.call.args k.ns o.v o.s hv;have ew:K.fX c ai m o.v o.s {k with fresh:=false,eV:=false}=K.read (X.tell c (K.code ai m) m.call.args k.ns o.v o.s x) {k with fresh:=false,eV:=false,work:= .ex (K.code ai m) (X.tell c (K.code ai m) m.call.args k.ns o.v o.s x)}:=by
   unfold K.fX;dsimp only;rw[hw]
  rw[ew];exact h.read t1 e rfl rfl (by dsimp only;omega) h.nv h.ns rfl nP
 ·rw[j5 (.inr (.inr (.inl e)))];have nP:k.asked=false→k.given=0:=λha=>g1 ha (by omega) (by omega);obtain⟨y,hw,hI,h1⟩:=h.m9 e;have ew:K.fX c ai m o.v o.s {k with fresh:=false,eV:=false}=K.built c m (B.tell c ai k.ns o.v o.s y) {k with fresh:=false,eV:=false,work:= .bu (B.tell c ai k.ns o.v o.s y)}:=by
   unfold K.fX;dsimp only;rw[hw]
  rw[ew];exact h.built aE (hI.tell aE hm.pu k.ns o.v o.s hv hs) (F0 c ai k.ns o.v o.s h1) e rfl rfl (by dsimp only;omega) h.nv h.ns rfl nP
 ·have e':fR k.next:=by unfold fR;omega
  rw[j5 e'];have nP:k.asked=false→k.given=0:=λha=>g1 ha (by omega) (by omega);obtain⟨ow,s,hh,hw,hI⟩:=h.m4 e;have ew:K.fX c ai m o.v o.s {k with fresh:=false,eV:=false}=K.jf c ai m (H.tell c s o.v o.s hh) {k with fresh:=false,eV:=false,work:= .he ow s (H.tell c s o.v o.s hh)}:=by
   unfold K.fX;dsimp only;rw[hw]
  rw[ew];have uH:=H.Qo aE hI (seq:=s) o.v o.s hv.1;unfold K.jf;split
  ·exact⟨by dsimp only;omega,by dsimp only;omega,λe=>by dsimp only at e;omega,λe _ _=>nP e,λ_=>by dsimp only;omega,by dsimp only;omega,h.nv,h.ns,λe=>by dsimp only at e;omega,λe=>by dsimp only at e;omega,λ_=>⟨_,_,_,rfl,uH⟩,λe=>by dsimp only at e;omega,h.b,λe=>by dsimp only at e;omega⟩
  split
  ·exact KI.end_ (by omega) h _ _ _ rfl (by dsimp only;omega) h.nv h.ns rfl nP
  ·exact h.qu aE hm rfl (by dsimp only;omega) h.nv h.ns rfl nP
 ·have e':fR k.next:=by unfold fR;omega
  rw[j5 e'];have nP:k.asked=false→k.given=0:=λha=>g1 ha (by omega) (by omega);obtain⟨s,l,d,hw,hl,hd⟩:=h.De e;have VL:=h.yl (.inl e);have ew:K.fX c ai m o.v o.s {k with fresh:=false,eV:=false}=if l.length+1<(if l.length+1<d then d else d+1)then{k with fresh:=false,eV:=false,work:= .sc s l (if l.length+1<d then d else d+1),next:=11}else{k with fresh:=false,eV:=false,work:= .sc s l (if l.length+1<d then d else d+1)}:=by
   unfold K.fX;dsimp only;rw[hw]
  rw[ew];rw[aq (show¬l.length+1<d by omega)];split
  ·exact⟨by dsimp only;omega,by dsimp only;omega,λe=>by dsimp only at e;omega,λe _ _=>nP e,λ_=>by dsimp only;omega,by dsimp only;omega,h.nv,h.ns,λe=>by dsimp only at e;omega,λe=>by dsimp only at e;omega,λe=>by dsimp only at e;omega,λe=>by dsimp only at e;omega,h.b,λ_=>VL⟩
  ·exact⟨by dsimp only;omega,by dsimp only;omega,λe=>by dsimp only at e;omega,λe _ _=>nP e,λ_=>by dsimp only;omega,by dsimp only;omega,h.nv,h.ns,λe=>by dsimp only at e;omega,λe=>by dsimp only at e;omega,λe=>by dsimp only at e;omega,λ_=>⟨_,_,_,rfl,hl,by omega⟩,h.b,λ_=>VL⟩
structure CQ where
 H:List Value
 wv:Value
 bv:Value
def iq (c:Y.cA)(m:K.Me)(pv:Value)(aO:List Value)(b:Nat)(k:K.St):a_:=
 EG λq:CQ=>ie (KH (ae c) m.aw m.tag pv m.call.prog m.call.args q.H) (cM [bB q.H b q.wv q.bv k,cQ c m.aw pv aO (dh aO m.call.prog) m.call.args k q.wv,bT c m.aw pv aO k.b q.bv])
def nC {w0 w R c m pv aO b k}(h:Sep w0 w (iq c m pv aO b k::R)):∃H wv bv,KH (ae c) m.aw m.tag pv m.call.prog m.call.args H∧Sep w0 w (bB H b wv bv k::cQ c m.aw pv aO (dh aO m.call.prog) m.call.args k wv::bT c m.aw pv aO k.b bv::R):=by
 obtain⟨q,h1⟩:=h.rZ;obtain⟨h2,h3⟩:=h1.jn;exact⟨q.H,q.wv,q.bv,h2,h3.ofList⟩
def fh {w0 w R c m pv aO b k H wv bv}(hE:KH (ae c) m.aw m.tag pv m.call.prog m.call.args H)(h:Sep w0 w (bB H b wv bv k::cQ c m.aw pv aO (dh aO m.call.prog) m.call.args k wv::bT c m.aw pv aO k.b bv::R)):Sep w0 w (iq c m pv aO b k::R):=
 Sep.qX (A:=CQ) (λq=>ie (KH (ae c) m.aw m.tag pv m.call.prog m.call.args q.H) (cM [bB q.H b q.wv q.bv k,cQ c m.aw pv aO (dh aO m.call.prog) m.call.args k q.wv,bT c m.aw pv aO k.b q.bv])) (a:=⟨H,wv,bv⟩) (Sep.iK (Sep.toList (Ts:=[_,_,_]) h) hE)
def Ar {w0 w R c aw pv aO cv args k wv code x}(hk:k.work= .ex code x)(h:Sep w0 w (cQ c aw pv aO cv args k wv::R)):∃q:WQ,wv= .iface 205 (O q.b1)∧(fR k.next→q.seq=k.ns)∧Sep w0 w (aQ c aw q.seq q.b1 q.b2 q.b3 q.b4 cv args x::R):=by
 unfold cQ at h;rw[hk]at h;obtain⟨q,h1⟩:=h.rZ;obtain⟨h2,h3⟩:=h1.jn;exact⟨q,h2.1,h2.2,h3⟩
def As {w0 w R c aw pv aO cv args k wv y}(hk:k.work= .bu y)(h:Sep w0 w (cQ c aw pv aO cv args k wv::R)):∃q:WQ,wv= .iface 166 (O q.b1)∧(fR k.next→q.seq=k.ns)∧Sep w0 w (df c aw q.seq q.b1 pv aO y::R):=by
 unfold cQ at h;rw[hk]at h;obtain⟨q,h1⟩:=h.rZ;obtain⟨h2,h3⟩:=h1.jn;exact⟨q,h2.1,h2.2,h3⟩
def At {w0 w R c aw pv aO cv args k wv o s h0}(hk:k.work= .he o s h0)(h:Sep w0 w (cQ c aw pv aO cv args k wv::R)):∃hb:Nat,wv= .iface 199 (O hb)∧Sep w0 w (eu c aw o s hb h0::R):=by
 unfold cQ at h;rw[hk]at h;obtain⟨q,h1⟩:=h.rZ;obtain⟨h2,h3⟩:=h1.jn;exact⟨q.b1,h2,h3⟩
def Au {w0 w R c aw pv aO cv args k wv s l d}(hk:k.work= .sc s l d)(h:Sep w0 w (cQ c aw pv aO cv args k wv::R)):∃(sb:Nat) (v:Value),wv= .iface 209 (O sb)∧Sep w0 w (aJ sb 242 (Sc.tJ (ae c) aw s v d)::aU 0 234 2 v l.length (flat Sc.iS l)::R):=by
 unfold cQ at h;rw[hk]at h;obtain⟨q,h1⟩:=h.rZ;obtain⟨h2,h3⟩:=h1.jn;exact⟨q.b1,q.v,h2,h3.ofList⟩
def MV {w0 w R c m pv aO b k ai N}(h:KI c ai m N k)(hS:Sep w0 w (iq c m pv aO b k::R)):∀y,k.b=some y→(B.entries c y).length≤65536:=by
 intro y hy;obtain⟨H,wv,bv,hE,h1⟩:=nC hS;rw[hy]at h1;obtain⟨seq,bb,_,h2⟩:=Q8 (h1.pull 2 rfl);exact rK (by rw[(h.b y hy).1];decide) h2
def lA {w0 w R c aw pv aO cv args k k2 wv}(hw:k2.work=k.work)(hn:¬fR k2.next)(h:Sep w0 w (cQ c aw pv aO cv args k wv::R)):Sep w0 w (cQ c aw pv aO cv args k2 wv::R):=
 mR hw (λe=>absurd e hn) h
def F1 (ai m k):(K.looked ai m k).work=k.work∧(K.looked ai m k).b=k.b∧¬fR (K.looked ai m k).next:=by
 unfold K.looked K.end_;split
 ·exact⟨rfl,rfl,by unfold fR;dsimp only;omega⟩
 ·exact⟨rfl,rfl,by unfold fR;dsimp only;omega⟩
def Xt (c ai m k):(K.run c ai m k).b=k.b:=(xf c ai m k).2.2
def Xu (c ai m k):(K.qu c ai m k).b=k.b:=by
 unfold K.qu;split
 ·rfl
 ·exact Xt c ai m k
def Ro (c ai m v n k):(K.opened c ai m v n k).b=k.b:=by
 unfold K.opened;split
 ·rfl
 ·exact Xu c ai m k
def Av (c ai m v k):(K.answer c ai m v k).b=k.b:=by
 unfold K.answer K.end_;split;rfl;split;rfl;split;rfl;split;exact Xt c ai m k;split<;>rfl
def F3 (c ai m h k):(K.jf c ai m h k).b=k.b:=by
 unfold K.jf K.end_;split;rfl;split;rfl;exact Xu c ai m k
def Z4 (x k):(K.read x k).b=k.b:=by
 unfold K.read K.end_
 repeat' split
 all_goals rfl
def xl (x k):(K.read x k).work=k.work∧(K.read x k).ns=k.ns:=by
 unfold K.read K.end_
 repeat' split
 all_goals exact⟨rfl,rfl⟩
def MW {w0 w:World}{R:List a_}{c:Y.cA}(aE:Y.Ok c){m:K.Me}{pv:Value}{aO:List Value}{ai:List (List In)}(hm:oY m.call.prog m.call.args ai)(hP:∀w',Sep w0 w' R→cL w' pv aO ai){N:Int}(hN:N≤1000000){b:Nat}{k:K.St}(h:KI c ai m N k)(o:O3)(hv:W.U_ o.v)(hs:W.U_ o.s)(hS:Sep w0 w (iq c m pv aO b k::R)):
 bR 62 #[O b,.agg #[U o.v,U o.s,.bool o.ok]] w w0 (iq c m pv aO b (K.tell c ai m o k)::R):=by
 obtain⟨H,wv,bv,hE,h1⟩:=nC hS;have k9:0≤k.cZ∧k.cZ≤1000000:=by have:=h.cZ;omega
 rcases h.phase with e|e|e|e|e|e|e|e|e|e|e
 ·rw[DP e];exact(Rj hE o.v o.s o.ok e h1).mono λ_ _ hr=>⟨hr.1,fh hE hr.2⟩
 ·rw[DQ e];have UA:¬fR k.next:=by unfold fR;omega
  by_cases hg:k.given+1=4
  ·rw[aB hg];refine(Rb hE o.v o.s o.ok e h.given hg h1).mono λ_ _ hr=>⟨hr.1,fh hE (wv:=wv) (bv:=bv) ?_⟩;rw[hg];exact(lA (k:=k) (k2:={k with fresh:=false,eV:=false,given:=4,next:=1}) rfl (by unfold fR;dsimp only;omega) (hr.2.pull 1 rfl)).pull 1 rfl
  ·rw[aq hg];refine(Rc hE o.v o.s o.ok e h.given hg h1).mono λ_ _ hr=>⟨hr.1,fh hE (wv:=wv) (bv:=bv) ?_⟩;exact(lA (k:=k) (k2:={k with fresh:=false,eV:=false,given:=k.given+1}) rfl UA (hr.2.pull 1 rfl)).pull 1 rfl
 ·rw[DR e];refine(VB hE o.v o.s o.ok e h1).mono λ_ _ hr=>⟨hr.1,fh hE (wv:=wv) (bv:=bv) ?_⟩;exact(lA (k:=k) (k2:={k with fresh:=false,eV:=false,asked:=true,next:=2}) rfl (by unfold fR;dsimp only;omega) (hr.2.pull 1 rfl)).pull 1 rfl
 ·rw[xj e];have Tw:=F1 ai m {k with fresh:=true,eV:=false,nv:=o.v,ns:=o.s};refine(VC hE (aO:=aO) (λw' hw=>hP w' hw.tail.tail) hm.pu o.v o.s o.ok e h1).mono λ_ _ hr=>⟨hr.1,fh hE (wv:=wv) (bv:=bv) ?_⟩;rw[Tw.2.1];exact(lA (k:=k) Tw.1 Tw.2.2 (hr.2.pull 1 rfl)).pull 1 rfl
 ·rw[xk e];have h2:=(lA (k:=k) (k2:={k with fresh:=false,eV:=false}) rfl (by unfold fR;dsimp only;omega) (h1.pull 1 rfl)).pull 1 rfl;refine(VD aE hm hE (λw' hw=>hP w' hw.tail) h.nv k9 o.v o.s o.ok e h2).mono λ_ _ hr=>⟨hr.1,?_⟩;obtain⟨g_,h3⟩:=hr.2;refine fh hE (wv:=g_) (bv:=bv) ?_;rw[Ro];exact h3
 ·rw[y6 e];have h2:=(lA (k:=k) (k2:={k with fresh:=false,eV:=false}) rfl (by unfold fR;dsimp only;omega) (h1.pull 1 rfl)).pull 1 rfl;rcases e with e|e|e
  ·refine(VE aE hm hE (λw' hw=>hP w' hw.tail) k9 o.v o.s o.ok e h2).mono λ_ _ hr=>⟨hr.1,?_⟩;obtain⟨g_,h3⟩:=hr.2;refine fh hE (wv:=g_) (bv:=bv) ?_;rw[Av];exact h3
  ·refine(VF aE hm hE (λw' hw=>hP w' hw.tail) k9 o.v o.s o.ok e h2).mono λ_ _ hr=>⟨hr.1,?_⟩;obtain⟨g_,h3⟩:=hr.2;refine fh hE (wv:=g_) (bv:=bv) ?_;rw[Av];exact h3
  ·refine(VG aE hm hE (λw' hw=>hP w' hw.tail) k9 o.v o.s o.ok e h2).mono λ_ _ hr=>⟨hr.1,?_⟩;obtain⟨g_,h3⟩:=hr.2;refine fh hE (wv:=g_) (bv:=bv) ?_;rw[Av];exact h3
 ·rw[y7 e];obtain⟨y,hy⟩:=yI.1 (h.yl (.inr e));cases az3:o.ok with
  |false=>
   have es:K.iT c m false {k with fresh:=false,eV:=false}={k with fresh:=false,eV:=false,next:=2}:=by unfold K.iT;rw[aq (by decide)]
   rw[es];refine(MO hE o.v o.s e h1).mono λ_ _ hr=>⟨hr.1,fh hE (wv:=wv) (bv:=bv) ?_⟩;exact(lA (k:=k) (k2:={k with fresh:=false,eV:=false,next:=2}) rfl (by unfold fR;dsimp only;omega) (hr.2.pull 1 rfl)).pull 1 rfl
  |true=>
   refine(MP aE hE (prog:=m.call.prog) (args:=m.call.args) (tag:=m.tag) hy (by rw[(h.b y hy).1];decide) h.ns o.v o.s e ((h1.pull 1 rfl).tail)).mono λ_ _ hr=>⟨hr.1,?_⟩;obtain⟨g_,h3⟩:=hr.2;exact fh hE h3
 ·rw[j5 (.inr (.inl e))];obtain⟨x,hw,hG⟩:=h.m8 e;obtain⟨q,vJ,VM,h2⟩:=Ar hw (h1.pull 1 rfl);subst vJ;have VM:=VM (by unfold fR;omega);rw[VM]at h2;have ew:K.fX c ai m o.v o.s {k with fresh:=false,eV:=false}=K.read (X.tell c (K.code ai m) m.call.args k.ns o.v o.s x) {k with fresh:=false,eV:=false,work:= .ex (K.code ai m) (X.tell c (K.code ai m) m.call.args k.ns o.v o.s x)}:=by
   unfold K.fX;dsimp only;rw[hw]
  rw[ew];refine(Re aE hm.len hE (λw' hw=>(hP w' hw.tail).mA m.call.prog) k9 hG o.v o.s hv o.ok e (h2.pull 1 rfl)).mono λ_ _ hr=>⟨hr.1,?_⟩;have N0:=xl (X.tell c (K.code ai m) m.call.args k.ns o.v o.s x) {k with fresh:=false,eV:=false,work:= .ex (K.code ai m) (X.tell c (K.code ai m) m.call.args k.ns o.v o.s x)};refine fh hE (wv:= .iface 205 (O q.b1)) (bv:=bv) ?_;rw[Z4];exact(Al N0.1 (by rw[N0.2];exact hr.2.pull 1 rfl)).pull 1 rfl
 ·rw[j5 (.inr (.inr (.inl e)))];obtain⟨y,hw,hI,UJ⟩:=h.m9 e;obtain⟨q,vJ,VM,h2⟩:=As hw (h1.pull 1 rfl);subst vJ;have VM:=VM (by unfold fR;omega);rw[VM]at h2;have ew:K.fX c ai m o.v o.s {k with fresh:=false,eV:=false}=K.built c m (B.tell c ai k.ns o.v o.s y) {k with fresh:=false,eV:=false,work:= .bu (B.tell c ai k.ns o.v o.s y)}:=by
   unfold K.fX;dsimp only;rw[hw]
  rw[ew];refine(Rh aE hm.pu hE hP hI o.v o.s hv hs o.ok (λe2=>by rw[F0 c ai k.ns o.v o.s UJ e2];decide) h.ns e (h2.pull 1 rfl)).mono λ_ _ hr=>⟨hr.1,?_⟩;obtain⟨g_,DM,h3⟩:=hr.2;exact fh hE h3
 ·have e':fR k.next:=by unfold fR;omega
  rw[j5 e'];obtain⟨ow,s,hh,hw,hI⟩:=h.m4 e;obtain⟨hb,vJ,h2⟩:=At hw (h1.pull 1 rfl);subst vJ;have ew:K.fX c ai m o.v o.s {k with fresh:=false,eV:=false}=K.jf c ai m (Go.aS.H.tell c s o.v o.s hh) {k with fresh:=false,eV:=false,work:= .he ow s (Go.aS.H.tell c s o.v o.s hh)}:=by
   unfold K.fX;dsimp only;rw[hw]
  rw[ew];rcases e with e|e
  ·refine(MQ aE hm hE (λw' hw=>hP w' hw.tail) hI k9 o.v o.s hv hs o.ok e (h2.pull 1 rfl)).mono λ_ _ hr=>⟨hr.1,?_⟩;obtain⟨g_,h3⟩:=hr.2;refine fh hE (wv:=g_) (bv:=bv) ?_;rw[F3];exact h3
  ·refine(IS aE hm hE (λw' hw=>hP w' hw.tail) hI k9 o.v o.s hv hs o.ok e (h2.pull 1 rfl)).mono λ_ _ hr=>⟨hr.1,?_⟩;obtain⟨g_,h3⟩:=hr.2;refine fh hE (wv:=g_) (bv:=bv) ?_;rw[F3];exact h3
 ·have e':fR k.next:=by unfold fR;omega
  rw[j5 e'];obtain⟨s,l,d,hw,hl,hd⟩:=h.De e;obtain⟨sb,va,vJ,h2⟩:=Au hw (h1.pull 1 rfl);subst vJ;have ew:K.fX c ai m o.v o.s {k with fresh:=false,eV:=false}=if l.length+1<(if l.length+1<d then d else d+1)then{k with fresh:=false,eV:=false,work:= .sc s l (if l.length+1<d then d else d+1),next:=11}else{k with fresh:=false,eV:=false,work:= .sc s l (if l.length+1<d then d else d+1)}:=by
   unfold K.fX;dsimp only;rw[hw]
  rw[ew];have h3:Sep w0 w (bB H b (.iface 209 (O sb)) bv k::aJ sb 242 (Sc.tJ (ae c) m.aw s va d)::aU 0 234 2 va l.length (flat Sc.iS l)::bT c m.aw pv aO k.b bv::R):=h2.pull 2 rfl;refine(Ri hE (by omega) (by omega) o.v o.s o.ok e h3).mono λ_ _ hr=>⟨hr.1,?_⟩;have h4:=hr.2;generalize(if l.length+1<d then d else d+1)=d2 at*;by_cases hc:l.length+1<d2
  ·rw[aB hc]at h4⊢;exact fh hE ((Am (k:={k with fresh:=false,eV:=false,work:= .sc s l d2,next:=11}) rfl ((h4.pull 2 rfl).pull 2 rfl)).pull 1 rfl)
  ·rw[aq hc]at h4⊢;exact fh hE ((Am (k:={k with fresh:=false,eV:=false,work:= .sc s l d2}) rfl ((h4.pull 2 rfl).pull 2 rfl)).pull 1 rfl)
end Go.Proofs.YtolkmchicplaoaaGreat
namespace Go.aS.K
open Go.aS.Y Go.aS.I_
def HU (h:H.H):Prop:=(∀e∈h.list,W.U_ e.2)∧W.U_ h.cv∧W.U_ h.cs
def WU:Uf→Prop
 | .he _ s h=>W.U_ s∧HU h
 | .sc s l _=>W.U_ s∧(∀e∈l,W.U_ e.2)∧l.length≤65536
 |_=>True
def u0:W.U_ 0:=by unfold W.U_;omega
def ye (c h):∀g k,(H.gU c h g k).list=h.list∧(H.gU c h g k).cv=h.cv∧(H.gU c h g k).cs=h.cs
 |0,k=>⟨rfl,rfl,rfl⟩
 |g+1,k=>by
  unfold H.gU;split
  ·exact ye c h g (k+1)
  ·exact⟨rfl,rfl,rfl⟩
def HU.entry {c h}(hu:HU h)(k):HU (H.entry c h k):=by
 have e:=ye c h (h.list.length-k) k;unfold HU H.entry;rw[e.1,e.2.1,e.2.2];exact hu
def HU.zw {h}(hu:HU h)(b):HU (H.zw b h):=by
 unfold H.zw;split
 ·exact hu
 ·exact hu
def HU.tell {c seq v s h}(hu:HU h)(hv:W.U_ v)(hs:W.U_ s):HU (H.tell c seq v s h):=by
 unfold H.tell;split
 ·exact hu
 split
 ·refine⟨λe he=>?_,hu.2⟩;rcases jQ.1 (show e∈h.list++[(H.placeOf s,v)]from he)with h1|h1
  ·exact hu.1 e h1
  ·rw[jO.1 h1];exact hv
 split
 ·exact(hu.entry 0).zw _
 split
 ·exact hu
 split
 ·exact HU.zw (h:={h with held:=(jt c (H.nth h h.k.toNat).1).2.1,next:=5}) hu _
 split
 ·have h2:HU {h with cv:=v,cs:=s,next:=6}:=⟨hu.1,hv,hs⟩;split
  ·exact h2.entry _
  ·exact h2
 split
 ·exact hu.entry _
 split
 ·exact hu
 ·exact hu
end Go.aS.K
namespace Go.Proofs.YtolkmchicplaoaaGreat
open Go.RowKit Go.aS Go.aS.I_ Go.aS.Y
def BI.wu {c:Y.cA}{ai:List (List In)}{y:B.St}(h:BI c ai y):W.ou y.x.w:=by
 by_cases e:y.next=4
 ·exact(h.x4 e).1.xv.wu
 ·exact(h.xv e).wu
def CA {c:Y.cA}{ai:List (List In)}{y:B.St}(h:BI c ai y):∀e∈B.entries c y,W.U_ e.2:=λe he=>h.wu e (List.mem_filter.1 he).1
def RD {c ai m k}:K.WU (K.run c ai m k).work:=by
 unfold K.run;rw[(xl _ _).1];trivial
def RE {c ai m k}(h:K.WU k.work):K.WU (K.qu c ai m k).work:=by
 unfold K.qu;split
 ·exact h
 ·exact RD
def RF {n}(h:0≤n∧n≤4611686018427387904):W.U_ (n+1):=by unfold W.U_;omega
def uB {c}(aE:Y.Ok c){m b}(he:∀e∈B.entries c b,W.U_ e.2):∀(l:List B.Row) (k:K.St),(0≤k.ns∧k.ns≤4611686018427387904)→K.WU k.work→K.WU (K.ti c m b l k).work
 |[],k,_,h=>h
 |r::l,k,hn,h=>by
  unfold K.ti;split
  ·exact uB aE he l _ hn ⟨RF hn,λe hm=>he e (List.mem_of_mem_take hm),Aq aE _⟩
  ·exact uB aE he l _ hn h
def WU.tell {c}(aE:Y.Ok c){ai m}(hm:oY m.call.prog m.call.args ai){N k}(h:KI c ai m N k)(hw:K.WU k.work)(o)(hv:W.U_ o.v)(hs:W.U_ o.s):K.WU (K.tell c ai m o k).work:=by
 rcases h.phase with e|e|e|e|e|e|e|e|e|e|e
 ·rw[DP e];exact hw
 ·rw[DQ e];split<;>exact hw
 ·rw[DR e];exact hw
 ·rw[xj e];unfold K.looked;split<;>exact hw
 ·rw[xk e];unfold K.opened;split
  ·refine⟨?_,by simp,?_,?_⟩
   ·have:=h.ns;unfold W.U_;dsimp only;omega
   ·exact K.u0
   ·exact K.u0
  ·exact RE hw
 ·rw[y6 e];unfold K.answer;split
  ·exact hw
  split
  ·exact hw
  split
  ·exact hw
  split
  ·exact RD
  split
  ·exact hw
  ·trivial
 ·rw[y7 e];obtain⟨y,hy⟩:=yI.1 (h.yl (.inr e));unfold K.iT;split
  ·dsimp only;rw[hy];refine⟨RF h.ns,K.HU.entry (h:=⟨B.entries c y,0,0,-1,0,0,0⟩) ⟨CA (h.b y hy).2,K.u0,K.u0⟩ 0⟩
  ·exact hw
 ·rw[j5 (.inr (.inl e))];obtain⟨x,LA,_⟩:=h.m8 e;unfold K.fX;rw[LA];dsimp only;rw[(xl _ _).1];trivial
 ·rw[j5 (.inr (.inr (.inl e)))];obtain⟨y,LA,hI,_⟩:=h.m9 e;have hI:=hI.tell aE hm.pu k.ns o.v o.s hv hs;unfold K.fX;rw[LA];dsimp only;unfold K.built;split
  ·trivial
  split
  ·trivial
  ·exact uB aE (CA hI) _ _ h.ns trivial
 ·rw[j5 (by rcases e with e|e;exact .inl e;exact .inr (.inr (.inr (.inr e))))];obtain⟨ow,s,hh,LA,_⟩:=h.m4 e;rw[LA]at hw;unfold K.fX;rw[LA];dsimp only;have h2:K.WU (.he ow s (H.tell c s o.v o.s hh)):=⟨hw.1,hw.2.tell hv hs⟩;unfold K.jf;split
  ·exact h2
  split
  ·exact h2
  ·exact RE h2
 ·rw[j5 (.inr (.inr (.inr (.inl e))))];obtain⟨s,l,d,LA,_⟩:=h.De e;rw[LA]at hw;unfold K.fX;rw[LA];dsimp only
  repeat' split
  all_goals exact hw
def vP (x):W.U_ (IntKind.u64.wrap x):=by unfold W.U_;rw[ir];omega
def RG (v:Vw.V):W.U_ (Vw.ask v).1.nv∧W.U_ (Vw.ask v).1.ns:=by
 unfold Vw.ask;split<;>exact⟨K.u0,K.u0⟩
def aj5 {c:Y.cA}{ai:List (List In)}{m:K.Me}(hm:oY m.call.prog m.call.args ai)(DS:0≤m.aw∧m.aw≤1000)(ξ:W.U_ m.tag){N:Int}{k:K.St}(h:KI c ai m N k)(hw:K.WU k.work):W.U_ (K.ask c m k).1.nv∧W.U_ (K.ask c m k).1.ns:=by
 have z:=K.u0;have hW:W.U_ (K.sF c m k).1.nv∧W.U_ (K.sF c m k).1.ns:=by
  unfold K.sF;cases hk:k.work with
  |no=>exact⟨z,z⟩
  |ex cd x=>
   dsimp only;unfold X.ask;split
   ·exact⟨z,z⟩
   ·exact RG _
  |bu y=>
   dsimp only;unfold B.ask P.ask X.ask
   repeat' split
   all_goals first|exact⟨z,z⟩|exact RG _
  |he ow s hh=>
   rw[hk]at hw;dsimp only;have hn:∀j,W.U_ (H.nth hh j).2:=λj=>by
    unfold H.nth;by_cases hj:j<hh.list.length
    ·rw[cO,cy hj];exact hw.2.1 _ (cJ hj)
    ·rw[cO,lg (by omega)];exact z
   unfold H.ask
   repeat' split
   all_goals first|exact⟨z,z⟩|exact⟨vP _,z⟩|exact⟨hn _,hw.1⟩|exact⟨z,hw.1⟩
  |sc s l d=>
   rw[hk]at hw;dsimp only;split
   ·exact⟨z,z⟩
   ·dsimp only;unfold K.Hl;split
    ·rename_i hd;refine⟨?_,vP _⟩;dsimp only;rw[cO,cy hd];exact hw.2.1 _ (cJ hd)
    split
    ·exact⟨by have:=hw.2.2;show W.U_ (l.length:Int);unfold W.U_;omega,z⟩
    ·exact⟨by show W.U_ 1;unfold W.U_;omega,hw.1⟩
 unfold K.ask
 repeat' split
 all_goals first|exact⟨z,z⟩|exact hW|skip
 ·refine⟨?_,z⟩;dsimp only;by_cases hj:k.given.toNat<m.call.args.length
  ·rw[cO,cy hj];exact hm.au _ (cJ hj)
  ·rw[cO,lg (by omega)];exact z
 ·exact⟨vP _,ξ⟩
 ·exact⟨by show W.U_ m.aw;unfold W.U_;omega,RF h.ns⟩
def sS {c}(aE:Y.Ok c){kd i j}(hk:kd≠0):at_ c kd i j≠at_ c 0 0 0:=by
 have h0:Is c 0 0 0:=by
  unfold Is cr aP each;simp
 have e0:at_ c 0 0 0=0:=by unfold at_;rw[aB h0];rfl
 intro e;by_cases hi:Is c kd i j
 ·have e1:at_ c kd i j=place c kd i j:=by unfold at_;rw[aB hi]
  have e2:=lD aE hi;have e3:=lD aE h0;rw[e1,e0]at e;rw[e]at e2;rw[show place c 0 0 0=0 from rfl]at e3;rw[e2]at e3;exact hk (congrArg (·.1) e3)
 ·have e1:at_ c kd i j= -1:=by unfold at_;rw[aq hi]
  rw[e1,e0]at e;omega
def vQ {c}:at_ c 0 0 0=0:=by
 unfold at_;split
 ·rfl
 ·rename_i h;exact absurd (show Is c 0 0 0 by unfold Is cr aP each;simp) h
def AD (v:Vw.V):(Vw.ask v).1.k=0:=by
 unfold Vw.ask;split<;>rfl
def VX {c:Y.cA}(aE:Y.Ok c){ai:List (List In)}{m:K.Me}{N:Int}{k:K.St}(h:KI c ai m N k)(e:(K.ask c m k).1.a=at_ c 0 0 0):(K.ask c m k).1.k=0∨((K.ask c m k).1.k=2∧(K.ask c m k).1.ns=(K.ask c m k).1.os+1):=by
 have hW:(K.sF c m k).1.a=at_ c 0 0 0→(k.next=4∨k.next=12∨k.next=8∨k.next=9∨k.next=10)→(K.sF c m k).1.k=0:=by
  intro e hn;unfold K.sF at e⊢;cases hk:k.work with
  |no=>rfl
  |ex cd x=>
   rw[hk]at e;dsimp only at e⊢;unfold X.ask;split
   ·rfl
   ·exact AD _
  |bu y=>
   rw[hk]at e;dsimp only at e⊢;unfold B.ask at e⊢;split
   ·rfl
   rename_i h1;rw[aq h1]at e;split
   ·unfold P.ask;repeat' split
    all_goals rfl
   rename_i h2;rw[aq h2]at e;split
   ·rfl
   rename_i h3;rw[aq h3]at e;split
   ·exact AD _
   rename_i h4;rw[aq h4]at e;split
   ·rfl
   rename_i h5;rw[aq h5]at e;unfold X.ask;split
   ·rfl
   ·exact AD _
  |he ow s hh=>
   have hI:H.Inv c hh:=by
    rcases hn with h1|h1|h1|h1|h1
    ·obtain⟨o2,s2,h2,uV,hi⟩:=h.m4 (.inl h1);rw[hk]at uV;cases uV;exact hi
    ·obtain⟨o2,s2,h2,uV,hi⟩:=h.m4 (.inr h1);rw[hk]at uV;cases uV;exact hi
    ·obtain⟨_,uV,_⟩:=h.m8 h1;rw[hk]at uV;cases uV
    ·obtain⟨_,uV,_⟩:=h.m9 h1;rw[hk]at uV;cases uV
    ·obtain⟨_,_,_,uV,_⟩:=h.De h1;rw[hk]at uV;cases uV
   have hz:∀a,7≤(jt c a).1→a≠at_ c 0 0 0:=λa ha e2=>by
    have h0:Is c 0 0 0:=by
     unfold Is cr aP each;simp
    have e3:=lD aE h0;rw[e2,vQ]at ha;rw[show place c 0 0 0=0 from rfl]at e3;rw[e3]at ha;exact absurd ha (by decide)
   rw[hk]at e;dsimp only at e⊢;unfold H.ask at e⊢;split
   ·rfl
   rename_i h1;rw[aq h1]at e;split
   ·rfl
   rename_i h2;rw[aq h2]at e;split
   ·rfl
   rename_i h3;rw[aq h3]at e;split
   ·rename_i h4;rw[aB h4]at e;exact absurd e (sS aE (by decide))
   rename_i h4;rw[aq h4]at e;split
   ·rfl
   rename_i h5;rw[aq h5]at e;split
   ·rename_i h6;rw[aB h6]at e;exact absurd e (hz _ (hI.Ie (by omega)))
   rename_i h6;rw[aq h6]at e;split
   ·rename_i h7;rw[aB h7]at e;exact absurd e (sS aE (by decide))
   ·rfl
  |sc s l d=>
   rw[hk]at e;dsimp only at e⊢;split
   ·rfl
   ·rename_i h1;rw[aq h1]at e;dsimp only at e⊢;unfold K.Hl at e;split at e
    ·exact absurd e (sS aE (by decide))
    split at e
    ·exact absurd e (sS aE (by decide))
    ·exact absurd e (sS aE (by decide))
 unfold K.ask at e⊢;split
 ·rename_i h1;rw[aB h1]at e;exact absurd e (sS aE (by decide))
 rename_i h1;rw[aq h1]at e;split
 ·rename_i h2;rw[aB h2]at e;exact absurd e (sS aE (by decide))
 rename_i h2;rw[aq h2]at e;split
 ·exact .inl rfl
 rename_i h3;rw[aq h3]at e;split
 ·exact .inl rfl
 rename_i h4;rw[aq h4]at e;split
 ·exact .inl rfl
 rename_i h5;rw[aq h5]at e;split
 ·rename_i h6;rw[aB h6]at e;exact .inl (hW e h6)
 rename_i h6;rw[aq h6]at e;split
 ·exact .inr ⟨rfl,rfl⟩
 ·exact .inl rfl
def Rp {w0 w:World}{R:List a_}{c:Y.cA}(aE:Y.Ok c){m:K.Me}{pv:Value}{aO:List Value}{ai:List (List In)}(hm:oY m.call.prog m.call.args ai)(DS:0≤m.aw∧m.aw≤1000){N:Int}{b:Nat}{k:K.St}(h:KI c ai m N k)(hS:Sep w0 w (iq c m pv aO b k::R)):
 ba 60 #[O b] w (.tuple #[.agg (eF (K.ask c m k).1).toArray,.bool (K.ask c m k).2]):=by
 obtain⟨H,wv,bv,hE,h1⟩:=nC hS;have hW:∀{n:Int},k.next=n→n=4∨n=12∨n=8∨n=9∨n=10→K.ask c m k=K.sF c m k:=by
  intro n e hn;unfold K.ask;rw[aq (by omega),aq (by omega),aq (by omega),aq (by omega),aq (by omega),aB (by omega)]
 rcases h.phase with e|e|e|e|e|e|e|e|e|e|e
 ·have ea:K.ask c m k=(p0,false):=by
   unfold K.ask;rw[aq (by omega),aq (by omega),aq (by omega),aq (by omega),aq (by omega),aq (by omega),aq (by omega)]
  rw[ea];exact VK hE e h1
 ·have ea:K.ask c m k=(⟨1,at_ c 2 m.aw k.given,0,0,m.call.args.getD k.given.toNat 0,0⟩,true):=by unfold K.ask;rw[aB e]
  rw[ea];exact ZX aE hm.len hE e ⟨h.given.1,h.g0 e⟩ h1
 ·have ea:K.ask c m k=(⟨1,at_ c 1 m.aw 0,0,0,IntKind.u64.wrap m.call.prog,m.tag⟩,true):=by unfold K.ask;rw[aq (by omega),aB e]
  rw[ea];exact ZY aE hE e h1
 ·have ea:K.ask c m k=(⟨0,at_ c 0 0 0,0,0,0,0⟩,true):=by unfold K.ask;rw[aq (by omega),aq (by omega),aB e]
  rw[ea];exact ZZ aE hE e h1
 ·have ea:K.ask c m k=(⟨0,at_ c 4 (K.owner c k) 0,0,0,0,0⟩,true):=by unfold K.ask;rw[aq (by omega),aq (by omega),aq (by omega),aB e]
  rw[ea];exact Z0 aE hE h.nv e h1
 ·have ea:K.ask c m k=(⟨0,at_ c (7+(k.next-5)) m.aw 0,0,0,0,0⟩,true):=by unfold K.ask;rw[aq (by omega),aq (by omega),aq (by omega),aq (by omega),aB e]
  rw[ea];rcases e with e|e|e
  ·rw[show(7:Int)+(k.next-5)=7 by omega];exact Z1 aE hE e h1
  ·rw[show(7:Int)+(k.next-5)=8 by omega];exact Z2 aE hE e h1
  ·rw[show(7:Int)+(k.next-5)=9 by omega];exact Z3 aE hE e h1
 ·have ea:K.ask c m k=(⟨2,at_ c 0 0 0,k.nv,k.ns,m.aw,k.ns+1⟩,true):=by
   unfold K.ask;rw[aq (by omega),aq (by omega),aq (by omega),aq (by omega),aq (by omega),aq (by omega),aB e]
  rw[ea];exact VJ aE hE h.ns DS e h1
 ·rw[hW e (by omega)];obtain⟨x,hw,hG⟩:=h.m8 e;obtain⟨q,vJ,VM,h2⟩:=Ar hw (h1.pull 1 rfl);subst vJ;have ea:K.sF c m k=X.ask x:=by unfold K.sF;rw[hw]
  rw[ea];exact Rk hE e (pa:=X.ask x) (λw' RR hS=>Fk hG.xv.vs hS) (h2.pull 1 rfl)
 ·rw[hW e (by omega)];obtain⟨y,hw,hI,UJ⟩:=h.m9 e;obtain⟨q,vJ,VM,h2⟩:=As hw (h1.pull 1 rfl);subst vJ;have ea:K.sF c m k=B.ask c m.aw y:=by unfold K.sF;rw[hw]
  rw[ea];exact Rl hE e (pa:=B.ask c m.aw y) (λw' RR hS=>QU aE hI hS) (h2.pull 1 rfl)
 ·rw[hW rfl (by omega)];obtain⟨ow,s,hh,hw,hI⟩:=h.m4 e;obtain⟨hb,vJ,h2⟩:=At hw (h1.pull 1 rfl);subst vJ;have ea:K.sF c m k=Go.aS.H.ask c m.aw ow s hh:=by unfold K.sF;rw[hw]
  rw[ea];rcases e with e|e
  ·exact Rm hE e (pa:=Go.aS.H.ask c m.aw ow s hh) (λw' RR hS=>J_ hb c aE m.aw ow s hh hI.rE hS) (h2.pull 1 rfl)
  ·exact MR hE e (pa:=Go.aS.H.ask c m.aw ow s hh) (λw' RR hS=>J_ hb c aE m.aw ow s hh hI.rE hS) (h2.pull 1 rfl)
 ·rw[hW e (by omega)];obtain⟨s,l,d,hw,hl,hd⟩:=h.De e;obtain⟨sb,va,vJ,h2⟩:=Au hw (h1.pull 1 rfl);subst vJ;have ea:K.sF c m k=(if l.length+1<d then p0 else K.Hl c m.aw s l d,if l.length+1<d then false else true):=by
   unfold K.sF;rw[hw];dsimp only;split<;>rfl
  rw[ea];have h3:Sep w0 w (bB H b (.iface 209 (O sb)) bv k::t_ (aJ sb 242 (Sc.tJ (ae c) m.aw s va d)) (aU 0 234 2 va l.length (flat Sc.iS l))::bT c m.aw pv aO k.b bv::R):=(Sep.sy (R:=bB H b (.iface 209 (O sb)) bv k::bT c m.aw pv aO k.b bv::R) h2).pull 1 rfl;exact MS hE e (pa:=(if l.length+1<d then p0 else K.Hl c m.aw s l d,if l.length+1<d then false else true)) (λw' RR hS=>Rn aE (by omega) (by omega) (Sep.vf hS)) h3
def Rq {w0 w R c m pv aO b k}(hS:Sep w0 w (iq c m pv aO b k::R)):
 ba 83 #[O b] w (.bool (decide (k.next=13))):=by
 obtain⟨H,wv,bv,hE,h1⟩:=nC hS;exact fg hE h1
def IV {w0 w R c m pv aO b k}(hS:Sep w0 w (iq c m pv aO b k::R)):
 ba 89 #[O b] w (.bool k.fresh):=by
 obtain⟨H,wv,bv,hE,h1⟩:=nC hS;exact FI hE h1
def MY {w0 w R c m pv aO b k}(hS:Sep w0 w (iq c m pv aO b k::R)):
 ba 92 #[O b] w (.bool k.alone):=by
 obtain⟨H,wv,bv,hE,h1⟩:=nC hS;exact IF hE h1
def IW {w0 w R c m pv aO b k}(hS:Sep w0 w (iq c m pv aO b k::R)):
 ba 91 #[O b] w (.agg [I k.rc,U k.rv].toArray):=by
 obtain⟨H,wv,bv,hE,h1⟩:=nC hS;exact FJ hE h1
def M1 {w0 w R}(h:Sep w0 w R):Sep w0 w (oW (.slice none 0 0) []::R):=
 lH (ty:=178) (k:=5) (en:=gW) (pd:=B.Row.news) (v:= .slice none 0 0) (L:=[]) (dY:=[]) rfl ((h.ud.k5 0 178 5))
def zq38:(∀{w0 w R c H aw tag b pv wv bv prog args}(hE:KH (ae c) aw tag pv prog args H){k}(hd:k.eV=false)(hS:Sep w0 w (bB H b wv bv k::R)),jh 90 #[O b] w (.slice none 0 0) w0 (bB H b wv bv k::R))∧(∀{w0 w R c}(aE:Y.Ok c){H aw tag seq b bb pv wv prog args aO ai y}(hE:KH (ae c) aw tag pv prog args H){k}(hd:k.eV=true)(hI:BI c ai y)(hS:Sep w0 w (bB H b wv (O bb) k::df c aw seq bb pv aO y::R)),Calls Tryz.prog 90 #[O b] w λr w'=>∃v',r= .returned v'∧Sep w0 w' (oW v' y.rows::bB H b wv (O bb) k::df c aw seq bb pv aO y::R)):=by
 refine⟨?Z,?Y⟩
 case' Z=>intro w0 w R c H aw tag b pv wv bv prog args hE k hd hS
 case' Y=>intro w0 w R c aE H aw tag seq b bb pv wv prog args aO ai y hE k hd hI hS;have Q9:=aa (λw' RR hS=>Cr (w0:=w0) (w:=w') (R:=RR) (aw:=aw) (seq:=seq) (b:=bb) (pv:=pv) (aO:=aO) (y:=y) aE hI hS);generalize df c aw seq bb pv aO y=BB at*;generalize y.rows=L at*;clear hI
 case' Z|Y=>
  obtain⟨dG,bG,bD,bH,gZ,gC,cP,kb,bI,dC,ik,il,f_,gf,bJ⟩:=k;try dsimp only at*
  simp only[bB,nI,za]at hS⊢;have HE:=aa hE;have HS:=aa hS;clear hS hE;subst hd;have f41:=(HS.ar 0 rfl).aR HE.len 41 rfl rfl
 case' Z=>delta jh;go_in;go_wp2;go_ret
 case' Y=>have f39:=(HS.ar 0 rfl).aR HE.len 39 rfl rfl;go_in;go_wp2_with fail;refine(Q9.out _ _ (HS.pull 1 rfl)).mono ?_;rintro r w2 ⟨v',rfl,h1⟩;have HS:=aa h1;clear h1;go_wp2;go_ret
 case' Z=>exact⟨rfl,HS.out⟩
 exact⟨_,rfl,(HS.pull 2 rfl).pull 1 rfl⟩
def Rr:=@zq38.1
def M3:=@zq38.2
def Rs {w0 w R c}(aE:Y.Ok c){m pv aO ai N b k}(h:KI c ai m N k)(hd:k.eV=true→k.b≠none)(hS:Sep w0 w (iq c m pv aO b k::R)):
 Calls Tryz.prog 90 #[O b] w λr w'=>∃v',r= .returned v'∧Sep w0 w' (oW v' (K.rows k)::iq c m pv aO b k::R):=by
 obtain⟨H,wv,bv,hE,h1⟩:=nC hS;cases Z5:k.eV with
 |false=>
  have er:K.rows k=[]:=by unfold K.rows;rw[Z5];rfl
  rw[er];exact(Rr hE Z5 h1).mono λr w' hr=>⟨_,hr.1,M1 (fh hE hr.2)⟩
 |true=>
  obtain⟨y,hy⟩:=yI.1 (hd Z5);have er:K.rows k=y.rows:=by unfold K.rows;rw[Z5,hy];rfl
  rw[er];rw[hy]at h1;obtain⟨seq,bb,rfl,h2⟩:=Q8 (h1.pull 2 rfl);refine(M3 aE hE Z5 (h.b y hy).2 (h2.pull 1 rfl)).mono λr w' hr=>?_;obtain⟨v',e,h3⟩:=hr;refine⟨v',e,?_⟩;have h4:=DJ (h3.pull 2 rfl);have h5:Sep w0 w' (bB H b wv (O bb) k::cQ c m.aw pv aO (dh aO m.call.prog) m.call.args k wv::bT c m.aw pv aO k.b (O bb)::oW v' y.rows::R):=by
   rw[hy];exact(h4.pull 3 rfl).pull 3 rfl
  exact(fh hE h5).pull 1 rfl
def Rt {c ai m N k}(h:KI c ai m N k)(o)(hn:k.next≠13):(K.tell c ai m o k).eV=true→(K.tell c ai m o k).b≠none:=by
 have qZ:∀z:K.St,(K.run c ai m z).eV=z.eV:=by
  intro z;unfold K.run K.read K.end_
  repeat' split
  all_goals rfl
 have aj2:∀z:K.St,(K.qu c ai m z).eV=z.eV:=by
  intro z;unfold K.qu;split
  ·rfl
  ·exact qZ z
 have Ke:∀(x:X.St) (z:K.St),(K.read x z).eV=z.eV:=by
  intro x z;unfold K.read K.end_
  repeat' split
  all_goals rfl
 have dy:∀(y:B.St) (z:K.St) j,(gY c m.aw y z j).eV=z.eV:=by
  intro y z j;induction j with
  |zero=>rfl
  |succ j ih=>
   by_cases hj:j<y.rows.length
   ·rw[oZ _ _ _ _ _ hj];unfold m_;split
    ·exact ih
    ·exact ih
   ·unfold gY at ih⊢;rw[oA (by omega)]at ih⊢;exact ih
 have kL:∀{z:K.St},z.eV=false→z.eV=true→z.b≠none:=λh1 h2=>by rw[h1]at h2;cases h2
 rcases h.phase with e|e|e|e|e|e|e|e|e|e|e
 ·exact absurd e hn
 ·rw[DQ e];split<;>exact kL rfl
 ·rw[DR e];exact kL rfl
 ·rw[xj e];unfold K.looked K.end_;split<;>exact kL rfl
 ·rw[xk e];unfold K.opened;split
  ·exact kL rfl
  ·exact kL (aj2 _)
 ·rw[y6 e];unfold K.answer K.end_;split;exact kL rfl;split;exact kL rfl;split;exact kL rfl;split;exact kL (qZ _);split<;>exact kL rfl
 ·rw[y7 e];unfold K.iT;split
  ·exact λ_=>h.yl (.inr e)
  ·exact kL rfl
 ·rw[j5 (by unfold fR;omega)];obtain⟨x,hw,_⟩:=h.m8 e;unfold K.fX;dsimp only;rw[hw];exact kL (Ke _ _)
 ·rw[j5 (by unfold fR;omega)];obtain⟨y,hw,_⟩:=h.m9 e;unfold K.fX;dsimp only;rw[hw];dsimp only;unfold K.built;split
  ·exact kL rfl
  split
  ·exact kL rfl
  ·rw[oh];have e9:∀(y2:B.St) (z:K.St),y2.rows.foldl (m_ c m.aw y2) z=gY c m.aw y2 z y2.rows.length:=by intro y2 z;unfold gY;rw[tV]
   rw[e9];exact kL (dy _ _ _)
 ·rw[j5 (by unfold fR;omega)];obtain⟨o',s,hh,hw,_⟩:=h.m4 e;unfold K.fX;dsimp only;rw[hw];dsimp only;unfold K.jf K.end_;split
  ·exact kL rfl
  split
  ·exact kL rfl
  ·exact kL (aj2 _)
 ·rw[j5 (by unfold fR;omega)];obtain⟨s,l,d,hw,_⟩:=h.De e;unfold K.fX;dsimp only;rw[hw];dsimp only
  repeat' split
  all_goals exact kL rfl
def KI.new {c ai m N}(hN:0≤N):KI c ai m N (K.new ai m):=by
 have e:(K.new ai m).next=0∨(K.new ai m).next=2:=by unfold K.new;dsimp only;split<;>simp
 have hu:W.U_ 0:=K.u0;exact⟨by omega,by unfold K.new;dsimp only;omega,λ_=>by unfold K.new;dsimp only;omega,λ_ _ _=>rfl,λh=>(by cases h),⟨iu 0,hN⟩,hu,by unfold K.new;dsimp only;omega,λh=>by omega,λh=>by omega,λh=>by omega,λh=>by omega,λy h=>(by cases h),λh=>by omega⟩
def ο {ai m}:K.WU (K.new ai m).work:=trivial
def CB {c}(aE:Y.Ok c){ai m N k}(h:KI c ai m N k):(K.rows k).length≤8:=by
 unfold K.rows;split
 ·cases hb:k.b with
  |none=>simp
  |some y=>
   have h1:=(h.b y hb).2.bb.rows;have h2:=(h.b y hb).2.bb.u;have h3:=aE.t8;dsimp only;omega
 ·simp
def I7 {c:Y.cA}{ai:List (List In)}{m:K.Me}{N:Int}{k:K.St}(h:KI c ai m N k):∀r∈K.rows k,r.news.length≤8:=by
 unfold K.rows;split
 ·cases hb:k.b with
  |none=>simp
  |some y=>exact λr hr=>by rw[((h.b y hb).2.bb.news r hr).1];exact cE _
 ·simp
def MU (m:C.M):Prop:=∀p∈m.cells,W.U_ p.1∧W.U_ p.2
def MU.at {m}(h:MU m)(i):W.U_ (m.at i).1∧W.U_ (m.at i).2:=by
 unfold C.M.at;by_cases hi:i<m.cells.length
 ·rw[cO,cy hi];exact h _ (cJ hi)
 ·rw[cO,lg (by omega)];exact⟨K.u0,K.u0⟩
def MU.step {m}(h:MU m)(aw op)(hv:W.U_ op.nv)(hs:W.U_ op.ns):MU (m.step aw op):=by
 unfold C.M.step;split
 ·intro p hp;rcases k_ hp with h1|rfl
  ·exact h p h1
  ·have h2:=h.at op.a.toNat;unfold C.gI;split
   ·exact⟨hv,hs⟩
   split
   ·exact⟨vP _,h2.2⟩
   ·exact h2
 ·exact h
def MU.told {m}(h:MU m)(aw op):W.U_ (m.told aw op).v∧W.U_ (m.told aw op).s:=by
 unfold C.M.told;split
 ·exact h.at _
 ·exact⟨K.u0,K.u0⟩
def RH {m:C.M}(aw:Int)(op:C.BU)(h:op.a=0→op.k=0∨(op.k=2∧op.ns=op.os+1)):((m.step aw op).at 0).2≤(m.at 0).2+1:=by
 unfold C.M.step;split
 ·rename_i he;obtain⟨_,_,_,_,h0,h1⟩:=C.jV he;unfold C.M.at;dsimp only;by_cases ha:op.a=0
  ·rw[ha]at h1⊢;have hl:0<m.cells.length:=by omega
   rw[Int.toNat_zero,cO,eW hl];show(C.gI (m.cells.getD 0 (0,0)) op).2≤_;unfold C.gI;rcases h ha with hk|⟨hk,hn⟩
   ·rw[aq (by omega),aq (by omega)];omega
   ·split
    ·rename_i h2;have h3:m.cells.getD 0 (0,0)=(op.ov,op.os):=by rcases h2 with h2|h2;omega;exact h2.2
     rw[h3,hn];exact iu _
    ·rw[aq (by omega)];omega
  ·rw[cO,dF (by omega),←cO];omega
 ·omega
def Ga {m:C.M}(aw:Int)(op:C.BU):(m.step aw op).trace.length≤m.trace.length+1:=by
 unfold C.M.step;split
 ·rw[eE];simp
 ·omega
def Nc {m:C.M}(aw:Int)(op:C.BU):(m.step aw op).cells.length=m.cells.length:=by
 unfold C.M.step;split
 ·simp
 ·rfl
structure PI (ai:List (List In)):Prop where
 u:PU ai
 n:ai.length≤1000
 l:∀p∈ai,p.length≤100000
def jr (x:K.Call):Prop:=x.args.length=4∧∀r∈x.args,W.U_ r
structure TI (c:Y.cA)(ai:List (List In))(p rn:Int)(t:Nat)(u:Z.Th):Prop where
 calls:∀x∈u.calls,jr x
 count:0≤u.count∧u.count≤p
 at_:∀m k,u.at_=some (m,k)→m.aw=t∧m.tag=u.count∧jr m.call∧KI c ai m p k∧K.WU k.work∧k.next≠13∧0≤u.record∧u.record<rn
structure SI (c:Y.cA)(ai:List (List In))(n0:Int)(s:Z.St):Prop where
 aK:0≤s.aK∧s.aK≤65536
 mu:MU s.mem
 now:(s.mem.at 0).2≤n0+s.aK
 trace:(s.mem.trace.length:Int)≤s.aK
 t8:s.iB.length≤8
 rows:(s.rows.length:Int)≤9*s.aK
 aM:(s.aM.length:Int)≤s.aK
 news:∀r∈s.rows,r.news.length≤8
 steps:∀r∈s.aM,0≤r.steps∧r.steps≤s.aK
 th:∀(t:Nat) u,s.iB[t]?=some u→TI c ai s.aK s.aM.length t u
def TI.more {c ai p p2 rn rn2}(hp:p≤p2)(hr:rn≤rn2){t u}(h:TI c ai p rn t u):TI c ai p2 rn2 t u:=
 ⟨h.calls,by have:=h.count;omega,λm k e=>by
  obtain⟨a1,a2,a3,a4,a5,a6,a7,a8⟩:=h.at_ m k e;exact⟨a1,a2,a3,a4.more hp,a5,a6,a7,by omega⟩⟩
def jr.me {ai}(hp:PI ai){x}(h:jr x):oY x.prog x.args ai:=⟨h.1,h.2,hp.u⟩
def SI.ig {c}(aE:Y.Ok c){ai}(hp:PI ai){n0}(uX:n0≤1000000000000000){p s}(tK:s.aK=p+1)(A6:0≤p)(GJ:p<65536)
 (mu:MU s.mem)(now:(s.mem.at 0).2≤n0+p)(trace:(s.mem.trace.length:Int)≤p)(t8:s.iB.length≤8)(rows:(s.rows.length:Int)≤9*p)(aM:(s.aM.length:Int)≤p+1)(news:∀r∈s.rows,r.news.length≤8)(steps:∀r∈s.aM,0≤r.steps∧r.steps≤p)(th:∀(t:Nat) u,s.iB[t]?=some u→TI c ai (p+1) s.aM.length t u)
 {t u}(hu:s.iB[t]?=some u){m k}(jT:u.at_=some (m,k))(Ki:KI c ai m p k)(hlen:∀y,k.b=some y→(B.entries c y).length≤65536):SI c ai n0 (Z.ig c ai t s):=by
 have Et:=th t u hu;obtain⟨a1,a2,a3,a4,a5,a6,a7,a8⟩:=Et.at_ m k jT;have Xo:=Et.count;have lK:t<s.iB.length:=(dE.1 hu).1;have ox:Z.iO s t=u:=by unfold Z.iO;rw[cO,hu];rfl
 have hm:=a3.me hp;have ξ:W.U_ m.tag:=by unfold W.U_;omega
 obtain⟨k7,pH⟩:=aj5 hm (c:=c) (by omega) ξ Ki a5;have N4:=mu.told (t:Int) (Z.nN (K.ask c m k).1);have h2:k.next=2→(s.mem.told t (Z.nN (K.ask c m k).1)).s≤4611686018427387904:=by
  intro e;have e2:(Z.nN (K.ask c m k).1).a=0:=by
   show(K.ask c m k).1.a=0;unfold K.ask;rw[aq (by omega),aq (by omega),aB e];exact vQ (c:=c)
  unfold C.M.told;split
  ·rw[e2];show(s.mem.at (Int.toNat 0)).2≤_;rw[Int.toNat_zero];omega
  ·show(0:Int)≤_;omega
 have nf:KI c ai m (p+1) (K.tell c ai m (Z.o3 (s.mem.told t (Z.nN (K.ask c m k).1))) k):=Ki.tell aE hm _ N4.1 N4.2 h2 hlen;have Dr:K.WU (K.tell c ai m (Z.o3 (s.mem.told t (Z.nN (K.ask c m k).1))) k).work:=WU.tell aE hm Ki a5 _ N4.1 N4.2;have aj6:MU (s.mem.step t (Z.nN (K.ask c m k).1)):=mu.step _ _ k7 pH;have ax4:((s.mem.step t (Z.nN (K.ask c m k).1)).at 0).2≤n0+(p+1):=by
  have:=RH (m:=s.mem) (t:Int) (Z.nN (K.ask c m k).1) (λe=>VX aE Ki (by rw[vQ];exact e));omega
 have az6:=Ga (m:=s.mem) (t:Int) (Z.nN (K.ask c m k).1);unfold Z.ig;rw[ox,jT];dsimp only;generalize s.mem.step t (Z.nN (K.ask c m k).1)=π at*;generalize K.tell c ai m (Z.o3 (s.mem.told t (Z.nN (K.ask c m k).1))) k=k2 at*;have nR:=CB aE nf;have Gb:Z.iO {s with mem:=π} t=u:=ox;unfold Z.told;rw[Gb];dsimp only;have WL:0≤(s.aM.getD u.record.toNat Z.Hm).steps∧(s.aM.getD u.record.toNat Z.Hm).steps≤p:=by
  rw[cO,cy (show u.record.toNat<s.aM.length by omega)];exact steps _ (cJ _)
 have ax5:((s.rows++(K.rows k2).map (λx=>(⟨s.aK,x.aw,IntKind.i64.wrap x.tag,x.rc,x.rv,x.news⟩:Z.Row))).length:Int)≤9*p+8:=by
  rw[eE,dD];omega
 have ng:∀r∈s.rows++(K.rows k2).map (λx=>(⟨s.aK,x.aw,IntKind.i64.wrap x.tag,x.rc,x.rv,x.news⟩:Z.Row)),r.news.length≤8:=by
  intro r hr;rcases jQ.1 hr with h1|h1
  ·exact news r h1
  ·rw[mE]at h1;obtain⟨x,hx,rfl⟩:=h1;exact I7 nf x hx
 have nk:∀u2:Z.Th,TI c ai (p+1) s.aM.length t u2→∀(t2:Nat) u3,(s.iB.set t u2)[t2]?=some u3→TI c ai (p+1) s.aM.length t2 u3:=by
  intro u2 XZ t2 u3 h3;rw[tU]at h3;split at h3
  ·rename_i e;subst e;obtain rfl:=eQ h3;exact XZ
  ·exact th t2 u3 h3
 have D0:∀r1:Z.Rec,r1.steps=(s.aM.getD u.record.toNat Z.Hm).steps+1→∀r∈s.aM.set u.record.toNat r1,0≤r.steps∧r.steps≤p+1:=by
  intro r1 e1 r hr;rcases k_ hr with h1|rfl
  ·have:=steps r h1;omega
  ·omega
 split
 ·rename_i yX;refine⟨by dsimp only;omega,aj6,by dsimp only;omega,by dsimp only;omega,by dsimp only;rw[cF];exact t8,?_,by dsimp only;rw[cF];omega,?_,by dsimp only;rw[tK];exact D0 _ rfl,?_⟩
  ·dsimp only;split
   ·rw[eE,List.length_singleton];omega
   ·omega
  ·dsimp only;split
   ·intro r hr;rcases jQ.1 hr with h1|h1
    ·exact ng r h1
    ·rw[jO]at h1;subst h1;exact cE _
   ·exact ng
  ·dsimp only;rw[tK,cF];exact nk _ ⟨Et.calls,Et.count,λm' k' e=>by cases e⟩
 ·rename_i yX;refine⟨by dsimp only;omega,aj6,by dsimp only;omega,by dsimp only;omega,by dsimp only;rw[cF];exact t8,by dsimp only;omega,by dsimp only;rw[cF];omega,ng,by dsimp only;rw[tK];exact D0 _ rfl,?_⟩;dsimp only;rw[tK,cF];refine nk _ ⟨Et.calls,Et.count,λm' k' e=>?_⟩;cases e
  exact⟨a1,a2,a3,nf,Dr,yX,a7,a8⟩
def SI.begun {c ai n0 s}(h:SI c ai n0 s){t u}(hu:s.iB[t]?=some u)(jT:u.at_=none){x xs}(hc:u.calls=x::xs):
 ∃u2,(Z.dI ai t {s with aK:=s.aK+1}).iB[t]?=some u2∧u2.at_=some (⟨t,u.count+1,x⟩,K.new ai ⟨t,u.count+1,x⟩)∧u2.record=s.aM.length∧∀(t2:Nat) u3,(Z.dI ai t {s with aK:=s.aK+1}).iB[t2]?=some u3→TI c ai (s.aK+1) (s.aM.length+1) t2 u3:=by
 have lK:t<s.iB.length:=(dE.1 hu).1;have ox:Z.iO {s with aK:=s.aK+1} t=u:=by unfold Z.iO;rw[cO,hu];rfl
 have tK:=h.aK;have hT:=h.th t u hu;have Xo:=hT.count;have hx:jr x:=hT.calls x (by rw[hc];simp);have eb:(Z.dI ai t {s with aK:=s.aK+1}).iB=s.iB.set t {Z.begun ai t u with record:=s.aM.length}:=by
  unfold Z.dI Z.EX;rw[ox]
 have eh:u.calls.headD ⟨0,[]⟩=x:=by rw[hc];rfl
 rw[eb];refine⟨_,eW lK,by unfold Z.begun;rw[eh],rfl,λt2 u3 h3=>?_⟩;rw[tU]at h3;split at h3
 ·rename_i e;subst e;obtain rfl:=eQ h3;unfold Z.begun;rw[eh];refine⟨λy hy=>hT.calls y (List.mem_of_mem_tail hy),by dsimp only;omega,λm k e=>?_⟩;cases e
  have hn:(K.new ai ⟨t,u.count+1,x⟩).next=0∨(K.new ai ⟨t,u.count+1,x⟩).next=2:=by unfold K.new;dsimp only;split<;>simp
  exact⟨rfl,rfl,hx,KI.new (by omega),ο,by omega,by dsimp only;omega,by dsimp only;omega⟩
 ·exact(h.th t2 u3 h3).more (by omega) (by omega)
def k0 (n:Int):K.St:=⟨n,0,0,false,0,0,.no,none,false,false,0,0,0,0,false⟩
def M4 {w0 w R c m pv aO b H}(n)(hE:KH (ae c) m.aw m.tag pv m.call.prog m.call.args H)(h:Sep w0 w (bB H b .nilIface (.pointer none) (k0 n)::R)):Sep w0 w (iq c m pv aO b (k0 n)::R):=
 fh (wv:= .nilIface) (bv:= .pointer none) hE (((show Sep w0 w (NK::NK::bB H b .nilIface (.pointer none) (k0 n)::R)from h.ud.ud)).pull 2 rfl)
def Ru {w0 w:World}{R:List a_}{c:Y.cA}(aw tag prog:Int)(a0 a1 a2 a3:Int)(pa:Option Addr)(pn pc:Nat){aO:List Value}{ai:List (List In)}(hP:∀w',Sep w0 w' R→cL w' (.slice pa pn pc) aO ai)(Zx:PU ai)(hS:Sep w0 w R):
 Calls Tryz.prog 79 #[aY c,I aw,U tag,.slice pa pn pc,.agg #[I prog,U a0,U a1,U a2,U a3]] w λr w'=>∃b,r= .returned (O b)∧Sep w0 w' (iq c ⟨aw,tag,⟨prog,[a0,a1,a2,a3]⟩⟩ (.slice pa pn pc) aO b (K.new ai ⟨aw,tag,⟨prog,[a0,a1,a2,a3]⟩⟩)::R):=by
 have hE:=ai7 (show(ae c).length=24 from rfl) aw tag (.slice pa pn pc) prog (args:=[a0,a1,a2,a3]) rfl;have A5:K.new ai ⟨aw,tag,⟨prog,[a0,a1,a2,a3]⟩⟩=k0 (if right (K.bU ai prog)=false∨reads (K.bU ai prog)=true then 2 else 0):=rfl;rw[A5];clear A5;obtain⟨ca,cc,eT⟩:=((hP _ hS).mA prog).1.len;have wg:=aa (λw' b hP hS=>qH (w0:=w0) (w:=w') (R:=R) (b:=b) (wv:= .nilIface) (bv:= .pointer none) (aO:=aO) (ai:=ai) hE (k:=k0 0) hP hS);have Cm:=aa (λw' (hR:Sep w0 w' R)=>lp w' ca (K.bU ai prog).length cc (K.bU ai prog) rfl (Zx.mA prog) (by have:=(hP w' hR).mA prog;rwa [eT]at this));have nX:=aa (λw' (hR:Sep w0 w' R)=>ry w' ca (K.bU ai prog).length cc (K.bU ai prog) rfl (Zx.mA prog) (by have:=(hP w' hR).mA prog;rwa [eT]at this));rw[eT]at wg;have HP:=aa hP;have dQ:=aa (λw' b n (h:Sep w0 w' (bB (kH (ae c) aw tag (.slice pa pn pc) prog [a0,a1,a2,a3]) b .nilIface (.pointer none) (k0 n)::R))=>M4 (m:=⟨aw,tag,⟨prog,[a0,a1,a2,a3]⟩⟩) (aO:=aO) n hE h);obtain⟨CT,YH⟩:∃CT:Nat→Int→a_,CT=λb n=>iq c ⟨aw,tag,⟨prog,[a0,a1,a2,a3]⟩⟩ (.slice pa pn pc) aO b (k0 n):=⟨_,rfl⟩;have dQ:Hid (∀(w':World) b n,Sep w0 w' (bB (kH (ae c) aw tag (.slice pa pn pc) prog [a0,a1,a2,a3]) b .nilIface (.pointer none) (k0 n)::R)→Sep w0 w' (CT b n::R)):=aa (by rw[YH];exact dQ.out);suffices pG:Calls Tryz.prog 79 #[aY c,I aw,U tag,.slice pa pn pc,.agg #[I prog,U a0,U a1,U a2,U a3]] w λr w'=>∃b,r= .returned (O b)∧Sep w0 w' (CT b (if right (K.bU ai prog)=false∨reads (K.bU ai prog)=true then 2 else 0)::R) by
  rw[YH]at pG;exact pG
 clear YH eT hP;generalize(K.bU ai prog).length=cn at*;generalize right (K.bU ai prog)=rt at*;generalize reads (K.bU ai prog)=rd at*;have aD:(ae c).length=24:=rfl;unfold aY;have vG:=aa hE.len;clear hE;simp only[kH,bC,bB,nI,k0,zm,za,qP]at wg dQ vG;generalize ae c=cs at*;obtain⟨x0,x1,x2,x3,x4,x5,x6,x7,x8,x9,l4,l5,l6,l7,l8,l9,l_,mf,mh,mi,mj,mm,mo,mq,rfl⟩:=rQ aD;simp only[za]at wg dQ;have eG:=(hS.new 58 [x0,x1,x2,x3,x4,x5,x6,x7,x8,x9,l4,l5,l6,l7,l8,l9,l_,mf,mh,mi,mj,mm,mo,mq]).new 38 [I prog,U a0,U a1,U a2,U a3];simp only[cG]at eG;have HS:=aa eG;clear hS eG;have HM:=aa (HS.ar 1 rfl).range;have HA:=aa (HS.ar 0 rfl).range;cases rt with
 |false=>
  rw[aB (.inl rfl)];go_in;go_wp2_with(first|(refine ay 58 _ rfl rfl w.heap.size 0 rfl [x0,x1,x2,x3,x4,x5,x6,x7,x8,x9,l4,l5,l6,l7,l8,l9,l_,mf,mh,mi,mj,mm,mo,mq] _ HM.out underlying58 rfl (by kernel_rfl) ?_)|(refine ay 38 _ rfl rfl (w.heap.size+1) 0 rfl [I prog,U a0,U a1,U a2,U a3] _ HA.out underlying38 rfl (by kernel_rfl) ?_));have Dw:=HS.tail.tail.new 168 [x0,x1,x2,x3,x4,x5,x6,x7,x8,x9,l4,l5,l6,l7,l8,l9,l_,mf,mh,mi,mj,mm,mo,mq,I aw,U tag,.slice pa pn pc,I prog,U a0,U a1,U a2,U a3,I 0,I 0,I 0,.bool false,U 0,U 0,.nilIface,.pointer none,.bool false,.bool false,I 0,U 0,I 0,U 0,.bool false];simp only[cG]at Dw;have HS:=aa Dw;clear Dw;generalize World.alloc (World.alloc (World.alloc _ _) _) _=w9 at HS⊢;generalize w.heap.size+1+1=bq at HS⊢;refine(wg.out _ _ (HP.out _ HS.tail) HS.out).kq HS λw2 HS=>?_;go_wp2_with fail;refine(Cm.out _ HS.tail).kq HS λw3 HS=>?_;have f32:=(HS.ar 0 rfl).cell 32;have JK:=(HS.ar 0 rfl).az 32;have fl:=(HS.ar 0 rfl).lt;simp only[zg]at f32;have h5:=HS.set 0 rfl 32 (I 2);simp only[zs]at h5;have HS:=aa h5;clear h5;go_wp2;go_ret;exact⟨_,rfl,dQ.out _ _ 2 HS.out⟩
 |true=>
  cases rd with
  |true=>
   rw[aB (.inr rfl)];go_in;go_wp2_with(first|(refine ay 58 _ rfl rfl w.heap.size 0 rfl [x0,x1,x2,x3,x4,x5,x6,x7,x8,x9,l4,l5,l6,l7,l8,l9,l_,mf,mh,mi,mj,mm,mo,mq] _ HM.out underlying58 rfl (by kernel_rfl) ?_)|(refine ay 38 _ rfl rfl (w.heap.size+1) 0 rfl [I prog,U a0,U a1,U a2,U a3] _ HA.out underlying38 rfl (by kernel_rfl) ?_));have Dw:=HS.tail.tail.new 168 [x0,x1,x2,x3,x4,x5,x6,x7,x8,x9,l4,l5,l6,l7,l8,l9,l_,mf,mh,mi,mj,mm,mo,mq,I aw,U tag,.slice pa pn pc,I prog,U a0,U a1,U a2,U a3,I 0,I 0,I 0,.bool false,U 0,U 0,.nilIface,.pointer none,.bool false,.bool false,I 0,U 0,I 0,U 0,.bool false];simp only[cG]at Dw;have HS:=aa Dw;clear Dw;generalize World.alloc (World.alloc (World.alloc _ _) _) _=w9 at HS⊢;generalize w.heap.size+1+1=bq at HS⊢;refine(wg.out _ _ (HP.out _ HS.tail) HS.out).kq HS λw2 HS=>?_;go_wp2_with fail;refine(Cm.out _ HS.tail).kq HS λw3 HS=>?_;go_wp2_with fail;refine(wg.out _ _ (HP.out _ HS.tail) HS.out).kq HS λw4 HS=>?_;go_wp2_with fail;refine(nX.out _ HS.tail).kq HS λw5 HS=>?_;have f32:=(HS.ar 0 rfl).cell 32;have JK:=(HS.ar 0 rfl).az 32;have fl:=(HS.ar 0 rfl).lt;simp only[zg]at f32;have h5:=HS.set 0 rfl 32 (I 2);simp only[zs]at h5;have HS:=aa h5;clear h5;go_wp2;go_ret;exact⟨_,rfl,dQ.out _ _ 2 HS.out⟩
  |false=>
   rw[aq (by simp)];go_in;go_wp2_with(first|(refine ay 58 _ rfl rfl w.heap.size 0 rfl [x0,x1,x2,x3,x4,x5,x6,x7,x8,x9,l4,l5,l6,l7,l8,l9,l_,mf,mh,mi,mj,mm,mo,mq] _ HM.out underlying58 rfl (by kernel_rfl) ?_)|(refine ay 38 _ rfl rfl (w.heap.size+1) 0 rfl [I prog,U a0,U a1,U a2,U a3] _ HA.out underlying38 rfl (by kernel_rfl) ?_));have Dw:=HS.tail.tail.new 168 [x0,x1,x2,x3,x4,x5,x6,x7,x8,x9,l4,l5,l6,l7,l8,l9,l_,mf,mh,mi,mj,mm,mo,mq,I aw,U tag,.slice pa pn pc,I prog,U a0,U a1,U a2,U a3,I 0,I 0,I 0,.bool false,U 0,U 0,.nilIface,.pointer none,.bool false,.bool false,I 0,U 0,I 0,U 0,.bool false];simp only[cG]at Dw;have HS:=aa Dw;clear Dw;generalize World.alloc (World.alloc (World.alloc _ _) _) _=w9 at HS⊢;generalize w.heap.size+1+1=bq at HS⊢;refine(wg.out _ _ (HP.out _ HS.tail) HS.out).kq HS λw2 HS=>?_;go_wp2_with fail;refine(Cm.out _ HS.tail).kq HS λw3 HS=>?_;go_wp2_with fail;refine(wg.out _ _ (HP.out _ HS.tail) HS.out).kq HS λw4 HS=>?_;go_wp2_with fail;refine(nX.out _ HS.tail).kq HS λw5 HS=>?_;go_wp2;go_ret;exact⟨_,rfl,dQ.out _ _ 0 HS.out⟩
end Go.Proofs.YtolkmchicplaoaaGreat
namespace Go.aS
def nD {T:Type}{en:T→List Value}{n}(hn:∀x,(en x).length=n)(l){i}(hi:i<l.length){j}(hj:j<n)(v)(x':T)(h:en x'=(en l[i]).set j v):(flat en l).set (i*n+j) v=flat en (l.set i x'):=by
 refine oO hn _ (by rw[cF,ck hn,cF]) λk hk q hq=>?_;rw[cF]at hk;rw[tU,so];by_cases e:i=k
 ·subst e;rw[aB rfl,h];by_cases e2:j=q
  ·subst e2;have hl:i*n+j<(flat en l).length:=by
    rw[ck hn];have:(i+1)*n≤l.length*n:=wo n hi;rw[oH]at this;omega
   rw[aB rfl,aB hl,tU,aB rfl,aB (by rw[hn];exact hj)]
  ·rw[aq (by omega),dF e2,cI hn l i hi q hq]
 ·rw[aq e,aq ?_,cI hn l k hk q hq];intro e3;have h1:(i*n+j)/n=i:=by rw[fN,px,Nat.add_mul_div_left _ _ (by omega),Nat.div_eq_of_lt hj];omega
  have h2:(k*n+q)/n=k:=by rw[fN,px,Nat.add_mul_div_left _ _ (by omega),Nat.div_eq_of_lt hq];omega
  rw[e3,h2]at h1;exact e h1.symm
end Go.aS
namespace Go.Proofs.YtolkmchicplaoaaGreat
open Go.RowKit Go.aS Go.aS.I_ Go.aS.Y
def iw (x:K.Call):List Value:=[I x.prog,U (x.args.getD 0 0),U (x.args.getD 1 0),U (x.args.getD 2 0),U (x.args.getD 3 0)]
def eI (r:Z.Rec):List Value:=[I r.aw,I r.tag,I r.call.prog,U (r.call.args.getD 0 0),U (r.call.args.getD 1 0),U (r.call.args.getD 2 0),U (r.call.args.getD 3 0),I r.from_,I r.NN,I r.steps,.bool r.done,I r.rc,U r.rv]
def j6 (nv:Value)(r:Z.Row):List Value:=[I r.at_,I r.aw,I r.tag,I r.rc,U r.rv,nv]
def jD (r):(eI r).length=13:=rfl
def ux (r):(iw r).length=5:=rfl
def M5 (r):∀u∈eI r,u.oneCell'=true:=by simp[eI,Value.oneCell']
def IX (r):∀u∈iw r,u.oneCell'=true:=by simp[iw,Value.oneCell']
def fG (v:Value)(L:List Z.Row):a_:=Ab 51 26 6 j6 Z.Row.news v L
def Aw (v:Value)(l:List K.Call):a_:=
 if l=[]then ie (∃ad cap,v= .slice ad 0 cap) NK else EG λg=>ie (∃o cap,v= .slice (some ⟨g,o,none⟩) l.length cap) (Yn iw 5 g v l)
structure TQ where
 cv:Value
 ab:Nat
def Rv (q:TQ)(th:Z.Th):Value:=match th.at_ with|some _=> O q.ab|none=> .pointer none
def gp (p:TQ×Z.Th):List Value:=[p.1.cv,Rv p.1 p.2,I p.2.record,I p.2.count,I p.2.looked]
def iD (p:TQ×Z.Th):(gp p).length=5:=rfl
def vK (c:Y.cA)(pv:Value)(aO:List Value)(p:TQ×Z.Th):a_:=
 t_ (Aw p.1.cv p.2.calls) (match p.2.at_ with|some (m,k)=>iq c m pv aO p.1.ab k|none=>NK)
def kJ (pv:Value)(aO:List Value)(ai:List (List In)):a_:=
 ie (aO.length=ai.length) (cM (aU 0 29 1 pv aO.length aO::(aO.zip ai).map (λp=>aU 0 28 5 p.1 p.2.length (flat gl p.2))))
def Pm (cs:List Value)(mb:Nat)(pv:Value):List Value:=cs++[O mb,pv]
structure SH (cs:List Value)(mb:Nat)(pv:Value)(H:List Value):Prop where
 len:H.length=26
 m:∀k,k<24→H[k]?=cs[k]?
 mem:H[24]?=some (O mb)
 pv:H[25]?=some pv
def Z6 {cs}(aD:cs.length=24)(mb pv):SH cs mb pv (Pm cs mb pv):=by
 unfold Pm;refine⟨by simp[aD],λk hk=>gm (by omega),?_,?_⟩;all_goals(rw[gw (by omega),aD];rfl)
def Es (H:List Value)(c:Y.cA)(b mb:Nat)(pv lZ iV iP:Value)(aO:List Value)(ai:List (List In))(L:List (TQ×Z.Th))(s:Z.St):List a_:=
 [aJ b 106 (H++[lZ,I s.aK,iV,iP]),dP mb s.mem,aU 0 132 5 lZ L.length (flat gp L),aU 0 55 13 iV s.aM.length (flat eI s.aM),fG iP s.rows,kJ pv aO ai,cM (L.map (vK c pv aO))]
structure ZQ where
 H:List Value
 mb:Nat
 pv:Value
 lZ:Value
 iV:Value
 iP:Value
 aO:List Value
 L:List (TQ×Z.Th)
def dx (c:Y.cA)(ai:List (List In))(b:Nat)(s:Z.St):a_:=
 EG λq:ZQ=>ie (SH (ae c) q.mb q.pv q.H∧q.L.map (·.2)=s.iB) (cM (Es q.H c b q.mb q.pv q.lZ q.iV q.iP q.aO ai q.L s))
def kr {w0 w R c ai b s}(h:Sep w0 w (dx c ai b s::R)):∃H mb pv lZ iV iP aO L,SH (ae c) mb pv H∧L.map (·.2)=s.iB∧Sep w0 w (Es H c b mb pv lZ iV iP aO ai L s++R):=by
 obtain⟨q,h1⟩:=h.rZ;obtain⟨h2,h3⟩:=h1.jn;exact⟨q.H,q.mb,q.pv,q.lZ,q.iV,q.iP,q.aO,q.L,h2.1,h2.2,h3.ofList⟩
def tA {w0 w R c ai b mb s H pv lZ iV iP aO L}(hE:SH (ae c) mb pv H)(hL:L.map (·.2)=s.iB)(h:Sep w0 w (Es H c b mb pv lZ iV iP aO ai L s++R)):Sep w0 w (dx c ai b s::R):=
 Sep.qX (A:=ZQ) (λq:ZQ=>ie (SH (ae c) q.mb q.pv q.H∧q.L.map (·.2)=s.iB) (cM (Es q.H c b q.mb q.pv q.lZ q.iV q.iP q.aO ai q.L s))) (a:=⟨H,mb,pv,lZ,iV,iP,aO,L⟩) (Sep.iK h.toList ⟨hE,hL⟩)
def as0 {H:List Value}(hH:H.length=26)(t:List Value){k:Nat}(hk:k<26):(H++t)[k]?=H[k]?:=gm (by omega)
def az4 {H:List Value}(hH:H.length=26)(t:List Value)(k:Nat)(hk:26≤k):(H++t)[k]?=t[k-26]?:=by rw[gw (by omega),hH]
def xZ {H:List Value}(hH:H.length=26)(t:List Value)(k:Nat)(v:Value)(hk:26≤k):(H++t).set k v=H++t.set (k-26) v:=by rw[eD _ _ (by omega),hH]
def Xv {w b}{T:TypeId}{cs H t mb pv}(aD:cs.length=24)(hE:SH cs mb pv H)(h:cB w b T (H++t)):w.rangeAt b 0 cs:=λj u hj=>by
 have zM:j<24:=by rw[←aD];exact(dE.1 hj).1
 have:=(h.cell j).trans ((as0 hE.len _ (by omega)).trans ((hE.m j zM).trans hj));simpa using this
def y4 {code:List In}(h:ai0 code):∀i∈code,0≤i.bN∧i.bN≤18446744073709551615:=by
 rcases h with rfl|rfl|rfl<;>decide
def Cu {w0 w:World}{R:List a_}{pv:Value}{aO:List Value}{ai:List (List In)}(hf:ai.length≤1000)(hl:∀p∈ai,p.length≤100000)(hu:PU ai)(h:Sep w0 w (kJ pv aO ai::R)):cL w pv aO ai:=by
 obtain⟨hlen,h1⟩:=h.jn;have h2:=h1.ofList;have qz:w.ownsRow 0 29 1 pv aO.length aO:=h2.row 0 rfl;have B5:flat (λv:Value=> [v]) aO=aO:=by
  unfold flat;simp
 refine⟨dB.kG (en:=λv:Value=> [v]) (n:=1) (λ_=>rfl) (by rw[B5];exact qz),hlen,λk hk=>?_,hf⟩;have hz:((aO.zip ai).map (λp=>aU 0 28 5 p.1 p.2.length (flat gl p.2)))[k]?=some (aU 0 28 5 (aO[k]'(by omega)) ai[k].length (flat gl ai[k])):=by
  rw[jE,cy (show k<(aO.zip ai).length by rw[nK];omega),uQ];rfl
 have h3:w.ownsRow 0 28 5 (aO[k]'(by omega)) ai[k].length (flat gl ai[k]):=h2.row (k+1) (by
  rw[CR,pN,gm (by rw[dD,nK];omega)];exact hz)
 exact⟨dB.kG yT h3,hl _ (cJ hk),y4 (hu _ (cJ hk))⟩
end Go.Proofs.YtolkmchicplaoaaGreat
namespace Go.aS
def dB.as1 {T:Type}{en:T→List Value}{n w a m cap l}(h:dB en n w (.slice a m cap) l)(i k)(hi:i≤k)(hk:k≤l.length):
 dB en n w (.slice (if cap=i then a else Option.map (λx=>x.add (i*n)) a) (k-i) (cap-i)) ((l.take k).drop i):=by
 obtain⟨a',tW,e,hc,h⟩:=h;simp only[dk]at e;obtain⟨rfl,rfl,rfl⟩:=e;have hl:((l.take k).drop i).length=k-i:=by rw[List.length_drop,oE];omega
 refine⟨_,_,by rw[hl],by rw[hl];omega,?_⟩;by_cases rX:k=i
 ·left;exact nJ (by omega)
 rcases h with h|⟨x,rfl,hx,xL⟩
 ·left;subst h;simp
 ·right;rw[aq (by omega)];refine⟨x.add (i*n),rfl,?_,λj hj q u hq=>?_⟩
  ·have:(x.add (i*n)).block=x.block:=by unfold Addr.add;split<;>rfl
   rw[this];exact hx
  ·rw[hl]at hj;have:=xL (i+j) (by omega) q u (by rw[List.getElem_drop,List.getElem_take]at hq;exact hq);rw[Go.Deep.add_add,show i*n+(j*n+q)=(i+j)*n+q by rw[Nat.add_mul];omega];exact this
def VN {w0 w R}{T:Type}{en:T→List Value}{n g a m cap l}(h:Sep w0 w (Yn en n g (.slice a m cap) l::R))(i)(hi:i≤l.length):Sep w0 w (Yn en n g (.slice (if cap=i then a else Option.map (λx=>x.add (i*n)) a) (m-i) (cap-i)) (l.drop i)::R):=by
 obtain⟨fp,⟨rfl,hl,hA,hg⟩,hb,nk⟩:=h.get 0 rfl;refine nk _ w [g] ⟨rfl,hl,?_,?_⟩ (Fr.refl _ w) (λk hk=> .inl hk)
 ·obtain⟨a',tW,e,hc,_⟩:=id hA;simp only[dk]at e;obtain⟨rfl,rfl,rfl⟩:=e;have:=hA.as1 i l.length hi (dp _);rwa [tV]at this
 ·intro a2 m2 c2 e;simp only[dk]at e;obtain⟨e,rfl,rfl⟩:=e;cases a with
  |none=>split at e<;>cases e
  |some x=>
   have hx:=hg x m cap rfl;split at e
   ·obtain rfl:=eQ e;exact hx
   ·obtain rfl:=eQ e;unfold Addr.add;split<;>exact hx
end Go.aS
namespace Go.Proofs.YtolkmchicplaoaaGreat
open Go.RowKit Go.aS Go.aS.I_ Go.aS.Y
def Kf {w0 w R v l}(h:Sep w0 w (Aw v l::R)):∃a cap,v= .slice a l.length cap:=by
 unfold Aw at h;split at h
 ·next e=>subst e;obtain⟨⟨a,cap,e⟩,_⟩:=h.jn;exact⟨a,cap,e⟩
 ·obtain⟨g,h1⟩:=h.rZ;obtain⟨⟨o,cap,e⟩,_⟩:=h1.jn;exact⟨_,cap,e⟩
def VO {w0 w R v x l}(h:Sep w0 w (Aw v (x::l)::R)):∃g o cap,v= .slice (some ⟨g,o,none⟩) (l.length+1) cap∧g<w.heap.size∧w.rangeAt g o (iw x):=by
 unfold Aw at h;rw[aq (by simp)]at h;obtain⟨g,h1⟩:=h.rZ;obtain⟨⟨o,cap,e⟩,h2⟩:=h1.jn;have hA:=h2.ro 0 rfl;subst e;obtain⟨x2,e2,hb,f0,ff⟩:=hA.at (i:=0) (by simp);obtain rfl:=eQ e2;refine⟨g,o,cap,rfl,hb,λj u hj=>?_⟩;cases j with
 |zero=>exact f0 u hj
 |succ j=>simpa[Addr.add]using ff j u hj
def Z7 {w0 w R g o m cap x l}(h:Sep w0 w (Aw (.slice (some ⟨g,o,none⟩) m cap) (x::l)::R)):Sep w0 w (Aw (.slice (if cap=1 then(some ⟨g,o,none⟩)else some ⟨g,o+5,none⟩) l.length (cap-1)) l::R):=by
 obtain⟨a',tW,e⟩:=Kf h;simp only[dk]at e;obtain⟨rfl,rfl,rfl⟩:=e;unfold Aw at h⊢;rw[aq (by simp)]at h;obtain⟨g2,h1⟩:=h.rZ;obtain⟨⟨o2,aj3,e2⟩,h1⟩:=h1.jn;simp only[dk,eX,Addr.mk.injEq]at e2;obtain⟨⟨rfl,rfl,-⟩,-,-⟩:=e2;have h2:=VN h1 1 (by simp);have ea:(Option.map (λx:Addr=>x.add (1*5)) (some ⟨g,o,none⟩))=some ⟨g,o+5,none⟩:=rfl;rw[List.drop_one,List.tail_cons,ea,dT,Nat.add_sub_cancel]at h2;split
 ·next e=>
  subst e;exact Sep.iK (h2.tail.ud) ⟨_,_,rfl⟩
 ·next e=>
  obtain⟨a3,c3,e3,W9,_⟩:=h1.ro 0 rfl;simp only[dk,dT]at e3 W9;have hp:=List.length_pos_iff.2 e;rw[aq (by omega)]at h2⊢;exact Sep.qX (A:=Nat) (λg'=>ie (∃o' tW,_=Value.slice (some ⟨g',o',none⟩) l.length tW) (Yn iw 5 g' _ l)) (a:=g) (Sep.iK h2 ⟨_,_,rfl⟩)
def vL {T U_:Type}{f:T→U_}{L:List T}{l:List U_}(h:L.map f=l){t:Nat}(ht:t<L.length):l[t]?=some (f L[t]):=by
 rw[←h,jE,cy ht];rfl
def Ax {c w0 w H b mb pv lZ iV iP aO ai L s R t}(ht:t<L.length)(h:Sep w0 w (Es H c b mb pv lZ iV iP aO ai L s++R)):Sep w0 w (vK c pv aO L[t]::cM ((L.map (vK c pv aO)).eraseIdx t)::aJ b 106 (H++[lZ,I s.aK,iV,iP])::dP mb s.mem::aU 0 132 5 lZ L.length (flat gp L)::aU 0 55 13 iV s.aM.length (flat eI s.aM)::fG iP s.rows::kJ pv aO ai::R):=by
 have h1:Sep w0 w (cM (L.map (vK c pv aO))::aJ b 106 (H++[lZ,I s.aK,iV,iP])::dP mb s.mem::aU 0 132 5 lZ L.length (flat gp L)::aU 0 55 13 iV s.aM.length (flat eI s.aM)::fG iP s.rows::kJ pv aO ai::R):=h.pull 6 rfl;exact h1.pick (by rw[jE,cy ht];rfl)
def xm {c w0 w pv aO}{p:TQ×Z.Th}{R}(h:Sep w0 w (vK c pv aO p::R)):Sep w0 w (Aw p.1.cv p.2.calls::(match p.2.at_ with|some (m,k)=>iq c m pv aO p.1.ab k|none=>NK)::R):=Sep.vf h
def zq39:(∀{w0 w R c ai b s}(t)(ht:t<0∨(s.iB.length:Int)≤t)(hS:Sep w0 w (dx c ai b s::R)),ba 58 #[O b,I t] w (.bool true))∧(∀{w0 w R}{c:Y.cA}{ai:List (List In)}{b:Nat}{s:Z.St}(t:Nat)(ht:t<s.iB.length)(hS:Sep w0 w (dx c ai b s::R)),ba 58 #[O b,I (t:Int)] w (.bool (s.iB[t].at_.isNone&&s.iB[t].calls.isEmpty))):=by
 refine⟨?Z,?Y⟩
 case' Z|Y=>intro w0 w R c ai b s t ht hS;obtain⟨H,mb,pv,lZ,iV,iP,aO,L,hE,hL,h⟩:=kr hS;have tz:s.iB.length=L.length:=by rw[←hL,dD]
 case' Z=>rw[tz]at ht;clear hL tz hS
 case' Y=>
  have DT:t<L.length:=by omega
  have e2:s.iB[t]=L[t].2:=by
   have:=vL hL DT;rw[cy ht]at this;exact eQ this
  rw[e2];clear e2;obtain⟨cad,cap,eT⟩:=Kf (xm (Ax DT h))
 case' Z|Y=>have HE:=aa hE;unfold Es at h;obtain⟨ta,tc,rfl⟩:=h.form 2 rfl
 case' Z=>generalize L.length=n at*;have HS:=aa h;clear hE h
 case' Y=>have hA:dB gp 5 w (.slice ta L.length tc) L:=dB.kG iD (h.row 2 rfl);obtain⟨x,rfl,NO,f0,ff⟩:=hA.at DT;have c0:=f0 _ rfl;have c1:=ff 0 _ rfl;have HS:=aa h
 case' Z|Y=>have f26:=(HS.ar 0 rfl).aR HE.len 26 rfl rfl;have HF:=aa (Fr.refl [] w)
 case' Z=>clear HS HE
 case' Y=>rw[eT]at c0;have h0:decide ((t:Int)<0)=false:=cW (by omega);have h1n:decide (L.length≤t)=false:=cW (by omega);have HT:=aa DT;unfold Rv at c1;generalize L[t]=p at*;clear hL tz hS ht hE h HS HE hA f0 ff eT DT;obtain⟨p1,p2⟩:=p;dsimp only at*;generalize L.length=n at*
 case' Z=>
  by_cases h0:t<0
  ·have e0:decide (t<0)=true:=eP h0;clear ht;delta ba;go_in;go_wp2;go_ret;exact⟨rfl,HF.out⟩
  ·have e0:decide (t<0)=false:=cW h0;have h1:(n:Int)≤t:=by omega
   clear ht;delta ba;go_in;go_wp2;go_ret;exact⟨rfl,HF.out⟩
 cases jT:p2.at_ with
 |none=>
  rw[jT]at c1;dsimp only at c1;rw[show(Option.isNone (none:Option (K.Me×K.St))&&p2.calls.isEmpty)=((p2.calls.length:Int)==0) by cases p2.calls with|nil=>rfl|cons x xs=>symm;rw[Option.isNone_none,List.isEmpty_cons,Bool.and_false,beq_eq_false_iff_ne,dT];omega];delta ba;go_in;go_wp2;go_ret;exact⟨rfl,HF.out⟩
 |some mk=>
  rw[jT]at c1;dsimp only at c1;rw[show(Option.isNone (some mk:Option (K.Me×K.St))&&p2.calls.isEmpty)=false from rfl];delta ba;go_in;go_wp2;go_ret;exact⟨rfl,HF.out⟩
def Rw:=@zq39.1
def VP:=@zq39.2
def Ay {w0 w R c ai b s}(t)(hS:Sep w0 w (dx c ai b s::R)):
 ba 58 #[O b,I t] w (.bool (Z.idle s t)):=by
 by_cases ht:t<0∨(s.iB.length:Int)≤t
 ·have e:Z.idle s t=true:=by unfold Z.idle;rw[eP ht,Bool.true_or]
  rw[e];exact Rw t ht hS
 ·obtain⟨k,rfl⟩:∃k:Nat,t=(k:Int):=⟨t.toNat,by omega⟩;have hk:k<s.iB.length:=by omega
  have e:Z.idle s (k:Int)=(s.iB[k].at_.isNone&&s.iB[k].calls.isEmpty):=by
   unfold Z.idle Z.iO;rw[cW ht,pq,dU,cO,cy hk];rfl
  rw[e];exact VP k hk hS
def F4:(Tryz.prog.info? 55).map (λi=>(i.zero,i.size,i.bytes))=some (some (.agg #[I 0,I 0,I 0,U 0,U 0,U 0,U 0,I 0,I 0,I 0,.bool false,I 0,U 0]),13,104):=by kernel_rfl
def M6 {w0 w:World}{R:List a_}{c:Y.cA}{H:List Value}{b mb:Nat}{pv iV:Value}{aO:List Value}{ai:List (List In)}(hE:SH (ae c) mb pv H)(Zx:PU ai)(hP:∀w',Sep w0 w' R→cL w' pv aO ai){gt tc n t:Nat}{XS:List Value}{aK rec cr lk prog a0 a1 a2 a3:Int}{xs:List K.Call}{cv iP:Value}{aM:List Z.Rec}(hc:0≤cr∧cr≤1000000)(hr:aM.length≤1000000)
 (h0:XS[t*5]?=some cv)(h3:XS[t*5+3]?=some (I cr))(hlen:t*5+5≤XS.length)
 (hS:Sep w0 w (aJ b 106 (H++[.slice (some ⟨gt,0,none⟩) n tc,I aK,iV,iP])::aU 0 132 5 (.slice (some ⟨gt,0,none⟩) n tc) n XS::aU 0 55 13 iV aM.length (flat eI aM)::Aw cv (⟨prog,[a0,a1,a2,a3]⟩::xs)::R)):
 Calls Tryz.prog 59 #[O b,I (t:Int),.pointer (some ⟨gt,t*5,none⟩)] w λr w'=>r=E∧∃JW kb M7,Sep w0 w' (iq c ⟨t,cr+1,⟨prog,[a0,a1,a2,a3]⟩⟩ pv aO kb (K.new ai ⟨t,cr+1,⟨prog,[a0,a1,a2,a3]⟩⟩)::aJ b 106 (H++[.slice (some ⟨gt,0,none⟩) n tc,I aK,M7,iP])::aU 0 132 5 (.slice (some ⟨gt,0,none⟩) n tc) n ((((XS.set (t*5) JW).set (t*5+3) (I (cr+1))).set (t*5+1) (O kb)).set (t*5+2) (I aM.length))::aU 0 55 13 M7 (aM.length+1) (flat eI (aM++[⟨t,cr+1,⟨prog,[a0,a1,a2,a3]⟩,aK,0,0,false,0,0⟩]))::Aw JW xs::R):=by
 have hu:IntKind.i64.wrap (cr+1)=cr+1:=bf _ (by omega) (by omega);have hw:IntKind.u64.wrap (cr+1)=cr+1:=by rw[ir];omega
 have o_:flat eI (aM++[⟨t,cr+1,⟨prog,[a0,a1,a2,a3]⟩,aK,0,0,false,0,0⟩])=flat eI aM++[I t,I (cr+1),I prog,U a0,U a1,U a2,U a3,I aK,I 0,I 0,.bool false,I 0,U 0]:=by rw[nh,qf];rfl
 rw[o_];clear o_;generalize flat eI aM=RX at*;generalize aM.length=rn at*;obtain⟨ra,rc,rfl⟩:=hS.form 2 rfl;obtain⟨pa,pc,rfl⟩:=(hP _ hS.tail.tail.tail.tail).1.len;obtain⟨cg,co,cc,rfl,cb,bQ⟩:=VO (hS.pull 3 rfl);have NQ:=aa bQ;have HT:=aa (λw' RR (h:Sep w0 w' (Aw _ _::RR))=>Z7 (g:=cg) (o:=co) (m:=xs.length+1) (cap:=cc) (x:=⟨prog,[a0,a1,a2,a3]⟩) (l:=xs) h);have Q7:=aa (λw' RR hP hS=>Ru (w0:=w0) (w:=w') (R:=RR) (c:=c) (t:Int) (cr+1) prog a0 a1 a2 a3 pa aO.length pc (aO:=aO) (ai:=ai) hP Zx hS);have aD:(ae c).length=24:=rfl;obtain⟨KN,YI⟩:∃KN:Nat→a_,KN=λkb=>iq c ⟨t,cr+1,⟨prog,[a0,a1,a2,a3]⟩⟩ (.slice pa aO.length pc) aO kb (K.new ai ⟨t,cr+1,⟨prog,[a0,a1,a2,a3]⟩⟩):=⟨_,rfl⟩;have Q7:Hid (∀(w':World) RR,(∀qe,Sep w0 qe RR→cL qe (.slice pa aO.length pc) aO ai)→Sep w0 w' RR→Calls Tryz.prog 79 #[aY c,I t,U (cr+1),.slice pa aO.length pc,.agg #[I prog,U a0,U a1,U a2,U a3]] w' λr w'=>∃b,r= .returned (O b)∧Sep w0 w' (KN b::RR)):=aa (by rw[YI];exact Q7.out);suffices pG:Calls Tryz.prog 59 #[O b,I (t:Int),.pointer (some ⟨gt,t*5,none⟩)] w λr w'=>r=E∧∃JW kb M7,Sep w0 w' (KN kb::aJ b 106 (H++[.slice (some ⟨gt,0,none⟩) n tc,I aK,M7,iP])::aU 0 132 5 (.slice (some ⟨gt,0,none⟩) n tc) n ((((XS.set (t*5) JW).set (t*5+3) (I (cr+1))).set (t*5+1) (O kb)).set (t*5+2) (I rn))::aU 0 55 13 M7 (rn+1) (RX++[I t,I (cr+1),I prog,U a0,U a1,U a2,U a3,I aK,I 0,I 0,.bool false,I 0,U 0])::Aw JW xs::R) by
  rw[YI]at pG;exact pG
 clear YI;have HE:=aa hE;have HS:=aa hS;clear hE hS bQ;have HP:=aa hP;clear hP;generalize xs.length=xn at*;generalize aO.length=pn at*;unfold aY at*;generalize ae c=cs at*;have f0:=aH (HS.row 1 rfl) (t*5) _ h0;have g0:=bw (HS.row 1 rfl) (t*5);have f3:=aH (HS.row 1 rfl) (t*5+3) _ h3;have Tg:=bw (HS.row 1 rfl) (t*5+3);have bt:=(oz (HS.row 1 rfl) gt rfl).2;by_cases jH:cc=1
 ·subst jH;simp only[if_true,oI]at HT;have h5:=HS.setRow 1 rfl (t*5) (.slice (some ⟨cg,co,none⟩) xn 0);simp only[zs]at h5;have HS:=aa h5;clear h5;have h5:=HS.setRow 1 rfl (t*5+3) (I (cr+1));simp only[zs]at h5;have HS:=aa h5;clear h5;have h5:=HS.new 38 [I prog,U a0,U a1,U a2,U a3];simp only[World.size_setCell]at h5;have HS:=aa h5;clear h5;go_in;go_wp2_with(refine ay 38 _ rfl rfl cg co rfl [I prog,U a0,U a1,U a2,U a3] _ NQ.out underlying38 rfl (by kernel_rfl) ?_);generalize World.alloc _ _=w1 at HS⊢;generalize w.heap.size=bq at HS⊢;clear f0 g0 f3 Tg bt NQ;have Ss:((XS.set (t*5) (.slice (some ⟨cg,co,none⟩) xn 0)).set (t*5+3) (I (cr+1)))[t*5+3]?=some (I (cr+1)):=by
   rw[eW (by rw[cF];omega)]
  generalize tM:((XS.set (t*5) (.slice (some ⟨cg,co,none⟩) xn 0)).set (t*5+3) (I (cr+1)))=X1 at*;have AS:t*5+5≤X1.length:=by rw[←tM,cF,cF];exact hlen
  have JX:=aa (HT.out _ _ (HS.pull 4 rfl));have HS:=aa (JX.out.back 4 (by simp));simp only[zs,ze]at HS;clear JX HT;have HD:=HS.drew;have hB:=HD.ar 1 rfl;have f25:=hB.fM HE.len 25 rfl HE.out.pv;have f3:=aH (HD.row 2 rfl) (t*5+3) _ Ss;have Tg:=bw (HD.row 2 rfl) (t*5+3);have fl:=hB.lt;have hC:=(HD.ar 0 rfl).range;refine bW [(1,[1,2,3,4,5,6,7,8,9,10,11,12,13,14,15]),(0,[0]),(3,[16]),(0,[17,18]),(3,[19])] (by kernel_rfl) ?_;simp only[zz];refine af ?_;repeat(first|(refine ak 58 _ b 0 cs _ rfl rfl rfl (aG (Xv aD HE.out hB) (by simp)) underlying58 rfl (by rw[aD];kernel_rfl) ?_;simp only[Act.put,aZ,aL,aN])|(refine ak 38 _ bq 0 [I prog,U a0,U a1,U a2,U a3] _ rfl rfl rfl (aG hC (by simp)) underlying38 rfl (by kernel_rfl) ?_;simp only[Act.put,aZ,aL,aN])|go_big_quiet_step (fail)|quiet_step (fail))
  refine ax ?_;repeat(first|go_big_quiet_step(fail)|quiet_step(fail)|apply ax|apply af|apply ag|apply ah)
  refine ao ?_;go_wp2_with fail;refine(Q7.out _ _ (λqe hh=>HP.out _ (hh.tail.tail.tail.tail.tail)) HD).mono ?_;rintro r w2 ⟨kb,rfl,h9⟩;have HS:=aa h9;clear h9 HD hB f25 f3 Tg fl hC;go_wp2_with fail;have IY:X1[t*5+1]?=some (X1[t*5+1]'(by omega)):=cy _;have f1:=aH (HS.row 3 rfl) (t*5+1) _ IY;have tI:=bw (HS.row 3 rfl) (t*5+1);generalize X1[t*5+1]'(by omega)=vo at IY f1;clear IY;have fl:=(HS.ar 2 rfl).lt;have aM7:=(oz (HS.row 3 rfl) gt rfl).2;have h5:=HS.setRow 3 rfl (t*5+1) (O kb);simp only[zs]at h5;have HS:=aa h5;clear h5;repeat(first|go_big_quiet_step(fail)|quiet_step(fail)|apply ax|apply af|apply ag|apply ah)
  refine ao ?_;go_wp2;refine aj ?_;generalize World.setCell _ _ _=w3 at HS⊢;clear f1 tI fl aM7;have Td:(X1.set (t*5+1) (O kb))[t*5+2]?=some (X1[t*5+2]'(by omega)):=by
   rw[dF (by omega)];exact cy _
  have f2:=aH (HS.row 3 rfl) (t*5+2) _ Td;have YJ:=bw (HS.row 3 rfl) (t*5+2);generalize X1[t*5+2]'(by omega)=vo2 at Td f2;clear Td;have aM7:=(oz (HS.row 3 rfl) gt rfl).2;obtain⟨f28,lu⟩:=(HS.ar 2 rfl).fe HE.len 28 rfl rfl;have fl:=(HS.ar 2 rfl).lt;have h5:=HS.setRow 3 rfl (t*5+2) (I rn);simp only[zs]at h5;have HS:=aa h5;clear h5;go_wp2_with fail;generalize World.setCell _ _ _=w4 at HS⊢;clear f2 YJ f28 lu fl aM7;have YL:((X1.set (t*5+1) (O kb)).set (t*5+2) (I rn))[t*5+3]?=some (I (cr+1)):=by
   rw[dF (by omega),dF (by omega)];exact Ss
  have HD:=HS.drew;have hB:=HD.ar 2 rfl;obtain⟨f28,lu⟩:=hB.fe HE.len 28 rfl rfl;obtain⟨f27,ω⟩:=hB.fe HE.len 27 rfl rfl;have f3:=aH (HD.row 3 rfl) (t*5+3) _ YL;have Tg:=bw (HD.row 3 rfl) (t*5+3);have fl:=hB.lt;have hC:=(HD.ar 1 rfl).range;obtain⟨i0,iJ,jA,jB,iR⟩:=eA F4;refine bW [(1,[1,2,3,4,5,6,7,8,9,10,11,12,13,14,15]),(0,[0]),(2,[16]),(3,[17]),(0,[18,19]),(3,[20])] (by kernel_rfl) ?_;simp only[zz];refine af ?_;repeat(first|(refine ak 38 _ bq 0 [I prog,U a0,U a1,U a2,U a3] _ rfl rfl rfl (aG hC (by simp)) underlying38 rfl (by kernel_rfl) ?_;simp only[Act.put,aZ,zs])|go_big_quiet_step (fail)|quiet_step (fail))
  refine ax ?_;repeat(first|go_big_quiet_step(fail)|quiet_step(fail)|apply ax|apply af|apply ag|apply ah)
  refine aA ?_;go_wp2;refine⟨⟨⟨_,(by exact(Fr.refl [] _).alloc _)⟩,rfl⟩,?_⟩;have eH:=aa (HD.new 55 [I t,I (cr+1),I prog,U a0,U a1,U a2,U a3,I aK,I 0,I 0,.bool false,I 0,U 0]);refine ao ?_;go_wp2_with(at_builtin;go_must (refine ch _ rfl _ _ 52 rfl 0 55 i0 _ 13 104 underlying52 iJ jA jB iR rfl (by decide) (.slice ra rn rc) rn RX rfl (eH.row 5 rfl) [I t,I (cr+1),I prog,U a0,U a1,U a2,U a3,I aK,I 0,I 0,.bool false,I 0,U 0] _ _ rfl (eH.ar 0 rfl) rfl (by simp[Value.oneCell']) (by unfold maxLen;omega) (by omega) (cE _) ?_));intro g2 c2 w5 dy iZ jj kM mw;have h3:=(eH.grown 5 rfl dy iZ (λq e=>by
   rcases jj with h1|h1
   ·exact .inl (h1.trans e)
   ·right;simp only[Value.ownBlock,eX]at e;rw[←e,h1];simp)).tail
  simp only[zs,ze]at h3;have HS:=aa h3;clear h3 dy iZ jj hB HD f28 lu f27 ω f3 Tg fl hC;go_wp2_with fail;have hB:=HS.ar 2 rfl;obtain⟨f28,lu⟩:=hB.fe HE.len 28 rfl rfl;have fl:=hB.lt;have h5:=HS.set 2 rfl 28 (.slice (some ⟨g2,0,none⟩) (rn+1) c2);simp only[aL,xZ HE.len _ 28 _ (by omega),Nat.reduceSub,aN]at h5;have HS:=aa h5;clear h5;repeat(first|go_big_quiet_step(fail)|quiet_step(fail)|apply ax|apply af|apply ag|apply ah)
  refine ao ?_;go_wp2;refine aj ?_;go_wp2;go_end0;rw[←tM]at HS;exact⟨rfl,_,kb,_,(((HS.pull 1 rfl).tail))⟩
 ·rw[aq jH]at HT;have h5:=HS.setRow 1 rfl (t*5) (.slice (some ⟨cg,co+5,none⟩) xn (cc-1));simp only[zs]at h5;have HS:=aa h5;clear h5;have h5:=HS.setRow 1 rfl (t*5+3) (I (cr+1));simp only[zs]at h5;have HS:=aa h5;clear h5;have h5:=HS.new 38 [I prog,U a0,U a1,U a2,U a3];simp only[World.size_setCell]at h5;have HS:=aa h5;clear h5;go_in;go_wp2_with(refine ay 38 _ rfl rfl cg co rfl [I prog,U a0,U a1,U a2,U a3] _ NQ.out underlying38 rfl (by kernel_rfl) ?_);generalize World.alloc _ _=w1 at HS⊢;generalize w.heap.size=bq at HS⊢;clear f0 g0 f3 Tg bt NQ;have Ss:((XS.set (t*5) (.slice (some ⟨cg,co+5,none⟩) xn (cc-1))).set (t*5+3) (I (cr+1)))[t*5+3]?=some (I (cr+1)):=by
   rw[eW (by rw[cF];omega)]
  generalize tM:((XS.set (t*5) (.slice (some ⟨cg,co+5,none⟩) xn (cc-1))).set (t*5+3) (I (cr+1)))=X1 at*;have AS:t*5+5≤X1.length:=by rw[←tM,cF,cF];exact hlen
  have JX:=aa (HT.out _ _ (HS.pull 4 rfl));have HS:=aa (JX.out.back 4 (by simp));simp only[zs,ze]at HS;clear JX HT;have HD:=HS.drew;have hB:=HD.ar 1 rfl;have f25:=hB.fM HE.len 25 rfl HE.out.pv;have f3:=aH (HD.row 2 rfl) (t*5+3) _ Ss;have Tg:=bw (HD.row 2 rfl) (t*5+3);have fl:=hB.lt;have hC:=(HD.ar 0 rfl).range;refine bW [(1,[1,2,3,4,5,6,7,8,9,10,11,12,13,14,15]),(0,[0]),(3,[16]),(0,[17,18]),(3,[19])] (by kernel_rfl) ?_;simp only[zz];refine af ?_;repeat(first|(refine ak 58 _ b 0 cs _ rfl rfl rfl (aG (Xv aD HE.out hB) (by simp)) underlying58 rfl (by rw[aD];kernel_rfl) ?_;simp only[Act.put,aZ,aL,aN])|(refine ak 38 _ bq 0 [I prog,U a0,U a1,U a2,U a3] _ rfl rfl rfl (aG hC (by simp)) underlying38 rfl (by kernel_rfl) ?_;simp only[Act.put,aZ,aL,aN])|go_big_quiet_step (fail)|quiet_step (fail))
  refine ax ?_;repeat(first|go_big_quiet_step(fail)|quiet_step(fail)|apply ax|apply af|apply ag|apply ah)
  refine ao ?_;go_wp2_with fail;refine(Q7.out _ _ (λqe hh=>HP.out _ (hh.tail.tail.tail.tail.tail)) HD).mono ?_;rintro r w2 ⟨kb,rfl,h9⟩;have HS:=aa h9;clear h9 HD hB f25 f3 Tg fl hC;go_wp2_with fail;have IY:X1[t*5+1]?=some (X1[t*5+1]'(by omega)):=cy _;have f1:=aH (HS.row 3 rfl) (t*5+1) _ IY;have tI:=bw (HS.row 3 rfl) (t*5+1);generalize X1[t*5+1]'(by omega)=vo at IY f1;clear IY;have fl:=(HS.ar 2 rfl).lt;have aM7:=(oz (HS.row 3 rfl) gt rfl).2;have h5:=HS.setRow 3 rfl (t*5+1) (O kb);simp only[zs]at h5;have HS:=aa h5;clear h5;repeat(first|go_big_quiet_step(fail)|quiet_step(fail)|apply ax|apply af|apply ag|apply ah)
  refine ao ?_;go_wp2;refine aj ?_;generalize World.setCell _ _ _=w3 at HS⊢;clear f1 tI fl aM7;have Td:(X1.set (t*5+1) (O kb))[t*5+2]?=some (X1[t*5+2]'(by omega)):=by
   rw[dF (by omega)];exact cy _
  have f2:=aH (HS.row 3 rfl) (t*5+2) _ Td;have YJ:=bw (HS.row 3 rfl) (t*5+2);generalize X1[t*5+2]'(by omega)=vo2 at Td f2;clear Td;have aM7:=(oz (HS.row 3 rfl) gt rfl).2;obtain⟨f28,lu⟩:=(HS.ar 2 rfl).fe HE.len 28 rfl rfl;have fl:=(HS.ar 2 rfl).lt;have h5:=HS.setRow 3 rfl (t*5+2) (I rn);simp only[zs]at h5;have HS:=aa h5;clear h5;go_wp2_with fail;generalize World.setCell _ _ _=w4 at HS⊢;clear f2 YJ f28 lu fl aM7;have YL:((X1.set (t*5+1) (O kb)).set (t*5+2) (I rn))[t*5+3]?=some (I (cr+1)):=by
   rw[dF (by omega),dF (by omega)];exact Ss
  have HD:=HS.drew;have hB:=HD.ar 2 rfl;obtain⟨f28,lu⟩:=hB.fe HE.len 28 rfl rfl;obtain⟨f27,ω⟩:=hB.fe HE.len 27 rfl rfl;have f3:=aH (HD.row 3 rfl) (t*5+3) _ YL;have Tg:=bw (HD.row 3 rfl) (t*5+3);have fl:=hB.lt;have hC:=(HD.ar 1 rfl).range;obtain⟨i0,iJ,jA,jB,iR⟩:=eA F4;refine bW [(1,[1,2,3,4,5,6,7,8,9,10,11,12,13,14,15]),(0,[0]),(2,[16]),(3,[17]),(0,[18,19]),(3,[20])] (by kernel_rfl) ?_;simp only[zz];refine af ?_;repeat(first|(refine ak 38 _ bq 0 [I prog,U a0,U a1,U a2,U a3] _ rfl rfl rfl (aG hC (by simp)) underlying38 rfl (by kernel_rfl) ?_;simp only[Act.put,aZ,zs])|go_big_quiet_step (fail)|quiet_step (fail))
  refine ax ?_;repeat(first|go_big_quiet_step(fail)|quiet_step(fail)|apply ax|apply af|apply ag|apply ah)
  refine aA ?_;go_wp2;refine⟨⟨⟨_,(by exact(Fr.refl [] _).alloc _)⟩,rfl⟩,?_⟩;have eH:=aa (HD.new 55 [I t,I (cr+1),I prog,U a0,U a1,U a2,U a3,I aK,I 0,I 0,.bool false,I 0,U 0]);refine ao ?_;go_wp2_with(at_builtin;go_must (refine ch _ rfl _ _ 52 rfl 0 55 i0 _ 13 104 underlying52 iJ jA jB iR rfl (by decide) (.slice ra rn rc) rn RX rfl (eH.row 5 rfl) [I t,I (cr+1),I prog,U a0,U a1,U a2,U a3,I aK,I 0,I 0,.bool false,I 0,U 0] _ _ rfl (eH.ar 0 rfl) rfl (by simp[Value.oneCell']) (by unfold maxLen;omega) (by omega) (cE _) ?_));intro g2 c2 w5 dy iZ jj kM mw;have h3:=(eH.grown 5 rfl dy iZ (λq e=>by
   rcases jj with h1|h1
   ·exact .inl (h1.trans e)
   ·right;simp only[Value.ownBlock,eX]at e;rw[←e,h1];simp)).tail
  simp only[zs,ze]at h3;have HS:=aa h3;clear h3 dy iZ jj hB HD f28 lu f27 ω f3 Tg fl hC;go_wp2_with fail;have hB:=HS.ar 2 rfl;obtain⟨f28,lu⟩:=hB.fe HE.len 28 rfl rfl;have fl:=hB.lt;have h5:=HS.set 2 rfl 28 (.slice (some ⟨g2,0,none⟩) (rn+1) c2);simp only[aL,xZ HE.len _ 28 _ (by omega),Nat.reduceSub,aN]at h5;have HS:=aa h5;clear h5;repeat(first|go_big_quiet_step(fail)|quiet_step(fail)|apply ax|apply af|apply ag|apply ah)
  refine ao ?_;go_wp2;refine aj ?_;go_wp2;go_end0;rw[←tM]at HS;exact⟨rfl,_,kb,_,(((HS.pull 1 rfl).tail))⟩
