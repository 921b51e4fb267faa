/- A part of the proof. -/
import Derived.Test.YtolkmchicplaoaaGreatG09
set_option linter.all false
set_option maxHeartbeats 8000000
set_option maxRecDepth 100000
open Go.Proofs.Tryz
namespace Go.Proofs.YtolkmchicplaoaaGreat
open Go.RowKit Go.aS Go.aS.I_ Go.aS.Y
def bT (c:Y.cA)(aw:Int)(pv:Value)(aO:List Value)(ob:Option B.St)(bv:Value):a_:=
 match ob with
 |none=>NK
 |some y=>EG λq:WQ=>ie (bv=O q.b1) (df c aw q.seq q.b1 pv aO y)
def DJ {w0 w R c aw seq pv aO y bb}(h:Sep w0 w (df c aw seq bb pv aO y::R)):Sep w0 w (bT c aw pv aO (some y) (O bb)::R):=
 Sep.qX (A:=WQ) (λq:WQ=>ie (O bb=O q.b1) (df c aw q.seq q.b1 pv aO y)) (a:=⟨seq,bb,0,0,0,.pointer none⟩) (Sep.iK h rfl)
def Q8 {w0 w R c aw pv aO y bv}(h:Sep w0 w (bT c aw pv aO (some y) bv::R)):∃seq bb,bv=O bb∧Sep w0 w (df c aw seq bb pv aO y::R):=by
 obtain⟨q,h1⟩:=Sep.rZ (T:=λq:WQ=>ie (bv=O q.b1) (df c aw q.seq q.b1 pv aO y)) h;obtain⟨h2,h3⟩:=h1.jn;exact⟨q.seq,q.b1,h2,h3⟩
def xg {w0 w R c aw seq pv aO cv args k y bb}(hk:k.work= .bu y)(hm:fR k.next→seq=k.ns)(h:Sep w0 w (df c aw seq bb pv aO y::R)):Sep w0 w (cQ c aw pv aO cv args k (.iface 166 (O bb))::R):=by
 unfold cQ;rw[hk];exact Sep.qX (A:=WQ) _ (a:=⟨seq,bb,0,0,0,.pointer none⟩) (Sep.iK h ⟨rfl,hm⟩)
def m_ (c:Y.cA)(me:Int)(y:B.St)(k:K.St)(r:B.Row):K.St:=if r.aw=me then{k with oc:=r.rc,ov:=r.rv,b:=some y,work:= .sc (k.ns+1) (K.uh c (B.entries c y)) 0,next:=10}else k
def oh (c m y):∀(l:List B.Row) (k:K.St),K.ti c m y l k=l.foldl (m_ c m.aw y) k
 |[],_=>rfl
 |r::l,k=>by unfold K.ti;rw[oh c m y l];rfl
def gY (c:Y.cA)(me:Int)(y:B.St)(k:K.St)(j:Nat):K.St:=(y.rows.take j).foldl (m_ c me y) k
def oZ (c me y k j)(hj:j<y.rows.length):gY c me y k (j+1)=m_ c me y (gY c me y k j) y.rows[j]:=by
 unfold gY;rw[wj hj,List.foldl_append];rfl
def vI (c me y k):∀j,(gY c me y k j).ns=k.ns
 |0=>rfl
 |j+1=>by
  by_cases hj:j<y.rows.length
  ·rw[oZ _ _ _ _ _ hj];unfold m_;split
   ·exact vI c me y k j
   ·exact vI c me y k j
  ·unfold gY;rw[oA (by omega)];have:=vI c me y k j;unfold gY at this;rwa [oA (by omega)]at this
def rK {w0 w R c aw seq b pv aO y}(hn:¬y.next=4)(hS:Sep w0 w (df c aw seq b pv aO y::R)):(B.entries c y).length≤65536:=by
 obtain⟨H,vb,pb,sb,hE,hh⟩:=lG hS;rcases hh with⟨h4,_⟩|⟨xW,xp,rv,du⟩
 ·exact absurd h4 hn
 ·have h1:=B0 du 4 (by rfl);unfold B.entries;exact fT (List.length_filter_le _ _) (by omega)
def DK {w0 w R c H aw seq b bb pv wv bv aO y k}(YE:y.args.length=4)(hs:y.s=0)(hS:Sep w0 w (bB H b wv bv k::df c aw seq bb pv aO y::R)):
 bR 115 #[O b,O bb] w w0 (bB H b wv bv k::df c aw seq bb pv aO y::R):=by
 have mX:=aa (λw' RR hS=>sM (w0:=w0) (w:=w') (R:=RR) (c:=c) (aw:=aw) (seq:=seq) (b:=bb) (pv:=pv) (aO:=aO) (y:=y) YE hS);rw[hs]at mX;generalize df c aw seq bb pv aO y=BB at*;have HS:=aa hS;clear hS;delta bR;go_in;go_wp2_with fail;refine(mX.out _ _ (HS.pull 1 rfl)).kq HS λw2 HS=>?_;go_wp2;refine aV (fV rfl _ _ _) rfl ?_;exact⟨rfl,HS.out⟩
def Xr (c:Y.cA)(aw:Int)(pv:Value)(aO:List Value)(cv:Value)(args:List Int)(bb:Nat)(wv0 bv0:Value)(k:K.St)(wv bv:Value):a_:=
 if k.next=10 then ie (bv=O bb) (cQ c aw pv aO cv args k wv)else ie (wv=wv0∧bv=bv0) NK
def xh {T:Type}{en:Value→T→List Value}{n}(hn:∀v x,(en v x).length=n){A L}(h:A.length=L.length){j}(hj:j<L.length)(i)(hi:i<n):(mix en A L)[j*n+i]?=(en (A[j]'(by omega)) L[j])[i]?:=by
 unfold mix;rw[cI (n:=n) (λp=>hn _ _) (A.zip L) j (by rw[nK,h,Nat.min_self];exact hj) i hi,uQ]
def MN (v w):(Instr.typeAssert (.iface 209 v) 165 209 true).run Tryz.prog w= .ok (.tuple #[v,.bool true]) w:=by
 simp[Instr.typeAssert,kD underlying209]
def By (v w):(Instr.typeAssert (.iface 209 v) 165 205 true).run Tryz.prog w= .ok (.tuple #[.pointer none,.bool false]) w:=by
 have hz:Tryz.t205.zero=some (.pointer none):=by kernel_rfl
 simp[Instr.typeAssert,kD underlying205,zeroValue,show Tryz.prog.info? 205=_ from rfl,hz]
def Bz (v w):(Instr.typeAssert (.iface 209 v) 165 166 true).run Tryz.prog w= .ok (.tuple #[.pointer none,.bool false]) w:=by
 have hz:Tryz.t166.zero=some (.pointer none):=by kernel_rfl
 simp[Instr.typeAssert,kD underlying166,zeroValue,show Tryz.prog.info? 166=_ from rfl,hz]
def BA (v w):(Instr.typeAssert (.iface 209 v) 165 199 true).run Tryz.prog w= .ok (.tuple #[.pointer none,.bool false]) w:=by
 have hz:Tryz.t199.zero=some (.pointer none):=by kernel_rfl
 simp[Instr.typeAssert,kD underlying199,zeroValue,show Tryz.prog.info? 199=_ from rfl,hz]
def zq34:(∀{w0 w R c H aw tag seq b bb pv wv bv prog args aO y}(hE:KH (ae c) aw tag pv prog args H){k}(YE:y.args.length=4)(hs:y.s=2)(hS:Sep w0 w (bB H b wv bv k::df c aw seq bb pv aO y::R)),bR 115 #[O b,O bb] w w0 (bB H b wv bv {k with next:=2}::df c aw seq bb pv aO y::R))∧(∀{w0 w R c}(aE:Y.Ok c){H aw tag seq b bb pv bv prog args aO ai y}(hE:KH (ae c) aw tag pv prog args H){k}(hI:BI c ai y)(wK:¬y.s=0)(El:¬y.s=2)(xW:¬y.next=4)(pH:0≤k.ns∧k.ns≤4611686018427387904)(hS:Sep w0 w (bB H b (.iface 166 (O bb)) bv k::df c aw seq bb pv aO y::R)),Calls Tryz.prog 115 #[O b,O bb] w λr w'=>r=E∧∃g_ DM,Sep w0 w' (bB H b g_ DM (gY c aw y {k with next:=2} y.rows.length)::df c aw seq bb pv aO y::Xr c aw pv aO (dh aO prog) args bb (.iface 166 (O bb)) bv (gY c aw y {k with next:=2} y.rows.length) g_ DM::R))∧(∀{w0 w R c H aw tag b sb pv bv prog args}(hE:KH (ae c) aw tag pv prog args H){k w1 s v l d}(hl:l.length≤100000)(hd:d≤100000)(hS:Sep w0 w (bB H b (.iface 209 (O sb)) bv k::aJ sb 242 (Sc.tJ (ae c) w1 s v d)::aU 0 234 2 v l.length (flat Sc.iS l)::R)),bR 88 #[O b] w w0 (bB H b (.iface 209 (O sb)) bv (if l.length+1<d then{k with next:=11}else k)::aJ sb 242 (Sc.tJ (ae c) w1 s v d)::aU 0 234 2 v l.length (flat Sc.iS l)::R))∧(∀{w0 w R c H aw tag b pv wv bv prog args}(hE:KH (ae c) aw tag pv prog args H){k}(hS:Sep w0 w (bB H b wv bv k::R)),bR 87 #[O b,.bool false] w w0 (bB H b wv bv {k with next:=2}::R))∧(∀{w0 w R c}(aE:Y.Ok c){H aw tag b pv wv bv prog args aO}(hE:KH (ae c) aw tag pv prog args H){k y}(hb:k.b=some y)(xW:¬y.next=4)(pH:0≤k.ns∧k.ns≤4611686018427387904)(hS:Sep w0 w (bB H b wv bv k::bT c aw pv aO k.b bv::R)),Calls Tryz.prog 87 #[O b,.bool true] w λr w'=>r=E∧∃g_,Sep w0 w' (bB H b g_ bv (K.iT c ⟨aw,tag,⟨prog,args⟩⟩ true k)::cQ c aw pv aO (dh aO prog) args (K.iT c ⟨aw,tag,⟨prog,args⟩⟩ true k) g_::bT c aw pv aO (K.iT c ⟨aw,tag,⟨prog,args⟩⟩ true k).b bv::R)):=by
 refine⟨?Z,?Y,?X,?J,?G⟩
 case' Y=>
  intro w0 w R c aE H aw tag seq b bb pv bv prog args aO ai y hE k hI wK El xW pH hS;have mX:=aa (λw' RR hS=>sM (w0:=w0) (w:=w') (R:=RR) (c:=c) (aw:=aw) (seq:=seq) (b:=bb) (pv:=pv) (aO:=aO) (y:=y) hI.bb.args hS);have Q9:=aa (λw' RR hS=>Cr (w0:=w0) (w:=w') (R:=RR) (aw:=aw) (seq:=seq) (b:=bb) (pv:=pv) (aO:=aO) (y:=y) aE hI hS);have Er:=aa (λw' RR hS=>vH (w0:=w0) (w:=w') (R:=RR) (aw:=aw) (seq:=seq) (b:=bb) (pv:=pv) (aO:=aO) (y:=y) aE xW hS);have HEL:=aa (λw' RR hS=>rK (w0:=w0) (w:=w') (R:=RR) (c:=c) (aw:=aw) (seq:=seq) (b:=bb) (pv:=pv) (aO:=aO) (y:=y) xW hS);have e1:(y.s==0)=false:=by simpa using wK
  have e2:(y.s==2)=false:=by simpa using El
  have nR:y.rows.length≤8:=by have h1:=hI.bb.rows;have h2:=hI.bb.u;have:=aE.t8;omega
  have IE:=aa (λj hj=>oZ c aw y {k with next:=2} j hj);have HNS:=aa (λj=>vI c aw y {k with next:=2} j);have H00:Hid (gY c aw y {k with next:=2} 0={k with next:=2}):=aa rfl;generalize hOT:gY c aw y {k with next:=2}=OT at*;clear hOT;generalize df c aw seq bb pv aO y=BB at*;have aD:(ae c).length=24:=rfl;have hcut:Hid (K.uh c (B.entries c y)=(B.entries c y).take (min (B.entries c y).length (cap c).toNat)):=aa rfl;have ai9:=aa (fun(w':World) v hL hn=>K4 w' c aE aw (k.ns+1) v (B.entries c y) hL hn (min (B.entries c y).length (cap c).toNat) rfl);have JV:IntKind.u64.wrap (k.ns+1)=k.ns+1:=lR _ (by omega) (by omega);unfold m_ at IE;generalize hES:B.entries c y=ES at*;generalize hCL:K.uh c ES=CL at*;generalize G9:min ES.length (cap c).toNat=mn at*;rw[←hcut.out]at ai9;have HMN:Hid (CL.length=mn):=aa (by rw[hcut.out,oE,←G9];omega);clear hcut hES hCL G9 hI wK El xW;generalize y.rows=L at*;obtain⟨n,hn⟩:∃n,L.length=n:=⟨_,rfl⟩;rw[hn]at nR⊢;have HN:=aa hn;clear hn;unfold aY at*;have HS:=aa hS;have HE:=aa hE;clear hS hE;go_in;go_wp2_with fail;refine(mX.out _ _ (HS.pull 1 rfl)).kq HS λw2 HS=>?_;obtain⟨f32,JK⟩:=(HS.ar 0 rfl).fe HE.len 32 rfl rfl;have fl:=(HS.ar 0 rfl).lt;have h5:=HS.set 0 rfl 32 (I 2);unfold nI at h5;simp only[aL,cR HE.len _ 32 _ (by omega),Nat.reduceSub,aN]at h5;have HS:Hid (Sep w0 _ (bB H b (.iface 166 (O bb)) bv {k with next:=2}::BB::R)):=aa h5;clear h5;go_wp2_with fail;generalize World.setCell _ _ _=w3 at HS⊢;clear f32 JK fl;refine(mX.out _ _ (HS.pull 1 rfl)).kq HS λw4 HS=>?_;go_wp2_with fail;refine(Q9.out _ _ (HS.pull 1 rfl)).mono ?_;rintro r w5 ⟨v',rfl,h1⟩;obtain⟨dY,k7,h2⟩:=jg h1;have tT:=tx k7 (h2.pull 1 rfl);obtain⟨oa,oc,rfl⟩:=h2.form 0 rfl;have HF:=aa tT;have MD:=aa k7;have hn:=HN.out;rw[hn]at h2⊢;have HS:Hid (Sep w0 w5 (bB H b (.iface 166 (O bb)) bv {k with next:=2}::BB::aU 0 178 5 (.slice oa n oc) n (mix gW dY L)::cM (lY B.Row.news dY L)::R)):=aa ((h2.pull 2 rfl).pull 3 rfl);clear h1 h2 k7 tT hn;go_wp2_with fail
 case' Y=>
  go_loopg [18] n (λg vi wr=>∃j,g+j=n∧vi=I (j:Int)∧∃g_ DM,Sep w0 wr (bB H b g_ DM (OT j)::BB::Xr c aw pv aO (dh aO prog) args bb (.iface 166 (O bb)) bv (OT j) g_ DM::aU 0 178 5 (.slice oa n oc) n (mix gW dY L)::cM (lY B.Row.news dY L)::R))
  case' atStart=>skip
  refine ?D
  case' round=>skip
  refine ?V
 case' V=>clear HS;obtain⟨j,yy,rfl,g_,DM,iU⟩:=hrel
 case' V=>by_cases hj:j<n;refine ?U;rotate_left;refine ?g0
 case' U=>
  have s9:(j:Int)<(n:Int):=by omega
  have tz:=HN.out;have xe:=MD.out;have Aj:j<L.length:=by omega
  obtain⟨ga,rfl⟩:∃ga,oa=some ⟨ga,0,none⟩:=by
   rcases bg (iU.row 3 rfl)with⟨e1,e2⟩|⟨gb,cap,e1,_⟩
   ·omega
   ·simp only[dk]at e1;exact⟨gb,e1.1⟩
  have m0:=xh (en:=gW) (n:=5) (λ_ _=>rfl) xe Aj 0 (by omega);have m1:=xh (en:=gW) (n:=5) (λ_ _=>rfl) xe Aj 1 (by omega);have m2:=xh (en:=gW) (n:=5) (λ_ _=>rfl) xe Aj 2 (by omega);have m3:=xh (en:=gW) (n:=5) (λ_ _=>rfl) xe Aj 3 (by omega);have m4:=xh (en:=gW) (n:=5) (λ_ _=>rfl) xe Aj 4 (by omega);obtain⟨ZJ,n9,ZK,Ep⟩:=HF.out dY[j] (cJ (by omega));have Ra:=aa (IE.out j Aj);generalize dY[j]=Yw at*;subst Ep;generalize L[j]=r9 at*;obtain⟨C7,YF,ZS,ZU,rn9⟩:=r9;have c0:=aH (iU.row 3 rfl) (j*5+0) (I C7) m0;have c1:=aH (iU.row 3 rfl) (j*5+1) (U YF) m1;have c2:=aH (iU.row 3 rfl) (j*5+2) (I ZS) m2;have c3:=aH (iU.row 3 rfl) (j*5+3) (U ZU) m3;have c4:=aH (iU.row 3 rfl) (j*5+4) (.slice ZJ n9 ZK) m4;rw[qT]at c0;clear m0 m1 m2 m3 m4 tz xe Aj;have ZV:=aa (HNS.out j);dsimp only at Ra ZV;have jZ:=aa (iU.new 178 [I 0,U 0,I 0,U 0,.slice none 0 0]);have YB:∀z∈ [I C7,U YF,I ZS,U ZU,.slice ZJ n9 ZK],z.oneCell'=true:=by simp[Value.oneCell']
  clear iU;go_wp2_with(refine aC jZ.out 0 rfl [I C7,U YF,I ZS,U ZU,.slice ZJ n9 ZK] 178 _ _ rfl rfl rfl rfl rfl (by kernel_rfl) YB (λwA hA _=>?_);simp only[aL]at hA;have HS:=aa hA;clear hA);clear c0 c1 c2 c3 c4 jZ;have hB:=(HS.ar 1 rfl).drew;have hO:=(HS.ar 0 rfl).drew;have o0:=hO.cell 0;simp only[gn]at o0;have f24:=hB.fM HE.len 24 rfl HE.out.aw;have fl:=hB.lt;go_wp2_with fail;refine bW [(1,[0,1,2,3,4,5,6])] (by kernel_rfl) ?_;simp only[zz];repeat(first|go_big_quiet_step(fail)|quiet_step(fail)|apply ax|apply af|apply ag|apply ah)
  refine aj ?_;clear hB hO o0 f24 fl;have HS:=aa HS.drew
 case' U=>by_cases Kc:C7=aw;refine ?g1;rotate_left;refine ?g2
 case' X=>intro w0 w R c H aw tag b sb pv bv prog args hE k w1 s v l d hl hd hS;obtain⟨la,lc,rfl⟩:=hS.form 2 rfl;have lI:=aa (fun(w':World) hB=>oS w' sb (ae c) rfl w1 s la l.length lc d hB hl hd);have sf:=MN (O sb);have uV:=By (O sb);have hk3:=Bz (O sb);have hk4:=BA (O sb)
 case' X=>by_cases hc:l.length+1<d;refine ?g3;rotate_left;refine ?g4
 case' Z=>intro w0 w R c H aw tag seq b bb pv wv bv prog args aO y hE k YE hs hS;have mX:=aa (λw' RR hS=>sM (w0:=w0) (w:=w') (R:=RR) (c:=c) (aw:=aw) (seq:=seq) (b:=bb) (pv:=pv) (aO:=aO) (y:=y) YE hS);rw[hs]at mX;generalize df c aw seq bb pv aO y=BB at*
 case' J=>intro w0 w R c H aw tag b pv wv bv prog args hE k hS
 case' g3=>
  rw[aB hc];have e:decide (d>l.length+1)=true:=by simpa using hc
  rw[e]at lI;clear hl hd hc e
 case' Z|J|g3=>obtain⟨dG,bG,bD,bH,gZ,gC,cP,kb,bI,dC,ik,il,f_,gf,bJ⟩:=k;try dsimp only at*
 case' Z|J=>simp only[bB,nI,za]at hS⊢;have aD:(ae c).length=24:=rfl;have HE:=aa hE;have HS:=aa hS;clear hS hE
 case' Z=>delta bR;go_in;go_wp2_with fail;refine(mX.out _ _ (HS.pull 1 rfl)).kq HS λw2 HS=>?_
 case' g3=>have Qe:Hid (∀w',Sep w0 w' (aJ b 168 (H++[I 11,I bG,I bD,.bool bH,U gZ,U gC,.iface 209 (O sb),bv,.bool bI,.bool dC,I ik,U il,I f_,U gf,.bool bJ])::aJ sb 242 (Sc.tJ (ae c) w1 s (.slice la l.length lc) d)::aU 0 234 2 (.slice la l.length lc) l.length (flat Sc.iS l)::R)→Sep w0 w' (bB H b (.iface 209 (O sb)) bv ⟨11,bG,bD,bH,gZ,gC,cP,kb,bI,dC,ik,il,f_,gf,bJ⟩::aJ sb 242 (Sc.tJ (ae c) w1 s (.slice la l.length lc) d)::aU 0 234 2 (.slice la l.length lc) l.length (flat Sc.iS l)::R)):=aa (λ_ h=>h);have HE:=aa hE;simp only[bB,nI]at hS;have HS:=aa hS;clear hS;have f38:=(HS.ar 0 rfl).aR hE.len 38 rfl rfl;have fl:=(HS.ar 0 rfl).lt;clear hE;delta bR;go_in;go_wp2_with fail;refine(lI.out _ (HS.ar 1 rfl)).kq HS λw2 HS=>?_;clear f38 fl
 case' g1=>
  have eme:(C7==aw)=true:=by simpa using Kc
  rw[aB Kc]at Ra;have hO:=HS.ar 0 rfl;have o2:=hO.cell 2;have o3:=hO.cell 3;simp only[zg]at o2 o3;clear Kc;have DN:=HE.len;generalize OT j=kj at*;go_wp2_with(refine fz HS.out 1 rfl 42 [I ZS,U ZU] 48 _ _ rfl rfl rfl rfl (by unfold nI;rw[eE,DN];simp) (by kernel_rfl) (by simp[Value.oneCell']) (λwB hA _=>?_);simp only[aL,aN,n_,cR DN _ 42 _ (by omega),cR DN _ 43 _ (by omega),Nat.reduceAdd,Nat.reduceSub]at hA;have eH:=aa hA;have f39:=((hA.ar 1 rfl).cell 39).trans (ar5 DN _ 39 (by omega));have g39:=(hA.ar 1 rfl).az 39;have fl:=(hA.ar 1 rfl).lt;unfold nI at f39;simp only[Nat.reduceSub,pN,gn,aN,aL]at f39;clear hA);clear hO o2 o3;have h5:=eH.set 1 rfl 39 (O bb);simp only[zs,cR DN _ 39 _ (by omega),Nat.reduceSub]at h5;unfold nI at h5;simp only[zs]at h5;have HS:=aa (h5.tail.pull 1 rfl);clear h5 f39 g39 fl;simp only[ze]at HS;generalize World.setCell _ _ _=w8 at HS⊢;have hel:=HEL.out _ _ HS.out
 case' G=>
  intro w0 w R c aE H aw tag b pv wv bv prog args aO hE k y hb xW pH hS;have esw:K.iT c ⟨aw,tag,⟨prog,args⟩⟩ true k={k with eV:=true,next:=12,work:= .he aw (k.ns+1) (K.JM c (B.entries c y))}:=by
   unfold K.iT;rw[aB rfl,hb]
  rw[esw];dsimp only;rw[hb]at hS⊢;obtain⟨seq,bb,rfl,du⟩:=Q8 (hS.pull 1 rfl);have hS:=du;clear du;have JV:IntKind.u64.wrap (k.ns+1)=k.ns+1:=lR _ (by omega) (by omega);have Er:=aa (λw' RR hS=>vH (w0:=w0) (w:=w') (R:=RR) (aw:=aw) (seq:=seq) (b:=bb) (pv:=pv) (aO:=aO) (y:=y) aE xW hS);have hel:=rK xW hS;have Xp:=aa (fun(w':World) a lc hL Ip=>Qs w' c aE aw (k.ns+1) a (B.entries c y).length lc (B.entries c y) rfl hL Ip (by omega));have hh0:Go.aS.H.entry c ⟨B.entries c y,0,0,-1,0,0,0⟩ 0=K.JM c (B.entries c y):=rfl;rw[hh0]at Xp;generalize K.JM c (B.entries c y)=h0 at*;generalize B.entries c y=ES at*;have HW:Hid (∀w' hb,Sep w0 w' (bB H b (.iface 199 (O hb)) (O bb) {k with eV:=true,next:=12,work:= .he aw (k.ns+1) h0,b:=some y}::eu c aw aw (k.ns+1) hb h0::df c aw seq bb pv aO y::R)→Sep w0 w' (bB H b (.iface 199 (O hb)) (O bb) {k with eV:=true,next:=12,work:= .he aw (k.ns+1) h0,b:=some y}::cQ c aw pv aO (dh aO prog) args {k with eV:=true,next:=12,work:= .he aw (k.ns+1) h0,b:=some y} (.iface 199 (O hb))::bT c aw pv aO (some y) (O bb)::R)):=aa (λw' hb h9=>((DJ ((sO (k:={k with eV:=true,next:=12,work:= .he aw (k.ns+1) h0,b:=some y}) rfl (h9.pull 1 rfl)).pull 2 rfl)).pull 1 rfl).pull 2 rfl);clear esw hh0 xW;generalize df c aw seq bb pv aO y=BB at*;obtain⟨dG,bG,bD,bH,gZ,gC,cP,kb,bI,dC,ik,il,f_,gf,bJ⟩:=k;try dsimp only at*
  subst hb;have Kb:=aa (λw' hb h=>HW.out w' hb h);clear HW;simp only[bB,nI,za]at hS;have aD:(ae c).length=24:=rfl;have HE:=aa hE;have HS:=aa (hS.pull 1 rfl);clear hS hE;simp only[ze]at HS;unfold aY at*;obtain⟨f32,gB⟩:=(HS.ar 0 rfl).fe HE.len 32 rfl rfl;obtain⟨f41,pY⟩:=(HS.ar 0 rfl).fe HE.len 41 rfl rfl;have fl:=(HS.ar 0 rfl).lt;have h5:=HS.set 0 rfl 32 (I 2);simp only[aL,cR HE.len _ 32 _ (by omega),Nat.reduceSub,aN]at h5;have HS:=aa h5;clear h5;have h5:=HS.set 0 rfl 41 (.bool true);simp only[aL,cR HE.len _ 41 _ (by omega),Nat.reduceSub,aN]at h5;have HS:=aa h5;clear h5;go_in;go_wp2_with fail;generalize World.setCell (World.setCell _ _ _) _ _=w8 at HS⊢;clear f32 gB f41 pY fl;have HS:=aa (HS.pull 1 rfl);simp only[ze]at HS
 case' g1|G=>
  obtain⟨F,S6,S7⟩:=uj (T':=λv=>cM [aU 0 234 2 v ES.length (flat Sc.iS ES),BB]) (A:=λv e=>e= .returned v) HS.drew (λRR h=>(Er.out _ RR h).mono λe w' hr=>by
   obtain⟨v',h1,h2⟩:=hr;exact⟨v',h1,Sep.toList (Ts:=[_,_]) h2⟩)
  have oR:=S6 0 b _ _ rfl;have Xb:=aa S7;clear S6 S7;have hB:=(HS.ar 1 rfl).drew
 case' g1=>generalize j8:ae c=cs at*;have qC:=aa j8;clear j8;have f37:=hB.aR HE.len 37 rfl rfl
 case' G=>generalize ae c=cs at*;have f37:=hB.aR HE.len 37 rfl rfl;have f39:=hB.aR HE.len 39 rfl rfl
 case' g1|G=>have f24:=hB.fM HE.len 24 rfl HE.out.aw;have fl:=hB.lt
 case' g1=>rw[ZV.out]at f37;refine dq [(1,[2,3,4,5,6,7,8,9,10,11,12,13,14,15,16]),(0,[0,1]),(2,[17]),(3,[18]),(3,[19]),(0,[20,21]),(3,[22]),(0,[23,24]),(3,[25])] F (by kernel_rfl) (by kernel_rfl) ?_
 case' G=>refine dq [(1,[2,3,4,5,6,7,8,9,10,11,12,13,14,15,16,17,18,19]),(0,[0,1]),(2,[20]),(3,[21]),(3,[22]),(0,[23,24]),(3,[25]),(0,[26,27]),(3,[28])] F (by kernel_rfl) (by kernel_rfl) ?_
 case' g1|G=>
  simp only[zz];refine af ?_;repeat(first|(refine ak 58 _ b 0 cs _ rfl rfl rfl (aG (lT aD HE.out hB) oR) underlying58 rfl (by rw[aD];kernel_rfl) ?_;simp only[Act.put,aZ,aL,aN])|go_big_quiet_step (fail)|quiet_step (fail))
  refine ax ?_
 case' g1=>repeat(first|go_big_quiet_step(fail)|quiet_step(fail)|apply ax|apply af|apply ag|apply ah)
 case' G=>repeat(first|go_big_quiet_step(fail)|apply ax|apply af|apply ag|apply ah)
 case' g1|G=>refine aA ?_;go_wp2_with fail;refine Xb.out.mono ?_;rintro r w9 ⟨v9',rfl,h1,hf⟩;have MJ:=aa hf;have HS:=aa (Sep.ofList (Ts:=[_,_]) h1);clear h1 hf;go_wp2;refine⟨⟨⟨_,(by exact MJ.out)⟩,rfl⟩,?_⟩
 case' g1=>
  repeat(first|go_big_quiet_step(fail)|quiet_step(fail)|apply ax|apply af|apply ag|apply ah)
  refine ao ?_;go_wp2_with fail;refine(ai9.out _ _ (dB.kG Sc.gy (HS.row 0 rfl)) (by omega)).mono ?_;rintro r Ov ⟨sb,v10,rfl,h1⟩;have HS:=aa ((HS.fresh (Sep.toList (Ts:=[_,_]) (R:=[]) h1).jm).pull 3 rfl);clear h1 hB f37 f24 fl oR Xb MJ
 case' G=>
  repeat(first|go_big_quiet_step(fail)|apply ax|apply af|apply ag|apply ah)
  refine ao ?_;go_wp2_with fail;have N0:=HS.row 0 rfl;have rz:=dB.kG Sc.gy N0;obtain⟨ZJ,ZK,rfl⟩:=HS.form 0 rfl;have Ip:ai3 ZJ ES.length ZK:=by
   rcases bg N0 with⟨e1,e2⟩|⟨g9,c9,e1,_⟩
   ·simp only[dk]at e1;exact λ_=>⟨e2,e1.2.2⟩
   ·simp only[dk]at e1;intro e;rw[e1.1]at e;cases e
  refine(Xp.out _ _ _ rz Ip).mono ?_;rintro r Ov ⟨hb,rfl,h1⟩;have HS:=aa ((HS.fresh h1.jm).pull 3 rfl);clear h1 hB f37 f39 f24 fl oR Xb MJ N0 rz Ip
 case' g1|G=>simp only[ze]at HS;go_wp2;refine ao ?_;go_wp2_with fail
 case' g1=>repeat(first|go_big_quiet_step(fail)|quiet_step(fail)|apply ax|apply af|apply ag|apply ah)
 case' G=>repeat(first|go_big_quiet_step(fail)|apply ax|apply af|apply ag|apply ah)
 case' g1|G=>obtain⟨f38,qG⟩:=(HS.ar 0 rfl).fe HE.len 38 rfl rfl
 case' Z|J|g3|g1|G=>obtain⟨f32,gB⟩:=(HS.ar 0 rfl).fe HE.len 32 rfl rfl;have fl:=(HS.ar 0 rfl).lt
 case' Z|J=>have h5:=HS.set 0 rfl 32 (I 2)
 case' g3=>have h5:=HS.set 0 rfl 32 (I 11)
 case' g1=>have h5:=HS.set 0 rfl 38 (.iface 209 (O sb))
 case' G=>have h5:=HS.set 0 rfl 38 (.iface 199 (O hb))
 case' g1|G=>simp only[aL,cR HE.len _ 38 _ (by omega),Nat.reduceSub,aN]at h5;have HS:=aa h5;clear h5
 case' g1=>have h5:=HS.set 0 rfl 32 (I 10)
 case' G=>have h5:=HS.set 0 rfl 32 (I 12)
 case' Z|J|g3|g1|G=>simp only[aL,cR HE.len _ 32 _ (by omega),Nat.reduceSub,aN]at h5;have HS:=aa h5;clear h5
 case' Z=>go_wp2_with fail;generalize World.setCell _ _ _=w3 at HS⊢;refine(mX.out _ _ (HS.pull 1 rfl)).kq HS λw4 HS=>?_;go_wp2;refine aV (fV rfl _ _ _) rfl ?_
 case' J=>delta bR;go_in;go_wp2;go_end0
 case' g3=>go_wp2;go_end0
 case' g1|G=>refine ao ?_;go_wp2_with fail
 case' g1=>
  repeat(first|go_big_quiet_step(fail)|quiet_step(fail)|apply ax|apply af|apply ag|apply ah)
  refine ao ?_;go_wp2;refine aj ?_;generalize World.setCell (World.setCell _ _ _) _ _=X0 at HS⊢;clear f38 qG f32 gB fl;have MA:=HMN.out;have ar7:=ZV.out;have j8:=qC.out;subst j8;have h8:=((((HS.pull 2 rfl).tail.pull 3 rfl).tail.pull 1 rfl));have h9:=Sep.ofList (Ts:=[_,_]) h8;rw[←MA]at h9;have oo:=Sep.iK (Am (pv:=pv) (aO:=aO) (cv:=dh aO prog) (args:=args) (k:={kj with oc:=ZS,ov:=ZU,b:=some y,work:= .sc (kj.ns+1) CL 0,next:=10}) (s:=k.ns+1) (by show K.Uf.sc (kj.ns+1) CL 0=_;rw[ar7]) h9) (p:=O bb=O bb) rfl;have o7:Xr c aw pv aO (dh aO prog) args bb (.iface 166 (O bb)) bv {kj with oc:=ZS,ov:=ZU,b:=some y,work:= .sc (kj.ns+1) CL 0,next:=10} (.iface 209 (O sb)) (O bb)=ie (O bb=O bb) (cQ c aw pv aO (dh aO prog) args {kj with oc:=ZS,ov:=ZU,b:=some y,work:= .sc (kj.ns+1) CL 0,next:=10} (.iface 209 (O sb))):=by
   unfold Xr;exact aB rfl
  rw[←o7]at oo;have HS:=aa ((oo.pull 2 rfl).pull 2 rfl);clear h8 h9 oo o7;go_wp2
 case' G=>
  repeat(first|go_big_quiet_step(fail)|apply ax|apply af|apply ag|apply ah)
  refine ao ?_;go_wp2;refine aj ?_;go_wp2;go_end0
 case' Z|J=>exact⟨rfl,HS.out⟩
 case' g3=>exact⟨rfl,Qe.out _ HS.out⟩
 case' g1=>
  go_roundg (n-(j+1))
  case measure=>omega
  case rel=>refine⟨j+1,by omega,by go_num,.iface 209 (O sb),O bb,?_⟩;rw[Ra.out];exact HS.out
 case' G=>exact⟨rfl,_,Kb.out _ hb ((HS.pull 2 rfl).tail)⟩
 case' D=>
  refine⟨0,by omega,rfl,.iface 166 (O bb),bv,?_⟩;rw[H00.out];have h9:=Sep.iK (p:=Value.iface 166 (O bb)= .iface 166 (O bb)∧bv=bv) HS.out.ud ⟨rfl,rfl⟩;have e9:Xr c aw pv aO (dh aO prog) args bb (.iface 166 (O bb)) bv {k with next:=2} (.iface 166 (O bb)) bv=ie (Value.iface 166 (O bb)= .iface 166 (O bb)∧bv=bv) NK:=by
   unfold Xr;rw[aq (by show¬(2:Int)=10;decide)]
  rw[←e9]at h9
 case' D=>exact(h9.pull 2 rfl).pull 2 rfl
 case' g2=>
  have eme:(C7==aw)=false:=by simpa using Kc
  rw[aq Kc]at Ra;clear Kc;go_wp2
 case' g2=>
  go_roundg (n-(j+1))
  case measure=>omega
  case rel=>refine⟨j+1,by omega,by go_num,g_,DM,?_⟩;rw[Ra.out];exact HS.tail
 case' g0=>
  obtain rfl:j=n:=by omega
  have HS:=aa iU;clear iU;go_wp2;go_end0
 case' g0=>exact⟨rfl,g_,DM,((HS.pull 3 rfl).tail.pull 3 rfl).tail⟩
 rw[aq hc];have e:decide (d>l.length+1)=false:=by simpa using hc
 rw[e]at lI;have HS:=aa hS;clear hl hd hc e;have hA:=(hS);have f38:=(hA.ar 0 rfl).aR hE.len 38 rfl rfl;have fl:=(hA.ar 0 rfl).lt;clear hA;delta bR;go_in;go_wp2_with fail;refine(lI.out _ (HS.ar 1 rfl)).kq HS λw2 HS=>?_;go_wp2;go_end0;exact⟨rfl,HS.out⟩
def DL:=@zq34.1
def FV:=@zq34.2.1
def IL:=@zq34.2.2.1
def FW:=@zq34.2.2.2.1
def DO:=@zq34.2.2.2.2
def pI (c me y k):∀j,((gY c me y k j).next=10∧(gY c me y k j).b=some y)∨gY c me y k j=k
 |0=> .inr rfl
 |j+1=>by
  by_cases hj:j<y.rows.length
  ·rw[oZ _ _ _ _ _ hj];unfold m_;split
   ·exact .inl ⟨rfl,rfl⟩
   ·exact pI c me y k j
  ·have:=pI c me y k j;unfold gY at this⊢;rw[oA (by omega)]at this⊢;exact this
def II {w0 w R c}(aE:Y.Ok c){H aw tag seq b bb pv bv prog args aO ai y}(hE:KH (ae c) aw tag pv prog args H){k}(hI:BI c ai y)(xW:y.s=1→¬y.next=4)(pH:0≤k.ns∧k.ns≤4611686018427387904)(hk:k.work= .bu y)(hm:fR k.next→seq=k.ns)(hS:Sep w0 w (bB H b (.iface 166 (O bb)) bv k::df c aw seq bb pv aO y::bT c aw pv aO k.b bv::R)):
 Calls Tryz.prog 115 #[O b,O bb] w λr w'=>r=E∧∃g_ DM,Sep w0 w' (bB H b g_ DM (K.built c ⟨aw,tag,⟨prog,args⟩⟩ y k)::cQ c aw pv aO (dh aO prog) args (K.built c ⟨aw,tag,⟨prog,args⟩⟩ y k) g_::bT c aw pv aO (K.built c ⟨aw,tag,⟨prog,args⟩⟩ y k).b DM::R):=by
 by_cases h0:y.s=0
 ·have e:K.built c ⟨aw,tag,⟨prog,args⟩⟩ y k=k:=by unfold K.built;rw[aB h0]
  rw[e];refine(DK hI.bb.args h0 hS).mono λ_ _ h=>⟨h.1,.iface 166 (O bb),bv,?_⟩;exact(xg hk hm (h.2.pull 1 rfl)).pull 1 rfl
 by_cases h2:y.s=2
 ·have e:K.built c ⟨aw,tag,⟨prog,args⟩⟩ y k={k with next:=2}:=by unfold K.built;rw[aq h0,aB h2]
  rw[e];refine(DL hE hI.bb.args h2 hS).mono λ_ _ h=>⟨h.1,.iface 166 (O bb),bv,?_⟩;exact(xg (k:={k with next:=2}) hk (λe=>by unfold fR at e;dsimp only at e;omega) (h.2.pull 1 rfl)).pull 1 rfl
 have hsv:=hI.bb.s;have e:K.built c ⟨aw,tag,⟨prog,args⟩⟩ y k=gY c aw y {k with next:=2} y.rows.length:=by
  unfold K.built;rw[aq h0,aq h2,oh];unfold gY;rw[tV]
 rw[e];refine(FV aE hE hI h0 h2 (xW (by omega)) pH hS).mono λ_ _ h=>⟨h.1,?_⟩;obtain⟨g_,DM,h1⟩:=h.2;rcases pI c aw y {k with next:=2} y.rows.length with⟨kM,mw⟩|hc
 ·rw[mw];have h3:=h1.pull 2 rfl;unfold Xr at h3;rw[aB kM]at h3;obtain⟨YG,h4⟩:=h3.jn;subst YG;refine⟨g_,O bb,?_⟩;have h5:=DJ ((h4.pull 3 rfl).tail.pull 2 rfl);exact((h5.pull 1 rfl).pull 2 rfl)
 ·rw[hc]at h1⊢;have h3:=h1.pull 2 rfl;unfold Xr at h3;rw[aq (by show¬(2:Int)=10;decide)]at h3;obtain⟨⟨vJ,YG⟩,h4⟩:=h3.jn;subst vJ YG;have h5:=xg (cv:=dh aO prog) (args:=args) (k:={k with next:=2}) hk (λe=>by unfold fR at e;dsimp only at e;omega) (h4.tail.pull 1 rfl);exact⟨.iface 166 (O bb),_,h5.pull 1 rfl⟩
def MK (v w):(Instr.typeAssert (.iface 205 v) 165 205 true).run Tryz.prog w= .ok (.tuple #[v,.bool true]) w:=by
 simp[Instr.typeAssert,kD underlying205]
def ML (v w):(Instr.typeAssert (.iface 166 v) 165 166 true).run Tryz.prog w= .ok (.tuple #[v,.bool true]) w:=by
 simp[Instr.typeAssert,kD underlying166]
def MM (v w):(Instr.typeAssert (.iface 199 v) 165 199 true).run Tryz.prog w= .ok (.tuple #[v,.bool true]) w:=by
 simp[Instr.typeAssert,kD underlying199]
def Bv (v w):(Instr.typeAssert (.iface 166 v) 165 205 true).run Tryz.prog w= .ok (.tuple #[.pointer none,.bool false]) w:=by
 have hz:Tryz.t205.zero=some (.pointer none):=by kernel_rfl
 simp[Instr.typeAssert,kD underlying205,zeroValue,show Tryz.prog.info? 205=_ from rfl,hz]
def Bw (v w):(Instr.typeAssert (.iface 199 v) 165 205 true).run Tryz.prog w= .ok (.tuple #[.pointer none,.bool false]) w:=by
 have hz:Tryz.t205.zero=some (.pointer none):=by kernel_rfl
 simp[Instr.typeAssert,kD underlying205,zeroValue,show Tryz.prog.info? 205=_ from rfl,hz]
def Bx (v w):(Instr.typeAssert (.iface 199 v) 165 166 true).run Tryz.prog w= .ok (.tuple #[.pointer none,.bool false]) w:=by
 have hz:Tryz.t166.zero=some (.pointer none):=by kernel_rfl
 simp[Instr.typeAssert,kD underlying166,zeroValue,show Tryz.prog.info? 166=_ from rfl,hz]
def IJ {w0 w:World}{R:List a_}{c:Y.cA}{H:List Value}{aw tag:Int}{b:Nat}{pv bv:Value}{prog:Int}{args:List Int}{w1 seq:Int}{eb vb pb sb:Nat}{cv:Value}(hE:KH (ae c) aw tag pv prog args H){k:K.St}{x:X.St}(k9:0≤k.cZ∧k.cZ≤1000000)(hS:Sep w0 w (bB H b (.iface 205 (O eb)) bv k::aQ c w1 seq eb vb pb sb cv args x::R)):
 bR 88 #[O b] w w0 (bB H b (.iface 205 (O eb)) bv (K.read x k)::aQ c w1 seq eb vb pb sb cv args x::R):=by
 have nX:=aa (λw' hS=>Ct (w0:=w0) (w:=w') (R:=R) (b:=b) (wv:= .iface 205 (O eb)) (bv:=bv) (w1:=w1) (seq:=seq) (eb:=eb) (vb:=vb) (pb:=pb) (sb:=sb) (cv:=cv) hE (k:=k) (x:=x) k9 hS);have sf:=MK (O eb);generalize K.read x k=T at*;have HS:=aa hS;clear k9;have hA:=(hS);have f38:=(hA.ar 0 rfl).aR hE.len 38 rfl rfl;have fl:=(hA.ar 0 rfl).lt;clear hA;delta bR;go_in;go_wp2_with fail;refine(nX.out _ HS.out).kh λw3 HS=>?_;go_wp2;go_end0;exact⟨rfl,HS.out⟩
def zq35:(∀{w0 w R c}(aE:Y.Ok c){H aw tag seq b bb pv bv prog args aO ai y}(hE:KH (ae c) aw tag pv prog args H){k}(hI:BI c ai y)(xW:y.s=1→¬y.next=4)(pH:0≤k.ns∧k.ns≤4611686018427387904)(hk:k.work= .bu y)(hm:fR k.next→seq=k.ns)(hS:Sep w0 w (bB H b (.iface 166 (O bb)) bv k::df c aw seq bb pv aO y::bT c aw pv aO k.b bv::R)),Calls Tryz.prog 88 #[O b] w λr w'=>r=E∧∃g_ DM,Sep w0 w' (bB H b g_ DM (K.built c ⟨aw,tag,⟨prog,args⟩⟩ y k)::cQ c aw pv aO (dh aO prog) args (K.built c ⟨aw,tag,⟨prog,args⟩⟩ y k) g_::bT c aw pv aO (K.built c ⟨aw,tag,⟨prog,args⟩⟩ y k).b DM::R))∧(∀{w0 w R c}(aE:Y.Ok c){H aw tag b hb pv bv prog args aO ai}(hm:oY prog args ai)(hE:KH (ae c) aw tag pv prog args H)(hP:∀w',Sep w0 w' R→cL w' pv aO ai){k}(k9:0≤k.cZ∧k.cZ≤1000000){o s h}(hk:k.work= .he o s h)(hS:Sep w0 w (bB H b (.iface 199 (O hb)) bv k::eu c aw o s hb h::R)),Calls Tryz.prog 88 #[O b] w λr w'=>r=E∧∃g_,Sep w0 w' (bB H b g_ bv (K.jf c ai ⟨aw,tag,⟨prog,args⟩⟩ h k)::cQ c aw pv aO (dh aO prog) args (K.jf c ai ⟨aw,tag,⟨prog,args⟩⟩ h k) g_::R)):=by
 refine⟨?Z,?Y⟩
 case' Z=>intro w0 w R c aE H aw tag seq b bb pv bv prog args aO ai y hE k hI xW pH hk hm hS;have nX:=aa (λw' hS=>II (w0:=w0) (w:=w') (R:=R) (b:=b) (bb:=bb) (bv:=bv) (aO:=aO) (ai:=ai) aE hE (k:=k) hI xW pH hk hm hS);have sf:=ML (O bb);have uV:=Bv (O bb);generalize K.built c ⟨aw,tag,⟨prog,args⟩⟩ y k=T at*;have HS:=aa hS;clear hI xW pH hm hk
 case' Y=>intro w0 w R c aE H aw tag b hb pv bv prog args aO ai hm hE hP k k9 o s h hk hS;have nX:=aa (λw' hS=>FR (w0:=w0) (w:=w') (R:=R) (b:=b) (hb:=hb) (bv:=bv) (aO:=aO) (ai:=ai) aE hm hE hP (k:=k) k9 hk hS);have sf:=MM (O hb);have uV:=Bw (O hb);have hk3:=Bx (O hb);generalize K.jf c ai ⟨aw,tag,⟨prog,args⟩⟩ h k=T at*;have HS:=aa hS;clear hP k9 hm hk
 case' Z|Y=>have hA:=(hS);have f38:=(hA.ar 0 rfl).aR hE.len 38 rfl rfl;have fl:=(hA.ar 0 rfl).lt;clear hA;go_in;go_wp2_with fail;refine(nX.out _ HS.out).kh λw3 HS=>?_;go_wp2;go_end0
 case' Z|Y=>exact⟨rfl,HS.out⟩
def IK:=@zq35.1
def An:=@zq35.2
def FY (x w):(method 416 166 x "Tell").run Tryz.prog w= .ok (220,x) w:=by kernel_rfl
def xY (x w):(method 416 199 x "Tell").run Tryz.prog w= .ok (239,x) w:=by kernel_rfl
def FZ (x w):(method 416 209 x "Tell").run Tryz.prog w= .ok (245,x) w:=by kernel_rfl
def IU {w0 w R}(b cs)(aD:cs.length=24)(aw seq v l d x y z)(hl:l.length≤100000)(hd:d≤100000)(hS:Sep w0 w (aJ b 242 (Sc.tJ cs aw seq v d)::aU 0 234 2 v l.length (flat Sc.iS l)::R)):
 bR 245 #[O b,.agg #[U x,U y,.bool z]] w w0 (aJ b 242 (Sc.tJ cs aw seq v (if l.length+1<d then d else d+1))::aU 0 234 2 v l.length (flat Sc.iS l)::R):=by
 obtain⟨la,lc,rfl⟩:=hS.form 1 rfl;by_cases hc:l.length+1<d
 ·rw[aB hc];exact K3 b cs aD aw seq la l.length lc d x y z hS hl hd (by simpa using hc)
 ·rw[aq hc];exact TY b cs aD aw seq la l.length lc d x y z hS hl hd (by simpa using hc)
def zq36:(∀{w0 w R c H aw tag b pv wv bv prog args}(hE:KH (ae c) aw tag pv prog args H){k}(v n ok)(hn:k.next=0)(hg:0≤k.given∧k.given≤4)(ZW:k.given+1=4)(hS:Sep w0 w (bB H b wv bv k::R)),bR 62 #[O b,.agg #[U v,U n,.bool ok]] w w0 (bB H b wv bv {k with fresh:=false,eV:=false,given:=4,next:=1}::R))∧(∀{w0 w R c H aw tag b pv wv bv prog args}(hE:KH (ae c) aw tag pv prog args H){k}(v n ok)(hn:k.next=0)(hg:0≤k.given∧k.given≤4)(ZW:¬k.given+1=4)(hS:Sep w0 w (bB H b wv bv k::R)),bR 62 #[O b,.agg #[U v,U n,.bool ok]] w w0 (bB H b wv bv {k with fresh:=false,eV:=false,given:=k.given+1}::R))∧(∀{w0 w R c H aw tag b pv wv bv prog args}(hE:KH (ae c) aw tag pv prog args H){k}(v n ok)(hn:k.next=1)(hS:Sep w0 w (bB H b wv bv k::R)),bR 62 #[O b,.agg #[U v,U n,.bool ok]] w w0 (bB H b wv bv {k with fresh:=false,eV:=false,asked:=true,next:=2}::R))∧(∀{w0 w R c}(aE:Y.Ok c){H aw tag b pv wv bv prog args aO ai}(hm:oY prog args ai)(hE:KH (ae c) aw tag pv prog args H)(hP:∀w',Sep w0 w' R→cL w' pv aO ai){k}(k7:W.U_ k.nv)(k9:0≤k.cZ∧k.cZ≤1000000)(v n ok)(hn:k.next=3)(hS:Sep w0 w (bB H b wv bv k::cQ c aw pv aO (dh aO prog) args {k with fresh:=false,eV:=false} wv::R)),Calls Tryz.prog 62 #[O b,.agg #[U v,U n,.bool ok]] w λr w'=>r=E∧∃g_,Sep w0 w' (bB H b g_ bv (K.opened c ai ⟨aw,tag,⟨prog,args⟩⟩ v n {k with fresh:=false,eV:=false})::cQ c aw pv aO (dh aO prog) args (K.opened c ai ⟨aw,tag,⟨prog,args⟩⟩ v n {k with fresh:=false,eV:=false}) g_::R))∧(∀{w0 w R c}(aE:Y.Ok c){H aw tag b pv wv bv prog args aO ai}(hm:oY prog args ai)(hE:KH (ae c) aw tag pv prog args H)(hP:∀w',Sep w0 w' R→cL w' pv aO ai){k}(k9:0≤k.cZ∧k.cZ≤1000000)(v n ok)(hn:k.next=5)(hS:Sep w0 w (bB H b wv bv k::cQ c aw pv aO (dh aO prog) args {k with fresh:=false,eV:=false} wv::R)),Calls Tryz.prog 62 #[O b,.agg #[U v,U n,.bool ok]] w λr w'=>r=E∧∃g_,Sep w0 w' (bB H b g_ bv (K.answer c ai ⟨aw,tag,⟨prog,args⟩⟩ v {k with fresh:=false,eV:=false})::cQ c aw pv aO (dh aO prog) args (K.answer c ai ⟨aw,tag,⟨prog,args⟩⟩ v {k with fresh:=false,eV:=false}) g_::R))∧(∀{w0 w R c}(aE:Y.Ok c){H aw tag b pv wv bv prog args aO ai}(hm:oY prog args ai)(hE:KH (ae c) aw tag pv prog args H)(hP:∀w',Sep w0 w' R→cL w' pv aO ai){k}(k9:0≤k.cZ∧k.cZ≤1000000)(v n ok)(hn:k.next=6)(hS:Sep w0 w (bB H b wv bv k::cQ c aw pv aO (dh aO prog) args {k with fresh:=false,eV:=false} wv::R)),Calls Tryz.prog 62 #[O b,.agg #[U v,U n,.bool ok]] w λr w'=>r=E∧∃g_,Sep w0 w' (bB H b g_ bv (K.answer c ai ⟨aw,tag,⟨prog,args⟩⟩ v {k with fresh:=false,eV:=false})::cQ c aw pv aO (dh aO prog) args (K.answer c ai ⟨aw,tag,⟨prog,args⟩⟩ v {k with fresh:=false,eV:=false}) g_::R))∧(∀{w0 w R c}(aE:Y.Ok c){H aw tag b pv wv bv prog args aO ai}(hm:oY prog args ai)(hE:KH (ae c) aw tag pv prog args H)(hP:∀w',Sep w0 w' R→cL w' pv aO ai){k}(k9:0≤k.cZ∧k.cZ≤1000000)(v n ok)(hn:k.next=7)(hS:Sep w0 w (bB H b wv bv k::cQ c aw pv aO (dh aO prog) args {k with fresh:=false,eV:=false} wv::R)),Calls Tryz.prog 62 #[O b,.agg #[U v,U n,.bool ok]] w λr w'=>r=E∧∃g_,Sep w0 w' (bB H b g_ bv (K.answer c ai ⟨aw,tag,⟨prog,args⟩⟩ v {k with fresh:=false,eV:=false})::cQ c aw pv aO (dh aO prog) args (K.answer c ai ⟨aw,tag,⟨prog,args⟩⟩ v {k with fresh:=false,eV:=false}) g_::R))∧(∀{w0 w R c H aw tag b pv wv bv prog args}(hE:KH (ae c) aw tag pv prog args H){k}(v n)(hn:k.next=11)(hS:Sep w0 w (bB H b wv bv k::R)),bR 62 #[O b,.agg #[U v,U n,.bool false]] w w0 (bB H b wv bv {k with fresh:=false,eV:=false,next:=2}::R))∧(∀{w0 w R c}(aE:Y.Ok c){H aw tag b pv wv bv prog args aO}(hE:KH (ae c) aw tag pv prog args H){k y}(hb:k.b=some y)(xW:¬y.next=4)(pH:0≤k.ns∧k.ns≤4611686018427387904)(v n)(hn:k.next=11)(hS:Sep w0 w (bB H b wv bv k::bT c aw pv aO k.b bv::R)),Calls Tryz.prog 62 #[O b,.agg #[U v,U n,.bool true]] w λr w'=>r=E∧∃g_,Sep w0 w' (bB H b g_ bv (K.iT c ⟨aw,tag,⟨prog,args⟩⟩ true {k with fresh:=false,eV:=false})::cQ c aw pv aO (dh aO prog) args (K.iT c ⟨aw,tag,⟨prog,args⟩⟩ true {k with fresh:=false,eV:=false}) g_::bT c aw pv aO (K.iT c ⟨aw,tag,⟨prog,args⟩⟩ true {k with fresh:=false,eV:=false}).b bv::R))∧(∀{w0 w R c}(aE:Y.Ok c){H aw tag b bb pv bv prog args aO ai}(Zx:PU ai)(hE:KH (ae c) aw tag pv prog args H)(hP:∀w',Sep w0 w' R→cL w' pv aO ai){k y}(hI:BI c ai y)(v n)(hv:W.U_ v)(Zy:W.U_ n)(ok)(xW:(B.tell c ai k.ns v n y).s=1→¬(B.tell c ai k.ns v n y).next=4)(pH:0≤k.ns∧k.ns≤4611686018427387904)(hn:k.next=9)(hS:Sep w0 w (bB H b (.iface 166 (O bb)) bv k::df c aw k.ns bb pv aO y::bT c aw pv aO k.b bv::R)),Calls Tryz.prog 62 #[O b,.agg #[U v,U n,.bool ok]] w λr w'=>r=E∧∃g_ DM,Sep w0 w' (bB H b g_ DM (K.built c ⟨aw,tag,⟨prog,args⟩⟩ (B.tell c ai k.ns v n y) {k with fresh:=false,eV:=false,work:= .bu (B.tell c ai k.ns v n y)})::cQ c aw pv aO (dh aO prog) args (K.built c ⟨aw,tag,⟨prog,args⟩⟩ (B.tell c ai k.ns v n y) {k with fresh:=false,eV:=false,work:= .bu (B.tell c ai k.ns v n y)}) g_::bT c aw pv aO (K.built c ⟨aw,tag,⟨prog,args⟩⟩ (B.tell c ai k.ns v n y) {k with fresh:=false,eV:=false,work:= .bu (B.tell c ai k.ns v n y)}).b DM::R))∧(∀{w0 w R c}(aE:Y.Ok c){H aw tag b hb pv bv prog args aO ai}(hm:oY prog args ai)(hE:KH (ae c) aw tag pv prog args H)(hP:∀w',Sep w0 w' R→cL w' pv aO ai){k o s h}(hI:Go.aS.H.Inv c h)(k9:0≤k.cZ∧k.cZ≤1000000)(v n)(hv:W.U_ v)(Zy:W.U_ n)(ok)(hn:k.next=4)(hS:Sep w0 w (bB H b (.iface 199 (O hb)) bv k::eu c aw o s hb h::R)),Calls Tryz.prog 62 #[O b,.agg #[U v,U n,.bool ok]] w λr w'=>r=E∧∃g_,Sep w0 w' (bB H b g_ bv (K.jf c ai ⟨aw,tag,⟨prog,args⟩⟩ (Go.aS.H.tell c s v n h) {k with fresh:=false,eV:=false,work:= .he o s (Go.aS.H.tell c s v n h)})::cQ c aw pv aO (dh aO prog) args (K.jf c ai ⟨aw,tag,⟨prog,args⟩⟩ (Go.aS.H.tell c s v n h) {k with fresh:=false,eV:=false,work:= .he o s (Go.aS.H.tell c s v n h)}) g_::R))∧(∀{w0 w R c}(aE:Y.Ok c){H aw tag b hb pv bv prog args aO ai}(hm:oY prog args ai)(hE:KH (ae c) aw tag pv prog args H)(hP:∀w',Sep w0 w' R→cL w' pv aO ai){k o s h}(hI:Go.aS.H.Inv c h)(k9:0≤k.cZ∧k.cZ≤1000000)(v n)(hv:W.U_ v)(Zy:W.U_ n)(ok)(hn:k.next=12)(hS:Sep w0 w (bB H b (.iface 199 (O hb)) bv k::eu c aw o s hb h::R)),Calls Tryz.prog 62 #[O b,.agg #[U v,U n,.bool ok]] w λr w'=>r=E∧∃g_,Sep w0 w' (bB H b g_ bv (K.jf c ai ⟨aw,tag,⟨prog,args⟩⟩ (Go.aS.H.tell c s v n h) {k with fresh:=false,eV:=false,work:= .he o s (Go.aS.H.tell c s v n h)})::cQ c aw pv aO (dh aO prog) args (K.jf c ai ⟨aw,tag,⟨prog,args⟩⟩ (Go.aS.H.tell c s v n h) {k with fresh:=false,eV:=false,work:= .he o s (Go.aS.H.tell c s v n h)}) g_::R))∧(∀{w0 w R c H aw tag b sb pv bv prog args}(hE:KH (ae c) aw tag pv prog args H){k s va l d}(hl:l.length≤90000)(hd:d≤90000)(v n ok)(hn:k.next=10)(hS:Sep w0 w (bB H b (.iface 209 (O sb)) bv k::aJ sb 242 (Sc.tJ (ae c) aw s va d)::aU 0 234 2 va l.length (flat Sc.iS l)::R)),bR 62 #[O b,.agg #[U v,U n,.bool ok]] w w0 (bB H b (.iface 209 (O sb)) bv (if l.length+1<(if l.length+1<d then d else d+1)then{k with fresh:=false,eV:=false,work:= .sc s l (if l.length+1<d then d else d+1),next:=11}else{k with fresh:=false,eV:=false,work:= .sc s l (if l.length+1<d then d else d+1)})::aJ sb 242 (Sc.tJ (ae c) aw s va (if l.length+1<d then d else d+1))::aU 0 234 2 va l.length (flat Sc.iS l)::R)):=by
 refine⟨?Z,?Y,?X,?J,?G,?D,?V,?U,?g0,?g1,?g2,?g3,?g4⟩
 case' Z|Y=>intro w0 w R c H aw tag b pv wv bv prog args hE k v n ok hn hg ZW hS
 case' Z=>have Xj:k.given=3:=by omega
 case' Y=>have hwg:IntKind.i64.wrap (k.given+1)=k.given+1:=bf _ (by omega) (by omega);have hg5:(k.given+1==4)=false:=by simpa using ZW
 case' Z|Y=>clear hg ZW
 case' X=>intro w0 w R c H aw tag b pv wv bv prog args hE k v n ok hn hS
 case' J=>intro w0 w R c aE H aw tag b pv wv bv prog args aO ai hm hE hP k k7 k9 v n ok hn hS;have Kd:=aa (λw' hS=>FQ (w0:=w0) (w:=w') (R:=R) (b:=b) (wv:=wv) (bv:=bv) (aO:=aO) (ai:=ai) aE hm hE hP (k:={k with fresh:=false,eV:=false}) k7 k9 v n hS);generalize K.opened c ai ⟨aw,tag,⟨prog,args⟩⟩ v n {k with fresh:=false,eV:=false}=T at*
 case' G|D|V=>intro w0 w R c aE H aw tag b pv wv bv prog args aO ai hm hE hP k k9 v n ok hn hS;have Kd:=aa (λw' hS=>sP (w0:=w0) (w:=w') (R:=R) (b:=b) (wv:=wv) (bv:=bv) (aO:=aO) (ai:=ai) aE hm hP hE (k:={k with fresh:=false,eV:=false}) k9 v (by dsimp only;omega) hS);generalize K.answer c ai ⟨aw,tag,⟨prog,args⟩⟩ v {k with fresh:=false,eV:=false}=T at*
 case' J|G|D|V=>generalize cQ c aw pv aO (dh aO prog) args {k with fresh:=false,eV:=false} wv=W at*
 case' J=>clear hP k7 k9 hm
 case' G|D|V=>clear hP k9 hm
 case' U=>intro w0 w R c H aw tag b pv wv bv prog args hE k v n hn hS;have Kd:=aa (λw' hS=>FW (w0:=w0) (w:=w') (R:=R) (b:=b) (wv:=wv) (bv:=bv) hE (k:={k with fresh:=false,eV:=false}) hS)
 case' g0=>intro w0 w R c aE H aw tag b pv wv bv prog args aO hE k y hb xW pH v n hn hS;have Kd:=aa (λw' hS=>DO (w0:=w0) (w:=w') (R:=R) (b:=b) (wv:=wv) (bv:=bv) (aO:=aO) aE hE (k:={k with fresh:=false,eV:=false}) hb xW pH hS);generalize K.iT c ⟨aw,tag,⟨prog,args⟩⟩ true {k with fresh:=false,eV:=false}=T at*;dsimp only at Kd;generalize bT c aw pv aO k.b bv=BB at*;clear hb xW pH
 case' g1=>intro w0 w R c aE H aw tag b bb pv bv prog args aO ai Zx hE hP k y hI v n hv Zy ok xW pH hn hS;have Rf:=aa (λw' RR hP hS=>MB (w0:=w0) (w:=w') (R:=RR) aE (aw:=aw) (seq:=k.ns) (b:=bb) (pv:=pv) (aO:=aO) hP Zx hI v n hv Zy ok hS);have uH:=hI.tell aE Zx k.ns v n hv Zy;have Tf:=aa (λw' hS=>IK (w0:=w0) (w:=w') (R:=R) (b:=b) (bb:=bb) (bv:=bv) (seq:=k.ns) (aO:=aO) aE hE (k:={k with fresh:=false,eV:=false,work:= .bu (B.tell c ai k.ns v n y)}) uH xW pH rfl (λ_=>rfl) hS);have sf:=FY (O bb);generalize B.tell c ai k.ns v n y=y2 at*;generalize K.built c ⟨aw,tag,⟨prog,args⟩⟩ y2 {k with fresh:=false,eV:=false,work:= .bu y2}=T at*;have HP:=aa hP;clear hP hI uH Zx xW pH;generalize vJ:Value.iface 166 (O bb)=wv at*;generalize bT c aw pv aO k.b bv=BB at*
 case' g2|g3=>intro w0 w R c aE H aw tag b hb pv bv prog args aO ai hm hE hP k o s h hI k9 v n hv Zy ok hn hS;have Rf:=aa (λw' RR hS=>Cs (w0:=w0) (w:=w') (R:=RR) hb c aE aw o s h v n ok hv Zy.1 hI.rE hI.Wd hS);have Tf:=aa (λw' hS=>An (w0:=w0) (w:=w') (R:=R) (b:=b) (hb:=hb) (bv:=bv) (aO:=aO) (ai:=ai) aE hm hE hP (k:={k with fresh:=false,eV:=false,work:= .he o s (Go.aS.H.tell c s v n h)}) k9 (o:=o) (s:=s) (h:=Go.aS.H.tell c s v n h) rfl hS);have sf:=xY (O hb);generalize Go.aS.H.tell c s v n h=h2 at*;generalize K.jf c ai ⟨aw,tag,⟨prog,args⟩⟩ h2 {k with fresh:=false,eV:=false,work:= .he o s h2}=T at*;clear hP hI hm k9;generalize vJ:Value.iface 199 (O hb)=wv at*
 case' g4=>
  intro w0 w R c H aw tag b sb pv bv prog args hE k s va l d hl hd v n ok hn hS;have Rf:=aa (λw' RR hS=>IU (w0:=w0) (w:=w') (R:=RR) sb (ae c) rfl aw s va l d v n ok (by omega) (by omega) hS);have sr:(if l.length+1<d then d else d+1)≤100000:=by split<;>omega
  have Tf:=aa (λw' hS=>IL (w0:=w0) (w:=w') (R:=R) (b:=b) (sb:=sb) (bv:=bv) hE (k:={k with fresh:=false,eV:=false,work:= .sc s l (if l.length+1<d then d else d+1)}) (w1:=aw) (s:=s) (v:=va) (l:=l) (d:=if l.length+1<d then d else d+1) (by omega) sr hS);have sf:=FZ (O sb);clear sr;generalize(if l.length+1<d then d else d+1)=d2 at*;dsimp only at Tf;generalize(if l.length+1<d2 then _ else _:K.St)=T at*;clear hl hd;generalize vJ:Value.iface 209 (O sb)=wv at*
 case' Z|Y|X|J|G|D|V|U|g0|g1|g2|g3|g4=>
  have lI:=aa (λw' R' (k':K.St) hS=>fg (w0:=w0) (w:=w') (R:=R') (b:=b) (wv:=wv) (bv:=bv) hE (k:=k') hS);obtain⟨dG,bG,bD,bH,gZ,gC,cP,kb,bI,dC,ik,il,f_,gf,bJ⟩:=k;try dsimp only at*
  subst hn
 case' Z|Y=>have jZ:=aa ((show Sep w0 w (aJ b 168 (H++[I 0,I bG,I bD,.bool bH,U gZ,U gC,wv,bv,.bool bI,.bool dC,I ik,U il,I f_,U gf,.bool bJ])::_)from hS).new 84 [U v,U n,.bool ok])
 case' X=>have jZ:=aa ((show Sep w0 w (aJ b 168 (H++[I 1,I bG,I bD,.bool bH,U gZ,U gC,wv,bv,.bool bI,.bool dC,I ik,U il,I f_,U gf,.bool bJ])::_)from hS).new 84 [U v,U n,.bool ok])
 case' Z|Y|X=>have HE:=aa hE;clear hS hE;delta bR;go_in;go_wp2_with fail
 case' Z|Y=>refine(lI.out _ _ ⟨0,bG,bD,bH,gZ,gC,cP,kb,bI,dC,ik,il,f_,gf,bJ⟩ (jZ.pull 1 rfl)).kk λw2 hf=>?_
 case' X=>refine(lI.out _ _ ⟨1,bG,bD,bH,gZ,gC,cP,kb,bI,dC,ik,il,f_,gf,bJ⟩ (jZ.pull 1 rfl)).kk λw2 hf=>?_
 case' J=>have jZ:=aa ((show Sep w0 w (aJ b 168 (H++[I 3,I bG,I bD,.bool bH,U gZ,U gC,wv,bv,.bool bI,.bool dC,I ik,U il,I f_,U gf,.bool bJ])::_)from hS).new 84 [U v,U n,.bool ok])
 case' G=>have jZ:=aa ((show Sep w0 w (aJ b 168 (H++[I 5,I bG,I bD,.bool bH,U gZ,U gC,wv,bv,.bool bI,.bool dC,I ik,U il,I f_,U gf,.bool bJ])::_)from hS).new 84 [U v,U n,.bool ok])
 case' D=>have jZ:=aa ((show Sep w0 w (aJ b 168 (H++[I 6,I bG,I bD,.bool bH,U gZ,U gC,wv,bv,.bool bI,.bool dC,I ik,U il,I f_,U gf,.bool bJ])::_)from hS).new 84 [U v,U n,.bool ok])
 case' V=>have jZ:=aa ((show Sep w0 w (aJ b 168 (H++[I 7,I bG,I bD,.bool bH,U gZ,U gC,wv,bv,.bool bI,.bool dC,I ik,U il,I f_,U gf,.bool bJ])::_)from hS).new 84 [U v,U n,.bool ok])
 case' J|G|D|V=>have HE:=aa hE;clear hS hE;go_in;go_wp2_with fail
 case' J=>refine(lI.out _ _ ⟨3,bG,bD,bH,gZ,gC,cP,kb,bI,dC,ik,il,f_,gf,bJ⟩ (jZ.pull 1 rfl)).kk λw2 hf=>?_
 case' G=>refine(lI.out _ _ ⟨5,bG,bD,bH,gZ,gC,cP,kb,bI,dC,ik,il,f_,gf,bJ⟩ (jZ.pull 1 rfl)).kk λw2 hf=>?_
 case' D=>refine(lI.out _ _ ⟨6,bG,bD,bH,gZ,gC,cP,kb,bI,dC,ik,il,f_,gf,bJ⟩ (jZ.pull 1 rfl)).kk λw2 hf=>?_
 case' V=>refine(lI.out _ _ ⟨7,bG,bD,bH,gZ,gC,cP,kb,bI,dC,ik,il,f_,gf,bJ⟩ (jZ.pull 1 rfl)).kk λw2 hf=>?_
 case' U=>have jZ:=aa ((show Sep w0 w (aJ b 168 (H++[I 11,I bG,I bD,.bool bH,U gZ,U gC,wv,bv,.bool bI,.bool dC,I ik,U il,I f_,U gf,.bool bJ])::_)from hS).new 84 [U v,U n,.bool false]);have HE:=aa hE;clear hS hE;delta bR;go_in
 case' g0=>have jZ:=aa ((show Sep w0 w (aJ b 168 (H++[I 11,I bG,I bD,.bool bH,U gZ,U gC,wv,bv,.bool bI,.bool dC,I ik,U il,I f_,U gf,.bool bJ])::_)from hS).new 84 [U v,U n,.bool true]);have HE:=aa hE;clear hS hE;go_in
 case' U|g0=>go_wp2_with fail;refine(lI.out _ _ ⟨11,bG,bD,bH,gZ,gC,cP,kb,bI,dC,ik,il,f_,gf,bJ⟩ (jZ.pull 1 rfl)).kk λw2 hf=>?_
 case' g1=>
  have jZ:=aa ((show Sep w0 w (aJ b 168 (H++[I 9,I bG,I bD,.bool bH,U gZ,U gC,wv,bv,.bool bI,.bool dC,I ik,U il,I f_,U gf,.bool bJ])::_)from hS).new 84 [U v,U n,.bool ok]);have HE:=aa hE;have Rg:decide ((9:Int)=13)=false:=by decide
  clear hS hE;go_in;go_wp2_with fail;refine(lI.out _ _ ⟨9,bG,bD,bH,gZ,gC,cP,kb,bI,dC,ik,il,f_,gf,bJ⟩ (jZ.pull 1 rfl)).kk λw2 hf=>?_
 case' g2=>
  have jZ:=aa ((show Sep w0 w (aJ b 168 (H++[I 4,I bG,I bD,.bool bH,U gZ,U gC,wv,bv,.bool bI,.bool dC,I ik,U il,I f_,U gf,.bool bJ])::_)from hS).new 84 [U v,U n,.bool ok]);have HE:=aa hE;have Rg:decide ((4:Int)=13)=false:=by decide
  clear hS hE;go_in;go_wp2_with fail;refine(lI.out _ _ ⟨4,bG,bD,bH,gZ,gC,cP,kb,bI,dC,ik,il,f_,gf,bJ⟩ (jZ.pull 1 rfl)).kk λw2 hf=>?_
 case' g3=>
  have jZ:=aa ((show Sep w0 w (aJ b 168 (H++[I 12,I bG,I bD,.bool bH,U gZ,U gC,wv,bv,.bool bI,.bool dC,I ik,U il,I f_,U gf,.bool bJ])::_)from hS).new 84 [U v,U n,.bool ok]);have HE:=aa hE;have Rg:decide ((12:Int)=13)=false:=by decide
  clear hS hE;go_in;go_wp2_with fail;refine(lI.out _ _ ⟨12,bG,bD,bH,gZ,gC,cP,kb,bI,dC,ik,il,f_,gf,bJ⟩ (jZ.pull 1 rfl)).kk λw2 hf=>?_
 case' g4=>
  have jZ:=aa ((show Sep w0 w (aJ b 168 (H++[I 10,I bG,I bD,.bool bH,U gZ,U gC,wv,bv,.bool bI,.bool dC,I ik,U il,I f_,U gf,.bool bJ])::_)from hS).new 84 [U v,U n,.bool ok]);have HE:=aa hE;have Rg:decide ((10:Int)=13)=false:=by decide
  clear hS hE;delta bR;go_in;go_wp2_with fail;refine(lI.out _ _ ⟨10,bG,bD,bH,gZ,gC,cP,kb,bI,dC,ik,il,f_,gf,bJ⟩ (jZ.pull 1 rfl)).kk λw2 hf=>?_
 case' Z|Y|X|J|G|D|V|U|g0|g1|g2|g3|g4=>have HS:=aa ((jZ.c_ hf).pull 1 rfl);clear hf jZ lI;simp only[ze]at HS;have HO:=aa (HS.ar 1 rfl);obtain⟨f32,gB⟩:=(HS.ar 0 rfl).fe HE.len 32 rfl rfl;obtain⟨f40,rL⟩:=(HS.ar 0 rfl).fe HE.len 40 rfl rfl;obtain⟨f41,pY⟩:=(HS.ar 0 rfl).fe HE.len 41 rfl rfl;have fl:=(HS.ar 0 rfl).lt
 case' Z=>subst Xj
 case' Z|Y=>obtain⟨f33,ar8⟩:=(HS.ar 0 rfl).fe HE.len 33 rfl rfl
 case' X=>obtain⟨f35,az2⟩:=(HS.ar 0 rfl).fe HE.len 35 rfl rfl
 case' J|G|D|V=>have o0:=HO.cell 0
 case' J=>have o1:=HO.cell 1;have ol:=HO.lt;simp only[zg]at o0 o1
 case' G|D|V=>have ol:=HO.lt;simp only[gn]at o0
 case' U|g0=>have o2:=HO.cell 2;have ol:=HO.lt;simp only[zg]at o2
 case' g1|g2|g3|g4=>subst vJ;have o0:=HO.drew.cell 0;have o1:=HO.drew.cell 1;have o2:=HO.drew.cell 2;have ol:=HO.drew.lt;simp only[zg]at o0 o1 o2;clear o0 o1 o2 ol
 case' Z|Y|X|J|G|D|V|U|g0|g1|g2|g3|g4=>have h5:=HS.set 0 rfl 40 (.bool false);simp only[aL,cR HE.len _ 40 _ (by omega),Nat.reduceSub,aN]at h5;have HS:=aa h5;clear h5;have h5:=HS.set 0 rfl 41 (.bool false);simp only[aL,cR HE.len _ 41 _ (by omega),Nat.reduceSub,aN]at h5;have HS:=aa h5;clear h5
 case' Z=>have h5:=HS.set 0 rfl 33 (I 4)
 case' Y=>have h5:=HS.set 0 rfl 33 (I (bG+1))
 case' Z|Y=>simp only[aL,cR HE.len _ 33 _ (by omega),Nat.reduceSub,aN]at h5;have HS:=aa h5;clear h5
 case' Z=>have h5:=HS.set 0 rfl 32 (I 1);simp only[aL,cR HE.len _ 32 _ (by omega),Nat.reduceSub,aN]at h5;have HS:=aa h5;clear h5;go_wp2;go_end0
 case' Y=>go_wp2;go_end0
 case' X=>have h5:=HS.set 0 rfl 35 (.bool true);simp only[aL,cR HE.len _ 35 _ (by omega),Nat.reduceSub,aN]at h5;have HS:=aa h5;clear h5;have h5:=HS.set 0 rfl 32 (I 2);simp only[aL,cR HE.len _ 32 _ (by omega),Nat.reduceSub,aN]at h5;have HS:=aa h5;clear h5;go_wp2;go_end0
 case' J|G|D|V|U|g0|g1|g2|g3|g4=>have VH:¬b=w.heap.size:=λe=>HS.ne 0 1 rfl rfl (by decide) e;go_wp2_with fail
 case' J|G|D|V=>refine(Kd.out _ ((HS.pull 1 rfl).tail)).mono ?_;rintro r w3 ⟨rfl,g_,h1⟩;have HS:=aa h1;clear h1;go_wp2;go_end0
 case' U=>refine(Kd.out _ ((HS.pull 1 rfl).tail)).kh λw3 HS=>?_;go_wp2;go_end0
 case' g0=>refine(Kd.out _ ((HS.pull 1 rfl).tail)).mono ?_;rintro r w3 ⟨rfl,g_,h1⟩;have HS:=aa h1;clear h1;go_wp2;go_end0
 case' g1|g2|g3|g4=>
  generalize World.setCell (World.setCell _ _ _) _ _=w3 at HS⊢;clear f32 gB f40 rL f41 pY fl;have hB:=(HS.ar 0 rfl).drew;have hO:=(HS.ar 1 rfl).drew;have o0:=hO.cell 0;have o1:=hO.cell 1;have o2:=hO.cell 2;have ol:=hO.lt;simp only[zg]at o0 o1 o2;obtain⟨f38,qG⟩:=hB.fe HE.len 38 rfl rfl;have fl:=hB.lt;refine bW [(1,[0,1,2,3,4]),(3,[5])] (by kernel_rfl) ?_;simp only[zz];repeat(first|go_big_quiet_step(fail)|apply ax|apply af|apply ag|apply ah)
  refine ao ?_;go_wp2_with fail
 case' g1=>refine(Rf.out _ _ (λw' h=>HP.out w' h.tail.tail.tail) (HS.drew.pull 2 rfl)).kk λw4 h1=>?_
 case' g2|g3=>refine(Rf.out _ _ (HS.drew.pull 2 rfl)).kk λw4 h1=>?_
 case' g1|g2|g3=>have HS:=aa (((h1.pull 2 rfl).tail).pull 1 rfl)
 case' g4=>refine(Rf.out _ _ ((HS.drew.pull 3 rfl).pull 3 rfl)).kk λw4 h1=>?_;have HS:=aa (((h1.pull 3 rfl).tail).pull 2 rfl)
 case' g1|g2|g3|g4=>clear h1 hB hO o0 o1 o2 ol f38 qG fl;go_wp2;refine aj ?_;go_wp2_with fail;refine(Tf.out _ HS.out).kh λw5 HS=>?_;go_wp2;go_end0
 case' Z|Y|X=>exact⟨rfl,(HS.pull 1 rfl).tail⟩
 case' J|G|D|V|g0=>exact⟨rfl,g_,HS.out⟩
 case' U|g1|g2|g3|g4=>exact⟨rfl,HS.out⟩
def Rb:=@zq36.1
def Rc:=@zq36.2.1
def VB:=@zq36.2.2.1
def VD:=@zq36.2.2.2.1
def VE:=@zq36.2.2.2.2.1
def VF:=@zq36.2.2.2.2.2.1
def VG:=@zq36.2.2.2.2.2.2.1
def MO:=@zq36.2.2.2.2.2.2.2.1
def MP:=@zq36.2.2.2.2.2.2.2.2.1
def Rh:=@zq36.2.2.2.2.2.2.2.2.2.1
def MQ:=@zq36.2.2.2.2.2.2.2.2.2.2.1
def IS:=@zq36.2.2.2.2.2.2.2.2.2.2.2.1
def Ri:=@zq36.2.2.2.2.2.2.2.2.2.2.2.2
def VC {w0 w:World}{R:List a_}{c:Y.cA}{H:List Value}{aw tag:Int}{b:Nat}{pv wv bv:Value}{prog:Int}{args:List Int}{aO:List Value}{ai:List (List In)}(hE:KH (ae c) aw tag pv prog args H)(hP:∀w',Sep w0 w' R→cL w' pv aO ai)(Zx:PU ai){k:K.St}(v n:Int)(ok:Bool)(hn:k.next=2)(hS:Sep w0 w (bB H b wv bv k::R)):
 bR 62 #[O b,.agg #[U v,U n,.bool ok]] w w0 (bB H b wv bv (K.looked ai ⟨aw,tag,⟨prog,args⟩⟩ {k with fresh:=true,eV:=false,nv:=v,ns:=n})::R):=by
 have Kd:=aa (λw' hS=>FK (w0:=w0) (w:=w') (R:=R) (b:=b) (wv:=wv) (bv:=bv) (aO:=aO) (ai:=ai) hE hP Zx (k:={k with fresh:=true,eV:=false,nv:=v,ns:=n}) hS);generalize K.looked ai ⟨aw,tag,⟨prog,args⟩⟩ {k with fresh:=true,eV:=false,nv:=v,ns:=n}=T at*;clear hP;have lI:=aa (λw' R' (k':K.St) hS=>fg (w0:=w0) (w:=w') (R:=R') (b:=b) (wv:=wv) (bv:=bv) hE (k:=k') hS);obtain⟨dG,bG,bD,bH,gZ,gC,cP,kb,bI,dC,ik,il,f_,gf,bJ⟩:=k;try dsimp only at*
 subst hn;have jZ:=aa ((show Sep w0 w (aJ b 168 (H++[I 2,I bG,I bD,.bool bH,U gZ,U gC,wv,bv,.bool bI,.bool dC,I ik,U il,I f_,U gf,.bool bJ])::_)from hS).new 84 [U v,U n,.bool ok]);have HE:=aa hE;have Rg:decide ((2:Int)=13)=false:=by decide
 clear hS hE;delta bR;go_in;go_wp2_with fail;refine(lI.out _ _ ⟨2,bG,bD,bH,gZ,gC,cP,kb,bI,dC,ik,il,f_,gf,bJ⟩ (jZ.pull 1 rfl)).kk λw2 hf=>?_;have HS:=aa ((jZ.c_ hf).pull 1 rfl);clear hf jZ lI;simp only[ze]at HS;have HO:=aa (HS.ar 1 rfl);obtain⟨f32,gB⟩:=(HS.ar 0 rfl).fe HE.len 32 rfl rfl;obtain⟨f40,rL⟩:=(HS.ar 0 rfl).fe HE.len 40 rfl rfl;obtain⟨f41,pY⟩:=(HS.ar 0 rfl).fe HE.len 41 rfl rfl;have fl:=(HS.ar 0 rfl).lt;have o0:=HO.cell 0;have o1:=HO.cell 1;have ol:=HO.lt;simp only[zg]at o0 o1;have DN:=HE.len;have h5:=HS.set 0 rfl 40 (.bool true);simp only[aL,cR HE.len _ 40 _ (by omega),Nat.reduceSub,aN]at h5;have HS:=aa h5;clear h5;have h5:=HS.set 0 rfl 41 (.bool false);simp only[aL,cR HE.len _ 41 _ (by omega),Nat.reduceSub,aN]at h5;have HS:=aa h5;clear h5;have oX:∀u∈ [U v,U n],u.oneCell'=true:=by simp[Value.oneCell']
 have VH:¬b=w.heap.size:=λe=>HS.ne 0 1 rfl rfl (by decide) e;go_wp2_with(refine fz HS.out 0 rfl 36 [U v,U n] 68 _ _ rfl rfl rfl rfl (by rw[eE,DN];simp) (by kernel_rfl) oX (λwA hA _=>?_);simp only[aL,aN,n_,cR DN _ 36 _ (by omega),cR DN _ 37 _ (by omega),Nat.reduceAdd,Nat.reduceSub]at hA;have de:=aa hA;clear hA);refine(Kd.out _ ((de.pull 1 rfl).tail)).kh λw3 HS=>?_;go_wp2;go_end0;exact⟨rfl,HS.out⟩
def FX (x w):(method 416 205 x "Tell").run Tryz.prog w= .ok (230,x) w:=by kernel_rfl
def IM (x w):(method 416 205 x "Ask").run Tryz.prog w= .ok (224,x) w:=by kernel_rfl
def IN (x w):(method 416 166 x "Ask").run Tryz.prog w= .ok (219,x) w:=by kernel_rfl
def Ao (x w):(method 416 199 x "Ask").run Tryz.prog w= .ok (238,x) w:=by kernel_rfl
def IP (x w):(method 416 209 x "Ask").run Tryz.prog w= .ok (244,x) w:=by kernel_rfl
def Re {w0 w:World}{R:List a_}{c:Y.cA}(aE:Y.Ok c){H:List Value}{aw tag:Int}{b eb vb pb sb:Nat}{pv bv:Value}{prog:Int}{args:List Int}{cv:Value}{cd:List In}(hlen:args.length=4)(hE:KH (ae c) aw tag pv prog args H)(hC:∀w',Sep w0 w' R→dJ w' cv cd){k:K.St}{x:X.St}(k9:0≤k.cZ∧k.cZ≤1000000)(hG:XG c cd x)(v n:Int)(hv:W.U_ v)(ok:Bool)(hn:k.next=8)
 (hS:Sep w0 w (bB H b (.iface 205 (O eb)) bv k::aQ c aw k.ns eb vb pb sb cv args x::R)):
 bR 62 #[O b,.agg #[U v,U n,.bool ok]] w w0 (bB H b (.iface 205 (O eb)) bv (K.read (X.tell c cd args k.ns v n x) {k with fresh:=false,eV:=false,work:= .ex cd (X.tell c cd args k.ns v n x)})::aQ c aw k.ns eb vb pb sb cv args (X.tell c cd args k.ns v n x)::R):=by
 have Rf:=aa (λw' RR hC hS=>Cl (w0:=w0) (w:=w') (R:=RR) aE (aw:=aw) (seq:=k.ns) (b:=eb) (vb:=vb) (pb:=pb) (sb:=sb) (cv:=cv) hlen hC hG v n hv ok hS);have Tf:=aa (λw' hS=>IJ (w0:=w0) (w:=w') (R:=R) (b:=b) (bv:=bv) (w1:=aw) (seq:=k.ns) (eb:=eb) (vb:=vb) (pb:=pb) (sb:=sb) (cv:=cv) hE (x:=X.tell c cd args k.ns v n x) (k:={k with fresh:=false,eV:=false,work:= .ex cd (X.tell c cd args k.ns v n x)}) k9 hS);have sf:=FX (O eb);generalize X.tell c cd args k.ns v n x=x2 at*;generalize K.read x2 {k with fresh:=false,eV:=false,work:= .ex cd x2}=T at*;obtain⟨wv,vJ⟩:∃wv,Value.iface 205 (O eb)=wv:=⟨_,rfl⟩;have HC:=aa hC;clear hC hG k9 hlen;clear vJ wv;generalize vJ:Value.iface 205 (O eb)=wv at*;have lI:=aa (λw' R' (k':K.St) hS=>fg (w0:=w0) (w:=w') (R:=R') (b:=b) (wv:=wv) (bv:=bv) hE (k:=k') hS);obtain⟨dG,bG,bD,bH,gZ,gC,cP,kb,bI,dC,ik,il,f_,gf,bJ⟩:=k;try dsimp only at*
 subst hn;have jZ:=aa ((show Sep w0 w (aJ b 168 (H++[I 8,I bG,I bD,.bool bH,U gZ,U gC,wv,bv,.bool bI,.bool dC,I ik,U il,I f_,U gf,.bool bJ])::_)from hS).new 84 [U v,U n,.bool ok]);have HE:=aa hE;have Rg:decide ((8:Int)=13)=false:=by decide
 clear hS hE;delta bR;go_in;go_wp2_with fail;refine(lI.out _ _ ⟨8,bG,bD,bH,gZ,gC,cP,kb,bI,dC,ik,il,f_,gf,bJ⟩ (jZ.pull 1 rfl)).kk λw2 hf=>?_;have HS:=aa ((jZ.c_ hf).pull 1 rfl);clear hf jZ lI;simp only[ze]at HS;have HO:=aa (HS.ar 1 rfl);obtain⟨f32,gB⟩:=(HS.ar 0 rfl).fe HE.len 32 rfl rfl;obtain⟨f40,rL⟩:=(HS.ar 0 rfl).fe HE.len 40 rfl rfl;obtain⟨f41,pY⟩:=(HS.ar 0 rfl).fe HE.len 41 rfl rfl;have fl:=(HS.ar 0 rfl).lt;subst vJ;have o0:=HO.drew.cell 0;have o1:=HO.drew.cell 1;have o2:=HO.drew.cell 2;have ol:=HO.drew.lt;simp only[zg]at o0 o1 o2;clear o0 o1 o2 ol;have h5:=HS.set 0 rfl 40 (.bool false);simp only[aL,cR HE.len _ 40 _ (by omega),Nat.reduceSub,aN]at h5;have HS:=aa h5;clear h5;have h5:=HS.set 0 rfl 41 (.bool false);simp only[aL,cR HE.len _ 41 _ (by omega),Nat.reduceSub,aN]at h5;have HS:=aa h5;clear h5;have VH:¬b=w.heap.size:=λe=>HS.ne 0 1 rfl rfl (by decide) e;go_wp2_with fail;generalize World.setCell (World.setCell _ _ _) _ _=w3 at HS⊢;clear f32 gB f40 rL f41 pY fl;have hB:=(HS.ar 0 rfl).drew;have hO:=(HS.ar 1 rfl).drew;have o0:=hO.cell 0;have o1:=hO.cell 1;have o2:=hO.cell 2;have ol:=hO.lt;simp only[zg]at o0 o1 o2;obtain⟨f38,qG⟩:=hB.fe HE.len 38 rfl rfl;have fl:=hB.lt;refine bW [(1,[0,1,2,3,4]),(3,[5])] (by kernel_rfl) ?_;simp only[zz];repeat(first|go_big_quiet_step(fail)|quiet_step(fail)|apply ax|apply af|apply ag|apply ah)
 refine ao ?_;go_wp2_with fail;refine(Rf.out _ _ (λw' h=>HC.out w' h.tail.tail) (HS.drew.pull 2 rfl)).kk λw4 h1=>?_;have HS:=aa (((h1.pull 2 rfl).tail).pull 1 rfl);clear h1 hB hO o0 o1 o2 ol f38 qG fl;go_wp2;refine aj ?_;go_wp2_with fail;refine(Tf.out _ HS.out).kh λw5 HS=>?_;go_wp2;go_end0;exact⟨rfl,HS.out⟩
def Rj {w0 w R c H aw tag b pv wv bv prog args}(hE:KH (ae c) aw tag pv prog args H){k}(v n ok)(hn:k.next=13)(hS:Sep w0 w (bB H b wv bv k::R)):
 bR 62 #[O b,.agg #[U v,U n,.bool ok]] w w0 (bB H b wv bv k::R):=by
 have lI:=aa (λw' R' hS=>fg (w0:=w0) (w:=w') (R:=R') (b:=b) (wv:=wv) (bv:=bv) hE (k:=k) hS);rw[hn]at lI;have jZ:=aa (hS.new 84 [U v,U n,.bool ok]);have Rg:decide ((13:Int)=13)=true:=by decide
 generalize bB H b wv bv k=KB at*;clear hS hE hn;delta bR;go_in;go_wp2_with fail;refine(lI.out _ _ (jZ.pull 1 rfl)).kq jZ λw2 HS=>?_;clear jZ lI;go_wp2;refine aV (fV rfl _ _ _) rfl ?_;exact⟨rfl,HS.tail⟩
def Ap (w n)(h:n=5∨n=6∨n=7):ba 81 #[I n] w (I (n-5)):=by
 have hw:IntKind.i64.wrap (n-5)=n-5:=bf _ (by omega) (by omega);clear h;delta ba;go_in;go_wp2;go_ret;exact⟨rfl,Fr.refl _ _⟩
def zq37:(∀{w0 w R c}(aE:Y.Ok c){H aw tag b pv wv bv prog args}(hlen:args.length=4)(hE:KH (ae c) aw tag pv prog args H){k}(hn:k.next=0)(hg:0≤k.given∧k.given<4)(hS:Sep w0 w (bB H b wv bv k::R)),ba 60 #[O b] w (.tuple #[.agg (eF ⟨1,at_ c 2 aw k.given,0,0,args.getD k.given.toNat 0,0⟩).toArray,.bool true]))∧(∀{w0 w R c}(aE:Y.Ok c){H aw tag b pv wv bv prog args}(hE:KH (ae c) aw tag pv prog args H){k}(hn:k.next=1)(hS:Sep w0 w (bB H b wv bv k::R)),ba 60 #[O b] w (.tuple #[.agg (eF ⟨1,at_ c 1 aw 0,0,0,IntKind.u64.wrap prog,tag⟩).toArray,.bool true]))∧(∀{w0 w R c}(aE:Y.Ok c){H aw tag b pv wv bv prog args}(hE:KH (ae c) aw tag pv prog args H){k}(hn:k.next=2)(hS:Sep w0 w (bB H b wv bv k::R)),ba 60 #[O b] w (.tuple #[.agg (eF ⟨0,at_ c 0 0 0,0,0,0,0⟩).toArray,.bool true]))∧(∀{w0 w R c}(aE:Y.Ok c){H aw tag b pv wv bv prog args}(hE:KH (ae c) aw tag pv prog args H){k}(k7:W.U_ k.nv)(hn:k.next=3)(hS:Sep w0 w (bB H b wv bv k::R)),ba 60 #[O b] w (.tuple #[.agg (eF ⟨0,at_ c 4 (K.owner c k) 0,0,0,0,0⟩).toArray,.bool true]))∧(∀{w0 w R c}(aE:Y.Ok c){H aw tag b pv wv bv prog args}(hE:KH (ae c) aw tag pv prog args H){k}(hn:k.next=5)(hS:Sep w0 w (bB H b wv bv k::R)),ba 60 #[O b] w (.tuple #[.agg (eF ⟨0,at_ c 7 aw 0,0,0,0,0⟩).toArray,.bool true]))∧(∀{w0 w R c}(aE:Y.Ok c){H aw tag b pv wv bv prog args}(hE:KH (ae c) aw tag pv prog args H){k}(hn:k.next=6)(hS:Sep w0 w (bB H b wv bv k::R)),ba 60 #[O b] w (.tuple #[.agg (eF ⟨0,at_ c 8 aw 0,0,0,0,0⟩).toArray,.bool true]))∧(∀{w0 w R c}(aE:Y.Ok c){H aw tag b pv wv bv prog args}(hE:KH (ae c) aw tag pv prog args H){k}(hn:k.next=7)(hS:Sep w0 w (bB H b wv bv k::R)),ba 60 #[O b] w (.tuple #[.agg (eF ⟨0,at_ c 9 aw 0,0,0,0,0⟩).toArray,.bool true]))∧(∀{w0 w R c}(aE:Y.Ok c){H aw tag b pv wv bv prog args}(hE:KH (ae c) aw tag pv prog args H){k}(pH:0≤k.ns∧k.ns≤4611686018427387904)(YA:0≤aw∧aw≤1000)(hn:k.next=11)(hS:Sep w0 w (bB H b wv bv k::R)),ba 60 #[O b] w (.tuple #[.agg (eF ⟨2,at_ c 0 0 0,k.nv,k.ns,aw,k.ns+1⟩).toArray,.bool true]))∧(∀{w0 w R c H aw tag b pv wv bv prog args}(hE:KH (ae c) aw tag pv prog args H){k}(hn:k.next=13)(hS:Sep w0 w (bB H b wv bv k::R)),ba 60 #[O b] w (.tuple #[.agg (eF p0).toArray,.bool false]))∧(∀{w0 w R c H aw tag b mb pv bv prog args}(hE:KH (ae c) aw tag pv prog args H){k}(hn:k.next=8){T}{pa:P6×Bool}(hc:∀w' RR,Sep w0 w' (T::RR)→ba 224 #[O mb] w' (.tuple #[.agg (eF pa.1).toArray,.bool pa.2]))(hS:Sep w0 w (bB H b (.iface 205 (O mb)) bv k::T::R)),ba 60 #[O b] w (.tuple #[.agg (eF pa.1).toArray,.bool pa.2]))∧(∀{w0 w R c H aw tag b mb pv bv prog args}(hE:KH (ae c) aw tag pv prog args H){k}(hn:k.next=9){T}{pa:P6×Bool}(hc:∀w' RR,Sep w0 w' (T::RR)→ba 219 #[O mb] w' (.tuple #[.agg (eF pa.1).toArray,.bool pa.2]))(hS:Sep w0 w (bB H b (.iface 166 (O mb)) bv k::T::R)),ba 60 #[O b] w (.tuple #[.agg (eF pa.1).toArray,.bool pa.2]))∧(∀{w0 w R c H aw tag b mb pv bv prog args}(hE:KH (ae c) aw tag pv prog args H){k}(hn:k.next=4){T}{pa:P6×Bool}(hc:∀w' RR,Sep w0 w' (T::RR)→ba 238 #[O mb] w' (.tuple #[.agg (eF pa.1).toArray,.bool pa.2]))(hS:Sep w0 w (bB H b (.iface 199 (O mb)) bv k::T::R)),ba 60 #[O b] w (.tuple #[.agg (eF pa.1).toArray,.bool pa.2]))∧(∀{w0 w R c H aw tag b mb pv bv prog args}(hE:KH (ae c) aw tag pv prog args H){k}(hn:k.next=12){T}{pa:P6×Bool}(hc:∀w' RR,Sep w0 w' (T::RR)→ba 238 #[O mb] w' (.tuple #[.agg (eF pa.1).toArray,.bool pa.2]))(hS:Sep w0 w (bB H b (.iface 199 (O mb)) bv k::T::R)),ba 60 #[O b] w (.tuple #[.agg (eF pa.1).toArray,.bool pa.2]))∧(∀{w0 w R c H aw tag b mb pv bv prog args}(hE:KH (ae c) aw tag pv prog args H){k}(hn:k.next=10){T}{pa:P6×Bool}(hc:∀w' RR,Sep w0 w' (T::RR)→ba 244 #[O mb] w' (.tuple #[.agg (eF pa.1).toArray,.bool pa.2]))(hS:Sep w0 w (bB H b (.iface 209 (O mb)) bv k::T::R)),ba 60 #[O b] w (.tuple #[.agg (eF pa.1).toArray,.bool pa.2])):=by
 refine⟨?Z,?Y,?X,?J,?G,?D,?V,?U,?g0,?g1,?g2,?g3,?g4,?g5⟩
 case' Z=>
  intro w0 w R c aE H aw tag b pv wv bv prog args hlen hE k hn hg hS;have h_:=aa (λw=>cx w c aE 2 aw k.given);obtain⟨g,U4⟩:∃g:Nat,k.given=(g:Int):=⟨k.given.toNat,by omega⟩;have ZW:g<4:=by omega
  have nF:(g:Int)<4:=by omega
  have aj0:(bC args)[g]?=some (U (args.getD k.given.toNat 0)):=by
   rw[U4];unfold bC;rw[jE,cy (by omega)];simp[List.getD,show g<args.length by omega]
  have ar9:=aa ((hE.args g ZW).trans aj0);generalize args.getD k.given.toNat 0=av at*;generalize at_ c 2 aw k.given=pp at*;have fF:=dg ⟨1,pp,0,0,av,0⟩;rw[U4]at h_;clear aj0 hg hlen
 case' Y=>intro w0 w R c aE H aw tag b pv wv bv prog args hE k hn hS;have h_:=aa (λw=>cx w c aE 1 aw 0);generalize at_ c 1 aw 0=pp at*;have fF:=dg ⟨1,pp,0,0,IntKind.u64.wrap prog,tag⟩
 case' U=>intro w0 w R c aE H aw tag b pv wv bv prog args hE k pH YA hn hS;have h_:=aa (λw=>cx w c aE 0 0 0);generalize at_ c 0 0 0=pp at*;have fF:=dg ⟨2,pp,k.nv,k.ns,aw,k.ns+1⟩;have JV:IntKind.u64.wrap (k.ns+1)=k.ns+1:=lR _ (by omega) (by omega);have UM:IntKind.u64.wrap aw=aw:=lR _ (by omega) (by omega);clear pH YA
 case' J=>intro w0 w R c aE H aw tag b pv wv bv prog args hE k k7 hn hS;have h_:=aa (λw=>cx w c aE 4 (K.owner c k) 0);have Xp:=aa (λw' (R':List a_) hS=>Ak (w0:=w0) (w:=w') (R:=R') (b:=b) (wv:=wv) (bv:=bv) aE hE (k:=k) k7 hS);generalize at_ c 4 (K.owner c k) 0=pp at*;generalize K.owner c k=ow at*;have fF:=dg ⟨0,pp,0,0,0,0⟩;clear k7
 case' G|D|V=>intro w0 w R c aE H aw tag b pv wv bv prog args hE k hn hS
 case' G=>have h_:=aa (λw=>cx w c aE 7 aw 0);have Xs:=aa (λw=>Ap w 5 (by decide));simp only[Int.reduceSub]at Xs;generalize at_ c 7 aw 0=pp at*
 case' D=>have h_:=aa (λw=>cx w c aE 8 aw 0);have Xs:=aa (λw=>Ap w 6 (by decide));simp only[Int.reduceSub]at Xs;generalize at_ c 8 aw 0=pp at*
 case' V=>have h_:=aa (λw=>cx w c aE 9 aw 0);have Xs:=aa (λw=>Ap w 7 (by decide));simp only[Int.reduceSub]at Xs;generalize at_ c 9 aw 0=pp at*
 case' G|D|V=>have fF:=dg ⟨0,pp,0,0,0,0⟩
 case' X=>intro w0 w R c aE H aw tag b pv wv bv prog args hE k hn hS;have h_:=aa (λw=>cx w c aE 0 0 0);generalize at_ c 0 0 0=pp at*;have fF:=dg ⟨0,pp,0,0,0,0⟩
 case' g1|g3|g4|g2|g5=>intro w0 w R c H aw tag b mb pv bv prog args hE k hn T pa hc hS;have A0:=aa hc;clear hc;obtain⟨sK,Fl⟩:=pa;have fF:=dg sK
 case' g1=>have sf:=IM (O mb)
 case' g3|g4=>have sf:=Ao (O mb)
 case' g2=>have sf:=IN (O mb)
 case' g5=>have sf:=IP (O mb)
 case' g1|g3|g4|g2|g5=>dsimp only at A0⊢
 case' g0=>intro w0 w R c H aw tag b pv wv bv prog args hE k hn hS;have fF:=dg p0
 case' Z|Y|U|J|G|D|V|X|g1|g3|g4|g2|g5|g0=>
  obtain⟨dG,bG,bD,bH,gZ,gC,cP,kb,bI,dC,ik,il,f_,gf,bJ⟩:=k;try dsimp only at*
  subst hn;simp only[bB,nI,za]at hS;have aD:(ae c).length=24:=rfl;have HE:=aa hE;have HT:=aa hS;have HN:=aa ((Sep.nil (Fr.refl [] w)).new 82 [I 0,I 0,U 0,U 0,U 0,U 0]);clear hS hE;have f32:=(HT.ar 0 rfl).aR HE.len 32 rfl rfl;have fl:=(HT.ar 0 rfl).lt
 case' Z=>subst U4
 case' J=>simp only[bB,nI,za]at Xp
 case' Z|Y|U|J|G|D|V|X=>unfold aY at*;generalize ae c=cs at*
 case' Z|Y|U|J|G|D|V=>delta ba;go_in;go_wp2_with fail;clear f32 fl;have HT:=aa (HT.c_ HN.fr);generalize World.alloc _ _=W1 at HN HT⊢;have hB:=(HT.ar 0 rfl).drew;have fl:=hB.lt
 case' Z=>have f33:=hB.aR HE.len 33 rfl rfl;have f24:=hB.fM HE.len 24 rfl HE.out.aw;have fa:=(hB.cell (28+g)).trans ((ZN HE.len _ (show 28+g<32 from Nat.add_lt_add_left ZW 28)).trans ar9.out);refine bW [(1,[0,1,2,3,4,5,6,7,8,9,10,11,13,14,15,16,17,18,19,20,21,22,23]),(2,[12]),(0,[24]),(3,[25]),(0,[26])] (by kernel_rfl) ?_
 case' Y=>have f24:=hB.fM HE.len 24 rfl HE.out.aw;have f25:=hB.fM HE.len 25 rfl HE.out.tag;have f27:=hB.fM HE.len 27 rfl HE.out.prog;refine bW [(1,[0,1,2,3,4,5,6,7,9,10,11,12,13,14,15,16,17,18,19]),(2,[8]),(0,[20]),(3,[21]),(0,[22])] (by kernel_rfl) ?_
 case' U=>have f36:=hB.aR HE.len 36 rfl rfl;have f37:=hB.aR HE.len 37 rfl rfl;have f24:=hB.fM HE.len 24 rfl HE.out.aw;refine bW [(1,[0,1,2,3,5,6,7,8,9,10,11,12,13,14,15,16,17,18,19,20]),(2,[4]),(0,[21]),(3,[22]),(0,[23])] (by kernel_rfl) ?_
 case' J=>refine bW [(1,[0,1,2,3,4]),(2,[5]),(3,[6]),(0,[7]),(3,[8]),(0,[9])] (by kernel_rfl) ?_
 case' G|D|V=>have f32:=hB.aR HE.len 32 rfl rfl;have f24:=hB.fM HE.len 24 rfl HE.out.aw;refine bW [(1,[0,1,2,3,4,5,6,7,10,11,12,13]),(2,[8]),(0,[9]),(3,[14]),(0,[15]),(3,[16]),(0,[17])] (by kernel_rfl) ?_
 case' Z|Y|U|J|G|D|V=>
  simp only[zz];refine af ?_;repeat(first|(refine ak 58 _ b 0 cs _ rfl rfl rfl (aG (lT aD HE.out hB) (by simp)) underlying58 rfl (by rw[aD];kernel_rfl) ?_;simp only[Act.put,aZ,aL,aN])|go_big_quiet_step (fail)|quiet_step (fail))
  refine ax ?_;repeat(first|go_big_quiet_step(fail)|quiet_step(fail)|apply ax|apply af|apply ag|apply ah)
  refine aA ?_;go_wp2_with fail
 case' Z|Y|U=>refine(h_.out _).kf HN.dr λw2 HF HN=>?_
 case' J=>refine(Xp.out _ _ HT.drew).kf HN.dr λw2 HF HN=>?_
 case' G|D|V=>refine(Xs.out _).kf HN.dr λw2 HF HN=>?_
 case' Z|Y|U|J|G|D|V=>go_wp2;refine⟨⟨⟨_,(by exact HF.out)⟩,rfl⟩,?_⟩
 case' G|D|V=>repeat(first|go_big_quiet_step(fail)|quiet_step(fail)|apply ax|apply af|apply ag|apply ah)
 case' J|G|D|V=>refine ao ?_;go_wp2_with fail;refine(h_.out _).kq HN λw3 HN=>?_;go_wp2_with fail
 case' Z|Y|U|J|G|D|V=>repeat(first|go_big_quiet_step(fail)|quiet_step(fail)|apply ax|apply af|apply ag|apply ah)
 case' Z=>clear f33 f24 fa fl hB HF;refine ao ?_;refine aC HN.out 0 rfl (eF (⟨1,pp,0,0,av,0⟩)) 82 _ _ rfl rfl rfl rfl rfl (by kernel_rfl) fF (λwA hA _=>?_)
 case' Y=>clear f24 f25 f27 fl hB HF;refine ao ?_;refine aC HN.out 0 rfl (eF (⟨1,pp,0,0,IntKind.u64.wrap prog,tag⟩)) 82 _ _ rfl rfl rfl rfl rfl (by kernel_rfl) fF (λwA hA _=>?_)
 case' U=>clear f24 f36 f37 fl hB HF;refine ao ?_;refine aC HN.out 0 rfl (eF (⟨2,pp,gZ,gC,aw,gC+1⟩)) 82 _ _ rfl rfl rfl rfl rfl (by kernel_rfl) fF (λwA hA _=>?_)
 case' J=>clear fl hB HF
 case' G|D|V=>clear f32 f24 fl hB HF
 case' J|G|D|V=>refine ao ?_;refine aC HN.out 0 rfl (eF (⟨0,pp,0,0,0,0⟩)) 82 _ _ rfl rfl rfl rfl rfl (by kernel_rfl) fF (λwA hA _=>?_)
 case' Z|Y|U|J|G|D|V=>
  have de:=aa hA;clear hA;go_wp2_with fail;repeat(first|go_big_quiet_step(fail)|quiet_step(fail)|apply ax|apply af|apply ag|apply ah)
  refine aj ?_;go_wp2_with fail
 case' X=>have HR9:=aa (lT aD HE.out ((HT.ar 0 rfl).alloc (.cells [I 0,I 0,U 0,U 0,U 0,U 0].toArray 82)));delta ba;go_in;go_wp2_with(refine ay 58 _ rfl rfl _ 0 rfl cs _ HR9.out underlying58 rfl (by rw[aD];kernel_rfl) ?_);refine(h_.out _).kq HN λw2 HN=>?_;go_wp2_with(refine aC HN.out 0 rfl (eF ⟨0,pp,0,0,0,0⟩) 82 _ _ rfl rfl rfl rfl rfl (by kernel_rfl) fF (λwA hA _=>?_);have de:=aa hA;clear hA)
 case' g1|g3|g4|g2|g5=>have f38:=(HT.ar 0 rfl).aR HE.len 38 rfl rfl;delta ba;go_in;go_wp2_with fail;refine(A0.out _ _ ((HT.c_ HN.fr).pull 1 rfl)).kq HN λw1 HN=>?_;go_wp2_with(refine aC HN.out 0 rfl (eF sK) 82 _ _ rfl rfl rfl rfl rfl (by kernel_rfl) fF (λwA hA _=>?_);have de:=aa hA;clear hA)
 case' g0=>delta ba;go_in;go_wp2_with(refine aC HN.out 0 rfl (eF p0) 82 _ _ rfl rfl rfl rfl rfl (by kernel_rfl) fF (λwA hA _=>?_);have de:=aa hA;clear hA)
 case' Z=>exact aV (v:= .tuple #[.agg (eF (⟨1,pp,0,0,av,0⟩)).toArray,.bool true]) (bj Tryz.results60 rfl rfl (de.ar 0 rfl).range underlying82 rfl (by kernel_rfl)) rfl ⟨rfl,de.fr⟩
 case' Y=>exact aV (v:= .tuple #[.agg (eF (⟨1,pp,0,0,IntKind.u64.wrap prog,tag⟩)).toArray,.bool true]) (bj Tryz.results60 rfl rfl (de.ar 0 rfl).range underlying82 rfl (by kernel_rfl)) rfl ⟨rfl,de.fr⟩
 case' U=>exact aV (v:= .tuple #[.agg (eF (⟨2,pp,gZ,gC,aw,gC+1⟩)).toArray,.bool true]) (bj Tryz.results60 rfl rfl (de.ar 0 rfl).range underlying82 rfl (by kernel_rfl)) rfl ⟨rfl,de.fr⟩
 case' J|G|D|V|X=>exact aV (v:= .tuple #[.agg (eF (⟨0,pp,0,0,0,0⟩)).toArray,.bool true]) (bj Tryz.results60 rfl rfl (de.ar 0 rfl).range underlying82 rfl (by kernel_rfl)) rfl ⟨rfl,de.fr⟩
 case' g1|g3|g4|g2|g5=>exact aV (v:= .tuple #[.agg (eF (sK)).toArray,.bool Fl]) (bj Tryz.results60 rfl rfl (de.ar 0 rfl).range underlying82 rfl (by kernel_rfl)) rfl ⟨rfl,de.fr⟩
 exact aV (v:= .tuple #[.agg (eF (p0)).toArray,.bool false]) (bj Tryz.results60 rfl rfl (de.ar 0 rfl).range underlying82 rfl (by kernel_rfl)) rfl ⟨rfl,de.fr⟩
def ZX:=@zq37.1
def ZY:=@zq37.2.1
def ZZ:=@zq37.2.2.1
def Z0:=@zq37.2.2.2.1
def Z1:=@zq37.2.2.2.2.1
def Z2:=@zq37.2.2.2.2.2.1
def Z3:=@zq37.2.2.2.2.2.2.1
def VJ:=@zq37.2.2.2.2.2.2.2.1
def VK:=@zq37.2.2.2.2.2.2.2.2.1
def Rk:=@zq37.2.2.2.2.2.2.2.2.2.1
def Rl:=@zq37.2.2.2.2.2.2.2.2.2.2.1
def Rm:=@zq37.2.2.2.2.2.2.2.2.2.2.2.1
def MR:=@zq37.2.2.2.2.2.2.2.2.2.2.2.2.1
def MS:=@zq37.2.2.2.2.2.2.2.2.2.2.2.2.2
def Rn {w0 w R c}(aE:Y.Ok c){b aw seq v l d}(hl:l.length≤90000)(hd:d≤90000)(hS:Sep w0 w (aJ b 242 (Sc.tJ (ae c) aw seq v d)::aU 0 234 2 v l.length (flat Sc.iS l)::R)):
 ba 244 #[O b] w (.tuple #[.agg (eF (if l.length+1<d then p0 else K.Hl c aw seq l d)).toArray,.bool (if l.length+1<d then false else true)]):=by
 obtain⟨la,lc,rfl⟩:=hS.form 1 rfl;by_cases h1:l.length+1<d
 ·rw[aB h1,aB h1];exact Fj w c aE b aw seq la l.length lc d (hS.ar 0 rfl) (by omega) (by omega) (by simpa using h1)
 ·rw[aq h1,aq h1];unfold K.Hl;have e:decide (d>l.length+1)=false:=by simpa using h1
  by_cases h2:d<l.length
  ·rw[aB h2];obtain⟨g,hg⟩:∃g,la=some ⟨g,0,none⟩:=by
    rcases bg (hS.row 1 rfl)with⟨e1,e2⟩|⟨gb,cap,e1,_⟩
    ·omega
    ·simp only[dk]at e1;exact⟨gb,e1.1⟩
   subst hg;have:=Vz w c aE b aw seq g l.length lc d l (hS.ar 0 rfl) (hS.row 1 rfl) rfl (by omega) (by omega) e h2;rw[show l.getD d (0,0)=l[d] by simp[List.getD,h2]];exact this
  ·rw[aq h2];by_cases h3:d=l.length
   ·rw[aB h3];exact Vy w c aE b aw seq la l.length lc d (hS.ar 0 rfl) (by omega) (by omega) e h3
   ·rw[aq h3];exact Q4 w c aE b aw seq la l.length lc d (hS.ar 0 rfl) (by omega) (by omega) e h2 h3
