/- A part of the proof. -/
import Derived.Test.YtolkmchicplaoaaGreatG08
set_option linter.all false
set_option maxHeartbeats 8000000
set_option maxRecDepth 100000
open Go.Proofs.Tryz
namespace Go.aS
open Go.RowKit
def mix {T:Type}(en:Value→T→List Value)(A:List Value)(L:List T):List Value:=flat (λp:Value×T=>en p.1 p.2) (A.zip L)
def J8 {T:Type}{en:Value→T→List Value}{k}(hn:∀v x,(en v x).length=k){A L}(h:A.length=L.length):(mix en A L).length=L.length*k:=by
 unfold mix;rw[ck (n:=k) (λp=>hn _ _),nK,h,Nat.min_self]
def DF {T:Type}{en:Value→T→List Value}{hd:T→List Value}{m}(he:∀v x,en v x=hd x++[v])(hm:∀x,(hd x).length=m):∀(A B:List Value) (nv:Value) (L:List T),(A++nv::B).length=L.length→(mix en (A++nv::B) L)[A.length*(m+1)+m]?=some nv
 |_,_,_,[],h=>by simp at h
 |[],B,nv,x::L,h=>by
  unfold mix;simp only[flat,y_,wC,mB,he,mD,Nat.zero_mul,jF];rw[qP,gw (by rw[hm];omega),hm,oI];rfl
 |a::A,B,nv,x::L,h=>by
  have ih:=DF he hm A B nv L (by simpa using h);unfold mix at ih⊢;simp only[flat,CR,wC,mB,dT]at ih⊢;rw[gw (by rw[he];simp[hm];rw[oH];omega)];rw[←ih];congr 1;rw[he];simp[hm];rw[oH];omega
def DG {T:Type}{en:Value→T→List Value}{hd:T→List Value}{m}(he:∀v x,en v x=hd x++[v])(hm:∀x,(hd x).length=m)(IC):∀(A B:List Value) (nv:Value) (L:List T),(A++nv::B).length=L.length→(mix en (A++nv::B) L).set (A.length*(m+1)+m) IC=mix en (A++[IC]++B) L
 |_,_,_,[],h=>by simp at h
 |[],B,nv,x::L,h=>by
  unfold mix;simp only[flat,za,wC,mB,he,mD,Nat.zero_mul,jF];rw[qP,eD _ _ (by rw[hm];omega),hm,oI,qP];rfl
 |a::A,B,nv,x::L,h=>by
  have ih:=DG he hm IC A B nv L (by simpa using h);unfold mix at ih⊢;simp only[flat,CR,wC,mB,dT]at ih⊢;rw[eD _ _ (by rw[he];simp[hm];rw[oH];omega),←ih];congr 2;rw[he];simp[hm];rw[oH];omega
end Go.aS
namespace Go.Proofs.YtolkmchicplaoaaGreat
open Go.RowKit Go.aS Go.aS.I_ Go.aS.Y
def lY {T:Type}(pd:T→List Int)(A:List Value)(L:List T):List a_:=(A.zip L).map (λp=>aU 0 26 1 p.1 (pd p.2).length (bC (pd p.2)))
def y5 {T:Type}(pd:T→List Int){A L}(h:A.length=L.length){j}(hj:j<L.length):(lY pd A L)[j]?=some (aU 0 26 1 (A[j]'(by omega)) (pd L[j]).length (bC (pd L[j]))):=by
 unfold lY;rw[jE,cy (show j<(A.zip L).length by rw[nK,h,Nat.min_self];exact hj),uQ];rfl
def Ai {T:Type}:∀(A:List Value) (L:List T) (nv:Value) (h:A.length<L.length),(A++[nv]).zip L=A.zip L++[(nv,L[A.length])]
 |_,[],_,h=>by simp at h
 |[],x::L,nv,_=>rfl
 |a::A,x::L,nv,h=>by
  have h':A.length<L.length:=by simpa using h
  simp only[CR,wC,dT,List.getElem_cons_succ];rw[Ai A L nv h']
def FA {T:Type}(pd:T→List Int){A L nv}(hj:A.length<L.length):lY pd (A++[nv]) L=lY pd A L++[aU 0 26 1 nv (pd L[A.length]).length (bC (pd L[A.length]))]:=by
 unfold lY;rw[Ai A L nv hj,pS];rfl
def FC (l):∀u∈bC l,u.oneCell'=true:=by unfold bC;simp[Value.oneCell']
def FD (l):(bC l).length=l.length*1:=by unfold bC;rw[dD,lj]
def FE (v r):gW v r=[I r.aw,U r.tag,I r.rc,U r.rv]++[v]:=rfl
def jg {w0 w R}{T:Type}{ty:TypeId}{k}{en:Value→T→List Value}{pd:T→List Int}{v L}(h:Sep w0 w (Ab ty 26 k en pd v L::R)):
 ∃dY:List Value,dY.length=L.length∧Sep w0 w (aU 0 ty k v L.length (mix en dY L)::cM (lY pd dY L)::R):=Fq h
def lH {w0 w R}{T:Type}{ty:TypeId}{k}{en:Value→T→List Value}{pd:T→List Int}{v L dY}(hl:dY.length=L.length)(h:Sep w0 w (aU 0 ty k v L.length (mix en dY L)::cM (lY pd dY L)::R)):Sep w0 w (Ab ty 26 k en pd v L::R):=Ac hl h
def tx {w0 w R}{T:Type}{pd:T→List Int}{A L}(hl:A.length=L.length)(h:Sep w0 w (cM (lY pd A L)::R)):∀v∈A,∃la n lc,v= .slice la n lc:=by
 intro v hv;obtain⟨j,hj,rfl⟩:=qO hv;obtain⟨fp,hp⟩:=h.known (y5 pd hl (j:=j) (by omega));obtain⟨la,lc,e⟩:=cY hp.2;exact⟨la,_,lc,e⟩
def J9 {T:Type}{en:Value→T→List Value}(he:∀v x,v.oneCell'=true→∀u∈en v x,u.oneCell'=true){A L}(h:∀v∈A,∃la n lc,v= .slice la n lc):∀u∈mix en A L,u.oneCell'=true:=by
 intro u hu;unfold mix at hu;simp only[flat,List.mem_flatMap]at hu;obtain⟨p,hp,ZG⟩:=hu;obtain⟨la,n,lc,e⟩:=h p.1 (List.of_mem_zip hp).1;exact he p.1 p.2 (by rw[e];rfl) u ZG
def MC (v r)(h:v.oneCell'=true):∀u∈gW v r,u.oneCell'=true:=by
 intro u hu;simp only[gW,oG,uP,or_false]at hu;rcases hu with rfl|rfl|rfl|rfl|rfl
 ·rfl
 ·rfl
 ·rfl
 ·rfl
 ·exact h
def FF {w0 w R b H cs pv vb pb sb xp rv y}(hH:BH cs pv vb pb sb H)(bX:y.args.length=4)(nR:y.rows.length≤100000)(kA:∀r∈y.rows,r.news.length≤100000)(hS:Sep w0 w (aJ b 231 (H++ji xp rv y.args y)::oW rv y.rows::R)):
 Calls Tryz.prog 118 #[O b] w λr w'=>∃v',r= .returned v'∧Sep w0 w' (oW v' y.rows::aJ b 231 (H++ji xp rv y.args y)::oW rv y.rows::R):=by
 have f38:=((hS.ar 0 rfl).cell 38).trans (Xi hH.len _ 38 (by omega));have h38:(ji xp rv y.args y)[38-28]?=some rv:=by
  obtain⟨bx,gX,ij,bu,tO,rH,cq,eR,ft,bs⟩:=y;dsimp only at*
  match cq,bX with
  |[a0,a1,a2,a3],_=>rfl
 rw[h38]at f38;generalize XR:aJ b 231 (H++ji xp rv y.args y)=BT at*;clear XR h38 hH bX;generalize y.rows=L at*;obtain⟨dY,k7,h2⟩:=jg (hS.pull 1 rfl);simp only[ze]at h2;clear hS;have tT:=tx k7 (h2.pull 1 rfl);have AX:=J8 (en:=gW) (k:=5) (λ_ _=>rfl) k7;have GL:=J9 (en:=gW) MC (L:=L) tT;have Eo:=aa (fun(w':World) (hr:Rd w' rv L.length (mix gW dY L))=>K8 w' rv L.length (mix gW dY L) hr AX GL (by omega));have jN:=zy (h2.row 0 rfl);obtain⟨oa,oc,rfl⟩:=h2.form 0 rfl;have HF:=aa tT;have ZH:=aa kA;clear kA;obtain⟨n,hn⟩:∃n,L.length=n:=⟨_,rfl⟩;rw[hn]at h2 Eo jN f38 nR k7;have HS:=aa h2;have HN:=aa hn;have MD:=aa k7;clear h2 AX GL hn tT k7;go_in;go_wp2_with fail;refine(Eo.out _ jN).mono ?_;rintro r w2 ⟨v',rfl,h3⟩;obtain⟨ob,od,rfl⟩:=h3.form;have HS:=aa (HS.fresh h3);clear h3 jN f38 Eo;go_wp2_with fail;go_loopg [12] n (λg vi wr=>∃A:List Value,g+A.length=n∧vi=I (A.length:Int)∧Sep w0 wr (aU 0 178 5 (.slice ob n od) n (mix gW (A++dY.drop A.length) L)::cM (lY B.Row.news A L)::aU 0 178 5 (.slice oa n oc) n (mix gW dY L)::cM (lY B.Row.news dY L)::BT::R))
 case atStart=>refine⟨[],by simp,rfl,?_⟩;have h9:=HS.out.ud.pull 1 rfl;exact h9
 case round=>
  obtain⟨A,yy,rfl,iU⟩:=hrel;obtain⟨j,ME⟩:∃j,A.length=j:=⟨_,rfl⟩;rw[ME]at yy iU⊢;by_cases hj:j<n
  ·have s9:(j:Int)<(n:Int):=by omega
   have DH:=MD.out;have tz:=HN.out;have FG:j<dY.length:=by omega
   have Aj:j<L.length:=by omega
   obtain⟨gb,rfl⟩:∃gb,ob=some ⟨gb,0,none⟩:=by
    rcases bg (iU.row 0 rfl)with⟨e1,e2⟩|⟨gb,cap,e1,_⟩
    ·omega
    ·simp only[dk]at e1;exact⟨gb,e1.1⟩
   have vp:dY.drop j=dY[j]::dY.drop (j+1):=pO FG;have vA:=y5 B.Row.news (A:=dY) (L:=L) (by omega) Aj;obtain⟨fp9,JR⟩:=(iU.pull 3 rfl).known vA;have QY:=zy JR.2;have ng:=ZH.out L[j] (cJ Aj);obtain⟨ZJ,n9,ZK,Ep⟩:=HF.out dY[j] (cJ FG);have rJ:=aa (λIC=>FA B.Row.news (A:=A) (L:=L) (nv:=IC) (by omega));have Q0:=aa (λIC=>DG (m:=4) (en:=gW) FE (λ_=>rfl) IC A (dY.drop (j+1)) dY[j] L (by rw[←vp];simp;omega));have kS:=DF (m:=4) (en:=gW) FE (λ_=>rfl) A (dY.drop (j+1)) dY[j] L (by rw[←vp];simp;omega);rw[←vp,ME]at kS;simp only[Nat.reduceAdd]at kS;simp only[ME,←vp,Nat.reduceAdd]at Q0;simp only[ME]at rJ;have Yv:=aa (fun(w':World) (hf:Fr [] wr w')=>EJ w' dY[j] _ _ (QY.fr hf) (FD _) (FC _) (by omega));have c4:wr.cell? ⟨gb,j*5+4,none⟩=some dY[j]:=aH (iU.row 0 rfl) _ _ kS;have f4:=bw (iU.row 0 rfl) (j*5+4);have ZL:=aa kS;generalize dY[j]=Yw at*;generalize L[j]=x9 at*;subst Ep;have kI:=aa iU;clear iU vp kS vA JR QY ng DH tz;go_wp2_with fail;refine(Yv.out _ (Fr.refl _ _)).mono ?_;rintro r w9 ⟨IC,rfl,h9⟩;obtain⟨ld,ln,lf,rfl⟩:∃ld ln lf,IC= .slice ld ln lf:=by
    obtain⟨ld,lf,e⟩:=h9.form;exact⟨ld,_,lf,e⟩
   have kI:=aa (kI.fresh h9);clear h9 c4 f4;have c4:=aH (kI.row 1 rfl) _ _ ZL.out;have f4:=bw (kI.row 1 rfl) (j*5+4);have h9:=kI.setRow 1 rfl (j*5+4) (.slice ld ln lf);simp only[zs,Q0.out]at h9;have kI:=aa h9;clear h9;go_wp2_with fail;generalize World.setCell _ _ _=w8 at kI⊢;clear c4 f4;have h9:=(Sep.vh ((kI.pull 2 rfl).pull 1 rfl)).pull 1 rfl;rw[←rJ.out]at h9;have og:=aa h9;clear h9;have ID:(A++[Value.slice ld ln lf]).length=j+1:=by rw[eE,ME];rfl
   go_roundg (n-(j+1))
   case measure=>omega
   case rel=>refine⟨A++[.slice ld ln lf],by rw[ID];omega,by rw[ID];go_num,?_⟩;rw[ID];exact og.out
  ·obtain rfl:j=n:=by omega
   have xe:=MD.out;rw[yM (by omega),sY]at iU;have kI:=aa iU;clear iU;go_wp2;go_ret;have tz:=HN.out;refine⟨_,rfl,?_⟩;have h9:=kI.out;rw[←tz]at h9;have oo:=lH (by rw[ME];exact tz.symm) h9;have u7:=lH (by rw[xe];exact tz.symm) ((oo.pull 2 rfl).pull 2 rfl);subst tz;exact(u7.pull 2 rfl).pull 2 rfl
def Cr {w0 w:World}{R:List a_}{c:cA}{aw seq:Int}{b:Nat}{pv:Value}{aO:List Value}{ai:List (List In)}{y:B.St}(aE:Y.Ok c)(h:BI c ai y)(hS:Sep w0 w (df c aw seq b pv aO y::R)):
 Calls Tryz.prog 118 #[O b] w λr w'=>∃v',r= .returned v'∧Sep w0 w' (oW v' y.rows::df c aw seq b pv aO y::R):=by
 have hb:=h.bb;have sg:=aE.t8;have nR:y.rows.length≤100000:=by have:=hb.rows;have:=hb.u;omega
 have kA:∀r∈y.rows,r.news.length≤100000:=λr hr=>by rw[(hb.news r hr).1];exact cE _
 obtain⟨H,vb,pb,sb,hE,hh⟩:=lG hS;rcases hh with⟨h4,eb,rv,du⟩|⟨xW,xp,rv,du⟩
 ·refine(FF hE hb.args nR kA (R:=aQ c aw seq eb vb pb sb (sL aO y.av) y.args y.x::R) du).mono λr w' hr=>?_;obtain⟨v',e,h1⟩:=hr;exact⟨v',e,(Ah hE h4 (R:=oW v' y.rows::R) (((h1.pull 3 rfl).pull 3 rfl).pull 3 rfl)).pull 1 rfl⟩
 ·refine(FF hE hb.args nR kA (R:=aJ vb 258 (Vw.eU (ae c) aw seq y.x.v)::bE c seq pb y.x.p::cw sb y.x.w::R) du).mono λr w' hr=>?_;obtain⟨v',e,h1⟩:=hr;exact⟨v',e,(kW hE xW (R:=oW v' y.rows::R) (((((h1.pull 5 rfl).pull 5 rfl).pull 5 rfl).pull 5 rfl).pull 5 rfl)).pull 1 rfl⟩
end Go.Proofs.YtolkmchicplaoaaGreat
namespace Go.Proofs.YtolkmchicplaoaaGreat
open Go.RowKit Go.aS Go.aS.I_ Go.aS.Y Go.aS.Sc
def Q1:(Tryz.prog.info? 234).map (λi=>(i.zero,i.size,i.bytes))=some (some (.agg #[I 0,U 0]),2,16):=by kernel_rfl
def stay (c:cA)(s:W.S)(L:List (Int×Int))(k:Nat):List (Int×Int):=(L.take k).filter (λe=> !B.gone c s e)
def MF {c s L k}(hk:k<L.length):stay c s L (k+1)=stay c s L k++(if B.gone c s L[k]then []else [L[k]]):=by
 unfold stay;rw[wj hk,List.filter_append];congr 1;by_cases h:B.gone c s L[k]=true
 ·simp[h]
 ·simp[h]
def Q2 (c s L k):(stay c s L k).length≤k:=by
 unfold stay;exact fT (List.length_filter_le _ _) (by rw[oE];omega)
def FH {w0 w R c}(aE:Y.Ok c){H b vb pb sb pv}(hE:BH (ae c) pv vb pb sb H){t s}(hS:Sep w0 w (aJ b 231 (H++t)::cw sb s::R)):
 Calls Tryz.prog 113 #[O b] w λr w'=>∃v',r= .returned v'∧Sep w0 w' (aU 0 234 2 v' (s.list.filter (λe=> !B.gone c s e)).length (flat iS (s.list.filter (λe=> !B.gone c s e)))::aJ b 231 (H++t)::cw sb s::R):=by
 obtain⟨i0,iJ,jA,jB,iR⟩:=eA Q1;have xD:=B0 hS 1 rfl;have Yx:=aa (λw' RR hS=>Pf (w0:=w0) (w:=w') (R:=RR) (b:=sb) (s:=s) hS);have HGT:=aa (λw' RR a hS=>jo (w0:=w0) (w:=w') (R:=RR) (b:=sb) (s:=s) hS a);have HLF:=aa (fun(i:Int) w=>cx w c aE 11 i 0);have rG:=aa (λp=>i_ aE p);unfold lC at rG;have Xm:s.list.filter (λe=> !B.gone c s e)=stay c s s.list s.list.length:=by unfold stay;rw[tV]
 rw[Xm];have Ff:Hid (∀e:Int×Int,B.gone c s e=decide ((jt c e.1).1=16∧(W.get s (at_ c 11 (jt c e.1).2.1 0)).2=true∧(W.get s (at_ c 11 (jt c e.1).2.1 0)).1≠1)):=aa (λe=>rfl);have IE:=aa (λk (hk:k<s.list.length)=>MF (c:=c) (s:=s) (L:=s.list) (k:=k) hk);have UO:=aa (λk=>Q2 c s s.list k);clear Xm;have aD:(ae c).length=24:=rfl;have HE:=aa hE;have kA:s.list.length≤65536:=by omega
 have f27:=(hS.ar 0 rfl).fM HE.len 27 rfl HE.out.w;have HS:=aa hS;clear hS xD hE;unfold aY at*;generalize j8:ae c=cs at*;clear j8;generalize hST:stay c s s.list=ST at*;have aq8:Hid (ST 0=[]):=aa (by rw[←hST];rfl);clear hST;generalize B.gone c s=GN at*;generalize YA:jt c=WH at*;clear YA;generalize Zd:(λi=>at_ c 11 i 0)=LF;have aq9:Hid (∀(i:Int) (w:World),ba 47 #[Value.agg cs.toArray,I 11,I i,I 0] w (I (LF i))):=aa (by rw[←Zd];exact HLF.out);have ar0:Hid (∀e:Int×Int,GN e=decide ((WH e.1).1=16∧(W.get s (LF (WH e.1).2.1)).2=true∧(W.get s (LF (WH e.1).2.1)).1≠1)):=aa (by rw[←Zd];exact Ff.out);clear Ff HLF Zd;generalize s.list=L at*;obtain⟨n,hn⟩:∃n,L.length=n:=⟨_,rfl⟩;rw[hn]at kA Yx⊢;have HN:=aa hn;clear hn;go_in;go_wp2_with fail;refine(Yx.out _ _ (HS.pull 1 rfl)).mono ?_;rintro r w2 ⟨va,rfl,h3⟩;have HS:=aa (HS.fresh h3);obtain⟨la,lc,rfl⟩:=HS.form 0 rfl;clear h3 f27 Yx;go_wp2_with fail;go_loopg [3,17] n (λg vo vi wr=>∃k,g+k=n∧vi=I (k:Int)∧Sep w0 wr (aU 0 234 2 vo (ST k).length (flat iS (ST k))::aU 0 234 2 (.slice la n lc) n (W.lX L)::aJ b 231 (H++t)::cw sb s::R))
 case atStart=>refine⟨0,by omega,rfl,?_⟩;rw[aq8.out];exact HS.out.k5 0 _ 2
 case round=>
  clear HS;obtain⟨k,U4,rfl,hS⟩:=hrel;obtain⟨oa,oc,rfl⟩:=hS.form 0 rfl;by_cases hk:k<n
  ·have rX:(k:Int)<(n:Int):=by omega
   have tz:=HN.out;have sC:k<L.length:=by omega
   obtain⟨ga,rfl⟩:∃ga,la=some ⟨ga,0,none⟩:=by
    rcases bg (hS.row 1 rfl)with⟨e1,e2⟩|⟨gb,cap,e1,_⟩
    ·omega
    ·simp only[dk]at e1;exact⟨gb,e1.1⟩
   have Vr:=aa (IE.out k sC);have Vs:=aa (ar0.out L[k]);have g0:=cI (en:=iS) (n:=2) gy L k sC 0 (by omega);have g1:=cI (en:=iS) (n:=2) gy L k sC 1 (by omega);have c0:=aH (hS.row 1 rfl) (k*2+0) (I L[k].1) g0;have c1:=aH (hS.row 1 rfl) (k*2+1) (U L[k].2) g1;have ar1:=aa (rG.out L[k].1);have hsk:=UO.out k;generalize L[k]=e9 at*;clear g0 g1 tz sC;obtain⟨p9,v9⟩:=e9;dsimp only at*;generalize WH p9=w9 at*;obtain⟨kd,bi,ki⟩:=w9;dsimp only at*;rw[qT]at c0;have jZ:=aa (hS.new 234 [I 0,U 0]);have YB:∀z∈ [I p9,U v9],z.oneCell'=true:=by simp[Value.oneCell']
   clear hS;go_wp2_with(refine aC jZ.out 0 rfl [I p9,U v9] 234 _ _ rfl rfl rfl rfl rfl (by kernel_rfl) YB (λwA hA _=>?_);simp only[aL]at hA;have HS:=aa hA;clear hA);clear c0 c1 jZ;have hB:=(HS.ar 3 rfl).drew;have hO:=(HS.ar 0 rfl).drew;have o0:=hO.cell 0;have o1:=hO.cell 1;simp only[zg]at o0 o1;go_wp2_with fail;refine bW [(1,[0,1,2,3,4,5]),(3,[6]),(0,[7,8,9,10,11,12,13])] (by kernel_rfl) ?_;simp only[zz];refine af ?_;repeat(first|(refine ak 58 _ b 0 cs _ rfl rfl rfl (aG (nS aD HE.out hB) (by simp)) underlying58 rfl (by rw[aD];kernel_rfl) ?_;simp only[Act.put,aZ,aL,aN])|go_big_quiet_step (fail)|quiet_step (fail))
   refine ax ?_;refine ao ?_;go_wp2_with fail;refine(ar1.out _).kq HS.dr λw3 HS=>?_;clear hB hO o0 o1;go_wp2_with fail;repeat(first|go_big_quiet_step(fail)|apply ax|apply af|apply ag|apply ah)
   refine aj ?_;by_cases sH:kd=16
   ·have d16:(kd==16)=true:=by simpa using sH
    have HG:=aa (fun(w':World) RR hS=>HGT.out w' RR (LF bi) hS);have ar2:=aa (λw=>aq9.out bi w);have Pb:GN (p9,v9)=((W.get s (LF bi)).2&&decide ((W.get s (LF bi)).1≠1)):=by
     rw[Vs.out];subst sH;by_cases h1:(W.get s (LF bi)).2=true<;>by_cases h2:(W.get s (LF bi)).1=1<;>simp[h1,h2]
    clear Vs sH;generalize W.get s (LF bi)=gt at*;generalize LF bi=pl at*;obtain⟨gv,gk⟩:=gt;dsimp only at*;go_wp2_with fail;have hB:=(HS.ar 3 rfl).drew;have f27:=hB.fM HE.len 27 rfl HE.out.w;refine bW [(1,[0,1,2,3,4,5,6,7,8]),(2,[9]),(3,[10]),(0,[11,12,13,14,15])] (by kernel_rfl) ?_;simp only[zz];refine af ?_;repeat(first|(refine ak 58 _ b 0 cs _ rfl rfl rfl (aG (nS aD HE.out hB) (by simp)) underlying58 rfl (by rw[aD];kernel_rfl) ?_;simp only[Act.put,aZ,aL,aN])|go_big_quiet_step (fail)|quiet_step (fail))
    refine ax ?_;refine aA ?_;go_wp2_with fail;refine(ar2.out _).kf HS.dr λw4 HF HS=>?_;go_wp2;refine⟨⟨⟨_,(by exact HF.out)⟩,rfl⟩,?_⟩;refine ao ?_;go_wp2_with fail;refine(HG.out _ _ (HS.pull 4 rfl)).kq HS λw5 HS=>?_;clear hB f27 HF;go_wp2_with fail;repeat(first|go_big_quiet_step(fail)|apply ax|apply af|apply ag|apply ah)
    refine aj ?_;cases gk with
    |false=>
     have ZM:GN (p9,v9)=false:=by rw[Pb];rfl
     have gx:=Vr.out;rw[ZM]at gx;simp only[wD,if_false]at gx;have mX:=aa gx;clear gx;have hO:=HS.ar 0 rfl;have o0:=hO.cell 0;have o1:=hO.cell 1;simp only[zg]at o0 o1;have eH:=aa (HS.new 234 [I p9,U v9]);generalize Vt:(ST k).length=sl at*;go_wp2_with(at_builtin;go_must (refine ch _ rfl _ _ 203 rfl 0 234 i0 _ 2 16 underlying203 iJ jA jB iR rfl (by decide) (.slice oa sl oc) sl (flat iS (ST k)) rfl (eH.row 2 rfl) [I p9,U v9] _ _ rfl (eH.ar 0 rfl) rfl (by simp[Value.oneCell']) (by unfold maxLen;omega) (by omega) (cE _) ?_));intro g2 c2 w4 dy iZ jj kM mw;have h3:=(eH.grown 2 rfl dy iZ (λq e=>by
      rcases jj with h1|h1
      ·exact .inl (h1.trans e)
      ·right;simp only[Value.ownBlock,eX]at e;rw[←e,h1];simp)).tail.tail
     simp only[zs,ze]at h3;have HS:=aa h3;clear h3 dy iZ jj hO o0 o1 eH;go_wp2_with fail;have AS:(ST (k+1)).length=sl+1:=by rw[mX.out,eE,Vt];rfl
     go_roundg (n-(k+1))
     case measure=>omega
     case rel=>refine⟨k+1,by omega,by go_num,?_⟩;rw[AS,mX.out,nh,qf];exact HS.out
    |true=>
     by_cases TT:gv=1
     ·have ZM:GN (p9,v9)=false:=by rw[Pb,TT];rfl
      subst TT;have gx:=Vr.out;rw[ZM]at gx;simp only[wD,if_false]at gx;have mX:=aa gx;clear gx;have hO:=HS.ar 0 rfl;have o0:=hO.cell 0;have o1:=hO.cell 1;simp only[zg]at o0 o1;have eH:=aa (HS.new 234 [I p9,U v9]);generalize Vt:(ST k).length=sl at*;go_wp2_with(at_builtin;go_must (refine ch _ rfl _ _ 203 rfl 0 234 i0 _ 2 16 underlying203 iJ jA jB iR rfl (by decide) (.slice oa sl oc) sl (flat iS (ST k)) rfl (eH.row 2 rfl) [I p9,U v9] _ _ rfl (eH.ar 0 rfl) rfl (by simp[Value.oneCell']) (by unfold maxLen;omega) (by omega) (cE _) ?_));intro g2 c2 w4 dy iZ jj kM mw;have h3:=(eH.grown 2 rfl dy iZ (λq e=>by
       rcases jj with h1|h1
       ·exact .inl (h1.trans e)
       ·right;simp only[Value.ownBlock,eX]at e;rw[←e,h1];simp)).tail.tail
      simp only[zs,ze]at h3;have HS:=aa h3;clear h3 dy iZ jj hO o0 o1 eH;go_wp2_with fail;have AS:(ST (k+1)).length=sl+1:=by rw[mX.out,eE,Vt];rfl
      go_roundg (n-(k+1))
      case measure=>omega
      case rel=>refine⟨k+1,by omega,by go_num,?_⟩;rw[AS,mX.out,nh,qf];exact HS.out
     ·have ZM:GN (p9,v9)=true:=by rw[Pb];simpa using TT
      have qy:(gv !=1)=true:=by simpa using TT
      have gx:=Vr.out;rw[ZM]at gx;simp only[if_true,sY]at gx;have mX:=aa gx;clear gx TT;go_wp2;go_roundg (n-(k+1))
      case measure=>omega
      case rel=>refine⟨k+1,by omega,by go_num,?_⟩;rw[mX.out];exact HS.tail
   ·have d16:(kd==16)=false:=by simpa using sH
    have ZM:GN (p9,v9)=false:=by rw[Vs.out];simp[sH]
    clear Vs sH;have gx:=Vr.out;rw[ZM]at gx;simp only[wD,if_false]at gx;have mX:=aa gx;clear gx;have hO:=HS.ar 0 rfl;have o0:=hO.cell 0;have o1:=hO.cell 1;simp only[zg]at o0 o1;have eH:=aa (HS.new 234 [I p9,U v9]);generalize Vt:(ST k).length=sl at*;go_wp2_with(at_builtin;go_must (refine ch _ rfl _ _ 203 rfl 0 234 i0 _ 2 16 underlying203 iJ jA jB iR rfl (by decide) (.slice oa sl oc) sl (flat iS (ST k)) rfl (eH.row 2 rfl) [I p9,U v9] _ _ rfl (eH.ar 0 rfl) rfl (by simp[Value.oneCell']) (by unfold maxLen;omega) (by omega) (cE _) ?_));intro g2 c2 w4 dy iZ jj kM mw;have h3:=(eH.grown 2 rfl dy iZ (λq e=>by
     rcases jj with h1|h1
     ·exact .inl (h1.trans e)
     ·right;simp only[Value.ownBlock,eX]at e;rw[←e,h1];simp)).tail.tail
    simp only[zs,ze]at h3;have HS:=aa h3;clear h3 dy iZ jj hO o0 o1 eH;go_wp2_with fail;have AS:(ST (k+1)).length=sl+1:=by rw[mX.out,eE,Vt];rfl
    go_roundg (n-(k+1))
    case measure=>omega
    case rel=>refine⟨k+1,by omega,by go_num,?_⟩;rw[AS,mX.out,nh,qf];exact HS.out
  ·obtain rfl:k=n:=by omega
   have HS:=aa hS;clear hS;go_wp2;go_ret;exact⟨_,rfl,(HS.pull 1 rfl).tail⟩
def vH {w0 w R c}(aE:Y.Ok c){aw seq b pv aO y}(hn:¬y.next=4)(hS:Sep w0 w (df c aw seq b pv aO y::R)):
 Calls Tryz.prog 113 #[O b] w λr w'=>∃v',r= .returned v'∧Sep w0 w' (aU 0 234 2 v' (B.entries c y).length (flat iS (B.entries c y))::df c aw seq b pv aO y::R):=by
 obtain⟨H,vb,pb,sb,hE,hh⟩:=lG hS;rcases hh with⟨h4,_⟩|⟨xW,xp,rv,du⟩
 ·exact absurd h4 hn
 ·have h1:Sep w0 w (aJ b 231 (H++ji xp rv y.args y)::cw sb y.x.w::oW rv y.rows::aJ vb 258 (Vw.eU (ae c) aw seq y.x.v)::bE c seq pb y.x.p::R):=((Sep.pull du 4 rfl).pull 1 rfl);refine(FH aE hE h1).mono λr w' hr=>?_;obtain⟨v',e,h2⟩:=hr;exact⟨v',e,(kW hE xW (R:=_::R) (((((h2.pull 2 rfl).pull 5 rfl).pull 5 rfl).pull 5 rfl).pull 5 rfl)).pull 1 rfl⟩
end Go.Proofs.YtolkmchicplaoaaGreat
namespace Go.Proofs.YtolkmchicplaoaaGreat
open Go.RowKit Go.aS Go.aS.Y Go.aS.Sc
def Xn (k a ov os nv ns:Int):Value:= .agg #[I k,I a,U ov,U os,U nv,U ns]
def Ka (k a ov os nv ns):∀v∈ [I k,I a,U ov,U os,U nv,U ns],v.oneCell'=true:=by simp[Value.oneCell']
def zq30:(∀(w c)(h:Ok c)(b aw seq la n lc d)(hB:cB w b 242 (tJ (ae c) aw seq (.slice la n lc) d))(hn:n≤100000)(hd:d≤100000)(p5:decide (d>n+1)=true),ba 244 #[O b] w (.tuple #[Xn 0 0 0 0 0 0,.bool false]))∧(∀(w c)(h:Ok c)(b aw seq la n lc d)(hB:cB w b 242 (tJ (ae c) aw seq (.slice la n lc) d))(hn:n≤100000)(hd:d≤100000)(p5:decide (d>n+1)=false)(tH:¬d<n)(ar4:¬d=n),ba 244 #[O b] w (.tuple #[Xn 1 (at_ c 4 aw 0) 0 0 1 seq,.bool true]))∧(∀(w c)(h:Ok c)(b aw seq la n lc d)(hB:cB w b 242 (tJ (ae c) aw seq (.slice la n lc) d))(hn:n≤100000)(hd:d≤100000)(p5:decide (d>n+1)=false)(ar4:d=n),ba 244 #[O b] w (.tuple #[Xn 1 (at_ c 5 aw 0) 0 0 n 0,.bool true]))∧(∀(w c)(h:Ok c)(b aw seq g n lc d K)(hB:cB w b 242 (tJ (ae c) aw seq (.slice (some ⟨g,0,none⟩) n lc) d))(hr:w.ownsRow 0 234 2 (.slice (some ⟨g,0,none⟩) n lc) n (flat iS K))(hK:K.length=n)(hn:n≤100000)(hd:d≤100000)(p5:decide (d>n+1)=false)(tH:d<n),ba 244 #[O b] w (.tuple #[Xn 1 (at_ c 6 aw d) 0 0 (K[d]'(by omega)).2 (IntKind.u64.wrap (K[d]'(by omega)).1),.bool true])):=by
 refine⟨?_,?_,?_,?_⟩;focus
  intro w c h b aw seq la n lc d hB hn hd p5
 rotate_left;focus
  intro w c h b aw seq la n lc d hB hn hd p5 tH ar4;have t1:((d:Int)==(n:Int))=false:=by simp;omega
  obtain⟨av,tq⟩:∃x,x=at_ c 4 aw 0:=⟨_,rfl⟩
 rotate_left;focus
  intro w c h b aw seq la n lc d hB hn hd p5 ar4;obtain⟨av,tq⟩:∃x,x=at_ c 5 aw 0:=⟨_,rfl⟩
 rotate_left;focus
  intro w c h b aw seq g n lc d K hB hr hK hn hd p5 tH;have ay9:(d:Int)<(n:Int):=by omega
  have HR:Hid (∀w',Fr [] w w'→w'.cell? ⟨g,d*2,none⟩=some (I (K[d]'(by omega)).1)∧w'.cell? ⟨g,d*2+1,none⟩=some (U (K[d]'(by omega)).2)):=λw' f=>
   ⟨f.cell (aH hr _ _ (by have:=cI gy K d (by omega) 0 (by decide);simpa[iS]using this)) (by simp),f.cell (aH hr _ _ (by have:=cI gy K d (by omega) 1 (by decide);simpa[iS]using this)) (by simp)⟩
  clear hr;generalize K[d]'(by omega)=kk at*;obtain⟨ka,kv⟩:=kk;dsimp only at HR⊢;obtain⟨Pd,pH⟩:∃x,x=IntKind.u64.wrap ka:=⟨_,rfl⟩;rw[←pH];obtain⟨la,lV⟩:∃x:Option Addr,x=some ⟨g,0,none⟩:=⟨_,rfl⟩;rw[←lV]at hB;obtain⟨av,tq⟩:∃x,x=at_ c 6 aw d:=⟨_,rfl⟩
 rotate_left 2;iterate 3
  focus rw[←tq];have JU:=aa tq;clear tq
  rotate_left
 all_goals
  have hS:=((Sep.nil (Fr.refl [] w)).new 82 [I 0,I 0,U 0,U 0,U 0,U 0]).new 82 [I 1,I 0,U 0,U 0,U 0,U 0];simp only[cG]at hS;have HS:=aa hS;clear hS;have HA:=aa (λw kd i k=>cx w c h kd i k);have aD:(ae c).length=24:=rfl;unfold aY at*;generalize ae c=cs at*;have HB:=aa hB;have HD:=aa (λw' (f:Fr [] w w')=>oS w' b cs aD aw seq la n lc d (HB.fr f (by simp)) hn hd);rw[p5]at HD;have YC:(n:Int)≤100000:=by omega
  have uG:=hB.lt;clear hB h hn hd;delta ba;go_in;go_wp2_with fail;refine(HD.out _ HS.fr).kq HS λw1 HS=>?_;clear HD
 focus have pV:=Ka 0 0 0 0 0 0;go_wp2_with(first|(refine pR rfl 82 _ _ rfl w.heap.size 0 ([I 0,I 0,U 0,U 0,U 0,U 0]).toArray rfl rfl ((HS.ar 1 rfl).there _ rfl) (by kernel_rfl) (iX pV) ?_));have HS:=aa (HS.out.iH 1 rfl [I 0,I 0,U 0,U 0,U 0,U 0] rfl)
 rotate_left;iterate 3
  focus
   have hB:=HB.fr HS.fr (by simp);have iF:=hB.aR aD 24 rfl rfl;have fK:=hB.aR aD 25 rfl rfl;have ee:=hB.aR aD 26 rfl rfl;have cu:=hB.aR aD 27 rfl rfl;clear hB;go_wp2_with fail;refine bW [(1,[0,1,2,3,4,5,6,7,8,9,10])] (by kernel_rfl) ?_;simp only[zz];repeat(first|go_big_quiet_step(fail)|apply ax|apply af|apply ag|apply ah)
   refine aj ?_;have HS:=aa HS.drew;go_wp2_with fail
  rotate_left
 rotate_left 3;focus
  obtain⟨y0,y1⟩:=HR.out _ HS.fr
 rotate_left 2;iterate 3
  focus have hB:=HB.fr HS.fr (by simp);have iF:=hB.aR aD 24 rfl rfl;have fK:=hB.aR aD 25 rfl rfl;have ee:=hB.aR aD 26 rfl rfl;have cu:=hB.aR aD 27 rfl rfl
  rotate_left
 rotate_left;iterate 2
  focus clear hB;go_wp2_with fail;refine bW [(1,[0,1,2,3,4,5,6,7,8,9,10])] (by kernel_rfl) ?_
  rotate_left
 focus subst lV;clear hB;go_wp2_with fail;refine bW [(1,[0,1,2,3,4,5,6,7,8,9]),(2,[10]),(3,[11])] (by kernel_rfl) ?_
 rotate_left 2;iterate 3
  focus simp only[zz];repeat(first|go_big_quiet_step(fail)|apply ax|apply af|apply ag|apply ah)
  rotate_left
 rotate_left;iterate 2
  focus refine aj ?_;have HS:=aa HS.drew;go_wp2_with fail;have hB:=HB.fr HS.fr (by simp)
  rotate_left
 focus refine aA ?_;go_wp2;refine⟨⟨⟨_,(by exact(Fr.refl _ _).alloc _)⟩,rfl⟩,?_⟩;refine ao ?_;go_wp2;refine aj ?_;have HS:=aa (HS.drew.new 234 [I ka,U kv]);clear y0 y1 iF fK ee cu;have HS:Hid (Sep w (w1.alloc (.cells #[I ka,U kv] 234)).drew.drew [aJ w1.heap.size 234 [I ka,U kv],aJ (w.heap.size+1) 82 [I 1,I 0,U 0,U 0,U 0,U 0],aJ w.heap.size 82 [I 0,I 0,U 0,U 0,U 0,U 0]]):=HS;generalize(w1.alloc (.cells #[I ka,U kv] 234)).drew.drew=w9 at*;have hq5:¬w1.heap.size=w.heap.size+1:=HS.ne 0 1 rfl rfl (by decide);generalize w1.heap.size=q5 at*;have z0:=(HS.ar 0 rfl).cell 0;have z1:=(HS.ar 0 rfl).cell 1;simp only[zg]at z0 z1;have hB:=HB.fr HS.fr (by simp);obtain⟨la,lV⟩:∃x:Option Addr,x=some ⟨g,0,none⟩:=⟨_,rfl⟩;rw[←lV]at hB
 rotate_left 2;iterate 3
  focus have iF:=hB.aR aD 24 rfl rfl;have fK:=hB.aR aD 25 rfl rfl;have ee:=hB.aR aD 26 rfl rfl;have cu:=hB.aR aD 27 rfl rfl
  rotate_left
 rotate_left 3;focus
  subst lV
 rotate_left 2;iterate 3
  focus
   have cC:=hB.drew;have pg:¬b=w.heap.size+1:=by omega
   clear hB;go_wp2_with fail
  rotate_left
 rotate_left;focus
  refine dq [(1,[0,1,2,3,4,5,6,7,9,10,11,12,13]),(2,[8]),(0,[14]),(2,[15]),(0,[16]),(3,[17])] [w.heap.size+1] (by kernel_rfl) (by kernel_rfl) ?_
 rotate_left;focus
  refine dq [(1,[0,1,2,3,4,5,6,7,9,10,11,12,13,14,15]),(2,[8]),(0,[16]),(2,[17]),(0,[18]),(3,[19])] [w.heap.size+1] (by kernel_rfl) (by kernel_rfl) ?_
 rotate_left;focus
  refine dq [(1,[0,1,2,3,4,5,6,7,8,9,10,11,13,14,15,16,17,18]),(2,[12]),(0,[19]),(2,[20]),(0,[21]),(3,[22])] [w.heap.size+1] (by kernel_rfl) (by kernel_rfl) ?_
 rotate_left 2;iterate 3
  focus
   simp only[zz];refine af ?_;iterate 3 (first|go_big_quiet_step (fail)|quiet_step (fail))
   refine ak 58 _ b 0 cs _ rfl rfl rfl (cm cC (by simp;omega)) underlying58 rfl (by rw[aD];kernel_rfl) ?_;simp only[Act.put,aZ,zs];repeat go_big_quiet_step(fail)
   refine ax ?_;refine aA ?_;go_wp2_with fail;refine(HA.out _ _ _ _).kk λw2 hf=>?_;rw[←JU.out];have HF:=aa (hf.mono (se:=[w.heap.size+1]) (by simp));have HS:=aa (HS.drew.c_ hf);clear hf;go_wp2;refine⟨⟨⟨_,(by exact HF.out)⟩,rfl⟩,?_⟩
  rotate_left
 rotate_left;iterate 2
  focus have s1:=((HS.ar 0 rfl).cell 1);have s4:=((HS.ar 0 rfl).cell 4);have s5:=((HS.ar 0 rfl).cell 5);have f1:=(HS.ar 0 rfl).az
  rotate_left
 focus have s1:=((HS.ar 1 rfl).cell 1);have s4:=((HS.ar 1 rfl).cell 4);have s5:=((HS.ar 1 rfl).cell 5);have f1:=(HS.ar 1 rfl).az
 rotate_left 2;iterate 3
  focus
   simp only[zg]at s1 s4 s5;repeat(first|go_big_quiet_step(fail)|apply ax|apply af|apply ag|apply ah)
   refine aA ?_;go_wp2;refine⟨⟨⟨_,(by exact HF.out.setCell (.inl (by simp)) _)⟩,rfl⟩,?_⟩;repeat(first|go_big_quiet_step(fail)|apply ax|apply af|apply ag|apply ah)
   refine ao ?_;go_wp2;refine aj ?_
  rotate_left
 rotate_left;focus
  have hS:=((HS.set 0 rfl 1 (I av)).set 0 rfl 4 (U 1)).set 0 rfl 5 (U seq);simp only[zs]at hS;generalize((w2.setCell ⟨w.heap.size+1,1,none⟩ (I av)).setCell ⟨w.heap.size+1,4,none⟩ (U 1)).setCell ⟨w.heap.size+1,5,none⟩ (U seq)=w3 at*
 rotate_left;focus
  have hS:=((HS.set 0 rfl 1 (I av)).set 0 rfl 4 (U (n:Int))).set 0 rfl 5 (U 0);simp only[zs]at hS;generalize((w2.setCell ⟨w.heap.size+1,1,none⟩ (I av)).setCell ⟨w.heap.size+1,4,none⟩ (U (n:Int))).setCell ⟨w.heap.size+1,5,none⟩ (U 0)=w3 at*
 rotate_left;focus
  have hS:=((HS.set 1 rfl 1 (I av)).set 1 rfl 4 (U kv)).set 1 rfl 5 (U (IntKind.u64.wrap ka));simp only[zs]at hS;generalize((w2.setCell ⟨w.heap.size+1,1,none⟩ (I av)).setCell ⟨w.heap.size+1,4,none⟩ (U kv)).setCell ⟨w.heap.size+1,5,none⟩ (U (IntKind.u64.wrap ka))=w3 at*
 rotate_left 2;iterate 3
  focus clear s1 s4 s5 f1 HF HS;have HS:=aa hS;clear hS
  rotate_left
 rotate_left;focus
  have pV:=Ka 1 av 0 0 1 seq;go_wp2_with(first|(refine ay 82 _ rfl rfl _ 0 rfl [I 1,I av,U 0,U 0,U 1,U seq] _ (HS.ar 0 rfl).range underlying82 rfl (by kernel_rfl) ?_)|(refine pR rfl 82 _ _ rfl w.heap.size 0 ([I 1,I av,U 0,U 0,U 1,U seq]).toArray rfl rfl ((HS.ar 1 rfl).there _ rfl) (by kernel_rfl) (iX pV) ?_));have HS:=aa (HS.out.iH 1 rfl [I 1,I av,U 0,U 0,U 1,U seq] rfl)
 rotate_left;focus
  have pV:=Ka 1 av 0 0 (n:Int) 0;go_wp2_with(first|(refine ay 82 _ rfl rfl _ 0 rfl [I 1,I av,U 0,U 0,U (n:Int),U 0] _ (HS.ar 0 rfl).range underlying82 rfl (by kernel_rfl) ?_)|(refine pR rfl 82 _ _ rfl w.heap.size 0 ([I 1,I av,U 0,U 0,U (n:Int),U 0]).toArray rfl rfl ((HS.ar 1 rfl).there _ rfl) (by kernel_rfl) (iX pV) ?_));have HS:=aa (HS.out.iH 1 rfl [I 1,I av,U 0,U 0,U (n:Int),U 0] rfl)
 rotate_left;focus
  have pV:=Ka 1 av 0 0 kv (IntKind.u64.wrap ka);rw[←pH]at*;go_wp2_with(first|(refine ay 82 _ rfl rfl _ 0 rfl [I 1,I av,U 0,U 0,U kv,U Pd] _ (HS.ar 1 rfl).range underlying82 rfl (by kernel_rfl) ?_)|(refine pR rfl 82 _ _ rfl w.heap.size 0 ([I 1,I av,U 0,U 0,U kv,U Pd]).toArray rfl rfl ((HS.ar 2 rfl).there _ rfl) (by kernel_rfl) (iX pV) ?_));have HS:=aa (HS.out.iH 2 rfl [I 1,I av,U 0,U 0,U kv,U Pd] rfl)
 rotate_left
 ·exact aV (v:= .tuple #[Xn 0 0 0 0 0 0,.bool false]) (bj Tryz.results244 rfl rfl (HS.ar 1 rfl).range underlying82 rfl (by kernel_rfl)) rfl ⟨rfl,HS.fr⟩
 ·exact aV (v:= .tuple #[Xn 1 av 0 0 1 seq,.bool true]) (bj Tryz.results244 rfl rfl (HS.ar 1 rfl).range underlying82 rfl (by kernel_rfl)) rfl ⟨rfl,HS.fr⟩
 ·exact aV (v:= .tuple #[Xn 1 av 0 0 (n:Int) 0,.bool true]) (bj Tryz.results244 rfl rfl (HS.ar 1 rfl).range underlying82 rfl (by kernel_rfl)) rfl ⟨rfl,HS.fr⟩
 ·exact aV (v:= .tuple #[Xn 1 av 0 0 kv Pd,.bool true]) (bj Tryz.results244 rfl rfl (HS.ar 2 rfl).range underlying82 rfl (by kernel_rfl)) rfl ⟨rfl,HS.fr⟩
def Fj:=@zq30.1
def Q4:=@zq30.2.1
def Vy:=@zq30.2.2.1
def Vz:=@zq30.2.2.2
end Go.Proofs.YtolkmchicplaoaaGreat
namespace Go.Proofs.YtolkmchicplaoaaGreat
open Go.RowKit Go.aS Go.aS.I_ Go.aS.Y
def dh (aO:List Value)(k:Int):Value:=if k<0∨(aO.length:Int)≤k then .slice none 0 0 else aO.getD k.toNat (.slice none 0 0)
def cL.mA {w pv aO ai}(h:cL w pv aO ai)(k):dJ w (dh aO k) (K.bU ai k):=by
 have hl:=h.len;unfold dh K.bU;by_cases hc:k<0∨(ai.length:Int)≤k
 ·rw[aB (by omega),aB hc];exact Fo w
 ·have h1:k.toNat<ai.length:=by omega
  have h2:k.toNat<aO.length:=by omega
  rw[aq (by omega),aq hc];have:=h.each k.toNat h1;rwa [show aO.getD k.toNat (.slice none 0 0)=aO[k.toNat] by simp[List.getD,h2],show ai.getD k.toNat []=ai[k.toNat] by simp[List.getD,h1]]
structure KH (cs:List Value)(aw tag:Int)(pv:Value)(prog:Int)(args:List Int)(H:List Value):Prop where
 len:H.length=32
 m:∀k,k<24→H[k]?=cs[k]?
 aw:H[24]?=some (I aw)
 tag:H[25]?=some (U tag)
 pv:H[26]?=some pv
 prog:H[27]?=some (I prog)
 args:∀k,k<4→H[28+k]?=(bC args)[k]?
def kH (cs:List Value)(aw tag:Int)(pv:Value)(prog:Int)(args:List Int):List Value:=cs++([I aw,U tag,pv,I prog]++bC args)
def ai7 {cs}(aD:cs.length=24)(aw tag pv prog){args}(ha:args.length=4):KH cs aw tag pv prog args (kH cs aw tag pv prog args):=by
 have hl:(bC args).length=4:=by unfold bC;rw[dD,ha]
 unfold kH;refine⟨by simp[aD,hl],λk hk=>gm (by omega),?_,?_,?_,?_,λk hk=>?_⟩;all_goals(rw[gw (by omega),aD])
 ·rfl
 ·rfl
 ·rfl
 ·rfl
 ·rw[gw (by simp;omega)];simp only[dT,mD];congr 1;omega
def nI (wv bv:Value)(k:K.St):List Value:=[I k.next,I k.given,I k.cZ,.bool k.asked,U k.nv,U k.ns,wv,bv,.bool k.fresh,.bool k.eV,I k.oc,U k.ov,I k.rc,U k.rv,.bool k.alone]
def bB (H:List Value)(b:Nat)(wv bv:Value)(k:K.St):a_:=aJ b 168 (H++nI wv bv k)
def ZN {H:List Value}(hH:H.length=32)(t:List Value){k:Nat}(hk:k<32):(H++t)[k]?=H[k]?:=gm (by omega)
def ar5 {H:List Value}(hH:H.length=32)(t:List Value)(k:Nat)(hk:32≤k):(H++t)[k]?=t[k-32]?:=by rw[gw (by omega),hH]
def cR {H:List Value}(hH:H.length=32)(t:List Value)(k:Nat)(v:Value)(hk:32≤k):(H++t).set k v=H++t.set (k-32) v:=by rw[eD _ _ (by omega),hH]
def lT {w b}{T:TypeId}{cs H t aw tag pv prog args}(aD:cs.length=24)(hE:KH cs aw tag pv prog args H)(h:cB w b T (H++t)):w.rangeAt b 0 cs:=λj u hj=>by
 have zM:j<24:=by rw[←aD];exact(dE.1 hj).1
 have:=(h.cell j).trans ((ZN hE.len _ (by omega)).trans ((hE.m j zM).trans hj));simpa using this
def ZO {w b}{T:TypeId}{cs H t aw tag pv prog args}(ha:args.length=4)(hE:KH cs aw tag pv prog args H)(h:cB w b T (H++t)):w.rangeAt b 28 (bC args):=λj u hj=>by
 have zM:j<4:=by
  have:=(dE.1 hj).1;unfold bC at this;rw[dD,ha]at this;exact this
 exact(h.cell (28+j)).trans ((ZN hE.len _ (by omega)).trans ((hE.args j zM).trans hj))
def sN {w0 w R c H aw tag b pv wv bv prog args}(hE:KH (ae c) aw tag pv prog args H){k}(rc rv al)(hS:Sep w0 w (bB H b wv bv k::R)):
 bR 107 #[O b,.agg #[I rc,U rv],.bool al] w w0 (bB H b wv bv (K.end_ rc rv al k)::R):=by
 unfold K.end_;obtain⟨dG,bG,bD,bH,gZ,gC,cP,kb,bI,dC,ik,il,f_,gf,bJ⟩:=k;try dsimp only at*
 simp only[bB,nI,za]at hS⊢;have aD:(ae c).length=24:=rfl;have HE:=aa hE;have HS:=aa hS;clear hS hE;have jM:=aa (HS.new 48 [I rc,U rv]);delta bR;go_in;go_wp2_with fail;generalize World.alloc _ _=W1 at jM⊢;have hB:=(jM.ar 1 rfl).drew;have hO:=(jM.ar 0 rfl).drew;have o0:=hO.cell 0;have o1:=hO.cell 1;simp only[zg]at o0 o1;have fl:=hB.lt;have pg:¬w.heap.size=b:=λe=>jM.ne 0 1 rfl rfl (by decide) e;obtain⟨f32,gB⟩:=hB.fe HE.len 32 rfl rfl;refine dq [(1,[0,1,3,5,6]),(0,[2,4]),(2,[7]),(0,[8,9]),(3,[10]),(0,[11,12]),(3,[13])] [b] (by kernel_rfl) (by kernel_rfl) ?_;simp only[zz];repeat(first|go_big_quiet_step(fail)|quiet_step(fail)|apply ax|apply af|apply ag|apply ah)
 refine aA ?_;go_wp2;refine⟨⟨⟨_,(by exact(Fr.refl [b] _).setCell (.inl (by simp)) _)⟩,rfl⟩,?_⟩;have h5:=(jM.set 1 rfl 32 (I 13)).drew;simp only[aL,cR HE.len _ 32 _ (by omega),Nat.reduceSub,aN]at h5;have HS:=aa h5.tail;clear h5 hB hO o0 o1 f32 gB fl pg jM;generalize World.drew _=W2 at HS⊢;repeat(first|go_big_quiet_step(fail)|quiet_step(fail)|apply ax|apply af|apply ag|apply ah)
 refine ao ?_;refine fz HS.out 0 rfl 44 [I rc,U rv] 48 _ _ rfl rfl rfl rfl (by rw[eE,HE.len];simp) (by kernel_rfl) (by simp[Value.oneCell']) (λwA hA _=>?_);simp only[aL,n_,cR HE.len _ 44 _ (by omega),cR HE.len _ 45 _ (by omega),Nat.reduceAdd,Nat.reduceSub,aN]at hA;have HS:=aa hA;clear hA;go_wp2_with fail;repeat(first|go_big_quiet_step(fail)|quiet_step(fail)|apply ax|apply af|apply ag|apply ah)
 obtain⟨f46,az0⟩:=(HS.ar 0 rfl).fe HE.len 46 rfl rfl;have fl:=(HS.ar 0 rfl).lt;have h5:=HS.set 0 rfl 46 (.bool al);simp only[aL,cR HE.len _ 46 _ (by omega),Nat.reduceSub,aN]at h5;have HS:=aa h5;clear h5;refine ao ?_;go_wp2;refine aj ?_;go_wp2;go_end0;exact⟨rfl,HS.out⟩
def zq31:(∀{w0 w R c H aw tag b pv wv bv prog args}(hE:KH (ae c) aw tag pv prog args H){k}(hS:Sep w0 w (bB H b wv bv k::R)),ba 83 #[O b] w (.bool (decide (k.next=13))))∧(∀{w0 w R c H aw tag b pv wv bv prog args}(hE:KH (ae c) aw tag pv prog args H){k}(hS:Sep w0 w (bB H b wv bv k::R)),ba 89 #[O b] w (.bool k.fresh))∧(∀{w0 w R c H aw tag b pv wv bv prog args}(hE:KH (ae c) aw tag pv prog args H){k}(hS:Sep w0 w (bB H b wv bv k::R)),ba 92 #[O b] w (.bool k.alone))∧(∀{w0 w R c H aw tag b pv wv bv prog args}(hE:KH (ae c) aw tag pv prog args H){k}(hS:Sep w0 w (bB H b wv bv k::R)),ba 91 #[O b] w (.agg [I k.rc,U k.rv].toArray))∧(∀{w0 w:World}{R:List a_}{c:Y.cA}{H:List Value}{aw tag:Int}{b:Nat}{pv wv bv:Value}{prog:Int}{args:List Int}{w1 seq:Int}{eb vb pb sb:Nat}{cv:Value}(hE:KH (ae c) aw tag pv prog args H){k:K.St}{x:X.St}(hs:x.s=2)(k9:0≤k.cZ∧k.cZ≤1000000)(hS:Sep w0 w (bB H b wv bv k::aQ c w1 seq eb vb pb sb cv args x::R)),bR 114 #[O b,O eb] w w0 (bB H b wv bv {k with cZ:=k.cZ+1,next:=if k.cZ+1=2∧k.asked=false then 0 else 2}::aQ c w1 seq eb vb pb sb cv args x::R))∧(∀{w0 w R c H aw tag b pv wv bv prog args}(hE:KH (ae c) aw tag pv prog args H){k}(val)(hn:k.next=6)(hS:Sep w0 w (bB H b wv bv k::R)),bR 86 #[O b,U val] w w0 (bB H b wv bv {k with oc:=IntKind.i64.wrap val,next:=7}::R))∧(∀{w0 w R c H aw tag b pv wv bv prog args}(hE:KH (ae c) aw tag pv prog args H){k}(hn:k.next=5)(hS:Sep w0 w (bB H b wv bv k::R)),bR 86 #[O b,U tag] w w0 (bB H b wv bv {k with next:=6}::R))∧(∀{w0 w R c H aw tag b pv wv bv prog args}(hE:KH (ae c) aw tag pv prog args H){k}(val)(hn:k.next=7)(hS:Sep w0 w (bB H b wv bv k::R)),bR 86 #[O b,U val] w w0 (bB H b wv bv (K.end_ k.oc val false {k with ov:=val})::R)):=by
 refine⟨?_,?_,?_,?_,?_,?_,?_,?_⟩;iterate 4
  focus intro w0 w R c H aw tag b pv wv bv prog args hE k hS
  rotate_left
 focus intro w0 w R c H aw tag b pv wv bv prog args w1 seq eb vb pb sb cv hE k x hs k9 hS;have Cn:=aa (λw' RR hS=>lF (w0:=w0) (w:=w') (R:=RR) (c:=c) (aw:=w1) (seq:=seq) (b:=eb) (vb:=vb) (pb:=pb) (sb:=sb) (cv:=cv) (args:=args) (x:=x) hS);rw[hs]at Cn;generalize aQ c w1 seq eb vb pb sb cv args x=TX at*;clear hs;have hw:IntKind.i64.wrap (k.cZ+1)=k.cZ+1:=bf _ (by omega) (by omega);clear k9
 rotate_left;focus
  intro w0 w R c H aw tag b pv wv bv prog args hE k val hn hS;have ew:IntKind.i64.wrap val=RowKit.wrap64 val:=by rw[uR];unfold RowKit.wrap64;omega
  rw[ew];clear ew
 rotate_left;focus
  intro w0 w R c H aw tag b pv wv bv prog args hE k hn hS
 rotate_left;focus
  intro w0 w R c H aw tag b pv wv bv prog args hE k val hn hS;have Er:=aa (λw' hS=>sN (w0:=w0) (w:=w') (R:=R) (b:=b) (wv:=wv) (bv:=bv) hE (k:={k with ov:=val}) k.oc val false hS);generalize K.end_ k.oc val false {k with ov:=val}=T at*;generalize bB H b wv bv T=KT at*
 all_goals
  obtain⟨dG,bG,bD,bH,gZ,gC,cP,kb,bI,dC,ik,il,f_,gf,bJ⟩:=k;try dsimp only at*
  simp only[bB,nI,za]at hS⊢;have aD:(ae c).length=24:=rfl;have HE:=aa hE;have HS:=aa hS;clear hS hE
 rotate_left;focus
  obtain⟨f32,gB⟩:=(HS.ar 0 rfl).fe HE.len 32 rfl rfl;have fl:=(HS.ar 0 rfl).lt;have e:decide (dG=13)=(dG==13):=by by_cases h:dG=13<;>simp[h]
  rw[e];clear e;delta ba;go_in;go_wp2;go_ret
 rotate_left;focus
  have fx:=(HS.ar 0 rfl).aR HE.len 40 rfl rfl
 rotate_left;focus
  have fx:=(HS.ar 0 rfl).aR HE.len 46 rfl rfl
 rotate_left 7;iterate 2
  focus have fl:=(HS.ar 0 rfl).lt;delta ba;go_in;go_wp2;go_ret
  rotate_left
 focus have fx:=(HS.ar 0 rfl).aR HE.len 44 rfl rfl;have fy:=(HS.ar 0 rfl).aR HE.len 45 rfl rfl;have fl:=(HS.ar 0 rfl).lt;delta ba;go_in;go_wp2_with fail
 rotate_left 2;iterate 3
  focus subst hn;obtain⟨f32,gB⟩:=(HS.ar 0 rfl).fe HE.len 32 rfl rfl
  rotate_left
 rotate_left 5;focus
  obtain⟨f42,ar6⟩:=(HS.ar 0 rfl).fe HE.len 42 rfl rfl;have fl:=(HS.ar 0 rfl).lt;have h5:=HS.set 0 rfl 42 (I (RowKit.wrap64 val));simp only[aL,cR HE.len _ 42 _ (by omega),Nat.reduceSub,aN]at h5;have HS:=aa h5;clear h5;have h5:=HS.set 0 rfl 32 (I 7)
 rotate_left;focus
  have f25:=(HS.ar 0 rfl).fM HE.len 25 rfl HE.out.tag;have fl:=(HS.ar 0 rfl).lt;have h5:=HS.set 0 rfl 32 (I 6)
 rotate_left 7;iterate 2
  focus simp only[aL,cR HE.len _ 32 _ (by omega),Nat.reduceSub,aN]at h5;have HS:=aa h5;clear h5;delta bR;go_in;go_wp2;go_end0
  rotate_left
 focus obtain⟨f42,ar6⟩:=(HS.ar 0 rfl).fe HE.len 42 rfl rfl;obtain⟨f43,az1⟩:=(HS.ar 0 rfl).fe HE.len 43 rfl rfl;have fl:=(HS.ar 0 rfl).lt;have h5:=HS.set 0 rfl 43 (U val);simp only[aL,cR HE.len _ 43 _ (by omega),Nat.reduceSub,aN]at h5;have HS:=aa h5;clear h5;delta bR;go_in;go_wp2_with fail;refine(Er.out _ HS.out).kh λw3 HS=>?_;go_wp2;go_end0
 rotate_left
 ·exact⟨rfl,Fr.refl _ _⟩
 iterate 2
  focus exact⟨rfl,Fr.refl _ _⟩
 ·exact aV (v:= .agg #[I f_,U gf]) (by simp[results,Tryz.results91,go_sem]) rfl ⟨rfl,(Fr.refl _ _).alloc _⟩
 ·by_cases ht:bD+1=2
  ·have et:(bD+1==2)=true:=by simpa using ht
   cases bH with
   |true=>
    rw[aq (by simp)];clear ht;delta bR;go_in;go_wp2_with fail;refine(Cn.out _ _ (HS.pull 1 rfl)).kq HS λw2 HS=>?_;obtain⟨f34,ai8⟩:=(HS.ar 0 rfl).fe HE.len 34 rfl rfl;obtain⟨f35,az2⟩:=(HS.ar 0 rfl).fe HE.len 35 rfl rfl;obtain⟨f32,gB⟩:=(HS.ar 0 rfl).fe HE.len 32 rfl rfl;have fl:=(HS.ar 0 rfl).lt;have h5:=HS.set 0 rfl 34 (I (bD+1));simp only[aL,cR HE.len _ 34 _ (by omega),Nat.reduceSub,aN]at h5;have HS:=aa h5;clear h5;have h5:=HS.set 0 rfl 32 (I 2);simp only[aL,cR HE.len _ 32 _ (by omega),Nat.reduceSub,aN]at h5;have HS:=aa h5;clear h5;go_wp2;go_end0;exact⟨rfl,HS.out⟩
   |false=>
    rw[aB ⟨ht,rfl⟩];clear ht;delta bR;go_in;go_wp2_with fail;refine(Cn.out _ _ (HS.pull 1 rfl)).kq HS λw2 HS=>?_;obtain⟨f34,ai8⟩:=(HS.ar 0 rfl).fe HE.len 34 rfl rfl;obtain⟨f35,az2⟩:=(HS.ar 0 rfl).fe HE.len 35 rfl rfl;obtain⟨f32,gB⟩:=(HS.ar 0 rfl).fe HE.len 32 rfl rfl;have fl:=(HS.ar 0 rfl).lt;have h5:=HS.set 0 rfl 34 (I (bD+1));simp only[aL,cR HE.len _ 34 _ (by omega),Nat.reduceSub,aN]at h5;have HS:=aa h5;clear h5;have h5:=HS.set 0 rfl 32 (I 2);simp only[aL,cR HE.len _ 32 _ (by omega),Nat.reduceSub,aN]at h5;have HS:=aa h5;clear h5;have h5:=HS.set 0 rfl 32 (I 0);simp only[aL,cR HE.len _ 32 _ (by omega),Nat.reduceSub,aN]at h5;have HS:=aa h5;clear h5;go_wp2;go_end0;exact⟨rfl,HS.out⟩
  ·have et:(bD+1==2)=false:=by simpa using ht
   rw[aq (by simp[ht])];clear ht;delta bR;go_in;go_wp2_with fail;refine(Cn.out _ _ (HS.pull 1 rfl)).kq HS λw2 HS=>?_;obtain⟨f34,ai8⟩:=(HS.ar 0 rfl).fe HE.len 34 rfl rfl;obtain⟨f32,gB⟩:=(HS.ar 0 rfl).fe HE.len 32 rfl rfl;have fl:=(HS.ar 0 rfl).lt;have h5:=HS.set 0 rfl 34 (I (bD+1));simp only[aL,cR HE.len _ 34 _ (by omega),Nat.reduceSub,aN]at h5;have HS:=aa h5;clear h5;have h5:=HS.set 0 rfl 32 (I 2);simp only[aL,cR HE.len _ 32 _ (by omega),Nat.reduceSub,aN]at h5;have HS:=aa h5;clear h5;go_wp2;go_end0;exact⟨rfl,HS.out⟩
 iterate 3
  focus exact⟨rfl,HS.out⟩
def fg:=@zq31.1
def FI:=@zq31.2.1
def IF:=@zq31.2.2.1
def FJ:=@zq31.2.2.2.1
def FL:=@zq31.2.2.2.2.1
def MG:=@zq31.2.2.2.2.2.1
def FT:=@zq31.2.2.2.2.2.2.1
def MH:=@zq31.2.2.2.2.2.2.2
def qH {w0 w R c H aw tag b pv wv bv prog args aO ai}(hE:KH (ae c) aw tag pv prog args H){k}(hP:cL w pv aO ai)(hS:Sep w0 w (bB H b wv bv k::R)):
 ba 106 #[O b] w (dh aO prog):=by
 have B5:=hP.len;obtain⟨pa,pc,NY⟩:=hP.row.len;have hP:=hP.row;rw[NY]at hP;obtain⟨m,hm⟩:∃m,aO.length=m:=⟨_,rfl⟩;rw[hm]at NY;have Vl:=aa NY;clear NY;have eT:dh aO prog=if prog<0∨(aO.length:Int)≤prog then .slice none 0 0 else aO.getD prog.toNat (.slice none 0 0):=rfl
 by_cases h0:prog<0
 ·rw[eT,aB (.inl h0)];have d0:decide (prog<0)=true:=by simpa using h0
  clear hP eT h0;obtain⟨dG,bG,bD,bH,gZ,gC,cP,kb,bI,dC,ik,il,f_,gf,bJ⟩:=k;try dsimp only at*
  simp only[bB,nI,za]at hS⊢;have aD:(ae c).length=24:=rfl;have HE:=aa hE;have HS:=aa hS;clear hS hE;have hB:=(HS.ar 0 rfl).drew;have f26:=hB.fM HE.len 26 rfl HE.out.pv;have f27:=hB.fM HE.len 27 rfl HE.out.prog;rw[Vl.out]at f26;have fl:=hB.lt;delta ba;go_in;go_wp2_with fail;refine bW [(1,[0,1,2,3,4,5,6,7,8,9,10,11,12,13,14,15,16,17,18])] (by kernel_rfl) ?_;simp only[zz];repeat(first|go_big_quiet_step(fail)|apply ax|apply af|apply ag|apply ah)
  refine aj ?_;go_wp2;go_ret;exact⟨rfl,(Fr.refl _ _).drew⟩
 ·have d0:decide (prog<0)=false:=by simpa using h0
  by_cases h1:(m:Int)≤prog
  ·rw[eT,aB (.inr (by omega))];have d1:decide ((m:Int)≤prog)=true:=by simpa using h1
   have d2:decide (prog≥(m:Int))=true:=d1;clear hP eT h0 h1;obtain⟨dG,bG,bD,bH,gZ,gC,cP,kb,bI,dC,ik,il,f_,gf,bJ⟩:=k;try dsimp only at*
   simp only[bB,nI,za]at hS⊢;have aD:(ae c).length=24:=rfl;have HE:=aa hE;have HS:=aa hS;clear hS hE;have hB:=(HS.ar 0 rfl).drew;have f26:=hB.fM HE.len 26 rfl HE.out.pv;have f27:=hB.fM HE.len 27 rfl HE.out.prog;rw[Vl.out]at f26;have fl:=hB.lt;delta ba;go_in;go_wp2_with fail;refine bW [(1,[0,1,2,3,4,5,6,7,8,9,10,11,12,13,14,15,16,17,18])] (by kernel_rfl) ?_;simp only[zz];repeat(first|go_big_quiet_step(fail)|apply ax|apply af|apply ag|apply ah)
   refine aj ?_;go_wp2;go_ret;exact⟨rfl,(Fr.refl _ _).drew⟩
  ·rw[eT,aq (by omega)];have d1:decide ((m:Int)≤prog)=false:=by simpa using h1
   have d2:decide (prog≥(m:Int))=false:=d1;obtain⟨j,rfl⟩:∃j:Nat,prog=(j:Int):=⟨prog.toNat,by omega⟩;have mW:j<aO.length:=by omega
   obtain⟨xa,rfl,GD,hx,_⟩:=hP.at mW;rw[lj]at hx;have hx:=hx _ rfl;have mV:aO.getD (j:Int).toNat (.slice none 0 0)=aO[j]:=by simp[List.getD,mW]
   rw[mV];have hjm:(j:Int)<(m:Int):=by omega
   generalize aO[j]=YD at*;clear hP eT h0 h1 mV mW;obtain⟨dG,bG,bD,bH,gZ,gC,cP,kb,bI,dC,ik,il,f_,gf,bJ⟩:=k;try dsimp only at*
   simp only[bB,nI,za]at hS⊢;have aD:(ae c).length=24:=rfl;have HE:=aa hE;have HS:=aa hS;clear hS hE;have hB:=(HS.ar 0 rfl).drew;have f26:=hB.fM HE.len 26 rfl HE.out.pv;have f27:=hB.fM HE.len 27 rfl HE.out.prog;rw[Vl.out]at f26;have fl:=hB.lt;delta ba;go_in;go_wp2_with fail;refine bW [(1,[0,1,2,3,4,5,6,7,8,9,10,11,12,13,14,15,16,17,18])] (by kernel_rfl) ?_;simp only[zz];repeat(first|go_big_quiet_step(fail)|apply ax|apply af|apply ag|apply ah)
   refine aj ?_;go_wp2_with fail;clear hB f26 f27 fl;have hB:=(HS.ar 0 rfl).drew.drew;have f26:=hB.fM HE.len 26 rfl HE.out.pv;have f27:=hB.fM HE.len 27 rfl HE.out.prog;rw[Vl.out]at f26;have fl:=hB.lt;have Td:w.drew.drew.cell? (xa.add j)=some YD:=hx;refine bW [(1,[0,1,2,3,4,5,6,7,8,9,10,11])] (by kernel_rfl) ?_;simp only[zz];repeat(first|go_big_quiet_step(fail)|apply ax|apply af|apply ag|apply ah)
   refine aj ?_;go_wp2;go_ret;exact⟨rfl,(Fr.refl _ _).drew.drew⟩
def PU.mA {ai:List (List In)}(h:PU ai)(k:Int):sJ (K.bU ai k):=by
 unfold K.bU;split
 ·exact .inl rfl
 ·by_cases hl:k.toNat<ai.length
  ·rw[show ai.getD k.toNat []=ai[k.toNat] by simp[List.getD,hl]];exact .inr (h _ (cJ hl))
  ·exact .inl (by simp[List.getD,lg (show ai.length≤k.toNat by omega)])
structure oY (prog:Int)(args:List Int)(ai:List (List In)):Prop where
 len:args.length=4
 au:∀r∈args,W.U_ r
 pu:PU ai
def zq32:(∀{w0 w:World}{R:List a_}{c:Y.cA}{H:List Value}{aw tag:Int}{b:Nat}{pv wv bv:Value}{prog:Int}{args:List Int}{w1 seq:Int}{eb vb pb sb:Nat}{cv:Value}(hE:KH (ae c) aw tag pv prog args H){k:K.St}{x:X.St}(hs:x.s=1)(hS:Sep w0 w (bB H b wv bv k::aQ c w1 seq eb vb pb sb cv args x::R)),bR 114 #[O b,O eb] w w0 (bB H b wv bv (K.end_ x.rc x.rv true k)::aQ c w1 seq eb vb pb sb cv args x::R))∧(∀{w0 w:World}{R:List a_}{c:Y.cA}{H:List Value}{b:Nat}{wv bv:Value}{args:List Int}{w1 seq:Int}{eb vb pb sb:Nat}{cv:Value}{k:K.St}{x:X.St}(JH:¬x.s=1)(El:¬x.s=2)(hS:Sep w0 w (bB H b wv bv k::aQ c w1 seq eb vb pb sb cv args x::R)),bR 114 #[O b,O eb] w w0 (bB H b wv bv k::aQ c w1 seq eb vb pb sb cv args x::R)):=by
 refine⟨?_,?_⟩;focus
  intro w0 w R c H aw tag b pv wv bv prog args w1 seq eb vb pb sb cv hE k x hs hS
 rotate_left;focus
  intro w0 w R c H b wv bv args w1 seq eb vb pb sb cv k x JH El hS
 all_goals have Cn:=aa (λw' RR hS=>lF (w0:=w0) (w:=w') (R:=RR) (c:=c) (aw:=w1) (seq:=seq) (b:=eb) (vb:=vb) (pb:=pb) (sb:=sb) (cv:=cv) (args:=args) (x:=x) hS)
 rotate_left;focus
  have Zp:=aa (λw' RR hS=>xV (w0:=w0) (w:=w') (R:=RR) (c:=c) (aw:=w1) (seq:=seq) (b:=eb) (vb:=vb) (pb:=pb) (sb:=sb) (cv:=cv) (args:=args) (x:=x) hS);have Er:=aa (λw' RR rc rv al hS=>sN (w0:=w0) (w:=w') (R:=RR) (b:=b) (wv:=wv) (bv:=bv) hE (k:=k) rc rv al hS);rw[hs]at Cn
 rotate_left;focus
  have e1:(x.s==1)=false:=by simpa using JH
  have e2:(x.s==2)=false:=by simpa using El
 all_goals generalize aQ c w1 seq eb vb pb sb cv args x=TX at*;generalize bB H b wv bv k=KB at*
 rotate_left;focus
  generalize tm:x.rc=rc at*;generalize Ir:x.rv=rv at*;generalize p4:bB H b wv bv (K.end_ rc rv true k)=KB2;have HS:=aa hS;have Ik:∀z∈ [I rc,U rv],z.oneCell'=true:=by simp[Value.oneCell']
  have ZR:Hid (∀w' RR,Sep w0 w' (KB::RR)→bR 107 #[O b,.agg #[I rc,U rv],.bool true] w' w0 (KB2::RR)):=aa (by rw[←p4];exact λw' RR h=>Er.out w' RR rc rv true h);clear hS hs tm Ir hE Er p4
 rotate_left;focus
  generalize x.s=xs at*;have HS:=aa hS;clear JH El hS
 all_goals delta bR;go_in;go_wp2_with fail;refine(Cn.out _ _ (HS.pull 1 rfl)).kq HS λw2 HS=>?_
 rotate_left;focus
  go_wp2_with fail;refine(Zp.out _ _ (HS.pull 1 rfl)).mono ?_;rintro r w3 ⟨nv,rfl,h1⟩;have HS:=aa (h1.tail.pull 1 rfl);have jZ:=aa (HS.new 48 [I 0,U 0]);clear h1;go_wp2_with(refine aC jZ.out 0 rfl [I rc,U rv] 48 _ _ rfl rfl rfl rfl rfl (by kernel_rfl) Ik (λwA hA _=>?_);simp only[aL]at hA;have de:=aa hA;have o0:=(hA.ar 0 rfl).cell 0;have o1:=(hA.ar 0 rfl).cell 1;have ol:=(hA.ar 0 rfl).lt;simp only[zg]at o0 o1;clear hA);refine(ZR.out _ _ de.tail).kh λw4 HS=>?_;go_wp2;go_end0
 rotate_left;focus
  go_wp2;go_end0
 rotate_left;all_goals
  exact⟨rfl,HS.out⟩
def IG:=@zq32.1
def FM:=@zq32.2
def Ct {w0 w:World}{R:List a_}{c:Y.cA}{H:List Value}{aw tag:Int}{b:Nat}{pv wv bv:Value}{prog:Int}{args:List Int}{w1 seq:Int}{eb vb pb sb:Nat}{cv:Value}(hE:KH (ae c) aw tag pv prog args H){k:K.St}{x:X.St}(k9:0≤k.cZ∧k.cZ≤1000000)(hS:Sep w0 w (bB H b wv bv k::aQ c w1 seq eb vb pb sb cv args x::R)):
 bR 114 #[O b,O eb] w w0 (bB H b wv bv (K.read x k)::aQ c w1 seq eb vb pb sb cv args x::R):=by
 unfold K.read;by_cases h1:x.s=1
 ·rw[aB h1];exact IG hE h1 hS
 ·rw[aq h1];by_cases h2:x.s=2
  ·rw[aB h2];have h:=FL (w1:=w1) hE h2 k9 hS;by_cases h3:k.cZ+1=2∧k.asked=false
   ·rw[aB h3]at h⊢;exact h
   ·rw[aq h3]at h⊢;exact h
  ·rw[aq h2];exact FM h1 h2 hS
def Q5 {c:Y.cA}(aE:Y.Ok c)(args:List Int){code:List In}(hp:sJ code):XG c code (X.new c code args K.nV P.fw ⟨0,[],[]⟩):=by
 have h1:=aE.b1;have h3:=bK aE;exact XG.new hp args (by simp) (by simp[W.ou]) (.inr ⟨.inl rfl,rfl⟩) ap3 ⟨by decide,by show(0:Int)≤c.b;omega⟩ ⟨by decide,by show(0:Int)≤b_ c;omega⟩
def FN {w0 w:World}{R:List a_}{c:Y.cA}(aE:Y.Ok c){H:List Value}{aw tag:Int}{b:Nat}{pv wv bv:Value}{prog:Int}{args:List Int}{aO:List Value}{ai:List (List In)}(hm:oY prog args ai)(hE:KH (ae c) aw tag pv prog args H)(hP:∀w',Sep w0 w' R→cL w' pv aO ai){k:K.St}(k9:0≤k.cZ∧k.cZ≤1000000)(hS:Sep w0 w (bB H b wv bv k::R)):
 Calls Tryz.prog 110 #[O b] w λr w'=>r=E∧∃eb vb pb sb,Sep w0 w' (bB H b (.iface 205 (O eb)) bv (K.run c ai ⟨aw,tag,⟨prog,args⟩⟩ k)::aQ c aw k.ns eb vb pb sb (dh aO prog) args (K.NM c ai ⟨aw,tag,⟨prog,args⟩⟩)::R):=by
 obtain⟨ca,cc,eT⟩:=((hP _ hS.tail).mA prog).1.len;obtain⟨n,hn⟩:∃n,n=(K.bU ai prog).length:=⟨_,rfl⟩;rw[←hn]at eT;have xX:=Q5 aE args (hm.pu.mA prog);have Tb:Hid (∀w',Sep w0 w' R→dJ w' (.slice ca n cc) (K.bU ai prog)):=aa (λw' h=>eT▸(hP w' h).mA prog);have wg:=aa (λw' (hR:Sep w0 w' R) hS=>qH (w0:=w0) (w:=w') (R:=R) (b:=b) (wv:=wv) (bv:=bv) (aO:=aO) (ai:=ai) hE (k:=k) (hP w' hR) hS);have Vk:=aa (λw' (R':List a_) vb pb sb hC hS=>Fm (w0:=w0) (w:=w') (R:=R') aE (aw:=aw) (seq:=k.ns) (vb:=vb) (pb:=pb) (sb:=sb) ca n cc hn hm.len (hm.pu.mA prog) hC (v:=K.nV) (p:=P.fw) (s:=⟨0,[],[]⟩) (by simp) (.inr ⟨.inl rfl,rfl⟩) xX hS);have hlen:=hm.len;have qZ:K.run c ai ⟨aw,tag,⟨prog,args⟩⟩ k=K.read (K.NM c ai ⟨aw,tag,⟨prog,args⟩⟩) {k with work:= .ex (K.bU ai prog) (K.NM c ai ⟨aw,tag,⟨prog,args⟩⟩),next:=8}:=rfl;have hex:X.new c (K.bU ai prog) args K.nV P.fw ⟨0,[],[]⟩=K.NM c ai ⟨aw,tag,⟨prog,args⟩⟩:=rfl;rw[hex]at Vk;generalize K.NM c ai ⟨aw,tag,⟨prog,args⟩⟩=x0 at*;have nX:=aa (λw' (R':List a_) g_ eb vb pb sb (hS:Sep w0 w' (bB H b g_ bv {k with work:= .ex (K.bU ai prog) x0,next:=8}::aQ c aw k.ns eb vb pb sb (.slice ca n cc) args x0::R'))=>Ct hE (k:={k with work:= .ex (K.bU ai prog) x0,next:=8}) k9 hS);rw[←qZ]at nX;generalize K.run c ai ⟨aw,tag,⟨prog,args⟩⟩ k=T at*;rw[eT]at wg⊢;generalize K.bU ai prog=code at*;have ZE:=aa (λw=>E3 w (ae c) rfl aw k.ns);have DE:=aa (λw=>EZ w c k.ns);have Ic:Hid (∀w,Calls Tryz.prog 136 #[I 0] w λe w'=>∃b,e= .returned (O b)∧eZ w w' (cw b ⟨0,[],[]⟩)):=aa (λw=>EU w 0);clear hP eT hn xX hm k9 qZ hex;have Pj:=aa (ZO (w:=w) (b:=b) (T:=168) hlen hE (hS.ar 0 rfl));obtain⟨dG,bG,bD,bH,gZ,gC,cP,kb,bI,dC,ik,il,f_,gf,bJ⟩:=k;try dsimp only at*
 simp only[bB,nI,za]at hS wg nX;have aD:(ae c).length=24:=rfl;have HE:=aa hE;have HS:=aa hS;clear hS hE;obtain⟨a0,a1,a2,a3,rfl⟩:∃a0 a1 a2 a3,args=[a0,a1,a2,a3]:=by
  match args,hlen with
  |[a0,a1,a2,a3],_=>exact⟨a0,a1,a2,a3,rfl⟩
 have gO:bC [a0,a1,a2,a3]=[U a0,U a1,U a2,U a3]:=rfl;rw[gO]at Vk Pj;clear gO hlen;obtain⟨VT,ZF⟩:∃VT:Nat→a_,VT=λvb=>aJ vb 258 (Vw.eU (ae c) aw gC K.nV):=⟨_,rfl⟩;have ZE:Hid (∀w,Calls Tryz.prog 134 #[Value.agg (ae c).toArray,I aw,U gC] w λe w'=>∃b,e= .returned (O b)∧Sep w w' [VT b]):=aa (by rw[ZF];exact ZE.out);have Vk:Hid (∀(w':World) (R':List a_) vb pb sb,(∀qe,Sep w0 qe R'→dJ qe (.slice ca n cc) code)→Sep w0 w' (VT vb::bE c gC pb P.fw::cw sb ⟨0,[],[]⟩::R')→Calls Tryz.prog 133 #[Value.agg (ae c).toArray,.slice ca n cc,.agg [U a0,U a1,U a2,U a3].toArray,O vb,O pb,O sb] w' λr w2=>∃b,r= .returned (O b)∧Sep w0 w2 (aQ c aw gC b vb pb sb (.slice ca n cc) [a0,a1,a2,a3] x0::R')):=aa (by rw[ZF];exact λw' R' vb pb sb h1 h2=>Vk.out w' R' vb pb sb h1 h2);clear ZF;unfold aY at*;generalize ae c=cs at*;have hB:=(HS.ar 0 rfl).drew;have Xk:w.drew.rangeAt b 28 [U a0,U a1,U a2,U a3]:=Pj.out;have f24:=hB.fM HE.len 24 rfl HE.out.aw;obtain⟨f37,yE⟩:=hB.fe HE.len 37 rfl rfl;have fl:=hB.lt;go_in;go_wp2_with fail;refine bW [(1,[0,1,2,3,4,6,7,8,9,10,11,12,13,14,15,16,17,18,19,20,21,22,23,25,26,27,28,29,30,31,32,33]),(2,[5]),(2,[24]),(2,[34]),(2,[35]),(3,[36]),(0,[37])] (by kernel_rfl) ?_;simp only[zz];refine af ?_;repeat(first|(refine ak 58 _ b 0 cs _ rfl rfl rfl (aG (lT aD HE.out hB) (by simp)) underlying58 rfl (by rw[aD];kernel_rfl) ?_;simp only[Act.put,aZ,aL,aN])|(refine ak 36 _ b 28 [U a0,U a1,U a2,U a3] _ rfl rfl rfl (aG Xk (by simp)) underlying36 rfl (by kernel_rfl) ?_;simp only[Act.put,aZ,aL,aN])|go_big_quiet_step (fail)|quiet_step (fail))
 refine ax ?_;refine aA ?_;go_wp2_with fail;refine(wg.out _ HS.drew.tail HS.drew).kf HS.dr λw2 lU HS=>?_;go_wp2;refine⟨⟨⟨_,(by exact lU.out)⟩,rfl⟩,?_⟩;refine aA ?_;go_wp2_with fail;refine(ZE.out _).mono ?_;rintro r w3 ⟨vb,rfl,h1⟩;have BP:=aa h1.fr;have HS:=aa (HS.fresh h1.jm);clear h1;go_wp2;refine⟨⟨⟨_,(by exact lU.trans BP.out)⟩,rfl⟩,?_⟩;refine aA ?_;go_wp2_with fail;refine(DE.out _).mono ?_;rintro r w4 ⟨pb,rfl,h1⟩;have Xl:=aa h1.fr;have HS:=aa (HS.fresh h1.jm);clear h1;go_wp2;refine⟨⟨⟨_,(by exact(lU.trans BP.out).trans Xl.out)⟩,rfl⟩,?_⟩;refine aA ?_;go_wp2_with fail;refine(Ic.out _).mono ?_;rintro r w5 ⟨sb,rfl,h1⟩;have Cq:=aa h1.fr;have HS:=aa (HS.fresh h1);clear h1;go_wp2;refine⟨⟨⟨_,(by exact((lU.trans BP.out).trans Xl.out).trans Cq.out)⟩,rfl⟩,?_⟩;refine ao ?_;go_wp2_with fail;refine(Vk.out _ _ vb pb sb (λw' h=>Tb.out w' h.tail) ((HS.pull 1 rfl).pull 2 rfl)).mono ?_;rintro r w6 ⟨eb,rfl,h1⟩;have HS:=aa (h1.pull 1 rfl);clear h1 hB Xk f24 f37 fl lU BP Xl Cq;simp only[ze]at HS;go_wp2_with fail;repeat(first|go_big_quiet_step(fail)|quiet_step(fail)|apply ax|apply af|apply ag|apply ah)
 refine aj ?_;obtain⟨f38,qG⟩:=(HS.ar 0 rfl).fe HE.len 38 rfl rfl;obtain⟨f32,gB⟩:=(HS.ar 0 rfl).fe HE.len 32 rfl rfl;have fl:=(HS.ar 0 rfl).lt;have h5:=HS.set 0 rfl 38 (.iface 205 (O eb));simp only[aL,cR HE.len _ 38 _ (by omega),Nat.reduceSub,aN]at h5;have HS:=aa h5;clear h5;have h5:=HS.set 0 rfl 32 (I 8);simp only[aL,cR HE.len _ 32 _ (by omega),Nat.reduceSub,aN]at h5;have HS:=aa h5;clear h5;go_wp2_with fail;refine(nX.out _ _ _ eb vb pb sb HS.out).kh λw7 HS=>?_;go_wp2;go_end0;exact⟨rfl,eb,vb,pb,sb,HS.out⟩
structure WQ where
 seq:Int
 b1:Nat
 b2:Nat
 b3:Nat
 b4:Nat
 v:Value
def fR (n:Int):Prop:=n=4∨n=8∨n=9∨n=10∨n=12
def cQ (c:Y.cA)(aw:Int)(pv:Value)(aO:List Value)(cv:Value)(args:List Int)(k:K.St)(wv:Value):a_:=
 match k.work with
 | .no=>NK
 | .ex _ x=>EG λq:WQ=>ie (wv= .iface 205 (O q.b1)∧(fR k.next→q.seq=k.ns)) (aQ c aw q.seq q.b1 q.b2 q.b3 q.b4 cv args x)
 | .bu y=>EG λq:WQ=>ie (wv= .iface 166 (O q.b1)∧(fR k.next→q.seq=k.ns)) (df c aw q.seq q.b1 pv aO y)
 | .he o s h=>EG λq:WQ=>ie (wv= .iface 199 (O q.b1)) (eu c aw o s q.b1 h)
 | .sc s l d=>EG λq:WQ=>ie (wv= .iface 209 (O q.b1)) (cM [aJ q.b1 242 (Sc.tJ (ae c) aw s q.v d),aU 0 234 2 q.v l.length (flat Sc.iS l)])
def Al {w0 w R c aw pv aO cv args k code x eb vb pb sb}(hk:k.work= .ex code x)(h:Sep w0 w (aQ c aw k.ns eb vb pb sb cv args x::R)):Sep w0 w (cQ c aw pv aO cv args k (.iface 205 (O eb))::R):=by
 unfold cQ;rw[hk];exact Sep.qX (A:=WQ) _ (a:=⟨k.ns,eb,vb,pb,sb,.pointer none⟩) (Sep.iK h ⟨rfl,λ_=>rfl⟩)
def Q6 {w0 w R c aw pv aO cv args k y bb}(hk:k.work= .bu y)(h:Sep w0 w (df c aw k.ns bb pv aO y::R)):Sep w0 w (cQ c aw pv aO cv args k (.iface 166 (O bb))::R):=by
 unfold cQ;rw[hk];exact Sep.qX (A:=WQ) _ (a:=⟨k.ns,bb,0,0,0,.pointer none⟩) (Sep.iK h ⟨rfl,λ_=>rfl⟩)
def xf (c ai m k):(K.run c ai m k).work= .ex (K.code ai m) (K.NM c ai m)∧(K.run c ai m k).ns=k.ns∧(K.run c ai m k).b=k.b:=by
 unfold K.run K.read K.end_
 repeat' split
 all_goals exact⟨rfl,rfl,rfl⟩
def IH (c w):(Instr.field 31 (db c) 5).run Tryz.prog w= .ok (U c.la) w:=
 dW w _ _ _ _ _ _ _ underlying31 rfl underlying26 rfl rfl
def zq33:(∀{w0 w R c}(aE:Y.Ok c){H aw tag b pv wv bv prog args}(hE:KH (ae c) aw tag pv prog args H){k}(k7:W.U_ k.nv)(hS:Sep w0 w (bB H b wv bv k::R)),ba 80 #[O b] w (I (K.owner c k)))∧(∀{w0 w R c}(aE:Y.Ok c){H aw tag b pv wv bv prog args aO ai}(hP:∀w',Sep w0 w' R→cL w' pv aO ai)(hE:KH (ae c) aw tag pv prog args H){k}(val)(hn:k.next=5)(Xq:¬val=tag)(lV:¬c.la≤k.ns)(hS:Sep w0 w (bB H b wv bv k::R)),Calls Tryz.prog 86 #[O b,U val] w λr w'=>r=E∧∃g_,Sep w0 w' (bB H b g_ bv {k with work:= .bu (B.fw c),next:=9}::cQ c aw pv aO (dh aO prog) args {k with work:= .bu (B.fw c),next:=9} g_::R))∧(∀{w0 w:World}{R:List a_}{c:Y.cA}(aE:Y.Ok c){H:List Value}{aw tag:Int}{b:Nat}{pv wv bv:Value}{prog:Int}{args:List Int}{aO:List Value}{ai:List (List In)}(hm:oY prog args ai)(hP:∀w',Sep w0 w' R→cL w' pv aO ai)(hE:KH (ae c) aw tag pv prog args H){k:K.St}(k9:0≤k.cZ∧k.cZ≤1000000)(val:Int)(hn:k.next=5)(Xq:¬val=tag)(lV:c.la≤k.ns)(jN:reads (K.bU ai prog)=true)(hS:Sep w0 w (bB H b wv bv k::R)),Calls Tryz.prog 86 #[O b,U val] w λr w'=>r=E∧∃g_,Sep w0 w' (bB H b g_ bv (K.run c ai ⟨aw,tag,⟨prog,args⟩⟩ k)::cQ c aw pv aO (dh aO prog) args (K.run c ai ⟨aw,tag,⟨prog,args⟩⟩ k) g_::R))∧(∀{w0 w:World}{R:List a_}{c:Y.cA}{H:List Value}{aw tag:Int}{b:Nat}{pv wv bv:Value}{prog:Int}{args:List Int}{aO:List Value}{ai:List (List In)}(hP:∀w',Sep w0 w' R→cL w' pv aO ai)(Zx:PU ai)(hE:KH (ae c) aw tag pv prog args H){k:K.St}(val:Int)(hn:k.next=5)(Xq:¬val=tag)(lV:c.la≤k.ns)(jN:reads (K.bU ai prog)=false)(hS:Sep w0 w (bB H b wv bv k::R)),bR 86 #[O b,U val] w w0 (bB H b wv bv (K.end_ 45 0 true k)::R)):=by
 refine⟨?_,?_,?_,?_⟩;focus
  intro w0 w R c aE H aw tag b pv wv bv prog args hE k k7 hS;have gF:=aa (λw=>bM w c);have fS:=aa (λw=>eS c w);have AU:=aE.t1;have sg:=aE.t8;have Gy:K.owner c k=k.nv%c.t:=rfl;have NL:=Int.emod_nonneg k.nv (show c.t≠0 by omega);have Kz:=uM k.nv (show 0<c.t by omega);have VA:Int.tmod k.nv c.t=k.nv%c.t:=jR k7.1;rw[Gy];generalize ZP:k.nv%c.t=q at*;clear Gy ZP;have JV:IntKind.u64.wrap c.t=c.t:=lR _ (by omega) (by omega);have UM:IntKind.i64.wrap q=q:=bf _ (by omega) (by omega);generalize Xo:c.t=t at*;clear Xo
 rotate_left;focus
  intro w0 w R c aE H aw tag b pv wv bv prog args aO ai hP hE k val hn Xq lV hS;obtain⟨pa,pc,NY⟩:=(hP _ hS.tail).row.len;have HBN:=aa (λw' (R':List a_) hS=>QW (w0:=w0) (w:=w') (R:=R') aE aw k.ns pa aO.length pc aO hS);have HW:Hid (∀w' bb,Sep w0 w' (bB H b (.iface 166 (O bb)) bv {k with work:= .bu (B.fw c),next:=9}::df c aw k.ns bb pv aO (B.fw c)::R)→Sep w0 w' (bB H b (.iface 166 (O bb)) bv {k with work:= .bu (B.fw c),next:=9}::cQ c aw pv aO (dh aO prog) args {k with work:= .bu (B.fw c),next:=9} (.iface 166 (O bb))::R)):=aa (λw' bb h9=>(Q6 (k:={k with work:= .bu (B.fw c),next:=9}) rfl (h9.pull 1 rfl)).pull 1 rfl);subst NY
 rotate_left;focus
  intro w0 w R c aE H aw tag b pv wv bv prog args aO ai hm hP hE k k9 val hn Xq lV jN hS;have yR:=xf c ai ⟨aw,tag,⟨prog,args⟩⟩ k;have z6:=aa (λw' hS=>FN (w0:=w0) (w:=w') (R:=R) (b:=b) (wv:=wv) (bv:=bv) (aO:=aO) (ai:=ai) aE hm hE hP (k:=k) k9 hS);have HW:Hid (∀w' eb vb pb sb,Sep w0 w' (bB H b (.iface 205 (O eb)) bv (K.run c ai ⟨aw,tag,⟨prog,args⟩⟩ k)::aQ c aw k.ns eb vb pb sb (dh aO prog) args (K.NM c ai ⟨aw,tag,⟨prog,args⟩⟩)::R)→Sep w0 w' (bB H b (.iface 205 (O eb)) bv (K.run c ai ⟨aw,tag,⟨prog,args⟩⟩ k)::cQ c aw pv aO (dh aO prog) args (K.run c ai ⟨aw,tag,⟨prog,args⟩⟩ k) (.iface 205 (O eb))::R)):=aa (λw' eb vb pb sb h=>(Al yR.1 (by rw[yR.2.1];exact h.pull 1 rfl)).pull 1 rfl);generalize K.run c ai ⟨aw,tag,⟨prog,args⟩⟩ k=T at*;have Zx:=hm.pu
 rotate_left;focus
  intro w0 w R c H aw tag b pv wv bv prog args aO ai hP Zx hE k val hn Xq lV jN hS;have Er:=aa (λw' hS=>sN (w0:=w0) (w:=w') (R:=R) (b:=b) (wv:=wv) (bv:=bv) hE (k:=k) 45 0 true hS);generalize K.end_ 45 0 true k=T at*;generalize bB H b wv bv T=KT at*
 rotate_left 3;iterate 2
  focus obtain⟨ca,cc,eT⟩:=((hP _ hS.tail).mA prog).1.len;have wg:=aa (λw' hP hS=>qH (w0:=w0) (w:=w') (R:=R) (b:=b) (wv:=wv) (bv:=bv) (aO:=aO) (ai:=ai) hE (k:=k) hP hS);have Cm:=aa (λw' (hR:Sep w0 w' R)=>ry w' ca (K.bU ai prog).length cc (K.bU ai prog) rfl (Zx.mA prog) (by have:=(hP w' hR).mA prog;rwa [eT]at this));rw[jN]at Cm;have HP:=aa hP
  rotate_left
 rotate_left 2;focus
  rw[eT]at wg z6 HW⊢
 rotate_left;focus
  rw[eT]at wg
 rotate_left 2;iterate 3
  focus have gF:=aa (λw=>bM w c);have fS:=aa (λw=>IH c w)
  rotate_left
 rotate_left;focus
  have dl:decide (c.la≤k.ns)=false:=by simpa using lV
  have dl2:decide (k.ns≥c.la)=false:=dl
 rotate_left;iterate 2
  focus
   have dl:decide (c.la≤k.ns)=true:=by simpa using lV
   have dl2:decide (k.ns≥c.la)=true:=dl
  rotate_left
 rotate_left;iterate 3
  focus
   have dv:(val==tag)=false:=by simpa using Xq
   clear lV Xq;generalize c.la=la at*
  rotate_left
 rotate_left;focus
  clear hP
 rotate_left;iterate 2
  focus generalize K.bU ai prog=cd at*;generalize cd.length=cn at*
  rotate_left
 rotate_left 2;focus
  clear hP eT hm yR jN k9
 rotate_left;focus
  clear hP eT jN
 all_goals
  obtain⟨dG,bG,bD,bH,gZ,gC,cP,kb,bI,dC,ik,il,f_,gf,bJ⟩:=k;try dsimp only at*
  simp only[bB,nI,za]at hS⊢;have aD:(ae c).length=24:=rfl;have HE:=aa hE;have HS:=aa hS;clear hS hE
 rotate_left 2;focus
  simp only[bB,nI,za]at HW
 rotate_left;iterate 2
  focus simp only[bB,nI,za]at wg
  rotate_left
 rotate_left;iterate 3
  focus subst hn
  rotate_left
 all_goals unfold aY at*;generalize fB:db c=cf at*;clear fB;generalize ae c=cs at*
 focus have hB:=(HS.ar 0 rfl).drew;have f36:=hB.aR HE.len 36 rfl rfl;have fl:=hB.lt;clear k7 NL Kz;delta ba;go_in;go_wp2_with fail;refine bW [(1,[0,1,2,3,4,5,6,7,8]),(2,[9]),(0,[10,11,12,13,14])] (by kernel_rfl) ?_
 rotate_left;iterate 3
  focus obtain⟨f32,gB⟩:=(HS.ar 0 rfl).fe HE.len 32 rfl rfl;have f25:=(HS.ar 0 rfl).fM HE.len 25 rfl HE.out.tag;have fl:=(HS.ar 0 rfl).lt
  rotate_left
 rotate_left;focus
  go_in
 rotate_left;focus
  go_in
 rotate_left;focus
  delta bR;go_in
 rotate_left 2;iterate 3
  focus go_wp2_with fail;clear f32 gB f25 fl;have hB:=(HS.ar 0 rfl).drew;obtain⟨f37,yE⟩:=hB.fe HE.len 37 rfl rfl;have fl:=hB.lt;refine bW [(1,[0,1,2,3,4,5,6,7,8]),(2,[9]),(0,[10,11,12,13]),(3,[14]),(3,[15]),(0,[16,17])] (by kernel_rfl) ?_
  rotate_left
 all_goals
  simp only[zz];refine af ?_;repeat(first|(refine ak 58 _ b 0 cs _ rfl rfl rfl (aG (lT aD HE.out hB) (by simp)) underlying58 rfl (by rw[aD];kernel_rfl) ?_;simp only[Act.put,aZ,aL,aN])|go_big_quiet_step (fail)|quiet_step (fail))
  refine ax ?_;refine aA ?_;go_wp2_with fail
 focus refine(gF.out _).kh λw2 HF=>?_
 rotate_left;iterate 3
  focus refine(gF.out _).kf HS.dr λw2 HF HS=>?_
  rotate_left
 all_goals go_wp2;refine⟨⟨⟨_,(by exact HF.out)⟩,rfl⟩,?_⟩
 focus
  have kB:=λw=>(fS.out w).1;refine ag ?_;repeat go_big_quiet_step(fail)
  refine ax ?_;refine aj ?_;go_wp2;go_ret
 rotate_left;iterate 3
  focus have kB:=λw=>fS.out w;refine ag ?_
  rotate_left
 rotate_left;focus
  repeat go_big_quiet_step(fail)
 rotate_left;iterate 2
  focus repeat(first|go_big_quiet_step (fail)|quiet_step (fail))
  rotate_left
 rotate_left;iterate 3
  focus refine ax ?_;clear hB f37 yE fl HF;refine ao ?_
  rotate_left
 rotate_left;focus
  go_wp2;refine ao ?_;go_wp2_with fail;repeat(first|go_big_quiet_step(fail)|apply ax|apply af|apply ag|apply ah)
  refine aj ?_;clear kB;go_wp2_with fail;have hB:=(HS.ar 0 rfl).drew;obtain⟨f37,yE⟩:=hB.fe HE.len 37 rfl rfl;have fl:=hB.lt;refine bW [(1,[0,1,2,3,4,5,6,7,8]),(2,[9]),(0,[10,11,12])] (by kernel_rfl) ?_;simp only[zz];refine af ?_;repeat(first|(refine ak 58 _ b 0 cs _ rfl rfl rfl (aG (lT aD HE.out hB) (by simp)) underlying58 rfl (by rw[aD];kernel_rfl) ?_;simp only[Act.put,aZ,aL,aN])|go_big_quiet_step (fail)|quiet_step (fail))
  refine ax ?_;refine aA ?_;go_wp2_with fail;refine(gF.out _).kf HS.dr λw3 HF HS=>?_;go_wp2;refine⟨⟨⟨_,(by exact HF.out)⟩,rfl⟩,?_⟩;have kB:=λw=>fS.out w;refine ag ?_;repeat go_big_quiet_step(fail)
  refine ax ?_;clear hB f37 yE fl HF kB;refine aj ?_;go_wp2_with fail;have hB:=(HS.ar 0 rfl).drew;obtain⟨f37,yE⟩:=hB.fe HE.len 37 rfl rfl;have f24:=hB.fM HE.len 24 rfl HE.out.aw;have f26:=hB.fM HE.len 26 rfl HE.out.pv;have fl:=hB.lt;refine bW [(1,[2,3,4,5,6,7,8,9,10,11,12,13,14,15,16,17,18]),(0,[0,1]),(3,[19]),(3,[20]),(0,[21,22]),(3,[23]),(0,[24,25]),(3,[26])] (by kernel_rfl) ?_;simp only[zz];refine af ?_;repeat(first|(refine ak 58 _ b 0 cs _ rfl rfl rfl (aG (lT aD HE.out hB) (by simp)) underlying58 rfl (by rw[aD];kernel_rfl) ?_;simp only[Act.put,aZ,aL,aN])|go_big_quiet_step (fail)|quiet_step (fail))
  refine ax ?_;repeat(first|go_big_quiet_step(fail)|apply ax|apply af|apply ag|apply ah)
  refine ao ?_;go_wp2_with fail;refine(HBN.out _ _ HS.drew).mono ?_;rintro r w4 ⟨bb,rfl,h1⟩;have HS:=aa (h1.pull 1 rfl);clear h1 hB f37 yE f24 f26 fl;simp only[ze]at HS;go_wp2;refine ao ?_;go_wp2_with fail;repeat(first|go_big_quiet_step(fail)|apply ax|apply af|apply ag|apply ah)
  obtain⟨f38,qG⟩:=(HS.ar 0 rfl).fe HE.len 38 rfl rfl;obtain⟨f32,gB⟩:=(HS.ar 0 rfl).fe HE.len 32 rfl rfl;have fl:=(HS.ar 0 rfl).lt;have h5:=HS.set 0 rfl 38 (.iface 166 (O bb));simp only[aL,cR HE.len _ 38 _ (by omega),Nat.reduceSub,aN]at h5;have HS:=aa h5;clear h5;have h5:=HS.set 0 rfl 32 (I 9);simp only[aL,cR HE.len _ 32 _ (by omega),Nat.reduceSub,aN]at h5;have HS:=aa h5;clear h5;refine ao ?_;go_wp2_with fail;repeat(first|go_big_quiet_step(fail)|apply ax|apply af|apply ag|apply ah)
  refine ao ?_;go_wp2;refine aj ?_;go_wp2;go_end0
 rotate_left;iterate 2
  focus
   go_wp2_with fail;refine(wg.out _ (HP.out _ HS.tail) HS.out).kq HS λw3 HS=>?_;go_wp2;refine ao ?_;go_wp2_with fail;refine(Cm.out _ HS.tail).kq HS λw4 HS=>?_;go_wp2_with fail;repeat(first|go_big_quiet_step(fail)|quiet_step(fail)|apply ax|apply af|apply ag|apply ah)
   refine aj ?_;clear kB;go_wp2_with fail
  rotate_left
 rotate_left 2;focus
  refine(z6.out _ HS.out).mono ?_;rintro r w5 ⟨rfl,eb,vb,pb,sb,h1⟩;have HS:=aa (HW.out _ _ _ _ _ h1);clear h1;go_wp2;go_end0
 rotate_left;focus
  have hB:=(HS.ar 0 rfl).drew;obtain⟨f37,yE⟩:=hB.fe HE.len 37 rfl rfl;have fl:=hB.lt;refine bW [(1,[0,1,2,3,4,5,6,7,8]),(2,[9]),(0,[10,11,12])] (by kernel_rfl) ?_;simp only[zz];refine af ?_;repeat(first|(refine ak 58 _ b 0 cs _ rfl rfl rfl (aG (lT aD HE.out hB) (by simp)) underlying58 rfl (by rw[aD];kernel_rfl) ?_;simp only[Act.put,aZ,aL,aN])|go_big_quiet_step (fail)|quiet_step (fail))
  refine ax ?_;refine aA ?_;go_wp2_with fail;refine(gF.out _).kf HS.dr λw3 HF HS=>?_;go_wp2;refine⟨⟨⟨_,(by exact HF.out)⟩,rfl⟩,?_⟩;have kB:=λw=>fS.out w;refine ag ?_;repeat(first|go_big_quiet_step (fail)|quiet_step (fail))
  refine ax ?_;clear hB f37 yE fl HF kB;refine aj ?_;go_wp2_with fail;refine(Er.out _ HS.out).kh λw5 HS=>?_;go_wp2;go_end0
 rotate_left
 ·exact⟨rfl,HF.out.CW⟩
 ·exact⟨rfl,_,HW.out _ bb HS.out⟩
 ·exact⟨rfl,_,HS.out⟩
 ·exact⟨rfl,HS.out⟩
def Ak:=@zq33.1
def Bu:=@zq33.2.1
def FU:=@zq33.2.2.1
def DI:=@zq33.2.2.2
def FK {w0 w:World}{R:List a_}{c:Y.cA}{H:List Value}{aw tag:Int}{b:Nat}{pv wv bv:Value}{prog:Int}{args:List Int}{aO:List Value}{ai:List (List In)}(hE:KH (ae c) aw tag pv prog args H)(hP:∀w',Sep w0 w' R→cL w' pv aO ai)(Zx:PU ai){k:K.St}(hS:Sep w0 w (bB H b wv bv k::R)):
 bR 84 #[O b] w w0 (bB H b wv bv (K.looked ai ⟨aw,tag,⟨prog,args⟩⟩ k)::R):=by
 have wg:=aa (λw' (k':K.St) hP hS=>qH (w0:=w0) (w:=w') (R:=R) (b:=b) (wv:=wv) (bv:=bv) (aO:=aO) (ai:=ai) hE (k:=k') hP hS);have Er:=aa (λw' (k':K.St) rc rv al hS=>sN (w0:=w0) (w:=w') (R:=R) (b:=b) (wv:=wv) (bv:=bv) hE (k:=k') rc rv al hS);obtain⟨ca,cc,eT⟩:=((hP _ hS.tail).mA prog).1.len;have Cm:=aa (λw' (hR:Sep w0 w' R)=>lp w' ca (K.bU ai prog).length cc (K.bU ai prog) rfl (Zx.mA prog) (by have:=(hP w' hR).mA prog;rwa [eT]at this));rw[eT]at wg;unfold K.looked K.code;dsimp only;generalize right (K.bU ai prog)=rt at*;generalize(K.bU ai prog).length=cn at*;have HP:=aa hP;clear hP eT;cases rt with
 |true=>
  rw[aB rfl];obtain⟨dG,bG,bD,bH,gZ,gC,cP,kb,bI,dC,ik,il,f_,gf,bJ⟩:=k;try dsimp only at*
  simp only[bB,nI,za]at hS⊢;have aD:(ae c).length=24:=rfl;have HE:=aa hE;have HS:=aa hS;clear hS hE;obtain⟨f32,gB⟩:=(HS.ar 0 rfl).fe HE.len 32 rfl rfl;have fl:=(HS.ar 0 rfl).lt;have h5:=HS.set 0 rfl 32 (I 3);simp only[aL,cR HE.len _ 32 _ (by omega),Nat.reduceSub,aN]at h5;have HS:=aa h5;clear h5;delta bR;go_in;go_wp2_with fail;refine(wg.out _ ⟨3,bG,bD,bH,gZ,gC,cP,kb,bI,dC,ik,il,f_,gf,bJ⟩ (HP.out _ HS.tail) HS.out).kq HS λw2 HS=>?_;clear f32 gB fl;go_wp2_with fail;refine(Cm.out _ HS.tail).kq HS λw3 HS=>?_;go_wp2;go_end0;exact⟨rfl,HS.out⟩
 |false=>
  rw[aq (by decide)];obtain⟨dG,bG,bD,bH,gZ,gC,cP,kb,bI,dC,ik,il,f_,gf,bJ⟩:=k;try dsimp only at*
  simp only[bB,nI,za]at hS⊢;have aD:(ae c).length=24:=rfl;have HE:=aa hE;have HS:=aa hS;clear hS hE;obtain⟨f32,gB⟩:=(HS.ar 0 rfl).fe HE.len 32 rfl rfl;have fl:=(HS.ar 0 rfl).lt;have h5:=HS.set 0 rfl 32 (I 3);simp only[aL,cR HE.len _ 32 _ (by omega),Nat.reduceSub,aN]at h5;have HS:=aa h5;clear h5;delta bR;go_in;go_wp2_with fail;refine(wg.out _ ⟨3,bG,bD,bH,gZ,gC,cP,kb,bI,dC,ik,il,f_,gf,bJ⟩ (HP.out _ HS.tail) HS.out).kq HS λw2 HS=>?_;clear f32 gB fl;go_wp2_with fail;refine(Cm.out _ HS.tail).kq HS λw3 HS=>?_;go_wp2_with fail;refine(Er.out _ ⟨3,bG,bD,bH,gZ,gC,cP,kb,bI,dC,ik,il,f_,gf,bJ⟩ 30 0 true HS.out).kh λw4 HS=>?_;go_wp2;go_end0;exact⟨rfl,HS.out⟩
def mR {w0 w R c aw pv aO cv args k k2 wv}(hw:k2.work=k.work)(hm:fR k2.next→fR k.next∧k2.ns=k.ns)(h:Sep w0 w (cQ c aw pv aO cv args k wv::R)):Sep w0 w (cQ c aw pv aO cv args k2 wv::R):=by
 unfold cQ at h⊢;rw[hw];cases hk:k.work with
 |no=>rw[hk]at h;exact h
 |ex cd x=>
  rw[hk]at h;obtain⟨q,h1⟩:=h.rZ;obtain⟨h2,h3⟩:=h1.jn;exact Sep.qX (A:=WQ) _ (a:=q) (Sep.iK h3 ⟨h2.1,λe=>by rw[(hm e).2];exact h2.2 (hm e).1⟩)
 |bu y=>
  rw[hk]at h;obtain⟨q,h1⟩:=h.rZ;obtain⟨h2,h3⟩:=h1.jn;exact Sep.qX (A:=WQ) _ (a:=q) (Sep.iK h3 ⟨h2.1,λe=>by rw[(hm e).2];exact h2.2 (hm e).1⟩)
 |he o s h0=>rw[hk]at h;exact h
 |sc s l d=>rw[hk]at h;exact h
def sO {w0 w R c aw pv aO cv args k o s h0 hb}(hk:k.work= .he o s h0)(h:Sep w0 w (eu c aw o s hb h0::R)):Sep w0 w (cQ c aw pv aO cv args k (.iface 199 (O hb))::R):=by
 unfold cQ;rw[hk];exact Sep.qX (A:=WQ) _ (a:=⟨0,hb,0,0,0,.pointer none⟩) (Sep.iK h rfl)
def Am {w0 w R c aw pv aO cv args k s l d sb v}(hk:k.work= .sc s l d)(h:Sep w0 w (aJ sb 242 (Sc.tJ (ae c) aw s v d)::aU 0 234 2 v l.length (flat Sc.iS l)::R)):Sep w0 w (cQ c aw pv aO cv args k (.iface 209 (O sb))::R):=by
 unfold cQ;rw[hk];exact Sep.qX (A:=WQ) _ (a:=⟨0,sb,0,0,0,v⟩) (Sep.iK (Sep.toList (Ts:=[_,_]) h) rfl)
def FO {w0 w R c}(aE:Y.Ok c){H aw tag b pv wv bv prog args aO ai}(hm:oY prog args ai)(hE:KH (ae c) aw tag pv prog args H)(hP:∀w',Sep w0 w' R→cL w' pv aO ai){k}(k9:0≤k.cZ∧k.cZ≤1000000)(hS:Sep w0 w (bB H b wv bv k::cQ c aw pv aO (dh aO prog) args k wv::R)):
 Calls Tryz.prog 109 #[O b] w λr w'=>r=E∧∃g_,Sep w0 w' (bB H b g_ bv (K.qu c ai ⟨aw,tag,⟨prog,args⟩⟩ k)::cQ c aw pv aO (dh aO prog) args (K.qu c ai ⟨aw,tag,⟨prog,args⟩⟩ k) g_::R):=by
 unfold K.qu;by_cases ha:k.asked=true
 ·rw[aB ha];have HW:Hid (∀w',Sep w0 w' (bB H b wv bv {k with next:=5}::cQ c aw pv aO (dh aO prog) args k wv::R)→Sep w0 w' (bB H b wv bv {k with next:=5}::cQ c aw pv aO (dh aO prog) args {k with next:=5} wv::R)):=aa (λw' h=>(mR (k:=k) (k2:={k with next:=5}) rfl (λe=>by unfold fR at e;dsimp only at e;omega) (h.pull 1 rfl)).pull 1 rfl);generalize cQ c aw pv aO (dh aO prog) args k wv=W at*;generalize cQ c aw pv aO (dh aO prog) args {k with next:=5}=W2 at*;clear hP k9 hm;obtain⟨dG,bG,bD,bH,gZ,gC,cP,kb,bI,dC,ik,il,f_,gf,bJ⟩:=k;try dsimp only at*
  simp only[bB,nI,za]at hS⊢;have aD:(ae c).length=24:=rfl;have HE:=aa hE;have HS:=aa hS;clear hS hE;subst ha;obtain⟨f35,az2⟩:=(HS.ar 0 rfl).fe HE.len 35 rfl rfl;obtain⟨f32,gB⟩:=(HS.ar 0 rfl).fe HE.len 32 rfl rfl;have fl:=(HS.ar 0 rfl).lt;have h5:=HS.set 0 rfl 32 (I 5);simp only[aL,cR HE.len _ 32 _ (by omega),Nat.reduceSub,aN]at h5;have HS:=aa h5;clear h5;go_wp2;refine aV (fV rfl _ _ _) rfl ?_;exact⟨rfl,wv,HW.out _ HS.out⟩
 ·rw[aq ha];have yR:=xf c ai ⟨aw,tag,⟨prog,args⟩⟩ k;have z6:=aa (λw' hS=>FN (w0:=w0) (w:=w') (R:=R) (b:=b) (wv:=wv) (bv:=bv) (aO:=aO) (ai:=ai) aE hm hE hP (k:=k) k9 hS);have HW:Hid (∀w' eb vb pb sb,Sep w0 w' (bB H b (.iface 205 (O eb)) bv (K.run c ai ⟨aw,tag,⟨prog,args⟩⟩ k)::aQ c aw k.ns eb vb pb sb (dh aO prog) args (K.NM c ai ⟨aw,tag,⟨prog,args⟩⟩)::R)→Sep w0 w' (bB H b (.iface 205 (O eb)) bv (K.run c ai ⟨aw,tag,⟨prog,args⟩⟩ k)::cQ c aw pv aO (dh aO prog) args (K.run c ai ⟨aw,tag,⟨prog,args⟩⟩ k) (.iface 205 (O eb))::R)):=aa (λw' eb vb pb sb h=>(Al yR.1 (by rw[yR.2.1];exact h.pull 1 rfl)).pull 1 rfl);have HS:=aa ((hS.pull 1 rfl).tail);have Pk:k.asked=false:=by simpa using ha
  have f35:=(HS.ar 0 rfl).aR hE.len 35 rfl rfl;have fl:=(HS.ar 0 rfl).lt;simp only[Nat.reduceSub,zg,Pk]at f35;generalize K.run c ai ⟨aw,tag,⟨prog,args⟩⟩ k=T at*;clear hS hP k9 hm yR ha Pk;go_in;go_wp2_with fail;refine(z6.out _ HS.out).mono ?_;rintro r w2 ⟨rfl,eb,vb,pb,sb,h1⟩;have HS:=aa (HW.out _ _ _ _ _ h1);clear h1;go_wp2;go_end0;exact⟨rfl,_,HS.out⟩
def FQ {w0 w R c}(aE:Y.Ok c){H aw tag b pv wv bv prog args aO ai}(hm:oY prog args ai)(hE:KH (ae c) aw tag pv prog args H)(hP:∀w',Sep w0 w' R→cL w' pv aO ai){k}(k7:W.U_ k.nv)(k9:0≤k.cZ∧k.cZ≤1000000)(v n)(hS:Sep w0 w (bB H b wv bv k::cQ c aw pv aO (dh aO prog) args k wv::R)):
 Calls Tryz.prog 85 #[O b,.agg #[U v,U n]] w λr w'=>r=E∧∃g_,Sep w0 w' (bB H b g_ bv (K.opened c ai ⟨aw,tag,⟨prog,args⟩⟩ v n k)::cQ c aw pv aO (dh aO prog) args (K.opened c ai ⟨aw,tag,⟨prog,args⟩⟩ v n k) g_::R):=by
 have Ta:=aa (λwx=>vE wx v n 1 k.ns);unfold K.opened;by_cases hc:v=1∧n=k.ns
 ·rw[aB hc];have hd:decide (v=1∧n=k.ns)=true:=by simpa using hc
  rw[hd]at Ta;have Xp:=aa (λw' (R':List a_) hS=>Ak (w0:=w0) (w:=w') (R:=R') (b:=b) (wv:=wv) (bv:=bv) aE hE (k:=k) k7 hS);have Q7:=aa (λw=>Vv w c aw (K.owner c k) k.ns);have HW:Hid (∀w' hb,Sep w0 w' (bB H b (.iface 199 (O hb)) bv {k with work:= .he (K.owner c k) k.ns ⟨[],0,0,-1,0,0,0⟩,next:=4}::eu c aw (K.owner c k) k.ns hb ⟨[],0,0,-1,0,0,0⟩::R)→Sep w0 w' (bB H b (.iface 199 (O hb)) bv {k with work:= .he (K.owner c k) k.ns ⟨[],0,0,-1,0,0,0⟩,next:=4}::cQ c aw pv aO (dh aO prog) args {k with work:= .he (K.owner c k) k.ns ⟨[],0,0,-1,0,0,0⟩,next:=4} (.iface 199 (O hb))::R)):=aa (λw' hb h=>(sO (k:={k with work:= .he (K.owner c k) k.ns ⟨[],0,0,-1,0,0,0⟩,next:=4}) rfl (h.pull 1 rfl)).pull 1 rfl);generalize cQ c aw pv aO (dh aO prog) args k wv=W at*;obtain⟨WT,hWT⟩:∃WT:Nat→a_,WT=λhb=>cQ c aw pv aO (dh aO prog) args {k with work:= .he (K.owner c k) k.ns ⟨[],0,0,-1,0,0,0⟩,next:=4} (.iface 199 (O hb)):=⟨_,rfl⟩;have HWT:=aa hWT;clear hWT hd hc hP k9 hm k7;generalize K.owner c k=ow at*;obtain⟨dG,bG,bD,bH,gZ,gC,cP,kb,bI,dC,ik,il,f_,gf,bJ⟩:=k;try dsimp only at*
  simp only[bB,nI,za]at hS⊢;have aD:(ae c).length=24:=rfl;have HE:=aa hE;have HS:=aa hS;clear hS hE;unfold aY at*;have Kb:=aa (λw' hb h=>HW.out w' hb h);simp only[bB,nI,za]at Kb Xp;generalize ae c=cs at*;have jM:=aa (HS.new 68 [U v,U n]);go_in;go_wp2_with fail;generalize World.alloc _ _=W1 at jM⊢;have hB:=(jM.ar 1 rfl).drew;have hO:=(jM.ar 0 rfl).drew;have o0:=hO.cell 0;have o1:=hO.cell 1;simp only[zg]at o0 o1;have f37:=hB.aR HE.len 37 rfl rfl;have hk:=Ta.out;refine bW [(1,[0,1,2,3,4,5,6,7])] (by kernel_rfl) ?_;simp only[zz];repeat(first|go_big_quiet_step(fail)|apply ax|apply af|apply ag|apply ah)
  refine aj ?_;go_wp2_with fail;have HS:=aa jM.drew.tail;clear hB hO o0 o1 f37 hk jM;have hB:=(HS.ar 0 rfl).drew;have f37:=hB.aR HE.len 37 rfl rfl;have f24:=hB.fM HE.len 24 rfl HE.out.aw;refine bW [(1,[1,2,3,4,5,6,7,8,9,11,12,13,14,15]),(0,[0]),(2,[10]),(3,[16]),(3,[17]),(0,[18,19]),(3,[20])] (by kernel_rfl) ?_;simp only[zz];refine af ?_;repeat(first|(refine ak 58 _ b 0 cs _ rfl rfl rfl (aG (lT aD HE.out hB) (by simp)) underlying58 rfl (by rw[aD];kernel_rfl) ?_;simp only[Act.put,aZ,aL,aN])|go_big_quiet_step (fail)|quiet_step (fail))
  refine ax ?_;repeat(first|go_big_quiet_step(fail)|apply ax|apply af|apply ag|apply ah)
  refine aA ?_;go_wp2_with fail;refine(Xp.out _ _ HS.drew).kf HS.dr λw2 HF HS=>?_;go_wp2;refine⟨⟨⟨_,(by exact HF.out)⟩,rfl⟩,?_⟩;refine ao ?_;go_wp2_with fail;refine(Q7.out _).mono ?_;rintro r w3 ⟨hb,rfl,h1⟩;have HS:=aa (((HS.fresh h1.jm).pull 2 rfl).tail.pull 1 rfl);clear h1 hB f24 f37 HF;simp only[ze]at HS;go_wp2;refine ao ?_;go_wp2_with fail;repeat(first|go_big_quiet_step(fail)|apply ax|apply af|apply ag|apply ah)
  obtain⟨f38,qG⟩:=(HS.ar 0 rfl).fe HE.len 38 rfl rfl;have h5:=HS.set 0 rfl 38 (.iface 199 (O hb));simp only[aL,cR HE.len _ 38 _ (by omega),Nat.reduceSub,aN]at h5;have HS:=aa h5;clear h5;refine ao ?_;go_wp2;refine aj ?_;generalize World.setCell _ _ _=w4 at HS⊢;clear f38 qG;obtain⟨f32,gB⟩:=(HS.ar 0 rfl).fe HE.len 32 rfl rfl;have h5:=HS.set 0 rfl 32 (I 4);simp only[aL,cR HE.len _ 32 _ (by omega),Nat.reduceSub,aN]at h5;have HS:=aa h5;clear h5;go_wp2;refine aV (fV rfl _ _ _) rfl ?_;exact⟨rfl,_,Kb.out _ hb HS.out⟩
 ·rw[aq hc];have hd:decide (v=1∧n=k.ns)=false:=by simpa using hc
  rw[hd]at Ta;have Sq:=aa (λw' hS=>FO (w0:=w0) (w:=w') (R:=R) (b:=b) (wv:=wv) (bv:=bv) (aO:=aO) (ai:=ai) aE hm hE hP (k:=k) k9 hS);generalize K.qu c ai ⟨aw,tag,⟨prog,args⟩⟩ k=T at*;have f37:=(hS.ar 0 rfl).aR hE.len 37 rfl rfl;have jM:=aa (hS.new 68 [U v,U n]);generalize k.ns=gC at*;generalize cQ c aw pv aO (dh aO prog) args k wv=W at*;have HF:=aa (((Fr.refl [] w).alloc (.cells [U v,U n].toArray 68)).cell f37 (by simp));clear hP k9 hm k7 hd hc hS f37;go_in;go_wp2_with fail;generalize World.alloc _ _=W1 at jM HF⊢;have hO:=(jM.ar 0 rfl).drew;have o0:=hO.cell 0;have o1:=hO.cell 1;simp only[zg]at o0 o1;have f37:W1.drew.cell? ⟨b,37,none⟩=some (U gC):=HF.out;have hk:=Ta.out;refine bW [(1,[0,1,2,3,4,5,6,7])] (by kernel_rfl) ?_;simp only[zz];repeat(first|go_big_quiet_step(fail)|apply ax|apply af|apply ag|apply ah)
  refine aj ?_;go_wp2_with fail;refine(Sq.out _ jM.drew.tail).mono ?_;rintro r w2 ⟨rfl,g_,h1⟩;have HS:=aa h1;clear h1;go_wp2;go_end0;exact⟨rfl,g_,HS.out⟩
def FR {w0 w R c}(aE:Y.Ok c){H aw tag b hb pv bv prog args aO ai}(hm:oY prog args ai)(hE:KH (ae c) aw tag pv prog args H)(hP:∀w',Sep w0 w' R→cL w' pv aO ai){k}(k9:0≤k.cZ∧k.cZ≤1000000){o s h}(hk:k.work= .he o s h)(hS:Sep w0 w (bB H b (.iface 199 (O hb)) bv k::eu c aw o s hb h::R)):
 Calls Tryz.prog 116 #[O b,O hb] w λr w'=>r=E∧∃g_,Sep w0 w' (bB H b g_ bv (K.jf c ai ⟨aw,tag,⟨prog,args⟩⟩ h k)::cQ c aw pv aO (dh aO prog) args (K.jf c ai ⟨aw,tag,⟨prog,args⟩⟩ h k) g_::R):=by
 have lI:=aa (λw' RR hS=>Q3 (w0:=w0) (w:=w') (R:=RR) hb c aw o s h hS);unfold K.jf;by_cases h8:h.next=8
 ·rw[aq (by omega)];have e8:decide (h.next=8)=true:=by simpa using h8
  rw[e8]at lI;by_cases xJ:k.next=12
  ·rw[aB xJ];have Er:=aa (λw' RR rc rv al hS=>sN (w0:=w0) (w:=w') (R:=RR) (b:=b) (wv:=(.iface 199 (O hb))) (bv:=bv) hE (k:=k) rc rv al hS);have HW:Hid (∀w',Sep w0 w' (bB H b (.iface 199 (O hb)) bv (K.end_ k.oc k.ov false k)::eu c aw o s hb h::R)→Sep w0 w' (bB H b (.iface 199 (O hb)) bv (K.end_ k.oc k.ov false k)::cQ c aw pv aO (dh aO prog) args (K.end_ k.oc k.ov false k) (.iface 199 (O hb))::R)):=aa (λw' h9=>(sO (k:=K.end_ k.oc k.ov false k) hk (h9.pull 1 rfl)).pull 1 rfl);generalize Pa:K.end_ k.oc k.ov false k=T at*;have ZR:Hid (∀w' RR,Sep w0 w' (bB H b (.iface 199 (O hb)) bv k::RR)→bR 107 #[O b,.agg #[I k.oc,U k.ov],.bool false] w' w0 (bB H b (.iface 199 (O hb)) bv T::RR)):=aa (by rw[←Pa];exact λw' RR h=>Er.out w' RR _ _ _ h);clear Er Pa hk hP k9 hm h8 e8;generalize eu c aw o s hb h=TH at*;obtain⟨dG,bG,bD,bH,gZ,gC,cP,kb,bI,dC,ik,il,f_,gf,bJ⟩:=k;try dsimp only at*
   subst xJ;have HE:=aa hE;have HS:=aa (show Sep w0 w (aJ b 168 (H++[I 12,I bG,I bD,.bool bH,U gZ,U gC,.iface 199 (O hb),bv,.bool bI,.bool dC,I ik,U il,I f_,U gf,.bool bJ])::TH::R)from hS);clear hS hE;go_in;go_wp2_with fail;refine(lI.out _ _ (HS.pull 1 rfl)).kq HS λw2 HS=>?_;obtain⟨f32,gB⟩:=(HS.ar 0 rfl).fe HE.len 32 rfl rfl;have f42:=(HS.ar 0 rfl).aR HE.len 42 rfl rfl;have f43:=(HS.ar 0 rfl).aR HE.len 43 rfl rfl;go_wp2_with fail;refine(ZR.out _ _ HS.out).kh λw3 HS=>?_;go_wp2;go_end0;exact⟨rfl,_,HW.out _ HS.out⟩
  ·rw[aq xJ];have Sq:=aa (λw' hS=>FO (w0:=w0) (w:=w') (R:=R) (b:=b) (wv:=(.iface 199 (O hb))) (bv:=bv) (aO:=aO) (ai:=ai) aE hm hE hP (k:=k) k9 hS);have HW:Hid (∀w',Sep w0 w' (bB H b (.iface 199 (O hb)) bv k::eu c aw o s hb h::R)→Sep w0 w' (bB H b (.iface 199 (O hb)) bv k::cQ c aw pv aO (dh aO prog) args k (.iface 199 (O hb))::R)):=aa (λw' h9=>(sO (k:=k) hk (h9.pull 1 rfl)).pull 1 rfl);generalize K.qu c ai ⟨aw,tag,⟨prog,args⟩⟩ k=T at*;have qN:(k.next==12)=false:=by simpa using xJ
   generalize eu c aw o s hb h=TH at*;generalize cQ c aw pv aO (dh aO prog) args k (.iface 199 (O hb))=TW at*;have HS:=aa hS;clear hS hk hP k9 hm h8 e8 xJ;go_in;go_wp2_with fail;refine(lI.out _ _ (HS.pull 1 rfl)).kq HS λw2 HS=>?_;have f32:=(HS.ar 0 rfl).aR hE.len 32 rfl rfl;go_wp2_with fail;refine(Sq.out _ (HW.out _ HS.out)).mono ?_;rintro r w3 ⟨rfl,g_,h1⟩;have HS:=aa h1;clear h1;go_wp2;go_end0;exact⟨rfl,g_,HS.out⟩
 ·rw[aB h8];have e8:decide (h.next=8)=false:=by simpa using h8
  rw[e8]at lI;have HW:Hid (∀w',Sep w0 w' (bB H b (.iface 199 (O hb)) bv k::eu c aw o s hb h::R)→Sep w0 w' (bB H b (.iface 199 (O hb)) bv k::cQ c aw pv aO (dh aO prog) args k (.iface 199 (O hb))::R)):=aa (λw' h9=>(sO (k:=k) hk (h9.pull 1 rfl)).pull 1 rfl);generalize eu c aw o s hb h=TH at*;have HS:=aa hS;clear hS hk hP k9 hm h8 e8;go_in;go_wp2_with fail;refine(lI.out _ _ (HS.pull 1 rfl)).kq HS λw2 HS=>?_;go_wp2;refine aV (fV rfl _ _ _) rfl ?_;exact⟨rfl,_,HW.out _ HS.out⟩
def sP {w0 w:World}{R:List a_}{c:Y.cA}(aE:Y.Ok c){H:List Value}{aw tag:Int}{b:Nat}{pv wv bv:Value}{prog:Int}{args:List Int}{aO:List Value}{ai:List (List In)}(hm:oY prog args ai)(hP:∀w',Sep w0 w' R→cL w' pv aO ai)(hE:KH (ae c) aw tag pv prog args H){k:K.St}(k9:0≤k.cZ∧k.cZ≤1000000)(val:Int)(hn:k.next=5∨k.next=6∨k.next=7)(hS:Sep w0 w (bB H b wv bv k::cQ c aw pv aO (dh aO prog) args k wv::R)):
 Calls Tryz.prog 86 #[O b,U val] w λr w'=>r=E∧∃g_,Sep w0 w' (bB H b g_ bv (K.answer c ai ⟨aw,tag,⟨prog,args⟩⟩ val k)::cQ c aw pv aO (dh aO prog) args (K.answer c ai ⟨aw,tag,⟨prog,args⟩⟩ val k) g_::R):=by
 have Lx:∀{n:Int},n=5∨n=6∨n=7∨n=13→¬fR n:=λh e=>by unfold fR at e;omega
 by_cases h6:k.next=6
 ·have e:K.answer c ai ⟨aw,tag,⟨prog,args⟩⟩ val k={k with oc:=IntKind.i64.wrap val,next:=7}:=by unfold K.answer;rw[aB h6]
  rw[e];refine(MG hE val h6 hS).mono λ_ _ h=>⟨h.1,wv,?_⟩;exact(mR (k:=k) (k2:={k with oc:=IntKind.i64.wrap val,next:=7}) rfl (λe=>absurd e (Lx (by simp))) (h.2.pull 1 rfl)).pull 1 rfl
 by_cases h7:k.next=7
 ·have e:K.answer c ai ⟨aw,tag,⟨prog,args⟩⟩ val k=K.end_ k.oc val false {k with ov:=val}:=by unfold K.answer;rw[aq h6,aB h7]
  rw[e];refine(MH hE val h7 hS).mono λ_ _ h=>⟨h.1,wv,?_⟩;exact(mR (k:=k) (k2:=K.end_ k.oc val false {k with ov:=val}) rfl (λe=>absurd e (Lx (by simp[K.end_]))) (h.2.pull 1 rfl)).pull 1 rfl
 have h5:k.next=5:=by omega
 by_cases hv:val=tag
 ·have e:K.answer c ai ⟨aw,tag,⟨prog,args⟩⟩ val k={k with next:=6}:=by unfold K.answer;rw[aq h6,aq h7,aB hv]
  rw[e];subst hv;refine(FT hE h5 hS).mono λ_ _ h=>⟨h.1,wv,?_⟩;exact(mR (k:=k) (k2:={k with next:=6}) rfl (λe=>absurd e (Lx (by simp))) (h.2.pull 1 rfl)).pull 1 rfl
 have NZ:=(hS.pull 1 rfl).tail;by_cases hl:c.la≤k.ns
 ·by_cases hr:reads (K.code ai ⟨aw,tag,⟨prog,args⟩⟩)=true
  ·have e:K.answer c ai ⟨aw,tag,⟨prog,args⟩⟩ val k=K.run c ai ⟨aw,tag,⟨prog,args⟩⟩ k:=by unfold K.answer;rw[aq h6,aq h7,aq hv,aB ⟨hl,hr⟩]
   rw[e];exact FU aE hm hP hE k9 val h5 hv hl hr NZ
  ·have e:K.answer c ai ⟨aw,tag,⟨prog,args⟩⟩ val k=K.end_ 45 0 true k:=by unfold K.answer;rw[aq h6,aq h7,aq hv,aq (λh=>hr h.2),aB hl]
   rw[e];refine(DI (λw' h=>hP w' h.tail) hm.pu hE val h5 hv hl (Bool.eq_false_iff.2 hr) hS).mono λ_ _ h=>⟨h.1,wv,?_⟩;exact(mR (k:=k) (k2:=K.end_ 45 0 true k) rfl (λe=>absurd e (Lx (by simp[K.end_]))) (h.2.pull 1 rfl)).pull 1 rfl
 ·have e:K.answer c ai ⟨aw,tag,⟨prog,args⟩⟩ val k={k with work:= .bu (B.fw c),next:=9}:=by unfold K.answer;rw[aq h6,aq h7,aq hv,aq (λh=>hl h.1),aq hl]
  rw[e];exact Bu aE hP hE val h5 hv hl NZ
