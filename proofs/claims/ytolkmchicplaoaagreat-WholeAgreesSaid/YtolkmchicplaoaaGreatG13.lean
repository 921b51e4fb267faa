/- A part of the proof. -/
import Derived.Test.YtolkmchicplaoaaGreatG12
set_option linter.all false
set_option maxHeartbeats 8000000
set_option maxRecDepth 100000
open Go.Proofs.Tryz
namespace Go.Proofs.YtolkmchicplaoaaGreat
open Go.RowKit Go.aS Go.aS.I_ Go.aS.Y Go.Maps
structure xu (w:World)(v:Value)(dY:List Value)(rows:List Z.Row):Prop where
 len:dY.length=rows.length
 row:dB (λp:Value×Z.Row=>j6 p.1 p.2) 6 w v (dY.zip rows)
 each:∀p∈dY.zip rows,∃a cap,p.1= .slice a p.2.news.length cap
def cS:Y.cA:=⟨2,3,20,50,5,99⟩
def DA:Y.Ok cS:=⟨by decide,by decide,by decide,by decide,by decide,by decide,by decide,by decide,by decide,by decide⟩
def Sep.pin {w0 w Ts}(h:Sep w0 w Ts):Sep w0 w (LD w []::Ts):=
 h.push (Fr.refl [] w) (fp:=[]) ⟨rfl,by simp,by simp,dp _⟩ (by simp)
def V4 {w0 w w' Ts NJ}(h:Sep w0 w Ts)(h':Sep w0 w' NJ)(i:Nat)(hi:NJ[i]?=some (LD w []))(Je:List Nat)(hk:∀k∈Je,w'.heap[k]?=w.heap[k]?):Fr ((List.range w.heap.size).filter (λk=>decide (k∉Je))) w w':=by
 obtain⟨fp,hp,_⟩:=h'.get i hi;exact⟨h'.1.os.trans h.1.os.symm,h'.1.tape.trans h.1.tape.symm,h'.1.output.trans h.1.output.symm,hp.2.2.2,λk h1 h2=>hk k (by
  by_cases e:k∈Je
  ·exact e
  ·exact absurd (List.mem_filter.2 ⟨oF.2 h1,by simpa using e⟩) h2)⟩
def D4 {w w' k}{T:TypeId}{cs}(h:cB w k T cs)(h':cB w' k T cs):w'.heap[k]?=w.heap[k]?:=h'.trans h.symm
def R4 {A:Prop}{G S:Nat→World→Prop}(h:(∀X wF,S X wF→G X wF)→A)(x:∀X wF,S X wF→G X wF):A:=h x
def MI (aM:List Z.Rec)(rows:List Z.Row):Prop:=rows.length≤3∧aM.length≤3∧∀i (h:i<rows.length),rows[i].rc=0∧rows[i].rv=i+1∧rows[i].news=[]∧∃k,∃h:k<aM.length,Or.find aM rows[i].aw rows[i].tag=(k:Int)∧aM[k].call=⟨0,[0,0,0,0]⟩
def GP (x:Int):Prop:=(Lit.int .i64 x).wf=true
def RP (x:Z.Row):Prop:=GP x.aw∧GP x.tag
def RQ (x:Z.Rec):Prop:=GP x.aw∧GP x.tag
def Seen (f:Lit→Int)(seen:List (Int×Int)):Prop:=∀a b l,GP a→GP b→keyOf Tryz.prog 146 (.agg #[I a,I b])=some l→f l=if(a,b)∈seen then 1 else 0
def Seen.add {f:Lit→Int}{seen}(h:Seen f seen){a b}(ha:GP a)(hb:GP b){l:Lit}(hl:keyOf Tryz.prog 146 (.agg #[I a,I b])=some l):Seen (RO f l 1) ((a,b)::seen):=by
 intro a2 b2 l2 Pk yU rR;unfold RO;by_cases e:l2=l
 ·rw[aB e];subst e;have:=mS.inj hl rR;simp only[Value.agg.injEq,Array.mk.injEq,List.cons.injEq,Value.int.injEq,true_and,and_true]at this;obtain⟨rfl,rfl⟩:=this;rw[aB (by simp)]
 ·rw[aq e,h a2 b2 l2 Pk yU rR];have pg:(a2,b2)≠(a,b):=by
   intro he;simp only[nL]at he;obtain⟨rfl,rfl⟩:=he;rw[hl]at rR;exact e (eQ rR).symm
  simp[pg]
def Kk {aM a b}(h:0≤Or.find aM a b):(Or.find aM a b).toNat<aM.length∧Or.find aM a b=((Or.find aM a b).toNat:Int):=by
 unfold Or.find at h⊢;cases hf:aM.findIdx? (λr=>decide (r.aw=a∧r.tag=b))with
 |none=>rw[hf]at h;simp at h
 |some i=>
  rw[CS]at hf;obtain⟨hi,_⟩:=hf;exact⟨hi,rfl⟩
def ak0 {w0 w Ts}(h:Sep w0 w Ts)(i j:Nat){b mb n:Nat}{T:TypeId}{cs}{P:Program}{k e:TypeId}{q:IntKind}{f:Lit→Int}(hi:Ts[i]?=some (aJ b T cs))(hj:Ts[j]?=some (SF P k e q mb n f))(yN:i≠j):b≠mb:=by
 obtain⟨h0,F,hF,hd⟩:=h;have p0:=(hF i _ hi).1.1;have p1:=(hF j _ hj).1.1;have td:=(dE.1 hi).1;have mW:=(dE.1 hj).1;intro e;subst e;exact hd i j td mW yN b (by rw[p0];simp) (by rw[p1];simp)
def zkm (mb n:Nat)(f:Lit→Int):a_:=SF Tryz.prog 146 3 .i64 mb n f
def Ni {aM x l seen last}(h:Or.vx aM (x::l) seen last=0):0≤Or.find aM x.aw x.tag∧(x.aw,x.tag)∉seen∧¬(x.at_<last∨x.at_<(Or.recAt aM (Or.find aM x.aw x.tag)).from_∨((Or.recAt aM (Or.find aM x.aw x.tag)).done=true∧(Or.recAt aM (Or.find aM x.aw x.tag)).NN<x.at_))∧¬((Or.recAt aM (Or.find aM x.aw x.tag)).done=true∧¬(x.rc=(Or.recAt aM (Or.find aM x.aw x.tag)).rc∧x.rv=(Or.recAt aM (Or.find aM x.aw x.tag)).rv))∧Or.vx aM l ((x.aw,x.tag)::seen) x.at_=0:=by
 unfold Or.vx at h
 (repeat' split at h)<;>first|omega|exact⟨by omega,‹_›,‹_›,‹_›,h⟩
def zq43:(∀{w0 w R pv iV v ca cc dY aM rows}(UN:MI aM rows)(hP:∀w',Sep w0 w' R→cL w' pv [.slice ca 5 cc] [countP])(hA:∀w',Sep w0 w' R→dB eI 13 w' iV aM)(hW:∀w',Sep w0 w' R→xu w' v dY rows)(hS:Sep w0 w R),Calls Tryz.prog 33 #[db cS,pv,iV,v] w λr w'=>∃sb,r= .returned (.tuple #[O sb,I 0,I 0])∧Sep w0 w' (rA sb (z3 rows.length)::R))∧(∀{w0 w R iV v dY aM rows}(hl:aM.length≤1000000)(nH:rows.length≤1000000)(hA:∀w',Sep w0 w' R→dB eI 13 w' iV aM)(hW:∀w',Sep w0 w' R→xu w' v dY rows)(RS:∀x∈rows,RP x)(Ng:∀x∈aM,RQ x∧x.done=true)(hX:Or.fits aM rows=0)(hS:Sep w0 w R),Calls Tryz.prog 32 #[iV,v] w λr w'=>∃n,r= .returned (.tuple #[I n,I 0])∧Sep w0 w' R):=by
 refine⟨?Z,?Y⟩
 case' Z=>intro w0 w R pv iV v ca cc dY aM rows UN hP hA hW hS;obtain⟨nH,hl,UN⟩:=UN
 case' Y=>intro w0 w R iV v dY aM rows hl nH hA hW RS Ng hX hS
 case' Z|Y=>
  obtain⟨ra,rc,rfl⟩:=(hA w hS).len;have LH:=hW w hS;have rN:(dY.zip rows).length=rows.length:=by rw[nK,LH.len,Nat.min_self]
  obtain⟨va,vc,hv⟩:=LH.row.len;rw[rN]at hv;subst hv
 case' Z=>
  have zG:=aa UN;have HA:=aa hA;have HW:=aa hW;have HP:=aa hP;have VR:=aa rN;have GQ:=aa (λw'=>u5 w' cS DA);have Pt:=aa (hS.new 31 (gT cS));clear hS hW rN LH hP UN hA;unfold db aY at GQ;unfold db;unfold gT cS at Pt;unfold cS;dsimp only at Pt⊢;go_in;go_wp2_with fail;refine(GQ.out _).kq Pt λw1 HS=>?_;clear Pt GQ;generalize w.heap.size=cb at*;have GL:∀z9∈ae cS,z9.oneCell'=true:=by unfold ae;simp[Value.oneCell']
  have AG:(ae cS).length=24:=rfl;generalize ae cS=mc at*;have de:=aa (HS.new 58 uZ);unfold uZ at de;go_wp2_with(refine aC de.out 0 rfl mc 58 _ _ rfl rfl rfl rfl (by rw[AG];rfl) (by rw[AG];kernel_rfl) GL (λwA hA _=>?_);simp only[aL,aN]at hA;have eH:=aa hA;clear hA);refine(E5 _).mono ?_;rintro r w2 ⟨sb,rfl,h2⟩;have HS:=aa ((eH.fresh h2.jm).pull 1 rfl).tail;simp only[ze]at HS;clear h2 eH de;go_wp2_with fail
 case' Y=>have HA:=aa hA;have HW:=aa hW;have HOR:=aa RS;have Wm:=aa Ng;have VR:=aa rN;have J2:=aa hX;clear hX hA hW RS Ng rN LH;have HS:=aa (hS.aj8 Tryz.prog 146 3 .i64);clear hS;obtain⟨rn,z5⟩:∃rn,aM.length=rn:=⟨_,rfl⟩;obtain⟨n,hn⟩:∃n,rows.length=n:=⟨_,rfl⟩;have z6:=aa z5;have HN:=aa hn;rw[hn]at nH⊢;have Bn:Hid (∀w',Sep w0 w' R→dB eI 13 w' (.slice ra rn rc) aM):=aa (λw' h=>by rw[←z5];exact HA.out w' h);clear HA;have HA:=Bn;clear Bn;rw[z5]at hl⊢;clear hn z5;have Lx:=@run_makeMap Tryz.prog;go_in;go_wp2_with fail;generalize Xe:w.heap.size=mb at HS⊢;generalize World.alloc _ _=w1 at HS⊢;clear Xe Lx
 case' Z=>
  go_loopg [31] rows.length (λg v31 wr=>∃i:Nat,v31=I i∧g+i=rows.length∧Sep w0 wr (rA sb (z3 i)::aJ cb 31 [I 2,I 3,I 20,I 50,U 5,U 99]::R))
  case' atStart=>skip
  refine ?X
  case' round=>skip
  refine ?J
 case' Y=>
  go_loopg [7,18] n (λg v7 v18 wr=>∃(i m:Nat) (f:Lit→Int) (last:Int) (seen:List (Int×Int)),v7=I last∧v18=I i∧i≤n∧m≤i∧n-i=g∧Seen f seen∧Or.vx aM (rows.drop i) seen last=0∧Sep w0 wr (zkm mb m f::R))
  case' atStart=>skip
  refine ?G
  case' round=>skip
  refine ?D
 case' X=>exact⟨0,rfl,rfl,HS.out⟩
 case' J=>clear HS;obtain⟨i,rfl,hg,hS⟩:=hrel;have HS:=aa hS;clear hS
 case' J=>by_cases tH:i<rows.length;refine ?V;rotate_left;refine ?U
 case' D=>clear HS J2;obtain⟨i,m,f,last,seen,rfl,rfl,hi,PC,hg,Wn,jU,hS⟩:=hrel;have HS:=aa hS;have yZ:=aa Wn;have xT:=aa jU;have HG:=aa hg;clear hS Wn jU hg
 case' D=>by_cases tH:i<n;refine ?g0;rotate_left;refine ?g1
 case' g1=>
  have d1:decide ((i:Int)<(n:Int))=false:=cW (by omega);have jU:=xT.out;rw[yM (by have:=HN.out;omega)]at jU;unfold Or.vx at jU;have aC2:Hid (∀r∈aM,(r.aw,r.tag)∈seen):=aa (λr hr=>by
   have h1:(aM.all λr=> !r.done||decide ((r.aw,r.tag)∈seen))=true:=by
    by_cases e:(aM.all λr=> !r.done||decide ((r.aw,r.tag)∈seen))=true
    ·exact e
    ·rw[aq e]at jU;omega
   have:=mC.1 h1 r hr;rw[(Wm.out r hr).2]at this;simpa using this)
  clear jU xT;go_wp2_with fail;clear d1
 case' g1=>
  go_loopg [90] rn (λg v90 wr=>∃j:Nat,v90=I j∧j≤rn∧rn-j=g∧Sep w0 wr (zkm mb m f::R))
  case' atStart=>skip
  refine ?g2
  case' round=>skip
  refine ?g3
 case' g3=>clear HS;obtain⟨j,rfl,hj,yy,hS⟩:=hrel;have HS:=aa hS;have HGJ:=aa yy;clear hS yy
 case' g3=>by_cases hjr:j<rn;refine ?g4;rotate_left;refine ?g5
 case' V=>have td:(i:Int)<(rows.length:Int):=by omega
 case' g0=>
  have td:(i:Int)<(n:Int):=by omega
  have d1:decide ((i:Int)<(n:Int))=true:=eP td
 case' V|g0=>have hw:IntKind.i64.wrap ((i:Int)+1)=((i+1:Nat):Int):=by rw[bf _ (by omega) (by omega)];rfl
 case' V=>
  have SJ:i<(dY.zip rows).length:=by rw[VR.out];exact tH
  have h_:=aa (λw' h=>dB.at (a:=va) (m:=rows.length) (cap:=vc) (by have:=(HW.out w' h).row;exact this) SJ);have k7:=(HW.out _ HS.tail.tail).each _ (cJ SJ);have Yp:(dY.zip rows)[i].2=rows[i]:=by simp
  obtain⟨tm,Ir,Vg,k,fu,sZ,mr⟩:=zG.out i tH;have PY:(i:Int)=0∨(i:Int)=1∨(i:Int)=2:=by omega
  have V0:=aa (λw' h=>Gd w' (.slice ra aM.length rc) aM (by omega) (HA.out w' h) rows[i].aw rows[i].tag);rw[sZ]at V0;have vW:=aa (λw' h=>dB.at (a:=ra) (m:=aM.length) (cap:=rc) (HA.out w' h) fu);have sh:(k:Int)<(aM.length:Int):=by omega
  have wY:Hid (rows.length-(i+1)<gk):=aa (by omega)
 case' g0=>
  have Hh:i<rows.length:=by rw[HN.out];exact tH
  have SJ:i<(dY.zip rows).length:=by rw[VR.out];exact Hh
  have h_:=aa (λw' h=>dB.at (a:=va) (m:=(dY.zip rows).length) (cap:=vc) (by have:=(HW.out w' h).row;rw[VR.out];rw[HN.out]at this⊢;exact this) SJ);have Yp:(dY.zip rows)[i].2=rows[i]:=by simp
  have Jc:=HOR.out _ (cJ Hh);have vp:rows.drop i=rows[i]::rows.drop (i+1):=pO Hh;rw[vp]at xT;have k7:=(HW.out _ HS.tail).each _ (cJ SJ);generalize yh:rows.drop (i+1)=rest at*;have Kl:=aa yh;clear yh
 case' V|g0=>generalize(dY.zip rows)[i]=pr at*;generalize rows[i]=x at*
 case' V=>generalize aM[k]=y at*
 case' V|g0=>obtain⟨nv,x0⟩:=pr;dsimp only at Yp;subst Yp;obtain⟨Gg,xw,xt,rI,xc,Mu⟩:=x0
 case' V=>obtain⟨yw,yt,Nh,yf,V1,Wl,yd,Tl,Xy⟩:=y;dsimp only at tm Ir Vg mr k7 V0;subst tm Ir Vg mr;unfold j6 at h_;unfold eI at vW;dsimp only at h_ vW;obtain⟨na,nc,rfl⟩:=k7;have Aa:=aa (λw' (R':List a_) hP' NZ=>L2 (w0:=w0) (w:=w') (R:=R') PY (pa:=na) (pn:=0) (Zb:=nc) (ca:=ca) (cc:=cc) (sb:=sb) hP' NZ);have Wm:Hid (∀w',cL w' pv [.slice ca 5 cc] [countP]→ba 67 #[pv,I 0] w' (.slice ca 5 cc)):=aa (λw' h=>CD w' h 0);obtain⟨xa,rfl,uI,c0,c1⟩:=h_.out _ HS.tail.tail;have dS:=aa (HS.new 51 [I Gg,I xw,I xt,I 0,U ((i:Int)+1),.slice na 0 nc])
 case' g0=>unfold j6 at h_;dsimp only at h_;dsimp only at k7;obtain⟨na,nc,rfl⟩:=k7;obtain⟨xa,rfl,uI,c0,c1⟩:=h_.out _ HS.tail;have dS:=aa (HS.new 51 [I Gg,I xw,I xt,I rI,U xc,.slice na Mu.length nc]);have de:=aa (dS.new 146 [I xw,I xt]);simp only[cG]at de;have q1:=(dS.ar 0 rfl).cell 1;have q2:=(dS.ar 0 rfl).cell 2;have ql:=(dS.ar 0 rfl).lt;have k0:=(de.ar 0 rfl).cell 0;have k1:=(de.ar 0 rfl).cell 1;have kl:=(de.ar 0 rfl).lt;simp only[zg]at q1 q2 k0 k1
 case' V|g0=>have e0:=c0 _ rfl;have e1:=c1 0 _ rfl;have e2:=c1 1 _ rfl;have e3:=c1 2 _ rfl;have e4:=c1 3 _ rfl;have e5:=c1 4 _ rfl
 case' V=>simp only[mD]at e5;clear c0 c1 sZ h_;go_wp2_with fail;refine(V0.out _ dS.tail.tail.tail).kq dS λw2 HS=>?_;clear V0 dS e0 e1 e2 e3 e4 e5 uI;generalize wr.heap.size=rb at*;obtain⟨rr,rl,-⟩:=qJ (HS.ar 0 rfl)
 case' g0=>
  clear c0 c1 vp;go_wp2_with fail;have V0:=aa (λw' h=>Gd w' (.slice ra rn rc) aM (by rw[z6.out];exact hl) (HA.out w' h) xw xt);refine(V0.out _ de.tail.tail.tail).kq de λw2 HS=>?_;clear V0 dS de q1 q2 ql k0 k1 kl e0 e1 e2 e3 e4 e5 uI h_;generalize wr.heap.size=rb at*;generalize sZ:Or.find aM xw xt=fi at*;obtain⟨J0,vA,kL,P4,jU⟩:=Ni xT.out;dsimp only at J0 vA kL P4 jU;rw[sZ]at J0 kL P4;have d2:decide (fi<0)=false:=cW (by omega);have o_:=Kk (aM:=aM) (a:=xw) (b:=xt) (by rw[sZ];omega);rw[sZ]at o_;obtain⟨k,hk⟩:∃k:Nat,fi=(k:Int):=⟨fi.toNat,o_.2⟩;subst hk;rw[dU]at o_;have fu:=o_.1;have sh:(k:Int)<(rn:Int):=by have:=z6.out;omega
  have hre:Or.recAt aM (k:Int)=aM[k]:=by unfold Or.recAt;rw[dU,cO,cy fu];rfl
  rw[hre]at kL P4;have az7:=Wm.out _ (cJ fu);have vW:=aa (λw' h=>dB.at (a:=ra) (m:=rn) (cap:=rc) (HA.out w' h) fu);generalize aM[k]=y at*;obtain⟨yw,yt,Nh,yf,V1,Wl,yd,Tl,Xy⟩:=y;unfold eI at vW;dsimp only at vW kL P4 az7;generalize Nh.args.getD 0 0=a0 at*;generalize Nh.args.getD 1 0=a1 at*;generalize Nh.args.getD 2 0=a2 at*;generalize Nh.args.getD 3 0=a3 at*
 case' V|g0=>obtain⟨xb,rfl,NO,c0,c1⟩:=vW.out _ HS.tail.tail.tail
 case' g4=>
  have hjn:(j:Int)<(rn:Int):=by omega
  have d1:decide ((j:Int)<(rn:Int))=true:=eP hjn;have hw:IntKind.i64.wrap ((j:Int)+1)=((j+1:Nat):Int):=by rw[bf _ (by omega) (by omega)];rfl
  have fu:j<aM.length:=by rw[z6.out];exact hjr
  have Wv:=Wm.out _ (cJ fu);have vW:=aa (λw' h=>dB.at (a:=ra) (m:=rn) (cap:=rc) (HA.out w' h) fu);have p5:=(Wm.out _ (cJ fu)).2;have vA:=(aC2.out _ (cJ fu));generalize aM[j]=y at*;obtain⟨yw,yt,Nh,yf,V1,Wl,yd,Tl,Xy⟩:=y;unfold eI at vW;dsimp only at vW p5 vA Wv;subst p5;obtain⟨Wv,-⟩:=Wv;generalize Nh.args.getD 0 0=a0 at*;generalize Nh.args.getD 1 0=a1 at*;generalize Nh.args.getD 2 0=a2 at*;generalize Nh.args.getD 3 0=a3 at*;obtain⟨xb,rfl,NO,c0,c1⟩:=vW.out _ HS.tail
 case' V|g0|g4=>have e0:=c0 _ rfl;have e1:=c1 0 _ rfl;have e2:=c1 1 _ rfl;have e3:=c1 2 _ rfl;have e4:=c1 3 _ rfl;have e5:=c1 4 _ rfl;have e6:=c1 5 _ rfl;have e7:=c1 6 _ rfl;have e8:=c1 7 _ rfl;have e9:=c1 8 _ rfl;have o7:=c1 9 _ rfl;have qM:=c1 10 _ rfl;have qN:=c1 11 _ rfl
 case' V=>
  clear c0 c1 vW;have eH:=aa (HS.new 55 [I yw,I yt,I 0,U 0,U 0,U 0,U 0,I yf,I V1,I Wl,.bool yd,I Tl,U Xy]);clear HS;go_wp2_with fail;refine(E9 (eH.pull 2 rfl)).kq eH λw3 HS=>?_;clear eH e0 e1 e2 e3 e4 e5 e6 e7 e8 e9 o7 qM qN rr rl NO;generalize w2.heap.size=qb at*;go_wp2_with fail;have HS:=aa (Sep.pin (((HS.drew.pull 3 rfl).pull 2 rfl).pull 2 rfl));simp only[ze]at HS;have Lr:=HS;obtain⟨FP,Ls⟩:∃F,F=(List.range w3.drew.heap.size).filter (λk=>decide (k∉ [cb,rb,qb])):=⟨_,rfl⟩;have hnq:qb∉FP:=by rw[Ls];simp
  have hnr:rb∉FP:=by rw[Ls];simp
  have Sv:cb∉FP:=by rw[Ls];simp
  have HK:Hid (∀w' (L:List a_),Sep w0 w' (LD w3.drew []::aJ qb 55 [I yw,I yt,I 0,U 0,U 0,U 0,U 0,I yf,I V1,I Wl,.bool yd,I Tl,U Xy]::aJ rb 51 [I Gg,I xw,I xt,I 0,U ((i:Int)+1),.slice na 0 nc]::aJ cb 31 [I 2,I 3,I 20,I 50,U 5,U 99]::L)→Fr FP w3.drew w'):=aa (λw' L h=>by
   rw[Ls];refine V4 Lr.out h 0 rfl [cb,rb,qb] (λk hk=>?_);simp only[oG,uP,or_false]at hk;rcases hk with rfl|rfl|rfl
   ·exact D4 (Lr.ar 3 rfl) (h.ar 3 rfl)
   ·exact D4 (Lr.ar 2 rfl) (h.ar 2 rfl)
   ·exact D4 (Lr.ar 1 rfl) (h.ar 1 rfl))
  clear Ls;have q2:=(HS.ar 1 rfl).cell 2;have r5:=(HS.ar 2 rfl).cell 5;have c2:=(HS.ar 3 rfl).cell 2;have c3:=(HS.ar 3 rfl).cell 3;have ql:=(HS.ar 1 rfl).lt;have rl:=(HS.ar 2 rfl).lt;simp only[zg]at q2 r5 c2 c3;have ak2:w3.drew.rangeAt qb 3 [U 0,U 0,U 0,U 0]:=tL (HS.ar 1 rfl) 3 4;refine gR ([5,15,16],[17]) FP (by kernel_rfl) ?_;refine gS (N:=4) [0,1,2,3,4,6,7,8,9,10,11,12,13,14] (by kernel_rfl) ⟨⟨_,Fr.refl _ _⟩,rfl⟩ ?_;simp only[zz];repeat(first|(refine ak 36 _ qb 3 [U 0,U 0,U 0,U 0] _ rfl rfl rfl (aG ak2 hnq) underlying36 rfl (by kernel_rfl) ?_;simp only[Act.put,aZ,zs])|go_big_quiet_step (fail)|quiet_step (fail))
  refine ax ?_;clear q2 ql r5 rl c2 c3 ak2 Lr
 case' g0=>
  clear c0 c1 J0 sZ o_ hre;obtain⟨l,Jd⟩:=RN Jc.1 Jc.2;have eH:=aa (HS.new 55 [I yw,I yt,I Nh.prog,U a0,U a1,U a2,U a3,I yf,I V1,I Wl,.bool yd,I Tl,U Xy]);have xM:=y9 eH.out 3 rfl mS underlying144 underlying3 (by kernel_rfl) Jd;have k0:=(eH.ar 1 rfl).cell 0;have k1:=(eH.ar 1 rfl).cell 1;have kl:=(eH.ar 1 rfl).lt;have r3:=(eH.ar 0 rfl).cell 7;have r4:=(eH.ar 0 rfl).cell 8;have r6:=(eH.ar 0 rfl).cell 10;have tF:=(eH.ar 0 rfl).cell 11;have tG:=(eH.ar 0 rfl).cell 12;have rl:=(eH.ar 0 rfl).lt;have q0:=(eH.ar 2 rfl).cell 0;have q3:=(eH.ar 2 rfl).cell 3;have q4:=(eH.ar 2 rfl).cell 4;have ql:=(eH.ar 2 rfl).lt;simp only[zg]at k0 k1 r3 r4 r6 tF tG q0 q3 q4;have o_:=yZ.out xw xt l Jc.1 Jc.2 Jd;have yF:=aa Jd;have HNE:Hid (rb+1≠mb):=aa (ak0 HS.out 0 2 rfl rfl (by decide));have N1:Hid (m<maxLen):=aa (by unfold maxLen;omega);obtain⟨az7,rfl⟩:=az7;have d3:decide (Gg<last)=false:=cW (λh=>kL (.inl h));have d4:decide (Gg<yf)=false:=cW (λh=>kL (.inr (.inl h)));have d5:decide (V1<Gg)=false:=cW (λh=>kL (.inr (.inr ⟨rfl,h⟩)));obtain⟨rfl,rfl⟩:rI=Tl∧xc=Xy:=Classical.byContradiction (λh=>P4 ⟨rfl,h⟩);rw[aq vA]at o_;rw[o_]at xM;have AY:=aa o_;have tP:=aa jU;clear vA o_ kL P4 jU xT;go_wp2_with fail;have Xz:=(eH.ar 1 rfl).drew;have HS:=aa eH.drew;refine gR ([2,4],[6]) [mb] (by kernel_rfl) ?_;refine gS (N:=5) [0,1] (by kernel_rfl) ⟨⟨_,Fr.refl _ _⟩,rfl⟩ ?_;simp only[zz];repeat(first|(refine ak 146 _ (rb+1) 0 [I xw,I xt] _ rfl rfl rfl (bL Xz (by simp<;>exact HNE.out)) underlying146 rfl (by kernel_rfl) ?_;simp only[Act.put,aZ,zs])|go_big_quiet_step (fail)|quiet_step (fail))
  refine ax ?_;clear Xz xM k0 k1 kl r3 r4 r6 tF tG rl q0 q3 q4 ql e0 e1 e2 e3 e4 e5 e6 e7 e8 e9 o7 qM qN vW NO;generalize World.drew _=wd at HS⊢
 case' g4=>clear c0 c1;obtain⟨l,Jd⟩:=RN Wv.1 Wv.2;have eH:=aa (HS.new 55 [I yw,I yt,I Nh.prog,U a0,U a1,U a2,U a3,I yf,I V1,I Wl,.bool true,I Tl,U Xy]);have xM:=y9 eH.out 1 rfl mS underlying144 underlying3 (by kernel_rfl) Jd;have r0:=(eH.ar 0 rfl).cell 0;have r1:=(eH.ar 0 rfl).cell 1;have r6:=(eH.ar 0 rfl).cell 10;have rl:=(eH.ar 0 rfl).lt;simp only[zg]at r0 r1 r6;have o_:=yZ.out yw yt l Wv.1 Wv.2 Jd;have wY:Hid (rn-(j+1)<gk):=aa (by rw[←HGJ.out];omega);clear Jd;rw[aB vA]at o_;rw[o_]at xM;clear vA o_;go_wp2
 case' g0=>refine dN (N:=4) 2 4 (by kernel_rfl) rfl rfl ?_ ?_;refine ?g6;rotate_left;refine ?g7
 case' V=>
  apply R4 (S:=λX wF=>Sep w0 wF (aJ X 150 [I 0,U ((i:Int)+1),I 5,I 1,.slice none 0 0]::LD w3.drew []::aJ qb 55 [I yw,I yt,I 0,U 0,U 0,U 0,U 0,I yf,I V1,I Wl,.bool yd,I Tl,U Xy]::aJ rb 51 [I Gg,I xw,I xt,I 0,U ((i:Int)+1),.slice na 0 nc]::aJ cb 31 [I 2,I 3,I 20,I 50,U 5,U 99]::rA sb (z3 ((i:Int)+1))::R))
  ·intro HR;refine dN (N:=3) 5 16 (by kernel_rfl) rfl rfl ?_ ?_
   ·
     go_wp2_with fail;refine(Wm.out _ (HP.out _ HS.tail.tail.tail.tail.tail)).kq HS λw5 HS=>?_;go_wp2;refine⟨⟨⟨_,(by exact HK.out _ _ HS.out)⟩,rfl⟩,?_⟩;refine dN (N:=2) 15 16 (by kernel_rfl) rfl rfl ?_ ?_
     ·
       go_wp2_with fail;refine(Aa.out _ _ (λw1 h1=>(HP.out _ (h1.tail.tail.tail.tail)).each 0 (by decide)) (HS.pull 4 rfl)).kk λw7 h7=>?_;have HS:=aa ((((h7.pull 4 rfl).pull 4 rfl).pull 4 rfl).pull 4 rfl);simp only[ze]at HS;clear h7;go_wp2;refine⟨⟨⟨_,(by exact HK.out _ _ HS.out)⟩,rfl⟩,?_⟩;refine bA (N:=1) 16 (by kernel_rfl) rfl ?_;have HS:=aa (HS.new 150 [I 0,U 0,I 0,I 0,.slice none 0 0]);go_wp2;refine⟨⟨⟨_,(by exact HK.out _ _ HS.tail)⟩,rfl⟩,?_⟩;generalize(w7).heap.size=X at HS⊢;generalize World.alloc w7 _=w8 at HS⊢;refine dK (N:=0) 17 (by kernel_rfl) rfl ?_;unfold aw4;go_wp2_with(refine aC HS.out 0 rfl [I 0,U ((i:Int)+1),I 5,I 1,.slice none 0 0] 150 _ _ rfl rfl rfl rfl rfl (by kernel_rfl) (by simp[Value.oneCell']) (λwA hA _=>?_);simp only[zs]at hA;have HS:=aa hA;clear hA);refine step_done (by kernel_rfl) ?_;exact HR X _ HS.out
     ·have HS:=aa (HS.new 150 [I 0,U 0,I 0,I 0,.slice none 0 0]);go_wp2;refine⟨⟨⟨_,(by exact HK.out _ _ HS.tail)⟩,rfl⟩,?_⟩;generalize(w5).heap.size=X at HS⊢;generalize World.alloc w5 _=w6 at HS⊢;refine bA (N:=1) 15 (by kernel_rfl) rfl ?_;go_wp2_with fail;refine(Aa.out _ _ (λw1 h1=>(HP.out _ (h1.tail.tail.tail.tail.tail)).each 0 (by decide)) (HS.pull 5 rfl)).kk λw7 h7=>?_;have HS:=aa (((((h7.pull 5 rfl).pull 5 rfl).pull 5 rfl).pull 5 rfl).pull 5 rfl);simp only[ze]at HS;clear h7;go_wp2;refine⟨⟨⟨_,(by exact HK.out _ _ HS.tail)⟩,rfl⟩,?_⟩;refine dK (N:=0) 17 (by kernel_rfl) rfl ?_;unfold aw4;go_wp2_with(refine aC HS.out 0 rfl [I 0,U ((i:Int)+1),I 5,I 1,.slice none 0 0] 150 _ _ rfl rfl rfl rfl rfl (by kernel_rfl) (by simp[Value.oneCell']) (λwA hA _=>?_);simp only[zs]at hA;have HS:=aa hA;clear hA);refine step_done (by kernel_rfl) ?_;exact HR X _ HS.out
   ·have HS:=aa (HS.new 150 [I 0,U 0,I 0,I 0,.slice none 0 0]);go_wp2;refine⟨⟨⟨_,(by exact HK.out _ _ HS.tail)⟩,rfl⟩,?_⟩;have js:Sep w0 (w3.alloc (.cells #[I 0,U 0,I 0,I 0,.slice none 0 0] 150)).drew (aJ w3.heap.size 150 _::_):=HS.out;generalize w3.heap.size=X at js⊢;generalize(w3.alloc (.cells #[I 0,U 0,I 0,I 0,.slice none 0 0] 150)).drew=w4 at js⊢;have HS:=aa js;clear js;refine bA (N:=2) 5 (by kernel_rfl) rfl ?_;go_wp2_with fail;refine(Wm.out _ (HP.out _ HS.tail.tail.tail.tail.tail.tail)).kq HS λw5 HS=>?_;go_wp2;refine⟨⟨⟨_,(by exact HK.out _ _ HS.tail)⟩,rfl⟩,?_⟩;refine bA (N:=1) 15 (by kernel_rfl) rfl ?_;go_wp2_with fail;refine(Aa.out _ _ (λw1 h1=>(HP.out _ (h1.tail.tail.tail.tail.tail)).each 0 (by decide)) (HS.pull 5 rfl)).kk λw7 h7=>?_;have HS:=aa (((((h7.pull 5 rfl).pull 5 rfl).pull 5 rfl).pull 5 rfl).pull 5 rfl);simp only[ze]at HS;clear h7;go_wp2;refine⟨⟨⟨_,(by exact HK.out _ _ HS.tail)⟩,rfl⟩,?_⟩;refine dK (N:=0) 17 (by kernel_rfl) rfl ?_;unfold aw4;go_wp2_with(refine aC HS.out 0 rfl [I 0,U ((i:Int)+1),I 5,I 1,.slice none 0 0] 150 _ _ rfl rfl rfl rfl rfl (by kernel_rfl) (by simp[Value.oneCell']) (λwA hA _=>?_);simp only[zs]at hA;have HS:=aa hA;clear hA);refine step_done (by kernel_rfl) ?_;exact HR X _ HS.out
  ·intro X wF hS;have HS:=aa hS;clear hS;obtain⟨q2,ql,-⟩:=qJ (HS.ar 0 rfl);obtain⟨r5,rl,-⟩:=qJ (HS.ar 3 rfl);go_wp2_with fail;clear q2 ql;obtain⟨q2,ql,-⟩:=qJ (HS.ar 0 rfl).drew;refine bW [(1,[0,1,2,3,4,5,6,7,8,9,10,13,14]),(2,[11]),(0,[12,15,16,17])] (by kernel_rfl) ?_;simp only[zz];repeat(first|go_big_quiet_step(fail)|apply ax|apply af|apply ag|apply ah)
   refine aA ?_;go_wp2;refine⟨⟨⟨_,(by exact Fr.refl _ _)⟩,rfl⟩,?_⟩;repeat(first|go_big_quiet_step(fail)|apply ax|apply af|apply ag|apply ah)
   refine aj ?_;have HS:=aa HS.drew;go_wp2;go_roundg (rows.length-(i+1))
   case measure=>exact wY.out
   case rel=>exact⟨i+1,rfl,by omega,HS.tail.tail.tail.tail.pull 1 rfl⟩
 case' g4=>
  go_roundg (rn-(j+1))
  case measure=>exact wY.out
  case rel=>exact⟨j+1,rfl,by omega,rfl,eH.tail⟩
 case' U=>
  have hi:i=rows.length:=by omega
  subst hi;go_wp2;refine aV (results_tmp3 rfl _ _ _) rfl ?_
 case' U=>exact⟨_,rfl,(HS.pull 1 rfl).tail⟩
 case' G=>exact⟨0,0,_,0,[],rfl,rfl,by omega,by omega,by omega,λa b l _ _ _=>by simp,J2.out,HS.out⟩
 case' g6=>
  have xM:=y9 HS.out 3 rfl mS underlying144 underlying3 (by kernel_rfl) yF.out;rw[AY.out]at xM;go_wp2;refine⟨⟨⟨_,(by exact Fr.refl _ _)⟩,rfl⟩,?_⟩;clear xM;refine bP (N:=3) [3] (by kernel_rfl) ?_;simp only[zz];repeat go_big_quiet_step(fail)
  refine ax ?_;refine bA (N:=2) 4 (by kernel_rfl) rfl ?_
 case' g6|g7=>obtain⟨v0,st,w5,Kc,Dv,RW⟩:=vV HS.out 3 rfl vS underlying144 underlying3 (λ_=>by kernel_rfl) N1.out yF.out;have sk:=aa Dv;have Cq:=aa RW;clear Dv RW;go_wp2;refine⟨⟨⟨_,(by exact Cq.out)⟩,rfl⟩,?_⟩;clear Kc
 case' g6=>refine bP (N:=1) [5] (by kernel_rfl) ?_
 case' g7=>
  refine bP (N:=3) [5] (by kernel_rfl) ?_;simp only[zz];repeat go_big_quiet_step(fail)
  refine ax ?_;refine bA (N:=2) 2 (by kernel_rfl) rfl ?_;have xM:=vT sk.out 3 rfl mS underlying144 underlying3 (by kernel_rfl) yF.out;rw[AY.out]at xM;go_wp2;refine⟨⟨⟨_,(by exact Cq.out)⟩,rfl⟩,?_⟩;clear xM;refine bP (N:=1) [3] (by kernel_rfl) ?_
 case' g6|g7=>
  simp only[zz];repeat go_big_quiet_step(fail)
  refine ax ?_;refine dK (N:=0) 6 (by kernel_rfl) rfl ?_;obtain⟨w6,gx,Cd,_⟩:=vU (u:=1) sk.out 3 rfl (by decide);unfold goInt at gx;have Dx:=aa Cd;clear Cd;go_wp2;refine step_done (by kernel_rfl) ?_;clear gx;have q0:=(Dx.ar 2 rfl).cell 0;simp only[zg]at q0;have ql:=(Dx.ar 2 rfl).lt;have wY:Hid (n-(i+1)<gk):=aa (by rw[←HG.out];omega);go_wp2
 case' g6=>
  go_roundg (n-(i+1))
  case' measure=>skip
  refine ?g8
  case' rel=>skip
  refine ?g9
 case' g7=>
  go_roundg (n-(i+1))
  case' measure=>skip
  refine ?ga
  case' rel=>skip
  refine ?gb
 case' g8=>exact wY.out
 case' g9|gb=>exact⟨i+1,m+1,_,Gg,_,rfl,rfl,by omega,by omega,rfl,Seen.add yZ.out Jc.1 Jc.2 yF.out,by have:=tP.out;rw[←Kl.out]at this;exact this,Dx.tail.tail.tail⟩
 case' ga=>exact wY.out
 case' g2=>exact⟨0,rfl,by omega,by omega,HS.out⟩
 have d1:decide ((j:Int)<(rn:Int))=false:=cW (by omega);go_wp2;refine aV (results_tmp2 rfl _ _ _) rfl ?_;first|exact⟨_,rfl,HS.tail⟩|exact⟨⟨_,rfl⟩,HS.tail⟩
def Gz:=@zq43.1
def Ns:=@zq43.2
