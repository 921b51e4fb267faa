/- A part of the proof. -/
import Derived.Test.YtolkmchicplaoaaGreatA13
set_option linter.all false
set_option maxHeartbeats 8000000
set_option maxRecDepth 100000
namespace Go.Proofs.YtolkmchicplaoaaGreat
open Go.RowKit Go.aS Go.aS.I_ Go.aS.Y Go.Maps
structure xu (w:World)(v:Value)(dY:List Value)(rows:List Z.Row):Prop where
 len:dY.length=rows.length
 row:dB (λp:Value×Z.Row=>j6 p.1 p.2) 6 w v (dY.zip rows)
 each:∀p∈dY.zip rows,∃a cap,p.1= .slice a p.2.news.length cap
def GP (x:Int):Prop:=(Lit.int .i64 x).wf=true
def RP (x:Z.Row):Prop:=GP x.aw∧GP x.tag
def RQ (x:Z.Rec):Prop:=GP x.aw∧GP x.tag
def Seen (f:Lit→Int)(seen:List (Int×Int)):Prop:=∀a b l,GP a→GP b→keyOf Tryz.prog 146 (.agg #[I a,I b])=some l→f l=if(a,b)∈seen then 1 else 0
def Seen.add {f:Lit→Int}{seen}(h:Seen f seen){a b}(ha:GP a)(hb:GP b){l:Lit}(hl:keyOf Tryz.prog 146 (.agg #[I a,I b])=some l):Seen (RO f l 1) ((a,b)::seen):=by
 intro a2 b2 l2 ha2 yU rR;unfold RO;by_cases e:l2=l
 ·rw[aB e];subst e;have:=mS.inj hl rR;simp only[Value.agg.injEq,Array.mk.injEq,List.cons.injEq,Value.int.injEq,true_and,and_true]at this;obtain⟨rfl,rfl⟩:=this;rw[aB (by simp)]
 ·rw[aq e,h a2 b2 l2 ha2 yU rR];have pg:(a2,b2)≠(a,b):=by
   intro he;simp only[nL]at he;obtain⟨rfl,rfl⟩:=he;rw[hl]at rR;exact e (eQ rR).symm
  simp[pg]
def Kk {aM a b}(h:0≤Or.find aM a b):(Or.find aM a b).toNat<aM.length∧Or.find aM a b=((Or.find aM a b).toNat:Int):=by
 unfold Or.find at h⊢;cases hf:aM.findIdx? (λr=>decide (r.aw=a∧r.tag=b))with
 |none=>rw[hf]at h;simp at h
 |some i=>
  rw[CS]at hf;obtain⟨hi,_⟩:=hf;exact⟨hi,rfl⟩
def ak0 {w0 w Ts}(h:Sep w0 w Ts)(i j:Nat){b mb n:Nat}{T:TypeId}{cs}{P:Program}{k e:TypeId}{q:IntKind}{f:Lit→Int}(hi:Ts[i]?=some (aJ b T cs))(hj:Ts[j]?=some (kmT P k e q mb n f))(yN:i≠j):b≠mb:=by
 obtain⟨h0,F,hF,hd⟩:=h;have p0:=(hF i _ hi).1.1;have p1:=(hF j _ hj).1.1;have td:=(dE.1 hi).1;have mW:=(dE.1 hj).1;intro e;subst e;exact hd i j td mW yN b (by rw[p0];simp) (by rw[p1];simp)
def zkm (mb n:Nat)(f:Lit→Int):a_:=kmT Tryz.prog 146 3 .i64 mb n f
def R1 {bY args i}(hn:JZ i)(r):(Mo.act bY args i r).2≠43:=by
 have Ey:i.op≠15:=λe=>hn (.inr (.inr (.inl e)));unfold Mo.act
 (repeat' split)<;>first|(exfalso;contradiction)|(dsimp only;decide)
def AE {F bY:Int}(hm:0≤bY∧bY≤1000){args:List Int}{code:List In}(hr:right code=true)(hu:∀i∈code,W.U_ i.bN)(kL:∀i∈code,JZ i){roots:List Int}(hl:roots.length=16)(um:∀x∈roots,W.U_ x):∀(n:Nat) (r:Mo.R),MI args r→r.pc<code.length→r.ended=false→
 ((Mo.gA F bY code args roots n r).1.length=16∧(∀x∈(Mo.gA F bY code args roots n r).1,W.U_ x))∧(Mo.gA F bY code args roots n r).2.1≠43
 |0,r,_,_,_=>⟨⟨hl,um⟩,by unfold Mo.gA;show(41:Int)≠43;decide⟩
 |n+1,r,h,hp,he=>by
  have h1:MI args {r with steps:=r.steps+1}:=⟨h.a4,h.au,h.tL,h.ru,h.ro,h.LP,h.pc,h.wr⟩;obtain⟨a1,a2,a3⟩:=MI.step hm hr hu h1 (show r.pc<code.length from hp) (show r.ended=false from he);dsimp only at a1 a2 a3;have hk:r.pc.toNat<code.length:=by have:=h.pc;omega
  have oR:=kL _ (cJ hk);rw[show code[r.pc.toNat]=code.getD r.pc.toNat i0 by simp[List.getD,hk]]at oR;have h43:(Mo.step bY args (code.getD r.pc.toNat i0) {r with steps:=r.steps+1}).2≠43:=R1 oR _;unfold Mo.gA;dsimp only;by_cases h0:(Mo.step bY args (code.getD r.pc.toNat i0) {r with steps:=r.steps+1}).2=0
  ·rw[aq (by simpa using h0)];by_cases h2:(Mo.step bY args (code.getD r.pc.toNat i0) {r with steps:=r.steps+1}).1.ended=true
   ·rw[aB h2];exact⟨⟨a1.ro,a1.LP⟩,by show(0:Int)≠43;decide⟩
   ·rw[aq h2];have h2':(Mo.step bY args (code.getD r.pc.toNat i0) {r with steps:=r.steps+1}).1.ended=false:=by simpa using h2
    exact AE hm hr hu kL hl um n _ a1 (a3 h0 h2') h2'
  ·rw[aB h0];exact⟨⟨hl,um⟩,h43⟩
def CE {c:cA}(aE:Y.Ok c){args:List Int}(gN:args.length=4)(p6:∀x∈args,W.U_ x){code:List In}(hu:∀i∈code,W.U_ i.bN)(kL:right code=true→∀i∈code,JZ i){roots:List Int}(hl:roots.length=16)(um:∀x∈roots,W.U_ x):
 ((Mo.run c code args roots).1.length=16∧(∀x∈(Mo.run c code args roots).1,W.U_ x))∧(Mo.run c code args roots).2.1≠43:=by
 have h1:=aE.Jw;have h3:=aE.w0;unfold Mo.run;by_cases hr:right code=true
 ·rw[aB hr];have nH:=c_ hr;exact AE (by omega) hr hu (kL hr) hl um _ _ ⟨gN,p6,by simp,λx hx=>by rw[zb hx];exact⟨by decide,by decide⟩,hl,um,by dsimp only;omega,by dsimp only;omega⟩ (by show(0:Int)<code.length;omega) rfl
 ·rw[aq hr];exact⟨⟨hl,um⟩,by show(30:Int)≠43;decide⟩
structure XA (ai:List (List In))(r:Z.Rec):Prop where
 a4:r.call.args.length=4
 au:∀x∈r.call.args,W.U_ x
 aw:GP r.aw
 tag:GP r.tag
def ak1 {l}(h:l.length=4):bC l=[U (l.getD 0 0),U (l.getD 1 0),U (l.getD 2 0),U (l.getD 3 0)]:=by
 match l,h with
 |[a,b,c,d],_=>rfl
def D3 (c ai aM x l roots):Or.mZ c ai aM (x::l) roots=(if Or.find aM x.aw x.tag<0 then(roots,4)else if x.rc=45 then Or.mZ c ai aM l roots else if¬((Mo.run c (K.bU ai (Or.recAt aM (Or.find aM x.aw x.tag)).call.prog) (Or.recAt aM (Or.find aM x.aw x.tag)).call.args roots).2.1=x.rc∧(Mo.run c (K.bU ai (Or.recAt aM (Or.find aM x.aw x.tag)).call.prog) (Or.recAt aM (Or.find aM x.aw x.tag)).call.args roots).2.2=x.rv)then(roots,51)else if(Mo.run c (K.bU ai (Or.recAt aM (Or.find aM x.aw x.tag)).call.prog) (Or.recAt aM (Or.find aM x.aw x.tag)).call.args roots).2.1=43∧b_ c<c.b then(roots,43)else Or.mZ c ai aM l (Mo.run c (K.bU ai (Or.recAt aM (Or.find aM x.aw x.tag)).call.prog) (Or.recAt aM (Or.find aM x.aw x.tag)).call.args roots).1):=by
 rw[Or.mZ]
def Fr.only {F:List Nat}{w w'}(h:Fr F w w')(Je:List Nat)(hk:∀k∈Je,w'.heap[k]?=w.heap[k]?):Fr ((List.range w.heap.size).filter (λk=>decide (k∉Je))) w w':=
 ⟨h.os,h.tape,h.output,h.size,λk h1 h2=>hk k (by
  by_cases e:k∈Je
  ·exact e
  ·exact absurd (List.mem_filter.2 ⟨oF.2 h1,by simpa using e⟩) h2)⟩
def R2 {ai:List (List In)}(h:∀p∈ai,right p=true→∀i∈p,JZ i)(k:Int):right (K.bU ai k)=true→∀i∈K.bU ai k,JZ i:=by
 unfold K.bU;split
 ·intro _ i hi;cases hi
 ·rename_i hk;intro hr i hi;have hl:k.toNat<ai.length:=by omega
  rw[show ai.getD k.toNat []=ai[k.toNat] by simp[List.getD,hl]]at hr hi;exact h _ (cJ hl) hr i hi
def as6 {ai}(h:∀p∈ai,∀i∈p,W.U_ i.bN)(k):∀i∈K.bU ai k,W.U_ i.bN:=by
 unfold K.bU;split
 ·intro i hi;cases hi
 ·rename_i hk;intro i hi;have hl:k.toNat<ai.length:=by omega
  rw[show ai.getD k.toNat []=ai[k.toNat] by simp[List.getD,hl]]at hi;exact h _ (cJ hl) i hi
def Sep.pin {w0 w Ts}(h:Sep w0 w Ts):Sep w0 w (LD w []::Ts):=
 h.push (Fr.refl [] w) (fp:=[]) ⟨rfl,by simp,by simp,dp _⟩ (by simp)
def V4 {w0 w w' Ts NJ}(h:Sep w0 w Ts)(h':Sep w0 w' NJ)(i:Nat)(hi:NJ[i]?=some (LD w []))(Je:List Nat)(hk:∀k∈Je,w'.heap[k]?=w.heap[k]?):Fr ((List.range w.heap.size).filter (λk=>decide (k∉Je))) w w':=by
 obtain⟨fp,hp,_⟩:=h'.get i hi;exact⟨h'.1.os.trans h.1.os.symm,h'.1.tape.trans h.1.tape.symm,h'.1.output.trans h.1.output.symm,hp.2.2.2,λk h1 h2=>hk k (by
  by_cases e:k∈Je
  ·exact e
  ·exact absurd (List.mem_filter.2 ⟨oF.2 h1,by simpa using e⟩) h2)⟩
def D4 {w w' k}{T:TypeId}{cs}(h:cB w k T cs)(h':cB w' k T cs):w'.heap[k]?=w.heap[k]?:=h'.trans h.symm
def D5 (w0 w':World)(R:List a_)(r:Ending)(X:List Int×Int):Prop:=(∃sb,X.2=0∧r= .returned (.tuple #[O sb,I 0,I 0])∧Sep w0 w' (rA sb X.1::R))∨∃n,X.2≠0∧r= .returned (.tuple #[.pointer none,I n,I X.2])∧Sep w0 w' R
def zq74:(∀{w0 w R iV v dY aM rows}(hl:aM.length≤1000000)(nH:rows.length≤1000000)(hA:∀w',Sep w0 w' R→dB eI 13 w' iV aM)(hW:∀w',Sep w0 w' R→xu w' v dY rows)(RS:∀x∈rows,RP x)(Ng:∀x∈aM,RQ x)(hS:Sep w0 w R),Calls Tryz.prog 32 #[iV,v] w λr w'=>∃n,r= .returned (.tuple #[I n,I (Or.fits aM rows)])∧Sep w0 w' R)∧(∀{w0 w R c}(aE:Y.Ok c){ai pv iV v aO dY aM rows}(hl:aM.length≤1000000)(nH:rows.length≤1000000)(hP:∀w',Sep w0 w' R→cL w' pv aO ai)(hA:∀w',Sep w0 w' R→dB eI 13 w' iV aM)(hW:∀w',Sep w0 w' R→xu w' v dY rows)(RS:∀x∈rows,x.news=[])(Ng:∀x∈aM,XA ai x)(ZG:∀p∈ai,∀i∈p,W.U_ i.bN)(kL:∀p∈ai,right p=true→∀i∈p,JZ i)(hS:Sep w0 w R),Calls Tryz.prog 33 #[db c,pv,iV,v] w λr w'=>D5 w0 w' R r (Or.replay c ai aM rows)):=by
 refine⟨?Z,?Y⟩
 case' Z=>intro w0 w R iV v dY aM rows hl nH hA hW RS Ng hS
 case' Y=>intro w0 w R c aE ai pv iV v aO dY aM rows hl nH hP hA hW RS Ng ZG kL hS
 case' Z|Y=>
  obtain⟨ra,rc,rfl⟩:=(hA w hS).len;have LH:=hW w hS;have rN:(dY.zip rows).length=rows.length:=by rw[nK,LH.len,Nat.min_self]
  obtain⟨va,vc,hv⟩:=LH.row.len;rw[rN]at hv;subst hv
 case' Z=>have HA:=aa hA
 case' Z|Y=>have HW:=aa hW;have HOR:=aa RS;have HOC:=aa Ng
 case' Z=>have VR:=aa rN;obtain⟨X1,tM⟩:∃X1,Or.fits aM rows=X1:=⟨_,rfl⟩;rw[tM];have J2:=aa tM;clear tM hA hW RS Ng rN LH;have HS:=aa (hS.aj8 Tryz.prog 146 3 .i64);clear hS
 case' Y=>have HPU:=aa ZG;have C4:=aa kL;have HP:=aa hP;have VR:=aa rN;have Ni:=aa aE;have GQ:=aa (λw'=>u5 w' c aE);obtain⟨X1,tM⟩:∃X1,Or.replay c ai aM rows=X1:=⟨_,rfl⟩;rw[tM];have J2:=aa tM;clear tM hW RS Ng rN LH ZG kL hP
 case' Z|Y=>obtain⟨rn,z5⟩:∃rn,aM.length=rn:=⟨_,rfl⟩;obtain⟨n,hn⟩:∃n,rows.length=n:=⟨_,rfl⟩;have z6:=aa z5;have HN:=aa hn
 case' Z=>rw[hn]at nH⊢;have HA2:Hid (∀w',Sep w0 w' R→dB eI 13 w' (.slice ra rn rc) aM):=aa (λw' h=>by rw[←z5];exact HA.out w' h);clear HA;have HA:=HA2;clear HA2;rw[z5]at hl⊢;clear hn z5;have Lx:=@run_makeMap Tryz.prog;go_in;go_wp2_with fail;generalize Xe:w.heap.size=mb at HS⊢;generalize World.alloc _ _=w1 at HS⊢;clear Xe Lx
 case' Y=>
  have HA:Hid (∀w',Sep w0 w' R→dB eI 13 w' (.slice ra rn rc) aM):=aa (λw' h=>by rw[←z5];exact hA w' h);rw[hn]at nH⊢;rw[z5]at hl⊢;clear hn z5 hA;have HSC:=aa (hS.new 31 (gT c));clear hS;unfold gT at HSC;have TO:=(HSC.ar 0 rfl);have c0:=TO.cell 0;have c1:=TO.cell 1;have c2:=TO.cell 2;have c3:=TO.cell 3;have c4:=TO.cell 4;have c5:=TO.cell 5;simp only[zg]at c0 c1 c2 c3 c4 c5;clear TO;unfold db aY at GQ;unfold db;go_in;go_wp2_with fail;refine(GQ.out _).kq HSC λw1 HS=>?_;clear HSC GQ c0 c1 c2 c3 c4 c5;generalize w.heap.size=cb at*;have GL:∀z9∈ae c,z9.oneCell'=true:=by unfold ae;simp[Value.oneCell']
  have AG:(ae c).length=24:=rfl;generalize ae c=mc at*;have de:=aa (HS.new 58 uZ);unfold uZ at de;go_wp2_with(refine aC de.out 0 rfl mc 58 _ _ rfl rfl rfl rfl (by rw[AG];rfl) (by rw[AG];kernel_rfl) GL (λwA hA _=>?_);simp only[aL,aN]at hA;have eH:=aa hA;clear hA);refine(E5 _).mono ?_;rintro r w2 ⟨sb,rfl,h2⟩;have HS:=aa ((eH.fresh h2.jm).pull 1 rfl).tail;simp only[ze]at HS;clear h2 eH de;generalize w1.heap.size=mb at HS⊢;go_wp2_with fail
 case' Z=>
  go_loopg [7,18] n (λg v7 v18 wr=>∃(i m:Nat) (f:Lit→Int) (last:Int) (seen:List (Int×Int)),v7=I last∧v18=I i∧i≤n∧m≤i∧n-i=g∧Seen f seen∧Or.vx aM (rows.drop i) seen last=X1∧Sep w0 wr (zkm mb m f::R))
  case' atStart=>skip
  refine ?X
  case' round=>skip
  refine ?J
 case' Y=>
  go_loopg [31] n (λg v31 wr=>∃(i:Nat) (roots:List Int),v31=I i∧i≤n∧n-i=g∧roots.length=16∧(∀x∈roots,W.U_ x)∧Or.mZ c ai aM (rows.drop i) roots=X1∧Sep w0 wr (rA sb roots::aJ cb 31 [I c.t,I c.b,I c.w,I c.f,U c.fi,U c.la]::R))
  case' atStart=>skip
  refine ?G
  case' round=>skip
  refine ?D
 case' X=>exact⟨0,0,_,0,[],rfl,rfl,by omega,by omega,by omega,λa b l _ _ _=>by simp,J2.out,HS.out⟩
 case' J=>clear HS J2;obtain⟨i,m,f,last,seen,rfl,rfl,hi,PC,hg,hse,jU,hS⟩:=hrel;have HS:=aa hS;have yZ:=aa hse;have xT:=aa jU;have HG:=aa hg;clear hS hse jU hg
 case' J=>by_cases tH:i<n;refine ?V;rotate_left;refine ?U
 case' D=>clear HS J2;obtain⟨i,roots,rfl,hi,hg,H3,um,jU,hS⟩:=hrel;have HS:=aa hS;have xT:=aa jU;have HG:=aa hg;have HL:=aa H3;have HRO:=aa um;clear hS jU hg H3 um
 case' D=>by_cases tH:i<n;refine ?g0;rotate_left;refine ?g1
 case' V|g0=>
  have td:(i:Int)<(n:Int):=by omega
  have d1:decide ((i:Int)<(n:Int))=true:=eP td;have hw:IntKind.i64.wrap ((i:Int)+1)=((i+1:Nat):Int):=by rw[bf _ (by omega) (by omega)];rfl
  have Hh:i<rows.length:=by rw[HN.out];exact tH
  have hlz:i<(dY.zip rows).length:=by rw[VR.out];exact Hh
  have h_:=aa (λw' h=>dB.at (a:=va) (m:=(dY.zip rows).length) (cap:=vc) (by have:=(HW.out w' h).row;rw[VR.out];rw[HN.out]at this⊢;exact this) hlz);have Yp:(dY.zip rows)[i].2=rows[i]:=by simp
  have Jc:=HOR.out _ (cJ Hh);have vp:rows.drop i=rows[i]::rows.drop (i+1):=pO Hh;rw[vp]at xT
 case' V=>have k7:=(HW.out _ HS.tail).each _ (cJ hlz)
 case' g0=>have k7:=(HW.out _ HS.tail.tail).each _ (cJ hlz)
 case' V|g0=>generalize yh:rows.drop (i+1)=rest at*;have Kl:=aa yh;clear yh;generalize(dY.zip rows)[i]=pr at*;generalize rows[i]=x at*;obtain⟨nv,x0⟩:=pr;dsimp only at Yp;subst Yp;obtain⟨Gg,xw,xt,rI,xc,Mu⟩:=x0
 case' V=>unfold j6 at h_;dsimp only at h_;dsimp only at k7;obtain⟨na,nc,rfl⟩:=k7;obtain⟨xa,rfl,uI,c0,c1⟩:=h_.out _ HS.tail;have dS:=aa (HS.new 51 [I Gg,I xw,I xt,I rI,U xc,.slice na Mu.length nc]);have de:=aa (dS.new 146 [I xw,I xt]);simp only[cG]at de
 case' g0=>dsimp only at Jc k7;subst Jc;unfold j6 at h_;dsimp only at h_;obtain⟨na,nc,rfl⟩:=k7;obtain⟨xa,rfl,uI,c0,c1⟩:=h_.out _ HS.tail.tail;have dS:=aa (HS.new 51 [I Gg,I xw,I xt,I rI,U xc,.slice na 0 nc])
 case' V|g0=>have q1:=(dS.ar 0 rfl).cell 1;have q2:=(dS.ar 0 rfl).cell 2
 case' V=>have ql:=(dS.ar 0 rfl).lt;have k0:=(de.ar 0 rfl).cell 0;have k1:=(de.ar 0 rfl).cell 1;have kl:=(de.ar 0 rfl).lt;simp only[zg]at q1 q2 k0 k1
 case' g0=>simp only[zg]at q1 q2
 case' V|g0=>have e0:=c0 _ rfl;have e1:=c1 0 _ rfl;have e2:=c1 1 _ rfl;have e3:=c1 2 _ rfl;have e4:=c1 3 _ rfl;have e5:=c1 4 _ rfl
 case' g0=>simp only[mD]at e5
 case' V|g0=>clear c0 c1 vp;go_wp2_with fail;have V0:=aa (λw' h=>Gd w' (.slice ra rn rc) aM (by rw[z6.out];exact hl) (HA.out w' h) xw xt)
 case' V=>refine(V0.out _ de.tail.tail.tail).kq de λw2 HS=>?_;clear V0 dS de q1 q2 ql k0 k1 kl e0 e1 e2 e3 e4 e5 uI h_
 case' g0=>refine(V0.out _ dS.tail.tail.tail).kq dS λw2 HS=>?_;clear V0 dS q1 q2 e0 e1 e2 e3 e4 e5 uI h_
 case' V|g0=>generalize wr.heap.size=rb at*;generalize sZ:Or.find aM xw xt=fi at*
 case' g0=>have jU:=xT.out;rw[D3]at jU;dsimp only at jU;rw[sZ]at jU
 case' V=>by_cases Gh:fi<0;refine ?g2;rotate_left;refine ?g3
 case' g0=>by_cases Gh:fi<0;refine ?g4;rotate_left;refine ?g5
 case' g2=>
  have d2:decide (fi<0)=true:=eP Gh;have HX:Hid (X1=4):=aa (by
   have:=xT.out;unfold Or.vx at this;dsimp only at this;rw[sZ,aB Gh]at this;exact this.symm)
  clear Gh sZ;go_wp2_with fail;refine aV (results_tmp2 rfl _ _ _) rfl ?_;rw[HX.out]
 case' g2=>exact⟨_,rfl,HS.tail.tail.tail⟩
 case' U=>have d1:decide ((i:Int)<(n:Int))=false:=cW (by omega);have jU:=xT.out;rw[yM (by have:=HN.out;omega)]at jU;unfold Or.vx at jU;have xT:=aa jU;clear jU;go_wp2_with fail;clear d1
 case' U=>
  go_loopg [90] rn (λg v90 wr=>∃j:Nat,v90=I j∧j≤rn∧rn-j=g∧(∀q,(h:q<aM.length)→q<j→(!aM[q].done||decide ((aM[q].aw,aM[q].tag)∈seen))=true)∧Sep w0 wr (zkm mb m f::R))
  case' atStart=>skip
  refine ?g6
  case' round=>skip
  refine ?g7
 case' g7=>clear HS;obtain⟨j,rfl,hj,yy,aE,hS⟩:=hrel;have HS:=aa hS;have Ni:=aa aE;have HGJ:=aa yy;clear hS aE yy
 case' g7=>by_cases hjr:j<rn;refine ?g8;rotate_left;refine ?g9
 case' g5=>have d2:decide (fi<0)=false:=cW Gh;rw[aq Gh]at jU;have q3:=(HS.ar 0 rfl).cell 3;simp only[zg]at q3;have wY:Hid (n-(i+1)<gk):=aa (by rw[←HG.out];omega)
 case' g5=>by_cases h45:rI=45;refine ?ga;rotate_left;refine ?gb
 case' g3=>have d2:decide (fi<0)=false:=cW Gh
 case' gb=>
  have e45:(rI==45)=false:=by simpa using h45
  rw[aq h45]at jU
 case' g3|gb=>have o_:=Kk (aM:=aM) (a:=xw) (b:=xt) (by rw[sZ];omega);rw[sZ]at o_;obtain⟨k,hk⟩:∃k:Nat,fi=(k:Int):=⟨fi.toNat,o_.2⟩;subst hk;rw[dU]at o_;have fu:=o_.1;have sh:(k:Int)<(rn:Int):=by have:=z6.out;omega
 case' g3=>have jU:=xT.out;unfold Or.vx at jU;dsimp only at jU;rw[sZ,aq Gh]at jU
 case' g3|gb=>
  have hre:Or.recAt aM (k:Int)=aM[k]:=by unfold Or.recAt;rw[dU,cO,cy fu];rfl
  rw[hre]at jU
 case' g3=>have az7:=HOC.out _ (cJ fu)
 case' gb=>have hrk:=HOC.out _ (cJ fu)
 case' g8=>
  have hjn:(j:Int)<(rn:Int):=by omega
  have d1:decide ((j:Int)<(rn:Int))=true:=eP hjn;have hw:IntKind.i64.wrap ((j:Int)+1)=((j+1:Nat):Int):=by rw[bf _ (by omega) (by omega)];rfl
  have fu:j<aM.length:=by rw[z6.out];exact hjr
  have hoy:=HOC.out _ (cJ fu)
 case' g3|gb|g8=>have vW:=aa (λw' h=>dB.at (a:=ra) (m:=rn) (cap:=rc) (HA.out w' h) fu)
 case' g3|gb=>generalize aM[k]=y at*;obtain⟨yw,yt,Nh,yf,V1,yst,yd,Tl,Xy⟩:=y
 case' g3=>unfold eI at vW;dsimp only at vW jU;generalize Nh.args.getD 0 0=a0 at*;generalize Nh.args.getD 1 0=a1 at*;generalize Nh.args.getD 2 0=a2 at*;generalize Nh.args.getD 3 0=a3 at*
 case' gb=>obtain⟨cp,ca⟩:=Nh;unfold eI at vW;dsimp only at vW jU;have gN:=hrk.a4;have p6:=hrk.au;dsimp only at gN p6;have hu4:=ak1 gN;have Aa:=aa (λw' (R':List a_) (hP':∀w1,Sep w0 w1 R'→cL w1 pv aO ai) (NZ:Sep w0 w' (rA sb roots::R'))=>Qa (w0:=w0) (w:=w') (R:=R') Ni.out (pa:=na) (pn:=0) (Zb:=nc) gN p6 HL.out HRO.out (code:=K.bU ai cp) (R2 C4.out cp) (cv:=dh aO cp) (λw1 h1=>(hP' w1 h1).mA cp) NZ);have qJ:=aa (CE Ni.out gN p6 (as6 HPU.out cp) (R2 C4.out cp) HL.out HRO.out);rw[hu4]at Aa;generalize Mo.run c (K.bU ai cp) ca roots=d at*;obtain⟨Jf,BE,N6⟩:=d;dsimp only at jU Aa qJ;generalize ca.getD 0 0=a0 at*;generalize ca.getD 1 0=a1 at*;generalize ca.getD 2 0=a2 at*;generalize ca.getD 3 0=a3 at*
 case' g3|gb=>obtain⟨xb,rfl,NO,c0,c1⟩:=vW.out _ HS.tail.tail.tail
 case' g8=>
  have IE:Hid ((!aM[j].done||decide ((aM[j].aw,aM[j].tag)∈seen))=true→∀q,(h:q<aM.length)→q<j+1→(!aM[q].done||decide ((aM[q].aw,aM[q].tag)∈seen))=true):=aa (λh1 q h2 h3=>by
   by_cases e:q=j
   ·subst e;exact h1
   ·exact Ni.out q h2 (by omega))
  have HBD:Hid ((!aM[j].done||decide ((aM[j].aw,aM[j].tag)∈seen))=false→X1=4):=aa (λh1=>by
   have:=xT.out;rw[aq (λha=>by
    rw[mC]at ha;have:=ha _ (cJ fu);rw[h1]at this;cases this)]at this
   exact this.symm)
  generalize aM[j]=y at*;obtain⟨yw,yt,Nh,yf,V1,yst,yd,Tl,Xy⟩:=y;unfold eI at vW;dsimp only at vW IE HBD;generalize Nh.args.getD 0 0=a0 at*;generalize Nh.args.getD 1 0=a1 at*;generalize Nh.args.getD 2 0=a2 at*;generalize Nh.args.getD 3 0=a3 at*;obtain⟨xb,rfl,NO,c0,c1⟩:=vW.out _ HS.tail
 case' g3|gb|g8=>have e0:=c0 _ rfl;have e1:=c1 0 _ rfl;have e2:=c1 1 _ rfl;have e3:=c1 2 _ rfl;have e4:=c1 3 _ rfl;have e5:=c1 4 _ rfl;have e6:=c1 5 _ rfl;have e7:=c1 6 _ rfl;have e8:=c1 7 _ rfl;have e9:=c1 8 _ rfl;have o7:=c1 9 _ rfl;have qM:=c1 10 _ rfl;have qN:=c1 11 _ rfl
 case' g3=>clear c0 c1 Gh sZ o_ hre;obtain⟨l,Jd⟩:=RN Jc.1 Jc.2;have eH:=aa (HS.new 55 [I yw,I yt,I Nh.prog,U a0,U a1,U a2,U a3,I yf,I V1,I yst,.bool yd,I Tl,U Xy]);have xM:=y9 eH.out 3 rfl mS Tryz.underlying144 Tryz.underlying3 (by kernel_rfl) Jd;have k0:=(eH.ar 1 rfl).cell 0;have k1:=(eH.ar 1 rfl).cell 1;have kl:=(eH.ar 1 rfl).lt;have r3:=(eH.ar 0 rfl).cell 7;have r4:=(eH.ar 0 rfl).cell 8;have r6:=(eH.ar 0 rfl).cell 10;have tF:=(eH.ar 0 rfl).cell 11;have tG:=(eH.ar 0 rfl).cell 12;have rl:=(eH.ar 0 rfl).lt;have q0:=(eH.ar 2 rfl).cell 0;have q3:=(eH.ar 2 rfl).cell 3;have q4:=(eH.ar 2 rfl).cell 4;have ql:=(eH.ar 2 rfl).lt;simp only[zg]at k0 k1 r3 r4 r6 tF tG q0 q3 q4;have o_:=yZ.out xw xt l Jc.1 Jc.2 Jd;have yF:=aa Jd;have HNE:Hid (rb+1≠mb):=aa (ak0 HS.out 0 2 rfl rfl (by decide));have N1:Hid (m<maxLen):=aa (by unfold maxLen;omega);have xT:=aa jU;clear jU
 case' gb=>
  clear c0 c1 Gh sZ o_ hre hrk gN p6 hu4 vW h45;have tP:=aa jU;clear jU;have eH:=aa (HS.new 55 [I yw,I yt,I cp,U a0,U a1,U a2,U a3,I yf,I V1,I yst,.bool yd,I Tl,U Xy]);clear HS;go_wp2_with fail;refine(E9 (eH.pull 2 rfl)).kq eH λw3 HS=>?_;clear eH e0 e1 e2 e3 e4 e5 e6 e7 e8 e9 o7 qM qN q3 NO;generalize w2.heap.size=qb at*;go_wp2_with fail;have HS:=aa (Sep.pin (((HS.drew.pull 3 rfl).pull 2 rfl).pull 2 rfl));simp only[ze]at HS;have HD0:=HS;obtain⟨FP,hFP⟩:∃F,F=(List.range w3.drew.heap.size).filter (λk=>decide (k∉ [cb,rb,qb])):=⟨_,rfl⟩;have hnq:qb∉FP:=by rw[hFP];simp
  have hnr:rb∉FP:=by rw[hFP];simp
  have hnc:cb∉FP:=by rw[hFP];simp
  have HK:Hid (∀w' (L:List a_),Sep w0 w' (LD w3.drew []::aJ qb 55 [I yw,I yt,I cp,U a0,U a1,U a2,U a3,I yf,I V1,I yst,.bool yd,I Tl,U Xy]::aJ rb 51 [I Gg,I xw,I xt,I rI,U xc,.slice na 0 nc]::aJ cb 31 [I c.t,I c.b,I c.w,I c.f,U c.fi,U c.la]::L)→Fr FP w3.drew w'):=aa (λw' L h=>by
   rw[hFP];refine V4 HD0.out h 0 rfl [cb,rb,qb] (λk hk=>?_);simp only[oG,uP,or_false]at hk;rcases hk with rfl|rfl|rfl
   ·exact D4 (HD0.ar 3 rfl) (h.ar 3 rfl)
   ·exact D4 (HD0.ar 2 rfl) (h.ar 2 rfl)
   ·exact D4 (HD0.ar 1 rfl) (h.ar 1 rfl))
  clear hFP;have hQ:=HS.ar 1 rfl;have hR:=HS.ar 2 rfl;have hC:=HS.ar 3 rfl;have q2:=hQ.cell 2;have r5:=hR.cell 5;have c2:=hC.cell 2;have c3:=hC.cell 3;simp only[zg]at q2 r5 c2 c3;have ak2:w3.drew.rangeAt qb 3 [U a0,U a1,U a2,U a3]:=λj u hj=>by
   have zM:j<4:=(dE.1 hj).1;refine(hQ.cell (3+j)).trans ?_;rw[←hj]
   match j,zM with
   |0,_|1,_|2,_|3,_=>rfl
  refine gR ([5,15,16],[17]) FP (by kernel_rfl) ?_;refine gS (N:=4) [0,1,2,3,4,6,7,8,9,10,11,12,13,14] (by kernel_rfl) ⟨⟨_,Fr.refl _ _⟩,rfl⟩ ?_;simp only[zz];repeat(first|(refine ak 36 _ qb 3 [U a0,U a1,U a2,U a3] _ rfl rfl rfl (aG ak2 hnq) Tryz.underlying36 rfl (by kernel_rfl) ?_;simp only[Act.put,aZ,zs])|go_big_quiet_step (fail)|quiet_step (fail))
  refine ax ?_;clear hQ hR hC q2 r5 c2 c3 ak2 HD0
 case' g8=>clear c0 c1;obtain⟨l,Jd⟩:=RN hoy.1 hoy.2;have eH:=aa (HS.new 55 [I yw,I yt,I Nh.prog,U a0,U a1,U a2,U a3,I yf,I V1,I yst,.bool yd,I Tl,U Xy]);have xM:=y9 eH.out 1 rfl mS Tryz.underlying144 Tryz.underlying3 (by kernel_rfl) Jd;have r0:=(eH.ar 0 rfl).cell 0;have r1:=(eH.ar 0 rfl).cell 1;have r6:=(eH.ar 0 rfl).cell 10;have rl:=(eH.ar 0 rfl).lt;simp only[zg]at r0 r1 r6;have o_:=yZ.out yw yt l hoy.1 hoy.2 Jd;have wY:Hid (rn-(j+1)<gk):=aa (by rw[←HGJ.out];omega);clear Jd
 case' g3=>by_cases vA:(xw,xt)∈seen;refine ?gc;rotate_left;refine ?gd
 case' gb=>refine dN (N:=3) 5 16 (by kernel_rfl) rfl rfl ?_ ?_;refine ?ge;rotate_left;refine ?gf
 case' g8=>
  cases yd
  ·have IE:=aa (IE.out rfl);clear xM o_;go_wp2_with fail;go_roundg (rn-(j+1))
   case measure=>exact wY.out
   case rel=>exact⟨j+1,rfl,by omega,rfl,IE.out,eH.tail⟩
  ·by_cases vA:(yw,yt)∈seen
   ·rw[aB vA]at o_;rw[o_]at xM;have IE:=aa (IE.out (by simp[vA]));clear vA o_;go_wp2_with fail;go_roundg (rn-(j+1))
    case measure=>exact wY.out
    case rel=>exact⟨j+1,rfl,by omega,rfl,IE.out,eH.tail⟩
   ·rw[aq vA]at o_;rw[o_]at xM;have HX:=aa (HBD.out (by simp[vA]));clear vA o_;go_wp2_with fail;refine aV (results_tmp2 rfl _ _ _) rfl ?_;rw[HX.out];exact⟨⟨_,rfl⟩,eH.tail.tail⟩
 case' gd=>rw[aq vA]at o_;rw[o_]at xM;have BD:=aa xT.out;rw[aq vA]at BD;have AY:=aa o_;clear vA o_ xT
 case' gd=>by_cases V2:Gg<last;refine ?gg;rotate_left;refine ?gh
 case' gh=>have d3:decide (Gg<last)=false:=cW V2
 case' gh=>by_cases V3:Gg<yf;refine ?gi;rotate_left;refine ?gj
 case' gj=>have d4:decide (Gg<yf)=false:=cW V3
 case' gj=>
  cases yd
  refine ?gk;rotate_left;refine ?gl
 case' gl=>by_cases υ:V1<Gg;refine ?gm;rotate_left;refine ?gn
 case' gn=>have d5:decide (V1<Gg)=false:=cW υ
 case' gn=>by_cases hq:rI=Tl∧xc=Xy;refine ?go;rotate_left;refine ?gp
 case' gp=>
  have HX:Hid (X1=51):=aa (by
   have:=BD.out;rw[aq (by simp[V2,V3,υ]),aB ⟨rfl,hq⟩]at this;exact this.symm)
  clear BD V2 V3 υ
 case' gp=>by_cases yj:rI=Tl;refine ?gq;rotate_left;refine ?gr
 case' gc=>
  rw[aB vA]at o_;rw[o_]at xM;have HX:Hid (X1=5):=aa (by
   have:=xT.out;rw[aB vA]at this;exact this.symm)
  clear vA o_
 case' gq=>
  have g1:(rI==Tl)=true:=by simpa using yj
  have g2:(xc==Xy)=false:=by simpa using λe=>hq ⟨yj,e⟩
 case' gr=>have g1:(rI==Tl)=false:=by simpa using yj
 case' gq|gr=>clear hq yj
 case' gg=>
  have d3:decide (Gg<last)=true:=eP V2;have HX:Hid (X1=50):=aa (by
   have:=BD.out;rw[aB (.inl V2)]at this;exact this.symm)
 case' gi=>
  have d4:decide (Gg<yf)=true:=eP V3;have HX:Hid (X1=50):=aa (by
   have:=BD.out;rw[aB (.inr (.inl V3))]at this;exact this.symm)
 case' gm=>
  have d5:decide (V1<Gg)=true:=eP υ;have HX:Hid (X1=50):=aa (by
   have:=BD.out;rw[aB (.inr (.inr ⟨rfl,υ⟩))]at this;exact this.symm)
 case' gc|gq|gr|gg|gi|gm=>go_wp2_with fail;refine aV (results_tmp2 rfl _ _ _) rfl ?_;rw[HX.out]
 case' gc|gq|gr|gg|gi|gm=>exact⟨_,rfl,eH.tail.tail.tail.tail⟩
 case' gk=>have tP:=aa BD.out;rw[aq (by simp[V2,V3]),aq (by simp)]at tP;clear BD V2 V3
 case' go=>have tP:=aa BD.out;rw[aq (by simp[V2,V3,υ]),aq (by simp[hq.1,hq.2])]at tP;obtain⟨rfl,rfl⟩:=hq;clear BD V2 V3 υ
 case' gk|go=>
  go_wp2_with fail;have Xz:=(eH.ar 1 rfl).drew;have HS:=aa eH.drew;refine gR ([2,4],[6]) [mb] (by kernel_rfl) ?_;refine gS (N:=5) [0,1] (by kernel_rfl) ⟨⟨_,Fr.refl _ _⟩,rfl⟩ ?_;simp only[zz];repeat(first|(refine ak 146 _ (rb+1) 0 [I xw,I xt] _ rfl rfl rfl (bL Xz (by simp<;>exact HNE.out)) Tryz.underlying146 rfl (by kernel_rfl) ?_;simp only[Act.put,aZ,zs])|go_big_quiet_step (fail)|quiet_step (fail))
  refine ax ?_;clear Xz xM k0 k1 kl r3 r4 r6 tF tG rl q0 q3 q4 ql e0 e1 e2 e3 e4 e5 e6 e7 e8 e9 o7 qM qN vW NO;generalize World.drew _=wd at HS⊢
 case' gk=>refine dN (N:=4) 2 4 (by kernel_rfl) rfl rfl ?_ ?_;refine ?gs;rotate_left;refine ?gt
 case' go=>refine dN (N:=4) 2 4 (by kernel_rfl) rfl rfl ?_ ?_;refine ?gu;rotate_left;refine ?gv
 case' gs|gu=>
  have xM:=y9 HS.out 3 rfl mS Tryz.underlying144 Tryz.underlying3 (by kernel_rfl) yF.out;rw[AY.out]at xM;go_wp2_with fail;refine⟨⟨⟨_,(by exact Fr.refl _ _)⟩,rfl⟩,?_⟩;clear xM;refine bP (N:=3) [3] (by kernel_rfl) ?_;simp only[zz];repeat go_big_quiet_step(fail)
  refine ax ?_;refine bA (N:=2) 4 (by kernel_rfl) rfl ?_
 case' gs|gu|gt|gv=>obtain⟨v0,st,w5,Kc,Dv,RW⟩:=vV HS.out 3 rfl vS Tryz.underlying144 Tryz.underlying3 (λ_=>by kernel_rfl) N1.out yF.out;have sk:=aa Dv;have Cq:=aa RW;clear Dv RW;go_wp2_with fail;refine⟨⟨⟨_,(by exact Cq.out)⟩,rfl⟩,?_⟩;clear Kc
 case' gs|gu=>refine bP (N:=1) [5] (by kernel_rfl) ?_
 case' gt|gv=>
  refine bP (N:=3) [5] (by kernel_rfl) ?_;simp only[zz];repeat go_big_quiet_step(fail)
  refine ax ?_;refine bA (N:=2) 2 (by kernel_rfl) rfl ?_;have xM:=vT sk.out 3 rfl mS Tryz.underlying144 Tryz.underlying3 (by kernel_rfl) yF.out;rw[AY.out]at xM;go_wp2_with fail;refine⟨⟨⟨_,(by exact Cq.out)⟩,rfl⟩,?_⟩;clear xM;refine bP (N:=1) [3] (by kernel_rfl) ?_
 case' gs|gu|gt|gv=>
  simp only[zz];repeat go_big_quiet_step(fail)
  refine ax ?_;refine dK (N:=0) 6 (by kernel_rfl) rfl ?_;obtain⟨w6,gx,Cd,_⟩:=vU (u:=1) sk.out 3 rfl (by decide);unfold goInt at gx;have Dx:=aa Cd;clear Cd;go_wp2_with fail;refine step_done (by kernel_rfl) ?_;clear gx;have q0:=(Dx.ar 2 rfl).cell 0;simp only[zg]at q0;have ql:=(Dx.ar 2 rfl).lt;have wY:Hid (n-(i+1)<gk):=aa (by rw[←HG.out];omega);go_wp2_with fail
 case' gs=>
  go_roundg (n-(i+1))
  case' measure=>skip
  refine ?gw
  case' rel=>skip
  refine ?gx
 case' gu=>
  go_roundg (n-(i+1))
  case' measure=>skip
  refine ?gy
  case' rel=>skip
  refine ?gz
 case' gt=>
  go_roundg (n-(i+1))
  case' measure=>skip
  refine ?g01
  case' rel=>skip
  refine ?g11
 case' gv=>
  go_roundg (n-(i+1))
  case' measure=>skip
  refine ?g21
  case' rel=>skip
  refine ?g31
 case' gw=>exact wY.out
 case' gx|g11|gz|g31=>exact⟨i+1,m+1,_,Gg,_,rfl,rfl,by omega,by omega,rfl,Seen.add yZ.out Jc.1 Jc.2 yF.out,by have:=tP.out;rw[←Kl.out]at this;exact this,Dx.tail.tail.tail⟩
 case' g01=>exact wY.out
 case' gy=>exact wY.out
 case' g21=>exact wY.out
 case' g6=>exact⟨0,rfl,by omega,by omega,λq _ h=>by omega,HS.out⟩
 case' g9=>
  have d1:decide ((j:Int)<(rn:Int))=false:=cW (by omega);have HX:Hid (X1=0):=aa (by
   have:=xT.out;rw[aB (by
    rw[mC];intro x hx;obtain⟨q,hq,rfl⟩:=List.mem_iff_getElem.1 hx;exact Ni.out q hq (by have:=z6.out;omega))]at this
   exact this.symm)
  go_wp2_with fail;refine aV (results_tmp2 rfl _ _ _) rfl ?_;rw[HX.out]
 case' g9=>first|exact⟨_,rfl,HS.tail⟩|exact⟨⟨_,rfl⟩,HS.tail⟩
 case' G=>exact⟨0,_,rfl,by omega,by omega,by simp,λx hx=>by rw[zb hx];exact⟨by decide,by decide⟩,J2.out,HS.out⟩
 case' g4=>
  have d2:decide (fi<0)=true:=eP Gh;have HX:Hid (X1=(roots,4)):=aa (by
   rw[aB Gh]at jU;exact jU.symm)
  clear Gh sZ jU;go_wp2_with fail;refine aV (results_tmp3 rfl _ _ _) rfl ?_;rw[HX.out]
 case' g4=>exact .inr ⟨_,by show(4:Int)≠0;decide,rfl,HS.tail.tail.tail⟩
 case' ga=>
  have e45:(rI==45)=true:=by simpa using h45
  rw[aB h45]at jU;have tP:=aa jU;clear jU h45 Gh sZ;go_wp2_with fail
 case' ga=>
  go_roundg (n-(i+1))
  case measure=>exact wY.out
  case rel=>exact⟨i+1,roots,rfl,by omega,rfl,HL.out,HRO.out,by have:=tP.out;rw[←Kl.out]at this;exact this,HS.tail⟩
 case' ge=>go_wp2_with fail;refine(CD _ (HP.out _ HS.tail.tail.tail.tail.tail) cp).kq HS λw5 HS=>?_;go_wp2_with fail;refine⟨⟨⟨_,(by exact HK.out _ _ HS.out)⟩,rfl⟩,?_⟩;unfold tR at Aa
 case' ge=>refine dN (N:=2) 15 16 (by kernel_rfl) rfl rfl ?_ ?_;refine ?g41;rotate_left;refine ?g51
 case' g41=>go_wp2_with fail;refine(Aa.out _ _ (λw1 h1=>HP.out _ h1.tail.tail.tail.tail) (HS.pull 4 rfl)).mono ?_;rintro r w7 ⟨st,XB,rfl,h7⟩;have HS:=aa ((((h7.pull 4 rfl).pull 4 rfl).pull 4 rfl).pull 4 rfl);simp only[ze]at HS;clear h7;go_wp2_with fail;refine⟨⟨⟨_,(by exact HK.out _ _ HS.out)⟩,rfl⟩,?_⟩;refine bA (N:=1) 16 (by kernel_rfl) rfl ?_
 case' g41|g51|gf=>have HS:=aa (HS.new 150 [I 0,U 0,I 0,I 0,.slice none 0 0]);go_wp2_with fail;refine⟨⟨⟨_,(by exact HK.out _ _ HS.tail)⟩,rfl⟩,?_⟩
 case' g41=>refine dK (N:=0) 17 (by kernel_rfl) rfl ?_;generalize w7.heap.size=X at HS⊢;generalize World.alloc _ _=w8 at HS⊢
 case' g51=>generalize w5.heap.size=X at HS⊢;generalize World.alloc _ _=w6 at HS⊢
 case' gf=>have js:Sep w0 (w3.alloc (.cells #[I 0,U 0,I 0,I 0,.slice none 0 0] 150)).drew (aJ w3.heap.size 150 _::_):=HS.out;generalize w3.heap.size=X at js⊢;generalize(w3.alloc (.cells #[I 0,U 0,I 0,I 0,.slice none 0 0] 150)).drew=w4 at js⊢;have HS:=aa js;clear js;refine bA (N:=2) 5 (by kernel_rfl) rfl ?_;go_wp2_with fail;refine(CD _ (HP.out _ HS.tail.tail.tail.tail.tail.tail) cp).kq HS λw5 HS=>?_;go_wp2_with fail;refine⟨⟨⟨_,(by exact HK.out _ _ HS.tail)⟩,rfl⟩,?_⟩;unfold tR at Aa
 case' g51|gf=>refine bA (N:=1) 15 (by kernel_rfl) rfl ?_;go_wp2_with fail;refine(Aa.out _ _ (λw1 h1=>HP.out _ h1.tail.tail.tail.tail.tail) (HS.pull 5 rfl)).mono ?_;rintro r w7 ⟨st,XB,rfl,h7⟩;have HS:=aa (((((h7.pull 5 rfl).pull 5 rfl).pull 5 rfl).pull 5 rfl).pull 5 rfl);simp only[ze]at HS;clear h7;go_wp2_with fail;refine⟨⟨⟨_,(by exact HK.out _ _ HS.tail)⟩,rfl⟩,?_⟩;refine dK (N:=0) 17 (by kernel_rfl) rfl ?_
 case' g41|g51|gf=>
  have pE:∀z9∈ [I BE,U N6,I st,I XB,.slice none 0 0],z9.oneCell'=true:=by simp[Value.oneCell']
  go_wp2_with(refine aC HS.out 0 rfl [I BE,U N6,I st,I XB,.slice none 0 0] 150 _ _ rfl rfl rfl rfl rfl (by kernel_rfl) pE (λwA hA _=>?_);simp only[zs]at hA;have HS:=aa hA;clear hA);refine step_done (by kernel_rfl) ?_;clear pE;have k0:=(HS.ar 0 rfl).cell 0;have k1:=(HS.ar 0 rfl).cell 1;have k3:=(HS.ar 0 rfl).cell 4;have r3:=(HS.ar 3 rfl).cell 3;have r4:=(HS.ar 3 rfl).cell 4;have r5:=(HS.ar 3 rfl).cell 5;simp only[zg]at k0 k1 k3 r3 r4 r5
 case' g41=>by_cases hq:BE=rI∧N6=xc;refine ?g61;rotate_left;refine ?g71
 case' g51=>by_cases hq:BE=rI∧N6=xc;refine ?g81;rotate_left;refine ?g91
 case' gf=>by_cases hq:BE=rI∧N6=xc;refine ?ga1;rotate_left;refine ?gb1
 case' g61|g81|ga1=>
  have jU:=tP.out;rw[aq (λh=>h hq),aq (λh=>qJ.out.2 h.1)]at jU;have R3:=aa jU;clear jU;have e43:(BE==43)=false:=by simpa using qJ.out.2
  obtain⟨rfl,rfl⟩:=hq;go_wp2_with fail;clear k0 k1 k3 r3 r4 r5;have hD:=(HS.ar 0 rfl).drew;have k0:=hD.cell 0;simp only[zg]at k0;refine bW [(1,[0,1,2,3,4,5,6,7,8,9,10,13,14]),(2,[11]),(0,[12,15,16,17])] (by kernel_rfl) ?_;simp only[zz];repeat((first|apply af|apply ag|apply ah);(repeat go_big_quiet_step(fail));apply ax)
  refine aA ?_;go_wp2_with fail;refine⟨⟨⟨_,(by exact Fr.refl _ _)⟩,rfl⟩,?_⟩;repeat((first|apply af|apply ag|apply ah);(repeat go_big_quiet_step(fail));apply ax)
  refine aj ?_;clear hD k0;have HS:=aa HS.drew;go_wp2_with fail
 case' g61=>
  go_roundg (n-(i+1))
  case' measure=>skip
  refine ?gc1
  case' rel=>skip
  refine ?gd1
 case' g81=>
  go_roundg (n-(i+1))
  case' measure=>skip
  refine ?ge1
  case' rel=>skip
  refine ?gf1
 case' ga1=>
  go_roundg (n-(i+1))
  case' measure=>skip
  refine ?gg1
  case' rel=>skip
  refine ?gh1
 case' gc1=>exact wY.out
 case' gd1|gf1|gh1=>exact⟨i+1,Jf,rfl,by omega,rfl,qJ.out.1.1,qJ.out.1.2,by have:=R3.out;rw[←Kl.out]at this;exact this,((HS.tail.tail.tail.tail).pull 1 rfl)⟩
 case' g71=>have jU:=tP.out;rw[aB hq]at jU;have HX:Hid (X1=(roots,51)):=aa jU.symm;clear jU
 case' g71=>by_cases yj:BE=rI;refine ?gi1;rotate_left;refine ?gj1
 case' g91=>have jU:=tP.out;rw[aB hq]at jU;have HX:Hid (X1=(roots,51)):=aa jU.symm;clear jU
 case' g91=>by_cases yj:BE=rI;refine ?gk1;rotate_left;refine ?gl1
 case' gb1=>have jU:=tP.out;rw[aB hq]at jU;have HX:Hid (X1=(roots,51)):=aa jU.symm;clear jU
 case' gb1=>by_cases yj:BE=rI;refine ?gm1;rotate_left;refine ?gn1
 case' gi1|gk1|gm1=>
  have g1:(BE==rI)=true:=by simpa using yj
  have g2:(N6==xc)=false:=by simpa using λe=>hq ⟨yj,e⟩
 case' gj1|gl1|gn1=>have g1:(BE==rI)=false:=by simpa using yj
 case' gi1|gk1|gm1|gj1|gl1|gn1=>clear hq yj;go_wp2_with fail;refine aV (results_tmp3 rfl _ _ _) rfl ?_;rw[HX.out]
 case' gi1|gk1|gm1|gj1|gl1|gn1=>exact .inr ⟨_,by show(51:Int)≠0;decide,rfl,HS.tail.tail.tail.tail.tail.tail⟩
 case' ge1=>exact wY.out
 case' gg1=>exact wY.out
 have d1:decide ((i:Int)<(n:Int))=false:=cW (by omega);have HX:Hid (X1=(roots,0)):=aa (by
  have:=xT.out;rw[yM (by have:=HN.out;omega)]at this;exact this.symm)
 go_wp2_with fail;refine aV (results_tmp3 rfl _ _ _) rfl ?_;rw[HX.out];exact .inl ⟨_,rfl,rfl,(HS.pull 1 rfl).tail⟩
def Gf:=@zq74.1
def AF:=@zq74.2
