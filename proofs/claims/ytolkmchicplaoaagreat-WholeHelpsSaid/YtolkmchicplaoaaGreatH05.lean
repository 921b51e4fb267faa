/- A part of the proof. -/
import Derived.Shelf.SlMaps.Clone
import Derived.Maps.RangeWalk
import Derived.Shelf.SlIterI.Nil
import Derived.ChangeKeysEq
import Derived.Test.YtolkmchicplaoaaGreatH04
set_option linter.all false
set_option maxHeartbeats 8000000
set_option maxRecDepth 1000000
open Go.Proofs.Tryz
namespace Go.aS
def Sep.k5 {w0 w Ts}(h:Sep w0 w Ts)(base)(e:TypeId)(size):Sep w0 w (aU base e size (.slice none 0 0) 0 []::Ts):=
 h.push (Fr.refl [] w) (fp:=[]) ⟨rfl,jP w base e size⟩ (by simp)
end Go.aS
namespace Go.Proofs.YtolkmchicplaoaaGreat
open Go.RowKit Go.aS Go.aS.Y
def bM (w c):ba 100 #[aY c] w (db c):=by
 unfold aY ae db;delta ba;go_in;go_wp2;exact aV (v:= .agg #[I c.t,I c.b,I c.w,I c.f,U c.fi,U c.la]) (by simp[results,Tryz.results100,go_sem]) rfl ⟨rfl,by first|exact((Fr.refl [] _).alloc _).alloc _|exact(((Fr.refl [] _).alloc _).alloc _).drew⟩
def zq25:(∀{w0 w R}(b c seq p)(hS:Sep w0 w (bE c seq b p::R)),ba 233 #[O b] w (I p.s))∧(∀{w0 w R}(b c seq p)(hS:Sep w0 w (bE c seq b p::R)),ba 155 #[O b] w (.agg [I p.nt,I p.nl].toArray)):=by
 refine⟨?_,?_⟩;all_goals
  intro w0 w R b c seq p hS;obtain⟨mb,la,lc,h2⟩:=fA hS;have aD:(ae c).length=24:=rfl;generalize ae c=cs at*
 focus have gK:=(h2.ar 0 rfl).aT 32 (P.pf aD seq (.map (some mb)) (.slice la p.bS.length lc) p).s;clear h2 hS;delta ba;go_in;go_wp2;go_ret
 rotate_left;focus
  have du:=(h2.new 252 [I 0,I 0]);have kf:=P.pf aD seq (.map (some mb)) (.slice la p.bS.length lc) p;have dX:=(du.ar 1 rfl).aT 29 kf.nt;have d_:=(du.ar 1 rfl).aT 30 kf.nl;have HS:=aa ((Sep.nil (Fr.refl [] w)).new 252 [I 0,I 0]);have pV:∀u∈ [I p.nt,I p.nl],u.oneCell'=true:=by simp[Value.oneCell']
  clear h2 hS du kf;delta ba;go_in;go_wp2_with(refine aC HS.out 0 rfl [I p.nt,I p.nl] 252 _ _ rfl rfl rfl rfl rfl (by kernel_rfl) pV (λwA hA _=>?_);have HA:=aa hA;clear hA)
 rotate_left
 ·exact⟨rfl,Fr.refl _ _⟩
 ·exact aV (v:= .agg [I p.nt,I p.nl].toArray) (Of Tryz.results155 rfl (HA.ar 0 rfl).range underlying252 rfl (by kernel_rfl)) rfl ⟨rfl,HA.fr⟩
def Hn:=@zq25.1
def PE:=@zq25.2
def PG {w0 w R}(b c seq p x y)(hS:Sep w0 w (bE c seq b p::R)):
 bR 174 #[O b,.agg #[I x,I y]] w w0 (bE c seq b {p with nt:=x,nl:=y}::R):=by
 obtain⟨mb,la,lc,h2⟩:=fA hS;have aD:(ae c).length=24:=rfl;have dQ:=aa (λw' hS=>jv (w0:=w0) (w:=w') (R:=R) (c:=c) (seq:=seq) (b:=b) (mb:=mb) (n:=p.next.toNat) (k:=p.bS.length) (v:= .slice la p.bS.length lc) (p:={p with nt:=x,nl:=y}) (dp _) rfl hS);generalize bE c seq b {p with nt:=x,nl:=y}=TH at*;generalize ae c=cs at*;have HS:=aa (h2.new 252 [I x,I y]);clear h2 hS;have f29:=(HS.ar 1 rfl).az;have kf:=P.pf aD seq (.map (some mb)) (.slice la p.bS.length lc) p;have dX:=(HS.ar 1 rfl).aT 29 kf.nt;have d_:=(HS.ar 1 rfl).aT 30 kf.nl;clear kf;have du:=(HS.set 1 rfl 29 (I x)).set 1 rfl 30 (I y);simp only[zs,P.vq aD,P.vr aD]at du;have de:=aa du;clear du;delta bR;go_in;go_wp2;go_end0;exact⟨rfl,dQ.out _ de.tail⟩
def EZ (w c seq):
 Calls Tryz.prog 135 #[aY c,U seq] w λe w'=>∃b,e= .returned (O b)∧Sep w w' [bE c seq b P.fw]:=by
 have aD:(ae c).length=24:=rfl;have pV:∀u∈ae c,u.oneCell'=true:=by simp[ae,Value.oneCell']
 have dQ:=aa (λw' (b mb:Nat) (hS:Sep w w' [aJ b 261 (P.bO (ae c) seq (.map (some mb)) (.slice none 0 0) P.fw),sA Tryz.prog 26 3 .u64 .i64 mb 0 P.fw.f,aU 0 26 1 (.slice none 0 0) 0 []])=>jv (w0:=w) (w:=w') (R:=[]) (c:=c) (seq:=seq) (b:=b) (mb:=mb) (n:=0) (k:=0) (v:= .slice none 0 0) (p:=P.fw) (cE _) rfl hS);have HEX:∃TH:Nat→a_,∀b,bE c seq b P.fw=TH b:=⟨_,λ_=>rfl⟩;obtain⟨TH,hTH⟩:=HEX;simp only[hTH]at*;clear hTH;unfold aY;generalize ae c=cs at*;have HS:=aa ((Sep.nil (Fr.refl [] w)).new 58 cs);have Lx:=@run_makeMap Tryz.prog;obtain⟨x0,x1,x2,x3,x4,x5,x6,x7,x8,x9,l4,l5,l6,l7,l8,l9,l_,mf,mh,mi,mj,mm,mo,mq,rfl⟩:=rQ aD;go_in;go_wp2_with(refine ay 58 _ rfl rfl _ 0 rfl _ _ (HS.ar 0 rfl).range underlying58 rfl (by kernel_rfl) ?_);go_ret;have hS:=(((HS.out.Yk Tryz.prog 26 3 .u64 .i64).new 261 (P.bO [x0,x1,x2,x3,x4,x5,x6,x7,x8,x9,l4,l5,l6,l7,l8,l9,l_,mf,mh,mi,mj,mm,mo,mq] seq (.map (some (w.heap.size+1))) (.slice none 0 0) P.fw))).k5 0 26 1;simp only[cG]at hS;exact⟨_,rfl,dQ.out _ _ _ (hS.sub [1,2,0] rfl (by decide))⟩
def UC {w0 w R}(b c)(aE:Y.Ok c)(seq p)(hp:0≤p.nt∧p.nt≤64)(hS:Sep w0 w (bE c seq b p::R)):
 ba 197 #[O b] w (.tuple #[I (P.top c p).1,.bool (P.top c p).2]):=by
 obtain⟨mb,la,lc,h2⟩:=fA hS;have aD:(ae c).length=24:=rfl;have HA:=aa (λw=>cx w c aE 13 (p.nt-1) 0);unfold P.top;unfold aY at*;generalize ae c=cs at*;have dX:=(h2.ar 0 rfl).aT 29 (P.pf aD seq (.map (some mb)) (.slice la p.bS.length lc) p).nt;have cC:=(h2.ar 0 rfl).drew;clear h2 hS;obtain⟨pn,pf,dH,dL,nt,nl,bS,ps⟩:=p;unfold P.bO at cC;dsimp only at*;by_cases h0:nt=0
 ·subst h0;delta ba;go_in;go_wp2;go_ret2;exact⟨rfl,Fr.refl _ _⟩
 ·rw[aq h0];have d0:(nt==0)=false:=by simpa using h0
  delta ba;go_in;go_wp2_with fail;refine bW [(1,[0,1,2,3,4,5,6,7,8,9]),(3,[10]),(0,[11,12])] (by kernel_rfl) ?_;simp only[zz];refine af ?_;iterate 3 (first|go_big_quiet_step (fail)|quiet_step (fail))
  refine ak 58 _ b 0 cs _ rfl rfl rfl (cm cC (by simp)) underlying58 rfl (by rw[aD];kernel_rfl) ?_;simp only[Act.put,aZ,zs];repeat go_big_quiet_step(fail)
  refine ax ?_;refine ao ?_;go_wp2_with fail;refine(HA.out _).kk λw2 hf=>?_;have HF:=aa hf.CW;clear hf;go_wp2_with fail;repeat(first|go_big_quiet_step(fail)|apply ax|apply af|apply ag|apply ah)
  refine aj ?_;go_wp2;go_ret2;exact⟨rfl,HF.out⟩
end Go.Proofs.YtolkmchicplaoaaGreat
section
namespace Go.Proofs.YtolkmchicplaoaaGreat
open Go.RowKit Go.aS Go.aS.Y
def e_ (c w):(Instr.field 31 (db c) 0).run Tryz.prog w= .ok (I c.t) w∧(Instr.field 31 (db c) 1).run Tryz.prog w= .ok (I c.b) w:=
 ⟨dW w _ _ _ _ _ _ _ underlying31 rfl underlying3 rfl rfl,dW w _ _ _ _ _ _ _ underlying31 rfl underlying3 rfl rfl⟩
def fH (s a v):(P.cU s a v).done.length≤s.done.length+1:=by
 unfold P.cU W.put;split<;>(try split)<;>(try split)<;>simp<;>omega
abbrev sp (c:cA)(seq:Int)(b k:Nat)(mv v:Value)(p:P.St)(s:W.S)(R:List a_):List a_:=
 cw k s::aJ b 261 (P.bO (ae c) seq mv v p)::R
def zq26:(∀{w0 w R}(b k c)(aE:Y.Ok c)(seq mv v p s bb)(BZ:0≤bb∧bb≤1000)(mY:0≤p.nt∧p.nt≤c.b)(h0:¬p.nt<c.b)(hd:s.done.length≤900000)(hS:Sep w0 w (sp c seq b k mv v p s R)),bR 237 #[O b,O k,I bb] w w0 (sp c seq b k mv v p (P.cU s (at_ c 11 bb 0) 0) R))∧(∀{w0 w R}(b k c)(aE:Y.Ok c)(seq mv v p s bb)(BZ:0≤bb∧bb≤1000)(mY:0≤p.nt∧p.nt≤c.b)(h0:p.nt<c.b)(hd:s.done.length≤900000)(hS:Sep w0 w (sp c seq b k mv v p s R)),bR 237 #[O b,O k,I bb] w w0 (sp c seq b k mv v {p with nt:=p.nt+1} (P.cU (P.cU s (at_ c 11 bb 0) 0) (at_ c 13 p.nt 0) bb) R)):=by
 refine⟨?_,?_⟩;all_goals
  intro w0 w R b k c aE seq mv v p s bb BZ mY h0 hd hS;unfold P.cU;have sr:=fH s (at_ c 11 bb 0) 0;unfold P.cU at sr;have aD:(ae c).length=24:=rfl;have HA:=aa (λw kind i k=>cx w c aE kind i k);have HC:=aa (λw=>bM w c);have fS:=aa (λw=>e_ c w);have HP:=aa (λw' (s:W.S) (R:List a_) (hd:s.done.length≤1000000) (hS:Sep w0 w' (cw k s::R)) a v=>iz (w0:=w0) (w:=w') (R:=R) (b:=k) (s:=s) hS hd a v);have nU:=aE.b1;have kF:=aE.nZ;unfold sp aY at*;generalize fB:db c=cf at*;clear fB;generalize ae c=cs at*;obtain⟨pn,pf,dH,dL,nt,nl,bS,ps⟩:=p;dsimp only at*;have HS:=aa hS;clear hS;generalize sI:cw k _::_=TL;have zK:=aa sI;clear sI;have aF:=HS.ar 1 rfl;have kf:=P.pf aD seq mv v ⟨pn,pf,dH,dL,nt,nl,bS,ps⟩;have cu:=aF.aT 27 kf.wt;have dz:=aF.aT 28 kf.wl;have dX:=aF.aT 29 kf.nt;have d_:=aF.aT 30 kf.nl;have f29:=aF.az;have cC:=aF.drew;unfold P.bO at cC aF;clear kf;have hd:s.done.length≤1000000:=by omega
  have YR:=λw=>(fS.out w).2;delta bR;go_in;go_wp2_with(refine ay 58 _ rfl rfl _ 0 rfl cs _ (cB.pre aF) underlying58 rfl (by rw[aD];kernel_rfl) ?_);refine(HA.out _ _ _ _).kk λw2 hf=>?_;clear aF cu dz dX d_ f29 cC;have HS:=aa (HS.fr0 hf);clear hf;have aF:=HS.ar 1 rfl;have kf:=P.pf aD seq mv v ⟨pn,pf,dH,dL,nt,nl,bS,ps⟩;have cu:=aF.aT 27 kf.wt;have dz:=aF.aT 28 kf.wl;have dX:=aF.aT 29 kf.nt;have d_:=aF.aT 30 kf.nl;have f29:=aF.az;have cC:=aF.drew;unfold P.bO at cC aF;clear kf;go_wp2_with fail;refine(HP.out _ _ _ hd HS.out _ _).kk λw3 h3=>?_;clear aF cu dz dX d_ f29 cC;have HS:=aa h3;clear h3;have aF:=HS.ar 1 rfl;have kf:=P.pf aD seq mv v ⟨pn,pf,dH,dL,nt,nl,bS,ps⟩;have cu:=aF.aT 27 kf.wt;have dz:=aF.aT 28 kf.wl;have dX:=aF.aT 29 kf.nt;have d_:=aF.aT 30 kf.nl;have f29:=aF.az;have cC:=aF.drew;unfold P.bO at cC aF;clear kf;go_wp2_with fail;refine bW [(1,[0,1,2,3,4,5,6,7,8]),(2,[9]),(0,[10,11])] (by kernel_rfl) ?_;simp only[zz];refine af ?_;iterate 8 (first|go_big_quiet_step (fail)|quiet_step (fail))
  refine ak 58 _ b 0 cs _ rfl rfl rfl (cm cC (by simp)) underlying58 rfl (by rw[aD];kernel_rfl) ?_;simp only[Act.put,aZ,zs];repeat go_big_quiet_step(fail)
  refine ax ?_;refine aA ?_;go_wp2_with fail;refine(HC.out _).kf HS.dr λw4 HF HS=>?_;go_wp2;refine⟨⟨⟨_,(by exact HF.out)⟩,rfl⟩,?_⟩;repeat(first|go_big_quiet_step(fail)|apply ax|apply af|apply ag|apply ah)
  refine aj ?_;clear aF cu dz dX d_ f29 cC;have aF:=HS.ar 1 rfl;have kf:=P.pf aD seq mv v ⟨pn,pf,dH,dL,nt,nl,bS,ps⟩;have cu:=aF.aT 27 kf.wt;have dz:=aF.aT 28 kf.wl;have dX:=aF.aT 29 kf.nt;have d_:=aF.aT 30 kf.nl;have f29:=aF.az;have cC:=aF.drew;unfold P.bO at cC aF;clear kf
 focus
  have d1:decide (nt<c.b)=false:=by simpa using h0
  go_wp2;go_end0
 rotate_left;focus
  have GK:IntKind.u64.wrap bb=bb:=by rw[ir];omega
  have hwn:IntKind.i64.wrap (nt+1)=nt+1:=bf _ (by omega) (by omega);have UD:(W.put s (at_ c 11 bb 0) 0).1.done.length≤1000000:=by omega
  clear h0;go_wp2_with fail;refine bW [(1,[1,2,3,4,5,6,7,8,9]),(0,[0,11,12]),(3,[10]),(3,[13])] (by kernel_rfl) ?_;simp only[zz];refine af ?_;iterate 3 (first|go_big_quiet_step (fail)|quiet_step (fail))
  refine ak 58 _ b 0 cs _ rfl rfl rfl (cm cC (by simp)) underlying58 rfl (by rw[aD];kernel_rfl) ?_;simp only[Act.put,aZ,zs];repeat go_big_quiet_step(fail)
  refine ax ?_;repeat(first|go_big_quiet_step(fail)|apply ax|apply af|apply ag|apply ah)
  refine ao ?_;go_wp2_with fail;refine(HA.out _ _ _ _).kk λw5 hf=>?_;clear aF cu dz dX d_ f29 cC;have HS:=aa (HS.drew.fr0 hf);clear hf;have aF:=HS.ar 1 rfl;have kf:=P.pf aD seq mv v ⟨pn,pf,dH,dL,nt,nl,bS,ps⟩;have cu:=aF.aT 27 kf.wt;have dz:=aF.aT 28 kf.wl;have dX:=aF.aT 29 kf.nt;have d_:=aF.aT 30 kf.nl;have f29:=aF.az;have cC:=aF.drew;unfold P.bO at cC aF;clear kf;go_wp2_with fail;repeat(first|go_big_quiet_step(fail)|apply ax|apply af|apply ag|apply ah)
  refine ao ?_;go_wp2_with fail;refine(HP.out _ _ _ UD HS.out _ _).kk λw6 h3=>?_;clear aF cu dz dX d_ f29 cC;have HS:=aa h3;clear h3;have aF:=HS.ar 1 rfl;have kf:=P.pf aD seq mv v ⟨pn,pf,dH,dL,nt,nl,bS,ps⟩;have cu:=aF.aT 27 kf.wt;have dz:=aF.aT 28 kf.wl;have dX:=aF.aT 29 kf.nt;have d_:=aF.aT 30 kf.nl;have f29:=aF.az;have cC:=aF.drew;unfold P.bO at cC aF;clear kf;go_wp2_with fail;repeat(first|go_big_quiet_step(fail)|apply ax|apply af|apply ag|apply ah)
  refine aj ?_;go_wp2;go_end0;have du:=HS.set 1 rfl 29 (I (nt+1));simp only[zs,P.vq aD]at du
 rotate_left
 ·exact⟨rfl,zK.out▸HS.out⟩
 ·exact⟨rfl,zK.out▸du⟩
def Bc:=@zq26.1
def Bd:=@zq26.2
def E0 {w0 w R}(b k c)(aE:Y.Ok c)(seq mv v p s bb)(BZ:0≤bb∧bb≤1000)(mY:0≤p.nt∧p.nt≤c.b)(hd:s.done.length≤900000)(hS:Sep w0 w (sp c seq b k mv v p s R)):
 bR 237 #[O b,O k,I bb] w w0 (sp c seq b k mv v (P.release c (p,s) bb).1 (P.release c (p,s) bb).2 R):=by
 unfold P.release;dsimp only;by_cases h:p.nt<c.b
 ·rw[aB h];exact Bd b k c aE seq mv v p s bb BZ mY h hd hS
 ·rw[aq h];exact Bc b k c aE seq mv v p s bb BZ mY h hd hS
end Go.Proofs.YtolkmchicplaoaaGreat
end
section
namespace Go.Proofs.YtolkmchicplaoaaGreat
open Go.RowKit Go.aS Go.aS.Y
def zq27:(∀{w0 w R}(b k c)(aE:Y.Ok c)(seq mv v p s bb)(kA:0≤p.nl∧p.nl≤b_ c)(h0:b_ c≤p.nl)(hd:s.done.length≤900000)(hS:Sep w0 w (sp c seq b k mv v p s R)),bR 191 #[O b,O k,I bb] w w0 (sp c seq b k mv v p s R))∧(∀{w0 w R}(b k c)(aE:Y.Ok c)(seq mv v p s bb)(kA:0≤p.nl∧p.nl≤b_ c)(h0:¬b_ c≤p.nl)(h1:at_ c 11 bb 0= -1)(hd:s.done.length≤900000)(hS:Sep w0 w (sp c seq b k mv v p s R)),bR 191 #[O b,O k,I bb] w w0 (sp c seq b k mv v p s R))∧(∀{w0 w R}(b k c)(aE:Y.Ok c)(seq mv v p s bb)(kA:0≤p.nl∧p.nl≤b_ c)(h0:¬b_ c≤p.nl)(h1:at_ c 11 bb 0≠-1)(BZ:0≤bb∧bb≤1000)(hd:s.done.length≤900000)(hS:Sep w0 w (sp c seq b k mv v p s R)),bR 191 #[O b,O k,I bb] w w0 (sp c seq b k mv v {p with nl:=p.nl+1} (P.cU (P.cU s (at_ c 11 bb 0) 2) (at_ c 15 p.nl 0) bb) R)):=by
 refine⟨?_,?_,?_⟩;focus
  intro w0 w R b k c aE seq mv v p s bb kA h0 hd hS
 rotate_left;focus
  intro w0 w R b k c aE seq mv v p s bb kA h0 h1 hd hS
 rotate_left;focus
  intro w0 w R b k c aE seq mv v p s bb kA h0 h1 BZ hd hS
 all_goals
  have xH:=aa (λw=>gL w c aE);have zE:=bK aE;try unfold P.cU
  have sr:=fH s (at_ c 11 bb 0) 2;unfold P.cU at sr;have aD:(ae c).length=24:=rfl;have HA:=aa (λw kind i k=>cx w c aE kind i k);have HC:=aa (λw=>bM w c);have fS:=aa (λw=>e_ c w);have HP:=aa (λw' (s:W.S) (R:List a_) (hd:s.done.length≤1000000) (hS:Sep w0 w' (cw k s::R)) a v=>iz (w0:=w0) (w:=w') (R:=R) (b:=k) (s:=s) hS hd a v);have nU:=aE.b1;have kF:=aE.nZ;unfold sp aY at*;generalize fB:db c=cf at*;clear fB;generalize ae c=cs at*;obtain⟨pn,pf,dH,dL,nt,nl,bS,ps⟩:=p;dsimp only at*;have HS:=aa hS;clear hS;generalize b_ c=lk at*;generalize sI:cw k _::_=TL;have zK:=aa sI;clear sI;have aF:=HS.ar 1 rfl;have kf:=P.pf aD seq mv v ⟨pn,pf,dH,dL,nt,nl,bS,ps⟩;have cu:=aF.aT 27 kf.wt;have dz:=aF.aT 28 kf.wl;have dX:=aF.aT 29 kf.nt;have d_:=aF.aT 30 kf.nl;have f29:=aF.az;have cC:=aF.drew;unfold P.bO at cC aF;clear kf;have hd:s.done.length≤1000000:=by omega
 rotate_left 2;iterate 2
  focus have d1:decide (nl≥lk)=false:=by simpa using h0
  rotate_left
 all_goals
  delta bR;go_in;go_wp2_with fail;refine bW [(1,[0,1,2,3,4,5,6,7,8]),(2,[9]),(0,[10,11,12,13,14,16]),(3,[15]),(3,[17]),(0,[18,19])] (by kernel_rfl) ?_;simp only[zz];refine af ?_;iterate 8 (first|go_big_quiet_step (fail)|quiet_step (fail))
  refine ak 58 _ b 0 cs _ rfl rfl rfl (cm cC (by simp)) underlying58 rfl (by rw[aD];kernel_rfl) ?_;simp only[Act.put,aZ,zs]
 focus repeat(first|go_big_quiet_step (fail)|quiet_step (fail))
 rotate_left;iterate 2
  focus repeat go_big_quiet_step(fail)
  rotate_left
 all_goals refine ax ?_;refine aA ?_;go_wp2_with fail;refine(xH.out _).kf HS.dr λw4 HF HS=>?_;go_wp2;refine⟨⟨⟨_,(by exact HF.out)⟩,rfl⟩,?_⟩;clear aF cu dz dX d_ f29 cC;have aF:=HS.ar 1 rfl;have kf:=P.pf aD seq mv v ⟨pn,pf,dH,dL,nt,nl,bS,ps⟩;have cu:=aF.aT 27 kf.wt;have dz:=aF.aT 28 kf.wl;have dX:=aF.aT 29 kf.nt;have d_:=aF.aT 30 kf.nl;have f29:=aF.az;have cC:=aF.drew;unfold P.bO at cC aF;clear kf
 focus
  repeat(first|go_big_quiet_step(fail)|quiet_step(fail)|apply ax|apply af|apply ag|apply ah)
  refine aj ?_;go_wp2;refine aV (v:= .tuple #[]) (by simp[results,Tryz.results191,go_sem]) rfl ?_
 rotate_left;iterate 2
  focus repeat(first|go_big_quiet_step(fail)|apply ax|apply af|apply ag|apply ah)
  rotate_left
 rotate_left 2;focus
  have d2:(at_ c 11 bb 0== -1)=false:=by simpa using h1
 rotate_left 2;iterate 2
  focus
   refine ao ?_;go_wp2_with(refine ay 58 _ rfl rfl _ 0 rfl cs _ (cB.pre aF) underlying58 rfl (by rw[aD];kernel_rfl) ?_);repeat(first|go_big_quiet_step(fail)|apply ax|apply af|apply ag|apply ah)
   refine ao ?_;go_wp2_with fail;refine(HA.out _ _ _ _).kk λw5 hf=>?_;clear aF cu dz dX d_ f29 cC;have HS:=aa (HS.fr0 hf);clear hf;have aF:=HS.ar 1 rfl;have kf:=P.pf aD seq mv v ⟨pn,pf,dH,dL,nt,nl,bS,ps⟩;have cu:=aF.aT 27 kf.wt;have dz:=aF.aT 28 kf.wl;have dX:=aF.aT 29 kf.nt;have d_:=aF.aT 30 kf.nl;have f29:=aF.az;have cC:=aF.drew;unfold P.bO at cC aF;clear kf;go_wp2_with fail;repeat(first|go_big_quiet_step(fail)|apply ax|apply af|apply ag|apply ah)
   refine aj ?_
  rotate_left
 rotate_left;focus
  go_wp2;refine aV (v:= .tuple #[]) (by simp[results,Tryz.results191,go_sem]) rfl ?_
 rotate_left;focus
  have GK:IntKind.u64.wrap bb=bb:=by rw[ir];omega
  have hwn:IntKind.i64.wrap (nl+1)=nl+1:=bf _ (by omega) (by omega);have UD:(W.put s (at_ c 11 bb 0) 2).1.done.length≤1000000:=by omega
  clear h0;go_wp2_with(refine ay 58 _ rfl rfl _ 0 rfl cs _ (cB.pre aF) underlying58 rfl (by rw[aD];kernel_rfl) ?_);refine(HA.out _ _ _ _).kk λw2 hf=>?_;clear aF cu dz dX d_ f29 cC;have HS:=aa (HS.fr0 hf);clear hf;have aF:=HS.ar 1 rfl;have kf:=P.pf aD seq mv v ⟨pn,pf,dH,dL,nt,nl,bS,ps⟩;have cu:=aF.aT 27 kf.wt;have dz:=aF.aT 28 kf.wl;have dX:=aF.aT 29 kf.nt;have d_:=aF.aT 30 kf.nl;have f29:=aF.az;have cC:=aF.drew;unfold P.bO at cC aF;clear kf;go_wp2_with fail;refine(HP.out _ _ _ hd HS.out _ _).kk λw3 h3=>?_;clear aF cu dz dX d_ f29 cC;have HS:=aa h3;clear h3;have aF:=HS.ar 1 rfl;have kf:=P.pf aD seq mv v ⟨pn,pf,dH,dL,nt,nl,bS,ps⟩;have cu:=aF.aT 27 kf.wt;have dz:=aF.aT 28 kf.wl;have dX:=aF.aT 29 kf.nt;have d_:=aF.aT 30 kf.nl;have f29:=aF.az;have cC:=aF.drew;unfold P.bO at cC aF;clear kf;go_wp2_with fail;refine bW [(1,[1,2,3,4,5,6,7,8,9]),(0,[0,11,12]),(3,[10]),(3,[13])] (by kernel_rfl) ?_;simp only[zz];refine af ?_;iterate 3 (first|go_big_quiet_step (fail)|quiet_step (fail))
  refine ak 58 _ b 0 cs _ rfl rfl rfl (cm cC (by simp)) underlying58 rfl (by rw[aD];kernel_rfl) ?_;simp only[Act.put,aZ,zs];repeat go_big_quiet_step(fail)
  refine ax ?_;repeat(first|go_big_quiet_step(fail)|apply ax|apply af|apply ag|apply ah)
  refine ao ?_;go_wp2_with fail;refine(HA.out _ _ _ _).kk λw5 hf=>?_;clear aF cu dz dX d_ f29 cC;have HS:=aa (HS.drew.fr0 hf);clear hf;have aF:=HS.ar 1 rfl;have kf:=P.pf aD seq mv v ⟨pn,pf,dH,dL,nt,nl,bS,ps⟩;have cu:=aF.aT 27 kf.wt;have dz:=aF.aT 28 kf.wl;have dX:=aF.aT 29 kf.nt;have d_:=aF.aT 30 kf.nl;have f29:=aF.az;have cC:=aF.drew;unfold P.bO at cC aF;clear kf;go_wp2_with fail;repeat(first|go_big_quiet_step(fail)|apply ax|apply af|apply ag|apply ah)
  refine ao ?_;go_wp2_with fail;refine(HP.out _ _ _ UD HS.out _ _).kk λw6 h3=>?_;clear aF cu dz dX d_ f29 cC;have HS:=aa h3;clear h3;have aF:=HS.ar 1 rfl;have kf:=P.pf aD seq mv v ⟨pn,pf,dH,dL,nt,nl,bS,ps⟩;have cu:=aF.aT 27 kf.wt;have dz:=aF.aT 28 kf.wl;have dX:=aF.aT 29 kf.nt;have d_:=aF.aT 30 kf.nl;have f29:=aF.az;have cC:=aF.drew;unfold P.bO at cC aF;clear kf;go_wp2_with fail;repeat(first|go_big_quiet_step(fail)|apply ax|apply af|apply ag|apply ah)
  refine aj ?_;go_wp2;go_end0;have du:=HS.set 1 rfl 30 (I (nl+1));simp only[zs,P.vr aD]at du
 rotate_left
 ·exact⟨rfl,zK.out▸HS.out⟩
 ·exact⟨rfl,zK.out▸HS.out⟩
 ·exact⟨rfl,zK.out▸du⟩
def Ho:=@zq27.1
def PH:=@zq27.2.1
def Ly:=@zq27.2.2
def UE {c bb}(aE:Y.Ok c)(h:at_ c 11 bb 0≠-1):0≤bb∧bb<c.b:=by
 by_cases hi:Is c 11 bb 0
 ·have h2:bb<cr c 11:=hi.2.1;exact⟨hi.1,by simpa[cr]using h2⟩
 ·exact absurd (aq hi) h
def PJ {w0 w R}(b k c)(aE:Y.Ok c)(seq mv v p s bb)(kA:0≤p.nl∧p.nl≤b_ c)(hd:s.done.length≤900000)(hS:Sep w0 w (sp c seq b k mv v p s R)):
 bR 191 #[O b,O k,I bb] w w0 (sp c seq b k mv v (P.nM c bb p s).1 (P.nM c bb p s).2 R):=by
 unfold P.nM;by_cases h:b_ c≤p.nl
 ·rw[aB (.inl h)];exact Ho b k c aE seq mv v p s bb kA h hd hS
 by_cases h1:at_ c 11 bb 0= -1
 ·rw[aB (.inr h1)];exact PH b k c aE seq mv v p s bb kA h h1 hd hS
 have h2:=UE aE h1;have kF:=aE.nZ;rw[aq (λhh=>hh.elim h h1)];exact Ly b k c aE seq mv v p s bb kA h h1 (by omega) hd hS
end Go.Proofs.YtolkmchicplaoaaGreat
end
section
namespace Go.Proofs.YtolkmchicplaoaaGreat
open Go.RowKit Go.aS Go.aS.Y
def zq28:(∀{w0 w R}(b k c)(aE:Y.Ok c)(seq mv v p s)(mY:0≤p.nt∧p.nt≤c.b)(kA:0≤p.nl∧p.nl≤b_ c)(h0:p.nt=p.wt)(h1:p.nl=p.wl)(hd:s.done.length≤900000)(hS:Sep w0 w (sp c seq b k mv v p s R)),bR 236 #[O b,O k] w w0 (sp c seq b k mv v p (s) R))∧(∀{w0 w R}(b k c)(aE:Y.Ok c)(seq mv v p s)(mY:0≤p.nt∧p.nt≤c.b)(kA:0≤p.nl∧p.nl≤b_ c)(h0:p.nt≠p.wt)(h1:p.nl=p.wl)(hd:s.done.length≤900000)(hS:Sep w0 w (sp c seq b k mv v p s R)),bR 236 #[O b,O k] w w0 (sp c seq b k mv v p (P.cU s (at_ c 12 0 0) p.nt) R))∧(∀{w0 w R}(b k c)(aE:Y.Ok c)(seq mv v p s)(mY:0≤p.nt∧p.nt≤c.b)(kA:0≤p.nl∧p.nl≤b_ c)(h0:p.nt≠p.wt)(h1:p.nl≠p.wl)(hd:s.done.length≤900000)(hS:Sep w0 w (sp c seq b k mv v p s R)),bR 236 #[O b,O k] w w0 (sp c seq b k mv v p (P.cU (P.cU s (at_ c 12 0 0) p.nt) (at_ c 14 0 0) p.nl) R))∧(∀{w0 w R}(b k c)(aE:Y.Ok c)(seq mv v p s)(mY:0≤p.nt∧p.nt≤c.b)(kA:0≤p.nl∧p.nl≤b_ c)(h0:p.nt=p.wt)(h1:p.nl≠p.wl)(hd:s.done.length≤900000)(hS:Sep w0 w (sp c seq b k mv v p s R)),bR 236 #[O b,O k] w w0 (sp c seq b k mv v p (P.cU s (at_ c 14 0 0) p.nl) R)):=by
 refine⟨?_,?_,?_,?_⟩;all_goals
  intro w0 w R b k c aE seq mv v p s mY kA h0 h1 hd hS;have zE:=bK aE;try unfold P.cU
  have sr:=fH s (at_ c 12 0 0) p.nt;unfold P.cU at sr;have aD:(ae c).length=24:=rfl;have HA:=aa (λw kind i k=>cx w c aE kind i k);have HC:=aa (λw=>bM w c);have fS:=aa (λw=>e_ c w);have HP:=aa (λw' (s:W.S) (R:List a_) (hd:s.done.length≤1000000) (hS:Sep w0 w' (cw k s::R)) a v=>iz (w0:=w0) (w:=w') (R:=R) (b:=k) (s:=s) hS hd a v);have nU:=aE.b1;have kF:=aE.nZ;unfold sp aY at*;generalize fB:db c=cf at*;clear fB;generalize ae c=cs at*;obtain⟨pn,pf,dH,dL,nt,nl,bS,ps⟩:=p;dsimp only at*;have HS:=aa hS;clear hS;generalize b_ c=lk at*;generalize sI:cw k _::_=TL;have zK:=aa sI;clear sI;have aF:=HS.ar 1 rfl;have kf:=P.pf aD seq mv v ⟨pn,pf,dH,dL,nt,nl,bS,ps⟩;have cu:=aF.aT 27 kf.wt;have dz:=aF.aT 28 kf.wl;have dX:=aF.aT 29 kf.nt;have d_:=aF.aT 30 kf.nl;have f29:=aF.az;have cC:=aF.drew;unfold P.bO at cC aF;clear kf;have hd:s.done.length≤1000000:=by omega
  have UD:(W.put s (at_ c 12 0 0) nt).1.done.length≤1000000:=by omega
  have GK:IntKind.u64.wrap nt=nt:=by rw[ir];omega
  have vu:IntKind.u64.wrap nl=nl:=by rw[ir];omega
 focus delta bR;go_in
 rotate_left;iterate 2
  focus have d1:(nt !=dH)=true:=by simpa using h0
  rotate_left
 rotate_left 3;focus
  have d2:(nl !=dL)=true:=by simpa using h1
 rotate_left 3;iterate 2
  focus delta bR;go_in
  rotate_left
 focus
  have d2:(nl !=dL)=true:=by simpa using h1
  delta bR;go_in;go_wp2_with fail;refine bW [(1,[0,1,2,3,4,5,6,7,8,9,10])] (by kernel_rfl) ?_;simp only[zz];repeat(first|go_big_quiet_step(fail)|apply ax|apply af|apply ag|apply ah)
  refine aj ?_;clear aF cu dz dX d_ f29 cC;have HS:=aa HS.drew;have aF:=HS.ar 1 rfl;have kf:=P.pf aD seq mv v ⟨pn,pf,dH,dL,nt,nl,bS,ps⟩;have cu:=aF.aT 27 kf.wt;have dz:=aF.aT 28 kf.wl;have dX:=aF.aT 29 kf.nt;have d_:=aF.aT 30 kf.nl;have f29:=aF.az;have cC:=aF.drew;unfold P.bO at cC aF;clear kf
 all_goals
  go_wp2_with fail;refine bW [(1,[0,1,2,3,4,5,6,7,8,9,10])] (by kernel_rfl) ?_;simp only[zz];repeat(first|go_big_quiet_step(fail)|apply ax|apply af|apply ag|apply ah)
  refine aj ?_;clear aF cu dz dX d_ f29 cC;have HS:=aa HS.drew;have aF:=HS.ar 1 rfl;have kf:=P.pf aD seq mv v ⟨pn,pf,dH,dL,nt,nl,bS,ps⟩;have cu:=aF.aT 27 kf.wt;have dz:=aF.aT 28 kf.wl;have dX:=aF.aT 29 kf.nt;have d_:=aF.aT 30 kf.nl;have f29:=aF.az;have cC:=aF.drew;unfold P.bO at cC aF;clear kf;go_wp2_with fail
 rotate_left;focus
  refine bW [(1,[0,1,2,3,4,5,6,7,8,9,10])] (by kernel_rfl) ?_;simp only[zz]
 rotate_left;iterate 3
  focus
   refine bW [(1,[0,1,2,3,4,6,7,8,9,10,11]),(2,[5]),(3,[12])] (by kernel_rfl) ?_;simp only[zz];refine af ?_;iterate 4 (first|go_big_quiet_step (fail)|quiet_step (fail))
   refine ak 58 _ b 0 cs _ rfl rfl rfl (cm cC (by simp)) underlying58 rfl (by rw[aD];kernel_rfl) ?_;simp only[Act.put,aZ,zs];repeat go_big_quiet_step(fail)
   refine ax ?_;refine aA ?_;go_wp2_with fail;refine(HA.out _ _ _ _).kf HS.dr λw4 HF HS=>?_;go_wp2;refine⟨⟨⟨_,(by exact HF.out)⟩,rfl⟩,?_⟩;clear aF cu dz dX d_ f29 cC;have aF:=HS.ar 1 rfl;have kf:=P.pf aD seq mv v ⟨pn,pf,dH,dL,nt,nl,bS,ps⟩;have cu:=aF.aT 27 kf.wt;have dz:=aF.aT 28 kf.wl;have dX:=aF.aT 29 kf.nt;have d_:=aF.aT 30 kf.nl;have f29:=aF.az;have cC:=aF.drew;unfold P.bO at cC aF;clear kf
  rotate_left
 all_goals repeat(first|go_big_quiet_step(fail)|apply ax|apply af|apply ag|apply ah)
 focus refine aj ?_;clear aF cu dz dX d_ f29 cC;have HS:=aa HS.drew
 rotate_left;iterate 3
  focus refine ao ?_;go_wp2_with fail;refine(HP.out _ _ _ hd HS.out _ _).kk λw6 h3=>?_;clear aF cu dz dX d_ f29 cC;have HS:=aa h3;clear h3
  rotate_left
 all_goals have aF:=HS.ar 1 rfl;have kf:=P.pf aD seq mv v ⟨pn,pf,dH,dL,nt,nl,bS,ps⟩;have cu:=aF.aT 27 kf.wt;have dz:=aF.aT 28 kf.wl;have dX:=aF.aT 29 kf.nt;have d_:=aF.aT 30 kf.nl;have f29:=aF.az;have cC:=aF.drew;unfold P.bO at cC aF;clear kf
 focus go_wp2;go_end0
 rotate_left;iterate 3
  focus
   go_wp2_with fail;repeat(first|go_big_quiet_step(fail)|apply ax|apply af|apply ag|apply ah)
   refine aj ?_
  rotate_left
 rotate_left;iterate 2
  focus
   go_wp2_with fail;refine bW [(1,[0,1,2,3,4,5,6,7,8,9,10])] (by kernel_rfl) ?_;simp only[zz];repeat(first|go_big_quiet_step(fail)|apply ax|apply af|apply ag|apply ah)
   refine aj ?_;clear aF cu dz dX d_ f29 cC;have HS:=aa HS.drew;have aF:=HS.ar 1 rfl;have kf:=P.pf aD seq mv v ⟨pn,pf,dH,dL,nt,nl,bS,ps⟩;have cu:=aF.aT 27 kf.wt;have dz:=aF.aT 28 kf.wl;have dX:=aF.aT 29 kf.nt;have d_:=aF.aT 30 kf.nl;have f29:=aF.az;have cC:=aF.drew;unfold P.bO at cC aF;clear kf
  rotate_left
 rotate_left 2;focus
  go_wp2;go_end0
 rotate_left;focus
  go_wp2_with fail;refine bW [(1,[0,1,2,3,4,6,7,8,9,10,11]),(2,[5]),(3,[12])] (by kernel_rfl) ?_;simp only[zz];refine af ?_;iterate 4 (first|go_big_quiet_step (fail)|quiet_step (fail))
  refine ak 58 _ b 0 cs _ rfl rfl rfl (cm cC (by simp)) underlying58 rfl (by rw[aD];kernel_rfl) ?_;simp only[Act.put,aZ,zs];repeat go_big_quiet_step(fail)
  refine ax ?_;refine aA ?_;go_wp2_with fail;refine(HA.out _ _ _ _).kf HS.dr λw4 HF HS=>?_;go_wp2;refine⟨⟨⟨_,(by exact HF.out)⟩,rfl⟩,?_⟩;clear aF cu dz dX d_ f29 cC;have aF:=HS.ar 1 rfl;have kf:=P.pf aD seq mv v ⟨pn,pf,dH,dL,nt,nl,bS,ps⟩;have cu:=aF.aT 27 kf.wt;have dz:=aF.aT 28 kf.wl;have dX:=aF.aT 29 kf.nt;have d_:=aF.aT 30 kf.nl;have f29:=aF.az;have cC:=aF.drew;unfold P.bO at cC aF;clear kf;repeat(first|go_big_quiet_step(fail)|apply ax|apply af|apply ag|apply ah)
  refine ao ?_;go_wp2_with fail;refine(HP.out _ _ _ UD HS.out _ _).kk λw6 h3=>?_;clear aF cu dz dX d_ f29 cC;have HS:=aa h3;clear h3;have aF:=HS.ar 1 rfl;have kf:=P.pf aD seq mv v ⟨pn,pf,dH,dL,nt,nl,bS,ps⟩;have cu:=aF.aT 27 kf.wt;have dz:=aF.aT 28 kf.wl;have dX:=aF.aT 29 kf.nt;have d_:=aF.aT 30 kf.nl;have f29:=aF.az;have cC:=aF.drew;unfold P.bO at cC aF;clear kf;go_wp2_with fail;repeat(first|go_big_quiet_step(fail)|apply ax|apply af|apply ag|apply ah)
  refine aj ?_;go_wp2;go_end0
 rotate_left;focus
  go_wp2;go_end0
 rotate_left;all_goals
  exact⟨rfl,zK.out▸HS.out⟩
def UF:=@zq28.1
def YS:=@zq28.2.1
def UG:=@zq28.2.2.1
def YT:=@zq28.2.2.2
def UH {w0 w R}(b k c)(aE:Y.Ok c)(seq mv v p s)(mY:0≤p.nt∧p.nt≤c.b)(kA:0≤p.nl∧p.nl≤b_ c)(hd:s.done.length≤900000)(hS:Sep w0 w (sp c seq b k mv v p s R)):
 bR 236 #[O b,O k] w w0 (sp c seq b k mv v p (P.end_ c p s) R):=by
 unfold P.end_;dsimp only;by_cases h:p.nt=p.wt<;>by_cases h1:p.nl=p.wl
 ·rw[aq (sW.2 h1),aq (sW.2 h)];exact UF b k c aE seq mv v p s mY kA h h1 hd hS
 ·rw[aB h1,aq (sW.2 h)];exact YT b k c aE seq mv v p s mY kA h h1 hd hS
 ·rw[aq (sW.2 h1),aB h];exact YS b k c aE seq mv v p s mY kA h h1 hd hS
 ·rw[aB h1,aB h];exact UG b k c aE seq mv v p s mY kA h h1 hd hS
end Go.Proofs.YtolkmchicplaoaaGreat
end
section
namespace Go.Proofs.YtolkmchicplaoaaGreat
open Go.RowKit Go.aS Go.aS.Y
def mM (c b s):∀k,(P.re c b k s).done.length≤s.done.length+k
 |0=>dp _
 |k+1=>by
  have h1:=mM c b s k;have h2:=fH (P.re c b k s) (at_ c 16 b k) 0;unfold P.re;omega
def zq29:(∀{w0 w R}(b k c)(aE:Y.Ok c)(seq mv v p s bb)(mY:0≤p.nt∧p.nt≤c.b)(h0:p.nt=0)(hd:s.done.length≤900000)(hS:Sep w0 w (sp c seq b k mv v p s R)),bR 198 #[O b,O k,I bb] w w0 (sp c seq b k mv v p s R))∧(∀{w0 w R}(b k c)(aE:Y.Ok c)(seq mv v p s bb)(mY:0≤p.nt∧p.nt≤c.b)(h0:p.nt≠0)(h1:at_ c 11 bb 0= -1)(hd:s.done.length≤900000)(hS:Sep w0 w (sp c seq b k mv v p s R)),bR 198 #[O b,O k,I bb] w w0 (sp c seq b k mv v p s R))∧(∀{w0 w R}(b k c)(aE:Y.Ok c)(seq mv v p s bb)(mY:0≤p.nt∧p.nt≤c.b)(h0:p.nt≠0)(h1:at_ c 11 bb 0≠-1)(hd:s.done.length≤900000)(hS:Sep w0 w (sp c seq b k mv v p s R)),bR 198 #[O b,O k,I bb] w w0 (sp c seq b k mv v {p with nt:=p.nt-1} (P.re c bb 8 (P.cU s (at_ c 11 bb 0) 1)) R)):=by
 refine⟨?_,?_,?_⟩;focus
  intro w0 w R b k c aE seq mv v p s bb mY h0 hd hS
 rotate_left;iterate 2
  focus intro w0 w R b k c aE seq mv v p s bb mY h0 h1 hd hS
  rotate_left
 all_goals
  try unfold P.cU
  have sr:=fH s (at_ c 11 bb 0) 1;have HWI:=aa (mM c bb (W.put s (at_ c 11 bb 0) 1).1);unfold P.cU at sr;have aD:(ae c).length=24:=rfl;have HA:=aa (λw kind i k=>cx w c aE kind i k);have HC:=aa (λw=>bM w c);have fS:=aa (λw=>e_ c w);have HP:=aa (λw' (s:W.S) (R:List a_) (hd:s.done.length≤1000000) (hS:Sep w0 w' (cw k s::R)) a v=>iz (w0:=w0) (w:=w') (R:=R) (b:=k) (s:=s) hS hd a v);have nU:=aE.b1;have kF:=aE.nZ;unfold sp aY at*;generalize fB:db c=cf at*;clear fB;generalize ae c=cs at*;obtain⟨pn,pf,dH,dL,nt,nl,bS,ps⟩:=p;dsimp only at*;have HS:=aa hS;clear hS;generalize sI:cw k _::_=TL;have zK:=aa sI;clear sI;have aF:=HS.ar 1 rfl;have kf:=P.pf aD seq mv v ⟨pn,pf,dH,dL,nt,nl,bS,ps⟩;have cu:=aF.aT 27 kf.wt;have dz:=aF.aT 28 kf.wl;have dX:=aF.aT 29 kf.nt;have d_:=aF.aT 30 kf.nl;have f29:=aF.az;have cC:=aF.drew;unfold P.bO at cC aF;clear kf;have hd:s.done.length≤1000000:=by omega
 focus
  have d1:(nt==0)=true:=by simpa using h0
  delta bR;go_in;clear h0;go_wp2;refine aV (v:= .tuple #[]) (by simp[results,Tryz.results198,go_sem]) rfl ?_
 rotate_left;iterate 2
  focus
   have d1:(nt==0)=false:=by simpa using h0
   delta bR;go_in
  rotate_left
 rotate_left 2;focus
  have d2:(at_ c 11 bb 0== -1)=false:=by simpa using h1
  have hwn:IntKind.i64.wrap (nt-1)=nt-1:=bf _ (by omega) (by omega)
 rotate_left 2;iterate 2
  focus go_wp2_with(refine ay 58 _ rfl rfl _ 0 rfl cs _ (cB.pre aF) underlying58 rfl (by rw[aD];kernel_rfl) ?_);refine(HA.out _ _ _ _).kk λw5 hf=>?_;clear aF cu dz dX d_ f29 cC;have HS:=aa (HS.fr0 hf);clear hf;have aF:=HS.ar 1 rfl;have kf:=P.pf aD seq mv v ⟨pn,pf,dH,dL,nt,nl,bS,ps⟩;have cu:=aF.aT 27 kf.wt;have dz:=aF.aT 28 kf.wl;have dX:=aF.aT 29 kf.nt;have d_:=aF.aT 30 kf.nl;have f29:=aF.az;have cC:=aF.drew;unfold P.bO at cC aF;clear kf
  rotate_left
 rotate_left;focus
  go_wp2;refine aV (v:= .tuple #[]) (by simp[results,Tryz.results198,go_sem]) rfl ?_
 rotate_left;focus
  have du:=HS.set 1 rfl 29 (I (nt-1));simp only[zs,P.vq aD]at du;have de:=aa du;clear du;have YU:=de.ar 1 rfl;unfold P.bO at YU;go_wp2_with(refine ay 58 _ rfl rfl _ 0 rfl cs _ (cB.pre YU) underlying58 rfl (by rw[aD];kernel_rfl) ?_);refine(HA.out _ _ _ _).kk λw2 hf=>?_;clear aF cu dz dX d_ f29 cC;have HS:=aa (de.fr0 hf);clear hf YU de;have aF:=HS.ar 1 rfl;have kf:=P.pf aD seq mv v ⟨pn,pf,dH,dL,nt-1,nl,bS,ps⟩;have cu:=aF.aT 27 kf.wt;have dz:=aF.aT 28 kf.wl;have dX:=aF.aT 29 kf.nt;have d_:=aF.aT 30 kf.nl;have f29:=aF.az;have cC:=aF.drew;unfold P.bO at cC aF;clear kf;go_wp2_with fail;refine(HP.out _ _ _ hd HS.out _ _).kk λw3 h3=>?_;clear aF cu dz dX d_ f29 cC;have HS:=aa h3;clear h3;go_wp2_with fail
 rotate_left
 ·exact⟨rfl,zK.out▸HS.out⟩
 ·exact⟨rfl,zK.out▸HS.out⟩
 ·go_loopg [39] 8 (λg vi wr=>∃j:Nat,g+j=8∧vi=I (j:Int)∧Sep w0 wr (cw k (P.re c bb j (W.put s (at_ c 11 bb 0) 1).1)::aJ b 261 (P.bO cs seq mv v ⟨pn,pf,dH,dL,nt-1,nl,bS,ps⟩)::R))
  case atStart=>exact⟨0,by omega,rfl,HS.out⟩
  case round=>
   clear HS;obtain⟨j,yy,rfl,hS⟩:=hrel;have HS:=aa hS;clear hS;by_cases hj:j<8
   ·have s9:(j:Int)<8:=by omega
    have hdj:=HWI.out j;have PL:(P.re c bb j (W.put s (at_ c 11 bb 0) 1).1).done.length≤1000000:=by omega
    clear hdj;have aF:=HS.ar 1 rfl;have kf:=P.pf aD seq mv v ⟨pn,pf,dH,dL,nt-1,nl,bS,ps⟩;have cu:=aF.aT 27 kf.wt;have dz:=aF.aT 28 kf.wl;have dX:=aF.aT 29 kf.nt;have d_:=aF.aT 30 kf.nl;have f29:=aF.az;have cC:=aF.drew;unfold P.bO at cC aF;clear kf;go_wp2_with(refine ay 58 _ rfl rfl _ 0 rfl cs _ (cB.pre aF) underlying58 rfl (by rw[aD];kernel_rfl) ?_);refine(HA.out _ _ _ _).kk λw2 hf=>?_;clear aF cu dz dX d_ f29 cC;have HS:=aa (HS.fr0 hf);clear hf;go_wp2_with fail;refine(HP.out _ _ _ PL HS.out _ _).kh λw3 HS=>?_;go_wp2;go_roundg (8-(j+1))
    case measure=>omega
    case rel=>exact⟨j+1,by omega,by go_num,HS.out⟩
   ·obtain rfl:j=8:=by omega
    go_wp2;go_end0;exact⟨rfl,zK.out▸HS.out⟩
def Hp:=@zq29.1
def PK:=@zq29.2.1
def Lz:=@zq29.2.2
def PM {w0 w R}(b k c)(aE:Y.Ok c)(seq mv v p s bb)(mY:0≤p.nt∧p.nt≤c.b)(hd:s.done.length≤900000)(hS:Sep w0 w (sp c seq b k mv v p s R)):
 bR 198 #[O b,O k,I bb] w w0 (sp c seq b k mv v (P.take c bb p s).1 (P.take c bb p s).2 R):=by
 unfold P.take;by_cases h:p.nt=0
 ·rw[aB (.inl h)];exact Hp b k c aE seq mv v p s bb mY h hd hS
 by_cases h1:at_ c 11 bb 0= -1
 ·rw[aB (.inr h1)];exact PK b k c aE seq mv v p s bb mY h h1 hd hS
 rw[aq (λhh=>hh.elim h h1)];dsimp only;exact Lz b k c aE seq mv v p s bb mY h h1 hd hS
end Go.Proofs.YtolkmchicplaoaaGreat
end
namespace Go.Proofs.YtolkmchicplaoaaGreat
open Go.RowKit Go.aS Go.aS.Y
def wR (c bb p s):(P.take c bb p s).1.next=p.next∧(P.take c bb p s).1.f=p.f∧(P.take c bb p s).1.bS=p.bS:=by
 unfold P.take;split<;>exact⟨rfl,rfl,rfl⟩
def wS (c bb p s):(P.nM c bb p s).1.next=p.next∧(P.nM c bb p s).1.f=p.f∧(P.nM c bb p s).1.bS=p.bS:=by
 unfold P.nM;split<;>exact⟨rfl,rfl,rfl⟩
def Dg {w0 w R c seq b k p p' s s'}{fn:FuncId}{args:Array Value}(h1:p'.next=p.next)(h2:p'.f=p.f)(h3:p'.bS=p.bS)
 (hc:∀(mv v:Value) (RR:List a_),Sep w0 w (sp c seq b k mv v p s RR)→Calls Tryz.prog fn args w λe w'=>e=E∧Sep w0 w' (sp c seq b k mv v p' s' RR))
 (hS:Sep w0 w (cw k s::bE c seq b p::R)):Calls Tryz.prog fn args w λe w'=>e=E∧Sep w0 w' (cw k s'::bE c seq b p'::R):=by
 obtain⟨mb,la,lc,h4⟩:=fA (hS.pull 1 rfl);refine(hc (.map (some mb)) (.slice la p.bS.length lc) (_::_::R) (h4.pull 3 rfl)).mono ?_;rintro e w' ⟨he,h5⟩;refine⟨he,?_⟩;unfold sp at h5;have h6:Sep w0 w' (aJ b 261 (P.bO (ae c) seq (.map (some mb)) (.slice la p.bS.length lc) p')::sA Tryz.prog 26 3 .u64 .i64 mb p.next.toNat p'.f::aU 0 26 1 (.slice la p.bS.length lc) p.bS.length (p'.bS.map (Value.int .u64))::cw k s'::R):=by
  rw[h2,h3];exact(((h5.pull 3 rfl).pull 3 rfl).pull 3 rfl)
 exact(jv (by rw[h1];exact dp _) (by rw[h3]) h6).pull 1 rfl
def YV {w0 w R}(b k c)(aE:Y.Ok c)(seq p s bb)(mY:0≤p.nt∧p.nt≤c.b)(hd:s.done.length≤900000)(hS:Sep w0 w (cw k s::bE c seq b p::R)):
 bR 198 #[O b,O k,I bb] w w0 (cw k (P.take c bb p s).2::bE c seq b (P.take c bb p s).1::R):=
 Dg (wR c bb p s).1 (wR c bb p s).2.1 (wR c bb p s).2.2 (λmv v RR h=>PM b k c aE seq mv v p s bb mY hd h) hS
def YW {w0 w R}(b k c)(aE:Y.Ok c)(seq p s bb)(kA:0≤p.nl∧p.nl≤b_ c)(hd:s.done.length≤900000)(hS:Sep w0 w (cw k s::bE c seq b p::R)):
 bR 191 #[O b,O k,I bb] w w0 (cw k (P.nM c bb p s).2::bE c seq b (P.nM c bb p s).1::R):=
 Dg (wS c bb p s).1 (wS c bb p s).2.1 (wS c bb p s).2.2 (λmv v RR h=>PJ b k c aE seq mv v p s bb kA hd h) hS
def ag8 {w0 w R}(b k c)(aE:Y.Ok c)(seq p s)(mY:0≤p.nt∧p.nt≤c.b)(kA:0≤p.nl∧p.nl≤b_ c)(hd:s.done.length≤900000)(hS:Sep w0 w (cw k s::bE c seq b p::R)):
 bR 236 #[O b,O k] w w0 (cw k (P.end_ c p s)::bE c seq b p::R):=
 Dg rfl rfl rfl (λmv v RR h=>UH b k c aE seq mv v p s mY kA hd h) hS
def Dh (c pn)(pf:Int→Int)(dH dL x nl bS ps s y)(hx:0≤x∧x≤c.b):
 ∃x' s',P.release c (⟨pn,pf,dH,dL,x,nl,bS,ps⟩,s) y=(⟨pn,pf,dH,dL,x',nl,bS,ps⟩,s')∧(0≤x'∧x'≤c.b)∧s'.done.length≤s.done.length+2:=by
 have h1:=fH s (at_ c 11 y 0) 0;have h2:=fH (P.cU s (at_ c 11 y 0) 0) (at_ c 13 x 0) y;unfold P.release;dsimp only;split
 ·exact⟨x+1,_,rfl,by omega,by omega⟩
 ·exact⟨x,_,rfl,hx,by omega⟩
def Di {w0 w R c seq b k mb p s}{z:P.St×W.S×Int}{T}(hz:P.fP c p.bS 0 0 (p,s)=z)(hn:z.1.next=p.next)
 (hf:z.1.f=p.f)(hS:Sep w0 w (cw k z.2.1::aJ b 261 (P.bO (ae c) seq (.map (some mb)) (.slice none 0 0) {z.1 with nl:=z.2.2,bS:=[]})::sA Tryz.prog 26 3 .u64 .i64 mb p.next.toNat p.f::T::R)):
 Sep w0 w (cw k (P.settle c p s).2::bE c seq b (P.settle c p s).1::R):=by
 have h1:=((hS.pull 3 rfl).tail).k5 0 26 1;have h2:=(h1.pull 3 rfl).pull 3 rfl;unfold P.settle;rw[hz];exact(jv (c:=c) (seq:=seq) (b:=b) (mb:=mb) (n:=p.next.toNat) (k:=0) (v:= .slice none 0 0) (p:={z.1 with nl:=z.2.2,bS:=[]}) (by dsimp only;rw[hn];exact dp _) rfl (by dsimp only;rw[hf];exact h2)).pull 1 rfl
def wT (w):(zeroValue 3).run Tryz.prog w= .ok (I 0) w:=by kernel_rfl
def Hq {w0 w R}(b k c)(aE:Y.Ok c)(seq p s)(hp:P.Ok c p)(hd:s.done.length≤100000)(hS:Sep w0 w (cw k s::bE c seq b p::R)):
 bR 234 #[O b,O k] w w0 (cw k (P.settle c p s).2::bE c seq b (P.settle c p s).1::R):=by
 obtain⟨mb,la,lc,h2⟩:=fA (hS.pull 1 rfl);have h3:=h2.pull 3 rfl;clear h2 hS;obtain⟨PN,vy⟩:∃PN,P.fP c p.bS 0 0 (p,s)=PN:=⟨_,rfl⟩;have dQ:=aa (λw' (T:a_) hn hf hS=>Di (w0:=w0) (w:=w') (R:=R) (c:=c) (seq:=seq) (b:=b) (k:=k) (mb:=mb) (p:=p) (s:=s) (z:=PN) (T:=T) vy hn hf hS);generalize cw k (P.settle c p s).2::bE c seq b (P.settle c p s).1::R=TL at*;have zE:=bK aE;have mY:=hp.nt;have SV:=hp.bS;have Hh:=hp.len;have vu:=hp.wl;have Be:=hp.f;have kT:=hp.next;clear hp;have aD:(ae c).length=24:=rfl;have HA:=aa (λw kind i k=>cx w c aE kind i k);have HC:=aa (λw=>bM w c);have fS:=aa (λw=>e_ c w);have HP:=aa (λw' (s:W.S) (R:List a_) (hd:s.done.length≤1000000) (hS:Sep w0 w' (cw k s::R)) a v=>iz (w0:=w0) (w:=w') (R:=R) (b:=k) (s:=s) hS hd a v);have HR:=aa (λw' (R:List a_) (mv v:Value) (p:P.St) (s:W.S) (bb:Int) (BZ:0≤bb∧bb≤1000) (mY:0≤p.nt∧p.nt≤c.b) (hd:s.done.length≤900000) (hS:Sep w0 w' (cw k s::aJ b 261 (P.bO (ae c) seq mv v p)::R))=>E0 b k c aE seq mv v p s bb BZ mY hd hS);have nU:=aE.b1;have kF:=aE.nZ;unfold sp aY at*;generalize fB:db c=cf at*;clear fB;generalize ae c=cs at*;obtain⟨pn,pf,dH,dL,nt,nl,bS,ps⟩:=p;dsimp only at*;obtain⟨ln,o8⟩:∃ln:Nat,bS.length=ln:=⟨_,rfl⟩;rw[o8]at h3 Hh;have HS:=aa h3;clear h3;have ay7:ln≤520:=by omega
 have qz:=HS.row 3 rfl;have ag9:Hid (0<ln→∃g,la=some ⟨g,0,none⟩):=aa (by
  intro h0;rcases bg qz with⟨e0,e1⟩|⟨g,c',e0,_⟩
  ·omega
  ·simp only[dk]at e0;exact⟨g,e0.1⟩)
 clear qz;have YR:=λw=>(fS.out w).2;have GK:IntKind.u64.wrap c.b=c.b:=by rw[ir];omega
 have aF:=HS.ar 1 rfl;have kf:=P.pf aD seq (.map (some mb)) (.slice la ln lc) ⟨pn,pf,dH,dL,nt,nl,bS,ps⟩;have ee:=aF.aT 26 kf.mp;have d_:=aF.aT 30 kf.nl;have eY:=aF.aT 31 kf.bS;have f30:=aF.az;unfold P.bO at aF;clear kf;delta bR;go_in;go_wp2_with fail;go_loopg [4,12] ln (λg vk vi wr=>∃(j kept:Nat) (x:Int) (sj:W.S),g+j=ln∧vi=I (j:Int)∧vk=I (kept:Int)∧(kept≤j∧(0≤x∧x≤c.b)∧sj.done.length≤s.done.length+2*j)∧P.fP c (bS.drop j) j kept (⟨pn,pf,dH,dL,x,nl,bS,ps⟩,sj)=PN∧Sep w0 wr (cw k sj::aJ b 261 (P.bO cs seq (.map (some mb)) (.slice la ln lc) ⟨pn,pf,dH,dL,x,nl,bS,ps⟩)::sA Tryz.prog 26 3 .u64 .i64 mb pn.toNat pf::aU 0 26 1 (.slice la ln lc) ln (bS.map (Value.int .u64))::R))
 case atStart=>exact⟨0,0,nt,s,by omega,rfl,rfl,⟨dp _,mY,by omega⟩,vy,HS.out⟩
 case round=>
  clear aF ee d_ eY f30;clear HS mY;obtain⟨j,kept,x,sj,yy,rfl,rfl,⟨SU,hx,hdj⟩,hG,hS⟩:=hrel;have HS:=aa hS;clear hS;have aF:=HS.ar 1 rfl;have kf:=P.pf aD seq (.map (some mb)) (.slice la ln lc) ⟨pn,pf,dH,dL,x,nl,bS,ps⟩;have ee:=aF.aT 26 kf.mp;have d_:=aF.aT 30 kf.nl;have eY:=aF.aT 31 kf.bS;have f30:=aF.az;unfold P.bO at aF;clear kf;by_cases hj:j<ln
  ·have s9:(j:Int)<(ln:Int):=by omega
   obtain⟨g,rfl⟩:=ag9.out (by omega);have mW:j<bS.length:=by omega
   have hy:=SV bS[j] (cJ mW);have hcy:=aH (HS.row 3 rfl) j _ (by rw[jE,cy mW];rfl);rw[pO mW]at hG;generalize bS[j]=y at*;unfold P.fP at hG;dsimp only at hG;go_wp2_with(refine ay 58 _ rfl rfl _ 0 rfl cs _ (cB.pre aF) underlying58 rfl (by rw[aD];kernel_rfl) ?_);refine(HC.out _).kk λw2 hf=>?_;clear aF ee d_ eY f30;clear hcy;have HS:=aa (HS.fr0 hf);clear hf;have aF:=HS.ar 1 rfl;have kf:=P.pf aD seq (.map (some mb)) (.slice (some ⟨g,0,none⟩) ln lc) ⟨pn,pf,dH,dL,x,nl,bS,ps⟩;have ee:=aF.aT 26 kf.mp;have d_:=aF.aT 30 kf.nl;have eY:=aF.aT 31 kf.bS;have f30:=aF.az;unfold P.bO at aF;clear kf;by_cases h1:c.b≤y
   ·rw[aB h1]at hG;have d1:decide (y≥c.b)=true:=by simpa using h1
    clear h1;go_wp2;go_roundg (ln-(j+1))
    case measure=>omega
    case rel=>exact⟨j+1,kept,x,sj,by omega,by go_num,by go_num,⟨by omega,hx,by omega⟩,hG,HS.out⟩
   rw[aq h1]at hG;have d1:decide (y≥c.b)=false:=by simpa using h1
   have hyb:y<c.b:=by omega
   clear h1;have hwy:IntKind.u64.wrap (y+1)=y+1:=by rw[ir];omega
   have hwi:IntKind.i64.wrap y=y:=bf _ (by omega) (by omega);have S1:(Lit.int .u64 (y+1)).wf=true:=by
    have e0:IntKind.u64.min=0:=by decide
    have e1:IntKind.u64.max=18446744073709551615:=by decide
    simp only[Lit.wf,eO,gG];omega
   by_cases h2:pf (y+1)=0
   ·rw[aB h2]at hG;have d2:(pf (y+1)==0)=true:=by simpa using h2
    clear h2;obtain⟨x',s',e1,tf,T5⟩:=Dh c pn pf dH dL x nl bS ps sj y hx;rw[e1]at hG;have HE1:=aa e1;clear e1;have PL:sj.done.length≤900000:=by omega
    have Yu:0≤y∧y≤1000:=by omega
    go_wp2_with(at_lookup;go_must (refine jK HS.out 2 rfl (by rfl) _ _ 259 rfl underlying26 underlying259 underlying3 wT rfl (y+1) rfl S1 ?_));refine(HR.out _ _ _ _ _ _ _ Yu hx PL HS.out).kk λw3 h3=>?_;rw[HE1.out]at h3;clear aF ee d_ eY f30;have HS:=aa h3;clear h3 HE1;go_wp2;go_roundg (ln-(j+1))
    case measure=>omega
    case rel=>exact⟨j+1,kept,x',s',by omega,by go_num,by go_num,⟨by omega,tf,by omega⟩,hG,HS.out⟩
   rw[aq h2]at hG;have d2:(pf (y+1)==0)=false:=by simpa using h2
   clear h2;by_cases h3:(kept:Int)≠(j:Int)
   ·rw[aB h3]at hG;have d3:((kept:Int) !=(j:Int))=true:=by simpa using h3
    clear h3;have PL:sj.done.length≤1000000:=by omega
    have ap8:=fH sj (at_ c 15 (kept:Int) 0) y;unfold P.cU at ap8 hG;have LA:IntKind.i64.wrap ((kept:Int)+1)=(kept:Int)+1:=bf _ (by omega) (by omega);go_wp2_with(first|(at_lookup;go_must (refine jK HS.out 2 rfl (by rfl) _ _ 259 rfl underlying26 underlying259 underlying3 wT rfl (y+1) rfl S1 ?_))|(refine ay 58 _ rfl rfl _ 0 rfl cs _ (cB.pre aF) underlying58 rfl (by rw[aD];kernel_rfl) ?_));refine(HA.out _ _ _ _).kk λw3 hf=>?_;clear aF ee d_ eY f30;have HS:=aa (HS.fr0 hf);clear hf;go_wp2_with fail;refine(HP.out _ _ _ PL HS.out _ _).kh λw4 HS=>?_;go_wp2;go_roundg (ln-(j+1))
    case measure=>omega
    case rel=>exact⟨j+1,kept+1,x,_,by omega,by go_num,by go_num,⟨by omega,hx,by omega⟩,hG,HS.out⟩
   ·rw[aq h3]at hG;have d3:((kept:Int) !=(j:Int))=false:=by simpa using h3
    have LA:IntKind.i64.wrap ((kept:Int)+1)=(kept:Int)+1:=bf _ (by omega) (by omega);clear h3;go_wp2_with(at_lookup;go_must (refine jK HS.out 2 rfl (by rfl) _ _ 259 rfl underlying26 underlying259 underlying3 wT rfl (y+1) rfl S1 ?_));go_roundg (ln-(j+1))
    case measure=>omega
    case rel=>exact⟨j+1,kept+1,x,sj,by omega,by go_num,by go_num,⟨by omega,hx,by omega⟩,hG,HS.out⟩
  ·obtain rfl:j=ln:=by omega
   go_wp2;go_end0;have du:=(HS.set 1 rfl 30 (I kept)).set 1 rfl 31 (.slice none 0 0);simp only[zs,P.vr aD,P.wO aD]at du;rw[List.drop_of_length_le (by omega)]at hG;unfold P.fP at hG;subst hG;exact⟨rfl,dQ.out _ _ rfl rfl du⟩
end Go.Proofs.YtolkmchicplaoaaGreat
namespace Go.aS.W
def ou (s:S):Prop:=(∀e∈s.list,0≤e.2∧e.2≤18446744073709551615)∧∀d∈s.done,0≤d.2.1∧d.2.1≤18446744073709551615
def ou.get {s:S}(h:ou s)(a:Int):0≤(get s a).1∧(get s a).1≤18446744073709551615:=by
 unfold W.get;split
 ·rename_i i hi;obtain⟨hl,_⟩:=kQ hi;have:s.list.getD i (0,0)=s.list[i]:=by simp[List.getD,hl]
  rw[this];exact h.1 _ (cJ hl)
 ·exact⟨by decide,by decide⟩
end Go.aS.W
namespace Go.Proofs.YtolkmchicplaoaaGreat
open Go.RowKit Go.aS Go.aS.I_ Go.aS.Y
structure EH (cs:List Value)(cv:Value)(args:List Int)(vb pb sb:Nat)(mark mt ml:Int)(H:List Value):Prop where
 len:H.length=35
 m:∀k,k<24→H[k]?=cs[k]?
 code:H[24]?=some cv
 args:∀k,k<4→H[25+k]?=(bC args)[k]?
 v:H[29]?=some (O vb)
 p:H[30]?=some (O pb)
 w:H[31]?=some (O sb)
 mark:H[32]?=some (I mark)
 mt:H[33]?=some (I mt)
 ml:H[34]?=some (I ml)
def fJ (cs:List Value)(cv:Value)(args:List Int)(vb pb sb:Nat)(mark mt ml:Int):List Value:=
 cs++([cv]++(bC args++[O vb,O pb,O sb,I mark,I mt,I ml]))
def cH {cs}(aD:cs.length=24)(cv){args}(ha:args.length=4)(vb pb sb mark mt ml):EH cs cv args vb pb sb mark mt ml (fJ cs cv args vb pb sb mark mt ml):=by
 have hl:(bC args).length=4:=by unfold bC;rw[dD,ha]
 unfold fJ;have A:∀k,25≤k→(cs++([cv]++(bC args++[O vb,O pb,O sb,I mark,I mt,I ml])))[k]?=(bC args++[O vb,O pb,O sb,I mark,I mt,I ml])[k-25]?:=by
  intro k hk;rw[gw (by omega),aD,gw (by simp;omega)];congr 1
 refine⟨by simp[aD,hl],λk hk=>gm (by omega),?_,λk hk=>?_,?_,?_,?_,?_,?_,?_⟩
 ·rw[gw (by omega),aD];rfl
 ·rw[A _ (by omega),zd,gm (by omega)]
 all_goals(rw[A _ (by omega),gw (by omega),hl];rfl)
def iN (H:List Value)(aI:List Int)(t:List Value):List Value:=H++(bC aI++t)
def ey (x:X.St)(nv:Value):List Value:=[I x.pc,I x.steps,I x.writes,.bool x.waits,I x.i.op,I x.i.a,I x.i.b,I x.i.c,U x.i.bN,I x.s,I x.rc,U x.rv,nv]
def PO {H}(hH:H.length=35)(r t){k}(hk:k<35):(iN H r t)[k]?=H[k]?:=gm (by omega)
def dM {H}(hH:H.length=35){r}(hr:r.length=16)(t){k}(hk:k<16):(iN H r t)[35+k]?=(bC r)[k]?:=by
 have hl:(bC r).length=16:=by unfold bC;rw[dD,hr]
 unfold iN;rw[gw (by omega),hH,zd,gm (by omega)]
def Dj {H}(hH:H.length=35){r}(hr:r.length=16)(t j):(iN H r t)[51+j]?=t[j]?:=by
 have hl:(bC r).length=16:=by unfold bC;rw[dD,hr]
 unfold iN;rw[gw (by omega),hH,gw (by omega),hl];congr 1;omega
def Hs {H}(hH:H.length=35){r}(hr:r.length=16)(t j v):(iN H r t).set (51+j) v=iN H r (t.set j v):=by
 have hl:(bC r).length=16:=by unfold bC;rw[dD,hr]
 unfold iN;rw[eD _ _ (by omega),hH,eD _ _ (by omega),hl];congr 3;omega
def nA {H}(hH:H.length=35){r}(hr:r.length=16)(t){k}(hk:k<16)(x):(iN H r t).set (35+k) (U x)=iN H (r.set k x) t:=by
 have hl:(bC r).length=16:=by unfold bC;rw[dD,hr]
 unfold iN;rw[eD _ _ (by omega),hH,zd,uK _ _ (by omega)];congr 2;unfold bC;rw[kE]
def lP (c:cA)(aw seq:Int)(b vb pb sb:Nat)(cv:Value)(args:List Int)(nv:Value)(x:X.St):List a_:=
 [aJ b 255 (iN (fJ (ae c) cv args vb pb sb x.mark x.mt x.ml) x.aI (ey x nv)),aU 0 26 1 nv x.news.length (bC x.news),aJ vb 258 (Vw.eU (ae c) aw seq x.v),bE c seq pb x.p,cw sb x.w]
def aQ (c:cA)(aw seq:Int)(b vb pb sb:Nat)(cv:Value)(args:List Int)(x:X.St):a_:=EG λnv=>cM (lP c aw seq b vb pb sb cv args nv x)
def bh {w0 w R c aw seq b vb pb sb cv args x}(h:Sep w0 w (aQ c aw seq b vb pb sb cv args x::R)):
 ∃la lc,Sep w0 w (lP c aw seq b vb pb sb cv args (.slice la x.news.length lc) x++R):=by
 obtain⟨nv,h1⟩:=h.rZ;have h2:=h1.ofList;obtain⟨la,lc,rfl⟩:=h2.form 1 rfl;exact⟨la,lc,h2⟩
def bF {w0 w R c aw seq b vb pb sb cv args nv x}(h:Sep w0 w (lP c aw seq b vb pb sb cv args nv x++R)):
 Sep w0 w (aQ c aw seq b vb pb sb cv args x::R):=
 Sep.qX (A:=Value) (λnv=>cM (lP c aw seq b vb pb sb cv args nv x)) (a:=nv) h.toList
structure gE (c:cA)(x:X.St):Prop where
 aI:x.aI.length=16
 ru:∀r∈x.aI,0≤r∧r≤18446744073709551615
 ia:0≤x.i.a∧x.i.a<16
 ib:0≤x.i.b∧x.i.b<16
 ic:0≤x.i.c∧x.i.c<16
 im:0≤x.i.bN∧x.i.bN≤18446744073709551615
 i8:x.i.op=8→x.i.bN<4
 wr:0≤x.writes∧x.writes≤c.w
 dn:x.w.done.length≤600000
 st:0≤x.steps∧x.steps≤1000
 pc:0≤x.pc∧x.pc≤300
 nt:0≤x.p.nt∧x.p.nt≤c.b
 nl:0≤x.p.nl∧x.p.nl≤b_ c
 mt:0≤x.mt∧x.mt≤c.b
 ml:0≤x.ml∧x.ml≤b_ c
 nw:x.news.length≤9000
 wu:W.ou x.w
 vv:0≤x.v.val∧x.v.val≤18446744073709551615
def gE.wv {c x}(h:gE c x)(a):0≤(W.get x.w a).1∧(W.get x.w a).1≤18446744073709551615:=h.wu.get a
def eK {H}(hH:H.length=35){r}(hr:r.length=16)(t k v)(hk:51≤k):(iN H r t).set k v=iN H r (t.set (k-51) v):=by
 have:=Hs hH hr t (k-51) v;rwa [show 51+(k-51)=k by omega]at this
def ax3 {H}(hH:H.length=35){r}(hr:r.length=16)(t k)(hk:51≤k):(iN H r t)[k]?=t[k-51]?:=by
 have:=Dj hH hr t (k-51);rwa [show 51+(k-51)=k by omega]at this
def jC {w0 w R c aw seq b vb pb sb cv args}(ha:args.length=4){x}(h:gE c x)(e val)(hS:Sep w0 w (aQ c aw seq b vb pb sb cv args x::R)):
 bR 156 #[O b,I e,U val] w w0 (aQ c aw seq b vb pb sb cv args (X.fail e val x)::R):=by
 obtain⟨la,lc,h2⟩:=bh hS;have dQ:Hid (∀w' nv,Sep w0 w' (aJ b 255 (iN (fJ (ae c) cv args vb pb sb x.mark x.mt x.ml) (X.fail e val x).aI (ey (X.fail e val x) nv))::aU 0 26 1 nv (X.fail e val x).news.length (bC (X.fail e val x).news)::aJ vb 258 (Vw.eU (ae c) aw seq (X.fail e val x).v)::bE c seq pb (X.fail e val x).p::cw sb (X.fail e val x).w::R)→Sep w0 w' (aQ c aw seq b vb pb sb cv args (X.fail e val x)::R)):=aa (λw' nv h=>bF h);have hE:=cH (show(ae c).length=24 from rfl) cv ha vb pb sb x.mark x.mt x.ml;unfold lP at h2;simp only[za]at h2;generalize fJ (ae c) cv args vb pb sb x.mark x.mt x.ml=H at*;have HE:=aa hE;have HX:=aa h;have HS:=aa h2;clear hS h2 hE h;obtain⟨xv,xp,xw,mk,mt,ml,rg,pc,st,wr,wt,i,s,rc,rv,nw⟩:=x;unfold ey at HS;dsimp only at*;have f31:=(HS.ar 0 rfl).drew.fM HE.len 31 rfl HE.out.w;have f32:=(HS.ar 0 rfl).drew.fM HE.len 32 rfl HE.out.mark;delta bR;go_in;go_wp2_with fail;refine bW [(1,[0,1,2,3,4,5,6,7]),(3,[8])] (by kernel_rfl) ?_;simp only[zz];repeat(first|go_big_quiet_step(fail)|apply ax|apply af|apply ag|apply ah)
 refine ao ?_;go_wp2_with fail;refine(HS.drew.call 4 rfl (λR hR=>Pd hR (by have h1:=HX.out.dn;have h2:=HX.out.st;dsimp only at h1 h2;omega) mk)).kk λw1 h1=>?_;simp only[zs]at h1;have HS:=aa h1;clear h1 f31 f32;go_wp2;refine aj ?_;have f30:=(HS.ar 0 rfl).drew.fM HE.len 30 rfl HE.out.p;have f33:=(HS.ar 0 rfl).drew.fM HE.len 33 rfl HE.out.mt;have f34:=(HS.ar 0 rfl).drew.fM HE.len 34 rfl HE.out.ml;go_wp2_with fail;refine bW [(1,[0,1,2,3,4,5,6,7]),(3,[8])] (by kernel_rfl) ?_;simp only[zz];repeat(first|go_big_quiet_step(fail)|apply ax|apply af|apply ag|apply ah)
 refine ao ?_;go_wp2_with fail;refine(HS.drew.call 3 rfl (λR hR=>PG pb c seq xp mt ml hR)).kk λw2 h1=>?_;simp only[zs]at h1;have HS:=aa h1;clear h1 f30 f33 f34;go_wp2;refine aj ?_;have bQ:=HX.aI;dsimp only at bQ;have LC:=(HS.ar 0 rfl).aT 60 (Dj HE.len bQ _ 9);have k61:=(HS.ar 0 rfl).aT 61 (Dj HE.len bQ _ 10);have k62:=(HS.ar 0 rfl).aT 62 (Dj HE.len bQ _ 11);have f60:=(HS.ar 0 rfl).az;simp only[zg]at LC k61 k62;have h3:=((HS.set 0 rfl 60 (I 1)).set 0 rfl 61 (I e)).set 0 rfl 62 (U val);simp only[aL,eK HE.len bQ,Nat.reduceSub,Nat.reduceLeDiff,aN]at h3;have eH:=aa h3;clear h3;go_wp2;go_end0;exact⟨rfl,dQ.out _ _ eH.out⟩
def dw {w b}{T:TypeId}{cs H t r cv args vb pb sb mark mt ml}(aD:cs.length=24)(hE:EH cs cv args vb pb sb mark mt ml H)(h:cB w b T (iN H r t)):w.rangeAt b 0 cs:=λj u hj=>by
 have zM:j<24:=by rw[←aD];exact(dE.1 hj).1
 have:=(h.cell j).trans ((PO hE.len _ _ (by omega)).trans ((hE.m j zM).trans hj));simpa using this
def eS (c w):(Instr.field 31 (db c) 0).run Tryz.prog w= .ok (I c.t) w∧(Instr.field 31 (db c) 1).run Tryz.prog w= .ok (I c.b) w∧(Instr.field 31 (db c) 2).run Tryz.prog w= .ok (I c.w) w∧(Instr.field 31 (db c) 3).run Tryz.prog w= .ok (I c.f) w:=
 ⟨dW w _ _ _ _ _ _ _ underlying31 rfl underlying3 rfl rfl,dW w _ _ _ _ _ _ _ underlying31 rfl underlying3 rfl rfl,dW w _ _ _ _ _ _ _ underlying31 rfl underlying3 rfl rfl,dW w _ _ _ _ _ _ _ underlying31 rfl underlying3 rfl rfl⟩
def aG {fp w0 b off cs}(h:w0.rangeAt b off cs)(hn:b∉fp):∀w',(∃x:rS fp w0,w'=x.wd)→w'.rangeAt b off cs:=by
 rintro _ ⟨x,rfl⟩ j v hj;exact x.fr.cell (h j v hj) hn
def zq30:(∀{w0 w R c}(aE:Y.Ok c){aw seq b vb pb sb cv args}(ha:args.length=4){x}(h:gE c x)(hc:c.w-x.writes<bV x.i.op)(hS:Sep w0 w (aQ c aw seq b vb pb sb cv args x::R)),jh 189 #[O b] w (.bool false) w0 (aQ c aw seq b vb pb sb cv args (X.fail 42 0 x)::R))∧(∀{w0 w R c}(aE:Y.Ok c){aw seq b vb pb sb cv args}(ha:args.length=4){x}(h:gE c x)(hc:¬c.w-x.writes<bV x.i.op)(hS:Sep w0 w (aQ c aw seq b vb pb sb cv args x::R)),jh 189 #[O b] w (.bool true) w0 (aQ c aw seq b vb pb sb cv args {x with writes:=x.writes+bV x.i.op}::R)):=by
 refine⟨?_,?_⟩;all_goals
  intro w0 w R c aE aw seq b vb pb sb cv args ha x h hc hS;have hw:=aE.Jw
 focus have AY:=aa (λw' hS=>jC (w0:=w0) (w:=w') (R:=R) (c:=c) (aw:=aw) (seq:=seq) (b:=b) (vb:=vb) (pb:=pb) (sb:=sb) (cv:=cv) ha h 42 0 hS);obtain⟨la,lc,h2⟩:=bh hS;have dQ:Hid (∀w' nv,Sep w0 w' (aJ b 255 (iN (fJ (ae c) cv args vb pb sb x.mark x.mt x.ml) (x).aI (ey (x) nv))::aU 0 26 1 nv (x).news.length (bC (x).news)::aJ vb 258 (Vw.eU (ae c) aw seq (x).v)::bE c seq pb (x).p::cw sb (x).w::R)→Sep w0 w' (aQ c aw seq b vb pb sb cv args (x)::R)):=aa (λw' nv h=>bF h)
 rotate_left;focus
  have hco:0≤bV x.i.op∧bV x.i.op≤9:=by unfold bV;split;omega;split;omega;split<;>omega
  obtain⟨la,lc,h2⟩:=bh hS;have dQ:Hid (∀w' nv,Sep w0 w' (aJ b 255 (iN (fJ (ae c) cv args vb pb sb x.mark x.mt x.ml) ({x with writes:=x.writes+bV x.i.op}).aI (ey ({x with writes:=x.writes+bV x.i.op}) nv))::aU 0 26 1 nv ({x with writes:=x.writes+bV x.i.op}).news.length (bC ({x with writes:=x.writes+bV x.i.op}).news)::aJ vb 258 (Vw.eU (ae c) aw seq ({x with writes:=x.writes+bV x.i.op}).v)::bE c seq pb ({x with writes:=x.writes+bV x.i.op}).p::cw sb ({x with writes:=x.writes+bV x.i.op}).w::R)→Sep w0 w' (aQ c aw seq b vb pb sb cv args ({x with writes:=x.writes+bV x.i.op})::R)):=aa (λw' nv h=>bF h)
 all_goals have hE:=cH (show(ae c).length=24 from rfl) cv ha vb pb sb x.mark x.mt x.ml;unfold lP at h2;simp only[za]at h2;generalize fJ (ae c) cv args vb pb sb x.mark x.mt x.ml=H at*;have HE:=aa hE;have HX:=aa h;have HS:=aa h2;clear hS h2 hE h;have aD:(ae c).length=24:=rfl;have gF:=aa (λw=>bM w c);have fS:=aa (λw=>eS c w);unfold aY at*;generalize fB:db c=cf at*;clear fB;generalize ae c=cs at*;obtain⟨xv,xp,xw,mk,mt,ml,rg,pc,st,wr,wt,⟨op,ia,ib,ic,im⟩,s,rc,rv,nw⟩:=x;unfold ey at HS;dsimp only at*;have wg:=aa (λw=>zG w op);generalize bV op=co at*
 rotate_left;focus
  have hd:decide (c.w-wr<co)=true:=by simpa using hc
 rotate_left;focus
  have hd:decide (c.w-wr<co)=false:=by simpa using hc
 all_goals
  have HC:=aa hc;clear hc;have bQ:=HX.aI;have JI:=HX.out.wr;dsimp only at bQ JI;have f55:=(HS.ar 0 rfl).cD HE.len bQ 55 rfl rfl;delta jh;go_in;go_wp2_with fail;refine(wg.out _).kq HS λw1 HS=>?_;clear f55;have hB:=(HS.ar 0 rfl).drew;have f53:=hB.cD HE.len bQ 53 rfl rfl;go_wp2_with fail;refine bW [(1,[0,1,2,3,4,7,8,9,10]),(2,[5]),(0,[6,11,12])] (by kernel_rfl) ?_;simp only[zz];refine af ?_;repeat(first|(refine ak 58 _ b 0 cs _ rfl rfl rfl (aG (dw aD HE.out hB) (by simp)) underlying58 rfl (by rw[aD];kernel_rfl) ?_;simp only[Act.put,aZ,aL,aN])|go_big_quiet_step (fail)|quiet_step (fail))
  refine ax ?_;refine aA ?_;go_wp2_with fail;refine(gF.out _).kf HS.dr λw2 HF HS=>?_;go_wp2;refine⟨⟨⟨_,(by exact HF.out)⟩,rfl⟩,?_⟩;have kB:=λw=>(fS.out w).2.2.1;repeat(first|go_big_quiet_step(fail)|apply ax|apply af|apply ag|apply ah)
  refine aj ?_;clear kB hB f53
 rotate_left;focus
  go_wp2_with fail;refine(AY.out _ (dQ.out _ _ HS.out)).kh λw3 eH=>?_;go_wp2;go_ret
 rotate_left;focus
  have hB:=HS.ar 0 rfl;obtain⟨f53,g53⟩:=hB.xS HE.len bQ 53 rfl rfl;have h3:=HS.set 0 rfl 53 (I (wr+co));simp only[aL,eK HE.len bQ,Nat.reduceSub,Nat.reduceLeDiff,aN]at h3;have eH:=aa h3;clear h3 hB;go_wp2;go_ret
 rotate_left
 ·exact⟨rfl,eH.out⟩
 ·exact⟨rfl,dQ.out _ _ eH.out⟩
def vB:=@zq30.1
def sJ:=@zq30.2
end Go.Proofs.YtolkmchicplaoaaGreat
namespace Go.aS.W
def U_ (v:Int):Prop:=0≤v∧v≤18446744073709551615
def ou.put {s:S}(h:ou s)(a:Int){v:Int}(hv:U_ v):ou (put s a v).1:=by
 unfold W.put;split
 ·rename_i i hi;obtain⟨hl,_⟩:=kQ hi;have hg:s.list.getD i (0,0)=s.list[i]:=by simp[List.getD,hl]
  refine⟨λe he=>?_,λd hd=>?_⟩
  ·rcases k_ he with h1|h1
   ·exact h.1 e h1
   ·subst h1;exact hv
  ·rcases jQ.1 hd with h1|h1
   ·exact h.2 d h1
   ·simp only[jO]at h1;subst h1;dsimp only;rw[hg];exact h.1 _ (cJ hl)
 ·split
  ·exact h
  ·refine⟨λe he=>?_,λd hd=>?_⟩
   ·rcases jQ.1 he with h1|h1
    ·exact h.1 e h1
    ·simp only[jO]at h1;subst h1;exact hv
   ·rcases jQ.1 hd with h1|h1
    ·exact h.2 d h1
    ·simp only[jO]at h1;subst h1;constructor<;>dsimp only<;>omega
def ou.ja (m):∀(n:Nat) (s:S),ou s→ou (W.ja m n s)
 |0,s,h=>h
 |n+1,s,h=>by
  unfold W.ja;split
  ·exact h
  ·rename_i hm;refine ou.ja m n _ ⟨λe he=>?_,λd hd=>h.2 d ((List.dropLast_sublist _).subset hd)⟩;have pg:s.done≠[]:=by intro e;rw[e]at hm;simp at hm
   have hl:s.done.getLastD (0,0,false)∈s.done:=by
    cases hs:s.done with
    |nil=>exact absurd hs pg
    |cons x r=>rw[List.getLastD_cons];exact List.getLastD_mem_cons
   have hb:=h.2 _ hl;dsimp only at he;unfold ph at he;split at he
   ·exact h.1 e (List.mem_of_mem_take he)
   ·rcases k_ he with h1|h1
    ·exact h.1 e h1
    ·subst h1;exact hb
def ou.back {s:S}(h:ou s)(m:Int):ou (back s m).1:=by
 unfold W.back;split
 ·exact h
 ·exact ou.ja _ _ _ h
def mO (s a v):(put s a v).1.done.length≤s.done.length+1:=by
 unfold W.put;split
 ·simp
 ·split<;>simp
def ou.re {c b}:∀(n:Nat) (s:S),ou s→ou (P.re c b n s)
 |0,s,h=>h
 |n+1,s,h=>(ou.re n s h).put _ ⟨by decide,by decide⟩
def mM (c b):∀(n:Nat) (s:S),(P.re c b n s).done.length≤s.done.length+n
 |0,s=>dp _
 |n+1,s=>by
  have h1:=mM c b n s;have h2:=mO (P.re c b n s) (Y.at_ c 16 b n) 0;have h3:(P.re c b (n+1) s).done.length≤(P.re c b n s).done.length+1:=h2;omega
end Go.aS.W
namespace Go.aS.P
open Go.aS.Y Go.aS.W
def Y6 {c b p s}(h:ou s):ou (take c b p s).2:=by
 unfold take;split
 ·exact h
 ·have h1:ou (cU s (at_ c 11 b 0) 1):=ou.put h _ ⟨by decide,by decide⟩;have h2:=ou.re (c:=c) (b:=b) 8 _ h1;dsimp only;exact h2
def Y7 {c b p s}(h:ou s)(hb:U_ b):ou (nM c b p s).2:=by
 unfold nM;split
 ·exact h
 ·have h1:ou (cU s (at_ c 11 b 0) 2):=ou.put h _ ⟨by decide,by decide⟩;have h2:ou (cU (cU s (at_ c 11 b 0) 2) (at_ c 15 p.nl 0) b):=ou.put h1 _ hb;exact h2
def Y8 (c b p s):(take c b p s).2.done.length≤s.done.length+9:=by
 unfold take;split
 ·dsimp only;omega
 ·have h1:=mM c b 8 (cU s (at_ c 11 b 0) 1);have h2:(cU s (at_ c 11 b 0) 1).done.length≤_:=mO s (at_ c 11 b 0) 1;dsimp only;omega
def Y9 (c b p s):(nM c b p s).2.done.length≤s.done.length+2:=by
 unfold nM;split
 ·dsimp only;omega
 ·have h1:(cU (cU s (at_ c 11 b 0) 2) (at_ c 15 p.nl 0) b).done.length≤_:=mO (cU s (at_ c 11 b 0) 2) (at_ c 15 p.nl 0) b;have h2:(cU s (at_ c 11 b 0) 2).done.length≤_:=mO s (at_ c 11 b 0) 2;dsimp only;omega
def Y_ (c b p s)(hp:0≤p.nt∧p.nt≤c.b):(0≤(take c b p s).1.nt∧(take c b p s).1.nt≤c.b)∧(take c b p s).1.nl=p.nl:=by
 unfold take;split
 ·exact⟨hp,rfl⟩
 ·rename_i h;exact⟨by dsimp only;omega,rfl⟩
def Za (c b p s)(hp:0≤p.nl∧p.nl≤b_ c):(0≤(nM c b p s).1.nl∧(nM c b p s).1.nl≤b_ c)∧(nM c b p s).1.nt=p.nt:=by
 unfold nM;split
 ·exact⟨hp,rfl⟩
 ·rename_i h;exact⟨by dsimp only;omega,rfl⟩
end Go.aS.P
namespace Go.Proofs.YtolkmchicplaoaaGreat
open Go.RowKit Go.aS Go.aS.I_ Go.aS.Y
def r_ (x:X.St):Int:=if x.waits=true∧x.i.op=15 then 9 else 0
structure XI (c:cA)(code:List In)(k:Int)(x:X.St):Prop where
 aI:x.aI.length=16
 ru:∀r∈x.aI,0≤r∧r≤18446744073709551615
 ia:0≤x.i.a∧x.i.a<16
 ib:0≤x.i.b∧x.i.b<16
 ic:0≤x.i.c∧x.i.c<16
 im:0≤x.i.bN∧x.i.bN≤18446744073709551615
 i8:x.i.op=8→x.i.bN<4
 wr:0≤x.writes∧x.writes≤c.w
 mrk:0≤x.mark∧x.mark≤500000
 dn:(x.w.done.length:Int)+k≤x.mark+x.writes
 st:0≤x.steps∧x.steps≤c.f
 pc:0≤x.pc∧x.pc≤300
 S5:x.s=0→ends x.i.op=false→x.pc<code.length
 nt:0≤x.p.nt∧x.p.nt≤c.b
 nl:0≤x.p.nl∧x.p.nl≤b_ c
 mt:0≤x.mt∧x.mt≤c.b
 ml:0≤x.ml∧x.ml≤b_ c
 nw:9*(x.news.length:Int)+k≤x.writes
 wu:W.ou x.w
 vv:0≤x.v.val∧x.v.val≤18446744073709551615
 s:0≤x.s∧x.s≤2
def XI.ok {c}(aE:Y.Ok c){code k}(hk:0≤k){x}(h:XI c code k x):gE c x:=by
 have h1:=aE.Jw;have h2:=aE.zj;have h3:=h.dn;have h4:=h.wr;have h5:=h.mrk;have h6:=h.nw;have h7:=h.st;exact⟨h.aI,h.ru,h.ia,h.ib,h.ic,h.im,h.i8,h.wr,by omega,by omega,h.pc,h.nt,h.nl,h.mt,h.ml,by omega,h.wu,h.vv⟩
def XI.less {c code k j}(hj:j≤k){x}(h:XI c code k x):XI c code j x:=
 {h with dn:=by have:=h.dn;omega,nw:=by have:=h.nw;omega}
def Hx (s m)(hm:0≤m):((W.back s m).1.done.length:Int)≤m:=by
 unfold W.back;split
 ·rename_i h;dsimp only;omega
 ·dsimp only;rw[W.yv _ _ s rfl];omega
def XI.fail {c code k x}(h:XI c code k x)(e v):XI c code k (X.fail e v x):=by
 have h1:=Hx x.w x.mark h.mrk.1;have h2:=h.nw;exact{h with
  dn:=by show((W.back x.w x.mark).1.done.length:Int)+k≤x.mark+x.writes;omega
  S5:=λh0=>by exact absurd h0 (by show¬(1:Int)=0;decide)
  nt:=h.mt
  nl:=h.ml
  wu:=h.wu.back _
  s:=⟨by show(0:Int)≤1;decide,by show(1:Int)≤2;decide⟩}
def XI.gV {c code k x}(h:XI c code k x)(a v)(hv:W.U_ v):XI c code k (X.gV x a v):=
 {h with
  aI:=by show(x.aI.set _ _).length=16;rw[cF];exact h.aI
  ru:=λr hr=>by
   rcases k_ (show r∈x.aI.set _ _ from hr)with h1|h1
   ·exact h.ru r h1
   ·subst h1;exact hv}
def XI.iE {c code k x}(h:XI c code k x)(a):W.U_ (X.iE x a):=by
 unfold X.iE;by_cases hl:a.toNat<x.aI.length
 ·rw[show x.aI.getD a.toNat 0=x.aI[a.toNat] by simp[List.getD,hl]];exact h.ru _ (cJ hl)
 ·rw[show x.aI.getD a.toNat 0=0 by simp[List.getD,lg (show x.aI.length≤a.toNat by omega)]];exact⟨by decide,by decide⟩
def Fb (op):0≤bV op∧bV op≤9:=by unfold bV;split;omega;split;omega;split<;>omega
def XI.lE {c code x}(h:XI c code 0 x)(hp:¬c.w-x.writes<bV x.i.op):XI c code (bV x.i.op) {x with writes:=x.writes+bV x.i.op}:=
 {h with
  wr:=by have:=h.wr;have:=Fb x.i.op;dsimp only;omega
  dn:=by have:=h.dn;dsimp only;omega
  nw:=by have:=h.nw;dsimp only;omega}
def XI.taken {c}(aE:Y.Ok c){code x}(h:XI c code 9 x)(b)(hb:W.U_ b):XI c code 0 (X.taken c b x):=by
 have kF:=aE.nZ;unfold X.taken;split
 ·exact(h.fail 43 0).less (by decide)
 ·rename_i hc;have hd:=P.Y8 c b x.p x.w;have hn:=P.Y_ c b x.p x.w h.nt;refine XI.gV ?_ _ _ ⟨by have:=hb.1;omega,by omega⟩;exact{h with
   dn:=by have:=h.dn;dsimp only;omega
   nt:=hn.1
   nl:=by dsimp only;rw[hn.2];exact h.nl
   nw:=by have:=h.nw;dsimp only;rw[eE];simp only[dT,mD];omega
   wu:=P.Y6 h.wu}
def XI.wrote {c code x}(h:XI c code 1 x):XI c code 0 (X.wrote c x):=by
 have hr:=h.iE x.i.a;unfold X.wrote;have hd:(P.cU x.w (at_ c 16 (X.block c x).1 (X.block c x).2.1) (X.iE x x.i.a)).done.length≤_:=W.mO _ _ _;exact{h with
  dn:=by have:=h.dn;dsimp only;omega
  nw:=by have:=h.nw;dsimp only;omega
  wu:=W.ou.put h.wu _ hr}
def P7 {c}(aE:Y.Ok c)(x):0≤(X.block c x).1∧(X.block c x).1≤64:=by
 have:=aE.nZ;unfold X.block;split
 ·exact⟨by decide,by decide⟩
 ·dsimp only;omega
def XI.rm {c}(aE:Y.Ok c){code x}(h:XI c code 2 x):XI c code 0 (X.rm c x):=by
 have hb:=P7 aE x;unfold X.rm;have hd:=P.Y9 c (X.block c x).1 x.p x.w;have hn:=P.Za c (X.block c x).1 x.p x.w h.nl;exact{h with
  dn:=by have:=h.dn;dsimp only;omega
  nt:=by dsimp only;rw[hn.2];exact h.nt
  nl:=hn.1
  nw:=by have:=h.nw;dsimp only;omega
  wu:=P.Y7 h.wu ⟨hb.1,by omega⟩}
def due (op:Int):Int:=if op=15 then 9 else 0
def XI.jb {c}(aE:Y.Ok c){code x}(h:XI c code (due x.i.op) x)(val)(hv:W.U_ val):XI c code 0 (X.jb c val x):=by
 have h0:XI c code 0 x:=h.less (by unfold due;split<;>decide);unfold X.jb;have zS:X.lE c x=if c.w-x.writes<bV x.i.op then(X.fail 42 0 x,false)else({x with writes:=x.writes+bV x.i.op},true):=rfl
 split
 ·exact h0.gV _ _ hv
 ·split
  ·rename_i Ey;unfold due at h;rw[aB Ey]at h;exact h.taken aE val hv
  ·split
   ·rename_i yo;by_cases hp:c.w-x.writes<bV x.i.op
    ·rw[zS,aB hp,aq (by simp)];exact h0.fail 42 0
    ·rw[zS,aq hp,aB rfl];have:=h0.lE hp;rw[show bV x.i.op=1 by unfold bV;rw[aB (by omega)]]at this⊢;exact this.wrote
   ·split
    ·rename_i sH;by_cases hp:c.w-x.writes<bV x.i.op
     ·rw[zS,aB hp,aq (by simp)];exact h0.fail 42 0
     ·rw[zS,aq hp,aB rfl];have:=h0.lE hp;rw[show bV x.i.op=2 by unfold bV;rw[aq (by omega),aB sH]]at this⊢;exact this.rm aE
    ·exact h0
def rC (c val x):(X.jb c val x).waits=x.waits:=by
 unfold X.jb X.lE X.taken X.wrote X.rm
 repeat' split
 all_goals first|rfl|(dsimp only;repeat' split)<;>rfl
def Dr (ok){v}(h:W.U_ v.val):W.U_ (Vw.qs ok v).1.val:=by
 unfold Vw.qs;split
 ·exact h
 ·constructor<;>dsimp only<;>omega
def Cf (v):(Vw.nu v).val=v.val:=by unfold Vw.nu;split<;>rfl
def zT (b a v):(Vw.fq b a v).val=v.val:=by
 unfold Vw.fq;split
 ·rw[Cf]
 ·rfl
def Cg (c p){v}(h:W.U_ v.val):W.U_ (Vw.cell c p v).val:=by
 have:=Dr (Vw.inner c p) h;unfold Vw.cell;split<;>exact this
def LX (c b x){v}(h:W.U_ v.val):W.U_ (Vw.word c b x v).val:=by
 have:=Dr (decide (Y.at_ c 16 b x≠-1)) h;unfold Vw.word;split
 ·rw[zT];exact this
 ·exact this
def LY (c b){v}(h:W.U_ v.val):W.U_ (Vw.live c b v).val:=by
 have:=Dr (decide (Y.at_ c 11 b 0≠-1)) h;unfold Vw.live;split
 ·rw[zT];exact this
 ·exact this
def XR (c:cA)(code:List In)(x:X.St):Prop:=XI c code (r_ x) x
def XR.of {c code x}(hw:x.waits=false)(h:XI c code 0 x):XR c code x:=by
 unfold XR r_;rw[aq (by rw[hw];simp)];exact h
def XR.zero {c code x}(h:XR c code x):XI c code 0 x:=XI.less (by unfold r_;split<;>decide) h
def XR.wait {c code x}(h:XI c code (due x.i.op) x)(v)(hv:W.U_ v.val):XR c code {x with v:=v,waits:=true}:=by
 have e:r_ {x with v:=v,waits:=true}=due x.i.op:=by unfold r_ due;simp
 unfold XR;rw[e];exact{h with vv:=hv}
def XI.jc {c}(aE:Y.Ok c){code x}(hw:x.waits=false)(h:XI c code (due x.i.op) x)(a):XR c code (X.jc c a x):=by
 unfold X.jc;split
 ·exact XR.of (by rw[rC];exact hw) (h.jb aE _ (h.wu.get a))
 ·exact XR.wait h _ (Cg c a h.vv)
def zq31:(∀{c}(aE:Y.Ok c){code x}(hw:x.waits=false)(h:XI c code 0 x)(j_:x.i.op=9∨x.i.op=10),XR c code (X.root c x))∧(∀{c}(aE:Y.Ok c){code x}(hw:x.waits=false)(h:XI c code 0 x)(j_:x.i.op=15),XR c code (X.fresh c x)):=by
 refine⟨?_,?_⟩;focus
  intro c aE code x hw h j_;have hr:=h.iE x.i.a;have hd:due x.i.op=0:=by unfold due;rw[aq (by omega)]
 rotate_left;focus
  intro c aE code x hw h j_
 all_goals have zS:X.lE c x=if c.w-x.writes<bV x.i.op then(X.fail 42 0 x,false)else({x with writes:=x.writes+bV x.i.op},true):=rfl
 rotate_left;focus
  unfold X.root
 rotate_left;focus
  unfold X.fresh
 rotate_left
 ·split
  ·exact XR.of hw (h.fail 44 0)
  ·split
   ·rename_i oo;by_cases hp:c.w-x.writes<bV x.i.op
    ·rw[zS,aB hp,aq (by simp)];exact XR.of hw (h.fail 42 0)
    ·rw[zS,aq hp,aB rfl];have h1:=h.lE hp;rw[show bV x.i.op=1 by unfold bV;rw[aB (by omega)]]at h1⊢;refine XR.of hw ?_;have hd:(P.cU x.w (at_ c 10 (X.iE x x.i.b) 0) (X.iE x x.i.a)).done.length≤_:=W.mO _ _ _;exact{h1 with
      dn:=by have:=h1.dn;dsimp only at this⊢;unfold X.iE at hd⊢;dsimp only;omega
      nw:=by have:=h1.nw;dsimp only at this⊢;omega
      wu:=W.ou.put h.wu _ hr}
   ·exact XI.jc aE hw (by rw[hd];exact h) _
 ·by_cases hp:c.w-x.writes<bV x.i.op
  ·rw[zS,aB hp,aq (by simp)];exact XR.of hw (h.fail 42 0)
  ·rw[zS,aq hp,aB rfl];have h1:=h.lE hp;have hc:bV x.i.op=9:=by unfold bV;rw[aq (by omega),aq (by omega),aB j_]
   rw[hc]at h1⊢;split
   ·exact XI.jc (x:={x with writes:=x.writes+9}) aE hw (by show XI c code (due x.i.op) _;unfold due;rw[aB j_];exact h1) _
   ·exact XR.of (x:=X.fail 43 0 {x with writes:=x.writes+9}) hw ((h1.fail 43 0).less (by decide))
def XI.root:=@zq31.1
def XI.fresh:=@zq31.2
def XI.fq {c}(aE:Y.Ok c){code x}(hw:x.waits=false)(h:XI c code 0 x)(j_:x.i.op≠15):XR c code (X.fq c x):=by
 have hd:due x.i.op=0:=by unfold due;rw[aq j_]
 have hg:XI c code (due x.i.op) x:=by rw[hd];exact h
 unfold X.fq;split
 ·exact XR.of hw (h.fail 44 0)
 ·split
  ·split
   ·exact XR.of (by rw[rC];exact hw) (hg.jb aE _ (h.wu.get _))
   ·exact XR.wait hg _ (LX c _ _ h.vv)
  ·split
   ·exact XR.of (by rw[rC];exact hw) (hg.jb aE _ ⟨by decide,by decide⟩)
   ·exact XR.wait hg _ (LY c _ h.vv)
def Ds (x):W.U_ (IntKind.u64.wrap x):=by unfold W.U_;rw[ir];omega
def Hy {l:List Int}(h:∀r∈l,W.U_ r)(k:Nat):W.U_ (l.getD k 0):=by
 by_cases hl:k<l.length
 ·rw[show l.getD k 0=l[k] by simp[List.getD,hl]];exact h _ (cJ hl)
 ·rw[show l.getD k 0=0 by simp[List.getD,lg (show l.length≤k by omega)]];exact⟨by decide,by decide⟩
def Fc {i aI args}(hr:∀r∈aI,W.U_ r)(ha:∀r∈args,W.U_ r)(hi:W.U_ i.bN):W.U_ (reckon i aI args):=by
 have hb:=Hy hr i.b.toNat;have hc:=Hy hr i.c.toNat;have h0:W.U_ 0:=⟨by decide,by decide⟩;have h1:W.U_ 1:=⟨by decide,by decide⟩;unfold reckon;dsimp only;generalize aI.getD i.b.toNat 0=b at*;generalize aI.getD i.c.toNat 0=c at*;split;exact hi;split;exact hb;split;exact Ds _;split;exact Ds _;split;exact Ds _;split
 ·split
  ·exact hb
  ·rename_i hz;have:=hb.1;have:=hb.2;have:=hc.1;have:=hc.2;have e1:=Int.emod_nonneg b hz;have e2:=uM b (show 0<c by omega);exact⟨e1,by omega⟩
 split
 ·split;exact h1;exact h0
 split
 ·split;exact h1;exact h0
 split
 ·exact Hy ha _
 ·exact h0
def XI.act {c}(aE:Y.Ok c){code args}(ha:∀r∈args,W.U_ r){y}(hw:y.waits=false)(h:XI c code 0 y)(hj:y.i.op=17∨y.i.op=18∨y.i.op=19→y.i.bN<code.length∧y.i.bN≤300):XR c code (X.act c args y):=by
 have hm:=h.im.1;unfold X.act;split
 ·rename_i h1;refine XR.of hw {h with pc:=?_,S5:=?_}
  ·have:=hj (.inl h1);dsimp only;omega
  ·intro _ _;exact(hj (.inl h1)).1
 split
 ·rename_i h1;split
  ·refine XR.of hw {h with pc:=?_,S5:=?_}
   ·have:=hj (.inr (.inl h1));dsimp only;omega
   ·intro _ _;exact(hj (.inr (.inl h1))).1
  ·exact XR.of hw h
 split
 ·rename_i h1;split
  ·refine XR.of hw {h with pc:=?_,S5:=?_}
   ·have:=hj (.inr (.inr h1));dsimp only;omega
   ·intro _ _;exact(hj (.inr (.inr h1))).1
  ·exact XR.of hw h
 split
 ·refine XR.of hw {h with S5:=?_,s:=?_}
  ·intro h0;exact absurd h0 (by show¬(1:Int)=0;decide)
  ·exact⟨by show(0:Int)≤1;decide,by show(1:Int)≤2;decide⟩
 split
 ·exact XR.of hw (h.fail _ _)
 split
 ·rename_i h1;exact h.root aE hw h1
 split
 ·rename_i h1;exact h.fq aE hw (by omega)
 split
 ·rename_i h1;exact h.fresh aE hw h1
 ·exact XR.of hw (h.gV _ _ (Fc h.ru ha h.im))
def Dt (c val x):(X.jb c val x).i=x.i∧(X.jb c val x).steps=x.steps:=by
 unfold X.jb X.lE X.taken X.wrote X.rm
 repeat' split
 all_goals first|exact⟨rfl,rfl⟩|((dsimp only;repeat' split)<;>exact⟨rfl,rfl⟩)
def JX (c a x):(X.jc c a x).i=x.i∧(X.jc c a x).steps=x.steps:=by
 unfold X.jc;split
 ·exact Dt _ _ _
 ·exact⟨rfl,rfl⟩
def Fe (c x):(X.lE c x).1.i=x.i∧(X.lE c x).1.steps=x.steps:=by unfold X.lE;split<;>exact⟨rfl,rfl⟩
def Xa (c args y):(X.act c args y).i=y.i∧(X.act c args y).steps=y.steps:=by
 unfold X.act;split;exact⟨rfl,rfl⟩;split
 ·split<;>exact⟨rfl,rfl⟩
 split
 ·split<;>exact⟨rfl,rfl⟩
 split;exact⟨rfl,rfl⟩;split;exact⟨rfl,rfl⟩;split
 ·unfold X.root;split;exact⟨rfl,rfl⟩;split
  ·split
   ·exact Fe c y
   ·exact Fe c y
  ·exact JX _ _ _
 split
 ·unfold X.fq;split;exact⟨rfl,rfl⟩;split
  ·split
   ·exact Dt _ _ _
   ·exact⟨rfl,rfl⟩
  ·split
   ·exact Dt _ _ _
   ·exact⟨rfl,rfl⟩
 split
 ·unfold X.fresh;split
  ·split
   ·have h1:=JX c (P.top c (X.lE c y).1.p).1 (X.lE c y).1;have h2:=Fe c y;exact⟨h1.1.trans h2.1,h1.2.trans h2.2⟩
   ·exact Fe c y
  ·exact Fe c y
 ·exact⟨rfl,rfl⟩
structure XG (c:cA)(code:List In)(x:X.St):Prop where
 r:XR c code x
 e:x.s=0→ends x.i.op=false
def XG.pc {c code x}(h:XG c code x)(hs:x.s=0):x.pc<code.length:=h.r.S5 hs (h.e hs)
def JY {c:cA}(aE:Y.Ok c){code:List In}(hr:right code=true)(hu:∀i∈code,W.U_ i.bN){x:X.St}(h:XI c code 0 x)(Hz:x.pc<code.length)(hf:x.steps<c.f):XI c code 0 (X.jd code x):=by
 have hl:=c_ hr;have hp:=h.pc;have gx:=h.st;have hk:x.pc.toNat<code.length:=by omega
 have hs:=mJ hr x.pc.toNat hk;have hg:code.getD x.pc.toNat i0=code[x.pc.toNat]:=by simp[List.getD,hk]
 have hi:=hu _ (cJ hk);rw[←hg]at hi;exact{h with
  ia:=hs.a,ib:=hs.b,ic:=hs.c,im:=hi,i8:=hs.arg
  st:=by unfold X.jd;dsimp only;omega
  pc:=by unfold X.jd;dsimp only;omega
  S5:=λ_ he=>by
   have:=zB hr x.pc.toNat hk he;unfold X.jd;dsimp only;omega}
def XG.step {c:cA}(aE:Y.Ok c){code:List In}(hr:right code=true)(hu:∀i∈code,W.U_ i.bN){args:List Int}(ha:∀r∈args,W.U_ r){x:X.St}(h:XG c code x)(hs:x.s=0)(hw:x.waits=false):
 XG c code (X.step c code args x)∧X.left c (X.step c code args x)<X.left c x:=by
 have hl:X.left c x=2*(c.f-x.steps).toNat+1:=by unfold X.left;rw[aq (by omega),hw];rfl
 have Hz:=h.pc hs;have h0:=h.r.zero;unfold X.step;split
 ·refine⟨⟨XR.of hw (h0.fail 41 0),λe=>absurd e (by show¬(1:Int)=0;decide)⟩,?_⟩;rw[hl];unfold X.left;rw[aB (show(X.fail 41 0 x).s≠0 from(by show¬(1:Int)=0;decide))];omega
 ·rename_i hf;have Cc:x.steps<c.f:=by omega
  have hy:=JY aE hr hu h0 Hz Cc;have hp:=h0.pc;have nH:=c_ hr;have hk:x.pc.toNat<code.length:=by omega
  have US:=mJ hr x.pc.toNat hk;have aq3:=XI.act aE ha (y:=X.jd code x) hw hy (λhj=>by
   have hb:(X.jd code x).i=code.getD x.pc.toNat i0:=rfl;rw[hb]at hj⊢;rcases hj with h1|h1|h1
   ·have:=US.fwd (.inl h1);omega
   ·have:=US.fwd (.inr h1);omega
   ·have:=US.bk h1;omega)
  have hi:=Xa c args (X.jd code x);refine⟨⟨aq3,λe=>?_⟩,?_⟩
  ·rw[hi.1];by_cases he:ends (X.jd code x).i.op=false
   ·exact he
   ·exfalso;have AT:(X.jd code x).i.op=20∨(X.jd code x).i.op=21:=by
     unfold ends at he;simp at he;omega
    generalize X.jd code x=y at*;unfold X.act at e;rw[aq (by omega),aq (by omega),aq (by omega)]at e;rcases AT with h1|h1
    ·rw[aB h1]at e;exact absurd e (by show¬(1:Int)=0;decide)
    ·rw[aq (by omega),aB h1]at e;exact absurd e (by show¬(1:Int)=0;decide)
  ·rw[hl];unfold X.left;split
   ·omega
   ·rw[hi.2];have:(X.jd code x).steps=x.steps+1:=rfl;rw[this];split<;>omega
def XG.round {c:cA}(aE:Y.Ok c){code:List In}(hr:right code=true)(hu:∀i∈code,W.U_ i.bN){args:List Int}(ha:∀r∈args,W.U_ r){x:X.St}(h:XG c code x)(hs:x.s=0):
 XG c code (X.round c code args x).1∧((X.round c code args x).2=true→X.left c (X.round c code args x).1<X.left c x)∧((X.round c code args x).2=false→(X.round c code args x).1=x):=by
 unfold X.round;by_cases hw:x.waits=false
 ·rw[aB hw];have:=h.step aE hr hu ha hs hw;exact⟨this.1,λ_=>this.2,λe=>by cases e⟩
 ·rw[aq hw];have NI:x.waits=true:=by simpa using hw
  have hl:X.left c x=2*(c.f-x.steps).toNat+2:=by unfold X.left;rw[aq (by omega),NI];rfl
  split
  ·exact⟨h,λe=>(by cases e),λ_=>rfl⟩
  split
  ·refine⟨⟨?_,λe=>absurd e (by show¬(2:Int)=0;decide)⟩,λ_=>?_,λe=>by cases e⟩
   ·have h1:XI c code (r_ x) x:=h.r;exact(show XI c code (r_ x) {x with s:=2}from{h1 with
     S5:=λh0=>absurd h0 (by show¬(2:Int)=0;decide)
     s:=⟨by show(0:Int)≤2;decide,by show(2:Int)≤2;decide⟩})
   ·rw[hl];unfold X.left;rw[aB (show(2:Int)≠0 by decide)];omega
  split
  ·refine⟨⟨?_,λe=>absurd e (by show¬(1:Int)=0;decide)⟩,λ_=>?_,λe=>by cases e⟩
   ·exact(show XI c code (r_ x) (X.fail 44 0 x)from XI.fail h.r 44 0)
   ·rw[hl];unfold X.left;rw[aB (show(X.fail 44 0 x).s≠0 from(by show¬(1:Int)=0;decide))];omega
  ·have hd:r_ x=due x.i.op:=by unfold r_ due;rw[NI];simp
   have h1:XI c code (due x.i.op) x:=by rw[←hd];exact h.r
   have h2:XI c code (due ({x with waits:=false}:X.St).i.op) {x with waits:=false}:={h1 with};have hi:=Dt c x.v.val {x with waits:=false};have SZ:=rC c x.v.val {x with waits:=false};refine⟨⟨XR.of SZ (h2.jb aE _ h1.vv),λe=>?_⟩,λ_=>?_,λe=>by cases e⟩
   ·rw[hi.1];exact h.e hs
   ·rw[hl];unfold X.left;split
    ·omega
    ·rw[hi.2,SZ];show 2*(c.f-x.steps).toNat+1<_;omega
def qA {c code args x}(hs:x.s=0)(n):X.gA c code args (n+1) x=if(X.round c code args x).2 then X.gA c code args n (X.round c code args x).1 else(X.round c code args x).1:=by
 show(if x.s≠0 then x else _)=_;rw[aq (by omega)]
def LZ {c:cA}(aE:Y.Ok c){code:List In}(hr:right code=true)(hu:∀i∈code,W.U_ i.bN){args:List Int}(ha:∀r∈args,W.U_ r):∀(l:Nat) {x:X.St},XG c code x→X.left c x=l→∀n,l≤n→X.gA c code args n x=X.gA c code args l x:=by
 intro l;induction l using Nat.strongRecOn with
 |_ l ih=>
  intro x h hl n hn;by_cases hs:x.s=0
  ·have aq4:1≤l:=by rw[←hl];unfold X.left;rw[aq (by omega)];split<;>omega
   obtain⟨n',rfl⟩:∃k,n=k+1:=⟨n-1,by omega⟩;obtain⟨l',rfl⟩:∃k,l=k+1:=⟨l-1,by omega⟩;have jN:=h.round aE hr hu ha hs;rw[qA hs,qA hs];split
   ·rename_i h2;have tH:=jN.2.1 h2;rw[ih _ (by omega) jN.1 rfl n' (by omega),ih _ (by omega) jN.1 rfl l' (by omega)]
   ·rfl
  ·have e:∀k,X.gA c code args k x=x:=by
    intro k;cases k with
    |zero=>rfl
    |succ k=>unfold X.gA;rw[aB hs]
   rw[e,e]
def wX {c:cA}(aE:Y.Ok c){code:List In}(hr:right code=true)(hu:∀i∈code,W.U_ i.bN){args:List Int}(ha:∀r∈args,W.U_ r){x:X.St}(h:XG c code x)(hs:x.s=0):
 X.run c code args x=if(X.round c code args x).2 then X.run c code args (X.round c code args x).1 else x:=by
 have jN:=h.round aE hr hu ha hs;have aq4:1≤X.left c x:=by unfold X.left;rw[aq (by omega)];split<;>omega
 obtain⟨l',hl⟩:∃k,X.left c x=k+1:=⟨X.left c x-1,by omega⟩;unfold X.run;rw[hl];rw[qA hs];split
 ·rename_i h2;have tH:=jN.2.1 h2;exact LZ aE hr hu ha _ jN.1 rfl l' (by omega)
 ·rename_i h2;exact jN.2.2 (by simpa using h2)
def zV {c code args x}(hs:x.s≠0):X.run c code args x=x:=by
 unfold X.run X.left;rw[aB hs];rfl
end Go.Proofs.YtolkmchicplaoaaGreat
namespace Go.Proofs.YtolkmchicplaoaaGreat
open Go.RowKit Go.aS Go.aS.I_ Go.aS.Y Go.Maps
def R0 (v:Value):Option (DataW Unit×List MemPlace):=none
def S2 (b:Nat):a_ where
 P w fp:=fp=[b]∧w.ownsMap Tryz.prog 26 R0 b 0 (.map [])
 fr h f hn:=⟨h.1,qY h.2 f (hn _ (by simp[h.1]))⟩
 lt h:=by rw[h.1];simpa using h.2.lt
def PQ {w:World}{b:Nat}(h:w.ownsMap Tryz.prog 26 R0 b 0 (.map [])):∃clock,w.heap[b]?=some (.map #[] clock)∧Go.WideElems.Fit Tryz.prog 26 R0 #[] clock:=by
 obtain⟨es,clock,hb,F,hs,hD⟩:=h;have e:es=#[]:=by
  apply Array.eq_empty_of_size_eq_zero;omega
 subst e;exact⟨clock,hb,F⟩
def Bf (mb:Nat)(roots:List Int):List Value:=roots.map (Value.int .u64)++[.map (some mb)]
def rA (sb:Nat)(roots:List Int):a_:=EG λmb=>ie (roots.length=16) (t_ (aJ sb 136 (Bf mb roots)) (S2 mb))
def lQ {w0 w R sb roots}(h:Sep w0 w (rA sb roots::R)):∃mb,roots.length=16∧Sep w0 w (aJ sb 136 (Bf mb roots)::S2 mb::R):=by
 obtain⟨mb,h1⟩:=h.rZ;obtain⟨h2,h3⟩:=h1.jn;exact⟨mb,h2,h3.vf⟩
def pX {w0 w R sb mb roots}(hl:roots.length=16)(h:Sep w0 w (aJ sb 136 (Bf mb roots)::S2 mb::R)):Sep w0 w (rA sb roots::R):=
 Sep.qX (A:=Nat) (λmb=>ie (roots.length=16) (t_ (aJ sb 136 (Bf mb roots)) (S2 mb))) (a:=mb) (Sep.iK (Sep.sy h) hl)
def zN {mb roots k}(hk:k<roots.length):(Bf mb roots)[k]?=some (U (roots.getD k 0)):=by
 unfold Bf;rw[gm (by simpa using hk),jE,cy hk,cO,cy hk];rfl
def vC {mb roots}(hl:roots.length=16):(Bf mb roots)[16]?=some (.map (some mb)):=by
 unfold Bf;rw[gw (by simp[hl]),dD,hl];rfl
def P3 {mb:Nat}{roots:List Int}:∀v∈Bf mb roots,v.oneCell'=true:=by
 unfold Bf;intro v hv;rcases jQ.1 hv with h|h
 ·rw[mE]at h;obtain⟨x,_,rfl⟩:=h;rfl
 ·rw[jO]at h;subst h;rfl
def uk {w0 w Ts}(h:Sep w0 w Ts)(i:Nat){b:Nat}(hi:Ts[i]?=some (S2 b)):w.ownsMap Tryz.prog 26 R0 b 0 (.map []):=by
 obtain⟨fp,hp,_⟩:=h.get i hi;exact hp.2
def wW {w0 w Ts}(h:Sep w0 w Ts):Sep w0 (w.alloc (.map #[] 0)) (S2 w.heap.size::Ts):=
 h.push ((Fr.refl [] w).alloc _) (fp:=[w.heap.size]) ⟨rfl,World.ownsMap_made w _ _ _⟩ (by simp)
def E5 (w):Calls Tryz.prog 30 #[] w λr w'=>∃sb,r= .returned (O sb)∧Sep w w' [rA sb (List.replicate 16 0)]:=by
 have h1:=wW (Sep.nil (Fr.refl [] w));have h2:=h1.new 136 (Bf w.heap.size (List.replicate 16 0));have h3:=pX (mb:=w.heap.size) rfl h2;simp only[cG]at h3;have HS:=aa h3;clear h1 h2 h3;have Lx:=@run_makeMap Tryz.prog;go_wp2;go_ret;exact⟨_,rfl,HS.out⟩
def LG {w0 w R}{sb:Nat}{roots:List Int}(hS:Sep w0 w (rA sb roots::R))(k:Nat)(hk:k<16):
 ba 36 #[O sb,I (k:Int)] w (U (roots.getD k 0)):=by
 obtain⟨mb,hl,h⟩:=lQ hS;have f:=((h.ar 0 rfl).cell k).trans (zN (by omega));have HF:=aa (Fr.refl [] w);clear hS h;generalize roots.getD k 0=q at*;have d1:decide ((k:Int)<0)=false:=cW (by omega);have d2:decide ((16:Int)≤(k:Int))=false:=cW (by omega);have d3:(k:Int)<16:=by omega
 delta ba;go_in;go_wp2;go_ret;exact⟨rfl,HF.out⟩
def Dk {w b}(h1:w.ownsMap Tryz.prog 26 R0 b 0 (.map [])):Calls Tryz.prog 122 #[.map (some b)] w λr w'=>∃nb,r= .returned (.map (some nb))∧eZ w w' (S2 nb):=by
 obtain⟨clock,hb,F⟩:=PQ h1;have hw:eZ w (w.alloc (.map #[] clock)) (S2 w.heap.size):=⟨(Fr.refl [] w).alloc _,[w.heap.size],⟨rfl,#[],clock,(MapKept.heap_alloc w _).1,F,dp _,rfl⟩,by simp⟩;have HS:=aa hw;have HB:=aa hb;clear h1 F hw hb;have hq:=λw=>run_eql_map_nil_sl (P:=Tryz.prog) w 133 _ _ (some b) underlying133;go_wp2;rw[run_callFunc_extern Tryz.func149 (by kernel_rfl) (by kernel_rfl) (by kernel_rfl) (e:=Extern.MapsClone.clone) (by kernel_rfl),run_maps_clone_sl w 133 HB.out];simp only[Result.andThen];rw[Oper.upon_value];go_wp2;rw[run_typeAssert_map_sl _ 133 _ _ _ _ underlying133];simp only[Result.andThen];rw[Oper.upon_value];go_wp2;go_ret;exact⟨_,rfl,HS.out⟩
def Ht {w0 w R sb roots}(hS:Sep w0 w (rA sb roots::R)):
 Calls Tryz.prog 97 #[O sb] w λr w'=>∃nb,r= .returned (O nb)∧Sep w0 w' (rA nb roots::rA sb roots::R):=by
 obtain⟨mb,hl,h⟩:=lQ hS;have HC:=aa (λw' h=>Dk (w:=w') (b:=mb) h);have dQ:=aa (λw' RR sb mb hS=>pX (w0:=w0) (w:=w') (R:=RR) (sb:=sb) (mb:=mb) (roots:=roots) hl hS);obtain⟨r0,r1,r2,r3,r4,r5,r6,r7,r8,r9,u6,tF,tG,B_,Ca,Cb,rfl⟩:∃r0 r1 r2 r3 r4 r5 r6 r7 r8 r9 u6 tF tG B_ Ca Cb,roots=[r0,r1,r2,r3,r4,r5,r6,r7,r8,r9,u6,tF,tG,B_,Ca,Cb]:=by
  match roots,hl with
  |[r0,r1,r2,r3,r4,r5,r6,r7,r8,r9,u6,tF,tG,B_,Ca,Cb],_=>exact⟨_,_,_,_,_,_,_,_,_,_,_,_,_,_,_,_,rfl⟩
 unfold Bf at*;simp only[zm,za]at*;have HS:=aa h;clear hS h hl;have hB:=HS.drew.ar 0 rfl;have hr:w.drew.rangeAt sb 0 [U r0,U r1,U r2,U r3,U r4,U r5,U r6,U r7,U r8,U r9,U u6,U tF,U tG,U B_,U Ca,U Cb]:=λj u hj=>by
  have:=(hB.cell j).trans (show _=some u from ?_)
  ·simpa using this
  ·have zM:j<16:=(dE.1 hj).1;rw[←hj]
   match j,zM with
   |0,_|1,_|2,_|3,_|4,_|5,_|6,_|7,_|8,_|9,_|10,_|11,_|12,_|13,_|14,_|15,_=>rfl
 have f16:=hB.cell 16;simp only[zg]at f16;go_in;go_wp2_with fail;refine bW [(1,[0,1,2,3,4,5,6,7]),(2,[8]),(0,[9]),(3,[10]),(0,[11])] (by kernel_rfl) ?_;simp only[zz];refine af ?_;repeat(first|(refine ak 134 _ sb 0 [U r0,U r1,U r2,U r3,U r4,U r5,U r6,U r7,U r8,U r9,U u6,U tF,U tG,U B_,U Ca,U Cb] _ rfl rfl rfl (aG hr (by simp)) underlying134 rfl (by kernel_rfl) ?_;simp only[Act.put,aZ,zs])|go_big_quiet_step (fail)|quiet_step (fail))
 refine ax ?_;repeat(first|go_big_quiet_step(fail)|apply ax|apply af|apply ag|apply ah)
 refine aA ?_;go_wp2_with fail;refine(HC.out _ (uk HS.drew 1 rfl)).mono ?_;rintro r w3 ⟨nb,rfl,hB3⟩;have HF:=aa hB3.fr;have HS:=aa (HS.drew.fresh hB3);clear hB3 f16 hr hB;go_wp2;refine⟨⟨⟨_,(by exact HF.out)⟩,rfl⟩,?_⟩;clear HF;repeat(first|go_big_quiet_step(fail)|apply ax|apply af|apply ag|apply ah)
 refine ao ?_;go_wp2_with fail;repeat(first|go_big_quiet_step(fail)|apply ax|apply af|apply ag|apply ah)
 refine aj ?_;have HS:=aa (HS.new 136 [U r0,U r1,U r2,U r3,U r4,U r5,U r6,U r7,U r8,U r9,U u6,U tF,U tG,U B_,U Ca,U Cb,.map (some nb)]);go_wp2;go_ret;refine⟨_,rfl,?_⟩;have h1:=dQ.out _ _ _ _ HS.out;have h2:=dQ.out _ _ _ _ (((h1.pull 1 rfl).pull 2 rfl).pull 1 rfl);exact h2.pull 1 rfl
end Go.Proofs.YtolkmchicplaoaaGreat
namespace Go.Proofs.YtolkmchicplaoaaGreat
open Go.RowKit Go.aS Go.aS.I_ Go.aS.Y Go.Maps Go.Sort Go.Shelf
def Y2 (x:Int):Value:=U x
def E6 (F:Fence)(n)(oo:F.fn 121)(um:F.round=none)(l Bm b)(J:List Int→World→Prop)(W)(hJ:AbidesFrom W.heap.size J)
 (hm:W.cell? ⟨Bm,0,none⟩=some (.map (some b)))(dy:W.ownsMap Tryz.prog 26 R0 b 0 (.map []))(h0:J [] W):
 CallsIn F n Tryz.prog 121 #[.func (.yield l) #[] #[],.pointer (some ⟨Bm,0,none⟩)] W λe W'=>(∃v,e= .returned v)∧J [] W':=by
 refine callsIn_of_wp Tryz.func121 rfl oo ?_ um;simp only[Tryz.ntmps121,List.size_toArray,dT,mD,Nat.reduceAdd,Nat.reduceSub,Array.replicate_succ,Array.replicate_zero,List.push_toArray,List.append_toArray,za]
 gi_wp2_with (first
  |(gi_at_range;refine wpListIn_range_own _ rfl _ 133 rfl 26 160 (int_keyed underlying26) underlying133 _ b 0 _ rfl dy ?_;intro w0 PS nP wK)
  |gi_in)
 refine wpIn_loop_rounds 1 ?_;rw[roundsIn_succ]
 gi_wp2_with (first
  |(gi_at_next;refine wpListIn_next_ranges _ rfl _ rfl 26 (int_keyed underlying26) R0 Y2 id (λkey kl hk=>by obtain⟨x,hx,_⟩:=Maps.keyOf_int_inv underlying26 hk;exact⟨x,hx⟩) (λv _ _=>⟨v,rfl⟩) b W.heap.size 0 _ _ _ rfl PS ?_ ?_)
  |gi_in)
 ·intro Da S3
  gi_wp2
  go_end0;exact⟨⟨_,rfl⟩,hJ [] W w0 none h0 nP (λr e=>by cases e)⟩
 ·intro x c kl yd yp w' aq1 _ _ _ _ _ tH;exact absurd tH (by show¬aq1<0;omega)
structure ApAt (w0:World)(L:Loop)(l D:Nat)(ss:List Int)(W:World):Prop where
 L:W.heap[l]?=some (.loop L)
 K:W.heap[D]?=some (.deferred (some []))
 below:Below w0.heap.size w0 W
def ap_abides (w0)(L:Loop)(l D B)(hB:w0.heap.size≤B):AbidesFrom B (ApAt w0 L l D):=λs W W' row h hg qz=>by
 have W8:∀r,row=some r→∃o:Obj,W.heap[r]?=some o∧o.isWalk=true:=λr e=>(qz r e).2;exact⟨(grownBy_keeps hg W8 h.L rfl).trans h.L,(grownBy_keeps hg W8 h.K rfl).trans h.K,
  h.below.grown hg h.below.size (λk e=>fT hB (qz k e).1)⟩
def yz {n P}{g:Operand}{ps:Array Tmp}{assign body:Code}{Q:Exit→Act→World→Prop}{a w}(f)(lb:Array Value)(hg:a.eval g= .func (.func f) #[] lb)
 (eg:∀args w,(callFunc f args).run P w= .ok (.enter f args) w)
 (ah1:∀(l:Nat) (J:List Int→World→Prop) (W:World),Below w.heap.size w W→AbidesFrom W.heap.size J→J [] W→CallsIn Fence.wide n P f (#[.func (.yield l) #[] #[]]++lb) W λe W'=>(∃v,e= .returned v)∧J [] W')
 (hQ:∀W3 D,Below w.heap.size w W3→W3.heap[D]?=some (.deferred (some []))→w.heap.size≤D→Q .normal {a with defers:=[{target:= .collected D,args:=#[]}]++a.defers} W3):
 (Code.rangeFunc g ps assign body).wpIn Fence.wide (n+1) P Q a w:=by
 refine wpIn_rangeFunc ?_;intro fn hfn;obtain⟨LR,hLR⟩:∃LR:Loop,LR={state:= .ready,pending:=none,fn,tmps:=a.tmps,params:=ps,assign:=assign,body:=body,defers:=w.heap.size}:=⟨_,rfl⟩;obtain⟨W1,LH⟩:∃W1,(w.alloc (.deferred (some []))).alloc (.loop LR)=W1:=⟨_,rfl⟩;have nU:Below w.heap.size w W1:=by rw[←LH];exact((Below.refl _ w).alloc (dp _) _).alloc (by simp) _
 have JH:W1.heap.size=w.heap.size+2:=by rw[←LH];simp
 have hM:ApAt w LR (w.heap.size+1) w.heap.size [] W1:=
  ⟨by rw[←LH];have:=World.alloc_heap_new (w.alloc (.deferred (some []))) (.loop LR);rwa [cG]at this,
   by rw[←LH];exact(Below.heap_alloc _ _ _ (by simp)).trans (World.alloc_heap_new w _),nU⟩
 refine⟨w.heap.size+1,[{target:= .collected w.heap.size,args:=#[]}],W1,{target:= .fn (.func f) lb,args:=#[.func (.yield (w.heap.size+1)) #[] #[]]},W1,f,
  #[.func (.yield (w.heap.size+1)) #[] #[]]++lb,W1,?_,?_,?_,?_,λh=>(by cases h),?_⟩
 ·rw[←LH,hLR];exact run_enterLoop_outer _ _ _ _ _
 ·unfold rangeCall resolve;dsimp only;rw[hg];simp[go_sem]
 ·intro f' Cc;trivial
 ·simp[invoke,go_sem,eg]
 ·refine(ah1 (w.heap.size+1) (ApAt w LR (w.heap.size+1) w.heap.size) W1 nU (ap_abides w LR _ _ _ nU.size) hM).mono ?_;rintro e W2 ⟨⟨v0,rfl⟩,h2⟩;have LJ:=run_endLoop (P:=P) h2.L (by rw[hLR];exact λe=>by cases e);rw[show LR.pending=none by rw[hLR]]at LJ;refine⟨none,_,LJ,?_⟩;exact hQ _ _ (h2.below.grown (grownBy_putObj_a _ _ _) h2.below.size (λk e=>by cases e;omega)) ((World.putObj_heap_other (by omega)).trans h2.K) (dp _)
def yA (w Bm b)(hBm:Bm<w.heap.size)(hm:w.cell? ⟨Bm,0,none⟩=some (.map (some b)))(dy:w.ownsMap Tryz.prog 26 R0 b 0 (.map [])):
 Calls Tryz.prog 146 #[.slice none 0 0,.func (.func 121) #[] #[.pointer (some ⟨Bm,0,none⟩)]] w λe w'=>e= .returned (.slice none 0 0)∧Below w.heap.size w w':=by
 refine(callsIn_wide (n:=6)).1 ?_;have eg:Enters Tryz.prog 121:=enters_of Tryz.func121 (by kernel_rfl) rfl;refine callsIn_of_wp_marks Tryz.func146 rfl trivial ?_ rfl;simp only[Tryz.ntmps146,List.size_toArray,dT,mD,Nat.reduceAdd,Nat.reduceSub,Array.replicate_succ,Array.replicate_zero,List.push_toArray,List.append_toArray,za]
 gi_wp2
 obtain⟨W0,hW0⟩:∃W0,w.alloc (.cells #[.slice none 0 0] 49)=W0:=⟨_,rfl⟩;have wK:W0.heap.size=w.heap.size+1:=by rw[←hW0];simp
 have E7:W0.heap[w.heap.size]?=some (.cells #[.slice none 0 0] 49 (0,0)):=by rw[←hW0];exact World.alloc_heap_new w _
 have UK:Below w.heap.size w W0:=by rw[←hW0];exact(Below.refl _ w).alloc (dp _) _
 rw[hW0];refine yz (n:=5) 121 #[O Bm] rfl eg (λl J W hW hJ h0=>?_) (λW3 D hb3 hK3 hD=>?_)
 ·have hWb:=UK.trans (hW.mono UK.size);have ah2:W.ownsMap Tryz.prog 26 R0 b 0 (.map []):=by
   have Ej:=dy.lt;obtain⟨es,clock,hb,Ft,hs,hD⟩:=dy;exact⟨es,clock,(hWb.block b Ej).trans hb,Ft,hs,hD⟩
  exact E6 Fence.wide 5 trivial rfl l Bm b J W hJ ((hWb.cell (p:=⟨Bm,0,none⟩) hBm).trans hm) ah2 h0
 ·have hv3:W3.heap[w.heap.size]?=some (.cells #[.slice none 0 0] 49 (0,0)):=(hb3.block w.heap.size (by omega)).trans E7;obtain⟨W9,nW⟩:=cell_of_box_a hv3
  gi_wp2
  refine⟨by simp,.inl ⟨_,_,rfl,run_takeDeferred hK3,?_⟩⟩;exact⟨_,results_tmp rfl _ _ _,rfl,UK.trans (hb3.mono UK.size)|>.grown (grownBy_putObj_a _ _ _) (UK.trans (hb3.mono UK.size)).size (λk e=>by cases e;omega)⟩
def Bg (w Bm b)(hBm:Bm<w.heap.size)(hm:w.cell? ⟨Bm,0,none⟩=some (.map (some b)))(dy:w.ownsMap Tryz.prog 26 R0 b 0 (.map [])):
 ba 119 #[.func (.func 121) #[] #[.pointer (some ⟨Bm,0,none⟩)]] w (.slice none 0 0):=by
 have HC:=aa (yA w Bm b hBm hm dy);clear hm dy;delta ba;go_in;go_wp2_with fail;refine HC.out.mono ?_;rintro r w1 ⟨rfl,hb⟩;have HF:=aa (Fr.N9 hb []);clear hb;go_wp2;go_ret;exact⟨rfl,HF.out⟩
def Hu (w):ba 170 #[U 0] w (I 0):=by
 have HF:=aa (Fr.refl [] w);delta ba;go_in;go_wp2;go_ret;exact⟨by kernel_rfl,HF.out⟩
def LM (w):ba 148 #[U 0] w (I 0):=by
 have HL:=aa Hu;delta ba;go_in;go_wp2_with fail;refine(HL.out _).kh λw1 HF=>?_;go_wp2;go_ret;exact⟨rfl,HF.out⟩
def Bh (w):ba 160 #[.slice none 0 0,I 0,I 0] w (.tuple #[]):=by
 have HF:=aa (Fr.refl [] w);delta ba;go_in;go_wp2_with fail;refine gQ 1 ?_;rw[dA];go_wp2;go_end0;exact⟨rfl,HF.out⟩
def Hv (w l):ba 147 #[.slice none 0 0,I 0,I 0,I l] w (.tuple #[]):=by
 have HI:=aa Bh;delta ba;go_in;go_wp2_with fail;refine gQ 1 ?_;rw[dA];go_wp2_with fail;refine(HI.out _).kh λw1 HF=>?_;go_wp2;refine aV (fV rfl _ _ _) rfl ?_;exact⟨rfl,HF.out⟩
def E8 (w):ba 120 #[.slice none 0 0] w (.tuple #[]):=by
 have HL:=aa LM;have HP:=aa Hv;delta ba;go_in;go_wp2_with fail;refine(HL.out _).kh λw1 HF=>?_;go_wp2_with fail;refine(HP.out _ _).kk λw2 hf=>?_;have HF:=aa (HF.trans hf);clear hf;go_wp2;go_end0;exact⟨rfl,HF.out⟩
def Dl (w Bm b)(hBm:Bm<w.heap.size)(hm:w.cell? ⟨Bm,0,none⟩=some (.map (some b)))(dy:w.ownsMap Tryz.prog 26 R0 b 0 (.map [])):
 ba 95 #[.func (.func 121) #[] #[.pointer (some ⟨Bm,0,none⟩)]] w (.slice none 0 0):=by
 have HC:=aa (Bg w Bm b hBm hm dy);have HT:=aa E8;clear hm dy;delta ba;go_in;go_wp2_with fail;refine HC.out.mono ?_;rintro r w1 ⟨rfl,hf⟩;have HF:=aa hf;clear hf;go_wp2_with fail;refine(HT.out _).kk λw2 hf=>?_;have HF:=aa (HF.trans hf);clear hf;go_wp2;go_ret;exact⟨rfl,HF.out⟩
def LN (w b):Calls Tryz.prog 96 #[.map (some b)] w λe w'=>e= .returned (.func (.func 121) #[] #[O w.heap.size])∧w'=w.alloc (.cells #[.map (some b)] 133):=by
 go_wp2;go_ret;exact⟨rfl,rfl⟩
def E9 {w0 w R sb roots}(hS:Sep w0 w (rA sb roots::R)):
 ba 65 #[O sb] w (.slice none 0 0):=by
 obtain⟨mb,hl,h⟩:=lQ hS;have f:=(h.ar 0 rfl).aT 16 (vC hl);have he:=uk h 1 rfl;have HK:=aa (λw'=>LN w' mb);have hB:=cB.new w 133 [.map (some mb)];have HF:=aa ((Fr.refl [] w).alloc (.cells #[.map (some mb)] 133));have HT:=aa (Dl (w.alloc (.cells #[.map (some mb)] 133)) w.heap.size mb (by simp) ((hB.cell 0).trans rfl) (he.alloc _));clear hS h he hB;delta ba;go_in;go_wp2_with fail;refine(HK.out _).mono ?_;rintro r w1 ⟨rfl,rfl⟩;go_wp2_with fail;refine HT.out.mono ?_;rintro r w2 ⟨rfl,hf⟩;have HF:=aa (HF.trans hf);clear hf;go_wp2;go_ret;exact⟨rfl,HF.out⟩
end Go.Proofs.YtolkmchicplaoaaGreat
namespace Go.Proofs.YtolkmchicplaoaaGreat
open Go.RowKit Go.aS Go.aS.I_ Go.aS.Y Go.Maps
def zO (w){xs:Array Value}:∀(is:List Nat),(∀i∈is,∃x:Int,xs[i]?=some (U x))→(Op.eqItems (9998+1) 26 1 xs xs is).run Tryz.prog w= .ok true w
 |[],_=>by simp[Op.eqItems]
 |i::is,h=>by
  obtain⟨x,hx⟩:=h i List.mem_cons_self;have ih:=zO w is (λj hj=>h j (oB _ hj));have he:Tryz.prog.plainKey 26=true:=by kernel_rfl
  have hp:=run_part_plain (w:=w) he (off:=i) hx;have h4:=underlying26;have hq:(Op.equalIn (9998+1) 26 (U x) (U x)).run Tryz.prog w= .ok true w:=by rw[run_equalIn_int w 9998 26 .u64 .u64 x x h4];simp
  unfold Op.eqItems;rw[lj];simp only[lh,hp,hq,oD];simpa using ih
def zP (w)(roots:List Int)(hl:roots.length=16):(binOp .eql 134 (.agg (roots.map (Value.int .u64)).toArray) (.agg (roots.map (Value.int .u64)).toArray)).run Tryz.prog w= .ok (.bool true) w:=by
 have h1:=underlying134;have h4:=underlying26;obtain⟨i,hi⟩:=info_of_underlying h4;have hc:Tryz.prog.cellsOf 26=1:=by kernel_rfl
 have he:∀a b,Op.equal 134 a b=Op.equalIn (9999+1) 134 a b:=λ_ _=>rfl;have h5:=zO w (xs:=(roots.map (Value.int .u64)).toArray) (List.range 16) (λi hi=>by
  have:i<roots.length:=by rw[hl];exact oF.1 hi
  exact⟨roots[i],by simp[this]⟩)
 have h6:=run_equalIn_array (P:=Tryz.prog) w 9999 (roots.map (Value.int .u64)).toArray (roots.map (Value.int .u64)).toArray h1 hi;rw[hc]at h6;simp only[binOp];rw[he,lh,h6,h5];rfl
def Dm (w a b)(h1:w.ownsMap Tryz.prog 26 R0 a 0 (.map []))(h2:w.ownsMap Tryz.prog 26 R0 b 0 (.map [])):
 ba 74 #[.map (some a),.map (some b)] w (.bool true):=by
 have l1:=λty=>h1.len (t:=133) underlying133 ty;have l2:=λty=>h2.len (t:=133) underlying133 ty;have e0:Maps.size (.map []:DataW Unit)=0:=rfl;rw[e0]at l1 l2;have K:=int_keyed (P:=Tryz.prog) underlying26;delta ba;go_in;go_wp2_with(first
  |(at_range;refine wpList_range_own _ rfl _ 133 rfl 26 160 K underlying133 R0 a 0 _ rfl h1 ?_;intro w0 PS nP wK))
 refine gQ 1 ?_;rw[dA];go_wp2_with(refine wpList_next_ranges _ rfl _ rfl 26 K R0 Y2 id (λkey kl hk=>by obtain⟨x,hx,_⟩:=Maps.keyOf_int_inv underlying26 hk;exact⟨x,hx⟩) (λv _ _=>⟨v,rfl⟩) a w.heap.size 0 _ _ _ rfl PS ?_ ?_);intro S3;go_wp2;go_ret;exact⟨rfl,(Fr.refl [] w).grown nP (λk e=>by cases e)⟩
def LO {w0 w R a b roots}(hS:Sep w0 w (rA a roots::rA b roots::R)):
 ba 37 #[O a,O b] w (.bool true):=by
 obtain⟨ma,hl,h⟩:=lQ hS;obtain⟨mb,_,h⟩:=lQ (h.pull 2 rfl);have HE:=aa (λw=>zP w roots hl);have Y3:=h.drew;have HQ:=aa (Dm w.drew ma mb (uk Y3 3 rfl) (uk Y3 1 rfl));have rz:w.drew.rangeAt a 0 (roots.map (Value.int .u64)):=λj u hj=>by
  have:=((Y3.ar 2 rfl).cell j).trans (show _=some u from by unfold Bf;rw[gm (dE.1 hj).1];exact hj);simpa using this
 have oe:w.drew.rangeAt b 0 (roots.map (Value.int .u64)):=λj u hj=>by
  have:=((Y3.ar 0 rfl).cell j).trans (show _=some u from by unfold Bf;rw[gm (dE.1 hj).1];exact hj);simpa using this
 have fa:=(Y3.ar 2 rfl).aT 16 (vC hl);have fb:=(Y3.ar 0 rfl).aT 16 (vC hl);have rR:(roots.map (Value.int .u64)).length=16:=by simp[hl]
 have HF:=aa (Fr.refl [] w).drew;generalize roots.map (Value.int .u64)=rv at*;clear hS h Y3 hl;delta ba;go_in;go_wp2_with fail;have heq:∀w,(binOp .eql 134 (.agg rv.toArray) (.agg rv.toArray)).run Tryz.prog w= .ok (.bool true) w:=HE.out;refine bW [(1,[0,1,2,3,4,5,6,7,8,9,10,11,12,13,14,15,16,17]),(3,[18]),(0,[19,20])] (by kernel_rfl) ?_;simp only[zz];refine af ?_;repeat(first|(refine ak 134 _ a 0 rv _ rfl rfl rfl (aG rz (by simp)) underlying134 rfl (by rw[rR];kernel_rfl) ?_;simp only[Act.put,aZ,aL,aN])|(refine ak 134 _ b 0 rv _ rfl rfl rfl (aG oe (by simp)) underlying134 rfl (by rw[rR];kernel_rfl) ?_;simp only[Act.put,aZ,aL,aN])|go_big_quiet_step (fail)|quiet_step (fail))
 refine ax ?_;repeat(first|go_big_quiet_step(fail)|apply ax|apply af|apply ag|apply ah)
 refine ao ?_;go_wp2_with fail;refine HQ.out.mono ?_;rintro r w1 ⟨rfl,hf⟩;have HF:=aa (HF.trans hf);clear hf;go_wp2_with fail;repeat(first|go_big_quiet_step(fail)|apply ax|apply af|apply ag|apply ah)
 refine aj ?_;go_wp2;go_ret;exact⟨rfl,HF.out⟩
