/- A part of the proof. -/
import Derived.Shelf.SlMaps.Clone
import Derived.Maps.RangeWalk
import Derived.Shelf.SlIterI.Nil
import Derived.ChangeKeysEq
import Derived.Test.YtolkmchicplaoaaGreatG04
set_option linter.all false
set_option maxHeartbeats 8000000
set_option maxRecDepth 1000000
open Go.Proofs.Tryz
namespace Go.aS
def Sep.k5 {w0 w Ts}(h:Sep w0 w Ts)(base)(e:TypeId)(size):Sep w0 w (aU base e size (.slice none 0 0) 0 []::Ts):=
 h.push (Fr.refl [] w) (fp:=[]) ⟨rfl,jP w base e size⟩ (by simp)
end Go.aS
namespace Go.Proofs.YtolkmchicplaoaaGreat
open Go.RowKit Go.aS Go.aS.Y
def bM (w c):ba 100 #[aY c] w (db c):=by
 unfold aY ae db;delta ba;go_in;go_wp2;exact aV (v:= .agg #[I c.t,I c.b,I c.w,I c.f,U c.fi,U c.la]) (by simp[results,Tryz.results100,go_sem]) rfl ⟨rfl,by first|exact((Fr.refl [] _).alloc _).alloc _|exact(((Fr.refl [] _).alloc _).alloc _).drew⟩
def zq18:(∀{w0 w R}(b c seq p)(hS:Sep w0 w (bE c seq b p::R)),ba 233 #[O b] w (I p.s))∧(∀{w0 w R}(b c seq p)(hS:Sep w0 w (bE c seq b p::R)),ba 155 #[O b] w (.agg [I p.nt,I p.nl].toArray)):=by
 refine⟨?_,?_⟩;all_goals
  intro w0 w R b c seq p hS;obtain⟨mb,la,lc,h2⟩:=fA hS;have aD:(ae c).length=24:=rfl;generalize ae c=cs at*
 focus have gK:=(h2.ar 0 rfl).aT 32 (P.pf aD seq (.map (some mb)) (.slice la p.bS.length lc) p).s;clear h2 hS;delta ba;go_in;go_wp2;go_ret
 rotate_left;focus
  have du:=(h2.new 252 [I 0,I 0]);have kf:=P.pf aD seq (.map (some mb)) (.slice la p.bS.length lc) p;have dX:=(du.ar 1 rfl).aT 29 kf.nt;have d_:=(du.ar 1 rfl).aT 30 kf.nl;have HS:=aa ((Sep.nil (Fr.refl [] w)).new 252 [I 0,I 0]);have pV:∀u∈ [I p.nt,I p.nl],u.oneCell'=true:=by simp[Value.oneCell']
  clear h2 hS du kf;delta ba;go_in;go_wp2_with(refine aC HS.out 0 rfl [I p.nt,I p.nl] 252 _ _ rfl rfl rfl rfl rfl (by kernel_rfl) pV (λwA hA _=>?_);have HA:=aa hA;clear hA)
 rotate_left
 ·exact⟨rfl,Fr.refl _ _⟩
 ·exact aV (v:= .agg [I p.nt,I p.nl].toArray) (Of Tryz.results155 rfl (HA.ar 0 rfl).range underlying252 rfl (by kernel_rfl)) rfl ⟨rfl,HA.fr⟩
def Hn:=@zq18.1
def PE:=@zq18.2
def PG {w0 w R}(b c seq p x y)(hS:Sep w0 w (bE c seq b p::R)):
 bR 174 #[O b,.agg #[I x,I y]] w w0 (bE c seq b {p with nt:=x,nl:=y}::R):=by
 obtain⟨mb,la,lc,h2⟩:=fA hS;have aD:(ae c).length=24:=rfl;have dQ:=aa (λw' hS=>jv (w0:=w0) (w:=w') (R:=R) (c:=c) (seq:=seq) (b:=b) (mb:=mb) (n:=p.next.toNat) (k:=p.bS.length) (v:= .slice la p.bS.length lc) (p:={p with nt:=x,nl:=y}) (dp _) rfl hS);generalize bE c seq b {p with nt:=x,nl:=y}=TH at*;generalize ae c=cs at*;have HS:=aa (h2.new 252 [I x,I y]);clear h2 hS;have f29:=(HS.ar 1 rfl).az;have kf:=P.pf aD seq (.map (some mb)) (.slice la p.bS.length lc) p;have dX:=(HS.ar 1 rfl).aT 29 kf.nt;have d_:=(HS.ar 1 rfl).aT 30 kf.nl;clear kf;have du:=(HS.set 1 rfl 29 (I x)).set 1 rfl 30 (I y);simp only[zs,P.vq aD,P.vr aD]at du;have de:=aa du;clear du;delta bR;go_in;go_wp2;go_end0;exact⟨rfl,dQ.out _ de.tail⟩
def EZ (w c seq):
 Calls Tryz.prog 135 #[aY c,U seq] w λe w'=>∃b,e= .returned (O b)∧Sep w w' [bE c seq b P.fw]:=by
 have aD:(ae c).length=24:=rfl;have pV:∀u∈ae c,u.oneCell'=true:=by simp[ae,Value.oneCell']
 have dQ:=aa (λw' (b mb:Nat) (hS:Sep w w' [aJ b 261 (P.bO (ae c) seq (.map (some mb)) (.slice none 0 0) P.fw),sA Tryz.prog 26 3 .u64 .i64 mb 0 P.fw.f,aU 0 26 1 (.slice none 0 0) 0 []])=>jv (w0:=w) (w:=w') (R:=[]) (c:=c) (seq:=seq) (b:=b) (mb:=mb) (n:=0) (k:=0) (v:= .slice none 0 0) (p:=P.fw) (cE _) rfl hS);have Un:∃TH:Nat→a_,∀b,bE c seq b P.fw=TH b:=⟨_,λ_=>rfl⟩;obtain⟨TH,hTH⟩:=Un;simp only[hTH]at*;clear hTH;unfold aY;generalize ae c=cs at*;have HS:=aa ((Sep.nil (Fr.refl [] w)).new 58 cs);have Lx:=@run_makeMap Tryz.prog;obtain⟨x0,x1,x2,x3,x4,x5,x6,x7,x8,x9,l4,l5,l6,l7,l8,l9,l_,mf,mh,mi,mj,mm,mo,mq,rfl⟩:=rQ aD;go_in;go_wp2_with(refine ay 58 _ rfl rfl _ 0 rfl _ _ (HS.ar 0 rfl).range underlying58 rfl (by kernel_rfl) ?_);go_ret;have hS:=(((HS.out.Yk Tryz.prog 26 3 .u64 .i64).new 261 (P.bO [x0,x1,x2,x3,x4,x5,x6,x7,x8,x9,l4,l5,l6,l7,l8,l9,l_,mf,mh,mi,mj,mm,mo,mq] seq (.map (some (w.heap.size+1))) (.slice none 0 0) P.fw))).k5 0 26 1;simp only[cG]at hS;exact⟨_,rfl,dQ.out _ _ _ (hS.sub [1,2,0] rfl (by decide))⟩
end Go.Proofs.YtolkmchicplaoaaGreat
section
namespace Go.Proofs.YtolkmchicplaoaaGreat
open Go.RowKit Go.aS Go.aS.Y
def e_ (c w):(Instr.field 31 (db c) 0).run Tryz.prog w= .ok (I c.t) w∧(Instr.field 31 (db c) 1).run Tryz.prog w= .ok (I c.b) w:=
 ⟨dW w _ _ _ _ _ _ _ underlying31 rfl underlying3 rfl rfl,dW w _ _ _ _ _ _ _ underlying31 rfl underlying3 rfl rfl⟩
def fH (s a v):(P.cU s a v).done.length≤s.done.length+1:=by
 unfold P.cU W.put;split<;>(try split)<;>(try split)<;>simp<;>omega
abbrev sp (c:cA)(seq:Int)(b k:Nat)(mv v:Value)(p:P.St)(s:W.S)(R:List a_):List a_:=
 cw k s::aJ b 261 (P.bO (ae c) seq mv v p)::R
def zq19:(∀{w0 w R}(b k c)(aE:Y.Ok c)(seq mv v p s bb)(BZ:0≤bb∧bb≤1000)(mY:0≤p.nt∧p.nt≤c.b)(h0:¬p.nt<c.b)(hd:s.done.length≤900000)(hS:Sep w0 w (sp c seq b k mv v p s R)),bR 237 #[O b,O k,I bb] w w0 (sp c seq b k mv v p (P.cU s (at_ c 11 bb 0) 0) R))∧(∀{w0 w R}(b k c)(aE:Y.Ok c)(seq mv v p s bb)(BZ:0≤bb∧bb≤1000)(mY:0≤p.nt∧p.nt≤c.b)(h0:p.nt<c.b)(hd:s.done.length≤900000)(hS:Sep w0 w (sp c seq b k mv v p s R)),bR 237 #[O b,O k,I bb] w w0 (sp c seq b k mv v {p with nt:=p.nt+1} (P.cU (P.cU s (at_ c 11 bb 0) 0) (at_ c 13 p.nt 0) bb) R)):=by
 refine⟨?_,?_⟩;all_goals
  intro w0 w R b k c aE seq mv v p s bb BZ mY h0 hd hS;unfold P.cU;have sr:=fH s (at_ c 11 bb 0) 0;unfold P.cU at sr;have aD:(ae c).length=24:=rfl;have HA:=aa (λw kind i k=>cx w c aE kind i k);have HC:=aa (λw=>bM w c);have fS:=aa (λw=>e_ c w);have HP:=aa (λw' (s:W.S) (R:List a_) (hd:s.done.length≤1000000) (hS:Sep w0 w' (cw k s::R)) a v=>iz (w0:=w0) (w:=w') (R:=R) (b:=k) (s:=s) hS hd a v);have nU:=aE.b1;have kF:=aE.nZ;unfold sp aY at*;generalize fB:db c=cf at*;clear fB;generalize ae c=cs at*;obtain⟨pn,pf,dH,dL,nt,nl,bS,ps⟩:=p;dsimp only at*;have HS:=aa hS;clear hS;generalize sI:cw k _::_=TL;have zK:=aa sI;clear sI;have aF:=HS.ar 1 rfl;have kf:=P.pf aD seq mv v ⟨pn,pf,dH,dL,nt,nl,bS,ps⟩;have cu:=aF.aT 27 kf.wt;have dz:=aF.aT 28 kf.wl;have dX:=aF.aT 29 kf.nt;have d_:=aF.aT 30 kf.nl;have f29:=aF.az 29;have cC:=aF.drew;unfold P.bO at cC aF;clear kf;have hd:s.done.length≤1000000:=by omega
  have YR:=λw=>(fS.out w).2;delta bR;go_in;go_wp2_with(refine ay 58 _ rfl rfl _ 0 rfl cs _ (cB.pre aF) underlying58 rfl (by rw[aD];kernel_rfl) ?_);refine(HA.out _ _ _ _).kk λw2 hf=>?_;clear aF cu dz dX d_ f29 cC;have HS:=aa (HS.c_ hf);clear hf;have aF:=HS.ar 1 rfl;have kf:=P.pf aD seq mv v ⟨pn,pf,dH,dL,nt,nl,bS,ps⟩;have cu:=aF.aT 27 kf.wt;have dz:=aF.aT 28 kf.wl;have dX:=aF.aT 29 kf.nt;have d_:=aF.aT 30 kf.nl;have f29:=aF.az 29;have cC:=aF.drew;unfold P.bO at cC aF;clear kf;go_wp2_with fail;refine(HP.out _ _ _ hd HS.out _ _).kk λw3 h3=>?_;clear aF cu dz dX d_ f29 cC;have HS:=aa h3;clear h3;have aF:=HS.ar 1 rfl;have kf:=P.pf aD seq mv v ⟨pn,pf,dH,dL,nt,nl,bS,ps⟩;have cu:=aF.aT 27 kf.wt;have dz:=aF.aT 28 kf.wl;have dX:=aF.aT 29 kf.nt;have d_:=aF.aT 30 kf.nl;have f29:=aF.az 29;have cC:=aF.drew;unfold P.bO at cC aF;clear kf;go_wp2_with fail;refine bW [(1,[0,1,2,3,4,5,6,7,8]),(2,[9]),(0,[10,11])] (by kernel_rfl) ?_;simp only[zz];refine af ?_;iterate 8 (first|go_big_quiet_step (fail)|quiet_step (fail))
  refine ak 58 _ b 0 cs _ rfl rfl rfl (cm cC (by simp)) underlying58 rfl (by rw[aD];kernel_rfl) ?_;simp only[Act.put,aZ,zs];repeat go_big_quiet_step(fail)
  refine ax ?_;refine aA ?_;go_wp2_with fail;refine(HC.out _).kf HS.dr λw4 HF HS=>?_;go_wp2;refine⟨⟨⟨_,(by exact HF.out)⟩,rfl⟩,?_⟩;repeat(first|go_big_quiet_step(fail)|apply ax|apply af|apply ag|apply ah)
  refine aj ?_;clear aF cu dz dX d_ f29 cC;have aF:=HS.ar 1 rfl;have kf:=P.pf aD seq mv v ⟨pn,pf,dH,dL,nt,nl,bS,ps⟩;have cu:=aF.aT 27 kf.wt;have dz:=aF.aT 28 kf.wl;have dX:=aF.aT 29 kf.nt;have d_:=aF.aT 30 kf.nl;have f29:=aF.az 29;have cC:=aF.drew;unfold P.bO at cC aF;clear kf
 focus
  have d1:decide (nt<c.b)=false:=by simpa using h0
  go_wp2;go_end0
 rotate_left;focus
  have GK:IntKind.u64.wrap bb=bb:=by rw[ir];omega
  have hwn:IntKind.i64.wrap (nt+1)=nt+1:=bf _ (by omega) (by omega);have UD:(W.put s (at_ c 11 bb 0) 0).1.done.length≤1000000:=by omega
  clear h0;go_wp2_with fail;refine bW [(1,[1,2,3,4,5,6,7,8,9]),(0,[0,11,12]),(3,[10]),(3,[13])] (by kernel_rfl) ?_;simp only[zz];refine af ?_;iterate 3 (first|go_big_quiet_step (fail)|quiet_step (fail))
  refine ak 58 _ b 0 cs _ rfl rfl rfl (cm cC (by simp)) underlying58 rfl (by rw[aD];kernel_rfl) ?_;simp only[Act.put,aZ,zs];repeat go_big_quiet_step(fail)
  refine ax ?_;repeat(first|go_big_quiet_step(fail)|apply ax|apply af|apply ag|apply ah)
  refine ao ?_;go_wp2_with fail;refine(HA.out _ _ _ _).kk λw5 hf=>?_;clear aF cu dz dX d_ f29 cC;have HS:=aa (HS.drew.c_ hf);clear hf;have aF:=HS.ar 1 rfl;have kf:=P.pf aD seq mv v ⟨pn,pf,dH,dL,nt,nl,bS,ps⟩;have cu:=aF.aT 27 kf.wt;have dz:=aF.aT 28 kf.wl;have dX:=aF.aT 29 kf.nt;have d_:=aF.aT 30 kf.nl;have f29:=aF.az 29;have cC:=aF.drew;unfold P.bO at cC aF;clear kf;go_wp2_with fail;repeat(first|go_big_quiet_step(fail)|apply ax|apply af|apply ag|apply ah)
  refine ao ?_;go_wp2_with fail;refine(HP.out _ _ _ UD HS.out _ _).kk λw6 h3=>?_;clear aF cu dz dX d_ f29 cC;have HS:=aa h3;clear h3;have aF:=HS.ar 1 rfl;have kf:=P.pf aD seq mv v ⟨pn,pf,dH,dL,nt,nl,bS,ps⟩;have cu:=aF.aT 27 kf.wt;have dz:=aF.aT 28 kf.wl;have dX:=aF.aT 29 kf.nt;have d_:=aF.aT 30 kf.nl;have f29:=aF.az 29;have cC:=aF.drew;unfold P.bO at cC aF;clear kf;go_wp2_with fail;repeat(first|go_big_quiet_step(fail)|apply ax|apply af|apply ag|apply ah)
  refine aj ?_;go_wp2;go_end0;have du:=HS.set 1 rfl 29 (I (nt+1));simp only[zs,P.vq aD]at du
 rotate_left
 ·exact⟨rfl,zK.out▸HS.out⟩
 ·exact⟨rfl,zK.out▸du⟩
def Bc:=@zq19.1
def Bd:=@zq19.2
def E0 {w0 w R}(b k c)(aE:Y.Ok c)(seq mv v p s bb)(BZ:0≤bb∧bb≤1000)(mY:0≤p.nt∧p.nt≤c.b)(hd:s.done.length≤900000)(hS:Sep w0 w (sp c seq b k mv v p s R)):
 bR 237 #[O b,O k,I bb] w w0 (sp c seq b k mv v (P.release c (p,s) bb).1 (P.release c (p,s) bb).2 R):=by
 unfold P.release;dsimp only;by_cases h:p.nt<c.b
 ·rw[aB h];exact Bd b k c aE seq mv v p s bb BZ mY h hd hS
 ·rw[aq h];exact Bc b k c aE seq mv v p s bb BZ mY h hd hS
end Go.Proofs.YtolkmchicplaoaaGreat
end
section
namespace Go.Proofs.YtolkmchicplaoaaGreat
open Go.RowKit Go.aS Go.aS.Y
end Go.Proofs.YtolkmchicplaoaaGreat
end
section
namespace Go.Proofs.YtolkmchicplaoaaGreat
open Go.RowKit Go.aS Go.aS.Y
def zq20:(∀{w0 w R}(b k c)(aE:Y.Ok c)(seq mv v p s)(mY:0≤p.nt∧p.nt≤c.b)(kA:0≤p.nl∧p.nl≤b_ c)(h0:p.nt=p.wt)(h1:p.nl=p.wl)(hd:s.done.length≤900000)(hS:Sep w0 w (sp c seq b k mv v p s R)),bR 236 #[O b,O k] w w0 (sp c seq b k mv v p (s) R))∧(∀{w0 w R}(b k c)(aE:Y.Ok c)(seq mv v p s)(mY:0≤p.nt∧p.nt≤c.b)(kA:0≤p.nl∧p.nl≤b_ c)(h0:p.nt≠p.wt)(h1:p.nl=p.wl)(hd:s.done.length≤900000)(hS:Sep w0 w (sp c seq b k mv v p s R)),bR 236 #[O b,O k] w w0 (sp c seq b k mv v p (P.cU s (at_ c 12 0 0) p.nt) R))∧(∀{w0 w R}(b k c)(aE:Y.Ok c)(seq mv v p s)(mY:0≤p.nt∧p.nt≤c.b)(kA:0≤p.nl∧p.nl≤b_ c)(h0:p.nt≠p.wt)(h1:p.nl≠p.wl)(hd:s.done.length≤900000)(hS:Sep w0 w (sp c seq b k mv v p s R)),bR 236 #[O b,O k] w w0 (sp c seq b k mv v p (P.cU (P.cU s (at_ c 12 0 0) p.nt) (at_ c 14 0 0) p.nl) R))∧(∀{w0 w R}(b k c)(aE:Y.Ok c)(seq mv v p s)(mY:0≤p.nt∧p.nt≤c.b)(kA:0≤p.nl∧p.nl≤b_ c)(h0:p.nt=p.wt)(h1:p.nl≠p.wl)(hd:s.done.length≤900000)(hS:Sep w0 w (sp c seq b k mv v p s R)),bR 236 #[O b,O k] w w0 (sp c seq b k mv v p (P.cU s (at_ c 14 0 0) p.nl) R)):=by
 refine⟨?_,?_,?_,?_⟩;all_goals
  intro w0 w R b k c aE seq mv v p s mY kA h0 h1 hd hS;have zE:=bK aE;try unfold P.cU
  have sr:=fH s (at_ c 12 0 0) p.nt;unfold P.cU at sr;have aD:(ae c).length=24:=rfl;have HA:=aa (λw kind i k=>cx w c aE kind i k);have HC:=aa (λw=>bM w c);have fS:=aa (λw=>e_ c w);have HP:=aa (λw' (s:W.S) (R:List a_) (hd:s.done.length≤1000000) (hS:Sep w0 w' (cw k s::R)) a v=>iz (w0:=w0) (w:=w') (R:=R) (b:=k) (s:=s) hS hd a v);have nU:=aE.b1;have kF:=aE.nZ;unfold sp aY at*;generalize fB:db c=cf at*;clear fB;generalize ae c=cs at*;obtain⟨pn,pf,dH,dL,nt,nl,bS,ps⟩:=p;dsimp only at*;have HS:=aa hS;clear hS;generalize b_ c=lk at*;generalize sI:cw k _::_=TL;have zK:=aa sI;clear sI;have aF:=HS.ar 1 rfl;have kf:=P.pf aD seq mv v ⟨pn,pf,dH,dL,nt,nl,bS,ps⟩;have cu:=aF.aT 27 kf.wt;have dz:=aF.aT 28 kf.wl;have dX:=aF.aT 29 kf.nt;have d_:=aF.aT 30 kf.nl;have f29:=aF.az 29;have cC:=aF.drew;unfold P.bO at cC aF;clear kf;have hd:s.done.length≤1000000:=by omega
  have UD:(W.put s (at_ c 12 0 0) nt).1.done.length≤1000000:=by omega
  have GK:IntKind.u64.wrap nt=nt:=by rw[ir];omega
  have vu:IntKind.u64.wrap nl=nl:=by rw[ir];omega
 focus delta bR;go_in
 rotate_left;iterate 2
  focus have d1:(nt !=dH)=true:=by simpa using h0
  rotate_left
 rotate_left 3;focus
  have d2:(nl !=dL)=true:=by simpa using h1
 rotate_left 3;iterate 2
  focus delta bR;go_in
  rotate_left
 focus
  have d2:(nl !=dL)=true:=by simpa using h1
  delta bR;go_in;go_wp2_with fail;refine bW [(1,[0,1,2,3,4,5,6,7,8,9,10])] (by kernel_rfl) ?_;simp only[zz];repeat(first|go_big_quiet_step(fail)|apply ax|apply af|apply ag|apply ah)
  refine aj ?_;clear aF cu dz dX d_ f29 cC;have HS:=aa HS.drew;have aF:=HS.ar 1 rfl;have kf:=P.pf aD seq mv v ⟨pn,pf,dH,dL,nt,nl,bS,ps⟩;have cu:=aF.aT 27 kf.wt;have dz:=aF.aT 28 kf.wl;have dX:=aF.aT 29 kf.nt;have d_:=aF.aT 30 kf.nl;have f29:=aF.az 29;have cC:=aF.drew;unfold P.bO at cC aF;clear kf
 all_goals
  go_wp2_with fail;refine bW [(1,[0,1,2,3,4,5,6,7,8,9,10])] (by kernel_rfl) ?_;simp only[zz];repeat(first|go_big_quiet_step(fail)|apply ax|apply af|apply ag|apply ah)
  refine aj ?_;clear aF cu dz dX d_ f29 cC;have HS:=aa HS.drew;have aF:=HS.ar 1 rfl;have kf:=P.pf aD seq mv v ⟨pn,pf,dH,dL,nt,nl,bS,ps⟩;have cu:=aF.aT 27 kf.wt;have dz:=aF.aT 28 kf.wl;have dX:=aF.aT 29 kf.nt;have d_:=aF.aT 30 kf.nl;have f29:=aF.az 29;have cC:=aF.drew;unfold P.bO at cC aF;clear kf;go_wp2_with fail
 rotate_left;focus
  refine bW [(1,[0,1,2,3,4,5,6,7,8,9,10])] (by kernel_rfl) ?_;simp only[zz]
 rotate_left;iterate 3
  focus
   refine bW [(1,[0,1,2,3,4,6,7,8,9,10,11]),(2,[5]),(3,[12])] (by kernel_rfl) ?_;simp only[zz];refine af ?_;iterate 4 (first|go_big_quiet_step (fail)|quiet_step (fail))
   refine ak 58 _ b 0 cs _ rfl rfl rfl (cm cC (by simp)) underlying58 rfl (by rw[aD];kernel_rfl) ?_;simp only[Act.put,aZ,zs];repeat go_big_quiet_step(fail)
   refine ax ?_;refine aA ?_;go_wp2_with fail;refine(HA.out _ _ _ _).kf HS.dr λw4 HF HS=>?_;go_wp2;refine⟨⟨⟨_,(by exact HF.out)⟩,rfl⟩,?_⟩;clear aF cu dz dX d_ f29 cC;have aF:=HS.ar 1 rfl;have kf:=P.pf aD seq mv v ⟨pn,pf,dH,dL,nt,nl,bS,ps⟩;have cu:=aF.aT 27 kf.wt;have dz:=aF.aT 28 kf.wl;have dX:=aF.aT 29 kf.nt;have d_:=aF.aT 30 kf.nl;have f29:=aF.az 29;have cC:=aF.drew;unfold P.bO at cC aF;clear kf
  rotate_left
 all_goals repeat(first|go_big_quiet_step(fail)|apply ax|apply af|apply ag|apply ah)
 focus refine aj ?_;clear aF cu dz dX d_ f29 cC;have HS:=aa HS.drew
 rotate_left;iterate 3
  focus refine ao ?_;go_wp2_with fail;refine(HP.out _ _ _ hd HS.out _ _).kk λw6 h3=>?_;clear aF cu dz dX d_ f29 cC;have HS:=aa h3;clear h3
  rotate_left
 all_goals have aF:=HS.ar 1 rfl;have kf:=P.pf aD seq mv v ⟨pn,pf,dH,dL,nt,nl,bS,ps⟩;have cu:=aF.aT 27 kf.wt;have dz:=aF.aT 28 kf.wl;have dX:=aF.aT 29 kf.nt;have d_:=aF.aT 30 kf.nl;have f29:=aF.az 29;have cC:=aF.drew;unfold P.bO at cC aF;clear kf
 focus go_wp2;go_end0
 rotate_left;iterate 3
  focus
   go_wp2_with fail;repeat(first|go_big_quiet_step(fail)|apply ax|apply af|apply ag|apply ah)
   refine aj ?_
  rotate_left
 rotate_left;iterate 2
  focus
   go_wp2_with fail;refine bW [(1,[0,1,2,3,4,5,6,7,8,9,10])] (by kernel_rfl) ?_;simp only[zz];repeat(first|go_big_quiet_step(fail)|apply ax|apply af|apply ag|apply ah)
   refine aj ?_;clear aF cu dz dX d_ f29 cC;have HS:=aa HS.drew;have aF:=HS.ar 1 rfl;have kf:=P.pf aD seq mv v ⟨pn,pf,dH,dL,nt,nl,bS,ps⟩;have cu:=aF.aT 27 kf.wt;have dz:=aF.aT 28 kf.wl;have dX:=aF.aT 29 kf.nt;have d_:=aF.aT 30 kf.nl;have f29:=aF.az 29;have cC:=aF.drew;unfold P.bO at cC aF;clear kf
  rotate_left
 rotate_left 2;focus
  go_wp2;go_end0
 rotate_left;focus
  go_wp2_with fail;refine bW [(1,[0,1,2,3,4,6,7,8,9,10,11]),(2,[5]),(3,[12])] (by kernel_rfl) ?_;simp only[zz];refine af ?_;iterate 4 (first|go_big_quiet_step (fail)|quiet_step (fail))
  refine ak 58 _ b 0 cs _ rfl rfl rfl (cm cC (by simp)) underlying58 rfl (by rw[aD];kernel_rfl) ?_;simp only[Act.put,aZ,zs];repeat go_big_quiet_step(fail)
  refine ax ?_;refine aA ?_;go_wp2_with fail;refine(HA.out _ _ _ _).kf HS.dr λw4 HF HS=>?_;go_wp2;refine⟨⟨⟨_,(by exact HF.out)⟩,rfl⟩,?_⟩;clear aF cu dz dX d_ f29 cC;have aF:=HS.ar 1 rfl;have kf:=P.pf aD seq mv v ⟨pn,pf,dH,dL,nt,nl,bS,ps⟩;have cu:=aF.aT 27 kf.wt;have dz:=aF.aT 28 kf.wl;have dX:=aF.aT 29 kf.nt;have d_:=aF.aT 30 kf.nl;have f29:=aF.az 29;have cC:=aF.drew;unfold P.bO at cC aF;clear kf;repeat(first|go_big_quiet_step(fail)|apply ax|apply af|apply ag|apply ah)
  refine ao ?_;go_wp2_with fail;refine(HP.out _ _ _ UD HS.out _ _).kk λw6 h3=>?_;clear aF cu dz dX d_ f29 cC;have HS:=aa h3;clear h3;have aF:=HS.ar 1 rfl;have kf:=P.pf aD seq mv v ⟨pn,pf,dH,dL,nt,nl,bS,ps⟩;have cu:=aF.aT 27 kf.wt;have dz:=aF.aT 28 kf.wl;have dX:=aF.aT 29 kf.nt;have d_:=aF.aT 30 kf.nl;have f29:=aF.az 29;have cC:=aF.drew;unfold P.bO at cC aF;clear kf;go_wp2_with fail;repeat(first|go_big_quiet_step(fail)|apply ax|apply af|apply ag|apply ah)
  refine aj ?_;go_wp2;go_end0
 rotate_left;focus
  go_wp2;go_end0
 rotate_left;all_goals
  exact⟨rfl,zK.out▸HS.out⟩
def UF:=@zq20.1
def YS:=@zq20.2.1
def UG:=@zq20.2.2.1
def YT:=@zq20.2.2.2
def UH {w0 w R}(b k c)(aE:Y.Ok c)(seq mv v p s)(mY:0≤p.nt∧p.nt≤c.b)(kA:0≤p.nl∧p.nl≤b_ c)(hd:s.done.length≤900000)(hS:Sep w0 w (sp c seq b k mv v p s R)):
 bR 236 #[O b,O k] w w0 (sp c seq b k mv v p (P.end_ c p s) R):=by
 unfold P.end_;dsimp only;by_cases h:p.nt=p.wt<;>by_cases h1:p.nl=p.wl
 ·rw[aq (sW.2 h1),aq (sW.2 h)];exact UF b k c aE seq mv v p s mY kA h h1 hd hS
 ·rw[aB h1,aq (sW.2 h)];exact YT b k c aE seq mv v p s mY kA h h1 hd hS
 ·rw[aq (sW.2 h1),aB h];exact YS b k c aE seq mv v p s mY kA h h1 hd hS
 ·rw[aB h1,aB h];exact UG b k c aE seq mv v p s mY kA h h1 hd hS
end Go.Proofs.YtolkmchicplaoaaGreat
end
section
namespace Go.Proofs.YtolkmchicplaoaaGreat
open Go.RowKit Go.aS Go.aS.Y
end Go.Proofs.YtolkmchicplaoaaGreat
end
namespace Go.Proofs.YtolkmchicplaoaaGreat
open Go.RowKit Go.aS Go.aS.Y
def Dg {w0 w R c seq b k p p' s s'}{fn:FuncId}{args:Array Value}(h1:p'.next=p.next)(h2:p'.f=p.f)(h3:p'.bS=p.bS)
 (hc:∀(mv v:Value) (RR:List a_),Sep w0 w (sp c seq b k mv v p s RR)→Calls Tryz.prog fn args w λe w'=>e=E∧Sep w0 w' (sp c seq b k mv v p' s' RR))
 (hS:Sep w0 w (cw k s::bE c seq b p::R)):Calls Tryz.prog fn args w λe w'=>e=E∧Sep w0 w' (cw k s'::bE c seq b p'::R):=by
 obtain⟨mb,la,lc,h4⟩:=fA (hS.pull 1 rfl);refine(hc (.map (some mb)) (.slice la p.bS.length lc) (_::_::R) (h4.pull 3 rfl)).mono ?_;rintro e w' ⟨he,h5⟩;refine⟨he,?_⟩;unfold sp at h5;have h6:Sep w0 w' (aJ b 261 (P.bO (ae c) seq (.map (some mb)) (.slice la p.bS.length lc) p')::sA Tryz.prog 26 3 .u64 .i64 mb p.next.toNat p'.f::aU 0 26 1 (.slice la p.bS.length lc) p.bS.length (p'.bS.map (Value.int .u64))::cw k s'::R):=by
  rw[h2,h3];exact(((h5.pull 3 rfl).pull 3 rfl).pull 3 rfl)
 exact(jv (by rw[h1];exact dp _) (by rw[h3]) h6).pull 1 rfl
def ag8 {w0 w R}(b k c)(aE:Y.Ok c)(seq p s)(mY:0≤p.nt∧p.nt≤c.b)(kA:0≤p.nl∧p.nl≤b_ c)(hd:s.done.length≤900000)(hS:Sep w0 w (cw k s::bE c seq b p::R)):
 bR 236 #[O b,O k] w w0 (cw k (P.end_ c p s)::bE c seq b p::R):=
 Dg rfl rfl rfl (λmv v RR h=>UH b k c aE seq mv v p s mY kA hd h) hS
def Dh (c pn)(pf:Int→Int)(dH dL x nl bS ps s y)(hx:0≤x∧x≤c.b):
 ∃x' s',P.release c (⟨pn,pf,dH,dL,x,nl,bS,ps⟩,s) y=(⟨pn,pf,dH,dL,x',nl,bS,ps⟩,s')∧(0≤x'∧x'≤c.b)∧s'.done.length≤s.done.length+2:=by
 have h1:=fH s (at_ c 11 y 0) 0;have h2:=fH (P.cU s (at_ c 11 y 0) 0) (at_ c 13 x 0) y;unfold P.release;dsimp only;split
 ·exact⟨x+1,_,rfl,by omega,by omega⟩
 ·exact⟨x,_,rfl,hx,by omega⟩
def Di {w0 w R c seq b k mb p s}{z:P.St×W.S×Int}{T}(hz:P.fP c p.bS 0 0 (p,s)=z)(hn:z.1.next=p.next)
 (hf:z.1.f=p.f)(hS:Sep w0 w (cw k z.2.1::aJ b 261 (P.bO (ae c) seq (.map (some mb)) (.slice none 0 0) {z.1 with nl:=z.2.2,bS:=[]})::sA Tryz.prog 26 3 .u64 .i64 mb p.next.toNat p.f::T::R)):
 Sep w0 w (cw k (P.settle c p s).2::bE c seq b (P.settle c p s).1::R):=by
 have h1:=((hS.pull 3 rfl).tail).k5 0 26 1;have h2:=(h1.pull 3 rfl).pull 3 rfl;unfold P.settle;rw[hz];exact(jv (c:=c) (seq:=seq) (b:=b) (mb:=mb) (n:=p.next.toNat) (k:=0) (v:= .slice none 0 0) (p:={z.1 with nl:=z.2.2,bS:=[]}) (by dsimp only;rw[hn];exact dp _) rfl (by dsimp only;rw[hf];exact h2)).pull 1 rfl
def wT (w):(zeroValue 3).run Tryz.prog w= .ok (I 0) w:=by kernel_rfl
def Hq {w0 w R}(b k c)(aE:Y.Ok c)(seq p s)(hp:P.Ok c p)(hd:s.done.length≤100000)(hS:Sep w0 w (cw k s::bE c seq b p::R)):
 bR 234 #[O b,O k] w w0 (cw k (P.settle c p s).2::bE c seq b (P.settle c p s).1::R):=by
 obtain⟨mb,la,lc,h2⟩:=fA (hS.pull 1 rfl);have h3:=h2.pull 3 rfl;clear h2 hS;obtain⟨PN,vy⟩:∃PN,P.fP c p.bS 0 0 (p,s)=PN:=⟨_,rfl⟩;have dQ:=aa (λw' (T:a_) hn hf hS=>Di (w0:=w0) (w:=w') (R:=R) (c:=c) (seq:=seq) (b:=b) (k:=k) (mb:=mb) (p:=p) (s:=s) (z:=PN) (T:=T) vy hn hf hS);generalize cw k (P.settle c p s).2::bE c seq b (P.settle c p s).1::R=TL at*;have zE:=bK aE;have mY:=hp.nt;have SV:=hp.bS;have Hh:=hp.len;have vu:=hp.wl;have Be:=hp.f;have kT:=hp.next;clear hp;have aD:(ae c).length=24:=rfl;have HA:=aa (λw kind i k=>cx w c aE kind i k);have HC:=aa (λw=>bM w c);have fS:=aa (λw=>e_ c w);have HP:=aa (λw' (s:W.S) (R:List a_) (hd:s.done.length≤1000000) (hS:Sep w0 w' (cw k s::R)) a v=>iz (w0:=w0) (w:=w') (R:=R) (b:=k) (s:=s) hS hd a v);have HR:=aa (λw' (R:List a_) (mv v:Value) (p:P.St) (s:W.S) (bb:Int) (BZ:0≤bb∧bb≤1000) (mY:0≤p.nt∧p.nt≤c.b) (hd:s.done.length≤900000) (hS:Sep w0 w' (cw k s::aJ b 261 (P.bO (ae c) seq mv v p)::R))=>E0 b k c aE seq mv v p s bb BZ mY hd hS);have nU:=aE.b1;have kF:=aE.nZ;unfold sp aY at*;generalize fB:db c=cf at*;clear fB;generalize ae c=cs at*;obtain⟨pn,pf,dH,dL,nt,nl,bS,ps⟩:=p;dsimp only at*;obtain⟨ln,o8⟩:∃ln:Nat,bS.length=ln:=⟨_,rfl⟩;rw[o8]at h3 Hh;have HS:=aa h3;clear h3;have ay7:ln≤520:=by omega
 have qz:=HS.row 3 rfl;have ag9:Hid (0<ln→∃g,la=some ⟨g,0,none⟩):=aa (by
  intro h0;rcases bg qz with⟨e0,e1⟩|⟨g,c',e0,_⟩
  ·omega
  ·simp only[dk]at e0;exact⟨g,e0.1⟩)
 clear qz;have YR:=λw=>(fS.out w).2;have GK:IntKind.u64.wrap c.b=c.b:=by rw[ir];omega
 have aF:=HS.ar 1 rfl;have kf:=P.pf aD seq (.map (some mb)) (.slice la ln lc) ⟨pn,pf,dH,dL,nt,nl,bS,ps⟩;have ee:=aF.aT 26 kf.mp;have d_:=aF.aT 30 kf.nl;have eY:=aF.aT 31 kf.bS;have f30:=aF.az;unfold P.bO at aF;clear kf;delta bR;go_in;go_wp2_with fail;go_loopg [4,12] ln (λg vk vi wr=>∃(j kept:Nat) (x:Int) (sj:W.S),g+j=ln∧vi=I (j:Int)∧vk=I (kept:Int)∧(kept≤j∧(0≤x∧x≤c.b)∧sj.done.length≤s.done.length+2*j)∧P.fP c (bS.drop j) j kept (⟨pn,pf,dH,dL,x,nl,bS,ps⟩,sj)=PN∧Sep w0 wr (cw k sj::aJ b 261 (P.bO cs seq (.map (some mb)) (.slice la ln lc) ⟨pn,pf,dH,dL,x,nl,bS,ps⟩)::sA Tryz.prog 26 3 .u64 .i64 mb pn.toNat pf::aU 0 26 1 (.slice la ln lc) ln (bS.map (Value.int .u64))::R))
 case atStart=>exact⟨0,0,nt,s,by omega,rfl,rfl,⟨dp _,mY,by omega⟩,vy,HS.out⟩
 case round=>
  clear aF ee d_ eY f30;clear HS mY;obtain⟨j,kept,x,sj,yy,rfl,rfl,⟨SU,hx,hdj⟩,hG,hS⟩:=hrel;have HS:=aa hS;clear hS;have aF:=HS.ar 1 rfl;have kf:=P.pf aD seq (.map (some mb)) (.slice la ln lc) ⟨pn,pf,dH,dL,x,nl,bS,ps⟩;have ee:=aF.aT 26 kf.mp;have d_:=aF.aT 30 kf.nl;have eY:=aF.aT 31 kf.bS;have f30:=aF.az;unfold P.bO at aF;clear kf;by_cases hj:j<ln
  ·have s9:(j:Int)<(ln:Int):=by omega
   obtain⟨g,rfl⟩:=ag9.out (by omega);have mW:j<bS.length:=by omega
   have hy:=SV bS[j] (cJ mW);have hcy:=aH (HS.row 3 rfl) j _ (by rw[jE,cy mW];rfl);rw[pO mW]at hG;generalize bS[j]=y at*;unfold P.fP at hG;dsimp only at hG;go_wp2_with(refine ay 58 _ rfl rfl _ 0 rfl cs _ (cB.pre aF) underlying58 rfl (by rw[aD];kernel_rfl) ?_);refine(HC.out _).kk λw2 hf=>?_;clear aF ee d_ eY f30;clear hcy;have HS:=aa (HS.c_ hf);clear hf;have aF:=HS.ar 1 rfl;have kf:=P.pf aD seq (.map (some mb)) (.slice (some ⟨g,0,none⟩) ln lc) ⟨pn,pf,dH,dL,x,nl,bS,ps⟩;have ee:=aF.aT 26 kf.mp;have d_:=aF.aT 30 kf.nl;have eY:=aF.aT 31 kf.bS;have f30:=aF.az;unfold P.bO at aF;clear kf;by_cases h1:c.b≤y
   ·rw[aB h1]at hG;have d1:decide (y≥c.b)=true:=by simpa using h1
    clear h1;go_wp2;go_roundg (ln-(j+1))
    case measure=>omega
    case rel=>exact⟨j+1,kept,x,sj,by omega,by go_num,by go_num,⟨by omega,hx,by omega⟩,hG,HS.out⟩
   rw[aq h1]at hG;have d1:decide (y≥c.b)=false:=by simpa using h1
   have hyb:y<c.b:=by omega
   clear h1;have hwy:IntKind.u64.wrap (y+1)=y+1:=by rw[ir];omega
   have hwi:IntKind.i64.wrap y=y:=bf _ (by omega) (by omega);have S1:(Lit.int .u64 (y+1)).wf=true:=by
    have e0:IntKind.u64.min=0:=by decide
    have e1:IntKind.u64.max=18446744073709551615:=by decide
    simp only[Lit.wf,eO,gG];omega
   by_cases h2:pf (y+1)=0
   ·rw[aB h2]at hG;have d2:(pf (y+1)==0)=true:=by simpa using h2
    clear h2;obtain⟨x',s',e1,tf,T5⟩:=Dh c pn pf dH dL x nl bS ps sj y hx;rw[e1]at hG;have HE1:=aa e1;clear e1;have PL:sj.done.length≤900000:=by omega
    have Yu:0≤y∧y≤1000:=by omega
    go_wp2_with(at_lookup;go_must (refine jK HS.out 2 rfl (by rfl) _ _ 259 rfl underlying26 underlying259 underlying3 wT rfl (y+1) rfl S1 ?_));refine(HR.out _ _ _ _ _ _ _ Yu hx PL HS.out).kk λw3 h3=>?_;rw[HE1.out]at h3;clear aF ee d_ eY f30;have HS:=aa h3;clear h3 HE1;go_wp2;go_roundg (ln-(j+1))
    case measure=>omega
    case rel=>exact⟨j+1,kept,x',s',by omega,by go_num,by go_num,⟨by omega,tf,by omega⟩,hG,HS.out⟩
   rw[aq h2]at hG;have d2:(pf (y+1)==0)=false:=by simpa using h2
   clear h2;by_cases h3:(kept:Int)≠(j:Int)
   ·rw[aB h3]at hG;have d3:((kept:Int) !=(j:Int))=true:=by simpa using h3
    clear h3;have PL:sj.done.length≤1000000:=by omega
    have ap8:=fH sj (at_ c 15 (kept:Int) 0) y;unfold P.cU at ap8 hG;have LA:IntKind.i64.wrap ((kept:Int)+1)=(kept:Int)+1:=bf _ (by omega) (by omega);go_wp2_with(first|(at_lookup;go_must (refine jK HS.out 2 rfl (by rfl) _ _ 259 rfl underlying26 underlying259 underlying3 wT rfl (y+1) rfl S1 ?_))|(refine ay 58 _ rfl rfl _ 0 rfl cs _ (cB.pre aF) underlying58 rfl (by rw[aD];kernel_rfl) ?_));refine(HA.out _ _ _ _).kk λw3 hf=>?_;clear aF ee d_ eY f30;have HS:=aa (HS.c_ hf);clear hf;go_wp2_with fail;refine(HP.out _ _ _ PL HS.out _ _).kh λw4 HS=>?_;go_wp2;go_roundg (ln-(j+1))
    case measure=>omega
    case rel=>exact⟨j+1,kept+1,x,_,by omega,by go_num,by go_num,⟨by omega,hx,by omega⟩,hG,HS.out⟩
   ·rw[aq h3]at hG;have d3:((kept:Int) !=(j:Int))=false:=by simpa using h3
    have LA:IntKind.i64.wrap ((kept:Int)+1)=(kept:Int)+1:=bf _ (by omega) (by omega);clear h3;go_wp2_with(at_lookup;go_must (refine jK HS.out 2 rfl (by rfl) _ _ 259 rfl underlying26 underlying259 underlying3 wT rfl (y+1) rfl S1 ?_));go_roundg (ln-(j+1))
    case measure=>omega
    case rel=>exact⟨j+1,kept+1,x,sj,by omega,by go_num,by go_num,⟨by omega,hx,by omega⟩,hG,HS.out⟩
  ·obtain rfl:j=ln:=by omega
   go_wp2;go_end0;have du:=(HS.set 1 rfl 30 (I kept)).set 1 rfl 31 (.slice none 0 0);simp only[zs,P.vr aD,P.wO aD]at du;rw[List.drop_of_length_le (by omega)]at hG;unfold P.fP at hG;subst hG;exact⟨rfl,dQ.out _ _ rfl rfl du⟩
end Go.Proofs.YtolkmchicplaoaaGreat
namespace Go.aS.W
def U_ (v:Int):Prop:=0≤v∧v≤18446744073709551615
def ou (s:S):Prop:=∀e∈s.list,U_ e.2
def ou.get {s:S}(h:ou s)(a:Int):U_ (get s a).1:=by
 unfold W.get;split
 ·rename_i i hi;obtain⟨hl,_⟩:=kQ hi;have:s.list.getD i (0,0)=s.list[i]:=by simp[List.getD,hl]
  rw[this];exact h _ (cJ hl)
 ·exact⟨by decide,by decide⟩
def ou.put {s:S}(h:ou s)(a:Int){v:Int}(hv:U_ v):ou (put s a v).1:=by
 unfold W.put;split
 ·intro e he;rcases k_ he with h1|h1
  ·exact h e h1
  ·subst h1;exact hv
 ·split
  ·exact h
  ·intro e he;rcases jQ.1 he with h1|h1
   ·exact h e h1
   ·simp only[jO]at h1;subst h1;exact hv
def mO (s:S)(a v:Int):(put s a v).1.done.length≤s.done.length+1:=by
 unfold W.put;split
 ·simp
 ·split<;>simp
end Go.aS.W
namespace Go.Proofs.YtolkmchicplaoaaGreat
open Go.RowKit Go.aS Go.aS.I_ Go.aS.Y
structure EH (cs:List Value)(cv:Value)(args:List Int)(vb pb sb:Nat)(H:List Value):Prop where
 len:H.length=35
 m:∀k,k<24→H[k]?=cs[k]?
 code:H[24]?=some cv
 args:∀k,k<4→H[25+k]?=(bC args)[k]?
 v:H[29]?=some (O vb)
 p:H[30]?=some (O pb)
 w:H[31]?=some (O sb)
structure ah9 where
 x:Int
 y:Int
 pc:Int
 st:Int
 wr:Int
 wt:Bool
 i:In
 s:Int
 rc:Int
 rv:Int
def iC (m:ah9):List Value:=[U 0,U m.x,U 0,U m.y,U 0,U 0,U 0,U 0,U 0,U 0,U 0,U 0,U 0,U 0,U 0,U 0,I m.pc,I m.st,I m.wr,.bool m.wt,I m.i.op,I m.i.a,I m.i.b,I m.i.c,U m.i.bN,I m.s,I m.rc,U m.rv,.slice none 0 0]
def dM {w:World}{b:Nat}{T:TypeId}{H t:List Value}(hH:H.length=35)(h:cB w b T (H++t))(j:Nat):w.cell? ⟨b,j+35,none⟩=t[j]?:=by
 rw[h.cell,gw (by omega),hH,Nat.add_sub_cancel]
def fE {w:World}{b:Nat}{T:TypeId}{H t:List Value}(hH:H.length=35)(h:cB w b T (H++t)){j:Nat}(hj:j<35):w.cell? ⟨b,j,none⟩=H[j]?:=by
 rw[h.cell,gm (by omega)]
def gd {H:List Value}(hH:H.length=35)(t:List Value)(j:Nat)(v:Value):(H++t).set (j+35) v=H++t.set j v:=by
 rw[eD _ _ (by omega),hH,Nat.add_sub_cancel]
def lP (c:cA)(aw seq:Int)(b vb pb sb:Nat)(H:List Value)(m:ah9)(v:Vw.V)(p:P.St)(s:W.S):List a_:=
 [aJ b 255 (H++iC m),aJ vb 258 (Vw.eU (ae c) aw seq v),bE c seq pb p,cw sb s]
def r_:ah9:=⟨0,0,1,1,0,true,⟨9,1,2,0,0⟩,0,0,0⟩
def Mh (cs:List Value)(cv:Value)(args:List Int)(vb pb sb:Nat)(x:X.St)(q:List Value×ah9):Prop:=
 EH cs cv args vb pb sb q.1∧x.news=[]∧(x.s=0→q.2=r_)∧q.2.s=x.s∧q.2.rc=x.rc∧q.2.rv=x.rv
def aQ (c:cA)(aw seq:Int)(b vb pb sb:Nat)(cv:Value)(args:List Int)(x:X.St):a_:=
 EG λq:List Value×ah9=>ie (Mh (ae c) cv args vb pb sb x q) (cM (lP c aw seq b vb pb sb q.1 q.2 x.v x.p x.w))
def bh {w0 w:World}{R:List a_}{c:cA}{aw seq:Int}{b vb pb sb:Nat}{cv:Value}{args:List Int}{x:X.St}(h:Sep w0 w (aQ c aw seq b vb pb sb cv args x::R)):
 ∃H m,Mh (ae c) cv args vb pb sb x (H,m)∧Sep w0 w (lP c aw seq b vb pb sb H m x.v x.p x.w++R):=by
 obtain⟨⟨H,m⟩,h1⟩:=h.rZ;obtain⟨hf,h2⟩:=h1.jn;exact⟨H,m,hf,h2.ofList⟩
def bF {w0 w:World}{R:List a_}{c:cA}{aw seq:Int}{b vb pb sb:Nat}{cv:Value}{args:List Int}{x:X.St}{H:List Value}{m:ah9}(hf:Mh (ae c) cv args vb pb sb x (H,m))(h:Sep w0 w (lP c aw seq b vb pb sb H m x.v x.p x.w++R)):
 Sep w0 w (aQ c aw seq b vb pb sb cv args x::R):=
 Sep.qX (A:=List Value×ah9) (λq=>ie (Mh (ae c) cv args vb pb sb x q) (cM (lP c aw seq b vb pb sb q.1 q.2 x.v x.p x.w))) (a:=(H,m)) (Sep.iK h.toList hf)
def i9:In:=⟨9,1,2,0,0⟩
def mP {w0 w:World}{R:List a_}{c:cA}{aw seq:Int}{b vb pb sb:Nat}{H:List Value}(hH:H.length=35){x y pc st wr s rc rv:Int}{wt:Bool}{v:Vw.V}{p:P.St}{ws:W.S}(val:Int)(hS:Sep w0 w (lP c aw seq b vb pb sb H ⟨x,y,pc,st,wr,wt,i9,s,rc,rv⟩ v p ws++R)):
 bR 177 #[O b,U val] w w0 (lP c aw seq b vb pb sb H ⟨val,y,pc,st,wr,wt,i9,s,rc,rv⟩ v p ws++R):=by
 unfold lP iC at*;simp only[za]at*;unfold i9 at*;have HS:=aa (hS.new 28 [I 9,I 1,I 2,I 0,U 0]);have hB:=hS.ar 0 rfl;have f:=dM hH hB;have fl:=hB.lt;clear hS hB;delta bR;go_in;go_wp2_with fail;clear f fl;generalize World.alloc _ _=W1 at HS⊢;have hB:=(HS.ar 1 rfl).drew;have hI:=(HS.ar 0 rfl).drew;have i1:=hI.cell 1;have aR8:=hI.lt;have f:=dM hH hB;have g:=hB.az 36;have fl:=hB.lt;simp only[zg]at i1;have sk:=aa (HS.drew.set 1 rfl (1+35) (U val));simp only[zs,gd hH]at sk;clear hB hI;refine bW [(1,[0,1,2,3,4,5,6]),(3,[7])] (by kernel_rfl) ?_;simp only[zz];repeat(first|go_big_quiet_step(fail)|apply ax|apply af|apply ag|apply ah)
 refine ao ?_;go_wp2;refine aj ?_;go_wp2;go_end0;exact⟨rfl,sk.tail⟩
def kC {c:cA}(aE:Y.Ok c){kd i k:Int}(h1:Is c kd i k)(h7:7≤kd∧kd<16):Vw.inner c (at_ c kd i k)=true:=by
 unfold Vw.inner at_;rw[aB h1,lD aE h1];exact eP h7
def jd {c:cA}(aE:Y.Ok c):Vw.inner c (X.zR c)=true:=kC aE (by unfold Is cr aP each;simp) (by decide)
def zX {w0 w:World}{R:List a_}{c:cA}(aE:Y.Ok c){aw seq:Int}{b vb pb sb:Nat}{cv:Value}{args:List Int}{H:List Value}(hE:EH (ae c) cv args vb pb sb H){x y pc st wr s rc rv:Int}{wt:Bool}{v:Vw.V}{p:P.St}{ws:W.S}(hS:Sep w0 w (lP c aw seq b vb pb sb H ⟨x,y,pc,st,wr,wt,i9,s,rc,rv⟩ v p ws++R)):
 bR 193 #[O b,I (X.zR c)] w w0 (lP c aw seq b vb pb sb H ⟨if(W.get ws (X.zR c)).2 then(W.get ws (X.zR c)).1 else x,y,pc,st,wr,if(W.get ws (X.zR c)).2 then wt else true,i9,s,rc,rv⟩ (if(W.get ws (X.zR c)).2 then v else Vw.cell (X.zR c) v) p ws++R):=by
 have Qe:=aa (λw' val hS=>mP (w0:=w0) (w:=w') (R:=R) (c:=c) (aw:=aw) (seq:=seq) (b:=b) (vb:=vb) (pb:=pb) (sb:=sb) (H:=H) hE.len (x:=x) (y:=y) (pc:=pc) (st:=st) (wr:=wr) (wt:=wt) (s:=s) (rc:=rc) (rv:=rv) (v:=v) (p:=p) (ws:=ws) val hS);have UZ:=aa (λw' RR hS=>B8 (w0:=w0) (w:=w') (R:=RR) vb c aE aw seq v (X.zR c) (jd aE) hS);generalize X.zR c=a at*;obtain⟨g,k,hg⟩:∃g k,W.get ws a=(g,k):=⟨_,_,rfl⟩;have HG:=jo (hS.pull 3 rfl) a;rw[hg]at HG⊢;have HS:=aa hS;have hB:=hS.ar 0 rfl;have f31:=(fE hE.len hB (by decide)).trans hE.w;have fl:=hB.lt;clear hS hB hg;unfold lP iC at HS;simp only[za]at HS;delta bR;go_in;go_wp2_with fail;refine HG.mono ?_;rintro r w1 ⟨rfl,hf⟩;have HS:=aa (HS.c_ hf);clear hf f31 fl;dsimp only;cases k
 ·have hB:=HS.ar 0 rfl;have f29:=(fE hE.len hB (by decide)).trans hE.v;have fl:=hB.lt;clear hB;go_wp2_with fail;refine(HS.call 1 rfl (λR hR=>UZ.out _ _ hR)).kk λw2 h1=>?_;simp only[zs]at h1;have HS:=aa h1;clear h1 f29 fl;have hB:=HS.ar 0 rfl;have f:=dM hE.len hB;have g54:=hB.az 54;have fl:=hB.lt;have eH:=aa (HS.set 0 rfl (19+35) (.bool true));simp only[zs,gd hE.len]at eH;clear hB;go_wp2;go_end0;exact⟨rfl,eH.out⟩
 ·go_wp2_with fail;refine(Qe.out _ g HS.out).kh λw2 de=>?_;go_wp2;refine aV (fV rfl _ _ _) rfl ?_;exact⟨rfl,de.out⟩
def dw {w:World}{b:Nat}{T:TypeId}{cs H t:List Value}{cv:Value}{args:List Int}{vb pb sb:Nat}(aD:cs.length=24)(hE:EH cs cv args vb pb sb H)(h:cB w b T (H++t)):w.rangeAt b 0 cs:=λj u hj=>by
 have zM:j<24:=by rw[←aD];exact(dE.1 hj).1
 have:=(fE hE.len h (by omega)).trans ((hE.m j zM).trans hj);simpa using this
def eS (c:cA)(w:World):(Instr.field 31 (db c) 0).run Tryz.prog w= .ok (I c.t) w∧(Instr.field 31 (db c) 2).run Tryz.prog w= .ok (I c.w) w∧(Instr.field 31 (db c) 3).run Tryz.prog w= .ok (I c.f) w:=
 ⟨dW w _ _ _ _ _ _ _ underlying31 rfl underlying3 rfl rfl,dW w _ _ _ _ _ _ _ underlying31 rfl underlying3 rfl rfl,dW w _ _ _ _ _ _ _ underlying31 rfl underlying3 rfl rfl⟩
def aG {fp w0 b off cs}(h:w0.rangeAt b off cs)(hn:b∉fp):∀w',(∃x:rS fp w0,w'=x.wd)→w'.rangeAt b off cs:=by
 rintro _ ⟨x,rfl⟩ j v hj;exact x.fr.cell (h j v hj) hn
def qB {w0 w:World}{R:List a_}{c:cA}(aE:Y.Ok c){aw seq:Int}{b vb pb sb:Nat}{cv:Value}{args:List Int}{H:List Value}(hE:EH (ae c) cv args vb pb sb H){x y pc st wr a b' c' im s rc rv:Int}{wt:Bool}{v:Vw.V}{p:P.St}{ws:W.S}(tp:0≤wr)(hw:wr<c.w)(hS:Sep w0 w (lP c aw seq b vb pb sb H ⟨x,y,pc,st,wr,wt,⟨10,a,b',c',im⟩,s,rc,rv⟩ v p ws++R)):
 jh 189 #[O b] w (.bool true) w0 (lP c aw seq b vb pb sb H ⟨x,y,pc,st,wr+1,wt,⟨10,a,b',c',im⟩,s,rc,rv⟩ v p ws++R):=by
 have hw6:=aE.Jw;have hd:decide (c.w-wr<1)=false:=by simp;omega
 have sr:decide (1>c.w-wr)=false:=hd;have wg:=aa qA;unfold lP iC at*;simp only[za]at*;have HS:=aa hS;clear hS aE;have aD:(ae c).length=24:=rfl;have gF:=aa (λw=>bM w c);have fS:=aa (λw=>eS c w);unfold aY at*;generalize fB:db c=cf at*;clear fB;generalize ae c=cs at*;have hB:=HS.ar 0 rfl;have f:=dM hE.len hB;have fl:=hB.lt;clear hB;delta jh;go_in;go_wp2_with fail;refine(wg.out _).kq HS λw1 HS=>?_;clear f fl;go_wp2_with fail;have hB:=(HS.ar 0 rfl).drew;have f:=dM hE.len hB;have fl:=hB.lt;refine bW [(1,[0,1,2,3,4,7,8,9,10]),(2,[5]),(0,[6,11,12])] (by kernel_rfl) ?_;simp only[zz];refine af ?_;repeat(first|(refine ak 58 _ b 0 cs _ rfl rfl rfl (aG (dw aD hE hB) (by simp)) underlying58 rfl (by rw[aD];kernel_rfl) ?_;simp only[Act.put,aZ,aL,aN])|go_big_quiet_step (fail)|quiet_step (fail))
 refine ax ?_;refine aA ?_;go_wp2_with fail;refine(gF.out _).kf HS.dr λw2 HF HS=>?_;go_wp2;refine⟨⟨⟨_,(by exact HF.out)⟩,rfl⟩,?_⟩;have kB:=λw=>(fS.out w).2.1;repeat(first|go_big_quiet_step(fail)|apply ax|apply af|apply ag|apply ah)
 refine aj ?_;clear kB hB f fl HF;have hB:=HS.ar 0 rfl;have f:=dM hE.len hB;have g53:=hB.az 53;have fl:=hB.lt;have eH:=aa (HS.set 0 rfl (18+35) (I (wr+1)));simp only[zs,gd hE.len]at eH;clear hB;go_wp2;go_ret;exact⟨rfl,eH.out⟩
def zq21:(∀{w0 w:World}{R:List a_}{c:cA}(aE:Y.Ok c){aw seq:Int}{b vb pb sb:Nat}{cv:Value}{args:List Int}{H:List Value}(hE:EH (ae c) cv args vb pb sb H){x y pc st wr s rc rv:Int}{wt:Bool}{v:Vw.V}{p:P.St}{ws:W.S}(hS:Sep w0 w (lP c aw seq b vb pb sb H ⟨x,y,pc,st,wr,wt,i9,s,rc,rv⟩ v p ws++R)),bR 184 #[O b] w w0 (lP c aw seq b vb pb sb H ⟨if(W.get ws (X.zR c)).2 then(W.get ws (X.zR c)).1 else x,y,pc,st,wr,if(W.get ws (X.zR c)).2 then wt else true,i9,s,rc,rv⟩ (if(W.get ws (X.zR c)).2 then v else Vw.cell (X.zR c) v) p ws++R))∧(∀{w0 w:World}{R:List a_}{c:cA}(aE:Y.Ok c){aw seq:Int}{b vb pb sb:Nat}{cv:Value}{args:List Int}{H:List Value}(hE:EH (ae c) cv args vb pb sb H){x y pc st wr s rc rv:Int}{wt:Bool}{v:Vw.V}{p:P.St}{ws:W.S}(tp:0≤wr)(hw:wr<c.w)(hd:ws.done.length≤1000000)(hS:Sep w0 w (lP c aw seq b vb pb sb H ⟨x,y,pc,st,wr,wt,⟨10,1,2,0,0⟩,s,rc,rv⟩ v p ws++R)),bR 184 #[O b] w w0 (lP c aw seq b vb pb sb H ⟨x,y,pc,st,wr+1,wt,⟨10,1,2,0,0⟩,s,rc,rv⟩ v p (P.cU ws (X.zR c) x)++R)):=by
 refine⟨?_,?_⟩;focus
  intro w0 w R c aE aw seq b vb pb sb cv args H hE x y pc st wr s rc rv wt v p ws hS;have xT:=aa (λw' hS=>zX (w0:=w0) (w:=w') (R:=R) aE (aw:=aw) (seq:=seq) (b:=b) hE (x:=x) (y:=y) (pc:=pc) (st:=st) (wr:=wr) (wt:=wt) (s:=s) (rc:=rc) (rv:=rv) (v:=v) (p:=p) (ws:=ws) hS);generalize(if(W.get ws (X.zR c)).2 then(W.get ws (X.zR c)).1 else x)=x1 at*;generalize(if(W.get ws (X.zR c)).2 then wt else true)=wt1 at*;generalize(if(W.get ws (X.zR c)).2 then v else Vw.cell (X.zR c) v)=v1 at*;unfold i9 at*
 rotate_left;focus
  intro w0 w R c aE aw seq b vb pb sb cv args H hE x y pc st wr s rc rv wt v p ws tp hw hd hS;have zW:=aa (λw' hS=>qB (w0:=w0) (w:=w') (R:=R) aE (aw:=aw) (seq:=seq) (b:=b) hE (x:=x) (y:=y) (pc:=pc) (st:=st) (wr:=wr) (a:=1) (b':=2) (c':=0) (im:=0) (wt:=wt) (s:=s) (rc:=rc) (rv:=rv) (v:=v) (p:=p) (ws:=ws) tp hw hS)
 all_goals
  have h_:=aa (λw=>cx w c aE 10 0 0);have Uz:Hid (at_ c 10 0 0=X.zR c):=aa rfl;rw[Uz.out]at h_;unfold lP iC at*;simp only[za]at*;have HS:=aa hS;clear hS;unfold aY at*;have aD:(ae c).length=24:=rfl;generalize j8:ae c=cs at h_ hE aD;have qC:=aa j8;clear j8;have hB:=(HS.ar 0 rfl).drew;have f:=dM hE.len hB;have fl:=hB.lt;delta bR;go_in;go_wp2_with fail;refine bW [(1,[0,1,2,3,4,5,6,7,8,9,10])] (by kernel_rfl) ?_;simp only[zz];repeat(first|go_big_quiet_step(fail)|apply ax|apply af|apply ag|apply ah)
  refine aj ?_;have HS:=aa HS.drew;clear hB f fl;have hB:=(HS.ar 0 rfl);go_wp2_with(refine ay 58 _ rfl rfl _ 0 rfl cs _ (dw aD hE hB) underlying58 rfl (by rw[aD];kernel_rfl) ?_);refine(h_.out _).kq HS λw2 HS=>?_;clear hB;have hB:=HS.ar 0 rfl;have f:=dM hE.len hB;have fl:=hB.lt;go_wp2_with fail
 rotate_left;focus
  refine(xT.out _ HS.out).kh λw3 HS=>?_;go_wp2;go_end0
 rotate_left;focus
  clear hB f fl;refine(zW.out _ HS.out).kh λw3 HS=>?_;go_wp2_with fail;have hB:=(HS.ar 0 rfl).drew;have f31:=(fE hE.len hB (by decide)).trans hE.w;have f:=dM hE.len hB;have fl:=hB.lt;refine bW [(1,[0,1,2,3,4,5,6,7,8,9,10,11,12,13,14]),(3,[15])] (by kernel_rfl) ?_;simp only[zz];repeat(first|go_big_quiet_step(fail)|apply ax|apply af|apply ag|apply ah)
  refine ao ?_;go_wp2_with fail;refine(HS.drew.call 3 rfl (λR hR=>iz hR hd (X.zR c) x)).kk λw4 h1=>?_;simp only[zs]at h1;have HS:=aa h1;clear h1;go_wp2;refine aj ?_;go_wp2;refine aV (fV rfl _ _ _) rfl ?_
 rotate_left;all_goals
  exact⟨rfl,by rw[←qC.out];exact HS.out⟩
def L_:=@zq21.1
def Ma:=@zq21.2
def Ds (v:Int):W.U_ (IntKind.u64.wrap v):=by unfold W.U_;rw[ir];omega
structure ax3 (c:cA)(x:X.St):Prop where
 vs:Vw.VS x.v
 vv:W.U_ x.v.val
 nt:0≤x.p.nt∧x.p.nt≤c.b
 nl:0≤x.p.nl∧x.p.nl≤b_ c
 wu:W.ou x.w
 news:x.news=[]
 mrk:x.mark≤500000
structure aw5 (code:List In)(x:X.St):Prop where
 pc:ai0 code
 rc:x.rc=0
 rv:x.rv=0
 dn:(x.w.done.length:Int)≤x.mark
structure XG (c:cA)(code:List In)(x:X.St):Prop where
 xv:ax3 c x
 dn:(x.w.done.length:Int)≤x.mark+1
 rv:W.U_ x.rv
 z:x.s=0→aw5 code x∧x.v.s=0
def ap3:W.U_ 0:=⟨by decide,by decide⟩
def rh {c:cA}{code:List In}{x:X.St}(h:ax3 c x)(hb:aw5 code x)(args:List Int){r:Int}(hr:W.U_ r):XG c code (X.fin c code args r x):=by
 have hd:=hb.dn;have hp (u:Int):(P.cU x.w (X.zR c) u).done.length≤x.w.done.length+1:=W.mO _ _ _;unfold X.fin;split
 ·exact⟨{h with wu:=h.wu.put _ (Ds _)},by have:=hp (IntKind.u64.wrap (r+1));dsimp only;omega,Ds _,λe=>absurd e (by show¬(1:Int)=0;decide)⟩
 ·split
  ·exact⟨{h with wu:=h.wu.put _ (Ds _)},by have:=hp (IntKind.u64.wrap (args.getD 0 0+1));dsimp only;omega,Ds _,λe=>absurd e (by show¬(1:Int)=0;decide)⟩
  ·exact⟨{h with},by dsimp only;omega,hr,λe=>absurd e (by show¬(1:Int)=0;decide)⟩
def np {c:cA}{code:List In}{x:X.St}(h:ax3 c x)(hb:aw5 code x)(args:List Int):XG c code (X.look c code args x):=by
 have hd:=hb.dn;unfold X.look;split
 ·rename_i h0;exact⟨h,by omega,by rw[hb.rv];exact ap3,λ_=>⟨hb,h0⟩⟩
 ·split
  ·exact⟨{h with},by dsimp only;omega,by dsimp only;rw[hb.rv];exact ap3,λe=>absurd e (by show¬(2:Int)=0;decide)⟩
  ·exact rh h hb args h.vv
def lr (p:Int){v:Vw.V}(h:W.U_ v.val):W.U_ (Vw.cell p v).val:=by
 unfold Vw.cell;split
 ·exact h
 ·exact ap3
def vF (seq v n:Int)(hv:W.U_ v){z:Vw.V}(h:W.U_ z.val):W.U_ (Vw.tell seq v n z).val:=by
 unfold Vw.tell;split
 ·split
  ·exact h
  ·exact hv
 ·exact h
def XG.new {c:cA}{code:List In}(hp:sJ code)(args:List Int){v:Vw.V}{p:P.St}{s:W.S}(hd:s.done.length≤500000)(NX:W.ou s)(hs:Vw.VS v)(hv:W.U_ v.val)(mY:0≤p.nt∧p.nt≤c.b)(kA:0≤p.nl∧p.nl≤b_ c):XG c code (X.new c code args v p s):=by
 have h:ax3 c (X.eB v p s):=⟨hs,hv,mY,kA,NX,rfl,by show(s.done.length:Int)≤500000;omega⟩;unfold X.new;split
 ·exact⟨{h with},by show(s.done.length:Int)≤s.done.length+1;omega,ap3,λe=>absurd e (by show¬(1:Int)=0;decide)⟩
 ·rename_i hc;have hb:aw5 code (X.eB v p s):=⟨hp.resolve_left hc,rfl,rfl,iu _⟩;split
  ·exact rh h hb args (NX.get _)
  ·exact np (x:={X.eB v p s with v:=Vw.cell (X.zR c) v}) {h with vs:=hs.cell _,vv:=lr _ hv} {hb with} args
def XG.told {c:cA}{code:List In}{x:X.St}(h:XG c code x)(seq:Int){v:Int}(n:Int)(hv:W.U_ v):ax3 c {x with v:=Vw.tell seq v n x.v}:={h.xv with vs:=h.xv.vs.tell _ _ _,vv:=vF seq v n hv h.xv.vv}
def XG.tell {c:cA}{code:List In}(args:List Int){x:X.St}(h:XG c code x)(seq v n:Int)(hv:W.U_ v):XG c code (X.tell c code args seq v n x):=by
 unfold X.tell;split
 ·exact h
 ·rename_i hs;exact np (h.told seq n hv) {(h.z (by omega)).1 with} args
def lx (c:cA)(code:List In)(args:List Int)(r:Int)(x:X.St):(X.fin c code args r x).mark=x.mark:=by
 unfold X.fin;split
 ·rfl
 ·split<;>rfl
def jG (c:cA)(code:List In)(args:List Int)(x:X.St):(X.look c code args x).mark=x.mark:=by
 unfold X.look;split
 ·rfl
 ·split
  ·rfl
  ·exact lx _ _ _ _ _
def Su (c:cA)(code:List In)(args:List Int)(v:Vw.V)(p:P.St)(s:W.S):(X.new c code args v p s).mark=s.done.length:=by
 unfold X.new;split
 ·rfl
 ·split
  ·exact lx _ _ _ _ _
  ·exact jG _ _ _ _
def eK (c:cA)(code:List In)(args:List Int)(seq v n:Int)(x:X.St):(X.tell c code args seq v n x).mark=x.mark:=by
 unfold X.tell;split
 ·rfl
 ·exact jG _ _ _ _
end Go.Proofs.YtolkmchicplaoaaGreat
namespace Go.Proofs.YtolkmchicplaoaaGreat
open Go.RowKit Go.aS Go.aS.I_ Go.aS.Y Go.Maps
def R0 (v:Value):Option (DataW Unit×List MemPlace):=none
def S2 (b:Nat):a_ where
 P w fp:=fp=[b]∧w.ownsMap Tryz.prog 26 R0 b 0 (.map [])
 fr h f hn:=⟨h.1,qY h.2 f (hn _ (by simp[h.1]))⟩
 lt h:=by rw[h.1];simpa using h.2.lt
def PQ {w:World}{b:Nat}(h:w.ownsMap Tryz.prog 26 R0 b 0 (.map [])):∃clock,w.heap[b]?=some (.map #[] clock)∧Go.WideElems.Fit Tryz.prog 26 R0 #[] clock:=by
 obtain⟨es,clock,hb,F,hs,hD⟩:=h;have e:es=#[]:=by
  apply Array.eq_empty_of_size_eq_zero;omega
 subst e;exact⟨clock,hb,F⟩
def Bf (mb:Nat)(roots:List Int):List Value:=roots.map (Value.int .u64)++[.map (some mb)]
def rA (sb:Nat)(roots:List Int):a_:=EG λmb=>ie (roots.length=16) (t_ (aJ sb 136 (Bf mb roots)) (S2 mb))
def lQ {w0 w R sb roots}(h:Sep w0 w (rA sb roots::R)):∃mb,roots.length=16∧Sep w0 w (aJ sb 136 (Bf mb roots)::S2 mb::R):=by
 obtain⟨mb,h1⟩:=h.rZ;obtain⟨h2,h3⟩:=h1.jn;exact⟨mb,h2,h3.vf⟩
def pX {w0 w R sb mb roots}(hl:roots.length=16)(h:Sep w0 w (aJ sb 136 (Bf mb roots)::S2 mb::R)):Sep w0 w (rA sb roots::R):=
 Sep.qX (A:=Nat) (λmb=>ie (roots.length=16) (t_ (aJ sb 136 (Bf mb roots)) (S2 mb))) (a:=mb) (Sep.iK (Sep.sy h) hl)
def zN {mb roots k}(hk:k<roots.length):(Bf mb roots)[k]?=some (U (roots.getD k 0)):=by
 unfold Bf;rw[gm (by simpa using hk),jE,cy hk,cO,cy hk];rfl
def vC {mb roots}(hl:roots.length=16):(Bf mb roots)[16]?=some (.map (some mb)):=by
 unfold Bf;rw[gw (by simp[hl]),dD,hl];rfl
def P3 {mb:Nat}{roots:List Int}:∀v∈Bf mb roots,v.oneCell'=true:=by
 unfold Bf;intro v hv;rcases jQ.1 hv with h|h
 ·rw[mE]at h;obtain⟨x,_,rfl⟩:=h;rfl
 ·rw[jO]at h;subst h;rfl
def uk {w0 w Ts}(h:Sep w0 w Ts)(i:Nat){b:Nat}(hi:Ts[i]?=some (S2 b)):w.ownsMap Tryz.prog 26 R0 b 0 (.map []):=by
 obtain⟨fp,hp,_⟩:=h.get i hi;exact hp.2
def wW {w0 w Ts}(h:Sep w0 w Ts):Sep w0 (w.alloc (.map #[] 0)) (S2 w.heap.size::Ts):=
 h.push ((Fr.refl [] w).alloc _) (fp:=[w.heap.size]) ⟨rfl,World.ownsMap_made w _ _ _⟩ (by simp)
def E5 (w):Calls Tryz.prog 30 #[] w λr w'=>∃sb,r= .returned (O sb)∧Sep w w' [rA sb (List.replicate 16 0)]:=by
 have h1:=wW (Sep.nil (Fr.refl [] w));have h2:=h1.new 136 (Bf w.heap.size (List.replicate 16 0));have h3:=pX (mb:=w.heap.size) rfl h2;simp only[cG]at h3;have HS:=aa h3;clear h1 h2 h3;have Lx:=@run_makeMap Tryz.prog;go_wp2;go_ret;exact⟨_,rfl,HS.out⟩
def LG {w0 w R}{sb:Nat}{roots:List Int}(hS:Sep w0 w (rA sb roots::R))(k:Nat)(hk:k<16):
 ba 36 #[O sb,I (k:Int)] w (U (roots.getD k 0)):=by
 obtain⟨mb,hl,h⟩:=lQ hS;have f:=((h.ar 0 rfl).cell k).trans (zN (by omega));have HF:=aa (Fr.refl [] w);clear hS h;generalize roots.getD k 0=q at*;have d1:decide ((k:Int)<0)=false:=cW (by omega);have d2:decide ((16:Int)≤(k:Int))=false:=cW (by omega);have d3:(k:Int)<16:=by omega
 delta ba;go_in;go_wp2;go_ret;exact⟨rfl,HF.out⟩
def Dk {w b}(h1:w.ownsMap Tryz.prog 26 R0 b 0 (.map [])):Calls Tryz.prog 122 #[.map (some b)] w λr w'=>∃nb,r= .returned (.map (some nb))∧eZ w w' (S2 nb):=by
 obtain⟨clock,hb,F⟩:=PQ h1;have hw:eZ w (w.alloc (.map #[] clock)) (S2 w.heap.size):=⟨(Fr.refl [] w).alloc _,[w.heap.size],⟨rfl,#[],clock,(MapKept.heap_alloc w _).1,F,dp _,rfl⟩,by simp⟩;have HS:=aa hw;have HB:=aa hb;clear h1 F hw hb;have hq:=λw=>run_eql_map_nil_sl (P:=Tryz.prog) w 133 _ _ (some b) underlying133;go_wp2;rw[run_callFunc_extern Tryz.func149 (by kernel_rfl) (by kernel_rfl) (by kernel_rfl) (e:=Extern.MapsClone.clone) (by kernel_rfl),run_maps_clone_sl w 133 HB.out];simp only[Result.andThen];rw[Oper.upon_value];go_wp2;rw[run_typeAssert_map_sl _ 133 _ _ _ _ underlying133];simp only[Result.andThen];rw[Oper.upon_value];go_wp2;go_ret;exact⟨_,rfl,HS.out⟩
def Ht {w0 w R sb roots}(hS:Sep w0 w (rA sb roots::R)):
 Calls Tryz.prog 97 #[O sb] w λr w'=>∃nb,r= .returned (O nb)∧Sep w0 w' (rA nb roots::rA sb roots::R):=by
 obtain⟨mb,hl,h⟩:=lQ hS;have HC:=aa (λw' h=>Dk (w:=w') (b:=mb) h);have dQ:=aa (λw' RR sb mb hS=>pX (w0:=w0) (w:=w') (R:=RR) (sb:=sb) (mb:=mb) (roots:=roots) hl hS);obtain⟨r0,r1,r2,r3,r4,r5,r6,r7,r8,r9,u6,tF,tG,B_,Ca,Cb,rfl⟩:∃r0 r1 r2 r3 r4 r5 r6 r7 r8 r9 u6 tF tG B_ Ca Cb,roots=[r0,r1,r2,r3,r4,r5,r6,r7,r8,r9,u6,tF,tG,B_,Ca,Cb]:=by
  match roots,hl with
  |[r0,r1,r2,r3,r4,r5,r6,r7,r8,r9,u6,tF,tG,B_,Ca,Cb],_=>exact⟨_,_,_,_,_,_,_,_,_,_,_,_,_,_,_,_,rfl⟩
 unfold Bf at*;simp only[zm,za]at*;have HS:=aa h;clear hS h hl;have hB:=HS.drew.ar 0 rfl;have hr:w.drew.rangeAt sb 0 [U r0,U r1,U r2,U r3,U r4,U r5,U r6,U r7,U r8,U r9,U u6,U tF,U tG,U B_,U Ca,U Cb]:=λj u hj=>by
  have:=(hB.cell j).trans (show _=some u from ?_)
  ·simpa using this
  ·have zM:j<16:=(dE.1 hj).1;rw[←hj]
   match j,zM with
   |0,_|1,_|2,_|3,_|4,_|5,_|6,_|7,_|8,_|9,_|10,_|11,_|12,_|13,_|14,_|15,_=>rfl
 have f16:=hB.cell 16;simp only[zg]at f16;go_in;go_wp2_with fail;refine bW [(1,[0,1,2,3,4,5,6,7]),(2,[8]),(0,[9]),(3,[10]),(0,[11])] (by kernel_rfl) ?_;simp only[zz];refine af ?_;repeat(first|(refine ak 134 _ sb 0 [U r0,U r1,U r2,U r3,U r4,U r5,U r6,U r7,U r8,U r9,U u6,U tF,U tG,U B_,U Ca,U Cb] _ rfl rfl rfl (aG hr (by simp)) underlying134 rfl (by kernel_rfl) ?_;simp only[Act.put,aZ,zs])|go_big_quiet_step (fail)|quiet_step (fail))
 refine ax ?_;repeat(first|go_big_quiet_step(fail)|apply ax|apply af|apply ag|apply ah)
 refine aA ?_;go_wp2_with fail;refine(HC.out _ (uk HS.drew 1 rfl)).mono ?_;rintro r w3 ⟨nb,rfl,UE⟩;have HF:=aa UE.fr;have HS:=aa (HS.drew.fresh UE);clear UE f16 hr hB;go_wp2;refine⟨⟨⟨_,(by exact HF.out)⟩,rfl⟩,?_⟩;clear HF;repeat(first|go_big_quiet_step(fail)|apply ax|apply af|apply ag|apply ah)
 refine ao ?_;go_wp2_with fail;repeat(first|go_big_quiet_step(fail)|apply ax|apply af|apply ag|apply ah)
 refine aj ?_;have HS:=aa (HS.new 136 [U r0,U r1,U r2,U r3,U r4,U r5,U r6,U r7,U r8,U r9,U u6,U tF,U tG,U B_,U Ca,U Cb,.map (some nb)]);go_wp2;go_ret;refine⟨_,rfl,?_⟩;have h1:=dQ.out _ _ _ _ HS.out;have h2:=dQ.out _ _ _ _ (((h1.pull 1 rfl).pull 2 rfl).pull 1 rfl);exact h2.pull 1 rfl
end Go.Proofs.YtolkmchicplaoaaGreat
namespace Go.Proofs.YtolkmchicplaoaaGreat
open Go.RowKit Go.aS Go.aS.I_ Go.aS.Y Go.Maps Go.Sort Go.Shelf
def Y2 (x:Int):Value:=U x
def E6 (F:Fence)(n)(oo:F.fn 121)(um:F.round=none)(l Bm b)(J:List Int→World→Prop)(W)(hJ:AbidesFrom W.heap.size J)
 (hm:W.cell? ⟨Bm,0,none⟩=some (.map (some b)))(dy:W.ownsMap Tryz.prog 26 R0 b 0 (.map []))(h0:J [] W):
 CallsIn F n Tryz.prog 121 #[.func (.yield l) #[] #[],.pointer (some ⟨Bm,0,none⟩)] W λe W'=>(∃v,e= .returned v)∧J [] W':=by
 refine callsIn_of_wp Tryz.func121 rfl oo ?_ um;simp only[Tryz.ntmps121,List.size_toArray,dT,mD,Nat.reduceAdd,Nat.reduceSub,Array.replicate_succ,Array.replicate_zero,List.push_toArray,List.append_toArray,za]
 gi_wp2_with (first
  |(gi_at_range;refine wpListIn_range_own _ rfl _ 133 rfl 26 160 (int_keyed underlying26) underlying133 _ b 0 _ rfl dy ?_;intro w0 PS nP wK)
  |gi_in)
 refine wpIn_loop_rounds 1 ?_;rw[roundsIn_succ]
 gi_wp2_with (first
  |(gi_at_next;refine wpListIn_next_ranges _ rfl _ rfl 26 (int_keyed underlying26) R0 Y2 id (λkey kl hk=>by obtain⟨x,hx,_⟩:=Maps.keyOf_int_inv underlying26 hk;exact⟨x,hx⟩) (λv _ _=>⟨v,rfl⟩) b W.heap.size 0 _ _ _ rfl PS ?_ ?_)
  |gi_in)
 ·intro Da S3
  gi_wp2
  go_end0;exact⟨⟨_,rfl⟩,hJ [] W w0 none h0 nP (λr e=>by cases e)⟩
 ·intro x c kl yd yp w' aq1 _ _ _ _ _ tH;exact absurd tH (by show¬aq1<0;omega)
structure ApAt (w0:World)(L:Loop)(l D:Nat)(ss:List Int)(W:World):Prop where
 L:W.heap[l]?=some (.loop L)
 K:W.heap[D]?=some (.deferred (some []))
 below:Below w0.heap.size w0 W
def ap_abides (w0)(L:Loop)(l D B)(hB:w0.heap.size≤B):AbidesFrom B (ApAt w0 L l D):=λs W W' row h hg qz=>by
 have W8:∀r,row=some r→∃o:Obj,W.heap[r]?=some o∧o.isWalk=true:=λr e=>(qz r e).2;exact⟨(grownBy_keeps hg W8 h.L rfl).trans h.L,(grownBy_keeps hg W8 h.K rfl).trans h.K,
  h.below.grown hg h.below.size (λk e=>fT hB (qz k e).1)⟩
def yz {n P}{g:Operand}{ps:Array Tmp}{assign body:Code}{Q:Exit→Act→World→Prop}{a w}(f)(lb:Array Value)(hg:a.eval g= .func (.func f) #[] lb)
 (eg:∀args w,(callFunc f args).run P w= .ok (.enter f args) w)
 (ah1:∀(l:Nat) (J:List Int→World→Prop) (W:World),Below w.heap.size w W→AbidesFrom W.heap.size J→J [] W→CallsIn Fence.wide n P f (#[.func (.yield l) #[] #[]]++lb) W λe W'=>(∃v,e= .returned v)∧J [] W')
 (hQ:∀W3 D,Below w.heap.size w W3→W3.heap[D]?=some (.deferred (some []))→w.heap.size≤D→Q .normal {a with defers:=[{target:= .collected D,args:=#[]}]++a.defers} W3):
 (Code.rangeFunc g ps assign body).wpIn Fence.wide (n+1) P Q a w:=by
 refine wpIn_rangeFunc ?_;intro fn hfn;obtain⟨LR,UL⟩:∃LR:Loop,LR={state:= .ready,pending:=none,fn,tmps:=a.tmps,params:=ps,assign:=assign,body:=body,defers:=w.heap.size}:=⟨_,rfl⟩;obtain⟨W1,LH⟩:∃W1,(w.alloc (.deferred (some []))).alloc (.loop LR)=W1:=⟨_,rfl⟩;have nU:Below w.heap.size w W1:=by rw[←LH];exact((Below.refl _ w).alloc (dp _) _).alloc (by simp) _
 have JH:W1.heap.size=w.heap.size+2:=by rw[←LH];simp
 have hM:ApAt w LR (w.heap.size+1) w.heap.size [] W1:=
  ⟨by rw[←LH];have:=World.alloc_heap_new (w.alloc (.deferred (some []))) (.loop LR);rwa [cG]at this,
   by rw[←LH];exact(Below.heap_alloc _ _ _ (by simp)).trans (World.alloc_heap_new w _),nU⟩
 refine⟨w.heap.size+1,[{target:= .collected w.heap.size,args:=#[]}],W1,{target:= .fn (.func f) lb,args:=#[.func (.yield (w.heap.size+1)) #[] #[]]},W1,f,
  #[.func (.yield (w.heap.size+1)) #[] #[]]++lb,W1,?_,?_,?_,?_,λh=>(by cases h),?_⟩
 ·rw[←LH,UL];exact run_enterLoop_outer _ _ _ _ _
 ·unfold rangeCall resolve;dsimp only;rw[hg];simp[go_sem]
 ·intro f' Cc;trivial
 ·simp[invoke,go_sem,eg]
 ·refine(ah1 (w.heap.size+1) (ApAt w LR (w.heap.size+1) w.heap.size) W1 nU (ap_abides w LR _ _ _ nU.size) hM).mono ?_;rintro e W2 ⟨⟨v0,rfl⟩,h2⟩;have LJ:=run_endLoop (P:=P) h2.L (by rw[UL];exact λe=>by cases e);rw[show LR.pending=none by rw[UL]]at LJ;refine⟨none,_,LJ,?_⟩;exact hQ _ _ (h2.below.grown (grownBy_putObj_a _ _ _) h2.below.size (λk e=>by cases e;omega)) ((World.putObj_heap_other (by omega)).trans h2.K) (dp _)
def yA (w Bm b)(H6:Bm<w.heap.size)(hm:w.cell? ⟨Bm,0,none⟩=some (.map (some b)))(dy:w.ownsMap Tryz.prog 26 R0 b 0 (.map [])):
 Calls Tryz.prog 146 #[.slice none 0 0,.func (.func 121) #[] #[.pointer (some ⟨Bm,0,none⟩)]] w λe w'=>e= .returned (.slice none 0 0)∧Below w.heap.size w w':=by
 refine(callsIn_wide (n:=6)).1 ?_;have eg:Enters Tryz.prog 121:=enters_of Tryz.func121 (by kernel_rfl) rfl;refine callsIn_of_wp_marks Tryz.func146 rfl trivial ?_ rfl;simp only[Tryz.ntmps146,List.size_toArray,dT,mD,Nat.reduceAdd,Nat.reduceSub,Array.replicate_succ,Array.replicate_zero,List.push_toArray,List.append_toArray,za]
 gi_wp2
 obtain⟨W0,NP⟩:∃W0,w.alloc (.cells #[.slice none 0 0] 49)=W0:=⟨_,rfl⟩;have wK:W0.heap.size=w.heap.size+1:=by rw[←NP];simp
 have E7:W0.heap[w.heap.size]?=some (.cells #[.slice none 0 0] 49 (0,0)):=by rw[←NP];exact World.alloc_heap_new w _
 have UK:Below w.heap.size w W0:=by rw[←NP];exact(Below.refl _ w).alloc (dp _) _
 rw[NP];refine yz (n:=5) 121 #[O Bm] rfl eg (λl J W hW hJ h0=>?_) (λW3 D H8 Bt hD=>?_)
 ·have hWb:=UK.trans (hW.mono UK.size);have ah2:W.ownsMap Tryz.prog 26 R0 b 0 (.map []):=by
   have Ej:=dy.lt;obtain⟨es,clock,hb,Ft,hs,hD⟩:=dy;exact⟨es,clock,(hWb.block b Ej).trans hb,Ft,hs,hD⟩
  exact E6 Fence.wide 5 trivial rfl l Bm b J W hJ ((hWb.cell (p:=⟨Bm,0,none⟩) H6).trans hm) ah2 h0
 ·have OV:W3.heap[w.heap.size]?=some (.cells #[.slice none 0 0] 49 (0,0)):=(H8.block w.heap.size (by omega)).trans E7;obtain⟨W9,nW⟩:=cell_of_box_a OV
  gi_wp2
  refine⟨by simp,.inl ⟨_,_,rfl,run_takeDeferred Bt,?_⟩⟩;exact⟨_,results_tmp rfl _ _ _,rfl,UK.trans (H8.mono UK.size)|>.grown (grownBy_putObj_a _ _ _) (UK.trans (H8.mono UK.size)).size (λk e=>by cases e;omega)⟩
def Bg (w Bm b)(H6:Bm<w.heap.size)(hm:w.cell? ⟨Bm,0,none⟩=some (.map (some b)))(dy:w.ownsMap Tryz.prog 26 R0 b 0 (.map [])):
 ba 119 #[.func (.func 121) #[] #[.pointer (some ⟨Bm,0,none⟩)]] w (.slice none 0 0):=by
 have HC:=aa (yA w Bm b H6 hm dy);clear hm dy;delta ba;go_in;go_wp2_with fail;refine HC.out.mono ?_;rintro r w1 ⟨rfl,hb⟩;have HF:=aa (Fr.N9 hb []);clear hb;go_wp2;go_ret;exact⟨rfl,HF.out⟩
def Hu (w):ba 170 #[U 0] w (I 0):=by
 have HF:=aa (Fr.refl [] w);delta ba;go_in;go_wp2;go_ret;exact⟨by kernel_rfl,HF.out⟩
def LM (w):ba 148 #[U 0] w (I 0):=by
 have HL:=aa Hu;delta ba;go_in;go_wp2_with fail;refine(HL.out _).kh λw1 HF=>?_;go_wp2;go_ret;exact⟨rfl,HF.out⟩
def Bh (w):ba 160 #[.slice none 0 0,I 0,I 0] w (.tuple #[]):=by
 have HF:=aa (Fr.refl [] w);delta ba;go_in;go_wp2_with fail;refine gQ 1 ?_;rw[dA];go_wp2;go_end0;exact⟨rfl,HF.out⟩
def Hv (w l):ba 147 #[.slice none 0 0,I 0,I 0,I l] w (.tuple #[]):=by
 have HI:=aa Bh;delta ba;go_in;go_wp2_with fail;refine gQ 1 ?_;rw[dA];go_wp2_with fail;refine(HI.out _).kh λw1 HF=>?_;go_wp2;refine aV (fV rfl _ _ _) rfl ?_;exact⟨rfl,HF.out⟩
def E8 (w):ba 120 #[.slice none 0 0] w (.tuple #[]):=by
 have HL:=aa LM;have HP:=aa Hv;delta ba;go_in;go_wp2_with fail;refine(HL.out _).kh λw1 HF=>?_;go_wp2_with fail;refine(HP.out _ _).kk λw2 hf=>?_;have HF:=aa (HF.trans hf);clear hf;go_wp2;go_end0;exact⟨rfl,HF.out⟩
def Dl (w Bm b)(H6:Bm<w.heap.size)(hm:w.cell? ⟨Bm,0,none⟩=some (.map (some b)))(dy:w.ownsMap Tryz.prog 26 R0 b 0 (.map [])):
 ba 95 #[.func (.func 121) #[] #[.pointer (some ⟨Bm,0,none⟩)]] w (.slice none 0 0):=by
 have HC:=aa (Bg w Bm b H6 hm dy);have HT:=aa E8;clear hm dy;delta ba;go_in;go_wp2_with fail;refine HC.out.mono ?_;rintro r w1 ⟨rfl,hf⟩;have HF:=aa hf;clear hf;go_wp2_with fail;refine(HT.out _).kk λw2 hf=>?_;have HF:=aa (HF.trans hf);clear hf;go_wp2;go_ret;exact⟨rfl,HF.out⟩
def LN (w b):Calls Tryz.prog 96 #[.map (some b)] w λe w'=>e= .returned (.func (.func 121) #[] #[O w.heap.size])∧w'=w.alloc (.cells #[.map (some b)] 133):=by
 go_wp2;go_ret;exact⟨rfl,rfl⟩
def E9 {w0 w R sb roots}(hS:Sep w0 w (rA sb roots::R)):
 ba 65 #[O sb] w (.slice none 0 0):=by
 obtain⟨mb,hl,h⟩:=lQ hS;have f:=(h.ar 0 rfl).aT 16 (vC hl);have he:=uk h 1 rfl;have HK:=aa (λw'=>LN w' mb);have hB:=cB.new w 133 [.map (some mb)];have HF:=aa ((Fr.refl [] w).alloc (.cells #[.map (some mb)] 133));have HT:=aa (Dl (w.alloc (.cells #[.map (some mb)] 133)) w.heap.size mb (by simp) ((hB.cell 0).trans rfl) (he.alloc _));clear hS h he hB;delta ba;go_in;go_wp2_with fail;refine(HK.out _).mono ?_;rintro r w1 ⟨rfl,rfl⟩;go_wp2_with fail;refine HT.out.mono ?_;rintro r w2 ⟨rfl,hf⟩;have HF:=aa (HF.trans hf);clear hf;go_wp2;go_ret;exact⟨rfl,HF.out⟩
end Go.Proofs.YtolkmchicplaoaaGreat
namespace Go.Proofs.YtolkmchicplaoaaGreat
open Go.RowKit Go.aS Go.aS.I_ Go.aS.Y Go.Maps
def zO (w){xs:Array Value}:∀(is:List Nat),(∀i∈is,∃x:Int,xs[i]?=some (U x))→(Op.eqItems (9998+1) 26 1 xs xs is).run Tryz.prog w= .ok true w
 |[],_=>by simp[Op.eqItems]
 |i::is,h=>by
  obtain⟨x,hx⟩:=h i List.mem_cons_self;have ih:=zO w is (λj hj=>h j (oB _ hj));have he:Tryz.prog.plainKey 26=true:=by kernel_rfl
  have hp:=run_part_plain (w:=w) he (off:=i) hx;have h4:=underlying26;have hq:(Op.equalIn (9998+1) 26 (U x) (U x)).run Tryz.prog w= .ok true w:=by rw[run_equalIn_int w 9998 26 .u64 .u64 x x h4];simp
  unfold Op.eqItems;rw[lj];simp only[lh,hp,hq,oD];simpa using ih
def zP (w)(roots:List Int)(hl:roots.length=16):(binOp .eql 134 (.agg (roots.map (Value.int .u64)).toArray) (.agg (roots.map (Value.int .u64)).toArray)).run Tryz.prog w= .ok (.bool true) w:=by
 have h1:=underlying134;have h4:=underlying26;obtain⟨i,hi⟩:=info_of_underlying h4;have hc:Tryz.prog.cellsOf 26=1:=by kernel_rfl
 have he:∀a b,Op.equal 134 a b=Op.equalIn (9999+1) 134 a b:=λ_ _=>rfl;have h5:=zO w (xs:=(roots.map (Value.int .u64)).toArray) (List.range 16) (λi hi=>by
  have:i<roots.length:=by rw[hl];exact oF.1 hi
  exact⟨roots[i],by simp[this]⟩)
 have h6:=run_equalIn_array (P:=Tryz.prog) w 9999 (roots.map (Value.int .u64)).toArray (roots.map (Value.int .u64)).toArray h1 hi;rw[hc]at h6;simp only[binOp];rw[he,lh,h6,h5];rfl
def Dm (w a b)(h1:w.ownsMap Tryz.prog 26 R0 a 0 (.map []))(h2:w.ownsMap Tryz.prog 26 R0 b 0 (.map [])):
 ba 74 #[.map (some a),.map (some b)] w (.bool true):=by
 have l1:=λty=>h1.len (t:=133) underlying133 ty;have l2:=λty=>h2.len (t:=133) underlying133 ty;have e0:Maps.size (.map []:DataW Unit)=0:=rfl;rw[e0]at l1 l2;have K:=int_keyed (P:=Tryz.prog) underlying26;delta ba;go_in;go_wp2_with(first
  |(at_range;refine wpList_range_own _ rfl _ 133 rfl 26 160 K underlying133 R0 a 0 _ rfl h1 ?_;intro w0 PS nP wK))
 refine gQ 1 ?_;rw[dA];go_wp2_with(refine wpList_next_ranges _ rfl _ rfl 26 K R0 Y2 id (λkey kl hk=>by obtain⟨x,hx,_⟩:=Maps.keyOf_int_inv underlying26 hk;exact⟨x,hx⟩) (λv _ _=>⟨v,rfl⟩) a w.heap.size 0 _ _ _ rfl PS ?_ ?_);intro S3;go_wp2;go_ret;exact⟨rfl,(Fr.refl [] w).grown nP (λk e=>by cases e)⟩
def LO {w0 w R a b roots}(hS:Sep w0 w (rA a roots::rA b roots::R)):
 ba 37 #[O a,O b] w (.bool true):=by
 obtain⟨ma,hl,h⟩:=lQ hS;obtain⟨mb,_,h⟩:=lQ (h.pull 2 rfl);have HE:=aa (λw=>zP w roots hl);have Y3:=h.drew;have HQ:=aa (Dm w.drew ma mb (uk Y3 3 rfl) (uk Y3 1 rfl));have rz:w.drew.rangeAt a 0 (roots.map (Value.int .u64)):=λj u hj=>by
  have:=((Y3.ar 2 rfl).cell j).trans (show _=some u from by unfold Bf;rw[gm (dE.1 hj).1];exact hj);simpa using this
 have oe:w.drew.rangeAt b 0 (roots.map (Value.int .u64)):=λj u hj=>by
  have:=((Y3.ar 0 rfl).cell j).trans (show _=some u from by unfold Bf;rw[gm (dE.1 hj).1];exact hj);simpa using this
 have fa:=(Y3.ar 2 rfl).aT 16 (vC hl);have fb:=(Y3.ar 0 rfl).aT 16 (vC hl);have rR:(roots.map (Value.int .u64)).length=16:=by simp[hl]
 have HF:=aa (Fr.refl [] w).drew;generalize roots.map (Value.int .u64)=rv at*;clear hS h Y3 hl;delta ba;go_in;go_wp2_with fail;have heq:∀w,(binOp .eql 134 (.agg rv.toArray) (.agg rv.toArray)).run Tryz.prog w= .ok (.bool true) w:=HE.out;refine bW [(1,[0,1,2,3,4,5,6,7,8,9,10,11,12,13,14,15,16,17]),(3,[18]),(0,[19,20])] (by kernel_rfl) ?_;simp only[zz];refine af ?_;repeat(first|(refine ak 134 _ a 0 rv _ rfl rfl rfl (aG rz (by simp)) underlying134 rfl (by rw[rR];kernel_rfl) ?_;simp only[Act.put,aZ,aL,aN])|(refine ak 134 _ b 0 rv _ rfl rfl rfl (aG oe (by simp)) underlying134 rfl (by rw[rR];kernel_rfl) ?_;simp only[Act.put,aZ,aL,aN])|go_big_quiet_step (fail)|quiet_step (fail))
 refine ax ?_;repeat(first|go_big_quiet_step(fail)|apply ax|apply af|apply ag|apply ah)
 refine ao ?_;go_wp2_with fail;refine HQ.out.mono ?_;rintro r w1 ⟨rfl,hf⟩;have HF:=aa (HF.trans hf);clear hf;go_wp2_with fail;repeat(first|go_big_quiet_step(fail)|apply ax|apply af|apply ag|apply ah)
 refine aj ?_;go_wp2;go_ret;exact⟨rfl,HF.out⟩
