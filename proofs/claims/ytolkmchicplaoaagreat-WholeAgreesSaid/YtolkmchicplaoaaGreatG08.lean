/- A part of the proof. -/
import Derived.Test.YtolkmchicplaoaaGreatG07
set_option linter.all false
set_option maxHeartbeats 8000000
set_option maxRecDepth 100000
open Go.Proofs.Tryz
namespace Go.Proofs.YtolkmchicplaoaaGreat
open Go.RowKit Go.aS Go.aS.I_ Go.aS.Y
def gW (nv:Value)(r:B.Row):List Value:=[I r.aw,U r.tag,I r.rc,U r.rv,nv]
def oW (v:Value)(L:List B.Row):a_:=Ab 178 26 5 gW B.Row.news v L
def jL (H:List Value)(c:cA)(aw seq:Int)(b vb pb sb:Nat)(xp rv:Value)(y:B.St):List a_:=
 [aJ b 231 (H++ji xp rv y.args y),oW rv y.rows,aJ vb 258 (Vw.eU (ae c) aw seq y.x.v),bE c seq pb y.x.p,cw sb y.x.w]
def zq26:(∀{w0 w R c}(aE:Y.Ok c){H aw seq b vb pb sb pv xp rv}(hE:BH (ae c) pv vb pb sb H){y}(bX:y.args.length=4)(hu:0≤y.u∧y.u≤8)(hl:¬y.u+1=c.t)(hS:Sep w0 w (jL H c aw seq b vb pb sb xp rv y++R)),bR 232 #[O b] w w0 (jL H c aw seq b vb pb sb xp rv {y with u:=y.u+1,next:=1}++R))∧(∀{w0 w:World}{R:List a_}{c:cA}(aE:Y.Ok c){H:List Value}{aw seq:Int}{b vb pb sb:Nat}{pv xp rv:Value}(hE:BH (ae c) pv vb pb sb H){y:B.St}(bX:y.args.length=4)(hu:0≤y.u∧y.u≤8)(hl:y.u+1=c.t)(mY:0≤y.x.p.nt∧y.x.p.nt≤c.b)(kA:0≤y.x.p.nl∧y.x.p.nl≤b_ c)(hd:y.x.w.done.length≤900000)(hS:Sep w0 w (jL H c aw seq b vb pb sb xp rv y++R)),bR 232 #[O b] w w0 (jL H c aw seq b vb pb sb xp rv {y with u:=y.u+1,next:=1,x:={y.x with w:=P.end_ c y.x.p y.x.w},s:=1}++R))∧(∀{w0 w:World}{R:List a_}{c:cA}(aE:Y.Ok c){H:List Value}{aw seq:Int}{b vb pb sb:Nat}{pv xp rv:Value}(hE:BH (ae c) pv vb pb sb H){y:B.St}(bX:y.args.length=4)(hu:0≤y.u∧y.u<c.t)(hc:¬y.an=0)(hS:Sep w0 w (jL H c aw seq b vb pb sb xp rv y++R)),bR 221 #[O b] w w0 (jL H c aw seq b vb pb sb xp rv {y with x:={y.x with v:=Vw.cell (at_ c 7 y.u 0) y.x.v},next:=2}++R)):=by
 refine⟨?_,?_,?_⟩;focus
  intro w0 w R c aE H aw seq b vb pb sb pv xp rv hE y bX hu hl hS
 rotate_left;focus
  intro w0 w R c aE H aw seq b vb pb sb pv xp rv hE y bX hu hl mY kA hd hS
 rotate_left 2;iterate 2
  focus have gF:=aa (λw=>bM w c);have fS:=aa (λw=>eS c w)
  rotate_left
 rotate_left 2;focus
  have HPE:=aa (λw' RR hS=>ag8 (w0:=w0) (w:=w') (R:=RR) pb sb c aE seq y.x.p y.x.w mY kA hd hS);clear mY kA hd
 rotate_left;focus
  intro w0 w R c aE H aw seq b vb pb sb pv xp rv hE y bX hu hc hS;have h_:=aa (λw=>cx w c aE 7 y.u 0);have UZ:=aa (λw' RR hS=>B8 (w0:=w0) (w:=w') (R:=RR) vb c aE aw seq y.x.v (at_ c 7 y.u 0) (kC aE (by have:=hu.1;unfold Is cr aP each;simp;omega) (by decide)) hS);have zT:(y.an==0)=false:=by simpa using hc
  clear hc
 all_goals
  obtain⟨bx,gX,ij,bu,tO,rH,cq,eR,ft,bs⟩:=y;dsimp only at*;obtain⟨a0,a1,a2,a3,rfl⟩:∃a0 a1 a2 a3,cq=[a0,a1,a2,a3]:=by
   match cq,bX with
   |[a0,a1,a2,a3],_=>exact⟨a0,a1,a2,a3,rfl⟩
  have gO:bC [a0,a1,a2,a3]=[U a0,U a1,U a2,U a3]:=rfl;simp only[jL,ji,gO,za]at hS⊢;have aD:(ae c).length=24:=rfl;have HE:=aa hE;have HS:=aa hS;clear hS bX hE gO
 rotate_left;focus
  have rR:(bu+1==c.t)=false:=by simpa using hl
  clear hl
 rotate_left;focus
  have rR:(bu+1==c.t)=true:=by simpa using hl
  clear hl;obtain⟨xv,xp,xw,Iq,xs,rI,xc,Mu⟩:=bx;dsimp only at*;generalize P.end_ c xp xw=xw2 at*
 rotate_left 2;iterate 2
  focus have O4:IntKind.i64.wrap (bu+1)=bu+1:=bf _ (by omega) (by omega);obtain⟨f30,DB⟩:=(HS.ar 0 rfl).fe HE.len 30 rfl rfl;have fl:=(HS.ar 0 rfl).lt;obtain⟨f29,nQ⟩:=(HS.ar 0 rfl).fe HE.len 29 rfl rfl;have h5:=HS.set 0 rfl 30 (I (bu+1));simp only[aL,fY HE.len _ 30 _ (by omega),Nat.reduceSub,aN]at h5;have HS:=aa h5;clear h5;have h5:=HS.set 0 rfl 29 (I 1);simp only[aL,fY HE.len _ 29 _ (by omega),Nat.reduceSub,aN]at h5;have HS:=aa h5;clear h5;unfold aY at*;generalize fB:db c=cf at*;clear fB;generalize ae c=cs at*;delta bR;go_in;go_wp2_with fail;generalize World.setCell (World.setCell _ _ _) _ _=w4 at HS⊢;clear f30 DB f29 nQ fl O4
  rotate_left
 focus obtain⟨xv,xp,xw,Iq,xs,rI,xc,Mu⟩:=bx;dsimp only at*;generalize Vw.cell (at_ c 7 bu 0) xv=xv2 at*;generalize at_ c 7 bu 0=a7 at*;unfold aY at*;generalize ae c=cs at*;have hB:=(HS.ar 0 rfl);obtain⟨f32,gB⟩:=hB.fe HE.len 32 rfl rfl;have fl:=hB.lt;delta bR;go_in;go_wp2_with fail;clear f32 gB fl hB
 all_goals have hB:=(HS.ar 0 rfl).drew;obtain⟨f30,DB⟩:=hB.fe HE.len 30 rfl rfl
 rotate_left;iterate 2
  focus have fl:=hB.lt;refine bW [(1,[0,1,2,3,4,5,6,7]),(2,[8]),(0,[9,10])] (by kernel_rfl) ?_
  rotate_left
 focus have f25:=hB.fM HE.len 25 rfl HE.out.v;have fl:=hB.lt;refine bW [(1,[0,1,2,3,4,5,6,7,8,9,10,11]),(2,[12]),(3,[13])] (by kernel_rfl) ?_
 all_goals
  simp only[zz];refine af ?_;repeat(first|(refine ak 58 _ b 0 cs _ rfl rfl rfl (aG (nS aD HE.out hB) (by simp)) underlying58 rfl (by rw[aD];kernel_rfl) ?_;simp only[Act.put,aZ,aL,aN])|go_big_quiet_step (fail)|quiet_step (fail))
  refine ax ?_;refine aA ?_;go_wp2_with fail
 rotate_left;iterate 2
  focus refine(gF.out _).kf HS.dr λw2 HF HS=>?_
  rotate_left
 focus refine(h_.out _).kf HS.dr λw2 HF HS=>?_
 all_goals go_wp2;refine⟨⟨⟨_,(by exact HF.out)⟩,rfl⟩,?_⟩
 rotate_left;iterate 2
  focus have kB:=λw=>(fS.out w).1
  rotate_left
 rotate_left;focus
  repeat(first|go_big_quiet_step(fail)|apply ax|apply af|apply ag|apply ah)
  refine aj ?_;clear kB hB f30 DB fl HF;go_wp2;go_end0
 rotate_left;focus
  repeat(first|go_big_quiet_step(fail)|quiet_step(fail)|apply ax|apply af|apply ag|apply ah)
  refine aj ?_;clear kB hB f30 DB fl HF;go_wp2_with fail;have hB:=(HS.ar 0 rfl).drew;have f26:=hB.fM HE.len 26 rfl HE.out.p;have f27:=hB.fM HE.len 27 rfl HE.out.w;have fl:=hB.lt;refine bW [(1,[0,1,2,3,4,5,6,7]),(3,[8])] (by kernel_rfl) ?_;simp only[zz];repeat(first|go_big_quiet_step(fail)|quiet_step(fail)|apply ax|apply af|apply ag|apply ah)
  refine ao ?_;go_wp2_with fail;refine(HPE.out _ _ ((HS.drew.pull 3 rfl).pull 4 rfl)).kk λw2 h1=>?_;have HS:=aa ((((h1.pull 1 rfl).pull 4 rfl).pull 4 rfl).pull 4 rfl);clear h1 hB f26 f27 fl;go_wp2;refine aj ?_;obtain⟨f39,Zs⟩:=(HS.ar 0 rfl).fe HE.len 39 rfl rfl;have fl:=(HS.ar 0 rfl).lt;have h5:=HS.set 0 rfl 39 (I 1);simp only[aL,fY HE.len _ 39 _ (by omega),Nat.reduceSub,aN]at h5;have HS:=aa h5;clear h5;go_wp2;go_end0
 rotate_left;focus
  refine ao ?_;go_wp2_with fail;refine(UZ.out _ _ (HS.pull 2 rfl)).kk λw3 h1=>?_;have HS:=aa ((h1.pull 2 rfl).pull 2 rfl);clear h1 hB f25 f30 DB fl HF;go_wp2;refine aj ?_;obtain⟨f29,nQ⟩:=(HS.ar 0 rfl).fe HE.len 29 rfl rfl;have fl:=(HS.ar 0 rfl).lt;have h5:=HS.set 0 rfl 29 (I 2);simp only[aL,fY HE.len _ 29 _ (by omega),Nat.reduceSub,aN]at h5;have HS:=aa h5;clear h5;go_wp2;go_end0
 rotate_left;all_goals
  exact⟨rfl,HS.out⟩
def Mt:=@zq26.1
def It:=@zq26.2.1
def Qy:=@zq26.2.2
structure BQ (c:cA)(y:B.St):Prop where
 args:y.args.length=4
 u:0≤y.u∧y.u≤8
 nt:0≤y.x.p.nt∧y.x.p.nt≤c.b
 nl:0≤y.x.p.nl∧y.x.p.nl≤b_ c
 dn:y.x.w.done.length≤900000
def xd {w0 w R c}(aE:Y.Ok c){H aw seq b vb pb sb pv xp rv}(hE:BH (ae c) pv vb pb sb H){y}(h:BQ c y)(hS:Sep w0 w (jL H c aw seq b vb pb sb xp rv y++R)):
 bR 232 #[O b] w w0 (jL H c aw seq b vb pb sb xp rv (B.pass c y)++R):=by
 unfold B.pass;by_cases hl:y.u+1=c.t
 ·rw[aB hl];exact It aE hE h.args h.u hl h.nt h.nl h.dn hS
 ·rw[aq hl];exact Mt aE hE h.args h.u hl hS
def Af (H:List Value)(c:cA)(aw seq:Int)(b eb vb pb sb:Nat)(aO:List Value)(rv:Value)(y:B.St):List a_:=
 [aJ b 231 (H++ji (O eb) rv y.args y),oW rv y.rows,aQ c aw seq eb vb pb sb (sL aO y.av) y.args y.x]
def Ag {w0 w R b s}(h:Sep w0 w (cw b s::R))(hd:s.done.length≤1000000)(a v):
 Calls Tryz.prog 190 #[O b,I a,U v] w λe w'=>(∃q,e= .returned (I q))∧Sep w0 w' (cw b (P.cU s a v)::R):=
 (iz h hd a v).mono λ_ _ h=>⟨⟨_,h.1⟩,h.2⟩
def QA:(Tryz.prog.info? 178).map (λi=>(i.zero,i.size,i.bytes))=some (some (.agg #[I 0,U 0,I 0,U 0,.slice none 0 0]),5,56):=by kernel_rfl
def zq27:(∀{w0 w R c}(aE:Y.Ok c){H aw seq b vb pb sb pv xp rv}(hE:BH (ae c) pv vb pb sb H){y}(bX:y.args.length=4)(hc:y.x.v.s=2)(hS:Sep w0 w (jL H c aw seq b vb pb sb xp rv y++R)),bR 228 #[O b] w w0 (jL H c aw seq b vb pb sb xp rv {y with s:=2}++R))∧(∀{w0 w R c}(aE:Y.Ok c){H aw seq b vb pb sb pv xp rv}(hE:BH (ae c) pv vb pb sb H){y}(hq:BQ c y)(hc:¬y.x.v.s=2)(hv:y.x.v.val=y.an)(hS:Sep w0 w (jL H c aw seq b vb pb sb xp rv y++R)),bR 228 #[O b] w w0 (jL H c aw seq b vb pb sb xp rv (B.pass c y)++R))∧(∀{w0 w R c}(aE:Y.Ok c){H aw seq b vb pb sb pv xp rv}(hE:BH (ae c) pv vb pb sb H){y}(bX:y.args.length=4)(hc:¬y.x.v.s=2)(hv:¬y.x.v.val=y.an)(hS:Sep w0 w (jL H c aw seq b vb pb sb xp rv y++R)),bR 228 #[O b] w w0 (jL H c aw seq b vb pb sb xp rv {y with given:=0,next:=3}++R))∧(∀{w0 w R c}(aE:Y.Ok c){H aw seq b vb pb sb pv xp rv}(hE:BH (ae c) pv vb pb sb H){y}(hq:BQ c y)(hc:y.an=0)(hS:Sep w0 w (jL H c aw seq b vb pb sb xp rv y++R)),bR 221 #[O b] w w0 (jL H c aw seq b vb pb sb xp rv (B.pass c y)++R))∧(∀{w0 w:World}{R:List a_}{c:cA}{H:List Value}{aw seq:Int}{b eb vb pb sb:Nat}{pv rv:Value}{aO:List Value}(hE:BH (ae c) pv vb pb sb H){y:B.St}(bX:y.args.length=4)(hc:y.x.s=2)(hS:Sep w0 w (Af H c aw seq b eb vb pb sb aO rv y++R)),bR 231 #[O b] w w0 (Af H c aw seq b eb vb pb sb aO rv {y with s:=2}++R))∧(∀{w0 w:World}{R:List a_}{c:cA}{H:List Value}{aw seq:Int}{b eb vb pb sb:Nat}{pv rv:Value}{aO:List Value}(hE:BH (ae c) pv vb pb sb H){y:B.St}(bX:y.args.length=4)(hc:¬y.x.s=2)(kM:¬y.x.s=1)(hS:Sep w0 w (Af H c aw seq b eb vb pb sb aO rv y++R)),bR 231 #[O b] w w0 (Af H c aw seq b eb vb pb sb aO rv y++R))∧(∀{w0 w:World}{R:List a_}{c:cA}(aE:Y.Ok c){H:List Value}{aw seq:Int}{b eb vb pb sb:Nat}{pv rv:Value}{aO:List Value}(hE:BH (ae c) pv vb pb sb H){y:B.St}(bX:y.args.length=4){code:List In}(hX:XG c code y.x)(hc:y.x.s=1)(nR:y.rows.length≤8)(hq:BQ c (B.ny c y))(hS:Sep w0 w (Af H c aw seq b eb vb pb sb aO rv y++R)),Calls Tryz.prog 231 #[O b] w λr w'=>r=E∧∃kN,Sep w0 w' (jL H c aw seq b vb pb sb (O eb) kN (B.pass c (B.ny c y))++R)):=by
 refine⟨?_,?_,?_,?_,?_,?_,?_⟩;focus
  intro w0 w R c aE H aw seq b vb pb sb pv xp rv hE y bX hc hS
 rotate_left;focus
  intro w0 w R c aE H aw seq b vb pb sb pv xp rv hE y hq hc hv hS
 rotate_left;focus
  intro w0 w R c aE H aw seq b vb pb sb pv xp rv hE y bX hc hv hS
 rotate_left 5;iterate 3
  focus have Mp:=aa (fun(w':World) hB=>vz w' vb (ae c) rfl aw seq y.x.v hB)
  rotate_left
 rotate_left 4;focus
  rw[hc]at Mp;clear hc
 rotate_left;focus
  have Cg:=aa (λw' hS=>xd (w0:=w0) (w:=w') (R:=R) aE (H:=H) (aw:=aw) (seq:=seq) (b:=b) (vb:=vb) (pb:=pb) (sb:=sb) (xp:=xp) (rv:=rv) hE hq hS)
 iterate 2
  focus have J5:(y.x.v.s==2)=false:=by simpa using hc
  rotate_left
 rotate_left 5;focus
  have bX:=hq.args;rw[hv]at Mp;generalize B.pass c y=T at*;clear hc hq hv
 rotate_left;focus
  have hvv:(y.x.v.val==y.an)=false:=by simpa using hv
  clear hc hv
 rotate_left;focus
  intro w0 w R c aE H aw seq b vb pb sb pv xp rv hE y hq hc hS;have Cg:=aa (λw' hS=>xd (w0:=w0) (w:=w') (R:=R) aE (H:=H) (aw:=aw) (seq:=seq) (b:=b) (vb:=vb) (pb:=pb) (sb:=sb) (xp:=xp) (rv:=rv) hE hq hS);have bX:=hq.args;generalize B.pass c y=T at*;clear hq
 rotate_left;focus
  intro w0 w R c H aw seq b eb vb pb sb pv rv aO hE y bX hc hS
 rotate_left;focus
  intro w0 w R c H aw seq b eb vb pb sb pv rv aO hE y bX hc kM hS
 rotate_left;focus
  intro w0 w R c aE H aw seq b eb vb pb sb pv rv aO hE y bX code hX hc nR hq hS
 rotate_left 5;iterate 3
  focus have Cn:=aa (λw' RR hS=>lF (w0:=w0) (w:=w') (R:=RR) (c:=c) (aw:=aw) (seq:=seq) (b:=eb) (vb:=vb) (pb:=pb) (sb:=sb) (cv:=sL aO y.av) (args:=y.args) (x:=y.x) hS)
  rotate_left
 rotate_left 4;focus
  rw[hc]at Cn;clear hc
 rotate_left;focus
  have e1:(y.x.s==2)=false:=by simpa using hc
  have e2:(y.x.s==1)=false:=by simpa using kM
  clear hc kM
 rotate_left;focus
  have Zp:=aa (λw' RR hS=>xV (w0:=w0) (w:=w') (R:=RR) (c:=c) (aw:=aw) (seq:=seq) (b:=eb) (vb:=vb) (pb:=pb) (sb:=sb) (cv:=sL aO y.av) (args:=y.args) (x:=y.x) hS);have HXO:Hid (∀w' RR,Sep w0 w' (aQ c aw seq eb vb pb sb (sL aO y.av) y.args y.x::RR)→Sep w0 w' (aJ vb 258 (Vw.eU (ae c) aw seq y.x.v)::bE c seq pb y.x.p::cw sb y.x.w::RR)):=aa (λw' RR h=>by
   obtain⟨H,m,-,h2⟩:=bh h;exact h2.tail)
  have Cg:=aa (λw' xp rv hS=>xd (w0:=w0) (w:=w') (R:=R) aE (H:=H) (aw:=aw) (seq:=seq) (b:=b) (vb:=vb) (pb:=pb) (sb:=sb) (xp:=xp) (rv:=rv) hE hq hS);have HA8:=aa (λw=>cx w c aE 8 y.u 0);have O8:=aa (λw=>cx w c aE 9 y.u 0);have HA7:=aa (λw=>cx w c aE 7 y.u 0);have p5:y.x.w.done.length≤600000:=by have:=hX.dn;have:=hX.xv.mrk;omega
  have Eg:=lS y.x.w (at_ c 8 y.u 0) (IntKind.u64.wrap y.x.rc);have sr:=lS (P.cU y.x.w (at_ c 8 y.u 0) (IntKind.u64.wrap y.x.rc)) (at_ c 9 y.u 0) y.x.rv;have O9:=aa (λw' (RR:List a_) hS=>Ag (w0:=w0) (w:=w') (R:=RR) (b:=sb) (s:=y.x.w) hS (by omega) (at_ c 8 y.u 0) (IntKind.u64.wrap y.x.rc));have O_:=aa (λw' (RR:List a_) hS=>Ag (w0:=w0) (w:=w') (R:=RR) (b:=sb) (s:=P.cU y.x.w (at_ c 8 y.u 0) (IntKind.u64.wrap y.x.rc)) hS (by omega) (at_ c 9 y.u 0) y.x.rv);have HP3:=aa (λw' (RR:List a_) hS=>Ag (w0:=w0) (w:=w') (R:=RR) (b:=sb) (s:=P.cU (P.cU y.x.w (at_ c 8 y.u 0) (IntKind.u64.wrap y.x.rc)) (at_ c 9 y.u 0) y.x.rv) hS (by omega) (at_ c 7 y.u 0) y.an);rw[hc]at Cn;unfold B.ny at Cg⊢;generalize Pa:B.pass c _=T at*;have Vg:=hX.xv.news;clear hc hq Pa hX p5 Eg sr
 all_goals
  obtain⟨bx,gX,ij,bu,tO,rH,cq,eR,ft,bs⟩:=y;dsimp only at*;obtain⟨a0,a1,a2,a3,rfl⟩:∃a0 a1 a2 a3,cq=[a0,a1,a2,a3]:=by
   match cq,bX with
   |[a0,a1,a2,a3],_=>exact⟨a0,a1,a2,a3,rfl⟩
  have gO:bC [a0,a1,a2,a3]=[U a0,U a1,U a2,U a3]:=rfl
 rotate_left;iterate 4
  focus simp only[jL,ji,gO,za]at hS⊢
  rotate_left
 iterate 3
  focus simp only[jL,Af,ji,gO,za]at hS⊢
  rotate_left
 all_goals have aD:(ae c).length=24:=rfl;have HE:=aa hE;have HS:=aa hS;clear hS bX hE gO
 focus generalize bx.v.val=vl at*
 rotate_left;iterate 2
  focus generalize bx.v.s=vs at*
  rotate_left
 rotate_left 6;focus
  generalize bx.v.val=vl at*
 rotate_left 5;iterate 3
  focus have f25:=(HS.ar 0 rfl).fM HE.len 25 rfl HE.out.v
  rotate_left
 focus subst hc;have f32:=(HS.ar 0 rfl).aR HE.len 32 rfl rfl
 rotate_left 4;iterate 4
  focus have fl:=(HS.ar 0 rfl).lt;delta bR;go_in;go_wp2_with fail
  rotate_left
 rotate_left 3;iterate 3
  focus refine(Mp.out _ (HS.ar 2 rfl)).kq HS λw2 HS=>?_;clear f25 fl
  rotate_left
 rotate_left 4;focus
  obtain⟨f39,Zs⟩:=(HS.ar 0 rfl).fe HE.len 39 rfl rfl;have fl:=(HS.ar 0 rfl).lt;have h5:=HS.set 0 rfl 39 (I 2);simp only[aL,fY HE.len _ 39 _ (by omega),Nat.reduceSub,aN]at h5;have HS:=aa h5;clear h5;go_wp2;go_end0
 rotate_left;iterate 2
  focus have f32:=(HS.ar 0 rfl).aR HE.len 32 rfl rfl
  rotate_left
 rotate_left 5;focus
  have fl:=(HS.ar 0 rfl).lt;go_wp2_with fail;refine(Cg.out _ HS.out).kh λw3 HS=>?_;go_wp2;go_end0
 rotate_left;focus
  obtain⟨f37,yE⟩:=(HS.ar 0 rfl).fe HE.len 37 rfl rfl;obtain⟨f29,nQ⟩:=(HS.ar 0 rfl).fe HE.len 29 rfl rfl;have fl:=(HS.ar 0 rfl).lt;have h5:=HS.set 0 rfl 37 (I 0);simp only[aL,fY HE.len _ 37 _ (by omega),Nat.reduceSub,aN]at h5;have HS:=aa h5;clear h5;have h5:=HS.set 0 rfl 29 (I 3);simp only[aL,fY HE.len _ 29 _ (by omega),Nat.reduceSub,aN]at h5;have HS:=aa h5;clear h5;go_wp2;go_end0
 rotate_left;focus
  refine(Cg.out _ HS.out).kh λw3 HS=>?_;go_wp2;refine aV (fV rfl _ _ _) rfl ?_
 rotate_left;iterate 2
  focus generalize aQ c aw seq eb vb pb sb (sL aO tO) [a0,a1,a2,a3] bx=T at*
  rotate_left
 rotate_left 6;focus
  generalize bx.s=xs at*
 rotate_left;focus
  obtain⟨xv,xp,xw,Iq,xs,rI,xc,Mu⟩:=bx;dsimp only at*;subst Vg;generalize aQ c aw seq eb vb pb sb (sL aO tO) [a0,a1,a2,a3] _=TX at*;generalize P.cU (P.cU (P.cU xw (at_ c 8 bu 0) (IntKind.u64.wrap rI)) (at_ c 9 bu 0) xc) (at_ c 7 bu 0) rH=s3 at*;generalize P.cU (P.cU xw (at_ c 8 bu 0) (IntKind.u64.wrap rI)) (at_ c 9 bu 0) xc=s2 at*;generalize P.cU xw (at_ c 8 bu 0) (IntKind.u64.wrap rI)=s1 at*;generalize at_ c 8 bu 0=p8 at*;generalize at_ c 9 bu 0=p9 at*;generalize at_ c 7 bu 0=p7 at*;unfold aY at*;generalize j8:ae c=cs at*;have qC:=aa j8;clear j8
 rotate_left 5;iterate 3
  focus have f28:=(HS.ar 0 rfl).aR HE.len 28 rfl rfl;have fl:=(HS.ar 0 rfl).lt
  rotate_left
 rotate_left 4;iterate 2
  focus delta bR;go_in
  rotate_left
 focus go_in
 rotate_left 5;iterate 3
  focus go_wp2_with fail;refine(Cn.out _ _ (HS.pull 2 rfl)).kq HS λw2 HS=>?_;clear f28 fl
  rotate_left
 rotate_left 4;focus
  obtain⟨f39,Zs⟩:=(HS.ar 0 rfl).fe HE.len 39 rfl rfl;have fl:=(HS.ar 0 rfl).lt;have h5:=HS.set 0 rfl 39 (I 2);simp only[aL,fY HE.len _ 39 _ (by omega),Nat.reduceSub,aN]at h5;have HS:=aa h5;clear h5;go_wp2;go_end0
 rotate_left;focus
  go_wp2;go_end0
 rotate_left;focus
  have f28:=(HS.ar 0 rfl).aR HE.len 28 rfl rfl;have fl:=(HS.ar 0 rfl).lt;go_wp2_with fail;refine(Zp.out _ _ (HS.pull 2 rfl)).mono ?_;rintro r w3 ⟨nv,rfl,h1⟩;obtain⟨B9,Vf,k7⟩:=h1.form 0 rfl;subst k7;obtain⟨dY,kA,h4⟩:=Fq ((HXO.out _ _ (h1.pull 1 rfl)).pull 5 rfl);obtain⟨la,lc,rfl⟩:=h4.form 0 rfl;have rJ:Hid (∀w' v' R',Sep w0 w' (aU 0 178 5 v' (ft.length+1) (flat (λp:Value×B.Row=>gW p.1 p.2) (dY.zip ft)++[I bu,U rH,I rI,U xc,.slice B9 0 Vf])::aU 0 26 1 (.slice B9 0 Vf) 0 []::cM ((dY.zip ft).map (λp=>aU 0 26 1 p.1 (B.Row.news p.2).length (bC (B.Row.news p.2))))::R')→Sep w0 w' (oW v' (ft++[⟨bu,rH,rI,xc,[]⟩])::R')):=aa (λw' v' R' h=>qE (x:=(⟨bu,rH,rI,xc,[]⟩:B.Row)) kA h);generalize cM ((dY.zip ft).map _)=INN at*;have GD:(flat (λp:Value×B.Row=>gW p.1 p.2) (dY.zip ft)).length=ft.length*5:=by
   rw[ck (n:=5) (λ_=>rfl),nK];omega
  generalize flat (λp:Value×B.Row=>gW p.1 p.2) (dY.zip ft)=XS at*;generalize ft.length=nl at*;have Ik:∀z∈ [I rI,U xc],z.oneCell'=true:=by simp[Value.oneCell']
  have HS:=aa (h4.new 48 [I 0,U 0]);clear h1 h4 kA f28 fl Cn Zp HXO;go_wp2_with(refine aC HS.out 0 rfl [I rI,U xc] 48 _ _ rfl rfl rfl rfl rfl (by kernel_rfl) Ik (λwA hA _=>?_);simp only[aL]at hA;have de:=aa hA;clear hA);have hB:=(de.ar 7 rfl).drew;have hR:=(de.ar 0 rfl).drew;have o0:=hR.cell 0;have o1:=hR.cell 1;have ol:=hR.lt;simp only[zg]at o0 o1;obtain⟨f38,qG⟩:=hB.fe HE.len 38 rfl rfl;obtain⟨f30,DB⟩:=hB.fe HE.len 30 rfl rfl;obtain⟨f32,gB⟩:=hB.fe HE.len 32 rfl rfl;have fl:=hB.lt;obtain⟨i0,iJ,jA,jB,iR⟩:=eA QA;refine bW [(1,[1,2,3,4,5,6,7,8,9,10,11,12,13,14,15,16]),(0,[0]),(2,[17]),(3,[18]),(0,[19,20]),(3,[21])] (by kernel_rfl) ?_;simp only[zz];repeat(first|go_big_quiet_step(fail)|quiet_step(fail)|apply ax|apply af|apply ag|apply ah)
  refine aA ?_;go_wp2;refine⟨⟨⟨_,(by exact(Fr.refl [] _).alloc _)⟩,rfl⟩,?_⟩;have eH:=aa (de.drew.new 178 [I bu,U rH,I rI,U xc,.slice B9 0 Vf]);refine ao ?_;go_wp2_with(at_builtin;go_must (refine ch _ rfl _ _ 175 rfl 0 178 i0 _ 5 56 underlying175 iJ jA jB iR rfl (by decide) (.slice la nl lc) nl XS rfl (eH.row 2 rfl) [I bu,U rH,I rI,U xc,.slice B9 0 Vf] _ _ rfl (eH.ar 0 rfl) rfl (by simp[Value.oneCell']) (by unfold maxLen;omega) (by omega) (cE _) ?_));intro g2 c2 w4 dy iZ jj kM mw;have h3:=(eH.grown 2 rfl dy iZ (λq e=>by
   rcases jj with h1|h1
   ·exact .inl (h1.trans e)
   ·right;simp only[Value.ownBlock,eX]at e;rw[←e,h1];simp)).tail
  simp only[zs,ze]at h3;have HS:=aa h3;clear h3 dy iZ jj hB f38 qG f30 DB f32 gB fl hR o0 o1 ol;go_wp2_with fail;have hB:=HS.ar 7 rfl;obtain⟨f38,qG⟩:=hB.fe HE.len 38 rfl rfl;have fl:=hB.lt;have h5:=HS.set 7 rfl 38 (.slice (some ⟨g2,0,none⟩) (nl+1) c2);simp only[aL,fY HE.len _ 38 _ (by omega),Nat.reduceSub,aN]at h5;have HS:=aa (h5.pull 5 rfl);clear h5 hB;simp only[ze]at HS;repeat(first|go_big_quiet_step(fail)|quiet_step(fail)|apply ax|apply af|apply ag|apply ah)
  refine ao ?_;go_wp2;refine aj ?_;go_wp2_with fail;generalize World.setCell _ _ _=w5 at HS⊢;clear f38 qG fl;have hB:=(HS.ar 7 rfl).drew;have hR:=(HS.ar 1 rfl).drew;have o0:=hR.cell 0;have o1:=hR.cell 1;have ol:=hR.lt;simp only[zg]at o0 o1;obtain⟨f30,DB⟩:=hB.fe HE.len 30 rfl rfl;obtain⟨f32,gB⟩:=hB.fe HE.len 32 rfl rfl;have f27:=hB.fM HE.len 27 rfl HE.out.w;have fl:=hB.lt;refine bW [(1,[0,1,2,3,4,5,6,7,8,9,10,11,13,14,15]),(2,[12]),(3,[16])] (by kernel_rfl) ?_;simp only[zz];refine af ?_;repeat(first|(refine ak 58 _ b 0 cs _ rfl rfl rfl (aG (nS aD HE.out hB) (by simp)) underlying58 rfl (by rw[aD];kernel_rfl) ?_;simp only[Act.put,aZ,aL,aN])|go_big_quiet_step (fail)|quiet_step (fail))
  refine ax ?_;refine aA ?_;go_wp2_with fail;refine(HA8.out _).kf HS.dr λw9 HF HS=>?_;go_wp2;refine⟨⟨⟨_,(by exact HF.out)⟩,rfl⟩,?_⟩;repeat(first|go_big_quiet_step(fail)|quiet_step(fail)|apply ax|apply af|apply ag|apply ah)
  refine ao ?_;go_wp2_with fail;refine(O9.out _ _ HS.out).mono ?_;rintro r Ov ⟨⟨q,rfl⟩,h1⟩;have HS:=aa h1;clear h1 hB hR o0 o1 ol f30 DB f32 gB f27 fl HF;go_wp2;refine aj ?_;go_wp2_with fail;have hB:=(HS.ar 7 rfl).drew;have hR:=(HS.ar 1 rfl).drew;have o0:=hR.cell 0;have o1:=hR.cell 1;have ol:=hR.lt;simp only[zg]at o0 o1;obtain⟨f30,DB⟩:=hB.fe HE.len 30 rfl rfl;obtain⟨f32,gB⟩:=hB.fe HE.len 32 rfl rfl;have f27:=hB.fM HE.len 27 rfl HE.out.w;have fl:=hB.lt;refine bW [(1,[0,1,2,3,4,5,6,7,8,9,10,11,13,14]),(2,[12]),(3,[15])] (by kernel_rfl) ?_;simp only[zz];refine af ?_;repeat(first|(refine ak 58 _ b 0 cs _ rfl rfl rfl (aG (nS aD HE.out hB) (by simp)) underlying58 rfl (by rw[aD];kernel_rfl) ?_;simp only[Act.put,aZ,aL,aN])|go_big_quiet_step (fail)|quiet_step (fail))
  refine ax ?_;refine aA ?_;go_wp2_with fail;refine(O8.out _).kf HS.dr λw9 HF HS=>?_;go_wp2;refine⟨⟨⟨_,(by exact HF.out)⟩,rfl⟩,?_⟩;repeat(first|go_big_quiet_step(fail)|quiet_step(fail)|apply ax|apply af|apply ag|apply ah)
  refine ao ?_;go_wp2_with fail;refine(O_.out _ _ HS.out).mono ?_;rintro r Ov ⟨⟨q,rfl⟩,h1⟩;have HS:=aa h1;clear h1 hB hR o0 o1 ol f30 DB f32 gB f27 fl HF;go_wp2;refine aj ?_;go_wp2_with fail;have hB:=(HS.ar 7 rfl).drew;have hR:=(HS.ar 1 rfl).drew;have o0:=hR.cell 0;have o1:=hR.cell 1;have ol:=hR.lt;simp only[zg]at o0 o1;obtain⟨f30,DB⟩:=hB.fe HE.len 30 rfl rfl;obtain⟨f32,gB⟩:=hB.fe HE.len 32 rfl rfl;have f27:=hB.fM HE.len 27 rfl HE.out.w;have fl:=hB.lt;refine bW [(1,[0,1,2,3,4,5,6,7,8,9,10,11,13,14,15,16,17]),(2,[12]),(3,[18])] (by kernel_rfl) ?_;simp only[zz];refine af ?_;repeat(first|(refine ak 58 _ b 0 cs _ rfl rfl rfl (aG (nS aD HE.out hB) (by simp)) underlying58 rfl (by rw[aD];kernel_rfl) ?_;simp only[Act.put,aZ,aL,aN])|go_big_quiet_step (fail)|quiet_step (fail))
  refine ax ?_;refine aA ?_;go_wp2_with fail;refine(HA7.out _).kf HS.dr λw9 HF HS=>?_;go_wp2;refine⟨⟨⟨_,(by exact HF.out)⟩,rfl⟩,?_⟩;repeat(first|go_big_quiet_step(fail)|quiet_step(fail)|apply ax|apply af|apply ag|apply ah)
  refine ao ?_;go_wp2_with fail;refine(HP3.out _ _ HS.out).mono ?_;rintro r Ov ⟨⟨q,rfl⟩,h1⟩;have HS:=aa h1;clear h1 hB hR o0 o1 ol f30 DB f32 gB f27 fl HF;go_wp2;refine aj ?_;go_wp2_with fail;have h1:=(((HS.pull 1 rfl).tail.pull 2 rfl).pull 5 rfl).pull 3 rfl;have h2:=rJ.out _ _ _ h1;have j8:=qC.out;subst j8;refine(Cg.out _ _ _ (((((h2.pull 1 rfl).pull 3 rfl).pull 3 rfl).pull 3 rfl).pull 4 rfl)).kh λX0 HS=>?_;clear h1 h2;go_wp2;go_end0
 rotate_left;iterate 4
  focus exact⟨rfl,HS.out⟩
 iterate 2
  focus exact⟨rfl,HS.out⟩
 ·exact⟨rfl,_,HS.out⟩
def Iu:=@zq27.1
def Mv:=@zq27.2.1
def Mw:=@zq27.2.2.1
def Vh:=@zq27.2.2.2.1
def Iv:=@zq27.2.2.2.2.1
def Iw:=@zq27.2.2.2.2.2.1
def Mx:=@zq27.2.2.2.2.2.2
def Qx {w0 w R c}(aE:Y.Ok c){H aw seq b vb pb sb pv xp rv}(hE:BH (ae c) pv vb pb sb H){y}(hq:BQ c y)(hS:Sep w0 w (jL H c aw seq b vb pb sb xp rv y++R)):
 bR 228 #[O b] w w0 (jL H c aw seq b vb pb sb xp rv (B.tag c y)++R):=by
 unfold B.tag;by_cases h1:y.x.v.s=2
 ·rw[aB h1];exact Iu aE hE hq.args h1 hS
 ·rw[aq h1];by_cases h2:y.x.v.val=y.an
  ·rw[aB h2];exact Mv aE hE hq h1 h2 hS
  ·rw[aq h2];exact Mw aE hE hq.args h1 h2 hS
def Qz {w0 w:World}{R:List a_}{c:cA}(aE:Y.Ok c){H:List Value}{aw seq:Int}{b vb pb sb:Nat}{pv xp rv:Value}(hE:BH (ae c) pv vb pb sb H){y:B.St}(hq:BQ c y)(Jf:y.u<c.t)(hS:Sep w0 w (jL H c aw seq b vb pb sb xp rv y++R)):
 bR 221 #[O b] w w0 (jL H c aw seq b vb pb sb xp rv (B.je c y)++R):=by
 unfold B.je;by_cases h1:y.an=0
 ·rw[aB h1];exact Vh aE hE hq h1 hS
 ·rw[aq h1];exact Qy aE hE hq.args ⟨hq.u.1,Jf⟩ h1 hS
def Fu {w0 w:World}{R:List a_}{c:cA}(aE:Y.Ok c){H:List Value}{aw seq:Int}{b vb pb sb:Nat}{pv xp rv:Value}(hE:BH (ae c) pv vb pb sb H){y:B.St}(bX:y.args.length=4)(hp:P.Ok c y.x.p)(hd:y.x.w.done.length≤100000)(hS:Sep w0 w (jL H c aw seq b vb pb sb xp rv y++R)):
 bR 226 #[O b] w w0 (jL H c aw seq b vb pb sb xp rv (B.mL c y)++R):=by
 have IT:=aa (λw' RR hS=>Hn (w0:=w0) (w:=w') (R:=RR) pb c seq y.x.p hS);unfold B.mL;by_cases h2:y.x.p.s=2
 ·rw[aB h2,]at*;rw[h2]at IT;clear hd hp h2;obtain⟨bx,gX,ij,bu,tO,rH,cq,eR,ft,bs⟩:=y;dsimp only at*;obtain⟨a0,a1,a2,a3,rfl⟩:∃a0 a1 a2 a3,cq=[a0,a1,a2,a3]:=by
   match cq,bX with
   |[a0,a1,a2,a3],_=>exact⟨a0,a1,a2,a3,rfl⟩
  have gO:bC [a0,a1,a2,a3]=[U a0,U a1,U a2,U a3]:=rfl;simp only[jL,ji,gO,za]at hS⊢;have aD:(ae c).length=24:=rfl;have HE:=aa hE;have HS:=aa hS;clear hS bX hE gO;generalize ae c=cs at*;have f26:=(HS.ar 0 rfl).fM HE.len 26 rfl HE.out.p;have fl:=(HS.ar 0 rfl).lt;delta bR;go_in;go_wp2_with fail;refine(IT.out _ _ (HS.pull 3 rfl)).kq HS λw2 HS=>?_;clear f26 fl;obtain⟨f39,Zs⟩:=(HS.ar 0 rfl).fe HE.len 39 rfl rfl;have fl:=(HS.ar 0 rfl).lt;have h5:=HS.set 0 rfl 39 (I 2);simp only[aL,fY HE.len _ 39 _ (by omega),Nat.reduceSub,aN]at h5;have HS:=aa h5;clear h5;go_wp2;go_end0;exact⟨rfl,HS.out⟩
 ·rw[aq h2];by_cases h1:y.x.p.s=1
  ·rw[aB h1];rw[h1]at IT;have mX:=aa (λw' RR hS=>Hq (w0:=w0) (w:=w') (R:=RR) pb sb c aE seq y.x.p y.x.w hp hd hS);unfold B.settled;clear hp hd h1 h2;obtain⟨bx,gX,ij,bu,tO,rH,cq,eR,ft,bs⟩:=y;dsimp only at*;obtain⟨a0,a1,a2,a3,rfl⟩:∃a0 a1 a2 a3,cq=[a0,a1,a2,a3]:=by
    match cq,bX with
    |[a0,a1,a2,a3],_=>exact⟨a0,a1,a2,a3,rfl⟩
   have gO:bC [a0,a1,a2,a3]=[U a0,U a1,U a2,U a3]:=rfl;simp only[jL,ji,gO,za]at hS⊢;have aD:(ae c).length=24:=rfl;have HE:=aa hE;have HS:=aa hS;clear hS bX hE gO;obtain⟨xv,xp,xw,Iq,xs,rI,xc,Mu⟩:=bx;dsimp only at*;generalize P.settle c xp xw=x2 at*;generalize ae c=cs at*;have f26:=(HS.ar 0 rfl).fM HE.len 26 rfl HE.out.p;have fl:=(HS.ar 0 rfl).lt;delta bR;go_in;go_wp2_with fail;refine(IT.out _ _ (HS.pull 3 rfl)).kq HS λw2 HS=>?_;clear f26 fl;go_wp2_with fail;have hB:=(HS.ar 0 rfl).drew;have f26:=hB.fM HE.len 26 rfl HE.out.p;have f27:=hB.fM HE.len 27 rfl HE.out.w;have fl:=hB.lt;refine bW [(1,[0,1,2,3,4,5,6,7]),(3,[8])] (by kernel_rfl) ?_;simp only[zz];repeat(first|go_big_quiet_step(fail)|quiet_step(fail)|apply ax|apply af|apply ag|apply ah)
   refine ao ?_;go_wp2_with fail;refine(mX.out _ _ ((HS.drew.pull 3 rfl).pull 4 rfl)).kk λw2 h1=>?_;have HS:=aa ((((h1.pull 1 rfl).pull 4 rfl).pull 4 rfl).pull 4 rfl);clear h1 hB f26 f27 fl;go_wp2;refine aj ?_;obtain⟨f29,nQ⟩:=(HS.ar 0 rfl).fe HE.len 29 rfl rfl;have fl:=(HS.ar 0 rfl).lt;have h5:=HS.set 0 rfl 29 (I 1);simp only[aL,fY HE.len _ 29 _ (by omega),Nat.reduceSub,aN]at h5;have HS:=aa h5;clear h5;go_wp2;go_end0;exact⟨rfl,HS.out⟩
  ·rw[aq h1];have e1:(y.x.p.s==2)=false:=by simpa using h2
   have e2:(y.x.p.s==1)=false:=by simpa using h1
   clear hp hd h1 h2;obtain⟨bx,gX,ij,bu,tO,rH,cq,eR,ft,bs⟩:=y;dsimp only at*;obtain⟨a0,a1,a2,a3,rfl⟩:∃a0 a1 a2 a3,cq=[a0,a1,a2,a3]:=by
    match cq,bX with
    |[a0,a1,a2,a3],_=>exact⟨a0,a1,a2,a3,rfl⟩
   have gO:bC [a0,a1,a2,a3]=[U a0,U a1,U a2,U a3]:=rfl;simp only[jL,ji,gO,za]at hS⊢;have aD:(ae c).length=24:=rfl;have HE:=aa hE;have HS:=aa hS;clear hS bX hE gO;generalize bx.p.s=ps at*;generalize ae c=cs at*;have f26:=(HS.ar 0 rfl).fM HE.len 26 rfl HE.out.p;have fl:=(HS.ar 0 rfl).lt;delta bR;go_in;go_wp2_with fail;refine(IT.out _ _ (HS.pull 3 rfl)).kq HS λw2 HS=>?_;clear f26 fl;go_wp2;go_end0;exact⟨rfl,HS.out⟩
structure Xc where
 H:List Value
 eb:Nat
 vb:Nat
 pb:Nat
 sb:Nat
 xp:Value
 rv:Value
def df (c:cA)(aw seq:Int)(b:Nat)(pv:Value)(aO:List Value)(y:B.St):a_:=
 EG λq:Xc=>ie (BH (ae c) pv q.vb q.pb q.sb q.H) (cM (if y.next=4 then Af q.H c aw seq b q.eb q.vb q.pb q.sb aO q.rv y else jL q.H c aw seq b q.vb q.pb q.sb q.xp q.rv y))
def kW {w0 w R c aw seq b vb pb sb H pv xp rv aO y}(hE:BH (ae c) pv vb pb sb H)(hn:¬y.next=4)(hS:Sep w0 w (jL H c aw seq b vb pb sb xp rv y++R)):Sep w0 w (df c aw seq b pv aO y::R):=
 Sep.qX (A:=Xc) (λq=>ie (BH (ae c) pv q.vb q.pb q.sb q.H) (cM (if y.next=4 then Af q.H c aw seq b q.eb q.vb q.pb q.sb aO q.rv y else jL q.H c aw seq b q.vb q.pb q.sb q.xp q.rv y))) (a:=⟨H,0,vb,pb,sb,xp,rv⟩) (by
  dsimp only;rw[aq hn];exact Sep.iK hS.toList hE)
def Ah {w0 w R c aw seq b eb vb pb sb H pv rv aO y}(hE:BH (ae c) pv vb pb sb H)(hn:y.next=4)(hS:Sep w0 w (Af H c aw seq b eb vb pb sb aO rv y++R)):Sep w0 w (df c aw seq b pv aO y::R):=
 Sep.qX (A:=Xc) (λq=>ie (BH (ae c) pv q.vb q.pb q.sb q.H) (cM (if y.next=4 then Af q.H c aw seq b q.eb q.vb q.pb q.sb aO q.rv y else jL q.H c aw seq b q.vb q.pb q.sb q.xp q.rv y))) (a:=⟨H,eb,vb,pb,sb,.slice none 0 0,rv⟩) (by
  dsimp only;rw[aB hn];exact Sep.iK hS.toList hE)
def lG {w0 w R c aw seq b pv aO y}(hS:Sep w0 w (df c aw seq b pv aO y::R)):
 ∃H vb pb sb,BH (ae c) pv vb pb sb H∧((y.next=4∧∃eb rv,Sep w0 w (Af H c aw seq b eb vb pb sb aO rv y++R))∨(¬y.next=4∧∃xp rv,Sep w0 w (jL H c aw seq b vb pb sb xp rv y++R))):=by
 obtain⟨q,h1⟩:=hS.rZ;obtain⟨h2,h3⟩:=h1.jn;refine⟨q.H,q.vb,q.pb,q.sb,h2,?_⟩;by_cases hn:y.next=4
 ·rw[aB hn]at h3;exact .inl ⟨hn,q.eb,q.rv,h3.ofList⟩
 ·rw[aq hn]at h3;exact .inr ⟨hn,q.xp,q.rv,h3.ofList⟩
def oy (c y):(B.pass c y).next=1:=by unfold B.pass;split<;>rfl
def Fv {w0 w:World}{R:List a_}{c:cA}(aE:Y.Ok c){H:List Value}{aw seq:Int}{b eb vb pb sb:Nat}{pv rv:Value}{aO:List Value}(hE:BH (ae c) pv vb pb sb H){y:B.St}(hn:y.next=4)(bX:y.args.length=4){code:List In}(hX:XG c code y.x)(nR:y.rows.length≤8)(hq:y.x.s=1→BQ c (B.ny c y))(hS:Sep w0 w (Af H c aw seq b eb vb pb sb aO rv y++R)):
 bR 231 #[O b] w w0 (df c aw seq b pv aO (B.A_ c y)::R):=by
 unfold B.A_;by_cases h2:y.x.s=2
 ·rw[aB h2];exact(Iv hE bX h2 hS).mono λ_ _ h=>⟨h.1,Ah hE hn h.2⟩
 ·rw[aq h2];by_cases h1:y.x.s=1
  ·rw[aB h1];refine(Mx aE hE bX hX h1 nR (hq h1) hS).mono λ_ _ h=>⟨h.1,?_⟩;obtain⟨kN,h3⟩:=h.2;exact kW hE (by rw[oy];decide) h3
  ·rw[aq h1];exact(Iw hE bX h2 h1 hS).mono λ_ _ h=>⟨h.1,Ah hE hn h.2⟩
end Go.Proofs.YtolkmchicplaoaaGreat
namespace Go.Proofs.YtolkmchicplaoaaGreat
open Go.RowKit Go.aS Go.aS.Y
def fZ (c w):(Instr.field 31 (db c) 0).run Tryz.prog w= .ok (I c.t) w∧(Instr.field 31 (db c) 1).run Tryz.prog w= .ok (I c.b) w:=
 ⟨dW w _ _ _ _ _ _ _ underlying31 rfl underlying3 rfl rfl,dW w _ _ _ _ _ _ _ underlying31 rfl underlying3 rfl rfl⟩
def QD (w):(zeroValue 3).run Tryz.prog w= .ok (I 0) w:=by kernel_rfl
def J7:(Tryz.prog.info? 26).map (λi=>(i.zero,i.size,i.bytes))=some (some (U 0),1,8):=by kernel_rfl
def Co {w b}{T:TypeId}{cs}(aD:cs.length=24){seq mv v p}(h:cB w b T (P.bO cs seq mv v p)):w.rangeAt b 27 [I p.wt,I p.wl]:=λj u hj=>by
 have kf:=P.pf aD seq mv v p;rcases j with _|_|j
 ·simp at hj;subst hj;exact(h.cell 27).trans kf.wt
 ·simp at hj;subst hj;exact(h.cell 28).trans kf.wl
 ·simp at hj
def Cp {cs}(aD:cs.length=24)(seq mv v p x y):n_ (P.bO cs seq mv v p) 29 [I x,I y]=P.bO cs seq mv v {p with nt:=x,nl:=y}:=by
 simp only[n_,P.vq aD,P.vr aD]
def zq28:(∀{w0 w R}(b c)(aE:Y.Ok c)(seq p)(hp:P.Ok c p)(h0:p.s≠0)(hS:Sep w0 w (bE c seq b p::R)),ba 222 #[O b] w (.tuple #[.agg (eF p0).toArray,.bool false]))∧(∀{w0 w R}(b c)(aE:Y.Ok c)(seq p)(hp:P.Ok c p)(h0:p.s=0)(h1:p.next<c.t)(hS:Sep w0 w (bE c seq b p::R)),ba 222 #[O b] w (.tuple #[.agg (eF (⟨0,at_ c 3 p.next 0,0,0,0,0⟩)).toArray,.bool true]))∧(∀{w0 w R}(b c)(aE:Y.Ok c)(seq p)(hp:P.Ok c p)(h0:p.s=0)(h1:c.t+1<p.next)(hS:Sep w0 w (bE c seq b p::R)),ba 222 #[O b] w (.tuple #[.agg (eF (⟨0,at_ c 15 (p.next-c.t-2) 0,0,0,0,0⟩)).toArray,.bool true]))∧(∀{w0 w R}(b c)(aE:Y.Ok c)(seq p)(hp:P.Ok c p)(h0:p.s=0)(h1:p.next=c.t)(hS:Sep w0 w (bE c seq b p::R)),ba 222 #[O b] w (.tuple #[.agg (eF (⟨0,at_ c 12 0 0,0,0,0,0⟩)).toArray,.bool true]))∧(∀{w0 w R}(b c)(aE:Y.Ok c)(seq p)(hp:P.Ok c p)(h0:p.s=0)(h1:p.next=c.t+1)(hS:Sep w0 w (bE c seq b p::R)),ba 222 #[O b] w (.tuple #[.agg (eF (⟨0,at_ c 14 0 0,0,0,0,0⟩)).toArray,.bool true]))∧(∀{w0 w R}(b c)(aE:Y.Ok c)(seq x s ok)(hx:0≤x∧x≤18446744073709551615)(pn)(pf:Int→Int)(dH dL nt nl bS ps)(hp:P.Ok c ⟨pn,pf,dH,dL,nt,nl,bS,ps⟩)(h0:ps≠0)(hS:Sep w0 w (bE c seq b ⟨pn,pf,dH,dL,nt,nl,bS,ps⟩::R)),bR 225 #[O b,.agg #[U x,U s,.bool ok]] w w0 (bE c seq b ⟨pn,pf,dH,dL,nt,nl,bS,ps⟩::R))∧(∀{w0 w R}(b c)(aE:Y.Ok c)(seq x s ok)(hx:0≤x∧x≤18446744073709551615)(pn)(pf:Int→Int)(dH dL nt nl bS ps)(hp:P.Ok c ⟨pn,pf,dH,dL,nt,nl,bS,ps⟩)(h0:ps=0)(h1:pn<c.t)(hS:Sep w0 w (bE c seq b ⟨pn,pf,dH,dL,nt,nl,bS,ps⟩::R)),bR 225 #[O b,.agg #[U x,U s,.bool ok]] w w0 (bE c seq b ⟨pn+1,P.Dc pf x,dH,dL,nt,nl,bS,ps⟩::R))∧(∀{w0 w R}(b c)(aE:Y.Ok c)(seq x s ok)(hx:0≤x∧x≤18446744073709551615)(pn)(pf:Int→Int)(dH dL nt nl bS ps)(hp:P.Ok c ⟨pn,pf,dH,dL,nt,nl,bS,ps⟩)(h0:ps=0)(h1:pn=c.t)(h2:s≤seq)(hS:Sep w0 w (bE c seq b ⟨pn,pf,dH,dL,nt,nl,bS,ps⟩::R)),bR 225 #[O b,.agg #[U x,U s,.bool ok]] w w0 (bE c seq b ⟨pn+1,pf,min x c.b,dL,nt,nl,bS,0⟩::R))∧(∀{w0 w R}(b c)(aE:Y.Ok c)(seq x s ok)(hx:0≤x∧x≤18446744073709551615)(pn)(pf:Int→Int)(dH dL nt nl bS ps)(hp:P.Ok c ⟨pn,pf,dH,dL,nt,nl,bS,ps⟩)(h0:ps=0)(h1:pn=c.t+1)(h2:s≤seq)(h3:(bS.length:Int)≠min x (b_ c))(hS:Sep w0 w (bE c seq b ⟨pn,pf,dH,dL,nt,nl,bS,ps⟩::R)),bR 225 #[O b,.agg #[U x,U s,.bool ok]] w w0 (bE c seq b ⟨pn+1,pf,dH,min x (b_ c),nt,nl,bS,0⟩::R))∧(∀{w0 w R}(b c)(aE:Y.Ok c)(seq x s ok)(hx:0≤x∧x≤18446744073709551615)(pn)(pf:Int→Int)(dH dL nt nl bS ps)(hp:P.Ok c ⟨pn,pf,dH,dL,nt,nl,bS,ps⟩)(h0:ps=0)(h1:pn=c.t+1)(h2:s≤seq)(h3:(bS.length:Int)=min x (b_ c))(hS:Sep w0 w (bE c seq b ⟨pn,pf,dH,dL,nt,nl,bS,ps⟩::R)),bR 225 #[O b,.agg #[U x,U s,.bool ok]] w w0 (bE c seq b ⟨pn+1,pf,dH,min x (b_ c),dH,min x (b_ c),bS,1⟩::R))∧(∀{w0 w R}(b c)(aE:Y.Ok c)(seq x s ok)(hx:0≤x∧x≤18446744073709551615)(pn)(pf:Int→Int)(dH dL nt nl bS ps)(hp:P.Ok c ⟨pn,pf,dH,dL,nt,nl,bS,ps⟩)(h0:ps=0)(h1:c.t+1<pn)(h2:s≤seq)(h3:(bS.length:Int)+1≠dL)(h4:(bS.length:Int)<dL)(hS:Sep w0 w (bE c seq b ⟨pn,pf,dH,dL,nt,nl,bS,ps⟩::R)),bR 225 #[O b,.agg #[U x,U s,.bool ok]] w w0 (bE c seq b ⟨pn+1,pf,dH,dL,nt,nl,bS++[x],0⟩::R))∧(∀{w0 w R}(b c)(aE:Y.Ok c)(seq x s ok)(hx:0≤x∧x≤18446744073709551615)(pn)(pf:Int→Int)(dH dL nt nl bS ps)(hp:P.Ok c ⟨pn,pf,dH,dL,nt,nl,bS,ps⟩)(h0:ps=0)(h1:c.t+1<pn)(h2:s≤seq)(h3:(bS.length:Int)+1=dL)(h4:(bS.length:Int)<dL)(hS:Sep w0 w (bE c seq b ⟨pn,pf,dH,dL,nt,nl,bS,ps⟩::R)),bR 225 #[O b,.agg #[U x,U s,.bool ok]] w w0 (bE c seq b ⟨pn+1,pf,dH,dL,dH,dL,bS++[x],1⟩::R))∧(∀{w0 w R}(b c)(aE:Y.Ok c)(seq x s ok)(hx:0≤x∧x≤18446744073709551615)(pn)(pf:Int→Int)(dH dL nt nl bS ps)(hp:P.Ok c ⟨pn,pf,dH,dL,nt,nl,bS,ps⟩)(h0:ps=0)(h1:c.t≤pn)(h2:seq<s)(hS:Sep w0 w (bE c seq b ⟨pn,pf,dH,dL,nt,nl,bS,ps⟩::R)),bR 225 #[O b,.agg #[U x,U s,.bool ok]] w w0 (bE c seq b ⟨pn,pf,dH,dL,nt,nl,bS,2⟩::R)):=by
 refine⟨?_,?_,?_,?_,?_,?_,?_,?_,?_,?_,?_,?_,?_⟩;focus
  intro w0 w R b c aE seq p hp h0 hS
 rotate_left;iterate 4
  focus intro w0 w R b c aE seq p hp h0 h1 hS
  rotate_left
 rotate_left 8;iterate 5
  focus have oR:=hp.next;have xI:=hp.s;have sg:=aE.t8;have AU:=aE.t1;clear hp
  rotate_left
 rotate_left 9;focus
  have HA:=aa (λw=>cx w c aE 3 p.next 0);generalize at_ c 3 p.next 0=av at*
 rotate_left;focus
  have HA:=aa (λw=>cx w c aE 15 (p.next-c.t-2) 0);generalize at_ c 15 (p.next-c.t-2) 0=av at*
 rotate_left;focus
  have HA:=aa (λw=>cx w c aE 12 0 0);generalize at_ c 12 0 0=av at*
 rotate_left;focus
  have HA:=aa (λw=>cx w c aE 14 0 0);generalize at_ c 14 0 0=av at*
 rotate_left 9;iterate 5
  focus obtain⟨mb,la,lc,h2⟩:=fA hS
  rotate_left
 focus intro w0 w R b c aE seq x s ok hx pn pf dH dL nt nl bS ps hp h0 hS;obtain⟨mb,la,lc,h2⟩:=fA hS;have dQ:=aa (λw' (n k:Nat) (v:Value) hn hk hS=>jv (w0:=w0) (w:=w') (R:=R) (c:=c) (seq:=seq) (b:=b) (mb:=mb) (n:=n) (k:=k) (v:=v) (p:=⟨pn,pf,dH,dL,nt,nl,bS,ps⟩) hn hk hS);generalize bE c seq b ⟨pn,pf,dH,dL,nt,nl,bS,ps⟩=TH at*
 rotate_left;focus
  intro w0 w R b c aE seq x s ok hx pn pf dH dL nt nl bS ps hp h0 h1 hS;obtain⟨mb,la,lc,h2⟩:=fA hS;have dQ:=aa (λw' (n k:Nat) (v:Value) hn hk hS=>jv (w0:=w0) (w:=w') (R:=R) (c:=c) (seq:=seq) (b:=b) (mb:=mb) (n:=n) (k:=k) (v:=v) (p:=⟨pn+1,P.Dc pf x,dH,dL,nt,nl,bS,ps⟩) hn hk hS);generalize bE c seq b ⟨pn+1,P.Dc pf x,dH,dL,nt,nl,bS,ps⟩=TH at*
 rotate_left;focus
  intro w0 w R b c aE seq x s ok hx pn pf dH dL nt nl bS ps hp h0 h1 h2 hS;obtain⟨mb,la,lc,h2⟩:=fA hS;have dQ:=aa (λw' (n k:Nat) (v:Value) hn hk hS=>jv (w0:=w0) (w:=w') (R:=R) (c:=c) (seq:=seq) (b:=b) (mb:=mb) (n:=n) (k:=k) (v:=v) (p:=⟨pn+1,pf,min x c.b,dL,nt,nl,bS,0⟩) hn hk hS);generalize bE c seq b ⟨pn+1,pf,min x c.b,dL,nt,nl,bS,0⟩=TH at*
 rotate_left;iterate 2
  focus intro w0 w R b c aE seq x s ok hx pn pf dH dL nt nl bS ps hp h0 h1 h2 h3 hS;obtain⟨mb,la,lc,h2⟩:=fA hS
  rotate_left
 rotate_left 11;focus
  have dQ:=aa (λw' (n k:Nat) (v:Value) hn hk hS=>jv (w0:=w0) (w:=w') (R:=R) (c:=c) (seq:=seq) (b:=b) (mb:=mb) (n:=n) (k:=k) (v:=v) (p:=⟨pn+1,pf,dH,min x (b_ c),nt,nl,bS,0⟩) hn hk hS);generalize bE c seq b ⟨pn+1,pf,dH,min x (b_ c),nt,nl,bS,0⟩=TH at*
 rotate_left;focus
  have dQ:=aa (λw' (n k:Nat) (v:Value) hn hk hS=>jv (w0:=w0) (w:=w') (R:=R) (c:=c) (seq:=seq) (b:=b) (mb:=mb) (n:=n) (k:=k) (v:=v) (p:=⟨pn+1,pf,dH,min x (b_ c),dH,min x (b_ c),bS,1⟩) hn hk hS);generalize bE c seq b ⟨pn+1,pf,dH,min x (b_ c),dH,min x (b_ c),bS,1⟩=TH at*
 rotate_left;iterate 2
  focus intro w0 w R b c aE seq x s ok hx pn pf dH dL nt nl bS ps hp h0 h1 h2 h3 h4 hS;obtain⟨mb,la,lc,h2⟩:=fA hS
  rotate_left
 rotate_left 11;focus
  have dQ:=aa (λw' (n k:Nat) (v:Value) hn hk hS=>jv (w0:=w0) (w:=w') (R:=R) (c:=c) (seq:=seq) (b:=b) (mb:=mb) (n:=n) (k:=k) (v:=v) (p:=⟨pn+1,pf,dH,dL,nt,nl,bS++[x],0⟩) hn hk hS);generalize bE c seq b ⟨pn+1,pf,dH,dL,nt,nl,bS++[x],0⟩=TH at*
 rotate_left;focus
  have dQ:=aa (λw' (n k:Nat) (v:Value) hn hk hS=>jv (w0:=w0) (w:=w') (R:=R) (c:=c) (seq:=seq) (b:=b) (mb:=mb) (n:=n) (k:=k) (v:=v) (p:=⟨pn+1,pf,dH,dL,dH,dL,bS++[x],1⟩) hn hk hS);generalize bE c seq b ⟨pn+1,pf,dH,dL,dH,dL,bS++[x],1⟩=TH at*
 rotate_left;focus
  intro w0 w R b c aE seq x s ok hx pn pf dH dL nt nl bS ps hp h0 h1 h2 hS;obtain⟨mb,la,lc,h2⟩:=fA hS;have dQ:=aa (λw' (n k:Nat) (v:Value) hn hk hS=>jv (w0:=w0) (w:=w') (R:=R) (c:=c) (seq:=seq) (b:=b) (mb:=mb) (n:=n) (k:=k) (v:=v) (p:=⟨pn,pf,dH,dL,nt,nl,bS,2⟩) hn hk hS);generalize bE c seq b ⟨pn,pf,dH,dL,nt,nl,bS,2⟩=TH at*
 rotate_left 6;iterate 8
  focus have oR:=hp.next;have xI:=hp.s;have Be:=hp.f;have vu:=hp.wl;have zE:=bK aE;have sg:=aE.t8;have AU:=aE.t1;have nU:=aE.b1;have kF:=aE.nZ
  rotate_left
 all_goals have aD:(ae c).length=24:=rfl;have gF:=aa (λw=>bM w c);have fS:=aa (λw=>fZ c w)
 iterate 5
  focus have KF:=aa (P.pf aD seq (.map (some mb)) (.slice la p.bS.length lc) p);have HB:=aa (h2.ar 0 rfl)
  rotate_left
 iterate 8
  focus have xH:=aa (λw=>gL w c aE)
  rotate_left
 all_goals unfold aY at*;generalize fB:db c=cf at*;clear fB;generalize ae c=cs at*
 iterate 5
  focus have uG:=HB.lt;have HS:=aa ((Sep.nil (Fr.refl [] w)).new 82 (eF p0));clear h2 hS;unfold P.bO at HB KF;obtain⟨pn,pf,dH,dL,nt,nl,bS,ps⟩:=p;dsimp only at*
  rotate_left
 rotate_left 8;focus
  have d0:(ps !=0)=true:=by simpa using h0
 rotate_left;iterate 4
  focus subst h0
  rotate_left
 rotate_left 10;focus
  have d1:decide (pn<c.t)=false:=by simp;omega
  have d2:(pn==c.t)=false:=by simp;omega
  have d3:(pn==c.t+1)=false:=by simp;omega
 rotate_left;iterate 2
  focus have d1:decide (pn<c.t)=false:=by simp;omega
  rotate_left
 rotate_left 11;focus
  have d2:(pn==c.t)=true:=by simp;omega
 rotate_left;focus
  have d2:(pn==c.t)=false:=by simp;omega
  have d3:(pn==c.t+1)=true:=by simp;omega
 rotate_left 12;iterate 2
  focus clear h1
  rotate_left
 rotate_left 8;iterate 5
  focus
   have aF:=HB.fr HS.fr (by simp);have kf:=KF.out;have fK:=aF.aT 25 kf.next;have gK:=aF.aT 32 kf.s;clear kf;have pg:¬b=w.heap.size:=by omega
   delta ba;go_in;go_wp2_with(refine ay 58 _ rfl rfl _ 0 rfl cs _ (cB.pre aF) underlying58 rfl (by rw[aD];kernel_rfl) ?_);refine(gF.out _).kq HS λw2 HS=>?_;clear aF fK gK;have aF:=HB.fr HS.fr (by simp);have kf:=KF.out;have fK:=aF.aT 25 kf.next;have gK:=aF.aT 32 kf.s;clear kf;have o_:=λw=>(fS.out w).1
  rotate_left
 rotate_left 8;focus
  have fD:=dg p0;go_wp2_with(refine aC HS.out 0 rfl (eF p0) 82 _ _ rfl rfl rfl rfl rfl (by kernel_rfl) fD (λwA hA _=>?_);have HS:=aa hA;clear hA)
 rotate_left;iterate 2
  focus go_wp2_with fail;have cC:=aF.drew
  rotate_left
 rotate_left 11;focus
  refine dq [(1,[0,1,2,3,4,5,6,7]),(3,[8]),(0,[9]),(3,[10]),(0,[11])] [w.heap.size] (by kernel_rfl) (by kernel_rfl) ?_
 rotate_left;focus
  refine dq [(1,[0,1,2,3,4,5,6,7,8,9,10]),(3,[11]),(0,[12]),(3,[13]),(0,[14])] [w.heap.size] (by kernel_rfl) (by kernel_rfl) ?_
 rotate_left 12;iterate 2
  focus
   simp only[zz];refine af ?_;iterate 3 (first|go_big_quiet_step (fail)|quiet_step (fail))
   refine ak 58 _ b 0 cs _ rfl rfl rfl (cm cC (by simp<;>omega)) underlying58 rfl (by rw[aD];kernel_rfl) ?_;simp only[Act.put,aZ,zs];repeat(first|go_big_quiet_step (fail)|quiet_step (fail))
   refine ax ?_;refine ao ?_;go_wp2_with fail;refine(HA.out _).kq HS.dr λw3 HS=>?_;go_wp2_with fail;repeat(first|go_big_quiet_step(fail)|quiet_step(fail)|apply ax|apply af|apply ag|apply ah)
   refine ao ?_;have fD:=dg ⟨0,av,0,0,0,0⟩;refine aC HS.out 0 rfl (eF ⟨0,av,0,0,0,0⟩) 82 _ _ rfl rfl rfl rfl rfl (by kernel_rfl) fD (λwA hA _=>?_);have HS:=aa hA;clear hA;go_wp2_with fail;repeat(first|go_big_quiet_step(fail)|quiet_step(fail)|apply ax|apply af|apply ag|apply ah)
   refine aj ?_;go_wp2_with fail
  rotate_left
 iterate 2
  focus go_wp2_with(refine ay 58 _ rfl rfl _ 0 rfl cs _ (cB.pre aF) underlying58 rfl (by rw[aD];kernel_rfl) ?_);refine(HA.out _).kq HS λw3 HS=>?_;have fD:=dg ⟨0,av,0,0,0,0⟩;go_wp2_with(refine aC HS.out 0 rfl (eF ⟨0,av,0,0,0,0⟩) 82 _ _ rfl rfl rfl rfl rfl (by kernel_rfl) fD (λwA hA _=>?_);have HS:=aa hA;clear hA)
  rotate_left
 iterate 8
  focus dsimp only at h2 oR xI Be vu dQ;obtain⟨ln,o8⟩:∃ln:Nat,bS.length=ln:=⟨_,rfl⟩;rw[o8]at h2;have vG:=aa o8;have HS:=aa (h2.new 84 [U x,U s,.bool ok]);clear h2 hS hp o8;have hq:=HS.ar 1 rfl;have o0:=(HS.ar 0 rfl).cell 0;have o1:=(HS.ar 0 rfl).cell 1;simp only[zg]at o0 o1;unfold P.bO at hq;delta bR;go_in;go_wp2_with(refine ay 58 _ rfl rfl _ 0 rfl cs _ (cB.pre hq) underlying58 rfl (by rw[aD];kernel_rfl) ?_);refine(gF.out _).kq HS λw2 dS=>?_;clear hq o0 o1;have o0:=(dS.ar 0 rfl).cell 0;have o1:=(dS.ar 0 rfl).cell 1;simp only[zg]at o0 o1;have HS:=aa (dS.new 68 [U x,U s]);clear dS;have o_:=λw=>(fS.out w).1;have aF:=HS.ar 2 rfl;have kf:=P.pf aD seq (.map (some mb)) (.slice la ln lc) ⟨pn,pf,dH,dL,nt,nl,bS,ps⟩;have iF:=aF.aT 24 kf.seq;have fK:=aF.aT 25 kf.next;have ee:=aF.aT 26 kf.mp;have cu:=aF.aT 27 kf.wt;have dz:=aF.aT 28 kf.wl;have eY:=aF.aT 31 kf.bS;have gK:=aF.aT 32 kf.s;have f25:=aF.az;clear kf;have z0:=(HS.ar 0 rfl).cell 0;have z1:=(HS.ar 0 rfl).cell 1;simp only[zg]at z0 z1
  rotate_left
 rotate_left 5;focus
  have d0:(ps !=0)=true:=by simpa using h0
  go_wp2;refine aV (v:= .tuple #[]) (by simp[results,Tryz.results225,go_sem]) rfl ?_
 rotate_left 5;iterate 2
  focus rw[vG.out]at h3 h4
  rotate_left
 rotate_left 11;focus
  have d15:((ln:Int)+1==dL)=false:=by simpa using h3
 rotate_left;focus
  have d15:((ln:Int)+1==dL)=true:=by simpa using h3
 rotate_left 12;iterate 2
  focus clear h3
  rotate_left
 rotate_left 7;iterate 7
  focus subst h0
  rotate_left
 rotate_left 6;focus
  have S1:(Lit.int .u64 x).wf=true:=by
   have e0:IntKind.u64.min=0:=by decide
   have e1:IntKind.u64.max=18446744073709551615:=by decide
   simp only[Lit.wf,eO,gG];omega
  have hfx:=Be x;have aq7:(Lit.int .i64 (pf x+1)).wf=true:=WalkArith.wf_i64 (by omega);have Hg:pn.toNat<maxLen:=by unfold maxLen;omega
  have hwx:IntKind.i64.wrap (pf x+1)=pf x+1:=bf _ (by omega) (by omega);go_wp2_with fail;refine bW [(1,[0,1,2,3,4,5]),(3,[6]),(0,[7]),(3,[8])] (by kernel_rfl) ?_;simp only[zz];repeat(first|go_big_quiet_step(fail)|quiet_step(fail)|apply ax|apply af|apply ag|apply ah)
  refine ao ?_;go_wp2_with(at_lookup;go_must (refine jK HS.drew 3 rfl (by rfl) _ _ 259 rfl underlying26 underlying259 underlying3 QD rfl x rfl S1 ?_));repeat(first|go_big_quiet_step(fail)|quiet_step(fail)|apply ax|apply af|apply ag|apply ah)
  refine ao ?_;go_wp2_with(at_mapUpdate;go_must (refine vg HS.drew 3 rfl rfl _ _ _ 259 rfl underlying26 underlying259 underlying3 rfl x rfl S1 (pf x+1) rfl aq7 Hg ?_);intro wU hU fU;have HU:=aa hU;clear hU fU);refine aj ?_;have hU:Sep w0 wU (_::_::aJ b 261 (P.bO cs seq (.map (some mb)) (.slice la ln lc) ⟨pn,P.Dc pf x,dH,dL,nt,nl,bS,0⟩)::sA Tryz.prog 26 3 .u64 .i64 mb (pn.toNat+1) (P.Dc pf x)::_):=HU.out;clear aF iF fK ee cu dz eY gK f25 z0 z1;have HS:=aa hU;clear hU HU;have aF:=HS.ar 2 rfl;have kf:=P.pf aD seq (.map (some mb)) (.slice la ln lc) ⟨pn,P.Dc pf x,dH,dL,nt,nl,bS,0⟩
 rotate_left;iterate 5
  focus
   have d1:decide (pn<c.t)=false:=by simp;omega
   have d2:decide (s>seq)=false:=by simp;omega
   go_wp2_with fail;refine bW [(1,[0,1,2,3,4,5,6,7])] (by kernel_rfl) ?_;simp only[zz];repeat(first|go_big_quiet_step(fail)|apply ax|apply af|apply ag|apply ah)
   refine aj ?_;have HS:=aa HS.drew;clear aF iF fK ee cu dz eY gK f25 z0 z1;have aF:=HS.ar 2 rfl;have kf:=P.pf aD seq (.map (some mb)) (.slice la ln lc) ⟨pn,pf,dH,dL,nt,nl,bS,0⟩
  rotate_left
 rotate_left 7;iterate 6
  focus have iF:=aF.aT 24 kf.seq;have fK:=aF.aT 25 kf.next;have ee:=aF.aT 26 kf.mp;have cu:=aF.aT 27 kf.wt;have dz:=aF.aT 28 kf.wl;have eY:=aF.aT 31 kf.bS;have gK:=aF.aT 32 kf.s;have f25:=aF.az;clear kf;have z0:=(HS.ar 0 rfl).cell 0;have z1:=(HS.ar 0 rfl).cell 1;simp only[zg]at z0 z1
  rotate_left
 rotate_left 7;focus
  have d14:decide (c.t<pn)=false:=by simp;omega
 rotate_left;focus
  generalize MA:min x c.b=mn at*;have Xe:0≤mn∧mn≤c.b:=by omega
  have JG:(if c.b<x then c.b else x)=mn:=by rw[←MA];split<;>omega
  have GK:IntKind.u64.wrap c.b=c.b:=by rw[ir];omega
 rotate_left;iterate 2
  focus
   generalize Mg:b_ c=lk at*;generalize MA:min x lk=mn at*;have Xe:0≤mn∧mn≤lk:=by omega
   have JG:(if lk<x then lk else x)=mn:=by rw[←MA];split<;>omega
   have GK:IntKind.u64.wrap lk=lk:=by rw[ir];omega
  rotate_left
 rotate_left 10;iterate 3
  focus have Xd:IntKind.i64.wrap mn=mn:=bf _ (by omega) (by omega);clear MA
  rotate_left
 rotate_left 10;focus
  have YR:=λw=>(fS.out w).2;have d3:(pn==c.t)=true:=by simp;omega
  have d14:decide (c.t<pn)=false:=by simp;omega
  clear h1
 rotate_left;iterate 2
  focus
   have d3:(pn==c.t)=false:=by simp;omega
   have d4:(pn==c.t+1)=true:=by simp;omega
   have d14:decide (c.t<pn)=true:=by simp;omega
   rw[vG.out]at h3
  rotate_left
 rotate_left 11;focus
  have d15:((ln:Int)==mn)=false:=by simpa using h3
 rotate_left;focus
  have d15:((ln:Int)==mn)=true:=by simpa using h3
 rotate_left 12;iterate 2
  focus clear h1 h3
  rotate_left
 rotate_left 10;iterate 3
  focus go_wp2_with fail;have cC:=aF.drew;unfold P.bO at cC
  rotate_left
 rotate_left 10;focus
  refine bW [(1,[0,1,2,3,4,5,6]),(2,[7]),(0,[8,9,10,11,12,13,14]),(3,[15])] (by kernel_rfl) ?_
 rotate_left;iterate 2
  focus refine bW [(1,[0,1,2,3,4,5,6]),(2,[7]),(0,[8,9,10,11,12,13]),(3,[14])] (by kernel_rfl) ?_
  rotate_left
 rotate_left 10;iterate 3
  focus
   simp only[zz];refine af ?_;iterate 6 (first|go_big_quiet_step (fail)|quiet_step (fail))
   refine ak 58 _ b 0 cs _ rfl rfl rfl (cm cC (by simp)) underlying58 rfl (by rw[aD];kernel_rfl) ?_;simp only[Act.put,aZ,zs];repeat go_big_quiet_step(fail)
   refine ax ?_;refine aA ?_;go_wp2_with fail
  rotate_left
 rotate_left 10;focus
  refine(gF.out _).kf HS.dr λw4 HF HS=>?_
 rotate_left;iterate 2
  focus refine(xH.out _).kf HS.dr λw4 HF HS=>?_
  rotate_left
 rotate_left 10;iterate 3
  focus go_wp2;refine⟨⟨⟨_,(by exact HF.out)⟩,rfl⟩,?_⟩
  rotate_left
 iterate 2
  focus
   have d3:(pn==c.t)=false:=by simp;omega
   have d4:(pn==c.t+1)=false:=by simp;omega
   have d14:decide (c.t<pn)=true:=by simp;omega
   obtain⟨i0,iJ,jA,jB,iR⟩:=eA J7;clear aF iF fK ee cu dz eY gK f25 z0 z1;generalize World.drew _=wL at HS⊢;have aF:=HS.ar 2 rfl;have kf:=P.pf aD seq (.map (some mb)) (.slice la ln lc) ⟨pn,pf,dH,dL,nt,nl,bS,0⟩;have iF:=aF.aT 24 kf.seq;have fK:=aF.aT 25 kf.next;have ee:=aF.aT 26 kf.mp;have cu:=aF.aT 27 kf.wt;have dz:=aF.aT 28 kf.wl;have eY:=aF.aT 31 kf.bS;have gK:=aF.aT 32 kf.s;have f25:=aF.az;clear kf;have z0:=(HS.ar 0 rfl).cell 0;have z1:=(HS.ar 0 rfl).cell 1;simp only[zg]at z0 z1;go_wp2_with fail;refine bW [(1,[1,2,3,4,5,6]),(0,[0]),(2,[7]),(3,[8]),(0,[9,10]),(3,[11])] (by kernel_rfl) ?_;simp only[zz]
  rotate_left
 rotate_left 8;iterate 5
  focus repeat(first|go_big_quiet_step(fail)|apply ax|apply af|apply ag|apply ah)
  rotate_left
 rotate_left 8;iterate 3
  focus clear aF iF fK ee cu dz eY gK f25 z0 z1
  rotate_left
 iterate 2
  focus
   refine aA ?_;go_wp2;refine⟨⟨⟨_,(by exact Fr.lB ((Fr.refl _ _).alloc _).drew)⟩,rfl⟩,?_⟩;have h2:=(HS.new 26 [U x]).drew;have z7:=aa h2;clear h2;refine ao ?_;refine ch _ rfl _ _ 49 rfl 0 26 i0 _ 1 8 underlying49 iJ jA jB iR rfl (by decide) (.slice la ln lc) ln (bS.map (Value.int .u64)) rfl (z7.row 5 rfl) [U x] _ _ rfl (z7.ar 0 rfl) rfl (by simp[Value.oneCell']) (by unfold maxLen;omega) (by omega) (cE _) ?_;intro g6 c6 w6 nj ve sx kM mw;simp only[Act.put,aZ,zs];have h3:=(z7.grown 5 rfl nj ve (λq e=>by
    rcases sx with h1|h1
    ·exact .inl (h1.trans e)
    ·right;simp only[Value.ownBlock,eX]at e;rw[←e,h1];exact dp _)).tail
   have AX:(bS++[x]).map (Value.int .u64)=bS.map (Value.int .u64)++[U x]:=by simp
   simp only[zs]at h3;rw[←AX]at h3;clear aF iF fK ee cu dz eY gK f25 z0 z1;have HS:=aa h3;clear h3 nj ve sx z7 AX
  rotate_left
 rotate_left 8;iterate 5
  focus have aF:=HS.ar 2 rfl;have kf:=P.pf aD seq (.map (some mb)) (.slice la ln lc) ⟨pn,pf,dH,dL,nt,nl,bS,0⟩;have iF:=aF.aT 24 kf.seq;have fK:=aF.aT 25 kf.next;have ee:=aF.aT 26 kf.mp;have cu:=aF.aT 27 kf.wt;have dz:=aF.aT 28 kf.wl;have eY:=aF.aT 31 kf.bS;have gK:=aF.aT 32 kf.s;have f25:=aF.az;clear kf;have z0:=(HS.ar 0 rfl).cell 0;have z1:=(HS.ar 0 rfl).cell 1;simp only[zg]at z0 z1
  rotate_left
 rotate_left 8;iterate 3
  focus refine ao ?_
  rotate_left
 rotate_left 10;focus
  have du:=HS.set 2 rfl 27 (I (mn));simp only[zs,P.Pg aD]at du
 rotate_left;iterate 2
  focus have du:=HS.set 2 rfl 28 (I (mn));simp only[zs,P.EV aD]at du
  rotate_left
 rotate_left 10;iterate 3
  focus go_wp2_with fail;generalize World.setCell _ _ _=w5 at du⊢
  rotate_left
 iterate 2
  focus
   repeat(first|go_big_quiet_step(fail)|apply ax|apply af|apply ag|apply ah)
   refine ao ?_;have du:=HS.set 2 rfl 31 (.slice (some ⟨g6,0,none⟩) (ln+1) c6);simp only[zs,P.wO aD]at du;go_wp2_with fail;generalize World.setCell _ _ _=w4 at du⊢
  rotate_left
 rotate_left 8;iterate 5
  focus refine aj ?_;clear aF iF fK ee cu dz eY gK f25 z0 z1;have HS:=aa du;clear du;have aF:=HS.ar 2 rfl
  rotate_left
 rotate_left 8;focus
  have kf:=P.pf aD seq (.map (some mb)) (.slice la ln lc) ⟨pn,pf,mn,dL,nt,nl,bS,0⟩
 rotate_left;iterate 2
  focus have kf:=P.pf aD seq (.map (some mb)) (.slice la ln lc) ⟨pn,pf,dH,mn,nt,nl,bS,0⟩
  rotate_left
 iterate 2
  focus have kf:=P.pf aD seq (.map (some mb)) (.slice (some ⟨g6,0,none⟩) (ln+1) c6) ⟨pn,pf,dH,dL,nt,nl,bS,0⟩
  rotate_left
 rotate_left 8;iterate 5
  focus have iF:=aF.aT 24 kf.seq;have fK:=aF.aT 25 kf.next;have ee:=aF.aT 26 kf.mp;have cu:=aF.aT 27 kf.wt;have dz:=aF.aT 28 kf.wl;have eY:=aF.aT 31 kf.bS;have gK:=aF.aT 32 kf.s;have f25:=aF.az;clear kf;have z0:=(HS.ar 0 rfl).cell 0;have z1:=(HS.ar 0 rfl).cell 1;simp only[zg]at z0 z1
  rotate_left
 rotate_left 7;iterate 6
  focus have du:=HS.set 2 rfl 25 (I (pn+1));simp only[zs,P.mK aD]at du;go_wp2_with fail;generalize World.setCell _ _ _=w5 at du⊢;clear aF iF fK ee cu dz eY gK f25 z0 z1;have HS:=aa du.drew;clear du;have aF:=HS.ar 2 rfl
  rotate_left
 rotate_left 7;focus
  have kf:=P.pf aD seq (.map (some mb)) (.slice la ln lc) ⟨pn+1,P.Dc pf x,dH,dL,nt,nl,bS,0⟩
 rotate_left;focus
  have kf:=P.pf aD seq (.map (some mb)) (.slice la ln lc) ⟨pn+1,pf,mn,dL,nt,nl,bS,0⟩
 rotate_left;iterate 2
  focus have kf:=P.pf aD seq (.map (some mb)) (.slice la ln lc) ⟨pn+1,pf,dH,mn,nt,nl,bS,0⟩
  rotate_left
 iterate 2
  focus have kf:=P.pf aD seq (.map (some mb)) (.slice (some ⟨g6,0,none⟩) (ln+1) c6) ⟨pn+1,pf,dH,dL,nt,nl,bS,0⟩
  rotate_left
 focus
  have d1:decide (pn<c.t)=false:=by simp;omega
  go_wp2_with fail;refine bW [(1,[0,1,2,3,4,5,6,7])] (by kernel_rfl) ?_;simp only[zz];repeat(first|go_big_quiet_step(fail)|apply ax|apply af|apply ag|apply ah)
  refine aj ?_;have HS:=aa HS.drew;clear aF iF fK ee cu dz eY gK f25 z0 z1;have aF:=HS.ar 2 rfl;have kf:=P.pf aD seq (.map (some mb)) (.slice la ln lc) ⟨pn,pf,dH,dL,nt,nl,bS,0⟩
 rotate_left 7;iterate 7
  focus have iF:=aF.aT 24 kf.seq;have fK:=aF.aT 25 kf.next;have ee:=aF.aT 26 kf.mp;have cu:=aF.aT 27 kf.wt;have dz:=aF.aT 28 kf.wl;have eY:=aF.aT 31 kf.bS;have gK:=aF.aT 32 kf.s;have f25:=aF.az;clear kf;have z0:=(HS.ar 0 rfl).cell 0;have z1:=(HS.ar 0 rfl).cell 1;simp only[zg]at z0 z1
  rotate_left
 rotate_left 6;iterate 6
  focus refine bW [(1,[0,1,2,3,4,5,6,7,8,9,10,11,12,13,14,15,16,17,18,19])] (by kernel_rfl) ?_;simp only[zz]
  rotate_left
 rotate_left 7;focus
  repeat(first|go_big_quiet_step(fail)|quiet_step(fail)|apply ax|apply af|apply ag|apply ah)
  refine aj ?_;go_wp2;go_end0
 rotate_left;iterate 5
  focus
   repeat(first|go_big_quiet_step(fail)|apply ax|apply af|apply ag|apply ah)
   refine aj ?_
  rotate_left
 rotate_left 8;focus
  go_wp2;go_end0
 rotate_left;focus
  go_wp2;go_end0
 rotate_left;focus
  have hle:=(P.pf aD seq (.map (some mb)) (.slice la ln lc) ⟨pn+1,pf,dH,mn,nt,nl,bS,0⟩).len;go_wp2_with(first|(refine ay 252 _ rfl rfl _ 27 rfl [.int .i64 dH,.int .i64 mn] _ (Co aD aF) underlying252 rfl (by kernel_rfl) ?_)|(refine fz HS.out 2 rfl 29 [.int .i64 dH,.int .i64 mn] 252 _ _ rfl rfl rfl rfl (by rw[hle];simp) (by kernel_rfl) (by simp[Value.oneCell']) (λwA hA _=>?_);simp only[aL,aN,Cp aD]at hA;have b2:=hA.ar 2 rfl;have a32:=(b2.cell 32).trans (P.pf aD _ _ _ _).s;have JK:=b2.az 32;have al:=b2.lt;have de:=aa hA;clear hA b2));have du:=de.set 2 rfl 32 (I 1);simp only[zs,P.Db aD]at du;go_end0
 rotate_left;focus
  go_wp2;go_end0
 rotate_left;focus
  have hle:=(P.pf aD seq (.map (some mb)) (.slice (some ⟨g6,0,none⟩) (ln+1) c6) ⟨pn+1,pf,dH,dL,nt,nl,bS,0⟩).len;go_wp2_with(first|(refine ay 252 _ rfl rfl _ 27 rfl [.int .i64 dH,.int .i64 dL] _ (Co aD aF) underlying252 rfl (by kernel_rfl) ?_)|(refine fz HS.out 2 rfl 29 [.int .i64 dH,.int .i64 dL] 252 _ _ rfl rfl rfl rfl (by rw[hle];simp) (by kernel_rfl) (by simp[Value.oneCell']) (λwA hA _=>?_);simp only[aL,aN,Cp aD]at hA;have b2:=hA.ar 2 rfl;have a32:=(b2.cell 32).trans (P.pf aD _ _ _ _).s;have JK:=b2.az 32;have al:=b2.lt;have de:=aa hA;clear hA b2));have du:=de.set 2 rfl 32 (I 1);simp only[zs,P.Db aD]at du;go_end0
 rotate_left;focus
  have du:=HS.set 2 rfl 32 (I 2);simp only[zs,P.Db aD]at du;have de:=aa du;clear du;go_wp2;refine aV (v:= .tuple #[]) (by simp[results,Tryz.results225,go_sem]) rfl ?_
 rotate_left
 ·exact aV (v:= .tuple #[.agg (eF p0).toArray,.bool false]) (bj Tryz.results222 rfl rfl (HS.ar 0 rfl).range underlying82 rfl (by kernel_rfl)) rfl ⟨rfl,HS.fr⟩
 iterate 4
  focus exact aV (v:= .tuple #[.agg (eF ⟨0,av,0,0,0,0⟩).toArray,.bool true]) (bj Tryz.results222 rfl rfl (HS.ar 0 rfl).range underlying82 rfl (by kernel_rfl)) rfl ⟨rfl,HS.fr⟩
 ·exact⟨rfl,dQ.out _ _ _ _ (dp _) vG.out.symm HS.tail.tail⟩
 ·exact⟨rfl,dQ.out _ _ _ _ (by omega) vG.out.symm HS.tail.tail⟩
 ·exact⟨rfl,dQ.out _ _ _ _ (by omega) vG.out.symm HS.tail.tail⟩
 ·exact⟨rfl,dQ.out _ _ _ _ (by omega) vG.out.symm HS.tail.tail⟩
 ·exact⟨rfl,dQ.out _ _ _ _ (by omega) vG.out.symm du.tail.tail⟩
 ·exact⟨rfl,dQ.out _ _ _ _ (by omega) (by rw[eE,vG.out];rfl) HS.tail.tail⟩
 ·exact⟨rfl,dQ.out _ _ _ _ (by omega) (by rw[eE,vG.out];rfl) du.tail.tail⟩
 ·exact⟨rfl,dQ.out _ _ _ _ (dp _) vG.out.symm de.tail.tail⟩
def Vi:=@zq28.1
def My:=@zq28.2.1
def Ix:=@zq28.2.2.1
def QB:=@zq28.2.2.2.1
def QC:=@zq28.2.2.2.2.1
def QF:=@zq28.2.2.2.2.2.1
def Iy:=@zq28.2.2.2.2.2.2.1
def Mz:=@zq28.2.2.2.2.2.2.2.1
def Iz:=@zq28.2.2.2.2.2.2.2.2.1
def IA:=@zq28.2.2.2.2.2.2.2.2.2.1
def DC:=@zq28.2.2.2.2.2.2.2.2.2.2.1
def DD:=@zq28.2.2.2.2.2.2.2.2.2.2.2.1
def Fw:=@zq28.2.2.2.2.2.2.2.2.2.2.2.2
def Vj {w0 w R}(b c)(aE:Y.Ok c)(seq p)(hp:P.Ok c p)(hS:Sep w0 w (bE c seq b p::R)):
 ba 222 #[O b] w (.tuple #[.agg (eF (P.ask c p).1).toArray,.bool (P.ask c p).2]):=by
 unfold P.ask;by_cases h0:p.s=0
 ·rw[aq (by simpa using h0)];by_cases h1:p.next<c.t
  ·rw[aB h1];exact My b c aE seq p hp h0 h1 hS
  rw[aq h1];by_cases h2:p.next=c.t
  ·rw[aB h2];exact QB b c aE seq p hp h0 h2 hS
  rw[aq h2];by_cases h3:p.next=c.t+1
  ·rw[aB h3];exact QC b c aE seq p hp h0 h3 hS
  rw[aq h3];exact Ix b c aE seq p hp h0 (by omega) hS
 ·rw[aB h0];exact Vi b c aE seq p hp h0 hS
def QG {w0 w R}(b c)(aE:Y.Ok c)(seq x s ok)(hx:0≤x∧x≤18446744073709551615)(p)(hp:P.Ok c p)(hS:Sep w0 w (bE c seq b p::R)):
 bR 225 #[O b,.agg #[U x,U s,.bool ok]] w w0 (bE c seq b (P.tell c seq x s p)::R):=by
 obtain⟨pn,pf,dH,dL,nt,nl,bS,ps⟩:=p;have QH:=hp.cr;dsimp only at QH;unfold P.tell P.fin;dsimp only;by_cases h0:ps=0
 ·rw[aq (by simpa using h0)];by_cases h1:pn<c.t
  ·rw[aB h1,aq (by omega)];subst h0;exact Iy b c aE seq x s ok hx pn pf dH dL nt nl bS 0 hp rfl h1 hS
  rw[aq h1];by_cases h2:seq<s
  ·rw[aB h2];exact Fw b c aE seq x s ok hx pn pf dH dL nt nl bS ps hp h0 (by omega) h2 hS
  rw[aq h2];by_cases h3:pn=c.t
  ·rw[aB h3,aq (by omega)];subst h0;exact Mz b c aE seq x s ok hx pn pf dH dL nt nl bS 0 hp rfl h3 (by omega) hS
  rw[aq h3];by_cases h4:pn=c.t+1
  ·rw[aB h4];by_cases h5:(bS.length:Int)=min x (b_ c)
   ·rw[aB ⟨by omega,h5⟩];exact IA b c aE seq x s ok hx pn pf dH dL nt nl bS ps hp h0 h4 (by omega) h5 hS
   ·rw[aq (λh=>h5 h.2)];subst h0;exact Iz b c aE seq x s ok hx pn pf dH dL nt nl bS 0 hp rfl h4 (by omega) h5 hS
  rw[aq h4];have h6:(bS.length:Int)<dL:=by
   rcases QH h0 with h|h
   ·omega
   ·exact h.2.2
  by_cases h5:(bS.length:Int)+1=dL
  ·rw[aB ⟨by omega,by simpa using h5⟩];exact DD b c aE seq x s ok hx pn pf dH dL nt nl bS ps hp h0 (by omega) (by omega) h5 h6 hS
  ·rw[aq (λh=>h5 (by simpa using h.2))];subst h0;exact DC b c aE seq x s ok hx pn pf dH dL nt nl bS 0 hp rfl (by omega) (by omega) h5 h6 hS
 ·rw[aB h0];exact QF b c aE seq x s ok hx pn pf dH dL nt nl bS ps hp h0 hS
end Go.Proofs.YtolkmchicplaoaaGreat
namespace Go.Proofs.YtolkmchicplaoaaGreat
open Go.RowKit Go.aS Go.aS.I_ Go.aS.Y
def Fx {w b}{T:TypeId}{H xp nx u av an a0 a1 a2 a3 g rv s}(hH:H.length=28)(h:cB w b T (H++[xp,nx,u,av,an,a0,a1,a2,a3,g,rv,s])):w.rangeAt b 33 [a0,a1,a2,a3]:=by
 intro j v hj;have h1:=λk (hk:28≤k)=>(h.cell k).trans (Xi hH [xp,nx,u,av,an,a0,a1,a2,a3,g,rv,s] k hk)
 match j,hj with
 |0,hj=>exact(h1 33 (by omega)).trans hj
 |1,hj=>exact(h1 34 (by omega)).trans hj
 |2,hj=>exact(h1 35 (by omega)).trans hj
 |3,hj=>exact(h1 36 (by omega)).trans hj
 |j+4,hj=>simp at hj
def IB {w0 w:World}{R:List a_}{c:cA}(aE:Y.Ok c){H:List Value}{aw seq:Int}{b vb pb sb:Nat}{pv xp rv:Value}{aO:List Value}{ai:List (List In)}(hE:BH (ae c) pv vb pb sb H)(hP:∀w',Sep w0 w' R→cL w' pv aO ai){y:B.St}(bX:y.args.length=4)(tq:W.U_ y.av)
 (hd:y.x.w.done.length≤500000)(J5:Vw.VS y.x.v)(JQ:sJ (B.bU ai y.av))(nR:y.rows.length≤8)
 (hX:XG c (B.bU ai y.av) (X.new c (B.bU ai y.av) y.args y.x.v y.x.p y.x.w))(hq:(X.new c (B.bU ai y.av) y.args y.x.v y.x.p y.x.w).s=1→BQ c (B.ny c {y with code:=B.bU ai y.av,x:=X.new c (B.bU ai y.av) y.args y.x.v y.x.p y.x.w,next:=4}))
 (hS:Sep w0 w (jL H c aw seq b vb pb sb xp rv y++R)):
 bR 229 #[O b] w w0 (df c aw seq b pv aO (B.dI c ai y)::R):=by
 have hPw:∃w',Sep w0 w' R:=⟨w,by
  have h:=hS;simp only[jL,za]at h;exact h.tail.tail.tail.tail.tail⟩
 obtain⟨wp,Cj⟩:=hPw;have B5:=(hP wp Cj).len;have hpf:=(hP wp Cj).tY;obtain⟨pa,pc,NY⟩:=(hP wp Cj).row.len;obtain⟨ca,cc,eT⟩:=((hP wp Cj).code tq.1).1.len;obtain⟨n,hn⟩:∃n,n=(B.bU ai y.av).length:=⟨_,rfl⟩;rw[←hn]at eT;rw[B5]at NY;unfold B.dI;have Vk:=aa (λw' (R':List a_) hC hS=>Fm (w0:=w0) (w:=w') (R:=R') aE (aw:=aw) (seq:=seq) (vb:=vb) (pb:=pb) (sb:=sb) ca n cc hn bX JQ hC hd J5 hX hS);have Tb:Hid (∀w',Sep w0 w' R→dJ w' (.slice ca n cc) (B.bU ai y.av)):=aa (λw' h=>eT▸(hP w' h).code tq.1);obtain⟨k,hk⟩:∃k:Nat,y.av=(k:Int):=⟨y.av.toNat,by have:=tq.1;omega⟩;obtain⟨m,hm⟩:∃m,m=ai.length:=⟨_,rfl⟩;have Zt:Hid (k<m→∀w',Sep w0 w' R→∃xa:Addr,pa=some xa∧xa.block<w'.heap.size∧w'.cell? (xa.add k)=some (.slice ca n cc)):=aa (λHg w' h=>by
  have h1:=(hP w' h).row;have fu:k<aO.length:=by omega
  rw[NY]at h1;obtain⟨x,e,hx,h2,_⟩:=h1.at fu;rw[lj]at h2;refine⟨x,e,hx,h2 _ ?_⟩;rw[←eT,hk];unfold sL;rw[aB (by omega)];simp[List.getD,fu])
 have Zu:Hid (¬k<m→ca=none∧n=0∧cc=0):=aa (λh=>by
  rw[hk]at eT;unfold sL at eT;rw[aq (by omega)]at eT;simp only[dk]at eT;exact⟨eT.1.symm,eT.2.1.symm,eT.2.2.symm⟩)
 rw[←hm]at NY hpf;clear hd J5 JQ hP Cj;generalize B.bU ai y.av=code at*;generalize X.new c code y.args y.x.v y.x.p y.x.w=x2 at*;clear hn hm B5;have ts:=aa eT;clear eT;have Vl:=aa NY;clear NY;obtain⟨bx,gX,ij,bu,tO,rH,cq,eR,ft,bs⟩:=y;dsimp only at*;subst hk;clear tq;obtain⟨a0,a1,a2,a3,rfl⟩:∃a0 a1 a2 a3,cq=[a0,a1,a2,a3]:=by
  match cq,bX with
  |[a0,a1,a2,a3],_=>exact⟨a0,a1,a2,a3,rfl⟩
 have gO:bC [a0,a1,a2,a3]=[U a0,U a1,U a2,U a3]:=rfl;have ai5:Hid (∀w' eb,Sep w0 w' (aJ b 231 (H++[O eb,I 4,I bu,U (k:Int),U rH,U a0,U a1,U a2,U a3,I eR,rv,I bs])::oW rv ft::aQ c aw seq eb vb pb sb (.slice ca n cc) [a0,a1,a2,a3] x2::R)→bR 231 #[O b] w' w0 (df c aw seq b pv aO (B.A_ c ⟨x2,code,4,bu,k,rH,[a0,a1,a2,a3],eR,ft,bs⟩)::R)):=
  aa (λw' eb h=>Fv (w0:=w0) (w:=w') (R:=R) aE (H:=H) (eb:=eb) (vb:=vb) (pb:=pb) (sb:=sb) (rv:=rv) hE (y:=⟨x2,code,4,bu,k,rH,[a0,a1,a2,a3],eR,ft,bs⟩) rfl rfl hX nR hq (by simp only[Af];rw[ts.out];exact h))
 simp only[jL,ji,gO,za]at hS;rw[gO]at Vk;have aD:(ae c).length=24:=rfl;have HE:=aa hE;have HS:=aa hS;generalize B.A_ c _=T at*;clear hS bX hE gO hX hq ts nR;unfold aY at*;generalize ae c=cs at*;have Xd:IntKind.u64.wrap (m:Int)=m:=by rw[ir];omega
 have hB:=(HS.ar 0 rfl).drew;obtain⟨f31,aa9⟩:=hB.fe HE.len 31 rfl rfl;have f24:=hB.fM HE.len 24 rfl HE.out.pv;rw[Vl.out]at f24;have fl:=hB.lt;delta bR;go_in;go_wp2_with fail;by_cases Hg:k<m
 ·have tH:decide ((k:Int)<(m:Int))=true:=by simpa using Hg
  obtain⟨xa,uI,GD,hx⟩:=Zt.out Hg _ HS.tail.tail.tail.tail.tail;clear Zt Zu;subst uI;refine bW [(1,[0,1,2,3,4,5,6,7,8,9,10,11])] (by kernel_rfl) ?_;simp only[zz];repeat(first|go_big_quiet_step(fail)|quiet_step(fail)|apply ax|apply af|apply ag|apply ah)
  refine aj ?_;go_wp2_with fail;clear hB f31 aa9 f24 fl;have hB:=(HS.ar 0 rfl).drew.drew;obtain⟨f31,aa9⟩:=hB.fe HE.len 31 rfl rfl;have f24:=hB.fM HE.len 24 rfl HE.out.pv;rw[Vl.out]at f24;have fl:=hB.lt;have Td:w.drew.drew.cell? (xa.add k)=some (.slice ca n cc):=hx;have aR1:xa.block<w.drew.drew.heap.size:=GD;refine bW [(1,[0,1,2,3,4,5,6,7,8,9,10,11])] (by kernel_rfl) ?_;simp only[zz];repeat(first|go_big_quiet_step(fail)|quiet_step(fail)|apply ax|apply af|apply ag|apply ah)
  refine aj ?_;go_wp2_with fail;have HS:=aa HS.drew.drew;clear hB f31 aa9 f24 hx Td GD aR1 tH;clear fl;have hB:=(HS.ar 0 rfl).drew;have f25:=hB.fM HE.len 25 rfl HE.out.v;have f26:=hB.fM HE.len 26 rfl HE.out.p;have f27:=hB.fM HE.len 27 rfl HE.out.w;have Xk:=Fx HE.len hB;have fl:=hB.lt;refine bW [(1,[1,2,3,4,5,6,7,8,9,10,11,12,13,14,15,16,17,18,19,20,21]),(0,[0]),(3,[22]),(0,[23,24]),(3,[25])] (by kernel_rfl) ?_;simp only[zz];refine af ?_;repeat(first|(refine ak 58 _ b 0 cs _ rfl rfl rfl (aG (nS aD HE.out hB) (by simp)) underlying58 rfl (by rw[aD];kernel_rfl) ?_;simp only[Act.put,aZ,aL,aN])|(refine ak 36 _ b 33 [U a0,U a1,U a2,U a3] _ rfl rfl rfl (aG Xk (by simp)) underlying36 rfl (by kernel_rfl) ?_;simp only[Act.put,aZ,aL,aN])|go_big_quiet_step (fail)|quiet_step (fail))
  refine ax ?_;repeat(first|go_big_quiet_step(fail)|quiet_step(fail)|apply ax|apply af|apply ag|apply ah)
  refine ao ?_;go_wp2_with fail;refine(Vk.out _ _ (λw' h=>Tb.out w' h.tail.tail) (((HS.drew.pull 4 rfl).pull 4 rfl).pull 4 rfl)).mono ?_;rintro r w5 ⟨eb,rfl,h1⟩;have HS:=aa ((h1.pull 2 rfl).pull 2 rfl);clear h1 hB f25 f26 f27 Xk fl;simp only[ze]at HS;go_wp2_with fail;repeat(first|go_big_quiet_step(fail)|quiet_step(fail)|apply ax|apply af|apply ag|apply ah)
  obtain⟨f28,lu⟩:=(HS.ar 0 rfl).fe HE.len 28 rfl rfl;obtain⟨f29,nQ⟩:=(HS.ar 0 rfl).fe HE.len 29 rfl rfl;have fl:=(HS.ar 0 rfl).lt;have h5:=HS.set 0 rfl 28 (O eb);simp only[aL,fY HE.len _ 28 _ (by omega),Nat.reduceSub,aN]at h5;have HS:=aa h5;clear h5;have h5:=HS.set 0 rfl 29 (I 4);simp only[aL,fY HE.len _ 29 _ (by omega),Nat.reduceSub,aN]at h5;have HS:=aa h5;clear h5;refine ao ?_;go_wp2;refine aj ?_;go_wp2_with fail;refine(ai5.out _ _ HS.out).kh λw6 HS=>?_;go_wp2;go_end0;exact⟨rfl,HS.out⟩
 ·have tH:decide ((k:Int)<(m:Int))=false:=by simpa using Hg
  obtain⟨e1,e2,e3⟩:=Zu.out Hg;clear Zt Zu;subst e1 e2 e3;refine bW [(1,[0,1,2,3,4,5,6,7,8,9,10,11])] (by kernel_rfl) ?_;simp only[zz];repeat(first|go_big_quiet_step(fail)|quiet_step(fail)|apply ax|apply af|apply ag|apply ah)
  refine aj ?_;go_wp2_with fail;have HS:=aa HS.drew;clear hB f31 aa9 f24 tH;clear fl;have hB:=(HS.ar 0 rfl).drew;have f25:=hB.fM HE.len 25 rfl HE.out.v;have f26:=hB.fM HE.len 26 rfl HE.out.p;have f27:=hB.fM HE.len 27 rfl HE.out.w;have Xk:=Fx HE.len hB;have fl:=hB.lt;refine bW [(1,[1,2,3,4,5,6,7,8,9,10,11,12,13,14,15,16,17,18,19,20,21]),(0,[0]),(3,[22]),(0,[23,24]),(3,[25])] (by kernel_rfl) ?_;simp only[zz];refine af ?_;repeat(first|(refine ak 58 _ b 0 cs _ rfl rfl rfl (aG (nS aD HE.out hB) (by simp)) underlying58 rfl (by rw[aD];kernel_rfl) ?_;simp only[Act.put,aZ,aL,aN])|(refine ak 36 _ b 33 [U a0,U a1,U a2,U a3] _ rfl rfl rfl (aG Xk (by simp)) underlying36 rfl (by kernel_rfl) ?_;simp only[Act.put,aZ,aL,aN])|go_big_quiet_step (fail)|quiet_step (fail))
  refine ax ?_;repeat(first|go_big_quiet_step(fail)|quiet_step(fail)|apply ax|apply af|apply ag|apply ah)
  refine ao ?_;go_wp2_with fail;refine(Vk.out _ _ (λw' h=>Tb.out w' h.tail.tail) (((HS.drew.pull 4 rfl).pull 4 rfl).pull 4 rfl)).mono ?_;rintro r w5 ⟨eb,rfl,h1⟩;have HS:=aa ((h1.pull 2 rfl).pull 2 rfl);clear h1 hB f25 f26 f27 Xk fl;simp only[ze]at HS;go_wp2_with fail;repeat(first|go_big_quiet_step(fail)|quiet_step(fail)|apply ax|apply af|apply ag|apply ah)
  obtain⟨f28,lu⟩:=(HS.ar 0 rfl).fe HE.len 28 rfl rfl;obtain⟨f29,nQ⟩:=(HS.ar 0 rfl).fe HE.len 29 rfl rfl;have fl:=(HS.ar 0 rfl).lt;have h5:=HS.set 0 rfl 28 (O eb);simp only[aL,fY HE.len _ 28 _ (by omega),Nat.reduceSub,aN]at h5;have HS:=aa h5;clear h5;have h5:=HS.set 0 rfl 29 (I 4);simp only[aL,fY HE.len _ 29 _ (by omega),Nat.reduceSub,aN]at h5;have HS:=aa h5;clear h5;refine ao ?_;go_wp2;refine aj ?_;go_wp2_with fail;refine(ai5.out _ _ HS.out).kh λw6 HS=>?_;go_wp2;go_end0;exact⟨rfl,HS.out⟩
def Zv {H}(hH:H.length=28)(xp nx u av an a0 a1 a2 a3 g rv s p q):n_ (H++[xp,nx,u,av,an,a0,a1,a2,a3,g,rv,s]) 31 [p,q]=H++[xp,nx,u,p,q,a0,a1,a2,a3,g,rv,s]:=by
 simp only[n_,fY hH _ 31 _ (by omega),fY hH _ 32 _ (by omega),Nat.reduceSub,zs]
def zq29:(∀{w0 w R c aw seq b pv aO y}(bX:y.args.length=4)(hS:Sep w0 w (df c aw seq b pv aO y::R)),ba 142 #[O b] w (I y.s))∧(∀{w0 w R c aw seq b pv aO y}(bX:y.args.length=4)(hs:¬y.s=0)(v n ok)(hS:Sep w0 w (df c aw seq b pv aO y::R)),bR 220 #[O b,.agg #[U v,U n,.bool ok]] w w0 (df c aw seq b pv aO y::R))∧(∀{w0 w R c aw seq b pv aO y}(bX:y.args.length=4)(hs:¬y.s=0)(hS:Sep w0 w (df c aw seq b pv aO y::R)),ba 219 #[O b] w (.tuple #[.agg (eF p0).toArray,.bool false]))∧(∀{w0 w:World}{R:List a_}{c:cA}(aE:Y.Ok c){H:List Value}{aw seq:Int}{b vb pb sb:Nat}{pv xp rv:Value}{aO:List Value}(hE:BH (ae c) pv vb pb sb H){y:B.St}(bX:y.args.length=4)(hs:y.s=0)(hn:y.next=0)(hp:P.Ok c y.x.p)(hd:y.x.w.done.length≤100000)(v n:Int)(hv:W.U_ v)(ok:Bool)(hS:Sep w0 w (jL H c aw seq b vb pb sb xp rv y++R)),bR 220 #[O b,.agg #[U v,U n,.bool ok]] w w0 (jL H c aw seq b vb pb sb xp rv (B.mL c {y with x:={y.x with p:=P.tell c seq v n y.x.p}})++R))∧(∀{w0 w:World}{R:List a_}{c:cA}(aE:Y.Ok c){H:List Value}{aw seq:Int}{b vb pb sb:Nat}{pv xp rv:Value}{aO:List Value}(hE:BH (ae c) pv vb pb sb H){y:B.St}(hq:BQ c y)(J5:Vw.VS y.x.v)(hs:y.s=0)(hn:y.next=2)(v n:Int)(ok:Bool)(hS:Sep w0 w (jL H c aw seq b vb pb sb xp rv y++R)),bR 220 #[O b,.agg #[U v,U n,.bool ok]] w w0 (jL H c aw seq b vb pb sb xp rv (B.tag c {y with x:={y.x with v:=Vw.tell seq v n y.x.v}})++R))∧(∀{w0 w:World}{R:List a_}{c:cA}(aE:Y.Ok c){H:List Value}{aw seq:Int}{b eb vb pb sb:Nat}{pv rv:Value}{aO:List Value}{ai:List (List In)}(hE:BH (ae c) pv vb pb sb H)(hP:∀w',Sep w0 w' R→cL w' pv aO ai){y:B.St}(bX:y.args.length=4)(tq:W.U_ y.av)(Fy:y.code=B.bU ai y.av)(hG:XG c y.code y.x)(hs:y.s=0)(hn:y.next=4)(nR:y.rows.length≤8)(v n:Int)(hv:W.U_ v)(ok:Bool)(hX:XG c y.code (X.tell c y.code y.args seq v n y.x))(hq:(X.tell c y.code y.args seq v n y.x).s=1→BQ c (B.ny c {y with x:=X.tell c y.code y.args seq v n y.x}))(hS:Sep w0 w (Af H c aw seq b eb vb pb sb aO rv y++R)),bR 220 #[O b,.agg #[U v,U n,.bool ok]] w w0 (df c aw seq b pv aO (B.A_ c {y with x:=X.tell c y.code y.args seq v n y.x})::R))∧(∀{w0 w:World}{R:List a_}{c:cA}{H:List Value}{aw seq:Int}{b vb pb sb:Nat}{pv xp rv:Value}{aO:List Value}(hE:BH (ae c) pv vb pb sb H){y:B.St}(bX:y.args.length=4)(hs:y.s=0)(hn:y.next=3)(hg:y.given=0)(v n:Int)(ok:Bool)(hS:Sep w0 w (jL H c aw seq b vb pb sb xp rv y++R)),bR 220 #[O b,.agg #[U v,U n,.bool ok]] w w0 (jL H c aw seq b vb pb sb xp rv {y with args:=y.args.set 0 v,given:=0+1}++R))∧(∀{w0 w:World}{R:List a_}{c:cA}{H:List Value}{aw seq:Int}{b vb pb sb:Nat}{pv xp rv:Value}{aO:List Value}(hE:BH (ae c) pv vb pb sb H){y:B.St}(bX:y.args.length=4)(hs:y.s=0)(hn:y.next=3)(hg:y.given=1)(v n:Int)(ok:Bool)(hS:Sep w0 w (jL H c aw seq b vb pb sb xp rv y++R)),bR 220 #[O b,.agg #[U v,U n,.bool ok]] w w0 (jL H c aw seq b vb pb sb xp rv {y with args:=y.args.set 1 v,given:=1+1}++R))∧(∀{w0 w:World}{R:List a_}{c:cA}{H:List Value}{aw seq:Int}{b vb pb sb:Nat}{pv xp rv:Value}{aO:List Value}(hE:BH (ae c) pv vb pb sb H){y:B.St}(bX:y.args.length=4)(hs:y.s=0)(hn:y.next=3)(hg:y.given=2)(v n:Int)(ok:Bool)(hS:Sep w0 w (jL H c aw seq b vb pb sb xp rv y++R)),bR 220 #[O b,.agg #[U v,U n,.bool ok]] w w0 (jL H c aw seq b vb pb sb xp rv {y with args:=y.args.set 2 v,given:=2+1}++R))∧(∀{w0 w:World}{R:List a_}{c:cA}(aE:Y.Ok c){H:List Value}{aw seq:Int}{b vb pb sb:Nat}{pv xp rv:Value}{aO:List Value}{ai:List (List In)}(hE:BH (ae c) pv vb pb sb H)(hP:∀w',Sep w0 w' R→cL w' pv aO ai){y:B.St}(bX:y.args.length=4)(tq:W.U_ y.av)(hd:y.x.w.done.length≤500000)(J5:Vw.VS y.x.v)(JQ:sJ (B.bU ai y.av))(nR:y.rows.length≤8)(hs:y.s=0)(hn:y.next=3)(hg:y.given=3)(v n:Int)(ok:Bool)(hX:XG c (B.bU ai y.av) (X.new c (B.bU ai y.av) (y.args.set 3 v) y.x.v y.x.p y.x.w))(hq:(X.new c (B.bU ai y.av) (y.args.set 3 v) y.x.v y.x.p y.x.w).s=1→BQ c (B.ny c {y with args:=y.args.set 3 v,given:=3+1,code:=B.bU ai y.av,x:=X.new c (B.bU ai y.av) (y.args.set 3 v) y.x.v y.x.p y.x.w,next:=4}))(hS:Sep w0 w (jL H c aw seq b vb pb sb xp rv y++R)),bR 220 #[O b,.agg #[U v,U n,.bool ok]] w w0 (df c aw seq b pv aO (B.dI c ai {y with args:=y.args.set 3 v,given:=3+1})::R))∧(∀{w0 w:World}{R:List a_}{c:cA}(aE:Y.Ok c){H:List Value}{aw seq:Int}{b vb pb sb:Nat}{pv xp rv:Value}{aO:List Value}(hE:BH (ae c) pv vb pb sb H){y:B.St}(hq:BQ c y)(Jf:y.u<c.t)(hs:y.s=0)(hn:y.next=1)(v n:Int)(ok:Bool)(hS:Sep w0 w (jL H c aw seq b vb pb sb xp rv y++R)),bR 220 #[O b,.agg #[U v,U n,.bool ok]] w w0 (jL H c aw seq b vb pb sb xp rv (B.je c {y with av:=v,an:=n})++R))∧(∀{w0 w R c}(aE:Y.Ok c){H aw seq b vb pb sb pv xp rv}(hE:BH (ae c) pv vb pb sb H){y}(bX:y.args.length=4)(hs:y.s=0)(hn:y.next=0)(hp:P.Ok c y.x.p)(hS:Sep w0 w (jL H c aw seq b vb pb sb xp rv y++R)),ba 219 #[O b] w (.tuple #[.agg (eF (P.ask c y.x.p).1).toArray,.bool (P.ask c y.x.p).2]))∧(∀{w0 w:World}{R:List a_}{c:cA}(aE:Y.Ok c){H:List Value}{aw seq:Int}{b vb pb sb:Nat}{pv xp rv:Value}(hE:BH (ae c) pv vb pb sb H){y:B.St}(bX:y.args.length=4)(J5:Vw.VS y.x.v)(hs:y.s=0)(hn:y.next=2)(hS:Sep w0 w (jL H c aw seq b vb pb sb xp rv y++R)),ba 219 #[O b] w (.tuple #[.agg (eF (Vw.ask y.x.v).1).toArray,.bool (Vw.ask y.x.v).2]))∧(∀{w0 w:World}{R:List a_}{c:cA}(aE:Y.Ok c){H:List Value}{aw seq:Int}{b eb vb pb sb:Nat}{pv rv:Value}{aO:List Value}(hE:BH (ae c) pv vb pb sb H){y:B.St}(bX:y.args.length=4)(hs:y.s=0)(hn:y.next=4)(J5:Vw.VS y.x.v)(hS:Sep w0 w (Af H c aw seq b eb vb pb sb aO rv y++R)),ba 219 #[O b] w (.tuple #[.agg (eF (X.ask y.x).1).toArray,.bool (X.ask y.x).2]))∧(∀{w0 w R c}(aE:Y.Ok c){H aw seq b vb pb sb pv xp rv}(hE:BH (ae c) pv vb pb sb H){y}(bX:y.args.length=4)(hs:y.s=0)(hn:y.next=1)(hS:Sep w0 w (jL H c aw seq b vb pb sb xp rv y++R)),ba 219 #[O b] w (.tuple #[.agg (eF ⟨0,at_ c 1 y.u 0,0,0,0,0⟩).toArray,.bool true]))∧(∀{w0 w R c}(aE:Y.Ok c){H aw seq b vb pb sb pv xp rv}(hE:BH (ae c) pv vb pb sb H){y}(bX:y.args.length=4)(hs:y.s=0)(hn:y.next=3)(hS:Sep w0 w (jL H c aw seq b vb pb sb xp rv y++R)),ba 219 #[O b] w (.tuple #[.agg (eF ⟨0,at_ c 2 y.u y.given,0,0,0,0⟩).toArray,.bool true])):=by
 refine⟨?_,?_,?_,?_,?_,?_,?_,?_,?_,?_,?_,?_,?_,?_,?_,?_⟩;focus
  intro w0 w R c aw seq b pv aO y bX hS
 rotate_left;focus
  intro w0 w R c aw seq b pv aO y bX hs v n ok hS
 rotate_left;focus
  intro w0 w R c aw seq b pv aO y bX hs hS
 rotate_left 14;iterate 3
  focus
   obtain⟨H,vb,pb,sb,hE,h⟩:=lG hS;obtain⟨xp,rv,hB⟩:∃xp rv,cB w b 231 (H++ji xp rv y.args y):=by
    rcases h with⟨_,eb,rv,h⟩|⟨_,xp,rv,h⟩
    ·exact⟨_,rv,h.ar 0 rfl⟩
    ·exact⟨xp,rv,h.ar 0 rfl⟩
  rotate_left
 rotate_left 13;focus
  clear hS h
 rotate_left;focus
  have El:(y.s==0)=false:=by simpa using hs
  have HS:=aa hS;clear hS h hs;generalize df c aw seq b pv aO y=T at*
 rotate_left;focus
  have El:(y.s !=0)=true:=by simpa using hs
  clear hS h hs
 rotate_left;focus
  intro w0 w R c aE H aw seq b vb pb sb pv xp rv aO hE y bX hs hn hp hd v n hv ok hS;have J3:=aa (λw' RR hS=>QG (w0:=w0) (w:=w') (R:=RR) pb c aE seq v n ok hv y.x.p hp hS);have Te:=aa (λw' hS=>Fu (w0:=w0) (w:=w') (R:=R) aE (H:=H) (aw:=aw) (seq:=seq) (b:=b) (vb:=vb) (pb:=pb) (sb:=sb) (xp:=xp) (rv:=rv) hE (y:={y with x:={y.x with p:=P.tell c seq v n y.x.p}}) bX (P.vw aE hp seq v n hv) hd hS);generalize B.mL c _=T at*;clear hp hd
 rotate_left;focus
  intro w0 w R c aE H aw seq b vb pb sb pv xp rv aO hE y hq J5 hs hn v n ok hS;have J3:=aa (λw' RR hS=>B7 (w0:=w0) (w:=w') (R:=RR) vb (ae c) rfl aw seq y.x.v J5 v n ok hS);have Te:=aa (λw' hS=>Qx (w0:=w0) (w:=w') (R:=R) aE (H:=H) (aw:=aw) (seq:=seq) (b:=b) (vb:=vb) (pb:=pb) (sb:=sb) (xp:=xp) (rv:=rv) hE (y:={y with x:={y.x with v:=Vw.tell seq v n y.x.v}}) ⟨hq.args,hq.u,hq.nt,hq.nl,hq.dn⟩ hS);generalize B.tag c _=T at*;have bX:=hq.args;clear hq
 rotate_left;focus
  intro w0 w R c aE H aw seq b eb vb pb sb pv rv aO ai hE hP y bX tq Fy hG hs hn nR v n hv ok hX hq hS;have Tb:Hid (∀w',Sep w0 w' R→dJ w' (sL aO y.av) y.code):=aa (λw' h=>Fy▸(hP w' h).code tq.1);have J3:=aa (λw' RR hC hS=>Cl (w0:=w0) (w:=w') (R:=RR) aE (aw:=aw) (seq:=seq) (b:=eb) (vb:=vb) (pb:=pb) (sb:=sb) (cv:=sL aO y.av) bX hC hG v n hv ok hS);have Te:=aa (λw' hS=>Fv (w0:=w0) (w:=w') (R:=R) aE (H:=H) (aw:=aw) (seq:=seq) (b:=b) (eb:=eb) (vb:=vb) (pb:=pb) (sb:=sb) (rv:=rv) (aO:=aO) hE (y:={y with x:=X.tell c y.code y.args seq v n y.x}) hn bX hX nR hq hS);generalize B.A_ c _=T at*;clear hX hq nR hG tq hP Fy
 rotate_left;iterate 3
  focus intro w0 w R c H aw seq b vb pb sb pv xp rv aO hE y bX hs hn hg v n ok hS
  rotate_left
 focus intro w0 w R c aE H aw seq b vb pb sb pv xp rv aO ai hE hP y bX tq hd J5 JQ nR hs hn hg v n ok hX hq hS;have Te:=aa (λw' hS=>IB (w0:=w0) (w:=w') (R:=R) aE (H:=H) (aw:=aw) (seq:=seq) (b:=b) (vb:=vb) (pb:=pb) (sb:=sb) (xp:=xp) (rv:=rv) hE hP (y:={y with args:=y.args.set 3 v,given:=3+1}) (by rw[cF];exact bX) tq hd J5 JQ nR hX hq hS);generalize B.dI c ai _=T at*;clear hX hq nR tq hd J5 JQ hP
 rotate_left;focus
  intro w0 w R c aE H aw seq b vb pb sb pv xp rv aO hE y hq Jf hs hn v n ok hS;have Te:=aa (λw' hS=>Qz (w0:=w0) (w:=w') (R:=R) aE (H:=H) (aw:=aw) (seq:=seq) (b:=b) (vb:=vb) (pb:=pb) (sb:=sb) (xp:=xp) (rv:=rv) hE (y:={y with av:=v,an:=n}) ⟨hq.args,hq.u,hq.nt,hq.nl,hq.dn⟩ Jf hS);generalize B.je c _=T at*;have bX:=hq.args;have oX:∀u∈ [U v,U n],u.oneCell'=true:=by simp[Value.oneCell']
  clear hq
 rotate_left;focus
  intro w0 w R c aE H aw seq b vb pb sb pv xp rv hE y bX hs hn hp hS;have A0:=aa (λw' RR hS=>Vj (w0:=w0) (w:=w') (R:=RR) pb c aE seq y.x.p hp hS);generalize P.ask c y.x.p=pa at*;obtain⟨sK,Fl⟩:=pa;have fF:=dg sK;clear hp
 rotate_left;focus
  intro w0 w R c aE H aw seq b vb pb sb pv xp rv hE y bX J5 hs hn hS;have A0:=aa (fun(w':World) hB=>E4 w' vb (ae c) rfl aw seq y.x.v J5 hB);generalize Vw.ask y.x.v=pa at*;obtain⟨sK,Fl⟩:=pa;have fF:=dg sK
 rotate_left;focus
  intro w0 w R c aE H aw seq b eb vb pb sb pv rv aO hE y bX hs hn J5 hS;have A0:=aa (λw' RR hS=>Fk (w0:=w0) (w:=w') (R:=RR) (c:=c) (aw:=aw) (seq:=seq) (b:=eb) (vb:=vb) (pb:=pb) (sb:=sb) (cv:=sL aO y.av) (args:=y.args) (x:=y.x) J5 hS);generalize X.ask y.x=pa at*;obtain⟨sK,Fl⟩:=pa;have fF:=dg sK;clear J5
 rotate_left;iterate 2
  focus intro w0 w R c aE H aw seq b vb pb sb pv xp rv hE y bX hs hn hS
  rotate_left
 rotate_left 14;focus
  have h_:=aa (λw=>cx w c aE 1 y.u 0);generalize at_ c 1 y.u 0=pp at*
 rotate_left;focus
  have h_:=aa (λw=>cx w c aE 2 y.u y.given);generalize at_ c 2 y.u y.given=pp at*
 rotate_left 15;iterate 2
  focus have fF:=dg ⟨0,pp,0,0,0,0⟩
  rotate_left
 all_goals
  obtain⟨bx,gX,ij,bu,tO,rH,cq,eR,ft,bs⟩:=y;dsimp only at*;obtain⟨a0,a1,a2,a3,rfl⟩:∃a0 a1 a2 a3,cq=[a0,a1,a2,a3]:=by
   match cq,bX with
   |[a0,a1,a2,a3],_=>exact⟨a0,a1,a2,a3,rfl⟩
  have gO:bC [a0,a1,a2,a3]=[U a0,U a1,U a2,U a3]:=rfl
 iterate 3
  focus simp only[ji,gO,za]at hB
  rotate_left
 iterate 2
  focus simp only[jL,ji,gO,za]at hS⊢
  rotate_left
 focus simp only[jL,Af,ji,gO,za]at hS⊢
 rotate_left;iterate 4
  focus simp only[jL,ji,gO,za]at hS⊢
  rotate_left
 focus simp only[jL,ji,gO,za]at hS⊢
 rotate_left;iterate 5
  focus simp only[jL,Af,ji,gO,za]at hS
  rotate_left
 rotate_left 3;iterate 13
  focus have aD:(ae c).length=24:=rfl
  rotate_left
 all_goals have HE:=aa hE
 rotate_left 3;iterate 8
  focus have HS:=aa hS;clear hS bX hE gO
  rotate_left
 rotate_left 8;iterate 3
  focus subst hs hn
  rotate_left
 rotate_left 13;iterate 2
  focus obtain⟨xv,xp2,xw,Iq,xs,rI,xc,Mu⟩:=bx;dsimp only at*
  rotate_left
 rotate_left 14;focus
  generalize P.tell c seq v n xp2=xp3 at*
 rotate_left;focus
  generalize Vw.tell seq v n xv=xv3 at*
 rotate_left;focus
  generalize X.tell c gX [a0,a1,a2,a3] seq v n bx=x3 at*
 rotate_left;iterate 4
  focus subst hs hn hg
  rotate_left
 rotate_left 12;iterate 3
  focus simp only[zs,bC,zm,za]
  rotate_left
 focus simp only[zs]at Te
 rotate_left;focus
  subst hs hn
 rotate_left 9;iterate 8
  focus have jM:=aa (HS.new 84 [U v,U n,.bool ok]);have hB:=jM.ar 1 rfl
  rotate_left
 iterate 5
  focus clear bX hE gO;subst hs hn
  rotate_left
 rotate_left 14;iterate 2
  focus unfold aY at*;generalize ae c=cs at*
  rotate_left
 rotate_left 11;iterate 5
  focus have HT:=aa hS;have HN:=aa ((Sep.nil (Fr.refl [] w)).new 82 [I 0,I 0,U 0,U 0,U 0,U 0]);have hB:=HT.ar 0 rfl
  rotate_left
 all_goals obtain⟨f39,Zs⟩:=hB.fe HE.len 39 rfl rfl
 iterate 3
  focus have fl:=hB.lt
  rotate_left
 rotate_left 13;iterate 2
  focus clear hE hB gO
  rotate_left
 rotate_left 14;focus
  delta ba;go_in;go_wp2;go_ret
 rotate_left;focus
  delta bR;go_in;go_wp2;refine aV (fV rfl _ _ _) rfl ?_
 rotate_left;focus
  have fD:=dg p0;have HN:=aa ((Sep.nil (Fr.refl [] w)).new 82 [I 0,I 0,U 0,U 0,U 0,U 0]);clear hE hB gO;delta ba;go_in;go_wp2_with(refine aC HN.out 0 rfl (eF p0) 82 _ _ rfl rfl rfl rfl rfl (by kernel_rfl) fD (λwA hA _=>?_);have de:=aa hA;clear hA)
 rotate_left;iterate 13
  focus obtain⟨f29,nQ⟩:=hB.fe HE.len 29 rfl rfl
  rotate_left
 rotate_left 3;iterate 7
  focus have fl:=hB.lt;delta bR;go_in;go_wp2_with fail;generalize World.alloc _ _=W1 at jM⊢;clear f39 Zs f29 nQ fl hB;have hB:=(jM.ar 1 rfl).drew;have hO:=(jM.ar 0 rfl).drew
  rotate_left
 rotate_left 9;focus
  have f26:=hB.fM HE.len 26 rfl HE.out.p
 rotate_left;focus
  have f25:=hB.fM HE.len 25 rfl HE.out.v
 rotate_left;focus
  obtain⟨f28,lu⟩:=hB.fe HE.len 28 rfl rfl
 rotate_left 14;iterate 3
  focus
   have o0:=hO.cell 0;have o1:=hO.cell 1;have o2:=hO.cell 2;have ol:=hO.lt;have fl:=hB.lt;simp only[zg]at o0 o1 o2;refine bW [(1,[0,1,2,3,4]),(3,[5])] (by kernel_rfl) ?_;simp only[zz];repeat(first|go_big_quiet_step(fail)|quiet_step(fail)|apply ax|apply af|apply ag|apply ah)
   refine ao ?_;go_wp2_with fail
  rotate_left
 rotate_left 13;focus
  refine(J3.out _ _ (jM.drew.tail.pull 3 rfl)).kk λw2 h1=>?_;have HS:=aa (((h1.pull 3 rfl).pull 3 rfl).pull 3 rfl);clear h1 hB f26 fl hO o0 o1 o2 ol
 rotate_left;focus
  refine(J3.out _ _ (jM.drew.tail.pull 2 rfl)).kk λw2 h1=>?_;have HS:=aa ((h1.pull 2 rfl).pull 2 rfl);clear h1 hB f25 fl hO o0 o1 o2 ol
 rotate_left;focus
  refine(J3.out _ _ (λw' h=>Tb.out w' h.tail.tail) (jM.drew.tail.pull 2 rfl)).kk λw2 h1=>?_;have HS:=aa ((h1.pull 2 rfl).pull 2 rfl);clear h1 hB f28 lu fl hO o0 o1 o2 ol
 rotate_left 14;iterate 3
  focus go_wp2;refine aj ?_;go_wp2_with fail;refine(Te.out _ HS.out).kh λw3 HS=>?_;go_wp2;go_end0
  rotate_left
 iterate 4
  focus obtain⟨f37,yE⟩:=hB.fe HE.len 37 rfl rfl
  rotate_left
 rotate_left 12;focus
  obtain⟨fa,Zw⟩:=hB.fe HE.len 33 rfl rfl
 rotate_left;focus
  obtain⟨fa,Zw⟩:=hB.fe HE.len 34 rfl rfl
 rotate_left;focus
  obtain⟨fa,Zw⟩:=hB.fe HE.len 35 rfl rfl
 rotate_left;focus
  obtain⟨fa,Zw⟩:=hB.fe HE.len 36 rfl rfl
 rotate_left 13;iterate 4
  focus have o0:=hO.cell 0;have ol:=hO.lt;have fl:=hB.lt;simp only[zg]at o0
  rotate_left
 rotate_left 12;focus
  have h5:=(jM.set 1 rfl 33 (U v)).drew;simp only[aL,fY HE.len _ 33 _ (by omega),Nat.reduceSub,aN]at h5
 rotate_left;focus
  have h5:=(jM.set 1 rfl 34 (U v)).drew;simp only[aL,fY HE.len _ 34 _ (by omega),Nat.reduceSub,aN]at h5
 rotate_left;focus
  have h5:=(jM.set 1 rfl 35 (U v)).drew;simp only[aL,fY HE.len _ 35 _ (by omega),Nat.reduceSub,aN]at h5
 rotate_left;focus
  have h5:=(jM.set 1 rfl 36 (U v)).drew;simp only[aL,fY HE.len _ 36 _ (by omega),Nat.reduceSub,aN]at h5
 rotate_left 13;iterate 4
  focus have jM:=aa h5;clear h5;refine bW [(1,[0,1,2,3,4,5,6,7,8,9,10]),(3,[11])] (by kernel_rfl) ?_;simp only[zz]
  rotate_left
 rotate_left 12;iterate 3
  focus repeat(first|go_big_quiet_step(fail)|apply ax|apply af|apply ag|apply ah)
  rotate_left
 focus repeat(first|go_big_quiet_step(fail)|quiet_step(fail)|apply ax|apply af|apply ag|apply ah)
 rotate_left 13;iterate 4
  focus refine ao ?_;go_wp2;refine aj ?_;have HS:=aa jM.tail;generalize World.drew _=w3 at HS⊢;clear hB hO f37 yE fa Zw o0 ol fl jM;obtain⟨f37,yE⟩:=(HS.ar 0 rfl).fe HE.len 37 rfl rfl;have fl:=(HS.ar 0 rfl).lt
  rotate_left
 rotate_left 12;focus
  have h5:=HS.set 0 rfl 37 (I (0+1))
 rotate_left;focus
  have h5:=HS.set 0 rfl 37 (I (1+1))
 rotate_left;focus
  have h5:=HS.set 0 rfl 37 (I (2+1))
 rotate_left;focus
  have h5:=HS.set 0 rfl 37 (I (3+1))
 rotate_left 13;iterate 4
  focus simp only[aL,fY HE.len _ 37 _ (by omega),Nat.reduceSub,aN,Int.reduceAdd]at h5;have HS:=aa h5;clear h5
  rotate_left
 rotate_left 12;iterate 3
  focus go_wp2;go_end0
  rotate_left
 focus go_wp2_with fail;refine(Te.out _ HS.out).kh λw5 HS=>?_;go_wp2;go_end0
 rotate_left;focus
  have hO:=jM.ar 0 rfl;have o0:=hO.cell 0;have o1:=hO.cell 1;have ol:=hO.lt;simp only[zg]at o0 o1;have hle:=HE.len;have fl:=(jM.ar 1 rfl).lt;delta bR;go_in;go_wp2_with(refine fz jM.out 1 rfl 31 [U v,U n] 68 _ _ rfl rfl rfl rfl (by rw[eE,hle];simp) (by kernel_rfl) oX (λwA hA _=>?_);simp only[aL,aN,Zv HE.len]at hA;have de:=aa hA.tail;clear hA);clear hO o0 o1 ol fl f39 Zs f29 nQ hB;refine(Te.out _ de.out).kh λw3 HS=>?_;go_wp2;go_end0
 rotate_left;iterate 5
  focus have fl:=hB.lt;clear hS
  rotate_left
 rotate_left 11;focus
  have f26:=hB.fM HE.len 26 rfl HE.out.p;clear hB;delta ba;go_in;go_wp2_with fail;refine(A0.out _ _ ((HT.c_ HN.fr).pull 3 rfl)).kq HN λw1 HN=>?_
 rotate_left;focus
  have f25:=hB.fM HE.len 25 rfl HE.out.v;clear hB;delta ba;go_in;go_wp2_with fail;refine(A0.out _ ((HT.c_ HN.fr).ar 2 rfl)).kq HN λw1 HN=>?_
 rotate_left;focus
  obtain⟨f28,lu⟩:=hB.fe HE.len 28 rfl rfl;clear hB;delta ba;go_in;go_wp2_with fail;refine(A0.out _ _ ((HT.c_ HN.fr).pull 2 rfl)).kq HN λw1 HN=>?_
 rotate_left 14;iterate 3
  focus go_wp2_with(refine aC HN.out 0 rfl (eF sK) 82 _ _ rfl rfl rfl rfl rfl (by kernel_rfl) fF (λwA hA _=>?_);have de:=aa hA;clear hA)
  rotate_left
 iterate 2
  focus clear hB;delta ba;go_in;go_wp2_with fail;clear f39 Zs f29 nQ fl;have HT:=aa (HT.c_ HN.fr);generalize World.alloc _ _=W1 at HN HT⊢;have hB:=(HT.ar 0 rfl).drew;have f30:=hB.aR HE.len 30 rfl rfl;have f37:=hB.aR HE.len 37 rfl rfl;have fl:=hB.lt
  rotate_left
 rotate_left 14;focus
  refine bW [(1,[0,1,2,3,4,5,6,7]),(3,[8]),(0,[9]),(3,[10]),(0,[11])] (by kernel_rfl) ?_
 rotate_left;focus
  refine bW [(1,[0,1,2,3,4,5,6,7,8,9,10,11]),(3,[12]),(0,[13]),(3,[14]),(0,[15])] (by kernel_rfl) ?_
 rotate_left 15;iterate 2
  focus
   simp only[zz];refine af ?_;repeat(first|(refine ak 58 _ b 0 cs _ rfl rfl rfl (aG (nS aD HE.out hB) (by simp)) underlying58 rfl (by rw[aD];kernel_rfl) ?_;simp only[Act.put,aZ,aL,aN])|go_big_quiet_step (fail)|quiet_step (fail))
   refine ax ?_;refine ao ?_;go_wp2_with fail;refine(h_.out _).kq HN.dr λw2 HN=>?_;clear f30 f37 fl hB;go_wp2_with fail;repeat(first|go_big_quiet_step(fail)|quiet_step(fail)|apply ax|apply af|apply ag|apply ah)
   refine ao ?_;refine aC HN.out 0 rfl (eF ⟨0,pp,0,0,0,0⟩) 82 _ _ rfl rfl rfl rfl rfl (by kernel_rfl) fF (λwA hA _=>?_);have de:=aa hA;clear hA;go_wp2_with fail;repeat(first|go_big_quiet_step(fail)|quiet_step(fail)|apply ax|apply af|apply ag|apply ah)
   refine aj ?_;go_wp2_with fail
  rotate_left
 ·exact⟨rfl,Fr.refl _ _⟩
 ·exact⟨rfl,HS.alloc _⟩
 ·exact aV (v:= .tuple #[.agg (eF (p0)).toArray,.bool false]) (bj Tryz.results219 rfl rfl (de.ar 0 rfl).range underlying82 rfl (by kernel_rfl)) rfl ⟨rfl,de.fr⟩
 iterate 8
  focus exact⟨rfl,HS.out⟩
 iterate 3
  focus exact aV (v:= .tuple #[.agg (eF (sK)).toArray,.bool Fl]) (bj Tryz.results219 rfl rfl (de.ar 0 rfl).range underlying82 rfl (by kernel_rfl)) rfl ⟨rfl,de.fr⟩
 iterate 2
  focus exact aV (v:= .tuple #[.agg (eF (⟨0,pp,0,0,0,0⟩)).toArray,.bool true]) (bj Tryz.results219 rfl rfl (de.ar 0 rfl).range underlying82 rfl (by kernel_rfl)) rfl ⟨rfl,de.fr⟩
def sM:=@zq29.1
def QQ:=@zq29.2.1
def Vq:=@zq29.2.2.1
def Vm:=@zq29.2.2.2.1
def Vo:=@zq29.2.2.2.2.1
def Vp:=@zq29.2.2.2.2.2.1
def QI:=@zq29.2.2.2.2.2.2.1
def QJ:=@zq29.2.2.2.2.2.2.2.1
def QL:=@zq29.2.2.2.2.2.2.2.2.1
def QO:=@zq29.2.2.2.2.2.2.2.2.2.1
def Vn:=@zq29.2.2.2.2.2.2.2.2.2.2.1
def Zz:=@zq29.2.2.2.2.2.2.2.2.2.2.2.1
def ZA:=@zq29.2.2.2.2.2.2.2.2.2.2.2.2.1
def ZB:=@zq29.2.2.2.2.2.2.2.2.2.2.2.2.2.1
def ZC:=@zq29.2.2.2.2.2.2.2.2.2.2.2.2.2.2.1
def ZD:=@zq29.2.2.2.2.2.2.2.2.2.2.2.2.2.2.2
def BV.bq {c}(aE:Y.Ok c){y}(ha:y.args.length=4)(hu:0≤y.u∧y.u≤8){m}(h:BV c m y.x)(hm:m≤900000):BQ c y:=
 ⟨ha,hu,h.nt,h.nl,by have:=h.dn;omega⟩
def Fz (c y)(h:y.next≠4):(B.mL c y).next≠4:=by
 unfold B.mL B.settled;split
 ·exact h
 ·split
  ·show(1:Int)≠4;decide
  ·exact h
def QR (c y):(B.je c y).next≠4:=by
 unfold B.je;split
 ·rw[oy];decide
 ·show(2:Int)≠4;decide
def QS (c y)(h:y.next≠4):(B.tag c y).next≠4:=by
 unfold B.tag;split
 ·exact h
 ·split
  ·rw[oy];decide
  ·show(3:Int)≠4;decide
def MB {w0 w:World}{R:List a_}{c:cA}(aE:Y.Ok c){aw seq:Int}{b:Nat}{pv:Value}{aO:List Value}{ai:List (List In)}(hP:∀w',Sep w0 w' R→cL w' pv aO ai)(Zx:PU ai){y:B.St}(h:BI c ai y)(v n:Int)(hv:W.U_ v)(Zy:W.U_ n)(ok:Bool)(hS:Sep w0 w (df c aw seq b pv aO y::R)):
 bR 220 #[O b,.agg #[U v,U n,.bool ok]] w w0 (df c aw seq b pv aO (B.tell c ai seq v n y)::R):=by
 have hb:=h.bb;have sg:=aE.t8;have hu8:0≤y.u∧y.u≤8:=by have:=hb.u;omega
 have nR:y.rows.length≤8:=by have:=hb.rows;omega
 have kT:=h.next;unfold B.tell;by_cases hs:y.s=0
 ·rw[aq (by omega)];obtain⟨H,vb,pb,sb,hE,hh⟩:=lG hS;rcases hh with⟨h4,eb,rv,du⟩|⟨xW,xp,rv,du⟩
  ·rw[aq (by omega),aq (by omega),aq (by omega),aq (by omega)];obtain⟨hx,hm,hc⟩:=h.x4 h4;have t1:=hx.tell y.args seq v n hv;refine Vp aE hE hP hb.args hb.av hc hx hs h4 nR v n hv ok t1 (λ_=>?_) du;have h1:=Ae (b:={y with x:=X.tell c y.code y.args seq v n y.x}) {hb with} t1 (by dsimp only;rw[eK];exact hm);exact h1.2.bq aE h1.1.args (by show 0≤y.u∧y.u≤8;omega) (by show 2000+100*y.u+98≤900000;omega)
  ·have hx:=h.xv xW;have hq:BQ c y:=hx.bq aE hb.args hu8 (by omega);by_cases h0:y.next=0
   ·rw[aB h0];have hz:=h.z h0;exact(Vm (aO:=aO) aE hE hb.args hs h0 hz.1 (by rw[hz.2];simp) v n hv ok du).mono λ_ _ h=>⟨h.1,kW hE (Fz c _ (by show y.next≠4;omega)) h.2⟩
   rw[aq h0];by_cases h1:y.next=1
   ·rw[aB h1];exact(Vn (aO:=aO) aE hE hq (hb.us hs) hs h1 v n ok du).mono λ_ _ h=>⟨h.1,kW hE (QR c _) h.2⟩
   rw[aq h1];by_cases h2:y.next=2
   ·rw[aB h2];exact(Vo (aO:=aO) aE hE hq hx.vs hs h2 v n ok du).mono λ_ _ h=>⟨h.1,kW hE (QS c _ (by show y.next≠4;omega)) h.2⟩
   rw[aq h2];have h3:y.next=3:=by omega
   rw[aB h3];have hg:=h.g3 hs h3;have Xj:=hb.given;rcases(show y.given=0∨y.given=1∨y.given=2∨y.given=3 by omega)with nP|nP|nP|nP
   ·rw[aq (by omega)];exact(QI (aO:=aO) hE hb.args hs h3 nP v n ok du).mono λ_ _ h=>⟨h.1,kW hE (by show y.next≠4;omega) (by rw[nP];exact h.2)⟩
   ·rw[aq (by omega)];exact(QJ (aO:=aO) hE hb.args hs h3 nP v n ok du).mono λ_ _ h=>⟨h.1,kW hE (by show y.next≠4;omega) (by rw[nP];exact h.2)⟩
   ·rw[aq (by omega)];exact(QL (aO:=aO) hE hb.args hs h3 nP v n ok du).mono λ_ _ h=>⟨h.1,kW hE (by show y.next≠4;omega) (by rw[nP];exact h.2)⟩
   ·rw[aB (by omega),nP];have p6:∀r∈y.args.set 3 v,W.U_ r:=λr hr=>by
     rcases k_ hr with h1|h1
     ·exact hb.au r h1
     ·subst h1;exact hv
    have p5:y.x.w.done.length≤500000:=by have:=hx.dn;omega
    have t1:=XG.new (c:=c) (Zx.code y.av) (y.args.set 3 v) (v:=y.x.v) (p:=y.x.p) (s:=y.x.w) p5 hx.wu hx.vs hx.vv hx.nt hx.nl;refine QO aE hE hP hb.args hb.av p5 hx.vs (Zx.code y.av) nR hs h3 nP v n ok t1 (λ_=>?_) du;have h1:=Ae (b:={y with args:=y.args.set 3 v,given:=3+1,code:=B.bU ai y.av,x:=X.new c (B.bU ai y.av) (y.args.set 3 v) y.x.v y.x.p y.x.w,next:=4}) {hb with args:=by dsimp only;rw[cF];exact hb.args,au:=p6,given:=by dsimp only;omega} t1 (by dsimp only;rw[Su];have:=hx.dn;omega);exact h1.2.bq aE h1.1.args (by show 0≤y.u∧y.u≤8;omega) (by show 2000+100*y.u+98≤900000;omega)
 ·rw[aB (by omega)];exact QQ hb.args hs v n ok hS
def QU {w0 w:World}{R:List a_}{c:cA}(aE:Y.Ok c){aw seq:Int}{b:Nat}{pv:Value}{aO:List Value}{ai:List (List In)}{y:B.St}(h:BI c ai y)(hS:Sep w0 w (df c aw seq b pv aO y::R)):
 ba 219 #[O b] w (.tuple #[.agg (eF (B.ask c aw y).1).toArray,.bool (B.ask c aw y).2]):=by
 have hb:=h.bb;have kT:=h.next;unfold B.ask;by_cases hs:y.s=0
 ·rw[aq (by omega)];obtain⟨H,vb,pb,sb,hE,hh⟩:=lG hS;rcases hh with⟨h4,eb,rv,du⟩|⟨xW,xp,rv,du⟩
  ·rw[aq (by omega),aq (by omega),aq (by omega),aq (by omega)];exact ZB aE hE hb.args hs h4 (h.x4 h4).1.xv.vs du
  ·by_cases h0:y.next=0
   ·rw[aB h0];exact Zz aE hE hb.args hs h0 (h.z h0).1 du
   rw[aq h0];by_cases h1:y.next=1
   ·rw[aB h1];exact ZC aE hE hb.args hs h1 du
   rw[aq h1];by_cases h2:y.next=2
   ·rw[aB h2];exact ZA aE hE hb.args (h.xv xW).vs hs h2 du
   rw[aq h2,aB (by omega)];exact ZD aE hE hb.args hs (by omega) du
 ·rw[aB (by omega)];exact Vq hb.args hs hS
def QV {c}(aE:Y.Ok c):lo (cap c)=(cap c).toNat:=by
 have h:=iI aE;unfold lo
 repeat' split
 all_goals omega
def QW {w0 w R c}(aE:Y.Ok c)(aw seq pa pn pc aO)(hS:Sep w0 w R):
 Calls Tryz.prog 111 #[aY c,I aw,U seq,.slice pa pn pc] w λr w'=>∃b,r= .returned (O b)∧Sep w0 w' (df c aw seq b (.slice pa pn pc) aO (B.fw c)::R):=by
 have xD:=QV aE;have tS:Hid (∀w' b vb pb sb,Sep w0 w' (aJ b 231 (Xh (ae c) (.slice pa pn pc) vb pb sb++[.pointer none,I 0,I 0,U 0,U 0,U 0,U 0,U 0,U 0,I 0,.slice none 0 0,I 0])::aU 0 178 5 (.slice none 0 0) 0 []::cw sb ⟨lo (cap c),[],[]⟩::bE c seq pb P.fw::aJ vb 258 (Vw.eU (ae c) aw seq ⟨-1,0,0,0,0,1⟩)::R)→Sep w0 w' (df c aw seq b (.slice pa pn pc) aO (B.fw c)::R)):=aa (λw' b vb pb sb h=>by
  have h1:=Ac (ty:=178) (Fp:=26) (k:=5) (en:=gW) (pd:=B.Row.news) (v:= .slice none 0 0) (L:=[]) (dY:=[]) rfl ((h.pull 1 rfl).ud.pull 1 rfl);refine kW (H:=Xh (ae c) (.slice pa pn pc) vb pb sb) (vb:=vb) (pb:=pb) (sb:=sb) (xp:= .pointer none) (rv:= .slice none 0 0) (Zq rfl (.slice pa pn pc) vb pb sb) (by show¬(0:Int)=4;decide) ?_;rw[xD]at h1;exact(((((h1.pull 2 rfl).pull 3 rfl).pull 4 rfl).pull 3 rfl).pull 4 rfl))
 have ZE:=aa (λw=>E3 w (ae c) rfl aw seq);have DE:=aa (λw=>EZ w c seq);have S_:=aa (λw=>uY w c aE);have Ic:=aa (λw=>EU w (cap c));generalize cap c=cp at*;have aD:(ae c).length=24:=rfl;unfold aY at*;obtain⟨NT,XI⟩:∃NT:Nat→a_,NT=λb=>df c aw seq b (.slice pa pn pc) aO (B.fw c):=⟨_,rfl⟩;have tS:Hid (∀w' b vb pb sb,Sep w0 w' (aJ b 231 (Xh (ae c) (.slice pa pn pc) vb pb sb++[.pointer none,I 0,I 0,U 0,U 0,U 0,U 0,U 0,U 0,I 0,.slice none 0 0,I 0])::aU 0 178 5 (.slice none 0 0) 0 []::cw sb ⟨lo cp,[],[]⟩::bE c seq pb P.fw::aJ vb 258 (Vw.eU (ae c) aw seq ⟨-1,0,0,0,0,1⟩)::R)→Sep w0 w' (NT b::R)):=aa (λw' b vb pb sb h=>by rw[XI];exact tS.out w' b vb pb sb h);suffices pG:Calls Tryz.prog 111 #[Value.agg (ae c).toArray,I aw,U seq,.slice pa pn pc] w λr w'=>∃b,r= .returned (O b)∧Sep w0 w' (NT b::R) by
  rw[XI]at pG;exact pG
 clear XI xD;obtain⟨PT,yC⟩:∃PT:Nat→a_,PT=λpb=>bE c seq pb P.fw:=⟨_,rfl⟩;have DE:Hid (∀w,Calls Tryz.prog 135 #[Value.agg (ae c).toArray,U seq] w λe w'=>∃b,e= .returned (O b)∧Sep w w' [PT b]):=aa (by rw[yC];exact DE.out);have tS:Hid (∀w' b vb pb sb,Sep w0 w' (aJ b 231 (Xh (ae c) (.slice pa pn pc) vb pb sb++[.pointer none,I 0,I 0,U 0,U 0,U 0,U 0,U 0,U 0,I 0,.slice none 0 0,I 0])::aU 0 178 5 (.slice none 0 0) 0 []::cw sb ⟨lo cp,[],[]⟩::PT pb::aJ vb 258 (Vw.eU (ae c) aw seq ⟨-1,0,0,0,0,1⟩)::R)→Sep w0 w' (NT b::R)):=aa (by rw[yC];exact tS.out);clear yC;obtain⟨VT,ZF⟩:∃VT:Nat→a_,VT=λvb=>aJ vb 258 (Vw.eU (ae c) aw seq ⟨-1,0,0,0,0,1⟩):=⟨_,rfl⟩;have ZE:Hid (∀w,Calls Tryz.prog 134 #[Value.agg (ae c).toArray,I aw,U seq] w λe w'=>∃b,e= .returned (O b)∧Sep w w' [VT b]):=aa (by rw[ZF];exact ZE.out);have tS:Hid (∀w' b vb pb sb,Sep w0 w' (aJ b 231 (Xh (ae c) (.slice pa pn pc) vb pb sb++[.pointer none,I 0,I 0,U 0,U 0,U 0,U 0,U 0,U 0,I 0,.slice none 0 0,I 0])::aU 0 178 5 (.slice none 0 0) 0 []::cw sb ⟨lo cp,[],[]⟩::PT pb::VT vb::R)→Sep w0 w' (NT b::R)):=aa (by rw[ZF];exact tS.out);clear ZF;generalize ae c=cs at*;obtain⟨x0,x1,x2,x3,x4,x5,x6,x7,x8,x9,l4,l5,l6,l7,l8,l9,l_,mf,mh,mi,mj,mm,mo,mq,rfl⟩:=rQ aD;simp only[Xh,za]at tS;have HS:=aa (hS.new 58 [x0,x1,x2,x3,x4,x5,x6,x7,x8,x9,l4,l5,l6,l7,l8,l9,l_,mf,mh,mi,mj,mm,mo,mq]);clear hS;go_in;go_wp2_with fail;have hM:=(HS.ar 0 rfl).drew;refine bW [(1,[0,1,2,3,4,6,7,9]),(2,[5]),(2,[8]),(2,[10]),(2,[11]),(0,[12]),(3,[13]),(0,[14])] (by kernel_rfl) ?_;simp only[zz];refine af ?_;repeat(first|(refine ak 58 _ w.heap.size 0 [x0,x1,x2,x3,x4,x5,x6,x7,x8,x9,l4,l5,l6,l7,l8,l9,l_,mf,mh,mi,mj,mm,mo,mq] _ rfl rfl rfl (bL hM (by simp)) underlying58 rfl (by kernel_rfl) ?_;simp only[Act.put,aZ,zs])|go_big_quiet_step (fail)|quiet_step (fail))
 refine ax ?_;refine aA ?_;go_wp2_with fail;refine(ZE.out _).mono ?_;rintro r w2 ⟨vb,rfl,h1⟩;have HF:=aa h1.fr;have HS:=aa (HS.drew.tail.fresh h1.jm);clear h1;go_wp2;refine⟨⟨⟨_,(by exact HF.out)⟩,rfl⟩,?_⟩;refine aA ?_;go_wp2_with fail;refine(DE.out _).mono ?_;rintro r w3 ⟨pb,rfl,h1⟩;have BP:=aa h1.fr;have HS:=aa (HS.fresh h1.jm);clear h1;go_wp2;refine⟨⟨⟨_,(by exact HF.trans BP.out)⟩,rfl⟩,?_⟩;refine aA ?_;go_wp2_with fail;refine(S_.out _).kf HS λw4 Xl HS=>?_;go_wp2;refine⟨⟨⟨_,(by exact(HF.trans BP.out).trans Xl.out)⟩,rfl⟩,?_⟩;refine aA ?_;go_wp2_with fail;refine(Ic.out _).mono ?_;rintro r w5 ⟨sb,rfl,h1⟩;have Cq:=aa h1.fr;have HS:=aa (HS.fresh h1);clear h1;go_wp2;refine⟨⟨⟨_,(by exact((HF.trans BP.out).trans Xl.out).trans Cq.out)⟩,rfl⟩,?_⟩;repeat(first|go_big_quiet_step(fail)|quiet_step(fail)|apply ax|apply af|apply ag|apply ah)
 refine ao ?_;go_wp2_with fail;repeat(first|go_big_quiet_step(fail)|quiet_step(fail)|apply ax|apply af|apply ag|apply ah)
 refine aj ?_;have js:=HS.new 231 [x0,x1,x2,x3,x4,x5,x6,x7,x8,x9,l4,l5,l6,l7,l8,l9,l_,mf,mh,mi,mj,mm,mo,mq,.slice pa pn pc,O vb,O pb,O sb,.pointer none,I 0,I 0,U 0,U 0,U 0,U 0,U 0,U 0,I 0,.slice none 0 0,I 0];have Qr:=aa (tS.out _ _ _ _ _ ((js.k5 0 178 5).pull 1 rfl));clear js;go_wp2;go_ret;exact⟨_,rfl,Qr.out⟩
