/- A part of the proof. -/
import Derived.Test.YtolkmchicplaoaaGreatH08
set_option linter.all false
set_option maxHeartbeats 8000000
set_option maxRecDepth 100000
open Go.Proofs.Tryz
namespace Go.Proofs.YtolkmchicplaoaaGreat
open Go.RowKit Go.aS Go.aS.I_ Go.aS.Y
def gW (nv:Value)(r:B.Row):List Value:=[I r.aw,U r.tag,I r.rc,U r.rv,nv]
def oW (v:Value)(L:List B.Row):a_:=Ab 178 26 5 gW B.Row.news v L
def jL (H:List Value)(c:cA)(aw seq:Int)(b vb pb sb:Nat)(xp rv:Value)(y:B.St):List a_:=
 [aJ b 231 (H++ji xp rv y.args y),oW rv y.rows,aJ vb 258 (Vw.eU (ae c) aw seq y.x.v),bE c seq pb y.x.p,cw sb y.x.w]
def zq48:(∀{w0 w R c}(aE:Y.Ok c){H aw seq b vb pb sb pv xp rv}(hE:BH (ae c) pv vb pb sb H){y}(bX:y.args.length=4)(hu:0≤y.u∧y.u≤8)(hl:¬y.u+1=c.t)(hS:Sep w0 w (jL H c aw seq b vb pb sb xp rv y++R)),bR 232 #[O b] w w0 (jL H c aw seq b vb pb sb xp rv {y with u:=y.u+1,next:=1}++R))∧(∀{w0 w R c}(aE:Y.Ok c){H aw seq b vb pb sb pv xp rv}(hE:BH (ae c) pv vb pb sb H){y}(bX:y.args.length=4)(hu:0≤y.u∧y.u≤8)(hl:y.u+1=c.t)(mY:0≤y.x.p.nt∧y.x.p.nt≤c.b)(kA:0≤y.x.p.nl∧y.x.p.nl≤b_ c)(hd:y.x.w.done.length≤900000)(hS:Sep w0 w (jL H c aw seq b vb pb sb xp rv y++R)),bR 232 #[O b] w w0 (jL H c aw seq b vb pb sb xp rv {y with u:=y.u+1,next:=1,x:={y.x with w:=P.end_ c y.x.p y.x.w},s:=1}++R))∧(∀{w0 w R c}(aE:Y.Ok c){H aw seq b vb pb sb pv xp rv}(hE:BH (ae c) pv vb pb sb H){y}(bX:y.args.length=4)(hc:¬y.an=0)(hS:Sep w0 w (jL H c aw seq b vb pb sb xp rv y++R)),bR 221 #[O b] w w0 (jL H c aw seq b vb pb sb xp rv {y with x:={y.x with v:=Vw.cell c (at_ c 7 y.u 0) y.x.v},next:=2}++R))∧(∀{w0 w R c}(aE:Y.Ok c){H aw seq b vb pb sb pv xp rv}(hE:BH (ae c) pv vb pb sb H){y}(bX:y.args.length=4)(hp:P.Ok c y.x.p)(hd:y.x.w.done.length≤100000)(hS:Sep w0 w (jL H c aw seq b vb pb sb xp rv y++R)),bR 226 #[O b] w w0 (jL H c aw seq b vb pb sb xp rv (B.mL c y)++R)):=by
 refine⟨?Z,?Y,?X,?J⟩
 case' J=>intro w0 w R c aE H aw seq b vb pb sb pv xp rv hE y bX hp hd hS;have HPS:=aa (λw' RR hS=>Hn (w0:=w0) (w:=w') (R:=RR) pb c seq y.x.p hS);unfold B.mL
 case' J=>by_cases h2:y.x.p.s=2;refine ?G;rotate_left;refine ?D
 case' D=>rw[aq h2]
 case' D=>by_cases h1:y.x.p.s=1;refine ?V;rotate_left;refine ?U
 case' Z=>intro w0 w R c aE H aw seq b vb pb sb pv xp rv hE y bX hu hl hS
 case' Y=>intro w0 w R c aE H aw seq b vb pb sb pv xp rv hE y bX hu hl mY kA hd hS
 case' Z|Y=>have gF:=aa (λw=>bM w c);have fS:=aa (λw=>eS c w)
 case' Y=>have HPE:=aa (λw' RR hS=>ag8 (w0:=w0) (w:=w') (R:=RR) pb sb c aE seq y.x.p y.x.w mY kA hd hS);clear mY kA hd
 case' X=>
  intro w0 w R c aE H aw seq b vb pb sb pv xp rv hE y bX hc hS;have h_:=aa (λw=>cx w c aE 7 y.u 0);have UZ:=aa (λw' RR hS=>B8 (w0:=w0) (w:=w') (R:=RR) vb c aE aw seq y.x.v (at_ c 7 y.u 0) hS);have han:(y.an==0)=false:=by simpa using hc
  clear hc
 case' G=>rw[aB h2,]at*;rw[h2]at HPS;clear hd hp h2
 case' V=>rw[aB h1];rw[h1]at HPS;have mX:=aa (λw' RR hS=>Hq (w0:=w0) (w:=w') (R:=RR) pb sb c aE seq y.x.p y.x.w hp hd hS);unfold B.settled
 case' U=>
  rw[aq h1];have e1:(y.x.p.s==2)=false:=by simpa using h2
  have e2:(y.x.p.s==1)=false:=by simpa using h1
 case' V|U=>clear hp hd h1 h2
 case' Z|Y|X|G|V|U=>
  obtain⟨bx,gX,ij,bu,tO,rH,cq,eR,ft,bs⟩:=y;dsimp only at*;obtain⟨a0,a1,a2,a3,rfl⟩:∃a0 a1 a2 a3,cq=[a0,a1,a2,a3]:=by
   match cq,bX with
   |[a0,a1,a2,a3],_=>exact⟨a0,a1,a2,a3,rfl⟩
  have gO:bC [a0,a1,a2,a3]=[U a0,U a1,U a2,U a3]:=rfl;simp only[jL,ji,gO,za]at hS⊢;have aD:(ae c).length=24:=rfl;have HE:=aa hE;have HS:=aa hS;clear hS bX hE gO
 case' Z=>
  have rR:(bu+1==c.t)=false:=by simpa using hl
  clear hl
 case' Y=>
  have rR:(bu+1==c.t)=true:=by simpa using hl
  clear hl;obtain⟨xv,xp,xw,xmk,xmt,xml,xrg,xpc,xst,xwr,xwt,xi,xs,rI,xc,Mu⟩:=bx;dsimp only at*;generalize P.end_ c xp xw=xw2 at*
 case' Z|Y=>have hu1:IntKind.i64.wrap (bu+1)=bu+1:=bf _ (by omega) (by omega);obtain⟨f30,DB⟩:=(HS.ar 0 rfl).fe HE.len 30 rfl rfl;obtain⟨f29,nQ⟩:=(HS.ar 0 rfl).fe HE.len 29 rfl rfl;have h5:=HS.set 0 rfl 30 (I (bu+1));simp only[aL,fY HE.len _ 30 _ (by omega),Nat.reduceSub,aN]at h5;have HS:=aa h5;clear h5;have h5:=HS.set 0 rfl 29 (I 1);simp only[aL,fY HE.len _ 29 _ (by omega),Nat.reduceSub,aN]at h5;have HS:=aa h5;clear h5;unfold aY at*;generalize fB:db c=cf at*;clear fB;generalize ae c=cs at*;delta bR;go_in;go_wp2_with fail;generalize World.setCell (World.setCell _ _ _) _ _=w4 at HS⊢;clear f30 DB f29 nQ hu1
 case' X=>obtain⟨xv,xp,xw,xmk,xmt,xml,xrg,xpc,xst,xwr,xwt,xi,xs,rI,xc,Mu⟩:=bx;dsimp only at*;generalize Vw.cell c (at_ c 7 bu 0) xv=xv2 at*;generalize at_ c 7 bu 0=a7 at*;unfold aY at*;generalize ae c=cs at*;have hB:=(HS.ar 0 rfl);have f32:=hB.aR HE.len 32 rfl rfl;delta bR;go_in;go_wp2_with fail;clear f32 hB
 case' Z|Y|X=>have hB:=(HS.ar 0 rfl).drew;obtain⟨f30,DB⟩:=hB.fe HE.len 30 rfl rfl
 case' Z|Y=>refine bW [(1,[0,1,2,3,4,5,6,7]),(2,[8]),(0,[9,10])] (by kernel_rfl) ?_
 case' X=>have f25:=hB.fM HE.len 25 rfl HE.out.v;refine bW [(1,[0,1,2,3,4,5,6,7,8,9,10,11]),(2,[12]),(3,[13])] (by kernel_rfl) ?_
 case' Z|Y|X=>
  simp only[zz];refine af ?_;repeat(first|(refine ak 58 _ b 0 cs _ rfl rfl rfl (aG (nS aD HE.out hB) (by simp)) underlying58 rfl (by rw[aD];kernel_rfl) ?_;simp only[Act.put,aZ,aL,aN])|go_big_quiet_step (fail)|quiet_step (fail))
  refine ax ?_;refine aA ?_;go_wp2_with fail
 case' Z|Y=>refine(gF.out _).kf HS.dr λw2 HF HS=>?_
 case' X=>refine(h_.out _).kf HS.dr λw2 HF HS=>?_
 case' Z|Y|X=>go_wp2;refine⟨⟨⟨_,(by exact HF.out)⟩,rfl⟩,?_⟩
 case' Z|Y=>
  have kB:=λw=>(fS.out w).1;repeat(first|go_big_quiet_step(fail)|apply ax|apply af|apply ag|apply ah)
  refine aj ?_;clear kB hB f30 DB HF
 case' Z=>go_wp2;go_end0
 case' Y=>
  go_wp2_with fail;have hB:=(HS.ar 0 rfl).drew;have f26:=hB.fM HE.len 26 rfl HE.out.p;have f27:=hB.fM HE.len 27 rfl HE.out.w;refine bW [(1,[0,1,2,3,4,5,6,7]),(3,[8])] (by kernel_rfl) ?_;simp only[zz];repeat(first|go_big_quiet_step(fail)|apply ax|apply af|apply ag|apply ah)
  refine ao ?_;go_wp2_with fail;refine(HPE.out _ _ ((HS.drew.pull 3 rfl).pull 4 rfl)).kk λw2 h1=>?_;have HS:=aa ((((h1.pull 1 rfl).pull 4 rfl).pull 4 rfl).pull 4 rfl);clear h1 hB f26 f27;go_wp2;refine aj ?_;obtain⟨f39,Zs⟩:=(HS.ar 0 rfl).fe HE.len 39 rfl rfl;have h5:=HS.set 0 rfl 39 (I 1);simp only[aL,fY HE.len _ 39 _ (by omega),Nat.reduceSub,aN]at h5;have HS:=aa h5;clear h5;go_wp2;go_end0
 case' X=>refine ao ?_;go_wp2_with fail;refine(UZ.out _ _ (HS.pull 2 rfl)).kk λw3 h1=>?_;have HS:=aa ((h1.pull 2 rfl).pull 2 rfl);clear h1 hB f25 f30 DB HF;go_wp2;refine aj ?_;obtain⟨f29,nQ⟩:=(HS.ar 0 rfl).fe HE.len 29 rfl rfl;have h5:=HS.set 0 rfl 29 (I 2);simp only[aL,fY HE.len _ 29 _ (by omega),Nat.reduceSub,aN]at h5;have HS:=aa h5;clear h5;go_wp2;go_end0
 case' V=>obtain⟨xv,xp,xw,xmk,xmt,xml,xrg,xpc,xst,xwr,xwt,xi,xs,rI,xc,Mu⟩:=bx;dsimp only at*;generalize P.settle c xp xw=x2 at*
 case' U=>generalize bx.p.s=ps at*
 case' G|V|U=>generalize ae c=cs at*;have f26:=(HS.ar 0 rfl).fM HE.len 26 rfl HE.out.p;delta bR;go_in;go_wp2_with fail;refine(HPS.out _ _ (HS.pull 3 rfl)).kq HS λw2 HS=>?_;clear f26
 case' G=>obtain⟨f39,Zs⟩:=(HS.ar 0 rfl).fe HE.len 39 rfl rfl;have h5:=HS.set 0 rfl 39 (I 2);simp only[aL,fY HE.len _ 39 _ (by omega),Nat.reduceSub,aN]at h5;have HS:=aa h5;clear h5;go_wp2;go_end0
 case' V=>
  go_wp2_with fail;have hB:=(HS.ar 0 rfl).drew;have f26:=hB.fM HE.len 26 rfl HE.out.p;have f27:=hB.fM HE.len 27 rfl HE.out.w;refine bW [(1,[0,1,2,3,4,5,6,7]),(3,[8])] (by kernel_rfl) ?_;simp only[zz];repeat(first|go_big_quiet_step(fail)|apply ax|apply af|apply ag|apply ah)
  refine ao ?_;go_wp2_with fail;refine(mX.out _ _ ((HS.drew.pull 3 rfl).pull 4 rfl)).kk λw2 h1=>?_;have HS:=aa ((((h1.pull 1 rfl).pull 4 rfl).pull 4 rfl).pull 4 rfl);clear h1 hB f26 f27;go_wp2;refine aj ?_;obtain⟨f29,nQ⟩:=(HS.ar 0 rfl).fe HE.len 29 rfl rfl;have h5:=HS.set 0 rfl 29 (I 1);simp only[aL,fY HE.len _ 29 _ (by omega),Nat.reduceSub,aN]at h5;have HS:=aa h5;clear h5;go_wp2;go_end0
 case' U=>go_wp2;go_end0
 case' Z|Y|X|G|V|U=>exact⟨rfl,HS.out⟩
def Mt:=@zq48.1
def It:=@zq48.2.1
def Qy:=@zq48.2.2.1
def Fu:=@zq48.2.2.2
structure BQ (c:cA)(y:B.St):Prop where
 args:y.args.length=4
 u:0≤y.u∧y.u≤8
 nt:0≤y.x.p.nt∧y.x.p.nt≤c.b
 nl:0≤y.x.p.nl∧y.x.p.nl≤b_ c
 dn:y.x.w.done.length≤900000
def xd {w0 w R c}(aE:Y.Ok c){H aw seq b vb pb sb pv xp rv}(hE:BH (ae c) pv vb pb sb H){y}(h:BQ c y)(hS:Sep w0 w (jL H c aw seq b vb pb sb xp rv y++R)):
 bR 232 #[O b] w w0 (jL H c aw seq b vb pb sb xp rv (B.pass c y)++R):=by
 unfold B.pass;by_cases hl:y.u+1=c.t
 ·rw[aB hl];exact It aE hE h.args h.u hl h.nt h.nl h.dn hS
 ·rw[aq hl];exact Mt aE hE h.args h.u hl hS
def Af (H:List Value)(c:cA)(aw seq:Int)(b eb vb pb sb:Nat)(aO:List Value)(rv:Value)(y:B.St):List a_:=
 [aJ b 231 (H++ji (O eb) rv y.args y),oW rv y.rows,aQ c aw seq eb vb pb sb (sL aO y.av) y.args y.x]
def Ag {w0 w R b s}(h:Sep w0 w (cw b s::R))(hd:s.done.length≤1000000)(a v):
 Calls Tryz.prog 190 #[O b,I a,U v] w λe w'=>(∃q,e= .returned (I q))∧Sep w0 w' (cw b (P.cU s a v)::R):=
 (iz h hd a v).mono λ_ _ h=>⟨⟨_,h.1⟩,h.2⟩
def QA:(Tryz.prog.info? 178).map (λi=>(i.zero,i.size,i.bytes))=some (some (.agg #[I 0,U 0,I 0,U 0,.slice none 0 0]),5,56):=by kernel_rfl
def zq49:(∀{w0 w R c}(aE:Y.Ok c){H aw seq b vb pb sb pv xp rv}(hE:BH (ae c) pv vb pb sb H){y}(bX:y.args.length=4)(hc:y.x.v.s=2)(hS:Sep w0 w (jL H c aw seq b vb pb sb xp rv y++R)),bR 228 #[O b] w w0 (jL H c aw seq b vb pb sb xp rv {y with s:=2}++R))∧(∀{w0 w R c}(aE:Y.Ok c){H aw seq b vb pb sb pv xp rv}(hE:BH (ae c) pv vb pb sb H){y}(hq:BQ c y)(hc:¬y.x.v.s=2)(hv:y.x.v.val=y.an)(hS:Sep w0 w (jL H c aw seq b vb pb sb xp rv y++R)),bR 228 #[O b] w w0 (jL H c aw seq b vb pb sb xp rv (B.pass c y)++R))∧(∀{w0 w R c}(aE:Y.Ok c){H aw seq b vb pb sb pv xp rv}(hE:BH (ae c) pv vb pb sb H){y}(bX:y.args.length=4)(hc:¬y.x.v.s=2)(hv:¬y.x.v.val=y.an)(hS:Sep w0 w (jL H c aw seq b vb pb sb xp rv y++R)),bR 228 #[O b] w w0 (jL H c aw seq b vb pb sb xp rv {y with given:=0,next:=3}++R))∧(∀{w0 w R c}(aE:Y.Ok c){H aw seq b vb pb sb pv xp rv}(hE:BH (ae c) pv vb pb sb H){y}(hq:BQ c y)(hc:y.an=0)(hS:Sep w0 w (jL H c aw seq b vb pb sb xp rv y++R)),bR 221 #[O b] w w0 (jL H c aw seq b vb pb sb xp rv (B.pass c y)++R))∧(∀{w0 w R c H aw seq b eb vb pb sb pv rv aO}(hE:BH (ae c) pv vb pb sb H){y}(bX:y.args.length=4)(c7:y.x.aI.length=16)(hc:y.x.s=2)(hS:Sep w0 w (Af H c aw seq b eb vb pb sb aO rv y++R)),bR 231 #[O b] w w0 (Af H c aw seq b eb vb pb sb aO rv {y with s:=2}++R))∧(∀{w0 w R c H aw seq b eb vb pb sb pv rv aO}(hE:BH (ae c) pv vb pb sb H){y}(bX:y.args.length=4)(c7:y.x.aI.length=16)(hc:¬y.x.s=2)(kM:¬y.x.s=1)(hS:Sep w0 w (Af H c aw seq b eb vb pb sb aO rv y++R)),bR 231 #[O b] w w0 (Af H c aw seq b eb vb pb sb aO rv y++R))∧(∀{w0 w R c}(aE:Y.Ok c){H aw seq b eb vb pb sb pv rv aO}(hE:BH (ae c) pv vb pb sb H){y}(bX:y.args.length=4)(hX:gE c y.x)(hc:y.x.s=1)(nR:y.rows.length≤8)(hq:BQ c (B.ny c y))(hS:Sep w0 w (Af H c aw seq b eb vb pb sb aO rv y++R)),Calls Tryz.prog 231 #[O b] w λr w'=>r=E∧∃kN,Sep w0 w' (jL H c aw seq b vb pb sb (O eb) kN (B.pass c (B.ny c y))++R)):=by
 refine⟨?Z,?Y,?X,?J,?G,?D,?V⟩
 case' Z=>intro w0 w R c aE H aw seq b vb pb sb pv xp rv hE y bX hc hS
 case' Y=>intro w0 w R c aE H aw seq b vb pb sb pv xp rv hE y hq hc hv hS
 case' X=>intro w0 w R c aE H aw seq b vb pb sb pv xp rv hE y bX hc hv hS
 case' Z|Y|X=>have Mp:=aa (fun(w':World) hB=>vz w' vb (ae c) rfl aw seq y.x.v hB)
 case' Z=>rw[hc]at Mp;clear hc
 case' Y=>have HBP:=aa (λw' hS=>xd (w0:=w0) (w:=w') (R:=R) aE (H:=H) (aw:=aw) (seq:=seq) (b:=b) (vb:=vb) (pb:=pb) (sb:=sb) (xp:=xp) (rv:=rv) hE hq hS)
 case' Y|X=>have J5:(y.x.v.s==2)=false:=by simpa using hc
 case' Y=>have bX:=hq.args;rw[hv]at Mp;generalize B.pass c y=T at*;clear hc hq hv
 case' X=>
  have hvv:(y.x.v.val==y.an)=false:=by simpa using hv
  clear hc hv
 case' J=>intro w0 w R c aE H aw seq b vb pb sb pv xp rv hE y hq hc hS;have HBP:=aa (λw' hS=>xd (w0:=w0) (w:=w') (R:=R) aE (H:=H) (aw:=aw) (seq:=seq) (b:=b) (vb:=vb) (pb:=pb) (sb:=sb) (xp:=xp) (rv:=rv) hE hq hS);have bX:=hq.args;generalize B.pass c y=T at*;clear hq
 case' G=>intro w0 w R c H aw seq b eb vb pb sb pv rv aO hE y bX c7 hc hS
 case' D=>intro w0 w R c H aw seq b eb vb pb sb pv rv aO hE y bX c7 hc kM hS
 case' V=>intro w0 w R c aE H aw seq b eb vb pb sb pv rv aO hE y bX hX hc nR hq hS;have c7:=hX.aI
 case' G|D|V=>have Cn:=aa (λw' RR hS=>lF (w0:=w0) (w:=w') (R:=RR) (c:=c) (aw:=aw) (seq:=seq) (b:=eb) (vb:=vb) (pb:=pb) (sb:=sb) (cv:=sL aO y.av) (args:=y.args) bX (x:=y.x) c7 hS)
 case' G=>rw[hc]at Cn;clear c7 hc
 case' D=>
  have e1:(y.x.s==2)=false:=by simpa using hc
  have e2:(y.x.s==1)=false:=by simpa using kM
  clear c7 hc kM
 case' V=>
  have Zp:=aa (λw' RR hS=>xV (w0:=w0) (w:=w') (R:=RR) (c:=c) (aw:=aw) (seq:=seq) (b:=eb) (vb:=vb) (pb:=pb) (sb:=sb) (cv:=sL aO y.av) (args:=y.args) bX (x:=y.x) hX hS);have HXO:Hid (∀w' RR,Sep w0 w' (aQ c aw seq eb vb pb sb (sL aO y.av) y.args y.x::RR)→Sep w0 w' (aJ vb 258 (Vw.eU (ae c) aw seq y.x.v)::bE c seq pb y.x.p::cw sb y.x.w::RR)):=aa (λw' RR h=>by
   obtain⟨la,lc,h2⟩:=bh h;exact h2.tail.tail)
  have HBP:=aa (λw' xp rv hS=>xd (w0:=w0) (w:=w') (R:=R) aE (H:=H) (aw:=aw) (seq:=seq) (b:=b) (vb:=vb) (pb:=pb) (sb:=sb) (xp:=xp) (rv:=rv) hE hq hS);have HA8:=aa (λw=>cx w c aE 8 y.u 0);have HA9:=aa (λw=>cx w c aE 9 y.u 0);have HA7:=aa (λw=>cx w c aE 7 y.u 0);have p5:y.x.w.done.length≤600000:=hX.dn;have Eg:=lS y.x.w (at_ c 8 y.u 0) (IntKind.u64.wrap y.x.rc);have sr:=lS (P.cU y.x.w (at_ c 8 y.u 0) (IntKind.u64.wrap y.x.rc)) (at_ c 9 y.u 0) y.x.rv;have HP1:=aa (λw' (RR:List a_) hS=>Ag (w0:=w0) (w:=w') (R:=RR) (b:=sb) (s:=y.x.w) hS (by omega) (at_ c 8 y.u 0) (IntKind.u64.wrap y.x.rc));have HP2:=aa (λw' (RR:List a_) hS=>Ag (w0:=w0) (w:=w') (R:=RR) (b:=sb) (s:=P.cU y.x.w (at_ c 8 y.u 0) (IntKind.u64.wrap y.x.rc)) hS (by omega) (at_ c 9 y.u 0) y.x.rv);have HP3:=aa (λw' (RR:List a_) hS=>Ag (w0:=w0) (w:=w') (R:=RR) (b:=sb) (s:=P.cU (P.cU y.x.w (at_ c 8 y.u 0) (IntKind.u64.wrap y.x.rc)) (at_ c 9 y.u 0) y.x.rv) hS (by omega) (at_ c 7 y.u 0) y.an);rw[hc]at Cn;unfold B.ny at HBP⊢;generalize hTT:B.pass c _=T at*;clear c7 hc hq hTT hX p5 Eg sr
 case' Z|Y|X|J|G|D|V=>
  obtain⟨bx,gX,ij,bu,tO,rH,cq,eR,ft,bs⟩:=y;dsimp only at*;obtain⟨a0,a1,a2,a3,rfl⟩:∃a0 a1 a2 a3,cq=[a0,a1,a2,a3]:=by
   match cq,bX with
   |[a0,a1,a2,a3],_=>exact⟨a0,a1,a2,a3,rfl⟩
  have gO:bC [a0,a1,a2,a3]=[U a0,U a1,U a2,U a3]:=rfl
 case' Z|Y|X|J=>simp only[jL,ji,gO,za]at hS⊢
 case' G|D|V=>simp only[jL,Af,ji,gO,za]at hS⊢
 case' Z|Y|X|J|G|D|V=>have aD:(ae c).length=24:=rfl;have HE:=aa hE;have HS:=aa hS;clear hS bX hE gO
 case' Z=>generalize bx.v.val=vl at*
 case' Y|X=>generalize bx.v.s=vs at*
 case' X=>generalize bx.v.val=vl at*
 case' Z|Y|X=>have f25:=(HS.ar 0 rfl).fM HE.len 25 rfl HE.out.v;delta bR;go_in;go_wp2_with fail;refine(Mp.out _ (HS.ar 2 rfl)).kq HS λw2 HS=>?_;clear f25
 case' Z=>obtain⟨f39,Zs⟩:=(HS.ar 0 rfl).fe HE.len 39 rfl rfl;have h5:=HS.set 0 rfl 39 (I 2);simp only[aL,fY HE.len _ 39 _ (by omega),Nat.reduceSub,aN]at h5;have HS:=aa h5;clear h5;go_wp2;go_end0
 case' Y|X=>have f32:=(HS.ar 0 rfl).aR HE.len 32 rfl rfl
 case' Y=>go_wp2_with fail;refine(HBP.out _ HS.out).kh λw3 HS=>?_;go_wp2;go_end0
 case' X=>obtain⟨f37,yE⟩:=(HS.ar 0 rfl).fe HE.len 37 rfl rfl;obtain⟨f29,nQ⟩:=(HS.ar 0 rfl).fe HE.len 29 rfl rfl;have h5:=HS.set 0 rfl 37 (I 0);simp only[aL,fY HE.len _ 37 _ (by omega),Nat.reduceSub,aN]at h5;have HS:=aa h5;clear h5;have h5:=HS.set 0 rfl 29 (I 3);simp only[aL,fY HE.len _ 29 _ (by omega),Nat.reduceSub,aN]at h5;have HS:=aa h5;clear h5;go_wp2;go_end0
 case' J=>subst hc;have f32:=(HS.ar 0 rfl).aR HE.len 32 rfl rfl;delta bR;go_in;go_wp2_with fail;refine(HBP.out _ HS.out).kh λw3 HS=>?_;go_wp2;refine aV (fV rfl _ _ _) rfl ?_
 case' G|D=>generalize aQ c aw seq eb vb pb sb (sL aO tO) [a0,a1,a2,a3] bx=T at*
 case' D=>generalize bx.s=xs at*
 case' V=>obtain⟨xv,xp,xw,xmk,xmt,xml,xrg,xpc,xst,xwr,xwt,xi,xs,rI,xc,Mu⟩:=bx;dsimp only at*;generalize aQ c aw seq eb vb pb sb (sL aO tO) [a0,a1,a2,a3] _=TX at*;generalize P.cU (P.cU (P.cU xw (at_ c 8 bu 0) (IntKind.u64.wrap rI)) (at_ c 9 bu 0) xc) (at_ c 7 bu 0) rH=s3 at*;generalize P.cU (P.cU xw (at_ c 8 bu 0) (IntKind.u64.wrap rI)) (at_ c 9 bu 0) xc=s2 at*;generalize P.cU xw (at_ c 8 bu 0) (IntKind.u64.wrap rI)=s1 at*;generalize at_ c 8 bu 0=p8 at*;generalize at_ c 9 bu 0=p9 at*;generalize at_ c 7 bu 0=p7 at*;unfold aY at*;generalize j8:ae c=cs at*;have qC:=aa j8;clear j8
 case' G|D|V=>have f28:=(HS.ar 0 rfl).aR HE.len 28 rfl rfl
 case' G|D=>delta bR;go_in
 case' V=>go_in
 case' G|D|V=>go_wp2_with fail;refine(Cn.out _ _ (HS.pull 2 rfl)).kq HS λw2 HS=>?_;clear f28
 case' G=>obtain⟨f39,Zs⟩:=(HS.ar 0 rfl).fe HE.len 39 rfl rfl;have h5:=HS.set 0 rfl 39 (I 2);simp only[aL,fY HE.len _ 39 _ (by omega),Nat.reduceSub,aN]at h5;have HS:=aa h5;clear h5;go_wp2;go_end0
 case' D=>go_wp2;go_end0
 case' V=>
  have f28:=(HS.ar 0 rfl).aR HE.len 28 rfl rfl;go_wp2_with fail;refine(Zp.out _ _ (HS.pull 2 rfl)).mono ?_;rintro r w3 ⟨nv,rfl,h1⟩;obtain⟨la2,Vf,k7⟩:=h1.form 0 rfl;generalize Mu.length=xnl at k7;subst k7;obtain⟨dY,kA,h4⟩:=Fq ((HXO.out _ _ (h1.pull 1 rfl)).pull 5 rfl);obtain⟨la,lc,rfl⟩:=h4.form 0 rfl;have rJ:Hid (∀w' v' R',Sep w0 w' (aU 0 178 5 v' (ft.length+1) (flat (λp:Value×B.Row=>gW p.1 p.2) (dY.zip ft)++[I bu,U rH,I rI,U xc,.slice la2 xnl Vf])::aU 0 26 1 (.slice la2 xnl Vf) Mu.length (bC Mu)::cM ((dY.zip ft).map (λp=>aU 0 26 1 p.1 (B.Row.news p.2).length (bC (B.Row.news p.2))))::R')→Sep w0 w' (oW v' (ft++[⟨bu,rH,rI,xc,Mu⟩])::R')):=aa (λw' v' R' h=>qE (x:=(⟨bu,rH,rI,xc,Mu⟩:B.Row)) kA h);generalize cM ((dY.zip ft).map _)=INN at*;generalize flat (λp:Value×B.Row=>gW p.1 p.2) (dY.zip ft)=XS at*;generalize ft.length=nl at*;have hoR:∀z∈ [I rI,U xc],z.oneCell'=true:=by simp[Value.oneCell']
  have HS:=aa (h4.new 48 [I 0,U 0]);clear h1 h4 kA f28 Cn Zp HXO;go_wp2_with(refine aC HS.out 0 rfl [I rI,U xc] 48 _ _ rfl rfl rfl rfl rfl (by kernel_rfl) hoR (λwA hA _=>?_);simp only[aL]at hA;have de:=aa hA;clear hA);have hB:=(de.ar 7 rfl).drew;have hR:=(de.ar 0 rfl).drew;have o0:=hR.cell 0;have o1:=hR.cell 1;simp only[zg]at o0 o1;obtain⟨f38,qG⟩:=hB.fe HE.len 38 rfl rfl;have f30:=hB.aR HE.len 30 rfl rfl;have f32:=hB.aR HE.len 32 rfl rfl;obtain⟨i0,iJ,jA,jB,iR⟩:=eA QA;refine bW [(1,[1,2,3,4,5,6,7,8,9,10,11,12,13,14,15,16]),(0,[0]),(2,[17]),(3,[18]),(0,[19,20]),(3,[21])] (by kernel_rfl) ?_;simp only[zz];repeat(first|go_big_quiet_step(fail)|apply ax|apply af|apply ag|apply ah)
  refine aA ?_;go_wp2;refine⟨⟨⟨_,(by exact(Fr.refl [] _).alloc _)⟩,rfl⟩,?_⟩;have eH:=aa (de.drew.new 178 [I bu,U rH,I rI,U xc,.slice la2 xnl Vf]);refine ao ?_;go_wp2_with(at_builtin;go_must (refine ch _ rfl _ _ 175 rfl 0 178 i0 _ 5 56 underlying175 iJ jA jB iR rfl (by decide) (.slice la nl lc) nl XS rfl (eH.row 2 rfl) [I bu,U rH,I rI,U xc,.slice la2 xnl Vf] _ _ rfl (eH.ar 0 rfl) rfl (by simp[Value.oneCell']) (by unfold maxLen;omega) (by omega) (cE _) ?_));intro g2 c2 w4 dy iZ jj kM mw;have h3:=(eH.grown 2 rfl dy iZ (λq e=>by
   rcases jj with h1|h1
   ·exact .inl (h1.trans e)
   ·right;simp only[Value.ownBlock,eX]at e;rw[←e,h1];simp)).tail
  simp only[zs,ze]at h3;have HS:=aa h3;clear h3 dy iZ jj hB f38 qG f30 f32 hR o0 o1;go_wp2_with fail;have hB:=HS.ar 7 rfl;obtain⟨f38,qG⟩:=hB.fe HE.len 38 rfl rfl;have h5:=HS.set 7 rfl 38 (.slice (some ⟨g2,0,none⟩) (nl+1) c2);simp only[aL,fY HE.len _ 38 _ (by omega),Nat.reduceSub,aN]at h5;have HS:=aa (h5.pull 5 rfl);clear h5 hB;simp only[ze]at HS;repeat(first|go_big_quiet_step(fail)|apply ax|apply af|apply ag|apply ah)
  refine ao ?_;go_wp2;refine aj ?_;go_wp2_with fail;generalize World.setCell _ _ _=w5 at HS⊢;clear f38 qG;have hB:=(HS.ar 7 rfl).drew;have hR:=(HS.ar 1 rfl).drew;have o0:=hR.cell 0;have o1:=hR.cell 1;simp only[zg]at o0 o1;have f30:=hB.aR HE.len 30 rfl rfl;have f32:=hB.aR HE.len 32 rfl rfl;have f27:=hB.fM HE.len 27 rfl HE.out.w;refine bW [(1,[0,1,2,3,4,5,6,7,8,9,10,11,13,14,15]),(2,[12]),(3,[16])] (by kernel_rfl) ?_;simp only[zz];refine af ?_;repeat(first|(refine ak 58 _ b 0 cs _ rfl rfl rfl (aG (nS aD HE.out hB) (by simp)) underlying58 rfl (by rw[aD];kernel_rfl) ?_;simp only[Act.put,aZ,aL,aN])|go_big_quiet_step (fail)|quiet_step (fail))
  refine ax ?_;refine aA ?_;go_wp2_with fail;refine(HA8.out _).kf HS.dr λw9 HF HS=>?_;go_wp2;refine⟨⟨⟨_,(by exact HF.out)⟩,rfl⟩,?_⟩;repeat(first|go_big_quiet_step(fail)|apply ax|apply af|apply ag|apply ah)
  refine ao ?_;go_wp2_with fail;refine(HP1.out _ _ HS.out).mono ?_;rintro r Ov ⟨⟨q,rfl⟩,h1⟩;have HS:=aa h1;clear h1 hB hR o0 o1 f30 f32 f27 HF;go_wp2;refine aj ?_;go_wp2_with fail;have hB:=(HS.ar 7 rfl).drew;have hR:=(HS.ar 1 rfl).drew;have o0:=hR.cell 0;have o1:=hR.cell 1;simp only[zg]at o0 o1;have f30:=hB.aR HE.len 30 rfl rfl;have f32:=hB.aR HE.len 32 rfl rfl;have f27:=hB.fM HE.len 27 rfl HE.out.w;refine bW [(1,[0,1,2,3,4,5,6,7,8,9,10,11,13,14]),(2,[12]),(3,[15])] (by kernel_rfl) ?_;simp only[zz];refine af ?_;repeat(first|(refine ak 58 _ b 0 cs _ rfl rfl rfl (aG (nS aD HE.out hB) (by simp)) underlying58 rfl (by rw[aD];kernel_rfl) ?_;simp only[Act.put,aZ,aL,aN])|go_big_quiet_step (fail)|quiet_step (fail))
  refine ax ?_;refine aA ?_;go_wp2_with fail;refine(HA9.out _).kf HS.dr λw9 HF HS=>?_;go_wp2;refine⟨⟨⟨_,(by exact HF.out)⟩,rfl⟩,?_⟩;repeat(first|go_big_quiet_step(fail)|apply ax|apply af|apply ag|apply ah)
  refine ao ?_;go_wp2_with fail;refine(HP2.out _ _ HS.out).mono ?_;rintro r Ov ⟨⟨q,rfl⟩,h1⟩;have HS:=aa h1;clear h1 hB hR o0 o1 f30 f32 f27 HF;go_wp2;refine aj ?_;go_wp2_with fail;have hB:=(HS.ar 7 rfl).drew;have hR:=(HS.ar 1 rfl).drew;have o0:=hR.cell 0;have o1:=hR.cell 1;simp only[zg]at o0 o1;have f30:=hB.aR HE.len 30 rfl rfl;have f32:=hB.aR HE.len 32 rfl rfl;have f27:=hB.fM HE.len 27 rfl HE.out.w;refine bW [(1,[0,1,2,3,4,5,6,7,8,9,10,11,13,14,15,16,17]),(2,[12]),(3,[18])] (by kernel_rfl) ?_;simp only[zz];refine af ?_;repeat(first|(refine ak 58 _ b 0 cs _ rfl rfl rfl (aG (nS aD HE.out hB) (by simp)) underlying58 rfl (by rw[aD];kernel_rfl) ?_;simp only[Act.put,aZ,aL,aN])|go_big_quiet_step (fail)|quiet_step (fail))
  refine ax ?_;refine aA ?_;go_wp2_with fail;refine(HA7.out _).kf HS.dr λw9 HF HS=>?_;go_wp2;refine⟨⟨⟨_,(by exact HF.out)⟩,rfl⟩,?_⟩;repeat(first|go_big_quiet_step(fail)|apply ax|apply af|apply ag|apply ah)
  refine ao ?_;go_wp2_with fail;refine(HP3.out _ _ HS.out).mono ?_;rintro r Ov ⟨⟨q,rfl⟩,h1⟩;have HS:=aa h1;clear h1 hB hR o0 o1 f30 f32 f27 HF;go_wp2;refine aj ?_;go_wp2_with fail;have h1:=(((HS.pull 1 rfl).tail.pull 2 rfl).pull 5 rfl).pull 3 rfl;have h2:=rJ.out _ _ _ h1;have j8:=qC.out;subst j8;refine(HBP.out _ _ _ (((((h2.pull 1 rfl).pull 3 rfl).pull 3 rfl).pull 3 rfl).pull 4 rfl)).kh λX0 HS=>?_;clear h1 h2;go_wp2;go_end0
 case' Z|Y|X|J|G|D=>exact⟨rfl,HS.out⟩
 exact⟨rfl,_,HS.out⟩
def Iu:=@zq49.1
def Mv:=@zq49.2.1
def Mw:=@zq49.2.2.1
def Vh:=@zq49.2.2.2.1
def Iv:=@zq49.2.2.2.2.1
def Iw:=@zq49.2.2.2.2.2.1
def Mx:=@zq49.2.2.2.2.2.2
def Qx {w0 w R c}(aE:Y.Ok c){H aw seq b vb pb sb pv xp rv}(hE:BH (ae c) pv vb pb sb H){y}(hq:BQ c y)(hS:Sep w0 w (jL H c aw seq b vb pb sb xp rv y++R)):
 bR 228 #[O b] w w0 (jL H c aw seq b vb pb sb xp rv (B.tag c y)++R):=by
 unfold B.tag;by_cases h1:y.x.v.s=2
 ·rw[aB h1];exact Iu aE hE hq.args h1 hS
 ·rw[aq h1];by_cases h2:y.x.v.val=y.an
  ·rw[aB h2];exact Mv aE hE hq h1 h2 hS
  ·rw[aq h2];exact Mw aE hE hq.args h1 h2 hS
def Qz {w0 w R c}(aE:Y.Ok c){H aw seq b vb pb sb pv xp rv}(hE:BH (ae c) pv vb pb sb H){y}(hq:BQ c y)(hS:Sep w0 w (jL H c aw seq b vb pb sb xp rv y++R)):
 bR 221 #[O b] w w0 (jL H c aw seq b vb pb sb xp rv (B.je c y)++R):=by
 unfold B.je;by_cases h1:y.an=0
 ·rw[aB h1];exact Vh aE hE hq h1 hS
 ·rw[aq h1];exact Qy aE hE hq.args h1 hS
structure BuQ where
 H:List Value
 eb:Nat
 vb:Nat
 pb:Nat
 sb:Nat
 xp:Value
 rv:Value
def df (c:cA)(aw seq:Int)(b:Nat)(pv:Value)(aO:List Value)(y:B.St):a_:=
 EG λq:BuQ=>ie (BH (ae c) pv q.vb q.pb q.sb q.H) (cM (if y.next=4 then Af q.H c aw seq b q.eb q.vb q.pb q.sb aO q.rv y else jL q.H c aw seq b q.vb q.pb q.sb q.xp q.rv y))
def kW {w0 w R c aw seq b vb pb sb H pv xp rv aO y}(hE:BH (ae c) pv vb pb sb H)(hn:¬y.next=4)(hS:Sep w0 w (jL H c aw seq b vb pb sb xp rv y++R)):Sep w0 w (df c aw seq b pv aO y::R):=
 Sep.qX (A:=BuQ) (λq=>ie (BH (ae c) pv q.vb q.pb q.sb q.H) (cM (if y.next=4 then Af q.H c aw seq b q.eb q.vb q.pb q.sb aO q.rv y else jL q.H c aw seq b q.vb q.pb q.sb q.xp q.rv y))) (a:=⟨H,0,vb,pb,sb,xp,rv⟩) (by
  dsimp only;rw[aq hn];exact Sep.iK hS.toList hE)
def Ah {w0 w R c aw seq b eb vb pb sb H pv rv aO y}(hE:BH (ae c) pv vb pb sb H)(hn:y.next=4)(hS:Sep w0 w (Af H c aw seq b eb vb pb sb aO rv y++R)):Sep w0 w (df c aw seq b pv aO y::R):=
 Sep.qX (A:=BuQ) (λq=>ie (BH (ae c) pv q.vb q.pb q.sb q.H) (cM (if y.next=4 then Af q.H c aw seq b q.eb q.vb q.pb q.sb aO q.rv y else jL q.H c aw seq b q.vb q.pb q.sb q.xp q.rv y))) (a:=⟨H,eb,vb,pb,sb,.slice none 0 0,rv⟩) (by
  dsimp only;rw[aB hn];exact Sep.iK hS.toList hE)
def lG {w0 w R c aw seq b pv aO y}(hS:Sep w0 w (df c aw seq b pv aO y::R)):
 ∃H vb pb sb,BH (ae c) pv vb pb sb H∧((y.next=4∧∃eb rv,Sep w0 w (Af H c aw seq b eb vb pb sb aO rv y++R))∨(¬y.next=4∧∃xp rv,Sep w0 w (jL H c aw seq b vb pb sb xp rv y++R))):=by
 obtain⟨q,h1⟩:=hS.rZ;obtain⟨h2,h3⟩:=h1.jn;refine⟨q.H,q.vb,q.pb,q.sb,h2,?_⟩;by_cases hn:y.next=4
 ·rw[aB hn]at h3;exact .inl ⟨hn,q.eb,q.rv,h3.ofList⟩
 ·rw[aq hn]at h3;exact .inr ⟨hn,q.xp,q.rv,h3.ofList⟩
def oy (c y):(B.pass c y).next=1:=by unfold B.pass;split<;>rfl
def Fv {w0 w R c}(aE:Y.Ok c){H aw seq b eb vb pb sb pv rv aO}(hE:BH (ae c) pv vb pb sb H){y}(hn:y.next=4)(bX:y.args.length=4)(hX:gE c y.x)(nR:y.rows.length≤8)(hq:y.x.s=1→BQ c (B.ny c y))(hS:Sep w0 w (Af H c aw seq b eb vb pb sb aO rv y++R)):
 bR 231 #[O b] w w0 (df c aw seq b pv aO (B.A_ c y)::R):=by
 unfold B.A_;by_cases h2:y.x.s=2
 ·rw[aB h2];exact(Iv hE bX hX.aI h2 hS).mono λ_ _ h=>⟨h.1,Ah hE hn h.2⟩
 ·rw[aq h2];by_cases h1:y.x.s=1
  ·rw[aB h1];refine(Mx aE hE bX hX h1 nR (hq h1) hS).mono λ_ _ h=>⟨h.1,?_⟩;obtain⟨kN,h3⟩:=h.2;exact kW hE (by rw[oy];decide) h3
  ·rw[aq h1];exact(Iw hE bX hX.aI h2 h1 hS).mono λ_ _ h=>⟨h.1,Ah hE hn h.2⟩
end Go.Proofs.YtolkmchicplaoaaGreat
namespace Go.Proofs.YtolkmchicplaoaaGreat
open Go.RowKit Go.aS Go.aS.Y
def fZ (c w):(Instr.field 31 (db c) 0).run Tryz.prog w= .ok (I c.t) w∧(Instr.field 31 (db c) 1).run Tryz.prog w= .ok (I c.b) w:=
 ⟨dW w _ _ _ _ _ _ _ underlying31 rfl underlying3 rfl rfl,dW w _ _ _ _ _ _ _ underlying31 rfl underlying3 rfl rfl⟩
def QD (w):(zeroValue 3).run Tryz.prog w= .ok (I 0) w:=by kernel_rfl
def J7:(Tryz.prog.info? 26).map (λi=>(i.zero,i.size,i.bytes))=some (some (U 0),1,8):=by kernel_rfl
def Co {w b}{T:TypeId}{cs}(aD:cs.length=24){seq mv v p}(h:cB w b T (P.bO cs seq mv v p)):w.rangeAt b 27 [I p.wt,I p.wl]:=λj u hj=>by
 have kf:=P.pf aD seq mv v p;rcases j with _|_|j
 ·simp at hj;subst hj;exact(h.cell 27).trans kf.wt
 ·simp at hj;subst hj;exact(h.cell 28).trans kf.wl
 ·simp at hj
def Cp {cs}(aD:cs.length=24)(seq mv v p x y):n_ (P.bO cs seq mv v p) 29 [I x,I y]=P.bO cs seq mv v {p with nt:=x,nl:=y}:=by
 simp only[n_,P.vq aD,P.vr aD]
def zq50:(∀{w0 w R}(b c)(aE:Y.Ok c)(seq p)(hp:P.Ok c p)(h0:p.s≠0)(hS:Sep w0 w (bE c seq b p::R)),ba 222 #[O b] w (.tuple #[.agg (eF p0).toArray,.bool false]))∧(∀{w0 w R}(b c)(aE:Y.Ok c)(seq p)(hp:P.Ok c p)(h0:p.s=0)(h1:p.next<c.t)(hS:Sep w0 w (bE c seq b p::R)),ba 222 #[O b] w (.tuple #[.agg (eF (⟨0,at_ c 3 p.next 0,0,0,0,0⟩)).toArray,.bool true]))∧(∀{w0 w R}(b c)(aE:Y.Ok c)(seq p)(hp:P.Ok c p)(h0:p.s=0)(h1:p.next=c.t)(hS:Sep w0 w (bE c seq b p::R)),ba 222 #[O b] w (.tuple #[.agg (eF (⟨0,at_ c 12 0 0,0,0,0,0⟩)).toArray,.bool true]))∧(∀{w0 w R}(b c)(aE:Y.Ok c)(seq p)(hp:P.Ok c p)(h0:p.s=0)(h1:p.next=c.t+1)(hS:Sep w0 w (bE c seq b p::R)),ba 222 #[O b] w (.tuple #[.agg (eF (⟨0,at_ c 14 0 0,0,0,0,0⟩)).toArray,.bool true]))∧(∀{w0 w R}(b c)(aE:Y.Ok c)(seq p)(hp:P.Ok c p)(h0:p.s=0)(h1:c.t+1<p.next)(hS:Sep w0 w (bE c seq b p::R)),ba 222 #[O b] w (.tuple #[.agg (eF (⟨0,at_ c 15 (p.next-c.t-2) 0,0,0,0,0⟩)).toArray,.bool true]))∧(∀{w0 w R}(b c)(aE:Y.Ok c)(seq x s ok)(hx:0≤x∧x≤18446744073709551615)(pn)(pf:Int→Int)(dH dL nt nl bS ps)(hp:P.Ok c ⟨pn,pf,dH,dL,nt,nl,bS,ps⟩),(∀(h0:ps≠0)(hS:Sep w0 w (bE c seq b ⟨pn,pf,dH,dL,nt,nl,bS,ps⟩::R)),bR 225 #[O b,.agg #[U x,U s,.bool ok]] w w0 (bE c seq b ⟨pn,pf,dH,dL,nt,nl,bS,ps⟩::R))∧(∀(h0:ps=0)(h1:pn<c.t)(hS:Sep w0 w (bE c seq b ⟨pn,pf,dH,dL,nt,nl,bS,ps⟩::R)),bR 225 #[O b,.agg #[U x,U s,.bool ok]] w w0 (bE c seq b ⟨pn+1,P.Dc pf x,dH,dL,nt,nl,bS,ps⟩::R))∧(∀(h0:ps=0)(h1:c.t≤pn)(h2:seq<s)(hS:Sep w0 w (bE c seq b ⟨pn,pf,dH,dL,nt,nl,bS,ps⟩::R)),bR 225 #[O b,.agg #[U x,U s,.bool ok]] w w0 (bE c seq b ⟨pn,pf,dH,dL,nt,nl,bS,2⟩::R))∧(∀(h0:ps=0)(h1:pn=c.t)(h2:s≤seq)(hS:Sep w0 w (bE c seq b ⟨pn,pf,dH,dL,nt,nl,bS,ps⟩::R)),bR 225 #[O b,.agg #[U x,U s,.bool ok]] w w0 (bE c seq b ⟨pn+1,pf,min x c.b,dL,nt,nl,bS,0⟩::R))∧(∀(h0:ps=0)(h1:pn=c.t+1)(h2:s≤seq)(h3:(bS.length:Int)≠min x (b_ c))(hS:Sep w0 w (bE c seq b ⟨pn,pf,dH,dL,nt,nl,bS,ps⟩::R)),bR 225 #[O b,.agg #[U x,U s,.bool ok]] w w0 (bE c seq b ⟨pn+1,pf,dH,min x (b_ c),nt,nl,bS,0⟩::R))∧(∀(h0:ps=0)(h1:pn=c.t+1)(h2:s≤seq)(h3:(bS.length:Int)=min x (b_ c))(hS:Sep w0 w (bE c seq b ⟨pn,pf,dH,dL,nt,nl,bS,ps⟩::R)),bR 225 #[O b,.agg #[U x,U s,.bool ok]] w w0 (bE c seq b ⟨pn+1,pf,dH,min x (b_ c),dH,min x (b_ c),bS,1⟩::R))∧(∀(h0:ps=0)(h1:c.t+1<pn)(h2:s≤seq)(h3:(bS.length:Int)+1≠dL)(h4:(bS.length:Int)<dL)(hS:Sep w0 w (bE c seq b ⟨pn,pf,dH,dL,nt,nl,bS,ps⟩::R)),bR 225 #[O b,.agg #[U x,U s,.bool ok]] w w0 (bE c seq b ⟨pn+1,pf,dH,dL,nt,nl,bS++[x],0⟩::R))∧(∀(h0:ps=0)(h1:c.t+1<pn)(h2:s≤seq)(h3:(bS.length:Int)+1=dL)(h4:(bS.length:Int)<dL)(hS:Sep w0 w (bE c seq b ⟨pn,pf,dH,dL,nt,nl,bS,ps⟩::R)),bR 225 #[O b,.agg #[U x,U s,.bool ok]] w w0 (bE c seq b ⟨pn+1,pf,dH,dL,dH,dL,bS++[x],1⟩::R))):=by
 refine⟨?Z,?Y,?X,?J,?G,?D⟩
 case' D=>intro w0 w R b c aE seq x s ok hx pn pf dH dL nt nl bS ps hp;refine⟨?V,?U,?g0,?g1,?g2,?g3,?g4,?g5⟩
 case' Z=>intro w0 w R b c aE seq p hp h0 hS
 case' Y|G|X|J=>intro w0 w R b c aE seq p hp h0 h1 hS
 case' Z|Y|G|X|J=>have oR:=hp.next;have xI:=hp.s;have sg:=aE.t8;have AU:=aE.t1;clear hp
 case' Y=>have HA:=aa (λw=>cx w c aE 3 p.next 0);generalize at_ c 3 p.next 0=av at*
 case' G=>have HA:=aa (λw=>cx w c aE 15 (p.next-c.t-2) 0);generalize at_ c 15 (p.next-c.t-2) 0=av at*
 case' X=>have HA:=aa (λw=>cx w c aE 12 0 0);generalize at_ c 12 0 0=av at*
 case' J=>have HA:=aa (λw=>cx w c aE 14 0 0);generalize at_ c 14 0 0=av at*
 case' Z|Y|G|X|J=>obtain⟨mb,la,lc,h2⟩:=fA hS
 case' V=>intro h0 hS;obtain⟨mb,la,lc,h2⟩:=fA hS;have dQ:=aa (λw' (n k:Nat) (v:Value) hn hk hS=>jv (w0:=w0) (w:=w') (R:=R) (c:=c) (seq:=seq) (b:=b) (mb:=mb) (n:=n) (k:=k) (v:=v) (p:=⟨pn,pf,dH,dL,nt,nl,bS,ps⟩) hn hk hS);generalize bE c seq b ⟨pn,pf,dH,dL,nt,nl,bS,ps⟩=TH at*
 case' U=>intro h0 h1 hS;obtain⟨mb,la,lc,h2⟩:=fA hS;have dQ:=aa (λw' (n k:Nat) (v:Value) hn hk hS=>jv (w0:=w0) (w:=w') (R:=R) (c:=c) (seq:=seq) (b:=b) (mb:=mb) (n:=n) (k:=k) (v:=v) (p:=⟨pn+1,P.Dc pf x,dH,dL,nt,nl,bS,ps⟩) hn hk hS);generalize bE c seq b ⟨pn+1,P.Dc pf x,dH,dL,nt,nl,bS,ps⟩=TH at*
 case' g4|g5=>intro h0 h1 h2 h3 h4 hS;obtain⟨mb,la,lc,h2⟩:=fA hS
 case' g4=>have dQ:=aa (λw' (n k:Nat) (v:Value) hn hk hS=>jv (w0:=w0) (w:=w') (R:=R) (c:=c) (seq:=seq) (b:=b) (mb:=mb) (n:=n) (k:=k) (v:=v) (p:=⟨pn+1,pf,dH,dL,nt,nl,bS++[x],0⟩) hn hk hS);generalize bE c seq b ⟨pn+1,pf,dH,dL,nt,nl,bS++[x],0⟩=TH at*
 case' g5=>have dQ:=aa (λw' (n k:Nat) (v:Value) hn hk hS=>jv (w0:=w0) (w:=w') (R:=R) (c:=c) (seq:=seq) (b:=b) (mb:=mb) (n:=n) (k:=k) (v:=v) (p:=⟨pn+1,pf,dH,dL,dH,dL,bS++[x],1⟩) hn hk hS);generalize bE c seq b ⟨pn+1,pf,dH,dL,dH,dL,bS++[x],1⟩=TH at*
 case' g0=>intro h0 h1 h2 hS;obtain⟨mb,la,lc,h2⟩:=fA hS;have dQ:=aa (λw' (n k:Nat) (v:Value) hn hk hS=>jv (w0:=w0) (w:=w') (R:=R) (c:=c) (seq:=seq) (b:=b) (mb:=mb) (n:=n) (k:=k) (v:=v) (p:=⟨pn,pf,dH,dL,nt,nl,bS,2⟩) hn hk hS);generalize bE c seq b ⟨pn,pf,dH,dL,nt,nl,bS,2⟩=TH at*
 case' g1=>intro h0 h1 h2 hS;obtain⟨mb,la,lc,h2⟩:=fA hS;have dQ:=aa (λw' (n k:Nat) (v:Value) hn hk hS=>jv (w0:=w0) (w:=w') (R:=R) (c:=c) (seq:=seq) (b:=b) (mb:=mb) (n:=n) (k:=k) (v:=v) (p:=⟨pn+1,pf,min x c.b,dL,nt,nl,bS,0⟩) hn hk hS);generalize bE c seq b ⟨pn+1,pf,min x c.b,dL,nt,nl,bS,0⟩=TH at*
 case' g2|g3=>intro h0 h1 h2 h3 hS;obtain⟨mb,la,lc,h2⟩:=fA hS
 case' g2=>have dQ:=aa (λw' (n k:Nat) (v:Value) hn hk hS=>jv (w0:=w0) (w:=w') (R:=R) (c:=c) (seq:=seq) (b:=b) (mb:=mb) (n:=n) (k:=k) (v:=v) (p:=⟨pn+1,pf,dH,min x (b_ c),nt,nl,bS,0⟩) hn hk hS);generalize bE c seq b ⟨pn+1,pf,dH,min x (b_ c),nt,nl,bS,0⟩=TH at*
 case' g3=>have dQ:=aa (λw' (n k:Nat) (v:Value) hn hk hS=>jv (w0:=w0) (w:=w') (R:=R) (c:=c) (seq:=seq) (b:=b) (mb:=mb) (n:=n) (k:=k) (v:=v) (p:=⟨pn+1,pf,dH,min x (b_ c),dH,min x (b_ c),bS,1⟩) hn hk hS);generalize bE c seq b ⟨pn+1,pf,dH,min x (b_ c),dH,min x (b_ c),bS,1⟩=TH at*
 case' V|U|g4|g5|g0|g1|g2|g3=>have oR:=hp.next;have xI:=hp.s;have Be:=hp.f;have vu:=hp.wl;have zE:=bK aE;have sg:=aE.t8;have AU:=aE.t1;have nU:=aE.b1;have kF:=aE.nZ
 case' Z|Y|G|X|J|V|U|g4|g5|g0|g1|g2|g3=>have aD:(ae c).length=24:=rfl;have gF:=aa (λw=>bM w c);have fS:=aa (λw=>fZ c w)
 case' Z|Y|G|X|J=>have KF:=aa (P.pf aD seq (.map (some mb)) (.slice la p.bS.length lc) p);have HB:=aa (h2.ar 0 rfl)
 case' V|U|g4|g5|g0|g1|g2|g3=>have xH:=aa (λw=>gL w c aE)
 case' Z|Y|G|X|J|V|U|g4|g5|g0|g1|g2|g3=>unfold aY at*;generalize fB:db c=cf at*;clear fB;generalize ae c=cs at*
 case' Z|Y|G|X|J=>have uG:=HB.lt;have HS:=aa ((Sep.nil (Fr.refl [] w)).new 82 (eF p0));clear h2 hS;unfold P.bO at HB KF;obtain⟨pn,pf,dH,dL,nt,nl,bS,ps⟩:=p;dsimp only at*
 case' Z=>have d0:(ps !=0)=true:=by simpa using h0
 case' Y|G|X|J=>subst h0
 case' G=>
  have d1:decide (pn<c.t)=false:=by simp;omega
  have d2:(pn==c.t)=false:=by simp;omega
  have d3:(pn==c.t+1)=false:=by simp;omega
 case' X|J=>have d1:decide (pn<c.t)=false:=by simp;omega
 case' X=>have d2:(pn==c.t)=true:=by simp;omega
 case' J=>
  have d2:(pn==c.t)=false:=by simp;omega
  have d3:(pn==c.t+1)=true:=by simp;omega
 case' X|J=>clear h1
 case' Z|Y|G|X|J=>
  have aF:=HB.fr HS.fr (by simp);have kf:=KF.out;have fK:=aF.aT 25 kf.next;have gK:=aF.aT 32 kf.s;clear kf;have pg:¬b=w.heap.size:=by omega
  delta ba;go_in;go_wp2_with(refine ay 58 _ rfl rfl _ 0 rfl cs _ (cB.pre aF) underlying58 rfl (by rw[aD];kernel_rfl) ?_);refine(gF.out _).kq HS λw2 HS=>?_;clear aF fK gK;have aF:=HB.fr HS.fr (by simp);have kf:=KF.out;have fK:=aF.aT 25 kf.next;have gK:=aF.aT 32 kf.s;clear kf;have o_:=λw=>(fS.out w).1
 case' Z=>have fD:=dg p0;go_wp2_with(refine aC HS.out 0 rfl (eF p0) 82 _ _ rfl rfl rfl rfl rfl (by kernel_rfl) fD (λwA hA _=>?_);have HS:=aa hA;clear hA)
 case' Y|G=>go_wp2_with fail;have cC:=aF.drew
 case' Y=>refine dq [(1,[0,1,2,3,4,5,6,7]),(3,[8]),(0,[9]),(3,[10]),(0,[11])] [w.heap.size] (by kernel_rfl) (by kernel_rfl) ?_;simp only[zz]
 case' G=>refine dq [(1,[0,1,2,3,4,5,6,7,8,9,10]),(3,[11]),(0,[12]),(3,[13]),(0,[14])] [w.heap.size] (by kernel_rfl) (by kernel_rfl) ?_;simp only[zz]
 case' X|J=>go_wp2_with(refine ay 58 _ rfl rfl _ 0 rfl cs _ (cB.pre aF) underlying58 rfl (by rw[aD];kernel_rfl) ?_);refine(HA.out _).kq HS λw3 HS=>?_;have fD:=dg ⟨0,av,0,0,0,0⟩;go_wp2_with(refine aC HS.out 0 rfl (eF ⟨0,av,0,0,0,0⟩) 82 _ _ rfl rfl rfl rfl rfl (by kernel_rfl) fD (λwA hA _=>?_);have HS:=aa hA;clear hA)
 case' V|U|g4|g5|g0|g1|g2|g3=>dsimp only at h2 oR xI Be vu dQ;obtain⟨ln,o8⟩:∃ln:Nat,bS.length=ln:=⟨_,rfl⟩;rw[o8]at h2;have vG:=aa o8;have HS:=aa (h2.new 84 [U x,U s,.bool ok]);clear h2 hS hp o8;have hq:=HS.ar 1 rfl;have o0:=(HS.ar 0 rfl).cell 0;have o1:=(HS.ar 0 rfl).cell 1;simp only[zg]at o0 o1;unfold P.bO at hq;delta bR;go_in;go_wp2_with(refine ay 58 _ rfl rfl _ 0 rfl cs _ (cB.pre hq) underlying58 rfl (by rw[aD];kernel_rfl) ?_);refine(gF.out _).kq HS λw2 dS=>?_;clear hq o0 o1;have o0:=(dS.ar 0 rfl).cell 0;have o1:=(dS.ar 0 rfl).cell 1;simp only[zg]at o0 o1;have HS:=aa (dS.new 68 [U x,U s]);clear dS;have o_:=λw=>(fS.out w).1;have aF:=HS.ar 2 rfl;have kf:=P.pf aD seq (.map (some mb)) (.slice la ln lc) ⟨pn,pf,dH,dL,nt,nl,bS,ps⟩;have iF:=aF.aT 24 kf.seq;have fK:=aF.aT 25 kf.next;have ee:=aF.aT 26 kf.mp;have cu:=aF.aT 27 kf.wt;have dz:=aF.aT 28 kf.wl;have eY:=aF.aT 31 kf.bS;have gK:=aF.aT 32 kf.s;have f25:=aF.az;clear kf;have z0:=(HS.ar 0 rfl).cell 0;have z1:=(HS.ar 0 rfl).cell 1;simp only[zg]at z0 z1
 case' V=>
  have d0:(ps !=0)=true:=by simpa using h0
  go_wp2;refine aV (v:= .tuple #[]) (by simp[results,Tryz.results225,go_sem]) rfl ?_
 case' U=>
  subst h0;have S1:(Lit.int .u64 x).wf=true:=by
   have e0:IntKind.u64.min=0:=by decide
   have e1:IntKind.u64.max=18446744073709551615:=by decide
   simp only[Lit.wf,eO,gG];omega
  have hfx:=Be x;have aq7:(Lit.int .i64 (pf x+1)).wf=true:=WalkArith.wf_i64 (by omega);have Hg:pn.toNat<maxLen:=by unfold maxLen;omega
  have hwx:IntKind.i64.wrap (pf x+1)=pf x+1:=bf _ (by omega) (by omega);go_wp2_with fail;refine bW [(1,[0,1,2,3,4,5]),(3,[6]),(0,[7]),(3,[8])] (by kernel_rfl) ?_;simp only[zz];repeat(first|go_big_quiet_step(fail)|quiet_step(fail)|apply ax|apply af|apply ag|apply ah)
  refine ao ?_;go_wp2_with(at_lookup;go_must (refine jK HS.drew 3 rfl (by rfl) _ _ 259 rfl underlying26 underlying259 underlying3 QD rfl x rfl S1 ?_));repeat(first|go_big_quiet_step(fail)|quiet_step(fail)|apply ax|apply af|apply ag|apply ah)
  refine ao ?_;go_wp2_with(at_mapUpdate;go_must (refine vg HS.drew 3 rfl rfl _ _ _ 259 rfl underlying26 underlying259 underlying3 rfl x rfl S1 (pf x+1) rfl aq7 Hg ?_);intro wU hU fU;have HU:=aa hU;clear hU fU);refine aj ?_;have hU:Sep w0 wU (_::_::aJ b 261 (P.bO cs seq (.map (some mb)) (.slice la ln lc) ⟨pn,P.Dc pf x,dH,dL,nt,nl,bS,0⟩)::sA Tryz.prog 26 3 .u64 .i64 mb (pn.toNat+1) (P.Dc pf x)::_):=HU.out;clear aF iF fK ee cu dz eY gK f25 z0 z1;have HS:=aa hU;clear hU HU;have aF:=HS.ar 2 rfl;have kf:=P.pf aD seq (.map (some mb)) (.slice la ln lc) ⟨pn,P.Dc pf x,dH,dL,nt,nl,bS,0⟩
 case' g4|g5=>rw[vG.out]at h3 h4
 case' g4=>have d15:((ln:Int)+1==dL)=false:=by simpa using h3
 case' g5=>have d15:((ln:Int)+1==dL)=true:=by simpa using h3
 case' g4|g5=>
  clear h3;subst h0;have d1:decide (pn<c.t)=false:=by simp;omega
  have d2:decide (s>seq)=false:=by simp;omega
  go_wp2_with fail;refine bW [(1,[0,1,2,3,4,5,6,7])] (by kernel_rfl) ?_;simp only[zz];repeat(first|go_big_quiet_step(fail)|apply ax|apply af|apply ag|apply ah)
  refine aj ?_;have HS:=aa HS.drew;clear aF iF fK ee cu dz eY gK f25 z0 z1;have aF:=HS.ar 2 rfl;have kf:=P.pf aD seq (.map (some mb)) (.slice la ln lc) ⟨pn,pf,dH,dL,nt,nl,bS,0⟩
 case' U|g4|g5=>have iF:=aF.aT 24 kf.seq;have fK:=aF.aT 25 kf.next;have ee:=aF.aT 26 kf.mp;have cu:=aF.aT 27 kf.wt;have dz:=aF.aT 28 kf.wl;have eY:=aF.aT 31 kf.bS;have gK:=aF.aT 32 kf.s;have f25:=aF.az;clear kf;have z0:=(HS.ar 0 rfl).cell 0;have z1:=(HS.ar 0 rfl).cell 1;simp only[zg]at z0 z1
 case' U=>have d14:decide (c.t<pn)=false:=by simp;omega
 case' g4|g5=>
  have d3:(pn==c.t)=false:=by simp;omega
  have d4:(pn==c.t+1)=false:=by simp;omega
  have d14:decide (c.t<pn)=true:=by simp;omega
  obtain⟨i0,iJ,jA,jB,iR⟩:=eA J7;clear aF iF fK ee cu dz eY gK f25 z0 z1;generalize World.drew _=wL at HS⊢;have aF:=HS.ar 2 rfl;have kf:=P.pf aD seq (.map (some mb)) (.slice la ln lc) ⟨pn,pf,dH,dL,nt,nl,bS,0⟩;have iF:=aF.aT 24 kf.seq;have fK:=aF.aT 25 kf.next;have ee:=aF.aT 26 kf.mp;have cu:=aF.aT 27 kf.wt;have dz:=aF.aT 28 kf.wl;have eY:=aF.aT 31 kf.bS;have gK:=aF.aT 32 kf.s;have f25:=aF.az;clear kf;have z0:=(HS.ar 0 rfl).cell 0;have z1:=(HS.ar 0 rfl).cell 1;simp only[zg]at z0 z1;go_wp2_with fail;refine bW [(1,[1,2,3,4,5,6]),(0,[0]),(2,[7]),(3,[8]),(0,[9,10]),(3,[11])] (by kernel_rfl) ?_;simp only[zz];repeat(first|go_big_quiet_step(fail)|apply ax|apply af|apply ag|apply ah)
  refine aA ?_;go_wp2;refine⟨⟨⟨_,(by exact Fr.lB ((Fr.refl _ _).alloc _).drew)⟩,rfl⟩,?_⟩;have h2:=(HS.new 26 [U x]).drew;have z7:=aa h2;clear h2;refine ao ?_;refine ch _ rfl _ _ 49 rfl 0 26 i0 _ 1 8 underlying49 iJ jA jB iR rfl (by decide) (.slice la ln lc) ln (bS.map (Value.int .u64)) rfl (z7.row 5 rfl) [U x] _ _ rfl (z7.ar 0 rfl) rfl (by simp[Value.oneCell']) (by unfold maxLen;omega) (by omega) (cE _) ?_;intro g6 c6 w6 nj ve sx kM mw;simp only[Act.put,aZ,zs];have h3:=(z7.grown 5 rfl nj ve (λq e=>by
   rcases sx with h1|h1
   ·exact .inl (h1.trans e)
   ·right;simp only[Value.ownBlock,eX]at e;rw[←e,h1];exact dp _)).tail
  have AX:(bS++[x]).map (Value.int .u64)=bS.map (Value.int .u64)++[U x]:=by simp
  simp only[zs]at h3;rw[←AX]at h3;clear aF iF fK ee cu dz eY gK f25 z0 z1;have HS:=aa h3;clear h3 nj ve sx z7 AX;have aF:=HS.ar 2 rfl;have kf:=P.pf aD seq (.map (some mb)) (.slice la ln lc) ⟨pn,pf,dH,dL,nt,nl,bS,0⟩;have iF:=aF.aT 24 kf.seq;have fK:=aF.aT 25 kf.next;have ee:=aF.aT 26 kf.mp;have cu:=aF.aT 27 kf.wt;have dz:=aF.aT 28 kf.wl;have eY:=aF.aT 31 kf.bS;have gK:=aF.aT 32 kf.s;have f25:=aF.az;clear kf;have z0:=(HS.ar 0 rfl).cell 0;have z1:=(HS.ar 0 rfl).cell 1;simp only[zg]at z0 z1;repeat(first|go_big_quiet_step(fail)|apply ax|apply af|apply ag|apply ah)
  refine ao ?_;have du:=HS.set 2 rfl 31 (.slice (some ⟨g6,0,none⟩) (ln+1) c6);simp only[zs,P.wO aD]at du;go_wp2_with fail;generalize World.setCell _ _ _=w4 at du⊢;refine aj ?_;clear aF iF fK ee cu dz eY gK f25 z0 z1;have HS:=aa du;clear du;have aF:=HS.ar 2 rfl;have kf:=P.pf aD seq (.map (some mb)) (.slice (some ⟨g6,0,none⟩) (ln+1) c6) ⟨pn,pf,dH,dL,nt,nl,bS,0⟩;have iF:=aF.aT 24 kf.seq;have fK:=aF.aT 25 kf.next;have ee:=aF.aT 26 kf.mp;have cu:=aF.aT 27 kf.wt;have dz:=aF.aT 28 kf.wl;have eY:=aF.aT 31 kf.bS;have gK:=aF.aT 32 kf.s;have f25:=aF.az;clear kf;have z0:=(HS.ar 0 rfl).cell 0;have z1:=(HS.ar 0 rfl).cell 1;simp only[zg]at z0 z1
 case' U|g4|g5=>have du:=HS.set 2 rfl 25 (I (pn+1));simp only[zs,P.mK aD]at du;go_wp2_with fail;generalize World.setCell _ _ _=w5 at du⊢;clear aF iF fK ee cu dz eY gK f25 z0 z1;have HS:=aa du.drew;clear du;have aF:=HS.ar 2 rfl
 case' U=>have kf:=P.pf aD seq (.map (some mb)) (.slice la ln lc) ⟨pn+1,P.Dc pf x,dH,dL,nt,nl,bS,0⟩
 case' g4|g5=>have kf:=P.pf aD seq (.map (some mb)) (.slice (some ⟨g6,0,none⟩) (ln+1) c6) ⟨pn+1,pf,dH,dL,nt,nl,bS,0⟩
 case' g0|g1|g2|g3=>subst h0;have d1:decide (pn<c.t)=false:=by simp;omega
 case' g1|g2|g3=>have d2:decide (s>seq)=false:=by simp;omega
 case' g0|g1|g2|g3=>
  go_wp2_with fail;refine bW [(1,[0,1,2,3,4,5,6,7])] (by kernel_rfl) ?_;simp only[zz];repeat(first|go_big_quiet_step(fail)|apply ax|apply af|apply ag|apply ah)
  refine aj ?_;have HS:=aa HS.drew;clear aF iF fK ee cu dz eY gK f25 z0 z1;have aF:=HS.ar 2 rfl;have kf:=P.pf aD seq (.map (some mb)) (.slice la ln lc) ⟨pn,pf,dH,dL,nt,nl,bS,0⟩
 case' U|g4|g5|g0|g1|g2|g3=>have iF:=aF.aT 24 kf.seq;have fK:=aF.aT 25 kf.next;have ee:=aF.aT 26 kf.mp;have cu:=aF.aT 27 kf.wt;have dz:=aF.aT 28 kf.wl;have eY:=aF.aT 31 kf.bS;have gK:=aF.aT 32 kf.s;have f25:=aF.az;clear kf;have z0:=(HS.ar 0 rfl).cell 0;have z1:=(HS.ar 0 rfl).cell 1;simp only[zg]at z0 z1
 case' U|g4|g5=>refine bW [(1,[0,1,2,3,4,5,6,7,8,9,10,11,12,13,14,15,16,17,18,19])] (by kernel_rfl) ?_;simp only[zz]
 case' U=>
  repeat(first|go_big_quiet_step(fail)|quiet_step(fail)|apply ax|apply af|apply ag|apply ah)
  refine aj ?_;go_wp2;go_end0
 case' g4|g5=>
  repeat(first|go_big_quiet_step(fail)|apply ax|apply af|apply ag|apply ah)
  refine aj ?_
 case' g4=>go_wp2;go_end0
 case' g5=>have hle:=(P.pf aD seq (.map (some mb)) (.slice (some ⟨g6,0,none⟩) (ln+1) c6) ⟨pn+1,pf,dH,dL,nt,nl,bS,0⟩).len;go_wp2_with(first|(refine ay 252 _ rfl rfl _ 27 rfl [.int .i64 dH,.int .i64 dL] _ (Co aD aF) underlying252 rfl (by kernel_rfl) ?_)|(refine fz HS.out 2 rfl 29 [.int .i64 dH,.int .i64 dL] 252 _ _ rfl rfl rfl rfl (by rw[hle];simp) (by kernel_rfl) (by simp[Value.oneCell']) (λwA hA _=>?_);simp only[aL,aN,Cp aD]at hA;have b2:=hA.ar 2 rfl;have a32:=(b2.cell 32).trans (P.pf aD _ _ _ _).s;have g32:=b2.az 32;have al:=b2.lt;have de:=aa hA;clear hA b2));have du:=de.set 2 rfl 32 (I 1);simp only[zs,P.Db aD]at du;go_end0
 case' g0=>have du:=HS.set 2 rfl 32 (I 2);simp only[zs,P.Db aD]at du;have de:=aa du;clear du;go_wp2;refine aV (v:= .tuple #[]) (by simp[results,Tryz.results225,go_sem]) rfl ?_
 case' g1=>
  generalize MA:min x c.b=mn at*;have Xe:0≤mn∧mn≤c.b:=by omega
  have hif:(if c.b<x then c.b else x)=mn:=by rw[←MA];split<;>omega
  have GK:IntKind.u64.wrap c.b=c.b:=by rw[ir];omega
 case' g2|g3=>
  generalize hlc:b_ c=lk at*;generalize MA:min x lk=mn at*;have Xe:0≤mn∧mn≤lk:=by omega
  have hif:(if lk<x then lk else x)=mn:=by rw[←MA];split<;>omega
  have GK:IntKind.u64.wrap lk=lk:=by rw[ir];omega
 case' g1|g2|g3=>have hwm:IntKind.i64.wrap mn=mn:=bf _ (by omega) (by omega);clear MA
 case' g1=>
  have YR:=λw=>(fS.out w).2;have d3:(pn==c.t)=true:=by simp;omega
  have d14:decide (c.t<pn)=false:=by simp;omega
  clear h1
 case' g2|g3=>
  have d3:(pn==c.t)=false:=by simp;omega
  have d4:(pn==c.t+1)=true:=by simp;omega
  have d14:decide (c.t<pn)=true:=by simp;omega
  rw[vG.out]at h3
 case' g2=>have d15:((ln:Int)==mn)=false:=by simpa using h3
 case' g3=>have d15:((ln:Int)==mn)=true:=by simpa using h3
 case' g2|g3=>clear h1 h3
 case' g1|g2|g3=>go_wp2_with fail;have cC:=aF.drew;unfold P.bO at cC
 case' g1=>refine bW [(1,[0,1,2,3,4,5,6]),(2,[7]),(0,[8,9,10,11,12,13,14]),(3,[15])] (by kernel_rfl) ?_;simp only[zz]
 case' g2|g3=>refine bW [(1,[0,1,2,3,4,5,6]),(2,[7]),(0,[8,9,10,11,12,13]),(3,[14])] (by kernel_rfl) ?_;simp only[zz]
 case' Z=>exact aV (v:= .tuple #[.agg (eF p0).toArray,.bool false]) (bj Tryz.results222 rfl rfl (HS.ar 0 rfl).range underlying82 rfl (by kernel_rfl)) rfl ⟨rfl,HS.fr⟩
 case' Y|G=>
  refine af ?_;iterate 3 (first|go_big_quiet_step (fail)|quiet_step (fail))
  refine ak 58 _ b 0 cs _ rfl rfl rfl (cm cC (by simp<;>omega)) underlying58 rfl (by rw[aD];kernel_rfl) ?_;simp only[Act.put,aZ,zs];repeat(first|go_big_quiet_step (fail)|quiet_step (fail))
  refine ax ?_;refine ao ?_;go_wp2_with fail;refine(HA.out _).kq HS.dr λw3 HS=>?_;go_wp2_with fail;repeat(first|go_big_quiet_step(fail)|quiet_step(fail)|apply ax|apply af|apply ag|apply ah)
  refine ao ?_;have fD:=dg ⟨0,av,0,0,0,0⟩;refine aC HS.out 0 rfl (eF ⟨0,av,0,0,0,0⟩) 82 _ _ rfl rfl rfl rfl rfl (by kernel_rfl) fD (λwA hA _=>?_);have HS:=aa hA;clear hA;go_wp2_with fail;repeat(first|go_big_quiet_step(fail)|quiet_step(fail)|apply ax|apply af|apply ag|apply ah)
  refine aj ?_;go_wp2_with fail;exact aV (v:= .tuple #[.agg (eF ⟨0,av,0,0,0,0⟩).toArray,.bool true]) (bj Tryz.results222 rfl rfl (HS.ar 0 rfl).range underlying82 rfl (by kernel_rfl)) rfl ⟨rfl,HS.fr⟩
 case' X|J=>exact aV (v:= .tuple #[.agg (eF ⟨0,av,0,0,0,0⟩).toArray,.bool true]) (bj Tryz.results222 rfl rfl (HS.ar 0 rfl).range underlying82 rfl (by kernel_rfl)) rfl ⟨rfl,HS.fr⟩
 case' V=>exact⟨rfl,dQ.out _ _ _ _ (dp _) vG.out.symm HS.tail.tail⟩
 case' U=>exact⟨rfl,dQ.out _ _ _ _ (by omega) vG.out.symm HS.tail.tail⟩
 case' g4=>exact⟨rfl,dQ.out _ _ _ _ (by omega) (by rw[eE,vG.out];rfl) HS.tail.tail⟩
 case' g5=>exact⟨rfl,dQ.out _ _ _ _ (by omega) (by rw[eE,vG.out];rfl) du.tail.tail⟩
 case' g0=>exact⟨rfl,dQ.out _ _ _ _ (dp _) vG.out.symm de.tail.tail⟩
 case' g1=>
  refine af ?_;iterate 6 (first|go_big_quiet_step (fail)|quiet_step (fail))
  refine ak 58 _ b 0 cs _ rfl rfl rfl (cm cC (by simp)) underlying58 rfl (by rw[aD];kernel_rfl) ?_;simp only[Act.put,aZ,zs];repeat go_big_quiet_step(fail)
  refine ax ?_;refine aA ?_;go_wp2_with fail;refine(gF.out _).kf HS.dr λw4 HF HS=>?_;go_wp2;refine⟨⟨⟨_,(by exact HF.out)⟩,rfl⟩,?_⟩;repeat(first|go_big_quiet_step(fail)|apply ax|apply af|apply ag|apply ah)
  clear aF iF fK ee cu dz eY gK f25 z0 z1;have aF:=HS.ar 2 rfl;have kf:=P.pf aD seq (.map (some mb)) (.slice la ln lc) ⟨pn,pf,dH,dL,nt,nl,bS,0⟩;have iF:=aF.aT 24 kf.seq;have fK:=aF.aT 25 kf.next;have ee:=aF.aT 26 kf.mp;have cu:=aF.aT 27 kf.wt;have dz:=aF.aT 28 kf.wl;have eY:=aF.aT 31 kf.bS;have gK:=aF.aT 32 kf.s;have f25:=aF.az;clear kf;have z0:=(HS.ar 0 rfl).cell 0;have z1:=(HS.ar 0 rfl).cell 1;simp only[zg]at z0 z1;refine ao ?_;have du:=HS.set 2 rfl 27 (I (mn));simp only[zs,P.Pg aD]at du;go_wp2_with fail;generalize World.setCell _ _ _=w5 at du⊢;refine aj ?_;clear aF iF fK ee cu dz eY gK f25 z0 z1;have HS:=aa du;clear du;have aF:=HS.ar 2 rfl;have kf:=P.pf aD seq (.map (some mb)) (.slice la ln lc) ⟨pn,pf,mn,dL,nt,nl,bS,0⟩;have iF:=aF.aT 24 kf.seq;have fK:=aF.aT 25 kf.next;have ee:=aF.aT 26 kf.mp;have cu:=aF.aT 27 kf.wt;have dz:=aF.aT 28 kf.wl;have eY:=aF.aT 31 kf.bS;have gK:=aF.aT 32 kf.s;have f25:=aF.az;clear kf;have z0:=(HS.ar 0 rfl).cell 0;have z1:=(HS.ar 0 rfl).cell 1;simp only[zg]at z0 z1;have du:=HS.set 2 rfl 25 (I (pn+1));simp only[zs,P.mK aD]at du;go_wp2_with fail;generalize World.setCell _ _ _=w5 at du⊢;clear aF iF fK ee cu dz eY gK f25 z0 z1;have HS:=aa du.drew;clear du;have aF:=HS.ar 2 rfl;have kf:=P.pf aD seq (.map (some mb)) (.slice la ln lc) ⟨pn+1,pf,mn,dL,nt,nl,bS,0⟩;have iF:=aF.aT 24 kf.seq;have fK:=aF.aT 25 kf.next;have ee:=aF.aT 26 kf.mp;have cu:=aF.aT 27 kf.wt;have dz:=aF.aT 28 kf.wl;have eY:=aF.aT 31 kf.bS;have gK:=aF.aT 32 kf.s;have f25:=aF.az;clear kf;have z0:=(HS.ar 0 rfl).cell 0;have z1:=(HS.ar 0 rfl).cell 1;simp only[zg]at z0 z1;refine bW [(1,[0,1,2,3,4,5,6,7,8,9,10,11,12,13,14,15,16,17,18,19])] (by kernel_rfl) ?_;simp only[zz];repeat(first|go_big_quiet_step(fail)|apply ax|apply af|apply ag|apply ah)
  refine aj ?_;go_wp2;go_end0;exact⟨rfl,dQ.out _ _ _ _ (by omega) vG.out.symm HS.tail.tail⟩
 case' g2=>
  refine af ?_;iterate 6 (first|go_big_quiet_step (fail)|quiet_step (fail))
  refine ak 58 _ b 0 cs _ rfl rfl rfl (cm cC (by simp)) underlying58 rfl (by rw[aD];kernel_rfl) ?_;simp only[Act.put,aZ,zs];repeat go_big_quiet_step(fail)
  refine ax ?_;refine aA ?_;go_wp2_with fail;refine(xH.out _).kf HS.dr λw4 HF HS=>?_;go_wp2;refine⟨⟨⟨_,(by exact HF.out)⟩,rfl⟩,?_⟩;repeat(first|go_big_quiet_step(fail)|apply ax|apply af|apply ag|apply ah)
  clear aF iF fK ee cu dz eY gK f25 z0 z1;have aF:=HS.ar 2 rfl;have kf:=P.pf aD seq (.map (some mb)) (.slice la ln lc) ⟨pn,pf,dH,dL,nt,nl,bS,0⟩;have iF:=aF.aT 24 kf.seq;have fK:=aF.aT 25 kf.next;have ee:=aF.aT 26 kf.mp;have cu:=aF.aT 27 kf.wt;have dz:=aF.aT 28 kf.wl;have eY:=aF.aT 31 kf.bS;have gK:=aF.aT 32 kf.s;have f25:=aF.az;clear kf;have z0:=(HS.ar 0 rfl).cell 0;have z1:=(HS.ar 0 rfl).cell 1;simp only[zg]at z0 z1;refine ao ?_;have du:=HS.set 2 rfl 28 (I (mn));simp only[zs,P.EV aD]at du;go_wp2_with fail;generalize World.setCell _ _ _=w5 at du⊢;refine aj ?_;clear aF iF fK ee cu dz eY gK f25 z0 z1;have HS:=aa du;clear du;have aF:=HS.ar 2 rfl;have kf:=P.pf aD seq (.map (some mb)) (.slice la ln lc) ⟨pn,pf,dH,mn,nt,nl,bS,0⟩;have iF:=aF.aT 24 kf.seq;have fK:=aF.aT 25 kf.next;have ee:=aF.aT 26 kf.mp;have cu:=aF.aT 27 kf.wt;have dz:=aF.aT 28 kf.wl;have eY:=aF.aT 31 kf.bS;have gK:=aF.aT 32 kf.s;have f25:=aF.az;clear kf;have z0:=(HS.ar 0 rfl).cell 0;have z1:=(HS.ar 0 rfl).cell 1;simp only[zg]at z0 z1;have du:=HS.set 2 rfl 25 (I (pn+1));simp only[zs,P.mK aD]at du;go_wp2_with fail;generalize World.setCell _ _ _=w5 at du⊢;clear aF iF fK ee cu dz eY gK f25 z0 z1;have HS:=aa du.drew;clear du;have aF:=HS.ar 2 rfl;have kf:=P.pf aD seq (.map (some mb)) (.slice la ln lc) ⟨pn+1,pf,dH,mn,nt,nl,bS,0⟩;have iF:=aF.aT 24 kf.seq;have fK:=aF.aT 25 kf.next;have ee:=aF.aT 26 kf.mp;have cu:=aF.aT 27 kf.wt;have dz:=aF.aT 28 kf.wl;have eY:=aF.aT 31 kf.bS;have gK:=aF.aT 32 kf.s;have f25:=aF.az;clear kf;have z0:=(HS.ar 0 rfl).cell 0;have z1:=(HS.ar 0 rfl).cell 1;simp only[zg]at z0 z1;refine bW [(1,[0,1,2,3,4,5,6,7,8,9,10,11,12,13,14,15,16,17,18,19])] (by kernel_rfl) ?_;simp only[zz];repeat(first|go_big_quiet_step(fail)|apply ax|apply af|apply ag|apply ah)
  refine aj ?_;go_wp2;go_end0;exact⟨rfl,dQ.out _ _ _ _ (by omega) vG.out.symm HS.tail.tail⟩
 refine af ?_;iterate 6 (first|go_big_quiet_step (fail)|quiet_step (fail))
 refine ak 58 _ b 0 cs _ rfl rfl rfl (cm cC (by simp)) underlying58 rfl (by rw[aD];kernel_rfl) ?_;simp only[Act.put,aZ,zs];repeat go_big_quiet_step(fail)
 refine ax ?_;refine aA ?_;go_wp2_with fail;refine(xH.out _).kf HS.dr λw4 HF HS=>?_;go_wp2;refine⟨⟨⟨_,(by exact HF.out)⟩,rfl⟩,?_⟩;repeat(first|go_big_quiet_step(fail)|apply ax|apply af|apply ag|apply ah)
 clear aF iF fK ee cu dz eY gK f25 z0 z1;have aF:=HS.ar 2 rfl;have kf:=P.pf aD seq (.map (some mb)) (.slice la ln lc) ⟨pn,pf,dH,dL,nt,nl,bS,0⟩;have iF:=aF.aT 24 kf.seq;have fK:=aF.aT 25 kf.next;have ee:=aF.aT 26 kf.mp;have cu:=aF.aT 27 kf.wt;have dz:=aF.aT 28 kf.wl;have eY:=aF.aT 31 kf.bS;have gK:=aF.aT 32 kf.s;have f25:=aF.az;clear kf;have z0:=(HS.ar 0 rfl).cell 0;have z1:=(HS.ar 0 rfl).cell 1;simp only[zg]at z0 z1;refine ao ?_;have du:=HS.set 2 rfl 28 (I (mn));simp only[zs,P.EV aD]at du;go_wp2_with fail;generalize World.setCell _ _ _=w5 at du⊢;refine aj ?_;clear aF iF fK ee cu dz eY gK f25 z0 z1;have HS:=aa du;clear du;have aF:=HS.ar 2 rfl;have kf:=P.pf aD seq (.map (some mb)) (.slice la ln lc) ⟨pn,pf,dH,mn,nt,nl,bS,0⟩;have iF:=aF.aT 24 kf.seq;have fK:=aF.aT 25 kf.next;have ee:=aF.aT 26 kf.mp;have cu:=aF.aT 27 kf.wt;have dz:=aF.aT 28 kf.wl;have eY:=aF.aT 31 kf.bS;have gK:=aF.aT 32 kf.s;have f25:=aF.az;clear kf;have z0:=(HS.ar 0 rfl).cell 0;have z1:=(HS.ar 0 rfl).cell 1;simp only[zg]at z0 z1;have du:=HS.set 2 rfl 25 (I (pn+1));simp only[zs,P.mK aD]at du;go_wp2_with fail;generalize World.setCell _ _ _=w5 at du⊢;clear aF iF fK ee cu dz eY gK f25 z0 z1;have HS:=aa du.drew;clear du;have aF:=HS.ar 2 rfl;have kf:=P.pf aD seq (.map (some mb)) (.slice la ln lc) ⟨pn+1,pf,dH,mn,nt,nl,bS,0⟩;have iF:=aF.aT 24 kf.seq;have fK:=aF.aT 25 kf.next;have ee:=aF.aT 26 kf.mp;have cu:=aF.aT 27 kf.wt;have dz:=aF.aT 28 kf.wl;have eY:=aF.aT 31 kf.bS;have gK:=aF.aT 32 kf.s;have f25:=aF.az;clear kf;have z0:=(HS.ar 0 rfl).cell 0;have z1:=(HS.ar 0 rfl).cell 1;simp only[zg]at z0 z1;refine bW [(1,[0,1,2,3,4,5,6,7,8,9,10,11,12,13,14,15,16,17,18,19])] (by kernel_rfl) ?_;simp only[zz];repeat(first|go_big_quiet_step(fail)|apply ax|apply af|apply ag|apply ah)
 refine aj ?_;have hle:=(P.pf aD seq (.map (some mb)) (.slice la ln lc) ⟨pn+1,pf,dH,mn,nt,nl,bS,0⟩).len;go_wp2_with(first|(refine ay 252 _ rfl rfl _ 27 rfl [.int .i64 dH,.int .i64 mn] _ (Co aD aF) underlying252 rfl (by kernel_rfl) ?_)|(refine fz HS.out 2 rfl 29 [.int .i64 dH,.int .i64 mn] 252 _ _ rfl rfl rfl rfl (by rw[hle];simp) (by kernel_rfl) (by simp[Value.oneCell']) (λwA hA _=>?_);simp only[aL,aN,Cp aD]at hA;have b2:=hA.ar 2 rfl;have a32:=(b2.cell 32).trans (P.pf aD _ _ _ _).s;have g32:=b2.az 32;have al:=b2.lt;have de:=aa hA;clear hA b2));have du:=de.set 2 rfl 32 (I 1);simp only[zs,P.Db aD]at du;go_end0;exact⟨rfl,dQ.out _ _ _ _ (by omega) vG.out.symm du.tail.tail⟩
def Vi:=@zq50.1
def My:=@zq50.2.1
def QB:=@zq50.2.2.1
def QC:=@zq50.2.2.2.1
def Ix:=@zq50.2.2.2.2.1
def QF{w0 w R}(b c aE seq x s ok hx pn pf dH dL nt nl bS ps hp):=(@zq50.2.2.2.2.2 w0 w R b c aE seq x s ok hx pn pf dH dL nt nl bS ps hp).1
def Iy{w0 w R}(b c aE seq x s ok hx pn pf dH dL nt nl bS ps hp):=(@zq50.2.2.2.2.2 w0 w R b c aE seq x s ok hx pn pf dH dL nt nl bS ps hp).2.1
def Fw{w0 w R}(b c aE seq x s ok hx pn pf dH dL nt nl bS ps hp):=(@zq50.2.2.2.2.2 w0 w R b c aE seq x s ok hx pn pf dH dL nt nl bS ps hp).2.2.1
def Mz{w0 w R}(b c aE seq x s ok hx pn pf dH dL nt nl bS ps hp):=(@zq50.2.2.2.2.2 w0 w R b c aE seq x s ok hx pn pf dH dL nt nl bS ps hp).2.2.2.1
def Iz{w0 w R}(b c aE seq x s ok hx pn pf dH dL nt nl bS ps hp):=(@zq50.2.2.2.2.2 w0 w R b c aE seq x s ok hx pn pf dH dL nt nl bS ps hp).2.2.2.2.1
def IA{w0 w R}(b c aE seq x s ok hx pn pf dH dL nt nl bS ps hp):=(@zq50.2.2.2.2.2 w0 w R b c aE seq x s ok hx pn pf dH dL nt nl bS ps hp).2.2.2.2.2.1
def DC{w0 w R}(b c aE seq x s ok hx pn pf dH dL nt nl bS ps hp):=(@zq50.2.2.2.2.2 w0 w R b c aE seq x s ok hx pn pf dH dL nt nl bS ps hp).2.2.2.2.2.2.1
def DD{w0 w R}(b c aE seq x s ok hx pn pf dH dL nt nl bS ps hp):=(@zq50.2.2.2.2.2 w0 w R b c aE seq x s ok hx pn pf dH dL nt nl bS ps hp).2.2.2.2.2.2.2
def Vj {w0 w R}(b c)(aE:Y.Ok c)(seq p)(hp:P.Ok c p)(hS:Sep w0 w (bE c seq b p::R)):
 ba 222 #[O b] w (.tuple #[.agg (eF (P.ask c p).1).toArray,.bool (P.ask c p).2]):=by
 unfold P.ask;by_cases h0:p.s=0
 ·rw[aq (by simpa using h0)];by_cases h1:p.next<c.t
  ·rw[aB h1];exact My b c aE seq p hp h0 h1 hS
  rw[aq h1];by_cases h2:p.next=c.t
  ·rw[aB h2];exact QB b c aE seq p hp h0 h2 hS
  rw[aq h2];by_cases h3:p.next=c.t+1
  ·rw[aB h3];exact QC b c aE seq p hp h0 h3 hS
  rw[aq h3];exact Ix b c aE seq p hp h0 (by omega) hS
 ·rw[aB h0];exact Vi b c aE seq p hp h0 hS
def QG {w0 w R}(b c)(aE:Y.Ok c)(seq x s ok)(hx:0≤x∧x≤18446744073709551615)(p)(hp:P.Ok c p)(hS:Sep w0 w (bE c seq b p::R)):
 bR 225 #[O b,.agg #[U x,U s,.bool ok]] w w0 (bE c seq b (P.tell c seq x s p)::R):=by
 obtain⟨pn,pf,dH,dL,nt,nl,bS,ps⟩:=p;have QH:=hp.cr;dsimp only at QH;unfold P.tell P.fin;dsimp only;by_cases h0:ps=0
 ·rw[aq (by simpa using h0)];by_cases h1:pn<c.t
  ·rw[aB h1,aq (by omega)];subst h0;exact Iy b c aE seq x s ok hx pn pf dH dL nt nl bS 0 hp rfl h1 hS
  rw[aq h1];by_cases h2:seq<s
  ·rw[aB h2];exact Fw b c aE seq x s ok hx pn pf dH dL nt nl bS ps hp h0 (by omega) h2 hS
  rw[aq h2];by_cases h3:pn=c.t
  ·rw[aB h3,aq (by omega)];subst h0;exact Mz b c aE seq x s ok hx pn pf dH dL nt nl bS 0 hp rfl h3 (by omega) hS
  rw[aq h3];by_cases h4:pn=c.t+1
  ·rw[aB h4];by_cases h5:(bS.length:Int)=min x (b_ c)
   ·rw[aB ⟨by omega,h5⟩];exact IA b c aE seq x s ok hx pn pf dH dL nt nl bS ps hp h0 h4 (by omega) h5 hS
   ·rw[aq (λh=>h5 h.2)];subst h0;exact Iz b c aE seq x s ok hx pn pf dH dL nt nl bS 0 hp rfl h4 (by omega) h5 hS
  rw[aq h4];have h6:(bS.length:Int)<dL:=by
   rcases QH h0 with h|h
   ·omega
   ·exact h.2.2
  by_cases h5:(bS.length:Int)+1=dL
  ·rw[aB ⟨by omega,by simpa using h5⟩];exact DD b c aE seq x s ok hx pn pf dH dL nt nl bS ps hp h0 (by omega) (by omega) h5 h6 hS
  ·rw[aq (λh=>h5 (by simpa using h.2))];subst h0;exact DC b c aE seq x s ok hx pn pf dH dL nt nl bS 0 hp rfl (by omega) (by omega) h5 h6 hS
 ·rw[aB h0];exact QF b c aE seq x s ok hx pn pf dH dL nt nl bS ps hp h0 hS
end Go.Proofs.YtolkmchicplaoaaGreat
namespace Go.Proofs.YtolkmchicplaoaaGreat
open Go.RowKit Go.aS Go.aS.I_ Go.aS.Y
def Fx {w b}{T:TypeId}{H xp nx u av an a0 a1 a2 a3 g rv s}(hH:H.length=28)(h:cB w b T (H++[xp,nx,u,av,an,a0,a1,a2,a3,g,rv,s])):w.rangeAt b 33 [a0,a1,a2,a3]:=by
 intro j v hj;have h1:=λk (hk:28≤k)=>(h.cell k).trans (Xi hH [xp,nx,u,av,an,a0,a1,a2,a3,g,rv,s] k hk)
 match j,hj with
 |0,hj=>exact(h1 33 (by omega)).trans hj
 |1,hj=>exact(h1 34 (by omega)).trans hj
 |2,hj=>exact(h1 35 (by omega)).trans hj
 |3,hj=>exact(h1 36 (by omega)).trans hj
 |j+4,hj=>simp at hj
def IB{w0 w R c}(aE:Y.Ok c){H aw seq b vb pb sb pv xp rv aO ai}(hE:BH (ae c) pv vb pb sb H)(hP:∀w',Sep w0 w' R→cL w' pv aO ai){y}(bX:y.args.length=4)(p6:∀r∈y.args,W.U_ r)(tq:W.U_ y.av)(hd:y.x.w.done.length≤500000)(hu:W.ou y.x.w)(hv:W.U_ y.x.v.val)(mY:0≤y.x.p.nt∧y.x.p.nt≤c.b)(kA:0≤y.x.p.nl∧y.x.p.nl≤b_ c)(nR:y.rows.length≤8)(hX:gE c (X.new c (B.bU ai y.av) y.args y.x.v y.x.p y.x.w))(hq:(X.new c (B.bU ai y.av) y.args y.x.v y.x.p y.x.w).s=1→BQ c (B.ny c {y with code:=B.bU ai y.av,x:=X.new c (B.bU ai y.av) y.args y.x.v y.x.p y.x.w,next:=4}))(hS:Sep w0 w (jL H c aw seq b vb pb sb xp rv y++R)):bR 229 #[O b] w w0 (df c aw seq b pv aO (B.dI c ai y)::R):=by
 have hPw:∃w',Sep w0 w' R:=⟨w,by
  have h:=hS;simp only[jL,za]at h;exact h.tail.tail.tail.tail.tail⟩
 obtain⟨wp,hwp⟩:=hPw;have B5:=(hP wp hwp).len;have hpf:=(hP wp hwp).tY;obtain⟨pa,pc,NY⟩:=(hP wp hwp).row.len;obtain⟨ca,cc,eT⟩:=((hP wp hwp).code tq.1).1.len;obtain⟨n,hn⟩:∃n,n=(B.bU ai y.av).length:=⟨_,rfl⟩;rw[←hn]at eT;rw[B5]at NY;unfold B.dI;have Vk:=aa (λw' (R':List a_) hC hS=>Fm (w0:=w0) (w:=w') (R:=R') aE (aw:=aw) (seq:=seq) (vb:=vb) (pb:=pb) (sb:=sb) ca n cc hn bX p6 hC hd hu hv mY kA hS);have Tb:Hid (∀w',Sep w0 w' R→dJ w' (.slice ca n cc) (B.bU ai y.av)):=aa (λw' h=>eT▸(hP w' h).code tq.1);obtain⟨k,hk⟩:∃k:Nat,y.av=(k:Int):=⟨y.av.toNat,by have:=tq.1;omega⟩;obtain⟨m,hm⟩:∃m,m=ai.length:=⟨_,rfl⟩;have Zt:Hid (k<m→∀w',Sep w0 w' R→∃xa:Addr,pa=some xa∧xa.block<w'.heap.size∧w'.cell? (xa.add k)=some (.slice ca n cc)):=aa (λHg w' h=>by
  have h1:=(hP w' h).row;have fu:k<aO.length:=by omega
  rw[NY]at h1;obtain⟨x,e,hx,h2,_⟩:=h1.at fu;rw[lj]at h2;refine⟨x,e,hx,h2 _ ?_⟩;rw[←eT,hk];unfold sL;rw[aB (by omega)];simp[List.getD,fu])
 have Zu:Hid (¬k<m→ca=none∧n=0∧cc=0):=aa (λh=>by
  rw[hk]at eT;unfold sL at eT;rw[aq (by omega)]at eT;simp only[dk]at eT;exact⟨eT.1.symm,eT.2.1.symm,eT.2.2.symm⟩)
 rw[←hm]at NY hpf;clear hd hu hv mY kA hP hwp p6;generalize B.bU ai y.av=code at*;generalize X.new c code y.args y.x.v y.x.p y.x.w=x2 at*;clear hn hm B5;have ts:=aa eT;clear eT;have Vl:=aa NY;clear NY;obtain⟨bx,gX,ij,bu,tO,rH,cq,eR,ft,bs⟩:=y;dsimp only at*;subst hk;clear tq;obtain⟨a0,a1,a2,a3,rfl⟩:∃a0 a1 a2 a3,cq=[a0,a1,a2,a3]:=by
  match cq,bX with
  |[a0,a1,a2,a3],_=>exact⟨a0,a1,a2,a3,rfl⟩
 have gO:bC [a0,a1,a2,a3]=[U a0,U a1,U a2,U a3]:=rfl;have ai5:Hid (∀w' eb,Sep w0 w' (aJ b 231 (H++[O eb,I 4,I bu,U (k:Int),U rH,U a0,U a1,U a2,U a3,I eR,rv,I bs])::oW rv ft::aQ c aw seq eb vb pb sb (.slice ca n cc) [a0,a1,a2,a3] x2::R)→bR 231 #[O b] w' w0 (df c aw seq b pv aO (B.A_ c ⟨x2,code,4,bu,k,rH,[a0,a1,a2,a3],eR,ft,bs⟩)::R)):=
  aa (λw' eb h=>Fv (w0:=w0) (w:=w') (R:=R) aE (H:=H) (eb:=eb) (vb:=vb) (pb:=pb) (sb:=sb) (rv:=rv) hE (y:=⟨x2,code,4,bu,k,rH,[a0,a1,a2,a3],eR,ft,bs⟩) rfl rfl hX nR hq (by simp only[Af];rw[ts.out];exact h))
 simp only[jL,ji,gO,za]at hS;rw[gO]at Vk;have aD:(ae c).length=24:=rfl;have HE:=aa hE;have HS:=aa hS;generalize B.A_ c _=T at*;clear hS bX hE gO hX hq ts nR;unfold aY at*;generalize ae c=cs at*;have hwm:IntKind.u64.wrap (m:Int)=m:=by rw[ir];omega
 have hB:=(HS.ar 0 rfl).drew;have f31:=hB.aR HE.len 31 rfl rfl;have f24:=hB.fM HE.len 24 rfl HE.out.pv;rw[Vl.out]at f24;have fl:=hB.lt;delta bR;go_in;go_wp2_with fail;by_cases Hg:k<m;refine ?Z;rotate_left;refine ?Y
 case' Z=>
  have tH:decide ((k:Int)<(m:Int))=true:=by simpa using Hg
  obtain⟨xa,uI,GD,hx⟩:=Zt.out Hg _ HS.tail.tail.tail.tail.tail;clear Zt Zu;subst uI;refine bW [(1,[0,1,2,3,4,5,6,7,8,9,10,11])] (by kernel_rfl) ?_;simp only[zz];repeat(first|go_big_quiet_step(fail)|apply ax|apply af|apply ag|apply ah)
  refine aj ?_;go_wp2_with fail;clear hB f31 f24 fl;have hB:=(HS.ar 0 rfl).drew.drew;have f31:=hB.aR HE.len 31 rfl rfl;have f24:=hB.fM HE.len 24 rfl HE.out.pv;rw[Vl.out]at f24;have fl:=hB.lt;have Td:w.drew.drew.cell? (xa.add k)=some (.slice ca n cc):=hx
 case' Y=>
  have tH:decide ((k:Int)<(m:Int))=false:=by simpa using Hg
  obtain⟨e1,e2,e3⟩:=Zu.out Hg;clear Zt Zu;subst e1 e2 e3
 case' Z|Y=>
  refine bW [(1,[0,1,2,3,4,5,6,7,8,9,10,11])] (by kernel_rfl) ?_;simp only[zz];repeat(first|go_big_quiet_step(fail)|apply ax|apply af|apply ag|apply ah)
  refine aj ?_;go_wp2_with fail
 case' Z=>have HS:=aa HS.drew.drew;clear hB f31 f24 hx Td GD tH
 case' Y=>have HS:=aa HS.drew;clear hB f31 f24 tH
 case' Z|Y=>
  clear fl;have hB:=(HS.ar 0 rfl).drew;have f25:=hB.fM HE.len 25 rfl HE.out.v;have f26:=hB.fM HE.len 26 rfl HE.out.p;have f27:=hB.fM HE.len 27 rfl HE.out.w;have Xk:=Fx HE.len hB;have fl:=hB.lt;refine bW [(1,[1,2,3,4,5,6,7,8,9,10,11,12,13,14,15,16,17,18,19,20,21]),(0,[0]),(3,[22]),(0,[23,24]),(3,[25])] (by kernel_rfl) ?_;simp only[zz];refine af ?_;repeat(first|(refine ak 58 _ b 0 cs _ rfl rfl rfl (aG (nS aD HE.out hB) (by simp)) underlying58 rfl (by rw[aD];kernel_rfl) ?_;simp only[Act.put,aZ,aL,aN])|(refine ak 36 _ b 33 [U a0,U a1,U a2,U a3] _ rfl rfl rfl (aG Xk (by simp)) underlying36 rfl (by kernel_rfl) ?_;simp only[Act.put,aZ,aL,aN])|go_big_quiet_step (fail)|quiet_step (fail))
  refine ax ?_;repeat(first|go_big_quiet_step(fail)|apply ax|apply af|apply ag|apply ah)
  refine ao ?_;go_wp2_with fail;refine(Vk.out _ _ (λw' h=>Tb.out w' h.tail.tail) (((HS.drew.pull 4 rfl).pull 4 rfl).pull 4 rfl)).mono ?_;rintro r w5 ⟨eb,rfl,h1⟩;have HS:=aa ((h1.pull 2 rfl).pull 2 rfl);clear h1 hB f25 f26 f27 Xk fl;simp only[ze]at HS;go_wp2_with fail;repeat(first|go_big_quiet_step(fail)|apply ax|apply af|apply ag|apply ah)
  obtain⟨f28,lu⟩:=(HS.ar 0 rfl).fe HE.len 28 rfl rfl;obtain⟨f29,nQ⟩:=(HS.ar 0 rfl).fe HE.len 29 rfl rfl;have fl:=(HS.ar 0 rfl).lt;have h5:=HS.set 0 rfl 28 (O eb);simp only[aL,fY HE.len _ 28 _ (by omega),Nat.reduceSub,aN]at h5;have HS:=aa h5;clear h5;have h5:=HS.set 0 rfl 29 (I 4);simp only[aL,fY HE.len _ 29 _ (by omega),Nat.reduceSub,aN]at h5;have HS:=aa h5;clear h5;refine ao ?_;go_wp2;refine aj ?_;go_wp2_with fail;refine(ai5.out _ _ HS.out).kh λw6 HS=>?_;go_wp2;go_end0
 case' Z|Y=>exact⟨rfl,HS.out⟩
def Zv {H}(hH:H.length=28)(xp nx u av an a0 a1 a2 a3 g rv s p q):n_ (H++[xp,nx,u,av,an,a0,a1,a2,a3,g,rv,s]) 31 [p,q]=H++[xp,nx,u,p,q,a0,a1,a2,a3,g,rv,s]:=by
 simp only[n_,fY hH _ 31 _ (by omega),fY hH _ 32 _ (by omega),Nat.reduceSub,zs]
def zq51:(∀{w0 w R c aw seq b pv aO y}(bX:y.args.length=4)(hS:Sep w0 w (df c aw seq b pv aO y::R)),ba 142 #[O b] w (I y.s))∧(∀{w0 w:World}{R:List a_}{c:cA}(aE:Y.Ok c){H:List Value}{aw seq:Int}{b vb pb sb:Nat}{pv xp rv:Value}{aO:List Value}(hE:BH (ae c) pv vb pb sb H){y:B.St}(bX:y.args.length=4)(hs:y.s=0)(hn:y.next=0)(hp:P.Ok c y.x.p)(hd:y.x.w.done.length≤100000)(v n:Int)(hv:W.U_ v)(ok:Bool)(hS:Sep w0 w (jL H c aw seq b vb pb sb xp rv y++R)),bR 220 #[O b,.agg #[U v,U n,.bool ok]] w w0 (jL H c aw seq b vb pb sb xp rv (B.mL c {y with x:={y.x with p:=P.tell c seq v n y.x.p}})++R))∧(∀{w0 w:World}{R:List a_}{c:cA}(aE:Y.Ok c){H:List Value}{aw seq:Int}{b vb pb sb:Nat}{pv xp rv:Value}{aO:List Value}(hE:BH (ae c) pv vb pb sb H){y:B.St}(hq:BQ c y)(hs:y.s=0)(hn:y.next=1)(v n:Int)(ok:Bool)(hS:Sep w0 w (jL H c aw seq b vb pb sb xp rv y++R)),bR 220 #[O b,.agg #[U v,U n,.bool ok]] w w0 (jL H c aw seq b vb pb sb xp rv (B.je c {y with av:=v,an:=n})++R))∧(∀{w0 w:World}{R:List a_}{c:cA}(aE:Y.Ok c){H:List Value}{aw seq:Int}{b vb pb sb:Nat}{pv xp rv:Value}{aO:List Value}(hE:BH (ae c) pv vb pb sb H){y:B.St}(hq:BQ c y)(hs:y.s=0)(hn:y.next=2)(v n:Int)(ok:Bool)(hS:Sep w0 w (jL H c aw seq b vb pb sb xp rv y++R)),bR 220 #[O b,.agg #[U v,U n,.bool ok]] w w0 (jL H c aw seq b vb pb sb xp rv (B.tag c {y with x:={y.x with v:=Vw.tell seq v n y.x.v}})++R))∧(∀{w0 w R c}(aE:Y.Ok c){H aw seq b eb vb pb sb pv rv aO ai}(hE:BH (ae c) pv vb pb sb H)(hP:∀w',Sep w0 w' R→cL w' pv aO ai){y}(bX:y.args.length=4)(p6:∀r∈y.args,W.U_ r)(tq:W.U_ y.av)(Fy:y.code=B.bU ai y.av)(hr:y.x.s=0→I_.right y.code=true)(hG:XG c y.code y.x)(hs:y.s=0)(hn:y.next=4)(nR:y.rows.length≤8)(v n)(hv:W.U_ v)(ok)(hX:gE c (X.tell c y.code y.args seq v n y.x))(hq:(X.tell c y.code y.args seq v n y.x).s=1→BQ c (B.ny c {y with x:=X.tell c y.code y.args seq v n y.x}))(hS:Sep w0 w (Af H c aw seq b eb vb pb sb aO rv y++R)),bR 220 #[O b,.agg #[U v,U n,.bool ok]] w w0 (df c aw seq b pv aO (B.A_ c {y with x:=X.tell c y.code y.args seq v n y.x})::R))∧(∀{w0 w:World}{R:List a_}{c:cA}{H:List Value}{aw seq:Int}{b vb pb sb:Nat}{pv xp rv:Value}{aO:List Value}(hE:BH (ae c) pv vb pb sb H){y:B.St}(bX:y.args.length=4)(hs:y.s=0)(hn:y.next=3)(hg:y.given=0)(v n:Int)(ok:Bool)(hS:Sep w0 w (jL H c aw seq b vb pb sb xp rv y++R)),bR 220 #[O b,.agg #[U v,U n,.bool ok]] w w0 (jL H c aw seq b vb pb sb xp rv {y with args:=y.args.set 0 v,given:=0+1}++R))∧(∀{w0 w:World}{R:List a_}{c:cA}{H:List Value}{aw seq:Int}{b vb pb sb:Nat}{pv xp rv:Value}{aO:List Value}(hE:BH (ae c) pv vb pb sb H){y:B.St}(bX:y.args.length=4)(hs:y.s=0)(hn:y.next=3)(hg:y.given=1)(v n:Int)(ok:Bool)(hS:Sep w0 w (jL H c aw seq b vb pb sb xp rv y++R)),bR 220 #[O b,.agg #[U v,U n,.bool ok]] w w0 (jL H c aw seq b vb pb sb xp rv {y with args:=y.args.set 1 v,given:=1+1}++R))∧(∀{w0 w:World}{R:List a_}{c:cA}{H:List Value}{aw seq:Int}{b vb pb sb:Nat}{pv xp rv:Value}{aO:List Value}(hE:BH (ae c) pv vb pb sb H){y:B.St}(bX:y.args.length=4)(hs:y.s=0)(hn:y.next=3)(hg:y.given=2)(v n:Int)(ok:Bool)(hS:Sep w0 w (jL H c aw seq b vb pb sb xp rv y++R)),bR 220 #[O b,.agg #[U v,U n,.bool ok]] w w0 (jL H c aw seq b vb pb sb xp rv {y with args:=y.args.set 2 v,given:=2+1}++R))∧(∀{w0 w R c}(aE:Y.Ok c){H aw seq b vb pb sb pv xp rv aO ai}(hE:BH (ae c) pv vb pb sb H)(hP:∀w',Sep w0 w' R→cL w' pv aO ai){y}(bX:y.args.length=4)(p6:∀r∈y.args,W.U_ r)(tq:W.U_ y.av)(hd:y.x.w.done.length≤500000)(hu:W.ou y.x.w)(hv:W.U_ y.x.v.val)(mY:0≤y.x.p.nt∧y.x.p.nt≤c.b)(kA:0≤y.x.p.nl∧y.x.p.nl≤b_ c)(nR:y.rows.length≤8)(hs:y.s=0)(hn:y.next=3)(hg:y.given=3)(v n)(hvv:W.U_ v)(ok)(hX:gE c (X.new c (B.bU ai y.av) (y.args.set 3 v) y.x.v y.x.p y.x.w))(hq:(X.new c (B.bU ai y.av) (y.args.set 3 v) y.x.v y.x.p y.x.w).s=1→BQ c (B.ny c {y with args:=y.args.set 3 v,given:=3+1,code:=B.bU ai y.av,x:=X.new c (B.bU ai y.av) (y.args.set 3 v) y.x.v y.x.p y.x.w,next:=4}))(hS:Sep w0 w (jL H c aw seq b vb pb sb xp rv y++R)),bR 220 #[O b,.agg #[U v,U n,.bool ok]] w w0 (df c aw seq b pv aO (B.dI c ai {y with args:=y.args.set 3 v,given:=3+1})::R))∧(∀{w0 w R c aw seq b pv aO y}(bX:y.args.length=4)(hs:¬y.s=0)(v n ok)(hS:Sep w0 w (df c aw seq b pv aO y::R)),bR 220 #[O b,.agg #[U v,U n,.bool ok]] w w0 (df c aw seq b pv aO y::R))∧(∀{w0 w R c}(aE:Y.Ok c){H aw seq b vb pb sb pv xp rv}(hE:BH (ae c) pv vb pb sb H){y}(bX:y.args.length=4)(hs:y.s=0)(hn:y.next=0)(hp:P.Ok c y.x.p)(hS:Sep w0 w (jL H c aw seq b vb pb sb xp rv y++R)),ba 219 #[O b] w (.tuple #[.agg (eF (P.ask c y.x.p).1).toArray,.bool (P.ask c y.x.p).2]))∧(∀{w0 w R c}(aE:Y.Ok c){H aw seq b vb pb sb pv xp rv}(hE:BH (ae c) pv vb pb sb H){y}(bX:y.args.length=4)(hs:y.s=0)(hn:y.next=2)(hS:Sep w0 w (jL H c aw seq b vb pb sb xp rv y++R)),ba 219 #[O b] w (.tuple #[.agg (eF (Vw.ask c aw y.x.v).1).toArray,.bool (Vw.ask c aw y.x.v).2]))∧(∀{w0 w R c}(aE:Y.Ok c){H aw seq b eb vb pb sb pv rv aO}(hE:BH (ae c) pv vb pb sb H){y}(bX:y.args.length=4)(hs:y.s=0)(hn:y.next=4)(c7:y.x.aI.length=16)(hS:Sep w0 w (Af H c aw seq b eb vb pb sb aO rv y++R)),ba 219 #[O b] w (.tuple #[.agg (eF (X.ask c aw y.x).1).toArray,.bool (X.ask c aw y.x).2]))∧(∀{w0 w R c}(aE:Y.Ok c){H aw seq b vb pb sb pv xp rv}(hE:BH (ae c) pv vb pb sb H){y}(bX:y.args.length=4)(hs:y.s=0)(hn:y.next=1)(hS:Sep w0 w (jL H c aw seq b vb pb sb xp rv y++R)),ba 219 #[O b] w (.tuple #[.agg (eF ⟨0,at_ c 1 y.u 0,0,0,0,0⟩).toArray,.bool true]))∧(∀{w0 w R c}(aE:Y.Ok c){H aw seq b vb pb sb pv xp rv}(hE:BH (ae c) pv vb pb sb H){y}(bX:y.args.length=4)(hs:y.s=0)(hn:y.next=3)(hS:Sep w0 w (jL H c aw seq b vb pb sb xp rv y++R)),ba 219 #[O b] w (.tuple #[.agg (eF ⟨0,at_ c 2 y.u y.given,0,0,0,0⟩).toArray,.bool true]))∧(∀{w0 w R c aw seq b pv aO y}(bX:y.args.length=4)(hs:¬y.s=0)(hS:Sep w0 w (df c aw seq b pv aO y::R)),ba 219 #[O b] w (.tuple #[.agg (eF p0).toArray,.bool false])):=by
 refine⟨?Z,?Y,?X,?J,?G,?D,?V,?U,?g0,?g1,?g2,?g3,?g4,?g5,?g6,?g7⟩
 case' Z=>intro w0 w R c aw seq b pv aO y bX hS
 case' g1=>intro w0 w R c aw seq b pv aO y bX hs v n ok hS
 case' g7=>intro w0 w R c aw seq b pv aO y bX hs hS
 case' Z|g1|g7=>
  obtain⟨H,vb,pb,sb,hE,h⟩:=lG hS;obtain⟨xp,rv,hB⟩:∃xp rv,cB w b 231 (H++ji xp rv y.args y):=by
   rcases h with⟨_,eb,rv,h⟩|⟨_,xp,rv,h⟩
   ·exact⟨_,rv,h.ar 0 rfl⟩
   ·exact⟨xp,rv,h.ar 0 rfl⟩
 case' Z=>clear hS h
 case' g1=>
  have El:(y.s==0)=false:=by simpa using hs
  have HS:=aa hS;clear hS h hs;generalize df c aw seq b pv aO y=T at*
 case' g7=>
  have El:(y.s !=0)=true:=by simpa using hs
  clear hS h hs
 case' Y=>intro w0 w R c aE H aw seq b vb pb sb pv xp rv aO hE y bX hs hn hp hd v n hv ok hS;have J3:=aa (λw' RR hS=>QG (w0:=w0) (w:=w') (R:=RR) pb c aE seq v n ok hv y.x.p hp hS);have Te:=aa (λw' hS=>Fu (w0:=w0) (w:=w') (R:=R) aE (H:=H) (aw:=aw) (seq:=seq) (b:=b) (vb:=vb) (pb:=pb) (sb:=sb) (xp:=xp) (rv:=rv) hE (y:={y with x:={y.x with p:=P.tell c seq v n y.x.p}}) bX (P.vw aE hp seq v n hv) hd hS);generalize B.mL c _=T at*;clear hp hd
 case' J=>intro w0 w R c aE H aw seq b vb pb sb pv xp rv aO hE y hq hs hn v n ok hS;have J3:=aa (λw' RR hS=>B7 (w0:=w0) (w:=w') (R:=RR) vb (ae c) rfl aw seq y.x.v v n ok hS);have Te:=aa (λw' hS=>Qx (w0:=w0) (w:=w') (R:=R) aE (H:=H) (aw:=aw) (seq:=seq) (b:=b) (vb:=vb) (pb:=pb) (sb:=sb) (xp:=xp) (rv:=rv) hE (y:={y with x:={y.x with v:=Vw.tell seq v n y.x.v}}) ⟨hq.args,hq.u,hq.nt,hq.nl,hq.dn⟩ hS);generalize B.tag c _=T at*;have bX:=hq.args;clear hq
 case' G=>intro w0 w R c aE H aw seq b eb vb pb sb pv rv aO ai hE hP y bX p6 tq Fy hr hG hs hn nR v n hv ok hX hq hS;have Tb:Hid (∀w',Sep w0 w' R→dJ w' (sL aO y.av) y.code):=aa (λw' h=>Fy▸(hP w' h).code tq.1);have J3:=aa (λw' RR hC hS=>Cl (w0:=w0) (w:=w') (R:=RR) aE (aw:=aw) (seq:=seq) (b:=eb) (vb:=vb) (pb:=pb) (sb:=sb) (cv:=sL aO y.av) bX p6 hr hC hG v n hv ok hS);have Te:=aa (λw' hS=>Fv (w0:=w0) (w:=w') (R:=R) aE (H:=H) (aw:=aw) (seq:=seq) (b:=b) (eb:=eb) (vb:=vb) (pb:=pb) (sb:=sb) (rv:=rv) (aO:=aO) hE (y:={y with x:=X.tell c y.code y.args seq v n y.x}) hn bX hX nR hq hS);generalize B.A_ c _=T at*;clear hX hq nR hr hG tq p6 hP Fy
 case' D|V|U=>intro w0 w R c H aw seq b vb pb sb pv xp rv aO hE y bX hs hn hg v n ok hS
 case' g0=>
  intro w0 w R c aE H aw seq b vb pb sb pv xp rv aO ai hE hP y bX p6 tq hd hu hv mY kA nR hs hn hg v n hvv ok hX hq hS;have Te:=aa (λw' hS=>IB (w0:=w0) (w:=w') (R:=R) aE (H:=H) (aw:=aw) (seq:=seq) (b:=b) (vb:=vb) (pb:=pb) (sb:=sb) (xp:=xp) (rv:=rv) hE hP (y:={y with args:=y.args.set 3 v,given:=3+1}) (by rw[cF];exact bX) (λr hr=>by
   rcases k_ hr with h1|h1
   ·exact p6 r h1
   ·subst h1;exact hvv) tq hd hu hv mY kA nR hX hq hS)
  generalize B.dI c ai _=T at*;clear hX hq nR p6 tq hd hu hv mY kA hP
 case' X=>
  intro w0 w R c aE H aw seq b vb pb sb pv xp rv aO hE y hq hs hn v n ok hS;have Te:=aa (λw' hS=>Qz (w0:=w0) (w:=w') (R:=R) aE (H:=H) (aw:=aw) (seq:=seq) (b:=b) (vb:=vb) (pb:=pb) (sb:=sb) (xp:=xp) (rv:=rv) hE (y:={y with av:=v,an:=n}) ⟨hq.args,hq.u,hq.nt,hq.nl,hq.dn⟩ hS);generalize B.je c _=T at*;have bX:=hq.args;have oX:∀u∈ [U v,U n],u.oneCell'=true:=by simp[Value.oneCell']
  clear hq
 case' g2=>intro w0 w R c aE H aw seq b vb pb sb pv xp rv hE y bX hs hn hp hS;have A0:=aa (λw' RR hS=>Vj (w0:=w0) (w:=w') (R:=RR) pb c aE seq y.x.p hp hS);generalize P.ask c y.x.p=pa at*;obtain⟨sK,Fl⟩:=pa;have fF:=dg sK;clear hp
 case' g3=>intro w0 w R c aE H aw seq b vb pb sb pv xp rv hE y bX hs hn hS;have A0:=aa (fun(w':World) hB=>E4 w' c aE vb aw seq y.x.v hB);generalize Vw.ask c aw y.x.v=pa at*;obtain⟨sK,Fl⟩:=pa;have fF:=dg sK
 case' g4=>intro w0 w R c aE H aw seq b eb vb pb sb pv rv aO hE y bX hs hn c7 hS;have A0:=aa (λw' RR hS=>Fk (w0:=w0) (w:=w') (R:=RR) aE (aw:=aw) (seq:=seq) (b:=eb) (vb:=vb) (pb:=pb) (sb:=sb) (cv:=sL aO y.av) bX (x:=y.x) c7 hS);generalize X.ask c aw y.x=pa at*;obtain⟨sK,Fl⟩:=pa;have fF:=dg sK;clear c7
 case' g5|g6=>intro w0 w R c aE H aw seq b vb pb sb pv xp rv hE y bX hs hn hS
 case' g5=>have h_:=aa (λw=>cx w c aE 1 y.u 0);generalize at_ c 1 y.u 0=pp at*
 case' g6=>have h_:=aa (λw=>cx w c aE 2 y.u y.given);generalize at_ c 2 y.u y.given=pp at*
 case' g5|g6=>have fF:=dg ⟨0,pp,0,0,0,0⟩
 case' Z|g1|g7|Y|J|G|D|V|U|g0|X|g2|g3|g4|g5|g6=>
  obtain⟨bx,gX,ij,bu,tO,rH,cq,eR,ft,bs⟩:=y;dsimp only at*;obtain⟨a0,a1,a2,a3,rfl⟩:∃a0 a1 a2 a3,cq=[a0,a1,a2,a3]:=by
   match cq,bX with
   |[a0,a1,a2,a3],_=>exact⟨a0,a1,a2,a3,rfl⟩
  have gO:bC [a0,a1,a2,a3]=[U a0,U a1,U a2,U a3]:=rfl
 case' Z|g1|g7=>simp only[ji,gO,za]at hB
 case' Y|J=>simp only[jL,ji,gO,za]at hS⊢
 case' G=>simp only[jL,Af,ji,gO,za]at hS⊢
 case' D|V|U|g0=>simp only[jL,ji,gO,za]at hS⊢
 case' X=>simp only[jL,ji,gO,za]at hS⊢
 case' g2|g3|g4|g5|g6=>simp only[jL,Af,ji,gO,za]at hS
 case' Y|J|G|D|V|U|g0|X|g2|g3|g4|g5|g6=>have aD:(ae c).length=24:=rfl
 case' Z|g1|g7|Y|J|G|D|V|U|g0|X|g2|g3|g4|g5|g6=>have HE:=aa hE
 case' Y|J|G|D|V|U|g0|X=>have HS:=aa hS;clear hS bX hE gO
 case' Y|J|G=>subst hs hn
 case' Y|J=>obtain⟨xv,xp2,xw,xmk,xmt,xml,xrg,xpc,xst,xwr,xwt,xi,xs,rI,xc,Mu⟩:=bx;dsimp only at*
 case' Y=>generalize P.tell c seq v n xp2=xp3 at*
 case' J=>generalize Vw.tell seq v n xv=xv3 at*
 case' G=>generalize X.tell c gX [a0,a1,a2,a3] seq v n bx=x3 at*
 case' D|V|U|g0=>subst hs hn hg
 case' D|V|U=>simp only[zs,bC,zm,za]
 case' g0=>simp only[zs]at Te
 case' X=>subst hs hn
 case' Y|J|G|D|V|U|g0|X=>have jM:=aa (HS.new 84 [U v,U n,.bool ok]);have hB:=jM.ar 1 rfl
 case' g2|g3|g4|g5|g6=>clear bX hE gO;subst hs hn
 case' g5|g6=>unfold aY at*;generalize ae c=cs at*
 case' g2|g3|g4|g5|g6=>have HT:=aa hS;have HN:=aa ((Sep.nil (Fr.refl [] w)).new 82 [I 0,I 0,U 0,U 0,U 0,U 0]);have hB:=HT.ar 0 rfl
 case' Z|g1|g7|Y|J|G|D|V|U|g0|X|g2|g3|g4|g5|g6=>have f39:=hB.aR HE.len 39 rfl rfl
 case' Z|g1|g7=>have fl:=hB.lt
 case' Z|g1=>clear hE hB gO
 case' Z=>delta ba;go_in;go_wp2;go_ret
 case' g1=>delta bR;go_in;go_wp2;refine aV (fV rfl _ _ _) rfl ?_
 case' g7=>have fD:=dg p0;have HN:=aa ((Sep.nil (Fr.refl [] w)).new 82 [I 0,I 0,U 0,U 0,U 0,U 0]);clear hE hB gO;delta ba;go_in;go_wp2_with(refine aC HN.out 0 rfl (eF p0) 82 _ _ rfl rfl rfl rfl rfl (by kernel_rfl) fD (λwA hA _=>?_);have de:=aa hA;clear hA)
 case' Y|J|G|D|V|U|g0|X|g2|g3|g4|g5|g6=>have f29:=hB.aR HE.len 29 rfl rfl
 case' Y|J|G|D|V|U|g0=>have fl:=hB.lt;delta bR;go_in;go_wp2_with fail;generalize World.alloc _ _=W1 at jM⊢;clear f39 f29 fl hB;have hB:=(jM.ar 1 rfl).drew;have hO:=(jM.ar 0 rfl).drew
 case' Y=>have f26:=hB.fM HE.len 26 rfl HE.out.p
 case' J=>have f25:=hB.fM HE.len 25 rfl HE.out.v
 case' G=>have f28:=hB.aR HE.len 28 rfl rfl
 case' Y|J|G=>have o0:=hO.cell 0;have o1:=hO.cell 1;have o2:=hO.cell 2;have fl:=hB.lt;simp only[zg]at o0 o1 o2;refine bW [(1,[0,1,2,3,4]),(3,[5])] (by kernel_rfl) ?_
 case' D|V|U|g0=>obtain⟨f37,yE⟩:=hB.fe HE.len 37 rfl rfl
 case' D=>obtain⟨fa,Zw⟩:=hB.fe HE.len 33 rfl rfl
 case' V=>obtain⟨fa,Zw⟩:=hB.fe HE.len 34 rfl rfl
 case' U=>obtain⟨fa,Zw⟩:=hB.fe HE.len 35 rfl rfl
 case' g0=>obtain⟨fa,Zw⟩:=hB.fe HE.len 36 rfl rfl
 case' D|V|U|g0=>have o0:=hO.cell 0;have fl:=hB.lt;simp only[zg]at o0
 case' D=>have h5:=(jM.set 1 rfl 33 (U v)).drew;simp only[aL,fY HE.len _ 33 _ (by omega),Nat.reduceSub,aN]at h5
 case' V=>have h5:=(jM.set 1 rfl 34 (U v)).drew;simp only[aL,fY HE.len _ 34 _ (by omega),Nat.reduceSub,aN]at h5
 case' U=>have h5:=(jM.set 1 rfl 35 (U v)).drew;simp only[aL,fY HE.len _ 35 _ (by omega),Nat.reduceSub,aN]at h5
 case' g0=>have h5:=(jM.set 1 rfl 36 (U v)).drew;simp only[aL,fY HE.len _ 36 _ (by omega),Nat.reduceSub,aN]at h5
 case' D|V|U|g0=>have jM:=aa h5;clear h5;refine bW [(1,[0,1,2,3,4,5,6,7,8,9,10]),(3,[11])] (by kernel_rfl) ?_
 case' Y|J|G|D|V|U|g0=>
  simp only[zz];repeat(first|go_big_quiet_step(fail)|apply ax|apply af|apply ag|apply ah)
  refine ao ?_
 case' Y|J|G=>go_wp2_with fail
 case' Y=>refine(J3.out _ _ (jM.drew.tail.pull 3 rfl)).kk λw2 h1=>?_;have HS:=aa (((h1.pull 3 rfl).pull 3 rfl).pull 3 rfl);clear h1 hB f26 fl hO o0 o1 o2
 case' J=>refine(J3.out _ _ (jM.drew.tail.pull 2 rfl)).kk λw2 h1=>?_;have HS:=aa ((h1.pull 2 rfl).pull 2 rfl);clear h1 hB f25 fl hO o0 o1 o2
 case' G=>refine(J3.out _ _ (λw' h=>Tb.out w' h.tail.tail) (jM.drew.tail.pull 2 rfl)).kk λw2 h1=>?_;have HS:=aa ((h1.pull 2 rfl).pull 2 rfl);clear h1 hB f28 fl hO o0 o1 o2
 case' Y|J|G=>go_wp2;refine aj ?_;go_wp2_with fail;refine(Te.out _ HS.out).kh λw3 HS=>?_;go_wp2;go_end0
 case' D|V|U|g0=>go_wp2;refine aj ?_;have HS:=aa jM.tail;generalize World.drew _=w3 at HS⊢;clear hB hO f37 yE fa Zw o0 fl jM;obtain⟨f37,yE⟩:=(HS.ar 0 rfl).fe HE.len 37 rfl rfl;have fl:=(HS.ar 0 rfl).lt
 case' D=>have h5:=HS.set 0 rfl 37 (I (0+1))
 case' V=>have h5:=HS.set 0 rfl 37 (I (1+1))
 case' U=>have h5:=HS.set 0 rfl 37 (I (2+1))
 case' g0=>have h5:=HS.set 0 rfl 37 (I (3+1))
 case' D|V|U|g0=>simp only[aL,fY HE.len _ 37 _ (by omega),Nat.reduceSub,aN,Int.reduceAdd]at h5;have HS:=aa h5;clear h5
 case' D|V|U=>go_wp2;go_end0
 case' g0=>go_wp2_with fail;refine(Te.out _ HS.out).kh λw5 HS=>?_;go_wp2;go_end0
 case' X=>have hO:=jM.ar 0 rfl;have o0:=hO.cell 0;have o1:=hO.cell 1;simp only[zg]at o0 o1;have hle:=HE.len;delta bR;go_in;go_wp2_with(refine fz jM.out 1 rfl 31 [U v,U n] 68 _ _ rfl rfl rfl rfl (by rw[eE,hle];simp) (by kernel_rfl) oX (λwA hA _=>?_);simp only[aL,aN,Zv HE.len]at hA;have de:=aa hA.tail;clear hA);clear hO o0 o1 f39 f29 hB;refine(Te.out _ de.out).kh λw3 HS=>?_;go_wp2;go_end0
 case' g2|g3|g4|g5|g6=>have fl:=hB.lt;clear hS
 case' g2=>have f26:=hB.fM HE.len 26 rfl HE.out.p;clear hB;delta ba;go_in;go_wp2_with fail;refine(A0.out _ _ ((HT.fr0 HN.fr).pull 3 rfl)).kq HN λw1 HN=>?_
 case' g3=>have f25:=hB.fM HE.len 25 rfl HE.out.v;clear hB;delta ba;go_in;go_wp2_with fail;refine(A0.out _ ((HT.fr0 HN.fr).ar 2 rfl)).kq HN λw1 HN=>?_
 case' g4=>have f28:=hB.aR HE.len 28 rfl rfl;clear hB;delta ba;go_in;go_wp2_with fail;refine(A0.out _ _ ((HT.fr0 HN.fr).pull 2 rfl)).kq HN λw1 HN=>?_
 case' g2|g3|g4=>go_wp2_with(refine aC HN.out 0 rfl (eF sK) 82 _ _ rfl rfl rfl rfl rfl (by kernel_rfl) fF (λwA hA _=>?_);have de:=aa hA;clear hA)
 case' g5|g6=>clear hB;delta ba;go_in;go_wp2_with fail;clear f39 f29 fl;have HT:=aa (HT.fr0 HN.fr);generalize World.alloc _ _=W1 at HN HT⊢;have hB:=(HT.ar 0 rfl).drew;have f30:=hB.aR HE.len 30 rfl rfl;have f37:=hB.aR HE.len 37 rfl rfl;have fl:=hB.lt
 case' g5=>refine bW [(1,[0,1,2,3,4,5,6,7]),(3,[8]),(0,[9]),(3,[10]),(0,[11])] (by kernel_rfl) ?_
 case' g6=>refine bW [(1,[0,1,2,3,4,5,6,7,8,9,10,11]),(3,[12]),(0,[13]),(3,[14]),(0,[15])] (by kernel_rfl) ?_
 case' g5|g6=>
  simp only[zz];refine af ?_;repeat(first|(refine ak 58 _ b 0 cs _ rfl rfl rfl (aG (nS aD HE.out hB) (by simp)) underlying58 rfl (by rw[aD];kernel_rfl) ?_;simp only[Act.put,aZ,aL,aN])|go_big_quiet_step (fail)|quiet_step (fail))
  refine ax ?_;refine ao ?_;go_wp2_with fail;refine(h_.out _).kq HN.dr λw2 HN=>?_;clear f30 f37 fl hB;go_wp2_with fail;repeat(first|go_big_quiet_step(fail)|quiet_step(fail)|apply ax|apply af|apply ag|apply ah)
  refine ao ?_;refine aC HN.out 0 rfl (eF ⟨0,pp,0,0,0,0⟩) 82 _ _ rfl rfl rfl rfl rfl (by kernel_rfl) fF (λwA hA _=>?_);have de:=aa hA;clear hA;go_wp2_with fail;repeat(first|go_big_quiet_step(fail)|quiet_step(fail)|apply ax|apply af|apply ag|apply ah)
  refine aj ?_;go_wp2_with fail
 case' Z=>exact⟨rfl,Fr.refl _ _⟩
 case' g1=>exact⟨rfl,HS.alloc _⟩
 case' g7=>exact aV (v:= .tuple #[.agg (eF (p0)).toArray,.bool false]) (bj Tryz.results219 rfl rfl (de.ar 0 rfl).range underlying82 rfl (by kernel_rfl)) rfl ⟨rfl,de.fr⟩
 case' Y|J|G|D|V|U|g0|X=>exact⟨rfl,HS.out⟩
 case' g2|g3|g4=>exact aV (v:= .tuple #[.agg (eF (sK)).toArray,.bool Fl]) (bj Tryz.results219 rfl rfl (de.ar 0 rfl).range underlying82 rfl (by kernel_rfl)) rfl ⟨rfl,de.fr⟩
 case' g5|g6=>exact aV (v:= .tuple #[.agg (eF (⟨0,pp,0,0,0,0⟩)).toArray,.bool true]) (bj Tryz.results219 rfl rfl (de.ar 0 rfl).range underlying82 rfl (by kernel_rfl)) rfl ⟨rfl,de.fr⟩
def sM:=@zq51.1
def Vm:=@zq51.2.1
def Vn:=@zq51.2.2.1
def Vo:=@zq51.2.2.2.1
def Vp:=@zq51.2.2.2.2.1
def QI:=@zq51.2.2.2.2.2.1
def QJ:=@zq51.2.2.2.2.2.2.1
def QL:=@zq51.2.2.2.2.2.2.2.1
def QO:=@zq51.2.2.2.2.2.2.2.2.1
def QQ:=@zq51.2.2.2.2.2.2.2.2.2.1
def Zz:=@zq51.2.2.2.2.2.2.2.2.2.2.1
def ZA:=@zq51.2.2.2.2.2.2.2.2.2.2.2.1
def ZB:=@zq51.2.2.2.2.2.2.2.2.2.2.2.2.1
def ZC:=@zq51.2.2.2.2.2.2.2.2.2.2.2.2.2.1
def ZD:=@zq51.2.2.2.2.2.2.2.2.2.2.2.2.2.2.1
def Vq:=@zq51.2.2.2.2.2.2.2.2.2.2.2.2.2.2.2
def BV.bq {c}(aE:Y.Ok c){y}(ha:y.args.length=4)(hu:0≤y.u∧y.u≤8){m}(h:BV c m y.x)(hm:m≤900000):BQ c y:=
 ⟨ha,hu,h.nt,h.nl,by have:=h.dn;omega⟩
def Fz (c y)(h:y.next≠4):(B.mL c y).next≠4:=by
 unfold B.mL B.settled;split
 ·exact h
 ·split
  ·show(1:Int)≠4;decide
  ·exact h
def QR (c y):(B.je c y).next≠4:=by
 unfold B.je;split
 ·rw[oy];decide
 ·show(2:Int)≠4;decide
def QS (c y)(h:y.next≠4):(B.tag c y).next≠4:=by
 unfold B.tag;split
 ·exact h
 ·split
  ·rw[oy];decide
  ·show(3:Int)≠4;decide
def MB{w0 w R c}(aE:Y.Ok c){aw seq b pv aO ai}(hP:∀w',Sep w0 w' R→cL w' pv aO ai)(Zx:PU ai){y}(h:BI c ai y)(v n)(hv:W.U_ v)(Zy:W.U_ n)(ok)(hS:Sep w0 w (df c aw seq b pv aO y::R)):bR 220 #[O b,.agg #[U v,U n,.bool ok]] w w0 (df c aw seq b pv aO (B.tell c ai seq v n y)::R):=by
 have hb:=h.bb;have sg:=aE.t8;have hu8:0≤y.u∧y.u≤8:=by have:=hb.u;omega
 have nR:y.rows.length≤8:=by have:=hb.rows;omega
 have kT:=h.next;unfold B.tell;by_cases hs:y.s=0;refine ?Z;rotate_left;refine ?Y
 case' Z=>rw[aq (by omega)];obtain⟨H,vb,pb,sb,hE,hh⟩:=lG hS
 case' Z=>rcases hh with⟨h4,eb,rv,du⟩|⟨xW,xp,rv,du⟩;refine ?X;rotate_left;refine ?J
 case' J=>have hx:=h.xv xW;have hq:BQ c y:=hx.bq aE hb.args hu8 (by omega)
 case' J=>by_cases h0:y.next=0;refine ?G;rotate_left;refine ?D
 case' D=>rw[aq h0]
 case' D=>by_cases h1:y.next=1;refine ?V;rotate_left;refine ?U
 case' U=>rw[aq h1]
 case' U=>by_cases h2:y.next=2;refine ?g0;rotate_left;refine ?g1
 case' g1=>
  rw[aq h2];have h3:y.next=3:=by omega
  rw[aB h3];have hg:=h.g3 hs h3;have Xj:=hb.given
 case' g1=>rcases(show y.given=0∨y.given=1∨y.given=2∨y.given=3 by omega)with nP|nP|nP|nP;refine ?g2;rotate_left;refine ?g3;rotate_left;refine ?g4;rotate_left;refine ?g5
 case' X=>
  rw[aq (by omega),aq (by omega),aq (by omega),aq (by omega)];obtain⟨hx,hm,hc,hr,Ir⟩:=h.x4 h4;have hu:∀i∈y.code,W.U_ i.bN:=by rw[hc];exact Zx.code _
  have t1:=hx.tell aE hu hb.au hr seq v n hv;have t2:=hx.DA aE hu hb.au hr seq v n hv Ir;refine Vp aE hE hP hb.args hb.au hb.av hc hr hx hs h4 nR v n hv ok (XI.ok aE (by unfold r_;split<;>decide) t1.1.r) (λ_=>?_) du;have h1:=Ae aE (b:={y with x:=X.tell c y.code y.args seq v n y.x}) {hb with} hs t1.1 (by dsimp only;rw[t1.2.1];exact hm) t2
 case' g5=>
  rw[aB (by omega),nP];have p6:∀r∈y.args.set 3 v,W.U_ r:=λr hr=>by
   rcases k_ hr with h1|h1
   ·exact hb.au r h1
   ·subst h1;exact hv
  have p5:y.x.w.done.length≤500000:=by have:=hx.dn;omega
  have t1:=XG.new aE (Zx.code y.av) p6 (v:=y.x.v) (p:=y.x.p) (s:=y.x.w) p5 hx.wu hx.vv hx.nt hx.nl;have t2:=XG.Iq aE (Zx.code y.av) p6 (v:=y.x.v) (p:=y.x.p) (s:=y.x.w) p5 hx.wu hx.vv hx.nt hx.nl;refine QO aE hE hP hb.args hb.au hb.av p5 hx.wu hx.vv hx.nt hx.nl nR hs h3 nP v n hv ok (XI.ok aE (by unfold r_;split<;>decide) t1.1.r) (λ_=>?_) du;have h1:=Ae aE (b:={y with args:=y.args.set 3 v,given:=3+1,code:=B.bU ai y.av,x:=X.new c (B.bU ai y.av) (y.args.set 3 v) y.x.v y.x.p y.x.w,next:=4}) {hb with args:=by dsimp only;rw[cF];exact hb.args,au:=p6,given:=by dsimp only;omega} hs t1.1 (by dsimp only;rw[t1.2.1];have:=hx.dn;omega) t2
 case' X|g5=>exact h1.2.bq aE h1.1.args (by show 0≤y.u∧y.u≤8;omega) (by show 2000+100*y.u+98≤900000;omega)
 case' G=>rw[aB h0];have hz:=h.z h0
 case' G=>exact(Vm (aO:=aO) aE hE hb.args hs h0 hz.1 (by rw[hz.2];simp) v n hv ok du).mono λ_ _ h=>⟨h.1,kW hE (Fz c _ (by show y.next≠4;omega)) h.2⟩
 case' V=>rw[aB h1]
 case' V=>exact(Vn (aO:=aO) aE hE hq hs h1 v n ok du).mono λ_ _ h=>⟨h.1,kW hE (QR c _) h.2⟩
 case' g0=>rw[aB h2]
 case' g0=>exact(Vo (aO:=aO) aE hE hq hs h2 v n ok du).mono λ_ _ h=>⟨h.1,kW hE (QS c _ (by show y.next≠4;omega)) h.2⟩
 case' g2=>rw[aq (by omega)]
 case' g2=>exact(QI (aO:=aO) hE hb.args hs h3 nP v n ok du).mono λ_ _ h=>⟨h.1,kW hE (by show y.next≠4;omega) (by rw[nP];exact h.2)⟩
 case' g3=>rw[aq (by omega)]
 case' g3=>exact(QJ (aO:=aO) hE hb.args hs h3 nP v n ok du).mono λ_ _ h=>⟨h.1,kW hE (by show y.next≠4;omega) (by rw[nP];exact h.2)⟩
 case' g4=>rw[aq (by omega)]
 case' g4=>exact(QL (aO:=aO) hE hb.args hs h3 nP v n ok du).mono λ_ _ h=>⟨h.1,kW hE (by show y.next≠4;omega) (by rw[nP];exact h.2)⟩
 rw[aB (by omega)];exact QQ hb.args hs v n ok hS
def QU {w0 w R c}(aE:Y.Ok c){aw seq b pv aO ai y}(h:BI c ai y)(hS:Sep w0 w (df c aw seq b pv aO y::R)):
 ba 219 #[O b] w (.tuple #[.agg (eF (B.ask c aw y).1).toArray,.bool (B.ask c aw y).2]):=by
 have hb:=h.bb;have kT:=h.next;unfold B.ask;by_cases hs:y.s=0
 ·rw[aq (by omega)];obtain⟨H,vb,pb,sb,hE,hh⟩:=lG hS;rcases hh with⟨h4,eb,rv,du⟩|⟨xW,xp,rv,du⟩
  ·rw[aq (by omega),aq (by omega),aq (by omega),aq (by omega)];exact ZB aE hE hb.args hs h4 (h.x4 h4).1.r.aI du
  ·by_cases h0:y.next=0
   ·rw[aB h0];exact Zz aE hE hb.args hs h0 (h.z h0).1 du
   rw[aq h0];by_cases h1:y.next=1
   ·rw[aB h1];exact ZC aE hE hb.args hs h1 du
   rw[aq h1];by_cases h2:y.next=2
   ·rw[aB h2];exact ZA aE hE hb.args hs h2 du
   rw[aq h2,aB (by omega)];exact ZD aE hE hb.args hs (by omega) du
 ·rw[aB (by omega)];exact Vq hb.args hs hS
def QV {c}(aE:Y.Ok c):lo (cap c)=(cap c).toNat:=by
 have h:=iI aE;unfold lo
 repeat' split
 all_goals omega
def QW {w0 w R c}(aE:Y.Ok c)(aw seq pa pn pc aO)(hS:Sep w0 w R):
 Calls Tryz.prog 111 #[aY c,I aw,U seq,.slice pa pn pc] w λr w'=>∃b,r= .returned (O b)∧Sep w0 w' (df c aw seq b (.slice pa pn pc) aO (B.fw c)::R):=by
 have xD:=QV aE;have tS:Hid (∀w' b vb pb sb,Sep w0 w' (aJ b 231 (Xh (ae c) (.slice pa pn pc) vb pb sb++[.pointer none,I 0,I 0,U 0,U 0,U 0,U 0,U 0,U 0,I 0,.slice none 0 0,I 0])::aU 0 178 5 (.slice none 0 0) 0 []::cw sb ⟨lo (cap c),[],[]⟩::bE c seq pb P.fw::aJ vb 258 (Vw.eU (ae c) aw seq ⟨-1,0,0,0,0,1⟩)::R)→Sep w0 w' (df c aw seq b (.slice pa pn pc) aO (B.fw c)::R)):=aa (λw' b vb pb sb h=>by
  have h1:=Ac (ty:=178) (Fp:=26) (k:=5) (en:=gW) (pd:=B.Row.news) (v:= .slice none 0 0) (L:=[]) (dY:=[]) rfl ((h.pull 1 rfl).ud.pull 1 rfl);refine kW (H:=Xh (ae c) (.slice pa pn pc) vb pb sb) (vb:=vb) (pb:=pb) (sb:=sb) (xp:= .pointer none) (rv:= .slice none 0 0) (Zq rfl (.slice pa pn pc) vb pb sb) (by show¬(0:Int)=4;decide) ?_;rw[xD]at h1;exact(((((h1.pull 2 rfl).pull 3 rfl).pull 4 rfl).pull 3 rfl).pull 4 rfl))
 have ZE:=aa (λw=>E3 w (ae c) rfl aw seq);have DE:=aa (λw=>EZ w c seq);have S_:=aa (λw=>uY w c aE);have HWN:=aa (λw=>EU w (cap c));generalize cap c=cp at*;have aD:(ae c).length=24:=rfl;unfold aY at*;obtain⟨NT,hNT⟩:∃NT:Nat→a_,NT=λb=>df c aw seq b (.slice pa pn pc) aO (B.fw c):=⟨_,rfl⟩;have tS:Hid (∀w' b vb pb sb,Sep w0 w' (aJ b 231 (Xh (ae c) (.slice pa pn pc) vb pb sb++[.pointer none,I 0,I 0,U 0,U 0,U 0,U 0,U 0,U 0,I 0,.slice none 0 0,I 0])::aU 0 178 5 (.slice none 0 0) 0 []::cw sb ⟨lo cp,[],[]⟩::bE c seq pb P.fw::aJ vb 258 (Vw.eU (ae c) aw seq ⟨-1,0,0,0,0,1⟩)::R)→Sep w0 w' (NT b::R)):=aa (λw' b vb pb sb h=>by rw[hNT];exact tS.out w' b vb pb sb h);suffices pG:Calls Tryz.prog 111 #[Value.agg (ae c).toArray,I aw,U seq,.slice pa pn pc] w λr w'=>∃b,r= .returned (O b)∧Sep w0 w' (NT b::R) by
  rw[hNT]at pG;exact pG
 clear hNT xD;obtain⟨PT,hPT⟩:∃PT:Nat→a_,PT=λpb=>bE c seq pb P.fw:=⟨_,rfl⟩;have DE:Hid (∀w,Calls Tryz.prog 135 #[Value.agg (ae c).toArray,U seq] w λe w'=>∃b,e= .returned (O b)∧Sep w w' [PT b]):=aa (by rw[hPT];exact DE.out);have tS:Hid (∀w' b vb pb sb,Sep w0 w' (aJ b 231 (Xh (ae c) (.slice pa pn pc) vb pb sb++[.pointer none,I 0,I 0,U 0,U 0,U 0,U 0,U 0,U 0,I 0,.slice none 0 0,I 0])::aU 0 178 5 (.slice none 0 0) 0 []::cw sb ⟨lo cp,[],[]⟩::PT pb::aJ vb 258 (Vw.eU (ae c) aw seq ⟨-1,0,0,0,0,1⟩)::R)→Sep w0 w' (NT b::R)):=aa (by rw[hPT];exact tS.out);clear hPT;obtain⟨VT,ZF⟩:∃VT:Nat→a_,VT=λvb=>aJ vb 258 (Vw.eU (ae c) aw seq ⟨-1,0,0,0,0,1⟩):=⟨_,rfl⟩;have ZE:Hid (∀w,Calls Tryz.prog 134 #[Value.agg (ae c).toArray,I aw,U seq] w λe w'=>∃b,e= .returned (O b)∧Sep w w' [VT b]):=aa (by rw[ZF];exact ZE.out);have tS:Hid (∀w' b vb pb sb,Sep w0 w' (aJ b 231 (Xh (ae c) (.slice pa pn pc) vb pb sb++[.pointer none,I 0,I 0,U 0,U 0,U 0,U 0,U 0,U 0,I 0,.slice none 0 0,I 0])::aU 0 178 5 (.slice none 0 0) 0 []::cw sb ⟨lo cp,[],[]⟩::PT pb::VT vb::R)→Sep w0 w' (NT b::R)):=aa (by rw[ZF];exact tS.out);clear ZF;generalize ae c=cs at*;obtain⟨x0,x1,x2,x3,x4,x5,x6,x7,x8,x9,l4,l5,l6,l7,l8,l9,l_,mf,mh,mi,mj,mm,mo,mq,rfl⟩:=rQ aD;simp only[Xh,za]at tS;have HS:=aa (hS.new 58 [x0,x1,x2,x3,x4,x5,x6,x7,x8,x9,l4,l5,l6,l7,l8,l9,l_,mf,mh,mi,mj,mm,mo,mq]);clear hS;go_in;go_wp2_with fail;have hM:=(HS.ar 0 rfl).drew;refine bW [(1,[0,1,2,3,4,6,7,9]),(2,[5]),(2,[8]),(2,[10]),(2,[11]),(0,[12]),(3,[13]),(0,[14])] (by kernel_rfl) ?_;simp only[zz];refine af ?_;repeat(first|(refine ak 58 _ w.heap.size 0 [x0,x1,x2,x3,x4,x5,x6,x7,x8,x9,l4,l5,l6,l7,l8,l9,l_,mf,mh,mi,mj,mm,mo,mq] _ rfl rfl rfl (bL hM (by simp)) underlying58 rfl (by kernel_rfl) ?_;simp only[Act.put,aZ,zs])|go_big_quiet_step (fail)|quiet_step (fail))
 refine ax ?_;refine aA ?_;go_wp2_with fail;refine(ZE.out _).mono ?_;rintro r w2 ⟨vb,rfl,h1⟩;have HF:=aa h1.fr;have HS:=aa (HS.drew.tail.fresh h1.jm);clear h1;go_wp2;refine⟨⟨⟨_,(by exact HF.out)⟩,rfl⟩,?_⟩;refine aA ?_;go_wp2_with fail;refine(DE.out _).mono ?_;rintro r w3 ⟨pb,rfl,h1⟩;have BP:=aa h1.fr;have HS:=aa (HS.fresh h1.jm);clear h1;go_wp2;refine⟨⟨⟨_,(by exact HF.trans BP.out)⟩,rfl⟩,?_⟩;refine aA ?_;go_wp2_with fail;refine(S_.out _).kf HS λw4 Xl HS=>?_;go_wp2;refine⟨⟨⟨_,(by exact(HF.trans BP.out).trans Xl.out)⟩,rfl⟩,?_⟩;refine aA ?_;go_wp2_with fail;refine(HWN.out _).mono ?_;rintro r w5 ⟨sb,rfl,h1⟩;have Cq:=aa h1.fr;have HS:=aa (HS.fresh h1);clear h1;go_wp2;refine⟨⟨⟨_,(by exact((HF.trans BP.out).trans Xl.out).trans Cq.out)⟩,rfl⟩,?_⟩;repeat(first|go_big_quiet_step(fail)|quiet_step(fail)|apply ax|apply af|apply ag|apply ah)
 refine ao ?_;go_wp2_with fail;repeat(first|go_big_quiet_step(fail)|quiet_step(fail)|apply ax|apply af|apply ag|apply ah)
 refine aj ?_;have js:=HS.new 231 [x0,x1,x2,x3,x4,x5,x6,x7,x8,x9,l4,l5,l6,l7,l8,l9,l_,mf,mh,mi,mj,mm,mo,mq,.slice pa pn pc,O vb,O pb,O sb,.pointer none,I 0,I 0,U 0,U 0,U 0,U 0,U 0,U 0,I 0,.slice none 0 0,I 0];have Qr:=aa (tS.out _ _ _ _ _ ((js.k5 0 178 5).pull 1 rfl));clear js;go_wp2;go_ret;exact⟨_,rfl,Qr.out⟩
