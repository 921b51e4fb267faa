/- A part of the proof. -/
import Derived.Test.YtolkmchicplaoaaGreatH06
set_option linter.all false
set_option maxHeartbeats 8000000
set_option maxRecDepth 100000
open Go.Proofs.Tryz
namespace Go.Proofs.YtolkmchicplaoaaGreat
open Go.RowKit Go.aS Go.aS.I_ Go.aS.Y
def dJ.len {w v L}(h:dJ w v L):∃a cap,v= .slice a L.length cap:=h.1.len
def gE.next {c:cA}(aE:Y.Ok c){x:X.St}(h:gE c x){code:List In}(hr:right code=true)(hu:∀i∈code,0≤i.bN∧i.bN≤18446744073709551615)(Hz:x.pc<code.length)(hf:x.steps<c.f):gE c (X.jd code x):=by
 have h1:=aE.zj;have hl:=c_ hr;have hp:=h.pc;have gx:=h.st;have hk:x.pc.toNat<code.length:=by omega
 have hs:=mJ hr x.pc.toNat hk;have hg:code.getD x.pc.toNat i0=code[x.pc.toNat]:=by simp[List.getD,hk]
 have hi:=hu _ (cJ hk);rw[←hg]at hi;have hd:=h.dn;have hn:=h.nw;exact⟨h.aI,h.ru,hs.a,hs.b,hs.c,hi,hs.arg,h.wr,by unfold X.jd;dsimp only;omega,by unfold X.jd;dsimp only;omega,by unfold X.jd;dsimp only;omega,h.nt,h.nl,h.mt,h.ml,by unfold X.jd;dsimp only;omega,h.wu,h.vv⟩
def U0 {w b}{T:TypeId}{H t r}(hH:H.length=35)(hr:r.length=16)(h:cB w b T (iN H r t)):w.rangeAt b 35 (bC r):=λj u hj=>by
 have hl:(bC r).length=16:=by unfold bC;rw[dD,hr]
 have zM:j<16:=by rw[←hl];exact(dE.1 hj).1
 exact(h.cell (35+j)).trans ((dM hH hr _ zM).trans hj)
def U3 {w b}{T:TypeId}{cs H t r cv args vb pb sb mark mt ml}(ha:args.length=4)(hE:EH cs cv args vb pb sb mark mt ml H)(h:cB w b T (iN H r t)):w.rangeAt b 25 (bC args):=λj u hj=>by
 have hl:(bC args).length=4:=by unfold bC;rw[dD,ha]
 have zM:j<4:=by rw[←hl];exact(dE.1 hj).1
 exact(h.cell (25+j)).trans ((PO hE.len _ _ (by omega)).trans ((hE.args j zM).trans hj))
def zq41:(∀{w0 w R c}(aE:Y.Ok c){aw seq b vb pb sb cv args}(ha:args.length=4){x}(h:gE c x)(hf:c.f≤x.steps)(hS:Sep w0 w (aQ c aw seq b vb pb sb cv args x::R)),bR 175 #[O b] w w0 (aQ c aw seq b vb pb sb cv args (X.fail 41 0 x)::R))∧(∀{w0 w R}{c:cA}(aE:Y.Ok c){aw seq:Int}{b vb pb sb:Nat}{cv}{args:List Int}(ha:args.length=4){x:X.St}(h:gE c x){code:List In}(hr:right code=true)(hC:∀w',Sep w0 w' R→dJ w' cv code)(kp:Nat)(iG:x.pc=kp)(fu:kp<code.length)(hf:x.steps<c.f)(hS:Sep w0 w (aQ c aw seq b vb pb sb cv args x::R))(op ia ib ic im:Int)(ko:code[kp]=⟨op,ia,ib,ic,im⟩)(y:X.St)(hy:y={x with steps:=x.steps+1,i:=⟨op,ia,ib,ic,im⟩,pc:=x.pc+1})(hY:gE c y),(∀(lN:(op==17)=true)(zQ:0≤im∧im≤256),bR 175 #[O b] w w0 (aQ c aw seq b vb pb sb cv args ({y with pc:=im})::R))∧(∀(lN:(op==17)=false)(lO:(op==18)=false)(nO:(op==19)=false)(rp:(op==20)=false)(sG:(op==21)=false)(e9:(op==9)=true),bR 175 #[O b] w w0 (aQ c aw seq b vb pb sb cv args (X.root c y)::R))∧(∀(lN:(op==17)=false)(lO:(op==18)=false)(nO:(op==19)=false)(rp:(op==20)=false)(sG:(op==21)=false)(e9:(op==9)=false)(o7:(op==10)=true),bR 175 #[O b] w w0 (aQ c aw seq b vb pb sb cv args (X.root c y)::R))∧(∀(lN:(op==17)=false)(lO:(op==18)=false)(nO:(op==19)=false)(rp:(op==20)=false)(sG:(op==21)=false)(e9:(op==9)=false)(o7:(op==10)=false)(qM:(op==11)=true),bR 175 #[O b] w w0 (aQ c aw seq b vb pb sb cv args (X.fq c y)::R))∧(∀(lN:(op==17)=false)(lO:(op==18)=false)(nO:(op==19)=false)(rp:(op==20)=false)(sG:(op==21)=false)(e9:(op==9)=false)(o7:(op==10)=false)(qM:(op==11)=false)(qN:(op==12)=true),bR 175 #[O b] w w0 (aQ c aw seq b vb pb sb cv args (X.fq c y)::R))∧(∀(lN:(op==17)=false)(lO:(op==18)=false)(nO:(op==19)=false)(rp:(op==20)=false)(sG:(op==21)=false)(e9:(op==9)=false)(o7:(op==10)=false)(qM:(op==11)=false)(qN:(op==12)=false)(yX:(op==13)=true),bR 175 #[O b] w w0 (aQ c aw seq b vb pb sb cv args (X.fq c y)::R))∧(∀(lN:(op==17)=false)(lO:(op==18)=false)(nO:(op==19)=false)(rp:(op==20)=false)(sG:(op==21)=false)(e9:(op==9)=false)(o7:(op==10)=false)(qM:(op==11)=false)(qN:(op==12)=false)(yX:(op==13)=false)(B4:(op==14)=true),bR 175 #[O b] w w0 (aQ c aw seq b vb pb sb cv args (X.fq c y)::R))∧(∀(lN:(op==17)=false)(lO:(op==18)=false)(nO:(op==19)=false)(rp:(op==20)=false)(sG:(op==21)=false)(e9:(op==9)=false)(o7:(op==10)=false)(qM:(op==11)=false)(qN:(op==12)=false)(yX:(op==13)=false)(B4:(op==14)=false)(GI:(op==16)=true),bR 175 #[O b] w w0 (aQ c aw seq b vb pb sb cv args (X.fq c y)::R))∧(∀(lN:(op==17)=false)(lO:(op==18)=false)(nO:(op==19)=false)(rp:(op==20)=false)(sG:(op==21)=false)(e9:(op==9)=false)(o7:(op==10)=false)(qM:(op==11)=false)(qN:(op==12)=false)(yX:(op==13)=false)(B4:(op==14)=false)(GI:(op==16)=false)(JN:(op==15)=true),bR 175 #[O b] w w0 (aQ c aw seq b vb pb sb cv args (X.fresh c y)::R))∧(∀(lN:(op==17)=false)(lO:(op==18)=false)(nO:(op==19)=false)(rp:(op==20)=false)(sG:(op==21)=true),bR 175 #[O b] w w0 (aQ c aw seq b vb pb sb cv args (X.fail 40 im y)::R))∧(∀(lN:(op==17)=false)(lO:(op==18)=false)(nO:(op==19)=false)(rp:(op==20)=true),bR 175 #[O b] w w0 (aQ c aw seq b vb pb sb cv args ({y with s:=1,rc:=0,rv:=X.iE y ia})::R))∧(∀(lN:(op==17)=false)(lO:(op==18)=true)(iC:(X.iE y ia==0)=true)(zQ:0≤im∧im≤256),bR 175 #[O b] w w0 (aQ c aw seq b vb pb sb cv args ({y with pc:=im})::R))∧(∀(lN:(op==17)=false)(lO:(op==18)=true)(iC:(X.iE y ia==0)=false)(zQ:0≤im∧im≤256),bR 175 #[O b] w w0 (aQ c aw seq b vb pb sb cv args (y)::R))∧(∀(lN:(op==17)=false)(lO:(op==18)=false)(nO:(op==19)=true)(iC:(X.iE y ia==0)=false)(zQ:0≤im∧im≤256),bR 175 #[O b] w w0 (aQ c aw seq b vb pb sb cv args ({y with pc:=im})::R))∧(∀(lN:(op==17)=false)(lO:(op==18)=false)(nO:(op==19)=true)(iC:(X.iE y ia==0)=true)(zQ:0≤im∧im≤256),bR 175 #[O b] w w0 (aQ c aw seq b vb pb sb cv args (y)::R))∧(∀(lN:(op==17)=false)(lO:(op==18)=false)(nO:(op==19)=false)(rp:(op==20)=false)(sG:(op==21)=false)(e9:(op==9)=false)(o7:(op==10)=false)(qM:(op==11)=false)(qN:(op==12)=false)(yX:(op==13)=false)(B4:(op==14)=false)(GI:(op==16)=false)(JN:(op==15)=false),bR 175 #[O b] w w0 (aQ c aw seq b vb pb sb cv args (X.gV y ia (reckon ⟨op,ia,ib,ic,im⟩ x.aI args))::R))):=by
 refine⟨?Z,?Y⟩
 case' Y=>intro w0 w R c aE aw seq b vb pb sb cv args ha x h code hr hC kp iG fu hf hS op ia ib ic im ko y hy hY;refine⟨?X,?J,?G,?D,?V,?U,?g0,?g1,?g2,?g3,?g4,?g5,?g6,?g7,?g8,?g9⟩
 case' Z=>
  intro w0 w R c aE aw seq b vb pb sb cv args ha x h hf hS;have AY:=aa (λw' hS=>jC (w0:=w0) (w:=w') (R:=R) (c:=c) (aw:=aw) (seq:=seq) (b:=b) (vb:=vb) (pb:=pb) (sb:=sb) (cv:=cv) ha h 41 0 hS);have hd:decide (c.f≤x.steps)=true:=by simpa using hf
  clear hf;obtain⟨la,lc,h2⟩:=bh hS;have dQ:Hid (∀w' nv,Sep w0 w' (aJ b 255 (iN (fJ (ae c) cv args vb pb sb x.mark x.mt x.ml) (x).aI (ey (x) nv))::aU 0 26 1 nv (x).news.length (bC (x).news)::aJ vb 258 (Vw.eU (ae c) aw seq (x).v)::bE c seq pb (x).p::cw sb (x).w::R)→Sep w0 w' (aQ c aw seq b vb pb sb cv args (x)::R)):=aa (λw' nv h=>bF h)
 case' X=>intro lN zQ;subst hy
 case' J=>intro lN lO nO rp sG e9
 case' G=>intro lN lO nO rp sG e9 o7
 case' J|G=>have HQ:=aa (λw' RR hS=>Cj (w0:=w0) (w:=w') (R:=RR) aE (aw:=aw) (seq:=seq) (b:=b) (vb:=vb) (pb:=pb) (sb:=sb) (cv:=cv) ha hY hS)
 case' D=>intro lN lO nO rp sG e9 o7 qM
 case' V=>intro lN lO nO rp sG e9 o7 qM qN
 case' U=>intro lN lO nO rp sG e9 o7 qM qN yX
 case' g0=>intro lN lO nO rp sG e9 o7 qM qN yX B4
 case' g1=>intro lN lO nO rp sG e9 o7 qM qN yX B4 GI
 case' D|V|U|g0|g1=>have HQ:=aa (λw' RR hS=>oU (w0:=w0) (w:=w') (R:=RR) aE (aw:=aw) (seq:=seq) (b:=b) (vb:=vb) (pb:=pb) (sb:=sb) (cv:=cv) ha hY hS)
 case' g2=>intro lN lO nO rp sG e9 o7 qM qN yX B4 GI JN;have HQ:=aa (λw' RR hS=>Ib (w0:=w0) (w:=w') (R:=RR) aE (aw:=aw) (seq:=seq) (b:=b) (vb:=vb) (pb:=pb) (sb:=sb) (cv:=cv) ha hY hS)
 case' g3=>intro lN lO nO rp sG;have HQ:=aa (λw' RR hS=>jC (w0:=w0) (w:=w') (R:=RR) (c:=c) (aw:=aw) (seq:=seq) (b:=b) (vb:=vb) (pb:=pb) (sb:=sb) (cv:=cv) ha hY 40 im hS)
 case' J|G|D|V|U|g0|g1|g2|g3=>subst hy;rw[iG]at HQ⊢
 case' g4=>intro lN lO nO rp
 case' g5=>intro lN lO iC zQ
 case' g7=>intro lN lO nO iC zQ
 case' g6=>intro lN lO iC zQ
 case' g8=>intro lN lO nO iC zQ
 case' g9=>intro lN lO nO rp sG e9 o7 qM qN yX B4 GI JN
 case' g4|g5|g7|g6|g8|g9=>subst hy;obtain⟨ka,ua,ea,si,va,ga,Qb,Qc⟩:=jG h.aI h.ru (show 0≤ia∧ia<16 from hY.ia)
 case' g4=>
  have rz:X.iE ({x with steps:=x.steps+1,i:=⟨op,ia,ib,ic,im⟩,pc:=x.pc+1}:X.St) ia=ua:=by unfold X.iE;exact ga
  rw[rz];rw[iG];clear rz ga
 case' g5|g7|g6|g8=>
  have JW:X.iE ({x with steps:=x.steps+1,i:=⟨op,ia,ib,ic,im⟩,pc:=x.pc+1}:X.St) ia=ua:=by unfold X.iE;exact ga
  rw[JW]at iC;try rw[iG]
  clear JW ga
 case' g4|g5|g7|g6|g8=>have Qj:=aa ea;clear ea
 case' g9=>
  have HRK:=aa (λw'=>zJ w' ⟨op,ia,ib,ic,im⟩ x.aI args h.aI ha h.ru hY.ib hY.ic hY.im.1 hY.i8);generalize reckon ⟨op,ia,ib,ic,im⟩ x.aI args=rk at*;unfold gl at HRK;dsimp only at HRK;unfold X.gV;dsimp only;rw[iG];have ai0:ia.toNat=ka:=by omega
  rw[ai0];clear ga ai0;have Qj:=aa ea;clear ea;have lV:(bC args).length=4:=by unfold bC;rw[dD,ha]
  have hlg:(bC x.aI).length=16:=by unfold bC;rw[dD,h.aI]
  have HAA:=aa ha
 case' X|J|G|D|V|U|g0|g1|g2|g3|g4|g5|g7|g6|g8|g9=>
  obtain⟨yB,yC,fL⟩:=bh hS;have nG:=hC w fL.tail.tail.tail.tail.tail;obtain⟨ca,cc,eT⟩:=nG.len;clear fL nG;have nH:=c_ hr;have uo:(kp:Int)≤256:=by omega
  have hd:decide (c.f≤x.steps)=false:=by simpa using hf
  obtain⟨n,hn⟩:∃n,code.length=n:=⟨_,rfl⟩;have HC:Hid (∀w',Sep w0 w' R→∃xa:Addr,ca=some xa∧xa.block<w'.heap.size∧(∀u,(gl code[kp])[0]?=some u→w'.cell? (xa.add (kp*5))=some u)∧∀j u,(gl code[kp])[j+1]?=some u→w'.cell? ⟨(xa.add (kp*5)).block,(xa.add (kp*5)).off+(j+1),none⟩=some u):=aa (λw' hR=>dB.at (a:=ca) (m:=code.length) (cap:=cc) (by rw[←eT];exact(hC w' hR).1) fu);rw[ko]at HC;rw[hn]at fu nH;have sh:(kp:Int)<(n:Int):=by omega
  have gx:=h.st;rw[hn]at eT;have ts:=aa eT;have ur:Hid (∀w' nv R' (lx s' jH kN:Int) (ly:List Int),Sep w0 w' (aJ b 255 (iN (fJ (ae c) cv args vb pb sb x.mark x.mt x.ml) ly [I lx,I (x.steps+1),I x.writes,.bool x.waits,I op,I ia,I ib,I ic,U im,I s',I jH,U kN,nv])::aU 0 26 1 nv x.news.length (bC x.news)::aJ vb 258 (Vw.eU (ae c) aw seq x.v)::bE c seq pb x.p::cw sb x.w::R')→Sep w0 w' (aQ c aw seq b vb pb sb cv args {x with steps:=x.steps+1,i:=⟨op,ia,ib,ic,im⟩,pc:=lx,aI:=ly,s:=s',rc:=jH,rv:=kN}::R')):=aa (λw' nv R' lx s' jH kN ly h=>bF h);clear hf hC hr eT ko;clear hY;obtain⟨la,lc,h2⟩:=bh hS
 case' X|J|G|D|V|U|g0|g1|g2|g3=>have dQ:Hid (∀w' nv,Sep w0 w' (aJ b 255 (iN (fJ (ae c) cv args vb pb sb x.mark x.mt x.ml) (x).aI (ey (x) nv))::aU 0 26 1 nv (x).news.length (bC (x).news)::aJ vb 258 (Vw.eU (ae c) aw seq (x).v)::bE c seq pb (x).p::cw sb (x).w::R)→Sep w0 w' (aQ c aw seq b vb pb sb cv args (x)::R)):=aa (λw' nv h=>bF h)
 case' Z|X|J|G|D|V|U|g0|g1|g2|g3|g4|g5|g7|g6|g8|g9=>have hE:=cH (show(ae c).length=24 from rfl) cv ha vb pb sb x.mark x.mt x.ml;unfold lP at h2;simp only[za]at h2;generalize fJ (ae c) cv args vb pb sb x.mark x.mt x.ml=H at*;have HE:=aa hE;have HX:=aa h;have HS:=aa h2;clear hS h2 hE h
 case' X|J|G|D|V|U|g0|g1|g2|g3=>clear dQ
 case' Z|X|J|G|D|V|U|g0|g1|g2|g3|g4|g5|g7|g6|g8|g9=>
  have aD:(ae c).length=24:=rfl;have gF:=aa (λw=>bM w c);have fS:=aa (λw=>eS c w);unfold aY at*;generalize fB:db c=cf at*;clear fB;generalize ae c=cs at*;have bQ:=HX.aI;have hB:=(HS.ar 0 rfl).drew;have f52:=hB.cD HE.len bQ 52 rfl rfl;delta bR;go_in;go_wp2_with fail;refine bW [(1,[0,1,2,3,4,5,6,7]),(2,[8]),(0,[9,10])] (by kernel_rfl) ?_;simp only[zz];refine af ?_;repeat(first|(refine ak 58 _ b 0 cs _ rfl rfl rfl (aG (dw aD HE.out hB) (by simp)) underlying58 rfl (by rw[aD];kernel_rfl) ?_;simp only[Act.put,aZ,aL,aN])|go_big_quiet_step (fail)|quiet_step (fail))
  refine ax ?_;refine aA ?_;go_wp2_with fail;refine(gF.out _).kf HS.dr λw2 HF HS=>?_;go_wp2;refine⟨⟨⟨_,(by exact HF.out)⟩,rfl⟩,?_⟩;have kB:=λw=>(fS.out w).2.2.2;repeat(first|go_big_quiet_step(fail)|apply ax|apply af|apply ag|apply ah)
  refine aj ?_;clear kB hB f52 HF
 case' Z=>go_wp2_with fail;refine(AY.out _ (dQ.out _ _ HS.out)).kh λw3 HS=>?_;go_wp2;refine aV (fV rfl _ _ _) rfl ?_
 case' X|J|G|D|V|U|g0|g1|g2|g3|g4|g5|g7|g6|g8|g9=>
  clear hd;have hB:=(HS.ar 0 rfl);obtain⟨f52,uu⟩:=hB.xS HE.len bQ 52 rfl rfl;have h3:=HS.set 0 rfl 52 (I (x.steps+1));unfold ey at h3;simp only[aL,eK HE.len bQ,Nat.reduceSub,Nat.reduceLeDiff,aN]at h3;have HS:=aa h3;clear h3 hB;go_wp2_with fail;generalize World.setCell _ _ _=w3 at HS⊢;clear f52 uu;have hB:=(HS.ar 0 rfl).drew;have f24:=hB.fM HE.len 24 rfl HE.out.code;have f51:=hB.cD HE.len bQ 51 rfl rfl;rw[iG]at f51;rw[ts.out]at f24;obtain⟨xa,rfl,uI,c0,c1⟩:=HC.out _ HS.drew.tail.tail.tail.tail.tail;have d0:=c0 _ rfl;have d1:=c1 0 _ rfl;have d2:=c1 1 _ rfl;have d3:=c1 2 _ rfl;have d4:=c1 3 _ rfl;clear c0 c1;refine bW [(1,[0,1,2,3,4,5,6,7,8,9]),(2,[10]),(3,[11])] (by kernel_rfl) ?_;simp only[zz];repeat(first|go_big_quiet_step(fail)|apply ax|apply af|apply ag|apply ah)
  refine aA ?_;go_wp2_with fail;have nW:=(Fr.refl [] w3.drew).alloc (.cells #[I 0,I 0,I 0,I 0,U 0] 28);refine⟨⟨⟨_,(by exact nW)⟩,rfl⟩,?_⟩;have js:=HS.drew.new 28 [I 0,I 0,I 0,I 0,U 0];rw[show w3.drew.heap.size=w3.heap.size from rfl]at js;have HS:=aa js;clear js nW hB f24 f51 d0 d1 d2 d3 d4 HC;have uv:∀z9∈ [I op,I ia,I ib,I ic,U im],z9.oneCell'=true:=by simp[Value.oneCell']
  repeat(first|go_big_quiet_step(fail)|apply ax|apply af|apply ag|apply ah)
  refine ao ?_;refine aC HS.out 0 rfl [I op,I ia,I ib,I ic,U im] 28 _ _ rfl rfl rfl rfl rfl (by kernel_rfl) uv (λwA hA _=>?_);simp only[aL]at hA;have HS:=aa hA;clear hA;go_wp2;refine aj ?_;have hI:=HS.ar 0 rfl;have i0:=hI.cell 0;have i1:=hI.cell 1;have i2:=hI.cell 2;have i3:=hI.cell 3;have i4:=hI.cell 4;simp only[zg]at i0 i1 i2 i3 i4;have hB:=(HS.ar 1 rfl);have rD:=hB.cD HE.len bQ 51 rfl rfl;have Bi:=hB.cD HE.len bQ 55 rfl rfl;have Bj:=hB.cD HE.len bQ 56 rfl rfl;have Bk:=hB.cD HE.len bQ 57 rfl rfl;have Bl:=hB.cD HE.len bQ 58 rfl rfl;have Bn:=hB.cD HE.len bQ 59 rfl rfl
 case' X|J|G|D|V|U|g0|g1|g2|g3=>have zZ:=hB.az
 case' g4=>have zZ:=hB.az
 case' g5|g7=>have zZ:=hB.az 51;have Bo:=hB.az
 case' g6|g8=>have zZ:=hB.az
 case' g9=>have zZ:=hB.az
 case' X|J|G|D|V|U|g0|g1|g2|g3|g4|g5|g7|g6|g8|g9=>rw[iG]at rD;have h3:=(((((HS.set 1 rfl 55 (I op)).set 1 rfl 56 (I ia)).set 1 rfl 57 (I ib)).set 1 rfl 58 (I ic)).set 1 rfl 59 (U im)).set 1 rfl 51 (I ((kp:Int)+1));simp only[zs,eK HE.len bQ,Nat.reduceSub,Nat.reduceLeDiff]at h3;have HS:=aa h3;clear h3 hB hI
 case' X=>have h4:=HS.set 1 rfl 51 (I im);simp only[zs,eK HE.len bQ,Nat.reduceSub,Nat.reduceLeDiff]at h4;have HS:=aa h4;clear h4
 case' X|J|G|D|V|U|g0|g1|g2|g3|g4|g5|g7|g6|g8|g9=>have k6:Hid (Sep w0 _ (aJ b _ _::_::_::_::_::aJ w3.heap.size 28 _::R)):=aa (Sep.kz (A:=[_,_,_,_,_]) HS.out)
 case' X=>go_wp2;go_end0
 case' J|G|D|V|U|g0|g1|g2|g3=>go_wp2_with fail;refine(HQ.out _ _ (ur.out _ _ _ _ _ _ _ _ k6.out)).kk λw5 h1=>?_;have yZ:=aa h1.swap.tail;clear h1;go_wp2;go_end0
 case' g4|g5|g7|g6|g8|g9=>go_wp2_with fail;generalize World.setCell _ _ _=w5 at k6⊢;have hB:=(k6.ar 0 rfl).drew;have hI:=(k6.ar 5 rfl).drew
 case' g4|g5|g7|g6|g8=>have j0:=hI.cell 0;have j1:=hI.cell 1;have j4:=hI.cell 4
 case' g9=>have j1:=hI.cell 1
 case' g4|g5|g7|g6|g8|g9=>have ra:=(hB.cell (35+ka)).trans ((dM HE.len bQ _ si).trans (cV va))
 case' g4|g5|g7|g6|g8=>simp only[zg]at j0 j1 j4;rw[Qj.out]at j1
 case' g4=>clear i0 i1 i2 i3 i4 rD Bi Bj Bk Bl Bn zZ;obtain⟨LC,g60⟩:=hB.xS HE.len bQ 60 rfl rfl;have h4:=(k6.drew.set 0 rfl 60 (I 1));simp only[zs,eK HE.len bQ,Nat.reduceSub,Nat.reduceLeDiff]at h4;have sk:=aa h4;clear h4;refine bW [(1,[0,2,3,4,5,6,7,8,10,11]),(0,[1,9]),(3,[12]),(0,[13,14]),(3,[15])] (by kernel_rfl) ?_
 case' g5|g7=>clear i0 i1 i2 i3 i4 rD Bi Bj Bk Bl Bn zZ Bo
 case' g6|g8=>clear i0 i1 i2 i3 i4 rD Bi Bj Bk Bl Bn zZ
 case' g5|g7|g6|g8=>refine bW [(1,[0,1,2,3,4,5,6,7,8,9,10,11])] (by kernel_rfl) ?_
 case' g4|g5|g7|g6|g8=>simp only[zz]
 case' g9=>
  simp only[zg]at j1;rw[Qj.out]at j1;clear i0 i1 i2 i3 i4 rD Bi Bj Bk Bl Bn zZ;have UR:=hB.az (35+ka);have P4:=U0 HE.len bQ hB;have W_:=U3 HAA.out HE.out hB;refine bW [(1,[0,1,2,3,4,5,6,7,8,9,10,11,13,14]),(2,[12]),(0,[15]),(3,[16])] (by kernel_rfl) ?_;simp only[zz];refine af ?_;repeat(first|(refine ak 28 _ w3.heap.size 0 [I op,I ia,I ib,I ic,U im] _ rfl rfl rfl (bL hI (by simp)) underlying28 rfl (by kernel_rfl) ?_;simp only[Act.put,aZ,aL,aN])|(refine ak 134 _ b 35 (bC x.aI) _ rfl rfl rfl (aG P4 (by simp)) underlying134 rfl (by rw[hlg];kernel_rfl) ?_;simp only[Act.put,aZ,aL,aN])|(refine ak 36 _ b 25 (bC args) _ rfl rfl rfl (aG W_ (by simp)) underlying36 rfl (by rw[lV];kernel_rfl) ?_;simp only[Act.put,aZ,aL,aN])|go_big_quiet_step (fail)|quiet_step (fail))
  refine ax ?_;refine aA ?_;go_wp2_with fail;refine(HRK.out _).kf k6.dr λw7 HF k6=>?_;go_wp2;refine⟨⟨⟨_,(by exact HF.out)⟩,rfl⟩,?_⟩
 case' g4|g5|g7|g6|g8|g9=>repeat(first|go_big_quiet_step(fail)|apply ax|apply af|apply ag|apply ah)
 case' g4=>
  refine ao ?_;go_wp2_with fail;clear LC g60 hB hI j0 j1 j4 ra;have Cd:Sep w0 ((w5.setCell ⟨b,60,none⟩ (I 1)).drew) _:=sk.out;generalize(w5.setCell ⟨b,60,none⟩ (I 1)).drew=w6 at Cd⊢;have hB:=Cd.ar 0 rfl;have k61:=hB.cD HE.len bQ 61 rfl rfl;have k62:=hB.cD HE.len bQ 62 rfl rfl;have g61:=hB.az;have h4:=(Cd.set 0 rfl 61 (I 0)).set 0 rfl 62 (U ua);simp only[zs,eK HE.len bQ,Nat.reduceSub,Nat.reduceLeDiff]at h4;have NR:=aa h4;clear h4 hB sk Cd;repeat(first|go_big_quiet_step(fail)|apply ax|apply af|apply ag|apply ah)
  refine ao ?_;go_wp2;refine aj ?_;go_wp2;go_end0
 case' g5|g7|g6|g8=>refine aj ?_;have k6:=aa k6.drew;clear hB hI j0 j1 j4 ra
 case' g5|g7=>have hI:=(k6.ar 5 rfl);have j4:=hI.cell 4;have hB:=k6.ar 0 rfl;obtain⟨rD,zZ⟩:=hB.xS HE.len bQ 51 rfl rfl;simp only[Nat.reduceSub,zg]at j4;have h4:=k6.set 0 rfl 51 (I im);simp only[zs,eK HE.len bQ,Nat.reduceSub,Nat.reduceLeDiff]at h4;have NR:=aa h4;clear h4 hB hI;go_wp2;go_end0
 case' g6|g8=>go_wp2;go_end0
 case' g9=>clear hB hI j1 ra UR P4 W_ HF;have hB:=(k6.ar 0 rfl);have ra:=(hB.cell (35+ka)).trans ((dM HE.len bQ _ si).trans (cV va));have UR:=hB.az (35+ka);have h5:=k6.set 0 rfl (35+ka) (U rk);simp only[aL,nA HE.len bQ _ si]at h5;have sk:=aa h5;clear h5 hB;refine ao ?_;go_wp2;refine aj ?_;go_wp2;go_end0
 case' Z=>exact⟨rfl,HS.out⟩
 case' X|g6|g8=>exact⟨rfl,(ur.out _ _ _ _ _ _ _ _ k6.out).swap.tail⟩
 case' J|G|D|V|U|g0|g1|g2|g3=>exact⟨rfl,yZ.out⟩
 case' g4|g5|g7=>exact⟨rfl,(ur.out _ _ _ _ _ _ _ _ NR.out).swap.tail⟩
 exact⟨rfl,(ur.out _ _ _ _ _ _ _ _ sk.out).swap.tail⟩
def Ij:=@zq41.1
def Qi{w0 w R c}(aE){aw seq b vb pb sb cv args}(ha){x}(h){code}(hr hC kp iG fu hf hS op ia ib ic im ko y hy hY):=(@zq41.2 w0 w R c aE aw seq b vb pb sb cv args ha x h code hr hC kp iG fu hf hS op ia ib ic im ko y hy hY).1
def Ik{w0 w R c}(aE){aw seq b vb pb sb cv args}(ha){x}(h){code}(hr hC kp iG fu hf hS op ia ib ic im ko y hy hY):=(@zq41.2 w0 w R c aE aw seq b vb pb sb cv args ha x h code hr hC kp iG fu hf hS op ia ib ic im ko y hy hY).2.1
def Bt{w0 w R c}(aE){aw seq b vb pb sb cv args}(ha){x}(h){code}(hr hC kp iG fu hf hS op ia ib ic im ko y hy hY):=(@zq41.2 w0 w R c aE aw seq b vb pb sb cv args ha x h code hr hC kp iG fu hf hS op ia ib ic im ko y hy hY).2.2.1
def Md{w0 w R c}(aE){aw seq b vb pb sb cv args}(ha){x}(h){code}(hr hC kp iG fu hf hS op ia ib ic im ko y hy hY):=(@zq41.2 w0 w R c aE aw seq b vb pb sb cv args ha x h code hr hC kp iG fu hf hS op ia ib ic im ko y hy hY).2.2.2.1
def Mf{w0 w R c}(aE){aw seq b vb pb sb cv args}(ha){x}(h){code}(hr hC kp iG fu hf hS op ia ib ic im ko y hy hY):=(@zq41.2 w0 w R c aE aw seq b vb pb sb cv args ha x h code hr hC kp iG fu hf hS op ia ib ic im ko y hy hY).2.2.2.2.1
def Mg{w0 w R c}(aE){aw seq b vb pb sb cv args}(ha){x}(h){code}(hr hC kp iG fu hf hS op ia ib ic im ko y hy hY):=(@zq41.2 w0 w R c aE aw seq b vb pb sb cv args ha x h code hr hC kp iG fu hf hS op ia ib ic im ko y hy hY).2.2.2.2.2.1
def Mh{w0 w R c}(aE){aw seq b vb pb sb cv args}(ha){x}(h){code}(hr hC kp iG fu hf hS op ia ib ic im ko y hy hY):=(@zq41.2 w0 w R c aE aw seq b vb pb sb cv args ha x h code hr hC kp iG fu hf hS op ia ib ic im ko y hy hY).2.2.2.2.2.2.1
def Mi{w0 w R c}(aE){aw seq b vb pb sb cv args}(ha){x}(h){code}(hr hC kp iG fu hf hS op ia ib ic im ko y hy hY):=(@zq41.2 w0 w R c aE aw seq b vb pb sb cv args ha x h code hr hC kp iG fu hf hS op ia ib ic im ko y hy hY).2.2.2.2.2.2.2.1
def Mj{w0 w R c}(aE){aw seq b vb pb sb cv args}(ha){x}(h){code}(hr hC kp iG fu hf hS op ia ib ic im ko y hy hY):=(@zq41.2 w0 w R c aE aw seq b vb pb sb cv args ha x h code hr hC kp iG fu hf hS op ia ib ic im ko y hy hY).2.2.2.2.2.2.2.2.1
def Fh{w0 w R c}(aE){aw seq b vb pb sb cv args}(ha){x}(h){code}(hr hC kp iG fu hf hS op ia ib ic im ko y hy hY):=(@zq41.2 w0 w R c aE aw seq b vb pb sb cv args ha x h code hr hC kp iG fu hf hS op ia ib ic im ko y hy hY).2.2.2.2.2.2.2.2.2.1
def Mk{w0 w R c}(aE){aw seq b vb pb sb cv args}(ha){x}(h){code}(hr hC kp iG fu hf hS op ia ib ic im ko y hy hY):=(@zq41.2 w0 w R c aE aw seq b vb pb sb cv args ha x h code hr hC kp iG fu hf hS op ia ib ic im ko y hy hY).2.2.2.2.2.2.2.2.2.2.1
def Qk{w0 w R c}(aE){aw seq b vb pb sb cv args}(ha){x}(h){code}(hr hC kp iG fu hf hS op ia ib ic im ko y hy hY):=(@zq41.2 w0 w R c aE aw seq b vb pb sb cv args ha x h code hr hC kp iG fu hf hS op ia ib ic im ko y hy hY).2.2.2.2.2.2.2.2.2.2.2.1
def Ql{w0 w R c}(aE){aw seq b vb pb sb cv args}(ha){x}(h){code}(hr hC kp iG fu hf hS op ia ib ic im ko y hy hY):=(@zq41.2 w0 w R c aE aw seq b vb pb sb cv args ha x h code hr hC kp iG fu hf hS op ia ib ic im ko y hy hY).2.2.2.2.2.2.2.2.2.2.2.2.1
def Qm{w0 w R c}(aE){aw seq b vb pb sb cv args}(ha){x}(h){code}(hr hC kp iG fu hf hS op ia ib ic im ko y hy hY):=(@zq41.2 w0 w R c aE aw seq b vb pb sb cv args ha x h code hr hC kp iG fu hf hS op ia ib ic im ko y hy hY).2.2.2.2.2.2.2.2.2.2.2.2.2.1
def Qn{w0 w R c}(aE){aw seq b vb pb sb cv args}(ha){x}(h){code}(hr hC kp iG fu hf hS op ia ib ic im ko y hy hY):=(@zq41.2 w0 w R c aE aw seq b vb pb sb cv args ha x h code hr hC kp iG fu hf hS op ia ib ic im ko y hy hY).2.2.2.2.2.2.2.2.2.2.2.2.2.2.1
def Il{w0 w R c}(aE){aw seq b vb pb sb cv args}(ha){x}(h){code}(hr hC kp iG fu hf hS op ia ib ic im ko y hy hY):=(@zq41.2 w0 w R c aE aw seq b vb pb sb cv args ha x h code hr hC kp iG fu hf hS op ia ib ic im ko y hy hY).2.2.2.2.2.2.2.2.2.2.2.2.2.2.2
def Ml {w0 w R}{c:cA}(aE:Y.Ok c){aw seq:Int}{b vb pb sb:Nat}{cv}{args:List Int}(ha:args.length=4){x:X.St}(h:gE c x){code:List In}(hr:right code=true)(hC:∀w',Sep w0 w' R→dJ w' cv code)(Hz:x.pc<code.length)(hS:Sep w0 w (aQ c aw seq b vb pb sb cv args x::R)):
 bR 175 #[O b] w w0 (aQ c aw seq b vb pb sb cv args (X.step c code args x)::R):=by
 unfold X.step;by_cases hf:c.f≤x.steps
 ·rw[aB hf];exact Ij aE ha h hf hS
 ·rw[aq hf];have Cc:x.steps<c.f:=by omega
  have hu:∀i∈code,0≤i.bN∧i.bN≤18446744073709551615:=by
   obtain⟨la,lc,h2⟩:=bh hS;exact(hC w h2.tail.tail.tail.tail.tail).2.2
  have hY:=gE.next aE h hr hu Hz Cc;have nH:=c_ hr;obtain⟨kp,iG⟩:∃kp:Nat,x.pc=kp:=⟨x.pc.toNat,by have:=h.pc;omega⟩;have fu:kp<code.length:=by omega
  have hg:code.getD kp i0=code[kp]:=by simp[List.getD,fu]
  have hs:=mJ hr kp fu;rw[hg]at hs;obtain⟨ci,ko⟩:∃ci,code[kp]=ci:=⟨_,rfl⟩;rw[ko]at hs;obtain⟨op,ia,ib,ic,im⟩:=ci;have hny:X.jd code x={x with steps:=x.steps+1,i:=⟨op,ia,ib,ic,im⟩,pc:=x.pc+1}:=by unfold X.jd;rw[iG,dU,hg,ko]
  rw[hny]at hY⊢;obtain⟨y,hy⟩:∃y:X.St,y={x with steps:=x.steps+1,i:=⟨op,ia,ib,ic,im⟩,pc:=x.pc+1}:=⟨_,rfl⟩;rw[←hy]at hY⊢;have zQ:=hu _ (cJ fu);rw[ko]at zQ;have J0:=hs.fwd;have nU:=hs.bk;dsimp only at zQ J0 nU;have o1:y.i.op=op:=by rw[hy]
  have o2:y.i.a=ia:=by rw[hy]
  have o3:y.i.bN=im:=by rw[hy]
  have o4:reckon y.i y.aI args=reckon ⟨op,ia,ib,ic,im⟩ x.aI args:=by rw[hy]
  unfold X.act;rw[o1,o2,o3,o4];by_cases Ba:op=17
  ·rw[aB Ba];exact Qi aE ha h hr hC kp iG fu Cc hS op ia ib ic im ko y hy hY (by simpa using Ba) (by have:=J0 (.inl Ba);omega)
  ·rw[aq Ba];have lN:(op==17)=false:=by simpa using Ba
   by_cases Bb:op=18
   ·have lO:(op==18)=true:=by simpa using Bb
    have qL:0≤im∧im≤256:=by have:=J0 (.inr Bb);omega
    rw[aB Bb];by_cases hz:X.iE y ia=0
    ·rw[aB hz];exact Qk aE ha h hr hC kp iG fu Cc hS op ia ib ic im ko y hy hY lN lO (by simpa using hz) qL
    ·rw[aq hz];exact Ql aE ha h hr hC kp iG fu Cc hS op ia ib ic im ko y hy hY lN lO (by simpa using hz) qL
   ·rw[aq Bb];have lO:(op==18)=false:=by simpa using Bb
    by_cases yx:op=19
    ·have nO:(op==19)=true:=by simpa using yx
     have qL:0≤im∧im≤256:=by have:=nU yx;omega
     rw[aB yx];by_cases hz:X.iE y ia=0
     ·rw[aq (by simpa using hz)];exact Qn aE ha h hr hC kp iG fu Cc hS op ia ib ic im ko y hy hY lN lO nO (by simpa using hz) qL
     ·rw[aB hz];exact Qm aE ha h hr hC kp iG fu Cc hS op ia ib ic im ko y hy hY lN lO nO (by simpa using hz) qL
    ·rw[aq yx];have nO:(op==19)=false:=by simpa using yx
     by_cases fL:op=20
     ·rw[aB fL];exact Mk aE ha h hr hC kp iG fu Cc hS op ia ib ic im ko y hy hY lN lO nO (by simpa using fL)
     ·rw[aq fL];have rp:(op==20)=false:=by simpa using fL
      by_cases De:op=21
      ·rw[aB De];exact Fh aE ha h hr hC kp iG fu Cc hS op ia ib ic im ko y hy hY lN lO nO rp (by simpa using De)
      ·rw[aq De];have sG:(op==21)=false:=by simpa using De
       by_cases h9:op=9
       ·rw[aB (.inl h9)];exact Ik aE ha h hr hC kp iG fu Cc hS op ia ib ic im ko y hy hY lN lO nO rp sG (by simpa using h9)
       ·have e9:(op==9)=false:=by simpa using h9
        by_cases oo:op=10
        ·rw[aB (.inr oo)];exact Bt aE ha h hr hC kp iG fu Cc hS op ia ib ic im ko y hy hY lN lO nO rp sG e9 (by simpa using oo)
        ·rw[aq (by omega)];have o7:(op==10)=false:=by simpa using oo
         by_cases u7:op=11
         ·rw[aB (by omega)];exact Md aE ha h hr hC kp iG fu Cc hS op ia ib ic im ko y hy hY lN lO nO rp sG e9 o7 (by simpa using u7)
         ·have qM:(op==11)=false:=by simpa using u7
          by_cases xJ:op=12
          ·rw[aB (by omega)];exact Mf aE ha h hr hC kp iG fu Cc hS op ia ib ic im ko y hy hY lN lO nO rp sG e9 o7 qM (by simpa using xJ)
          ·have qN:(op==12)=false:=by simpa using xJ
           by_cases yo:op=13
           ·rw[aB (by omega)];exact Mg aE ha h hr hC kp iG fu Cc hS op ia ib ic im ko y hy hY lN lO nO rp sG e9 o7 qM qN (by simpa using yo)
           ·have yX:(op==13)=false:=by simpa using yo
            by_cases BR:op=14
            ·rw[aB (by omega)];exact Mh aE ha h hr hC kp iG fu Cc hS op ia ib ic im ko y hy hY lN lO nO rp sG e9 o7 qM qN yX (by simpa using BR)
            ·have B4:(op==14)=false:=by simpa using BR
             by_cases sH:op=16
             ·rw[aB (by omega)];exact Mi aE ha h hr hC kp iG fu Cc hS op ia ib ic im ko y hy hY lN lO nO rp sG e9 o7 qM qN yX B4 (by simpa using sH)
             ·rw[aq (by omega)];have GI:(op==16)=false:=by simpa using sH
              by_cases Ey:op=15
              ·rw[aB Ey];exact Mj aE ha h hr hC kp iG fu Cc hS op ia ib ic im ko y hy hY lN lO nO rp sG e9 o7 qM qN yX B4 GI (by simpa using Ey)
              ·rw[aq Ey];exact Il aE ha h hr hC kp iG fu Cc hS op ia ib ic im ko y hy hY lN lO nO rp sG e9 o7 qM qN yX B4 GI (by simpa using Ey)
def Fi{w0 w R}{c:cA}(aE:Y.Ok c){aw seq:Int}{b vb pb sb:Nat}{cv}{args:List Int}(ha:args.length=4)(p6:∀r∈args,W.U_ r){code:List In}(hr:right code=true)(hC:∀w',Sep w0 w' R→dJ w' cv code){x:X.St}(h:XG c code x)(hS:Sep w0 w (aQ c aw seq b vb pb sb cv args x::R)):bR 157 #[O b] w w0 (aQ c aw seq b vb pb sb cv args (X.run c code args x)::R):=by
 have hu:∀i∈code,W.U_ i.bN:=by
  obtain⟨la,lc,h2⟩:=bh hS;exact(hC w h2.tail.tail.tail.tail.tail).2.2
 obtain⟨X1,tM⟩:∃X1,X.run c code args x=X1:=⟨_,rfl⟩;rw[tM];have HS:=aa hS;have HG:=aa h;have J2:=aa tM;have HC:=aa hC;have HU:=aa hu;have S8:=aa p6;clear hS h tM hC hu p6;delta bR;go_in;go_wp2_with fail;go_loopg [2] (X.left c x) (λg v2 wr=>∃y,XG c code y∧X.left c y=g∧X.run c code args y=X1∧Sep w0 wr (aQ c aw seq b vb pb sb cv args y::R))
 case' atStart=>skip
 refine ?Z
 case' round=>skip
 refine ?Y
 case' Z=>exact⟨x,HG.out,rfl,J2.out,HS.out⟩
 clear HS HG J2;obtain⟨y,hg,U4,z5,hS⟩:=hrel;have Mm:=aa hS;have Ze:=aa (XI.ok aE (by unfold r_;split<;>decide) hg.r);have HGY:=aa hg;clear hS hg;obtain⟨yB,yC,fL⟩:=bh Mm.out;have kC:=cH (show(ae c).length=24 from rfl) cv ha vb pb sb y.mark y.mt y.ml;have LC:=(fL.ar 0 rfl).cD kC.len Ze.aI 60 rfl rfl;have k54:=(fL.ar 0 rfl).cD kC.len Ze.aI 54 rfl rfl;have f29:=(fL.ar 0 rfl).fM kC.len 29 rfl kC.v;have HBV:=aa (fL.ar 2 rfl);clear fL kC;by_cases hs:y.s=0;refine ?X;rotate_left;refine ?J
 case' X=>
  have e0:(y.s==0)=true:=by simpa using hs
  have Mn:=aa (wX aE hr HU.out S8.out HGY.out hs);have nX:=aa (XG.round aE hr HU.out S8.out HGY.out hs);have HPC:=aa (HGY.out.pc hs);clear hs
 case' X=>by_cases hw:y.waits=false;refine ?G;rotate_left;refine ?D
 case' G=>
  have jN:X.round c code args y=(X.step c code args y,true):=by unfold X.round;rw[aB hw]
  rw[jN]at Mn nX;have wY:Hid (X.left c (X.step c code args y)<gk):=aa (by rw[←U4];exact nX.out.2.1 rfl);have z6:Hid (X.run c code args (X.step c code args y)=X1):=aa (by rw[←z5,Mn.out];rfl);have Ff:=aa nX.out.1;clear jN;go_wp2_with fail;refine(Ml aE ha Ze.out hr HC.out HPC.out Mm.out).kh λw1 z7=>?_;clear LC k54 f29;go_wp2
 case' G=>
  go_roundg (X.left c (X.step c code args y))
  case measure=>exact wY.out
  case rel=>exact⟨X.step c code args y,Ff.out,rfl,z6.out,z7.out⟩
 case' D=>
  have NI:y.waits=true:=by simpa using hw
  obtain⟨vs,J5⟩:∃vs,y.v.s=vs:=⟨_,rfl⟩;have Mp:=aa (λw' hB=>vz w' vb (ae c) rfl aw seq y.v hB);rw[J5]at Mp;rw[NI]at k54
 case' D=>by_cases h0:vs=0;refine ?V;rotate_left;refine ?U
 case' V=>
  have jN:X.round c code args y=(y,false):=by unfold X.round;rw[aq hw,J5,aB h0]
  rw[jN,aq (by simp)]at Mn;rw[Mn.out]at z5;subst z5;have t0:(vs==0)=true:=by simpa using h0
  clear h0 J5 hw NI jN;go_wp2_with fail;refine(Mp.out _ HBV.out).kq Mm λw1 z7=>?_;go_wp2;refine aV (fV rfl _ _ _) rfl ?_
 case' V=>exact⟨rfl,z7.out⟩
 case' U=>have t0:(vs==0)=false:=by simpa using h0
 case' U=>by_cases h2:vs=2;refine ?g0;rotate_left;refine ?g1
 case' g1=>have t2:(vs==2)=false:=by simpa using h2
 case' g1=>by_cases h3:vs=3;refine ?g2;rotate_left;refine ?g3
 case' g0=>
  have jN:X.round c code args y=({y with s:=2},true):=by unfold X.round;rw[aq hw,J5,aq h0,aB h2]
  rw[jN]at Mn nX;have wY:Hid (X.left c {y with s:=2}<gk):=aa (by rw[←U4];exact nX.out.2.1 rfl);have z6:Hid (X.run c code args {y with s:=2}=X1):=aa (by rw[←z5,Mn.out];rfl);have Ff:=aa nX.out.1;have t2:(vs==2)=true:=by simpa using h2
  clear h0 h2 J5 hw NI jN
 case' g3=>
  have jN:X.round c code args y=(X.jb c y.v.val {y with waits:=false},true):=by unfold X.round;rw[aq hw,J5,aq h0,aq h2,aq h3]
  rw[jN]at Mn nX;have wY:Hid (X.left c (X.jb c y.v.val {y with waits:=false})<gk):=aa (by rw[←U4];exact nX.out.2.1 rfl);have z6:Hid (X.run c code args (X.jb c y.v.val {y with waits:=false})=X1):=aa (by rw[←z5,Mn.out];rfl);have Ff:=aa nX.out.1;have t3:(vs==3)=false:=by simpa using h3
  have HWO:Hid (gE c {y with waits:=false}):=aa (XI.ok aE (k:=0) (by decide) (show XI c code 0 {y with waits:=false}from{HGY.out.r.zero with}));have HVV:=aa (show 0≤y.v.val∧y.v.val≤18446744073709551615 from Ze.out.vv);clear h0 h2 h3 J5 hw NI jN
 case' g2=>
  have jN:X.round c code args y=(X.fail 44 0 y,true):=by unfold X.round;rw[aq hw,J5,aq h0,aq h2,aB h3]
  rw[jN]at Mn nX;have wY:Hid (X.left c (X.fail 44 0 y)<gk):=aa (by rw[←U4];exact nX.out.2.1 rfl);have z6:Hid (X.run c code args (X.fail 44 0 y)=X1):=aa (by rw[←z5,Mn.out];rfl);have Ff:=aa nX.out.1;have t3:(vs==3)=true:=by simpa using h3
  clear h0 h2 h3 J5 hw NI jN
 case' g0|g3|g2=>go_wp2_with fail;refine(Mp.out _ HBV.out).kq Mm λw1 Mm=>?_;clear LC k54 f29
 case' g0|g3=>have hS:=Mm.out;have hY:=Ze.out;obtain⟨la,lc,h2⟩:=bh hS
 case' g0=>have dQ:Hid (∀w' nv,Sep w0 w' (aJ b 255 (iN (fJ (ae c) cv args vb pb sb y.mark y.mt y.ml) ({y with s:=2}).aI (ey ({y with s:=2}) nv))::aU 0 26 1 nv ({y with s:=2}).news.length (bC ({y with s:=2}).news)::aJ vb 258 (Vw.eU (ae c) aw seq ({y with s:=2}).v)::bE c seq pb ({y with s:=2}).p::cw sb ({y with s:=2}).w::R)→Sep w0 w' (aQ c aw seq b vb pb sb cv args ({y with s:=2})::R)):=aa (λw' nv h=>bF h)
 case' g3=>have dQ:Hid (∀w' nv,Sep w0 w' (aJ b 255 (iN (fJ (ae c) cv args vb pb sb y.mark y.mt y.ml) ({y with waits:=false}).aI (ey ({y with waits:=false}) nv))::aU 0 26 1 nv ({y with waits:=false}).news.length (bC ({y with waits:=false}).news)::aJ vb 258 (Vw.eU (ae c) aw seq ({y with waits:=false}).v)::bE c seq pb ({y with waits:=false}).p::cw sb ({y with waits:=false}).w::R)→Sep w0 w' (aQ c aw seq b vb pb sb cv args ({y with waits:=false})::R)):=aa (λw' nv h=>bF h)
 case' g0|g3=>have hE:=cH (show(ae c).length=24 from rfl) cv ha vb pb sb y.mark y.mt y.ml;unfold lP at h2;simp only[za]at h2;generalize fJ (ae c) cv args vb pb sb y.mark y.mt y.ml=H at*;have HE:=aa hE;have HX:=aa hY;have HS:=aa h2;clear hS h2 hE hY;unfold ey at HS;have bQ:=HX.aI
 case' g0=>obtain⟨LC,g60⟩:=(HS.ar 0 rfl).xS HE.len bQ 60 rfl rfl;have h3:=HS.set 0 rfl 60 (I 2)
 case' g3=>obtain⟨k54,g54⟩:=(HS.ar 0 rfl).xS HE.len bQ 54 rfl rfl;have h3:=HS.set 0 rfl 54 (.bool false)
 case' g0|g3=>simp only[aL,eK HE.len bQ,Nat.reduceSub,Nat.reduceLeDiff,aN]at h3;have z7:=aa (dQ.out _ _ h3);clear h3
 case' g0=>go_wp2
 case' g3=>go_wp2_with fail;refine(qB aE ha HWO.out y.v.val HVV.out z7.out).kh λw2 z7=>?_;go_wp2
 case' g2=>go_wp2_with fail;refine(jC ha Ze.out 44 0 Mm.out).kh λw2 z7=>?_;go_wp2
 case' g0=>
  go_roundg (X.left c ({y with s:=2}))
  case measure=>exact wY.out
  case rel=>exact⟨{y with s:=2},Ff.out,rfl,z6.out,z7.out⟩
 case' g3=>
  go_roundg (X.left c (X.jb c y.v.val {y with waits:=false}))
  case measure=>exact wY.out
  case rel=>exact⟨X.jb c y.v.val {y with waits:=false},Ff.out,rfl,z6.out,z7.out⟩
 case' g2=>
  go_roundg (X.left c (X.fail 44 0 y))
  case measure=>exact wY.out
  case rel=>exact⟨X.fail 44 0 y,Ff.out,rfl,z6.out,z7.out⟩
 have e0:(y.s==0)=false:=by simpa using hs
 rw[zV hs]at z5;subst z5;go_wp2;go_end0;exact⟨rfl,Mm.out⟩
end Go.Proofs.YtolkmchicplaoaaGreat
namespace Go.aS.H
open Go.aS.Y Go.aS.Sc
structure Inv (c:cA)(h:H):Prop where
 rE:Good c h
 rng:0≤h.next∧h.next≤8
 ent:h.next=3∨h.next=4∨h.next=5∨h.next=6→7≤(jt c (nth h h.k.toNat).1).1
 nil:h.next=0→h.list=[]
def z_ {c h}(hg:Good c h):∀g k,g+k=h.list.length→Inv c (gU c h g k)
 |0,k,hk=>⟨(sB hg 0 k hk).1,by simp[gU],by simp[gU],by simp[gU]⟩
 |g+1,k,hk=>by
  have mV:=(sB hg (g+1) k hk).1;unfold gU at mV⊢;split at mV
  ·rename_i h1;rw[aB h1];exact z_ hg g (k+1) (by omega)
  ·rename_i h1;rw[aq h1];refine⟨mV,?_,λ_=>?_,?_⟩
   ·dsimp only;split<;>simp
   ·have e:nth {h with k:=(k:Int),next:=if(jt c (nth h k).1).1=16∧(jt c (nth h k).1).2.1≠h.held then 3 else 5} (k:Int).toNat=nth h k:=rfl;dsimp only at e⊢;rw[e];omega
   ·dsimp only;split<;>simp
def tt {c h}(hg:Good c h)(k)(hk:k≤h.list.length):Inv c (entry c h k):=z_ hg _ _ (by omega)
def J6 {c h}(is)(hi:Inv c h):Inv c (zw is h):=by
 unfold zw;cases is
 ·obtain⟨⟨a1,a2,a3,a4,a5,a6⟩,b,e,n⟩:=hi;exact⟨⟨a1,a2,by simp,a4,a5,by simp⟩,by simp,by simp,by simp⟩
 ·exact hi
def Qo {c}(aE:Ok c){seq h}(hi:Inv c h)(v s)(hv:0≤v):Inv c (tell c seq v s h):=by
 have hc:=iI aE;obtain⟨hg,hr,he,hn⟩:=hi;obtain⟨a1,a2,a3,a4,a5,a6⟩:=id hg;unfold tell;by_cases h0:h.next=0
 ·rw[aB h0];have hl:=hn h0;unfold read;have hm:0≤min v (cap c)∧min v (cap c)≤cap c:=by omega
  rw[hl];refine⟨⟨hm.1,by dsimp only;omega,?_,by simp[hl],a5,?_⟩,?_,?_,?_⟩
  ·dsimp only;split<;>rename_i hx<;>simp at hx⊢;omega
  ·dsimp only;split<;>simp
  ·dsimp only;split<;>simp
  ·dsimp only;split<;>simp
  ·dsimp only;split<;>simp
 rw[aq h0];by_cases h1:h.next=1
 ·rw[aB h1];have hl:=a3 h1;unfold read;refine⟨⟨a1,a2,?_,by simp;omega,a5,?_⟩,?_,?_,?_⟩
  ·dsimp only;split<;>rename_i hx<;>simp at hx⊢;omega
  ·dsimp only;split<;>simp
  ·dsimp only;split<;>simp
  ·dsimp only;split<;>simp
  ·dsimp only;split<;>simp
 rw[aq h1];by_cases h2:h.next=2
 ·rw[aB h2];exact J6 _ (tt hg 0 (cE _))
 rw[aq h2];by_cases h3:h.next=3
 ·rw[aB h3];have hk:=a6 (.inl h3);exact⟨⟨a1,a2,by simp,a4,a5,λ_=>hk⟩,by simp,λ_=>he (.inl h3),by simp⟩
 rw[aq h3];by_cases h4:h.next=4
 ·rw[aB h4];have hk:=a6 (.inr (.inl h4));exact J6 _ ⟨⟨a1,a2,by simp,a4,a5,λ_=>hk⟩,by simp,λ_=>he (.inr (.inl h4)),by simp⟩
 rw[aq h4];by_cases h5:h.next=5
 ·rw[aB h5];have hk:=a6 (.inr (.inr (.inl h5)));have iZ:Good c {h with cv:=v,cs:=s,next:=6}:=⟨a1,a2,by simp,a4,a5,λ_=>hk⟩;split
  ·exact tt iZ _ (by dsimp only;omega)
  ·exact⟨iZ,by simp,λ_=>he (.inr (.inr (.inl h5))),by simp⟩
 rw[aq h5];by_cases h6:h.next=6
 ·rw[aB h6];have hk:=a6 (.inr (.inr (.inr h6)));exact tt hg _ (by omega)
 rw[aq h6];by_cases h7:h.next=7
 ·rw[aB h7];exact⟨⟨a1,a2,by simp,a4,a5,by simp⟩,by simp,by simp,by simp⟩
 rw[aq h7];exact⟨hg,hr,he,hn⟩
def vD (c h):∀g k,(gU c h g k).list=h.list∧(gU c h g k).n=h.n∧(gU c h g k).held=h.held∧(gU c h g k).cv=h.cv∧(gU c h g k).cs=h.cs
 |0,k=>⟨rfl,rfl,rfl,rfl,rfl⟩
 |g+1,k=>by
  unfold gU;split
  ·exact vD c h g (k+1)
  ·exact⟨rfl,rfl,rfl,rfl,rfl⟩
def pF (c h k):(entry c h k).list=h.list∧(entry c h k).n=h.n∧(entry c h k).held=h.held∧(entry c h k).cv=h.cv∧(entry c h k).cs=h.cs:=vD c h _ _
def Ck (is h):(zw is h).list=h.list∧(zw is h).n=h.n∧(zw is h).held=h.held∧(zw is h).cv=h.cv∧(zw is h).cs=h.cs:=by
 unfold zw;cases is<;>exact⟨rfl,rfl,rfl,rfl,rfl⟩
end Go.aS.H
namespace Go.aS.H
open Go.aS.Y Go.aS.Sc
section
variable {c:cA} {aw owner seq:Int}
def Im (h k)(hk:h.list.length≤k):entry c h k={h with next:=7}:=by
 unfold entry;rw[show h.list.length-k=0 by omega];rfl
def Io (h k)(hk:k<h.list.length):entry c h k=if(jt c (nth h k).1).1<7 then entry c h (k+1)else{h with k:=k,next:=if(jt c (nth h k).1).1=16∧(jt c (nth h k).1).2.1≠h.held then 3 else 5}:=by
 unfold entry;rw[show h.list.length-k=(h.list.length-(k+1))+1 by omega];rfl
end
end Go.aS.H
namespace Go.Proofs.YtolkmchicplaoaaGreat
open Go.RowKit Go.aS Go.aS.Y Go.aS.Sc
def rF {w0 w R}(b c)(aE:Ok c)(aw owner seq la m lc h k)(hm:m=h.list.length)(AX:m≤100000)(hk:k≤m)
 (hS:Sep w0 w (aJ b 221 (H.hL (ae c) aw owner seq (.slice la m lc) h)::aU 0 234 2 (.slice la m lc) m (flat iS h.list)::R)):
 bR 137 #[O b,I (k:Int)] w w0 (aJ b 221 (H.hL (ae c) aw owner seq (.slice la m lc) (H.entry c h k))::aU 0 234 2 (.slice la m lc) m (flat iS h.list)::R):=by
 subst hm;have rG:=aa (λp=>i_ aE p);unfold lC at rG;have aD:(ae c).length=24:=rfl;unfold aY at rG;generalize ae c=cs at*;have HS:=aa hS;clear hS;delta bR;go_in;go_wp2_with fail;go_loopg [1] (h.list.length-k) (λg vk wr=>∃j:Nat,g+j=h.list.length∧k≤j∧vk=I (j:Int)∧H.entry c h k=H.entry c h j∧Sep w0 wr (aJ b 221 (H.hL cs aw owner seq (.slice la h.list.length lc) h)::aU 0 234 2 (.slice la h.list.length lc) h.list.length (flat iS h.list)::R))
 case atStart=>exact⟨k,by omega,dp _,rfl,rfl,HS.out⟩
 case round=>
  clear HS;obtain⟨j,hg,SU,rfl,heq,hS⟩:=hrel;have HS:=aa hS;clear hS;by_cases hj:j<h.list.length
  ·have s9:(j:Int)<(h.list.length:Int):=by omega
   have mW:j<h.list.length:=by omega
   have hr:=HS.row 1 rfl;obtain⟨g0,lV⟩:∃g,la=some ⟨g,0,none⟩:=by
    rcases bg hr with⟨_,e⟩|⟨g,cap,e,_⟩
    ·omega
    ·simp only[dk]at e;exact⟨g,e.1⟩
   subst lV;have y0:=aH hr (j*2) _ (by have:=cI gy h.list j mW 0 (by decide);simpa[iS]using this);have y1:=aH hr (j*2+1) _ (by have:=cI gy h.list j mW 1 (by decide);simpa[iS]using this);have Df:=H.Io (c:=c) h j mW;have yD:H.nth h j=h.list[j]'mW:=by simp[H.nth,cO,cy mW]
   rw[yD]at Df;clear yD hr;generalize h.list[j]'mW=E_ at*;obtain⟨E1,E2⟩:=E_;dsimp only at y0 y1 Df;have HW:=aa (rG.out E1);have GK:=JC aE E1;have hwd:=Yl aE E1;generalize jt c E1=wa at HW GK Df hwd;obtain⟨wa1,NS,wa3⟩:=wa;dsimp only at HW GK Df hwd;have la:=0;obtain⟨la,lV⟩:∃la:Option Addr,la=some ⟨g0,0,none⟩:=⟨_,rfl⟩;rw[←lV]at HS;have cu:=(HS.ar 0 rfl).aR aD 27 rfl rfl;have dX:=(HS.ar 0 rfl).aR aD 29 rfl rfl;have d_:=(HS.ar 0 rfl).aR aD 30 rfl rfl;have lJ:=(HS.ar 0 rfl).aR aD 33 rfl rfl;have f29:=(HS.ar 0 rfl).az 29;have f33:=(HS.ar 0 rfl).az 33;rw[lV]at cu;have hB:=HS.ar 0 rfl;have cC:=hB.drew;clear hB;go_wp2_with fail;refine bW [(1,[0,1,2,3,4,5,6,7,8,9,10,11]),(3,[12]),(0,[13,14,15,16,17,18,19])] (by kernel_rfl) ?_;simp only[zz];refine af ?_;iterate 3 (first|go_big_quiet_step (fail)|quiet_step (fail))
   refine ak 58 _ b 0 cs _ rfl rfl rfl (cm cC (by simp)) underlying58 rfl (by rw[aD];kernel_rfl) ?_;simp only[Act.put,aZ,zs];repeat go_big_quiet_step(fail)
   refine ax ?_;refine ao ?_;go_wp2_with fail;refine(HW.out _).kq HS.dr λw2 HS=>?_;go_wp2_with fail;repeat(first|go_big_quiet_step(fail)|apply ax|apply af|apply ag|apply ah)
   refine aj ?_;clear cu dX d_ lJ f29 f33 y0 y1 cC;have cu:=(HS.ar 0 rfl).aR aD 27 rfl rfl;have dX:=(HS.ar 0 rfl).aR aD 29 rfl rfl;have d_:=(HS.ar 0 rfl).aR aD 30 rfl rfl;have lJ:=(HS.ar 0 rfl).aR aD 33 rfl rfl;have f29:=(HS.ar 0 rfl).az 29;have f33:=(HS.ar 0 rfl).az 33;rw[lV]at cu;by_cases h7:wa1<7
   ·rw[aB h7]at Df;go_wp2;go_roundg (h.list.length-(j+1))
    case measure=>omega
    case rel=>refine⟨j+1,by omega,by omega,by go_num,heq.trans Df,?_⟩;have:=HS.out;rw[lV]at this;exact this
   ·rw[aq h7]at Df;have Dv:=(HS.set 0 rfl 29 (I (j:Int))).set 0 rfl 33 (I 5);simp only[aL,H.an9 aD,H.km aD]at Dv;have Dw:=Dv.set 0 rfl 33 (I 3);simp only[aL,H.km aD]at Dw;have sk:=aa Dv;have eH:=aa Dw;clear Dv Dw;by_cases sH:wa1=16
    ·have GG:(wa1==16)=true:=by simpa using sH
     by_cases hhd:NS=h.held
     ·have gh:(NS !=h.held)=false:=by simpa using hhd
      rw[aq (by simp[hhd])]at Df;clear sH hhd;go_wp2;refine aV (v:= .tuple #[]) (by simp[results,Tryz.results137,go_sem]) rfl ?_;refine⟨rfl,?_⟩;first|exact sk.out|(have h9:=sk.out;rw[lV]at h9;exact h9)|(rw[heq,Df];have h9:=sk.out;rw[lV]at h9;exact h9)
     ·have gh:(NS !=h.held)=true:=by simpa using hhd
      rw[aB ⟨sH,hhd⟩]at Df;clear sH hhd;go_wp2;refine aV (v:= .tuple #[]) (by simp[results,Tryz.results137,go_sem]) rfl ?_;refine⟨rfl,?_⟩;first|exact eH.out|(have h9:=eH.out;rw[lV]at h9;exact h9)|(rw[heq,Df];have h9:=eH.out;rw[lV]at h9;exact h9)
    ·have GG:(wa1==16)=false:=by simpa using sH
     rw[aq (by simp[sH])]at Df;clear sH;go_wp2;refine aV (v:= .tuple #[]) (by simp[results,Tryz.results137,go_sem]) rfl ?_;refine⟨rfl,?_⟩;first|exact sk.out|(have h9:=sk.out;rw[lV]at h9;exact h9)|(rw[heq,Df];have h9:=sk.out;rw[lV]at h9;exact h9)
  ·obtain rfl:j=h.list.length:=by omega
   have Df:=H.Im (c:=c) h h.list.length (by omega);have cu:=(HS.ar 0 rfl).aR aD 27 rfl rfl;obtain⟨lJ,f33⟩:=(HS.ar 0 rfl).fe aD 33 rfl rfl;have U5:=HS.set 0 rfl 33 (I 7);simp only[aL,H.km aD]at U5;have NR:=aa U5;clear U5;go_wp2;go_end0;refine⟨rfl,?_⟩;first|exact NR.out|(rw[heq,Df];exact NR.out)
def Mq {b}(h0:0≤b)(h1:b≤100000):H.nameOf b=b+1:=by
 unfold H.nameOf;rw[ir,ir];omega
def zq42:(∀(w)(c:cA)(aE:Ok c)(b:Nat)(aw owner seq:Int)(la:Option Addr)(m lc:Nat)(L:List (Int×Int))(n:Int)(kn:Nat)(held cv cc nx:Int)(hB:cB w b 221 (H.hL (ae c) aw owner seq (.slice la m lc) ⟨L,n,kn,held,cv,cc,nx⟩))(hr:w.ownsRow 0 234 2 (.slice la m lc) m (flat iS L))(hm:m=L.length)(hg:H.Good c ⟨L,n,kn,held,cv,cc,nx⟩),(∀(kT:nx=0),ba 238 #[O b] w (.tuple #[.agg (eF (H.ask c aw owner seq ⟨L,n,kn,held,cv,cc,nx⟩).1).toArray,.bool (H.ask c aw owner seq ⟨L,n,kn,held,cv,cc,nx⟩).2]))∧(∀(kT:nx=1),ba 238 #[O b] w (.tuple #[.agg (eF (H.ask c aw owner seq ⟨L,n,kn,held,cv,cc,nx⟩).1).toArray,.bool (H.ask c aw owner seq ⟨L,n,kn,held,cv,cc,nx⟩).2]))∧(∀(kT:nx=2),ba 238 #[O b] w (.tuple #[.agg (eF (H.ask c aw owner seq ⟨L,n,kn,held,cv,cc,nx⟩).1).toArray,.bool (H.ask c aw owner seq ⟨L,n,kn,held,cv,cc,nx⟩).2]))∧(∀(kT:nx=4),ba 238 #[O b] w (.tuple #[.agg (eF (H.ask c aw owner seq ⟨L,n,kn,held,cv,cc,nx⟩).1).toArray,.bool (H.ask c aw owner seq ⟨L,n,kn,held,cv,cc,nx⟩).2]))∧(∀(kT:nx=7),ba 238 #[O b] w (.tuple #[.agg (eF (H.ask c aw owner seq ⟨L,n,kn,held,cv,cc,nx⟩).1).toArray,.bool (H.ask c aw owner seq ⟨L,n,kn,held,cv,cc,nx⟩).2]))∧(∀(kT:nx=3),ba 238 #[O b] w (.tuple #[.agg (eF (H.ask c aw owner seq ⟨L,n,kn,held,cv,cc,nx⟩).1).toArray,.bool (H.ask c aw owner seq ⟨L,n,kn,held,cv,cc,nx⟩).2]))∧(∀(kT:nx=5),ba 238 #[O b] w (.tuple #[.agg (eF (H.ask c aw owner seq ⟨L,n,kn,held,cv,cc,nx⟩).1).toArray,.bool (H.ask c aw owner seq ⟨L,n,kn,held,cv,cc,nx⟩).2]))∧(∀(kT:nx=6),ba 238 #[O b] w (.tuple #[.agg (eF (H.ask c aw owner seq ⟨L,n,kn,held,cv,cc,nx⟩).1).toArray,.bool (H.ask c aw owner seq ⟨L,n,kn,held,cv,cc,nx⟩).2]))∧(∀(kT:¬nx=0∧¬nx=1∧¬nx=2∧¬nx=3∧¬nx=4∧¬nx=5∧¬nx=6∧¬nx=7),ba 238 #[O b] w (.tuple #[.agg (eF (H.ask c aw owner seq ⟨L,n,kn,held,cv,cc,nx⟩).1).toArray,.bool (H.ask c aw owner seq ⟨L,n,kn,held,cv,cc,nx⟩).2]))):=by
 intro w c aE b aw owner seq la m lc L n kn held cv cc nx hB hr hm hg;refine⟨?Y,?X,?J,?G,?D,?V,?U,?g0,?g1⟩
 case' Y|X|J|G|D|g1|V|U|g0=>intro kT
 case' Y=>
  have rV:H.ask c aw owner seq ⟨L,n,kn,held,cv,cc,nx⟩=(⟨0,at_ c 5 owner 0,0,0,0,0⟩,true):=by first|(subst kT;simp[H.ask])|simp[H.ask,kT]
  rw[rV];clear rV;dsimp only;have HA:=aa (λw=>cx w c aE 5 owner 0)
 case' X=>
  have rV:H.ask c aw owner seq ⟨L,n,kn,held,cv,cc,nx⟩=(⟨0,at_ c 6 owner L.length,0,0,0,0⟩,true):=by first|(subst kT;simp[H.ask])|simp[H.ask,kT]
  rw[rV];clear rV;dsimp only;rw[←hm];have HA:=aa (λw=>cx w c aE 6 owner m)
 case' J|G=>have rV:H.ask c aw owner seq ⟨L,n,kn,held,cv,cc,nx⟩=(⟨0,at_ c 4 owner 0,0,0,0,0⟩,true):=by first|(subst kT;simp[H.ask])|simp[H.ask,kT]
 case' D=>have rV:H.ask c aw owner seq ⟨L,n,kn,held,cv,cc,nx⟩=(⟨2,at_ c 4 owner 0,1,seq,0,seq⟩,true):=by first|(subst kT;simp[H.ask])|simp[H.ask,kT]
 case' g1=>have rV:H.ask c aw owner seq ⟨L,n,kn,held,cv,cc,nx⟩=(p0,false):=by first|(subst kT;simp[H.ask])|simp[H.ask,kT]
 case' V=>have rV:H.ask c aw owner seq ⟨L,n,kn,held,cv,cc,nx⟩=(⟨1,at_ c 3 aw 0,0,0,H.nameOf (jt c (H.nth ⟨L,n,kn,held,cv,cc,nx⟩ (kn:Int).toNat).1).2.1,0⟩,true):=by first|(subst kT;simp[H.ask])|simp[H.ask,kT]
 case' U=>have rV:H.ask c aw owner seq ⟨L,n,kn,held,cv,cc,nx⟩=(⟨0,(H.nth ⟨L,n,kn,held,cv,cc,nx⟩ (kn:Int).toNat).1,0,0,0,0⟩,true):=by first|(subst kT;simp[H.ask])|simp[H.ask,kT]
 case' g0=>have rV:H.ask c aw owner seq ⟨L,n,kn,held,cv,cc,nx⟩=(⟨2,(H.nth ⟨L,n,kn,held,cv,cc,nx⟩ (kn:Int).toNat).1,cv,cc,(H.nth ⟨L,n,kn,held,cv,cc,nx⟩ (kn:Int).toNat).2,seq⟩,true):=by first|(subst kT;simp[H.ask])|simp[H.ask,kT]
 case' J|G|D|g1|V|U|g0=>rw[rV];clear rV
 case' J|G|D|g1=>dsimp only
 case' V|U|g0=>
  have Hg:=hg.2.2.2.2.2 (by dsimp only;omega);dsimp only at Hg;have kV:kn<L.length:=by omega
  obtain⟨g,lV⟩:∃g,la=some ⟨g,0,none⟩:=by
   rcases bg hr with⟨_,e⟩|⟨g,cap,e,_⟩
   ·omega
   ·simp only[dk]at e;exact⟨g,e.1⟩
  have NU:=aa lV;rw[lV]at hr;clear lV;have HR:Hid (∀w',Fr [] w w'→w'.cell? ⟨g,kn*2,none⟩=some (I (L[kn]'kV).1)∧w'.cell? ⟨g,kn*2+1,none⟩=some (U (L[kn]'kV).2)):=λw' f=>
   ⟨f.cell (aH hr _ _ (by have:=cI gy L kn kV 0 (by decide);simpa[iS]using this)) (by simp),f.cell (aH hr _ _ (by have:=cI gy L kn kV 1 (by decide);simpa[iS]using this)) (by simp)⟩
  have AZ:=(oz hr g rfl).2;have yD:H.nth ⟨L,n,kn,held,cv,cc,nx⟩ (kn:Int).toNat=L[kn]'kV:=by
   unfold H.nth;simp[cO,cy kV]
  have ai1:(kn:Int)<(m:Int):=by omega
  have ai2:¬g=w.heap.size:=by omega
 case' V=>have HA:=aa (λw=>cx w c aE 3 aw 0)
 case' Y|X|J|G|D|g1|V|U|g0=>have rG:=aa (λp=>i_ aE p);unfold lC at rG;have HO:=aa (λw' (f:Fr [] w w')=>eL w' c aE b aw owner seq (.slice la m lc) ⟨L,n,kn,held,cv,cc,nx⟩ (hB.fr f (by simp)));have aD:(ae c).length=24:=rfl;unfold aY at*;generalize ae c=cs at*
 case' Y|X=>generalize at_ c 4 owner 0=a4 at HO HA⊢
 case' Y=>try generalize at_ c 5 owner 0=av at HA⊢
 case' X=>try generalize at_ c 6 owner m=av at HA⊢
 case' J|G|D|g1=>generalize at_ c 4 owner 0=a4 at HO⊢;try generalize at_ c 4 owner 0=av at ⊢
 case' V=>generalize at_ c 4 owner 0=a4 at HO HA⊢;try generalize at_ c 3 aw 0=av at HA⊢
 case' U|g0=>generalize at_ c 4 owner 0=a4 at HO⊢;try generalize at_ c 4 owner 0=av at ⊢
 case' Y|X|J|G|D|g1|V|U|g0=>have hS:=(Sep.nil (Fr.refl [] w)).new 82 (eF p0);have HS:=aa hS;clear hS;have HB:=aa (λw' (f:Fr [] w w')=>hB.fr f (by simp));have uG:=hB.lt;clear hB hm hg
 case' Y|X=>subst kT
 case' J|G|D=>subst kT
 case' g1=>
  obtain⟨n0,n1,n2,n3,n4,n5,n6,n7⟩:=kT;have n0:(nx==0)=false:=by simpa using n0
  have n1:(nx==1)=false:=by simpa using n1
  have n2:(nx==2)=false:=by simpa using n2
  have n3:(nx==3)=false:=by simpa using n3
  have n4:(nx==4)=false:=by simpa using n4
  have n5:(nx==5)=false:=by simpa using n5
  have n6:(nx==6)=false:=by simpa using n6
  have n7:(nx==7)=false:=by simpa using n7
 case' V|U|g0=>rw[yD];generalize L[kn]'kV=E_ at*;obtain⟨E1,E2⟩:=E_;dsimp only at HR yD;dsimp only
 case' V=>have HW:=aa (rG.out E1);have GK:=JC aE E1;generalize jt c E1=wa at HW GK⊢;obtain⟨wa1,NS,wa3⟩:=wa;dsimp only at HW GK⊢;rw[Mq GK.1 (by omega)]
 case' V|U|g0=>subst kT
 case' Y|X|J|G|D|g1|V|U|g0=>
  delta ba;go_in;go_wp2_with fail;refine(HO.out _ HS.fr).kk λw1 hf=>?_;have hS:=(HS.fr0 hf).new 68 [U 1,U seq];have HS:=aa hS;clear hS hf HO;have hB:=HB.out _ HS.fr;have iF:=hB.aR aD 24 rfl rfl;have fK:=hB.aR aD 25 rfl rfl;have ee:=hB.aR aD 26 rfl rfl;have cu:=hB.aR aD 27 rfl rfl;have dX:=hB.aR aD 29 rfl rfl;have eY:=hB.aR aD 31 rfl rfl;have gK:=hB.aR aD 32 rfl rfl;have lJ:=hB.aR aD 33 rfl rfl;dsimp only at dX eY gK lJ;try rw[NU.out]at cu
  have q0:=(HS.ar 0 rfl).cell 0;have q1:=(HS.ar 0 rfl).cell 1;have S9:¬w1.heap.size=w.heap.size:=HS.ne 0 1 rfl rfl (by decide);simp only[zg]at q0 q1;have cC:=hB.drew;have pg:¬b=w.heap.size:=by omega
  clear hB
 case' Y|X=>go_wp2_with fail
 case' Y=>refine dq [(1,[0,1,2,3,4,5,6,7]),(3,[8]),(0,[9]),(3,[10]),(0,[11])] [w.heap.size] (by kernel_rfl) (by kernel_rfl) ?_;simp only[zz]
 case' X=>refine dq [(1,[0,1,2,3,4,5,6,7,8,9,10,11,12]),(3,[13]),(0,[14]),(3,[15]),(0,[16])] [w.heap.size] (by kernel_rfl) (by kernel_rfl) ?_;simp only[zz]
 case' J|G=>have fD:=dg ⟨0,a4,0,0,0,0⟩;go_wp2_with(first|(refine aC HS.out 1 rfl (eF ⟨0,a4,0,0,0,0⟩) 82 _ _ rfl rfl rfl rfl rfl (by kernel_rfl) fD (λwA hA _=>?_);have HS:=aa hA;clear hA))
 case' D=>
  go_wp2_with fail;refine dq [(1,[0,1,2,3,4,5,6,7]),(3,[8]),(0,[9])] [w.heap.size] (by kernel_rfl) (by kernel_rfl) ?_;simp only[zz];repeat(first|go_big_quiet_step(fail)|quiet_step(fail)|apply ax|apply af|apply ag|apply ah)
  refine ao ?_;have HS:=aa HS.drew;have fD:=dg ⟨2,a4,1,seq,0,seq⟩;refine aC HS.out 1 rfl (eF ⟨2,a4,1,seq,0,seq⟩) 82 _ _ rfl rfl rfl rfl rfl (by kernel_rfl) fD (λwA hA _=>?_);have HS:=aa hA;clear hA;go_wp2_with fail;repeat(first|go_big_quiet_step(fail)|quiet_step(fail)|apply ax|apply af|apply ag|apply ah)
  refine aj ?_;go_wp2_with fail
 case' g1=>have fD:=dg p0;go_wp2_with(first|(refine aC HS.out 1 rfl (eF p0) 82 _ _ rfl rfl rfl rfl rfl (by kernel_rfl) fD (λwA hA _=>?_);have HS:=aa hA;clear hA))
 case' V|U|g0=>obtain⟨y0,y1⟩:=HR.out _ HS.fr;go_wp2_with fail
 case' V=>refine bW [(1,[0,1,2,3,4,5,6,7,8,9,10,11,12,13,14]),(3,[15]),(0,[16,17,18,19,20,21,22])] (by kernel_rfl) ?_;simp only[zz]
 case' U=>refine dq [(1,[0,1,2,3,4,5,6,7,8,9,10,11]),(3,[12]),(0,[13])] [w.heap.size] (by kernel_rfl) (by kernel_rfl) ?_
 case' g0=>refine dq [(1,[0,1,2,3,4,5,6,7,8,9,10,11,12,13,14,15,16,17,18,19,20,21,22,23,24,25,26,27,28,29,30,31]),(3,[32]),(0,[33])] [w.heap.size] (by kernel_rfl) (by kernel_rfl) ?_
 case' U|g0=>
  simp only[zz];repeat(first|go_big_quiet_step(fail)|quiet_step(fail)|apply ax|apply af|apply ag|apply ah)
  refine ao ?_;have HS:=aa HS.drew
 case' U=>have fD:=dg ⟨0,E1,0,0,0,0⟩;refine aC HS.out 1 rfl (eF ⟨0,E1,0,0,0,0⟩) 82 _ _ rfl rfl rfl rfl rfl (by kernel_rfl) fD (λwA hA _=>?_)
 case' g0=>have fD:=dg ⟨2,E1,cv,cc,E2,seq⟩;refine aC HS.out 1 rfl (eF ⟨2,E1,cv,cc,E2,seq⟩) 82 _ _ rfl rfl rfl rfl rfl (by kernel_rfl) fD (λwA hA _=>?_)
 case' U|g0=>
  have HS:=aa hA;clear hA;go_wp2_with fail;repeat(first|go_big_quiet_step(fail)|quiet_step(fail)|apply ax|apply af|apply ag|apply ah)
  refine aj ?_;go_wp2_with fail
 case' Y|X=>
  refine af ?_;iterate 3 (first|go_big_quiet_step (fail)|quiet_step (fail))
  refine ak 58 _ b 0 cs _ rfl rfl rfl (cm cC (by simp<;>omega)) underlying58 rfl (by rw[aD];kernel_rfl) ?_;simp only[Act.put,aZ,zs];repeat(first|go_big_quiet_step (fail)|quiet_step (fail))
  refine ax ?_;refine ao ?_;go_wp2_with fail;refine(HA.out _).kq HS.dr λw2 HS=>?_;go_wp2_with fail;repeat(first|go_big_quiet_step(fail)|quiet_step(fail)|apply ax|apply af|apply ag|apply ah)
  refine ao ?_;have fD:=dg ⟨0,av,0,0,0,0⟩;refine aC HS.out 1 rfl (eF ⟨0,av,0,0,0,0⟩) 82 _ _ rfl rfl rfl rfl rfl (by kernel_rfl) fD (λwA hA _=>?_);have HS:=aa hA;clear hA;go_wp2_with fail;repeat(first|go_big_quiet_step(fail)|quiet_step(fail)|apply ax|apply af|apply ag|apply ah)
  refine aj ?_;go_wp2_with fail;exact aV (v:= .tuple #[.agg (eF ⟨0,av,0,0,0,0⟩).toArray,.bool true]) (bj Tryz.results238 rfl rfl (HS.ar 1 rfl).range underlying82 rfl (by kernel_rfl)) rfl ⟨rfl,HS.fr⟩
 case' J|G=>exact aV (v:= .tuple #[.agg (eF ⟨0,a4,0,0,0,0⟩).toArray,.bool true]) (bj Tryz.results238 rfl rfl (HS.ar 1 rfl).range underlying82 rfl (by kernel_rfl)) rfl ⟨rfl,HS.fr⟩
 case' D=>exact aV (v:= .tuple #[.agg (eF ⟨2,a4,1,seq,0,seq⟩).toArray,.bool true]) (bj Tryz.results238 rfl rfl (HS.ar 1 rfl).range underlying82 rfl (by kernel_rfl)) rfl ⟨rfl,HS.fr⟩
 case' g1=>exact aV (v:= .tuple #[.agg (eF p0).toArray,.bool false]) (bj Tryz.results238 rfl rfl (HS.ar 1 rfl).range underlying82 rfl (by kernel_rfl)) rfl ⟨rfl,HS.fr⟩
 case' V=>
  refine af ?_;iterate 3 (first|go_big_quiet_step (fail)|quiet_step (fail))
  refine ak 58 _ b 0 cs _ rfl rfl rfl (cm cC (by simp<;>omega)) underlying58 rfl (by rw[aD];kernel_rfl) ?_;simp only[Act.put,aZ,zs];repeat(first|go_big_quiet_step (fail)|quiet_step (fail))
  refine ax ?_;refine ao ?_;go_wp2_with fail;refine(HW.out _).kq HS.dr λw2 HS=>?_;go_wp2_with fail;repeat(first|go_big_quiet_step(fail)|quiet_step(fail)|apply ax|apply af|apply ag|apply ah)
  refine aj ?_;clear y0 y1 iF fK ee cu dX eY gK lJ q0 q1 S9 cC pg;have hB:=HB.out _ HS.fr;have iF:=hB.aR aD 24 rfl rfl;have fK:=hB.aR aD 25 rfl rfl;have ee:=hB.aR aD 26 rfl rfl;have cu:=hB.aR aD 27 rfl rfl;have dX:=hB.aR aD 29 rfl rfl;have eY:=hB.aR aD 31 rfl rfl;have gK:=hB.aR aD 32 rfl rfl;have lJ:=hB.aR aD 33 rfl rfl;dsimp only at dX eY gK lJ;try rw[NU.out]at cu
  have q0:=(HS.ar 0 rfl).cell 0;have q1:=(HS.ar 0 rfl).cell 1;have S9:¬w1.heap.size=w.heap.size:=HS.ne 0 1 rfl rfl (by decide);simp only[zg]at q0 q1;have cC:=hB.drew;have pg:¬b=w.heap.size:=by omega
  clear hB;go_wp2_with fail;refine dq [(1,[0,1,2,3,4,5,6,7]),(0,[9,10,11,12]),(3,[8]),(0,[13]),(3,[14]),(0,[15])] [w.heap.size] (by kernel_rfl) (by kernel_rfl) ?_;simp only[zz];refine af ?_;iterate 3 (first|go_big_quiet_step (fail)|quiet_step (fail))
  refine ak 58 _ b 0 cs _ rfl rfl rfl (cm cC (by simp<;>omega)) underlying58 rfl (by rw[aD];kernel_rfl) ?_;simp only[Act.put,aZ,zs];repeat(first|go_big_quiet_step (fail)|quiet_step (fail))
  refine ax ?_;repeat(first|go_big_quiet_step(fail)|quiet_step(fail)|apply ax|apply af|apply ag|apply ah)
  refine ao ?_;go_wp2_with fail;refine(HA.out _).kq HS.dr λw3 HS=>?_;go_wp2_with fail;repeat(first|go_big_quiet_step(fail)|quiet_step(fail)|apply ax|apply af|apply ag|apply ah)
  refine ao ?_;have fD:=dg ⟨1,av,0,0,NS+1,0⟩;refine aC HS.out 1 rfl (eF ⟨1,av,0,0,NS+1,0⟩) 82 _ _ rfl rfl rfl rfl rfl (by kernel_rfl) fD (λwA hA _=>?_);have HS:=aa hA;clear hA;go_wp2_with fail;repeat(first|go_big_quiet_step(fail)|quiet_step(fail)|apply ax|apply af|apply ag|apply ah)
  refine aj ?_;go_wp2_with fail;exact aV (v:= .tuple #[.agg (eF ⟨1,av,0,0,NS+1,0⟩).toArray,.bool true]) (bj Tryz.results238 rfl rfl (HS.ar 1 rfl).range underlying82 rfl (by kernel_rfl)) rfl ⟨rfl,HS.fr⟩
 case' U=>exact aV (v:= .tuple #[.agg (eF ⟨0,E1,0,0,0,0⟩).toArray,.bool true]) (bj Tryz.results238 rfl rfl (HS.ar 1 rfl).range underlying82 rfl (by kernel_rfl)) rfl ⟨rfl,HS.fr⟩
 exact aV (v:= .tuple #[.agg (eF ⟨2,E1,cv,cc,E2,seq⟩).toArray,.bool true]) (bj Tryz.results238 rfl rfl (HS.ar 1 rfl).range underlying82 rfl (by kernel_rfl)) rfl ⟨rfl,HS.fr⟩
def Zf(w c aE b aw owner seq la m lc L n kn held cv cc nx hB hr hm hg):=(@zq42 w c aE b aw owner seq la m lc L n kn held cv cc nx hB hr hm hg).1
def Zg(w c aE b aw owner seq la m lc L n kn held cv cc nx hB hr hm hg):=(@zq42 w c aE b aw owner seq la m lc L n kn held cv cc nx hB hr hm hg).2.1
def Zh(w c aE b aw owner seq la m lc L n kn held cv cc nx hB hr hm hg):=(@zq42 w c aE b aw owner seq la m lc L n kn held cv cc nx hB hr hm hg).2.2.1
def Zi(w c aE b aw owner seq la m lc L n kn held cv cc nx hB hr hm hg):=(@zq42 w c aE b aw owner seq la m lc L n kn held cv cc nx hB hr hm hg).2.2.2.1
def Zj(w c aE b aw owner seq la m lc L n kn held cv cc nx hB hr hm hg):=(@zq42 w c aE b aw owner seq la m lc L n kn held cv cc nx hB hr hm hg).2.2.2.2.1
def Zk(w c aE b aw owner seq la m lc L n kn held cv cc nx hB hr hm hg):=(@zq42 w c aE b aw owner seq la m lc L n kn held cv cc nx hB hr hm hg).2.2.2.2.2.1
def Zl(w c aE b aw owner seq la m lc L n kn held cv cc nx hB hr hm hg):=(@zq42 w c aE b aw owner seq la m lc L n kn held cv cc nx hB hr hm hg).2.2.2.2.2.2.1
def Zm(w c aE b aw owner seq la m lc L n kn held cv cc nx hB hr hm hg):=(@zq42 w c aE b aw owner seq la m lc L n kn held cv cc nx hB hr hm hg).2.2.2.2.2.2.2.1
def Zn(w c aE b aw owner seq la m lc L n kn held cv cc nx hB hr hm hg):=(@zq42 w c aE b aw owner seq la m lc L n kn held cv cc nx hB hr hm hg).2.2.2.2.2.2.2.2
def Qq (w c)(aE:Ok c)(b aw owner seq v h)(hB:cB w b 221 (H.hL (ae c) aw owner seq v h))(hr:w.ownsRow 0 234 2 v h.list.length (flat iS h.list))(hg:H.Good c h):
 ba 238 #[O b] w (.tuple #[.agg (eF (H.ask c aw owner seq h).1).toArray,.bool (H.ask c aw owner seq h).2]):=by
 obtain⟨L,n,k,held,cv,cc,nx⟩:=h;obtain⟨kn,hk⟩:∃kn:Nat,k=(kn:Int):=⟨k.toNat,by have:=hg.2.2.2.2.1;dsimp only at this;omega⟩;subst hk;obtain⟨la,lc,rfl⟩:=cY hr;by_cases e0:nx=0
 ·exact Zf w c aE b aw owner seq la _ lc L n kn held cv cc nx hB hr rfl hg e0
 by_cases e1:nx=1
 ·exact Zg w c aE b aw owner seq la _ lc L n kn held cv cc nx hB hr rfl hg e1
 by_cases e2:nx=2
 ·exact Zh w c aE b aw owner seq la _ lc L n kn held cv cc nx hB hr rfl hg e2
 by_cases e3:nx=3
 ·exact Zk w c aE b aw owner seq la _ lc L n kn held cv cc nx hB hr rfl hg e3
 by_cases e4:nx=4
 ·exact Zi w c aE b aw owner seq la _ lc L n kn held cv cc nx hB hr rfl hg e4
 by_cases e5:nx=5
 ·exact Zl w c aE b aw owner seq la _ lc L n kn held cv cc nx hB hr rfl hg e5
 by_cases e6:nx=6
 ·exact Zm w c aE b aw owner seq la _ lc L n kn held cv cc nx hB hr rfl hg e6
 by_cases e7:nx=7
 ·exact Zj w c aE b aw owner seq la _ lc L n kn held cv cc nx hB hr rfl hg e7
 exact Zn w c aE b aw owner seq la _ lc L n kn held cv cc nx hB hr rfl hg ⟨e0,e1,e2,e3,e4,e5,e6,e7⟩
