/- A part of the proof. -/
import Derived.Test.YtolkmchicplaoaaGreatH07
set_option linter.all false
set_option maxHeartbeats 8000000
set_option maxRecDepth 100000
open Go.Proofs.Tryz
namespace Go.Proofs.YtolkmchicplaoaaGreat
open Go.RowKit Go.aS Go.aS.Y Go.aS.Sc
def eu (c:cA)(aw owner seq:Int)(b:Nat)(h:H.H):a_:=
 EG (λv:Value=>t_ (aJ b 221 (H.hL (ae c) aw owner seq v h)) (aU 0 234 2 v h.list.length (flat iS h.list)))
def jx {w0 w R c aw owner seq b h}(hS:Sep w0 w (eu c aw owner seq b h::R)):
 ∃la lc,Sep w0 w (aJ b 221 (H.hL (ae c) aw owner seq (.slice la h.list.length lc) h)::aU 0 234 2 (.slice la h.list.length lc) h.list.length (flat iS h.list)::R):=by
 obtain⟨v,h1⟩:=hS.rZ;have h2:=h1.vf;obtain⟨la,lc,rfl⟩:=h2.form 1 rfl;exact⟨la,lc,h2⟩
def jy {w0 w R c aw owner seq b h v n}(hn:n=h.list.length)
 (hS:Sep w0 w (aJ b 221 (H.hL (ae c) aw owner seq v h)::aU 0 234 2 v n (flat iS h.list)::R)):Sep w0 w (eu c aw owner seq b h::R):=by
 subst hn;exact Sep.qX (A:=Value) (λv=>t_ (aJ b 221 (H.hL (ae c) aw owner seq v h)) (aU 0 234 2 v h.list.length (flat iS h.list))) hS.sy
def vE (w a b x y):(binOp .eql 68 (.agg #[U a,U b]) (.agg #[U x,U y])).run Tryz.prog w= .ok (.bool (decide (a=x∧b=y))) w:=by
 have h2:=underlying68;have h4:=underlying26;have p2:Tryz.prog.stoodInHeld 68=false:=by kernel_rfl
 simp only[run_eql_struct];rw[run_equalIn_struct w 9999 68 _ _ (by unfold Program.fieldsOf;rw[h2]) p2];simp[Program.fieldsOf,h2,h4,p2,Op.eqFields,go_sem];repeat(first|rfl|(split<;>simp_all))
def lR (x)(h0:0≤x)(h1:x≤18446744073709551615):IntKind.u64.wrap x=x:=by rw[ir];omega
def xU:(Tryz.prog.info? 234).map (λi=>(i.zero,i.size,i.bytes))=some (some (.agg #[I 0,U 0]),2,16):=by kernel_rfl
def zq44:(∀{w0 w R}(b:Nat)(c:cA)(aE:Ok c)(aw owner seq:Int)(L:List (Int×Int))(n:Int)(kn:Nat)(held cv cc nx x s:Int)(ok:Bool)(hx:0≤x∧x≤18446744073709551615)(hs:0≤s)(hg:H.Good c ⟨L,n,kn,held,cv,cc,nx⟩),(∀(kT:nx=3)(hS:Sep w0 w (eu c aw owner seq b ⟨L,n,kn,held,cv,cc,nx⟩::R)),bR 239 #[O b,.agg #[U x,U s,.bool ok]] w w0 (eu c aw owner seq b (H.tell c seq x s ⟨L,n,kn,held,cv,cc,nx⟩)::R))∧(∀(kT:nx=7)(hS:Sep w0 w (eu c aw owner seq b ⟨L,n,kn,held,cv,cc,nx⟩::R)),bR 239 #[O b,.agg #[U x,U s,.bool ok]] w w0 (eu c aw owner seq b (H.tell c seq x s ⟨L,n,kn,held,cv,cc,nx⟩)::R))∧(∀(kT:nx=6)(hS:Sep w0 w (eu c aw owner seq b ⟨L,n,kn,held,cv,cc,nx⟩::R)),bR 239 #[O b,.agg #[U x,U s,.bool ok]] w w0 (eu c aw owner seq b (H.tell c seq x s ⟨L,n,kn,held,cv,cc,nx⟩)::R))∧(∀(kT:nx=0)(hS:Sep w0 w (eu c aw owner seq b ⟨L,n,kn,held,cv,cc,nx⟩::R)),bR 239 #[O b,.agg #[U x,U s,.bool ok]] w w0 (eu c aw owner seq b (H.tell c seq x s ⟨L,n,kn,held,cv,cc,nx⟩)::R))∧(∀(kT:nx=1)(hS:Sep w0 w (eu c aw owner seq b ⟨L,n,kn,held,cv,cc,nx⟩::R)),bR 239 #[O b,.agg #[U x,U s,.bool ok]] w w0 (eu c aw owner seq b (H.tell c seq x s ⟨L,n,kn,held,cv,cc,nx⟩)::R))∧(∀(kT:nx=2)(hS:Sep w0 w (eu c aw owner seq b ⟨L,n,kn,held,cv,cc,nx⟩::R)),bR 239 #[O b,.agg #[U x,U s,.bool ok]] w w0 (eu c aw owner seq b (H.tell c seq x s ⟨L,n,kn,held,cv,cc,nx⟩)::R))∧(∀(kT:nx=4)(hS:Sep w0 w (eu c aw owner seq b ⟨L,n,kn,held,cv,cc,nx⟩::R)),bR 239 #[O b,.agg #[U x,U s,.bool ok]] w w0 (eu c aw owner seq b (H.tell c seq x s ⟨L,n,kn,held,cv,cc,nx⟩)::R))∧(∀(kT:nx=5)(hS:Sep w0 w (eu c aw owner seq b ⟨L,n,kn,held,cv,cc,nx⟩::R)),bR 239 #[O b,.agg #[U x,U s,.bool ok]] w w0 (eu c aw owner seq b (H.tell c seq x s ⟨L,n,kn,held,cv,cc,nx⟩)::R))∧(∀(kT:nx=8)(hS:Sep w0 w (eu c aw owner seq b ⟨L,n,kn,held,cv,cc,nx⟩::R)),bR 239 #[O b,.agg #[U x,U s,.bool ok]] w w0 (eu c aw owner seq b (H.tell c seq x s ⟨L,n,kn,held,cv,cc,nx⟩)::R))):=by
 intro w0 w R b c aE aw owner seq L n kn held cv cc nx x s ok hx hs hg;refine⟨?Y,?X,?J,?G,?D,?V,?U,?g0,?g1⟩
 case' g0=>intro kT hS;subst kT;have fu:=hg.2.2.2.2.2 (by simp);dsimp only at fu;obtain⟨h',hh'⟩:∃h',h'=H.tell c seq x s ⟨L,n,kn,held,cv,cc,5⟩:=⟨_,rfl⟩;rw[←hh'];have NV:=H.pF c ⟨L,n,kn,held,x,s,6⟩ (kn+1)
 case' g0=>by_cases Zo:seq≤s;refine ?g2;rotate_left;refine ?g3
 case' Y|X|g1|J|D|U|G|V=>intro kT hS;subst kT
 case' Y=>have lK:H.tell c seq x s ⟨L,n,kn,held,cv,cc,3⟩=⟨L,n,kn,-1,cv,cc,4⟩:=by simp[H.tell]
 case' X=>have lK:H.tell c seq x s ⟨L,n,kn,held,cv,cc,7⟩=⟨L,n,kn,held,cv,cc,8⟩:=by simp[H.tell]
 case' g1=>have lK:H.tell c seq x s ⟨L,n,kn,held,cv,cc,8⟩=⟨L,n,kn,held,cv,cc,8⟩:=by simp[H.tell]
 case' J=>have fu:=hg.2.2.2.2.2 (by simp);dsimp only at fu;have lK:H.tell c seq x s ⟨L,n,kn,held,cv,cc,6⟩=H.entry c ⟨L,n,kn,held,cv,cc,6⟩ (kn+1):=by simp[H.tell]
 case' Y|X|g1|J=>rw[lK];clear lK
 case' D=>
  have lK:H.tell c seq x s ⟨L,n,kn,held,cv,cc,1⟩=H.read ⟨L++[(H.placeOf s,x)],n,kn,held,cv,cc,1⟩:=by simp[H.tell]
  rw[lK];clear lK;obtain⟨ti0,iJ,jA,jB,iR⟩:=eA xU
 case' U=>
  have fu:=hg.2.2.2.2.2 (by simp);dsimp only at fu;have kV:kn<L.length:=by omega
  have yD:∀n held cv cc nx,H.nth ⟨L,n,kn,held,cv,cc,nx⟩ (kn:Int).toNat=L[kn]'kV:=λ_ _ _ _ _=>by
   unfold H.nth;simp[cO,cy kV]
  have lK:H.tell c seq x s ⟨L,n,kn,held,cv,cc,4⟩=H.zw (decide (x=1∧s=seq)) ⟨L,n,kn,(jt c (L[kn]'kV).1).2.1,cv,cc,5⟩:=by simp[H.tell,H.nth,cO,cy kV]
  rw[lK];clear lK;have rG:=aa (λp=>i_ aE p);unfold lC at rG;generalize his:decide (x=1∧s=seq)=is at*;have HIS:=aa his;clear his
 case' G=>
  have hcb:=iI aE;have lK:H.tell c seq x s ⟨L,n,kn,held,cv,cc,0⟩=H.read ⟨L,min x (cap c),kn,held,cv,cc,0⟩:=by simp[H.tell]
  rw[lK];clear lK;have S_:=aa (λw=>uY w c aE)
 case' V=>
  have NV:=H.pF c ⟨L,n,kn,held,cv,cc,2⟩ 0;have lK:H.tell c seq x s ⟨L,n,kn,held,cv,cc,2⟩=H.zw (decide (x=1∧s=seq)) (H.entry c ⟨L,n,kn,held,cv,cc,2⟩ 0):=by simp[H.tell]
  rw[lK];clear lK;have huk:=H.Ck (decide (x=1∧s=seq)) (H.entry c ⟨L,n,kn,held,cv,cc,2⟩ 0);generalize his:decide (x=1∧s=seq)=is at*;have HIS:=aa his;clear his
 case' g2=>
  have lK:h'=H.entry c ⟨L,n,kn,held,x,s,6⟩ (kn+1):=by rw[hh'];simp[H.tell,Zo]
  have dss:decide (s≥seq)=true:=by simpa using Zo
  rw[lK];clear hh' lK Zo
 case' g3=>
  have lK:h'=⟨L,n,kn,held,x,s,6⟩:=by rw[hh'];simp[H.tell,Zo]
  have dss:decide (s≥seq)=false:=by simpa using Zo
  rw[lK];clear hh' lK Zo NV
 case' Y|X|g1|J|D|U|G|V|g2|g3=>
  obtain⟨la,lc,hS⟩:=jx hS;dsimp only at hS;have PC:((L.length:Nat):Int)≤100000:=by have:=hg.2.2.2.1;dsimp only at this;omega
  have dQ:=aa (λw' (R':List a_) (v:Value) (n':Nat) (h':H.H) (hn:n'=h'.list.length) (hS:Sep w0 w' (aJ b 221 (H.hL (ae c) aw owner seq v h')::aU 0 234 2 v n' (flat iS h'.list)::R'))=>jy (c:=c) hn hS)
 case' Y=>have HO:=aa (fun(w':World) (hB:cB w' b 221 (H.hL (ae c) aw owner seq (.slice la L.length lc) ⟨L,n,kn,held,cv,cc,3⟩))=>eL w' c aE b aw owner seq (.slice la L.length lc) ⟨L,n,kn,held,cv,cc,3⟩ hB)
 case' X=>have HO:=aa (fun(w':World) (hB:cB w' b 221 (H.hL (ae c) aw owner seq (.slice la L.length lc) ⟨L,n,kn,held,cv,cc,7⟩))=>eL w' c aE b aw owner seq (.slice la L.length lc) ⟨L,n,kn,held,cv,cc,7⟩ hB)
 case' g1=>have HO:=aa (fun(w':World) (hB:cB w' b 221 (H.hL (ae c) aw owner seq (.slice la L.length lc) ⟨L,n,kn,held,cv,cc,8⟩))=>eL w' c aE b aw owner seq (.slice la L.length lc) ⟨L,n,kn,held,cv,cc,8⟩ hB)
 case' J=>have HO:=aa (fun(w':World) (hB:cB w' b 221 (H.hL (ae c) aw owner seq (.slice la L.length lc) ⟨L,n,kn,held,cv,cc,6⟩))=>eL w' c aE b aw owner seq (.slice la L.length lc) ⟨L,n,kn,held,cv,cc,6⟩ hB)
 case' D=>have HO:=aa (fun(w':World) (hB:cB w' b 221 (H.hL (ae c) aw owner seq (.slice la L.length lc) ⟨L,n,kn,held,cv,cc,1⟩))=>eL w' c aE b aw owner seq (.slice la L.length lc) ⟨L,n,kn,held,cv,cc,1⟩ hB)
 case' U=>have HO:=aa (fun(w':World) (hB:cB w' b 221 (H.hL (ae c) aw owner seq (.slice la L.length lc) ⟨L,n,kn,held,cv,cc,4⟩))=>eL w' c aE b aw owner seq (.slice la L.length lc) ⟨L,n,kn,held,cv,cc,4⟩ hB)
 case' G=>have HO:=aa (fun(w':World) (hB:cB w' b 221 (H.hL (ae c) aw owner seq (.slice la L.length lc) ⟨L,n,kn,held,cv,cc,0⟩))=>eL w' c aE b aw owner seq (.slice la L.length lc) ⟨L,n,kn,held,cv,cc,0⟩ hB)
 case' V=>have HO:=aa (fun(w':World) (hB:cB w' b 221 (H.hL (ae c) aw owner seq (.slice la L.length lc) ⟨L,n,kn,held,cv,cc,2⟩))=>eL w' c aE b aw owner seq (.slice la L.length lc) ⟨L,n,kn,held,cv,cc,2⟩ hB)
 case' g2|g3=>have HO:=aa (fun(w':World) (hB:cB w' b 221 (H.hL (ae c) aw owner seq (.slice la L.length lc) ⟨L,n,kn,held,cv,cc,5⟩))=>eL w' c aE b aw owner seq (.slice la L.length lc) ⟨L,n,kn,held,cv,cc,5⟩ hB)
 case' Y|X|g1|J|D|U|G|V|g2|g3=>have aD:(ae c).length=24:=rfl;generalize at_ c 4 owner 0=a4 at HO;have HS:=aa (hS.new 84 [U x,U s,.bool ok]);clear hS
 case' Y=>generalize ox:eu c aw owner seq b ⟨L,n,kn,-1,cv,cc,4⟩=TH
 case' X|g1=>generalize ox:eu c aw owner seq b ⟨L,n,kn,held,cv,cc,8⟩=TH
 case' Y|X|g1=>have Dn:=aa (dQ.out);clear dQ
 case' J=>have NV:=H.pF c ⟨L,n,kn,held,cv,cc,6⟩ (kn+1);have HE:=aa (λw' (R':List a_) hS=>rF (w0:=w0) (w:=w') (R:=R') b c aE aw owner seq la L.length lc ⟨L,n,kn,held,cv,cc,6⟩ (kn+1) rfl (by omega) (by omega) hS);generalize H.entry c ⟨L,n,kn,held,cv,cc,6⟩ (kn+1)=he at*;generalize ox:eu c aw owner seq b he=TH
 case' D=>have Xf:=aa (λw=>K6 w s hs);generalize H.placeOf s=ps at*;have nX:=aa (λw' (R':List a_) (la:Option Addr) (m lc:Nat) (hm:m=(L++[(ps,x)]).length) hS=>BX (w0:=w0) (w:=w') (R:=R') b (ae c) aD aw owner seq la m lc ⟨L++[(ps,x)],n,kn,held,cv,cc,1⟩ hm hS);have nR:(H.read ⟨L++[(ps,x)],n,kn,held,cv,cc,1⟩).list=L++[(ps,x)]:=rfl;generalize H.read ⟨L++[(ps,x)],n,kn,held,cv,cc,1⟩=hr at*;generalize ox:eu c aw owner seq b hr=TH
 case' U=>have HU:=aa (λw' (R':List a_) h' is hS=>xN (w0:=w0) (w:=w') (R:=R') b (ae c) aD aw owner seq (.slice la L.length lc) h' is hS);have hLk:Hid (L[kn]'kV=L[kn]'kV):=rfl;have AY:=aa (fun(w':World) (g lc:Nat) (hr:w'.ownsRow 0 234 2 (.slice (some ⟨g,0,none⟩) L.length lc) L.length (flat iS L))=>aH hr (kn*2) _ (by have:=cI gy L kn kV 0 (by decide);simpa[iS]using this));generalize L[kn]'kV=E_ at*;obtain⟨E1,E2⟩:=E_;dsimp only at AY;have HW:=aa (rG.out E1);generalize jt c E1=wa at*;obtain⟨wa1,NS,wa3⟩:=wa;dsimp only at HW;dsimp only;unfold aY at HW;have huk:=H.Ck is ⟨L,n,kn,NS,cv,cc,5⟩;generalize ox:eu c aw owner seq b (H.zw is ⟨L,n,kn,NS,cv,cc,5⟩)=TH
 case' G=>
  generalize cap c=cp at*;have G9:(if cp<x then cp else x)=min x cp:=by split<;>omega
  have Xe:0≤min x cp∧min x cp≤cp:=by omega
  generalize min x cp=mn at*;have nX:=aa (λw' (R':List a_) hS=>BX (w0:=w0) (w:=w') (R:=R') b (ae c) aD aw owner seq la L.length lc ⟨L,mn,kn,held,cv,cc,0⟩ rfl hS);have nR:(H.read ⟨L,mn,kn,held,cv,cc,0⟩).list=L:=rfl;generalize H.read ⟨L,mn,kn,held,cv,cc,0⟩=hr at*;generalize ox:eu c aw owner seq b hr=TH;unfold aY at S_
 case' V=>have HE:=aa (λw' (R':List a_) hS=>rF (w0:=w0) (w:=w') (R:=R') b c aE aw owner seq la L.length lc ⟨L,n,kn,held,cv,cc,2⟩ 0 rfl (by omega) (by omega) hS);have HU:=aa (λw' (R':List a_) h' is hS=>xN (w0:=w0) (w:=w') (R:=R') b (ae c) aD aw owner seq (.slice la L.length lc) h' is hS);generalize H.entry c ⟨L,n,kn,held,cv,cc,2⟩ 0=he at*;generalize ox:eu c aw owner seq b (H.zw is he)=TH
 case' g2=>have HE:=aa (λw' (R':List a_) hS=>rF (w0:=w0) (w:=w') (R:=R') b c aE aw owner seq la L.length lc ⟨L,n,kn,held,x,s,6⟩ (kn+1) rfl (by omega) (by omega) hS);generalize H.entry c ⟨L,n,kn,held,x,s,6⟩ (kn+1)=he at*
 case' g3=>generalize hhe:(⟨L,n,kn,held,x,s,6⟩:H.H)=he
 case' g2|g3=>generalize ox:eu c aw owner seq b he=TH
 case' Y|X|g1|J|D|U|G|V|g2|g3=>generalize j8:ae c=cs at*;generalize w_:L.length=m at*;delta bR;go_in;go_wp2_with fail;refine(HO.out _ (HS.ar 1 rfl)).kk λw1 hf=>?_;have hS:=(HS.fr0 hf).new 68 [U 1,U seq];have z0:=(hS.ar 1 rfl).cell 0;have z1:=(hS.ar 1 rfl).cell 1;simp only[zg]at z0 z1;have hS:=hS.new 68 [U x,U s];simp only[cG]at hS;have HS:=aa hS;clear hS hf HO;have ee:=(HS.ar 3 rfl).aR aD 26 rfl rfl;have cu:=(HS.ar 3 rfl).aR aD 27 rfl rfl;have dz:=(HS.ar 3 rfl).aR aD 28 rfl rfl;have dX:=(HS.ar 3 rfl).aR aD 29 rfl rfl;have d_:=(HS.ar 3 rfl).aR aD 30 rfl rfl;have lJ:=(HS.ar 3 rfl).aR aD 33 rfl rfl
 case' Y|X|g1|J=>have f28:=(HS.ar 3 rfl).az
 case' D|U=>have f28:=(HS.ar 3 rfl).az 28;have f30:=(HS.ar 3 rfl).az 30;have f33:=(HS.ar 3 rfl).az 33;have f27:=(HS.ar 3 rfl).az 27
 case' G|V=>have f28:=(HS.ar 3 rfl).az
 case' g2|g3=>have f28:=(HS.ar 3 rfl).az
 case' Y|X|g1|J|D|U|G|V|g2|g3=>
  try dsimp only at ee cu dz dX d_ lJ
  have c0:=(HS.ar 0 rfl).cell 0;have c1:=(HS.ar 0 rfl).cell 1;simp only[zg]at c0 c1
 case' Y=>have du:=(HS.set 3 rfl 30 (I (-1))).set 3 rfl 33 (I 4);simp only[zs,H.JE aD,H.km aD]at du;have de:=aa du;clear du
 case' X=>have du:=(HS.set 3 rfl 33 (I 8));simp only[zs,H.km aD]at du;have de:=aa du;clear du
 case' J=>go_wp2_with fail;refine(HE.out _ _ HS.tail.tail.tail).kh λw3 eH=>?_
 case' Y|X|g1|J=>go_wp2;go_end0;refine⟨rfl,?_⟩;rw[←ox]
 case' D=>
  go_wp2_with fail;refine bW [(1,[1,2,3,4,5,6,8,9]),(0,[0]),(2,[7]),(0,[10]),(2,[11]),(3,[12]),(0,[13,14]),(3,[15])] (by kernel_rfl) ?_;simp only[zz];repeat(first|go_big_quiet_step(fail)|apply ax|apply af|apply ag|apply ah)
  refine aA ?_;go_wp2_with fail;refine(Xf.out _).kf HS.dr λw2 HF HS=>?_;go_wp2;refine⟨⟨⟨_,(by exact HF.out)⟩,rfl⟩,?_⟩;repeat(first|go_big_quiet_step(fail)|apply ax|apply af|apply ag|apply ah)
  refine aA ?_;go_wp2_with fail;have HS:=aa (HS.new 234 [I ps,U x]);have HF:=aa (HF.alloc (.cells #[I ps,U x] 234));refine⟨⟨⟨_,(by exact HF.out)⟩,rfl⟩,?_⟩;repeat(first|go_big_quiet_step(fail)|apply ax|apply af|apply ag|apply ah)
  refine ao ?_;go_wp2_with(at_builtin;go_must (refine ch _ rfl _ _ 203 rfl 0 234 ti0 _ 2 16 underlying203 iJ jA jB iR rfl (by decide) (.slice la m lc) m (flat iS L) rfl (HS.row 5 rfl) (iS (ps,x)) _ _ rfl (HS.ar 0 rfl) rfl (C5 _) (by unfold maxLen;omega) (by omega) (cE _) ?_));intro g2 c2' w4 dy iZ jj kM aq6;have h3:=HS.grown 5 rfl dy iZ (λq e=>by
   rcases jj with h1|h1
   ·exact .inl (h1.trans e)
   ·right;simp only[Value.ownBlock,eX]at e;rw[←e,h1];simp<;>omega)
  simp only[zs]at h3;rw[show flat iS L++iS (ps,x)=flat iS (L++[(ps,x)]) by rw[nh,qf]]at h3;have HS:=aa h3.tail;clear h3 dy iZ jj kM aq6;go_wp2_with fail;repeat(first|go_big_quiet_step(fail)|apply ax|apply af|apply ag|apply ah)
  refine ao ?_;clear c0 c1 z0 z1;clear ee cu dz dX d_ lJ f28 f30 f33 f27;obtain⟨cu,f27⟩:=(HS.ar 3 rfl).fe aD 27 rfl rfl;have du:=HS.set 3 rfl 27 (.slice (some ⟨g2,0,none⟩) (m+1) c2');simp only[zs,H.T0 aD]at du;have de:=aa du;clear du;go_wp2;refine aj ?_;go_wp2_with fail;refine(nX.out _ _ _ _ _ (by simp[w_]) de.tail.tail.tail).kh λw5 eH=>?_;go_wp2;go_end0;refine⟨rfl,?_⟩;rw[←ox]
 case' U=>
  have cC:=(HS.ar 3 rfl).drew;have qz:=HS.row 4 rfl;obtain⟨g0,lV⟩:∃g,la=some ⟨g,0,none⟩:=by
   rcases bg qz with⟨_,e⟩|⟨g,cap,e,_⟩
   ·omega
   ·simp only[dk]at e;exact⟨g,e.1⟩
  subst lV;have y0:=AY.out _ _ _ qz;clear qz AY;go_wp2_with fail;refine bW [(1,[1,2,3,4,5,6,7,8,9,10,11,12,13,14,15]),(0,[0]),(3,[16]),(0,[17,18,19,21,22,20]),(3,[23])] (by kernel_rfl) ?_;simp only[zz]
 case' G=>have cC:=(HS.ar 3 rfl).drew;have hcw:IntKind.u64.wrap cp=cp:=lR cp (by omega) (by omega);have hmw:IntKind.i64.wrap mn=mn:=bf _ (by omega) (by omega);go_wp2_with fail;refine bW [(1,[0,1,2,3,4,5,6]),(2,[7]),(0,[8,9,10,11,12]),(3,[13])] (by kernel_rfl) ?_;simp only[zz]
 case' V=>
  go_wp2_with fail;have hS:=(HS.pull 4 rfl).pull 4 rfl;simp only[ze]at hS;refine(HE.out _ _ hS).kh λw3 eH=>?_;clear hS HS;have Ta:∀w,(binOp .eql 68 (.agg #[U x,U s]) (.agg #[U 1,U seq])).run Tryz.prog w= .ok (.bool is) w:=λw=>by rw[←HIS.out];exact vE w x s 1 seq
  go_wp2_with(first|(refine ay 68 _ rfl rfl _ 0 rfl [U x,U s] _ (eH.ar 2 rfl).range underlying68 rfl (by kernel_rfl) ?_)|(refine ay 68 _ rfl rfl _ 0 rfl [U 1,U seq] _ (eH.ar 3 rfl).range underlying68 rfl (by kernel_rfl) ?_));refine(HU.out _ _ _ _ eH.out).kh λw4 Qr=>?_;go_wp2;go_end0;refine⟨rfl,?_⟩;rw[←ox];have hS:=(((Qr.pull 2 rfl).tail.pull 2 rfl).tail.pull 2 rfl).tail
 case' g2|g3=>
  have eY:=(HS.ar 3 rfl).aR aD 31 rfl rfl;have gK:=(HS.ar 3 rfl).aR aD 32 rfl rfl;have f31:=(HS.ar 3 rfl).az;have du:=((HS.set 3 rfl 31 (U x)).set 3 rfl 32 (U s)).set 3 rfl 33 (I 6);simp only[zs,H.WN aD,H.WO aD,H.km aD]at du;have de:=aa du;clear du;go_wp2_with fail;clear eY gK f31;clear c0 c1 z0 z1;clear ee cu dz dX d_ lJ f28;have c1:=(de.ar 0 rfl).cell 1;simp only[zg]at c1;have ee:=(de.ar 3 rfl).aR aD 26 rfl rfl;generalize World.setCell _ _ _=w5 at de c1 ee⊢;refine bW [(1,[0,1,2,3,4,5,6])] (by kernel_rfl) ?_;simp only[zz];repeat(first|go_big_quiet_step(fail)|apply ax|apply af|apply ag|apply ah)
  refine aj ?_;have eH:=aa de.drew;have dX:=(eH.ar 3 rfl).aR aD 29 rfl rfl;dsimp only at dX
 case' g2=>go_wp2_with fail;refine(HE.out _ _ eH.tail.tail.tail).kh λw3 Qr=>?_;go_wp2;go_end0;refine⟨rfl,?_⟩;rw[←ox]
 case' g3=>go_wp2;go_end0;refine⟨rfl,?_⟩;rw[←ox,←hhe]
 case' Y=>exact Dn.out _ _ _ _ ⟨L,n,kn,-1,cv,cc,4⟩ w_.symm de.tail.tail.tail
 case' X=>exact Dn.out _ _ _ _ ⟨L,n,kn,held,cv,cc,8⟩ w_.symm de.tail.tail.tail
 case' g1=>exact Dn.out _ _ _ _ ⟨L,n,kn,held,cv,cc,8⟩ w_.symm HS.tail.tail.tail
 case' J=>
  refine dQ.out _ _ (.slice la m lc) m he ?_ ?_
  ·rw[NV.1];exact w_.symm
  ·rw[NV.1];exact eH.out
 case' D=>
  refine dQ.out _ _ (.slice (some ⟨g2,0,none⟩) (m+1) c2') (m+1) hr ?_ ?_
  ·rw[nR];simp[w_]
  ·rw[nR];exact eH.out
 case' U=>
  refine af ?_;iterate 3 (first|go_big_quiet_step (fail)|quiet_step (fail))
  refine ak 58 _ b 0 cs _ rfl rfl rfl (cm cC (by simp<;>omega)) underlying58 rfl (by rw[aD];kernel_rfl) ?_;simp only[Act.put,aZ,zs];repeat go_big_quiet_step(fail)
  refine ax ?_;repeat(first|go_big_quiet_step(fail)|apply ax|apply af|apply ag|apply ah)
  refine ao ?_;go_wp2_with fail;refine(HW.out _).kq HS.dr λw2 HS=>?_;go_wp2_with fail;repeat(first|go_big_quiet_step(fail)|apply ax|apply af|apply ag|apply ah)
  clear c0 c1 z0 z1;clear ee cu dz dX d_ lJ f28 f30 f33 f27;have d_:=(HS.ar 3 rfl).aR aD 30 rfl rfl;have lJ:=(HS.ar 3 rfl).aR aD 33 rfl rfl;have f30:=(HS.ar 3 rfl).az 30;have f33:=(HS.ar 3 rfl).az 33;have du:=(HS.set 3 rfl 30 (I NS)).set 3 rfl 33 (I 5);simp only[zs,H.JE aD,H.km aD]at du;have de:=aa du;clear du;refine ao ?_;go_wp2;refine aj ?_;have Dw:=(de.pull 4 rfl).pull 4 rfl;simp only[ze]at Dw;have eH:=aa Dw;clear Dw;have Ta:∀w,(binOp .eql 68 (.agg #[U x,U s]) (.agg #[U 1,U seq])).run Tryz.prog w= .ok (.bool is) w:=λw=>by rw[←HIS.out];exact vE w x s 1 seq
  go_wp2_with(first|(refine ay 68 _ rfl rfl _ 0 rfl [U x,U s] _ (eH.ar 2 rfl).range underlying68 rfl (by kernel_rfl) ?_)|(refine ay 68 _ rfl rfl _ 0 rfl [U 1,U seq] _ (eH.ar 3 rfl).range underlying68 rfl (by kernel_rfl) ?_));refine(HU.out _ _ _ _ eH.out).kh λw4 Qr=>?_;go_wp2;go_end0;refine⟨rfl,?_⟩;rw[←ox];have hS:=(((Qr.pull 2 rfl).tail.pull 2 rfl).tail.pull 2 rfl).tail;refine dQ.out _ _ (.slice (some ⟨g0,0,none⟩) m lc) m (H.zw is ⟨L,n,kn,NS,cv,cc,5⟩) ?_ ?_
  ·rw[huk.1];exact w_.symm
  ·rw[huk.1];exact hS
 case' G=>
  refine af ?_;iterate 6 (first|go_big_quiet_step (fail)|quiet_step (fail))
  refine ak 58 _ b 0 cs _ rfl rfl rfl (cm cC (by simp<;>omega)) underlying58 rfl (by rw[aD];kernel_rfl) ?_;simp only[Act.put,aZ,zs];repeat go_big_quiet_step(fail)
  refine ax ?_;refine aA ?_;go_wp2_with fail;refine(S_.out _).kf HS.dr λw2 HF HS=>?_;go_wp2;refine⟨⟨⟨_,(by exact HF.out)⟩,rfl⟩,?_⟩;repeat(first|go_big_quiet_step(fail)|apply ax|apply af|apply ag|apply ah)
  clear c0 c1 z0 z1;clear ee cu dz dX d_ lJ f28;have ee:=(HS.ar 3 rfl).aR aD 26 rfl rfl;have cu:=(HS.ar 3 rfl).aR aD 27 rfl rfl;have dz:=(HS.ar 3 rfl).aR aD 28 rfl rfl;have dX:=(HS.ar 3 rfl).aR aD 29 rfl rfl;have d_:=(HS.ar 3 rfl).aR aD 30 rfl rfl;have lJ:=(HS.ar 3 rfl).aR aD 33 rfl rfl;have f28:=(HS.ar 3 rfl).az;try dsimp only at ee cu dz dX d_ lJ
  refine ao ?_;go_wp2;refine aj ?_;have du:=(HS.set 3 rfl 28 (I mn));simp only[zs,H.an8 aD]at du;have de:=aa du;clear du;go_wp2_with fail;refine(nX.out _ _ de.tail.tail.tail).kh λw3 eH=>?_;go_wp2;go_end0;refine⟨rfl,?_⟩;rw[←ox];refine dQ.out _ _ (.slice la m lc) m hr ?_ ?_
  ·rw[nR];exact w_.symm
  ·rw[nR];exact eH.out
 case' V=>
  refine dQ.out _ _ (.slice la m lc) m (H.zw is he) ?_ ?_
  ·rw[huk.1,NV.1];exact w_.symm
  ·rw[huk.1,NV.1];exact hS
 case' g2=>
  refine dQ.out _ _ (.slice la m lc) m he ?_ ?_
  ·rw[NV.1];exact w_.symm
  ·rw[NV.1];exact Qr.out
 exact dQ.out _ _ (.slice la m lc) m ⟨L,n,kn,held,x,s,6⟩ w_.symm eH.tail.tail.tail
def U6{w0 w R}(b c aE aw owner seq L n kn held cv cc nx x s ok hx hs hg):=(@zq44 w0 w R b c aE aw owner seq L n kn held cv cc nx x s ok hx hs hg).1
def U7{w0 w R}(b c aE aw owner seq L n kn held cv cc nx x s ok hx hs hg):=(@zq44 w0 w R b c aE aw owner seq L n kn held cv cc nx x s ok hx hs hg).2.1
def U8{w0 w R}(b c aE aw owner seq L n kn held cv cc nx x s ok hx hs hg):=(@zq44 w0 w R b c aE aw owner seq L n kn held cv cc nx x s ok hx hs hg).2.2.1
def U9{w0 w R}(b c aE aw owner seq L n kn held cv cc nx x s ok hx hs hg):=(@zq44 w0 w R b c aE aw owner seq L n kn held cv cc nx x s ok hx hs hg).2.2.2.1
def Va{w0 w R}(b c aE aw owner seq L n kn held cv cc nx x s ok hx hs hg):=(@zq44 w0 w R b c aE aw owner seq L n kn held cv cc nx x s ok hx hs hg).2.2.2.2.1
def Vb{w0 w R}(b c aE aw owner seq L n kn held cv cc nx x s ok hx hs hg):=(@zq44 w0 w R b c aE aw owner seq L n kn held cv cc nx x s ok hx hs hg).2.2.2.2.2.1
def Vc{w0 w R}(b c aE aw owner seq L n kn held cv cc nx x s ok hx hs hg):=(@zq44 w0 w R b c aE aw owner seq L n kn held cv cc nx x s ok hx hs hg).2.2.2.2.2.2.1
def Vd{w0 w R}(b c aE aw owner seq L n kn held cv cc nx x s ok hx hs hg):=(@zq44 w0 w R b c aE aw owner seq L n kn held cv cc nx x s ok hx hs hg).2.2.2.2.2.2.2.1
def Ve{w0 w R}(b c aE aw owner seq L n kn held cv cc nx x s ok hx hs hg):=(@zq44 w0 w R b c aE aw owner seq L n kn held cv cc nx x s ok hx hs hg).2.2.2.2.2.2.2.2
end Go.Proofs.YtolkmchicplaoaaGreat
namespace Go.aS
open Go.RowKit
def Mr {T:Type}{en:T→List Value}{k w a m lc L}(hL:dB en k w (.slice a m lc) L)(hl:∀x,(en x).length=k)(hk:0<k):
 L=[]∨∃x,a=some x∧∀j u,(flat en L)[j]?=some u→w.cell? (x.add j)=some u:=by
 obtain⟨a',tW,e,hc,h⟩:=hL;rcases h with h|⟨x,h1,h2,h3⟩
 ·exact .inl h
 ·right;simp only[dk]at e;refine⟨x,e.1.trans h1,λj u hu=>?_⟩;have hj:=(dE.1 hu).1;rw[ck hl]at hj;have hi:j/k<L.length:=Nat.div_lt_of_lt_mul (by rw[px];exact hj);have hr:j%k<k:=py _ hk;have he:j/k*k+j%k=j:=by rw[px];exact Nat.div_add_mod j k
  have:=cI hl L (j/k) hi (j%k) hr;rw[he]at this;have h4:=h3 (j/k) hi (j%k) u (by rw[←this];exact hu);rw[he]at h4;exact h4
def qD {P w0 w Ts}(hS:Sep w0 w Ts){ops:Array Oper}{rest}{o:Oper}{a}{Q:Exit→Act→World→Prop}(mV:o.guard=none)(s x:Operand)(t:TypeId)
 (ho:o.op= .call {callee:= .builtin .append,args:=#[s,x],argTypes:=#[t,t]})
 (e:TypeId) (i:TypeInfo) (z) (size bytes) (ht:P.underlying t=some (.slice e)) (hi:P.info? e=some i) (hz:i.zero=some z)
 (oL:i.size=size) (KA:i.bytes=bytes) (N_:z.cells.size=size) (aD:0<size) (hs:a.eval s= .slice none 0 0)
 (ad) (m c) (news) (hx:a.eval x= .slice ad m c) (hc:(ad=none∧m=0∧c=0∧news=[])∨∃q,ad=some q∧∀j u,news[j]?=some u→w.cell? (q.add j)=some u) (hl:news.length=m*size) (h1:∀u∈news,u.oneCell'=true)
 (Oa:m≤maxLen) (mF:m*bytes≤140737488355328)
 (h:∀v' w',Sep w0 w' (aU 0 e size v' m news::Ts)→Fr [] w w'→wpList P ops Q rest (a.put o.dst v') w'):wpList P ops Q (o::rest) a w:=by
 rcases hc with⟨rfl,rfl,rfl,rfl⟩|⟨q,rfl,hq⟩
 ·exact wpList_append_own_none mV s x t ho 0 e i size ht hi _ 0 [] hs (jP w 0 e size) hx (h _ _ (hS.G_ 0 e size) (Fr.refl _ _))
 ·refine wpList_plain mV λK hK=>?_;obtain⟨v',w',hr,h2,h3,h4,h5⟩:=mU (P:=P) w 0 t o.type e i z size bytes ht hi hz oL KA N_ aD _ 0 [] (jP w 0 e size) q m c news hl hq h1 (by omega) (by rw[jF];exact mF) (cE _);unfold Oper.wp execOp;simp only[ho,resolve,invoke,builtin,lh,qQ,oD,List.map_toArray,zm,hs,hx,hr];have hf:Fr [] w w':=(Fr.refl [] w).grown h3 (λk e=>by simp[Value.ownBlock]at e);rw[jF,y_]at h2;refine hK _ _ (h v' w' (hS.push hf (fp:=v'.ownBlock.toList) ⟨rfl,h2⟩ λk hk=>?_) hf);rcases h5 with h5|h5
  ·rw[h5]at hk;simp[Value.ownBlock]at hk
  ·rw[h5]at hk;simp at hk;omega
end Go.aS
namespace Go.Proofs.YtolkmchicplaoaaGreat
open Go.ChangeShapes Go.WideShapes Go.RowKit Go.Deep Go.aS Go.aS.Y Go.aS.Sc
def ai3 (a:Option Addr)(m lc:Nat):Prop:=a=none→m=0∧lc=0
def Qs (w c)(aE:Ok c)(aw seq a m lc L)(w_:m=L.length)(hL:dB iS 2 w (.slice a m lc) L)(Ip:ai3 a m lc)(hm:m≤100000):
 Calls Tryz.prog 112 #[aY c,I aw,U seq,.slice a m lc] w λe w'=>∃b,e= .returned (O b)∧Sep w w' [eu c aw aw seq b (H.entry c ⟨L,0,0,-1,0,0,0⟩ 0)]:=by
 have NV:=H.pF c ⟨L,0,0,-1,0,0,0⟩ 0;have HE:=aa (fun(w0 w':World) (R':List a_) (b:Nat) (la:Option Addr) (lc:Nat) hS=>rF (w0:=w0) (w:=w') (R:=R') b c aE aw aw seq la m lc ⟨L,0,0,-1,0,0,0⟩ 0 w_ hm (cE _) hS);have dQ:=aa (fun(w0 w':World) (R':List a_) (b:Nat) (v:Value) (n':Nat) (h':H.H) (hn:n'=h'.list.length) (hS:Sep w0 w' (aJ b 221 (H.hL (ae c) aw aw seq v h')::aU 0 234 2 v n' (flat iS h'.list)::R'))=>jy (c:=c) hn hS);obtain⟨i0,iJ,jA,jB,iR⟩:=eA xU;have HC:Hid (∀w',Fr [] w w'→(a=none∧m=0∧lc=0∧flat iS L=[])∨∃q,a=some q∧∀j u,(flat iS L)[j]?=some u→w'.cell? (q.add j)=some u):=λw' f=>by
  rcases Mr (hL.fr f) gy (by decide)with h|⟨q,h1,h2⟩
  ·subst h;rcases Option.eq_none_or_eq_some a with h|⟨q,h⟩
   ·obtain⟨h1,h2⟩:=Ip h;exact .inl ⟨h,h1,h2,rfl⟩
   ·exact .inr ⟨q,h,by simp[flat]⟩
  ·exact .inr ⟨q,h1,h2⟩
 have o_:(flat iS L).length=m*2:=by rw[ck gy,w_]
 have J0:=gJ (en:=iS) C5 L;have aD:(ae c).length=24:=rfl;unfold aY;have ox:∃TH:Nat→a_,∀b,eu c aw aw seq b (H.entry c ⟨L,0,0,-1,0,0,0⟩ 0)=TH b:=⟨_,λ_=>rfl⟩;obtain⟨TH,ox⟩:=ox;simp only[ox];generalize H.entry c ⟨L,0,0,-1,0,0,0⟩ 0=he at*;have Dn:=aa (λw0 w' R' b v n' (hn:n'=he.list.length) hS=>ox b▸dQ.out w0 w' R' b v n' he hn hS);clear dQ ox;generalize ae c=cs at*;have HSB:=aa ((Sep.nil (Fr.refl [] w)).new 58 cs);clear hL Ip;have Xg:=aa w_;clear w_;obtain⟨x0,x1,x2,x3,x4,x5,x6,x7,x8,x9,l4,l5,l6,l7,l8,l9,l_,mf,mh,mi,mj,mm,mo,mq,rfl⟩:=rQ aD;have HS:=HSB;clear HSB;have cC:=(HS.ar 0 rfl).drew;go_in;go_wp2_with fail;refine bW [(1,[0,1,2,3,4]),(2,[5]),(0,[6]),(3,[7]),(0,[8])] (by kernel_rfl) ?_;simp only[zz];refine af ?_;refine ak 58 _ w.heap.size 0 [x0,x1,x2,x3,x4,x5,x6,x7,x8,x9,l4,l5,l6,l7,l8,l9,l_,mf,mh,mi,mj,mm,mo,mq] _ rfl rfl rfl (bL cC (by simp)) underlying58 rfl (by kernel_rfl) ?_;simp only[Act.put,aZ,zs];repeat go_big_quiet_step(fail)
 refine ax ?_;have HS:=aa HS.drew;refine aA ?_;go_wp2_with(at_builtin;go_must (refine qD HS.out rfl _ _ 203 rfl 234 i0 _ 2 16 underlying203 iJ jA jB iR rfl (by decide) rfl a m lc (flat iS L) rfl (HC.out _ HS.fr) o_ J0 (by unfold maxLen;omega) (by omega) ?_));intro v' w2 hS hf;obtain⟨la,Vf,rfl⟩:=hS.form 0 rfl;have HF:=aa hf;have HS:=aa hS;clear hf hS;go_wp2;refine⟨⟨⟨_,(by exact HF.out)⟩,rfl⟩,?_⟩;repeat(first|go_big_quiet_step(fail)|apply ax|apply af|apply ag|apply ah)
 refine ao ?_;go_wp2_with fail;have HS:=aa (HS.new 221 (H.hL [x0,x1,x2,x3,x4,x5,x6,x7,x8,x9,l4,l5,l6,l7,l8,l9,l_,mf,mh,mi,mj,mm,mo,mq] aw aw seq (.slice la m Vf) ⟨L,0,0,-1,0,0,0⟩));repeat(first|go_big_quiet_step(fail)|apply ax|apply af|apply ag|apply ah)
 refine aj ?_;go_wp2_with fail;refine(HE.out _ _ _ _ _ _ HS.out).kh λw3 eH=>?_;go_wp2;go_ret;refine⟨_,rfl,?_⟩;have hS:=Dn.out _ _ _ _ (.slice la m Vf) m (by rw[NV.1];exact Xg.out) (by rw[NV.1];exact eH.out);exact hS.sub [0] rfl (by decide)
end Go.Proofs.YtolkmchicplaoaaGreat
namespace Go.Proofs.YtolkmchicplaoaaGreat
open Go.RowKit Go.aS Go.aS.Y Go.aS.Sc
def Cs {w0 w R}(b c)(aE:Ok c)(aw owner seq h x s ok)(hx:0≤x∧x≤18446744073709551615)(hs:0≤s)(hg:H.Good c h)(hr:0≤h.next∧h.next≤8)(hS:Sep w0 w (eu c aw owner seq b h::R)):
 bR 239 #[O b,.agg #[U x,U s,.bool ok]] w w0 (eu c aw owner seq b (H.tell c seq x s h)::R):=by
 obtain⟨L,n,k,held,cv,cc,nx⟩:=h;obtain⟨kn,hk⟩:∃kn:Nat,k=(kn:Int):=⟨k.toNat,by have:=hg.2.2.2.2.1;dsimp only at this;omega⟩;subst hk;dsimp only at hr;rcases(show nx=0∨nx=1∨nx=2∨nx=3∨nx=4∨nx=5∨nx=6∨nx=7∨nx=8 by omega)with e|e|e|e|e|e|e|e|e
 ·exact U9 b c aE aw owner seq L n kn held cv cc nx x s ok hx hs hg e hS
 ·exact Va b c aE aw owner seq L n kn held cv cc nx x s ok hx hs hg e hS
 ·exact Vb b c aE aw owner seq L n kn held cv cc nx x s ok hx hs hg e hS
 ·exact U6 b c aE aw owner seq L n kn held cv cc nx x s ok hx hs hg e hS
 ·exact Vc b c aE aw owner seq L n kn held cv cc nx x s ok hx hs hg e hS
 ·exact Vd b c aE aw owner seq L n kn held cv cc nx x s ok hx hs hg e hS
 ·exact U8 b c aE aw owner seq L n kn held cv cc nx x s ok hx hs hg e hS
 ·exact U7 b c aE aw owner seq L n kn held cv cc nx x s ok hx hs hg e hS
 ·exact Ve b c aE aw owner seq L n kn held cv cc nx x s ok hx hs hg e hS
def J_ {w0 w R}(b c)(aE:Ok c)(aw owner seq h)(hg:H.Good c h)(hS:Sep w0 w (eu c aw owner seq b h::R)):
 ba 238 #[O b] w (.tuple #[.agg (eF (H.ask c aw owner seq h).1).toArray,.bool (H.ask c aw owner seq h).2]):=by
 obtain⟨la,lc,h2⟩:=jx hS;exact Qq w c aE b aw owner seq _ h (h2.ar 0 rfl) (h2.row 1 rfl) hg
def Q3 {w0 w R}(b c aw owner seq h)(hS:Sep w0 w (eu c aw owner seq b h::R)):
 ba 144 #[O b] w (.bool (decide (h.next=8))):=by
 obtain⟨la,lc,h2⟩:=jx hS;exact K5 w b (ae c) rfl aw owner seq _ h (h2.ar 0 rfl)
def H.ai6:H.H:=⟨[],0,0,-1,0,0,0⟩
def H.Vu (c):H.Inv c H.ai6:=⟨⟨by decide,by decide,by decide,by decide,by decide,by decide⟩,by decide,λh=>absurd h (by decide),λ_=>rfl⟩
def Vv (w c aw owner seq):
 Calls Tryz.prog 108 #[aY c,I aw,I owner,U seq] w λe w'=>∃b,e= .returned (O b)∧Sep w w' [eu c aw owner seq b H.ai6]:=by
 refine(OM w (ae c) rfl (by simp[ae,Value.oneCell']) aw owner seq).mono ?_;rintro e w' ⟨b,rfl,hS⟩;exact⟨b,rfl,jy rfl hS⟩
def H.ar3 (c:cA)(L:List (Int×Int)):H.H:=H.entry c ⟨L,0,0,-1,0,0,0⟩ 0
def H.Vx (c L)(hl:L.length≤100000):H.Inv c (H.ar3 c L):=
 H.tt ⟨iu 0,by simp,by simp,hl,iu 0,by simp⟩ 0 (cE _)
end Go.Proofs.YtolkmchicplaoaaGreat
namespace Go.Proofs.YtolkmchicplaoaaGreat
open Go.RowKit Go.aS Go.aS.I_ Go.aS.Y
def zq45:(∀{w0 w R c aw seq b vb pb sb cv args}(ha:args.length=4){x}(c7:x.aI.length=16)(hS:Sep w0 w (aQ c aw seq b vb pb sb cv args x::R)),ba 140 #[O b] w (I x.s))∧(∀{w0 w R c aw seq b vb pb sb cv args}(ha:args.length=4){x}(c7:x.aI.length=16)(v n ok)(hs:x.s≠0)(hS:Sep w0 w (aQ c aw seq b vb pb sb cv args x::R)),bR 230 #[O b,.agg #[U v,U n,.bool ok]] w w0 (aQ c aw seq b vb pb sb cv args x::R))∧(∀{w0 w R c}(aE:Y.Ok c){aw seq b vb pb sb cv args}(ha:args.length=4){x}(c7:x.aI.length=16)(hS:Sep w0 w (aQ c aw seq b vb pb sb cv args x::R)),ba 224 #[O b] w (.tuple #[.agg (eF (X.ask c aw x).1).toArray,.bool (X.ask c aw x).2])):=by
 refine⟨?Z,?Y,?X⟩
 case' Z=>intro w0 w R c aw seq b vb pb sb cv args ha x c7 hS
 case' Y=>intro w0 w R c aw seq b vb pb sb cv args ha x c7 v n ok hs hS
 case' X=>intro w0 w R c aE aw seq b vb pb sb cv args ha x c7 hS
 case' Z|Y|X=>obtain⟨la,lc,h2⟩:=bh hS;have hE:=cH (show(ae c).length=24 from rfl) cv ha vb pb sb x.mark x.mt x.ml;have LC:=(h2.ar 0 rfl).cD hE.len c7 60 rfl rfl;have f29:=(h2.ar 0 rfl).fM hE.len 29 rfl hE.v;have fl:=(h2.ar 0 rfl).lt
 case' Z=>clear h2 hS f29 hE;delta ba;go_in;go_wp2;go_ret
 case' Y=>
  have e0:(x.s==0)=false:=by simpa using hs
  have HS:=aa hS;clear h2 hS f29 hE hs;delta bR;go_in;go_wp2;go_end0
 case' X=>have HBV:=aa (h2.ar 2 rfl);have HS:=aa ((Sep.nil (Fr.refl [] w)).new 82 (eF p0));have fD:=dg p0;unfold X.ask;clear h2 hS hE
 case' Z=>exact⟨rfl,Fr.refl _ _⟩
 case' Y=>exact⟨rfl,HS.alloc _⟩
 by_cases hs:x.s=0
 ·have e0:(x.s !=0)=false:=by simpa using hs
  rw[aq (by omega)];have A0:=aa (λw' hB=>E4 w' c aE vb aw seq x.v hB);generalize Vw.ask c aw x.v=pa at*;obtain⟨sK,Fl⟩:=pa;have fF:=dg sK;clear hs;dsimp only at*;delta ba;go_in;go_wp2_with fail;refine(A0.out _ (HBV.fr HS.fr (by simp))).kq HS λw1 HS=>?_;go_wp2_with(refine aC HS.out 0 rfl (eF sK) 82 _ _ rfl rfl rfl rfl rfl (by kernel_rfl) fF (λwA hA _=>?_);have de:=aa hA;clear hA);exact aV (v:= .tuple #[.agg (eF (sK)).toArray,.bool Fl]) (bj Tryz.results224 rfl rfl (de.ar 0 rfl).range underlying82 rfl (by kernel_rfl)) rfl ⟨rfl,de.fr⟩
 ·have e0:(x.s !=0)=true:=by simpa using hs
  rw[aB hs];clear hs;delta ba;go_in;go_wp2_with(refine aC HS.out 0 rfl (eF p0) 82 _ _ rfl rfl rfl rfl rfl (by kernel_rfl) fD (λwA hA _=>?_);have de:=aa hA;clear hA);exact aV (v:= .tuple #[.agg (eF (p0)).toArray,.bool false]) (bj Tryz.results224 rfl rfl (de.ar 0 rfl).range underlying82 rfl (by kernel_rfl)) rfl ⟨rfl,de.fr⟩
def lF:=@zq45.1
def Qt:=@zq45.2.1
def Fk:=@zq45.2.2
def vF (seq v n)(hv:W.U_ v){z}(h:W.U_ z.val):W.U_ (Vw.tell seq v n z).val:=by
 unfold Vw.tell;split
 ·exact h
 ·split
  ·unfold Vw.pW;split
   ·exact h
   ·split
    ·exact hv
    ·split
     ·rw[Cf];exact h
     ·exact h
  ·exact h
def XG.told {c code x}(h:XG c code x)(seq v n)(hv:W.U_ v):XG c code {x with v:=Vw.tell seq v n x.v}:=
 ⟨{(show XI c code (r_ x) x from h.r)with vv:=vF seq v n hv h.r.vv},h.e⟩
def Qu {w:World}{v:Value}{n:Nat}{xs:List Value}{e:TypeId}(h:w.ownsRow 0 e 1 v n xs):∃ad c,v= .slice ad n c∧((ad=none∧n=0∧c=0∧xs=[])∨∃q,ad=some q∧∀j u,xs[j]?=some u→w.cell? (q.add j)=some u):=by
 rcases bg h with⟨rfl,rfl⟩|⟨g,cap,rfl,_⟩
 ·exact⟨none,0,rfl,.inl ⟨rfl,rfl,rfl,nJ (by simpa using h.1)⟩⟩
 ·exact⟨_,_,rfl,.inr ⟨_,rfl,h.cells rfl⟩⟩
def zq46:(∀{w0 w R}{c:cA}(aE:Y.Ok c){aw seq:Int}{b vb pb sb:Nat}{cv}{args:List Int}(ha:args.length=4)(p6:∀r∈args,W.U_ r){code:List In}(hr:right code=true)(hC:∀w',Sep w0 w' R→dJ w' cv code){x:X.St}(h:XG c code x)(v n:Int)(hv:W.U_ v)(ok:Bool)(hs:x.s=0)(hS:Sep w0 w (aQ c aw seq b vb pb sb cv args x::R)),bR 230 #[O b,.agg #[U v,U n,.bool ok]] w w0 (aQ c aw seq b vb pb sb cv args (X.run c code args {x with v:=Vw.tell seq v n x.v})::R))∧(∀{w0 w R c aw seq b vb pb sb cv args}(ha:args.length=4){x}(h:gE c x)(hS:Sep w0 w (aQ c aw seq b vb pb sb cv args x::R)),Calls Tryz.prog 141 #[O b] w λr w'=>∃nv,r= .returned (.tuple #[.agg [I x.rc,U x.rv].toArray,nv])∧Sep w0 w' (aU 0 26 1 nv x.news.length (bC x.news)::aQ c aw seq b vb pb sb cv args x::R)):=by
 refine⟨?Z,?Y⟩
 case' Z=>
  intro w0 w R c aE aw seq b vb pb sb cv args ha p6 code hr hC x h v n hv ok hs hS;have c7:=h.r.aI;have hG2:=h.told seq v n hv;have Aa:=aa (λw' RR hC hS=>Fi (w0:=w0) (w:=w') (R:=RR) aE (aw:=aw) (seq:=seq) (b:=b) (vb:=vb) (pb:=pb) (sb:=sb) (cv:=cv) ha p6 hr hC hG2 hS);have HVT:=aa (λw' RR hS=>B7 (w0:=w0) (w:=w') (R:=RR) vb (ae c) rfl aw seq x.v v n ok hS);have e0:(x.s==0)=true:=by simpa using hs
  have HC:=aa hC;have h:gE c x:=XI.ok aE (by unfold r_;split<;>decide) h.r;clear hs hG2 p6 hr hC;obtain⟨la,lc,h2⟩:=bh hS;have dQ:Hid (∀w' nv,Sep w0 w' (aJ b 255 (iN (fJ (ae c) cv args vb pb sb x.mark x.mt x.ml) ({x with v:=Vw.tell seq v n x.v}).aI (ey ({x with v:=Vw.tell seq v n x.v}) nv))::aU 0 26 1 nv ({x with v:=Vw.tell seq v n x.v}).news.length (bC ({x with v:=Vw.tell seq v n x.v}).news)::aJ vb 258 (Vw.eU (ae c) aw seq ({x with v:=Vw.tell seq v n x.v}).v)::bE c seq pb ({x with v:=Vw.tell seq v n x.v}).p::cw sb ({x with v:=Vw.tell seq v n x.v}).w::R)→Sep w0 w' (aQ c aw seq b vb pb sb cv args ({x with v:=Vw.tell seq v n x.v})::R)):=aa (λw' nv h=>bF h)
 case' Y=>
  intro w0 w R c aw seq b vb pb sb cv args ha x h hS;have kA:x.news.length≤9000:=h.nw;obtain⟨i0,iJ,jA,jB,iR⟩:=eA wZ;have hlw:(bC x.news).length=x.news.length*1:=by unfold bC;rw[dD];omega
  have Gy:∀u∈bC x.news,u.oneCell'=true:=by unfold bC;simp[Value.oneCell']
  have hoR:∀z∈ [I x.rc,U x.rv],z.oneCell'=true:=by simp[Value.oneCell']
  have Sq:Hid (∀w' nv R',Sep w0 w' (aJ b 255 (iN (fJ (ae c) cv args vb pb sb x.mark x.mt x.ml) x.aI (ey x nv))::aU 0 26 1 nv x.news.length (bC x.news)::aJ vb 258 (Vw.eU (ae c) aw seq x.v)::bE c seq pb x.p::cw sb x.w::R')→Sep w0 w' (aQ c aw seq b vb pb sb cv args x::R')):=aa (λw' nv R' h=>bF h);obtain⟨la,lc,h2⟩:=bh hS
 case' Z|Y=>have hE:=cH (show(ae c).length=24 from rfl) cv ha vb pb sb x.mark x.mt x.ml;unfold lP at h2;simp only[za]at h2;generalize fJ (ae c) cv args vb pb sb x.mark x.mt x.ml=H at*;have HE:=aa hE;have HX:=aa h;have HS:=aa h2;clear hS h2 hE h
 case' Z=>
  dsimp only at dQ;have LC:=(HS.ar 0 rfl).cD HE.len c7 60 rfl rfl;have fl:=(HS.ar 0 rfl).lt;delta bR;go_in;go_wp2_with fail;have dS:=aa (HS.new 84 [U v,U n,.bool ok]);generalize World.alloc _ _=W1 at dS⊢;have hB:=(dS.ar 1 rfl).drew;have hO:=(dS.ar 0 rfl).drew;have f29:=hB.fM HE.len 29 rfl HE.out.v;have o0:=hO.cell 0;have o1:=hO.cell 1;have o2:=hO.cell 2;simp only[zg]at o0 o1 o2;refine bW [(1,[0,1,2,3,4]),(3,[5])] (by kernel_rfl) ?_;simp only[zz];repeat(first|go_big_quiet_step(fail)|apply ax|apply af|apply ag|apply ah)
  refine ao ?_;go_wp2_with fail;refine(dS.drew.call 3 rfl (λR hR=>HVT.out _ _ hR)).kk λw2 h1=>?_;simp only[zs]at h1;have HS:=aa h1.tail;clear h1 hB hO f29 o0 o1 o2;go_wp2;refine aj ?_;go_wp2_with fail;refine(Aa.out _ _ HC.out (dQ.out _ _ HS.out)).kh λw3 HS=>?_;go_wp2;go_end0
 case' Y=>
  have dS:=aa (HS.new 48 [I 0,U 0]);have hB:=(dS.ar 1 rfl).drew;have k61:=hB.cD HE.len HX.aI 61 rfl rfl;have k62:=hB.cD HE.len HX.aI 62 rfl rfl;have k63:=hB.cD HE.len HX.aI 63 rfl rfl;have NW:=Qu (dS.drew.row 2 rfl);obtain⟨ad,cc,hae,hcc⟩:=NW;simp only[dk,true_and]at hae;obtain⟨rfl,rfl⟩:=hae;have Tb:=aa hcc;clear hcc;go_in;go_wp2_with fail;refine bW [(1,[0,1,2,3,4,5,6,7]),(2,[8]),(3,[9]),(0,[10])] (by kernel_rfl) ?_;simp only[zz];repeat(first|go_big_quiet_step(fail)|quiet_step(fail)|apply ax|apply af|apply ag|apply ah)
  refine aA ?_;go_wp2_with(at_builtin;go_must (refine qD dS.drew rfl _ _ 49 rfl 26 i0 _ 1 8 underlying49 iJ jA jB iR rfl (by decide) rfl la x.news.length lc (bC x.news) rfl Tb.out hlw Gy (by unfold maxLen;omega) (by omega) ?_));intro v' w2 du Ln;obtain⟨la2,Vf,rfl⟩:=du.form 0 rfl;have HF:=aa Ln;have de:=aa du;clear Ln du;go_wp2;refine⟨⟨⟨_,(by exact HF.out)⟩,rfl⟩,?_⟩;repeat(first|go_big_quiet_step(fail)|quiet_step(fail)|apply ax|apply af|apply ag|apply ah)
  refine ao ?_;refine aC de.out 1 rfl [I x.rc,U x.rv] 48 _ _ rfl rfl rfl rfl rfl (by kernel_rfl) hoR (λwA hA _=>?_);simp only[zs]at hA;have eH:=aa hA;clear hA;go_wp2_with fail;repeat(first|go_big_quiet_step(fail)|quiet_step(fail)|apply ax|apply af|apply ag|apply ah)
  refine aj ?_;go_wp2_with fail
 case' Z=>exact⟨rfl,HS.out⟩
 exact aV (v:= .tuple #[.agg [I x.rc,U x.rv].toArray,.slice la2 x.news.length Vf]) (bj Tryz.results141 rfl rfl (eH.ar 1 rfl).range underlying48 rfl (by kernel_rfl)) rfl ⟨_,rfl,(Sq.out _ _ _ (Sep.kz (A:=[_,_,_,_,_]) (eH.pull 1 rfl).tail)).swap⟩
def Ms:=@zq46.1
def xV:=@zq46.2
def Cl {w0 w R}{c:cA}(aE:Y.Ok c){aw seq:Int}{b vb pb sb:Nat}{cv}{args:List Int}(ha:args.length=4)(p6:∀r∈args,W.U_ r){code:List In}{x:X.St}(hr:x.s=0→right code=true)(hC:∀w',Sep w0 w' R→dJ w' cv code)(h:XG c code x)(v n:Int)(hv:W.U_ v)(ok:Bool)(hS:Sep w0 w (aQ c aw seq b vb pb sb cv args x::R)):
 bR 230 #[O b,.agg #[U v,U n,.bool ok]] w w0 (aQ c aw seq b vb pb sb cv args (X.tell c code args seq v n x)::R):=by
 unfold X.tell;by_cases hs:x.s=0
 ·rw[aq (by omega)];exact Ms aE ha p6 (hr hs) hC h v n hv ok hs hS
 ·rw[aB hs];exact Qt ha h.r.aI v n ok hs hS
def XI.start {c:cA}(aE:Y.Ok c){code:List In}{v:Vw.V}{p:P.St}{s:W.S}(hd:s.done.length≤500000)(hu:W.ou s)(hv:W.U_ v.val)(mY:0≤p.nt∧p.nt≤c.b)(kA:0≤p.nl∧p.nl≤b_ c)(hc:right code=true→0<code.length)(hr:right code=true):XG c code (X.eB v p s):=by
 have hw:=aE.w0;have hf:=aE.f1;have hl:=hc hr;refine⟨XR.of rfl ?_,λ_=>rfl⟩;exact{
  aI:=rfl
  ru:=λr hr=>by
   have:r=0:=(List.mem_replicate.1 (show r∈List.replicate 16 (0:Int)from hr)).2;subst this;omega
  ia:=by simp[X.eB,i0]
  ib:=by simp[X.eB,i0]
  ic:=by simp[X.eB,i0]
  im:=by simp[X.eB,i0]
  i8:=by simp[X.eB,i0]
  wr:=by simp[X.eB];omega
  mrk:=by simp[X.eB];omega
  dn:=by simp[X.eB]
  st:=by simp[X.eB];omega
  pc:=by simp[X.eB]
  S5:=λ_ _=>by simp[X.eB];omega
  nt:=mY
  nl:=kA
  mt:=mY
  ml:=kA
  nw:=by simp[X.eB]
  wu:=hu
  vv:=hv
  s:=by simp[X.eB]}
def Fm{w0 w R c}(aE:Y.Ok c){aw seq vb pb sb}(ca n cc){code}(UN:n=code.length){args}(ha:args.length=4)(p6:∀r∈args,W.U_ r)(hC:∀w',Sep w0 w' R→dJ w' (.slice ca n cc) code){v p s}(hd:s.done.length≤500000)(hu:W.ou s)(hv:W.U_ v.val)(mY:0≤p.nt∧p.nt≤c.b)(kA:0≤p.nl∧p.nl≤b_ c)(hS:Sep w0 w (aJ vb 258 (Vw.eU (ae c) aw seq v)::bE c seq pb p::cw sb s::R)):Calls Tryz.prog 133 #[aY c,.slice ca n cc,.agg (bC args).toArray,O vb,O pb,O sb] w λr w'=>∃b,r= .returned (O b)∧Sep w0 w' (aQ c aw seq b vb pb sb (.slice ca n cc) args (X.new c code args v p s)::R):=by
 obtain⟨cv,eT⟩:∃cv,Value.slice ca n cc=cv:=⟨_,rfl⟩;have tS:Hid (∀w' b,Sep w0 w' (aJ b 255 (iN (fJ (ae c) cv args vb pb sb (s.done.length:Int) p.nt p.nl) (List.replicate 16 0) (ey (X.eB v p s) (.slice none 0 0)))::aU 0 26 1 (.slice none 0 0) 0 []::aJ vb 258 (Vw.eU (ae c) aw seq v)::bE c seq pb p::cw sb s::R)→Sep w0 w' (aQ c aw seq b vb pb sb cv args (X.eB v p s)::R)):=aa (λw' b h=>bF (x:=X.eB v p s) h);have HMK:=aa (λw' RR hS=>PE (w0:=w0) (w:=w') (R:=RR) pb c seq p hS);have HFO:Hid (gE c (X.eB v p s)):=aa (XI.ok aE (by unfold r_;split<;>decide) (XI.start (code:=[⟨20,1,0,0,0⟩]) aE hd hu hv mY kA (λ_=>by decide) (by decide)).r);have Tc:=aa (λw' RR hS=>Pe (w0:=w0) (w:=w') (R:=RR) (b:=sb) (s:=s) hS);have aD:(ae c).length=24:=rfl;unfold aY;have Cm:=aa (λw' (h:Sep w0 w' R)=>lp w' ca n cc code UN (hC w' h));rw[eT]at Cm hC⊢;have HX0:Hid (right code=true→XG c code (X.eB v p s)):=aa (λhr=>XI.start aE hd hu hv mY kA (λh=>(c_ h).1) hr);have Aa:=aa (λw' b hr hS=>Fi (w0:=w0) (w:=w') (R:=R) aE (aw:=aw) (seq:=seq) (b:=b) (vb:=vb) (pb:=pb) (sb:=sb) (cv:=cv) ha p6 hr hC (HX0.out hr) hS);obtain⟨xr,hxr⟩:∃xr,X.new c code args v p s=xr:=⟨_,rfl⟩;rw[hxr];have Zp:=aa hxr;have JH:iN (fJ (ae c) cv args vb pb sb (s.done.length:Int) p.nt p.nl) (List.replicate 16 0) (ey (X.eB v p s) (.slice none 0 0))=iN (fJ (ae c) cv args vb pb sb (s.done.length:Int) p.nt p.nl) (List.replicate 16 0) [I 0,I 0,I 0,.bool false,I 0,I 0,I 0,I 0,U 0,I 0,I 0,U 0,.slice none 0 0]:=rfl;rw[JH]at tS;clear JH;obtain⟨a0,a1,a2,a3,rfl⟩:∃a0 a1 a2 a3,args=[a0,a1,a2,a3]:=by
  match args,ha with
  |[a0,a1,a2,a3],_=>exact⟨a0,a1,a2,a3,rfl⟩
 generalize ae c=cs at*;obtain⟨x0,x1,x2,x3,x4,x5,x6,x7,x8,x9,l4,l5,l6,l7,l8,l9,l_,mf,mh,mi,mj,mm,mo,mq,rfl⟩:=rQ aD;have er:List.replicate 16 (0:Int)=[0,0,0,0,0,0,0,0,0,0,0,0,0,0,0,0]:=rfl;simp only[iN,fJ,bC,er,zm,za]at tS;have eG:=(hS.new 58 [x0,x1,x2,x3,x4,x5,x6,x7,x8,x9,l4,l5,l6,l7,l8,l9,l_,mf,mh,mi,mj,mm,mo,mq]).new 36 (bC [a0,a1,a2,a3]);simp only[cG]at eG;have HS:=aa eG;clear hS eG hC hd hu hv mY kA p6 hxr UN;subst eT;have gO:bC [a0,a1,a2,a3]=[U a0,U a1,U a2,U a3]:=rfl;rw[gO]at HS⊢;clear gO;go_in;go_wp2_with fail;have hM:=(HS.ar 1 rfl).drew;have hA:=(HS.ar 0 rfl).drew;refine bW [(1,[0,1,2,3,4,5,6,8]),(2,[7]),(2,[9]),(0,[10]),(3,[11]),(0,[12])] (by kernel_rfl) ?_;simp only[zz];refine af ?_;repeat(first|(refine ak 58 _ w.heap.size 0 [x0,x1,x2,x3,x4,x5,x6,x7,x8,x9,l4,l5,l6,l7,l8,l9,l_,mf,mh,mi,mj,mm,mo,mq] _ rfl rfl rfl (bL hM (by simp)) underlying58 rfl (by kernel_rfl) ?_;simp only[Act.put,aZ,zs])|(refine ak 36 _ (w.heap.size+1) 0 [U a0,U a1,U a2,U a3] _ rfl rfl rfl (bL hA (by simp)) underlying36 rfl (by kernel_rfl) ?_;simp only[Act.put,aZ,zs])|go_big_quiet_step (fail)|quiet_step (fail))
 refine ax ?_;refine aA ?_;go_wp2_with fail;refine(Tc.out _ _ (HS.drew.pull 4 rfl)).mono ?_;rintro r w2 ⟨rfl,rfl⟩;go_wp2;refine⟨⟨⟨_,(by exact Fr.refl _ _)⟩,rfl⟩,?_⟩;repeat(first|go_big_quiet_step(fail)|apply ax|apply af|apply ag|apply ah)
 refine aA ?_;go_wp2_with fail;refine(HMK.out _ _ (HS.drew.pull 3 rfl)).kf HS.dr λw3 HF HS=>?_;go_wp2;refine⟨⟨⟨_,(by exact HF.out)⟩,rfl⟩,?_⟩;repeat(first|go_big_quiet_step(fail)|apply ax|apply af|apply ag|apply ah)
 refine ao ?_;go_wp2_with fail;repeat(first|go_big_quiet_step(fail)|apply ax|apply af|apply ag|apply ah)
 refine aj ?_;have js:=HS.tail.tail.new 255 (iN (fJ [x0,x1,x2,x3,x4,x5,x6,x7,x8,x9,l4,l5,l6,l7,l8,l9,l_,mf,mh,mi,mj,mm,mo,mq] (.slice ca n cc) [a0,a1,a2,a3] vb pb sb (s.done.length:Int) p.nt p.nl) (List.replicate 16 0) [I 0,I 0,I 0,.bool false,I 0,I 0,I 0,I 0,U 0,I 0,I 0,U 0,.slice none 0 0]);simp only[iN,fJ,bC,er,zm,za]at js;have Qr:=aa js;clear js;generalize World.alloc _ _=w4 at Qr⊢;have sk:=aa (tS.out _ _ ((Qr.out.k5 0 26 1).swap));have hnr:X.new c code [a0,a1,a2,a3] v p s=if right code then X.run c code [a0,a1,a2,a3] (X.eB v p s)else X.fail 30 0 (X.eB v p s):=rfl
 have HNR:=aa hnr;clear HS Qr tS HMK Tc hM hA HF hnr;by_cases hr:right code=true;refine ?Z;rotate_left;refine ?Y
 case' Z=>have HXX:=aa (Zp.out.symm.trans (HNR.trans (aB hr)));have HR:=aa hr;rw[hr]at Cm;clear hr
 case' Y=>
  have HXX:=aa (Zp.out.symm.trans (HNR.trans (aq hr)));have hrf:right code=false:=by simpa using hr
  rw[hrf]at Cm;clear hr hrf
 case' Z|Y=>go_wp2_with fail;refine(Cm.out _ sk.tail).kq sk λw6 Dx=>?_;go_wp2_with fail
 case' Z=>refine(Aa.out _ _ HR.out Dx.out).kh λw7 NR=>?_;go_wp2;go_ret
 case' Y=>refine(jC rfl HFO.out 30 0 Dx.out).kh λw7 NR=>?_;go_wp2;go_ret
 case' Z|Y=>exact⟨_,rfl,by rw[HXX.out];exact NR.out⟩
structure cL (w:World)(pv:Value)(aO:List Value)(ai:List (List In)):Prop where
 row:dB (λv=> [v]) 1 w pv aO
 len:aO.length=ai.length
 each:∀k (h:k<ai.length),dJ w (aO[k]'(by omega)) ai[k]
 tY:ai.length≤1000
def cL.fr {w w' pv aO ai}(h:cL w pv aO ai)(f:Fr [] w w'):cL w' pv aO ai:=
 ⟨h.row.fr f,h.len,λk hk=>(h.each k hk).fr f,h.tY⟩
def sL (aO:List Value)(k:Int):Value:=if k<aO.length then aO.getD k.toNat (.slice none 0 0)else .slice none 0 0
def Fo (w):dJ w (.slice none 0 0) []:=⟨⟨none,0,rfl,dp _,.inl rfl⟩,by decide,by simp⟩
def cL.code {w pv aO ai}(h:cL w pv aO ai){k}(hk:0≤k):dJ w (sL aO k) (B.bU ai k):=by
 have hl:=h.len;unfold sL B.bU;by_cases hc:k<ai.length
 ·have h1:k.toNat<ai.length:=by omega
  have h2:k.toNat<aO.length:=by omega
  rw[aB (by omega),aB hc];have:=h.each k.toNat h1;rwa [show aO.getD k.toNat (.slice none 0 0)=aO[k.toNat] by simp[List.getD,h2],show ai.getD k.toNat []=ai[k.toNat] by simp[List.getD,h1]]
 ·rw[aq (by omega),aq hc];exact Fo w
def Xh (cs:List Value)(pv:Value)(vb pb sb:Nat):List Value:=cs++[pv,O vb,O pb,O sb]
def ji (xp rv:Value)(args:List Int)(b:B.St):List Value:=[xp,I b.next,I b.u,U b.av,U b.an]++(bC args++[I b.given,rv,I b.s])
structure BH (cs:List Value)(pv:Value)(vb pb sb:Nat)(H:List Value):Prop where
 len:H.length=28
 m:∀k,k<24→H[k]?=cs[k]?
 pv:H[24]?=some pv
 v:H[25]?=some (O vb)
 p:H[26]?=some (O pb)
 w:H[27]?=some (O sb)
def Zq {cs}(aD:cs.length=24)(pv vb pb sb):BH cs pv vb pb sb (Xh cs pv vb pb sb):=by
 unfold Xh;refine⟨by simp[aD],λk hk=>gm (by omega),?_,?_,?_,?_⟩;all_goals(rw[gw (by omega),aD];rfl)
def ai4 {H:List Value}(hH:H.length=28)(t:List Value){k:Nat}(hk:k<28):(H++t)[k]?=H[k]?:=gm (by omega)
def Xi {H:List Value}(hH:H.length=28)(t:List Value)(k:Nat)(hk:28≤k):(H++t)[k]?=t[k-28]?:=by rw[gw (by omega),hH]
def fY {H:List Value}(hH:H.length=28)(t:List Value)(k:Nat)(v:Value)(hk:28≤k):(H++t).set k v=H++t.set (k-28) v:=by rw[eD _ _ (by omega),hH]
def nS {w b}{T:TypeId}{cs H t pv vb pb sb}(aD:cs.length=24)(hE:BH cs pv vb pb sb H)(h:cB w b T (H++t)):w.rangeAt b 0 cs:=λj u hj=>by
 have zM:j<24:=by rw[←aD];exact(dE.1 hj).1
 have:=(h.cell j).trans ((ai4 hE.len _ (by omega)).trans ((hE.m j zM).trans hj));simpa using this
def Ab {T:Type}(ty Fp:TypeId)(k:Nat)(en:Value→T→List Value)(pd:T→List Int)(v:Value)(L:List T):a_:=
 EG λdY:List Value=>ie (dY.length=L.length) (cM [aU 0 ty k v L.length (flat (λp:Value×T=>en p.1 p.2) (dY.zip L)),cM ((dY.zip L).map (λp=>aU 0 Fp 1 p.1 (pd p.2).length (bC (pd p.2))))])
def Fq {w0 w R}{T:Type}{ty Fp:TypeId}{k}{en:Value→T→List Value}{pd:T→List Int}{v L}(h:Sep w0 w (Ab ty Fp k en pd v L::R)):
 ∃dY:List Value,dY.length=L.length∧Sep w0 w (aU 0 ty k v L.length (flat (λp:Value×T=>en p.1 p.2) (dY.zip L))::cM ((dY.zip L).map (λp=>aU 0 Fp 1 p.1 (pd p.2).length (bC (pd p.2))))::R):=by
 obtain⟨dY,h1⟩:=h.rZ;obtain⟨h2,h3⟩:=h1.jn;exact⟨dY,h2,h3.ofList⟩
def Ac {w0 w:World}{R:List a_}{T:Type}{ty Fp:TypeId}{k:Nat}{en:Value→T→List Value}{pd:T→List Int}{v:Value}{L:List T}{dY:List Value}(hl:dY.length=L.length)(h:Sep w0 w (aU 0 ty k v L.length (flat (λp:Value×T=>en p.1 p.2) (dY.zip L))::cM ((dY.zip L).map (λp=>aU 0 Fp 1 p.1 (pd p.2).length (bC (pd p.2))))::R)):
 Sep w0 w (Ab ty Fp k en pd v L::R):=
 Sep.qX (A:=List Value) (λdY=>ie (dY.length=L.length) (cM [aU 0 ty k v L.length (flat (λp:Value×T=>en p.1 p.2) (dY.zip L)),cM ((dY.zip L).map (λp=>aU 0 Fp 1 p.1 (pd p.2).length (bC (pd p.2))))])) (a:=dY) (Sep.iK (Sep.toList (Ts:=[_,_]) h) hl)
def qE {w0 w:World}{R:List a_}{T:Type}{ty Fp:TypeId}{k:Nat}{en:Value→T→List Value}{pd:T→List Int}{v nv:Value}{L:List T}{x:T}{dY:List Value}(hl:dY.length=L.length)
 (h:Sep w0 w (aU 0 ty k v (L.length+1) (flat (λp:Value×T=>en p.1 p.2) (dY.zip L)++en nv x)::aU 0 Fp 1 nv (pd x).length (bC (pd x))::cM ((dY.zip L).map (λp=>aU 0 Fp 1 p.1 (pd p.2).length (bC (pd p.2))))::R)):
 Sep w0 w (Ab ty Fp k en pd v (L++[x])::R):=by
 have hz:(dY++[nv]).zip (L++[x])=dY.zip L++[(nv,x)]:=by rw[List.zip_append hl];rfl
 refine Ac (dY:=dY++[nv]) (by simp[hl]) ?_;have hf:flat (λp:Value×T=>en p.1 p.2) (dY.zip L++[(nv,x)])=flat (λp:Value×T=>en p.1 p.2) (dY.zip L)++en nv x:=by rw[nh];simp[flat]
 rw[hz,pS,eE,hf];have h2:=Sep.vh ((h.pull 2 rfl).pull 2 rfl);have h3:=h2.swap;simpa using h3
def tu (c val x):(X.jb c val x).mark=x.mark:=by
 unfold X.jb X.lE X.taken X.wrote X.rm
 repeat' split
 all_goals first|rfl|((dsimp only;repeat' split)<;>rfl)
def Ad (c a x):(X.jc c a x).mark=x.mark:=by
 unfold X.jc;split
 ·exact tu _ _ _
 ·rfl
def qF (c x):(X.lE c x).1.mark=x.mark:=by unfold X.lE;split<;>rfl
def Qv (c args y):(X.act c args y).mark=y.mark:=by
 unfold X.act;split;rfl;split
 ·split<;>rfl
 split
 ·split<;>rfl
 split;rfl;split;rfl;split
 ·unfold X.root;split;rfl;split
  ·split
   ·exact qF c y
   ·exact qF c y
  ·exact Ad _ _ _
 split
 ·unfold X.fq;split;rfl;split
  ·split
   ·exact tu _ _ _
   ·rfl
  ·split
   ·exact tu _ _ _
   ·rfl
 split
 ·unfold X.fresh;split
  ·split
   ·exact(Ad c (P.top c (X.lE c y).1.p).1 (X.lE c y).1).trans (qF c y)
   ·exact qF c y
  ·exact qF c y
 ·rfl
def y4 (c val){x}(h:W.U_ x.rv):W.U_ (X.jb c val x).rv:=by
 have h0:W.U_ 0:=⟨by decide,by decide⟩;unfold X.jb X.lE X.taken X.wrote X.rm
 repeat' split
 all_goals first|exact h|exact h0|((dsimp only;repeat' split)<;>first|exact h|exact h0)
def Fs (c a){x}(h:W.U_ x.rv):W.U_ (X.jc c a x).rv:=by
 unfold X.jc;split
 ·exact y4 _ _ h
 ·exact h
def Dy (c){x}(h:W.U_ x.rv):W.U_ (X.lE c x).1.rv:=by
 have h0:W.U_ 0:=⟨by decide,by decide⟩;unfold X.lE;split
 ·exact h0
 ·exact h
def Zr (c args){y}(h:W.U_ y.rv)(hr:W.U_ (X.iE y y.i.a))(hi:W.U_ y.i.bN):W.U_ (X.act c args y).rv:=by
 have h0:W.U_ 0:=⟨by decide,by decide⟩;unfold X.act;split;exact h;split
 ·split<;>exact h
 split
 ·split<;>exact h
 split;exact hr;split;exact hi;split
 ·unfold X.root;split;exact h0;split
  ·split
   ·exact Dy c h
   ·exact Dy c h
  ·exact Fs _ _ h
 split
 ·unfold X.fq;split;exact h0;split
  ·split
   ·exact y4 _ _ h
   ·exact h
  ·split
   ·exact y4 _ _ h
   ·exact h
 split
 ·unfold X.fresh;split
  ·split
   ·exact Fs c _ (Dy c h)
   ·exact h0
  ·exact Dy c h
 ·exact h
def XG.Qw {c}(aE:Y.Ok c){code}(hr:I_.right code=true)(hu:∀i∈code,W.U_ i.bN){args x}(h:XG c code x)(hs:x.s=0)(hv:W.U_ x.rv):W.U_ (X.round c code args x).1.rv:=by
 have h0:W.U_ 0:=⟨by decide,by decide⟩;unfold X.round X.step;split
 ·split
  ·exact h0
  ·have hy:=JY aE hr hu h.r.zero (h.pc hs) (by omega);exact Zr c args (y:=X.jd code x) hv (hy.iE _) hy.im
 ·split;exact hv;split;exact hv;split;exact h0;exact y4 c x.v.val (x:={x with waits:=false}) hv
def XG.Dz {c}(aE:Y.Ok c){code}(hr:I_.right code=true)(hu:∀i∈code,W.U_ i.bN){args}(ha:∀r∈args,W.U_ r):∀(n:Nat) {x:X.St},XG c code x→W.U_ x.rv→W.U_ (X.gA c code args n x).rv
 |0,x,_,h=>h
 |n+1,x,h,hv=>by
  unfold X.gA;split
  ·exact hv
  ·rename_i hs;have h1:=h.round aE hr hu ha (by omega);have h2:=h.Qw aE hr hu (args:=args) (by omega) hv;split
   ·exact XG.Dz aE hr hu ha n h1.1 h2
   ·exact h2
def uw (c code args x):(X.round c code args x).1.mark=x.mark:=by
 unfold X.round X.step;split
 ·split
  ·rfl
  ·exact Qv c args (X.jd code x)
 ·split;rfl;split;rfl;split;rfl;exact tu c x.v.val {x with waits:=false}
def tw (c code args):∀(n:Nat) (x:X.St),(X.gA c code args n x).mark=x.mark
 |0,x=>rfl
 |n+1,x=>by
  unfold X.gA;split;rfl;split
  ·rw[tw c code args n];exact uw c code args x
  ·exact uw c code args x
def XG.gA {c}(aE:Y.Ok c){code}(hr:I_.right code=true)(hu:∀i∈code,W.U_ i.bN){args}(ha:∀r∈args,W.U_ r):∀(n:Nat) {x:X.St},XG c code x→XG c code (X.gA c code args n x)
 |0,x,h=>h
 |n+1,x,h=>by
  unfold X.gA;split
  ·exact h
  ·rename_i hs;have h1:=h.round aE hr hu ha (by omega);split
   ·exact XG.gA aE hr hu ha n h1.1
   ·exact h1.1
def XG.run {c}(aE:Y.Ok c){code}(hr:I_.right code=true)(hu:∀i∈code,W.U_ i.bN){args}(ha:∀r∈args,W.U_ r){x}(h:XG c code x):XG c code (X.run c code args x):=XG.gA aE hr hu ha _ h
def XG.new {c}(aE:Y.Ok c){code}(hu:∀i∈code,W.U_ i.bN){args}(ha:∀r∈args,W.U_ r){v p s}(hd:s.done.length≤500000)(NX:W.ou s)(hv:W.U_ v.val)(mY:0≤p.nt∧p.nt≤c.b)(kA:0≤p.nl∧p.nl≤b_ c):
 XG c code (X.new c code args v p s)∧(X.new c code args v p s).mark=s.done.length∧((X.new c code args v p s).s=0→I_.right code=true):=by
 unfold X.new;split
 ·rename_i hr;exact⟨XG.run aE hr hu ha (XI.start aE hd NX hv mY kA (λh=>(c_ h).1) hr),by unfold X.run;rw[tw];rfl,λ_=>hr⟩
 ·have h0:=(XI.start (code:=[⟨20,1,0,0,0⟩]) aE hd NX hv mY kA (λ_=>by decide) (by decide)).r.zero.fail 30 0;exact⟨⟨XR.of rfl {h0 with S5:=λh0=>absurd h0 (by show¬(1:Int)=0;decide)},λh0=>absurd h0 (by show¬(1:Int)=0;decide)⟩,rfl,λh0=>absurd h0 (by show¬(1:Int)=0;decide)⟩
def XG.tell {c}(aE:Y.Ok c){code}(hu:∀i∈code,W.U_ i.bN){args}(ha:∀r∈args,W.U_ r){x}(hr:x.s=0→I_.right code=true)(h:XG c code x)(seq v n)(hv:W.U_ v):
 XG c code (X.tell c code args seq v n x)∧(X.tell c code args seq v n x).mark=x.mark∧((X.tell c code args seq v n x).s=0→I_.right code=true):=by
 unfold X.tell;split
 ·rename_i hs;exact⟨h,rfl,λe=>absurd e hs⟩
 ·rename_i hs;exact⟨XG.run aE (hr (by omega)) hu ha (h.told seq v n hv),by unfold X.run;rw[tw],λ_=>hr (by omega)⟩
def XG.Iq {c}(aE:Y.Ok c){code}(hu:∀i∈code,W.U_ i.bN){args}(ha:∀r∈args,W.U_ r){v p s}(hd:s.done.length≤500000)(NX:W.ou s)(hv:W.U_ v.val)(mY:0≤p.nt∧p.nt≤c.b)(kA:0≤p.nl∧p.nl≤b_ c):
 W.U_ (X.new c code args v p s).rv:=by
 have h0:W.U_ 0:=⟨by decide,by decide⟩;unfold X.new;split
 ·rename_i hr;exact XG.Dz aE hr hu ha _ (XI.start aE hd NX hv mY kA (λh=>(c_ h).1) hr) h0
 ·exact h0
def XG.DA {c}(aE:Y.Ok c){code}(hu:∀i∈code,W.U_ i.bN){args}(ha:∀r∈args,W.U_ r){x}(hr:x.s=0→I_.right code=true)(h:XG c code x)(seq v n)(hv:W.U_ v)(hx:W.U_ x.rv):W.U_ (X.tell c code args seq v n x).rv:=by
 unfold X.tell;split
 ·exact hx
 ·rename_i hs;exact XG.Dz aE (hr (by omega)) hu ha _ (h.told seq v n hv) hx
structure BV (c:cA)(m:Int)(x:X.St):Prop where
 dn:(x.w.done.length:Int)≤m
 wu:W.ou x.w
 vv:W.U_ x.v.val
 nt:0≤x.p.nt∧x.p.nt≤c.b
 nl:0≤x.p.nl∧x.p.nl≤b_ c
structure BB (c:cA)(k:Int)(b:B.St):Prop where
 args:b.args.length=4
 au:∀r∈b.args,W.U_ r
 u:0≤b.u∧b.u≤c.t
 us:b.s=0→b.u<c.t
 s:0≤b.s∧b.s≤2
 av:W.U_ b.av
 an:W.U_ b.an
 given:0≤b.given∧b.given≤4
 rows:(b.rows.length:Int)≤b.u+k
 news:∀r∈b.rows,r.news.length≤8∧W.U_ r.tag∧W.U_ r.rv
structure BI (c:cA)(ai:List (List In))(b:B.St):Prop where
 bb:BB c 0 b
 next:0≤b.next∧b.next≤4
 g3:b.s=0→b.next=3→b.given<4
 z:b.next=0→P.Ok c b.x.p∧b.x.w.done=[]
 xv:b.next≠4→BV c (2000+100*b.u) b.x
 x4:b.next=4→XG c b.code b.x∧b.x.mark≤2000+100*b.u∧b.code=B.bU ai b.av∧(b.x.s=0→I_.right b.code=true)∧W.U_ b.x.rv
def oP {c}(aE:Y.Ok c):b_ c≤520:=by
 have:=aE.t8;have:=aE.Jw;have:=aE.t1;have:=aE.w0;unfold b_;have h1:c.t*(c.w+1)≤8*(c.w+1):=CU aE.t8 (by omega);omega
def BI.new {c}(aE:Y.Ok c)(ai):BI c ai (B.fw c):=by
 have h1:=aE.t1;have h2:=aE.b1;have h3:=bK aE;have z:(0:Int)≤0:=by decide
 have z2:(0:Int)≤2:=by decide
 have zU:W.U_ 0:=⟨by decide,by decide⟩;refine⟨⟨rfl,?_,⟨z,by show(0:Int)≤c.t;omega⟩,λ_=>by show(0:Int)<c.t;omega,⟨z,z2⟩,zU,zU,⟨z,by show(0:Int)≤4;decide⟩,by simp[B.fw],by simp[B.fw]⟩,⟨z,by show(0:Int)≤4;decide⟩,λ_ h=>absurd h (by show¬(0:Int)=3;decide),λ_=>⟨P.Yy c aE,rfl⟩,λ_=>?_,λh=>absurd h (by show¬(0:Int)=4;decide)⟩
 ·intro r hr;have:r=0:=by simpa[B.fw]using hr
  subst this;exact zU
 ·refine⟨by simp[B.fw,X.eB],⟨by simp[B.fw,X.eB],by simp[B.fw,X.eB]⟩,zU,?_,?_⟩
  ·show(0:Int)≤0∧(0:Int)≤c.b;omega
  ·show(0:Int)≤0∧(0:Int)≤b_ c;omega
def oV {s}(h:W.ou s)(a){v}(hv:W.U_ v):W.ou (P.cU s a v):=W.ou.put h a hv
def lS (s a v):(P.cU s a v).done.length≤s.done.length+1:=W.mO s a v
def BV.end_ {c}(aE:Y.Ok c){m x}(h:BV c m x):BV c (m+2) {x with w:=P.end_ c x.p x.w}:=by
 have hb:=aE.nZ;have hl:=oP aE;have hn:=h.nt;have tE:=h.nl;have hd:=h.dn;have U1:W.U_ x.p.nt:=⟨hn.1,by omega⟩;have U2:W.U_ x.p.nl:=⟨tE.1,by omega⟩;have hw:W.ou (P.end_ c x.p x.w)∧(P.end_ c x.p x.w).done.length≤x.w.done.length+2:=by
  unfold P.end_;by_cases h1:x.p.nt≠x.p.wt<;>by_cases h2:x.p.nl≠x.p.wl
  ·simp only[aB h1,aB h2];have d1:=lS x.w (at_ c 12 0 0) x.p.nt;have d2:=lS (P.cU x.w (at_ c 12 0 0) x.p.nt) (at_ c 14 0 0) x.p.nl;exact⟨oV (oV h.wu _ U1) _ U2,by omega⟩
  ·simp only[aB h1,aq h2];have d1:=lS x.w (at_ c 12 0 0) x.p.nt;exact⟨oV h.wu _ U1,by omega⟩
  ·simp only[aq h1,aB h2];have d1:=lS x.w (at_ c 14 0 0) x.p.nl;exact⟨oV h.wu _ U2,by omega⟩
  ·simp only[aq h1,aq h2];exact⟨h.wu,by omega⟩
 exact⟨by have:=hw.2;dsimp only;omega,hw.1,h.vv,h.nt,h.nl⟩
def BV.mono {c m n x}(h:BV c m x)(hm:m≤n):BV c n x:={h with dn:=by have:=h.dn;omega}
def BI.pass {c}(aE:Y.Ok c){ai b}(hb:BB c 1 b)(hs:b.s=0)(hv:BV c (2000+100*b.u+98) b.x):BI c ai (B.pass c b):=by
 have NX:=hb.us hs;have hu:=hb.u;have hr:=hb.rows;unfold B.pass;split
 ·rename_i he;refine⟨{hb with u:=by dsimp only;omega,us:=λe=>absurd e (by show¬(1:Int)=0;decide),s:=⟨by(try dsimp only);decide,by(try dsimp only);decide⟩,rows:=by dsimp only;omega},⟨by(try dsimp only);decide,by(try dsimp only);decide⟩,λe=>absurd e (by show¬(1:Int)=0;decide),λe=>absurd e (by show¬(1:Int)=0;decide),λ_=>?_,λe=>absurd e (by show¬(1:Int)=4;decide)⟩;exact(BV.end_ aE hv).mono (by dsimp only;omega)
 ·rename_i he;refine⟨{hb with u:=by dsimp only;omega,us:=λ_=>by dsimp only;omega,rows:=by dsimp only;omega},⟨by(try dsimp only);decide,by(try dsimp only);decide⟩,λ_ e=>absurd e (by show¬(1:Int)=3;decide),λe=>absurd e (by show¬(1:Int)=0;decide),λ_=>?_,λe=>absurd e (by show¬(1:Int)=4;decide)⟩;exact hv.mono (by dsimp only;omega)
def Ae {c}(aE:Y.Ok c){code b}(hb:BB c 0 b)(hs:b.s=0)(hx:XG c code b.x)(hm:b.x.mark≤2000+100*b.u)(Ir:W.U_ b.x.rv):BB c 1 (B.ny c b)∧BV c (2000+100*b.u+98) (B.ny c b).x:=by
 have hz:=hx.r.zero;have hw:=aE.Jw;have JI:=hz.wr;have hd:=hz.dn;have Vg:=hz.nw;have hu:=hb.u;have hr:=hb.rows;have d1:=lS b.x.w (at_ c 8 b.u 0) (IntKind.u64.wrap b.x.rc);have d2:=lS (P.cU b.x.w (at_ c 8 b.u 0) (IntKind.u64.wrap b.x.rc)) (at_ c 9 b.u 0) b.x.rv;have d3:=lS (P.cU (P.cU b.x.w (at_ c 8 b.u 0) (IntKind.u64.wrap b.x.rc)) (at_ c 9 b.u 0) b.x.rv) (at_ c 7 b.u 0) b.an;unfold B.ny;refine⟨{hb with rows:=by dsimp only;rw[eE];simp only[dT,mD];omega,news:=λr hr=>?_},?_⟩
 ·rcases jQ.1 hr with h1|h1
  ·exact hb.news r h1
  ·simp only[jO]at h1;subst h1;exact⟨by dsimp only;omega,hb.an,Ir⟩
 ·exact⟨by dsimp only;omega,oV (oV (oV hz.wu _ (Ds _)) _ Ir) _ hb.an,hz.vv,hz.nt,hz.nl⟩
def BI.A_ {c}(aE:Y.Ok c){ai b}(h:BI c ai b)(hs:b.s=0)(h4:b.next=4):BI c ai (B.A_ c b):=by
 obtain⟨hx,hm,hc,hr,Ir⟩:=h.x4 h4;unfold B.A_;split
 ·exact{h with bb:={h.bb with us:=λe=>absurd e (by show¬(2:Int)=0;decide),s:=⟨by(try dsimp only);decide,by(try dsimp only);decide⟩},g3:=λe=>absurd e (by show¬(2:Int)=0;decide)}
 ·split
  ·have h1:=Ae aE h.bb hs hx hm Ir;exact BI.pass aE h1.1 hs h1.2
  ·exact h
def PU (ai:List (List In)):Prop:=∀code∈ai,∀i∈code,W.U_ i.bN
def PU.code {ai}(h:PU ai)(k):∀i∈B.bU ai k,W.U_ i.bN:=by
 unfold B.bU;split
 ·by_cases hl:k.toNat<ai.length
  ·rw[show ai.getD k.toNat []=ai[k.toNat] by simp[List.getD,hl]];exact h _ (cJ hl)
  ·rw[show ai.getD k.toNat []=[] by simp[List.getD,lg (show ai.length≤k.toNat by omega)]];simp
 ·simp
def BI.dI {c}(aE:Y.Ok c){ai}(hP:PU ai){b}(hb:BB c 0 b)(hs:b.s=0)(hv:BV c (2000+100*b.u) b.x):BI c ai (B.dI c ai b):=by
 have hu:=hb.u;have ht:=aE.t8;have hd:=hv.dn;have h1:=XG.new aE (hP.code b.av) hb.au (v:=b.x.v) (p:=b.x.p) (s:=b.x.w) (by omega) hv.wu hv.vv hv.nt hv.nl;have h2:=XG.Iq aE (hP.code b.av) hb.au (v:=b.x.v) (p:=b.x.p) (s:=b.x.w) (by omega) hv.wu hv.vv hv.nt hv.nl;unfold B.dI;refine BI.A_ aE ?_ hs rfl;exact⟨{hb with},⟨by(try dsimp only);decide,by(try dsimp only);decide⟩,λ_ e=>absurd e (by show¬(4:Int)=3;decide),λe=>absurd e (by show¬(4:Int)=0;decide),λe=>absurd rfl e,λ_=>⟨h1.1,by dsimp only;rw[h1.2.1];omega,rfl,h1.2.2,h2⟩⟩
def BV.zap {c m x}(h:BV c m x)(v)(hv:W.U_ v.val):BV c m {x with v:=v}:={h with vv:=hv}
def BI.tag {c}(aE:Y.Ok c){ai b}(hb:BB c 0 b)(hs:b.s=0)(hn:b.next=2)(hv:BV c (2000+100*b.u) b.x):BI c ai (B.tag c b):=by
 unfold B.tag;split
 ·exact⟨{hb with us:=λe=>absurd e (by show¬(2:Int)=0;decide),s:=⟨by(try dsimp only);decide,by(try dsimp only);decide⟩},by dsimp only;omega,λe=>absurd e (by show¬(2:Int)=0;decide),λe=>by dsimp only at e;omega,λ_=>hv,λe=>by dsimp only at e;omega⟩
 ·split
  ·exact BI.pass aE {hb with rows:=by have:=hb.rows;omega} hs (hv.mono (by omega))
  ·exact⟨{hb with given:=⟨by(try dsimp only);decide,by(try dsimp only);decide⟩},⟨by(try dsimp only);decide,by(try dsimp only);decide⟩,λ_ _=>by show(0:Int)<4;decide,λe=>absurd e (by show¬(3:Int)=0;decide),λ_=>hv,λe=>absurd e (by show¬(3:Int)=4;decide)⟩
def BI.je {c}(aE:Y.Ok c){ai b}(hb:BB c 0 b)(hs:b.s=0)(hv:BV c (2000+100*b.u) b.x):BI c ai (B.je c b):=by
 unfold B.je;split
 ·exact BI.pass aE {hb with rows:=by have:=hb.rows;omega} hs (hv.mono (by omega))
 ·exact⟨{hb with},⟨by(try dsimp only);decide,by(try dsimp only);decide⟩,λ_ e=>absurd e (by show¬(2:Int)=3;decide),λe=>absurd e (by show¬(2:Int)=0;decide),λ_=>hv.zap _ (Cg c _ hv.vv),λe=>absurd e (by show¬(2:Int)=4;decide)⟩
def mQ (c):∀(l:List Int) (k kept:Int) (x:P.St×W.S),(∀b∈l,W.U_ b)→0≤kept→(0≤x.1.nt∧x.1.nt≤c.b)→W.ou x.2→
 (0≤(P.fP c l k kept x).1.nt∧(P.fP c l k kept x).1.nt≤c.b)∧W.ou (P.fP c l k kept x).2.1∧(P.fP c l k kept x).2.1.done.length≤x.2.done.length+2*l.length∧(0≤(P.fP c l k kept x).2.2∧(P.fP c l k kept x).2.2≤kept+l.length)
 |[],k,kept,x,_,h1,h2,h3=>⟨h2,h3,by simp[P.fP],by simp[P.fP];omega⟩
 |b::r,k,kept,x,hl,h1,h2,h3=>by
  have h0:W.U_ 0:=⟨by(try dsimp only);decide,by(try dsimp only);decide⟩;have hb:=hl b List.mem_cons_self;have hl':∀b∈r,W.U_ b:=λb hb=>hl b (oB _ hb);unfold P.fP;have d1:=lS x.2 (at_ c 11 b 0) 0;have d2:=lS (P.cU x.2 (at_ c 11 b 0) 0) (at_ c 13 x.1.nt 0) b;have d3:=lS x.2 (at_ c 15 kept 0) b;simp only[dT];split
  ·have:=mQ c r (k+1) kept x hl' h1 h2 h3;exact⟨this.1,this.2.1,fT this.2.2.1 (by omega),this.2.2.2.1,oJ this.2.2.2.2 (by omega)⟩
  split
  ·unfold P.release;split
   ·rename_i hc;have:=mQ c r (k+1) kept ({x.1 with nt:=x.1.nt+1},P.cU (P.cU x.2 (at_ c 11 b 0) 0) (at_ c 13 x.1.nt 0) b) hl' h1 (by dsimp only;omega) (oV (oV h3 _ h0) _ hb);dsimp only at this;exact⟨this.1,this.2.1,fT this.2.2.1 (by omega),this.2.2.2.1,oJ this.2.2.2.2 (by omega)⟩
   ·have:=mQ c r (k+1) kept (x.1,P.cU x.2 (at_ c 11 b 0) 0) hl' h1 h2 (oV h3 _ h0);dsimp only at this;exact⟨this.1,this.2.1,fT this.2.2.1 (by omega),this.2.2.2.1,oJ this.2.2.2.2 (by omega)⟩
  split
  ·have:=mQ c r (k+1) (kept+1) (x.1,P.cU x.2 (at_ c 15 kept 0) b) hl' (by omega) h2 (oV h3 _ hb);dsimp only at this;exact⟨this.1,this.2.1,fT this.2.2.1 (by omega),this.2.2.2.1,oJ this.2.2.2.2 (by omega)⟩
  ·have:=mQ c r (k+1) (kept+1) x hl' (by omega) h2 h3;exact⟨this.1,this.2.1,fT this.2.2.1 (by omega),this.2.2.2.1,oJ this.2.2.2.2 (by omega)⟩
def BI.mL {c}(aE:Y.Ok c){ai b}(hb:BB c 0 b)(hs:b.s=0)(hn:b.next=0)(hp:P.Ok c b.x.p)(hd:b.x.w.done=[])(hv:BV c (2000+100*b.u) b.x):BI c ai (B.mL c b):=by
 have hu:=hb.u;unfold B.mL;split
 ·exact⟨{hb with us:=λe=>absurd e (by show¬(2:Int)=0;decide),s:=⟨by(try dsimp only);decide,by(try dsimp only);decide⟩},by dsimp only;omega,λe=>absurd e (by show¬(2:Int)=0;decide),λ_=>⟨hp,hd⟩,λ_=>hv,λe=>by dsimp only at e;omega⟩
 ·split
  ·unfold B.settled;refine⟨{hb with},⟨by(try dsimp only);decide,by(try dsimp only);decide⟩,λ_ e=>absurd e (by show¬(1:Int)=3;decide),λe=>absurd e (by show¬(1:Int)=0;decide),λ_=>?_,λe=>absurd e (by show¬(1:Int)=4;decide)⟩;have h1:=mQ c b.x.p.bS 0 0 (b.x.p,b.x.w) hp.bS (by decide) hp.nt hv.wu;have hl:=hp.len;have vu:=hp.wl;have SV:=oP aE;have h0:b.x.w.done.length=0:=by rw[hd];rfl
   unfold P.settle;dsimp only at h1⊢;exact⟨by dsimp only;omega,h1.2.1,hv.vv,h1.1,by dsimp only;omega⟩
  ·exact⟨{hb with},by omega,λ_ e=>by omega,λ_=>⟨hp,hd⟩,λ_=>hv,λe=>by omega⟩
def BI.tell {c}(aE:Y.Ok c){ai}(hP:PU ai){b}(h:BI c ai b)(seq val n)(hv:W.U_ val)(hn:W.U_ n):BI c ai (B.tell c ai seq val n b):=by
 have hb:=h.bb;have kT:=h.next;unfold B.tell;split
 ·exact h
 ·rename_i hs;have hs:b.s=0:=by omega
  split
  ·rename_i h0;have hz:=h.z h0;refine BI.mL aE (b:={b with x:={b.x with p:=P.tell c seq val n b.x.p}}) {hb with} hs h0 (P.vw aE hz.1 seq val n hv) hz.2 ?_;have hx:=h.xv (by omega);exact{hx with nt:=(P.vw aE hz.1 seq val n hv).nt,nl:=(P.vw aE hz.1 seq val n hv).nl}
  split
  ·rename_i h0 h1;exact BI.je aE (b:={b with av:=val,an:=n}) {hb with av:=hv,an:=hn} hs (h.xv (by omega))
  split
  ·rename_i h0 h1 h2;have hx:=h.xv (by omega);exact BI.tag aE (b:={b with x:={b.x with v:=Vw.tell seq val n b.x.v}}) {hb with} hs h2 (hx.zap _ (vF seq val n hv hx.vv))
  split
  ·rename_i h0 h1 h2 h3;have hx:=h.xv (by omega);have hg:=h.g3 hs h3;have Xj:=hb.given;have p6:∀r∈b.args.set b.given.toNat val,W.U_ r:=λr hr=>by
    rcases k_ hr with h1|h1
    ·exact hb.au r h1
    ·subst h1;exact hv
   have yU:BB c 0 {b with args:=b.args.set b.given.toNat val,given:=b.given+1}:={hb with args:=by dsimp only;rw[cF];exact hb.args,au:=p6,given:=by dsimp only;omega};split
   ·exact BI.dI aE hP yU hs hx
   ·rename_i h4;exact⟨yU,kT,λ_ _=>by dsimp only;omega,λe=>by dsimp only at e;omega,λ_=>hx,λe=>by dsimp only at e;omega⟩
  ·rename_i h0 h1 h2 h3;have h4:b.next=4:=by omega
   obtain⟨hx,hm,hc,hr,Ir⟩:=h.x4 h4;have hu:∀i∈b.code,W.U_ i.bN:=by rw[hc];exact hP.code _
   have t1:=hx.tell aE hu hb.au hr seq val n hv;have t2:=hx.DA aE hu hb.au hr seq val n hv Ir;refine BI.A_ aE ?_ hs h4;exact⟨{hb with},kT,λ_ e=>by dsimp only at e;omega,λe=>by dsimp only at e;omega,λe=>absurd h4 e,λ_=>⟨t1.1,by dsimp only;rw[t1.2.1];exact hm,hc,t1.2.2,t2⟩⟩
end Go.Proofs.YtolkmchicplaoaaGreat
namespace Go.Proofs.YtolkmchicplaoaaGreat
open Go.RowKit Go.aS Go.aS.I_ Go.aS.Y
structure WK (c:Y.cA)(mark:Int)(Q:W.S→Prop):Prop where
 put:∀s kd i j v,Q s→(kd=10∨kd=11∨kd=15∨kd=16)→Q (P.cU s (at_ c kd i j) v)
 back:∀s,Q s→Q (W.back s mark).1
section
variable {c:Y.cA} {Q:W.S→Prop} {x:X.St}
def WK.fail (h:WK c x.mark Q)(hx:Q x.w)(e v):Q (X.fail e v x).w:=h.back _ hx
def WK.lE (h:WK c x.mark Q)(hx:Q x.w):Q (X.lE c x).1.w:=by
 unfold X.lE;split
 ·exact h.fail hx _ _
 ·exact hx
def WK.re {mark}(h:WK c mark Q)(b n s)(hs:Q s):Q (P.re c b n s):=by
 induction n with
 |zero=>exact hs
 |succ n ih=>
  have h1:=h.put _ 16 b (n:Int) 0 ih (.inr (.inr (.inr rfl)));exact h1
def WK.take {mark}(h:WK c mark Q)(b p){s}(hs:Q s):Q (P.take c b p s).2:=by
 unfold P.take;split
 ·exact hs
 ·have h1:=h.put s 11 b 0 1 hs (.inr (.inl rfl));have h2:=h.re b 8 _ h1;dsimp only;exact h2
def WK.nM {mark}(h:WK c mark Q)(b p){s}(hs:Q s):Q (P.nM c b p s).2:=by
 unfold P.nM;split
 ·exact hs
 ·have h1:=h.put s 11 b 0 2 hs (.inr (.inl rfl));have h2:=h.put _ 15 p.nl 0 b h1 (.inr (.inr (.inl rfl)));dsimp only;exact h2
def WK.taken (h:WK c x.mark Q)(hx:Q x.w)(b):Q (X.taken c b x).w:=by
 unfold X.taken;split
 ·exact h.fail hx _ _
 ·exact h.take _ _ hx
def WK.jb (h:WK c x.mark Q)(hx:Q x.w)(val):Q (X.jb c val x).w:=by
 have hp:=h.lE hx;unfold X.jb;split;exact hx;split;exact h.taken hx _;split
 ·split
  ·exact h.put _ _ _ _ _ hp (by omega)
  ·exact hp
 split
 ·split
  ·exact h.nM _ _ hp
  ·exact hp
 ·exact hx
def WK.jc (h:WK c x.mark Q)(hx:Q x.w)(a):Q (X.jc c a x).w:=by
 unfold X.jc;split
 ·exact h.jb hx _
 ·exact hx
def WK.root (h:WK c x.mark Q)(hx:Q x.w):Q (X.root c x).w:=by
 have hp:=h.lE hx;unfold X.root;split;exact h.fail hx _ _;split
 ·split
  ·exact h.put _ _ _ _ _ hp (by omega)
  ·exact hp
 ·exact h.jc hx _
def WK.fq (h:WK c x.mark Q)(hx:Q x.w):Q (X.fq c x).w:=by
 unfold X.fq;split;exact h.fail hx _ _;split
 ·split
  ·exact h.jb hx _
  ·exact hx
 split
 ·exact h.jb hx _
 ·exact hx
def WK.fresh (h:WK c x.mark Q)(hx:Q x.w):Q (X.fresh c x).w:=by
 have hp:=h.lE hx;have h2:WK c (X.lE c x).1.mark Q:=by rw[qF];exact h
 unfold X.fresh;split
 ·split
  ·exact h2.jc hp _
  ·exact h2.fail hp _ _
 ·exact hp
def WK.act (h:WK c x.mark Q)(hx:Q x.w)(args):Q (X.act c args x).w:=by
 unfold X.act;split;exact hx;split
 ·split<;>exact hx
 split
 ·split<;>exact hx
 split;exact hx;split;exact h.fail hx _ _;split;exact h.root hx;split;exact h.fq hx;split;exact h.fresh hx;exact hx
def WK.round (h:WK c x.mark Q)(hx:Q x.w)(code args):Q (X.round c code args x).1.w:=by
 unfold X.round;split
 ·unfold X.step;split
  ·exact h.fail hx _ _
  ·exact WK.act (x:=X.jd code x) h hx args
 split;exact hx;split;exact hx;split;exact h.fail hx _ _;exact WK.jb (x:={x with waits:=false}) h hx _
def WK.gA (code args):∀(n:Nat) {x:X.St},WK c x.mark Q→Q x.w→Q (X.gA c code args n x).w
 |0,x,h,hx=>hx
 |n+1,x,h,hx=>by
  have hr:=h.round hx code args;unfold X.gA;split;exact hx;split
  ·exact WK.gA code args n (by rw[uw];exact h) hr
  ·exact hr
def WK.run (h:WK c x.mark Q)(hx:Q x.w)(code args):Q (X.run c code args x).w:=WK.gA code args _ h hx
def WK.new (code args v p){w}(h:WK c w.done.length Q)(hw:Q w):Q (X.new c code args v p w).w:=by
 unfold X.new;split
 ·exact WK.run (x:=X.eB v p w) h hw code args
 ·exact WK.fail (x:=X.eB v p w) h hw 30 0
def WK.tell (h:WK c x.mark Q)(hx:Q x.w)(code args seq v n):Q (X.tell c code args seq v n x).w:=by
 unfold X.tell;split
 ·exact hx
 ·exact WK.run (x:={x with v:=Vw.tell seq v n x.v}) h hx code args
end
def run_mark (c code args x):(X.run c code args x).mark=x.mark:=tw c code args _ x
def Su (c code args v p w):(X.new c code args v p w).mark=w.done.length:=by
 unfold X.new;split
 ·exact run_mark c code args _
 ·rfl
def Nv (c code args seq v n x):(X.tell c code args seq v n x).mark=x.mark:=by
 unfold X.tell;split
 ·rfl
 ·exact run_mark c code args _
structure VI (c:Y.cA)(v:Vw.V):Prop where
 st:0≤v.step∧v.step≤3
 ar:v.step=1∨v.step=2→0≤v.block∧v.block<c.b∧(v.at_= -1∨(0≤v.at_∧v.at_<size c∧(jt c v.at_).1=16∧(jt c v.at_).2.1=v.block))
 at3:v.step=3→0≤v.at_∧v.at_<size c∧7≤(jt c v.at_).1
def Js {c p}(h:0≤(jt c p).1):0≤p∧p<size c:=by
 unfold jt at h;split at h
 ·assumption
 ·dsimp only at h;omega
def Ku {c kd i j}(h:at_ c kd i j≠-1):Is c kd i j∧at_ c kd i j=place c kd i j:=by
 unfold at_ at h⊢;split
 ·rename_i h1;exact⟨h1,rfl⟩
 ·rename_i h1;rw[aq h1]at h;exact absurd rfl h
def pL {c}(aE:Y.Ok c){kd i j}(h:at_ c kd i j≠-1):jt c (at_ c kd i j)=(kd,i,j):=by
 have h1:=Ku h;rw[h1.2];exact lD aE h1.1
def VI.nu {c v}(h1:0≤v.block∧v.block<c.b)(h2:v.at_= -1∨(0≤v.at_∧v.at_<size c∧(jt c v.at_).1=16∧(jt c v.at_).2.1=v.block)):VI c (Vw.nu v):=by
 unfold Vw.nu;split
 ·exact⟨by dsimp only;omega,λe=>by dsimp only at e;omega,λe=>by dsimp only at e;omega⟩
 ·exact⟨by dsimp only;omega,λe=>by dsimp only at e;omega,λ_=>by dsimp only;omega⟩
def VI.fq {c v b a}(h1:0≤b∧b<c.b)(h2:a= -1∨(0≤a∧a<size c∧(jt c a).1=16∧(jt c a).2.1=b)):VI c (Vw.fq b a v):=by
 unfold Vw.fq;split
 ·exact VI.nu (v:={v with block:=b,at_:=a,step:=1}) h1 h2
 ·exact⟨by dsimp only;omega,λ_=>⟨h1.1,h1.2,h2⟩,λe=>by dsimp only at e;omega⟩
def VI.idle {c v}(h:v.step=0):VI c v:=⟨by omega,λe=>by omega,λe=>by omega⟩
def VI.qs {c v}(h:VI c v)(ok):VI c (Vw.qs ok v).1:=by
 unfold Vw.qs;split
 ·exact h
 ·exact VI.idle rfl
def VI.cell {c v}(h:VI c v)(p):VI c (Vw.cell c p v):=by
 have hb:=h.qs (Vw.inner c p);unfold Vw.cell;split
 ·rename_i e;have hi:Vw.inner c p=true:=by
   unfold Vw.qs at e;split at e
   ·cases e
   ·exact e
  unfold Vw.inner at hi;simp only[gG]at hi;have:=Js (c:=c) (p:=p) (by omega);exact⟨by dsimp only;omega,λe=>by dsimp only at e;omega,λ_=>by dsimp only;omega⟩
 ·exact hb
def VI.word {c}(aE:Y.Ok c){v}(h:VI c v)(b x):VI c (Vw.word c b x v):=by
 have hb:=h.qs (decide (Y.at_ c 16 b x≠-1));unfold Vw.word;split
 ·rename_i e;have hi:decide (Y.at_ c 16 b x≠-1)=true:=by
   unfold Vw.qs at e;split at e
   ·cases e
   ·exact e
  simp only[gG]at hi;have h1:=Ku hi;have h2:=pL aE hi;have h3:=Js (c:=c) (p:=at_ c 16 b x) (by rw[h2];show(0:Int)≤16;decide);refine VI.fq ?_ (.inr ⟨h3.1,h3.2,by rw[h2],by rw[h2]⟩);have:=h1.1;unfold Is cr aP each at this;simp at this;omega
 ·exact hb
def VI.live {c}(aE:Y.Ok c){v}(h:VI c v)(b):VI c (Vw.live c b v):=by
 have hb:=h.qs (decide (Y.at_ c 11 b 0≠-1));unfold Vw.live;split
 ·rename_i e;have hi:decide (Y.at_ c 11 b 0≠-1)=true:=by
   unfold Vw.qs at e;split at e
   ·cases e
   ·exact e
  simp only[gG]at hi;have h1:=Ku hi;refine VI.fq ?_ (.inl rfl);have:=h1.1;unfold Is cr aP each at this;simp at this;omega
 ·exact hb
def VI.tell {c v}(h:VI c v)(seq x n):VI c (Vw.tell seq x n v):=by
 unfold Vw.tell;split
 ·rename_i e;have:=h.ar (.inl e);exact⟨by dsimp only;omega,λ_=>this,λe=>by dsimp only at e;omega⟩
 split
 ·rename_i e0 e;unfold Vw.pW;split;exact VI.idle rfl;split;exact VI.idle rfl;split
  ·have:=h.ar (by omega);exact VI.nu (v:={v with step:=0}) ⟨this.1,this.2.1⟩ this.2.2
  ·exact VI.idle rfl
 ·exact h
section
variable {c:Y.cA} {x:X.St}
def pM (c x):(X.lE c x).1.v=x.v:=by unfold X.lE;split<;>rfl
def sT (c val x):(X.jb c val x).v=x.v:=by
 unfold X.jb;split;rfl;split
 ·unfold X.taken;split<;>rfl
 split
 ·split
  ·exact pM c x
  ·exact pM c x
 split
 ·split
  ·exact pM c x
  ·exact pM c x
 ·rfl
def Gs (h:VI c x.v)(a):VI c (X.jc c a x).v:=by
 unfold X.jc;split
 ·rw[sT];exact h
 ·exact h.cell a
def aa7 (aE:Y.Ok c)(h:VI c x.v)(args):VI c (X.act c args x).v:=by
 unfold X.act;split;exact h;split
 ·split<;>exact h
 split
 ·split<;>exact h
 split;exact h;split;exact h;split
 ·unfold X.root;split;exact h;split
  ·split
   ·show VI c (X.lE c x).1.v;rw[pM];exact h
   ·rw[pM];exact h
  ·exact Gs h _
 split
 ·unfold X.fq;split;exact h;split
  ·split
   ·rw[sT];exact h
   ·exact h.word aE _ _
  split
  ·rw[sT];exact h
  ·exact h.live aE _
 split
 ·unfold X.fresh;split
  ·split
   ·exact Gs (by rw[pM];exact h) _
   ·show VI c (X.lE c x).1.v;rw[pM];exact h
  ·rw[pM];exact h
 ·exact h
def Sv (aE:Y.Ok c)(h:VI c x.v)(code args):VI c (X.round c code args x).1.v:=by
 unfold X.round;split
 ·unfold X.step;split
  ·exact h
  ·exact aa7 (x:=X.jd code x) aE h args
 split;exact h;split;exact h;split;exact h;rw[sT];exact h
def D_ (aE:Y.Ok c)(code args):∀(n:Nat) {x:X.St},VI c x.v→VI c (X.gA c code args n x).v
 |0,x,h=>h
 |n+1,x,h=>by
  have hr:=Sv aE h code args;unfold X.gA;split;exact h;split
  ·exact D_ aE code args n hr
  ·exact hr
def aa8 (aE:Y.Ok c)(code args){v}(p w)(h:VI c v):VI c (X.new c code args v p w).v:=by
 unfold X.new;split
 ·exact D_ aE code args _ (x:=X.eB v p w) h
 ·exact h
def Wq (aE:Y.Ok c)(h:VI c x.v)(code args seq v n):VI c (X.tell c code args seq v n x).v:=by
 unfold X.tell;split
 ·exact h
 ·exact D_ aE code args _ (x:={x with v:=Vw.tell seq v n x.v}) (h.tell seq v n)
end
end Go.Proofs.YtolkmchicplaoaaGreat
namespace Go.aS.W
def look:List (Int×Int)→Int→Option Int
 |[],_=>none
 |e::l,a=>if e.1=a then some e.2 else look l a
def Gt (e:Int×Int)(l a):idx (e::l) a=if e.1=a then some 0 else(idx l a).map (·+1):=by
 unfold idx;rw[List.findIdx?_cons];by_cases h:e.1=a
 ·simp[h]
 ·simp[h]
def Gu:∀(l:List (Int×Int)) (a:Int),look l a=(idx l a).map (λi=>(l.getD i (0,0)).2)
 |[],a=>rfl
 |e::l,a=>by
  rw[Gt];unfold look;split
  ·rfl
  ·rw[Gu l a,Option.map_map];rfl
def AO:∀(l m:List (Int×Int)) (a:Int),look (l++m) a=(look l a).or (look m a)
 |[],m,a=>by simp[look]
 |e::l,m,a=>by
  show(if e.1=a then some e.2 else look (l++m) a)=(if e.1=a then some e.2 else look l a).or (look m a);split
  ·rfl
  ·exact AO l m a
def AP:∀(l:List (Int×Int)) (i:Nat) (a v b:Int),idx l a=some i→look (l.set i (a,v)) b=if b=a then some v else look l b
 |[],i,a,v,b,h=>by cases h
 |e::l,i,a,v,b,h=>by
  rw[Gt]at h;by_cases e1:e.1=a
  ·rw[aB e1]at h;obtain rfl:=eQ h;rw[aL];unfold look;dsimp only;by_cases e2:b=a
   ·rw[aB e2.symm,aB e2]
   ·rw[aq (λh=>e2 h.symm),aq e2,aq (by rw[e1];exact λh=>e2 h.symm)]
  ·rw[aq e1]at h;cases hi:idx l a with
   |none=>rw[hi]at h;cases h
   |some j=>
    rw[hi]at h;obtain rfl:=eQ h;rw[aN];unfold look;have ih:=AP l j a v b hi;by_cases e2:e.1=b
    ·rw[aB e2,aB e2,aq (by rw[←e2];exact e1)]
    ·rw[aq e2,aq e2,ih]
def Nw {l a}(h:idx l a=none):look l a=none:=by rw[Gu,h];rfl
def CM (s a v b)(h:b≠a):look (put s a v).1.list b=look s.list b:=by
 unfold put;split
 ·rename_i i hi;dsimp only;rw[AP _ _ _ _ _ hi,aq h]
 ·split
  ·rfl
  ·dsimp only;rw[AO];unfold look;rw[aq (λe=>h e.symm)];unfold look;simp
def Sw (s a v)(h:s.list.length<s.room∨(look s.list a).isSome=true):look (put s a v).1.list a=some v:=by
 unfold put;split
 ·rename_i i hi;dsimp only;rw[AP _ _ _ _ _ hi,aB rfl]
 ·rename_i hn;have h2:=Nw hn;split
  ·rename_i hr;rcases h with h|h
   ·omega
   ·rw[h2]at h;cases h
  ·dsimp only;rw[AO,h2];unfold look;simp
def keys (l:List (Int×Int)):List Int:=l.map (·.1)
def Wr {l a}(h:idx l a=none):a∉keys l:=by
 intro hm;unfold keys at hm;rw[mE]at hm;obtain⟨e,he,rfl⟩:=hm;obtain⟨i,hi,e2⟩:=qO he;exact vm h i hi (by rw[e2])
def Gv (s a v):keys (put s a v).1.list=keys s.list∨(a∉keys s.list∧keys (put s a v).1.list=keys s.list++[a]):=by
 unfold put;split
 ·rename_i i hi;obtain⟨hl,ha⟩:=kQ hi;left;dsimp only;unfold keys;rw[kE];apply uN;intro j;rw[tU];split
  ·rename_i e;subst e;rw[jE,cy hl];simp[hl,ha]
  ·rfl
 ·rename_i hn;split
  ·left;rfl
  ·right;exact⟨Wr hn,by unfold keys;simp⟩
def Nx {s}(h:(keys s.list).Nodup)(a v):(keys (put s a v).1.list).Nodup:=by
 rcases Gv s a v with e|⟨h1,e⟩
 ·rw[e];exact h
 ·rw[e,List.nodup_append];exact⟨h,by simp,λx hx y hy=>by rw[jO]at hy;subst hy;exact λe=>h1 (e▸hx)⟩
def Kv (s a v):s.done.length≤(put s a v).1.done.length:=by
 unfold put;split
 ·simp
 ·split
  ·exact dp _
  ·simp
def Gw:∀(d:List (Int×Int×Bool)) (l:List (Int×Int)),OZ d l→l.length≤d.length
 |[],l,h=>by rw[show l=[]from h];simp
 |c::r,l,h=>by
  obtain⟨⟨k,hk,hv⟩,h2⟩:=h;have ih:=Gw r _ h2;unfold ph at ih;rw[dT];by_cases hc:c.2.2=true
  ·rw[aB hc]at ih hv;rw[oE,hk]at ih;omega
  ·rw[aq hc,cF]at ih;omega
def Sx {s}(h:Good s):s.list.length≤s.done.length:=by
 have:=Gw _ _ h;rwa [List.length_reverse]at this
def Sy {s:S}(h:Good s)(a v m:Int)(h0:0≤m)(hm:m≤s.done.length):(back (put s a v).1 m).1=(back s m).1:=by
 have hl:=Kv s a v;unfold back;rw[aq (by omega),aq (by omega)];dsimp only;unfold put;split
 ·rename_i i hi;obtain⟨td,ha⟩:=kQ hi;dsimp only;have e:s.list.getD i (0,0)=s.list[i]:=by simp[List.getD,td]
  have hs:=np (s:={s with list:=s.list.set i (a,v),done:=s.done++[((i:Int),(s.list.getD i (0,0)).2,false)]}) (dr:=s.done) (c:=((i:Int),(s.list.getD i (0,0)).2,false)) rfl m.toNat (by omega);dsimp only at hs;rw[hs,e,EK td ha]
 ·split
  ·rfl
  ·dsimp only;have hs:=np (s:={s with list:=s.list++[(a,v)],done:=s.done++[((s.list.length:Int),0,true)]}) (dr:=s.done) (c:=((s.list.length:Int),0,true)) rfl m.toNat (by omega);dsimp only at hs;rw[hs,EL]
def Ny (s):(back s s.done.length).1=s:=by
 unfold back;rw[aq (by omega)];exact pB _ (by omega)
end Go.aS.W
namespace Go.Proofs.YtolkmchicplaoaaGreat
open Go.RowKit Go.aS Go.aS.I_ Go.aS.Y
def Key (c:Y.cA)(a:Int):Prop:=a= -1∨7≤(jt c a).1
def Sz {c}(aE:Y.Ok c){kd}(h:7≤kd)(i j):Key c (at_ c kd i j):=by
 by_cases e:at_ c kd i j= -1
 ·exact .inl e
 ·right;rw[pL aE e];exact h
structure WG (c:Y.cA)(s:W.S):Prop where
 room:s.room=(cap c).toNat
 rE:W.Good s
 nodup:(W.keys s.list).Nodup
 keys:∀a∈W.keys s.list,Key c a
def WG.put {c s}(h:WG c s){a}(ha:Key c a)(v):WG c (P.cU s a v):=by
 refine⟨(W.Pc s a v).trans h.room,W.EM h.rE a v,W.Nx h.nodup a v,λb hb=>?_⟩;rcases W.Gv s a v with e|⟨_,e⟩
 ·rw[show W.keys (P.cU s a v).list=_ from e]at hb;exact h.keys b hb
 ·rw[show W.keys (P.cU s a v).list=_ from e]at hb;rcases jQ.1 hb with h1|h1
  ·exact h.keys b h1
  ·rw[jO.1 h1];exact ha
def WG.new (c):WG c ⟨(cap c).toNat,[],[]⟩:=⟨rfl,rfl,by simp[W.keys],by simp[W.keys]⟩
def calm (c:Y.cA)(a:Int):Prop:=a≠-1∧(jt c a).1≠10∧(jt c a).1≠11∧(jt c a).1≠15∧(jt c a).1≠16
def Ws {c}(aE:Y.Ok c){a kd i j}(h:calm c a)(hk:kd=10∨kd=11∨kd=15∨kd=16):a≠at_ c kd i j:=by
 intro e;have hw:=pL aE (c:=c) (kd:=kd) (i:=i) (j:=j) (by rw[←e];exact h.1);unfold calm at h;rw[e,hw]at h;dsimp only at h;omega
structure QX (c:Y.cA)(w0 s:W.S):Prop where
 g:WG c s
 le:w0.done.length≤s.done.length
 bk:(W.back s w0.done.length).1=w0
 low:∀a,calm c a→W.look s.list a=W.look w0.list a
def QX.start {c w0}(h:WG c w0):QX c w0 w0:=⟨h,dp _,W.Ny w0,λ_ _=>rfl⟩
def QX.wk {c}(aE:Y.Ok c){w0}(h:WG c w0):WK c w0.done.length (QX c w0):=by
 refine⟨λs kd i j v hq hk=>⟨hq.g.put (Sz aE (by omega) i j) v,fT hq.le (W.Kv s _ v),?_,λa ha=>?_⟩,λs hq=>?_⟩
 ·show(W.back (W.put s _ v).1 _).1=w0;rw[W.Sy hq.g.rE _ _ _ (by omega) (by have:=hq.le;omega)];exact hq.bk
 ·show W.look (W.put s _ v).1.list a=_;rw[W.CM _ _ _ _ (Ws aE ha hk)];exact hq.low a ha
 ·rw[hq.bk];exact QX.start h
def nd (c:Y.cA)(u:Int):Int:=2*b_ c+u*(c.w+3)
def Kw (c u):nd c (u+1)=nd c u+(c.w+3):=by unfold nd;rw[Int.add_mul];omega
def al6 {c}(aE:Y.Ok c){u}(h:u≤c.t):nd c u+b_ c+2≤cap c:=by
 have:=aE.w0;have h2:u*(c.w+3)≤c.t*(c.w+3):=CU h (by omega);unfold nd cap;omega
def Wu (c):nd c 0=2*b_ c:=by unfold nd;omega
def Kx (rows:List B.Row)(u:Int):Option Int:=(rows.find? (λr=>decide (r.aw=u))).map (·.tag)
def Nz (rows r u)(h:∀x∈rows,x.aw≠r.aw):Kx (rows++[r]) u=if u=r.aw then some r.tag else Kx rows u:=by
 unfold Kx;rw[List.find?_append];by_cases e:u=r.aw
 ·subst e;rw[aB rfl];have:rows.find? (λx=>decide (x.aw=r.aw))=none:=by
   rw[List.find?_eq_none];intro x hx;simp[h x hx]
  rw[this];simp
 ·rw[aq e];have: [r].find? (λx=>decide (x.aw=u))=none:=by
   rw[List.find?_eq_none];intro x hx;rw[jO]at hx;subst hx;simp;exact λh=>e h.symm
  rw[this];simp
structure BS (c:Y.cA)(y:B.St)(k:Int)(w:W.S):Prop where
 g:WG c w
 dn:(w.done.length:Int)≤nd c y.u+k
 tags:∀u,0≤u→u<c.t→W.look w.list (at_ c 7 u 0)=Kx y.rows u
structure Tm (y:B.St)(k:Int):Prop where
 aw:∀r∈y.rows,0≤r.aw∧r.aw<y.u+k
 ord:y.rows.Pairwise (λa b=>a.aw<b.aw)
structure BJ (c:Y.cA)(y:B.St):Prop where
 z:y.next=0→y.x.w=⟨(cap c).toNat,[],[]⟩∧y.u=0∧y.rows=[]
 w:y.next≠0→y.next≠4→y.s≠1→BS c y 0 y.x.w
 w1:y.s=1→BS c y 2 y.x.w
 x4:y.next=4→∃w0,BS c y 0 w0∧(w0.done.length:Int)=y.x.mark∧QX c w0 y.x.w
 r:Tm y 0
def BJ.new (c):BJ c (B.fw c):=
 ⟨λ_=>⟨rfl,rfl,rfl⟩,λh=>absurd rfl h,λh=>absurd h (by show¬(0:Int)=1;decide),λh=>absurd h (by show¬(0:Int)=4;decide),⟨by simp[B.fw],by simp[B.fw]⟩⟩
def AQ {c}(aE:Y.Ok c){kd u}(hk:3≤kd∧kd≤9∧kd≠6)(h0:0≤u)(h1:u<c.t):at_ c kd u 0≠-1:=by
 have h2:Is c kd u 0:=by
  unfold Is cr aP each;have:=aE.t1;refine⟨h0,?_,by omega,?_⟩
  ·repeat' split
   all_goals omega
  ·repeat' split
   all_goals omega
 unfold at_;rw[aB h2];intro e;have h3:=lD aE h2;rw[e]at h3;unfold jt at h3;rw[aq (by omega)]at h3;have:=congrArg (·.1) h3;dsimp only at this;omega
def SA {c}(aE:Y.Ok c){kd i j kd2 i2 j2}(h:at_ c kd i j≠-1)(e:at_ c kd i j=at_ c kd2 i2 j2):kd=kd2∧i=i2∧j=j2:=by
 have h1:=pL aE h;have h2:=pL aE (c:=c) (kd:=kd2) (i:=i2) (j:=j2) (by rw[←e];exact h);rw[e,h2]at h1;simp only[nL]at h1;omega
def CN (s a v b)(h:b≠a):W.look (P.cU s a v).list b=W.look s.list b:=W.CM s a v b h
def BS.put {c}(aE:Y.Ok c){y k w}(h:BS c y k w){kd}(i j v)(hk:8≤kd):BS c y (k+1) (P.cU w (at_ c kd i j) v):=by
 have hd:=lS w (at_ c kd i j) v;have:=h.dn;refine⟨h.g.put (Sz aE (by omega) i j) v,by omega,λu h0 h1=>?_⟩;rw[CN,h.tags u h0 h1];intro e;have:=(SA aE (AQ aE (by omega) h0 h1) e).1;omega
def BS.end_ {c}(aE:Y.Ok c){y w}(h:BS c y 0 w)(p):BS c y 2 (P.end_ c p w):=by
 have h1:BS c y 1 (if p.nt≠p.wt then P.cU w (at_ c 12 0 0) p.nt else w):=by
  split
  ·exact h.put aE 0 0 _ (by omega)
  ·exact{h with dn:=by have:=h.dn;omega}
 unfold P.end_;dsimp only;split
 ·exact h1.put aE 0 0 _ (by omega)
 ·exact{h1 with dn:=by have:=h1.dn;omega}
def BJ.pass {c}(aE:Y.Ok c){y}(hs:y.s=0)(hw:BS c y (c.w+3) y.x.w)(hr:Tm y 1):BJ c (B.pass c y):=by
 have hn:=Kw c y.u;have hd:=hw.dn;unfold B.pass;split
 ·refine⟨λe=>absurd e (by show¬(1:Int)=0;decide),λ_ _ e=>absurd rfl e,λ_=>?_,λe=>absurd e (by show¬(1:Int)=4;decide),⟨λr h=>by have:=hr.aw r h;dsimp only;omega,hr.ord⟩⟩;have h2:BS c {y with u:=y.u+1} 0 y.x.w:=⟨hw.g,by dsimp only;omega,hw.tags⟩;have h3:=h2.end_ aE y.x.p;exact⟨h3.g,h3.dn,h3.tags⟩
 ·refine⟨λe=>absurd e (by show¬(1:Int)=0;decide),λ_ _ _=>⟨hw.g,by dsimp only;omega,hw.tags⟩,λe=>absurd e (by show¬y.s=1;omega),λe=>absurd e (by show¬(1:Int)=4;decide),⟨λr h=>by have:=hr.aw r h;dsimp only;omega,hr.ord⟩⟩
def BS.more {c y k k2 w}(h:BS c y k w)(hk:k≤k2):BS c y k2 w:={h with dn:=by have:=h.dn;omega}
def BS.ny {c}(aE:Y.Ok c){y}(hu:0≤y.u∧y.u<c.t){w0}(h:BS c y 0 w0)(hq:QX c w0 y.x.w)(hd:(y.x.w.done.length:Int)≤nd c y.u+c.w)(hr:Tm y 0):BS c (B.ny c y) (c.w+3) (B.ny c y).x.w∧Tm (B.ny c y) 1:=by
 have ht:BS c y c.w y.x.w:=⟨hq.g,hd,λu h0 h1=>by
  rw[hq.low _ ?_,h.tags u h0 h1];have h2:=AQ aE (kd:=7) (by omega) h0 h1;exact⟨h2,by rw[pL aE h2];dsimp only;omega⟩⟩
 have h1:=ht.put aE (kd:=8) y.u 0 (IntKind.u64.wrap y.x.rc) (by omega);have h2:=h1.put aE (kd:=9) y.u 0 y.x.rv (by omega);have DS:∀x∈y.rows,x.aw≠y.u:=λx hx=>by have:=hr.aw x hx;omega
 have hlen:=W.Sx h2.g.rE;have p5:=h2.dn;have xD:=h2.g.room;have XV:=al6 aE (c:=c) (u:=y.u+1) (by omega);have pH:=Kw c y.u;have hlp:=bK aE;unfold B.ny;generalize P.cU (P.cU y.x.w (at_ c 8 y.u 0) (IntKind.u64.wrap y.x.rc)) (at_ c 9 y.u 0) y.x.rv=w2 at*;have UD:=lS w2 (at_ c 7 y.u 0) y.an;have hu7:=AQ aE (kd:=7) (by omega) hu.1 hu.2;refine⟨⟨h2.g.put (.inr (by rw[pL aE hu7];show(7:Int)≤7;decide)) _,by dsimp only;omega,λu h0 h1=>?_⟩,⟨λr h=>?_,?_⟩⟩
 ·dsimp only;rw[Nz _ _ _ (by dsimp only;exact DS)];dsimp only;split
  ·rename_i e;subst e;exact W.Sw _ _ _ (.inl (by omega))
  ·rename_i e;rw[CN,h2.tags u h0 h1];intro e2;exact e (SA aE (AQ aE (by omega) h0 h1) e2).2.1
 ·rcases jQ.1 h with h1|h1
  ·have:=hr.aw r h1;dsimp only;omega
  ·rw[jO]at h1;subst h1;dsimp only;omega
 ·dsimp only;rw[List.pairwise_append];exact⟨hr.ord,by simp,λa ha b hb=>by rw[jO]at hb;subst hb;have:=hr.aw a ha;dsimp only;omega⟩
def BJ.A_ {c}(aE:Y.Ok c){ai y}(h:BI c ai y)(hs:y.s=0)(h4:y.next=4)(hx:∃w0,BS c y 0 w0∧(w0.done.length:Int)=y.x.mark∧QX c w0 y.x.w)(hr:Tm y 0):BJ c (B.A_ c y):=by
 obtain⟨hX,_⟩:=h.x4 h4;have hz:=hX.r.zero;have NX:=h.bb.us hs;have hu:=h.bb.u;unfold B.A_;split
 ·exact⟨λe=>by dsimp only at e;omega,λ_ e=>absurd h4 e,λe=>absurd e (by show¬(2:Int)=1;decide),λ_=>by obtain⟨w0,h1,h2⟩:=hx;exact⟨w0,⟨h1.g,h1.dn,h1.tags⟩,h2⟩,⟨hr.aw,hr.ord⟩⟩
 split
 ·obtain⟨w0,h1,h2,h3⟩:=hx;have p5:=hz.dn;have JI:=hz.wr;have h1d:=h1.dn;have h5:=BS.ny aE ⟨hu.1,NX⟩ h1 h3 (by omega) hr;exact BJ.pass aE hs h5.1 h5.2
 ·exact⟨λe=>by omega,λ_ e=>absurd h4 e,λe=>by omega,λ_=>hx,hr⟩
def mT {c}(aE:Y.Ok c)(y):∀(l:List Int) (k kept:Int) (x:P.St×W.S) (n:Int),BS c y n x.2→BS c y (n+2*l.length) (P.fP c l k kept x).2.1
 |[],k,kept,x,n,h=>by unfold P.fP;exact h.more (by simp)
 |b::r,k,kept,x,n,h=>by
  unfold P.fP;have hl:((b::r).length:Int)=r.length+1:=by simp
  split
  ·exact(mT aE y r _ _ _ _ h).more (by omega)
  split
  ·unfold P.release;split
   ·exact(mT aE y r _ _ ({x.1 with nt:=x.1.nt+1},P.cU (P.cU x.2 (at_ c 11 b 0) 0) (at_ c 13 x.1.nt 0) b) _ ((h.put aE (kd:=11) b 0 0 (by omega)).put aE (kd:=13) x.1.nt 0 b (by omega))).more (by omega)
   ·exact(mT aE y r _ _ (x.1,P.cU x.2 (at_ c 11 b 0) 0) _ (h.put aE (kd:=11) b 0 0 (by omega))).more (by omega)
  split
  ·exact(mT aE y r _ _ (x.1,P.cU x.2 (at_ c 15 kept 0) b) _ (h.put aE (kd:=15) kept 0 b (by omega))).more (by omega)
  ·exact(mT aE y r _ _ _ _ h).more (by omega)
def BJ.dI {c}(aE:Y.Ok c){ai}(hP:PU ai){y}(hI:BI c ai (B.dI c ai y))(hb:BB c 0 y)(hv:BV c (2000+100*y.u) y.x)(hs:y.s=0)(hw:BS c y 0 y.x.w)(hr:Tm y 0):BJ c (B.dI c ai y):=by
 have hu:=hb.u;have ht:=aE.t8;have hd:=hv.dn;have h1:=XG.new aE (hP.code y.av) hb.au (v:=y.x.v) (p:=y.x.p) (s:=y.x.w) (by omega) hv.wu hv.vv hv.nt hv.nl;have h2:=XG.Iq aE (hP.code y.av) hb.au (v:=y.x.v) (p:=y.x.p) (s:=y.x.w) (by omega) hv.wu hv.vv hv.nt hv.nl;have hq:QX c y.x.w (X.new c (B.bU ai y.av) y.args y.x.v y.x.p y.x.w).w:=WK.new _ _ _ _ (QX.wk aE hw.g) (QX.start hw.g);have hm:=Su c (B.bU ai y.av) y.args y.x.v y.x.p y.x.w;unfold B.dI;refine BJ.A_ aE (ai:=ai) ?_ hs rfl ⟨y.x.w,⟨hw.g,hw.dn,hw.tags⟩,hm.symm,hq⟩ ⟨hr.aw,hr.ord⟩;exact⟨{hb with},⟨by(try dsimp only);decide,by(try dsimp only);decide⟩,λ_ e=>absurd e (by show¬(4:Int)=3;decide),λe=>absurd e (by show¬(4:Int)=0;decide),λe=>absurd rfl e,λ_=>⟨h1.1,by dsimp only;rw[h1.2.1];omega,rfl,h1.2.2,h2⟩⟩
def BJ.tell {c}(aE:Y.Ok c){ai}(hP:PU ai){y}(hI:BI c ai y)(h:BJ c y)(seq val n)(hv:W.U_ val)(hn:W.U_ n):BJ c (B.tell c ai seq val n y):=by
 have hb:=hI.bb;have kT:=hI.next;have uH:=hI.tell aE hP seq val n hv hn;unfold B.tell at uH⊢;split
 ·exact h
 ·rename_i hs;rw[aq hs]at uH;have hs:y.s=0:=by omega
  split
  ·rename_i h0;rw[aB h0]at uH;obtain⟨hw,P_,N0⟩:=h.z h0;have hz:=hI.z h0;have tK:=P.vw aE hz.1 seq val n hv;generalize P.tell c seq val n y.x.p=p2 at*;have WL:∀y2:B.St,y2.rows=y.rows→Tm y2 0:=λy2 e=>⟨λr hr=>by rw[e,N0]at hr;simp at hr,by rw[e,N0];simp⟩;unfold B.mL;split
   ·exact⟨λ_=>⟨hw,P_,N0⟩,λe=>absurd h0 e,λe=>absurd e (by show¬(2:Int)=1;decide),λe=>by dsimp only at e;omega,WL _ rfl⟩
   split
   ·unfold B.settled;refine⟨λe=>absurd e (by show¬(1:Int)=0;decide),λ_ _ _=>?_,λe=>by dsimp only at e;omega,λe=>absurd e (by show¬(1:Int)=4;decide),WL _ rfl⟩;have h1:BS c y (-(2*b_ c)) y.x.w:=⟨by rw[hw];exact WG.new c,by rw[hw,P_,Wu];show(0:Int)≤_;omega,λu _ _=>by rw[hw,N0];rfl⟩;have h2:=mT aE y p2.bS 0 0 (p2,y.x.w) _ h1;have hl:=tK.len;have vu:=tK.wl;have h3:=h2.more (k2:=0) (by omega);unfold P.settle;dsimp only;exact⟨h3.g,h3.dn,h3.tags⟩
   ·exact⟨λ_=>⟨hw,P_,N0⟩,λe=>absurd h0 e,λe=>by dsimp only at e;omega,λe=>by dsimp only at e;omega,WL _ rfl⟩
  rename_i h0;rw[aq h0]at uH;split
  ·rename_i h1;rw[aB h1]at uH;have hw:=h.w h0 (by omega) (by omega);unfold B.je;split
   ·exact BJ.pass (y:={y with av:=val,an:=n}) aE hs (BS.more (y:={y with av:=val,an:=n}) (k:=0) ⟨hw.g,hw.dn,hw.tags⟩ (by have:=aE.w0;omega)) ⟨λr hr=>by have:=h.r.aw r hr;dsimp only;omega,h.r.ord⟩
   ·exact⟨λe=>absurd e (by show¬(2:Int)=0;decide),λ_ _ _=>⟨hw.g,hw.dn,hw.tags⟩,λe=>by dsimp only at e;omega,λe=>absurd e (by show¬(2:Int)=4;decide),⟨h.r.aw,h.r.ord⟩⟩
  rename_i h1;rw[aq h1]at uH;split
  ·rename_i h2;have hw:=h.w h0 (by omega) (by omega);unfold B.tag;split
   ·exact⟨λe=>by dsimp only at e;omega,λ_ _ _=>⟨hw.g,hw.dn,hw.tags⟩,λe=>absurd e (by show¬(2:Int)=1;decide),λe=>by dsimp only at e;omega,⟨h.r.aw,h.r.ord⟩⟩
   split
   ·exact BJ.pass (y:={y with x:={y.x with v:=Vw.tell seq val n y.x.v}}) aE hs (BS.more (y:={y with x:={y.x with v:=Vw.tell seq val n y.x.v}}) (k:=0) ⟨hw.g,hw.dn,hw.tags⟩ (by have:=aE.w0;omega)) ⟨λr hr=>by have:=h.r.aw r hr;dsimp only;omega,h.r.ord⟩
   ·exact⟨λe=>absurd e (by show¬(3:Int)=0;decide),λ_ _ _=>⟨hw.g,hw.dn,hw.tags⟩,λe=>by dsimp only at e;omega,λe=>absurd e (by show¬(3:Int)=4;decide),⟨h.r.aw,h.r.ord⟩⟩
  rename_i h2;rw[aq h2]at uH;split
  ·rename_i h3;rw[aB h3]at uH;have hw:=h.w h0 (by omega) (by omega);have hx:=hI.xv (by omega);have Xj:=hb.given;have hg:=hI.g3 hs h3;have p6:∀r∈y.args.set y.given.toNat val,W.U_ r:=λr hr=>by
    rcases k_ hr with h1|h1
    ·exact hb.au r h1
    ·subst h1;exact hv
   have yU:BB c 0 {y with args:=y.args.set y.given.toNat val,given:=y.given+1}:={hb with args:=by dsimp only;rw[cF];exact hb.args,au:=p6,given:=by dsimp only;omega};split
   ·rename_i h5;rw[aB h5]at uH;exact BJ.dI (y:={y with args:=y.args.set y.given.toNat val,given:=y.given+1}) aE hP uH yU hx hs ⟨hw.g,hw.dn,hw.tags⟩ ⟨h.r.aw,h.r.ord⟩
   ·exact⟨λe=>by dsimp only at e;omega,λ_ _ _=>⟨hw.g,hw.dn,hw.tags⟩,λe=>by dsimp only at e;omega,λe=>by dsimp only at e;omega,⟨h.r.aw,h.r.ord⟩⟩
  ·rename_i h3;have h4:y.next=4:=by omega
   obtain⟨hx,hm,hc,hr,Ir⟩:=hI.x4 h4;have hu:∀i∈y.code,W.U_ i.bN:=by rw[hc];exact hP.code _
   have t1:=hx.tell aE hu hb.au hr seq val n hv;have t2:=hx.DA aE hu hb.au hr seq val n hv Ir;obtain⟨w0,hS,Xz,hq⟩:=h.x4 h4;have LA:WK c y.x.mark (QX c w0):=by rw[←Xz];exact QX.wk aE hS.g
   refine BJ.A_ (y:={y with x:=X.tell c y.code y.args seq val n y.x}) aE (ai:=ai) ?_ hs h4 ⟨w0,⟨hS.g,hS.dn,hS.tags⟩,by dsimp only;rw[Nv];exact Xz,WK.tell LA hq _ _ _ _ _⟩ ⟨h.r.aw,h.r.ord⟩;exact⟨{hb with},kT,λ_ e=>by dsimp only at e;omega,λe=>by dsimp only at e;omega,λe=>absurd h4 e,λ_=>⟨t1.1,by dsimp only;rw[t1.2.1];exact hm,hc,t1.2.2,t2⟩⟩
end Go.Proofs.YtolkmchicplaoaaGreat
namespace Go.aS.Vw
open Go.aS.Y
def fin (c:cA)(σ:Int→Int)(v:V):V:=
 if v.step=3 then{v with step:=0,val:=σ v.at_,s:=1}
 else if v.step=1∨v.step=2 then
  (if σ (at_ c 11 v.block 0)=1 then(if v.at_= -1 then{v with held:=v.block,step:=0,s:=1}else{v with held:=v.block,step:=0,val:=σ v.at_,s:=1})
   else{v with held:=if v.step=1 then-1 else v.held,step:=0,s:=3})
 else v
def VS (v:V):Prop:=(v.s=0→v.step=1∨v.step=2∨v.step=3)∧(v.s≠0→v.step=0)
def VS.nu {v:V}(h:v.s=0):VS (nu v):=by
 unfold Vw.nu;split
 ·exact⟨λe=>by dsimp only at e;omega,λ_=>rfl⟩
 ·exact⟨λ_=> .inr (.inr rfl),λe=>absurd h e⟩
def VS.fq {v:V}(h:v.s=0)(b a:Int):VS (fq b a v):=by
 unfold Vw.fq;split
 ·exact VS.nu (v:={v with block:=b,at_:=a,step:=1}) h
 ·exact⟨λ_=> .inl rfl,λe=>absurd h e⟩
def VS.qs {v:V}(h:VS v)(ok:Bool):((qs ok v).2=true→(qs ok v).1.s=0)∧((qs ok v).2=false→VS (qs ok v).1):=by
 unfold Vw.qs;split
 ·exact⟨λe=>(by cases e),λ_=>h⟩
 ·cases ok with
  |true=>exact⟨λ_=>rfl,λe=>(by cases e)⟩
  |false=>exact⟨λe=>(by cases e),λ_=>⟨λe=>(by exact absurd e (by show¬(3:Int)=0;decide)),λ_=>rfl⟩⟩
def VS.cell {c:cA}{v:V}(h:VS v)(p:Int):VS (cell c p v):=by
 have hb:=h.qs (inner c p);unfold Vw.cell;split
 ·rename_i e;exact⟨λ_=> .inr (.inr rfl),λe2=>absurd (hb.1 e) e2⟩
 ·rename_i e;exact hb.2 (by simpa using e)
def VS.word {c:cA}{v:V}(h:VS v)(b x:Int):VS (word c b x v):=by
 have hb:=h.qs (decide (Y.at_ c 16 b x≠-1));unfold Vw.word;split
 ·rename_i e;exact VS.fq (hb.1 e) _ _
 ·rename_i e;exact hb.2 (by simpa using e)
def VS.live {c:cA}{v:V}(h:VS v)(b:Int):VS (live c b v):=by
 have hb:=h.qs (decide (Y.at_ c 11 b 0≠-1));unfold Vw.live;split
 ·rename_i e;exact VS.fq (hb.1 e) _ _
 ·rename_i e;exact hb.2 (by simpa using e)
def VS.tell {v:V}(h:VS v)(hs:v.s=0)(seq x n:Int):VS (tell seq x n v):=by
 unfold Vw.tell;split
 ·exact⟨λ_=> .inr (.inl rfl),λe=>absurd hs e⟩
 split
 ·unfold Vw.pW;split
  ·exact⟨λe=>absurd e (by show¬(2:Int)=0;decide),λ_=>rfl⟩
  split
  ·exact⟨λe=>absurd e (by show¬(1:Int)=0;decide),λ_=>rfl⟩
  split
  ·exact VS.nu (v:={v with step:=0}) hs
  ·exact⟨λe=>absurd e (by show¬(3:Int)=0;decide),λ_=>rfl⟩
 ·omega
end Go.aS.Vw
namespace Go.aS.X
open Go.aS.Y Go.aS.I_
def fin (c:cA)(σ:Int→Int)(code:List In)(args:List Int):Nat→St→St
 |0,x=>x
 |g+1,x=>if x.s≠0 then x else fin c σ code args g (run c code args {x with v:=Vw.fin c σ x.v})
def Ends (c:cA)(σ:Int→Int)(code:List In)(args:List Int)(x R:St):Prop:=∃g,fin c σ code args g x=R∧R.s≠0
end Go.aS.X
namespace Go.Proofs.YtolkmchicplaoaaGreat
open Go.RowKit Go.aS Go.aS.I_ Go.aS.Y
def Wt (x:X.St):Prop:=x.s=0→x.waits=true∧x.v.s=0
def Eb {c}(aE:Y.Ok c){code}(hr:I_.right code=true)(hu:∀i∈code,W.U_ i.bN){args}(ha:∀r∈args,W.U_ r):∀(n:Nat) {x:X.St},XG c code x→X.left c x=n→Wt (X.run c code args x):=by
 intro n;induction n using Nat.strongRecOn with
 |_ n ih=>
  intro x h hn;by_cases hs:x.s=0
  ·rw[wX aE hr hu ha h hs];have jN:=h.round aE hr hu ha hs;split
   ·rename_i e;exact ih _ (by have:=jN.2.1 e;omega) jN.1 rfl
   ·rename_i e;intro _;unfold X.round at e;split at e
    ·exact absurd rfl e
    ·rename_i hw;split at e
     ·rename_i hv;exact⟨by simpa using hw,hv⟩
     split at e
     ·exact absurd rfl e
     split at e<;>exact absurd rfl e
  ·rw[zV hs];intro e;exact absurd e hs
def Gx {c x}(h:Vw.VS x.v)(a):Vw.VS (X.jc c a x).v:=by
 unfold X.jc;split
 ·rw[sT];exact h
 ·exact h.cell a
def aa9 {c x}(h:Vw.VS x.v)(args):Vw.VS (X.act c args x).v:=by
 unfold X.act;split;exact h;split
 ·split<;>exact h
 split
 ·split<;>exact h
 split;exact h;split;exact h;split
 ·unfold X.root;split;exact h;split
  ·split
   ·show Vw.VS (X.lE c x).1.v;rw[pM];exact h
   ·rw[pM];exact h
  ·exact Gx h _
 split
 ·unfold X.fq;split;exact h;split
  ·split
   ·rw[sT];exact h
   ·exact h.word _ _
  split
  ·rw[sT];exact h
  ·exact h.live _
 split
 ·unfold X.fresh;split
  ·split
   ·exact Gx (by rw[pM];exact h) _
   ·show Vw.VS (X.lE c x).1.v;rw[pM];exact h
  ·rw[pM];exact h
 ·exact h
def Ec {c}(code args):∀(n:Nat) {x:X.St},Vw.VS x.v→Vw.VS (X.gA c code args n x).v
 |0,x,h=>h
 |n+1,x,h=>by
  have hr:Vw.VS (X.round c code args x).1.v:=by
   unfold X.round;split
   ·unfold X.step;split
    ·exact h
    ·exact aa9 (x:=X.jd code x) h args
   split;exact h;split;exact h;split;exact h;rw[sT];exact h
  unfold X.gA;split;exact h;split
  ·exact Ec code args n hr
  ·exact hr
def ab0 {c}(code args){v}(p w)(h:Vw.VS v):Vw.VS (X.new c code args v p w).v:=by
 unfold X.new;split
 ·exact Ec code args _ (x:=X.eB v p w) h
 ·exact h
structure XS (c:Y.cA)(σ:Int→Int)(code:List In)(args:List Int)(x0 x:X.St):Prop where
 back:x.s≠2→∀R,X.Ends c σ code args x R→X.Ends c σ code args x0 R
 vi:VI c x.v
 vs:Vw.VS x.v
 wt:Wt x
def XS.new {c}(aE:Y.Ok c){σ:Int→Int}{code}(hu:∀i∈code,W.U_ i.bN){args}(ha:∀r∈args,W.U_ r){v p w}(hd:w.done.length≤500000)(NX:W.ou w)(hv:W.U_ v.val)(mY:0≤p.nt∧p.nt≤c.b)(kA:0≤p.nl∧p.nl≤b_ c)(hi:VI c v)(hs:Vw.VS v):
 XS c σ code args (X.new c code args v p w) (X.new c code args v p w):=by
 refine⟨λ_ R h=>h,aa8 aE code args p w hi,ab0 code args p w hs,?_⟩;unfold X.new;split
 ·rename_i hr;have h0:XG c code (X.eB v p w):=by
   exact XI.start aE hd NX hv mY kA (λh=>(c_ h).1) hr
  exact Eb aE hr hu ha _ h0 rfl
 ·intro e;exact absurd e (by show¬(1:Int)=0;decide)
