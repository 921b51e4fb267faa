/- A part of the proof. -/
import Derived.Laws.StructEq
import Derived.Maps.OwnOps
import Derived.Maps.Views
import Derived.Maps.OwnSet
import Derived.Test.YtolkmchicplaoaaGreatG01
set_option linter.all false
set_option maxHeartbeats 8000000
set_option maxRecDepth 100000
open Go.Proofs.Tryz
namespace Go.Proofs.YtolkmchicplaoaaGreat
open Go.RowKit Go.aS Go.aS.C
def su (op:BU):Value:= .agg #[I op.k,I op.a,U op.ov,U op.os,U op.nv,U op.ns]
def ni (o:OB):Value:= .agg #[U o.v,U o.s,.bool o.ok]
def Yh {w0 w R b m}(h:Sep w0 w (dP b m::R))(aw op)(he:err m.cells.length aw op≠0):
 jh 61 #[O b,I aw,su op] w (.tuple #[ni (m.told aw op),I (err m.cells.length aw op)]) w0 (dP b (m.step aw op)::R):=by
 have e1:m.told aw op=⟨0,0,false⟩:=by unfold M.told;rw[aq he]
 have e2:m.step aw op=m:=by unfold M.step;rw[aq he]
 rw[e1,e2];clear e1 e2;obtain⟨_,vc,vt,hm⟩:=kY h 0 rfl;generalize hee:err m.cells.length aw op=er at*;have Mf:(er !=0)=true:=by simpa using he
 have H:=aa h;have HM:=aa hm;have HE:=aa he;have HEE:=aa hee;clear h hm he hee;obtain⟨k,a,ov,os,nv,ns⟩:=op;unfold su ni;dsimp only;delta jh;go_in;go_wp2_with fail;refine(mI _ b vc vt m aw ⟨k,a,ov,os,nv,ns⟩ ((HM.fr ((Fr.refl [] _).alloc _) (by simp)).fr ((Fr.refl [] _).alloc _) (by simp))).kk λw1 hf=>?_;have hS:=((H.new 82 [I k,I a,U ov,U os,U nv,U ns]).new 84 [U 0,U 0,.bool false]).c_ hf;have f0:=(hS.ar 0 rfl).az 0;have f1:=(hS.ar 0 rfl).az 1;have f2:=(hS.ar 0 rfl).az 2;have c0:=(hS.ar 0 rfl).cell 0;have c1:=(hS.ar 0 rfl).cell 1;have c2:=(hS.ar 0 rfl).cell 2;simp only[zg,cG]at c0 c1 c2 f0 f1 f2;have HS:=aa hS;clear hS hf;rw[HEE.out];go_wp2_with fail;have h2:=((HS.set 0 rfl 0 (U 0)).set 0 rfl 1 (U 0)).set 0 rfl 2 (.bool false);simp only[cG]at h2;have k0:=(h2.ar 0 rfl).cell 0;have k1:=(h2.ar 0 rfl).cell 1;have k2:=(h2.ar 0 rfl).cell 2;simp only[zs,zg]at k0 k1 k2;exact aV (v:= .tuple #[.agg #[U 0,U 0,.bool false],I er]) (by simp[results,Tryz.results61,go_sem,k0,k1,k2]) rfl ⟨rfl,h2.tail.tail⟩
def kZ {m:M}{aw:Nat}{op:BU}{a:Nat}(he:err m.cells.length aw op=0)(ha:op.a=a):
 m.step aw op=⟨m.cells.set a (gI (m.at a) op),m.steps.set aw (m.cr aw+1),m.trace++[⟨aw,op,ky (m.at a) op⟩]⟩∧m.told aw op=ky (m.at a) op:=by
 unfold M.step M.told;rw[aB he,aB he,ha];simp
def G2 {m:M}{a:Nat}(h:a<m.cells.length):m.cells.set a (m.at a)=m.cells:=by
 simp[M.at,cO,h]
def zq6:(∀{w0 w R}{b:Nat}{m:M}(h:Sep w0 w (dP b m::R))(ht:m.trace.length≤100000)(aw:Nat)(op:BU)(he:err m.cells.length aw op=0),(∀(hk:op.k=0),jh 61 #[O b,I aw,su op] w (.tuple #[ni (m.told aw op),I 0]) w0 (dP b (m.step aw op)::R))∧(∀(hk:op.k=1),jh 61 #[O b,I aw,su op] w (.tuple #[ni (m.told aw op),I 0]) w0 (dP b (m.step aw op)::R))∧(∀(hk:op.k=2)(h1:(m.at op.a.toNat).1≠op.ov),jh 61 #[O b,I aw,su op] w (.tuple #[ni (m.told aw op),I 0]) w0 (dP b (m.step aw op)::R))∧(∀(hk:op.k=2)(h1:(m.at op.a.toNat).1=op.ov)(h2:(m.at op.a.toNat).2≠op.os),jh 61 #[O b,I aw,su op] w (.tuple #[ni (m.told aw op),I 0]) w0 (dP b (m.step aw op)::R))∧(∀(hk:op.k=2)(h1:(m.at op.a.toNat).1=op.ov)(h2:(m.at op.a.toNat).2=op.os),jh 61 #[O b,I aw,su op] w (.tuple #[ni (m.told aw op),I 0]) w0 (dP b (m.step aw op)::R))∧(∀(hk:op.k=3),jh 61 #[O b,I aw,su op] w (.tuple #[ni (m.told aw op),I 0]) w0 (dP b (m.step aw op)::R))):=by
 intro w0 w R b m h ht aw op he;refine⟨?Y,?X,?J,?G,?D,?V⟩
 case' Y|X|V=>intro hk
 case' J=>intro hk h1
 case' G=>intro hk h1 h2
 case' D=>intro hk h1 h2
 case' Y|X|V|J|G|D=>
  obtain⟨Hp,w8,k0,k3,a0,an⟩:=jV he;obtain⟨k,a,ov,os,nv,ns⟩:=op;dsimp only at hk k0 k3 a0 an;obtain⟨a,rfl⟩:∃n:Nat,a=n:=⟨a.toNat,by omega⟩;obtain⟨e1,e2⟩:=kZ (m:=m) (aw:=aw) he rfl;rw[e1,e2];clear e1 e2;have qm:a<m.cells.length:=by omega
  obtain⟨hG,vc,vt,h⟩:=qi h;have hM:=bZ h 0 rfl;obtain⟨g,n,rfl,nF,Bk⟩:∃g n,vc= .slice (some ⟨g,0,none⟩) m.cells.length n∧g<w.heap.size∧m.cells.length≤n:=by
   rcases bg hM.rc with⟨_,e⟩|⟨g,n,e,h1,_,h2,_⟩
   ·omega
   ·exact⟨g,n,e,h1,h2⟩
  have HG:=aa hG;have H:=aa h;have HE:=aa he;clear h hG hM he;unfold su ni;dsimp only;subst hk;delta jh;go_in;go_wp2_with fail
 case' Y=>have h0:=(H.new 82 [I 0,I a,U ov,U os,U nv,U ns]).new 84 [U 0,U 0,.bool false];refine(mI _ b _ vt m aw ⟨0,a,ov,os,nv,ns⟩ (bZ h0 2 rfl)).kk λw1 hf=>?_
 case' X=>have h0:=(H.new 82 [I 1,I a,U ov,U os,U nv,U ns]).new 84 [U 0,U 0,.bool false];refine(mI _ b _ vt m aw ⟨1,a,ov,os,nv,ns⟩ (bZ h0 2 rfl)).kk λw1 hf=>?_
 case' V=>have h0:=(H.new 82 [I 3,I a,U ov,U os,U nv,U ns]).new 84 [U 0,U 0,.bool false];refine(mI _ b _ vt m aw ⟨3,a,ov,os,nv,ns⟩ (bZ h0 2 rfl)).kk λw1 hf=>?_
 case' J|G|D=>have h0:=(H.new 82 [I 2,I a,U ov,U os,U nv,U ns]).new 84 [U 0,U 0,.bool false];refine(mI _ b _ vt m aw ⟨2,a,ov,os,nv,ns⟩ (bZ h0 2 rfl)).kk λw1 hf=>?_
 case' Y|X|V|J|G|D=>
  rw[HE.out];have hS:=h0.c_ hf;have hO:=hS.ar 1 rfl;have o0:=hO.cell 0;have o1:=hO.cell 1;have o2:=hO.cell 2;have o3:=hO.cell 3;have o4:=hO.cell 4;have o5:=hO.cell 5;have hM:=bZ hS 2 rfl;have c0:=hM.c0;have OE:=hM.rU (a*2);have tI:=hM.rU (a*2+1);have OF:=hM.Bj;obtain⟨d0,d1⟩:=hM.cell qm;have rR:=hO.lt;simp only[zg,cG]at o0 o1 o2 o3 o4 o5 rR;have HS:=aa hS;clear hS hO hM hf h0;go_wp2_with fail;refine bW [(1,[0,1,2,3,4,5,6,7])] (by kernel_rfl) ?_;simp only[zz];repeat(first|go_big_quiet_step(fail)|apply ax|apply af|apply ag|apply ah)
  refine aj ?_;go_wp2_with fail
 case' Y=>have hS:=(HS.new 84 [U (m.at a).1,U (m.at a).2,.bool true]).drew;generalize(w1.alloc (.cells #[U (m.at a).1,U (m.at a).2,.bool true] 84)).drew=W at*;clear HS o0 o1 o2 o3 o4 o5 c0 d0 d1 rR OE tI
 case' X=>have hS:=((EA HS.out 2 rfl qm nv ns).new 84 [U (m.at a).1,U (m.at a).2,.bool true]).drew;simp only[World.size_setCell]at hS;generalize(((w1.setCell ⟨g,a*2,none⟩ (U nv)).setCell ⟨g,a*2+1,none⟩ (U ns)).alloc (.cells #[U (m.at a).1,U (m.at a).2,.bool true] 84)).drew=W at*
 case' V=>
  refine bW [(1,[0,1,2,3,4,5,6,7,8,9]),(3,[10])] (by kernel_rfl) ?_;simp only[zz];repeat(first|go_big_quiet_step(fail)|apply ax|apply af|apply ag|apply ah)
  refine ao ?_;go_wp2;refine aj ?_;go_wp2_with fail;have hS:=((OC HS.out 2 rfl qm (IntKind.u64.wrap ((m.at a).1+nv))).new 84 [U (m.at a).1,U (m.at a).2,.bool true]).drew.drew;simp only[World.size_setCell]at hS;generalize(((w1.setCell ⟨g,a*2,none⟩ (U (IntKind.u64.wrap ((m.at a).1+nv))))).alloc (.cells #[U (m.at a).1,U (m.at a).2,.bool true] 84)).drew.drew=W at*
 case' X|V=>clear HS o0 o1 o2 o3 o4 o5 c0 d0 d1 rR OE tI OF
 case' J=>
  have TT:((m.at a).1==ov)=false:=by simpa using h1
  have kL:¬m.at a=(ov,os):=λe=>h1 (by have:=congrArg Prod.fst e;simpa using this);have C4:=aa kL;clear h1 kL
 case' G=>
  have TT:((m.at a).1==ov)=true:=by simpa using h1
  have qy:((m.at a).2==os)=false:=by simpa using h2
  have kL:¬m.at a=(ov,os):=λe=>h2 (by have:=congrArg Prod.snd e;simpa using this);have C4:=aa kL;clear h1 h2 kL
 case' D=>
  have TT:((m.at a).1==ov)=true:=by simpa using h1
  have qy:((m.at a).2==os)=true:=by simpa using h2
  have ad3:m.at a=(ov,os):=Prod.ext h1 h2;have Yi:=aa ad3;clear h1 h2 ad3
 case' J|G|D=>
  refine bW [(1,[0,1,2,3,4,5,6]),(3,[7])] (by kernel_rfl) ?_;simp only[zz];repeat(first|go_big_quiet_step(fail)|apply ax|apply af|apply ag|apply ah)
  refine ao ?_;go_wp2;refine aj ?_;go_wp2_with fail
 case' J|G=>have hS:=(HS.new 84 [U (m.at a).1,U (m.at a).2,.bool false]).drew.drew;generalize(w1.alloc (.cells #[U (m.at a).1,U (m.at a).2,.bool false] 84)).drew.drew=W at*
 case' D=>have hS:=((EA HS.out 2 rfl qm nv ns).new 84 [U (m.at a).1,U (m.at a).2,.bool true]).drew.drew;simp only[World.size_setCell]at hS;generalize(((w1.setCell ⟨g,a*2,none⟩ (U nv)).setCell ⟨g,a*2+1,none⟩ (U ns)).alloc (.cells #[U (m.at a).1,U (m.at a).2,.bool true] 84)).drew.drew=W at*
 case' J|G|D=>clear HS o0 o1 o2 o3 o4 o5 c0 d0 d1 rR OE tI OF
 case' Y|X|V|J|G|D=>
  obtain⟨i0,iJ,jA,jB,iR⟩:=eA jW;have u_:aw<8:=by omega
  have wK:=HG.out.bound u_;obtain⟨tZ,aR,rfl⟩:=cY (bZ hS 3 rfl).rt;have hT:=hS.ar 0 rfl;have gi:=hS.ar 1 rfl;have hO:=hS.ar 2 rfl;have hM:=bZ hS 3 rfl;have t0:=hT.cell 0;have t1:=hT.cell 1;have t2:=hT.cell 2;have o0:=hO.cell 0;have o1:=hO.cell 1;have o2:=hO.cell 2;have o3:=hO.cell 3;have o4:=hO.cell 4;have o5:=hO.cell 5;have r0:=gi.az;have m9:=hM.c9;have ms:=hM.cs u_;have mg:=hM.ar.az (1+aw);rw[fN aw 1]at ms;simp only[zg]at t0 t1 t2 o0 o1 o2 o3 o4 o5;have mt:=hM.C3;have HS:=aa hS;clear hS hT gi hO hM;try simp only[cG]at*
  change _=some (I (m.cr aw))at ms;generalize gx:m.cr aw=st at*;have mX:=aa gx;clear gx;generalize hW:w1.heap.size=tb at*;clear hW;go_wp2_with fail;refine bW [(1,[0,1,2,3,4,5,6,7,8,9]),(3,[10])] (by kernel_rfl) ?_;simp only[zz];repeat(first|go_big_quiet_step(fail)|apply ax|apply af|apply ag|apply ah)
  refine ao ?_;go_wp2;refine aj ?_;go_wp2_with fail;have hS:=(qk HS.out 3 rfl u_ (st+1)).drew;rw[fN aw 1]at hS;generalize(W.setCell ⟨b,1+aw,none⟩ (I (st+1))).drew=W2 at*;clear HS t0 t1 t2 o0 o1 o2 o3 o4 o5 r0 m9 ms mg mt;have hT:=hS.ar 0 rfl;have gi:=hS.ar 1 rfl;have hO:=hS.ar 2 rfl;have hM:=bZ hS 3 rfl;have t0:=hT.cell 0;have t1:=hT.cell 1;have t2:=hT.cell 2;have o0:=hO.cell 0;have o1:=hO.cell 1;have o2:=hO.cell 2;have o3:=hO.cell 3;have o4:=hO.cell 4;have o5:=hO.cell 5;have r0:=gi.az;have m9:=hM.c9;have ms:=hM.cs u_;have mg:=hM.ar.az (1+aw);rw[fN aw 1]at ms;simp only[zg]at t0 t1 t2 o0 o1 o2 o3 o4 o5;have mt:=hM.C3;have HS:=aa hS;clear hS hT gi hO hM;try simp only[cG]at*
  refine bW [(1,[1,2,3,4,5,6,7,8]),(0,[0]),(2,[9]),(3,[10]),(0,[11,12]),(3,[13])] (by kernel_rfl) ?_;simp only[zz];repeat(first|go_big_quiet_step(fail)|apply ax|apply af|apply ag|apply ah)
  refine aA ?_;go_wp2;refine⟨⟨⟨_,(by exact Fr.lB ((Fr.refl _ _).alloc _).drew)⟩,rfl⟩,?_⟩
 case' Y=>have h2:=(HS.new 86 (kO ⟨aw,⟨0,a,ov,os,nv,ns⟩,⟨(m.at a).1,(m.at a).2,true⟩⟩)).drew
 case' X=>have h2:=(HS.new 86 (kO ⟨aw,⟨1,a,ov,os,nv,ns⟩,⟨(m.at a).1,(m.at a).2,true⟩⟩)).drew
 case' V=>have h2:=(HS.new 86 (kO ⟨aw,⟨3,a,ov,os,nv,ns⟩,⟨(m.at a).1,(m.at a).2,true⟩⟩)).drew
 case' J|G=>have h2:=(HS.new 86 (kO ⟨aw,⟨2,a,ov,os,nv,ns⟩,⟨(m.at a).1,(m.at a).2,false⟩⟩)).drew
 case' D=>have h2:=(HS.new 86 (kO ⟨aw,⟨2,a,ov,os,nv,ns⟩,⟨(m.at a).1,(m.at a).2,true⟩⟩)).drew
 case' Y|X|V|J|G|D=>have ho:=(bZ h2 4 rfl).rt;have j9:=h2.ar 0 rfl;have de:=aa h2;clear h2;refine ao ?_
 case' Y=>refine ch _ rfl _ _ 79 rfl 0 86 i0 _ 10 80 underlying79 iJ jA jB iR rfl (by decide) (.slice tZ m.trace.length aR) m.trace.length (flat kO m.trace) rfl ho (kO ⟨aw,⟨0,a,ov,os,nv,ns⟩,⟨(m.at a).1,(m.at a).2,true⟩⟩) _ _ rfl j9 rfl (lM _) (by unfold maxLen;omega) (by omega) (cE _) ?_
 case' X=>refine ch _ rfl _ _ 79 rfl 0 86 i0 _ 10 80 underlying79 iJ jA jB iR rfl (by decide) (.slice tZ m.trace.length aR) m.trace.length (flat kO m.trace) rfl ho (kO ⟨aw,⟨1,a,ov,os,nv,ns⟩,⟨(m.at a).1,(m.at a).2,true⟩⟩) _ _ rfl j9 rfl (lM _) (by unfold maxLen;omega) (by omega) (cE _) ?_
 case' V=>refine ch _ rfl _ _ 79 rfl 0 86 i0 _ 10 80 underlying79 iJ jA jB iR rfl (by decide) (.slice tZ m.trace.length aR) m.trace.length (flat kO m.trace) rfl ho (kO ⟨aw,⟨3,a,ov,os,nv,ns⟩,⟨(m.at a).1,(m.at a).2,true⟩⟩) _ _ rfl j9 rfl (lM _) (by unfold maxLen;omega) (by omega) (cE _) ?_
 case' J|G=>refine ch _ rfl _ _ 79 rfl 0 86 i0 _ 10 80 underlying79 iJ jA jB iR rfl (by decide) (.slice tZ m.trace.length aR) m.trace.length (flat kO m.trace) rfl ho (kO ⟨aw,⟨2,a,ov,os,nv,ns⟩,⟨(m.at a).1,(m.at a).2,false⟩⟩) _ _ rfl j9 rfl (lM _) (by unfold maxLen;omega) (by omega) (cE _) ?_
 case' D=>refine ch _ rfl _ _ 79 rfl 0 86 i0 _ 10 80 underlying79 iJ jA jB iR rfl (by decide) (.slice tZ m.trace.length aR) m.trace.length (flat kO m.trace) rfl ho (kO ⟨aw,⟨2,a,ov,os,nv,ns⟩,⟨(m.at a).1,(m.at a).2,true⟩⟩) _ _ rfl j9 rfl (lM _) (by unfold maxLen;omega) (by omega) (cE _) ?_
 case' Y|X|V|J|G|D=>
  intro g6 c6 w6 nj ve sx kM mw;simp only[Act.put,aZ,zs];have h3:=ot de.out 4 rfl nj rfl ve (λq e=>by
   rcases sx with h1|h1
   ·exact .inl (h1.trans e)
   ·right;simp only[Value.ownBlock,eX]at e;rw[←e,h1];exact dp _)
  have Hr:w6.frozen? ⟨b,9,none⟩=false:=by
   have f6:=(bZ de.out 4 rfl).ar.az 9;have f7:=(Fr.refl (Value.slice tZ m.trace.length aR).ownBlock.toList _).grown ve (λk e=> .inl (by simp[e]));exact f7.az f6 (bZ de.out 4 rfl).ar.lt (λhm=>mt b (by simpa using hm) rfl)
  have Hs:w6.cell? ⟨b,9,none⟩=some (.slice tZ m.trace.length aR):=by
   have f7:=(Fr.refl (Value.slice tZ m.trace.length aR).ownBlock.toList _).grown ve (λk e=> .inl (by simp[e]));exact f7.cell (bZ de.out 4 rfl).c9 (λhm=>mt b (by simpa using hm) rfl)
  have eH:=aa h3;clear h3 ho j9 de HS t0 t1 t2 o0 o1 o2 o3 o4 o5 r0 m9 ms mg mt;repeat(first|go_big_quiet_step(fail)|apply ax|apply af|apply ag|apply ah)
  refine ao ?_;go_wp2;refine aj ?_;have hS:=eH.tail;generalize w6.setCell ⟨b,9,none⟩ (.slice (some ⟨g6,0,none⟩) (m.trace.length+1) c6)=W3 at*;have hT:=hS.ar 0 rfl;have gi:=hS.ar 1 rfl;have t0:=hT.cell 0;have t1:=hT.cell 1;have t2:=hT.cell 2;have z0:=gi.cell 0;have z1:=gi.cell 1;have z2:=gi.cell 2;have r0:=gi.az;simp only[zg]at t0 t1 t2 z0 z1 z2;have HS:=aa hS;clear hS hT gi;go_wp2_with fail
 case' Y|X|V=>have h4:=((HS.set 1 rfl 0 (U (m.at a).1)).set 1 rfl 1 (U (m.at a).2)).set 1 rfl 2 (.bool true)
 case' J|G=>have h4:=((HS.set 1 rfl 0 (U (m.at a).1)).set 1 rfl 1 (U (m.at a).2)).set 1 rfl 2 (.bool false)
 case' D=>have h4:=((HS.set 1 rfl 0 (U (m.at a).1)).set 1 rfl 1 (U (m.at a).2)).set 1 rfl 2 (.bool true)
 case' Y|X|V|J|G|D=>have k0:=(h4.ar 1 rfl).cell 0;have k1:=(h4.ar 1 rfl).cell 1;have k2:=(h4.ar 1 rfl).cell 2;simp only[zs,zg]at k0 k1 k2
 case' Y|X|V=>refine aV (v:= .tuple #[.agg #[U (m.at a).1,U (m.at a).2,.bool true],I 0]) (by simp[results,Tryz.results61,go_sem,k0,k1,k2]) rfl ⟨by simp[ky],?_⟩;have h5:=h4.tail.tail.tail
 case' Y=>have mV:=kg HG.out aw ⟨0,a,ov,os,nv,ns⟩
 case' X=>have mV:=kg HG.out aw ⟨1,a,ov,os,nv,ns⟩
 case' V=>have mV:=kg HG.out aw ⟨3,a,ov,os,nv,ns⟩
 case' J|G=>refine aV (v:= .tuple #[.agg #[U (m.at a).1,U (m.at a).2,.bool false],I 0]) (by simp[results,Tryz.results61,go_sem,k0,k1,k2]) rfl ⟨by simp[ky,C4.out],?_⟩
 case' D=>refine aV (v:= .tuple #[.agg #[U (m.at a).1,U (m.at a).2,.bool true],I 0]) (by simp[results,Tryz.results61,go_sem,k0,k1,k2]) rfl ⟨by simp[ky,Yi.out],?_⟩
 case' J|G|D=>have h5:=h4.tail.tail.tail;have mV:=kg HG.out aw ⟨2,a,ov,os,nv,ns⟩
 case' Y|X|V|J|G|D=>rw[(kZ (m:=m) (aw:=aw) HE.out rfl).1]at mV;rw[mX.out]at mV⊢;refine qj (vc:= .slice (some ⟨g,0,none⟩) m.cells.length n) (vt:= .slice (some ⟨g6,0,none⟩) (m.trace.length+1) c6) ?_ mV
 case' Y=>
  have mr:m.cells.set a (gI (m.at a) ⟨0,a,ov,os,nv,ns⟩)=m.cells:=by simp[gI,G2 qm]
  have OG:ky (m.at a) ⟨0,a,ov,os,nv,ns⟩=⟨(m.at a).1,(m.at a).2,true⟩:=by simp[ky]
  rw[mr,OG]
 case' X=>
  have mr:m.cells.set a (gI (m.at a) ⟨1,a,ov,os,nv,ns⟩)=m.cells.set a (nv,ns):=by simp[gI]
  have OG:ky (m.at a) ⟨1,a,ov,os,nv,ns⟩=⟨(m.at a).1,(m.at a).2,true⟩:=by simp[ky]
  rw[mr,OG]
 case' V=>
  have mr:m.cells.set a (gI (m.at a) ⟨3,a,ov,os,nv,ns⟩)=m.cells.set a (IntKind.u64.wrap ((m.at a).1+nv),(m.at a).2):=by simp[gI]
  have OG:ky (m.at a) ⟨3,a,ov,os,nv,ns⟩=⟨(m.at a).1,(m.at a).2,true⟩:=by simp[ky]
  rw[mr,OG]
 case' J|G=>
  have mr:m.cells.set a (gI (m.at a) ⟨2,a,ov,os,nv,ns⟩)=m.cells:=by simp[gI,C4.out,G2 qm]
  have OG:ky (m.at a) ⟨2,a,ov,os,nv,ns⟩=⟨(m.at a).1,(m.at a).2,false⟩:=by simp[ky,C4.out]
  rw[mr,OG]
 case' D=>
  have mr:m.cells.set a (gI (m.at a) ⟨2,a,ov,os,nv,ns⟩)=m.cells.set a (nv,ns):=by simp[gI,Yi.out]
  have OG:ky (m.at a) ⟨2,a,ov,os,nv,ns⟩=⟨(m.at a).1,(m.at a).2,true⟩:=by simp[ky,Yi.out]
  rw[mr,OG]
 case' Y|X|V|J|G|D=>exact h5
def TS{w0 w R b m}(h ht aw op he):=(@zq6 w0 w R b m h ht aw op he).1
def OH{w0 w R b m}(h ht aw op he):=(@zq6 w0 w R b m h ht aw op he).2.1
def KZ{w0 w R b m}(h ht aw op he):=(@zq6 w0 w R b m h ht aw op he).2.2.1
def K0{w0 w R b m}(h ht aw op he):=(@zq6 w0 w R b m h ht aw op he).2.2.2.1
def K1{w0 w R b m}(h ht aw op he):=(@zq6 w0 w R b m h ht aw op he).2.2.2.2.1
def Yj{w0 w R b m}(h ht aw op he):=(@zq6 w0 w R b m h ht aw op he).2.2.2.2.2
def TU {w0 w R b m}(h:Sep w0 w (dP b m::R))(ht:m.trace.length≤100000)(aw op):
 jh 61 #[O b,I aw,su op] w (.tuple #[ni (m.told aw op),I (err m.cells.length aw op)]) w0 (dP b (m.step aw op)::R):=by
 by_cases he:err m.cells.length aw op=0
 ·rw[he];obtain⟨h0,h8,k0,k3,a0,an⟩:=jV he;obtain⟨aw,rfl⟩:∃n:Nat,aw=n:=⟨aw.toNat,by omega⟩;have hk:op.k=0∨op.k=1∨op.k=2∨op.k=3:=by omega
  rcases hk with hk|hk|hk|hk
  ·exact TS h ht aw op he hk
  ·exact OH h ht aw op he hk
  ·by_cases h1:(m.at op.a.toNat).1=op.ov
   ·by_cases h2:(m.at op.a.toNat).2=op.os
    ·exact K1 h ht aw op he hk h1 h2
    ·exact K0 h ht aw op he hk h1 h2
   ·exact KZ h ht aw op he hk h1
  ·exact Yj h ht aw op he hk
 ·exact Yh h aw op he
def EB (w b vc vt m)(h:gD w b vc vt m):
 Calls Tryz.prog 23 #[O b] w λe w'=>e= .returned (I m.cells.length)∧w=w':=by
 obtain⟨lc,cc,rfl⟩:=cY h.rc;have c0:=h.c0;clear h;go_wp2;go_ret;exact⟨rfl,rfl⟩
def lW (m:M)(at_:Int):(Int×Int)×Bool:=if 0≤at_∧at_<m.cells.length then(m.at at_.toNat,true)else((0,0),false)
def EC(w b vc vt m at_)(h:gD w b vc vt m):ba 24 #[O b,I at_] w (.tuple #[.agg #[U (lW m at_).1.1,U (lW m at_).1.2],.bool (lW m at_).2]):=by
 have c0:=h.c0;have hb:=h.ar.lt;by_cases h1:at_<0;refine ?Z;rotate_left;refine ?Y
 case' Y=>have d1:decide (at_<0)=false:=by simp;omega
 case' Y=>by_cases h2:(m.cells.length:Int)≤at_;refine ?X;rotate_left;refine ?J
 case' Z|X=>
  have e:lW m at_=((0,0),false):=by unfold lW;rw[aq (by omega)]
  rw[e];clear e
 case' Z=>
  have d1:decide (at_<0)=true:=by simp;omega
  clear h;delta ba;go_in;go_wp2
 case' X=>
  have d2:decide (at_≥(m.cells.length:Int))=true:=by simp;omega
  obtain⟨lc,cc,rfl⟩:=cY h.rc;clear h;delta ba;go_in;go_wp2
 case' Z|X=>exact aV (v:= .tuple #[.agg #[U 0,U 0],.bool false]) (by simp[results,Tryz.results24,go_sem]) rfl ⟨rfl,(Fr.refl [] _).alloc _⟩
 have d2:decide (at_≥(m.cells.length:Int))=false:=by simp;omega
 obtain⟨k,rfl⟩:∃n:Nat,at_=n:=⟨at_.toNat,by omega⟩;have hk:k<m.cells.length:=by omega
 have e:lW m k=(m.at k,true):=by unfold lW;rw[aB (by omega),dU]
 rw[e];clear e;obtain⟨g,n,rfl,nF,Bk⟩:∃g n,vc= .slice (some ⟨g,0,none⟩) m.cells.length n∧g<w.heap.size∧m.cells.length≤n:=by
  rcases bg h.rc with⟨_,e⟩|⟨g,n,e,h1,_,h2,_⟩
  ·omega
  ·exact⟨g,n,e,h1,h2⟩
 obtain⟨x0,x1⟩:=h.cell hk;have rX:(k:Int)<(m.cells.length:Int):=by omega
 clear h;delta ba;go_in;go_wp2;exact aV (v:= .tuple #[.agg #[U (m.at k).1,U (m.at k).2],.bool true]) (by simp[results,Tryz.results24,go_sem]) rfl ⟨rfl,(Fr.refl [] _).alloc _⟩
def M.put (m:M)(at_:Int)(c:Int×Int):M:=if 0≤at_∧at_<m.cells.length then{m with cells:=m.cells.set at_.toNat c}else m
def G3 (w):
 Calls Tryz.prog 99 #[.slice none 0 0] w λe w'=>∃v,e= .returned v∧eZ w w' (aU 0 68 2 v 0 []):=by
 have hk:=fun(wx:World)=>iW (P:=Tryz.prog) wx 120 68 none 0 0 0 0 underlying120;go_wp2;go_ret;exact⟨_,rfl,Fr.refl _ _,[],⟨rfl,jP _ _ _ _⟩,by simp⟩
def ED (w g n c l)(hl:l.length=n*2)(h1:∀u∈l,u.oneCell'=true)(hr:w.ownsRow 0 68 2 (.slice (some ⟨g,0,none⟩) n c) n l)(hn:n≤1000000):
 Calls Tryz.prog 99 #[.slice (some ⟨g,0,none⟩) n c] w λe w'=>∃v,e= .returned v∧eZ w w' (aU 0 68 2 v n l):=by
 obtain⟨i0,iJ,jA,jB,iR⟩:=eA G1;have hk:=fun(wx:World)=>iW (P:=Tryz.prog) wx 120 68 (some ⟨g,0,none⟩) n c 0 0 underlying120;have HR:Hid ((w.alloc (.cells [].toArray 68)).ownsRow 0 68 2 (.slice (some ⟨w.heap.size,0,none⟩) 0 0) 0 []):=
  pQ w #[] 0 (cE _) (by unfold maxLen;omega) (by simp)
 have HH:=aa hr;clear hr;go_in;go_wp2_with(at_builtin;go_must (refine eC _ rfl _ _ 120 rfl 0 68 i0 _ 2 16 underlying120 iJ jA jB iR rfl (by decide) (.slice (some ⟨w.heap.size,0,none⟩) 0 0) 0 [] rfl HR.out ⟨g,0,none⟩ n c l rfl hl ((HH.alloc _).cells rfl) h1 (by unfold maxLen;omega) (by omega) (cE _) (by simp) ?_));intro g2 c2 w2 dy iZ jj kM mw;go_wp2;go_ret;refine⟨_,rfl,((Fr.refl [] w).alloc (.cells #[] 68)).grown iZ (λk e=> .inr (by simp[Value.ownBlock]at e;omega)),[g2],⟨rfl,by simpa using dy⟩,?_⟩;intro k hk;simp[Value.ownBlock]at hk jj;omega
def G4 (w v n l)(hl:l.length=n*2)(h1:∀u∈l,u.oneCell'=true)(hr:w.ownsRow 0 68 2 v n l)(hn:n≤1000000):
 Calls Tryz.prog 99 #[v] w λe w'=>∃v',e= .returned v'∧eZ w w' (aU 0 68 2 v' n l):=by
 rcases bg hr with⟨rfl,rfl⟩|⟨g,c,rfl,_⟩
 ·obtain rfl:l=[]:=nJ (by omega);exact G3 w
 ·exact ED w g n c l hl h1 hr hn
def G5 (w):
 Calls Tryz.prog 55 #[.slice none 0 0] w λe w'=>∃v,e= .returned v∧eZ w w' (aU 0 86 10 v 0 []):=by
 have hk:=fun(wx:World)=>iW (P:=Tryz.prog) wx 79 86 none 0 0 0 0 underlying79;go_wp2;go_ret;exact⟨_,rfl,Fr.refl _ _,[],⟨rfl,jP _ _ _ _⟩,by simp⟩
def EE (w g n c l)(hl:l.length=n*10)(h1:∀u∈l,u.oneCell'=true)(hr:w.ownsRow 0 86 10 (.slice (some ⟨g,0,none⟩) n c) n l)(hn:n≤1000000):
 Calls Tryz.prog 55 #[.slice (some ⟨g,0,none⟩) n c] w λe w'=>∃v,e= .returned v∧eZ w w' (aU 0 86 10 v n l):=by
 obtain⟨i0,iJ,jA,jB,iR⟩:=eA jW;have hk:=fun(wx:World)=>iW (P:=Tryz.prog) wx 79 86 (some ⟨g,0,none⟩) n c 0 0 underlying79;have HR:Hid ((w.alloc (.cells [].toArray 86)).ownsRow 0 86 10 (.slice (some ⟨w.heap.size,0,none⟩) 0 0) 0 []):=
  pQ w #[] 0 (cE _) (by unfold maxLen;omega) (by simp)
 have HH:=aa hr;clear hr;go_in;go_wp2_with(at_builtin;go_must (refine eC _ rfl _ _ 79 rfl 0 86 i0 _ 10 80 underlying79 iJ jA jB iR rfl (by decide) (.slice (some ⟨w.heap.size,0,none⟩) 0 0) 0 [] rfl HR.out ⟨g,0,none⟩ n c l rfl hl ((HH.alloc _).cells rfl) h1 (by unfold maxLen;omega) (by omega) (cE _) (by simp) ?_));intro g2 c2 w2 dy iZ jj kM mw;go_wp2;go_ret;refine⟨_,rfl,((Fr.refl [] w).alloc (.cells #[] 86)).grown iZ (λk e=> .inr (by simp[Value.ownBlock]at e;omega)),[g2],⟨rfl,by simpa using dy⟩,?_⟩;intro k hk;simp[Value.ownBlock]at hk jj;omega
def zv (w v n l)(hl:l.length=n*10)(h1:∀u∈l,u.oneCell'=true)(hr:w.ownsRow 0 86 10 v n l)(hn:n≤1000000):
 Calls Tryz.prog 55 #[v] w λe w'=>∃v',e= .returned v'∧eZ w w' (aU 0 86 10 v' n l):=by
 rcases bg hr with⟨rfl,rfl⟩|⟨g,c,rfl,_⟩
 ·obtain rfl:l=[]:=nJ (by omega);exact G5 w
 ·exact EE w g n c l hl h1 hr hn
def G6 (w b vc vt m)(hM:gD w b vc vt m)(ht:m.trace.length≤100000):
 Calls Tryz.prog 27 #[O b] w λe w'=>∃v,e= .returned v∧eZ w w' (aU 0 86 10 v m.trace.length (flat kO m.trace)):=by
 have c9:=hM.c9;have HC:=aa (zv w vt _ _ (ck qg _) (gJ lM _) hM.rt (by omega));clear hM;go_in;go_wp2_with fail;refine HC.out.mono ?_;rintro e w' ⟨v,rfl,hS⟩;go_wp2;go_ret;exact⟨v,rfl,hS⟩
def OI (w b vc vt m)(hM:gD w b vc vt m)(hG:C.Good m)(ht:m.trace.length≤100000):
 Calls Tryz.prog 68 #[O b] w λe w'=>∃b',e= .returned (O b')∧eZ w w' (dP b' m):=by
 have c0:=hM.c0;have c9:=hM.c9;obtain⟨cs,st,tr⟩:=m;have h8:=hG.s8;dsimp only at h8
 match st,h8 with
 |[s0,s1,s2,s3,s4,s5,s6,s7],_=>
 have m0:w.cell? ⟨b,1,none⟩=some (I s0):=hM.cs (i:=0) (by decide);have m1:w.cell? ⟨b,2,none⟩=some (I s1):=hM.cs (i:=1) (by decide);have m2:w.cell? ⟨b,3,none⟩=some (I s2):=hM.cs (i:=2) (by decide);have m3:w.cell? ⟨b,4,none⟩=some (I s3):=hM.cs (i:=3) (by decide);have m4:w.cell? ⟨b,5,none⟩=some (I s4):=hM.cs (i:=4) (by decide);have m5:w.cell? ⟨b,6,none⟩=some (I s5):=hM.cs (i:=5) (by decide);have m6:w.cell? ⟨b,7,none⟩=some (I s6):=hM.cs (i:=6) (by decide);have m7:w.cell? ⟨b,8,none⟩=some (I s7):=hM.cs (i:=7) (by decide);have HM:=aa hM;have HG:=aa hG;have EF:cs.length≤65536:=hM.tY;dsimp only at ht;clear hM hG;go_wp2;refine bW [(1,[0,1,2,3,5,6,7,8,9,10,11,12]),(2,[4]),(2,[13]),(0,[14]),(3,[15]),(0,[16])] (by kernel_rfl) ?_;simp only[zz];repeat(first|go_big_quiet_step(fail)|apply ax|apply af|apply ag|apply ah)
 refine aA ?_;go_wp2_with fail;refine(G4 _ vc _ _ (ck fO _) (gJ JB _) (HM.fr (Fr.refl [] _).drew (by simp)).rc (by dsimp only;omega)).mono ?_;rintro e w1 ⟨v1,rfl,S5⟩;obtain⟨l1,n1,rfl⟩:=S5.form;have K2:=aa S5;clear S5;go_wp2;refine⟨⟨⟨_,(by exact K2.fr)⟩,rfl⟩,?_⟩;refine aA ?_;go_wp2_with fail;refine(zv _ vt _ _ (ck qg _) (gJ lM _) ((HM.fr (Fr.refl [] _).drew (by simp)).fr K2.fr (by simp)).rt (by dsimp only;omega)).mono ?_;rintro e w2 ⟨v2,rfl,Ue⟩;obtain⟨l2,n2,rfl⟩:=Ue.form;have lU:=aa Ue;clear Ue;go_wp2;refine⟨⟨⟨_,(by exact K2.fr.trans lU.fr)⟩,rfl⟩,?_⟩;repeat(first|go_big_quiet_step(fail)|apply ax|apply af|apply ag|apply ah)
 refine ao ?_;go_wp2_with fail;repeat(first|go_big_quiet_step(fail)|apply ax|apply af|apply ag|apply ah)
 refine aj ?_;go_wp2;go_ret;have h2:=((Sep.nil (Fr.refl [] w.drew)).fresh K2.out).fresh lU.out;have h3:=h2.new 123 (kP (.slice l1 cs.length n1) (.slice l2 tr.length n2) ⟨cs,[s0,s1,s2,s3,s4,s5,s6,s7],tr⟩);refine⟨_,rfl,(show Fr [] w.drew _ from h3.fr).CW,qh w2.heap.size (.slice l1 cs.length n1) (.slice l2 tr.length n2),?_,?_⟩
 ·obtain⟨h0,F,hF,hd⟩:=h3;have p0:=(hF 0 _ rfl).1;have p1:=(hF 1 _ rfl).1;have p2:=(hF 2 _ rfl).1;have d01:=hd 0 1 (by simp) (by simp) (by decide);have d02:=hd 0 2 (by simp) (by simp) (by decide);have d12:=hd 1 2 (by simp) (by simp) (by decide);rw[p0.1,p1.1]at d01;rw[p0.1,p2.1]at d02;rw[p1.1,p2.1]at d12;refine⟨HG.out,_,_,rfl,p0.2,p2.2,p1.2,λk hk e=>?_,λk hk e=>?_,λk hk e=>?_,EF,rfl⟩
  ·exact d02 k (by rw[e];simp) (by rw[hk];simp)
  ·exact d01 k (by rw[e];simp) (by rw[hk];simp)
  ·exact d12 k (by rw[e];simp) (by rw[hk];simp)
 ·obtain⟨h0,F,hF,hd⟩:=h3;have q0:=hF 0 _ rfl;have q1:=hF 1 _ rfl;have q2:=hF 2 _ rfl;have e0:=q0.1.1;have e1:=q1.1.1;have e2:=q2.1.1;intro k hk;rcases gM.1 hk with rfl|h1|h1
  ·exact q0.2 _ (by rw[e0];simp)
  ·exact q2.2 k (by rw[e2];simp[h1])
  ·exact q1.2 k (by rw[e1];simp[h1])
end Go.Proofs.YtolkmchicplaoaaGreat
namespace Go.aS
open Go.RowKit
def XF (w1:World)(F:List Nat):a_ where
 P w fp:=fp=(List.range w1.heap.size).filter (λk=>decide (k∉F))∧w1.heap.size≤w.heap.size∧∀k,k<w1.heap.size→k∉F→w.heap[k]?=w1.heap[k]?
 fr:=by
  rintro w w' fp se ⟨rfl,h1,h2⟩ f hn;refine⟨rfl,fT h1 f.size,λk hk hF=>?_⟩;rw[f.block k (by omega) (hn k (by simp[hk,hF])),h2 k hk hF]
 lt:=by
  rintro w fp ⟨rfl,h1,h2⟩ k hk;simp at hk;omega
def Jh {T T' w F}(hT:T.P w F){P f}{args:Array Value}{A:Ending→Prop}
 (hc:∀w0 R,Sep w0 w (T::R)→Calls P f args w λe w'=>A e∧Sep w0 w' (T'::R)):Calls P f args w λe w'=>A e∧Fr F w w'∧∃F',T'.P w' F'∧∀k∈F',k∈F∨w.heap.size≤k:=by
 have h0:Sep {w with heap:=#[]} w [T,XF w F]:=by
  refine⟨⟨rfl,rfl,rfl,cE _,λk hk=>by simp at hk⟩,λi=>match i with|0=>F|_=>(List.range w.heap.size).filter (λk=>decide (k∉F)),λi Ti hi=>?_,λi j hi hj yN q hq=>?_⟩
  ·match i,hi with
   |0,hi=>
    obtain rfl:T=Ti:=by simpa using hi
    exact⟨hT,λk _=>cE _⟩
   |1,hi=>
    obtain rfl:XF w F=Ti:=by simpa using hi
    exact⟨⟨rfl,dp _,λ_ _ _=>rfl⟩,λk _=>cE _⟩
   |i+2,hi=>simp at hi
  ·match i,j,hi,hj with
   |0,0,_,_=>omega
   |0,1,_,_=>intro hm;simp at hm;exact hm.2 hq
   |1,0,_,_=>intro hm;simp at hq;exact hq.2 hm
   |1,1,_,_=>omega
   |i+2,_,hi,_=>exact absurd hi (by simp only[dT,mD];omega)
   |_,j+2,_,hj=>exact absurd hj (by simp only[dT,mD];omega)
 refine(hc _ _ h0).mono λe w' ⟨ha,hS⟩=>⟨ha,?_⟩;obtain⟨f0,G,hG,hd⟩:=hS;obtain⟨⟨e1,h1,h2⟩,_⟩:=hG 1 _ rfl;refine⟨⟨f0.os,f0.tape,f0.output,h1,λk hk hn=>h2 k hk hn⟩,G 0,(hG 0 _ rfl).1,λk hk=>?_⟩;have:=hd 0 1 (by simp) (by simp) (by decide) k hk;rw[e1]at this;by_cases Y1:k∈F
 ·exact .inl Y1
 ·right;simp only[List.mem_filter,oF,gG,not_and,sW]at this;by_cases UC:k<w.heap.size
  ·exact absurd (this UC) Y1
  ·omega
end Go.aS
namespace Go.Proofs.YtolkmchicplaoaaGreat
open Go.RowKit Go.aS Go.aS.C
def CF {w b m F G}(h:(dP b m).P w F)(k:(dP b m).P w G):F=G:=by
 obtain⟨_,vc,vt,rfl,h⟩:=h;obtain⟨_,vc',OD,rfl,k⟩:=k;have e1:=h.c0.symm.trans k.c0;have e2:=h.c9.symm.trans k.c9;injection e1 with e1;injection e2 with e2;rw[e1,e2]
def CG {w0 w Ts}(h:Sep w0 w Ts){i j:Nat}(yN:i≠j){b:Nat}{m:M}(hi:Ts[i]?=some (dP b m)){k:Nat}{T:TypeId}{cs}(hj:Ts[j]?=some (aJ k T cs)){F:List Nat}(hF:(dP b m).P w F):k∉F:=by
 obtain⟨_,G,hG,hd⟩:=h;have e:=CF hF (hG i _ hi).1;have e2:=(hG j _ hj).1.1;intro hk;rw[e]at hk;exact hd i j (dE.1 hi).1 (dE.1 hj).1 yN k hk (by rw[e2];simp)
def R6 {w0 w Ts}(h:Sep w0 w Ts){i:Nat}{b:Nat}{m:M}(hi:Ts[i]?=some (dP b m)):∃F,(dP b m).P w F:=by
 obtain⟨fp,hp,_⟩:=h.get i hi;exact⟨fp,hp⟩
def CH {w w' b m F}(h:(dP b m).P w F)(f:Fr [] w w'):(dP b m).P w' F:=(dP b m).fr h f (by simp)
def CI {w0 w Ts}(h:Sep w0 w Ts)(i){b m}(hi:Ts[i]?=some (dP b m)){F}(hF:(dP b m).P w F)(ht:m.trace.length≤100000)(aw op):
 Calls Tryz.prog 61 #[O b,I aw,su op] w λe w'=>e= .returned (.tuple #[ni (m.told aw op),I (err m.cells.length aw op)])∧Sep w0 w' (Ts.set i (dP b (m.step aw op)))∧Fr F w w':=by
 obtain⟨fp,hp,_,hk⟩:=h.get i hi;obtain rfl:=CF hF hp;refine(Jh hF (λw0 R hS=>TU hS ht aw op)).mono λe w' ⟨he,hf,F',h1,h2⟩=>⟨he,hk _ w' F' h1 hf h2,hf⟩
end Go.Proofs.YtolkmchicplaoaaGreat
section
namespace Go.aS
open Go.RowKit
def EG {A:Type}(T:A→a_):a_ where
 P w fp:=∃a,(T a).P w fp
 fr h f hn:=by obtain⟨a,h⟩:=h;exact⟨a,(T a).fr h f hn⟩
 lt h:=by obtain⟨a,h⟩:=h;exact(T a).lt h
def ie (p:Prop)(T:a_):a_ where
 P w fp:=p∧T.P w fp
 fr h f hn:=⟨h.1,T.fr h.2 f hn⟩
 lt h:=T.lt h.2
def t_ (T U_:a_):a_ where
 P w fp:=∃f g,fp=f++g∧T.P w f∧U_.P w g∧∀k∈f,k∉g
 fr h f hn:=by
  obtain⟨p,q,rfl,h1,h2,h3⟩:=h;exact⟨p,q,rfl,T.fr h1 f (λk hk=>hn k (by simp[hk])),U_.fr h2 f (λk hk=>hn k (by simp[hk])),h3⟩
 lt h:=by
  obtain⟨p,q,rfl,h1,h2,_⟩:=h;intro k hk;rcases jQ.1 hk with hk|hk
  ·exact T.lt h1 k hk
  ·exact U_.lt h2 k hk
def Sep.rZ {w0 w}{A:Type}{T:A→a_}{R}(h:Sep w0 w (EG T::R)):∃a,Sep w0 w (T a::R):=by
 obtain⟨fp,⟨a,hp⟩,_,hk⟩:=h.get 0 rfl;exact⟨a,hk (T a) w fp hp (Fr.refl _ _) (λq hq=> .inl hq)⟩
def Sep.qX {w0 w}{A:Type}(T:A→a_){a:A}{R}(h:Sep w0 w (T a::R)):Sep w0 w (EG T::R):=by
 obtain⟨fp,hp,_,hk⟩:=h.get 0 rfl;exact hk (EG T) w fp ⟨a,hp⟩ (Fr.refl _ _) (λq hq=> .inl hq)
def Sep.jn {w0 w}{p:Prop}{T R}(h:Sep w0 w (ie p T::R)):p∧Sep w0 w (T::R):=by
 obtain⟨fp,⟨A6,hp⟩,_,hk⟩:=h.get 0 rfl;exact⟨A6,hk T w fp hp (Fr.refl _ _) (λq hq=> .inl hq)⟩
def Sep.iK {w0 w}{p:Prop}{T R}(h:Sep w0 w (T::R))(h0:p):Sep w0 w (ie p T::R):=by
 obtain⟨fp,hp,_,hk⟩:=h.get 0 rfl;exact hk (ie p T) w fp ⟨h0,hp⟩ (Fr.refl _ _) (λq hq=> .inl hq)
def Sep.vf {w0 w T U_ R}(h:Sep w0 w (t_ T U_::R)):Sep w0 w (T::U_::R):=by
 obtain⟨h0,F,hF,hd⟩:=h;obtain⟨⟨f,g,Bl,h1,h2,h3⟩,hb⟩:=hF 0 _ rfl;refine⟨h0,λi=>match i with|0=>f|1=>g|i+2=>F (i+1),λi Ti hi=>?_,λi j hi hj yN q hq=>?_⟩
 ·match i,hi with
  |0,hi=>
   obtain rfl:T=Ti:=by simpa using hi
   exact⟨h1,λk hk=>hb k (by rw[Bl];simp[hk])⟩
  |1,hi=>
   obtain rfl:U_=Ti:=by simpa using hi
   exact⟨h2,λk hk=>hb k (by rw[Bl];simp[hk])⟩
  |i+2,hi=>exact hF (i+1) Ti (by simpa using hi)
 ·simp only[dT]at hi hj
  match i,j with
  |0,0=>omega
  |1,1=>omega
  |0,1=>exact h3 q hq
  |1,0=>intro hm;exact h3 q hm hq
  |0,j+2=>exact hd 0 (j+1) (by simp) (by simp only[dT];omega) (by omega) q (by rw[Bl];simp;exact .inl hq)
  |1,j+2=>exact hd 0 (j+1) (by simp) (by simp only[dT];omega) (by omega) q (by rw[Bl];simp;exact .inr hq)
  |i+2,0=>intro hm;exact hd (i+1) 0 (by simp only[dT];omega) (by simp) (by omega) q hq (by rw[Bl];simp;exact .inl hm)
  |i+2,1=>intro hm;exact hd (i+1) 0 (by simp only[dT];omega) (by simp) (by omega) q hq (by rw[Bl];simp;exact .inr hm)
  |i+2,j+2=>exact hd (i+1) (j+1) (by simp only[dT];omega) (by simp only[dT];omega) (by omega) q hq
def Sep.sy {w0 w T U_ R}(h:Sep w0 w (T::U_::R)):Sep w0 w (t_ T U_::R):=by
 obtain⟨h0,F,hF,hd⟩:=h;have h1:=hF 0 _ rfl;have h2:=hF 1 _ rfl;refine⟨h0,λi=>match i with|0=>F 0++F 1|i+1=>F (i+2),λi Ti hi=>?_,λi j hi hj yN q hq=>?_⟩
 ·match i,hi with
  |0,hi=>
   obtain rfl:t_ T U_=Ti:=by simpa using hi
   refine⟨⟨F 0,F 1,rfl,h1.1,h2.1,hd 0 1 (by simp) (by simp) (by omega)⟩,λk hk=>?_⟩;rcases jQ.1 hk with hk|hk
   ·exact h1.2 k hk
   ·exact h2.2 k hk
  |i+1,hi=>exact hF (i+2) Ti (by simpa using hi)
 ·simp only[dT]at hi hj
  match i,j with
  |0,0=>omega
  |0,j+1=>
   rcases jQ.1 hq with hq|hq
   ·exact hd 0 (j+2) (by simp) (by simp only[dT];omega) (by omega) q hq
   ·exact hd 1 (j+2) (by simp) (by simp only[dT];omega) (by omega) q hq
  |i+1,0=>
   intro hm;rcases jQ.1 hm with hm|hm
   ·exact hd (i+2) 0 (by simp only[dT];omega) (by simp) (by omega) q hq hm
   ·exact hd (i+2) 1 (by simp only[dT];omega) (by simp) (by omega) q hq hm
  |i+1,j+1=>exact hd (i+2) (j+2) (by simp only[dT];omega) (by simp only[dT];omega) (by omega) q hq
end Go.aS
end
section
namespace Go.aS
open Go.RowKit Go.Maps
def qY {P}{k:TypeId}{R:Value→Option (DataW Unit×List MemPlace)}{b n}{D:DataW Unit}{w w' fp}(h:w.ownsMap P k R b n D)(f:Fr fp w w')(hn:b∉fp):w'.ownsMap P k R b n D:=by
 have tH:=h.lt;obtain⟨es,clock,hb,F,hs,hD⟩:=h;exact⟨es,clock,(f.block b tH hn).trans hb,F,hs,hD⟩
def sA (P:Program)(k e:TypeId)(kq q:IntKind)(b n:Nat)(f:Int→Int):a_ where
 P w fp:=fp=[b]∧∃D:DataW Unit,w.ownsMap P k (plainElem P e) b n D∧IsMap D∧∀x,D.atKey (.int kq x) (.lit (.int q 0))= .lit (.int q (f x))
 fr h f hn:=⟨h.1,by obtain⟨D,h1,h2,h3⟩:=h.2;exact⟨D,qY h1 f (hn _ (by simp[h.1])),h2,h3⟩⟩
 lt h:=by rw[h.1];obtain⟨D,h1,_⟩:=h.2;simpa using h1.lt
def Sep.Yk {w0 w Ts}(h:Sep w0 w Ts)(P)(k e:TypeId)(kq q:IntKind):Sep w0 (w.alloc (.map #[] 0)) (sA P k e kq q w.heap.size 0 (λ_=>0)::Ts):=
 h.push ((Fr.refl [] w).alloc _) (fp:=[w.heap.size]) ⟨rfl,_,World.ownsMap_made w P k _,isMap_empty,λx=>rfl⟩ (by simp)
section
variable {P:Program} {ops:Array Oper} {rest:List Oper} {o:Oper} {a:Act} {w w0:World} {Q:Exit→Act→World→Prop} {Ts:List a_} {k e:TypeId} {kq q:IntKind} {b n:Nat} {f:Int→Int}
def jK (h:Sep w0 w Ts)(i:Nat)(hi:Ts[i]?=some (sA P k e kq q b n f))(hw:Region.wanted o (yielded ops a.tmps)=true)(m x:Operand)(t:TypeId)(j_:o.op=Op.lookup t m x false)
 (A4:P.underlying k=some (.int kq))(ht:P.underlying t=some (.map k e))(he:P.underlying e=some (.int q))(hz:∀w,(zeroValue e).run P w= .ok (.int q 0) w)
 (hm:a.eval m= .map (some b))(y:Int)(hx:a.eval x= .int kq y)(hy:(Lit.int kq y).wf=true)
 (hK:wpList P ops Q rest (a.put o.dst (.int q (f y))) w):wpList P ops Q (o::rest) a w:=by
 obtain⟨fp,⟨_,D,h1,h2,h3⟩,_⟩:=h.get i hi;obtain⟨c,qZ,jT,Hx⟩:=h1.lookup_int (int_keyed A4) ht he (hz w) (keyOf_int_mk A4 hy);rw[h3 y]at jT;have:f y=c:=by injection jT with hc;injection hc
 unfold wpList;rw[aB hw];refine .inl ?_;unfold Oper.wp;simp[execOp,j_,hm,hx,qZ,Result.andThen];rw[←this];exact hK
def vg (h:Sep w0 w Ts)(i)(hi:Ts[i]?=some (sA P k e kq q b n f))(hg:o.guard=none)(m x v:Operand)(t:TypeId)(j_:o.op=Op.mapUpdate t m x v)
 (A4:P.underlying k=some (.int kq))(ht:P.underlying t=some (.map k e))(he:P.underlying e=some (.int q))
 (hm:a.eval m= .map (some b))(y)(hx:a.eval x= .int kq y)(hy:(Lit.int kq y).wf=true)(u)(hv:a.eval v= .int q u)(hu:(Lit.int q u).wf=true)(hn:n<maxLen)
 (hK:∀w',Sep w0 w' (Ts.set i (sA P k e kq q b (n+1) (λz=>if z=y then u else f z)))→Fr [b] w w'→wpList P ops Q rest (a.put o.dst undef) w'):wpList P ops Q (o::rest) a w:=by
 obtain⟨fp,⟨TV,D,h1,h2,h3⟩,_,nk⟩:=h.get i hi;refine wpList_mapUpdate_own w hg m x v t j_ k e (int_keyed A4) ht _ b n D hm h1 hn _ _ _ hx hv (keyOf_int_mk A4 hy) _ [] (plainElem_int he hu) λw' PZ Ug=>?_;have pe:Fr [b] w w':=(Fr.refl [b] w).grown Ug (λk e=> .inl (by simpa using e.symm));refine hK w' (nk _ w' [b] ⟨rfl,_,PZ,h2.put _ _,λz=>?_⟩ (by rw[TV];exact pe) (λk hk=> .inl (by rw[TV];exact hk))) pe;dsimp only;by_cases e:z=y
 ·subst e;rw[aB rfl];exact atKey_put_same h2 (by first|exact⟨_,_,rfl⟩|exact trivial|simp[WideAt.IsKeyLit]) _ _
 ·rw[aq e,atKey_put_other (by simp;exact e),h3]
end
end Go.aS
end
section
namespace Go.aS
open Go.RowKit Go.Maps
section
variable {P:Program} {ops:Array Oper} {rest:List Oper} {o:Oper} {a:Act} {w w0:World} {Q:Exit→Act→World→Prop} {Ts:List a_} {k e:TypeId} {kq q:IntKind} {b:Nat} {K:List Int} {f:Int→Int}
end
end Go.aS
end
namespace Go.aS.Y
def jt (c:cA)(p:Int):Int×Int×Int:=if 0≤p∧p<size c then wh c p else(-1,0,0)
end Go.aS.Y
namespace Go.Proofs.YtolkmchicplaoaaGreat
open Go.RowKit Go.aS Go.aS.Y
def i_ {c}(h:Ok c)(p):lC c p (jt c p).1 (jt c p).2.1 (jt c p).2.2:=by
 unfold jt;by_cases hp:0≤p∧p<size c
 ·rw[aB hp];obtain⟨kd,i,k,hi,rfl,ht⟩:=C1 h hp.1 hp.2;rw[(zp h hi).1];exact ht
 ·rw[aq hp];exact JA c p (by omega)
def lD {c}(h:Ok c){kd i k}(hi:Is c kd i k):jt c (place c kd i k)=(kd,i,k):=by
 obtain⟨e,h0,h1⟩:=zp h hi;unfold jt;rw[aB ⟨h0,h1⟩,e]
def OJ {c}(h:Ok c)(p)(hp:0≤p∧p<size c):Is c (jt c p).1 (jt c p).2.1 (jt c p).2.2∧place c (jt c p).1 (jt c p).2.1 (jt c p).2.2=p:=by
 obtain⟨kd,i,k,hi,rfl,ht⟩:=C1 h hp.1 hp.2;rw[lD h hi];exact⟨hi,rfl⟩
def Yl {c}(h:Ok c)(p): -1≤(jt c p).1∧(jt c p).1≤16:=by
 by_cases hp:0≤p∧p<size c
 ·have:=yP (OJ h p hp).1;omega
 ·unfold jt;rw[aq hp];simp
def ad4 {c}(h:Ok c){kd i k}(hi:Is c kd i k):0≤i∧i<18100∧0≤k∧k<18100:=by
 have hb:=yP hi;obtain⟨h0,h1,h2,h3⟩:=hi;have hc:=iI h;have hl:=bK h;have:=h.t8;have:=h.nZ;unfold cr at h1;unfold aP each at h3;refine⟨h0,?_,h2,?_⟩
 ·revert h1;repeat(first|(split;intro h1;omega)|split)<;>intro h1<;>omega
 ·revert h3;repeat(first|(split;intro h1;omega)|split)<;>intro h1<;>omega
def JC {c}(h:Ok c)(p):0≤(jt c p).2.1∧(jt c p).2.1<18100∧0≤(jt c p).2.2∧(jt c p).2.2<18100:=by
 by_cases hp:0≤p∧p<size c
 ·exact ad4 h (OJ h p hp).1
 ·unfold jt;rw[aq hp];simp
end Go.Proofs.YtolkmchicplaoaaGreat
namespace Go.aS.Sc
def iS (e:Int×Int):List Value:=[I e.1,U e.2]
def gy (e:Int×Int):(iS e).length=2:=rfl
def C5 (e:Int×Int):∀u∈iS e,u.oneCell'=true:=by simp[iS,Value.oneCell']
def tJ (cs:List Value)(aw seq:Int)(v:Value)(d:Nat):List Value:=cs++[I aw,U seq,v,I d]
def C6 {cs}(aD:cs.length=24)(aw seq v d):
 (tJ cs aw seq v d)[24]?=some (I aw)∧(tJ cs aw seq v d)[25]?=some (U seq)∧(tJ cs aw seq v d)[26]?=some v∧(tJ cs aw seq v d)[27]?=some (I d):=by
 unfold tJ;refine⟨?_,?_,?_,?_⟩<;>(rw[gw (by omega),aD];rfl)
def JD {cs}(aD:cs.length=24)(aw seq:Int)(v)(d d':Nat):(tJ cs aw seq v d).set 27 (I d')=tJ cs aw seq v d':=by
 unfold tJ;rw[eD _ _ (by omega),aD];rfl
end Go.aS.Sc
namespace Go.Proofs.YtolkmchicplaoaaGreat
open Go.RowKit Go.aS Go.aS.Y Go.aS.Sc
def oS (w b cs)(aD:cs.length=24)(aw seq la n lc d)(hB:cB w b 242 (tJ cs aw seq (.slice la n lc) d))(hn:n≤100000)(hd:d≤100000):
 ba 117 #[O b] w (.bool (decide (d>n+1))):=by
 have ee:w.cell? ⟨b,26,none⟩=some (.slice la n lc):=(hB.cell 26).trans (C6 aD aw seq (.slice la n lc) d).2.2.1;have cu:w.cell? ⟨b,27,none⟩=some (I d):=(hB.cell 27).trans (C6 aD aw seq (.slice la n lc) d).2.2.2;clear hB;have e:decide ((d:Int)>(n:Int)+1)=decide (d>n+1):=by
  by_cases h:d>n+1
  ·rw[eP h,eP (show(d:Int)>(n:Int)+1 by omega)]
  ·rw[cW h,cW (show¬(d:Int)>(n:Int)+1 by omega)]
 generalize decide (d>n+1)=r at*;delta ba;go_in;go_wp2;refine bW [(1,[0,1,2,3,4,5,6,7,8,9,10,11])] (by kernel_rfl) ?_;simp only[zz];repeat(first|go_big_quiet_step(fail)|apply ax|apply af|apply ag|apply ah)
 refine aj ?_;go_wp2;go_ret;exact⟨rfl,(Fr.refl [] _).drew⟩
def zq7:(∀{w0 w R}(b cs)(aD:cs.length=24)(aw seq la n lc d x y z)(hS:Sep w0 w (aJ b 242 (tJ cs aw seq (.slice la n lc) d)::R))(hn:n≤100000)(hd:d≤100000)(p5:decide (d>n+1)=false),bR 245 #[O b,.agg #[U x,U y,.bool z]] w w0 (aJ b 242 (tJ cs aw seq (.slice la n lc) (d+1))::R))∧(∀{w0 w R}(b cs)(aD:cs.length=24)(aw seq la n lc d x y z)(hS:Sep w0 w (aJ b 242 (tJ cs aw seq (.slice la n lc) d)::R))(hn:n≤100000)(hd:d≤100000)(p5:decide (d>n+1)=true),bR 245 #[O b,.agg #[U x,U y,.bool z]] w w0 (aJ b 242 (tJ cs aw seq (.slice la n lc) (d))::R)):=by
 refine⟨?Z,?Y⟩
 case' Z|Y=>intro w0 w R b cs aD aw seq la n lc d x y z hS hn hd p5;have HS:=aa (hS.alloc (.cells [U x,U y,.bool z].toArray 84));clear hS;have HD:=aa (oS _ b cs aD aw seq la n lc d (HS.ar 0 rfl) hn hd);rw[p5]at HD;delta bR;go_in;go_wp2_with fail;refine HD.out.mono ?_;rintro e w1 ⟨rfl,hf⟩;have hS:=HS.c_ hf;clear hf HS HD;have cu:w1.cell? ⟨b,27,none⟩=some (I d):=((hS.ar 0 rfl).cell 27).trans (C6 aD aw seq (.slice la n lc) d).2.2.2;have f27:=(hS.ar 0 rfl).az 27;have du:=hS.set 0 rfl 27 (I (d+1:Nat));rw[JD aD]at du;have HS:=aa hS;have de:=aa du;clear hS du;go_wp2;go_end0
 case' Z=>exact⟨rfl,de.out⟩
 exact⟨rfl,HS.out⟩
def TY:=@zq7.1
def K3:=@zq7.2
end Go.Proofs.YtolkmchicplaoaaGreat
namespace Go.aS
def cB.OK {w k}{T:TypeId}{cs}(h:cB w k T cs)(o n)(hn:o+n≤cs.length):w.there k o n:=λj hj=>by
 refine⟨?_,h.az _⟩;rw[h.cell];simp;omega
def Sep.TZ {w0 w Ts}(h:Sep w0 w Ts)(i){k}{T:TypeId}{cs}(hi:Ts[i]?=some (aJ k T cs))(o vs):
 Sep w0 (w.setCells k o vs) (Ts.set i (aJ k T (n_ cs o vs))):=by
 obtain⟨fp,hp,_,hk⟩:=h.get i hi;exact hk _ _ [k] ⟨rfl,hp.2.setCells vs o⟩ (Fr.setCells (by simp[hp.1]) vs o (Fr.refl fp w)) (λq hq=> .inl (by rw[hp.1];exact hq))
def aC {P}{ops:Array Oper}{rest}{op:Oper}{a w w0}{Q:Exit→Act→World→Prop}{Ts}(h:Sep w0 w Ts)(i){b}{T:TypeId}{cs}(hi:Ts[i]?=some (aJ b T cs))(vs)(ty:TypeId)(x y:Operand)(ho:op.op= .store ty x y)(mV:op.guard=none)
 (hx:a.eval x=O b)(hy:a.eval y= .agg vs.toArray)(hl:vs.length=cs.length)(qL:(P.info? ty).map (·.size)=some vs.length)(h1:∀v∈vs,v.oneCell'=true)
 (hk:∀w',Sep w0 w' (Ts.set i (aJ b T vs))→Fr [b] w w'→wpList P ops Q rest (a.put op.dst undef) w'):wpList P ops Q (op::rest) a w:=by
 refine pR mV ty x y ho b 0 vs.toArray hx hy ((h.ar i hi).there _ (by simpa using hl)) (by simpa using qL) (iX h1) (hk _ ?_ ?_)
 ·simpa using h.iH i hi vs hl
 ·exact Fr.setCells (by simp) _ 0 (Fr.refl _ _)
def fz {P}{ops:Array Oper}{rest}{op:Oper}{a w w0}{Q:Exit→Act→World→Prop}{Ts}(h:Sep w0 w Ts)(i){b}{T:TypeId}{cs}(hi:Ts[i]?=some (aJ b T cs))(o vs)(ty:TypeId)(x y:Operand)(ho:op.op= .store ty x y)(mV:op.guard=none)
 (hx:a.eval x= .pointer (some ⟨b,o,none⟩))(hy:a.eval y= .agg vs.toArray)(hl:o+vs.length≤cs.length)(qL:(P.info? ty).map (·.size)=some vs.length)(h1:∀v∈vs,v.oneCell'=true)
 (hk:∀w',Sep w0 w' (Ts.set i (aJ b T (n_ cs o vs)))→Fr [b] w w'→wpList P ops Q rest (a.put op.dst undef) w'):wpList P ops Q (op::rest) a w:=by
 refine pR mV ty x y ho b o vs.toArray hx hy ((h.ar i hi).OK o _ (by simpa using hl)) (by simpa using qL) (iX h1) (hk _ ?_ ?_)
 ·simpa using h.TZ i hi o vs
 ·exact Fr.setCells (by simp) _ o (Fr.refl _ _)
structure O3 where
 v:Int
 s:Int
 ok:Bool
deriving DecidableEq
structure P6 where
 k:Int
 a:Int
 ov:Int
 os:Int
 nv:Int
 ns:Int
deriving DecidableEq
def eF (o:P6):List Value:=[I o.k,I o.a,U o.ov,U o.os,U o.nv,U o.ns]
def p0:P6:=⟨0,0,0,0,0,0⟩
def dg (o):∀v∈eF o,v.oneCell'=true:=by simp[eF,Value.oneCell']
structure ap2 where
 at_:Nat
 ask:P6
 aM0:Bool
def ap2.step (n:Nat)(t:ap2)(op:P6):ap2:=if t.aM0 then t else if n≤t.at_ then{t with ask:=op,aM0:=true}else{t with at_:=t.at_+1}
def ap2.out (l:List O3)(t:ap2):O3:=if t.aM0 then⟨0,0,false⟩else(l[t.at_]?).getD ⟨0,0,false⟩
end Go.aS
namespace Go.aS.H
open Go.aS.Y Go.aS.Sc
structure H where
 list:List (Int×Int)
 n:Int
 k:Int
 held:Int
 cv:Int
 cs:Int
 next:Int
def hL (cells:List Value)(aw owner seq:Int)(v:Value)(h:H):List Value:=
 cells++[I aw,I owner,U seq,v,I h.n,I h.k,I h.held,U h.cv,U h.cs,I h.next]
def ax1 {cs}(aD:cs.length=24)(aw owner seq v h):
 (hL cs aw owner seq v h)[24]?=some (I aw)∧(hL cs aw owner seq v h)[25]?=some (I owner)∧(hL cs aw owner seq v h)[26]?=some (U seq)∧(hL cs aw owner seq v h)[27]?=some v∧(hL cs aw owner seq v h)[28]?=some (I h.n)∧
 (hL cs aw owner seq v h)[29]?=some (I h.k)∧(hL cs aw owner seq v h)[30]?=some (I h.held)∧(hL cs aw owner seq v h)[31]?=some (U h.cv)∧(hL cs aw owner seq v h)[32]?=some (U h.cs)∧(hL cs aw owner seq v h)[33]?=some (I h.next):=by
 unfold hL;refine⟨?_,?_,?_,?_,?_,?_,?_,?_,?_,?_⟩<;>(rw[gw (by omega),aD];rfl)
def T0 {cs}(aD:cs.length=24)(aw owner seq v h x):(hL cs aw owner seq v h).set 27 x=hL cs aw owner seq x h:=by
 unfold hL;rw[eD _ _ (by omega),aD];rfl
def an8 {cs}(aD:cs.length=24)(aw owner seq v h x):(hL cs aw owner seq v h).set 28 (I x)=hL cs aw owner seq v {h with n:=x}:=by
 unfold hL;rw[eD _ _ (by omega),aD];rfl
def an9 {cs}(aD:cs.length=24)(aw owner seq v h x):(hL cs aw owner seq v h).set 29 (I x)=hL cs aw owner seq v {h with k:=x}:=by
 unfold hL;rw[eD _ _ (by omega),aD];rfl
def JE {cs}(aD:cs.length=24)(aw owner seq v h x):(hL cs aw owner seq v h).set 30 (I x)=hL cs aw owner seq v {h with held:=x}:=by
 unfold hL;rw[eD _ _ (by omega),aD];rfl
def WN {cs}(aD:cs.length=24)(aw owner seq v h x):(hL cs aw owner seq v h).set 31 (U x)=hL cs aw owner seq v {h with cv:=x}:=by
 unfold hL;rw[eD _ _ (by omega),aD];rfl
def WO {cs}(aD:cs.length=24)(aw owner seq v h x):(hL cs aw owner seq v h).set 32 (U x)=hL cs aw owner seq v {h with cs:=x}:=by
 unfold hL;rw[eD _ _ (by omega),aD];rfl
def km {cs}(aD:cs.length=24)(aw owner seq v h x):(hL cs aw owner seq v h).set 33 (I x)=hL cs aw owner seq v {h with next:=x}:=by
 unfold hL;rw[eD _ _ (by omega),aD];rfl
def nth (h:H)(k:Nat):Int×Int:=h.list.getD k (0,0)
def gU (c:cA)(h:H):Nat→Nat→H
 |0,_=>{h with next:=7}
 |g+1,k=>
  if(jt c (nth h k).1).1<7 then gU c h g (k+1)
  else{h with k:=k,next:=if(jt c (nth h k).1).1=16∧(jt c (nth h k).1).2.1≠h.held then 3 else 5}
def entry (c:cA)(h:H)(k:Nat):H:=gU c h (h.list.length-k) k
def read (h:H):H:={h with next:=if(h.list.length:Int)=h.n then 2 else 1}
def zw (is:Bool)(h:H):H:=if is then h else{h with next:=8}
def placeOf (s:Int):Int:=if 65536≤s then-1 else s
def nameOf (b:Int):Int:=IntKind.u64.wrap (IntKind.u64.wrap b+1)
def ask (c:cA)(aw owner seq:Int)(h:H):P6×Bool:=
 if h.next=0 then(⟨0,at_ c 5 owner 0,0,0,0,0⟩,true)
 else if h.next=1 then(⟨0,at_ c 6 owner h.list.length,0,0,0,0⟩,true)
 else if h.next=2∨h.next=4 then(⟨0,at_ c 4 owner 0,0,0,0,0⟩,true)
 else if h.next=3 then(⟨1,at_ c 3 aw 0,0,0,nameOf (jt c (nth h h.k.toNat).1).2.1,0⟩,true)
 else if h.next=5 then(⟨0,(nth h h.k.toNat).1,0,0,0,0⟩,true)
 else if h.next=6 then(⟨2,(nth h h.k.toNat).1,h.cv,h.cs,(nth h h.k.toNat).2,seq⟩,true)
 else if h.next=7 then(⟨2,at_ c 4 owner 0,1,seq,0,seq⟩,true)
 else(p0,false)
def tell (c:cA)(seq:Int)(v s:Int)(h:H):H:=
 if h.next=0 then read {h with n:=min v (cap c)}
 else if h.next=1 then read {h with list:=h.list++[(placeOf s,v)]}
 else if h.next=2 then zw (decide (v=1∧s=seq)) (entry c h 0)
 else if h.next=3 then{h with held:= -1,next:=4}
 else if h.next=4 then zw (decide (v=1∧s=seq)) {h with held:=(jt c (nth h h.k.toNat).1).2.1,next:=5}
 else if h.next=5 then(if seq≤s then entry c {h with cv:=v,cs:=s,next:=6} (h.k.toNat+1)else{h with cv:=v,cs:=s,next:=6})
 else if h.next=6 then entry c h (h.k.toNat+1)
 else if h.next=7 then{h with next:=8}
 else h
def Good (c:cA)(h:H):Prop:=0≤h.n∧h.n≤100000∧(h.next=1→(h.list.length:Int)<h.n)∧h.list.length≤100000∧0≤h.k∧(h.next=3∨h.next=4∨h.next=5∨h.next=6→h.k<h.list.length)
def sB {c h}(hg:Good c h):∀g k,g+k=h.list.length→Good c (gU c h g k)∧(gU c h g k).list=h.list∧(gU c h g k).n=h.n
 |0,k,_=>by
  obtain⟨a1,a2,a3,a4,a5,a6⟩:=hg;exact⟨⟨a1,a2,by simp[gU],a4,a5,by simp[gU]⟩,rfl,rfl⟩
 |g+1,k,hk=>by
  unfold gU;split
  ·exact sB hg g (k+1) (by omega)
  ·obtain⟨a1,a2,a3,a4,a5,a6⟩:=hg;refine⟨⟨a1,a2,?_,a4,by simp,?_⟩,rfl,rfl⟩
   ·dsimp only;split<;>simp
   ·intro _;dsimp only;omega
end Go.aS.H
namespace Go.aS
def dB.kG {T:Type}{en:T→List Value}{n w base}{e:TypeId}{v l}(hn:∀x,(en x).length=n)(h:w.ownsRow base e n v l.length (flat en l)):dB en n w v l:=by
 rcases bg h with⟨e1,e2⟩|⟨g,cap,rfl,hg,_,hc,_⟩
 ·exact⟨none,0,by rw[e1,e2],by omega,.inl (nJ e2)⟩
 ·refine⟨_,_,rfl,hc,.inr ⟨⟨g,0,none⟩,rfl,hg,λi hi j u hj=>?_⟩⟩;rw[Addr.add_lit,jF];have mW:j<n:=by rw[←hn l[i]];exact(dE.1 hj).1
  exact aH h _ _ ((cI hn l i hi j mW).trans hj)
def dB.take {T:Type}{en:T→List Value}{n w a m cap l}(h:dB en n w (.slice a m cap) l)(k)(hk:k≤l.length):dB en n w (.slice a k cap) (l.take k):=by
 obtain⟨a',tW,e,hc,h⟩:=h;simp only[dk]at e;obtain⟨rfl,rfl,rfl⟩:=e;have hl:(l.take k).length=k:=by rw[oE];omega
 refine⟨a,cap,by rw[hl],by omega,?_⟩;rcases h with h|⟨x,rfl,hx,xL⟩
 ·left;subst h;simp
 ·right;refine⟨x,rfl,hx,λi hi j u hj=>xL i (by omega) j u ?_⟩;rwa [List.getElem_take]at hj
end Go.aS
namespace Go.Proofs.YtolkmchicplaoaaGreat
open Go.RowKit Go.aS Go.aS.Y Go.aS.Sc
def OL:(Tryz.prog.info? 234).map (λi=>(i.zero,i.size,i.bytes))=some (some (.agg #[I 0,U 0]),2,16):=by kernel_rfl
def G7 (w n c):
 Calls Tryz.prog 158 #[.slice none n c] w λe w'=>∃v,e= .returned v∧eZ w w' (aU 0 234 2 v 0 []):=by
 have hk:=fun(wx:World)=>iW (P:=Tryz.prog) wx 203 234 none n c 0 0 underlying203;go_wp2;go_ret;exact⟨_,rfl,Fr.refl _ _,[],⟨rfl,jP _ _ _ _⟩,by simp⟩
def EI (w x n c l)(hl:l.length=n*2)(h1:∀u∈l,u.oneCell'=true)(hr:∀j u,l[j]?=some u→w.cell? (x.add j)=some u)(hn:n≤1000000):
 Calls Tryz.prog 158 #[.slice (some x) n c] w λe w'=>∃v,e= .returned v∧eZ w w' (aU 0 234 2 v n l):=by
 obtain⟨i0,iJ,jA,jB,iR⟩:=eA OL;have hk:=fun(wx:World)=>iW (P:=Tryz.prog) wx 203 234 (some x) n c 0 0 underlying203;have HR:Hid ((w.alloc (.cells [].toArray 234)).ownsRow 0 234 2 (.slice (some ⟨w.heap.size,0,none⟩) 0 0) 0 []):=
  pQ w #[] 0 (cE _) (by unfold maxLen;omega) (by simp)
 have HH:Hid (∀j u,l[j]?=some u→(w.alloc (.cells [].toArray 234)).cell? (x.add j)=some u):=λj u hj=>((Fr.refl [] w).alloc _).cell (hr j u hj) (by simp);clear hr;go_in;go_wp2_with(at_builtin;go_must (refine eC _ rfl _ _ 203 rfl 0 234 i0 _ 2 16 underlying203 iJ jA jB iR rfl (by decide) (.slice (some ⟨w.heap.size,0,none⟩) 0 0) 0 [] rfl HR.out x n c l rfl hl HH.out h1 (by unfold maxLen;omega) (by omega) (cE _) (by simp) ?_));intro g2 c2 w2 dy iZ jj kM mw;go_wp2;go_ret;refine⟨_,rfl,((Fr.refl [] w).alloc (.cells #[] 234)).grown iZ (λk e=> .inr (by simp[Value.ownBlock]at e;omega)),[g2],⟨rfl,by simpa using dy⟩,?_⟩;intro k hk;simp[Value.ownBlock]at hk jj;omega
def G8 (w v l)(h:dB iS 2 w v l)(hn:l.length≤1000000):
 Calls Tryz.prog 158 #[v] w λe w'=>∃v',e= .returned v'∧eZ w w' (aU 0 234 2 v' l.length (flat iS l)):=by
 obtain⟨a,cap,rfl,_,h⟩:=h;cases a with
 |none=>
  rcases h with rfl|⟨x,e,_⟩
  ·exact G7 w _ cap
  ·cases e
 |some x=>
  refine EI w x _ cap (flat iS l) (ck gy l) (gJ C5 l) (λj u hj=>?_) hn;have mW:j<l.length*2:=by rw[←ck gy l];exact(dE.1 hj).1
  rcases h with rfl|⟨x',e,_,hc⟩
  ·simp at mW
  ·injection e with e;subst e;have h1:j/2<l.length:=by omega
   have:=hc (j/2) h1 (j%2) u (by rw[←hj,←cI gy l (j/2) h1 (j%2) (by omega),show j/2*2+j%2=j by omega]);rwa [show j/2*2+j%2=j by omega]at this
def K4 (w c)(h:Ok c)(aw seq v L)(hL:dB iS 2 w v L)(hn:L.length≤100000)(k)(hk:k=min L.length (cap c).toNat):
 Calls Tryz.prog 143 #[aY c,I aw,U seq,v] w λe w'=>∃b v',e= .returned (O b)∧Sep w w' [aJ b 242 (tJ (ae c) aw seq v' 0),aU 0 234 2 v' k (flat iS (L.take k))]:=by
 have HC:=aa (λw=>uY w c h);have Uh:=iI h;have G9:(if cap c<(L.length:Int)then cap c else(L.length:Int))=(k:Int):=by split<;>omega
 have fu:k≤L.length:=by omega
 have xM:(L.take k).length=k:=by rw[oE];omega
 obtain⟨a,lc,rfl⟩:=hL.len;have XV:L.length≤lc:=by obtain⟨a',tW,e,hh,_⟩:=hL;simp only[dk]at e;omega
 have HT:=aa (λw' (f:Fr [] w w')=>(hL.take k fu).fr f);have rX:(k:Int)≤lc:=by omega
 have yQ:(0:Int)≤k:=by omega
 have aD:(ae c).length=24:=rfl;have HS:=aa ((Sep.nil (Fr.refl [] w)).new 58 (ae c));unfold aY at*;generalize ae c=cs at*;generalize cap c=q at*;generalize hK:L.take k=K at*;generalize L.length=m at*;clear h hL hK hk;obtain⟨x0,x1,x2,x3,x4,x5,x6,x7,x8,x9,l4,l5,l6,l7,l8,l9,l_,mf,mh,mi,mj,mm,mo,mq,rfl⟩:=rQ aD;have cC:=(HS.ar 0 rfl).drew;go_wp2;refine bW [(1,[0,1,2,3,4,5,6]),(2,[7]),(0,[8,9]),(2,[10]),(0,[11]),(3,[12]),(0,[13])] (by kernel_rfl) ?_;simp only[zz];refine af ?_;refine ak 58 _ w.heap.size 0 [x0,x1,x2,x3,x4,x5,x6,x7,x8,x9,l4,l5,l6,l7,l8,l9,l_,mf,mh,mi,mj,mm,mo,mq] _ rfl rfl rfl (bL cC (by simp)) underlying58 rfl (by kernel_rfl) ?_;simp only[Act.put,aZ,zs];iterate 5 (first|go_big_quiet_step (fail)|quiet_step (fail))
 refine ak 58 _ w.heap.size 0 [x0,x1,x2,x3,x4,x5,x6,x7,x8,x9,l4,l5,l6,l7,l8,l9,l_,mf,mh,mi,mj,mm,mo,mq] _ rfl rfl rfl (bL cC (by simp)) underlying58 rfl (by kernel_rfl) ?_;simp only[Act.put,aZ,zs];refine ax ?_;refine aA ?_;go_wp2_with fail;refine(HC.out _).kh λw1 HF=>?_;go_wp2;refine⟨⟨⟨_,(by exact HF.out)⟩,rfl⟩,?_⟩;repeat(first|go_big_quiet_step(fail)|apply ax|apply af|apply ag|apply ah)
 refine aA ?_;go_wp2_with fail;refine(G8 _ _ K (HT.out _ (((Fr.refl [] w).alloc _).drew.trans HF.out)) (by omega)).mono ?_;rintro e w2 ⟨v',rfl,hN⟩;rw[xM]at hN;obtain⟨la,lc',rfl⟩:=hN.form;have HN:=aa hN;clear hN;go_wp2;refine⟨⟨⟨_,(by exact HF.trans HN.fr)⟩,rfl⟩,?_⟩;repeat(first|go_big_quiet_step(fail)|apply ax|apply af|apply ag|apply ah)
 refine ao ?_;go_wp2_with fail;repeat(first|go_big_quiet_step(fail)|apply ax|apply af|apply ag|apply ah)
 refine aj ?_;go_wp2;go_ret;have hS:=((HS.drew.c_ HF.out).fresh HN.out).new 242 (tJ [x0,x1,x2,x3,x4,x5,x6,x7,x8,x9,l4,l5,l6,l7,l8,l9,l_,mf,mh,mi,mj,mm,mo,mq] aw seq (.slice la k lc') 0);exact⟨_,_,rfl,hS.sub [0,1] rfl (by decide)⟩
end Go.Proofs.YtolkmchicplaoaaGreat
namespace Go.aS
open Go.RowKit
def Sep.G_ {w0 w Ts}(h:Sep w0 w Ts)(base)(e:TypeId)(size):Sep w0 w (aU base e size (.slice none 0 0) 0 []::Ts):=
 h.push (Fr.refl [] w) (fp:=[]) ⟨rfl,jP w base e size⟩ (by simp)
end Go.aS
namespace Go.Proofs.YtolkmchicplaoaaGreat
open Go.RowKit Go.aS Go.aS.Y Go.aS.Sc
def K5 (w b cs)(aD:cs.length=24)(aw owner seq v h)(hB:cB w b 221 (H.hL cs aw owner seq v h)):
 ba 144 #[O b] w (.bool (decide (h.next=8))):=by
 have lJ:=hB.aR aD 33 rfl rfl;clear hB;generalize h.next=q at*;have e:decide (q=8)=(q==8):=by by_cases x:q=8<;>simp[x]
 rw[e];delta ba;go_in;go_wp2;first|done|(go_ret;exact⟨rfl,Fr.refl _ _⟩)|exact⟨rfl,Fr.refl _ _⟩
def K6 (w s)(hs:0≤s):ba 242 #[U s] w (I (H.placeOf s)):=by
 unfold H.placeOf;by_cases h:65536≤s
 ·rw[aB h];delta ba;go_in;go_wp2;go_ret;exact⟨rfl,Fr.refl _ _⟩
 ·rw[aq h];have hw:IntKind.i64.wrap s=s:=bf s (by omega) (by omega);delta ba;go_in;go_wp2;go_ret;exact⟨rfl,Fr.refl _ _⟩
def xN {w0 w R}(b cs)(aD:cs.length=24)(aw owner seq v h is)(hS:Sep w0 w (aJ b 221 (H.hL cs aw owner seq v h)::R)):
 bR 243 #[O b,.bool is] w w0 (aJ b 221 (H.hL cs aw owner seq v (H.zw is h))::R):=by
 have f33:=(hS.ar 0 rfl).az 33;have lJ:=(hS.ar 0 rfl).aR aD 33 rfl rfl;have du:=hS.set 0 rfl 33 (I 8);rw[H.km aD]at du;have HS:=aa hS;have de:=aa du;clear hS du;generalize h.next=q at lJ;unfold H.zw;cases is
 ·delta bR;go_in;go_wp2;go_end0;exact⟨rfl,de.out⟩
 ·delta bR;go_in;go_wp2;go_end0;exact⟨rfl,HS.out⟩
def BX{w0 w R}(b cs)(aD:cs.length=24)(aw owner seq la m lc h)(hm:m=h.list.length)(hS:Sep w0 w (aJ b 221 (H.hL cs aw owner seq (.slice la m lc) h)::R)):bR 240 #[O b] w w0 (aJ b 221 (H.hL cs aw owner seq (.slice la m lc) (H.read h))::R):=by
 unfold H.read;by_cases e:(h.list.length:Int)=h.n;refine ?Z;rotate_left;refine ?Y
 case' Z=>
  have e2:((h.list.length:Int)==h.n)=true:=by simpa using e
  rw[aB e]
 case' Y=>
  have e2:((h.list.length:Int)==h.n)=false:=by simpa using e
  rw[aq e]
 case' Z|Y=>
  clear e;have f33:=(hS.ar 0 rfl).az 33;have lJ:=(hS.ar 0 rfl).aR aD 33 rfl rfl;have eG:=hS.set 0 rfl 33 (I 1);rw[H.km aD]at eG;have dS:=aa eG;clear eG hS;delta bR;go_in;go_wp2_with fail;generalize World.setCell _ _ _=w1 at dS⊢;have cu:=(dS.ar 0 rfl).aR aD 27 rfl rfl;have dz:=(dS.ar 0 rfl).aR aD 28 rfl rfl;obtain⟨lJ,f33⟩:=(dS.ar 0 rfl).fe aD 33 rfl rfl;dsimp only at cu dz lJ;have du:=dS.drew.set 0 rfl 33 (I 2);rw[H.km aD]at du;have de:=aa du;clear du;subst hm;refine bW [(1,[0,1,2,3,4,5,6,7,8,9])] (by kernel_rfl) ?_;simp only[zz];repeat(first|go_big_quiet_step(fail)|apply ax|apply af|apply ag|apply ah)
  refine aj ?_;go_wp2;go_end0
 case' Z=>exact⟨rfl,de.out⟩
 exact⟨rfl,dS.drew⟩
def eL (w c)(aE:Ok c)(b aw owner seq v h)(hB:cB w b 221 (H.hL (ae c) aw owner seq v h)):
 ba 241 #[O b] w (.tuple #[I (at_ c 4 owner 0),.agg [U 1,U seq].toArray]):=by
 have HA:=aa (λw=>cx w c aE 4 owner 0);have aD:(ae c).length=24:=rfl;unfold aY at*;generalize ae c=cs at*;generalize at_ c 4 owner 0=av at*;have HS:=aa ((Sep.nil (Fr.refl [] w)).new 68 [U 0,U 0]);have aF:=hB.fr HS.fr (by simp);have uG:=hB.lt;have fK:=aF.aR aD 25 rfl rfl;have ee:=aF.aR aD 26 rfl rfl;have cC:=aF.drew;have pg:¬b=w.heap.size:=by omega
 clear hB aF;delta ba;go_in;go_wp2_with fail;refine dq [(1,[0,1,2,3,4,5,6,7,9,10,11,12,13]),(2,[8]),(0,[14]),(3,[15])] [w.heap.size] (by kernel_rfl) (by kernel_rfl) ?_;simp only[zz];refine af ?_;iterate 3 (first|go_big_quiet_step (fail)|quiet_step (fail))
 refine ak 58 _ b 0 cs _ rfl rfl rfl (cm cC (by simp;omega)) underlying58 rfl (by rw[aD];kernel_rfl) ?_;simp only[Act.put,aZ,zs];repeat go_big_quiet_step(fail)
 refine ax ?_;refine aA ?_;go_wp2_with fail;refine(HA.out _).kk λw2 hf=>?_;have HF:=aa (hf.mono (se:=[w.heap.size]) (by simp));have HS:=aa (HS.drew.c_ hf);clear hf;go_wp2;refine⟨⟨⟨_,(by exact HF.out)⟩,rfl⟩,?_⟩;repeat(first|go_big_quiet_step(fail)|apply ax|apply af|apply ag|apply ah)
 refine ao ?_;have pV:∀u∈ [U 1,U seq],u.oneCell'=true:=by simp[Value.oneCell']
 refine aC HS.out 0 rfl [U 1,U seq] 68 _ _ rfl rfl rfl rfl rfl (by kernel_rfl) pV (λwA hA _=>?_);have Bn:=aa hA;clear hA;go_wp2;refine aj ?_;go_wp2_with fail;have r0:=(Bn.ar 0 rfl).cell 0;have r1:=(Bn.ar 0 rfl).cell 1;simp only[zg]at r0 r1;exact aV (v:= .tuple #[I av,.agg [U 1,U seq].toArray]) (by simp[results,Tryz.results241,go_sem,r0,r1]) rfl ⟨rfl,Bn.fr⟩
def OM (w cs)(aD:cs.length=24)(pV:∀u∈cs,u.oneCell'=true)(aw owner seq):
 Calls Tryz.prog 108 #[.agg cs.toArray,I aw,I owner,U seq] w λe w'=>∃b,e= .returned (O b)∧Sep w w' [aJ b 221 (H.hL cs aw owner seq (.slice none 0 0) ⟨[],0,0,-1,0,0,0⟩),aU 0 234 2 (.slice none 0 0) 0 []]:=by
 have HS:=aa ((Sep.nil (Fr.refl [] w)).new 58 cs);obtain⟨x0,x1,x2,x3,x4,x5,x6,x7,x8,x9,l4,l5,l6,l7,l8,l9,l_,mf,mh,mi,mj,mm,mo,mq,rfl⟩:=rQ aD;go_in;go_wp2_with(refine ay 58 _ rfl rfl _ 0 rfl _ _ (HS.ar 0 rfl).range underlying58 rfl (by kernel_rfl) ?_);go_ret;have hS:=(HS.new 221 (H.hL [x0,x1,x2,x3,x4,x5,x6,x7,x8,x9,l4,l5,l6,l7,l8,l9,l_,mf,mh,mi,mj,mm,mo,mq] aw owner seq (.slice none 0 0) ⟨[],0,0,-1,0,0,0⟩)).G_ 0 234 2;simp only[cG]at hS;exact⟨_,rfl,hS.sub [1,0] rfl (by decide)⟩
end Go.Proofs.YtolkmchicplaoaaGreat
namespace Go.aS
open Go.RowKit
def NK:a_ where
 P _ fp:=fp=[]
 fr h _ _:=h
 lt h:=by rw[h];simp
def cM:List a_→a_
 |[]=>NK
 |T::Ts=>t_ T (cM Ts)
def Sep.swap {w0 w T U_ R}(h:Sep w0 w (T::U_::R)):Sep w0 w (U_::T::R):=h.pull 1 rfl
def Sep.P1 {w0 w A R T}(h:Sep w0 w (A++T::R)):Sep w0 w (T::(A++R)):=by
 have h2:=h.pull A.length (T:=T) (by rw[gw (dp _)];simp);rwa [List.eraseIdx_append_of_length_le (dp _),oI,List.eraseIdx_cons_zero]at h2
def Sep.kz {w0 w A R T}(h:Sep w0 w (T::(A++R))):Sep w0 w (A++T::R):=by
 have e:(A++T::R).eraseIdx A.length=A++R:=by rw[List.eraseIdx_append_of_length_le (dp _),oI,List.eraseIdx_cons_zero]
 rw[←e]at h;have h2:=Sep.back A.length (by simp) h;rwa [eD _ _ (dp _),oI,aL]at h2
def Sep.ud {w0 w R}(h:Sep w0 w R):Sep w0 w (NK::R):=h.push (Fr.refl [] w) (fp:=[]) rfl (by simp)
def Sep.ofList {w0 w}:∀{Ts R:List a_},Sep w0 w (cM Ts::R)→Sep w0 w (Ts++R)
 |[],_,h=>h.tail
 |T::Ts,R,h=>by
  have h1:Sep w0 w (T::cM Ts::R):=Sep.vf h;exact(Sep.ofList h1.swap).P1
def Sep.toList {w0 w}:∀{Ts R:List a_},Sep w0 w (Ts++R)→Sep w0 w (cM Ts::R)
 |[],_,h=>h.ud
 |T::Ts,R,h=>by
  have h1:Sep w0 w (T::(Ts++R)):=h;exact Sep.sy (Sep.toList h1.kz).swap
def Sep.pick {w0 w Ts R T i}(h:Sep w0 w (cM Ts::R))(hi:Ts[i]?=some T):Sep w0 w (T::cM (Ts.eraseIdx i)::R):=by
 have td:i<Ts.length:=(dE.1 hi).1;have h2:=h.ofList.pull i (T:=T) (by rw[gm td];exact hi);rw[List.eraseIdx_append_of_lt_length td]at h2;exact(Sep.toList (Sep.kz h2)).swap
def Sep.ON {w0 w:World}{Ts R:List a_}{T:a_}{i:Nat}(td:i<Ts.length)(h:Sep w0 w (T::cM (Ts.eraseIdx i)::R)):Sep w0 w (cM (Ts.set i T)::R):=by
 have h2:=(Sep.ofList h.swap).P1;have e:(Ts++R).eraseIdx i=Ts.eraseIdx i++R:=List.eraseIdx_append_of_lt_length td R;rw[←e]at h2;have h3:=Sep.back i (by rw[eE];omega) h2;rw[uK _ _ td]at h3;exact h3.toList
def Sep.vh {w0 w Ts R T}(h:Sep w0 w (T::cM Ts::R)):Sep w0 w (cM (Ts++[T])::R):=by
 apply Sep.toList;rw[qP];exact Sep.kz (Sep.P1 (A:=[]) (Sep.kz (A:=[]) (by
  have:=(Sep.ofList h.swap).P1;exact this)))
def Sep.known {w0 w Ts R}(h:Sep w0 w (cM Ts::R)){i:Nat}{T:a_}(hi:Ts[i]?=some T):∃fp,T.P w fp:=by
 obtain⟨fp,hp,_⟩:=(h.pick hi).get 0 rfl;exact⟨fp,hp⟩
def Yn {T:Type}(en:T→List Value)(n g:Nat)(v:Value)(l:List T):a_ where
 P w fp:=fp=[g]∧g<w.heap.size∧dB en n w v l∧(∀a m c,v= .slice (some a) m c→a.block=g)
 fr:=by
  rintro w w' fp se ⟨rfl,hl,⟨a,cap,e,hc,h⟩,hg⟩ f hn;refine⟨rfl,pP hl f.size,⟨a,cap,e,hc,h.imp id ?_⟩,hg⟩;rintro⟨x,rfl,hx,hr⟩;have hxg:=hg _ _ _ e;exact⟨x,rfl,pP hx f.size,λi hi j u hj=>f.cell (hr i hi j u hj) (hn _ (by rw[jO];unfold Addr.add;split<;>simp[hxg]))⟩
 lt h:=by rw[h.1];simp[h.2.1]
def Sep.ro {w0 w Ts}(h:Sep w0 w Ts)(i:Nat){T:Type}{en:T→List Value}{n g:Nat}{v}{l:List T}(hi:Ts[i]?=some (Yn en n g v l)):dB en n w v l:=by
 obtain⟨fp,hp,_⟩:=h.get i hi;exact hp.2.2.1
def Rd (w:World)(v:Value)(n:Nat)(l:List Value):Prop:=
 ∃ad c,v= .slice ad n c∧((ad=none∧n=0∧l=[])∨∃q,ad=some q∧∀j u,l[j]?=some u→w.cell? (q.add j)=some u)
def Rd.fr {w w' v n l}(h:Rd w v n l)(f:Fr [] w w'):Rd w' v n l:=by
 obtain⟨ad,c,e,h⟩:=h;refine⟨ad,c,e,h.imp id ?_⟩;rintro⟨q,e,h⟩;exact⟨q,e,λj u hj=>f.cell (h j u hj) (by simp)⟩
def Rd.form {w v n l}(h:Rd w v n l):∃ad c,v= .slice ad n c:=by
 obtain⟨ad,c,e,_⟩:=h;exact⟨ad,c,e⟩
def zy {w k v n xs}{e:TypeId}(h:w.ownsRow 0 e k v n xs):Rd w v n xs:=by
 rcases bg h with⟨rfl,rfl⟩|⟨g,cap,rfl,_⟩
 ·exact⟨none,0,rfl,.inl ⟨rfl,rfl,nJ (by simpa using h.1)⟩⟩
 ·exact⟨_,_,rfl,.inr ⟨_,rfl,h.cells rfl⟩⟩
def JF {T:Type}{en:T→List Value}{k w v l}(hn:∀x,(en x).length=k)(h:dB en k w v l):Rd w v l.length (flat en l):=by
 obtain⟨a,cap,rfl,_,h⟩:=h;refine⟨a,cap,rfl,?_⟩;rcases h with rfl|⟨x,rfl,_,hc⟩
 ·cases a with
  |none=>exact .inl ⟨rfl,rfl,rfl⟩
  |some x=>exact .inr ⟨x,rfl,λj u hj=>by simp[flat]at hj⟩
 ·refine .inr ⟨x,rfl,λj u hj=>?_⟩;have mW:j<l.length*k:=by rw[←ck hn l];exact(dE.1 hj).1
  have hk:0<k:=by apply Nat.pos_of_ne_zero;intro e;subst e;omega
  have e1:j/k*k+j%k=j:=by rw[px];exact Nat.div_add_mod j k
  have h1:j/k<l.length:=Nat.div_lt_of_lt_mul (by rw[px];exact mW);have:=hc (j/k) h1 (j%k) u (by rw[←hj,←cI hn l (j/k) h1 (j%k) (py _ hk),e1]);rwa [e1]at this
end Go.aS
namespace Go.Proofs.YtolkmchicplaoaaGreat
open Go.RowKit Go.aS
def Ha:(Tryz.prog.info? 178).map (λi=>(i.zero,i.size,i.bytes))=some (some (.agg #[I 0,U 0,I 0,U 0,.slice none 0 0]),5,56):=by kernel_rfl
def K7 (w n c):
 Calls Tryz.prog 145 #[.slice none n c] w λe w'=>∃v,e= .returned v∧eZ w w' (aU 0 178 5 v 0 []):=by
 have hk:=fun(wx:World)=>iW (P:=Tryz.prog) wx 175 178 none n c 0 0 underlying175;go_wp2;go_ret;exact⟨_,rfl,Fr.refl _ _,[],⟨rfl,jP _ _ _ _⟩,by simp⟩
def Hb (w x n c l)(hl:l.length=n*5)(h1:∀u∈l,u.oneCell'=true)(hr:∀j u,l[j]?=some u→w.cell? (x.add j)=some u)(hn:n≤1000000):
 Calls Tryz.prog 145 #[.slice (some x) n c] w λe w'=>∃v,e= .returned v∧eZ w w' (aU 0 178 5 v n l):=by
 obtain⟨i0,iJ,jA,jB,iR⟩:=eA Ha;have hk:=fun(wx:World)=>iW (P:=Tryz.prog) wx 175 178 (some x) n c 0 0 underlying175;have HR:Hid ((w.alloc (.cells [].toArray 178)).ownsRow 0 178 5 (.slice (some ⟨w.heap.size,0,none⟩) 0 0) 0 []):=
  pQ w #[] 0 (cE _) (by unfold maxLen;omega) (by simp)
 have HH:Hid (∀j u,l[j]?=some u→(w.alloc (.cells [].toArray 178)).cell? (x.add j)=some u):=λj u hj=>((Fr.refl [] w).alloc _).cell (hr j u hj) (by simp);clear hr;go_in;go_wp2_with(at_builtin;go_must (refine eC _ rfl _ _ 175 rfl 0 178 i0 _ 5 56 underlying175 iJ jA jB iR rfl (by decide) (.slice (some ⟨w.heap.size,0,none⟩) 0 0) 0 [] rfl HR.out x n c l rfl hl HH.out h1 (by unfold maxLen;omega) (by omega) (cE _) (by simp) ?_));intro g2 c2 w2 dy iZ jj kM mw;go_wp2;go_ret;refine⟨_,rfl,((Fr.refl [] w).alloc (.cells #[] 178)).grown iZ (λk e=> .inr (by simp[Value.ownBlock]at e;omega)),[g2],⟨rfl,by simpa using dy⟩,?_⟩;intro k hk;simp[Value.ownBlock]at hk jj;omega
def K8 (w v n l)(h:Rd w v n l)(hl:l.length=n*5)(h1:∀u∈l,u.oneCell'=true)(hn:n≤1000000):
 Calls Tryz.prog 145 #[v] w λe w'=>∃v',e= .returned v'∧eZ w w' (aU 0 178 5 v' n l):=by
 obtain⟨ad,c,rfl,h⟩:=h;rcases h with⟨rfl,rfl,rfl⟩|⟨q,rfl,hq⟩
 ·exact K7 w 0 c
 ·exact Hb w q n c l hl h1 hq hn
def K9:(Tryz.prog.info? 26).map (λi=>(i.zero,i.size,i.bytes))=some (some (U 0),1,8):=by kernel_rfl
def OO (w n c):
 Calls Tryz.prog 39 #[.slice none n c] w λe w'=>∃v,e= .returned v∧eZ w w' (aU 0 26 1 v 0 []):=by
 have hk:=fun(wx:World)=>iW (P:=Tryz.prog) wx 49 26 none n c 0 0 underlying49;go_wp2;go_ret;exact⟨_,rfl,Fr.refl _ _,[],⟨rfl,jP _ _ _ _⟩,by simp⟩
def K_ (w x n c l)(hl:l.length=n*1)(h1:∀u∈l,u.oneCell'=true)(hr:∀j u,l[j]?=some u→w.cell? (x.add j)=some u)(hn:n≤1000000):
 Calls Tryz.prog 39 #[.slice (some x) n c] w λe w'=>∃v,e= .returned v∧eZ w w' (aU 0 26 1 v n l):=by
 obtain⟨i0,iJ,jA,jB,iR⟩:=eA K9;have hk:=fun(wx:World)=>iW (P:=Tryz.prog) wx 49 26 (some x) n c 0 0 underlying49;have HR:Hid ((w.alloc (.cells [].toArray 26)).ownsRow 0 26 1 (.slice (some ⟨w.heap.size,0,none⟩) 0 0) 0 []):=
  pQ w #[] 0 (cE _) (by unfold maxLen;omega) (by simp)
 have HH:Hid (∀j u,l[j]?=some u→(w.alloc (.cells [].toArray 26)).cell? (x.add j)=some u):=λj u hj=>((Fr.refl [] w).alloc _).cell (hr j u hj) (by simp);clear hr;go_in;go_wp2_with(at_builtin;go_must (refine eC _ rfl _ _ 49 rfl 0 26 i0 _ 1 8 underlying49 iJ jA jB iR rfl (by decide) (.slice (some ⟨w.heap.size,0,none⟩) 0 0) 0 [] rfl HR.out x n c l rfl hl HH.out h1 (by unfold maxLen;omega) (by omega) (cE _) (by simp) ?_));intro g2 c2 w2 dy iZ jj kM mw;go_wp2;go_ret;refine⟨_,rfl,((Fr.refl [] w).alloc (.cells #[] 26)).grown iZ (λk e=> .inr (by simp[Value.ownBlock]at e;omega)),[g2],⟨rfl,by simpa using dy⟩,?_⟩;intro k hk;simp[Value.ownBlock]at hk jj;omega
def EJ (w v n l)(h:Rd w v n l)(hl:l.length=n*1)(h1:∀u∈l,u.oneCell'=true)(hn:n≤1000000):
 Calls Tryz.prog 39 #[v] w λe w'=>∃v',e= .returned v'∧eZ w w' (aU 0 26 1 v' n l):=by
 obtain⟨ad,c,rfl,h⟩:=h;rcases h with⟨rfl,rfl,rfl⟩|⟨q,rfl,hq⟩
 ·exact OO w 0 c
 ·exact K_ w q n c l hl h1 hq hn
def Hc:(Tryz.prog.info? 51).map (λi=>(i.zero,i.size,i.bytes))=some (some (.agg #[I 0,I 0,I 0,I 0,U 0,.slice none 0 0]),6,64):=by kernel_rfl
def La (w n c):
 Calls Tryz.prog 38 #[.slice none n c] w λe w'=>∃v,e= .returned v∧eZ w w' (aU 0 51 6 v 0 []):=by
 have hk:=fun(wx:World)=>iW (P:=Tryz.prog) wx 44 51 none n c 0 0 underlying44;go_wp2;go_ret;exact⟨_,rfl,Fr.refl _ _,[],⟨rfl,jP _ _ _ _⟩,by simp⟩
def Hd (w x n c l)(hl:l.length=n*6)(h1:∀u∈l,u.oneCell'=true)(hr:∀j u,l[j]?=some u→w.cell? (x.add j)=some u)(hn:n≤1000000):
 Calls Tryz.prog 38 #[.slice (some x) n c] w λe w'=>∃v,e= .returned v∧eZ w w' (aU 0 51 6 v n l):=by
 obtain⟨i0,iJ,jA,jB,iR⟩:=eA Hc;have hk:=fun(wx:World)=>iW (P:=Tryz.prog) wx 44 51 (some x) n c 0 0 underlying44;have HR:Hid ((w.alloc (.cells [].toArray 51)).ownsRow 0 51 6 (.slice (some ⟨w.heap.size,0,none⟩) 0 0) 0 []):=
  pQ w #[] 0 (cE _) (by unfold maxLen;omega) (by simp)
 have HH:Hid (∀j u,l[j]?=some u→(w.alloc (.cells [].toArray 51)).cell? (x.add j)=some u):=λj u hj=>((Fr.refl [] w).alloc _).cell (hr j u hj) (by simp);clear hr;go_in;go_wp2_with(at_builtin;go_must (refine eC _ rfl _ _ 44 rfl 0 51 i0 _ 6 64 underlying44 iJ jA jB iR rfl (by decide) (.slice (some ⟨w.heap.size,0,none⟩) 0 0) 0 [] rfl HR.out x n c l rfl hl HH.out h1 (by unfold maxLen;omega) (by omega) (cE _) (by simp) ?_));intro g2 c2 w2 dy iZ jj kM mw;go_wp2;go_ret;refine⟨_,rfl,((Fr.refl [] w).alloc (.cells #[] 51)).grown iZ (λk e=> .inr (by simp[Value.ownBlock]at e;omega)),[g2],⟨rfl,by simpa using dy⟩,?_⟩;intro k hk;simp[Value.ownBlock]at hk jj;omega
def Lb (w v n l)(h:Rd w v n l)(hl:l.length=n*6)(h1:∀u∈l,u.oneCell'=true)(hn:n≤1000000):
 Calls Tryz.prog 38 #[v] w λe w'=>∃v',e= .returned v'∧eZ w w' (aU 0 51 6 v' n l):=by
 obtain⟨ad,c,rfl,h⟩:=h;rcases h with⟨rfl,rfl,rfl⟩|⟨q,rfl,hq⟩
 ·exact La w 0 c
 ·exact Hd w q n c l hl h1 hq hn
def Lc:(Tryz.prog.info? 55).map (λi=>(i.zero,i.size,i.bytes))=some (some (.agg #[I 0,I 0,I 0,U 0,U 0,U 0,U 0,I 0,I 0,I 0,.bool false,I 0,U 0]),13,104):=by kernel_rfl
def OP (w n c):
 Calls Tryz.prog 43 #[.slice none n c] w λe w'=>∃v,e= .returned v∧eZ w w' (aU 0 55 13 v 0 []):=by
 have hk:=fun(wx:World)=>iW (P:=Tryz.prog) wx 52 55 none n c 0 0 underlying52;go_wp2;go_ret;exact⟨_,rfl,Fr.refl _ _,[],⟨rfl,jP _ _ _ _⟩,by simp⟩
def Ld (w x n c l)(hl:l.length=n*13)(h1:∀u∈l,u.oneCell'=true)(hr:∀j u,l[j]?=some u→w.cell? (x.add j)=some u)(hn:n≤1000000):
 Calls Tryz.prog 43 #[.slice (some x) n c] w λe w'=>∃v,e= .returned v∧eZ w w' (aU 0 55 13 v n l):=by
 obtain⟨i0,iJ,jA,jB,iR⟩:=eA Lc;have hk:=fun(wx:World)=>iW (P:=Tryz.prog) wx 52 55 (some x) n c 0 0 underlying52;have HR:Hid ((w.alloc (.cells [].toArray 55)).ownsRow 0 55 13 (.slice (some ⟨w.heap.size,0,none⟩) 0 0) 0 []):=
  pQ w #[] 0 (cE _) (by unfold maxLen;omega) (by simp)
 have HH:Hid (∀j u,l[j]?=some u→(w.alloc (.cells [].toArray 55)).cell? (x.add j)=some u):=λj u hj=>((Fr.refl [] w).alloc _).cell (hr j u hj) (by simp);clear hr;go_in;go_wp2_with(at_builtin;go_must (refine eC _ rfl _ _ 52 rfl 0 55 i0 _ 13 104 underlying52 iJ jA jB iR rfl (by decide) (.slice (some ⟨w.heap.size,0,none⟩) 0 0) 0 [] rfl HR.out x n c l rfl hl HH.out h1 (by unfold maxLen;omega) (by omega) (cE _) (by simp) ?_));intro g2 c2 w2 dy iZ jj kM mw;go_wp2;go_ret;refine⟨_,rfl,((Fr.refl [] w).alloc (.cells #[] 55)).grown iZ (λk e=> .inr (by simp[Value.ownBlock]at e;omega)),[g2],⟨rfl,by simpa using dy⟩,?_⟩;intro k hk;simp[Value.ownBlock]at hk jj;omega
def OR (w v n l)(h:Rd w v n l)(hl:l.length=n*13)(h1:∀u∈l,u.oneCell'=true)(hn:n≤1000000):
 Calls Tryz.prog 43 #[v] w λe w'=>∃v',e= .returned v'∧eZ w w' (aU 0 55 13 v' n l):=by
 obtain⟨ad,c,rfl,h⟩:=h;rcases h with⟨rfl,rfl,rfl⟩|⟨q,rfl,hq⟩
 ·exact OP w 0 c
 ·exact Ld w q n c l hl h1 hq hn
def Le:(Tryz.prog.info? 28).map (λi=>(i.zero,i.size,i.bytes))=some (some (.agg #[I 0,I 0,I 0,I 0,U 0]),5,40):=by kernel_rfl
def OS (w n c):
 Calls Tryz.prog 56 #[.slice none n c] w λe w'=>∃v,e= .returned v∧eZ w w' (aU 0 28 5 v 0 []):=by
 have hk:=fun(wx:World)=>iW (P:=Tryz.prog) wx 29 28 none n c 0 0 underlying29;go_wp2;go_ret;exact⟨_,rfl,Fr.refl _ _,[],⟨rfl,jP _ _ _ _⟩,by simp⟩
def Lf (w x n c l)(hl:l.length=n*5)(h1:∀u∈l,u.oneCell'=true)(hr:∀j u,l[j]?=some u→w.cell? (x.add j)=some u)(hn:n≤1000000):
 Calls Tryz.prog 56 #[.slice (some x) n c] w λe w'=>∃v,e= .returned v∧eZ w w' (aU 0 28 5 v n l):=by
 obtain⟨i0,iJ,jA,jB,iR⟩:=eA Le;have hk:=fun(wx:World)=>iW (P:=Tryz.prog) wx 29 28 (some x) n c 0 0 underlying29;have HR:Hid ((w.alloc (.cells [].toArray 28)).ownsRow 0 28 5 (.slice (some ⟨w.heap.size,0,none⟩) 0 0) 0 []):=
  pQ w #[] 0 (cE _) (by unfold maxLen;omega) (by simp)
 have HH:Hid (∀j u,l[j]?=some u→(w.alloc (.cells [].toArray 28)).cell? (x.add j)=some u):=λj u hj=>((Fr.refl [] w).alloc _).cell (hr j u hj) (by simp);clear hr;go_in;go_wp2_with(at_builtin;go_must (refine eC _ rfl _ _ 29 rfl 0 28 i0 _ 5 40 underlying29 iJ jA jB iR rfl (by decide) (.slice (some ⟨w.heap.size,0,none⟩) 0 0) 0 [] rfl HR.out x n c l rfl hl HH.out h1 (by unfold maxLen;omega) (by omega) (cE _) (by simp) ?_));intro g2 c2 w2 dy iZ jj kM mw;go_wp2;go_ret;refine⟨_,rfl,((Fr.refl [] w).alloc (.cells #[] 28)).grown iZ (λk e=> .inr (by simp[Value.ownBlock]at e;omega)),[g2],⟨rfl,by simpa using dy⟩,?_⟩;intro k hk;simp[Value.ownBlock]at hk jj;omega
def OU (w v n l)(h:Rd w v n l)(hl:l.length=n*5)(h1:∀u∈l,u.oneCell'=true)(hn:n≤1000000):
 Calls Tryz.prog 56 #[v] w λe w'=>∃v',e= .returned v'∧eZ w w' (aU 0 28 5 v' n l):=by
 obtain⟨ad,c,rfl,h⟩:=h;rcases h with⟨rfl,rfl,rfl⟩|⟨q,rfl,hq⟩
 ·exact OS w 0 c
 ·exact Lf w q n c l hl h1 hq hn
def He:(Tryz.prog.info? 38).map (λi=>(i.zero,i.size,i.bytes))=some (some (.agg #[I 0,U 0,U 0,U 0,U 0]),5,40):=by kernel_rfl
def Lg (w n c):
 Calls Tryz.prog 57 #[.slice none n c] w λe w'=>∃v,e= .returned v∧eZ w w' (aU 0 38 5 v 0 []):=by
 have hk:=fun(wx:World)=>iW (P:=Tryz.prog) wx 35 38 none n c 0 0 underlying35;go_wp2;go_ret;exact⟨_,rfl,Fr.refl _ _,[],⟨rfl,jP _ _ _ _⟩,by simp⟩
def Hf (w x n c l)(hl:l.length=n*5)(h1:∀u∈l,u.oneCell'=true)(hr:∀j u,l[j]?=some u→w.cell? (x.add j)=some u)(hn:n≤1000000):
 Calls Tryz.prog 57 #[.slice (some x) n c] w λe w'=>∃v,e= .returned v∧eZ w w' (aU 0 38 5 v n l):=by
 obtain⟨i0,iJ,jA,jB,iR⟩:=eA He;have hk:=fun(wx:World)=>iW (P:=Tryz.prog) wx 35 38 (some x) n c 0 0 underlying35;have HR:Hid ((w.alloc (.cells [].toArray 38)).ownsRow 0 38 5 (.slice (some ⟨w.heap.size,0,none⟩) 0 0) 0 []):=
  pQ w #[] 0 (cE _) (by unfold maxLen;omega) (by simp)
 have HH:Hid (∀j u,l[j]?=some u→(w.alloc (.cells [].toArray 38)).cell? (x.add j)=some u):=λj u hj=>((Fr.refl [] w).alloc _).cell (hr j u hj) (by simp);clear hr;go_in;go_wp2_with(at_builtin;go_must (refine eC _ rfl _ _ 35 rfl 0 38 i0 _ 5 40 underlying35 iJ jA jB iR rfl (by decide) (.slice (some ⟨w.heap.size,0,none⟩) 0 0) 0 [] rfl HR.out x n c l rfl hl HH.out h1 (by unfold maxLen;omega) (by omega) (cE _) (by simp) ?_));intro g2 c2 w2 dy iZ jj kM mw;go_wp2;go_ret;refine⟨_,rfl,((Fr.refl [] w).alloc (.cells #[] 38)).grown iZ (λk e=> .inr (by simp[Value.ownBlock]at e;omega)),[g2],⟨rfl,by simpa using dy⟩,?_⟩;intro k hk;simp[Value.ownBlock]at hk jj;omega
def Lh (w v n l)(h:Rd w v n l)(hl:l.length=n*5)(h1:∀u∈l,u.oneCell'=true)(hn:n≤1000000):
 Calls Tryz.prog 57 #[v] w λe w'=>∃v',e= .returned v'∧eZ w w' (aU 0 38 5 v' n l):=by
 obtain⟨ad,c,rfl,h⟩:=h;rcases h with⟨rfl,rfl,rfl⟩|⟨q,rfl,hq⟩
 ·exact Lg w 0 c
 ·exact Hf w q n c l hl h1 hq hn
end Go.Proofs.YtolkmchicplaoaaGreat
namespace Go.aS
open Go.RowKit
def LD (w:World)(L:List Nat):a_ where
 P w' fp:=fp=L∧(∀k∈L,k<w'.heap.size)∧(∀k∈L,w'.heap[k]?=w.heap[k]?)∧w.heap.size≤w'.heap.size
 fr:=by
  rintro w1 w2 fp se ⟨rfl,h1,h2,h3⟩ f hn;exact⟨rfl,λk hk=>pP (h1 k hk) f.size,λk hk=>(f.block k (h1 k hk) (hn k hk)).trans (h2 k hk),fT h3 f.size⟩
 lt h:=by rw[h.1];exact h.2.1
def uj {w0 w T R}{α:Type}{T':α→a_}{P}{f:FuncId}{args:Array Value}{A:α→Ending→Prop}(h:Sep w0 w (T::R))
 (hc:∀R,Sep w0 w (T::R)→Calls P f args w λe w'=>∃a,A a e∧Sep w0 w' (T' a::R)):
 ∃F:List Nat,(∀(i b:Nat) (ty:TypeId) (cs:List Value),R[i]?=some (aJ b ty cs)→b∉F)∧Calls P f args w λe w'=>∃a,A a e∧Sep w0 w' (T' a::R)∧Fr F w w':=by
 obtain⟨h0,G,hG,hd⟩:=id h;obtain⟨hTP,Nv⟩:=hG 0 T rfl;generalize hF:G 0=F at hTP Nv;have kS:=h.get 0 rfl;refine⟨F,λi b ty cs hi hb=>?_,?_⟩
 ·have td:i<R.length:=(dE.1 hi).1;obtain⟨hp,_⟩:=hG (i+1) (aJ b ty cs) (by simpa using hi);have yU:b∈G (i+1):=by rw[hp.1];simp
  rw[←hF]at hb;exact hd 0 (i+1) (by simp) (by simp;omega) (by omega) b hb yU
 ·let L:=(List.range w.heap.size).filter (λk=>decide (w0.heap.size≤k∧k∉F))
  have hL:∀k,k∈L↔(k<w.heap.size∧w0.heap.size≤k∧k∉F):=by
   intro k;simp[L,List.mem_filter,oF]
  have hS:Sep w0 w [T,LD w L]:=by
   refine⟨h0,λi=>if i=0 then F else L,λi Ti hi=>?_,λi j hi hj yN k hk=>?_⟩
   ·match i,hi with
    |0,hi=>
     obtain rfl:T=Ti:=by simpa using hi
     exact⟨hTP,Nv⟩
    |1,hi=>
     obtain rfl:LD w L=Ti:=by simpa using hi
     exact⟨⟨rfl,λk hk=>((hL k).1 hk).1,λ_ _=>rfl,dp _⟩,λk hk=>((hL k).1 hk).2.1⟩
    |i+2,hi=>simp at hi
   ·simp only[dT,mD]at hi hj;by_cases e:i=0<;>by_cases e':j=0
    ·omega
    ·simp only[aB e,aq e']at hk⊢;intro hm;exact((hL k).1 hm).2.2 hk
    ·simp only[aq e,aB e']at hk⊢;exact((hL k).1 hk).2.2
    ·omega
  refine(hc _ hS).mono λe w' hr=>?_;obtain⟨a,hA,h1⟩:=hr;obtain⟨oo,G',hG',T5⟩:=h1;obtain⟨SY,aq0⟩:=hG' 0 (T' a) rfl;obtain⟨⟨hpe,tu,GJ,UB⟩,_⟩:=hG' 1 (LD w L) rfl;have pe:Fr F w w':=by
   refine⟨oo.os.trans h0.os.symm,oo.tape.trans h0.tape.symm,oo.output.trans h0.output.symm,UB,λk hk Y1=>?_⟩;by_cases yQ:k<w0.heap.size
   ·exact(oo.block k yQ (by simp)).trans (h0.block k yQ (by simp)).symm
   ·exact GJ k ((hL k).2 ⟨hk,by omega,Y1⟩)
  refine⟨a,hA,?_,pe⟩;obtain⟨fp,TV,Be,mr⟩:=kS;have:∀(T2:a_) (w2:World) (Ny:List Nat),T2.P w2 Ny→Fr F w w2→(∀k∈Ny,k∈F∨w.heap.size≤k)→Sep w0 w2 (T2::R):=by
   intro T2 w2 Ny hP2 Ln tE;refine⟨h0.trans' Ln (λk hk=> .inr (Nv k hk)),λi=>match i with|0=>Ny|i+1=>G (i+1),λi Ti hi=>?_,λi j hi hj yN q hq=>?_⟩
   ·match i,hi with
    |0,hi=>
     obtain rfl:T2=Ti:=by simpa using hi
     exact⟨hP2,λk hk=>by rcases tE k hk with h3|h3;exact Nv k h3;have:=h0.size;omega⟩
    |i+1,hi=>
     have BM:(T::R)[i+1]?=some Ti:=by simpa using hi
     have td:i+1<(T::R).length:=(dE.1 BM).1;exact⟨Ti.fr (hG (i+1) Ti BM).1 Ln (λk hk=>by rw[←hF];exact hd (i+1) 0 td (by simp) (by omega) k hk),(hG (i+1) Ti BM).2⟩
   ·simp only[dT]at hi hj
    match i,j with
    |0,0=>omega
    |0,j+1=>
     intro hm;rcases tE q hq with h3|h3
     ·rw[←hF]at h3;exact hd 0 (j+1) (by simp) (by simp;omega) (by omega) q h3 hm
     ·have hT:=(hG (j+1) _ (cy (show j+1<(T::R).length by simp;omega))).1;have:=((T::R)[j+1]'(by simp;omega)).lt hT q hm;omega
    |i+1,0=>
     intro hm;rcases tE q hm with h3|h3
     ·rw[←hF]at h3;exact hd (i+1) 0 (by simp;omega) (by simp) (by omega) q hq h3
     ·have hT:=(hG (i+1) _ (cy (show i+1<(T::R).length by simp;omega))).1;have:=((T::R)[i+1]'(by simp;omega)).lt hT q hq;omega
    |i+1,j+1=>exact hd (i+1) (j+1) (by simp;omega) (by simp;omega) yN q hq
  refine this (T' a) w' (G' 0) SY pe (λk hk=>?_);by_cases UC:k<w.heap.size
  ·by_cases Y1:k∈F
   ·exact .inl Y1
   ·have sC:k∈G' 1:=by rw[hpe];exact(hL k).2 ⟨UC,aq0 k hk,Y1⟩
    exact absurd sC (T5 0 1 (by simp) (by simp) (by omega) k hk)
  ·exact .inr (by omega)
end Go.aS
namespace Go.aS.I_
structure In where
 op:Int
 a:Int
 b:Int
 c:Int
 bN:Int
deriving DecidableEq
def gl (i:In):List Value:=[I i.op,I i.a,I i.b,I i.c,U i.bN]
def yT (i):(gl i).length=5:=rfl
def T3 (i):∀u∈gl i,u.oneCell'=true:=by simp[gl,Value.oneCell']
def i0:In:=⟨0,0,0,0,0⟩
def bV (op:Int):Int:=if op=10∨op=13∨op=14 then 1 else if op=16 then 2 else if op=15 then 9 else 0
def reckon (i:In)(aI args:List Int):Int:=
 let b:=aI.getD i.b.toNat 0
 let c:=aI.getD i.c.toNat 0
 if i.op=0 then i.bN
 else if i.op=1 then b
 else if i.op=2 then IntKind.u64.wrap (b+c)
 else if i.op=3 then IntKind.u64.wrap (b-c)
 else if i.op=4 then IntKind.u64.wrap (b*c)
 else if i.op=5 then(if c=0 then b else b%c)
 else if i.op=6 then(if b=c then 1 else 0)
 else if i.op=7 then(if b<c then 1 else 0)
 else if i.op=8 then args.getD i.bN.toNat 0
 else 0
def countP:List In:=[⟨9,1,2,0,0⟩,⟨0,3,0,0,1⟩,⟨2,1,1,3,0⟩,⟨10,1,2,0,0⟩,⟨20,1,0,0,0⟩]
def Ce:List In:=[⟨9,1,2,0,0⟩,⟨18,1,0,0,3⟩,⟨20,1,0,0,0⟩,⟨8,1,0,0,0⟩,⟨0,3,0,0,1⟩,⟨2,1,1,3,0⟩,⟨10,1,2,0,0⟩,⟨20,1,0,0,0⟩]
def RK:List In:=[⟨9,1,2,0,0⟩,⟨20,1,0,0,0⟩]
def ai0 (code:List In):Prop:=code=countP∨code=Ce∨code=RK
def sJ (code:List In):Prop:=code=[]∨ai0 code
def ag4:List In:=[⟨9,1,2,0,0⟩,⟨18,1,0,0,3⟩,⟨20,1,0,0,0⟩,⟨8,1,0,0,0⟩,⟨0,3,0,0,1⟩,⟨2,1,1,3,0⟩,⟨10,1,2,0,0⟩]
def ai0.i7 {code:List In}(h:ai0 code):∀i∈code,i∈ag4:=by
 rcases h with rfl|rfl|rfl<;>decide
def right (code:List In):Bool:= !decide (code=[])
def reads (code:List In):Bool:=decide (code=RK)
def ai0.right {code:List In}(h:ai0 code):right code=true:=by
 rcases h with rfl|rfl|rfl<;>decide
def ai0.ne {code:List In}(h:ai0 code):code≠[]:=by
 rcases h with rfl|rfl|rfl<;>decide
def ai0.A7 {code:List In}(h:ai0 code):(0<code.length∧code.length≤8)∧(∀k,(h:k<code.length)→code[k].op=18→k<3∧3<code.length)∧(code.getD (code.length-1) i0).op=20:=by
 rcases h with rfl|rfl|rfl<;>decide
end Go.aS.I_
namespace Go.aS.H
open Go.aS.Y Go.aS.C Go.Proofs.YtolkmchicplaoaaGreat
def ju (c:cA):M:=⟨xK c,List.replicate 8 0,[]⟩
end Go.aS.H
namespace Go.Proofs.YtolkmchicplaoaaGreat
open Go.RowKit Go.aS Go.aS.Y Go.aS.C
def zx (w c)(h:Ok c):Calls Tryz.prog 22 #[aY c] w λe w'=>∃b,e= .returned (O b)∧Sep w w' [dP b (H.ju c)]:=by
 obtain⟨r0,r1,r2,r3,r4,r5,r6,r7,r8,r9,u6,tF,tG⟩:=row h;have hl:(xK c).length=(size c).toNat:=oq c _;have aD:(size c).toNat≤65536:=by omega
 refine(OA w c h).mono ?_;rintro e w' ⟨b,g,cap,rfl,hS⟩;refine⟨b,rfl,?_⟩;have h1:=(hS.G_ 0 86 10).sub (NJ:=[_,_,_]) [1,2,0] rfl (by decide);have h2:=(h1.ar 0 rfl);have h5:=h1.sy;obtain⟨fp,hp,_,hk⟩:=h5.get 0 rfl;have h6:=hk (dP b (H.ju c)) w' fp ?_ (Fr.refl _ _) (λq hq=> .inl hq)
 ·exact h6.sub [0] rfl (by decide)
 ·obtain⟨f,g2,rfl,⟨rfl,hb⟩,⟨rfl,hr⟩,hd⟩:=hp;have hz:C.Good (H.ju c):=by
   have hg:=C.zu 0;refine⟨?_,?_⟩
   ·exact hg.1
   ·exact hg.2
  refine⟨hz,_,_,rfl,hb,?_,jP w' 0 _ 10,?_,?_,?_,?_,rfl⟩
  ·show w'.ownsRow 0 _ 2 _ (xK c).length (flat C.uE (xK c));rw[hl];exact hr
  ·intro k uV e;subst e;exact hd k (by simp) (by simpa using uV)
  ·intro k uV;simp[Value.ownBlock]at uV
  ·intro k _ uV;simp[Value.ownBlock]at uV
  ·show(xK c).length≤65536;omega
