/- A part of the proof. -/
import Derived.DeepKeys4
import Derived.WideKeyEntry
import Derived.Test.YtolkmchicplaoaaGreatG11
set_option linter.all false
set_option maxHeartbeats 8000000
set_option maxRecDepth 100000
open Go.Proofs.Tryz
namespace Go.Proofs.YtolkmchicplaoaaGreat
open Go.RowKit Go.aS Go.aS.I_ Go.aS.Y
def tB:(Tryz.prog.info? 51).map (λi=>(i.zero,i.size,i.bytes))=some (some (.agg #[I 0,I 0,I 0,I 0,U 0,.slice none 0 0]),6,64):=by kernel_rfl
def Kg {T:Type}{en:Value→T→List Value}{k}(hn:∀v x,(en v x).length=k){A L}(h:A.length=L.length){j}(hj:j<L.length){q}(hq:q<k):(mix en A L)[j*k+q]?=(en (A[j]'(by omega)) L[j])[q]?:=by
 unfold mix;rw[cI (λp=>hn _ _) _ j (by rw[nK,h,Nat.min_self];exact hj) q hq,uQ]
def x_ {w:World}{b o:Nat}{cs:List Value}(h:w.rangeAt b o cs)(i:Nat)(ds:List Value)(hd:∀j u,ds[j]?=some u→cs[i+j]?=some u):w.rangeAt b (o+i) ds:=λj u hj=>by
 have:=h (i+j) u (hd j u hj);rwa [←Nat.add_assoc]at this
def pJ {P}{ops:Array Oper}{rest}{op:Oper}{a w w0}{Q:Exit→Act→World→Prop}{Ts}(h:Sep w0 w Ts)(i){e:TypeId}{size g n cap xs}(hi:Ts[i]?=some (aU 0 e size (.slice (some ⟨g,0,none⟩) n cap) n xs))(o u v)(ty:TypeId)(x y:Operand)(ho:op.op= .store ty x y)(mV:op.guard=none)
 (hx:a.eval x= .pointer (some ⟨g,o,none⟩))(hy:a.eval y= .agg #[u,v])(hl:o+2≤xs.length)(qL:(P.info? ty).map (·.size)=some 2)(h1:u.oneCell'=true∧v.oneCell'=true)
 (hk:∀w',Sep w0 w' (Ts.set i (aU 0 e size (.slice (some ⟨g,0,none⟩) n cap) n ((xs.set o u).set (o+1) v)))→Fr [g] w w'→wpList P ops Q rest (a.put op.dst undef) w'):wpList P ops Q (op::rest) a w:=by
 have hr:=h.row i hi;have ht:w.there g o 2:=λj hj=>⟨by rw[aH hr (o+j) _ (cy (show o+j<xs.length by omega))];rfl,bw hr (o+j)⟩;refine pR mV ty x y ho g o #[u,v] hx hy ht qL (by simp[h1.1,h1.2]) (hk _ ?_ ?_)
 ·have h2:=h.setRow i hi o u;have h3:=h2.setRow i (eW (dE.1 hi).1) (o+1) v;rw[qU]at h3;exact h3
 ·exact Fr.setCells (by simp) _ o (Fr.refl _ _)
def fk (aK:Int)(x:B.Row):Z.Row:=⟨aK,x.aw,IntKind.i64.wrap x.tag,x.rc,x.rv,x.news⟩
def Rx {w0 w R}{c:Y.cA}(aE:Y.Ok c){m:K.Me}{pv aO}{ai:List (List In)}{N:Int}{kb:Nat}{k:K.St}(hI:KI c ai m N k)(hd:k.eV=true→k.b≠none){H}{b mb:Nat}{Xw iP}(hE:SH (ae c) mb Xw H){gt tc n t gr rc rn ri:Nat}{XS RX}{aK steps cr lk:Int}{rows:List Z.Row}(hr:rows.length+(K.rows k).length≤1000000)(gx:0≤steps∧steps≤1000000)
 (h1:XS[t*5+1]?=some (O kb))(h2:XS[t*5+2]?=some (I (ri:Int)))(h3:XS[t*5+3]?=some (I cr))(h4:XS[t*5+4]?=some (I lk))(NW:ri<rn)(r9:RX[ri*13+9]?=some (I steps))(hRX:RX.length=rn*13)
 (hS:Sep w0 w (iq c m pv aO kb k::aJ b 106 (H++[.slice (some ⟨gt,0,none⟩) n tc,I aK,.slice (some ⟨gr,0,none⟩) rn rc,iP])::aU 0 132 5 (.slice (some ⟨gt,0,none⟩) n tc) n XS::aU 0 55 13 (.slice (some ⟨gr,0,none⟩) rn rc) rn RX::fG iP rows::R)):
 Calls Tryz.prog 63 #[O b,I (t:Int),.pointer (some ⟨gt,t*5,none⟩)] w λr w'=>r=E∧∃Z8,Sep w0 w' (fG Z8 (if k.next=13 then(if k.alone then rows++(K.rows k).map (fk aK)++[⟨(if k.fresh then aK else lk),t,cr,k.rc,k.rv,[]⟩]else rows++(K.rows k).map (fk aK))else rows++(K.rows k).map (fk aK))::iq c m pv aO kb k::aJ b 106 (H++[.slice (some ⟨gt,0,none⟩) n tc,I aK,.slice (some ⟨gr,0,none⟩) rn rc,Z8])::aU 0 132 5 (.slice (some ⟨gt,0,none⟩) n tc) n (if k.next=13 then(if k.fresh then XS.set (t*5+4) (I aK)else XS).set (t*5+1) (.pointer none)else(if k.fresh then XS.set (t*5+4) (I aK)else XS))::aU 0 55 13 (.slice (some ⟨gr,0,none⟩) rn rc) rn (if k.next=13 then(((RX.set (ri*13+9) (I (steps+1))).set (ri*13+8) (I aK)).set (ri*13+10) (.bool true)|>.set (ri*13+11) (I k.rc)).set (ri*13+12) (U k.rv)else RX.set (ri*13+9) (I (steps+1)))::R):=by
 have hw:IntKind.i64.wrap (steps+1)=steps+1:=bf _ (by omega) (by omega);have Q9:=aa (λw' RR hS=>Rs (w0:=w0) (w:=w') (R:=RR) (b:=kb) (pv:=pv) (aO:=aO) aE hI hd hS);have VQ:=aa (λw' RR hS=>Rq (w0:=w0) (w:=w') (R:=RR) (b:=kb) (c:=c) (m:=m) (k:=k) (pv:=pv) (aO:=aO) hS);have HLO:=aa (λw' RR hS=>IV (w0:=w0) (w:=w') (R:=RR) (b:=kb) (c:=c) (m:=m) (k:=k) (pv:=pv) (aO:=aO) hS);have JY:=aa (λw' RR hS=>MY (w0:=w0) (w:=w') (R:=RR) (b:=kb) (c:=c) (m:=m) (k:=k) (pv:=pv) (aO:=aO) hS);have SE:=aa (λw' RR hS=>IW (w0:=w0) (w:=w') (R:=RR) (b:=kb) (c:=c) (m:=m) (k:=k) (pv:=pv) (aO:=aO) hS);clear hI hd aE;generalize iq c m pv aO kb k=KT at*;generalize K.rows k=Lk at*;generalize k.fresh=fs at*;generalize k.alone=al at*;generalize k.rc=f_ at*;generalize k.rv=gf at*;generalize k.next=nx at*;clear k;obtain⟨dn,p5⟩:∃dn,decide (nx=13)=dn:=⟨_,rfl⟩;have JG:∀{T:Type} (a b:T),(if nx=13 then a else b)=if dn=true then a else b:=λa b=>by subst p5;simp
 simp only[JG];simp only[p5]at VQ;clear JG p5;have Pn:t*5+4<XS.length:=(dE.1 h4).1;have HE:=aa hE;have HS:=aa hS;clear hE hS;obtain⟨lq,Dj⟩:∃lq,(if fs=true then aK else lk)=lq:=⟨_,rfl⟩;rw[Dj];obtain⟨X1,tM⟩:∃X1,(if fs=true then XS.set (t*5+4) (I aK)else XS)=X1:=⟨_,rfl⟩;rw[tM];go_in;go_wp2_with fail;have HD:=HS.drew;have hB:=HD.ar 1 rfl;have f28:=hB.aR HE.len 28 rfl rfl;have f2:=aH (HD.row 2 rfl) (t*5+2) _ h2;refine bW [(1,[0,1,2,3,4,5,6,7,8,9])] (by kernel_rfl) ?_;simp only[zz];repeat(first|go_big_quiet_step(fail)|apply ax|apply af|apply ag|apply ah)
 refine aj ?_;generalize w.drew=w1 at*;have HS:=aa HD;clear HD hB f28 f2;have f9:=aH (HS.row 3 rfl) (ri*13+9) _ r9;have g9:=bw (HS.row 3 rfl) (ri*13+9);have h5:=HS.setRow 3 rfl (ri*13+9) (I (steps+1));simp only[zs]at h5;have HS:=aa h5;clear h5;have f1:=aH (HS.row 2 rfl) (t*5+1) _ h1;have tI:=bw (HS.row 2 rfl) (t*5+1);go_wp2_with fail;generalize World.setCell _ _ _=w2 at HS⊢;clear f9 g9 f1 tI;refine(HLO.out _ _ HS.out).kq HS λw3 HS=>?_;cases fs
 case' false=>simp only[wD,if_false]at tM Dj;have as2:=Dj.symm;subst as2;have hX2:=tM.symm;subst hX2
 case' true=>
  simp only[if_true]at tM Dj;have J4:Hid (aK=lq):=aa Dj;clear Dj;have f27:=(HS.ar 1 rfl).aR HE.len 27 rfl rfl;have f4:=aH (HS.row 2 rfl) (t*5+4) _ h4;have YM:=bw (HS.row 2 rfl) (t*5+4);have f1:=aH (HS.row 2 rfl) (t*5+1) _ h1;have tI:=bw (HS.row 2 rfl) (t*5+1);have h5:=HS.setRow 2 rfl (t*5+4) (I aK);simp only[zs]at h5;have HS:=aa h5;clear h5;go_wp2_with fail;generalize World.setCell _ _ _=w4 at HS⊢;clear f27 f4 YM f1 tI;have h1:(XS.set (t*5+4) (I aK))[t*5+1]?=some (O kb):=by rw[dF (by omega)];exact h1
  have h3:(XS.set (t*5+4) (I aK))[t*5+3]?=some (I cr):=by rw[dF (by omega)];exact h3
  have h4:(XS.set (t*5+4) (I aK))[t*5+4]?=some (I aK):=eW (by omega);rw[tM]at HS h1 h3 h4;rw[J4.out]at h4
 all_goals
  have f1:=aH (HS.row 2 rfl) (t*5+1) _ h1;have tI:=bw (HS.row 2 rfl) (t*5+1);go_wp2_with fail;refine(Q9.out _ _ HS.out).mono ?_;rintro r w5 ⟨rv1,rfl,h9⟩;obtain⟨dY,k7,h9⟩:=jg h9;obtain⟨va,vc,rfl⟩:=h9.form 0 rfl;have HS:=aa h9;clear h9 f1 tI;have MD:=aa k7;have HHR:=aa hr;have Xx:=aa (fun(j:Nat) (hj:j<Lk.length)=>show(Lk.take j).length=j by rw[oE];omega);obtain⟨kn,sh⟩:∃kn,Lk.length=kn:=⟨_,rfl⟩;have HN:=aa sh;simp only[sh]at HS;clear k7 hr sh;go_wp2_with fail;generalize hwq:w5=w5' at*;clear hwq;go_loopg [43] kn (λg vi wr=>∃(j:Nat) (BC:Value),g+j=kn∧vi=I (j:Int)∧Sep w0 wr (fG BC (rows++(Lk.take j).map (fk aK))::cM (lY B.Row.news (dY.drop j) (Lk.drop j))::aU 0 178 5 (.slice va kn vc) kn (mix gW dY Lk)::KT::aJ b 106 (H++[.slice (some ⟨gt,0,none⟩) n tc,I aK,.slice (some ⟨gr,0,none⟩) rn rc,BC])::aU 0 132 5 (.slice (some ⟨gt,0,none⟩) n tc) n X1::aU 0 55 13 (.slice (some ⟨gr,0,none⟩) rn rc) rn (RX.set (ri*13+9) (I (steps+1)))::R))
  case atStart=>refine⟨0,iP,by omega,rfl,?_⟩;rw[List.take_zero,List.map_nil,sY,List.drop_zero,List.drop_zero];exact(HS.pull 1 rfl).pull 6 rfl
  case round=>
   obtain⟨j,BC,yy,rfl,iU⟩:=hrel;by_cases hj:j<kn
   ·have s9:(j:Int)<(kn:Int):=by omega
    have DH:=MD.out;have tz:=HN.out;have FG:j<dY.length:=by omega
    have Aj:j<Lk.length:=by omega
    obtain⟨gv,rfl⟩:∃gv,va=some ⟨gv,0,none⟩:=by
     rcases bg (iU.row 2 rfl)with⟨e1,e2⟩|⟨gb,cap,e1,_⟩
     ·omega
     ·simp only[dk]at e1;exact⟨gb,e1.1⟩
    have vp:dY.drop j=dY[j]::dY.drop (j+1):=pO FG;have hdL:Lk.drop j=Lk[j]::Lk.drop (j+1):=pO Aj;have uf:Lk.take (j+1)=Lk.take j++[Lk[j]]:=wj Aj;have rN:(rows++(Lk.take j).map (fk aK)).length=rows.length+j:=by rw[eE,dD,Xx.out j Aj]
    have WZ:rows.length+j+1≤1000000:=by have:=HHR.out;omega
    have bQ:wr.rangeAt gv (j*5) (gW dY[j] Lk[j]):=λq u hq=>aH (iU.row 2 rfl) _ _ ((Kg (en:=gW) (λ_ _=>rfl) DH Aj (by have:=(dE.1 hq).1;exact this)).trans hq);have h9:=iU.pull 1 rfl;rw[vp,hdL]at h9;have h9:=Sep.vf (T:=aU 0 26 1 dY[j] (B.Row.news Lk[j]).length (bC (B.Row.news Lk[j]))) (U_:=cM (lY B.Row.news (dY.drop (j+1)) (Lk.drop (j+1)))) h9;have GH:=aa (show(Lk.take (j+1)).map (fk aK)=(Lk.take j).map (fk aK)++[fk aK Lk[j]] by rw[uf,pS];rfl);generalize dY[j]=Yw at*;generalize Lk[j]=x9 at*;obtain⟨uy,rO,DU,DV,nE⟩:=x9;have e64:fk aK ⟨uy,rO,DU,DV,nE⟩=⟨aK,uy,wrap64 rO,DU,DV,nE⟩:=by unfold fk;rw[show IntKind.i64.wrap rO=wrap64 rO by rw[uR];unfold RowKit.wrap64;omega]
    rw[e64]at GH;have h9:=h9.pull 2 rfl;simp only[ze]at h9;obtain⟨IZ,uz,h9⟩:=jg h9;rw[rN]at h9 uz;obtain⟨za,zc,rfl⟩:=h9.form 0 rfl;obtain⟨ld,lc,rfl⟩:=h9.form 2 rfl;have rJ:=aa (λw' v RR h=>qE (w0:=w0) (w:=w') (R:=RR) (ty:=51) (Fp:=26) (k:=6) (en:=j6) (pd:=Z.Row.news) (v:=v) (nv:= .slice ld nE.length lc) (L:=rows++(Lk.take j).map (fk aK)) (x:=(⟨aK,uy,wrap64 rO,DU,DV,nE⟩:Z.Row)) (dY:=IZ) (by rw[rN,uz]) h);simp only[rN]at rJ;have M8:Hid (rows.length+j+1≤1000000):=WZ;generalize DW:mix j6 IZ (rows++(Lk.take j).map (fk aK))=MZ at h9;have Z9:=aa DW;generalize DX:cM (lY Z.Row.news IZ (rows++(Lk.take j).map (fk aK)))=ZI at h9;have Z_:=aa DX;generalize hLI:cM (lY B.Row.news (dY.drop (j+1)) (Lk.drop (j+1)))=LI at h9;have xH:=aa hLI;generalize hMX:mix gW dY Lk=MX at h9;have N1:=aa hMX;have h9:=h9.new 178 [I uy,U rO,I DU,U DV,.slice ld nE.length lc];have kI:=aa h9;have BL:=aa bQ;clear h9 iU DW DX hLI hMX vp hdL uf bQ DH tz rN uz;generalize rN:rows.length+j=zl at*;have VR:=aa rN;clear rN;go_wp2_with(refine ay 178 _ rfl rfl gv (j*5) rfl [I uy,U rO,I DU,U DV,.slice ld nE.length lc] _ BL.out underlying178 rfl (by kernel_rfl) ?_);generalize World.alloc _ _=w6 at kI⊢;generalize wr.heap.size=bq at kI⊢;have HD:=kI.drew;have hB:=HD.ar 7 rfl;obtain⟨f29,nQ⟩:=hB.fe HE.len 29 rfl rfl;have f27:=hB.aR HE.len 27 rfl rfl;have hC:=HD.ar 0 rfl;have e0:=hC.cell 0;have e1:=hC.cell 1;have e4:=hC.cell 4;have Ry:w6.drew.rangeAt bq 2 [I DU,U DV]:=x_ hC.range 2 _ (by
     intro j u hj
     match j with
     |0=>exact hj
     |1=>exact hj
     |j+2=>simp at hj)
    simp only[zg]at e0 e1 e4;obtain⟨i0,iJ,jA,jB,iR⟩:=eA tB;refine bW [(1,[1,2,3,4,5,6,7,8,9,10,11,12,13,14,15,16,17,18]),(0,[0]),(2,[19]),(3,[20]),(0,[21,22]),(3,[23])] (by kernel_rfl) ?_;simp only[zz];refine af ?_;repeat(first|(refine ak 48 _ bq 2 [I DU,U DV] _ rfl rfl rfl (aG Ry (by simp)) underlying48 rfl (by kernel_rfl) ?_;simp only[Act.put,aZ,zs])|go_big_quiet_step (fail)|quiet_step (fail))
    refine ax ?_;repeat(first|go_big_quiet_step(fail)|apply ax|apply af|apply ag|apply ah)
    refine aA ?_;go_wp2;refine⟨⟨⟨_,(by exact(Fr.refl [] _).alloc _)⟩,rfl⟩,?_⟩;have eH:=aa (HD.new 51 [I aK,I uy,I (wrap64 rO),I DU,U DV,.slice ld nE.length lc]);refine ao ?_;go_wp2_with(at_builtin;go_must (refine ch _ rfl _ _ 44 rfl 0 51 i0 _ 6 64 underlying44 iJ jA jB iR rfl (by decide) (.slice za zl zc) zl MZ rfl (eH.row 2 rfl) [I aK,I uy,I (wrap64 rO),I DU,U DV,.slice ld nE.length lc] _ _ rfl (eH.ar 0 rfl) rfl (by simp[Value.oneCell']) (by have:=M8.out;unfold maxLen;omega) (by have:=M8.out;omega) (cE _) ?_));intro g2 c2 w7 dy iZ jj kM mw;have h3:=(eH.grown 2 rfl dy iZ (λq e=>by
     rcases jj with h1|h1
     ·exact .inl (h1.trans e)
     ·right;simp only[Value.ownBlock,eX]at e;rw[←e,h1];simp)).tail.tail
    simp only[zs,ze]at h3;have kI:=aa h3;clear h3 dy iZ jj hB HD f29 nQ f27 hC e0 e1 e4 Ry eH;go_wp2_with fail;have hB:=kI.ar 6 rfl;obtain⟨f29,nQ⟩:=hB.fe HE.len 29 rfl rfl;have h5:=kI.set 6 rfl 29 (.slice (some ⟨g2,0,none⟩) (zl+1) c2);simp only[aL,xZ HE.len _ 29 _ (by omega),Nat.reduceSub,aN]at h5;have kI:=aa h5;clear h5 hB;repeat(first|go_big_quiet_step(fail)|apply ax|apply af|apply ag|apply ah)
    refine ao ?_;go_wp2;refine aj ?_;generalize World.setCell _ _ _=w8 at kI⊢;clear f29 nQ;have DW:=Z9.out;have DX:=Z_.out;subst DW DX;have h9:=rJ.out _ _ _ (kI.pull 2 rfl|>.pull 1 rfl);rw[qP,←GH.out]at h9;have og:=aa (h9.pull 1 rfl);have xH:=xH.out;have N1:=N1.out;subst xH N1;simp only[ze]at og;clear h9;have uo:j+1≤1000000:=by have h8:=M8.out;have h7:=VR.out;omega
    go_wp2;go_roundg (kn-(j+1))
    case measure=>omega
    case rel=>refine⟨j+1,.slice (some ⟨g2,0,none⟩) (zl+1) c2,by omega,by go_num,?_⟩;exact og.pull 1 rfl
   ·obtain rfl:j=kn:=by omega
    have HS:=aa iU;have tz:=HN.out;have xe:=MD.out;rw[oA (by omega)]at iU;have HS:=aa ((iU.pull 1 rfl).tail.pull 1 rfl).tail;simp only[ze]at HS;clear iU;have f1:=aH (HS.row 3 rfl) (t*5+1) _ h1;go_wp2_with fail;refine(VQ.out _ _ (HS.pull 1 rfl)).kq HS λw9 HS=>?_;clear f1;cases dn with
    |false=>
     go_wp2;refine aV (fV rfl _ _ _) rfl ?_;exact⟨rfl,_,HS.out⟩
    |true=>
     go_wp2_with fail;have hRl:ri*13+13≤RX.length:=by rw[hRX];omega
     have HD:=HS.drew;have hB:=HD.ar 2 rfl;have f27:=hB.aR HE.len 27 rfl rfl;have f1:=aH (HD.row 3 rfl) (t*5+1) _ h1;have tI:=bw (HD.row 3 rfl) (t*5+1);refine bW [(1,[0,3,4,5,6,7,8,9,10]),(0,[1,2]),(2,[11]),(0,[12,13]),(3,[14]),(0,[15,16]),(3,[17]),(0,[18,19]),(3,[20])] (by kernel_rfl) ?_;simp only[zz];repeat(first|go_big_quiet_step(fail)|apply ax|apply af|apply ag|apply ah)
     refine aA ?_;go_wp2_with fail;refine(SE.out _ _ (HD.pull 1 rfl)).kk λOv hf=>?_;have HF:=aa hf;have HS:=aa (HD.c_ hf);clear hf;go_wp2;refine⟨⟨⟨_,(by exact HF.out)⟩,rfl⟩,?_⟩;clear HF f27 f1 tI hB HD;generalize γ:RX.set (ri*13+9) (I (steps+1))=RY at HS;have δ:ri*13+13≤RY.length:=by rw[←γ,cF];exact hRl
     have e8:=aH (HS.row 4 rfl) (ri*13+8) _ (cy (show ri*13+8<RY.length by omega));have d8:=bw (HS.row 4 rfl) (ri*13+8);have h5:=HS.setRow 4 rfl (ri*13+8) (I aK);simp only[zs]at h5;have HS:=aa h5;clear h5;repeat(first|go_big_quiet_step(fail)|apply ax|apply af|apply ag|apply ah)
     refine ao ?_;go_wp2_with fail;generalize World.setCell _ _ _=X0 at HS⊢;clear e8 d8;generalize ε:RY.set (ri*13+8) (I aK)=RZ at HS;have ζ:ri*13+13≤RZ.length:=by rw[←ε,cF];exact δ
     have e8:=aH (HS.row 4 rfl) (ri*13+10) _ (cy (show ri*13+10<RZ.length by omega));have d8:=bw (HS.row 4 rfl) (ri*13+10);have h5:=HS.setRow 4 rfl (ri*13+10) (.bool true);simp only[zs]at h5;have HS:=aa h5;clear h5;repeat(first|go_big_quiet_step(fail)|apply ax|apply af|apply ag|apply ah)
     refine ao ?_;go_wp2_with fail;generalize World.setCell _ _ _=X2 at HS⊢;clear e8 d8;generalize η:RZ.set (ri*13+10) (.bool true)=RU at HS;have as3:ri*13+13≤RU.length:=by rw[←η,cF];exact ζ
     repeat(first|go_big_quiet_step(fail)|apply ax|apply af|apply ag|apply ah)
     refine ao ?_;go_wp2_with(refine pJ HS.out 4 rfl (ri*13+11) (I f_) (U gf) 48 _ _ rfl rfl rfl rfl (by omega) (by kernel_rfl) ⟨rfl,rfl⟩ ?_);intro X3 Rz _;have h5:Sep w0 X3 (_::_::_::_::_::R):=Rz;have HS:=aa h5;clear Rz h5;go_wp2;refine aj ?_;have f1:=aH (HS.row 3 rfl) (t*5+1) _ h1;go_wp2_with fail;refine(JY.out _ _ (HS.pull 1 rfl)).kq HS λw14 HS=>?_;clear f1;generalize VU:(RU.set (ri*13+11) (I f_)).set (ri*13+11+1) (U gf)=RV at HS;have θ:RV[ri*13+11]?=some (I f_):=by rw[←VU,dF (by omega),eW (by omega)]
     have ι:RV[ri*13+12]?=some (U gf):=by rw[←VU,eW (by rw[cF];omega)]
     cases al with
     |false=>
      have f1:=aH (HS.row 3 rfl) (t*5+1) _ h1;have tI:=bw (HS.row 3 rfl) (t*5+1);have h5:=HS.setRow 3 rfl (t*5+1) (.pointer none);simp only[zs]at h5;have HS:=aa h5;clear h5;go_wp2;go_end0;subst VU η ε γ;exact⟨rfl,_,HS.out⟩
     |true=>
      go_wp2_with fail;have rN:(rows++Lk.map (fk aK)).length=rows.length+j:=by rw[eE,dD,tz]
      have M8:Hid (rows.length+j+1≤2000000):=aa (by have:=HHR.out;omega);generalize hLL:rows++Lk.map (fk aK)=LL at HS rN;obtain⟨IZ,uz,h9⟩:=jg HS.out;rw[rN]at h9 uz;obtain⟨za,zc,rfl⟩:=h9.form 0 rfl;have rJ:=aa (λw' v RR h=>qE (w0:=w0) (w:=w') (R:=RR) (ty:=51) (Fp:=26) (k:=6) (en:=j6) (pd:=Z.Row.news) (v:=v) (nv:= .slice none 0 0) (L:=LL) (x:=(⟨lq,t,cr,f_,gf,[]⟩:Z.Row)) (dY:=IZ) (by rw[rN,uz]) h);simp only[rN]at rJ;generalize DW:mix j6 IZ LL=MZ at h9;have Z9:=aa DW;generalize DX:cM (lY Z.Row.news IZ LL)=ZI at h9;have Z_:=aa DX;have HS:=aa h9;clear h9 DW DX rN uz;generalize rN:rows.length+j=zl at*;clear rN;have HD:=HS.drew;have hB:=HD.ar 3 rfl;obtain⟨f29,nQ⟩:=hB.fe HE.len 29 rfl rfl;have f3:=aH (HD.row 4 rfl) (t*5+3) _ h3;have f4:=aH (HD.row 4 rfl) (t*5+4) _ h4;have YM:=bw (HD.row 4 rfl) (t*5+4);have Ry:w14.drew.rangeAt gr (ri*13+11) [I f_,U gf]:=λq u hq=>by
       match q with
       |0=>obtain rfl:=eQ hq;exact aH (HD.row 5 rfl) _ _ θ
       |1=>obtain rfl:=eQ hq;exact aH (HD.row 5 rfl) _ _ ι
       |q+2=>simp at hq
      obtain⟨i0,iJ,jA,jB,iR⟩:=eA tB;refine bW [(1,[1,2,3,4,5,6,7,8,9,10,11,12,13,14,15,16,17,18]),(0,[0]),(2,[19]),(3,[20]),(0,[21,22]),(3,[23])] (by kernel_rfl) ?_;simp only[zz];refine af ?_;repeat(first|(refine ak 48 _ gr (ri*13+11) [I f_,U gf] _ rfl rfl rfl (aG Ry (by simp)) underlying48 rfl (by kernel_rfl) ?_;simp only[Act.put,aZ,zs])|go_big_quiet_step (fail)|quiet_step (fail))
      refine ax ?_;repeat(first|go_big_quiet_step(fail)|apply ax|apply af|apply ag|apply ah)
      refine aA ?_;go_wp2;refine⟨⟨⟨_,(by exact(Fr.refl [] _).alloc _)⟩,rfl⟩,?_⟩;have eH:=aa (HD.new 51 [I lq,I t,I cr,I f_,U gf,.slice none 0 0]);refine ao ?_;go_wp2_with(at_builtin;go_must (refine ch _ rfl _ _ 44 rfl 0 51 i0 _ 6 64 underlying44 iJ jA jB iR rfl (by decide) (.slice za zl zc) zl MZ rfl (eH.row 1 rfl) [I lq,I t,I cr,I f_,U gf,.slice none 0 0] _ _ rfl (eH.ar 0 rfl) rfl (by simp[Value.oneCell']) (by have:=M8.out;unfold maxLen;omega) (by have:=M8.out;omega) (cE _) ?_));intro g2 c2 w17 dy iZ jj kM mw;have κ:=(eH.grown 1 rfl dy iZ (λq e=>by
       rcases jj with h1|h1
       ·exact .inl (h1.trans e)
       ·right;simp only[Value.ownBlock,eX]at e;rw[←e,h1];simp)).tail
      simp only[zs,ze]at κ;have HS:=aa κ;clear κ dy iZ jj hB HD f29 nQ f3 f4 YM Ry eH;go_wp2_with fail;have hB:=HS.ar 3 rfl;obtain⟨f29,nQ⟩:=hB.fe HE.len 29 rfl rfl;have h5:=HS.set 3 rfl 29 (.slice (some ⟨g2,0,none⟩) (zl+1) c2);simp only[aL,xZ HE.len _ 29 _ (by omega),Nat.reduceSub,aN]at h5;have HS:=aa h5;clear h5 hB;repeat(first|go_big_quiet_step(fail)|apply ax|apply af|apply ag|apply ah)
      refine ao ?_;go_wp2;refine aj ?_;generalize World.setCell _ _ _=w18 at HS⊢;clear f29 nQ;have DW:=Z9.out;have DX:=Z_.out;subst DW DX;have h9:=rJ.out _ _ _ (((HS.out.k5 0 26 1)).pull 1 rfl);subst hLL;have h5:Sep w0 w18 (fG _ _::_::_::_::_::R):=h9;rw[qP]at h5;have HS:=aa h5;clear h9 h5;have f1:=aH (HS.row 3 rfl) (t*5+1) _ h1;have tI:=bw (HS.row 3 rfl) (t*5+1);have h5:=HS.setRow 3 rfl (t*5+1) (.pointer none);simp only[zs]at h5;have HS:=aa h5;clear h5;go_wp2;go_end0;subst VU η ε γ;exact⟨rfl,_,HS.out⟩
end Go.Proofs.YtolkmchicplaoaaGreat
namespace Go.aS
open Go.RowKit
def qI {base}{e:TypeId}{size g n cap}:∀(vs:List Value) {w:World} {xs:List Value} (o:Nat),w.ownsRow base e size (.slice (some ⟨g,0,none⟩) n cap) n xs→(w.setCells g o vs).ownsRow base e size (.slice (some ⟨g,0,none⟩) n cap) n (n_ xs o vs)
 |[],_,_,_,h=>h
 |v::r,_,_,o,h=>qI r (o+1) (ix h o v)
def Sep.I0 {w0 w Ts}(h:Sep w0 w Ts)(i){base}{e:TypeId}{size g n cap xs}(hi:Ts[i]?=some (aU base e size (.slice (some ⟨g,0,none⟩) n cap) n xs))(o vs):
 Sep w0 (w.setCells g o vs) (Ts.set i (aU base e size (.slice (some ⟨g,0,none⟩) n cap) n (n_ xs o vs))):=by
 obtain⟨fp,hp,_,hk⟩:=h.get i hi;exact hk _ _ fp ⟨hp.1,qI vs o hp.2⟩ (Fr.setCells (by rw[hp.1];simp[Value.ownBlock]) vs o (Fr.refl fp w)) (λq hq=> .inl hq)
def pK {P}{ops:Array Oper}{rest}{op:Oper}{a w w0}{Q:Exit→Act→World→Prop}{Ts}(h:Sep w0 w Ts)(i){e:TypeId}{size g n cap xs}(hi:Ts[i]?=some (aU 0 e size (.slice (some ⟨g,0,none⟩) n cap) n xs))(o vs)(ty:TypeId)(x y:Operand)(ho:op.op= .store ty x y)(mV:op.guard=none)
 (hx:a.eval x= .pointer (some ⟨g,o,none⟩))(hy:a.eval y= .agg vs.toArray)(hl:o+vs.length≤xs.length)(qL:(P.info? ty).map (·.size)=some vs.length)(h1:∀v∈vs,v.oneCell'=true)
 (hk:∀w',Sep w0 w' (Ts.set i (aU 0 e size (.slice (some ⟨g,0,none⟩) n cap) n (n_ xs o vs)))→Fr [g] w w'→wpList P ops Q rest (a.put op.dst undef) w'):wpList P ops Q (op::rest) a w:=by
 have hr:=h.row i hi;have ht:w.there g o vs.length:=λj hj=>⟨by rw[aH hr (o+j) _ (cy (show o+j<xs.length by omega))];rfl,bw hr (o+j)⟩;refine pR mV ty x y ho g o vs.toArray hx hy (by simpa using ht) (by simpa using qL) (iX h1) (hk _ ?_ ?_)
 ·simpa using h.I0 i hi o vs
 ·exact Fr.setCells (by simp) _ o (Fr.refl _ _)
def Cv {T:Type}{en:T→List Value}{n}(hn:∀x,(en x).length=n)(l){i}(hi:i<l.length)(x':T):n_ (flat en l) (i*n) (en x')=flat en (l.set i x'):=by
 refine oO hn _ (by rw[pA,ck hn,cF]) λk hk q hq=>?_;rw[cF]at hk;have fu:k*n+q<(flat en l).length:=by
  rw[ck hn];have:(k+1)*n≤l.length*n:=wo n hk;rw[oH]at this;omega
 rw[zk _ _ _ _ fu,hn,so];by_cases e:i=k
 ·subst e;rw[aB (by omega),aB rfl];congr 1;omega
 ·rw[aq ?_,aq e,cI hn l k hk q hq];intro h3;rcases Nat.lt_or_gt_of_ne e with h1|h1
  ·have:(i+1)*n≤k*n:=wo n h1;rw[oH]at this;omega
  ·have:(k+1)*n≤i*n:=wo n h1;rw[oH]at this;omega
end Go.aS
namespace Go.Proofs.YtolkmchicplaoaaGreat
open Go.RowKit Go.aS Go.aS.I_ Go.aS.Y
abbrev PR:=Value×Z.Row
def ku (p:PR):List Value:=j6 p.1 p.2
def sQ (p:PR):(ku p).length=6:=rfl
def uJ:PR:=(.slice none 0 0,⟨0,0,0,0,0,[]⟩)
def ya (p q:PR):Bool:=decide (p.2.at_<q.2.at_)
def sR (l:List PR)(j:Nat):List PR:=(l.set (j+1) (l.getD j uJ)).set j (l.getD (j+1) uJ)
def rW (a:Nat):Nat→List PR→List PR
 |0,l=>l
 |j+1,l=>if a<j+1∧ya (l.getD (j+1) uJ) (l.getD j uJ)=true then rW a j (sR l j)else l
def Az (a i:Nat):Nat→List PR→List PR
 |0,l=>l
 |m+1,l=>Az a (i+1) m (rW a i l)
def Cw (a b:Nat)(l:List PR):List PR:=Az a (a+1) (b-(a+1)) l
def M9 (l j):(sR l j).length=l.length:=by unfold sR;rw[cF,cF]
def DY (x y:Int):Int:=if x<y then-1 else if y<x then 1 else 0
def M_ (w x):ba 76 #[I x] w (.bool false):=by
 have HF:=aa (Fr.refl [] w);delta ba;go_in;go_wp2;go_ret;exact⟨by simp,HF.out⟩
def F5(w x y):ba 42 #[I x,I y] w (I (DY x y)):=by
 have HN:=aa M_;have HF:=aa (Fr.refl [] w);obtain⟨q,hq⟩:∃q,DY x y=q:=⟨_,rfl⟩;rw[hq];unfold DY at hq;by_cases h1:x<y;refine ?Z;rotate_left;refine ?Y
 case' Y=>rw[aq h1]at hq;have d1:decide (x<y)=false:=cW h1
 case' Y=>by_cases h2:y<x;refine ?X;rotate_left;refine ?J
 case' Z=>rw[aB h1]at hq;subst hq;have d1:decide (x<y)=true:=eP h1
 case' X=>rw[aB h2]at hq;subst hq;have d2:decide (y<x)=true:=eP h2
 case' J=>rw[aq h2]at hq;subst hq;have d2:decide (y<x)=false:=cW h2
 case' Z|X|J=>delta ba;go_in;go_wp2_with fail;refine(HN.out _ _).kk λw1 hf=>?_;have HF:=aa (HF.trans hf);clear hf;go_wp2_with fail;refine(HN.out _ _).kk λw2 hf=>?_;have HF:=aa (HF.trans hf);clear hf;go_wp2;go_ret
 case' Z|X|J=>exact⟨rfl,HF.out⟩
def I1 (w x y p q):ba 41 #[.agg (j6 x p).toArray,.agg (j6 y q).toArray] w (I (DY p.at_ q.at_)):=by
 have HC:=aa (λw'=>F5 w' p.at_ q.at_);have HS:=aa (((Sep.nil (Fr.refl [] w)).new 51 (j6 x p)).new 51 (j6 y q));obtain⟨pa,pw,pt,pc,pv,pn⟩:=p;obtain⟨qa,qw,qt,qc,qv,qn⟩:=q;dsimp only at HC⊢;generalize DY pa qa=z at*;unfold j6 at*;dsimp only at*;have f1:=(HS.ar 1 rfl).cell 0;simp only[gn]at f1;delta ba;go_in;go_wp2_with fail;refine(HC.out _).kq HS λw1 HS=>?_;go_wp2;go_ret;exact⟨rfl,HS.fr⟩
def F6 {a j l}(h:a<j+1)(h2:ya (l.getD (j+1) uJ) (l.getD j uJ)=true):rW a (j+1) l=rW a j (sR l j):=by
 show(if _ then _ else _)=_;rw[aB ⟨h,h2⟩]
def uA {a j l}(h:¬(a<j+1∧ya (l.getD (j+1) uJ) (l.getD j uJ)=true)):rW a (j+1) l=l:=by
 show(if _ then _ else _)=_;rw[aq h]
def Cx {a j l}(h:j≤a):rW a j l=l:=by
 cases j with
 |zero=>rfl
 |succ j=>exact uA (λh2=>by omega)
def om {w:World}{e:TypeId}{g n cap:Nat}{P:List PR}(h:w.ownsRow 0 e 6 (.slice (some ⟨g,0,none⟩) n cap) n (flat ku P)){j:Nat}(hj:j<P.length):w.rangeAt g (j*6) (ku (P.getD j uJ)):=by
 intro q u hq;have hq6:q<6:=by have:=(dE.1 hq).1;rwa [sQ]at this
 refine aH h _ _ ?_;rw[cI sQ P j hj q hq6];rw[cO,cy hj]at hq;exact hq
def I2 {P j}(hj:j+1<P.length):n_ (n_ (flat ku P) ((j+1)*6) (ku (P.getD j uJ))) (j*6) (ku (P.getD (j+1) uJ))=flat ku (sR P j):=by
 rw[Cv sQ P hj,Cv sQ _ (by rw[cF];omega)];rfl
def Na (p q:PR):decide (DY p.2.at_ q.2.at_<0)=ya p q:=by
 unfold DY ya;split
 ·rename_i h;rw[eP h];decide
 ·rename_i h;rw[cW h];split<;>decide
def F8 (w)(p q:PR):ba 41 #[.agg (ku p).toArray,.agg (ku q).toArray] w (I (DY p.2.at_ q.2.at_)):=I1 w p.1 q.1 p.2 q.2
def AA (P:List PR):Prop:=∀p∈P,p.1.oneCell'=true
def AA.at {P}(h:AA P)(j):∀v∈ku (P.getD j uJ),v.oneCell'=true:=by
 have h1:(P.getD j uJ).1.oneCell'=true:=by
  by_cases hj:j<P.length
  ·rw[cO,cy hj];exact h _ (cJ hj)
  ·rw[cO,lg (by omega)];rfl
 intro v hv;unfold ku j6 at hv;simp only[oG,uP,or_false]at hv;rcases hv with rfl|rfl|rfl|rfl|rfl|rfl
 ·rfl
 ·rfl
 ·rfl
 ·rfl
 ·rfl
 ·exact h1
def AA.swap {P}(h:AA P){j}(hj:j+1<P.length):AA (sR P j):=by
 intro p hp;unfold sR at hp;rcases k_ hp with h1|rfl
 ·rcases k_ h1 with h2|rfl
  ·exact h p h2
  ·rw[cO,cy (by omega)];exact h _ (cJ _)
 ·rw[cO,cy hj];exact h _ (cJ _)
def I3{w0 w R g n cap a b P0}(hn:P0.length=n)(YN:a≤b)(hb:b≤n)(oR:n≤1000000)(E7:AA P0)(hS:Sep w0 w (aU 0 51 6 (.slice (some ⟨g,0,none⟩) n cap) n (flat ku P0)::R)):bR 103 #[.slice (some ⟨g,0,none⟩) n cap,I a,I b,.func (.func 41) #[] #[]] w w0 (aU 0 51 6 (.slice (some ⟨g,0,none⟩) n cap) n (flat ku (Cw a b P0))::R):=by
 have S_:=aa F8;have HS:=aa hS;have HV:=aa E7;have HL:=aa hn;clear hS E7 hn;delta bR;go_in;go_wp2_with fail;go_loopg [8] (b-a) (λg1 vi wr=>∃(i:Nat) (P:List PR),vi=I (i:Int)∧a<i∧i≤b+1∧b+1-i≤g1+1∧P.length=n∧AA P∧Sep w0 wr (aU 0 51 6 (.slice (some ⟨g,0,none⟩) n cap) n (flat ku P)::R)∧Hid (Az a i (b-i) P=Cw a b P0))
 case' atStart=>skip
 refine ?Z
 case' round=>skip
 refine ?Y
 case' Z=>exact⟨a+1,P0,by go_num,by omega,by omega,by omega,HL.out,HV.out,HS.out,rfl⟩
 obtain⟨i,P,rfl,Yr,xG,uF,hPl,hPv,iU,HO⟩:=hrel;by_cases tH:i<b;refine ?X;rotate_left;refine ?J
 case' X=>
  have as4:(i:Int)<(b:Int):=by omega
  have kI:=aa iU;have Vl:=aa hPv;have Xf:=aa hPl;clear iU hPv hPl;go_wp2_with fail
 case' X=>
  go_loopg [9] i (λg2 vj wr2=>∃(j:Nat) (Q:List PR),vj=I (j:Int)∧a≤j∧j≤i∧j≤g2∧Q.length=n∧AA Q∧Sep w0 wr2 (aU 0 51 6 (.slice (some ⟨g,0,none⟩) n cap) n (flat ku Q)::R)∧Hid (rW a j Q=rW a i P))
  case' atStart=>skip
  refine ?G
  case' round=>skip
  refine ?D
 case' G=>exact⟨i,P,rfl,by omega,dp _,dp _,Xf.out,Vl.out,kI.out,rfl⟩
 case' D=>
  obtain⟨j,Q,rfl,haj,s9,iZ,ly,μ,I4,HI⟩:=hrel;have OUT:Hid (rW a j Q=Q→Az a (i+1) (b-(i+1)) Q=Cw a b P0):=aa (λhs=>by
   rw[←HO.out,show b-i=(b-(i+1))+1 by omega];show _=Az a (i+1) (b-(i+1)) (rW a i P);rw[←HI.out,hs])
 case' D=>by_cases hja:a<j;refine ?V;rotate_left;refine ?U
 case' V=>
  obtain⟨jp,rfl⟩:∃jp,j=jp+1:=⟨j-1,by omega⟩;have az5:(a:Int)<(jp:Int)+1:=by omega
  have Cj:IntKind.i64.wrap (jp:Int)=(jp:Int):=by rw[uR];omega
  have jz:(jp:Int)+1<(n:Int):=by omega
  have jz1:(jp:Int)<(n:Int):=by omega
  have e0:((jp:Int)+1).toNat=jp+1:=by omega
  have HRA:=aa (fun(w':World) (h:w'.ownsRow 0 51 6 (.slice (some ⟨g,0,none⟩) n cap) n (flat ku Q))=>om h (j:=jp+1) (by omega));have Po:=aa (fun(w':World) (h:w'.ownsRow 0 51 6 (.slice (some ⟨g,0,none⟩) n cap) n (flat ku Q))=>om h (j:=jp) (by omega));have Yd:=om (I4.drew.row 0 rfl) (j:=jp+1) (by omega);have Ew:=om (I4.drew.row 0 rfl) (j:=jp) (by omega);have N3:=I2 (P:=Q) (j:=jp) (by omega);have zf:=aa (μ.at (jp+1));have zA:=aa (μ.at jp);have zB:=aa (μ.swap (j:=jp) (by omega));have jH:=Na (Q.getD (jp+1) uJ) (Q.getD jp uJ);have Tb:=aa (λw'=>S_.out w' (Q.getD (jp+1) uJ) (Q.getD jp uJ));have Qe:=aa (λh2=>F6 (a:=a) (j:=jp) (l:=Q) hja h2);have mX:=aa (λh2=>uA (a:=a) (j:=jp) (l:=Q) h2);have iN:Hid ((ku (Q.getD (jp+1) uJ)).length=6):=rfl;have jb:Hid ((ku (Q.getD jp uJ)).length=6):=rfl;have hQf:(flat ku Q).length=n*6:=by rw[ck sQ,ly]
  have qs:=aa hQf;clear hQf;have sE:=aa ly;have YO:=aa μ;have ν:=aa N3;generalize DY (Q.getD (jp+1) uJ).2.at_ (Q.getD jp uJ).2.at_=cz at*;generalize ya (Q.getD (jp+1) uJ) (Q.getD jp uJ)=lz at*;generalize ku (Q.getD (jp+1) uJ)=c1 at*;generalize ku (Q.getD jp uJ)=c2 at*;obtain⟨XS,YP⟩:∃XS,flat ku Q=XS:=⟨_,rfl⟩;have Cn:=aa YP;rw[YP]at I4 qs ν HRA Po;clear YP;have og:=aa I4;clear I4 N3 ly μ;have lE:=aa Yd;have WY:=aa Ew;clear Yd Ew
 case' U=>have hjn:decide ((j:Int)>(a:Int))=false:=cW (by omega);have RA:=Cx (a:=a) (l:=Q) (show j≤a by omega);have sE:=aa ly;have YO:=aa μ;have og:=aa I4;clear I4 ly μ
 case' V|U=>go_wp2_with fail;refine bW [(1,[0,1,2,3,4,5,6,7,8,9,10,11,12,13]),(3,[14]),(0,[15,16])] (by kernel_rfl) ?_;simp only[zz];refine af ?_
 case' V=>repeat(first|(refine ak 51 _ g ((jp+1)*6) c1 _ rfl rfl rfl (aG lE.out (by simp)) underlying51 rfl (by rw[iN.out];kernel_rfl) ?_;simp only[Act.put,aZ,aL,aN])|(refine ak 51 _ g (jp*6) c2 _ rfl rfl rfl (aG WY.out (by simp)) underlying51 rfl (by rw[jb.out];kernel_rfl) ?_;simp only[Act.put,aZ,aL,aN])|go_big_quiet_step (fail)|quiet_step (fail))
 case' U=>repeat(first|go_big_quiet_step (fail)|quiet_step (fail))
 case' V|U=>refine ax ?_;repeat(first|go_big_quiet_step(fail)|quiet_step(fail)|apply ax|apply af|apply ag|apply ah)
 case' V=>refine ao ?_;go_wp2_with fail;refine(Tb.out _).kq og.dr λw2 og=>?_
 case' U=>refine aj ?_;go_wp2
 case' V=>
  cases lz with
  |true=>
   have RA:=Qe.out rfl;go_wp2_with fail;repeat(first|go_big_quiet_step(fail)|quiet_step(fail)|apply ax|apply af|apply ag|apply ah)
   refine aj ?_;go_wp2_with fail;clear lE WY;have Kz:=HRA.out _ (og.drew.row 0 rfl);have Jr:=Po.out _ (og.drew.row 0 rfl);refine bW [(1,[0,1,5,6,7,8,9,10,11,12,13,14]),(0,[2,3,4]),(3,[15]),(0,[16]),(3,[17])] (by kernel_rfl) ?_;simp only[zz];refine af ?_;repeat(first|(refine ak 51 _ g ((jp+1)*6) c1 _ rfl rfl rfl (aG Kz (by simp)) underlying51 rfl (by rw[iN.out];kernel_rfl) ?_;simp only[Act.put,aZ,aL,aN])|(refine ak 51 _ g (jp*6) c2 _ rfl rfl rfl (aG Jr (by simp)) underlying51 rfl (by rw[jb.out];kernel_rfl) ?_;simp only[Act.put,aZ,aL,aN])|go_big_quiet_step (fail)|quiet_step (fail))
   refine ax ?_;repeat(first|go_big_quiet_step(fail)|quiet_step(fail)|apply ax|apply af|apply ag|apply ah)
   refine ao ?_;refine pK og.drew 0 rfl ((jp+1)*6) c2 51 _ _ rfl rfl rfl rfl (by rw[qs.out,jb.out];omega) (by rw[jb.out];kernel_rfl) zA.out (λw4 js _=>?_);have og:=aa js;clear js Kz Jr;simp only[aL]at og;go_wp2_with fail;repeat(first|go_big_quiet_step(fail)|quiet_step(fail)|apply ax|apply af|apply ag|apply ah)
   refine ao ?_;refine pK og.out 0 rfl (jp*6) c1 51 _ _ rfl rfl rfl rfl (by rw[pA,qs.out,iN.out];omega) (by rw[iN.out];kernel_rfl) zf.out (λw5 Dv _=>?_);have og:=aa Dv;clear Dv;simp only[aL,ν.out]at og;go_wp2;refine aj ?_;go_wp2;go_roundg jp
   case measure=>omega
   case rel=>exact⟨jp,sR Q jp,by go_num,by omega,by omega,dp _,(M9 Q jp).trans sE.out,zB.out,og.out,(show Hid _ from(by show _=_;rw[←HI.out,RA]))⟩
  |false=>
   have RA:=mX.out (λh=>by cases h.2);go_wp2_with fail;repeat(first|go_big_quiet_step(fail)|quiet_step(fail)|apply ax|apply af|apply ag|apply ah)
   refine aj ?_;go_wp2;go_roundg (b-(i+1))
   case measure=>omega
   case rel=>exact⟨i+1,Q,by go_num,by omega,by omega,by omega,sE.out,YO.out,(by rw[Cn.out];exact og.out),OUT.out RA⟩
 case' U=>
  go_roundg (b-(i+1))
  case measure=>omega
  case rel=>exact⟨i+1,Q,by go_num,by omega,by omega,by omega,sE.out,YO.out,og.drew,OUT.out RA⟩
 have as4:¬(i:Int)<(b:Int):=by omega
 have kI:=aa iU;clear iU;go_wp2;go_end0;refine⟨rfl,?_⟩;rw[←HO.out,show b-i=0 by omega];exact kI.out
def sd (x:PR):List PR→List PR
 |[]=> [x]
 |y::l=>if x.2.at_<y.2.at_ then x::y::l else y::sd x l
def GO (P:List PR):List PR:=P.foldl (λl x=>sd x l) []
def y8 (l:List PR):Prop:=l.Pairwise (λp q=>p.2.at_≤q.2.at_)
def tC (x:PR):∀l:List PR,(sd x l).Perm (x::l)
 |[]=>List.Perm.refl _
 |y::l=>by
  unfold sd;split
  ·exact List.Perm.refl _
  ·exact(List.Perm.cons y (tC x l)).trans (List.Perm.swap x y l)
def yb {x:PR}:∀{l:List PR},y8 l→y8 (sd x l)
 |[],_=>List.pairwise_singleton _ _
 |y::l,h=>by
  have h1:=sm.1 h;unfold sd;split
  ·rename_i e;refine sm.2 ⟨λz hz=>?_,h⟩;rcases oG.1 hz with rfl|hz
   ·omega
   ·have:=h1.1 z hz;omega
  ·rename_i e;refine sm.2 ⟨λz hz=>?_,yb h1.2⟩;rcases oG.1 ((tC x l).mem_iff.1 hz)with rfl|hz
   ·omega
   ·exact h1.1 z hz
def RB (x:PR)(l):(sd x l).length=l.length+1:=by
 have:=(tC x l).length_eq;simpa using this
def Cy {x y:PR}(h:x.2.at_<y.2.at_):∀l:List PR,sd x (l++[y])=sd x l++[y]
 |[]=>by show(if _ then _ else _)=_;rw[aB h];rfl
 |z::l=>by
  show(if _ then _ else _)=(if _ then _ else _)++[y];split
  ·rfl
  ·rw[show l.append [y]=l++[y]from rfl,Cy h l];rfl
def Cz {x:PR}:∀{l:List PR},(∀z∈l,z.2.at_≤x.2.at_)→sd x l=l++[x]
 |[],_=>rfl
 |z::l,h=>by
  show(if _ then _ else _)=_;rw[aq (by have:=h z List.mem_cons_self;omega),Cz (λz hz=>h z (oB _ hz))];rfl
def vM {l}{x:PR}{r}:(l++x::r).getD l.length uJ=x:=by
 rw[cO,gw (dp _),oI];rfl
def Kh {l}{x y:PR}{r}:(l++x::r).set l.length y=l++y::r:=by
 rw[eD _ _ (dp _),oI,aL]
def RC {l}{x y:PR}{r}:sR (l++y::x::r) l.length=l++x::y::r:=by
 unfold sR;have e1:(l++y::x::r).getD l.length uJ=y:=vM;have e2:(l++y::x::r).getD (l.length+1) uJ=x:=by
  have e5:l++y::x::r=(l++[y])++x::r:=by simp
  have e6:(l++[y]).length=l.length+1:=by rw[eE];rfl
  rw[e5,←e6];exact vM
 have e3:(l++y::x::r).set (l.length+1) y=l++y::y::r:=by
  have e5:l++y::x::r=(l++[y])++x::r:=by simp
  have e6:(l++[y]).length=l.length+1:=by rw[eE];rfl
  rw[e5,←e6,Kh];simp
 rw[e1,e2,e3,Kh]
def vN {a}(A)(hA:A.length=a)(x:PR):∀(n:Nat) (S C:List PR),S.length=n→y8 S→rW a (a+n) (A++(S++x::C))=A++(sd x S++C)
 |0,S,C,hS,_=>by
  rw[nJ hS,Cx (by omega)];rfl
 |n+1,S,C,hS,hs=>by
  obtain⟨S',y,rfl⟩:∃S' y,S=S'++[y]:=⟨S.dropLast,S.getLast (by intro e;rw[e]at hS;cases hS),(List.dropLast_concat_getLast _).symm⟩;have hl:S'.length=n:=by rw[eE]at hS;simpa using hS
  have Lm:=(List.pairwise_append.1 hs);have e0:A++(S'++[y]++x::C)=(A++S')++y::x::C:=by simp
  have YQ:(A++S').length=a+n:=by rw[eE];omega
  have e1:(A++(S'++[y]++x::C)).getD (a+n) uJ=y:=by rw[e0,←YQ];exact vM
  have e2:(A++(S'++[y]++x::C)).getD (a+n+1) uJ=x:=by
   have e5:A++(S'++[y]++x::C)=(A++S'++[y])++x::C:=by simp
   have e6:(A++S'++[y]).length=a+n+1:=by rw[eE,YQ];rfl
   rw[e5,←e6];exact vM
  by_cases hc:x.2.at_<y.2.at_
  ·have e3:sR (A++(S'++[y]++x::C)) (a+n)=A++(S'++x::(y::C)):=by
    rw[e0,←YQ,RC];simp
   rw[show a+(n+1)=(a+n)+1 from rfl,F6 (by omega) (by unfold ya;rw[e1,e2];exact eP hc),e3,vN A hA x n S' (y::C) hl Lm.1,Cy hc];simp
  ·rw[show a+(n+1)=(a+n)+1 from rfl,uA (λh=>by
    have h2:=h.2;unfold ya at h2;rw[e1,e2]at h2;exact hc (oC h2))]
   rw[Cz (λz hz=>by
    rcases jQ.1 hz with h1|h1
    ·have:=Lm.2.2 z h1 y (by simp);omega
    ·rw[jO]at h1;subst h1;omega)]
   simp
def vO {a}(A)(hA:A.length=a):∀(D S C:List PR),y8 S→Az a (a+S.length) D.length (A++(S++(D++C)))=A++(D.foldl (λl x=>sd x l) S++C)
 |[],S,C,_=>rfl
 |x::D,S,C,hs=>by
  show Az a (a+S.length+1) D.length (rW a (a+S.length) (A++(S++(x::D++C))))=_;have h1:=vN A hA x S.length S (D++C) rfl hs;rw[show S++(x::D++C)=S++x::(D++C)from rfl,h1];have h2:=vO A hA D (sd x S) C (yb hs);rw[RB,←Nat.add_assoc]at h2;exact h2
def I5 (A B C):Cw A.length (A.length+B.length) (A++(B++C))=A++(GO B++C):=by
 unfold Cw;cases B with
 |nil=>
  rw[show A.length+([]:List PR).length-(A.length+1)=0 by simp];rfl
 |cons x D=>
  have h:=vO A rfl D [x] C (List.pairwise_singleton _ _);rw[show A.length+(x::D).length-(A.length+1)=D.length by rw[dT];omega];exact h
def Nb (P):Cw 0 P.length P=GO P:=by
 have:=I5 [] P [];simpa using this
def yc:∀(P S:List PR),(P.foldl (λl x=>sd x l) S).Perm (S++P)
 |[],S=>by simp
 |x::P,S=>by
  have h:=yc P (sd x S);refine h.trans ?_;refine((tC x S).append_right P).trans ?_;exact List.perm_middle.symm
def F9 (P):(GO P).Perm P:=by have:=yc P [];rw[y_]at this;exact this
def VV (P):(GO P).length=P.length:=(F9 P).length_eq
def F_ (x:PR):∀l:List PR,(sd x l).map (·.2)=Or.ins x.2 (l.map (·.2))
 |[]=>rfl
 |y::l=>by
  show(if _ then _ else _:List PR).map _=(if _ then _ else _);split
  ·rfl
  ·rw[po,F_ x l]
def AB:∀(P S:List PR),(P.foldl (λl x=>sd x l) S).map (·.2)=(P.map (·.2)).foldl (λl x=>Or.ins x l) (S.map (·.2))
 |[],S=>rfl
 |x::P,S=>by
  show(P.foldl _ (sd x S)).map _=(P.map _).foldl _ (Or.ins x.2 (S.map (·.2)));rw[AB P,F_]
def VW (P):(GO P).map (·.2)=Or.sort (P.map (·.2)):=AB P []
def DZ {w0 w R g n cap P}(hn:P.length=n)(aj4:n<20)(hv:AA P)(hS:Sep w0 w (aU 0 51 6 (.slice (some ⟨g,0,none⟩) n cap) n (flat ku P)::R)):
 bR 75 #[.slice (some ⟨g,0,none⟩) n cap,I n,.func (.func 41) #[] #[]] w w0 (aU 0 51 6 (.slice (some ⟨g,0,none⟩) n cap) n (flat ku (GO P))::R):=by
 have HI:=aa (λw' hS=>I3 (w0:=w0) (w:=w') (R:=R) (g:=g) (cap:=cap) (a:=0) (b:=n) hn (cE _) (dp _) (by omega) hv hS);have e:=Nb P;rw[hn]at e;rw[e]at HI;have HS:=aa hS;clear hS e hv hn;generalize flat ku (GO P)=XT at*;generalize flat ku P=XS at*;have d1:decide ((20:Int)≤(n:Int))=false:=cW (by omega);have d2:decide ((20:Int)<(n:Int))=false:=cW (by omega);delta bR;go_in;go_wp2_with fail;refine gQ 1 ?_;rw[dA];go_wp2_with fail;refine(HI.out _ HS.out).kh λw1 HS=>?_;go_wp2_with fail;refine gQ 1 ?_;rw[dA];go_wp2;go_end0;exact⟨rfl,HS.out⟩
def I6 {w0 w R g n cap P}(hn:P.length=n)(aj4:n<20)(hv:AA P)(hS:Sep w0 w (aU 0 51 6 (.slice (some ⟨g,0,none⟩) n cap) n (flat ku P)::R)):
 bR 40 #[.slice (some ⟨g,0,none⟩) n cap,.func (.func 41) #[] #[]] w w0 (aU 0 51 6 (.slice (some ⟨g,0,none⟩) n cap) n (flat ku (GO P))::R):=by
 have HI:=aa (λw' hS=>DZ (w0:=w0) (w:=w') (R:=R) (g:=g) (cap:=cap) hn aj4 hv hS);have HS:=aa hS;clear hS hv hn;generalize flat ku (GO P)=XT at*;generalize flat ku P=XS at*;delta bR;go_in;go_wp2_with fail;refine(HI.out _ HS.out).kh λw1 HS=>?_;go_wp2;go_end0;exact⟨rfl,HS.out⟩
end Go.Proofs.YtolkmchicplaoaaGreat
namespace Go.aS
def Sep.VY {w0 w Ts Us}(h:Ts.Perm Us):∀{R:List a_},Sep w0 w (Ts++R)→Sep w0 w (Us++R):=by
 induction h with
 |nil=>intro R hS;exact hS
 |cons x h ih=>
  intro R hS;have h1:=Sep.kz hS;exact(ih h1).P1
 |swap x y l=>
  intro R hS;exact Sep.swap hS
 |trans h1 h2 ih1 ih2=>intro R hS;exact ih2 (ih1 hS)
def Sep.RI {w0 w Ts Us R}(h:Ts.Perm Us)(hS:Sep w0 w (cM Ts::R)):Sep w0 w (cM Us::R):=(Sep.VY h hS.ofList).toList
end Go.aS
namespace Go.Proofs.YtolkmchicplaoaaGreat
open Go.RowKit Go.aS Go.aS.I_ Go.aS.Y
def Kj (v r):j6 v r=[I r.at_,I r.aw,I r.tag,I r.rc,U r.rv]++[v]:=rfl
def RJ (v r)(h:v.oneCell'=true):∀u∈j6 v r,u.oneCell'=true:=by
 intro u hu;simp only[j6,oG,uP,or_false]at hu;rcases hu with rfl|rfl|rfl|rfl|rfl|rfl
 ·rfl
 ·rfl
 ·rfl
 ·rfl
 ·rfl
 ·exact h
def xo {w0 w R c ai b s}(hl:s.aM.length≤1000000)(hS:Sep w0 w (dx c ai b s::R)):
 Calls Tryz.prog 15 #[O b] w λr w'=>∃v,r= .returned v∧eZ w w' (aU 0 55 13 v s.aM.length (flat eI s.aM)):=by
 obtain⟨H,mb,pv,lZ,iV,iP,aO,L,hE,hL,h⟩:=kr hS;unfold Es at h;have HE:=aa hE;have f28:=(h.ar 0 rfl).aR HE.len 28 rfl rfl;have HC:=aa (OR w iV s.aM.length (flat eI s.aM) (zy (h.row 3 rfl)) (ck jD _) (gJ M5 _) hl);clear hS h hE hL HE;go_in;go_wp2_with fail;refine HC.out.mono ?_;rintro r w1 ⟨v,rfl,h9⟩;have H9:=aa h9;clear h9;go_wp2;go_ret;exact⟨v,rfl,H9.out⟩
def Gc (w la cap fv):ba 103 #[.slice la 0 cap,I 0,I 0,fv] w (.tuple #[]):=by
 have HF:=aa (Fr.refl [] w);delta ba;go_in;go_wp2_with fail;refine gQ 1 ?_;rw[dA];go_wp2;go_end0;exact⟨rfl,HF.out⟩
def Nd (w la cap fv):ba 40 #[.slice la 0 cap,fv] w (.tuple #[]):=by
 have HI:=aa (λw'=>Gc w' la cap fv);have HT:Hid (∀w,ba 75 #[.slice la 0 cap,I 0,fv] w (.tuple #[])):=aa (λw=>by
  have HF:=aa (Fr.refl [] w);delta ba;go_in;go_wp2_with fail;refine gQ 1 ?_;rw[dA];go_wp2_with fail;refine(HI.out _).kk λw1 hf=>?_;have HF:=aa (HF.trans hf);clear hf;go_wp2_with fail;refine gQ 1 ?_;rw[dA];go_wp2;go_end0;exact⟨rfl,HF.out⟩)
 delta ba;go_in;go_wp2_with fail;refine(HT.out _).kh λw1 HF=>?_;go_wp2;go_end0;exact⟨rfl,HF.out⟩
def I8 (n:Nat):Prop:=∀{w0 w:World} {R:List a_} {g cap:Nat} {P:List PR},P.length=n→AA P→Sep w0 w (aU 0 51 6 (.slice (some ⟨g,0,none⟩) n cap) n (flat ku P)::R)→
 bR 40 #[.slice (some ⟨g,0,none⟩) n cap,.func (.func 41) #[] #[]] w w0 (aU 0 51 6 (.slice (some ⟨g,0,none⟩) n cap) n (flat ku (GO P))::R)
def vR {n}(h:n<20):I8 n:=λhn hv hS=>I6 hn h hv hS
def D2 {w0 w R v A L}(hA:A.length=L.length)(h:Sep w0 w (aU 0 51 6 v L.length (flat ku (GO (A.zip L)))::cM (lY Z.Row.news A L)::R)):Sep w0 w (fG v (Or.sort L)::R):=by
 have hz:(A.zip L).map (·.2)=L:=List.map_snd_zip (by omega);have hl:(A.zip L).length=L.length:=by rw[nK];omega
 have hp:=F9 (A.zip L);have hlen:=VV (A.zip L);have hm:=VW (A.zip L);rw[hz]at hm;have Vt:(Or.sort L).length=L.length:=by rw[←hm,dD,hlen,hl]
 have aj7:((GO (A.zip L)).map (·.1)).zip (Or.sort L)=GO (A.zip L):=by
  rw[←hm];generalize GO (A.zip L)=Q;induction Q with
  |nil=>rfl
  |cons q Q ih=>rw[po,po,wC,ih]
 refine lH (dY:=(GO (A.zip L)).map (·.1)) (by rw[dD,hlen,hl,Vt]) ?_;unfold mix lY;rw[aj7,Vt];have h2:=h.pull 1 rfl;have h3:=Sep.RI (Us:=(GO (A.zip L)).map (λp=>aU 0 26 1 p.1 (Z.Row.news p.2).length (bC (Z.Row.news p.2)))) (by unfold lY;exact(hp.map _).symm) h2;exact h3.pull 1 rfl
def RL {w0 w R b cs mb pv H}(hE:SH cs mb pv H){lZ iV rv pk L}(Pp:I8 L.length)(nR:L.length≤100000)(kA:∀r∈L,r.news.length≤100000)(hS:Sep w0 w (aJ b 106 (H++[lZ,I pk,iV,rv])::fG rv L::R)):
 Calls Tryz.prog 14 #[O b] w λr w'=>∃v',r= .returned v'∧Sep w0 w' (fG v' (Or.sort L)::aJ b 106 (H++[lZ,I pk,iV,rv])::fG rv L::R):=by
 have HE:=aa hE;have f29:=(hS.ar 0 rfl).aR HE.len 29 rfl rfl;generalize XR:aJ b 106 (H++[lZ,I pk,iV,rv])=BT at*;clear XR hE HE;obtain⟨dY,k7,h2⟩:=jg (hS.pull 1 rfl);simp only[ze]at h2;clear hS;have tT:=tx k7 (h2.pull 1 rfl);have AX:=J8 (en:=j6) (k:=6) (λ_ _=>rfl) k7;have GL:=J9 (en:=j6) RJ (L:=L) tT;have Eo:=aa (fun(w':World) (hr:Rd w' rv L.length (mix j6 dY L))=>Lb w' rv L.length (mix j6 dY L) hr AX GL (by omega));have jN:=zy (h2.row 0 rfl);obtain⟨oa,oc,rfl⟩:=h2.form 0 rfl;have HF:=aa tT;have ZH:=aa kA;clear kA;have Dt:=aa (λw' (RR:List a_) (g cap:Nat) (P:List PR) h1 h2 h3=>Pp (w0:=w0) (w:=w') (R:=RR) (g:=g) (cap:=cap) (P:=P) h1 h2 h3);clear Pp;obtain⟨n,hn⟩:∃n,L.length=n:=⟨_,rfl⟩;rw[hn]at h2 Eo jN nR k7 Dt;simp only[hn]at f29;have HS:=aa h2;have HN:=aa hn;have MD:=aa k7;clear h2 AX GL hn tT k7;go_in;go_wp2_with fail;refine(Eo.out _ jN).mono ?_;rintro r w2 ⟨v',rfl,h3⟩;obtain⟨ob,od,rfl⟩:=h3.form;have HS:=aa (HS.fresh h3);clear h3 jN f29 Eo;go_wp2_with fail;go_loopg [12] n (λg vi wr=>∃A:List Value,g+A.length=n∧vi=I (A.length:Int)∧Sep w0 wr (aU 0 51 6 (.slice ob n od) n (mix j6 (A++dY.drop A.length) L)::cM (lY Z.Row.news A L)::aU 0 51 6 (.slice oa n oc) n (mix j6 dY L)::cM (lY Z.Row.news dY L)::BT::R))
 case atStart=>refine⟨[],by simp,rfl,?_⟩;have h9:=HS.out.ud.pull 1 rfl;exact h9
 case round=>
  obtain⟨A,yy,rfl,iU⟩:=hrel;obtain⟨j,ME⟩:∃j,A.length=j:=⟨_,rfl⟩;rw[ME]at yy iU⊢;by_cases hj:j<n
  ·have s9:(j:Int)<(n:Int):=by omega
   have DH:=MD.out;have tz:=HN.out;have FG:j<dY.length:=by omega
   have Aj:j<L.length:=by omega
   obtain⟨gb,rfl⟩:∃gb,ob=some ⟨gb,0,none⟩:=by
    rcases bg (iU.row 0 rfl)with⟨e1,e2⟩|⟨gb,cap,e1,_⟩
    ·omega
    ·simp only[dk]at e1;exact⟨gb,e1.1⟩
   have vp:dY.drop j=dY[j]::dY.drop (j+1):=pO FG;have vA:=y5 Z.Row.news (A:=dY) (L:=L) (by omega) Aj;obtain⟨fp9,JR⟩:=(iU.pull 3 rfl).known vA;have QY:=zy JR.2;have ng:=ZH.out L[j] (cJ Aj);obtain⟨ZJ,n9,ZK,Ep⟩:=HF.out dY[j] (cJ FG);have rJ:=aa (λIC=>FA Z.Row.news (A:=A) (L:=L) (nv:=IC) (by omega));have Q0:=aa (λIC=>DG (m:=5) (en:=j6) Kj (λ_=>rfl) IC A (dY.drop (j+1)) dY[j] L (by rw[←vp];simp;omega));have kS:=DF (m:=5) (en:=j6) Kj (λ_=>rfl) A (dY.drop (j+1)) dY[j] L (by rw[←vp];simp;omega);rw[←vp,ME]at kS;simp only[Nat.reduceAdd]at kS;simp only[ME,←vp,Nat.reduceAdd]at Q0;simp only[ME]at rJ;have Yv:=aa (fun(w':World) (hf:Fr [] wr w')=>EJ w' dY[j] _ _ (QY.fr hf) (FD _) (FC _) (by omega));have c4:wr.cell? ⟨gb,j*6+5,none⟩=some dY[j]:=aH (iU.row 0 rfl) _ _ kS;have f4:=bw (iU.row 0 rfl) (j*6+5);have ZL:=aa kS;generalize dY[j]=Yw at*;generalize L[j]=x9 at*;subst Ep;have kI:=aa iU;clear iU vp kS vA JR QY ng DH tz;go_wp2_with fail;refine(Yv.out _ (Fr.refl _ _)).mono ?_;rintro r w9 ⟨IC,rfl,h9⟩;obtain⟨ld,ln,lf,rfl⟩:∃ld ln lf,IC= .slice ld ln lf:=by
    obtain⟨ld,lf,e⟩:=h9.form;exact⟨ld,_,lf,e⟩
   have kI:=aa (kI.fresh h9);clear h9 c4 f4;have c4:=aH (kI.row 1 rfl) _ _ ZL.out;have f4:=bw (kI.row 1 rfl) (j*6+5);have h9:=kI.setRow 1 rfl (j*6+5) (.slice ld ln lf);simp only[zs,Q0.out]at h9;have kI:=aa h9;clear h9;go_wp2_with fail;generalize World.setCell _ _ _=w8 at kI⊢;clear c4 f4;have h9:=(Sep.vh ((kI.pull 2 rfl).pull 1 rfl)).pull 1 rfl;rw[←rJ.out]at h9;have og:=aa h9;clear h9;have ID:(A++[Value.slice ld ln lf]).length=j+1:=by rw[eE,ME];rfl
   go_roundg (n-(j+1))
   case measure=>omega
   case rel=>refine⟨A++[.slice ld ln lf],by rw[ID];omega,by rw[ID];go_num,?_⟩;rw[ID];exact og.out
  ·obtain rfl:j=n:=by omega
   have xe:=MD.out;rw[yM (by omega),sY]at iU;have kI:=aa iU;clear iU;go_wp2_with fail;have tz:=HN.out;have ς:=tx (A:=A) (L:=L) (by omega) (kI.pull 1 rfl);by_cases h0:j=0
   ·subst h0;refine(Nd _ ob od _).kq kI λw7 kI=>?_;go_wp2;go_ret;have hL0:L=[]:=nJ tz;have Pq:A=[]:=nJ ME;have E7:dY=[]:=nJ xe;subst hL0 Pq E7;refine⟨_,rfl,?_⟩;have oo:Sep w0 w7 (fG (.slice ob 0 od) []::_::_::BT::R):=lH (dY:=[]) rfl kI.out;have u7:Sep w0 w7 (fG (.slice oa 0 oc) []::fG (.slice ob 0 od) []::BT::R):=lH (dY:=[]) rfl ((oo.pull 2 rfl).pull 2 rfl);exact(u7.pull 2 rfl).pull 2 rfl
   ·obtain⟨gb,rfl⟩:∃gb,ob=some ⟨gb,0,none⟩:=by
     rcases bg (kI.row 0 rfl)with⟨e1,e2⟩|⟨gb,cap,e1,_⟩
     ·omega
     ·simp only[dk]at e1;exact⟨gb,e1.1⟩
    refine(Dt.out _ _ gb od (A.zip L) (by rw[nK];omega) (λp hp=>by obtain⟨la,n2,lc,e⟩:=ς p.1 (List.of_mem_zip hp).1;rw[e];rfl) kI.out).kh λw7 kI=>?_;go_wp2;go_ret;refine⟨_,rfl,?_⟩;have h9:=kI.out;rw[←tz]at h9;have oo:=D2 (by omega) h9;have u7:=lH (by rw[xe];exact tz.symm) ((oo.pull 1 rfl).pull 2 rfl|>.pull 1 rfl);subst tz;exact(u7.pull 2 rfl).pull 2 rfl
def CC {w0 w R c ai n0 b s}(hI:SI c ai n0 s)(Pp:I8 s.rows.length)(hl:s.rows.length≤100000)(hS:Sep w0 w (dx c ai b s::R)):
 Calls Tryz.prog 14 #[O b] w λr w'=>∃v',r= .returned v'∧Sep w0 w' (fG v' (Or.sort s.rows)::dx c ai b s::R):=by
 obtain⟨H,mb,pv,lZ,iV,iP,aO,L,hE,hL,h⟩:=kr hS;unfold Es at h;have h1:Sep w0 w (_::fG iP s.rows::dP mb s.mem::aU 0 132 5 lZ L.length (flat gp L)::aU 0 55 13 iV s.aM.length (flat eI s.aM)::kJ pv aO ai::cM (L.map (vK c pv aO))::R):=(h.pull 4 rfl).pull 1 rfl;refine(RL hE Pp hl (λr hr=>by have:=hI.news r hr;omega) h1).mono ?_;rintro r w' ⟨v',rfl,h2⟩;refine⟨v',rfl,Sep.pull (tA hE hL (lZ:=lZ) (iV:=iV) (iP:=iP) (aO:=aO) (R:=fG v' (Or.sort s.rows)::R) ?_) 1 rfl⟩;unfold Es;exact(((((((h2.pull 7 rfl).pull 7 rfl).pull 4 rfl).pull 7 rfl).pull 7 rfl).pull 7 rfl).pull 7 rfl)
end Go.Proofs.YtolkmchicplaoaaGreat
namespace Go.Proofs.YtolkmchicplaoaaGreat
open Go.RowKit Go.aS Go.aS.I_ Go.aS.Y Go.Maps
def Nf (w r aw tag kb)(hB:cB w kb 146 [I aw,I tag]):
 ba 94 #[.agg (eI r).toArray,O kb] w (.bool (decide (r.aw=aw∧r.tag=tag))):=by
 obtain⟨rw,rt,N5,rf,Du,Pr,rd,Dy,Dz⟩:=r;unfold eI;dsimp only;generalize N5.args.getD 0 0=a0;generalize N5.args.getD 1 0=a1;generalize N5.args.getD 2 0=a2;generalize N5.args.getD 3 0=a3;have HF:=aa ((Fr.refl [] w).alloc (.cells ([I rw,I rt,I N5.prog,U a0,U a1,U a2,U a3,I rf,I Du,I Pr,.bool rd,I Dy,U Dz]:List Value).toArray 55));have YU:=hB.alloc (.cells ([I rw,I rt,I N5.prog,U a0,U a1,U a2,U a3,I rf,I Du,I Pr,.bool rd,I Dy,U Dz]:List Value).toArray 55);have hN:=cB.new w 55 [I rw,I rt,I N5.prog,U a0,U a1,U a2,U a3,I rf,I Du,I Pr,.bool rd,I Dy,U Dz];have k0:=YU.cell 0;have k1:=YU.cell 1;have r0:=hN.cell 0;have r1:=hN.cell 1;simp only[zg]at k0 k1 r0 r1;clear hB YU hN;by_cases h1:rw=aw
 ·have e1:(rw==aw)=true:=by simpa using h1
  by_cases h2:rt=tag
  ·have e2:(rt==tag)=true:=by simpa using h2
   rw[show decide (rw=aw∧rt=tag)=true from eP ⟨h1,h2⟩];clear h1 h2;delta ba;go_in;go_wp2;go_ret;exact⟨rfl,HF.out⟩
  ·have e2:(rt==tag)=false:=by simpa using h2
   rw[show decide (rw=aw∧rt=tag)=false from cW (λh=>h2 h.2)];clear h1 h2;delta ba;go_in;go_wp2;go_ret;exact⟨rfl,HF.out⟩
 ·have e1:(rw==aw)=false:=by simpa using h1
  rw[show decide (rw=aw∧rt=tag)=false from cW (λh=>h1 h.1)];clear h1;delta ba;go_in;go_wp2;go_ret;exact⟨rfl,HF.out⟩
def I9 {l:List Z.Rec}{p:Z.Rec→Bool}{i:Nat}(hi:i<l.length)(h0:∀j,(h:j<i)→p (l[j]'(by omega))=false)(h1:p l[i]=true):l.findIdx? p=some i:=by
 rw[CS];exact⟨hi,h1,λj hj=>by simp[h0 j hj]⟩
def Ja {l:List Z.Rec}{p:Z.Rec→Bool}(h0:∀j,(h:j<l.length)→p l[j]=false):l.findIdx? p=none:=by
 rw[List.findIdx?_eq_none_iff];intro x hx;obtain⟨j,hj,rfl⟩:=List.mem_iff_getElem.1 hx;exact h0 j hj
def VZ (w rv aM)(hl:aM.length≤1000000)(hA:dB eI 13 w rv aM)(kb aw tag)(hB:cB w kb 146 [I aw,I tag]):
 ba 93 #[rv,.func (.func 94) #[] #[.pointer (some ⟨kb,0,none⟩)]] w (.int .i64 (Or.find aM aw tag)):=by
 obtain⟨ra,rc,rfl⟩:=hA.len;obtain⟨n,hn⟩:∃n,aM.length=n:=⟨_,rfl⟩;have HA:=aa hA;have HB:=aa hB;have HF:=aa (Fr.refl [] w);have HN:=aa hn;rw[hn]at hl⊢;clear hA hB hn;delta ba;go_in;go_wp2_with fail;go_loopg [8] n (λg v8 wr=>∃i:Nat,v8=I i∧i≤n∧n-i=g∧(∀j,(h:j<i)→(hl:j<aM.length)→decide (aM[j].aw=aw∧aM[j].tag=tag)=false)∧Fr [] w wr)
 case atStart=>exact⟨0,rfl,by omega,by omega,λj h=>by omega,HF.out⟩
 case round=>
  obtain⟨i,rfl,hi,hg,h0,hf⟩:=hrel;have HF:=aa hf;have H0:=aa h0;have HG:=aa hg;clear hf h0 hg;by_cases tH:i<n
  ·have Hh:i<aM.length:=by rw[HN.out];exact tH
   have d1:decide ((i:Int)<(n:Int))=true:=eP (by omega);have td:(i:Int)<(n:Int):=by omega
   have hw:IntKind.i64.wrap ((i:Int)+1)=((i+1:Nat):Int):=by rw[bf _ (by omega) (by omega)];rfl
   obtain⟨xa,rfl,uI,c0,c1⟩:=dB.at (a:=ra) (m:=aM.length) (cap:=rc) (by rw[HN.out];rw[HN.out]at HA;exact HA.fr HF.out) Hh;have Ps:=aa (λw' (f:Fr [] w w')=>Nf w' aM[i] aw tag kb (HB.fr f (by simp)));have HX:=aa (λhd:decide (aM[i].aw=aw∧aM[i].tag=tag)=true=>show Or.find aM aw tag=(i:Int) by
    unfold Or.find;rw[I9 (p:=λr=>decide (r.aw=aw∧r.tag=tag)) Hh (λj hj=>H0.out j hj (by omega)) hd])
   have HY:=aa (λhd:decide (aM[i].aw=aw∧aM[i].tag=tag)=false=>show∀j,(h:j<i+1)→(hl:j<aM.length)→decide (aM[j].aw=aw∧aM[j].tag=tag)=false from λj hj rR=>by
    by_cases e:j=i
    ·subst e;exact hd
    ·exact H0.out j (by omega) rR)
   generalize Z5:decide (aM[i].aw=aw∧aM[i].tag=tag)=dd at*;generalize aM[i]=ri at*;obtain⟨rw_,rt,N5,rf,Du,Pr,rd,Dy,Dz⟩:=ri;unfold eI at c0 c1 Ps;dsimp only at c0 c1 Ps;generalize N5.args.getD 0 0=a0 at*;generalize N5.args.getD 1 0=a1 at*;generalize N5.args.getD 2 0=a2 at*;generalize N5.args.getD 3 0=a3 at*;have e0:=c0 _ rfl;have e1:=c1 0 _ rfl;have e2:=c1 1 _ rfl;have e3:=c1 2 _ rfl;have e4:=c1 3 _ rfl;have e5:=c1 4 _ rfl;have e6:=c1 5 _ rfl;have e7:=c1 6 _ rfl;have e8:=c1 7 _ rfl;have e9:=c1 8 _ rfl;have o7:=c1 9 _ rfl;have qM:=c1 10 _ rfl;have qN:=c1 11 _ rfl;clear c0 c1 Z5;go_wp2_with fail;refine(Ps.out _ HF.out).kk λw1 hf=>?_;have HF:=aa (HF.trans hf);clear hf Ps e0 e1 e2 e3 e4 e5 e6 e7 e8 e9 o7 qM qN;cases dd
   ·have HY2:=aa (HY.out rfl);clear HX HY;have wY:Hid (n-(i+1)<gk):=aa (by rw[←HG.out];omega);clear d1;go_wp2;go_roundg (n-(i+1))
    case measure=>exact wY.out
    case rel=>exact⟨i+1,rfl,by omega,rfl,HY2.out,HF.out⟩
   ·have HX2:=aa (HX.out rfl);clear HX HY;go_wp2;go_ret;rw[HX2.out];exact⟨rfl,HF.out⟩
  ·have d1:decide ((i:Int)<(n:Int))=false:=cW (by omega);have HX:Hid (Or.find aM aw tag= -1):=aa (by
    unfold Or.find;rw[Ja (p:=λr=>decide (r.aw=aw∧r.tag=tag)) (λj hj=>H0.out j (by have:=HN.out;omega) hj)])
   go_wp2;go_ret;rw[HX.out];exact⟨rfl,HF.out⟩
def Gd (w rv aM)(hl:aM.length≤1000000)(hA:dB eI 13 w rv aM)(aw tag):
 ba 64 #[rv,.agg #[I aw,I tag]] w (I (Or.find aM aw tag)):=by
 have HF:=aa ((Fr.refl [] w).alloc (.cells #[I aw,I tag] 146));have HI:=aa (VZ (w.alloc (.cells #[I aw,I tag] 146)) rv aM hl (hA.fr HF.out) w.heap.size aw tag (cB.new w _ _));clear hA;generalize Or.find aM aw tag=k at*;delta ba;go_in;go_wp2_with fail;refine HI.out.mono ?_;rintro r w1 ⟨rfl,hf⟩;have HF:=aa (HF.trans hf);go_wp2;go_ret;exact⟨rfl,HF.out⟩
def CD (w){pv aO ai}(hP:cL w pv aO ai)(k):
 ba 67 #[pv,I k] w (dh aO k):=by
 obtain⟨pa,pc,rfl⟩:=hP.row.len;have hR:=hP.row;clear hP;obtain⟨m,hm⟩:∃m,aO.length=m:=⟨_,rfl⟩;rw[hm]at hR⊢;have eT:dh aO k=if k<0∨(aO.length:Int)≤k then .slice none 0 0 else aO.getD k.toNat (.slice none 0 0):=rfl
 by_cases h0:k<0
 ·rw[eT,aB (.inl h0)];have d0:decide (k<0)=true:=by simpa using h0
  clear hR eT h0;delta ba;go_in;go_wp2;go_ret;exact⟨rfl,Fr.refl _ _⟩
 ·have d0:decide (k<0)=false:=by simpa using h0
  by_cases h1:(m:Int)≤k
  ·rw[eT,aB (.inr (by omega))];have d1:decide ((m:Int)≤k)=true:=by simpa using h1
   have d2:decide (k≥(m:Int))=true:=d1;clear hR eT h0 h1;delta ba;go_in;go_wp2;go_ret;exact⟨rfl,Fr.refl _ _⟩
  ·rw[eT,aq (by omega)];have d1:decide ((m:Int)≤k)=false:=by simpa using h1
   have d2:decide (k≥(m:Int))=false:=d1;obtain⟨j,rfl⟩:∃j:Nat,k=(j:Int):=⟨k.toNat,by omega⟩;have mW:j<aO.length:=by omega
   obtain⟨xa,rfl,GD,hx,_⟩:=hR.at mW;rw[lj]at hx;have hx:=hx _ rfl;have mV:aO.getD (j:Int).toNat (.slice none 0 0)=aO[j]:=by simp[List.getD,mW]
   rw[mV];have hjm:(j:Int)<(m:Int):=by omega
   generalize aO[j]=YD at*;clear hR eT h0 h1 mV mW;delta ba;go_in;go_wp2;go_ret;exact⟨rfl,Fr.refl _ _⟩
def RM:laidOutB Tryz.prog=true:=by kernel_rfl
def vS:WideMaps.KeyLaw Tryz.prog 146:=(deep_law_laid RM (m:=2) (by omega) (oC (by kernel_rfl)) (by kernel_rfl) (by rw[underlying146]))
def mS:Keyed Tryz.prog 146:=Keyed.of_law vS
def RN {a b}(ha:(Lit.int .i64 a).wf=true)(hb:(Lit.int .i64 b).wf=true):∃l,keyOf Tryz.prog 146 (.agg #[.int .i64 a,.int .i64 b])=some l:=by
 have h1:Tryz.prog.keyTypeAt (Tryz.prog.types.size+1) 146=true:=by kernel_rfl
 have h2:Tryz.prog.cellsOf 146=2:=by kernel_rfl
 have h3:Tryz.prog.cellsOf 3=1:=by kernel_rfl
 obtain⟨m,hm⟩:∃m,Tryz.prog.types.size=m+1:=⟨Tryz.prog.types.size-1,by have:0<Tryz.prog.types.size:=oC (by kernel_rfl);omega⟩;have hI:∀{x:Int},(Lit.int .i64 x).wf=true→Tryz.prog.keyLits (m+1) 3 [.int .i64 x]=some [.int .i64 x]:=fun{x} hx=>by
  unfold Program.keyLits;rw[underlying3];simp[hx]
 unfold keyOf;rw[underlying146];dsimp only;unfold Program.keyType;rw[h1,hm];have hf:(Value.agg #[.int .i64 a,.int .i64 b]).formed Tryz.prog 146=true:=by simp[Value.formed,underlying146,h2]
 rw[hf];unfold Program.keyLits;rw[underlying146];simp[Value.cells,h2,h3,hI ha,hI hb]
end Go.Proofs.YtolkmchicplaoaaGreat
namespace Go.aS
open Go.RowKit Go.Maps
open Go.WideElems (entry_then_store)
def SF (P:Program)(k e:TypeId)(q:IntKind)(b n:Nat)(f:Lit→Int):a_ where
 P w fp:=fp=[b]∧∃D:DataW Unit,w.ownsMap P k (plainElem P e) b n D∧IsMap D∧∀l,WideAt.IsKeyLit l→D.atKey l (.lit (.int q 0))= .lit (.int q (f l))
 fr h f hn:=⟨h.1,by obtain⟨D,h1,h2,h3⟩:=h.2;exact⟨D,qY h1 f (hn _ (by simp[h.1])),h2,h3⟩⟩
 lt h:=by rw[h.1];obtain⟨D,h1,_⟩:=h.2;simpa using h1.lt
def Sep.aj8 {w0 w Ts}(h:Sep w0 w Ts)(P)(k e:TypeId)(q:IntKind):Sep w0 (w.alloc (.map #[] 0)) (SF P k e q w.heap.size 0 (λ_=>0)::Ts):=
 h.push ((Fr.refl [] w).alloc _) (fp:=[w.heap.size]) ⟨rfl,_,World.ownsMap_made w P k _,isMap_empty,λx _=>rfl⟩ (by simp)
def y9 {P:Program}{k e t:TypeId}{q:IntKind}{b n:Nat}{f:Lit→Int}{w w0 Ts}(h:Sep w0 w Ts)(i:Nat)(hi:Ts[i]?=some (SF P k e q b n f))(K:Keyed P k)(ht:P.underlying t=some (.map k e))(he:P.underlying e=some (.int q))(hz:(zeroValue e).run P w= .ok (.int q 0) w)
 {key}{l:Lit}(hk:keyOf P k key=some l):(Instr.lookup t (.map (some b)) key false).run P w= .ok (.int q (f l)) w:=by
 obtain⟨fp,⟨_,D,h1,h2,h3⟩,_⟩:=h.get i hi;obtain⟨c,qZ,jT,Hx⟩:=h1.lookup_int K ht he hz hk;rw[h3 l (K.key hk)]at jT;have:f l=c:=by injection jT with hc;injection hc
 rw[this];exact qZ
open Classical in
noncomputable def RO (f:Lit→Int)(l:Lit)(u:Int):Lit→Int:=λz=>if z=l then u else f z
def YV (P:Program)(t k e:TypeId)(q:IntKind)(b n:Nat)(f:Lit→Int)(l:Lit)(st:Nat):a_ where
 P w fp:=fp=[b]∧b<w.heap.size∧∃Tk xq,w.heap[b]?=some (.map Tk xq)∧(∃D:DataW Unit,w.ownsMap P k (plainElem P e) b (n+1) D∧D.atKey l (.lit (.int q 0))= .lit (.int q (f l)))∧∀(w2:World) (u:Int),(Lit.int q u).wf=true→w2.heap[b]?=some (.map Tk xq)→∃w3,(Instr.entryStore t (.map (some b)) (goInt st) (.int q u)).run P w2= .ok () w3∧w2.grownBy w3 (some b)∧∃D:DataW Unit,w3.ownsMap P k (plainElem P e) b (n+1) D∧IsMap D∧∀z,WideAt.IsKeyLit z→D.atKey z (.lit (.int q 0))= .lit (.int q (RO f l u z))
 fr:=by
  rintro w1 w2 fp se h hf hn;obtain⟨h1,h2,Tk,c1,h3,⟨D,h4,h5⟩,h6⟩:=h;exact⟨h1,pP h2 hf.size,Tk,c1,(hf.block _ h2 (hn _ (by simp[h1]))).trans h3,⟨D,qY h4 hf (hn _ (by simp[h1])),h5⟩,h6⟩
 lt h:=by rw[h.1];simpa using h.2.1
def vT {P:Program}{t k e:TypeId}{q:IntKind}{b n st:Nat}{f:Lit→Int}{l:Lit}{w w0 Ts}(h:Sep w0 w Ts)(i:Nat)(hi:Ts[i]?=some (YV P t k e q b n f l st))(K:Keyed P k)(ht:P.underlying t=some (.map k e))(he:P.underlying e=some (.int q))(hz:(zeroValue e).run P w= .ok (.int q 0) w)
 {key}(hk:keyOf P k key=some l):(Instr.lookup t (.map (some b)) key false).run P w= .ok (.int q (f l)) w:=by
 obtain⟨fp,⟨_,_,Tk,c1,_,⟨D,h1,h3⟩,_⟩,_⟩:=h.get i hi;obtain⟨c,qZ,jT,Hx⟩:=h1.lookup_int K ht he hz hk;rw[h3]at jT;have:f l=c:=by injection jT with hc;injection hc
 rw[this];exact qZ
def vU {P}{t k e:TypeId}{q:IntKind}{b n st}{f:Lit→Int}{l:Lit}{w w0 Ts}(h:Sep w0 w Ts)(i)(hi:Ts[i]?=some (YV P t k e q b n f l st)){u}(hu:(Lit.int q u).wf=true):
 ∃w3,(Instr.entryStore t (.map (some b)) (goInt st) (.int q u)).run P w= .ok () w3∧Sep w0 w3 (Ts.set i (SF P k e q b (n+1) (RO f l u)))∧Fr [b] w w3:=by
 obtain⟨fp,⟨TV,h0,Tk,c1,hb,_,gx⟩,_,nk⟩:=h.get i hi;obtain⟨w3,qZ,Ug,D,h1,h2,h3⟩:=gx w u hu hb;have pe:Fr [b] w w3:=(Fr.refl [b] w).grown Ug (λk e=> .inl (by simpa using e.symm));exact⟨w3,qZ,nk _ w3 [b] ⟨rfl,D,h1,h2,h3⟩ (by rw[TV];exact pe) (λk hk=> .inl (by rw[TV];exact hk)),pe⟩
def vV {P}{t k e:TypeId}{q:IntKind}{b n}{f:Lit→Int}{l:Lit}{w w0 Ts}(h:Sep w0 w Ts)(i)(hi:Ts[i]?=some (SF P k e q b n f))(KL:WideMaps.KeyLaw P k)(ht:P.underlying t=some (.map k e))(he:P.underlying e=some (.int q))(hz:∀w,(zeroValue e).run P w= .ok (.int q 0) w)(hn:n<maxLen)
 {key}(hk:keyOf P k key=some l):
 ∃(v0:Value) (st:Nat) (w1:World),(Instr.mapEntry t (.map (some b)) key).run P w= .ok (.tuple #[v0,goInt st]) w1∧Sep w0 w1 (Ts.set i (YV P t k e q b n f l st))∧Fr [b] w w1:=by
 have K:=Keyed.of_law KL;obtain⟨fp,⟨TV,D,h1,h2,h3⟩,_,nk⟩:=h.get i hi;have tH:=h1.lt;have tp:(Lit.int q 0).wf=true:=by cases q<;>decide
 have PZ:=h1;obtain⟨es,clock,hb,F,hs,hD⟩:=PZ;obtain⟨v0,st,Tk,xq,qZ,hv,gx⟩:=entry_then_store KL ht hz hb F hk;have pe:Fr [b] w (ChangeMaps.setBlock w b (.map Tk xq)):=by
  refine(Fr.refl [b] w).grown (row:=some b) ⟨rfl,rfl,rfl,by simp[ChangeMaps.setBlock],λi _ hi=>ChangeMaps.heap_setBlock_other hb _ (λe=>hi (by rw[e]))⟩ (λk e=> .inl (by simpa using e.symm))
 have Jb:∃D1:DataW Unit,(ChangeMaps.setBlock w b (.map Tk xq)).ownsMap P k (plainElem P e) b (n+1) D1∧D1.atKey l (.lit (.int q 0))= .lit (.int q (f l)):=by
  obtain⟨c,Ge,jT,_⟩:=h1.lookup_int K ht he (hz w) hk;rw[h3 l (K.key hk)]at jT;have hc:f l=c:=by injection jT with hc;injection hc
  rcases K.find w hk es.toList F.keys with⟨g1,g2⟩|⟨j,e0,g1,g2,g3⟩
  ·have rR:(Instr.lookup t (.map (some b)) key false).run P w= .ok (.int q 0) w:=by
    simp[Instr.lookup,kD ht,yL hb,K.check w _ hk,g1,hz,Result.andThen]
   have Da:f l=0:=by
    rw[Ge]at rR;injection rR with hl3;injection hl3 with _ OF;omega
   have Ew:(Instr.mapEntry t (.map (some b)) key).run P w= .ok (.tuple #[.int q 0,goInt clock]) (ChangeMaps.setBlock w b (.map (es.push ⟨key,.int q 0,clock⟩) (clock+1))):=by
    simp[Instr.mapEntry,kD ht,yL hb,K.check w false hk,g1,hz,MapKept.run_setObj_map _ hb,Result.andThen,ChangeMaps.setBlock]
   have XZ:(Instr.mapUpdate t (.map (some b)) key (.int q 0)).run P w= .ok () (ChangeMaps.setBlock w b (.map (es.push ⟨key,.int q 0,clock⟩) (clock+1))):=by
    simp[Instr.mapUpdate,kD ht,yL hb,K.check w false hk,g1,MapKept.run_setObj_map _ hb,Result.andThen,ChangeMaps.setBlock]
   obtain⟨w',SG,dy,_⟩:=h1.update K ht hn hk (plainElem_int he tp);rw[XZ]at SG;rw[qZ]at Ew;injection Ew with _ hW;injection SG with _ Dr;rw[hW,Dr];refine⟨_,dy,?_⟩;rw[Da];exact atKey_put_same h2 (K.key hk) _ _
  ·have hj:es[j]?=some e0:=by simpa using g2
   have aj9:es.modify j (λe=>{e with key:=key})=es:=by
    apply Array.ext';rw[Array.toList_modify,ChangeMaps.modify_eq_set _ _ _ _ g2];have:({e0 with key:=key}:MapEntry)=e0:=by rw[←g3]
    rw[this];exact WideElems.set_self _ _ _ g2
   have Ew:(Instr.mapEntry t (.map (some b)) key).run P w= .ok (.tuple #[e0.val,goInt e0.born]) (ChangeMaps.setBlock w b (.map es clock)):=by
    simp[Instr.mapEntry,kD ht,yL hb,K.check w false hk,g1,hj,g3,K.stays w hk,aj9,MapKept.run_setObj_map _ hb,Result.andThen,ChangeMaps.setBlock]
   rw[qZ]at Ew;injection Ew with _ hW;rw[hW];refine⟨D,World.ownsMap.mono ⟨es,clock,CV hb _,F,hs,hD⟩ (Nat.le_succ n),?_⟩;rw[h3 l (K.key hk)]
 refine⟨v0,st,_,qZ,nk _ _ [b] ⟨rfl,?_,Tk,xq,CV hb _,Jb,λw2 u hu UM=>?_⟩ (by rw[TV];exact pe) (λk hk=> .inl (by rw[TV];exact hk)),pe⟩
 ·simpa[ChangeMaps.setBlock]using tH
 ·obtain⟨es',τ,YW,SG⟩:=gx w2 (.int q u) UM;obtain⟨w',hu4,dy,_⟩:=h1.update K ht hn hk (plainElem_int he hu);rw[SG]at hu4;injection hu4 with _ hW;rw[←hW]at dy;obtain⟨es2,as5,yU,F2,El,hD2⟩:=dy;rw[CV hb]at yU;injection yU with H8;injection H8 with e1 e2;subst e1 e2;refine⟨_,YW,⟨rfl,rfl,rfl,by simp[ChangeMaps.setBlock],λi _ hi=>ChangeMaps.heap_setBlock_other UM _ (λe=>hi (by rw[e]))⟩,_,⟨es',τ,CV UM _,F2,El,hD2⟩,h2.put _ _,λz iR=>?_⟩;unfold RO;by_cases ez:z=l
  ·subst ez;rw[aB rfl];exact atKey_put_same h2 (K.key hk) _ _
  ·rw[aq ez,atKey_put_other ez,h3 z iR]
