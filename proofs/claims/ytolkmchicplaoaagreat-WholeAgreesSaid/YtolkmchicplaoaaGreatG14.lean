/- A part of the proof. -/
import Derived.Test.YtolkmchicplaoaaGreatG13
set_option linter.all false
set_option maxHeartbeats 8000000
set_option maxRecDepth 100000
open Go.Proofs.Tryz
namespace Go.Proofs.YtolkmchicplaoaaGreat
open Go.RowKit Go.aS Go.aS.I_ Go.aS.Y Go.Maps Go.aS.C
def Eu (c:Y.cA)(mb:Nat)(lv:Value)(sw wd li:Int):List Value:=ae c++[O mb,lv,I sw,I wd,I li]
def ax6 {cs:List Value}(aD:cs.length=24)(t:List Value)(k:Nat)(hk:24≤k):(cs++t)[k]?=t[k-24]?:=by rw[gw (by omega),aD]
def rP {w b}{T:TypeId}{cs t}(h:cB w b T (cs++t)):w.rangeAt b 0 cs:=h.pre
def D6 {w w1 w2 X}(h:Fr [] w w1)(h2:Fr [X] w1 w2)(hX:w.heap.size≤X):Fr [] w w2:=
 ⟨h2.os.trans h.os,h2.tape.trans h.tape,h2.output.trans h.output,fT h.size h2.size,λk hk _=>(h2.block k (pP hk h.size) (by simp;omega)).trans (h.block k hk (by simp))⟩
def xx {w0 w R c}(aE:Y.Ok c){ab mb lv sw Gi li m}(kind i k)(hS:Sep w0 w (aJ ab 155 (Eu c mb lv sw Gi li)::dP mb m::R)):
 ba 69 #[O ab,I kind,I i,I k] w (.agg #[U (lW m (at_ c kind i k)).1.1,U (lW m (at_ c kind i k)).1.2]):=by
 have h_:=aa (λw'=>cx w' c aE kind i k);generalize at_ c kind i k=at9 at*;have yG:=aa (λw' vc vt h=>EC w' mb vc vt m at9 h);generalize(lW m at9)=pk at*;obtain⟨⟨p0,p1⟩,pb⟩:=pk;dsimp only at yG⊢;unfold aY at h_;unfold Eu at hS;have aD:(ae c).length=24:=rfl;generalize ae c=cs at*;have R5:=aa ((Fr.refl [] w).alloc (.cells #[U 0,U 0] 68));have HS:=aa (hS.new 68 [U 0,U 0]);clear hS;delta ba;go_in;go_wp2_with fail;generalize World.alloc _ _=w1 at HS R5⊢;generalize ak3:w.heap.size=rb at HS⊢;have Po:=aa ak3;clear ak3;have hA:=(HS.ar 1 rfl).drew;have eJ:=rP hA;have f24:=hA.aR aD 24 rfl rfl;refine gR ([11,12,16],[17]) [] (by kernel_rfl) ?_;refine gS (N:=8) [0,1,2,3,4,5,6,7,8,9,10] (by kernel_rfl) ⟨⟨_,Fr.refl _ _⟩,rfl⟩ ?_;simp only[zz];repeat(first|(refine ak 58 _ ab 0 cs _ rfl rfl rfl (aG eJ (by simp)) underlying58 rfl (by rw[aD];kernel_rfl) ?_;simp only[Act.put,aZ,aL,aN])|go_big_quiet_step (fail)|quiet_step (fail))
 refine ax ?_;clear hA eJ f24;have HS:=aa HS.drew;have R5:=aa R5.drew;generalize World.drew _=wd at HS R5⊢;have HF:=aa (Fr.refl [] wd);apply R4 (S:=λX wF=>Sep w0 wF (aJ X 68 [U p0,U p1]::aJ rb 68 [U 0,U 0]::aJ ab 155 (cs++[O mb,lv,I sw,I Gi,I li])::dP mb m::R)∧Fr [] w wF)
 ·intro HR;refine dN (N:=7) 11 16 (by kernel_rfl) rfl rfl ?_ ?_
  ·go_wp2_with fail;refine(h_.out _).kk λw9 hf=>?_;have HF:=aa (HF.trans hf);have HS:=aa (HS.c_ hf);clear hf;go_wp2;refine⟨⟨⟨_,(by exact HF.out)⟩,rfl⟩,?_⟩;refine dN (N:=6) 12 16 (by kernel_rfl) rfl rfl ?_ ?_
   ·obtain⟨_,vc,vt,hM⟩:=kY HS.out 2 rfl;go_wp2_with fail;refine(yG.out _ vc vt hM).kk λw9 hf=>?_;have HF:=aa (HF.trans hf);have HS:=aa (HS.c_ hf);clear hf;go_wp2;refine⟨⟨⟨_,(by exact HF.out)⟩,rfl⟩,?_⟩;clear hM;refine bP (N:=3) [13,14,15] (by kernel_rfl) ?_;simp only[zz];repeat(first|go_big_quiet_step (fail)|quiet_step (fail))
    refine ax ?_;refine bA (N:=2) 16 (by kernel_rfl) rfl ?_;go_wp2_with fail;have hf:=Fr.alloc HF.out (.cells ([U 0,U 0]).toArray 68);refine⟨⟨⟨_,(by exact hf)⟩,rfl⟩,?_⟩;have hS:=HS.new 68 ([U 0,U 0]);have XC:w.heap.size≤(w9).heap.size:=(R5.trans HF.out).size;have HF:=aa hf;clear hf;generalize(w9).heap.size=X at hS XC⊢;generalize World.alloc _ _=wn1 at hS HF⊢;have HS:=aa hS;clear hS;refine dK (N:=1) 17 (by kernel_rfl) rfl ?_;have oX:∀z9∈ [U p0,U p1],z9.oneCell'=true:=by simp[Value.oneCell']
    have MJ:=aa (R5.trans HF.out);go_wp2_with(refine aC HS.out 0 rfl [U p0,U p1] 68 _ _ rfl rfl rfl rfl rfl (by kernel_rfl) oX (λwA hA φ=>?_);simp only[zs]at hA);refine bP (N:=0) [18] (by kernel_rfl) ?_;simp only[zz];repeat(first|go_big_quiet_step (fail)|quiet_step (fail))
    refine ax ?_;refine step_done (by kernel_rfl) ?_;exact HR X _ ⟨hA,D6 MJ.out φ XC⟩
   ·
     go_wp2_with fail;have hf:=Fr.alloc HF.out (.cells ([U 0,U 0]).toArray 68);refine⟨⟨⟨_,(by exact hf)⟩,rfl⟩,?_⟩;have hS:=HS.new 68 ([U 0,U 0]);have XC:w.heap.size≤(w9).heap.size:=(R5.trans HF.out).size;have HF:=aa hf;clear hf;generalize(w9).heap.size=X at hS XC⊢;generalize World.alloc _ _=wn2 at hS HF⊢;have HS:=aa hS;clear hS;refine bA (N:=5) 12 (by kernel_rfl) rfl ?_;obtain⟨_,vc,vt,hM⟩:=kY HS.out 3 rfl;go_wp2_with fail;refine(yG.out _ vc vt hM).kk λw9 hf=>?_;have HF:=aa (HF.trans hf);have HS:=aa (HS.c_ hf);clear hf;go_wp2;refine⟨⟨⟨_,(by exact HF.out)⟩,rfl⟩,?_⟩;clear hM;refine bP (N:=2) [13,14,15] (by kernel_rfl) ?_;simp only[zz];repeat(first|go_big_quiet_step (fail)|quiet_step (fail))
     refine ax ?_;refine dK (N:=1) 17 (by kernel_rfl) rfl ?_;have oX:∀z9∈ [U p0,U p1],z9.oneCell'=true:=by simp[Value.oneCell']
     have MJ:=aa (R5.trans HF.out);go_wp2_with(refine aC HS.out 0 rfl [U p0,U p1] 68 _ _ rfl rfl rfl rfl rfl (by kernel_rfl) oX (λwA hA φ=>?_);simp only[zs]at hA);refine bP (N:=0) [18] (by kernel_rfl) ?_;simp only[zz];repeat(first|go_big_quiet_step (fail)|quiet_step (fail))
     refine ax ?_;refine step_done (by kernel_rfl) ?_;exact HR X _ ⟨hA,D6 MJ.out φ XC⟩
  ·
    go_wp2_with fail;have hf:=Fr.alloc HF.out (.cells ([U 0,U 0]).toArray 68);refine⟨⟨⟨_,(by exact hf)⟩,rfl⟩,?_⟩;have hS:=HS.new 68 ([U 0,U 0]);have XC:w.heap.size≤(wd).heap.size:=(R5.trans HF.out).size;have HF:=aa hf;clear hf;generalize(wd).heap.size=X at hS XC⊢;generalize World.alloc _ _=wn3 at hS HF⊢;have HS:=aa hS;clear hS;refine bA (N:=6) 11 (by kernel_rfl) rfl ?_;go_wp2_with fail;refine(h_.out _).kk λw9 hf=>?_;have HF:=aa (HF.trans hf);have HS:=aa (HS.c_ hf);clear hf;go_wp2;refine⟨⟨⟨_,(by exact HF.out)⟩,rfl⟩,?_⟩;refine bA (N:=5) 12 (by kernel_rfl) rfl ?_;obtain⟨_,vc,vt,hM⟩:=kY HS.out 3 rfl;go_wp2_with fail;refine(yG.out _ vc vt hM).kk λw9 hf=>?_;have HF:=aa (HF.trans hf);have HS:=aa (HS.c_ hf);clear hf;go_wp2;refine⟨⟨⟨_,(by exact HF.out)⟩,rfl⟩,?_⟩;clear hM;refine bP (N:=2) [13,14,15] (by kernel_rfl) ?_;simp only[zz];repeat(first|go_big_quiet_step (fail)|quiet_step (fail))
    refine ax ?_;refine dK (N:=1) 17 (by kernel_rfl) rfl ?_;have oX:∀z9∈ [U p0,U p1],z9.oneCell'=true:=by simp[Value.oneCell']
    have MJ:=aa (R5.trans HF.out);go_wp2_with(refine aC HS.out 0 rfl [U p0,U p1] 68 _ _ rfl rfl rfl rfl rfl (by kernel_rfl) oX (λwA hA φ=>?_);simp only[zs]at hA);refine bP (N:=0) [18] (by kernel_rfl) ?_;simp only[zz];repeat(first|go_big_quiet_step (fail)|quiet_step (fail))
    refine ax ?_;refine step_done (by kernel_rfl) ?_;exact HR X _ ⟨hA,D6 MJ.out φ XC⟩
 ·intro X wF h9;have HS:=aa h9.1;have HF:=aa h9.2;clear h9;have oX:∀z9∈ [U p0,U p1],z9.oneCell'=true:=by simp[Value.oneCell']
  have k0:=(HS.ar 0 rfl).cell 0;have k1:=(HS.ar 0 rfl).cell 1;simp only[zg]at k0 k1;have MJ:=HF;clear HF R5;have bQ:w.heap.size≤rb:=Nat.le_of_eq Po.out;go_wp2_with(refine aC HS.out 1 rfl [U p0,U p1] 68 _ _ rfl rfl rfl rfl rfl (by kernel_rfl) oX (λwA hA φ=>?_);simp only[zs]at hA;have HA:=aa hA;clear hA);refine aV (uO (P:=Tryz.prog) rfl _ _ rb 68 ([U p0,U p1]:List Value).toArray (0,0) _ rfl (HA.ar 1 rfl) underlying68 rfl (by kernel_rfl)) rfl ?_;exact⟨rfl,D6 MJ.out φ bQ⟩
def Jg (c:Y.cA)(p:Int):Int×Int×Int:=if p<0∨Y.size c≤p then(-1,0,0)else wh c p
def AH {c}(h:Y.Ok c)(p):lC c p (Jg c p).1 (Jg c p).2.1 (Jg c p).2.2:=by
 unfold Jg;by_cases hp:p<0∨Y.size c≤p
 ·rw[aB hp];exact JA c p hp
 ·rw[aq hp];obtain⟨kd,i,k,hi,he,ht⟩:=C1 h (p:=p) (by omega) (by omega);have e:=(zp h hi).1;rw[he]at e;rw[e];exact ht
end Go.Proofs.YtolkmchicplaoaaGreat
namespace Go.Proofs.YtolkmchicplaoaaGreat
open Go.aS Go.aS.I_ Go.aS.Y Go.aS.C
def uC (c:Y.cA)(m:M)(kd i k:Int):Int×Int:=(lW m (at_ c kd i k)).1
def j7 (c:Y.cA)(m:M):List Int:=(List.range 16).map (fun(k:Nat)=>(uC c m 10 k 0).1)
def Km (c:Y.cA)(m:M):Bool:=(List.range c.b.toNat).all (λb=>(uC c m 11 b 0).1≠1)
end Go.Proofs.YtolkmchicplaoaaGreat
namespace Go.Proofs.YtolkmchicplaoaaGreat
open Go.RowKit Go.aS Go.aS.I_ Go.aS.Y Go.Maps Go.aS.C
def Qu {w:World}{v:Value}{n:Nat}{xs:List Value}{e:TypeId}(h:w.ownsRow 0 e 1 v n xs):∃ad c,v= .slice ad n c∧((ad=none∧n=0∧c=0∧xs=[])∨∃q,ad=some q∧∀j u,xs[j]?=some u→w.cell? (q.add j)=some u):=by
 rcases bg h with⟨rfl,rfl⟩|⟨g,cap,rfl,_⟩
 ·exact⟨none,0,rfl,.inl ⟨rfl,rfl,rfl,nJ (by simpa using h.1)⟩⟩
 ·exact⟨_,_,rfl,.inr ⟨_,rfl,h.cells rfl⟩⟩
def vX {P}{ops:Array Oper}{rest}{op:Oper}{a w w0}{Q:Exit→Act→World→Prop}{Ts}(h:Sep w0 w Ts)(i){b}{T:TypeId}{cs}(hi:Ts[i]?=some (aJ b T cs))(o v)(ty:TypeId)(x y:Operand)(ho:op.op= .store ty x y)(mV:op.guard=none)
 (hx:a.eval x= .pointer (some ⟨b,o,none⟩))(hy:a.eval y=v)(hl:o+1≤cs.length)(qL:(P.info? ty).map (·.size)=some 1)(h1:v.oneCell'=true)
 (hk:∀w',Sep w0 w' (Ts.set i (aJ b T (cs.set o v)))→Fr [b] w w'→wpList P ops Q rest (a.put op.dst undef) w'):wpList P ops Q (op::rest) a w:=by
 refine wpList_plain mV λ_ hK=>?_;have ht:w.there b o 1:=(h.ar i hi).OK o 1 hl;have hc:v.cells=#[v]:=by cases v<;>first|rfl|cases h1
 have qZ:(storeVar ty ⟨b,o,none⟩ v).run P w= .ok () (w.setCells b o [v]):=by
  have:=run_storeCells_cells (P:=P) b o [v] 0 w (λj hj=>by simpa using(ht j (by simpa using hj)).1) (λj hj=>by simpa using(ht j (by simpa using hj)).2) (λx hx=>by simp at hx;subst hx;exact h1);cases hq:P.info? ty with
  |none=>simp[hq]at qL
  |some i2=>
   have hs:i2.size=1:=by simpa[hq]using qL
   simp only[qT]at this;simp[storeVar,sizeOf,typeInfo,hq,hc,hs,this]
 unfold Oper.wp execOp;simp only[ho,hx,hy,Instr.storeAt,Instr.sureAddr,lh,qQ,oD,qZ];refine hK _ _ (hk _ ?_ ?_)
 ·have:=h.set i hi o v;exact this
 ·exact Fr.setCells (by simp) _ o (Fr.refl _ _)
def ak4 (c:Y.cA)(m:M)(owner:Int):Int:=min (uC c m 5 owner 0).1 (cap c)
def Kn (c:Y.cA)(m:M)(owner:Int):Bool:=(List.range (ak4 c m owner).toNat).all (λk=>decide (0≤(uC c m 6 owner k).2∧(65536≤(uC c m 6 owner k).2∨(Jg c (uC c m 6 owner k).2).1≠11)))
def Nj {w0 w R c}(aE:Y.Ok c){ab mb lv sw Gi m nb}(oR:nb≤1000)(owner)(hlen:0≤(uC c m 5 owner 0).1)(XD:Kn c m owner=true)(hS:Sep w0 w (aJ ab 155 (Eu c mb lv sw Gi 0)::dP mb m::aU 0 26 1 lv nb (List.replicate nb (U 0))::R)):
 jh 102 #[O ab,I owner] w (I 0) w0 (aJ ab 155 (Eu c mb lv sw Gi 0)::dP mb m::aU 0 26 1 lv nb (List.replicate nb (U 0))::R):=by
 obtain⟨la,lc,rfl⟩:=hS.form 2 rfl;have yG:=aa (λw' (RR:List a_) kind i k (NZ:Sep w0 w' (aJ ab 155 (Eu c mb (.slice la nb lc) sw Gi 0)::dP mb m::RR))=>xx aE kind i k NZ);have Uh:=iI aE;have SV:=oP aE;have S3:0≤b_ c:=(bK aE).1|>λh=>by omega
 have S_:=aa (λw=>uY w c aE);have Xg:=aa (λw=>gL w c aE);have rG:=aa (λp=>AH aE p);obtain⟨x,hx⟩:∃x,(uC c m 5 owner 0).1=x:=⟨_,rfl⟩;have HX:=aa hx;obtain⟨cp,bY⟩:∃x,cap c=x:=⟨_,rfl⟩;obtain⟨lm,zE⟩:∃x,b_ c=x:=⟨_,rfl⟩;have wS:=aa XD;unfold Kn ak4 at wS;rw[hx]at hlen wS;rw[bY]at Uh S_ wS;rw[zE]at SV S3 Xg;clear hx XD bY zE;unfold lC aY at rG;unfold aY at S_ Xg;unfold Eu at hS yG⊢;have aD:(ae c).length=24:=rfl;generalize ae c=cs at*;have G9:(if cp<x then cp else x)=min x cp:=by split<;>omega
 have Xe:0≤min x cp∧min x cp≤cp:=by omega
 obtain⟨mn,MA⟩:∃n:Nat,min x cp=(n:Int):=⟨(min x cp).toNat,by omega⟩;rw[MA]at G9 Xe wS;have B6:IntKind.u64.wrap cp=cp:=lR cp (by omega) (by omega);have hmw:IntKind.i64.wrap (mn:Int)=mn:=bf _ (by omega) (by omega);clear MA;have HS:=aa hS;clear hS;delta jh;go_in;go_wp2_with fail;refine bW [(1,[0,1,4,5,6,7]),(2,[2]),(0,[3]),(3,[8]),(0,[9,10,11])] (by kernel_rfl) ?_;simp only[zz];have hm:=HS.drew;have eJ:=rP (hm.ar 0 rfl);refine af ?_;repeat(first|(refine ak 58 _ ab 0 cs _ rfl rfl rfl (aG eJ (by simp)) underlying58 rfl (by rw[aD];kernel_rfl) ?_;simp only[Act.put,aZ,aL,aN])|go_big_quiet_step (fail)|quiet_step (fail))
 refine ax ?_;refine aA ?_;go_wp2_with fail;refine(yG.out _ _ 5 owner 0 hm).kk λw1 hf=>?_;have HF:=aa hf;have HS:=aa (hm.c_ hf);clear hf hm;rw[show(lW m (at_ c 5 owner 0)).1.1=x from HX.out];go_wp2;refine⟨⟨⟨_,(by exact HF.out)⟩,rfl⟩,?_⟩;have Lt:=fun(w:World) (x y:Int)=>(dW w _ _ _ _ _ _ _ underlying68 rfl underlying26 rfl rfl:(Instr.field 68 (.agg #[U x,U y]) 0).run Tryz.prog w= .ok (U x) w);repeat(first|go_big_quiet_step(fail)|apply ax|apply af|apply ag|apply ah)
 refine ao ?_;go_wp2_with fail;refine(S_.out _).kq HS λw2 HS=>?_;go_wp2_with fail;repeat(first|go_big_quiet_step(fail)|apply ax|apply af|apply ag|apply ah)
 refine aj ?_;clear eJ Lt HX;go_wp2_with fail;go_loopg [27] mn (λg vi wr=>∃j:Nat,g+j=mn∧vi=I (j:Int)∧Sep w0 wr (aJ ab 155 (cs++[O mb,.slice la nb lc,I sw,I Gi,I 0])::dP mb m::aU 0 26 1 (.slice la nb lc) nb (List.replicate nb (U 0))::R))
 case atStart=>exact⟨0,by omega,rfl,HS.out⟩
 case round=>
  obtain⟨j,yy,rfl,iU⟩:=hrel;have HS:=aa iU;clear iU;by_cases hj:j<mn
  ·have s9:(j:Int)<(mn:Int):=by omega
   have hk:=oC (mC.1 wS.out j (oF.2 (by omega)));unfold uC at hk;go_wp2_with fail;refine(yG.out _ _ 6 owner j HS.out).kq HS λw3 HS=>?_;obtain⟨⟨p0,p1⟩,tK⟩:∃p,(lW m (at_ c 6 owner j)).1=p:=⟨_,rfl⟩;rw[tK]at hk⊢;clear tK;dsimp only at hk;obtain⟨A6,hk⟩:=hk;have HS:=aa (HS.new 68 [U p0,U p1]);dsimp only;have oX:∀z9∈ [U p0,U p1],z9.oneCell'=true:=by simp[Value.oneCell']
   have JV:65536≤p1∨IntKind.i64.wrap p1=p1:=by
    by_cases h5:65536≤p1
    ·exact .inl h5
    ·exact .inr (bf _ (by omega) (by omega))
   have HW1:=aa JV;have HK1:=aa hk;clear hk JV;go_wp2_with(refine dV 68 _ _ rfl _ _ rfl rfl rfl (by kernel_rfl) rfl (iX oX) ?_);all_goals(generalize World.alloc _ _=w4 at HS⊢;generalize w3.heap.size=eb at HS⊢)
   ·go_roundg (mn-(j+1))
    case measure=>omega
    case rel=>exact⟨j+1,by omega,by go_num,HS.tail⟩
   rename_i h5 _ _;have JV:IntKind.i64.wrap p1=p1:=by have:=HW1.out;omega
   have YX:(Jg c p1).1≠11:=by have:=HK1.out;omega
   have ak5:=aa (rG.out p1);generalize Jg c p1=pl at*;obtain⟨kd,pi,pk⟩:=pl;dsimp only at YX ak5;have d8:(kd !=11)=true:=by simpa using YX
   clear HK1 HW1 YX h5;refine bW [(1,[0,1,2,3,4,5,6]),(3,[7]),(0,[8,9,10,11,12,13,14])] (by kernel_rfl) ?_;simp only[zz];have hm:=HS.drew;have eJ:=rP (hm.ar 1 rfl);have k1:=(hm.ar 0 rfl).cell 1;simp only[zg]at k1;refine af ?_;repeat(first|(refine ak 58 _ ab 0 cs _ rfl rfl rfl (aG eJ (by simp)) underlying58 rfl (by rw[aD];kernel_rfl) ?_;simp only[Act.put,aZ,aL,aN])|go_big_quiet_step (fail)|quiet_step (fail))
   refine ax ?_;refine ao ?_;go_wp2_with fail;refine(ak5.out _).kk λw5 hf=>?_;have HS:=aa (hm.c_ hf);clear hf hm eJ k1;go_wp2_with fail;repeat(first|go_big_quiet_step(fail)|apply ax|apply af|apply ag|apply ah)
   refine aj ?_;go_wp2_with fail;go_wp2;go_roundg (mn-(j+1))
   case measure=>omega
   case rel=>exact⟨j+1,by omega,by go_num,HS.tail⟩
  ·obtain rfl:j=mn:=by omega
   clear wS hlen G9 Xe B6 hmw;have eJ:=rP (HS.ar 0 rfl);have f25:=(HS.ar 0 rfl).aR aD 25 rfl rfl;have f28:=(HS.ar 0 rfl).aR aD 28 rfl rfl;go_wp2_with fail;clear eJ f25 f28;go_loopg [11,76] nb (λg v11 vi wr=>∃i:Nat,g+i=nb∧v11=I 0∧vi=I (i:Int)∧Sep w0 wr (aJ ab 155 (cs++[O mb,.slice la nb lc,I sw,I Gi,I 0])::dP mb m::aU 0 26 1 (.slice la nb lc) nb (List.replicate nb (U 0))::R))
   case atStart=>exact⟨0,by omega,rfl,rfl,HS.out⟩
   case round=>
    obtain⟨i,hgi,rfl,rfl,iU⟩:=hrel;have HS:=aa iU;clear iU;by_cases hi:i<nb
    ·have SX:(i:Int)<(nb:Int):=by omega
     obtain⟨ad,c9,e9,qz⟩:=Qu (HS.row 2 rfl);obtain⟨rfl,-,rfl⟩:la=ad∧nb=nb∧lc=c9:=by simpa using e9
     rcases qz with⟨-,h0,-⟩|⟨q,rfl,xL⟩
     ·omega
     have hx:=xL i (U 0) (by rw[yK,aB hi]);clear xL e9;go_wp2;go_roundg (nb-(i+1))
     case measure=>omega
     case rel=>exact⟨i+1,by omega,rfl,by go_num,HS.out⟩
    ·obtain rfl:i=nb:=by omega
     have eJ:=rP (HS.ar 0 rfl);have f25:=(HS.ar 0 rfl).aR aD 25 rfl rfl;have f28:=(HS.ar 0 rfl).aR aD 28 rfl rfl;have d4:decide ((0:Int)>lm)=false:=cW (by omega);have nk:(cs++[O mb,.slice la i lc,I sw,I Gi,I 0]).set 28 (I 0)=cs++[O mb,.slice la i lc,I sw,I Gi,I 0]:=by
      rw[eD _ _ (by omega),aD];rfl
     go_wp2_with(first|(refine vX HS.out 0 rfl 28 (.int .i64 0) 3 _ _ rfl rfl rfl rfl (by simp[aD]) (by kernel_rfl) rfl (λw7 U5 UT=>?_);simp only[aL,aN,nk]at U5;have XE:=rP (U5.ar 0 rfl);have fl7:=(U5.ar 0 rfl).lt)|(refine wpList_load_mid rfl 58 _ rfl ab 0 rfl cs _ XE underlying58 rfl (by rw[aD];kernel_rfl) ?_));refine(Xg.out _).kk λw8 hf=>?_;have HS:=aa (U5.c_ hf);clear hf XE fl7 U5 UT;go_wp2;go_ret;exact⟨rfl,HS.out⟩
def AI {fp w0 b}{T:TypeId}{L}(h:cB w0 b T L)(hn:b∉fp)(o cs)(hs:∀j v,cs[j]?=some v→L[o+j]?=some v):∀w',(∃x:rS fp w0,w'=x.wd)→w'.rangeAt b o cs:=by
 intro w' hw j v hj;have h2:=bL h hn w' hw (o+j) v (hs j v hj);rwa [jF]at h2
def χ (c:Y.cA)(e:Ev):Bool:=decide ((Jg c e.op.a).1=0)&&decide (e.op.k=2)&&e.out.ok
structure Ko (c:Y.cA)(m:M)(e:Ev):Prop where
 err:err m.cells.length e.aw e.op=0
 out:m.told e.aw e.op=e.out
 kd:(Jg c e.op.a).1≠16
 nv:0≤e.op.nv∧e.op.nv≤18446744073709551615
 ln:χ c e=true→0≤(uC c (m.step e.aw e.op) 5 (e.op.nv%c.t) 0).1
 calm:χ c e=true→Kn c (m.step e.aw e.op) (e.op.nv%c.t)=true
def Gj (c:Y.cA)(e:Ev)(sw:Int):Int:=if χ c e=true then sw+1 else sw
def D7 (w a b o):(binOp .neq 84 (.agg #[U a,U b,.bool o]) (.agg #[U a,U b,.bool o])).run Tryz.prog w= .ok (.bool false) w:=by
 have h1:=underlying82;have h2:=underlying68;have h3:=underlying3;have h4:=underlying26;have h5:=underlying4;have h3o:=underlying84;have p2:Tryz.prog.stoodInHeld 68=false:=by kernel_rfl
 have p3o:Tryz.prog.stoodInHeld 84=false:=by kernel_rfl
 simp only[run_eql_struct,run_neq_struct];rw[run_equalIn_struct w 9999 84 _ _ (by unfold Program.fieldsOf;rw[h3o]) p3o];simp[Program.fieldsOf,h1,h2,h3,h4,h5,h3o,p2,p3o,Op.eqFields,go_sem]
def Nk {w0 w R c}(aE:Y.Ok c){ab mb lv sw}(N3:0≤sw∧sw≤1000000){m}(rm:m.trace.length≤100000){nb}(oR:nb≤1000)(e:Ev)(he:Ko c m e)(hS:Sep w0 w (aJ ab 155 (Eu c mb lv sw 0 0)::dP mb m::aU 0 26 1 lv nb (List.replicate nb (U 0))::R)):
 jh 73 #[O ab,.agg (kO e).toArray] w (I 0) w0 (aJ ab 155 (Eu c mb lv (Gj c e sw) 0 0)::dP mb (m.step e.aw e.op)::aU 0 26 1 lv nb (List.replicate nb (U 0))::R):=by
 have VQ:=aa (λw' (Ts:List a_) (i:Nat) (F:List Nat) (h:Sep w0 w' Ts) (hi:Ts[i]?=some (dP mb m)) (hF:(dP mb m).P w' F)=>CI h i hi hF rm e.aw e.op);have R7:=aa (fun(h:χ c e=true) (w':World) (RR:List a_) hS=>Nj (w0:=w0) (w:=w') (R:=RR) aE (ab:=ab) (mb:=mb) (lv:=lv) (sw:=sw+1) (Gi:=0) (m:=m.step e.aw e.op) (nb:=nb) oR (e.op.nv%c.t) (he.ln h) (he.calm h) hS);have rG:=aa (AH aE e.op.a);have gF:=aa (λw=>bM w c);have HE:=aa he;obtain⟨hE1,Lw,Ly,hE4,-,-⟩:=he;have nU:=aE.t1;have hb8:=aE.t8;clear aE;unfold Gj;obtain⟨D5,hds⟩:∃d,χ c e=d:=⟨_,rfl⟩;have HDS:=aa hds;rw[hds]at R7⊢;rw[hE1,Lw]at VQ;have Ei:=aa (show∀w' F,(dP mb m).P w' F→∀qe,Fr [] w' qe→(dP mb m).P qe F from λw' F hF qe f=>CH hF f);have HNI:=aa (λw' (Ts:List a_) (h:Sep w0 w' Ts) (i j:Nat) (yN:i≠j) (hi:Ts[i]?=some (dP mb m)) (k:Nat) (T:TypeId) (cs:List Value) (hj:Ts[j]?=some (aJ k T cs)) (F:List Nat) (hF:(dP mb m).P w' F)=>CG h yN hi hj hF);have HFP:=aa (λw' (Ts:List a_) (h:Sep w0 w' Ts) (i:Nat) (hi:Ts[i]?=some (dP mb m))=>R6 h hi);generalize m.step e.aw e.op=m2 at*;obtain⟨aw,⟨ψ,oa,ov,os,nv,ns⟩,⟨t0,t1,t2⟩⟩:=e;generalize V5:dP mb m=MT at*;clear V5;have NL:=Int.emod_nonneg nv (show c.t≠0 by omega);have Kz:=uM nv (show 0<c.t by omega);have VA:Int.tmod nv c.t=nv%c.t:=jR hE4.1;have fS:=aa (λw=>eS c w);dsimp only at R7;obtain⟨q,ZP⟩:∃q,nv%c.t=q:=⟨_,rfl⟩;rw[ZP]at R7 NL Kz VA;clear ZP;have B6:=lR c.t (by omega) (by omega);have UM:IntKind.i64.wrap q=q:=bf _ (by omega) (by omega);have as7:¬c.t=0:=by omega
 unfold lC aY at rG;unfold aY at gF;generalize Xo:c.t=tn at*;clear Xo NL Kz nU hb8;generalize fB:db c=cf at*;clear fB;unfold Eu at hS R7⊢;unfold su ni at VQ;dsimp only at VQ rG hE4;have R8:∀z9∈kO ⟨aw,⟨ψ,oa,ov,os,nv,ns⟩,⟨t0,t1,t2⟩⟩,z9.oneCell'=true:=lM _;unfold kO at R8⊢;dsimp only at R8⊢;have aD:(ae c).length=24:=rfl;generalize ae c=cs at*;have HS:=aa (hS.new 86 [I aw,I ψ,I oa,U ov,U os,U nv,U ns,U t0,U t1,.bool t2]);clear hS;delta jh;go_in;go_wp2_with fail;generalize World.alloc _ _=w3 at HS⊢;generalize w.heap.size=eb at HS⊢;have HD:=HS.drew;obtain⟨F,hF⟩:=HFP.out _ _ HD 2 rfl;have XH:=HNI.out _ _ HD 2 0 (by decide) rfl _ _ _ rfl F hF;have Lz:=HNI.out _ _ HD 2 1 (by decide) rfl _ _ _ rfl F hF;have JO:=aa hF;clear hF;have GR:=(HS.ar 0 rfl).drew;have q0:=GR.cell 0;have q1:=GR.cell 1;have f25:=(HS.ar 1 rfl).aR aD 24 rfl rfl;simp only[Nat.reduceSub,zg]at q0 q1;have Jb:=AI GR XH 1 [I ψ,I oa,U ov,U os,U nv,U ns] (λj v hj=>by
  have hj6:j<6:=(dE.1 hj).1;obtain rfl|rfl|rfl|rfl|rfl|rfl:j=0∨j=1∨j=2∨j=3∨j=4∨j=5:=by omega
  all_goals exact hj)
 refine gR ([8,12],[13]) F (by kernel_rfl) ?_;refine gS (N:=7) [0,1,2,3,4,5,6,7] (by kernel_rfl) ⟨⟨_,Fr.refl _ _⟩,rfl⟩ ?_;simp only[zz];repeat(first|(refine ak 82 _ eb 1 [I ψ,I oa,U ov,U os,U nv,U ns] _ rfl rfl rfl Jb underlying82 rfl (by kernel_rfl) ?_;simp only[Act.put,aZ,zs])|go_big_quiet_step (fail)|quiet_step (fail))
 refine ax ?_;clear q0 q1 f25 GR XH Lz Jb;have HS:=aa HD;clear HD;generalize w3.drew=wd at*;apply R4 (S:=λX wF=>Sep w0 wF (aJ X 84 [U t0,U t1,.bool t2]::aJ eb 86 [I aw,I ψ,I oa,U ov,U os,U nv,U ns,U t0,U t1,.bool t2]::aJ ab 155 (cs++[O mb,lv,I sw,I 0,I 0])::dP mb m2::aU 0 26 1 lv nb (List.replicate nb (U 0))::R))
 ·intro HR;refine dN (N:=6) 8 12 (by kernel_rfl) rfl rfl ?_ ?_
  ·go_wp2_with fail;refine(VQ.out _ _ 2 _ HS.out rfl JO.out).mono ?_;rintro e w7 ⟨rfl,hS,hf⟩;have HF:=aa hf;clear hf;simp only[zs]at hS;have HS:=aa (hS.new 84 [U 0,U 0,.bool false]);clear hS;go_wp2;refine⟨⟨⟨_,HF.out⟩,rfl⟩,?_⟩;refine bP (N:=3) [9,10,11] (by kernel_rfl) ?_;simp only[zz];repeat(first|go_big_quiet_step (fail)|quiet_step (fail))
   refine ax ?_;refine bA (N:=2) 12 (by kernel_rfl) rfl ?_;go_wp2;refine⟨⟨⟨_,HF.alloc _⟩,rfl⟩,?_⟩;generalize w7.heap.size=X at HS⊢;refine dK (N:=1) 13 (by kernel_rfl) rfl ?_;go_wp2_with(refine aC HS.out 0 rfl [U t0,U t1,.bool t2] 84 _ _ rfl rfl rfl rfl rfl (by kernel_rfl) (by simp[Value.oneCell']) (λwA hA _=>?_);have HS:=aa hA;clear hA);refine bP (N:=0) [14] (by kernel_rfl) ?_;simp only[zz];repeat(first|go_big_quiet_step (fail)|quiet_step (fail))
   refine ax ?_;refine step_done (by kernel_rfl) ?_;simp only[zs]at HS;exact HR X _ HS.out
  ·go_wp2_with fail;have XK:=aa (HS.new 84 [U 0,U 0,.bool false]);have K2:=aa ((Fr.refl F wd).alloc (.cells #[U 0,U 0,.bool false] 84));have LB:=aa (Ei.out _ _ JO.out _ ((Fr.refl [] wd).alloc (.cells #[U 0,U 0,.bool false] 84)));refine⟨⟨⟨_,K2.out⟩,rfl⟩,?_⟩;generalize wd.heap.size=X at XK⊢;refine bA (N:=5) 8 (by kernel_rfl) rfl ?_;go_wp2_with fail;refine(VQ.out _ _ 3 _ XK.out rfl LB.out).mono ?_;rintro e w7 ⟨rfl,hS,hf⟩;have HF:=aa (K2.trans hf);clear hf;have HS:=aa hS;clear hS;simp only[zs]at HS;go_wp2;refine⟨⟨⟨_,HF.out⟩,rfl⟩,?_⟩;refine bP (N:=2) [9,10,11] (by kernel_rfl) ?_;simp only[zz];repeat(first|go_big_quiet_step (fail)|quiet_step (fail))
   refine ax ?_;refine dK (N:=1) 13 (by kernel_rfl) rfl ?_;go_wp2_with(refine aC HS.out 0 rfl [U t0,U t1,.bool t2] 84 _ _ rfl rfl rfl rfl rfl (by kernel_rfl) (by simp[Value.oneCell']) (λwA hA _=>?_);have HS:=aa hA;clear hA);refine bP (N:=0) [14] (by kernel_rfl) ?_;simp only[zz];repeat(first|go_big_quiet_step (fail)|quiet_step (fail))
   refine ax ?_;refine step_done (by kernel_rfl) ?_;simp only[zs]at HS;exact HR X _ HS.out
 clear HS JO;intro X wF hS;have HS:=aa hS;clear hS;have cC:=HS.ar 1 rfl;have Jb:wF.rangeAt eb 7 [U t0,U t1,.bool t2]:=λj v hj=>by
  have hj6:j<3:=(dE.1 hj).1;rw[cC.cell];obtain rfl|rfl|rfl:j=0∨j=1∨j=2:=by omega
  all_goals exact hj
 have kL:=λw=>D7 w t0 t1 t2;go_wp2_with(first|refine ay 84 _ rfl rfl _ 0 rfl [U t0,U t1,.bool t2] _ (HS.ar 0 rfl).range underlying84 rfl (by kernel_rfl) ?_|refine ay 84 _ rfl rfl _ 7 rfl [U t0,U t1,.bool t2] _ Jb underlying84 rfl (by kernel_rfl) ?_);clear cC Jb kL;have hm:=HS.drew;have eJ:=rP (hm.ar 2 rfl);have q2:=(hm.ar 1 rfl).cell 2;simp only[zg]at q2;refine bW [(1,[0,1,2,3,4,5,6]),(3,[7]),(0,[8,9,10,11,12,13,14])] (by kernel_rfl) ?_;simp only[zz];refine af ?_;repeat(first|(refine ak 58 _ ab 0 cs _ rfl rfl rfl (aG eJ (by simp)) underlying58 rfl (by rw[aD];kernel_rfl) ?_;simp only[Act.put,aZ,aL,aN])|go_big_quiet_step (fail)|quiet_step (fail))
 refine ax ?_;refine ao ?_;go_wp2_with fail;refine(rG.out _).kk λw5 hf=>?_;have HS:=aa (hm.c_ hf);clear hf hm eJ q2;obtain⟨⟨kd,pi,pk⟩,iG⟩:∃p,Jg c oa=p:=⟨_,rfl⟩;have ak6:Hid (D5=(decide (kd=0)&&decide (ψ=2)&&t2)):=aa (by rw[←HDS.out];unfold χ;dsimp only;rw[iG]);dsimp only at Ly⊢;rw[iG]at Ly⊢;dsimp only at Ly⊢;have GI:(kd==16)=false:=by simpa using Ly
 obtain⟨b1,nU⟩:∃b,(kd==0)=b:=⟨_,rfl⟩;obtain⟨b2,yU⟩:∃b,(ψ==2)=b:=⟨_,rfl⟩;have V6:Hid (D5=(b1&&b2&&t2)):=aa (by rw[ak6.out,←nU,←yU];rfl);clear iG hE1 Lw Ly ak6;go_wp2_with fail;repeat(first|go_big_quiet_step(fail)|quiet_step(fail)|apply ax|apply af|apply ag|apply ah)
 refine aj ?_;have k8:=(HS.ar 0 rfl).cell 2;have q1:=(HS.ar 1 rfl).cell 1;simp only[zg]at k8 q1;cases b1 with
 |false=>
  have Ji:D5=false:=V6.out;subst Ji;go_wp2;go_ret;exact⟨rfl,HS.tail.tail⟩
 |true=>
  cases b2 with
  |false=>
   have Ji:D5=false:=V6.out;subst Ji;go_wp2;go_ret;exact⟨rfl,HS.tail.tail⟩
  |true=>
   cases t2 with
   |false=>
    have Ji:D5=false:=V6.out;subst Ji;go_wp2;go_ret;exact⟨rfl,HS.tail.tail⟩
   |true=>
    have Ji:D5=true:=V6.out;subst Ji;obtain⟨f26,Pu⟩:=(HS.ar 2 rfl).fe aD 26 rfl rfl;have JV:IntKind.i64.wrap (sw+1)=sw+1:=bf _ (by omega) (by omega);have nk:(cs++[O mb,lv,I sw,I 0,I 0]).set 26 (I (sw+1))=cs++[O mb,lv,I (sw+1),I 0,I 0]:=by
     rw[eD _ _ (by omega),aD];rfl
    have h9:=HS.set 2 rfl 26 (I (sw+1));rw[nk]at h9;simp only[zs]at h9;have HS:=aa h9;clear h9;go_wp2_with fail;generalize World.setCell _ _ _=w6 at HS⊢;clear f26 Pu k8 q1 nk JV;have hm:=HS.drew;have eJ:=rP (hm.ar 2 rfl);have q5:=(hm.ar 1 rfl).cell 5;simp only[zg]at q5;refine bW [(1,[0,1,2,3,4,5,6,7,8]),(2,[9]),(0,[10,11,12,13]),(3,[14]),(0,[15])] (by kernel_rfl) ?_;simp only[zz];refine af ?_;repeat(first|(refine ak 58 _ ab 0 cs _ rfl rfl rfl (aG eJ (by simp)) underlying58 rfl (by rw[aD];kernel_rfl) ?_;simp only[Act.put,aZ,aL,aN])|go_big_quiet_step (fail)|quiet_step (fail))
    refine ax ?_;refine aA ?_;go_wp2_with fail;refine(gF.out _).kk λw7 hf=>?_;have HF:=aa hf;have HS:=aa (hm.c_ hf);clear hf hm eJ q5;go_wp2;refine⟨⟨⟨_,(by exact HF.out)⟩,rfl⟩,?_⟩;have kB:=λw=>(fS.out w).1;refine ag ?_;repeat(first|go_big_quiet_step (fail)|quiet_step (fail))
    refine ax ?_;refine ao ?_;go_wp2_with fail;refine(R7.out trivial _ _ HS.tail.tail).kh λw8 HS=>?_;go_wp2_with fail;repeat(first|go_big_quiet_step(fail)|quiet_step(fail)|apply ax|apply af|apply ag|apply ah)
    refine aj ?_;go_wp2;go_ret;exact⟨rfl,HS.out⟩
end Go.Proofs.YtolkmchicplaoaaGreat
namespace Go.Proofs.YtolkmchicplaoaaGreat
open Go.RowKit Go.aS Go.aS.I_ Go.aS.Y Go.Maps
def V7 {w0 w R mb roots}(hl:roots.length=16)(hS:Sep w0 w (S2 mb::R)):
 Calls Tryz.prog 101 #[.agg (roots.map (Value.int .u64)).toArray,.map (some mb)] w λr w'=>∃sb,r= .returned (O sb)∧Sep w0 w' (rA sb roots::R):=by
 have dQ:=aa (λw' RR sb mb hS=>pX (w0:=w0) (w:=w') (R:=RR) (sb:=sb) (mb:=mb) (roots:=roots) hl hS);obtain⟨r0,r1,r2,r3,r4,r5,r6,r7,r8,r9,u6,tF,tG,B_,Ca,Cb,rfl⟩:∃r0 r1 r2 r3 r4 r5 r6 r7 r8 r9 u6 tF tG B_ Ca Cb,roots=[r0,r1,r2,r3,r4,r5,r6,r7,r8,r9,u6,tF,tG,B_,Ca,Cb]:=by
  match roots,hl with
  |[r0,r1,r2,r3,r4,r5,r6,r7,r8,r9,u6,tF,tG,B_,Ca,Cb],_=>exact⟨_,_,_,_,_,_,_,_,_,_,_,_,_,_,_,_,rfl⟩
 unfold Bf at dQ;simp only[zm,za]at dQ⊢;clear hl;have K:=int_keyed (P:=Tryz.prog) underlying26;have Lx:=@run_makeMap Tryz.prog;have dS:=hS.new 134 [U r0,U r1,U r2,U r3,U r4,U r5,U r6,U r7,U r8,U r9,U u6,U tF,U tG,U B_,U Ca,U Cb];have hB:=dS.ar 0 rfl;have q0:=hB.cell 0;have q1:=hB.cell 1;have q2:=hB.cell 2;have q3:=hB.cell 3;have q4:=hB.cell 4;have q5:=hB.cell 5;have q6:=hB.cell 6;have q7:=hB.cell 7;have q8:=hB.cell 8;have q9:=hB.cell 9;have q10:=hB.cell 10;have q11:=hB.cell 11;have q12:=hB.cell 12;have q13:=hB.cell 13;have q14:=hB.cell 14;have q15:=hB.cell 15;simp only[zg]at q0 q1 q2 q3 q4 q5 q6 q7 q8 q9 q10 q11 q12 q13 q14 q15;have de:=wW dS;have eH:=de.new 136 [U r0,U r1,U r2,U r3,U r4,U r5,U r6,U r7,U r8,U r9,U u6,U tF,U tG,U B_,U Ca,U Cb,.map (some (w.alloc (.cells ([U r0,U r1,U r2,U r3,U r4,U r5,U r6,U r7,U r8,U r9,U u6,U tF,U tG,U B_,U Ca,U Cb]:List Value).toArray 134)).heap.size)];have HS:=aa eH;clear dS de eH hS hB;simp only[cG]at HS;go_in;have dy:=uk HS.out 3 rfl;go_wp2_with(at_range;refine wpList_range_own _ rfl _ 133 rfl 26 160 K underlying133 R0 mb 0 _ rfl dy ?_;intro w5 PS nP wK);have HS:=aa (HS.c_ ((Fr.refl [] _).grown nP (λk e=>by cases e)));clear dy nP wK q0 q1 q2 q3 q4 q5 q6 q7 q8 q9 q10 q11 q12 q13 q14 q15 Lx;refine gQ 1 ?_;rw[dA];go_wp2_with(refine wpList_next_ranges _ rfl _ rfl 26 K R0 Y2 id (λkey kl hk=>by obtain⟨x,hx,_⟩:=Maps.keyOf_int_inv underlying26 hk;exact⟨x,hx⟩) (λv _ _=>⟨v,rfl⟩) mb _ 0 _ _ _ rfl PS ?_ ?_);rotate_left
 ·intros
  rename_i hR _ _ _ _ _;exact absurd (show(none:Option (DataW Unit×List MemPlace))=some _ from ‹R0 _=some _›) (by simp)
 intro _ S3;go_wp2;go_ret;refine⟨_,rfl,?_⟩;have h6:=dQ.out _ _ _ _ HS.out;exact((h6.pull 2 rfl).tail.pull 1 rfl).tail
end Go.Proofs.YtolkmchicplaoaaGreat
namespace Go.Proofs.YtolkmchicplaoaaGreat
open Go.RowKit Go.aS Go.aS.I_ Go.aS.Y Go.Maps Go.aS.C
def N7 (c:Y.cA)(m:M)(j:Nat):List Int:=(List.range 16).map (fun(k:Nat)=>if k<j then(uC c m 10 k 0).1 else 0)
def R9 (c m):(N7 c m 0).map (Value.int .u64)=List.replicate 16 (U 0):=by
 unfold N7;simp only[Nat.not_lt_zero,if_false];rfl
def R_ (c m j)(hj:j<16):((N7 c m j).map (Value.int .u64)).set j (U (uC c m 10 j 0).1)=(N7 c m (j+1)).map (Value.int .u64):=by
 unfold N7;apply List.ext_getElem
 ·simp
 ·intro i h1 h2;rw[so];simp only[List.getElem_map,List.getElem_range];split
  ·rename_i e;subst e;rw[aB (by omega)]
  ·by_cases h:i<j
   ·rw[aB h,aB (by omega)]
   ·rw[aq h,aq (by omega)]
def V8 (c m):N7 c m 16=j7 c m:=by
 unfold N7 j7;apply List.ext_getElem
 ·simp
 ·intro i h1 h2;simp only[List.getElem_map,List.getElem_range];rw[aB (by simpa using h1)]
def V9 (c m j):((N7 c m j).map (Value.int .u64)).length=16:=by unfold N7;simp
def Jj:(Tryz.prog.info? 134).map (·.size)=some 16:=by kernel_rfl
def Jk {w0 w R c}(aE:Y.Ok c){ab mb lv sw Gi li m}(Gk:Km c m=true)(hS:Sep w0 w (aJ ab 155 (Eu c mb lv sw Gi li)::dP mb m::R)):
 Calls Tryz.prog 72 #[O ab] w λr w'=>∃sb,r= .returned (O sb)∧Sep w0 w' (rA sb (j7 c m)::aJ ab 155 (Eu c mb lv sw Gi li)::dP mb m::R):=by
 have yG:=aa (λw' (RR:List a_) kind i k (NZ:Sep w0 w' (aJ ab 155 (Eu c mb lv sw Gi li)::dP mb m::RR))=>xx aE kind i k NZ);have gF:=aa (λw=>bM w c);have Kb:Hid (∀w,(Instr.field 31 (db c) 1).run Tryz.prog w= .ok (I c.b) w):=aa (λw=>dW w _ _ _ _ _ _ _ underlying31 rfl underlying3 rfl rfl);have nU:=aE.b1;have kF:=aE.nZ;have GQ:=aa (λw' (RR:List a_) (eb:Nat) hS=>V7 (w0:=w0) (w:=w') (R:=RR) (mb:=eb) (roots:=j7 c m) (by unfold j7;simp) hS);have C4:Hid (∀b:Nat,(b:Int)<c.b→(lW m (at_ c 11 b 0)).1.1≠1):=aa (λb hb=>by
  have:=mC.1 Gk b (oF.2 (by omega));exact oC this)
 have SE:Hid (∀j:Nat,j<16→((N7 c m j).map (Value.int .u64)).set j (U (lW m (at_ c 10 j 0)).1.1)=(N7 c m (j+1)).map (Value.int .u64)):=aa (λj hj=>R_ c m j hj);have HRZ:=aa (R9 c m);have Kl:=aa (V8 c m);have HRL:=aa (V9 c m);have Lx:=@run_makeMap Tryz.prog;clear aE Gk;unfold Eu at hS yG⊢;unfold aY at gF;generalize N7 c m=RT at*;have aD:(ae c).length=24:=rfl;generalize ae c=cs at*;obtain⟨bn,VL⟩:∃n:Nat,(n:Int)=c.b:=⟨c.b.toNat,by omega⟩;have HBN:=aa VL;rw[←VL]at nU kF C4 Kb;clear VL;generalize fB:db c=cf at*;clear fB;have HS:=aa hS;clear hS;have HS:=aa (HS.new 134 (List.replicate 16 (U 0)));rw[←HRZ.out]at HS;go_in;go_wp2_with fail;rw[show([Value.int IntKind.u64 0,Value.int IntKind.u64 0,Value.int IntKind.u64 0,Value.int IntKind.u64 0,Value.int IntKind.u64 0,Value.int IntKind.u64 0,Value.int IntKind.u64 0,Value.int IntKind.u64 0,Value.int IntKind.u64 0,Value.int IntKind.u64 0,Value.int IntKind.u64 0,Value.int IntKind.u64 0,Value.int IntKind.u64 0,Value.int IntKind.u64 0,Value.int IntKind.u64 0,Value.int IntKind.u64 0]:List Value)=(RT 0).map (Value.int .u64)from HRZ.out.symm]at*;generalize World.alloc _ _=w1 at HS⊢;generalize w.heap.size=rb at HS⊢;go_loopg [9] 16 (λg vi wr=>∃j:Nat,g+j=16∧vi=I (j:Int)∧Sep w0 wr (aJ rb 134 ((RT j).map (Value.int .u64))::aJ ab 155 (cs++[O mb,lv,I sw,I Gi,I li])::dP mb m::R))
 case atStart=>exact⟨0,by omega,rfl,HS.out⟩
 case round=>
  obtain⟨j,yy,rfl,iU⟩:=hrel;have HS:=aa iU;clear iU;by_cases hj:j<16
  ·have s9:(j:Int)<16:=by omega
   go_wp2_with fail;refine(yG.out _ _ 10 j 0 HS.tail).kq HS λw3 HS=>?_;have yR:=SE.out j hj;generalize(lW m (at_ c 10 j 0)).1=p at yR⊢;obtain⟨p0,p1⟩:=p;dsimp only at yR⊢;have Lt:=fun(w:World)=>(dW w _ _ _ _ _ _ _ underlying68 rfl underlying26 rfl rfl:(Instr.field 68 (.agg #[U p0,U p1]) 0).run Tryz.prog w= .ok (U p0) w);have hl:=HRL.out j;have hB:=HS.ar 0 rfl;have gj:=hB.az j;have fj:=hB.cell j;rw[cy (show j<((RT j).map (Value.int .u64)).length by omega)]at fj;have h9:=HS.set 0 rfl j (U p0);simp only[aL]at h9;rw[yR]at h9;have HS:=aa h9;clear h9 hB yR;go_wp2_with fail;generalize World.setCell _ _ _=w4 at HS⊢;clear gj fj hl Lt;go_roundg (16-(j+1))
   case measure=>omega
   case rel=>exact⟨j+1,by omega,by go_num,HS.out⟩
  ·obtain rfl:j=16:=by omega
   have HS:=aa (wW HS.out);have eJ:=rP (HS.ar 2 rfl);go_wp2_with(refine ay 58 _ rfl rfl _ 0 rfl cs _ eJ underlying58 rfl (by rw[aD];kernel_rfl) ?_);generalize World.alloc _ _=w4 at HS⊢;generalize wr.heap.size=eb at HS⊢;refine(gF.out _).kq HS λw5 HS=>?_;clear eJ;have Be:=Kb.out;go_wp2_with fail;go_loopg [26] bn (λg vi wr=>∃j:Nat,g+j=bn∧vi=I (j:Int)∧Sep w0 wr (S2 eb::aJ rb 134 ((RT 16).map (Value.int .u64))::aJ ab 155 (cs++[O mb,lv,I sw,I Gi,I li])::dP mb m::R))
   case atStart=>exact⟨0,by omega,rfl,HS.out⟩
   case round=>
    obtain⟨i,hgi,rfl,iU⟩:=hrel;have HS:=aa iU;clear iU Be;by_cases hi:i<bn
    ·have SX:(i:Int)<(bn:Int):=by omega
     go_wp2_with fail;refine(yG.out _ _ 11 i 0 HS.tail.tail).kq HS λw6 HS=>?_;have kL:=C4.out i SX;generalize(lW m (at_ c 11 i 0)).1=p at kL⊢;obtain⟨p0,p1⟩:=p;dsimp only at kL⊢;have Lt:=fun(w:World)=>(dW w _ _ _ _ _ _ _ underlying68 rfl underlying26 rfl rfl:(Instr.field 68 (.agg #[U p0,U p1]) 0).run Tryz.prog w= .ok (U p0) w);have e1:(p0 !=1)=true:=by simpa using kL
     go_wp2_with fail;clear Lt;go_roundg (bn-(i+1))
     case measure=>omega
     case rel=>exact⟨i+1,by omega,by go_num,HS.out⟩
    ·obtain rfl:i=bn:=by omega
     have hl:=HRL.out 16;go_wp2_with(refine ay 134 _ rfl rfl _ 0 rfl ((RT 16).map (Value.int .u64)) _ (HS.ar 1 rfl).range underlying134 rfl (by rw[hl];exact Jj) ?_);clear hl;rw[Kl.out];refine(GQ.out _ _ eb HS.out).mono ?_;rintro r w7 ⟨sb,rfl,h7⟩;have HS:=aa h7;clear h7;go_wp2;go_ret;exact⟨sb,rfl,(HS.pull 1 rfl).tail⟩
end Go.Proofs.YtolkmchicplaoaaGreat
namespace Go.aS
def Nl {T:Type}{en:T→List Value}{n}(hn:∀x,(en x).length=n)(l){i}(hi:i<l.length)(x':T)(h:en x'=en l[i]):flat en (l.set i x')=flat en l:=by
 refine oO hn l (by rw[ck hn,cF]) λk hk q hq=>?_;rw[cI hn (l.set i x') k (by rw[cF];exact hk) q hq,so];split
 ·rename_i e;subst e;rw[h]
 ·rfl
end Go.aS
namespace Go.Proofs.YtolkmchicplaoaaGreat
open Go.RowKit Go.aS Go.aS.I_ Go.aS.Y
def D8 {L i}(hi:i<L.length){j}(hj:j<13):(flat eI L)[i*13+j]?=(eI L[i])[j]?:=cI jD L i hi j hj
def Jl {w0 w R}{c:Y.cA}{ai:List (List In)}{b mb:Nat}{H pv lZ iV iP aO}(hE:SH (ae c) mb pv H){L:List (TQ×Z.Th)}{s:Z.St}(hL:L.map (·.2)=s.iB){t:Nat}(lK:t<L.length){m:K.Me}{k k2:K.St}(jT:L[t].2.at_=some (m,k)){ri:Nat}(NW:L[t].2.record=ri)(nR:ri<s.aM.length)
 (h:Sep w0 w (fG iP (if k2.next=13 then(if k2.alone then s.rows++(K.rows k2).map (fk s.aK)++[⟨(if k2.fresh then s.aK else L[t].2.looked),t,L[t].2.count,k2.rc,k2.rv,[]⟩]else s.rows++(K.rows k2).map (fk s.aK))else s.rows++(K.rows k2).map (fk s.aK))::iq c m pv aO L[t].1.ab k2::aJ b 106 (H++[lZ,I s.aK,iV,iP])::
  aU 0 132 5 lZ L.length (if k2.next=13 then(if k2.fresh then(flat gp L).set (t*5+4) (I s.aK)else flat gp L).set (t*5+1) (.pointer none)else(if k2.fresh then(flat gp L).set (t*5+4) (I s.aK)else flat gp L))::
  aU 0 55 13 iV s.aM.length (if k2.next=13 then((((flat eI s.aM).set (ri*13+9) (I (s.aM[ri].steps+1))).set (ri*13+8) (I s.aK)).set (ri*13+10) (.bool true)|>.set (ri*13+11) (I k2.rc)).set (ri*13+12) (U k2.rv)else(flat eI s.aM).set (ri*13+9) (I (s.aM[ri].steps+1)))::
  dP mb s.mem::Aw L[t].1.cv L[t].2.calls::cM ((L.map (vK c pv aO)).eraseIdx t)::kJ pv aO ai::R)):
 Sep w0 w (dx c ai b (Z.told t m k2 s)::R):=by
 have ox:Z.iO s t=L[t].2:=by
  unfold Z.iO;rw[cO,vL hL lK];rfl
 have hrD:s.aM.getD ri Z.Hm=s.aM[ri]:=by rw[cO,cy nR];rfl
 have as8:(L.map (vK c pv aO)).length=L.length:=dD _;have VA:t<(L.map (vK c pv aO)).length:=by rw[as8];exact lK
 have hX4:(if k2.fresh then(flat gp L).set (t*5+4) (I s.aK)else flat gp L)=flat gp (L.set t (L[t].1,{L[t].2 with at_:=some (m,k2),looked:=if k2.fresh then s.aK else L[t].2.looked})):=by
  cases hf:k2.fresh with
  |true=>
   simp only[if_true];refine nD iD L lK (by decide) _ _ ?_;unfold gp Rv;rw[jT];rfl
  |false=>
   simp only[wD,if_false];refine(Nl iD L lK _ ?_).symm;unfold gp Rv;rw[jT]
 have hR9:(flat eI s.aM).set (ri*13+9) (I (s.aM[ri].steps+1))=flat eI (s.aM.set ri {s.aM[ri]with steps:=s.aM[ri].steps+1}):=nD jD s.aM nR (by decide) _ _ rfl;rw[hX4,hR9]at h;unfold Z.told;rw[ox];dsimp only;rw[NW,dU,hrD];by_cases yo:k2.next=13
 ·rw[aB yo]at h⊢;simp only[aB yo]at h;have tM:(flat gp (L.set t (L[t].1,{L[t].2 with at_:=some (m,k2),looked:=if k2.fresh then s.aK else L[t].2.looked}))).set (t*5+1) (.pointer none)=flat gp (L.set t (L[t].1,{L[t].2 with at_:=none,looked:=if k2.fresh then s.aK else L[t].2.looked})):=by
   have h1:=nD iD (L.set t (L[t].1,{L[t].2 with at_:=some (m,k2),looked:=if k2.fresh then s.aK else L[t].2.looked})) (i:=t) (by rw[cF];exact lK) (j:=1) (by decide) (.pointer none) (L[t].1,{L[t].2 with at_:=none,looked:=if k2.fresh then s.aK else L[t].2.looked}) (by rw[wy];rfl);rw[h1,qU]
  rw[tM]at h;have pD:∀(x y:Z.Rec) (j:Nat) (v:Value),j<13→eI y=(eI x).set j v→(flat eI (s.aM.set ri x)).set (ri*13+j) v=flat eI (s.aM.set ri y):=by
   intro x y j v hj he;have h1:=nD jD (s.aM.set ri x) (i:=ri) (by rw[cF];exact nR) (j:=j) hj v y (by rw[wy];exact he);rw[h1,qU]
  rw[pD {s.aM[ri]with steps:=s.aM[ri].steps+1} {s.aM[ri]with steps:=s.aM[ri].steps+1,NN:=s.aK} 8 _ (by decide) rfl,pD {s.aM[ri]with steps:=s.aM[ri].steps+1,NN:=s.aK} {s.aM[ri]with steps:=s.aM[ri].steps+1,NN:=s.aK,done:=true} 10 _ (by decide) rfl,pD {s.aM[ri]with steps:=s.aM[ri].steps+1,NN:=s.aK,done:=true} {s.aM[ri]with steps:=s.aM[ri].steps+1,NN:=s.aK,done:=true,rc:=k2.rc} 11 _ (by decide) rfl,pD {s.aM[ri]with steps:=s.aM[ri].steps+1,NN:=s.aK,done:=true,rc:=k2.rc} {s.aM[ri]with steps:=s.aM[ri].steps+1,NN:=s.aK,done:=true,rc:=k2.rc,rv:=k2.rv} 12 _ (by decide) rfl]at h;refine tA (lZ:=lZ) (iV:=iV) (iP:=iP) (aO:=aO) (s:=_) (L:=L.set t (L[t].1,{L[t].2 with at_:=none,looked:=if k2.fresh then s.aK else L[t].2.looked})) hE (by rw[kE,hL,←NW]<;>rfl) ?_;have h1:=(h.pull 1 rfl).tail;have h2:Sep w0 w (Aw L[t].1.cv L[t].2.calls::NK::_::_::_::_::_::_::_::R):=h1.ud.pull 6 rfl;have h3:Sep w0 w (vK c pv aO (L[t].1,{L[t].2 with at_:=none,looked:=if k2.fresh then s.aK else L[t].2.looked})::_::_::_::_::_::_::_::R):=Sep.sy h2;have h4:Sep w0 w (cM (L.map (vK c pv aO)|>.set t (vK c pv aO (L[t].1,{L[t].2 with at_:=none,looked:=if k2.fresh then s.aK else L[t].2.looked})))::_::_::_::_::_::_::R):=Sep.ON VA ((h3.pull 6 rfl).pull 1 rfl);have h5:=((((((h4.pull 6 rfl).pull 2 rfl).pull 5 rfl).pull 5 rfl).pull 6 rfl).pull 6 rfl);unfold Es;rw[kE];simp only[cF];exact h5
 ·rw[aq yo]at h⊢;simp only[aq yo]at h;refine tA (lZ:=lZ) (iV:=iV) (iP:=iP) (aO:=aO) (s:=_) (L:=L.set t (L[t].1,{L[t].2 with at_:=some (m,k2),looked:=if k2.fresh then s.aK else L[t].2.looked})) hE (by rw[kE,hL,←NW]<;>rfl) ?_;have h2:Sep w0 w (Aw L[t].1.cv L[t].2.calls::iq c m pv aO L[t].1.ab k2::_::_::_::_::_::_::_::R):=(h.pull 1 rfl).pull 6 rfl;have h3:Sep w0 w (vK c pv aO (L[t].1,{L[t].2 with at_:=some (m,k2),looked:=if k2.fresh then s.aK else L[t].2.looked})::_::_::_::_::_::_::_::R):=Sep.sy h2;have h4:Sep w0 w (cM (L.map (vK c pv aO)|>.set t (vK c pv aO (L[t].1,{L[t].2 with at_:=some (m,k2),looked:=if k2.fresh then s.aK else L[t].2.looked})))::_::_::_::_::_::_::R):=Sep.ON VA ((h3.pull 6 rfl).pull 1 rfl);have h5:=((((((h4.pull 6 rfl).pull 2 rfl).pull 5 rfl).pull 5 rfl).pull 6 rfl).pull 6 rfl);unfold Es;rw[kE];simp only[cF];exact h5
def V_ {w0 w R c ai b s}(t)(h0:Z.idle s t=true∨65536≤s.aK)(hS:Sep w0 w (dx c ai b s::R)):
 jh 31 #[O b,I t] w (.bool false) w0 (dx c ai b s::R):=by
 have XL:=Ay t hS;obtain⟨H,mb,pv,lZ,iV,iP,aO,L,hE,hL,h⟩:=kr hS;have HQ:=aa hS;have HE:=aa hE;unfold Es at h;have HS:=aa h;clear hS hE hL h;generalize Z.idle s t=id at*;cases id with
 |true=>
  delta jh;go_in;go_wp2_with fail;refine XL.mono ?_;rintro r w1 ⟨rfl,hf⟩;have HQ:=aa (HQ.c_ hf);clear hf;go_wp2;go_ret;exact⟨rfl,HQ.out⟩
 |false=>
  have h1:65536≤s.aK:=by
   rcases h0 with h0|h0
   ·cases h0
   ·exact h0
  clear h0;delta jh;go_in;go_wp2_with fail;refine XL.mono ?_;rintro r w1 ⟨rfl,hf⟩;have HQ:=aa (HQ.c_ hf);have HS:=aa (HS.c_ hf);clear hf;generalize s.aK=pk at*;have f27:=(HS.ar 0 rfl).aR HE.len 27 rfl rfl;go_wp2;go_ret;exact⟨rfl,HQ.out⟩
def Sa {c}(aE:Y.Ok c){ai}(hp:PI ai){n0}(uX:n0≤1000000000000000){p rn mem}(A6:0≤p)(GJ:p<65536)
 (mu:MU mem)(now:(mem.at 0).2≤n0+p){t}(sg:t<8){u}(Et:TI c ai (p+1) rn t u){m k}(jT:u.at_=some (m,k))(Ki:KI c ai m p k)(hlen:∀y,k.b=some y→(B.entries c y).length≤65536):
 oY m.call.prog m.call.args ai∧(0≤m.aw∧m.aw≤1000)∧W.U_ (Z.o3 (mem.told t (Z.nN (K.ask c m k).1))).v∧W.U_ (Z.o3 (mem.told t (Z.nN (K.ask c m k).1))).s∧KI c ai m (p+1) (K.tell c ai m (Z.o3 (mem.told t (Z.nN (K.ask c m k).1))) k)∧((K.tell c ai m (Z.o3 (mem.told t (Z.nN (K.ask c m k).1))) k).eV=true→(K.tell c ai m (Z.o3 (mem.told t (Z.nN (K.ask c m k).1))) k).b≠none):=by
 obtain⟨a1,a2,a3,a4,a5,a6,a7,a8⟩:=Et.at_ m k jT;have N4:=mu.told (t:Int) (Z.nN (K.ask c m k).1);have h2:k.next=2→(mem.told t (Z.nN (K.ask c m k).1)).s≤4611686018427387904:=by
  intro e;have e2:(Z.nN (K.ask c m k).1).a=0:=by
   show(K.ask c m k).1.a=0;unfold K.ask;rw[aq (by omega),aq (by omega),aB e];exact vQ (c:=c)
  unfold C.M.told;split
  ·rw[e2];show(mem.at (Int.toNat 0)).2≤_;rw[Int.toNat_zero];omega
  ·show(0:Int)≤_;omega
 exact⟨a3.me hp,by omega,N4.1,N4.2,Ki.tell aE (a3.me hp) _ N4.1 N4.2 h2 hlen,Rt Ki _ a6⟩
structure XM (w0:World)(b mb kb t gt n tc gr rn rc:Nat)(pk:Int)(H XS RX:List Value)(iP:Value)(KT D_ ZT MT XN:a_)(RR:List a_)(pv:Value)(aO:List Value)(ai:List (List In))(op:List Value)(ab:Bool)(t0 t1:Int)(t2:Bool)(er:Int)(PN:World→Prop):Prop where
 ask:∀w' Q,Sep w0 w' (KT::Q)→Calls Tryz.prog 60 #[O kb] w' λr qe=>r= .returned (.tuple #[.agg op.toArray,.bool ab])∧Fr [] w' qe
 Pw:∀w' (Ts:List a_) (i:Nat) (F:List Nat),Sep w0 w' Ts→Ts[i]?=some MT→MT.P w' F→Calls Tryz.prog 61 #[O mb,I (t:Int),.agg op.toArray] w' λr qe=>r= .returned (.tuple #[.agg #[U t0,U t1,.bool t2],I er])∧Sep w0 qe (Ts.set i XN)∧Fr F w' qe
 tell:∀w' Q,(∀qe,Sep w0 qe Q→cL qe pv aO ai)→Sep w0 w' (KT::Q)→Calls Tryz.prog 62 #[O kb,.agg #[U t0,U t1,.bool t2]] w' λr qe=>r=E∧Sep w0 qe (D_::Q)
 told:∀w',Sep w0 w' (D_::aJ b 106 (H++[.slice (some ⟨gt,0,none⟩) n tc,I pk,.slice (some ⟨gr,0,none⟩) rn rc,iP])::aU 0 132 5 (.slice (some ⟨gt,0,none⟩) n tc) n XS::aU 0 55 13 (.slice (some ⟨gr,0,none⟩) rn rc) rn RX::ZT::XN::RR)→
  Calls Tryz.prog 63 #[O b,I (t:Int),.pointer (some ⟨gt,t*5,none⟩)] w' λr qe=>r=E∧PN qe
 fpF:∀w' (Ts:List a_) (i:Nat),Sep w0 w' Ts→Ts[i]?=some MT→∃F,MT.P w' F∧∀(j k:Nat) ty cs,i≠j→Ts[j]?=some (aJ k ty cs)→k∉F
 fpM:∀w' qe F,MT.P w' F→Fr [] w' qe→MT.P qe F
 one:∀v∈op,v.oneCell'=true
 len:op.length=6
def Sb {w0 R}{c:Y.cA}(aE:Y.Ok c){ai:List (List In)}(hp:PI ai){n0:Int}(uX:n0≤1000000000000000){p:Int}{s:Z.St}(tK:s.aK=p+1)(A6:0≤p)(GJ:p<65536)
 (mu:MU s.mem)(now:(s.mem.at 0).2≤n0+p)(trace:(s.mem.trace.length:Int)≤p)(t8:s.iB.length≤8)(rows:(s.rows.length:Int)≤9*p)(aM:(s.aM.length:Int)≤p+1)(news:∀r∈s.rows,r.news.length≤8)(steps:∀r∈s.aM,0≤r.steps∧r.steps≤p)(th:∀(t:Nat) u,s.iB[t]?=some u→TI c ai (p+1) s.aM.length t u)
 {L:List (TQ×Z.Th)}(hL:L.map (·.2)=s.iB){t:Nat}(lK:t<L.length){m:K.Me}{k:K.St}(jT:L[t].2.at_=some (m,k))(Ki:KI c ai m p k)(hlen:∀y,k.b=some y→(B.entries c y).length≤65536)
 {b mb:Nat}{H pv iP aO}(hE:SH (ae c) mb pv H){gt tc gr rc ri:Nat}(NW:L[t].2.record=ri)(nR:ri<s.aM.length):
 XM w0 b mb L[t].1.ab t gt L.length tc gr s.aM.length rc s.aK H (flat gp L) (flat eI s.aM) iP (iq c m pv aO L[t].1.ab k) (iq c m pv aO L[t].1.ab (K.tell c ai m (Z.o3 (s.mem.told t (Z.nN (K.ask c m k).1))) k)) (fG iP s.rows) (dP mb s.mem) (dP mb (s.mem.step t (Z.nN (K.ask c m k).1)))
  (Aw L[t].1.cv L[t].2.calls::cM ((L.map (vK c pv aO)).eraseIdx t)::kJ pv aO ai::R) pv aO ai (eF (K.ask c m k).1) (K.ask c m k).2 (s.mem.told t (Z.nN (K.ask c m k).1)).v (s.mem.told t (Z.nN (K.ask c m k).1)).s (s.mem.told t (Z.nN (K.ask c m k).1)).ok (C.err s.mem.cells.length t (Z.nN (K.ask c m k).1))
  (λw'=>SI c ai n0 (Z.ig c ai t s)∧Sep w0 w' (dx c ai b (Z.ig c ai t s)::R)):=by
 have tH:s.iB.length=L.length:=by rw[←hL,dD]
 have Jf:s.iB[t]?=some L[t].2:=vL hL lK;have Et:=th t _ Jf;obtain⟨hm,DS,hv,hs,nf,as9⟩:=Sa aE hp uX A6 GJ mu now (by omega) Et jT Ki hlen;have mJ:=SI.ig aE hp uX tK A6 GJ mu now trace t8 rows aM news steps th Jf jT Ki hlen;have gx:Z.ig c ai t s=Z.told t m (K.tell c ai m (Z.o3 (s.mem.told t (Z.nN (K.ask c m k).1))) k) {s with mem:=s.mem.step t (Z.nN (K.ask c m k).1)}:=by
  unfold Z.ig;have ox:Z.iO s t=L[t].2:=by unfold Z.iO;rw[cO,Jf];rfl
  rw[ox,jT]
 have Xo:=Et.count;have fu:=CB aE nf;refine⟨λw' Q hS=>Rp aE hm DS Ki hS,λw' Ts i F hS hi hF=>CI hS i hi hF (by omega) (t:Int) (Z.nN (K.ask c m k).1),λw' Q hP hS=>MW aE hm hP (N:=p) (by omega) Ki _ hv hs hS,λw' hS=>?_,λw' Ts i hS hi=>?_,λw' qe F hF f=>CH hF f,by unfold eF;simp[Value.oneCell'],rfl⟩
 ·have Pn:(flat gp L).length=L.length*5:=ck iD L;have kS:∀j,j<5→(flat gp L)[t*5+j]?=(gp L[t])[j]?:=λj hj=>cI iD L t lK j hj;have q1:(flat gp L)[t*5+1]?=some (O (L[t].1.ab)):=by rw[kS 1 (by decide)];unfold gp Rv;rw[jT];rfl
  have q2:(flat gp L)[t*5+2]?=some (I (ri:Int)):=by rw[kS 2 (by decide),←NW];rfl
  have q3:(flat gp L)[t*5+3]?=some (I L[t].2.count):=by rw[kS 3 (by decide)];rfl
  have q4:(flat gp L)[t*5+4]?=some (I L[t].2.looked):=by rw[kS 4 (by decide)];rfl
  have q9:(flat eI s.aM)[ri*13+9]?=some (I s.aM[ri].steps):=by rw[D8 nR (by decide)];rfl
  have Zo:=steps _ (cJ nR);refine(Rx aE nf as9 hE (by omega) (by omega) q1 q2 q3 q4 nR q9 (ck jD _) hS).mono ?_;rintro r w2 ⟨e,Z8,h2⟩;refine⟨e,mJ,?_⟩;rw[gx];exact Jl (s:={s with mem:=s.mem.step t (Z.nN (K.ask c m k).1)}) hE hL lK jT NW nR h2
 ·obtain⟨F,hF⟩:=R6 hS hi;exact⟨F,hF,λj q ty cs yN hj=>CG hS yN hi hj hF⟩
def Kp {A:Prop}{G S:Nat→World→Prop}(h:(∀X wF,S X wF→G X wF)→A)(x:∀X wF,S X wF→G X wF):A:=h x
def Wa {w0 w R c H b mb pv lZ iV iP aO ai L s t}(ht:t<L.length){m k}(jT:L[t].2.at_=some (m,k))(h:Sep w0 w (Es H c b mb pv lZ iV iP aO ai L s++R)):
 Sep w0 w (iq c m pv aO L[t].1.ab k::aJ b 106 (H++[lZ,I s.aK,iV,iP])::aU 0 132 5 lZ L.length (flat gp L)::aU 0 55 13 iV s.aM.length (flat eI s.aM)::fG iP s.rows::dP mb s.mem::Aw L[t].1.cv L[t].2.calls::cM ((L.map (vK c pv aO)).eraseIdx t)::kJ pv aO ai::R):=by
 have h1:=xm (Ax ht h);rw[jT]at h1;dsimp only at h1;exact(((((((((h1.pull 8 rfl).pull 3 rfl).pull 2 rfl).pull 5 rfl).pull 8 rfl).pull 8 rfl).pull 8 rfl).pull 8 rfl).pull 8 rfl)
def Nm {w0 w R c H b mb pv lZ iV iP aO ai L s t}(ht:t<L.length)(jT:L[t].2.at_=none)(h:Sep w0 w (Es H c b mb pv lZ iV iP aO ai L s++R)):
 Sep w0 w (aJ b 106 (H++[lZ,I s.aK,iV,iP])::aU 0 132 5 lZ L.length (flat gp L)::aU 0 55 13 iV s.aM.length (flat eI s.aM)::Aw L[t].1.cv L[t].2.calls::fG iP s.rows::dP mb s.mem::cM ((L.map (vK c pv aO)).eraseIdx t)::kJ pv aO ai::R):=by
 have h1:=xm (Ax ht h);rw[jT]at h1;dsimp only at h1;have h2:=(h1.pull 1 rfl).tail;exact((((((((h2.pull 7 rfl).pull 2 rfl).pull 4 rfl).pull 7 rfl).pull 4 rfl).pull 7 rfl).pull 7 rfl).pull 7 rfl)
def Wb {w0 w R}{c:Y.cA}(aE:Y.Ok c){ai:List (List In)}(hp:PI ai){n0:Int}(uX:n0≤1000000000000000){b:Nat}{s:Z.St}(hI:SI c ai n0 s){t:Nat}{u:Z.Th}(hu:s.iB[t]?=some u)(jT:u.at_=none){x:K.Call}{xs:List K.Call}(hc:u.calls=x::xs)(tK:s.aK<65536)
 {L:List (TQ×Z.Th)}(hL:L.map (·.2)=s.iB)(DT:t<L.length)(e2:L[t].2=u){mb:Nat}{H pv iP iV cv aO}(hE:SH (ae c) mb pv H){gt tc kb:Nat}
 (h:Sep w0 w (iq c ⟨t,u.count+1,x⟩ pv aO kb (K.new ai ⟨t,u.count+1,x⟩)::aJ b 106 (H++[.slice (some ⟨gt,0,none⟩) L.length tc,I (s.aK+1),iV,iP])::aU 0 132 5 (.slice (some ⟨gt,0,none⟩) L.length tc) L.length (((((flat gp L).set (t*5) cv).set (t*5+3) (I (u.count+1))).set (t*5+1) (O kb)).set (t*5+2) (I s.aM.length))::
  aU 0 55 13 iV (s.aM.length+1) (flat eI (s.aM++[⟨t,u.count+1,x,s.aK+1,0,0,false,0,0⟩]))::Aw cv xs::fG iP s.rows::dP mb s.mem::cM ((L.map (vK c pv aO)).eraseIdx t)::kJ pv aO ai::R)):
 ∃(gr rc:Nat) (KT D_ XN CT:a_) (XS RX op:List Value) (ab:Bool) (t0 t1:Int) (t2:Bool) (er:Int),iV= .slice (some ⟨gr,0,none⟩) (s.aM.length+1) rc∧XS[t*5+1]?=some (O kb)∧
  XM w0 b mb kb t gt L.length tc gr (s.aM.length+1) rc (s.aK+1) H XS RX iP KT D_ (fG iP s.rows) (dP mb s.mem) XN (CT::cM ((L.map (vK c pv aO)).eraseIdx t)::kJ pv aO ai::R) pv aO ai op ab t0 t1 t2 er (λw'=>SI c ai n0 (Z.ig c ai t (Z.dI ai t {s with aK:=s.aK+1}))∧Sep w0 w' (dx c ai b (Z.ig c ai t (Z.dI ai t {s with aK:=s.aK+1}))::R))∧
  Sep w0 w (KT::aJ b 106 (H++[.slice (some ⟨gt,0,none⟩) L.length tc,I (s.aK+1),.slice (some ⟨gr,0,none⟩) (s.aM.length+1) rc,iP])::aU 0 132 5 (.slice (some ⟨gt,0,none⟩) L.length tc) L.length XS::aU 0 55 13 (.slice (some ⟨gr,0,none⟩) (s.aM.length+1) rc) (s.aM.length+1) RX::fG iP s.rows::dP mb s.mem::CT::cM ((L.map (vK c pv aO)).eraseIdx t)::kJ pv aO ai::R):=by
 have A6:=hI.aK;have tm:=hI.aM;have lK:=(dE.1 hu).1;obtain⟨u2,XZ,BF,Ew,Gb⟩:=hI.begun hu jT hc;have ox:Z.iO {s with aK:=s.aK+1} t=u:=by unfold Z.iO;rw[cO,hu];rfl
 have eh:u.calls.headD ⟨0,[]⟩=x:=by rw[hc];rfl
 have etl:u.calls.tail=xs:=by rw[hc];rfl
 have hX:((((flat gp L).set (t*5) cv).set (t*5+3) (I (u.count+1))).set (t*5+1) (O kb)).set (t*5+2) (I s.aM.length)=flat gp (L.set t (⟨cv,kb⟩,{Z.begun ai t u with record:=s.aM.length})):=by
  have hl:∀y:TQ×Z.Th,t<(L.set t y).length:=λy=>by rw[cF];exact DT
  have h0:(flat gp L).set (t*5) cv=flat gp (L.set t (⟨cv,L[t].1.ab⟩,u)):=nD iD L DT (j:=0) (by decide) cv (⟨cv,L[t].1.ab⟩,u) (by
   unfold gp Rv;rw[e2,jT];rfl)
  have h1:=nD iD (L.set t (⟨cv,L[t].1.ab⟩,u)) (hl _) (j:=3) (by decide) (I (u.count+1)) (⟨cv,L[t].1.ab⟩,{u with count:=u.count+1}) (by rw[wy];unfold gp Rv;dsimp only;rw[jT];rfl);rw[qU]at h1;have h2:=nD iD (L.set t (⟨cv,L[t].1.ab⟩,{u with count:=u.count+1})) (hl _) (j:=1) (by decide) (O kb) (⟨cv,kb⟩,Z.begun ai t u) (by rw[wy];unfold gp Rv Z.begun;dsimp only;rw[jT];rfl);rw[qU]at h2;have h3:=nD iD (L.set t (⟨cv,kb⟩,Z.begun ai t u)) (hl _) (j:=2) (by decide) (I s.aM.length) (⟨cv,kb⟩,{Z.begun ai t u with record:=s.aM.length}) (by rw[wy];rfl);rw[qU]at h3;rw[h0,h1,h2,h3]
 rw[hX]at h;obtain⟨L1,LC⟩:∃L1,L.set t ((⟨cv,kb⟩:TQ),{Z.begun ai t u with record:=s.aM.length})=L1:=⟨_,rfl⟩;have AS:L1.length=L.length:=by rw[←LC,cF]
 have AU:t<L1.length:=by omega
 have uF:L1[t]=((⟨cv,kb⟩:TQ),{Z.begun ai t u with record:=s.aM.length}):=by subst LC;rw[wy]
 have ec:{Z.begun ai t u with record:=s.aM.length}.calls=xs:=etl;have eat:L1[t].2.at_=some (⟨t,u.count+1,x⟩,K.new ai ⟨t,u.count+1,x⟩):=by rw[uF];unfold Z.begun;rw[eh]
 have yU:(Z.dI ai t {s with aK:=s.aK+1}).iB=s.iB.set t {Z.begun ai t u with record:=s.aM.length}:=by
  unfold Z.dI Z.EX;rw[ox]
 have YY:(Z.dI ai t {s with aK:=s.aK+1}).aM=s.aM++[⟨t,u.count+1,x,s.aK+1,0,0,false,0,0⟩]:=by
  unfold Z.dI;rw[ox,eh]
 have hbp:(Z.dI ai t {s with aK:=s.aK+1}).aK=s.aK+1:=rfl;have S4:(Z.dI ai t {s with aK:=s.aK+1}).mem=s.mem:=rfl;have uG:(Z.dI ai t {s with aK:=s.aK+1}).rows=s.rows:=rfl;generalize Z.dI ai t {s with aK:=s.aK+1}=s2 at*;have w_:L1.map (·.2)=s2.iB:=by rw[←LC,yU,kE,hL]
 have nR:s2.aM.length=s.aM.length+1:=by rw[YY];simp
 have Δ:(L1.map (vK c pv aO)).eraseIdx t=(L.map (vK c pv aO)).eraseIdx t:=by
  rw[←LC,kE,List.eraseIdx_set_eq]
 obtain⟨a1,a2,a3,a4,a5,a6,a7,a8⟩:=(Gb t _ XZ).at_ _ _ BF;obtain⟨ra,rc,rfl⟩:=h.form 3 rfl;obtain⟨gr,rfl⟩:∃gr,ra=some ⟨gr,0,none⟩:=by
  rcases bg (h.row 3 rfl)with⟨e1,e3⟩|⟨gb,cap,e1,_⟩
  ·omega
  ·simp only[dk]at e1;exact⟨gb,e1.1⟩
 have Ki:KI c ai ⟨t,u.count+1,x⟩ s.aK (K.new ai ⟨t,u.count+1,x⟩):=KI.new A6.1;have p4:(K.new ai ⟨t,u.count+1,x⟩).b=none:=rfl;have HT:=Sb (w0:=w0) (R:=R) aE hp uX (p:=s.aK) (s:=s2) hbp A6.1 tK (by rw[S4];exact hI.mu) (by rw[S4];exact hI.now) (by rw[S4];exact hI.trace) (by rw[yU,cF];exact hI.t8) (by rw[uG];exact hI.rows) (by rw[nR];omega) (by rw[uG];exact hI.news)
  (by
   rw[YY];intro r hr;rcases jQ.1 hr with h1|h1
   ·exact hI.steps r h1
   ·rw[jO]at h1;subst h1;dsimp only;omega)
  (by rw[nR];exact Gb) (L:=L1) w_ (t:=t) AU eat Ki (λy hy=>by rw[p4]at hy;cases hy) (b:=b) (mb:=mb) (pv:=pv) (iP:=iP) (aO:=aO) hE (gt:=gt) (tc:=tc) (gr:=gr) (rc:=rc) (ri:=s.aM.length) (by rw[uF]) (by rw[nR];omega)
 have yj:(flat gp L1)[t*5+1]?=some (O (L1[t].1.ab)):=by rw[cI iD L1 t AU 1 (by decide)];unfold gp Rv;rw[eat];rfl
 have eab:L1[t].1.ab=kb:=by rw[uF]
 have ecv:L1[t].1.cv=cv:=by rw[uF]
 have ecs:L1[t].2.calls=xs:=by rw[uF];exact ec
 rw[Δ,AS,nR,hbp,S4,uG,eab,ecv,ecs]at HT;rw[eab]at yj;rw[LC]at h;refine⟨gr,rc,_,_,_,_,_,_,_,_,_,_,_,_,rfl,yj,HT,?_⟩;rw[YY];exact(((((((((h.pull 8 rfl).pull 8 rfl).pull 6 rfl).pull 8 rfl).pull 8 rfl).pull 8 rfl).pull 8 rfl).pull 8 rfl).pull 8 rfl)
def zq44:(∀{w0 w R}{c:Y.cA}(aE:Y.Ok c){ai:List (List In)}(hp:PI ai){n0:Int}(uX:n0≤1000000000000000){b:Nat}{s:Z.St}(hI:SI c ai n0 s)(t:Nat){u:Z.Th}(hu:s.iB[t]?=some u){m:K.Me}{k:K.St}(jT:u.at_=some (m,k))(tK:s.aK<65536)(hS:Sep w0 w (dx c ai b s::R)),Calls Tryz.prog 31 #[O b,I (t:Int)] w λr w'=>r= .returned (.bool true)∧SI c ai n0 (Z.ig c ai t {s with aK:=s.aK+1})∧Sep w0 w' (dx c ai b (Z.ig c ai t {s with aK:=s.aK+1})::R))∧(∀{w0 w:World}{R:List a_}{c:Y.cA}(aE:Y.Ok c){ai:List (List In)}(hp:PI ai){n0:Int}(uX:n0≤1000000000000000){b:Nat}{s:Z.St}(hI:SI c ai n0 s)(t:Nat){u:Z.Th}(hu:s.iB[t]?=some u)(jT:u.at_=none){x:K.Call}{xs:List K.Call}(hc:u.calls=x::xs)(tK:s.aK<65536)(hS:Sep w0 w (dx c ai b s::R)),Calls Tryz.prog 31 #[O b,I (t:Int)] w λr w'=>r= .returned (.bool true)∧SI c ai n0 (Z.ig c ai t (Z.dI ai t {s with aK:=s.aK+1}))∧Sep w0 w' (dx c ai b (Z.ig c ai t (Z.dI ai t {s with aK:=s.aK+1}))::R)):=by
 refine⟨?_,?_⟩;focus
  intro w0 w R c aE ai hp n0 uX b s hI t u hu m k jT tK hS;have lK:=(dE.1 hu).1;have hid:Z.idle s (t:Int)=false:=by
   unfold Z.idle Z.iO;rw[cW (by omega),pq,dU,cO,hu];show(u.at_.isNone&&_)=false;rw[jT];rfl
 rotate_left;focus
  intro w0 w R c aE ai hp n0 uX b s hI t u hu jT x xs hc tK hS;have lK:=(dE.1 hu).1;have hid:Z.idle s (t:Int)=false:=by
   unfold Z.idle Z.iO;rw[cW (by omega),pq,dU,cO,hu];show(u.at_.isNone&&u.calls.isEmpty)=false;rw[hc];simp
 all_goals
  have XL:=aa (Ay (t:Int) hS);rw[hid]at XL;obtain⟨H,mb,pv,lZ,iV,iP,aO,L,hE,hL,h⟩:=kr hS;have tz:s.iB.length=L.length:=by rw[←hL,dD]
  have DT:t<L.length:=by omega
  have e2:L[t].2=u:=by
   have:=vL hL DT;rw[hu]at this;exact(eQ this).symm
  have Et:=hI.th t u hu
 rotate_left;focus
  obtain⟨a1,a2,a3,a4,a5,a6,a7,a8⟩:=Et.at_ m k jT;have A6:=hI.aK;have BF:L[t].2.at_=some (m,k):=by rw[e2];exact jT
  have h1:=Wa DT BF h;have hlen:=MV a4 h1
 rotate_left;focus
  have Xo:=Et.count;have A6:=hI.aK;have oe:=hI.aM;have BF:L[t].2.at_=none:=by rw[e2];exact jT
  have h1:=Nm DT BF h
 all_goals have Xx:=aa (λw' hh=>Cu (w0:=w0) (w:=w') (R:=R) (pv:=pv) (aO:=aO) hp.n hp.l hp.u hh)
 rotate_left;focus
  obtain⟨ta,tc,rfl⟩:=h1.form 2 rfl;obtain⟨ra,rc,rfl⟩:=h1.form 3 rfl;obtain⟨gt,rfl⟩:∃gt,ta=some ⟨gt,0,none⟩:=by
   rcases bg (h1.row 2 rfl)with⟨e1,e3⟩|⟨gb,cap,e1,_⟩
   ·omega
   ·simp only[dk]at e1;exact⟨gb,e1.1⟩
  have NW:u.record.toNat<s.aM.length:=by omega
  obtain⟨gr,rfl⟩:∃gr,ra=some ⟨gr,0,none⟩:=by
   rcases bg (h1.row 3 rfl)with⟨e1,e3⟩|⟨gb,cap,e1,_⟩
   ·omega
   ·simp only[dk]at e1;exact⟨gb,e1.1⟩
  have HT:=aa (Sb (w0:=w0) (R:=R) aE hp uX (p:=s.aK) (s:={s with aK:=s.aK+1}) rfl A6.1 tK hI.mu hI.now hI.trace hI.t8 hI.rows (by have:=hI.aM;dsimp only;omega) hI.news hI.steps (λt2 u2 h2=>(hI.th t2 u2 h2).more (by omega) (iu _)) (L:=L) hL (t:=t) DT BF a4 hlen (b:=b) (mb:=mb) (pv:=pv) (iP:=iP) (aO:=aO) hE (gt:=gt) (tc:=tc) (gr:=gr) (rc:=rc) (ri:=u.record.toNat) (by rw[e2];omega) NW);have uF:(flat gp L)[t*5+1]?=some (O (L[t].1.ab)):=by rw[cI iD L t DT 1 (by decide)];unfold gp Rv;rw[BF];rfl
 rotate_left;focus
  obtain⟨ta,tc,rfl⟩:=h1.form 1 rfl;obtain⟨gt,rfl⟩:∃gt,ta=some ⟨gt,0,none⟩:=by
   rcases bg (h1.row 1 rfl)with⟨e1,e3⟩|⟨gb,cap,e1,_⟩
   ·omega
   ·simp only[dk]at e1;exact⟨gb,e1.1⟩
  have hx:=Et.calls x (by rw[hc];simp);obtain⟨prog,a0,a1,a2,a3,rfl⟩:∃prog a0 a1 a2 a3,x=⟨prog,[a0,a1,a2,a3]⟩:=by
   obtain⟨prog,args⟩:=x;have hl:=hx.1
   match args,hl with
   |[a0,a1,a2,a3],_=>exact⟨prog,a0,a1,a2,a3,rfl⟩
  have Pn:(flat gp L).length=L.length*5:=ck iD L;have kS:∀j,j<5→(flat gp L)[t*5+j]?=(gp L[t])[j]?:=λj hj=>cI iD L t DT j hj;have q0:(flat gp L)[t*5]?=some L[t].1.cv:=kS 0 (by decide);have q1:(flat gp L)[t*5+1]?=some (.pointer none):=by rw[kS 1 (by decide)];unfold gp Rv;rw[BF];rfl
  have q3:(flat gp L)[t*5+3]?=some (I u.count):=by rw[kS 3 (by decide),←e2];rfl
  have hrt:t*5+5≤(flat gp L).length:=by
   rw[Pn];have:(t+1)*5≤L.length*5:=wo 5 DT;omega
  have j8:L[t].2.calls=⟨prog,[a0,a1,a2,a3]⟩::xs:=by rw[e2];exact hc
  rw[j8]at h1;have HB:=aa (λw' hS=>M6 (w0:=w0) (w:=w') (R:=fG iP s.rows::dP mb s.mem::cM ((L.map (vK c pv aO)).eraseIdx t)::kJ pv aO ai::R) (c:=c) (b:=b) (iV:=iV) (aO:=aO) (ai:=ai) hE hp.u (λqe hh=>Xx.out _ hh.tail.tail.tail) (gt:=gt) (tc:=tc) (n:=L.length) (t:=t) (aK:=s.aK+1) (rec:=0) (lk:=0) (cr:=u.count) (aM:=s.aM) (prog:=prog) (a0:=a0) (a1:=a1) (a2:=a2) (a3:=a3) (xs:=xs) (iP:=iP) (by omega) (by omega) q0 q3 hrt hS);have HK:=aa (λw' (cv:Value) (kb:Nat) (iV:Value) hh=>Wb (w0:=w0) (w:=w') (R:=R) aE hp uX (b:=b) hI hu jT hc tK hL DT e2 (cv:=cv) (iV:=iV) (iP:=iP) (aO:=aO) hE (gt:=gt) (tc:=tc) (kb:=kb) hh)
 all_goals
  have Eb:(t:Int)<(L.length:Int):=by omega
  have d1:decide (65536≤s.aK)=false:=cW (by omega);have hw:IntKind.i64.wrap (s.aK+1)=s.aK+1:=bf _ (by omega) (by omega)
 rotate_left;focus
  obtain⟨PN,vy⟩:∃F:World→Prop,F=λw'=>SI c ai n0 (Z.ig c ai t {s with aK:=s.aK+1})∧Sep w0 w' (dx c ai b (Z.ig c ai t {s with aK:=s.aK+1})::R):=⟨_,rfl⟩;rw[←vy]at HT
 rotate_left;focus
  obtain⟨PN,vy⟩:∃F:World→Prop,F=λw'=>SI c ai n0 (Z.ig c ai t (Z.dI ai t {s with aK:=s.aK+1}))∧Sep w0 w' (dx c ai b (Z.ig c ai t (Z.dI ai t {s with aK:=s.aK+1}))::R):=⟨_,rfl⟩;rw[←vy]at HK
 all_goals
  suffices pG:Calls Tryz.prog 31 #[O b,I (t:Int)] w λr w'=>r= .returned (.bool true)∧PN w' by
   rw[vy]at pG;exact pG
  have HE:=aa hE;have HS:=aa h1
 rotate_left;focus
  clear vy h1 h hE hS hI BF jT a1 a2 a3 a4 a5 a6 a7 a8 hlen Et e2 hu hid hL tz lK NW hp aE uX;dsimp only at HT;generalize iq c m pv aO L[t].1.ab k=KT at*;generalize iq c m pv aO L[t].1.ab _=D_ at*;generalize fG iP s.rows=ZT at*;generalize dP mb (s.mem.step _ _)=XN at*;generalize dP mb s.mem=MT at*;generalize Aw L[t].1.cv L[t].2.calls=CT at*
 rotate_left;focus
  clear vy h1 h hE hS hI BF jT Et e2 hu hid hL tz lK hp aE uX hx hc j8 oe Xo kS Pn hrt q0 q3;have h1:=q1;clear q1;generalize flat gp L=XS at*;generalize fG iP s.rows=ZT at*;generalize dP mb s.mem=MT at*
 all_goals generalize cM ((L.map (vK c pv aO)).eraseIdx t)=RT at*
 rotate_left;focus
  generalize L[t].1.ab=kb at*;generalize(s.mem.told _ _).v=t0 at*;generalize(s.mem.told _ _).s=t1 at*;generalize(s.mem.told _ _).ok=t2 at*;generalize C.err _ _ _=er at*;generalize eF (K.ask c m k).1=op at*;generalize(K.ask c m k).2=ab at*;generalize flat gp L=XS at*;generalize flat eI s.aM=RX at*;generalize s.aM.length=rn at*;generalize L.length=n at*;generalize s.aK=pk at*;clear tK A6;have h1:=uF;clear uF
 rotate_left;focus
  generalize L[t].1.cv=cv0 at*;generalize Ec:flat eI s.aM=RX at HS;generalize z5:s.aM.length=rn at*;generalize L.length=n at*;generalize az8:s.aK=pk at*;clear tK A6
 all_goals go_in;go_wp2_with fail;refine XL.out.mono ?_;rintro r w1 ⟨rfl,hf⟩;have HS:=aa (HS.c_ hf);clear hf
 rotate_left;focus
  obtain⟨f27,ω⟩:=(HS.ar 1 rfl).fe HE.len 27 rfl rfl;have fl:=(HS.ar 1 rfl).lt;have h5:=HS.set 1 rfl 27 (I (pk+1))
 rotate_left;focus
  obtain⟨f27,ω⟩:=(HS.ar 0 rfl).fe HE.len 27 rfl rfl;have fl:=(HS.ar 0 rfl).lt;have h5:=HS.set 0 rfl 27 (I (pk+1))
 all_goals simp only[aL,xZ HE.len _ 27 _ (by omega),Nat.reduceSub,aN]at h5;have HS:=aa h5;clear h5
 rotate_left;focus
  have f26:=(HS.ar 1 rfl).aR HE.len 26 rfl rfl
 rotate_left;focus
  obtain⟨f26,P2⟩:=(HS.ar 0 rfl).fe HE.len 26 rfl rfl;have f1:=aH (HS.row 1 rfl) (t*5+1) _ h1;have tI:=bw (HS.row 1 rfl) (t*5+1);have aM7:=(oz (HS.row 1 rfl) gt rfl).2;go_wp2_with fail;generalize World.setCell _ _ _=w2 at HS⊢;clear f27 ω f26 P2 f1 tI fl aM7;subst Ec z5;refine(HB.out _ HS.out).mono ?_;rintro r w3 ⟨rfl,cv,kb,M7,h9⟩;obtain⟨gr,rc,KT,D_,XN,CT,XS,RX,op,ab,t0,t1,t2,er,rfl,h1,hT,hS⟩:=HK.out _ _ _ _ h9;have HT:=aa hT;have HS:=aa hS;clear hT hS h9 HB HK;generalize s.aM.length+1=rn at*
 all_goals have f1:=aH (HS.row 2 rfl) (t*5+1) _ h1;have tI:=bw (HS.row 2 rfl) (t*5+1);have aM7:=(oz (HS.row 2 rfl) gt rfl).2;go_wp2_with fail
 rotate_left;focus
  generalize World.setCell _ _ _=w2 at HS⊢;clear f27 ω f26 f1 tI fl aM7
 rotate_left;focus
  clear f1 tI aM7
 all_goals
  refine(HT.out.ask _ _ HS.out).kq HS λw2 HS=>?_;have HS:=aa (HS.new 82 op);go_wp2_with(refine dV 82 _ _ rfl _ _ rfl rfl rfl (by rw[show op.toArray.size=6 from HT.len];kernel_rfl) (by rw[show op.toArray.size=6 from HT.len];rfl) (iX HT.out.one) ?_);generalize World.alloc _ _=w3 at HS⊢;generalize w2.heap.size=bo at HS⊢;have HD:=HS.drew;obtain⟨F,hF,Γ⟩:=HT.out.fpF _ _ 6 HD rfl;have XH:=Γ 0 _ _ _ (by decide) rfl;have Lz:=Γ 2 _ _ _ (by decide) rfl;have JO:=aa hF;clear hF Γ;have GR:=(HS.ar 0 rfl).drew;have f24:=(HS.ar 2 rfl).fM HE.len 24 rfl HE.out.mem;have fl:=(HS.ar 2 rfl).lt;refine gR ([6,10],[11]) F (by kernel_rfl) ?_;refine gS (N:=7) [0,1,2,3,4,5] (by kernel_rfl) ⟨⟨_,Fr.refl _ _⟩,rfl⟩ ?_;simp only[zz];iterate 5 (first|go_big_quiet_step (fail)|quiet_step (fail))
  refine ak 82 _ bo 0 op _ rfl rfl rfl (bL GR XH) underlying82 rfl (by rw[HT.len];kernel_rfl) ?_;simp only[Act.put,aZ,zs];refine ax ?_;clear f24 fl GR XH Lz;have HS:=aa HD;clear HD;generalize w3.drew=wd at*;apply Kp (S:=λX wF=>Sep w0 wF (aJ X 84 [U t0,U t1,.bool t2]::aJ bo 82 op::KT::aJ b 106 (H++[.slice (some ⟨gt,0,none⟩) n tc,I (pk+1),.slice (some ⟨gr,0,none⟩) rn rc,iP])::aU 0 132 5 (.slice (some ⟨gt,0,none⟩) n tc) n XS::aU 0 55 13 (.slice (some ⟨gr,0,none⟩) rn rc) rn RX::ZT::XN::CT::RT::kJ pv aO ai::R))
  ·intro HR;refine dN (N:=6) 6 10 (by kernel_rfl) rfl rfl ?_ ?_
   ·go_wp2_with fail;refine(HT.out.Pw _ _ 6 _ HS.out rfl JO.out).mono ?_;rintro e w7 ⟨rfl,hS,hf⟩;have HF:=aa hf;clear hf;have HS:=aa (hS.new 84 [U 0,U 0,.bool false]);clear hS;simp only[zs]at HS;go_wp2;refine⟨⟨⟨_,HF.out⟩,rfl⟩,?_⟩;refine bP (N:=3) [7,8,9] (by kernel_rfl) ?_;simp only[zz];repeat(first|go_big_quiet_step (fail)|quiet_step (fail))
    refine ax ?_;refine bA (N:=2) 10 (by kernel_rfl) rfl ?_;go_wp2;refine⟨⟨⟨_,HF.alloc _⟩,rfl⟩,?_⟩;generalize w7.heap.size=X at HS⊢;refine dK (N:=1) 11 (by kernel_rfl) rfl ?_;go_wp2_with(refine aC HS.out 0 rfl [U t0,U t1,.bool t2] 84 _ _ rfl rfl rfl rfl rfl (by kernel_rfl) (by simp[Value.oneCell']) (λwA hA _=>?_);have HS:=aa hA;clear hA);refine bP (N:=0) [12] (by kernel_rfl) ?_;simp only[zz];repeat(first|go_big_quiet_step (fail)|quiet_step (fail))
    refine ax ?_;refine step_done (by kernel_rfl) ?_;simp only[zs]at HS;exact HR X _ HS.out
   ·go_wp2_with fail;have XK:=aa (HS.new 84 [U 0,U 0,.bool false]);have K2:=aa ((Fr.refl F wd).alloc (.cells #[U 0,U 0,.bool false] 84));have LB:=aa (HT.out.fpM _ _ _ JO.out ((Fr.refl [] wd).alloc (.cells #[U 0,U 0,.bool false] 84)));refine⟨⟨⟨_,K2.out⟩,rfl⟩,?_⟩;generalize wd.heap.size=X at XK⊢;refine bA (N:=5) 6 (by kernel_rfl) rfl ?_;go_wp2_with fail;refine(HT.out.Pw _ _ 7 _ XK.out rfl LB.out).mono ?_;rintro e w7 ⟨rfl,hS,hf⟩;have HF:=aa (K2.trans hf);clear hf;have HS:=aa hS;clear hS;simp only[zs]at HS;go_wp2;refine⟨⟨⟨_,HF.out⟩,rfl⟩,?_⟩;refine bP (N:=2) [7,8,9] (by kernel_rfl) ?_;simp only[zz];repeat(first|go_big_quiet_step (fail)|quiet_step (fail))
    refine ax ?_;refine dK (N:=1) 11 (by kernel_rfl) rfl ?_;go_wp2_with(refine aC HS.out 0 rfl [U t0,U t1,.bool t2] 84 _ _ rfl rfl rfl rfl rfl (by kernel_rfl) (by simp[Value.oneCell']) (λwA hA _=>?_);have HS:=aa hA;clear hA);refine bP (N:=0) [12] (by kernel_rfl) ?_;simp only[zz];repeat(first|go_big_quiet_step (fail)|quiet_step (fail))
    refine ax ?_;refine step_done (by kernel_rfl) ?_;simp only[zs]at HS;exact HR X _ HS.out
  clear HS JO;intro X wF hS;have HS:=aa hS;clear hS;go_wp2_with fail;have HD:=HS.drew;have f1:=aH (HD.row 4 rfl) (t*5+1) _ h1;have tI:=bw (HD.row 4 rfl) (t*5+1);have aM7:=(oz (HD.row 4 rfl) gt rfl).2;have GR:=(HD.ar 0 rfl).range;refine bW [(1,[0,1,2,3,4]),(3,[5])] (by kernel_rfl) ?_;simp only[zz];refine af ?_;repeat(first|(refine ak 84 _ X 0 [U t0,U t1,.bool t2] _ rfl rfl rfl (aG GR (by simp)) underlying84 rfl (by kernel_rfl) ?_;simp only[Act.put,aZ,zs])|go_big_quiet_step (fail)|quiet_step (fail))
  refine ax ?_;repeat(first|go_big_quiet_step(fail)|quiet_step(fail)|apply ax|apply af|apply ag|apply ah)
  refine ao ?_;go_wp2_with fail;refine(HT.out.tell _ _ (λqe hh=>Xx.out _ hh.tail.tail.tail.tail.tail.tail.tail) (HD.tail.tail)).kh λw8 HS=>?_;clear HD f1 tI aM7 GR;go_wp2;refine aj ?_;go_wp2_with fail;refine(HT.out.told _ HS.out).kh λw9 V0=>?_;go_wp2;go_ret
 rotate_left;all_goals
  exact⟨rfl,V0.out⟩
def Nn:=@zq44.1
def No:=@zq44.2
def AJ {w0 w R c}(aE:Y.Ok c){ai}(hp:PI ai){n0}(uX:n0≤1000000000000000){b s}(hI:SI c ai n0 s)(t)(hS:Sep w0 w (dx c ai b s::R)):
 Calls Tryz.prog 31 #[O b,I t] w λr w'=>r= .returned (.bool (Z.pick c ai t s).2)∧SI c ai n0 (Z.pick c ai t s).1∧Sep w0 w' (dx c ai b (Z.pick c ai t s).1::R):=by
 unfold Z.pick;by_cases h0:Z.idle s t=true∨65536≤s.aK
 ·rw[aB h0];exact(V_ t h0 hS).mono λr w' ⟨e,h⟩=>⟨e,hI,h⟩
 ·rw[aq h0];have h1:Z.idle s t=false:=by
   cases hh:Z.idle s t with
   |false=>rfl
   |true=>exact absurd (.inl hh) h0
  have h2:s.aK<65536:=by
   rcases Int.lt_or_le s.aK 65536 with h|h
   ·exact h
   ·exact absurd (.inr h) h0
  unfold Z.idle at h1;rw[Bool.or_eq_false_iff,yJ]at h1;obtain⟨h3,h4⟩:=h1;obtain⟨t,rfl⟩:∃n:Nat,t=n:=⟨t.toNat,by omega⟩;rw[dU]at h4⊢;have lK:t<s.iB.length:=by omega
  have hu:s.iB[t]?=some s.iB[t]:=cy lK;have ox:Z.iO s t=s.iB[t]:=by unfold Z.iO;rw[cO,hu];rfl
  have at0:Z.iO {s with aK:=s.aK+1} t=s.iB[t]:=ox;rw[ox]at h4;dsimp only;rw[at0];cases jT:s.iB[t].at_ with
  |some mk=>
   obtain⟨m,k⟩:=mk;exact Nn aE hp uX hI t hu jT h2 hS
  |none=>
   rw[jT]at h4;cases hc:s.iB[t].calls with
   |nil=>rw[hc]at h4;simp at h4
   |cons x xs=>exact No aE hp uX hI t hu jT hc h2 hS
end Go.Proofs.YtolkmchicplaoaaGreat
namespace Go.aS.Z
open Go.aS.Y Go.aS.I_
def new (c:cA)(calls:List (List K.Call)):St:=⟨H.ju c,calls.map (λl=>⟨l,none,0,0,0⟩),0,[],[]⟩
end Go.aS.Z
namespace Go.Proofs.YtolkmchicplaoaaGreat
open Go.RowKit Go.aS Go.aS.I_ Go.aS.Y
structure vY (w:World)(kv:Value)(wi:List Value)(calls:List (List K.Call)):Prop where
 row:dB (λv=> [v]) 1 w kv wi
 len:wi.length=calls.length
 each:∀k (h:k<calls.length),dB iw 5 w (wi[k]'(by omega)) calls[k]
def vY.fr {w w' kv wi calls}(h:vY w kv wi calls)(f:Fr [] w w'):vY w' kv wi calls:=
 ⟨h.row.fr f,h.len,λk hk=>(h.each k hk).fr f⟩
def Θ {w0 w R v l}(h:Sep w0 w (aU 0 38 5 v l.length (flat iw l)::R)):Sep w0 w (Aw v l::R):=by
 obtain⟨la,lc,rfl⟩:=h.form 0 rfl;unfold Aw;split
 ·rename_i e;subst e;exact Sep.iK h.tail.ud ⟨_,_,rfl⟩
 ·rename_i e;have hl:=List.length_pos_iff.2 e;obtain⟨fp,hp,hb,nk⟩:=h.get 0 rfl;have hA:dB iw 5 w (.slice la l.length lc) l:=dB.kG ux hp.2;obtain⟨g,rfl⟩:∃g,la=some ⟨g,0,none⟩:=by
   rcases bg hp.2 with⟨e1,e2⟩|⟨gb,cap,e1,_⟩
   ·omega
   ·simp only[dk]at e1;exact⟨gb,e1.1⟩
  have hg:=(oz hp.2 g rfl).2;have h2:Sep w0 w (Yn iw 5 g (.slice (some ⟨g,0,none⟩) l.length lc) l::R):=nk _ w [g] ⟨rfl,hg,hA,λa m c e=>by simp only[dk,eX]at e;rw[←e.1]⟩ (Fr.refl _ w) (λk hk=> .inl (by rw[hp.1];exact hk));exact Sep.qX (A:=Nat) (λg'=>ie (∃o' tW,_=Value.slice (some ⟨g',o',none⟩) l.length tW) (Yn iw 5 g' _ l)) (a:=g) (Sep.iK h2 ⟨_,_,rfl⟩)
def Wc:(Tryz.prog.info? 132).map (λi=>(i.zero,i.size,i.bytes))=some (some (.agg #[.slice none 0 0,.pointer none,I 0,I 0,I 0]),5,56):=by kernel_rfl
def Sd:(Tryz.prog.info? 29).map (λi=>(i.zero,i.size,i.bytes))=some (some (.slice none 0 0),1,24):=by kernel_rfl
def Gl {w c}(aE:Y.Ok c){pv kv aO wi ai calls}(hp:cL w pv aO ai)(hk:vY w kv wi calls)(B5:ai.length≤32)(mr:(calls.length:Int)=c.t)(Se:∀l∈calls,l.length≤64):
 Calls Tryz.prog 28 #[db c,pv,kv] w λr w'=>∃b,r= .returned (.tuple #[O b,I 0])∧Sep w w' [dx c ai b (Z.new c calls)]:=by
 obtain⟨pa,pc,rfl⟩:=hp.row.len;obtain⟨ka,kc,rfl⟩:=hk.row.len;have GQ:=aa (λw'=>u5 w' c aE);have Kq:=aa (λw'=>zx w' c aE);have Λ:=aa hp;have LX:=aa hk;have Ξ:aO.length≤32:=by rw[hp.len];exact B5
 have DE:Hid (aO.length=ai.length):=hp.len;have We:Hid (wi.length=calls.length):=hk.len;have at1:=aa Se;have sh:(wi.length:Int)=c.t:=by rw[hk.len];exact mr
 have HC8:=aa aE.t8;clear hp hk B5 mr Se aE;obtain⟨PN,vy⟩:∃F:Ending→World→Prop,F=λr w'=>∃b,r= .returned (.tuple #[O b,I 0])∧Sep w w' [dx c ai b (Z.new c calls)]:=⟨_,rfl⟩;rw[←vy];have yu:=aa vy;clear vy;have HS:=aa ((Sep.nil (Fr.refl [] w)).new 31 (gT c));rw[show db c= .agg (gT c).toArray from rfl]at*;have Da:(gT c)[0]?=some (I (wi.length:Int)):=by rw[sh];rfl
 have qK:(gT c).length=6:=rfl;have HC0:=aa Da;have AG:(ae c).length=24:=rfl;rw[show aY c= .agg (ae c).toArray from rfl]at*;have GL:∀v∈ae c,v.oneCell'=true:=by unfold ae;simp[Value.oneCell']
 obtain⟨MT,V5⟩:∃T:Nat→a_,T=λmb=>dP mb (H.ju c):=⟨_,rfl⟩;have YZ:=aa V5;have Kq:Hid (∀w',Calls Tryz.prog 22 #[.agg (ae c).toArray] w' λe qe=>∃b,e= .returned (O b)∧Sep w' qe [MT b]):=aa (by rw[V5];exact Kq.out);clear V5 Da;generalize gT c=cl at*;obtain⟨cs,j8⟩:∃cs,ae c=cs:=⟨_,rfl⟩;have qC:=aa j8;rw[j8]at AG GL GQ Kq;clear j8;obtain⟨x0,x1,x2,x3,x4,x5,x6,x7,x8,x9,l4,l5,l6,l7,l8,l9,l_,mf,mh,mi,mj,mm,mo,mq,rfl⟩:=rQ AG;obtain⟨pn,xy⟩:∃n,aO.length=n:=⟨_,rfl⟩;have Gm:=aa xy;simp only[xy]at DE Ξ⊢;clear xy;obtain⟨kn,Jm⟩:∃n,wi.length=n:=⟨_,rfl⟩;have Sf:=aa Jm;simp only[Jm]at HC0 sh We⊢;clear Jm;have Pj:=aa sh;clear sh;have d1:decide ((32:Int)<(pn:Int))=false:=cW (by omega);go_in;go_wp2_with(refine ay 31 _ rfl rfl _ 0 rfl cl _ (HS.ar 0 rfl).range underlying31 rfl (by rw[qK];kernel_rfl) ?_);refine(GQ.out _).kk λw1 hf=>?_;have HS:=aa ((HS.c_ hf).new 58 [x0,x1,x2,x3,x4,x5,x6,x7,x8,x9,l4,l5,l6,l7,l8,l9,l_,mf,mh,mi,mj,mm,mo,mq]);have f0:=(HS.ar 1 rfl).aT 0 HC0.out;go_wp2_with(refine dV 58 _ _ rfl _ _ rfl rfl rfl (by kernel_rfl) rfl (iX GL) ?_);generalize World.alloc _ _=w2 at*;generalize w1.heap.size=bm at*;generalize w.heap.size=bc at*;clear f0 hf;have HD:=HS.drew;have hm:=(HD.ar 0 rfl).range;refine bW [(1,[0,1]),(2,[2]),(0,[3]),(3,[4]),(0,[5])] (by kernel_rfl) ?_;simp only[zz];refine af ?_;repeat(first|(refine ak 58 _ bm 0 [x0,x1,x2,x3,x4,x5,x6,x7,x8,x9,l4,l5,l6,l7,l8,l9,l_,mf,mh,mi,mj,mm,mo,mq] _ rfl rfl rfl (aG hm (by simp)) underlying58 rfl (by kernel_rfl) ?_;simp only[Act.put,aZ,zs])|go_big_quiet_step (fail)|quiet_step (fail))
 refine ax ?_;repeat(first|go_big_quiet_step(fail)|apply ax|apply af|apply ag|apply ah)
 refine aA ?_;go_wp2_with fail;refine(Kq.out _).mono ?_;rintro r w3 ⟨mb,rfl,hB⟩;have HF:=aa hB.fr;have HS:=aa (HD.fresh hB.jm);clear hB HD hm;go_wp2;refine⟨⟨⟨_,(by exact HF.out)⟩,rfl⟩,?_⟩;clear HF;repeat(first|go_big_quiet_step(fail)|apply ax|apply af|apply ag|apply ah)
 refine ao ?_;go_wp2_with fail;repeat(first|go_big_quiet_step(fail)|apply ax|apply af|apply ag|apply ah)
 refine aj ?_;have HS:=aa (HS.new 106 [x0,x1,x2,x3,x4,x5,x6,x7,x8,x9,l4,l5,l6,l7,l8,l9,l_,mf,mh,mi,mj,mm,mo,mq,O mb,.slice none 0 0,.slice none 0 0,I 0,.slice none 0 0,.slice none 0 0]);go_wp2_with fail;generalize World.alloc _ _=w4 at HS⊢;generalize w3.heap.size=bs at HS⊢;go_loopg [39] pn (λg vi wr=>∃(j:Nat) (Xw:Value) (A:List Value),g+j=pn∧vi=I (j:Int)∧A.length=j∧Sep w wr (aU 0 29 1 Xw j A::cM ((A.zip ai).map (λp=>aU 0 28 5 p.1 p.2.length (flat gl p.2)))::aJ bs 106 [x0,x1,x2,x3,x4,x5,x6,x7,x8,x9,l4,l5,l6,l7,l8,l9,l_,mf,mh,mi,mj,mm,mo,mq,O mb,Xw,.slice none 0 0,I 0,.slice none 0 0,.slice none 0 0]::MT mb:: []))
 case atStart=>refine⟨0,.slice none 0 0,[],by omega,rfl,rfl,?_⟩;have h9:=(((HS.pull 1 rfl).pull 1 rfl).sub (NJ:=[aJ bs 106 [x0,x1,x2,x3,x4,x5,x6,x7,x8,x9,l4,l5,l6,l7,l8,l9,l_,mf,mh,mi,mj,mm,mo,mq,O mb,.slice none 0 0,.slice none 0 0,I 0,.slice none 0 0,.slice none 0 0],MT mb]) [0,1] rfl (by decide));exact(h9.ud).k5 0 29 1
 case round=>
  obtain⟨j,Xw,A,yy,rfl,Υ,iU⟩:=hrel;by_cases hj:j<pn
  ·have s9:(j:Int)<(pn:Int):=by omega
   have FG:j<aO.length:=by have:=Gm.out;omega
   have Sg:j<ai.length:=by have:=DE.out;have:=Gm.out;omega
   obtain⟨xa,uI,GD,xX,-⟩:=(Λ.row.fr iU.fr).at FG;rw[lj]at xX;have hx:=xX _ rfl;clear xX;have Fy:=(Λ.out.each j Sg).fr iU.fr;obtain⟨la,lc,Ep⟩:=Fy.1.len;have HZ:=aa (λnv=>Ai A ai nv (by omega));have Eo:=aa (fun(w':World) (hf:Fr [] wr w')=>OU w' aO[j] ai[j].length (flat gl ai[j]) (JF yT (Fy.1.fr hf)) (ck yT _) (gJ T3 _) (by have:=Fy.2.1;omega));generalize aO[j]=YD at*;subst Ep;simp only[Υ]at HZ;subst uI;have kI:=aa iU;have wX:=aa Υ;clear iU Fy;generalize ai[j]=pj at*;obtain⟨LY,Wf⟩:∃n,pj.length=n:=⟨_,rfl⟩;obtain⟨XJ,Ψ⟩:∃x,flat gl pj=x:=⟨_,rfl⟩;have at2:=aa Wf;have Y0:=aa Ψ;simp only[Wf,Ψ]at Eo
   (try simp only[Wf]at hx)
   clear Wf Ψ;go_wp2_with fail;obtain⟨Wg,Wh,rfl⟩:=kI.form 0 rfl;have HD:=kI.drew;have hB:=HD.ar 2 rfl;have f25:=hB.cell 25;have Ω:=hB.az 25;simp only[zg]at f25;obtain⟨i0,iJ,jA,jB,iR⟩:=eA Sd;refine bW [(1,[1,2,3,4,5]),(0,[0]),(2,[6]),(2,[7]),(3,[8]),(0,[9,10]),(3,[11])] (by kernel_rfl) ?_;simp only[zz];repeat(first|go_big_quiet_step(fail)|apply ax|apply af|apply ag|apply ah)
   refine aA ?_;go_wp2_with fail;refine(Eo.out _ ((Fr.refl [] _).drew)).mono ?_;rintro r w5 ⟨nv,rfl,hN⟩;have Cq:=aa hN.fr;obtain⟨na,nc,rfl⟩:=hN.form;have HS:=aa (HD.fresh hN);clear hN;go_wp2;refine⟨⟨⟨_,(by exact Cq.out)⟩,rfl⟩,?_⟩;refine aA ?_;go_wp2;refine⟨⟨⟨_,(by exact Cq.alloc _)⟩,rfl⟩,?_⟩;have HS:=aa (HS.new 29 [.slice na LY nc]);refine ao ?_;go_wp2_with(at_builtin;go_must (refine ch _ rfl _ _ 42 rfl 0 29 i0 _ 1 24 underlying42 iJ jA jB iR rfl (by decide) (.slice Wg j Wh) j A rfl (HS.row 2 rfl) [.slice na LY nc] _ _ rfl (HS.ar 0 rfl) rfl (by simp[Value.oneCell']) (by unfold maxLen;omega) (by omega) (cE _) ?_));intro g2 c2 w6 dy iZ jj kM mw;have h3:=(HS.grown 2 rfl dy iZ (λq e=>by
    rcases jj with h1|h1
    ·exact .inl (h1.trans e)
    ·right;simp only[Value.ownBlock,eX]at e;rw[←e,h1];simp)).tail
   simp only[zs]at h3;have HS:=aa h3;clear h3 dy iZ jj hB HD f25 Ω;go_wp2_with fail;have hB:=HS.ar 3 rfl;have f25:=hB.cell 25;have Ω:=hB.az 25;simp only[zg]at f25;have h5:=HS.set 3 rfl 25 (.slice (some ⟨g2,0,none⟩) (j+1) c2);simp only[zs]at h5;have HS:=aa h5;clear h5 hB;repeat(first|go_big_quiet_step(fail)|apply ax|apply af|apply ag|apply ah)
   refine ao ?_;go_wp2;refine aj ?_;generalize World.setCell _ _ _=w7 at HS⊢;clear f25 Ω;go_wp2;go_roundg (pn-(j+1))
   case measure=>omega
   case rel=>have Υ:=wX.out;refine⟨j+1,.slice (some ⟨g2,0,none⟩) (j+1) c2,A++[.slice na LY nc],by omega,by go_num,by rw[eE,Υ];rfl,?_⟩;rw[HZ.out,pS];have h9:=(Sep.vh (T:=aU 0 28 5 (.slice na LY nc) LY XJ) ((HS.pull 2 rfl).pull 1 rfl)).pull 1 rfl;have e1:=at2.out;have e2:=Y0.out;subst e1 e2;exact h9
  ·obtain rfl:j=pn:=by omega
   have kI:=aa iU;have wX:=aa Υ;clear iU;go_wp2_with fail;obtain⟨PRW,aa0⟩:∃T,aU 0 29 1 Xw j A=T:=⟨_,rfl⟩;obtain⟨PRL,aa1⟩:∃T,cM ((A.zip ai).map (λp=>aU 0 28 5 p.1 p.2.length (flat gl p.2)))=T:=⟨_,rfl⟩;have ak7:=aa aa0;have at4:=aa aa1;rw[aa0,aa1]at kI;clear aa0 aa1;obtain⟨Wg,Wh,rfl⟩:∃la lc,Xw= .slice la j lc:=by
    have h9:=kI.out;rw[←ak7.out]at h9;exact h9.form 0 rfl
   go_loopg [57] kn (λg vi wr=>∃(q:Nat) (lZ:Value) (L:List (TQ×Z.Th)),g+q=kn∧vi=I (q:Int)∧L.length=q∧Hid (L.map (·.2)=(calls.take q).map (λl=>(⟨l,none,0,0,0⟩:Z.Th)))∧Sep w wr (aU 0 132 5 lZ q (flat gp L)::cM (L.map (vK c (.slice Wg j Wh) A))::aJ bs 106 [x0,x1,x2,x3,x4,x5,x6,x7,x8,x9,l4,l5,l6,l7,l8,l9,l_,mf,mh,mi,mj,mm,mo,mq,O mb,.slice Wg j Wh,lZ,I 0,.slice none 0 0,.slice none 0 0]::PRW::PRL::MT mb:: []))
   case atStart=>refine⟨0,.slice none 0 0,[],by omega,rfl,rfl,rfl,?_⟩;have h9:=(kI.pull 2 rfl).ud;exact h9.k5 0 132 5
   case round=>
    obtain⟨q,lZ,L,Pb,rfl,v_,Xg,iU⟩:=hrel;by_cases hq:q<kn
    ·have hqi:(q:Int)<(kn:Int):=by omega
     have hqv:q<wi.length:=by have:=Sf.out;omega
     have Y6:q<calls.length:=by have:=We.out;omega
     obtain⟨xa,uI,GD,xX,-⟩:=(LX.row.fr iU.fr).at hqv;rw[lj]at xX;have hx:=xX _ rfl;clear xX;have Fy:=(LX.out.each q Y6).fr iU.fr;obtain⟨la,lc,Ep⟩:=Fy.len;have h64:=at1.out calls[q] (cJ Y6);have Eo:=aa (fun(w':World) (hf:Fr [] wr w')=>Lh w' wi[q] calls[q].length (flat iw calls[q]) (JF ux (Fy.fr hf)) (ck ux _) (gJ IX _) (by omega));have GH:Hid (calls.take (q+1)=calls.take q++[calls[q]]):=wj Y6;generalize wi[q]=kvj at*;subst Ep;subst uI;have kI:=aa iU;have J4:=aa v_;clear iU Fy;generalize calls[q]=cj at*;obtain⟨Py,Sh⟩:∃n,cj.length=n:=⟨_,rfl⟩;obtain⟨XJ,Ψ⟩:∃x,flat iw cj=x:=⟨_,rfl⟩;have at5:=aa Sh;have Y0:=aa Ψ;simp only[Sh,Ψ]at Eo;rw[Sh]at h64
     (try simp only[Sh]at hx)
     clear Sh Ψ;obtain⟨XT,Y7⟩:∃x,flat gp L=x:=⟨_,rfl⟩;have Rf:=aa Y7;simp only[Y7]at kI;clear Y7;have d4:decide ((64:Int)<(Py:Int))=false:=cW (by omega);have az9:kn≤8:=by have h1:=HC8.out;have h2:=Pj.out;omega
     go_wp2_with fail;obtain⟨tZ,aR,rfl⟩:=kI.form 0 rfl;have HD:=kI.drew;have hB:=HD.ar 2 rfl;have f26:=hB.cell 26;have P2:=hB.az 26;simp only[zg]at f26;obtain⟨i0,iJ,jA,jB,iR⟩:=eA Wc;refine bW [(1,[1,2,3,4,5]),(0,[0]),(2,[6]),(0,[7]),(2,[8]),(3,[9]),(0,[10,11]),(3,[12])] (by kernel_rfl) ?_;simp only[zz];repeat(first|go_big_quiet_step(fail)|apply ax|apply af|apply ag|apply ah)
     refine aA ?_;go_wp2_with fail;refine(Eo.out _ ((Fr.refl [] _).drew)).mono ?_;rintro r w5 ⟨nv,rfl,hN⟩;have Cq:=aa hN.fr;obtain⟨na,nc,rfl⟩:=hN.form;have HS:=aa (HD.fresh hN);clear hN;go_wp2;refine⟨⟨⟨_,(by exact Cq.out)⟩,rfl⟩,?_⟩;repeat(first|go_big_quiet_step(fail)|apply ax|apply af|apply ag|apply ah)
     refine aA ?_;go_wp2;refine⟨⟨⟨_,(by exact Cq.alloc _)⟩,rfl⟩,?_⟩;have HS:=aa (HS.new 132 [.slice na Py nc,.pointer none,I 0,I 0,I 0]);refine ao ?_;go_wp2_with(at_builtin;go_must (refine ch _ rfl _ _ 104 rfl 0 132 i0 _ 5 56 underlying104 iJ jA jB iR rfl (by decide) (.slice tZ q aR) q XT rfl (HS.row 2 rfl) [.slice na Py nc,.pointer none,I 0,I 0,I 0] _ _ rfl (HS.ar 0 rfl) rfl (by simp[Value.oneCell']) (by unfold maxLen;omega) (by omega) (cE _) ?_));intro g2 c2 w6 dy iZ jj kM mw;have h3:=(HS.grown 2 rfl dy iZ (λq e=>by
      rcases jj with h1|h1
      ·exact .inl (h1.trans e)
      ·right;simp only[Value.ownBlock,eX]at e;rw[←e,h1];simp)).tail
     simp only[zs]at h3;have HS:=aa h3;clear h3 dy iZ jj hB HD f26 P2;go_wp2_with fail;have hB:=HS.ar 3 rfl;have f26:=hB.cell 26;have P2:=hB.az 26;simp only[zg]at f26;have h5:=HS.set 3 rfl 26 (.slice (some ⟨g2,0,none⟩) (q+1) c2);simp only[zs]at h5;have HS:=aa h5;clear h5 hB;repeat(first|go_big_quiet_step(fail)|apply ax|apply af|apply ag|apply ah)
     refine ao ?_;go_wp2;refine aj ?_;generalize World.setCell _ _ _=w7 at HS⊢;clear f26 P2;go_wp2;go_roundg (kn-(q+1))
     case measure=>omega
     case rel=>
      have v_:=J4.out;refine⟨q+1,.slice (some ⟨g2,0,none⟩) (q+1) c2,L++[(⟨.slice na Py nc,0⟩,⟨cj,none,0,0,0⟩)],by omega,by go_num,by rw[eE,v_];rfl,(show Hid _ from ?_),?_⟩
      ·show _=_;rw[GH.out,pS,pS,Xg.out];rfl
      ·have e1:=at5.out;have e2:=Y0.out;have e3:=Rf.out;subst e1 e2 e3;rw[pS,nh];have h9:=Θ HS.out;have oo:Sep w w7 (vK c (.slice Wg j Wh) A (⟨.slice na cj.length nc,0⟩,⟨cj,none,0,0,0⟩)::_::_::_::PRW::PRL::MT mb:: []):=Sep.sy (h9.ud.pull 1 rfl);exact(Sep.vh ((oo.pull 2 rfl).pull 1 rfl)).pull 1 rfl
    ·obtain rfl:q=kn:=by omega
     have kI:=aa iU;have J4:=aa v_;clear iU v_;have d5:decide ((q:Int)<(q:Int))=false:=cW (by omega);go_wp2_with fail;rw[yu.out];refine⟨bs,rfl,?_⟩;have v_:=J4.out;have hPN:=DE.out;have xy:=Gm.out;have Υ:=wX.out;have sh:=We.out;have hkv:=Sf.out;have hLM:=Xg.out;rw[oA (by omega)]at hLM;have h9:=kI.out;rw[←ak7.out,←at4.out,YZ.out]at h9;subst v_;subst Υ;have hE:SH (ae c) mb (.slice Wg A.length Wh) (Pm (ae c) mb (.slice Wg A.length Wh)):=Z6 rfl _ _;refine tA (lZ:=lZ) (iV:= .slice none 0 0) (iP:= .slice none 0 0) (aO:=A) (L:=L) (s:=Z.new c calls) hE hLM ?_;have oo:Sep w _ (kJ (.slice Wg A.length Wh) A ai::aU 0 132 5 lZ L.length (flat gp L)::cM (L.map (vK c (.slice Wg A.length Wh) A))::aJ bs 106 _::dP mb (H.ju c):: []):=Sep.iK (Sep.sy ((h9.pull 4 rfl).pull 4 rfl)) (by omega);have u7:=(lH (ty:=51) (k:=6) (en:=j6) (pd:=Z.Row.news) (v:= .slice none 0 0) (L:=[]) (dY:=[]) rfl ((oo.ud).k5 0 51 6)).k5 0 55 13;have xJ:=(((((((u7.pull 4 rfl).pull 3 rfl).pull 3 rfl).pull 3 rfl).pull 4 rfl).pull 6 rfl).pull 6 rfl);unfold Es Pm;rw[qC.out];exact xJ
end Go.Proofs.YtolkmchicplaoaaGreat
namespace Go.Proofs.YtolkmchicplaoaaGreat
open Go.RowKit Go.aS Go.aS.I_ Go.aS.Y Go.Maps Go.aS.C
def CJ (n):(madeCells #[U 0] n).toList=List.replicate n (U 0):=by
 apply uN;intro i;simp only[madeCells,Value.cells];rw[Array.getElem?_toList,Array.getElem?_map,yK,Array.getElem?_range];by_cases hi:i<n
 ·rw[aB hi,aB hi];simp only[Option.map_some];rw[show i%(#[U 0]:Array Value).size=0 from by simp[Nat.mod_one]];rfl
 ·rw[aq hi,aq hi];rfl
def Gn (c:Y.cA):M→List Ev→Prop
 |_,[]=>True
 |m,e::l=>Ko c m e∧Gn c (m.step e.aw e.op) l
def o6 (c:Y.cA):List Ev→Int→Int
 |[],n=>n
 |e::l,n=>o6 c l (Gj c e n)
def BG {P}{fn:Func}{p q r:Tmp}{ty:TypeId}(h:fn.results=#[.cell p ty,.tmp q,.tmp r])(tmps:Array Value)(w g)(t:TypeId)(cs:Array Value)(fr:Nat×Nat)(d:TypeDesc)
 (hp:tmps.getD p undef=O g)(hg:w.heap[g]?=some (.cells cs t fr))
 (hu:P.underlying ty=some d)(hd:(match d with| .struct _| .array _ _=>true|_=>false)=true)(hi:(P.info? ty).map (·.size)=some cs.size):
 (results fn tmps).run P w= .ok (.tuple #[.agg cs,tmps.getD q undef,tmps.getD r undef]) w:=by
 have hp':tmps[p]?.getD undef=O g:=by simpa using hp
 simp[results,h,hp',asAddr,run_loadVar_row w g t ty cs fr d hg hu hd hi]
def aa2 {A:Prop}{G S:Nat→Nat→Nat→World→Prop}(h:(∀X Y Z wF,S X Y Z wF→G X Y Z wF)→A)(x:∀X Y Z wF,S X Y Z wF→G X Y Z wF):A:=h x
def AuS (w0:World)(cs cl:List Value)(bc rb bm:Nat)(MT:Nat→a_)(bn:Nat)(R:List a_)(mb g ab:Nat)(w:World):Prop:=
 Sep w0 w (aJ ab 155 (cs++[O mb,.slice (some ⟨g,0,none⟩) bn bn,I 0,I 0,I 0])::MT mb::aU 0 26 1 (.slice (some ⟨g,0,none⟩) bn bn) bn (List.replicate bn (U 0))::aJ bm 58 cs::aJ rb 98 [I 0,I 0,I 0]::aJ bc 31 cl::R)
def zq45:(∀{w0 w R c}(aE:Y.Ok c){mb m}(hlen:(m.cells.length:Int)=Y.size c)(k9:m.trace.length≤100000)(ak8:0≤(uC c m 0 0 0).1)(Sj:uC c m 4 ((uC c m 0 0 0).1%c.t) 0≠(1,(uC c m 0 0 0).2))(Gk:Km c m=true)(hS:Sep w0 w (dP mb m::R)),Calls Tryz.prog 34 #[db c,O mb] w λr w'=>∃sb,r= .returned (.tuple #[O sb,I 0])∧Sep w0 w' (rA sb (j7 c m)::dP mb m::R))∧(∀{w0 w R c}(aE:Y.Ok c){v L}(hl:L.length≤100000)(hA:∀w',Sep w0 w' R→dB kO 10 w' v L)(tQ:Gn c (H.ju c) L)(hS:Sep w0 w R),jh 35 #[db c,v] w (.tuple #[.agg #[I (o6 c L 0),I 0,I 0],I 0,I 0]) w0 R):=by
 refine⟨?_,?_⟩;focus
  intro w0 w R c aE mb m hlen k9 ak8 Sj Gk hS;have yG:=aa (λw' (RR:List a_) ab mb lv kind i k (NZ:Sep w0 w' (aJ ab 155 (Eu c mb lv 0 0 0)::dP mb m::RR))=>xx aE kind i k NZ);have mX:=aa (λw' (RR:List a_) ab mb lv (NZ:Sep w0 w' (aJ ab 155 (Eu c mb lv 0 0 0)::dP mb m::RR))=>Jk aE Gk NZ);have GQ:=aa (λw'=>u5 w' c aE);have S0:=aa (λw'=>fQ w' (ae c) (Y.size c) rfl rfl);have HZM:=aa (fun(w':World) vc vt (h:gD w' mb vc vt m)=>EB w' mb vc vt m h);have Eo:=aa (fun(w':World) vc vt (h:gD w' mb vc vt m) hG=>OI w' mb vc vt m h hG k9);have AU:=aE.t1;have sg:=aE.t8;have NL:=Int.emod_nonneg (uC c m 0 0 0).1 (show c.t≠0 by omega);have Kz:=uM (uC c m 0 0 0).1 (show 0<c.t by omega);have VA:Int.tmod (uC c m 0 0 0).1 c.t=(uC c m 0 0 0).1%c.t:=jR ak8;obtain⟨q,ZP⟩:∃q,(uC c m 0 0 0).1%c.t=q:=⟨_,rfl⟩;rw[ZP]at NL Kz VA Sj;have B6:=lR c.t (by omega) (by omega);have UM:IntKind.i64.wrap q=q:=bf _ (by omega) (by omega);have as7:¬c.t=0:=by omega
  clear aE Gk ZP NL Kz AU sg k9;have LZ:=aa Sj;have Q7:=aa VA;clear Sj VA ak8;unfold uC at LZ Q7;have Da:(gT c)[0]?=some (I c.t):=rfl
 rotate_left;focus
  intro w0 w R c aE v L hl hA tQ hS;obtain⟨va,vc,rfl⟩:=(hA w hS).len;have GQ:=aa (λw'=>u5 w' c aE);have Kq:=aa (λw'=>zx w' c aE);have nU:=aE.b1;have kF:=aE.nZ;obtain⟨bn,VL⟩:∃n:Nat,(n:Int)=c.b:=⟨c.b.toNat,by omega⟩;have at6:bn≤1000:=by omega
  have aa3:=aa (λw' (RR:List a_) (ab mb:Nat) (lv:Value) (sw:Int) (N3:0≤sw∧sw≤1000000) (m:M) (rm:m.trace.length≤100000) (e:Ev) (he:Ko c m e) (h:Sep w0 w' (aJ ab 155 (Eu c mb lv sw 0 0)::dP mb m::aU 0 26 1 lv bn (List.replicate bn (Value.int .u64 0))::RR))=>Nk aE N3 rm at6 e he h);have Da:(gT c)[1]?=some (I (bn:Int)):=by rw[VL];rfl
 all_goals have qK:(gT c).length=6:=rfl;have AG:(ae c).length=24:=rfl;have GL:∀v∈ae c,v.oneCell'=true:=by unfold ae;simp[Value.oneCell']
 rotate_left;focus
  unfold Eu at yG mX
 rotate_left;focus
  obtain⟨i0,iJ,jA,jB,iR⟩:=eA wZ;clear aE VL nU kF;have HA:=aa hA;have HG:=aa tQ;clear hA tQ;have at7:(H.ju c).trace.length=0:=rfl;obtain⟨M0,hM0⟩:∃M0,H.ju c=M0:=⟨_,rfl⟩;rw[hM0]at Kq HG at7;clear hM0;obtain⟨MT,V5⟩:∃T:Nat→a_,T=λmb=>dP mb M0:=⟨_,rfl⟩;have YZ:=aa V5;have Kq:Hid (∀w',Calls Tryz.prog 22 #[aY c] w' λe qe=>∃b,e= .returned (O b)∧Sep w' qe [MT b]):=aa (by rw[V5];exact Kq.out);clear V5;unfold Eu at aa3
 all_goals rw[show db c= .agg (gT c).toArray from rfl]at*;rw[show aY c= .agg (ae c).toArray from rfl]at*;generalize gT c=cl at*
 rotate_left;focus
  generalize c.t=tn at*
 all_goals generalize ae c=cs at*;obtain⟨x0,x1,x2,x3,x4,x5,x6,x7,x8,x9,l4,l5,l6,l7,l8,l9,l_,mf,mh,mi,mj,mm,mo,mq,rfl⟩:=rQ AG
 focus simp only[za]at yG mX;generalize Y.size c=sz at*;have o8:(m.cells.length:Int)=sz:=hlen;have vG:=aa hlen;generalize(m.cells.length:Int)=nn at*;subst o8;clear vG hlen;have Da:=Da;have HS:=aa (hS.new 31 cl);clear hS;go_in;go_wp2_with(refine ay 31 _ rfl rfl _ 0 rfl cl _ (HS.ar 0 rfl).range underlying31 rfl (by rw[qK];kernel_rfl) ?_)
 rotate_left;focus
  simp only[za]at aa3;have HS:=aa ((hS.new 31 cl).new 98 [I 0,I 0,I 0]);clear hS;obtain⟨X1,tM⟩:∃x,o6 c L 0=x:=⟨_,rfl⟩;have J2:=aa tM;rw[tM];clear tM;obtain⟨n,hn⟩:∃n,L.length=n:=⟨_,rfl⟩;have HN:=aa hn;have HA:Hid (∀w',Sep w0 w' R→dB kO 10 w' (.slice va n vc) L):=aa (by rw[←hn];exact HA.out);rw[hn]at hl⊢;clear hn;delta jh;go_in;go_wp2_with(refine ay 31 _ rfl rfl _ 0 rfl cl _ (HS.ar 1 rfl).range underlying31 rfl (by rw[qK];kernel_rfl) ?_)
 all_goals refine(GQ.out _).kk λw1 hf=>?_;have HS:=aa ((HS.c_ hf).new 58 [x0,x1,x2,x3,x4,x5,x6,x7,x8,x9,l4,l5,l6,l7,l8,l9,l_,mf,mh,mi,mj,mm,mo,mq]);go_wp2_with(refine dV 58 _ _ rfl _ _ rfl rfl rfl (by kernel_rfl) rfl (iX GL) ?_)
 rotate_left;focus
  generalize World.alloc _ _=w2 at*;generalize w1.heap.size=bm at*;generalize w.heap.size=bc at*;clear hf;have HD:=HS.drew;have hm:=(HD.ar 0 rfl).range;refine bW [(1,[0,1,2,3,4,5,6,7,9]),(2,[8]),(3,[10]),(0,[11,12])] (by kernel_rfl) ?_;simp only[zz];refine af ?_;repeat(first|(refine ak 58 _ bm 0 [x0,x1,x2,x3,x4,x5,x6,x7,x8,x9,l4,l5,l6,l7,l8,l9,l_,mf,mh,mi,mj,mm,mo,mq] _ rfl rfl rfl (aG hm (by simp)) underlying58 rfl (by kernel_rfl) ?_;simp only[Act.put,aZ,zs])|go_big_quiet_step (fail)|quiet_step (fail))
  refine ax ?_;refine aA ?_;go_wp2_with fail;obtain⟨hG,vc,vt,hM⟩:=kY HD 2 rfl;refine(HZM.out _ _ _ hM).mono ?_;rintro r w3 ⟨rfl,rfl⟩;go_wp2;refine⟨⟨⟨_,(by exact Fr.refl _ _)⟩,rfl⟩,?_⟩;repeat(first|go_big_quiet_step(fail)|apply ax|apply af|apply ag|apply ah)
  refine ao ?_;go_wp2_with fail;refine(S0.out _).kk λw3 hf=>?_;have HS:=aa (HD.c_ hf);clear hf hm HD hM;go_wp2_with fail;repeat(first|go_big_quiet_step(fail)|apply ax|apply af|apply ag|apply ah)
  refine aj ?_;go_wp2_with fail;have HD:=HS.drew;have hm:=(HD.ar 0 rfl).range;refine bW [(1,[0,1]),(2,[2]),(0,[3]),(3,[4]),(0,[5])] (by kernel_rfl) ?_;simp only[zz];refine af ?_
 rotate_left;focus
  simp only[cG]at HS;generalize World.alloc w1 _=w2 at*;generalize w1.heap.size=bm at*;generalize oe:w.heap.size+1=rb at*;generalize w.heap.size=bc at*;clear hf oe;have hm:=(HS.ar 0 rfl).range;have f1:=(HS.ar 2 rfl).aT 1 Da;refine gR ([2,5],[7]) [] (by kernel_rfl) ?_;refine gS (N:=5) [0,1,3,4] (by kernel_rfl) ⟨⟨_,Fr.refl _ _⟩,rfl⟩ ?_;simp only[zz]
 all_goals
  repeat(first|(refine ak 58 _ bm 0 [x0,x1,x2,x3,x4,x5,x6,x7,x8,x9,l4,l5,l6,l7,l8,l9,l_,mf,mh,mi,mj,mm,mo,mq] _ rfl rfl rfl (aG hm (by simp)) underlying58 rfl (by kernel_rfl) ?_;simp only[Act.put,aZ,zs])|go_big_quiet_step (fail)|quiet_step (fail))
  refine ax ?_
 rotate_left;focus
  refine aA ?_;go_wp2_with fail;obtain⟨-,vc,vt,hM⟩:=kY HD 2 rfl;refine(Eo.out _ _ _ hM hG).mono ?_;rintro r w4 ⟨cb,rfl,hF⟩;have HF:=aa hF.fr;have HS:=aa (HD.fresh hF);clear hM HD hm hF;go_wp2;refine⟨⟨⟨_,(by exact HF.out)⟩,rfl⟩,?_⟩;repeat(first|go_big_quiet_step(fail)|apply ax|apply af|apply ag|apply ah)
  refine ao ?_;go_wp2_with fail;repeat(first|go_big_quiet_step(fail)|apply ax|apply af|apply ag|apply ah)
  refine aj ?_;have HS:=aa (HS.new 155 [x0,x1,x2,x3,x4,x5,x6,x7,x8,x9,l4,l5,l6,l7,l8,l9,l_,mf,mh,mi,mj,mm,mo,mq,O cb,.slice none 0 0,I 0,I 0,I 0]);go_wp2_with fail;generalize World.alloc _ _=w5 at HS⊢;generalize w4.heap.size=ab at HS⊢;refine(yG.out _ _ ab cb _ 0 0 0 HS.out).kq HS λw6 HS=>?_;obtain⟨⟨n0,n1⟩,Vg⟩:∃p,(lW m (at_ c 0 0 0)).1=p:=⟨_,rfl⟩;have kL:=Q7.out;have j_:=LZ.out;rw[Vg]at kL j_⊢;dsimp only at kL j_⊢;have LZ:=aa j_;clear j_ Vg;have HS:=aa (HS.new 68 [U n0,U n1]);have oX:∀z9∈ [U n0,U n1],z9.oneCell'=true:=by simp[Value.oneCell']
  have k0:=(HS.ar 0 rfl).cell 0;have f0:=(HS.ar 4 rfl).aT 0 Da;simp only[gn]at k0;go_wp2_with(refine dV 68 _ _ rfl _ _ rfl rfl rfl (by kernel_rfl) rfl (iX oX) ?_);generalize World.alloc w6 _=w7 at*;generalize w6.heap.size=nb at*;have k1:=(HS.ar 0 rfl).cell 1;simp only[zg]at k1;clear k0 f0;refine bW [(1,[0,1,3,4,5]),(2,[2]),(0,[6])] (by kernel_rfl) ?_;simp only[zz];have HD:=HS.drew;refine af ?_;repeat go_big_quiet_step(fail)
  refine ax ?_;refine aA ?_;go_wp2_with fail;refine(yG.out _ _ ab cb _ 4 q 0 HD.tail).kk λw8 hf=>?_;have HF:=aa hf;have HS:=aa (HD.c_ hf);clear hf HD k1;obtain⟨⟨o0,o1⟩,hoo⟩:∃p,(lW m (at_ c 4 q 0)).1=p:=⟨_,rfl⟩;have j_:=LZ.out;rw[hoo]at j_⊢;dsimp only at j_⊢;clear hoo LZ;have heq:=λw=>vE w o0 o1 1 n1;rw[cW (show¬(o0=1∧o1=n1)from λh=>j_ (by rw[h.1,h.2]))]at heq;clear j_;go_wp2;refine⟨⟨⟨_,(by exact HF.out)⟩,rfl⟩,?_⟩;repeat(first|go_big_quiet_step(fail)|apply ax|apply af|apply ag|apply ah)
  refine aj ?_;clear heq;go_wp2_with fail;refine(mX.out _ _ ab cb _ HS.tail).mono ?_;rintro r w9 ⟨sb,rfl,h9⟩;have HS:=aa h9;clear h9;go_wp2;go_ret2
 rotate_left;focus
  clear hm f1;have HS:=aa HS.drew;generalize World.drew _=wd at HS⊢;have HF:=aa (Fr.refl [] wd)
 rotate_left
 ·exact⟨sb,rfl,((((HS.pull 1 rfl).tail.pull 1 rfl).tail.pull 1 rfl).tail.pull 1 rfl).tail⟩
 ·apply aa2 (S:=AuS w0 [x0,x1,x2,x3,x4,x5,x6,x7,x8,x9,l4,l5,l6,l7,l8,l9,l_,mf,mh,mi,mj,mm,mo,mq] cl bc rb bm MT bn R)
  ·intro HR;refine dN (N:=4) 2 5 (by kernel_rfl) rfl rfl ?_ ?_
   ·go_wp2_with fail;refine(Kq.out _).mono ?_;rintro r w3 ⟨mb,rfl,hB⟩;have HF:=aa (HF.trans hB.fr);have HS:=aa (HS.fresh hB.jm);clear hB;go_wp2;refine⟨⟨⟨_,(by exact HF.out)⟩,rfl⟩,?_⟩;refine bA (N:=3) 5 (by kernel_rfl) rfl ?_;refine wpList_make_full _ rfl _ _ 49 rfl 0 26 i0 _ 1 underlying49 iJ jA jB .i64 .i64 _ _ bn rfl rfl rfl rfl (by rw[iR];omega) (by unfold maxLen;omega) (cE _) ?_;intro w4 ho uF;rw[lj,show(Value.int IntKind.u64 0).cells=#[U 0]from rfl,CJ]at ho;have f3:=(Fr.refl [] _).grown uF (λk e=>by cases e);have HS:=aa (HS.out.push f3 (T:=aU 0 26 1 (.slice (some ⟨_,0,none⟩) bn bn) bn (List.replicate bn (U 0))) (fp:=[_]) ⟨rfl,ho⟩ (by simp));have HF:=aa (HF.trans f3);clear ho uF f3;go_wp2;refine⟨⟨⟨_,(by exact HF.out)⟩,rfl⟩,?_⟩;generalize w3.heap.size=g at HS⊢;refine bP (N:=2) [6] (by kernel_rfl) ?_;simp only[zz];repeat(first|go_big_quiet_step (fail)|quiet_step (fail))
    refine ax ?_;refine dK (N:=1) 7 (by kernel_rfl) rfl ?_;have HS:=aa (HS.new 155 [x0,x1,x2,x3,x4,x5,x6,x7,x8,x9,l4,l5,l6,l7,l8,l9,l_,mf,mh,mi,mj,mm,mo,mq,O mb,.slice (some ⟨g,0,none⟩) bn bn,I 0,I 0,I 0]);go_wp2_with fail;generalize World.alloc w4 _=wE at HS⊢;generalize World.heap w4=hp at HS⊢;generalize hp.size=ab at HS⊢;refine bP (N:=0) [8] (by kernel_rfl) ?_;simp only[zz];repeat(first|go_big_quiet_step (fail)|quiet_step (fail))
    refine ax ?_;refine step_done (by kernel_rfl) ?_;exact HR mb g ab wE ((HS.pull 2 rfl).pull 1 rfl)
   ·refine wpList_make_full _ rfl _ _ 49 rfl 0 26 i0 _ 1 underlying49 iJ jA jB .i64 .i64 _ _ bn rfl rfl rfl rfl (by rw[iR];omega) (by unfold maxLen;omega) (cE _) ?_;intro w4 ho uF;rw[lj,show(Value.int IntKind.u64 0).cells=#[U 0]from rfl,CJ]at ho;have f3:=(Fr.refl [] _).grown uF (λk e=>by cases e);have HS:=aa (HS.out.push f3 (T:=aU 0 26 1 (.slice (some ⟨_,0,none⟩) bn bn) bn (List.replicate bn (U 0))) (fp:=[_]) ⟨rfl,ho⟩ (by simp));have HF:=aa (HF.trans f3);clear ho uF f3;go_wp2;refine⟨⟨⟨_,(by exact HF.out)⟩,rfl⟩,?_⟩;refine bA (N:=3) 2 (by kernel_rfl) rfl ?_;go_wp2_with fail;refine(Kq.out _).mono ?_;rintro r w3 ⟨mb,rfl,hB⟩;have HF:=aa (HF.trans hB.fr);have HS:=aa (HS.fresh hB.jm);clear hB;go_wp2;refine⟨⟨⟨_,(by exact HF.out)⟩,rfl⟩,?_⟩;generalize wd.heap.size=g at HS⊢;refine bP (N:=2) [6] (by kernel_rfl) ?_;simp only[zz];repeat(first|go_big_quiet_step (fail)|quiet_step (fail))
    refine ax ?_;refine dK (N:=1) 7 (by kernel_rfl) rfl ?_;have HS:=aa (HS.new 155 [x0,x1,x2,x3,x4,x5,x6,x7,x8,x9,l4,l5,l6,l7,l8,l9,l_,mf,mh,mi,mj,mm,mo,mq,O mb,.slice (some ⟨g,0,none⟩) bn bn,I 0,I 0,I 0]);go_wp2_with fail;generalize World.alloc w3 _=wE at HS⊢;generalize World.heap w3=hp at HS⊢;generalize hp.size=ab at HS⊢;refine bP (N:=0) [8] (by kernel_rfl) ?_;simp only[zz];repeat(first|go_big_quiet_step (fail)|quiet_step (fail))
    refine ax ?_;refine step_done (by kernel_rfl) ?_;exact HR mb g ab wE (HS.out)
  ·intro mb g ab wF hS;have HS:=aa hS;clear hS HF;unfold AuS at HS;simp only[za]at HS;rw[YZ.out]at HS;go_wp2_with fail;go_loopg [8,31] n (λgg v8 vi wr=>∃(j:Nat) (m:M) (sw:Int),gg+j=n∧v8=I 0∧vi=I (j:Int)∧m.trace.length≤j∧0≤sw∧sw≤j∧Gn c m (L.drop j)∧o6 c (L.drop j) sw=X1∧Sep w0 wr (aJ ab 155 [x0,x1,x2,x3,x4,x5,x6,x7,x8,x9,l4,l5,l6,l7,l8,l9,l_,mf,mh,mi,mj,mm,mo,mq,O mb,.slice (some ⟨g,0,none⟩) bn bn,I sw,I 0,I 0]::dP mb m::aU 0 26 1 (.slice (some ⟨g,0,none⟩) bn bn) bn (List.replicate bn (U 0))::aJ rb 98 [I 0,I 0,I 0]::R))
   case atStart=>refine⟨0,M0,0,by omega,rfl,rfl,by omega,by omega,by omega,HG.out,J2.out,?_⟩;have h9:=(((HS.pull 3 rfl).tail).pull 4 rfl).tail;exact h9
   case round=>
    clear HS J2 HG;obtain⟨j,m,sw,yy,rfl,rfl,rm,wK,JH,yk,N3,iU⟩:=hrel;have HS:=aa iU;have JY:=aa yk;have ν:=aa N3;clear iU yk N3;by_cases hj:j<n
    ·have s9:(j:Int)<(n:Int):=by omega
     have mW:j<L.length:=by rw[HN.out];exact hj
     have vp:L.drop j=L[j]::L.drop (j+1):=pO mW;rw[vp]at JY ν;obtain⟨xa,rfl,uI,c0,c1⟩:=dB.at (HA.out _ HS.tail.tail.tail.tail) mW;generalize yh:L.drop (j+1)=rest at*;have Kl:=aa yh;clear yh vp;generalize L[j]=e at*;obtain⟨gx,ak9⟩:=JY.out;have at8:=aa ak9;have au0:Hid (o6 c rest (Gj c e sw)=X1):=ν;have Bs:Gj c e sw=sw∨Gj c e sw=sw+1:=by unfold Gj;split<;>simp
     have k9:=C.G0 m e.aw e.op;have Bi:=aa (λw' RR hS=>aa3.out w' RR ab mb (.slice (some ⟨g,0,none⟩) bn bn) sw ⟨wK,by omega⟩ m (by omega) e gx hS);generalize Gj c e sw=sw2 at*;generalize m.step e.aw e.op=m2 at*;clear gx ak9 ν JY;obtain⟨aw,⟨ek,ea,ov,os,nv,ns⟩,⟨t0,t1,t2⟩⟩:=e;unfold kO at c0 c1 Bi;dsimp only at c0 c1 Bi;have HS:=aa (HS.new 86 [I aw,I ek,I ea,U ov,U os,U nv,U ns,U t0,U t1,.bool t2]);have e0:=c0 _ rfl;have e1:=c1 0 _ rfl;have e2:=c1 1 _ rfl;have e3:=c1 2 _ rfl;have e4:=c1 3 _ rfl;have e5:=c1 4 _ rfl;have e6:=c1 5 _ rfl;have e7:=c1 6 _ rfl;have e8:=c1 7 _ rfl;have e9:=c1 8 _ rfl;clear c0 c1;go_wp2_with fail;generalize World.alloc wr _=w8 at HS⊢;generalize wr.heap.size=eb at HS⊢;clear e0 e1 e2 e3 e4 e5 e6 e7 e8 e9 uI;refine(Bi.out _ _ HS.tail).kh λw9 HS=>?_;clear Bi;go_wp2;go_roundg (n-(j+1))
     case measure=>omega
     case rel=>exact⟨j+1,m2,sw2,by omega,rfl,by go_num,by omega,by omega,by omega,by rw[Kl.out];exact at8.out,by rw[Kl.out];exact au0.out,HS.out⟩
    ·obtain rfl:j=n:=by omega
     have N3:=ν.out;rw[List.drop_of_length_le (by have:=HN.out;omega)]at N3;have au1:sw=X1:=N3;subst au1;clear N3;have hrp:wr.rangeAt ab 26 [I sw,I 0,I 0]:=λq v hq=>by
      have hq6:q<3:=(dE.1 hq).1;rw[(HS.ar 0 rfl).cell];obtain rfl|rfl|rfl:q=0∨q=1∨q=2:=by omega
      all_goals exact hq
     go_wp2_with(first|refine ay 98 _ rfl rfl _ 26 rfl [.int .i64 sw,.int .i64 0,.int .i64 0] _ hrp underlying98 rfl (by kernel_rfl) ?_|(refine aC HS.out 3 rfl [.int .i64 sw,.int .i64 0,.int .i64 0] 98 _ _ rfl rfl rfl rfl rfl (by kernel_rfl) (by simp[Value.oneCell']) (λwA hA _=>?_);simp only[zs]at hA;have O8:=aa hA;clear hA));refine aV (BG rfl _ _ rb 98 ([I sw,I 0,I 0]:List Value).toArray (0,0) _ rfl (O8.ar 3 rfl) underlying98 rfl (by kernel_rfl)) rfl ?_;exact⟨rfl,O8.tail.tail.tail.tail⟩
def Si:=@zq45.1
def Np:=@zq45.2
