/- Proved: for every input WholeAgrees answers true and leaves its arguments as they were; no condition. -/
import Derived.ProofKit
import Derived.OpenShut
import Derived.ChangeOld
import Derived.Below
import Derived.Test.YtolkmchicplaoaaGreatG19
import Derived.Test.YtolkmchicplaoaaGreatG20
set_option linter.all false
set_option maxHeartbeats 16000000
set_option maxRecDepth 100000
open Go.Proofs.Tryz
namespace Go.Proofs.YtolkmchicplaoaaGreat
open Go.RowKit Go.aS Go.aS.I_ Go.aS.Y
structure yH {T:Type}(en:T→List Value)(n:Nat)(w:World)(pv:Value)(aO:List Value)(L:List (List T)):Prop where
 row:dB (λv=> [v]) 1 w pv aO
 len:aO.length=L.length
 each:∀k (h:k<L.length),dB en n w (aO[k]'(by omega)) L[k]
def yH.fr {T:Type}{en:T→List Value}{n w w' pv aO L}(h:yH en n w pv aO L)(f:Fr [] w w'):yH en n w' pv aO L:=
 ⟨h.row.fr f,h.len,λk hk=>(h.each k hk).fr f⟩
def nT {T:Type}(m:Nat)(L:List (List T)):Bool:=L.all (λl=>decide (l.length≤m))
def AN {T:Type}{m:Nat}{L:List (List T)}{j:Nat}(hj:j<L.length)(h:nT m (L.take j)=true):nT m (L.take (j+1))=decide (L[j].length≤m):=by
 unfold nT at h⊢;rw[wj hj,List.all_append,h];simp
def Gq {T:Type}{m:Nat}{L:List (List T)}{j:Nat}(hj:j<L.length)(h:¬L[j].length≤m):nT m L=false:=by
 unfold nT;rw[←Bool.not_eq_true,mC];intro h2;exact h (oC (h2 _ (cJ hj)))
def CK (x:Int):List Value:=[I x]
def Jo {w c}(aE:Y.Ok c){pv kv aO wi ai calls}(hp:cL w pv aO ai)(hk:vY w kv wi calls)(B5:ai.length≤32)(mr:(calls.length:Int)=c.t)(Se:∀l∈calls,l.length≤64)
 (Wp:PI ai)(uX:c.fi≤1000000000000000)(L9:SI c ai c.fi (Z.new c calls)){sv aK}(hA:dB CK 1 w sv aK)(AX:aK.length≤maxLen){Φ:Z.St→Prop}(h0:Φ (Z.new c calls))(hΦ:∀s t,Φ s→Φ (Z.pick c ai t s).1):
 Calls Tryz.prog 11 #[db c,pv,kv,sv] w λr w'=>∃b s,r= .returned (O b)∧Φ s∧SI c ai c.fi s∧Sep w w' [dx c ai b s]:=by
 obtain⟨sa,sc,rfl⟩:=hA.len;have Q7:=aa (fun(w':World) (f:Fr [] w w')=>Gl aE (hp.fr f) (hk.fr f) B5 mr Se);have yG:=aa (fun(w0 w':World) (R:List a_) (b:Nat) (s:Z.St) (t:Int) (hI:SI c ai c.fi s) (h:Sep w0 w' (dx c ai b s::R))=>AJ aE Wp uX hI t h);have HPH:=aa hΦ;have H0:=aa h0;have HSI:=aa L9;have HA:=aa hA;clear aE hp hk B5 mr Se Wp uX L9 hA h0 hΦ;rw[show db c= .agg (gT c).toArray from rfl]at*;have HS:=aa ((Sep.nil (Fr.refl [] w)).new 31 (gT c));have qK:(gT c).length=6:=rfl;generalize gT c=cl at*;obtain⟨n,hn⟩:∃n,aK.length=n:=⟨_,rfl⟩;have HN:=aa hn;rw[hn]at AX;simp only[hn]at HA⊢;clear hn;unfold maxLen at AX;go_in;go_wp2_with(refine ay 31 _ rfl rfl _ 0 rfl cl _ (HS.ar 0 rfl).range underlying31 rfl (by rw[qK];kernel_rfl) ?_);generalize World.alloc _ _=w1 at HS⊢;generalize w.heap.size=cb at HS⊢;refine(Q7.out _ HS.fr).mono ?_;rintro r w2 ⟨b,rfl,h2⟩;have HS:=aa (HS.fresh h2.jm).swap;have HS:Hid (Sep w w2 [dx c ai b (Z.new c calls)]):=aa HS.tail;clear h2;go_wp2_with fail;go_loopg [24] n (λg vi wr=>∃(j:Nat) (s:Z.St),g+j=n∧vi=I (j:Int)∧Φ s∧SI c ai c.fi s∧Sep w wr [dx c ai b s])
 case atStart=>exact⟨0,_,by omega,rfl,H0.out,HSI.out,HS.out⟩
 case round=>
  clear HS H0 HSI;obtain⟨j,s,yy,rfl,hf,hI,hS⟩:=hrel;have HS:=aa hS;have HF:=aa hf;clear hS hf;by_cases hj:j<n
  ·have s9:(j:Int)<(n:Int):=by omega
   have mW:j<aK.length:=by have:=HN.out;omega
   obtain⟨xa,rfl,GD,xX,-⟩:=(HA.fr HS.fr).at mW;rw[lj]at xX;have hx:=xX _ rfl;clear xX;generalize aK[j]=t at*;go_wp2_with fail;refine(yG.out _ _ _ _ _ t hI HS.out).mono ?_;rintro r w3 ⟨rfl,uH,h3⟩;have HS:=aa h3;have lU:=aa (HPH.out _ t HF.out);clear h3 hx;go_wp2;go_roundg (n-(j+1))
   case measure=>omega
   case rel=>exact⟨j+1,_,by omega,by go_num,lU.out,uH,HS.out⟩
  ·obtain rfl:j=n:=by omega
   go_wp2;go_ret;exact⟨b,s,rfl,HF.out,hI,HS.out⟩
def aD7 {c:Y.cA}{ai:List (List In)}{t:Int}{s:Z.St}{i:Nat}(hi:(i:Int)≠t):Z.iO (Z.pick c ai t s).1 i=Z.iO s i∧(Z.pick c ai t s).1.iB.length=s.iB.length∧s.aK≤(Z.pick c ai t s).1.aK:=by
 unfold Z.pick;split
 ·exact⟨rfl,rfl,iu _⟩
 rename_i h;have hid:Z.idle s t=false:=by
  cases hh:Z.idle s t with
  |false=>rfl
  |true=>exact absurd (.inl hh) h
 have ht:0≤t∧t<s.iB.length:=by
  unfold Z.idle at hid;rw[Bool.or_eq_false_iff]at hid;have:=uL hid.1;omega
 have pg:t.toNat≠i:=by omega
 have nk:∀(l:List Z.Th) u,(l.set t.toNat u).getD i Z.Um=l.getD i Z.Um:=by
  intro l u;rw[cO,dF pg,←cO]
 have aI5:∀m k s2,Z.iO (Z.told t.toNat m k s2) i=Z.iO s2 i∧(Z.told t.toNat m k s2).iB.length=s2.iB.length∧(Z.told t.toNat m k s2).aK=s2.aK:=by
  intro m k s2;unfold Z.told Z.iO;dsimp only;split
  ·exact⟨nk _ _,cF,rfl⟩
  ·exact⟨nk _ _,cF,rfl⟩
 have pD:∀s2,Z.iO (Z.ig c ai t.toNat s2) i=Z.iO s2 i∧(Z.ig c ai t.toNat s2).iB.length=s2.iB.length∧(Z.ig c ai t.toNat s2).aK=s2.aK:=by
  intro s2;unfold Z.ig;split
  ·exact⟨rfl,rfl,rfl⟩
  ·exact aI5 _ _ _
 dsimp only;have h1:=pD (if(Z.iO {s with aK:=s.aK+1} t.toNat).at_.isNone=true then Z.dI ai t.toNat {s with aK:=s.aK+1}else{s with aK:=s.aK+1});rw[h1.1,h1.2.1,h1.2.2];split
 ·unfold Z.dI Z.EX;dsimp only;exact⟨nk _ _,cF,by omega⟩
 ·exact⟨rfl,rfl,by dsimp only;omega⟩
def Rest (s:Z.St)(t:Int):Prop:=Z.idle s t=true∨65536≤s.aK
def aG1 {c ai s t}(h:(Z.pick c ai t s).2=false):(Z.pick c ai t s).1=s∧Rest s t:=by
 unfold Z.pick at h⊢;split
 ·rename_i e;exact⟨rfl,e⟩
 ·rename_i e;rw[aq e]at h;cases h
def aG2 {c:Y.cA}{ai:List (List In)}{s:Z.St}{t:Int}{i:Nat}(hi:(i:Int)≠t)(h:Rest s i):Rest (Z.pick c ai t s).1 i:=by
 have hp:=aD7 (c:=c) (ai:=ai) (s:=s) hi;rcases h with h|h
 ·left;unfold Z.idle at h⊢;rw[hp.2.1,dU]at*;rw[hp.1];exact h
 ·right;omega
def aD8 {c ai s t}(h:(Z.pick c ai t s).2=true):(Z.pick c ai t s).1.aK=s.aK+1∧s.aK<65536:=by
 unfold Z.pick at h⊢;split
 ·rename_i e;rw[aB e]at h;cases h
 rename_i e;refine⟨?_,by omega⟩;have aI5:∀m k s2,(Z.told t.toNat m k s2).aK=s2.aK:=by
  intro m k s2;unfold Z.told;dsimp only;split<;>rfl
 have pD:∀s2,(Z.ig c ai t.toNat s2).aK=s2.aK:=by
  intro s2;unfold Z.ig;split
  ·rfl
  ·exact aI5 _ _ _
 dsimp only;rw[pD];split
 ·rfl
 ·rfl
def aD9 {w0 w R c}(aE:Y.Ok c){ai}(Wp:PI ai)(uX:c.fi≤1000000000000000){b s0}(Mb:SI c ai c.fi s0){Φ:Z.St→Prop}(h0:Φ s0)(hΦ:∀s t,Φ s→Φ (Z.pick c ai t s).1)(hS:Sep w0 w (dx c ai b s0::R)):
 Calls Tryz.prog 13 #[db c,O b] w λr w'=>r=E∧∃s,Φ s∧SI c ai c.fi s∧(∀t:Nat,(t:Int)<c.t→Rest s t)∧Sep w0 w' (dx c ai b s::R):=by
 have yG:=aa (λw' (R:List a_) (b:Nat) (s:Z.St) (t:Int) (hI:SI c ai c.fi s) (h:Sep w0 w' (dx c ai b s::R))=>AJ aE Wp uX hI t h);have HPH:=aa hΦ;have H0:=aa h0;have AU:=aE.t1;have sg:=aE.t8;clear aE Wp uX h0 hΦ;rw[show db c= .agg (gT c).toArray from rfl]at*;have HS:=aa (hS.new 31 (gT c));clear hS;obtain⟨tn,Eb⟩:∃n:Nat,(n:Int)=c.t:=⟨c.t.toNat,by omega⟩;have HTN:=aa Eb;have Da:(gT c)[0]?=some (I (tn:Int)):=by rw[Eb];rfl
 rw[←Eb]at AU sg⊢;clear Eb;generalize gT c=cl at*;have f0:=(HS.ar 0 rfl).aT 0 Da;go_in;go_wp2_with fail;generalize World.alloc _ _=w1 at*;generalize w.heap.size=cb at*;clear f0;go_loopg [7] tn (λg vi wr=>∃(j:Nat) (s:Z.St),g+j=tn∧vi=I (j:Int)∧Φ s∧SI c ai c.fi s∧(∀t:Nat,t<j→Rest s t)∧Sep w0 wr (dx c ai b s::R))
 case atStart=>exact⟨0,_,by omega,rfl,H0.out,Mb,λt ht=>absurd ht (by omega),HS.tail⟩
 case round=>
  clear HS H0 Mb;obtain⟨j,s,yy,rfl,hf,hI,hr,hS⟩:=hrel;have HS:=aa hS;have HF:=aa hf;have HR:=aa hr;clear hS hf hr;by_cases hj:j<tn
  ·have s9:(j:Int)<(tn:Int):=by omega
   go_wp2_with fail;go_loopg [12] (65536-s.aK).toNat (λg v12 wr=>∃s2:Z.St,(65536-s2.aK).toNat=g∧Φ s2∧SI c ai c.fi s2∧(∀t:Nat,t<j→Rest s2 t)∧Sep w0 wr (dx c ai b s2::R))
   case atStart=>exact⟨s,rfl,HF.out,hI,HR.out,HS.out⟩
   case round=>
    clear HS HF HR hI;obtain⟨s2,iZ,hf,hI,hr,hS⟩:=hrel;have HS:=aa hS;have HF:=aa hf;have HR:=aa hr;clear hS hf hr;go_wp2_with fail;refine(yG.out _ _ _ _ (j:Int) hI HS.out).mono ?_;rintro r w3 ⟨rfl,uH,h3⟩;have HS:=aa h3;have lU:=aa (HPH.out _ (j:Int) HF.out);clear h3;have WY:=aa (fun(t:Nat) (ht:t<j)=>aG2 (c:=c) (ai:=ai) (t:=(j:Int)) (by omega) (HR.out t ht));have O9:=aa (λh=>aG1 (c:=c) (ai:=ai) (s:=s2) (t:=(j:Int)) h);have O_:=aa (λh=>aD8 (c:=c) (ai:=ai) (s:=s2) (t:=(j:Int)) h);generalize Z.pick c ai (j:Int) s2=q at*;obtain⟨s3,bb⟩:=q;dsimp only at O9 O_ WY lU uH HS⊢;cases bb with
    |true=>
     have Qg:=O_.out rfl;go_wp2;go_roundg ((65536-s3.aK).toNat)
     case measure=>omega
     case rel=>exact⟨s3,rfl,lU.out,uH,WY.out,HS.out⟩
    |false=>
     have Qg:=O9.out rfl;have HRj:Hid (Rest s3 j):=aa (by rw[Qg.1];exact Qg.2);clear Qg;go_wp2;go_roundg (tn-(j+1))
     case measure=>omega
     case rel=>exact⟨j+1,s3,by omega,by go_num,lU.out,uH,λt ht=>by
      by_cases e:t=j
      ·subst e;exact HRj.out
      ·exact WY.out t (by omega),HS.out⟩
  ·obtain rfl:j=tn:=by omega
   go_wp2;go_end0;exact⟨rfl,s,HF.out,hI,λt ht=>HR.out t (by have:=HTN.out;omega),HS.out⟩
def Fe (x:Int):List Value:=[U x]
def SO (todo:List (List Int))(n:Nat):Bool:=nT 5 todo&&decide (1≤todo.length)&&decide (todo.length≤5)&&decide (n≤600)
def aF8 {w:World}{tv:Value}{nA:List Value}{todo:List (List Int)}{n:Nat}{sa:Option Addr}{sc:Nat}(hp:yH Fe 1 w tv nA todo)(B5:todo.length≤maxLen):
 ba 8 #[tv,.slice sa n sc] w (.bool (SO todo n)):=by
 obtain⟨pa,pc,rfl⟩:=hp.row.len;have HP:=aa hp;obtain⟨FB,hFB⟩:∃b,SO todo n=b:=⟨_,rfl⟩;rw[hFB];have Kb:=aa hFB;have DE:Hid (nA.length=todo.length):=hp.len;have Ξ:nA.length≤maxLen:=by rw[hp.len];exact B5
 unfold maxLen at Ξ;clear hp hFB B5;have HS:=aa (Sep.nil (Fr.refl [] w));obtain⟨pn,xy⟩:∃n,nA.length=n:=⟨_,rfl⟩;have Gm:=aa xy;simp only[xy]at DE Ξ⊢;clear xy;delta ba;go_in;go_wp2_with fail;go_loopg [4,9] pn (λg v4 vi wr=>∃j:Nat,g+j=pn∧v4= .bool false∧vi=I (j:Int)∧nT 5 (todo.take j)=true∧Sep w wr [])
 case atStart=>exact⟨0,by omega,rfl,rfl,rfl,HS.out⟩
 case round=>
  obtain⟨j,yy,rfl,rfl,hsh,hS⟩:=hrel;have HS:=aa hS;have Sr:=aa hsh;clear hS hsh;by_cases hj:j<pn
  ·have s9:(j:Int)<(pn:Int):=by omega
   have FG:j<nA.length:=by have:=Gm.out;omega
   have Sg:j<todo.length:=by have:=DE.out;omega
   obtain⟨xa,rfl,GD,xX,-⟩:=(HP.row.fr HS.fr).at FG;rw[lj]at xX;have hx:=xX _ rfl;obtain⟨la,lc,Ep⟩:=(HP.out.each j Sg).len;rw[Ep]at hx;clear xX Ep;obtain⟨ln,o8⟩:∃ln,todo[j].length=ln:=⟨_,rfl⟩;have vG:=aa o8;rw[o8]at hx;clear o8;by_cases h4:ln≤5
   ·have h4i:(ln:Int)≤5:=by omega
    have d1:decide ((ln:Int)>5)=false:=cW (by omega);clear h4;go_wp2;go_roundg (pn-(j+1))
    case measure=>omega
    case rel=>exact⟨j+1,by omega,rfl,by go_num,(AN Sg Sr.out).trans (eP (by rw[vG.out];omega)),HS.out⟩
   ·have h4i:(ln:Int)>5:=by omega
    have C4:=aa (Gq (m:=5) Sg (by rw[vG.out];exact h4));have d1:decide ((ln:Int)>5)=true:=eP h4i;clear h4;go_wp2;go_ret;refine⟨?_,HS.fr⟩;rw[←Kb.out];unfold SO;rw[C4.out];simp
  ·obtain rfl:j=pn:=by omega
   have Sr:Hid (nT 5 todo=true):=aa (by have:=Sr.out;rwa [oA (by have:=DE.out;omega)]at this);have d3:decide ((j:Int)<(j:Int))=false:=cW (by omega);have Gr:Hid (FB=(decide (1≤(j:Int))&&decide ((j:Int)≤5)&&decide ((n:Int)≤600))):=aa (by
    have B5:=DE.out;rw[←Kb.out];unfold SO;rw[Sr.out,←B5,show decide (1≤j)=decide (1≤(j:Int))from sX.2 (by omega),show decide (j≤5)=decide ((j:Int)≤5)from sX.2 (by omega),show decide (n≤600)=decide ((n:Int)≤600)from sX.2 (by omega)];rfl)
   clear Kb HP DE Gm Sr;have HF:=aa HS.fr;have yu:Hid (∀r:Bool,r=FB→∀w':World,Fr [] w w'→(Ending.returned (.bool r)= .returned (.bool FB)∧Fr [] w w')):=aa (λr e w' f=>⟨by rw[e],f⟩);generalize j=pn at*;by_cases b1:1≤(pn:Int)
   ·have e1:decide (1≤(pn:Int))=true:=eP b1;have e1':decide ((pn:Int)≥1)=true:=e1;by_cases b2:(pn:Int)≤5
    ·have e2:decide ((pn:Int)≤5)=true:=eP b2;obtain⟨b3,e3⟩:∃b,decide ((n:Int)≤600)=b:=⟨_,rfl⟩;go_wp2;go_ret;exact yu.out _ (by rw[Gr.out];simp[*]) _ HF.out
    ·have e2:decide ((pn:Int)≤5)=false:=cW b2;go_wp2;go_ret;exact yu.out _ (by rw[Gr.out];simp[*]) _ HF.out
   ·have e1:decide (1≤(pn:Int))=false:=cW b1;have e1':decide ((pn:Int)≥1)=false:=e1;go_wp2;go_ret;exact yu.out _ (by rw[Gr.out];simp[*]) _ HF.out
def LS (n:Int):Y.cA:=⟨n,40,16,40,0,140737488355328⟩
def aF9 (w:World)(n:Nat):ba 9 #[I n] w (db (LS n)):=by
 have HS:=aa ((Sep.nil (Fr.refl [] w)).new 31 [I n,I 40,I 16,I 40,U 0,U 140737488355328]);have Sp:∀z∈ [I n,I 40,I 16,I 40,U 0,U 140737488355328],z.oneCell'=true:=by simp[Value.oneCell']
 delta ba;go_in;go_wp2_with(refine dV 31 _ _ rfl _ _ rfl rfl rfl (by kernel_rfl) rfl (iX Sp) ?_);refine aV (uO (P:=Tryz.prog) rfl _ _ w.heap.size 31 ([I n,I 40,I 16,I 40,U 0,U 140737488355328]:List Value).toArray (0,0) _ rfl (HS.ar 0 rfl) underlying31 rfl (by kernel_rfl)) rfl ?_;exact⟨rfl,HS.fr⟩
def aH7 (w:World):Calls Tryz.prog 12 #[] w λr w'=>∃g,r= .returned (.slice (some ⟨g,0,none⟩) 2 2)∧Sep w w' [aJ g 28 [I 9,I 1,I 2,I 0,U 0,I 20,I 1,I 0,I 0,U 0]]:=by
 have HS:=aa ((Sep.nil (Fr.refl [] w)).new 28 [I 9,I 1,I 2,I 0,U 0,I 20,I 1,I 0,I 0,U 0]);go_wp2;go_ret;exact⟨_,rfl,HS.out⟩
end Go.Proofs.YtolkmchicplaoaaGreat
namespace Go.aS
open Go.RowKit
def Sep.newRow {w0 w:World}{Ts:List a_}(h:Sep w0 w Ts)(e:TypeId)(size:Nat):Sep w0 (w.alloc (.cells #[] e)) (aU 0 e size (.slice (some ⟨w.heap.size,0,none⟩) 0 0) 0 []::Ts):=
 h.fresh ⟨(Fr.refl [] w).alloc _,[w.heap.size],⟨rfl,pQ w #[] 0 (cE _) (by unfold maxLen;omega) (by simp)⟩,by simp⟩
def ab6 (x:Int)(p:Nat)(xX:0≤x)(hx:x<18446744073709551616)(hp:(2:Nat)^p≤4294967296):bits .and .u64 x (((2^p:Nat):Int)-1)=x%((2^p:Nat):Int):=by
 have h1:0<(2:Nat)^p:=Nat.two_pow_pos p;have e:bits .and .u64 x (((2^p:Nat):Int)-1)=IntKind.u64.wrap ((BitVec.ofInt 64 x&&&BitVec.ofInt 64 (((2^p:Nat):Int)-1)).toNat:Int):=rfl;rw[e,BitVec.toNat_and,xA x xX hx,xA _ (by omega) (by omega),show(((2^p:Nat):Int)-1).toNat=2^p-1 by omega,Nat.and_two_pow_sub_one_eq_mod];have h2:=py x.toNat h1;have h3:((x.toNat%2^p:Nat):Int)=x%((2^p:Nat):Int):=by rw[Int.natCast_emod];congr 1;omega
 rw[ir,←h3];omega
end Go.aS
namespace Go.Proofs.YtolkmchicplaoaaGreat
open Go.RowKit Go.aS Go.aS.I_ Go.aS.Y
def Jq (v:Int):K.Call:=⟨v%2,[v,0,0,0]⟩
def LU (k:K.Call):K.Call:=⟨k.prog,(k.args.getD 0 0%65536)::k.args.tail⟩
abbrev aH1 (p:Value×List K.Call):a_:=aU 0 38 5 p.1 p.2.length (flat iw p.2)
def aG0:(Tryz.prog.info? 38).map (λi=>(i.zero,i.size,i.bytes))=some (some (.agg #[I 0,U 0,U 0,U 0,U 0]),5,40):=by kernel_rfl
def aD6:(Tryz.prog.info? 35).map (λi=>(i.zero,i.size,i.bytes))=some (some (.slice none 0 0),1,24):=by kernel_rfl
def aH8 (v:Int)(h:W.U_ v):bits .and .u64 v 1=v%2:=ab6 v 1 h.1 (by have:=h.2;omega) (by decide)
def aH9 {w:World}{tv:Value}{nA:List Value}{todo:List (List Int)}(hp:yH Fe 1 w tv nA todo)(B5:todo.length≤5)(h5:∀l∈todo,l.length≤5)(hU:∀l∈todo,∀v∈l,W.U_ v):
 Calls Tryz.prog 10 #[tv] w λr w'=>∃kv A,r= .returned kv∧A.length=todo.length∧Sep w w' (aU 0 35 1 kv todo.length A::cM ((A.zip (todo.map (·.map Jq))).map aH1):: []):=by
 obtain⟨pa,pc,rfl⟩:=hp.row.len;have HP:=aa hp;have DE:Hid (nA.length=todo.length):=hp.len;have Ξ:nA.length≤5:=by rw[hp.len];exact B5
 have H5:=aa h5;have HU:=aa hU;clear hp B5 h5 hU;obtain⟨C,hC⟩:∃C,todo.map (·.map Jq)=C:=⟨_,rfl⟩;have HC:=aa hC;have Eo:Hid (C.length=todo.length):=aa (by rw[←hC,dD]);rw[hC];clear hC;obtain⟨pn,xy⟩:∃n,nA.length=n:=⟨_,rfl⟩;have Gm:=aa xy;rw[xy]at DE Ξ;rw[←DE.out];simp only[xy];clear xy;have HS:=aa ((Sep.nil (Fr.refl [] w)).newRow 35 1);obtain⟨i0,iJ,jA,jB,iR⟩:=eA aG0;obtain⟨j0,hj0,nO,UJ,Yu⟩:=eA aD6;go_in;go_wp2_with fail;generalize World.alloc _ _=w1 at HS⊢;generalize w.heap.size=gk at HS⊢;go_loopg [3,12] pn (λg v3 vi wr=>∃(j:Nat) (A:List Value),g+j=pn∧vi=I (j:Int)∧A.length=j∧Sep w wr (aU 0 35 1 v3 j A::cM ((A.zip C).map aH1):: []))
 case atStart=>exact⟨0,[],by omega,rfl,rfl,HS.out.ud.pull 1 rfl⟩
 case round=>
  clear HS;obtain⟨j,A,yy,rfl,Υ,hS⟩:=hrel;have HS:=aa hS;have wX:=aa Υ;clear hS Υ;obtain⟨oa,oc,rfl⟩:=HS.form 0 rfl;by_cases hj:j<pn
  ·have s9:(j:Int)<(pn:Int):=by omega
   have FG:j<nA.length:=by have:=Gm.out;omega
   have Sg:j<todo.length:=by have:=DE.out;omega
   obtain⟨xa,rfl,GD,xX,-⟩:=(HP.row.fr HS.fr).at FG;rw[lj]at xX;have hx:=xX _ rfl;clear xX;have Fy:=HP.out.each j Sg;obtain⟨la,lc,Ep⟩:=Fy.len;rw[Ep]at hx Fy;have h5:=H5.out _ (cJ Sg);have hU:=HU.out _ (cJ Sg);have HCJ:Hid (C[j]'(by have:=Eo.out;omega)=todo[j].map Jq):=aa (by have:=HC.out;subst this;simp);have HZ:=aa (λnv=>Ai A C nv (by have:=wX.out;have:=Eo.out;omega));simp only[wX.out]at HZ;simp only[HCJ.out]at HZ;clear Ep;generalize todo[j]=L at*;obtain⟨ln,o8⟩:∃ln,L.length=ln:=⟨_,rfl⟩;have vG:=aa o8;rw[o8]at hx Fy h5;clear o8;have HCD:=aa Fy;have HLU:=aa hU;clear Fy hU;go_wp2_with fail;have HS:=aa (HS.out.newRow 38 5);generalize World.alloc _ _=w2 at HS⊢;generalize wr.heap.size=aP8 at HS⊢;go_loopg [6,19] ln (λg v6 vk wk=>∃k:Nat,g+k=ln∧vk=I (k:Int)∧Sep w wk (aU 0 38 5 v6 k (flat iw ((L.take k).map Jq))::aU 0 35 1 (.slice oa j oc) j A::cM ((A.zip C).map aH1):: []))
   case atStart=>exact⟨0,by omega,rfl,HS.out⟩
   case round=>
    clear HS;obtain⟨k,U4,rfl,hS⟩:=hrel;have HS:=aa hS;clear hS;obtain⟨ia,ic,rfl⟩:=HS.form 0 rfl;by_cases hk:k<ln
    ·have rX:(k:Int)<(ln:Int):=by omega
     have sC:k<L.length:=by have:=vG.out;omega
     obtain⟨xb,rfl,aR1,xX,-⟩:=(HCD.fr HS.fr).at sC;rw[lj]at xX;have hx:=xX _ rfl;have hv:=HLU.out _ (cJ sC);have uf:flat iw ((L.take (k+1)).map Jq)=flat iw ((L.take k).map Jq)++iw (Jq L[k]):=by
      rw[wj sC,pS,nh];rfl
     generalize L[k]=v at*;have HT:=aa uf;have hand:=aH8 v hv;have qy:0≤v%2∧v%2≤1:=by omega
     have PK:=aa (show iw (Jq v)=[I (v%2),U v,U 0,U 0,U 0]from rfl);rw[PK.out]at HT;have JI:IntKind.i64.wrap (v%2)=v%2:=bf _ (by omega) (by omega);generalize v%2=v2 at*;obtain⟨ax2,hXK⟩:∃x,flat iw ((L.take k).map Jq)=x:=⟨_,rfl⟩;rw[hXK]at HT HS;clear hXK xX uf;have HS:=aa (HS.new 38 [I v2,U v,U 0,U 0,U 0]);go_wp2_with(at_builtin;go_must (refine ch _ rfl _ _ 35 rfl 0 38 i0 _ 5 40 underlying35 iJ jA jB iR rfl (by decide) (.slice ia k ic) k ax2 rfl (HS.row 1 rfl) [I v2,U v,U 0,U 0,U 0] _ _ rfl (HS.ar 0 rfl) rfl (by simp[Value.oneCell']) (by unfold maxLen;omega) (by omega) (cE _) ?_));intro g2 c2 w6 dy iZ jj kM mw;have h3:=(HS.grown 1 rfl dy iZ (λq e=>by
      rcases jj with h1|h1
      ·exact .inl (h1.trans e)
      ·right;simp only[Value.ownBlock,eX]at e;rw[←e,h1];simp)).tail
     rw[←HT.out]at h3;have HS:=aa h3;clear h3 dy iZ jj;go_wp2;go_roundg (ln-(k+1))
     case measure=>omega
     case rel=>exact⟨k+1,by omega,by go_num,HS.out⟩
    ·obtain rfl:k=ln:=by omega
     have d3:decide ((k:Int)<(k:Int))=false:=cW (by omega);have lK:L.take k=L:=oA (by have:=vG.out;omega);rw[lK]at HS;have HS:=aa (HS.new 35 [.slice ia k ic]);go_wp2_with(at_builtin;go_must (refine ch _ rfl _ _ 33 rfl 0 35 j0 _ 1 24 underlying33 hj0 nO UJ Yu rfl (by decide) (.slice oa j oc) j A rfl (HS.row 2 rfl) [.slice ia k ic] _ _ rfl (HS.ar 0 rfl) rfl (by simp[Value.oneCell']) (by unfold maxLen;omega) (by omega) (cE _) ?_));intro g2 c2 w6 dy iZ jj kM mw;have h3:=(HS.grown 2 rfl dy iZ (λq e=>by
      rcases jj with h1|h1
      ·exact .inl (h1.trans e)
      ·right;simp only[Value.ownBlock,eX]at e;rw[←e,h1];simp)).tail
     have HS:=aa h3;clear h3 dy iZ jj d3;go_wp2;go_roundg (pn-(j+1))
     case measure=>omega
     case rel=>
      refine⟨j+1,A++[.slice ia k ic],by omega,by go_num,by rw[eE,wX.out];rfl,?_⟩;rw[HZ.out,pS];have A4:k=(L.map Jq).length:=by rw[dD];exact vG.out.symm
      have h9:=(Sep.vh (T:=aU 0 38 5 (.slice ia k ic) k (flat iw (L.map Jq))) ((HS.pull 2 rfl).pull 1 rfl)).pull 1 rfl;show Sep w _ (_::cM (_++[aU 0 38 5 (.slice ia k ic) (L.map Jq).length (flat iw (L.map Jq))]):: []);rw[←A4];exact h9
  ·obtain rfl:j=pn:=by omega
   have d3:decide ((j:Int)<(j:Int))=false:=cW (by omega);go_wp2;go_ret;exact⟨_,A,rfl,by rw[wX.out,DE.out],HS.out⟩
def aJ6 (v:Int)(h:W.U_ v):bits .and .u64 v 65535=v%65536:=ab6 v 16 h.1 (by have:=h.2;omega) (by decide)
def BE (todo:List (List Int)):List (List K.Call):=todo.map (·.map (λv=>LU (Jq v)))
def aG5 (todo:List (List Int)):(todo.map (·.map Jq)).map (·.map LU)=BE todo:=by
 unfold BE;rw[List.map_map];congr 1;funext l;simp
def aE7 (v:Int)(h:W.U_ v):te (LU (Jq v)):=by
 refine⟨?_,rfl,?_,?_⟩
 ·show v%2=0∨v%2=1;omega
 ·show 0≤v%65536;omega
 ·show v%65536≤65535;omega
def te.ok {x:K.Call}(h:te x):jr x:=by
 obtain⟨_,h2,h3,h4⟩:=h;unfold jr;rw[h2];refine⟨rfl,λr hr=>?_⟩;simp only[oG,uP,or_false]at hr;unfold W.U_;rcases hr with rfl|rfl|rfl|rfl<;>omega
def aJ7 {todo:List (List Int)}(hU:∀l∈todo,∀v∈l,W.U_ v):∀l∈BE todo,∀x∈l,te x:=by
 intro l hl x hx;unfold BE at hl;obtain⟨l2,h2,rfl⟩:=mE.1 hl;obtain⟨v,h3,rfl⟩:=mE.1 hx;exact aE7 v (hU l2 h2 v h3)
def aA1 (w:World)(a b:Int):(binOp .neq 48 (.agg #[I a,U b]) (.agg #[I a,U b])).run Tryz.prog w= .ok (.bool false) w:=by
 have h2:=underlying48;have h4:=underlying26;have h3:=underlying3;have p2:Tryz.prog.stoodInHeld 48=false:=by kernel_rfl
 simp only[run_neq_struct];rw[run_equalIn_struct w 9999 48 _ _ (by unfold Program.fieldsOf;rw[h2]) p2];simp[Program.fieldsOf,h2,h3,h4,p2,Op.eqFields,go_sem]
def aE8 {w0 w:World}{R:List a_}{kv:Value}{A:List Value}{C:List (List K.Call)}(hl:A.length=C.length)(h:Sep w0 w (aU 0 35 1 kv C.length A::cM ((A.zip C).map aH1)::R)):vY w kv A C:=by
 refine⟨?_,hl,λk hk=>?_⟩
 ·have h1:=h.row 0 rfl;rw[←hl]at h1;have e:flat (λv=> [v]) A=A:=by unfold flat;simp
  exact dB.kG (en:=λv=> [v]) (λ_=>rfl) (by rw[e];exact h1)
 ·have hi:((A.zip C).map aH1)[k]?=some (aH1 (A[k]'(by omega),C[k])):=by
   rw[jE,cy (by rw[nK];omega),uQ];rfl
  obtain⟨fp,hq⟩:=Sep.known (h.pull 1 rfl) hi;exact dB.kG ux hq.2
def aL2 {A:List Value}{D:List (List K.Call)}{t:Nat}(hl:A.length=D.length)(ht:t<D.length)(x:List K.Call):((A.zip D).map aH1).set t (aH1 (A[t]'(by omega),x))=(A.zip (D.set t x)).map aH1:=by
 refine uN λi=>?_;rw[tU];by_cases e:t=i
 ·subst e;rw[aB rfl,aB (by rw[dD,nK];omega),jE,cy (by rw[nK,cF];omega),uQ,wy];rfl
 ·rw[aq e,jE,jE];simp[List.zip,List.getElem?_zipWith,dF e]
def okA {n:Nat}(h1:1≤n)(h5:n≤5):Y.Ok (LS n):=by
 refine⟨?_,?_,?_,?_,?_,?_,?_,?_,?_,?_⟩<;>(show(_:Int)≤_;unfold LS;dsimp only;omega)
def aG6 {todo:List (List Int)}{n:Nat}(h:SO todo n=true):1≤todo.length∧todo.length≤5∧n≤600∧∀l∈todo,l.length≤5:=by
 unfold SO nT at h;simp only[eO,gG,mC]at h;obtain⟨⟨⟨h1,h2⟩,h3⟩,h4⟩:=h;exact⟨h2,h3,h4,h1⟩
def aG7 {w:World}{g1 g2 g3:Nat}{o:TypeId}(h1:cB w g1 28 (flat gl Ce))(h2:cB w g2 28 (flat gl RK))(h3:cB w g3 o [.slice (some ⟨g1,0,none⟩) 8 8,.slice (some ⟨g2,0,none⟩) 2 2]):cL w (.slice (some ⟨g3,0,none⟩) 2 2) [.slice (some ⟨g1,0,none⟩) 8 8,.slice (some ⟨g2,0,none⟩) 2 2] jq:=
 ⟨al2 h3,rfl,λk hk=>by
  have uV:k<2:=hk;obtain rfl|rfl:k=0∨k=1:=by omega
  ·show dJ w (.slice (some ⟨g1,0,none⟩) 8 8) Ce;exact⟨vZ (l:=Ce) yT h1,by decide,by decide⟩
  ·show dJ w (.slice (some ⟨g2,0,none⟩) 2 2) RK;exact⟨vZ (l:=RK) yT h2,by decide,by decide⟩,by decide⟩
def rD.tY {c:Y.cA}{cf:af1}{s:Z.St}(ht:c.t≤5)(h:rD c cf s)(hb:af2 5 s):s.rows.length≤25:=by
 obtain⟨_,g,dec,hH,_⟩:=h;have h1:gq s.rows⊆(List.range 5).flatMap (λt:Nat=>(List.range 5).map (λj:Nat=>((t:Int),(j:Int)+1))):=by
  intro p hpm;obtain⟨u,tag⟩:=p;obtain⟨x,hx,e1,e2⟩:=AF.1 hpm;obtain⟨a1,t,u2,a2,a3,a4⟩:=hH.r2 x hx;have h3:=hb t u2 a2;have h4:=(dE.1 a2).1;have h5:=hH.n;rw[List.mem_flatMap];refine⟨t,oF.2 (by omega),?_⟩;rw[mE];exact⟨(tag-1).toNat,oF.2 (by omega),Prod.ext (by dsimp only;omega) (by dsimp only;omega)⟩
 have h2:=yn _ _ hH.rn h1;unfold gq at h2;rw[dD]at h2;exact h2
def af2.aN6 {c:Y.cA}{calls:List (List K.Call)}(h:∀l∈calls,l.length≤5):af2 5 (Z.new c calls):=by
 intro t u hu;unfold Z.new at hu;rw[jE]at hu;cases hc:calls[t]? with
 |none=>rw[hc]at hu;cases hu
 |some l=>
  rw[hc]at hu;obtain rfl:=eQ hu;have:=h l (wz hc);dsimp only;omega
def aA2 (c:Y.cA)(cf:af1)(s:Z.St):Prop:=rD c cf s∧af2 5 s
def aA2.pick {n:Nat}(h1:1≤n)(h5:n≤5){cf:af1}(fB:∀u tag,te (cf u tag)){s:Z.St}(h:aA2 (LS n) cf s)(t:Int):aA2 (LS n) cf (Z.pick (LS n) jq t s).1:=
 ⟨h.1.pick (okA h1 h5) piA fB (by show(0:Int)≤_;decide) (iu 0) (by show(0:Int)+65536<140737488355328;decide) t,h.2.pick t⟩
end Go.Proofs.YtolkmchicplaoaaGreat
namespace Go.Proofs.YtolkmchicplaoaaGreat
open Go.RowKit Go.aS Go.aS.I_ Go.aS.Y Go.aS.C
def aF5 {α:Type}{l l':List α}{k:Nat}(hl:l'.length=l.length)(h:k<l.length):(l'.take k++l.drop k).set k (l'[k]'(by omega))=l'.take (k+1)++l.drop (k+1):=by
 rw[wj (show k<l'.length by omega),pO h,eD _ _ (by rw[oE];omega),oE,Nat.min_eq_left (by omega),oI,aL,qP];rfl
def aJ8 {α:Type}{l l':List α}{k:Nat}(hl:l'.length=l.length)(h:k<l.length):(l'.take k++l.drop k)[k]?=some l[k]:=by
 rw[gw (by rw[oE];omega),oE,Nat.min_eq_left (by omega),oI,pO h];rfl
def aA4 {α:Type}{l l':List α}{k:Nat}(hl:l'.length=l.length)(h:k≤l.length):(l'.take k++l.drop k).length=l.length:=by
 rw[eE,oE,List.length_drop];omega
def aE9 {w:World}{b:Nat}{T:TypeId}{cs:List Value}(h:cB w b T cs)(o:Nat)(l:List Value)(hl:∀j u,l[j]?=some u→cs[o+j]?=some u):w.rangeAt b o l:=λj u hj=>(h.cell (o+j)).trans (hl j u hj)
def av9 {w:World}{e:TypeId}{k n cap:Nat}{oa:Option Addr}{xs:List Value}(h0:0<n)(h:w.ownsRow 0 e k (.slice oa n cap) n xs):∃g,oa=some ⟨g,0,none⟩:=by
 rcases bg h with⟨e1,e2⟩|⟨gb,cap,e1,_⟩
 ·omega
 ·simp only[dk]at e1;exact⟨gb,e1.1⟩
def aF0 {todo:List (List Int)}(hU:∀l∈todo,∀v∈l,W.U_ v){C:List (List K.Call)}(hC:todo.map (·.map Jq)=C){t:Nat}(ht:t<C.length){k:Nat}(hk:k<(C[t]).length):∃p v,(C[t])[k]=⟨p,[v,0,0,0]⟩∧W.U_ v:=by
 subst hC;rw[dD]at ht;simp only[List.getElem_map]at hk⊢;rw[dD]at hk;exact⟨_,_,rfl,hU _ (cJ ht) _ (cJ hk)⟩
def aG8 {x:K.Call}{p:Int}(h:te x):lN x (lN x p)=lN x p:=by
 unfold lN nx;have:=h.2.2.1;split
 ·rw[aq (by omega)]
 ·rfl
def aJ9 {cf:af1}(fB:∀u t,te (cf u t)):∀{l:List Z.Row} {p q:Int},gE cf p l q→(0≤p∧p≤65536)→∀x∈l,0≤x.rv∧x.rv≤65536
 |[],_,_,_,_,x,hx=>by cases hx
 |y::l,p,q,h,hp,x,hx=>by
  have h1:0≤y.rv∧y.rv≤65536:=by
   rw[h.2.1];unfold lN nx;have:=(fB y.aw y.tag).2.2;split<;>omega
  rcases oG.1 hx with rfl|hx
  ·exact h1
  ·exact aJ9 fB h.2.2 h1 x hx
def aQ5 {l:List Value}(h:l.length=6):∃x0 x1 x2 x3 x4 x5,l=[x0,x1,x2,x3,x4,x5]:=by
 match l,h with
 |[x0,x1,x2,x3,x4,x5],_=>exact⟨_,_,_,_,_,_,rfl⟩
def aF1 {w:World}{tv sv:Value}{nA:List Value}{todo:List (List Int)}{aK:List Int}(hp:yH Fe 1 w tv nA todo)(hA:dB CK 1 w sv aK)(B5:todo.length≤maxLen)(AX:aK.length≤maxLen)(hU:∀l∈todo,∀v∈l,W.U_ v):
 ba 3 #[tv,sv] w (.bool true):=by
 obtain⟨sa,sc,rfl⟩:=hA.len;obtain⟨pa,pc,rfl⟩:=hp.row.len;have Dt:=aa (λw=>Nr w);have Br:=aa (fun(w':World) (f:Fr [] w w')=>aF8 (n:=aK.length) (sa:=sa) (sc:=sc) (hp.fr f) B5);have HF:=aa (Fr.refl [] w);by_cases EF:SO todo aK.length=true;rotate_left
 ·have hff:SO todo aK.length=false:=by simpa using EF
  rw[hff]at Br;clear hff EF hU AX B5 hp hA;delta ba;go_in;go_wp2_with fail;refine(Dt.out _).kk λw2 hf=>?_;have HF:=aa (HF.trans hf);clear hf;go_wp2_with fail;refine(Br.out _ HF.out).kk λw3 hf=>?_;have HF:=aa (HF.trans hf);clear hf;go_wp2;go_ret;exact⟨rfl,HF.out⟩
 obtain⟨AU,Qk,-,Ql⟩:=aG6 EF;rw[EF]at Br;obtain⟨n,hn⟩:∃n,todo.length=n:=⟨_,rfl⟩;have hvl:nA.length=n:=hp.len.trans hn;obtain⟨C,hC⟩:∃C,todo.map (·.map Jq)=C:=⟨_,rfl⟩;have Qj:=aa (fun(w':World) (f:Fr [] w w')=>aH9 (hp.fr f) Qk Ql hU);rw[hn,hC]at Qj;have DE:=aa (λw'=>aF9 w' n);have Kd:=aa (λw'=>aH7 w');rw[hn]at AU Qk;have aE:=okA AU Qk;have tN:=aJ7 hU;have mr:((BE todo).length:Int)=(LS n).t:=by unfold BE;rw[dD,hn];rfl
 have hc5:∀l∈BE todo,l.length≤5:=by
  intro l hl;unfold BE at hl;obtain⟨l2,h2,rfl⟩:=mE.1 hl;rw[dD];exact Ql l2 h2
 have fB:=aN4 tN;have L9:SI (LS n) jq (LS n).fi (Z.new (LS n) (BE todo)):=SI.start aE (iu 0) mr (λl hl x hx=>(tN l hl x hx).ok);have hag:aA2 (LS n) (Q_ (BE todo)) (Z.new (LS n) (BE todo)):=⟨rD.start aE (iu 0) mr (λl hl x hx=>(tN l hl x hx).ok),af2.aN6 hc5⟩;have hgo:∀s t,aA2 (LS n) (Q_ (BE todo)) s→aA2 (LS n) (Q_ (BE todo)) (Z.pick (LS n) jq t s).1:=λs t h=>h.pick AU Qk fB t;have Xf:=aa (fun(w':World) (f:Fr [] w w') (g1 g2 g3:Nat) (kv:Value) (A:List Value) (h1:cB w' g1 28 (flat gl Ce)) (h2:cB w' g2 28 (flat gl RK)) (h3:cB w' g3 29 [.slice (some ⟨g1,0,none⟩) 8 8,.slice (some ⟨g2,0,none⟩) 2 2]) (hk:vY w' kv A (BE todo))=>Jo aE (aG7 h1 h2 h3) hk (by decide) mr (λl hl=>by have:=hc5 l hl;omega) piA (by show(0:Int)≤_;decide) L9 (hA.fr f) AX (Φ:=aA2 (LS n) (Q_ (BE todo))) hag hgo);have Qm:=aa (λw' (R:List a_) (b:Nat) (s:Z.St) (hI:SI (LS n) jq (LS n).fi s) (hf:aA2 (LS n) (Q_ (BE todo)) s) (h:Sep w w' (dx (LS n) jq b s::R))=>aD9 aE piA (by show(0:Int)≤_;decide) hI (Φ:=aA2 (LS n) (Q_ (BE todo))) hf hgo h);have HCE:=aa (λt ht k hk=>aF0 hU hC (t:=t) ht (k:=k) hk);have Jv:C.map (·.map LU)=BE todo:=by rw[←hC];exact aG5 todo
 have UN:C.length=n:=by rw[←hC,dD];exact hn
 have aP1:∀l∈C,l.length≤5:=by
  intro l hl;rw[←hC]at hl;obtain⟨l2,h2,rfl⟩:=mE.1 hl;rw[dD];exact Ql l2 h2
 have zG:=aa UN;have HC5:=aa aP1;have gF:=aa fB;obtain⟨ae8,hCA⟩:∃ae8,BE todo=ae8:=⟨_,rfl⟩;rw[hCA]at Xf Qm gF Jv;have wS:=aa Jv;obtain⟨cl,aL3⟩:∃l,gT (LS n)=l:=⟨_,rfl⟩;have qK:cl.length=6:=by rw[←aL3];rfl
 have Sp:∀z∈cl,z.oneCell'=true:=by rw[←aL3];unfold gT;simp[Value.oneCell']
 have ts:Hid (db (LS n)= .agg cl.toArray):=aa (by rw[←aL3];rfl);rw[ts.out]at DE Xf Qm;obtain⟨m,hm⟩:∃m,aK.length=m:=⟨_,rfl⟩;rw[hm]at Br Xf AX;simp only[hm];rw[hvl]at Br Qj;simp only[hvl];have Bq:Hid ((LS n).t=n):=rfl;generalize LS n=c at*;obtain⟨x0,x1,x2,x3,x4,x5,rfl⟩:=aQ5 qK;clear EF hU B5 hp hA Ql hn hvl hC aE tN mr hc5 fB L9 hag hgo Jv UN aP1 hCA aL3 hm HF;have HS:=aa (Sep.nil (Fr.refl [] w));delta ba;go_in;go_wp2_with fail;refine(Dt.out _).kq HS λw2 HS=>?_;go_wp2_with fail;refine(Br.out _ HS.fr).kk λw3 hf=>?_;have HS:=aa ((HS.c_ hf).new 28 [I 9,I 1,I 2,I 0,U 0,I 18,I 1,I 0,I 0,U 3,I 20,I 1,I 0,I 0,U 0,I 8,I 1,I 0,I 0,U 0,I 0,I 3,I 0,I 0,U 1,I 2,I 1,I 1,I 3,U 0,I 10,I 1,I 2,I 0,U 0,I 20,I 1,I 0,I 0,U 0]);clear hf Dt Br;go_wp2_with fail;generalize World.alloc w3 _=w4 at HS⊢;generalize w3.heap.size=aR3 at HS⊢;refine(DE.out _).kk λw5 hf=>?_;have HS:=aa ((HS.c_ hf).new 31 [x0,x1,x2,x3,x4,x5]);clear hf DE;go_wp2_with(refine dV 31 _ _ rfl _ _ rfl rfl rfl (by kernel_rfl) rfl (iX Sp) ?_);generalize World.alloc w5 _=w6 at HS⊢;generalize w5.heap.size=cb at HS⊢;refine(Qj.out _ HS.fr).mono ?_;rintro r w7 ⟨kv,A,rfl,Nu,h7⟩;have Ba:=aa Nu;have h8:Sep w w7 (aU 0 35 1 kv n A::cM ((A.zip C).map aH1)::aJ cb 31 [x0,x1,x2,x3,x4,x5]::aJ aR3 28 [I 9,I 1,I 2,I 0,U 0,I 18,I 1,I 0,I 0,U 3,I 20,I 1,I 0,I 0,U 0,I 8,I 1,I 0,I 0,U 0,I 0,I 3,I 0,I 0,U 1,I 2,I 1,I 1,I 3,U 0,I 10,I 1,I 2,I 0,U 0,I 20,I 1,I 0,I 0,U 0]:: []):=by
  exact HS.out.append h7
 have HS:=aa h8;clear h7 h8 Qj Sp qK;obtain⟨oa,oc,rfl⟩:=HS.form 0 rfl;obtain⟨go,rfl⟩:=av9 (by omega) (HS.row 0 rfl);obtain⟨PT,yC⟩:∃T,aJ aR3 28 [I 9,I 1,I 2,I 0,U 0,I 18,I 1,I 0,I 0,U 3,I 20,I 1,I 0,I 0,U 0,I 8,I 1,I 0,I 0,U 0,I 0,I 3,I 0,I 0,U 1,I 2,I 1,I 1,I 3,U 0,I 10,I 1,I 2,I 0,U 0,I 20,I 1,I 0,I 0,U 0]=T:=⟨_,rfl⟩;have J3:=aa yC;obtain⟨ae9,hCB⟩:∃T,aJ cb 31 [x0,x1,x2,x3,x4,x5]=T:=⟨_,rfl⟩;have HCB:=aa hCB;rw[yC,hCB]at HS;clear yC hCB Nu;have aA5:Hid (ae8.length=C.length∧∀t (h:t<C.length) (h2:t<ae8.length),ae8[t]=C[t].map LU):=aa (by
  have:=wS.out;subst this;exact⟨by rw[dD],λt h h2=>by simp⟩)
 go_wp2_with fail;go_loopg [38] n (λg vi wr=>∃t:Nat,g+t=n∧vi=I (t:Int)∧Sep w wr (aU 0 35 1 (.slice (some ⟨go,0,none⟩) n oc) n A::cM ((A.zip (ae8.take t++C.drop t)).map aH1)::ae9::PT:: []))
 case atStart=>exact⟨0,by omega,rfl,HS.out⟩
 case round=>
  clear HS;obtain⟨t,yv,rfl,hS⟩:=hrel;by_cases ht:t<n
  ·have Hy:(t:Int)<(n:Int):=by omega
   have htA:t<A.length:=by have:=Ba.out;omega
   have Md:t<C.length:=by have:=zG.out;omega
   have aQ6:t<ae8.length:=by have:=aA5.out.1;omega
   have h5:=HC5.out _ (cJ Md);have aP2:=aA5.out.2 t Md aQ6;have aQ7:=aa (λk hk=>HCE.out t Md k hk);have HZS:=aa (λx=>aL2 (A:=A) (D:=ae8.take t++C.drop t) (t:=t) (by rw[aA4 aA5.out.1 (by omega)];have:=Ba.out;have:=zG.out;omega) (by rw[aA4 aA5.out.1 (by omega)];omega) x);have HMS:=aa (aF5 (l:=C) (l':=ae8) aA5.out.1 Md);rw[aP2]at HMS;have tK:((A.zip (ae8.take t++C.drop t)).map aH1)[t]?=some (aH1 (A[t],C[t])):=by
    have hm:=aJ8 (l:=C) (l':=ae8) aA5.out.1 Md;have hz:(A.zip (ae8.take t++C.drop t))[t]?=some (A[t],C[t]):=List.getElem?_zip_eq_some.2 ⟨cy htA,hm⟩;rw[jE,hz];rfl
   have hTl:t<((A.zip (ae8.take t++C.drop t)).map aH1).length:=(dE.1 tK).1;have zK:=aa hTl;have tu:=Sep.pick (hS.pull 1 rfl) tK;simp only[ze]at tu;generalize C[t]=af4 at*;clear tK aP2 hS hTl;obtain⟨ia,ic,Ep⟩:=tu.form 0 rfl;dsimp only at Ep;obtain⟨ap1,hTS⟩:∃ap1,(A.zip (ae8.take t++C.drop t)).map aH1=ap1:=⟨_,rfl⟩;rw[hTS]at HZS zK tu;clear hTS;have HGA:Hid (∀w',Sep w w' (aU 0 35 1 (.slice (some ⟨go,0,none⟩) n oc) n A:: [])→w'.cell? ⟨go,t,none⟩=some (.slice ia af4.length ic)):=aa (λw' h=>by
    rw[←Ep];exact aH (h.row 0 rfl) t _ (cy htA))
   have tu:Sep w wr (aU 0 38 5 (.slice ia af4.length ic) af4.length (flat iw af4)::cM (ap1.eraseIdx t)::aU 0 35 1 (.slice (some ⟨go,0,none⟩) n oc) n A::ae9::PT:: []):=by
    rw[←Ep];exact tu
   have HZ2:Hid (∀w' x,Sep w w' (aU 0 38 5 (.slice ia af4.length ic) x.length (flat iw x)::cM (ap1.eraseIdx t)::aU 0 35 1 (.slice (some ⟨go,0,none⟩) n oc) n A::ae9::PT:: [])→Sep w w' (cM ((A.zip ((ae8.take t++C.drop t).set t x)).map aH1)::aU 0 35 1 (.slice (some ⟨go,0,none⟩) n oc) n A::ae9::PT:: [])):=aa (λw' x h=>by
    rw[←HZS.out x];rw[←Ep]at h;exact Sep.ON zK.out h)
   clear Ep HZS zK;generalize ap1.eraseIdx t=af7 at*;have HS:=aa tu;clear tu;obtain⟨ln,o8⟩:∃ln,af4.length=ln:=⟨_,rfl⟩;have vG:=aa o8;rw[o8]at HS HGA HZ2 h5;clear o8;have hg:=HGA.out _ (HS.sub [2] rfl (by decide));have nF:=(oz (HS.row 2 rfl) go rfl).2;go_wp2_with fail;clear hg nF;go_loopg [46] ln (λg vk wk=>∃k:Nat,g+k=ln∧vk=I (k:Int)∧Sep w wk (aU 0 38 5 (.slice ia ln ic) ln (flat iw ((af4.map LU).take k++af4.drop k))::cM af7::aU 0 35 1 (.slice (some ⟨go,0,none⟩) n oc) n A::ae9::PT:: []))
   case atStart=>exact⟨0,by omega,rfl,HS.out⟩
   case round=>
    clear HS;obtain⟨k,U4,rfl,hS⟩:=hrel;by_cases hk:k<ln
    ·have rX:(k:Int)<(ln:Int):=by omega
     have Qn:k<af4.length:=by have:=vG.out;omega
     obtain⟨p,v,hv,hvu⟩:=aQ7.out k Qn;have AX:=aA4 (l:=af4) (l':=af4.map LU) (k:=k) (by rw[dD]) (by omega);have Qt:=aJ8 (l:=af4) (l':=af4.map LU) (k:=k) (by rw[dD]) Qn;have rk:=aF5 (l:=af4) (l':=af4.map LU) (k:=k) (by rw[dD]) Qn;rw[List.getElem_map,hv]at rk;rw[hv]at Qt;generalize(af4.map LU).take k++af4.drop k=E_ at*;have Qv:k<E_.length:=by rw[AX];exact Qn
     have hEk:E_[k]=⟨p,[v,0,0,0]⟩:=by rw[cy Qv]at Qt;exact eQ Qt
     have kM:(flat iw E_)[k*5+1]?=some (U v):=by rw[cI ux E_ k Qv 1 (by decide),hEk];rfl
     have Ox:=nD ux E_ Qv (j:=1) (by decide) (U (v%65536)) (LU ⟨p,[v,0,0,0]⟩) (by rw[hEk];rfl);rw[rk]at Ox;have HFS:=aa Ox;generalize flat iw E_=ax0 at*;clear Qt rk AX Qv hEk Ox hv;obtain⟨aP5,rfl⟩:=av9 (by omega) (hS.row 0 rfl);have HD:=aa hS.drew;clear hS;have hand:=aJ6 v hvu;have hg:=HGA.out _ (HD.sub [2] rfl (by decide));have nF:=(oz (HD.row 2 rfl) go rfl).2;have td:=(oz (HD.row 0 rfl) aP5 rfl).2;have hc:=aH (HD.row 0 rfl) _ _ kM;have fB:=bw (HD.row 0 rfl) (k*5+1);go_wp2_with fail;refine bW [(1,[0,1,2,3,4,5,6,7,8,9,10,11,12,13,14,15,16,17]),(3,[18])] (by kernel_rfl) ?_;simp only[zz];repeat(first|go_big_quiet_step(fail)|apply ax|apply af|apply ag|apply ah)
     refine ao ?_;go_wp2;refine aj ?_;have du:=HD.setRow 0 rfl (k*5+1) (U (v%65536));simp only[aL]at du;rw[HFS.out]at du;have HS:=aa du;clear du hg nF td hc fB kM HD;go_wp2;go_roundg (ln-(k+1))
     case measure=>omega
     case rel=>exact⟨k+1,by omega,by go_num,HS.out⟩
    ·obtain rfl:k=ln:=by omega
     have d3:decide ((k:Int)<(k:Int))=false:=cW (by omega);have e9:(af4.map LU).take k++af4.drop k=af4.map LU:=by
      rw[oA (by rw[dD];have:=vG.out;omega),yM (by have:=vG.out;omega),sY]
     rw[e9]at hS;have h9:=HZ2.out _ (af4.map LU) (by rw[dD,vG.out];exact hS);rw[HMS.out]at h9;have HS:=aa (h9.pull 1 rfl);clear h9 hS e9;go_wp2;go_roundg (n-(t+1))
     case measure=>omega
     case rel=>exact⟨t+1,by omega,by go_num,HS.out⟩
  ·obtain rfl:t=n:=by omega
   have d3:decide ((t:Int)<(t:Int))=false:=cW (by omega);have e9:ae8.take t++C.drop t=ae8:=by
    rw[oA (by rw[aA5.out.1,zG.out];exact dp _),yM (by rw[zG.out];exact dp _),sY]
   rw[e9]at hS;have HS:=aa hS;have LX:Hid (∀w',Sep w w' (aU 0 35 1 (.slice (some ⟨go,0,none⟩) t oc) t A::cM ((A.zip ae8).map aH1):: [])→vY w' (.slice (some ⟨go,0,none⟩) t oc) A ae8):=aa (λw' h=>by
    have e:ae8.length=t:=by rw[aA5.out.1,zG.out]
    exact aE8 (by rw[Ba.out,e]) (by rw[e];exact h))
   clear hS e9 yv HCE aA5 HC5 Ba;generalize t=n at*;rw[←J3.out,←HCB.out]at HS;clear J3 HCB;go_wp2_with fail;clear d3;have HD:=aa HS.drew;have Mc:=(HD.ar 2 rfl).range;refine bW [(1,[0,1,4,5]),(2,[2]),(2,[3]),(3,[6]),(0,[7])] (by kernel_rfl) ?_;simp only[zz];refine af ?_;repeat(first|(refine ak 31 _ cb 0 [x0,x1,x2,x3,x4,x5] _ rfl rfl rfl (aG Mc (by simp)) underlying31 rfl (by kernel_rfl) ?_;simp only[Act.put,aZ,zs])|go_big_quiet_step (fail)|quiet_step (fail))
   refine ax ?_;repeat(first|go_big_quiet_step(fail)|apply ax|apply af|apply ag|apply ah)
   refine aA ?_;go_wp2_with fail;refine(Kd.out _).mono ?_;rintro r w9 ⟨aP8,rfl,hL⟩;have HF:=aa hL.fr;have HS:=aa (HD.fresh hL.jm);clear hL HD Mc;go_wp2;refine⟨⟨⟨_,(by exact HF.out)⟩,rfl⟩,?_⟩;repeat(first|go_big_quiet_step(fail)|apply ax|apply af|apply ag|apply ah)
   refine aA ?_;go_wp2;refine⟨⟨⟨_,(by exact HF.alloc _)⟩,rfl⟩,?_⟩;have HS:=aa (HS.new 29 [.slice (some ⟨aR3,0,none⟩) 8 8,.slice (some ⟨aP8,0,none⟩) 2 2]);clear HF;repeat(first|go_big_quiet_step(fail)|apply ax|apply af|apply ag|apply ah)
   refine ao ?_;go_wp2_with fail;generalize World.alloc w9 _=Ov at HS⊢;generalize w9.heap.size=aR4 at HS⊢;have HP9:=aa (Xf.out Ov HS.fr aR3 aP8 aR4 (.slice (some ⟨go,0,none⟩) n oc) A (HS.ar 5 rfl) (HS.ar 1 rfl) (HS.ar 0 rfl) (LX.out _ (HS.sub [2,3] rfl (by decide))));refine HP9.out.mono ?_;rintro r X0 ⟨b,s0,rfl,hZ0,Mb,h4⟩;have HS:Hid (Sep w X0 [dx c jq b s0,aJ cb 31 [x0,x1,x2,x3,x4,x5]]):=aa ((HS.fresh h4.jm).sub [0,5] rfl (by decide));clear h4 Xf HP9 LX Kd;go_wp2_with fail;repeat(first|go_big_quiet_step(fail)|apply ax|apply af|apply ag|apply ah)
   refine aj ?_;go_wp2_with(refine ay 31 _ rfl rfl _ 0 rfl [x0,x1,x2,x3,x4,x5] _ (HS.ar 1 rfl).range underlying31 rfl (by kernel_rfl) ?_);refine(Qm.out _ _ b s0 Mb hZ0 HS.out).mono ?_;rintro r X2 ⟨rfl,s,aR7,hI,hr,h5⟩;have HS:=aa h5;clear h5 Qm hr hZ0 Mb;obtain⟨⟨q,j4⟩,tm,Ec⟩:=aR7.1.fin;have N0:=aR7.1.tY (by rw[Bq.out];omega) aR7.2;have nR:=hI.aM;have tK:=hI.aK;have Q9:=aa (λw' (R:List a_) (h:Sep w w' (dx c jq b s::R))=>CC hI (aJ5 (by omega)) (by omega) h);have Qd:=aa (λw' (R:List a_) (h:Sep w w' (dx c jq b s::R))=>xo (by omega) h);have HBD:=aa (aJ9 gF.out j4 ⟨iu 0,by decide⟩);have hlen:=(Or.kx s.rows).length_eq;obtain⟨L,hL⟩:∃l,Or.sort s.rows=l:=⟨_,rfl⟩;obtain⟨ao5,hRC⟩:∃l,s.aM=l:=⟨_,rfl⟩;rw[hL]at Q9 j4 Ec HBD hlen;rw[hRC]at Qd tm Ec nR;have Qw:=aa j4;have HRX:=aa Ec;have aQ8:=aa tm;have aQ9:(ao5.length:Int)≤65536:=by omega
   have aR0:L.length≤25:=by omega
   clear j4 tm Ec N0 nR tK hlen hL hRC aR7 hI;generalize dx c jq b s=ST at*;go_wp2_with fail;refine(Q9.out _ _ HS.out).mono ?_;rintro r X3 ⟨iP,rfl,h6s⟩;obtain⟨dY,kA,h7⟩:=jg h6s;have HW:=aa (λw' (h:Sep w w' (aU 0 51 6 iP L.length (mix j6 dY L)::cM (lY Z.Row.news dY L):: [ST,aJ cb 31 [x0,x1,x2,x3,x4,x5]]))=>tD kA h);have LH:=HW.out _ h7;have rN:(dY.zip L).length=L.length:=by rw[nK,LH.len,Nat.min_self]
   obtain⟨ln,o8⟩:∃n,L.length=n:=⟨_,rfl⟩;have HN:=aa o8;obtain⟨va,vc,hv⟩:=LH.row.len;rw[rN,o8]at hv;subst hv;have VR:=aa rN;have HS:=aa h7;rw[o8]at aR0;clear rN LH h6s h7 Q9 o8;go_wp2_with fail;go_loopg [11,84] ln (λg v11 vi wr=>∃(i:Nat) (p:Int),v11=U p∧vi=I (i:Int)∧g+i=ln∧Hid (gE (Q_ ae8) p (L.drop i) q)∧Sep w wr (aU 0 51 6 (.slice va ln vc) L.length (mix j6 dY L)::cM (lY Z.Row.news dY L):: [ST,aJ cb 31 [x0,x1,x2,x3,x4,x5]]))
   case atStart=>exact⟨0,0,rfl,rfl,by omega,Qw,HS.out⟩
   case round=>
    clear HS Qw;obtain⟨i,p,rfl,rfl,hgi,Qw,hS⟩:=hrel;have HS:=aa hS;clear hS;by_cases tH:i<ln
    ·have td:(i:Int)<(ln:Int):=by omega
     have Hh:i<L.length:=by rw[HN.out];exact tH
     have SJ:i<(dY.zip L).length:=by rw[VR.out];exact Hh
     have h_:=aa (λw' h=>dB.at (a:=va) (m:=(dY.zip L).length) (cap:=vc) (by have:=(HW.out w' h).row;rw[VR.out,HN.out];exact this) SJ);have Yp:(dY.zip L)[i].2=L[i]:=by simp
     have hbd:=HBD.out _ (cJ Hh);have j4:=Qw.out;rw[pO Hh]at j4;obtain⟨kM,mw,W9⟩:=j4;have hex:=HRX.out _ (cJ Hh);have k7:=(HW.out _ HS.out).each _ (cJ SJ);generalize(dY.zip L)[i]=pr at*;generalize L[i]=x at*;obtain⟨nv,x0r⟩:=pr;dsimp only at Yp;subst Yp;obtain⟨Gg,xw,xt,rI,xc,Mu⟩:=x0r;unfold j6 at h_;dsimp only at h_ k7 kM mw W9 hex hbd;subst kM;obtain⟨na,nc,rfl⟩:=k7;obtain⟨xa,rfl,uI,c0,c1⟩:=h_.out _ HS.out;have e0:=c0 _ rfl;have e1:=c1 0 _ rfl;have e2:=c1 1 _ rfl;have e3:=c1 2 _ rfl;have e4:=c1 3 _ rfl;have e5:=c1 4 _ rfl;have HC3:=aa W9;have HC2:=aa mw;have Un:=aa hex;have HTW:=aa (aG8 (x:=Q_ ae8 xw xt) (p:=p) (gF.out _ _));rw[←mw]at HTW;clear c0 c1 W9 mw hex;have HS:=aa (HS.new 51 [I Gg,I xw,I xt,I 0,U xc,.slice na Mu.length nc]);go_wp2_with fail;generalize World.alloc wr _=w14 at*;generalize wr.heap.size=bx at*;clear e0 e1 e2 e3 e4 e5;refine(Qd.out _ _ (HS.pull 3 rfl)).mono ?_;rintro r w15 ⟨iV,rfl,hF⟩;obtain⟨ra,rcc,rfl⟩:=hF.form;have HS:=aa (HS.fresh hF);clear hF;obtain⟨rn,z5⟩:∃rn,ao5.length=rn:=⟨_,rfl⟩;have z6:=aa z5;rw[z5]at HS aQ9;simp only[z5];clear z5;go_wp2_with fail;go_loopg [11,91] rn (λg v11 vj wk=>∃(j:Nat) (T:Int),v11=U T∧vj=I (j:Int)∧g+j=rn∧Hid (T=xc∨(T=p∧∀k (h:k<ao5.length),k<j→¬(ao5[k].aw=xw∧ao5[k].tag=xt)))∧Sep w wk (aU 0 55 13 (.slice ra rn rcc) rn (flat eI ao5)::aJ bx 51 [I Gg,I xw,I xt,I 0,U xc,.slice na Mu.length nc]::aU 0 51 6 (.slice (some xa) ln vc) L.length (mix j6 dY L)::cM (lY Z.Row.news dY L):: [ST,aJ cb 31 [x0,x1,x2,x3,x4,x5]]))
     case atStart=>exact⟨0,p,rfl,rfl,by omega,aa (.inr ⟨rfl,λk h h2=>by omega⟩),HS.out⟩
     case round=>
      clear HS;obtain⟨j,T,rfl,rfl,yy,HT,hS⟩:=hrel;have HS:=aa hS;clear hS;by_cases hj:j<rn
      ·have s9:(j:Int)<(rn:Int):=by omega
       have mW:j<ao5.length:=by have:=z6.out;omega
       have qz:=HS.row 0 rfl;rw[←z6.out]at qz;obtain⟨xr,rfl,GD,c0,c1⟩:=(dB.kG jD qz).at mW;have jH:=aQ8.out _ (cJ mW);have IE:Hid (∀T2:Int,(ao5[j].aw=xw∧ao5[j].tag=xt→T2=xc)→(¬(ao5[j].aw=xw∧ao5[j].tag=xt)→T2=T)→(T2=xc∨(T2=p∧∀k (h:k<ao5.length),k<j+1→¬(ao5[k].aw=xw∧ao5[k].tag=xt)))):=aa (λT2 h1 h2=>by
        by_cases hm:ao5[j].aw=xw∧ao5[j].tag=xt
        ·exact .inl (h1 hm)
        ·rcases HT.out with e|⟨e,hk⟩
         ·exact .inl ((h2 hm).trans e)
         ·refine .inr ⟨(h2 hm).trans e,λk h h3=>?_⟩;by_cases e2:k=j
          ·subst e2;exact hm
          ·exact hk k h (by omega))
       have hT:T=xc∨T=p:=by rcases HT.out with e|⟨e,_⟩;exact .inl e;exact .inr e
       generalize ao5[j]=rr at*;obtain⟨aA6,aA7,⟨aC0,aF6⟩,aP3,Du,aN7,iM,Dy,Dz⟩:=rr;unfold eI at c0 c1;dsimp only at c0 c1 jH IE;have e0:=c0 _ rfl;have e1:=c1 0 _ rfl;have e2:=c1 1 _ rfl;have e3:=c1 2 _ rfl;have e4:=c1 3 _ rfl;have e5:=c1 4 _ rfl;have e6:=c1 5 _ rfl;have e7:=c1 6 _ rfl;have e8:=c1 7 _ rfl;have e9:=c1 8 _ rfl;have o7:=c1 9 _ rfl;have qM:=c1 10 _ rfl;have qN:=c1 11 _ rfl;clear c0 c1 qz;obtain⟨a0,PB⟩:∃a0,aF6.getD 0 0=a0:=⟨_,rfl⟩;have HCA:Hid (te (Q_ ae8 aA6 aA7)∧(Q_ ae8 aA6 aA7).prog=aC0∧Sl (Q_ ae8 aA6 aA7)=a0):=aa (by rw[←jH];exact⟨by rw[jH];exact gF.out _ _,rfl,PB⟩);rw[PB]at e3;generalize aF6.getD 1 0=ra1 at*;generalize aF6.getD 2 0=ra2 at*;generalize aF6.getD 3 0=ra3 at*;clear PB jH;have HS:=aa (HS.new 55 [I aA6,I aA7,I aC0,U a0,U ra1,U ra2,U ra3,I aP3,I Du,I aN7,.bool iM,I Dy,U Dz]);have f0:=(HS.ar 0 rfl).cell 0;have f1:=(HS.ar 0 rfl).cell 1;have f2:=(HS.ar 0 rfl).cell 2;have f3:=(HS.ar 0 rfl).cell 3;have fl:=(HS.ar 0 rfl).lt;have g1:=(HS.ar 2 rfl).cell 1;have g2:=(HS.ar 2 rfl).cell 2;have aP8:=(HS.ar 2 rfl).lt;have bQ:=aE9 (HS.ar 2 rfl) 3 [I 0,U xc] (λj u hj=>by
        match j with
        |0=>exact hj
        |1=>exact hj
        |j+2=>cases hj)
       have pg:=λw=>aA1 w 0 xc;simp only[zg]at f0 f1 f2 f3 g1 g2;by_cases hw:aA6=xw
       ·by_cases ht:aA7=xt
        ·obtain⟨tN,bY,aK0⟩:=HCA.out;have UK:=tN.2.2;rw[aK0]at UK;have Mf:lN (Q_ ae8 aA6 aA7) p=xc:=by rw[hw,ht];exact HC2.out.symm
         have tE:lN (Q_ ae8 aA6 aA7) xc=xc:=by rw[hw,ht];exact HTW.out
         have TP:lN (Q_ ae8 aA6 aA7) T=xc:=by rcases hT with rfl|rfl;exact tE;exact Mf
         unfold lN nx at TP;rw[bY,aK0]at TP;clear tN bY aK0 Mf tE hT IE HT;subst hw ht;have O4:IntKind.u64.wrap (a0+1)=a0+1:=by rw[ir];omega
         by_cases Fs:aC0=0∧T=0
         ·rw[aB Fs]at TP;obtain⟨rfl,rfl⟩:=Fs;go_wp2_with(refine ay 48 _ rfl rfl bx 3 rfl [I 0,U xc] _ bQ underlying48 rfl (by kernel_rfl) ?_);go_roundg (rn-(j+1))
          case measure=>omega
          case rel=>exact⟨j+1,xc,by first|rfl|rw[TP],by go_num,by omega,aa (.inl rfl),HS.tail⟩
         ·rw[aq Fs]at TP;subst TP;by_cases hT0:T=0
          ·have A6:(aC0==0)=false:=by
            have:¬aC0=0:=λe=>Fs ⟨e,hT0⟩;simpa using this
           subst hT0;clear Fs;go_wp2_with(refine ay 48 _ rfl rfl bx 3 rfl [I 0,U 0] _ bQ underlying48 rfl (by kernel_rfl) ?_);go_roundg (rn-(j+1))
           case measure=>omega
           case rel=>exact⟨j+1,0,rfl,by go_num,by omega,aa (.inl rfl),HS.tail⟩
          ·have A6:(T==0)=false:=by simpa using hT0
           clear Fs;go_wp2_with(refine ay 48 _ rfl rfl bx 3 rfl [I 0,U T] _ bQ underlying48 rfl (by kernel_rfl) ?_);go_roundg (rn-(j+1))
           case measure=>omega
           case rel=>exact⟨j+1,T,rfl,by go_num,by omega,aa (.inl rfl),HS.tail⟩
        ·have Td:(aA7 !=xt)=true:=by simpa using ht
         have aN8:=aa (IE.out T (λh=>absurd h.2 ht) (λ_=>rfl));clear hT IE HT;subst hw;go_wp2;go_roundg (rn-(j+1))
         case measure=>omega
         case rel=>exact⟨j+1,T,rfl,by go_num,by omega,aN8,HS.tail⟩
       ·have Td:(aA6 !=xw)=true:=by simpa using hw
        have aN8:=aa (IE.out T (λh=>absurd h.1 hw) (λ_=>rfl));clear hT IE HT;go_wp2;go_roundg (rn-(j+1))
        case measure=>omega
        case rel=>exact⟨j+1,T,rfl,by go_num,by omega,aN8,HS.tail⟩
      ·obtain rfl:j=rn:=by omega
       have d3:decide ((j:Int)<(j:Int))=false:=cW (by omega);have hTx:T=xc:=by
        rcases HT.out with e|⟨_,hk⟩
        ·exact e
        ·obtain⟨r,hr,h1,h2⟩:=Un.out;obtain⟨k,uV,rfl⟩:=qO hr;exact absurd ⟨h1,h2⟩ (hk k uV (by have:=z6.out;omega))
       subst hTx;go_wp2;go_roundg (ln-(i+1))
       case measure=>omega
       case rel=>exact⟨i+1,_,rfl,by go_num,by omega,HC3,HS.tail.tail⟩
    ·obtain rfl:i=ln:=by omega
     have d3:decide ((i:Int)<(i:Int))=false:=cW (by omega);go_wp2;go_ret;exact⟨rfl,HS.fr⟩
end Go.Proofs.YtolkmchicplaoaaGreat
namespace Go.Proofs.YtolkmchicplaoaaGreat
def own:ownKnob Tryz.prog.godebug=none:=by kernel_rfl
def laidOut:laidOutB Tryz.prog=true:=by kernel_rfl
end Go.Proofs.YtolkmchicplaoaaGreat
namespace Go.aS
open Go.RowKit Go.Deep Go.ChangeShapes Go.WideShapes Go.ChangeAt
section
variable {H:Type} {enc:TypeId×Value→H} {P:Program} {w:World} {base:Nat} {spare:Nat→Bool} {held:Bool}
def ab7 {T:Type}{en:T→List Value}{n:Nat}{rE:T→Prop}{t e:TypeId}(ht:P.underlying t=some (.slice e))(hc:P.cellsOf e=n)(h0:0<n)(Bs:∀m GF x,GF.length=n→DataW.trod enc P w base spare held m e GF=some x→∃q:T,GF=en q∧rE q)
 {fuel:Nat}{cs:List Value}{x:DataW H×List MemPlace}(h:DataW.trod enc P w base spare held fuel t cs=some x):
 ∃v l,cs=[v]∧dB en n w v l∧(∀q∈l,rE q)∧l.length≤maxLen:=by
 rcases open_slice ht h with⟨j8,_⟩|⟨b,len,cap,m,n',D,Pl,j8,_,hl,hm,Lx,_,hi⟩
 ·exact⟨_,[],j8,⟨_,_,rfl,cE _,.inl rfl⟩,by simp,by simp⟩
 ·have zE:len≤m:=by rw[Lx];split<;>omega
  have each:∀i,i<len→∃q:T,rE q∧∀j u,(en q)[j]?=some u→w.cell? (b.add (i*n+j))=some u:=by
   intro i qL;obtain⟨GF,h1,h2⟩:=hi i (by omega);obtain⟨_,hlen,jT⟩:=World.cells?_some h1;obtain⟨q,rfl,hq⟩:=Bs _ GF _ (by rw[hlen,hc]) h2;refine⟨q,hq,λj u hj=>?_⟩;have mW:j<n:=by rw[←hc,←hlen];exact(dE.1 hj).1
   have:=jT j (by omega);rw[hc,add_add]at this;rw[this,←hj]
  by_cases S3:len=0
  ·subst S3;exact⟨_,[],j8,⟨_,_,rfl,cE _,.inl rfl⟩,by simp,by simp⟩
  ·obtain⟨q0,_,_⟩:=each 0 (by omega);have:∃q:Nat→T,∀i,i<len→rE (q i)∧∀j u,(en (q i))[j]?=some u→w.cell? (b.add (i*n+j))=some u:=by
    classical
    refine⟨λi=>if h:i<len then(each i h).choose else q0,λi hi=>?_⟩;simp only[hi,dif_pos];exact(each i hi).choose_spec
   obtain⟨q,hq⟩:=this;refine⟨_,(List.range len).map q,j8,⟨some b,cap,by simp,by simpa using hl,.inr ⟨b,rfl,?_,λi hi j u hj=>?_⟩⟩,λe he=>?_,by simp;omega⟩
   ·obtain⟨GF,h1,h2⟩:=hi 0 (by omega);obtain⟨_,hlen,jT⟩:=World.cells?_some h1;have:=jT 0 (by omega);rw[add_add]at this;have h5:=wq w _ (this.trans (cy (by omega)));simpa[Addr.add]using h5
   ·have BM:i<len:=by simpa using hi
    exact(hq i BM).2 j u (by simpa using hj)
   ·simp only[mE,oF]at he;obtain⟨i,PY,rfl⟩:=he;exact(hq i PY).1
end
end Go.aS
namespace Go.Proofs.YtolkmchicplaoaaGreat
open Go.RowKit Go.aS Go.aS.I_ Go.aS.Y Go.Deep Go.ChangeShapes Go.WideShapes Go.ChangeAt
def NF {x:Int}(h:(Lit.int .u64 x).wf=true):W.U_ x:=by
 simp[Lit.wf,IntKind.min,IntKind.max,IntKind.signed,IntKind.bits]at h;unfold W.U_;omega
section
variable {H:Type} {enc:TypeId×Value→H} {w:World} {base:Nat} {spare:Nat→Bool} {held:Bool}
def u64_in {m:Nat}{cs:List Value}{x:DataW H×List MemPlace}(h:DataW.trod enc Tryz.prog w base spare held m 26 cs=some x):∃q:Int,cs=Fe q∧W.U_ q:=by
 obtain⟨n,rfl,-,hw⟩:=qR underlying26 h;exact⟨n,rfl,NF hw⟩
def ab9 {m:Nat}{cs:List Value}{x:DataW H×List MemPlace}(h:DataW.trod enc Tryz.prog w base spare held m 3 cs=some x):∃q:Int,cs=CK q∧True:=by
 obtain⟨n,rfl,-,-⟩:=qR underlying3 h;exact⟨n,rfl,trivial⟩
def XQ {T:Type}{en:T→List Value}{n:Nat}{rE:T→Prop}{t e i:TypeId}(ht:Tryz.prog.underlying t=some (.slice e))(hc:Tryz.prog.cellsOf e=1)(hte:Tryz.prog.underlying e=some (.slice i))(ko:Tryz.prog.cellsOf i=n)(h0:0<n)(Bs:∀m GF x,GF.length=n→DataW.trod enc Tryz.prog w base spare held m i GF=some x→∃q:T,GF=en q∧rE q)
 {fuel:Nat}{a:Option Addr}{len cap:Nat}{x:DataW H×List MemPlace}(h:DataW.trod enc Tryz.prog w base spare held fuel t (Value.slice a len cap).cells.toList=some x):
 ∃(l:List (List T)),(∃vs,yH en n w (.slice a len cap) vs l∧∀p∈l,∀q∈p,rE q)∧len=l.length∧l.length≤maxLen:=by
 obtain⟨v,L,hv,h1,h2,h3⟩:=ab7 (en:=fun(q:Value×List T)=> [q.1]) (n:=1) (rE:=λq=>dB en n w q.1 q.2∧∀y∈q.2,rE y) ht hc (by decide) (λm GF x hl hx=>by
  obtain⟨v,l,e1,e2,e3,-⟩:=ab7 hte ko h0 Bs hx;exact⟨(v,l),e1,e2,e3⟩) h
 have qy:v= .slice a len cap:=by simpa[Value.cells]using hv.symm
 subst qy;obtain⟨a',tW,e1,e2,e3⟩:=h1;simp only[dk]at e1;obtain⟨rfl,rfl,rfl⟩:=e1;refine⟨L.map (·.2),⟨L.map (·.1),⟨⟨_,_,by rw[dD],by rw[dD];exact e2,?_⟩,by simp,λk hk=>?_⟩,λp hp q hq=>?_⟩,by simp,by simpa using h3⟩
 ·rcases e3 with e3|⟨x,rfl,hx,xL⟩
  ·left;rw[e3];rfl
  ·exact .inr ⟨x,rfl,hx,λi hi j u hj=>xL i (by simpa using hi) j u (by simpa using hj)⟩
 ·rw[dD]at hk;simp only[List.getElem_map];exact(h2 _ (cJ hk)).1
 ·rw[mE]at hp;obtain⟨z,hz,rfl⟩:=hp;exact(h2 z hz).2 q hq
def aL4 {fuel:Nat}{a:Option Addr}{len cap:Nat}{x:DataW H×List MemPlace}(h:DataW.trod enc Tryz.prog w base spare held fuel 22 (Value.slice a len cap).cells.toList=some x):
 ∃(l:List (List Int)),(∃vs,yH Fe 1 w (.slice a len cap) vs l∧∀p∈l,∀q∈p,W.U_ q)∧len=l.length∧l.length≤maxLen:=
 XQ underlying22 (by kernel_rfl) underlying49 (by kernel_rfl) (by decide) (λm GF x hl hx=>u64_in hx) h
def SQ {fuel:Nat}{a:Option Addr}{len cap:Nat}{x:DataW H×List MemPlace}(h:DataW.trod enc Tryz.prog w base spare held fuel 23 (Value.slice a len cap).cells.toList=some x):
 ∃(l:List Int),dB CK 1 w (.slice a len cap) l∧len=l.length∧l.length≤maxLen:=by
 obtain⟨v,l,hv,h1,-,h3⟩:=ab7 (en:=CK) (n:=1) (rE:=λ_=>True) underlying23 (by kernel_rfl) (by decide) (λm GF x hl hx=>ab9 hx) h;have qy:v= .slice a len cap:=by simpa[Value.cells]using hv.symm
 subst qy;obtain⟨a',tW,e1⟩:=h1.len;simp only[dk]at e1;exact⟨l,h1,e1.2.1,h3⟩
end
end Go.Proofs.YtolkmchicplaoaaGreat
namespace Go.Proofs.YtolkmchicplaoaaGreat
open Go.ChangeShapes Go.WideShapes Go.ChangeAt Go.RowKit Go.Deep Go.aS
def aF2 (v1 v2:Value)(l1:List (List Int))(l2:List Int)(W:World)(w1:∃vs,yH Fe 1 W v1 vs l1∧∀p∈l1,∀q∈p,Go.aS.W.U_ q)(w2:dB CK 1 W v2 l2)(m1:l1.length≤maxLen)(m2:l2.length≤maxLen):
 ba 3 #[v1,v2] W (.bool true):=by
 obtain⟨vs1,h1,u1⟩:=w1;exact aF1 h1 w2 m1 m2 u1
def ab4 (os:Os)(started:os.Started)(H:Type)(enc:TypeId×Value→H):
 ReturnsInHanded {} Tryz.checked os 3 .any (Rows.wholeAgreesSpec.pre6 enc Tryz.prog Tryz.f3 Rows.wholeAgreesRow.domain false) (Rows.wholeAgreesSpec.post enc Tryz.prog Tryz.f3 false true false false):=by
 refine returnsInHanded_of_change (C:=Tryz.checked) own started (by kernel_rfl) Tryz.func3
  (ChangeSpec.witness6 (enc:=enc) (C:=Tryz.checked) false ⟨#[],#[.slice none 0 0,.slice none 0 0],[]⟩ 8 (by kernel_rfl) (by kernel_rfl) (by kernel_rfl) (by kernel_rfl)) ?_
 intro W base args ds gs before XU hW _ _;have ug:∀(j:Nat) t v,Tryz.f3.params[j]?=some t→args[j]?=some v→Value.okWide Tryz.prog W .any base t v:=XU;have Ib:=hW;obtain⟨p,q,Pq,hV,rfl,_,_⟩:=hW;have hA:DataW.TrodAll enc Tryz.prog W 0 (λ_=>true) true Tryz.f3.params.toList args.toList ds p:=Pq;rw[Tryz.params3]at hA ug;obtain⟨v0,vs0,d0,ds0,p0,q0,bX,rfl,rfl,h0,r0⟩:=trodAll_cons hA;obtain⟨v1,vs1,d1,ds1,p1,q1,rfl,rfl,rfl,h1,r1⟩:=trodAll_cons r0;obtain⟨rfl,rfl,rfl⟩:=trodAll_nil r1;obtain rfl:args=#[v0,v1]:=by cases args;simp_all
 obtain⟨rfl,rfl⟩:=trodVars_none hV;obtain⟨a1,aB5,aw7,rfl⟩:=okWide_slice underlying22 (ug 0 22 v0 rfl rfl);have k0:=h0;have lt0:∀x∈p0,x.block<W.heap.size:=by obtain⟨m,hm⟩:=k0;exact DataW.trod_lt m _ _ _ hm
 obtain⟨_,Gh⟩:=h0;obtain⟨l1,w1,rfl,m1⟩:=aL4 Gh;obtain⟨a2,aB6,aj3,rfl⟩:=okWide_slice underlying23 (ug 1 23 v1 rfl rfl);have k1:=h1;have lt1:∀x∈p1,x.block<W.heap.size:=by obtain⟨m,hm⟩:=k1;exact DataW.trod_lt m _ _ _ hm
 obtain⟨_,J0⟩:=h1;obtain⟨l2,w2,rfl,m2⟩:=SQ J0;clear Pq XU;refine(aF2 (.slice a1 l1.length aw7) (.slice a2 l2.length aj3) l1 l2 W w1 w2 m1 m2).mono λe W' ⟨he,hf⟩=>?_;have bel:=hf.below (dp _) (by simp);subst he;exact⟨_,rfl,_,_,_,[],_,[],Ib,trodAll_mk1 (shut_bool underlying4 _),(trodAll_cons_mk (Below.trod laidOut (by kernel_rfl) (oC (by kernel_rfl)) k0 bel lt0) (trodAll_cons_mk (Below.trod laidOut (by kernel_rfl) (oC (by kernel_rfl)) k1 bel lt1) trodAll_mk0)),rfl,bel.frame _,λh=>by cases h⟩
theorem aF7:Rows.WholeAgreesSaid:=
 OpenClaim.holds_of_wide 3 Tryz.f3 rfl rfl rfl rfl rfl rfl rfl ⟨rfl,rfl,rfl,rfl,rfl⟩ rfl rfl rfl rfl rfl (by kernel_rfl) Tryz.func3 (by kernel_rfl)
  (oC (by kernel_rfl)) (by unfold Func.isWrapper;first|(rw[aB (by decide+kernel)];kernel_rfl)|(rw[aq (by decide+kernel)];exact⟨rfl,rfl⟩))
  (λos started H enc _=>ab4 os started H enc)
