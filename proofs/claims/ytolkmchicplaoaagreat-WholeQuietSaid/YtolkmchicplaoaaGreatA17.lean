/- Proved: for every input WholeQuiet answers true and leaves its arguments as they were; no condition. -/
import Derived.ProofKit
import Derived.OpenShut
import Derived.ChangeOld
import Derived.Below
import Derived.Test.YtolkmchicplaoaaGreatA16
set_option linter.all false
set_option maxHeartbeats 16000000
set_option maxRecDepth 100000
namespace Go.Proofs.YtolkmchicplaoaaGreat
open Go.RowKit Go.aS Go.aS.I_ Go.aS.Y
structure yH {T:Type}(en:T→List Value)(n:Nat)(w:World)(pv:Value)(aO:List Value)(L:List (List T)):Prop where
 row:dB (λv=> [v]) 1 w pv aO
 len:aO.length=L.length
 each:∀k (h:k<L.length),dB en n w (aO[k]'(by omega)) L[k]
def yH.fr {T:Type}{en:T→List Value}{n w w' pv aO L}(h:yH en n w pv aO L)(f:Fr [] w w'):yH en n w' pv aO L:=
 ⟨h.row.fr f,h.len,λk hk=>(h.each k hk).fr f⟩
def nT {T:Type}(m:Nat)(L:List (List T)):Bool:=L.all (λl=>decide (l.length≤m))
def D9 (c:Y.cA)(ai:List (List In))(calls:List (List K.Call))(n:Nat):Bool:=
 nT 40 ai&&nT 4 calls&&right c&&decide (c.f≤100)&&decide (c.t≤3)&&decide (ai.length≤8)&&decide ((calls.length:Int)=c.t)&&decide (n≤600)
def AN {T:Type}{m:Nat}{L:List (List T)}{j:Nat}(hj:j<L.length)(h:nT m (L.take j)=true):nT m (L.take (j+1))=decide (L[j].length≤m):=by
 unfold nT at h⊢;rw[wj hj,List.all_append,h];simp
def Gq {T:Type}{m:Nat}{L:List (List T)}{j:Nat}(hj:j<L.length)(h:¬L[j].length≤m):nT m L=false:=by
 unfold nT;rw[←Bool.not_eq_true,mC];intro h2;exact h (oC (h2 _ (cJ hj)))
def Wo{w c pv kv aO wi ai calls n sa sc}(hp:yH gl 5 w pv aO ai)(hk:yH iw 5 w kv wi calls)(B5:ai.length≤maxLen)(fu:calls.length≤maxLen):ba 19 #[db c,pv,kv,.slice sa n sc] w (.bool (D9 c ai calls n)):=by
 obtain⟨pa,pc,rfl⟩:=hp.row.len;obtain⟨ka,kc,rfl⟩:=hk.row.len;have HP:=aa hp;have HK:=aa hk;have Mn:=aa (λw=>GW w c);obtain⟨FB,hFB⟩:∃b,D9 c ai calls n=b:=⟨_,rfl⟩;rw[hFB];have Kb:=aa hFB;have DE:Hid (aO.length=ai.length):=hp.len;have We:Hid (wi.length=calls.length):=hk.len;have Ξ:aO.length≤maxLen:=by rw[hp.len];exact B5
 have sh:wi.length≤maxLen:=by rw[hk.len];exact fu
 unfold maxLen at Ξ sh;clear hp hk hFB B5 fu;rw[show db c= .agg (gT c).toArray from rfl]at*;have HS:=aa ((Sep.nil (Fr.refl [] w)).new 31 (gT c));have Da:(gT c)[0]?=some (I c.t):=rfl;have W9:(gT c)[3]?=some (I c.f):=rfl;have qK:(gT c).length=6:=rfl;generalize gT c=cl at*;obtain⟨pn,xy⟩:∃n,aO.length=n:=⟨_,rfl⟩;have Gm:=aa xy;simp only[xy]at DE Ξ⊢;clear xy;obtain⟨kn,Jm⟩:∃n,wi.length=n:=⟨_,rfl⟩;have Sf:=aa Jm;simp only[Jm]at We sh⊢;clear Jm;delta ba;go_in;go_wp2_with fail;generalize World.alloc _ _=w1 at HS⊢;generalize w.heap.size=cb at HS⊢;go_loopg [8,15] pn (λg v8 vi wr=>∃j:Nat,g+j=pn∧v8= .bool false∧vi=I (j:Int)∧nT 40 (ai.take j)=true∧Sep w wr [aJ cb 31 cl])
 case' atStart=>skip
 refine ?Z
 case' round=>skip
 refine ?Y
 case' Z=>exact⟨0,by omega,rfl,rfl,rfl,HS.out⟩
 obtain⟨j,yy,rfl,rfl,hsh,hS⟩:=hrel;have HS:=aa hS;have Sr:=aa hsh;clear hS hsh;by_cases hj:j<pn;refine ?X;rotate_left;refine ?J
 case' X=>
  have s9:(j:Int)<(pn:Int):=by omega
  have FG:j<aO.length:=by have:=Gm.out;omega
  have Sg:j<ai.length:=by have:=DE.out;omega
  obtain⟨xa,rfl,GD,xX,-⟩:=(HP.row.fr HS.fr).at FG;rw[lj]at xX;have hx:=xX _ rfl;obtain⟨la,lc,Ep⟩:=(HP.out.each j Sg).len;rw[Ep]at hx;clear xX Ep;obtain⟨ln,o8⟩:∃ln,ai[j].length=ln:=⟨_,rfl⟩;have vG:=aa o8;rw[o8]at hx;clear o8
 case' X=>by_cases h4:ln≤40;refine ?G;rotate_left;refine ?D
 case' G=>
  have h4i:(ln:Int)≤40:=by omega
  have d1:decide ((ln:Int)>40)=false:=cW (by omega);clear h4;go_wp2_with fail
 case' G=>
  go_roundg (pn-(j+1))
  case' measure=>skip
  refine ?V
  case' rel=>skip
  refine ?U
 case' V=>omega
 case' J=>
  obtain rfl:j=pn:=by omega
  have Sr:Hid (nT 40 ai=true):=aa (by have:=Sr.out;rwa [oA (by have:=DE.out;omega)]at this);have HSP:=Sr;clear Sr;generalize j=pn at*;go_wp2_with fail;clear hj yy
 case' J=>
  go_loopg [8,25] kn (λg v8 vi wr=>∃j:Nat,g+j=kn∧v8= .bool false∧vi=I (j:Int)∧nT 4 (calls.take j)=true∧Sep w wr [aJ cb 31 cl])
  case' atStart=>skip
  refine ?g0
  case' round=>skip
  refine ?g1
 case' g1=>obtain⟨j,yy,rfl,rfl,hsh,hS⟩:=hrel;have HS:=aa hS;have Sr:=aa hsh;clear hS hsh
 case' g1=>by_cases hj:j<kn;refine ?g2;rotate_left;refine ?g3
 case' g2=>
  have s9:(j:Int)<(kn:Int):=by omega
  have FG:j<wi.length:=by have:=Sf.out;omega
  have Sg:j<calls.length:=by have:=We.out;omega
  obtain⟨xa,rfl,GD,xX,-⟩:=(HK.row.fr HS.fr).at FG;rw[lj]at xX;have hx:=xX _ rfl;obtain⟨la,lc,Ep⟩:=(HK.out.each j Sg).len;rw[Ep]at hx;clear xX Ep;obtain⟨ln,o8⟩:∃ln,calls[j].length=ln:=⟨_,rfl⟩;have vG:=aa o8;rw[o8]at hx;clear o8
 case' g2=>by_cases h4:ln≤4;refine ?g4;rotate_left;refine ?g5
 case' g4=>
  have h4i:(ln:Int)≤4:=by omega
  have d1:decide ((ln:Int)>4)=false:=cW (by omega);clear h4;go_wp2_with fail
 case' g4=>
  go_roundg (kn-(j+1))
  case' measure=>skip
  refine ?g6
  case' rel=>skip
  refine ?g7
 case' U|g7=>exact⟨j+1,by omega,rfl,by go_num,(AN Sg Sr.out).trans (eP (by rw[vG.out];omega)),HS.out⟩
 case' D=>
  have h4i:(ln:Int)>40:=by omega
  have C4:=aa (Gq (m:=40) Sg (by rw[vG.out];exact h4));have d1:decide ((ln:Int)>40)=true:=eP h4i;clear h4;go_wp2_with fail;go_ret;refine⟨?_,HS.fr⟩;rw[←Kb.out];unfold D9;rw[C4.out]
 case' D=>simp
 case' g0=>exact⟨0,by omega,rfl,rfl,rfl,HS.out⟩
 case' g6=>omega
 case' g5=>
  have h4i:(ln:Int)>4:=by omega
  have C4:=aa (Gq (m:=4) Sg (by rw[vG.out];exact h4));have d1:decide ((ln:Int)>4)=true:=eP h4i;clear h4;go_wp2_with fail;go_ret;refine⟨?_,HS.fr⟩;rw[←Kb.out];unfold D9;rw[C4.out]
 case' g5=>simp
 obtain rfl:j=kn:=by omega
 have Sr:Hid (nT 4 calls=true):=aa (by have:=Sr.out;rwa [oA (by have:=We.out;omega)]at this);have HSK:=Sr;clear Sr;generalize j=kn at*;have Gr:Hid (FB=(right c&&decide (c.f≤100)&&decide (c.t≤3)&&decide ((pn:Int)≤8)&&decide ((kn:Int)=c.t)&&decide ((n:Int)≤600))):=aa (by
  have B5:=DE.out;have fu:=We.out;rw[←Kb.out];unfold D9;rw[HSP.out,HSK.out,show decide (ai.length≤8)=decide ((pn:Int)≤8)from sX.2 (by omega),show decide ((calls.length:Int)=c.t)=decide ((kn:Int)=c.t)from sX.2 (by omega),show decide (n≤600)=decide ((n:Int)≤600)from sX.2 (by omega)];rfl)
 clear Kb;have f0:=(HS.ar 0 rfl).aT 0 Da;have f3:=(HS.ar 0 rfl).aT 3 W9;go_wp2_with(refine ay 31 _ rfl rfl _ 0 rfl cl _ (HS.ar 0 rfl).range Tryz.underlying31 rfl (by rw[qK];kernel_rfl) ?_);clear f0 f3;refine(Mn.out _).kq HS λw3 HS=>?_;have f0:=(HS.ar 0 rfl).aT 0 Da;have f3:=(HS.ar 0 rfl).aT 3 W9;obtain⟨b0,UK⟩:∃b,right c=b:=⟨_,rfl⟩;rw[UK]at Gr⊢;have HF:=aa HS.fr;clear UK Mn HP HK DE We Gm Sf;have yu:Hid (∀r:Bool,r=FB→∀w':World,Fr [] w w'→(Ending.returned (.bool r)= .returned (.bool FB)∧Fr [] w w')):=aa (λr e w' f=>⟨by rw[e],f⟩);cases b0 with
 |false=>
  go_wp2_with fail;go_ret;exact yu.out _ (by rw[Gr.out];rfl) _ HF.out
 |true=>
 by_cases h1:c.f≤100;rotate_left
 ·go_wp2_with fail;all_goals(go_ret;exact yu.out _ (by rw[Gr.out];first|(simp[*];done)|(simp[*];omega)) _ HF.out)
 by_cases h2:c.t≤3;rotate_left
 ·go_wp2_with fail;all_goals(go_ret;exact yu.out _ (by rw[Gr.out];first|(simp[*];done)|(simp[*];omega)) _ HF.out)
 by_cases h3:(pn:Int)≤8;rotate_left
 ·go_wp2_with fail;all_goals(go_ret;exact yu.out _ (by rw[Gr.out];first|(simp[*];done)|(simp[*];omega)) _ HF.out)
 by_cases h4:(kn:Int)=c.t;rotate_left
 ·go_wp2_with fail;all_goals(go_ret;exact yu.out _ (by rw[Gr.out];first|(simp[*];done)|(simp[*];omega)) _ HF.out)
 by_cases h5:(n:Int)≤600;rotate_left
 ·go_wp2_with fail;all_goals(go_ret;exact yu.out _ (by rw[Gr.out];first|(simp[*];done)|(simp[*];omega)) _ HF.out)
 go_wp2_with fail;all_goals(go_ret;exact yu.out _ (by rw[Gr.out];first|(simp[*];done)|(simp[*];omega)) _ HF.out)
def CK (x:Int):List Value:=[I x]
def Jo {w c}(aE:Y.Ok c){pv kv aO wi ai calls}(hp:cL w pv aO ai)(hk:vY w kv wi calls)(B5:ai.length≤32)(mr:(calls.length:Int)=c.t)(Se:∀l∈calls,l.length≤64)
 (Wp:PI ai)(uX:c.fi≤1000000000000000)(hsi:SI c ai c.fi (Z.new c calls)){sv aK}(hA:dB CK 1 w sv aK)(AX:aK.length≤maxLen){Φ:Z.St→Prop}(h0:Φ (Z.new c calls))(hΦ:∀s t,Φ s→Φ (Z.pick c ai t s).1):
 Calls Tryz.prog 11 #[db c,pv,kv,sv] w λr w'=>∃b s,r= .returned (O b)∧Φ s∧SI c ai c.fi s∧Sep w w' [dx c ai b s]:=by
 obtain⟨sa,sc,rfl⟩:=hA.len;have Q7:=aa (fun(w':World) (f:Fr [] w w')=>Gl aE (hp.fr f) (hk.fr f) B5 mr Se);have yG:=aa (fun(w0 w':World) (R:List a_) (b:Nat) (s:Z.St) (t:Int) (hI:SI c ai c.fi s) (h:Sep w0 w' (dx c ai b s::R))=>AJ aE Wp uX hI t h);have HPH:=aa hΦ;have H0:=aa h0;have HSI:=aa hsi;have HA:=aa hA;clear aE hp hk B5 mr Se Wp uX hsi hA h0 hΦ;rw[show db c= .agg (gT c).toArray from rfl]at*;have HS:=aa ((Sep.nil (Fr.refl [] w)).new 31 (gT c));have qK:(gT c).length=6:=rfl;generalize gT c=cl at*;obtain⟨n,hn⟩:∃n,aK.length=n:=⟨_,rfl⟩;have HN:=aa hn;rw[hn]at AX;simp only[hn]at HA⊢;clear hn;unfold maxLen at AX;go_in;go_wp2_with(refine ay 31 _ rfl rfl _ 0 rfl cl _ (HS.ar 0 rfl).range Tryz.underlying31 rfl (by rw[qK];kernel_rfl) ?_);generalize World.alloc _ _=w1 at HS⊢;generalize w.heap.size=cb at HS⊢;refine(Q7.out _ HS.fr).mono ?_;rintro r w2 ⟨b,rfl,h2⟩;have HS:=aa (HS.fresh h2.jm).swap;have HS:Hid (Sep w w2 [dx c ai b (Z.new c calls)]):=aa HS.tail;clear h2;go_wp2_with fail;go_loopg [24] n (λg vi wr=>∃(j:Nat) (s:Z.St),g+j=n∧vi=I (j:Int)∧Φ s∧SI c ai c.fi s∧Sep w wr [dx c ai b s])
 case atStart=>exact⟨0,_,by omega,rfl,H0.out,HSI.out,HS.out⟩
 case round=>
  clear HS H0 HSI;obtain⟨j,s,yy,rfl,hf,hI,hS⟩:=hrel;have HS:=aa hS;have HF:=aa hf;clear hS hf;by_cases hj:j<n
  ·have s9:(j:Int)<(n:Int):=by omega
   have mW:j<aK.length:=by have:=HN.out;omega
   obtain⟨xa,rfl,GD,xX,-⟩:=(HA.fr HS.fr).at mW;rw[lj]at xX;have hx:=xX _ rfl;clear xX;generalize aK[j]=t at*;go_wp2_with fail;refine(yG.out _ _ _ _ _ t hI HS.out).mono ?_;rintro r w3 ⟨rfl,uH,h3⟩;have HS:=aa h3;have lU:=aa (HPH.out _ t HF.out);clear h3 hx;go_wp2_with fail;go_roundg (n-(j+1))
   case measure=>omega
   case rel=>exact⟨j+1,_,by omega,by go_num,lU.out,uH,HS.out⟩
  ·obtain rfl:j=n:=by omega
   go_wp2_with fail;go_ret;exact⟨b,s,rfl,HF.out,hI,HS.out⟩
def Jp {c:Y.cA}{ai:List (List In)}{t:Int}{s:Z.St}{i:Nat}(hi:(i:Int)≠t):Z.iO (Z.pick c ai t s).1 i=Z.iO s i∧(Z.pick c ai t s).1.iB.length=s.iB.length∧s.aK≤(Z.pick c ai t s).1.aK:=by
 unfold Z.pick;split
 ·exact⟨rfl,rfl,iu _⟩
 rename_i h;have hid:Z.idle s t=false:=by
  cases hh:Z.idle s t with
  |false=>rfl
  |true=>exact absurd (.inl hh) h
 have ht:0≤t∧t<s.iB.length:=by
  unfold Z.idle at hid;rw[Bool.or_eq_false_iff]at hid;have:=uL hid.1;omega
 have pg:t.toNat≠i:=by omega
 have nk:∀(l:List Z.Th) u,(l.set t.toNat u).getD i Z.th0=l.getD i Z.th0:=by
  intro l u;rw[cO,dF pg,←cO]
 have Ss:∀m k s2,Z.iO (Z.told t.toNat m k s2) i=Z.iO s2 i∧(Z.told t.toNat m k s2).iB.length=s2.iB.length∧(Z.told t.toNat m k s2).aK=s2.aK:=by
  intro m k s2;unfold Z.told Z.iO;dsimp only;split
  ·exact⟨nk _ _,cF,rfl⟩
  ·exact⟨nk _ _,cF,rfl⟩
 have pD:∀s2,Z.iO (Z.ig c ai t.toNat s2) i=Z.iO s2 i∧(Z.ig c ai t.toNat s2).iB.length=s2.iB.length∧(Z.ig c ai t.toNat s2).aK=s2.aK:=by
  intro s2;unfold Z.ig;split
  ·exact⟨rfl,rfl,rfl⟩
  ·exact Ss _ _ _
 dsimp only;have h1:=pD (if(Z.iO {s with aK:=s.aK+1} t.toNat).at_.isNone=true then Z.dI ai t.toNat {s with aK:=s.aK+1}else{s with aK:=s.aK+1});rw[h1.1,h1.2.1,h1.2.2];split
 ·unfold Z.dI Z.EX;dsimp only;exact⟨nk _ _,cF,by omega⟩
 ·exact⟨rfl,rfl,by dsimp only;omega⟩
def Rest (s:Z.St)(t:Int):Prop:=Z.idle s t=true∨65536≤s.aK
def Ns {c ai s t}(h:(Z.pick c ai t s).2=false):(Z.pick c ai t s).1=s∧Rest s t:=by
 unfold Z.pick at h⊢;split
 ·rename_i e;exact⟨rfl,e⟩
 ·rename_i e;rw[aq e]at h;cases h
def Nt {c:Y.cA}{ai:List (List In)}{s:Z.St}{t:Int}{i:Nat}(hi:(i:Int)≠t)(h:Rest s i):Rest (Z.pick c ai t s).1 i:=by
 have hp:=Jp (c:=c) (ai:=ai) (s:=s) hi;rcases h with h|h
 ·left;unfold Z.idle at h⊢;rw[hp.2.1,dU]at*;rw[hp.1];exact h
 ·right;omega
def Jq {c ai s t}(h:(Z.pick c ai t s).2=true):(Z.pick c ai t s).1.aK=s.aK+1∧s.aK<65536:=by
 unfold Z.pick at h⊢;split
 ·rename_i e;rw[aB e]at h;cases h
 rename_i e;refine⟨?_,by omega⟩;have Ss:∀m k s2,(Z.told t.toNat m k s2).aK=s2.aK:=by
  intro m k s2;unfold Z.told;dsimp only;split<;>rfl
 have pD:∀s2,(Z.ig c ai t.toNat s2).aK=s2.aK:=by
  intro s2;unfold Z.ig;split
  ·rfl
  ·exact Ss _ _ _
 dsimp only;rw[pD];split
 ·rfl
 ·rfl
def Jr {w0 w R c}(aE:Y.Ok c){ai}(Wp:PI ai)(uX:c.fi≤1000000000000000){b s0}(UP:SI c ai c.fi s0){Φ:Z.St→Prop}(h0:Φ s0)(hΦ:∀s t,Φ s→Φ (Z.pick c ai t s).1)(hS:Sep w0 w (dx c ai b s0::R)):
 Calls Tryz.prog 13 #[db c,O b] w λr w'=>r=E∧∃s,Φ s∧SI c ai c.fi s∧(∀t:Nat,(t:Int)<c.t→Rest s t)∧Sep w0 w' (dx c ai b s::R):=by
 have yG:=aa (fun(w':World) (R:List a_) (b:Nat) (s:Z.St) (t:Int) (hI:SI c ai c.fi s) (h:Sep w0 w' (dx c ai b s::R))=>AJ aE Wp uX hI t h);have HPH:=aa hΦ;have H0:=aa h0;have AU:=aE.t1;have sg:=aE.t8;clear aE Wp uX h0 hΦ;rw[show db c= .agg (gT c).toArray from rfl]at*;have HS:=aa (hS.new 31 (gT c));clear hS;obtain⟨tn,htn⟩:∃n:Nat,(n:Int)=c.t:=⟨c.t.toNat,by omega⟩;have HTN:=aa htn;have Da:(gT c)[0]?=some (I (tn:Int)):=by rw[htn];rfl
 rw[←htn]at AU sg⊢;clear htn;generalize gT c=cl at*;have f0:=(HS.ar 0 rfl).aT 0 Da;go_in;go_wp2_with fail;generalize World.alloc _ _=w1 at*;generalize w.heap.size=cb at*;clear f0;go_loopg [7] tn (λg vi wr=>∃(j:Nat) (s:Z.St),g+j=tn∧vi=I (j:Int)∧Φ s∧SI c ai c.fi s∧(∀t:Nat,t<j→Rest s t)∧Sep w0 wr (dx c ai b s::R))
 case atStart=>exact⟨0,_,by omega,rfl,H0.out,UP,λt ht=>absurd ht (by omega),HS.tail⟩
 case round=>
  clear HS H0 UP;obtain⟨j,s,yy,rfl,hf,hI,hr,hS⟩:=hrel;have HS:=aa hS;have HF:=aa hf;have HR:=aa hr;clear hS hf hr;by_cases hj:j<tn
  ·have s9:(j:Int)<(tn:Int):=by omega
   go_wp2_with fail;go_loopg [12] (65536-s.aK).toNat (λg v12 wr=>∃s2:Z.St,(65536-s2.aK).toNat=g∧Φ s2∧SI c ai c.fi s2∧(∀t:Nat,t<j→Rest s2 t)∧Sep w0 wr (dx c ai b s2::R))
   case atStart=>exact⟨s,rfl,HF.out,hI,HR.out,HS.out⟩
   case round=>
    clear HS HF HR hI;obtain⟨s2,iZ,hf,hI,hr,hS⟩:=hrel;have HS:=aa hS;have HF:=aa hf;have HR:=aa hr;clear hS hf hr;go_wp2_with fail;refine(yG.out _ _ _ _ (j:Int) hI HS.out).mono ?_;rintro r w3 ⟨rfl,uH,h3⟩;have HS:=aa h3;have lU:=aa (HPH.out _ (j:Int) HF.out);clear h3;have WY:=aa (fun(t:Nat) (ht:t<j)=>Nt (c:=c) (ai:=ai) (t:=(j:Int)) (by omega) (HR.out t ht));have HP1:=aa (λh=>Ns (c:=c) (ai:=ai) (s:=s2) (t:=(j:Int)) h);have HP2:=aa (λh=>Jq (c:=c) (ai:=ai) (s:=s2) (t:=(j:Int)) h);generalize Z.pick c ai (j:Int) s2=q at*;obtain⟨s3,bb⟩:=q;dsimp only at HP1 HP2 WY lU uH HS⊢;cases bb with
    |true=>
     have hpp:=HP2.out rfl;go_wp2_with fail;go_roundg ((65536-s3.aK).toNat)
     case measure=>omega
     case rel=>exact⟨s3,rfl,lU.out,uH,WY.out,HS.out⟩
    |false=>
     have hpp:=HP1.out rfl;have HRj:Hid (Rest s3 j):=aa (by rw[hpp.1];exact hpp.2);clear hpp;go_wp2_with fail;go_roundg (tn-(j+1))
     case measure=>omega
     case rel=>exact⟨j+1,s3,by omega,by go_num,lU.out,uH,λt ht=>by
      by_cases e:t=j
      ·subst e;exact HRj.out
      ·exact WY.out t (by omega),HS.out⟩
  ·obtain rfl:j=tn:=by omega
   go_wp2_with fail;go_end0;exact⟨rfl,s,HF.out,hI,λt ht=>HR.out t (by have:=HTN.out;omega),HS.out⟩
def Nu {w0 w R c}(aE:Y.Ok c){ai pv aO b s}(hI:SI c ai c.fi s)(qz:s.rows.length<20)(hf:Or.fits s.aM (Or.sort s.rows)=0){roots}(hr:Or.replay c ai s.aM (Or.sort s.rows)=(roots,0))(ng:∀x∈Or.sort s.rows,x.news=[])(hP:∀w',Fr [] w0 w'→cL w' pv aO ai)(ZG:∀p∈ai,∀i∈p,W.U_ i.bN)(kL:∀p∈ai,right p=true→∀i∈p,JZ i)(RS:∀x∈Or.sort s.rows,RP x)(Ng:∀x∈s.aM,XA ai x)(hS:Sep w0 w (dx c ai b s::R)):
 Calls Tryz.prog 26 #[db c,pv,O b] w λr w'=>∃sb,r= .returned (.tuple #[O sb,.bool true])∧Fr [] w0 w':=by
 have tK:=hI.aK;have nR:=hI.aM;have Vt:=(Or.kx s.rows).length_eq;have HRC:=aa (fun(w':World) (R:List a_) (h:Sep w0 w' (dx c ai b s::R))=>xo (by omega) h);have Q9:=aa (fun(w':World) (R:List a_) (h:Sep w0 w' (dx c ai b s::R))=>CC hI (vR qz) (by omega) h);have xT:=aa (fun(w':World) (R:List a_) (iV v:Value) (dY:List Value) (hA:∀w1,Sep w0 w1 R→dB eI 13 w1 iV s.aM) (hW:∀w1,Sep w0 w1 R→xu w1 v dY (Or.sort s.rows)) (h:Sep w0 w' R)=>Gf (w0:=w0) (w:=w') (R:=R) (iV:=iV) (v:=v) (dY:=dY) (by omega) (by omega) hA hW RS (λx hx=>⟨(Ng x hx).aw,(Ng x hx).tag⟩) h);have HRP:=aa (fun(w':World) (R:List a_) (iV v:Value) (dY:List Value) (hA:∀w1,Sep w0 w1 R→dB eI 13 w1 iV s.aM) (hW:∀w1,Sep w0 w1 R→xu w1 v dY (Or.sort s.rows)) (h:Sep w0 w' R)=>AF (w0:=w0) (w:=w') (R:=R) aE (ai:=ai) (pv:=pv) (aO:=aO) (iV:=iV) (v:=v) (dY:=dY) (by omega) (by omega) (λw1 h=>hP w1 h.fr) hA hW ng Ng ZG kL h);rw[hf]at xT;rw[hr]at HRP;clear aE hI qz hf hr ng hP ZG kL RS Ng tK nR;rw[show db c= .agg (gT c).toArray from rfl]at*;have HS:=aa (hS.new 31 (gT c)).swap;clear hS;have qK:(gT c).length=6:=rfl;generalize gT c=cl at*;go_in;go_wp2_with fail;generalize World.alloc _ _=w1 at HS⊢;generalize w.heap.size=cb at HS⊢;refine(HRC.out _ _ HS.out).mono ?_;rintro r w2 ⟨iV,rfl,hF⟩;have HS:=aa (HS.fresh hF);clear hF;go_wp2_with fail;refine(Q9.out _ _ (HS.pull 1 rfl)).mono ?_;rintro r w3 ⟨iP,rfl,h3⟩;obtain⟨dY,kA,h4⟩:=jg h3;simp only[ze]at h4;have HS:=aa h4;clear h3 h4;go_wp2_with fail;refine(xT.out _ _ iV iP dY (λw' h=>dB.kG jD (h.row 3 rfl)) (λw' h=>tD kA h) HS.out).mono ?_;rintro r w4 ⟨n4,rfl,h4⟩;have HS:=aa h4;clear h4 xT;go_wp2_with(refine ay 31 _ rfl rfl _ 0 rfl cl _ (HS.ar 4 rfl).range Tryz.underlying31 rfl (by rw[qK];kernel_rfl) ?_);refine(HRP.out _ _ iV iP dY (λw' h=>dB.kG jD (h.row 3 rfl)) (λw' h=>tD kA h) HS.out).mono ?_;intro r w5 hr;unfold D5 at hr;rcases hr with⟨sb,-,rfl,h6⟩|⟨n,h5,-⟩;rotate_left
 ·exact absurd rfl h5
 have HF:=aa h6.fr;clear h6 HRP HRC Q9;go_wp2_with fail;go_ret2;exact⟨sb,rfl,HF.out⟩
end Go.Proofs.YtolkmchicplaoaaGreat
namespace Go.aS.X
open Go.aS.Y Go.aS.I_
def sU (c:cA)(x:St):Int:=if x.s≠0 then 0 else 3*(c.f-x.steps)+(if x.waits=true then(if x.v.step=1 then 3 else if x.v.step=2 then 2 else if x.v.step=3 then 1 else 0)else 0)
def ab1 {c x n}(h1:x.steps=n+1)(h2:n<c.f):sU c x≤3*(c.f-n):=by
 unfold sU;rw[h1];split
 ·omega
 ·split
  ·split;omega;split;omega;split<;>omega
  ·omega
end Go.aS.X
namespace Go.Proofs.YtolkmchicplaoaaGreat
open Go.RowKit Go.aS Go.aS.I_ Go.aS.Y
def A1:List Int:=List.replicate 16 0
def ab2 (k):A1.getD k 0=0:=by
 unfold A1;rw[cO,yK];split<;>rfl
structure QN (x:X.St):Prop where
 w:x.w=⟨0,[],[]⟩
 held:x.v.held= -1
 s2:x.v.s≠2
def Sim (c:Y.cA)(code:List In)(args:List Int)(x:X.St):Prop:=
 ∃r:Mo.R,r.roots=A1∧r.rv=0∧r.aI=x.aI∧r.ended=false∧Mo.gA c.f c.w code args A1 (c.f-r.steps).toNat r=Mo.run c code args A1∧
  ((x.waits=false∧x.pc=r.pc∧x.steps=r.steps)∨
   (x.waits=true∧x.pc=r.pc+1∧x.steps=r.steps+1∧r.steps<c.f∧x.i=code.getD r.pc.toNat i0∧
    ((x.i.op=9∧∃k,0≤k∧k<16∧Mo.iE r x.i.b=k∧((x.v.s=0∧x.v.step=3∧x.v.at_=at_ c 10 k 0)∨(x.v.s=1∧x.v.val=0)))
     ∨((x.i.op=11∨x.i.op=12)∧((x.v.s=0∧(x.v.step=1∨x.v.step=2)∧0≤x.v.block∧x.v.block<c.b)∨x.v.s=3)))))
def QP (c:Y.cA)(code:List In)(args:List Int)(x:X.St):Prop:=
 (x.s=1∧Mo.run c code args A1=(A1,x.rc,x.rv))∨(x.s=0∧QN x∧Sim c code args x)
def get_none (a):W.get ⟨0,[],[]⟩ a=(0,false):=rfl
def Qp {c kd i j}(h:Is c kd i j):at_ c kd i j=place c kd i j:=by unfold at_;rw[aB h]
def au4 {c}(aE:Y.Ok c){k}(h0:0≤k)(h1:k<16):at_ c 10 k 0≠-1:=by
 have h2:Is c 10 k 0:=by
  unfold Is cr aP each;refine⟨h0,?_,by omega,?_⟩
  ·repeat' split
   all_goals omega
  ·repeat' split
   all_goals omega
 rw[Qp h2];intro e;have h3:=lD aE h2;rw[e]at h3;unfold jt at h3;rw[aq (by omega)]at h3;have:=congrArg (·.1) h3;dsimp only at this;omega
def au5 {c}(aE:Y.Ok c){k j}(h0:0≤k)(h1:k<c.b)(h2:0≤j)(h3:j<8):at_ c 16 k j≠-1:=by
 have h2:Is c 16 k j:=by
  unfold Is cr aP each;refine⟨h0,?_,by omega,?_⟩
  ·repeat' split
   all_goals omega
  ·repeat' split
   all_goals omega
 rw[Qp h2];intro e;have h3:=lD aE h2;rw[e]at h3;unfold jt at h3;rw[aq (by omega)]at h3;have:=congrArg (·.1) h3;dsimp only at this;omega
def ab3 {c}(aE:Y.Ok c){code}(hu:∀i∈code,W.U_ i.bN){args}(kL:∀i∈code,I_.writes i.op=false){x}(h:XG c code x)(hs:x.s=0)(hw:x.waits=false)(hq:QN x)(Wv:Sim c code args x):
 QP c code args (X.step c code args x)∧X.sU c (X.step c code args x)≤X.sU c x:=by
 obtain⟨r,h1,h3,h4,h5,h6,h7⟩:=Wv;rcases h7 with h7|⟨e,_⟩;rotate_left
 ·rw[hw]at e;cases e
 obtain⟨_,Hz,gx⟩:=h7;have hpx:X.sU c x=3*(c.f-x.steps):=by unfold X.sU;rw[aq (by omega),hw];simp
 have D0:=h.r.st;unfold X.step;by_cases hf:c.f≤x.steps
 ·rw[aB hf];refine⟨.inl ⟨rfl,?_⟩,?_⟩
  ·rw[←h6,show(c.f-r.steps).toNat=0 by omega];rfl
  ·rw[hpx];unfold X.sU;rw[aB (by show(1:Int)≠0;decide)];omega
 rw[aq hf];obtain⟨n,hn⟩:∃n,(c.f-r.steps).toNat=n+1:=⟨(c.f-r.steps).toNat-1,by omega⟩;rw[hpx];refine⟨?_,X.ab1 (by rw[(Xa c args (X.jd code x)).2];rfl) (by omega)⟩;rw[hn]at h6;unfold Mo.gA Mo.step at h6;have aA1:=h.pc hs;have ah8:=h.r.pc;have al7:code.getD r.pc.toNat i0∈code:=by
  rw[cO,cy (show r.pc.toNat<code.length by omega)];exact cJ _
 have Vg:=kL _ al7;obtain⟨y,hy⟩:∃y,X.jd code x=y:=⟨_,rfl⟩;have yi:y.i=code.getD r.pc.toNat i0:=by rw[←hy,←Hz];rfl
 have yr:y.aI=r.aI:=by rw[←hy,h4];rfl
 have yp:y.pc=r.pc+1:=by rw[←hy,←Hz];rfl
 have ys:y.steps=r.steps+1:=by rw[←hy,←gx];rfl
 have yw:y.waits=false:=by rw[←hy];exact hw
 have yg:y.s=0:=by rw[←hy];exact hs
 have yn:QN y:=by rw[←hy];exact⟨hq.w,hq.held,hq.s2⟩
 rw[hy];clear hy;rw[←yi]at h6 Vg;obtain⟨i,hi⟩:∃i,y.i=i:=⟨_,rfl⟩;rw[hi]at h6 Vg yi;have iC:∀(k:Int) (r2:Mo.R),r2.aI=r.aI→X.iE y k=Mo.iE r2 k:=by
  intro k r2 e;unfold X.iE Mo.iE;rw[yr,e]
 have Ch:∀(y2:X.St) (r2:Mo.R),Mo.gA c.f c.w code args A1 n r2=Mo.run c code args A1→r2.roots=A1→r2.rv=0→r2.ended=false→r2.aI=y2.aI→r2.pc=y2.pc→r2.steps=r.steps+1→y2.steps=r.steps+1→y2.waits=false→y2.s=0→QN y2→QP c code args y2:=by
  intro y2 r2 g1 g2 g3 g4 g5 g6 g7 g8 g9 g10 g11;exact .inr ⟨g10,g11,r2,g2,g3,g5,g4,by rw[show(c.f-r2.steps).toNat=n by omega];exact g1,.inl ⟨g9,g6.symm,by omega⟩⟩
 unfold I_.writes at Vg;have Vg:=uL Vg;unfold X.act;rw[hi];unfold Mo.act at h6;by_cases o17:i.op=17
 ·rw[aB o17]at h6⊢;dsimp only at h6;rw[aq (by decide),aq (by rw[h5];decide)]at h6;exact Ch _ _ h6 h1 h3 h5 yr.symm rfl rfl ys yw yg ⟨yn.w,yn.held,yn.s2⟩
 rw[aq o17]at h6⊢;by_cases o18:i.op=18
 ·rw[aB o18]at h6⊢;rw[iC i.a {r with steps:=r.steps+1,pc:=r.pc+1} rfl];dsimp only at h6;rw[aq (by decide)]at h6;split at h6
  ·rename_i e;rw[aB e];dsimp only at h6;rw[aq (by rw[h5];decide)]at h6;exact Ch _ _ h6 h1 h3 h5 yr.symm rfl rfl ys yw yg ⟨yn.w,yn.held,yn.s2⟩
  ·rename_i e;rw[aq e];rw[aq (by dsimp only;rw[h5];decide)]at h6;exact Ch _ _ h6 h1 h3 h5 yr.symm yp.symm rfl ys yw yg yn
 rw[aq o18]at h6⊢;by_cases o19:i.op=19
 ·rw[aB o19]at h6⊢;rw[iC i.a {r with steps:=r.steps+1,pc:=r.pc+1} rfl];dsimp only at h6;rw[aq (by decide)]at h6;split at h6
  ·rename_i e;rw[aB e];dsimp only at h6;rw[aq (by rw[h5];decide)]at h6;exact Ch _ _ h6 h1 h3 h5 yr.symm rfl rfl ys yw yg ⟨yn.w,yn.held,yn.s2⟩
  ·rename_i e;rw[aq e];rw[aq (by dsimp only;rw[h5];decide)]at h6;exact Ch _ _ h6 h1 h3 h5 yr.symm yp.symm rfl ys yw yg yn
 rw[aq o19]at h6⊢;by_cases o20:i.op=20
 ·rw[aB o20]at h6⊢;dsimp only at h6;rw[aq (by decide),aB rfl]at h6;refine .inl ⟨rfl,?_⟩;rw[←h6,h1,iC i.a {r with steps:=r.steps+1,pc:=r.pc+1} rfl];rfl
 rw[aq o20]at h6⊢;by_cases o21:i.op=21
 ·rw[aB o21]at h6⊢;dsimp only at h6;rw[aB (by decide)]at h6;exact .inl ⟨rfl,h6.symm⟩
 rw[aq o21]at h6⊢;by_cases o9:i.op=9
 ·rw[aB (show i.op=9∨i.op=10 from .inl o9)]at h6⊢;unfold X.root;rw[hi,iC i.b {r with steps:=r.steps+1,pc:=r.pc+1} rfl];by_cases hk:16≤Mo.iE {r with steps:=r.steps+1,pc:=r.pc+1} i.b
  ·rw[aB hk]at h6⊢;dsimp only at h6;rw[aB (by decide),h3]at h6;exact .inl ⟨rfl,h6.symm⟩
  ·rw[aq hk]at h6⊢;rw[aq (by omega)];have yQ:0≤Mo.iE {r with steps:=r.steps+1,pc:=r.pc+1} i.b:=by
    have:=(h.r.zero.iE i.b).1;unfold X.iE at this;rw[←h4]at this;exact this
   obtain⟨k,A4⟩:∃k,Mo.iE {r with steps:=r.steps+1,pc:=r.pc+1} i.b=k:=⟨_,rfl⟩;have e:Mo.iE r i.b=k:=A4;rw[A4]at hk yQ h6⊢;unfold X.jc;rw[yn.w,get_none];dsimp only;rw[aq (by decide)];have vA:Vw.inner c (at_ c 10 k 0)=true:=by
    unfold Vw.inner;rw[pL aE (au4 aE yQ (by omega))];rfl
   have hv:Vw.cell c (at_ c 10 k 0) y.v={y.v with val:=0,step:=3,s:=0,at_:=at_ c 10 k 0}:=by
    unfold Vw.cell Vw.qs;rw[aq yn.s2,vA];rfl
   refine .inr ⟨yg,⟨rfl,by dsimp only;rw[hv];exact yn.held,by dsimp only;rw[hv];show(0:Int)≠2;decide⟩,r,h1,h3,yr.symm,h5,?_,.inr ⟨rfl,yp,ys,by omega,hi.trans yi,.inl ⟨by rw[←o9,hi],k,yQ,by omega,by dsimp only;rw[hi];exact e,.inl ?_⟩⟩⟩
   ·rw[hn];unfold Mo.gA Mo.step Mo.act;rw[←yi,aq o17,aq o18,aq o19,aq o20,aq o21,aB (show i.op=9∨i.op=10 from .inl o9),A4,aq hk];exact h6
   ·dsimp only;rw[hv];exact⟨rfl,rfl,rfl⟩
 rw[aq (show¬(i.op=9∨i.op=10) by omega)]at h6⊢;by_cases o11:i.op=11∨i.op=12
 ·rw[aB (show i.op=11∨i.op=12∨i.op=13∨i.op=14 by omega)]at h6;rw[aB (show i.op=11∨i.op=12∨i.op=13∨i.op=14∨i.op=16 by omega)];dsimp only at h6;rw[aB (by decide)]at h6;unfold X.fq;have nP:∀a,W.get y.w a=(0,false):=by intro a;rw[yn.w];rfl
  rw[nP (at_ c 11 (X.block c y).1 0),nP (at_ c 16 (X.block c y).1 (X.block c y).2.1)];by_cases hb:(X.block c y).2.2=false
  ·rw[aB (Or.inl hb)];exact .inl ⟨rfl,by rw[←h6,h3];rfl⟩
  ·rw[aq (show¬((X.block c y).2.2=false∨(false=true∧(0:Int)≠1)) by simp[hb]),hi,aB o11,aq (by decide)];have BZ:0≤(X.block c y).1∧(X.block c y).1<c.b∧(X.block c y).2.1<8∧0≤(X.block c y).2.1:=by
    unfold X.block at hb⊢;have hur:=h.r.zero.iE;split at hb
    ·simp at hb
    ·rename_i e;rw[aq e];dsimp only;refine⟨by omega,by omega,by omega,?_⟩;unfold X.sE;rw[hi];split
     ·have:=(hur i.c).1;unfold X.iE at this⊢;rw[yr,h4];exact this
     split
     ·omega
     ·have ax7:=h.r.zero.im;rw[yi];exact(hu _ al7).1
   generalize(X.block c y).1=b at*;generalize(X.block c y).2.1=j at*;have hv:Vw.word c b j y.v={y.v with val:=0,step:=1,s:=0,block:=b,at_:=at_ c 16 b j}:=by
    unfold Vw.word Vw.qs;rw[aq yn.s2,eP (au5 aE BZ.1 BZ.2.1 BZ.2.2.2 BZ.2.2.1)];unfold Vw.fq;rw[aB rfl,aq (by dsimp only;rw[yn.held];omega)];rfl
   refine .inr ⟨yg,⟨yn.w,by dsimp only;rw[hv];exact yn.held,by dsimp only;rw[hv];show(0:Int)≠2;decide⟩,r,h1,h3,yr.symm,h5,?_,.inr ⟨rfl,yp,ys,by omega,yi,.inr ⟨o11,.inl ?_⟩⟩⟩
   ·rw[hn];unfold Mo.gA Mo.step Mo.act;rw[←yi,aq o17,aq o18,aq o19,aq o20,aq o21,aq (show¬(i.op=9∨i.op=10) by omega),aB (show i.op=11∨i.op=12∨i.op=13∨i.op=14 by omega)];exact h6
   ·dsimp only;rw[hv];exact⟨rfl,.inl rfl,BZ.1,BZ.2.1⟩
 rw[aq (show¬(i.op=11∨i.op=12∨i.op=13∨i.op=14) by omega),aq (show¬i.op=15 by omega),aq (show¬i.op=16 by omega)]at h6;rw[aq (show¬(i.op=11∨i.op=12∨i.op=13∨i.op=14∨i.op=16) by omega),aq (show¬i.op=15 by omega)];dsimp only at h6;rw[aq (by decide),aq (by unfold Mo.gV;dsimp only;rw[h5];decide)]at h6;refine Ch _ _ h6 h1 h3 h5 ?_ yp.symm rfl ys yw yg ⟨yn.w,yn.held,yn.s2⟩;unfold Mo.gV X.gV;dsimp only;rw[yr]
def Ww {c}(aE:Y.Ok c){code}(hu:∀i∈code,W.U_ i.bN){args}(kL:∀i∈code,I_.writes i.op=false){x}(h:XG c code x)(hs:x.s=0)(hq:QN x)(Wv:Sim c code args x)(Ch:(X.round c code args x).2=true):
 QP c code args (X.round c code args x).1∧X.sU c (X.round c code args x).1≤X.sU c x:=by
 by_cases hw:x.waits=false
 ·have e:X.round c code args x=(X.step c code args x,true):=by unfold X.round;rw[aB hw]
  rw[e];exact ab3 aE hu kL h hs hw hq Wv
 obtain⟨r,h1,h3,h4,h5,h6,h7⟩:=Wv;rcases h7 with⟨e,_⟩|⟨_,Hz,gx,hf,hi,h7⟩
 ·exact absurd e hw
 have D0:=h.r.st;have JV:x.waits=true:=by simpa using hw
 have hp:3*(c.f-x.steps)≤X.sU c x:=by
  unfold X.sU;rw[aq (by omega),aB JV];split;omega;split;omega;split<;>omega
 obtain⟨n,hn⟩:∃n,(c.f-r.steps).toNat=n+1:=⟨(c.f-r.steps).toNat-1,by omega⟩;rw[hn]at h6;unfold Mo.gA Mo.step at h6;rw[←hi]at h6;unfold X.round at Ch⊢;rw[aq hw]at Ch⊢;by_cases E7:x.v.s=0
 ·rw[aB E7]at Ch;cases Ch
 rw[aq E7,aq hq.s2];rcases h7 with⟨o9,k,yQ,sf,hkr,h8⟩|⟨o11,h8⟩
 ·obtain⟨TT,ug⟩:x.v.s=1∧x.v.val=0:=by
   rcases h8 with h8|h8
   ·exact absurd h8.1 E7
   ·exact h8
  rw[aq (by omega),ug];unfold X.jb;rw[aB (.inl o9)];unfold Mo.act at h6;have au6:Mo.iE {r with steps:=r.steps+1,pc:=r.pc+1} x.i.b=k:=hkr;rw[aq (show¬x.i.op=17 by omega),aq (show¬x.i.op=18 by omega),aq (show¬x.i.op=19 by omega),aq (show¬x.i.op=20 by omega),aq (show¬x.i.op=21 by omega),aB (show x.i.op=9∨x.i.op=10 from .inl o9),au6,aq (show¬16≤k by omega),aB o9]at h6;dsimp only at h6;rw[aq (by decide),aq (by unfold Mo.gV;dsimp only;rw[h5];decide),show r.roots.getD k.toNat 0=0 by rw[h1,ab2]]at h6;refine⟨.inr ⟨hs,⟨hq.w,hq.held,hq.s2⟩,Mo.gV {r with steps:=r.steps+1,pc:=r.pc+1} x.i.a 0,?_,?_,?_,?_,?_,.inl ⟨rfl,?_,?_⟩⟩,?_⟩;rotate_left 4
  ·have au7:(Mo.gV {r with steps:=r.steps+1,pc:=r.pc+1} x.i.a 0).steps=r.steps+1:=rfl;rw[au7,show(c.f-(r.steps+1)).toNat=n by omega];exact h6
  ·exact Hz
  ·exact gx
  ·refine oJ (Int.le_of_eq ?_) hp;unfold X.sU X.gV;dsimp only;rw[aq (by omega),aq (by decide)];omega
  ·exact h1
  ·exact h3
  ·unfold Mo.gV X.gV;dsimp only;rw[h4]
  ·exact h5
 ·have hv3:x.v.s=3:=by
   rcases h8 with h8|h8
   ·exact absurd h8.1 E7
   ·exact h8
  rw[aB hv3];unfold Mo.act at h6;rw[aq (show¬x.i.op=17 by omega),aq (show¬x.i.op=18 by omega),aq (show¬x.i.op=19 by omega),aq (show¬x.i.op=20 by omega),aq (show¬x.i.op=21 by omega),aq (show¬(x.i.op=9∨x.i.op=10) by omega),aB (show x.i.op=11∨x.i.op=12∨x.i.op=13∨x.i.op=14 by omega)]at h6;dsimp only at h6;rw[aB (by decide),h3]at h6;refine⟨.inl ⟨rfl,h6.symm⟩,?_⟩;refine oJ ?_ hp;unfold X.sU;rw[aB (by show(1:Int)≠0;decide)];omega
def XO {c}(aE:Y.Ok c){code}(hr:I_.right code=true)(hu:∀i∈code,W.U_ i.bN){args}(ha:∀r∈args,W.U_ r)(kL:∀i∈code,I_.writes i.op=false):∀(n:Nat) {x:X.St},XG c code x→X.left c x=n→QP c code args x→QP c code args (X.run c code args x)∧X.sU c (X.run c code args x)≤X.sU c x:=by
 intro n;induction n using Nat.strongRecOn with
 |_ n ih=>
  intro x h hn hq;by_cases hs:x.s=0
  ·rcases hq with hq|hq
   ·omega
   rw[wX aE hr hu ha h hs];have jN:=h.round aE hr hu ha hs;split
   ·rename_i e;have h2:=Ww aE hu kL h hs hq.2.1 hq.2.2 e;have h3:=ih _ (by have:=jN.2.1 e;omega) jN.1 rfl h2.1;exact⟨h3.1,oJ h3.2 h2.2⟩
   ·exact⟨.inr hq,iu _⟩
  ·rw[zV hs];exact⟨hq,iu _⟩
structure SE (c:Y.cA)(code:List In)(args:List Int)(x:X.St):Prop where
 g:XG c code x
 p:QP c code args x
 wt:Wt x
def SE.new {c}(aE:Y.Ok c){code}(hu:∀i∈code,W.U_ i.bN){args}(ha:∀r∈args,W.U_ r)(kL:I_.right code=true→∀i∈code,I_.writes i.op=false):
 SE c code args (X.new c code args K.nV P.fw ⟨0,[],[]⟩)∧X.sU c (X.new c code args K.nV P.fw ⟨0,[],[]⟩)≤3*c.f:=by
 have h1:=aE.f1;have NX:W.ou ⟨0,[],[]⟩:=⟨by simp,by simp⟩;have Yz:=(oP aE);have S3:0≤b_ c:=by unfold b_;exact Int.mul_nonneg (by have:=aE.t1;omega) (by have:=aE.w0;omega)
 have nU:=aE.b1;have hG:=XG.new aE hu ha (code:=code) (args:=args) (v:=K.nV) (p:=P.fw) (s:=⟨0,[],[]⟩) (by decide) NX (by exact⟨by decide,by decide⟩) (by show 0≤(0:Int)∧(0:Int)≤c.b;omega) (by show 0≤(0:Int)∧(0:Int)≤b_ c;omega);by_cases hr:I_.right code=true
 ·have e:X.new c code args K.nV P.fw ⟨0,[],[]⟩=X.run c code args (X.eB K.nV P.fw ⟨0,[],[]⟩):=by unfold X.new;rw[aB hr]
  have h0:XG c code (X.eB K.nV P.fw ⟨0,[],[]⟩):=XI.start aE (by decide) NX (by exact⟨by decide,by decide⟩) (by show 0≤(0:Int)∧(0:Int)≤c.b;omega) (by show 0≤(0:Int)∧(0:Int)≤b_ c;omega) (λh=>(c_ h).1) hr;have hq:QP c code args (X.eB K.nV P.fw ⟨0,[],[]⟩):=by
   refine .inr ⟨rfl,⟨rfl,rfl,by show(1:Int)≠2;decide⟩,⟨A1,List.replicate 16 0,0,0,0,0,false⟩,rfl,rfl,rfl,rfl,?_,.inl ⟨rfl,rfl,rfl⟩⟩;unfold Mo.run;rw[aB hr];show Mo.gA c.f c.w code args A1 (c.f-0).toNat _=_;rw[Int.sub_zero]
  have h2:=XO aE hr hu ha (kL hr) _ h0 rfl hq;refine⟨⟨hG.1,by rw[e];exact h2.1,by rw[e];exact Eb aE hr hu ha _ h0 rfl⟩,?_⟩;rw[e];refine oJ h2.2 ?_;unfold X.sU X.eB;dsimp only;rw[aq (by decide),aq (by decide)];omega
 ·have e:X.new c code args K.nV P.fw ⟨0,[],[]⟩=X.fail 30 0 (X.eB K.nV P.fw ⟨0,[],[]⟩):=by unfold X.new;rw[aq hr]
  refine⟨⟨hG.1,?_,?_⟩,?_⟩
  ·rw[e];refine .inl ⟨rfl,?_⟩;unfold Mo.run;rw[aq hr];rfl
  ·rw[e];intro h;exact absurd h (by show¬(1:Int)=0;decide)
  ·rw[e];unfold X.sU;rw[aB (by show(1:Int)≠0;decide)];omega
def SE.tell {c}(aE:Y.Ok c){code}(hu:∀i∈code,W.U_ i.bN){args}(ha:∀r∈args,W.U_ r)(hr:I_.right code=true)(kL:∀i∈code,I_.writes i.op=false){x}(h:SE c code args x)(hs:x.s=0)(seq val n)(ug:W.U_ val)(hg:x.v.step≠1→n≤seq∧val=0):
 SE c code args (X.tell c code args seq val n x)∧X.sU c (X.tell c code args seq val n x)+1≤X.sU c x:=by
 obtain⟨hw,E7⟩:=h.wt hs;have e:X.tell c code args seq val n x=X.run c code args {x with v:=Vw.tell seq val n x.v}:=by unfold X.tell;rw[aq (by omega)]
 have hx:XG c code {x with v:=Vw.tell seq val n x.v}:=⟨{h.g.r with vv:=vF seq val n ug h.g.r.vv},h.g.e⟩;have hT:=(h.g.tell aE hu ha (λ_=>hr) seq val n ug).1;rcases h.p with h1|⟨_,hq,r,g1,g3,g4,g5,g6,g7⟩
 ·omega
 rcases g7 with⟨e2,_⟩|⟨_,Hz,gx,hf,hi,g7⟩
 ·rw[hw]at e2;cases e2
 have hy:QP c code args {x with v:=Vw.tell seq val n x.v}∧X.sU c {x with v:=Vw.tell seq val n x.v}+1≤X.sU c x:=by
  rcases g7 with⟨o9,k,yQ,sf,hkr,h8⟩|⟨o11,h8⟩
  ·rcases h8 with⟨-,h3,h8⟩|⟨e3,-⟩
   ·have iZ:=hg (by omega);have ev:Vw.tell seq val n x.v={x.v with step:=0,val:=0,s:=1}:=by
     unfold Vw.tell;rw[aq (by omega),aB (.inr h3)];unfold Vw.pW;rw[aq (by omega),aB h3,iZ.2]
    rw[ev];refine⟨.inr ⟨hs,⟨hq.w,hq.held,by show(1:Int)≠2;decide⟩,r,g1,g3,g4,g5,g6,.inr ⟨hw,Hz,gx,hf,hi,.inl ⟨o9,k,yQ,sf,hkr,.inr ⟨rfl,rfl⟩⟩⟩⟩,?_⟩;unfold X.sU;dsimp only;rw[aq (by omega),aB hw,aB hw,h3,aq (show¬x.s≠0 by omega)];simp
   ·omega
  ·rcases h8 with⟨-,h3,h4,h5⟩|e3
   ·rcases h3 with h3|h3
    ·have ev:Vw.tell seq val n x.v={x.v with held:= -1,step:=2}:=by unfold Vw.tell;rw[aB h3]
     rw[ev];refine⟨.inr ⟨hs,⟨hq.w,rfl,hq.s2⟩,r,g1,g3,g4,g5,g6,.inr ⟨hw,Hz,gx,hf,hi,.inr ⟨o11,.inl ⟨E7,.inr rfl,h4,h5⟩⟩⟩⟩,?_⟩;unfold X.sU;dsimp only;rw[aq (by omega),aB hw,aB hw,h3,aq (by omega)];simp;omega
    ·have iZ:=hg (by omega);have ev:Vw.tell seq val n x.v={x.v with step:=0,s:=3}:=by
      unfold Vw.tell;rw[aq (by omega),aB (.inl h3)];unfold Vw.pW;rw[aq (by omega),aq (by omega),aq (by omega)]
     rw[ev];refine⟨.inr ⟨hs,⟨hq.w,hq.held,by show(3:Int)≠2;decide⟩,r,g1,g3,g4,g5,g6,.inr ⟨hw,Hz,gx,hf,hi,.inr ⟨o11,.inr rfl⟩⟩⟩,?_⟩;unfold X.sU;dsimp only;rw[aq (by omega),aB hw,aB hw,h3,aq (by omega)];simp;omega
   ·omega
 have h2:=XO aE hr hu ha kL _ hx rfl hy.1;refine⟨⟨hT,by rw[e];exact h2.1,by rw[e];exact Eb aE hr hu ha _ hx rfl⟩,?_⟩;rw[e];have:=h2.2;have:=hy.2;omega
def NA {c}(aE:Y.Ok c):(H.ju c).at 0=(0,c.fi):=by
 obtain⟨r0,r1,r2,r3,r4,r5,r6,r7,r8,r9,u6,tF,tG⟩:=row aE;have h:∀k,(jJ c k).getD 0 (0,0)=(0,c.fi):=by
  intro k;induction k with
  |zero=>
   unfold jJ zq;rw[cO,dF (by omega),eW (by rw[List.length_replicate];omega)];rfl
  |succ k ih=>
   unfold jJ;rw[cO,dF (by omega),←cO];exact ih
 exact h _
def Wx {c:Y.cA}(aE:Y.Ok c){a:Nat}(h0:a≠0)(h1:(jt c a).1≠12)(h2:(jt c a).1≠13):(H.ju c).at a=(0,0):=by
 obtain⟨r0,r1,r2,r3,r4,r5,r6,r7,r8,r9,u6,tF,tG⟩:=row aE;have n1:(a:Int)≠fI c:=by
  intro e;rw[e,←GZ aE,pL aE (by rw[GZ aE];omega)]at h1;exact h1 rfl
 have n2:∀i:Int,0≤i→i<c.b→(a:Int)≠cK c+i:=by
  intro i i0 i1 e;rw[e,←zt aE i0 i1,pL aE (by rw[zt aE i0 i1];omega)]at h2;exact h2 rfl
 have h:∀k:Nat,(k:Int)≤c.b→(jJ c k).getD a (0,0)=(0,0):=by
  intro k;induction k with
  |zero=>
   intro _;unfold jJ zq;rw[cO,dF (by omega),dF (by omega),yK];split<;>rfl
  |succ k ih=>
   intro hk;unfold jJ;have:=n2 k (by omega) (by omega);rw[cO,dF (by omega),←cO];exact ih (by omega)
 exact h _ (by omega)
structure QM (c:Y.cA)(m:C.M):Prop where
 len:m.cells.length=(Y.size c).toNat
 as_:∀a:Nat,(jt c a).1≠3→m.at a=(H.ju c).at a
def QM.au8 (c):QM c (H.ju c):=⟨oq c _,λ_ _=>rfl⟩
def QM.at {c}(aE:Y.Ok c){m}(h:QM c m){kd i j}(hk:kd≠0∧kd≠3∧kd≠12∧kd≠13)(hn:at_ c kd i j≠-1):m.at (at_ c kd i j).toNat=(0,0):=by
 have hw:=pL aE hn;have h2:=Js (c:=c) (p:=at_ c kd i j) (by
  rw[hw];have:=(Ku hn).1;unfold Is cr at this;obtain⟨a1,a2,-⟩:=this;dsimp only;rcases Int.lt_or_le kd 0 with h|h
  ·repeat rw[aq (by omega)]at a2
   omega
  ·exact h)
 have e:((at_ c kd i j).toNat:Int)=at_ c kd i j:=by omega
 have h3:(jt c ((at_ c kd i j).toNat:Int)).1=kd:=by rw[e,hw]
 rw[h.as_ _ (by rw[h3];exact hk.2.1),Wx aE _ (by rw[h3];exact hk.2.2.1) (by rw[h3];exact hk.2.2.2)];intro e0;rw[e0]at h3;have:(jt c ((0:Nat):Int)).1=0:=by
  have h5:=pL aE (c:=c) (kd:=0) (i:=0) (j:=0) (by rw[zr aE];decide);rw[zr aE]at h5;show(jt c 0).1=0;rw[h5]
 omega
def QM.step {c m}(h:QM c m)(aw op)(j_:op.k=0∨(jt c op.a).1=3):QM c (m.step aw op):=by
 refine⟨(Nc aw op).trans h.len,λa ha=>?_⟩;rw[←h.as_ a ha];unfold C.M.step;split
 ·rename_i he;obtain⟨_,_,_,_,a0,a1⟩:=C.jV he;unfold C.M.at;dsimp only;rw[cO,tU];split
  ·rename_i e;subst e;rcases j_ with hk|hk
   ·rw[aB (by omega)];show C.gI _ op=_;unfold C.gI;rw[aq (by omega),aq (by omega)]
   ·rw[show((op.a.toNat:Nat):Int)=op.a by omega]at ha;exact absurd hk ha
  ·rw[←cO]
 ·rfl
def CO {m:C.M}(aw:Int)(op:C.BU)(h:0≤op.a→m.at op.a.toNat=(0,0)):(m.told aw op).v=0∧(m.told aw op).s=0:=by
 unfold C.M.told;split
 ·rename_i he;obtain⟨_,_,_,_,a0,a1⟩:=C.jV he;show(m.at op.a.toNat).1=0∧(m.at op.a.toNat).2=0;rw[h a0];exact⟨rfl,rfl⟩
 ·exact⟨rfl,rfl⟩
structure QK (c:Y.cA)(ai:List (List In))(m:K.Me)(k:K.St):Prop where
 nx:k.next=2∨k.next=3∨k.next=8
 asked:k.asked=false
 eV:k.eV=false
 n3:k.next=3→k.nv=0∧k.ns=c.fi∧I_.right (K.code ai m)=true
 n8:k.next=8→k.ns=c.fi∧I_.right (K.code ai m)=true∧∃x,k.work= .ex (K.code ai m) x∧x.s=0∧SE c (K.code ai m) m.call.args x
structure QE (c:Y.cA)(ai:List (List In))(m:K.Me)(k:K.St):Prop where
 nx:k.next=13
 alone:k.alone=true
 eV:k.eV=false
 res:Mo.run c (K.code ai m) m.call.args A1=(A1,k.rc,k.rv)
def pZ (c:Y.cA)(k:K.St):Int:=
 if k.next=2 then 2+3*c.f else if k.next=3 then 1+3*c.f else
  match k.work with
  | .ex _ x=>X.sU c x
  |_=>0
def Ju (ai:List (List In)):Prop:=∀p∈ai,I_.right p=true→I_.reads p=true
def AR (ai m):K.code ai m∈ai∨K.code ai m=[]:=by
 unfold K.code K.bU;split
 ·exact .inr rfl
 ·left;rw[cO,cy (show m.call.prog.toNat<ai.length by omega)];exact cJ _
def Ju.no {ai}(h:Ju ai)(m)(hr:I_.right (K.code ai m)=true):∀i∈K.code ai m,I_.writes i.op=false:=by
 intro i hi;rcases AR ai m with h1|h1
 ·have h2:=h _ h1 hr;unfold I_.reads at h2;rw[eO,mC]at h2;have:=h2.1 i hi;simpa using this
 ·rw[h1]at hi;cases hi
def Ju.new {ai}(h:Ju ai){c}(m):QK c ai m (K.new ai m)∧pZ c (K.new ai m)=2+3*c.f:=by
 have e:(K.new ai m).next=2:=by
  unfold K.new;dsimp only;by_cases hr:I_.right (K.code ai m)=true
  ·rcases AR ai m with h1|h1
   ·rw[aB (.inr (h _ h1 hr))]
   ·rw[h1]at hr;exact absurd hr (by decide)
  ·rw[aB (.inl (by simpa using hr))]
 refine⟨⟨.inl e,rfl,rfl,λh=>by omega,λh=>by omega⟩,?_⟩;unfold pZ;rw[aB e]
def Ed {ai}(h:PU ai)(m):∀i∈K.code ai m,W.U_ i.bN:=by
 intro i hi;rcases AR ai m with h1|h1
 ·exact h _ h1 i hi
 ·rw[h1]at hi;cases hi
def SF {c ai m x}(hx:SE c (K.code ai m) m.call.args x)(hr:I_.right (K.code ai m)=true){k}(hn:k.next=8)(hw:k.work= .ex (K.code ai m) x)(ha:k.asked=false)(hd:k.eV=false)(pH:k.ns=c.fi):
 (QK c ai m (K.read x k)∧pZ c (K.read x k)=X.sU c x)∨QE c ai m (K.read x k):=by
 rcases hx.p with⟨h1,h2⟩|⟨h1,h2⟩
 ·right;unfold K.read;rw[aB h1];exact⟨rfl,rfl,hd,h2⟩
 ·left;unfold K.read;rw[aq (by omega),aq (by omega)];refine⟨⟨.inr (.inr hn),ha,hd,λe=>by omega,λ_=>⟨pH,hr,x,hw,h1,hx⟩⟩,?_⟩;unfold pZ;rw[aq (by omega),aq (by omega),hw]
def SG {c code x}(h:XG c code x):0≤X.sU c x:=by
 have:=h.r.st;unfold X.sU;split
 ·omega
 ·split
  ·split;omega;split;omega;split<;>omega
  ·omega
def QK.sU {c}(aE:Y.Ok c){ai m k}(h:QK c ai m k):0≤pZ c k:=by
 have hf:=aE.f1;unfold pZ;split
 ·omega
 split
 ·omega
 ·rename_i h2 h3;obtain⟨_,_,x,hw,_,hx⟩:=h.n8 (by have:=h.nx;omega);rw[hw];exact SG hx.g
def QK.tell{c}(aE:Y.Ok c)(sZ:0≤c.fi){ai}(hP:Ju ai)(hU:PU ai){m}(ha:jr m.call)(DS:0≤m.aw∧m.aw<c.t){k}(h:QK c ai m k){mem}(hM:QM c mem):((QK c ai m (K.tell c ai m (Z.o3 (mem.told m.aw (Z.nN (K.ask c m k).1))) k)∧pZ c (K.tell c ai m (Z.o3 (mem.told m.aw (Z.nN (K.ask c m k).1))) k)+1≤pZ c k)∨(QE c ai m (K.tell c ai m (Z.o3 (mem.told m.aw (Z.nN (K.ask c m k).1))) k)∧1≤pZ c k))∧
 (K.tell c ai m (Z.o3 (mem.told m.aw (Z.nN (K.ask c m k).1))) k).fresh=decide (k.next=2)∧QM c (mem.step m.aw (Z.nN (K.ask c m k).1)):=by
 have hf:=aE.f1;have sg:=aE.t8;obtain⟨r0,r1,r2,r3,r4,r5,r6,r7,r8,r9,u6,tF,tG⟩:=row aE;rcases h.nx with e|e|e;refine ?Z;rotate_left;refine ?Y;rotate_left;refine ?X
 case' Z=>
  have ea:(K.ask c m k).1=⟨0,0,0,0,0,0⟩:=by
   unfold K.ask;rw[aq (by omega),aq (by omega),aB e,vQ]
  rw[ea]
 case' Z=>
  refine⟨?_,?_,hM.step _ _ (.inl rfl)⟩
  ·have N4:(mem.told m.aw (Z.nN ⟨0,0,0,0,0,0⟩)).v=0∧(mem.told m.aw (Z.nN ⟨0,0,0,0,0,0⟩)).s=c.fi:=by
    have hz:mem.at 0=(0,c.fi):=by
     rw[hM.as_ 0 ?_,NA aE];have h5:=pL aE (c:=c) (kd:=0) (i:=0) (j:=0) (by rw[zr aE];decide);rw[zr aE]at h5;show(jt c 0).1≠3;rw[h5];decide
    unfold C.M.told;have he:C.err mem.cells.length m.aw (Z.nN ⟨0,0,0,0,0,0⟩)=0:=by
     unfold C.err Z.nN;rw[aq (by omega),aq (by dsimp only;omega),aq (by dsimp only;rw[hM.len];omega)]
    rw[aB he];show(mem.at 0).1=0∧(mem.at 0).2=c.fi;rw[hz];exact⟨rfl,rfl⟩
   rw[xj e,show(Z.o3 (mem.told m.aw (Z.nN ⟨0,0,0,0,0,0⟩))).v=0 from N4.1,show(Z.o3 (mem.told m.aw (Z.nN ⟨0,0,0,0,0,0⟩))).s=c.fi from N4.2];have tK:pZ c k=2+3*c.f:=by unfold pZ;rw[aB e]
   unfold K.looked;split
   ·rename_i hr;refine .inl ⟨⟨.inr (.inl rfl),h.asked,rfl,λ_=>⟨rfl,rfl,hr⟩,λe2=>absurd e2 (by show¬(3:Int)=8;decide)⟩,?_⟩;rw[tK];unfold pZ;rw[aq (by show¬(3:Int)=2;decide),aB rfl];omega
   ·rename_i hr;refine .inr ⟨⟨rfl,rfl,rfl,?_⟩,by omega⟩;unfold Mo.run;rw[aq hr];rfl
  ·rw[xj e,eP e];unfold K.looked;split<;>rfl
 case' Y=>
  obtain⟨e1,e2,hr⟩:=h.n3 e;have ea:(K.ask c m k).1=⟨0,at_ c 4 (k.nv%c.t) 0,0,0,0,0⟩:=by
   unfold K.ask;rw[aq (by omega),aq (by omega),aq (by omega),aB e];rfl
  rw[ea];have hv:=(CO (m:=mem) m.aw (Z.nN ⟨0,at_ c 4 (k.nv%c.t) 0,0,0,0,0⟩) (λh0=>by
   have h0:0≤at_ c 4 (k.nv%c.t) 0:=h0;exact hM.at aE (by decide) (by omega))).1
 case' Y=>
  refine⟨?_,?_,hM.step _ _ (.inl rfl)⟩
  ·rw[xk e];unfold K.opened;rw[aq (by rw[show(Z.o3 (mem.told m.aw (Z.nN ⟨0,at_ c 4 (k.nv%c.t) 0,0,0,0,0⟩))).v=0 from hv];rintro⟨h1,-⟩;cases h1)];unfold K.qu;rw[aq (by rw[show({k with fresh:=false,eV:=false}:K.St).asked=false from h.asked];decide)];unfold K.run;have hN:=SE.new aE (Ed hU m) ha.2 (λh=>hP.no m h);have hR:=SF (ai:=ai) (m:=m) (k:={k with fresh:=false,eV:=false,work:= .ex (K.code ai m) (K.NM c ai m),next:=8}) hN.1 hr rfl rfl h.asked rfl e2;have tK:pZ c k=1+3*c.f:=by unfold pZ;rw[aq (by omega),aB e]
   rcases hR with⟨h1,h2⟩|h1
   ·refine .inl ⟨h1,?_⟩;have h3:=hN.2;rw[tK];refine oJ (Int.add_le_add_right (Int.le_of_eq h2) 1) ?_;omega
   ·exact .inr ⟨h1,by omega⟩
  ·rw[xk e,cW (by omega)];unfold K.opened;split
   ·rfl
   ·unfold K.qu;split
    ·rfl
    ·unfold K.run K.read;split;rfl;split
     ·split<;>rfl
     ·rfl
 obtain⟨e2,hr,x,hw,hs,hx⟩:=h.n8 e;have ea:(K.ask c m k).1=(Vw.ask c m.aw x.v).1:=by
  unfold K.ask;rw[aq (by omega),aq (by omega),aq (by omega),aq (by omega),aq (by omega),aB (by omega)];unfold K.sF;rw[hw];dsimp only;unfold X.ask;rw[aq (by omega)]
 rw[ea];obtain⟨SZ,E7⟩:=hx.wt hs;rcases hx.p with h1|⟨_,hq,r,g1,g3,g4,g5,g6,g7⟩;refine ?J;rotate_left;refine ?G
 case' J=>omega
 rcases g7 with⟨e3,_⟩|⟨_,_,_,_,_,g7⟩;refine ?D;rotate_left;refine ?V
 case' D=>rw[SZ]at e3;cases e3
 have tK:pZ c k=X.sU c x:=by unfold pZ;rw[aq (by omega),aq (by omega),hw]
 have Ch:∀(o:O3),(x.v.step≠1→o.s≤k.ns∧o.v=0)→((QK c ai m (K.tell c ai m o k)∧pZ c (K.tell c ai m o k)+1≤pZ c k)∨(QE c ai m (K.tell c ai m o k)∧1≤pZ c k))∧(K.tell c ai m o k).fresh=decide (k.next=2):=by
  intro o hoz;have hT:SE c (K.code ai m) m.call.args (X.tell c (K.code ai m) m.call.args k.ns o.v o.s x)∧X.sU c (X.tell c (K.code ai m) m.call.args k.ns o.v o.s x)+1≤X.sU c x:=by
   by_cases h1:x.v.step=1
   ·have e5:X.tell c (K.code ai m) m.call.args k.ns o.v o.s x=X.tell c (K.code ai m) m.call.args k.ns 0 0 x:=by unfold X.tell Vw.tell;rw[aB h1,aB h1]
    rw[e5];exact SE.tell aE (Ed hU m) ha.2 hr (hP.no m hr) hx hs k.ns 0 0 K.u0 (λh=>absurd h1 h)
   ·exact SE.tell aE (Ed hU m) ha.2 hr (hP.no m hr) hx hs k.ns o.v o.s (by rw[(hoz h1).2];exact K.u0) hoz
  rw[j5 (by unfold fR;omega)];unfold K.fX;dsimp only;rw[hw];dsimp only;constructor
  ·have hR:=SF (ai:=ai) (m:=m) (k:={k with fresh:=false,eV:=false,work:= .ex (K.code ai m) (X.tell c (K.code ai m) m.call.args k.ns o.v o.s x)}) hT.1 hr e rfl h.asked rfl e2;rcases hR with⟨h1,h2⟩|h1
   ·refine .inl ⟨h1,?_⟩;rw[tK];refine oJ (Int.add_le_add_right (Int.le_of_eq h2) 1) hT.2
   ·have h3:=SG hT.1.g;exact .inr ⟨h1,by rw[tK];have:=hT.2;omega⟩
  ·rw[cW (by omega)];unfold K.read;split;rfl;split
   ·split<;>rfl
   ·rfl
 have Ke:∀a:Int,(Vw.ask c m.aw x.v).1=⟨0,a,0,0,0,0⟩→(0≤a→mem.at a.toNat=(0,0))→(Z.o3 (mem.told m.aw (Z.nN (Vw.ask c m.aw x.v).1))).s≤k.ns∧(Z.o3 (mem.told m.aw (Z.nN (Vw.ask c m.aw x.v).1))).v=0:=by
  intro a e4 h4;rw[e4];have h5:=CO (m:=mem) m.aw (Z.nN ⟨0,a,0,0,0,0⟩) h4;exact⟨by rw[show(Z.o3 (mem.told m.aw (Z.nN ⟨0,a,0,0,0,0⟩))).s=0 from h5.2,e2];exact sZ,h5.1⟩
 rcases g7 with⟨o9,kk,yQ,sf,hkr,h8⟩|⟨o11,h8⟩;refine ?U;rotate_left;refine ?g0
 case' U=>rcases h8 with⟨-,h3,h8⟩|⟨e3,-⟩;refine ?g1;rotate_left;refine ?g2
 case' g0=>rcases h8 with⟨-,h3,h4,h5⟩|e3;refine ?g3;rotate_left;refine ?g4
 case' g3=>rcases h3 with h3|h3;refine ?g5;rotate_left;refine ?g6
 case' g1=>have ev:(Vw.ask c m.aw x.v).1=⟨0,at_ c 10 kk 0,0,0,0,0⟩:=by unfold Vw.ask;rw[aq (by omega),aq (by omega),aB h3,h8]
 case' g6=>have ev:(Vw.ask c m.aw x.v).1=⟨0,at_ c 11 x.v.block 0,0,0,0,0⟩:=by unfold Vw.ask;rw[aq (by omega),aB h3]
 case' g1|g6=>have jN:=Ke _ ev (λh0=>hM.at aE (by decide) (by omega));have:=Ch _ (λ_=>jN)
 case' g1|g6=>exact⟨this.1,this.2,hM.step _ _ (.inl (by rw[ev];rfl))⟩
 case' g2=>omega
 case' g5=>have:=Ch (Z.o3 (mem.told m.aw (Z.nN (Vw.ask c m.aw x.v).1))) (λh=>absurd h3 h);refine⟨this.1,this.2,hM.step _ _ (.inr ?_)⟩;have ev:(Z.nN (Vw.ask c m.aw x.v).1).a=at_ c 3 m.aw 0:=by unfold Vw.ask;rw[aB h3];rfl
 case' g5=>rw[ev,pL aE (AQ aE (by decide) DS.1 DS.2)]
 omega
end Go.Proofs.YtolkmchicplaoaaGreat
namespace Go.Proofs.YtolkmchicplaoaaGreat
open Go.RowKit Go.aS Go.aS.I_ Go.aS.Y
def kK:List Int→Int
 |[]=>0
 |x::l=>x+kK l
def Gy:∀(l m:List Int),kK (l++m)=kK l+kK m
 |[],m=>by simp[kK]
 |x::l,m=>by show x+kK (l++m)=x+kK l+kK m;rw[Gy l m];omega
def wb:∀(l:List Int) (i:Nat) (x y:Int),l[i]?=some x→kK (l.set i y)=kK l-x+y
 |[],i,x,y,h=>by simp at h
 |a::l,0,x,y,h=>by
  simp only[gn,eX]at h;subst h;show y+kK l=a+kK l-a+y;omega
 |a::l,i+1,x,y,h=>by
  have:=wb l i x y (by simpa using h);show a+kK (l.set i y)=a+kK l-x+y;omega
def nf {α:Type}{l:List α}{i j:Nat}{x y:α}(h:(l.set i x)[j]?=some y):(j=i∧y=x)∨(j≠i∧l[j]?=some y):=by
 rw[tU]at h;split at h
 ·rename_i e;split at h
  ·left;exact⟨e.symm,(eQ h).symm⟩
  ·cases h
 ·rename_i e;right;exact⟨λe2=>e e2.symm,h⟩
def sV {α:Type}{l j}{x y:α}(h:(l++[x])[j]?=some y):(j=l.length∧y=x)∨l[j]?=some y:=by
 rcases qS j l.length with h1|h1
 ·right;rwa [gm h1]at h
 ·left;have h2:=(dE.1 h).1;rw[eE,List.length_singleton]at h2;have e:j=l.length:=by omega
  subst e;rw[gw (dp _),oI]at h;exact⟨rfl,(eQ h).symm⟩
def Gz {α:Type}{l m:List α}{j:Nat}{y:α}(h:l[j]?=some y):(l++m)[j]?=some y:=by
 rw[gm (dE.1 h).1];exact h
structure QT (c:Y.cA)(ai:List (List In))(aM:List Z.Rec)(aK:Int)(t:Nat)(u:Z.Th)(m:K.Me)(k:K.St):Prop where
 aw:m.aw=t
 tag:m.tag=u.count
 call:jr m.call
 kk:QK c ai m k
 lk:∃(j:Nat) (r:Z.Rec),u.record=j∧aM[j]?=some r∧r.aw=t∧r.tag=u.count∧r.call=m.call∧r.done=false∧0≤r.from_∧r.from_≤aK∧0≤r.steps∧r.steps+pZ c k≤2+3*c.f∧(k.next≠2→r.from_≤u.looked∧u.looked≤aK)
def SJ (c:Y.cA)(ai:List (List In))(aM:List Z.Rec)(x:Z.Row):Prop:=
 x.news=[]∧∃(j:Nat) (r:Z.Rec),aM[j]?=some r∧r.done=true∧x.aw=r.aw∧x.tag=r.tag∧x.rc=r.rc∧x.rv=r.rv∧r.from_≤x.at_∧x.at_≤r.NN∧0≤x.at_∧Mo.run c (K.bU ai r.call.prog) r.call.args A1=(A1,r.rc,r.rv)
structure QZ (c:Y.cA)(ai:List (List In))(T d:Int)(s:Z.St):Prop where
 mem:QM c s.mem
 n:(s.iB.length:Int)=c.t
 tot:kK (s.iB.map (λu=>(u.calls.length:Int)))+s.aM.length=T
 pk:kK (s.aM.map (·.steps))+d=s.aK
 p0:0≤s.aK
 ok:∀(t:Nat) u,s.iB[t]?=some u→(∀x∈u.calls,jr x)∧0≤u.count∧(∀m k,u.at_=some (m,k)→QT c ai s.aM s.aK t u m k)
 aM:∀(j:Nat) r,s.aM[j]?=some r→(∃(t:Nat) (u:Z.Th),s.iB[t]?=some u∧r.aw=t∧1≤r.tag∧r.tag≤u.count)∧jr r.call∧0≤r.steps∧r.steps≤2+3*c.f∧(r.done=true∨∃(t:Nat) (u:Z.Th) (m:K.Me) (k:K.St),s.iB[t]?=some u∧u.at_=some (m,k)∧u.record=j)
 one:∀(i j:Nat) ri rj,s.aM[i]?=some ri→s.aM[j]?=some rj→ri.aw=rj.aw→ri.tag=rj.tag→i=j
 rows:∀x∈s.rows,SJ c ai s.aM x
 iM:∀(j:Nat) r,s.aM[j]?=some r→r.done=true→∃x∈s.rows,x.aw=r.aw∧x.tag=r.tag
 nod:(s.rows.map (λx=>(x.aw,x.tag))).Nodup
section
variable {c:Y.cA} {ai:List (List In)} {T:Int} {s:Z.St}
def QT.more {aM XP p p2 t u m k}(h:QT c ai aM p t u m k)(hp:p≤p2)(hr:∀(j:Nat) r,u.record=j→aM[j]?=some r→XP[j]?=some r):QT c ai XP p2 t u m k:=by
 obtain⟨j,r,a1,a2,a3,a4,a5,a6,a7,a8,a9,a10,a11⟩:=h.lk;exact⟨h.aw,h.tag,h.call,h.kk,j,r,a1,hr j r a1 a2,a3,a4,a5,a6,a7,by omega,a9,a10,λe=>by have:=a11 e;omega⟩
def QZ.tick (h:QZ c ai T 0 s):QZ c ai T 1 {s with aK:=s.aK+1}:=
 ⟨h.mem,h.n,h.tot,by have:=h.pk;dsimp only;omega,by have:=h.p0;dsimp only;omega,λt u hu=>⟨(h.ok t u hu).1,(h.ok t u hu).2.1,λm k e=>((h.ok t u hu).2.2 m k e).more (by dsimp only;omega) (λ_ _ _ x=>x)⟩,h.aM,h.one,h.rows,h.iM,h.nod⟩
def QZ.dI (aE:Y.Ok c)(hP:Ju ai)(h:QZ c ai T 1 s){t u}(hu:s.iB[t]?=some u)(jT:u.at_=none){x xs}(hc:u.calls=x::xs):
 QZ c ai T 1 (Z.dI ai t s)∧∃u2 m k,(Z.dI ai t s).iB[t]?=some u2∧u2.at_=some (m,k):=by
 have lK:t<s.iB.length:=(dE.1 hu).1;have ox:Z.iO s t=u:=by unfold Z.iO;rw[cO,hu];rfl
 obtain⟨c1,c2,-⟩:=h.ok t u hu;have eh:u.calls.headD ⟨0,[]⟩=x:=by rw[hc];rfl
 have e:Z.dI ai t s={s with iB:=s.iB.set t {Z.begun ai t u with record:=s.aM.length},aM:=s.aM++[⟨t,u.count+1,x,s.aK,0,0,false,0,0⟩]}:=by
  unfold Z.dI Z.EX;rw[ox,eh]
 have eb:({Z.begun ai t u with record:=s.aM.length}:Z.Th)=⟨xs,some (⟨t,u.count+1,x⟩,K.new ai ⟨t,u.count+1,x⟩),s.aM.length,u.count+1,u.looked⟩:=by
  unfold Z.begun;rw[eh,hc];rfl
 rw[e,eb];have hxo:=c1 x (by rw[hc];simp);have A6:=h.p0;have hN:=hP.new (c:=c) ⟨t,u.count+1,x⟩;refine⟨⟨h.mem,by dsimp only;rw[cF];exact h.n,?_,?_,A6,?_,?_,?_,?_,?_,h.nod⟩,_,_,_,eW lK,rfl⟩
 ·have:=h.tot;have h2:=wb (s.iB.map (λu=>(u.calls.length:Int))) t (u.calls.length:Int) (xs.length:Int) (by rw[jE,hu];rfl);dsimp only;rw[kE,eE,List.length_singleton,h2];have h3:u.calls.length=xs.length+1:=by rw[hc];rfl
  omega
 ·have:=h.pk;dsimp only;rw[pS,Gy];show _+(0+0)+1=_;omega
 ·intro t2 u2 h2;rcases nf h2 with⟨rfl,rfl⟩|⟨pg,h3⟩
  ·refine⟨λy hy=>c1 y (by rw[hc];exact oB _ hy),by dsimp only;omega,λm k e2=>?_⟩;dsimp only at e2;obtain⟨rfl,rfl⟩:=Prod.mk.inj (eQ e2);refine⟨rfl,rfl,hxo,hN.1,s.aM.length,⟨t2,u.count+1,x,s.aK,0,0,false,0,0⟩,rfl,?_,rfl,rfl,rfl,rfl,A6,iu _,iu _,?_,λe3=>absurd ?_ e3⟩
   ·dsimp only;rw[gw (dp _),oI];rfl
   ·rw[hN.2];dsimp only;omega
   ·have:=hN.2;rcases hN.1.nx with h5|h5|h5
    ·exact h5
    ·exfalso;unfold pZ at this;rw[aq (by omega),aB h5]at this;omega
    ·exfalso;have hw:(K.new ai ⟨t2,u.count+1,x⟩).next=0∨(K.new ai ⟨t2,u.count+1,x⟩).next=2:=by unfold K.new;dsimp only;split<;>simp
     omega
  ·obtain⟨b1,b2,b3⟩:=h.ok t2 u2 h3;exact⟨b1,b2,λm k e2=>(b3 m k e2).more (iu _) (λj r _ hj=>Gz hj)⟩
 ·intro j r hj;rcases sV hj with⟨rfl,rfl⟩|hj
  ·exact⟨⟨t,_,eW lK,rfl,by dsimp only;omega,by dsimp only;omega⟩,hxo,iu _,by dsimp only;have:=aE.f1;omega,.inr ⟨t,_,_,_,eW lK,rfl,rfl⟩⟩
  ·obtain⟨⟨t2,u2,d1,d2,d3,d4⟩,d5,d6,d7,d8⟩:=h.aM j r hj;refine⟨?_,d5,d6,d7,?_⟩
   ·by_cases e2:t2=t
    ·subst e2;rw[hu]at d1;obtain rfl:=eQ d1;exact⟨t2,_,eW lK,d2,d3,by dsimp only;omega⟩
    ·exact⟨t2,u2,by dsimp only;rw[dF (λh=>e2 h.symm)];exact d1,d2,d3,d4⟩
   ·rcases d8 with d8|⟨t3,u3,m3,k3,f1,f2,f3⟩
    ·exact .inl d8
    ·right;have pg:t3≠t:=by
      intro e2;subst e2;rw[hu]at f1;obtain rfl:=eQ f1;rw[jT]at f2;cases f2
     exact⟨t3,u3,m3,k3,by dsimp only;rw[dF (λh=>pg h.symm)];exact f1,f2,f3⟩
 ·have A5:∀(i:Nat) ri,s.aM[i]?=some ri→ri.aw=t→ri.tag≠u.count+1:=by
   intro i ri hi e1 e2;obtain⟨⟨t2,u2,d1,d2,d3,d4⟩,-⟩:=h.aM i ri hi;have:t2=t:=by omega
   subst this;rw[hu]at d1;obtain rfl:=eQ d1;omega
  intro i j ri rj hi hj e1 e2;rcases sV hi with⟨rfl,rfl⟩|hi
  ·rcases sV hj with⟨rfl,rfl⟩|hj
   ·rfl
   ·exact absurd e2.symm (A5 j rj hj e1.symm)
  ·rcases sV hj with⟨rfl,rfl⟩|hj
   ·exact absurd e2 (A5 i ri hi e1)
   ·exact h.one i j ri rj hi hj e1 e2
 ·intro y hy;obtain⟨a1,j,r,a2,a3⟩:=h.rows y hy;exact⟨a1,j,r,Gz a2,a3⟩
 ·intro j r hj hd;rcases sV hj with⟨rfl,rfl⟩|hj
  ·cases hd
  ·exact h.iM j r hj hd
def QZ.ig (aE:Y.Ok c)(sZ:0≤c.fi)(hP:Ju ai)(hU:PU ai)(h:QZ c ai T 1 s){t u}(hu:s.iB[t]?=some u){m k}(jT:u.at_=some (m,k)):QZ c ai T 0 (Z.ig c ai t s):=by
 have lK:t<s.iB.length:=(dE.1 hu).1;have ox:Z.iO s t=u:=by unfold Z.iO;rw[cO,hu];rfl
 obtain⟨c1,c2,c3⟩:=h.ok t u hu;have hQ:=c3 m k jT;have hn:=h.n;have pD:=hQ.kk.tell aE sZ hP hU hQ.call (by rw[hQ.aw];omega) h.mem;have Ξ:=hQ.kk.sU aE;obtain⟨j,r,a1,a2,a3,a4,a5,a6,a7,a8,a9,a10,a11⟩:=hQ.lk;rw[hQ.aw]at pD;have mW:j<s.aM.length:=(dE.1 a2).1;have hrj:s.aM.getD u.record.toNat Z.Hm=r:=by rw[a1,dU,cO,a2];rfl
 have A6:=h.p0;have A2:=h.tot;have tK:=h.pk;unfold Z.ig;rw[ox,jT];dsimp only;obtain⟨JH,El,hs3⟩:=pD;generalize s.mem.step t (Z.nN (K.ask c m k).1)=π at*;generalize K.tell c ai m (Z.o3 (s.mem.told t (Z.nN (K.ask c m k).1))) k=k2 at*;have Gb:Z.iO {s with mem:=π} t=u:=ox;unfold Z.told;rw[Gb];dsimp only;have ejr:u.record.toNat=j:=by rw[a1,dU]
 rw[hrj,ejr];have Ge:r.from_≤(if k2.fresh then s.aK else u.looked)∧(if k2.fresh then s.aK else u.looked)≤s.aK:=by
  rw[El];by_cases e:k.next=2
  ·rw[aB (by rw[eP e])];omega
  ·rw[aq (by rw[cW e];decide)];exact a11 e
 have al8:∀r1:Z.Rec,r1.steps=r.steps+1→kK ((s.aM.set j r1).map (·.steps))=kK (s.aM.map (·.steps))+1:=by
  intro r1 e1;rw[kE,wb _ j r.steps _ (by rw[jE,a2];rfl),e1];omega
 have mr:∀u2:Z.Th,u2.calls=u.calls→kK ((s.iB.set t u2).map (λu=>(u.calls.length:Int)))=kK (s.iB.map (λu=>(u.calls.length:Int))):=by
  intro u2 e1;rw[kE,wb _ t (u.calls.length:Int) _ (by rw[jE,hu];rfl),e1];omega
 have ab4:(K.rows k2).map (λx=>(⟨s.aK,x.aw,IntKind.i64.wrap x.tag,x.rc,x.rv,x.news⟩:Z.Row))=[]:=by
  have hd:k2.eV=false:=by
   rcases JH with h1|h1
   ·exact h1.1.eV
   ·exact h1.1.eV
  unfold K.rows;rw[hd];rfl
 have pV:∀r1:Z.Rec,r1.aw=r.aw→r1.tag=r.tag→∀(i i2:Nat) ri rj,(s.aM.set j r1)[i]?=some ri→(s.aM.set j r1)[i2]?=some rj→ri.aw=rj.aw→ri.tag=rj.tag→i=i2:=by
  intro r1 e1 e2 i i2 ri rj hi hj f1 f2;rcases nf hi with⟨g1,g2⟩|⟨Oy,qL⟩
  ·rcases nf hj with⟨g3,g4⟩|⟨hj1,zM⟩
   ·rw[g1,g3]
   ·rw[g1];exact h.one _ _ _ _ a2 zM (by rw[←e1,←g2];exact f1) (by rw[←e2,←g2];exact f2)
  ·rcases nf hj with⟨g3,g4⟩|⟨hj1,zM⟩
   ·rw[g3];exact h.one _ _ _ _ qL a2 (by rw[←e1,←g4];exact f1) (by rw[←e2,←g4];exact f2)
   ·exact h.one _ _ _ _ qL zM f1 f2
 have al9:∀(t2:Nat) u2,t2≠t→s.iB[t2]?=some u2→∀r1:Z.Rec,∀m2 k3,u2.at_=some (m2,k3)→QT c ai (s.aM.set j r1) s.aK t2 u2 m2 k3:=by
  intro t2 u2 pg h2 r1 m2 k3 e2;have hq2:=(h.ok t2 u2 h2).2.2 m2 k3 e2;refine hq2.more (iu _) (λi ri e3 e4=>?_);rw[dF ?_]
  ·exact e4
  ·intro e5;subst e5;obtain⟨j2,r2,b1,b2,b3,-⟩:=hq2.lk;have:j2=j:=by omega
   subst this;rw[a2]at b2;obtain rfl:=eQ b2;omega
 rw[ab4,sY];rcases JH with⟨uV,hpt⟩|⟨he,hpt⟩
 ·have aA2:=uV.sU aE;rw[aq (by have:=uV.nx;omega)];refine⟨hs3,by dsimp only;rw[cF];exact h.n,by dsimp only;rw[mr {u with at_:=some (m,k2),looked:=if k2.fresh then s.aK else u.looked} rfl,cF];exact A2,by dsimp only;rw[al8 _ rfl];omega,A6,?_,?_,pV _ rfl rfl,?_,?_,h.nod⟩
  ·intro t2 u2 h2;rcases nf h2 with⟨rfl,rfl⟩|⟨pg,h3⟩
   ·refine⟨c1,c2,λm2 k3 e2=>?_⟩;dsimp only at e2;obtain⟨rfl,rfl⟩:=Prod.mk.inj (eQ e2);refine⟨hQ.aw,hQ.tag,hQ.call,uV,j,{r with steps:=r.steps+1},a1,eW mW,a3,a4,a5,a6,a7,a8,by dsimp only;omega,by dsimp only;omega,λ_=>Ge⟩
   ·exact⟨(h.ok t2 u2 h3).1,(h.ok t2 u2 h3).2.1,al9 t2 u2 pg h3 _⟩
  ·intro i ri hi;have am0:∀(t2:Nat) (u2:Z.Th),s.iB[t2]?=some u2→∃u3,(s.iB.set t {u with at_:=some (m,k2),looked:=if k2.fresh then s.aK else u.looked})[t2]?=some u3∧u3.count=u2.count∧u3.record=u2.record∧(∀m2 k3,u2.at_=some (m2,k3)→∃m4 k4,u3.at_=some (m4,k4)):=by
    intro t2 u2 h2;by_cases e2:t2=t
    ·subst e2;rw[hu]at h2;obtain rfl:=eQ h2;exact⟨_,eW lK,rfl,rfl,λ_ _ _=>⟨_,_,rfl⟩⟩
    ·exact⟨u2,by rw[dF (λh=>e2 h.symm)];exact h2,rfl,rfl,λm2 k3 e=>⟨m2,k3,e⟩⟩
   have hold:∃r0,s.aM[i]?=some r0∧ri.aw=r0.aw∧ri.tag=r0.tag∧ri.call=r0.call∧ri.done=r0.done∧0≤ri.steps∧ri.steps≤2+3*c.f:=by
    rcases nf hi with⟨rfl,rfl⟩|⟨Oy,hi⟩
    ·exact⟨r,a2,rfl,rfl,rfl,rfl,by dsimp only;omega,by dsimp only;omega⟩
    ·exact⟨ri,hi,rfl,rfl,rfl,rfl,(h.aM i ri hi).2.2.1,(h.aM i ri hi).2.2.2.1⟩
   obtain⟨r0,b1,b2,b3,b4,b5,b6,b7⟩:=hold;obtain⟨⟨t2,u2,d1,d2,d3,d4⟩,d5,d6,d7,d8⟩:=h.aM i r0 b1;refine⟨?_,by rw[b4];exact d5,b6,b7,?_⟩
   ·obtain⟨u3,f1,f2,f3,f4⟩:=am0 t2 u2 d1;exact⟨t2,u3,f1,by omega,by omega,by omega⟩
   ·rw[b5];rcases d8 with d8|⟨t3,u3,m3,k3,g1,g2,g3⟩
    ·exact .inl d8
    ·right;obtain⟨u4,f1,f2,f3,f4⟩:=am0 t3 u3 g1;obtain⟨m4,k4,f5⟩:=f4 m3 k3 g2;exact⟨t3,u4,m4,k4,f1,f5,by omega⟩
  ·intro y hy;obtain⟨b1,i,ri,b2,b3⟩:=h.rows y hy;refine⟨b1,i,ri,?_,b3⟩;dsimp only;rw[dF ?_]
   ·exact b2
   ·intro e;subst e;rw[a2]at b2;obtain rfl:=eQ b2;rw[a6]at b3;exact absurd b3.1 (by decide)
  ·intro i ri hi hd;rcases nf hi with⟨rfl,rfl⟩|⟨Oy,hi⟩
   ·dsimp only at hd;rw[a6]at hd;cases hd
   ·exact h.iM i ri hi hd
 ·rw[aB he.nx,aB he.alone];have L2:({r with steps:=r.steps+1,NN:=s.aK,done:=true,rc:=k2.rc,rv:=k2.rv}:Z.Rec).steps=r.steps+1:=rfl;have A5:∀y∈s.rows,¬(y.aw=r.aw∧y.tag=r.tag):=by
   rintro y hy ⟨e1,e2⟩;obtain⟨b1,i,ri,b2,b3,b4,b5,-⟩:=h.rows y hy;have e3:=h.one i j ri r b2 a2 (by omega) (by omega);subst e3;rw[a2]at b2;obtain rfl:=eQ b2;rw[a6]at b3;cases b3
  refine⟨hs3,by dsimp only;rw[cF];exact h.n,by dsimp only;rw[mr {u with looked:=if k2.fresh then s.aK else u.looked,at_:=none} rfl,cF];exact A2,by dsimp only;rw[al8 _ rfl];omega,A6,?_,?_,pV _ rfl rfl,?_,?_,?_⟩
  ·intro t2 u2 h2;rcases nf h2 with⟨rfl,rfl⟩|⟨pg,h3⟩
   ·exact⟨c1,c2,λm2 k3 e2=>by cases e2⟩
   ·exact⟨(h.ok t2 u2 h3).1,(h.ok t2 u2 h3).2.1,al9 t2 u2 pg h3 _⟩
  ·intro i ri hi;have QH:∀(t2:Nat) (u2:Z.Th),s.iB[t2]?=some u2→∃u3,(s.iB.set t {u with looked:=if k2.fresh then s.aK else u.looked,at_:=none})[t2]?=some u3∧u3.count=u2.count:=by
    intro t2 u2 h2;by_cases e2:t2=t
    ·subst e2;rw[hu]at h2;obtain rfl:=eQ h2;exact⟨_,eW lK,rfl⟩
    ·exact⟨u2,by rw[dF (λh=>e2 h.symm)];exact h2,rfl⟩
   rcases nf hi with⟨rfl,rfl⟩|⟨Oy,hi⟩
   ·obtain⟨⟨t2,u2,d1,d2,d3,d4⟩,d5,d6,d7,d8⟩:=h.aM i r a2;obtain⟨u3,f1,f2⟩:=QH t2 u2 d1;exact⟨⟨t2,u3,f1,d2,d3,by rw[f2];exact d4⟩,d5,by dsimp only;omega,by dsimp only;omega,.inl rfl⟩
   ·obtain⟨⟨t2,u2,d1,d2,d3,d4⟩,d5,d6,d7,d8⟩:=h.aM i ri hi;obtain⟨u3,f1,f2⟩:=QH t2 u2 d1;refine⟨⟨t2,u3,f1,d2,d3,by rw[f2];exact d4⟩,d5,d6,d7,?_⟩;rcases d8 with d8|⟨t3,u3,m3,k3,g1,g2,g3⟩
    ·exact .inl d8
    ·right;refine⟨t3,u3,m3,k3,?_,g2,g3⟩;dsimp only;rw[dF ?_]
     ·exact g1
     ·intro e;subst e;rw[hu]at g1;obtain rfl:=eQ g1;omega
  ·intro y hy;rcases jQ.1 hy with hy|hy
   ·obtain⟨b1,i,ri,b2,b3⟩:=h.rows y hy;refine⟨b1,i,ri,?_,b3⟩;dsimp only;rw[dF ?_]
    ·exact b2
    ·intro e;subst e;rw[a2]at b2;obtain rfl:=eQ b2;rw[a6]at b3;exact absurd b3.1 (by decide)
   ·rw[jO]at hy;subst hy;refine⟨rfl,j,_,eW mW,rfl,a3.symm,a4.symm,rfl,rfl,Ge.1,Ge.2,by dsimp only;omega,?_⟩;dsimp only;rw[a5];exact he.res
  ·intro i ri hi hd;rcases nf hi with⟨rfl,rfl⟩|⟨Oy,hi⟩
   ·exact⟨_,List.mem_append_right _ (jO.2 rfl),a3.symm,a4.symm⟩
   ·obtain⟨y,hy,b⟩:=h.iM i ri hi hd;exact⟨y,List.mem_append_left _ hy,b⟩
  ·dsimp only;rw[pS,List.nodup_append];refine⟨h.nod,by simp,?_⟩;intro p hp q hq e;rw[po,List.map_nil,jO]at hq;rw[mE]at hp;obtain⟨y,hy,rfl⟩:=hp;subst hq;obtain⟨e1,e2⟩:=Prod.mk.inj e;dsimp only at e1 e2;exact A5 y hy ⟨by omega,by omega⟩
def QZ.pick (aE:Y.Ok c)(sZ:0≤c.fi)(hP:Ju ai)(hU:PU ai)(h:QZ c ai T 0 s)(t):QZ c ai T 0 (Z.pick c ai t s).1:=by
 unfold Z.pick;split
 ·exact h
 rename_i hi;have CP:Z.idle s t=false:=by
  cases hh:Z.idle s t with
  |false=>rfl
  |true=>exact absurd (.inl hh) hi
 dsimp only;have h1:=h.tick;have tH:0≤t∧t<s.iB.length:=by
  unfold Z.idle at CP;rw[Bool.or_eq_false_iff]at CP;have:=uL CP.1;omega
 obtain⟨u,hu⟩:∃u,s.iB[t.toNat]?=some u:=⟨_,cy (show t.toNat<s.iB.length by omega)⟩;have ox:Z.iO s t.toNat=u:=by unfold Z.iO;rw[cO,hu];rfl
 have Gb:Z.iO {s with aK:=s.aK+1} t.toNat=u:=ox;rw[Gb];cases jT:u.at_ with
 |none=>
  rw[aB (show(none:Option (K.Me×K.St)).isNone=true from rfl)];have hc:∃x xs,u.calls=x::xs:=by
   cases mr:u.calls with
   |cons x xs=>exact⟨x,xs,rfl⟩
   |nil=>
    exfalso;unfold Z.idle at CP;rw[ox,jT,mr]at CP;simp at CP
  obtain⟨x,xs,hc⟩:=hc;obtain⟨h2,u2,m,k,e1,e2⟩:=h1.dI aE hP (t:=t.toNat) (u:=u) hu jT hc;exact h2.ig aE sZ hP hU e1 e2
 |some p=>
  rw[aq (show¬((some p:Option (K.Me×K.St)).isNone=true) by simp)];exact h1.ig aE sZ hP hU (t:=t.toNat) (u:=u) hu (m:=p.1) (k:=p.2) jT
end
end Go.Proofs.YtolkmchicplaoaaGreat
namespace Go.Proofs.YtolkmchicplaoaaGreat
open Go.RowKit Go.aS Go.aS.I_ Go.aS.Y
section
variable {c:Y.cA} {ai:List (List In)} {T:Int} {s:Z.St}
def SK {aM}(one:∀(i j:Nat) ri rj,aM[i]?=some ri→aM[j]?=some rj→ri.aw=rj.aw→ri.tag=rj.tag→i=j):∀(l:List Z.Row) (seen:List (Int×Int)) (last:Int),Or.Up l→(∀x∈l,last≤x.at_∧SJ c ai aM x)→(l.map (λx=>(x.aw,x.tag))).Nodup→(∀x∈l,(x.aw,x.tag)∉seen)→(∀r∈aM,r.done=true→(r.aw,r.tag)∈seen∨∃x∈l,x.aw=r.aw∧x.tag=r.tag)→Or.vx aM l seen last=0
 |[],seen,last,_,_,_,_,hd=>by
  unfold Or.vx;rw[aB];rw[mC];intro r hr;cases p5:r.done with
  |false=>rfl
  |true=>
   rcases hd r hr p5 with h1|⟨x,hx,-⟩
   ·simp[h1]
   ·cases hx
 |x::l,seen,last,hu,hx,hn,hs,hd=>by
  obtain⟨h1,-,j,r,a1,a2,a3,a4,a5,a6,a7,a8,a9,-⟩:=hx x (by simp);obtain⟨f1,f2⟩:=Or.Ks one a1;unfold Or.vx;rw[a3,a4,f2,f1,aq (by omega),aq (by have:=hs x (by simp);rwa [a3,a4]at this),aq (by rintro(h|h|⟨-,h⟩)<;>omega),aq (by rintro⟨-,h⟩;exact h ⟨a5,a6⟩)];unfold Or.Up at hu;rw[sm]at hu;rw[po,List.nodup_cons]at hn;refine SK one l _ _ hu.2 (λy hy=>⟨hu.1 y hy,(hx y (oB _ hy)).2⟩) hn.2 ?_ ?_
  ·intro y hy hm;rcases oG.1 hm with e|hm
   ·apply hn.1;rw[mE];exact⟨y,hy,by rw[e,a3,a4]⟩
   ·exact hs y (oB _ hy) hm
  ·intro r2 Ew sr;rcases hd r2 Ew sr with h|⟨y,hy,e1,e2⟩
   ·exact .inl (oB _ h)
   ·rcases oG.1 hy with rfl|hy
    ·left;rw[←e1,←e2,a3,a4];simp
    ·exact .inr ⟨y,hy,e1,e2⟩
def QZ.fits (h:QZ c ai T 0 s):Or.fits s.aM (Or.sort s.rows)=0:=by
 have hp:=Or.kx s.rows;unfold Or.fits;refine SK (c:=c) (ai:=ai) h.one _ _ _ (Or.Wl s.rows) (λx hx=>?_) ((hp.map _).nodup_iff.2 h.nod) (λ_ _=>by simp) (λr hr hd=> .inr ?_)
 ·have hr:=h.rows x (hp.mem_iff.1 hx);obtain⟨_,j,r,a1,a2,a3,a4,a5,a6,a7,a8,a9,-⟩:=hr;exact⟨a9,h.rows x (hp.mem_iff.1 hx)⟩
 ·obtain⟨j,hj,e⟩:=qO hr;obtain⟨x,hx,e1⟩:=h.iM j r (by rw[cy hj,e]) hd;exact⟨x,hp.mem_iff.2 hx,e1⟩
def GA {aM}(one:∀(i j:Nat) ri rj,aM[i]?=some ri→aM[j]?=some rj→ri.aw=rj.aw→ri.tag=rj.tag→i=j):∀(l:List Z.Row),(∀x∈l,SJ c ai aM x∧x.rc≠43)→Or.mZ c ai aM l A1=(A1,0)
 |[],_=>rfl
 |x::l,hx=>by
  obtain⟨⟨-,j,r,a1,a2,a3,a4,a5,a6,a7,a8,a9,a10⟩,h43⟩:=hx x (by simp);obtain⟨f1,f2⟩:=Or.Ks one a1;have ih:=GA one l (λy hy=>hx y (oB _ hy));unfold Or.mZ;rw[a3,a4,f2,f1,aq (by omega)];split
  ·exact ih
  ·dsimp only;rw[a10];dsimp only;rw[aq (by rintro h;exact h ⟨a5.symm,a6.symm⟩),aq (by rintro⟨h,-⟩;omega)];exact ih
def SL (aE:Y.Ok c)(hP:Ju ai)(hU:PU ai){r:Z.Rec}(hc:jr r.call):(Mo.run c (K.bU ai r.call.prog) r.call.args A1).2.1≠43:=by
 by_cases hr:I_.right (K.bU ai r.call.prog)=true
 ·refine(CE aE hc.1 hc.2 (code:=K.bU ai r.call.prog) (Ed hU ⟨0,0,r.call⟩) ?_ (roots:=A1) rfl ?_).2
  ·intro _ i hi;have:=hP.no ⟨0,0,r.call⟩ hr i hi;unfold I_.writes at this;have:=uL this;unfold JZ;omega
  ·intro x hx;rw[zb hx];exact K.u0
 ·unfold Mo.run;rw[aq hr];show(30:Int)≠43;decide
def QZ.replay (aE:Y.Ok c)(hP:Ju ai)(hU:PU ai)(h:QZ c ai T 0 s):Or.replay c ai s.aM (Or.sort s.rows)=(A1,0):=by
 have hp:=Or.kx s.rows;refine GA h.one _ (λx hx=>⟨h.rows x (hp.mem_iff.1 hx),?_⟩);obtain⟨_,j,r,a1,a2,a3,a4,a5,a6,a7,a8,a9,a10⟩:=h.rows x (hp.mem_iff.1 hx);have:=SL aE hP hU (h.aM j r a1).2.1;rw[a10]at this;rw[a5];exact this
def QZ.news (h:QZ c ai T 0 s):∀x∈Or.sort s.rows,x.news=[]:=λx hx=>(h.rows x ((Or.kx s.rows).mem_iff.1 hx)).1
def Ee {B}:∀(l:List Int),(∀x∈l,x≤B)→kK l≤l.length*B
 |[],_=>by simp[kK]
 |x::l,h=>by
  have h1:=h x (by simp);have h2:=Ee l (λy hy=>h y (oB _ hy));show x+kK l≤((l.length+1:Nat):Int)*B;rw[Int.natCast_add,Int.add_mul];have:((1:Nat):Int)*B=B:=by simp
  omega
def Ef:∀(l:List Int),(∀x∈l,0≤x)→0≤kK l
 |[],_=>by simp[kK]
 |x::l,h=>by
  have h1:=h x (by simp);have h2:=Ef l (λy hy=>h y (oB _ hy));show 0≤x+kK l;omega
def QZ.tY (aE:Y.Ok c)(h:QZ c ai T 0 s):(s.aM.length:Int)≤T∧s.aK≤T*(2+3*c.f):=by
 have hf:=aE.f1;have h1:=h.tot;have h2:=Ef (s.iB.map (λu=>(u.calls.length:Int))) (λx hx=>by rw[mE]at hx;obtain⟨u,_,rfl⟩:=hx;omega);have h3:=Ee (B:=2+3*c.f) (s.aM.map (·.steps)) (λx hx=>by
  rw[mE]at hx;obtain⟨r,hr,rfl⟩:=hx;obtain⟨j,hj,e⟩:=qO hr;exact(h.aM j r (by rw[cy hj,e])).2.2.2.1)
 rw[dD]at h3;have h4:(s.aM.length:Int)*(2+3*c.f)≤T*(2+3*c.f):=CU (by omega) (by omega);have:=h.pk;omega
def QZ.SM (h:QZ c ai T 0 s)(hi:∀t:Nat,(t:Int)<c.t→Z.idle s t=true):∀r∈s.aM,r.done=true∧r.steps≤2+3*c.f:=by
 intro r hr;obtain⟨j,hj,e⟩:=qO hr;obtain⟨_,_,_,h4,h5⟩:=h.aM j r (by rw[cy hj,e]);refine⟨?_,h4⟩;rcases h5 with h5|⟨t,u,m,k,h6,h7,-⟩
 ·exact h5
 ·exfalso;have lK:=(dE.1 h6).1;have:=hi t (by have:=h.n;omega);unfold Z.idle Z.iO at this;rw[dU,cO,h6]at this;simp only[Option.getD_some,h7,Option.isNone_some,Bool.false_and,Bool.or_false,gG]at this;omega
def GB {α:Type} [DecidableEq α]:∀(l m:List α),l.Nodup→l⊆m→l.length≤m.length
 |[],m,_,_=>cE _
 |x::l,m,hn,hs=>by
  rw[List.nodup_cons]at hn;have hx:x∈m:=hs (by simp);have h1:=GB l (m.erase x) hn.2 (λy hy=>by
   have Yu:y∈m:=hs (oB _ hy);have pg:y≠x:=λe=>hn.1 (e▸hy);exact(List.mem_erase_of_ne pg).2 Yu)
  rw[List.length_erase_of_mem hx]at h1;have:=List.length_pos_of_mem hx;rw[dT];omega
def QZ.Wy (h:QZ c ai T 0 s):s.rows.length≤s.aM.length:=by
 have h1:s.rows.map (λx=>(x.aw,x.tag))⊆s.aM.map (λx=>(x.aw,x.tag)):=by
  intro p hp;rw[mE]at hp;obtain⟨x,hx,rfl⟩:=hp;obtain⟨_,j,r,a1,a2,a3,a4,-⟩:=h.rows x hx;rw[mE];exact⟨r,wz a1,by rw[a3,a4]⟩
 have h2:=GB _ _ h.nod h1;rwa [dD,dD]at h2
def QZ.start (aE:Y.Ok c){calls}(hn:(calls.length:Int)=c.t)(hc:∀l∈calls,∀x∈l,jr x):QZ c ai (kK (calls.map (λl=>(l.length:Int)))) 0 (Z.new c calls):=by
 refine⟨QM.au8 c,?_,?_,rfl,iu _,?_,?_,?_,?_,?_,List.nodup_nil⟩
 ·show((calls.map _).length:Int)=c.t;rw[dD];exact hn
 ·show kK ((calls.map _).map _)+0=_;rw[List.map_map,Int.add_zero];rfl
 ·intro t u hu;have hu:(calls.map (λl=>(⟨l,none,0,0,0⟩:Z.Th)))[t]?=some u:=hu;rw[jE]at hu;cases hl:calls[t]? with
  |none=>rw[hl]at hu;cases hu
  |some l=>
   rw[hl]at hu;obtain rfl:=eQ hu;exact⟨hc l (wz hl),iu _,λm k e=>by cases e⟩
 ·intro j r hj;cases hj
 ·intro i j ri rj hi;cases hi
 ·intro x hx;cases hx
 ·intro j r hj;cases hj
end
end Go.Proofs.YtolkmchicplaoaaGreat
namespace Go.Proofs.YtolkmchicplaoaaGreat
open Go.RowKit Go.aS Go.aS.I_ Go.aS.Y Go.aS.C
def BK (w a b):(binOp .neq 68 (.agg #[U a,U b]) (.agg #[U a,U b])).run Tryz.prog w= .ok (.bool false) w:=by
 have h2:=Tryz.underlying68;have h4:=Tryz.underlying26;have p2:Tryz.prog.stoodInHeld 68=false:=by kernel_rfl
 simp only[run_neq_struct];rw[run_equalIn_struct w 9999 68 _ _ (by unfold Program.fieldsOf;rw[h2]) p2];simp[Program.fieldsOf,h2,h4,p2,Op.eqFields,go_sem]
def Wz {c ai calls n}(h:D9 c ai calls n=true):Y.Ok c∧(∀p∈ai,p.length≤40)∧(∀l∈calls,l.length≤4)∧c.f≤100∧c.t≤3∧ai.length≤8∧(calls.length:Int)=c.t:=by
 unfold D9 nT Y.right at h;simp only[eO,gG,mC]at h;obtain⟨⟨⟨⟨⟨⟨⟨h1,h2⟩,h3⟩,h4⟩,h5⟩,h6⟩,h7⟩,h8⟩:=h;exact⟨h3,h1,h2,h4,h5,h6,h7⟩
def am1 {calls:List (List K.Call)}(h:∀l∈calls,l.length≤4)(hn:calls.length≤3):kK (calls.map (λl=>(l.length:Int)))≤12∧0≤kK (calls.map (λl=>(l.length:Int))):=by
 have h1:=Ee (B:=4) (calls.map (λl=>(l.length:Int))) (λx hx=>by
  rw[mE]at hx;obtain⟨l,hl,rfl⟩:=hx;have:=h l hl;omega)
 rw[dD]at h1;have h2:=Ef (calls.map (λl=>(l.length:Int))) (λx hx=>by rw[mE]at hx;obtain⟨l,_,rfl⟩:=hx;omega);omega
def WA (x)(h0:0≤x)(h1:x≤1000000):GP x:=by unfold GP;simp[Lit.wf,IntKind.min,IntKind.max,IntKind.signed,IntKind.bits];omega
def NB {code}(h:I_.reads code=true){i}(hi:i∈code):JZ i:=by
 unfold I_.reads at h;rw[eO,mC]at h;have:=h.1 i hi;have h2:I_.writes i.op=false:=by simpa using this
 unfold I_.writes at h2;have:=uL h2;unfold JZ;omega
def WB {c m}(h:QM c m){p}(hp:p<(Y.size c).toNat)(hk:(Jg c p).1≠3):(lW m p).1=(lW (H.ju c) p).1:=by
 have h1:=h.as_ p (by
  unfold Jg at hk;unfold jt;rw[aq (by omega)]at hk;rw[aB (by omega)];exact hk)
 have hl:=h.len;have hb:(H.ju c).cells.length=(Y.size c).toNat:=oq c _;unfold lW;rw[aB ⟨by omega,by omega⟩,aB ⟨by omega,by omega⟩];show m.at ((p:Int).toNat)=_;rw[dU];exact h1
structure au9 (c:Y.cA)(ai:List (List In))(s:Z.St):Prop where
 mem:QM c s.mem
 done:∀r∈s.aM,r.done=true∧r.steps≤2+3*c.f∧0≤r.steps
 rows:s.rows.length<20
 fits:Or.fits s.aM (Or.sort s.rows)=0
 rep:Or.replay c ai s.aM (Or.sort s.rows)=(A1,0)
 news:∀x∈Or.sort s.rows,x.news=[]
 rc:∀r∈s.aM,jr r.call∧(0≤r.aw∧r.aw≤1000)∧(0≤r.tag∧r.tag≤100000)
 rw_:∀x∈Or.sort s.rows,(0≤x.aw∧x.aw≤1000)∧(0≤x.tag∧x.tag≤100000)
def NC {c}(aE:Y.Ok c){ai}(hP:Ju ai)(hU:PU ai){T}(hT:T≤12)(hT0:0≤T)(hf:c.f≤100){s}(h:QZ c ai T 0 s)(hI:SI c ai c.fi s)(hr:∀t:Nat,(t:Int)<c.t→Rest s t):au9 c ai s:=by
 have kB:=h.tY aE;have J0:=aE.f1;have hp:s.aK<65536:=by
  have:T*(2+3*c.f)≤12*(2+3*c.f):=CU hT (by omega);omega
 have hid:∀t:Nat,(t:Int)<c.t→Z.idle s t=true:=λt ht=>by
  rcases hr t ht with h1|h1
  ·exact h1
  ·omega
 have nR:=h.Wy;have tm:∀r∈s.aM,jr r.call∧(0≤r.aw∧r.aw≤1000)∧(0≤r.tag∧r.tag≤100000):=by
  intro r hr;obtain⟨j,hj,e⟩:=qO hr;obtain⟨⟨t,u,a1,a2,a3,a4⟩,a5,-⟩:=h.aM j r (by rw[cy hj,e]);have h1:=(dE.1 a1).1;have h2:=h.n;have h3:=aE.t8;have h4:=(hI.th t u a1).count;exact⟨a5,by omega,by omega⟩
 refine⟨h.mem,λr hr=>?_,by omega,h.fits,h.replay aE hP hU,h.news,tm,?_⟩
 ·have h1:=h.SM hid r hr;obtain⟨j,hj,e⟩:=qO hr;exact⟨h1.1,h1.2,(h.aM j r (by rw[cy hj,e])).2.2.1⟩
 ·intro x hx;obtain⟨_,j,r,a1,a2,a3,a4,-⟩:=h.rows x ((Or.kx s.rows).mem_iff.1 hx);have:=tm r (wz a1);rw[a3,a4];exact this.2
def ND {w c}(sZ:0≤c.fi){pv kv sv aO wi ai calls aK}(hp:yH gl 5 w pv aO ai)(hk:yH iw 5 w kv wi calls)(hA:dB CK 1 w sv aK)(B5:ai.length≤maxLen)(fu:calls.length≤maxLen)(AX:aK.length≤maxLen)(hU:PU ai)(hC:∀l∈calls,∀x∈l,jr x):
 ba 5 #[db c,pv,kv,sv] w (.bool true):=by
 obtain⟨sa,sc,rfl⟩:=hA.len;obtain⟨pa,pc,rfl⟩:=hp.row.len;have HSO:=aa (λw=>Nr w);have HFW:=aa (fun(w':World) (f:Fr [] w w')=>Wo (c:=c) (n:=aK.length) (sa:=sa) (sc:=sc) (hp.fr f) (hk.fr f) B5 fu);by_cases EF:D9 c ai calls aK.length=true;rotate_left
 ·have hff:D9 c ai calls aK.length=false:=by simpa using EF
  rw[hff]at HFW;clear hff EF hU hC AX fu B5 hk hp hA sZ;rw[show db c= .agg (gT c).toArray from rfl]at*;have qK:(gT c).length=6:=rfl;have HS:=aa ((Sep.nil (Fr.refl [] w)).new 31 (gT c));generalize gT c=cl at*;delta ba;go_in;go_wp2_with fail;generalize World.alloc _ _=w1 at HS⊢;generalize w.heap.size=cb at HS⊢;refine(HSO.out _).kq HS λw2 HS=>?_;go_wp2_with(refine ay 31 _ rfl rfl _ 0 rfl cl _ (HS.ar 0 rfl).range Tryz.underlying31 rfl (by rw[qK];kernel_rfl) ?_);refine(HFW.out _ HS.fr).kk λw3 hf=>?_;have HF:=aa (HS.fr0 hf).fr;clear hf;go_wp2_with fail;go_ret;exact⟨rfl,HF.out⟩
 obtain⟨aE,ab5,hk4,am2,ht3,hp8,Yg⟩:=Wz EF;rw[EF]at HFW;have hPA:cL w (.slice pa aO.length pc) aO ai:=⟨hp.row,hp.len,λk hk=>⟨hp.each k hk,by have:=ab5 _ (cJ hk);omega,λi hi=>hU _ (cJ hk) i hi⟩,by omega⟩;have Wp:PI ai:=⟨hU,by omega,λp h=>by have:=ab5 p h;omega⟩;have uX:c.fi≤1000000000000000:=by have:=aE.fl;have:=aE.l47;omega
 have hsi:=SI.start aE sZ (ai:=ai) Yg hC;have Ξ:aO.length≤8:=by rw[hp.len];exact hp8
 have DE:Hid (aO.length=ai.length):=hp.len;have hT:=am1 hk4 (by omega);have Xf:=aa (fun(w':World) (f:Fr [] w w') (hQ:Ju ai)=>Jo aE (hPA.fr f) (wi:=wi) (calls:=calls) ⟨(hk.fr f).row,(hk.fr f).len,(hk.fr f).each⟩ (by omega) Yg (λl hl=>by have:=hk4 l hl;omega) Wp uX hsi (hA.fr f) AX (Φ:=QZ c ai (kK (calls.map (λl=>(l.length:Int)))) 0) (QZ.start aE Yg hC) (λs t h=>h.pick aE sZ hQ hU t));have HFN:=aa (fun(w':World) (R:List a_) (b:Nat) (s:Z.St) (hQ:Ju ai) (hI:SI c ai c.fi s) (hZ:QZ c ai (kK (calls.map (λl=>(l.length:Int)))) 0 s) (h:Sep w w' (dx c ai b s::R))=>Jr aE Wp uX hI hZ (λs t h=>h.pick aE sZ hQ hU t) h);have Er:=aa (fun(s:Z.St) (hQ:Ju ai) (hI:SI c ai c.fi s) (hZ:QZ c ai (kK (calls.map (λl=>(l.length:Int)))) 0 s) (hr:∀t:Nat,(t:Int)<c.t→Rest s t)=>NC aE hQ hU hT.1 hT.2 am2 hZ hI hr);have Λ:=aa hPA;clear Wp uX hsi hT Yg hk4 ab5 hp8 EF hk hp fu B5 AX hA ht3 hPA;have HU:=aa hU;have Ni:=aa aE;clear hU hC;rw[show db c= .agg (gT c).toArray from rfl]at*;have qK:(gT c).length=6:=rfl;have W9:(gT c)[3]?=some (I c.f):=rfl;have HS:=aa ((Sep.nil (Fr.refl [] w)).new 31 (gT c));obtain⟨cl,mr⟩:∃l,gT c=l:=⟨_,rfl⟩;have Eo:=aa mr;rw[mr]at qK W9 HS HFW Xf HFN;simp only[mr];clear mr;obtain⟨pn,xy⟩:∃n,aO.length=n:=⟨_,rfl⟩;have Gm:=aa xy;simp only[xy]at HFW Xf Ξ DE⊢;have Λ:Hid (cL w (.slice pa pn pc) aO ai):=aa (by rw[←xy];exact Λ.out);clear xy;delta ba;go_in;go_wp2_with fail;generalize World.alloc _ _=w1 at HS⊢;generalize w.heap.size=cb at HS⊢;refine(HSO.out _).kq HS λw2 HS=>?_;go_wp2_with(refine ay 31 _ rfl rfl _ 0 rfl cl _ (HS.ar 0 rfl).range Tryz.underlying31 rfl (by rw[qK];kernel_rfl) ?_);refine(HFW.out _ HS.fr).kq HS λw3 HS=>?_;clear HFW HSO;go_wp2_with fail;go_loopg [8,37] pn (λg v8 vi wr=>∃j:Nat,g+j=pn∧v8= .bool false∧vi=I (j:Int)∧(∀k (h:k<ai.length),k<j→I_.right ai[k]=true→I_.reads ai[k]=true)∧Sep w wr [aJ cb 31 cl])
 case atStart=>exact⟨0,by omega,rfl,rfl,λk h h0=>absurd h0 (by omega),HS.out⟩
 case round=>
  clear HS;obtain⟨j,yy,rfl,rfl,hq,hS⟩:=hrel;have HS:=aa hS;have HQ:=aa hq;clear hS hq;by_cases hj:j<pn
  ·have s9:(j:Int)<(pn:Int):=by omega
   have FG:j<aO.length:=by have:=Gm.out;omega
   have Sg:j<ai.length:=by have:=DE.out;omega
   have ab6:=Λ.fr HS.fr;obtain⟨xa,rfl,GD,xX,-⟩:=ab6.row.at FG;rw[lj]at xX;have hx:=xX _ rfl;have Fy:=ab6.each j Sg;obtain⟨la,lc,Ep⟩:=Fy.1.len;rw[Ep]at hx Fy;have HRI:=aa (fun(w':World) (f:Fr [] wr w')=>lp w' la ai[j].length lc ai[j] rfl (Fy.fr f));have nX:=aa (fun(w':World) (f:Fr [] wr w')=>ry w' la ai[j].length lc ai[j] rfl (Fy.fr f));have IE:Hid ((I_.right ai[j]=true→I_.reads ai[j]=true)→∀k (h:k<ai.length),k<j+1→I_.right ai[k]=true→I_.reads ai[k]=true):=aa (λh1 k h hk=>by
    by_cases e:k=j
    ·subst e;exact h1
    ·exact HQ.out k h (by omega))
   clear xX Ep Fy ab6;obtain⟨ln,o8⟩:∃ln,ai[j].length=ln:=⟨_,rfl⟩;rw[o8]at hx HRI nX;clear o8;generalize I_.right ai[j]=b1 at*;generalize I_.reads ai[j]=b2 at*;go_wp2_with fail;refine(HRI.out _ (Fr.refl _ _)).kf HS λw4 Xl HS=>?_;clear hx;cases b1 with
   |false=>
    go_wp2_with fail;go_roundg (pn-(j+1))
    case measure=>omega
    case rel=>exact⟨j+1,by omega,rfl,by go_num,IE.out (λh=>by cases h),HS.out⟩
   |true=>
    go_wp2_with fail;refine(nX.out _ Xl.out).kq HS λw5 HS=>?_;cases b2 with
    |true=>
     go_wp2_with fail;go_roundg (pn-(j+1))
     case measure=>omega
     case rel=>exact⟨j+1,by omega,rfl,by go_num,IE.out (λ_=>trivial),HS.out⟩
    |false=>
     go_wp2_with fail;go_ret;exact⟨rfl,HS.fr⟩
  ·obtain rfl:j=pn:=by omega
   have hQP:Ju ai:=λp hp=>by
    obtain⟨k,hk,rfl⟩:=qO hp;exact HQ.out k hk (by have:=DE.out;omega)
   have HQP:=aa hQP;clear hQP HQ;go_wp2_with(refine ay 31 _ rfl rfl _ 0 rfl cl _ (HS.ar 0 rfl).range Tryz.underlying31 rfl (by rw[qK];kernel_rfl) ?_);refine(Xf.out _ HS.fr HQP.out).mono ?_;rintro r w4 ⟨b,s0,rfl,hZ0,UP,h4⟩;have HS:Hid (Sep w w4 [dx c ai b s0,aJ cb 31 cl]):=aa (HS.fresh h4.jm);clear h4 Xf;go_wp2_with(refine ay 31 _ rfl rfl _ 0 rfl cl _ (HS.ar 1 rfl).range Tryz.underlying31 rfl (by rw[qK];kernel_rfl) ?_);refine(HFN.out _ _ b s0 HQP.out UP hZ0 HS.out).mono ?_;rintro r w5 ⟨rfl,s,hZ,hI,hr,h5⟩;have HS:=aa h5;have HE:=aa (Er.out s HQP.out hI hZ hr);have HSI:=aa hI;clear h5 HFN Er hZ hI hr hZ0 UP;have GQ:=aa (λw'=>u5 w' c Ni.out);have Kq:=aa (λw'=>zx w' c Ni.out);have rG:=aa (λp=>AH Ni.out p);have S0:=aa (fun(w':World) bb vc vt (h:gD w' bb vc vt (H.ju c))=>EB w' bb vc vt _ h);have yG:=aa (fun(w':World) (m:M) mb vc vt (h:gD w' mb vc vt m) (p:Int)=>EC w' mb vc vt m p h);have Tc:=aa (fun(w':World) (R:List a_) (h:Sep w w' (dx c ai b s::R))=>RK h);have Ej:(H.ju c).cells.length=(Y.size c).toNat:=oq c _;have av0:=(row Ni.out).2.2.2.2.2.2.2.2.2.2.2.2;obtain⟨nz,Yo⟩:∃n:Nat,(H.ju c).cells.length=n:=⟨_,rfl⟩;have HNZ:=aa (Yo.symm.trans Ej);rw[Ej]at Yo;have aA3:nz≤18100:=by omega
   have S0:Hid (∀(w':World) bb vc vt (_:gD w' bb vc vt (H.ju c)),Calls Tryz.prog 23 #[O bb] w' λe qe=>e= .returned (I nz)∧w'=qe):=aa (λw' bb vc vt h=>by rw[←Yo,←Ej];exact S0.out w' bb vc vt h);clear Ej av0 Yo;have Ta:Hid (∀p:Nat,p<nz→(Jg c p).1≠3→(lW s.mem p).1=(lW (H.ju c) p).1):=aa (λp hp hk=>WB HE.out.mem (by rw[←HNZ.out];exact hp) hk);rw[show db c= .agg cl.toArray from by rw[←Eo.out];rfl]at GQ;unfold lC at rG;rw[show aY c= .agg (ae c).toArray from rfl]at*;have AG:(ae c).length=24:=rfl;have GL:∀v∈ae c,v.oneCell'=true:=by unfold ae;simp[Value.oneCell']
   generalize ae c=cs at*;obtain⟨x0,x1,x2,x3,x4,x5,x6,x7,x8,x9,l4,l5,l6,l7,l8,l9,l_,mf,mh,mi,mj,mm,mo,mq,rfl⟩:=rQ AG;obtain⟨M0,hM0⟩:∃M0,H.ju c=M0:=⟨_,rfl⟩;rw[hM0]at Kq S0 Ta;clear hM0;go_wp2_with(refine ay 31 _ rfl rfl _ 0 rfl cl _ (HS.ar 1 rfl).range Tryz.underlying31 rfl (by rw[qK];kernel_rfl) ?_);refine(GQ.out _).kk λw6 hf=>?_;have HS:=aa ((HS.fr0 hf).new 58 [x0,x1,x2,x3,x4,x5,x6,x7,x8,x9,l4,l5,l6,l7,l8,l9,l_,mf,mh,mi,mj,mm,mo,mq]);clear hf GQ;go_wp2_with(first|(refine dV 58 _ _ rfl _ _ rfl rfl rfl (by kernel_rfl) rfl (iX GL) ?_)|(refine ay 58 _ rfl rfl _ 0 rfl [x0,x1,x2,x3,x4,x5,x6,x7,x8,x9,l4,l5,l6,l7,l8,l9,l_,mf,mh,mi,mj,mm,mo,mq] _ (HS.ar 0 rfl).range Tryz.underlying58 rfl (by kernel_rfl) ?_));generalize World.alloc w6 _=w7 at*;generalize w6.heap.size=bm at*;refine(Kq.out _).mono ?_;rintro r w8 ⟨bb,rfl,h8⟩;have HS:=aa (HS.fresh h8.jm);clear h8 Kq;go_wp2_with fail;obtain⟨-,vc,vt,hM⟩:=kY HS.out 0 rfl;refine(S0.out _ _ _ _ hM).mono ?_;rintro r w9 ⟨rfl,rfl⟩;clear hM;go_wp2_with fail;go_loopg [8,68] nz (λg v8 vi wr=>∃i:Nat,g+i=nz∧v8= .bool false∧vi=I (i:Int)∧Sep w wr [dP bb M0,aJ bm 58 [x0,x1,x2,x3,x4,x5,x6,x7,x8,x9,l4,l5,l6,l7,l8,l9,l_,mf,mh,mi,mj,mm,mo,mq],dx c ai b s,aJ cb 31 cl])
   case atStart=>exact⟨0,by omega,rfl,rfl,HS.out⟩
   case round=>
    clear HS;obtain⟨i,hgi,rfl,rfl,hS⟩:=hrel;have HS:=aa hS;clear hS;by_cases hi:i<nz
    ·have SX:(i:Int)<(nz:Int):=by omega
     have HEI:=aa (Ta.out i hi);have HWI:=aa (rG.out (i:Int));go_wp2_with fail;obtain⟨-,vc,vt,hM⟩:=kY HS.out 0 rfl;refine(yG.out _ _ _ _ _ hM (i:Int)).kq HS λw9 HS=>?_;clear hM;generalize lW M0 (i:Int)=pp at*;obtain⟨⟨a0,a1⟩,a2⟩:=pp;dsimp only at HEI⊢;have HS:=aa (HS.new 68 [U a0,U a1]);have GC:∀z9∈ [U a0,U a1],z9.oneCell'=true:=by simp[Value.oneCell']
     go_wp2_with(refine dV 68 _ _ rfl _ _ rfl rfl rfl (by kernel_rfl) rfl (iX GC) ?_);generalize World.alloc w9 _=Ov at*;generalize w9.heap.size=b1 at*;refine(Tc.out _ _ (HS.pull 3 rfl)).mono ?_;rintro r X0 ⟨hf,mb,vc,vt,rfl,hM,-⟩;have HS:=aa (HS.fr0 hf);clear hf;go_wp2_with fail;refine(yG.out _ _ _ _ _ hM (i:Int)).kq HS λX2 HS=>?_;clear hM GC;generalize lW s.mem (i:Int)=qq at*;obtain⟨⟨b0,b9⟩,b2⟩:=qq;dsimp only at HEI⊢;have HS:=aa (HS.new 68 [U b0,U b9]);have GC:∀z9∈ [U b0,U b9],z9.oneCell'=true:=by simp[Value.oneCell']
     go_wp2_with(first|(refine dV 68 _ _ rfl _ _ rfl rfl rfl (by kernel_rfl) rfl (iX GC) ?_)|(refine ay 58 _ rfl rfl _ 0 rfl [x0,x1,x2,x3,x4,x5,x6,x7,x8,x9,l4,l5,l6,l7,l8,l9,l_,mf,mh,mi,mj,mm,mo,mq] _ (HS.ar 3 rfl).range Tryz.underlying58 rfl (by kernel_rfl) ?_));generalize World.alloc X2 _=X3 at*;generalize X2.heap.size=b3 at*;refine(HWI.out _).kq HS λw14 HS=>?_;clear GC HWI;generalize Jg c (i:Int)=kp at*;obtain⟨kd,ki,kk⟩:=kp;dsimp only at HEI⊢;by_cases hk:kd=3
     ·have e3:(kd !=3)=false:=by simp[hk]
      clear hk HEI;go_wp2_with fail;go_roundg (nz-(i+1))
      case measure=>omega
      case rel=>exact⟨i+1,by omega,rfl,by go_num,HS.tail.tail⟩
     ·have e3:(kd !=3)=true:=by simpa using hk
      obtain⟨rfl,rfl⟩:=Prod.mk.inj (HEI.out hk);have kL:=λw=>BK w b0 b9;clear hk HEI;go_wp2_with(first|refine ay 68 _ rfl rfl b3 0 rfl [U b0,U b9] _ (HS.ar 0 rfl).range Tryz.underlying68 rfl (by kernel_rfl) ?_|refine ay 68 _ rfl rfl b1 0 rfl [U b0,U b9] _ (HS.ar 1 rfl).range Tryz.underlying68 rfl (by kernel_rfl) ?_);clear kL;go_roundg (nz-(i+1))
      case measure=>omega
      case rel=>exact⟨i+1,by omega,rfl,by go_num,HS.tail.tail⟩
    ·obtain rfl:i=nz:=by omega
     have hI:=HSI.out;have nR:=hI.aM;have tK:=hI.aK;have HRC:=aa (fun(w':World) (R:List a_) (h:Sep w w' (dx c ai b s::R))=>xo (by omega) h);have lI:=aa HE.out.done;have HTF:=aa (fun(w':World) (R:List a_) (h:Sep w w' (dx c ai b s::R))=>Nu (pv:= .slice pa j pc) (aO:=aO) Ni.out HSI.out HE.out.rows HE.out.fits HE.out.rep HE.out.news (λw1 f=>Λ.fr f) HU.out (λp hp hr i hi=>NB (HQP.out p hp hr) hi) (λx hx=>⟨WA _ (HE.out.rw_ x hx).1.1 (by have:=(HE.out.rw_ x hx).1.2;omega),WA _ (HE.out.rw_ x hx).2.1 (by have:=(HE.out.rw_ x hx).2.2;omega)⟩) (λx hx=>⟨(HE.out.rc x hx).1.1,(HE.out.rc x hx).1.2,WA _ (HE.out.rc x hx).2.1.1 (by have:=(HE.out.rc x hx).2.1.2;omega),WA _ (HE.out.rc x hx).2.2.1 (by have:=(HE.out.rc x hx).2.2.2;omega)⟩) h);have Kb:=aa (show c.f≤1000∧1≤c.f from⟨Ni.out.zj,Ni.out.f1⟩);generalize z5:s.aM.length=rn at*;have z6:=aa z5;clear z5 hI Tc yG S0 rG Ta HNZ;go_wp2_with fail;refine(HRC.out _ _ (HS.pull 2 rfl)).mono ?_;rintro r w9 ⟨iV,rfl,hF⟩;obtain⟨ra,rcc,rfl⟩:=hF.form;have HS:=aa (HS.fresh hF);clear hF HRC;go_wp2_with fail;go_loopg [8,102] rn (λg v8 vi wr=>∃q:Nat,g+q=rn∧v8= .bool false∧vi=I (q:Int)∧Sep w wr [aU 0 55 13 (.slice ra rn rcc) rn (flat eI s.aM),dx c ai b s,aJ cb 31 cl])
     case atStart=>exact⟨0,by omega,rfl,rfl,HS.sub [0,3,4] rfl (by decide)⟩
     case round=>
      clear HS;obtain⟨q,hgq,rfl,rfl,hS⟩:=hrel;have HS:=aa hS;clear hS;by_cases hq:q<rn
      ·have hqi:(q:Int)<(rn:Int):=by omega
       have hql:q<s.aM.length:=by have:=z6.out;omega
       have qz:=HS.row 0 rfl;rw[←z6.out]at qz;obtain⟨xa,rfl,GD,c0,c1⟩:=(dB.kG jD qz).at hql;obtain⟨p5,gx,av1⟩:=lI.out _ (cJ hql);generalize s.aM[q]=rr at*;obtain⟨av2,av3,⟨am3,Ky⟩,am4,rto,SN,iM,rrc,rrv⟩:=rr;dsimp only at p5 gx av1;subst p5;unfold eI at c0 c1;dsimp only at c0 c1;have e0:=c0 _ rfl;have e1:=c1 0 _ rfl;have e2:=c1 1 _ rfl;have e3:=c1 2 _ rfl;have e4:=c1 3 _ rfl;have e5:=c1 4 _ rfl;have e6:=c1 5 _ rfl;have e7:=c1 6 _ rfl;have e8:=c1 7 _ rfl;have e9:=c1 8 _ rfl;have o7:=c1 9 _ rfl;have qM:=c1 10 _ rfl;have qN:=c1 11 _ rfl;clear c0 c1 qz;generalize Ky.getD 0 0=ra0 at*;generalize Ky.getD 1 0=ra1 at*;generalize Ky.getD 2 0=ra2 at*;generalize Ky.getD 3 0=ra3 at*;have f3:=(HS.ar 2 rfl).aT 3 W9;have fl:=(HS.ar 2 rfl).lt;have Be:=Kb.out;have JV:IntKind.i64.wrap (3*c.f)=3*c.f:=bf _ (by omega) (by omega);have UM:IntKind.i64.wrap (2+3*c.f)=2+3*c.f:=bf _ (by omega) (by omega);have hgt:¬(2+3*c.f<SN):=by omega
       go_wp2_with fail;go_roundg (rn-(q+1))
       case measure=>omega
       case rel=>exact⟨q+1,by omega,rfl,by go_num,(HS.new 55 [I av2,I av3,I am3,U ra0,U ra1,U ra2,U ra3,I am4,I rto,I SN,.bool true,I rrc,U rrv]).tail⟩
      ·obtain rfl:q=rn:=by omega
       clear lI;go_wp2_with(refine ay 31 _ rfl rfl _ 0 rfl cl _ (HS.ar 2 rfl).range Tryz.underlying31 rfl (by rw[qK];kernel_rfl) ?_);rw[show db c= .agg cl.toArray from by rw[←Eo.out];rfl]at HTF;refine(HTF.out _ _ (HS.pull 1 rfl)).mono ?_;rintro r w9 ⟨sb,rfl,hF⟩;have HF:=aa hF;clear hF;go_wp2_with fail;go_ret;exact⟨rfl,HF.out⟩
end Go.Proofs.YtolkmchicplaoaaGreat
namespace Go.Proofs.YtolkmchicplaoaaGreat
def own:ownKnob Tryz.prog.godebug=none:=by kernel_rfl
def laidOut:laidOutB Tryz.prog=true:=by kernel_rfl
end Go.Proofs.YtolkmchicplaoaaGreat
namespace Go.aS
open Go.RowKit Go.Deep Go.ChangeShapes Go.WideShapes Go.ChangeAt
section
variable {H:Type} {enc:TypeId×Value→H} {P:Program} {w:World} {base:Nat} {spare:Nat→Bool} {held:Bool}
def trod_array {t e:TypeId}{k fuel cs}{x:DataW H×List MemPlace}(ht:P.underlying t=some (.array k e))(h:DataW.trod enc P w base spare held fuel t cs=some x):
 ∃n,cs.length=P.cellsOf t∧∀i,i<k→∃y,DataW.trod enc P w base spare held n e ((cs.drop (i*P.cellsOf e)).take (P.cellsOf e))=some y:=by
 cases fuel with
 |zero=>simp[DataW.trod]at h
 |succ n=>
  unfold DataW.trod at h;rw[ht]at h;split at h<;>simp_all;obtain⟨hl,xs,hp,hd⟩:=h;refine⟨n,λi hi=>?_⟩;have h1:=mapM_some_get hp i i (by rw[List.getElem?_range hi]);have h2:=mapM_some_length hp;rw[List.length_range]at h2;rw[cy (show i<xs.length by omega)]at h1;exact⟨_,_,h1⟩
def ab7 {T:Type}{en:T→List Value}{n}{rE:T→Prop}{t e:TypeId}(ht:P.underlying t=some (.slice e))(hc:P.cellsOf e=n)(h0:0<n)(hen:∀m GF x,GF.length=n→DataW.trod enc P w base spare held m e GF=some x→∃q:T,GF=en q∧rE q)
 {fuel cs}{x:DataW H×List MemPlace}(h:DataW.trod enc P w base spare held fuel t cs=some x):
 ∃v l,cs=[v]∧dB en n w v l∧(∀q∈l,rE q)∧l.length≤maxLen:=by
 rcases open_slice ht h with⟨j8,_⟩|⟨b,len,cap,m,n',D,Pl,j8,_,hl,hm,Lx,_,hi⟩
 ·exact⟨_,[],j8,⟨_,_,rfl,cE _,.inl rfl⟩,by simp,by simp⟩
 ·have zE:len≤m:=by rw[Lx];split<;>omega
  have each:∀i,i<len→∃q:T,rE q∧∀j u,(en q)[j]?=some u→w.cell? (b.add (i*n+j))=some u:=by
   intro i qL;obtain⟨GF,h1,h2⟩:=hi i (by omega);obtain⟨_,hlen,jT⟩:=World.cells?_some h1;obtain⟨q,rfl,hq⟩:=hen _ GF _ (by rw[hlen,hc]) h2;refine⟨q,hq,λj u hj=>?_⟩;have mW:j<n:=by rw[←hc,←hlen];exact(dE.1 hj).1
   have:=jT j (by omega);rw[hc,add_add]at this;rw[this,←hj]
  by_cases S3:len=0
  ·subst S3;exact⟨_,[],j8,⟨_,_,rfl,cE _,.inl rfl⟩,by simp,by simp⟩
  ·obtain⟨q0,_,_⟩:=each 0 (by omega);have:∃q:Nat→T,∀i,i<len→rE (q i)∧∀j u,(en (q i))[j]?=some u→w.cell? (b.add (i*n+j))=some u:=by
    classical
    refine⟨λi=>if h:i<len then(each i h).choose else q0,λi hi=>?_⟩;simp only[hi,dif_pos];exact(each i hi).choose_spec
   obtain⟨q,hq⟩:=this;refine⟨_,(List.range len).map q,j8,⟨some b,cap,by simp,by simpa using hl,.inr ⟨b,rfl,?_,λi hi j u hj=>?_⟩⟩,λe he=>?_,by simp;omega⟩
   ·obtain⟨GF,h1,h2⟩:=hi 0 (by omega);obtain⟨_,hlen,jT⟩:=World.cells?_some h1;have:=jT 0 (by omega);rw[add_add]at this;have h5:=wq w _ (this.trans (cy (by omega)));simpa[Addr.add]using h5
   ·have BM:i<len:=by simpa using hi
    exact(hq i BM).2 j u (by simpa using hj)
   ·simp only[mE,oF]at he;obtain⟨i,hi3,rfl⟩:=he;exact(hq i hi3).1
end
end Go.aS
namespace Go.Proofs.YtolkmchicplaoaaGreat
open Go.RowKit Go.aS Go.aS.I_ Go.aS.Y Go.Deep Go.ChangeShapes Go.WideShapes Go.ChangeAt
def NF {x}(h:(Lit.int .u64 x).wf=true):W.U_ x:=by
 simp[Lit.wf,IntKind.min,IntKind.max,IntKind.signed,IntKind.bits]at h;unfold W.U_;omega
section
variable {H:Type} {enc:TypeId×Value→H} {w:World} {base:Nat} {spare:Nat→Bool} {held:Bool}
def ab8 {m cs}{x:DataW H×List MemPlace}(hl:cs.length=5)(h:DataW.trod enc Tryz.prog w base spare held m 28 cs=some x):∃q:In,cs=gl q∧W.U_ q.bN:=by
 have hk:=zf 5 28 [.int .i64,.int .i64,.int .i64,.int .i64,.int .u64] _ _ _ (by kernel_rfl) (by kernel_rfl) h;obtain⟨_,r0,rfl,⟨x0,rfl,g0⟩,n0⟩:=uD.cons hk;obtain⟨_,r1,rfl,⟨x1,rfl,g1⟩,n1⟩:=uD.cons n0;obtain⟨_,r2,rfl,⟨x2,rfl,g2⟩,n2⟩:=uD.cons n1;obtain⟨_,r3,rfl,⟨x3,rfl,g3⟩,n3⟩:=uD.cons n2;obtain⟨_,r4,rfl,⟨x4,rfl,g4⟩,n4⟩:=uD.cons n3;obtain rfl:=uD.none n4;exact⟨⟨x0,x1,x2,x3,x4⟩,rfl,NF g4⟩
def ab9 {m cs}{x:DataW H×List MemPlace}(h:DataW.trod enc Tryz.prog w base spare held m 3 cs=some x):∃q:Int,cs=CK q∧True:=by
 obtain⟨n,rfl,-,-⟩:=qR Tryz.underlying3 h;exact⟨n,rfl,trivial⟩
def WC {m cs}{x:DataW H×List MemPlace}(hl:cs.length=5)(h:DataW.trod enc Tryz.prog w base spare held m 38 cs=some x):∃q:K.Call,cs=iw q∧jr q:=by
 obtain⟨c0,c1,c2,c3,c4,rfl⟩:∃c0 c1 c2 c3 c4,cs=[c0,c1,c2,c3,c4]:=by
  match cs,hl with
  |[c0,c1,c2,c3,c4],_=>exact⟨_,_,_,_,_,rfl⟩
 obtain⟨xs,n,-,-,-,GD,hf⟩:=DataW.trod_struct Tryz.underlying38 h;have h0:=hf 0 _ rfl;have h1:=hf 1 _ rfl;rw[cy (show 0<xs.length by rw[GD];decide)]at h0;rw[cy (show 1<xs.length by rw[GD];decide)]at h1;have k0:Tryz.prog.cellsOf 3=1:=by kernel_rfl
 have k1:Tryz.prog.cellsOf 36=4:=by kernel_rfl
 have k2:Tryz.prog.cellsOf 26=1:=by kernel_rfl
 replace h0:DataW.trod enc Tryz.prog w base spare held n 3 ((List.drop 0 [c0,c1,c2,c3,c4]).take (Tryz.prog.cellsOf 3))=_:=h0;replace h1:DataW.trod enc Tryz.prog w base spare held n 36 ((List.drop 1 [c0,c1,c2,c3,c4]).take (Tryz.prog.cellsOf 36))=_:=h1;rw[k0]at h0;rw[k1]at h1;obtain⟨p,e0,-,-⟩:=qR Tryz.underlying3 h0;obtain⟨n2,-,ha⟩:=trod_array Tryz.underlying36 h1;rw[k2]at ha;obtain⟨y0,a0⟩:=ha 0 (by decide);obtain⟨y1,a1⟩:=ha 1 (by decide);obtain⟨y2,a2⟩:=ha 2 (by decide);obtain⟨y3,a3⟩:=ha 3 (by decide);obtain⟨z0,f0,-,g0⟩:=qR Tryz.underlying26 a0;obtain⟨z1,f1,-,g1⟩:=qR Tryz.underlying26 a1;obtain⟨z2,f2,-,g2⟩:=qR Tryz.underlying26 a2;obtain⟨z3,f3,-,g3⟩:=qR Tryz.underlying26 a3;simp at e0 f0 f1 f2 f3;subst e0 f0 f1 f2 f3;refine⟨⟨p,[z0,z1,z2,z3]⟩,rfl,rfl,λr hr=>?_⟩;simp only[oG,uP,or_false]at hr;rcases hr with rfl|rfl|rfl|rfl
 ·exact NF g0
 ·exact NF g1
 ·exact NF g2
 ·exact NF g3
def XQ {T:Type}{en:T→List Value}{n}{rE:T→Prop}{t e i:TypeId}(ht:Tryz.prog.underlying t=some (.slice e))(hc:Tryz.prog.cellsOf e=1)(hte:Tryz.prog.underlying e=some (.slice i))(ko:Tryz.prog.cellsOf i=n)(h0:0<n)(hen:∀m GF x,GF.length=n→DataW.trod enc Tryz.prog w base spare held m i GF=some x→∃q:T,GF=en q∧rE q)
 {fuel a len cap}{x:DataW H×List MemPlace}(h:DataW.trod enc Tryz.prog w base spare held fuel t (Value.slice a len cap).cells.toList=some x):
 ∃(l:List (List T)),(∃vs,yH en n w (.slice a len cap) vs l∧∀p∈l,∀q∈p,rE q)∧len=l.length∧l.length≤maxLen:=by
 obtain⟨v,L,hv,h1,h2,h3⟩:=ab7 (en:=fun(q:Value×List T)=> [q.1]) (n:=1) (rE:=λq=>dB en n w q.1 q.2∧∀y∈q.2,rE y) ht hc (by decide) (λm GF x hl hx=>by
  obtain⟨v,l,e1,e2,e3,-⟩:=ab7 hte ko h0 hen hx;exact⟨(v,l),e1,e2,e3⟩) h
 have hv2:v= .slice a len cap:=by simpa[Value.cells]using hv.symm
 subst hv2;obtain⟨a',tW,e1,e2,e3⟩:=h1;simp only[dk]at e1;obtain⟨rfl,rfl,rfl⟩:=e1;refine⟨L.map (·.2),⟨L.map (·.1),⟨⟨_,_,by rw[dD],by rw[dD];exact e2,?_⟩,by simp,λk hk=>?_⟩,λp hp q hq=>?_⟩,by simp,by simpa using h3⟩
 ·rcases e3 with e3|⟨x,rfl,hx,xL⟩
  ·left;rw[e3];rfl
  ·exact .inr ⟨x,rfl,hx,λi hi j u hj=>xL i (by simpa using hi) j u (by simpa using hj)⟩
 ·rw[dD]at hk;simp only[List.getElem_map];exact(h2 _ (cJ hk)).1
 ·rw[mE]at hp;obtain⟨z,hz,rfl⟩:=hp;exact(h2 z hz).2 q hq
def SO {fuel a len cap}{x:DataW H×List MemPlace}(h:DataW.trod enc Tryz.prog w base spare held fuel 42 (Value.slice a len cap).cells.toList=some x):
 ∃(l:List (List In)),(∃vs,yH gl 5 w (.slice a len cap) vs l∧∀p∈l,∀q∈p,W.U_ q.bN)∧len=l.length∧l.length≤maxLen:=
 XQ Tryz.underlying42 (by kernel_rfl) Tryz.underlying29 (by kernel_rfl) (by decide) (λm GF x hl hx=>ab8 hl hx) h
def SP {fuel a len cap}{x:DataW H×List MemPlace}(h:DataW.trod enc Tryz.prog w base spare held fuel 33 (Value.slice a len cap).cells.toList=some x):
 ∃(l:List (List K.Call)),(∃vs,yH iw 5 w (.slice a len cap) vs l∧∀p∈l,∀q∈p,jr q)∧len=l.length∧l.length≤maxLen:=
 XQ Tryz.underlying33 (by kernel_rfl) Tryz.underlying35 (by kernel_rfl) (by decide) (λm GF x hl hx=>WC hl hx) h
def SQ {fuel a len cap}{x:DataW H×List MemPlace}(h:DataW.trod enc Tryz.prog w base spare held fuel 23 (Value.slice a len cap).cells.toList=some x):
 ∃(l:List Int),dB CK 1 w (.slice a len cap) l∧len=l.length∧l.length≤maxLen:=by
 obtain⟨v,l,hv,h1,-,h3⟩:=ab7 (en:=CK) (n:=1) (rE:=λ_=>True) Tryz.underlying23 (by kernel_rfl) (by decide) (λm GF x hl hx=>ab9 hx) h;have hv2:v= .slice a len cap:=by simpa[Value.cells]using hv.symm
 subst hv2;obtain⟨a',tW,e1⟩:=h1.len;simp only[dk]at e1;exact⟨l,h1,e1.2.1,h3⟩
end
end Go.Proofs.YtolkmchicplaoaaGreat
namespace Go.Proofs.YtolkmchicplaoaaGreat
open Go.ChangeShapes Go.WideShapes Go.ChangeAt Go.RowKit Go.Deep Go.aS
def NG (t b w f fi la v1 v2 v3 l1 l2 l3 W)(sZ:0≤fi)(w1:∃vs,yH I_.gl 5 W v1 vs l1∧∀p∈l1,∀q∈p,Go.aS.W.U_ q.bN)(w2:∃vs,yH iw 5 W v2 vs l2∧∀p∈l2,∀q∈p,jr q)(w3:dB CK 1 W v3 l3)(m1:l1.length≤maxLen)(m2:l2.length≤maxLen)(m3:l3.length≤maxLen):
 ba 5 #[.agg #[I t,I b,I w,I f,U fi,U la],v1,v2,v3] W (.bool true):=by
 obtain⟨vs1,h1,u1⟩:=w1;obtain⟨vs2,h2,u2⟩:=w2;exact ND (c:=⟨t,b,w,f,fi,la⟩) sZ h1 h2 w3 m1 m2 m3 u1 u2
def wc (os:Os)(started:os.Started)(H:Type)(enc:TypeId×Value→H):
 ReturnsInHanded {} Tryz.checked os 5 .any (Rows.wholeQuietSpec.pre6 enc Tryz.prog Tryz.f5 Rows.wholeQuietRow.domain false) (Rows.wholeQuietSpec.post enc Tryz.prog Tryz.f5 false true false false):=by
 refine returnsInHanded_of_change (C:=Tryz.checked) own started (by kernel_rfl) Tryz.func5
  (ChangeSpec.witness6 (enc:=enc) (C:=Tryz.checked) false ⟨#[],#[.agg #[I 0,I 0,I 0,I 0,U 0,U 0],.slice none 0 0,.slice none 0 0,.slice none 0 0],[]⟩ 8 (by kernel_rfl) (by kernel_rfl) (by kernel_rfl) (by kernel_rfl)) ?_
 intro W base args ds gs before XU hW _ _;have ug:∀(j:Nat) t v,Tryz.f5.params[j]?=some t→args[j]?=some v→Value.okWide Tryz.prog W .any base t v:=XU;have hW':=hW;obtain⟨p,q,hA0,hV,rfl,_,_⟩:=hW;have hA:DataW.TrodAll enc Tryz.prog W 0 (λ_=>true) true Tryz.f5.params.toList args.toList ds p:=hA0;rw[Tryz.params5]at hA ug;obtain⟨v0,vs0,d0,ds0,p0,q0,bX,rfl,rfl,h0,r0⟩:=trodAll_cons hA;obtain⟨v1,vs1,d1,ds1,p1,q1,rfl,rfl,rfl,h1,r1⟩:=trodAll_cons r0;obtain⟨v2,vs2,d2,ds2,p2,q2,rfl,rfl,rfl,h2,r2⟩:=trodAll_cons r1;obtain⟨v3,vs3,d3,ds3,p3,q3,rfl,rfl,rfl,h3,r3⟩:=trodAll_cons r2;obtain⟨rfl,rfl,rfl⟩:=trodAll_nil r3;obtain rfl:args=#[v0,v1,v2,v3]:=by cases args;simp_all
 obtain⟨rfl,rfl⟩:=trodVars_none hV;obtain⟨cs0,rfl,sz0⟩:=okWide_struct Tryz.underlying31 (ug 0 31 v0 rfl rfl);have k0:=h0;have lt0:∀x∈p0,x.block<W.heap.size:=by obtain⟨m,hm⟩:=k0;exact DataW.trod_lt m _ _ _ hm
 obtain⟨_,Gh⟩:=h0;have S3:=zf 5 31 [.int .i64,.int .i64,.int .i64,.int .i64,.int .u64,.int .u64] _ _ _ (by kernel_rfl) (by kernel_rfl) Gh;obtain⟨l0,rfl,NL⟩:∃l:List Value,cs0=l.toArray∧uD _ l:=⟨cs0.toList,by simp,S3⟩;clear S3 Gh;obtain⟨_,aA4,rfl,⟨av4,rfl,aA5⟩,av5⟩:=uD.cons NL;obtain⟨_,aA6,rfl,⟨av6,rfl,aA7⟩,av7⟩:=uD.cons av5;obtain⟨_,aA8,rfl,⟨av8,rfl,aA9⟩,av9⟩:=uD.cons av7;obtain⟨_,aB0,rfl,⟨aw0,rfl,aB1⟩,aw1⟩:=uD.cons av9;obtain⟨_,aB2,rfl,⟨aw2,rfl,aw3⟩,aw4⟩:=uD.cons aw1;obtain⟨_,aB3,rfl,⟨aw5,rfl,aB4⟩,aw6⟩:=uD.cons aw4;obtain rfl:=uD.none aw6;obtain⟨a1,aB5,aw7,rfl⟩:=okWide_slice Tryz.underlying42 (ug 1 42 v1 rfl rfl);have k1:=h1;have lt1:∀x∈p1,x.block<W.heap.size:=by obtain⟨m,hm⟩:=k1;exact DataW.trod_lt m _ _ _ hm
 obtain⟨_,J0⟩:=h1;obtain⟨l1,w1,rfl,m1⟩:=SO J0;obtain⟨a2,aB6,aj3,rfl⟩:=okWide_slice Tryz.underlying33 (ug 2 33 v2 rfl rfl);have k2:=h2;have lt2:∀x∈p2,x.block<W.heap.size:=by obtain⟨m,hm⟩:=k2;exact DataW.trod_lt m _ _ _ hm
 obtain⟨_,Ln⟩:=h2;obtain⟨l2,w2,rfl,m2⟩:=SP Ln;obtain⟨a3,aB7,aw8,rfl⟩:=okWide_slice Tryz.underlying23 (ug 3 23 v3 rfl rfl);have k3:=h3;have lt3:∀x∈p3,x.block<W.heap.size:=by obtain⟨m,hm⟩:=k3;exact DataW.trod_lt m _ _ _ hm
 obtain⟨_,nW⟩:=h3;obtain⟨l3,w3,rfl,m3⟩:=SQ nW;clear hA0 XU;refine(NG av4 av6 av8 aw0 aw2 aw5 (.slice a1 l1.length aw7) (.slice a2 l2.length aj3) (.slice a3 l3.length aw8) l1 l2 l3 W (NF aw3).1 w1 w2 w3 m1 m2 m3).mono λe W' ⟨he,hf⟩=>?_;have bel:=hf.below (dp _) (by simp);subst he;exact⟨_,rfl,_,_,_,[],_,[],hW',trodAll_mk1 (shut_bool Tryz.underlying4 _),(trodAll_cons_mk (Below.trod laidOut (by kernel_rfl) (oC (by kernel_rfl)) k0 bel lt0) (trodAll_cons_mk (Below.trod laidOut (by kernel_rfl) (oC (by kernel_rfl)) k1 bel lt1) (trodAll_cons_mk (Below.trod laidOut (by kernel_rfl) (oC (by kernel_rfl)) k2 bel lt2) (trodAll_cons_mk (Below.trod laidOut (by kernel_rfl) (oC (by kernel_rfl)) k3 bel lt3) trodAll_mk0)))),rfl,bel.frame _,λh=>by cases h⟩
theorem NH:Rows.WholeQuietSaid:=
 OpenClaim.holds_of_wide 5 Tryz.f5 rfl rfl rfl rfl rfl rfl rfl ⟨rfl,rfl,rfl,rfl,rfl⟩ rfl rfl rfl rfl rfl (by kernel_rfl) Tryz.func5 (by kernel_rfl)
  (oC (by kernel_rfl)) (by unfold Func.isWrapper;first|(rw[aB (by decide+kernel)];kernel_rfl)|(rw[aq (by decide+kernel)];exact⟨rfl,rfl⟩))
  (λos started H enc _=>wc os started H enc)
