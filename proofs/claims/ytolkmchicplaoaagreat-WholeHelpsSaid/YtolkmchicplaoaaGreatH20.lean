/- Proved: for every input WholeHelps answers true and leaves its arguments as they were; no condition. -/
import Derived.ProofKit
import Derived.OpenShut
import Derived.ChangeOld
import Derived.Below
import Derived.Test.YtolkmchicplaoaaGreatH19
set_option linter.all false
set_option maxHeartbeats 16000000
set_option maxRecDepth 100000
open Go.Proofs.Tryz
namespace Go.Proofs.YtolkmchicplaoaaGreat
open Go.RowKit Go.aS Go.aS.I_ Go.aS.Y
structure yH {T:Type}(en:T→List Value)(n:Nat)(w:World)(pv:Value)(aO:List Value)(L:List (List T)):Prop where
 row:dB (λv=> [v]) 1 w pv aO
 len:aO.length=L.length
 each:∀k (h:k<L.length),dB en n w (aO[k]'(by omega)) L[k]
def yH.fr {T:Type}{en:T→List Value}{n w w' pv aO L}(h:yH en n w pv aO L)(f:Fr [] w w'):yH en n w' pv aO L:=
 ⟨h.row.fr f,h.len,λk hk=>(h.each k hk).fr f⟩
def nT {T:Type}(m:Nat)(L:List (List T)):Bool:=L.all (λl=>decide (l.length≤m))
def D9 (c:Y.cA)(ai:List (List In))(calls:List (List K.Call))(n:Nat):Bool:=
 nT 40 ai&&nT 4 calls&&right c&&decide (c.f≤100)&&decide (c.t≤3)&&decide (ai.length≤8)&&decide ((calls.length:Int)=c.t)&&decide (n≤600)
def AN {T:Type}{m:Nat}{L:List (List T)}{j:Nat}(hj:j<L.length)(h:nT m (L.take j)=true):nT m (L.take (j+1))=decide (L[j].length≤m):=by
 unfold nT at h⊢;rw[wj hj,List.all_append,h];simp
def Gq {T:Type}{m:Nat}{L:List (List T)}{j:Nat}(hj:j<L.length)(h:¬L[j].length≤m):nT m L=false:=by
 unfold nT;rw[←Bool.not_eq_true,mC];intro h2;exact h (oC (h2 _ (cJ hj)))
def Wo{w c pv kv aO wi ai calls n sa sc}(hp:yH gl 5 w pv aO ai)(hk:yH iw 5 w kv wi calls)(B5:ai.length≤maxLen)(fu:calls.length≤maxLen):ba 19 #[db c,pv,kv,.slice sa n sc] w (.bool (D9 c ai calls n)):=by
 obtain⟨pa,pc,rfl⟩:=hp.row.len;obtain⟨ka,kc,rfl⟩:=hk.row.len;have HP:=aa hp;have HK:=aa hk;have Mn:=aa (λw=>GW w c);obtain⟨FB,hFB⟩:∃b,D9 c ai calls n=b:=⟨_,rfl⟩;rw[hFB];have Kb:=aa hFB;have DE:Hid (aO.length=ai.length):=hp.len;have We:Hid (wi.length=calls.length):=hk.len;have Ξ:aO.length≤maxLen:=by rw[hp.len];exact B5
 have sh:wi.length≤maxLen:=by rw[hk.len];exact fu
 unfold maxLen at Ξ sh;clear hp hk hFB B5 fu;rw[show db c= .agg (gT c).toArray from rfl]at*;have HS:=aa ((Sep.nil (Fr.refl [] w)).new 31 (gT c));have Da:(gT c)[0]?=some (I c.t):=rfl;have W9:(gT c)[3]?=some (I c.f):=rfl;have qK:(gT c).length=6:=rfl;generalize gT c=cl at*;obtain⟨pn,xy⟩:∃n,aO.length=n:=⟨_,rfl⟩;have Gm:=aa xy;simp only[xy]at DE Ξ⊢;clear xy;obtain⟨kn,Jm⟩:∃n,wi.length=n:=⟨_,rfl⟩;have Sf:=aa Jm;simp only[Jm]at We sh⊢;clear Jm;delta ba;go_in;go_wp2_with fail;generalize World.alloc _ _=w1 at HS⊢;generalize w.heap.size=cb at HS⊢;go_loopg [8,15] pn (λg v8 vi wr=>∃j:Nat,g+j=pn∧v8= .bool false∧vi=I (j:Int)∧nT 40 (ai.take j)=true∧Sep w wr [aJ cb 31 cl])
 case' atStart=>skip
 refine ?Z
 case' round=>skip
 refine ?Y
 case' Z=>exact⟨0,by omega,rfl,rfl,rfl,HS.out⟩
 obtain⟨j,yy,rfl,rfl,hsh,hS⟩:=hrel;have HS:=aa hS;have Sr:=aa hsh;clear hS hsh;by_cases hj:j<pn;refine ?X;rotate_left;refine ?J
 case' X=>
  have s9:(j:Int)<(pn:Int):=by omega
  have FG:j<aO.length:=by have:=Gm.out;omega
  have Sg:j<ai.length:=by have:=DE.out;omega
  obtain⟨xa,rfl,GD,xX,-⟩:=(HP.row.fr HS.fr).at FG;rw[lj]at xX;have hx:=xX _ rfl;obtain⟨la,lc,Ep⟩:=(HP.out.each j Sg).len;rw[Ep]at hx;clear xX Ep;obtain⟨ln,o8⟩:∃ln,ai[j].length=ln:=⟨_,rfl⟩;have vG:=aa o8;rw[o8]at hx;clear o8
 case' X=>by_cases h4:ln≤40;refine ?G;rotate_left;refine ?D
 case' G=>
  have h4i:(ln:Int)≤40:=by omega
  have d1:decide ((ln:Int)>40)=false:=cW (by omega);clear h4;go_wp2
 case' G=>
  go_roundg (pn-(j+1))
  case' measure=>skip
  refine ?V
  case' rel=>skip
  refine ?U
 case' V=>omega
 case' J=>
  obtain rfl:j=pn:=by omega
  have Sr:Hid (nT 40 ai=true):=aa (by have:=Sr.out;rwa [oA (by have:=DE.out;omega)]at this);have HSP:=Sr;clear Sr;generalize j=pn at*;go_wp2_with fail;clear hj yy
 case' J=>
  go_loopg [8,25] kn (λg v8 vi wr=>∃j:Nat,g+j=kn∧v8= .bool false∧vi=I (j:Int)∧nT 4 (calls.take j)=true∧Sep w wr [aJ cb 31 cl])
  case' atStart=>skip
  refine ?g0
  case' round=>skip
  refine ?g1
 case' g1=>obtain⟨j,yy,rfl,rfl,hsh,hS⟩:=hrel;have HS:=aa hS;have Sr:=aa hsh;clear hS hsh
 case' g1=>by_cases hj:j<kn;refine ?g2;rotate_left;refine ?g3
 case' g2=>
  have s9:(j:Int)<(kn:Int):=by omega
  have FG:j<wi.length:=by have:=Sf.out;omega
  have Sg:j<calls.length:=by have:=We.out;omega
  obtain⟨xa,rfl,GD,xX,-⟩:=(HK.row.fr HS.fr).at FG;rw[lj]at xX;have hx:=xX _ rfl;obtain⟨la,lc,Ep⟩:=(HK.out.each j Sg).len;rw[Ep]at hx;clear xX Ep;obtain⟨ln,o8⟩:∃ln,calls[j].length=ln:=⟨_,rfl⟩;have vG:=aa o8;rw[o8]at hx;clear o8
 case' g2=>by_cases h4:ln≤4;refine ?g4;rotate_left;refine ?g5
 case' g4=>
  have h4i:(ln:Int)≤4:=by omega
  have d1:decide ((ln:Int)>4)=false:=cW (by omega);clear h4;go_wp2
 case' g4=>
  go_roundg (kn-(j+1))
  case' measure=>skip
  refine ?g6
  case' rel=>skip
  refine ?g7
 case' U|g7=>exact⟨j+1,by omega,rfl,by go_num,(AN Sg Sr.out).trans (eP (by rw[vG.out];omega)),HS.out⟩
 case' D=>
  have h4i:(ln:Int)>40:=by omega
  have C4:=aa (Gq (m:=40) Sg (by rw[vG.out];exact h4));have d1:decide ((ln:Int)>40)=true:=eP h4i;clear h4;go_wp2;go_ret;refine⟨?_,HS.fr⟩;rw[←Kb.out];unfold D9;rw[C4.out]
 case' D=>simp
 case' g0=>exact⟨0,by omega,rfl,rfl,rfl,HS.out⟩
 case' g6=>omega
 case' g5=>
  have h4i:(ln:Int)>4:=by omega
  have C4:=aa (Gq (m:=4) Sg (by rw[vG.out];exact h4));have d1:decide ((ln:Int)>4)=true:=eP h4i;clear h4;go_wp2;go_ret;refine⟨?_,HS.fr⟩;rw[←Kb.out];unfold D9;rw[C4.out]
 case' g5=>simp
 obtain rfl:j=kn:=by omega
 have Sr:Hid (nT 4 calls=true):=aa (by have:=Sr.out;rwa [oA (by have:=We.out;omega)]at this);have HSK:=Sr;clear Sr;generalize j=kn at*;have Gr:Hid (FB=(right c&&decide (c.f≤100)&&decide (c.t≤3)&&decide ((pn:Int)≤8)&&decide ((kn:Int)=c.t)&&decide ((n:Int)≤600))):=aa (by
  have B5:=DE.out;have fu:=We.out;rw[←Kb.out];unfold D9;rw[HSP.out,HSK.out,show decide (ai.length≤8)=decide ((pn:Int)≤8)from sX.2 (by omega),show decide ((calls.length:Int)=c.t)=decide ((kn:Int)=c.t)from sX.2 (by omega),show decide (n≤600)=decide ((n:Int)≤600)from sX.2 (by omega)];rfl)
 clear Kb;have f0:=(HS.ar 0 rfl).aT 0 Da;have f3:=(HS.ar 0 rfl).aT 3 W9;go_wp2_with(refine ay 31 _ rfl rfl _ 0 rfl cl _ (HS.ar 0 rfl).range underlying31 rfl (by rw[qK];kernel_rfl) ?_);clear f0 f3;refine(Mn.out _).kq HS λw3 HS=>?_;have f0:=(HS.ar 0 rfl).aT 0 Da;have f3:=(HS.ar 0 rfl).aT 3 W9;obtain⟨b0,UK⟩:∃b,right c=b:=⟨_,rfl⟩;rw[UK]at Gr⊢;have HF:=aa HS.fr;clear UK Mn HP HK DE We Gm Sf;have yu:Hid (∀r:Bool,r=FB→∀w':World,Fr [] w w'→(Ending.returned (.bool r)= .returned (.bool FB)∧Fr [] w w')):=aa (λr e w' f=>⟨by rw[e],f⟩);cases b0 with
 |false=>
  go_wp2;go_ret;exact yu.out _ (by rw[Gr.out];rfl) _ HF.out
 |true=>
 by_cases h1:c.f≤100;rotate_left
 ·go_wp2_with fail;all_goals(go_ret;exact yu.out _ (by rw[Gr.out];first|(simp[*];done)|(simp[*];omega)) _ HF.out)
 by_cases h2:c.t≤3;rotate_left
 ·go_wp2_with fail;all_goals(go_ret;exact yu.out _ (by rw[Gr.out];first|(simp[*];done)|(simp[*];omega)) _ HF.out)
 by_cases h3:(pn:Int)≤8;rotate_left
 ·go_wp2_with fail;all_goals(go_ret;exact yu.out _ (by rw[Gr.out];first|(simp[*];done)|(simp[*];omega)) _ HF.out)
 by_cases h4:(kn:Int)=c.t;rotate_left
 ·go_wp2_with fail;all_goals(go_ret;exact yu.out _ (by rw[Gr.out];first|(simp[*];done)|(simp[*];omega)) _ HF.out)
 by_cases h5:(n:Int)≤600;rotate_left
 ·go_wp2_with fail;all_goals(go_ret;exact yu.out _ (by rw[Gr.out];first|(simp[*];done)|(simp[*];omega)) _ HF.out)
 go_wp2_with fail;all_goals(go_ret;exact yu.out _ (by rw[Gr.out];first|(simp[*];done)|(simp[*];omega)) _ HF.out)
def CK (x:Int):List Value:=[I x]
def Jo {w c}(aE:Y.Ok c){pv kv aO wi ai calls}(hp:cL w pv aO ai)(hk:vY w kv wi calls)(B5:ai.length≤32)(mr:(calls.length:Int)=c.t)(Se:∀l∈calls,l.length≤64)
 (Wp:PI ai)(uX:c.fi≤1000000000000000)(hsi:SI c ai c.fi (Z.new c calls)){sv aK}(hA:dB CK 1 w sv aK)(AX:aK.length≤maxLen){Φ:Z.St→Prop}(h0:Φ (Z.new c calls))(hΦ:∀s t,Φ s→Φ (Z.pick c ai t s).1):
 Calls Tryz.prog 11 #[db c,pv,kv,sv] w λr w'=>∃b s,r= .returned (O b)∧Φ s∧SI c ai c.fi s∧Sep w w' [dx c ai b s]:=by
 obtain⟨sa,sc,rfl⟩:=hA.len;have Q7:=aa (fun(w':World) (f:Fr [] w w')=>Gl aE (hp.fr f) (hk.fr f) B5 mr Se);have yG:=aa (fun(w0 w':World) (R:List a_) (b:Nat) (s:Z.St) (t:Int) (hI:SI c ai c.fi s) (h:Sep w0 w' (dx c ai b s::R))=>AJ aE Wp uX hI t h);have HPH:=aa hΦ;have H0:=aa h0;have HSI:=aa hsi;have HA:=aa hA;clear aE hp hk B5 mr Se Wp uX hsi hA h0 hΦ;rw[show db c= .agg (gT c).toArray from rfl]at*;have HS:=aa ((Sep.nil (Fr.refl [] w)).new 31 (gT c));have qK:(gT c).length=6:=rfl;generalize gT c=cl at*;obtain⟨n,hn⟩:∃n,aK.length=n:=⟨_,rfl⟩;have HN:=aa hn;rw[hn]at AX;simp only[hn]at HA⊢;clear hn;unfold maxLen at AX;go_in;go_wp2_with(refine ay 31 _ rfl rfl _ 0 rfl cl _ (HS.ar 0 rfl).range underlying31 rfl (by rw[qK];kernel_rfl) ?_);generalize World.alloc _ _=w1 at HS⊢;generalize w.heap.size=cb at HS⊢;refine(Q7.out _ HS.fr).mono ?_;rintro r w2 ⟨b,rfl,h2⟩;have HS:=aa (HS.fresh h2.jm).swap;have HS:Hid (Sep w w2 [dx c ai b (Z.new c calls)]):=aa HS.tail;clear h2;go_wp2_with fail;go_loopg [24] n (λg vi wr=>∃(j:Nat) (s:Z.St),g+j=n∧vi=I (j:Int)∧Φ s∧SI c ai c.fi s∧Sep w wr [dx c ai b s])
 case atStart=>exact⟨0,_,by omega,rfl,H0.out,HSI.out,HS.out⟩
 case round=>
  clear HS H0 HSI;obtain⟨j,s,yy,rfl,hf,hI,hS⟩:=hrel;have HS:=aa hS;have HF:=aa hf;clear hS hf;by_cases hj:j<n
  ·have s9:(j:Int)<(n:Int):=by omega
   have mW:j<aK.length:=by have:=HN.out;omega
   obtain⟨xa,rfl,GD,xX,-⟩:=(HA.fr HS.fr).at mW;rw[lj]at xX;have hx:=xX _ rfl;clear xX;generalize aK[j]=t at*;go_wp2_with fail;refine(yG.out _ _ _ _ _ t hI HS.out).mono ?_;rintro r w3 ⟨rfl,uH,h3⟩;have HS:=aa h3;have lU:=aa (HPH.out _ t HF.out);clear h3 hx;go_wp2;go_roundg (n-(j+1))
   case measure=>omega
   case rel=>exact⟨j+1,_,by omega,by go_num,lU.out,uH,HS.out⟩
  ·obtain rfl:j=n:=by omega
   go_wp2;go_ret;exact⟨b,s,rfl,HF.out,hI,HS.out⟩
end Go.Proofs.YtolkmchicplaoaaGreat
namespace Go.aS
open Go.RowKit Go.Maps
section
variable {P:Program} {ops:Array Oper} {rest:List Oper} {o:Oper} {a:Act} {w w0:World} {Q:Exit→Act→World→Prop} {Ts:List a_} {k e:TypeId} {kq q:IntKind} {b:Nat}
def BE {n:Nat}{g:Lit→Int}(h:Sep w0 w Ts)(i:Nat)(hi:Ts[i]?=some (SF P k e q b n g))(hg:o.guard=none)(m:Operand)(t:TypeId)(j_:o.op=Op.call {callee:=Callee.builtin Builtin.len,args:=#[m],argTypes:=#[t]})
 (ht:P.underlying t=some (.map k e)) (hm:a.eval m= .map (some b)) (hK:∀z:Nat,z≤n→wpList P ops Q rest (a.put o.dst (I (z:Int))) w):wpList P ops Q (o::rest) a w:=by
 obtain⟨fp,⟨_,D,h1,_⟩,_⟩:=h.get i hi;exact wpList_len_own w hg m t j_ k e ht _ b _ D hm h1 (hK _ h1.size_le)
end
end Go.aS
namespace Go.Proofs.YtolkmchicplaoaaGreat
open Go.RowKit Go.aS Go.aS.I_ Go.aS.Y Go.Maps
def A1:WideMaps.KeyLaw Tryz.prog 78:=(deep_law_laid RM (m:=2) (by omega) (oC (by kernel_rfl)) (by kernel_rfl) (by rw[underlying78]))
def mZ:Keyed Tryz.prog 78:=Keyed.of_law A1
def Sk {a b}(ha:(Lit.int .i64 a).wf=true)(hb:(Lit.int .i64 b).wf=true):∃l,keyOf Tryz.prog 78 (.agg #[.int .i64 a,.int .i64 b])=some l:=by
 have h1:Tryz.prog.keyTypeAt (Tryz.prog.types.size+1) 78=true:=by kernel_rfl
 have h2:Tryz.prog.cellsOf 78=2:=by kernel_rfl
 have h3:Tryz.prog.cellsOf 3=1:=by kernel_rfl
 obtain⟨m,hm⟩:∃m,Tryz.prog.types.size=m+1:=⟨Tryz.prog.types.size-1,by have:0<Tryz.prog.types.size:=oC (by kernel_rfl);omega⟩;have hI:∀{x:Int},(Lit.int .i64 x).wf=true→Tryz.prog.keyLits (m+1) 3 [.int .i64 x]=some [.int .i64 x]:=fun{x} hx=>by
  unfold Program.keyLits;rw[underlying3];simp[hx]
 unfold keyOf;rw[underlying78];dsimp only;unfold Program.keyType;rw[h1,hm];have hf:(Value.agg #[.int .i64 a,.int .i64 b]).formed Tryz.prog 78=true:=by simp[Value.formed,underlying78,h2]
 rw[hf];unfold Program.keyLits;rw[underlying78];simp[Value.cells,h2,h3,hI ha,hI hb,List.range,List.range.loop]
def zk2 (mb n:Nat)(f:Lit→Int):a_:=SF Tryz.prog 78 3 .i64 mb n f
def wb (f:Lit→Int)(seen:List (Int×Int)):Prop:=∀a b l,GP a→GP b→keyOf Tryz.prog 78 (.agg #[I a,I b])=some l→f l=if(a,b)∈seen then 1 else 0
def wb.add {f:Lit→Int}{seen}(h:wb f seen){a b}(ha:GP a)(hb:GP b){l:Lit}(hl:keyOf Tryz.prog 78 (.agg #[I a,I b])=some l):wb (RO f l 1) ((a,b)::seen):=by
 intro a2 b2 l2 ha2 yU rR;unfold RO;by_cases e:l2=l
 ·rw[aB e];subst e;have:=mZ.inj hl rR;simp only[Value.agg.injEq,Array.mk.injEq,List.cons.injEq,Value.int.injEq,true_and,and_true]at this;obtain⟨rfl,rfl⟩:=this;rw[aB (by simp)]
 ·rw[aq e,h a2 b2 l2 ha2 yU rR];have pg:(a2,b2)≠(a,b):=by
   intro he;simp only[nL]at he;obtain⟨rfl,rfl⟩:=he;rw[hl]at rR;exact e (eQ rR).symm
  simp[pg]
def Ce (l:List Z.Row)(p:Int):Int:=((l.countP (λx=>decide (x.at_=p)):Nat):Int)
def NG {l:List Z.Row}{i:Nat}(h:i<l.length)(p:Int):Ce (l.take (i+1)) p=if p=l[i].at_ then Ce (l.take i) p+1 else Ce (l.take i) p:=by
 unfold Ce;rw[wj h,List.countP_append,List.countP_singleton];by_cases e:p=l[i].at_
 ·rw[aB e];simp[e]
 ·rw[aq e];have:¬l[i].at_=p:=λh=>e h.symm;simp[this]
def ab6 (l i p):Ce (l.take i) p≤Ce l p:=by
 unfold Ce;have:=(List.take_sublist i l).countP_le (p:=λx=>decide (x.at_=p));omega
def Sl (l p):0≤Ce l p∧Ce l p≤l.length:=by
 unfold Ce;have:=List.countP_le_length (l:=l) (p:=λx=>decide (x.at_=p));omega
def LP {l}(hn:(gq l).Nodup){i}(h:i<l.length):(l[i].aw,l[i].tag)∉gq (l.take i)∧∀p,p∈gq (l.take (i+1))↔p∈(l[i].aw,l[i].tag)::gq (l.take i):=by
 have e:gq (l.take (i+1))=gq (l.take i)++[(l[i].aw,l[i].tag)]:=by
  unfold gq;rw[wj h,pS];rfl
 refine⟨λhm=>?_,λp=>by rw[e,jQ,jO,oG,or_comm]⟩;have hs:(gq (l.take (i+1))).Nodup:=by
  unfold gq at hn⊢;exact hn.sublist ((List.take_sublist _ _).map _)
 rw[e,List.nodup_append]at hs;exact hs.2.2 _ hm _ (by simp) rfl
structure aC9 (x:Z.Row):Prop where
 a:GP x.at_
 w:GP x.aw
 t:GP x.tag
end Go.Proofs.YtolkmchicplaoaaGreat
namespace Go.Proofs.YtolkmchicplaoaaGreat
open Go.RowKit Go.aS Go.aS.I_ Go.aS.Y
def Ra (s:Z.St):Prop:=0≤s.aK∧(∀(t:Nat) u,s.iB[t]?=some u→0≤u.looked)∧∀x∈s.rows,0≤x.at_
section
variable {c:Y.cA} {ai:List (List In)} {s:Z.St}
def Ra.start {calls}:Ra (Z.new c calls):=by
 refine⟨by unfold Z.new;exact iu _,λt u h=>?_,λx h=>by unfold Z.new at h;cases h⟩;unfold Z.new at h;rw[jE]at h;cases hc:calls[t]? with
 |none=>rw[hc]at h;cases h
 |some l=>rw[hc]at h;obtain rfl:=eQ h;exact iu _
def Up (h:∀(t:Nat) u,s.iB[t]?=some u→0≤u.looked)(t):0≤(Z.iO s t).looked:=by
 unfold Z.iO;rw[cO];cases e:s.iB[t]? with
 |none=>exact iu _
 |some u=>exact h t u e
def H3 {l:List Z.Th}{i:Nat}{u2:Z.Th}(h1:∀(t:Nat) u,l[t]?=some u→0≤u.looked)(h2:0≤u2.looked)(t:Nat)(u:Z.Th)(hu:(l.set i u2)[t]?=some u):0≤u.looked:=by
 rcases kU hu with⟨_,rfl⟩|⟨_,h3⟩
 ·exact h2
 ·exact h1 t u h3
def Ra.told {t m k}(h:Ra s):Ra (Z.told t m k s):=by
 obtain⟨h1,h2,h3⟩:=h;have ha:=Up h2 t;have hl:0≤(if k.fresh then s.aK else(Z.iO s t).looked):=by split<;>assumption
 have hr:∀x∈s.rows++(K.rows k).map (λx=>(⟨s.aK,x.aw,IntKind.i64.wrap x.tag,x.rc,x.rv,x.news⟩:Z.Row)),0≤x.at_:=by
  intro x hx;rcases jQ.1 hx with hx|hx
  ·exact h3 x hx
  ·obtain⟨y,_,rfl⟩:=mE.1 hx;exact h1
 unfold Z.told;dsimp only;split
 ·refine⟨h1,H3 h2 hl,λx hx=>?_⟩;dsimp only at hx;split at hx
  ·rcases jQ.1 hx with hx|hx
   ·exact hr x hx
   ·obtain rfl:=jO.1 hx;exact hl
  ·exact hr x hx
 ·exact⟨h1,H3 h2 hl,hr⟩
def Ra.ig {t}(h:Ra s):Ra (Z.ig c ai t s):=by
 unfold Z.ig;split
 ·exact h
 ·exact Ra.told (s:={s with mem:=_}) h
def Ra.pick (h:Ra s)(t):Ra (Z.pick c ai t s).1:=by
 unfold Z.pick;split
 ·exact h
 have h1:Ra {s with aK:=s.aK+1}:=⟨by have:=h.1;dsimp only;omega,h.2⟩;dsimp only;refine Ra.ig ?_;split
 ·refine⟨h1.1,H3 h1.2.1 ?_,h1.2.2⟩;exact Up h1.2.1 _
 ·exact h1
def L0.rows (ht3:c.t≤3)(h:L0 c ai s)(hb:Cb 4 s)(ha:Ra s):∀x∈Or.sort s.rows,aC9 x:=by
 intro x hx;obtain⟨hS,g,hH⟩:=h;have Td:=(Or.kx s.rows).mem_iff.1 hx;obtain⟨a1,t,u,a2,a3,a4⟩:=hH.r2 x Td;have h1:=hb t u a2;have h2:=(dE.1 a2).1;have h3:=hH.n;have h4:=hH.atp x Td;have h5:=hS.aK;have h6:=ha.2.2 x Td;have hw:∀y:Int,0≤y→y≤1000000→GP y:=λy h0 h1=>by unfold GP;simp[Lit.wf,IntKind.min,IntKind.max,IntKind.signed,IntKind.bits];omega
 exact⟨hw _ h6 (by omega),hw _ (by omega) (by omega),hw _ (by omega) (by omega)⟩
end
open Go.aS.C Go.Maps
def ah3 {c ai calls n}(h:D9 c ai calls n=true):Y.Ok c∧(∀p∈ai,p.length≤40)∧(∀l∈calls,l.length≤4)∧c.f≤100∧c.t≤3∧ai.length≤8∧(calls.length:Int)=c.t:=by
 unfold D9 nT Y.right at h;simp only[eO,gG,mC]at h;obtain⟨⟨⟨⟨⟨⟨⟨h1,h2⟩,h3⟩,h4⟩,h5⟩,h6⟩,h7⟩,h8⟩:=h;exact⟨h3,h1,h2,h4,h5,h6,h7⟩
def Cb.start {c calls}(h:∀l∈calls,l.length≤4):Cb 4 (Z.new c calls):=by
 intro t u hu;unfold Z.new at hu;rw[jE]at hu;cases hc:calls[t]? with
 |none=>rw[hc]at hu;cases hu
 |some l=>
  rw[hc]at hu;obtain rfl:=eQ hu;have:=h l (wz hc);dsimp only;omega
def ax7 (c:Y.cA)(ai:List (List In))(s:Z.St):Prop:=L0 c ai s∧Cb 4 s∧Ra s
def jq {w:World}{base:Nat}{e:TypeId}{g n cap:Nat}{l:List C.Ev}(h:w.ownsRow base e 10 (.slice (some ⟨g,0,none⟩) n cap) n (flat C.kO l)){k:Nat}(hk:k<l.length)(j:Nat)(hj:j<10)(u:Value)(hu:(C.kO l[k])[j]?=some u):w.cell? ⟨g,k*10+j,none⟩=some u:=
 aH h (k*10+j) u ((cI C.qg l k hk j hj).trans hu)
def NH {L:List Z.Row}{i:Nat}{fa:Int→Int}{Gg q:Int}(h:∀p,Ce (L.take (i+1)) p=if p=Gg then Ce (L.take i) p+1 else Ce (L.take i) p)(hf:∀p,fa p=Ce (L.take i) p)(hq:fa Gg=q)(p:Int):(if p=Gg then q+1 else fa p)=Ce (L.take (i+1)) p:=by
 rw[h p];by_cases e:p=Gg
 ·rw[aB e,aB e,e,←hf,hq]
 ·rw[aq e,aq e];exact hf p
def LS {w c}(sZ:0≤c.fi){pv kv sv aO wi ai calls aK}(hp:yH gl 5 w pv aO ai)(hk:yH iw 5 w kv wi calls)(hA:dB CK 1 w sv aK)(B5:ai.length≤maxLen)(fu:calls.length≤maxLen)(AX:aK.length≤maxLen)(hU:PU ai)(hC:∀l∈calls,∀x∈l,jr x):
 ba 6 #[db c,pv,kv,sv] w (.bool true):=by
 obtain⟨sa,sc,rfl⟩:=hA.len;obtain⟨pa,pc,rfl⟩:=hp.row.len;have HSO:=aa (λw=>Nr w);have Br:=aa (fun(w':World) (f:Fr [] w w')=>Wo (c:=c) (n:=aK.length) (sa:=sa) (sc:=sc) (hp.fr f) (hk.fr f) B5 fu);by_cases EF:D9 c ai calls aK.length=true;rotate_left
 ·have hff:D9 c ai calls aK.length=false:=by simpa using EF
  rw[hff]at Br;clear hff EF hU hC AX fu B5 hk hp hA sZ;rw[show db c= .agg (gT c).toArray from rfl]at*;have qK:(gT c).length=6:=rfl;have HS:=aa ((Sep.nil (Fr.refl [] w)).new 31 (gT c));generalize gT c=cl at*;delta ba;go_in;go_wp2_with fail;generalize World.alloc _ _=w1 at HS⊢;generalize w.heap.size=cb at HS⊢;refine(HSO.out _).kq HS λw2 HS=>?_;go_wp2_with(refine ay 31 _ rfl rfl _ 0 rfl cl _ (HS.ar 0 rfl).range underlying31 rfl (by rw[qK];kernel_rfl) ?_);refine(Br.out _ HS.fr).kk λw3 hf=>?_;have HF:=aa (HS.fr0 hf).fr;clear hf;go_wp2;go_ret;exact⟨rfl,HF.out⟩
 obtain⟨aE,ab5,hk4,am2,ht3,hp8,Yg⟩:=ah3 EF;rw[EF]at Br;have hPA:cL w (.slice pa aO.length pc) aO ai:=⟨hp.row,hp.len,λk hk=>⟨hp.each k hk,by have:=ab5 _ (cJ hk);omega,λi hi=>hU _ (cJ hk) i hi⟩,by omega⟩;have Wp:PI ai:=⟨hU,by omega,λp h=>by have:=ab5 p h;omega⟩;have uX:c.fi≤1000000000000000:=by have:=aE.fl;have:=aE.l47;omega
 have hsi:=SI.start aE sZ (ai:=ai) Yg hC;have Ξ:aO.length≤8:=by rw[hp.len];exact hp8
 have Xf:=aa (fun(w':World) (f:Fr [] w w')=>Jo aE (hPA.fr f) (wi:=wi) (calls:=calls) ⟨(hk.fr f).row,(hk.fr f).len,(hk.fr f).each⟩ (by omega) Yg (λl hl=>by have:=hk4 l hl;omega) Wp uX hsi (hA.fr f) AX (Φ:=ax7 c ai) ⟨L0.start aE sZ Yg hC,Cb.start hk4,Ra.start⟩ (λs t h=>⟨h.1.pick aE Wp uX t,h.2.1.pick t,h.2.2.pick t⟩));clear Wp uX hsi Yg hk4 ab5 hp8 EF hk hp fu B5 AX hA hPA am2;clear hU hC;have AU:=aE.t1;clear aE;rw[show db c= .agg (gT c).toArray from rfl]at*;have qK:(gT c).length=6:=rfl;have Da:(gT c)[0]?=some (I c.t):=rfl;have HS:=aa ((Sep.nil (Fr.refl [] w)).new 31 (gT c));obtain⟨cl,mr⟩:∃l,gT c=l:=⟨_,rfl⟩;rw[mr]at qK Da HS Br Xf;simp only[mr];clear mr;obtain⟨pn,xy⟩:∃n,aO.length=n:=⟨_,rfl⟩;simp only[xy]at Br Xf Ξ⊢;clear xy;delta ba;go_in;go_wp2_with fail;generalize World.alloc _ _=w1 at HS⊢;generalize w.heap.size=cb at HS⊢;refine(HSO.out _).kq HS λw2 HS=>?_;go_wp2_with(refine ay 31 _ rfl rfl _ 0 rfl cl _ (HS.ar 0 rfl).range underlying31 rfl (by rw[qK];kernel_rfl) ?_);refine(Br.out _ HS.fr).kq HS λw3 HS=>?_;clear Br HSO;go_wp2_with(refine ay 31 _ rfl rfl _ 0 rfl cl _ (HS.ar 0 rfl).range underlying31 rfl (by rw[qK];kernel_rfl) ?_);refine(Xf.out _ HS.fr).mono ?_;rintro r w4 ⟨b,s,rfl,⟨hPh,hCb,hRa⟩,hI,h4⟩;have HS:Hid (Sep w w4 [dx c ai b s,aJ cb 31 cl]):=aa (HS.fresh h4.jm);clear h4 Xf;have hH:=hPh.av3 ht3 hCb;have z6:=aa (hPh.rows ht3 hCb hRa);have N0:s.rows.length≤12:=by have:=hH.tY;have:=(Or.kx s.rows).length_eq;omega
 have nR:=hI.aM;have tK:=hI.aK;have k9:=hI.trace;have Q9:=aa (λw' (R:List a_) (h:Sep w w' (dx c ai b s::R))=>CC hI (vR (by omega)) (by omega) h);have HRC:=aa (λw' (R:List a_) (h:Sep w w' (dx c ai b s::R))=>xo (by omega) h);have Tc:=aa (λw' (R:List a_) (h:Sep w w' (dx c ai b s::R))=>RK h);have hEV:=fun(w':World) (mb:Nat) vc vt (h:gD w' mb vc vt s.mem)=>G6 w' mb vc vt s.mem h (by omega);obtain⟨tr,az6⟩:∃l,s.mem.trace=l:=⟨_,rfl⟩;obtain⟨L,hL⟩:∃l,Or.sort s.rows=l:=⟨_,rfl⟩;obtain⟨rn,z5⟩:∃n,s.aM.length=n:=⟨_,rfl⟩;have h1:=hH.nod;have h2:=hH.cr;have h3:=hH.ev;have h5:=hH.len;have h6:=hH.tY;rw[hL]at h1 h2 h3 h5 h6;rw[az6]at h3 k9;rw[z5]at h5 nR;rw[hL]at Q9 z6;have HH:Hid ((gq L).Nodup∧(∀p,Ce L p≤c.t)∧∀(i:Nat) e,tr[i]?=some e→e.op.a=0→e.op.k=2→e.out.ok=true→1≤Ce L ((i:Int)+1)):=aa ⟨h1,h2,λi e a b d x=>by have:=h3 i e a b d x;unfold Ce;omega⟩;have aD1:Hid (∀(w':World) (R:List a_) (h:Sep w w' (dx c ai b s::R)),Calls Tryz.prog 15 #[O b] w' λr qe=>∃v,r= .returned v∧eZ w' qe (aU 0 55 13 v rn (flat eI s.aM))):=aa (λw' R h=>by rw[←z5];exact HRC.out w' R h);have ay8:Hid (∀(w':World) (mb:Nat) vc vt (h:gD w' mb vc vt s.mem),Calls Tryz.prog 27 #[O mb] w' λr qe=>∃v,r= .returned v∧eZ w' qe (aU 0 86 10 v tr.length (flat C.kO tr))):=aa (λw' mb vc vt h=>by rw[←az6];exact hEV w' mb vc vt h);have aD6:(tr.length:Int)≤65536:=by omega
 clear hPh hCb hRa hH N0 nR tK k9 HRC hEV az6 hL z5 h1 h2 h3 hI;obtain⟨n,hn⟩:∃n,L.length=n:=⟨_,rfl⟩;have HN:=aa hn;rw[hn]at h5 h6;clear hn;have HS:=aa ((HS.out.UI Tryz.prog 3 3 .i64 .i64).aj8 Tryz.prog 78 3 .i64);simp only[cG]at HS;have Lx:=@run_makeMap Tryz.prog;go_wp2_with fail;clear Lx;generalize World.alloc _ _=w5 at HS⊢;generalize w4.heap.size+1=sb at HS⊢;generalize w4.heap.size=ab at HS⊢;refine(Q9.out _ _ (HS.pull 2 rfl)).mono ?_;rintro r w6 ⟨iP,rfl,h6s⟩;obtain⟨dY,kA,h7⟩:=jg h6s;simp only[ze]at h7;have HS:=aa ((h7.pull 4 rfl).pull 4 rfl);clear h6s Q9;have LH:=tD kA h7;clear h7;have HW:=aa (λw' (h:Sep w w' (aU 0 51 6 iP L.length (mix j6 dY L)::cM (lY Z.Row.news dY L):: [dx c ai b s,aJ cb 31 cl]))=>tD kA h);have rN:(dY.zip L).length=L.length:=by rw[nK,LH.len,Nat.min_self]
 obtain⟨va,vc,hv⟩:=LH.row.len;rw[rN,HN.out]at hv;subst hv;have VR:=aa rN;clear rN LH;simp only[ze]at HS;go_wp2_with fail;go_loopg [37] n (λg vi wr=>∃(i m:Nat) (K:List Int) (fa:Int→Int) (fs:Lit→Int) (seen:List (Int×Int)),vi=I (i:Int)∧i≤n∧m≤i∧K.length≤i∧n-i=g∧(∀p,fa p=Ce (L.take i) p)∧(∀p,p∈seen↔p∈gq (L.take i))∧wb fs seen∧Sep w wr [zk2 sb m fs,Ju Tryz.prog 3 3 .i64 .i64 ab K fa,aU 0 51 6 (.slice va n vc) L.length (mix j6 dY L),cM (lY Z.Row.news dY L),dx c ai b s,aJ cb 31 cl])
 case atStart=>exact⟨0,0,[],_,_,[],rfl,by omega,by omega,by simp,by omega,λp=>by unfold Ce;simp,λp=>by unfold gq;simp,λa b l _ _ _=>by simp,HS.out⟩
 case round=>
  clear HS;obtain⟨i,m,K,fa,fs,seen,rfl,hi,PC,fu,hg,hfa,US,Wn,hS⟩:=hrel;have HS:=aa hS;have UL:=aa hfa;have z7:=aa US;have yZ:=aa Wn;have HG:=aa hg;clear hS hfa US Wn hg;by_cases tH:i<n
  ·have td:(i:Int)<(n:Int):=by omega
   have d1:decide ((i:Int)<(n:Int))=true:=eP td;have Hh:i<L.length:=by rw[HN.out];exact tH
   have SJ:i<(dY.zip L).length:=by rw[VR.out];exact Hh
   have h_:=aa (λw' h=>dB.at (a:=va) (m:=(dY.zip L).length) (cap:=vc) (by have:=(HW.out w' h).row;rw[VR.out,HN.out];exact this) SJ);have Yp:(dY.zip L)[i].2=L[i]:=by simp
   have Jc:=z6.out _ (cJ Hh);have jT:=λp=>NG Hh p;have yR:=LP HH.out.1 Hh;have k7:=(HW.out _ HS.tail.tail).each _ (cJ SJ);generalize(dY.zip L)[i]=pr at*;generalize L[i]=x at*;obtain⟨nv,x0⟩:=pr;dsimp only at Yp;subst Yp;obtain⟨Gg,xw,xt,rI,xc,Mu⟩:=x0;unfold j6 at h_;dsimp only at h_ k7 jT yR;obtain⟨na,nc,rfl⟩:=k7;obtain⟨xa,rfl,uI,c0,c1⟩:=h_.out _ HS.tail.tail;have hq0:=Sl (L.take i) Gg;have yj:=ab6 L (i+1) Gg;have hq2:=HH.out.2.1 Gg;rw[jT Gg,aB rfl]at yj;have hfx:=UL.out Gg;generalize hq:fa Gg=q at*;rw[←hfx]at hq0 yj;have S1:(Lit.int .i64 Gg).wf=true:=Jc.a;have aq7:(Lit.int .i64 (q+1)).wf=true:=WalkArith.wf_i64 (by omega);have hww:IntKind.i64.wrap (q+1)=q+1:=bf _ (by omega) (by omega);have Hg:K.length<maxLen:=by unfold maxLen;omega
   have aA1:(if Gg∈K then K else Gg::K).length≤i+1:=by split<;>(first|omega|(simp only[dT];omega))
   have dS:=aa (HS.new 51 [I Gg,I xw,I xt,I rI,U xc,.slice na Mu.length nc]);have xM:=te dS.out 2 rfl underlying3 underlying76 underlying3 (λ_=>by kernel_rfl) Gg S1;rw[hq]at xM;have q0:=(dS.ar 0 rfl).cell 0;simp only[zg]at q0;have e0:=c0 _ rfl;have e1:=c1 0 _ rfl;have e2:=c1 1 _ rfl;have e3:=c1 2 _ rfl;have e4:=c1 3 _ rfl;have e5:=c1 4 _ rfl;have HQ:=aa hq;have aA2:=aa jT;have SE:=aa yR;have Jq:=aa Jc;clear c0 c1 hq jT yR Jc hq0 hfx;go_wp2_with(at_mapUpdate;go_must (refine sV dS.out 2 rfl rfl _ _ _ 76 rfl underlying3 underlying76 underlying3 rfl Gg rfl S1 (q+1) rfl aq7 Hg ?_);intro wU hU fU;have HU:=aa hU;clear hU fU);have HU:=aa HU.out;simp only[zs]at HU;obtain⟨l,Jd⟩:=Sk Jq.out.w Jq.out.t;have yF:=aa Jd;have N1:Hid (m<maxLen):=aa (by unfold maxLen;omega);have HNI:Hid ((xw,xt)∉seen):=aa (λh=>SE.out.1 ((z7.out _).1 h));clear Jd;have HS:=aa HU.drew;have XH:wr.heap.size∉ [sb]:=by
    have:=ak0 HU.out 0 1 rfl rfl (by decide);simpa using this
   have q1:=(HS.ar 0 rfl).cell 1;have q2:=(HS.ar 0 rfl).cell 2;simp only[zg]at q1 q2;refine gR ([6,8],[10]) [sb] (by kernel_rfl) ?_;refine gS (N:=5) [0,1,2,3,4,5] (by kernel_rfl) ⟨⟨_,Fr.refl _ _⟩,rfl⟩ ?_;simp only[zz];repeat(first|go_big_quiet_step (fail)|quiet_step (fail))
   refine ax ?_;clear xM q0 q1 q2 XH e0 e1 e2 e3 e4 e5 S1 aq7;clear HU dS;generalize World.drew _=wd at HS⊢;generalize wr.heap.size=rb at*;have AY:=aa (yZ.out _ _ _ Jq.out.w Jq.out.t yF.out);rw[aq HNI.out]at AY;refine dN (N:=4) 6 8 (by kernel_rfl) rfl rfl ?_ ?_
   ·have xM:=y9 HS.out 1 rfl mZ underlying77 underlying3 (by kernel_rfl) yF.out;rw[AY.out]at xM;go_wp2;refine⟨⟨⟨_,(by exact Fr.refl _ _)⟩,rfl⟩,?_⟩;clear xM;refine bP (N:=3) [7] (by kernel_rfl) ?_;simp only[zz];repeat(first|go_big_quiet_step (fail)|quiet_step (fail))
    refine ax ?_;refine bA (N:=2) 8 (by kernel_rfl) rfl ?_;obtain⟨v0,st,w5',Kc,Dv,RW⟩:=vV HS.out 1 rfl A1 underlying77 underlying3 (λ_=>by kernel_rfl) N1.out yF.out;have sk:=aa Dv;have Cq:=aa RW;clear Dv RW;go_wp2;refine⟨⟨⟨_,(by exact Cq.out)⟩,rfl⟩,?_⟩;clear Kc;refine bP (N:=1) [9] (by kernel_rfl) ?_;simp only[zz];repeat(first|go_big_quiet_step (fail)|quiet_step (fail))
    refine ax ?_;refine dK (N:=0) 10 (by kernel_rfl) rfl ?_;obtain⟨w6',gx,Cd,_⟩:=vU (u:=1) sk.out 1 rfl (by decide);unfold goInt at gx;have Dx:=aa Cd;clear Cd;go_wp2;refine step_done (by kernel_rfl) ?_;clear gx;have q0:=(Dx.ar 0 rfl).cell 0;have q1:=(Dx.ar 0 rfl).cell 1;have q2:=(Dx.ar 0 rfl).cell 2;have f0:=(Dx.ar 6 rfl).aT 0 Da;simp only[zg]at q0 q1 q2;have N6:=wb.add yZ.out Jq.out.w Jq.out.t yF.out;have xM:=y9 Dx.out 1 rfl mZ underlying77 underlying3 (by kernel_rfl) yF.out;rw[N6 _ _ _ Jq.out.w Jq.out.t yF.out,aB (by simp)]at xM;have rR:=te Dx.out 2 rfl underlying3 underlying76 underlying3 (λ_=>by kernel_rfl) Gg Jq.out.a;rw[aB rfl]at rR;have dq:decide (q+1>c.t)=false:=cW (by omega);go_wp2;go_roundg (n-(i+1))
    case measure=>have:=HG.out;omega
    case rel=>exact⟨i+1,m+1,_,_,_,_,by go_num,by omega,by omega,aA1,rfl,NH (i:=i) aA2.out UL.out HQ.out,λp=>by rw[SE.out.2 p,oG,oG,z7.out p],N6,Dx.tail⟩
   ·obtain⟨v0,st,w5',Kc,Dv,RW⟩:=vV HS.out 1 rfl A1 underlying77 underlying3 (λ_=>by kernel_rfl) N1.out yF.out;have sk:=aa Dv;have Cq:=aa RW;clear Dv RW;go_wp2;refine⟨⟨⟨_,(by exact Cq.out)⟩,rfl⟩,?_⟩;clear Kc;refine bP (N:=3) [9] (by kernel_rfl) ?_;simp only[zz];repeat(first|go_big_quiet_step (fail)|quiet_step (fail))
    refine ax ?_;refine bA (N:=2) 6 (by kernel_rfl) rfl ?_;have xM:=vT sk.out 1 rfl mZ underlying77 underlying3 (by kernel_rfl) yF.out;rw[AY.out]at xM;go_wp2;refine⟨⟨⟨_,(by exact Cq.out)⟩,rfl⟩,?_⟩;clear xM;refine bP (N:=1) [7] (by kernel_rfl) ?_;simp only[zz];repeat(first|go_big_quiet_step (fail)|quiet_step (fail))
    refine ax ?_;refine dK (N:=0) 10 (by kernel_rfl) rfl ?_;obtain⟨w6',gx,Cd,_⟩:=vU (u:=1) sk.out 1 rfl (by decide);unfold goInt at gx;have Dx:=aa Cd;clear Cd;go_wp2;refine step_done (by kernel_rfl) ?_;clear gx;have q0:=(Dx.ar 0 rfl).cell 0;have q1:=(Dx.ar 0 rfl).cell 1;have q2:=(Dx.ar 0 rfl).cell 2;have f0:=(Dx.ar 6 rfl).aT 0 Da;simp only[zg]at q0 q1 q2;have N6:=wb.add yZ.out Jq.out.w Jq.out.t yF.out;have xM:=y9 Dx.out 1 rfl mZ underlying77 underlying3 (by kernel_rfl) yF.out;rw[N6 _ _ _ Jq.out.w Jq.out.t yF.out,aB (by simp)]at xM;have rR:=te Dx.out 2 rfl underlying3 underlying76 underlying3 (λ_=>by kernel_rfl) Gg Jq.out.a;rw[aB rfl]at rR;have dq:decide (q+1>c.t)=false:=cW (by omega);go_wp2;go_roundg (n-(i+1))
    case measure=>have:=HG.out;omega
    case rel=>exact⟨i+1,m+1,_,_,_,_,by go_num,by omega,by omega,aA1,rfl,NH (i:=i) aA2.out UL.out HQ.out,λp=>by rw[SE.out.2 p,oG,oG,z7.out p],N6,Dx.tail⟩
  ·obtain rfl:i=n:=by omega
   have hfa:∀p,fa p=Ce L p:=λp=>by rw[UL.out p,oA (by rw[HN.out];exact dp _)]
   have UL:=aa hfa;have HEV:=aa HH.out.2.2;clear hfa z7 yZ HG z6 HW VR HH;go_wp2_with fail;refine(Tc.out _ _ (HS.pull 4 rfl)).mono ?_;rintro r w7 ⟨hf,mb,vc2,vt,rfl,hM,-⟩;have HS:=aa (HS.fr0 hf);clear hf Tc;go_wp2_with fail;refine(ay8.out _ _ _ _ hM).mono ?_;rintro r w8 ⟨ev,rfl,hF⟩;obtain⟨ea,ec,rfl⟩:=hF.form;have HS:=aa (HS.fresh hF);clear hF hM ay8;go_wp2_with fail;go_loopg [14,78] tr.length (λg v14 vi wr=>∃j:Nat,g+j=tr.length∧v14=I (j:Int)∧vi=I (j:Int)∧Sep w wr [aU 0 86 10 (.slice ea tr.length ec) tr.length (flat C.kO tr),zk2 sb m fs,Ju Tryz.prog 3 3 .i64 .i64 ab K fa,dx c ai b s,aJ cb 31 cl])
   case atStart=>exact⟨0,by omega,rfl,rfl,HS.sub [0,1,2,5,6] rfl (by decide)⟩
   case round=>
    clear HS;obtain⟨j,yy,rfl,rfl,hS⟩:=hrel;by_cases hj:j<tr.length
    ·have s9:(j:Int)<(tr.length:Int):=by omega
     have hwj:IntKind.i64.wrap ((j:Int)+1)=((j+1:Nat):Int):=by rw[bf _ (by omega) (by omega)];rfl
     have qz:=hS.row 0 rfl;obtain⟨ge,ce,e,nF⟩:∃g c,Value.slice ea tr.length ec= .slice (some ⟨g,0,none⟩) tr.length c∧g<wr.heap.size:=by
      rcases bg qz with⟨_,h0⟩|⟨g,c,e,h1,_⟩
      ·omega
      ·exact⟨g,c,e,h1⟩
     simp only[dk,true_and]at e;obtain⟨rfl,rfl⟩:=e;have c0:=jq qz hj 0 (by decide) _ rfl;have c1:=jq qz hj 1 (by decide) _ rfl;have c2:=jq qz hj 2 (by decide) _ rfl;have c3:=jq qz hj 3 (by decide) _ rfl;have c4:=jq qz hj 4 (by decide) _ rfl;have c5:=jq qz hj 5 (by decide) _ rfl;have c6:=jq qz hj 6 (by decide) _ rfl;have c7:=jq qz hj 7 (by decide) _ rfl;have c8:=jq qz hj 8 (by decide) _ rfl;have c9:=jq qz hj 9 (by decide) _ rfl;rw[qT]at c0;have hev:=HEV.out j _ (cy hj);generalize tr[j]=x at*;obtain⟨x0,⟨x1,x2,x3,x4,x5,x6⟩,⟨x7,x8,x9⟩⟩:=x;dsimp only[C.kO]at c0 c1 c2 c3 c4 c5 c6 c7 c8 c9;dsimp only at hev;have hS:=hS.new 86 [I x0,I x1,I x2,U x3,U x4,U x5,U x6,U x7,U x8,.bool x9];have HS:=aa hS;have HEJ:=aa hev;clear hS qz hev;have rR:=te HS.out 3 rfl underlying3 underlying76 underlying3 (λ_=>by kernel_rfl) ((j:Int)+1) (WalkArith.wf_i64 (by omega));have hfj:=UL.out ((j:Int)+1);generalize fa ((j:Int)+1)=q at*;by_cases Td:x2=0
     ·subst Td;by_cases Ss:x1=2
      ·subst Ss;cases x9
       ·go_wp2;go_roundg (tr.length-(j+1))
        case measure=>omega
        case rel=>exact⟨j+1,by omega,by go_num,by go_num,HS.tail⟩
       ·have yj:1≤q:=by rw[hfj];exact HEJ.out rfl rfl rfl
        have dq:decide (q<1)=false:=cW (by omega);go_wp2;go_roundg (tr.length-(j+1))
        case measure=>omega
        case rel=>exact⟨j+1,by omega,by go_num,by go_num,HS.tail⟩
      ·have d1:(x1==2)=false:=by simpa using Ss
       go_wp2;go_roundg (tr.length-(j+1))
       case measure=>omega
       case rel=>exact⟨j+1,by omega,by go_num,by go_num,HS.tail⟩
     ·have d1:(x2==0)=false:=by simpa using Td
      go_wp2;go_roundg (tr.length-(j+1))
      case measure=>omega
      case rel=>exact⟨j+1,by omega,by go_num,by go_num,HS.tail⟩
    ·obtain rfl:j=tr.length:=by omega
     have HS:=aa hS;clear hS;go_wp2_with(at_len;refine BE HS.out 1 rfl rfl _ 77 rfl underlying77 rfl ?_;intro zl rN);refine(aD1.out _ _ (HS.pull 3 rfl)).mono ?_;rintro r w9 ⟨rv,rfl,hF⟩;obtain⟨ra,rc,rfl⟩:=hF.form;have HF:=aa (HS.fresh hF).fr;have dz2:decide (zl≤rn)=true:=eP (by omega);clear hF;go_wp2;go_ret;exact⟨rfl,HF.out⟩
end Go.Proofs.YtolkmchicplaoaaGreat
namespace Go.Proofs.YtolkmchicplaoaaGreat
def own:ownKnob Tryz.prog.godebug=none:=by kernel_rfl
def laidOut:laidOutB Tryz.prog=true:=by kernel_rfl
end Go.Proofs.YtolkmchicplaoaaGreat
namespace Go.aS
open Go.RowKit Go.Deep Go.ChangeShapes Go.WideShapes Go.ChangeAt
section
variable {H:Type} {enc:TypeId×Value→H} {P:Program} {w:World} {base:Nat} {spare:Nat→Bool} {held:Bool}
def trod_array {t e:TypeId}{k fuel cs}{x:DataW H×List MemPlace}(ht:P.underlying t=some (.array k e))(h:DataW.trod enc P w base spare held fuel t cs=some x):
 ∃n,cs.length=P.cellsOf t∧∀i,i<k→∃y,DataW.trod enc P w base spare held n e ((cs.drop (i*P.cellsOf e)).take (P.cellsOf e))=some y:=by
 cases fuel with
 |zero=>simp[DataW.trod]at h
 |succ n=>
  unfold DataW.trod at h;rw[ht]at h;split at h<;>simp_all;obtain⟨hl,xs,hp,hd⟩:=h;refine⟨n,λi hi=>?_⟩;have h1:=mapM_some_get hp i i (by rw[List.getElem?_range hi]);have h2:=mapM_some_length hp;rw[List.length_range]at h2;rw[cy (show i<xs.length by omega)]at h1;exact⟨_,_,h1⟩
def ab7 {T:Type}{en:T→List Value}{n}{rE:T→Prop}{t e:TypeId}(ht:P.underlying t=some (.slice e))(hc:P.cellsOf e=n)(h0:0<n)(Bs:∀m GF x,GF.length=n→DataW.trod enc P w base spare held m e GF=some x→∃q:T,GF=en q∧rE q)
 {fuel cs}{x:DataW H×List MemPlace}(h:DataW.trod enc P w base spare held fuel t cs=some x):
 ∃v l,cs=[v]∧dB en n w v l∧(∀q∈l,rE q)∧l.length≤maxLen:=by
 rcases open_slice ht h with⟨j8,_⟩|⟨b,len,cap,m,n',D,Pl,j8,_,hl,hm,Lx,_,hi⟩
 ·exact⟨_,[],j8,⟨_,_,rfl,cE _,.inl rfl⟩,by simp,by simp⟩
 ·have zE:len≤m:=by rw[Lx];split<;>omega
  have each:∀i,i<len→∃q:T,rE q∧∀j u,(en q)[j]?=some u→w.cell? (b.add (i*n+j))=some u:=by
   intro i qL;obtain⟨GF,h1,h2⟩:=hi i (by omega);obtain⟨_,hlen,jT⟩:=World.cells?_some h1;obtain⟨q,rfl,hq⟩:=Bs _ GF _ (by rw[hlen,hc]) h2;refine⟨q,hq,λj u hj=>?_⟩;have mW:j<n:=by rw[←hc,←hlen];exact(dE.1 hj).1
   have:=jT j (by omega);rw[hc,add_add]at this;rw[this,←hj]
  by_cases S3:len=0
  ·subst S3;exact⟨_,[],j8,⟨_,_,rfl,cE _,.inl rfl⟩,by simp,by simp⟩
  ·obtain⟨q0,_,_⟩:=each 0 (by omega);have:∃q:Nat→T,∀i,i<len→rE (q i)∧∀j u,(en (q i))[j]?=some u→w.cell? (b.add (i*n+j))=some u:=by
    classical
    refine⟨λi=>if h:i<len then(each i h).choose else q0,λi hi=>?_⟩;simp only[hi,dif_pos];exact(each i hi).choose_spec
   obtain⟨q,hq⟩:=this;refine⟨_,(List.range len).map q,j8,⟨some b,cap,by simp,by simpa using hl,.inr ⟨b,rfl,?_,λi hi j u hj=>?_⟩⟩,λe he=>?_,by simp;omega⟩
   ·obtain⟨GF,h1,h2⟩:=hi 0 (by omega);obtain⟨_,hlen,jT⟩:=World.cells?_some h1;have:=jT 0 (by omega);rw[add_add]at this;have h5:=wq w _ (this.trans (cy (by omega)));simpa[Addr.add]using h5
   ·have BM:i<len:=by simpa using hi
    exact(hq i BM).2 j u (by simpa using hj)
   ·simp only[mE,oF]at he;obtain⟨i,PY,rfl⟩:=he;exact(hq i PY).1
end
end Go.aS
namespace Go.Proofs.YtolkmchicplaoaaGreat
open Go.RowKit Go.aS Go.aS.I_ Go.aS.Y Go.Deep Go.ChangeShapes Go.WideShapes Go.ChangeAt
def NF {x}(h:(Lit.int .u64 x).wf=true):W.U_ x:=by
 simp[Lit.wf,IntKind.min,IntKind.max,IntKind.signed,IntKind.bits]at h;unfold W.U_;omega
section
variable {H:Type} {enc:TypeId×Value→H} {w:World} {base:Nat} {spare:Nat→Bool} {held:Bool}
def ab8 {m cs}{x:DataW H×List MemPlace}(hl:cs.length=5)(h:DataW.trod enc Tryz.prog w base spare held m 28 cs=some x):∃q:In,cs=gl q∧W.U_ q.bN:=by
 have hk:=zf 5 28 [.int .i64,.int .i64,.int .i64,.int .i64,.int .u64] _ _ _ (by kernel_rfl) (by kernel_rfl) h;obtain⟨_,r0,rfl,⟨x0,rfl,g0⟩,n0⟩:=uD.cons hk;obtain⟨_,r1,rfl,⟨x1,rfl,g1⟩,n1⟩:=uD.cons n0;obtain⟨_,r2,rfl,⟨x2,rfl,g2⟩,n2⟩:=uD.cons n1;obtain⟨_,r3,rfl,⟨x3,rfl,g3⟩,n3⟩:=uD.cons n2;obtain⟨_,r4,rfl,⟨x4,rfl,g4⟩,n4⟩:=uD.cons n3;obtain rfl:=uD.none n4;exact⟨⟨x0,x1,x2,x3,x4⟩,rfl,NF g4⟩
def ab9 {m cs}{x:DataW H×List MemPlace}(h:DataW.trod enc Tryz.prog w base spare held m 3 cs=some x):∃q:Int,cs=CK q∧True:=by
 obtain⟨n,rfl,-,-⟩:=qR underlying3 h;exact⟨n,rfl,trivial⟩
def WC {m cs}{x:DataW H×List MemPlace}(hl:cs.length=5)(h:DataW.trod enc Tryz.prog w base spare held m 38 cs=some x):∃q:K.Call,cs=iw q∧jr q:=by
 obtain⟨c0,c1,c2,c3,c4,rfl⟩:∃c0 c1 c2 c3 c4,cs=[c0,c1,c2,c3,c4]:=by
  match cs,hl with
  |[c0,c1,c2,c3,c4],_=>exact⟨_,_,_,_,_,rfl⟩
 obtain⟨xs,n,-,-,-,GD,hf⟩:=DataW.trod_struct underlying38 h;have h0:=hf 0 _ rfl;have h1:=hf 1 _ rfl;rw[cy (show 0<xs.length by rw[GD];decide)]at h0;rw[cy (show 1<xs.length by rw[GD];decide)]at h1;have k0:Tryz.prog.cellsOf 3=1:=by kernel_rfl
 have k1:Tryz.prog.cellsOf 36=4:=by kernel_rfl
 have k2:Tryz.prog.cellsOf 26=1:=by kernel_rfl
 replace h0:DataW.trod enc Tryz.prog w base spare held n 3 ((List.drop 0 [c0,c1,c2,c3,c4]).take (Tryz.prog.cellsOf 3))=_:=h0;replace h1:DataW.trod enc Tryz.prog w base spare held n 36 ((List.drop 1 [c0,c1,c2,c3,c4]).take (Tryz.prog.cellsOf 36))=_:=h1;rw[k0]at h0;rw[k1]at h1;obtain⟨p,e0,-,-⟩:=qR underlying3 h0;obtain⟨n2,-,ha⟩:=trod_array underlying36 h1;rw[k2]at ha;obtain⟨y0,a0⟩:=ha 0 (by decide);obtain⟨y1,a1⟩:=ha 1 (by decide);obtain⟨y2,a2⟩:=ha 2 (by decide);obtain⟨y3,a3⟩:=ha 3 (by decide);obtain⟨z0,f0,-,g0⟩:=qR underlying26 a0;obtain⟨z1,f1,-,g1⟩:=qR underlying26 a1;obtain⟨z2,f2,-,g2⟩:=qR underlying26 a2;obtain⟨z3,f3,-,g3⟩:=qR underlying26 a3;simp at e0 f0 f1 f2 f3;subst e0 f0 f1 f2 f3;refine⟨⟨p,[z0,z1,z2,z3]⟩,rfl,rfl,λr hr=>?_⟩;simp only[oG,uP,or_false]at hr;rcases hr with rfl|rfl|rfl|rfl
 ·exact NF g0
 ·exact NF g1
 ·exact NF g2
 ·exact NF g3
def XQ {T:Type}{en:T→List Value}{n}{rE:T→Prop}{t e i:TypeId}(ht:Tryz.prog.underlying t=some (.slice e))(hc:Tryz.prog.cellsOf e=1)(hte:Tryz.prog.underlying e=some (.slice i))(ko:Tryz.prog.cellsOf i=n)(h0:0<n)(Bs:∀m GF x,GF.length=n→DataW.trod enc Tryz.prog w base spare held m i GF=some x→∃q:T,GF=en q∧rE q)
 {fuel a len cap}{x:DataW H×List MemPlace}(h:DataW.trod enc Tryz.prog w base spare held fuel t (Value.slice a len cap).cells.toList=some x):
 ∃(l:List (List T)),(∃vs,yH en n w (.slice a len cap) vs l∧∀p∈l,∀q∈p,rE q)∧len=l.length∧l.length≤maxLen:=by
 obtain⟨v,L,hv,h1,h2,h3⟩:=ab7 (en:=fun(q:Value×List T)=> [q.1]) (n:=1) (rE:=λq=>dB en n w q.1 q.2∧∀y∈q.2,rE y) ht hc (by decide) (λm GF x hl hx=>by
  obtain⟨v,l,e1,e2,e3,-⟩:=ab7 hte ko h0 Bs hx;exact⟨(v,l),e1,e2,e3⟩) h
 have hv2:v= .slice a len cap:=by simpa[Value.cells]using hv.symm
 subst hv2;obtain⟨a',tW,e1,e2,e3⟩:=h1;simp only[dk]at e1;obtain⟨rfl,rfl,rfl⟩:=e1;refine⟨L.map (·.2),⟨L.map (·.1),⟨⟨_,_,by rw[dD],by rw[dD];exact e2,?_⟩,by simp,λk hk=>?_⟩,λp hp q hq=>?_⟩,by simp,by simpa using h3⟩
 ·rcases e3 with e3|⟨x,rfl,hx,xL⟩
  ·left;rw[e3];rfl
  ·exact .inr ⟨x,rfl,hx,λi hi j u hj=>xL i (by simpa using hi) j u (by simpa using hj)⟩
 ·rw[dD]at hk;simp only[List.getElem_map];exact(h2 _ (cJ hk)).1
 ·rw[mE]at hp;obtain⟨z,hz,rfl⟩:=hp;exact(h2 z hz).2 q hq
def SO {fuel a len cap}{x:DataW H×List MemPlace}(h:DataW.trod enc Tryz.prog w base spare held fuel 42 (Value.slice a len cap).cells.toList=some x):
 ∃(l:List (List In)),(∃vs,yH gl 5 w (.slice a len cap) vs l∧∀p∈l,∀q∈p,W.U_ q.bN)∧len=l.length∧l.length≤maxLen:=
 XQ underlying42 (by kernel_rfl) underlying29 (by kernel_rfl) (by decide) (λm GF x hl hx=>ab8 hl hx) h
def SP {fuel a len cap}{x:DataW H×List MemPlace}(h:DataW.trod enc Tryz.prog w base spare held fuel 33 (Value.slice a len cap).cells.toList=some x):
 ∃(l:List (List K.Call)),(∃vs,yH iw 5 w (.slice a len cap) vs l∧∀p∈l,∀q∈p,jr q)∧len=l.length∧l.length≤maxLen:=
 XQ underlying33 (by kernel_rfl) underlying35 (by kernel_rfl) (by decide) (λm GF x hl hx=>WC hl hx) h
def SQ {fuel a len cap}{x:DataW H×List MemPlace}(h:DataW.trod enc Tryz.prog w base spare held fuel 23 (Value.slice a len cap).cells.toList=some x):
 ∃(l:List Int),dB CK 1 w (.slice a len cap) l∧len=l.length∧l.length≤maxLen:=by
 obtain⟨v,l,hv,h1,-,h3⟩:=ab7 (en:=CK) (n:=1) (rE:=λ_=>True) underlying23 (by kernel_rfl) (by decide) (λm GF x hl hx=>ab9 hx) h;have hv2:v= .slice a len cap:=by simpa[Value.cells]using hv.symm
 subst hv2;obtain⟨a',tW,e1⟩:=h1.len;simp only[dk]at e1;exact⟨l,h1,e1.2.1,h3⟩
end
end Go.Proofs.YtolkmchicplaoaaGreat
namespace Go.Proofs.YtolkmchicplaoaaGreat
open Go.ChangeShapes Go.WideShapes Go.ChangeAt Go.RowKit Go.Deep Go.aS
def LU (t b w f fi la v1 v2 v3 l1 l2 l3 W)(sZ:0≤fi)(w1:∃vs,yH I_.gl 5 W v1 vs l1∧∀p∈l1,∀q∈p,Go.aS.W.U_ q.bN)(w2:∃vs,yH iw 5 W v2 vs l2∧∀p∈l2,∀q∈p,jr q)(w3:dB CK 1 W v3 l3)(m1:l1.length≤maxLen)(m2:l2.length≤maxLen)(m3:l3.length≤maxLen):
 ba 6 #[.agg #[I t,I b,I w,I f,U fi,U la],v1,v2,v3] W (.bool true):=by
 obtain⟨vs1,h1,u1⟩:=w1;obtain⟨vs2,h2,u2⟩:=w2;exact LS (c:=⟨t,b,w,f,fi,la⟩) sZ h1 h2 w3 m1 m2 m3 u1 u2
def wc (os:Os)(started:os.Started)(H:Type)(enc:TypeId×Value→H):
 ReturnsInHanded {} Tryz.checked os 6 .any (Rows.wholeHelpsSpec.pre6 enc Tryz.prog Tryz.f6 Rows.wholeHelpsRow.domain false) (Rows.wholeHelpsSpec.post enc Tryz.prog Tryz.f6 false true false false):=by
 refine returnsInHanded_of_change (C:=Tryz.checked) own started (by kernel_rfl) Tryz.func6
  (ChangeSpec.witness6 (enc:=enc) (C:=Tryz.checked) false ⟨#[],#[.agg #[I 0,I 0,I 0,I 0,U 0,U 0],.slice none 0 0,.slice none 0 0,.slice none 0 0],[]⟩ 8 (by kernel_rfl) (by kernel_rfl) (by kernel_rfl) (by kernel_rfl)) ?_
 intro W base args ds gs before XU hW _ _;have ug:∀(j:Nat) t v,Tryz.f6.params[j]?=some t→args[j]?=some v→Value.okWide Tryz.prog W .any base t v:=XU;have hW':=hW;obtain⟨p,q,hA0,hV,rfl,_,_⟩:=hW;have hA:DataW.TrodAll enc Tryz.prog W 0 (λ_=>true) true Tryz.f6.params.toList args.toList ds p:=hA0;rw[Tryz.params6]at hA ug;obtain⟨v0,vs0,d0,ds0,p0,q0,bX,rfl,rfl,h0,r0⟩:=trodAll_cons hA;obtain⟨v1,vs1,d1,ds1,p1,q1,rfl,rfl,rfl,h1,r1⟩:=trodAll_cons r0;obtain⟨v2,vs2,d2,ds2,p2,q2,rfl,rfl,rfl,h2,r2⟩:=trodAll_cons r1;obtain⟨v3,vs3,d3,ds3,p3,q3,rfl,rfl,rfl,h3,r3⟩:=trodAll_cons r2;obtain⟨rfl,rfl,rfl⟩:=trodAll_nil r3;obtain rfl:args=#[v0,v1,v2,v3]:=by cases args;simp_all
 obtain⟨rfl,rfl⟩:=trodVars_none hV;obtain⟨cs0,rfl,sz0⟩:=okWide_struct underlying31 (ug 0 31 v0 rfl rfl);have k0:=h0;have lt0:∀x∈p0,x.block<W.heap.size:=by obtain⟨m,hm⟩:=k0;exact DataW.trod_lt m _ _ _ hm
 obtain⟨_,Gh⟩:=h0;have S3:=zf 5 31 [.int .i64,.int .i64,.int .i64,.int .i64,.int .u64,.int .u64] _ _ _ (by kernel_rfl) (by kernel_rfl) Gh;obtain⟨l0,rfl,NL⟩:∃l:List Value,cs0=l.toArray∧uD _ l:=⟨cs0.toList,by simp,S3⟩;clear S3 Gh;obtain⟨_,aA4,rfl,⟨av4,rfl,aA5⟩,av5⟩:=uD.cons NL;obtain⟨_,aA6,rfl,⟨av6,rfl,aA7⟩,av7⟩:=uD.cons av5;obtain⟨_,aA8,rfl,⟨av8,rfl,aA9⟩,av9⟩:=uD.cons av7;obtain⟨_,aB0,rfl,⟨aw0,rfl,aB1⟩,aw1⟩:=uD.cons av9;obtain⟨_,aB2,rfl,⟨aw2,rfl,aw3⟩,aw4⟩:=uD.cons aw1;obtain⟨_,aB3,rfl,⟨aw5,rfl,aB4⟩,aw6⟩:=uD.cons aw4;obtain rfl:=uD.none aw6;obtain⟨a1,aB5,aw7,rfl⟩:=okWide_slice underlying42 (ug 1 42 v1 rfl rfl);have k1:=h1;have lt1:∀x∈p1,x.block<W.heap.size:=by obtain⟨m,hm⟩:=k1;exact DataW.trod_lt m _ _ _ hm
 obtain⟨_,J0⟩:=h1;obtain⟨l1,w1,rfl,m1⟩:=SO J0;obtain⟨a2,aB6,aj3,rfl⟩:=okWide_slice underlying33 (ug 2 33 v2 rfl rfl);have k2:=h2;have lt2:∀x∈p2,x.block<W.heap.size:=by obtain⟨m,hm⟩:=k2;exact DataW.trod_lt m _ _ _ hm
 obtain⟨_,Ln⟩:=h2;obtain⟨l2,w2,rfl,m2⟩:=SP Ln;obtain⟨a3,aB7,aw8,rfl⟩:=okWide_slice underlying23 (ug 3 23 v3 rfl rfl);have k3:=h3;have lt3:∀x∈p3,x.block<W.heap.size:=by obtain⟨m,hm⟩:=k3;exact DataW.trod_lt m _ _ _ hm
 obtain⟨_,nW⟩:=h3;obtain⟨l3,w3,rfl,m3⟩:=SQ nW;clear hA0 XU;refine(LU av4 av6 av8 aw0 aw2 aw5 (.slice a1 l1.length aw7) (.slice a2 l2.length aj3) (.slice a3 l3.length aw8) l1 l2 l3 W (NF aw3).1 w1 w2 w3 m1 m2 m3).mono λe W' ⟨he,hf⟩=>?_;have bel:=hf.below (dp _) (by simp);subst he;exact⟨_,rfl,_,_,_,[],_,[],hW',trodAll_mk1 (shut_bool underlying4 _),(trodAll_cons_mk (Below.trod laidOut (by kernel_rfl) (oC (by kernel_rfl)) k0 bel lt0) (trodAll_cons_mk (Below.trod laidOut (by kernel_rfl) (oC (by kernel_rfl)) k1 bel lt1) (trodAll_cons_mk (Below.trod laidOut (by kernel_rfl) (oC (by kernel_rfl)) k2 bel lt2) (trodAll_cons_mk (Below.trod laidOut (by kernel_rfl) (oC (by kernel_rfl)) k3 bel lt3) trodAll_mk0)))),rfl,bel.frame _,λh=>by cases h⟩
theorem LV:Rows.WholeHelpsSaid:=
 OpenClaim.holds_of_wide 6 Tryz.f6 rfl rfl rfl rfl rfl rfl rfl ⟨rfl,rfl,rfl,rfl,rfl⟩ rfl rfl rfl rfl rfl (by kernel_rfl) Tryz.func6 (by kernel_rfl)
  (oC (by kernel_rfl)) (by unfold Func.isWrapper;first|(rw[aB (by decide+kernel)];kernel_rfl)|(rw[aq (by decide+kernel)];exact⟨rfl,rfl⟩))
  (λos started H enc _=>wc os started H enc)
