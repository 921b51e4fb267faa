/- A part of the proof. -/
import Derived.Test.YtolkmchicplaoaaGreatG02
set_option linter.all false
set_option maxHeartbeats 8000000
set_option maxRecDepth 100000
open Go.Proofs.Tryz
namespace Go.aS.H
open Go.aS.Y Go.aS.Sc
structure Inv (c:cA)(h:H):Prop where
 rE:Good c h
 Wd:0≤h.next∧h.next≤8
 Ie:h.next=3∨h.next=4∨h.next=5∨h.next=6→7≤(jt c (nth h h.k.toNat).1).1
 nil:h.next=0→h.list=[]
def z_ {c h}(hg:Good c h):∀g k,g+k=h.list.length→Inv c (gU c h g k)
 |0,k,hk=>⟨(sB hg 0 k hk).1,by simp[gU],by simp[gU],by simp[gU]⟩
 |g+1,k,hk=>by
  have mV:=(sB hg (g+1) k hk).1;unfold gU at mV⊢;split at mV
  ·rename_i h1;rw[aB h1];exact z_ hg g (k+1) (by omega)
  ·rename_i h1;rw[aq h1];refine⟨mV,?_,λ_=>?_,?_⟩
   ·dsimp only;split<;>simp
   ·have e:nth {h with k:=(k:Int),next:=if(jt c (nth h k).1).1=16∧(jt c (nth h k).1).2.1≠h.held then 3 else 5} (k:Int).toNat=nth h k:=rfl;dsimp only at e⊢;rw[e];omega
   ·dsimp only;split<;>simp
def tt {c h}(hg:Good c h)(k)(hk:k≤h.list.length):Inv c (entry c h k):=z_ hg _ _ (by omega)
def J6 {c h}(is)(hi:Inv c h):Inv c (zw is h):=by
 unfold zw;cases is
 ·obtain⟨⟨a1,a2,a3,a4,a5,a6⟩,b,e,n⟩:=hi;exact⟨⟨a1,a2,by simp,a4,a5,by simp⟩,by simp,by simp,by simp⟩
 ·exact hi
def Qo {c}(aE:Ok c){seq h}(hi:Inv c h)(v s)(hv:0≤v):Inv c (tell c seq v s h):=by
 have hc:=iI aE;obtain⟨hg,hr,he,hn⟩:=hi;obtain⟨a1,a2,a3,a4,a5,a6⟩:=id hg;unfold tell;by_cases h0:h.next=0
 ·rw[aB h0];have hl:=hn h0;unfold read;have hm:0≤min v (cap c)∧min v (cap c)≤cap c:=by omega
  rw[hl];refine⟨⟨hm.1,by dsimp only;omega,?_,by simp[hl],a5,?_⟩,?_,?_,?_⟩
  ·dsimp only;split<;>rename_i hx<;>simp at hx⊢;omega
  ·dsimp only;split<;>simp
  ·dsimp only;split<;>simp
  ·dsimp only;split<;>simp
  ·dsimp only;split<;>simp
 rw[aq h0];by_cases h1:h.next=1
 ·rw[aB h1];have hl:=a3 h1;unfold read;refine⟨⟨a1,a2,?_,by simp;omega,a5,?_⟩,?_,?_,?_⟩
  ·dsimp only;split<;>rename_i hx<;>simp at hx⊢;omega
  ·dsimp only;split<;>simp
  ·dsimp only;split<;>simp
  ·dsimp only;split<;>simp
  ·dsimp only;split<;>simp
 rw[aq h1];by_cases h2:h.next=2
 ·rw[aB h2];exact J6 _ (tt hg 0 (cE _))
 rw[aq h2];by_cases h3:h.next=3
 ·rw[aB h3];have hk:=a6 (.inl h3);exact⟨⟨a1,a2,by simp,a4,a5,λ_=>hk⟩,by simp,λ_=>he (.inl h3),by simp⟩
 rw[aq h3];by_cases h4:h.next=4
 ·rw[aB h4];have hk:=a6 (.inr (.inl h4));exact J6 _ ⟨⟨a1,a2,by simp,a4,a5,λ_=>hk⟩,by simp,λ_=>he (.inr (.inl h4)),by simp⟩
 rw[aq h4];by_cases h5:h.next=5
 ·rw[aB h5];have hk:=a6 (.inr (.inr (.inl h5)));have iZ:Good c {h with cv:=v,cs:=s,next:=6}:=⟨a1,a2,by simp,a4,a5,λ_=>hk⟩;split
  ·exact tt iZ _ (by dsimp only;omega)
  ·exact⟨iZ,by simp,λ_=>he (.inr (.inr (.inl h5))),by simp⟩
 rw[aq h5];by_cases h6:h.next=6
 ·rw[aB h6];have hk:=a6 (.inr (.inr (.inr h6)));exact tt hg _ (by omega)
 rw[aq h6];by_cases h7:h.next=7
 ·rw[aB h7];exact⟨⟨a1,a2,by simp,a4,a5,by simp⟩,by simp,by simp,by simp⟩
 rw[aq h7];exact⟨hg,hr,he,hn⟩
def Fj {c aw owner seq h}(hr:0≤h.next∧h.next≤8):(ask c aw owner seq h).2= !decide (h.next=8):=by
 unfold ask;repeat(first|(rw[aB (by assumption)];simp;omega)|(split<;>rename_i hx;(simp;omega))|(simp;omega))
def jY {c:cA}(h:Ok c){u k:Int}(hu:0≤u∧u<c.t)(hk:0≤k∧k<cap c):Is c 6 u k:=
 ⟨hu.1,by simpa[cr]using hu.2,hk.1,by simpa[aP,each]using hk.2⟩
def Qp {c kd i k}(hi:Is c kd i k):at_ c kd i k=place c kd i k:=by unfold at_;rw[aB hi]
def left (h:H):Int:=
 if h.next=1 then 5*h.n-h.list.length+2 else if h.next=2 then 4*h.list.length+2
 else if h.next=3 then 4*(h.list.length-h.k)+1 else if h.next=4 then 4*(h.list.length-h.k)else if h.next=5 then 4*(h.list.length-h.k)-1 else if h.next=6 then 4*(h.list.length-h.k)-2
 else if h.next=7 then 1 else 0
def vD (c h):∀g k,(gU c h g k).list=h.list∧(gU c h g k).n=h.n∧(gU c h g k).held=h.held∧(gU c h g k).cv=h.cv∧(gU c h g k).cs=h.cs
 |0,k=>⟨rfl,rfl,rfl,rfl,rfl⟩
 |g+1,k=>by
  unfold gU;split
  ·exact vD c h g (k+1)
  ·exact⟨rfl,rfl,rfl,rfl,rfl⟩
def pF (c h k):(entry c h k).list=h.list∧(entry c h k).n=h.n∧(entry c h k).held=h.held∧(entry c h k).cv=h.cv∧(entry c h k).cs=h.cs:=vD c h _ _
def Ck (is h):(zw is h).list=h.list∧(zw is h).n=h.n∧(zw is h).held=h.held∧(zw is h).cv=h.cv∧(zw is h).cs=h.cs:=by
 unfold zw;cases is<;>exact⟨rfl,rfl,rfl,rfl,rfl⟩
end Go.aS.H
namespace Go.aS.H
open Go.aS.Y Go.aS.Sc
def aP4 (c:cA)(seq:Int)(h:H)(l:List O3):H:=l.foldl (λh o=>tell c seq o.v o.s h) h
def Ig (c:cA)(seq:Int):H→List O3→Prop
 |_,[]=>True
 |h,o::r=>h.next≠8∧Ig c seq (tell c seq o.v o.s h) r
def Ig.snoc {c:cA}{seq:Int}:∀{h:H} {l:List O3} {o:O3},Ig c seq h l→(aP4 c seq h l).next≠8→Ig c seq h (l++[o])
 |h,[],o,_,hn=>⟨hn,trivial⟩
 |h,a::r,o,hl,hn=>⟨hl.1,Ig.snoc hl.2 hn⟩
section
variable {c:cA} {aw owner seq:Int}
def Im (h k)(hk:h.list.length≤k):entry c h k={h with next:=7}:=by
 unfold entry;rw[show h.list.length-k=0 by omega];rfl
def Io (h k)(hk:k<h.list.length):entry c h k=if(jt c (nth h k).1).1<7 then entry c h (k+1)else{h with k:=k,next:=if(jt c (nth h k).1).1=16∧(jt c (nth h k).1).2.1≠h.held then 3 else 5}:=by
 unfold entry;rw[show h.list.length-k=(h.list.length-(k+1))+1 by omega];rfl
end
end Go.aS.H
namespace Go.Proofs.YtolkmchicplaoaaGreat
open Go.RowKit Go.aS Go.aS.Y Go.aS.Sc
def rF {w0 w R}(b c)(aE:Ok c)(aw owner seq la m lc h k)(hm:m=h.list.length)(AX:m≤100000)(hk:k≤m)
 (hS:Sep w0 w (aJ b 221 (H.hL (ae c) aw owner seq (.slice la m lc) h)::aU 0 234 2 (.slice la m lc) m (flat iS h.list)::R)):
 bR 137 #[O b,I (k:Int)] w w0 (aJ b 221 (H.hL (ae c) aw owner seq (.slice la m lc) (H.entry c h k))::aU 0 234 2 (.slice la m lc) m (flat iS h.list)::R):=by
 subst hm;have rG:=aa (λp=>i_ aE p);unfold lC at rG;have aD:(ae c).length=24:=rfl;unfold aY at rG;generalize ae c=cs at*;have HS:=aa hS;clear hS;delta bR;go_in;go_wp2_with fail;go_loopg [1] (h.list.length-k) (λg vk wr=>∃j:Nat,g+j=h.list.length∧k≤j∧vk=I (j:Int)∧H.entry c h k=H.entry c h j∧Sep w0 wr (aJ b 221 (H.hL cs aw owner seq (.slice la h.list.length lc) h)::aU 0 234 2 (.slice la h.list.length lc) h.list.length (flat iS h.list)::R))
 case atStart=>exact⟨k,by omega,dp _,rfl,rfl,HS.out⟩
 case round=>
  clear HS;obtain⟨j,hg,SU,rfl,heq,hS⟩:=hrel;have HS:=aa hS;clear hS;by_cases hj:j<h.list.length
  ·have s9:(j:Int)<(h.list.length:Int):=by omega
   have mW:j<h.list.length:=by omega
   have hr:=HS.row 1 rfl;obtain⟨g0,lV⟩:∃g,la=some ⟨g,0,none⟩:=by
    rcases bg hr with⟨_,e⟩|⟨g,cap,e,_⟩
    ·omega
    ·simp only[dk]at e;exact⟨g,e.1⟩
   subst lV;have y0:=aH hr (j*2) _ (by have:=cI gy h.list j mW 0 (by decide);simpa[iS]using this);have y1:=aH hr (j*2+1) _ (by have:=cI gy h.list j mW 1 (by decide);simpa[iS]using this);have Df:=H.Io (c:=c) h j mW;have yD:H.nth h j=h.list[j]'mW:=by simp[H.nth,cO,cy mW]
   rw[yD]at Df;clear yD hr;generalize h.list[j]'mW=E_ at*;obtain⟨E1,E2⟩:=E_;dsimp only at y0 y1 Df;have HW:=aa (rG.out E1);have GK:=JC aE E1;have Wt:=Yl aE E1;generalize jt c E1=wa at HW GK Df Wt;obtain⟨BW,NS,wa3⟩:=wa;dsimp only at HW GK Df Wt;have la:=0;obtain⟨la,lV⟩:∃la:Option Addr,la=some ⟨g0,0,none⟩:=⟨_,rfl⟩;rw[←lV]at HS;have cu:=(HS.ar 0 rfl).aR aD 27 rfl rfl;have dX:=(HS.ar 0 rfl).aR aD 29 rfl rfl;have d_:=(HS.ar 0 rfl).aR aD 30 rfl rfl;have lJ:=(HS.ar 0 rfl).aR aD 33 rfl rfl;have f29:=(HS.ar 0 rfl).az 29;have f33:=(HS.ar 0 rfl).az 33;rw[lV]at cu;have hB:=HS.ar 0 rfl;have cC:=hB.drew;clear hB;go_wp2_with fail;refine bW [(1,[0,1,2,3,4,5,6,7,8,9,10,11]),(3,[12]),(0,[13,14,15,16,17,18,19])] (by kernel_rfl) ?_;simp only[zz];refine af ?_;iterate 3 (first|go_big_quiet_step (fail)|quiet_step (fail))
   refine ak 58 _ b 0 cs _ rfl rfl rfl (cm cC (by simp)) underlying58 rfl (by rw[aD];kernel_rfl) ?_;simp only[Act.put,aZ,zs];repeat go_big_quiet_step(fail)
   refine ax ?_;refine ao ?_;go_wp2_with fail;refine(HW.out _).kq HS.dr λw2 HS=>?_;go_wp2_with fail;repeat(first|go_big_quiet_step(fail)|apply ax|apply af|apply ag|apply ah)
   refine aj ?_;clear cu dX d_ lJ f29 f33 y0 y1 cC;have cu:=(HS.ar 0 rfl).aR aD 27 rfl rfl;have dX:=(HS.ar 0 rfl).aR aD 29 rfl rfl;have d_:=(HS.ar 0 rfl).aR aD 30 rfl rfl;have lJ:=(HS.ar 0 rfl).aR aD 33 rfl rfl;have f29:=(HS.ar 0 rfl).az 29;have f33:=(HS.ar 0 rfl).az 33;rw[lV]at cu;by_cases h7:BW<7
   ·rw[aB h7]at Df;go_wp2;go_roundg (h.list.length-(j+1))
    case measure=>omega
    case rel=>refine⟨j+1,by omega,by omega,by go_num,heq.trans Df,?_⟩;have:=HS.out;rw[lV]at this;exact this
   ·rw[aq h7]at Df;have Dv:=(HS.set 0 rfl 29 (I (j:Int))).set 0 rfl 33 (I 5);simp only[aL,H.an9 aD,H.km aD]at Dv;have Dw:=Dv.set 0 rfl 33 (I 3);simp only[aL,H.km aD]at Dw;have sk:=aa Dv;have eH:=aa Dw;clear Dv Dw;by_cases sH:BW=16
    ·have GG:(BW==16)=true:=by simpa using sH
     by_cases BY:NS=h.held
     ·have gh:(NS !=h.held)=false:=by simpa using BY
      rw[aq (by simp[BY])]at Df;clear sH BY;go_wp2;refine aV (v:= .tuple #[]) (by simp[results,Tryz.results137,go_sem]) rfl ?_;refine⟨rfl,?_⟩;first|exact sk.out|(have h9:=sk.out;rw[lV]at h9;exact h9)|(rw[heq,Df];have h9:=sk.out;rw[lV]at h9;exact h9)
     ·have gh:(NS !=h.held)=true:=by simpa using BY
      rw[aB ⟨sH,BY⟩]at Df;clear sH BY;go_wp2;refine aV (v:= .tuple #[]) (by simp[results,Tryz.results137,go_sem]) rfl ?_;refine⟨rfl,?_⟩;first|exact eH.out|(have h9:=eH.out;rw[lV]at h9;exact h9)|(rw[heq,Df];have h9:=eH.out;rw[lV]at h9;exact h9)
    ·have GG:(BW==16)=false:=by simpa using sH
     rw[aq (by simp[sH])]at Df;clear sH;go_wp2;refine aV (v:= .tuple #[]) (by simp[results,Tryz.results137,go_sem]) rfl ?_;refine⟨rfl,?_⟩;first|exact sk.out|(have h9:=sk.out;rw[lV]at h9;exact h9)|(rw[heq,Df];have h9:=sk.out;rw[lV]at h9;exact h9)
  ·obtain rfl:j=h.list.length:=by omega
   have Df:=H.Im (c:=c) h h.list.length (by omega);have cu:=(HS.ar 0 rfl).aR aD 27 rfl rfl;obtain⟨lJ,f33⟩:=(HS.ar 0 rfl).fe aD 33 rfl rfl;have U5:=HS.set 0 rfl 33 (I 7);simp only[aL,H.km aD]at U5;have NR:=aa U5;clear U5;go_wp2;go_end0;refine⟨rfl,?_⟩;first|exact NR.out|(rw[heq,Df];exact NR.out)
def Mq {b}(h0:0≤b)(h1:b≤100000):H.nameOf b=b+1:=by
 unfold H.nameOf;rw[ir,ir];omega
def zq22:(∀(w)(c:cA)(aE:Ok c)(b:Nat)(aw owner seq:Int)(la:Option Addr)(m lc:Nat)(L:List (Int×Int))(n:Int)(kn:Nat)(held cv cc nx:Int)(hB:cB w b 221 (H.hL (ae c) aw owner seq (.slice la m lc) ⟨L,n,kn,held,cv,cc,nx⟩))(hr:w.ownsRow 0 234 2 (.slice la m lc) m (flat iS L))(hm:m=L.length)(hg:H.Good c ⟨L,n,kn,held,cv,cc,nx⟩),(∀(kT:nx=0),ba 238 #[O b] w (.tuple #[.agg (eF (H.ask c aw owner seq ⟨L,n,kn,held,cv,cc,nx⟩).1).toArray,.bool (H.ask c aw owner seq ⟨L,n,kn,held,cv,cc,nx⟩).2]))∧(∀(kT:nx=1),ba 238 #[O b] w (.tuple #[.agg (eF (H.ask c aw owner seq ⟨L,n,kn,held,cv,cc,nx⟩).1).toArray,.bool (H.ask c aw owner seq ⟨L,n,kn,held,cv,cc,nx⟩).2]))∧(∀(kT:nx=2),ba 238 #[O b] w (.tuple #[.agg (eF (H.ask c aw owner seq ⟨L,n,kn,held,cv,cc,nx⟩).1).toArray,.bool (H.ask c aw owner seq ⟨L,n,kn,held,cv,cc,nx⟩).2]))∧(∀(kT:nx=4),ba 238 #[O b] w (.tuple #[.agg (eF (H.ask c aw owner seq ⟨L,n,kn,held,cv,cc,nx⟩).1).toArray,.bool (H.ask c aw owner seq ⟨L,n,kn,held,cv,cc,nx⟩).2]))∧(∀(kT:nx=7),ba 238 #[O b] w (.tuple #[.agg (eF (H.ask c aw owner seq ⟨L,n,kn,held,cv,cc,nx⟩).1).toArray,.bool (H.ask c aw owner seq ⟨L,n,kn,held,cv,cc,nx⟩).2]))∧(∀(kT:nx=3),ba 238 #[O b] w (.tuple #[.agg (eF (H.ask c aw owner seq ⟨L,n,kn,held,cv,cc,nx⟩).1).toArray,.bool (H.ask c aw owner seq ⟨L,n,kn,held,cv,cc,nx⟩).2]))∧(∀(kT:nx=5),ba 238 #[O b] w (.tuple #[.agg (eF (H.ask c aw owner seq ⟨L,n,kn,held,cv,cc,nx⟩).1).toArray,.bool (H.ask c aw owner seq ⟨L,n,kn,held,cv,cc,nx⟩).2]))∧(∀(kT:nx=6),ba 238 #[O b] w (.tuple #[.agg (eF (H.ask c aw owner seq ⟨L,n,kn,held,cv,cc,nx⟩).1).toArray,.bool (H.ask c aw owner seq ⟨L,n,kn,held,cv,cc,nx⟩).2]))∧(∀(kT:¬nx=0∧¬nx=1∧¬nx=2∧¬nx=3∧¬nx=4∧¬nx=5∧¬nx=6∧¬nx=7),ba 238 #[O b] w (.tuple #[.agg (eF (H.ask c aw owner seq ⟨L,n,kn,held,cv,cc,nx⟩).1).toArray,.bool (H.ask c aw owner seq ⟨L,n,kn,held,cv,cc,nx⟩).2]))):=by
 intro w c aE b aw owner seq la m lc L n kn held cv cc nx hB hr hm hg;refine⟨?Y,?X,?J,?G,?D,?V,?U,?g0,?g1⟩
 case' Y|X|J|G|D|g1|V|U|g0=>intro kT
 case' Y=>
  have rV:H.ask c aw owner seq ⟨L,n,kn,held,cv,cc,nx⟩=(⟨0,at_ c 5 owner 0,0,0,0,0⟩,true):=by first|(subst kT;simp[H.ask])|simp[H.ask,kT]
  rw[rV];clear rV;dsimp only;have HA:=aa (λw=>cx w c aE 5 owner 0)
 case' X=>
  have rV:H.ask c aw owner seq ⟨L,n,kn,held,cv,cc,nx⟩=(⟨0,at_ c 6 owner L.length,0,0,0,0⟩,true):=by first|(subst kT;simp[H.ask])|simp[H.ask,kT]
  rw[rV];clear rV;dsimp only;rw[←hm];have HA:=aa (λw=>cx w c aE 6 owner m)
 case' J|G=>have rV:H.ask c aw owner seq ⟨L,n,kn,held,cv,cc,nx⟩=(⟨0,at_ c 4 owner 0,0,0,0,0⟩,true):=by first|(subst kT;simp[H.ask])|simp[H.ask,kT]
 case' D=>have rV:H.ask c aw owner seq ⟨L,n,kn,held,cv,cc,nx⟩=(⟨2,at_ c 4 owner 0,1,seq,0,seq⟩,true):=by first|(subst kT;simp[H.ask])|simp[H.ask,kT]
 case' g1=>have rV:H.ask c aw owner seq ⟨L,n,kn,held,cv,cc,nx⟩=(p0,false):=by first|(subst kT;simp[H.ask])|simp[H.ask,kT]
 case' V=>have rV:H.ask c aw owner seq ⟨L,n,kn,held,cv,cc,nx⟩=(⟨1,at_ c 3 aw 0,0,0,H.nameOf (jt c (H.nth ⟨L,n,kn,held,cv,cc,nx⟩ (kn:Int).toNat).1).2.1,0⟩,true):=by first|(subst kT;simp[H.ask])|simp[H.ask,kT]
 case' U=>have rV:H.ask c aw owner seq ⟨L,n,kn,held,cv,cc,nx⟩=(⟨0,(H.nth ⟨L,n,kn,held,cv,cc,nx⟩ (kn:Int).toNat).1,0,0,0,0⟩,true):=by first|(subst kT;simp[H.ask])|simp[H.ask,kT]
 case' g0=>have rV:H.ask c aw owner seq ⟨L,n,kn,held,cv,cc,nx⟩=(⟨2,(H.nth ⟨L,n,kn,held,cv,cc,nx⟩ (kn:Int).toNat).1,cv,cc,(H.nth ⟨L,n,kn,held,cv,cc,nx⟩ (kn:Int).toNat).2,seq⟩,true):=by first|(subst kT;simp[H.ask])|simp[H.ask,kT]
 case' J|G|D|g1|V|U|g0=>rw[rV];clear rV
 case' J|G|D|g1=>dsimp only
 case' V|U|g0=>
  have Hg:=hg.2.2.2.2.2 (by dsimp only;omega);dsimp only at Hg;have kV:kn<L.length:=by omega
  obtain⟨g,lV⟩:∃g,la=some ⟨g,0,none⟩:=by
   rcases bg hr with⟨_,e⟩|⟨g,cap,e,_⟩
   ·omega
   ·simp only[dk]at e;exact⟨g,e.1⟩
  have NU:=aa lV;rw[lV]at hr;clear lV;have HR:Hid (∀w',Fr [] w w'→w'.cell? ⟨g,kn*2,none⟩=some (I (L[kn]'kV).1)∧w'.cell? ⟨g,kn*2+1,none⟩=some (U (L[kn]'kV).2)):=λw' f=>
   ⟨f.cell (aH hr _ _ (by have:=cI gy L kn kV 0 (by decide);simpa[iS]using this)) (by simp),f.cell (aH hr _ _ (by have:=cI gy L kn kV 1 (by decide);simpa[iS]using this)) (by simp)⟩
  have AZ:=(oz hr g rfl).2;have yD:H.nth ⟨L,n,kn,held,cv,cc,nx⟩ (kn:Int).toNat=L[kn]'kV:=by
   unfold H.nth;simp[cO,cy kV]
  have ai1:(kn:Int)<(m:Int):=by omega
  have ai2:¬g=w.heap.size:=by omega
 case' V=>have HA:=aa (λw=>cx w c aE 3 aw 0)
 case' Y|X|J|G|D|g1|V|U|g0=>have rG:=aa (λp=>i_ aE p);unfold lC at rG;have HO:=aa (λw' (f:Fr [] w w')=>eL w' c aE b aw owner seq (.slice la m lc) ⟨L,n,kn,held,cv,cc,nx⟩ (hB.fr f (by simp)));have aD:(ae c).length=24:=rfl;unfold aY at*;generalize ae c=cs at*
 case' Y|X=>generalize at_ c 4 owner 0=a4 at HO HA⊢
 case' Y=>try generalize at_ c 5 owner 0=av at HA⊢
 case' X=>try generalize at_ c 6 owner m=av at HA⊢
 case' J|G|D|g1=>generalize at_ c 4 owner 0=a4 at HO⊢;try generalize at_ c 4 owner 0=av at ⊢
 case' V=>generalize at_ c 4 owner 0=a4 at HO HA⊢;try generalize at_ c 3 aw 0=av at HA⊢
 case' U|g0=>generalize at_ c 4 owner 0=a4 at HO⊢;try generalize at_ c 4 owner 0=av at ⊢
 case' Y|X|J|G|D|g1|V|U|g0=>have hS:=(Sep.nil (Fr.refl [] w)).new 82 (eF p0);have HS:=aa hS;clear hS;have HB:=aa (λw' (f:Fr [] w w')=>hB.fr f (by simp));have uG:=hB.lt;clear hB hm hg
 case' Y|X=>subst kT
 case' J|G|D=>subst kT
 case' g1=>
  obtain⟨n0,n1,n2,n3,n4,n5,n6,n7⟩:=kT;have n0:(nx==0)=false:=by simpa using n0
  have n1:(nx==1)=false:=by simpa using n1
  have n2:(nx==2)=false:=by simpa using n2
  have n3:(nx==3)=false:=by simpa using n3
  have n4:(nx==4)=false:=by simpa using n4
  have n5:(nx==5)=false:=by simpa using n5
  have n6:(nx==6)=false:=by simpa using n6
  have n7:(nx==7)=false:=by simpa using n7
 case' V|U|g0=>rw[yD];generalize L[kn]'kV=E_ at*;obtain⟨E1,E2⟩:=E_;dsimp only at HR yD;dsimp only
 case' V=>have HW:=aa (rG.out E1);have GK:=JC aE E1;generalize jt c E1=wa at HW GK⊢;obtain⟨BW,NS,wa3⟩:=wa;dsimp only at HW GK⊢;rw[Mq GK.1 (by omega)]
 case' V|U|g0=>subst kT
 case' Y|X|J|G|D|g1|V|U|g0=>
  delta ba;go_in;go_wp2_with fail;refine(HO.out _ HS.fr).kk λw1 hf=>?_;have hS:=(HS.c_ hf).new 68 [U 1,U seq];have HS:=aa hS;clear hS hf HO;have hB:=HB.out _ HS.fr;have iF:=hB.aR aD 24 rfl rfl;have fK:=hB.aR aD 25 rfl rfl;have ee:=hB.aR aD 26 rfl rfl;have cu:=hB.aR aD 27 rfl rfl;have dX:=hB.aR aD 29 rfl rfl;have eY:=hB.aR aD 31 rfl rfl;have gK:=hB.aR aD 32 rfl rfl;have lJ:=hB.aR aD 33 rfl rfl;dsimp only at dX eY gK lJ;try rw[NU.out]at cu
  have q0:=(HS.ar 0 rfl).cell 0;have q1:=(HS.ar 0 rfl).cell 1;have S9:¬w1.heap.size=w.heap.size:=HS.ne 0 1 rfl rfl (by decide);simp only[zg]at q0 q1;have cC:=hB.drew;have pg:¬b=w.heap.size:=by omega
  clear hB
 case' Y|X=>go_wp2_with fail
 case' Y=>refine dq [(1,[0,1,2,3,4,5,6,7]),(3,[8]),(0,[9]),(3,[10]),(0,[11])] [w.heap.size] (by kernel_rfl) (by kernel_rfl) ?_;simp only[zz]
 case' X=>refine dq [(1,[0,1,2,3,4,5,6,7,8,9,10,11,12]),(3,[13]),(0,[14]),(3,[15]),(0,[16])] [w.heap.size] (by kernel_rfl) (by kernel_rfl) ?_;simp only[zz]
 case' J|G=>have fD:=dg ⟨0,a4,0,0,0,0⟩;go_wp2_with(first|(refine aC HS.out 1 rfl (eF ⟨0,a4,0,0,0,0⟩) 82 _ _ rfl rfl rfl rfl rfl (by kernel_rfl) fD (λwA hA _=>?_);have HS:=aa hA;clear hA))
 case' D=>
  go_wp2_with fail;refine dq [(1,[0,1,2,3,4,5,6,7]),(3,[8]),(0,[9])] [w.heap.size] (by kernel_rfl) (by kernel_rfl) ?_;simp only[zz];repeat(first|go_big_quiet_step(fail)|quiet_step(fail)|apply ax|apply af|apply ag|apply ah)
  refine ao ?_;have HS:=aa HS.drew;have fD:=dg ⟨2,a4,1,seq,0,seq⟩;refine aC HS.out 1 rfl (eF ⟨2,a4,1,seq,0,seq⟩) 82 _ _ rfl rfl rfl rfl rfl (by kernel_rfl) fD (λwA hA _=>?_);have HS:=aa hA;clear hA;go_wp2_with fail;repeat(first|go_big_quiet_step(fail)|quiet_step(fail)|apply ax|apply af|apply ag|apply ah)
  refine aj ?_;go_wp2_with fail
 case' g1=>have fD:=dg p0;go_wp2_with(first|(refine aC HS.out 1 rfl (eF p0) 82 _ _ rfl rfl rfl rfl rfl (by kernel_rfl) fD (λwA hA _=>?_);have HS:=aa hA;clear hA))
 case' V|U|g0=>obtain⟨y0,y1⟩:=HR.out _ HS.fr;go_wp2_with fail
 case' V=>refine bW [(1,[0,1,2,3,4,5,6,7,8,9,10,11,12,13,14]),(3,[15]),(0,[16,17,18,19,20,21,22])] (by kernel_rfl) ?_;simp only[zz]
 case' U=>refine dq [(1,[0,1,2,3,4,5,6,7,8,9,10,11]),(3,[12]),(0,[13])] [w.heap.size] (by kernel_rfl) (by kernel_rfl) ?_
 case' g0=>refine dq [(1,[0,1,2,3,4,5,6,7,8,9,10,11,12,13,14,15,16,17,18,19,20,21,22,23,24,25,26,27,28,29,30,31]),(3,[32]),(0,[33])] [w.heap.size] (by kernel_rfl) (by kernel_rfl) ?_
 case' U|g0=>
  simp only[zz];repeat(first|go_big_quiet_step(fail)|quiet_step(fail)|apply ax|apply af|apply ag|apply ah)
  refine ao ?_;have HS:=aa HS.drew
 case' U=>have fD:=dg ⟨0,E1,0,0,0,0⟩;refine aC HS.out 1 rfl (eF ⟨0,E1,0,0,0,0⟩) 82 _ _ rfl rfl rfl rfl rfl (by kernel_rfl) fD (λwA hA _=>?_)
 case' g0=>have fD:=dg ⟨2,E1,cv,cc,E2,seq⟩;refine aC HS.out 1 rfl (eF ⟨2,E1,cv,cc,E2,seq⟩) 82 _ _ rfl rfl rfl rfl rfl (by kernel_rfl) fD (λwA hA _=>?_)
 case' U|g0=>
  have HS:=aa hA;clear hA;go_wp2_with fail;repeat(first|go_big_quiet_step(fail)|quiet_step(fail)|apply ax|apply af|apply ag|apply ah)
  refine aj ?_;go_wp2_with fail
 case' Y|X=>
  refine af ?_;iterate 3 (first|go_big_quiet_step (fail)|quiet_step (fail))
  refine ak 58 _ b 0 cs _ rfl rfl rfl (cm cC (by simp<;>omega)) underlying58 rfl (by rw[aD];kernel_rfl) ?_;simp only[Act.put,aZ,zs];repeat(first|go_big_quiet_step (fail)|quiet_step (fail))
  refine ax ?_;refine ao ?_;go_wp2_with fail;refine(HA.out _).kq HS.dr λw2 HS=>?_;go_wp2_with fail;repeat(first|go_big_quiet_step(fail)|quiet_step(fail)|apply ax|apply af|apply ag|apply ah)
  refine ao ?_;have fD:=dg ⟨0,av,0,0,0,0⟩;refine aC HS.out 1 rfl (eF ⟨0,av,0,0,0,0⟩) 82 _ _ rfl rfl rfl rfl rfl (by kernel_rfl) fD (λwA hA _=>?_);have HS:=aa hA;clear hA;go_wp2_with fail;repeat(first|go_big_quiet_step(fail)|quiet_step(fail)|apply ax|apply af|apply ag|apply ah)
  refine aj ?_;go_wp2_with fail;exact aV (v:= .tuple #[.agg (eF ⟨0,av,0,0,0,0⟩).toArray,.bool true]) (bj Tryz.results238 rfl rfl (HS.ar 1 rfl).range underlying82 rfl (by kernel_rfl)) rfl ⟨rfl,HS.fr⟩
 case' J|G=>exact aV (v:= .tuple #[.agg (eF ⟨0,a4,0,0,0,0⟩).toArray,.bool true]) (bj Tryz.results238 rfl rfl (HS.ar 1 rfl).range underlying82 rfl (by kernel_rfl)) rfl ⟨rfl,HS.fr⟩
 case' D=>exact aV (v:= .tuple #[.agg (eF ⟨2,a4,1,seq,0,seq⟩).toArray,.bool true]) (bj Tryz.results238 rfl rfl (HS.ar 1 rfl).range underlying82 rfl (by kernel_rfl)) rfl ⟨rfl,HS.fr⟩
 case' g1=>exact aV (v:= .tuple #[.agg (eF p0).toArray,.bool false]) (bj Tryz.results238 rfl rfl (HS.ar 1 rfl).range underlying82 rfl (by kernel_rfl)) rfl ⟨rfl,HS.fr⟩
 case' V=>
  refine af ?_;iterate 3 (first|go_big_quiet_step (fail)|quiet_step (fail))
  refine ak 58 _ b 0 cs _ rfl rfl rfl (cm cC (by simp<;>omega)) underlying58 rfl (by rw[aD];kernel_rfl) ?_;simp only[Act.put,aZ,zs];repeat(first|go_big_quiet_step (fail)|quiet_step (fail))
  refine ax ?_;refine ao ?_;go_wp2_with fail;refine(HW.out _).kq HS.dr λw2 HS=>?_;go_wp2_with fail;repeat(first|go_big_quiet_step(fail)|quiet_step(fail)|apply ax|apply af|apply ag|apply ah)
  refine aj ?_;clear y0 y1 iF fK ee cu dX eY gK lJ q0 q1 S9 cC pg;have hB:=HB.out _ HS.fr;have iF:=hB.aR aD 24 rfl rfl;have fK:=hB.aR aD 25 rfl rfl;have ee:=hB.aR aD 26 rfl rfl;have cu:=hB.aR aD 27 rfl rfl;have dX:=hB.aR aD 29 rfl rfl;have eY:=hB.aR aD 31 rfl rfl;have gK:=hB.aR aD 32 rfl rfl;have lJ:=hB.aR aD 33 rfl rfl;dsimp only at dX eY gK lJ;try rw[NU.out]at cu
  have q0:=(HS.ar 0 rfl).cell 0;have q1:=(HS.ar 0 rfl).cell 1;have S9:¬w1.heap.size=w.heap.size:=HS.ne 0 1 rfl rfl (by decide);simp only[zg]at q0 q1;have cC:=hB.drew;have pg:¬b=w.heap.size:=by omega
  clear hB;go_wp2_with fail;refine dq [(1,[0,1,2,3,4,5,6,7]),(0,[9,10,11,12]),(3,[8]),(0,[13]),(3,[14]),(0,[15])] [w.heap.size] (by kernel_rfl) (by kernel_rfl) ?_;simp only[zz];refine af ?_;iterate 3 (first|go_big_quiet_step (fail)|quiet_step (fail))
  refine ak 58 _ b 0 cs _ rfl rfl rfl (cm cC (by simp<;>omega)) underlying58 rfl (by rw[aD];kernel_rfl) ?_;simp only[Act.put,aZ,zs];repeat(first|go_big_quiet_step (fail)|quiet_step (fail))
  refine ax ?_;repeat(first|go_big_quiet_step(fail)|quiet_step(fail)|apply ax|apply af|apply ag|apply ah)
  refine ao ?_;go_wp2_with fail;refine(HA.out _).kq HS.dr λw3 HS=>?_;go_wp2_with fail;repeat(first|go_big_quiet_step(fail)|quiet_step(fail)|apply ax|apply af|apply ag|apply ah)
  refine ao ?_;have fD:=dg ⟨1,av,0,0,NS+1,0⟩;refine aC HS.out 1 rfl (eF ⟨1,av,0,0,NS+1,0⟩) 82 _ _ rfl rfl rfl rfl rfl (by kernel_rfl) fD (λwA hA _=>?_);have HS:=aa hA;clear hA;go_wp2_with fail;repeat(first|go_big_quiet_step(fail)|quiet_step(fail)|apply ax|apply af|apply ag|apply ah)
  refine aj ?_;go_wp2_with fail;exact aV (v:= .tuple #[.agg (eF ⟨1,av,0,0,NS+1,0⟩).toArray,.bool true]) (bj Tryz.results238 rfl rfl (HS.ar 1 rfl).range underlying82 rfl (by kernel_rfl)) rfl ⟨rfl,HS.fr⟩
 case' U=>exact aV (v:= .tuple #[.agg (eF ⟨0,E1,0,0,0,0⟩).toArray,.bool true]) (bj Tryz.results238 rfl rfl (HS.ar 1 rfl).range underlying82 rfl (by kernel_rfl)) rfl ⟨rfl,HS.fr⟩
 exact aV (v:= .tuple #[.agg (eF ⟨2,E1,cv,cc,E2,seq⟩).toArray,.bool true]) (bj Tryz.results238 rfl rfl (HS.ar 1 rfl).range underlying82 rfl (by kernel_rfl)) rfl ⟨rfl,HS.fr⟩
def Zf(w c aE b aw owner seq la m lc L n kn held cv cc nx hB hr hm hg):=(@zq22 w c aE b aw owner seq la m lc L n kn held cv cc nx hB hr hm hg).1
def Zg(w c aE b aw owner seq la m lc L n kn held cv cc nx hB hr hm hg):=(@zq22 w c aE b aw owner seq la m lc L n kn held cv cc nx hB hr hm hg).2.1
def Zh(w c aE b aw owner seq la m lc L n kn held cv cc nx hB hr hm hg):=(@zq22 w c aE b aw owner seq la m lc L n kn held cv cc nx hB hr hm hg).2.2.1
def Zi(w c aE b aw owner seq la m lc L n kn held cv cc nx hB hr hm hg):=(@zq22 w c aE b aw owner seq la m lc L n kn held cv cc nx hB hr hm hg).2.2.2.1
def Zj(w c aE b aw owner seq la m lc L n kn held cv cc nx hB hr hm hg):=(@zq22 w c aE b aw owner seq la m lc L n kn held cv cc nx hB hr hm hg).2.2.2.2.1
def Zk(w c aE b aw owner seq la m lc L n kn held cv cc nx hB hr hm hg):=(@zq22 w c aE b aw owner seq la m lc L n kn held cv cc nx hB hr hm hg).2.2.2.2.2.1
def Zl(w c aE b aw owner seq la m lc L n kn held cv cc nx hB hr hm hg):=(@zq22 w c aE b aw owner seq la m lc L n kn held cv cc nx hB hr hm hg).2.2.2.2.2.2.1
def Zm(w c aE b aw owner seq la m lc L n kn held cv cc nx hB hr hm hg):=(@zq22 w c aE b aw owner seq la m lc L n kn held cv cc nx hB hr hm hg).2.2.2.2.2.2.2.1
def Zn(w c aE b aw owner seq la m lc L n kn held cv cc nx hB hr hm hg):=(@zq22 w c aE b aw owner seq la m lc L n kn held cv cc nx hB hr hm hg).2.2.2.2.2.2.2.2
def Qq (w c)(aE:Ok c)(b aw owner seq v h)(hB:cB w b 221 (H.hL (ae c) aw owner seq v h))(hr:w.ownsRow 0 234 2 v h.list.length (flat iS h.list))(hg:H.Good c h):
 ba 238 #[O b] w (.tuple #[.agg (eF (H.ask c aw owner seq h).1).toArray,.bool (H.ask c aw owner seq h).2]):=by
 obtain⟨L,n,k,held,cv,cc,nx⟩:=h;obtain⟨kn,hk⟩:∃kn:Nat,k=(kn:Int):=⟨k.toNat,by have:=hg.2.2.2.2.1;dsimp only at this;omega⟩;subst hk;obtain⟨la,lc,rfl⟩:=cY hr;by_cases e0:nx=0
 ·exact Zf w c aE b aw owner seq la _ lc L n kn held cv cc nx hB hr rfl hg e0
 by_cases e1:nx=1
 ·exact Zg w c aE b aw owner seq la _ lc L n kn held cv cc nx hB hr rfl hg e1
 by_cases e2:nx=2
 ·exact Zh w c aE b aw owner seq la _ lc L n kn held cv cc nx hB hr rfl hg e2
 by_cases e3:nx=3
 ·exact Zk w c aE b aw owner seq la _ lc L n kn held cv cc nx hB hr rfl hg e3
 by_cases e4:nx=4
 ·exact Zi w c aE b aw owner seq la _ lc L n kn held cv cc nx hB hr rfl hg e4
 by_cases e5:nx=5
 ·exact Zl w c aE b aw owner seq la _ lc L n kn held cv cc nx hB hr rfl hg e5
 by_cases e6:nx=6
 ·exact Zm w c aE b aw owner seq la _ lc L n kn held cv cc nx hB hr rfl hg e6
 by_cases e7:nx=7
 ·exact Zj w c aE b aw owner seq la _ lc L n kn held cv cc nx hB hr rfl hg e7
 exact Zn w c aE b aw owner seq la _ lc L n kn held cv cc nx hB hr rfl hg ⟨e0,e1,e2,e3,e4,e5,e6,e7⟩
def eu (c:cA)(aw owner seq:Int)(b:Nat)(h:H.H):a_:=
 EG (λv:Value=>t_ (aJ b 221 (H.hL (ae c) aw owner seq v h)) (aU 0 234 2 v h.list.length (flat iS h.list)))
def jx {w0 w R c aw owner seq b h}(hS:Sep w0 w (eu c aw owner seq b h::R)):
 ∃la lc,Sep w0 w (aJ b 221 (H.hL (ae c) aw owner seq (.slice la h.list.length lc) h)::aU 0 234 2 (.slice la h.list.length lc) h.list.length (flat iS h.list)::R):=by
 obtain⟨v,h1⟩:=hS.rZ;have h2:=h1.vf;obtain⟨la,lc,rfl⟩:=h2.form 1 rfl;exact⟨la,lc,h2⟩
def jy {w0 w R c aw owner seq b h v n}(hn:n=h.list.length)
 (hS:Sep w0 w (aJ b 221 (H.hL (ae c) aw owner seq v h)::aU 0 234 2 v n (flat iS h.list)::R)):Sep w0 w (eu c aw owner seq b h::R):=by
 subst hn;exact Sep.qX (A:=Value) (λv=>t_ (aJ b 221 (H.hL (ae c) aw owner seq v h)) (aU 0 234 2 v h.list.length (flat iS h.list))) hS.sy
def vE (w a b x y):(binOp .eql 68 (.agg #[U a,U b]) (.agg #[U x,U y])).run Tryz.prog w= .ok (.bool (decide (a=x∧b=y))) w:=by
 have h2:=underlying68;have h4:=underlying26;have p2:Tryz.prog.stoodInHeld 68=false:=by kernel_rfl
 simp only[run_eql_struct];rw[run_equalIn_struct w 9999 68 _ _ (by unfold Program.fieldsOf;rw[h2]) p2];simp[Program.fieldsOf,h2,h4,p2,Op.eqFields,go_sem];repeat(first|rfl|(split<;>simp_all))
def lR (x)(h0:0≤x)(h1:x≤18446744073709551615):IntKind.u64.wrap x=x:=by rw[ir];omega
def xU:(Tryz.prog.info? 234).map (λi=>(i.zero,i.size,i.bytes))=some (some (.agg #[I 0,U 0]),2,16):=by kernel_rfl
def zq23:(∀{w0 w R}(b:Nat)(c:cA)(aE:Ok c)(aw owner seq:Int)(L:List (Int×Int))(n:Int)(kn:Nat)(held cv cc nx x s:Int)(ok:Bool)(hx:0≤x∧x≤18446744073709551615)(hs:0≤s)(hg:H.Good c ⟨L,n,kn,held,cv,cc,nx⟩),(∀(kT:nx=3)(hS:Sep w0 w (eu c aw owner seq b ⟨L,n,kn,held,cv,cc,nx⟩::R)),bR 239 #[O b,.agg #[U x,U s,.bool ok]] w w0 (eu c aw owner seq b (H.tell c seq x s ⟨L,n,kn,held,cv,cc,nx⟩)::R))∧(∀(kT:nx=7)(hS:Sep w0 w (eu c aw owner seq b ⟨L,n,kn,held,cv,cc,nx⟩::R)),bR 239 #[O b,.agg #[U x,U s,.bool ok]] w w0 (eu c aw owner seq b (H.tell c seq x s ⟨L,n,kn,held,cv,cc,nx⟩)::R))∧(∀(kT:nx=6)(hS:Sep w0 w (eu c aw owner seq b ⟨L,n,kn,held,cv,cc,nx⟩::R)),bR 239 #[O b,.agg #[U x,U s,.bool ok]] w w0 (eu c aw owner seq b (H.tell c seq x s ⟨L,n,kn,held,cv,cc,nx⟩)::R))∧(∀(kT:nx=0)(hS:Sep w0 w (eu c aw owner seq b ⟨L,n,kn,held,cv,cc,nx⟩::R)),bR 239 #[O b,.agg #[U x,U s,.bool ok]] w w0 (eu c aw owner seq b (H.tell c seq x s ⟨L,n,kn,held,cv,cc,nx⟩)::R))∧(∀(kT:nx=1)(hS:Sep w0 w (eu c aw owner seq b ⟨L,n,kn,held,cv,cc,nx⟩::R)),bR 239 #[O b,.agg #[U x,U s,.bool ok]] w w0 (eu c aw owner seq b (H.tell c seq x s ⟨L,n,kn,held,cv,cc,nx⟩)::R))∧(∀(kT:nx=2)(hS:Sep w0 w (eu c aw owner seq b ⟨L,n,kn,held,cv,cc,nx⟩::R)),bR 239 #[O b,.agg #[U x,U s,.bool ok]] w w0 (eu c aw owner seq b (H.tell c seq x s ⟨L,n,kn,held,cv,cc,nx⟩)::R))∧(∀(kT:nx=4)(hS:Sep w0 w (eu c aw owner seq b ⟨L,n,kn,held,cv,cc,nx⟩::R)),bR 239 #[O b,.agg #[U x,U s,.bool ok]] w w0 (eu c aw owner seq b (H.tell c seq x s ⟨L,n,kn,held,cv,cc,nx⟩)::R))∧(∀(kT:nx=5)(hS:Sep w0 w (eu c aw owner seq b ⟨L,n,kn,held,cv,cc,nx⟩::R)),bR 239 #[O b,.agg #[U x,U s,.bool ok]] w w0 (eu c aw owner seq b (H.tell c seq x s ⟨L,n,kn,held,cv,cc,nx⟩)::R))∧(∀(kT:nx=8)(hS:Sep w0 w (eu c aw owner seq b ⟨L,n,kn,held,cv,cc,nx⟩::R)),bR 239 #[O b,.agg #[U x,U s,.bool ok]] w w0 (eu c aw owner seq b (H.tell c seq x s ⟨L,n,kn,held,cv,cc,nx⟩)::R))):=by
 intro w0 w R b c aE aw owner seq L n kn held cv cc nx x s ok hx hs hg;refine⟨?Y,?X,?J,?G,?D,?V,?U,?g0,?g1⟩
 case' g0=>intro kT hS;subst kT;have fu:=hg.2.2.2.2.2 (by simp);dsimp only at fu;obtain⟨h',Ij⟩:∃h',h'=H.tell c seq x s ⟨L,n,kn,held,cv,cc,5⟩:=⟨_,rfl⟩;rw[←Ij];have NV:=H.pF c ⟨L,n,kn,held,x,s,6⟩ (kn+1)
 case' g0=>by_cases Zo:seq≤s;refine ?g2;rotate_left;refine ?g3
 case' Y|X|g1|J|D|U|G|V=>intro kT hS;subst kT
 case' Y=>have lK:H.tell c seq x s ⟨L,n,kn,held,cv,cc,3⟩=⟨L,n,kn,-1,cv,cc,4⟩:=by simp[H.tell]
 case' X=>have lK:H.tell c seq x s ⟨L,n,kn,held,cv,cc,7⟩=⟨L,n,kn,held,cv,cc,8⟩:=by simp[H.tell]
 case' g1=>have lK:H.tell c seq x s ⟨L,n,kn,held,cv,cc,8⟩=⟨L,n,kn,held,cv,cc,8⟩:=by simp[H.tell]
 case' J=>have fu:=hg.2.2.2.2.2 (by simp);dsimp only at fu;have lK:H.tell c seq x s ⟨L,n,kn,held,cv,cc,6⟩=H.entry c ⟨L,n,kn,held,cv,cc,6⟩ (kn+1):=by simp[H.tell]
 case' Y|X|g1|J=>rw[lK];clear lK
 case' D=>
  have lK:H.tell c seq x s ⟨L,n,kn,held,cv,cc,1⟩=H.read ⟨L++[(H.placeOf s,x)],n,kn,held,cv,cc,1⟩:=by simp[H.tell]
  rw[lK];clear lK;obtain⟨ti0,iJ,jA,jB,iR⟩:=eA xU
 case' U=>
  have fu:=hg.2.2.2.2.2 (by simp);dsimp only at fu;have kV:kn<L.length:=by omega
  have yD:∀n held cv cc nx,H.nth ⟨L,n,kn,held,cv,cc,nx⟩ (kn:Int).toNat=L[kn]'kV:=λ_ _ _ _ _=>by
   unfold H.nth;simp[cO,cy kV]
  have lK:H.tell c seq x s ⟨L,n,kn,held,cv,cc,4⟩=H.zw (decide (x=1∧s=seq)) ⟨L,n,kn,(jt c (L[kn]'kV).1).2.1,cv,cc,5⟩:=by simp[H.tell,H.nth,cO,cy kV]
  rw[lK];clear lK;have rG:=aa (λp=>i_ aE p);unfold lC at rG;generalize Ii:decide (x=1∧s=seq)=is at*;have W7:=aa Ii;clear Ii
 case' G=>
  have Uh:=iI aE;have lK:H.tell c seq x s ⟨L,n,kn,held,cv,cc,0⟩=H.read ⟨L,min x (cap c),kn,held,cv,cc,0⟩:=by simp[H.tell]
  rw[lK];clear lK;have S_:=aa (λw=>uY w c aE)
 case' V=>
  have NV:=H.pF c ⟨L,n,kn,held,cv,cc,2⟩ 0;have lK:H.tell c seq x s ⟨L,n,kn,held,cv,cc,2⟩=H.zw (decide (x=1∧s=seq)) (H.entry c ⟨L,n,kn,held,cv,cc,2⟩ 0):=by simp[H.tell]
  rw[lK];clear lK;have Ih:=H.Ck (decide (x=1∧s=seq)) (H.entry c ⟨L,n,kn,held,cv,cc,2⟩ 0);generalize Ii:decide (x=1∧s=seq)=is at*;have W7:=aa Ii;clear Ii
 case' g2=>
  have lK:h'=H.entry c ⟨L,n,kn,held,x,s,6⟩ (kn+1):=by rw[Ij];simp[H.tell,Zo]
  have dss:decide (s≥seq)=true:=by simpa using Zo
  rw[lK];clear Ij lK Zo
 case' g3=>
  have lK:h'=⟨L,n,kn,held,x,s,6⟩:=by rw[Ij];simp[H.tell,Zo]
  have dss:decide (s≥seq)=false:=by simpa using Zo
  rw[lK];clear Ij lK Zo NV
 case' Y|X|g1|J|D|U|G|V|g2|g3=>
  obtain⟨la,lc,hS⟩:=jx hS;dsimp only at hS;have PC:((L.length:Nat):Int)≤100000:=by have:=hg.2.2.2.1;dsimp only at this;omega
  have dQ:=aa (λw' (R':List a_) (v:Value) (n':Nat) (h':H.H) (hn:n'=h'.list.length) (hS:Sep w0 w' (aJ b 221 (H.hL (ae c) aw owner seq v h')::aU 0 234 2 v n' (flat iS h'.list)::R'))=>jy (c:=c) hn hS)
 case' Y=>have HO:=aa (fun(w':World) (hB:cB w' b 221 (H.hL (ae c) aw owner seq (.slice la L.length lc) ⟨L,n,kn,held,cv,cc,3⟩))=>eL w' c aE b aw owner seq (.slice la L.length lc) ⟨L,n,kn,held,cv,cc,3⟩ hB)
 case' X=>have HO:=aa (fun(w':World) (hB:cB w' b 221 (H.hL (ae c) aw owner seq (.slice la L.length lc) ⟨L,n,kn,held,cv,cc,7⟩))=>eL w' c aE b aw owner seq (.slice la L.length lc) ⟨L,n,kn,held,cv,cc,7⟩ hB)
 case' g1=>have HO:=aa (fun(w':World) (hB:cB w' b 221 (H.hL (ae c) aw owner seq (.slice la L.length lc) ⟨L,n,kn,held,cv,cc,8⟩))=>eL w' c aE b aw owner seq (.slice la L.length lc) ⟨L,n,kn,held,cv,cc,8⟩ hB)
 case' J=>have HO:=aa (fun(w':World) (hB:cB w' b 221 (H.hL (ae c) aw owner seq (.slice la L.length lc) ⟨L,n,kn,held,cv,cc,6⟩))=>eL w' c aE b aw owner seq (.slice la L.length lc) ⟨L,n,kn,held,cv,cc,6⟩ hB)
 case' D=>have HO:=aa (fun(w':World) (hB:cB w' b 221 (H.hL (ae c) aw owner seq (.slice la L.length lc) ⟨L,n,kn,held,cv,cc,1⟩))=>eL w' c aE b aw owner seq (.slice la L.length lc) ⟨L,n,kn,held,cv,cc,1⟩ hB)
 case' U=>have HO:=aa (fun(w':World) (hB:cB w' b 221 (H.hL (ae c) aw owner seq (.slice la L.length lc) ⟨L,n,kn,held,cv,cc,4⟩))=>eL w' c aE b aw owner seq (.slice la L.length lc) ⟨L,n,kn,held,cv,cc,4⟩ hB)
 case' G=>have HO:=aa (fun(w':World) (hB:cB w' b 221 (H.hL (ae c) aw owner seq (.slice la L.length lc) ⟨L,n,kn,held,cv,cc,0⟩))=>eL w' c aE b aw owner seq (.slice la L.length lc) ⟨L,n,kn,held,cv,cc,0⟩ hB)
 case' V=>have HO:=aa (fun(w':World) (hB:cB w' b 221 (H.hL (ae c) aw owner seq (.slice la L.length lc) ⟨L,n,kn,held,cv,cc,2⟩))=>eL w' c aE b aw owner seq (.slice la L.length lc) ⟨L,n,kn,held,cv,cc,2⟩ hB)
 case' g2|g3=>have HO:=aa (fun(w':World) (hB:cB w' b 221 (H.hL (ae c) aw owner seq (.slice la L.length lc) ⟨L,n,kn,held,cv,cc,5⟩))=>eL w' c aE b aw owner seq (.slice la L.length lc) ⟨L,n,kn,held,cv,cc,5⟩ hB)
 case' Y|X|g1|J|D|U|G|V|g2|g3=>have aD:(ae c).length=24:=rfl;generalize at_ c 4 owner 0=a4 at HO;have HS:=aa (hS.new 84 [U x,U s,.bool ok]);clear hS
 case' Y=>generalize ox:eu c aw owner seq b ⟨L,n,kn,-1,cv,cc,4⟩=TH
 case' X|g1=>generalize ox:eu c aw owner seq b ⟨L,n,kn,held,cv,cc,8⟩=TH
 case' Y|X|g1=>have Dn:=aa (dQ.out);clear dQ
 case' J=>have NV:=H.pF c ⟨L,n,kn,held,cv,cc,6⟩ (kn+1);have HE:=aa (λw' (R':List a_) hS=>rF (w0:=w0) (w:=w') (R:=R') b c aE aw owner seq la L.length lc ⟨L,n,kn,held,cv,cc,6⟩ (kn+1) rfl (by omega) (by omega) hS);generalize H.entry c ⟨L,n,kn,held,cv,cc,6⟩ (kn+1)=he at*;generalize ox:eu c aw owner seq b he=TH
 case' D=>have Xf:=aa (λw=>K6 w s hs);generalize H.placeOf s=ps at*;have nX:=aa (λw' (R':List a_) (la:Option Addr) (m lc:Nat) (hm:m=(L++[(ps,x)]).length) hS=>BX (w0:=w0) (w:=w') (R:=R') b (ae c) aD aw owner seq la m lc ⟨L++[(ps,x)],n,kn,held,cv,cc,1⟩ hm hS);have nR:(H.read ⟨L++[(ps,x)],n,kn,held,cv,cc,1⟩).list=L++[(ps,x)]:=rfl;generalize H.read ⟨L++[(ps,x)],n,kn,held,cv,cc,1⟩=hr at*;generalize ox:eu c aw owner seq b hr=TH
 case' U=>have HU:=aa (λw' (R':List a_) h' is hS=>xN (w0:=w0) (w:=w') (R:=R') b (ae c) aD aw owner seq (.slice la L.length lc) h' is hS);have hLk:Hid (L[kn]'kV=L[kn]'kV):=rfl;have AY:=aa (fun(w':World) (g lc:Nat) (hr:w'.ownsRow 0 234 2 (.slice (some ⟨g,0,none⟩) L.length lc) L.length (flat iS L))=>aH hr (kn*2) _ (by have:=cI gy L kn kV 0 (by decide);simpa[iS]using this));generalize L[kn]'kV=E_ at*;obtain⟨E1,E2⟩:=E_;dsimp only at AY;have HW:=aa (rG.out E1);generalize jt c E1=wa at*;obtain⟨BW,NS,wa3⟩:=wa;dsimp only at HW;dsimp only;unfold aY at HW;have Ih:=H.Ck is ⟨L,n,kn,NS,cv,cc,5⟩;generalize ox:eu c aw owner seq b (H.zw is ⟨L,n,kn,NS,cv,cc,5⟩)=TH
 case' G=>
  generalize cap c=cp at*;have G9:(if cp<x then cp else x)=min x cp:=by split<;>omega
  have Xe:0≤min x cp∧min x cp≤cp:=by omega
  generalize min x cp=mn at*;have nX:=aa (λw' (R':List a_) hS=>BX (w0:=w0) (w:=w') (R:=R') b (ae c) aD aw owner seq la L.length lc ⟨L,mn,kn,held,cv,cc,0⟩ rfl hS);have nR:(H.read ⟨L,mn,kn,held,cv,cc,0⟩).list=L:=rfl;generalize H.read ⟨L,mn,kn,held,cv,cc,0⟩=hr at*;generalize ox:eu c aw owner seq b hr=TH;unfold aY at S_
 case' V=>have HE:=aa (λw' (R':List a_) hS=>rF (w0:=w0) (w:=w') (R:=R') b c aE aw owner seq la L.length lc ⟨L,n,kn,held,cv,cc,2⟩ 0 rfl (by omega) (by omega) hS);have HU:=aa (λw' (R':List a_) h' is hS=>xN (w0:=w0) (w:=w') (R:=R') b (ae c) aD aw owner seq (.slice la L.length lc) h' is hS);generalize H.entry c ⟨L,n,kn,held,cv,cc,2⟩ 0=he at*;generalize ox:eu c aw owner seq b (H.zw is he)=TH
 case' g2=>have HE:=aa (λw' (R':List a_) hS=>rF (w0:=w0) (w:=w') (R:=R') b c aE aw owner seq la L.length lc ⟨L,n,kn,held,x,s,6⟩ (kn+1) rfl (by omega) (by omega) hS);generalize H.entry c ⟨L,n,kn,held,x,s,6⟩ (kn+1)=he at*
 case' g3=>generalize hhe:(⟨L,n,kn,held,x,s,6⟩:H.H)=he
 case' g2|g3=>generalize ox:eu c aw owner seq b he=TH
 case' Y|X|g1|J|D|U|G|V|g2|g3=>generalize j8:ae c=cs at*;generalize w_:L.length=m at*;delta bR;go_in;go_wp2_with fail;refine(HO.out _ (HS.ar 1 rfl)).kk λw1 hf=>?_;have hS:=(HS.c_ hf).new 68 [U 1,U seq];have z0:=(hS.ar 1 rfl).cell 0;have z1:=(hS.ar 1 rfl).cell 1;simp only[zg]at z0 z1;have hS:=hS.new 68 [U x,U s];simp only[cG]at hS;have HS:=aa hS;clear hS hf HO;have ee:=(HS.ar 3 rfl).aR aD 26 rfl rfl;have cu:=(HS.ar 3 rfl).aR aD 27 rfl rfl;have dz:=(HS.ar 3 rfl).aR aD 28 rfl rfl;have dX:=(HS.ar 3 rfl).aR aD 29 rfl rfl;have d_:=(HS.ar 3 rfl).aR aD 30 rfl rfl;have lJ:=(HS.ar 3 rfl).aR aD 33 rfl rfl
 case' Y|X|g1|J=>have f28:=(HS.ar 3 rfl).az
 case' D|U=>have f28:=(HS.ar 3 rfl).az 28;have f30:=(HS.ar 3 rfl).az 30;have f33:=(HS.ar 3 rfl).az 33;have f27:=(HS.ar 3 rfl).az 27
 case' G|V=>have f28:=(HS.ar 3 rfl).az
 case' g2|g3=>have f28:=(HS.ar 3 rfl).az
 case' Y|X|g1|J|D|U|G|V|g2|g3=>
  try dsimp only at ee cu dz dX d_ lJ
  have c0:=(HS.ar 0 rfl).cell 0;have c1:=(HS.ar 0 rfl).cell 1;simp only[zg]at c0 c1
 case' Y=>have du:=(HS.set 3 rfl 30 (I (-1))).set 3 rfl 33 (I 4);simp only[zs,H.JE aD,H.km aD]at du;have de:=aa du;clear du
 case' X=>have du:=(HS.set 3 rfl 33 (I 8));simp only[zs,H.km aD]at du;have de:=aa du;clear du
 case' J=>go_wp2_with fail;refine(HE.out _ _ HS.tail.tail.tail).kh λw3 eH=>?_
 case' Y|X|g1|J=>go_wp2;go_end0;refine⟨rfl,?_⟩;rw[←ox]
 case' D=>
  go_wp2_with fail;refine bW [(1,[1,2,3,4,5,6,8,9]),(0,[0]),(2,[7]),(0,[10]),(2,[11]),(3,[12]),(0,[13,14]),(3,[15])] (by kernel_rfl) ?_;simp only[zz];repeat(first|go_big_quiet_step(fail)|apply ax|apply af|apply ag|apply ah)
  refine aA ?_;go_wp2_with fail;refine(Xf.out _).kf HS.dr λw2 HF HS=>?_;go_wp2;refine⟨⟨⟨_,(by exact HF.out)⟩,rfl⟩,?_⟩;repeat(first|go_big_quiet_step(fail)|apply ax|apply af|apply ag|apply ah)
  refine aA ?_;go_wp2_with fail;have HS:=aa (HS.new 234 [I ps,U x]);have HF:=aa (HF.alloc (.cells #[I ps,U x] 234));refine⟨⟨⟨_,(by exact HF.out)⟩,rfl⟩,?_⟩;repeat(first|go_big_quiet_step(fail)|apply ax|apply af|apply ag|apply ah)
  refine ao ?_;go_wp2_with(at_builtin;go_must (refine ch _ rfl _ _ 203 rfl 0 234 ti0 _ 2 16 underlying203 iJ jA jB iR rfl (by decide) (.slice la m lc) m (flat iS L) rfl (HS.row 5 rfl) (iS (ps,x)) _ _ rfl (HS.ar 0 rfl) rfl (C5 _) (by unfold maxLen;omega) (by omega) (cE _) ?_));intro g2 c2' w4 dy iZ jj kM aq6;have h3:=HS.grown 5 rfl dy iZ (λq e=>by
   rcases jj with h1|h1
   ·exact .inl (h1.trans e)
   ·right;simp only[Value.ownBlock,eX]at e;rw[←e,h1];simp<;>omega)
  simp only[zs]at h3;rw[show flat iS L++iS (ps,x)=flat iS (L++[(ps,x)]) by rw[nh,qf]]at h3;have HS:=aa h3.tail;clear h3 dy iZ jj kM aq6;go_wp2_with fail;repeat(first|go_big_quiet_step(fail)|apply ax|apply af|apply ag|apply ah)
  refine ao ?_;clear c0 c1 z0 z1;clear ee cu dz dX d_ lJ f28 f30 f33 f27;obtain⟨cu,f27⟩:=(HS.ar 3 rfl).fe aD 27 rfl rfl;have du:=HS.set 3 rfl 27 (.slice (some ⟨g2,0,none⟩) (m+1) c2');simp only[zs,H.T0 aD]at du;have de:=aa du;clear du;go_wp2;refine aj ?_;go_wp2_with fail;refine(nX.out _ _ _ _ _ (by simp[w_]) de.tail.tail.tail).kh λw5 eH=>?_;go_wp2;go_end0;refine⟨rfl,?_⟩;rw[←ox]
 case' U=>
  have cC:=(HS.ar 3 rfl).drew;have qz:=HS.row 4 rfl;obtain⟨g0,lV⟩:∃g,la=some ⟨g,0,none⟩:=by
   rcases bg qz with⟨_,e⟩|⟨g,cap,e,_⟩
   ·omega
   ·simp only[dk]at e;exact⟨g,e.1⟩
  subst lV;have y0:=AY.out _ _ _ qz;clear qz AY;go_wp2_with fail;refine bW [(1,[1,2,3,4,5,6,7,8,9,10,11,12,13,14,15]),(0,[0]),(3,[16]),(0,[17,18,19,21,22,20]),(3,[23])] (by kernel_rfl) ?_;simp only[zz]
 case' G=>have cC:=(HS.ar 3 rfl).drew;have B6:IntKind.u64.wrap cp=cp:=lR cp (by omega) (by omega);have hmw:IntKind.i64.wrap mn=mn:=bf _ (by omega) (by omega);go_wp2_with fail;refine bW [(1,[0,1,2,3,4,5,6]),(2,[7]),(0,[8,9,10,11,12]),(3,[13])] (by kernel_rfl) ?_;simp only[zz]
 case' V=>
  go_wp2_with fail;have hS:=(HS.pull 4 rfl).pull 4 rfl;simp only[ze]at hS;refine(HE.out _ _ hS).kh λw3 eH=>?_;clear hS HS;have Ta:∀w,(binOp .eql 68 (.agg #[U x,U s]) (.agg #[U 1,U seq])).run Tryz.prog w= .ok (.bool is) w:=λw=>by rw[←W7.out];exact vE w x s 1 seq
  go_wp2_with(first|(refine ay 68 _ rfl rfl _ 0 rfl [U x,U s] _ (eH.ar 2 rfl).range underlying68 rfl (by kernel_rfl) ?_)|(refine ay 68 _ rfl rfl _ 0 rfl [U 1,U seq] _ (eH.ar 3 rfl).range underlying68 rfl (by kernel_rfl) ?_));refine(HU.out _ _ _ _ eH.out).kh λw4 Qr=>?_;go_wp2;go_end0;refine⟨rfl,?_⟩;rw[←ox];have hS:=(((Qr.pull 2 rfl).tail.pull 2 rfl).tail.pull 2 rfl).tail
 case' g2|g3=>
  have eY:=(HS.ar 3 rfl).aR aD 31 rfl rfl;have gK:=(HS.ar 3 rfl).aR aD 32 rfl rfl;have f31:=(HS.ar 3 rfl).az;have du:=((HS.set 3 rfl 31 (U x)).set 3 rfl 32 (U s)).set 3 rfl 33 (I 6);simp only[zs,H.WN aD,H.WO aD,H.km aD]at du;have de:=aa du;clear du;go_wp2_with fail;clear eY gK f31;clear c0 c1 z0 z1;clear ee cu dz dX d_ lJ f28;have c1:=(de.ar 0 rfl).cell 1;simp only[zg]at c1;have ee:=(de.ar 3 rfl).aR aD 26 rfl rfl;generalize World.setCell _ _ _=w5 at de c1 ee⊢;refine bW [(1,[0,1,2,3,4,5,6])] (by kernel_rfl) ?_;simp only[zz];repeat(first|go_big_quiet_step(fail)|apply ax|apply af|apply ag|apply ah)
  refine aj ?_;have eH:=aa de.drew;have dX:=(eH.ar 3 rfl).aR aD 29 rfl rfl;dsimp only at dX
 case' g2=>go_wp2_with fail;refine(HE.out _ _ eH.tail.tail.tail).kh λw3 Qr=>?_;go_wp2;go_end0;refine⟨rfl,?_⟩;rw[←ox]
 case' g3=>go_wp2;go_end0;refine⟨rfl,?_⟩;rw[←ox,←hhe]
 case' Y=>exact Dn.out _ _ _ _ ⟨L,n,kn,-1,cv,cc,4⟩ w_.symm de.tail.tail.tail
 case' X=>exact Dn.out _ _ _ _ ⟨L,n,kn,held,cv,cc,8⟩ w_.symm de.tail.tail.tail
 case' g1=>exact Dn.out _ _ _ _ ⟨L,n,kn,held,cv,cc,8⟩ w_.symm HS.tail.tail.tail
 case' J=>
  refine dQ.out _ _ (.slice la m lc) m he ?_ ?_
  ·rw[NV.1];exact w_.symm
  ·rw[NV.1];exact eH.out
 case' D=>
  refine dQ.out _ _ (.slice (some ⟨g2,0,none⟩) (m+1) c2') (m+1) hr ?_ ?_
  ·rw[nR];simp[w_]
  ·rw[nR];exact eH.out
 case' U=>
  refine af ?_;iterate 3 (first|go_big_quiet_step (fail)|quiet_step (fail))
  refine ak 58 _ b 0 cs _ rfl rfl rfl (cm cC (by simp<;>omega)) underlying58 rfl (by rw[aD];kernel_rfl) ?_;simp only[Act.put,aZ,zs];repeat go_big_quiet_step(fail)
  refine ax ?_;repeat(first|go_big_quiet_step(fail)|apply ax|apply af|apply ag|apply ah)
  refine ao ?_;go_wp2_with fail;refine(HW.out _).kq HS.dr λw2 HS=>?_;go_wp2_with fail;repeat(first|go_big_quiet_step(fail)|apply ax|apply af|apply ag|apply ah)
  clear c0 c1 z0 z1;clear ee cu dz dX d_ lJ f28 f30 f33 f27;have d_:=(HS.ar 3 rfl).aR aD 30 rfl rfl;have lJ:=(HS.ar 3 rfl).aR aD 33 rfl rfl;have f30:=(HS.ar 3 rfl).az 30;have f33:=(HS.ar 3 rfl).az 33;have du:=(HS.set 3 rfl 30 (I NS)).set 3 rfl 33 (I 5);simp only[zs,H.JE aD,H.km aD]at du;have de:=aa du;clear du;refine ao ?_;go_wp2;refine aj ?_;have Dw:=(de.pull 4 rfl).pull 4 rfl;simp only[ze]at Dw;have eH:=aa Dw;clear Dw;have Ta:∀w,(binOp .eql 68 (.agg #[U x,U s]) (.agg #[U 1,U seq])).run Tryz.prog w= .ok (.bool is) w:=λw=>by rw[←W7.out];exact vE w x s 1 seq
  go_wp2_with(first|(refine ay 68 _ rfl rfl _ 0 rfl [U x,U s] _ (eH.ar 2 rfl).range underlying68 rfl (by kernel_rfl) ?_)|(refine ay 68 _ rfl rfl _ 0 rfl [U 1,U seq] _ (eH.ar 3 rfl).range underlying68 rfl (by kernel_rfl) ?_));refine(HU.out _ _ _ _ eH.out).kh λw4 Qr=>?_;go_wp2;go_end0;refine⟨rfl,?_⟩;rw[←ox];have hS:=(((Qr.pull 2 rfl).tail.pull 2 rfl).tail.pull 2 rfl).tail;refine dQ.out _ _ (.slice (some ⟨g0,0,none⟩) m lc) m (H.zw is ⟨L,n,kn,NS,cv,cc,5⟩) ?_ ?_
  ·rw[Ih.1];exact w_.symm
  ·rw[Ih.1];exact hS
 case' G=>
  refine af ?_;iterate 6 (first|go_big_quiet_step (fail)|quiet_step (fail))
  refine ak 58 _ b 0 cs _ rfl rfl rfl (cm cC (by simp<;>omega)) underlying58 rfl (by rw[aD];kernel_rfl) ?_;simp only[Act.put,aZ,zs];repeat go_big_quiet_step(fail)
  refine ax ?_;refine aA ?_;go_wp2_with fail;refine(S_.out _).kf HS.dr λw2 HF HS=>?_;go_wp2;refine⟨⟨⟨_,(by exact HF.out)⟩,rfl⟩,?_⟩;repeat(first|go_big_quiet_step(fail)|apply ax|apply af|apply ag|apply ah)
  clear c0 c1 z0 z1;clear ee cu dz dX d_ lJ f28;have ee:=(HS.ar 3 rfl).aR aD 26 rfl rfl;have cu:=(HS.ar 3 rfl).aR aD 27 rfl rfl;have dz:=(HS.ar 3 rfl).aR aD 28 rfl rfl;have dX:=(HS.ar 3 rfl).aR aD 29 rfl rfl;have d_:=(HS.ar 3 rfl).aR aD 30 rfl rfl;have lJ:=(HS.ar 3 rfl).aR aD 33 rfl rfl;have f28:=(HS.ar 3 rfl).az;try dsimp only at ee cu dz dX d_ lJ
  refine ao ?_;go_wp2;refine aj ?_;have du:=(HS.set 3 rfl 28 (I mn));simp only[zs,H.an8 aD]at du;have de:=aa du;clear du;go_wp2_with fail;refine(nX.out _ _ de.tail.tail.tail).kh λw3 eH=>?_;go_wp2;go_end0;refine⟨rfl,?_⟩;rw[←ox];refine dQ.out _ _ (.slice la m lc) m hr ?_ ?_
  ·rw[nR];exact w_.symm
  ·rw[nR];exact eH.out
 case' V=>
  refine dQ.out _ _ (.slice la m lc) m (H.zw is he) ?_ ?_
  ·rw[Ih.1,NV.1];exact w_.symm
  ·rw[Ih.1,NV.1];exact hS
 case' g2=>
  refine dQ.out _ _ (.slice la m lc) m he ?_ ?_
  ·rw[NV.1];exact w_.symm
  ·rw[NV.1];exact Qr.out
 exact dQ.out _ _ (.slice la m lc) m ⟨L,n,kn,held,x,s,6⟩ w_.symm eH.tail.tail.tail
def U6{w0 w R}(b c aE aw owner seq L n kn held cv cc nx x s ok hx hs hg):=(@zq23 w0 w R b c aE aw owner seq L n kn held cv cc nx x s ok hx hs hg).1
def U7{w0 w R}(b c aE aw owner seq L n kn held cv cc nx x s ok hx hs hg):=(@zq23 w0 w R b c aE aw owner seq L n kn held cv cc nx x s ok hx hs hg).2.1
def U8{w0 w R}(b c aE aw owner seq L n kn held cv cc nx x s ok hx hs hg):=(@zq23 w0 w R b c aE aw owner seq L n kn held cv cc nx x s ok hx hs hg).2.2.1
def U9{w0 w R}(b c aE aw owner seq L n kn held cv cc nx x s ok hx hs hg):=(@zq23 w0 w R b c aE aw owner seq L n kn held cv cc nx x s ok hx hs hg).2.2.2.1
def Va{w0 w R}(b c aE aw owner seq L n kn held cv cc nx x s ok hx hs hg):=(@zq23 w0 w R b c aE aw owner seq L n kn held cv cc nx x s ok hx hs hg).2.2.2.2.1
def Vb{w0 w R}(b c aE aw owner seq L n kn held cv cc nx x s ok hx hs hg):=(@zq23 w0 w R b c aE aw owner seq L n kn held cv cc nx x s ok hx hs hg).2.2.2.2.2.1
def Vc{w0 w R}(b c aE aw owner seq L n kn held cv cc nx x s ok hx hs hg):=(@zq23 w0 w R b c aE aw owner seq L n kn held cv cc nx x s ok hx hs hg).2.2.2.2.2.2.1
def Vd{w0 w R}(b c aE aw owner seq L n kn held cv cc nx x s ok hx hs hg):=(@zq23 w0 w R b c aE aw owner seq L n kn held cv cc nx x s ok hx hs hg).2.2.2.2.2.2.2.1
def Ve{w0 w R}(b c aE aw owner seq L n kn held cv cc nx x s ok hx hs hg):=(@zq23 w0 w R b c aE aw owner seq L n kn held cv cc nx x s ok hx hs hg).2.2.2.2.2.2.2.2
end Go.Proofs.YtolkmchicplaoaaGreat
namespace Go.aS
open Go.RowKit
def Mr {T:Type}{en:T→List Value}{k w a m lc L}(hL:dB en k w (.slice a m lc) L)(hl:∀x,(en x).length=k)(hk:0<k):
 L=[]∨∃x,a=some x∧∀j u,(flat en L)[j]?=some u→w.cell? (x.add j)=some u:=by
 obtain⟨a',tW,e,hc,h⟩:=hL;rcases h with h|⟨x,h1,h2,h3⟩
 ·exact .inl h
 ·right;simp only[dk]at e;refine⟨x,e.1.trans h1,λj u hu=>?_⟩;have hj:=(dE.1 hu).1;rw[ck hl]at hj;have hi:j/k<L.length:=Nat.div_lt_of_lt_mul (by rw[px];exact hj);have hr:j%k<k:=py _ hk;have he:j/k*k+j%k=j:=by rw[px];exact Nat.div_add_mod j k
  have:=cI hl L (j/k) hi (j%k) hr;rw[he]at this;have h4:=h3 (j/k) hi (j%k) u (by rw[←this];exact hu);rw[he]at h4;exact h4
def qD {P w0 w Ts}(hS:Sep w0 w Ts){ops:Array Oper}{rest}{o:Oper}{a}{Q:Exit→Act→World→Prop}(mV:o.guard=none)(s x:Operand)(t:TypeId)
 (ho:o.op= .call {callee:= .builtin .append,args:=#[s,x],argTypes:=#[t,t]})
 (e:TypeId) (i:TypeInfo) (z) (size bytes) (ht:P.underlying t=some (.slice e)) (hi:P.info? e=some i) (hz:i.zero=some z)
 (oL:i.size=size) (KA:i.bytes=bytes) (N_:z.cells.size=size) (aD:0<size) (hs:a.eval s= .slice none 0 0)
 (ad) (m c) (news) (hx:a.eval x= .slice ad m c) (hc:(ad=none∧m=0∧c=0∧news=[])∨∃q,ad=some q∧∀j u,news[j]?=some u→w.cell? (q.add j)=some u) (hl:news.length=m*size) (h1:∀u∈news,u.oneCell'=true)
 (Oa:m≤maxLen) (mF:m*bytes≤140737488355328)
 (h:∀v' w',Sep w0 w' (aU 0 e size v' m news::Ts)→Fr [] w w'→wpList P ops Q rest (a.put o.dst v') w'):wpList P ops Q (o::rest) a w:=by
 rcases hc with⟨rfl,rfl,rfl,rfl⟩|⟨q,rfl,hq⟩
 ·exact wpList_append_own_none mV s x t ho 0 e i size ht hi _ 0 [] hs (jP w 0 e size) hx (h _ _ (hS.G_ 0 e size) (Fr.refl _ _))
 ·refine wpList_plain mV λK hK=>?_;obtain⟨v',w',hr,h2,h3,h4,h5⟩:=mU (P:=P) w 0 t o.type e i z size bytes ht hi hz oL KA N_ aD _ 0 [] (jP w 0 e size) q m c news hl hq h1 (by omega) (by rw[jF];exact mF) (cE _);unfold Oper.wp execOp;simp only[ho,resolve,invoke,builtin,lh,qQ,oD,List.map_toArray,zm,hs,hx,hr];have hf:Fr [] w w':=(Fr.refl [] w).grown h3 (λk e=>by simp[Value.ownBlock]at e);rw[jF,y_]at h2;refine hK _ _ (h v' w' (hS.push hf (fp:=v'.ownBlock.toList) ⟨rfl,h2⟩ λk hk=>?_) hf);rcases h5 with h5|h5
  ·rw[h5]at hk;simp[Value.ownBlock]at hk
  ·rw[h5]at hk;simp at hk;omega
end Go.aS
namespace Go.Proofs.YtolkmchicplaoaaGreat
open Go.ChangeShapes Go.WideShapes Go.RowKit Go.Deep Go.aS Go.aS.Y Go.aS.Sc
def ai3 (a:Option Addr)(m lc:Nat):Prop:=a=none→m=0∧lc=0
def Qs (w c)(aE:Ok c)(aw seq a m lc L)(w_:m=L.length)(hL:dB iS 2 w (.slice a m lc) L)(Ip:ai3 a m lc)(hm:m≤100000):
 Calls Tryz.prog 112 #[aY c,I aw,U seq,.slice a m lc] w λe w'=>∃b,e= .returned (O b)∧Sep w w' [eu c aw aw seq b (H.entry c ⟨L,0,0,-1,0,0,0⟩ 0)]:=by
 have NV:=H.pF c ⟨L,0,0,-1,0,0,0⟩ 0;have HE:=aa (fun(w0 w':World) (R':List a_) (b:Nat) (la:Option Addr) (lc:Nat) hS=>rF (w0:=w0) (w:=w') (R:=R') b c aE aw aw seq la m lc ⟨L,0,0,-1,0,0,0⟩ 0 w_ hm (cE _) hS);have dQ:=aa (fun(w0 w':World) (R':List a_) (b:Nat) (v:Value) (n':Nat) (h':H.H) (hn:n'=h'.list.length) (hS:Sep w0 w' (aJ b 221 (H.hL (ae c) aw aw seq v h')::aU 0 234 2 v n' (flat iS h'.list)::R'))=>jy (c:=c) hn hS);obtain⟨i0,iJ,jA,jB,iR⟩:=eA xU;have HC:Hid (∀w',Fr [] w w'→(a=none∧m=0∧lc=0∧flat iS L=[])∨∃q,a=some q∧∀j u,(flat iS L)[j]?=some u→w'.cell? (q.add j)=some u):=λw' f=>by
  rcases Mr (hL.fr f) gy (by decide)with h|⟨q,h1,h2⟩
  ·subst h;rcases Option.eq_none_or_eq_some a with h|⟨q,h⟩
   ·obtain⟨h1,h2⟩:=Ip h;exact .inl ⟨h,h1,h2,rfl⟩
   ·exact .inr ⟨q,h,by simp[flat]⟩
  ·exact .inr ⟨q,h1,h2⟩
 have o_:(flat iS L).length=m*2:=by rw[ck gy,w_]
 have J0:=gJ (en:=iS) C5 L;have aD:(ae c).length=24:=rfl;unfold aY;have ox:∃TH:Nat→a_,∀b,eu c aw aw seq b (H.entry c ⟨L,0,0,-1,0,0,0⟩ 0)=TH b:=⟨_,λ_=>rfl⟩;obtain⟨TH,ox⟩:=ox;simp only[ox];generalize H.entry c ⟨L,0,0,-1,0,0,0⟩ 0=he at*;have Dn:=aa (λw0 w' R' b v n' (hn:n'=he.list.length) hS=>ox b▸dQ.out w0 w' R' b v n' he hn hS);clear dQ ox;generalize ae c=cs at*;have HSB:=aa ((Sep.nil (Fr.refl [] w)).new 58 cs);clear hL Ip;have Xg:=aa w_;clear w_;obtain⟨x0,x1,x2,x3,x4,x5,x6,x7,x8,x9,l4,l5,l6,l7,l8,l9,l_,mf,mh,mi,mj,mm,mo,mq,rfl⟩:=rQ aD;have HS:=HSB;clear HSB;have cC:=(HS.ar 0 rfl).drew;go_in;go_wp2_with fail;refine bW [(1,[0,1,2,3,4]),(2,[5]),(0,[6]),(3,[7]),(0,[8])] (by kernel_rfl) ?_;simp only[zz];refine af ?_;refine ak 58 _ w.heap.size 0 [x0,x1,x2,x3,x4,x5,x6,x7,x8,x9,l4,l5,l6,l7,l8,l9,l_,mf,mh,mi,mj,mm,mo,mq] _ rfl rfl rfl (bL cC (by simp)) underlying58 rfl (by kernel_rfl) ?_;simp only[Act.put,aZ,zs];repeat go_big_quiet_step(fail)
 refine ax ?_;have HS:=aa HS.drew;refine aA ?_;go_wp2_with(at_builtin;go_must (refine qD HS.out rfl _ _ 203 rfl 234 i0 _ 2 16 underlying203 iJ jA jB iR rfl (by decide) rfl a m lc (flat iS L) rfl (HC.out _ HS.fr) o_ J0 (by unfold maxLen;omega) (by omega) ?_));intro v' w2 hS hf;obtain⟨la,Vf,rfl⟩:=hS.form 0 rfl;have HF:=aa hf;have HS:=aa hS;clear hf hS;go_wp2;refine⟨⟨⟨_,(by exact HF.out)⟩,rfl⟩,?_⟩;repeat(first|go_big_quiet_step(fail)|apply ax|apply af|apply ag|apply ah)
 refine ao ?_;go_wp2_with fail;have HS:=aa (HS.new 221 (H.hL [x0,x1,x2,x3,x4,x5,x6,x7,x8,x9,l4,l5,l6,l7,l8,l9,l_,mf,mh,mi,mj,mm,mo,mq] aw aw seq (.slice la m Vf) ⟨L,0,0,-1,0,0,0⟩));repeat(first|go_big_quiet_step(fail)|apply ax|apply af|apply ag|apply ah)
 refine aj ?_;go_wp2_with fail;refine(HE.out _ _ _ _ _ _ HS.out).kh λw3 eH=>?_;go_wp2;go_ret;refine⟨_,rfl,?_⟩;have hS:=Dn.out _ _ _ _ (.slice la m Vf) m (by rw[NV.1];exact Xg.out) (by rw[NV.1];exact eH.out);exact hS.sub [0] rfl (by decide)
end Go.Proofs.YtolkmchicplaoaaGreat
namespace Go.Proofs.YtolkmchicplaoaaGreat
open Go.RowKit Go.aS Go.aS.Y Go.aS.Sc
def Cs {w0 w R}(b c)(aE:Ok c)(aw owner seq h x s ok)(hx:0≤x∧x≤18446744073709551615)(hs:0≤s)(hg:H.Good c h)(hr:0≤h.next∧h.next≤8)(hS:Sep w0 w (eu c aw owner seq b h::R)):
 bR 239 #[O b,.agg #[U x,U s,.bool ok]] w w0 (eu c aw owner seq b (H.tell c seq x s h)::R):=by
 obtain⟨L,n,k,held,cv,cc,nx⟩:=h;obtain⟨kn,hk⟩:∃kn:Nat,k=(kn:Int):=⟨k.toNat,by have:=hg.2.2.2.2.1;dsimp only at this;omega⟩;subst hk;dsimp only at hr;rcases(show nx=0∨nx=1∨nx=2∨nx=3∨nx=4∨nx=5∨nx=6∨nx=7∨nx=8 by omega)with e|e|e|e|e|e|e|e|e
 ·exact U9 b c aE aw owner seq L n kn held cv cc nx x s ok hx hs hg e hS
 ·exact Va b c aE aw owner seq L n kn held cv cc nx x s ok hx hs hg e hS
 ·exact Vb b c aE aw owner seq L n kn held cv cc nx x s ok hx hs hg e hS
 ·exact U6 b c aE aw owner seq L n kn held cv cc nx x s ok hx hs hg e hS
 ·exact Vc b c aE aw owner seq L n kn held cv cc nx x s ok hx hs hg e hS
 ·exact Vd b c aE aw owner seq L n kn held cv cc nx x s ok hx hs hg e hS
 ·exact U8 b c aE aw owner seq L n kn held cv cc nx x s ok hx hs hg e hS
 ·exact U7 b c aE aw owner seq L n kn held cv cc nx x s ok hx hs hg e hS
 ·exact Ve b c aE aw owner seq L n kn held cv cc nx x s ok hx hs hg e hS
def J_ {w0 w R}(b c)(aE:Ok c)(aw owner seq h)(hg:H.Good c h)(hS:Sep w0 w (eu c aw owner seq b h::R)):
 ba 238 #[O b] w (.tuple #[.agg (eF (H.ask c aw owner seq h).1).toArray,.bool (H.ask c aw owner seq h).2]):=by
 obtain⟨la,lc,h2⟩:=jx hS;exact Qq w c aE b aw owner seq _ h (h2.ar 0 rfl) (h2.row 1 rfl) hg
def Q3 {w0 w R}(b c aw owner seq h)(hS:Sep w0 w (eu c aw owner seq b h::R)):
 ba 144 #[O b] w (.bool (decide (h.next=8))):=by
 obtain⟨la,lc,h2⟩:=jx hS;exact K5 w b (ae c) rfl aw owner seq _ h (h2.ar 0 rfl)
def H.ai6:H.H:=⟨[],0,0,-1,0,0,0⟩
def H.Vu (c):H.Inv c H.ai6:=⟨⟨by decide,by decide,by decide,by decide,by decide,by decide⟩,by decide,λh=>absurd h (by decide),λ_=>rfl⟩
def Vv (w c aw owner seq):
 Calls Tryz.prog 108 #[aY c,I aw,I owner,U seq] w λe w'=>∃b,e= .returned (O b)∧Sep w w' [eu c aw owner seq b H.ai6]:=by
 refine(OM w (ae c) rfl (by simp[ae,Value.oneCell']) aw owner seq).mono ?_;rintro e w' ⟨b,rfl,hS⟩;exact⟨b,rfl,jy rfl hS⟩
def H.ar3 (c:cA)(L:List (Int×Int)):H.H:=H.entry c ⟨L,0,0,-1,0,0,0⟩ 0
def H.Vx (c L)(hl:L.length≤100000):H.Inv c (H.ar3 c L):=
 H.tt ⟨iu 0,by simp,by simp,hl,iu 0,by simp⟩ 0 (cE _)
