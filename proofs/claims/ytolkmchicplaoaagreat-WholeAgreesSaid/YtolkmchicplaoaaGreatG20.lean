/- A part of the proof. -/
import Derived.Deep.CutRange
import Derived.Test.YtolkmchicplaoaaGreatG12
set_option linter.all false
set_option maxHeartbeats 8000000
set_option maxRecDepth 100000
open Go.Proofs.Tryz
namespace Go.Proofs.YtolkmchicplaoaaGreat
open Go.RowKit Go.aS Go.aS.I_ Go.aS.Y
def LP:List PR→List PR→List PR
 |[],B=>B
 |x::A,B=>(B.takeWhile (λy=>ya y x))++x::LP A (B.dropWhile (λy=>ya y x))
def GW:∀A:List PR,LP A []=A
 |[]=>rfl
 |x::A=>by unfold LP;simp[GW A]
def SP (x:PR)(A:List PR)(y:PR)(B:List PR):LP (x::A) (y::B)=if ya y x=true then y::LP (x::A) B else x::LP A (y::B):=by
 by_cases h:ya y x=true
 ·rw[aB h];show((y::B).takeWhile _)++x::LP A ((y::B).dropWhile _)=y::((B.takeWhile _)++x::LP A (B.dropWhile _));rw[List.takeWhile_cons_of_pos (p:=λy=>ya y x) h,List.dropWhile_cons_of_pos (p:=λy=>ya y x) h];rfl
 ·rw[aq h];show((y::B).takeWhile _)++x::LP A ((y::B).dropWhile _)=_;rw[List.takeWhile_cons_of_neg (p:=λy=>ya y x) h,List.dropWhile_cons_of_neg (p:=λy=>ya y x) h];rfl
def av6 (x:PR)(A:List PR)(y:PR)(B:List PR):LP (x::A) (y::B)=if y.2.at_<x.2.at_ then y::LP (x::A) B else x::LP A (y::B):=by
 rw[SP];unfold ya;by_cases h:y.2.at_<x.2.at_
 ·rw[aB (eP h),aB h]
 ·rw[aq (by simpa using h),aq h]
def ah4:∀(n:Nat) (A1 B1 Sx B2:List PR),A1.length+B1.length≤n→(∀x∈Sx,∀y∈B1,ya y x=true)→(∀x∈A1,∀y∈B2,ya y x=false)→LP (A1++Sx) (B1++B2)=LP A1 B1++LP Sx B2
 |n,[],[],Sx,B2,_,_,_=>rfl
 |n,[],y::B1,Sx,B2,hn,h1,h2=>by
  cases n with
  |zero=>simp at hn
  |succ n=>
   have ih:=ah4 n [] B1 Sx B2 (by simp at hn⊢;omega) (λx hx z hz=>h1 x hx z (oB _ hz)) h2;rw[y_]at ih⊢;show LP Sx (y::(B1++B2))=y::(B1++LP Sx B2);cases Sx with
   |nil=>rfl
   |cons x Sx=>
    rw[SP,aB (h1 x (by simp) y (by simp)),ih];rfl
 |n,x::A1,[],Sx,B2,hn,h1,h2=>by
  cases n with
  |zero=>simp at hn
  |succ n=>
   have ih:=ah4 n A1 [] Sx B2 (by simp at hn⊢;omega) h1 (λz hz=>h2 z (oB _ hz));rw[y_]at ih⊢;rw[GW,CR];cases B2 with
   |nil=>rw[GW,GW];rfl
   |cons y B2=>
    rw[SP,aq (by rw[h2 x (by simp) y (by simp)];decide),ih,GW];rfl
 |n,x::A1,y::B1,Sx,B2,hn,h1,h2=>by
  cases n with
  |zero=>simp at hn
  |succ n=>
   rw[CR,CR,SP,SP];split
   ·have ih:=ah4 n (x::A1) B1 Sx B2 (by simp at hn⊢;omega) (λx hx z hz=>h1 x hx z (oB _ hz)) h2;rw[←CR,ih];rfl
   ·have ih:=ah4 n A1 (y::B1) Sx B2 (by simp at hn⊢;omega) h1 (λz hz=>h2 z (oB _ hz));rw[←CR,ih];rfl
def av5 (x:PR):∀(n:Nat) (A B:List PR),A.length+B.length≤n→LP A (sd x B)=sd x (LP A B)
 |n,[],B,_=>rfl
 |n,a::A,[],hn=>by
  cases n with
  |zero=>simp at hn
  |succ n=>
   have ih:=av5 x n A [] (by simp at hn⊢;omega);rw[GW]at ih⊢;show LP (a::A) [x]=_;rw[av6,GW];unfold sd;split
   ·rfl
   ·congr 1
 |n,a::A,y::B,hn=>by
  cases n with
  |zero=>simp at hn
  |succ n=>
   have i1:=av5 x n A (y::B) (by simp at hn⊢;omega);have i2:=av5 x n (a::A) B (by simp at hn⊢;omega);have e1:sd x (y::B)=if x.2.at_<y.2.at_ then x::y::B else y::sd x B:=rfl
   have c1:∀z L,sd x (z::L)=if x.2.at_<z.2.at_ then x::z::L else z::sd x L:=λz L=>rfl
   rw[e1]at i1⊢;by_cases h1:x.2.at_<y.2.at_
   ·rw[aB h1]at i1⊢;rw[av6 a A x,av6 a A y];by_cases h2:y.2.at_<a.2.at_
    ·rw[aB h2,aB (by omega),c1,aB h1]
    ·rw[aq h2,c1];by_cases h3:x.2.at_<a.2.at_
     ·rw[aB h3,aB h3]
     ·rw[aq h3,aq h3,i1]
   ·rw[aq h1]at i1⊢;rw[av6 a A y,av6 a A y];by_cases h2:y.2.at_<a.2.at_
    ·rw[aB h2,aB h2,c1,aq h1,i2]
    ·rw[aq h2,aq h2,c1,aq (by omega),i1]
def aF4 (P:List PR):∀(Q acc:List PR),Q.foldl (λl x=>sd x l) (LP (GO P) acc)=LP (GO P) (Q.foldl (λl x=>sd x l) acc)
 |[],_=>rfl
 |x::Q,acc=>by rw[List.foldl_cons,List.foldl_cons,←av5 x _ _ _ (dp _)];exact aF4 P Q _
def aK8 (P Q:List PR):GO (P++Q)=LP (GO P) (GO Q):=by
 have:=aF4 P Q [];rw[GW]at this;rw[←show Q.foldl (λl x=>sd x l) []=GO Q from rfl,←this];unfold GO;rw[List.foldl_append]
def jc (l:List PR)(p q:Nat):List PR:=(l.set p (l.getD q uJ)).set q (l.getD p uJ)
def aw6 (l:List PR)(p q:Nat):(jc l p q).length=l.length:=by unfold jc;rw[cF,cF]
def aw8 (A:List PR)(x:PR)(B:List PR){n:Nat}(h:n=A.length):(A++x::B).getD n uJ=x:=by
 subst h;exact vM
def aE0 (A M C:List PR)(u v:PR){p q:Nat}(hp:p=A.length)(hq:q=A.length+1+M.length):jc (A++u::(M++v::C)) p q=A++v::(M++u::C):=by
 unfold jc;have e0:A++u::(M++v::C)=(A++u::M)++v::C:=by simp
 have e1:(A++u::(M++v::C)).getD p uJ=u:=aw8 _ _ _ hp;have e2:(A++u::(M++v::C)).getD q uJ=v:=by
  rw[e0];exact aw8 _ _ _ (by rw[hq,eE,dT];omega)
 rw[e1,e2,hp,Kh];have e3:A++v::(M++v::C)=(A++v::M)++v::C:=by simp
 rw[e3,hq,show A.length+1+M.length=(A++v::M).length by rw[eE,dT];omega,Kh];simp
def aK9 {X1 at3 ay3 ay4:List PR}(h1:∀x∈at3,∀y∈ay3,ya y x=true)(h2:∀x∈X1,∀y∈ay4,ya y x=false):LP (X1++at3) (ay3++ay4)=LP X1 ay3++LP at3 ay4:=ah4 _ X1 ay3 at3 ay4 (dp _) h1 h2
def aI6 {p q:PR}:ya p q=false↔q.2.at_≤p.2.at_:=by
 unfold ya;rw[yJ];omega
def aI7 {p q:PR}:ya p q=true↔p.2.at_<q.2.at_:=by
 unfold ya;rw[decide_eq_true_iff]
def y8.take {l:List PR}(h:y8 l)(n:Nat):y8 (l.take n):=List.Pairwise.sublist (List.take_sublist _ _) h
def y8.drop {l:List PR}(h:y8 l)(n:Nat):y8 (l.drop n):=List.Pairwise.sublist (List.drop_sublist _ _) h
def y8.le {l:List PR}(h:y8 l){i j:Nat}(yN:i≤j)(hj:j<l.length):(l.getD i uJ).2.at_≤(l.getD j uJ).2.at_:=by
 rw[cO,cO,cy hj,cy (show i<l.length by omega)];by_cases e:i=j
 ·subst e;exact iu _
 ·exact List.pairwise_iff_getElem.1 h i j (by omega) hj (by omega)
def av3 {l:List PR}{n:Nat}{x:PR}(h:x∈l.take n):∃i,i<n∧i<l.length∧x=l.getD i uJ:=by
 obtain⟨i,hi,rfl⟩:=qO h;rw[oE]at hi;refine⟨i,by omega,by omega,?_⟩;rw[List.getElem_take,cO,cy (show i<l.length by omega)];rfl
def av4 {l:List PR}{n:Nat}{x:PR}(h:x∈l.drop n):∃i,n≤i∧i<l.length∧x=l.getD i uJ:=by
 obtain⟨i,hi,rfl⟩:=qO h;rw[List.length_drop]at hi;refine⟨n+i,by omega,by omega,?_⟩;rw[List.getElem_drop,cO,cy (show n+i<l.length by omega)];rfl
def av7 {X Y:List PR}(hX:y8 X)(hY:y8 Y){i j:Nat}(hi:i≤X.length)(hj:j≤Y.length)
 (h1:i=0∨j=Y.length∨ya (Y.getD j uJ) (X.getD (i-1) uJ)=false)(h2:i=X.length∨j=0∨ya (Y.getD (j-1) uJ) (X.getD i uJ)=true):
 LP X Y=LP (X.take i) (Y.take j)++LP (X.drop i) (Y.drop j):=by
 have:=aK9 (X1:=X.take i) (at3:=X.drop i) (ay3:=Y.take j) (ay4:=Y.drop j) (λx hx y hy=>by
  obtain⟨p,p1,p2,rfl⟩:=av4 hx;obtain⟨q,q1,q2,rfl⟩:=av3 hy;rcases h2 with e|e|e
  ·omega
  ·omega
  ·rw[aI7]at e⊢;have a:=hX.le p1 p2;have b:=hY.le (show q≤j-1 by omega) (by omega);omega) (λx hx y hy=>by
  obtain⟨p,p1,p2,rfl⟩:=av3 hx;obtain⟨q,q1,q2,rfl⟩:=av4 hy;rcases h1 with e|e|e
  ·omega
  ·omega
  ·rw[aI6]at e⊢;have a:=hX.le (show p≤i-1 by omega) (by omega);have b:=hY.le q1 q2;omega)
 rw[List.take_append_drop,List.take_append_drop]at this;exact this
def aI8 {A X Z:List PR}{i:Nat}(h:i<X.length):(A++(X++Z)).getD (A.length+i) uJ=X.getD i uJ:=by
 rw[cO,cO,gw (by omega),gm (by omega),show A.length+i-A.length=i by omega]
def aE1 {A X Y C:List PR}{i:Nat}(h:i<Y.length):(A++(X++(Y++C))).getD (A.length+X.length+i) uJ=Y.getD i uJ:=by
 rw[cO,cO,gw (by omega),gw (by omega),gm (by omega),show A.length+X.length+i-A.length-X.length=i by omega]
def AA.jc {P:List PR}(h:AA P)(p q:Nat)(hp:p<P.length)(hq:q<P.length):AA (jc P p q):=by
 intro x hx;unfold Go.Proofs.YtolkmchicplaoaaGreat.jc at hx;rcases k_ hx with h1|rfl
 ·rcases k_ h1 with h2|rfl
  ·exact h x h2
  ·rw[cO,cy hq];exact h _ (cJ _)
 ·rw[cO,cy hp];exact h _ (cJ _)
def au3 {P:List PR}{p q:Nat}(hp:p<P.length)(hq:q<P.length):n_ (n_ (flat ku P) (p*6) (ku (P.getD q uJ))) (q*6) (ku (P.getD p uJ))=flat ku (jc P p q):=by
 rw[Cv sQ P hp,Cv sQ _ (by rw[cF];omega)];rfl
def xO (l:List PR)(a b:Nat):Nat→List PR
 |0=>l
 |k+1=>xO (jc l a b) (a+1) (b+1) k
def aI9:∀(U_ V A M C:List PR) {a b:Nat},U_.length=V.length→a=A.length→b=A.length+U_.length+M.length→xO (A++(U_++(M++(V++C)))) a b U_.length=A++(V++(M++(U_++C)))
 |[],[],A,M,C,a,b,_,_,_=>rfl
 |u::U_,v::V,A,M,C,a,b,hl,ha,hb=>by
  rw[dT]at hb;rw[dT,dT]at hl;have h1:=aE0 A (U_++M) (V++C) u v (p:=a) (q:=b) ha (by rw[eE];omega);have ih:=aI9 U_ V (A++[v]) (M++[u]) C (a:=a+1) (b:=b+1) (by omega) (by rw[eE];simp;omega) (by rw[eE,eE];simp;omega);show xO (jc (A++(u::U_++(M++(v::V++C)))) a b) (a+1) (b+1) U_.length=_;have e1:A++(u::U_++(M++(v::V++C)))=A++u::(U_++M++v::(V++C)):=by simp
  rw[e1,h1];have e2:A++v::(U_++M++u::(V++C))=A++[v]++(U_++(M++[u]++(V++C))):=by simp
  rw[e2,ih];simp
abbrev RT (g n cap:Nat)(P:List PR):a_:=aU 0 51 6 (.slice (some ⟨g,0,none⟩) n cap) n (flat ku P)
abbrev ag1:Value:= .func (.func 41) #[] #[]
def aw1 {w0 w:World}{R:List a_}{g n cap a b k:Nat}{P0:List PR}(hn:P0.length=n)(ha:a+k≤n)(hb:b+k≤n)(oR:n≤1000000)(E7:AA P0)(hS:Sep w0 w (RT g n cap P0::R)):
 bR 152 #[.slice (some ⟨g,0,none⟩) n cap,I a,I b,I k,ag1] w w0 (RT g n cap (xO P0 a b k)::R):=by
 have HS:=aa hS;have HV:=aa E7;have HL:=aa hn;clear hS E7 hn;delta bR;go_in;go_wp2_with fail;go_loopg [10] k (λg1 vi wr=>∃(i:Nat) (Q:List PR),vi=I (i:Int)∧i+g1=k∧Q.length=n∧AA Q∧Sep w0 wr (RT g n cap Q::R)∧Hid (xO Q (a+i) (b+i) (k-i)=xO P0 a b k))
 case atStart=>exact⟨0,P0,rfl,by omega,HL.out,HV.out,HS.out,rfl⟩
 case round=>
  obtain⟨i,Q,rfl,hik,ly,μ,iU,HO⟩:=hrel;by_cases tH:i<k
  ·have as4:(i:Int)<(k:Int):=by omega
   have HX:Hid (xO (jc Q (a+i) (b+i)) (a+(i+1)) (b+(i+1)) (k-(i+1))=xO P0 a b k):=aa (by
    rw[←HO.out,show k-i=(k-(i+1))+1 by omega];rfl)
   have hp:a+i<n:=by omega
   have hq:b+i<n:=by omega
   have hpz:(a:Int)+(i:Int)<(n:Int):=by omega
   have hqz:(b:Int)+(i:Int)<(n:Int):=by omega
   have e0:((a:Int)+(i:Int)).toNat=a+i:=by omega
   have e1:((b:Int)+(i:Int)).toNat=b+i:=by omega
   have JV:IntKind.i64.wrap ((a:Int)+(i:Int))=(a:Int)+(i:Int):=bf _ (by omega) (by omega);have UM:IntKind.i64.wrap ((b:Int)+(i:Int))=(b:Int)+(i:Int):=bf _ (by omega) (by omega);have ν:=aa (au3 (P:=Q) (p:=a+i) (q:=b+i) (by omega) (by omega));have zB:=aa (μ.jc (a+i) (b+i) (by omega) (by omega));have zf:=aa (μ.at (a+i));have zA:=aa (μ.at (b+i));have lE:=aa (om (iU.drew.row 0 rfl) (j:=a+i) (by omega));have WY:=aa (om (iU.drew.row 0 rfl) (j:=b+i) (by omega));have gb:=(oz (iU.drew.row 0 rfl) g rfl).2;have iN:Hid ((ku (Q.getD (a+i) uJ)).length=6):=rfl;have jb:Hid ((ku (Q.getD (b+i) uJ)).length=6):=rfl;have qs:Hid ((flat ku Q).length=n*6):=aa (by rw[ck sQ,ly]);have sE:=aa ly;have kI:=aa iU;clear iU;go_wp2_with fail;refine bW [(1,[0,1,2,3,8,9,10,11,12,13,14,15,16,17,18,19,20]),(0,[4,5,6,7]),(3,[21]),(0,[22]),(3,[23])] (by kernel_rfl) ?_;simp only[zz];refine af ?_;generalize ku (Q.getD (a+i) uJ)=c1 at*;generalize ku (Q.getD (b+i) uJ)=c2 at*;repeat(first|(refine ak 51 _ g ((a+i)*6) c1 _ rfl rfl rfl (aG lE.out (by simp)) underlying51 rfl (by rw[iN.out];kernel_rfl) ?_;simp only[Act.put,aZ,aL,aN])|(refine ak 51 _ g ((b+i)*6) c2 _ rfl rfl rfl (aG WY.out (by simp)) underlying51 rfl (by rw[jb.out];kernel_rfl) ?_;simp only[Act.put,aZ,aL,aN])|go_big_quiet_step (fail)|quiet_step (fail))
   refine ax ?_;repeat(first|go_big_quiet_step(fail)|apply ax|apply af|apply ag|apply ah)
   refine ao ?_;refine pK kI.drew 0 rfl ((a+i)*6) c2 51 _ _ rfl rfl rfl rfl (by rw[qs.out,jb.out];omega) (by rw[jb.out];kernel_rfl) zA.out (λw4 js _=>?_);have kI:=aa js;clear js gb;simp only[aL]at kI;go_wp2_with fail;have gb:=(oz (kI.row 0 rfl) g rfl).2;try simp only[Act.put]
   repeat(first|go_big_quiet_step(fail)|apply ax|apply af|apply ag|apply ah)
   refine ao ?_;refine pK kI.out 0 rfl ((b+i)*6) c1 51 _ _ rfl rfl rfl rfl (by rw[pA,qs.out,iN.out];omega) (by rw[iN.out];kernel_rfl) zf.out (λw5 Dv _=>?_);have kI:=aa Dv;clear Dv gb;simp only[aL,ν.out]at kI;go_wp2;refine aj ?_;go_wp2;go_roundg (k-(i+1))
   case measure=>omega
   case rel=>exact⟨i+1,_,by go_num,by omega,(aw6 _ _ _).trans sE.out,zB.out,kI.out,HX⟩
  ·obtain rfl:i=k:=by omega
   have d3:decide ((i:Int)<(i:Int))=false:=cW (by omega);go_wp2;go_end0;refine⟨rfl,?_⟩;rw[←HO.out,oI];exact iU
def AA.of {P Q:List PR}(h:AA P)(hs:∀x,x∈Q→x∈P):AA Q:=λx hx=>h x (hs x hx)
def ax7 {w0 w:World}{R:List a_}{g n cap a b k:Nat}{A U_ M V C:List PR}(hn:(A++(U_++(M++(V++C)))).length=n)(hU:U_.length=k)(hV:V.length=k)(ha:a=A.length)(hb:b=A.length+U_.length+M.length)(oR:n≤1000000)(E7:AA (A++(U_++(M++(V++C)))))(hS:Sep w0 w (RT g n cap (A++(U_++(M++(V++C))))::R)):
 bR 152 #[.slice (some ⟨g,0,none⟩) n cap,I a,I b,I k,ag1] w w0 (RT g n cap (A++(V++(M++(U_++C))))::R):=by
 have hl:(A++(U_++(M++(V++C)))).length=A.length+U_.length+M.length+V.length+C.length:=by simp;omega
 have h:=aw1 (a:=a) (b:=b) (k:=k) hn (by omega) (by omega) oR E7 hS;have e:=aI9 U_ V A M C (a:=a) (b:=b) (by omega) ha hb;rw[hU]at e;rwa [e]at h
def aE2{w0 w:World}{R:List a_}{g n cap a m b:Nat}{A U_ V C:List PR}(hn:(A++(U_++(V++C))).length=n)(ha:a=A.length)(hm:m=A.length+U_.length)(hb:b=m+V.length)(hU0:U_≠[])(hV0:V≠[])(oR:n≤1000000)(E7:AA (A++(U_++(V++C))))(hS:Sep w0 w (RT g n cap (A++(U_++(V++C)))::R)):bR 129 #[.slice (some ⟨g,0,none⟩) n cap,I a,I m,I b,ag1] w w0 (RT g n cap (A++(V++(U_++C)))::R):=by
 have hl:(A++(U_++(V++C))).length=A.length+U_.length+V.length+C.length:=by simp;omega
 have hu:=List.length_pos_iff.2 hU0;have hv:=List.length_pos_iff.2 hV0;obtain⟨T,hT⟩:∃T,A++(V++(U_++C))=T:=⟨_,rfl⟩;have h0:∃(Sx U2 ap5 ae7:List PR),U2.length=m-a∧ap5.length=b-m∧Sx.length+(m-a)=m∧Hid ((Sx++(U2++(ap5++ae7))).length=n∧Sx++(ap5++(U2++ae7))=T∧AA (Sx++(U2++(ap5++ae7)))∧Sep w0 w (RT g n cap (Sx++(U2++(ap5++ae7)))::R)):=⟨A,U_,V,C,by omega,by omega,by omega,aa ⟨hn,hT,E7,hS⟩⟩;have H0:=aa h0;have ham:a<m:=by omega
 have Xe:m<b:=by omega
 have VL:b≤n:=by omega
 rw[hT];clear hn ha hm hb hU0 hV0 E7 hS hl hu hv hT h0;have JV:IntKind.i64.wrap ((m:Int)-(a:Int))=((m-a:Nat):Int):=by rw[bf _ (by omega) (by omega)];omega
 have UM:IntKind.i64.wrap ((b:Int)-(m:Int))=((b-m:Nat):Int):=by rw[bf _ (by omega) (by omega)];omega
 delta bR;go_in;go_wp2_with fail;go_loopg [10,11] (b-a) (λg1 vi vj wr=>∃(i j:Nat) (A U_ V C:List PR),vi=I (i:Int)∧vj=I (j:Int)∧i+j=g1∧1≤i∧1≤j∧m+j≤n∧U_.length=i∧V.length=j∧A.length+i=m∧Hid ((A++(U_++(V++C))).length=n∧A++(V++(U_++C))=T∧AA (A++(U_++(V++C)))∧Sep w0 wr (RT g n cap (A++(U_++(V++C)))::R)))
 case' atStart=>skip
 refine ?Z
 case' round=>skip
 refine ?Y
 case' Z=>obtain⟨A,U_,V,C,h1,h2,h3,h4⟩:=H0.out
 case' Z=>exact⟨m-a,b-m,A,U_,V,C,by go_num,by go_num,by omega,by omega,by omega,by omega,h1,h2,h3,h4⟩
 clear H0 JV UM;obtain⟨i,j,A,U_,V,C,rfl,rfl,uF,Oy,hj1,hmj,hU,hV,hA,HH⟩:=hrel;have hwi:IntKind.i64.wrap ((m:Int)-(i:Int))=(A.length:Int):=by rw[bf _ (by omega) (by omega)];omega
 have hww:(m:Int)-(i:Int)=(A.length:Int):=by omega
 by_cases yN:i=j;refine ?X;rotate_left;refine ?J
 case' J=>have d1:((i:Int) !=(j:Int))=true:=by simp;omega
 case' J=>by_cases yv:j<i;refine ?G;rotate_left;refine ?D
 case' X=>
  subst yN;have d1:((i:Int) !=(i:Int))=false:=by simp
  have HR:=aa (ax7 (A:=A) (U_:=U_) (V:=V) (C:=C) (a:=A.length) (b:=m) (k:=i) (M:=[]) HH.out.1 hU (by omega) rfl (by simp;omega) oR HH.out.2.2.1 HH.out.2.2.2)
 case' G=>
  have d2:decide ((i:Int)>(j:Int))=true:=eP (by omega);have LA:IntKind.i64.wrap ((i:Int)-(j:Int))=((i-j:Nat):Int):=by rw[bf _ (by omega) (by omega)];omega
  obtain⟨U1,U2,rfl,hU1⟩:∃U1 U2,U_=U1++U2∧U1.length=j:=⟨U_.take j,U_.drop j,(List.take_append_drop _ _).symm,by rw[oE];omega⟩;rw[eE]at hU;have e0:A++(U1++U2++(V++C))=A++(U1++(U2++(V++C))):=by simp
  have h9:=HH.out;rw[e0]at h9;have HR:=aa (ax7 (A:=A) (U_:=U1) (V:=V) (C:=C) (a:=A.length) (b:=m) (k:=j) (M:=U2) h9.1 hU1 hV rfl (by omega) oR h9.2.2.1 h9.2.2.2);have HV:=aa (h9.2.2.1.of (Q:=A++(V++(U2++(U1++C)))) (λx hx=>by
   simp only[jQ]at hx⊢;rcases hx with h|h|h|h|h<;>simp[h]))
  have HN:Hid ((A++(V++(U2++(U1++C)))).length=n):=aa (by have:=h9.1;simp at this⊢;omega)
 case' D=>
  have d2:decide ((i:Int)>(j:Int))=false:=cW (by omega);have LA:IntKind.i64.wrap ((j:Int)-(i:Int))=((j-i:Nat):Int):=by rw[bf _ (by omega) (by omega)];omega
  have Y3:IntKind.i64.wrap ((m:Int)+(j:Int))=(m:Int)+(j:Int):=bf _ (by omega) (by omega);have GK:IntKind.i64.wrap ((m:Int)+(j:Int)-(i:Int))=((m+j-i:Nat):Int):=by rw[bf _ (by omega) (by omega)];omega
  obtain⟨ap4,ap5,rfl,L7⟩:∃ap4 ap5,V=ap4++ap5∧ap5.length=i:=⟨V.take (j-i),V.drop (j-i),(List.take_append_drop _ _).symm,by rw[List.length_drop];omega⟩;rw[eE]at hV;have e0:A++(U_++(ap4++ap5++C))=A++(U_++(ap4++(ap5++C))):=by simp
  have h9:=HH.out;rw[e0]at h9;have HR:=aa (ax7 (A:=A) (U_:=U_) (V:=ap5) (C:=C) (a:=A.length) (b:=m+j-i) (k:=i) (M:=ap4) h9.1 hU L7 rfl (by omega) oR h9.2.2.1 h9.2.2.2);have HV:=aa (h9.2.2.1.of (Q:=A++(ap5++(ap4++(U_++C)))) (λx hx=>by
   simp only[jQ]at hx⊢;rcases hx with h|h|h|h|h<;>simp[h]))
  have HN:Hid ((A++(ap5++(ap4++(U_++C)))).length=n):=aa (by have:=h9.1;simp at this⊢;omega)
 case' G|D=>clear h9 e0
 case' X|G|D=>go_wp2_with fail;refine HR.out.mono ?_;rintro r w1 ⟨rfl,hS⟩;have HS:=aa hS;clear hS;go_wp2
 case' X=>go_end0;refine⟨rfl,?_⟩;rw[←HH.out.2.1]
 case' X=>exact HS.out
 case' G=>
  go_roundg i
  case measure=>omega
  case rel=>
   refine⟨i-j,j,A++V,U2,U1,C,by go_num,rfl,by omega,by omega,hj1,hmj,by omega,hU1,by rw[eE];omega,aa ⟨?_,?_,?_,?_⟩⟩
   ·have:=HN.out;rw[←this];simp
   ·rw[←HH.out.2.1];simp
   ·have:=HV.out;simpa using this
   ·have:=HS.out;simpa using this
 go_roundg j
 case measure=>omega
 case rel=>refine⟨i,j-i,A,ap5,ap4,U_++C,rfl,by go_num,by omega,Oy,by omega,by omega,L7,by omega,hA,aa ⟨HN.out,?_,HV.out,HS.out⟩⟩;rw[←HH.out.2.1];simp
def aJ0 {l:List PR}{p q:Nat}(h:p≠q):jc l p q=jc l q p:=by
 unfold jc;rw[List.set_comm _ _ h]
def xP (l:List PR)(k:Nat):Nat→List PR
 |0=>l
 |s+1=>xP (jc l k (k+1)) (k+1) s
def uT (l:List PR)(k:Nat):Nat→List PR
 |0=>l
 |s+1=>uT (jc l k (k-1)) (k-1) s
def aJ1 (x:PR)(C:List PR):∀(ay3 ay4 A:List PR) {k:Nat},k=A.length→xP (A++x::(ay3++ay4++C)) k ay3.length=A++(ay3++x::(ay4++C))
 |[],ay4,A,k,_=>rfl
 |y::ay3,ay4,A,k,hk=>by
  have h1:=aE0 A [] (ay3++ay4++C) x y (p:=k) (q:=k+1) hk (by rw[hk];rfl);have ih:=aJ1 x C ay3 ay4 (A++[y]) (k:=k+1) (by rw[eE,hk];rfl);show xP (jc (A++x::([]++y::(ay3++ay4++C))) k (k+1)) (k+1) ay3.length=_;rw[h1];have e:A++y::([]++x::(ay3++ay4++C))=A++[y]++x::(ay3++ay4++C):=by simp
  rw[e,ih];simp
def aJ2 (y:PR):∀(s:Nat) (at3 X1 A C:List PR) {k:Nat},at3.length=s→k=A.length+X1.length+s→uT (A++(X1++at3++y::C)) k s=A++(X1++y::(at3++C))
 |0,at3,X1,A,C,k,h,hk=>by rw[nJ h];simp[uT]
 |s+1,at3,X1,A,C,k,h,hk=>by
  obtain⟨aw0,z,rfl⟩:∃X' z,at3=X'++[z]:=⟨at3.dropLast,at3.getLast (by intro e;rw[e]at h;cases h),(List.dropLast_concat_getLast _).symm⟩;rw[eE]at h;have hl:aw0.length=s:=by simpa using h
  have h1:=aE0 (A++X1++aw0) [] C z y (p:=k-1) (q:=k) (by rw[eE,eE];omega) (by rw[eE,eE];simp;omega);have ih:=aJ2 y s aw0 X1 A (z::C) (k:=k-1) hl (by omega);show uT (jc (A++(X1++(aw0++[z])++y::C)) k (k-1)) (k-1) s=_;rw[aJ0 (by omega)];have e1:A++(X1++(aw0++[z])++y::C)=A++X1++aw0++z::([]++y::C):=by simp
  have e2:A++X1++aw0++y::([]++z::C)=A++(X1++aw0++y::(z::C)):=by simp
  rw[e1,h1,e2,ih];simp
def aL0 {x:PR}{Y:List PR}(hY:y8 Y){p:Nat}(hp:p≤Y.length)(h1:p=0∨ya (Y.getD (p-1) uJ) x=true)(h2:p=Y.length∨ya (Y.getD p uJ) x=false):LP [x] Y=Y.take p++x::Y.drop p:=by
 have hX:y8 [x]:=List.pairwise_singleton _ _;have a:=av7 hX hY (i:=0) (j:=p) (cE _) hp (.inl rfl) (by rcases h1 with e|e;exact .inr (.inl e);exact .inr (.inr e));have b:=av7 hX (hY.drop p) (i:=1) (j:=0) (dp _) (cE _) (by
  rcases h2 with e|e
  ·right;left;rw[List.length_drop];omega
  ·right;right;rw[cO,List.getElem?_drop,qT,←cO];exact e) (.inl rfl)
 rw[a,show([x]:List PR).drop 0=[x]from rfl,b];simp[GW,LP]
def aJ3 {y:PR}{X:List PR}(hX:y8 X){p:Nat}(hp:p≤X.length)(h1:p=0∨ya y (X.getD (p-1) uJ)=false)(h2:p=X.length∨ya y (X.getD p uJ)=true):LP X [y]=X.take p++y::X.drop p:=by
 have hY:y8 [y]:=List.pairwise_singleton _ _;have a:=av7 hX hY (i:=p) (j:=0) hp (cE _) (by rcases h1 with e|e;exact .inl e;exact .inr (.inr e)) (.inr (.inl rfl));have b:=av7 (hX.drop p) hY (i:=0) (j:=1) (cE _) (dp _) (.inl rfl) (by
  rcases h2 with e|e
  ·left;rw[List.length_drop];omega
  ·right;right;have e9:(X.drop p).getD 0 uJ=X.getD p uJ:=by rw[cO,List.getElem?_drop,qT,←cO]
   rw[e9];exact e)
 rw[a,show([y]:List PR).drop 0=[y]from rfl,b];simp[GW,LP]
def aB7 {X Y:List PR}(h:X=[]∨Y=[]):LP X Y=X++Y:=by
 rcases h with rfl|rfl
 ·rfl
 ·rw[GW,sY]
structure aL8 (N:Nat):Prop where
 ok:∀{w0 w:World} {R:List a_} {g n cap a m b:Nat} {X Y A C:List PR},X.length+Y.length≤N→(A++(X++(Y++C))).length=n→a=A.length→m=A.length+X.length→b=m+Y.length→X≠[]→Y≠[]→y8 X→y8 Y→n≤1000000→AA (A++(X++(Y++C)))→Sep w0 w (RT g n cap (A++(X++(Y++C)))::R)→
  Calls Tryz.prog 104 #[.slice (some ⟨g,0,none⟩) n cap,I a,I m,I b,ag1] w λr w'=>r=E∧Sep w0 w' (RT g n cap (A++(LP X Y++C))::R)
def aL1 (X Y:List PR):∀z,z∈LP X Y→z∈X∨z∈Y:=by
 induction X generalizing Y with
 |nil=>intro z hz;exact .inr hz
 |cons x X ih=>
  intro z hz;unfold LP at hz;rcases jQ.1 hz with h|h
  ·exact .inr ((List.takeWhile_prefix _).mem h)
  ·rcases oG.1 h with rfl|h
   ·exact .inl (by simp)
   ·rcases ih _ z h with h|h
    ·exact .inl (by simp[h])
    ·exact .inr ((List.dropWhile_suffix _).mem h)
def ay8 (X Y:List PR):(LP X Y).length=X.length+Y.length:=by
 induction X generalizing Y with
 |nil=>simp[LP]
 |cons x X ih=>
  unfold LP;have h1:=ih (Y.dropWhile (λy=>ya y x));have h2:(Y.takeWhile (λy=>ya y x)).length+(Y.dropWhile (λy=>ya y x)).length=Y.length:=by rw[←eE,List.takeWhile_append_dropWhile]
  rw[eE,dT,h1,dT];omega
def aN5 {Q X Y A C:List PR}{a m b d s0 r0 s:Nat}(hQ:Q=A++(X++(Y++C)))(ha:a=A.length)(hm:m=A.length+X.length)(hb:b=m+Y.length)(hd:d=(a+b)/2)(hX:y8 X)(hY:y8 Y)(h2X:2≤X.length)(h2Y:2≤Y.length)
 (hsr:(d<m∧s0=d+m-b∧r0=d)∨(m≤d∧s0=a∧r0=m))(h0:s0≤s)(h1:s≤r0)(c1:s=s0∨ya (Q.getD (d+m-1-(s-1)) uJ) (Q.getD (s-1) uJ)=false)(c2:s=r0∨ya (Q.getD (d+m-1-s) uJ) (Q.getD s uJ)=true):
 ∃X1 at3 ay3 ay4,X=X1++at3∧Y=ay3++ay4∧a+X1.length=s∧s+ay3.length=d∧LP X Y=LP X1 ay3++LP at3 ay4∧y8 X1∧y8 at3∧y8 ay3∧y8 ay4:=by
 have aR5:∀q,q<X.length→Q.getD (a+q) uJ=X.getD q uJ:=λq hq=>by rw[hQ,ha];exact aI8 hq
 have aR6:∀q,q<Y.length→Q.getD (m+q) uJ=Y.getD q uJ:=λq hq=>by rw[hQ,hm];exact aE1 hq
 obtain⟨i,hi⟩:∃i,s=a+i:=⟨s-a,by omega⟩;obtain⟨j,hj⟩:∃j,s+j=d:=⟨d-s,by omega⟩;have hix:i≤X.length:=by omega
 have hjy:j≤Y.length:=by omega
 refine⟨X.take i,X.drop i,Y.take j,Y.drop j,(List.take_append_drop _ _).symm,(List.take_append_drop _ _).symm,by rw[oE];omega,by rw[oE];omega,av7 hX hY hix hjy ?_ ?_,hX.take i,hX.drop i,hY.take j,hY.drop j⟩
 ·by_cases e1:i=0
  ·exact .inl e1
  by_cases e2:j=Y.length
  ·exact .inr (.inl e2)
  rcases c1 with e|e
  ·omega
  ·right;right;rw[←aR5 (i-1) (by omega),←aR6 j (by omega),show a+(i-1)=s-1 by omega,show m+j=d+m-1-(s-1) by omega];exact e
 ·by_cases e1:i=X.length
  ·exact .inl e1
  by_cases e2:j=0
  ·exact .inr (.inl e2)
  rcases c2 with e|e
  ·omega
  ·right;right;rw[←aR5 i (by omega),←aR6 (j-1) (by omega),show a+i=s by omega,show m+(j-1)=d+m-1-s by omega];exact e
def zq48:(∀{w0 w:World}{R:List a_}{g n cap a b:Nat}{Q:List PR}(hn:Q.length=n)(YN:a+1<b)(hb:b≤n)(oR:n≤1000000)(E7:AA Q)(hS:Sep w0 w (RT g n cap Q::R)),Calls Tryz.prog 104 #[.slice (some ⟨g,0,none⟩) n cap,I a,I ((a:Int)+1),I b,ag1] w λr w'=>r=E∧∃i,a+1≤i∧i≤b∧(i=a+1∨ya (Q.getD (i-1) uJ) (Q.getD a uJ)=true)∧(i=b∨ya (Q.getD i uJ) (Q.getD a uJ)=false)∧Sep w0 w' (RT g n cap (xP Q a (i-1-a))::R))∧(∀{w0 w:World}{R:List a_}{g n cap a m:Nat}{Q:List PR}(hn:Q.length=n)(YN:a+1<m)(hb:m+1≤n)(oR:n≤1000000)(E7:AA Q)(hS:Sep w0 w (RT g n cap Q::R)),Calls Tryz.prog 104 #[.slice (some ⟨g,0,none⟩) n cap,I a,I m,I ((m:Int)+1),ag1] w λr w'=>r=E∧∃i,a≤i∧i≤m∧(i=a∨ya (Q.getD m uJ) (Q.getD (i-1) uJ)=false)∧(i=m∨ya (Q.getD m uJ) (Q.getD i uJ)=true)∧Sep w0 w' (RT g n cap (uT Q m (m-i))::R))∧(∀{N:Nat}(ag5:aL8 N){w0 w:World}{R:List a_}{g n cap a m b:Nat}{X Y A C:List PR}(hN:X.length+Y.length≤N+1)(hl:(A++(X++(Y++C))).length=n)(ha:a=A.length)(hm:m=A.length+X.length)(hb:b=m+Y.length)(h2X:2≤X.length)(h2Y:2≤Y.length)(hX:y8 X)(hY:y8 Y)(oR:n≤1000000)(E7:AA (A++(X++(Y++C))))(hS:Sep w0 w (RT g n cap (A++(X++(Y++C)))::R)),bR 104 #[.slice (some ⟨g,0,none⟩) n cap,I a,I m,I b,ag1] w w0 (RT g n cap (A++(LP X Y++C))::R)):=by
 refine⟨?Z,?Y,?X⟩
 case' Z=>
  intro w0 w R g n cap a b Q hn YN hb oR E7 hS;have S_:=aa F8;have HS:=aa hS;have HV:=aa E7;have HL:=aa hn;clear hS E7 hn;have tp:IntKind.i64.wrap ((a:Int)+1-(a:Int))=1:=by rw[show(a:Int)+1-(a:Int)=1 by omega];decide
  have hww:(a:Int)+1-(a:Int)=1:=by omega
  go_in;go_wp2_with fail
 case' Z=>
  go_loopg [10,11] (b-(a+1)) (λg1 vi vj wr=>∃(i j:Nat),vi=I (i:Int)∧vj=I (j:Int)∧g1=j-i∧a+1≤i∧i≤j∧j≤b∧(i=a+1∨ya (Q.getD (i-1) uJ) (Q.getD a uJ)=true)∧(j=b∨ya (Q.getD j uJ) (Q.getD a uJ)=false)∧Sep w0 wr (RT g n cap Q::R))
  case' atStart=>skip
  refine ?J
  case' round=>skip
  refine ?G
 case' J=>exact⟨a+1,b,by go_num,rfl,rfl,dp _,by omega,dp _,.inl rfl,.inl rfl,HS.out⟩
 case' G=>clear HS;obtain⟨i,j,rfl,rfl,uF,Yr,yN,uo,qL,zM,iU⟩:=hrel;have ly:=HL.out
 case' G=>by_cases tH:i<j;refine ?D;rotate_left;refine ?V
 case' Y=>
  intro w0 w R g n cap a m Q hn YN hb oR E7 hS;have S_:=aa F8;have HS:=aa hS;have HV:=aa E7;have HL:=aa hn;clear hS E7 hn;have tp:IntKind.i64.wrap ((m:Int)+1-(m:Int))=1:=by rw[show(m:Int)+1-(m:Int)=1 by omega];decide
  have hww:(m:Int)+1-(m:Int)=1:=by omega
  have d0:((m:Int)-(a:Int)==1)=false:=by simp;omega
  go_in;go_wp2_with fail
 case' Y=>
  go_loopg [14,15] (m-a) (λg1 vi vj wr=>∃(i j:Nat),vi=I (i:Int)∧vj=I (j:Int)∧g1=j-i∧a≤i∧i≤j∧j≤m∧(i=a∨ya (Q.getD m uJ) (Q.getD (i-1) uJ)=false)∧(j=m∨ya (Q.getD m uJ) (Q.getD j uJ)=true)∧Sep w0 wr (RT g n cap Q::R))
  case' atStart=>skip
  refine ?U
  case' round=>skip
  refine ?g0
 case' g0=>clear HS;obtain⟨i,j,rfl,rfl,uF,Yr,yN,uo,qL,zM,iU⟩:=hrel;have ly:=HL.out
 case' g0=>by_cases tH:i<j;refine ?g1;rotate_left;refine ?g2
 case' X=>
  intro N ag5 w0 w R g n cap a m b X Y A C hN hl ha hm hb h2X h2Y hX hY oR E7 hS;have o8:A.length+X.length+Y.length+C.length=n:=by rw[←hl];simp;omega
  obtain⟨d,hd⟩:∃d,d=(a+b)/2:=⟨_,rfl⟩;obtain⟨Q,hQ⟩:∃Q,Q=A++(X++(Y++C)):=⟨_,rfl⟩;have HIH:=aa ag5;have S_:=aa F8;have Bq:=aa (λs0 r0 s=>aN5 (s0:=s0) (r0:=r0) (s:=s) hQ ha hm hb hd hX hY h2X h2Y);have HQ:=aa hQ;rw[←hQ]at hl E7 hS;have HS:=aa hS;have HV:=aa E7;have HL:=aa hl;have HA:Hid (A.length=a):=aa ha.symm;obtain⟨aS7,GD⟩:∃aS7,X.length=aS7:=⟨_,rfl⟩;obtain⟨aS8,hyl⟩:∃aS8,Y.length=aS8:=⟨_,rfl⟩;have HXY:Hid (X.length=aS7∧Y.length=aS8∧m=a+aS7∧b=m+aS8∧aS7+aS8≤N+1):=aa ⟨GD,hyl,by omega,by omega,by omega⟩;have ham:a+1<m:=by omega
  have Xe:m+1<b:=by omega
  have VL:b≤n:=by omega
  have Z5:2*d≤a+b∧a+b≤2*d+1:=by omega
  clear ag5 hX hY h2X h2Y hS E7 hl hQ ha hm hb o8 hN GD hyl;have d0:((m:Int)-(a:Int)==1)=false:=by simp;omega
  have d1:((b:Int)-(m:Int)==1)=false:=by simp;omega
  have P_:IntKind.u64.wrap ((a:Int)+(b:Int))=(a:Int)+(b:Int):=by rw[ir];omega
  have hd0:((a:Int)+(b:Int))/2=(d:Int):=by omega
  have Wt:IntKind.i64.wrap (d:Int)=(d:Int):=bf _ (by omega) (by omega);clear hd;delta bR;go_in
  go_upto_if 140 with fail
 case' X=>
  go_cut [20,21]from 138 to 146 (λv20 v21 wx=>wx=w∧∃s0 r0:Nat,v20=I s0∧v21=I r0∧((d<m∧s0=d+m-b∧r0=d)∨(m≤d∧s0=a∧r0=m)))
  case' first=>skip
  refine ?g3
  case' rest=>skip
  refine ?g4
 case' g4=>obtain⟨rfl,s0,r0,rfl,rfl,hsr⟩:=hcut;have aO9:=aa (λs=>Bq.out s0 r0 s hsr);clear Bq;go_wp2_with fail
 case' g4=>
  go_loopg [20,21] (r0-s0) (λg1 vi vj wr=>∃(i j:Nat),vi=I (i:Int)∧vj=I (j:Int)∧g1=j-i∧s0≤i∧i≤j∧j≤r0∧(i=s0∨ya (Q.getD (d+m-1-(i-1)) uJ) (Q.getD (i-1) uJ)=false)∧(j=r0∨ya (Q.getD (d+m-1-j) uJ) (Q.getD j uJ)=true)∧Sep w0 wr (RT g n cap Q::R))
  case' atStart=>skip
  refine ?g5
  case' round=>skip
  refine ?g6
 case' g6=>clear HS;obtain⟨i,j,rfl,rfl,uF,Yr,yN,uo,qL,zM,iU⟩:=hrel;have ly:=HL.out
 case' g6=>by_cases tH:i<j;refine ?g7;rotate_left;refine ?g8
 case' V|g2|g8=>
  obtain rfl:i=j:=by omega
  have d3:decide ((i:Int)<(i:Int))=false:=cW (by omega);have HS:=aa iU
 case' V|g2=>have Fh:=aa qL;have HJ2:=aa zM;clear iU qL zM;go_wp2_with fail;clear d3 tH
 case' g8=>
  obtain⟨X1,at3,ay3,ay4,rfl,rfl,JH,El,Mc,o1,o2,o3,o4⟩:=aO9.out i Yr uo qL zM;clear iU qL zM S_ aO9;have HMR:=aa Mc;have HO:=aa (show y8 X1∧y8 at3∧y8 ay3∧y8 ay4 from⟨o1,o2,o3,o4⟩);clear Mc o1 o2 o3 o4;obtain⟨HXL,HYL,Jr,yU,hNN⟩:=HXY.out;rw[eE]at HXL HYL;obtain⟨e,he⟩:∃e:Nat,d+m-i=e:=⟨_,rfl⟩;have hez:(d:Int)+(m:Int)-(i:Int)=(e:Int):=by omega
  have hwe:IntKind.i64.wrap ((d:Int)+(m:Int)-(i:Int))=(e:Int):=by rw[bf _ (by omega) (by omega)];omega
  have HS:Hid (Sep w0 wr (RT g n cap (A++(X1++(at3++(ay3++(ay4++C)))))::R)):=aa (by have:=HS.out;rw[HQ.out]at this;simpa using this);have HV:Hid (AA (A++(X1++(at3++(ay3++(ay4++C)))))):=aa (by have:=HV.out;rw[HQ.out]at this;simpa using this);have HL:Hid ((A++(X1++(at3++(ay3++(ay4++C))))).length=n):=aa (by have:=HL.out;rw[HQ.out]at this;simpa using this);have hAL:A.length=a:=HA.out;clear HQ d3;have hL2:=HL.out;simp only[eE]at hL2;obtain⟨b1,d5⟩:∃b1,decide ((i:Int)<(m:Int))=b1:=⟨_,rfl⟩;obtain⟨b2,d6⟩:∃b2,decide ((m:Int)<(e:Int))=b2:=⟨_,rfl⟩;obtain⟨b3,d7⟩:∃b3,decide ((a:Int)<(i:Int))=b3:=⟨_,rfl⟩;obtain⟨b4,d8⟩:∃b4,decide ((e:Int)<(b:Int))=b4:=⟨_,rfl⟩;have d9:decide ((i:Int)<(d:Int))=b2:=by rw[←d6];exact sX.2 (by omega)
  have d10:decide ((d:Int)<(e:Int))=b1:=by rw[←d5];exact sX.2 (by omega)
  have af8:b1=false→at3=[]:=λh=>nJ (by rw[←d5]at h;have:=uL h;omega);have F2:b2=false→ay3=[]:=λh=>nJ (by rw[←d6]at h;have:=uL h;omega);have af9:b3=false→X1=[]:=λh=>nJ (by rw[←d7]at h;have:=uL h;omega);have ag0:b4=false→ay4=[]:=λh=>nJ (by rw[←d8]at h;have:=uL h;omega);have T1:b1=true→at3≠[]:=λh h2=>by rw[←d5]at h;have:=oC h;have l:at3.length=0:=(by rw[h2];rfl);omega
  have T2:b2=true→ay3≠[]:=λh h2=>by rw[←d6]at h;have:=oC h;have l:ay3.length=0:=(by rw[h2];rfl);omega
  have ao7:b3=true→X1≠[]:=λh h2=>by rw[←d7]at h;have:=oC h;have l:X1.length=0:=(by rw[h2];rfl);omega
  have T4:b4=true→ay4≠[]:=λh h2=>by rw[←d8]at h;have:=oC h;have l:ay4.length=0:=(by rw[h2];rfl);omega
  have PK:Hid (AA (A++(X1++(ay3++(at3++(ay4++C)))))):=aa (HV.out.of (λx hx=>by
   simp only[jQ]at hx⊢;rcases hx with h|h|h|h|h|h<;>simp[h]))
  have HV3:Hid (AA (A++(LP X1 ay3++(at3++(ay4++C))))):=aa (HV.out.of (λx hx=>by
   simp only[jQ]at hx⊢;rcases hx with h|h|h|h|h
   ·simp[h]
   ·rcases aL1 _ _ _ h with h|h<;>simp[h]
   all_goals simp[h]))
  have HRO:=aa (fun(h:(b1&&b2)=true)=>aE2 (A:=A++X1) (U_:=at3) (V:=ay3) (C:=ay4++C) (a:=i) (m:=m) (b:=e) (w:=wr) (by have:=HL.out;simpa using this) (by rw[eE];omega) (by rw[eE];omega) (by omega) (T1 (by cases b1;cases h;rfl)) (T2 (by cases b2;(cases b1<;>cases h);rfl)) oR (by have:=HV.out;simpa using this) (by have:=HS.out;simpa using this));have C4:Hid ((b1&&b2)=false→Sep w0 wr (RT g n cap (A++(X1++(ay3++(at3++(ay4++C)))))::R)):=aa (λh=>by
   have h9:=HS.out;cases b1 with
   |false=>rw[af8 rfl]at h9⊢;simpa using h9
   |true=>
    cases b2 with
    |false=>rw[F2 rfl]at h9⊢;simpa using h9
    |true=>cases h)
  have K2:=aa (λw' (h:Sep w0 w' (RT g n cap (A++(X1++(ay3++(at3++(ay4++C)))))::R)) (h8:(b3&&b2)=true)=>HIH.ok (a:=a) (m:=i) (b:=d) (by omega) (by simp;omega) hAL.symm (by omega) (by omega) (ao7 (by cases b3;cases h8;rfl)) (T2 (by cases b2;(cases b3<;>cases h8);rfl)) HO.out.1 HO.out.2.2.1 oR PK.out h);have HG1:Hid ((b3&&b2)=false→LP X1 ay3=X1++ay3):=aa (λh=>aB7 (by
   cases b3 with
   |false=>exact .inl (af9 rfl)
   |true=>
    cases b2 with
    |false=>exact .inr (F2 rfl)
    |true=>cases h))
  have lU:=aa (λw' (h:Sep w0 w' (RT g n cap (A++(LP X1 ay3++(at3++(ay4++C))))::R)) (h8:(b1&&b4)=true)=>HIH.ok (A:=A++LP X1 ay3) (X:=at3) (Y:=ay4) (C:=C) (a:=d) (m:=e) (b:=b) (w:=w') (w0:=w0) (R:=R) (g:=g) (cap:=cap) (n:=n) (by omega) (by simp[ay8];omega) (by simp[ay8];omega) (by simp[ay8];omega) (by omega) (T1 (by cases b1;cases h8;rfl)) (T4 (by cases b4;(cases b1<;>cases h8);rfl)) HO.out.2.1 HO.out.2.2.2 oR (by have:=HV3.out;simpa using this) (by simpa using h));have Ul:Hid ((b1&&b4)=false→LP at3 ay4=at3++ay4):=aa (λh=>aB7 (by
   cases b1 with
   |false=>exact .inl (af8 rfl)
   |true=>
    cases b4 with
    |false=>exact .inr (ag0 rfl)
    |true=>cases h))
  clear af8 F2 af9 ag0 T1 T2 ao7 T4 HV PK HV3 HL HIH HO hL2 HS HXL HYL Jr yU hNN JH El he hAL
  go_upto_region 39 with fail
 case' V=>
  go_loopg [13] (i-1-a) (λg1 vk wr=>∃(k:Nat) (al4:List PR),vk=I (k:Int)∧a≤k∧k+g1=i-1∧al4.length=n∧AA al4∧Sep w0 wr (RT g n cap al4::R)∧Hid (xP al4 k (i-1-k)=xP Q a (i-1-a)))
  case' atStart=>skip
  refine ?g9
  case' round=>skip
  refine ?ga
 case' g2=>
  go_loopg [17] (m-i) (λg1 vk wr=>∃(k:Nat) (al4:List PR),vk=I (k:Int)∧k≤m∧g1+i=k∧al4.length=n∧AA al4∧Sep w0 wr (RT g n cap al4::R)∧Hid (uT al4 k (k-i)=uT Q m (m-i)))
  case' atStart=>skip
  refine ?gb
  case' round=>skip
  refine ?gc
 case' g8=>
  go_cut [185]from 178 to 185 (λv wx=>v= .bool (b1&&b2)∧wx=wr)
  case first=>
   cases b1<;>cases b2<;>(simp only[gG,yJ]at d5 d6)
   all_goals
    go_wp2
    go_meet
    exact⟨rfl,rfl⟩
  case rest=>
   obtain⟨rfl,rfl⟩:=hcut
   go_upto_if 185 with fail
   go_cut []from 178 to 191 (λwx=>Sep w0 wx (RT g n cap (A++(X1++(ay3++(at3++(ay4++C)))))::R))
   case first=>
    cases hb:(b1&&b2)with
    |true=>
     go_wp2_with fail;refine(HRO.out hb).kh λw1 HS=>?_;go_wp2
     go_meet
     have:=HS.out;simpa using this
    |false=>
     go_wp2
     go_meet
     exact C4.out hb
   case rest=>
    have HS:=aa hcut;clear hcut HRO C4
    go_upto_region 41 with fail
    go_cut [199]from 192 to 199 (λv wx=>v= .bool (b3&&b2)∧wx=wc)
    case first=>
     cases b3<;>cases b2<;>(simp only[gG,yJ]at d7 d9)
     all_goals
      go_wp2
      go_meet
      exact⟨rfl,rfl⟩
    case rest=>
     obtain⟨rfl,rfl⟩:=hcut
     go_upto_if 199 with fail
     go_cut []from 192 to 205 (λwx=>Sep w0 wx (RT g n cap (A++(LP X1 ay3++(at3++(ay4++C))))::R))
     case first=>
      cases hb:(b3&&b2)with
      |true=>
       go_wp2_with fail;refine(K2.out _ HS.out hb).kh λw1 HS=>?_;go_wp2
       go_meet
       exact HS.out
      |false=>
       go_wp2
       go_meet
       rw[HG1.out hb];simpa using HS.out
     case rest=>
      have HS:=aa hcut;clear hcut K2 HG1
      go_upto_region 43 with fail
      go_cut [213]from 206 to 213 (λv wx=>v= .bool (b1&&b4)∧wx=wc)
      case first=>
       cases b1<;>cases b4<;>(simp only[gG,yJ]at d10 d8)
       all_goals
        go_wp2
        go_meet
        exact⟨rfl,rfl⟩
      case rest=>
       obtain⟨rfl,rfl⟩:=hcut;cases hb:(b1&&b4)with
       |true=>
        go_wp2_with fail;refine(lU.out _ HS.out hb).kh λw1 HS=>?_;go_wp2;go_end0;refine⟨rfl,?_⟩;rw[HMR.out,qP];simpa using HS.out
       |false=>
        go_wp2;go_end0;refine⟨rfl,?_⟩;rw[HMR.out,qP,Ul.out hb,qP];exact HS.out
 case' ga=>clear HS;obtain⟨k,al4,rfl,rV,rX,ly,μ,iU,HO⟩:=hrel;have hwi:IntKind.i64.wrap ((i:Int)-1)=(i:Int)-1:=bf _ (by omega) (by omega)
 case' ga=>by_cases tH:k<i-1;refine ?gd;rotate_left;refine ?ge
 case' gc=>clear HS;obtain⟨k,al4,rfl,rV,rX,ly,μ,iU,HO⟩:=hrel
 case' gc=>by_cases tH:i<k;refine ?gf;rotate_left;refine ?gg
 case' D|g1|g7=>
  have as4:(i:Int)<(j:Int):=by omega
  obtain⟨c,hc⟩:∃c:Nat,(i+j)/2=c:=⟨_,rfl⟩;have kM:i≤c∧c<j:=by omega
  have hcz:((i:Int)+(j:Int))/2=(c:Int):=by omega
  have hu:IntKind.u64.wrap ((i:Int)+(j:Int))=(i:Int)+(j:Int):=by rw[ir];omega
  have Hx:IntKind.i64.wrap (c:Int)=(c:Int):=bf _ (by omega) (by omega);have UN:(c:Int)<(n:Int):=by omega
 case' D=>
  have zT:(a:Int)<(n:Int):=by omega
  clear hc;have lE:=aa (om (iU.drew.row 0 rfl) (j:=c) (by omega));have WY:=aa (om (iU.drew.row 0 rfl) (j:=a) (by omega));have iN:Hid ((ku (Q.getD (c) uJ)).length=6):=rfl;have jb:Hid ((ku (Q.getD (a) uJ)).length=6):=rfl;have gb:=(oz (iU.drew.row 0 rfl) g rfl).2;have jH:=Na (Q.getD (c) uJ) (Q.getD (a) uJ);have Tb:=aa (λw'=>S_.out w' (Q.getD (c) uJ) (Q.getD (a) uJ));generalize DY (Q.getD (c) uJ).2.at_ (Q.getD (a) uJ).2.at_=cz at*;obtain⟨lz,SJ⟩:∃lz,ya (Q.getD (c) uJ) (Q.getD (a) uJ)=lz:=⟨_,rfl⟩;have M8:=aa SJ;rw[SJ]at jH;clear SJ;obtain⟨c1,kM⟩:∃c1,ku (Q.getD (c) uJ)=c1:=⟨_,rfl⟩;obtain⟨c2,mw⟩:∃c2,ku (Q.getD (a) uJ)=c2:=⟨_,rfl⟩
 case' g1=>
  have zT:(m:Int)<(n:Int):=by omega
  clear hc;have lE:=aa (om (iU.drew.row 0 rfl) (j:=m) (by omega))
 case' g7=>
  obtain⟨e,he⟩:∃e:Nat,d+m-1-c=e:=⟨_,rfl⟩;have hez:(d:Int)+(m:Int)-1-(c:Int)=(e:Int):=by omega
  have hwe:IntKind.i64.wrap ((d:Int)+(m:Int)-1-(c:Int))=(e:Int):=by rw[bf _ (by omega) (by omega)];omega
  have Bs:(e:Int)<(n:Int):=by omega
  have he1:d+m-1-(c+1-1)=e:=by omega
  clear hc;have lE:=aa (om (iU.drew.row 0 rfl) (j:=e) (by omega))
 case' g1|g7=>have WY:=aa (om (iU.drew.row 0 rfl) (j:=c) (by omega))
 case' g1=>have iN:Hid ((ku (Q.getD (m) uJ)).length=6):=rfl
 case' g7=>have iN:Hid ((ku (Q.getD (e) uJ)).length=6):=rfl
 case' g1|g7=>have jb:Hid ((ku (Q.getD (c) uJ)).length=6):=rfl;have gb:=(oz (iU.drew.row 0 rfl) g rfl).2
 case' g1=>have jH:=Na (Q.getD (m) uJ) (Q.getD (c) uJ);have Tb:=aa (λw'=>S_.out w' (Q.getD (m) uJ) (Q.getD (c) uJ));generalize DY (Q.getD (m) uJ).2.at_ (Q.getD (c) uJ).2.at_=cz at*;obtain⟨lz,SJ⟩:∃lz,ya (Q.getD (m) uJ) (Q.getD (c) uJ)=lz:=⟨_,rfl⟩;have M8:=aa SJ;rw[SJ]at jH;clear SJ;obtain⟨c1,kM⟩:∃c1,ku (Q.getD (m) uJ)=c1:=⟨_,rfl⟩
 case' g7=>have jH:=Na (Q.getD (e) uJ) (Q.getD (c) uJ);have Tb:=aa (λw'=>S_.out w' (Q.getD (e) uJ) (Q.getD (c) uJ));generalize DY (Q.getD (e) uJ).2.at_ (Q.getD (c) uJ).2.at_=cz at*;obtain⟨lz,SJ⟩:∃lz,ya (Q.getD (e) uJ) (Q.getD (c) uJ)=lz:=⟨_,rfl⟩;have M8:=aa SJ;rw[SJ]at jH;clear SJ;obtain⟨c1,kM⟩:∃c1,ku (Q.getD (e) uJ)=c1:=⟨_,rfl⟩
 case' g1|g7=>obtain⟨c2,mw⟩:∃c2,ku (Q.getD (c) uJ)=c2:=⟨_,rfl⟩
 case' D|g1|g7=>rw[kM]at iN lE Tb;rw[mw]at jb WY Tb;clear kM mw;have kI:=aa iU;clear iU;go_wp2_with fail
 case' D=>refine bW [(1,[0,1,2,3,4,5,6,7,8]),(3,[9]),(0,[10])] (by kernel_rfl) ?_;simp only[zz];refine af ?_;repeat(first|(refine ak 51 _ g ((c)*6) c1 _ rfl rfl rfl (aG lE.out (by simp)) underlying51 rfl (by rw[iN.out];kernel_rfl) ?_;simp only[Act.put,aZ,aL,aN])|(refine ak 51 _ g ((a)*6) c2 _ rfl rfl rfl (aG WY.out (by simp)) underlying51 rfl (by rw[jb.out];kernel_rfl) ?_;simp only[Act.put,aZ,aL,aN])|go_big_quiet_step (fail)|quiet_step (fail))
 case' g1=>refine bW [(1,[0,1,2,3,4,5,6,7,8]),(3,[9]),(0,[10,11])] (by kernel_rfl) ?_;simp only[zz];refine af ?_;repeat(first|(refine ak 51 _ g ((m)*6) c1 _ rfl rfl rfl (aG lE.out (by simp)) underlying51 rfl (by rw[iN.out];kernel_rfl) ?_;simp only[Act.put,aZ,aL,aN])|(refine ak 51 _ g ((c)*6) c2 _ rfl rfl rfl (aG WY.out (by simp)) underlying51 rfl (by rw[jb.out];kernel_rfl) ?_;simp only[Act.put,aZ,aL,aN])|go_big_quiet_step (fail)|quiet_step (fail))
 case' g7=>refine bW [(1,[0,1,2,3,4,5,6,7,8,9,10]),(3,[11]),(0,[12,13])] (by kernel_rfl) ?_;simp only[zz];refine af ?_;repeat(first|(refine ak 51 _ g ((e)*6) c1 _ rfl rfl rfl (aG lE.out (by simp)) underlying51 rfl (by rw[iN.out];kernel_rfl) ?_;simp only[Act.put,aZ,aL,aN])|(refine ak 51 _ g ((c)*6) c2 _ rfl rfl rfl (aG WY.out (by simp)) underlying51 rfl (by rw[jb.out];kernel_rfl) ?_;simp only[Act.put,aZ,aL,aN])|go_big_quiet_step (fail)|quiet_step (fail))
 case' gd=>
  have as4:(k:Int)<(i:Int)-1:=by omega
  have sh:(k:Int)<(n:Int):=by omega
  have aQ4:(k:Int)+1<(n:Int):=by omega
  have e1:((k:Int)+1).toNat=k+1:=by omega
  have LA:IntKind.i64.wrap ((k:Int)+1)=(k:Int)+1:=bf _ (by omega) (by omega);have HX:Hid (xP (jc al4 k (k+1)) (k+1) (i-1-(k+1))=xP Q a (i-1-a)):=aa (by
   rw[←HO.out,show i-1-k=(i-1-(k+1))+1 by omega];rfl)
  have ν:=aa (au3 (P:=al4) (p:=k) (q:=k+1) (by omega) (by omega));have zB:=aa (μ.jc (k) (k+1) (by omega) (by omega));have zf:=aa (μ.at (k));have zA:=aa (μ.at (k+1))
 case' gf=>
  obtain⟨kp,iG⟩:∃kp,kp+1=k:=⟨k-1,by omega⟩;have as4:(i:Int)<(k:Int):=by omega
  have d4:decide ((k:Int)>(i:Int))=true:=eP (by omega);have sh:(kp:Int)<(n:Int):=by omega
  have aQ4:(k:Int)<(n:Int):=by omega
  have A4:(k:Int)-1=(kp:Int):=by omega
  have LA:IntKind.i64.wrap (kp:Int)=(kp:Int):=bf _ (by omega) (by omega);have HX:Hid (uT (jc al4 k kp) kp (kp-i)=uT Q m (m-i)):=aa (by
   subst iG;rw[←HO.out,show kp+1-i=(kp-i)+1 by omega];rfl)
  have ν:=aa (au3 (P:=al4) (p:=k) (q:=kp) (by omega) (by omega));have zB:=aa (μ.jc (k) (kp) (by omega) (by omega));have zf:=aa (μ.at (k));have zA:=aa (μ.at (kp))
 case' gd|gf=>have lE:=aa (om (iU.drew.row 0 rfl) (j:=k) (by omega))
 case' gd=>have WY:=aa (om (iU.drew.row 0 rfl) (j:=k+1) (by omega))
 case' gf=>have WY:=aa (om (iU.drew.row 0 rfl) (j:=kp) (by omega))
 case' gd|gf=>have gb:=(oz (iU.drew.row 0 rfl) g rfl).2;have iN:Hid ((ku (al4.getD (k) uJ)).length=6):=rfl
 case' gd=>have jb:Hid ((ku (al4.getD (k+1) uJ)).length=6):=rfl
 case' gf=>have jb:Hid ((ku (al4.getD (kp) uJ)).length=6):=rfl
 case' gd|gf=>have qs:Hid ((flat ku al4).length=n*6):=aa (by rw[ck sQ,ly]);have sE:=aa ly;have kI:=aa iU
 case' gd=>clear iU
 case' gf=>have HKP:=aa iG;clear iU iG
 case' gd|gf=>go_wp2_with fail;refine bW [(1,[0,1,5,6,7,8,9,10,11,12,13,14]),(0,[2,3,4]),(3,[15]),(0,[16]),(3,[17])] (by kernel_rfl) ?_;simp only[zz];refine af ?_;generalize ku (al4.getD (k) uJ)=c1 at*
 case' gd=>generalize ku (al4.getD (k+1) uJ)=c2 at*;repeat(first|(refine ak 51 _ g ((k)*6) c1 _ rfl rfl rfl (aG lE.out (by simp)) underlying51 rfl (by rw[iN.out];kernel_rfl) ?_;simp only[Act.put,aZ,aL,aN])|(refine ak 51 _ g ((k+1)*6) c2 _ rfl rfl rfl (aG WY.out (by simp)) underlying51 rfl (by rw[jb.out];kernel_rfl) ?_;simp only[Act.put,aZ,aL,aN])|go_big_quiet_step (fail)|quiet_step (fail))
 case' gf=>generalize ku (al4.getD (kp) uJ)=c2 at*;repeat(first|(refine ak 51 _ g ((k)*6) c1 _ rfl rfl rfl (aG lE.out (by simp)) underlying51 rfl (by rw[iN.out];kernel_rfl) ?_;simp only[Act.put,aZ,aL,aN])|(refine ak 51 _ g ((kp)*6) c2 _ rfl rfl rfl (aG WY.out (by simp)) underlying51 rfl (by rw[jb.out];kernel_rfl) ?_;simp only[Act.put,aZ,aL,aN])|go_big_quiet_step (fail)|quiet_step (fail))
 case' D|g1|g7|gd|gf=>
  refine ax ?_;repeat(first|go_big_quiet_step(fail)|apply ax|apply af|apply ag|apply ah)
  refine ao ?_
 case' D|g1|g7=>go_wp2_with fail;refine(Tb.out _).kq kI.dr λw2 kI=>?_;clear gb
 case' gd|gf=>
  refine pK kI.drew 0 rfl ((k)*6) c2 51 _ _ rfl rfl rfl rfl (by rw[qs.out,jb.out];omega) (by rw[jb.out];kernel_rfl) zA.out (λw4 js _=>?_);have kI:=aa js;clear js gb;simp only[aL]at kI;go_wp2_with fail;have gb:=(oz (kI.row 0 rfl) g rfl).2;try simp only[Act.put]
  repeat(first|go_big_quiet_step(fail)|apply ax|apply af|apply ag|apply ah)
  refine ao ?_
 case' gd=>refine pK kI.out 0 rfl ((k+1)*6) c1 51 _ _ rfl rfl rfl rfl (by rw[pA,qs.out,iN.out];omega) (by rw[iN.out];kernel_rfl) zf.out (λw5 Dv _=>?_)
 case' gf=>refine pK kI.out 0 rfl ((kp)*6) c1 51 _ _ rfl rfl rfl rfl (by rw[pA,qs.out,iN.out];omega) (by rw[iN.out];kernel_rfl) zf.out (λw5 Dv _=>?_)
 case' gd|gf=>have kI:=aa Dv;clear Dv gb;simp only[aL,ν.out]at kI;go_wp2;refine aj ?_;go_wp2
 case' D=>
  cases lz with
  |true=>
   have d2:decide (cz<0)=true:=jH;go_wp2_with fail;repeat(first|go_big_quiet_step(fail)|apply ax|apply af|apply ag|apply ah)
   refine aj ?_;go_wp2;go_roundg (j-(c+1))
   case measure=>omega
   case rel=>exact⟨c+1,j,by go_num,rfl,rfl,by omega,by omega,uo,.inr M8.out,zM,kI.out⟩
  |false=>
   have d2:decide (cz<0)=false:=jH;go_wp2_with fail;repeat(first|go_big_quiet_step(fail)|apply ax|apply af|apply ag|apply ah)
   refine aj ?_;go_wp2;go_roundg (c-i)
   case measure=>omega
   case rel=>exact⟨i,c,rfl,rfl,rfl,Yr,by omega,by omega,qL,.inr M8.out,kI.out⟩
 case' g1=>
  cases lz with
  |true=>
   have d2:decide (cz<0)=true:=jH;go_wp2_with fail;repeat(first|go_big_quiet_step(fail)|apply ax|apply af|apply ag|apply ah)
   refine aj ?_;go_wp2;go_roundg (c-i)
   case measure=>omega
   case rel=>exact⟨i,c,rfl,rfl,rfl,Yr,by omega,by omega,qL,.inr M8.out,kI.out⟩
  |false=>
   have d2:decide (cz<0)=false:=jH;go_wp2_with fail;repeat(first|go_big_quiet_step(fail)|apply ax|apply af|apply ag|apply ah)
   refine aj ?_;go_wp2;go_roundg (j-(c+1))
   case measure=>omega
   case rel=>exact⟨c+1,j,by go_num,rfl,rfl,by omega,by omega,uo,.inr M8.out,zM,kI.out⟩
 case' g7=>
  cases lz with
  |true=>
   have d2:decide (cz<0)=true:=jH;go_wp2_with fail;repeat(first|go_big_quiet_step(fail)|apply ax|apply af|apply ag|apply ah)
   refine aj ?_;go_wp2;go_roundg (c-i)
   case measure=>omega
   case rel=>exact⟨i,c,rfl,rfl,rfl,Yr,by omega,by omega,qL,.inr (by rw[he];exact M8.out),kI.out⟩
  |false=>
   have d2:decide (cz<0)=false:=jH;go_wp2_with fail;repeat(first|go_big_quiet_step(fail)|apply ax|apply af|apply ag|apply ah)
   refine aj ?_;go_wp2;go_roundg (j-(c+1))
   case measure=>omega
   case rel=>exact⟨c+1,j,by go_num,rfl,rfl,by omega,by omega,uo,.inr (by rw[he1];exact M8.out),zM,kI.out⟩
 case' gd=>
  go_roundg (i-1-(k+1))
  case measure=>omega
  case rel=>exact⟨k+1,_,by go_num,by omega,by omega,(aw6 _ _ _).trans sE.out,zB.out,kI.out,HX⟩
 case' gf=>
  go_roundg (kp-i)
  case measure=>have:=HKP.out;omega
  case rel=>exact⟨kp,_,by go_num,by omega,by have:=HKP.out;omega,(aw6 _ _ _).trans sE.out,zB.out,kI.out,HX⟩
 case' g9=>exact⟨a,Q,rfl,dp _,by omega,HL.out,HV.out,HS.out,rfl⟩
 case' ge=>
  obtain rfl:k=i-1:=by omega
  have d3:¬(((i-1:Nat):Int)<(i:Int)-1):=by omega
  go_wp2;refine aV (fV rfl _ _ _) rfl ?_;refine⟨rfl,i,Yr,uo,Fh.out,HJ2.out,?_⟩;rw[←HO.out,oI]
 case' ge=>exact iU
 case' U=>exact⟨a,m,rfl,rfl,rfl,dp _,by omega,dp _,.inl rfl,.inl rfl,HS.out⟩
 case' gb=>exact⟨m,Q,rfl,dp _,by omega,HL.out,HV.out,HS.out,rfl⟩
 case' gg=>
  obtain rfl:k=i:=by omega
  have d3:decide ((k:Int)>(k:Int))=false:=cW (by omega);go_wp2;refine aV (fV rfl _ _ _) rfl ?_;refine⟨rfl,k,Yr,uo,Fh.out,HJ2.out,?_⟩;rw[←HO.out,oI]
 case' gg=>exact iU
 case' g3=>
  by_cases cC:d<m
  ·have hmz:(m:Int)>(d:Int):=by omega
   have d4:decide ((m:Int)>(d:Int))=true:=eP hmz;have hws:IntKind.i64.wrap ((d:Int)+(m:Int)-(b:Int))=(d:Int)+(m:Int)-(b:Int):=bf _ (by omega) (by omega);go_wp2
   go_meet
   exact⟨rfl,d+m-b,d,by congr 1;omega,rfl,.inl ⟨cC,rfl,rfl⟩⟩
  ·have hmz:¬(m:Int)>(d:Int):=by omega
   have d4:decide ((m:Int)>(d:Int))=false:=cW hmz;go_wp2
   go_meet
   exact⟨rfl,a,m,rfl,rfl,.inr ⟨by omega,rfl,rfl⟩⟩
 exact⟨s0,r0,by go_num,by go_num,by omega,by omega,by omega,by omega,.inl rfl,.inl rfl,HS.out⟩
def aE3:=@zq48.1
def aE4:=@zq48.2.1
def aJ4:=@zq48.2.2
def aG3 {w0 w:World}{R:List a_}{g n cap a b:Nat}{x:PR}{Y A C:List PR}(hl:(A++x::(Y++C)).length=n)(ha:a=A.length)(hb:b=A.length+1+Y.length)(Qh:Y≠[])(hY:y8 Y)(oR:n≤1000000)(E7:AA (A++x::(Y++C)))(hS:Sep w0 w (RT g n cap (A++x::(Y++C))::R)):
 bR 104 #[.slice (some ⟨g,0,none⟩) n cap,I a,I ((a:Int)+1),I b,ag1] w w0 (RT g n cap (A++(LP [x] Y++C))::R):=by
 have rR:(A++x::(Y++C)).length=A.length+1+Y.length+C.length:=by simp;omega
 have hy:=List.length_pos_iff.2 Qh;refine(aE3 (a:=a) (b:=b) hl (by omega) (by omega) oR E7 hS).mono ?_;rintro r w' ⟨rfl,i,h1,h2,h3,h4,h5⟩;refine⟨rfl,?_⟩;have e1:A++x::(Y++C)=A++([x]++(Y++C)):=rfl;have aR5:(A++x::(Y++C)).getD a uJ=x:=aw8 _ _ _ ha;have aR6:∀q,q<Y.length→(A++x::(Y++C)).getD (a+1+q) uJ=Y.getD q uJ:=λq hq=>by rw[e1,ha];exact aE1 hq
 rw[aR5]at h3 h4;obtain⟨p,rfl⟩:∃p,i=a+1+p:=⟨i-(a+1),by omega⟩;have hp:p≤Y.length:=by omega
 have m:=aL0 (x:=x) hY hp (by
  rcases h3 with e|e
  ·left;omega
  ·by_cases e0:p=0
   ·exact .inl e0
   ·right;rw[←aR6 (p-1) (by omega)];rw[show a+1+(p-1)=a+1+p-1 by omega];exact e) (by
  rcases h4 with e|e
  ·left;omega
  ·by_cases e0:p=Y.length
   ·exact .inl e0
   ·right;rw[←aR6 p (by omega)];exact e)
 have u:=aJ1 x C (Y.take p) (Y.drop p) A (k:=a) ha;rw[List.take_append_drop,oE,Nat.min_eq_left hp]at u;rw[show a+1+p-1-a=p by omega,u]at h5;rw[m];simpa using h5
def aG4 {w0 w:World}{R:List a_}{g n cap a m:Nat}{y:PR}{X A C:List PR}(hl:(A++(X++y::C)).length=n)(ha:a=A.length)(hm:m=A.length+X.length)(Qi:1<X.length)(hX:y8 X)(oR:n≤1000000)(E7:AA (A++(X++y::C)))(hS:Sep w0 w (RT g n cap (A++(X++y::C))::R)):
 bR 104 #[.slice (some ⟨g,0,none⟩) n cap,I a,I m,I ((m:Int)+1),ag1] w w0 (RT g n cap (A++(LP X [y]++C))::R):=by
 have rR:(A++(X++y::C)).length=A.length+X.length+1+C.length:=by simp;omega
 refine(aE4 (a:=a) (m:=m) hl (by omega) (by omega) oR E7 hS).mono ?_;rintro r w' ⟨rfl,i,h1,h2,h3,h4,h5⟩;refine⟨rfl,?_⟩;have aR6:(A++(X++y::C)).getD m uJ=y:=by
  have:=aE1 (A:=A) (X:=X) (Y:=[y]) (C:=C) (i:=0) (by simp);rw[qT,←hm]at this;exact this
 have aR5:∀q,q<X.length→(A++(X++y::C)).getD (a+q) uJ=X.getD q uJ:=λq hq=>by rw[ha];exact aI8 hq
 rw[aR6]at h3 h4;obtain⟨p,rfl⟩:∃p,i=a+p:=⟨i-a,by omega⟩;have hp:p≤X.length:=by omega
 have aS0:=aJ3 (y:=y) hX hp (by
  rcases h3 with e|e
  ·left;omega
  ·by_cases e0:p=0
   ·exact .inl e0
   ·right;rw[←aR5 (p-1) (by omega)];rw[show a+(p-1)=a+p-1 by omega];exact e) (by
  rcases h4 with e|e
  ·left;omega
  ·by_cases e0:p=X.length
   ·exact .inl e0
   ·right;rw[←aR5 p (by omega)];exact e)
 have u:=aJ2 y (m-(a+p)) (X.drop p) (X.take p) A C (k:=m) (by rw[List.length_drop];omega) (by rw[oE,Nat.min_eq_left hp];omega);rw[List.take_append_drop]at u;rw[u]at h5;rw[aS0];simpa using h5
def aL9:∀N,aL8 N
 |0=>⟨λhN _ _ _ _ Qi _ _ _ _ _ _=>by
  have:=List.length_pos_iff.2 Qi;omega⟩
 |N+1=>by
  constructor;intro w0 w R g n cap a m b X Y A C hN hl ha hm hb Qi Qh hX hY oR hv hS;have hx:=List.length_pos_iff.2 Qi;have hy:=List.length_pos_iff.2 Qh;by_cases h1:X.length=1
  ·obtain⟨x,rfl⟩:=List.length_eq_one_iff.1 h1;rw[show((m:Nat):Int)=(a:Int)+1 by omega];exact aG3 hl ha (by omega) Qh hY oR hv hS
  by_cases h2:Y.length=1
  ·obtain⟨y,rfl⟩:=List.length_eq_one_iff.1 h2;rw[show((b:Nat):Int)=(m:Int)+1 by omega];exact aG4 hl ha hm (by omega) hX oR hv hS
  exact aJ4 (aL9 N) hN hl ha hm hb (by omega) (by omega) hX hY oR hv hS
def Wo:∀(P S:List PR),y8 S→y8 (P.foldl (λl x=>sd x l) S)
 |[],S,h=>h
 |x::P,S,h=>Wo P _ (yb h)
def av8 (P:List PR):y8 (GO P):=Wo P [] List.Pairwise.nil
def aE5 {w0 w:World}{R:List a_}{g n cap:Nat}{P:List PR}(hn:P.length=n)(aj4:20≤n)(aP0:n<40)(hv:AA P)(hS:Sep w0 w (RT g n cap P::R)):
 bR 75 #[.slice (some ⟨g,0,none⟩) n cap,I n,ag1] w w0 (RT g n cap (GO P)::R):=by
 obtain⟨B,D,rfl,hB⟩:∃B D,P=B++D∧B.length=20:=⟨P.take 20,P.drop 20,(List.take_append_drop _ _).symm,by rw[oE];omega⟩;rw[eE]at hn;have HI1:=aa (λw' hS=>I3 (w0:=w0) (w:=w') (R:=R) (g:=g) (cap:=cap) (n:=n) (a:=0) (b:=20) (P0:=B++D) (by rw[eE];omega) (by omega) (by omega) (by omega) hv hS);have e1:=I5 [] B D;rw[y_,mD,jF,hB,y_]at e1;rw[e1]at HI1;have qy:AA (GO B++D):=hv.of (λx hx=>by
  rcases jQ.1 hx with h|h
  ·exact List.mem_append_left _ ((F9 B).mem_iff.1 h)
  ·exact List.mem_append_right _ h)
 have zS:(GO B).length=20:=by rw[VV,hB]
 have Fh:=aa (λw' hS=>I3 (w0:=w0) (w:=w') (R:=R) (g:=g) (cap:=cap) (n:=n) (a:=20) (b:=n) (P0:=GO B++D) (by rw[eE];omega) (by omega) (by omega) (by omega) qy hS);have e2:=I5 (GO B) D [];rw[sY,sY,zS,show 20+D.length=n by omega]at e2;rw[e2]at Fh;have OV:AA (GO B++GO D):=qy.of (λx hx=>by
  rcases jQ.1 hx with h|h
  ·exact List.mem_append_left _ h
  ·exact List.mem_append_right _ ((F9 D).mem_iff.1 h))
 have Mm:=aa (λw' (h0:20<n) (hS:Sep w0 w' (RT g n cap (GO B++GO D)::R))=>(aL9 (20+D.length)).ok (w0:=w0) (w:=w') (R:=R) (g:=g) (n:=n) (cap:=cap) (a:=0) (m:=20) (b:=n) (X:=GO B) (Y:=GO D) (A:=[]) (C:=[]) (by rw[zS,VV];exact dp _) (by simp[zS,VV];omega) rfl (by rw[zS];rfl) (by rw[VV];omega) (by intro e;rw[e]at zS;cases zS) (by intro e;have:=VV D;rw[e]at this;simp at this;omega) (av8 B) (av8 D) (by omega) (by simpa using OV) (by simpa using hS));have Ta:Hid (GO (B++D)=LP (GO B) (GO D)):=aK8 B D;have Er:Hid (n=20→GO (B++D)=GO B++GO D):=aa (λh=>by
  have:D=[]:=nJ (by omega);subst this;rw[sY];simp[GO])
 have HS:=aa hS;clear hS e1 e2 hv qy OV zS hn hB;have Yo:(20:Int)≤(n:Int):=by omega
 have aR2:¬((40:Int)≤(n:Int)):=by omega
 have d1:decide ((20:Int)≤(n:Int))=true:=eP (by omega);have d2:decide ((40:Int)≤(n:Int))=false:=cW (by omega);have d4:decide ((40:Int)<(n:Int))=false:=cW (by omega);delta bR;go_in;go_wp2_with fail;refine gQ 2 ?_;rw[dA];go_wp2_with fail;refine(HI1.out _ HS.out).kh λw1 HS=>?_;go_wp2_with fail;rw[dA];go_wp2_with fail;refine(Fh.out _ HS.out).kh λw2 HS=>?_;go_wp2_with fail;by_cases fL:20<n
 ·have d3:decide ((20:Int)<(n:Int))=true:=eP (by omega);refine gQ 2 ?_;rw[dA];go_wp2_with fail;refine gQ 1 ?_;rw[dA];go_wp2_with fail;refine(Mm.out _ fL HS.out).kh λw3 HS=>?_;go_wp2_with fail;rw[dA];go_wp2;go_end0;refine⟨rfl,?_⟩;rw[Ta.out];have:=HS.out;rwa [y_,sY]at this
 ·have d3:decide ((20:Int)<(n:Int))=false:=cW (by omega);refine gQ 1 ?_;rw[dA];go_wp2;go_end0;refine⟨rfl,?_⟩;rw[Er.out (by omega)];exact HS.out
def aE6 {n:Nat}(aj4:20≤n)(aP0:n<40):I8 n:=by
 intro w0 w R g cap P hn hv hS;have HI:=aa (λw' hS=>aE5 (w0:=w0) (w:=w') (R:=R) (g:=g) (cap:=cap) hn aj4 aP0 hv hS);have HS:=aa hS;clear hS hv hn;unfold RT ag1 at HI;generalize flat ku (GO P)=XT at*;generalize flat ku P=XS at*;delta bR;go_in;go_wp2_with fail;refine(HI.out _ HS.out).kh λw1 HS=>?_;go_wp2;go_end0;exact⟨rfl,HS.out⟩
def aJ5 {n:Nat}(h:n<40):I8 n:=by
 by_cases h2:n<20
 ·exact vR h2
 ·exact aE6 (by omega) h
