/- A part of the proof. -/
import Derived.Test.YtolkmchicplaoaaGreatRows
import Derived.Outline
import Derived.Test.YtolkmchicplaoaaGreatG02
set_option linter.all false
set_option maxHeartbeats 8000000
set_option maxRecDepth 100000
open Go.Proofs.Tryz
namespace Go.aS.W
open Go.aS
structure S where
 room:Nat
 list:List (Int×Int)
 done:List (Int×Int×Bool)
def idx (l:List (Int×Int))(a:Int):Option Nat:=l.findIdx? (λe=>e.1==a)
def kQ {l a i}(h:idx l a=some i):∃hi:i<l.length,l[i].1=a:=by
 obtain⟨hi,h1,_⟩:=CS.1 h;exact⟨hi,by simpa using h1⟩
def vm {l a}(h:idx l a=none):∀i (hi:i<l.length),l[i].1≠a:=by
 intro i hi e;have:=List.findIdx?_eq_none_iff.1 h l[i] (cJ hi);simp[e]at this
def put (s:S)(a v:Int):S×Int:=
 match idx s.list a with
 |some i=>({s with list:=s.list.set i (a,v),done:=s.done++[((i:Int),(s.list.getD i (0,0)).2,false)]},0)
 |none=>if s.room≤s.list.length then(s,6)else({s with list:=s.list++[(a,v)],done:=s.done++[((s.list.length:Int),0,true)]},0)
def get (s:S)(a:Int):Int×Bool:=
 match idx s.list a with
 |some i=>((s.list.getD i (0,0)).2,true)
 |none=>(0,false)
def ph (l:List (Int×Int))(c:Int×Int×Bool):List (Int×Int):=
 if c.2.2 then l.take c.1.toNat else l.set c.1.toNat ((l.getD c.1.toNat (0,0)).1,c.2.1)
def ja (m:Nat):Nat→S→S
 |0,s=>s
 |f+1,s=>if s.done.length≤m then s else ja m f {s with list:=ph s.list (s.done.getLastD (0,0,false)),done:=s.done.dropLast}
def back (s:S)(m:Int):S×Bool:=
 if m<0∨(s.done.length:Int)<m then(s,false)else(ja m.toNat s.done.length s,true)
def hash (m:Nat)(a:Int):Nat:=
 (bits BinOp.and IntKind.i64 (RowKit.wrap64 (IntKind.u64.wrap (IntKind.u64.wrap a*11400714819323198485)/1099511627776)) ((m:Int)-1)).toNat
def Li (m:Nat)(a:Int)(h0:0<m)(h1:m≤1000000):
 bits BinOp.and IntKind.i64 (RowKit.wrap64 (IntKind.u64.wrap (IntKind.u64.wrap a*11400714819323198485)/1099511627776)) ((m:Int)-1)=((hash m a:Nat):Int)∧hash m a<m:=by
 have:=GS (RowKit.wrap64 (IntKind.u64.wrap (IntKind.u64.wrap a*11400714819323198485)/1099511627776)) ((m:Int)-1) (by omega) (by omega);unfold hash;generalize bits BinOp.and IntKind.i64 (RowKit.wrap64 (IntKind.u64.wrap (IntKind.u64.wrap a*11400714819323198485)/1099511627776)) ((m:Int)-1)=z at*;omega
structure kR (m:Nat)(fo:List Int)(l:List (Int×Int))(pos:Nat→Nat):Prop where
 len:fo.length=m
 pow:∃p,m=2^p
 Lj:0<m
 bound:m≤1000000
 tY:l.length<m
 distinct:∀i j (hi:i<l.length) (hj:j<l.length),l[i].1=l[j].1→i=j
 lt:∀i,i<l.length→pos i<m
 at_:∀i,i<l.length→fo[pos i]?=some ((i:Int)+1)
 only:∀k,k<m→fo[k]?=some 0∨∃i,i<l.length∧pos i=k
 path:∀i (hi:i<l.length),∃d,d<m∧pos i=(hash m l[i].1+d)%m∧∀d',d'<d→∃j,j<i∧pos j=(hash m l[i].1+d')%m
def kR.inj {m fo l}{pos:Nat→Nat}(h:kR m fo l pos){i j}(hi:i<l.length)(hj:j<l.length)(e:pos i=pos j):i=j:=by
 have h1:=h.at_ i hi;have h2:=h.at_ j hj;rw[e,h2]at h1;simp at h1;omega
def kR.free {m fo l}{pos:Nat→Nat}(h:kR m fo l pos)(h0):∃d,d<m∧fo[(h0+d)%m]?=some 0:=by
 apply Classical.byContradiction;intro hn;have yk:∀k,k<m→∃i,i<l.length∧pos i=k:=by
  intro k hk;rcases h.only k hk with h1|h1
  ·exfalso;refine hn ⟨(k+(m-h0%m))%m,py _ h.Lj,?_⟩;have:(h0+(k+(m-h0%m))%m)%m=k:=by
    have tH:=py h0 h.Lj;rw[Nat.add_mod,Nat.mod_mod,←Nat.add_mod];have e:h0+(k+(m-h0%m))=k+m*(h0/m+1):=by
     have:=Nat.div_add_mod h0 m;rw[Nat.mul_add,lj];omega
    rw[e,Nat.add_mul_mod_self_left,Nat.mod_eq_of_lt hk]
   rw[this];exact h1
  ·exact h1
 have ad2:List.range m⊆(List.range l.length).map pos:=by
  intro k hk;obtain⟨i,hi,e⟩:=yk k (by simpa using hk);exact mE.2 ⟨i,by simpa using hi,e⟩
 have:=List.Nodup.length_le_of_subset List.nodup_range ad2;simp at this;have:=h.tY;omega
def Slot (m:Nat)(fo:List Int)(l:List (Int×Int))(pos:Nat→Nat)(a:Int)(k:Nat):Prop:=
 k<m∧((∃i,idx l a=some i∧pos i=k∧i<l.length∧fo[k]?=some ((i:Int)+1))∨
  (idx l a=none∧fo[k]?=some 0∧∃d,d<m∧k=(hash m a+d)%m∧∀d',d'<d→∃j,j<l.length∧pos j=(hash m a+d')%m))
def OW {l}(hd:∀i j (hi:i<l.length) (hj:j<l.length),l[i].1=l[j].1→i=j){i}(hi:i<l.length){a}(e:l[i].1=a):idx l a=some i:=by
 cases hx:idx l a with
 |none=>exact absurd e (vm hx i hi)
 |some j=>
  obtain⟨hj,ej⟩:=kQ hx;rw[hd i j hi hj (by rw[e,ej])]
def kR.Ll {m fo l}{pos:Nat→Nat}(h:kR m fo l pos){a d}(hd:d<m)
 (hw:∀d',d'<d→∃j,∃hj:j<l.length,pos j=(hash m a+d')%m∧l[j].1≠a)(h0:fo[(hash m a+d)%m]?=some 0):Slot m fo l pos a ((hash m a+d)%m):=by
 refine⟨py _ h.Lj,.inr ⟨?_,h0,d,hd,rfl,λd' T5=>by obtain⟨j,hj,e,_⟩:=hw d' T5;exact⟨j,hj,e⟩⟩⟩;cases hx:idx l a with
 |none=>rfl
 |some i=>
  exfalso;obtain⟨hi,ei⟩:=kQ hx;obtain⟨di,hdi,ep,WR⟩:=h.path i hi;rw[ei]at ep WR;have pg:di≠d:=λe=>by
   have:=h.at_ i hi;rw[ep,e,h0]at this;simp at this;omega
  rcases qS di d with tH|hge
  ·obtain⟨j,hj,ej,hnj⟩:=hw di tH;have:i=j:=h.inj hi hj (by rw[ep,ej]);subst this;exact hnj ei
  ·obtain⟨j,hj,ej⟩:=WR d (by omega);have:=h.at_ j (by omega);rw[ej,h0]at this;simp at this;omega
def kR.OX {m fo l}{pos:Nat→Nat}(h:kR m fo l pos){a i}(hi:i<l.length)(e:l[i].1=a):Slot m fo l pos a (pos i):=
 ⟨h.lt i hi,.inl ⟨i,OW h.distinct hi e,rfl,hi,h.at_ i hi⟩⟩
def kR.set {m fo l}{pos:Nat→Nat}(h:kR m fo l pos)(i v):kR m fo (l.set i ((l.getD i (0,0)).1,v)) pos:=by
 have hf:∀j (hj:j<(l.set i ((l.getD i (0,0)).1,v)).length),(l.set i ((l.getD i (0,0)).1,v))[j].1=(l[j]'(by simpa using hj)).1:=by
  intro j hj;rw[so];split
  ·rename_i e;subst e;have WI:i<l.length:=by simpa using hj
   simp[List.getD,WI]
  ·rfl
 refine{h with tY:=by simpa using h.tY,distinct:=?_,lt:=by simpa using h.lt,at_:=by simpa using h.at_,only:=by simpa using h.only,path:=?_}
 ·intro j k hj hk e;rw[hf j hj,hf k hk]at e;exact h.distinct j k (by simpa using hj) (by simpa using hk) e
 ·intro j hj;rw[hf j hj];exact h.path j (by simpa using hj)
def kR.push {m fo l}{pos:Nat→Nat}(h:kR m fo l pos){a v k}
 (hk:k<m)(hx:idx l a=none)(h0:fo[k]?=some 0)(hw:∃d,d<m∧k=(hash m a+d)%m∧∀d',d'<d→∃j,j<l.length∧pos j=(hash m a+d')%m)
 (EF:l.length+1<m):kR m (fo.set k ((l.length:Int)+1)) (l++[(a,v)]) (λi=>if i=l.length then k else pos i):=by
 have pg:∀i,i<l.length→pos i≠k:=λi hi e=>by
  have:=h.at_ i hi;rw[e,h0]at this;simp at this;omega
 have hL:(l++[(a,v)]).length=l.length+1:=by simp
 have hg:∀i (hi:i<l.length),(l++[(a,v)])[i]'(by simp;omega)=l[i]:=λi hi=>List.getElem_append_left hi;have nF:(l++[(a,v)])[l.length]'(by simp)=(a,v):=by simp
 refine⟨by simpa using h.len,h.pow,h.Lj,h.bound,by omega,?_,?_,?_,?_,?_⟩
 ·intro i j hi hj e;rw[hL]at hi hj;rcases qS i l.length with h1|h1<;>rcases qS j l.length with h2|h2
  ·rw[hg i h1,hg j h2]at e;exact h.distinct i j h1 h2 e
  ·obtain rfl:j=l.length:=by omega
   rw[hg i h1,nF]at e;exact absurd e (vm hx i h1)
  ·obtain rfl:i=l.length:=by omega
   rw[hg j h2,nF]at e;exact absurd e.symm (vm hx j h2)
  ·omega
 ·intro i hi;rw[hL]at hi;try dsimp only
  split
  ·exact hk
  ·exact h.lt i (by omega)
 ·intro i hi;rw[hL]at hi;try dsimp only
  split
  ·rename_i e;subst e;rw[eW (by rw[h.len];exact hk)]
  ·rw[dF (λe=>pg i (by omega) e.symm)];exact h.at_ i (by omega)
 ·intro k' hk';by_cases e:k'=k
  ·subst e;exact .inr ⟨l.length,by omega,by simp⟩
  ·rw[dF (λx=>e x.symm)];rcases h.only k' hk' with h1|⟨i,hi,ei⟩
   ·exact .inl h1
   ·exact .inr ⟨i,by omega,by(try dsimp only);rw[aq (by omega)];exact ei⟩
 ·intro i hi;rw[hL]at hi;rcases qS i l.length with h1|h1
  ·rw[hg i h1];obtain⟨d,hd,e1,e2⟩:=h.path i h1;refine⟨d,hd,by(try dsimp only);rw[aq (by omega)];exact e1,λd' T5=>?_⟩;obtain⟨j,hj,ej⟩:=e2 d' T5;exact⟨j,hj,by(try dsimp only);rw[aq (by omega)];exact ej⟩
  ·obtain rfl:i=l.length:=by omega
   rw[nF];obtain⟨d,hd,e1,e2⟩:=hw;refine⟨d,hd,by(try dsimp only);rw[aB rfl];exact e1,λd' T5=>?_⟩;obtain⟨j,hj,ej⟩:=e2 d' T5;exact⟨j,hj,by(try dsimp only);rw[aq (by omega)];exact ej⟩
def kR.new (p)(hp:2^p≤1000000):kR (2^p) (List.replicate (2^p) 0) [] (λ_=>0):=by
 have h0:0<(2:Nat)^p:=Nat.two_pow_pos p;exact⟨by simp,⟨p,rfl⟩,h0,hp,by simpa using h0,λi j hi=>by simp at hi,λi hi=>by simp at hi,λi hi=>by simp at hi,
  λk hk=> .inl (by simp[hk]),λi hi=>by simp at hi⟩
def OY (l:List (Int×Int))(c:Int×Int×Bool):Prop:=∃k:Nat,c.1=k∧if c.2.2 then k+1=l.length else k<l.length
def OZ:List (Int×Int×Bool)→List (Int×Int)→Prop
 |[],l=>l=[]
 |c::r,l=>OY l c∧OZ r (ph l c)
def Good (s:S):Prop:=OZ s.done.reverse s.list
def EK {l:List (Int×Int)}{i:Nat}{a v:Int}(hi:i<l.length)(ha:l[i].1=a):ph (l.set i (a,v)) ((i:Int),l[i].2,false)=l:=by
 simp only[ph,wD,if_false,dU,qU];rw[show((l.set i (a,v)).getD i (0,0)).1=a from by simp[List.getD,hi]];rw[←ha];exact List.set_getElem_self hi
def EL (l a v):ph (l++[(a,v)]) ((l.length:Int),0,true)=l:=by
 simp[ph]
def EM {s}(h:Good s)(a v):Good (put s a v).1:=by
 unfold put;split
 ·rename_i i hx;obtain⟨hi,ha⟩:=kQ hx;have e:s.list.getD i (0,0)=s.list[i]:=by simp[List.getD,hi]
  simp only[Good,List.reverse_append,List.reverse_cons,List.reverse_nil,y_,List.singleton_append,OZ,e];exact⟨⟨i,rfl,by simpa using hi⟩,by rw[EK hi ha];exact h⟩
 ·split
  ·exact h
  ·simp only[Good,List.reverse_append,List.reverse_cons,List.reverse_nil,y_,List.singleton_append,OZ];exact⟨⟨s.list.length,rfl,by simp⟩,by rw[EL];exact h⟩
def zu (r):Good ⟨r,[],[]⟩:=rfl
def kg {s dr}{c:Int×Int×Bool}(h:Good s)(hd:s.done=dr++[c]):OY s.list c∧Good {s with list:=ph s.list c,done:=dr}:=by
 unfold Good at h⊢;rw[hd,List.reverse_append]at h;exact h
end Go.aS.W
section
namespace Go.aS.W
open Go.aS Go.RowKit
def lX (l:List (Int×Int)):List Value:=l.flatMap λe=> [I e.1,U e.2]
def Ek (l:List (Int×Int×Bool)):List Value:=l.flatMap λc=> [I c.1,U c.2.1,.bool c.2.2]
def EN (l):(lX l).length=l.length*2:=by
 induction l with
 |nil=>rfl
 |cons a l ih=>simp only[lX,mB,eE]at*;simp[ih];omega
def zC (l):∀i (hi:i<l.length),(lX l)[i*2]?=some (I l[i].1)∧(lX l)[i*2+1]?=some (U l[i].2):=by
 induction l with
 |nil=>intro i hi;simp at hi
 |cons a l ih=>
  intro i hi;cases i with
  |zero=>simp[lX]
  |succ i=>
   have:=ih i (by simpa using hi);simp only[lX,mB]at*;rw[show(i+1)*2=i*2+1+1 from by omega];simpa using this
def EO (l):∀i v,(lX l).set (i*2+1) (U v)=lX (l.set i ((l.getD i (0,0)).1,v)):=by
 induction l with
 |nil=>intro i v;simp[lX]
 |cons a l ih=>
  intro i v;cases i with
  |zero=>simp[lX]
  |succ i=>
   have:=ih i v;simp only[lX,mB,aN]at*;rw[show(i+1)*2+1=(i*2+1)+1+1 from by omega];simpa using this
structure eM (w:World)(base b:Nat)(vl vt vd:Value)(m:Nat)(fo:List Int)(pos:Nat→Nat)(s:S):Prop where
 hb:base≤b
 ar:cB w b 264 [I s.room,vl,vt,vd]
 iL:w.ownsRow base 234 2 vl s.list.length (lX s.list)
 q_:w.ownsRow base 3 1 vt m (fo.map (Value.int .i64))
 iM:w.ownsRow base 287 3 vd s.done.length (Ek s.done)
 ok:kR m fo s.list pos
 room:s.room≤65536
 tY:s.list.length≤s.room
 Ui:2*s.room≤m
 two:2≤m
 bl:vl.ownBlock≠some b
 bt:vt.ownBlock≠some b
 bd:vd.ownBlock≠some b
 lt:vl.ownBlock=none∨vl.ownBlock≠vt.ownBlock
 ld:vl.ownBlock=none∨vl.ownBlock≠vd.ownBlock
 dt:vd.ownBlock=none∨vd.ownBlock≠vt.ownBlock
def eM.pC {w base b vl vt vd m fo}{pos:Nat→Nat}{s}(h:eM w base b vl vt vd m fo pos s):
 ∃bt c,vt= .slice (some ⟨bt,0,none⟩) m c∧bt<w.heap.size∧base≤bt∧m≤c∧c≤maxLen:=by
 rcases bg h.q_ with⟨_,h0⟩|⟨g,cap,h1,h2,h3,h4⟩
 ·have:=h.two;omega
 ·exact⟨g,cap,h1,h2,h3,h4⟩
def eM.C8 {w base b vl vt vd m fo}{pos:Nat→Nat}{s}(h:eM w base b vl vt vd m fo pos s)(hp:0<s.list.length):
 ∃bl c,vl= .slice (some ⟨bl,0,none⟩) s.list.length c∧bl<w.heap.size∧base≤bl∧s.list.length≤c∧c≤maxLen:=by
 rcases bg h.iL with⟨_,h0⟩|⟨g,cap,h1,h2,h3,h4⟩
 ·omega
 ·exact⟨g,cap,h1,h2,h3,h4⟩
def eM.drewN {w base b vl vt vd m fo}{pos:Nat→Nat}{s}(h:eM w base b vl vt vd m fo pos s)(n):
 eM (w.drewN n) base b vl vt vd m fo pos s:=
 {h with ar:=h.ar.drewN n,iL:=cX h.iL ((Fr.refl [] w).drewN n) (λ_ _=>by simp),q_:=cX h.q_ ((Fr.refl [] w).drewN n) (λ_ _=>by simp),iM:=cX h.iM ((Fr.refl [] w).drewN n) (λ_ _=>by simp)}
def eM.nr {w base b vl vd m bt c fo}{pos:Nat→Nat}{s}(h:eM w base b vl (.slice (some ⟨bt,0,none⟩) m c) vd m fo pos s)
 {k x}(hk:fo[k]?=some x):w.cell? ⟨bt,k,none⟩=some (I x):=
 aH h.q_ k _ (by simp[hk])
def eM.qo {w base b vt vd m bl c fo}{pos:Nat→Nat}{s}(h:eM w base b (.slice (some ⟨bl,0,none⟩) s.list.length c) vt vd m fo pos s)
 {i}(hi:i<s.list.length):w.cell? ⟨bl,i*2,none⟩=some (I s.list[i].1)∧w.cell? ⟨bl,i*2+1,none⟩=some (U s.list[i].2):=
 ⟨aH h.iL _ _ (zC _ i hi).1,aH h.iL _ _ (zC _ i hi).2⟩
end Go.aS.W
end
section
namespace Go.Proofs.YtolkmchicplaoaaGreat
open Go.RowKit Go.aS Go.aS.W
def O1 (w:World)(m:Nat)(fo:List Int)(l:List (Int×Int))(pos:Nat→Nat)(a:Int)(e:Ending)(w':World):Prop:=
 ∃k n:Nat,e= .returned (I k)∧Slot m fo l pos a k∧w'=w.drewN n
def T6 (w:World)(m:Nat)(l:List (Int×Int))(pos:Nat→Nat)(a:Int)(D g:Nat)(v:Value)(wr:World):Prop:=
 ∃d q:Nat,g+d=D∧v=I (((hash m a+d)%m:Nat):Int)∧(∀d',d'<d→∃j,∃hj:j<l.length,pos j=(hash m a+d')%m∧l[j].1≠a)∧wr=w.drewN q
def qp (base b a w vl vt vd m fo)(pos:Nat→Nat)(s)(h:eM w base b vl vt vd m fo pos s):
 Calls Tryz.prog 159 #[O b,I a] w (O1 w m fo s.list pos a):=by
 obtain⟨bt,c,rfl,WS,yU,nM,Jv⟩:=h.pC;have NL:=h.ok.Lj;have Kz:=h.ok.bound;have h1:=h.ar.cell 1;have h2:=h.ar.cell 2;simp only[zg]at h1 h2;unfold maxLen at Jv;obtain⟨hh1,hh2⟩:=Li m a NL Kz;obtain⟨D,hD,hDf⟩:=h.ok.free (hash m a);have H:=aa h;clear h;have HF:=aa hDf;clear hDf;have HH:=aa hh1;clear hh1;have HL:=aa hh2;clear hh2;go_wp2;go_loopg [6] D (λg v wr=>T6 w m s.list pos a D g v wr)
 case atStart=>exact⟨0,0,rfl,by rw[HH.out,qT,Nat.mod_eq_of_lt HL.out],λ_ h=>by omega,rfl⟩
 case round=>
  obtain⟨d,q,hg,rfl,hw,rfl⟩:=hrel;have HW:=aa hw;clear hw;have HG:=aa hg;clear hg;have Hg:(hash m a+d)%m<m:=py _ NL;have HS:Hid (((hash m a+d)%m+1)%m=(hash m a+(d+1))%m):=by rw[Nat.mod_add_mod];rfl
  have HdD:d≤D:=by have:=HG.out;omega
  have hon:=H.ok.only ((hash m a+d)%m) Hg;have HZ:Hid (fo[(hash m a+d)%m]?=some 0→Slot m fo s.list pos a ((hash m a+d)%m)):=λh0=>H.ok.Ll (by omega) HW.out h0;have HN:Hid (d=D→fo[(hash m a+d)%m]?=some 0):=λe=>by rw[e];exact HF.out
  generalize hk:(hash m a+d)%m=k at*;have HKE:=aa hk;clear hk;rcases hon with h0|⟨i,hi,hp⟩
  ·have Bo:=H.out.nr h0;have HZ':=aa (HZ.out h0);clear h0;go_wp2
   go_quiet (fail)
   go_wp2;go_ret;exact⟨k,_,rfl,HZ'.out,World.drewN_drewN _ _ _⟩
  ·obtain⟨bl,c',rfl,Ej,_,Mg,_⟩:=H.out.C8 (by omega);have Hy:=H.ok.at_ i hi;rw[hp]at Hy;have Bo:=H.out.nr Hy;have ad5:=(H.out.qo hi).1;have Yo:(((i:Int)+1) !=0)=true:=by simp;omega
   have SX:((i:Int)+1)-1=i:=by omega
   have Hh:s.list.length≤1000000:=by have:=H.ok.tY;omega
   have HP:=aa hp;clear hp;have HT:=aa Hy;clear Hy;by_cases he:s.list[i].1=a
   ·have Yp:(s.list[i].1 !=a)=false:=by simp[he]
    have de:Hid (Slot m fo s.list pos a k):=by have:=H.ok.OX hi he;rw[HP.out]at this;exact this
    have HE:=aa he;clear he;go_wp2
    go_quiet (fail)
    go_wp2;go_ret;exact⟨k,_,rfl,de.out,World.drewN_drewN _ _ _⟩
   ·have Yp:(s.list[i].1 !=a)=true:=by simp[he]
    have HE:=aa he;clear he;have HB:Hid (bits BinOp.and IntKind.i64 (((k:Nat):Int)+1) ((m:Int)-1)=(((k+1)%m:Nat):Int)):=by
     obtain⟨p,hp⟩:=H.ok.pow;have:=uS (k+1) m p hp (by omega) (by omega);have e:(((k+1:Nat)):Int)=(k:Int)+1:=by omega
     rw[e]at this;exact this
    go_wp2
    go_quiet (fail)
    go_wp2;go_roundg (gk-1)
    case measure=>
     have:d≠D:=λe=>by
      have h1:=HN.out e;rw[HT.out]at h1;simp at h1;omega
     have:=HG.out;omega
    case rel=>
     have pg:d≠D:=λe=>by
      have h1:=HN.out e;rw[HT.out]at h1;simp at h1;omega
     have jj:=HG.out;refine⟨d+1,_,by omega,by rw[HB.out,HS.out],?_,rfl⟩;intro d' T5;by_cases e:d'=d
     ·subst e;exact⟨i,hi,by rw[HP.out,HKE.out],HE.out⟩
     ·exact HW.out d' (by omega)
end Go.Proofs.YtolkmchicplaoaaGreat
end
section
namespace Go.aS.W
open Go.aS Go.RowKit
def ue (b:Nat)(vl vt vd:Value):List Nat:=b::(vl.ownBlock.toList++vt.ownBlock.toList++vd.ownBlock.toList)
def ed {b vl vt vd k}:k∈ue b vl vt vd↔k=b∨vl.ownBlock=some k∨vt.ownBlock=some k∨vd.ownBlock=some k:=by
 simp[ue]
def mz (w:World)(base b:Nat)(fp:List Nat)(s:S):Prop:=
 ∃vl vt vd m fo pos,eM w base b vl vt vd m fo pos s∧fp=ue b vl vt vd
def eM.ad6 {w base b vl vt vd m fo}{pos:Nat→Nat}{s}(h:eM w base b vl vt vd m fo pos s):
 ∀k∈ue b vl vt vd,base≤k∧k<w.heap.size:=by
 intro k hk;rcases ed.1 hk with rfl|h1|h1|h1
 ·exact⟨h.hb,h.ar.lt⟩
 ·exact h.iL.lt k h1
 ·exact h.q_.lt k h1
 ·exact h.iM.lt k h1
def mz.lt {w base b fp s}(h:mz w base b fp s):∀k∈fp,base≤k∧k<w.heap.size:=by
 obtain⟨vl,vt,vd,m,fo,pos,hs,rfl⟩:=h;exact hs.ad6
def eM.fr {fp w w' base b vl vt vd m fo}{pos:Nat→Nat}{s}(h:eM w base b vl vt vd m fo pos s)(f:Fr fp w w')
 (hn:∀k∈ue b vl vt vd,k∉fp):eM w' base b vl vt vd m fo pos s:=
 {h with
  ar:=h.ar.fr f (hn b (ed.2 (.inl rfl)))
  iL:=cX h.iL f (λk e=>hn k (ed.2 (.inr (.inl e))))
  q_:=cX h.q_ f (λk e=>hn k (ed.2 (.inr (.inr (.inl e)))))
  iM:=cX h.iM f (λk e=>hn k (ed.2 (.inr (.inr (.inr e)))))}
def mz.fr {fp se w w' base b s}(h:mz w base b fp s)(f:Fr se w w')(hn:∀k∈fp,k∉se):mz w' base b fp s:=by
 obtain⟨vl,vt,vd,m,fo,pos,hs,rfl⟩:=h;exact⟨vl,vt,vd,m,fo,pos,hs.fr f hn,rfl⟩
def C9 (w w':World)(base b:Nat)(fp:List Nat)(s':S):Prop:=
 ∃se,mz w' base b se s'∧Fr fp w w'∧∀k∈se,k∈fp∨w.heap.size≤k
def A8 {w W0 w1 base b bl cl vt vd m fo}{pos:Nat→Nat}{s a v T7 i g c'}
 (h:eM w base b (.slice (some ⟨bl,0,none⟩) s.list.length cl) vt vd m fo pos s)(hx:idx s.list a=some i)(hi:i<s.list.length)(ho:s.list[i].2=T7)
 (hf:Fr [] w W0)(hg:W0.grownBy w1 vd.ownBlock)
 (hd:w1.ownsRow base 287 3 (.slice (some ⟨g,0,none⟩) (s.done.length+1) c') (s.done.length+1) (Ek s.done++[I (i:Int),U T7,.bool false]))
 (jj:vd.ownBlock=some g∨w.heap.size≤g):
 C9 w ((w1.setCell ⟨b,3,none⟩ (.slice (some ⟨g,0,none⟩) (s.done.length+1) c')).setCell ⟨bl,i*2+1,none⟩ (U v)) base b (ue b (.slice (some ⟨bl,0,none⟩) s.list.length cl) vt vd) (put s a v).1:=by
 have Ej:bl<w.heap.size:=(h.iL.lt bl rfl).2;have ad7:=h.ar.lt;have oR:vd.ownBlock≠some b:=h.bd;have zD:bl≠b:=λe=>h.bl (by simp[Value.ownBlock,e]);have u9:g≠b:=by rcases jj with e|e;(intro e2;subst e2;exact oR e);omega
 have ad8:g≠bl:=by
  rcases jj with e|e
  ·intro e2;subst e2;rcases h.ld with e3|e3
   ·simp[Value.ownBlock]at e3
   ·exact e3 (by rw[e];rfl)
  ·omega
 have Yq:put s a v=({s with list:=s.list.set i (a,v),done:=s.done++[((i:Int),T7,false)]},0):=by
  simp[put,hx,←ho,List.getD,cy hi]
 rw[Yq];have Yr:s.list[i].1=a:=(kQ hx).2;have nk:s.list.set i (a,v)=s.list.set i ((s.list.getD i (0,0)).1,v):=by
  simp[List.getD,cy hi,Yr]
 have Uj:vd.ownBlock≠some bl:=λe=>by
  rcases h.ld with e3|e3
  ·simp[Value.ownBlock]at e3
  ·exact e3 (by rw[e];rfl)
 have htd:vt.ownBlock≠vd.ownBlock:=λe=>by
  rcases h.dt with e3|e3
  ·obtain⟨bt,c,rfl,_⟩:=h.pC;rw[e3]at e;simp[Value.ownBlock]at e
  ·exact e3 e.symm
 have lK:vt.ownBlock≠some bl:=λe=>by
  rcases h.lt with e3|e3
  ·simp[Value.ownBlock]at e3
  ·exact e3 (by rw[e];rfl)
 refine⟨_,⟨.slice (some ⟨bl,0,none⟩) s.list.length cl,vt,.slice (some ⟨g,0,none⟩) (s.done.length+1) c',m,fo,pos,?_,rfl⟩,?_,?_⟩
 ·refine⟨h.hb,?_,?_,?_,?_,?_,h.room,by simpa using h.tY,h.Ui,h.two,h.bl,h.bt,by simpa[Value.ownBlock]using u9,h.lt,.inr (by simpa[Value.ownBlock]using jk ad8),.inr ?_⟩
  ·exact(((h.ar.fr hf (by simp)).grown hg (λe=>oR e.symm)).set 3 _).oK _ (jk zD)
  ·have h1:=cX h.iL hf (λ_ _=>by simp);have h2:=h1.kept hg (.inr (by simpa[Value.ownBlock]using jk Uj));have h3:=bz h2 (a:=⟨b,3,none⟩) (by simpa[Value.ownBlock]using zD) (.slice (some ⟨g,0,none⟩) (s.done.length+1) c');have h4:=ix h3 (i*2+1) (U v);rw[EO,←nk]at h4;simpa using h4
  ·have h1:=cX h.q_ hf (λ_ _=>by simp);have h2:=h1.kept hg (.inr htd);exact bz (bz h2 (a:=⟨b,3,none⟩) h.bt _) (a:=⟨bl,i*2+1,none⟩) lK _
  ·have h1:=bz (bz hd (a:=⟨b,3,none⟩) (by simpa[Value.ownBlock]using u9) (.slice (some ⟨g,0,none⟩) (s.done.length+1) c')) (a:=⟨bl,i*2+1,none⟩) (by simpa[Value.ownBlock]using ad8) (U v);simpa[Ek]using h1
  ·rw[nk];exact h.ok.set i v
  ·intro e;rcases jj with e1|e1
   ·exact htd (by rw[←e,e1];rfl)
   ·have:=(h.q_.lt g (by rw[←e];rfl)).2;omega
 ·refine((((hf.mono (λ_ h=>by simp at h)).grown hg (λk e=> .inl (ed.2 (.inr (.inr (.inr e)))))).setCell (p:=⟨b,3,none⟩) (.inl (ed.2 (.inl rfl))) _).setCell (p:=⟨bl,i*2+1,none⟩) (.inl (ed.2 (.inr (.inl rfl)))) _)
 ·intro k hk;rcases ed.1 hk with e|e|e|e
  ·exact .inl (ed.2 (.inl e))
  ·exact .inl (ed.2 (.inr (.inl e)))
  ·exact .inl (ed.2 (.inr (.inr (.inl e))))
  ·simp[Value.ownBlock]at e;subst e;rcases jj with e1|e1
   ·exact .inl (ed.2 (.inr (.inr (.inr e1))))
   ·exact .inr e1
def A9 {w W0 w1 W2 w3 base b bt ct vl vd m fo}{pos:Nat→Nat}{s a v k g c' g2 c2}
 (h:eM w base b vl (.slice (some ⟨bt,0,none⟩) m ct) vd m fo pos s)(hx:idx s.list a=none)(xD:s.list.length<s.room)
 (hk:k<m)(h0:fo[k]?=some 0)(hw:∃d,d<m∧k=(hash m a+d)%m∧∀d',d'<d→∃j,j<s.list.length∧pos j=(hash m a+d')%m)
 (hf:Fr [] w W0)(hg:W0.grownBy w1 vd.ownBlock)
 (hd:w1.ownsRow base 287 3 (.slice (some ⟨g,0,none⟩) (s.done.length+1) c') (s.done.length+1) (Ek s.done++[I (s.list.length:Int),U 0,.bool true]))
 (jj:vd.ownBlock=some g∨w.heap.size≤g)
 (Ln:Fr [] (w1.setCell ⟨b,3,none⟩ (.slice (some ⟨g,0,none⟩) (s.done.length+1) c')) W2)(iZ:W2.grownBy w3 vl.ownBlock)
 (hl:w3.ownsRow base 234 2 (.slice (some ⟨g2,0,none⟩) (s.list.length+1) c2) (s.list.length+1) (lX s.list++[I a,U v]))
 (Hi:vl.ownBlock=some g2∨w1.heap.size≤g2){z}(hz:Fr [] ((w3.setCell ⟨b,1,none⟩ (.slice (some ⟨g2,0,none⟩) (s.list.length+1) c2))) z):
 C9 w (z.setCell ⟨bt,k,none⟩ (I ((s.list.length:Int)+1))) base b (ue b vl (.slice (some ⟨bt,0,none⟩) m ct) vd) (put s a v).1:=by
 have WS:bt<w.heap.size:=(h.q_.lt bt rfl).2;have ad7:=h.ar.lt;have oR:vd.ownBlock≠some b:=h.bd;have SV:vl.ownBlock≠some b:=h.bl;have EP:bt≠b:=λe=>h.bt (by simp[Value.ownBlock,e]);have JH:w.heap.size≤w1.heap.size:=fT hf.size hg.size;have u9:g≠b:=by rcases jj with e|e;(intro e2;subst e2;exact oR e);omega
 have ad9:g2≠b:=by rcases Hi with e|e;(intro e2;subst e2;exact SV e);omega
 have hdt:vd.ownBlock≠some bt:=λe=>by
  rcases h.dt with e3|e3
  ·rw[e]at e3;cases e3
  ·exact e3 (by rw[e];rfl)
 have ae0:vl.ownBlock≠some bt:=λe=>by
  rcases h.lt with e3|e3
  ·rw[e]at e3;cases e3
  ·exact e3 (by rw[e];rfl)
 have ae1:g≠bt:=by rcases jj with e|e;(intro e2;subst e2;exact hdt e);omega
 have WV:g2≠bt:=by rcases Hi with e|e;(intro e2;subst e2;exact ae0 e);omega
 have ay0:g<w1.heap.size:=(hd.lt g rfl).2;have nF:vl.ownBlock≠some g:=λe=>by
  have:=(h.iL.lt g e).2;rcases jj with e1|e1
  ·rcases h.ld with e3|e3
   ·rw[e]at e3;cases e3
   ·exact e3 (by rw[e,e1])
  ·omega
 have ae2:g2≠g:=by rcases Hi with e|e;(intro e2;subst e2;exact nF e);omega
 have Yq:put s a v=({s with list:=s.list++[(a,v)],done:=s.done++[((s.list.length:Int),0,true)]},0):=by
  simp[put,hx];omega
 rw[Yq];refine⟨_,⟨.slice (some ⟨g2,0,none⟩) (s.list.length+1) c2,.slice (some ⟨bt,0,none⟩) m ct,.slice (some ⟨g,0,none⟩) (s.done.length+1) c',m,fo.set k ((s.list.length:Int)+1),(λi=>if i=s.list.length then k else pos i),?_,rfl⟩,?_,?_⟩
 ·refine⟨h.hb,?_,?_,?_,?_,?_,h.room,by simp;omega,h.Ui,h.two,by simpa[Value.ownBlock]using ad9,by simpa[Value.ownBlock]using EP,by simpa[Value.ownBlock]using u9,
   .inr (by simpa[Value.ownBlock]using WV),.inr (by simpa[Value.ownBlock]using ae2),.inr (by simpa[Value.ownBlock]using ae1)⟩
  ·have h1:=(((h.ar.fr hf (by simp)).grown hg (λe=>oR e.symm)).set 3 (.slice (some ⟨g,0,none⟩) (s.done.length+1) c'));have h2:=((h1.fr Ln (by simp)).grown iZ (λe=>SV e.symm)).set 1 (.slice (some ⟨g2,0,none⟩) (s.list.length+1) c2);exact(h2.fr hz (by simp)).oK _ (jk EP)
  ·have h1:=bz hl (a:=⟨b,1,none⟩) (by simpa[Value.ownBlock]using ad9) (.slice (some ⟨g2,0,none⟩) (s.list.length+1) c2);have h2:=cX h1 hz (λ_ _=>by simp);have h3:=bz h2 (a:=⟨bt,k,none⟩) (by simpa[Value.ownBlock]using WV) (I ((s.list.length:Int)+1));simpa[lX]using h3
  ·have h1:=(cX h.q_ hf (λ_ _=>by simp)).kept hg (.inr (by simpa[Value.ownBlock]using jk hdt));have h2:=cX (bz h1 (a:=⟨b,3,none⟩) h.bt (.slice (some ⟨g,0,none⟩) (s.done.length+1) c')) Ln (λ_ _=>by simp);have h3:=h2.kept iZ (.inr (by simpa[Value.ownBlock]using jk ae0));have h4:=cX (bz h3 (a:=⟨b,1,none⟩) h.bt (.slice (some ⟨g2,0,none⟩) (s.list.length+1) c2)) hz (λ_ _=>by simp);have h5:=ix h4 k (I ((s.list.length:Int)+1));rw[kE];exact h5
  ·have h1:=bz hd (a:=⟨b,3,none⟩) (by simpa[Value.ownBlock]using u9) (.slice (some ⟨g,0,none⟩) (s.done.length+1) c');have h2:=(cX h1 Ln (λ_ _=>by simp)).kept iZ (.inr (by simpa[Value.ownBlock]using jk nF));have h4:=cX (bz h2 (a:=⟨b,1,none⟩) (by simpa[Value.ownBlock]using u9) (.slice (some ⟨g2,0,none⟩) (s.list.length+1) c2)) hz (λ_ _=>by simp);have h5:=bz h4 (a:=⟨bt,k,none⟩) (by simpa[Value.ownBlock]using ae1) (I ((s.list.length:Int)+1));simpa[Ek]using h5
  ·exact h.ok.push hk hx h0 hw (by have:=h.Ui;have:=h.two;omega)
 ·have El:=Ln.size;have e1:Fr (ue b vl (.slice (some ⟨bt,0,none⟩) m ct) vd) w (w1.setCell ⟨b,3,none⟩ (.slice (some ⟨g,0,none⟩) (s.done.length+1) c')):=
   ((hf.mono (λ_ h=>by simp at h)).grown hg (λk e=> .inl (ed.2 (.inr (.inr (.inr e)))))).setCell (p:=⟨b,3,none⟩) (.inl (ed.2 (.inl rfl))) _
  have e2:=((e1.trans (Ln.mono (λ_ h=>by simp at h))).grown iZ (λk e=> .inl (ed.2 (.inr (.inl e))))).setCell (p:=⟨b,1,none⟩) (.inl (ed.2 (.inl rfl))) (.slice (some ⟨g2,0,none⟩) (s.list.length+1) c2);exact(e2.trans (hz.mono (λ_ h=>by simp at h))).setCell (p:=⟨bt,k,none⟩) (.inl (ed.2 (.inr (.inr (.inl rfl))))) _
 ·intro x hx;rcases ed.1 hx with e|e|e|e
  ·exact .inl (ed.2 (.inl e))
  ·simp[Value.ownBlock]at e;subst e;rcases Hi with e1|e1
   ·exact .inl (ed.2 (.inr (.inl e1)))
   ·exact .inr (by omega)
  ·exact .inl (ed.2 (.inr (.inr (.inl e))))
  ·simp[Value.ownBlock]at e;subst e;rcases jj with e1|e1
   ·exact .inl (ed.2 (.inr (.inr (.inr e1))))
   ·exact .inr e1
end Go.aS.W
end
namespace Go.Proofs.YtolkmchicplaoaaGreat
open Go.RowKit Go.aS Go.aS.W
def vn:(Tryz.prog.info? 287).map (λi=>(i.zero,i.size,i.bytes))=some (some (.agg #[I 0,U 0,.bool false]),3,24):=by kernel_rfl
def xR:(Tryz.prog.info? 234).map (λi=>(i.zero,i.size,i.bytes))=some (some (.agg #[I 0,U 0]),2,16):=by kernel_rfl
def yV (w:World)(base b:Nat)(fp:List Nat)(s:S)(a v:Int)(e:Ending)(w':World):Prop:=
 e= .returned (I (put s a v).2)∧C9 w w' base b fp (put s a v).1
def T8 (base b a v w vl vt vd m fo)(pos:Nat→Nat)(s)(h:eM w base b vl vt vd m fo pos s)
 (i)(hx:idx s.list a=some i)(p5:s.done.length≤1000000)(iy:base≤w.heap.size):
 Calls Tryz.prog 190 #[O b,I a,U v] w (yV w base b (ue b vl vt vd) s a v):=by
 obtain⟨bt,c,rfl,WS,yU,nM,Jv⟩:=h.pC;obtain⟨hi,Yr⟩:=kQ hx;obtain⟨bl,cl,rfl,Ej,ao0,Mg,zE⟩:=h.C8 (by omega);have h1:=h.ar.cell 1;have h2:=h.ar.cell 2;have h3:=h.ar.cell 3;simp only[zg]at h1 h2 h3;have ad5:=(h.qo hi).2;unfold maxLen at Jv zE;have AS:s.list.length≤65536:=fT h.tY h.room;have BZ:=h.bd;have Uj:=h.ld;have zD:bl≠b:=λe=>h.bl (by simp[Value.ownBlock,e]);have ao1:vd.ownBlock≠some bl:=λe=>by
  rcases Uj with e3|e3
  ·simp[Value.ownBlock]at e3
  ·exact e3 (by rw[e];rfl)
 have WW:=h.iM;have fM:(⟨b,3,none⟩:Addr)≠⟨bl,i*2+1,none⟩:=λe=>zD (by injection e with e1;exact e1.symm);obtain⟨i0,Ys,jA,jB,iR⟩:=eA vn;generalize hold:s.list[i].2=T7 at*;have ae3:=aa hold;clear hold;have H:=aa h;clear h;have HX:=aa hx;clear hx;have HA:=aa Yr;clear Yr;go_in;go_wp2_with fail;refine(qp base b a w _ _ _ m fo pos s H.out).mono ?_;rintro e w' ⟨k,q,rfl,hS,rfl⟩;obtain⟨hk,⟨i',tf,hp,BM,uf⟩|⟨tf,_⟩⟩:=hS;rotate_left
 ·rw[HX.out]at tf;cases tf
 rw[HX.out]at tf;injection tf with SX;subst SX;have Bo:=H.out.nr uf;have Yo:(((i:Int)+1) !=0)=true:=by simp;omega
 clear hp BM;have GH:=aa uf;clear uf;have WX:(w.drewN (q+1)).ownsRow base 287 3 vd s.done.length (Ek s.done):=cX WW ((Fr.refl [] w).drewN _) (λ_ _=>by simp);have HR:=aa WX;clear WX WW;have JI:IntKind.i64.wrap (i:Int)=(i:Int):=bf _ (by omega) (by omega);go_wp2_with fail;refine bW [(1,[1,2,3,4,5,6,7,8,9,10,11]),(0,[0]),(2,[12]),(3,[13]),(0,[14,15]),(3,[16])] (by kernel_rfl) ?_;simp only[zz];repeat(first|go_big_quiet_step(fail)|apply ax|apply af|apply ag|apply ah)
 refine aA ?_;go_wp2;refine⟨⟨⟨_,(Fr.refl _ _).alloc _⟩,rfl⟩,?_⟩;refine ao ?_;refine sq _ rfl _ _ 262 rfl base 287 i0 _ 3 24 underlying262 Ys jA jB iR rfl (by decide) vd s.done.length _ rfl HR.out [I i,U T7,.bool false] _ _ rfl (by simp) rfl (by simp[Value.oneCell']) (by unfold maxLen;omega) (by omega) (by simpa using iy) ?_;intro g c' w1 hd hg jj kM mw;have B1:=((H.ar.drewN (q+1)).alloc (.cells #[I (i:Int),U T7,.bool false] 287)).grown hg (λe=>BZ e.symm);have e1:w1.cell? ⟨b,3,none⟩=some vd:=B1.cell 3;have e3:w1.frozen? ⟨b,3,none⟩=false:=B1.az 3;have L1:=((cX H.out.iL ((Fr.refl [] w).drewN (q+1)) (λ_ _=>by simp)).alloc (.cells #[I (i:Int),U T7,.bool false] 287)).kept hg (.inr (λe=>ao1 e.symm));have e2:w1.cell? ⟨bl,i*2+1,none⟩=some (U T7):=aH L1 _ _ (by rw[(zC _ i hi).2,ae3.out]);have e4:w1.frozen? ⟨bl,i*2+1,none⟩=false:=bw L1 _;have HD:=aa hd;have HG:=aa hg;have Uk:=aa jj;clear B1 L1 hd hg jj;go_wp2_with fail;simp only[Act.put,aZ,zs];repeat(first|go_big_quiet_step(fail)|apply ax|apply af|apply ag|apply ah)
 refine ao ?_;go_wp2;refine aj ?_;go_wp2;go_ret;refine⟨by simp[put,HX.out],?_⟩;exact A8 H.out HX.out hi ae3.out (((Fr.refl [] w).drewN (q+1)).alloc _) HG.out HD.out (by rcases Uk.out with e|e;exact .inl e;exact .inr (by rw[e];simp))
def zq10:(∀(base b a v w vl vt vd m fo)(pos:Nat→Nat)(s)(h:eM w base b vl vt vd m fo pos s)(hx:idx s.list a=none)(ER:s.room≤s.list.length),Calls Tryz.prog 190 #[O b,I a,U v] w (yV w base b (ue b vl vt vd) s a v))∧(∀(base b a v w vl vt vd m fo)(pos:Nat→Nat)(s)(h:eM w base b vl vt vd m fo pos s)(hx:idx s.list a=none)(ER:s.list.length<s.room)(p5:s.done.length≤1000000)(iy:base≤w.heap.size),Calls Tryz.prog 190 #[O b,I a,U v] w (yV w base b (ue b vl vt vd) s a v)):=by
 refine⟨?Z,?Y⟩
 case' Z=>intro base b a v w vl vt vd m fo pos s h hx ER
 case' Y=>intro base b a v w vl vt vd m fo pos s h hx ER p5 iy
 case' Z|Y=>
  obtain⟨bt,c,rfl,WS,yU,nM,Jv⟩:=h.pC;obtain⟨la,lc,rfl⟩:∃la lc,vl= .slice la s.list.length lc:=by
   rcases bg h.iL with⟨e,e2⟩|⟨g,cap,e,_⟩
   ·exact⟨none,0,by rw[e,e2]⟩
   ·exact⟨_,_,e⟩
  have h0:=h.ar.cell 0;have h1:=h.ar.cell 1;have h2:=h.ar.cell 2
 case' Z=>simp only[zg]at h0 h1 h2
 case' Y=>have h3:=h.ar.cell 3;simp only[zg]at h0 h1 h2 h3
 case' Z|Y=>unfold maxLen at Jv;have AS:s.list.length≤65536:=fT h.tY h.room
 case' Y=>
  have BZ:=h.bd;have Ej:=h.bl;have ad7:=h.ar.lt;obtain⟨i0,Ys,jA,jB,iR⟩:=eA vn;obtain⟨j0,Yt,nO,UJ,Yu⟩:=eA xR;have EP:bt≠b:=λe=>h.bt (by simp[Value.ownBlock,e]);have ao2:vd.ownBlock≠some bt:=λe=>by
   rcases h.dt with e3|e3
   ·rw[e]at e3;cases e3
   ·exact e3 (by rw[e];rfl)
  have ao3:(Value.slice la s.list.length lc).ownBlock≠some bt:=λe=>by
   rcases h.lt with e3|e3
   ·rw[e]at e3;cases e3
   ·exact e3 (by rw[e];rfl)
 case' Z|Y=>have H:=aa h;clear h;have HX:=aa hx;clear hx;go_in;go_wp2_with fail;refine(qp base b a w _ _ _ m fo pos s H.out).mono ?_;rintro e w' ⟨k,q,rfl,hS,rfl⟩
 case' Z=>
  obtain⟨hk,⟨i',tf,hp,BM,uf⟩|⟨tf,uf,_⟩⟩:=hS
  ·rw[HX.out]at tf;cases tf
  have Bo:=H.out.nr uf;clear tf;have GH:=aa uf;clear uf;go_wp2_with fail
  go_quiet (fail)
  go_wp2;go_ret;refine⟨by simp[put,HX.out,ER],?_⟩;have hp:(put s a v).1=s:=by simp[put,HX.out,ER]
  rw[hp,World.drewN_drewN];exact⟨_,⟨_,_,_,m,fo,pos,H.out.drewN _,rfl⟩,(Fr.refl _ _).drewN _,λk hk=> .inl hk⟩
 obtain⟨hk,⟨i',tf,hp,BM,uf⟩|⟨tf,uf,ae4⟩⟩:=hS
 ·rw[HX.out]at tf;cases tf
 have Bo:=H.out.nr uf;clear tf;have GH:=aa uf;clear uf;have HW:=aa ae4;clear ae4;have JI:IntKind.i64.wrap (s.list.length:Int)=(s.list.length:Int):=bf _ (by omega) (by omega);go_wp2_with fail
 go_quiet (fail)
 go_wp2_with fail;have HR:Hid (∀n,(w.drewN n).ownsRow base 287 3 vd s.done.length (Ek s.done)):=λn=>cX H.out.iM ((Fr.refl [] w).drewN n) (λ_ _=>by simp);have HB1:Hid (∀n,cB (w.drewN n) b 264 [I s.room,.slice la s.list.length lc,.slice (some ⟨bt,0,none⟩) m c,vd]):=λn=>H.ar;rw[World.drewN_drewN];refine bW [(1,[1,2,3,4,5,6,7,8,9,10]),(0,[0]),(2,[11]),(3,[12]),(0,[13,14]),(3,[15])] (by kernel_rfl) ?_;simp only[zz];repeat(first|go_big_quiet_step(fail)|apply ax|apply af|apply ag|apply ah)
 refine aA ?_;go_wp2;refine⟨⟨⟨_,(Fr.refl _ _).alloc _⟩,rfl⟩,?_⟩;refine ao ?_;refine sq _ rfl _ _ 262 rfl base 287 i0 _ 3 24 underlying262 Ys jA jB iR rfl (by decide) vd s.done.length _ rfl (HR.out _) [I s.list.length,U 0,.bool true] _ _ rfl (by simp) rfl (by simp[Value.oneCell']) (by unfold maxLen;omega) (by omega) (by simpa using iy) ?_;intro g c' w1 hd hg jj kM mw;have B1:=((HB1.out _).alloc (.cells #[I (s.list.length:Int),U 0,.bool true] 287)).grown hg (λe=>BZ e.symm);have e1:w1.cell? ⟨b,3,none⟩=some vd:=B1.cell 3;have e3:w1.frozen? ⟨b,3,none⟩=false:=B1.az 3;have B2:=B1.set 3 (.slice (some ⟨g,0,none⟩) (s.done.length+1) c');have e4:w1.cell? ⟨b,1,none⟩=some (.slice la s.list.length lc):=B1.cell 1;have e5:w1.frozen? ⟨b,1,none⟩=false:=B1.az 1;have e6:w1.cell? ⟨b,2,none⟩=some (.slice (some ⟨bt,0,none⟩) m c):=B1.cell 2;have JH:w.heap.size<w1.heap.size:=by have:=hg.size;simp at this;omega
 have u9:g≠b:=by rcases jj with e|e;(intro e2;subst e2;exact BZ e);(simp at e;omega)
 have HD:=aa hd;have HG:=aa hg;have Uk:=aa jj;have HB2:=aa B2;clear B1 B2 hd hg jj;go_wp2_with fail;simp only[Act.put,aZ,zs];repeat(first|go_big_quiet_step(fail)|apply ax|apply af|apply ag|apply ah)
 refine ao ?_;go_wp2;refine aj ?_;have WY:Hid ((w1.setCell ⟨b,3,none⟩ (.slice (some ⟨g,0,none⟩) (s.done.length+1) c')).ownsRow base 234 2 (.slice la s.list.length lc) s.list.length (lX s.list)):=by
  have r1:=(cX H.out.iL (((Fr.refl [] w).drewN (q+nq+1)).alloc (.cells #[I (s.list.length:Int),U 0,.bool true] 287)) (λ_ _=>by simp)).kept HG.out (by
   rcases H.out.ld with e|e
   ·exact .inl e
   ·exact .inr e)
  exact bz r1 Ej _
 go_wp2_with((at_builtin;go_must (refine sq _ rfl _ _ 203 rfl base 234 j0 _ 2 16 underlying203 Yt nO UJ Yu rfl (by decide) (.slice la s.list.length lc) s.list.length _ rfl WY.out [I a,U v] _ _ rfl (by simp) rfl (by simp[Value.oneCell']) (by unfold maxLen;omega) (by omega) (by simp[World.setCell];omega) ?_)));intro g2 c2 w3 hl iZ Hi ay1 ay2;have HL:=aa hl;have Ul:=aa iZ;have ao4:=aa Hi;have B3:=(HB2.alloc (.cells #[I a,U v] 234)).grown iZ (λe=>Ej e.symm);have f1:w3.cell? ⟨b,1,none⟩=some (.slice la s.list.length lc):=B3.cell 1;have f2:w3.frozen? ⟨b,1,none⟩=false:=B3.az 1;have f3:w3.cell? ⟨b,2,none⟩=some (.slice (some ⟨bt,0,none⟩) m c):=B3.cell 2;have T1:=(cX H.out.q_ (((Fr.refl [] w).drewN (q+nq+1)).alloc (.cells #[I (s.list.length:Int),U 0,.bool true] 287)) (λ_ _=>by simp)).kept HG.out (.inr (λe=>ao2 e.symm));have T2:=((bz T1 (a:=⟨b,3,none⟩) (λe=>EP (by simpa[Value.ownBlock]using e)) (.slice (some ⟨g,0,none⟩) (s.done.length+1) c')).alloc (.cells #[I a,U v] 234)).kept iZ (.inr (λe=>ao3 e.symm));have f4:w3.cell? ⟨bt,k,none⟩=some (I 0):=aH T2 k _ (by simp[GH.out]);have f5:w3.frozen? ⟨bt,k,none⟩=false:=bw T2 k;clear hl iZ Hi B3 T1 T2 e1 e3 e4 e5 e6;go_wp2_with fail;refine bW [(1,[0,1,2,3,4,5,6,7,8,9,10]),(3,[11])] (by kernel_rfl) ?_;simp only[zz];repeat(first|go_big_quiet_step(fail)|apply ax|apply af|apply ag|apply ah)
 refine ao ?_;go_wp2;refine aj ?_;go_wp2;go_ret;refine⟨by simp[put,HX.out,Nat.not_le.2 ER],?_⟩;exact A9 H.out HX.out ER hk GH.out HW.out (((Fr.refl [] w).drewN (q+nq+1)).alloc _) HG.out HD.out (by rcases Uk.out with e|e;exact .inl e;exact .inr (by rw[e];simp))
  ((Fr.refl [] _).alloc _) Ul.out HL.out (by rcases ao4.out with e|e;exact .inl e;exact .inr (by omega)) ((Fr.refl [] _).drew)
def O2:=@zq10.1
def T9:=@zq10.2
def T_ (base b a v w fp s)(h:mz w base b fp s)(p5:s.done.length≤1000000)(iy:base≤w.heap.size):
 Calls Tryz.prog 190 #[O b,I a,U v] w (yV w base b fp s a v):=by
 obtain⟨vl,vt,vd,m,fo,pos,hs,rfl⟩:=h;cases hx:idx s.list a with
 |some i=>exact T8 base b a v w vl vt vd m fo pos s hs i hx p5 iy
 |none=>
  by_cases hf:s.room≤s.list.length
  ·exact O2 base b a v w vl vt vd m fo pos s hs hx hf
  ·exact T9 base b a v w vl vt vd m fo pos s hs hx (by omega) p5 iy
end Go.Proofs.YtolkmchicplaoaaGreat
section
namespace Go.aS.W
open Go.aS Go.RowKit
end Go.aS.W
end
section
namespace Go.Proofs.YtolkmchicplaoaaGreat
open Go.RowKit Go.aS Go.aS.W
def cY {w:World}{base:Nat}{e:TypeId}{size:Nat}{v:Value}{n:Nat}{xs:List Value}
 (h:w.ownsRow base e size v n xs):∃la lc,v= .slice la n lc:=by
 rcases bg h with⟨e,e2⟩|⟨g,cap,e,_⟩
 ·exact⟨none,0,by rw[e,e2]⟩
 ·exact⟨_,_,e⟩
def O5 (base b w fp s)(h:mz w base b fp s):
 Calls Tryz.prog 154 #[O b] w λe w'=>e= .returned (I s.done.length)∧w=w':=by
 obtain⟨vl,vt,vd,m,fo,pos,h,rfl⟩:=h;obtain⟨la,lc,rfl⟩:=cY h.iM;have h1:=h.ar.cell 3;simp only[zg]at h1;clear h;go_wp2;go_ret;exact⟨rfl,rfl⟩
def zq11:(∀(base b a w vl vt vd m fo)(pos:Nat→Nat)(s)(h:eM w base b vl vt vd m fo pos s)(i)(hx:idx s.list a=some i),Calls Tryz.prog 139 #[O b,I a] w λe w'=>e= .returned (.tuple #[U (W.get s a).1,.bool (W.get s a).2])∧∃n,w'=w.drewN n)∧(∀(base b a w vl vt vd m fo)(pos:Nat→Nat)(s)(h:eM w base b vl vt vd m fo pos s)(hx:idx s.list a=none),Calls Tryz.prog 139 #[O b,I a] w λe w'=>e= .returned (.tuple #[U (W.get s a).1,.bool (W.get s a).2])∧∃n,w'=w.drewN n):=by
 refine⟨?Z,?Y⟩
 case' Z=>
  intro base b a w vl vt vd m fo pos s h i hx;obtain⟨bt,c,rfl,WS,yU,nM,Jv⟩:=h.pC;obtain⟨hi,Yr⟩:=kQ hx;obtain⟨bl,cl,rfl,Ej,ao0,Mg,zE⟩:=h.C8 (by omega);have h1:=h.ar.cell 1;have h2:=h.ar.cell 2;simp only[zg]at h1 h2;have ad5:=(h.qo hi).2;unfold maxLen at Jv zE;have AS:s.list.length≤65536:=fT h.tY h.room;have kS:W.get s a=(s.list[i].2,true):=by simp[W.get,hx,List.getD,cy hi]
  rw[kS];clear kS;generalize hold:s.list[i].2=T7 at*;have H:=aa h;clear h;have HX:=aa hx;clear hx hold Yr
 case' Y=>
  intro base b a w vl vt vd m fo pos s h hx;obtain⟨bt,c,rfl,WS,yU,nM,Jv⟩:=h.pC;have h2:=h.ar.cell 2;simp only[zg]at h2;unfold maxLen at Jv;have kS:W.get s a=(0,false):=by simp[W.get,hx]
  rw[kS];clear kS;have H:=aa h;clear h;have HX:=aa hx;clear hx
 case' Z|Y=>
  go_in;go_wp2_with fail;refine bW [(1,[0,1,2,3,4,5]),(2,[6]),(0,[7]),(3,[8]),(0,[9])] (by kernel_rfl) ?_;simp only[zz];repeat(first|go_big_quiet_step(fail)|apply ax|apply af|apply ag|apply ah)
  refine aA ?_;go_wp2_with fail;refine(qp base b a _ _ _ _ m fo pos s (H.out.drewN 1)).mono ?_;rintro e w' ⟨k,q,rfl,hS,rfl⟩
 case' Z=>
  obtain⟨hk,⟨i',tf,hp,BM,uf⟩|⟨tf,_⟩⟩:=hS;rotate_left
  ·rw[HX.out]at tf;cases tf
  rw[HX.out]at tf;injection tf with SX;subst SX;have Bo:=H.out.nr uf;have Yo:(((i:Int)+1)==0)=false:=by simp;omega
  clear hp BM;have GH:=aa uf;clear uf;go_wp2;refine⟨⟨⟨_,(by exact⟨rfl,rfl,rfl,dp _,λ_ _ _=>rfl⟩)⟩,rfl⟩,?_⟩;repeat(first|go_big_quiet_step(fail)|apply ax|apply af|apply ag|apply ah)
  refine ao ?_;go_wp2_with fail;repeat(first|go_big_quiet_step(fail)|apply ax|apply af|apply ag|apply ah)
  refine aj ?_;go_wp2;go_ret2;exact⟨rfl,_,rfl⟩
 obtain⟨hk,⟨i',tf,hp,BM,uf⟩|⟨tf,uf,_⟩⟩:=hS
 ·rw[HX.out]at tf;cases tf
 have Bo:=H.out.nr uf;clear tf;have GH:=aa uf;clear uf;go_wp2;refine⟨⟨⟨_,(by exact⟨rfl,rfl,rfl,dp _,λ_ _ _=>rfl⟩)⟩,rfl⟩,?_⟩;repeat(first|go_big_quiet_step(fail)|apply ax|apply af|apply ag|apply ah)
 refine ao ?_;go_wp2_with fail;repeat(first|go_big_quiet_step(fail)|apply ax|apply af|apply ag|apply ah)
 refine aj ?_;go_wp2;go_ret2;exact⟨rfl,_,rfl⟩
def Ua:=@zq11.1
def O6:=@zq11.2
def Ub (base b a w fp s)(h:mz w base b fp s):
 Calls Tryz.prog 139 #[O b,I a] w λe w'=>e= .returned (.tuple #[U (W.get s a).1,.bool (W.get s a).2])∧∃n,w'=w.drewN n:=by
 obtain⟨vl,vt,vd,m,fo,pos,hs,rfl⟩:=h;cases hx:idx s.list a with
 |some i=>exact Ua base b a w vl vt vd m fo pos s hs i hx
 |none=>exact O6 base b a w vl vt vd m fo pos s hs hx
end Go.Proofs.YtolkmchicplaoaaGreat
end
section
namespace Go.Proofs.YtolkmchicplaoaaGreat
open Go.RowKit Go.aS Go.aS.W
def Hj (w:World)(r:Nat)(g:Nat)(v:Value)(wr:World):Prop:=
 w=wr∧∃p z:Nat,z=2^p∧1≤p∧v=I (z:Int)∧(p=1∨z<4*r)∧g=4*r+2-z
def lo (r:Int):Nat:=(min (max r 0) 65536).toNat
def JJ (w:World)(base:Nat)(r:Int)(e:Ending)(w':World):Prop:=
 ∃b fp,e= .returned (O b)∧mz w' base b fp ⟨lo r,[],[]⟩∧Fr [] w w'∧∀k∈fp,w.heap.size≤k
def Lo:(Tryz.prog.info? 3).map (λi=>(i.zero,i.size,i.bytes))=some (some (I 0),1,8):=by kernel_rfl
def wN {w w1:World}{base r z p:Nat}{ρ:Int}(hρ:ρ=(r:Int))(hz:z=2^p)(hp:1≤p)(Lp:p=1∨z<4*r)(hr:r≤65536)(hzr:2*r≤z)(iy:base≤w.heap.size)
 (ho:w1.ownsRow base 3 1 (.slice (some ⟨w.heap.size,0,none⟩) z z) z (madeCells (Value.int IntKind.i64 0).cells (z*1)).toList)(hg:w.grownBy w1 none):
 let w2:=w1.alloc (.cells #[I ρ,.slice none 0 0,.slice (some ⟨w.heap.size,0,none⟩) z z,.slice none 0 0] 264)
 ∃fp,mz w2 base w1.heap.size fp ⟨r,[],[]⟩∧Fr [] w w2∧∀k∈fp,w.heap.size≤k:=by
 subst hρ;have tH:=(ho.lt w.heap.size rfl).2;have iR:2≤z:=by
  rw[hz];exact fT (show 2≤2^1 by decide) (Nat.pow_le_pow_right (by decide) hp)
 have WZ:z≤1000000:=by rcases Lp with e|e;(rw[hz,e];decide);omega
 refine⟨ue w1.heap.size (.slice none 0 0) (.slice (some ⟨w.heap.size,0,none⟩) z z) (.slice none 0 0),
  ⟨.slice none 0 0,.slice (some ⟨w.heap.size,0,none⟩) z z,.slice none 0 0,z,List.replicate z 0,λ_=>0,?_,rfl⟩,?_,?_⟩
 ·refine⟨by omega,cB.new _ _ _,?_,?_,?_,?_,hr,cE _,hzr,iR,by simp[Value.ownBlock],?_,by simp[Value.ownBlock],.inl rfl,.inl rfl,.inl rfl⟩
  ·exact jP _ _ _ _
  ·have:=ho.alloc (.cells #[I r,.slice none 0 0,.slice (some ⟨w.heap.size,0,none⟩) z z,.slice none 0 0] 264);rw[show(Value.int IntKind.i64 0).cells=#[Value.int IntKind.i64 0]from rfl,toList_madeCells_one,lj]at this;rw[List.map_replicate];exact this
  ·exact jP _ _ _ _
  ·subst hz;exact kR.new p WZ
  ·simp[Value.ownBlock];omega
 ·exact((Fr.refl [] w).grown hg (λk e=>by cases e)).alloc _
 ·intro k hk;rcases ed.1 hk with e|e|e|e
  ·subst e;exact hg.size
  ·simp[Value.ownBlock]at e
  ·simp[Value.ownBlock]at e;omega
  ·simp[Value.ownBlock]at e
def Uc(base r w)(iy:base≤w.heap.size):Calls Tryz.prog 136 #[I r] w (JJ w base r):=by
 obtain⟨i0,PY,jA,jB,iR⟩:=eA Lo;have Yd:lo r≤65536:=by unfold lo;omega
 obtain⟨ρ,h1,h2⟩:∃ρ:Int,(r<0∧ρ=0∨65536<r∧ρ=65536∨(0≤r∧r≤65536)∧ρ=r)∧ρ=(lo r:Int):=by
  by_cases h:r<0
  ·exact⟨0,.inl ⟨h,rfl⟩,by unfold lo;omega⟩
  ·by_cases h2:65536<r
   ·exact⟨65536,.inr (.inl ⟨h2,rfl⟩),by unfold lo;omega⟩
   ·exact⟨r,.inr (.inr ⟨⟨by omega,by omega⟩,rfl⟩),by unfold lo;omega⟩
 unfold JJ;generalize lo r=R at*;have gi:=Int.le_of_eq h2;have hR2:=Int.le_of_eq h2.symm;have HR:=aa h2;clear h2;rcases h1 with⟨hc,rfl⟩|⟨hc,h65⟩|⟨⟨hc,hc'⟩,rfl⟩;refine ?Z;rotate_left;refine ?Y;rotate_left;refine ?X
 case' Z=>go_in;go_wp2_with fail
 case' Z=>
  go_loopg [3] (4*R) (λg v wr=>Hj w R g v wr)
  case' atStart=>skip
  refine ?J
  case' round=>skip
  refine ?G
 case' J=>exact⟨rfl,1,2,rfl,dp _,rfl,.inl rfl,by omega⟩
 case' Y=>have H65:=aa h65;clear h65;go_in;go_wp2_with fail;rw[←H65.out]
 case' Y=>
  go_loopg [3] (4*R) (λg v wr=>Hj w R g v wr)
  case' atStart=>skip
  refine ?D
  case' round=>skip
  refine ?V
 case' X=>go_in;go_wp2_with fail
 case' X=>
  go_loopg [3] (4*R) (λg v wr=>Hj w R g v wr)
  case' atStart=>skip
  refine ?U
  case' round=>skip
  refine ?g0
 case' V|g0=>
  obtain⟨rfl,p,z,hz,hp,rfl,Lp,hg⟩:=hrel;have WZ:z≤300000:=by rcases Lp with e|e;(rw[hz,e];decide);omega
  have HZ:=aa hz;have HG:=aa hg;have H4:=aa Lp;clear hz hg Lp
 case' V=>by_cases tH:z<2*R;refine ?g1;rotate_left;refine ?g2
 case' g0=>by_cases tH:z<2*R;refine ?g3;rotate_left;refine ?g4
 case' G=>
  obtain⟨rfl,p,z,hz,hp,rfl,Lp,hg⟩:=hrel;have WZ:z≤300000:=by rcases Lp with e|e;(rw[hz,e];decide);omega
  have HZ:=aa hz;have HG:=aa hg;have H4:=aa Lp;clear hz hg Lp
 case' G|g2|g4=>go_wp2_with(at_make;refine wpList_make_full _ rfl _ _ 23 rfl base 3 i0 _ 1 underlying23 PY jA jB .i64 .i64 _ _ z rfl rfl rfl rfl (by rw[iR];omega) (by unfold maxLen;omega) iy ?_;intro w1 ho uF);go_ret;obtain⟨fp,h1,h2,h3⟩:=wN HR.out HZ.out hp H4.out Yd (by omega) iy ho uF
 case' G|g2|g4=>exact⟨_,fp,rfl,h1,h2,h3⟩
 case' D=>exact⟨rfl,1,2,rfl,dp _,rfl,.inl rfl,by omega⟩
 case' g1=>go_wp2
 case' g1=>
  go_roundg (4*R+2-2*z)
  case' measure=>skip
  refine ?g5
  case' rel=>skip
  refine ?g6
 case' g3=>go_wp2
 case' g3=>
  go_roundg (4*R+2-2*z)
  case' measure=>skip
  refine ?g7
  case' rel=>skip
  refine ?g8
 case' g5|g7=>have:=HG.out;have h3:2≤z:=by rw[HZ.out];exact fT (show 2≤2^1 by decide) (Nat.pow_le_pow_right (by decide) hp)
 case' g5|g7=>omega
 case' g6|g8=>exact⟨rfl,p+1,2*z,by rw[HZ.out,Nat.pow_succ];omega,by omega,by go_num,.inr (by omega),by omega⟩
 exact⟨rfl,1,2,rfl,dp _,rfl,.inl rfl,by omega⟩
end Go.Proofs.YtolkmchicplaoaaGreat
end
section
namespace Go.Proofs.YtolkmchicplaoaaGreat
open Go.RowKit Go.aS Go.aS.W
def O7 (l):∀u∈lX l,u.oneCell'=true:=by
 intro u hu;simp only[lX,List.mem_flatMap]at hu;obtain⟨e,_,he⟩:=hu;simp at he;rcases he with rfl|rfl<;>rfl
def tg (w:World)(base:Nat)(l:List (Int×Int))(T:TypeId)(e:Ending)(w':World):Prop:=
 ∃v,e= .returned v∧w'.ownsRow base T 2 v l.length (lX l)∧Fr [] w w'∧∀k,v.ownBlock=some k→w.heap.size≤k
def Lq (base w):
 Calls Tryz.prog 158 #[.slice none 0 0] w (tg w base [] 234):=by
 have hk:=fun(wx:World)=>iW (P:=Tryz.prog) wx 203 234 none 0 0 0 0 underlying203;go_wp2;go_ret;exact⟨_,rfl,jP _ _ _ _,Fr.refl _ _,λk e=>by simp[Value.ownBlock]at e⟩
def Hk (base ae5 w g n c l)(hn:n=l.length)(h:w.ownsRow ae5 234 2 (.slice (some ⟨g,0,none⟩) n c) n (lX l))(hl:l.length≤1000000)(iy:base≤w.heap.size):
 Calls Tryz.prog 158 #[.slice (some ⟨g,0,none⟩) n c] w (tg w base l 234):=by
 obtain⟨j0,Yt,nO,UJ,Yu⟩:=eA xR;have hk:=fun(wx:World)=>iW (P:=Tryz.prog) wx 203 234 (some ⟨g,0,none⟩) n c 0 0 underlying203;have HR:Hid ((w.alloc (.cells [].toArray 234)).ownsRow base 234 2 (.slice (some ⟨w.heap.size,0,none⟩) 0 0) 0 []):=
  pQ w #[] 0 iy (by unfold maxLen;omega) (by simp)
 have H:=aa h;clear h;have HN:=aa hn;clear hn;have Gp:n≤1000000:=by rw[HN.out];exact hl
 go_in;go_wp2_with(at_builtin;go_must (refine eC _ rfl _ _ 203 rfl base 234 j0 _ 2 16 underlying203 Yt nO UJ Yu rfl (by decide) (.slice (some ⟨w.heap.size,0,none⟩) 0 0) 0 [] rfl HR.out ⟨g,0,none⟩ n c (lX l) rfl (by rw[HN.out];exact EN l) ((H.alloc _).cells rfl) (O7 l) (by unfold maxLen;omega) (by omega) (by simp;omega) (by simp) ?_));intro g2 c2 w2 dy iZ jj kM mw;go_wp2;go_ret;refine⟨_,rfl,?_,((Fr.refl [] w).alloc (.cells #[] 234)).grown iZ (λk e=> .inr (by simp[Value.ownBlock]at e;omega)),?_⟩
 ·rw[←HN.out];simpa using dy
 ·intro k e;simp[Value.ownBlock]at e jj;omega
def Ud (base b w fp s)(h:mz w base b fp s)(iy:base≤w.heap.size):
 Calls Tryz.prog 138 #[O b] w (tg w base s.list 234):=by
 obtain⟨vl,vt,vd,m,fo,pos,h,rfl⟩:=h;have AS:s.list.length≤65536:=fT h.tY h.room;have h1:=h.ar.cell 1;simp only[zg]at h1;have HC:Hid (Calls Tryz.prog 158 #[vl] w (tg w base s.list 234)):=by
  rcases bg h.iL with⟨rfl,h0⟩|⟨g,c,rfl,_⟩
  ·have:s.list=[]:=nJ h0;rw[this];exact Lq base w
  ·exact Hk base base w g _ c s.list rfl h.iL (by omega) iy
 clear h;go_in;go_wp2_with fail;refine HC.out.mono ?_;rintro e w' ⟨v,rfl,ho,hf,hk⟩;go_wp2;go_ret;exact⟨v,rfl,ho,hf,hk⟩
end Go.Proofs.YtolkmchicplaoaaGreat
end
namespace Go.aS.W
def Pc (s a v):(put s a v).1.room=s.room:=by
 unfold put;repeat' split
 all_goals rfl
end Go.aS.W
namespace Go.Proofs.YtolkmchicplaoaaGreat
open Go.RowKit Go.aS Go.aS.W
def Live (w0 w:World)(b:Nat)(fp:List Nat)(s:S):Prop:=mz w w0.heap.size b fp s∧Fr [] w0 w∧W.Good s
def Live.out {w0 w w' b fp s}(h:Live w0 w b fp s)(f:Fr fp w w'):Fr [] w0 w':=
 h.2.1.trans' f λk hk=> .inr (h.1.lt k hk).1
def Live.fr {w0 w w' b fp se s}(h:Live w0 w b fp s)(f:Fr se w w')(hn:∀k∈fp,k∉se)(hb:∀k∈se,w0.heap.size≤k):Live w0 w' b fp s:=
 ⟨h.1.fr f hn,h.2.1.trans' f λk hk=> .inr (hb k hk),h.2.2⟩
def Live.c_ {w0 w w' b fp s}(h:Live w0 w b fp s)(f:Fr [] w w'):Live w0 w' b fp s:=
 h.fr f (by simp) (by simp)
def Live.drewN {w0 w b fp s}(h:Live w0 w b fp s)(n):Live w0 (w.drewN n) b fp s:=h.c_ ((Fr.refl _ _).drewN n)
def cw (b:Nat)(s:W.S):a_ where
 P w fp:=mz w 0 b fp s∧W.Good s
 fr h f hn:=⟨h.1.fr f hn,h.2⟩
 lt h:=λk hk=>(h.1.lt k hk).2
def B0 {w0 w Ts}(h:Sep w0 w Ts)(i:Nat){b:Nat}{s:W.S}(hi:Ts[i]?=some (cw b s)):s.room≤65536∧s.list.length≤s.room:=by
 obtain⟨fp,⟨⟨vl,vt,vd,m,fo,pos,hs,rfl⟩,_⟩,_⟩:=h.get i hi;exact⟨hs.room,hs.tY⟩
def iz {w0 w R b s}(h:Sep w0 w (cw b s::R))(hd:s.done.length≤1000000)(a v):
 jh 190 #[O b,I a,U v] w (I (W.put s a v).2) w0 (cw b (W.put s a v).1::R):=by
 obtain⟨fp,⟨hp,hg⟩,_,hk⟩:=h.get 0 rfl;refine(T_ 0 b a v w fp s hp hd (cE _)).mono ?_;rintro e w' ⟨h1,se,h2,h3,h4⟩;exact⟨h1,hk (cw b (W.put s a v).1) w' se ⟨h2,EM hg a v⟩ h3 h4⟩
def EU (w r):
 Calls Tryz.prog 136 #[I r] w λe w'=>∃b,e= .returned (O b)∧eZ w w' (cw b ⟨lo r,[],[]⟩):=by
 refine(Uc 0 r w (cE _)).mono ?_;rintro e w' ⟨b,fp,h1,h2,h3,h4⟩;exact⟨b,h1,h3,fp,⟨h2,zu _⟩,h4⟩
def jo {w0 w R b s}(h:Sep w0 w (cw b s::R))(a):
 ba 139 #[O b,I a] w (.tuple #[U (W.get s a).1,.bool (W.get s a).2]):=by
 obtain⟨fp,⟨hp,hg⟩,_,hk⟩:=h.get 0 rfl;refine(Ub 0 b a w fp s hp).mono ?_;rintro e w' ⟨h1,n,rfl⟩;exact⟨h1,(Fr.refl [] w).drewN n⟩
def Pe {w0 w R b s}(h:Sep w0 w (cw b s::R)):
 Calls Tryz.prog 154 #[O b] w λe w'=>e= .returned (I s.done.length)∧w=w':=by
 obtain⟨fp,⟨hp,hg⟩,_,hk⟩:=h.get 0 rfl;exact O5 0 b w fp s hp
def Pf {w0 w R b s}(h:Sep w0 w (cw b s::R)):
 Calls Tryz.prog 138 #[O b] w λe w'=>∃v,e= .returned v∧eZ w w' (aU 0 234 2 v s.list.length (lX s.list)):=by
 obtain⟨fp,⟨hp,hg⟩,_,hk⟩:=h.get 0 rfl;refine(Ud 0 b w fp s hp (cE _)).mono ?_;rintro e w' ⟨v,h1,h2,h3,h4⟩;exact⟨v,h1,h3,v.ownBlock.toList,⟨rfl,h2⟩,λk hk=>h4 k (by simpa using hk)⟩
end Go.Proofs.YtolkmchicplaoaaGreat
namespace Go.aS.P
open Go.aS.Y
structure St where
 next:Int
 f:Int→Int
 wt:Int
 wl:Int
 nt:Int
 nl:Int
 bS:List Int
 s:Int
def bO (cells:List Value)(seq:Int)(mv v:Value)(p:St):List Value:=
 cells++[U seq,I p.next,mv,I p.wt,I p.wl,I p.nt,I p.nl,v,I p.s]
structure PF (cs xs:List Value)(seq:Int)(mv v:Value)(p:St):Prop where
 seq:xs[24]?=some (U seq)
 next:xs[25]?=some (I p.next)
 mp:xs[26]?=some mv
 wt:xs[27]?=some (I p.wt)
 wl:xs[28]?=some (I p.wl)
 nt:xs[29]?=some (I p.nt)
 nl:xs[30]?=some (I p.nl)
 bS:xs[31]?=some v
 s:xs[32]?=some (I p.s)
 len:xs.length=33
def pf {cs}(aD:cs.length=24)(seq mv v p):PF cs (bO cs seq mv v p) seq mv v p:=by
 unfold bO;refine⟨?_,?_,?_,?_,?_,?_,?_,?_,?_,by simp[aD]⟩<;>(rw[gw (by omega),aD];rfl)
def mK {cs}(aD:cs.length=24)(seq mv v p x):(bO cs seq mv v p).set 25 (I x)=bO cs seq mv v {p with next:=x}:=by
 unfold bO;rw[eD _ _ (by omega),aD];rfl
def Pg {cs}(aD:cs.length=24)(seq mv v p x):(bO cs seq mv v p).set 27 (I x)=bO cs seq mv v {p with wt:=x}:=by
 unfold bO;rw[eD _ _ (by omega),aD];rfl
def EV {cs}(aD:cs.length=24)(seq mv v p x):(bO cs seq mv v p).set 28 (I x)=bO cs seq mv v {p with wl:=x}:=by
 unfold bO;rw[eD _ _ (by omega),aD];rfl
def vq {cs}(aD:cs.length=24)(seq mv v p x):(bO cs seq mv v p).set 29 (I x)=bO cs seq mv v {p with nt:=x}:=by
 unfold bO;rw[eD _ _ (by omega),aD];rfl
def vr {cs}(aD:cs.length=24)(seq mv v p x):(bO cs seq mv v p).set 30 (I x)=bO cs seq mv v {p with nl:=x}:=by
 unfold bO;rw[eD _ _ (by omega),aD];rfl
def wO {cs}(aD:cs.length=24)(seq mv v p x):(bO cs seq mv v p).set 31 x=bO cs seq mv x p:=by
 unfold bO;rw[eD _ _ (by omega),aD];rfl
def Db {cs}(aD:cs.length=24)(seq mv v p x):(bO cs seq mv v p).set 32 (I x)=bO cs seq mv v {p with s:=x}:=by
 unfold bO;rw[eD _ _ (by omega),aD];rfl
def Dc (f:Int→Int)(y:Int):Int→Int:=λz=>if z=y then f y+1 else f z
def fin (c:cA)(p:St):St:=if c.t+1<p.next∧(p.bS.length:Int)=p.wl then{p with nt:=p.wt,nl:=p.wl,s:=1}else p
def tell (c:cA)(seq:Int)(v s:Int)(p:St):St:=
 if p.s≠0 then p
 else if p.next<c.t then fin c {p with f:=Dc p.f v,next:=p.next+1}
 else if seq<s then{p with s:=2}
 else if p.next=c.t then fin c {p with wt:=min v c.b,next:=p.next+1}
 else if p.next=c.t+1 then fin c {p with wl:=min v (b_ c),next:=p.next+1}
 else fin c {p with bS:=p.bS++[v],next:=p.next+1}
def ask (c:cA)(p:St):P6×Bool:=
 if p.s≠0 then(p0,false)
 else if p.next<c.t then(⟨0,at_ c 3 p.next 0,0,0,0,0⟩,true)
 else if p.next=c.t then(⟨0,at_ c 12 0 0,0,0,0,0⟩,true)
 else if p.next=c.t+1 then(⟨0,at_ c 14 0 0,0,0,0,0⟩,true)
 else(⟨0,at_ c 15 (p.next-c.t-2) 0,0,0,0,0⟩,true)
def fw:St:=⟨0,λ_=>0,0,0,0,0,[],0⟩
def cU (s:W.S)(a v:Int):W.S:=(W.put s a v).1
def release (c:cA)(x:St×W.S)(b:Int):St×W.S:=
 if x.1.nt<c.b then({x.1 with nt:=x.1.nt+1},cU (cU x.2 (at_ c 11 b 0) 0) (at_ c 13 x.1.nt 0) b)
 else(x.1,cU x.2 (at_ c 11 b 0) 0)
def fP (c:cA):List Int→Int→Int→St×W.S→St×W.S×Int
 |[],_,kept,x=>(x.1,x.2,kept)
 |b::r,k,kept,x=>
  if c.b≤b then fP c r (k+1) kept x
  else if x.1.f (b+1)=0 then fP c r (k+1) kept (release c x b)
  else if kept≠k then fP c r (k+1) (kept+1) (x.1,cU x.2 (at_ c 15 kept 0) b)
  else fP c r (k+1) (kept+1) x
def settle (c:cA)(p:St)(s:W.S):St×W.S:=
 let z:=fP c p.bS 0 0 (p,s)
 ({z.1 with nl:=z.2.2,bS:=[]},z.2.1)
def top (c:cA)(p:St):Int×Bool:=if p.nt=0 then(-1,false)else(at_ c 13 (p.nt-1) 0,true)
def re (c:cA)(b:Int):Nat→W.S→W.S
 |0,s=>s
 |k+1,s=>cU (re c b k s) (at_ c 16 b k) 0
def take (c:cA)(b:Int)(p:St)(s:W.S):St×W.S:=
 if p.nt=0∨at_ c 11 b 0= -1 then(p,s)else({p with nt:=p.nt-1},re c b 8 (cU s (at_ c 11 b 0) 1))
def end_ (c:cA)(p:St)(s:W.S):W.S:=
 let s1:=if p.nt≠p.wt then cU s (at_ c 12 0 0) p.nt else s
 if p.nl≠p.wl then cU s1 (at_ c 14 0 0) p.nl else s1
structure Ok (c:cA)(p:St):Prop where
 next:0≤p.next∧p.next≤1000
 s:0≤p.s∧p.s≤2
 wt:0≤p.wt∧p.wt≤c.b
 wl:0≤p.wl∧p.wl≤b_ c
 nt:0≤p.nt∧p.nt≤c.b
 nl:0≤p.nl∧p.nl≤b_ c
 f:∀z,0≤p.f z∧p.f z≤p.next
 bS:∀b∈p.bS,0≤b∧b≤18446744073709551615
 len:(p.bS.length:Int)≤p.wl
 cr:p.s=0→p.next≤c.t+1∧p.bS=[]∨c.t+1<p.next∧p.next=c.t+2+p.bS.length∧(p.bS.length:Int)<p.wl
def Yy (c)(h:Y.Ok c):Ok c fw:=by
 have h1:=h.b1;have h2:=bK h;have h3:=h.t1;exact⟨by simp[fw],by simp[fw],by simp[fw];omega,by simp[fw];omega,by simp[fw];omega,by simp[fw];omega,by simp[fw],by simp[fw],by simp[fw],λ_=> .inl ⟨by simp[fw];omega,rfl⟩⟩
def Dd {c p}(hn:0≤p.next∧p.next≤1000)(hs:p.s=0)(SZ:0≤p.wt∧p.wt≤c.b)(vu:0≤p.wl∧p.wl≤b_ c)(mY:0≤p.nt∧p.nt≤c.b)(kA:0≤p.nl∧p.nl≤b_ c)(hf:∀z,0≤p.f z∧p.f z≤p.next)(Yz:∀b∈p.bS,0≤b∧b≤18446744073709551615)(hlen:(p.bS.length:Int)≤p.wl)
 (hc:p.next≤c.t+1∧p.bS=[]∨c.t+1<p.next∧p.next=c.t+2+p.bS.length):Ok c (fin c p):=by
 unfold fin;split
 ·rename_i hx;exact⟨hn,by simp,SZ,vu,SZ,vu,hf,Yz,hlen,by simp⟩
 ·rename_i hx;refine⟨hn,by omega,SZ,vu,mY,kA,hf,Yz,hlen,λ_=>?_⟩;rcases hc with h|⟨h1,h2⟩
  ·exact .inl h
  ·exact .inr ⟨h1,h2,by omega⟩
def vw {c}(h:Y.Ok c){p}(hp:Ok c p)(seq v s)(hv:0≤v∧v≤18446744073709551615):Ok c (tell c seq v s p):=by
 have nU:=h.b1;have hl:=bK h;have AU:=h.t1;have sg:=h.t8;obtain⟨n1,s1,a1,a2,a3,a4,f1,l1,l2,c1⟩:=id hp;unfold tell;by_cases h0:p.s≠0
 ·rw[aB h0];exact hp
 rw[aq h0];have wK:p.s=0:=sW.1 h0;have c1:=c1 wK;by_cases h1:p.next<c.t
 ·rw[aB h1];have hle:p.bS=[]:=by rcases c1 with c1|c1;exact c1.2;omega
  refine Dd (by dsimp only;omega) wK a1 a2 a3 a4 (λz=>?_) l1 l2 (.inl ⟨by dsimp only;omega,hle⟩);dsimp only[Dc];have:=f1 z;have:=f1 v;split<;>omega
 rw[aq h1];by_cases h2:seq<s
 ·rw[aB h2];exact⟨n1,by simp,a1,a2,a3,a4,f1,l1,l2,by simp⟩
 rw[aq h2];have f2:∀z,0≤p.f z∧p.f z≤p.next+1:=λz=>by have:=f1 z;omega
 by_cases h3:p.next=c.t
 ·rw[aB h3];have hle:p.bS=[]:=by rcases c1 with c1|c1;exact c1.2;omega
  exact Dd (by dsimp only;omega) wK (by dsimp only;omega) a2 a3 a4 f2 l1 l2 (.inl ⟨by dsimp only;omega,hle⟩)
 rw[aq h3];by_cases h4:p.next=c.t+1
 ·rw[aB h4];have hle:p.bS=[]:=by rcases c1 with c1|c1;exact c1.2;omega
  exact Dd (by dsimp only;omega) wK a1 (by dsimp only;omega) a3 a4 f2 l1 (by dsimp only;rw[hle];simp;omega) (.inr ⟨by dsimp only;omega,by dsimp only;rw[hle];simp;omega⟩)
 rw[aq h4];have c1:c.t+1<p.next∧p.next=c.t+2+p.bS.length∧(p.bS.length:Int)<p.wl:=by
  rcases c1 with c1|c1
  ·omega
  ·exact c1
 refine Dd (by dsimp only;omega) wK a1 a2 a3 a4 f2 (λb hb=>?_) (by simp;omega) (.inr ⟨by dsimp only;omega,by simp;omega⟩);rcases jQ.1 hb with hb|hb
 ·exact l1 b hb
 ·obtain rfl:b=v:=by simpa using hb
  exact hv
end Go.aS.P
namespace Go.Proofs.YtolkmchicplaoaaGreat
open Go.RowKit Go.aS Go.aS.Y
def bE (c:cA)(seq:Int)(b:Nat)(p:P.St):a_:=
 EG (λx:Nat×Value=>t_ (aJ b 261 (P.bO (ae c) seq (.map (some x.1)) x.2 p)) (t_ (sA Tryz.prog 26 3 .u64 .i64 x.1 p.next.toNat p.f) (aU 0 26 1 x.2 p.bS.length (p.bS.map (Value.int .u64)))))
def fA {w0 w R c seq b p}(hS:Sep w0 w (bE c seq b p::R)):
 ∃mb la lc,Sep w0 w (aJ b 261 (P.bO (ae c) seq (.map (some mb)) (.slice la p.bS.length lc) p)::sA Tryz.prog 26 3 .u64 .i64 mb p.next.toNat p.f::aU 0 26 1 (.slice la p.bS.length lc) p.bS.length (p.bS.map (Value.int .u64))::R):=by
 obtain⟨⟨mb,v⟩,h1⟩:=hS.rZ;have h2:=h1.vf;have h3:=(Sep.vf (h2.pull 1 rfl)).sub (NJ:=_::_::_::R) (2::0::1::(List.range R.length).map (·+3)) (by
  simp only[po,List.map_map];refine congrArg _ (congrArg _ (congrArg _ ?_));apply uN;intro i;simp only[jE];by_cases hi:i<R.length
  ·simp[List.getElem?_range hi,cy hi]
  ·rw[lg (by simp;omega),lg (by omega)];rfl) (by
  rw[List.nodup_cons,List.nodup_cons,List.nodup_cons];refine⟨by simp,by simp,by simp,?_⟩;exact(List.nodup_range).map (f:=(·+3)) (λa b h=>by simpa using h))
 obtain⟨la,lc,rfl⟩:=h3.form 2 rfl;exact⟨mb,la,lc,h3⟩
def jv {w0 w R c seq b mb n k v p}(hn:n≤p.next.toNat)(hk:k=p.bS.length)
 (hS:Sep w0 w (aJ b 261 (P.bO (ae c) seq (.map (some mb)) v p)::sA Tryz.prog 26 3 .u64 .i64 mb n p.f::aU 0 26 1 v k (p.bS.map (Value.int .u64))::R)):Sep w0 w (bE c seq b p::R):=by
 subst hk;have du:Sep w0 w (aJ b 261 (P.bO (ae c) seq (.map (some mb)) v p)::sA Tryz.prog 26 3 .u64 .i64 mb p.next.toNat p.f::aU 0 26 1 v p.bS.length (p.bS.map (Value.int .u64))::R):=by
  obtain⟨fp,hp,_,nk⟩:=hS.get 1 rfl;obtain⟨h0,D,h1,h2⟩:=hp;exact nk (sA Tryz.prog 26 3 .u64 .i64 mb p.next.toNat p.f) w fp ⟨h0,D,h1.mono hn,h2⟩ (Fr.refl _ _) (λq hq=> .inl hq)
 have h3:=Sep.back 1 (Ts:=aJ b 261 (P.bO (ae c) seq (.map (some mb)) v p)::sA Tryz.prog 26 3 .u64 .i64 mb p.next.toNat p.f::R) (T:=t_ (sA Tryz.prog 26 3 .u64 .i64 mb p.next.toNat p.f) (aU 0 26 1 v p.bS.length (p.bS.map (Value.int .u64)))) (by simp) (Sep.sy ((du.pull 2 rfl).pull 2 rfl));exact Sep.qX (A:=Nat×Value) (λx:Nat×Value=>t_ (aJ b 261 (P.bO (ae c) seq (.map (some x.1)) x.2 p)) (t_ (sA Tryz.prog 26 3 .u64 .i64 x.1 p.next.toNat p.f) (aU 0 26 1 x.2 p.bS.length (p.bS.map (Value.int .u64))))) (a:=(mb,v)) (Sep.sy h3)
end Go.Proofs.YtolkmchicplaoaaGreat
namespace Go.aS.Vw
open Go.aS.Y
structure V where
 held:Int
 step:Int
 block:Int
 at_:Int
 val:Int
 s:Int
deriving DecidableEq
def eU (cells:List Value)(aw seq:Int)(v:V):List Value:=cells++[I aw,U seq,I v.held,I v.step,I v.block,I v.at_,U v.val,I v.s]
def ao8 {cs}(aD:cs.length=24)(aw seq v):
 (eU cs aw seq v)[24]?=some (I aw)∧(eU cs aw seq v)[25]?=some (U seq)∧(eU cs aw seq v)[26]?=some (I v.held)∧(eU cs aw seq v)[27]?=some (I v.step)∧(eU cs aw seq v)[28]?=some (I v.block)∧
 (eU cs aw seq v)[29]?=some (I v.at_)∧(eU cs aw seq v)[30]?=some (U v.val)∧(eU cs aw seq v)[31]?=some (I v.s):=by
 unfold eU;refine⟨?_,?_,?_,?_,?_,?_,?_,?_⟩<;>(rw[gw (by omega),aD];rfl)
def iA {cs}(aD:cs.length=24)(aw seq v x):(eU cs aw seq v).set 27 (I x)=eU cs aw seq {v with step:=x}:=by
 unfold eU;rw[eD _ _ (by omega),aD];rfl
def yW {cs}(aD:cs.length=24)(aw seq v x):(eU cs aw seq v).set 29 (I x)=eU cs aw seq {v with at_:=x}:=by
 unfold eU;rw[eD _ _ (by omega),aD];rfl
def JL {cs}(aD:cs.length=24)(aw seq v x):(eU cs aw seq v).set 30 (U x)=eU cs aw seq {v with val:=x}:=by
 unfold eU;rw[eD _ _ (by omega),aD];rfl
def EW {cs}(aD:cs.length=24)(aw seq v x):(eU cs aw seq v).set 31 (I x)=eU cs aw seq {v with s:=x}:=by
 unfold eU;rw[eD _ _ (by omega),aD];rfl
def inner (c:cA)(p:Int):Bool:=decide (7≤(jt c p).1∧(jt c p).1<16)
def cell (p:Int)(v:V):V:=if v.s=2 then v else{v with at_:=p,val:=0,step:=3,s:=0}
def ask (v:V):P6×Bool:=if v.step=3 then(⟨0,v.at_,0,0,0,0⟩,true)else(p0,false)
def tell (seq x n:Int)(v:V):V:=
 if v.step=3 then(if seq<n then{v with step:=0,s:=2}else{v with step:=0,val:=x,s:=1})else v
def VS (v:V):Prop:=(v.s=0∧v.step=3)∨((v.s=1∨v.s=2)∧v.step=0)
def VS.cell {v:V}(h:VS v)(p:Int):VS (cell p v):=by
 unfold Vw.cell;split
 ·exact h
 ·exact .inl ⟨rfl,rfl⟩
def VS.tell {v:V}(h:VS v)(seq x n:Int):VS (tell seq x n v):=by
 unfold Vw.tell;split
 ·split
  ·exact .inr ⟨.inr rfl,rfl⟩
  ·exact .inr ⟨.inl rfl,rfl⟩
 ·exact h
end Go.aS.Vw
namespace Go.aS.X
open Go.aS.Y Go.aS.I_
structure St where
 v:Vw.V
 p:P.St
 w:W.S
 mark:Int
 s:Int
 rc:Int
 rv:Int
 news:List Int
def zR (c:cA):Int:=at_ c 10 0 0
def fin (c:cA)(code:List In)(args:List Int)(r:Int)(x:St):St:=
 if code=countP then{x with w:=P.cU x.w (zR c) (IntKind.u64.wrap (r+1)),s:=1,rc:=0,rv:=IntKind.u64.wrap (r+1)}
 else if code=Ce∧r=0 then{x with w:=P.cU x.w (zR c) (IntKind.u64.wrap (args.getD 0 0+1)),s:=1,rc:=0,rv:=IntKind.u64.wrap (args.getD 0 0+1)}
 else{x with s:=1,rc:=0,rv:=r}
def look (c:cA)(code:List In)(args:List Int)(x:St):St:=
 if x.v.s=0 then x else if x.v.s=2 then{x with s:=2}else fin c code args x.v.val x
def eB (v:Vw.V)(p:P.St)(w:W.S):St:=⟨v,p,w,w.done.length,0,0,0,[]⟩
def new (c:cA)(code:List In)(args:List Int)(v:Vw.V)(p:P.St)(w:W.S):St:=
 if code=[]then{eB v p w with s:=1,rc:=30}
 else if(W.get w (zR c)).2 then fin c code args (W.get w (zR c)).1 (eB v p w)
 else look c code args {eB v p w with v:=Vw.cell (zR c) v}
def ask (x:St):P6×Bool:=if x.s≠0 then(p0,false)else Vw.ask x.v
def tell (c:cA)(code:List In)(args:List Int)(seq val n:Int)(x:St):St:=
 if x.s≠0 then x else look c code args {x with v:=Vw.tell seq val n x.v}
end Go.aS.X
namespace Go.aS.B
open Go.aS.Y Go.aS.I_
structure Row where
 aw:Int
 tag:Int
 rc:Int
 rv:Int
 news:List Int
deriving DecidableEq
structure St where
 x:X.St
 code:List In
 next:Int
 u:Int
 av:Int
 an:Int
 args:List Int
 given:Int
 rows:List Row
 s:Int
def fw (c:cA):St:=⟨X.eB ⟨-1,0,0,0,0,1⟩ P.fw ⟨(cap c).toNat,[],[]⟩,[],0,0,0,0,[0,0,0,0],0,[],0⟩
def pass (c:cA)(b:St):St:=
 if b.u+1=c.t then{b with u:=b.u+1,next:=1,x:={b.x with w:=P.end_ c b.x.p b.x.w},s:=1}else{b with u:=b.u+1,next:=1}
def ny (c:cA)(b:St):St:=
 {b with rows:=b.rows++[⟨b.u,b.an,b.x.rc,b.x.rv,b.x.news⟩],x:={b.x with w:=P.cU (P.cU (P.cU b.x.w (at_ c 8 b.u 0) (IntKind.u64.wrap b.x.rc)) (at_ c 9 b.u 0) b.x.rv) (at_ c 7 b.u 0) b.an}}
def A_ (c:cA)(b:St):St:=if b.x.s=2 then{b with s:=2}else if b.x.s=1 then pass c (ny c b)else b
def bU (ai:List (List In))(k:Int):List In:=if k<ai.length then ai.getD k.toNat []else []
def dI (c:cA)(ai:List (List In))(b:St):St:=
 A_ c {b with code:=bU ai b.av,x:=X.new c (bU ai b.av) b.args b.x.v b.x.p b.x.w,next:=4}
def tag (c:cA)(b:St):St:=
 if b.x.v.s=2 then{b with s:=2}else if b.x.v.val=b.an then pass c b else{b with given:=0,next:=3}
def je (c:cA)(b:St):St:=
 if b.an=0 then pass c b else{b with x:={b.x with v:=Vw.cell (at_ c 7 b.u 0) b.x.v},next:=2}
def settled (c:cA)(b:St):St:={b with x:={b.x with p:=(P.settle c b.x.p b.x.w).1,w:=(P.settle c b.x.p b.x.w).2},next:=1}
def mL (c:cA)(b:St):St:=if b.x.p.s=2 then{b with s:=2}else if b.x.p.s=1 then settled c b else b
def tell (c:cA)(ai:List (List In))(seq val n:Int)(b:St):St:=
 if b.s≠0 then b
 else if b.next=0 then mL c {b with x:={b.x with p:=P.tell c seq val n b.x.p}}
 else if b.next=1 then je c {b with av:=val,an:=n}
 else if b.next=2 then tag c {b with x:={b.x with v:=Vw.tell seq val n b.x.v}}
 else if b.next=3 then(if b.given+1=4 then dI c ai {b with args:=b.args.set b.given.toNat val,given:=b.given+1}else{b with args:=b.args.set b.given.toNat val,given:=b.given+1})
 else A_ c {b with x:=X.tell c b.code b.args seq val n b.x}
def ask (c:cA)(aw:Int)(b:St):P6×Bool:=
 if b.s≠0 then(p0,false)
 else if b.next=0 then P.ask c b.x.p
 else if b.next=1 then(⟨0,at_ c 1 b.u 0,0,0,0,0⟩,true)
 else if b.next=2 then Vw.ask b.x.v
 else if b.next=3 then(⟨0,at_ c 2 b.u b.given,0,0,0,0⟩,true)
 else X.ask b.x
def gone (c:cA)(s:W.S)(e:Int×Int):Bool:=
 decide ((jt c e.1).1=16∧(W.get s (at_ c 11 (jt c e.1).2.1 0)).2=true∧(W.get s (at_ c 11 (jt c e.1).2.1 0)).1≠1)
def entries (c:cA)(b:St):List (Int×Int):=b.x.w.list.filter (λe=> !gone c b.x.w e)
end Go.aS.B
namespace Go.aS.K
open Go.aS.Y Go.aS.I_
structure Call where
 prog:Int
 args:List Int
deriving DecidableEq
inductive Uf where
 |no
 |ex (code:List In)(x:X.St)
 |bu (b:B.St)
 |he (owner seq:Int)(h:H.H)
 |sc (seq:Int)(l:List (Int×Int))(d:Nat)
structure St where
 next:Int
 given:Int
 cZ:Int
 asked:Bool
 nv:Int
 ns:Int
 work:Uf
 b:Option B.St
 fresh:Bool
 eV:Bool
 oc:Int
 ov:Int
 rc:Int
 rv:Int
 alone:Bool
structure Me where
 aw:Int
 tag:Int
 call:Call
def bU (ai:List (List In))(k:Int):List In:=if k<0∨(ai.length:Int)≤k then []else ai.getD k.toNat []
def code (ai:List (List In))(m:Me):List In:=bU ai m.call.prog
def new (ai:List (List In))(m:Me):St:=
 ⟨if right (code ai m)=false∨reads (code ai m)=true then 2 else 0,0,0,false,0,0,.no,none,false,false,0,0,0,0,false⟩
def done (k:St):Bool:=decide (k.next=13)
def rows (k:St):List B.Row:=if k.eV then(match k.b with|some b=>b.rows|none=> [])else []
def owner (c:cA)(k:St):Int:=k.nv%c.t
def Hl (c:cA)(aw seq:Int)(l:List (Int×Int))(d:Nat):P6:=
 if d<l.length then⟨1,at_ c 6 aw d,0,0,(l.getD d (0,0)).2,IntKind.u64.wrap (l.getD d (0,0)).1⟩
 else if d=l.length then⟨1,at_ c 5 aw 0,0,0,l.length,0⟩
 else⟨1,at_ c 4 aw 0,0,0,1,seq⟩
def sF (c:cA)(m:Me)(k:St):P6×Bool:=
 match k.work with
 | .no=>(p0,false)
 | .ex _ x=>X.ask x
 | .bu b=>B.ask c m.aw b
 | .he o s h=>H.ask c m.aw o s h
 | .sc s l d=>if l.length+1<d then(p0,false)else(Hl c m.aw s l d,true)
def ask (c:cA)(m:Me)(k:St):P6×Bool:=
 if k.next=0 then(⟨1,at_ c 2 m.aw k.given,0,0,m.call.args.getD k.given.toNat 0,0⟩,true)
 else if k.next=1 then(⟨1,at_ c 1 m.aw 0,0,0,IntKind.u64.wrap m.call.prog,m.tag⟩,true)
 else if k.next=2 then(⟨0,at_ c 0 0 0,0,0,0,0⟩,true)
 else if k.next=3 then(⟨0,at_ c 4 (owner c k) 0,0,0,0,0⟩,true)
 else if k.next=5∨k.next=6∨k.next=7 then(⟨0,at_ c (7+(k.next-5)) m.aw 0,0,0,0,0⟩,true)
 else if k.next=4∨k.next=12∨k.next=8∨k.next=9∨k.next=10 then sF c m k
 else if k.next=11 then(⟨2,at_ c 0 0 0,k.nv,k.ns,m.aw,k.ns+1⟩,true)
 else(p0,false)
def end_ (rc rv:Int)(alone:Bool)(k:St):St:={k with next:=13,rc:=rc,rv:=rv,alone:=alone}
def read (x:X.St)(k:St):St:=
 if x.s=1 then end_ x.rc x.rv true k
 else if x.s=2 then(if k.cZ+1=2∧k.asked=false then{k with cZ:=k.cZ+1,next:=0}else{k with cZ:=k.cZ+1,next:=2})
 else k
def nV:Vw.V:=⟨-1,0,0,0,0,1⟩
def NM (c:cA)(ai:List (List In))(m:Me):X.St:=X.new c (code ai m) m.call.args nV P.fw ⟨0,[],[]⟩
def run (c:cA)(ai:List (List In))(m:Me)(k:St):St:=
 read (NM c ai m) {k with work:= .ex (code ai m) (NM c ai m),next:=8}
def qu (c:cA)(ai:List (List In))(m:Me)(k:St):St:=if k.asked then{k with next:=5}else run c ai m k
def opened (c:cA)(ai:List (List In))(m:Me)(v n:Int)(k:St):St:=
 if v=1∧n=k.ns then{k with work:= .he (owner c k) k.ns ⟨[],0,0,-1,0,0,0⟩,next:=4}else qu c ai m k
def looked (ai:List (List In))(m:Me)(k:St):St:=if right (code ai m)then{k with next:=3}else end_ 30 0 true {k with next:=3}
def answer (c:cA)(ai:List (List In))(m:Me)(val:Int)(k:St):St:=
 if k.next=6 then{k with oc:=IntKind.i64.wrap val,next:=7}
 else if k.next=7 then end_ k.oc val false {k with ov:=val}
 else if val=m.tag then{k with next:=6}
 else if c.la≤k.ns∧reads (code ai m)=true then run c ai m k
 else if c.la≤k.ns then end_ 45 0 true k
 else{k with work:= .bu (B.fw c),next:=9}
def uh (c:cA)(l:List (Int×Int)):List (Int×Int):=l.take (min l.length (cap c).toNat)
def ti (c:cA)(m:Me)(b:B.St):List B.Row→St→St
 |[],k=>k
 |r::l,k=>ti c m b l (if r.aw=m.aw then{k with oc:=r.rc,ov:=r.rv,b:=some b,work:= .sc (k.ns+1) (uh c (B.entries c b)) 0,next:=10}else k)
def built (c:cA)(m:Me)(b:B.St)(k:St):St:=
 if b.s=0 then k else if b.s=2 then{k with next:=2}else ti c m b b.rows {k with next:=2}
def jf (c:cA)(ai:List (List In))(m:Me)(h:H.H)(k:St):St:=
 if h.next≠8 then k else if k.next=12 then end_ k.oc k.ov false k else qu c ai m k
def JM (c:cA)(l:List (Int×Int)):H.H:=H.entry c ⟨l,0,0,-1,0,0,0⟩ 0
def iT (c:cA)(m:Me)(ok:Bool)(k:St):St:=
 if ok then
  {k with eV:=true,next:=12,work:= .he m.aw (k.ns+1) (JM c (match k.b with|some b=>B.entries c b|none=> []))}
 else{k with next:=2}
def fX (c:cA)(ai:List (List In))(m:Me)(v n:Int)(k:St):St:=
 match k.work with
 | .no=>k
 | .ex cd x=>read (X.tell c cd m.call.args k.ns v n x) {k with work:= .ex cd (X.tell c cd m.call.args k.ns v n x)}
 | .bu b=>built c m (B.tell c ai k.ns v n b) {k with work:= .bu (B.tell c ai k.ns v n b)}
 | .he o s h=>jf c ai m (H.tell c s v n h) {k with work:= .he o s (H.tell c s v n h)}
 | .sc s l d=>if l.length+1<(if l.length+1<d then d else d+1)then{k with work:= .sc s l (if l.length+1<d then d else d+1),next:=11}else{k with work:= .sc s l (if l.length+1<d then d else d+1)}
def tell (c:cA)(ai:List (List In))(m:Me)(o:O3)(k0:St):St:=
 if k0.next=13 then k0 else
 let k:={k0 with fresh:=decide (k0.next=2),eV:=false}
 if k.next=0 then(if k.given+1=4 then{k with given:=k.given+1,next:=1}else{k with given:=k.given+1})
 else if k.next=1 then{k with asked:=true,next:=2}
 else if k.next=2 then looked ai m {k with nv:=o.v,ns:=o.s}
 else if k.next=3 then opened c ai m o.v o.s k
 else if k.next=5∨k.next=6∨k.next=7 then answer c ai m o.v k
 else if k.next=11 then iT c m o.ok k
 else fX c ai m o.v o.s k
end Go.aS.K
namespace Go.aS.Z
open Go.aS.Y Go.aS.I_
structure Rec where
 aw:Int
 tag:Int
 call:K.Call
 from_:Int
 NN:Int
 steps:Int
 done:Bool
 rc:Int
 rv:Int
deriving DecidableEq
structure Row where
 at_:Int
 aw:Int
 tag:Int
 rc:Int
 rv:Int
 news:List Int
deriving DecidableEq
structure Th where
 calls:List K.Call
 at_:Option (K.Me×K.St)
 record:Int
 count:Int
 looked:Int
structure St where
 mem:C.M
 iB:List Th
 aK:Int
 aM:List Rec
 rows:List Row
def Um:Th:=⟨[],none,0,0,0⟩
def iO (s:St)(t:Nat):Th:=s.iB.getD t Um
def idle (s:St)(t:Int):Bool:=decide (t<0∨(s.iB.length:Int)≤t)||((iO s t.toNat).at_.isNone&&(iO s t.toNat).calls.isEmpty)
def EX (s:St)(t:Nat)(u:Th):St:={s with iB:=s.iB.set t u}
def Hm:Rec:=⟨0,0,⟨0,[]⟩,0,0,0,false,0,0⟩
def begun (ai:List (List In))(t:Nat)(u:Th):Th:=
 {u with calls:=u.calls.tail,count:=u.count+1,at_:=some (⟨t,u.count+1,u.calls.headD ⟨0,[]⟩⟩,K.new ai ⟨t,u.count+1,u.calls.headD ⟨0,[]⟩⟩)}
def dI (ai:List (List In))(t:Nat)(s:St):St:=
 {EX s t {begun ai t (iO s t)with record:=s.aM.length}with
  aM:=s.aM++[⟨t,(iO s t).count+1,(iO s t).calls.headD ⟨0,[]⟩,s.aK,0,0,false,0,0⟩]}
def told (t:Nat)(m:K.Me)(k:K.St)(s:St):St:=
 let u:=iO s t
 let u1:Th:={u with at_:=some (m,k),looked:=if k.fresh then s.aK else u.looked}
 let r:=s.aM.getD u.record.toNat Hm
 let r1:Rec:={r with steps:=r.steps+1}
 let Ph:=s.rows++(K.rows k).map (λx=>(⟨s.aK,x.aw,IntKind.i64.wrap x.tag,x.rc,x.rv,x.news⟩:Row))
 if k.next=13 then
  {s with
   iB:=s.iB.set t {u1 with at_:=none}
   aM:=s.aM.set u.record.toNat {r1 with NN:=s.aK,done:=true,rc:=k.rc,rv:=k.rv}
   rows:=if k.alone then Ph++[⟨u1.looked,t,u1.count,k.rc,k.rv,[]⟩]else Ph}
 else{s with iB:=s.iB.set t u1,aM:=s.aM.set u.record.toNat r1,rows:=Ph}
def nN (p:P6):C.BU:=⟨p.k,p.a,p.ov,p.os,p.nv,p.ns⟩
def o3 (o:C.OB):O3:=⟨o.v,o.s,o.ok⟩
def ig (c:cA)(ai:List (List In))(t:Nat)(s:St):St:=
 match(iO s t).at_ with
 |none=>s
 |some (m,k)=>
  let op:=nN (K.ask c m k).1
  told t m (K.tell c ai m (o3 (s.mem.told t op)) k) {s with mem:=s.mem.step t op}
def pick (c:cA)(ai:List (List In))(t:Int)(s:St):St×Bool:=
 if idle s t=true∨65536≤s.aK then(s,false)
 else
  let s1:={s with aK:=s.aK+1}
  let s2:=if(iO s1 t.toNat).at_.isNone then dI ai t.toNat s1 else s1
  (ig c ai t.toNat s2,true)
end Go.aS.Z
namespace Go.aS.Mo
open Go.aS.Y Go.aS.I_
structure R where
 roots:List Int
 aI:List Int
 writes:Int
 steps:Int
 pc:Int
 rv:Int
 ended:Bool
def iE (r:R)(k:Int):Int:=r.aI.getD k.toNat 0
def gV (r:R)(k v:Int):R:={r with aI:=r.aI.set k.toNat v}
def act (aC9:Int)(args:List Int)(i:In)(r:R):R×Int:=
 if i.op=17 then({r with pc:=i.bN},0)
 else if i.op=18 then(if iE r i.a=0 then{r with pc:=i.bN}else r,0)
 else if i.op=19 then(if iE r i.a≠0 then{r with pc:=i.bN}else r,0)
 else if i.op=20 then({r with rv:=iE r i.a,ended:=true},0)
 else if i.op=21 then({r with rv:=i.bN},40)
 else if i.op=9∨i.op=10 then
  (if 16≤iE r i.b then(r,44)
   else if i.op=9 then(gV r i.a (r.roots.getD (iE r i.b).toNat 0),0)
   else if aC9-r.writes<bV i.op then(r,42)
   else({r with writes:=r.writes+bV i.op,roots:=r.roots.set (iE r i.b).toNat (iE r i.a)},0))
 else if i.op=11∨i.op=12∨i.op=13∨i.op=14 then(r,44)
 else if i.op=15 then(if aC9-r.writes<bV i.op then(r,42)else({r with writes:=r.writes+bV i.op},43))
 else if i.op=16 then(r,44)
 else(gV r i.a (reckon i r.aI args),0)
def step (aC9:Int)(args:List Int)(i:In)(r:R):R×Int:=act aC9 args i {r with pc:=r.pc+1}
def gA (fuel aC9:Int)(code:List In)(args:List Int)(roots:List Int):Nat→R→List Int×Int×Int
 |0,r=>(roots,41,0)
 |n+1,r=>
  let q:=step aC9 args (code.getD r.pc.toNat i0) {r with steps:=r.steps+1}
  if q.2≠0 then(roots,q.2,q.1.rv)
  else if q.1.ended then(q.1.roots,0,q.1.rv)
  else gA fuel aC9 code args roots n q.1
def run (c:cA)(code:List In)(args roots:List Int):List Int×Int×Int:=
 if right code then gA c.f c.w code args roots c.f.toNat ⟨roots,List.replicate 16 0,0,0,0,0,false⟩else(roots,30,0)
end Go.aS.Mo
namespace Go.aS.Or
open Go.aS.Y Go.aS.I_ Go.aS.Z
def find (aM:List Rec)(aw tag:Int):Int:=
 match aM.findIdx? (λr=>decide (r.aw=aw∧r.tag=tag))with
 |some i=>i
 |none=> -1
def recAt (aM:List Rec)(k:Int):Rec:=aM.getD k.toNat Hm
def vx (aM:List Rec):List Row→List (Int×Int)→Int→Int
 |[],seen,_=>if aM.all (λr=> !r.done||decide ((r.aw,r.tag)∈seen))then 0 else 4
 |x::l,seen,last=>
  if find aM x.aw x.tag<0 then 4
  else if(x.aw,x.tag)∈seen then 5
  else if x.at_<last∨x.at_<(recAt aM (find aM x.aw x.tag)).from_∨((recAt aM (find aM x.aw x.tag)).done=true∧(recAt aM (find aM x.aw x.tag)).NN<x.at_)then 50
  else if(recAt aM (find aM x.aw x.tag)).done=true∧¬(x.rc=(recAt aM (find aM x.aw x.tag)).rc∧x.rv=(recAt aM (find aM x.aw x.tag)).rv)then 51
  else vx aM l ((x.aw,x.tag)::seen) x.at_
def fits (aM:List Rec)(rows:List Row):Int:=vx aM rows [] 0
def ins (x:Row):List Row→List Row
 |[]=> [x]
 |y::l=>if x.at_<y.at_ then x::y::l else y::ins x l
def sort (rows:List Row):List Row:=rows.foldl (λl x=>ins x l) []
def AK (x):∀l,(ins x l).Perm (x::l)
 |[]=> .refl _
 |y::l=>by
  unfold ins;split
  ·exact .refl _
  ·exact((AK x l).cons y).trans (.swap x y l)
def AL:∀(rows acc:List Row),(rows.foldl (λl x=>ins x l) acc).Perm (acc++rows)
 |[],acc=>by simp
 |x::rows,acc=>by
  rw[List.foldl_cons];refine(AL rows (ins x acc)).trans ?_;refine((AK x acc).append_right rows).trans ?_;exact List.perm_middle.symm
def kx (rows):(sort rows).Perm rows:=AL rows []
def Up (l:List Row):Prop:=l.Pairwise (λa b=>a.at_≤b.at_)
def aD1 (x):∀l,Up l→Up (ins x l)
 |[],_=>by unfold ins Up;simp
 |y::l,h=>by
  unfold Up at h;rw[sm]at h;unfold ins Up;split
  ·rename_i e;rw[sm,sm];refine⟨λz hz=>?_,h.1,h.2⟩;rcases oG.1 hz with rfl|hz
   ·omega
   ·have:=h.1 z hz;omega
  ·rename_i e;rw[sm];refine⟨λz hz=>?_,aD1 x l h.2⟩;rcases oG.1 ((AK x l).mem_iff.1 hz)with rfl|hz
   ·omega
   ·exact h.1 z hz
def aA8:∀(rows acc:List Row),Up acc→Up (rows.foldl (λl x=>ins x l) acc)
 |[],acc,h=>h
 |x::rows,acc,h=>by rw[List.foldl_cons];exact aA8 rows _ (aD1 x acc h)
def aK2 (rows):Up (sort rows):=aA8 rows [] (by unfold Up;simp)
