/- A part of the proof. -/
import Derived.Deep.CutRange
import Derived.Test.YtolkmchicplaoaaGreatG14
set_option linter.all false
set_option maxHeartbeats 16000000
set_option maxRecDepth 100000
open Go.Proofs.Tryz
namespace Go.Proofs.YtolkmchicplaoaaGreat
open Go.RowKit Go.aS Go.aS.I_ Go.aS.Y Go.Maps Go.aS.C
def Nq (w):Calls Tryz.prog 29 #[] w λr w'=>r= .returned (.slice (some ⟨w.heap.size,0,none⟩) 5 5)∧w'=w.alloc (.cells (flat gl countP).toArray 28):=by
 go_wp2;go_ret;exact⟨rfl,rfl⟩
def Wi:K.Call:=⟨0,[0,0,0,0]⟩
def xz:List (List K.Call):=[[Wi],[Wi,Wi]]
def al0 (s:Z.St):Z.St:=(Z.pick cS [countP] 1 (Z.pick cS [countP] 0 s).1).1
def L3:Nat→Z.St→Z.St
 |0,s=>s
 |n+1,s=>L3 n (al0 s)
def al1:Z.St:=L3 200 (Z.new cS xz)
def aa4 (c:Y.cA)(m:M)(e:Ev):Bool:=
 decide (C.err m.cells.length e.aw e.op=0)&&decide (m.told e.aw e.op=e.out)&&decide ((Jg c e.op.a).1≠16)&&decide (0≤e.op.nv∧e.op.nv≤18446744073709551615)&&(!(χ c e)||(decide (0≤(uC c (m.step e.aw e.op) 5 (e.op.nv%c.t) 0).1)&&Kn c (m.step e.aw e.op) (e.op.nv%c.t)))
def Wj (c:Y.cA):M→List Ev→Bool
 |_,[]=>true
 |m,e::l=>aa4 c m e&&Wj c (m.step e.aw e.op) l
def Wk {c m}{e:Ev}(h:aa4 c m e=true):Ko c m e:=by
 unfold aa4 at h;simp only[eO,gG,Bool.or_eq_true,Bool.not_eq_true']at h;obtain⟨⟨⟨⟨h1,h2⟩,h3⟩,h4⟩,h5⟩:=h;refine⟨h1,h2,h3,h4,λe2=>?_,λe2=>?_⟩
 ·rcases h5 with h5|h5
  ·rw[e2]at h5;cases h5
  ·exact h5.1
 ·rcases h5 with h5|h5
  ·rw[e2]at h5;cases h5
  ·exact h5.2
def Kr {c}:∀(l:List Ev) {m:M},Wj c m l=true→Gn c m l
 |[],_,_=>trivial
 |e::l,m,h=>by
  unfold Wj at h;rw[eO]at h;exact⟨Wk h.1,Kr l h.2⟩
def av1:List Z.Rec:=[⟨0,1,Wi,1,99,50,true,0,1⟩,⟨1,1,Wi,2,107,57,true,0,2⟩,⟨1,2,Wi,108,144,37,true,0,3⟩]
def av2:List Z.Row:=[⟨69,0,1,0,1,[]⟩,⟨69,1,1,0,2,[]⟩,⟨135,1,2,0,3,[]⟩]
def aC8:MI av1 av2:=⟨by decide,by decide,λi hi=>match i,hi with
 |0,_=>⟨rfl,rfl,rfl,0,by decide,rfl,rfl⟩
 |1,_=>⟨rfl,rfl,rfl,1,by decide,rfl,rfl⟩
 |2,_=>⟨rfl,rfl,rfl,2,by decide,rfl,rfl⟩⟩
def aa6 (s:Z.St):Prop:=s.aM=av1∧Or.sort s.rows=av2∧j7 cS s.mem=z3 3∧Km cS s.mem=true∧0≤(uC cS s.mem 0 0 0).1∧uC cS s.mem 4 ((uC cS s.mem 0 0 0).1%cS.t) 0≠(1,(uC cS s.mem 0 0 0).2)∧(s.mem.cells.length:Int)=Y.size cS∧s.mem.trace.length≤1000∧Wj cS (H.ju cS) s.mem.trace=true∧2≤o6 cS s.mem.trace 0∧o6 cS s.mem.trace 0≤1000
instance (s:Z.St):Decidable (aa6 s):=by unfold aa6;infer_instance
def ab3:aa6 al1:=by decide+kernel
def Kt {c}(aE:Y.Ok c)(sZ:0≤c.fi):∀k:Nat,(k:Int)≤c.b→∀p∈jJ c k,W.U_ p.1∧W.U_ p.2
 |0,_,p,hp=>by
  have hb:=aE.nZ;have hl:=aE.l47;have o_:=aE.fl;have nU:=aE.b1;unfold jJ zq at hp;rcases k_ hp with hp|rfl
  ·rcases k_ hp with hp|rfl
   ·rw[zb hp];exact⟨K.u0,K.u0⟩
   ·exact⟨K.u0,by unfold W.U_;dsimp only;omega⟩
  ·exact⟨by unfold W.U_;dsimp only;omega,K.u0⟩
 |k+1,hk,p,hp=>by
  have hb:=aE.nZ;unfold jJ at hp;rcases k_ hp with hp|rfl
  ·exact Kt aE sZ k (by omega) p hp
  ·exact⟨by unfold W.U_;dsimp only;omega,K.u0⟩
def Jn {c}(aE:Y.Ok c):(H.ju c).at 0=(0,c.fi):=by
 obtain⟨r0,r1,r2,r3,r4,r5,r6,r7,r8,r9,u6,tF,tG⟩:=row aE;have h:∀k,(jJ c k).getD 0 (0,0)=(0,c.fi):=by
  intro k;induction k with
  |zero=>
   unfold jJ zq;rw[cO,dF (by omega),eW (by rw[List.length_replicate];omega)];rfl
  |succ k ih=>
   unfold jJ;rw[cO,dF (by omega),←cO];exact ih
 exact h _
def SI.start {c}(aE:Y.Ok c)(sZ:0≤c.fi){ai calls}(hn:(calls.length:Int)=c.t)(hc:∀l∈calls,∀x∈l,jr x):SI c ai c.fi (Z.new c calls):=by
 have sg:=aE.t8;have nU:=aE.b1;refine⟨⟨iu _,by show(0:Int)≤_;omega⟩,λp hp=>Kt aE sZ _ (by omega) p hp,?_,iu _,?_,iu _,iu _,λr hr=>(by cases hr),λr hr=>(by cases hr),?_⟩
 ·show((H.ju c).at 0).2≤c.fi+0;rw[Jn aE];show c.fi≤_;omega
 ·show(calls.map _).length≤8;rw[dD];omega
 ·intro t u hu;have hu:(calls.map (λl=>(⟨l,none,0,0,0⟩:Z.Th)))[t]?=some u:=hu;rw[jE]at hu;cases hl:calls[t]? with
  |none=>rw[hl]at hu;cases hu
  |some l=>
   rw[hl]at hu;obtain rfl:=eQ hu;exact⟨hc l (wz hl),⟨iu _,iu _⟩,λm k e=>by cases e⟩
def vZ {T:Type}{en:T→List Value}{n}(hn:∀x,(en x).length=n){w g}{ty:TypeId}{l}(h:cB w g ty (flat en l)):dB en n w (.slice (some ⟨g,0,none⟩) l.length l.length) l:=by
 refine⟨_,_,rfl,dp _,.inr ⟨⟨g,0,none⟩,rfl,h.lt,λi hi j u hu=>?_⟩⟩;have hj:j<n:=by rw[←hn l[i]];exact(dE.1 hu).1
 rw[Addr.add_lit,jF,h.cell,cI hn l i hi j hj];exact hu
def tD {w0 w R v L dY}(hn:dY.length=L.length)(h:Sep w0 w (aU 0 51 6 v L.length (mix j6 dY L)::cM (lY Z.Row.news dY L)::R)):xu w v dY L:=by
 refine⟨hn,?_,?_⟩
 ·have h1:=h.row 0 rfl;have hz:(dY.zip L).length=L.length:=by rw[nK,hn,Nat.min_self]
  rw[←hz]at h1;exact dB.kG (λp=>rfl) h1
 ·intro p hp;obtain⟨j,hj,rfl⟩:=qO hp;have mW:j<L.length:=by rw[nK]at hj;omega
  obtain⟨fp,hq⟩:=Sep.known (h.pull 1 rfl) (y5 Z.Row.news hn mW);obtain⟨la,lc,e⟩:=cY hq.2;exact⟨la,lc,by rw[uQ];exact e⟩
end Go.Proofs.YtolkmchicplaoaaGreat
namespace Go.Proofs.YtolkmchicplaoaaGreat
open Go.RowKit Go.aS Go.aS.I_ Go.aS.Y Go.Maps Go.aS.C
section
variable {P:Program} {ops:Array Oper} {Q:Exit→Act→World→Prop}
def AM {ks}{S:World→Prop}{N M}{aW:Array Bool}{a w}(i j l)
 (hB:(Region.ready .any ops aW==[i,j,l]&&rT ks i==2&&rT ks j==2&&rT ks l==2&&M==N+1)=true){oi oj ol:Oper}(wH:ops[i]?=some oi)(Ob:ops[j]?=some oj)(hol:ops[l]?=some ol)
 (h1:wpList P ops (Exit.then (λa' w'=>S w'∧jS P ops ks S Q N (iH [i] aW) a' w') (NoPanic Q)) [oi] a w)
 (h2:wpList P ops (Exit.then (λa' w'=>S w'∧jS P ops ks S Q N (iH [j] aW) a' w') (NoPanic Q)) [oj] a w)
 (h3:wpList P ops (Exit.then (λa' w'=>S w'∧jS P ops ks S Q N (iH [l] aW) a' w') (NoPanic Q)) [ol] a w):jS P ops ks S Q M aW a w:=by
 simp only[eO,nY]at hB;obtain⟨⟨⟨⟨hr,rX⟩,SU⟩,fu⟩,rfl⟩:=hB;refine⟨λh0=>(by rw[hr]at h0;cases h0),λk hk=>?_⟩;rw[hr]at hk;rcases(show k=i∨k=j∨k=l by simpa using hk)with rfl|rfl|rfl
 ·rw[aq (by rw[rX];omega)];exact lL (λa' w' hh=>⟨λ_=>hh.1,hh.2⟩) (gH wH h1)
 ·rw[aq (by rw[SU];omega)];exact lL (λa' w' hh=>⟨λ_=>hh.1,hh.2⟩) (gH Ob h2)
 ·rw[aq (by rw[fu];omega)];exact lL (λa' w' hh=>⟨λ_=>hh.1,hh.2⟩) (gH hol h3)
end
def cB.Sm {w:World}{T:TypeId}{cs:List Value}{k:Nat}(h:k=w.heap.size):cB (w.alloc (.cells cs.toArray T)) k T cs:=by subst h;exact cB.new _ _ _
def N8:List Value:=[I 2,I 3,I 20,I 50,U 5,U 99]
def au2 {g W}{ty:TypeId}{p0}(h:cB W g ty [p0]):dB (λv=> [v]) 1 W (.slice (some ⟨g,0,none⟩) 1 1) [p0]:=vZ (en:=λv=> [v]) (n:=1) (l:=[p0]) (λ_=>rfl) h
def al2 {g W}{ty:TypeId}{p0 p1}(h:cB W g ty [p0,p1]):dB (λv=> [v]) 1 W (.slice (some ⟨g,0,none⟩) 2 2) [p0,p1]:=vZ (en:=λv=> [v]) (n:=1) (l:=[p0,p1]) (λ_=>rfl) h
def Sn {W BO AV}(fL:cB W BO 29 [.slice (some ⟨AV,0,none⟩) 5 5])(yx:cB W AV 28 (flat gl countP)):cL W (.slice (some ⟨BO,0,none⟩) 1 1) [.slice (some ⟨AV,0,none⟩) 5 5] [countP]:=
 ⟨au2 fL,rfl,λk hk=>by
  obtain rfl:k=0:=by simpa using hk
  show dJ W (.slice (some ⟨AV,0,none⟩) 5 5) countP;exact⟨vZ (l:=countP) yT yx,by decide,by decide⟩,by decide⟩
def al3 {W BO Pu AV Eh g25}(fL:cB W BO 29 [.slice (some ⟨AV,0,none⟩) 5 5])(h26:cB W Pu 35 [.slice (some ⟨Eh,0,none⟩) 1 1,.slice (some ⟨g25,0,none⟩) 2 2])(yx:cB W AV 28 (flat gl countP))(PM:cB W Eh 38 (flat iw [Wi]))(h25:cB W g25 38 (flat iw [Wi,Wi])):
 Calls Tryz.prog 28 #[db cS,.slice (some ⟨BO,0,none⟩) 1 1,.slice (some ⟨Pu,0,none⟩) 2 2] W λr w'=>∃b,r= .returned (.tuple #[O b,I 0])∧Sep W w' [dx cS [countP] b (Z.new cS xz)]:=by
 refine Gl DA (Sn fL yx) (calls:=xz) (wi:=[.slice (some ⟨Eh,0,none⟩) 1 1,.slice (some ⟨g25,0,none⟩) 2 2]) ⟨al2 h26,rfl,λk hk=>?_⟩ (by decide) rfl (by decide);have uV:k<2:=hk;obtain rfl|rfl:k=0∨k=1:=by omega
 ·exact vZ (en:=iw) (n:=5) (l:=[Wi]) (λ_=>rfl) PM
 ·exact vZ (en:=iw) (n:=5) (l:=[Wi,Wi]) (λ_=>rfl) h25
def piS:PI [countP]:=⟨λcode h=> .inl (jO.1 h),by decide,by decide⟩
def siS:SI cS [countP] 5 (Z.new cS xz):=SI.start DA (by decide) rfl (by unfold jr W.U_;decide)
def So {w0 w R cs t b mb pv H}(hE:SH cs mb pv H)(hS:Sep w0 w (aJ b 106 (H++t)::R)):
 ba 18 #[O b] w (O mb):=by
 have f24:=(hS.ar 0 rfl).fM hE.len 24 rfl hE.mem;have HF:=aa (Fr.refl [] w);clear hS hE;delta ba;go_in;go_wp2;go_ret;exact⟨rfl,HF.out⟩
def Nr(w):ba 7 #[] w (.bool true):=by
 have Bq:=aa (λw=>Nq w);have HS:=aa ((Sep.nil (Fr.refl [] w)).new 31 N8);have Sp:∀z∈N8,z.oneCell'=true:=by simp[N8,Value.oneCell']
 unfold N8 at HS Sp;delta ba;go_in;go_wp2_with(refine dV 31 _ _ rfl _ _ rfl rfl rfl (by kernel_rfl) rfl (iX Sp) ?_);generalize World.alloc _ _=w1 at*;generalize w.heap.size=cb at*;clear Sp;simp only[Act.put];go_cut [2,3]from 17 to 29 (λv2 v3 wx=>∃b,v2=O b∧v3=I 0∧Sep w wx [dx cS [countP] b (Z.new cS xz),aJ cb 31 N8])
 case' first=>skip
 refine ?Z
 case' rest=>skip
 refine ?Y
 case' Y=>obtain⟨b,rfl,rfl,hS⟩:=hcut;clear HS;have HS:=aa hS;clear hS;obtain⟨E_,hE⟩:∃E_,al1=E_:=⟨_,rfl⟩;have HE:=aa (show aa6 E_ from hE▸ab3);have HIT:=aa (show L3 200 (Z.new cS xz)=E_ from hE);clear hE;have HNM:=aa (λw=>E5 w);have HPI:=aa (λw' (s:Z.St) (t:Int) (hI:SI cS [countP] 5 s) (h:Sep w w' [dx cS [countP] b s,aJ cb 31 N8])=>AJ DA piS (n0:=5) (by decide) hI t h);go_wp2_with fail;refine(HNM.out _).mono ?_;rintro r w2 ⟨sb,rfl,hf⟩;have HS:=aa (HS.c_ hf.fr);clear hf;go_wp2_with fail
 case' Y=>
  go_loopg [40] 200 (λg vi wr=>∃(j:Nat) (s:Z.St),g+j=200∧vi=I (j:Int)∧SI cS [countP] 5 s∧L3 g s=E_∧Sep w wr [dx cS [countP] b s,aJ cb 31 N8])
  case' atStart=>skip
  refine ?X
  case' round=>skip
  refine ?J
 case' J=>clear HS HIT;obtain⟨j,s,yy,rfl,hI,Uu,hS⟩:=hrel;have HS:=aa hS;clear hS
 case' J=>by_cases hj:j<200;refine ?G;rotate_left;refine ?D
 case' Z=>have HD:=HS.drew;have hm:=(HD.ar 0 rfl).range;refine gR ([1,2,4,7,8],[9]) [] (by kernel_rfl) ?_;refine gS (N:=11) [0,3,5,6] (by kernel_rfl) ⟨⟨_,Fr.refl _ _⟩,rfl⟩ ?_
 case' D=>
  obtain rfl:j=200:=by omega
  obtain rfl:gk=0:=by omega
  have Wn:s=E_:=Uu;subst Wn;obtain⟨hrE,hwE,hRT,hNO,hNW,hOP,hLN,hTR,hAO,eG,du⟩:=HE.out;have Kl:=aa hrE;have Qc:=aa hwE;have HAO:=aa (Kr _ hAO);have TP:s.aM.length=3:=by rw[hrE];rfl
  have hw3:(Or.sort s.rows).length=3:=by rw[hwE];rfl
  have YW:s.rows.length=3:=(Or.kx s.rows).length_eq.symm.trans hw3;have UO:=aa hw3;have HN3:=aa TP;have aD0:=aa (And.intro eG du);have HHO:=aa (λw' (R:List a_) (mb:Nat) (h:Sep w w' (dP mb s.mem::R))=>Si (w0:=w) (w:=w') DA hLN (by omega) hNW hOP hNO h);simp only[hRT]at HHO;have Sq:=aa hTR;have Qd:=aa (λw' (h:Sep w w' [dx cS [countP] b s,aJ cb 31 N8])=>xo (by omega) h);have Q9:=aa (λw' (R:List a_) (h:Sep w w' (dx cS [countP] b s::R))=>CC hI (vR (by omega)) (by omega) h);clear hI Uu yy hj HPI HNM TP YW hw3 hrE hwE hRT hNO hNW hOP hLN hTR hAO eG du HE;go_wp2_with fail;refine(Qd.out _ HS.out).mono ?_;rintro r w5 ⟨iV,rfl,hF⟩;obtain⟨ra,rcc,rfl⟩:=hF.form;have HS:=aa (HS.fresh hF);clear hF;go_wp2_with fail;refine(Q9.out _ _ (HS.pull 1 rfl)).mono ?_;rintro r w6 ⟨iP,rfl,h6⟩;obtain⟨dY,kA,h7⟩:=jg h6;obtain⟨wa,wcp,rfl⟩:=h7.form 0 rfl;have HS:=aa h7;clear h6 h7;have xT:=aa (λw' (R:List a_) hA hW (h:Sep w w' R)=>Ns (aM:=s.aM) (rows:=Or.sort s.rows) (w0:=w) (w:=w') (R:=R) (iV:= .slice ra s.aM.length rcc) (v:= .slice wa (Or.sort s.rows).length wcp) (dY:=dY) (by have:=HN3.out;omega) (by have:=UO.out;omega) hA hW (by rw[Qc.out];unfold RP GP;decide) (by rw[Kl.out];unfold RQ GP;decide) (by rw[Qc.out,Kl.out];decide) h);go_wp2_with fail;refine(xT.out _ _ (λw' h=>dB.kG jD (h.row 3 rfl)) (λw' h=>tD kA h) HS.out).mono ?_;rintro r w7 ⟨n7,rfl,h7⟩;have HS:=aa h7;clear h7 xT;go_wp2_with fail;have HD:=HS.drew;have hm:=(HD.ar 4 rfl).range;unfold N8 at hm;refine gR ([1,2],[5]) [] (by kernel_rfl) ?_;refine gS (N:=10) [0,3,4] (by kernel_rfl) ⟨⟨_,Fr.refl _ _⟩,rfl⟩ ?_
 case' Z|D=>
  simp only[zz];repeat(first|(refine ak 31 _ cb 0 [I 2,I 3,I 20,I 50,U 5,U 99] _ rfl rfl rfl (aG hm (by simp)) underlying31 rfl (by kernel_rfl) ?_;simp only[Act.put,aZ,zs])|go_big_quiet_step (fail)|quiet_step (fail))
  refine ax ?_;clear hm;have HS:=aa HD;clear HD;generalize World.drew _=wd at HS⊢
 case' D=>have HS:=aa (HS.new 28 (flat gl countP));have HS:=aa (HS.new 29 [.slice (some ⟨wd.heap.size,0,none⟩) 5 5]);simp only[cG]at HS
 case' Z=>
  refine AM (N:=10) 1 4 7 (by kernel_rfl) rfl rfl rfl ?_ ?_ ?_;rotate_left 3;all_goals go_wp2_with fail
  all_goals(try (refine(Bq.out _).mono ?_;rintro r w9 ⟨rfl,rfl⟩;go_wp2_with fail))
  all_goals refine⟨⟨⟨_,(by repeat(first|exact Fr.refl _ _|refine Fr.alloc ?_ _))⟩,rfl⟩,?_⟩
  refine AM (N:=9) 2 4 7 (by kernel_rfl) rfl rfl rfl ?_ ?_ ?_;rotate_left 3;refine dN (N:=9) 1 7 (by kernel_rfl) rfl rfl ?_ ?_;rotate_left 2;refine dN (N:=9) 1 4 (by kernel_rfl) rfl rfl ?_ ?_;rotate_left 2;all_goals go_wp2_with fail
  all_goals(try (refine(Bq.out _).mono ?_;rintro r w9 ⟨rfl,rfl⟩;go_wp2_with fail))
  all_goals refine⟨⟨⟨_,(by repeat(first|exact Fr.refl _ _|refine Fr.alloc ?_ _))⟩,rfl⟩,?_⟩
  refine dN (N:=8) 4 7 (by kernel_rfl) rfl rfl ?_ ?_;rotate_left 2;refine dN (N:=8) 2 7 (by kernel_rfl) rfl rfl ?_ ?_;rotate_left 2;refine dN (N:=8) 2 4 (by kernel_rfl) rfl rfl ?_ ?_;rotate_left 2;refine dN (N:=8) 2 7 (by kernel_rfl) rfl rfl ?_ ?_;rotate_left 2;refine dN (N:=8) 1 8 (by kernel_rfl) rfl rfl ?_ ?_;rotate_left 2;refine dN (N:=8) 2 4 (by kernel_rfl) rfl rfl ?_ ?_;rotate_left 2;refine dN (N:=8) 1 8 (by kernel_rfl) rfl rfl ?_ ?_;rotate_left 2;all_goals go_wp2_with fail
  all_goals(try (refine(Bq.out _).mono ?_;rintro r w9 ⟨rfl,rfl⟩;go_wp2_with fail))
  all_goals refine⟨⟨⟨_,(by repeat(first|exact Fr.refl _ _|refine Fr.alloc ?_ _))⟩,rfl⟩,?_⟩
  refine bA (N:=7) 7 (by kernel_rfl) rfl ?_;rotate_left 1;refine bA (N:=7) 4 (by kernel_rfl) rfl ?_;rotate_left 1;refine bA (N:=7) 7 (by kernel_rfl) rfl ?_;rotate_left 1;refine dN (N:=7) 2 8 (by kernel_rfl) rfl rfl ?_ ?_;rotate_left 2;refine bA (N:=7) 4 (by kernel_rfl) rfl ?_;rotate_left 1;refine dN (N:=7) 2 8 (by kernel_rfl) rfl rfl ?_ ?_;rotate_left 2;refine bA (N:=7) 7 (by kernel_rfl) rfl ?_;rotate_left 1;refine dN (N:=7) 2 8 (by kernel_rfl) rfl rfl ?_ ?_;rotate_left 2;refine dN (N:=7) 2 8 (by kernel_rfl) rfl rfl ?_ ?_;rotate_left 2;refine bA (N:=7) 1 (by kernel_rfl) rfl ?_;rotate_left 1;refine bA (N:=7) 4 (by kernel_rfl) rfl ?_;rotate_left 1;refine dN (N:=7) 2 8 (by kernel_rfl) rfl rfl ?_ ?_;rotate_left 2;refine dN (N:=7) 2 8 (by kernel_rfl) rfl rfl ?_ ?_;rotate_left 2;refine bA (N:=7) 1 (by kernel_rfl) rfl ?_;rotate_left 1;all_goals go_wp2_with fail
  all_goals(try (refine(Bq.out _).mono ?_;rintro r w9 ⟨rfl,rfl⟩;go_wp2_with fail))
  all_goals refine⟨⟨⟨_,(by repeat(first|exact Fr.refl _ _|refine Fr.alloc ?_ _))⟩,rfl⟩,?_⟩
  refine bA (N:=6) 8 (by kernel_rfl) rfl ?_;rotate_left 1;refine bA (N:=6) 8 (by kernel_rfl) rfl ?_;rotate_left 1;refine bA (N:=6) 8 (by kernel_rfl) rfl ?_;rotate_left 1;refine bA (N:=6) 8 (by kernel_rfl) rfl ?_;rotate_left 1;refine bA (N:=6) 2 (by kernel_rfl) rfl ?_;rotate_left 1;refine bA (N:=6) 8 (by kernel_rfl) rfl ?_;rotate_left 1;refine bA (N:=6) 8 (by kernel_rfl) rfl ?_;rotate_left 1;refine bA (N:=6) 2 (by kernel_rfl) rfl ?_;rotate_left 1;refine bA (N:=6) 8 (by kernel_rfl) rfl ?_;rotate_left 1;refine bA (N:=6) 8 (by kernel_rfl) rfl ?_;rotate_left 1;refine bA (N:=6) 2 (by kernel_rfl) rfl ?_;rotate_left 1;refine bA (N:=6) 8 (by kernel_rfl) rfl ?_;rotate_left 1;refine bA (N:=6) 2 (by kernel_rfl) rfl ?_;rotate_left 1;refine bA (N:=6) 2 (by kernel_rfl) rfl ?_;rotate_left 1;refine bA (N:=6) 8 (by kernel_rfl) rfl ?_;rotate_left 1;refine bA (N:=6) 8 (by kernel_rfl) rfl ?_;rotate_left 1;refine bA (N:=6) 2 (by kernel_rfl) rfl ?_;rotate_left 1;refine bA (N:=6) 8 (by kernel_rfl) rfl ?_;rotate_left 1;refine bA (N:=6) 2 (by kernel_rfl) rfl ?_;rotate_left 1;refine bA (N:=6) 2 (by kernel_rfl) rfl ?_;rotate_left 1;all_goals go_wp2_with fail
  all_goals(try (refine(Bq.out _).mono ?_;rintro r w9 ⟨rfl,rfl⟩;go_wp2_with fail))
  all_goals refine⟨⟨⟨_,(by repeat(first|exact Fr.refl _ _|refine Fr.alloc ?_ _))⟩,rfl⟩,?_⟩
  all_goals(refine dK (N:=5) 9 (by kernel_rfl) rfl ?_)
  all_goals go_wp2_with fail
  all_goals(refine(al3 (by repeat(first|exact cB.Sm (by simp)|refine cB.alloc ?_ _)) (by repeat(first|exact cB.Sm (by simp)|refine cB.alloc ?_ _)) (by repeat(first|exact cB.Sm (by simp)|refine cB.alloc ?_ _)) (by repeat(first|exact cB.Sm (by simp)|refine cB.alloc ?_ _)) (by repeat(first|exact cB.Sm (by simp)|refine cB.alloc ?_ _))).mono ?_)
  all_goals(rintro r w8 ⟨b,rfl,h8⟩)
  all_goals(have kI:=aa ((HS.c_ (by repeat(first|exact Fr.refl _ _|refine Fr.alloc ?_ _))).fresh h8.jm))
  all_goals clear h8
  all_goals go_wp2_with fail
  all_goals(refine bP (N:=0) [10,11,12,13,14] (by kernel_rfl) ?_)
  all_goals(simp only[zz])
  all_goals(repeat(first|go_big_quiet_step (fail)|quiet_step (fail)))
  all_goals(refine ax ?_)
  all_goals(refine step_done (by kernel_rfl) ?_)
  all_goals go_wp2_with fail
  all_goals go_meet
  all_goals exact⟨b,rfl,rfl,kI.out⟩
 case' D=>
  refine bA (N:=9) 1 (by kernel_rfl) rfl ?_;all_goals go_wp2_with fail
  all_goals(try (refine(Bq.out _).mono ?_;rintro r w9 ⟨rfl,rfl⟩;go_wp2_with fail))
  all_goals refine⟨⟨⟨_,(by repeat(first|exact Fr.refl _ _|refine Fr.alloc ?_ _))⟩,rfl⟩,?_⟩
  refine bA (N:=8) 2 (by kernel_rfl) rfl ?_;all_goals go_wp2_with fail
  all_goals(try (refine(Bq.out _).mono ?_;rintro r w9 ⟨rfl,rfl⟩;go_wp2_with fail))
  all_goals refine⟨⟨⟨_,(by repeat(first|exact Fr.refl _ _|refine Fr.alloc ?_ _))⟩,rfl⟩,?_⟩
  refine dK (N:=7) 5 (by kernel_rfl) rfl ?_;go_wp2_with fail;refine(Gz (by rw[Qc.out,Kl.out];exact aC8) (λw1 h=>Sn (h.ar 0 rfl) (h.ar 1 rfl)) (λw1 h=>dB.kG jD (h.row 5 rfl)) (λw1 h=>tD kA h.tail.tail) HS.out).mono ?_;rintro r w9 ⟨s1,rfl,h9⟩;rw[show z3 ((Or.sort s.rows).length:Int)=z3 3 by rw[UO.out];rfl]at h9;have HS:=aa h9;clear h9;go_wp2;refine bP (N:=0) [6,7,8,9,10,11,12] (by kernel_rfl) ?_;simp only[zz];repeat(first|go_big_quiet_step (fail)|quiet_step (fail))
  refine ax ?_;refine step_done (by kernel_rfl) ?_;go_wp2_with fail;obtain⟨HH,mb,Xw,lZ,al5,BC,aA0,LQ,Lw,-,h5⟩:=kr (HS.pull 5 rfl);unfold Es at h5;have HS:=aa (h5.sub (NJ:=[rA s1 (z3 3),dP mb s.mem,aJ b 106 (HH++[lZ,I s.aK,al5,BC]),aU 0 51 6 (.slice wa (Or.sort s.rows).length wcp) (Or.sort s.rows).length (mix j6 dY (Or.sort s.rows)),aJ cb 31 N8]) [7,1,0,10,13] rfl (by decide));clear h5;have Tc:=aa (λw' (R:List a_) (h:Sep w w' (aJ b 106 (HH++[lZ,.int .i64 s.aK,al5,BC])::R))=>So (w0:=w) (w:=w') Lw h);clear Lw;have HD:=HS.drew;have hm:=(HD.ar 4 rfl).range;unfold N8 at hm;refine bW [(1,[0,1]),(2,[2]),(3,[3]),(0,[4,5,6,7,8])] (by kernel_rfl) ?_;simp only[zz];refine af ?_;repeat(first|(refine ak 31 _ cb 0 [I 2,I 3,I 20,I 50,U 5,U 99] _ rfl rfl rfl (aG hm (by simp)) underlying31 rfl (by kernel_rfl) ?_;simp only[Act.put,aZ,zs])|go_big_quiet_step (fail)|quiet_step (fail))
  refine ax ?_;refine aA ?_;go_wp2_with fail;refine(Tc.out _ _ (HD.pull 2 rfl)).kk λw9 hf=>?_;have HF:=aa hf;have HS:=aa (HD.c_ hf);clear hf HD hm;go_wp2;refine⟨⟨⟨_,(by exact HF.out)⟩,rfl⟩,?_⟩;refine ao ?_;go_wp2_with fail;refine(HHO.out _ _ _ (HS.pull 1 rfl)).mono ?_;rintro r Ov ⟨s2,rfl,oo⟩;have HS:=aa oo;clear oo HF;simp only[ze]at HS;go_wp2_with fail;repeat(first|go_big_quiet_step(fail)|quiet_step(fail)|apply ax|apply af|apply ag|apply ah)
  refine aj ?_;go_wp2_with fail;obtain⟨sn,US⟩:∃x,o6 cS s.mem.trace 0=x:=⟨_,rfl⟩;have z7:=aa US;have Qf:=aa (fun(w':World) vc vt (hM:gD w' mb vc vt s.mem)=>G6 w' mb vc vt s.mem hM (by have:=Sq.out;omega));have S8:Hid (∀(w':World) (v:Value) (_:dB kO 10 w' v s.mem.trace),ba 35 #[db cS,v] w' (.tuple #[.agg #[I sn,I 0,I 0],I 0,I 0])):=aa (λw' v hA=>by
   rw[←US];exact(Np DA (w0:=w') (R:=[]) (by have:=Sq.out;omega) (λw1 h=>hA.fr h.fr) HAO.out (Sep.nil (Fr.refl [] w'))).mono λr qe ⟨e,h⟩=>⟨e,h.fr⟩)
  clear US;go_cut [13,14,15]from 74 to 82 (λv13 v14 v15 wx=>∃rb,v13=O rb∧v14=I 0∧v15=I 0∧Sep w wx [aJ rb 98 [I sn,I 0,I 0],rA s2 (z3 3),rA s1 (z3 3),aU 0 51 6 (.slice wa (Or.sort s.rows).length wcp) (Or.sort s.rows).length (mix j6 dY (Or.sort s.rows))])
  case first=>
   have HD:=HS.drew;have hm:=(HD.ar 5 rfl).range;unfold N8 at hm;refine gR ([2,3,4,9],[10]) [] (by kernel_rfl) ?_;refine gS (N:=11) [0,1] (by kernel_rfl) ⟨⟨_,Fr.refl _ _⟩,rfl⟩ ?_;simp only[zz];repeat(first|(refine ak 31 _ cb 0 [I 2,I 3,I 20,I 50,U 5,U 99] _ rfl rfl rfl (aG hm (by simp)) underlying31 rfl (by kernel_rfl) ?_;simp only[Act.put,aZ,zs])|go_big_quiet_step (fail)|quiet_step (fail))
   refine ax ?_;clear hm;have HS:=aa HD;clear HD;generalize World.drew _=wd at HS⊢;have HF:=aa (Fr.refl [] wd);refine dN (N:=10) 2 9 (by kernel_rfl) rfl rfl ?_ ?_
   ·go_wp2_with fail;refine(Tc.out _ _ (HS.pull 3 rfl)).kk λw4 hf=>?_;have HF:=aa (HF.trans hf);have HS:=aa (HS.c_ hf);clear hf;go_wp2;refine⟨⟨⟨_,(by exact HF.out)⟩,rfl⟩,?_⟩;refine dN (N:=9) 3 9 (by kernel_rfl) rfl rfl ?_ ?_
    ·go_wp2_with fail;obtain⟨-,vc,vt,hM⟩:=kY HS.out 1 rfl;refine(Qf.out _ vc vt hM).mono ?_;rintro r w4 ⟨ev,rfl,hf⟩;have HF:=aa (HF.trans hf.fr);have HS:=aa (HS.fresh hf);clear hf hM;go_wp2;refine⟨⟨⟨_,(by exact HF.out)⟩,rfl⟩,?_⟩;refine dN (N:=8) 4 9 (by kernel_rfl) rfl rfl ?_ ?_
     ·go_wp2_with fail;refine(S8.out _ ev (dB.kG qg (HS.row 0 rfl))).kk λw5 pe=>?_;have HF:=aa (HF.trans pe);have HS:=aa (HS.c_ pe).tail;clear pe;go_wp2;refine⟨⟨⟨_,(by exact HF.out)⟩,rfl⟩,?_⟩;refine bP (N:=4) [5,6,7,8] (by kernel_rfl) ?_;simp only[zz];repeat(first|go_big_quiet_step (fail)|quiet_step (fail))
      refine ax ?_;refine bA (N:=3) 9 (by kernel_rfl) rfl ?_;go_wp2_with fail;have HF:=aa (HF.alloc (.cells #[I 0,I 0,I 0] 98));have HS:=aa (HS.new 98 [I 0,I 0,I 0]);have HS:=aa (HS.out);refine⟨⟨⟨_,(by exact HF.out)⟩,rfl⟩,?_⟩;refine dK (N:=2) 10 (by kernel_rfl) rfl ?_;go_wp2_with(refine aC HS.out 0 rfl [I sn,I 0,I 0] 98 _ _ rfl rfl rfl rfl rfl (by kernel_rfl) (by simp[Value.oneCell']) (λwA hA _=>?_);have HS:=aa hA;clear hA);refine bP (N:=0) [11,12] (by kernel_rfl) ?_;simp only[zz];repeat(first|go_big_quiet_step (fail)|quiet_step (fail))
      refine ax ?_;refine step_done (by kernel_rfl) ?_;try simp only[zs]at HS
      go_wp2
      go_meet
      exact⟨_,rfl,rfl,rfl,HS.sub [0,1,3,5] rfl (by decide)⟩
     ·go_wp2_with fail;have HF:=aa (HF.alloc (.cells #[I 0,I 0,I 0] 98));have HS:=aa (HS.new 98 [I 0,I 0,I 0]);have HS:=aa (HS.pull 1 rfl);refine⟨⟨⟨_,(by exact HF.out)⟩,rfl⟩,?_⟩;refine bA (N:=7) 4 (by kernel_rfl) rfl ?_;go_wp2_with fail;refine(S8.out _ ev (dB.kG qg (HS.row 0 rfl))).kk λw5 pe=>?_;have HF:=aa (HF.trans pe);have HS:=aa (HS.c_ pe).tail;clear pe;go_wp2;refine⟨⟨⟨_,(by exact HF.out)⟩,rfl⟩,?_⟩;refine bP (N:=3) [5,6,7,8] (by kernel_rfl) ?_;simp only[zz];repeat(first|go_big_quiet_step (fail)|quiet_step (fail))
      refine ax ?_;refine dK (N:=2) 10 (by kernel_rfl) rfl ?_;go_wp2_with(refine aC HS.out 0 rfl [I sn,I 0,I 0] 98 _ _ rfl rfl rfl rfl rfl (by kernel_rfl) (by simp[Value.oneCell']) (λwA hA _=>?_);have HS:=aa hA;clear hA);refine bP (N:=0) [11,12] (by kernel_rfl) ?_;simp only[zz];repeat(first|go_big_quiet_step (fail)|quiet_step (fail))
      refine ax ?_;refine step_done (by kernel_rfl) ?_;try simp only[zs]at HS
      go_wp2
      go_meet
      exact⟨_,rfl,rfl,rfl,HS.sub [0,1,3,5] rfl (by decide)⟩
    ·go_wp2_with fail;have HF:=aa (HF.alloc (.cells #[I 0,I 0,I 0] 98));have HS:=aa (HS.new 98 [I 0,I 0,I 0]);have HS:=aa ((HS.pull 2 rfl).pull 2 rfl);refine⟨⟨⟨_,(by exact HF.out)⟩,rfl⟩,?_⟩;refine bA (N:=8) 3 (by kernel_rfl) rfl ?_;go_wp2_with fail;obtain⟨-,vc,vt,hM⟩:=kY HS.out 1 rfl;refine(Qf.out _ vc vt hM).mono ?_;rintro r w4 ⟨ev,rfl,hf⟩;have HF:=aa (HF.trans hf.fr);have HS:=aa (HS.fresh hf);clear hf hM;go_wp2;refine⟨⟨⟨_,(by exact HF.out)⟩,rfl⟩,?_⟩;refine bA (N:=7) 4 (by kernel_rfl) rfl ?_;go_wp2_with fail;refine(S8.out _ ev (dB.kG qg (HS.row 0 rfl))).kk λw5 pe=>?_;have HF:=aa (HF.trans pe);have HS:=aa (HS.c_ pe).tail;clear pe;go_wp2;refine⟨⟨⟨_,(by exact HF.out)⟩,rfl⟩,?_⟩;refine bP (N:=3) [5,6,7,8] (by kernel_rfl) ?_;simp only[zz];repeat(first|go_big_quiet_step (fail)|quiet_step (fail))
     refine ax ?_;refine dK (N:=2) 10 (by kernel_rfl) rfl ?_;go_wp2_with(refine aC HS.out 2 rfl [I sn,I 0,I 0] 98 _ _ rfl rfl rfl rfl rfl (by kernel_rfl) (by simp[Value.oneCell']) (λwA hA _=>?_);have HS:=aa hA;clear hA);refine bP (N:=0) [11,12] (by kernel_rfl) ?_;simp only[zz];repeat(first|go_big_quiet_step (fail)|quiet_step (fail))
     refine ax ?_;refine step_done (by kernel_rfl) ?_;try simp only[zs]at HS
     go_wp2
     go_meet
     exact⟨_,rfl,rfl,rfl,HS.sub [2,0,3,5] rfl (by decide)⟩
   ·go_wp2_with fail;have HF:=aa (HF.alloc (.cells #[I 0,I 0,I 0] 98));have HS:=aa (HS.new 98 [I 0,I 0,I 0]);have HS:=aa ((HS.pull 2 rfl).pull 2 rfl);refine⟨⟨⟨_,(by exact HF.out)⟩,rfl⟩,?_⟩;refine bA (N:=9) 2 (by kernel_rfl) rfl ?_;go_wp2_with fail;refine(Tc.out _ _ (HS.pull 4 rfl)).kk λw4 hf=>?_;have HF:=aa (HF.trans hf);have HS:=aa (HS.c_ hf);clear hf;go_wp2;refine⟨⟨⟨_,(by exact HF.out)⟩,rfl⟩,?_⟩;refine bA (N:=8) 3 (by kernel_rfl) rfl ?_;go_wp2_with fail;obtain⟨-,vc,vt,hM⟩:=kY HS.out 1 rfl;refine(Qf.out _ vc vt hM).mono ?_;rintro r w4 ⟨ev,rfl,hf⟩;have HF:=aa (HF.trans hf.fr);have HS:=aa (HS.fresh hf);clear hf hM;go_wp2;refine⟨⟨⟨_,(by exact HF.out)⟩,rfl⟩,?_⟩;refine bA (N:=7) 4 (by kernel_rfl) rfl ?_;go_wp2_with fail;refine(S8.out _ ev (dB.kG qg (HS.row 0 rfl))).kk λw5 pe=>?_;have HF:=aa (HF.trans pe);have HS:=aa (HS.c_ pe).tail;clear pe;go_wp2;refine⟨⟨⟨_,(by exact HF.out)⟩,rfl⟩,?_⟩;refine bP (N:=3) [5,6,7,8] (by kernel_rfl) ?_;simp only[zz];repeat(first|go_big_quiet_step (fail)|quiet_step (fail))
    refine ax ?_;refine dK (N:=2) 10 (by kernel_rfl) rfl ?_;go_wp2_with(refine aC HS.out 2 rfl [I sn,I 0,I 0] 98 _ _ rfl rfl rfl rfl rfl (by kernel_rfl) (by simp[Value.oneCell']) (λwA hA _=>?_);have HS:=aa hA;clear hA);refine bP (N:=0) [11,12] (by kernel_rfl) ?_;simp only[zz];repeat(first|go_big_quiet_step (fail)|quiet_step (fail))
    refine ax ?_;refine step_done (by kernel_rfl) ?_;try simp only[zs]at HS
    go_wp2
    go_meet
    exact⟨_,rfl,rfl,rfl,HS.sub [2,0,3,5] rfl (by decide)⟩
  case rest=>
   obtain⟨rb,rfl,rfl,rfl,hS⟩:=hcut;clear HS S8 Qf Tc HHO;have HS:=aa hS;clear hS;have Cm:=aa (λw' (R:List a_) (h:Sep w w' (rA s1 (z3 3)::R))=>LG h 0 (by decide));have HSA:=aa (λw' (R:List a_) (h:Sep w w' (rA s2 (z3 3)::rA s1 (z3 3)::R))=>LO h);have US:sn=o6 cS s.mem.trace 0:=z7.out.symm;have El:=aD0.out;rw[←US]at El;have d3:((s.aM.length:Int)==3)=true:=by rw[HN3.out];rfl
   have d4:(((Or.sort s.rows).length:Int)==3)=true:=by rw[UO.out];rfl
   go_wp2_with fail;refine(Cm.out _ _ (HS.pull 2 rfl)).kq HS λw3 HS=>?_;rw[show(z3 3).getD 0 0=3 from rfl];go_wp2_with fail;refine(HSA.out _ _ HS.tail).kq HS λw4 HS=>?_;obtain⟨g,rfl⟩:∃g,wa=some ⟨g,0,none⟩:=by
    rcases bg (HS.row 3 rfl)with⟨e1,e2⟩|⟨gb,cap,e1,_⟩
    ·have:=UO.out;omega
    ·simp only[dk]at e1;exact⟨gb,e1.1⟩
   have h2l:2<(Or.sort s.rows).length:=by have:=UO.out;omega
   have Ir:((Or.sort s.rows)[2]'h2l).rv=3:=by
    simp only[Qc.out];rfl
   have q4:=aH (HS.row 3 rfl) (2*6+4) (U 3) (by
    rw[xh (en:=j6) (n:=6) (λ_ _=>rfl) kA h2l 4 (by decide),←Ir];rfl)
   simp only[Nat.reduceMul,Nat.reduceAdd]at q4;have h2i:(2:Int)<((Or.sort s.rows).length:Int):=by omega
   have hB:=HS.ar 0 rfl;have k0:=hB.cell 0;simp only[gn]at k0;have HF:=aa HS.fr;clear Ir hB;go_wp2;go_ret;exact⟨rfl,HF.out⟩
 case' X=>exact⟨0,_,rfl,rfl,siS,HIT.out,HS.out⟩
 have s9:(j:Int)<200:=by omega
 obtain⟨g,rfl⟩:∃g,gk=g+1:=⟨gk-1,by omega⟩;have zF:L3 g (al0 s)=E_:=Uu;go_wp2_with fail;refine(HPI.out _ s 0 hI HS.out).mono ?_;rintro r w3 ⟨rfl,uH,h3⟩;have HS:=aa h3;clear h3;go_wp2_with fail;refine(HPI.out _ _ 1 uH HS.out).mono ?_;rintro r w4 ⟨rfl,hI3,h4⟩;have HS:=aa h4;clear h4;go_wp2;go_roundg g
 case measure=>omega
 case rel=>exact⟨j+1,_,by omega,by go_num,hI3,zF,HS.out⟩
