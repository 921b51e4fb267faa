/- A part of the proof. -/
import Derived.Test.YtolkmchicplaoaaGreatG16
set_option linter.all false
open Go.Proofs.Tryz
namespace Go.Proofs.YtolkmchicplaoaaGreat
open Go.RowKit Go.aS Go.aS.I_ Go.aS.Y
def aO4 (c:Y.cA)(g:ag3)(M:C.M)(t:Int)(y:B.St):ag3:=⟨λu=>(Kx y.rows u).getD (g.D u),λu=>if u=t then(now M).2+1 else g.L u,B.entries c y⟩
structure Win (c:Y.cA)(ai:List (List In))(g:ag3)(M:C.M)(rs:List (Int×Int))(me:K.Me)(k:K.St)(M':C.M)(k2:K.St)(y:B.St):Prop where
 nx:k.next=11
 eV:k2.eV=true
 Ex:k2.next=12
 b2:k2.b=some y
 bi:BI c ai y
 aA3:BJ c y
 s1:y.s=1
 bm:ae6 c g M rs y
 own:∃r∈y.rows,r.aw=me.aw
 n:(now M).2<c.la
 aP5:ag2 c (aO4 c g M me.aw y) M'
 mv:sV c me.aw g (aO4 c g M me.aw y) M M'
 nw:now M'=(me.aw,(now M).2+1)
 tk:∀QK,ap0 c ai (aO4 c g M me.aw y) M' QK me k2
 zI:∀u,0≤u→u<c.t→M'.cl (at_ c 1 u 0)=M.cl (at_ c 1 u 0)
 ns:k.ns=(now M).2
 kb:k.b=some y
 aB1:busy c M'
 nbz:¬busy c M
abbrev Ze (c:Y.cA)(ai:List (List In))(g:ag3)(M:C.M)(rs:List (Int×Int))(me:K.Me)(op:C.BU)(k2:K.St):Prop:=
 ag2 c g (M.step me.aw op)∧sV c me.aw g g M (M.step me.aw op)∧aT0 c ai g (M.step me.aw op) rs me k2∧¬(op.a=0∧op.k=2∧(M.told me.aw op).ok=true)∧((M.step me.aw op).cl (at_ c 1 me.aw 0)=M.cl (at_ c 1 me.aw 0)∨((M.step me.aw op).cl (at_ c 1 me.aw 0)).2=me.tag)
def Out (c:Y.cA)(ai:List (List In))(g:ag3)(M:C.M)(rs:List (Int×Int))(me:K.Me)(k:K.St)(op:C.BU)(k2:K.St):Prop:=
 C.err M.cells.length me.aw op=0∧k2.fresh=decide (k.next=2)∧(Ze c ai g M rs me op k2∨∃y,Win c ai g M rs me k (M.step me.aw op) k2 y)
section
variable {c:Y.cA} {ai:List (List In)} {g:ag3} {M:C.M} {rs:List (Int×Int)} {me:K.Me} {k:K.St}
def NA (aE:Y.Ok c){u j}(h0:0≤u)(h1:u<c.t)(j0:0≤j)(j1:j<4):Is c 2 u j:=by
 unfold Is cr aP each;refine⟨h0,?_,j0,?_⟩
 ·repeat' split
  all_goals omega
 ·repeat' split
  all_goals omega
def Out.quiet (aE:Y.Ok c)(hw:0≤me.aw∧me.aw<c.t)(hg:ag2 c g M){N op k2}(nf:KI c ai me N k2)(e1:C.err M.cells.length me.aw op=0)(hs:nB c M (M.step me.aw op))(hf:k2.fresh=decide (k.next=2))(hF:aT0 c ai g M rs me k2)(kL:¬(op.a=0∧op.k=2∧(M.told me.aw op).ok=true)):Out c ai g M rs me k op k2:=by
 obtain⟨a1,a2,a3⟩:=hF.same aE hw nf hg hs;exact⟨e1,hf,.inl ⟨a1,a2,a3,kL,.inl (hs.at_ aE (a9 aE (by omega) hw.1 hw.2) (by decide) (by decide) (by decide))⟩⟩
def nz (aE:Y.Ok c)(hw:0≤me.aw∧me.aw<c.t)(hg:ag2 c g M){a}(a0:0≤a)(a1:a<size c):C.err M.cells.length me.aw ⟨0,a,0,0,0,0⟩=0∧nB c M (M.step me.aw ⟨0,a,0,0,0,0⟩)∧(M.told me.aw ⟨0,a,0,0,0,0⟩).v=(M.cl a).1∧(M.told me.aw ⟨0,a,0,0,0,0⟩).s=(M.cl a).2:=by
 have sg:=aE.t8;have hl:=hg.len;have e:=BD (n:=M.cells.length) (aw:=me.aw) (op:=⟨0,a,0,0,0,0⟩) hw.1 (by omega) (by dsimp only;omega) (by dsimp only;omega) a0 (by dsimp only;omega);exact⟨e,Ch rfl,by rw[C.uq e];rfl,by rw[C.uq e];rfl⟩
def Ed {a:Int}{b:Bool}:¬(a=0∧(0:Int)=2∧b=true):=λe=>absurd e.2.1 (by decide)
def Fa {a:Int}{b:Bool}:¬(a=0∧(1:Int)=2∧b=true):=λe=>absurd e.2.1 (by decide)
def WB (aE:Y.Ok c)(hw:0≤me.aw∧me.aw<c.t)(hg:ag2 c g M){N}(hK:KI c ai me N k)(h:ap0 c ai g M rs me k)(e0:k.next=0)(nf:KI c ai me (N+1) (K.tell c ai me (Z.o3 (M.told me.aw (Z.nN (K.ask c me k).1))) k)):Out c ai g M rs me k (Z.nN (K.ask c me k).1) (K.tell c ai me (Z.o3 (M.told me.aw (Z.nN (K.ask c me k).1))) k):=by
 have sg:=aE.t8;have hl:=hg.len;have Xj:=hK.given;have ZW:=hK.g0 e0;have ea:(K.ask c me k).1=⟨1,at_ c 2 me.aw k.given,0,0,me.call.args.getD k.given.toNat 0,0⟩:=by unfold K.ask;rw[aB e0]
 have hv:=fm aE (NA aE hw.1 hw.2 Xj.1 ZW);have er:=BD (n:=M.cells.length) (aw:=me.aw) (op:=⟨1,at_ c 2 me.aw k.given,0,0,me.call.args.getD k.given.toNat 0,0⟩) hw.1 (by omega) (by dsimp only;omega) (by dsimp only;omega) hv.2.1 (by dsimp only;omega);rw[ea]at nf⊢;refine Out.quiet aE hw hg nf er (rB (.inl (by show(jt c (at_ c 2 me.aw k.given)).1=2;rw[hv.2.2.2]))) ?_ ?_ Fa
 ·rw[DQ e0,cW (by omega)];split<;>rfl
 ·rw[DQ e0];have hb:=h.tb (by omega);split
  ·exact⟨rfl,.inl ⟨by show(1:Int)≠13;decide,wb.low (k:={k with fresh:=false,eV:=false,given:=k.given+1,next:=1}) ⟨hb.jl,hb.hZ,hb.rt,hb.kb⟩ (.inr (.inl rfl))⟩⟩
  ·exact⟨rfl,.inl ⟨by show k.next≠13;omega,wb.low (k:={k with fresh:=false,eV:=false,given:=k.given+1}) ⟨hb.jl,hb.hZ,hb.rt,hb.kb⟩ (.inl e0)⟩⟩
def XA (aE:Y.Ok c)(hw:0≤me.aw∧me.aw<c.t)(hg:ag2 c g M){N}(hK:KI c ai me N k)(h:ap0 c ai g M rs me k)(e1:k.next=1):Out c ai g M rs me k (Z.nN (K.ask c me k).1) (K.tell c ai me (Z.o3 (M.told me.aw (Z.nN (K.ask c me k).1))) k):=by
 have sg:=aE.t8;have hl:=hg.len;have ea:(K.ask c me k).1=⟨1,at_ c 1 me.aw 0,0,0,IntKind.u64.wrap me.call.prog,me.tag⟩:=by unfold K.ask;rw[aq (by omega),aB e1]
 have hv:=fm aE (a9 aE (kd:=1) (by omega) hw.1 hw.2);have er:=BD (n:=M.cells.length) (aw:=me.aw) (op:=⟨1,at_ c 1 me.aw 0,0,0,IntKind.u64.wrap me.call.prog,me.tag⟩) hw.1 (by omega) (by dsimp only;omega) (by dsimp only;omega) hv.2.1 (by dsimp only;omega);have has:k.asked=false:=by
  cases e:k.asked with
  |false=>rfl
  |true=>exact absurd e1 (hK.g2 e).2
 have PB:=h.hZ has;rw[ea];obtain⟨b1,b2,b3,b4⟩:=hg.zI (op:=⟨1,at_ c 1 me.aw 0,0,0,IntKind.u64.wrap me.call.prog,me.tag⟩) aE hw er rfl rfl (by dsimp only;omega);refine⟨er,by rw[DR e1,cW (by omega)],.inl ⟨b1,b2,?_,Fa,.inr (by rw[show M.step me.aw (Z.nN ⟨1,at_ c 1 me.aw 0,0,0,IntKind.u64.wrap me.call.prog,me.tag⟩)=M.step me.aw ⟨1,at_ c 1 me.aw 0,0,0,IntKind.u64.wrap me.call.prog,me.tag⟩from rfl,b3])⟩⟩;rw[DR e1];have hb:=h.tb (by omega);exact⟨rfl,.inl ⟨by show(2:Int)≠13;decide,wb.low (k:={k with fresh:=false,eV:=false,asked:=true,next:=2}) ⟨λ_=>by rw[show M.step me.aw (Z.nN ⟨1,at_ c 1 me.aw 0,0,0,IntKind.u64.wrap me.call.prog,me.tag⟩)=M.step me.aw ⟨1,at_ c 1 me.aw 0,0,0,IntKind.u64.wrap me.call.prog,me.tag⟩from rfl,b3],λe=>(by cases e),hb.rt,hb.kb⟩ (.inr (.inr rfl))⟩⟩
def XB (aE:Y.Ok c)(hw:0≤me.aw∧me.aw<c.t)(hg:ag2 c g M){N}(h:ap0 c ai g M rs me k)(e2:k.next=2)(nf:KI c ai me (N+1) (K.tell c ai me (Z.o3 (M.told me.aw (Z.nN (K.ask c me k).1))) k)):Out c ai g M rs me k (Z.nN (K.ask c me k).1) (K.tell c ai me (Z.o3 (M.told me.aw (Z.nN (K.ask c me k).1))) k):=by
 have ea:(K.ask c me k).1=⟨0,0,0,0,0,0⟩:=by unfold K.ask;rw[aq (by omega),aq (by omega),aB e2,vQ]
 obtain⟨r0,r1,r2,r3,r4,r5,r6,r7,r8,r9,u6,tF,tG⟩:=row aE;obtain⟨l1,l2,l3,aR9⟩:=nz aE hw hg (a:=0) (iu 0) (by omega);rw[ea]at nf⊢;have hD:=hg.af5 me.aw hw.1 hw.2;refine Out.quiet aE hw hg nf l1 l2 ?_ ?_ Ed
 ·rw[xj e2,eP e2];unfold K.looked;split<;>rfl
 ·rw[xj e2];show aT0 c ai g M rs me (K.looked ai me {k with fresh:=true,eV:=false,nv:=(M.told me.aw ⟨0,0,0,0,0,0⟩).v,ns:=(M.told me.aw ⟨0,0,0,0,0,0⟩).s});rw[l3,aR9];have en:now M=M.cl 0:=rfl;rw[←en];unfold K.looked;split
  ·rename_i hr;refine⟨rfl,.inl ⟨by show(3:Int)≠13;decide,h.jl,h.hZ,λ_=>hr,λ_ _=>⟨iu _,λ_=>rfl,hg.ag7 _⟩,λ_=>⟨?_,hg.o⟩,λe=>absurd e (by show¬(3:Int)=4;decide),λe=>absurd e (by show¬(3:Int)=12;decide),λe=>absurd e (by show¬(5:Int)≤3;decide),λe=>absurd e (by show¬(5:Int)≤3;decide),λe=>absurd e (by show¬(3:Int)=8;decide),h.kb,λe=>absurd e (by show¬(3:Int)=9;decide),λe=>absurd e (by show¬((3:Int)=10∨(3:Int)=11);decide)⟩⟩;show(now M).2≤g.L ((now M).1%c.t);rw[Int.emod_eq_of_lt hg.o.1 hg.o.2,hg.ah0];exact iu _
  ·rename_i hr;refine⟨rfl,.inr ⟨rfl,λ_=>?_⟩⟩;have has:k.asked=false:=by
    cases e:k.asked with
    |false=>rfl
    |true=>exact absurd (h.rt (.inr e)) hr
   have:=h.hZ has;exact⟨by omega,.inl this⟩
def XO (aE:Y.Ok c)(hm:oY me.call.prog me.call.args ai)(hw:0≤me.aw∧me.aw<c.t)(hg:ag2 c g M){N}(h:ap0 c ai g M rs me k)(e3:k.next=3)(nf:KI c ai me (N+1) (K.tell c ai me (Z.o3 (M.told me.aw (Z.nN (K.ask c me k).1))) k))(hf:(K.tell c ai me (Z.o3 (M.told me.aw (Z.nN (K.ask c me k).1))) k).fresh=decide (k.next=2)):Out c ai g M rs me k (Z.nN (K.ask c me k).1) (K.tell c ai me (Z.o3 (M.told me.aw (Z.nN (K.ask c me k).1))) k):=by
 obtain⟨q1,q2,q3⟩:=h.p3 e3;have pH:=h.ns (by omega) (by omega);have Gy:K.owner c k=k.nv:=Int.emod_eq_of_lt q2 q3;have ea:(K.ask c me k).1=⟨0,at_ c 4 (K.owner c k) 0,0,0,0,0⟩:=by unfold K.ask;rw[aq (by omega),aq (by omega),aq (by omega),aB e3]
 have hv:=fm aE (a9 aE (kd:=4) (by omega) q2 q3);rw[Gy]at ea;obtain⟨l1,l2,l3,aR9⟩:=nz aE hw hg hv.2.1 hv.2.2.1;rw[ea]at nf hf⊢;refine Out.quiet aE hw hg nf l1 l2 hf ?_ Ed;rw[xk e3];show aT0 c ai g M rs me (K.opened c ai me (M.told me.aw ⟨0,at_ c 4 k.nv 0,0,0,0,0⟩).v (M.told me.aw ⟨0,at_ c 4 k.nv 0,0,0,0,0⟩).s {k with fresh:=false,eV:=false});rw[l3,aR9];have hb:=h.tb (by omega);unfold K.opened;split
 ·rename_i hx;refine⟨rfl,.inl ⟨by show(4:Int)≠13;decide,hb.jl,hb.hZ,λ_=>hb.rt,λ_ _=>pH,λe=>absurd e (by show¬(4:Int)=3;decide),λ_=>⟨⟨[],0,0,-1,0,0,0⟩,rfl,?_⟩,λe=>absurd e (by show¬(4:Int)=12;decide),λe=>absurd e (by show¬(5:Int)≤4;decide),λe=>absurd e (by show¬(5:Int)≤4;decide),λe=>absurd e (by show¬(4:Int)=8;decide),hb.kb,λe=>absurd e (by show¬(4:Int)=9;decide),λe=>absurd e (by show¬((4:Int)=10∨(4:Int)=11);decide)⟩⟩;show HH c g M (K.owner c k) k.ns ⟨[],0,0,-1,0,0,0⟩;rw[Gy]at q1⊢;exact⟨⟨q2,q3⟩,⟨pH.1,pH.2.1,q1⟩,λe=>absurd e (by show¬(0:Int)=1;decide),λ_ _ e=>absurd e (by show¬(0:Int)=1;decide),λ_ _ e=>absurd e (by show¬(0:Int)=2;decide),λe=>absurd e (by show¬(3:Int)≤0;decide),λe=>absurd e (by show¬(3:Int)≤0;decide),λe=>absurd e (by show¬(0:Int)=6;decide),λe=>absurd e (by show¬(0:Int)=8;decide)⟩
 ·rename_i hx;refine wb.qu (k:={k with fresh:=false,eV:=false}) aE hm hg hw ⟨hb.jl,hb.hZ,hb.rt,hb.kb⟩ ⟨pH,λe b=>hx ?_⟩ rfl;have e:k.ns=(now M).2:=e;unfold busy at b;rw[←pH.2.1 e]at b;rw[b];exact⟨rfl,e.symm⟩
def QN (aE:Y.Ok c)(hm:oY me.call.prog me.call.args ai)(hw:0≤me.aw∧me.aw<c.t)(hg:ag2 c g M){N}(h:ap0 c ai g M rs me k)(e5:k.next=5∨k.next=6∨k.next=7)(nf:KI c ai me (N+1) (K.tell c ai me (Z.o3 (M.told me.aw (Z.nN (K.ask c me k).1))) k))(hf:(K.tell c ai me (Z.o3 (M.told me.aw (Z.nN (K.ask c me k).1))) k).fresh=decide (k.next=2)):Out c ai g M rs me k (Z.nN (K.ask c me k).1) (K.tell c ai me (Z.o3 (M.told me.aw (Z.nN (K.ask c me k).1))) k):=by
 have pH:=h.ns (by omega) (by omega);have ea:(K.ask c me k).1=⟨0,at_ c (7+(k.next-5)) me.aw 0,0,0,0,0⟩:=by unfold K.ask;rw[aq (by omega),aq (by omega),aq (by omega),aq (by omega),aB e5]
 have hv:=fm aE (a9 aE (kd:=7+(k.next-5)) (by omega) hw.1 hw.2);obtain⟨l1,l2,l3,aR9⟩:=nz aE hw hg hv.2.1 hv.2.2.1;rw[ea]at nf hf⊢;have has:=h.ay5 (by omega) (by omega) (by omega);have hb:=h.tb (by omega);have hN:=h.tn (by omega) (by omega);refine Out.quiet aE hw hg nf l1 l2 hf ?_ Ed;rw[y6 e5];show aT0 c ai g M rs me (K.answer c ai me (M.told me.aw ⟨0,at_ c (7+(k.next-5)) me.aw 0,0,0,0,0⟩).v {k with fresh:=false,eV:=false});rw[l3];unfold K.answer;split
 ·exact⟨rfl,.inl ⟨by show(7:Int)≠13;decide,wb.P1 (k:={k with fresh:=false,eV:=false,oc:=_,next:=7}) ⟨hb.jl,hb.hZ,hb.rt,hb.kb⟩ ⟨hN.ns,hN.nb⟩ has (.inr (.inr rfl))⟩⟩
 rename_i n6;split
 ·exact⟨rfl,.inr ⟨rfl,λe=>by cases e⟩⟩
 rename_i n7;have n6:¬k.next=6:=n6;have n7:¬k.next=7:=n7;have e5':k.next=5:=by omega
 have e77:7+(k.next-5)=7:=by omega
 rw[e77];split
 ·exact⟨rfl,.inl ⟨by show(6:Int)≠13;decide,wb.P1 (k:={k with fresh:=false,eV:=false,next:=6}) ⟨hb.jl,hb.hZ,hb.rt,hb.kb⟩ ⟨hN.ns,hN.nb⟩ has (.inr (.inl rfl))⟩⟩
 rename_i Xq;have lV:c.la≤k.ns→c.la≤k.ns∧g.D me.aw≠me.tag:=λe=>by
  have:=hg.n;refine⟨e,λe2=>Xq ?_⟩;rw[hg.Ww (hN.nb (by omega)) aE hw.1 hw.2,e2]
 split
 ·rename_i hx;exact wb.run (k:={k with fresh:=false,eV:=false}) aE hm hg hw ⟨hb.jl,hb.hZ,hb.rt,hb.kb⟩ ⟨hN.ns,hN.nb⟩ (λ_=>lV hx.1) rfl
 split
 ·rename_i hx;exact⟨rfl,.inr ⟨rfl,λ_=>Em (k:={k with fresh:=false,eV:=false}) aE hg hw ⟨hb.jl,hb.hZ,hb.rt,hb.kb⟩ hN.ns.1 (λ_=>lV hx)⟩⟩
 ·rename_i hx;have hx:¬c.la≤k.ns:=hx;exact⟨rfl,.inl ⟨by show(9:Int)≠13;decide,hb.jl,hb.hZ,λ_=>hb.rt,λ_ _=>hN.ns,λe=>absurd e (by show¬(9:Int)=3;decide),λe=>absurd e (by show¬(9:Int)=4;decide),λe=>absurd e (by show¬(9:Int)=12;decide),λ_ _=>hN.nb,λ_ _ _=>has,λe=>absurd e (by show¬(9:Int)=8;decide),hb.kb,λ_=>⟨by show k.ns<c.la;omega,B.fw c,rfl,rfl,BJ.new c,VI.idle rfl,λ_=>ae6.new c g M rs⟩,λe=>absurd e (by show¬((9:Int)=10∨(9:Int)=11);decide)⟩⟩
end
end Go.Proofs.YtolkmchicplaoaaGreat
namespace Go.Proofs.YtolkmchicplaoaaGreat
open Go.RowKit Go.aS Go.aS.I_ Go.aS.Y
section
variable {c:Y.cA} {ai:List (List In)} {g:ag3} {M:C.M} {rs:List (Int×Int)} {me:K.Me} {k:K.St}
def al8 (aE:Y.Ok c){u}(h0:0≤u)(h1:u<1):Is c 12 u 0:=by
 unfold Is cr aP each;refine⟨h0,?_,by omega,?_⟩
 ·repeat' split
  all_goals omega
 ·repeat' split
  all_goals omega
def al9 (aE:Y.Ok c){u}(h0:0≤u)(h1:u<1):Is c 14 u 0:=by
 unfold Is cr aP each;refine⟨h0,?_,by omega,?_⟩
 ·repeat' split
  all_goals omega
 ·repeat' split
  all_goals omega
def am0 (aE:Y.Ok c){u}(h0:0≤u)(h1:u<b_ c):Is c 15 u 0:=by
 unfold Is cr aP each;refine⟨h0,?_,by omega,?_⟩
 ·repeat' split
  all_goals omega
 ·repeat' split
  all_goals omega
def l0 (c:Y.cA)(M:C.M)(aw:Int)(op:C.BU):Prop:=C.err M.cells.length aw op=0∧nB c M (M.step aw op)∧op.k≠2
def l0.load (aE:Y.Ok c)(hw:0≤me.aw∧me.aw<c.t)(hg:ag2 c g M){a:Int}(a0:0≤a)(a1:a<size c):l0 c M me.aw ⟨0,a,0,0,0,0⟩:=by
 obtain⟨l1,l2,_⟩:=nz aE hw hg a0 a1;exact⟨l1,l2,by show(0:Int)≠2;decide⟩
def l0.at_ (aE:Y.Ok c)(hw:0≤me.aw∧me.aw<c.t)(hg:ag2 c g M){kd i j:Int}(h:Is c kd i j):l0 c M me.aw ⟨0,Y.at_ c kd i j,0,0,0,0⟩:=l0.load aE hw hg (fm aE h).2.1 (fm aE h).2.2.1
def l0.p0 (aE:Y.Ok c)(hw:0≤me.aw∧me.aw<c.t)(hg:ag2 c g M):l0 c M me.aw (Z.nN p0):=by
 obtain⟨r0,r1,r2,r3,r4,r5,r6,r7,r8,r9,u6,tF,tG⟩:=row aE;exact l0.load (a:=0) aE hw hg (iu 0) (by omega)
def l0.am1 (aE:Y.Ok c)(hw:0≤me.aw∧me.aw<c.t)(hg:ag2 c g M){v:Vw.V}(hv:VI c v):l0 c M me.aw (Z.nN (Vw.ask v).1):=by
 unfold Vw.ask;split
 ·rename_i e;have h1:=hv e;exact l0.load aE hw hg h1.1 h1.2.1
 ·exact l0.p0 aE hw hg
def l0.am3 (aE:Y.Ok c)(hw:0≤me.aw∧me.aw<c.t)(hg:ag2 c g M){x:X.St}(hv:VI c x.v):l0 c M me.aw (Z.nN (X.ask x).1):=by
 unfold X.ask;split
 ·exact l0.p0 aE hw hg
 ·exact l0.am1 aE hw hg hv
def l0.aC3 (aE:Y.Ok c)(hw:0≤me.aw∧me.aw<c.t)(hg:ag2 c g M){p:P.St}(hp:P.Ok c p):l0 c M me.aw (Z.nN (P.ask c p).1):=by
 have kT:=hp.next;have hl:=bK aE;unfold P.ask;split
 ·exact l0.p0 aE hw hg
 rename_i hs;split
 ·rename_i e;exact l0.at_ aE hw hg (a9 aE (by omega) kT.1 e)
 split
 ·exact l0.at_ aE hw hg (al8 aE (iu 0) (by decide))
 split
 ·exact l0.at_ aE hw hg (al9 aE (iu 0) (by decide))
 ·have h1:=hp.cr (by omega);have h2:=hp.wl;exact l0.at_ aE hw hg (am0 aE (by omega) (by omega))
def l0.aC4 (aE:Y.Ok c)(hw:0≤me.aw∧me.aw<c.t)(hg:ag2 c g M){y:B.St}(hI:BI c ai y)(hK:BK c y):l0 c M me.aw (Z.nN (B.ask c me.aw y).1):=by
 have BZ:=hI.bb;have hu:=BZ.u;unfold B.ask;split
 ·exact l0.p0 aE hw hg
 rename_i hs;have Jf:=BZ.us (by omega);split
 ·rename_i e;exact l0.aC3 aE hw hg (hI.z e).1
 split
 ·exact l0.at_ aE hw hg (a9 aE (by omega) hu.1 Jf)
 split
 ·exact l0.am1 aE hw hg hK
 split
 ·rename_i e;have Xj:=BZ.given;exact l0.at_ aE hw hg (NA aE hu.1 Jf Xj.1 (hI.g3 (by omega) e))
 ·exact l0.am3 aE hw hg hK
def Out.qt (aE:Y.Ok c)(hw:0≤me.aw∧me.aw<c.t)(hg:ag2 c g M){N op k2}(nf:KI c ai me N k2)(hq:l0 c M me.aw op)(hf:k2.fresh=decide (k.next=2))(hF:aT0 c ai g M rs me k2):Out c ai g M rs me k op k2:=
 Out.quiet aE hw hg nf hq.1 hq.2.1 hf hF (λe=>hq.2.2 e.2.1)
def XP (aE:Y.Ok c)(hm:oY me.call.prog me.call.args ai)(hw:0≤me.aw∧me.aw<c.t)(hg:ag2 c g M)(hM:MU M){N:Int}(hK:KI c ai me N k)(h:ap0 c ai g M rs me k)(e8:k.next=8)(nf:KI c ai me (N+1) (K.tell c ai me (Z.o3 (M.told me.aw (Z.nN (K.ask c me k).1))) k))(hf:(K.tell c ai me (Z.o3 (M.told me.aw (Z.nN (K.ask c me k).1))) k).fresh=decide (k.next=2)):Out c ai g M rs me k (Z.nN (K.ask c me k).1) (K.tell c ai me (Z.o3 (M.told me.aw (Z.nN (K.ask c me k).1))) k):=by
 obtain⟨⟨x,LA,hx⟩,h8⟩:=h.p8 e8;obtain⟨x2,Gf,hX⟩:=hK.m8 e8;rw[LA]at Gf;cases Gf
 have ea:(K.ask c me k).1=(X.ask x).1:=by
  unfold K.ask;rw[aq (by omega),aq (by omega),aq (by omega),aq (by omega),aq (by omega),aB (by omega)];unfold K.sF;rw[LA]
 rw[ea]at nf hf⊢;refine Out.qt aE hw hg nf (l0.am3 aE hw hg hx) hf ?_;have hv:=(hM.told me.aw (Z.nN (X.ask x).1)).1;generalize M.told me.aw (Z.nN (X.ask x).1)=o at*;rw[j5 (.inr (.inl e8))];unfold K.fX;rw[show({k with fresh:=false,eV:=false}:K.St).work= .ex (K.code ai me) x from LA];have hb:=h.tb (by omega);have hN:=h.tn (by omega) (by omega);exact wb.read (k:={k with fresh:=false,eV:=false,work:= .ex (K.code ai me) (X.tell c (K.code ai me) me.call.args k.ns o.v o.s x)}) aE hg hw ⟨hb.jl,hb.hZ,hb.rt,hb.kb⟩ ⟨hN.ns,hN.nb⟩ e8 h8 rfl rfl (Wq hx _ _ _ _ _)
def Y4 (aE:Y.Ok c)(hm:oY me.call.prog me.call.args ai)(hw:0≤me.aw∧me.aw<c.t)(hg:ag2 c g M)(hM:MU M)(ur:(now M).2<c.la→∀u,0≤u→u<c.t→(u,(M.cl (at_ c 1 u 0)).2)∈rs→(M.cl (at_ c 1 u 0)).2≤g.D u){N:Int}(hK:KI c ai me N k)(h:ap0 c ai g M rs me k)(e9:k.next=9)(nf:KI c ai me (N+1) (K.tell c ai me (Z.o3 (M.told me.aw (Z.nN (K.ask c me k).1))) k))(hf:(K.tell c ai me (Z.o3 (M.told me.aw (Z.nN (K.ask c me k).1))) k).fresh=decide (k.next=2)):Out c ai g M rs me k (Z.nN (K.ask c me k).1) (K.tell c ai me (Z.o3 (M.told me.aw (Z.nN (K.ask c me k).1))) k):=by
 obtain⟨lV,y,LA,nO,hJ,ET,SL⟩:=h.p9 e9;obtain⟨y2,Gf,hI,UJ⟩:=hK.m9 e9;rw[LA]at Gf;cases Gf
 have ea:(K.ask c me k).1=(B.ask c me.aw y).1:=by
  unfold K.ask;rw[aq (by omega),aq (by omega),aq (by omega),aq (by omega),aq (by omega),aB (by omega)];unfold K.sF;rw[LA]
 rw[ea]at nf hf⊢;refine Out.qt aE hw hg nf (l0.aC4 aE hw hg hI ET) hf ?_;have hu:=hI.bb.u;have Jf:=hI.bb.us nO;have kT:=hI.next;have J5:=hM.told me.aw (Z.nN (B.ask c me.aw y).1);have h1:y.next=1→((M.told me.aw (Z.nN (B.ask c me.aw y).1)).v,(M.told me.aw (Z.nN (B.ask c me.aw y).1)).s)=M.cl (at_ c 1 y.u 0):=λe=>by
  have e2:(B.ask c me.aw y).1=⟨0,at_ c 1 y.u 0,0,0,0,0⟩:=by unfold B.ask;rw[aq (by omega),aq (by omega),aB e]
  have hv:=fm aE (a9 aE (kd:=1) (by omega) hu.1 Jf);obtain⟨_,_,l3,aR9⟩:=nz aE hw hg hv.2.1 hv.2.2.1;rw[e2];exact Prod.ext l3 aR9
 have h2:y.next=2→y.x.v.step=3→((M.told me.aw (Z.nN (B.ask c me.aw y).1)).v,(M.told me.aw (Z.nN (B.ask c me.aw y).1)).s)=M.cl y.x.v.at_:=λe es=>by
  have e2:(B.ask c me.aw y).1=⟨0,y.x.v.at_,0,0,0,0⟩:=by unfold B.ask Vw.ask;rw[aq (by omega),aq (by omega),aq (by omega),aB e,aB es]
  have hv:=ET es;obtain⟨_,_,l3,aR9⟩:=nz aE hw hg hv.1 hv.2.1;rw[e2];exact Prod.ext l3 aR9
 generalize M.told me.aw (Z.nN (B.ask c me.aw y).1)=o at*;rw[j5 (.inr (.inr (.inl e9)))];unfold K.fX;rw[show({k with fresh:=false,eV:=false}:K.St).work= .bu y from LA];show aT0 c ai g M rs me (K.built c me (B.tell c ai k.ns o.v o.s y) {k with fresh:=false,eV:=false,work:= .bu (B.tell c ai k.ns o.v o.s y)});have PD:=hJ.tell aE hm.pu hI k.ns o.v o.s J5.1 J5.2;have Bt:=BK.tell aE (ai:=ai) hu.1 hI.bb.us ET k.ns o.v o.s;have hb:=h.tb (by omega);have hN:=h.tn (by omega) (by omega);have has:=h.ay5 (by omega) (by omega) (by omega);have hM2:k.ns=(now M).2→ae6 c g M rs (B.tell c ai k.ns o.v o.s y):=λe=>ae6.tell aE hg (hN.nb e) (ur (by omega)) hI (SL e) e h1 h2;have uH:=hI.tell aE hm.pu k.ns o.v o.s J5.1 J5.2;generalize B.tell c ai k.ns o.v o.s y=y2 at*;have El:=uH.bb.s;unfold K.built;split
 ·rename_i hs;exact⟨rfl,.inl ⟨by show k.next≠13;omega,hb.jl,hb.hZ,λ_=>hb.rt,λ_ _=>hN.ns,λe=>by have e:k.next=3:=e;omega,λe=>by have e:k.next=4:=e;omega,λe=>by have e:k.next=12:=e;omega,λ_ _=>hN.nb,λ_ _ _=>has,λe=>by have e:k.next=8:=e;omega,hb.kb,λ_=>⟨lV,y2,rfl,hs,PD,Bt,hM2⟩,λe=>by have e:k.next=10∨k.next=11:=e;omega⟩⟩
 rename_i wK;split
 ·exact⟨rfl,.inl ⟨by show(2:Int)≠13;decide,wb.low (k:={k with fresh:=false,eV:=false,work:= .bu y2,next:=2}) ⟨hb.jl,hb.hZ,hb.rt,hb.kb⟩ (.inr (.inr rfl))⟩⟩
 rename_i aD4;have JH:y2.s=1:=by omega
 rcases pZ (c:=c) (me:=me) y2 y2.rows {k with fresh:=false,eV:=false,work:= .bu y2,next:=2}with⟨e1,_⟩|⟨Gy,c1,c2,c3,c4,c5,c6,c7,aH0⟩
 ·rw[show({({k with fresh:=false,eV:=false,work:= .bu y2}:K.St)with next:=2}:K.St)={k with fresh:=false,eV:=false,work:= .bu y2,next:=2}from rfl,e1];exact⟨rfl,.inl ⟨by show(2:Int)≠13;decide,wb.low (k:={k with fresh:=false,eV:=false,work:= .bu y2,next:=2}) ⟨hb.jl,hb.hZ,hb.rt,hb.kb⟩ (.inr (.inr rfl))⟩⟩
 ·rw[show({({k with fresh:=false,eV:=false,work:= .bu y2}:K.St)with next:=2}:K.St)={k with fresh:=false,eV:=false,work:= .bu y2,next:=2}from rfl];generalize K.ti c me y2 y2.rows {k with fresh:=false,eV:=false,work:= .bu y2,next:=2}=k2 at*;dsimp only at c3 c4 c5 c6 c7 aH0;refine⟨aH0,.inl ⟨by omega,by rw[c4];exact hb.jl,by rw[c4];exact hb.hZ,λ_=>hb.rt,λ_ _=>by rw[c6,c5];exact hN.ns,λe=>by omega,λe=>by omega,λe=>by omega,λ_ _=>by rw[c6];exact hN.nb,λ_ _ _=>by rw[c4];exact has,λe=>by omega,λz hz=>by rw[c2]at hz;cases hz;exact⟨PD,JH⟩,λe=>by omega,λ_=>⟨by rw[c6];exact lV,y2,c2,PD,JH,Gy,by rw[c6];exact hM2,0,λ_=>⟨?_,by omega⟩,λe=>by omega,λ_=>⟨λj _ hj=>by omega,λhj=>by omega,λhj=>by omega⟩⟩⟩⟩;rw[c3,c6,QM (PD.xC aE uH JH)]
end
end Go.Proofs.YtolkmchicplaoaaGreat
namespace Go.Proofs.YtolkmchicplaoaaGreat
open Go.RowKit Go.aS Go.aS.I_ Go.aS.Y
section
variable {c:Y.cA} {ai:List (List In)} {g:ag3} {M:C.M} {rs:List (Int×Int)} {me:K.Me} {k:K.St}
def sU (x k):(K.read x k).fresh=k.fresh:=by
 unfold K.read K.end_
 repeat' split
 all_goals rfl
def CO (k):(K.qu c ai me k).fresh=k.fresh:=by
 unfold K.qu K.run;split
 ·rfl
 ·rw[sU]
def AE {N}(hK:KI c ai me N k)(yo:k.next≠13)(o):(K.tell c ai me o k).fresh=decide (k.next=2):=by
 rcases hK.phase with e|e|e|e|e|e|e|e|e|e|e
 ·exact absurd e yo
 ·rw[DQ e,cW (by omega)];split<;>rfl
 ·rw[DR e,cW (by omega)]
 ·rw[xj e,eP e];unfold K.looked;split<;>rfl
 ·rw[xk e,cW (by omega)];unfold K.opened;split
  ·rfl
  ·exact CO _
 ·rw[y6 e,cW (by omega)];unfold K.answer K.end_ K.run
  repeat' split
  all_goals first|rfl|exact sU _ _
 ·rw[y7 e,cW (by omega)];unfold K.iT;split<;>rfl
 all_goals rw[j5 (by unfold fR;omega),cW (by omega)]
 all_goals
  unfold K.fX;split
  ·rfl
  ·exact sU _ _
  ·unfold K.built;split
   ·rfl
   split
   ·rfl
   ·rename_i y _ _ _;rcases pZ (c:=c) (me:=me) (B.tell c ai k.ns o.v o.s y) (B.tell c ai k.ns o.v o.s y).rows {({({k with fresh:=false,eV:=false}:K.St)with work:= .bu (B.tell c ai k.ns o.v o.s y)}:K.St)with next:=2}with⟨e1,_⟩|⟨_,_,_,_,_,_,_,e1,_⟩
    ·rw[show∀z:K.St,K.ti c me (B.tell c ai k.ns o.v o.s y) (B.tell c ai k.ns o.v o.s y).rows z=K.ti c me (B.tell c ai k.ns o.v o.s y) (B.tell c ai k.ns o.v o.s y).rows z from λ_=>rfl];exact(congrArg K.St.fresh e1).trans rfl
    ·exact e1.trans rfl
  ·unfold K.jf K.end_
   repeat' split
   all_goals first|rfl|exact CO _
  ·repeat' split
   all_goals rfl
def QP (aE:Y.Ok c)(hw:0≤me.aw∧me.aw<c.t)(hg:ag2 c g M){N}(hK:KI c ai me N k)(h:ap0 c ai g M rs me k)(o7:k.next=10)(hf:(K.tell c ai me (Z.o3 (M.told me.aw (Z.nN (K.ask c me k).1))) k).fresh=decide (k.next=2)):Out c ai g M rs me k (Z.nN (K.ask c me k).1) (K.tell c ai me (Z.o3 (M.told me.aw (Z.nN (K.ask c me k).1))) k):=by
 have sg:=aE.t8;have hl:=hg.len;obtain⟨lV,y,hy,hJ,JH,Gy,SL,d,hd,-,Fb⟩:=h.qx (.inl o7);obtain⟨LA,hdl⟩:=hd o7;have hE:=hJ.xC aE (hK.b y hy).2 JH;have hel:=hE.el;have hb:=h.tb (by omega);have hN:=h.tn (by omega) (by omega);have has:=h.ay5 (by omega) (by omega) (by omega);generalize rR:B.entries c y=l at*;have ea:(K.ask c me k).1=K.Hl c me.aw (k.ns+1) l d:=by
  unfold K.ask;rw[aq (by omega),aq (by omega),aq (by omega),aq (by omega),aq (by omega),aB (by omega)];unfold K.sF;rw[LA];dsimp only;rw[aq (by omega)]
 have N4:busy c M→me.aw≠(now M).1:=λb e=>by
  have h1:=hg.ah0;rw[←e]at h1;have h2:=hN.ns;exact hN.nb (by omega) b
 have key:∀op:C.BU,op.k=1→0≤op.a→op.a<size c→((jt c op.a).1=5∨(jt c op.a).1=6∨(op.a=at_ c 4 me.aw 0∧op.nv=1∧g.L me.aw<op.ns))→(jt c op.a).2.1=me.aw→(∀M':C.M,M'.cl op.a=(op.nv,op.ns)→(∀kd i j,Is c kd i j→0≤kd→Y.at_ c kd i j≠op.a→M'.cl (Y.at_ c kd i j)=M.cl (Y.at_ c kd i j))→aq3 c M me.aw l (k.ns+1) d→aq3 c M' me.aw l (k.ns+1) (d+1))→
  Out c ai g M rs me k op (K.tell c ai me (Z.o3 (M.told me.aw op)) k):=by
  intro op k1 a0 a1 hk hi Vg;have er:=BD (n:=M.cells.length) (aw:=me.aw) (op:=op) hw.1 (by omega) (by omega) (by omega) a0 (by omega);obtain⟨b1,b2,b3,b4,b5,b6⟩:=hg.WA aE hw N4 er k1 hk hi;have Ln:=AE hK (by omega) (Z.o3 (M.told me.aw op));refine⟨er,Ln,.inl ⟨b1,b2,?_,λe=>by omega,.inl (b6 me.aw hw.1 hw.2)⟩⟩;have zT:∀u,(M.cl (at_ c 1 u 0)).2≤((M.step me.aw op).cl (at_ c 1 u 0)).2:=b2.GC aE;have Nu:=b6 me.aw hw.1 hw.2;have Dr:k.ns=(now (M.step me.aw op)).2→aq3 c (M.step me.aw op) me.aw l (k.ns+1) (d+1):=λe=>
   Vg _ b3 (λkd i j qL h0 pg=>C.kK (fm aE qL).2.1 pg) (Fb (by rw[←b4];exact e))
  have YU:k.ns=(now (M.step me.aw op)).2→ae6 c g (M.step me.aw op) rs y:=λe=>(SL (by rw[←b4];exact e)).more zT (λ_ _ _ x=>x);have am4:k.ns≤(now (M.step me.aw op)).2∧(k.ns=(now (M.step me.aw op)).2→k.nv=(now (M.step me.aw op)).1)∧g.L me.aw≤k.ns:=by rw[b4];exact hN.ns
  have aq2:k.ns=(now (M.step me.aw op)).2→¬busy c (M.step me.aw op):=λe b=>hN.nb (by rw[←b4];exact e) (b5 b);rw[j5 (.inr (.inr (.inr (.inl o7))))];unfold K.fX;rw[show({k with fresh:=false,eV:=false}:K.St).work= .sc (k.ns+1) l d from LA];dsimp only;rw[aq (show¬l.length+1<d by omega)];split
  ·rename_i e;refine⟨rfl,.inl ⟨by show(11:Int)≠13;decide,by rw[Nu];exact hb.jl,by rw[Nu];exact hb.hZ,λ_=>hb.rt,λ_ _=>am4,λe=>absurd e (by show¬(11:Int)=3;decide),λe=>absurd e (by show¬(11:Int)=4;decide),λe=>absurd e (by show¬(11:Int)=12;decide),λ_ _=>aq2,λ_ _ _=>has,λe=>absurd e (by show¬(11:Int)=8;decide),hb.kb,λe=>absurd e (by show¬(11:Int)=9;decide),λ_=>⟨lV,y,hy,hJ,JH,Gy,YU,d+1,λe=>absurd e (by show¬(11:Int)=10;decide),λ_=>by rw[rR];omega,by rw[rR];exact Dr⟩⟩⟩
  ·rename_i e;refine⟨rfl,.inl ⟨by show k.next≠13;omega,by rw[Nu];exact hb.jl,by rw[Nu];exact hb.hZ,λ_=>hb.rt,λ_ _=>am4,λe=>by have e:k.next=3:=e;omega,λe=>by have e:k.next=4:=e;omega,λe=>by have e:k.next=12:=e;omega,λ_ _=>aq2,λ_ _ _=>has,λe=>by have e:k.next=8:=e;omega,hb.kb,λe=>by have e:k.next=9:=e;omega,λ_=>⟨lV,y,hy,hJ,JH,Gy,YU,d+1,λ_=>⟨by rw[rR],by rw[rR];omega⟩,λe=>by have e:k.next=11:=e;omega,by rw[rR];exact Dr⟩⟩⟩
 rw[ea];unfold K.Hl;have i4:=a9 aE (kd:=4) (by omega) hw.1 hw.2;have i5:=a9 aE (kd:=5) (by omega) hw.1 hw.2;have v4:=fm aE i4;have v5:=fm aE i5;have i6:∀j:Nat,j<l.length→Is c 6 me.aw j:=λj hj=>jY aE hw.1 hw.2 (by omega) (by omega);split
 ·rename_i Eg;have v6:=fm aE (i6 d Eg);refine key ⟨1,at_ c 6 me.aw d,0,0,(l.getD d (0,0)).2,IntKind.u64.wrap (l.getD d (0,0)).1⟩ rfl v6.2.1 v6.2.2.1 (.inr (.inl (by show(jt c (at_ c 6 me.aw d)).1=6;rw[v6.2.2.2]))) (by show(jt c (at_ c 6 me.aw d)).2.1=me.aw;rw[v6.2.2.2]) (λM' h1 h2 h3=>⟨λj hj hjd=>?_,λe=>by omega,λe=>by omega⟩);by_cases ej:j=d
  ·subst ej;rw[h1,cO,cy hj];rfl
  ·rw[h2 6 me.aw j (i6 j hj) (by decide) (pE aE (i6 j hj) (.inr (.inr (by omega))))];exact h3.log j hj (by omega)
 split
 ·rename_i Eg sr;refine key ⟨1,at_ c 5 me.aw 0,0,0,l.length,0⟩ rfl v5.2.1 v5.2.2.1 (.inl (by show(jt c (at_ c 5 me.aw 0)).1=5;rw[v5.2.2.2])) (by show(jt c (at_ c 5 me.aw 0)).2.1=me.aw;rw[v5.2.2.2]) (λM' h1 h2 h3=>⟨λj hj hjd=>?_,λe=>by rw[h1],λe=>by omega⟩);rw[h2 6 me.aw j (i6 j hj) (by decide) (pE aE (i6 j hj) (.inl (by decide)))];exact h3.log j hj (by omega)
 ·rename_i Eg sr;refine key ⟨1,at_ c 4 me.aw 0,0,0,1,k.ns+1⟩ rfl v4.2.1 v4.2.2.1 (.inr (.inr ⟨rfl,rfl,by have:=hN.ns.2.2;dsimp only;omega⟩)) (by show(jt c (at_ c 4 me.aw 0)).2.1=me.aw;rw[v4.2.2.2]) (λM' h1 h2 h3=>⟨λj hj hjd=>?_,λe=>?_,λe=>h1⟩)
  ·rw[h2 6 me.aw j (i6 j hj) (by decide) (pE aE (i6 j hj) (.inl (by decide)))];exact h3.log j hj (by omega)
  ·rw[h2 5 me.aw 0 i5 (by decide) (pE aE i5 (.inl (by decide)))];exact h3.len (by omega)
end
end Go.Proofs.YtolkmchicplaoaaGreat
namespace Go.Proofs.YtolkmchicplaoaaGreat
open Go.RowKit Go.aS Go.aS.I_ Go.aS.Y
section
variable {c:Y.cA} {ai:List (List In)} {g:ag3} {M:C.M} {rs:List (Int×Int)} {me:K.Me} {k:K.St}
def BJ.aw {y:B.St}{N:Int}(hI:BI c ai y)(h:BJ c y):∀r∈y.rows,0≤r.aw∧r.aw<c.t:=λr hr=>by
 have h1:=h.r.aw r hr;have h2:=hI.bb.u;omega
def QT (aE:Y.Ok c)(hw:0≤me.aw∧me.aw<c.t)(hg:ag2 c g M){N}(hK:KI c ai me N k)(h:ap0 c ai g M rs me k)(qM:k.next=11)(nf:KI c ai me (N+1) (K.tell c ai me (Z.o3 (M.told me.aw (Z.nN (K.ask c me k).1))) k))(hf:(K.tell c ai me (Z.o3 (M.told me.aw (Z.nN (K.ask c me k).1))) k).fresh=decide (k.next=2)):Out c ai g M rs me k (Z.nN (K.ask c me k).1) (K.tell c ai me (Z.o3 (M.told me.aw (Z.nN (K.ask c me k).1))) k):=by
 have sg:=aE.t8;have hl:=hg.len;obtain⟨r0,r1,r2,r3,r4,r5,r6,r7,r8,r9,u6,tF,tG⟩:=row aE;obtain⟨lV,y,hy,hJ,JH,Gy,SL,d,-,hd,Fb⟩:=h.qx (.inr qM);have hd:=hd qM;have hE:=hJ.xC aE (hK.b y hy).2 JH;have hb:=h.tb (by omega);have hN:=h.tn (by omega) (by omega);have ea:(K.ask c me k).1=⟨2,0,k.nv,k.ns,me.aw,k.ns+1⟩:=by
  unfold K.ask;rw[aq (by omega),aq (by omega),aq (by omega),aq (by omega),aq (by omega),aq (by omega),aB qM,vQ]
 rw[ea]at nf hf⊢;have er:=BD (n:=M.cells.length) (aw:=me.aw) (op:=⟨2,0,k.nv,k.ns,me.aw,k.ns+1⟩) hw.1 (by omega) (by dsimp only;omega) (by dsimp only;omega) (by dsimp only;omega) (by dsimp only;omega);have SM:=C.uq (m:=M) (aw:=me.aw) (op:=⟨2,0,k.nv,k.ns,me.aw,k.ns+1⟩) er;show Out c ai g M rs me k ⟨2,0,k.nv,k.ns,me.aw,k.ns+1⟩ (K.tell c ai me (Z.o3 (M.told me.aw ⟨2,0,k.nv,k.ns,me.aw,k.ns+1⟩)) k);have nf:KI c ai me (N+1) (K.tell c ai me (Z.o3 (M.told me.aw ⟨2,0,k.nv,k.ns,me.aw,k.ns+1⟩)) k):=nf;have hf:(K.tell c ai me (Z.o3 (M.told me.aw ⟨2,0,k.nv,k.ns,me.aw,k.ns+1⟩)) k).fresh=decide (k.next=2):=hf;by_cases hc:M.cl 0=(k.nv,k.ns)
 ·have QZ:(M.told me.aw ⟨2,0,k.nv,k.ns,me.aw,k.ns+1⟩).ok=true:=by
   rw[SM];unfold C.ky;exact eP (.inr hc)
  have ak8:now M=(k.nv,k.ns):=hc;have Gp:(now M).2=k.ns:=by rw[ak8]
  have oR:=hN.nb Gp.symm;have SL:=SL Gp.symm;have Fb:=Fb Gp.symm;rw[hd]at Fb;have N0:=BJ.aw (N:=N) (hK.b y hy).2 hJ;obtain⟨b1,b2,b3,b4⟩:=hg.ak1 (op:=⟨2,0,k.nv,k.ns,me.aw,k.ns+1⟩) aE hw er rfl rfl ak8 rfl (by rw[Gp]) (by rw[Gp];exact lV) oR hE (by rw[Gp];exact Fb) SL N0;have Nu:∀u,0≤u→u<c.t→(M.step me.aw ⟨2,0,k.nv,k.ns,me.aw,k.ns+1⟩).cl (at_ c 1 u 0)=M.cl (at_ c 1 u 0):=λu h0 h1=>rq (op:=⟨2,0,k.nv,k.ns,me.aw,k.ns+1⟩) aE (a9 aE (by omega) h0 h1) (by decide) (by show(1:Int)≠(jt c 0).1;rw[g8 aE];decide);refine⟨er,hf,.inr ⟨y,?_⟩⟩;rw[y7 qM];rw[show(Z.o3 (M.told me.aw ⟨2,0,k.nv,k.ns,me.aw,k.ns+1⟩)).ok=true from QZ];unfold K.iT;rw[aB rfl];refine⟨qM,rfl,rfl,hy,(hK.b y hy).2,hJ,JH,SL,Gy,by rw[Gp];exact lV,b1,b2,b3,λQK=>?_,Nu,Gp.symm,hy,b4,oR⟩;refine⟨by rw[Nu _ hw.1 hw.2];exact hb.jl,by rw[Nu _ hw.1 hw.2];exact hb.hZ,λ_=>hb.rt,λ_ e=>absurd e (by show¬(12:Int)≤11;decide),λe=>absurd e (by show¬(12:Int)=3;decide),λe=>absurd e (by show¬(12:Int)=4;decide),λ_=>?_,λ_ e=>absurd e (by show¬(12:Int)≤11;decide),λ_ e=>absurd e (by show¬(12:Int)≤11;decide),λe=>absurd e (by show¬(12:Int)=8;decide),hb.kb,λe=>absurd e (by show¬(12:Int)=9;decide),λe=>absurd e (by show¬((12:Int)=10∨(12:Int)=11);decide)⟩;have p4:({k with fresh:=false,eV:=false}:K.St).b=some y:=hy;rw[p4];refine⟨_,rfl,?_⟩;unfold K.JM;refine HH.entry hw (by rw[b3];exact⟨by dsimp only;omega,λ_=>rfl,by show k.ns+1≤if me.aw=me.aw then(now M).2+1 else g.L me.aw;rw[aB rfl];omega⟩) 0 (cE _) (λ_ _=>⟨rfl,λj hj=>by omega⟩) (λx=>absurd ⟨b4,by rw[b3];dsimp only;omega⟩ x)
 ·have QZ:(M.told me.aw ⟨2,0,k.nv,k.ns,me.aw,k.ns+1⟩).ok=false:=by
   rw[SM];unfold C.ky;refine cW ?_;rintro(e|e)
   ·exact e rfl
   ·exact hc e
  refine Out.quiet aE hw hg nf er (yg rfl hc) hf ?_ (λe=>by rw[QZ]at e;exact absurd e.2.2 (by decide));rw[y7 qM];rw[show(Z.o3 (M.told me.aw ⟨2,0,k.nv,k.ns,me.aw,k.ns+1⟩)).ok=false from QZ];unfold K.iT;rw[aq (by decide)];exact⟨rfl,.inl ⟨by show(2:Int)≠13;decide,wb.low (k:={k with fresh:=false,eV:=false,next:=2}) ⟨hb.jl,hb.hZ,hb.rt,hb.kb⟩ (.inr (.inr rfl))⟩⟩
def Y5 (aE:Y.Ok c)(hm:oY me.call.prog me.call.args ai)(hw:0≤me.aw∧me.aw<c.t)(hg:ag2 c g M)(hM:MU M){N}(hK:KI c ai me N k)(h:ap0 c ai g M rs me k)(e4:k.next=4∨k.next=12)(hf:(K.tell c ai me (Z.o3 (M.told me.aw (Z.nN (K.ask c me k).1))) k).fresh=decide (k.next=2)):Out c ai g M rs me k (Z.nN (K.ask c me k).1) (K.tell c ai me (Z.o3 (M.told me.aw (Z.nN (K.ask c me k).1))) k):=by
 obtain⟨ow,q,hh,LA,hHH,yY⟩:∃ow q hh,k.work= .he ow q hh∧HH c g M ow q hh∧(k.next=4→ow=K.owner c k∧q=k.ns)∧(k.next=12→ow=me.aw∧q=k.ns+1):=by
  rcases e4 with e|e
  ·obtain⟨hh,a1,a2⟩:=h.aS5 e;exact⟨_,_,hh,a1,a2,λ_=>⟨rfl,rfl⟩,λe2=>by omega⟩
  ·obtain⟨hh,a1,a2⟩:=h.Y_ e;exact⟨_,_,hh,a1,a2,λe2=>by omega,λ_=>⟨rfl,rfl⟩⟩
 obtain⟨o2,s2,h2,Gf,aC5⟩:=hK.m4 e4;rw[LA]at Gf;cases Gf
 have ea:(K.ask c me k).1=(H.ask c me.aw ow q hh).1:=by
  unfold K.ask;rw[aq (by omega),aq (by omega),aq (by omega),aq (by omega),aq (by omega),aB (by omega)];unfold K.sF;rw[LA]
 rw[ea]at hf⊢;obtain⟨s1,s2,s3,s4,s5⟩:=hHH.step aE hg hM hw aC5;have pW:=s3 (-1);have pV:=pW.one me.aw hw.1 hw.2 (by omega);have υ:=h.move (QK:=rs) aE hK s2 pW rfl pV.1 pV.2 (pW.GC aE) (λ_ _ _ _ _ x=>x);refine⟨s1,hf,.inl ⟨s2,s3 me.aw,?_,λe=>s4 ⟨e.1,e.2.1⟩,.inl pV.1⟩⟩;generalize M.step me.aw (Z.nN (H.ask c me.aw ow q hh).1)=M' at*;generalize M.told me.aw (Z.nN (H.ask c me.aw ow q hh).1)=o at*;rw[j5 (by rcases e4 with e|e;exact .inl e;exact .inr (.inr (.inr (.inr e))))];unfold K.fX;rw[show({k with fresh:=false,eV:=false}:K.St).work= .he ow q hh from LA];show aT0 c ai g M' rs me (K.jf c ai me (H.tell c q o.v o.s hh) {k with fresh:=false,eV:=false,work:= .he ow q (H.tell c q o.v o.s hh)});generalize H.tell c q o.v o.s hh=h3 at*;have hb:=υ.tb (by omega);unfold K.jf;split
 ·rename_i e8;refine⟨rfl,.inl ⟨by show k.next≠13;omega,υ.jl,υ.hZ,λ_=>hb.rt,υ.ns,λe=>by have e:k.next=3:=e;omega,λe=>?_,λe=>?_,λe e2=>?_,λe e2=>?_,λe=>by have e:k.next=8:=e;omega,hb.kb,λe=>by have e:k.next=9:=e;omega,λe=>by have e:k.next=10∨k.next=11:=e;omega⟩⟩
  ·have e:k.next=4:=e;obtain⟨x1,x2⟩:=yY.1 e;refine⟨h3,?_,?_⟩
   ·show K.Uf.he ow q h3=K.Uf.he (K.owner c k) k.ns h3;rw[x1,x2]
   ·show HH c g M' (K.owner c k) k.ns h3;rw[←x1,←x2];exact s5
  ·have e:k.next=12:=e;obtain⟨x1,x2⟩:=yY.2 e;refine⟨h3,?_,?_⟩
   ·show K.Uf.he ow q h3=K.Uf.he me.aw (k.ns+1) h3;rw[x1,x2]
   ·show HH c g M' me.aw (k.ns+1) h3;rw[←x1,←x2];exact s5
  ·have e:5≤k.next:=e;have e2:k.next≤11:=e2;omega
  ·have e:5≤k.next:=e;have e2:k.next≤11:=e2;omega
 rename_i e8;split
 ·exact⟨rfl,.inr ⟨rfl,λe=>by cases e⟩⟩
 ·rename_i Ex;have e4':k.next=4:=by have Ex:¬k.next=12:=Ex;omega
  obtain⟨x1,x2⟩:=yY.1 e4';have C_:=s5.fin (by omega);refine wb.qu (k:={k with fresh:=false,eV:=false,work:= .he ow q h3}) aE hm s2 hw ⟨hb.jl,hb.hZ,hb.rt,hb.kb⟩ ⟨υ.ns (by omega) (by omega),λe b=>C_ ⟨b,?_⟩⟩ rfl;rw[x2];exact e
def ap0.step (aE:Y.Ok c)(hm:oY me.call.prog me.call.args ai)(hw:0≤me.aw∧me.aw<c.t)(hg:ag2 c g M)(hM:MU M)(hn:(now M).2≤4611686018427387904)(ur:(now M).2<c.la→∀u,0≤u→u<c.t→(u,(M.cl (at_ c 1 u 0)).2)∈rs→(M.cl (at_ c 1 u 0)).2≤g.D u){N}(hK:KI c ai me N k)(yo:k.next≠13)(h:ap0 c ai g M rs me k):Out c ai g M rs me k (Z.nN (K.ask c me k).1) (K.tell c ai me (Z.o3 (M.told me.aw (Z.nN (K.ask c me k).1))) k):=by
 have J5:=hM.told me.aw (Z.nN (K.ask c me k).1);have h2:k.next=2→(Z.o3 (M.told me.aw (Z.nN (K.ask c me k).1))).s≤4611686018427387904:=λe=>by
  have ea:(K.ask c me k).1=⟨0,0,0,0,0,0⟩:=by unfold K.ask;rw[aq (by omega),aq (by omega),aB e,vQ]
  obtain⟨r0,r1,r2,r3,r4,r5,r6,r7,r8,r9,u6,tF,tG⟩:=row aE;obtain⟨l1,l2,l3,aR9⟩:=nz aE hw hg (a:=0) (iu 0) (by omega);rw[ea];show(M.told me.aw ⟨0,0,0,0,0,0⟩).s≤_;rw[aR9];exact hn
 have hlen:∀y,k.b=some y→(B.entries c y).length≤65536:=λy hy=>by
  have h1:=h.kb y hy;have h3:=(h1.1.xC aE (hK.b y hy).2 h1.2).el;have h4:=iI aE;omega
 have nf:=hK.tell aE hm (Z.o3 (M.told me.aw (Z.nN (K.ask c me k).1))) J5.1 J5.2 h2 hlen;have hf:=AE hK yo (Z.o3 (M.told me.aw (Z.nN (K.ask c me k).1)));rcases hK.phase with e|e|e|e|e|e|e|e|e|e|e
 ·exact absurd e yo
 ·exact WB aE hw hg hK h e nf
 ·exact XA aE hw hg hK h e
 ·exact XB aE hw hg h e nf
 ·exact XO aE hm hw hg h e nf hf
 ·exact QN aE hm hw hg h e nf hf
 ·exact QT aE hw hg hK h e nf hf
 ·exact XP aE hm hw hg hM hK h e nf hf
 ·exact Y4 aE hm hw hg hM ur hK h e nf hf
 ·exact Y5 aE hm hw hg hM hK h e hf
 ·exact QP aE hw hg hK h e hf
end
