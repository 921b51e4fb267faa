/- A part of the proof. -/
import Derived.Lib.OthersKept
import Derived.Test.YtolkmchicplaoaaGreatG03
set_option linter.all false
set_option maxHeartbeats 8000000
open Go.Proofs.Tryz
namespace Go.aS.I_
def fieldsOf (op:Int):List UInt8:=
 if op=0∨op=8∨op=18 then [97,105]
 else if op=9∨op=10 then [97,98]
 else if op=2 then [97,98,99]
 else [97]
def ag6 (op:Int):Prop:=(op=0∨op=2∨op=8∨op=9∨op=10)∨op=18∨op=20
def H2 {i:In}(h:i∈ag4):ag6 i.op:=by
 unfold ag4 at h;simp only[oG,uP,or_false]at h;unfold ag6;rcases h with rfl|rfl|rfl|rfl|rfl|rfl|rfl<;>simp
end Go.aS.I_
namespace Go.Proofs.YtolkmchicplaoaaGreat
open Go.RowKit Go.aS Go.aS.I_
def bp (op:Int)(w:World)(e:Ending)(w':World):Prop:=
 ∃nm:ByteArray,e= .returned (.tuple #[.string nm,.string ⟨(fieldsOf op).toArray⟩])∧nm.toList.isEmpty=false∧Fr [] w w'
def oU (w:World)(op:Int)(h:op=18∨op=20):Calls Tryz.prog 172 #[I op] w (bp op w):=by
 unfold bp;rcases h with rfl|rfl;all_goals
  go_wp2;go_ret2;exact⟨_,rfl,by rw[gP];decide,Fr.refl _ _⟩
def EY (w:World)(op:Int)(h:ag6 op):Calls Tryz.prog 153 #[I op] w (bp op w):=by
 rcases h with h|h
 ·unfold bp;rcases h with rfl|rfl|rfl|rfl|rfl;all_goals
   go_wp2;go_ret2;exact⟨_,rfl,by rw[gP];decide,Fr.refl _ _⟩
 ·have H:=λw=>oU w op h;unfold bp at*;rcases h with rfl|rfl;all_goals
   go_in;go_wp2_with fail;refine(H _).mono ?_;rintro e w1 ⟨nm,rfl,hn,hf⟩;have HF:=aa hf;clear hf;go_wp2;go_ret2;exact⟨_,rfl,hn,HF.out⟩
def oT {w:World}{k:Nat}{s:ByteArray}{p:Nat}(h:w.heap[k]?=some (.stringIter s p)):w.iterPos k=p:=by simp[World.iterPos,h]
def Fr.iterAt {a w}(h:Fr [] a w){k}(hk:a.heap.size≤k)(s:ByteArray)(pos):Fr [] a (w.iterAt k s pos):=
 ⟨h.os,h.tape,h.output,by rw[Lib.iterAt_size];exact h.size,λj hj hn=>(Lib.iterAt_other w k j s pos (by omega)).trans (h.block j hj hn)⟩
def jw (l:List UInt8):Bool:=l.any (λx=>decide (x≠97∧x≠98∧x≠99))
def hasB (l:List UInt8)(x:UInt8):Bool:=l.any (λy=>decide (y=x))
def wP (l)(y x:UInt8):hasB (l++[y]) x=(hasB l x||decide (y=x)):=by simp[hasB]
def Lu (l)(y:UInt8):jw (l++[y])=(jw l||decide (y≠97∧y≠98∧y≠99)):=by simp[jw]
def tj (l:List UInt8)(k:Nat)(h:k<l.length):l.take (k+1)=l.take k++[l[k]]:=by
 rw[List.take_add_one,cy h];rfl
def YK(w:World)(op:Int)(hk:ag6 op)(l:List UInt8)(hl:fieldsOf op=l)(ha:∀x∈l,x.toNat<128):ba 130 #[I op] w (.tuple #[.bool (hasB l 97),.bool (hasB l 98),.bool (hasB l 99),.bool (jw l)]):=by
 have HF:=EY w op hk;unfold bp at HF;rw[hl]at HF;clear hl hk;have HA:=aa ha;clear ha;delta ba;go_in;go_wp2_with fail;refine HF.mono ?_;rintro e w1 ⟨nm,rfl,_,hf⟩;obtain⟨s,hs⟩:∃s:ByteArray,s=⟨l.toArray⟩:=⟨_,rfl⟩;have aD:s.size=l.length:=by rw[hs];simp[ByteArray.size]
 have kS:∀(k:Nat) (h:k<s.size) (h2:k<l.length),s[k]=l[k]:=by intro k h h2;subst hs;show l.toArray[k]=l[k];rw[List.getElem_toArray]
 rw[←hs];have S0:=aa aD;have HG:=aa kS;have JO:=aa hf;clear hs aD kS hf HF;go_wp2_with fail;go_loopw [2,3,4,5] (λa b c d wr=>∃pos:Nat,pos≤l.length∧wr.heap[w1.heap.size]?=some (.stringIter s pos)∧Fr [] w wr∧a= .bool (hasB (l.take pos) 97)∧b= .bool (hasB (l.take pos) 98)∧c= .bool (hasB (l.take pos) 99)∧d= .bool (jw (l.take pos))) (λ_ _ _ _ wr=>l.length-wr.iterPos w1.heap.size)
 case' atStart=>skip
 refine ?Z
 case' round=>skip
 refine ?Y
 case' Z=>exact⟨0,cE _,World.iter_heap w1 s 0,JO.alloc _,rfl,rfl,rfl,rfl⟩
 obtain⟨pos,B5,Uu,pe,rfl,rfl,rfl,rfl⟩:=hrel;have JP:=oT Uu;have iy:w.heap.size≤w1.heap.size:=JO.out.size;by_cases hp:pos<l.length;refine ?X;rotate_left;refine ?J
 case' X=>
  have GJ:pos<s.size:=by rw[S0.out];exact hp
  obtain⟨x,hx⟩:∃x,l[pos]=x:=⟨_,rfl⟩;have GD:x.toNat<128:=by rw[←hx];exact HA.out _ (cJ hp)
  have Uo:(s[pos]'GJ)=x:=by rw[HG.out pos GJ hp];exact hx
  obtain⟨xb,NO⟩:∃xb,x.toNat=xb:=⟨_,rfl⟩;have kT:∀ty,(Instr.next (O w1.heap.size) true ty).run Tryz.prog wr= .ok (.tuple #[.bool true,I pos,.int .i32 xb]) (wr.iterAt w1.heap.size s (pos+1)):=λty=>by
   rw[Lib.run_next_ascii_at wr w1.heap.size s pos ty Uu GJ (by rw[Uo];exact GD),Uo,NO]
  have zF:=Lib.iterAt_heap wr w1.heap.size s pos (pos+1) Uu;have Pv:=Fr.iterAt pe (k:=w1.heap.size) iy s (pos+1);generalize wr.iterAt w1.heap.size s (pos+1)=W1 at kT zF Pv;have Uq:x=97↔xb=97:=by rw[←NO,←UInt8.toNat_inj];exact Iff.rfl
  have Ur:x=98↔xb=98:=by rw[←NO,←UInt8.toNat_inj];exact Iff.rfl
  have Ut:x=99↔xb=99:=by rw[←NO,←UInt8.toNat_inj];exact Iff.rfl
  have Mi:Hid (hasB (l.take (pos+1)) 97=(hasB (l.take pos) 97||decide (xb=97))):=aa (by rw[tj l pos hp,hx,wP,sX.2 Uq]);have Mj:Hid (hasB (l.take (pos+1)) 98=(hasB (l.take pos) 98||decide (xb=98))):=aa (by rw[tj l pos hp,hx,wP,sX.2 Ur]);have Mk:Hid (hasB (l.take (pos+1)) 99=(hasB (l.take pos) 99||decide (xb=99))):=aa (by rw[tj l pos hp,hx,wP,sX.2 Ut]);have Mn:Hid (jw (l.take (pos+1))=(jw (l.take pos)||decide (xb≠97∧xb≠98∧xb≠99))):=aa (by rw[tj l pos hp,hx,Lu];simp only[ne_eq,Uq,Ur,Ut]);clear Uq Ur Ut Uo hx NO Uu pe GJ;generalize hasB (l.take pos) 97=f97 at*;generalize hasB (l.take pos) 98=f98 at*;generalize hasB (l.take pos) 99=f99 at*;generalize jw (l.take pos)=fot at*
 case' X=>by_cases W4:xb=97;refine ?G;rotate_left;refine ?D
 case' D=>by_cases W5:xb=98;refine ?V;rotate_left;refine ?U
 case' U=>by_cases W6:xb=99;refine ?g0;rotate_left;refine ?g1
 case' G=>have Uv:((xb:Int)==97)=true:=by simp;omega
 case' g1=>have Uv:((xb:Int)==97)=false:=by simp;omega
 case' G|g1=>
  have Uw:((xb:Int)==98)=false:=by simp;omega
  have Ux:((xb:Int)==99)=false:=by simp;omega
  go_wp2_with fail
 case' G=>
  go_roundw
  case rel=>exact⟨pos+1,by omega,zF,Pv,by rw[Mi.out];simp[W4],by rw[Mj.out];simp[W4],by rw[Mk.out];simp[W4],by rw[Mn.out];simp[W4]⟩
  case measure=>rw[oT zF,JP];omega
 case' g1=>
  go_roundw
  case rel=>exact⟨pos+1,by omega,zF,Pv,by rw[Mi.out];simp[W4,W5,W6],by rw[Mj.out];simp[W4,W5,W6],by rw[Mk.out];simp[W4,W5,W6],by rw[Mn.out];simp[W4,W5,W6]⟩
  case measure=>rw[oT zF,JP];omega
 case' V=>
  have Uv:((xb:Int)==97)=false:=by simp;omega
  have Uw:((xb:Int)==98)=true:=by simp;omega
  have Ux:((xb:Int)==99)=false:=by simp;omega
  go_wp2_with fail
 case' V=>
  go_roundw
  case rel=>exact⟨pos+1,by omega,zF,Pv,by rw[Mi.out];simp[W5],by rw[Mj.out];simp[W5],by rw[Mk.out];simp[W5],by rw[Mn.out];simp[W5]⟩
  case measure=>rw[oT zF,JP];omega
 case' g0=>
  have Uv:((xb:Int)==97)=false:=by simp;omega
  have Uw:((xb:Int)==98)=false:=by simp;omega
  have Ux:((xb:Int)==99)=true:=by simp;omega
  go_wp2_with fail
 case' g0=>
  go_roundw
  case rel=>exact⟨pos+1,by omega,zF,Pv,by rw[Mi.out];simp[W6],by rw[Mj.out];simp[W6],by rw[Mk.out];simp[W6],by rw[Mn.out];simp[W6]⟩
  case measure=>rw[oT zF,JP];omega
 have GJ:¬pos<s.size:=by rw[S0.out];exact hp
 have kT:∀ty,(Instr.next (O w1.heap.size) true ty).run Tryz.prog wr=_:=λty=>Lib.run_next_end_at wr w1.heap.size s pos ty Uu GJ;obtain rfl:pos=l.length:=by omega
 rw[tV];go_wp2_with fail;exact aV (v:= .tuple #[.bool (hasB l 97),.bool (hasB l 98),.bool (hasB l 99),.bool (jw l)]) (by simp[results,Tryz.results130,go_sem]) rfl ⟨rfl,pe⟩
def Px (w:World)(op:Int)(h:ag6 op):Calls Tryz.prog 131 #[I op] w λe w'=>∃nm:ByteArray,e= .returned (.string nm)∧nm.toList.isEmpty=false∧Fr [] w w':=by
 have H:=EY w op h;unfold bp at H;clear h;go_in;go_wp2_with fail;refine H.mono ?_;rintro e w1 ⟨nm,rfl,hn,hf⟩;have HF:=aa hf;clear hf;have HN:=aa hn;clear hn;go_wp2;go_ret;exact⟨_,rfl,HN.out,HF.out⟩
def wQ (w:World)(n:Int)(u:Bool)(h:n=0∨(0<n∧n<16∧u=true)):ba 132 #[I n,.bool u] w (.bool true):=by
 rcases h with rfl|⟨h1,h2,rfl⟩
 ·delta ba;go_in;go_wp2;go_ret;exact⟨rfl,Fr.refl _ _⟩
 ·have e1:(n==0)=false:=by simp;omega
  have e2:decide (n>0)=true:=by simpa using h1
  have e3:decide (n<16)=true:=by simpa using h2
  delta ba;go_in;go_wp2;go_ret;exact⟨rfl,Fr.refl _ _⟩
def Lv (w:World)(op a b c bN:Int)(h7:(⟨op,a,b,c,bN⟩:In)∈ag4):ba 105 #[.agg #[I op,I a,I b,I c,U bN]] w (.bool true):=by
 have hk:ag6 op:=H2 h7;obtain⟨l,hl⟩:∃l,fieldsOf op=l:=⟨_,rfl⟩;have hh:(∀x∈l,x.toNat<128)∧(a=0∨(0<a∧a<16∧hasB l 97=true))∧(b=0∨(0<b∧b<16∧hasB l 98=true))∧(c=0∨(0<c∧c<16∧hasB l 99=true))∧(jw l=true∨(jw l=false∧bN=0)):=by
  rw[←hl];clear hl hk;unfold ag4 at h7;simp only[oG,In.mk.injEq,uP,or_false]at h7;rcases h7 with⟨rfl,rfl,rfl,rfl,rfl⟩|⟨rfl,rfl,rfl,rfl,rfl⟩|⟨rfl,rfl,rfl,rfl,rfl⟩|⟨rfl,rfl,rfl,rfl,rfl⟩|⟨rfl,rfl,rfl,rfl,rfl⟩|⟨rfl,rfl,rfl,rfl,rfl⟩|⟨rfl,rfl,rfl,rfl,rfl⟩<;>decide
 obtain⟨ha,h1,h2,h3,h4⟩:=hh;have HU:=aa (λw'=>YK w' op hk l hl ha);have HN:=aa (λw'=>Px w' op hk);have HA:=aa (λw'=>wQ w' a _ h1);have HB':=aa (λw'=>wQ w' b _ h2);have HC:=aa (λw'=>wQ w' c _ h3);generalize hasB l 97=ua at*;generalize hasB l 98=ub at*;generalize hasB l 99=uc at*;generalize jw l=ui at*;have hB:=cB.new w 28 [I op,I a,I b,I c,U bN];have b0:=hB.cell 0;have bl:=hB.lt;simp only[gn]at b0;clear hB hk ha h1 h2 h3 h7 hl;delta ba;go_in;go_wp2_with fail;refine(HU.out _).kk λw1 hf=>?_;have HF:=aa (((Fr.refl [] w).alloc _).trans hf);have HB:=aa ((cB.new w 28 [I op,I a,I b,I c,U bN]).fr hf (by simp));clear hf b0 bl;have b0:=HB.cell 0;have bl:=HB.lt;simp only[gn]at b0;go_wp2_with fail;refine(HN.out _).mono ?_;rintro e w2 ⟨nm,rfl,UA,hf⟩;have HF:=aa (HF.trans hf);have HB:=aa (HB.fr hf (by simp));clear hf b0 bl;have b1:=HB.cell 1;have bl:=HB.lt;simp only[zg]at b1;go_wp2_with fail;refine(HA.out _).kk λw3 hf=>?_;have HF:=aa (HF.trans hf);have HB:=aa (HB.fr hf (by simp));clear hf b1 bl;have b2:=HB.cell 2;have bl:=HB.lt;simp only[zg]at b2;go_wp2_with fail;refine(HB'.out _).kk λw4 hf=>?_;have HF:=aa (HF.trans hf);have HB:=aa (HB.fr hf (by simp));clear hf b2 bl;have b3:=HB.cell 3;have bl:=HB.lt;simp only[zg]at b3;go_wp2_with fail;refine(HC.out _).kk λw5 hf=>?_;have HF:=aa (HF.trans hf);have HB:=aa (HB.fr hf (by simp));clear hf b3 bl;have b4:=HB.cell 4;have bl:=HB.lt;simp only[zg]at b4;rcases h4 with rfl|⟨rfl,rfl⟩;all_goals
  go_wp2;go_ret;exact⟨rfl,HF.out⟩
def dJ (w:World)(v:Value)(L:List In):Prop:=dB gl 5 w v L∧L.length≤100000∧∀i∈L,0≤i.bN∧i.bN≤18446744073709551615
def dJ.fr {w w':World}{v:Value}{L:List In}(h:dJ w v L)(f:Fr [] w w'):dJ w' v L:=⟨h.1.fr f,h.2⟩
def qA (w:World):ba 171 #[I 10] w (I 1):=by
 delta ba;go_in;go_wp2;go_ret;exact⟨rfl,Fr.refl _ _⟩
def yB (w:World):ba 78 #[I 20] w (.bool true):=by
 delta ba;go_in;go_wp2;go_ret;exact⟨rfl,Fr.refl _ _⟩
def PA (w:World)(a:Option Addr)(n cap:Nat)(L:List In)(hn:n=L.length)(hp:ai0 L)(hL:dJ w (.slice a n cap) L)(k:Nat)(hk:k<n):ba 77 #[.slice a n cap,I k] w (I 0):=by
 obtain⟨hA,hl,hu⟩:=hL;obtain⟨x,rfl,hx,c0,c1⟩:=hA.at (i:=k) (by omega);have h7:=hp.i7 _ (cJ (show k<L.length by omega));have hf:=hp.A7;have Bb:L[k].op=18→k<3∧3<n:=λe=>by have:=hf.2.1 k (by omega) e;omega
 have hn8:n≤8:=by omega
 generalize L[k]=i at*;obtain⟨op,ia,ib,ic,bN⟩:=i;dsimp only[gl]at*;have d0:=c0 _ rfl;have d1:=c1 0 _ rfl;have d2:=c1 1 _ rfl;have d3:=c1 2 _ rfl;have d4:=c1 3 _ rfl;have HP:=aa (λw'=>Lv w' op ia ib ic bN h7);have rX:(k:Int)<(n:Int):=by omega
 unfold ag4 at h7;simp only[oG,In.mk.injEq,uP,or_false]at h7;clear c0 c1 hA hu hp hf hn hl;rcases h7 with⟨rfl,rfl,rfl,rfl,rfl⟩|⟨rfl,rfl,rfl,rfl,rfl⟩|⟨rfl,rfl,rfl,rfl,rfl⟩|⟨rfl,rfl,rfl,rfl,rfl⟩|⟨rfl,rfl,rfl,rfl,rfl⟩|⟨rfl,rfl,rfl,rfl,rfl⟩|⟨rfl,rfl,rfl,rfl,rfl⟩;all_goals
  try (have e1:decide ((3:Int)≤(k:Int))=false:=cW (by have:=Bb rfl;omega);have e2:decide ((3:Int)≥(n:Int))=false:=cW (by have:=Bb rfl;omega);have q1:¬(3:Int)≤(k:Int):=(by have:=Bb rfl;omega);have q2:¬(n:Int)≤3:=(by have:=Bb rfl;omega))
  clear Bb;delta ba;go_in;go_wp2_with fail;refine(HP.out _).kk λw1 hf=>?_;have HF:=aa (((Fr.refl [] w).alloc _).trans hf);have HB:=aa ((cB.new w 28 [_,_,_,_,_]).fr hf (by simp));clear hf d0 d1 d2 d3 d4 HP;have b0:=HB.cell 0;have b4:=HB.cell 4;have bl:=HB.lt;simp only[zg]at b0 b4;go_wp2;go_ret;exact⟨rfl,HF.out⟩
def lp (w:World)(a:Option Addr)(n cap:Nat)(L:List In)(hn:n=L.length)(hp:sJ L)(hL:dJ w (.slice a n cap) L):ba 20 #[.slice a n cap] w (.bool (right L)):=by
 have H:∃k ec:Int,(ec==0)=right L∧ba 49 #[.slice a n cap] w (.tuple #[I k,I ec]):=by
  rcases hp with rfl|hp
  ·refine⟨0,4,by decide,?_⟩;obtain rfl:n=0:=hn;clear hL;delta ba;go_in;go_wp2;go_ret2;exact⟨rfl,Fr.refl _ _⟩
  ·have pg:=hp.ne;refine⟨0,0,by rw[hp.right];rfl,?_⟩;obtain⟨h8,-,we⟩:=hp.A7;have e0:((n:Int)==0)=false:=by simp;omega
   have e1:decide ((n:Int)>256)=false:=by simp;omega
   have Gp:(n:Int)≤256:=by omega
   have uX:(0:Int)<(n:Int):=by omega
   have HO:=aa (fun(w':World) (f:Fr [] w w') k hk=>PA w' a n cap L hn hp (hL.fr f) k hk);have HL:=aa hL;have HN:=aa hn;have NU:=aa we;clear hn hL hp pg h8 we;delta ba;go_in;go_wp2_with fail;go_loopg [4,5,17] n (λg v4 v5 vi wr=>∃j:Nat,g+j=n∧vi=I (j:Int)∧Fr [] w wr)
   case atStart=>exact⟨0,rfl,rfl,Fr.refl _ _⟩
   case round=>
    obtain⟨j,yy,rfl,pe⟩:=hrel;have AW:=aa pe;clear pe;by_cases hj:j<n
    ·have s9:(j:Int)<(n:Int):=by omega
     go_wp2_with fail;refine(HO.out _ AW.out j hj).kk λw1 hf=>?_;have AW:=aa (AW.trans hf);clear hf;go_wp2;go_roundg (n-(j+1))
     case measure=>omega
     case rel=>exact⟨j+1,by omega,by go_num,AW.out⟩
    ·obtain rfl:j=n:=by omega
     obtain⟨m,rfl⟩:∃m,j=m+1:=⟨j-1,by omega⟩;have AX:m<L.length:=by have:=HN.out;omega
     obtain⟨x,rfl,hx,c0,_⟩:=(HL.out.1.fr AW.out).at (i:=m) AX;have hg:(L[m]).op=20:=by
      have:=NU.out;rw[←HN.out,Nat.add_sub_cancel]at this;simpa[List.getD,AX]using this
     generalize L[m]=i at*;obtain⟨op,ia,ib,ic,bN⟩:=i;dsimp only at hg;subst hg;have d0:=c0 _ rfl;clear c0;have HE:=aa yB;have PC:(m:Int)<(m:Int)+1:=by omega
     go_wp2_with fail;refine(HE.out _).kk λw1 hf=>?_;have AW:=aa (AW.trans hf);clear hf;go_wp2;go_ret2;exact⟨rfl,AW.out⟩
 obtain⟨k,ec,he,H⟩:=H;rw[←he];clear hn hL hp he;delta ba;go_in;go_wp2_with fail;refine H.mono ?_;rintro e w1 ⟨rfl,hf⟩;have HF:=aa hf;clear hf;go_wp2;go_ret;exact⟨rfl,HF.out⟩
def ry (w:World)(a:Option Addr)(n cap:Nat)(L:List In)(hn:n=L.length)(hp:sJ L)(hL:dJ w (.slice a n cap) L):ba 21 #[.slice a n cap] w (.bool (reads L)):=by
 have HO:=aa (fun(w':World) (f:Fr [] w w')=>lp w' a n cap L hn hp (hL.fr f));have h7:∀(j:Nat) (h:j<L.length),L[j]∈ag4∧(L[j].op=10→reads L=false):=by
  rcases hp with rfl|hp
  ·intro j h;cases h
  ·refine λj h=>⟨hp.i7 _ (cJ h),λoo=>?_⟩;unfold reads;refine cW λe=>?_;subst e;have:∀i∈RK,i.op≠10:=by decide
   exact this _ (cJ h) oo
 have LJ:(∀(j:Nat) (h:j<L.length),L[j].op≠10)→right L=reads L:=by
  intro h;rcases hp with rfl|rfl|rfl|rfl
  ·decide
  ·exact absurd rfl (h 3 (by decide))
  ·exact absurd rfl (h 6 (by decide))
  ·decide
 have H7:=aa h7;have Er:=aa LJ;have Gp:(n:Int)≤100000:=by have:=hL.2.1;omega
 have HL:=aa hL;have HN:=aa hn;clear hn hL hp h7 LJ;delta ba;go_in;go_wp2_with fail;go_loopg [4,7] n (λg v4 vi wr=>∃j:Nat,g+j=n∧vi=I (j:Int)∧Hid (∀(k:Nat) (h:k<L.length),k<j→L[k].op≠10)∧Fr [] w wr)
 case atStart=>exact⟨0,rfl,rfl,aa (λk _ h=>by omega),Fr.refl _ _⟩
 case round=>
  obtain⟨j,yy,rfl,kL,pe⟩:=hrel;have AW:=aa pe;clear pe;by_cases hj:j<n
  ·have s9:(j:Int)<(n:Int):=by omega
   have mW:j<L.length:=by have:=HN.out;omega
   obtain⟨x,rfl,hx,c0,c1⟩:=(HL.out.1.fr AW.out).at (i:=j) mW;obtain⟨Uy,Ms⟩:=H7.out j mW;have IE:Hid (L[j].op≠10→∀(k:Nat) (h:k<L.length),k<j+1→L[k].op≠10):=aa (λoo k h h2=>by
    by_cases e:k=j
    ·subst e;exact oo
    ·exact kL.out k h (by omega))
   generalize L[j]=i at*;obtain⟨op,ia,ib,ic,bN⟩:=i;have d0:=c0 _ rfl;have d1:=c1 0 _ rfl;have d2:=c1 1 _ rfl;have d3:=c1 2 _ rfl;have d4:=c1 3 _ rfl;clear c0 c1;dsimp only at Ms IE;by_cases oo:op=10
   ·have HX:=aa (Ms oo);subst oo;clear Ms Uy;go_wp2;go_ret;exact⟨by rw[HX.out];rfl,AW.alloc _⟩
   ·have HX:=aa (IE.out oo);have hk:=H2 Uy;dsimp only at hk;unfold ag6 at hk;have o7:(op==10)=false:=by simpa using oo
    have yX:(op==13)=false:=by simp;omega
    have B4:(op==14)=false:=by simp;omega
    have JN:(op==15)=false:=by simp;omega
    have GI:(op==16)=false:=by simp;omega
    clear Ms Uy hk oo;go_wp2;go_roundg (n-(j+1))
    case measure=>omega
    case rel=>exact⟨j+1,by omega,by go_num,HX,AW.alloc _⟩
  ·obtain rfl:j=n:=by omega
   have yk:=Er.out (λk h=>kL.out k h (by rw[HN.out];exact h));rw[yk]at HO;clear yk kL;go_wp2_with fail;refine(HO.out _ AW.out).kk λw1 hf=>?_;have AW:=aa (AW.trans hf);clear hf;go_wp2;go_ret;exact⟨rfl,AW.out⟩
def bC (l:List Int):List Value:=l.map (Value.int .u64)
def sT (x y:Int):List Value:=[U 0,U x,U 0,U y,U 0,U 0,U 0,U 0,U 0,U 0,U 0,U 0,U 0,U 0,U 0,U 0]
def fc (w:World)(op a b c bN r x y a0 a1 a2 a3:Int)(h:(op=8∧b=0∧c=0∧bN=0∧r=a0)∨(op=0∧b=0∧c=0∧bN=1∧r=1)∨(op=2∧b=1∧c=3∧bN=0∧r=IntKind.u64.wrap (x+y))):
 ba 127 #[.agg #[I op,I a,I b,I c,U bN],.agg (sT x y).toArray,.agg #[U a0,U a1,U a2,U a3]] w (U r):=by
 have HS:=aa ((((Sep.nil (Fr.refl [] w)).new 28 [I op,I a,I b,I c,U bN]).new 134 (sT x y)).new 36 [U a0,U a1,U a2,U a3]);simp only[cG]at HS;have b0:=(HS.ar 2 rfl).drew.cell 0;have b2:=(HS.ar 2 rfl).drew.cell 2;have b3:=(HS.ar 2 rfl).drew.cell 3;have b4:=(HS.ar 2 rfl).drew.cell 4;have bl:=(HS.ar 2 rfl).drew.lt;have c0:=(HS.ar 1 rfl).drew.cell 0;have c1:=(HS.ar 1 rfl).drew.cell 1;have c3:=(HS.ar 1 rfl).drew.cell 3;have cl:=(HS.ar 1 rfl).drew.lt;have q0:=(HS.ar 0 rfl).drew.cell 0;have ql:=(HS.ar 0 rfl).drew.lt;unfold sT at*;simp only[zg]at b0 b2 b3 b4 c0 c1 c3 q0;have m0:bits .and .i64 0 15=0:=by decide
 have m1:bits .and .i64 1 15=1:=by decide
 have m3:bits .and .i64 3 15=3:=by decide
 rcases h with⟨rfl,rfl,rfl,rfl,rfl⟩|⟨rfl,rfl,rfl,rfl,rfl⟩|⟨rfl,rfl,rfl,rfl,rfl⟩;all_goals
  delta ba;go_in;go_wp2;refine bW [(1,[0,1,2,3,4,5,6,7,8,9,10,11])] (by kernel_rfl) ?_;simp only[zz];repeat(first|go_big_quiet_step(fail)|apply ax|apply af|apply ag|apply ah)
  refine aj ?_;go_wp2;go_ret;exact⟨rfl,HS.fr.drew⟩
end Go.Proofs.YtolkmchicplaoaaGreat
namespace Go.Proofs.YtolkmchicplaoaaGreat
open Go.RowKit Go.aS Go.aS.Y Go.aS.Vw
def vz (w b cs)(aD:cs.length=24)(aw seq v)(hB:cB w b 258 (eU cs aw seq v)):
 ba 176 #[O b] w (.tuple #[U v.val,I v.s]):=by
 have d_:=hB.aR aD 30 rfl rfl;have eY:=hB.aR aD 31 rfl rfl;try dsimp only at d_ eY
 clear hB;generalize v.val=x1 at*;generalize v.s=x2 at*;delta ba;go_in;go_wp2;refine bW [(1,[0,1,2,3,4,5,6,7,8,9])] (by kernel_rfl) ?_;simp only[zz];repeat(first|go_big_quiet_step(fail)|apply ax|apply af|apply ag|apply ah)
 refine aj ?_;go_wp2_with fail;exact aV (v:= .tuple #[U x1,I x2]) (by simp[results,Tryz.results176,go_sem]) rfl ⟨rfl,(Fr.refl [] _).drew⟩
def mN {w0 w:World}{R:List a_}(b:Nat)(cs:List Value)(aD:cs.length=24)(aw seq:Int)(v:V)(hS:Sep w0 w (aJ b 258 (eU cs aw seq v)::R)):
 jh 200 #[O b,.bool true] w (.bool !(v.s==2)) w0 (aJ b 258 (eU cs aw seq (if v.s=2 then v else{v with val:=0,step:=0,s:=0}))::R):=by
 have fK:=(hS.ar 0 rfl).aR aD 25 rfl rfl;have ee:=(hS.ar 0 rfl).aR aD 26 rfl rfl;have cu:=(hS.ar 0 rfl).aR aD 27 rfl rfl;have dz:=(hS.ar 0 rfl).aR aD 28 rfl rfl;have dX:=(hS.ar 0 rfl).aR aD 29 rfl rfl;have d_:=(hS.ar 0 rfl).aR aD 30 rfl rfl;have eY:=(hS.ar 0 rfl).aR aD 31 rfl rfl;have f26:=(hS.ar 0 rfl).az;have kl:=(hS.ar 0 rfl).lt;try dsimp only at ee cu dz dX d_ eY
 have eG:=((hS.set 0 rfl 30 (U 0)).set 0 rfl 27 (I 0)).set 0 rfl 31 (I 3);have du:=eG.set 0 rfl 31 (I 0);simp only[aL,JL aD,iA aD,EW aD]at eG du;have HS:=aa hS;have de:=aa du;clear hS eG du;by_cases h2:v.s=2
 ·rw[aB h2];rw[h2]at eY⊢;clear h2;delta jh;go_in;go_wp2;go_ret;exact⟨rfl,HS.out⟩
 ·rw[aq h2];have h3:(v.s==2)=false:=by simpa using h2
  rw[h3];clear h2;generalize v.s=q at eY h3;delta jh;go_in;go_wp2;go_ret;exact⟨rfl,de.out⟩
end Go.Proofs.YtolkmchicplaoaaGreat
namespace Go.aS
def Sep.ap9 {w0 w T U_}(h:Sep w0 w [T,U_]):Sep w0 w [T]:=(h.pull 1 rfl).tail
end Go.aS
namespace Go.Proofs.YtolkmchicplaoaaGreat
open Go.RowKit Go.aS Go.aS.Y Go.aS.Vw
def zL{w0 w:World}{R:List a_}(b:Nat)(cs:List Value)(aD:cs.length=24)(aw seq:Int)(v:V)(h3:v.step=3)(x n:Int)(hS:Sep w0 w (aJ b 258 (eU cs aw seq v)::R)):bR 235 #[O b,.agg #[U x,U n]] w w0 (aJ b 258 (eU cs aw seq (if seq<n then{v with step:=0,s:=2}else{v with step:=0,val:=x,s:=1}))::R):=by
 have h4:(v.step==3)=true:=by simpa using h3
 clear h3;by_cases h1:seq<n;refine ?Z;rotate_left;refine ?Y
 case' Z=>rw[aB h1];have h2:decide (n>seq)=true:=by simpa using h1
 case' Y=>rw[aq h1];have h2:decide (n>seq)=false:=by simpa using h1
 case' Z|Y=>
  clear h1;have fC:=(hS.new 68 [U x,U n]);have JS:=aa fC;have fK:=(fC.ar 1 rfl).aR aD 25 rfl rfl;have ee:=(fC.ar 1 rfl).aR aD 26 rfl rfl;have cu:=(fC.ar 1 rfl).aR aD 27 rfl rfl;have dz:=(fC.ar 1 rfl).aR aD 28 rfl rfl;have dX:=(fC.ar 1 rfl).aR aD 29 rfl rfl;have d_:=(fC.ar 1 rfl).aR aD 30 rfl rfl;have eY:=(fC.ar 1 rfl).aR aD 31 rfl rfl;have f26:=(fC.ar 1 rfl).az;have kl:=(fC.ar 1 rfl).lt;try dsimp only at ee cu dz dX d_ eY
  have eG:=fC.set 1 rfl 27 (I 0);simp only[zs,iA aD]at eG;have dS:=aa eG;have z0:=(fC.ar 0 rfl).cell 0;have z1:=(fC.ar 0 rfl).cell 1;simp only[zg]at z0 z1;have zl:=(fC.ar 0 rfl).lt;have aS9:=fC.ne 0 1 rfl rfl (by decide);clear hS fC eG;delta bR;go_in;go_wp2_with fail;generalize World.setCell _ _ _=w1 at dS⊢;clear fK ee cu dz dX d_ eY f26 kl z0 z1 zl;have eG:=dS.out;have fK:=(eG.ar 1 rfl).aR aD 25 rfl rfl;have ee:=(eG.ar 1 rfl).aR aD 26 rfl rfl;have cu:=(eG.ar 1 rfl).aR aD 27 rfl rfl;have dz:=(eG.ar 1 rfl).aR aD 28 rfl rfl;have dX:=(eG.ar 1 rfl).aR aD 29 rfl rfl;have d_:=(eG.ar 1 rfl).aR aD 30 rfl rfl;have eY:=(eG.ar 1 rfl).aR aD 31 rfl rfl;have f26:=(eG.ar 1 rfl).az;have kl:=(eG.ar 1 rfl).lt;try dsimp only at ee cu dz dX d_ eY
  have z0:=(eG.ar 0 rfl).cell 0;have z1:=(eG.ar 0 rfl).cell 1;have zl:=(eG.ar 0 rfl).lt;simp only[zg]at z0 z1
 case' Z=>have du:=eG.drew.set 1 rfl 31 (I 2);simp only[zs,EW aD]at du
 case' Y=>have du:=(eG.drew.set 1 rfl 30 (U x)).set 1 rfl 31 (I 1);simp only[zs,JL aD,EW aD]at du
 case' Z|Y=>
  have de:=aa du.tail;clear eG du;refine bW [(1,[0,1,2,3,4,5,6,7])] (by kernel_rfl) ?_;simp only[zz];repeat(first|go_big_quiet_step(fail)|apply ax|apply af|apply ag|apply ah)
  refine aj ?_;go_wp2;go_end0
 case' Z|Y=>exact⟨rfl,de.out⟩
def B7{w0 w:World}{R:List a_}(b:Nat)(cs:List Value)(aD:cs.length=24)(aw seq:Int)(v:V)(hv:VS v)(x n:Int)(ok:Bool)(hS:Sep w0 w (aJ b 258 (eU cs aw seq v)::R)):bR 227 #[O b,.agg #[U x,U n,.bool ok]] w w0 (aJ b 258 (eU cs aw seq (tell seq x n v))::R):=by
 unfold tell;by_cases h3:v.step=3;refine ?Z;rotate_left;refine ?Y
 case' Z=>rw[aB h3];have HLD:=aa (λw' R hS=>zL (w0:=w0) (w:=w') (R:=R) b cs aD aw seq v h3 x n hS);generalize(if seq<n then({v with step:=0,s:=2}:V)else{v with step:=0,val:=x,s:=1})=z at*
 case' Y=>rw[aq h3];have h0:v.step=0:=by rcases hv with h|h;exact absurd h.2 h3;exact h.2
 case' Z|Y=>
  have h2:(v.step==1)=false:=by simp;omega
  have h5:(v.step==2)=false:=by simp;omega
 case' Z=>
  have h6:(v.step==3)=true:=by simpa using h3
  clear h3 hv
 case' Y=>
  have h6:(v.step==3)=false:=by simp;omega
  clear h3 hv h0
 case' Z|Y=>
  have fC:=(hS.new 84 [U x,U n,.bool ok]);have JS:=aa fC;have fK:=(fC.ar 1 rfl).aR aD 25 rfl rfl;have ee:=(fC.ar 1 rfl).aR aD 26 rfl rfl;have cu:=(fC.ar 1 rfl).aR aD 27 rfl rfl;have dz:=(fC.ar 1 rfl).aR aD 28 rfl rfl;have dX:=(fC.ar 1 rfl).aR aD 29 rfl rfl;have d_:=(fC.ar 1 rfl).aR aD 30 rfl rfl;have eY:=(fC.ar 1 rfl).aR aD 31 rfl rfl;have f26:=(fC.ar 1 rfl).az;have kl:=(fC.ar 1 rfl).lt;try dsimp only at ee cu dz dX d_ eY
  have z0:=(fC.ar 0 rfl).cell 0;have z1:=(fC.ar 0 rfl).cell 1;simp only[zg]at z0 z1;have zl:=(fC.ar 0 rfl).lt;clear hS fC;delta bR;go_in
 case' Z=>go_wp2_with fail;refine(HLD.out _ _ JS.tail).kk λw2 hS=>?_;go_wp2;go_end0
 case' Y=>go_wp2;go_end0
 case' Z=>exact⟨rfl,hS⟩
 exact⟨rfl,JS.tail⟩
def B8{w0 w:World}{R:List a_}(b:Nat)(c:cA)(aE:Ok c)(aw seq:Int)(v:V)(p:Int)(hp:inner c p=true)(hS:Sep w0 w (aJ b 258 (eU (ae c) aw seq v)::R)):bR 199 #[O b,I p] w w0 (aJ b 258 (eU (ae c) aw seq (cell p v))::R):=by
 have jX:=hS.ar 0 rfl;have cC:w.rangeAt b 0 (ae c):=jX.pre;have aD:(ae c).length=24:=rfl;have HS:=aa hS;clear hS jX;have HW:=aa (i_ aE p);unfold inner at hp;have hp:=oC hp;unfold lC aY at HW;generalize ae c=cs at*;generalize jt c p=q at*;obtain⟨q1,q2,q3⟩:=q;dsimp only at hp HW;have g1:decide (q1≥7)=true:=by simpa using hp.1
 have g2:decide (q1<16)=true:=by simpa using hp.2
 have wV:=aa (fun(w2:World) (hS:Sep w0 w2 (aJ b 258 (eU cs aw seq v)::R))=>mN b cs aD aw seq v hS);clear hp;unfold cell;by_cases h2:v.s=2;refine ?Z;rotate_left;refine ?Y
 case' Z=>
  have h3:(v.s==2)=true:=by simpa using h2
  rw[aB h2];rw[aB h2,h3]at wV
 case' Y=>
  have h3:(v.s==2)=false:=by simpa using h2
  rw[aq h2];rw[aq h2,h3]at wV
 case' Z|Y=>
  clear h2 h3;delta bR;go_in;go_wp2_with
   (refine ay 58 _ rfl rfl _ 0 rfl cs _ cC underlying58 rfl (by rw[aD];kernel_rfl) ?_)
  refine(HW.out _).kq HS λw1 HS=>?_;clear cC;go_wp2_with fail
 case' Z=>refine(wV.out _ HS.out).kh λw2 HS=>?_;go_wp2;go_end0
 case' Y=>
  refine(wV.out _ HS.out).kk λw2 hS=>?_;have du:=(hS.set 0 rfl 29 (I p)).set 0 rfl 27 (I 3);simp only[zs,yW aD,iA aD]at du;have fK:=(hS.ar 0 rfl).aR aD 25 rfl rfl;have ee:=(hS.ar 0 rfl).aR aD 26 rfl rfl;have cu:=(hS.ar 0 rfl).aR aD 27 rfl rfl;have dz:=(hS.ar 0 rfl).aR aD 28 rfl rfl;have dX:=(hS.ar 0 rfl).aR aD 29 rfl rfl;have d_:=(hS.ar 0 rfl).aR aD 30 rfl rfl;have eY:=(hS.ar 0 rfl).aR aD 31 rfl rfl;have f26:=(hS.ar 0 rfl).az;have kl:=(hS.ar 0 rfl).lt;try dsimp only at ee cu dz dX d_ eY
  have de:=aa du;clear hS du;go_wp2;go_end0
 case' Z=>exact⟨rfl,HS.out⟩
 exact⟨rfl,de.out⟩
def E3 (w cs)(aD:cs.length=24)(aw seq):
 Calls Tryz.prog 134 #[.agg cs.toArray,I aw,U seq] w λe w'=>∃b,e= .returned (O b)∧Sep w w' [aJ b 258 (eU cs aw seq ⟨-1,0,0,0,0,1⟩)]:=by
 have HS:=aa ((Sep.nil (Fr.refl [] w)).new 58 cs);obtain⟨x0,x1,x2,x3,x4,x5,x6,x7,x8,x9,l4,l5,l6,l7,l8,l9,l_,mf,mh,mi,mj,mm,mo,mq,rfl⟩:=rQ aD;go_in;go_wp2_with(refine ay 58 _ rfl rfl _ 0 rfl _ _ (HS.ar 0 rfl).range underlying58 rfl (by kernel_rfl) ?_);go_ret;have hS:=(HS.new 258 (eU [x0,x1,x2,x3,x4,x5,x6,x7,x8,x9,l4,l5,l6,l7,l8,l9,l_,mf,mh,mi,mj,mm,mo,mq] aw seq ⟨-1,0,0,0,0,1⟩)).ap9;simp only[cG]at hS;exact⟨_,rfl,hS⟩
def E4(w:World)(b:Nat)(cs:List Value)(aD:cs.length=24)(aw seq:Int)(v:V)(hv:VS v)(hB:cB w b 258 (eU cs aw seq v)):ba 223 #[O b] w (.tuple #[.agg (eF (Vw.ask v).1).toArray,.bool (Vw.ask v).2]):=by
 obtain⟨held,step,block,a,val,s⟩:=v;have hS:=(Sep.nil (Fr.refl [] w)).new 82 [I 0,I 0,U 0,U 0,U 0,U 0];have HS:=aa hS;clear hS;have HB:=aa (λw' (f:Fr [] w w')=>hB.fr f (by simp));have uG:=hB.lt;clear hB;unfold Vw.ask;dsimp only;by_cases h3:step=3;refine ?Z;rotate_left;refine ?Y
 case' Z=>rw[aB h3];subst h3;clear hv
 case' Y=>
  rw[aq h3];obtain rfl:step=0:=by rcases hv with h|h;exact absurd h.2 h3;exact h.2
  clear hv h3
 case' Z|Y=>
  have hB:=HB.out _ HS.fr;have iF:=hB.aR aD 24 rfl rfl;have cu:=hB.aR aD 27 rfl rfl;have dz:=hB.aR aD 28 rfl rfl;have dX:=hB.aR aD 29 rfl rfl;dsimp only at cu dz dX;have kl:=hB.lt;have cC:=hB.drew;have pg:¬b=w.heap.size:=by omega
  clear hB;delta ba;go_in
 case' Z=>have fD:=dg ⟨0,a,0,0,0,0⟩;go_wp2_with(first|(refine aC HS.out 0 rfl (eF ⟨0,a,0,0,0,0⟩) 82 _ _ rfl rfl rfl rfl rfl (by kernel_rfl) fD (λwA hA _=>?_);have HS:=aa hA;clear hA))
 case' Y=>have fD:=dg p0;go_wp2_with(first|(refine aC HS.out 0 rfl (eF p0) 82 _ _ rfl rfl rfl rfl rfl (by kernel_rfl) fD (λwA hA _=>?_);have HS:=aa hA;clear hA))
 case' Z=>exact aV (v:= .tuple #[.agg (eF ⟨0,a,0,0,0,0⟩).toArray,.bool true]) (bj Tryz.results223 rfl rfl (HS.ar 0 rfl).range underlying82 rfl (by kernel_rfl)) rfl ⟨rfl,HS.fr⟩
 exact aV (v:= .tuple #[.agg (eF p0).toArray,.bool false]) (bj Tryz.results223 rfl rfl (HS.ar 0 rfl).range underlying82 rfl (by kernel_rfl)) rfl ⟨rfl,HS.fr⟩
