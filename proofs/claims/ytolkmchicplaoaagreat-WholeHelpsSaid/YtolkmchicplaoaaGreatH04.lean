/- A part of the proof. -/
import Derived.Lib.OthersKept
import Derived.Test.YtolkmchicplaoaaGreatH03
set_option linter.all false
set_option maxHeartbeats 8000000
set_option maxRecDepth 100000
open Go.Proofs.Tryz
namespace Go.aS.I_
def fieldsOf (op:Int):List UInt8:=
 if op=0∨op=8∨op=18∨op=19 then [97,105]
 else if op=1∨op=9∨op=10 then [97,98]
 else if(2≤op∧op≤7)∨op=12∨op=14 then [97,98,99]
 else if op=11∨op=13 then [97,98,105]
 else if op=15∨op=16∨op=20 then [97]
 else if op=17∨op=21 then [105]
 else []
def named (op:Int):Bool:=decide (0≤op∧op≤21)
end Go.aS.I_
namespace Go.Proofs.YtolkmchicplaoaaGreat
open Go.RowKit Go.aS Go.aS.I_
def bp (op:Int)(w:World)(e:Ending)(w':World):Prop:=
 ∃nm:ByteArray,e= .returned (.tuple #[.string nm,.string ⟨(fieldsOf op).toArray⟩])∧nm.toList.isEmpty= !named op∧Fr [] w w'
def Pj (w):Calls Tryz.prog 172 #[I 11] w (bp 11 w):=by
 unfold bp;go_wp2;go_ret2;exact⟨_,rfl,by rw[gP];decide,Fr.refl _ _⟩
def Pk (w):Calls Tryz.prog 172 #[I 12] w (bp 12 w):=by
 unfold bp;go_wp2;go_ret2;exact⟨_,rfl,by rw[gP];decide,Fr.refl _ _⟩
def Pm (w):Calls Tryz.prog 172 #[I 13] w (bp 13 w):=by
 unfold bp;go_wp2;go_ret2;exact⟨_,rfl,by rw[gP];decide,Fr.refl _ _⟩
def Pn (w):Calls Tryz.prog 172 #[I 14] w (bp 14 w):=by
 unfold bp;go_wp2;go_ret2;exact⟨_,rfl,by rw[gP];decide,Fr.refl _ _⟩
def Po (w):Calls Tryz.prog 172 #[I 15] w (bp 15 w):=by
 unfold bp;go_wp2;go_ret2;exact⟨_,rfl,by rw[gP];decide,Fr.refl _ _⟩
def Pp (w):Calls Tryz.prog 172 #[I 16] w (bp 16 w):=by
 unfold bp;go_wp2;go_ret2;exact⟨_,rfl,by rw[gP];decide,Fr.refl _ _⟩
def Pq (w):Calls Tryz.prog 172 #[I 17] w (bp 17 w):=by
 unfold bp;go_wp2;go_ret2;exact⟨_,rfl,by rw[gP];decide,Fr.refl _ _⟩
def Pr (w):Calls Tryz.prog 172 #[I 18] w (bp 18 w):=by
 unfold bp;go_wp2;go_ret2;exact⟨_,rfl,by rw[gP];decide,Fr.refl _ _⟩
def Ps (w):Calls Tryz.prog 172 #[I 19] w (bp 19 w):=by
 unfold bp;go_wp2;go_ret2;exact⟨_,rfl,by rw[gP];decide,Fr.refl _ _⟩
def Pt (w):Calls Tryz.prog 172 #[I 20] w (bp 20 w):=by
 unfold bp;go_wp2;go_ret2;exact⟨_,rfl,by rw[gP];decide,Fr.refl _ _⟩
def Pu (w):Calls Tryz.prog 172 #[I 21] w (bp 21 w):=by
 unfold bp;go_wp2;go_ret2;exact⟨_,rfl,by rw[gP];decide,Fr.refl _ _⟩
def YA (w):Calls Tryz.prog 153 #[I 0] w (bp 0 w):=by
 unfold bp;go_wp2;go_ret2;exact⟨_,rfl,by rw[gP];decide,Fr.refl _ _⟩
def YB (w):Calls Tryz.prog 153 #[I 1] w (bp 1 w):=by
 unfold bp;go_wp2;go_ret2;exact⟨_,rfl,by rw[gP];decide,Fr.refl _ _⟩
def YC (w):Calls Tryz.prog 153 #[I 2] w (bp 2 w):=by
 unfold bp;go_wp2;go_ret2;exact⟨_,rfl,by rw[gP];decide,Fr.refl _ _⟩
def YD (w):Calls Tryz.prog 153 #[I 3] w (bp 3 w):=by
 unfold bp;go_wp2;go_ret2;exact⟨_,rfl,by rw[gP];decide,Fr.refl _ _⟩
def YE (w):Calls Tryz.prog 153 #[I 4] w (bp 4 w):=by
 unfold bp;go_wp2;go_ret2;exact⟨_,rfl,by rw[gP];decide,Fr.refl _ _⟩
def YF (w):Calls Tryz.prog 153 #[I 5] w (bp 5 w):=by
 unfold bp;go_wp2;go_ret2;exact⟨_,rfl,by rw[gP];decide,Fr.refl _ _⟩
def YG (w):Calls Tryz.prog 153 #[I 6] w (bp 6 w):=by
 unfold bp;go_wp2;go_ret2;exact⟨_,rfl,by rw[gP];decide,Fr.refl _ _⟩
def YH (w):Calls Tryz.prog 153 #[I 7] w (bp 7 w):=by
 unfold bp;go_wp2;go_ret2;exact⟨_,rfl,by rw[gP];decide,Fr.refl _ _⟩
def YI (w):Calls Tryz.prog 153 #[I 8] w (bp 8 w):=by
 unfold bp;go_wp2;go_ret2;exact⟨_,rfl,by rw[gP];decide,Fr.refl _ _⟩
def YJ (w):Calls Tryz.prog 153 #[I 9] w (bp 9 w):=by
 unfold bp;go_wp2;go_ret2;exact⟨_,rfl,by rw[gP];decide,Fr.refl _ _⟩
def Ug (w):Calls Tryz.prog 153 #[I 10] w (bp 10 w):=by
 unfold bp;go_wp2;go_ret2;exact⟨_,rfl,by rw[gP];decide,Fr.refl _ _⟩
def Uh (w):Calls Tryz.prog 153 #[I 11] w (bp 11 w):=by
 have H:=Pj;unfold bp at*;go_in;go_wp2_with fail;refine(H _).mono ?_;rintro e w1 ⟨nm,rfl,hn,hf⟩;have HF:=aa hf;clear hf;go_wp2;go_ret2;exact⟨_,rfl,hn,HF.out⟩
def Ui (w):Calls Tryz.prog 153 #[I 12] w (bp 12 w):=by
 have H:=Pk;unfold bp at*;go_in;go_wp2_with fail;refine(H _).mono ?_;rintro e w1 ⟨nm,rfl,hn,hf⟩;have HF:=aa hf;clear hf;go_wp2;go_ret2;exact⟨_,rfl,hn,HF.out⟩
def Uj (w):Calls Tryz.prog 153 #[I 13] w (bp 13 w):=by
 have H:=Pm;unfold bp at*;go_in;go_wp2_with fail;refine(H _).mono ?_;rintro e w1 ⟨nm,rfl,hn,hf⟩;have HF:=aa hf;clear hf;go_wp2;go_ret2;exact⟨_,rfl,hn,HF.out⟩
def Uk (w):Calls Tryz.prog 153 #[I 14] w (bp 14 w):=by
 have H:=Pn;unfold bp at*;go_in;go_wp2_with fail;refine(H _).mono ?_;rintro e w1 ⟨nm,rfl,hn,hf⟩;have HF:=aa hf;clear hf;go_wp2;go_ret2;exact⟨_,rfl,hn,HF.out⟩
def Ul (w):Calls Tryz.prog 153 #[I 15] w (bp 15 w):=by
 have H:=Po;unfold bp at*;go_in;go_wp2_with fail;refine(H _).mono ?_;rintro e w1 ⟨nm,rfl,hn,hf⟩;have HF:=aa hf;clear hf;go_wp2;go_ret2;exact⟨_,rfl,hn,HF.out⟩
def Um (w):Calls Tryz.prog 153 #[I 16] w (bp 16 w):=by
 have H:=Pp;unfold bp at*;go_in;go_wp2_with fail;refine(H _).mono ?_;rintro e w1 ⟨nm,rfl,hn,hf⟩;have HF:=aa hf;clear hf;go_wp2;go_ret2;exact⟨_,rfl,hn,HF.out⟩
def Un (w):Calls Tryz.prog 153 #[I 17] w (bp 17 w):=by
 have H:=Pq;unfold bp at*;go_in;go_wp2_with fail;refine(H _).mono ?_;rintro e w1 ⟨nm,rfl,hn,hf⟩;have HF:=aa hf;clear hf;go_wp2;go_ret2;exact⟨_,rfl,hn,HF.out⟩
def Uo (w):Calls Tryz.prog 153 #[I 18] w (bp 18 w):=by
 have H:=Pr;unfold bp at*;go_in;go_wp2_with fail;refine(H _).mono ?_;rintro e w1 ⟨nm,rfl,hn,hf⟩;have HF:=aa hf;clear hf;go_wp2;go_ret2;exact⟨_,rfl,hn,HF.out⟩
def Uq (w):Calls Tryz.prog 153 #[I 19] w (bp 19 w):=by
 have H:=Ps;unfold bp at*;go_in;go_wp2_with fail;refine(H _).mono ?_;rintro e w1 ⟨nm,rfl,hn,hf⟩;have HF:=aa hf;clear hf;go_wp2;go_ret2;exact⟨_,rfl,hn,HF.out⟩
def Ur (w):Calls Tryz.prog 153 #[I 20] w (bp 20 w):=by
 have H:=Pt;unfold bp at*;go_in;go_wp2_with fail;refine(H _).mono ?_;rintro e w1 ⟨nm,rfl,hn,hf⟩;have HF:=aa hf;clear hf;go_wp2;go_ret2;exact⟨_,rfl,hn,HF.out⟩
def Ut (w):Calls Tryz.prog 153 #[I 21] w (bp 21 w):=by
 have H:=Pu;unfold bp at*;go_in;go_wp2_with fail;refine(H _).mono ?_;rintro e w1 ⟨nm,rfl,hn,hf⟩;have HF:=aa hf;clear hf;go_wp2;go_ret2;exact⟨_,rfl,hn,HF.out⟩
def Lt (w op)(h:op<0∨21<op):Calls Tryz.prog 153 #[I op] w (bp op w):=by
 have hn:named op=false:=by unfold named;rw[yJ];omega
 have hf:fieldsOf op=[]:=by unfold fieldsOf;repeat(rw[aq (by omega)])
 have HO:∀w',Calls Tryz.prog 172 #[I op] w' (bp op w'):=by
  intro w';unfold bp;rw[hn,hf];have qM:(op==11)=false:=by simp;omega
  have qN:(op==12)=false:=by simp;omega
  have yX:(op==13)=false:=by simp;omega
  have B4:(op==14)=false:=by simp;omega
  have JN:(op==15)=false:=by simp;omega
  have GI:(op==16)=false:=by simp;omega
  have lN:(op==17)=false:=by simp;omega
  have lO:(op==18)=false:=by simp;omega
  have nO:(op==19)=false:=by simp;omega
  have rp:(op==20)=false:=by simp;omega
  have sG:(op==21)=false:=by simp;omega
  clear h hn hf;go_wp2;go_ret2;exact⟨_,rfl,by rw[gP];decide,Fr.refl _ _⟩
 have e0:(op==0)=false:=by simp;omega
 have e1:(op==1)=false:=by simp;omega
 have e2:(op==2)=false:=by simp;omega
 have e3:(op==3)=false:=by simp;omega
 have e4:(op==4)=false:=by simp;omega
 have e5:(op==5)=false:=by simp;omega
 have e6:(op==6)=false:=by simp;omega
 have e7:(op==7)=false:=by simp;omega
 have e8:(op==8)=false:=by simp;omega
 have e9:(op==9)=false:=by simp;omega
 have o7:(op==10)=false:=by simp;omega
 unfold bp at*;have HO:=aa HO;rw[hn,hf]at*;clear h hn hf;go_in;go_wp2_with fail;refine(HO.out _).mono ?_;rintro e w1 ⟨nm,rfl,hn,hf⟩;have HF:=aa hf;clear hf;go_wp2;go_ret2;exact⟨_,rfl,hn,HF.out⟩
def EY (w op):Calls Tryz.prog 153 #[I op] w (bp op w):=by
 by_cases h:op<0∨21<op
 ·exact Lt w op h
 ·obtain⟨n,rfl⟩:∃n:Nat,op=n:=⟨op.toNat,by omega⟩;have hn:n≤21:=by omega
  clear h
  match n,hn with
  |0,_=>exact YA w
  |1,_=>exact YB w
  |2,_=>exact YC w
  |3,_=>exact YD w
  |4,_=>exact YE w
  |5,_=>exact YF w
  |6,_=>exact YG w
  |7,_=>exact YH w
  |8,_=>exact YI w
  |9,_=>exact YJ w
  |10,_=>exact Ug w
  |11,_=>exact Uh w
  |12,_=>exact Ui w
  |13,_=>exact Uj w
  |14,_=>exact Uk w
  |15,_=>exact Ul w
  |16,_=>exact Um w
  |17,_=>exact Un w
  |18,_=>exact Uo w
  |19,_=>exact Uq w
  |20,_=>exact Ur w
  |21,_=>exact Ut w
  |n+22,h=>omega
def oT {w:World}{k:Nat}{s:ByteArray}{p:Nat}(h:w.heap[k]?=some (.stringIter s p)):w.iterPos k=p:=by simp[World.iterPos,h]
def Fr.iterAt {a w}(h:Fr [] a w){k}(hk:a.heap.size≤k)(s:ByteArray)(pos):Fr [] a (w.iterAt k s pos):=
 ⟨h.os,h.tape,h.output,by rw[Lib.iterAt_size];exact h.size,λj hj hn=>(Lib.iterAt_other w k j s pos (by omega)).trans (h.block j hj hn)⟩
def jw (l:List UInt8):Bool:=l.any (λx=>decide (x≠97∧x≠98∧x≠99))
def hasB (l:List UInt8)(x:UInt8):Bool:=l.any (λy=>decide (y=x))
def wP (l)(y x:UInt8):hasB (l++[y]) x=(hasB l x||decide (y=x)):=by simp[hasB]
def Lu (l)(y:UInt8):jw (l++[y])=(jw l||decide (y≠97∧y≠98∧y≠99)):=by simp[jw]
def tj (l:List UInt8)(k:Nat)(h:k<l.length):l.take (k+1)=l.take k++[l[k]]:=by
 rw[List.take_add_one,cy h];rfl
def YK(w op l)(hl:fieldsOf op=l)(ha:∀x∈l,x.toNat<128):ba 130 #[I op] w (.tuple #[.bool (hasB l 97),.bool (hasB l 98),.bool (hasB l 99),.bool (jw l)]):=by
 have HF:=EY w op;unfold bp at HF;rw[hl]at HF;clear hl;have HA:=aa ha;clear ha;delta ba;go_in;go_wp2_with fail;refine HF.mono ?_;rintro e w1 ⟨nm,rfl,_,hf⟩;obtain⟨s,hs⟩:∃s:ByteArray,s=⟨l.toArray⟩:=⟨_,rfl⟩;have aD:s.size=l.length:=by rw[hs];simp[ByteArray.size]
 have kS:∀(k:Nat) (h:k<s.size) (h2:k<l.length),s[k]=l[k]:=by intro k h h2;subst hs;show l.toArray[k]=l[k];rw[List.getElem_toArray]
 rw[←hs];have S0:=aa aD;have HG:=aa kS;have JO:=aa hf;clear hs aD kS hf HF;go_wp2_with fail;go_loopw [2,3,4,5] (λa b c d wr=>∃pos:Nat,pos≤l.length∧wr.heap[w1.heap.size]?=some (.stringIter s pos)∧Fr [] w wr∧a= .bool (hasB (l.take pos) 97)∧b= .bool (hasB (l.take pos) 98)∧c= .bool (hasB (l.take pos) 99)∧d= .bool (jw (l.take pos))) (λ_ _ _ _ wr=>l.length-wr.iterPos w1.heap.size)
 case' atStart=>skip
 refine ?Z
 case' round=>skip
 refine ?Y
 case' Z=>exact⟨0,cE _,World.iter_heap w1 s 0,JO.alloc _,rfl,rfl,rfl,rfl⟩
 obtain⟨pos,B5,Uu,pe,rfl,rfl,rfl,rfl⟩:=hrel;have JP:=oT Uu;have iy:w.heap.size≤w1.heap.size:=JO.out.size;by_cases hp:pos<l.length;refine ?X;rotate_left;refine ?J
 case' X=>
  have GJ:pos<s.size:=by rw[S0.out];exact hp
  obtain⟨x,hx⟩:∃x,l[pos]=x:=⟨_,rfl⟩;have GD:x.toNat<128:=by rw[←hx];exact HA.out _ (cJ hp)
  have hgx:(s[pos]'GJ)=x:=by rw[HG.out pos GJ hp];exact hx
  obtain⟨xb,NO⟩:∃xb,x.toNat=xb:=⟨_,rfl⟩;have kT:∀ty,(Instr.next (O w1.heap.size) true ty).run Tryz.prog wr= .ok (.tuple #[.bool true,I pos,.int .i32 xb]) (wr.iterAt w1.heap.size s (pos+1)):=λty=>by
   rw[Lib.run_next_ascii_at wr w1.heap.size s pos ty Uu GJ (by rw[hgx];exact GD),hgx,NO]
  have zF:=Lib.iterAt_heap wr w1.heap.size s pos (pos+1) Uu;have Pv:=Fr.iterAt pe (k:=w1.heap.size) iy s (pos+1);generalize wr.iterAt w1.heap.size s (pos+1)=W1 at kT zF Pv;have k97:x=97↔xb=97:=by rw[←NO,←UInt8.toNat_inj];exact Iff.rfl
  have k98:x=98↔xb=98:=by rw[←NO,←UInt8.toNat_inj];exact Iff.rfl
  have k99:x=99↔xb=99:=by rw[←NO,←UInt8.toNat_inj];exact Iff.rfl
  have H97:Hid (hasB (l.take (pos+1)) 97=(hasB (l.take pos) 97||decide (xb=97))):=aa (by rw[tj l pos hp,hx,wP,sX.2 k97]);have H98:Hid (hasB (l.take (pos+1)) 98=(hasB (l.take pos) 98||decide (xb=98))):=aa (by rw[tj l pos hp,hx,wP,sX.2 k98]);have H99:Hid (hasB (l.take (pos+1)) 99=(hasB (l.take pos) 99||decide (xb=99))):=aa (by rw[tj l pos hp,hx,wP,sX.2 k99]);have HOT:Hid (jw (l.take (pos+1))=(jw (l.take pos)||decide (xb≠97∧xb≠98∧xb≠99))):=aa (by rw[tj l pos hp,hx,Lu];simp only[ne_eq,k97,k98,k99]);clear k97 k98 k99 hgx hx NO Uu pe GJ;generalize hasB (l.take pos) 97=f97 at*;generalize hasB (l.take pos) 98=f98 at*;generalize hasB (l.take pos) 99=f99 at*;generalize jw (l.take pos)=fot at*
 case' X=>by_cases W4:xb=97;refine ?G;rotate_left;refine ?D
 case' D=>by_cases W5:xb=98;refine ?V;rotate_left;refine ?U
 case' U=>by_cases W6:xb=99;refine ?g0;rotate_left;refine ?g1
 case' G=>have e97:((xb:Int)==97)=true:=by simp;omega
 case' g1=>have e97:((xb:Int)==97)=false:=by simp;omega
 case' G|g1=>
  have e98:((xb:Int)==98)=false:=by simp;omega
  have e99:((xb:Int)==99)=false:=by simp;omega
  go_wp2_with fail
 case' G=>
  go_roundw
  case rel=>exact⟨pos+1,by omega,zF,Pv,by rw[H97.out];simp[W4],by rw[H98.out];simp[W4],by rw[H99.out];simp[W4],by rw[HOT.out];simp[W4]⟩
  case measure=>rw[oT zF,JP];omega
 case' g1=>
  go_roundw
  case rel=>exact⟨pos+1,by omega,zF,Pv,by rw[H97.out];simp[W4,W5,W6],by rw[H98.out];simp[W4,W5,W6],by rw[H99.out];simp[W4,W5,W6],by rw[HOT.out];simp[W4,W5,W6]⟩
  case measure=>rw[oT zF,JP];omega
 case' V=>
  have e97:((xb:Int)==97)=false:=by simp;omega
  have e98:((xb:Int)==98)=true:=by simp;omega
  have e99:((xb:Int)==99)=false:=by simp;omega
  go_wp2_with fail
 case' V=>
  go_roundw
  case rel=>exact⟨pos+1,by omega,zF,Pv,by rw[H97.out];simp[W5],by rw[H98.out];simp[W5],by rw[H99.out];simp[W5],by rw[HOT.out];simp[W5]⟩
  case measure=>rw[oT zF,JP];omega
 case' g0=>
  have e97:((xb:Int)==97)=false:=by simp;omega
  have e98:((xb:Int)==98)=false:=by simp;omega
  have e99:((xb:Int)==99)=true:=by simp;omega
  go_wp2_with fail
 case' g0=>
  go_roundw
  case rel=>exact⟨pos+1,by omega,zF,Pv,by rw[H97.out];simp[W6],by rw[H98.out];simp[W6],by rw[H99.out];simp[W6],by rw[HOT.out];simp[W6]⟩
  case measure=>rw[oT zF,JP];omega
 have GJ:¬pos<s.size:=by rw[S0.out];exact hp
 have kT:∀ty,(Instr.next (O w1.heap.size) true ty).run Tryz.prog wr=_:=λty=>Lib.run_next_end_at wr w1.heap.size s pos ty Uu GJ;obtain rfl:pos=l.length:=by omega
 rw[tV];go_wp2_with fail;exact aV (v:= .tuple #[.bool (hasB l 97),.bool (hasB l 98),.bool (hasB l 99),.bool (jw l)]) (by simp[results,Tryz.results130,go_sem]) rfl ⟨rfl,pe⟩
def Pw (w op):ba 130 #[I op] w (.tuple #[.bool (xO op),.bool (xP op),.bool (xQ op),.bool (BY op)]):=by
 have key:∀l,fieldsOf op=l→(hasB l 97=xO op∧hasB l 98=xP op∧hasB l 99=xQ op∧jw l=BY op)∧∀x∈l,x.toNat<128:=by
  intro l hl;unfold fieldsOf at hl;have A:∀p:Prop,[Decidable p]→p→decide p=true:=λp _ h=>eP h;have B:∀p:Prop,[Decidable p]→¬p→decide p=false:=λp _ h=>cW h;unfold xO xP xQ BY
  repeat' (split at hl)
  all_goals subst hl
  all_goals refine⟨⟨?_,?_,?_,?_⟩,by decide⟩
  all_goals first|(rw[show hasB _ _=true by decide,A];omega)|(rw[show hasB _ _=false by decide,B];omega)|(rw[show jw _=true by decide,A];omega)|(rw[show jw _=false by decide,B];omega)
 obtain⟨⟨h1,h2,h3,h4⟩,h5⟩:=key _ rfl;have:=YK w op _ rfl h5;rwa [h1,h2,h3,h4]at this
def Px (w op):Calls Tryz.prog 131 #[I op] w λe w'=>∃nm:ByteArray,e= .returned (.string nm)∧nm.toList.isEmpty= !named op∧Fr [] w w':=by
 have H:=EY w op;unfold bp at H;go_in;go_wp2_with fail;refine H.mono ?_;rintro e w1 ⟨nm,rfl,hn,hf⟩;have HF:=aa hf;clear hf;have HN:=aa hn;clear hn;go_wp2;go_ret;exact⟨_,rfl,HN.out,HF.out⟩
def Uv (w n u)(e1:(n==0)=true):ba 132 #[I n,.bool u] w (.bool true):=by
 delta ba;go_in;go_wp2;go_ret;exact⟨rfl,Fr.refl _ _⟩
def Uw (w n)(e1:(n==0)=false):ba 132 #[I n,.bool false] w (.bool false):=by
 delta ba;go_in;go_wp2;go_ret;exact⟨rfl,Fr.refl _ _⟩
def Ux (w n)(e1:(n==0)=false)(e2:decide (n>0)=false):ba 132 #[I n,.bool true] w (.bool false):=by
 delta ba;go_in;go_wp2;go_ret;exact⟨rfl,Fr.refl _ _⟩
def Uy (w n)(e1:(n==0)=false)(e2:decide (n>0)=true)(e3:decide (n<16)=true):ba 132 #[I n,.bool true] w (.bool true):=by
 delta ba;go_in;go_wp2;go_ret;exact⟨rfl,Fr.refl _ _⟩
def Uz (w n)(e1:(n==0)=false)(e2:decide (n>0)=true)(e3:decide (n<16)=false):ba 132 #[I n,.bool true] w (.bool false):=by
 delta ba;go_in;go_wp2;go_ret;exact⟨rfl,Fr.refl _ _⟩
def wQ (w n u):ba 132 #[I n,.bool u] w (.bool (field n u)):=by
 by_cases h0:n=0
 ·rw[show field n u=true by simp[field,h0]];exact Uv w n u (by simp[h0])
 ·have e1:(n==0)=false:=by simpa using h0
  cases u
  ·rw[show field n false=false by simp[field,h0]];exact Uw w n e1
  ·by_cases h1:0<n
   ·by_cases h2:n<16
    ·rw[show field n true=true by simp[field,h1,h2]];exact Uy w n e1 (by simpa using h1) (by simpa using h2)
    ·rw[show field n true=false by simp[field,h0,h2]];exact Uz w n e1 (by simpa using h1) (by simp;omega)
   ·rw[show field n true=false by simp[field,h0,h1]];exact Ux w n e1 (by simp;omega)
def Py (i):plain i=(named i.op&&field i.a (xO i.op)&&field i.b (xP i.op)&&field i.c (xQ i.op)&&(BY i.op||decide (i.bN=0))):=rfl
def Lv(w i):ba 105 #[.agg (gl i).toArray] w (.bool (plain i)):=by
 rw[Py];obtain⟨op,a,b,c,bN⟩:=i;have HU:=aa (λw'=>Pw w' op);have HN:=aa (λw'=>Px w' op);have HA:=aa (λw'=>wQ w' a (xO op));have HB':=aa (λw'=>wQ w' b (xP op));have HC:=aa (λw'=>wQ w' c (xQ op));unfold gl;dsimp only;generalize field a (xO op)=fa at*;generalize field b (xP op)=fb at*;generalize field c (xQ op)=fc at*;generalize xO op=ua at*;generalize xP op=ub at*;generalize xQ op=uc at*;generalize BY op=ui at*;generalize named op=no at*;have UL:fa=true∨fa=false:=by cases fa<;>simp
 cases no
 refine ?Z;rotate_left;refine ?Y
 case' Y=>
  cases fa
  refine ?X;rotate_left;refine ?J
 case' J=>
  cases fb
  refine ?G;rotate_left;refine ?D
 case' D=>
  cases fc
  refine ?V;rotate_left;refine ?U
 case' U=>
  cases ui
  refine ?g0;rotate_left;refine ?g1
 case' g0=>by_cases hi:bN=0;refine ?g2;rotate_left;refine ?g3
 case' g2=>have qL:(bN==0)=true:=by simpa using hi
 case' g3=>have qL:(bN==0)=false:=by simpa using hi
 case' g2|g3=>have HI:=aa hi;clear hi
 case' Z|X|G|V|g2|g3|g1=>have hB:=cB.new w 28 [I op,I a,I b,I c,U bN];have b0:=hB.cell 0;simp only[gn]at b0;clear hB;delta ba;go_in;go_wp2_with fail;refine(HU.out _).kk λw1 hf=>?_;have HF:=aa (((Fr.refl [] w).alloc _).trans hf);have HB:=aa ((cB.new w 28 [I op,I a,I b,I c,U bN]).fr hf (by simp));clear hf b0;have b0:=HB.cell 0;simp only[gn]at b0;go_wp2_with fail;refine(HN.out _).mono ?_;rintro e w2 ⟨nm,rfl,UA,hf⟩;have HF:=aa (HF.trans hf);have HB:=aa (HB.fr hf (by simp));clear hf b0
 case' Z=>go_wp2;go_ret
 case' X|G|V|g2|g3|g1=>have b1:=HB.cell 1;simp only[zg]at b1;go_wp2_with fail;refine(HA.out _).kk λw3 hf=>?_;have HF:=aa (HF.trans hf);have HB:=aa (HB.fr hf (by simp));clear hf b1
 case' X=>go_wp2;go_ret
 case' G|V|g2|g3|g1=>have b2:=HB.cell 2;simp only[zg]at b2;go_wp2_with fail;refine(HB'.out _).kk λw4 hf=>?_;have HF:=aa (HF.trans hf);have HB:=aa (HB.fr hf (by simp));clear hf b2
 case' G=>go_wp2;go_ret
 case' V|g2|g3|g1=>have b3:=HB.cell 3;simp only[zg]at b3;go_wp2_with fail;refine(HC.out _).kk λw5 hf=>?_;have HF:=aa (HF.trans hf);have HB:=aa (HB.fr hf (by simp));clear hf b3
 case' V=>go_wp2;go_ret
 case' g2|g3=>have b4:=HB.cell 4;simp only[zg]at b4;go_wp2;go_ret
 case' g1=>go_wp2;go_ret
 case' Z|X|G|V|g1=>exact⟨by simp,HF.out⟩
 case' g2|g3=>exact⟨by simp[HI.out],HF.out⟩
def dJ (w:World)(v:Value)(L:List In):Prop:=dB gl 5 w v L∧L.length≤100000∧∀i∈L,0≤i.bN∧i.bN≤18446744073709551615
def dJ.fr {w w' v L}(h:dJ w v L)(f:Fr [] w w'):dJ w' v L:=⟨h.1.fr f,h.2⟩
def Pz (w op):ba 78 #[I op] w (.bool (ends op)):=by
 by_cases h0:op=20
 ·have e1:(op==20)=true:=by simpa using h0
  rw[show ends op=true by simp[ends,h0]];clear h0;delta ba;go_in;go_wp2;go_ret;exact⟨rfl,Fr.refl _ _⟩
 ·have e1:(op==20)=false:=by simpa using h0
  have e2:ends op=(op==21):=by
   by_cases h1:op=21
   ·simp[ends,h1]
   ·simp[ends,h0,h1]
  rw[e2];clear h0 e2;delta ba;go_in;go_wp2;go_ret;exact⟨rfl,Fr.refl _ _⟩
def YL (w op)(e1:(op==10)=true):ba 171 #[I op] w (I 1):=by
 delta ba;go_in;go_wp2;go_ret;exact⟨rfl,Fr.refl _ _⟩
def YM (w op)(e1:(op==10)=false)(e2:(op==13)=true):ba 171 #[I op] w (I 1):=by
 delta ba;go_in;go_wp2;go_ret;exact⟨rfl,Fr.refl _ _⟩
def YN (w op)(e1:(op==10)=false)(e2:(op==13)=false)(e3:(op==14)=true):ba 171 #[I op] w (I 1):=by
 delta ba;go_in;go_wp2;go_ret;exact⟨rfl,Fr.refl _ _⟩
def YO (w op)(e1:(op==10)=false)(e2:(op==13)=false)(e3:(op==14)=false)(e4:(op==16)=true):ba 171 #[I op] w (I 2):=by
 delta ba;go_in;go_wp2;go_ret;exact⟨rfl,Fr.refl _ _⟩
def YP (w op)(e1:(op==10)=false)(e2:(op==13)=false)(e3:(op==14)=false)(e4:(op==16)=false)(e5:(op==15)=true):ba 171 #[I op] w (I 9):=by
 delta ba;go_in;go_wp2;go_ret;exact⟨rfl,Fr.refl _ _⟩
def YQ (w op)(e1:(op==10)=false)(e2:(op==13)=false)(e3:(op==14)=false)(e4:(op==16)=false)(e5:(op==15)=false):ba 171 #[I op] w (I 0):=by
 delta ba;go_in;go_wp2;go_ret;exact⟨rfl,Fr.refl _ _⟩
def zG (w op):ba 171 #[I op] w (I (bV op)):=by
 by_cases h1:op=10
 ·rw[show bV op=1 by simp[bV,h1]];exact YL w op (by simpa using h1)
 ·have e1:(op==10)=false:=by simpa using h1
  by_cases h2:op=13
  ·rw[show bV op=1 by simp[bV,h2]];exact YM w op e1 (by simpa using h2)
  ·have e2:(op==13)=false:=by simpa using h2
   by_cases h3:op=14
   ·rw[show bV op=1 by simp[bV,h3]];exact YN w op e1 e2 (by simpa using h3)
   ·have e3:(op==14)=false:=by simpa using h3
    by_cases h4:op=16
    ·rw[show bV op=2 by simp[bV,h4]];exact YO w op e1 e2 e3 (by simpa using h4)
    ·have e4:(op==16)=false:=by simpa using h4
     by_cases h5:op=15
     ·rw[show bV op=9 by simp[bV,h5]];exact YP w op e1 e2 e3 e4 (by simpa using h5)
     ·rw[show bV op=0 by simp[bV,h1,h2,h3,h4,h5]];exact YQ w op e1 e2 e3 e4 (by simpa using h5)
def zq15:(∀(w x n cap k op a b c bN pl)(hk:k<n)(hn:n≤100000)(hx:x.block<w.heap.size)(d0:w.cell? (x.add (k*5))=some (I op))(d1:w.cell? ⟨(x.add (k*5)).block,(x.add (k*5)).off+1,none⟩=some (I a))(d2:w.cell? ⟨(x.add (k*5)).block,(x.add (k*5)).off+2,none⟩=some (I b))(d3:w.cell? ⟨(x.add (k*5)).block,(x.add (k*5)).off+3,none⟩=some (I c))(d4:w.cell? ⟨(x.add (k*5)).block,(x.add (k*5)).off+4,none⟩=some (U bN))(HP:Hid (∀w',ba 105 #[.agg #[I op,I a,I b,I c,U bN]] w' (.bool pl))),(∀(e0:pl=false),ba 77 #[.slice (some x) n cap,I k] w (I 30))∧(∀(e0:pl=true)(e1:(op==8)=true)(e2:decide (bN≥4)=true),ba 77 #[.slice (some x) n cap,I k] w (I 1))∧(∀(e0:pl=true)(e1:(op==8)=true)(e2:decide (bN≥4)=false),ba 77 #[.slice (some x) n cap,I k] w (I 0))∧(∀(e0:pl=true)(e1:(op==8)=false)(e2:(op==11)=true)(e3:decide (bN≥8)=true),ba 77 #[.slice (some x) n cap,I k] w (I 1))∧(∀(e0:pl=true)(e1:(op==8)=false)(e2:(op==11)=true)(e3:decide (bN≥8)=false),ba 77 #[.slice (some x) n cap,I k] w (I 0))∧(∀(e0:pl=true)(e1:(op==8)=false)(e2:(op==11)=false)(e4:(op==13)=true)(e3:decide (bN≥8)=true),ba 77 #[.slice (some x) n cap,I k] w (I 1))∧(∀(e0:pl=true)(e1:(op==8)=false)(e2:(op==11)=false)(e4:(op==13)=true)(e3:decide (bN≥8)=false),ba 77 #[.slice (some x) n cap,I k] w (I 0))∧(∀(e0:pl=true)(e1:(op==8)=false)(e2:(op==11)=false)(e4:(op==13)=false)(e5:(op==21)=true)(e3:decide (bN<1)=true),ba 77 #[.slice (some x) n cap,I k] w (I 1))∧(∀(e0:pl=true)(e1:(op==8)=false)(e2:(op==11)=false)(e4:(op==13)=false)(e5:(op==21)=true)(e3:decide (bN<1)=false)(e6:decide (bN>255)=true),ba 77 #[.slice (some x) n cap,I k] w (I 1))∧(∀(e0:pl=true)(e1:(op==8)=false)(e2:(op==11)=false)(e4:(op==13)=false)(e5:(op==21)=true)(e3:decide (bN<1)=false)(e6:decide (bN>255)=false),ba 77 #[.slice (some x) n cap,I k] w (I 0))∧(∀(e0:pl=true)(e1:(op==8)=false)(e2:(op==11)=false)(e4:(op==13)=false)(e5:(op==21)=false)(e8:(op==17)=false)(e6:(op==18)=false)(e9:(op==19)=false),ba 77 #[.slice (some x) n cap,I k] w (I 0)))∧(∀(w)(x:Addr)(n cap k:Nat)(op a b c bN:Int)(pl:Bool)(hk:k<n)(hn:n≤100000)(hx:x.block<w.heap.size)(d0:w.cell? (x.add (k*5))=some (I op))(d1:w.cell? ⟨(x.add (k*5)).block,(x.add (k*5)).off+1,none⟩=some (I a))(d2:w.cell? ⟨(x.add (k*5)).block,(x.add (k*5)).off+2,none⟩=some (I b))(d3:w.cell? ⟨(x.add (k*5)).block,(x.add (k*5)).off+3,none⟩=some (I c))(d4:w.cell? ⟨(x.add (k*5)).block,(x.add (k*5)).off+4,none⟩=some (U bN))(HP:Hid (∀w',ba 105 #[.agg #[I op,I a,I b,I c,U bN]] w' (.bool pl)))(e0:pl=true)(e1:(op==8)=false)(e2:(op==11)=false)(e4:(op==13)=false)(e5:(op==21)=false),(∀(e6:(op==17)=true)(e3:decide (bN≤k)=true),ba 77 #[.slice (some x) n cap,I k] w (I 24))∧(∀(e6:(op==17)=true)(e3:decide (bN≤k)=false)(e7:decide (bN≥n)=true),ba 77 #[.slice (some x) n cap,I k] w (I 24))∧(∀(e6:(op==17)=true)(e3:decide (bN≤k)=false)(e7:decide (bN≥n)=false),ba 77 #[.slice (some x) n cap,I k] w (I 0))∧(∀(e8:(op==17)=false)(e6:(op==18)=true)(e3:decide (bN≤k)=true),ba 77 #[.slice (some x) n cap,I k] w (I 24))∧(∀(e8:(op==17)=false)(e6:(op==18)=true)(e3:decide (bN≤k)=false)(e7:decide (bN≥n)=true),ba 77 #[.slice (some x) n cap,I k] w (I 24))∧(∀(e8:(op==17)=false)(e6:(op==18)=true)(e3:decide (bN≤k)=false)(e7:decide (bN≥n)=false),ba 77 #[.slice (some x) n cap,I k] w (I 0))∧(∀(e8:(op==17)=false)(e6:(op==18)=false)(e9:(op==19)=true)(e3:decide (bN>k)=true),ba 77 #[.slice (some x) n cap,I k] w (I 24))∧(∀(e8:(op==17)=false)(e6:(op==18)=false)(e9:(op==19)=true)(e3:decide (bN>k)=false),ba 77 #[.slice (some x) n cap,I k] w (I 0))):=by
 refine⟨?Z,?Y⟩
 case' Z=>intro w x n cap k op a b c bN pl hk hn hx d0 d1 d2 d3 d4 HP;refine⟨?X,?J,?G,?D,?V,?U,?g0,?g1,?g2,?g3,?g4⟩
 case' Y=>intro w x n cap k op a b c bN pl hk hn hx d0 d1 d2 d3 d4 HP e0 e1 e2 e4 e5;refine⟨?g5,?g6,?g7,?g8,?g9,?ga,?gb,?gc⟩
 case' X=>intro e0
 case' J|G=>intro e0 e1 e2
 case' D|V=>intro e0 e1 e2 e3
 case' U|g0=>intro e0 e1 e2 e4 e3
 case' g2|g3=>intro e0 e1 e2 e4 e5 e3 e6
 case' g6|g7=>intro e6 e3 e7
 case' g9|ga=>intro e8 e6 e3 e7
 case' gb|gc=>intro e8 e6 e9 e3
 case' g1=>intro e0 e1 e2 e4 e5 e3
 case' g5=>intro e6 e3
 case' g8=>intro e8 e6 e3
 case' g4=>intro e0 e1 e2 e4 e5 e8 e6 e9
 case' X|J|G|D|V|U|g0|g2|g3|g6|g7|g9|ga|gb|gc|g1|g5|g8|g4=>
  have rX:(k:Int)<(n:Int):=by omega
  delta ba;go_in;go_wp2_with fail;have hb:=cB.new w 28 [I op,I a,I b,I c,U bN];refine(HP.out _).kk λw1 hf=>?_;have HF:=aa (((Fr.refl [] w).alloc _).trans hf);have HB:=aa (hb.fr hf (by simp));clear hf hb d0 d1 d2 d3 d4 HP;have b0:=HB.cell 0;have b4:=HB.cell 4;simp only[zg]at b0 b4;go_wp2;go_ret
 case' X|J|G|D|V|U|g0|g2|g3|g6|g7|g9|ga|gb|gc|g1|g5|g8|g4=>exact⟨rfl,HF.out⟩
def ae7(w x n cap k op a b c bN pl hk hn hx d0 d1 d2 d3 d4 HP):=(@zq15.1 w x n cap k op a b c bN pl hk hn hx d0 d1 d2 d3 d4 HP).1
def ae8(w x n cap k op a b c bN pl hk hn hx d0 d1 d2 d3 d4 HP):=(@zq15.1 w x n cap k op a b c bN pl hk hn hx d0 d1 d2 d3 d4 HP).2.1
def ae9(w x n cap k op a b c bN pl hk hn hx d0 d1 d2 d3 d4 HP):=(@zq15.1 w x n cap k op a b c bN pl hk hn hx d0 d1 d2 d3 d4 HP).2.2.1
def af0(w x n cap k op a b c bN pl hk hn hx d0 d1 d2 d3 d4 HP):=(@zq15.1 w x n cap k op a b c bN pl hk hn hx d0 d1 d2 d3 d4 HP).2.2.2.1
def af1(w x n cap k op a b c bN pl hk hn hx d0 d1 d2 d3 d4 HP):=(@zq15.1 w x n cap k op a b c bN pl hk hn hx d0 d1 d2 d3 d4 HP).2.2.2.2.1
def af2(w x n cap k op a b c bN pl hk hn hx d0 d1 d2 d3 d4 HP):=(@zq15.1 w x n cap k op a b c bN pl hk hn hx d0 d1 d2 d3 d4 HP).2.2.2.2.2.1
def af3(w x n cap k op a b c bN pl hk hn hx d0 d1 d2 d3 d4 HP):=(@zq15.1 w x n cap k op a b c bN pl hk hn hx d0 d1 d2 d3 d4 HP).2.2.2.2.2.2.1
def af4(w x n cap k op a b c bN pl hk hn hx d0 d1 d2 d3 d4 HP):=(@zq15.1 w x n cap k op a b c bN pl hk hn hx d0 d1 d2 d3 d4 HP).2.2.2.2.2.2.2.1
def af5(w x n cap k op a b c bN pl hk hn hx d0 d1 d2 d3 d4 HP):=(@zq15.1 w x n cap k op a b c bN pl hk hn hx d0 d1 d2 d3 d4 HP).2.2.2.2.2.2.2.2.1
def af6(w x n cap k op a b c bN pl hk hn hx d0 d1 d2 d3 d4 HP):=(@zq15.1 w x n cap k op a b c bN pl hk hn hx d0 d1 d2 d3 d4 HP).2.2.2.2.2.2.2.2.2.1
def af7(w x n cap k op a b c bN pl hk hn hx d0 d1 d2 d3 d4 HP e0 e1 e2 e4 e5):=(@zq15.2 w x n cap k op a b c bN pl hk hn hx d0 d1 d2 d3 d4 HP e0 e1 e2 e4 e5).1
def af8(w x n cap k op a b c bN pl hk hn hx d0 d1 d2 d3 d4 HP e0 e1 e2 e4 e5):=(@zq15.2 w x n cap k op a b c bN pl hk hn hx d0 d1 d2 d3 d4 HP e0 e1 e2 e4 e5).2.1
def af9(w x n cap k op a b c bN pl hk hn hx d0 d1 d2 d3 d4 HP e0 e1 e2 e4 e5):=(@zq15.2 w x n cap k op a b c bN pl hk hn hx d0 d1 d2 d3 d4 HP e0 e1 e2 e4 e5).2.2.1
def ag0(w x n cap k op a b c bN pl hk hn hx d0 d1 d2 d3 d4 HP e0 e1 e2 e4 e5):=(@zq15.2 w x n cap k op a b c bN pl hk hn hx d0 d1 d2 d3 d4 HP e0 e1 e2 e4 e5).2.2.2.1
def ag1(w x n cap k op a b c bN pl hk hn hx d0 d1 d2 d3 d4 HP e0 e1 e2 e4 e5):=(@zq15.2 w x n cap k op a b c bN pl hk hn hx d0 d1 d2 d3 d4 HP e0 e1 e2 e4 e5).2.2.2.2.1
def ag2(w x n cap k op a b c bN pl hk hn hx d0 d1 d2 d3 d4 HP e0 e1 e2 e4 e5):=(@zq15.2 w x n cap k op a b c bN pl hk hn hx d0 d1 d2 d3 d4 HP e0 e1 e2 e4 e5).2.2.2.2.2.1
def ag3(w x n cap k op a b c bN pl hk hn hx d0 d1 d2 d3 d4 HP e0 e1 e2 e4 e5):=(@zq15.2 w x n cap k op a b c bN pl hk hn hx d0 d1 d2 d3 d4 HP e0 e1 e2 e4 e5).2.2.2.2.2.2.1
def ag4(w x n cap k op a b c bN pl hk hn hx d0 d1 d2 d3 d4 HP e0 e1 e2 e4 e5):=(@zq15.2 w x n cap k op a b c bN pl hk hn hx d0 d1 d2 d3 d4 HP e0 e1 e2 e4 e5).2.2.2.2.2.2.2
def ag5(w x n cap k op a b c bN pl hk hn hx d0 d1 d2 d3 d4 HP):=(@zq15.1 w x n cap k op a b c bN pl hk hn hx d0 d1 d2 d3 d4 HP).2.2.2.2.2.2.2.2.2.2
def PA (w a n cap L)(hn:n=L.length)(hL:dJ w (.slice a n cap) L)(k)(hk:k<n):ba 77 #[.slice a n cap,I k] w (I (one n k (L.getD k i0))):=by
 obtain⟨hA,hl,hu⟩:=hL;obtain⟨x,rfl,hx,c0,c1⟩:=hA.at (i:=k) (by omega);have hg:L.getD k i0=L[k]:=by simp[List.getD,show k<L.length by omega]
 have hI:=hu _ (cJ (show k<L.length by omega));rw[hg];generalize L[k]=i at*;have HP:Hid (∀w',ba 105 #[.agg (gl i).toArray] w' (.bool (plain i))):=aa (λw'=>Lv w' i);have h1:one n k i=if plain i=false then 30 else if i.op=8 then(if 4≤i.bN then 1 else 0)else if i.op=11∨i.op=13 then(if 8≤i.bN then 1 else 0)else if i.op=21 then(if i.bN<1∨255<i.bN then 1 else 0)else if i.op=17∨i.op=18 then(if i.bN≤k∨n≤i.bN then 24 else 0)else if i.op=19 then(if k<i.bN then 24 else 0)else 0:=rfl
 rw[h1];generalize plain i=pl at*;obtain⟨op,ia,ib,ic,bN⟩:=i;dsimp only[gl]at*;have d0:=c0 _ rfl;have d1:=c1 0 _ rfl;have d2:=c1 1 _ rfl;have d3:=c1 2 _ rfl;have d4:=c1 3 _ rfl;have tE:n≤100000:=by omega
 cases pl
 ·exact ae7 w x n cap k op ia ib ic bN false hk tE hx d0 d1 d2 d3 d4 HP rfl
 ·rw[aq (by decide)];by_cases h8:op=8
  ·rw[aB h8];by_cases hi:4≤bN
   ·rw[aB hi];exact ae8 w x n cap k op ia ib ic bN true hk tE hx d0 d1 d2 d3 d4 HP rfl (by simpa using h8) (by simpa using hi)
   ·rw[aq hi];exact ae9 w x n cap k op ia ib ic bN true hk tE hx d0 d1 d2 d3 d4 HP rfl (by simpa using h8) (by simpa using hi)
  ·rw[aq h8];have k8:(op==8)=false:=by simpa using h8
   by_cases u7:op=11
   ·rw[aB (.inl u7)];by_cases hi:8≤bN
    ·rw[aB hi];exact af0 w x n cap k op ia ib ic bN true hk tE hx d0 d1 d2 d3 d4 HP rfl k8 (by simpa using u7) (by simpa using hi)
    ·rw[aq hi];exact af1 w x n cap k op ia ib ic bN true hk tE hx d0 d1 d2 d3 d4 HP rfl k8 (by simpa using u7) (by simpa using hi)
   ·have JQ:(op==11)=false:=by simpa using u7
    by_cases yo:op=13
    ·rw[aB (.inr yo)];by_cases hi:8≤bN
     ·rw[aB hi];exact af2 w x n cap k op ia ib ic bN true hk tE hx d0 d1 d2 d3 d4 HP rfl k8 JQ (by simpa using yo) (by simpa using hi)
     ·rw[aq hi];exact af3 w x n cap k op ia ib ic bN true hk tE hx d0 d1 d2 d3 d4 HP rfl k8 JQ (by simpa using yo) (by simpa using hi)
    ·have NP:(op==13)=false:=by simpa using yo
     rw[aq (by omega)];by_cases De:op=21
     ·rw[aB De];by_cases hi:bN<1
      ·rw[aB (.inl hi)];exact af4 w x n cap k op ia ib ic bN true hk tE hx d0 d1 d2 d3 d4 HP rfl k8 JQ NP (by simpa using De) (by simpa using hi)
      ·by_cases qL:255<bN
       ·rw[aB (.inr qL)];exact af5 w x n cap k op ia ib ic bN true hk tE hx d0 d1 d2 d3 d4 HP rfl k8 JQ NP (by simpa using De) (by simpa using hi) (by simpa using qL)
       ·rw[aq (by omega)];exact af6 w x n cap k op ia ib ic bN true hk tE hx d0 d1 d2 d3 d4 HP rfl k8 JQ NP (by simpa using De) (by simpa using hi) (by simpa using qL)
     ·rw[aq De];have UB:(op==21)=false:=by simpa using De
      by_cases Ba:op=17
      ·rw[aB (.inl Ba)];by_cases hi:bN≤k
       ·rw[aB (.inl hi)];exact af7 w x n cap k op ia ib ic bN true hk tE hx d0 d1 d2 d3 d4 HP rfl k8 JQ NP UB (by simpa using Ba) (by simpa using hi)
       ·by_cases qL:n≤bN
        ·rw[aB (.inr qL)];exact af8 w x n cap k op ia ib ic bN true hk tE hx d0 d1 d2 d3 d4 HP rfl k8 JQ NP UB (by simpa using Ba) (by simpa using hi) (by simpa using qL)
        ·rw[aq (by omega)];exact af9 w x n cap k op ia ib ic bN true hk tE hx d0 d1 d2 d3 d4 HP rfl k8 JQ NP UB (by simpa using Ba) (by simpa using hi) (by simpa using qL)
      ·have k17:(op==17)=false:=by simpa using Ba
       by_cases Bb:op=18
       ·rw[aB (.inr Bb)];by_cases hi:bN≤k
        ·rw[aB (.inl hi)];exact ag0 w x n cap k op ia ib ic bN true hk tE hx d0 d1 d2 d3 d4 HP rfl k8 JQ NP UB k17 (by simpa using Bb) (by simpa using hi)
        ·by_cases qL:n≤bN
         ·rw[aB (.inr qL)];exact ag1 w x n cap k op ia ib ic bN true hk tE hx d0 d1 d2 d3 d4 HP rfl k8 JQ NP UB k17 (by simpa using Bb) (by simpa using hi) (by simpa using qL)
         ·rw[aq (by omega)];exact ag2 w x n cap k op ia ib ic bN true hk tE hx d0 d1 d2 d3 d4 HP rfl k8 JQ NP UB k17 (by simpa using Bb) (by simpa using hi) (by simpa using qL)
       ·have k18:(op==18)=false:=by simpa using Bb
        rw[aq (by omega)];by_cases yx:op=19
        ·rw[aB yx];by_cases hi:k<bN
         ·rw[aB hi];exact ag3 w x n cap k op ia ib ic bN true hk tE hx d0 d1 d2 d3 d4 HP rfl k8 JQ NP UB k17 k18 (by simpa using yx) (by simpa using hi)
         ·rw[aq hi];exact ag4 w x n cap k op ia ib ic bN true hk tE hx d0 d1 d2 d3 d4 HP rfl k8 JQ NP UB k17 k18 (by simpa using yx) (by simpa using hi)
        ·rw[aq yx];exact ag5 w x n cap k op ia ib ic bN true hk tE hx d0 d1 d2 d3 d4 HP rfl k8 JQ NP UB k17 k18 (by simpa using yx)
def PB (L):right L=(decide (0<L.length∧L.length≤256)&&A7 L.length L L.length&&ends (L.getD (L.length-1) i0).op):=rfl
def zH {n L}:∀{m j:Nat},j<m→one n j (L.getD j i0)≠0→A7 n L m=false
 |m+1,j,h,h1=>by
  unfold A7;by_cases e:j=m
  ·subst e;simp only[h1,decide_false,Bool.and_false]
  ·rw[zH (by omega) h1];rfl
def Lw (w a n cap L)(hn:n=L.length)(hL:dJ w (.slice a n cap) L):Calls Tryz.prog 49 #[.slice a n cap] w λe w'=>∃k ec:Int,e= .returned (.tuple #[I k,I ec])∧decide (ec=0)=right L∧Fr [] w w':=by
 rw[PB,←hn];by_cases h0:n=0
 ·subst h0;clear hn hL;go_wp2;go_ret2;exact⟨_,_,rfl,by simp,Fr.refl _ _⟩
 ·by_cases h1:n>256
  ·have e0:((n:Int)==0)=false:=by simp;omega
   have e1:decide ((n:Int)>256)=true:=by simp;omega
   have HH:=aa h1;clear hn hL h0 h1;go_wp2;go_ret2;exact⟨_,_,rfl,by have:=HH.out;simp;omega,Fr.refl _ _⟩
  ·have e0:((n:Int)==0)=false:=by simp;omega
   have e1:decide ((n:Int)>256)=false:=by simp;omega
   have Gp:(n:Int)≤256:=by omega
   have uX:(0:Int)<(n:Int):=by omega
   have HO:=aa (fun(w':World) (f:Fr [] w w') k hk=>PA w' a n cap L hn (hL.fr f) k hk);have HL:=aa hL;have HN:=aa hn;have HN1:Hid (0<n∧n≤256):=aa (by omega);clear hn hL h0 h1;go_in;go_wp2_with fail;go_loopg [4,5,17] n (λg v4 v5 vi wr=>∃j:Nat,g+j=n∧vi=I (j:Int)∧Hid (A7 n L j=true)∧Fr [] w wr)
   case atStart=>exact⟨0,rfl,rfl,aa rfl,Fr.refl _ _⟩
   case round=>
    obtain⟨j,yy,rfl,zI,pe⟩:=hrel;have AW:=aa pe;clear pe;by_cases hj:j<n
    ·have s9:(j:Int)<(n:Int):=by omega
     go_wp2_with fail;refine(HO.out _ AW.out j hj).kk λw1 hf=>?_;have AW:=aa (AW.trans hf);clear hf;obtain⟨ec,Df⟩:∃ec,one n j (L.getD j i0)=ec:=⟨_,rfl⟩;rw[Df];have HEC:=aa Df;clear Df;by_cases h0:ec=0
     ·have h0b:(ec !=0)=false:=by simpa using h0
      have H0:=aa h0;clear h0;go_wp2;go_roundg (n-(j+1))
      case measure=>omega
      case rel=>exact⟨j+1,by omega,by go_num,aa (by unfold A7;rw[zI.out,HEC.out,H0.out];rfl),AW.out⟩
     ·have h0b:(ec !=0)=true:=by simpa using h0
      have H0:=aa h0;clear h0;go_wp2;go_ret2;exact⟨_,_,rfl,by rw[zH hj (by rw[HEC.out];exact H0.out)];simp[H0.out],AW.out⟩
    ·obtain rfl:j=n:=by omega
     obtain⟨m,rfl⟩:∃m,j=m+1:=⟨j-1,by omega⟩;have AX:m<L.length:=by have:=HN.out;omega
     obtain⟨x,rfl,hx,c0,_⟩:=(HL.out.1.fr AW.out).at (i:=m) AX;have hg:L.getD m i0=L[m]:=by simp[List.getD,AX]
     have hr:(decide (0<m+1∧m+1≤256)&&A7 ((m+1:Nat):Int) L (m+1)&&ends (L.getD (m+1-1) i0).op)=ends (L[m]).op:=by
      rw[eP HN1.out,zI.out,Nat.add_sub_cancel,hg];rfl
     clear hg;generalize L[m]=i at*;obtain⟨op,ia,ib,ic,bN⟩:=i;have d0:=c0 _ rfl;clear c0;have HE:=aa (λw'=>Pz w' op);dsimp only at hr;generalize ends op=en at*;have HR:=aa hr;clear hr;have PC:(m:Int)<(m:Int)+1:=by omega
     go_wp2_with fail;refine(HE.out _).kk λw1 hf=>?_;have AW:=aa (AW.trans hf);clear hf;cases en
     ·go_wp2;go_ret2;exact⟨_,_,rfl,by rw[HR.out];simp,AW.out⟩
     ·go_wp2;go_ret2;exact⟨_,_,rfl,by rw[HR.out];simp,AW.out⟩
def lp (w a n cap L)(hn:n=L.length)(hL:dJ w (.slice a n cap) L):ba 20 #[.slice a n cap] w (.bool (right L)):=by
 have H:=Lw w a n cap L hn hL;clear hn hL;delta ba;go_in;go_wp2_with fail;refine H.mono ?_;rintro e w1 ⟨k,ec,rfl,hr,hf⟩;have HR:=aa hr;have HF:=aa hf;clear hf hr;by_cases h:ec=0
 ·have h1:(ec==0)=true:=by simpa using h
  have h2:decide (ec=0)=true:=by simpa using h
  have H2:=aa h2;clear h h2;go_wp2;go_ret;exact⟨by rw[←HR.out,H2.out];rfl,HF.out⟩
 ·have h1:(ec==0)=false:=by simpa using h
  have h2:decide (ec=0)=false:=by simpa using h
  have H2:=aa h2;clear h h2;go_wp2;go_ret;exact⟨by rw[←HR.out,H2.out];rfl,HF.out⟩
def qx (L):reads L=(L.all (λi=> !writes i.op)&&right L):=rfl
def PD {L:List In}{j:Nat}(h:j<L.length):(L.take (j+1)).all (λi=> !writes i.op)=((L.take j).all (λi=> !writes i.op)&& !writes L[j].op):=by
 rw[List.take_add_one,cy h,List.all_append];show _=_;rw[show(some L[j]).toList=[L[j]]from rfl,List.all_cons,List.all_nil,Bool.and_true]
def qy {L:List In}{j:Nat}(h:j<L.length)(h1:writes L[j].op=true):L.all (λi=> !writes i.op)=false:=by
 rw[List.all_eq_false];exact⟨L[j],cJ h,by rw[h1];decide⟩
def ry(w a n cap L)(hn:n=L.length)(hL:dJ w (.slice a n cap) L):ba 21 #[.slice a n cap] w (.bool (reads L)):=by
 have HO:=aa (fun(w':World) (f:Fr [] w w')=>lp w' a n cap L hn (hL.fr f));have Gp:(n:Int)≤100000:=by have:=hL.2.1;omega
 have HL:=aa hL;have HN:=aa hn;clear hn hL;delta ba;go_in;go_wp2_with fail;go_loopg [4,7] n (λg v4 vi wr=>∃j:Nat,g+j=n∧vi=I (j:Int)∧Hid ((L.take j).all (λi=> !writes i.op)=true)∧Fr [] w wr)
 case' atStart=>skip
 refine ?Z
 case' round=>skip
 refine ?Y
 case' Z=>exact⟨0,rfl,rfl,aa rfl,Fr.refl _ _⟩
 obtain⟨j,yy,rfl,zI,pe⟩:=hrel;have AW:=aa pe;clear pe;by_cases hj:j<n;refine ?X;rotate_left;refine ?J
 case' X=>
  have s9:(j:Int)<(n:Int):=by omega
  have mW:j<L.length:=by have:=HN.out;omega
  obtain⟨x,rfl,hx,c0,c1⟩:=(HL.out.1.fr AW.out).at (i:=j) mW;obtain⟨i,hi⟩:∃i,L[j]=i:=⟨_,rfl⟩;rw[hi]at c0 c1;obtain⟨op,ia,ib,ic,bN⟩:=i;have d0:=c0 _ rfl;have d1:=c1 0 _ rfl;have d2:=c1 1 _ rfl;have d3:=c1 2 _ rfl;have d4:=c1 3 _ rfl;clear c0 c1
 case' X=>by_cases oo:op=10;refine ?G;rotate_left;refine ?D
 case' D=>have o7:(op==10)=false:=by simpa using oo
 case' D=>by_cases yo:op=13;refine ?V;rotate_left;refine ?U
 case' U=>have yX:(op==13)=false:=by simpa using yo
 case' U=>by_cases BR:op=14;refine ?g0;rotate_left;refine ?g1
 case' g1=>have B4:(op==14)=false:=by simpa using BR
 case' g1=>by_cases Ey:op=15;refine ?g2;rotate_left;refine ?g3
 case' g3=>have JN:(op==15)=false:=by simpa using Ey
 case' g3=>by_cases sH:op=16;refine ?g4;rotate_left;refine ?g5
 case' G=>have o7:(op==10)=true:=by simpa using oo
 case' V=>have yX:(op==13)=true:=by simpa using yo
 case' g0=>have B4:(op==14)=true:=by simpa using BR
 case' g2=>have JN:(op==15)=true:=by simpa using Ey
 case' g4=>have GI:(op==16)=true:=by simpa using sH
 case' G|V|g0|g2|g4=>have HX:Hid (L.all (λi=> !writes i.op)=false):=aa (qy mW (by rw[hi];simp[writes];omega))
 case' G=>clear hi oo;go_wp2;go_ret
 case' V=>clear hi oo yo;go_wp2;go_ret
 case' g0=>clear hi oo yo BR;go_wp2;go_ret
 case' g2=>clear hi oo yo BR Ey;go_wp2;go_ret
 case' g4=>clear hi oo yo BR Ey sH;go_wp2;go_ret
 case' G|V|g0|g2|g4=>exact⟨by rw[qx,HX.out];rfl,AW.alloc _⟩
 case' g5=>
  have GI:(op==16)=false:=by simpa using sH
  have HX:Hid ((L.take (j+1)).all (λi=> !writes i.op)=true):=aa (by rw[PD mW,zI.out,hi];simp[writes];omega);clear hi zI oo yo BR Ey sH;go_wp2
 case' g5=>
  go_roundg (n-(j+1))
  case measure=>omega
  case rel=>exact⟨j+1,by omega,by go_num,HX,AW.alloc _⟩
 obtain rfl:j=n:=by omega
 have yk:L.all (λi=> !writes i.op)=true:=by have:=zI.out;rwa [HN.out,tV]at this
 have HX:=aa yk;clear yk zI;go_wp2_with fail;refine(HO.out _ AW.out).kk λw1 hf=>?_;have AW:=aa (AW.trans hf);clear hf;go_wp2;go_ret;exact⟨by rw[qx,HX.out];rfl,AW.out⟩
def JR (w b):ba 151 #[.bool b] w (U (if b then 1 else 0)):=by
 cases b
 ·delta ba;go_in;go_wp2;go_ret;exact⟨rfl,Fr.refl _ _⟩
 ·delta ba;go_in;go_wp2;go_ret;exact⟨rfl,Fr.refl _ _⟩
def bC (l:List Int):List Value:=l.map (Value.int .u64)
def cV {l:List Int}{k:Nat}{x:Int}(h:l[k]?=some x):(bC l)[k]?=some (U x):=by unfold bC;rw[jE,h];rfl
def W7 (b)(h0:0≤b)(h1:b<16):bits .and .i64 b 15=b:=by
 have:=uS b.toNat 16 4 rfl (by omega) (by omega);rw[show((b.toNat:Nat):Int)=b by omega]at this;rw[show(15:Int)=((16:Nat):Int)-1 by rfl,this];omega
def zq16:(∀(w:World)(op a bN rb rc:Int)(kb kc:Nat)(lr la:List Value)(p4:kb<16)(we:kc<16)(nH:lr.length=16)(lV:la.length=4)(oe:lr[kb]?=some (U rb))(tm:lr[kc]?=some (U rc))(m1:bits .and .i64 (kb:Int) 15=kb)(m2:bits .and .i64 (kc:Int) 15=kc),(∀(e0:(op==0)=true),ba 127 #[.agg #[I op,I a,I (kb:Int),I (kc:Int),U bN],.agg lr.toArray,.agg la.toArray] w (U (bN)))∧(∀(e0:(op==0)=false)(e1:(op==1)=true),ba 127 #[.agg #[I op,I a,I (kb:Int),I (kc:Int),U bN],.agg lr.toArray,.agg la.toArray] w (U (rb)))∧(∀(e0:(op==0)=false)(e1:(op==1)=false)(e2:(op==2)=true),ba 127 #[.agg #[I op,I a,I (kb:Int),I (kc:Int),U bN],.agg lr.toArray,.agg la.toArray] w (U (IntKind.u64.wrap (rb+rc))))∧(∀(e0:(op==0)=false)(e1:(op==1)=false)(e2:(op==2)=false)(e3:(op==3)=true),ba 127 #[.agg #[I op,I a,I (kb:Int),I (kc:Int),U bN],.agg lr.toArray,.agg la.toArray] w (U (IntKind.u64.wrap (rb-rc))))∧(∀(e0:(op==0)=false)(e1:(op==1)=false)(e2:(op==2)=false)(e3:(op==3)=false)(e4:(op==4)=true),ba 127 #[.agg #[I op,I a,I (kb:Int),I (kc:Int),U bN],.agg lr.toArray,.agg la.toArray] w (U (IntKind.u64.wrap (rb*rc))))∧(∀(e0:(op==0)=false)(e1:(op==1)=false)(e2:(op==2)=false)(e3:(op==3)=false)(e4:(op==4)=false)(e5:(op==5)=true)(h0:(rc==0)=true),ba 127 #[.agg #[I op,I a,I (kb:Int),I (kc:Int),U bN],.agg lr.toArray,.agg la.toArray] w (U (rb)))∧(∀(e0:(op==0)=false)(e1:(op==1)=false)(e2:(op==2)=false)(e3:(op==3)=false)(e4:(op==4)=false)(e5:(op==5)=true)(h0:(rc==0)=false)(h1:0≤rb)(h2:0≤rc)(h3:rb≤18446744073709551615)(h4:rc≠0),ba 127 #[.agg #[I op,I a,I (kb:Int),I (kc:Int),U bN],.agg lr.toArray,.agg la.toArray] w (U (rb%rc)))∧(∀(e0:(op==0)=false)(e1:(op==1)=false)(e2:(op==2)=false)(e3:(op==3)=false)(e4:(op==4)=false)(e5:(op==5)=false)(e6:(op==6)=false)(e7:(op==7)=false)(e8:(op==8)=false),ba 127 #[.agg #[I op,I a,I (kb:Int),I (kc:Int),U bN],.agg lr.toArray,.agg la.toArray] w (U (0)))∧(∀(e0:(op==0)=false)(e1:(op==1)=false)(e2:(op==2)=false)(e3:(op==3)=false)(e4:(op==4)=false)(e5:(op==5)=false)(e6:(op==6)=true),ba 127 #[.agg #[I op,I a,I (kb:Int),I (kc:Int),U bN],.agg lr.toArray,.agg la.toArray] w (U (if rb=rc then 1 else 0)))∧(∀(e0:(op==0)=false)(e1:(op==1)=false)(e2:(op==2)=false)(e3:(op==3)=false)(e4:(op==4)=false)(e5:(op==5)=false)(e6:(op==6)=false)(e7:(op==7)=true),ba 127 #[.agg #[I op,I a,I (kb:Int),I (kc:Int),U bN],.agg lr.toArray,.agg la.toArray] w (U (if rb<rc then 1 else 0))))∧(∀(w:World)(op a bN rb rc ra:Int)(kb kc ki:Nat)(lr la:List Value)(p4:kb<16)(we:kc<16)(rX:ki<4)(nH:lr.length=16)(lV:la.length=4)(oe:lr[kb]?=some (U rb))(tm:lr[kc]?=some (U rc))(rz:la[ki]?=some (U ra))(m1:bits .and .i64 (kb:Int) 15=kb)(m2:bits .and .i64 (kc:Int) 15=kc)(m3:bits .and .u64 bN 3=ki)(e0:(op==0)=false)(e1:(op==1)=false)(e2:(op==2)=false)(e3:(op==3)=false)(e4:(op==4)=false)(e5:(op==5)=false)(e6:(op==6)=false)(e7:(op==7)=false)(e8:(op==8)=true),ba 127 #[.agg #[I op,I a,I (kb:Int),I (kc:Int),U bN],.agg lr.toArray,.agg la.toArray] w (U ra)):=by
 refine⟨?Z,?Y⟩
 case' Z=>intro w op a bN rb rc kb kc lr la p4 we nH lV oe tm m1 m2;refine⟨?X,?J,?G,?D,?V,?U,?g0,?g1,?g2,?g3⟩
 case' X=>intro e0
 case' g2=>intro e0 e1 e2 e3 e4 e5 e6
 case' g3=>intro e0 e1 e2 e3 e4 e5 e6 e7
 case' J=>intro e0 e1
 case' G=>intro e0 e1 e2
 case' D=>intro e0 e1 e2 e3
 case' V=>intro e0 e1 e2 e3 e4
 case' U=>intro e0 e1 e2 e3 e4 e5 h0
 case' g0=>intro e0 e1 e2 e3 e4 e5 h0 h1 h2 h3 h4
 case' g1=>intro e0 e1 e2 e3 e4 e5 e6 e7 e8
 case' Y=>intro w op a bN rb rc ra kb kc ki lr la p4 we rX nH lV oe tm rz m1 m2 m3 e0 e1 e2 e3 e4 e5 e6 e7 e8
 case' X|g2|g3|J|G|D|V|U|g0|g1|Y=>
  have HS:=aa ((((Sep.nil (Fr.refl [] w)).new 28 [I op,I a,I (kb:Int),I (kc:Int),U bN]).new 134 lr).new 36 la);simp only[cG]at HS;have b0:=(HS.ar 2 rfl).drew.cell 0;have b2:=(HS.ar 2 rfl).drew.cell 2;have b3:=(HS.ar 2 rfl).drew.cell 3;have b4:=(HS.ar 2 rfl).drew.cell 4;have c0:=((HS.ar 1 rfl).drew.cell kb).trans oe;have c1:=((HS.ar 1 rfl).drew.cell kc).trans tm;simp only[zg]at b0 b2 b3 b4;delta ba;go_in;go_wp2;refine bW [(1,[0,1,2,3,4,5,6,7,8,9,10,11])] (by kernel_rfl) ?_;simp only[zz];repeat(first|go_big_quiet_step(fail)|apply ax|apply af|apply ag|apply ah)
  refine aj ?_
 case' X=>go_wp2;go_ret
 case' g2|g3=>go_wp2_with fail;refine(JR _ _).kk λw1 hf=>?_;have HF:=aa (HS.fr.drew.trans hf);clear hf
 case' J=>go_wp2;go_ret
 case' G=>go_wp2;go_ret
 case' D=>go_wp2;go_ret
 case' V=>go_wp2;go_ret
 case' U=>go_wp2;go_ret
 case' g0=>go_wp2;go_ret
 case' g1=>go_wp2;go_ret
 case' Y=>have q0:=((HS.ar 0 rfl).drew.cell ki).trans rz;go_wp2;go_ret
 case' X|J|G|D|V|U|g0|g1|Y=>exact⟨rfl,HS.fr.drew⟩
 case' g2=>
  by_cases hc:rb=rc
  ·go_wp2;go_ret;exact⟨by simp[*],HF.out⟩
  ·go_wp2;go_ret;exact⟨by simp[*],HF.out⟩
 by_cases hc:rb<rc
 ·go_wp2;go_ret;exact⟨by simp[*],HF.out⟩
 ·go_wp2;go_ret;exact⟨by simp[*],HF.out⟩
def ao9(w op a bN rb rc kb kc lr la p4 we nH lV oe tm m1 m2):=(@zq16.1 w op a bN rb rc kb kc lr la p4 we nH lV oe tm m1 m2).1
def ap0(w op a bN rb rc kb kc lr la p4 we nH lV oe tm m1 m2):=(@zq16.1 w op a bN rb rc kb kc lr la p4 we nH lV oe tm m1 m2).2.1
def ap1(w op a bN rb rc kb kc lr la p4 we nH lV oe tm m1 m2):=(@zq16.1 w op a bN rb rc kb kc lr la p4 we nH lV oe tm m1 m2).2.2.1
def ap2(w op a bN rb rc kb kc lr la p4 we nH lV oe tm m1 m2):=(@zq16.1 w op a bN rb rc kb kc lr la p4 we nH lV oe tm m1 m2).2.2.2.1
def ap3(w op a bN rb rc kb kc lr la p4 we nH lV oe tm m1 m2):=(@zq16.1 w op a bN rb rc kb kc lr la p4 we nH lV oe tm m1 m2).2.2.2.2.1
def ag6(w op a bN rb rc kb kc lr la p4 we nH lV oe tm m1 m2):=(@zq16.1 w op a bN rb rc kb kc lr la p4 we nH lV oe tm m1 m2).2.2.2.2.2.1
def ag7(w op a bN rb rc kb kc lr la p4 we nH lV oe tm m1 m2):=(@zq16.1 w op a bN rb rc kb kc lr la p4 we nH lV oe tm m1 m2).2.2.2.2.2.2.1
def ap4(w op a bN rb rc kb kc lr la p4 we nH lV oe tm m1 m2):=(@zq16.1 w op a bN rb rc kb kc lr la p4 we nH lV oe tm m1 m2).2.2.2.2.2.2.2.1
def ap5(w op a bN rb rc kb kc lr la p4 we nH lV oe tm m1 m2):=(@zq16.1 w op a bN rb rc kb kc lr la p4 we nH lV oe tm m1 m2).2.2.2.2.2.2.2.2.1
def ap6(w op a bN rb rc kb kc lr la p4 we nH lV oe tm m1 m2):=(@zq16.1 w op a bN rb rc kb kc lr la p4 we nH lV oe tm m1 m2).2.2.2.2.2.2.2.2.2
def ap7:=@zq16.2
def zJ (w i R A)(hR:R.length=16)(hA:A.length=4)(hu:∀x∈R,0≤x∧x≤18446744073709551615)(hb:0≤i.b∧i.b<16)(hc:0≤i.c∧i.c<16)(hi:0≤i.bN)(h8:i.op=8→i.bN<4):
 ba 127 #[.agg (gl i).toArray,.agg (bC R).toArray,.agg (bC A).toArray] w (U (reckon i R A)):=by
 obtain⟨op,a,b,c,bN⟩:=i;dsimp only at*;obtain⟨kb,rfl⟩:∃k:Nat,b=k:=⟨b.toNat,by omega⟩;obtain⟨kc,rfl⟩:∃k:Nat,c=k:=⟨c.toNat,by omega⟩;have p4:kb<16:=by omega
 have we:kc<16:=by omega
 obtain⟨rb,oe⟩:∃x,R[kb]?=some x:=⟨_,cy (by omega)⟩;obtain⟨rc,tm⟩:∃x,R[kc]?=some x:=⟨_,cy (by omega)⟩;have ub:=hu rb (wz oe);have uc:=hu rc (wz tm);have l1:(bC R).length=16:=by unfold bC;rw[dD,hR]
 have l2:(bC A).length=4:=by unfold bC;rw[dD,hA]
 have m1:=W7 (kb:Int) (by omega) (by omega);have m2:=W7 (kc:Int) (by omega) (by omega);have k1:=cV oe;have k2:=cV tm;have hd:reckon ⟨op,a,kb,kc,bN⟩ R A=if op=0 then bN else if op=1 then rb else if op=2 then IntKind.u64.wrap (rb+rc)else if op=3 then IntKind.u64.wrap (rb-rc)else if op=4 then IntKind.u64.wrap (rb*rc)else if op=5 then(if rc=0 then rb else rb%rc)else if op=6 then(if rb=rc then 1 else 0)else if op=7 then(if rb<rc then 1 else 0)else if op=8 then A.getD bN.toNat 0 else 0:=by
  unfold reckon;simp only[dU,List.getD,oe,tm,Option.getD_some]
 rw[hd];unfold gl;dsimp only;by_cases h0:op=0
 ·rw[aB h0];exact ao9 w op a bN rb rc kb kc _ _ p4 we l1 l2 k1 k2 m1 m2 (by simpa using h0)
 ·rw[aq h0];have e0:(op==0)=false:=by simpa using h0
  by_cases h1:op=1
  ·rw[aB h1];exact ap0 w op a bN rb rc kb kc _ _ p4 we l1 l2 k1 k2 m1 m2 e0 (by simpa using h1)
  ·rw[aq h1];have e1:(op==1)=false:=by simpa using h1
   by_cases h2:op=2
   ·rw[aB h2];exact ap1 w op a bN rb rc kb kc _ _ p4 we l1 l2 k1 k2 m1 m2 e0 e1 (by simpa using h2)
   ·rw[aq h2];have e2:(op==2)=false:=by simpa using h2
    by_cases h3:op=3
    ·rw[aB h3];exact ap2 w op a bN rb rc kb kc _ _ p4 we l1 l2 k1 k2 m1 m2 e0 e1 e2 (by simpa using h3)
    ·rw[aq h3];have e3:(op==3)=false:=by simpa using h3
     by_cases h4:op=4
     ·rw[aB h4];exact ap3 w op a bN rb rc kb kc _ _ p4 we l1 l2 k1 k2 m1 m2 e0 e1 e2 e3 (by simpa using h4)
     ·rw[aq h4];have e4:(op==4)=false:=by simpa using h4
      by_cases h5:op=5
      ·rw[aB h5];by_cases hz:rc=0
       ·rw[aB hz];exact ag6 w op a bN rb rc kb kc _ _ p4 we l1 l2 k1 k2 m1 m2 e0 e1 e2 e3 e4 (by simpa using h5) (by simpa using hz)
       ·rw[aq hz];exact ag7 w op a bN rb rc kb kc _ _ p4 we l1 l2 k1 k2 m1 m2 e0 e1 e2 e3 e4 (by simpa using h5) (by simpa using hz) ub.1 uc.1 ub.2 hz
      ·rw[aq h5];have e5:(op==5)=false:=by simpa using h5
       by_cases h6:op=6
       ·rw[aB h6];exact ap5 w op a bN rb rc kb kc _ _ p4 we l1 l2 k1 k2 m1 m2 e0 e1 e2 e3 e4 e5 (by simpa using h6)
       ·rw[aq h6];have e6:(op==6)=false:=by simpa using h6
        by_cases h7:op=7
        ·rw[aB h7];exact ap6 w op a bN rb rc kb kc _ _ p4 we l1 l2 k1 k2 m1 m2 e0 e1 e2 e3 e4 e5 e6 (by simpa using h7)
        ·rw[aq h7];have e7:(op==7)=false:=by simpa using h7
         by_cases h8':op=8
         ·rw[aB h8'];have hi4:=h8 h8';obtain⟨ki,rfl⟩:∃k:Nat,bN=k:=⟨bN.toNat,by omega⟩;have rX:ki<4:=by omega
          have m3:bits .and .u64 (ki:Int) 3=ki:=by
           match ki,rX with
           |0,_=>rfl
           |1,_=>rfl
           |2,_=>rfl
           |3,_=>rfl
          obtain⟨ra,rz⟩:∃x,A[ki]?=some x:=⟨_,cy (by omega)⟩;rw[show A.getD ((ki:Int)).toNat 0=ra by simp[List.getD,rz]];exact ap7 w op a ki rb rc ra kb kc ki _ _ p4 we rX l1 l2 k1 k2 (cV rz) m1 m2 m3 e0 e1 e2 e3 e4 e5 e6 e7 (by simpa using h8')
         ·rw[aq h8'];exact ap4 w op a bN rb rc kb kc _ _ p4 we l1 l2 k1 k2 m1 m2 e0 e1 e2 e3 e4 e5 e6 e7 (by simpa using h8')
end Go.Proofs.YtolkmchicplaoaaGreat
namespace Go.Proofs.YtolkmchicplaoaaGreat
open Go.RowKit Go.aS Go.aS.Y Go.aS.Vw
def vz (w b cs)(aD:cs.length=24)(aw seq v)(hB:cB w b 258 (eU cs aw seq v)):
 ba 176 #[O b] w (.tuple #[U v.val,I v.s]):=by
 have d_:=hB.aR aD 30 rfl rfl;have eY:=hB.aR aD 31 rfl rfl;try dsimp only at d_ eY
 clear hB;generalize v.val=x1 at*;generalize v.s=x2 at*;delta ba;go_in;go_wp2;refine bW [(1,[0,1,2,3,4,5,6,7,8,9])] (by kernel_rfl) ?_;simp only[zz];repeat(first|go_big_quiet_step(fail)|apply ax|apply af|apply ag|apply ah)
 refine aj ?_;go_wp2_with fail;exact aV (v:= .tuple #[U x1,I x2]) (by simp[results,Tryz.results176,go_sem]) rfl ⟨rfl,(Fr.refl [] _).drew⟩
def zq17:(∀{w0 w R}(b cs)(aD:cs.length=24)(aw seq v ok)(hS:Sep w0 w (aJ b 258 (eU cs aw seq v)::R)),jh 200 #[O b,.bool ok] w (.bool (qs ok v).2) w0 (aJ b 258 (eU cs aw seq (qs ok v).1)::R))∧(∀{w0 w R}(b cs)(aD:cs.length=24)(aw seq v)(hS:Sep w0 w (aJ b 258 (eU cs aw seq v)::R)),bR 202 #[O b] w w0 (aJ b 258 (eU cs aw seq (nu v))::R)):=by
 refine⟨?Z,?Y⟩
 case' Z=>intro w0 w R b cs aD aw seq v ok hS
 case' Y=>intro w0 w R b cs aD aw seq v hS
 case' Z|Y=>have ee:=(hS.ar 0 rfl).aR aD 26 rfl rfl;have cu:=(hS.ar 0 rfl).aR aD 27 rfl rfl;have dz:=(hS.ar 0 rfl).aR aD 28 rfl rfl;have dX:=(hS.ar 0 rfl).aR aD 29 rfl rfl;have d_:=(hS.ar 0 rfl).aR aD 30 rfl rfl;have eY:=(hS.ar 0 rfl).aR aD 31 rfl rfl;have f26:=(hS.ar 0 rfl).az;try dsimp only at ee cu dz dX d_ eY
 case' Z=>unfold qs;have eG:=((hS.set 0 rfl 30 (U 0)).set 0 rfl 27 (I 0)).set 0 rfl 31 (I 3);have du:=eG.set 0 rfl 31 (I 0);simp only[aL,JL aD,iA aD,EW aD]at eG du;have HS:=aa hS;have dS:=aa eG;have de:=aa du;clear hS eG du
 case' Y=>unfold nu;have eG:=((hS.set 0 rfl 26 (I v.block)).set 0 rfl 27 (I 3));have du:=(eG.set 0 rfl 27 (I 0)).set 0 rfl 31 (I 1);simp only[aL,sD aD,iA aD,EW aD]at eG du;have dS:=aa eG;have de:=aa du;clear hS eG du
 case' Z=>
  by_cases h2:v.s=2
  ·rw[aB h2];rw[h2]at eY;clear h2;delta jh;go_in;go_wp2;go_ret;exact⟨rfl,HS.out⟩
  ·rw[aq h2];have h3:(v.s==2)=false:=by simpa using h2
   clear h2;generalize v.s=q at eY h3;cases ok
   ·delta jh;go_in;go_wp2;go_ret;exact⟨rfl,dS.out⟩
   ·delta jh;go_in;go_wp2;go_ret;exact⟨rfl,de.out⟩
 by_cases h2:v.at_= -1
 ·rw[aB h2];rw[h2]at dX;clear h2;delta bR;go_in;go_wp2;go_end0;exact⟨rfl,de.out⟩
 ·rw[aq h2];have h3:(v.at_== -1)=false:=by simpa using h2
  clear h2;delta bR;go_in;go_wp2;go_end0;exact⟨rfl,dS.out⟩
def mN:=@zq17.1
def B6:=@zq17.2
def tp {w0 w R}(b cs)(aD:cs.length=24)(aw seq v block a)(hS:Sep w0 w (aJ b 258 (eU cs aw seq v)::R)):
 bR 201 #[O b,I block,I a] w w0 (aJ b 258 (eU cs aw seq (fq block a v))::R):=by
 have ee:=(hS.ar 0 rfl).aR aD 26 rfl rfl;have cu:=(hS.ar 0 rfl).aR aD 27 rfl rfl;have dz:=(hS.ar 0 rfl).aR aD 28 rfl rfl;have dX:=(hS.ar 0 rfl).aR aD 29 rfl rfl;have d_:=(hS.ar 0 rfl).aR aD 30 rfl rfl;have eY:=(hS.ar 0 rfl).aR aD 31 rfl rfl;have f26:=(hS.ar 0 rfl).az;try dsimp only at ee cu dz dX d_ eY
 unfold fq;have eG:=((hS.set 0 rfl 28 (I block)).set 0 rfl 29 (I a)).set 0 rfl 27 (I 1);simp only[aL,Ls aD,yW aD,iA aD]at eG;have dS:=aa eG;clear hS eG;by_cases h2:v.held=block
 ·rw[aB h2];rw[h2]at ee;have h3:(block==block)=true:=by simp
  clear h2;delta bR;go_in;go_wp2_with fail;refine(B6 b cs aD aw seq _ dS.out).kk λw1 hS=>?_;go_wp2;go_end0;exact⟨rfl,hS⟩
 ·rw[aq h2];have h3:(v.held==block)=false:=by simpa using h2
  clear h2;delta bR;go_in;go_wp2;go_end0;exact⟨rfl,dS.out⟩
end Go.Proofs.YtolkmchicplaoaaGreat
namespace Go.aS
def Sep.ap9 {w0 w T U_}(h:Sep w0 w [T,U_]):Sep w0 w [T]:=(h.pull 1 rfl).tail
end Go.aS
namespace Go.Proofs.YtolkmchicplaoaaGreat
open Go.RowKit Go.aS Go.aS.Y Go.aS.Vw
def zL{w0 w R}(b cs)(aD:cs.length=24)(aw seq v x n)(hS:Sep w0 w (aJ b 258 (eU cs aw seq v)::R)):bR 235 #[O b,.agg #[U x,U n]] w w0 (aJ b 258 (eU cs aw seq (pW seq x n v))::R):=by
 unfold pW;by_cases h1:seq<n;refine ?Z;rotate_left;refine ?Y
 case' Y=>
  rw[aq h1];have h2:decide (n>seq)=false:=by simpa using h1
  clear h1
 case' Y=>by_cases h3:v.step=3;refine ?X;rotate_left;refine ?J
 case' J=>rw[aq h3]
 case' J=>by_cases h5:x=1;refine ?G;rotate_left;refine ?D
 case' Z=>
  rw[aB h1];have h2:decide (n>seq)=true:=by simpa using h1
  clear h1
 case' X=>rw[aB h3]
 case' D=>
  rw[aq h5];have h4:(v.step==3)=false:=by simpa using h3
  have h6:(x==1)=false:=by simpa using h5
 case' G=>
  rw[aB h5];have h4:(v.step==3)=false:=by simpa using h3
  have h6:(x==1)=true:=by simpa using h5
  clear h5 h3
 case' Z|X|D|G=>
  have fC:=(hS.new 68 [U x,U n]);have JS:=aa fC;have fK:=(fC.ar 1 rfl).aR aD 25 rfl rfl;have ee:=(fC.ar 1 rfl).aR aD 26 rfl rfl;have cu:=(fC.ar 1 rfl).aR aD 27 rfl rfl;have d_:=(fC.ar 1 rfl).aR aD 30 rfl rfl;have eY:=(fC.ar 1 rfl).aR aD 31 rfl rfl;have f26:=(fC.ar 1 rfl).az;try dsimp only at ee cu d_ eY
  have eG:=fC.set 1 rfl 27 (I 0);simp only[zs,iA aD]at eG;have dS:=aa eG;have z0:=(fC.ar 0 rfl).cell 0;have z1:=(fC.ar 0 rfl).cell 1;simp only[zg]at z0 z1;clear hS fC eG;delta bR;go_in;go_wp2_with fail;generalize World.setCell _ _ _=w1 at dS⊢;clear fK ee cu d_ eY f26 z0 z1;have eG:=dS.out;have fK:=(eG.ar 1 rfl).aR aD 25 rfl rfl;have ee:=(eG.ar 1 rfl).aR aD 26 rfl rfl;have cu:=(eG.ar 1 rfl).aR aD 27 rfl rfl;have d_:=(eG.ar 1 rfl).aR aD 30 rfl rfl;have eY:=(eG.ar 1 rfl).aR aD 31 rfl rfl;have f26:=(eG.ar 1 rfl).az;try dsimp only at ee cu d_ eY
  have z0:=(eG.ar 0 rfl).cell 0;have z1:=(eG.ar 0 rfl).cell 1;simp only[zg]at z0 z1
 case' Z=>have du:=eG.drew.set 1 rfl 31 (I 2);simp only[zs,EW aD]at du
 case' X=>
  have h4:(v.step==3)=true:=by simpa using h3
  clear h3;have du:=(eG.drew.set 1 rfl 30 (U x)).set 1 rfl 31 (I 1);simp only[zs,JL aD,EW aD]at du
 case' Z|X=>have de:=aa du.tail;clear eG du
 case' D=>have du:=(eG.drew.set 1 rfl 31 (I 3));simp only[zs,EW aD]at du;have de:=aa du.tail;clear eG du h3 h5
 case' G=>clear eG
 case' Z|X|D|G=>
  refine bW [(1,[0,1,2,3,4,5,6,7])] (by kernel_rfl) ?_;simp only[zz];repeat(first|go_big_quiet_step(fail)|apply ax|apply af|apply ag|apply ah)
  refine aj ?_
 case' Z|X|D=>go_wp2;go_end0
 case' G=>go_wp2_with fail;refine(B6 b cs aD aw seq _ dS.drew.tail).kk λw2 hS=>?_;go_wp2;go_end0
 case' Z|X|D=>exact⟨rfl,de.out⟩
 exact⟨rfl,hS⟩
def B7{w0 w R}(b cs)(aD:cs.length=24)(aw seq v x n ok)(hS:Sep w0 w (aJ b 258 (eU cs aw seq v)::R)):bR 227 #[O b,.agg #[U x,U n,.bool ok]] w w0 (aJ b 258 (eU cs aw seq (tell seq x n v))::R):=by
 unfold tell;by_cases h1:v.step=1;refine ?Z;rotate_left;refine ?Y
 case' Y=>
  rw[aq h1];have h2:(v.step==1)=false:=by simpa using h1
  clear h1
 case' Y=>by_cases h3:v.step=2∨v.step=3;refine ?X;rotate_left;refine ?J
 case' X=>rw[aB h3]
 case' X=>by_cases h4:v.step=2;refine ?G;rotate_left;refine ?D
 case' Z=>
  rw[aB h1];have h2:(v.step==1)=true:=by simpa using h1
  clear h1
 case' G=>have h5:(v.step==2)=true:=by simpa using h4
 case' D=>
  have h5:(v.step==2)=false:=by simpa using h4
  have h6:(v.step==3)=true:=by rcases h3 with h|h;exact absurd h h4;simpa using h
 case' G|D=>clear h3 h4
 case' J=>
  rw[aq h3];have h5:(v.step==2)=false:=by simp;omega
  have h6:(v.step==3)=false:=by simp;omega
  clear h3
 case' Z|G|D|J=>
  have fC:=(hS.new 84 [U x,U n,.bool ok]);have JS:=aa fC;have fK:=(fC.ar 1 rfl).aR aD 25 rfl rfl;have ee:=(fC.ar 1 rfl).aR aD 26 rfl rfl;have cu:=(fC.ar 1 rfl).aR aD 27 rfl rfl;have d_:=(fC.ar 1 rfl).aR aD 30 rfl rfl;have eY:=(fC.ar 1 rfl).aR aD 31 rfl rfl;have f26:=(fC.ar 1 rfl).az;try dsimp only at ee cu d_ eY
  have z0:=(fC.ar 0 rfl).cell 0;have z1:=(fC.ar 0 rfl).cell 1;simp only[zg]at z0 z1;have eG:=(fC.set 1 rfl 26 (I (-1))).set 1 rfl 27 (I 2);simp only[zs,sD aD,iA aD]at eG;have dS:=aa eG.tail;clear hS fC eG;delta bR;go_in
 case' Z=>go_wp2;go_end0
 case' G|D=>go_wp2_with fail;refine(zL b cs aD aw seq v x n JS.tail).kk λw2 hS=>?_;go_wp2;go_end0
 case' J=>go_wp2;go_end0
 case' Z=>exact⟨rfl,dS.out⟩
 case' G|D=>exact⟨rfl,hS⟩
 exact⟨rfl,JS.tail⟩
def zq18:(∀{w0 w R}(b c)(aE:Ok c)(aw seq v p)(hS:Sep w0 w (aJ b 258 (eU (ae c) aw seq v)::R)),bR 199 #[O b,I p] w w0 (aJ b 258 (eU (ae c) aw seq (cell c p v))::R))∧(∀{w0 w R}(b c)(aE:Ok c)(aw seq v block x)(hS:Sep w0 w (aJ b 258 (eU (ae c) aw seq v)::R)),bR 195 #[O b,I block,I x] w w0 (aJ b 258 (eU (ae c) aw seq (word c block x v))::R))∧(∀{w0 w R}(b c)(aE:Ok c)(aw seq v block)(hS:Sep w0 w (aJ b 258 (eU (ae c) aw seq v)::R)),bR 196 #[O b,I block] w w0 (aJ b 258 (eU (ae c) aw seq (live c block v))::R)):=by
 refine⟨?Z,?Y,?X⟩
 case' Z=>intro w0 w R b c aE aw seq v p hS;unfold cell
 case' Y=>intro w0 w R b c aE aw seq v block x hS;unfold word
 case' X=>intro w0 w R b c aE aw seq v block hS;unfold live
 case' Z|Y|X=>have jX:=hS.ar 0 rfl;have cC:w.rangeAt b 0 (ae c):=jX.pre;have aD:(ae c).length=24:=rfl;have HS:=aa hS;clear hS jX
 case' Z=>have HW:=aa (i_ aE p);have vA:inner c p=decide (7≤(jt c p).1∧(jt c p).1<16):=rfl;unfold lC aY at HW;generalize ae c=cs at*;generalize inner c p=ok at*;generalize jt c p=q at*;obtain⟨q1,q2,q3⟩:=q;dsimp only at vA HW
 case' Y=>have HA:=aa (λw=>cx w c aE 16 block x);unfold aY at HA;generalize ae c=cs at*;generalize Y.at_ c 16 block x=a at*
 case' X=>have HA:=aa (λw=>cx w c aE 11 block 0);unfold aY at HA;generalize ae c=cs at*;generalize Y.at_ c 11 block 0=a at*
 case' Z=>by_cases h1:7≤q1;refine ?J;rotate_left;refine ?G
 case' Y=>by_cases hk:a= -1;refine ?D;rotate_left;refine ?V
 case' X=>by_cases hk:a= -1;refine ?U;rotate_left;refine ?g0
 case' J=>have g1:decide (q1≥7)=true:=by simpa using h1
 case' J=>by_cases h2:q1<16;refine ?g1;rotate_left;refine ?g2
 case' g1=>
  have g2:decide (q1<16)=true:=by simpa using h2
  obtain rfl:ok=true:=by rw[vA];simp;omega
  clear vA h1 h2;have wV:=aa (fun(w2:World) (hS:Sep w0 w2 (aJ b 258 (eU cs aw seq v)::R))=>mN b cs aD aw seq v true hS);generalize qs true v=r at wV⊢
 case' g2=>
  have g2:decide (q1<16)=false:=by simpa using h2
  obtain rfl:ok=false:=by rw[vA];simp;omega
  clear vA h1 h2
 case' G=>
  have g1:decide (q1≥7)=false:=by simpa using h1
  obtain rfl:ok=false:=by rw[vA];simp;omega
  clear vA h1
 case' g2|G=>have wV:=aa (fun(w2:World) (hS:Sep w0 w2 (aJ b 258 (eU cs aw seq v)::R))=>mN b cs aD aw seq v false hS);generalize qs false v=r at wV⊢
 case' D|U=>
  have g1:(a != -1)=false:=by simp[hk]
  have g2:decide (a≠-1)=false:=by simp[hk]
  rw[g2];clear hk g2;have wV:=aa (fun(w2:World) (hS:Sep w0 w2 (aJ b 258 (eU cs aw seq v)::R))=>mN b cs aD aw seq v false hS);generalize qs false v=r at wV⊢
 case' V|g0=>
  have g1:(a != -1)=true:=by simp[hk]
  have g2:decide (a≠-1)=true:=by simp[hk]
  rw[g2];clear hk g2;have wV:=aa (fun(w2:World) (hS:Sep w0 w2 (aJ b 258 (eU cs aw seq v)::R))=>mN b cs aD aw seq v true hS);generalize qs true v=r at wV⊢
 case' g1|g2|G|D|U|V|g0=>
  obtain⟨u,g⟩:=r;dsimp only at wV⊢;delta bR;go_in;go_wp2_with
   (refine ay 58 _ rfl rfl _ 0 rfl cs _ cC underlying58 rfl (by rw[aD];kernel_rfl) ?_)
 case' g1|g2|G=>
  refine(HW.out _).kq HS λw1 HS=>?_;clear cC;go_wp2_with fail;refine(wV.out _ HS.out).kk λw2 hS=>?_;have du:=(hS.set 0 rfl 29 (I p)).set 0 rfl 27 (I 3);simp only[zs,yW aD,iA aD]at du;have cu:=(hS.ar 0 rfl).aR aD 27 rfl rfl;have dX:=(hS.ar 0 rfl).aR aD 29 rfl rfl;have f27:=(hS.ar 0 rfl).az;try dsimp only at cu dX
  have HS:=aa hS;have de:=aa du;clear hS du
 case' D|U|V|g0=>
  refine(HA.out _).kq HS λw1 HS=>?_;clear cC;go_wp2_with fail;try rw[g1]
  clear g1;refine(wV.out _ HS.out).kh λw2 HS=>?_
 case' g1|g2|G=>
  cases g
  ·go_wp2;go_end0;exact⟨rfl,HS.out⟩
  ·go_wp2;go_end0;exact⟨rfl,de.out⟩
 case' D|V=>
  cases g
  ·go_wp2;go_end0;exact⟨rfl,HS.out⟩
  ·go_wp2_with fail;refine(tp b cs aD aw seq u block a HS.out).kk λw3 hS=>?_;go_wp2;go_end0;exact⟨rfl,hS⟩
 case' U|g0=>
  cases g
  ·go_wp2;go_end0;exact⟨rfl,HS.out⟩
  ·go_wp2_with fail;refine(tp b cs aD aw seq u block (-1) HS.out).kk λw3 hS=>?_;go_wp2;go_end0;exact⟨rfl,hS⟩
def B8:=@zq18.1
def B9:=@zq18.2.1
def LB:=@zq18.2.2
def E3 (w cs)(aD:cs.length=24)(aw seq):
 Calls Tryz.prog 134 #[.agg cs.toArray,I aw,U seq] w λe w'=>∃b,e= .returned (O b)∧Sep w w' [aJ b 258 (eU cs aw seq ⟨-1,0,0,0,0,1⟩)]:=by
 have HS:=aa ((Sep.nil (Fr.refl [] w)).new 58 cs);obtain⟨x0,x1,x2,x3,x4,x5,x6,x7,x8,x9,l4,l5,l6,l7,l8,l9,l_,mf,mh,mi,mj,mm,mo,mq,rfl⟩:=rQ aD;go_in;go_wp2_with(refine ay 58 _ rfl rfl _ 0 rfl _ _ (HS.ar 0 rfl).range underlying58 rfl (by kernel_rfl) ?_);go_ret;have hS:=(HS.new 258 (eU [x0,x1,x2,x3,x4,x5,x6,x7,x8,x9,l4,l5,l6,l7,l8,l9,l_,mf,mh,mi,mj,mm,mo,mq] aw seq ⟨-1,0,0,0,0,1⟩)).ap9;simp only[cG]at hS;exact⟨_,rfl,hS⟩
def Hr (b):∃x,IntKind.u64.wrap (IntKind.u64.wrap b+1)=x∧nameOf b=x:=⟨_,rfl,rfl⟩
def zq19:(∀(w c)(aE:Ok c)(b aw seq held step block a val s)(hB:cB w b 258 (eU (ae c) aw seq ⟨held,step,block,a,val,s⟩))(gx:step=1),ba 223 #[O b] w (.tuple #[.agg (eF (Vw.ask c aw ⟨held,step,block,a,val,s⟩).1).toArray,.bool (Vw.ask c aw ⟨held,step,block,a,val,s⟩).2]))∧(∀(w c)(aE:Ok c)(b aw seq held step block a val s)(hB:cB w b 258 (eU (ae c) aw seq ⟨held,step,block,a,val,s⟩))(gx:step=2),ba 223 #[O b] w (.tuple #[.agg (eF (Vw.ask c aw ⟨held,step,block,a,val,s⟩).1).toArray,.bool (Vw.ask c aw ⟨held,step,block,a,val,s⟩).2]))∧(∀(w c)(aE:Ok c)(b aw seq held step block a val s)(hB:cB w b 258 (eU (ae c) aw seq ⟨held,step,block,a,val,s⟩))(gx:step=3),ba 223 #[O b] w (.tuple #[.agg (eF (Vw.ask c aw ⟨held,step,block,a,val,s⟩).1).toArray,.bool (Vw.ask c aw ⟨held,step,block,a,val,s⟩).2]))∧(∀(w c)(aE:Ok c)(b aw seq held step block a val s)(hB:cB w b 258 (eU (ae c) aw seq ⟨held,step,block,a,val,s⟩))(gx:¬step=1∧¬step=2∧¬step=3),ba 223 #[O b] w (.tuple #[.agg (eF (Vw.ask c aw ⟨held,step,block,a,val,s⟩).1).toArray,.bool (Vw.ask c aw ⟨held,step,block,a,val,s⟩).2])):=by
 refine⟨?Z,?Y,?X,?J⟩
 case' Z|X|J|Y=>intro w c aE b aw seq held step block a val s hB gx
 case' Z=>have rV:Vw.ask c aw ⟨held,step,block,a,val,s⟩=(⟨1,Y.at_ c 3 aw 0,0,0,nameOf block,0⟩,true):=by first|(subst gx;simp[Vw.ask])|simp[Vw.ask,gx]
 case' X=>have rV:Vw.ask c aw ⟨held,step,block,a,val,s⟩=(⟨0,a,0,0,0,0⟩,true):=by first|(subst gx;simp[Vw.ask])|simp[Vw.ask,gx]
 case' J=>have rV:Vw.ask c aw ⟨held,step,block,a,val,s⟩=(p0,false):=by first|(subst gx;simp[Vw.ask])|simp[Vw.ask,gx]
 case' Z|X|J=>rw[rV];clear rV;dsimp only;have HA:=aa (λw=>cx w c aE 3 aw 0)
 case' Y=>
  have rV:Vw.ask c aw ⟨held,step,block,a,val,s⟩=(⟨0,Y.at_ c 11 block 0,0,0,0,0⟩,true):=by first|(subst gx;simp[Vw.ask])|simp[Vw.ask,gx]
  rw[rV];clear rV;dsimp only;have HA:=aa (λw=>cx w c aE 11 block 0)
 case' Z|X|J|Y=>have aD:(ae c).length=24:=rfl;unfold aY at*;generalize ae c=cs at*
 case' Z|X|J=>generalize Y.at_ c 3 aw 0=av at HA⊢
 case' Y=>generalize Y.at_ c 11 block 0=av at HA⊢
 case' Z|X|J|Y=>have hS:=(Sep.nil (Fr.refl [] w)).new 82 [I 0,I 0,U 0,U 0,U 0,U 0];have HS:=aa hS;clear hS;have HB:=aa (λw' (f:Fr [] w w')=>hB.fr f (by simp));have uG:=hB.lt;clear hB
 case' Z|X=>subst gx
 case' Z=>obtain⟨nm,UA,ah0⟩:=Hr block;rw[ah0];clear ah0
 case' J=>
  obtain⟨n1,n2,n3⟩:=gx;have n1:(step==1)=false:=by simpa using n1
  have n2:(step==2)=false:=by simpa using n2
  have n3:(step==3)=false:=by simpa using n3
 case' Y=>subst gx
 case' Z|X|J|Y=>
  have hB:=HB.out _ HS.fr;have iF:=hB.aR aD 24 rfl rfl;have cu:=hB.aR aD 27 rfl rfl;have dz:=hB.aR aD 28 rfl rfl;have dX:=hB.aR aD 29 rfl rfl;dsimp only at cu dz dX;have cC:=hB.drew;have pg:¬b=w.heap.size:=by omega
  clear hB;delta ba;go_in
 case' Z=>go_wp2_with fail;refine dq [(1,[0,1,2,3,4,5,6,7,9,10,11,12,13,14,15]),(2,[8]),(0,[16]),(3,[17]),(0,[18])] [w.heap.size] (by kernel_rfl) (by kernel_rfl) ?_;simp only[zz]
 case' X=>have fD:=dg ⟨0,a,0,0,0,0⟩;go_wp2_with(first|(refine aC HS.out 0 rfl (eF ⟨0,a,0,0,0,0⟩) 82 _ _ rfl rfl rfl rfl rfl (by kernel_rfl) fD (λwA hA _=>?_);have HS:=aa hA;clear hA))
 case' J=>have fD:=dg p0;go_wp2_with(first|(refine aC HS.out 0 rfl (eF p0) 82 _ _ rfl rfl rfl rfl rfl (by kernel_rfl) fD (λwA hA _=>?_);have HS:=aa hA;clear hA))
 case' Y=>go_wp2_with fail;refine dq [(1,[0,1,2,3,4,5,6,7]),(3,[8]),(0,[9]),(3,[10]),(0,[11])] [w.heap.size] (by kernel_rfl) (by kernel_rfl) ?_;simp only[zz]
 case' Z=>
  refine af ?_;iterate 3 (first|go_big_quiet_step (fail)|quiet_step (fail))
  refine ak 58 _ b 0 cs _ rfl rfl rfl (cm cC (by simp<;>omega)) underlying58 rfl (by rw[aD];kernel_rfl) ?_;simp only[Act.put,aZ,zs];repeat(first|go_big_quiet_step (fail)|quiet_step (fail))
  refine ax ?_;refine aA ?_;go_wp2_with fail;refine(HA.out _).kk λw2 hf=>?_;have HF:=aa (hf.mono (se:=[w.heap.size]) (by simp));have HS:=aa (HS.drew.fr0 hf);clear hf;go_wp2;refine⟨⟨⟨_,(by exact HF.out)⟩,rfl⟩,?_⟩;repeat(first|go_big_quiet_step(fail)|quiet_step(fail)|apply ax|apply af|apply ag|apply ah)
  refine ao ?_;have fD:=dg ⟨1,av,0,0,nm,0⟩;refine aC HS.out 0 rfl (eF ⟨1,av,0,0,nm,0⟩) 82 _ _ rfl rfl rfl rfl rfl (by kernel_rfl) fD (λwA hA _=>?_);have HS:=aa hA;clear hA;go_wp2_with fail;repeat(first|go_big_quiet_step(fail)|quiet_step(fail)|apply ax|apply af|apply ag|apply ah)
  refine aj ?_;go_wp2_with fail;exact aV (v:= .tuple #[.agg (eF ⟨1,av,0,0,nm,0⟩).toArray,.bool true]) (bj Tryz.results223 rfl rfl (HS.ar 0 rfl).range underlying82 rfl (by kernel_rfl)) rfl ⟨rfl,HS.fr⟩
 case' X=>exact aV (v:= .tuple #[.agg (eF ⟨0,a,0,0,0,0⟩).toArray,.bool true]) (bj Tryz.results223 rfl rfl (HS.ar 0 rfl).range underlying82 rfl (by kernel_rfl)) rfl ⟨rfl,HS.fr⟩
 case' J=>exact aV (v:= .tuple #[.agg (eF p0).toArray,.bool false]) (bj Tryz.results223 rfl rfl (HS.ar 0 rfl).range underlying82 rfl (by kernel_rfl)) rfl ⟨rfl,HS.fr⟩
 refine af ?_;iterate 3 (first|go_big_quiet_step (fail)|quiet_step (fail))
 refine ak 58 _ b 0 cs _ rfl rfl rfl (cm cC (by simp<;>omega)) underlying58 rfl (by rw[aD];kernel_rfl) ?_;simp only[Act.put,aZ,zs];repeat(first|go_big_quiet_step (fail)|quiet_step (fail))
 refine ax ?_;refine ao ?_;go_wp2_with fail;refine(HA.out _).kq HS.dr λw2 HS=>?_;go_wp2_with fail;repeat(first|go_big_quiet_step(fail)|quiet_step(fail)|apply ax|apply af|apply ag|apply ah)
 refine ao ?_;have fD:=dg ⟨0,av,0,0,0,0⟩;refine aC HS.out 0 rfl (eF ⟨0,av,0,0,0,0⟩) 82 _ _ rfl rfl rfl rfl rfl (by kernel_rfl) fD (λwA hA _=>?_);have HS:=aa hA;clear hA;go_wp2_with fail;repeat(first|go_big_quiet_step(fail)|quiet_step(fail)|apply ax|apply af|apply ag|apply ah)
 refine aj ?_;go_wp2_with fail;exact aV (v:= .tuple #[.agg (eF ⟨0,av,0,0,0,0⟩).toArray,.bool true]) (bj Tryz.results223 rfl rfl (HS.ar 0 rfl).range underlying82 rfl (by kernel_rfl)) rfl ⟨rfl,HS.fr⟩
def YX:=@zq19.1
def YY:=@zq19.2.1
def YZ:=@zq19.2.2.1
def Y0:=@zq19.2.2.2
def E4 (w c)(aE:Ok c)(b aw seq v)(hB:cB w b 258 (eU (ae c) aw seq v)):
 ba 223 #[O b] w (.tuple #[.agg (eF (Vw.ask c aw v).1).toArray,.bool (Vw.ask c aw v).2]):=by
 obtain⟨held,step,block,a,val,s⟩:=v;by_cases e1:step=1
 ·exact YX w c aE b aw seq held step block a val s hB e1
 by_cases e2:step=2
 ·exact YY w c aE b aw seq held step block a val s hB e2
 by_cases e3:step=3
 ·exact YZ w c aE b aw seq held step block a val s hB e3
 exact Y0 w c aE b aw seq held step block a val s hB ⟨e1,e2,e3⟩
