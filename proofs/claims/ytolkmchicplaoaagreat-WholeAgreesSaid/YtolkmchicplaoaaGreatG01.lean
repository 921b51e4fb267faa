/- A part of the proof. -/
import Derived.OwnWalk
import Derived.Deep.LoopGhost
import Derived.Test.YtolkmchicplaoaaGreatG00
set_option linter.all false
set_option maxHeartbeats 8000000
open Go.Proofs.Tryz
namespace Go.Proofs.YtolkmchicplaoaaGreat
open Go.RowKit Go.aS Go.aS.Y
structure CZ (cs:List Value)(c:cA):Prop where
 sz:cs.length=24
 g0:cs[0]?=some (I c.t)
 g1:cs[1]?=some (I c.b)
 g2:cs[2]?=some (I c.w)
def GX (c):CZ (ae c) c:=⟨rfl,rfl,rfl,rfl⟩
def zn (w c)(h:Ok c)(cs)(hc:CZ cs c):ba 46 #[.agg cs.toArray] w (I (b_ c)):=by
 have hb:=oP h;have h1:=h.w0;have h2:=h.Jw;rw[show b_ c=c.t*(c.w+1)from rfl];have hm:=cB.new w 58 cs;have c0:=hm.aT 0 hc.g0;have c2:=hm.aT 2 hc.g2;clear hm hc h;delta ba;go_in;go_wp2;go_ret;generalize c.t*(c.w+1)=res;exact⟨rfl,(Fr.refl [] _).alloc _⟩
def gL (w c)(h:Ok c):ba 46 #[aY c] w (I (b_ c)):=zn w c h _ (GX c)
def Og (w c)(h:Ok c)(cs)(hc:CZ cs c):ba 70 #[.agg cs.toArray] w (I (cap c)):=by
 have hb:=WJ h;have hl:=bK h;have h1:=h.w0;have h2:=h.Jw;have HL:=aa (λw=>zn w c h cs hc);rw[show cap c=c.t*(c.w+3)+3*b_ c+2 from rfl];generalize b_ c=q at*;have hm:=cB.new w 58 cs;have c0:=hm.aT 0 hc.g0;have c2:=hm.aT 2 hc.g2;have aD:=hc.sz;have HM:=aa hm.drew;clear hm hc h;delta ba;go_in;go_wp2;refine bW [(1,[0,1,2,3,4,5,6,7,8]),(2,[9]),(0,[10,11,12,13])] (by kernel_rfl) ?_;simp only[zz];refine af ?_;iterate 8 (first|go_big_quiet_step (fail)|quiet_step (fail))
 refine ak 58 _ w.heap.size 0 cs _ rfl rfl rfl (bL HM.out (by simp)) underlying58 rfl (by rw[aD];kernel_rfl) ?_;simp only[Act.put,aZ,zs];refine ax ?_;refine aA ?_;go_wp2_with fail;refine(HL.out _).kh λw1 HF=>?_;go_wp2;refine⟨⟨⟨_,(by exact HF.out)⟩,rfl⟩,?_⟩;repeat(first|go_big_quiet_step(fail)|apply ax|apply af|apply ag|apply ah)
 refine aj ?_;go_wp2;go_ret;generalize c.t*(c.w+3)+3*q+2=res;exact⟨rfl,(((Fr.refl [] _).alloc _).drew).trans HF.out⟩
def uY (w c)(h:Ok c):ba 70 #[aY c] w (I (cap c)):=Og w c h _ (GX c)
def BN (w c)(h:Ok c)(cs)(hc:CZ cs c):ba 45 #[.agg cs.toArray] w (I (aX c)):=by
 have hl:=iI h;have HL:=aa (λw=>Og w c h cs hc);rw[show aX c=8+cap c from rfl];generalize cap c=q at*;have HM:=aa (cB.new w 58 cs);have aD:=hc.sz;clear hc h;delta ba;go_in;go_wp2_with(refine ay 58 _ rfl rfl _ 0 rfl cs _ HM.range underlying58 rfl (by rw[aD];kernel_rfl) ?_);refine(HL.out _).kh λw1 HF=>?_;go_wp2;go_ret;generalize 8+q=res;exact⟨rfl,((Fr.refl [] _).alloc _).trans HF.out⟩
def cT (w c)(h:Ok c):ba 45 #[aY c] w (I (aX c)):=BN w c h _ (GX c)
end Go.Proofs.YtolkmchicplaoaaGreat
namespace Go.aS.Y
def cr (c:cA)(kind:Int):Int:=
 if kind=0∨kind=12∨kind=14 then 1 else if 1≤kind∧kind≤9 then c.t else if kind=10 then 16 else if kind=11∨kind=13∨kind=16 then c.b else if kind=15 then b_ c else 0
def each (c:cA)(kind:Int):Int:=if kind=2 then 4 else if kind=6 then cap c else if kind=16 then 8 else 1
def aP (c:cA)(kind:Int):Int:=if 0≤kind∧kind≤16 then each c kind else 0
def dZ (kind:Int):Int:=if kind=1 then 0 else if kind=2 then 1 else if kind=3 then 5 else if kind=4 then 6 else if kind=5 then 7 else 8
end Go.aS.Y
namespace Go.Proofs.YtolkmchicplaoaaGreat
open Go.RowKit Go.aS Go.aS.Y
def dR (w kind):Calls Tryz.prog 53 #[I kind] w λe w'=>e= .returned (I (dZ kind))∧w'=w:=by
 unfold dZ;by_cases h1:kind=1
 ·subst h1;go_wp2;go_ret;exact⟨rfl,rfl⟩
 by_cases h2:kind=2
 ·subst h2;go_wp2;go_ret;exact⟨rfl,rfl⟩
 by_cases h3:kind=3
 ·subst h3;go_wp2;go_ret;exact⟨rfl,rfl⟩
 by_cases h4:kind=4
 ·subst h4;go_wp2;go_ret;exact⟨rfl,rfl⟩
 by_cases h5:kind=5
 ·subst h5;go_wp2;go_ret;exact⟨rfl,rfl⟩
 rw[aq h1,aq h2,aq h3,aq h4,aq h5];go_wp2;go_ret;exact⟨rfl,rfl⟩
def zq0:(∀(w c)(h:Ok c),ba 54 #[aY c,I 0] w (.tuple #[I (cr c 0),I (aP c 0)]))∧(∀(w c)(h:Ok c),ba 54 #[aY c,I 1] w (.tuple #[I (cr c 1),I (aP c 1)]))∧(∀(w c)(h:Ok c),ba 54 #[aY c,I 2] w (.tuple #[I (cr c 2),I (aP c 2)]))∧(∀(w c)(h:Ok c),ba 54 #[aY c,I 3] w (.tuple #[I (cr c 3),I (aP c 3)]))∧(∀(w c)(h:Ok c),ba 54 #[aY c,I 4] w (.tuple #[I (cr c 4),I (aP c 4)]))∧(∀(w c)(h:Ok c),ba 54 #[aY c,I 5] w (.tuple #[I (cr c 5),I (aP c 5)]))∧(∀(w c)(h:Ok c),ba 54 #[aY c,I 7] w (.tuple #[I (cr c 7),I (aP c 7)]))∧(∀(w c)(h:Ok c),ba 54 #[aY c,I 8] w (.tuple #[I (cr c 8),I (aP c 8)]))∧(∀(w c)(h:Ok c),ba 54 #[aY c,I 9] w (.tuple #[I (cr c 9),I (aP c 9)]))∧(∀(w c)(h:Ok c),ba 54 #[aY c,I 10] w (.tuple #[I (cr c 10),I (aP c 10)]))∧(∀(w c)(h:Ok c),ba 54 #[aY c,I 11] w (.tuple #[I (cr c 11),I (aP c 11)]))∧(∀(w c)(h:Ok c),ba 54 #[aY c,I 12] w (.tuple #[I (cr c 12),I (aP c 12)]))∧(∀(w c)(h:Ok c),ba 54 #[aY c,I 13] w (.tuple #[I (cr c 13),I (aP c 13)]))∧(∀(w c)(h:Ok c),ba 54 #[aY c,I 14] w (.tuple #[I (cr c 14),I (aP c 14)]))∧(∀(w c)(h:Ok c),ba 54 #[aY c,I 16] w (.tuple #[I (cr c 16),I (aP c 16)]))∧(∀(w c)(h:Ok c),ba 54 #[aY c,I 6] w (.tuple #[I (cr c 6),I (aP c 6)]))∧(∀(w c)(h:Ok c),ba 54 #[aY c,I 15] w (.tuple #[I (cr c 15),I (aP c 15)])):=by
 refine⟨?Z,?Y,?X,?J,?G,?D,?V,?U,?g0,?g1,?g2,?g3,?g4,?g5,?g6,?g7,?g8⟩
 case' Z=>intro w c h;rw[show cr c 0=1 by simp[cr],show aP c 0=1 by simp[aP,each]]
 case' Y=>intro w c h;rw[show cr c 1=c.t by simp[cr],show aP c 1=1 by simp[aP,each]]
 case' X=>intro w c h;rw[show cr c 2=c.t by simp[cr],show aP c 2=4 by simp[aP,each]]
 case' J=>intro w c h;rw[show cr c 3=c.t by simp[cr],show aP c 3=1 by simp[aP,each]]
 case' G=>intro w c h;rw[show cr c 4=c.t by simp[cr],show aP c 4=1 by simp[aP,each]]
 case' D=>intro w c h;rw[show cr c 5=c.t by simp[cr],show aP c 5=1 by simp[aP,each]]
 case' V=>intro w c h;rw[show cr c 7=c.t by simp[cr],show aP c 7=1 by simp[aP,each]]
 case' U=>intro w c h;rw[show cr c 8=c.t by simp[cr],show aP c 8=1 by simp[aP,each]]
 case' g0=>intro w c h;rw[show cr c 9=c.t by simp[cr],show aP c 9=1 by simp[aP,each]]
 case' g1=>intro w c h;rw[show cr c 10=16 by simp[cr],show aP c 10=1 by simp[aP,each]]
 case' g2=>intro w c h;rw[show cr c 11=c.b by simp[cr],show aP c 11=1 by simp[aP,each]]
 case' g3=>intro w c h;rw[show cr c 12=1 by simp[cr],show aP c 12=1 by simp[aP,each]]
 case' g4=>intro w c h;rw[show cr c 13=c.b by simp[cr],show aP c 13=1 by simp[aP,each]]
 case' g5=>intro w c h;rw[show cr c 14=1 by simp[cr],show aP c 14=1 by simp[aP,each]]
 case' g6=>intro w c h;rw[show cr c 16=c.b by simp[cr],show aP c 16=8 by simp[aP,each]]
 case' Z|Y|X|J|G|D|V|U|g0|g1|g2|g3|g4|g5|g6=>unfold aY
 case' g7=>intro w c h;rw[show cr c 6=c.t by simp[cr],show aP c 6=cap c by simp[aP,each]];have HC:=aa (λw=>uY w c h)
 case' g8=>intro w c h;rw[show cr c 15=b_ c by simp[cr],show aP c 15=1 by simp[aP,each]];have HC:=aa (λw=>gL w c h)
 case' g7|g8=>have aD:(ae c).length=24:=rfl;unfold aY at*
 case' Z|Y|X|J|G|D|V|U|g0|g1|g2|g3|g4|g5|g6|g7|g8=>have hm:=cB.new w 58 (ae c);have c0:(w.alloc (.cells (ae c).toArray 58)).cell? ⟨w.heap.size,0,none⟩=some (I c.t):=hm.cell 0
 case' Z|Y|X|J|G|D|V|U|g0|g1|g2|g3|g4|g5|g6=>have c1:(w.alloc (.cells (ae c).toArray 58)).cell? ⟨w.heap.size,1,none⟩=some (I c.b):=hm.cell 1
 case' Z|Y|X|J|G|D|V|U|g0|g1|g2|g3|g4|g5|g6|g7|g8=>have HM:=aa hm;clear hm;generalize ae c=cs at*
 case' Z|Y|X|J|G|D|V|U|g0|g1|g2|g3|g4|g5|g6=>delta ba;go_in;go_wp2;go_ret2
 case' g7=>generalize cap c=q at*;delta ba;go_in;go_wp2;have cC:=HM.drew;refine bW [(1,[0,1,2,3]),(2,[4]),(0,[5,6])] (by kernel_rfl) ?_;simp only[zz]
 case' g8=>generalize b_ c=q at*;delta ba;go_in;go_wp2_with(refine ay 58 _ rfl rfl _ 0 rfl cs _ HM.range underlying58 rfl (by rw[aD];kernel_rfl) ?_);refine(HC.out _).kh λw1 HF=>?_;go_wp2;go_ret2
 case' Z|Y|X|J|G|D|V|U|g0|g1|g2|g3|g4|g5|g6=>exact⟨rfl,(Fr.refl [] _).alloc _⟩
 case' g7=>
  refine af ?_;iterate 3 (first|go_big_quiet_step (fail)|quiet_step (fail))
  refine ak 58 _ w.heap.size 0 cs _ rfl rfl rfl (bL cC (by simp)) underlying58 rfl (by rw[aD];kernel_rfl) ?_;simp only[Act.put,aZ,zs];refine ax ?_;refine aA ?_;go_wp2_with fail;refine(HC.out _).kh λw1 HF=>?_;go_wp2;refine⟨⟨⟨_,(by exact HF.out)⟩,rfl⟩,?_⟩;repeat(first|go_big_quiet_step(fail)|apply ax|apply af|apply ag|apply ah)
  refine aj ?_;go_wp2;go_ret2;exact⟨rfl,(((Fr.refl [] _).alloc _).drew).trans HF.out⟩
 exact⟨rfl,((Fr.refl [] _).alloc _).trans HF.out⟩
def Oh:=@zq0.1
def Oi:=@zq0.2.1
def Oj:=@zq0.2.2.1
def Ol:=@zq0.2.2.2.1
def Om:=@zq0.2.2.2.2.1
def On:=@zq0.2.2.2.2.2.1
def Oo:=@zq0.2.2.2.2.2.2.1
def Oq:=@zq0.2.2.2.2.2.2.2.1
def Ot:=@zq0.2.2.2.2.2.2.2.2.1
def KJ:=@zq0.2.2.2.2.2.2.2.2.2.1
def KK:=@zq0.2.2.2.2.2.2.2.2.2.2.1
def KM:=@zq0.2.2.2.2.2.2.2.2.2.2.2.1
def KO:=@zq0.2.2.2.2.2.2.2.2.2.2.2.2.1
def KP:=@zq0.2.2.2.2.2.2.2.2.2.2.2.2.2.1
def KQ:=@zq0.2.2.2.2.2.2.2.2.2.2.2.2.2.2.1
def Ou:=@zq0.2.2.2.2.2.2.2.2.2.2.2.2.2.2.2.1
def KR:=@zq0.2.2.2.2.2.2.2.2.2.2.2.2.2.2.2.2
def KS (w c kind)(hk:kind<0∨16<kind):ba 54 #[aY c,I kind] w (.tuple #[I (cr c kind),I (aP c kind)]):=by
 rw[show cr c kind=0 by unfold cr;rw[aq (by omega),aq (by omega),aq (by omega),aq (by omega),aq (by omega)],show aP c kind=0 by unfold aP;rw[aq (by omega)]];unfold aY;have d0:(kind==(0:Int))=false:=by simp;omega
 have d1:(kind==(1:Int))=false:=by simp;omega
 have d2:(kind==(2:Int))=false:=by simp;omega
 have d3:(kind==(3:Int))=false:=by simp;omega
 have d4:(kind==(4:Int))=false:=by simp;omega
 have d5:(kind==(5:Int))=false:=by simp;omega
 have d6:(kind==(6:Int))=false:=by simp;omega
 have d7:(kind==(7:Int))=false:=by simp;omega
 have d8:(kind==(8:Int))=false:=by simp;omega
 have d9:(kind==(9:Int))=false:=by simp;omega
 have d10:(kind==(10:Int))=false:=by simp;omega
 have d11:(kind==(11:Int))=false:=by simp;omega
 have d12:(kind==(12:Int))=false:=by simp;omega
 have d13:(kind==(13:Int))=false:=by simp;omega
 have d14:(kind==(14:Int))=false:=by simp;omega
 have d15:(kind==(15:Int))=false:=by simp;omega
 have d16:(kind==(16:Int))=false:=by simp;omega
 clear hk;generalize ae c=cs;delta ba;go_in;go_wp2;go_ret2;exact⟨rfl,(Fr.refl [] _).alloc _⟩
def kinds {kind:Int}(h:0≤kind∧kind≤16):kind=0∨kind=1∨kind=2∨kind=3∨kind=4∨kind=5∨kind=6∨kind=7∨kind=8∨kind=9∨kind=10∨kind=11∨kind=12∨kind=13∨kind=14∨kind=15∨kind=16:=by omega
def cN (w c)(h:Ok c)(kind):ba 54 #[aY c,I kind] w (.tuple #[I (cr c kind),I (aP c kind)]):=by
 by_cases hk:0≤kind∧kind≤16
 ·rcases kinds hk with rfl|rfl|rfl|rfl|rfl|rfl|rfl|rfl|rfl|rfl|rfl|rfl|rfl|rfl|rfl|rfl|rfl
  ·exact Oh w c h
  ·exact Oi w c h
  ·exact Oj w c h
  ·exact Ol w c h
  ·exact Om w c h
  ·exact On w c h
  ·exact Ou w c h
  ·exact Oo w c h
  ·exact Oq w c h
  ·exact Ot w c h
  ·exact KJ w c h
  ·exact KK w c h
  ·exact KM w c h
  ·exact KO w c h
  ·exact KP w c h
  ·exact KR w c h
  ·exact KQ w c h
 ·exact KS w c kind (by omega)
end Go.Proofs.YtolkmchicplaoaaGreat
namespace Go.aS.Y
def iY (c:cA)(kind:Int):Int:=
 if kind=7 then dj c else if kind=10 then dO c else if kind=11 then ef c else if kind=12 then fI c else if kind=13 then cK c else if kind=14 then gu c else if kind=15 then c8 c else if kind=16 then eo c else if kind=17 then size c else 0
def Is (c:cA)(kind i k:Int):Prop:=0≤i∧i<cr c kind∧0≤k∧k<aP c kind
instance (c:cA)(kind i k:Int):Decidable (Is c kind i k):=by unfold Is;infer_instance
def place (c:cA)(kind i k:Int):Int:=
 if kind=0 then 0 else if kind≤6 then 1+i*aX c+dZ kind+k else if kind≤9 then dj c+i*3+kind-7 else iY c kind+i*each c kind+k
def at_ (c:cA)(kind i k:Int):Int:=if Is c kind i k then place c kind i k else-1
def ke {c}(h:Ok c){i}(h0:0≤i)(h1:i<c.t):0≤i*aX c∧i*aX c+aX c≤c.t*aX c:=by
 have h3:=fW h;have h4:=CY (x:=i) (y:=aX c) (a:=c.t-1) (b:=aX c) h0 (by omega) (by omega) (by omega);rw[Int.sub_mul]at h4;omega
def yP {c kind i k}(h:Is c kind i k):0≤kind∧kind≤16:=by
 obtain⟨h0,h1,h2,h3⟩:=h;unfold aP at h3;split at h3
 ·assumption
 ·omega
def oQ {c}(h:Ok c)(kind):0≤iY c kind∧iY c kind≤18100:=by
 have h1:=A3 h;have h2:=bK h;have:=h.t1;have:=h.t8;have:=h.b1;have:=h.nZ;have:=h1.tag;have:=h1.root;have:=h1.rY;have:=h1.top;have:=h1.stack;have:=h1.bS;have:=h1.mx;have:=h1.word;have:=h1.my;have:=iQ h;unfold iY
 repeat' split
 all_goals omega
end Go.aS.Y
namespace Go.Proofs.YtolkmchicplaoaaGreat
open Go.RowKit Go.aS Go.aS.Y
def zq1:(∀(w c)(h:Ok c)(kind i k)(d0:decide (i<0)=true),ba 47 #[aY c,I kind,I i,I k] w (I (-1)))∧(∀(w c)(h:Ok c)(kind i k)(d0:decide (i<0)=false)(d1:decide (i≥cr c kind)=true),ba 47 #[aY c,I kind,I i,I k] w (I (-1)))∧(∀(w c)(h:Ok c)(kind i k)(d0:decide (i<0)=false)(d1:decide (i≥cr c kind)=false)(d2:decide (k<0)=true),ba 47 #[aY c,I kind,I i,I k] w (I (-1)))∧(∀(w c)(h:Ok c)(kind i k)(d0:decide (i<0)=false)(d1:decide (i≥cr c kind)=false)(d2:decide (k<0)=false)(d3:decide (k≥aP c kind)=true),ba 47 #[aY c,I kind,I i,I k] w (I (-1)))∧(∀(w c)(h:Ok c)(i k)(hi:Is c 0 i k),ba 47 #[aY c,I 0,I i,I k] w (I 0))∧(∀(w c)(h:Ok c)(i k)(hi:Is c 1 i k),ba 47 #[aY c,I 1,I i,I k] w (I (1+i*aX c+k)))∧(∀(w c)(h:Ok c)(i k)(hi:Is c 2 i k),ba 47 #[aY c,I 2,I i,I k] w (I (1+i*aX c+1+k)))∧(∀(w c)(h:Ok c)(i k)(hi:Is c 3 i k),ba 47 #[aY c,I 3,I i,I k] w (I (1+i*aX c+5+k)))∧(∀(w c)(h:Ok c)(i k)(hi:Is c 4 i k),ba 47 #[aY c,I 4,I i,I k] w (I (1+i*aX c+6+k)))∧(∀(w c)(h:Ok c)(i k)(hi:Is c 5 i k),ba 47 #[aY c,I 5,I i,I k] w (I (1+i*aX c+7+k)))∧(∀(w c)(h:Ok c)(i k)(hi:Is c 6 i k),ba 47 #[aY c,I 6,I i,I k] w (I (1+i*aX c+8+k)))∧(∀(w c)(h:Ok c)(i k)(hi:Is c 7 i k),ba 47 #[aY c,I 7,I i,I k] w (I (dj c+i*3)))∧(∀(w c)(h:Ok c)(i k)(hi:Is c 8 i k),ba 47 #[aY c,I 8,I i,I k] w (I (dj c+i*3+8-7)))∧(∀(w c)(h:Ok c)(i k)(hi:Is c 9 i k),ba 47 #[aY c,I 9,I i,I k] w (I (dj c+i*3+9-7)))∧(∀(w c)(h:Ok c)(i k)(hi:Is c 10 i k),ba 47 #[aY c,I 10,I i,I k] w (I (dO c+i*each c 10+k)))∧(∀(w c)(h:Ok c)(i k)(hi:Is c 11 i k),ba 47 #[aY c,I 11,I i,I k] w (I (ef c+i*each c 11+k)))∧(∀(w c)(h:Ok c)(i k)(hi:Is c 12 i k),ba 47 #[aY c,I 12,I i,I k] w (I (fI c+i*each c 12+k)))∧(∀(w c)(h:Ok c)(i k)(hi:Is c 13 i k),ba 47 #[aY c,I 13,I i,I k] w (I (cK c+i*each c 13+k)))∧(∀(w c)(h:Ok c)(i k)(hi:Is c 14 i k),ba 47 #[aY c,I 14,I i,I k] w (I (gu c+i*each c 14+k)))∧(∀(w c)(h:Ok c)(i k)(hi:Is c 15 i k),ba 47 #[aY c,I 15,I i,I k] w (I (c8 c+i*each c 15+k)))∧(∀(w c)(h:Ok c)(i k)(hi:Is c 16 i k),ba 47 #[aY c,I 16,I i,I k] w (I (eo c+i*each c 16+k))):=by
 refine⟨?Z,?Y,?X,?J,?G,?D,?V,?U,?g0,?g1,?g2,?g3,?g4,?g5,?g6,?g7,?g8,?g9,?ga,?gb,?gc⟩
 case' Z=>intro w c h kind i k d0
 case' Y=>intro w c h kind i k d0 d1
 case' X=>intro w c h kind i k d0 d1 d2
 case' J=>intro w c h kind i k d0 d1 d2 d3
 case' G=>
  intro w c h i k hi;have d0:decide (i<0)=false:=by simp;have:=hi.1;omega
  have d1:decide (i≥cr c 0)=false:=by simp;exact hi.2.1
  have d2:decide (k<0)=false:=by simp;have:=hi.2.2.1;omega
  have d3:decide (k≥aP c 0)=false:=by simp;exact hi.2.2.2
 case' D|V|U|g0|g1|g2=>
  intro w c h i k hi;have wJ:i<c.t:=hi.2.1;have hb:0≤i*aX c∧i*aX c≤16848:=by
   have h1:=ke h hi.1 wJ;have h2:=xF h;have h3:=fW h;omega
  have yQ:0≤k:=hi.2.2.1
 case' D=>
  have sf:k<10000:=by
   have:=hi.2.2.2;have:=iI h;have e:aP c 1=1:=by simp[aP,each]
   omega
 case' V=>
  have sf:k<10000:=by
   have:=hi.2.2.2;have:=iI h;have e:aP c 2=4:=by simp[aP,each]
   omega
 case' U=>
  have sf:k<10000:=by
   have:=hi.2.2.2;have:=iI h;have e:aP c 3=1:=by simp[aP,each]
   omega
 case' g0=>
  have sf:k<10000:=by
   have:=hi.2.2.2;have:=iI h;have e:aP c 4=1:=by simp[aP,each]
   omega
 case' g1=>
  have sf:k<10000:=by
   have:=hi.2.2.2;have:=iI h;have e:aP c 5=1:=by simp[aP,each]
   omega
 case' g2=>
  have sf:k<10000:=by
   have:=hi.2.2.2;have:=iI h;have e:aP c 6=cap c:=by simp[aP,each]
   omega
 case' g3|g4|g5=>
  intro w c h i k hi;have wJ:i<c.t:=hi.2.1;have iJ:0≤i:=hi.1;have hi8:i≤8:=by have:=h.t8;omega
  have hF:=(A3 h).tag
 case' g6=>
  intro w c h i k hi;have he:each c 10=1:=by simp[each]
  have AT:aP c 10=each c 10:=by simp[aP]
 case' g7=>
  intro w c h i k hi;have he:each c 11=1:=by simp[each]
  have AT:aP c 11=each c 11:=by simp[aP]
 case' g6|g7=>
  have iJ:0≤i:=hi.1;have yQ:0≤k:=hi.2.2.1;have sf:k≤8:=by
   have:=hi.2.2.2;omega
 case' g6=>
  have xG:0≤i*each c 10∧i*each c 10≤4160:=by
   have e:cr c 10=16:=by simp[cr]
   have h1:=hi.2.1;have h2:=h.nZ;have h3:=bK h;rw[he];omega
  have hF:0≤dO c∧dO c≤18100:=oQ h 10
 case' g7=>
  have xG:0≤i*each c 11∧i*each c 11≤4160:=by
   have e:cr c 11=c.b:=by simp[cr]
   have h1:=hi.2.1;have h2:=h.nZ;have h3:=bK h;rw[he];omega
  have hF:0≤ef c∧ef c≤18100:=oQ h 11
 case' g8=>
  intro w c h i k hi;have he:each c 12=1:=by simp[each]
  have AT:aP c 12=each c 12:=by simp[aP]
 case' g9=>
  intro w c h i k hi;have he:each c 13=1:=by simp[each]
  have AT:aP c 13=each c 13:=by simp[aP]
 case' g8|g9=>
  have iJ:0≤i:=hi.1;have yQ:0≤k:=hi.2.2.1;have sf:k≤8:=by
   have:=hi.2.2.2;omega
 case' g8=>
  have xG:0≤i*each c 12∧i*each c 12≤4160:=by
   have e:cr c 12=1:=by simp[cr]
   have h1:=hi.2.1;have h2:=h.nZ;have h3:=bK h;rw[he];omega
  have hF:0≤fI c∧fI c≤18100:=oQ h 12
 case' g9=>
  have xG:0≤i*each c 13∧i*each c 13≤4160:=by
   have e:cr c 13=c.b:=by simp[cr]
   have h1:=hi.2.1;have h2:=h.nZ;have h3:=bK h;rw[he];omega
  have hF:0≤cK c∧cK c≤18100:=oQ h 13
 case' ga=>
  intro w c h i k hi;have he:each c 14=1:=by simp[each]
  have AT:aP c 14=each c 14:=by simp[aP]
 case' gb=>
  intro w c h i k hi;have he:each c 15=1:=by simp[each]
  have AT:aP c 15=each c 15:=by simp[aP]
 case' ga|gb=>
  have iJ:0≤i:=hi.1;have yQ:0≤k:=hi.2.2.1;have sf:k≤8:=by
   have:=hi.2.2.2;omega
 case' ga=>
  have xG:0≤i*each c 14∧i*each c 14≤4160:=by
   have e:cr c 14=1:=by simp[cr]
   have h1:=hi.2.1;have h2:=h.nZ;have h3:=bK h;rw[he];omega
  have hF:0≤gu c∧gu c≤18100:=oQ h 14
 case' gb=>
  have xG:0≤i*each c 15∧i*each c 15≤4160:=by
   have e:cr c 15=b_ c:=by simp[cr]
   have h1:=hi.2.1;have h2:=h.nZ;have h3:=bK h;rw[he];omega
  have hF:0≤c8 c∧c8 c≤18100:=oQ h 15
 case' D|V|U|g0|g1|g2|g3|g4|g5|g6|g7|g8|g9|ga|gb=>have d0:decide (i<0)=false:=by simp;have:=hi.1;omega
 case' D=>have d1:decide (i≥cr c 1)=false:=by simp;exact hi.2.1
 case' V=>have d1:decide (i≥cr c 2)=false:=by simp;exact hi.2.1
 case' U=>have d1:decide (i≥cr c 3)=false:=by simp;exact hi.2.1
 case' g0=>have d1:decide (i≥cr c 4)=false:=by simp;exact hi.2.1
 case' g1=>have d1:decide (i≥cr c 5)=false:=by simp;exact hi.2.1
 case' g2=>have d1:decide (i≥cr c 6)=false:=by simp;exact hi.2.1
 case' g3=>have d1:decide (i≥cr c 7)=false:=by simp;exact hi.2.1
 case' g4=>have d1:decide (i≥cr c 8)=false:=by simp;exact hi.2.1
 case' g5=>have d1:decide (i≥cr c 9)=false:=by simp;exact hi.2.1
 case' g6=>have d1:decide (i≥cr c 10)=false:=by simp;exact hi.2.1
 case' g7=>have d1:decide (i≥cr c 11)=false:=by simp;exact hi.2.1
 case' g8=>have d1:decide (i≥cr c 12)=false:=by simp;exact hi.2.1
 case' g9=>have d1:decide (i≥cr c 13)=false:=by simp;exact hi.2.1
 case' ga=>have d1:decide (i≥cr c 14)=false:=by simp;exact hi.2.1
 case' gb=>have d1:decide (i≥cr c 15)=false:=by simp;exact hi.2.1
 case' D|V|U|g0|g1|g2|g3|g4|g5|g6|g7|g8|g9|ga|gb=>have d2:decide (k<0)=false:=by simp;have:=hi.2.2.1;omega
 case' D=>have d3:decide (k≥aP c 1)=false:=by simp;exact hi.2.2.2
 case' V=>have d3:decide (k≥aP c 2)=false:=by simp;exact hi.2.2.2
 case' U=>have d3:decide (k≥aP c 3)=false:=by simp;exact hi.2.2.2
 case' g0=>have d3:decide (k≥aP c 4)=false:=by simp;exact hi.2.2.2
 case' g1=>have d3:decide (k≥aP c 5)=false:=by simp;exact hi.2.2.2
 case' g2=>have d3:decide (k≥aP c 6)=false:=by simp;exact hi.2.2.2
 case' g3=>have d3:decide (k≥aP c 7)=false:=by simp;exact hi.2.2.2
 case' g4=>have d3:decide (k≥aP c 8)=false:=by simp;exact hi.2.2.2
 case' g5=>have d3:decide (k≥aP c 9)=false:=by simp;exact hi.2.2.2
 case' g6=>have d3:decide (k≥aP c 10)=false:=by simp;exact hi.2.2.2
 case' g7=>have d3:decide (k≥aP c 11)=false:=by simp;exact hi.2.2.2
 case' g8=>have d3:decide (k≥aP c 12)=false:=by simp;exact hi.2.2.2
 case' g9=>have d3:decide (k≥aP c 13)=false:=by simp;exact hi.2.2.2
 case' ga=>have d3:decide (k≥aP c 14)=false:=by simp;exact hi.2.2.2
 case' gb=>have d3:decide (k≥aP c 15)=false:=by simp;exact hi.2.2.2
 case' gc=>
  intro w c h i k hi;have he:each c 16=8:=by simp[each]
  have AT:aP c 16=each c 16:=by simp[aP]
  have iJ:0≤i:=hi.1;have yQ:0≤k:=hi.2.2.1;have sf:k≤8:=by
   have:=hi.2.2.2;omega
  have xG:0≤i*each c 16∧i*each c 16≤4160:=by
   have e:cr c 16=c.b:=by simp[cr]
   have h1:=hi.2.1;have h2:=h.nZ;have h3:=bK h;rw[he];omega
  have hF:0≤eo c∧eo c≤18100:=oQ h 16;have d0:decide (i<0)=false:=by simp;have:=hi.1;omega
  have d1:decide (i≥cr c 16)=false:=by simp;exact hi.2.1
  have d2:decide (k<0)=false:=by simp;have:=hi.2.2.1;omega
  have d3:decide (k≥aP c 16)=false:=by simp;exact hi.2.2.2
 case' Z|Y|X|J|G|D|V|U|g0|g1|g2|g3|g4|g5|g6|g7|g8|g9|ga|gb|gc=>have hm:=cB.new w 58 (ae c);have aD:(ae c).length=24:=rfl
 case' Z|Y|X|J=>have HC:=aa (λw=>cN w c h kind)
 case' G=>have HC:=aa (λw=>cN w c h 0)
 case' D=>have HC:=aa (λw=>cN w c h 1)
 case' V=>have HC:=aa (λw=>cN w c h 2)
 case' U=>have HC:=aa (λw=>cN w c h 3)
 case' g0=>have HC:=aa (λw=>cN w c h 4)
 case' g1=>have HC:=aa (λw=>cN w c h 5)
 case' g2=>have HC:=aa (λw=>cN w c h 6)
 case' g3=>have HC:=aa (λw=>cN w c h 7)
 case' g4=>have HC:=aa (λw=>cN w c h 8)
 case' g5=>have HC:=aa (λw=>cN w c h 9)
 case' g6=>have HC:=aa (λw=>cN w c h 10)
 case' g7=>have HC:=aa (λw=>cN w c h 11)
 case' g8=>have HC:=aa (λw=>cN w c h 12)
 case' g9=>have HC:=aa (λw=>cN w c h 13)
 case' ga=>have HC:=aa (λw=>cN w c h 14)
 case' gb=>have HC:=aa (λw=>cN w c h 15)
 case' gc=>have HC:=aa (λw=>cN w c h 16)
 case' Z|Y|X|J|G|D|V|U|g0|g1|g2|g3|g4|g5|g6|g7|g8|g9|ga|gb|gc=>have HS:=aa (λw=>cT w c h);unfold aY at*;have HM:=aa hm;clear hm
 case' Z|Y|X|J|G=>generalize ae c=cs at*
 case' Z|Y|X|J=>generalize cr c kind=n at*;generalize aP c kind=sz at*;clear HS h
 case' G=>generalize cr c 0=n at*;generalize aP c 0=sz at*;clear HS h hi
 case' D|V|U|g0|g1|g2=>generalize ae c=cs at*
 case' D=>generalize cr c 1=n at*;generalize aP c 1=sz at*
 case' V=>generalize cr c 2=n at*;generalize aP c 2=sz at*
 case' U=>generalize cr c 3=n at*;generalize aP c 3=sz at*
 case' g0=>generalize cr c 4=n at*;generalize aP c 4=sz at*
 case' g1=>generalize cr c 5=n at*;generalize aP c 5=sz at*
 case' g2=>generalize cr c 6=n at*;generalize aP c 6=sz at*
 case' D|V|U|g0|g1|g2=>generalize aX c=s at*;clear h hi wJ
 case' g3|g4|g5=>have g:(ae c)[13]?=some (I (dj c)):=rfl;generalize ae c=cs at*
 case' g3=>generalize cr c 7=n at*;generalize aP c 7=sz at*
 case' g4=>generalize cr c 8=n at*;generalize aP c 8=sz at*
 case' g5=>generalize cr c 9=n at*;generalize aP c 9=sz at*
 case' g3|g4|g5=>generalize dj c=F at*;clear HS h hi wJ
 case' g6=>have g:(ae c)[16]?=some (I (dO c)):=rfl;rw[AT]at*;generalize ae c=cs at*;generalize cr c 10=n at*;generalize each c 10=sz at*;generalize dO c=F at*
 case' g7=>have g:(ae c)[17]?=some (I (ef c)):=rfl;rw[AT]at*;generalize ae c=cs at*;generalize cr c 11=n at*;generalize each c 11=sz at*;generalize ef c=F at*
 case' g6|g7=>clear HS h hi he AT
 case' g8=>have g:(ae c)[18]?=some (I (fI c)):=rfl;rw[AT]at*;generalize ae c=cs at*;generalize cr c 12=n at*;generalize each c 12=sz at*;generalize fI c=F at*
 case' g9=>have g:(ae c)[19]?=some (I (cK c)):=rfl;rw[AT]at*;generalize ae c=cs at*;generalize cr c 13=n at*;generalize each c 13=sz at*;generalize cK c=F at*
 case' g8|g9=>clear HS h hi he AT
 case' ga=>have g:(ae c)[20]?=some (I (gu c)):=rfl;rw[AT]at*;generalize ae c=cs at*;generalize cr c 14=n at*;generalize each c 14=sz at*;generalize gu c=F at*
 case' gb=>have g:(ae c)[21]?=some (I (c8 c)):=rfl;rw[AT]at*;generalize ae c=cs at*;generalize cr c 15=n at*;generalize each c 15=sz at*;generalize c8 c=F at*
 case' ga|gb=>clear HS h hi he AT
 case' gc=>have g:(ae c)[22]?=some (I (eo c)):=rfl;rw[AT]at*;generalize ae c=cs at*;generalize cr c 16=n at*;generalize each c 16=sz at*;generalize eo c=F at*;clear HS h hi he AT
 case' Z|Y|X|J|G|D|V|U|g0|g1|g2|g3|g4|g5|g6|g7|g8|g9|ga|gb|gc=>delta ba;go_in;go_wp2_with(refine ay 58 _ rfl rfl _ 0 rfl cs _ HM.range underlying58 rfl (by rw[aD];kernel_rfl) ?_);refine(HC.out _).kk λw1 hf=>?_;have eN:=aa (HM.fr hf (by simp));have HF:=aa (((Fr.refl [] w).alloc _).trans hf);clear hf
 case' Z|Y|X|J|G=>go_wp2;go_ret
 case' D|V|U|g0|g1|g2=>go_wp2_with(refine ay 58 _ rfl rfl _ 0 rfl cs _ eN.range underlying58 rfl (by rw[aD];kernel_rfl) ?_);refine(HS.out _).kk λw2 hf=>?_;have lU:=aa (HF.trans hf);clear hf;go_wp2_with fail;refine(dR _ _).mono ?_;rintro e w3 ⟨rfl,rfl⟩
 case' D=>rw[show dZ 1=0 from rfl];go_wp2;go_ret;generalize 1+i*s+k=res
 case' V=>rw[show dZ 2=1 from rfl];go_wp2;go_ret;generalize 1+i*s+1+k=res
 case' U=>rw[show dZ 3=5 from rfl];go_wp2;go_ret;generalize 1+i*s+5+k=res
 case' g0=>rw[show dZ 4=6 from rfl];go_wp2;go_ret;generalize 1+i*s+6+k=res
 case' g1=>rw[show dZ 5=7 from rfl];go_wp2;go_ret;generalize 1+i*s+7+k=res
 case' g2=>rw[show dZ 6=8 from rfl];go_wp2;go_ret;generalize 1+i*s+8+k=res
 case' g3|g4|g5=>have zo:w1.cell? ⟨w.heap.size,13,none⟩=some (I F):=(eN.cell 13).trans g;go_wp2;go_ret
 case' g3=>generalize F+i*3=res
 case' g4=>generalize F+i*3+8-7=res
 case' g5=>generalize F+i*3+9-7=res
 case' g6=>have zo:w1.cell? ⟨w.heap.size,16,none⟩=some (I F):=(eN.cell 16).trans g;go_wp2;go_ret;generalize F+i*sz+k=res
 case' g7=>have zo:w1.cell? ⟨w.heap.size,17,none⟩=some (I F):=(eN.cell 17).trans g;go_wp2;go_ret;generalize F+i*sz+k=res
 case' g8=>have zo:w1.cell? ⟨w.heap.size,18,none⟩=some (I F):=(eN.cell 18).trans g;go_wp2;go_ret;generalize F+i*sz+k=res
 case' g9=>have zo:w1.cell? ⟨w.heap.size,19,none⟩=some (I F):=(eN.cell 19).trans g;go_wp2;go_ret;generalize F+i*sz+k=res
 case' ga=>have zo:w1.cell? ⟨w.heap.size,20,none⟩=some (I F):=(eN.cell 20).trans g;go_wp2;go_ret;generalize F+i*sz+k=res
 case' gb=>have zo:w1.cell? ⟨w.heap.size,21,none⟩=some (I F):=(eN.cell 21).trans g;go_wp2;go_ret;generalize F+i*sz+k=res
 case' gc=>have zo:w1.cell? ⟨w.heap.size,22,none⟩=some (I F):=(eN.cell 22).trans g;go_wp2;go_ret;generalize F+i*sz+k=res
 case' Z|Y|X|J|G|g3|g4|g5|g6|g7|g8|g9|ga|gb|gc=>exact⟨rfl,HF.out⟩
 case' D|V|U|g0|g1|g2=>exact⟨rfl,lU.out⟩
def Tr:=@zq1.1
def Tt:=@zq1.2.1
def Tu:=@zq1.2.2.1
def Tv:=@zq1.2.2.2.1
def am8:=@zq1.2.2.2.2.1
def am9:=@zq1.2.2.2.2.2.1
def an0:=@zq1.2.2.2.2.2.2.1
def an1:=@zq1.2.2.2.2.2.2.2.1
def an2:=@zq1.2.2.2.2.2.2.2.2.1
def an3:=@zq1.2.2.2.2.2.2.2.2.2.1
def an4:=@zq1.2.2.2.2.2.2.2.2.2.2.1
def an5:=@zq1.2.2.2.2.2.2.2.2.2.2.2.1
def an6:=@zq1.2.2.2.2.2.2.2.2.2.2.2.2.1
def an7:=@zq1.2.2.2.2.2.2.2.2.2.2.2.2.2.1
def ac5:=@zq1.2.2.2.2.2.2.2.2.2.2.2.2.2.2.1
def ac6:=@zq1.2.2.2.2.2.2.2.2.2.2.2.2.2.2.2.1
def ac7:=@zq1.2.2.2.2.2.2.2.2.2.2.2.2.2.2.2.2.1
def ac8:=@zq1.2.2.2.2.2.2.2.2.2.2.2.2.2.2.2.2.2.1
def ac9:=@zq1.2.2.2.2.2.2.2.2.2.2.2.2.2.2.2.2.2.2.1
def ad0:=@zq1.2.2.2.2.2.2.2.2.2.2.2.2.2.2.2.2.2.2.2.1
def ad1:=@zq1.2.2.2.2.2.2.2.2.2.2.2.2.2.2.2.2.2.2.2.2
def cx (w c)(h:Ok c)(kind i k):ba 47 #[aY c,I kind,I i,I k] w (I (at_ c kind i k)):=by
 unfold at_;by_cases hi:Is c kind i k
 ·rw[aB hi];rcases kinds (yP hi)with rfl|rfl|rfl|rfl|rfl|rfl|rfl|rfl|rfl|rfl|rfl|rfl|rfl|rfl|rfl|rfl|rfl
  ·exact am8 w c h i k hi
  ·rw[show place c 1 i k=1+i*aX c+k by simp[place,dZ]];exact am9 w c h i k hi
  ·rw[show place c 2 i k=1+i*aX c+1+k by simp[place,dZ]];exact an0 w c h i k hi
  ·rw[show place c 3 i k=1+i*aX c+5+k by simp[place,dZ]];exact an1 w c h i k hi
  ·rw[show place c 4 i k=1+i*aX c+6+k by simp[place,dZ]];exact an2 w c h i k hi
  ·rw[show place c 5 i k=1+i*aX c+7+k by simp[place,dZ]];exact an3 w c h i k hi
  ·rw[show place c 6 i k=1+i*aX c+8+k by simp[place,dZ]];exact an4 w c h i k hi
  ·rw[show place c 7 i k=dj c+i*3 by simp[place]];exact an5 w c h i k hi
  ·rw[show place c 8 i k=dj c+i*3+8-7 by simp[place]];exact an6 w c h i k hi
  ·rw[show place c 9 i k=dj c+i*3+9-7 by simp[place]];exact an7 w c h i k hi
  ·rw[show place c 10 i k=dO c+i*each c 10+k by simp[place,iY]];exact ac5 w c h i k hi
  ·rw[show place c 11 i k=ef c+i*each c 11+k by simp[place,iY]];exact ac6 w c h i k hi
  ·rw[show place c 12 i k=fI c+i*each c 12+k by simp[place,iY]];exact ac7 w c h i k hi
  ·rw[show place c 13 i k=cK c+i*each c 13+k by simp[place,iY]];exact ac8 w c h i k hi
  ·rw[show place c 14 i k=gu c+i*each c 14+k by simp[place,iY]];exact ac9 w c h i k hi
  ·rw[show place c 15 i k=c8 c+i*each c 15+k by simp[place,iY]];exact ad0 w c h i k hi
  ·rw[show place c 16 i k=eo c+i*each c 16+k by simp[place,iY]];exact ad1 w c h i k hi
 ·rw[aq hi];by_cases h0:i<0
  ·exact Tr w c h kind i k (by simpa using h0)
  by_cases h1:cr c kind≤i
  ·exact Tt w c h kind i k (by simpa using h0) (by simpa using h1)
  by_cases h2:k<0
  ·exact Tu w c h kind i k (by simpa using h0) (by simpa using h1) (by simpa using h2)
  by_cases h3:aP c kind≤k
  ·exact Tv w c h kind i k (by simpa using h0) (by simpa using h1) (by simpa using h2) (by simpa using h3)
  exact absurd ⟨by omega,by omega,by omega,by omega⟩ hi
end Go.Proofs.YtolkmchicplaoaaGreat
namespace Go.aS.Y
def gT (c:cA):List Value:=[I c.t,I c.b,I c.w,I c.f,U c.fi,U c.la]
def uZ:List Value:=[I 0,I 0,I 0,I 0,U 0,U 0,I 0,I 0,I 0,I 0,I 0,I 0,I 0,I 0,I 0,I 0,I 0,I 0,I 0,I 0,I 0,I 0,I 0,I 0]
def kX (c:cA):List Value:=[I c.t,I c.b,I c.w,I c.f,U c.fi,U c.la,I 0,I 0,I 0,I 0,I 0,I 0,I 0,I 0,I 0,I 0,I 0,I 0,I 0,I 0,I 0,I 0,I 0,I 0]
end Go.aS.Y
namespace Go.Proofs.YtolkmchicplaoaaGreat
open Go.RowKit Go.aS Go.aS.Y
def KU {c}(h:Ok c):(14≤dj c∧dj c≤18100)∧(14≤dO c∧dO c≤18100)∧(14≤ef c∧ef c≤18100)∧(14≤fI c∧fI c≤18100)∧(14≤cK c∧cK c≤18100)∧(14≤gu c∧gu c≤18100)∧(14≤c8 c∧c8 c≤18100)∧(14≤eo c∧eo c≤18100):=by
 have h1:=A3 h;have h2:=bK h;have:=h.t1;have:=h.t8;have:=h.b1;have:=h.nZ;have:=h1.tag;have:=h1.root;have:=h1.rY;have:=h1.top;have:=h1.stack;have:=h1.bS;have:=h1.mx;have:=h1.word;have:=h1.my;have:=iQ h;omega
def u5 (w:World)(c:cA)(h:Ok c):ba 16 #[db c] w (.tuple #[aY c,I 0]):=by
 have HR:=aa (λw=>KG w c h);have mX:=aa (λw=>BN w c h (kX c) ⟨rfl,rfl,rfl,rfl⟩);have xH:=aa (λw=>zn w c h (kX c) ⟨rfl,rfl,rfl,rfl⟩);have xI:=fW h;have htb:=xF h;have AU:=h.t1;have sg:=h.t8;have nU:=h.b1;have kF:=h.nZ;have SV:=bK h;obtain⟨g0,g1,g2,g3,g4,g5,g6,g7⟩:=KU h;unfold db at*;have hS:=((Sep.nil (Fr.refl [] w)).new 31 (gT c)).new 58 uZ;simp only[cG]at hS;have HS:=aa hS;clear hS;delta ba;go_in;go_wp2_with fail;refine(HR.out _).kk λw1 hf=>?_;have hS:=HS.c_ hf;clear hf HS HR;have a0:=(hS.ar 1 rfl).cell 0;have a1:=(hS.ar 1 rfl).cell 1;have a2:=(hS.ar 1 rfl).cell 2;have a3:=(hS.ar 1 rfl).cell 3;have a4:=(hS.ar 1 rfl).cell 4;have a5:=(hS.ar 1 rfl).cell 5;simp only[gT,zg]at a0 a1 a2 a3 a4 a5;have aD:(kX c).length=24:=rfl;have pV:∀v∈kX c,v.oneCell'=true:=by simp[kX];exact⟨rfl,rfl,rfl,rfl,rfl,rfl,rfl⟩
 have hS:=hS.new 58 uZ;have HB:=aa (hS.ar 0 rfl);have HS:=aa (hS.iH 0 rfl (kX c) rfl);clear hS;go_wp2_with(refine pR rfl 58 _ _ rfl w1.heap.size 0 ((kX c)).toArray rfl rfl (HB.out.there _ rfl) (by rw[List.size_toArray,aD];kernel_rfl) (iX pV) ?_);have dS:Hid (Sep w ((w1.alloc (.cells #[I 0,I 0,I 0,I 0,U 0,U 0,I 0,I 0,I 0,I 0,I 0,I 0,I 0,I 0,I 0,I 0,I 0,I 0,I 0,I 0,I 0,I 0,I 0,I 0] 58)).setCells w1.heap.size 0 (kX c)) [aJ w1.heap.size 58 (kX c),aJ (w.heap.size+1) 58 uZ,aJ w.heap.size 31 (gT c)]):=HS;generalize(w1.alloc (.cells #[I 0,I 0,I 0,I 0,U 0,U 0,I 0,I 0,I 0,I 0,I 0,I 0,I 0,I 0,I 0,I 0,I 0,I 0,I 0,I 0,I 0,I 0,I 0,I 0] 58)).setCells w1.heap.size 0 (kX c)=w2 at*;generalize w1.heap.size=q at*;clear HS HB pV a0 a1 a2 a3 a4 a5;have hS:=dS.out;have a0:=(hS.ar 2 rfl).cell 0;have a1:=(hS.ar 2 rfl).cell 1;have a2:=(hS.ar 2 rfl).cell 2;have a3:=(hS.ar 2 rfl).cell 3;have a4:=(hS.ar 2 rfl).cell 4;have a5:=(hS.ar 2 rfl).cell 5;simp only[gT,zg]at a0 a1 a2 a3 a4 a5;have cC:=(hS.ar 0 rfl).drew;have HS:=aa hS;clear dS hS;refine bW [(1,[0,1,2]),(2,[3]),(0,[4,5,6])] (by kernel_rfl) ?_;simp only[zz];refine af ?_;iterate 2 (first|go_big_quiet_step (fail)|quiet_step (fail))
 refine ak 58 _ q 0 (kX c) _ rfl rfl rfl (bL cC (by simp)) underlying58 rfl (by rw[aD];kernel_rfl) ?_;simp only[Act.put,aZ,zs];refine ax ?_;refine aA ?_;go_wp2_with fail;refine(mX.out _).kh λw3 HF=>?_;go_wp2;refine⟨⟨⟨_,(by exact HF.out)⟩,rfl⟩,?_⟩;repeat(first|go_big_quiet_step(fail)|apply ax|apply af|apply ag|apply ah)
 refine aj ?_;rw[show 1+c.t*aX c=dj c from rfl];have hS:=HS.drew.c_ HF.out;clear HS HF a0 a1 a2 a3 a4 a5 cC mX;have a0:=(hS.ar 2 rfl).cell 0;have a1:=(hS.ar 2 rfl).cell 1;have a2:=(hS.ar 2 rfl).cell 2;have a3:=(hS.ar 2 rfl).cell 3;have a4:=(hS.ar 2 rfl).cell 4;have a5:=(hS.ar 2 rfl).cell 5;simp only[gT,zg]at a0 a1 a2 a3 a4 a5;have cC:=(hS.ar 0 rfl).drew;have HS:=aa hS.drew;clear hS;have hT3:3≤c.t*3∧c.t*3≤24:=by omega
 have hb8:8≤c.b*8∧c.b*8≤512:=by omega
 go_wp2_with fail;refine bW [(1,[0,1,2,3,4,5,6,7,8,9,10,11,12,13,16,17,18,19]),(0,[22]),(2,[14]),(0,[15]),(3,[20]),(0,[21])] (by kernel_rfl) ?_;simp only[zz];refine af ?_;iterate 13 (first|go_big_quiet_step (fail)|quiet_step (fail))
 refine ak 58 _ q 0 (kX c) _ rfl rfl rfl (bL cC (by simp)) underlying58 rfl (by rw[aD];kernel_rfl) ?_;simp only[Act.put,aZ,zs];repeat go_big_quiet_step(fail)
 refine ax ?_;repeat(first|go_big_quiet_step(fail)|apply ax|apply af|apply ag|apply ah)
 refine aA ?_;go_wp2_with fail;refine(xH.out _).kh λw4 HF=>?_;go_wp2;refine⟨⟨⟨_,(by exact HF.out)⟩,rfl⟩,?_⟩;repeat(first|go_big_quiet_step(fail)|apply ax|apply af|apply ag|apply ah)
 refine ao ?_;go_wp2_with fail;repeat(first|go_big_quiet_step(fail)|apply ax|apply af|apply ag|apply ah)
 refine aj ?_;have hS:=(HS.c_ HF.out).new 113 [I 7,I (c.t*3),I 10,I 16,I 11,I c.b,I 12,I 1,I 13,I c.b,I 14,I 1,I 15,I (b_ c),I 16,I (c.b*8)];clear HS HF a0 a1 a2 a3 a4 a5 cC xH;generalize w4.alloc (.cells #[I 7,I (c.t*3),I 10,I 16,I 11,I c.b,I 12,I 1,I 13,I c.b,I 14,I 1,I 15,I (b_ c),I 16,I (c.b*8)] 113)=w5 at*;generalize w4.heap.size=p at*;have HS:=aa hS;clear hS;go_wp2_with fail;refine gQ 9 ?_;rw[dA];have s0:=(HS.ar 0 rfl).cell 0;have s1:=(HS.ar 0 rfl).cell 1;simp only[zg]at s0 s1;have m0:w5.cell? ⟨q,13,none⟩=some (I 0):=(HS.ar 1 rfl).cell 13;have f0:=(HS.ar 1 rfl).az 13;have lm:=(HS.ar 1 rfl).lt;have hS:=((HS.set 1 rfl 13 (I (dj c))).new 113 [I 7,I (c.t*3)]).tail;clear HS;go_wp2_with fail;rw[show dj c+c.t*3=dO c from rfl];clear s0 s1 m0 f0 lm;generalize(w5.setCell ⟨q,13,none⟩ (I (dj c))).alloc (.cells #[I 7,I (c.t*3)] 113)=w6 at*;have HS:=aa hS;clear hS;rw[dA];have s0:=(HS.ar 0 rfl).cell 2;have s1:=(HS.ar 0 rfl).cell 3;simp only[zg]at s0 s1;have m0:w6.cell? ⟨q,16,none⟩=some (I 0):=(HS.ar 1 rfl).cell 16;have f0:=(HS.ar 1 rfl).az 16;have lm:=(HS.ar 1 rfl).lt;have hS:=((HS.set 1 rfl 16 (I (dO c))).new 113 [I 10,I (16)]).tail;clear HS;go_wp2_with fail;rw[show dO c+16=ef c from rfl];clear s0 s1 m0 f0 lm;generalize(w6.setCell ⟨q,16,none⟩ (I (dO c))).alloc (.cells #[I 10,I (16)] 113)=w7 at*;have HS:=aa hS;clear hS;rw[dA];have s0:=(HS.ar 0 rfl).cell 4;have s1:=(HS.ar 0 rfl).cell 5;simp only[zg]at s0 s1;have m0:w7.cell? ⟨q,17,none⟩=some (I 0):=(HS.ar 1 rfl).cell 17;have f0:=(HS.ar 1 rfl).az 17;have lm:=(HS.ar 1 rfl).lt;have hS:=((HS.set 1 rfl 17 (I (ef c))).new 113 [I 11,I (c.b)]).tail;clear HS;go_wp2_with fail;rw[show ef c+c.b=fI c from rfl];clear s0 s1 m0 f0 lm;generalize(w7.setCell ⟨q,17,none⟩ (I (ef c))).alloc (.cells #[I 11,I (c.b)] 113)=w8 at*;have HS:=aa hS;clear hS;rw[dA];have s0:=(HS.ar 0 rfl).cell 6;have s1:=(HS.ar 0 rfl).cell 7;simp only[zg]at s0 s1;have m0:w8.cell? ⟨q,18,none⟩=some (I 0):=(HS.ar 1 rfl).cell 18;have f0:=(HS.ar 1 rfl).az 18;have lm:=(HS.ar 1 rfl).lt;have hS:=((HS.set 1 rfl 18 (I (fI c))).new 113 [I 12,I (1)]).tail;clear HS;go_wp2_with fail;rw[show fI c+1=cK c from rfl];clear s0 s1 m0 f0 lm;generalize(w8.setCell ⟨q,18,none⟩ (I (fI c))).alloc (.cells #[I 12,I (1)] 113)=w9 at*;have HS:=aa hS;clear hS;rw[dA];have s0:=(HS.ar 0 rfl).cell 8;have s1:=(HS.ar 0 rfl).cell 9;simp only[zg]at s0 s1;have m0:w9.cell? ⟨q,19,none⟩=some (I 0):=(HS.ar 1 rfl).cell 19;have f0:=(HS.ar 1 rfl).az 19;have lm:=(HS.ar 1 rfl).lt;have hS:=((HS.set 1 rfl 19 (I (cK c))).new 113 [I 13,I (c.b)]).tail;clear HS;go_wp2_with fail;rw[show cK c+c.b=gu c from rfl];clear s0 s1 m0 f0 lm;generalize(w9.setCell ⟨q,19,none⟩ (I (cK c))).alloc (.cells #[I 13,I (c.b)] 113)=Ov at*;have HS:=aa hS;clear hS;rw[dA];have s0:=(HS.ar 0 rfl).cell 10;have s1:=(HS.ar 0 rfl).cell 11;simp only[zg]at s0 s1;have m0:Ov.cell? ⟨q,20,none⟩=some (I 0):=(HS.ar 1 rfl).cell 20;have f0:=(HS.ar 1 rfl).az 20;have lm:=(HS.ar 1 rfl).lt;have hS:=((HS.set 1 rfl 20 (I (gu c))).new 113 [I 14,I (1)]).tail;clear HS;go_wp2_with fail;rw[show gu c+1=c8 c from rfl];clear s0 s1 m0 f0 lm;generalize(Ov.setCell ⟨q,20,none⟩ (I (gu c))).alloc (.cells #[I 14,I (1)] 113)=X0 at*;have HS:=aa hS;clear hS;rw[dA];have s0:=(HS.ar 0 rfl).cell 12;have s1:=(HS.ar 0 rfl).cell 13;simp only[zg]at s0 s1;have m0:X0.cell? ⟨q,21,none⟩=some (I 0):=(HS.ar 1 rfl).cell 21;have f0:=(HS.ar 1 rfl).az 21;have lm:=(HS.ar 1 rfl).lt;have hS:=((HS.set 1 rfl 21 (I (c8 c))).new 113 [I 15,I (b_ c)]).tail;clear HS;go_wp2_with fail;rw[show c8 c+b_ c=eo c from rfl];clear s0 s1 m0 f0 lm;generalize(X0.setCell ⟨q,21,none⟩ (I (c8 c))).alloc (.cells #[I 15,I (b_ c)] 113)=X2 at*;have HS:=aa hS;clear hS;rw[dA];have s0:=(HS.ar 0 rfl).cell 14;have s1:=(HS.ar 0 rfl).cell 15;simp only[zg]at s0 s1;have m0:X2.cell? ⟨q,22,none⟩=some (I 0):=(HS.ar 1 rfl).cell 22;have f0:=(HS.ar 1 rfl).az 22;have lm:=(HS.ar 1 rfl).lt;have hS:=((HS.set 1 rfl 22 (I (eo c))).new 113 [I 16,I (c.b*8)]).tail;clear HS;go_wp2_with fail;rw[show eo c+c.b*8=size c from rfl];clear s0 s1 m0 f0 lm;generalize(X2.setCell ⟨q,22,none⟩ (I (eo c))).alloc (.cells #[I 16,I (c.b*8)] 113)=X3 at*;have HS:=aa hS;clear hS;rw[dA];have m0:X3.cell? ⟨q,23,none⟩=some (I 0):=(HS.ar 1 rfl).cell 23;have f0:=(HS.ar 1 rfl).az 23;have lm:=(HS.ar 1 rfl).lt;have hS:=HS.set 1 rfl 23 (I (size c));have HM:Hid (cB (X3.setCell ⟨q,23,none⟩ (I (size c))) q 58 (ae c)):=hS.ar 1 rfl;have HB:=aa (hS.ar 2 rfl);have de:=aa (hS.iH 2 rfl (ae c) rfl);have Tw:(ae c).length=24:=rfl;have pV:∀v∈ae c,v.oneCell'=true:=by simp[ae,Value.oneCell']
 clear hS HS;go_wp2_with(first|(refine wpList_load_mid rfl 58 _ rfl _ 0 rfl (ae c) _ HM.range underlying58 rfl (by rw[Tw];kernel_rfl) ?_)|(refine pR rfl 58 _ _ rfl (w.heap.size+1) 0 (ae c).toArray rfl rfl (HB.out.there _ rfl) (by rw[List.size_toArray,Tw];kernel_rfl) (iX pV) ?_));exact aV (v:= .tuple #[aY c,I 0]) (bj Tryz.results16 rfl rfl (de.ar 2 rfl).range underlying58 rfl (by rw[Tw];kernel_rfl)) rfl ⟨rfl,de.fr⟩
def fQ (w:World)(cs:List Value)(s:Int)(aD:cs.length=24)(hs:cs[23]?=some (I s)):ba 51 #[.agg cs.toArray] w (I s):=by
 have hm:=cB.new w 58 cs;have c0:=hm.aT 23 hs;clear hm hs;delta ba;go_in;go_wp2;go_ret;exact⟨rfl,(Fr.refl [] _).alloc _⟩
def KV (w c p)(d0:decide (p<0)=true):ba 25 #[aY c,I p] w (.tuple #[I (-1),I 0,I 0]):=by
 unfold aY at*;generalize ae c=cs at*;delta ba;go_in;go_wp2
 go_ret3
 exact⟨rfl,(Fr.refl [] _).alloc _⟩
def zq2:(∀(w c p)(d0:decide (p<0)=false)(d1:decide (p≥size c)=true),ba 25 #[aY c,I p] w (.tuple #[I (-1),I 0,I 0]))∧(∀(w c)(d0:decide ((0:Int)≥size c)=false),ba 25 #[aY c,I 0] w (.tuple #[I 0,I 0,I 0]))∧(∀(w c p i r)(h:Ok c)(hr:r=0∨r=1∨r=2)(hi:0≤i)(hp:p=dj c+(3*i+r))(h2:p<dO c),ba 25 #[aY c,I p] w (.tuple #[I (7+r),I i,I 0]))∧(∀(w c p i k)(h:Ok c)(hi:0≤i)(hk:0≤k∧k<1)(hp:p=dO c+(i*1+k))(h2:p<ef c),ba 25 #[aY c,I p] w (.tuple #[I 10,I i,I k]))∧(∀(w c p i k)(h:Ok c)(hi:0≤i)(hk:0≤k∧k<1)(hp:p=ef c+(i*1+k))(h2:p<fI c),ba 25 #[aY c,I p] w (.tuple #[I 11,I i,I k]))∧(∀(w c p i k)(h:Ok c)(hi:0≤i)(hk:0≤k∧k<1)(hp:p=fI c+(i*1+k))(h2:p<cK c),ba 25 #[aY c,I p] w (.tuple #[I 12,I i,I k]))∧(∀(w c p i k)(h:Ok c)(hi:0≤i)(hk:0≤k∧k<1)(hp:p=cK c+(i*1+k))(h2:p<gu c),ba 25 #[aY c,I p] w (.tuple #[I 13,I i,I k]))∧(∀(w c p i k)(h:Ok c)(hi:0≤i)(hk:0≤k∧k<1)(hp:p=gu c+(i*1+k))(h2:p<c8 c),ba 25 #[aY c,I p] w (.tuple #[I 14,I i,I k]))∧(∀(w c p i k)(h:Ok c)(hi:0≤i)(hk:0≤k∧k<1)(hp:p=c8 c+(i*1+k))(h2:p<eo c),ba 25 #[aY c,I p] w (.tuple #[I 15,I i,I k]))∧(∀(w c p i k)(h:Ok c)(hi:0≤i)(hk:0≤k∧k<8)(hp:p=eo c+(i*8+k))(h2:p<size c),ba 25 #[aY c,I p] w (.tuple #[I 16,I i,I k]))∧(∀(w c p i r)(h:Ok c)(hi:0≤i∧i<c.t)(hr:8≤r∧r<aX c)(hp:p=1+(i*aX c+r)),ba 25 #[aY c,I p] w (.tuple #[I 6,I i,I (r-8)]))∧(∀(w c p i r)(h:Ok c)(hi:0≤i∧i<c.t)(hr:7≤r∧r<8)(hp:p=1+(i*aX c+r)),ba 25 #[aY c,I p] w (.tuple #[I 5,I i,I (r-7)]))∧(∀(w c p i r)(h:Ok c)(hi:0≤i∧i<c.t)(hr:6≤r∧r<7)(hp:p=1+(i*aX c+r)),ba 25 #[aY c,I p] w (.tuple #[I 4,I i,I (r-6)]))∧(∀(w c p i r)(h:Ok c)(hi:0≤i∧i<c.t)(hr:5≤r∧r<6)(hp:p=1+(i*aX c+r)),ba 25 #[aY c,I p] w (.tuple #[I 3,I i,I (r-5)]))∧(∀(w c p i r)(h:Ok c)(hi:0≤i∧i<c.t)(hr:1≤r∧r<5)(hp:p=1+(i*aX c+r)),ba 25 #[aY c,I p] w (.tuple #[I 2,I i,I (r-1)]))∧(∀(w c p i r)(h:Ok c)(hi:0≤i∧i<c.t)(hr:0≤r∧r<1)(hp:p=1+(i*aX c+r)),ba 25 #[aY c,I p] w (.tuple #[I 1,I i,I r])):=by
 refine⟨?Z,?Y,?X,?J,?G,?D,?V,?U,?g0,?g1,?g2,?g3,?g4,?g5,?g6,?g7⟩
 case' Z=>intro w c p d0 d1
 case' Y=>intro w c d0
 case' X=>
  intro w c p i r h hr hi hp h2;have hb:=A3 h;have h1:=hb.tag;have h3:dO c≤17000:=by have:=hb.root;have:=h.t8;omega
  have h4:dO c≤size c:=by
   have:=hb.rY;have:=hb.top;have:=hb.stack;have:=hb.bS;have:=hb.mx;have:=hb.word;have:=hb.my;have:=bK h;have:=h.b1;omega
 case' J|G|D|V|U|g0|g1=>intro w c p i k h hi hk hp h2
 case' g2|g3|g4|g5|g6|g7=>intro w c p i r h hi hr hp
 case' J|G|D|V|U|g0|g1|g2|g3|g4|g5|g6|g7=>have hb:=A3 h;have h1:=hb.tag;have hz:=iQ h
 case' J|G|D|V|U|g0|g1=>have b1:=hb.root;have b2:=hb.rY;have b3:=hb.top;have b4:=hb.stack;have b5:=hb.bS;have b6:=hb.mx;have b7:=hb.word;have b8:=hb.my;have b9:=bK h;have C0:=h.b1;have yl:=h.t1
 case' g2|g3|g4|g5|g6|g7=>
  have xI:=fW h;have xG:=ke h hi.1 hi.2;have Ox:dj c≤size c:=by
   have b1:=hb.root;have b2:=hb.rY;have b3:=hb.top;have b4:=hb.stack;have b5:=hb.bS;have b6:=hb.mx;have b7:=hb.word;have b8:=hb.my;have b9:=bK h;have C0:=h.b1;have yl:=h.t1;omega
  have yR:r<aX c:=by omega
  have jU:dj c=1+c.t*aX c:=rfl;have sg:=h.t8
 case' X|J|G|D|V|U|g0|g1|g2|g3|g4|g5|g6|g7=>
  have d0:decide (p<0)=false:=by simp;omega
  have d1:decide (p≥size c)=false:=by simp;omega
  have d2:(p==(0:Int))=false:=by simp;omega
 case' X=>
  have d3:decide (p<dj c)=false:=by simp;omega
  have d4:decide (p<dO c)=true:=by simp;omega
  obtain⟨q,hq⟩:∃q,q=3*i+r:=⟨_,rfl⟩;have e0:p-dj c=q:=by omega
  have bq:0≤q∧q≤17000:=by omega
  have bi:0≤i∧i≤17000:=by omega
  have br:0≤r∧r≤2:=by omega
  have e1:Int.tdiv q 3=i:=by rw[jI (by omega)];omega
  have e2:Int.tmod q 3=r:=by rw[jR (by omega)];omega
  clear hq
 case' J|G|D|V|U|g0|g1=>
  have d3:decide (p<dj c)=false:=by simp;omega
  have d4:decide (p<dO c)=false:=by simp;omega
 case' J|G|D|V|U|g0=>have t16:decide (p<eo c)=true:=by simp;omega
 case' J|G=>
  have t15:decide (p<c8 c)=true:=by simp;omega
  have t14:decide (p<gu c)=true:=by simp;omega
  have t13:decide (p<cK c)=true:=by simp;omega
  have t12:decide (p<fI c)=true:=by simp;omega
 case' J=>
  have t11:decide (p<ef c)=true:=by simp;omega
  obtain⟨q,hq⟩:∃q,q=i*1+k:=⟨_,rfl⟩;have e0:p-dO c=q:=by omega
 case' G=>
  have t11:decide (p<ef c)=false:=by simp;omega
  obtain⟨q,hq⟩:∃q,q=i*1+k:=⟨_,rfl⟩;have e0:p-ef c=q:=by omega
 case' D|V=>
  have t15:decide (p<c8 c)=true:=by simp;omega
  have t14:decide (p<gu c)=true:=by simp;omega
 case' D=>have t13:decide (p<cK c)=true:=by simp;omega
 case' V=>have t13:decide (p<cK c)=false:=by simp;omega
 case' U=>have t15:decide (p<c8 c)=true:=by simp;omega
 case' g0=>have t15:decide (p<c8 c)=false:=by simp;omega
 case' U|g0=>
  have t14:decide (p<gu c)=false:=by simp;omega
  have t13:decide (p<cK c)=false:=by simp;omega
 case' D|V|U|g0=>
  have t12:decide (p<fI c)=false:=by simp;omega
  have t11:decide (p<ef c)=false:=by simp;omega
  obtain⟨q,hq⟩:∃q,q=i*1+k:=⟨_,rfl⟩
 case' D=>have e0:p-fI c=q:=by omega
 case' V=>have e0:p-cK c=q:=by omega
 case' U=>have e0:p-gu c=q:=by omega
 case' g0=>have e0:p-c8 c=q:=by omega
 case' g1=>
  have t16:decide (p<eo c)=false:=by simp;omega
  have t15:decide (p<c8 c)=false:=by simp;omega
  have t14:decide (p<gu c)=false:=by simp;omega
  have t13:decide (p<cK c)=false:=by simp;omega
  have t12:decide (p<fI c)=false:=by simp;omega
  have t11:decide (p<ef c)=false:=by simp;omega
  obtain⟨q,hq⟩:∃q,q=i*8+k:=⟨_,rfl⟩;have e0:p-eo c=q:=by omega
 case' J|G|D|V|U|g0|g1=>
  have bq:0≤q∧q≤19000:=by omega
  have bi:0≤i∧i≤19000:=by omega
 case' J|G|D|V|U|g0=>
  have e1:Int.tdiv q 1=i:=by rw[jI (by omega)];omega
  have e2:Int.tmod q 1=k:=by rw[jR (by omega)];omega
 case' J=>have HC:=aa (λw=>cN w c h 10);rw[show aP c 10=1 by simp[aP,each]]at HC
 case' G=>have HC:=aa (λw=>cN w c h 11);rw[show aP c 11=1 by simp[aP,each]]at HC
 case' D=>have HC:=aa (λw=>cN w c h 12);rw[show aP c 12=1 by simp[aP,each]]at HC
 case' V=>have HC:=aa (λw=>cN w c h 13);rw[show aP c 13=1 by simp[aP,each]]at HC
 case' U=>have HC:=aa (λw=>cN w c h 14);rw[show aP c 14=1 by simp[aP,each]]at HC
 case' g0=>have HC:=aa (λw=>cN w c h 15);rw[show aP c 15=1 by simp[aP,each]]at HC
 case' g1=>
  have e1:Int.tdiv q 8=i:=by rw[jI (by omega)];omega
  have e2:Int.tmod q 8=k:=by rw[jR (by omega)];omega
  have HC:=aa (λw=>cN w c h 16);rw[show aP c 16=8 by simp[aP,each]]at HC
 case' J|G|D|V|U|g0|g1=>clear hq hp hi hk h2 b1 b2 b3 b4 b5 b6 b7 b8 b9 C0 yl
 case' g2|g3|g4|g5|g6|g7=>have d3:decide (p<dj c)=true:=by simp;omega
 case' g2=>
  have r8:decide (r≥8)=true:=by simp;omega
  have r7:decide (r≥7)=true:=by simp;omega
  have r6:decide (r≥6)=true:=by simp;omega
  have r5:decide (r≥5)=true:=by simp;omega
  have r1:decide (r≥1)=true:=by simp;omega
 case' g3|g4|g5|g6|g7=>have r8:decide (r≥8)=false:=by simp;omega
 case' g3=>
  have r7:decide (r≥7)=true:=by simp;omega
  have r6:decide (r≥6)=true:=by simp;omega
  have r5:decide (r≥5)=true:=by simp;omega
  have r1:decide (r≥1)=true:=by simp;omega
 case' g4|g5|g6|g7=>have r7:decide (r≥7)=false:=by simp;omega
 case' g4=>
  have r6:decide (r≥6)=true:=by simp;omega
  have r5:decide (r≥5)=true:=by simp;omega
  have r1:decide (r≥1)=true:=by simp;omega
 case' g5|g6|g7=>have r6:decide (r≥6)=false:=by simp;omega
 case' g5=>
  have r5:decide (r≥5)=true:=by simp;omega
  have r1:decide (r≥1)=true:=by simp;omega
 case' g6|g7=>have r5:decide (r≥5)=false:=by simp;omega
 case' g6=>have r1:decide (r≥1)=true:=by simp;omega
 case' g7=>have r1:decide (r≥1)=false:=by simp;omega
 case' g2|g3|g4|g5|g6|g7=>
  obtain⟨q,hq⟩:∃q,q=i*aX c+r:=⟨_,rfl⟩;have e0:p-1=q:=by omega
  have bq:0≤q∧q≤17000:=by omega
  have bi:0≤i∧i≤8:=by omega
  have br:0≤r∧r≤3000:=by omega
  have e1:Int.tdiv q (aX c)=i:=by
   rw[jI (by omega),hq,Int.add_comm,Int.add_mul_ediv_right _ _ (by omega),Int.ediv_eq_zero_of_lt (by omega) (by omega)];omega
  have e2:Int.tmod q (aX c)=r:=by
   rw[jR (by omega),hq,Int.add_comm,Int.add_mul_emod_self_right,Int.emod_eq_of_lt (by omega) (by omega)]
  have HS:=aa (λw=>cT w c h);clear hq hp hi hr xG Ox yR jU sg
 case' Z|Y|X|J|G|D|V|U|g0|g1|g2|g3|g4|g5|g6|g7=>have HZ:=aa (λw=>fQ w (ae c) (size c) rfl rfl);have hm:=cB.new w 58 (ae c);have aD:(ae c).length=24:=rfl;have HM:=aa hm;clear hm
 case' Z|Y=>unfold aY at*;generalize ae c=cs at*;generalize size c=s at*
 case' X=>have g:(ae c)[13]?=some (I (dj c)):=rfl;have g2:(ae c)[16]?=some (I (dO c)):=rfl;unfold aY at*;generalize ae c=cs at*;generalize size c=s at*;generalize dj c=F at*;generalize dO c=F2 at*;clear h hb hp h2 hr hi
 case' J|G|D|V|U|g0|g1|g2|g3|g4|g5|g6|g7=>have ym:(ae c)[13]?=some (I (dj c)):=rfl
 case' J|G|D|V|U|g0|g1=>have GG:(ae c)[16]?=some (I (dO c)):=rfl;have Jx:(ae c)[17]?=some (I (ef c)):=rfl;have Jy:(ae c)[18]?=some (I (fI c)):=rfl;have AV:(ae c)[19]?=some (I (cK c)):=rfl;have BO:(ae c)[20]?=some (I (gu c)):=rfl;have Jz:(ae c)[21]?=some (I (c8 c)):=rfl;have Eh:(ae c)[22]?=some (I (eo c)):=rfl
 case' J|G|D|V|U|g0|g1|g2|g3|g4|g5|g6|g7=>clear h hb;unfold aY at*;generalize ae c=cs at*
 case' J=>generalize size c=s,dj c=F7,dO c=Ea,ef c=Jt,fI c=SB,cK c=SC,gu c=SD,c8 c=Tp,eo c=Ym,cr c 10=n at*
 case' G=>generalize size c=s,dj c=F7,dO c=Ea,ef c=Jt,fI c=SB,cK c=SC,gu c=SD,c8 c=Tp,eo c=Ym,cr c 11=n at*
 case' D=>generalize size c=s,dj c=F7,dO c=Ea,ef c=Jt,fI c=SB,cK c=SC,gu c=SD,c8 c=Tp,eo c=Ym,cr c 12=n at*
 case' V=>generalize size c=s,dj c=F7,dO c=Ea,ef c=Jt,fI c=SB,cK c=SC,gu c=SD,c8 c=Tp,eo c=Ym,cr c 13=n at*
 case' U=>generalize size c=s,dj c=F7,dO c=Ea,ef c=Jt,fI c=SB,cK c=SC,gu c=SD,c8 c=Tp,eo c=Ym,cr c 14=n at*
 case' g0=>generalize size c=s,dj c=F7,dO c=Ea,ef c=Jt,fI c=SB,cK c=SC,gu c=SD,c8 c=Tp,eo c=Ym,cr c 15=n at*
 case' g1=>generalize size c=s,dj c=F7,dO c=Ea,ef c=Jt,fI c=SB,cK c=SC,gu c=SD,c8 c=Tp,eo c=Ym,cr c 16=n at*
 case' g2|g3|g4|g5|g6|g7=>generalize size c=z,dj c=F7,aX c=s at*
 case' Z|Y|X|J|G|D|V|U|g0|g1|g2|g3|g4|g5|g6|g7=>delta ba;go_in;go_wp2_with(refine ay 58 _ rfl rfl _ 0 rfl cs _ HM.range underlying58 rfl (by rw[aD];kernel_rfl) ?_);refine(HZ.out _).kk λw1 hf=>?_;have eN:=aa (HM.fr hf (by simp));have HF:=aa (((Fr.refl [] w).alloc _).trans hf);clear hf
 case' Z|Y=>
  go_wp2
  go_ret3
 case' X=>
  have zo:=eN.out.aT 13 g;have X5:=eN.out.aT 16 g2;go_wp2
  go_ret3
 case' J|G|D|V|U|g0|g1|g2|g3|g4|g5|g6|g7=>have zo:=eN.out.aT 13 ym
 case' J|G|D|V|U|g0|g1=>have X5:=eN.out.aT 16 GG;have zV:=eN.out.aT 17 Jx;have vB:=eN.out.aT 18 Jy;have zY:=eN.out.aT 19 AV;have xQ:=eN.out.aT 20 BO;have Ad:=eN.out.aT 21 Jz;have KX:=eN.out.aT 22 Eh;go_wp2_with fail
 case' g2|g3|g4|g5|g6|g7=>
  have cC:=eN.drew;go_wp2_with fail;refine bW [(1,[2,7]),(0,[0,1,5,6]),(2,[3]),(0,[4]),(3,[8]),(0,[9,10,11])] (by kernel_rfl) ?_;simp only[zz];refine af ?_;refine ak 58 _ w.heap.size 0 cs _ rfl rfl rfl (bL cC (by simp)) underlying58 rfl (by rw[aD];kernel_rfl) ?_;simp only[Act.put,aZ,zs];refine ak 58 _ w.heap.size 0 cs _ rfl rfl rfl (bL cC (by simp)) underlying58 rfl (by rw[aD];kernel_rfl) ?_;simp only[Act.put,aZ,zs];refine ax ?_;repeat(first|go_big_quiet_step(fail)|apply ax|apply af|apply ag|apply ah)
  refine aA ?_;go_wp2_with fail;refine(HS.out _).kh λw2 lU=>?_;go_wp2;refine⟨⟨⟨_,(by exact lU.out)⟩,rfl⟩,?_⟩;repeat(first|go_big_quiet_step(fail)|apply ax|apply af|apply ag|apply ah)
  refine ao ?_;go_wp2_with fail;refine(HS.out _).kk λw3 hf=>?_;have BP:=aa (lU.trans hf);clear hf;go_wp2_with fail;repeat(first|go_big_quiet_step(fail)|apply ax|apply af|apply ag|apply ah)
  refine aj ?_;go_wp2_with fail;refine gQ 7 ?_;rw[dA];go_wp2_with fail;refine(dR _ _).mono ?_;rintro e _ ⟨rfl,rfl⟩;rw[show dZ 6=8 from rfl];go_wp2_with fail
 case' g3|g4|g5|g6|g7=>rw[dA];go_wp2_with fail
 case' g2|g3|g4|g5|g6|g7=>refine(dR _ _).mono ?_;rintro e _ ⟨rfl,rfl⟩
 case' g2=>
  rw[show dZ 6=8 from rfl];go_wp2
  go_ret3
 case' g3|g4|g5|g6|g7=>rw[show dZ 5=7 from rfl];go_wp2_with fail
 case' g4|g5|g6|g7=>rw[dA];go_wp2_with fail
 case' g3|g4|g5|g6|g7=>refine(dR _ _).mono ?_;rintro e _ ⟨rfl,rfl⟩
 case' g3=>
  rw[show dZ 5=7 from rfl];go_wp2
  go_ret3
 case' g4|g5|g6|g7=>rw[show dZ 4=6 from rfl];go_wp2_with fail
 case' g5|g6|g7=>rw[dA];go_wp2_with fail
 case' g4|g5|g6|g7=>refine(dR _ _).mono ?_;rintro e _ ⟨rfl,rfl⟩
 case' g4=>
  rw[show dZ 4=6 from rfl];go_wp2
  go_ret3
 case' g5|g6|g7=>rw[show dZ 3=5 from rfl];go_wp2_with fail
 case' g6|g7=>rw[dA];go_wp2_with fail
 case' g5|g6|g7=>refine(dR _ _).mono ?_;rintro e _ ⟨rfl,rfl⟩
 case' g5=>
  rw[show dZ 3=5 from rfl];go_wp2
  go_ret3
 case' g6|g7=>rw[show dZ 2=1 from rfl];go_wp2_with fail
 case' g7=>rw[dA];go_wp2_with fail
 case' g6|g7=>refine(dR _ _).mono ?_;rintro e _ ⟨rfl,rfl⟩
 case' g6=>
  rw[show dZ 2=1 from rfl];go_wp2
  go_ret3
 case' g7=>
  rw[show dZ 1=0 from rfl];go_wp2_with fail;refine(dR _ _).mono ?_;rintro e _ ⟨rfl,rfl⟩;rw[show dZ 1=0 from rfl];go_wp2
  go_ret3
 case' Z|Y|X=>exact⟨rfl,HF.out⟩
 case' J=>
  refine gQ 7 ?_;iterate 7 ((try rw[dA]);go_wp2_with(refine ay 58 _ rfl rfl _ 0 rfl cs _ eN.range underlying58 rfl (by rw[aD];kernel_rfl) ?_))
  refine(HC.out _).kk λw2 hf=>?_;have Ei:=aa (eN.fr hf (by simp));have lU:=aa (HF.trans hf);clear hf;have KX:=Ei.out.aT 16 GG;go_wp2_with fail;refine bW [(0,[0,1,2,3,4,5,6,7,8,9])] (by kernel_rfl) ?_;simp only[zz];repeat(first|go_big_quiet_step(fail)|apply ax|apply af|apply ag|apply ah)
  refine aj ?_;go_wp2
  go_ret3
  exact⟨rfl,lU.drew⟩
 case' G=>
  refine gQ 6 ?_;iterate 6 ((try rw[dA]);go_wp2_with(refine ay 58 _ rfl rfl _ 0 rfl cs _ eN.range underlying58 rfl (by rw[aD];kernel_rfl) ?_))
  refine(HC.out _).kk λw2 hf=>?_;have Ei:=aa (eN.fr hf (by simp));have lU:=aa (HF.trans hf);clear hf;have KX:=Ei.out.aT 17 Jx;go_wp2_with fail;refine bW [(0,[0,1,2,3,4,5,6,7,8,9])] (by kernel_rfl) ?_;simp only[zz];repeat(first|go_big_quiet_step(fail)|apply ax|apply af|apply ag|apply ah)
  refine aj ?_;go_wp2
  go_ret3
  exact⟨rfl,lU.drew⟩
 case' D=>
  refine gQ 5 ?_;iterate 5 ((try rw[dA]);go_wp2_with(refine ay 58 _ rfl rfl _ 0 rfl cs _ eN.range underlying58 rfl (by rw[aD];kernel_rfl) ?_))
  refine(HC.out _).kk λw2 hf=>?_;have Ei:=aa (eN.fr hf (by simp));have lU:=aa (HF.trans hf);clear hf;have KX:=Ei.out.aT 18 Jy;go_wp2_with fail;refine bW [(0,[0,1,2,3,4,5,6,7,8,9])] (by kernel_rfl) ?_;simp only[zz];repeat(first|go_big_quiet_step(fail)|apply ax|apply af|apply ag|apply ah)
  refine aj ?_;go_wp2
  go_ret3
  exact⟨rfl,lU.drew⟩
 case' V=>
  refine gQ 4 ?_;iterate 4 ((try rw[dA]);go_wp2_with(refine ay 58 _ rfl rfl _ 0 rfl cs _ eN.range underlying58 rfl (by rw[aD];kernel_rfl) ?_))
  refine(HC.out _).kk λw2 hf=>?_;have Ei:=aa (eN.fr hf (by simp));have lU:=aa (HF.trans hf);clear hf;have KX:=Ei.out.aT 19 AV;go_wp2_with fail;refine bW [(0,[0,1,2,3,4,5,6,7,8,9])] (by kernel_rfl) ?_;simp only[zz];repeat(first|go_big_quiet_step(fail)|apply ax|apply af|apply ag|apply ah)
  refine aj ?_;go_wp2
  go_ret3
  exact⟨rfl,lU.drew⟩
 case' U=>
  refine gQ 3 ?_;iterate 3 ((try rw[dA]);go_wp2_with(refine ay 58 _ rfl rfl _ 0 rfl cs _ eN.range underlying58 rfl (by rw[aD];kernel_rfl) ?_))
  refine(HC.out _).kk λw2 hf=>?_;have Ei:=aa (eN.fr hf (by simp));have lU:=aa (HF.trans hf);clear hf;have KX:=Ei.out.aT 20 BO;go_wp2_with fail;refine bW [(0,[0,1,2,3,4,5,6,7,8,9])] (by kernel_rfl) ?_;simp only[zz];repeat(first|go_big_quiet_step(fail)|apply ax|apply af|apply ag|apply ah)
  refine aj ?_;go_wp2
  go_ret3
  exact⟨rfl,lU.drew⟩
 case' g0=>
  refine gQ 2 ?_;iterate 2 ((try rw[dA]);go_wp2_with(refine ay 58 _ rfl rfl _ 0 rfl cs _ eN.range underlying58 rfl (by rw[aD];kernel_rfl) ?_))
  refine(HC.out _).kk λw2 hf=>?_;have Ei:=aa (eN.fr hf (by simp));have lU:=aa (HF.trans hf);clear hf;have KX:=Ei.out.aT 21 Jz;go_wp2_with fail;refine bW [(0,[0,1,2,3,4,5,6,7,8,9])] (by kernel_rfl) ?_;simp only[zz];repeat(first|go_big_quiet_step(fail)|apply ax|apply af|apply ag|apply ah)
  refine aj ?_;go_wp2
  go_ret3
  exact⟨rfl,lU.drew⟩
 case' g1=>
  refine gQ 1 ?_;iterate 1 ((try rw[dA]);go_wp2_with(refine ay 58 _ rfl rfl _ 0 rfl cs _ eN.range underlying58 rfl (by rw[aD];kernel_rfl) ?_))
  refine(HC.out _).kk λw2 hf=>?_;have Ei:=aa (eN.fr hf (by simp));have lU:=aa (HF.trans hf);clear hf;have KX:=Ei.out.aT 22 Eh;go_wp2_with fail;refine bW [(0,[0,1,2,3,4,5,6,7,8,9])] (by kernel_rfl) ?_;simp only[zz];repeat(first|go_big_quiet_step(fail)|apply ax|apply af|apply ag|apply ah)
  refine aj ?_;go_wp2
  go_ret3
  exact⟨rfl,lU.drew⟩
 case' g2|g3|g4|g5|g6|g7=>exact⟨rfl,(HF.drew.trans BP.out).alloc _⟩
def KW:=@zq2.1
def X4:=@zq2.2.1
def Ow:=@zq2.2.2.1
def Tx:=@zq2.2.2.2.1
def Ty:=@zq2.2.2.2.2.1
def Tz:=@zq2.2.2.2.2.2.1
def TA:=@zq2.2.2.2.2.2.2.1
def TB:=@zq2.2.2.2.2.2.2.2.1
def TC:=@zq2.2.2.2.2.2.2.2.2.1
def TD:=@zq2.2.2.2.2.2.2.2.2.2.1
def X6:=@zq2.2.2.2.2.2.2.2.2.2.2.1
def X7:=@zq2.2.2.2.2.2.2.2.2.2.2.2.1
def X8:=@zq2.2.2.2.2.2.2.2.2.2.2.2.2.1
def X9:=@zq2.2.2.2.2.2.2.2.2.2.2.2.2.2.1
def X_:=@zq2.2.2.2.2.2.2.2.2.2.2.2.2.2.2.1
def Ya:=@zq2.2.2.2.2.2.2.2.2.2.2.2.2.2.2.2
end Go.Proofs.YtolkmchicplaoaaGreat
namespace Go.aS.Y
def wh (c:cA)(p:Int):Int×Int×Int:=
 if p=0 then(0,0,0)
 else if p<dj c then
  if 8≤(p-1)%aX c then(6,(p-1)/aX c,(p-1)%aX c-8)
  else if 7≤(p-1)%aX c then(5,(p-1)/aX c,(p-1)%aX c-7)
  else if 6≤(p-1)%aX c then(4,(p-1)/aX c,(p-1)%aX c-6)
  else if 5≤(p-1)%aX c then(3,(p-1)/aX c,(p-1)%aX c-5)
  else if 1≤(p-1)%aX c then(2,(p-1)/aX c,(p-1)%aX c-1)
  else(1,(p-1)/aX c,(p-1)%aX c)
 else if p<dO c then(7+(p-dj c)%3,(p-dj c)/3,0)
 else if p<ef c then(10,p-dO c,0)
 else if p<fI c then(11,p-ef c,0)
 else if p<cK c then(12,p-fI c,0)
 else if p<gu c then(13,p-cK c,0)
 else if p<c8 c then(14,p-gu c,0)
 else if p<eo c then(15,p-c8 c,0)
 else(16,(p-eo c)/8,(p-eo c)%8)
def Yb {s i r:Int}(h0:0≤r)(h1:r<s):(i*s+r)/s=i∧(i*s+r)%s=r:=by
 refine⟨?_,?_⟩
 ·rw[Int.add_comm,Int.add_mul_ediv_right _ _ (by omega),Int.ediv_eq_zero_of_lt h0 h1];omega
 ·rw[Int.add_comm,Int.add_mul_emod_self_right,Int.emod_eq_of_lt h0 h1]
structure Own (c:cA)(p i r:Int):Prop where
 p_:p=1+i*aX c+r
 i0:0≤i
 it:i<c.t
 r0:0≤r
 rs:r<aX c
def Own.bd {c p i r}(h:Ok c)(o:Own c p i r):1≤p∧p<dj c:=by
 have h1:=ke h o.i0 o.it;have h2:=o.r0;have h3:=o.rs;have h4:=o.p_;unfold dj;omega
def Own.dm {c p i r}(o:Own c p i r):(p-1)/aX c=i∧(p-1)%aX c=r:=by
 rw[show p-1=i*aX c+r by have:=o.p_;omega];exact Yb o.r0 o.rs
def Own.wh {c:cA}{p i r:Int}(h:Ok c)(o:Own c p i r):wh c p=if 8≤r then(6,i,r-8)else if 7≤r then(5,i,r-7)else if 6≤r then(4,i,r-6)else if 5≤r then(3,i,r-5)else if 1≤r then(2,i,r-1)else(1,i,r):=by
 have hb:=o.bd h;obtain⟨e1,e2⟩:=o.dm;unfold Y.wh;rw[aq (by omega),aB hb.2,e1,e2]
def row {c}(h:Ok c):14≤dj c∧dO c=dj c+c.t*3∧ef c=dO c+16∧fI c=ef c+c.b∧cK c=fI c+1∧gu c=cK c+c.b∧c8 c=gu c+1∧eo c=c8 c+b_ c∧size c=eo c+c.b*8∧1≤b_ c∧1≤c.t∧1≤c.b∧size c≤18100:=by
 have h1:=A3 h;exact⟨h1.tag.1,h1.root,h1.rY,h1.top,h1.stack,h1.bS,h1.mx,h1.word,h1.my,(bK h).1,h.t1,h.b1,(iQ h).2⟩
def ll (c):aX c=8+cap c:=rfl
def TE {c}(h:Ok c){i k}(hi:Is c 1 i k):Own c (place c 1 i k) i (0+k):=by
 obtain⟨h0,h1,h2,h3⟩:=hi;have e1:cr c 1=c.t:=by simp[cr]
 have e2:aP c 1=1:=by simp[aP,each]
 have e3:place c 1 i k=1+i*aX c+0+k:=by simp[place,dZ]
 have:=iI h;have:=ll c;exact⟨by omega,h0,by omega,by omega,by omega⟩
def TF {c}(h:Ok c){i k}(hi:Is c 2 i k):Own c (place c 2 i k) i (1+k):=by
 obtain⟨h0,h1,h2,h3⟩:=hi;have e1:cr c 2=c.t:=by simp[cr]
 have e2:aP c 2=4:=by simp[aP,each]
 have e3:place c 2 i k=1+i*aX c+1+k:=by simp[place,dZ]
 have:=iI h;have:=ll c;exact⟨by omega,h0,by omega,by omega,by omega⟩
def TG {c}(h:Ok c){i k}(hi:Is c 3 i k):Own c (place c 3 i k) i (5+k):=by
 obtain⟨h0,h1,h2,h3⟩:=hi;have e1:cr c 3=c.t:=by simp[cr]
 have e2:aP c 3=1:=by simp[aP,each]
 have e3:place c 3 i k=1+i*aX c+5+k:=by simp[place,dZ]
 have:=iI h;have:=ll c;exact⟨by omega,h0,by omega,by omega,by omega⟩
def TJ {c}(h:Ok c){i k}(hi:Is c 4 i k):Own c (place c 4 i k) i (6+k):=by
 obtain⟨h0,h1,h2,h3⟩:=hi;have e1:cr c 4=c.t:=by simp[cr]
 have e2:aP c 4=1:=by simp[aP,each]
 have e3:place c 4 i k=1+i*aX c+6+k:=by simp[place,dZ]
 have:=iI h;have:=ll c;exact⟨by omega,h0,by omega,by omega,by omega⟩
def TK {c}(h:Ok c){i k}(hi:Is c 5 i k):Own c (place c 5 i k) i (7+k):=by
 obtain⟨h0,h1,h2,h3⟩:=hi;have e1:cr c 5=c.t:=by simp[cr]
 have e2:aP c 5=1:=by simp[aP,each]
 have e3:place c 5 i k=1+i*aX c+7+k:=by simp[place,dZ]
 have:=iI h;have:=ll c;exact⟨by omega,h0,by omega,by omega,by omega⟩
def TM {c}(h:Ok c){i k}(hi:Is c 6 i k):Own c (place c 6 i k) i (8+k):=by
 obtain⟨h0,h1,h2,h3⟩:=hi;have e1:cr c 6=c.t:=by simp[cr]
 have e2:aP c 6=cap c:=by simp[aP,each]
 have e3:place c 6 i k=1+i*aX c+8+k:=by simp[place,dZ]
 have:=iI h;have:=ll c;exact⟨by omega,h0,by omega,by omega,by omega⟩
def Yc {kind:Int}(h:0≤kind∧kind≤16):kind=0∨kind=1∨kind=2∨kind=3∨kind=4∨kind=5∨kind=6∨kind=7∨kind=8∨kind=9∨kind=10∨kind=11∨kind=12∨kind=13∨kind=14∨kind=15∨kind=16:=by omega
def zp{c}(h:Ok c){kind i k}(hi:Is c kind i k):wh c (place c kind i k)=(kind,i,k)∧0≤place c kind i k∧place c kind i k<size c:=by
 have hk:=yP hi;obtain⟨r0,r1,r2,r3,r4,r5,r6,r7,r8,r9,u6,tF,tG⟩:=row h;have BM:=hi;obtain⟨h0,h1,h2,h3⟩:=BM;rcases Yc hk with rfl|rfl|rfl|rfl|rfl|rfl|rfl|rfl|rfl|rfl|rfl|rfl|rfl|rfl|rfl|rfl|rfl;refine ?Z;rotate_left;refine ?Y;rotate_left;refine ?X;rotate_left;refine ?J;rotate_left;refine ?G;rotate_left;refine ?D;rotate_left;refine ?V;rotate_left;refine ?U;rotate_left;refine ?g0;rotate_left;refine ?g1;rotate_left;refine ?g2;rotate_left;refine ?g3;rotate_left;refine ?g4;rotate_left;refine ?g5;rotate_left;refine ?g6;rotate_left;refine ?g7;rotate_left;refine ?g8
 case' Z=>
  have e1:cr c 0=1:=by simp[cr]
  have e2:aP c 0=1:=by simp[aP,each]
  have e3:place c 0 i k=0:=by simp[place]
  rw[e3];refine⟨?_,by omega,by omega⟩
 case' Z=>unfold wh;rw[aB rfl,show i=0 by omega,show k=0 by omega]
 case' Y=>
  have o:=TE h hi;have hb:=o.bd h;have e2:aP c 1=1:=by simp[aP,each]
  refine⟨?_,by omega,by omega⟩
 case' Y=>rw[o.wh h,aq (by omega),aq (by omega),aq (by omega),aq (by omega),aq (by omega),show 0+k=k by omega]
 case' X=>
  have o:=TF h hi;have hb:=o.bd h;have e2:aP c 2=4:=by simp[aP,each]
  refine⟨?_,by omega,by omega⟩
 case' X=>rw[o.wh h,aq (by omega),aq (by omega),aq (by omega),aq (by omega),aB (by omega),show 1+k-1=k by omega]
 case' J=>
  have o:=TG h hi;have hb:=o.bd h;have e2:aP c 3=1:=by simp[aP,each]
  refine⟨?_,by omega,by omega⟩
 case' J=>rw[o.wh h,aq (by omega),aq (by omega),aq (by omega),aB (by omega),show 5+k-5=k by omega]
 case' G=>
  have o:=TJ h hi;have hb:=o.bd h;have e2:aP c 4=1:=by simp[aP,each]
  refine⟨?_,by omega,by omega⟩
 case' G=>rw[o.wh h,aq (by omega),aq (by omega),aB (by omega),show 6+k-6=k by omega]
 case' D=>
  have o:=TK h hi;have hb:=o.bd h;have e2:aP c 5=1:=by simp[aP,each]
  refine⟨?_,by omega,by omega⟩
 case' D=>rw[o.wh h,aq (by omega),aB (by omega),show 7+k-7=k by omega]
 case' V=>have o:=TM h hi;have hb:=o.bd h;refine⟨?_,by omega,by omega⟩
 case' V=>rw[o.wh h,aB (by omega),show 8+k-8=k by omega]
 case' U=>
  have e1:cr c 7=c.t:=by simp[cr]
  have e2:aP c 7=1:=by simp[aP,each]
  have e3:place c 7 i k=dj c+i*3+7-7:=by simp[place]
 case' g0=>
  have e1:cr c 8=c.t:=by simp[cr]
  have e2:aP c 8=1:=by simp[aP,each]
  have e3:place c 8 i k=dj c+i*3+8-7:=by simp[place]
 case' g1=>
  have e1:cr c 9=c.t:=by simp[cr]
  have e2:aP c 9=1:=by simp[aP,each]
  have e3:place c 9 i k=dj c+i*3+9-7:=by simp[place]
 case' U|g0|g1=>rw[e3];refine⟨?_,by omega,by omega⟩;unfold wh;rw[aq (by omega),aq (by omega),aB (by omega)];simp only[nL,true_and]
 case' U|g0|g1=>omega
 case' g2=>
  have e1:cr c 10=16:=by simp[cr]
  have e2:aP c 10=1:=by simp[aP,each]
  have e3:place c 10 i k=dO c+i*1+k:=by simp[place,iY,each]
  rw[e3];refine⟨?_,by omega,by omega⟩;unfold wh;rw[aq (by omega),aq (by omega),aq (by omega),aB (by omega)];simp only[nL,true_and]
 case' g2=>omega
 case' g3=>
  have e1:cr c 11=c.b:=by simp[cr]
  have e2:aP c 11=1:=by simp[aP,each]
  have e3:place c 11 i k=ef c+i*1+k:=by simp[place,iY,each]
  rw[e3];refine⟨?_,by omega,by omega⟩;unfold wh;rw[aq (by omega),aq (by omega),aq (by omega),aq (by omega),aB (by omega)];simp only[nL,true_and]
 case' g3=>omega
 case' g4=>
  have e1:cr c 12=1:=by simp[cr]
  have e2:aP c 12=1:=by simp[aP,each]
  have e3:place c 12 i k=fI c+i*1+k:=by simp[place,iY,each]
  rw[e3];refine⟨?_,by omega,by omega⟩;unfold wh;rw[aq (by omega),aq (by omega),aq (by omega),aq (by omega),aq (by omega),aB (by omega)];simp only[nL,true_and]
 case' g4=>omega
 case' g5=>
  have e1:cr c 13=c.b:=by simp[cr]
  have e2:aP c 13=1:=by simp[aP,each]
  have e3:place c 13 i k=cK c+i*1+k:=by simp[place,iY,each]
  rw[e3];refine⟨?_,by omega,by omega⟩;unfold wh;rw[aq (by omega),aq (by omega),aq (by omega),aq (by omega),aq (by omega),aq (by omega),aB (by omega)];simp only[nL,true_and]
 case' g5=>omega
 case' g6=>
  have e1:cr c 14=1:=by simp[cr]
  have e2:aP c 14=1:=by simp[aP,each]
  have e3:place c 14 i k=gu c+i*1+k:=by simp[place,iY,each]
  rw[e3];refine⟨?_,by omega,by omega⟩;unfold wh;rw[aq (by omega),aq (by omega),aq (by omega),aq (by omega),aq (by omega),aq (by omega),aq (by omega),aB (by omega)];simp only[nL,true_and]
 case' g6=>omega
 case' g7=>
  have e1:cr c 15=b_ c:=by simp[cr]
  have e2:aP c 15=1:=by simp[aP,each]
  have e3:place c 15 i k=c8 c+i*1+k:=by simp[place,iY,each]
  rw[e3];refine⟨?_,by omega,by omega⟩;unfold wh;rw[aq (by omega),aq (by omega),aq (by omega),aq (by omega),aq (by omega),aq (by omega),aq (by omega),aq (by omega),aB (by omega)];simp only[nL,true_and]
 case' g7=>omega
 have e1:cr c 16=c.b:=by simp[cr]
 have e2:aP c 16=8:=by simp[aP,each]
 have e3:place c 16 i k=eo c+i*8+k:=by simp[place,iY,each]
 rw[e3];refine⟨?_,by omega,by omega⟩;unfold wh;rw[aq (by omega),aq (by omega),aq (by omega),aq (by omega),aq (by omega),aq (by omega),aq (by omega),aq (by omega),aq (by omega)];simp only[nL,true_and];omega
end Go.aS.Y
namespace Go.Proofs.YtolkmchicplaoaaGreat
open Go.RowKit Go.aS Go.aS.Y
def lC (c:cA)(p kind i k:Int):Prop:=∀w,ba 25 #[aY c,I p] w (.tuple #[I kind,I i,I k])
def JA (c p)(hp:p<0∨size c≤p):lC c p (-1) 0 0:=by
 intro w;by_cases h:p<0
 ·exact KV w c p (by simpa using h)
 ·exact KW w c p (by simp;omega) (by simp;omega)
def C1 {c}(h:Ok c){p}(h0:0≤p)(h1:p<size c):∃kd i k,Is c kd i k∧place c kd i k=p∧lC c p kd i k:=by
 obtain⟨r0,r1,r2,r3,r4,r5,r6,r7,r8,r9,u6,tF,tG⟩:=row h;by_cases hz:p=0
 ·subst hz;exact⟨0,0,0,⟨by omega,by simp[cr],by omega,by simp[aP,each]⟩,by simp[place],λw=>X4 w c (by simp;omega)⟩
 by_cases ht:p<dj c
 ·have hs:=fW h;obtain⟨i,hi⟩:∃i,i=(p-1)/aX c:=⟨_,rfl⟩;obtain⟨r,hr⟩:∃r,r=(p-1)%aX c:=⟨_,rfl⟩;have e:p=1+(i*aX c+r):=by
   have:=Int.mul_ediv_add_emod (p-1) (aX c);rw[hi,hr,Int.mul_comm];omega
  have WL:0≤r:=by rw[hr];exact Int.emod_nonneg _ (by omega)
  have Yd:r<aX c:=by rw[hr];exact uM _ (by omega)
  have iJ:0≤i:=by rw[hi];exact Int.ediv_nonneg (by omega) (by omega)
  have Oy:i<c.t:=by
   rw[hi];refine Int.ediv_lt_of_lt_mul (by omega) ?_;have:dj c=1+c.t*aX c:=rfl;omega
  clear hi hr;have ec:=ll c;by_cases h6:8≤r
  ·have e1:cr c 6=c.t:=by simp[cr]
   have e2:aP c 6=cap c:=by simp[aP,each]
   have e3:place c 6 i (r-8)=1+i*aX c+8+(r-8):=by simp[place,dZ]
   exact⟨6,i,r-8,⟨by omega,by omega,by omega,by omega⟩,by omega,λw=>X6 w c p i r h ⟨iJ,Oy⟩ ⟨by omega,by omega⟩ e⟩
  by_cases h5:7≤r
  ·have e1:cr c 5=c.t:=by simp[cr]
   have e2:aP c 5=1:=by simp[aP,each]
   have e3:place c 5 i (r-7)=1+i*aX c+7+(r-7):=by simp[place,dZ]
   exact⟨5,i,r-7,⟨by omega,by omega,by omega,by omega⟩,by omega,λw=>X7 w c p i r h ⟨iJ,Oy⟩ ⟨by omega,by omega⟩ e⟩
  by_cases h4:6≤r
  ·have e1:cr c 4=c.t:=by simp[cr]
   have e2:aP c 4=1:=by simp[aP,each]
   have e3:place c 4 i (r-6)=1+i*aX c+6+(r-6):=by simp[place,dZ]
   exact⟨4,i,r-6,⟨by omega,by omega,by omega,by omega⟩,by omega,λw=>X8 w c p i r h ⟨iJ,Oy⟩ ⟨by omega,by omega⟩ e⟩
  by_cases h3:5≤r
  ·have e1:cr c 3=c.t:=by simp[cr]
   have e2:aP c 3=1:=by simp[aP,each]
   have e3:place c 3 i (r-5)=1+i*aX c+5+(r-5):=by simp[place,dZ]
   exact⟨3,i,r-5,⟨by omega,by omega,by omega,by omega⟩,by omega,λw=>X9 w c p i r h ⟨iJ,Oy⟩ ⟨by omega,by omega⟩ e⟩
  by_cases h2:1≤r
  ·have e1:cr c 2=c.t:=by simp[cr]
   have e2:aP c 2=4:=by simp[aP,each]
   have e3:place c 2 i (r-1)=1+i*aX c+1+(r-1):=by simp[place,dZ]
   exact⟨2,i,r-1,⟨by omega,by omega,by omega,by omega⟩,by omega,λw=>X_ w c p i r h ⟨iJ,Oy⟩ ⟨by omega,by omega⟩ e⟩
  have e1:cr c 1=c.t:=by simp[cr]
  have e2:aP c 1=1:=by simp[aP,each]
  have e3:place c 1 i r=1+i*aX c+0+r:=by simp[place,dZ]
  exact⟨1,i,r,⟨by omega,by omega,by omega,by omega⟩,by omega,λw=>Ya w c p i r h ⟨iJ,Oy⟩ ⟨by omega,by omega⟩ e⟩
 by_cases hr:p<dO c
 ·obtain⟨i,r,WL,iJ,e⟩:∃i r:Int,(r=0∨r=1∨r=2)∧0≤i∧p=dj c+(3*i+r):=⟨(p-dj c)/3,(p-dj c)%3,by omega,by omega,by omega⟩;have ht:=λw=>Ow w c p i r h WL iJ e hr;rcases WL with rfl|rfl|rfl
  ·have e1:cr c 7=c.t:=by simp[cr]
   have e2:aP c 7=1:=by simp[aP,each]
   have e3:place c 7 i 0=dj c+i*3+7-7:=by simp[place]
   exact⟨7,i,0,⟨by omega,by omega,by omega,by omega⟩,by omega,ht⟩
  ·have e1:cr c 8=c.t:=by simp[cr]
   have e2:aP c 8=1:=by simp[aP,each]
   have e3:place c 8 i 0=dj c+i*3+8-7:=by simp[place]
   exact⟨8,i,0,⟨by omega,by omega,by omega,by omega⟩,by omega,ht⟩
  ·have e1:cr c 9=c.t:=by simp[cr]
   have e2:aP c 9=1:=by simp[aP,each]
   have e3:place c 9 i 0=dj c+i*3+9-7:=by simp[place]
   exact⟨9,i,0,⟨by omega,by omega,by omega,by omega⟩,by omega,ht⟩
 by_cases oo:p<ef c
 ·have e1:cr c 10=16:=by simp[cr]
  have e2:aP c 10=1:=by simp[aP,each]
  have e3:place c 10 (p-dO c) 0=dO c+(p-dO c)*1+0:=by simp[place,iY,each]
  exact⟨10,p-dO c,0,⟨by omega,by omega,by omega,by omega⟩,by omega,λw=>Tx w c p (p-dO c) 0 h (by omega) (by omega) (by omega) oo⟩
 by_cases u7:p<fI c
 ·have e1:cr c 11=c.b:=by simp[cr]
  have e2:aP c 11=1:=by simp[aP,each]
  have e3:place c 11 (p-ef c) 0=ef c+(p-ef c)*1+0:=by simp[place,iY,each]
  exact⟨11,p-ef c,0,⟨by omega,by omega,by omega,by omega⟩,by omega,λw=>Ty w c p (p-ef c) 0 h (by omega) (by omega) (by omega) u7⟩
 by_cases xJ:p<cK c
 ·have e1:cr c 12=1:=by simp[cr]
  have e2:aP c 12=1:=by simp[aP,each]
  have e3:place c 12 (p-fI c) 0=fI c+(p-fI c)*1+0:=by simp[place,iY,each]
  exact⟨12,p-fI c,0,⟨by omega,by omega,by omega,by omega⟩,by omega,λw=>Tz w c p (p-fI c) 0 h (by omega) (by omega) (by omega) xJ⟩
 by_cases yo:p<gu c
 ·have e1:cr c 13=c.b:=by simp[cr]
  have e2:aP c 13=1:=by simp[aP,each]
  have e3:place c 13 (p-cK c) 0=cK c+(p-cK c)*1+0:=by simp[place,iY,each]
  exact⟨13,p-cK c,0,⟨by omega,by omega,by omega,by omega⟩,by omega,λw=>TA w c p (p-cK c) 0 h (by omega) (by omega) (by omega) yo⟩
 by_cases BR:p<c8 c
 ·have e1:cr c 14=1:=by simp[cr]
  have e2:aP c 14=1:=by simp[aP,each]
  have e3:place c 14 (p-gu c) 0=gu c+(p-gu c)*1+0:=by simp[place,iY,each]
  exact⟨14,p-gu c,0,⟨by omega,by omega,by omega,by omega⟩,by omega,λw=>TB w c p (p-gu c) 0 h (by omega) (by omega) (by omega) BR⟩
 by_cases Ey:p<eo c
 ·have e1:cr c 15=b_ c:=by simp[cr]
  have e2:aP c 15=1:=by simp[aP,each]
  have e3:place c 15 (p-c8 c) 0=c8 c+(p-c8 c)*1+0:=by simp[place,iY,each]
  exact⟨15,p-c8 c,0,⟨by omega,by omega,by omega,by omega⟩,by omega,λw=>TC w c p (p-c8 c) 0 h (by omega) (by omega) (by omega) Ey⟩
 have e1:cr c 16=c.b:=by simp[cr]
 have e2:aP c 16=8:=by simp[aP,each]
 obtain⟨i,k,hi,hk,e⟩:∃i k:Int,0≤i∧(0≤k∧k<8)∧p=eo c+(i*8+k):=⟨(p-eo c)/8,(p-eo c)%8,by omega,by omega,by omega⟩;have e3:place c 16 i k=eo c+i*8+k:=by simp[place,iY,each]
 exact⟨16,i,k,⟨by omega,by omega,by omega,by omega⟩,by omega,λw=>TD w c p i k h hi hk e h1⟩
end Go.Proofs.YtolkmchicplaoaaGreat
namespace Go.aS
def aB9 (c:Int×Int):List Value:=[U c.1,U c.2]
def aB8 (c:Int×Int):(aB9 c).length=2:=rfl
def aN9 (c:Int×Int):∀u∈aB9 c,u.oneCell'=true:=by simp[aB9,Value.oneCell']
def Ez (g n cap:Nat):List Value:=[.slice (some ⟨g,0,none⟩) n cap,I 0,I 0,I 0,I 0,I 0,I 0,I 0,I 0,.slice none 0 0]
def KY (l){k}(hk:k<l.length)(u v):((flat aB9 l).set (k*2) (U u)).set (k*2+1) (U v)=flat aB9 (l.set k (u,v)):=by
 refine oO aB8 _ (by simp[ck aB8]) λj hj q hq=>?_;rw[cF]at hj;simp only[so];by_cases e:k=j
 ·subst e;rw[aB rfl];rcases(show q=0∨q=1 by omega)with rfl|rfl
  ·rw[dF (by omega),qT,eW (by rw[ck aB8];omega)];rfl
  ·rw[eW (by rw[cF,ck aB8];omega)];rfl
 ·rw[aq e,dF (by omega),dF (by omega),cI aB8 _ j hj q hq]
def Oz {w:World}{base:Nat}{e:TypeId}{g n cap:Nat}{l:List (Int×Int)}(h:w.ownsRow base e 2 (.slice (some ⟨g,0,none⟩) n cap) n (flat aB9 l)){k:Nat}(hk:k<l.length):
 w.cell? ⟨g,k*2,none⟩=some (U l[k].1)∧w.cell? ⟨g,k*2+1,none⟩=some (U l[k].2):=
 ⟨aH h _ _ (by have:=cI aB8 l k hk 0 (by decide);simpa[aB9]using this),aH h _ _ (by have:=cI aB8 l k hk 1 (by decide);simpa[aB9]using this)⟩
end Go.aS
namespace Go.Proofs.YtolkmchicplaoaaGreat
open Go.RowKit Go.aS
def GY:(Tryz.prog.info? 68).map (λi=>(i.zero,i.size,i.bytes))=some (some (.agg #[U 0,U 0]),2,16):=by kernel_rfl
def Ye {w0 w R b g n cap l}(h:Sep w0 w (aJ b 123 (Ez g n cap)::aU 0 68 2 (.slice (some ⟨g,0,none⟩) n cap) n (flat aB9 l)::R))(hl:l.length=n)(hf:n≤65536)(k)(hk:k<n)(u v):
 jh 52 #[O b,I k,.agg #[U u,U v]] w (I 0) w0 (aJ b 123 (Ez g n cap)::aU 0 68 2 (.slice (some ⟨g,0,none⟩) n cap) n (flat aB9 (l.set k (u,v)))::R):=by
 have c0:w.cell? ⟨b,0,none⟩=some (.slice (some ⟨g,0,none⟩) n cap):=(h.ar 0 rfl).cell 0;have hb:=(h.ar 0 rfl).lt;have hr:=h.row 1 rfl;have hg:=(oz hr g rfl).2;have rX:(k:Int)<(n:Int):=by omega
 have d1:decide ((k:Int)<0)=false:=by simp
 have d3:decide (k≥n)=false:=by simp;omega
 obtain⟨x0,x1⟩:=Oz hr (k:=k) (by omega);have f0:=bw hr (k*2);have f1:=bw hr (k*2+1);have hs:=(h.setRow 1 rfl (k*2) (U u)).setRow 1 rfl (k*2+1) (U v);simp only[zs,KY l (show k<l.length by omega)]at hs;have HS:=aa hs;generalize l[k]'(by omega)=c at*;clear h hr hs;delta jh;go_in;go_wp2;refine bW [(1,[0,1,2,3,4,5,6]),(3,[7])] (by kernel_rfl) ?_;simp only[zz];repeat(first|go_big_quiet_step(fail)|apply ax|apply af|apply ag|apply ah)
 refine ao ?_;go_wp2;refine aj ?_;go_wp2;go_ret;exact⟨rfl,(HS.alloc _).drew⟩
def C2 {w0 w R}{b g n cap:Nat}{l:List (Int×Int)}(h:Sep w0 w (aJ b 123 (Ez g n cap)::aU 0 68 2 (.slice (some ⟨g,0,none⟩) n cap) n (flat aB9 l)::R))(hl:l.length=n)(hf:n≤65536){a:Int}(k:Nat)(ha:a=k)(hk:k<n)(u v:Int):
 jh 52 #[O b,I a,.agg #[U u,U v]] w (I 0) w0 (aJ b 123 (Ez g n cap)::aU 0 68 2 (.slice (some ⟨g,0,none⟩) n cap) n (flat aB9 (l.set k (u,v)))::R):=by
 subst ha;exact Ye h hl hf k hk u v
def TN (n):(madeCells (Value.agg #[U 0,U 0]).cells (n*2)).toList=flat aB9 (List.replicate n ((0:Int),(0:Int))):=by
 refine oO aB8 _ (by simp[madeCells]) λi hi j hj=>?_;rw[List.length_replicate]at hi;have hx:i*2+j<n*2:=by omega
 simp only[madeCells,Value.cells];rw[Array.getElem?_toList,Array.getElem?_map,Array.getElem?_range];rw[aB hx];simp only[Option.map_some,List.getElem_replicate];rcases(show j=0∨j=1 by omega)with rfl|rfl
 ·rw[show(i*2+0)%(#[U 0,U 0]:Array Value).size=0 from by simp];rfl
 ·rw[show(i*2+1)%(#[U 0,U 0]:Array Value).size=1 from by simp];rfl
def Yf (w)(n:Nat)(hn:n≤65536):
 Calls Tryz.prog 50 #[I n] w λe w'=>∃b g cap,e= .returned (.tuple #[O b,I 0])∧Sep w w' [aJ b 123 (Ez g n cap),aU 0 68 2 (.slice (some ⟨g,0,none⟩) n cap) n (flat aB9 (List.replicate n (0,0)))]:=by
 obtain⟨i0,iJ,jA,jB,iR⟩:=eA GY;have d1:decide ((n:Int)<0)=false:=by simp
 have d2:decide ((n:Int)>65536)=false:=by simp;omega
 go_in;go_wp2_with(at_make;refine wpList_make_full _ rfl _ _ 120 rfl 0 68 i0 _ 2 underlying120 iJ jA jB .i64 .i64 _ _ n rfl rfl rfl rfl (by rw[iR];omega) (by unfold maxLen;omega) (cE _) ?_;intro w1 ho uF);go_ret2;rw[TN]at ho;have f:Fr [] w w1:=(Fr.refl [] w).grown uF (λk e=>by cases e);have hs:=(Sep.nil (Fr.refl [] w)).push f (T:=aU 0 68 2 (.slice (some ⟨w.heap.size,0,none⟩) n n) n (flat aB9 (List.replicate n (0,0)))) (fp:=[w.heap.size]) ⟨rfl,ho⟩ (by simp);exact⟨_,_,_,rfl,hs.new 123 (Ez w.heap.size n n)⟩
end Go.Proofs.YtolkmchicplaoaaGreat
namespace Go.aS.Y
def zq (c:cA):List (Int×Int):=((List.replicate (size c).toNat ((0:Int),(0:Int))).set 0 (0,c.fi)).set (fI c).toNat (c.b,0)
def jJ (c:cA):Nat→List (Int×Int)
 |0=>zq c
 |k+1=>(jJ c k).set ((cK c).toNat+k) (c.b-1-k,0)
def xK (c:cA):List (Int×Int):=jJ c c.b.toNat
def oq (c):∀k,(jJ c k).length=(size c).toNat
 |0=>by simp[jJ,zq]
 |k+1=>by rw[jJ,cF,oq c k]
def zr {c}(h:Ok c):at_ c 0 0 0=0:=by unfold at_;rw[aB ⟨by omega,by simp[cr],by omega,by simp[aP,each]⟩];simp[place]
def GZ {c}(h:Ok c):at_ c 12 0 0=fI c:=by unfold at_;rw[aB ⟨by omega,by simp[cr],by omega,by simp[aP,each]⟩];simp[place,iY,each]
def zt {c}(h:Ok c){i}(h0:0≤i)(h1:i<c.b):at_ c 13 i 0=cK c+i:=by
 have e1:cr c 13=c.b:=by simp[cr]
 unfold at_;rw[aB ⟨by omega,by omega,by omega,by simp[aP,each]⟩];simp[place,iY,each]
end Go.aS.Y
namespace Go.Proofs.YtolkmchicplaoaaGreat
open Go.RowKit Go.aS Go.aS.Y
def OA (w c)(h:Ok c):Calls Tryz.prog 22 #[aY c] w λe w'=>∃b g cap,e= .returned (O b)∧Sep w w' [aJ b 123 (Ez g (size c).toNat cap),aU 0 68 2 (.slice (some ⟨g,0,none⟩) (size c).toNat cap) (size c).toNat (flat aB9 (xK c))]:=by
 have HZ:=aa (λw=>fQ w (ae c) (size c) rfl rfl);have HA:=aa (λw=>cx w c h);obtain⟨r0,r1,r2,r3,r4,r5,r6,r7,r8,r9,u6,tF,tG⟩:=row h;have kF:=h.nZ;obtain⟨n,hn⟩:∃n:Nat,(n:Int)=size c:=⟨(size c).toNat,by omega⟩;have tE:(size c).toNat=n:=by omega
 obtain⟨kt,Yg⟩:∃k:Nat,(k:Int)=fI c:=⟨(fI c).toNat,by omega⟩;obtain⟨ks,Tq⟩:∃k:Nat,(k:Int)=cK c:=⟨(cK c).toNat,by omega⟩;obtain⟨nb,oR⟩:∃k:Nat,(k:Int)=c.b:=⟨c.b.toNat,by omega⟩;have TO:=aa (show jJ c 0=((List.replicate n ((0:Int),(0:Int))).set 0 (0,c.fi)).set kt (c.b,0) by
  unfold jJ zq;rw[tE,show(fI c).toNat=kt by omega])
 have HBS:=aa (show∀k,jJ c (k+1)=(jJ c k).set (ks+k) (c.b-1-k,0) by
  intro k;rw[jJ,show(cK c).toNat=ks by omega])
 have SW:=aa (show xK c=jJ c nb by unfold xK;rw[show c.b.toNat=nb by omega]);have HLE:=aa (λk=>(oq c k).trans tE);have Ba:=aa (zr h);have h_:=aa ((GZ h).trans Yg.symm);have Bi:=aa (show∀k:Nat,k<nb→at_ c 13 k 0=((ks+k:Nat):Int) by
  intro k hk;rw[zt h (by omega) (by omega),←Tq];omega)
 rw[tE];have TP:n≤65536:=by omega
 have sh:kt<n:=by omega
 have ax9:ks+nb≤n:=by omega
 have nU:1≤nb∧nb≤64:=by omega
 have aD:(ae c).length=24:=rfl;have g1:(ae c)[1]?=some (I c.b):=rfl;have g4:(ae c)[4]?=some (U c.fi):=rfl;unfold aY at*;have hS:=(Sep.nil (Fr.refl [] w)).new 58 (ae c);generalize ae c=cs at*;rw[←oR]at*;rw[←hn]at HZ;clear h r0 r1 r2 r3 r4 r5 r6 r7 r8 r9 u6 tF tG hn tE Yg Tq kF;have HM:=aa (hS.ar 0 rfl);have HS:=aa hS;clear hS;go_in;go_wp2_with(refine ay 58 _ rfl rfl _ 0 rfl cs _ HM.range underlying58 rfl (by rw[aD];kernel_rfl) ?_);refine(HZ.out _).kk λw1 hf=>?_;have hS:=HS.c_ hf;clear hf HM HS;have HS:=aa hS;clear hS;go_wp2_with fail;refine(Yf w1 n TP).mono ?_;rintro e w2 ⟨b,g,cap,rfl,hN⟩;have hS:=HS.out.append hN;clear hN HS;simp only[za]at hS;have m1:=(hS.ar 2 rfl).aT 1 g1;have m4:=(hS.ar 2 rfl).aT 4 g4;have cC:=(hS.ar 2 rfl).drew;have HS:=aa hS;clear hS;go_wp2_with fail;refine bW [(1,[0,1,3,4,5,6]),(2,[2]),(3,[7])] (by kernel_rfl) ?_;simp only[zz];refine af ?_;iterate 1 (first|go_big_quiet_step (fail)|quiet_step (fail))
 refine ak 58 _ w.heap.size 0 cs _ rfl rfl rfl (bL cC (by simp)) underlying58 rfl (by rw[aD];kernel_rfl) ?_;simp only[Act.put,aZ,zs];repeat go_big_quiet_step(fail)
 refine ax ?_;refine aA ?_;go_wp2_with fail;refine(HA.out _ _ _ _).kk λw3 hf=>?_;rw[Ba.out];have HF:=aa hf;clear hf;go_wp2;refine⟨⟨⟨_,(by exact HF.out)⟩,rfl⟩,?_⟩;refine ao ?_;go_wp2_with fail;refine(C2 (HS.drew.c_ HF.out) (by simp) TP 0 rfl (by omega) _ _).kk λw4 hS=>?_;clear HS HF m1 m4 cC;have m1:=(hS.ar 2 rfl).aT 1 g1;have m4:=(hS.ar 2 rfl).aT 4 g4;have cC:=(hS.ar 2 rfl).drew;have HS:=aa hS;clear hS;go_wp2;refine aj ?_;go_wp2_with fail;refine bW [(1,[0,1,3,4,5,6,7]),(2,[2]),(3,[8])] (by kernel_rfl) ?_;simp only[zz];refine af ?_;iterate 1 (first|go_big_quiet_step (fail)|quiet_step (fail))
 refine ak 58 _ w.heap.size 0 cs _ rfl rfl rfl (bL cC (by simp)) underlying58 rfl (by rw[aD];kernel_rfl) ?_;simp only[Act.put,aZ,zs];repeat go_big_quiet_step(fail)
 refine ax ?_;refine aA ?_;go_wp2_with fail;refine(HA.out _ _ _ _).kk λw5 hf=>?_;rw[h_.out];have HF:=aa hf;clear hf;go_wp2;refine⟨⟨⟨_,(by exact HF.out)⟩,rfl⟩,?_⟩;refine ao ?_;go_wp2_with fail;refine(C2 (HS.drew.c_ HF.out) (by simp) TP kt rfl (by omega) _ _).kk λw6 hS=>?_;rw[←TO.out]at hS;clear HS HF m1 m4 cC;have m1:=(hS.ar 2 rfl).aT 1 g1;have m4:=(hS.ar 2 rfl).aT 4 g4;have HS:=aa hS;clear hS;go_wp2;refine aj ?_;go_wp2_with fail;go_loopg [32] nb (λgk vi wr=>∃k,gk+k=nb∧vi=I (k:Int)∧Sep w wr [aJ b 123 (Ez g n cap),aU 0 68 2 (.slice (some ⟨g,0,none⟩) n cap) n (flat aB9 (jJ c k)),aJ w.heap.size 58 cs])
 case atStart=>exact⟨0,by omega,rfl,HS.out⟩
 case round=>
  clear HS;obtain⟨k,hg,rfl,hS⟩:=hrel;clear m1 m4;have m1:=(hS.ar 2 rfl).aT 1 g1;have m4:=(hS.ar 2 rfl).aT 4 g4;have cC:=(hS.ar 2 rfl).drew;have HS:=aa hS;clear hS;by_cases hk:k<nb
  ·have rX:(k:Int)<(nb:Int):=by omega
   have ad2:0≤(nb:Int)-1-(k:Int)∧(nb:Int)-1-(k:Int)≤64:=by omega
   have p4:(k:Int)≤64:=by omega
   go_wp2_with fail;refine bW [(1,[0,1,2,4,5,6,7,8,9,10,11]),(2,[3]),(3,[12])] (by kernel_rfl) ?_;simp only[zz];refine af ?_;iterate 1 (first|go_big_quiet_step (fail)|quiet_step (fail))
   refine ak 58 _ w.heap.size 0 cs _ rfl rfl rfl (bL cC (by simp)) underlying58 rfl (by rw[aD];kernel_rfl) ?_;simp only[Act.put,aZ,zs];repeat go_big_quiet_step(fail)
   refine ax ?_;refine aA ?_;go_wp2_with fail;refine(HA.out _ _ _ _).kk λw7 hf=>?_;rw[Bi.out k hk];have HF:=aa hf;clear hf;go_wp2;refine⟨⟨⟨_,(by exact HF.out)⟩,rfl⟩,?_⟩;refine ao ?_;go_wp2_with fail;refine(C2 (HS.drew.c_ HF.out) (HLE.out k) TP (ks+k) (by omega) (by omega) _ _).kk λw8 hS=>?_;rw[←HBS.out k]at hS;have de:=aa hS;clear HS HF m1 m4 cC hS;go_wp2;refine aj ?_;go_wp2;go_roundg (nb-(k+1))
   case measure=>omega
   case rel=>exact⟨k+1,by omega,rfl,de.out⟩
  ·obtain rfl:k=nb:=by omega
   go_wp2;go_ret;rw[SW.out];exact⟨b,g,cap,rfl,HS.sub [0,1] rfl (by decide)⟩
end Go.Proofs.YtolkmchicplaoaaGreat
namespace Go.aS.C
open Go.aS
structure BU where
 k:Int
 a:Int
 ov:Int
 os:Int
 nv:Int
 ns:Int
deriving DecidableEq
structure OB where
 v:Int
 s:Int
 ok:Bool
deriving DecidableEq
structure Ev where
 aw:Int
 op:BU
 out:OB
deriving DecidableEq
structure M where
 cells:List (Int×Int)
 steps:List Int
 trace:List Ev
def uE (c:Int×Int):List Value:=[U c.1,U c.2]
def kO (e:Ev):List Value:=[I e.aw,I e.op.k,I e.op.a,U e.op.ov,U e.op.os,U e.op.nv,U e.op.ns,U e.out.v,U e.out.s,.bool e.out.ok]
def fO (c:Int×Int):(uE c).length=2:=rfl
def qg (e:Ev):(kO e).length=10:=rfl
def JB (c:Int×Int):∀u∈uE c,u.oneCell'=true:=by simp[uE,Value.oneCell']
def lM (e:Ev):∀u∈kO e,u.oneCell'=true:=by simp[kO,Value.oneCell']
def M.at (m:M)(i:Nat):Int×Int:=m.cells.getD i (0,0)
def M.cr (m:M)(i:Nat):Int:=m.steps.getD i 0
def err (n:Nat)(aw:Int)(op:BU):Int:=
 if aw<0∨8≤aw then 1 else if op.k<0∨3<op.k then 32 else if op.a<0∨(n:Int)≤op.a then 31 else 0
def gI (c:Int×Int)(op:BU):Int×Int:=
 if op.k=1∨(op.k=2∧c=(op.ov,op.os))then(op.nv,op.ns)
 else if op.k=3 then(IntKind.u64.wrap (c.1+op.nv),c.2)else c
def ky (c:Int×Int)(op:BU):OB:=⟨c.1,c.2,decide (op.k≠2∨c=(op.ov,op.os))⟩
def M.step (m:M)(aw:Int)(op:BU):M:=
 if err m.cells.length aw op=0 then
  ⟨m.cells.set op.a.toNat (gI (m.at op.a.toNat) op),m.steps.set aw.toNat (m.cr aw.toNat+1),m.trace++[⟨aw,op,ky (m.at op.a.toNat) op⟩]⟩
 else m
def M.told (m:M)(aw:Int)(op:BU):OB:=
 if err m.cells.length aw op=0 then ky (m.at op.a.toNat) op else⟨0,0,false⟩
def jV {n aw op}(h:err n aw op=0):0≤aw∧aw<8∧0≤op.k∧op.k≤3∧0≤op.a∧op.a<n:=by
 unfold err at h;split at h
 ·omega
 ·split at h
  ·omega
  ·split at h
   ·omega
   ·omega
def G0 (m:M)(aw:Int)(op:BU):(m.step aw op).trace.length≤m.trace.length+1:=by
 unfold M.step;split<;>simp
def yS (l:List Ev)(i:Int):Nat:=l.countP λe=>e.aw==i
structure Good (m:M):Prop where
 s8:m.steps.length=8
 count:∀i:Nat,i<8→m.cr i=yS m.trace i
def kg {m}(h:Good m)(aw op):Good (m.step aw op):=by
 unfold M.step;split
 ·rename_i he;obtain⟨w0,w8,_⟩:=jV he;refine⟨by simp[h.s8],λi hi=>?_⟩;have h1:=h.count i hi;have h8:=h.s8;simp only[yS,List.countP_append,List.countP_singleton]at*;by_cases e:aw=i
  ·subst e;simp only[M.cr,cO,dU]at*;rw[eW (by omega)];simp[h1]
  ·have e2:¬aw.toNat=i:=by omega
   simp only[M.cr,cO]at*;rw[dF e2,h1];simp[e]
 ·exact h
def zu (n):Good ⟨List.replicate n (0,0),List.replicate 8 0,[]⟩:=
 ⟨rfl,λi hi=>by
  simp only[M.cr,yS,cO,List.countP_nil];rw[List.getElem?_replicate_of_lt hi];rfl⟩
def Good.bound {m}(h:Good m){i}(hi:i<8):0≤m.cr i∧m.cr i≤m.trace.length:=by
 rw[h.count i hi];have:yS m.trace i≤m.trace.length:=List.countP_le_length;omega
end Go.aS.C
namespace Go.Proofs.YtolkmchicplaoaaGreat
open Go.RowKit Go.aS Go.aS.C
def G1:(Tryz.prog.info? 68).map (λi=>(i.zero,i.size,i.bytes))=some (some (.agg #[U 0,U 0]),2,16):=by kernel_rfl
def jW:(Tryz.prog.info? 86).map (λi=>(i.zero,i.size,i.bytes))=some (some (.agg #[I 0,I 0,I 0,U 0,U 0,U 0,U 0,U 0,U 0,.bool false]),10,80):=by kernel_rfl
def kP (vc vt:Value)(m:M):List Value:=vc::(m.steps.map (Value.int .i64)++[vt])
structure gD (w:World)(b:Nat)(vc vt:Value)(m:M):Prop where
 ar:cB w b 123 (kP vc vt m)
 rc:w.ownsRow 0 68 2 vc m.cells.length (flat uE m.cells)
 rt:w.ownsRow 0 86 10 vt m.trace.length (flat kO m.trace)
 TR:∀k,vc.ownBlock=some k→k≠b
 C3:∀k,vt.ownBlock=some k→k≠b
 WM:∀k,vc.ownBlock=some k→vt.ownBlock≠some k
 tY:m.cells.length≤65536
 s8:m.steps.length=8
def qh (b:Nat)(vc vt:Value):List Nat:=b::(vc.ownBlock.toList++vt.ownBlock.toList)
def gM {b vc vt k}:k∈qh b vc vt↔k=b∨vc.ownBlock=some k∨vt.ownBlock=some k:=by
 simp[qh]
def gD.fr {w w' b vc vt m fp}(h:gD w b vc vt m)(f:Fr fp w w')(hn:∀k∈qh b vc vt,k∉fp):gD w' b vc vt m:=
 ⟨h.ar.fr f (hn b (gM.2 (.inl rfl))),cX h.rc f (λk hk=>hn k (gM.2 (.inr (.inl hk)))),cX h.rt f (λk hk=>hn k (gM.2 (.inr (.inr hk)))),h.TR,h.C3,h.WM,h.tY,h.s8⟩
def gD.lt {w b vc vt m}(h:gD w b vc vt m):∀k∈qh b vc vt,k<w.heap.size:=by
 intro k hk;rcases gM.1 hk with rfl|h1|h1
 ·exact h.ar.lt
 ·exact(oz h.rc k h1).2
 ·exact(oz h.rt k h1).2
def gD.c0 {w b vc vt m}(h:gD w b vc vt m):w.cell? ⟨b,0,none⟩=some vc:=(h.ar.cell 0).trans rfl
def gD.c9 {w b vc vt m}(h:gD w b vc vt m):w.cell? ⟨b,9,none⟩=some vt:=by
 rw[h.ar.cell 9];simp only[kP,pN];rw[gw (by simp[h.s8])];simp[h.s8]
def gD.cs {w b vc vt m}(h:gD w b vc vt m){i}(hi:i<8):w.cell? ⟨b,i+1,none⟩=some (I (m.cr i)):=by
 rw[h.ar.cell (i+1)];simp only[kP,pN];have:=h.s8;rw[gm (by simp;omega)];simp[M.cr,cO,show i<m.steps.length by omega]
def yq (b:Nat)(vc vt:Value)(m:M):a_ where
 P w fp:=fp=qh b vc vt∧gD w b vc vt m
 fr:=by
  rintro w w' fp se ⟨rfl,h⟩ f hn;exact⟨rfl,h.fr f hn⟩
 lt:=by
  rintro w fp ⟨rfl,h⟩;exact h.lt
def dP (b:Nat)(m:M):a_ where
 P w fp:=C.Good m∧∃vc vt,fp=qh b vc vt∧gD w b vc vt m
 fr:=by
  rintro w w' fp se ⟨hg,vc,vt,rfl,h⟩ f hn;exact⟨hg,vc,vt,rfl,h.fr f hn⟩
 lt:=by
  rintro w fp ⟨hg,vc,vt,rfl,h⟩;exact h.lt
def kY {w0 w Ts}(h:Sep w0 w Ts)(i:Nat){b:Nat}{m:M}(hi:Ts[i]?=some (dP b m)):C.Good m∧∃vc vt,gD w b vc vt m:=by
 obtain⟨fp,⟨hg,vc,vt,_,hp⟩,_⟩:=h.get i hi;exact⟨hg,vc,vt,hp⟩
def bZ {w0 w Ts}(h:Sep w0 w Ts)(i:Nat){b:Nat}{vc vt}{m:M}(hi:Ts[i]?=some (yq b vc vt m)):gD w b vc vt m:=by
 obtain⟨fp,⟨_,hp⟩,_⟩:=h.get i hi;exact hp
def qi {w0 w R b m}(h:Sep w0 w (dP b m::R)):C.Good m∧∃vc vt,Sep w0 w (yq b vc vt m::R):=by
 obtain⟨fp,⟨hg,vc,vt,rfl,hp⟩,_,hk⟩:=h.get 0 rfl;exact⟨hg,vc,vt,hk (yq b vc vt m) w _ ⟨rfl,hp⟩ (Fr.refl _ _) (λq hq=> .inl hq)⟩
def qj {w0 w R b vc vt m}(h:Sep w0 w (yq b vc vt m::R))(hg:C.Good m):Sep w0 w (dP b m::R):=by
 obtain⟨fp,⟨rfl,hp⟩,_,hk⟩:=h.get 0 rfl;exact hk (dP b m) w _ ⟨hg,vc,vt,rfl,hp⟩ (Fr.refl _ _) (λq hq=> .inl hq)
def gD.cell {w b g n cap vt m}(h:gD w b (.slice (some ⟨g,0,none⟩) n cap) vt m){k}(hk:k<m.cells.length):
 w.cell? ⟨g,k*2,none⟩=some (U (m.at k).1)∧w.cell? ⟨g,k*2+1,none⟩=some (U (m.at k).2):=by
 have hr:=h.rc;obtain⟨la,lc,e⟩:=cY hr;simp only[dk]at e;obtain⟨-,rfl,-⟩:=e;have e:m.at k=m.cells[k]:=by simp[M.at,cO,hk]
 rw[e];exact⟨aH hr _ _ (by have:=cI fO m.cells k hk 0 (by decide);simpa[uE]using this),aH hr _ _ (by have:=cI fO m.cells k hk 1 (by decide);simpa[uE]using this)⟩
def gD.rU {w b g n cap vt m}(h:gD w b (.slice (some ⟨g,0,none⟩) n cap) vt m)(j):w.frozen? ⟨g,j,none⟩=false:=by
 have hr:=h.rc;obtain⟨la,lc,e⟩:=cY hr;simp only[dk]at e;obtain⟨-,rfl,-⟩:=e;exact bw hr j
def gD.Bj {w b g n cap vt m}(h:gD w b (.slice (some ⟨g,0,none⟩) n cap) vt m):g<w.heap.size:=(oz h.rc g rfl).2
def zq3:(∀{w0 w Ts}(h:Sep w0 w Ts)(i){b g n cap vt m}(hi:Ts[i]?=some (yq b (.slice (some ⟨g,0,none⟩) n cap) vt m)){k}(hk:k<m.cells.length)(u v),Sep w0 ((w.setCell ⟨g,k*2,none⟩ (U u)).setCell ⟨g,k*2+1,none⟩ (U v)) (Ts.set i (yq b (.slice (some ⟨g,0,none⟩) n cap) vt {m with cells:=m.cells.set k (u,v)})))∧(∀{w0 w Ts}(h:Sep w0 w Ts)(i){b g n cap vt m}(hi:Ts[i]?=some (yq b (.slice (some ⟨g,0,none⟩) n cap) vt m)){k}(hk:k<m.cells.length)(u),Sep w0 (w.setCell ⟨g,k*2,none⟩ (U u)) (Ts.set i (yq b (.slice (some ⟨g,0,none⟩) n cap) vt {m with cells:=m.cells.set k (u,(m.at k).2)}))):=by
 refine⟨?Z,?Y⟩
 case' Z=>intro w0 w Ts h i b g n cap vt m hi k hk u v
 case' Y=>intro w0 w Ts h i b g n cap vt m hi k hk u
 case' Z|Y=>obtain⟨fp,⟨rfl,hp⟩,_,A4⟩:=h.get i hi;have hm:g∈qh b (.slice (some ⟨g,0,none⟩) n cap) vt:=gM.2 (.inr (.inl rfl));have u9:=hp.TR g rfl;have yv:=hp.WM g rfl
 case' Z=>refine A4 _ _ _ ⟨rfl,?_⟩ (((Fr.refl _ w).setCell (.inl hm) _).setCell (.inl hm) _) (λq hq=> .inl hq)
 case' Y=>refine A4 _ _ _ ⟨rfl,?_⟩ ((Fr.refl _ w).setCell (.inl hm) _) (λq hq=> .inl hq)
 case' Z|Y=>have hr:=hp.rc;obtain⟨la,lc,e⟩:=cY hr;simp only[dk]at e;obtain⟨-,rfl,-⟩:=e
 case' Z=>
  refine⟨(hp.ar.oK _ (jk u9)).oK _ (jk u9),?_,bz (bz hp.rt yv _) yv _,hp.TR,hp.C3,hp.WM,by simpa using hp.tY,hp.s8⟩;have h2:=ix (ix hr (k*2) (U u)) (k*2+1) (U v);have e2:((flat uE m.cells).set (k*2) (U u)).set (k*2+1) (U v)=flat uE (m.cells.set k (u,v)):=by
   refine oO fO _ (by simp[ck fO]) λj hj q hq=>?_;rw[cF]at hj;simp only[so];by_cases e:k=j
   ·subst e;rw[aB rfl];rcases(show q=0∨q=1 by omega)with rfl|rfl
    ·rw[dF (by omega),qT,eW (by rw[ck fO];omega)];rfl
    ·rw[eW (by rw[cF,ck fO];omega)];rfl
   ·rw[aq e,dF (by omega),dF (by omega),cI fO _ j hj q hq]
  rw[e2]at h2
 case' Y=>
  refine⟨hp.ar.oK _ (jk u9),?_,bz hp.rt yv _,hp.TR,hp.C3,hp.WM,by simpa using hp.tY,hp.s8⟩;have h2:=ix hr (k*2) (U u);have e2:(flat uE m.cells).set (k*2) (U u)=flat uE (m.cells.set k (u,(m.at k).2)):=by
   refine oO fO _ (by simp[ck fO]) λj hj q hq=>?_;rw[cF]at hj;simp only[so];by_cases e:k=j
   ·subst e;rw[aB rfl];rcases(show q=0∨q=1 by omega)with rfl|rfl
    ·rw[qT,eW (by rw[ck fO];omega)];rfl
    ·rw[dF (by omega),cI fO _ k hj 1 (by decide)];simp[uE,M.at,cO,hj]
   ·rw[aq e,dF (by omega),cI fO _ j hj q hq]
  rw[e2]at h2
 case' Z|Y=>simpa using h2
def EA:=@zq3.1
def OC:=@zq3.2
def qk {w0 w Ts}(h:Sep w0 w Ts)(i){b vc vt m}(hi:Ts[i]?=some (yq b vc vt m)){k}(hk:k<8)(u):
 Sep w0 (w.setCell ⟨b,k+1,none⟩ (I u)) (Ts.set i (yq b vc vt {m with steps:=m.steps.set k u})):=by
 obtain⟨fp,⟨rfl,hp⟩,_,A4⟩:=h.get i hi;have hm:b∈qh b vc vt:=gM.2 (.inl rfl);refine A4 _ _ _ ⟨rfl,?_⟩ ((Fr.refl _ w).setCell (.inl hm) _) (λq hq=> .inl hq);refine⟨?_,bz hp.rc (λe=>hp.TR b e rfl) _,bz hp.rt (λe=>hp.C3 b e rfl) _,hp.TR,hp.C3,hp.WM,hp.tY,by simp[hp.s8]⟩;have:=hp.ar.set (k+1) (I u);have e:(kP vc vt m).set (k+1) (I u)=kP vc vt {m with steps:=m.steps.set k u}:=by
  unfold kP;rw[aN,uK _ _ (by simp[hp.s8,hk]),kE]
 rw[e]at this;exact this
def ot {w0 w w' Ts}(h:Sep w0 w Ts)(i){b vc vt OD m}(hi:Ts[i]?=some (yq b vc vt m)){n}{e:Ev}
 (ho:w'.ownsRow 0 86 10 OD n (flat kO m.trace++kO e))(hn:n=m.trace.length+1)(hg:w.grownBy w' vt.ownBlock)(hb:∀g,OD.ownBlock=some g→vt.ownBlock=some g∨w.heap.size≤g):
 Sep w0 (w'.setCell ⟨b,9,none⟩ OD) (Ts.set i (yq b vc OD {m with trace:=m.trace++[e]})):=by
 obtain⟨fp,⟨rfl,hp⟩,_,A4⟩:=h.get i hi;have hm:b∈qh b vc vt:=gM.2 (.inl rfl);have f:Fr (qh b vc vt) w w':=(Fr.refl _ w).grown hg (λk e=> .inl (gM.2 (.inr (.inr e))));have Ej:=hp.ar.lt;have A5:∀g,OD.ownBlock=some g→g≠b:=λg e u9=>by
  rcases hb g e with h1|h1
  ·exact hp.C3 g h1 u9
  ·omega
 refine A4 _ _ (qh b vc OD) ⟨rfl,?_⟩ (f.setCell (.inl hm) _) (λq hq=>?_)
 ·have f2:Fr vt.ownBlock.toList w w':=(Fr.refl _ w).grown hg (λk e=> .inl (by simp[e]));have j9:=(hp.ar.fr f2 (λJr=>by have:=hp.C3 b (by simpa using Jr);exact this rfl)).set 9 OD;refine⟨?_,bz (cX hp.rc f2 (λk hk Jr=>hp.WM k hk (by simpa using Jr))) (λe=>hp.TR b e rfl) _,?_,hp.TR,A5,?_,hp.tY,hp.s8⟩
  ·have e2:(kP vc vt m).set 9 OD=kP vc OD {m with trace:=m.trace++[e]}:=by
    unfold kP;rw[aN,eD _ _ (by simp[hp.s8])];simp[hp.s8]
   rw[e2]at j9;exact j9
  ·have ho2:=bz ho (a:=⟨b,9,none⟩) (λe=>A5 b e rfl) OD;rw[hn]at ho2;simpa[nh,qf]using ho2
  ·intro k hk e;rcases hb k e with h1|h1
   ·exact hp.WM k hk h1
   ·have:=(oz hp.rc k hk).2;omega
 ·rcases gM.1 hq with rfl|h1|h1
  ·exact .inl hm
  ·exact .inl (gM.2 (.inr (.inl h1)))
  ·rcases hb q h1 with h2|h2
   ·exact .inl (gM.2 (.inr (.inr h2)))
   ·exact .inr h2
def mI(w b vc vt m aw op)(h:gD w b vc vt m):ba 82 #[O b,I aw,.agg #[I op.k,I op.a,U op.ov,U op.os,U op.nv,U op.ns]] w (I (err m.cells.length aw op)):=by
 obtain⟨lc,cc,rfl⟩:=cY h.rc;have c0:=h.c0;have tH:=h.ar.lt;clear h;obtain⟨k,a,ov,os,nv,ns⟩:=op;dsimp only;by_cases h1:aw<0;refine ?Z;rotate_left;refine ?Y
 case' Z=>
  have d1:decide (aw<0)=true:=by simp;omega
  have e:err m.cells.length aw ⟨k,a,ov,os,nv,ns⟩=1:=by unfold err;rw[aB (.inl h1)]
  rw[e];clear e;delta ba;go_in;go_wp2;go_ret
 case' Z=>exact⟨rfl,(Fr.refl [] _).alloc _⟩
 have d1:decide (aw<0)=false:=by simp;omega
 by_cases h2:8≤aw;refine ?X;rotate_left;refine ?J
 case' X=>
  have d2:decide (aw≥8)=true:=by simp;omega
  have e:err m.cells.length aw ⟨k,a,ov,os,nv,ns⟩=1:=by unfold err;rw[aB (.inr h2)]
  rw[e];clear e;delta ba;go_in;go_wp2;go_ret
 case' X=>exact⟨rfl,(Fr.refl [] _).alloc _⟩
 have d2:decide (aw≥8)=false:=by simp;omega
 by_cases h3:k<0;refine ?G;rotate_left;refine ?D
 case' G=>
  have d3:decide (k<0)=true:=by simp;omega
  have e:err m.cells.length aw ⟨k,a,ov,os,nv,ns⟩=32:=by unfold err;rw[aq (by omega),aB (.inl h3)]
  rw[e];clear e;delta ba;go_in;go_wp2;go_ret
 case' G=>exact⟨rfl,(Fr.refl [] _).alloc _⟩
 have d3:decide (k<0)=false:=by simp;omega
 by_cases h4:3<k;refine ?V;rotate_left;refine ?U
 case' V=>
  have d4:decide (k>3)=true:=by simp;omega
  have e:err m.cells.length aw ⟨k,a,ov,os,nv,ns⟩=32:=by unfold err;rw[aq (by omega),aB (.inr h4)]
  rw[e];clear e;delta ba;go_in;go_wp2;go_ret
 case' V=>exact⟨rfl,(Fr.refl [] _).alloc _⟩
 have d4:decide (k>3)=false:=by simp;omega
 by_cases h5:a<0;refine ?g0;rotate_left;refine ?g1
 case' g1=>have d5:decide (a<0)=false:=by simp;omega
 case' g1=>by_cases h6:(m.cells.length:Int)≤a;refine ?g2;rotate_left;refine ?g3
 case' g0=>
  have d5:decide (a<0)=true:=by simp;omega
  have e:err m.cells.length aw ⟨k,a,ov,os,nv,ns⟩=31:=by unfold err;rw[aq (by omega),aq (by dsimp only;omega),aB (.inl h5)]
 case' g2=>
  have d6:decide (a≥(m.cells.length:Int))=true:=by simp;omega
  have e:err m.cells.length aw ⟨k,a,ov,os,nv,ns⟩=31:=by unfold err;rw[aq (by omega),aq (by dsimp only;omega),aB (.inr h6)]
 case' g3=>
  have d6:decide (a≥(m.cells.length:Int))=false:=by simp;omega
  have e:err m.cells.length aw ⟨k,a,ov,os,nv,ns⟩=0:=by unfold err;rw[aq (by omega),aq (by dsimp only;omega),aq (by dsimp only;omega)]
 case' g0|g2|g3=>
  rw[e];clear e;delta ba;go_in;go_wp2_with fail;refine bW [(1,[0,1,2,3,4,5,6,7,8,9,10,11,12,13])] (by kernel_rfl) ?_;simp only[zz];repeat(first|go_big_quiet_step(fail)|apply ax|apply af|apply ag|apply ah)
  refine aj ?_;go_wp2;go_ret
 case' g0|g2|g3=>exact⟨rfl,((Fr.refl [] _).alloc _).drew⟩
