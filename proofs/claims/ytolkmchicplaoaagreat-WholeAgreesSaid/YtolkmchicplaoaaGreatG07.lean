/- A part of the proof. -/
import Derived.Test.YtolkmchicplaoaaGreatG05
import Derived.Test.YtolkmchicplaoaaGreatG06
set_option linter.all false
set_option maxHeartbeats 8000000
set_option maxRecDepth 100000
open Go.Proofs.Tryz
namespace Go.Proofs.YtolkmchicplaoaaGreat
open Go.RowKit Go.aS Go.aS.I_ Go.aS.Y Go.Maps
def qJ {w b}{T:TypeId}{cs}(h:cB w b T cs):(∀j,w.cell? ⟨b,j,none⟩=cs[j]?)∧b<w.heap.size∧∀j,w.frozen? ⟨b,j,none⟩=false:=⟨h.cell,h.lt,h.az⟩
def tL {w b}{T:TypeId}{L}(h:cB w b T L)(o n):w.rangeAt b o ((L.drop o).take n):=λj v hj=>by
 rw[List.getElem?_take]at hj;split at hj
 ·rw[List.getElem?_drop]at hj;exact(h.cell (o+j)).trans hj
 ·cases hj
def aK1 (r1 r3:Int):List Value:=bC [0,r1,0,r3,0,0,0,0,0,0,0,0,0,0,0,0]
def am2 (nb:Nat)(pick:Value)(r1 r3 st wr pc rv:Int)(en:Bool):List Value:=[O nb,U 0,U 0,U 0,U 0,U 0,U r1,U 0,U r3,U 0,U 0,U 0,U 0,U 0,U 0,U 0,U 0,U 0,U 0,U 0,U 0,I 20,pick,I 0,U rv,I st,I wr,.slice none 0 0,I pc,.bool en]
def N6 (mb:Nat)(v:Int):List Value:=[U v,U 0,U 0,U 0,U 0,U 0,U 0,U 0,U 0,U 0,U 0,U 0,U 0,U 0,U 0,U 0,.map (some mb)]
def runT (rb nb mb:Nat)(pick:Value)(r1 r3 st wr pc rv:Int)(en:Bool)(v:Int)(R:List a_):List a_:=aJ rb 188 (am2 nb pick r1 r3 st wr pc rv en)::aJ nb 136 (N6 mb v)::R
def aC1 {w0 w:World}{R:List a_}{rb nb mb:Nat}{pick:Value}{v x:Int}(hS:Sep w0 w (runT rb nb mb pick x 1 4 0 4 0 false v R)):
 jh 150 #[O rb,I 10] w (I 0) w0 (runT rb nb mb pick x 1 4 1 4 0 false v R):=by
 unfold runT am2 N6 at*;have HC:=aa qA;have HS:=aa hS;clear hS;delta jh;go_in;go_wp2_with fail;refine(HC.out _).kk λw1 hf=>?_;have HS:=aa (HS.c_ hf).drew;go_wp2_with fail;obtain⟨hc,hl,hf⟩:=qJ (HS.ar 0 rfl);refine bW [(1,[0,1,2,3,4,5,6,7,8,9,10,11])] (by kernel_rfl) ?_;simp only[zz];repeat(first|go_big_quiet_step(fail)|quiet_step(fail)|apply ax|apply af|apply ag|apply ah)
 refine aj ?_;go_wp2;go_ret;exact⟨rfl,HS.set 0 rfl 26 (I 1)⟩
def zq24:(∀{w0 w R rb nb mb pick v}(hS:Sep w0 w (runT rb nb mb pick 0 0 1 0 1 0 false v R)),jh 123 #[O rb,.agg #[I 9,I 1,I 2,I 0,U 0]] w (I 0) w0 (runT rb nb mb pick v 0 1 0 1 0 false v R))∧(∀{w0 w R rb nb mb pick v x}(hS:Sep w0 w (runT rb nb mb pick x 1 4 0 4 0 false v R)),jh 123 #[O rb,.agg #[I 10,I 1,I 2,I 0,U 0]] w (I 0) w0 (runT rb nb mb pick x 1 4 1 4 0 false x R)):=by
 refine⟨?Z,?Y⟩
 case' Z=>intro w0 w R rb nb mb pick v hS;unfold runT am2 N6 at*;have HS:=aa (hS.new 28 [I 9,I 1,I 2,I 0,U 0])
 case' Y=>intro w0 w R rb nb mb pick v x hS;have HP:=aa (λw' RR=>aC1 (w0:=w0) (w:=w') (R:=RR) (rb:=rb) (nb:=nb) (mb:=mb) (pick:=pick) (v:=v) (x:=x));unfold runT am2 N6 at*;have HS:=aa (hS.new 28 [I 10,I 1,I 2,I 0,U 0])
 case' Z|Y=>
  have HD:=HS.drew;clear hS;obtain⟨hc,hl,hf⟩:=qJ (HD.ar 1 rfl);obtain⟨ic,aR8,-⟩:=qJ (HD.ar 0 rfl);obtain⟨sc,sl,aS6⟩:=qJ (HD.ar 2 rfl);delta jh;go_in;go_wp2_with fail;generalize w.heap.size=bi at*;generalize World.alloc _ _=w5 at*;refine bW [(1,[0,1,2,3,4,5,6,7])] (by kernel_rfl) ?_;simp only[zz];repeat(first|go_big_quiet_step(fail)|apply ax|apply af|apply ag|apply ah)
  refine aj ?_;generalize w5.drew=wd at*;go_wp2_with fail
 case' Z=>have HS:=aa HD.drew;clear hc hl hf ic aR8 sc sl aS6;obtain⟨hc,hl,hf⟩:=qJ (HS.ar 1 rfl);obtain⟨ic,aR8,-⟩:=qJ (HS.ar 0 rfl);obtain⟨sc,sl,aS6⟩:=qJ (HS.ar 2 rfl)
 case' Y=>refine(HP.out _ _ ((HD.pull 2 rfl).pull 2 rfl)).kk λw6 oo=>?_;have HS:=aa oo.drew;clear oo;go_wp2_with fail;clear hc hl hf ic aR8 sc sl aS6;obtain⟨hc,hl,hf⟩:=qJ (HS.ar 0 rfl);obtain⟨ic,aR8,-⟩:=qJ (HS.ar 2 rfl);obtain⟨sc,sl,aS6⟩:=qJ (HS.ar 1 rfl)
 case' Z|Y=>
  refine bW [(1,[0,1,2,3,4,5,6,7,8,9,10,11,12,13,14]),(3,[15])] (by kernel_rfl) ?_;simp only[zz];repeat(first|go_big_quiet_step(fail)|apply ax|apply af|apply ag|apply ah)
  refine ao ?_;go_wp2;refine aj ?_;go_wp2;go_ret
 case' Z=>exact⟨rfl,(HS.set 1 rfl 6 (U v)).tail⟩
 exact⟨rfl,(((HS.set 1 rfl 0 (U x)).pull 2 rfl).tail)⟩
def V2:=@zq24.1
def P8:=@zq24.2
def zq25:(∀{w0 w R rb nb mb pick v}(hS:Sep w0 w (runT rb nb mb pick v 1 5 1 4 0 false v R)),jh 98 #[O rb,.agg #[I 20,I 1,I 0,I 0,U 0]] w (I 0) w0 (runT rb nb mb pick v 1 5 1 5 v true v R))∧(∀{w0 w R rb nb mb pick v}(hS:Sep w0 w (runT rb nb mb pick 0 0 1 0 0 0 false v R)),jh 98 #[O rb,.agg #[I 9,I 1,I 2,I 0,U 0]] w (I 0) w0 (runT rb nb mb pick v 0 1 0 1 0 false v R))∧(∀{w0 w R rb nb mb pick v}(hS:Sep w0 w (runT rb nb mb pick (v+1) 1 4 0 3 0 false v R)),jh 98 #[O rb,.agg #[I 10,I 1,I 2,I 0,U 0]] w (I 0) w0 (runT rb nb mb pick (v+1) 1 4 1 4 0 false (v+1) R)):=by
 refine⟨?Z,?Y,?X⟩
 case' Z=>intro w0 w R rb nb mb pick v hS;unfold runT am2 N6 at*;have HS:=aa (hS.new 28 [I 20,I 1,I 0,I 0,U 0]);obtain⟨hc,hl,hf⟩:=qJ (HS.ar 1 rfl);have HS:=aa (HS.set 1 rfl 28 (I 5))
 case' Y=>intro w0 w R rb nb mb pick v hS;have HK:=aa (λw' RR=>V2 (w0:=w0) (w:=w') (rb:=rb) (nb:=nb) (mb:=mb) (pick:=pick) (v:=v) (R:=RR));unfold runT am2 N6 at*;have HS:=aa (hS.new 28 [I 9,I 1,I 2,I 0,U 0]);obtain⟨hc,hl,hf⟩:=qJ (HS.ar 1 rfl);have HS:=aa (HS.set 1 rfl 28 (I 1))
 case' X=>intro w0 w R rb nb mb pick v hS;have HK:=aa (λw' RR=>P8 (w0:=w0) (w:=w') (rb:=rb) (nb:=nb) (mb:=mb) (pick:=pick) (v:=v) (R:=RR) (x:=v+1));unfold runT am2 N6 at*;have HS:=aa (hS.new 28 [I 10,I 1,I 2,I 0,U 0]);obtain⟨hc,hl,hf⟩:=qJ (HS.ar 1 rfl);have HS:=aa (HS.set 1 rfl 28 (I 4))
 case' Z|Y|X=>have hI:=(HS.ar 0 rfl).range;clear hS;delta jh;go_in;go_wp2_with fail;generalize World.setCell _ _ _=w5 at HS⊢;generalize w.heap.size=bi at HS⊢;clear hc hl hf hI;simp only[zs]at HS
 case' Z=>
  have HD:=HS.drew;obtain⟨hc,hl,hf⟩:=qJ (HD.ar 1 rfl);obtain⟨ic,aR8,-⟩:=qJ (HD.ar 0 rfl);refine bW [(1,[0,2,3,4,5,6,7,8,9,10,11,12]),(0,[1]),(3,[13]),(0,[14,15]),(3,[16])] (by kernel_rfl) ?_;simp only[zz];generalize w5.drew=wd at*;repeat(first|go_big_quiet_step(fail)|apply ax|apply af|apply ag|apply ah)
  refine ao ?_;have HS:=aa ((HD.set 1 rfl 24 (U v)).set 1 rfl 29 (.bool true));go_wp2_with fail;repeat(first|go_big_quiet_step(fail)|apply ax|apply af|apply ag|apply ah)
  refine ao ?_;go_wp2;refine aj ?_;go_wp2;go_ret
 case' Y|X=>refine(HK.out _ _ HS.tail).kh λw1 HS=>?_;go_wp2;go_ret
 case' Z=>exact⟨rfl,HS.tail⟩
 case' Y|X=>exact⟨rfl,HS.out⟩
def P5:=@zq25.1
def V3:=@zq25.2.1
def P9:=@zq25.2.2
def UP {w0 w:World}{R:List a_}{rb nb mb:Nat}{pick:Value}{v:Int}(hv:v=0∨v=1∨v=2)(hS:Sep w0 w (runT rb nb mb pick v 0 2 0 1 0 false v R)):
 jh 98 #[O rb,.agg #[I 0,I 3,I 0,I 0,U 1]] w (I 0) w0 (runT rb nb mb pick v 1 2 0 2 0 false v R):=by
 have HK:Hid (∀w',ba 127 #[.agg #[I 0,I 3,I 0,I 0,U 1],.agg (aK1 v 0).toArray,.agg (bC [0,0,0,0]).toArray] w' (U (1))):=aa (λw'=>fc w' _ _ _ _ _ (1) v 0 0 0 0 0 (.inr (.inl ⟨rfl,rfl,rfl,rfl,rfl⟩)));unfold runT am2 N6 at*;have HS:=aa (hS.new 28 [I 0,I 3,I 0,I 0,U 1]);obtain⟨hc,hl,hf⟩:=qJ (HS.ar 1 rfl);have HS:=aa (HS.set 1 rfl 28 (I 2));have hI:=(HS.ar 0 rfl).range;clear hS;delta jh;go_in;go_wp2_with fail;generalize World.setCell _ _ _=w5 at HS⊢;generalize w.heap.size=bi at HS⊢;clear hc hl hf hI;simp only[zs]at HS;have HD:=HS.drew;obtain⟨hc,hl,hf⟩:=qJ (HD.ar 1 rfl);obtain⟨ic,aR8,-⟩:=qJ (HD.ar 0 rfl);have hr:w5.drew.rangeAt rb 5 (aK1 v 0):=tL (HD.ar 1 rfl) 5 16;have ha:w5.drew.rangeAt rb 1 (bC [0,0,0,0]):=tL (HD.ar 1 rfl) 1 4;refine bW [(1,[0,1,2,3,4,5,6,7,8,9,10,11,13,14]),(2,[12]),(0,[15]),(3,[16])] (by kernel_rfl) ?_;simp only[zz];generalize w5.drew=wd at*;refine af ?_;repeat(first|(refine ak 28 _ bi 0 [I 0,I 3,I 0,I 0,U 1] _ rfl rfl rfl (bL (HD.ar 0 rfl) (by simp)) underlying28 rfl (by kernel_rfl) ?_;simp only[Act.put,aZ,zs])|(refine ak 134 _ rb 5 (aK1 v 0) _ rfl rfl rfl (aG hr (by simp)) underlying134 rfl (by kernel_rfl) ?_;simp only[Act.put,aZ,zs])|(refine ak 36 _ rb 1 (bC [0,0,0,0]) _ rfl rfl rfl (aG ha (by simp)) underlying36 rfl (by kernel_rfl) ?_;simp only[Act.put,aZ,zs])|go_big_quiet_step (fail)|quiet_step (fail))
 refine ax ?_;refine aA ?_;go_wp2_with fail;refine(HK.out _).kk λw7 UT=>?_;have HF:=aa UT;have HS:=aa (HD.c_ UT);go_wp2;refine⟨⟨⟨_,(by exact HF.out)⟩,rfl⟩,?_⟩;repeat(first|go_big_quiet_step(fail)|quiet_step(fail)|apply ax|apply af|apply ag|apply ah)
 clear hc hl hf hr ha ic aR8 HD;obtain⟨hc,hl,hf⟩:=qJ (HS.ar 1 rfl);refine ao ?_;go_wp2;refine aj ?_;go_wp2;go_ret;exact⟨rfl,(HS.set 1 rfl 8 (U 1)).tail⟩
def UW {w0 w:World}{R:List a_}{rb nb mb:Nat}{pick:Value}{v:Int}(hv:v=0∨v=1∨v=2)(hS:Sep w0 w (runT rb nb mb pick v 1 3 0 2 0 false v R)):
 jh 98 #[O rb,.agg #[I 2,I 1,I 1,I 3,U 0]] w (I 0) w0 (runT rb nb mb pick (v+1) 1 3 0 3 0 false v R):=by
 have HK:Hid (∀w',ba 127 #[.agg #[I 2,I 1,I 1,I 3,U 0],.agg (aK1 v 1).toArray,.agg (bC [0,0,0,0]).toArray] w' (U (v+1))):=aa (λw'=>fc w' _ _ _ _ _ (v+1) v 1 0 0 0 0 (.inr (.inr ⟨rfl,rfl,rfl,rfl,by rw[ir];omega⟩)));unfold runT am2 N6 at*;have HS:=aa (hS.new 28 [I 2,I 1,I 1,I 3,U 0]);obtain⟨hc,hl,hf⟩:=qJ (HS.ar 1 rfl);have HS:=aa (HS.set 1 rfl 28 (I 3));have hI:=(HS.ar 0 rfl).range;clear hS;delta jh;go_in;go_wp2_with fail;generalize World.setCell _ _ _=w5 at HS⊢;generalize w.heap.size=bi at HS⊢;clear hc hl hf hI;simp only[zs]at HS;have HD:=HS.drew;obtain⟨hc,hl,hf⟩:=qJ (HD.ar 1 rfl);obtain⟨ic,aR8,-⟩:=qJ (HD.ar 0 rfl);have hr:w5.drew.rangeAt rb 5 (aK1 v 1):=tL (HD.ar 1 rfl) 5 16;have ha:w5.drew.rangeAt rb 1 (bC [0,0,0,0]):=tL (HD.ar 1 rfl) 1 4;refine bW [(1,[0,1,2,3,4,5,6,7,8,9,10,11,13,14]),(2,[12]),(0,[15]),(3,[16])] (by kernel_rfl) ?_;simp only[zz];generalize w5.drew=wd at*;refine af ?_;repeat(first|(refine ak 28 _ bi 0 [I 2,I 1,I 1,I 3,U 0] _ rfl rfl rfl (bL (HD.ar 0 rfl) (by simp)) underlying28 rfl (by kernel_rfl) ?_;simp only[Act.put,aZ,zs])|(refine ak 134 _ rb 5 (aK1 v 1) _ rfl rfl rfl (aG hr (by simp)) underlying134 rfl (by kernel_rfl) ?_;simp only[Act.put,aZ,zs])|(refine ak 36 _ rb 1 (bC [0,0,0,0]) _ rfl rfl rfl (aG ha (by simp)) underlying36 rfl (by kernel_rfl) ?_;simp only[Act.put,aZ,zs])|go_big_quiet_step (fail)|quiet_step (fail))
 refine ax ?_;refine aA ?_;go_wp2_with fail;refine(HK.out _).kk λw7 UT=>?_;have HF:=aa UT;have HS:=aa (HD.c_ UT);go_wp2;refine⟨⟨⟨_,(by exact HF.out)⟩,rfl⟩,?_⟩;repeat(first|go_big_quiet_step(fail)|quiet_step(fail)|apply ax|apply af|apply ag|apply ah)
 clear hc hl hf hr ha ic aR8 HD;obtain⟨hc,hl,hf⟩:=qJ (HS.ar 1 rfl);refine ao ?_;go_wp2;refine aj ?_;go_wp2;go_ret;exact⟨rfl,(HS.set 1 rfl 6 (U (v+1))).tail⟩
def UU {w0 w R sb roots}(hS:Sep w0 w (rA sb roots::R)):
 ∃F:List Nat,(∀(i b:Nat) (ty:TypeId) (cs:List Value),R[i]?=some (aJ b ty cs)→b∉F)∧Calls Tryz.prog 97 #[O sb] w λr w'=>∃nb,r= .returned (O nb)∧Sep w0 w' (rA nb roots::rA sb roots::R)∧Fr F w w':=by
 obtain⟨F,S6,S7⟩:=uj (T':=λnb=>cM [rA nb roots,rA sb roots]) (A:=λnb e=>e= .returned (O nb)) hS (λRR h=>(Ht h).mono λe w' hr=>by
  obtain⟨v',h1,h2⟩:=hr;exact⟨v',h1,Sep.toList (Ts:=[_,_]) h2⟩)
 exact⟨F,S6,S7.mono λe w' hr=>by
  obtain⟨a,h1,h2,h3⟩:=hr;exact⟨a,h1,Sep.ofList (Ts:=[_,_]) h2,h3⟩⟩
def aM1 (v:Int):Nat→Int|0=>0|1=>v|2=>v|_=>v+1
def aM2:Nat→Int|0=>0|1=>0|_=>1
def aM3:Nat→Int|0=>0|1=>0|2=>0|3=>0|_=>1
def aM4 (v:Int):Nat→Int|5=>v+1|_=>0
def aM5:Nat→Bool|5=>true|_=>false
def aM6 (v:Int):Nat→Int|0=>v|1=>v|2=>v|3=>v|_=>v+1
def JT {w0 w R rb nb mb pick v}(hv:v=0∨v=1∨v=2):∀{k:Nat} (hk:k<countP.length),Sep w0 w (runT rb nb mb pick (aM1 v k) (aM2 k) ((k:Int)+1) (aM3 k) k 0 false (aM6 v k) R)→
 Calls Tryz.prog 98 #[O rb,.agg (gl countP[k]).toArray] w λe w'=>e= .returned (I 0)∧Sep w0 w' (runT rb nb mb pick (aM1 v (k+1)) (aM2 (k+1)) ((k:Int)+1) (aM3 (k+1)) ((k:Int)+1) (aM4 v (k+1)) (aM5 (k+1)) (aM6 v (k+1)) R)
 |0,_,h=>V3 h
 |1,_,h=>UP hv h
 |2,_,h=>UW hv h
 |3,_,h=>P9 h
 |4,_,h=>P5 h
def z3 (v:Int):List Int:=[v,0,0,0,0,0,0,0,0,0,0,0,0,0,0,0]
def aw4 (rv st wr:Int):List Value:=[I 0,U rv,I st,I wr,.slice none 0 0]
def L2 {w0 w:World}{R:List a_}{sb:Nat}{v:Int}(hv:v=0∨v=1∨v=2){pa:Option Addr}{pn Zb:Nat}{ca:Option Addr}{cc:Nat}(hC:∀w',Sep w0 w' R→dJ w' (.slice ca 5 cc) countP)(hS:Sep w0 w (rA sb (z3 v)::R)):
 jh 66 #[O sb,.slice ca 5 cc,.agg #[U 0,U 0,U 0,U 0],I 50,I 20,.slice pa pn Zb] w (.agg (aw4 (v+1) 5 1).toArray) w0 (rA sb (z3 (v+1))::R):=by
 have NQ:=aa (λw' h=>lp w' ca 5 cc countP rfl (.inr (.inl rfl)) (hC w' h));rw[show right countP=true by decide]at NQ;have HC:=aa (λw' (h:Sep w0 w' R) (k:Nat) (hk:k<countP.length)=>dB.at (hC w' h).1 hk);have mX:=aa (fun(w':World) RR rb nb mb=>@JT w0 w' RR rb nb mb (.slice pa pn Zb) v hv);have HS:=aa ((hS.new 36 [U 0,U 0,U 0,U 0]).new 150 (aw4 0 0 0));clear hS hC;simp only[cG]at HS;delta jh;go_in;go_wp2_with fail;refine(NQ.out _ HS.tail.tail.tail).kq HS λw1 HS=>?_;clear NQ;generalize w.heap.size=bi at*;go_wp2_with fail;have HS:=aa (HS.pull 2 rfl).drew;simp only[ze]at HS;obtain⟨FP,S6,S7⟩:=UU HS.out;have oR:=S6 1 bi _ _ rfl;have Xb:=aa S7;clear S6 S7;have W_:=(HS.ar 2 rfl).range;refine dq [(1,[0,2,3,4]),(2,[1]),(0,[5]),(3,[6]),(0,[7])] FP (by kernel_rfl) (by kernel_rfl) ?_;simp only[zz];refine af ?_;repeat(first|(refine ak 36 _ bi 0 [U 0,U 0,U 0,U 0] _ rfl rfl rfl (aG W_ oR) underlying36 rfl (by kernel_rfl) ?_;simp only[Act.put,aZ,zs])|go_big_quiet_step (fail)|quiet_step (fail))
 refine ax ?_;refine aA ?_;go_wp2_with fail;refine Xb.out.mono ?_;rintro r w2 ⟨nb,rfl,h1,hf⟩;have HF:=aa hf;have HS:=aa h1;clear h1 hf;go_wp2;refine⟨⟨⟨_,(by exact HF.out)⟩,rfl⟩,?_⟩;clear HF Xb W_ oR;repeat(first|go_big_quiet_step(fail)|quiet_step(fail)|apply ax|apply af|apply ag|apply ah)
 refine ao ?_;go_wp2_with fail;repeat(first|go_big_quiet_step(fail)|quiet_step(fail)|apply ax|apply af|apply ag|apply ah)
 refine aj ?_;obtain⟨mb,-,h4⟩:=lQ HS.out;have HS:=aa (h4.new 188 (am2 nb (.slice pa pn Zb) 0 0 0 0 0 0 false));clear h4;unfold am2 at HS;go_wp2_with fail;generalize World.alloc _ _=w5 at HS⊢;generalize w2.heap.size=rb at HS⊢;go_loopg [14] 6 (λg v14 wr=>∃k:Nat,g+k=6∧k≤5∧Sep w0 wr (runT rb nb mb (.slice pa pn Zb) (aM1 v k) (aM2 k) k (aM3 k) k (aM4 v k) (aM5 k) (aM6 v k) (S2 mb::rA sb (z3 v)::aJ (bi+1) 150 (aw4 0 0 0)::aJ bi 36 [U 0,U 0,U 0,U 0]::R)))
 case atStart=>exact⟨0,rfl,by omega,HS.out⟩
 case round=>
  clear HS;obtain⟨k,hg,hk5,hS⟩:=hrel;by_cases hk:k<5
  ·have he:aM5 k=false∧aM4 v k=0:=by rcases(show k=0∨k=1∨k=2∨k=3∨k=4 by omega)with rfl|rfl|rfl|rfl|rfl<;>exact⟨rfl,rfl⟩
   rw[he.1,he.2]at hS;have h5:=hS;unfold runT am2 at h5;have dS:=aa (h5.set 0 rfl 25 (I ((k:Int)+1)));obtain⟨hc,hl,hf⟩:=qJ (h5.ar 0 rfl);have hw:IntKind.i64.wrap ((k:Int)+1)=(k:Int)+1:=bf _ (by omega) (by omega);have HT:=aa (λw' RR=>mX.out w' RR rb nb mb (k:=k) hk);obtain⟨xa,rfl,uI,c0,c1⟩:=HC.out _ dS.tail.tail.tail.tail.tail.tail k hk;clear h5 hS;generalize countP[k]'hk=ci at*;obtain⟨op,ia,ib,ic,im⟩:=ci;unfold gl at c0 c1 HT;dsimp only at c0 c1 HT;have e0:=c0 _ rfl;have e1:=c1 0 _ rfl;have e2:=c1 1 _ rfl;have e3:=c1 2 _ rfl;have e4:=c1 3 _ rfl;clear c0 c1;have rX:(k:Int)<5:=by omega
   go_wp2_with fail;refine(HT.out _ _ dS.out).kk λw9 h9=>?_;have HS:=aa h9;go_wp2;go_roundg (5-k)
   case measure=>omega
   case rel=>exact⟨k+1,by omega,by omega,HS.out⟩
  ·obtain rfl:k=5:=by omega
   have hS:Sep w0 wr (runT rb nb mb (.slice pa pn Zb) (v+1) 1 5 1 5 (v+1) true (v+1) _):=hS;unfold runT am2 at hS;obtain⟨mb3,-,h2⟩:=lQ (hS.pull 3 rfl);simp only[ze]at h2;have HS:=aa h2;obtain⟨hc,hl,hf⟩:=qJ (h2.ar 2 rfl);have sc:∀j,wr.cell? ⟨nb,j,none⟩=(Bf mb (z3 (v+1)))[j]?:=(h2.ar 3 rfl).cell;have sl:=(h2.ar 3 rfl).lt;unfold Bf z3 at sc;simp only[zm,za]at sc;clear h2 hS;go_wp2_with(first|(refine aC HS.out 0 rfl (Bf mb (z3 (v+1))) 136 _ _ rfl rfl rfl rfl rfl (by kernel_rfl) P3 (λwB hA _=>?_);simp only[zs]at hA;have HS:=aa hA;clear hc hl hf sc sl;obtain⟨hc,hl,hf⟩:=qJ (hA.ar 2 rfl);clear hA)|(refine aC HS.out 5 rfl (aw4 (v+1) 5 1) 150 _ _ rfl rfl rfl rfl rfl (by kernel_rfl) (by simp[aw4,Value.oneCell']) (λwA hA _=>?_);simp only[zs]at hA;have HS:=aa hA;clear hA));refine aV (uO (P:=Tryz.prog) rfl _ _ (bi+1) 150 (aw4 (v+1) 5 1).toArray (0,0) _ rfl (HS.ar 5 rfl) underlying150 rfl (by kernel_rfl)) rfl ?_;exact⟨rfl,pX rfl (((((HS.pull 6 rfl).tail.pull 5 rfl).tail.pull 3 rfl).tail.pull 2 rfl).tail.pull 1 rfl).tail⟩
end Go.Proofs.YtolkmchicplaoaaGreat
namespace Go.Proofs.YtolkmchicplaoaaGreat
open Go.RowKit Go.aS Go.aS.I_ Go.aS.Y
def U0 {w:World}{b:Nat}{T:TypeId}{H:List Value}{x y:Int}{t:List Value}(hH:H.length=35)(h:cB w b T (H++(sT x y++t))):w.rangeAt b 35 (sT x y):=λj u hj=>by
 have zM:j<16:=(dE.1 hj).1;have:=dM hH h j;rw[gm (show j<(sT x y).length from zM),fN]at this;exact this.trans hj
def U3 {w:World}{b:Nat}{T:TypeId}{cs H t:List Value}{cv:Value}{args:List Int}{vb pb sb:Nat}(hE:EH cs cv args vb pb sb H)(ha:args.length=4)(h:cB w b T (H++t)):w.rangeAt b 25 (bC args):=λj u hj=>by
 have zM:j<4:=by have:=(dE.1 hj).1;unfold bC at this;rw[dD,ha]at this;exact this
 exact(fE hE.len h (by omega)).trans ((hE.args j zM).trans hj)
def cV (c:cA)(a0:Int)(i:In)(m:ah9)(v:Vw.V)(ws:W.S):ah9×Vw.V×W.S:=
 if i.op=9 then(⟨if(W.get ws (X.zR c)).2 then(W.get ws (X.zR c)).1 else m.x,m.y,m.pc+1,m.st+1,m.wr,if(W.get ws (X.zR c)).2 then m.wt else true,i,m.s,m.rc,m.rv⟩,if(W.get ws (X.zR c)).2 then v else Vw.cell (X.zR c) v,ws)
 else if i.op=18 then({m with st:=m.st+1,i:=i,pc:=if m.x=0 then 3 else m.pc+1},v,ws)
 else if i.op=20 then(⟨m.x,m.y,m.pc+1,m.st+1,m.wr,m.wt,i,1,0,m.x⟩,v,ws)
 else if i.op=8 then(⟨a0,m.y,m.pc+1,m.st+1,m.wr,m.wt,i,m.s,m.rc,m.rv⟩,v,ws)
 else if i.op=0 then(⟨m.x,1,m.pc+1,m.st+1,m.wr,m.wt,i,m.s,m.rc,m.rv⟩,v,ws)
 else if i.op=2 then(⟨IntKind.u64.wrap (m.x+m.y),m.y,m.pc+1,m.st+1,m.wr,m.wt,i,m.s,m.rc,m.rv⟩,v,ws)
 else(⟨m.x,m.y,m.pc+1,m.st+1,m.wr+1,m.wt,i,m.s,m.rc,m.rv⟩,v,P.cU ws (X.zR c) m.x)
def Ml {w0 w:World}{R:List a_}{c:cA}(aE:Y.Ok c){aw seq:Int}{b vb pb sb:Nat}{cv:Value}{a0 a1 a2 a3:Int}{H:List Value}(hE:EH (ae c) cv [a0,a1,a2,a3] vb pb sb H){m:ah9}{v:Vw.V}{p:P.St}{ws:W.S}{code:List In}(hC:∀w',Sep w0 w' R→dJ w' cv code)(kp:Nat)(fu:kp<code.length)(hc8:code.length≤8)(h7:code[kp]∈ag4)(gx:m.st<c.f)(wK:0≤m.st)(tp:0≤m.wr)(hw:m.wr<c.w)(Hz:m.pc=kp)(hd:ws.done.length≤1000000)(hS:Sep w0 w (lP c aw seq b vb pb sb H m v p ws++R)):
 bR 175 #[O b] w w0 (lP c aw seq b vb pb sb H (cV c a0 code[kp] m v ws).1 (cV c a0 code[kp] m v ws).2.1 p (cV c a0 code[kp] m v ws).2.2++R):=by
 suffices key:∀Q:World→Prop,(∀w',Sep w0 w' (lP c aw seq b vb pb sb H (cV c a0 code[kp] m v ws).1 (cV c a0 code[kp] m v ws).2.1 p (cV c a0 code[kp] m v ws).2.2++R)→Q w')→Calls Tryz.prog 175 #[O b] w λr w'=>r=E∧Q w' from key _ (λ_ h=>h)
 intro Q hQ;obtain⟨x,y,pc,st,wr,wt,i,s,rc,rv⟩:=m;dsimp only at gx wK tp hw Hz;subst Hz;have J0:=aE.zj;have Z5:decide (c.f≤st)=false:=by simpa using gx
 have sr:decide (st≥c.f)=false:=Z5;have aa7:st≤1000:=by omega
 have HOK:=aa aE;unfold lP iC at hS;simp only[za]at hS;have HS:=aa hS;have nG:=hC w hS.tail.tail.tail.tail;obtain⟨ca,cc,eT⟩:∃ca cc,cv= .slice ca code.length cc:=nG.1.len;have HC:Hid (∀w',Sep w0 w' R→∃xa:Addr,ca=some xa∧xa.block<w'.heap.size∧(∀u,(gl code[kp])[0]?=some u→w'.cell? (xa.add (kp*5))=some u)∧∀j u,(gl code[kp])[j+1]?=some u→w'.cell? ⟨(xa.add (kp*5)).block,(xa.add (kp*5)).off+(j+1),none⟩=some u):=aa (λw' hR=>dB.at (a:=ca) (m:=code.length) (cap:=cc) (by rw[←eT];exact(hC w' hR).1) fu);have rX:(kp:Int)<(code.length:Int):=by omega
 have hk8:(kp:Int)≤7:=by omega
 generalize code[kp]=ci at*;obtain⟨n,hn⟩:∃n,code.length=n:=⟨_,rfl⟩;rw[hn]at rX eT;obtain⟨op,ia,ib,ic,im⟩:=ci;unfold gl at HC;dsimp only at HC;have BL:=aa (λw' RR hS=>L_ (w0:=w0) (w:=w') (R:=RR) aE (aw:=aw) (seq:=seq) (b:=b) hE (x:=x) (y:=y) (pc:=(kp:Int)+1) (st:=st+1) (wr:=wr) (wt:=wt) (s:=s) (rc:=rc) (rv:=rv) (v:=v) (p:=p) (ws:=ws) hS);have UX:=aa (λw' RR hS=>Ma (w0:=w0) (w:=w') (R:=RR) aE (aw:=aw) (seq:=seq) (b:=b) hE (x:=x) (y:=y) (pc:=(kp:Int)+1) (st:=st+1) (wr:=wr) (wt:=wt) (s:=s) (rc:=rc) (rv:=rv) (v:=v) (p:=p) (ws:=ws) tp hw hd hS);unfold lP iC at BL UX;unfold i9 at BL;simp only[za]at BL UX;unfold lP at hQ;have HQ:=aa hQ;have HE:=aa hE;have ts:=aa eT;clear hS nG hC fu hc8 hn hQ hE eT gx;have hE:=HE.out;have aD:(ae c).length=24:=rfl;have gF:=aa (λw=>bM w c);have fS:=aa (λw=>eS c w);unfold aY at*;generalize fB:db c=cf at*;clear fB;generalize ae c=cs at*
 (try delta bR);go_in
 go_wp2_with fail;have hB:=(HS.ar 0 rfl).drew;have f:=dM hE.len hB;have fl:=hB.lt;refine bW [(1,[0,1,2,3,4,5,6,7]),(2,[8]),(0,[9,10])] (by kernel_rfl) ?_;simp only[zz];refine af ?_;repeat(first|(refine ak 58 _ b 0 cs _ rfl rfl rfl (aG (dw aD hE hB) (by simp)) underlying58 rfl (by rw[aD];kernel_rfl) ?_;simp only[Act.put,aZ,aL,aN])|go_big_quiet_step (fail)|quiet_step (fail))
 refine ax ?_;refine aA ?_;go_wp2_with fail;refine(gF.out _).kf HS.dr λw2 HF HS=>?_;go_wp2;refine⟨⟨⟨_,(by exact HF.out)⟩,rfl⟩,?_⟩;have kB:=λw=>(fS.out w).2.2;repeat(first|go_big_quiet_step(fail)|quiet_step(fail)|apply ax|apply af|apply ag|apply ah)
 refine aj ?_;clear kB hB f fl HF;have hB:=HS.ar 0 rfl;have f:=dM hE.len hB;have uu:=hB.az 52;have fl:=hB.lt;have eH:=aa (HS.set 0 rfl 52 (I (st+1)));simp only[zs,gd hE.len]at eH;clear hB;go_wp2_with fail;have HS:=eH;clear eH f uu fl Z5 sr;generalize World.setCell _ _ _=w3 at HS⊢;have hB:=(HS.ar 0 rfl).drew;have f24:=(fE hE.len hB (by decide)).trans hE.code;have f:=dM hE.len hB;have fl:=hB.lt;rw[ts.out]at f24;obtain⟨xa,rfl,uI,c0,c1⟩:=HC.out _ HS.drew.tail.tail.tail.tail;have d0:=c0 _ rfl;have d1:=c1 0 _ rfl;have d2:=c1 1 _ rfl;have d3:=c1 2 _ rfl;have d4:=c1 3 _ rfl;clear c0 c1;refine bW [(1,[0,1,2,3,4,5,6,7,8,9]),(2,[10]),(3,[11])] (by kernel_rfl) ?_;simp only[zz];repeat(first|go_big_quiet_step(fail)|quiet_step(fail)|apply ax|apply af|apply ag|apply ah)
 refine aA ?_;go_wp2_with fail;have nW:=(Fr.refl [] w3.drew).alloc (.cells #[I 0,I 0,I 0,I 0,U 0] 28);refine⟨⟨⟨_,(by exact nW)⟩,rfl⟩,?_⟩;have js:=HS.drew.new 28 [I 0,I 0,I 0,I 0,U 0];rw[show w3.drew.heap.size=w3.heap.size from rfl]at js;have HS:=aa js;clear js nW hB f24 f fl d0 d1 d2 d3 d4 HC;have uv:∀z9∈ [I op,I ia,I ib,I ic,U im],z9.oneCell'=true:=by simp[Value.oneCell']
 repeat(first|go_big_quiet_step(fail)|quiet_step(fail)|apply ax|apply af|apply ag|apply ah)
 refine ao ?_;refine aC HS.out 0 rfl [I op,I ia,I ib,I ic,U im] 28 _ _ rfl rfl rfl rfl rfl (by kernel_rfl) uv (λwA hA _=>?_);simp only[aL]at hA;have HS:=aa hA;clear hA;go_wp2;refine aj ?_;have hI:=HS.ar 0 rfl;have k0:=hI.cell 0;have k1:=hI.cell 1;have k2:=hI.cell 2;have k3:=hI.cell 3;have k4:=hI.cell 4;have aR8:=hI.lt;simp only[zg]at k0 k1 k2 k3 k4;have hB:=(HS.ar 1 rfl);have f:=dM hE.len hB;have zZ:=hB.az;have fl:=hB.lt;have pg:¬b=w3.heap.size:=λe=>HS.ne 1 0 rfl rfl (by decide) e;have h3:=(((((HS.set 1 rfl 55 (I op)).set 1 rfl 56 (I ia)).set 1 rfl 57 (I ib)).set 1 rfl 58 (I ic)).set 1 rfl 59 (U im)).set 1 rfl 51 (I ((kp:Int)+1));simp only[zs,gd hE.len]at h3;have HS:=aa h3;clear h3 hB hI;unfold ag4 at h7;simp only[oG,In.mk.injEq,uP,or_false]at h7;rcases h7 with⟨rfl,rfl,rfl,rfl,rfl⟩|⟨rfl,rfl,rfl,rfl,rfl⟩|⟨rfl,rfl,rfl,rfl,rfl⟩|h7
 ·
   have hq:=HQ.out;unfold cV iC at hq;simp only[Int.reduceEq,reduceIte,za]at hq;have HQ:=aa hq;clear hq;have k6:Hid (Sep w0 _ ([aJ b _ _,_,_,_]++aJ w3.heap.size 28 _::R)):=aa (Sep.kz (A:=[_,_,_,_]) HS.out);go_wp2_with fail;refine(BL.out _ _ k6.out).kk λw5 h1=>?_;have yZ:=aa (Sep.tail (Sep.pull h1 4 rfl));clear h1;go_wp2;go_end0;exact⟨rfl,HQ.out _ yZ.out⟩
 ·
   have hq:=HQ.out;unfold cV iC at hq;simp only[Int.reduceEq,reduceIte,za]at hq;have HQ:=aa hq;clear hq;have k6:Hid (Sep w0 _ ([aJ b _ _,_,_,_]++aJ w3.heap.size 28 _::R)):=aa (Sep.kz (A:=[_,_,_,_]) HS.out);go_wp2_with fail;generalize World.setCell _ _ _=w5 at k6⊢;clear k0 k1 k2 k3 k4 aR8 f zZ fl;have hB:=(k6.ar 0 rfl).drew;have hI:=(k6.ar 4 rfl).drew;have k0:=hI.cell 0;have k1:=hI.cell 1;have aR8:=hI.lt;have f:=dM hE.len hB;have fl:=hB.lt;simp only[zg]at k0 k1;refine bW [(1,[0,1,2,3,4,5,6,7,8,9,10,11])] (by kernel_rfl) ?_;simp only[zz];repeat(first|go_big_quiet_step(fail)|quiet_step(fail)|apply ax|apply af|apply ag|apply ah)
   refine aj ?_;clear k0 k1 aR8 f fl hB hI;by_cases hx:x=0
   ·subst hx;rw[aB rfl]at HQ;have hI:=(k6.ar 4 rfl).drew;have k4:=hI.cell 4;have aR8:=hI.lt;have hB:=(k6.ar 0 rfl).drew;have zZ:=hB.az 51;have f:=dM hE.len hB;have fl:=hB.lt;simp only[zg]at k4;have h4:=k6.drew.set 0 rfl 51 (I 3);simp only[CR,zs,gd hE.len]at h4;have NR:=aa h4;clear h4 hB hI;go_wp2;go_end0;exact⟨rfl,HQ.out _ (Sep.tail (Sep.pull NR.out 4 rfl))⟩
   ·have ex:(x==0)=false:=by simpa using hx
    go_wp2;go_end0;rw[aq hx]at HQ;exact⟨rfl,HQ.out _ (Sep.tail (Sep.pull k6.drew 4 rfl))⟩
 ·
   have hq:=HQ.out;unfold cV iC at hq;simp only[Int.reduceEq,reduceIte,za]at hq;have HQ:=aa hq;clear hq;have k6:Hid (Sep w0 _ ([aJ b _ _,_,_,_]++aJ w3.heap.size 28 _::R)):=aa (Sep.kz (A:=[_,_,_,_]) HS.out);go_wp2_with fail;generalize World.setCell _ _ _=w5 at k6⊢;clear k0 k1 k2 k3 k4 aR8 f zZ fl;have hB:=(k6.ar 0 rfl).drew;have hI:=(k6.ar 4 rfl).drew;have k1:=hI.cell 1;have aR8:=hI.lt;have f:=dM hE.len hB;have UY:=hB.az 60;have fl:=hB.lt;simp only[zg]at k1;have sk:=aa (k6.drew.set 0 rfl 60 (I 1));simp only[CR,zs,gd hE.len]at sk;refine bW [(1,[0,2,3,4,5,6,7,8,10,11]),(0,[1,9]),(3,[12]),(0,[13,14]),(3,[15])] (by kernel_rfl) ?_;simp only[zz];repeat(first|go_big_quiet_step(fail)|quiet_step(fail)|apply ax|apply af|apply ag|apply ah)
   refine ao ?_;go_wp2_with fail;clear k1 aR8 f UY fl hB hI;have Cd:Sep w0 ((w5.setCell ⟨b,60,none⟩ (I 1)).drew) _:=sk.out;generalize(w5.setCell ⟨b,60,none⟩ (I 1)).drew=w6 at Cd⊢;have hB:=Cd.ar 0 rfl;have f:=dM hE.len hB;have g61:=hB.az;have fl:=hB.lt;have h4:=(Cd.set 0 rfl 61 (I 0)).set 0 rfl 62 (U x);simp only[zs,gd hE.len]at h4;have NR:=aa h4;clear h4 hB sk Cd;repeat(first|go_big_quiet_step(fail)|quiet_step(fail)|apply ax|apply af|apply ag|apply ah)
   refine ao ?_;go_wp2;refine aj ?_;go_wp2;go_end0;exact⟨rfl,HQ.out _ (Sep.tail (Sep.pull NR.out 4 rfl))⟩
 ·rcases h7 with⟨rfl,rfl,rfl,rfl,rfl⟩|⟨rfl,rfl,rfl,rfl,rfl⟩|⟨rfl,rfl,rfl,rfl,rfl⟩|⟨rfl,rfl,rfl,rfl,rfl⟩
  ·
    have hq:=HQ.out;unfold cV iC at hq;simp only[Int.reduceEq,reduceIte,za]at hq;have HQ:=aa hq;clear hq;have k6:Hid (Sep w0 _ ([aJ b _ _,_,_,_]++aJ w3.heap.size 28 _::R)):=aa (Sep.kz (A:=[_,_,_,_]) HS.out);have H_:=aa (λw' a=>fc w' _ a _ _ _ (a0) x y a0 a1 a2 a3 (.inl ⟨rfl,rfl,rfl,rfl,rfl⟩));go_wp2_with fail;generalize World.setCell _ _ _=w5 at k6⊢;clear k0 k1 k2 k3 k4 aR8 f zZ fl;have hB:=(k6.ar 0 rfl).drew;have hI:=(k6.ar 4 rfl).drew;have k1:=hI.cell 1;have aR8:=hI.lt;have f:=dM hE.len hB;have fl:=hB.lt;simp only[zg]at k1;have P4:=U0 (x:=x) (y:=y) hE.len hB;have W_:=U3 hE rfl hB;unfold sT at P4;unfold bC at W_;simp only[zm]at W_;refine bW [(1,[0,1,2,3,4,5,6,7,8,9,10,11,13,14]),(2,[12]),(0,[15]),(3,[16])] (by kernel_rfl) ?_;simp only[zz];refine af ?_;repeat(first|(refine ak 28 _ w3.heap.size 0 _ _ rfl rfl rfl (bL hI (by simp)) underlying28 rfl (by kernel_rfl) ?_;simp only[Act.put,aZ,zs])|(refine ak 134 _ b 35 _ _ rfl rfl rfl (aG P4 (by simp)) underlying134 rfl (by kernel_rfl) ?_;simp only[Act.put,aZ,zs])|(refine ak 36 _ b 25 _ _ rfl rfl rfl (aG W_ (by simp)) underlying36 rfl (by kernel_rfl) ?_;simp only[Act.put,aZ,zs])|go_big_quiet_step (fail)|quiet_step (fail))
    refine ax ?_;refine aA ?_;go_wp2_with fail;refine(H_.out _ _).kf k6.dr λw7 HF k6=>?_;go_wp2;refine⟨⟨⟨_,(by exact HF.out)⟩,rfl⟩,?_⟩;repeat(first|go_big_quiet_step(fail)|quiet_step(fail)|apply ax|apply af|apply ag|apply ah)
    clear hB hI k1 aR8 f fl P4 W_ HF;have hB:=(k6.ar 0 rfl);have f:=dM hE.len hB;have UR:=hB.az 36;have fl:=hB.lt;have h5:=k6.set 0 rfl 36 (U (a0));simp only[CR,zs,gd hE.len]at h5;have sk:=aa h5;clear h5 hB;refine ao ?_;go_wp2;refine aj ?_;go_wp2;go_end0;exact⟨rfl,HQ.out _ (Sep.tail (Sep.pull sk.out 4 rfl))⟩
  ·
    have hq:=HQ.out;unfold cV iC at hq;simp only[Int.reduceEq,reduceIte,za]at hq;have HQ:=aa hq;clear hq;have k6:Hid (Sep w0 _ ([aJ b _ _,_,_,_]++aJ w3.heap.size 28 _::R)):=aa (Sep.kz (A:=[_,_,_,_]) HS.out);have H_:=aa (λw' a=>fc w' _ a _ _ _ (1) x y a0 a1 a2 a3 (.inr (.inl ⟨rfl,rfl,rfl,rfl,rfl⟩)));go_wp2_with fail;generalize World.setCell _ _ _=w5 at k6⊢;clear k0 k1 k2 k3 k4 aR8 f zZ fl;have hB:=(k6.ar 0 rfl).drew;have hI:=(k6.ar 4 rfl).drew;have k1:=hI.cell 1;have aR8:=hI.lt;have f:=dM hE.len hB;have fl:=hB.lt;simp only[zg]at k1;have P4:=U0 (x:=x) (y:=y) hE.len hB;have W_:=U3 hE rfl hB;unfold sT at P4;unfold bC at W_;simp only[zm]at W_;refine bW [(1,[0,1,2,3,4,5,6,7,8,9,10,11,13,14]),(2,[12]),(0,[15]),(3,[16])] (by kernel_rfl) ?_;simp only[zz];refine af ?_;repeat(first|(refine ak 28 _ w3.heap.size 0 _ _ rfl rfl rfl (bL hI (by simp)) underlying28 rfl (by kernel_rfl) ?_;simp only[Act.put,aZ,zs])|(refine ak 134 _ b 35 _ _ rfl rfl rfl (aG P4 (by simp)) underlying134 rfl (by kernel_rfl) ?_;simp only[Act.put,aZ,zs])|(refine ak 36 _ b 25 _ _ rfl rfl rfl (aG W_ (by simp)) underlying36 rfl (by kernel_rfl) ?_;simp only[Act.put,aZ,zs])|go_big_quiet_step (fail)|quiet_step (fail))
    refine ax ?_;refine aA ?_;go_wp2_with fail;refine(H_.out _ _).kf k6.dr λw7 HF k6=>?_;go_wp2;refine⟨⟨⟨_,(by exact HF.out)⟩,rfl⟩,?_⟩;repeat(first|go_big_quiet_step(fail)|quiet_step(fail)|apply ax|apply af|apply ag|apply ah)
    clear hB hI k1 aR8 f fl P4 W_ HF;have hB:=(k6.ar 0 rfl);have f:=dM hE.len hB;have UR:=hB.az 38;have fl:=hB.lt;have h5:=k6.set 0 rfl 38 (U (1));simp only[CR,zs,gd hE.len]at h5;have sk:=aa h5;clear h5 hB;refine ao ?_;go_wp2;refine aj ?_;go_wp2;go_end0;exact⟨rfl,HQ.out _ (Sep.tail (Sep.pull sk.out 4 rfl))⟩
  ·
    have hq:=HQ.out;unfold cV iC at hq;simp only[Int.reduceEq,reduceIte,za]at hq;have HQ:=aa hq;clear hq;have k6:Hid (Sep w0 _ ([aJ b _ _,_,_,_]++aJ w3.heap.size 28 _::R)):=aa (Sep.kz (A:=[_,_,_,_]) HS.out);have H_:=aa (λw' a=>fc w' _ a _ _ _ (IntKind.u64.wrap (x+y)) x y a0 a1 a2 a3 (.inr (.inr ⟨rfl,rfl,rfl,rfl,rfl⟩)));go_wp2_with fail;generalize World.setCell _ _ _=w5 at k6⊢;clear k0 k1 k2 k3 k4 aR8 f zZ fl;have hB:=(k6.ar 0 rfl).drew;have hI:=(k6.ar 4 rfl).drew;have k1:=hI.cell 1;have aR8:=hI.lt;have f:=dM hE.len hB;have fl:=hB.lt;simp only[zg]at k1;have P4:=U0 (x:=x) (y:=y) hE.len hB;have W_:=U3 hE rfl hB;unfold sT at P4;unfold bC at W_;simp only[zm]at W_;refine bW [(1,[0,1,2,3,4,5,6,7,8,9,10,11,13,14]),(2,[12]),(0,[15]),(3,[16])] (by kernel_rfl) ?_;simp only[zz];refine af ?_;repeat(first|(refine ak 28 _ w3.heap.size 0 _ _ rfl rfl rfl (bL hI (by simp)) underlying28 rfl (by kernel_rfl) ?_;simp only[Act.put,aZ,zs])|(refine ak 134 _ b 35 _ _ rfl rfl rfl (aG P4 (by simp)) underlying134 rfl (by kernel_rfl) ?_;simp only[Act.put,aZ,zs])|(refine ak 36 _ b 25 _ _ rfl rfl rfl (aG W_ (by simp)) underlying36 rfl (by kernel_rfl) ?_;simp only[Act.put,aZ,zs])|go_big_quiet_step (fail)|quiet_step (fail))
    refine ax ?_;refine aA ?_;go_wp2_with fail;refine(H_.out _ _).kf k6.dr λw7 HF k6=>?_;go_wp2;refine⟨⟨⟨_,(by exact HF.out)⟩,rfl⟩,?_⟩;repeat(first|go_big_quiet_step(fail)|quiet_step(fail)|apply ax|apply af|apply ag|apply ah)
    clear hB hI k1 aR8 f fl P4 W_ HF;have hB:=(k6.ar 0 rfl);have f:=dM hE.len hB;have UR:=hB.az 36;have fl:=hB.lt;have h5:=k6.set 0 rfl 36 (U (IntKind.u64.wrap (x+y)));simp only[CR,zs,gd hE.len]at h5;have sk:=aa h5;clear h5 hB;refine ao ?_;go_wp2;refine aj ?_;go_wp2;go_end0;exact⟨rfl,HQ.out _ (Sep.tail (Sep.pull sk.out 4 rfl))⟩
  ·
    have hq:=HQ.out;unfold cV iC at hq;simp only[Int.reduceEq,reduceIte,za]at hq;have HQ:=aa hq;clear hq;have k6:Hid (Sep w0 _ ([aJ b _ _,_,_,_]++aJ w3.heap.size 28 _::R)):=aa (Sep.kz (A:=[_,_,_,_]) HS.out);go_wp2_with fail;refine(UX.out _ _ k6.out).kk λw5 h1=>?_;have yZ:=aa (Sep.tail (Sep.pull h1 4 rfl));clear h1;go_wp2;go_end0;exact⟨rfl,HQ.out _ yZ.out⟩
def runM (c:cA)(a0:Int)(code:List In):Nat→ah9→Vw.V→W.S→ah9×W.S
 |0,m,_,ws=>(m,ws)
 |n+1,m,v,ws=>if m.s≠0 then(m,ws)else runM c a0 code n (cV c a0 (code.getD m.pc.toNat i0) m v ws).1 (cV c a0 (code.getD m.pc.toNat i0) m v ws).2.1 (cV c a0 (code.getD m.pc.toNat i0) m v ws).2.2
def Fin (x z:X.St)(v:Vw.V)(q:ah9×W.S):Prop:=q.1.s=1∧z={x with v:=v,w:=q.2,s:=1,rc:=q.1.rc,rv:=q.1.rv}
def tw {c:cA}{code:List In}(hp:ai0 code){a0 a1 a2 a3 r:Int}{x:X.St}(i:In):Fin x (X.fin c code [a0,a1,a2,a3] r x) x.v (runM c a0 code 9 ⟨r,0,1,1,0,false,i,0,0,0⟩ x.v x.w):=by
 unfold Fin X.fin;rcases hp with rfl|rfl|rfl
 ·simp[runM,cV,countP]
 ·by_cases h0:r=0
  ·subst h0;simp[runM,cV,countP,Ce]
  ·simp[runM,cV,countP,Ce,h0]
 ·simp[runM,cV,countP,Ce,RK]
def sD:ah9:=⟨0,0,0,0,0,false,i0,0,0,0⟩
def Way (c:cA)(code:List In)(a0 a1 a2 a3:Int)(x z:X.St)(g:Nat)(m:ah9)(v:Vw.V)(ws:W.S):Prop:=
 (g=11∧m=sD∧Vw.VS v∧ws.done.length≤900000∧z=if(W.get ws (X.zR c)).2 then X.fin c code [a0,a1,a2,a3] (W.get ws (X.zR c)).1 {x with v:=v,w:=ws}else X.look c code [a0,a1,a2,a3] {x with v:=Vw.cell (X.zR c) v,w:=ws})∨
 (g=10∧m=r_∧Vw.VS v∧ws.done.length≤900000∧z=X.look c code [a0,a1,a2,a3] {x with v:=v,w:=ws})∨
 (g≤9∧m.s=0∧m.wt=false∧(∃k:Nat,m.pc=k∧1≤k∧k<code.length∧(0≤m.st∧m.st≤k)∧(0≤m.wr∧m.wr≤k)∧ws.done.length≤900000+k)∧Fin x z v (runM c a0 code g m v ws))∨
 (g≤10∧m.s≠0∧z={x with v:=v,w:=ws,s:=m.s,rc:=m.rc,rv:=m.rv})
def wM {code:List In}(h:ai0 code):(code.getD 0 i0=i9∧1<code.length)∧∀k,(h:k<code.length)→1≤k→code[k].op≠9∧(code[k].op=20∨k+1<code.length)∧(code[k].op=18→k<3∧3<code.length):=by
 rcases h with rfl|rfl|rfl<;>decide
def Way.go {c:cA}{code:List In}(hp:ai0 code){a0 a1 a2 a3:Int}{x:X.St}{v:Vw.V}{ws:W.S}(hd:ws.done.length≤900000)(r:Int)(i:In):Way c code a0 a1 a2 a3 x (X.fin c code [a0,a1,a2,a3] r {x with v:=v,w:=ws}) 9 ⟨r,0,1,1,0,false,i,0,0,0⟩ v ws:=
 .inr (.inr (.inl ⟨dp 9,rfl,rfl,⟨1,rfl,dp 1,(wM hp).1.2,⟨by show(0:Int)≤1;decide,by show(1:Int)≤1;decide⟩,⟨by show(0:Int)≤0;decide,by show(0:Int)≤1;decide⟩,by omega⟩,tw hp (x:={x with v:=v,w:=ws}) i⟩))
def Way.step {c:cA}{code:List In}(hp:ai0 code){a0 a1 a2 a3:Int}{x z:X.St}{g:Nat}{m:ah9}{v:Vw.V}{ws:W.S}(h:Way c code a0 a1 a2 a3 x z g m v ws)(hs:m.s=0)(hw:m.wt=false):
 ∃k:Nat,m.pc=k∧k<code.length∧(0≤m.st∧m.st≤k)∧(0≤m.wr∧m.wr≤k)∧ws.done.length≤1000000∧∃g'<g,Way c code a0 a1 a2 a3 x z g' (cV c a0 (code.getD k i0) m v ws).1 (cV c a0 (code.getD k i0) m v ws).2.1 (cV c a0 (code.getD k i0) m v ws).2.2:=by
 obtain⟨⟨Da,kM⟩,tN⟩:=wM hp;have hc8:=hp.A7.1;rcases h with⟨rfl,rfl,hv,hd,rfl⟩|⟨rfl,rfl,-⟩|⟨hg,-,-,⟨k,hk,h1,fu,h2,h3,hd⟩,hf⟩|⟨hg,hn,-⟩
 ·refine⟨0,rfl,by omega,⟨by decide,by decide⟩,⟨by decide,by decide⟩,by omega,?_⟩;rw[Da];by_cases hh:(W.get ws (X.zR c)).2=true
  ·have:=Way.go (c:=c) (a0:=a0) (a1:=a1) (a2:=a2) (a3:=a3) (x:=x) (v:=v) hp hd (W.get ws (X.zR c)).1 i9;exact⟨9,by omega,by simpa[cV,i9,hh,sD]using this⟩
  ·have:Way c code a0 a1 a2 a3 x _ 10 r_ (Vw.cell (X.zR c) v) ws:= .inr (.inl ⟨rfl,rfl,hv.cell _,hd,rfl⟩);exact⟨10,by omega,by simpa[cV,i9,hh,sD,r_]using this⟩
 ·cases hw
 ·refine⟨k,hk,fu,h2,h3,by omega,?_⟩;obtain⟨c9,xQ,vB⟩:=tN k fu h1;obtain⟨n,rfl⟩:∃n,g=n+1:=by
   cases g with
   |zero=>have:=hf.1;unfold runM at this;dsimp only at this;omega
   |succ n=>exact⟨n,rfl⟩
  have iZ:code.getD k i0=code[k]:=by simp[List.getD,fu]
  unfold runM at hf;rw[aq (by omega),hk,dU]at hf;rw[iZ]at hf⊢;generalize code[k]=i at*;refine⟨n,by omega,?_⟩;by_cases rp:i.op=20
  ·have hq:cV c a0 i m v ws=(⟨m.x,m.y,m.pc+1,m.st+1,m.wr,m.wt,i,1,0,m.x⟩,v,ws):=by simp[cV,rp]
   rw[hq]at hf⊢;have:runM c a0 code n (⟨m.x,m.y,m.pc+1,m.st+1,m.wr,m.wt,i,1,0,m.x⟩,v,ws).1 v ws=(⟨m.x,m.y,m.pc+1,m.st+1,m.wr,m.wt,i,1,0,m.x⟩,ws):=by cases n<;>simp[runM]
   dsimp only at hf this⊢;rw[this]at hf;exact .inr (.inr (.inr ⟨by omega,by show(1:Int)≠0;decide,hf.2⟩))
  ·have sf:k+1<code.length:=by omega
   have hv:(cV c a0 i m v ws).2.1=v:=by simp only[cV,aq c9];(repeat' split)<;>rfl
   rw[hv]at hf⊢;refine .inr (.inr (.inl ⟨by omega,?_,?_,?_,hf⟩))
   ·simp only[cV,aq c9,aq rp];(repeat' split)<;>exact hs
   ·simp only[cV,aq c9,aq rp];(repeat' split)<;>exact hw
   ·by_cases lO:i.op=18
    ·have:=vB lO;by_cases hx:m.x=0
     ·exact⟨3,by simp[cV,lO,hx],by omega,this.2,by simp[cV,lO];omega,by simp[cV,lO];omega,by simp[cV,lO];omega⟩
     ·exact⟨k+1,by simp[cV,lO,hx,hk],by omega,sf,by simp[cV,lO];omega,by simp[cV,lO];omega,by simp[cV,lO];omega⟩
    ·have tu:=W.mO ws (X.zR c) m.x;refine⟨k+1,?_,by omega,sf,?_,?_,?_⟩
     ·simp only[cV,aq c9,aq lO,aq rp];(repeat' split)<;>(dsimp only;omega)
     ·simp only[cV,aq c9,aq lO,aq rp];(repeat' split)<;>(dsimp only;omega)
     ·simp only[cV,aq c9,aq lO,aq rp];(repeat' split)<;>(dsimp only;omega)
     ·simp only[cV,aq c9,aq lO,aq rp];unfold P.cU;(repeat' split)<;>(dsimp only;omega)
 ·exact absurd hs hn
def O0 (z:X.St)(m:ah9):Prop:=(z.s=0→m=r_)∧m.s=z.s∧m.rc=z.rc∧m.rv=z.rv
def Way.done {c:cA}{code:List In}{a0 a1 a2 a3:Int}{x z:X.St}{g:Nat}{m:ah9}{v:Vw.V}{ws:W.S}(h:Way c code a0 a1 a2 a3 x z g m v ws)(hs:m.s≠0):z={x with v:=v,w:=ws,s:=m.s,rc:=m.rc,rv:=m.rv}:=by
 rcases h with⟨-,rfl,-⟩|⟨-,rfl,-⟩|⟨-,h,-⟩|⟨-,-,h⟩
 ·exact absurd rfl hs
 ·exact absurd rfl hs
 ·exact absurd h hs
 ·exact h
def Way.wait {c:cA}{code:List In}{a0 a1 a2 a3:Int}{x z:X.St}{g:Nat}{m:ah9}{v:Vw.V}{ws:W.S}(h:Way c code a0 a1 a2 a3 x z g m v ws)(hs:m.s=0)(hw:m.wt=true):g=10∧m=r_∧Vw.VS v∧ws.done.length≤900000∧z=X.look c code [a0,a1,a2,a3] {x with v:=v,w:=ws}:=by
 rcases h with⟨-,rfl,-⟩|h|⟨-,-,h,-⟩|⟨-,h,-⟩
 ·cases hw
 ·exact h
 ·rw[h]at hw;cases hw
 ·exact absurd hs h
def Fi {w0 w:World}{R:List a_}{c:cA}(aE:Y.Ok c){aw seq:Int}{b vb pb sb:Nat}{cv:Value}{a0 a1 a2 a3:Int}{H:List Value}(hE:EH (ae c) cv [a0,a1,a2,a3] vb pb sb H){code:List In}(hp:ai0 code)(hC:∀w',Sep w0 w' R→dJ w' cv code){x z:X.St}(hx:x.s=0∧x.rc=0∧x.rv=0){g:Nat}{m:ah9}{v:Vw.V}{ws:W.S}(hW:Way c code a0 a1 a2 a3 x z g m v ws)(hS:Sep w0 w (lP c aw seq b vb pb sb H m v x.p ws++R)):
 Calls Tryz.prog 157 #[O b] w λr w'=>r=E∧∃m',O0 z m'∧Sep w0 w' (lP c aw seq b vb pb sb H m' z.v z.p z.w++R):=by
 have u_:=aE.w8;have hf9:=aE.f9;have HS:=aa hS;have HW:=aa hW;clear hS hW;go_in;go_wp2_with fail;go_loopg [2] g (λg' v2 wr=>∃m v ws,Way c code a0 a1 a2 a3 x z g' m v ws∧Sep w0 wr (lP c aw seq b vb pb sb H m v x.p ws++R))
 case atStart=>exact⟨m,v,ws,HW.out,HS.out⟩
 case round=>
  clear HS HW;obtain⟨m,v,ws,hW,hS⟩:=hrel;have HW:=aa hW;have HS:=aa hS;clear hW hS;have hB:=HS.ar 0 rfl;have f:=dM hE.len hB;have f29:=(fE hE.len hB (by decide)).trans hE.v;have fl:=hB.lt;have Ia:=aa (HS.ar 1 rfl);unfold iC at f;clear hB;by_cases hs:m.s=0
  ·by_cases hw:m.wt=false
   ·obtain⟨k,hk,fu,h1,h2,h3,g',qF,Ib⟩:=HW.out.step hp hs hw;have h8:=hp.A7.1;have mV:code.getD k i0=code[k]:=by simp[List.getD,fu]
    rw[mV]at Ib;have mX:=aa (λw' hS=>Ml (w0:=w0) (w:=w') aE (aw:=aw) (seq:=seq) (b:=b) hE (p:=x.p) (v:=v) hC k fu h8.2 (hp.i7 _ (cJ fu)) (by omega) h1.1 h2.1 (by omega) hk h3 hS);have Ic:=aa Ib;have HG:=aa qF;rw[hs,hw]at f;clear hk h1 h2 h3 h8 mV qF Ib hs hw;go_wp2_with fail;refine(mX.out _ HS.out).kh λw1 z7=>?_;clear f f29 fl;go_wp2;go_roundg g'
    case measure=>exact HG.out
    case rel=>exact⟨_,_,_,Ic.out,z7.out⟩
   ·obtain⟨rfl,rfl,hv,hd,rfl⟩:=HW.out.wait hs (by simpa using hw);have Mp:=aa (λw' hB=>vz w' vb (ae c) rfl aw seq v hB);have Qe:=aa (λw' hS=>mP (w0:=w0) (w:=w') (R:=R) (c:=c) (aw:=aw) (seq:=seq) (b:=b) (vb:=vb) (pb:=pb) (sb:=sb) (H:=H) hE.len (x:=0) (y:=0) (pc:=1) (st:=1) (wr:=0) (wt:=false) (s:=0) (rc:=0) (rv:=0) (v:=v) (p:=x.p) (ws:=ws) v.val hS);obtain⟨vs,J5⟩:∃vs,v.s=vs:=⟨_,rfl⟩;rw[J5]at Mp;unfold r_ at*;dsimp only at*;unfold lP iC at HS;simp only[za]at HS;by_cases h0:vs=0
    ·subst h0;go_wp2_with fail;refine(Mp.out _ Ia.out).kq HS λw1 z7=>?_;go_wp2;refine aV (fV rfl _ _ _) rfl ?_;unfold X.look;rw[aB J5];exact⟨rfl,r_,⟨λ_=>rfl,hx.1.symm,hx.2.1.symm,hx.2.2.symm⟩,z7.out⟩
    ·by_cases h2:vs=2
     ·subst h2;go_wp2_with fail;refine(Mp.out _ Ia.out).kq HS λw1 HS=>?_;clear f f29 fl;have hB:=HS.ar 0 rfl;have f:=dM hE.len hB;have UY:=hB.az 60;have fl:=hB.lt;have h3:=HS.set 0 rfl 60 (I 2);simp only[zs,gd hE.len]at h3;have z7:=aa h3;clear h3 hB;go_wp2;go_roundg 9
      case measure=>decide
      case rel=>refine⟨⟨0,0,1,1,0,true,i9,2,0,0⟩,v,ws,.inr (.inr (.inr ⟨by decide,by show(2:Int)≠0;decide,?_⟩)),z7.out⟩;unfold X.look;rw[aq (by show¬v.s=0;omega),aB J5,hx.2.1,hx.2.2]
     ·have e1:vs=1:=by rcases hv with h|⟨h,-⟩<;>omega
      subst e1;clear h0 h2;go_wp2_with fail;refine(Mp.out _ Ia.out).kq HS λw1 HS=>?_;clear f f29 fl;have hB:=HS.ar 0 rfl;have f:=dM hE.len hB;have g54:=hB.az 54;have fl:=hB.lt;have h3:=HS.set 0 rfl 54 (.bool false);simp only[zs,gd hE.len]at h3;have z7:=aa h3;clear h3 hB;go_wp2_with fail;refine(Qe.out _ z7.out).kh λw2 z7=>?_;go_wp2;go_roundg 9
      case measure=>decide
      case rel=>refine⟨_,v,ws,?_,z7.out⟩;unfold X.look;rw[aq (by show¬v.s=0;omega),aq (by show¬v.s=2;omega)];exact Way.go hp hd _ _
  ·have hz:=HW.out.done hs;have e0:(m.s==0)=false:=by simpa using hs
   go_wp2;go_end0;subst hz;exact⟨rfl,m,⟨λh=>absurd h hs,rfl,rfl,rfl⟩,HS.out⟩
def wZ:(Tryz.prog.info? 26).map (λi=>(i.zero,i.size,i.bytes))=some (some (U 0),1,8):=by kernel_rfl
def lF {w0 w:World}{R:List a_}{c:cA}{aw seq:Int}{b vb pb sb:Nat}{cv:Value}{args:List Int}{x:X.St}(hS:Sep w0 w (aQ c aw seq b vb pb sb cv args x::R)):
 ba 140 #[O b] w (I x.s):=by
 obtain⟨H,m,⟨hE,Vg,NL,rk,nM,pW⟩,h2⟩:=bh hS;dsimp only at*;have f:=dM hE.len (h2.ar 0 rfl);have fl:=(h2.ar 0 rfl).lt;unfold iC at f;rw[rk,nM,pW]at f;clear h2 hS hE;delta ba;go_in;go_wp2;go_ret;exact⟨rfl,Fr.refl _ _⟩
def Cl {w0 w:World}{R:List a_}{c:cA}(aE:Y.Ok c){aw seq:Int}{b vb pb sb:Nat}{cv:Value}{args:List Int}(ha:args.length=4){code:List In}{x:X.St}(hC:∀w',Sep w0 w' R→dJ w' cv code)(h:XG c code x)(v n:Int)(hv:W.U_ v)(ok:Bool)(hS:Sep w0 w (aQ c aw seq b vb pb sb cv args x::R)):
 bR 230 #[O b,.agg #[U v,U n,.bool ok]] w w0 (aQ c aw seq b vb pb sb cv args (X.tell c code args seq v n x)::R):=by
 have mX:=aa hS;have hG:=h.tell args seq v n hv;obtain⟨H,m,⟨hE,Vg,NL,rk,nM,pW⟩,h2⟩:=bh hS;dsimp only at*;have f:=dM hE.len (h2.ar 0 rfl);have fl:=(h2.ar 0 rfl).lt;unfold iC at f;rw[rk,nM,pW]at f;unfold X.tell at*;by_cases hs:x.s=0
 ·rw[aq (by omega)]at hG⊢;obtain⟨hb,E7⟩:=h.z hs;obtain rfl:=NL hs;have HVT:=aa (λw' RR hS=>B7 (w0:=w0) (w:=w') (R:=RR) vb (ae c) rfl aw seq x.v h.xv.vs v n ok hS);obtain⟨a0,a1,a2,a3,rfl⟩:∃a0 a1 a2 a3,args=[a0,a1,a2,a3]:=by
   match args,ha with
   |[a0,a1,a2,a3],_=>exact⟨a0,a1,a2,a3,rfl⟩
  have HW:Hid (Way c code a0 a1 a2 a3 x (X.look c code [a0,a1,a2,a3] {x with v:=Vw.tell seq v n x.v}) 10 r_ (Vw.tell seq v n x.v) x.w):=aa (.inr (.inl ⟨rfl,rfl,h.xv.vs.tell _ _ _,by have:=hb.dn;have:=h.xv.mrk;omega,rfl⟩));have Aa:=aa (λw' hS=>Fi (w0:=w0) (w:=w') aE (aw:=aw) (seq:=seq) (b:=b) hE hb.pc hC ⟨hs,hb.rc,hb.rv⟩ HW.out hS);rw[hs]at f;have HSX:Hid (Sep w0 w (aJ b 255 (H++iC r_)::aJ vb 258 (Vw.eU (ae c) aw seq x.v)::bE c seq pb x.p::cw sb x.w::R)):=aa h2;generalize X.look c code [a0,a1,a2,a3] {x with v:=Vw.tell seq v n x.v}=z at*;generalize Vw.tell seq v n x.v=v1 at*;clear h2 hS hb E7 HW hC mX;delta bR;go_in;go_wp2_with fail;have dS:=aa (HSX.new 84 [U v,U n,.bool ok]);generalize World.alloc _ _=W1 at dS⊢;have hB:=(dS.ar 1 rfl).drew;have hO:=(dS.ar 0 rfl).drew;have f29:=(fE hE.len hB (by decide)).trans hE.v;have o0:=hO.cell 0;have o1:=hO.cell 1;have o2:=hO.cell 2;have ol:=hO.lt;have fl2:=hB.lt;simp only[zg]at o0 o1 o2;refine bW [(1,[0,1,2,3,4]),(3,[5])] (by kernel_rfl) ?_;simp only[zz];repeat(first|go_big_quiet_step(fail)|quiet_step(fail)|apply ax|apply af|apply ag|apply ah)
  refine ao ?_;go_wp2_with fail;refine(dS.drew.call 2 rfl (λR hR=>HVT.out _ _ hR)).kk λw2 h1=>?_;simp only[zs]at h1;have HS:=aa h1.tail;clear h1 hB hO f29 o0 o1 o2 ol fl2;go_wp2;refine aj ?_;go_wp2_with fail;refine(Aa.out _ HS.out).mono ?_;rintro r w3 ⟨rfl,m',hm',h1⟩;have HS:=aa h1;clear h1;go_wp2;go_end0;exact⟨rfl,bF ⟨hE,hG.xv.news,hm'⟩ HS.out⟩
 ·rw[aB hs];have e0:(x.s==0)=false:=by simpa using hs
  clear h2 hS hE hs;delta bR;go_in;go_wp2;go_end0;exact⟨rfl,mX.alloc _⟩
def Fk {w0 w:World}{R:List a_}{c:cA}{aw seq:Int}{b vb pb sb:Nat}{cv:Value}{args:List Int}{x:X.St}(J5:Vw.VS x.v)(hS:Sep w0 w (aQ c aw seq b vb pb sb cv args x::R)):
 ba 224 #[O b] w (.tuple #[.agg (eF (X.ask x).1).toArray,.bool (X.ask x).2]):=by
 obtain⟨H,m,⟨hE,Vg,NL,rk,nM,pW⟩,h2⟩:=bh hS;dsimp only at*;have f:=dM hE.len (h2.ar 0 rfl);have fl:=(h2.ar 0 rfl).lt;unfold iC at f;rw[rk,nM,pW]at f;have f29:=(fE hE.len (h2.ar 0 rfl) (by decide)).trans hE.v;have Ia:=aa (h2.ar 1 rfl);have HS:=aa ((Sep.nil (Fr.refl [] w)).new 82 (eF p0));have fD:=dg p0;unfold X.ask;clear h2 hS hE;by_cases hs:x.s=0
 ·have e0:(x.s !=0)=false:=by simpa using hs
  rw[aq (by omega)];have A0:=aa (λw' hB=>E4 w' vb (ae c) rfl aw seq x.v J5 hB);generalize Vw.ask x.v=pa at*;obtain⟨sK,Fl⟩:=pa;have fF:=dg sK;clear hs;dsimp only at*;delta ba;go_in;go_wp2_with fail;refine(A0.out _ (Ia.fr HS.fr (by simp))).kq HS λw1 HS=>?_;go_wp2_with(refine aC HS.out 0 rfl (eF sK) 82 _ _ rfl rfl rfl rfl rfl (by kernel_rfl) fF (λwA hA _=>?_);have de:=aa hA;clear hA);exact aV (v:= .tuple #[.agg (eF (sK)).toArray,.bool Fl]) (bj Tryz.results224 rfl rfl (de.ar 0 rfl).range underlying82 rfl (by kernel_rfl)) rfl ⟨rfl,de.fr⟩
 ·have e0:(x.s !=0)=true:=by simpa using hs
  rw[aB hs];clear hs;delta ba;go_in;go_wp2_with(refine aC HS.out 0 rfl (eF p0) 82 _ _ rfl rfl rfl rfl rfl (by kernel_rfl) fD (λwA hA _=>?_);have de:=aa hA;clear hA);exact aV (v:= .tuple #[.agg (eF (p0)).toArray,.bool false]) (bj Tryz.results224 rfl rfl (de.ar 0 rfl).range underlying82 rfl (by kernel_rfl)) rfl ⟨rfl,de.fr⟩
def xV {w0 w:World}{R:List a_}{c:cA}{aw seq:Int}{b vb pb sb:Nat}{cv:Value}{args:List Int}{x:X.St}(hS:Sep w0 w (aQ c aw seq b vb pb sb cv args x::R)):
 Calls Tryz.prog 141 #[O b] w λr w'=>∃nv,r= .returned (.tuple #[.agg [I x.rc,U x.rv].toArray,nv])∧Sep w0 w' (aU 0 26 1 nv 0 []::aQ c aw seq b vb pb sb cv args x::R):=by
 obtain⟨i0,iJ,jA,jB,iR⟩:=eA wZ;have HS:=aa (hS.k5 0 26 1);have Ik:∀z∈ [I x.rc,U x.rv],z.oneCell'=true:=by simp[Value.oneCell']
 obtain⟨H,m,⟨hE,Vg,NL,rk,nM,pW⟩,h2⟩:=bh hS;dsimp only at*;have f:=dM hE.len (h2.ar 0 rfl);have fl:=(h2.ar 0 rfl).lt;unfold iC at f;rw[rk,nM,pW]at f;have pg:¬b=w.heap.size:=by omega
 have dS:=aa (HS.new 48 [I 0,U 0]);clear h2 hS hE HS;go_in;go_wp2_with fail;refine bW [(1,[0,1,2,3,4,5,6,7]),(2,[8]),(3,[9]),(0,[10])] (by kernel_rfl) ?_;simp only[zz];repeat(first|go_big_quiet_step(fail)|quiet_step(fail)|apply ax|apply af|apply ag|apply ah)
 refine aA ?_;go_wp2_with(at_builtin;go_must (refine qD dS.drew rfl _ _ 49 rfl 26 i0 _ 1 8 underlying49 iJ jA jB iR rfl (by decide) rfl none 0 0 [] rfl (.inl ⟨rfl,rfl,rfl,rfl⟩) rfl (by simp) (by decide) (by decide) ?_));intro v' w2 du Ln;obtain⟨B9,Vf,rfl⟩:=du.form 0 rfl;have HF:=aa Ln;have de:=aa du;clear Ln du;go_wp2;refine⟨⟨⟨_,(by exact HF.out)⟩,rfl⟩,?_⟩;repeat(first|go_big_quiet_step(fail)|quiet_step(fail)|apply ax|apply af|apply ag|apply ah)
 refine ao ?_;refine aC de.out 1 rfl [I x.rc,U x.rv] 48 _ _ rfl rfl rfl rfl rfl (by kernel_rfl) Ik (λwA hA _=>?_);simp only[zs]at hA;have eH:=aa hA;clear hA;go_wp2_with fail;repeat(first|go_big_quiet_step(fail)|quiet_step(fail)|apply ax|apply af|apply ag|apply ah)
 refine aj ?_;go_wp2_with fail;exact aV (v:= .tuple #[.agg [I x.rc,U x.rv].toArray,.slice B9 0 Vf]) (bj Tryz.results141 rfl rfl (eH.ar 1 rfl).range underlying48 rfl (by kernel_rfl)) rfl ⟨_,rfl,((eH.pull 1 rfl).tail.pull 1 rfl).tail⟩
def pB {w0 w:World}{R:List a_}{b:Nat}{s:W.S}(h:Sep w0 w (cw b s::R))(hd:s.done.length≤1000000):
 ba 173 #[O b,I s.done.length] w (.bool true):=by
 obtain⟨fp,⟨⟨vl,vt,vd,m,fo,pos,hp,rfl⟩,hg⟩,-,-⟩:=h.get 0 rfl;obtain⟨da,dc,rfl⟩:=cY hp.iM;have h3:=hp.ar.cell 3;simp only[zg]at h3;generalize s.done.length=n at*;have Eg:decide ((n:Int)<0)=false:=by simp
 clear hp hg h;delta ba;go_in;go_wp2_with fail;go_loopg [] 1 (λg wr=>wr=w)
 case atStart=>rfl
 case round=>obtain rfl:=hrel;go_wp2;go_ret;exact⟨rfl,Fr.refl _ _⟩
def jC {w0 w:World}{R:List a_}{c:cA}{aw seq:Int}{b vb pb sb:Nat}{cv:Value}{args:List Int}{H:List Value}(hE:EH (ae c) cv args vb pb sb H){v:Vw.V}{p:P.St}{ws:W.S}(h32:H[32]?=some (I ws.done.length))(Cf:H[33]?=some (I p.nt))(wR:H[34]?=some (I p.nl))(hd:ws.done.length≤1000000)(hS:Sep w0 w (lP c aw seq b vb pb sb H sD v p ws++R)):
 bR 156 #[O b,I 30,U 0] w w0 (lP c aw seq b vb pb sb H {sD with s:=1,rc:=30} v p ws++R):=by
 unfold sD at*;unfold lP iC at*;simp only[za]at*;have HS:=aa hS;clear hS;have hB:=(HS.ar 0 rfl).drew;have f31:=(fE hE.len hB (by decide)).trans hE.w;have f32:=(fE hE.len hB (by decide)).trans h32;have fl:=hB.lt;clear hB;delta bR;go_in;go_wp2_with fail;refine bW [(1,[0,1,2,3,4,5,6,7]),(3,[8])] (by kernel_rfl) ?_;simp only[zz];repeat(first|go_big_quiet_step(fail)|quiet_step(fail)|apply ax|apply af|apply ag|apply ah)
 refine ao ?_;go_wp2_with fail;refine(pB (HS.drew.pull 3 rfl) hd).kq HS.dr λw1 HS=>?_;clear f31 f32 fl;go_wp2;refine aj ?_;have hB:=(HS.ar 0 rfl).drew;have f30:=(fE hE.len hB (by decide)).trans hE.p;have f33:=(fE hE.len hB (by decide)).trans Cf;have f34:=(fE hE.len hB (by decide)).trans wR;have fl:=hB.lt;clear hB;go_wp2_with fail;refine bW [(1,[0,1,2,3,4,5,6,7]),(3,[8])] (by kernel_rfl) ?_;simp only[zz];repeat(first|go_big_quiet_step(fail)|quiet_step(fail)|apply ax|apply af|apply ag|apply ah)
 refine ao ?_;go_wp2_with fail;refine(HS.drew.call 2 rfl (λR hR=>PG pb c seq p p.nt p.nl hR)).kk λw2 h1=>?_;simp only[zs]at h1;have HS:=aa h1;clear h1 f30 f33 f34 fl;go_wp2;refine aj ?_;have hB:=HS.ar 0 rfl;have f:=dM hE.len hB;have UY:=hB.az;have fl:=hB.lt;have h3:=((HS.set 0 rfl 60 (I 1)).set 0 rfl 61 (I 30)).set 0 rfl 62 (U 0);simp only[aL,gd hE.len,aN]at h3;have eH:=aa h3;clear h3 hB;go_wp2;go_end0;exact⟨rfl,eH.out⟩
def fJ (cs:List Value)(cv:Value)(a0 a1 a2 a3:Int)(vb pb sb:Nat)(mark nt nl:Int):List Value:=cs++[cv,U a0,U a1,U a2,U a3,O vb,O pb,O sb,I mark,I nt,I nl]
def fq {cs:List Value}(aD:cs.length=24)(t:List Value)(k:Nat):(cs++t)[24+k]?=t[k]?:=by
 rw[gw (by omega),aD,zd]
def cH {cs:List Value}(aD:cs.length=24)(cv:Value)(a0 a1 a2 a3:Int)(vb pb sb:Nat)(mark nt nl:Int):EH cs cv [a0,a1,a2,a3] vb pb sb (fJ cs cv a0 a1 a2 a3 vb pb sb mark nt nl) where
 len:=by unfold fJ;rw[eE,aD];rfl
 m k hk:=gm (by omega)
 code:=fq aD _ 0
 args k hk:=by
  have:=fq aD [cv,U a0,U a1,U a2,U a3,O vb,O pb,O sb,I mark,I nt,I nl] (k+1);unfold fJ;rw[show 25+k=24+(k+1) by omega,this];rcases k with _|_|_|_|k<;>first|rfl|omega
 v:=fq aD _ 5
 p:=fq aD _ 6
 w:=fq aD _ 7
def Fm {w0 w:World}{R:List a_}{c:cA}(aE:Y.Ok c){aw seq:Int}{vb pb sb:Nat}(ca:Option Addr)(n cc:Nat){code:List In}(UN:n=code.length){args:List Int}(ha:args.length=4)(hp:sJ code)(hC:∀w',Sep w0 w' R→dJ w' (.slice ca n cc) code){v:Vw.V}{p:P.St}{s:W.S}(hd:s.done.length≤500000)(J5:Vw.VS v)(hG:XG c code (X.new c code args v p s))
 (hS:Sep w0 w (aJ vb 258 (Vw.eU (ae c) aw seq v)::bE c seq pb p::cw sb s::R)):
 Calls Tryz.prog 133 #[aY c,.slice ca n cc,.agg (bC args).toArray,O vb,O pb,O sb] w λr w'=>∃b,r= .returned (O b)∧Sep w0 w' (aQ c aw seq b vb pb sb (.slice ca n cc) args (X.new c code args v p s)::R):=by
 obtain⟨a0,a1,a2,a3,rfl⟩:∃a0 a1 a2 a3,args=[a0,a1,a2,a3]:=by
  match args,ha with
  |[a0,a1,a2,a3],_=>exact⟨a0,a1,a2,a3,rfl⟩
 have aD:(ae c).length=24:=rfl;obtain⟨cv,eT⟩:∃cv,Value.slice ca n cc=cv:=⟨_,rfl⟩;have Cm:=aa (λw' (h:Sep w0 w' R)=>lp w' ca n cc code UN hp (hC w' h));rw[eT]at hC Cm⊢;have hE:=cH aD cv a0 a1 a2 a3 vb pb sb s.done.length p.nt p.nl;have HMK:=aa (λw' RR hS=>PE (w0:=w0) (w:=w') (R:=RR) pb c seq p hS);have Tc:=aa (λw' RR hS=>Pe (w0:=w0) (w:=w') (R:=RR) (b:=sb) (s:=s) hS);have AY:=aa (λw' b hS=>jC (w0:=w0) (w:=w') (R:=R) (aw:=aw) (seq:=seq) (b:=b) hE (v:=v) (p:=p) (ws:=s) (fq aD _ 8) (fq aD _ 9) (fq aD _ 10) (by omega) hS);have Aa:Hid (ai0 code→∀w' b,Sep w0 w' (lP c aw seq b vb pb sb (fJ (ae c) cv a0 a1 a2 a3 vb pb sb s.done.length p.nt p.nl) sD v p s++R)→Calls Tryz.prog 157 #[O b] w' λr w'=>r=E∧∃m',O0 (X.new c code [a0,a1,a2,a3] v p s) m'∧Sep w0 w' (lP c aw seq b vb pb sb (fJ (ae c) cv a0 a1 a2 a3 vb pb sb s.done.length p.nt p.nl) m' (X.new c code [a0,a1,a2,a3] v p s).v (X.new c code [a0,a1,a2,a3] v p s).p (X.new c code [a0,a1,a2,a3] v p s).w++R)):=aa (λHz w' b hS=>Fi aE hE Hz hC (x:=X.eB v p s) ⟨rfl,rfl,rfl⟩ (g:=11) (.inl ⟨rfl,rfl,J5,by omega,by unfold X.new;rw[aq Hz.ne];rfl⟩) hS);have dQ:Hid (∀w' b m',O0 (X.new c code [a0,a1,a2,a3] v p s) m'→Sep w0 w' (lP c aw seq b vb pb sb (fJ (ae c) cv a0 a1 a2 a3 vb pb sb s.done.length p.nt p.nl) m' (X.new c code [a0,a1,a2,a3] v p s).v (X.new c code [a0,a1,a2,a3] v p s).p (X.new c code [a0,a1,a2,a3] v p s).w++R)→Sep w0 w' (aQ c aw seq b vb pb sb cv [a0,a1,a2,a3] (X.new c code [a0,a1,a2,a3] v p s)::R)):=aa (λw' b m' hm h=>bF ⟨hE,hG.xv.news,hm⟩ h);have HE0:Hid (code=[]→X.new c code [a0,a1,a2,a3] v p s={X.eB v p s with s:=1,rc:=30}):=aa (λe=>by unfold X.new;rw[aB e]);have HP:=aa hp;generalize X.new c code [a0,a1,a2,a3] v p s=z at*;have eG:=(hS.new 58 (ae c)).new 36 [U a0,U a1,U a2,U a3];simp only[cG]at eG;unfold aY;unfold lP at AY Aa;unfold iC fJ sD at AY;rw[show sD=⟨0,0,0,0,0,false,⟨0,0,0,0,0⟩,0,0,0⟩from rfl]at Aa;unfold bC;simp only[zm];clear hE hC hd J5 hG UN hp hS;have HS:=aa eG;clear eG;have Xa:Hid (∀w' b m',O0 z m'→Sep w0 w' (lP c aw seq b vb pb sb (fJ (ae c) cv a0 a1 a2 a3 vb pb sb s.done.length p.nt p.nl) m' z.v z.p z.w++R)→Sep w0 w' (aQ c aw seq b vb pb sb cv [a0,a1,a2,a3] z::R)):=dQ;unfold lP at Xa;clear dQ;generalize ae c=cs at*;obtain⟨x0,x1,x2,x3,x4,x5,x6,x7,x8,x9,l4,l5,l6,l7,l8,l9,l_,mf,mh,mi,mj,mm,mo,mq,rfl⟩:=rQ aD;subst eT;go_in;go_wp2_with fail;have hM:=(HS.ar 1 rfl).drew;have hA:=(HS.ar 0 rfl).drew;refine bW [(1,[0,1,2,3,4,5,6,8]),(2,[7]),(2,[9]),(0,[10]),(3,[11]),(0,[12])] (by kernel_rfl) ?_;simp only[zz];refine af ?_;repeat(first|(refine ak 58 _ w.heap.size 0 [x0,x1,x2,x3,x4,x5,x6,x7,x8,x9,l4,l5,l6,l7,l8,l9,l_,mf,mh,mi,mj,mm,mo,mq] _ rfl rfl rfl (bL hM (by simp)) underlying58 rfl (by kernel_rfl) ?_;simp only[Act.put,aZ,zs])|(refine ak 36 _ (w.heap.size+1) 0 [U a0,U a1,U a2,U a3] _ rfl rfl rfl (bL hA (by simp)) underlying36 rfl (by kernel_rfl) ?_;simp only[Act.put,aZ,zs])|go_big_quiet_step (fail)|quiet_step (fail))
 refine ax ?_;refine aA ?_;go_wp2_with fail;refine(Tc.out _ _ (HS.drew.pull 4 rfl)).mono ?_;rintro r w2 ⟨rfl,rfl⟩;go_wp2;refine⟨⟨⟨_,(by exact Fr.refl _ _)⟩,rfl⟩,?_⟩;repeat(first|go_big_quiet_step(fail)|quiet_step(fail)|apply ax|apply af|apply ag|apply ah)
 refine aA ?_;go_wp2_with fail;refine(HMK.out _ _ (HS.drew.pull 3 rfl)).kf HS.dr λw3 HF HS=>?_;go_wp2;refine⟨⟨⟨_,(by exact HF.out)⟩,rfl⟩,?_⟩;repeat(first|go_big_quiet_step(fail)|quiet_step(fail)|apply ax|apply af|apply ag|apply ah)
 refine ao ?_;go_wp2_with fail;repeat(first|go_big_quiet_step(fail)|quiet_step(fail)|apply ax|apply af|apply ag|apply ah)
 refine aj ?_;have js:=HS.tail.tail.new 255 (fJ [x0,x1,x2,x3,x4,x5,x6,x7,x8,x9,l4,l5,l6,l7,l8,l9,l_,mf,mh,mi,mj,mm,mo,mq] (.slice ca n cc) a0 a1 a2 a3 vb pb sb s.done.length p.nt p.nl++iC ⟨0,0,0,0,0,false,⟨0,0,0,0,0⟩,0,0,0⟩);have Qr:=aa js;clear js;unfold fJ iC at Qr;simp only[za]at Qr;generalize World.alloc _ _=w4 at Qr⊢;clear HS HMK Tc hM hA HF;rcases HP.out with he|Hz
 ·have HX:=aa (HE0.out he);subst he;rw[show right []=false from rfl]at Cm;clear Aa HP;go_wp2_with fail;refine(Cm.out _ Qr.tail.tail.tail.tail).kq Qr λw6 Dx=>?_;go_wp2_with fail;refine(AY.out _ _ Dx.out).kh λw7 NR=>?_;go_wp2;go_ret;obtain rfl:=HX.out;exact⟨_,rfl,Xa.out _ _ {sD with s:=1,rc:=30} ⟨λe=>absurd e (by show¬(1:Int)=0;decide),rfl,rfl,rfl⟩ NR.out⟩
 ·have pg:=Hz.right;rw[pg]at Cm;have HR:=aa (Aa.out Hz);clear Aa pg AY Hz;go_wp2_with fail;refine(Cm.out _ Qr.tail.tail.tail.tail).kq Qr λw6 Dx=>?_;go_wp2_with fail;refine(HR.out _ _ Dx.out).mono ?_;rintro r w7 ⟨rfl,m',hm,h1⟩;have NR:=aa h1;clear h1;go_wp2;go_ret;exact⟨_,rfl,Xa.out _ _ _ hm NR.out⟩
structure cL (w:World)(pv:Value)(aO:List Value)(ai:List (List In)):Prop where
 row:dB (λv=> [v]) 1 w pv aO
 len:aO.length=ai.length
 each:∀k (h:k<ai.length),dJ w (aO[k]'(by omega)) ai[k]
 tY:ai.length≤1000
def cL.fr {w w' pv aO ai}(h:cL w pv aO ai)(f:Fr [] w w'):cL w' pv aO ai:=
 ⟨h.row.fr f,h.len,λk hk=>(h.each k hk).fr f,h.tY⟩
def sL (aO:List Value)(k:Int):Value:=if k<aO.length then aO.getD k.toNat (.slice none 0 0)else .slice none 0 0
def Fo (w):dJ w (.slice none 0 0) []:=⟨⟨none,0,rfl,dp _,.inl rfl⟩,by decide,by simp⟩
def cL.code {w pv aO ai}(h:cL w pv aO ai){k}(hk:0≤k):dJ w (sL aO k) (B.bU ai k):=by
 have hl:=h.len;unfold sL B.bU;by_cases hc:k<ai.length
 ·have h1:k.toNat<ai.length:=by omega
  have h2:k.toNat<aO.length:=by omega
  rw[aB (by omega),aB hc];have:=h.each k.toNat h1;rwa [show aO.getD k.toNat (.slice none 0 0)=aO[k.toNat] by simp[List.getD,h2],show ai.getD k.toNat []=ai[k.toNat] by simp[List.getD,h1]]
 ·rw[aq (by omega),aq hc];exact Fo w
def Xh (cs:List Value)(pv:Value)(vb pb sb:Nat):List Value:=cs++[pv,O vb,O pb,O sb]
def ji (xp rv:Value)(args:List Int)(b:B.St):List Value:=[xp,I b.next,I b.u,U b.av,U b.an]++(bC args++[I b.given,rv,I b.s])
structure BH (cs:List Value)(pv:Value)(vb pb sb:Nat)(H:List Value):Prop where
 len:H.length=28
 m:∀k,k<24→H[k]?=cs[k]?
 pv:H[24]?=some pv
 v:H[25]?=some (O vb)
 p:H[26]?=some (O pb)
 w:H[27]?=some (O sb)
def Zq {cs}(aD:cs.length=24)(pv vb pb sb):BH cs pv vb pb sb (Xh cs pv vb pb sb):=by
 unfold Xh;refine⟨by simp[aD],λk hk=>gm (by omega),?_,?_,?_,?_⟩;all_goals(rw[gw (by omega),aD];rfl)
def ai4 {H:List Value}(hH:H.length=28)(t:List Value){k:Nat}(hk:k<28):(H++t)[k]?=H[k]?:=gm (by omega)
def Xi {H:List Value}(hH:H.length=28)(t:List Value)(k:Nat)(hk:28≤k):(H++t)[k]?=t[k-28]?:=by rw[gw (by omega),hH]
def fY {H:List Value}(hH:H.length=28)(t:List Value)(k:Nat)(v:Value)(hk:28≤k):(H++t).set k v=H++t.set (k-28) v:=by rw[eD _ _ (by omega),hH]
def nS {w b}{T:TypeId}{cs H t pv vb pb sb}(aD:cs.length=24)(hE:BH cs pv vb pb sb H)(h:cB w b T (H++t)):w.rangeAt b 0 cs:=λj u hj=>by
 have zM:j<24:=by rw[←aD];exact(dE.1 hj).1
 have:=(h.cell j).trans ((ai4 hE.len _ (by omega)).trans ((hE.m j zM).trans hj));simpa using this
def Ab {T:Type}(ty Fp:TypeId)(k:Nat)(en:Value→T→List Value)(pd:T→List Int)(v:Value)(L:List T):a_:=
 EG λdY:List Value=>ie (dY.length=L.length) (cM [aU 0 ty k v L.length (flat (λp:Value×T=>en p.1 p.2) (dY.zip L)),cM ((dY.zip L).map (λp=>aU 0 Fp 1 p.1 (pd p.2).length (bC (pd p.2))))])
def Fq {w0 w R}{T:Type}{ty Fp:TypeId}{k}{en:Value→T→List Value}{pd:T→List Int}{v L}(h:Sep w0 w (Ab ty Fp k en pd v L::R)):
 ∃dY:List Value,dY.length=L.length∧Sep w0 w (aU 0 ty k v L.length (flat (λp:Value×T=>en p.1 p.2) (dY.zip L))::cM ((dY.zip L).map (λp=>aU 0 Fp 1 p.1 (pd p.2).length (bC (pd p.2))))::R):=by
 obtain⟨dY,h1⟩:=h.rZ;obtain⟨h2,h3⟩:=h1.jn;exact⟨dY,h2,h3.ofList⟩
def Ac {w0 w:World}{R:List a_}{T:Type}{ty Fp:TypeId}{k:Nat}{en:Value→T→List Value}{pd:T→List Int}{v:Value}{L:List T}{dY:List Value}(hl:dY.length=L.length)(h:Sep w0 w (aU 0 ty k v L.length (flat (λp:Value×T=>en p.1 p.2) (dY.zip L))::cM ((dY.zip L).map (λp=>aU 0 Fp 1 p.1 (pd p.2).length (bC (pd p.2))))::R)):
 Sep w0 w (Ab ty Fp k en pd v L::R):=
 Sep.qX (A:=List Value) (λdY=>ie (dY.length=L.length) (cM [aU 0 ty k v L.length (flat (λp:Value×T=>en p.1 p.2) (dY.zip L)),cM ((dY.zip L).map (λp=>aU 0 Fp 1 p.1 (pd p.2).length (bC (pd p.2))))])) (a:=dY) (Sep.iK (Sep.toList (Ts:=[_,_]) h) hl)
def qE {w0 w:World}{R:List a_}{T:Type}{ty Fp:TypeId}{k:Nat}{en:Value→T→List Value}{pd:T→List Int}{v nv:Value}{L:List T}{x:T}{dY:List Value}(hl:dY.length=L.length)
 (h:Sep w0 w (aU 0 ty k v (L.length+1) (flat (λp:Value×T=>en p.1 p.2) (dY.zip L)++en nv x)::aU 0 Fp 1 nv (pd x).length (bC (pd x))::cM ((dY.zip L).map (λp=>aU 0 Fp 1 p.1 (pd p.2).length (bC (pd p.2))))::R)):
 Sep w0 w (Ab ty Fp k en pd v (L++[x])::R):=by
 have hz:(dY++[nv]).zip (L++[x])=dY.zip L++[(nv,x)]:=by rw[List.zip_append hl];rfl
 refine Ac (dY:=dY++[nv]) (by simp[hl]) ?_;have hf:flat (λp:Value×T=>en p.1 p.2) (dY.zip L++[(nv,x)])=flat (λp:Value×T=>en p.1 p.2) (dY.zip L)++en nv x:=by rw[nh];simp[flat]
 rw[hz,pS,eE,hf];have h2:=Sep.vh ((h.pull 2 rfl).pull 2 rfl);have h3:=h2.swap;simpa using h3
structure BV (c:cA)(m:Int)(x:X.St):Prop where
 dn:(x.w.done.length:Int)≤m
 wu:W.ou x.w
 vs:Vw.VS x.v
 vv:W.U_ x.v.val
 nt:0≤x.p.nt∧x.p.nt≤c.b
 nl:0≤x.p.nl∧x.p.nl≤b_ c
structure BB (c:cA)(k:Int)(b:B.St):Prop where
 args:b.args.length=4
 au:∀r∈b.args,W.U_ r
 u:0≤b.u∧b.u≤c.t
 us:b.s=0→b.u<c.t
 s:0≤b.s∧b.s≤2
 av:W.U_ b.av
 an:W.U_ b.an
 given:0≤b.given∧b.given≤4
 rows:(b.rows.length:Int)≤b.u+k
 news:∀r∈b.rows,r.news=[]∧W.U_ r.tag∧W.U_ r.rv
structure BI (c:cA)(ai:List (List In))(b:B.St):Prop where
 bb:BB c 0 b
 next:0≤b.next∧b.next≤4
 g3:b.s=0→b.next=3→b.given<4
 z:b.next=0→P.Ok c b.x.p∧b.x.w.done=[]
 xv:b.next≠4→BV c (2000+100*b.u) b.x
 x4:b.next=4→XG c b.code b.x∧b.x.mark≤2000+100*b.u∧b.code=B.bU ai b.av
def oP {c}(aE:Y.Ok c):b_ c≤520:=by
 have:=aE.t8;have:=aE.Jw;have:=aE.t1;have:=aE.w0;unfold b_;have h1:c.t*(c.w+1)≤8*(c.w+1):=CU aE.t8 (by omega);omega
def BI.new {c:cA}(aE:Y.Ok c)(ai:List (List In)):BI c ai (B.fw c):=by
 have h1:=aE.t1;have h2:=aE.b1;have h3:=bK aE;have z:(0:Int)≤0:=by decide
 have z2:(0:Int)≤2:=by decide
 have zU:W.U_ 0:=⟨by decide,by decide⟩;refine⟨⟨rfl,?_,⟨z,by show(0:Int)≤c.t;omega⟩,λ_=>by show(0:Int)<c.t;omega,⟨z,z2⟩,zU,zU,⟨z,by show(0:Int)≤4;decide⟩,by simp[B.fw],by simp[B.fw]⟩,⟨z,by show(0:Int)≤4;decide⟩,λ_ h=>absurd h (by show¬(0:Int)=3;decide),λ_=>⟨P.Yy c aE,rfl⟩,λ_=>?_,λh=>absurd h (by show¬(0:Int)=4;decide)⟩
 ·intro r hr;have:r=0:=by simpa[B.fw]using hr
  subst this;exact zU
 ·refine⟨by simp[B.fw,X.eB],by simp[B.fw,X.eB,W.ou],.inr ⟨.inl rfl,rfl⟩,zU,?_,?_⟩
  ·show(0:Int)≤0∧(0:Int)≤c.b;omega
  ·show(0:Int)≤0∧(0:Int)≤b_ c;omega
def oV {s}(h:W.ou s)(a){v}(hv:W.U_ v):W.ou (P.cU s a v):=W.ou.put h a hv
def lS (s a v):(P.cU s a v).done.length≤s.done.length+1:=W.mO s a v
def BV.end_ {c:cA}(aE:Y.Ok c){m:Int}{x:X.St}(h:BV c m x):BV c (m+2) {x with w:=P.end_ c x.p x.w}:=by
 have hb:=aE.nZ;have hl:=oP aE;have hn:=h.nt;have tE:=h.nl;have hd:=h.dn;have U1:W.U_ x.p.nt:=⟨hn.1,by omega⟩;have U2:W.U_ x.p.nl:=⟨tE.1,by omega⟩;have hw:W.ou (P.end_ c x.p x.w)∧(P.end_ c x.p x.w).done.length≤x.w.done.length+2:=by
  unfold P.end_;by_cases h1:x.p.nt≠x.p.wt<;>by_cases h2:x.p.nl≠x.p.wl
  ·simp only[aB h1,aB h2];have d1:=lS x.w (at_ c 12 0 0) x.p.nt;have d2:=lS (P.cU x.w (at_ c 12 0 0) x.p.nt) (at_ c 14 0 0) x.p.nl;exact⟨oV (oV h.wu _ U1) _ U2,by omega⟩
  ·simp only[aB h1,aq h2];have d1:=lS x.w (at_ c 12 0 0) x.p.nt;exact⟨oV h.wu _ U1,by omega⟩
  ·simp only[aq h1,aB h2];have d1:=lS x.w (at_ c 14 0 0) x.p.nl;exact⟨oV h.wu _ U2,by omega⟩
  ·simp only[aq h1,aq h2];exact⟨h.wu,by omega⟩
 exact⟨by have:=hw.2;dsimp only;omega,hw.1,h.vs,h.vv,h.nt,h.nl⟩
def BV.mono {c m n x}(h:BV c m x)(hm:m≤n):BV c n x:={h with dn:=by have:=h.dn;omega}
def BI.pass {c}(aE:Y.Ok c){ai b}(hb:BB c 1 b)(hs:b.s=0)(hv:BV c (2000+100*b.u+98) b.x):BI c ai (B.pass c b):=by
 have NX:=hb.us hs;have hu:=hb.u;have hr:=hb.rows;unfold B.pass;split
 ·rename_i he;refine⟨{hb with u:=by dsimp only;omega,us:=λe=>absurd e (by show¬(1:Int)=0;decide),s:=⟨by(try dsimp only);decide,by(try dsimp only);decide⟩,rows:=by dsimp only;omega},⟨by(try dsimp only);decide,by(try dsimp only);decide⟩,λe=>absurd e (by show¬(1:Int)=0;decide),λe=>absurd e (by show¬(1:Int)=0;decide),λ_=>?_,λe=>absurd e (by show¬(1:Int)=4;decide)⟩;exact(BV.end_ aE hv).mono (by dsimp only;omega)
 ·rename_i he;refine⟨{hb with u:=by dsimp only;omega,us:=λ_=>by dsimp only;omega,rows:=by dsimp only;omega},⟨by(try dsimp only);decide,by(try dsimp only);decide⟩,λ_ e=>absurd e (by show¬(1:Int)=3;decide),λe=>absurd e (by show¬(1:Int)=0;decide),λ_=>?_,λe=>absurd e (by show¬(1:Int)=4;decide)⟩;exact hv.mono (by dsimp only;omega)
def Ae {c:cA}{code:List In}{b:B.St}(hb:BB c 0 b)(hx:XG c code b.x)(hm:b.x.mark≤2000+100*b.u):BB c 1 (B.ny c b)∧BV c (2000+100*b.u+98) (B.ny c b).x:=by
 have hd:=hx.dn;have hu:=hb.u;have hr:=hb.rows;have d1:=lS b.x.w (at_ c 8 b.u 0) (IntKind.u64.wrap b.x.rc);have d2:=lS (P.cU b.x.w (at_ c 8 b.u 0) (IntKind.u64.wrap b.x.rc)) (at_ c 9 b.u 0) b.x.rv;have d3:=lS (P.cU (P.cU b.x.w (at_ c 8 b.u 0) (IntKind.u64.wrap b.x.rc)) (at_ c 9 b.u 0) b.x.rv) (at_ c 7 b.u 0) b.an;unfold B.ny;refine⟨{hb with rows:=by dsimp only;rw[eE];simp only[dT,mD];omega,news:=λr hr=>?_},?_⟩
 ·rcases jQ.1 hr with h1|h1
  ·exact hb.news r h1
  ·simp only[jO]at h1;subst h1;exact⟨hx.xv.news,hb.an,hx.rv⟩
 ·exact⟨by dsimp only;omega,oV (oV (oV hx.xv.wu _ (Ds _)) _ hx.rv) _ hb.an,hx.xv.vs,hx.xv.vv,hx.xv.nt,hx.xv.nl⟩
def BI.A_ {c:cA}(aE:Y.Ok c){ai:List (List In)}{b:B.St}(h:BI c ai b)(hs:b.s=0)(h4:b.next=4):BI c ai (B.A_ c b):=by
 obtain⟨hx,hm,hc⟩:=h.x4 h4;unfold B.A_;split
 ·exact{h with bb:={h.bb with us:=λe=>absurd e (by show¬(2:Int)=0;decide),s:=⟨by(try dsimp only);decide,by(try dsimp only);decide⟩},g3:=λe=>absurd e (by show¬(2:Int)=0;decide)}
 ·split
  ·have h1:=Ae h.bb hx hm;exact BI.pass aE h1.1 hs h1.2
  ·exact h
def PU (ai:List (List In)):Prop:=∀code∈ai,ai0 code
def PU.code {ai:List (List In)}(h:PU ai)(k:Int):sJ (B.bU ai k):=by
 unfold B.bU;split
 ·by_cases hl:k.toNat<ai.length
  ·rw[show ai.getD k.toNat []=ai[k.toNat] by simp[List.getD,hl]];exact .inr (h _ (cJ hl))
  ·exact .inl (by simp[List.getD,lg (show ai.length≤k.toNat by omega)])
 ·exact .inl rfl
def BI.dI {c:cA}(aE:Y.Ok c){ai:List (List In)}(hP:PU ai){b:B.St}(hb:BB c 0 b)(hs:b.s=0)(hv:BV c (2000+100*b.u) b.x):BI c ai (B.dI c ai b):=by
 have hu:=hb.u;have ht:=aE.t8;have hd:=hv.dn;have h1:=XG.new (c:=c) (hP.code b.av) b.args (v:=b.x.v) (p:=b.x.p) (s:=b.x.w) (by omega) hv.wu hv.vs hv.vv hv.nt hv.nl;unfold B.dI;refine BI.A_ aE ?_ hs rfl;exact⟨{hb with},⟨by(try dsimp only);decide,by(try dsimp only);decide⟩,λ_ e=>absurd e (by show¬(4:Int)=3;decide),λe=>absurd e (by show¬(4:Int)=0;decide),λe=>absurd rfl e,λ_=>⟨h1,by dsimp only;rw[Su];omega,rfl⟩⟩
def BV.zap {c:cA}{m:Int}{x:X.St}(h:BV c m x)(v:Vw.V)(hs:Vw.VS v)(hv:W.U_ v.val):BV c m {x with v:=v}:={h with vs:=hs,vv:=hv}
def BI.tag {c}(aE:Y.Ok c){ai b}(hb:BB c 0 b)(hs:b.s=0)(hn:b.next=2)(hv:BV c (2000+100*b.u) b.x):BI c ai (B.tag c b):=by
 unfold B.tag;split
 ·exact⟨{hb with us:=λe=>absurd e (by show¬(2:Int)=0;decide),s:=⟨by(try dsimp only);decide,by(try dsimp only);decide⟩},by dsimp only;omega,λe=>absurd e (by show¬(2:Int)=0;decide),λe=>by dsimp only at e;omega,λ_=>hv,λe=>by dsimp only at e;omega⟩
 ·split
  ·exact BI.pass aE {hb with rows:=by have:=hb.rows;omega} hs (hv.mono (by omega))
  ·exact⟨{hb with given:=⟨by(try dsimp only);decide,by(try dsimp only);decide⟩},⟨by(try dsimp only);decide,by(try dsimp only);decide⟩,λ_ _=>by show(0:Int)<4;decide,λe=>absurd e (by show¬(3:Int)=0;decide),λ_=>hv,λe=>absurd e (by show¬(3:Int)=4;decide)⟩
def BI.je {c:cA}(aE:Y.Ok c){ai:List (List In)}{b:B.St}(hb:BB c 0 b)(hs:b.s=0)(hv:BV c (2000+100*b.u) b.x):BI c ai (B.je c b):=by
 unfold B.je;split
 ·exact BI.pass aE {hb with rows:=by have:=hb.rows;omega} hs (hv.mono (by omega))
 ·exact⟨{hb with},⟨by(try dsimp only);decide,by(try dsimp only);decide⟩,λ_ e=>absurd e (by show¬(2:Int)=3;decide),λe=>absurd e (by show¬(2:Int)=0;decide),λ_=>hv.zap _ (hv.vs.cell _) (lr _ hv.vv),λe=>absurd e (by show¬(2:Int)=4;decide)⟩
def mQ (c):∀(l:List Int) (k kept:Int) (x:P.St×W.S),(∀b∈l,W.U_ b)→0≤kept→(0≤x.1.nt∧x.1.nt≤c.b)→W.ou x.2→
 (0≤(P.fP c l k kept x).1.nt∧(P.fP c l k kept x).1.nt≤c.b)∧W.ou (P.fP c l k kept x).2.1∧(P.fP c l k kept x).2.1.done.length≤x.2.done.length+2*l.length∧(0≤(P.fP c l k kept x).2.2∧(P.fP c l k kept x).2.2≤kept+l.length)
 |[],k,kept,x,_,h1,h2,h3=>⟨h2,h3,by simp[P.fP],by simp[P.fP];omega⟩
 |b::r,k,kept,x,hl,h1,h2,h3=>by
  have h0:W.U_ 0:=⟨by(try dsimp only);decide,by(try dsimp only);decide⟩;have hb:=hl b List.mem_cons_self;have Il:∀b∈r,W.U_ b:=λb hb=>hl b (oB _ hb);unfold P.fP;have d1:=lS x.2 (at_ c 11 b 0) 0;have d2:=lS (P.cU x.2 (at_ c 11 b 0) 0) (at_ c 13 x.1.nt 0) b;have d3:=lS x.2 (at_ c 15 kept 0) b;simp only[dT];split
  ·have:=mQ c r (k+1) kept x Il h1 h2 h3;exact⟨this.1,this.2.1,fT this.2.2.1 (by omega),this.2.2.2.1,oJ this.2.2.2.2 (by omega)⟩
  split
  ·unfold P.release;split
   ·rename_i hc;have:=mQ c r (k+1) kept ({x.1 with nt:=x.1.nt+1},P.cU (P.cU x.2 (at_ c 11 b 0) 0) (at_ c 13 x.1.nt 0) b) Il h1 (by dsimp only;omega) (oV (oV h3 _ h0) _ hb);dsimp only at this;exact⟨this.1,this.2.1,fT this.2.2.1 (by omega),this.2.2.2.1,oJ this.2.2.2.2 (by omega)⟩
   ·have:=mQ c r (k+1) kept (x.1,P.cU x.2 (at_ c 11 b 0) 0) Il h1 h2 (oV h3 _ h0);dsimp only at this;exact⟨this.1,this.2.1,fT this.2.2.1 (by omega),this.2.2.2.1,oJ this.2.2.2.2 (by omega)⟩
  split
  ·have:=mQ c r (k+1) (kept+1) (x.1,P.cU x.2 (at_ c 15 kept 0) b) Il (by omega) h2 (oV h3 _ hb);dsimp only at this;exact⟨this.1,this.2.1,fT this.2.2.1 (by omega),this.2.2.2.1,oJ this.2.2.2.2 (by omega)⟩
  ·have:=mQ c r (k+1) (kept+1) x Il (by omega) h2 h3;exact⟨this.1,this.2.1,fT this.2.2.1 (by omega),this.2.2.2.1,oJ this.2.2.2.2 (by omega)⟩
def BI.mL {c:cA}(aE:Y.Ok c){ai:List (List In)}{b:B.St}(hb:BB c 0 b)(hs:b.s=0)(hn:b.next=0)(hp:P.Ok c b.x.p)(hd:b.x.w.done=[])(hv:BV c (2000+100*b.u) b.x):BI c ai (B.mL c b):=by
 have hu:=hb.u;unfold B.mL;split
 ·exact⟨{hb with us:=λe=>absurd e (by show¬(2:Int)=0;decide),s:=⟨by(try dsimp only);decide,by(try dsimp only);decide⟩},by dsimp only;omega,λe=>absurd e (by show¬(2:Int)=0;decide),λ_=>⟨hp,hd⟩,λ_=>hv,λe=>by dsimp only at e;omega⟩
 ·split
  ·unfold B.settled;refine⟨{hb with},⟨by(try dsimp only);decide,by(try dsimp only);decide⟩,λ_ e=>absurd e (by show¬(1:Int)=3;decide),λe=>absurd e (by show¬(1:Int)=0;decide),λ_=>?_,λe=>absurd e (by show¬(1:Int)=4;decide)⟩;have h1:=mQ c b.x.p.bS 0 0 (b.x.p,b.x.w) hp.bS (by decide) hp.nt hv.wu;have hl:=hp.len;have vu:=hp.wl;have SV:=oP aE;have h0:b.x.w.done.length=0:=by rw[hd];rfl
   unfold P.settle;dsimp only at h1⊢;exact⟨by dsimp only;omega,h1.2.1,hv.vs,hv.vv,h1.1,by dsimp only;omega⟩
  ·exact⟨{hb with},by omega,λ_ e=>by omega,λ_=>⟨hp,hd⟩,λ_=>hv,λe=>by omega⟩
def BI.tell {c:cA}(aE:Y.Ok c){ai:List (List In)}(hP:PU ai){b:B.St}(h:BI c ai b)(seq val n:Int)(hv:W.U_ val)(hn:W.U_ n):BI c ai (B.tell c ai seq val n b):=by
 have hb:=h.bb;have kT:=h.next;unfold B.tell;split
 ·exact h
 ·rename_i hs;have hs:b.s=0:=by omega
  split
  ·rename_i h0;have hz:=h.z h0;refine BI.mL aE (b:={b with x:={b.x with p:=P.tell c seq val n b.x.p}}) {hb with} hs h0 (P.vw aE hz.1 seq val n hv) hz.2 ?_;have hx:=h.xv (by omega);exact{hx with nt:=(P.vw aE hz.1 seq val n hv).nt,nl:=(P.vw aE hz.1 seq val n hv).nl}
  split
  ·rename_i h0 h1;exact BI.je aE (b:={b with av:=val,an:=n}) {hb with av:=hv,an:=hn} hs (h.xv (by omega))
  split
  ·rename_i h0 h1 h2;have hx:=h.xv (by omega);exact BI.tag aE (b:={b with x:={b.x with v:=Vw.tell seq val n b.x.v}}) {hb with} hs h2 (hx.zap _ (hx.vs.tell _ _ _) (vF seq val n hv hx.vv))
  split
  ·rename_i h0 h1 h2 h3;have hx:=h.xv (by omega);have hg:=h.g3 hs h3;have Xj:=hb.given;have p6:∀r∈b.args.set b.given.toNat val,W.U_ r:=λr hr=>by
    rcases k_ hr with h1|h1
    ·exact hb.au r h1
    ·subst h1;exact hv
   have yU:BB c 0 {b with args:=b.args.set b.given.toNat val,given:=b.given+1}:={hb with args:=by dsimp only;rw[cF];exact hb.args,au:=p6,given:=by dsimp only;omega};split
   ·exact BI.dI aE hP yU hs hx
   ·rename_i h4;exact⟨yU,kT,λ_ _=>by dsimp only;omega,λe=>by dsimp only at e;omega,λ_=>hx,λe=>by dsimp only at e;omega⟩
  ·rename_i h0 h1 h2 h3;have h4:b.next=4:=by omega
   obtain⟨hx,hm,hc⟩:=h.x4 h4;refine BI.A_ aE ?_ hs h4;exact⟨{hb with},kT,λ_ e=>by dsimp only at e;omega,λe=>by dsimp only at e;omega,λe=>absurd h4 e,λ_=>⟨hx.tell _ seq val n hv,by dsimp only;rw[eK];exact hm,hc⟩⟩
end Go.Proofs.YtolkmchicplaoaaGreat
namespace Go.Proofs.YtolkmchicplaoaaGreat
open Go.RowKit Go.aS Go.aS.I_ Go.aS.Y
def WK (c:Y.cA)(Q:W.S→Prop):Prop:=∀s v,Q s→Q (P.cU s (X.zR c) v)
section
variable {c:Y.cA} {Q:W.S→Prop} {x:X.St}
def WK.fin (h:WK c Q)(hx:Q x.w)(code:List In)(args:List Int)(r:Int):Q (X.fin c code args r x).w:=by
 unfold X.fin;split
 ·exact h _ _ hx
 ·split
  ·exact h _ _ hx
  ·exact hx
def WK.look (h:WK c Q)(hx:Q x.w)(code:List In)(args:List Int):Q (X.look c code args x).w:=by
 unfold X.look;split
 ·exact hx
 ·split
  ·exact hx
  ·exact h.fin hx _ _ _
def WK.new (code:List In)(args:List Int)(v:Vw.V)(p:P.St){w:W.S}(h:WK c Q)(hw:Q w):Q (X.new c code args v p w).w:=by
 unfold X.new;split
 ·exact hw
 ·split
  ·exact h.fin (x:=X.eB v p w) hw _ _ _
  ·exact h.look (x:={X.eB v p w with v:=Vw.cell (X.zR c) v}) hw _ _
def WK.tell (h:WK c Q)(hx:Q x.w)(code:List In)(args:List Int)(seq v n:Int):Q (X.tell c code args seq v n x).w:=by
 unfold X.tell;split
 ·exact hx
 ·exact h.look (x:={x with v:=Vw.tell seq v n x.v}) hx _ _
end
def VI (c:Y.cA)(v:Vw.V):Prop:=v.step=3→0≤v.at_∧v.at_<size c∧7≤(jt c v.at_).1
def Js {c p}(h:0≤(jt c p).1):0≤p∧p<size c:=by
 unfold jt at h;split at h
 ·assumption
 ·dsimp only at h;omega
def Ku {c kd i j}(h:at_ c kd i j≠-1):Is c kd i j∧at_ c kd i j=place c kd i j:=by
 unfold at_ at h⊢;split
 ·rename_i h1;exact⟨h1,rfl⟩
 ·rename_i h1;rw[aq h1]at h;exact absurd rfl h
def pL {c}(aE:Y.Ok c){kd i j}(h:at_ c kd i j≠-1):jt c (at_ c kd i j)=(kd,i,j):=by
 have h1:=Ku h;rw[h1.2];exact lD aE h1.1
def VI.idle {c:Y.cA}{v:Vw.V}(h:v.step=0):VI c v:=λe=>by omega
def VI.cell {c:Y.cA}{v:Vw.V}(h:VI c v){p:Int}(hi:Vw.inner c p=true):VI c (Vw.cell p v):=by
 unfold Vw.cell;split
 ·exact h
 ·unfold Vw.inner at hi;simp only[gG]at hi;have:=Js (c:=c) (p:=p) (by omega);exact λ_=>by dsimp only;omega
def VI.tell {c:Y.cA}{v:Vw.V}(h:VI c v)(seq x n:Int):VI c (Vw.tell seq x n v):=by
 unfold Vw.tell;split
 ·split
  ·exact VI.idle rfl
  ·exact VI.idle rfl
 ·exact h
def xi (c:Y.cA)(code:List In)(args:List Int)(r:Int)(x:X.St):(X.fin c code args r x).v=x.v:=by
 unfold X.fin;split
 ·rfl
 ·split<;>rfl
def ru (c:Y.cA)(code:List In)(args:List Int)(x:X.St):(X.look c code args x).v=x.v:=by
 unfold X.look;split
 ·rfl
 ·split
  ·rfl
  ·exact xi _ _ _ _ _
def aa8 {c:Y.cA}(aE:Y.Ok c)(code:List In)(args:List Int){v:Vw.V}(p:P.St)(w:W.S)(h:VI c v):VI c (X.new c code args v p w).v:=by
 unfold X.new;split
 ·exact h
 ·split
  ·rw[xi];exact h
  ·rw[ru];exact h.cell (jd aE)
def Wq {c:Y.cA}{x:X.St}(h:VI c x.v)(code:List In)(args:List Int)(seq v n:Int):VI c (X.tell c code args seq v n x).v:=by
 unfold X.tell;split
 ·exact h
 ·rw[ru];exact h.tell seq v n
end Go.Proofs.YtolkmchicplaoaaGreat
namespace Go.aS.W
def look:List (Int×Int)→Int→Option Int
 |[],_=>none
 |e::l,a=>if e.1=a then some e.2 else look l a
def Gt (e:Int×Int)(l a):idx (e::l) a=if e.1=a then some 0 else(idx l a).map (·+1):=by
 unfold idx;rw[List.findIdx?_cons];by_cases h:e.1=a
 ·simp[h]
 ·simp[h]
def Gu:∀(l:List (Int×Int)) (a:Int),look l a=(idx l a).map (λi=>(l.getD i (0,0)).2)
 |[],a=>rfl
 |e::l,a=>by
  rw[Gt];unfold look;split
  ·rfl
  ·rw[Gu l a,Option.map_map];rfl
def aG9 (s:S)(a:Int):get s a=((look s.list a).getD 0,(look s.list a).isSome):=by
 unfold get;rw[Gu];cases idx s.list a<;>rfl
def AO:∀(l m:List (Int×Int)) (a:Int),look (l++m) a=(look l a).or (look m a)
 |[],m,a=>by simp[look]
 |e::l,m,a=>by
  show(if e.1=a then some e.2 else look (l++m) a)=(if e.1=a then some e.2 else look l a).or (look m a);split
  ·rfl
  ·exact AO l m a
def AP:∀(l:List (Int×Int)) (i:Nat) (a v b:Int),idx l a=some i→look (l.set i (a,v)) b=if b=a then some v else look l b
 |[],i,a,v,b,h=>by cases h
 |e::l,i,a,v,b,h=>by
  rw[Gt]at h;by_cases e1:e.1=a
  ·rw[aB e1]at h;obtain rfl:=eQ h;rw[aL];unfold look;dsimp only;by_cases e2:b=a
   ·rw[aB e2.symm,aB e2]
   ·rw[aq (λh=>e2 h.symm),aq e2,aq (by rw[e1];exact λh=>e2 h.symm)]
  ·rw[aq e1]at h;cases hi:idx l a with
   |none=>rw[hi]at h;cases h
   |some j=>
    rw[hi]at h;obtain rfl:=eQ h;rw[aN];unfold look;have ih:=AP l j a v b hi;by_cases e2:e.1=b
    ·rw[aB e2,aB e2,aq (by rw[←e2];exact e1)]
    ·rw[aq e2,aq e2,ih]
def Nw {l a}(h:idx l a=none):look l a=none:=by rw[Gu,h];rfl
def CM (s a v b)(h:b≠a):look (put s a v).1.list b=look s.list b:=by
 unfold put;split
 ·rename_i i hi;dsimp only;rw[AP _ _ _ _ _ hi,aq h]
 ·split
  ·rfl
  ·dsimp only;rw[AO];unfold look;rw[aq (λe=>h e.symm)];unfold look;simp
def Sw (s a v)(h:s.list.length<s.room∨(look s.list a).isSome=true):look (put s a v).1.list a=some v:=by
 unfold put;split
 ·rename_i i hi;dsimp only;rw[AP _ _ _ _ _ hi,aB rfl]
 ·rename_i hn;have h2:=Nw hn;split
  ·rename_i hr;rcases h with h|h
   ·omega
   ·rw[h2]at h;cases h
  ·dsimp only;rw[AO,h2];unfold look;simp
def keys (l:List (Int×Int)):List Int:=l.map (·.1)
def Wr {l a}(h:idx l a=none):a∉keys l:=by
 intro hm;unfold keys at hm;rw[mE]at hm;obtain⟨e,he,rfl⟩:=hm;obtain⟨i,hi,e2⟩:=qO he;exact vm h i hi (by rw[e2])
def Gv (s a v):keys (put s a v).1.list=keys s.list∨(a∉keys s.list∧keys (put s a v).1.list=keys s.list++[a]):=by
 unfold put;split
 ·rename_i i hi;obtain⟨hl,ha⟩:=kQ hi;left;dsimp only;unfold keys;rw[kE];apply uN;intro j;rw[tU];split
  ·rename_i e;subst e;rw[jE,cy hl];simp[hl,ha]
  ·rfl
 ·rename_i hn;split
  ·left;rfl
  ·right;exact⟨Wr hn,by unfold keys;simp⟩
def Nx {s}(h:(keys s.list).Nodup)(a v):(keys (put s a v).1.list).Nodup:=by
 rcases Gv s a v with e|⟨h1,e⟩
 ·rw[e];exact h
 ·rw[e,List.nodup_append];exact⟨h,by simp,λx hx y hy=>by rw[jO]at hy;subst hy;exact λe=>h1 (e▸hx)⟩
def Kv (s a v):s.done.length≤(put s a v).1.done.length:=by
 unfold put;split
 ·simp
 ·split
  ·exact dp _
  ·simp
def zH {s:S}(h:s.list.length≤s.done.length)(a v:Int):(put s a v).1.list.length≤(put s a v).1.done.length:=by
 unfold put;split
 ·simp;omega
 ·split
  ·exact h
  ·simp;omega
end Go.aS.W
namespace Go.Proofs.YtolkmchicplaoaaGreat
open Go.RowKit Go.aS Go.aS.I_ Go.aS.Y
def Key (c:Y.cA)(a:Int):Prop:=a= -1∨7≤(jt c a).1
def Sz {c}(aE:Y.Ok c){kd}(h:7≤kd)(i j):Key c (at_ c kd i j):=by
 by_cases e:at_ c kd i j= -1
 ·exact .inl e
 ·right;rw[pL aE e];exact h
structure WG (c:Y.cA)(s:W.S):Prop where
 room:s.room=(cap c).toNat
 le:s.list.length≤s.done.length
 nodup:(W.keys s.list).Nodup
 keys:∀a∈W.keys s.list,Key c a
def WG.put {c:Y.cA}{s:W.S}(h:WG c s){a:Int}(ha:Key c a)(v:Int):WG c (P.cU s a v):=by
 refine⟨(W.Pc s a v).trans h.room,W.zH h.le a v,W.Nx h.nodup a v,λb hb=>?_⟩;rcases W.Gv s a v with e|⟨_,e⟩
 ·rw[show W.keys (P.cU s a v).list=_ from e]at hb;exact h.keys b hb
 ·rw[show W.keys (P.cU s a v).list=_ from e]at hb;rcases jQ.1 hb with h1|h1
  ·exact h.keys b h1
  ·rw[jO.1 h1];exact ha
def WG.new (c:Y.cA):WG c ⟨(cap c).toNat,[],[]⟩:=⟨rfl,dp _,by simp[W.keys],by simp[W.keys]⟩
def calm (c:Y.cA)(a:Int):Prop:=a≠-1∧(jt c a).1≠10
def Ws {c:Y.cA}(aE:Y.Ok c){a:Int}(h:calm c a):a≠X.zR c:=by
 intro e;have hw:=pL aE (c:=c) (kd:=10) (i:=0) (j:=0) (by rw[show at_ c 10 0 0=a from e.symm];exact h.1);exact h.2 (by rw[e];exact congrArg Prod.fst hw)
structure QX (c:Y.cA)(w0 s:W.S):Prop where
 g:WG c s
 le:w0.done.length≤s.done.length
 low:∀a,calm c a→W.look s.list a=W.look w0.list a
def QX.start {c:Y.cA}{w0:W.S}(h:WG c w0):QX c w0 w0:=⟨h,dp _,λ_ _=>rfl⟩
def QX.wk {c:Y.cA}(aE:Y.Ok c)(w0:W.S):WK c (QX c w0):=by
 refine λs v hq=>⟨hq.g.put (Sz aE (by omega) 0 0) v,fT hq.le (W.Kv s _ v),λa ha=>?_⟩;show W.look (W.put s _ v).1.list a=_;rw[W.CM _ _ _ _ (Ws aE ha)];exact hq.low a ha
def nd (c:Y.cA)(u:Int):Int:=2*b_ c+u*(c.w+3)
def Kw (c u):nd c (u+1)=nd c u+(c.w+3):=by unfold nd;rw[Int.add_mul];omega
def al6 {c}(aE:Y.Ok c){u}(h:u≤c.t):nd c u+b_ c+2≤cap c:=by
 have:=aE.w0;have h2:u*(c.w+3)≤c.t*(c.w+3):=CU h (by omega);unfold nd cap;omega
def Wu (c):nd c 0=2*b_ c:=by unfold nd;omega
def Kx (rows:List B.Row)(u:Int):Option Int:=(rows.find? (λr=>decide (r.aw=u))).map (·.tag)
def Nz (rows r u)(h:∀x∈rows,x.aw≠r.aw):Kx (rows++[r]) u=if u=r.aw then some r.tag else Kx rows u:=by
 unfold Kx;rw[List.find?_append];by_cases e:u=r.aw
 ·subst e;rw[aB rfl];have:rows.find? (λx=>decide (x.aw=r.aw))=none:=by
   rw[List.find?_eq_none];intro x hx;simp[h x hx]
  rw[this];simp
 ·rw[aq e];have: [r].find? (λx=>decide (x.aw=u))=none:=by
   rw[List.find?_eq_none];intro x hx;rw[jO]at hx;subst hx;simp;exact λh=>e h.symm
  rw[this];simp
structure BS (c:Y.cA)(y:B.St)(k:Int)(w:W.S):Prop where
 g:WG c w
 dn:(w.done.length:Int)≤nd c y.u+k
 tags:∀u,0≤u→u<c.t→W.look w.list (at_ c 7 u 0)=Kx y.rows u
structure Tm (y:B.St)(k:Int):Prop where
 aw:∀r∈y.rows,0≤r.aw∧r.aw<y.u+k
 ord:y.rows.Pairwise (λa b=>a.aw<b.aw)
structure BJ (c:Y.cA)(y:B.St):Prop where
 z:y.next=0→y.x.w=⟨(cap c).toNat,[],[]⟩∧y.u=0∧y.rows=[]
 w:y.next≠0→y.next≠4→y.s≠1→BS c y 0 y.x.w
 w1:y.s=1→BS c y 2 y.x.w
 x4:y.next=4→∃w0,BS c y 0 w0∧(w0.done.length:Int)=y.x.mark∧QX c w0 y.x.w
 r:Tm y 0
def BJ.new (c):BJ c (B.fw c):=
 ⟨λ_=>⟨rfl,rfl,rfl⟩,λh=>absurd rfl h,λh=>absurd h (by show¬(0:Int)=1;decide),λh=>absurd h (by show¬(0:Int)=4;decide),⟨by simp[B.fw],by simp[B.fw]⟩⟩
def AQ {c}(aE:Y.Ok c){kd u}(hk:3≤kd∧kd≤9∧kd≠6)(h0:0≤u)(h1:u<c.t):at_ c kd u 0≠-1:=by
 have h2:Is c kd u 0:=by
  unfold Is cr aP each;have:=aE.t1;refine⟨h0,?_,by omega,?_⟩
  ·repeat' split
   all_goals omega
  ·repeat' split
   all_goals omega
 unfold at_;rw[aB h2];intro e;have h3:=lD aE h2;rw[e]at h3;unfold jt at h3;rw[aq (by omega)]at h3;have:=congrArg (·.1) h3;dsimp only at this;omega
def SA {c}(aE:Y.Ok c){kd i j En i2 j2}(h:at_ c kd i j≠-1)(e:at_ c kd i j=at_ c En i2 j2):kd=En∧i=i2∧j=j2:=by
 have h1:=pL aE h;have h2:=pL aE (c:=c) (kd:=En) (i:=i2) (j:=j2) (by rw[←e];exact h);rw[e,h2]at h1;simp only[nL]at h1;omega
def CN (s a v b)(h:b≠a):W.look (P.cU s a v).list b=W.look s.list b:=W.CM s a v b h
def BS.put {c}(aE:Y.Ok c){y k w}(h:BS c y k w){kd}(i j v)(hk:8≤kd):BS c y (k+1) (P.cU w (at_ c kd i j) v):=by
 have hd:=lS w (at_ c kd i j) v;have:=h.dn;refine⟨h.g.put (Sz aE (by omega) i j) v,by omega,λu h0 h1=>?_⟩;rw[CN,h.tags u h0 h1];intro e;have:=(SA aE (AQ aE (by omega) h0 h1) e).1;omega
def BS.end_ {c}(aE:Y.Ok c){y w}(h:BS c y 0 w)(p):BS c y 2 (P.end_ c p w):=by
 have h1:BS c y 1 (if p.nt≠p.wt then P.cU w (at_ c 12 0 0) p.nt else w):=by
  split
  ·exact h.put aE 0 0 _ (by omega)
  ·exact{h with dn:=by have:=h.dn;omega}
 unfold P.end_;dsimp only;split
 ·exact h1.put aE 0 0 _ (by omega)
 ·exact{h1 with dn:=by have:=h1.dn;omega}
def Tm.more {y}(h:Tm y 0):Tm y 1:=⟨λr hr=>by have:=h.aw r hr;omega,h.ord⟩
def BJ.pass {c}(aE:Y.Ok c){y}(hs:y.s=0)(hw:BS c y (c.w+3) y.x.w)(hr:Tm y 1):BJ c (B.pass c y):=by
 have hn:=Kw c y.u;have hd:=hw.dn;unfold B.pass;split
 ·refine⟨λe=>absurd e (by show¬(1:Int)=0;decide),λ_ _ e=>absurd rfl e,λ_=>?_,λe=>absurd e (by show¬(1:Int)=4;decide),⟨λr h=>by have:=hr.aw r h;dsimp only;omega,hr.ord⟩⟩;have h2:BS c {y with u:=y.u+1} 0 y.x.w:=⟨hw.g,by dsimp only;omega,hw.tags⟩;have h3:=h2.end_ aE y.x.p;exact⟨h3.g,h3.dn,h3.tags⟩
 ·refine⟨λe=>absurd e (by show¬(1:Int)=0;decide),λ_ _ _=>⟨hw.g,by dsimp only;omega,hw.tags⟩,λe=>absurd e (by show¬y.s=1;omega),λe=>absurd e (by show¬(1:Int)=4;decide),⟨λr h=>by have:=hr.aw r h;dsimp only;omega,hr.ord⟩⟩
def BS.more {c y k k2 w}(h:BS c y k w)(hk:k≤k2):BS c y k2 w:={h with dn:=by have:=h.dn;omega}
def BS.ny {c:Y.cA}(aE:Y.Ok c){y:B.St}(hu:0≤y.u∧y.u<c.t){w0:W.S}(h:BS c y 0 w0)(hq:QX c w0 y.x.w)(hd:(y.x.w.done.length:Int)≤nd c y.u+c.w)(hr:Tm y 0):BS c (B.ny c y) (c.w+3) (B.ny c y).x.w∧Tm (B.ny c y) 1:=by
 have ht:BS c y c.w y.x.w:=⟨hq.g,hd,λu h0 h1=>by
  rw[hq.low _ ?_,h.tags u h0 h1];have h2:=AQ aE (kd:=7) (by omega) h0 h1;exact⟨h2,by rw[pL aE h2];dsimp only;omega⟩⟩
 have h1:=ht.put aE (kd:=8) y.u 0 (IntKind.u64.wrap y.x.rc) (by omega);have h2:=h1.put aE (kd:=9) y.u 0 y.x.rv (by omega);have DS:∀x∈y.rows,x.aw≠y.u:=λx hx=>by have:=hr.aw x hx;omega
 have hlen:=h2.g.le;have p5:=h2.dn;have xD:=h2.g.room;have XV:=al6 aE (c:=c) (u:=y.u+1) (by omega);have pH:=Kw c y.u;have hlp:=bK aE;unfold B.ny;generalize P.cU (P.cU y.x.w (at_ c 8 y.u 0) (IntKind.u64.wrap y.x.rc)) (at_ c 9 y.u 0) y.x.rv=w2 at*;have UD:=lS w2 (at_ c 7 y.u 0) y.an;have hu7:=AQ aE (kd:=7) (by omega) hu.1 hu.2;refine⟨⟨h2.g.put (.inr (by rw[pL aE hu7];show(7:Int)≤7;decide)) _,by dsimp only;omega,λu h0 h1=>?_⟩,⟨λr h=>?_,?_⟩⟩
 ·dsimp only;rw[Nz _ _ _ (by dsimp only;exact DS)];dsimp only;split
  ·rename_i e;subst e;exact W.Sw _ _ _ (.inl (by omega))
  ·rename_i e;rw[CN,h2.tags u h0 h1];intro e2;exact e (SA aE (AQ aE (by omega) h0 h1) e2).2.1
 ·rcases jQ.1 h with h1|h1
  ·have:=hr.aw r h1;dsimp only;omega
  ·rw[jO]at h1;subst h1;dsimp only;omega
 ·dsimp only;rw[List.pairwise_append];exact⟨hr.ord,by simp,λa ha b hb=>by rw[jO]at hb;subst hb;have:=hr.aw a ha;dsimp only;omega⟩
def BJ.A_ {c:Y.cA}(aE:Y.Ok c){ai:List (List In)}{y:B.St}(h:BI c ai y)(hs:y.s=0)(h4:y.next=4)(hx:∃w0,BS c y 0 w0∧(w0.done.length:Int)=y.x.mark∧QX c w0 y.x.w)(hr:Tm y 0):BJ c (B.A_ c y):=by
 obtain⟨hX,_⟩:=h.x4 h4;have u_:=aE.w8;have NX:=h.bb.us hs;have hu:=h.bb.u;unfold B.A_;split
 ·exact⟨λe=>by dsimp only at e;omega,λ_ e=>absurd h4 e,λe=>absurd e (by show¬(2:Int)=1;decide),λ_=>by obtain⟨w0,h1,h2⟩:=hx;exact⟨w0,⟨h1.g,h1.dn,h1.tags⟩,h2⟩,⟨hr.aw,hr.ord⟩⟩
 split
 ·obtain⟨w0,h1,h2,h3⟩:=hx;have p5:=hX.dn;have h1d:=h1.dn;have h5:=BS.ny aE ⟨hu.1,NX⟩ h1 h3 (by omega) hr;exact BJ.pass aE hs h5.1 h5.2
 ·exact⟨λe=>by omega,λ_ e=>absurd h4 e,λe=>by omega,λ_=>hx,hr⟩
def mT {c}(aE:Y.Ok c)(y):∀(l:List Int) (k kept:Int) (x:P.St×W.S) (n:Int),BS c y n x.2→BS c y (n+2*l.length) (P.fP c l k kept x).2.1
 |[],k,kept,x,n,h=>by unfold P.fP;exact h.more (by simp)
 |b::r,k,kept,x,n,h=>by
  unfold P.fP;have hl:((b::r).length:Int)=r.length+1:=by simp
  split
  ·exact(mT aE y r _ _ _ _ h).more (by omega)
  split
  ·unfold P.release;split
   ·exact(mT aE y r _ _ ({x.1 with nt:=x.1.nt+1},P.cU (P.cU x.2 (at_ c 11 b 0) 0) (at_ c 13 x.1.nt 0) b) _ ((h.put aE (kd:=11) b 0 0 (by omega)).put aE (kd:=13) x.1.nt 0 b (by omega))).more (by omega)
   ·exact(mT aE y r _ _ (x.1,P.cU x.2 (at_ c 11 b 0) 0) _ (h.put aE (kd:=11) b 0 0 (by omega))).more (by omega)
  split
  ·exact(mT aE y r _ _ (x.1,P.cU x.2 (at_ c 15 kept 0) b) _ (h.put aE (kd:=15) kept 0 b (by omega))).more (by omega)
  ·exact(mT aE y r _ _ _ _ h).more (by omega)
def BJ.dI {c:Y.cA}(aE:Y.Ok c){ai:List (List In)}(hP:PU ai){y:B.St}(hI:BI c ai (B.dI c ai y))(hb:BB c 0 y)(hv:BV c (2000+100*y.u) y.x)(hs:y.s=0)(hw:BS c y 0 y.x.w)(hr:Tm y 0):BJ c (B.dI c ai y):=by
 have hu:=hb.u;have ht:=aE.t8;have hd:=hv.dn;have h1:=XG.new (c:=c) (hP.code y.av) y.args (v:=y.x.v) (p:=y.x.p) (s:=y.x.w) (by omega) hv.wu hv.vs hv.vv hv.nt hv.nl;have hq:QX c y.x.w (X.new c (B.bU ai y.av) y.args y.x.v y.x.p y.x.w).w:=WK.new _ _ _ _ (QX.wk aE _) (QX.start hw.g);have hm:=Su c (B.bU ai y.av) y.args y.x.v y.x.p y.x.w;unfold B.dI;refine BJ.A_ aE (ai:=ai) ?_ hs rfl ⟨y.x.w,⟨hw.g,hw.dn,hw.tags⟩,hm.symm,hq⟩ ⟨hr.aw,hr.ord⟩;exact⟨{hb with},⟨by(try dsimp only);decide,by(try dsimp only);decide⟩,λ_ e=>absurd e (by show¬(4:Int)=3;decide),λe=>absurd e (by show¬(4:Int)=0;decide),λe=>absurd rfl e,λ_=>⟨h1,by dsimp only;rw[hm];omega,rfl⟩⟩
def BJ.tell {c:Y.cA}(aE:Y.Ok c){ai:List (List In)}(hP:PU ai){y:B.St}(hI:BI c ai y)(h:BJ c y)(seq val n:Int)(hv:W.U_ val)(hn:W.U_ n):BJ c (B.tell c ai seq val n y):=by
 have hb:=hI.bb;have kT:=hI.next;have uH:=hI.tell aE hP seq val n hv hn;unfold B.tell at uH⊢;split
 ·exact h
 ·rename_i hs;rw[aq hs]at uH;have hs:y.s=0:=by omega
  split
  ·rename_i h0;rw[aB h0]at uH;obtain⟨hw,P_,N0⟩:=h.z h0;have hz:=hI.z h0;have tK:=P.vw aE hz.1 seq val n hv;generalize P.tell c seq val n y.x.p=p2 at*;have WL:∀y2:B.St,y2.rows=y.rows→Tm y2 0:=λy2 e=>⟨λr hr=>by rw[e,N0]at hr;simp at hr,by rw[e,N0];simp⟩;unfold B.mL;split
   ·exact⟨λ_=>⟨hw,P_,N0⟩,λe=>absurd h0 e,λe=>absurd e (by show¬(2:Int)=1;decide),λe=>by dsimp only at e;omega,WL _ rfl⟩
   split
   ·unfold B.settled;refine⟨λe=>absurd e (by show¬(1:Int)=0;decide),λ_ _ _=>?_,λe=>by dsimp only at e;omega,λe=>absurd e (by show¬(1:Int)=4;decide),WL _ rfl⟩;have h1:BS c y (-(2*b_ c)) y.x.w:=⟨by rw[hw];exact WG.new c,by rw[hw,P_,Wu];show(0:Int)≤_;omega,λu _ _=>by rw[hw,N0];rfl⟩;have h2:=mT aE y p2.bS 0 0 (p2,y.x.w) _ h1;have hl:=tK.len;have vu:=tK.wl;have h3:=h2.more (k2:=0) (by omega);unfold P.settle;dsimp only;exact⟨h3.g,h3.dn,h3.tags⟩
   ·exact⟨λ_=>⟨hw,P_,N0⟩,λe=>absurd h0 e,λe=>by dsimp only at e;omega,λe=>by dsimp only at e;omega,WL _ rfl⟩
  rename_i h0;rw[aq h0]at uH;split
  ·rename_i h1;rw[aB h1]at uH;have hw:=h.w h0 (by omega) (by omega);unfold B.je;split
   ·exact BJ.pass (y:={y with av:=val,an:=n}) aE hs (BS.more (y:={y with av:=val,an:=n}) (k:=0) ⟨hw.g,hw.dn,hw.tags⟩ (by have:=aE.w0;omega)) ⟨λr hr=>by have:=h.r.aw r hr;dsimp only;omega,h.r.ord⟩
   ·exact⟨λe=>absurd e (by show¬(2:Int)=0;decide),λ_ _ _=>⟨hw.g,hw.dn,hw.tags⟩,λe=>by dsimp only at e;omega,λe=>absurd e (by show¬(2:Int)=4;decide),⟨h.r.aw,h.r.ord⟩⟩
  rename_i h1;rw[aq h1]at uH;split
  ·rename_i h2;have hw:=h.w h0 (by omega) (by omega);unfold B.tag;split
   ·exact⟨λe=>by dsimp only at e;omega,λ_ _ _=>⟨hw.g,hw.dn,hw.tags⟩,λe=>absurd e (by show¬(2:Int)=1;decide),λe=>by dsimp only at e;omega,⟨h.r.aw,h.r.ord⟩⟩
   split
   ·exact BJ.pass (y:={y with x:={y.x with v:=Vw.tell seq val n y.x.v}}) aE hs (BS.more (y:={y with x:={y.x with v:=Vw.tell seq val n y.x.v}}) (k:=0) ⟨hw.g,hw.dn,hw.tags⟩ (by have:=aE.w0;omega)) ⟨λr hr=>by have:=h.r.aw r hr;dsimp only;omega,h.r.ord⟩
   ·exact⟨λe=>absurd e (by show¬(3:Int)=0;decide),λ_ _ _=>⟨hw.g,hw.dn,hw.tags⟩,λe=>by dsimp only at e;omega,λe=>absurd e (by show¬(3:Int)=4;decide),⟨h.r.aw,h.r.ord⟩⟩
  rename_i h2;rw[aq h2]at uH;split
  ·rename_i h3;rw[aB h3]at uH;have hw:=h.w h0 (by omega) (by omega);have hx:=hI.xv (by omega);have Xj:=hb.given;have hg:=hI.g3 hs h3;have p6:∀r∈y.args.set y.given.toNat val,W.U_ r:=λr hr=>by
    rcases k_ hr with h1|h1
    ·exact hb.au r h1
    ·subst h1;exact hv
   have yU:BB c 0 {y with args:=y.args.set y.given.toNat val,given:=y.given+1}:={hb with args:=by dsimp only;rw[cF];exact hb.args,au:=p6,given:=by dsimp only;omega};split
   ·rename_i h5;rw[aB h5]at uH;exact BJ.dI (y:={y with args:=y.args.set y.given.toNat val,given:=y.given+1}) aE hP uH yU hx hs ⟨hw.g,hw.dn,hw.tags⟩ ⟨h.r.aw,h.r.ord⟩
   ·exact⟨λe=>by dsimp only at e;omega,λ_ _ _=>⟨hw.g,hw.dn,hw.tags⟩,λe=>by dsimp only at e;omega,λe=>by dsimp only at e;omega,⟨h.r.aw,h.r.ord⟩⟩
  ·rename_i h3;have h4:y.next=4:=by omega
   obtain⟨hx,hm,hc⟩:=hI.x4 h4;obtain⟨w0,hS,Xz,hq⟩:=h.x4 h4;refine BJ.A_ (y:={y with x:=X.tell c y.code y.args seq val n y.x}) aE (ai:=ai) ?_ hs h4 ⟨w0,⟨hS.g,hS.dn,hS.tags⟩,by dsimp only;rw[eK];exact Xz,WK.tell (QX.wk aE w0) hq _ _ _ _ _⟩ ⟨h.r.aw,h.r.ord⟩;exact⟨{hb with},kT,λ_ e=>by dsimp only at e;omega,λe=>by dsimp only at e;omega,λe=>absurd h4 e,λ_=>⟨hx.tell _ seq val n hv,by dsimp only;rw[eK];exact hm,hc⟩⟩
