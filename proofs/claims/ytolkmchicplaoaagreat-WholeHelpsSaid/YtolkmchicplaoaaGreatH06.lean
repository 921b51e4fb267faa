/- A part of the proof. -/
import Derived.Test.YtolkmchicplaoaaGreatH05
set_option linter.all false
set_option maxHeartbeats 8000000
open Go.Proofs.Tryz
namespace Go.Proofs.YtolkmchicplaoaaGreat
open Go.RowKit Go.aS Go.aS.I_ Go.aS.Y Go.Maps
def countP:List In:=[⟨9,1,2,0,0⟩,⟨0,3,0,0,1⟩,⟨2,1,1,3,0⟩,⟨10,1,2,0,0⟩,⟨20,1,0,0,0⟩]
def qJ {w b}{T:TypeId}{cs}(h:cB w b T cs):(∀j,w.cell? ⟨b,j,none⟩=cs[j]?)∧b<w.heap.size∧∀j,w.frozen? ⟨b,j,none⟩=false:=⟨h.cell,h.lt,h.az⟩
def tL {w b}{T:TypeId}{L}(h:cB w b T L)(o n):w.rangeAt b o ((L.drop o).take n):=λj v hj=>by
 rw[List.getElem?_take]at hj;split at hj
 ·rw[List.getElem?_drop]at hj;exact(h.cell (o+j)).trans hj
 ·cases hj
def aD8 (r1 r3:Int):List Value:=bC [0,r1,0,r3,0,0,0,0,0,0,0,0,0,0,0,0]
def aC0 (nb:Nat)(pick:Value)(r1 r3 st wr pc rv:Int)(en:Bool):List Value:=[O nb,U 0,U 0,U 0,U 0,U 0,U r1,U 0,U r3,U 0,U 0,U 0,U 0,U 0,U 0,U 0,U 0,U 0,U 0,U 0,U 0,I 20,pick,I 0,U rv,I st,I wr,.slice none 0 0,I pc,.bool en]
def au3 (mb:Nat)(v:Int):List Value:=[U v,U 0,U 0,U 0,U 0,U 0,U 0,U 0,U 0,U 0,U 0,U 0,U 0,U 0,U 0,U 0,.map (some mb)]
def runT (rb nb mb:Nat)(pick:Value)(r1 r3 st wr pc rv:Int)(en:Bool)(v:Int)(R:List a_):List a_:=aJ rb 188 (aC0 nb pick r1 r3 st wr pc rv en)::aJ nb 136 (au3 mb v)::R
def aC1 {w0 w R rb nb mb pick v x}(hS:Sep w0 w (runT rb nb mb pick x 1 4 0 4 0 false v R)):
 jh 150 #[O rb,I 10] w (I 0) w0 (runT rb nb mb pick x 1 4 1 4 0 false v R):=by
 unfold runT aC0 au3 at*;have HC:=aa (λw'=>zG w' 10);have HS:=aa hS;clear hS;delta jh;go_in;go_wp2_with fail;refine(HC.out _).kk λw1 hf=>?_;have HS:=aa (HS.fr0 hf).drew;rw[show bV 10=1 from rfl];go_wp2_with fail;obtain⟨hc,hl,hf⟩:=qJ (HS.ar 0 rfl);refine bW [(1,[0,1,2,3,4,5,6,7,8,9,10,11])] (by kernel_rfl) ?_;simp only[zz];repeat(first|go_big_quiet_step(fail)|apply ax|apply af|apply ag|apply ah)
 refine aj ?_;go_wp2;go_ret;exact⟨rfl,HS.set 0 rfl 26 (I 1)⟩
def zq32:(∀{w0 w R rb nb mb pick v}(hS:Sep w0 w (runT rb nb mb pick v 1 5 1 4 0 false v R)),jh 98 #[O rb,.agg #[I 20,I 1,I 0,I 0,U 0]] w (I 0) w0 (runT rb nb mb pick v 1 5 1 5 v true v R))∧(∀{w0 w R rb nb mb pick v}(hv:v=0∨v=1∨v=2)(hS:Sep w0 w (runT rb nb mb pick v 0 2 0 1 0 false v R)),jh 98 #[O rb,.agg #[I 0,I 3,I 0,I 0,U 1]] w (I 0) w0 (runT rb nb mb pick v 1 2 0 2 0 false v R))∧(∀{w0 w R rb nb mb pick v}(hv:v=0∨v=1∨v=2)(hS:Sep w0 w (runT rb nb mb pick v 1 3 0 2 0 false v R)),jh 98 #[O rb,.agg #[I 2,I 1,I 1,I 3,U 0]] w (I 0) w0 (runT rb nb mb pick (v+1) 1 3 0 3 0 false v R))∧(∀{w0 w R rb nb mb pick v}(hS:Sep w0 w (runT rb nb mb pick 0 0 1 0 1 0 false v R)),jh 123 #[O rb,.agg #[I 9,I 1,I 2,I 0,U 0]] w (I 0) w0 (runT rb nb mb pick v 0 1 0 1 0 false v R))∧(∀{w0 w R rb nb mb pick v x}(hS:Sep w0 w (runT rb nb mb pick x 1 4 0 4 0 false v R)),jh 123 #[O rb,.agg #[I 10,I 1,I 2,I 0,U 0]] w (I 0) w0 (runT rb nb mb pick x 1 4 1 4 0 false x R)):=by
 refine⟨?Z,?Y,?X,?J,?G⟩
 case' Z=>intro w0 w R rb nb mb pick v hS;unfold runT aC0 au3 at*;have HS:=aa (hS.new 28 [I 20,I 1,I 0,I 0,U 0]);obtain⟨hc,hl,hf⟩:=qJ (HS.ar 1 rfl);have HS:=aa (HS.set 1 rfl 28 (I 5))
 case' Y=>intro w0 w R rb nb mb pick v hv hS;have HK:=aa (λw'=>zJ w' ⟨0,3,0,0,1⟩ [0,v,0,0,0,0,0,0,0,0,0,0,0,0,0,0] [0,0,0,0] rfl rfl (by intro x hx;simp at hx;omega) (by decide) (by decide) (by decide) (by decide));rw[show reckon ⟨0,3,0,0,1⟩ [0,v,0,0,0,0,0,0,0,0,0,0,0,0,0,0] [0,0,0,0]=1 by rcases hv with rfl|rfl|rfl<;>rfl]at HK;unfold runT aC0 au3 at*;have HS:=aa (hS.new 28 [I 0,I 3,I 0,I 0,U 1]);obtain⟨hc,hl,hf⟩:=qJ (HS.ar 1 rfl);have HS:=aa (HS.set 1 rfl 28 (I 2))
 case' X=>intro w0 w R rb nb mb pick v hv hS;have HK:=aa (λw'=>zJ w' ⟨2,1,1,3,0⟩ [0,v,0,1,0,0,0,0,0,0,0,0,0,0,0,0] [0,0,0,0] rfl rfl (by intro x hx;simp at hx;omega) (by decide) (by decide) (by decide) (by decide));rw[show reckon ⟨2,1,1,3,0⟩ [0,v,0,1,0,0,0,0,0,0,0,0,0,0,0,0] [0,0,0,0]=v+1 by rcases hv with rfl|rfl|rfl<;>rfl]at HK;unfold runT aC0 au3 at*;have HS:=aa (hS.new 28 [I 2,I 1,I 1,I 3,U 0]);obtain⟨hc,hl,hf⟩:=qJ (HS.ar 1 rfl);have HS:=aa (HS.set 1 rfl 28 (I 3))
 case' Z|Y|X=>clear hS;delta jh;go_in;go_wp2_with fail;generalize World.setCell _ _ _=w5 at HS⊢;generalize w.heap.size=bi at HS⊢;clear hc hl hf;simp only[zs]at HS;have HD:=HS.drew
 case' J=>intro w0 w R rb nb mb pick v hS;unfold runT aC0 au3 at*;have HS:=aa (hS.new 28 [I 9,I 1,I 2,I 0,U 0])
 case' G=>intro w0 w R rb nb mb pick v x hS;have HP:=aa (λw' RR=>aC1 (w0:=w0) (w:=w') (R:=RR) (rb:=rb) (nb:=nb) (mb:=mb) (pick:=pick) (v:=v) (x:=x));unfold runT aC0 au3 at*;have HS:=aa (hS.new 28 [I 10,I 1,I 2,I 0,U 0])
 case' J|G=>have HD:=HS.drew;clear hS
 case' Z|Y|X|J|G=>obtain⟨hc,hl,hf⟩:=qJ (HD.ar 1 rfl);obtain⟨ic,il,-⟩:=qJ (HD.ar 0 rfl)
 case' Z=>
  refine bW [(1,[0,2,3,4,5,6,7,8,9,10,11,12]),(0,[1]),(3,[13]),(0,[14,15]),(3,[16])] (by kernel_rfl) ?_;simp only[zz];generalize w5.drew=wd at*;repeat(first|go_big_quiet_step(fail)|apply ax|apply af|apply ag|apply ah)
  refine ao ?_;have HS:=aa ((HD.set 1 rfl 24 (U v)).set 1 rfl 29 (.bool true));go_wp2_with fail
 case' Y=>have hr:w5.drew.rangeAt rb 5 (aD8 v 0):=tL (HD.ar 1 rfl) 5 16
 case' X=>have hr:w5.drew.rangeAt rb 5 (aD8 v 1):=tL (HD.ar 1 rfl) 5 16
 case' Y|X=>have ha:w5.drew.rangeAt rb 1 (bC [0,0,0,0]):=tL (HD.ar 1 rfl) 1 4;refine bW [(1,[0,1,2,3,4,5,6,7,8,9,10,11,13,14]),(2,[12]),(0,[15]),(3,[16])] (by kernel_rfl) ?_;simp only[zz];generalize w5.drew=wd at*;refine af ?_
 case' Y=>repeat(first|(refine ak 28 _ bi 0 [I 0,I 3,I 0,I 0,U 1] _ rfl rfl rfl (bL (HD.ar 0 rfl) (by simp)) underlying28 rfl (by kernel_rfl) ?_;simp only[Act.put,aZ,zs])|(refine ak 134 _ rb 5 (aD8 v 0) _ rfl rfl rfl (aG hr (by simp)) underlying134 rfl (by kernel_rfl) ?_;simp only[Act.put,aZ,zs])|(refine ak 36 _ rb 1 (bC [0,0,0,0]) _ rfl rfl rfl (aG ha (by simp)) underlying36 rfl (by kernel_rfl) ?_;simp only[Act.put,aZ,zs])|go_big_quiet_step (fail)|quiet_step (fail))
 case' X=>repeat(first|(refine ak 28 _ bi 0 [I 2,I 1,I 1,I 3,U 0] _ rfl rfl rfl (bL (HD.ar 0 rfl) (by simp)) underlying28 rfl (by kernel_rfl) ?_;simp only[Act.put,aZ,zs])|(refine ak 134 _ rb 5 (aD8 v 1) _ rfl rfl rfl (aG hr (by simp)) underlying134 rfl (by kernel_rfl) ?_;simp only[Act.put,aZ,zs])|(refine ak 36 _ rb 1 (bC [0,0,0,0]) _ rfl rfl rfl (aG ha (by simp)) underlying36 rfl (by kernel_rfl) ?_;simp only[Act.put,aZ,zs])|go_big_quiet_step (fail)|quiet_step (fail))
 case' Y|X=>refine ax ?_;refine aA ?_;go_wp2_with fail;refine(HK.out _).kk λw7 UT=>?_;have HF:=aa UT;have HS:=aa (HD.fr0 UT);go_wp2;refine⟨⟨⟨_,(by exact HF.out)⟩,rfl⟩,?_⟩
 case' J|G=>
  obtain⟨sc,sl,sf⟩:=qJ (HD.ar 2 rfl);delta jh;go_in;go_wp2_with fail;generalize w.heap.size=bi at*;generalize World.alloc _ _=w5 at*;refine bW [(1,[0,1,2,3,4,5,6,7])] (by kernel_rfl) ?_;simp only[zz];repeat(first|go_big_quiet_step(fail)|apply ax|apply af|apply ag|apply ah)
  refine aj ?_;generalize w5.drew=wd at*;go_wp2_with fail
 case' J=>have HS:=aa HD.drew;clear hc hl hf ic il sc sl sf;obtain⟨hc,hl,hf⟩:=qJ (HS.ar 1 rfl);obtain⟨ic,il,-⟩:=qJ (HS.ar 0 rfl);obtain⟨sc,sl,sf⟩:=qJ (HS.ar 2 rfl)
 case' G=>refine(HP.out _ _ ((HD.pull 2 rfl).pull 2 rfl)).kk λw6 oo=>?_;have HS:=aa oo.drew;clear oo;go_wp2_with fail;clear hc hl hf ic il sc sl sf;obtain⟨hc,hl,hf⟩:=qJ (HS.ar 0 rfl);obtain⟨ic,il,-⟩:=qJ (HS.ar 2 rfl);obtain⟨sc,sl,sf⟩:=qJ (HS.ar 1 rfl)
 case' J|G=>refine bW [(1,[0,1,2,3,4,5,6,7,8,9,10,11,12,13,14]),(3,[15])] (by kernel_rfl) ?_;simp only[zz]
 case' Z|Y|X|J|G=>repeat(first|go_big_quiet_step(fail)|apply ax|apply af|apply ag|apply ah)
 case' Y|X=>clear hc hl hf hr ha ic il HD;obtain⟨hc,hl,hf⟩:=qJ (HS.ar 1 rfl)
 case' Z|Y|X|J|G=>refine ao ?_;go_wp2;refine aj ?_;go_wp2;go_ret
 case' Z=>exact⟨rfl,HS.tail⟩
 case' Y=>exact⟨rfl,(HS.set 1 rfl 8 (U 1)).tail⟩
 case' X=>exact⟨rfl,(HS.set 1 rfl 6 (U (v+1))).tail⟩
 case' J=>exact⟨rfl,(HS.set 1 rfl 6 (U v)).tail⟩
 exact⟨rfl,(((HS.set 1 rfl 0 (U x)).pull 2 rfl).tail)⟩
def P5:=@zq32.1
def UP:=@zq32.2.1
def UW:=@zq32.2.2.1
def V2:=@zq32.2.2.2.1
def P8:=@zq32.2.2.2.2
def zq33:(∀{w0 w R rb nb mb pick v}(hS:Sep w0 w (runT rb nb mb pick 0 0 1 0 0 0 false v R)),jh 98 #[O rb,.agg #[I 9,I 1,I 2,I 0,U 0]] w (I 0) w0 (runT rb nb mb pick v 0 1 0 1 0 false v R))∧(∀{w0 w R rb nb mb pick v}(hS:Sep w0 w (runT rb nb mb pick (v+1) 1 4 0 3 0 false v R)),jh 98 #[O rb,.agg #[I 10,I 1,I 2,I 0,U 0]] w (I 0) w0 (runT rb nb mb pick (v+1) 1 4 1 4 0 false (v+1) R)):=by
 refine⟨?Z,?Y⟩
 case' Z=>intro w0 w R rb nb mb pick v hS;have HK:=aa (λw' RR=>V2 (w0:=w0) (w:=w') (rb:=rb) (nb:=nb) (mb:=mb) (pick:=pick) (v:=v) (R:=RR));unfold runT aC0 au3 at*;have HS:=aa (hS.new 28 [I 9,I 1,I 2,I 0,U 0]);obtain⟨hc,hl,hf⟩:=qJ (HS.ar 1 rfl);have HS:=aa (HS.set 1 rfl 28 (I 1))
 case' Y=>intro w0 w R rb nb mb pick v hS;have HK:=aa (λw' RR=>P8 (w0:=w0) (w:=w') (rb:=rb) (nb:=nb) (mb:=mb) (pick:=pick) (v:=v) (R:=RR) (x:=v+1));unfold runT aC0 au3 at*;have HS:=aa (hS.new 28 [I 10,I 1,I 2,I 0,U 0]);obtain⟨hc,hl,hf⟩:=qJ (HS.ar 1 rfl);have HS:=aa (HS.set 1 rfl 28 (I 4))
 case' Z|Y=>clear hS;delta jh;go_in;go_wp2_with fail;generalize World.setCell _ _ _=w5 at HS⊢;generalize w.heap.size=bi at HS⊢;clear hc hl hf;simp only[zs]at HS;refine(HK.out _ _ HS.tail).kh λw1 HS=>?_;go_wp2;go_ret
 case' Z|Y=>exact⟨rfl,HS.out⟩
def V3:=@zq33.1
def P9:=@zq33.2
def UU {w0 w R sb roots}(hS:Sep w0 w (rA sb roots::R)):
 ∃F:List Nat,(∀(i b:Nat) (ty:TypeId) (cs:List Value),R[i]?=some (aJ b ty cs)→b∉F)∧Calls Tryz.prog 97 #[O sb] w λr w'=>∃nb,r= .returned (O nb)∧Sep w0 w' (rA nb roots::rA sb roots::R)∧Fr F w w':=by
 obtain⟨F,S6,S7⟩:=uj (T':=λnb=>cM [rA nb roots,rA sb roots]) (A:=λnb e=>e= .returned (O nb)) hS (λRR h=>(Ht h).mono λe w' hr=>by
  obtain⟨v',h1,h2⟩:=hr;exact⟨v',h1,Sep.toList (Ts:=[_,_]) h2⟩)
 exact⟨F,S6,S7.mono λe w' hr=>by
  obtain⟨a,h1,h2,h3⟩:=hr;exact⟨a,h1,Sep.ofList (Ts:=[_,_]) h2,h3⟩⟩
def aD9 (v:Int):Nat→Int|0=>0|1=>v|2=>v|_=>v+1
def aE0:Nat→Int|0=>0|1=>0|_=>1
def aE1:Nat→Int|0=>0|1=>0|2=>0|3=>0|_=>1
def aE2 (v:Int):Nat→Int|5=>v+1|_=>0
def aE3:Nat→Bool|5=>true|_=>false
def aE4 (v:Int):Nat→Int|0=>v|1=>v|2=>v|3=>v|_=>v+1
def JT {w0 w R rb nb mb pick v}(hv:v=0∨v=1∨v=2):∀{k:Nat} (hk:k<countP.length),Sep w0 w (runT rb nb mb pick (aD9 v k) (aE0 k) ((k:Int)+1) (aE1 k) k 0 false (aE4 v k) R)→
 Calls Tryz.prog 98 #[O rb,.agg (gl countP[k]).toArray] w λe w'=>e= .returned (I 0)∧Sep w0 w' (runT rb nb mb pick (aD9 v (k+1)) (aE0 (k+1)) ((k:Int)+1) (aE1 (k+1)) ((k:Int)+1) (aE2 v (k+1)) (aE3 (k+1)) (aE4 v (k+1)) R)
 |0,_,h=>V3 h
 |1,_,h=>UP hv h
 |2,_,h=>UW hv h
 |3,_,h=>P9 h
 |4,_,h=>P5 h
def zR (v:Int):List Int:=[v,0,0,0,0,0,0,0,0,0,0,0,0,0,0,0]
def aD7 (rv st wr:Int):List Value:=[I 0,U rv,I st,I wr,.slice none 0 0]
def L2 {w0 w R sb v}(hv:v=0∨v=1∨v=2){pa pn Zb ca cc}(hC:∀w',Sep w0 w' R→dJ w' (.slice ca 5 cc) countP)(hS:Sep w0 w (rA sb (zR v)::R)):
 jh 66 #[O sb,.slice ca 5 cc,.agg #[U 0,U 0,U 0,U 0],I 50,I 20,.slice pa pn Zb] w (.agg (aD7 (v+1) 5 1).toArray) w0 (rA sb (zR (v+1))::R):=by
 have NQ:=aa (λw' h=>lp w' ca 5 cc countP rfl (hC w' h));rw[show right countP=true by decide]at NQ;have HC:=aa (λw' (h:Sep w0 w' R) (k:Nat) (hk:k<countP.length)=>dB.at (hC w' h).1 hk);have mX:=aa (fun(w':World) RR rb nb mb=>@JT w0 w' RR rb nb mb (.slice pa pn Zb) v hv);have HS:=aa ((hS.new 36 [U 0,U 0,U 0,U 0]).new 150 (aD7 0 0 0));clear hS hC;simp only[cG]at HS;delta jh;go_in;go_wp2_with fail;refine(NQ.out _ HS.tail.tail.tail).kq HS λw1 HS=>?_;clear NQ;generalize w.heap.size=bi at*;go_wp2_with fail;have HS:=aa (HS.pull 2 rfl).drew;simp only[ze]at HS;obtain⟨FP,S6,S7⟩:=UU HS.out;have oR:=S6 1 bi _ _ rfl;have Xb:=aa S7;clear S6 S7;have W_:=(HS.ar 2 rfl).range;refine dq [(1,[0,2,3,4]),(2,[1]),(0,[5]),(3,[6]),(0,[7])] FP (by kernel_rfl) (by kernel_rfl) ?_;simp only[zz];refine af ?_;repeat(first|(refine ak 36 _ bi 0 [U 0,U 0,U 0,U 0] _ rfl rfl rfl (aG W_ oR) underlying36 rfl (by kernel_rfl) ?_;simp only[Act.put,aZ,zs])|go_big_quiet_step (fail)|quiet_step (fail))
 refine ax ?_;refine aA ?_;go_wp2_with fail;refine Xb.out.mono ?_;rintro r w2 ⟨nb,rfl,h1,hf⟩;have HF:=aa hf;have HS:=aa h1;clear h1 hf;go_wp2;refine⟨⟨⟨_,(by exact HF.out)⟩,rfl⟩,?_⟩;clear HF Xb W_ oR;repeat(first|go_big_quiet_step(fail)|apply ax|apply af|apply ag|apply ah)
 refine ao ?_;go_wp2_with fail;repeat(first|go_big_quiet_step(fail)|apply ax|apply af|apply ag|apply ah)
 refine aj ?_;obtain⟨mb,-,h4⟩:=lQ HS.out;have HS:=aa (h4.new 188 (aC0 nb (.slice pa pn Zb) 0 0 0 0 0 0 false));clear h4;unfold aC0 at HS;go_wp2_with fail;generalize World.alloc _ _=w5 at HS⊢;generalize w2.heap.size=rb at HS⊢;go_loopg [14] 6 (λg v14 wr=>∃k:Nat,g+k=6∧k≤5∧Sep w0 wr (runT rb nb mb (.slice pa pn Zb) (aD9 v k) (aE0 k) k (aE1 k) k (aE2 v k) (aE3 k) (aE4 v k) (S2 mb::rA sb (zR v)::aJ (bi+1) 150 (aD7 0 0 0)::aJ bi 36 [U 0,U 0,U 0,U 0]::R)))
 case atStart=>exact⟨0,rfl,by omega,HS.out⟩
 case round=>
  clear HS;obtain⟨k,hg,hk5,hS⟩:=hrel;by_cases hk:k<5
  ·have he:aE3 k=false∧aE2 v k=0:=by rcases(show k=0∨k=1∨k=2∨k=3∨k=4 by omega)with rfl|rfl|rfl|rfl|rfl<;>exact⟨rfl,rfl⟩
   rw[he.1,he.2]at hS;have h5:=hS;unfold runT aC0 at h5;have dS:=aa (h5.set 0 rfl 25 (I ((k:Int)+1)));obtain⟨hc,hl,hf⟩:=qJ (h5.ar 0 rfl);have hw:IntKind.i64.wrap ((k:Int)+1)=(k:Int)+1:=bf _ (by omega) (by omega);have HT:=aa (λw' RR=>mX.out w' RR rb nb mb (k:=k) hk);obtain⟨xa,rfl,uI,c0,c1⟩:=HC.out _ dS.tail.tail.tail.tail.tail.tail k hk;clear h5 hS;generalize countP[k]'hk=ci at*;obtain⟨op,ia,ib,ic,im⟩:=ci;unfold gl at c0 c1 HT;dsimp only at c0 c1 HT;have e0:=c0 _ rfl;have e1:=c1 0 _ rfl;have e2:=c1 1 _ rfl;have e3:=c1 2 _ rfl;have e4:=c1 3 _ rfl;clear c0 c1;have rX:(k:Int)<5:=by omega
   go_wp2_with fail;refine(HT.out _ _ dS.out).kk λw9 h9=>?_;have HS:=aa h9;go_wp2;go_roundg (5-k)
   case measure=>omega
   case rel=>exact⟨k+1,by omega,by omega,HS.out⟩
  ·obtain rfl:k=5:=by omega
   have hS:Sep w0 wr (runT rb nb mb (.slice pa pn Zb) (v+1) 1 5 1 5 (v+1) true (v+1) _):=hS;unfold runT aC0 at hS;obtain⟨mb3,-,h2⟩:=lQ (hS.pull 3 rfl);simp only[ze]at h2;have HS:=aa h2;obtain⟨hc,hl,hf⟩:=qJ (h2.ar 2 rfl);have sc:∀j,wr.cell? ⟨nb,j,none⟩=(Bf mb (zR (v+1)))[j]?:=(h2.ar 3 rfl).cell;unfold Bf zR at sc;simp only[zm,za]at sc;clear h2 hS;go_wp2_with(first|(refine aC HS.out 0 rfl (Bf mb (zR (v+1))) 136 _ _ rfl rfl rfl rfl rfl (by kernel_rfl) P3 (λwB hA _=>?_);simp only[zs]at hA;have HS:=aa hA;clear hc hl hf sc;obtain⟨hc,hl,hf⟩:=qJ (hA.ar 2 rfl);clear hA)|(refine aC HS.out 5 rfl (aD7 (v+1) 5 1) 150 _ _ rfl rfl rfl rfl rfl (by kernel_rfl) (by simp[aD7,Value.oneCell']) (λwA hA _=>?_);simp only[zs]at hA;have HS:=aa hA;clear hA));refine aV (uO (P:=Tryz.prog) rfl _ _ (bi+1) 150 (aD7 (v+1) 5 1).toArray (0,0) _ rfl (HS.ar 5 rfl) underlying150 rfl (by kernel_rfl)) rfl ?_;exact⟨rfl,pX rfl (((((HS.pull 6 rfl).tail.pull 5 rfl).tail.pull 3 rfl).tail.pull 2 rfl).tail.pull 1 rfl).tail⟩
end Go.Proofs.YtolkmchicplaoaaGreat
namespace Go.Proofs.YtolkmchicplaoaaGreat
open Go.RowKit Go.aS Go.aS.I_ Go.aS.Y
def jG {rg:List Int}(hr:rg.length=16)(hu:∀r∈rg,0≤r∧r≤18446744073709551615){a:Int}(ha:0≤a∧a<16):∃(k:Nat) (v:Int),a=k∧k<16∧rg[k]?=some v∧rg.getD a.toNat 0=v∧0≤v∧v≤18446744073709551615:=by
 obtain⟨k,rfl⟩:∃k:Nat,a=k:=⟨a.toNat,by omega⟩;have hk:k<rg.length:=by omega
 have:=hu rg[k] (cJ hk);exact⟨k,rg[k],rfl,by omega,cy hk,by simp[List.getD,hk],this⟩
def fE{w0 w R c}(aE:Y.Ok c){aw seq b vb pb sb cv args}(ha:args.length=4){x}(h:gE c x)(hS:Sep w0 w (aQ c aw seq b vb pb sb cv args x::R)):ba 188 #[O b] w (.tuple #[I (X.block c x).1,I (X.block c x).2.1,.bool (X.block c x).2.2]):=by
 have nU:=aE.b1;have kF:=aE.nZ;obtain⟨ka,ua,ea,si,va,ga,Qb,Qc⟩:=jG h.aI h.ru h.ia;obtain⟨kb,ub,eb,p4,L3,gb,ub0,ub1⟩:=jG h.aI h.ru h.ib;obtain⟨kc,uc,ec,we,vc,gc,uc0,uc1⟩:=jG h.aI h.ru h.ic;have hbh:X.rh x=if x.i.op=16 then ua else ub:=by unfold X.rh X.iE;rw[ga,gb]
 have uG:X.sE x=if x.i.op=12∨x.i.op=14 then uc else if x.i.op=16 then 0 else x.i.bN:=by unfold X.sE X.iE;rw[gc]
 have Ej:X.block c x=if X.rh x<1∨c.b<X.rh x∨8≤X.sE x then(0,0,false)else(X.rh x-1,X.sE x,true):=rfl
 obtain⟨BL,hBL⟩:∃y,X.block c x=y:=⟨_,rfl⟩;obtain⟨BH,hBH⟩:∃y,X.rh x=y:=⟨_,rfl⟩;obtain⟨BW,hBW⟩:∃y,X.sE x=y:=⟨_,rfl⟩;rw[hBL];rw[hBL,hBH,hBW]at Ej;rw[hBH]at hbh;rw[hBW]at uG;clear ga gb gc hBL hBH hBW;obtain⟨la,lc,h2⟩:=bh hS;have dQ:Hid (∀w' nv,Sep w0 w' (aJ b 255 (iN (fJ (ae c) cv args vb pb sb x.mark x.mt x.ml) (x).aI (ey (x) nv))::aU 0 26 1 nv (x).news.length (bC (x).news)::aJ vb 258 (Vw.eU (ae c) aw seq (x).v)::bE c seq pb (x).p::cw sb (x).w::R)→Sep w0 w' (aQ c aw seq b vb pb sb cv args (x)::R)):=aa (λw' nv h=>bF h);have hE:=cH (show(ae c).length=24 from rfl) cv ha vb pb sb x.mark x.mt x.ml;unfold lP at h2;simp only[za]at h2;generalize fJ (ae c) cv args vb pb sb x.mark x.mt x.ml=H at*;have HE:=aa hE;have HX:=aa h;have HS:=aa h2;clear hS h2 hE h;have aD:(ae c).length=24:=rfl;have gF:=aa (λw=>bM w c);have fS:=aa (λw=>eS c w);unfold aY at*;generalize fB:db c=cf at*;clear fB;generalize ae c=cs at*;obtain⟨xv,xp,xw,mk,mt,ml,rg,pc,st,wr,wt,⟨op,ia,ib,ic,im⟩,s,rc,rv,nw⟩:=x;have bQ:=HX.aI;have zQ:=HX.out.im;unfold ey at HS;dsimp only at*;subst ea eb ec;have Xc:=aa hbh;have Xd:=aa uG;have SW:=aa Ej;clear hbh uG Ej;have HF:=aa (Fr.refl [] w);delta ba;go_in;go_wp2_with fail;have hB:=((HS.fr0 HF.out).ar 0 rfl).drew;have f55:=hB.cD HE.len bQ 55 rfl rfl;have f56:=hB.cD HE.len bQ 56 rfl rfl;have f57:=hB.cD HE.len bQ 57 rfl rfl;have f58:=hB.cD HE.len bQ 58 rfl rfl;have f59:=hB.cD HE.len bQ 59 rfl rfl;have ra:=(hB.cell (35+ka)).trans ((dM HE.len bQ _ si).trans (cV va));have rb:=(hB.cell (35+kb)).trans ((dM HE.len bQ _ p4).trans (cV L3));have jH:=(hB.cell (35+kc)).trans ((dM HE.len bQ _ we).trans (cV vc));refine bW [(1,[0,1,2,3,4,5,6,7,8,9,10,11,12,13,14,15,16])] (by kernel_rfl) ?_;simp only[zz];repeat(first|go_big_quiet_step(fail)|apply ax|apply af|apply ag|apply ah)
 refine aj ?_;have HF:=aa HF.drew;clear hB f55 f56 f57 f58 f59 ra rb jH;have hB:=((HS.fr0 HF.out).ar 0 rfl);have f55:=hB.cD HE.len bQ 55 rfl rfl;have f56:=hB.cD HE.len bQ 56 rfl rfl;have f57:=hB.cD HE.len bQ 57 rfl rfl;have f58:=hB.cD HE.len bQ 58 rfl rfl;have f59:=hB.cD HE.len bQ 59 rfl rfl;have ra:=(hB.cell (35+ka)).trans ((dM HE.len bQ _ si).trans (cV va));have rb:=(hB.cell (35+kb)).trans ((dM HE.len bQ _ p4).trans (cV L3));have jH:=(hB.cell (35+kc)).trans ((dM HE.len bQ _ we).trans (cV vc));by_cases xJ:op=12;refine ?Z;rotate_left;refine ?Y
 case' Y=>have qN:(op==12)=false:=by simpa using xJ
 case' Y=>by_cases BR:op=14;refine ?X;rotate_left;refine ?J
 case' J=>have B4:(op==14)=false:=by simpa using BR
 case' J=>by_cases sH:op=16;refine ?G;rotate_left;refine ?D
 case' Z=>
  have qN:(op==12)=true:=by simpa using xJ
  have HW:Hid (BH=ub∧BW=uc):=aa (by rw[Xc.out,Xd.out,aq (by omega),aB (.inl xJ)];exact⟨rfl,rfl⟩);clear xJ
 case' X=>
  have B4:(op==14)=true:=by simpa using BR
  have HW:Hid (BH=ub∧BW=uc):=aa (by rw[Xc.out,Xd.out,aq (by omega),aB (.inr BR)];exact⟨rfl,rfl⟩);clear xJ BR
 case' G=>
  have GI:(op==16)=true:=by simpa using sH
  have HW:Hid (BH=ua∧BW=0):=aa (by rw[Xc.out,Xd.out,aB sH,aq (by omega),aB sH];exact⟨rfl,rfl⟩);clear xJ BR sH
 case' Z|X|G=>go_wp2_with fail;clear hB f55 f56 f57 f58 f59 ra rb jH;have hB:=((HS.fr0 HF.out).ar 0 rfl).drew;have f55:=hB.cD HE.len bQ 55 rfl rfl;have f56:=hB.cD HE.len bQ 56 rfl rfl;have f57:=hB.cD HE.len bQ 57 rfl rfl;have f58:=hB.cD HE.len bQ 58 rfl rfl;have f59:=hB.cD HE.len bQ 59 rfl rfl;have ra:=(hB.cell (35+ka)).trans ((dM HE.len bQ _ si).trans (cV va));have rb:=(hB.cell (35+kb)).trans ((dM HE.len bQ _ p4).trans (cV L3));have jH:=(hB.cell (35+kc)).trans ((dM HE.len bQ _ we).trans (cV vc))
 case' Z|X=>refine bW [(1,[0,1,2,3,4,5,6,7,8,9,10])] (by kernel_rfl) ?_
 case' G=>refine bW [(1,[0,1,2,3,4,5,6,7,8,9,10,11])] (by kernel_rfl) ?_
 case' Z|X|G=>
  simp only[zz];repeat(first|go_big_quiet_step(fail)|apply ax|apply af|apply ag|apply ah)
  refine aj ?_;have HF:=aa HF.drew;clear hB f55 f56 f57 f58 f59 ra rb jH
 case' Z|X=>have En:Hid (BL=if ub<1∨c.b<ub∨8≤uc then(0,0,false)else(ub-1,uc,true)):=aa (by rw[SW.out,HW.out.1,HW.out.2]);clear SW Xc Xd HW
 case' G=>have En:Hid (BL=if ua<1∨c.b<ua then(0,0,false)else(ua-1,0,true)):=aa (by rw[SW.out,HW.out.1,HW.out.2];by_cases q:ua<1∨c.b<ua;rw[aB q,aB (by omega)];rw[aq q,aq (by omega)]);clear SW Xc Xd HW
 case' Z=>by_cases h1:ub<1;refine ?V;rotate_left;refine ?U
 case' X=>by_cases h1:ub<1;refine ?g0;rotate_left;refine ?g1
 case' G=>by_cases h1:ua<1;refine ?g2;rotate_left;refine ?g3
 case' U=>have d1:decide (ub<1)=false:=by simpa using h1
 case' U=>by_cases h2:c.b<ub;refine ?g4;rotate_left;refine ?g5
 case' g5=>have d2:decide (c.b<ub)=false:=by simpa using h2
 case' g5=>by_cases h3:8≤uc;refine ?g6;rotate_left;refine ?g7
 case' g1=>have d1:decide (ub<1)=false:=by simpa using h1
 case' g1=>by_cases h2:c.b<ub;refine ?g8;rotate_left;refine ?g9
 case' g9=>have d2:decide (c.b<ub)=false:=by simpa using h2
 case' g9=>by_cases h3:8≤uc;refine ?ga;rotate_left;refine ?gb
 case' g3=>have d1:decide (ua<1)=false:=by simpa using h1
 case' g3=>by_cases h2:c.b<ua;refine ?gc;rotate_left;refine ?gd
 case' D=>
  have GI:(op==16)=false:=by simpa using sH
  have HW:Hid (BH=ub∧BW=im):=aa (by rw[Xc.out,Xd.out,aq sH,aq (by omega),aq sH];exact⟨rfl,rfl⟩);clear xJ BR sH;have En:Hid (BL=if ub<1∨c.b<ub∨8≤im then(0,0,false)else(ub-1,im,true)):=aa (by rw[SW.out,HW.out.1,HW.out.2]);clear SW Xc Xd HW
 case' D=>by_cases h1:ub<1;refine ?ge;rotate_left;refine ?gf
 case' gf=>have d1:decide (ub<1)=false:=by simpa using h1
 case' gf=>by_cases h2:c.b<ub;refine ?gg;rotate_left;refine ?gh
 case' gh=>have d2:decide (c.b<ub)=false:=by simpa using h2
 case' gh=>by_cases h3:8≤im;refine ?gi;rotate_left;refine ?gj
 case' V|g0|ge=>have d1:decide (ub<1)=true:=by simpa using h1
 case' g2=>have d1:decide (ua<1)=true:=by simpa using h1
 case' V|g0|ge|g2=>have HR:Hid (BL=(0,0,false)):=aa (by rw[En.out,aB (.inl h1)]);clear h1;go_wp2_with fail
 case' g4|g8|gg=>
  have d2:decide (ub>c.b)=true:=by simpa using h2
  have HR:Hid (BL=(0,0,false)):=aa (by rw[En.out,aB (.inr (.inl h2))]);clear h1 h2
 case' g6|ga=>have d3:decide (8≤uc)=true:=by simpa using h3
 case' gi=>have d3:decide (8≤im)=true:=by simpa using h3
 case' g6|ga|gi=>have HR:Hid (BL=(0,0,false)):=aa (by rw[En.out,aB (.inr (.inr h3))]);clear h1 h2 h3
 case' gc=>
  have d2:decide (ua>c.b)=true:=by simpa using h2
  have HR:Hid (BL=(0,0,false)):=aa (by rw[En.out,aB (.inr h2)]);clear h1 h2
 case' g7|gb=>
  have d3:decide (8≤uc)=false:=by simpa using h3
  have HR:Hid (BL=(ub-1,uc,true)):=aa (by rw[En.out,aq (by omega)])
 case' gd=>
  have d2:decide (c.b<ua)=false:=by simpa using h2
  have HR:Hid (BL=(ua-1,0,true)):=aa (by rw[En.out,aq (by omega)])
 case' gj=>
  have d3:decide (8≤im)=false:=by simpa using h3
  have HR:Hid (BL=(ub-1,im,true)):=aa (by rw[En.out,aq (by omega)])
 case' g4|g8|gg|g6|ga|gi|gc|g7|gb|gd|gj=>have hB:=((HS.fr0 HF.out).ar 0 rfl);go_wp2_with(refine ay 58 _ rfl rfl _ 0 rfl cs _ (dw aD HE.out hB) underlying58 rfl (by rw[aD];kernel_rfl) ?_);refine(gF.out _).kk λw2 hf=>?_;have HF:=aa (HF.trans hf);have kB:=λw=>(fS.out w).2.1;clear hf hB;go_wp2_with fail
 case' V|g0|ge|g2|g4|g8|gg|g6|ga|gi|gc=>exact aV (v:= .tuple #[I 0,I 0,.bool false]) (by simp[results,Tryz.results188,go_sem]) rfl ⟨by rw[HR.out],HF.out⟩
 case' g7|gb=>exact aV (v:= .tuple #[I (ub-1),I uc,.bool true]) (by simp[results,Tryz.results188,go_sem]) rfl ⟨by rw[HR.out],HF.out⟩
 case' gd=>exact aV (v:= .tuple #[I (ua-1),I 0,.bool true]) (by simp[results,Tryz.results188,go_sem]) rfl ⟨by rw[HR.out],HF.out⟩
 exact aV (v:= .tuple #[I (ub-1),I im,.bool true]) (by simp[results,Tryz.results188,go_sem]) rfl ⟨by rw[HR.out],HF.out⟩
end Go.Proofs.YtolkmchicplaoaaGreat
namespace Go.aS
def Sep.ah9 {w0 w A B C D E_ R}(h:Sep w0 w (A::B::C::D::E_::R)):Sep w0 w (E_::D::A::B::C::R):=(h.pull 3 rfl).pull 4 rfl
def Sep.Qd {w0 w A B C D E_ R}(h:Sep w0 w (E_::D::A::B::C::R)):Sep w0 w (A::B::C::D::E_::R):=(((h.pull 1 rfl).pull 4 rfl).pull 4 rfl).pull 4 rfl
end Go.aS
namespace Go.Proofs.YtolkmchicplaoaaGreat
open Go.RowKit Go.aS Go.aS.I_ Go.aS.Y
def wZ:(Tryz.prog.info? 26).map (λi=>(i.zero,i.size,i.bytes))=some (some (U 0),1,8):=by kernel_rfl
def zq34:(∀{w0 w R c}(aE:Y.Ok c){aw seq b vb pb sb cv args}(ha:args.length=4){x}(h:gE c x)(bb)(hb:0≤bb∧bb≤18446744073709551615)(hc:c.b≤bb)(hS:Sep w0 w (aQ c aw seq b vb pb sb cv args x::R)),bR 187 #[O b,U bb] w w0 (aQ c aw seq b vb pb sb cv args (X.fail 43 0 x)::R))∧(∀{w0 w R c}(aE:Y.Ok c){aw seq b vb pb sb cv args}(ha:args.length=4){x}(h:gE c x)(bb)(hb:0≤bb∧bb≤18446744073709551615)(hc:bb<c.b)(hS:Sep w0 w (aQ c aw seq b vb pb sb cv args x::R)),bR 187 #[O b,U bb] w w0 (aQ c aw seq b vb pb sb cv args (X.gV {x with p:=(P.take c bb x.p x.w).1,w:=(P.take c bb x.p x.w).2,news:=x.news++[bb+1]} x.i.a (bb+1))::R)):=by
 refine⟨?Z,?Y⟩
 case' Z|Y=>intro w0 w R c aE aw seq b vb pb sb cv args ha x h bb hb hc hS;have nU:=aE.b1;have kF:=aE.nZ
 case' Z=>
  have AY:=aa (λw' hS=>jC (w0:=w0) (w:=w') (R:=R) (c:=c) (aw:=aw) (seq:=seq) (b:=b) (vb:=vb) (pb:=pb) (sb:=sb) (cv:=cv) ha h 43 0 hS);have hd:decide (c.b≤bb)=true:=by simpa using hc
  clear hc;obtain⟨la,lc,h2⟩:=bh hS;have dQ:Hid (∀w' nv,Sep w0 w' (aJ b 255 (iN (fJ (ae c) cv args vb pb sb x.mark x.mt x.ml) (x).aI (ey (x) nv))::aU 0 26 1 nv (x).news.length (bC (x).news)::aJ vb 258 (Vw.eU (ae c) aw seq (x).v)::bE c seq pb (x).p::cw sb (x).w::R)→Sep w0 w' (aQ c aw seq b vb pb sb cv args (x)::R)):=aa (λw' nv h=>bF h)
 case' Y=>
  have hd:decide (c.b≤bb)=false:=by simpa using hc
  have BZ:bb≤63:=by omega
  clear hc;obtain⟨i0,iJ,jA,jB,iR⟩:=eA wZ;obtain⟨ka,ua,ea,si,va,ga,Qb,Qc⟩:=jG h.aI h.ru h.ia;clear ga;have kA:x.news.length≤10000:=by have h1:=h.nw;have h2:=h.st;omega
  have p5:x.w.done.length≤900000:=by have h1:=h.dn;have h2:=h.st;omega
  have J3:=aa (λw' (RR:List a_) hS=>YV (w0:=w0) (w:=w') (R:=RR) pb sb c aE seq x.p x.w bb h.nt p5 hS);obtain⟨la,lc,h2⟩:=bh hS;have dQ:Hid (∀w' nv,Sep w0 w' (aJ b 255 (iN (fJ (ae c) cv args vb pb sb x.mark x.mt x.ml) (X.gV {x with p:=(P.take c bb x.p x.w).1,w:=(P.take c bb x.p x.w).2,news:=x.news++[bb+1]} x.i.a (bb+1)).aI (ey (X.gV {x with p:=(P.take c bb x.p x.w).1,w:=(P.take c bb x.p x.w).2,news:=x.news++[bb+1]} x.i.a (bb+1)) nv))::aU 0 26 1 nv (X.gV {x with p:=(P.take c bb x.p x.w).1,w:=(P.take c bb x.p x.w).2,news:=x.news++[bb+1]} x.i.a (bb+1)).news.length (bC (X.gV {x with p:=(P.take c bb x.p x.w).1,w:=(P.take c bb x.p x.w).2,news:=x.news++[bb+1]} x.i.a (bb+1)).news)::aJ vb 258 (Vw.eU (ae c) aw seq (X.gV {x with p:=(P.take c bb x.p x.w).1,w:=(P.take c bb x.p x.w).2,news:=x.news++[bb+1]} x.i.a (bb+1)).v)::bE c seq pb (X.gV {x with p:=(P.take c bb x.p x.w).1,w:=(P.take c bb x.p x.w).2,news:=x.news++[bb+1]} x.i.a (bb+1)).p::cw sb (X.gV {x with p:=(P.take c bb x.p x.w).1,w:=(P.take c bb x.p x.w).2,news:=x.news++[bb+1]} x.i.a (bb+1)).w::R)→Sep w0 w' (aQ c aw seq b vb pb sb cv args (X.gV {x with p:=(P.take c bb x.p x.w).1,w:=(P.take c bb x.p x.w).2,news:=x.news++[bb+1]} x.i.a (bb+1))::R)):=aa (λw' nv h=>bF h)
 case' Z|Y=>have hE:=cH (show(ae c).length=24 from rfl) cv ha vb pb sb x.mark x.mt x.ml;unfold lP at h2;simp only[za]at h2;generalize fJ (ae c) cv args vb pb sb x.mark x.mt x.ml=H at*;have HE:=aa hE;have HX:=aa h;have HS:=aa h2;clear hS h2 hE h
 case' Y=>unfold X.gV at dQ;dsimp only at dQ;obtain⟨p2,GJ⟩:∃p2,(P.take c bb x.p x.w).1=p2:=⟨_,rfl⟩;obtain⟨s2,El⟩:∃s2,(P.take c bb x.p x.w).2=s2:=⟨_,rfl⟩;rw[GJ,El]at dQ J3⊢;clear GJ El
 case' Z|Y=>have aD:(ae c).length=24:=rfl;have gF:=aa (λw=>bM w c);have fS:=aa (λw=>eS c w);unfold aY at*;generalize fB:db c=cf at*;clear fB;generalize ae c=cs at*;obtain⟨xv,xp,xw,mk,mt,ml,rg,pc,st,wr,wt,⟨op,ia,ib,ic,im⟩,s,rc,rv,nw⟩:=x;unfold ey at HS;dsimp only at*;have bQ:=HX.aI;dsimp only at bQ;have hB:=(HS.ar 0 rfl);delta bR;go_in;go_wp2_with(refine ay 58 _ rfl rfl _ 0 rfl cs _ (dw aD HE.out hB) underlying58 rfl (by rw[aD];kernel_rfl) ?_);refine(gF.out _).kk λw2 hf=>?_;have HS:=aa (HS.fr0 hf);have kB:=λw=>(fS.out w).2.1;clear hf hB
 case' Z=>go_wp2_with fail;refine(AY.out _ (dQ.out _ _ HS.out)).kh λw3 eH=>?_;go_wp2;refine aV (fV rfl _ _ _) rfl ?_
 case' Y=>
  subst ea;go_wp2_with fail;have hB:=(HS.ar 0 rfl).drew;have f30:=hB.fM HE.len 30 rfl HE.out.p;have f31:=hB.fM HE.len 31 rfl HE.out.w;clear kB;refine bW [(1,[0,1,2,3,4,5,6,7,8,9]),(3,[10])] (by kernel_rfl) ?_;simp only[zz];repeat(first|go_big_quiet_step(fail)|apply ax|apply af|apply ag|apply ah)
  refine ao ?_;go_wp2_with fail;refine(J3.out _ _ HS.drew.ah9).kk λw3 h3=>?_;have HS:=aa h3.Qd;clear h3 hB f30 f31 J3;go_wp2;refine aj ?_;have hB:=(HS.ar 0 rfl);have f63:=hB.cD HE.len bQ 63 rfl rfl;have HS:=aa (HS.new 26 [U (bb+1)]);obtain⟨nl,Zc⟩:∃nl,nw.length=nl:=⟨_,rfl⟩;have HNL:=aa Zc;rw[Zc]at HS f63 kA;clear Zc;go_wp2_with(at_builtin;go_must (refine ch _ rfl _ _ 49 rfl 0 26 i0 _ 1 8 underlying49 iJ jA jB iR rfl (by decide) (.slice la nl lc) nl (bC nw) rfl (HS.row 2 rfl) [U (bb+1)] _ _ rfl (HS.ar 0 rfl) rfl (by simp[Value.oneCell']) (by unfold maxLen;omega) (by omega) (cE _) ?_));intro g2 c2 w4 dy iZ jj kM mw;have h3:=(HS.grown 2 rfl dy iZ (λq e=>by
   rcases jj with h1|h1
   ·exact .inl (h1.trans e)
   ·right;simp only[Value.ownBlock,eX]at e;rw[←e,h1];simp)).tail
  simp only[zs]at h3;have hB:=(h3.ar 0 rfl);obtain⟨f63,g63⟩:=hB.xS HE.len bQ 63 rfl rfl;have h4:=h3.set 0 rfl 63 (.slice (some ⟨g2,0,none⟩) (nl+1) c2);simp only[aL,eK HE.len bQ,Nat.reduceSub,Nat.reduceLeDiff,aN]at h4;have HS:=aa h4;clear h3 h4 dy iZ jj hB;go_wp2_with fail;generalize World.setCell _ _ _=w5 at HS⊢;clear f63 g63;have hB:=(HS.ar 0 rfl).drew;have f56:=hB.cD HE.len bQ 56 rfl rfl;have ra:=(hB.cell (35+ka)).trans ((dM HE.len bQ _ si).trans (cV va));have UR:=hB.az (35+ka);have h5:=HS.drew.set 0 rfl (35+ka) (U (bb+1));simp only[aL,nA HE.len bQ _ si]at h5;have sk:=aa h5;clear h5;refine bW [(1,[0,1,2,3,4,5,6,7,8,9,10]),(3,[11])] (by kernel_rfl) ?_;simp only[zz];repeat(first|go_big_quiet_step(fail)|apply ax|apply af|apply ag|apply ah)
  refine ao ?_;go_wp2;refine aj ?_;go_wp2;go_end0
 case' Z=>exact⟨rfl,eH.out⟩
 exact⟨rfl,dQ.out _ _ (by
  rw[eE,HNL.out];have e:bC (nw++[bb+1])=bC nw++[U (bb+1)]:=by simp[bC]
  rw[e,dU];exact sk.out)⟩
def L4:=@zq34.1
def H5:=@zq34.2
def H6 {w0 w R c}(aE:Y.Ok c){aw seq b vb pb sb cv args}(ha:args.length=4){x}(h:gE c x)(bb)(hb:0≤bb∧bb≤18446744073709551615)(hS:Sep w0 w (aQ c aw seq b vb pb sb cv args x::R)):
 bR 187 #[O b,U bb] w w0 (aQ c aw seq b vb pb sb cv args (X.taken c bb x)::R):=by
 unfold X.taken;by_cases hc:c.b≤bb
 ·rw[aB hc];exact L4 aE ha h bb hb hc hS
 ·rw[aq hc];exact H5 aE ha h bb hb (by omega) hS
def gE.lE {c}(aE:Y.Ok c){x}(h:gE c x)(hp:¬c.w-x.writes<bV x.i.op):gE c {x with writes:=x.writes+bV x.i.op}:=by
 have hco:0≤bV x.i.op∧bV x.i.op≤9:=by unfold bV;split;omega;split;omega;split<;>omega
 have:=h.wr;exact⟨h.aI,h.ru,h.ia,h.ib,h.ic,h.im,h.i8,by dsimp only;omega,h.dn,h.st,h.pc,h.nt,h.nl,h.mt,h.ml,h.nw,h.wu,h.vv⟩
def zq35:(∀{w0 w R c}(aE:Y.Ok c){aw seq b vb pb sb cv args}(ha:args.length=4){x}(h:gE c x)(val)(j_:x.i.op=9∨x.i.op=11∨x.i.op=12)(hS:Sep w0 w (aQ c aw seq b vb pb sb cv args x::R)),bR 177 #[O b,U val] w w0 (aQ c aw seq b vb pb sb cv args (X.gV x x.i.a val)::R))∧(∀{w0 w R c}(aE:Y.Ok c){aw seq b vb pb sb cv args}(ha:args.length=4){x}(h:gE c x)(val)(hv:0≤val∧val≤18446744073709551615)(j_:x.i.op=15)(hS:Sep w0 w (aQ c aw seq b vb pb sb cv args x::R)),bR 177 #[O b,U val] w w0 (aQ c aw seq b vb pb sb cv args (X.taken c val x)::R))∧(∀{w0 w R c}(aE:Y.Ok c){aw seq b vb pb sb cv args}(ha:args.length=4){x}(h:gE c x)(val)(j_:¬(x.i.op=9∨x.i.op=11∨x.i.op=12)∧x.i.op≠15∧¬(x.i.op=13∨x.i.op=14)∧x.i.op≠16)(hS:Sep w0 w (aQ c aw seq b vb pb sb cv args x::R)),bR 177 #[O b,U val] w w0 (aQ c aw seq b vb pb sb cv args x::R))∧(∀{w0 w R c}(aE:Y.Ok c){aw seq b vb pb sb cv args}(ha:args.length=4){x}(h:gE c x)(val)(j_:x.i.op=13)(hp:c.w-x.writes<bV x.i.op)(hS:Sep w0 w (aQ c aw seq b vb pb sb cv args x::R)),bR 177 #[O b,U val] w w0 (aQ c aw seq b vb pb sb cv args (X.fail 42 0 x)::R))∧(∀{w0 w R c}(aE:Y.Ok c){aw seq b vb pb sb cv args}(ha:args.length=4){x}(h:gE c x)(val)(j_:x.i.op=14)(hp:c.w-x.writes<bV x.i.op)(hS:Sep w0 w (aQ c aw seq b vb pb sb cv args x::R)),bR 177 #[O b,U val] w w0 (aQ c aw seq b vb pb sb cv args (X.fail 42 0 x)::R))∧(∀{w0 w R c}(aE:Y.Ok c){aw seq b vb pb sb cv args}(ha:args.length=4){x}(h:gE c x)(val)(j_:x.i.op=16)(hp:c.w-x.writes<bV x.i.op)(hS:Sep w0 w (aQ c aw seq b vb pb sb cv args x::R)),bR 177 #[O b,U val] w w0 (aQ c aw seq b vb pb sb cv args (X.fail 42 0 x)::R))∧(∀{w0 w R c}(aE:Y.Ok c){aw seq b vb pb sb cv args}(ha:args.length=4){x}(h:gE c x)(val)(j_:x.i.op=13)(hp:¬c.w-x.writes<bV x.i.op)(hS:Sep w0 w (aQ c aw seq b vb pb sb cv args x::R)),bR 177 #[O b,U val] w w0 (aQ c aw seq b vb pb sb cv args (X.wrote c {x with writes:=x.writes+bV x.i.op})::R))∧(∀{w0 w R c}(aE:Y.Ok c){aw seq b vb pb sb cv args}(ha:args.length=4){x}(h:gE c x)(val)(j_:x.i.op=14)(hp:¬c.w-x.writes<bV x.i.op)(hS:Sep w0 w (aQ c aw seq b vb pb sb cv args x::R)),bR 177 #[O b,U val] w w0 (aQ c aw seq b vb pb sb cv args (X.wrote c {x with writes:=x.writes+bV x.i.op})::R))∧(∀{w0 w R c}(aE:Y.Ok c){aw seq b vb pb sb cv args}(ha:args.length=4){x}(h:gE c x)(val)(j_:x.i.op=16)(hp:¬c.w-x.writes<bV x.i.op)(hS:Sep w0 w (aQ c aw seq b vb pb sb cv args x::R)),bR 177 #[O b,U val] w w0 (aQ c aw seq b vb pb sb cv args (X.rm c {x with writes:=x.writes+bV x.i.op})::R)):=by
 refine⟨?Z,?Y,?X,?J,?G,?D,?V,?U,?g0⟩
 case' Z=>intro w0 w R c aE aw seq b vb pb sb cv args ha x h val j_ hS;obtain⟨ka,ua,ea,si,va,ga,Qb,Qc⟩:=jG h.aI h.ru h.ia;clear ga
 case' Y=>intro w0 w R c aE aw seq b vb pb sb cv args ha x h val hv j_ hS;have GH:=aa (λw' RR hS=>H6 (w0:=w0) (w:=w') (R:=RR) aE (aw:=aw) (seq:=seq) (b:=b) (vb:=vb) (pb:=pb) (sb:=sb) (cv:=cv) ha h val hv hS)
 case' X=>intro w0 w R c aE aw seq b vb pb sb cv args ha x h val j_ hS
 case' J|G|D|V|U|g0=>intro w0 w R c aE aw seq b vb pb sb cv args ha x h val j_ hp hS;have tN:=aa (λw' RR hS=>fE (w0:=w0) (w:=w') (R:=RR) aE (aw:=aw) (seq:=seq) (b:=b) (vb:=vb) (pb:=pb) (sb:=sb) (cv:=cv) ha h hS)
 case' J|G|D=>have zW:=aa (λw' RR hS=>vB (w0:=w0) (w:=w') (R:=RR) aE (aw:=aw) (seq:=seq) (b:=b) (vb:=vb) (pb:=pb) (sb:=sb) (cv:=cv) ha h hp hS)
 case' V|U|g0=>have zW:=aa (λw' RR hS=>sJ (w0:=w0) (w:=w') (R:=RR) aE (aw:=aw) (seq:=seq) (b:=b) (vb:=vb) (pb:=pb) (sb:=sb) (cv:=cv) ha h hp hS);have hY:=gE.lE aE h hp;obtain⟨y,hy⟩:∃y,({x with writes:=x.writes+bV x.i.op}:X.St)=y:=⟨_,rfl⟩;have j9:X.block c x=X.block c y:=by rw[←hy];rfl
 case' V|U=>have hyi:y.i.a=x.i.a:=by rw[←hy]
 case' V|U|g0=>rw[hy]at zW hY⊢;rw[j9]at tN;clear hy j9
 case' Z|Y|X|J|G|D|V|U|g0=>obtain⟨yB,yC,fL⟩:=bh hS;have kC:=cH (show(ae c).length=24 from rfl) cv ha vb pb sb x.mark x.mt x.ml;unfold lP at fL;simp only[za]at fL;have jX:=fL.ar 0 rfl;have f55:=jX.cD kC.len h.aI 55 rfl rfl;have f56:=jX.cD kC.len h.aI 56 rfl rfl;have f57:=jX.cD kC.len h.aI 57 rfl rfl;have f58:=jX.cD kC.len h.aI 58 rfl rfl;have f59:=jX.cD kC.len h.aI 59 rfl rfl;have eG:=(hS.new 28 [I x.i.op,I x.i.a,I x.i.b,I x.i.c,U x.i.bN]).swap;clear kC fL jX hS;have dS:=aa eG;clear eG
 case' Z=>have hS:=dS.out;generalize hI:aJ w.heap.size 28 [I x.i.op,I x.i.a,I x.i.b,I x.i.c,U x.i.bN]=IT at*;obtain⟨la,lc,h2⟩:=bh hS;have dQ:Hid (∀w' nv,Sep w0 w' (aJ b 255 (iN (fJ (ae c) cv args vb pb sb x.mark x.mt x.ml) (X.gV x x.i.a val).aI (ey (X.gV x x.i.a val) nv))::aU 0 26 1 nv (X.gV x x.i.a val).news.length (bC (X.gV x x.i.a val).news)::aJ vb 258 (Vw.eU (ae c) aw seq (X.gV x x.i.a val).v)::bE c seq pb (X.gV x x.i.a val).p::cw sb (X.gV x x.i.a val).w::IT::R)→Sep w0 w' (aQ c aw seq b vb pb sb cv args (X.gV x x.i.a val)::IT::R)):=aa (λw' nv h=>bF h);have hE:=cH (show(ae c).length=24 from rfl) cv ha vb pb sb x.mark x.mt x.ml;unfold lP at h2;simp only[za]at h2;generalize fJ (ae c) cv args vb pb sb x.mark x.mt x.ml=H at*;have HE:=aa hE;have HX:=aa h;have HS:=aa h2;clear hS h2 hE h;subst hI;unfold X.gV at dQ;dsimp only at dQ;obtain⟨xv,xp,xw,mk,mt,ml,rg,pc,st,wr,wt,⟨op,ia,ib,ic,im⟩,s,rc,rv,nw⟩:=x;unfold ey at HS;dsimp only at*;subst ea;have bQ:=HX.aI;dsimp only at bQ;clear dS
 case' Y|X|J|G|D|V|U|g0=>
  have e9:(x.i.op==9)=false:=by simp;omega
  have qM:(x.i.op==11)=false:=by simp;omega
  have qN:(x.i.op==12)=false:=by simp;omega
 case' Y=>
  have JN:(x.i.op==15)=true:=by simpa using j_
  clear j_;generalize x.i.op=op at*;generalize x.i.a=ia at*;generalize x.i.b=ib at*;generalize x.i.c=ic at*;generalize x.i.bN=im at*;delta bR;go_in;go_wp2_with fail;refine(GH.out _ _ dS.out).kk λw1 h1=>?_;have de:=aa h1.swap.tail;clear h1;go_wp2;go_end0
 case' X|J|G|D|V|U|g0=>have JN:(x.i.op==15)=false:=by simp;omega
 case' X=>
  have yX:(x.i.op==13)=false:=by simp;omega
  have B4:(x.i.op==14)=false:=by simp;omega
  have GI:(x.i.op==16)=false:=by simp;omega
  clear j_;delta bR;go_in;go_wp2;go_end0
 case' J=>have yX:(x.i.op==13)=true:=by simpa using j_
 case' G=>have yX:(x.i.op==13)=false:=(by simp;omega);have B4:(x.i.op==14)=true:=(by simpa using j_)
 case' D=>have yX:(x.i.op==13)=false:=(by simp;omega);have B4:(x.i.op==14)=false:=(by simp;omega);have GI:(x.i.op==16)=true:=(by simpa using j_)
 case' J|G|D=>clear j_ hp;generalize X.block c x=bl at*
 case' V=>have yX:(x.i.op==13)=true:=by simpa using j_
 case' U=>have yX:(x.i.op==13)=false:=(by simp;omega);have B4:(x.i.op==14)=true:=(by simpa using j_)
 case' V|U=>clear j_ hp h;rw[←hyi]at dS f56;clear hyi;generalize x.i.op=op at*;generalize x.i.b=ib at*;generalize x.i.c=ic at*;generalize x.i.bN=im at*;obtain⟨ka,ua,ea,si,va,ga,Qb,Qc⟩:=jG hY.aI hY.ru hY.ia;rw[ea]at f56;have eG:=dS.out;rw[ea]at eG;clear dS;have dS:=aa eG;clear eG
 case' g0=>
  have yX:(x.i.op==13)=false:=by simp;omega
  have B4:(x.i.op==14)=false:=by simp;omega
  have GI:(x.i.op==16)=true:=by simpa using j_
  clear j_ hp h
 case' J|G|D|V|U|g0=>delta bR;go_in;go_wp2_with fail;refine(tN.out _ _ dS.out).kq dS λw1 dS=>?_;go_wp2_with fail;refine(zW.out _ _ dS.out).kh λw2 dS=>?_
 case' J|G|D=>have de:=aa dS.out.swap.tail;clear dS;go_wp2;go_end0
 case' V|U=>
  clear tN zW f55 f56 f57 f58 f59;go_wp2_with fail;have h_:=aa (λw=>cx w c aE 16 (X.block c y).1 (X.block c y).2.1);have JI:X.wrote c y={y with w:=P.cU y.w (at_ c 16 (X.block c y).1 (X.block c y).2.1) ua}:=by unfold X.wrote X.iE;rw[ga]
  have HWR:=aa JI;clear JI ga;have hS:=dS.out;obtain⟨la,lc,h2⟩:=bh hS;have dQ:Hid (∀w' nv,Sep w0 w' (aJ b 255 (iN (fJ (ae c) cv args vb pb sb y.mark y.mt y.ml) (X.wrote c y).aI (ey (X.wrote c y) nv))::aU 0 26 1 nv (X.wrote c y).news.length (bC (X.wrote c y).news)::aJ vb 258 (Vw.eU (ae c) aw seq (X.wrote c y).v)::bE c seq pb (X.wrote c y).p::cw sb (X.wrote c y).w::aJ w.heap.size 28 [I op,I (ka:Int),I ib,I ic,U im]::R)→Sep w0 w' (aQ c aw seq b vb pb sb cv args (X.wrote c y)::aJ w.heap.size 28 [I op,I (ka:Int),I ib,I ic,U im]::R)):=aa (λw' nv h=>bF h)
 case' g0=>
  have dS:=aa dS.out.swap.tail;clear tN zW f55 f56 f57 f58 f59 e9 qM qN JN yX B4 GI;go_wp2_with fail;have p5:y.w.done.length≤900000:=by have h1:=hY.dn;have h2:=hY.st;omega
  have HPG:=aa (λw' (RR:List a_) bb hS=>YW (w0:=w0) (w:=w') (R:=RR) pb sb c aE seq y.p y.w bb hY.nl p5 hS);have hS:=dS.out;have HGV:Hid (X.rm c y={y with p:=(P.nM c (X.block c y).1 y.p y.w).1,w:=(P.nM c (X.block c y).1 y.p y.w).2}):=aa rfl;obtain⟨la,lc,h2⟩:=bh hS;have dQ:Hid (∀w' nv,Sep w0 w' (aJ b 255 (iN (fJ (ae c) cv args vb pb sb y.mark y.mt y.ml) (X.rm c y).aI (ey (X.rm c y) nv))::aU 0 26 1 nv (X.rm c y).news.length (bC (X.rm c y).news)::aJ vb 258 (Vw.eU (ae c) aw seq (X.rm c y).v)::bE c seq pb (X.rm c y).p::cw sb (X.rm c y).w::R)→Sep w0 w' (aQ c aw seq b vb pb sb cv args (X.rm c y)::R)):=aa (λw' nv h=>bF h)
 case' V|U|g0=>have hE:=cH (show(ae c).length=24 from rfl) cv ha vb pb sb y.mark y.mt y.ml;unfold lP at h2;simp only[za]at h2;generalize fJ (ae c) cv args vb pb sb y.mark y.mt y.ml=H at*;have HE:=aa hE;have HX:=aa hY;have HS:=aa h2;clear hS h2 hE hY
 case' V|U=>
  rw[HWR.out]at dQ;generalize at_ c 16 (X.block c y).1 (X.block c y).2.1=av at*;generalize X.block c y=bl at*;have aD:(ae c).length=24:=rfl;unfold aY at*;generalize fB:db c=cf at*;clear fB;generalize ae c=cs at*;have hB:=(HS.ar 0 rfl).drew;have hI:=(HS.ar 5 rfl).drew;have i1:=hI.cell 1;have f31:=hB.fM HE.len 31 rfl HE.out.w;have ra:=(hB.cell (35+ka)).trans ((dM HE.len HX.aI _ si).trans (cV va));simp only[zg]at i1;refine bW [(1,[0,1,2,3,4,5,6,7,8,9,11,12,13,14,15,16,17]),(2,[10]),(3,[18])] (by kernel_rfl) ?_;simp only[zz];refine af ?_;repeat(first|(refine ak 58 _ b 0 cs _ rfl rfl rfl (aG (dw aD HE.out hB) (by simp)) underlying58 rfl (by rw[aD];kernel_rfl) ?_;simp only[Act.put,aZ,aL,aN])|go_big_quiet_step (fail)|quiet_step (fail))
  refine ax ?_;refine aA ?_;go_wp2_with fail;refine(h_.out _).kf HS.dr λw3 HF HS=>?_;go_wp2;refine⟨⟨⟨_,(by exact HF.out)⟩,rfl⟩,?_⟩
 case' g0=>rw[HGV.out]at dQ;generalize X.block c y=bl at*;have hB:=(HS.ar 0 rfl).drew;have f30:=hB.fM HE.len 30 rfl HE.out.p;have f31:=hB.fM HE.len 31 rfl HE.out.w;refine bW [(1,[0,1,2,3,4,5,6,7,8]),(3,[9])] (by kernel_rfl) ?_;simp only[zz]
 case' V|U|g0=>
  repeat(first|go_big_quiet_step(fail)|apply ax|apply af|apply ag|apply ah)
  refine ao ?_;go_wp2_with fail
 case' V|U=>refine(HS.call 4 rfl (λR hR=>iz hR (by have h1:=HX.out.dn;have h2:=HX.out.st;omega) av ua)).kk λw4 h1=>?_;simp only[zs]at h1;have HS:=aa h1;clear h1;go_wp2;refine aj ?_;go_wp2;go_end0
 case' g0=>refine(HPG.out _ _ _ HS.drew.ah9).kk λw4 h1=>?_;have HS:=aa h1.Qd;clear h1;go_wp2;refine aj ?_;go_wp2;go_end0
 case' Z=>rcases j_ with j_|j_|j_;refine ?g1;rotate_left;refine ?g2;rotate_left;refine ?g3
 case' Y|J|G|D=>exact⟨rfl,de.out⟩
 case' X=>exact⟨rfl,dS.out.swap.tail⟩
 case' V|U=>exact⟨rfl,by rw[HWR.out];exact(dQ.out _ _ HS.out).swap.tail⟩
 case' g0=>exact⟨rfl,by rw[HGV.out];exact dQ.out _ _ HS.out⟩
 case' g1=>have e9:(op==9)=true:=by simpa using j_
 case' g2=>
  have e9:(op==9)=false:=by simp;omega
  have qM:(op==11)=true:=by simpa using j_
 case' g3=>
  have e9:(op==9)=false:=by simp;omega
  have qM:(op==11)=false:=by simp;omega
  have qN:(op==12)=true:=by simpa using j_
 case' g1|g2|g3=>
  clear j_;delta bR;go_in;go_wp2_with fail;generalize World.alloc _ _=W1 at HS⊢;have hB:=(HS.ar 0 rfl).drew;have hI:=(HS.ar 5 rfl).drew;have i1:=hI.cell 1;have ra:=(hB.cell (35+ka)).trans ((dM HE.len bQ _ si).trans (cV va));have UR:=hB.az (35+ka);simp only[zg]at i1;have h5:=HS.drew.set 0 rfl (35+ka) (U val);simp only[aL,nA HE.len bQ _ si]at h5;have sk:=aa h5;clear h5;refine bW [(1,[0,1,2,3,4,5,6]),(3,[7])] (by kernel_rfl) ?_;simp only[zz];repeat(first|go_big_quiet_step(fail)|apply ax|apply af|apply ag|apply ah)
  refine ao ?_;go_wp2;refine aj ?_;go_wp2;go_end0
 case' g1|g2|g3=>exact⟨rfl,(dQ.out _ _ (by rw[dU];exact sk.out)).swap.tail⟩
def UX:=@zq35.1
def UY:=@zq35.2.1
def J4:=@zq35.2.2.1
def L5:=@zq35.2.2.2.1
def L6:=@zq35.2.2.2.2.1
def L7:=@zq35.2.2.2.2.2.1
def H7:=@zq35.2.2.2.2.2.2.1
def H8:=@zq35.2.2.2.2.2.2.2.1
def H_:=@zq35.2.2.2.2.2.2.2.2
def qB {w0 w R c}(aE:Y.Ok c){aw seq b vb pb sb cv args}(ha:args.length=4){x}(h:gE c x)(val)(hv:0≤val∧val≤18446744073709551615)(hS:Sep w0 w (aQ c aw seq b vb pb sb cv args x::R)):
 bR 177 #[O b,U val] w w0 (aQ c aw seq b vb pb sb cv args (X.jb c val x)::R):=by
 unfold X.jb;by_cases h1:x.i.op=9∨x.i.op=11∨x.i.op=12
 ·rw[aB h1];exact UX aE ha h val h1 hS
 ·rw[aq h1];by_cases h2:x.i.op=15
  ·rw[aB h2];exact UY aE ha h val hv h2 hS
  ·rw[aq h2];have zS:X.lE c x=if c.w-x.writes<bV x.i.op then(X.fail 42 0 x,false)else({x with writes:=x.writes+bV x.i.op},true):=rfl
   by_cases hp:c.w-x.writes<bV x.i.op
   ·rw[zS,aB hp];dsimp only;by_cases h3:x.i.op=13∨x.i.op=14
    ·rw[aB h3,aq (by decide)];rcases h3 with h3|h3
     ·exact L5 aE ha h val h3 hp hS
     ·exact L6 aE ha h val h3 hp hS
    ·rw[aq h3];by_cases h4:x.i.op=16
     ·rw[aB h4,aq (by decide)];exact L7 aE ha h val h4 hp hS
     ·rw[aq h4];exact J4 aE ha h val ⟨h1,h2,h3,h4⟩ hS
   ·rw[zS,aq hp];dsimp only;by_cases h3:x.i.op=13∨x.i.op=14
    ·rw[aB h3,aB rfl];rcases h3 with h3|h3
     ·exact H7 aE ha h val h3 hp hS
     ·exact H8 aE ha h val h3 hp hS
    ·rw[aq h3];by_cases h4:x.i.op=16
     ·rw[aB h4,aB rfl];exact H_ aE ha h val h4 hp hS
     ·rw[aq h4];exact J4 aE ha h val ⟨h1,h2,h3,h4⟩ hS
def zq36:(∀{w0 w R c}(aE:Y.Ok c){aw seq b vb pb sb cv args}(ha:args.length=4){x}(h:gE c x)(av g)(hg:W.get x.w av=(g,true))(hS:Sep w0 w (aQ c aw seq b vb pb sb cv args x::R)),bR 193 #[O b,I av] w w0 (aQ c aw seq b vb pb sb cv args (X.jb c g x)::R))∧(∀{w0 w R c}(aE:Y.Ok c){aw seq b vb pb sb cv args}(ha:args.length=4){x}(h:gE c x)(av g)(hg:W.get x.w av=(g,false))(hS:Sep w0 w (aQ c aw seq b vb pb sb cv args x::R)),bR 193 #[O b,I av] w w0 (aQ c aw seq b vb pb sb cv args {x with v:=Vw.cell c av x.v,waits:=true}::R)):=by
 refine⟨?Z,?Y⟩
 case' Z|Y=>intro w0 w R c aE aw seq b vb pb sb cv args ha x h av g hg hS
 case' Z=>have u9:=h.wv av;rw[hg]at u9;dsimp only at u9;have Qe:=aa (λw' hS=>qB (w0:=w0) (w:=w') (R:=R) aE (aw:=aw) (seq:=seq) (b:=b) (vb:=vb) (pb:=pb) (sb:=sb) (cv:=cv) ha h g u9 hS);obtain⟨la,lc,h2⟩:=bh hS;have dQ:Hid (∀w' nv,Sep w0 w' (aJ b 255 (iN (fJ (ae c) cv args vb pb sb x.mark x.mt x.ml) (x).aI (ey (x) nv))::aU 0 26 1 nv (x).news.length (bC (x).news)::aJ vb 258 (Vw.eU (ae c) aw seq (x).v)::bE c seq pb (x).p::cw sb (x).w::R)→Sep w0 w' (aQ c aw seq b vb pb sb cv args (x)::R)):=aa (λw' nv h=>bF h)
 case' Y=>obtain⟨la,lc,h2⟩:=bh hS;have dQ:Hid (∀w' nv,Sep w0 w' (aJ b 255 (iN (fJ (ae c) cv args vb pb sb x.mark x.mt x.ml) ({x with v:=Vw.cell c av x.v,waits:=true}).aI (ey ({x with v:=Vw.cell c av x.v,waits:=true}) nv))::aU 0 26 1 nv ({x with v:=Vw.cell c av x.v,waits:=true}).news.length (bC ({x with v:=Vw.cell c av x.v,waits:=true}).news)::aJ vb 258 (Vw.eU (ae c) aw seq ({x with v:=Vw.cell c av x.v,waits:=true}).v)::bE c seq pb ({x with v:=Vw.cell c av x.v,waits:=true}).p::cw sb ({x with v:=Vw.cell c av x.v,waits:=true}).w::R)→Sep w0 w' (aQ c aw seq b vb pb sb cv args ({x with v:=Vw.cell c av x.v,waits:=true})::R)):=aa (λw' nv h=>bF h)
 case' Z|Y=>have hE:=cH (show(ae c).length=24 from rfl) cv ha vb pb sb x.mark x.mt x.ml;unfold lP at h2;simp only[za]at h2;generalize fJ (ae c) cv args vb pb sb x.mark x.mt x.ml=H at*;have HE:=aa hE;have HX:=aa h;have HS:=aa h2;clear hS h2 hE h
 case' Y=>dsimp only at dQ;have UZ:=aa (λw' RR hS=>B8 (w0:=w0) (w:=w') (R:=RR) vb c aE aw seq x.v av hS);have HHG:=aa (hg)
 case' Z|Y=>have f31:=(HS.ar 0 rfl).fM HE.len 31 rfl HE.out.w;delta bR;go_in;go_wp2_with fail;refine(jo (HS.pull 4 rfl) av).kk λw1 hf=>?_;rw[hg];have HS:=aa (HS.fr0 hf);clear hf f31 hg;dsimp only
 case' Z=>go_wp2_with fail;refine(Qe.out _ (dQ.out _ _ HS.out)).kh λw2 de=>?_;go_wp2;refine aV (fV rfl _ _ _) rfl ?_
 case' Y=>have f29:=(HS.ar 0 rfl).fM HE.len 29 rfl HE.out.v;go_wp2_with fail;refine(HS.call 2 rfl (λR hR=>UZ.out _ _ hR)).kk λw2 h1=>?_;simp only[zs]at h1;have HS:=aa h1;clear h1 f29;have bQ:=HX.aI;obtain⟨xv,xp,xw,mk,mt,ml,rg,pc,st,wr,wt,i,s,rc,rv,nw⟩:=x;unfold ey at HS;dsimp only at*;obtain⟨f54,g54⟩:=(HS.ar 0 rfl).xS HE.len bQ 54 rfl rfl;have h3:=HS.set 0 rfl 54 (.bool true);simp only[aL,eK HE.len bQ,Nat.reduceSub,Nat.reduceLeDiff,aN]at h3;have eH:=aa h3;clear h3;go_wp2;go_end0
 case' Z=>exact⟨rfl,de.out⟩
 exact⟨rfl,dQ.out _ _ eH.out⟩
def Ia:=@zq36.1
def L8:=@zq36.2
def zX {w0 w R c}(aE:Y.Ok c){aw seq b vb pb sb cv args}(ha:args.length=4){x}(h:gE c x)(av)(hS:Sep w0 w (aQ c aw seq b vb pb sb cv args x::R)):
 bR 193 #[O b,I av] w w0 (aQ c aw seq b vb pb sb cv args (X.jc c av x)::R):=by
 unfold X.jc;obtain⟨g,k,hg⟩:∃g k,W.get x.w av=(g,k):=⟨_,_,rfl⟩;rw[hg];cases k
 ·exact L8 aE ha h av g hg hS
 ·exact Ia aE ha h av g hg hS
def Ib{w0 w R c}(aE:Y.Ok c){aw seq b vb pb sb cv args}(ha:args.length=4){x}(h:gE c x)(hS:Sep w0 w (aQ c aw seq b vb pb sb cv args x::R)):bR 186 #[O b] w w0 (aQ c aw seq b vb pb sb cv args (X.fresh c x)::R):=by
 unfold X.fresh;have zS:X.lE c x=if c.w-x.writes<bV x.i.op then(X.fail 42 0 x,false)else({x with writes:=x.writes+bV x.i.op},true):=rfl
 by_cases hp:c.w-x.writes<bV x.i.op;refine ?Z;rotate_left;refine ?Y
 case' Z=>rw[zS,aB hp];dsimp only;rw[aq (by decide)];have H:=vB aE ha h hp hS;clear zS hp hS h;delta bR;go_in;go_wp2_with fail;refine H.mono ?_;rintro r w1 ⟨rfl,h1⟩;have HS:=aa h1;clear h1 H;go_wp2;refine aV (fV rfl _ _ _) rfl ?_
 case' Z=>exact⟨rfl,HS.out⟩
 have HP:=sJ aE ha h hp hS;have hY:=gE.lE aE h hp;rw[aq hp]at zS;obtain⟨y,hy⟩:∃y,({x with writes:=x.writes+bV x.i.op}:X.St)=y:=⟨_,rfl⟩;rw[hy]at HP hY zS;rw[zS];dsimp only;rw[aB rfl];clear zS hp hS h hy;have kF:=aE.nZ;have J3:=aa (λw' RR hS=>UC (w0:=w0) (w:=w') (R:=RR) pb c aE seq y.p (by have:=hY.nt;omega) hS);obtain⟨tv,tk,ht⟩:∃tv tk,P.top c y.p=(tv,tk):=⟨_,_,rfl⟩;rw[ht]at J3⊢;clear ht;dsimp only at J3⊢;have AY:=aa (λw' hS=>jC (w0:=w0) (w:=w') (R:=R) (c:=c) (aw:=aw) (seq:=seq) (b:=b) (vb:=vb) (pb:=pb) (sb:=sb) (cv:=cv) ha hY 43 0 hS);have xT:=aa (λw' hS=>zX (w0:=w0) (w:=w') (R:=R) aE (aw:=aw) (seq:=seq) (b:=b) (vb:=vb) (pb:=pb) (sb:=sb) (cv:=cv) ha hY tv hS);have HP:=aa HP;cases tk
 refine ?X;rotate_left;refine ?J
 case' X=>rw[aq (by decide)]
 case' J=>rw[aB rfl]
 case' X|J=>delta bR;go_in;go_wp2_with fail;refine HP.out.mono ?_;rintro r w1 ⟨rfl,h1⟩;obtain⟨la,lc,h2⟩:=bh h1;have hE:=cH (show(ae c).length=24 from rfl) cv ha vb pb sb y.mark y.mt y.ml;have f30:=(h2.ar 0 rfl).fM hE.len 30 rfl hE.p;have HS:=aa h1;have de:=aa (h2.pull 3 rfl);clear h1 h2 hE;go_wp2_with fail;refine(J3.out _ _ de.out).kq HS λw2 HS=>?_;clear f30 de;go_wp2_with fail
 case' X=>refine(AY.out _ HS.out).kh λw3 HS=>?_;go_wp2;refine aV (fV rfl _ _ _) rfl ?_
 case' J=>refine(xT.out _ HS.out).kh λw3 HS=>?_;go_wp2;go_end0
 case' X|J=>exact⟨rfl,HS.out⟩
def mP (w op):ba 194 #[I op] w (.bool (decide (op=11∨op=12))):=by
 by_cases h1:op=11
 ·have e1:(op==11)=true:=by simpa using h1
  rw[eP (p:=op=11∨op=12) (.inl h1)];clear h1;delta ba;go_in;go_wp2;go_ret;exact⟨rfl,Fr.refl _ _⟩
 ·have e1:(op==11)=false:=by simpa using h1
  by_cases h2:op=12
  ·have e2:(op==12)=true:=by simpa using h2
   rw[eP (p:=op=11∨op=12) (.inr h2)];clear h1 h2;delta ba;go_in;go_wp2;go_ret;exact⟨rfl,Fr.refl _ _⟩
  ·have e2:(op==12)=false:=by simpa using h2
   rw[cW (p:=op=11∨op=12) (by omega)];clear h1 h2;delta ba;go_in;go_wp2;go_ret;exact⟨rfl,Fr.refl _ _⟩
def zq37:(∀{w0 w R c}(aE:Y.Ok c){aw seq b vb pb sb cv args}(ha:args.length=4){x}(h:gE c x)(hk:16≤X.iE x x.i.b)(hS:Sep w0 w (aQ c aw seq b vb pb sb cv args x::R)),bR 184 #[O b] w w0 (aQ c aw seq b vb pb sb cv args (X.fail 44 0 x)::R))∧(∀{w0 w R c}(aE:Y.Ok c){aw seq b vb pb sb cv args}(ha:args.length=4){x}(h:gE c x)(hk:¬16≤X.iE x x.i.b)(j_:x.i.op≠10)(hS:Sep w0 w (aQ c aw seq b vb pb sb cv args x::R)),bR 184 #[O b] w w0 (aQ c aw seq b vb pb sb cv args (X.jc c (at_ c 10 (X.iE x x.i.b) 0) x)::R))∧(∀{w0 w R c}(aE:Y.Ok c){aw seq b vb pb sb cv args}(ha:args.length=4){x}(h:gE c x)(hk:¬16≤X.iE x x.i.b)(j_:x.i.op=10)(hp:c.w-x.writes<bV x.i.op)(hS:Sep w0 w (aQ c aw seq b vb pb sb cv args x::R)),bR 184 #[O b] w w0 (aQ c aw seq b vb pb sb cv args (X.fail 42 0 x)::R))∧(∀{w0 w R c}(aE:Y.Ok c){aw seq b vb pb sb cv args}(ha:args.length=4){x}(h:gE c x)(hk:¬16≤X.iE x x.i.b)(j_:x.i.op=10)(hp:¬c.w-x.writes<bV x.i.op)(hS:Sep w0 w (aQ c aw seq b vb pb sb cv args x::R))(y)(hy:y={x with writes:=x.writes+bV x.i.op}),bR 184 #[O b] w w0 (aQ c aw seq b vb pb sb cv args {y with w:=P.cU y.w (at_ c 10 (X.iE x x.i.b) 0) (X.iE y y.i.a)}::R))∧(∀{w0 w R c}(aE:Y.Ok c){aw seq b vb pb sb cv args}(ha:args.length=4){x}(h:gE c x)(B Wd lf)(hS:Sep w0 w (aQ c aw seq b vb pb sb cv args x::R))(kn)(j9:X.block c x=(B,Wd,false))(nF:aS.W.get x.w (at_ c 11 B 0)=(lf,kn)),bR 185 #[O b] w w0 (aQ c aw seq b vb pb sb cv args (X.fail 44 0 x)::R))∧(∀{w0 w R c}(aE:Y.Ok c){aw seq b vb pb sb cv args}(ha:args.length=4){x}(h:gE c x)(B Wd lf)(hS:Sep w0 w (aQ c aw seq b vb pb sb cv args x::R))(j9:X.block c x=(B,Wd,true)),(∀(nF:aS.W.get x.w (at_ c 11 B 0)=(lf,true))(Zd:(lf !=1)=true),bR 185 #[O b] w w0 (aQ c aw seq b vb pb sb cv args (X.fail 44 0 x)::R))∧(∀(gv)(nF:aS.W.get x.w (at_ c 11 B 0)=(lf,false))(AZ:aS.W.get x.w (at_ c 16 B Wd)=(gv,true))(jN:decide (x.i.op=11∨x.i.op=12)=true),bR 185 #[O b] w w0 (aQ c aw seq b vb pb sb cv args (X.jb c gv x)::R))∧(∀(gv)(nF:aS.W.get x.w (at_ c 11 B 0)=(lf,false))(AZ:aS.W.get x.w (at_ c 16 B Wd)=(gv,false))(jN:decide (x.i.op=11∨x.i.op=12)=true),bR 185 #[O b] w w0 (aQ c aw seq b vb pb sb cv args ({x with v:=Vw.word c B Wd x.v,waits:=true})::R))∧(∀(gv)(nF:aS.W.get x.w (at_ c 11 B 0)=(lf,true))(Zd:(lf !=1)=false)(AZ:aS.W.get x.w (at_ c 16 B Wd)=(gv,true))(jN:decide (x.i.op=11∨x.i.op=12)=true),bR 185 #[O b] w w0 (aQ c aw seq b vb pb sb cv args (X.jb c gv x)::R))∧(∀(gv)(nF:aS.W.get x.w (at_ c 11 B 0)=(lf,true))(Zd:(lf !=1)=false)(AZ:aS.W.get x.w (at_ c 16 B Wd)=(gv,false))(jN:decide (x.i.op=11∨x.i.op=12)=true),bR 185 #[O b] w w0 (aQ c aw seq b vb pb sb cv args ({x with v:=Vw.word c B Wd x.v,waits:=true})::R))∧(∀(nF:aS.W.get x.w (at_ c 11 B 0)=(lf,true))(Zd:(lf !=1)=false)(jN:decide (x.i.op=11∨x.i.op=12)=false),bR 185 #[O b] w w0 (aQ c aw seq b vb pb sb cv args (X.jb c 0 x)::R))∧(∀(nF:aS.W.get x.w (at_ c 11 B 0)=(lf,false))(jN:decide (x.i.op=11∨x.i.op=12)=false),bR 185 #[O b] w w0 (aQ c aw seq b vb pb sb cv args ({x with v:=Vw.live c B x.v,waits:=true})::R))):=by
 refine⟨?Z,?Y,?X,?J,?G,?D⟩
 case' D=>intro w0 w R c aE aw seq b vb pb sb cv args ha x h B Wd lf hS j9;refine⟨?V,?U,?g0,?g1,?g2,?g3,?g4⟩
 case' Z=>intro w0 w R c aE aw seq b vb pb sb cv args ha x h hk hS
 case' Y=>intro w0 w R c aE aw seq b vb pb sb cv args ha x h hk j_ hS
 case' X=>intro w0 w R c aE aw seq b vb pb sb cv args ha x h hk j_ hp hS
 case' J=>intro w0 w R c aE aw seq b vb pb sb cv args ha x h hk j_ hp hS y hy
 case' Z|Y|X|J=>obtain⟨kb,ub,eb,p4,L3,gb,ub0,ub1⟩:=jG h.aI h.ru h.ib
 case' Z=>
  have hd:decide (16≤ub)=true:=by unfold X.iE at hk;rw[gb]at hk;simpa using hk
  clear hk gb;have AY:=aa (λw' hS=>jC (w0:=w0) (w:=w') (R:=R) (c:=c) (aw:=aw) (seq:=seq) (b:=b) (vb:=vb) (pb:=pb) (sb:=sb) (cv:=cv) ha h 44 0 hS)
 case' Y|X|J=>have bQ:X.iE x x.i.b=ub:=by unfold X.iE;exact gb
 case' Y=>rw[bQ]at hk⊢
 case' X=>rw[bQ]at hk
 case' J=>rw[bQ]at hk⊢
 case' Y|X|J=>have hd:decide (16≤ub)=false:=by simpa using hk
 case' Y=>
  have o7:(x.i.op==10)=false:=by simpa using j_
  clear hk gb bQ j_;have xT:=aa (λw' hS=>zX (w0:=w0) (w:=w') (R:=R) aE (aw:=aw) (seq:=seq) (b:=b) (vb:=vb) (pb:=pb) (sb:=sb) (cv:=cv) ha h (at_ c 10 ub 0) hS)
 case' X=>
  have o7:(x.i.op==10)=true:=by simpa using j_
  have zW:=aa (λw' RR hS=>vB (w0:=w0) (w:=w') (R:=RR) aE (aw:=aw) (seq:=seq) (b:=b) (vb:=vb) (pb:=pb) (sb:=sb) (cv:=cv) ha h hp hS);clear hk gb bQ j_ hp
 case' J=>
  have o7:(x.i.op==10)=true:=by simpa using j_
  have zW:=aa (λw' RR hS=>sJ (w0:=w0) (w:=w') (R:=RR) aE (aw:=aw) (seq:=seq) (b:=b) (vb:=vb) (pb:=pb) (sb:=sb) (cv:=cv) ha h hp hS);have hY:=gE.lE aE h hp;rw[←hy]at hY zW;obtain⟨ka,ua,ea,si,va,ga,Qb,Qc⟩:=jG hY.aI hY.ru hY.ia;have rz:X.iE y y.i.a=ua:=by unfold X.iE;exact ga
  rw[rz];clear hk gb bQ j_ hp hy rz ga;have h_:=aa (λw=>cx w c aE 10 ub 0);generalize at_ c 10 ub 0=av at*
 case' Z|Y|X|J=>obtain⟨la,lc,h2⟩:=bh hS;have dQ:Hid (∀w' nv,Sep w0 w' (aJ b 255 (iN (fJ (ae c) cv args vb pb sb x.mark x.mt x.ml) (x).aI (ey (x) nv))::aU 0 26 1 nv (x).news.length (bC (x).news)::aJ vb 258 (Vw.eU (ae c) aw seq (x).v)::bE c seq pb (x).p::cw sb (x).w::R)→Sep w0 w' (aQ c aw seq b vb pb sb cv args (x)::R)):=aa (λw' nv h=>bF h)
 case' G=>intro w0 w R c aE aw seq b vb pb sb cv args ha x h B Wd lf hS kn j9 nF
 case' V=>intro nF Zd
 case' U=>intro gv nF AZ jN
 case' g1=>intro gv nF Zd AZ jN
 case' g0=>intro gv nF AZ jN
 case' g2=>intro gv nF Zd AZ jN
 case' g3=>intro nF Zd jN
 case' g4=>intro nF jN
 case' G|V|U|g1|g0|g2|g3|g4=>have tN:=aa (λw' RR hS=>fE (w0:=w0) (w:=w') (R:=RR) aE (aw:=aw) (seq:=seq) (b:=b) (vb:=vb) (pb:=pb) (sb:=sb) (cv:=cv) ha h hS)
 case' G|V=>have AY:=aa (λw' hS=>jC (w0:=w0) (w:=w') (R:=R) (c:=c) (aw:=aw) (seq:=seq) (b:=b) (vb:=vb) (pb:=pb) (sb:=sb) (cv:=cv) ha h 44 0 hS);obtain⟨la,lc,h2⟩:=bh hS;have dQ:Hid (∀w' nv,Sep w0 w' (aJ b 255 (iN (fJ (ae c) cv args vb pb sb x.mark x.mt x.ml) (x).aI (ey (x) nv))::aU 0 26 1 nv (x).news.length (bC (x).news)::aJ vb 258 (Vw.eU (ae c) aw seq (x).v)::bE c seq pb (x).p::cw sb (x).w::R)→Sep w0 w' (aQ c aw seq b vb pb sb cv args (x)::R)):=aa (λw' nv h=>bF h)
 case' U|g1|g0|g2|g3|g4=>have nX:=aa (λw'=>mP w' x.i.op);rw[jN]at nX
 case' U|g1=>have u9:=h.wv (at_ c 16 B Wd);rw[AZ]at u9;have Qe:=aa (λw' hS=>qB (w0:=w0) (w:=w') (R:=R) aE (aw:=aw) (seq:=seq) (b:=b) (vb:=vb) (pb:=pb) (sb:=sb) (cv:=cv) ha h gv u9 hS)
 case' g0|g2=>have UZ:=aa (λw' RR hS=>B9 (w0:=w0) (w:=w') (R:=RR) vb c aE aw seq x.v B Wd hS)
 case' U|g1|g0|g2=>have Du:=aa (λw=>cx w c aE 16 B Wd);have Qh:=aa AZ;obtain⟨av,tq⟩:∃av,at_ c 16 B Wd=av:=⟨_,rfl⟩;rw[tq]at Du Qh
 case' U|g1=>clear AZ tq u9 jN
 case' g0|g2=>clear AZ tq jN
 case' U|g1|g0|g2=>unfold aY at Du
 case' g3=>have Qe:=aa (λw' hS=>qB (w0:=w0) (w:=w') (R:=R) aE (aw:=aw) (seq:=seq) (b:=b) (vb:=vb) (pb:=pb) (sb:=sb) (cv:=cv) ha h 0 (by omega) hS);clear jN
 case' g4=>have UZ:=aa (λw' RR hS=>LB (w0:=w0) (w:=w') (R:=RR) vb c aE aw seq x.v B hS);clear jN
 case' U|g1|g0|g2|g3|g4=>have tS:Hid (∀w' nv,Sep w0 w' (aJ b 255 (iN (fJ (ae c) cv args vb pb sb x.mark x.mt x.ml) x.aI (ey x nv))::aU 0 26 1 nv x.news.length (bC x.news)::aJ vb 258 (Vw.eU (ae c) aw seq x.v)::bE c seq pb x.p::cw sb x.w::R)→Sep w0 w' (aQ c aw seq b vb pb sb cv args x::R)):=aa (λw' nv h=>bF h);obtain⟨la,lc,h2⟩:=bh hS
 case' U|g1=>have dQ:Hid (∀w' nv,Sep w0 w' (aJ b 255 (iN (fJ (ae c) cv args vb pb sb x.mark x.mt x.ml) (x).aI (ey (x) nv))::aU 0 26 1 nv (x).news.length (bC (x).news)::aJ vb 258 (Vw.eU (ae c) aw seq (x).v)::bE c seq pb (x).p::cw sb (x).w::R)→Sep w0 w' (aQ c aw seq b vb pb sb cv args (x)::R)):=aa (λw' nv h=>bF h)
 case' g0|g2=>have dQ:Hid (∀w' nv,Sep w0 w' (aJ b 255 (iN (fJ (ae c) cv args vb pb sb x.mark x.mt x.ml) ({x with v:=Vw.word c B Wd x.v,waits:=true}).aI (ey ({x with v:=Vw.word c B Wd x.v,waits:=true}) nv))::aU 0 26 1 nv ({x with v:=Vw.word c B Wd x.v,waits:=true}).news.length (bC ({x with v:=Vw.word c B Wd x.v,waits:=true}).news)::aJ vb 258 (Vw.eU (ae c) aw seq ({x with v:=Vw.word c B Wd x.v,waits:=true}).v)::bE c seq pb ({x with v:=Vw.word c B Wd x.v,waits:=true}).p::cw sb ({x with v:=Vw.word c B Wd x.v,waits:=true}).w::R)→Sep w0 w' (aQ c aw seq b vb pb sb cv args ({x with v:=Vw.word c B Wd x.v,waits:=true})::R)):=aa (λw' nv h=>bF h)
 case' g3=>have dQ:Hid (∀w' nv,Sep w0 w' (aJ b 255 (iN (fJ (ae c) cv args vb pb sb x.mark x.mt x.ml) (x).aI (ey (x) nv))::aU 0 26 1 nv (x).news.length (bC (x).news)::aJ vb 258 (Vw.eU (ae c) aw seq (x).v)::bE c seq pb (x).p::cw sb (x).w::R)→Sep w0 w' (aQ c aw seq b vb pb sb cv args (x)::R)):=aa (λw' nv h=>bF h)
 case' g4=>have dQ:Hid (∀w' nv,Sep w0 w' (aJ b 255 (iN (fJ (ae c) cv args vb pb sb x.mark x.mt x.ml) ({x with v:=Vw.live c B x.v,waits:=true}).aI (ey ({x with v:=Vw.live c B x.v,waits:=true}) nv))::aU 0 26 1 nv ({x with v:=Vw.live c B x.v,waits:=true}).news.length (bC ({x with v:=Vw.live c B x.v,waits:=true}).news)::aJ vb 258 (Vw.eU (ae c) aw seq ({x with v:=Vw.live c B x.v,waits:=true}).v)::bE c seq pb ({x with v:=Vw.live c B x.v,waits:=true}).p::cw sb ({x with v:=Vw.live c B x.v,waits:=true}).w::R)→Sep w0 w' (aQ c aw seq b vb pb sb cv args ({x with v:=Vw.live c B x.v,waits:=true})::R)):=aa (λw' nv h=>bF h)
 case' Z|Y|X|J|G|V|U|g1|g0|g2|g3|g4=>have hE:=cH (show(ae c).length=24 from rfl) cv ha vb pb sb x.mark x.mt x.ml;unfold lP at h2;simp only[za]at h2;generalize fJ (ae c) cv args vb pb sb x.mark x.mt x.ml=H at*;have HE:=aa hE;have HX:=aa h;have HS:=aa h2;clear hS h2 hE h
 case' Z|Y|X|J=>have hB:=(HS.ar 0 rfl).drew;have f57:=hB.cD HE.len HX.aI 57 rfl rfl;have rb:=(hB.cell (35+kb)).trans ((dM HE.len HX.aI _ p4).trans (cV L3));rw[eb]at f57;delta bR;go_in;go_wp2_with fail;refine bW [(1,[0,1,2,3,4,5,6,7,8,9,10])] (by kernel_rfl) ?_;simp only[zz]
 case' G|V=>have tS:=dQ
 case' g0|g2=>dsimp only at dQ
 case' g4=>dsimp only at dQ
 case' G|V|U|g1|g0|g2|g3|g4=>
  have h_:=aa (λw=>cx w c aE 11 B 0);have zY:=aa nF;have Ic:=aa j9;obtain⟨al,qm⟩:∃al,at_ c 11 B 0=al:=⟨_,rfl⟩;rw[qm]at h_ zY;clear nF j9 qm;unfold aY at h_;have aD:(ae c).length=24:=rfl;obtain⟨cs,j8⟩:∃cs,ae c=cs:=⟨_,rfl⟩;rw[j8]at aD h_;have qC:=aa j8;clear j8;delta bR;go_in;go_wp2_with fail;refine(tN.out _ _ (tS.out _ _ HS.out)).kk λw1 hf=>?_;rw[Ic.out];have HS:=aa (HS.fr0 hf);clear hf;dsimp only;go_wp2_with fail;have hB:=(HS.ar 0 rfl).drew;have f31:=hB.fM HE.len 31 rfl HE.out.w;have eJ:=dw (by rw[qC.out];exact aD) HE.out hB;rw[qC.out]at eJ;refine bW [(1,[0,1,2,3,4,5,6,7,8]),(2,[9]),(3,[10]),(0,[11,12,13,14,15])] (by kernel_rfl) ?_;simp only[zz];refine af ?_;repeat(first|(refine ak 58 _ b 0 cs _ rfl rfl rfl (aG eJ (by simp)) underlying58 rfl (by rw[aD];kernel_rfl) ?_;simp only[Act.put,aZ,aL,aN])|go_big_quiet_step (fail)|quiet_step (fail))
  refine ax ?_;refine aA ?_;go_wp2_with fail;refine(h_.out _).kf HS.dr λw2 HF HS=>?_;go_wp2;refine⟨⟨⟨_,(by exact HF.out)⟩,rfl⟩,?_⟩;repeat(first|go_big_quiet_step(fail)|apply ax|apply af|apply ag|apply ah)
  refine ao ?_;go_wp2_with fail;refine(jo (HS.pull 4 rfl) al).kk λw3 hf=>?_;rw[zY.out];have HS:=aa (HS.fr0 hf);clear hf;dsimp only;go_wp2_with fail
 case' Z|Y|X|J|G|V|U|g1|g0|g2|g3|g4=>
  repeat(first|go_big_quiet_step(fail)|apply ax|apply af|apply ag|apply ah)
  refine aj ?_
 case' Z|Y|X|J=>have HS:=aa HS.drew;clear hB f57 rb
 case' Z=>go_wp2_with fail;refine(AY.out _ (dQ.out _ _ HS.out)).kh λw2 HS=>?_;go_wp2;refine aV (fV rfl _ _ _) rfl ?_
 case' Y|X|J=>have JU:ub≤15:=by simp at hd;omega
 case' Y|X=>have h_:=aa (λw=>cx w c aE 10 ub 0);have aD:(ae c).length=24:=rfl;unfold aY at*;generalize fB:db c=cf at*;clear fB;generalize ae c=cs at*;have hB:=(HS.ar 0 rfl);go_wp2_with(refine ay 58 _ rfl rfl _ 0 rfl cs _ (dw aD HE.out hB) underlying58 rfl (by rw[aD];kernel_rfl) ?_);refine(h_.out _).kq HS λw2 HS=>?_;clear hB
 case' J=>unfold aY at h_;have aD:(ae c).length=24:=rfl;obtain⟨cs,j8⟩:∃cs,ae c=cs:=⟨_,rfl⟩;have hB:=(HS.ar 0 rfl);have eJ:=dw aD HE.out hB;rw[j8]at eJ aD h_;go_wp2_with(refine ay 58 _ rfl rfl _ 0 rfl cs _ eJ underlying58 rfl (by rw[aD];kernel_rfl) ?_);refine(h_.out _).kq HS λw2 HS=>?_;clear hB eJ
 case' Y|X|J=>have f55:=(HS.ar 0 rfl).cD HE.len HX.aI 55 rfl rfl;go_wp2_with fail
 case' Y=>refine(xT.out _ (dQ.out _ _ HS.out)).kh λw3 HS=>?_;go_wp2;go_end0
 case' X=>refine(zW.out _ _ (dQ.out _ _ HS.out)).kh λw3 HS=>?_;go_wp2;refine aV (fV rfl _ _ _) rfl ?_
 case' J=>
  refine(zW.out _ _ (dQ.out _ _ HS.out)).kk λw3 hS=>?_;clear zW dQ HS HE HX h_ f55 o7 hd;go_wp2_with fail;obtain⟨la,lc,h2⟩:=bh hS;have dQ:Hid (∀w' nv,Sep w0 w' (aJ b 255 (iN (fJ (ae c) cv args vb pb sb y.mark y.mt y.ml) ({y with w:=P.cU y.w av ua}).aI (ey ({y with w:=P.cU y.w av ua}) nv))::aU 0 26 1 nv ({y with w:=P.cU y.w av ua}).news.length (bC ({y with w:=P.cU y.w av ua}).news)::aJ vb 258 (Vw.eU (ae c) aw seq ({y with w:=P.cU y.w av ua}).v)::bE c seq pb ({y with w:=P.cU y.w av ua}).p::cw sb ({y with w:=P.cU y.w av ua}).w::R)→Sep w0 w' (aQ c aw seq b vb pb sb cv args ({y with w:=P.cU y.w av ua})::R)):=aa (λw' nv h=>bF h);have hE:=cH (show(ae c).length=24 from rfl) cv ha vb pb sb y.mark y.mt y.ml;unfold lP at h2;simp only[za]at h2;generalize fJ (ae c) cv args vb pb sb y.mark y.mt y.ml=H at*;have HE:=aa hE;have HX:=aa hY;have HS:=aa h2;clear hS h2 hE hY;have hB:=(HS.ar 0 rfl).drew;have f31:=hB.fM HE.len 31 rfl HE.out.w;have f56:=hB.cD HE.len HX.aI 56 rfl rfl;have ra:=(hB.cell (35+ka)).trans ((dM HE.len HX.aI _ si).trans (cV va));rw[ea]at f56;refine bW [(1,[0,1,2,3,4,5,6,7,8,9,10,11,12,13,14]),(3,[15])] (by kernel_rfl) ?_;simp only[zz];repeat(first|go_big_quiet_step(fail)|apply ax|apply af|apply ag|apply ah)
  refine ao ?_;go_wp2_with fail;refine(HS.drew.call 4 rfl (λR hR=>iz hR (by have h1:=HX.out.dn;have h2:=HX.out.st;omega) av ua)).kk λw4 h1=>?_;simp only[zs]at h1;have HS:=aa h1;clear h1;go_wp2;refine aj ?_;go_wp2;refine aV (fV rfl _ _ _) rfl ?_
 case' G|V|U|g1|g0|g2|g3|g4=>clear hB f31 eJ HF
 case' G|V=>go_wp2_with fail;refine(AY.out _ (dQ.out _ _ HS.out)).kh λw4 HS=>?_;go_wp2;refine aV (fV rfl _ _ _) rfl ?_
 case' U|g1|g0|g2=>rw[qC.out]at Du
 case' U|g1|g0|g2|g3|g4=>have f55:=(HS.ar 0 rfl).cD HE.len HX.aI 55 rfl rfl;go_wp2_with fail;refine(nX.out _).kq HS λw4 HS=>?_;clear f55
 case' U|g1|g0|g2|g3=>go_wp2_with fail
 case' U|g1|g0|g2=>
  have hB:=(HS.ar 0 rfl).drew;have f31:=hB.fM HE.len 31 rfl HE.out.w;have eJ:=dw (by rw[qC.out];exact aD) HE.out hB;rw[qC.out]at eJ;refine bW [(1,[0,1,2,3,4,5,6,7,8,9]),(2,[10]),(3,[11]),(0,[12,13,14,15,16])] (by kernel_rfl) ?_;simp only[zz];refine af ?_;repeat(first|(refine ak 58 _ b 0 cs _ rfl rfl rfl (aG eJ (by simp)) underlying58 rfl (by rw[aD];kernel_rfl) ?_;simp only[Act.put,aZ,aL,aN])|go_big_quiet_step (fail)|quiet_step (fail))
  refine ax ?_;refine aA ?_;go_wp2_with fail;refine(Du.out _).kf HS.dr λw5 HF HS=>?_;go_wp2;refine⟨⟨⟨_,(by exact HF.out)⟩,rfl⟩,?_⟩;repeat(first|go_big_quiet_step(fail)|apply ax|apply af|apply ag|apply ah)
  refine ao ?_;go_wp2_with fail;refine(jo (HS.pull 4 rfl) av).kk λw6 hf=>?_;rw[Qh.out];have HS:=aa (HS.fr0 hf);clear hf;dsimp only;go_wp2_with fail;repeat(first|go_big_quiet_step(fail)|apply ax|apply af|apply ag|apply ah)
  refine aj ?_;clear hB f31 eJ HF
 case' U|g1=>go_wp2_with fail;refine(Qe.out _ (tS.out _ _ HS.out)).kh λw7 HS=>?_;go_wp2;refine aV (fV rfl _ _ _) rfl ?_
 case' g0|g2=>have f29:=(HS.ar 0 rfl).fM HE.len 29 rfl HE.out.v;go_wp2_with fail;refine(HS.call 2 rfl (λR hR=>UZ.out _ _ hR)).kk λw7 h1=>?_;simp only[zs]at h1;unfold ey at h1;have HS:=aa h1;clear h1 f29;have bQ:=HX.aI;obtain⟨f54,g54⟩:=(HS.ar 0 rfl).xS HE.len bQ 54 rfl rfl;have h3:=HS.set 0 rfl 54 (.bool true);simp only[aL,eK HE.len bQ,Nat.reduceSub,Nat.reduceLeDiff,aN]at h3;have eH:=aa h3;clear h3;go_wp2;refine aV (fV rfl _ _ _) rfl ?_
 case' g3=>refine(Qe.out _ (tS.out _ _ HS.out)).kh λw7 HS=>?_;go_wp2;refine aV (fV rfl _ _ _) rfl ?_
 case' g4=>have f29:=(HS.ar 0 rfl).fM HE.len 29 rfl HE.out.v;go_wp2_with fail;refine(HS.call 2 rfl (λR hR=>UZ.out _ _ hR)).kk λw7 h1=>?_;simp only[zs]at h1;unfold ey at h1;have HS:=aa h1;clear h1 f29;have bQ:=HX.aI;obtain⟨f54,g54⟩:=(HS.ar 0 rfl).xS HE.len bQ 54 rfl rfl;have h3:=HS.set 0 rfl 54 (.bool true);simp only[aL,eK HE.len bQ,Nat.reduceSub,Nat.reduceLeDiff,aN]at h3;have eH:=aa h3;clear h3;go_wp2;go_end0
 case' Z|Y|X|G|V|U|g1|g3=>exact⟨rfl,HS.out⟩
 case' J=>exact⟨rfl,dQ.out _ _ HS.out⟩
 case' g0|g2|g4=>exact⟨rfl,dQ.out _ _ eH.out⟩
def L9:=@zq37.1
def L_:=@zq37.2.1
def Qf:=@zq37.2.2.1
def Ma:=@zq37.2.2.2.1
def Qg:=@zq37.2.2.2.2.1
def Fg{w0 w R c}(aE){aw seq b vb pb sb cv args}(ha){x}(h B Wd lf hS j9):=(@zq37.2.2.2.2.2 w0 w R c aE aw seq b vb pb sb cv args ha x h B Wd lf hS j9).1
def Ie{w0 w R c}(aE){aw seq b vb pb sb cv args}(ha){x}(h B Wd lf hS j9):=(@zq37.2.2.2.2.2 w0 w R c aE aw seq b vb pb sb cv args ha x h B Wd lf hS j9).2.1
def Ig{w0 w R c}(aE){aw seq b vb pb sb cv args}(ha){x}(h B Wd lf hS j9):=(@zq37.2.2.2.2.2 w0 w R c aE aw seq b vb pb sb cv args ha x h B Wd lf hS j9).2.2.1
def Ih{w0 w R c}(aE){aw seq b vb pb sb cv args}(ha){x}(h B Wd lf hS j9):=(@zq37.2.2.2.2.2 w0 w R c aE aw seq b vb pb sb cv args ha x h B Wd lf hS j9).2.2.2.1
def Ii{w0 w R c}(aE){aw seq b vb pb sb cv args}(ha){x}(h B Wd lf hS j9):=(@zq37.2.2.2.2.2 w0 w R c aE aw seq b vb pb sb cv args ha x h B Wd lf hS j9).2.2.2.2.1
def Mb{w0 w R c}(aE){aw seq b vb pb sb cv args}(ha){x}(h B Wd lf hS j9):=(@zq37.2.2.2.2.2 w0 w R c aE aw seq b vb pb sb cv args ha x h B Wd lf hS j9).2.2.2.2.2.1
def Mc{w0 w R c}(aE){aw seq b vb pb sb cv args}(ha){x}(h B Wd lf hS j9):=(@zq37.2.2.2.2.2 w0 w R c aE aw seq b vb pb sb cv args ha x h B Wd lf hS j9).2.2.2.2.2.2
def Cj {w0 w R c}(aE:Y.Ok c){aw seq b vb pb sb cv args}(ha:args.length=4){x}(h:gE c x)(hS:Sep w0 w (aQ c aw seq b vb pb sb cv args x::R)):
 bR 184 #[O b] w w0 (aQ c aw seq b vb pb sb cv args (X.root c x)::R):=by
 unfold X.root;by_cases hk:16≤X.iE x x.i.b
 ·rw[aB hk];exact L9 aE ha h hk hS
 ·rw[aq hk];by_cases j_:x.i.op=10
  ·rw[aB j_];have zS:X.lE c x=if c.w-x.writes<bV x.i.op then(X.fail 42 0 x,false)else({x with writes:=x.writes+bV x.i.op},true):=rfl
   by_cases hp:c.w-x.writes<bV x.i.op
   ·rw[zS,aB hp,aq (by simp)];exact Qf aE ha h hk j_ hp hS
   ·rw[zS,aq hp,aB rfl];exact Ma aE ha h hk j_ hp hS _ rfl
  ·rw[aq j_];exact L_ aE ha h hk j_ hS
def oU{w0 w R c}(aE:Y.Ok c){aw seq b vb pb sb cv args}(ha:args.length=4){x}(h:gE c x)(hS:Sep w0 w (aQ c aw seq b vb pb sb cv args x::R)):bR 185 #[O b] w w0 (aQ c aw seq b vb pb sb cv args (X.fq c x)::R):=by
 unfold X.fq;obtain⟨B,Wd,ok,j9⟩:∃B Wd ok,X.block c x=(B,Wd,ok):=⟨_,_,_,rfl⟩;obtain⟨lf,kn,nF⟩:∃lf kn,aS.W.get x.w (at_ c 11 B 0)=(lf,kn):=⟨_,_,rfl⟩;obtain⟨gv,gk,AZ⟩:∃gv gk,aS.W.get x.w (at_ c 16 B Wd)=(gv,gk):=⟨_,_,rfl⟩;rw[j9];dsimp only;rw[nF,AZ];dsimp only;cases ok
 refine ?Z;rotate_left;refine ?Y
 case' Z=>rw[aB (.inl rfl)];exact Qg aE ha h B Wd lf hS kn j9 nF
 by_cases hr:x.i.op=11∨x.i.op=12;refine ?X;rotate_left;refine ?J
 case' X=>have jN:=eP hr
 case' X=>
  cases kn
  refine ?G;rotate_left;refine ?D
 case' G=>rw[aq (by simp),aB hr]
 case' G=>
  cases gk
  ·rw[aq (by simp)];exact Ig aE ha h B Wd lf hS j9 gv nF AZ jN
  ·rw[aB rfl];exact Ie aE ha h B Wd lf hS j9 gv nF AZ jN
 case' D=>by_cases hl:lf=1;refine ?V;rotate_left;refine ?U
 case' V=>rw[aq (by simp[hl]),aB hr]
 case' V=>
  cases gk
  ·rw[aq (by simp)];exact Ii aE ha h B Wd lf hS j9 gv nF (by simpa using hl) AZ jN
  ·rw[aB rfl];exact Ih aE ha h B Wd lf hS j9 gv nF (by simpa using hl) AZ jN
 case' J=>have jN:=cW hr
 case' J=>
  cases kn
  refine ?g0;rotate_left;refine ?g1
 case' g1=>by_cases hl:lf=1;refine ?g2;rotate_left;refine ?g3
 case' U|g3=>rw[aB (.inr ⟨rfl,hl⟩)];exact Fg aE ha h B Wd lf hS j9 nF (by simpa using hl)
 case' g0=>rw[aq (by simp),aq hr,aq (by simp)];exact Mc aE ha h B Wd lf hS j9 nF jN
 rw[aq (by simp[hl]),aq hr,aB rfl];exact Mb aE ha h B Wd lf hS j9 nF (by simpa using hl) jN
