/- A part of the proof. -/
import Derived.Test.YtolkmchicplaoaaGreatA05
set_option linter.all false
set_option maxHeartbeats 8000000
namespace Go.Proofs.YtolkmchicplaoaaGreat
open Go.RowKit Go.aS Go.aS.I_ Go.aS.Y Go.Maps
def Em (sp:Value)(args aI:List Int)(tl:List Value):List Value:=(sp::args.map (Value.int .u64))++(aI.map (Value.int .u64)++tl)
def Fa (sp args aI tl):(Em sp args aI tl)[0]?=some sp:=rfl
def kU {sp args aI tl}(ha:args.length=4){j}(hj:j<aI.length):(Em sp args aI tl)[5+j]?=some (U (aI.getD j 0)):=by
 unfold Em;have hl:(sp::args.map (Value.int .u64)).length=5:=by simp[ha]
 rw[gw (by omega),hl,zd,gm (by simpa using hj),jE,cy hj,cO,cy hj];rfl
def fe {sp args aI tl}(ha:args.length=4)(hr:aI.length=16)(k)(hk:21≤k):(Em sp args aI tl)[k]?=tl[k-21]?:=by
 unfold Em;have hl:(sp::args.map (Value.int .u64)).length=5:=by simp[ha]
 rw[gw (by omega),hl,gw (by simp[hr];omega),dD,hr];congr 1
def jY {sp args aI tl}(ha:args.length=4)(hr:aI.length=16)(k v)(hk:21≤k):(Em sp args aI tl).set k v=Em sp args aI (tl.set (k-21) v):=by
 unfold Em;have hl:(sp::args.map (Value.int .u64)).length=5:=by simp[ha]
 rw[eD _ _ (by omega),hl,eD _ _ (by simp[hr];omega),dD,hr];congr 3
def PV {sp args aI tl}(ha:args.length=4)(j v)(hj:j<aI.length):(Em sp args aI tl).set (5+j) (U v)=Em sp args (aI.set j v) tl:=by
 unfold Em;have hl:(sp::args.map (Value.int .u64)).length=5:=by simp[ha]
 rw[eD _ _ (by omega),hl,zd,uK _ _ (by simpa using hj),kE]
def Y4 {sp args aI tl}(ha:args.length=4)(hr:aI.length=16):(Em sp args aI tl).length=21+tl.length:=by
 unfold Em;simp[ha,hr];omega
def nB (bY:Int)(pick:Value)(rc:Int)(r:Mo.R):List Value:=[I bY,pick,I rc,U r.rv,I r.steps,I r.writes,.slice none 0 0,I r.pc,.bool r.ended]
def jq (rb sb:Nat)(args:List Int)(bY:Int)(pick:Value)(rc:Int)(r:Mo.R):List a_:=[aJ rb 188 (Em (O sb) args r.aI (nB bY pick rc r)),rA sb r.roots]
structure MI (args:List Int)(r:Mo.R):Prop where
 a4:args.length=4
 au:∀x∈args,0≤x∧x≤18446744073709551615
 tL:r.aI.length=16
 ru:∀x∈r.aI,0≤x∧x≤18446744073709551615
 ro:r.roots.length=16
 LP:∀x∈r.roots,0≤x∧x≤18446744073709551615
 pc:0≤r.pc∧r.pc≤1000
 wr:0≤r.writes∧r.writes≤1000000
def UN {w b}{T:TypeId}{sp args aI tl}(ha:args.length=4)(hr:aI.length=16)(h:cB w b T (Em sp args aI tl)):w.rangeAt b 5 (bC aI):=λj u hj=>by
 have hl:(bC aI).length=16:=by unfold bC;rw[dD,hr]
 have zM:j<16:=by rw[←hl];exact(dE.1 hj).1
 refine(h.cell (5+j)).trans ((kU ha (j:=j) (by omega)).trans ?_);rw[←hj];unfold bC;rw[jE,cy (by omega),cO,cy (by omega)];rfl
def UO {w b}{T:TypeId}{sp args aI tl}(ha:args.length=4)(h:cB w b T (Em sp args aI tl)):w.rangeAt b 1 (bC args):=λj u hj=>by
 have hl:(bC args).length=4:=by unfold bC;rw[dD,ha]
 have zM:j<4:=by rw[←hl];exact(dE.1 hj).1
 refine(h.cell (1+j)).trans (Eq.trans ?_ hj);unfold Em bC;rw[gm (by simp[ha];omega),fN,pN]
def zq32:(∀{w0 w R rb sb args bY pick rc r i}(hI:MI args r)(zQ:0≤i.bN∧i.bN≤300)(lN:(i.op==17)=true)(hS:Sep w0 w (jq rb sb args bY pick rc r++R)),jh 98 #[O rb,.agg (gl i).toArray] w (I 0) w0 (jq rb sb args bY pick rc {r with pc:=i.bN}++R))∧(∀{w0 w R rb sb args bY pick rc r i}(hI:MI args r)(zQ:0≤i.bN∧i.bN≤300)(S4:0≤i.a∧i.a<16)(lN:(i.op==17)=false)(lO:(i.op==18)=true)(iC:(r.aI.getD i.a.toNat 0==0)=true)(hS:Sep w0 w (jq rb sb args bY pick rc r++R)),jh 98 #[O rb,.agg (gl i).toArray] w (I 0) w0 (jq rb sb args bY pick rc {r with pc:=i.bN}++R))∧(∀{w0 w R rb sb args bY pick rc r i}(hI:MI args r)(zQ:0≤i.bN∧i.bN≤300)(S4:0≤i.a∧i.a<16)(lN:(i.op==17)=false)(lO:(i.op==18)=true)(iC:(r.aI.getD i.a.toNat 0==0)=false)(hS:Sep w0 w (jq rb sb args bY pick rc r++R)),jh 98 #[O rb,.agg (gl i).toArray] w (I 0) w0 (jq rb sb args bY pick rc {r with pc:=r.pc+1}++R))∧(∀{w0 w R rb sb args bY pick rc r i}(hI:MI args r)(zQ:0≤i.bN∧i.bN≤300)(S4:0≤i.a∧i.a<16)(lN:(i.op==17)=false)(lO:(i.op==18)=false)(nO:(i.op==19)=true)(iC:(r.aI.getD i.a.toNat 0==0)=false)(hS:Sep w0 w (jq rb sb args bY pick rc r++R)),jh 98 #[O rb,.agg (gl i).toArray] w (I 0) w0 (jq rb sb args bY pick rc {r with pc:=i.bN}++R))∧(∀{w0 w R rb sb args bY pick rc r i}(hI:MI args r)(zQ:0≤i.bN∧i.bN≤300)(S4:0≤i.a∧i.a<16)(lN:(i.op==17)=false)(lO:(i.op==18)=false)(nO:(i.op==19)=true)(iC:(r.aI.getD i.a.toNat 0==0)=true)(hS:Sep w0 w (jq rb sb args bY pick rc r++R)),jh 98 #[O rb,.agg (gl i).toArray] w (I 0) w0 (jq rb sb args bY pick rc {r with pc:=r.pc+1}++R))∧(∀{w0 w R rb sb args bY pick rc r i}(hI:MI args r)(S4:0≤i.a∧i.a<16)(lN:(i.op==17)=false)(lO:(i.op==18)=false)(nO:(i.op==19)=false)(rp:(i.op==20)=true)(hS:Sep w0 w (jq rb sb args bY pick rc r++R)),jh 98 #[O rb,.agg (gl i).toArray] w (I 0) w0 (jq rb sb args bY pick rc {r with pc:=r.pc+1,rv:=r.aI.getD i.a.toNat 0,ended:=true}++R))∧(∀{w0 w R rb sb args bY pick rc r i}(hI:MI args r)(lN:(i.op==17)=false)(lO:(i.op==18)=false)(nO:(i.op==19)=false)(rp:(i.op==20)=false)(sG:(i.op==21)=true)(hS:Sep w0 w (jq rb sb args bY pick rc r++R)),jh 98 #[O rb,.agg (gl i).toArray] w (I 40) w0 (jq rb sb args bY pick rc {r with pc:=r.pc+1,rv:=i.bN}++R))∧(∀{w0 w R rb sb args bY pick rc e r y i}(hI:MI args r)(lN:(i.op==17)=false)(lO:(i.op==18)=false)(nO:(i.op==19)=false)(rp:(i.op==20)=false)(sG:(i.op==21)=false)(e9:(i.op==9)=true)(HK:∀w1,Sep w0 w1 (jq rb sb args bY pick rc {r with pc:=r.pc+1}++R)→jh 123 #[O rb,.agg (gl i).toArray] w1 (I e) w0 (jq rb sb args bY pick rc y++R))(hS:Sep w0 w (jq rb sb args bY pick rc r++R)),jh 98 #[O rb,.agg (gl i).toArray] w (I e) w0 (jq rb sb args bY pick rc y++R))∧(∀{w0 w R rb sb args bY pick rc e r y i}(hI:MI args r)(lN:(i.op==17)=false)(lO:(i.op==18)=false)(nO:(i.op==19)=false)(rp:(i.op==20)=false)(sG:(i.op==21)=false)(e9:(i.op==9)=false)(o7:(i.op==10)=true)(HK:∀w1,Sep w0 w1 (jq rb sb args bY pick rc {r with pc:=r.pc+1}++R)→jh 123 #[O rb,.agg (gl i).toArray] w1 (I e) w0 (jq rb sb args bY pick rc y++R))(hS:Sep w0 w (jq rb sb args bY pick rc r++R)),jh 98 #[O rb,.agg (gl i).toArray] w (I e) w0 (jq rb sb args bY pick rc y++R))∧(∀{w0 w R rb sb args bY pick rc e r y i}(hI:MI args r)(lN:(i.op==17)=false)(lO:(i.op==18)=false)(nO:(i.op==19)=false)(rp:(i.op==20)=false)(sG:(i.op==21)=false)(e9:(i.op==9)=false)(o7:(i.op==10)=false)(qM:(i.op==11)=true)(HK:∀w1,Sep w0 w1 (jq rb sb args bY pick rc {r with pc:=r.pc+1}++R)→jh 124 #[O rb,.agg (gl i).toArray] w1 (I e) w0 (jq rb sb args bY pick rc y++R))(hS:Sep w0 w (jq rb sb args bY pick rc r++R)),jh 98 #[O rb,.agg (gl i).toArray] w (I e) w0 (jq rb sb args bY pick rc y++R))∧(∀{w0 w R rb sb args bY pick rc e r y i}(hI:MI args r)(lN:(i.op==17)=false)(lO:(i.op==18)=false)(nO:(i.op==19)=false)(rp:(i.op==20)=false)(sG:(i.op==21)=false)(e9:(i.op==9)=false)(o7:(i.op==10)=false)(qM:(i.op==11)=false)(qN:(i.op==12)=true)(HK:∀w1,Sep w0 w1 (jq rb sb args bY pick rc {r with pc:=r.pc+1}++R)→jh 124 #[O rb,.agg (gl i).toArray] w1 (I e) w0 (jq rb sb args bY pick rc y++R))(hS:Sep w0 w (jq rb sb args bY pick rc r++R)),jh 98 #[O rb,.agg (gl i).toArray] w (I e) w0 (jq rb sb args bY pick rc y++R))∧(∀{w0 w R rb sb args bY pick rc r i}(hI:MI args r)(S4:0≤i.a∧i.a<16)(xG:0≤i.b∧i.b<16)(wJ:0≤i.c∧i.c<16)(zQ:0≤i.bN)(h8:i.op=8→i.bN<4)(lN:(i.op==17)=false)(lO:(i.op==18)=false)(nO:(i.op==19)=false)(rp:(i.op==20)=false)(sG:(i.op==21)=false)(e9:(i.op==9)=false)(o7:(i.op==10)=false)(qM:(i.op==11)=false)(qN:(i.op==12)=false)(yX:(i.op==13)=false)(B4:(i.op==14)=false)(JN:(i.op==15)=false)(GI:(i.op==16)=false)(hS:Sep w0 w (jq rb sb args bY pick rc r++R)),jh 98 #[O rb,.agg (gl i).toArray] w (I 0) w0 (jq rb sb args bY pick rc {r with pc:=r.pc+1,aI:=r.aI.set i.a.toNat (reckon i r.aI args)}++R)):=by
 refine⟨?Z,?Y,?X,?J,?G,?D,?V,?U,?g0,?g1,?g2,?g3⟩
 case' Z=>intro w0 w R rb sb args bY pick rc r i hI zQ lN hS
 case' V=>intro w0 w R rb sb args bY pick rc r i hI lN lO nO rp sG hS
 case' U=>intro w0 w R rb sb args bY pick rc e r y i hI lN lO nO rp sG e9 HK hS
 case' g0=>intro w0 w R rb sb args bY pick rc e r y i hI lN lO nO rp sG e9 o7 HK hS
 case' g1=>intro w0 w R rb sb args bY pick rc e r y i hI lN lO nO rp sG e9 o7 qM HK hS
 case' g2=>intro w0 w R rb sb args bY pick rc e r y i hI lN lO nO rp sG e9 o7 qM qN HK hS
 case' U|g0|g1|g2=>have HK:=aa HK;unfold jq gl at HK;dsimp only[List.cons_append,List.nil_append]at HK
 case' Y=>intro w0 w R rb sb args bY pick rc r i hI zQ S4 lN lO iC hS
 case' J=>intro w0 w R rb sb args bY pick rc r i hI zQ S4 lN lO nO iC hS
 case' X=>intro w0 w R rb sb args bY pick rc r i hI zQ S4 lN lO iC hS
 case' G=>intro w0 w R rb sb args bY pick rc r i hI zQ S4 lN lO nO iC hS
 case' D=>intro w0 w R rb sb args bY pick rc r i hI S4 lN lO nO rp hS;have iC:r.aI.getD i.a.toNat 0=r.aI.getD i.a.toNat 0:=rfl
 case' g3=>intro w0 w R rb sb args bY pick rc r i hI S4 xG wJ zQ h8 lN lO nO rp sG e9 o7 qM qN yX B4 JN GI hS;have HRK:=aa (λw'=>zJ w' i r.aI args hI.tL hI.a4 hI.ru xG wJ zQ h8);unfold gl at HRK;generalize reckon i r.aI args=rk at*
 case' Z|V|U|g0|g1|g2|Y|J|X|G|D|g3=>obtain⟨roots,aI,wr,st,pc,rv,en⟩:=r;obtain⟨op,ia,ib,ic,im⟩:=i;unfold gl;have gN:=hI.a4;have c7:=hI.tL;have zR:=hI.pc;dsimp only at*;have PX:IntKind.i64.wrap (pc+1)=pc+1:=bf _ (by omega) (by omega);have HS:=aa hS;clear hS;unfold jq at HS;dsimp only[List.cons_append,List.nil_append]at HS;have HS:=aa (HS.new 28 [I op,I ia,I ib,I ic,U im]);have fl:=(HS.ar 1 rfl).lt
 case' D=>rw[show({roots:=roots,aI:=aI,writes:=wr,steps:=st,pc:=pc+1,rv:=aI.getD ia.toNat 0,ended:=true}:Mo.R)=⟨roots,aI,wr,st,pc+1,aI.getD ia.toNat 0,true⟩from rfl]
 case' Y|J|X|G|D|g3=>obtain⟨ka,rfl⟩:∃k:Nat,ia=(k:Int):=⟨ia.toNat,by omega⟩
 case' Y|J|X|G|D=>rw[dU]at iC;have rz:=fun(tl:List Value)=>kU (sp:=O sb) (args:=args) (aI:=aI) (tl:=tl) gN (j:=ka) (by omega);obtain⟨ua,hu⟩:∃u,aI.getD ka 0=u:=⟨_,rfl⟩;rw[hu]at iC;simp only[hu]at rz;have HU:=aa hu;clear hu
 case' D=>rw[dU]
 case' g3=>
  have si:ka<16:=by omega
  rw[dU];have HA4:=aa gN;have aq2:=aa c7;have lV:(bC args).length=4:=by unfold bC;rw[dD,gN]
  have hlg:(bC aI).length=16:=by unfold bC;rw[dD,c7]
  have HSA:=aa (fun(tl:List Value) (v:Int)=>PV (sp:=O sb) (args:=args) (aI:=aI) (tl:=tl) gN ka v (by omega));have HRA:=aa (fun(tl:List Value)=>kU (sp:=O sb) (args:=args) (aI:=aI) (tl:=tl) gN (j:=ka) (by omega))
 case' Z|V|U|g0|g1|g2|Y|J|X|G|D|g3=>obtain⟨f28,lu⟩:=(HS.ar 1 rfl).cef 28 (fe gN c7 28 (by omega));simp only[nB,Nat.reduceSub,zg]at f28;have h5:=HS.set 1 rfl 28 (I (pc+1));simp only[zs,jY gN c7 28 _ (by omega),nB,Nat.reduceSub]at h5;have HS:=aa h5;clear h5;have j0:=(HS.ar 0 rfl).cell 0;have j1:=(HS.ar 0 rfl).cell 1
 case' Z|V=>have j4:=(HS.ar 0 rfl).cell 4;simp only[zg]at j0 j1 j4
 case' Z=>obtain⟨dz,ay8⟩:=(HS.ar 1 rfl).cef 28 (fe gN c7 28 (by omega));simp only[nB,Nat.reduceSub,zg]at dz;have hiw:IntKind.i64.wrap im=im:=bf _ (by omega) (by omega);have h5:=HS.set 1 rfl 28 (I im);simp only[zs,jY gN c7 28 _ (by omega),nB,Nat.reduceSub]at h5
 case' V=>obtain⟨f24,ah3⟩:=(HS.ar 1 rfl).cef 24 (fe gN c7 24 (by omega));simp only[nB,Nat.reduceSub,zg]at f24;have h5:=HS.set 1 rfl 24 (U im);simp only[zs,jY gN c7 24 _ (by omega),nB,Nat.reduceSub]at h5
 case' Z|V=>have HS:=aa h5;clear h5;delta jh;go_in;go_wp2_with fail;go_ret
 case' U|g0|g1|g2=>have j2:=(HS.ar 0 rfl).cell 2;have j3:=(HS.ar 0 rfl).cell 3;have j4:=(HS.ar 0 rfl).cell 4;simp only[zg]at j0 j1 j2 j3 j4;delta jh;go_in;go_wp2_with fail;refine(HK.out _ HS.tail).kh λw1 HS=>?_;go_wp2_with fail;go_ret
 case' Y|J|X|G|D=>have j4:=(HS.ar 0 rfl).cell 4;simp only[zg]at j0 j1 j4
 case' Y|J|X|G=>have hiw:IntKind.i64.wrap im=im:=bf _ (by omega) (by omega)
 case' g3=>have j2:=(HS.ar 0 rfl).cell 2;have j3:=(HS.ar 0 rfl).cell 3;have j4:=(HS.ar 0 rfl).cell 4;simp only[zg]at j0 j1 j2 j3 j4
 case' Y|J|X|G|D|g3=>delta jh;go_in;go_wp2_with fail;generalize World.setCell _ _ _=w5 at HS⊢;generalize w.heap.size=bi at HS⊢
 case' Y|J|X|G|D=>clear f28 lu j0 j1 j4 fl;have HD:=HS.drew;have hB:=HD.ar 0 rfl;have j1:=hB.cell 1
 case' Y|J|X|G=>have j4:=hB.cell 4;simp only[zg]at j1 j4
 case' D=>simp only[zg]at j1
 case' Y|J|X|G|D=>have ra:=((HD.ar 1 rfl).cell (5+ka)).trans (rz _);have fl:=(HD.ar 1 rfl).lt;have HS:=aa HD
 case' Y|J|X|G=>refine bW [(1,[0,1,2,3,4,5,6,7])] (by kernel_rfl) ?_
 case' D=>obtain⟨f24,ah3⟩:=(HS.ar 1 rfl).cef 24 (fe gN c7 24 (by omega));simp only[nB,Nat.reduceSub,zg]at f24;refine bW [(1,[0,2,3,4,5,6,7,8,9,10,11,12]),(0,[1]),(3,[13]),(0,[14,15]),(3,[16])] (by kernel_rfl) ?_
 case' Y|J|X|G|D=>simp only[zz]
 case' g3=>
  clear f28 lu j0 j1 j2 j3 j4 fl;have HD:=HS.drew;have hB:=HD.ar 1 rfl;have UP:=HD.ar 0 rfl;have j1:=UP.cell 1;simp only[zg]at j1;have ra:=(hB.cell (5+ka)).trans (HRA.out _);have UR:=hB.az (5+ka);have fl:=hB.lt;have hrr:=UN HA4.out aq2.out hB;have W_:=UO HA4.out hB;have HS:=aa HD;refine bW [(1,[0,1,2,3,4,5,6,7,8,9,10,11,13,14]),(2,[12]),(0,[15]),(3,[16])] (by kernel_rfl) ?_;simp only[zz];refine af ?_;repeat(first|(refine ak 28 _ bi 0 [I op,I ka,I ib,I ic,U im] _ rfl rfl rfl (bL UP (by simp)) Tryz.underlying28 rfl (by kernel_rfl) ?_;simp only[Act.put,aZ,aL,aN])|(refine ak 134 _ rb 5 (bC aI) _ rfl rfl rfl (aG hrr (by simp)) Tryz.underlying134 rfl (by rw[hlg];kernel_rfl) ?_;simp only[Act.put,aZ,aL,aN])|(refine ak 36 _ rb 1 (bC args) _ rfl rfl rfl (aG W_ (by simp)) Tryz.underlying36 rfl (by rw[lV];kernel_rfl) ?_;simp only[Act.put,aZ,aL,aN])|go_big_quiet_step (fail)|quiet_step (fail))
  refine ax ?_;refine aA ?_;go_wp2_with fail;refine(HRK.out _).kf HS λw7 HF HS=>?_;go_wp2_with fail;refine⟨⟨⟨_,(by exact HF.out)⟩,rfl⟩,?_⟩
 case' Y|J|X|G|D|g3=>repeat((first|apply af|apply ag|apply ah);(repeat go_big_quiet_step(fail));apply ax)
 case' Y|J|X|G=>refine aj ?_
 case' Y|J=>obtain⟨f28,lu⟩:=(HS.ar 1 rfl).cef 28 (fe gN c7 28 (by omega));simp only[nB,Nat.reduceSub,zg]at f28;have h5:=HS.set 1 rfl 28 (I im);simp only[zs,jY gN c7 28 _ (by omega),nB,Nat.reduceSub]at h5;have HS:=aa h5;clear h5;go_wp2_with fail;go_ret
 case' X=>go_wp2_with fail;go_ret
 case' G=>go_wp2_with fail;go_ret
 case' D=>
  refine ao ?_;have h5:=HS.set 1 rfl 24 (U ua);simp only[zs,jY gN c7 24 _ (by omega),nB,Nat.reduceSub]at h5;have HS:=aa h5;clear h5;go_wp2_with fail;have Cd:Sep w0 ((w5.setCell ⟨rb,24,none⟩ (U ua)).drew) _:=HS.out;generalize(w5.setCell ⟨rb,24,none⟩ (U ua)).drew=w6 at Cd⊢;have HS:=aa Cd;clear f24 ah3 ra fl j1 hB HD Cd;obtain⟨f29,nQ⟩:=(HS.ar 1 rfl).cef 29 (fe gN c7 29 (by omega));simp only[nB,Nat.reduceSub,zg]at f29;have fl:=(HS.ar 1 rfl).lt;have h5:=HS.set 1 rfl 29 (.bool true);simp only[zs,jY gN c7 29 _ (by omega),nB,Nat.reduceSub]at h5;have HS:=aa h5;clear h5;repeat((first|apply af|apply ag|apply ah);(repeat go_big_quiet_step(fail));apply ax)
  refine ao ?_;go_wp2_with fail;refine aj ?_;go_wp2_with fail;go_ret;rw[HU.out]
 case' g3=>clear hB UP j1 ra fl UR hrr W_ HF;have hB:=(HS.ar 1 rfl);have ra:=(hB.cell (5+ka)).trans (HRA.out _);have UR:=hB.az (5+ka);have fl:=hB.lt;have h5:=HS.set 1 rfl (5+ka) (U rk);simp only[zs,HSA.out]at h5;have sk:=aa h5;clear h5 hB;refine ao ?_;go_wp2_with fail;refine aj ?_;go_wp2_with fail;go_ret
 case' Z|V|Y|J|X|G|D=>exact⟨rfl,HS.tail⟩
 case' U|g0|g1|g2=>exact⟨rfl,HS.out⟩
 exact⟨rfl,sk.tail⟩
def PW:=@zq32.1
def LS:=@zq32.2.1
def LU:=@zq32.2.2.1
def LV:=@zq32.2.2.2.1
def LW:=@zq32.2.2.2.2.1
def PY:=@zq32.2.2.2.2.2.1
def PZ:=@zq32.2.2.2.2.2.2.1
def xS:=@zq32.2.2.2.2.2.2.2.1
def rB:=@zq32.2.2.2.2.2.2.2.2.1
def Dp:=@zq32.2.2.2.2.2.2.2.2.2.1
def Dq:=@zq32.2.2.2.2.2.2.2.2.2.2.1
def Hw:=@zq32.2.2.2.2.2.2.2.2.2.2.2
def P1{w0 w R rb sb args bY}(hm:0≤bY∧bY≤1000){pick rc r}(hI:MI args r)(op)(hS:Sep w0 w (jq rb sb args bY pick rc r++R)):jh 150 #[O rb,I op] w (I (if bY-r.writes<bV op then 42 else 0)) w0 (jq rb sb args bY pick rc (if bY-r.writes<bV op then r else{r with writes:=r.writes+bV op})++R):=by
 have HC:=aa (λw'=>zG w' op);have hcb:0≤bV op∧bV op≤9:=by unfold bV;split;omega;split;omega;split<;>omega
 obtain⟨roots,aI,wr,st,pc,rv,en⟩:=r;have gN:=hI.a4;have c7:=hI.tL;have JI:=hI.wr;dsimp only at*;generalize bV op=cs at*;have JV:IntKind.i64.wrap (bY-wr)=bY-wr:=bf _ (by omega) (by omega);have UM:IntKind.i64.wrap (wr+cs)=wr+cs:=bf _ (by omega) (by omega);unfold jq at hS⊢;dsimp only[List.cons_append,List.nil_append]at hS⊢;have HS:=aa hS;clear hS;by_cases hc:bY-wr<cs;refine ?Z;rotate_left;refine ?Y
 case' Z=>simp only[aB hc];have d1:decide (bY-wr<cs)=true:=eP hc
 case' Y=>simp only[aq hc];have d1:decide (bY-wr<cs)=false:=cW hc
 case' Z|Y=>delta jh;go_in;go_wp2_with fail;refine(HC.out _).kk λw1 hf=>?_;have HS:=aa (HS.fr0 hf).drew;clear hf;go_wp2_with fail;have f21:=(HS.ar 0 rfl).aT 21 (fe gN c7 21 (by omega));simp only[nB,Nat.reduceSub,zg]at f21;obtain⟨f26,P2⟩:=(HS.ar 0 rfl).cef 26 (fe gN c7 26 (by omega));simp only[nB,Nat.reduceSub,zg]at f26
 case' Y=>have h5:=HS.set 0 rfl 26 (I (wr+cs));simp only[zs,jY gN c7 26 _ (by omega),nB,Nat.reduceSub]at h5;have HS:=aa h5;clear h5
 case' Z|Y=>
  refine bW [(1,[0,1,2,3,4,5,6,7,8,9,10,11])] (by kernel_rfl) ?_;simp only[zz];repeat((first|apply af|apply ag|apply ah);(repeat go_big_quiet_step(fail));apply ax)
  refine aj ?_;go_wp2_with fail;go_ret
 case' Z|Y=>exact⟨rfl,HS.out⟩
def zq33:(∀{w0 w R rb sb args bY pick rc r i}(hI:MI args r)(S4:0≤i.a∧i.a<16)(xG:0≤i.b∧i.b<16)(iC:16≤r.aI.getD i.b.toNat 0)(hS:Sep w0 w (jq rb sb args bY pick rc r++R)),ba 123 #[O rb,.agg (gl i).toArray] w (I 44))∧(∀{w0 w R rb sb args bY pick rc r i}(hI:MI args r)(S4:0≤i.a∧i.a<16)(xG:0≤i.b∧i.b<16)(e9:(i.op==9)=true)(iC:r.aI.getD i.b.toNat 0<16)(hS:Sep w0 w (jq rb sb args bY pick rc r++R)),jh 123 #[O rb,.agg (gl i).toArray] w (I 0) w0 (jq rb sb args bY pick rc {r with aI:=r.aI.set i.a.toNat (r.roots.getD (r.aI.getD i.b.toNat 0).toNat 0)}++R))∧(∀{w0 w R rb sb args bY}(hm:0≤bY∧bY≤1000){pick rc r i}(hI:MI args r)(S4:0≤i.a∧i.a<16)(xG:0≤i.b∧i.b<16)(e9:(i.op==9)=false)(iC:r.aI.getD i.b.toNat 0<16)(hS:Sep w0 w (jq rb sb args bY pick rc r++R)),jh 123 #[O rb,.agg (gl i).toArray] w (I (if bY-r.writes<bV i.op then 42 else 0)) w0 (jq rb sb args bY pick rc (if bY-r.writes<bV i.op then r else{r with writes:=r.writes+bV i.op,roots:=r.roots.set (r.aI.getD i.b.toNat 0).toNat (r.aI.getD i.a.toNat 0)})++R))∧(∀{w0 w R rb sb args bY pick rc r i}(hI:MI args r)(S4:0≤i.a∧i.a<16)(xG:0≤i.b∧i.b<16)(wJ:0≤i.c∧i.c<16)(qN:(i.op==12)=false)(B4:(i.op==14)=false)(hS:Sep w0 w (jq rb sb args bY pick rc r++R)),jh 124 #[O rb,.agg (gl i).toArray] w (I 44) w0 (jq rb sb args bY pick rc r++R))∧(∀{w0 w R rb sb args bY pick rc r i}(hI:MI args r)(S4:0≤i.a∧i.a<16)(xG:0≤i.b∧i.b<16)(wJ:0≤i.c∧i.c<16)(qN:(i.op==12)=true)(hS:Sep w0 w (jq rb sb args bY pick rc r++R)),jh 124 #[O rb,.agg (gl i).toArray] w (I 44) w0 (jq rb sb args bY pick rc r++R)):=by
 refine⟨?Z,?Y,?X,?J,?G⟩
 case' X=>intro w0 w R rb sb args bY hm pick rc r i hI S4 xG e9 iC hS;have HP:=aa (fun(w':World) RR hS=>P1 (w0:=w0) (w:=w') (R:=RR) (rb:=rb) (sb:=sb) hm (pick:=pick) (rc:=rc) hI i.op hS)
 case' X=>by_cases hc:bY-r.writes<bV i.op;refine ?D;rotate_left;refine ?V
 case' Z=>intro w0 w R rb sb args bY pick rc r i hI S4 xG iC hS;have HF:=aa ((Fr.refl [] w))
 case' Y=>intro w0 w R rb sb args bY pick rc r i hI S4 xG e9 iC hS
 case' D=>simp only[aB hc]at HP⊢
 case' V=>simp only[aq hc]at HP⊢
 case' J=>intro w0 w R rb sb args bY pick rc r i hI S4 xG wJ qN B4 hS
 case' G=>intro w0 w R rb sb args bY pick rc r i hI S4 xG wJ qN hS
 case' J|G=>have iC:r.aI.getD i.b.toNat 0=r.aI.getD i.b.toNat 0:=rfl
 case' Z|Y|D|V|J|G=>
  obtain⟨roots,aI,wr,st,pc,rv,en⟩:=r;obtain⟨op,ia,ib,ic,im⟩:=i;unfold gl;have gN:=hI.a4;have c7:=hI.tL;have um:=hI.ro;dsimp only at*;obtain⟨ka,rfl⟩:∃k:Nat,ia=(k:Int):=⟨ia.toNat,by omega⟩;obtain⟨kb,rfl⟩:∃k:Nat,ib=(k:Int):=⟨ib.toNat,by omega⟩;have JU:0≤aI.getD kb 0∧aI.getD kb 0≤18446744073709551615:=by
   rw[cO,cy (by omega)];exact hI.ru _ (cJ _)
  have oe:=fun(tl:List Value)=>kU (sp:=O sb) (args:=args) (aI:=aI) (tl:=tl) gN (j:=kb) (by omega);have rz:=fun(tl:List Value)=>kU (sp:=O sb) (args:=args) (aI:=aI) (tl:=tl) gN (j:=ka) (by omega)
 case' Z|Y=>have HSA:=aa (fun(tl:List Value) (v:Int)=>PV (sp:=O sb) (args:=args) (aI:=aI) (tl:=tl) gN ka v (by omega))
 case' Z|Y|D|V|J|G=>
  simp only[dU]at iC⊢;obtain⟨ub,hu⟩:∃u,aI.getD kb 0=u:=⟨_,rfl⟩;rw[hu]at JU;simp only[hu]at iC oe⊢;clear hu;unfold jq at hS
  (try unfold jq)
  dsimp only[List.cons_append,List.nil_append]at hS
  (try dsimp only[List.cons_append,List.nil_append])
  obtain⟨mb,_,h9⟩:=lQ (hS.pull 1 rfl);have HS:=aa (h9.new 28 [I op,I ka,I kb,I ic,U im]);clear hS h9;have HD:=HS.drew;have hB:=HD.ar 0 rfl;have j2:=hB.cell 2;simp only[zg]at j2
 case' D|V|J|G=>have jl:=hB.lt
 case' Z|Y|D|V|J|G=>have Y5:=((HD.ar 3 rfl).cell (5+kb)).trans (oe _)
 case' Z=>have HF:=aa ((HF.alloc (.cells #[I op,I ka,I kb,I ic,U im] 28)).drew);delta ba;go_in
 case' Y=>obtain⟨kq,rfl⟩:∃k:Nat,ub=(k:Int):=⟨ub.toNat,by omega⟩;have d1:decide ((16:Int)≤(kq:Int))=false:=cW (by omega);rw[dU];have hq0:=zN (mb:=mb) (roots:=roots) (k:=kq) (by omega);have dQ:=aa (fun(w':World) RR hS=>pX (w0:=w0) (w:=w') (R:=RR) (sb:=sb) (mb:=mb) (roots:=roots) um hS);generalize roots.getD kq 0=uq at*;delta jh;go_in
 case' Z|Y=>go_wp2_with fail;refine bW [(1,[0,1,2,3,4,5,6,7])] (by kernel_rfl) ?_
 case' D|V|J|G=>have fl:=(HD.ar 3 rfl).lt
 case' D|V=>obtain⟨kq,rfl⟩:∃k:Nat,ub=(k:Int):=⟨ub.toNat,by omega⟩;have d1:decide ((16:Int)≤(kq:Int))=false:=cW (by omega)
 case' V=>rw[dU]
 case' J|G=>obtain⟨kc,rfl⟩:∃k:Nat,ic=(k:Int):=⟨ic.toNat,by omega⟩;have tm:=fun(tl:List Value)=>kU (sp:=O sb) (args:=args) (aI:=aI) (tl:=tl) gN (j:=kc) (by omega)
 case' D|V|J|G=>have dQ:=aa (fun(w':World) RR hS=>pX (w0:=w0) (w:=w') (R:=RR) (sb:=sb) (mb:=mb) (roots:=roots) um hS)
 case' V=>have Dn:=aa (fun(w':World) RR mb v hS=>pX (w0:=w0) (w:=w') (R:=RR) (sb:=sb) (mb:=mb) (roots:=roots.set kq v) (by rw[cF];exact um) hS);have mX:=aa (λmb v=>UJ (mb:=mb) (roots:=roots) (k:=kq) (by omega) v);obtain⟨ua,JW⟩:∃u,aI.getD ka 0=u:=⟨_,rfl⟩;simp only[JW]at rz⊢;clear JW
 case' D|V=>delta jh;go_in;go_wp2_with fail;refine bW [(1,[0,1,2,3,4,5,6,7])] (by kernel_rfl) ?_
 case' J|G=>
  have HMP:=aa (vC (mb:=mb) (roots:=roots) um);generalize aI.getD kc 0=uc at*;have S1:(Lit.int .u64 ub).wf=true:=by
   have e0:IntKind.u64.min=0:=by decide
   have e1:IntKind.u64.max=18446744073709551615:=by decide
   simp only[Lit.wf,eO,gG];omega
  have j4:=hB.cell 4;simp only[zg]at j4;delta jh;go_in;go_wp2_with fail;refine bW [(1,[0,1,2,3,4,5,6,7,8,9,10])] (by kernel_rfl) ?_
 case' Z|Y|D|V|J|G=>
  simp only[zz];repeat((first|apply af|apply ag|apply ah);(repeat go_big_quiet_step(fail));apply ax)
  refine aj ?_;have j0:=hB.cell 0;simp only[zg]at j0
 case' Z|Y=>go_wp2_with fail
 case' Z=>go_ret
 case' Y=>
  generalize w.heap.size=bi at*;generalize w.alloc _=w5 at*;clear hB j0 j2 Y5 HS;have HS:=aa HD.drew;clear HD;have hB:=HS.ar 0 rfl;have j1:=hB.cell 1;simp only[zg]at j1;have f0:=(HS.ar 3 rfl).aT 0 (Fa _ _ _ _);have ra:=((HS.ar 3 rfl).cell (5+ka)).trans (rz _);have ga:=(HS.ar 3 rfl).az (5+ka);have rq:=((HS.ar 1 rfl).cell kq).trans hq0;have h5:=HS.set 3 rfl (5+ka) (U uq);simp only[zs,HSA.out]at h5;have HS:=aa h5;clear h5;refine bW [(1,[0,1,2,3,4,5,6,7,8,9,10,11,12,13,14]),(3,[15])] (by kernel_rfl) ?_;simp only[zz];repeat((first|apply af|apply ag|apply ah);(repeat go_big_quiet_step(fail));apply ax)
  refine ao ?_;go_wp2_with fail;refine aj ?_;go_wp2_with fail;go_ret;have h6:=dQ.out _ _ HS.tail
 case' D|V=>go_wp2_with fail;unfold jq at HP;dsimp only[List.cons_append,List.nil_append]at HP;have h9:=dQ.out _ _ ((HD.pull 1 rfl).pull 2 rfl|>.pull 1 rfl)
 case' D=>refine(HP.out _ _ (h9.pull 2 rfl)).kh λw6 HS=>?_;go_wp2_with fail;go_ret
 case' V=>
  refine(HP.out _ _ (h9.pull 2 rfl)).kk λw6 oo=>?_;obtain⟨mb2,_,u7⟩:=lQ (oo.pull 1 rfl);have HS:=aa u7.drew;clear oo u7 hB HD j0 j2 jl Y5 fl;go_wp2_with fail;generalize w.heap.size=bi at*;have hB:=HS.ar 3 rfl;have j1:=hB.cell 1;simp only[zg]at j1;have jl:=hB.lt;have f0:=(HS.ar 2 rfl).aT 0 (Fa _ _ _ _);have ra:=((HS.ar 2 rfl).cell (5+ka)).trans (rz _);have fl:=(HS.ar 2 rfl).lt;have rq:=((HS.ar 0 rfl).cell kq).trans (zN (mb:=mb2) (roots:=roots) (k:=kq) (by omega));have gq:=(HS.ar 0 rfl).az kq;have h5:=HS.set 0 rfl kq (U ua);simp only[zs,mX.out]at h5;have HS:=aa h5;clear h5;refine bW [(1,[0,1,2,3,4,5,6,7,8,9,10,11,12,13,14]),(3,[15])] (by kernel_rfl) ?_;simp only[zz];repeat((first|apply af|apply ag|apply ah);(repeat go_big_quiet_step(fail));apply ax)
  refine ao ?_;go_wp2_with fail;refine aj ?_;go_wp2_with fail;go_ret
 case' G=>
  go_wp2_with fail;generalize w.heap.size=bi at*;generalize w.alloc _=w5 at*;have HD:=HD.drew;have hB:=HD.ar 0 rfl;have j3:=hB.cell 3;simp only[zg]at j3;have jl:=hB.lt;have rcc:=((HD.ar 3 rfl).cell (5+kc)).trans (tm _);have fl:=(HD.ar 3 rfl).lt;refine bW [(1,[0,1,2,3,4,5,6,7])] (by kernel_rfl) ?_;simp only[zz];repeat((first|apply af|apply ag|apply ah);(repeat go_big_quiet_step(fail));apply ax)
  refine aj ?_
 case' J|G=>have f0:=(HD.ar 3 rfl).aT 0 (Fa _ _ _ _);have fm:=(HD.ar 1 rfl).aT 16 HMP.out;have xM:=JT (uk HD 2 rfl) S1;unfold z8 at xM;go_wp2_with fail;go_ret;have h6:=dQ.out _ _ (HS.new 160 [U 0,U 0,U 0,U 0,U 0,U 0,U 0,U 0]).tail.tail
 case' Z=>exact⟨rfl,HF.out⟩
 case' Y=>exact⟨rfl,(h6.pull 1 rfl)⟩
 case' D=>exact⟨rfl,(HS.pull 2 rfl).tail⟩
 case' V=>exact⟨rfl,((Dn.out _ _ _ _ HS.out).pull 1 rfl).pull 2 rfl|>.tail|>.pull 1 rfl|>.pull 1 rfl⟩
 case' J=>exact⟨rfl,h6.drew.pull 1 rfl⟩
 exact⟨rfl,h6.drew.drew.pull 1 rfl⟩
def Ce:=@zq33.1
def UL:=@zq33.2.1
def P3:=@zq33.2.2.1
def P4:=@zq33.2.2.2.1
def P5:=@zq33.2.2.2.2
def JZ (i:In):Prop:=¬(i.op=13∨i.op=14∨i.op=15∨i.op=16)
def L0 {w0 w R rb sb args bY}(hm:0≤bY∧bY≤1000){pick rc r i}(hI:MI args r)(uH:MI args {r with pc:=r.pc+1}){n k}(hn:n≤256∧0≤k∧k<n)(hs:T4 n k i)(zQ:W.U_ i.bN)(kL:JZ i)(hS:Sep w0 w (jq rb sb args bY pick rc r++R)):
 jh 98 #[O rb,.agg (gl i).toArray] w (I (Mo.step bY args i r).2) w0 (jq rb sb args bY pick rc (Mo.step bY args i r).1++R):=by
 have UT:i.op≠13∧i.op≠14∧i.op≠15∧i.op≠16:=by
  unfold JZ at kL;omega
 have im0:=zQ.1;have J0:=hs.fwd;have nU:=hs.bk;have ia:=hs.a;have ib:=hs.b;have ic:=hs.c;have i8:=hs.arg;unfold Mo.step Mo.act;by_cases Ba:i.op=17
 ·rw[aB Ba];exact PW (r:=r) hI (by have:=J0 (.inl Ba);omega) (by simpa using Ba) hS
 rw[aq Ba];have lN:(i.op==17)=false:=by simpa using Ba
 by_cases Bb:i.op=18
 ·have lO:(i.op==18)=true:=by simpa using Bb
  have qL:0≤i.bN∧i.bN≤300:=by have:=J0 (.inr Bb);omega
  rw[aB Bb];by_cases hz:r.aI.getD i.a.toNat 0=0
  ·rw[aB (show Mo.iE {r with pc:=r.pc+1} i.a=0 from hz)];exact LS (r:=r) hI qL ia lN lO (by simp only[hz,beq_self_eq_true]) hS
  ·rw[aq (show¬Mo.iE {r with pc:=r.pc+1} i.a=0 from hz)];exact LU (r:=r) hI qL ia lN lO (beq_eq_false_iff_ne.2 hz) hS
 rw[aq Bb];have lO:(i.op==18)=false:=by simpa using Bb
 by_cases yx:i.op=19
 ·have nO:(i.op==19)=true:=by simpa using yx
  have qL:0≤i.bN∧i.bN≤300:=by have:=nU yx;omega
  rw[aB yx];by_cases hz:r.aI.getD i.a.toNat 0=0
  ·rw[aq (show¬Mo.iE {r with pc:=r.pc+1} i.a≠0 from λh=>h hz)];exact LW (r:=r) hI qL ia lN lO nO (by simp only[hz,beq_self_eq_true]) hS
  ·rw[aB (show Mo.iE {r with pc:=r.pc+1} i.a≠0 from hz)];exact LV (r:=r) hI qL ia lN lO nO (beq_eq_false_iff_ne.2 hz) hS
 rw[aq yx];have nO:(i.op==19)=false:=by simpa using yx
 by_cases fL:i.op=20
 ·rw[aB fL];exact PY (r:=r) hI ia lN lO nO (by simpa using fL) hS
 rw[aq fL];have rp:(i.op==20)=false:=by simpa using fL
 by_cases De:i.op=21
 ·rw[aB De];exact PZ (r:=r) hI lN lO nO rp (by simpa using De) hS
 rw[aq De];have sG:(i.op==21)=false:=by simpa using De
 have hq0:Mo.iE {r with pc:=r.pc+1} i.b=r.aI.getD i.b.toNat 0:=rfl;have hq:Mo.iE r i.b=r.aI.getD i.b.toNat 0:=rfl;by_cases h9:i.op=9
 ·rw[aB (.inl h9),hq0];have e9:(i.op==9)=true:=by simpa using h9
  by_cases hk:16≤r.aI.getD i.b.toNat 0
  ·rw[aB hk];exact xS (r:=r) hI lN lO nO rp sG e9 (λw1 h1=>(Ce uH ia ib hk h1).mono λv w' hv=>⟨hv.1,h1.fr0 hv.2⟩) hS
  ·rw[aq hk,aB h9];exact xS (r:=r) hI lN lO nO rp sG e9 (λw1 h1=>UL uH ia ib e9 (by show r.aI.getD i.b.toNat 0<16;omega) h1) hS
 have e9:(i.op==9)=false:=by simpa using h9
 by_cases oo:i.op=10
 ·rw[aB (.inr oo),hq0];have o7:(i.op==10)=true:=by simpa using oo
  by_cases hk:16≤r.aI.getD i.b.toNat 0
  ·rw[aB hk];exact rB (r:=r) hI lN lO nO rp sG e9 o7 (λw1 h1=>(Ce uH ia ib hk h1).mono λv w' hv=>⟨hv.1,h1.fr0 hv.2⟩) hS
  ·rw[aq hk,aq h9];have h4:=λw1 h1=>P3 (w0:=w0) (w:=w1) (R:=R) (rb:=rb) (sb:=sb) (pick:=pick) (rc:=rc) hm uH ia ib e9 (by show r.aI.getD i.b.toNat 0<16;omega) h1;dsimp only at h4⊢;by_cases hc:bY-r.writes<bV i.op
   ·simp only[aB hc]at h4⊢;exact rB (r:=r) hI lN lO nO rp sG e9 o7 h4 hS
   ·simp only[aq hc]at h4⊢;exact rB (r:=r) hI lN lO nO rp sG e9 o7 h4 hS
 rw[aq (by omega)];have o7:(i.op==10)=false:=by simpa using oo
 by_cases u7:i.op=11
 ·rw[aB (by omega)];exact Dp (r:=r) hI lN lO nO rp sG e9 o7 (by simpa using u7) (λw1 h1=>P4 uH ia ib ic (by simp[u7]) (by simp[u7]) h1) hS
 have qM:(i.op==11)=false:=by simpa using u7
 by_cases xJ:i.op=12
 ·rw[aB (by omega)];exact Dq (r:=r) hI lN lO nO rp sG e9 o7 qM (by simpa using xJ) (λw1 h1=>P5 uH ia ib ic (by simp[xJ]) h1) hS
 have qN:(i.op==12)=false:=by simpa using xJ
 rw[aq (by omega),aq (by omega),aq (by omega)];exact Hw (r:=r) hI ia ib ic im0 i8 lN lO nO rp sG e9 o7 qM qN (by simpa using UT.1) (by simpa using UT.2.1) (by simpa using UT.2.2.1) (by simpa using UT.2.2.2) hS
def J1 {l:List Int}(h:∀x∈l,W.U_ x)(k:Nat):W.U_ (l.getD k 0):=by
 rw[cO];by_cases hk:k<l.length
 ·rw[cy hk];exact h _ (cJ hk)
 ·rw[lg (by omega)];exact⟨by decide,by decide⟩
def P8 {l:List Int}(h:∀x∈l,W.U_ x)(k:Nat){v:Int}(hv:W.U_ v):∀x∈l.set k v,W.U_ x:=by
 intro x hx;rcases k_ hx with h1|h1
 ·exact h x h1
 ·subst h1;exact hv
def MI.gV {args r}(h:MI args r)(k){v}(hv:W.U_ v):MI args (Mo.gV r k v):=
 ⟨h.a4,h.au,by unfold Mo.gV;dsimp only;rw[cF];exact h.tL,P8 h.ru _ hv,h.ro,h.LP,h.pc,h.wr⟩
def MI.next {args r}(h:MI args r)(hp:r.pc<1000):MI args {r with pc:=r.pc+1}:=
 ⟨h.a4,h.au,h.tL,h.ru,h.ro,h.LP,by have:=h.pc;dsimp only;omega,h.wr⟩
def MI.act{bY}(hm:0≤bY∧bY≤1000){args r}(h:MI args r){n k}(hn:n≤256∧0≤k∧k<n){i}(hs:T4 n k i)(zQ:W.U_ i.bN):MI args (Mo.act bY args i r).1∧((Mo.act bY args i r).1.ended=r.ended∧(ends i.op=false→r.pc<n→(Mo.act bY args i r).1.pc<n)∧(i.op=20→(Mo.act bY args i r).1.ended=true)∧(i.op=21→(Mo.act bY args i r).2=40)∨i.op=20∧(Mo.act bY args i r).1.ended=true)∧(Mo.act bY args i r).1.steps=r.steps:=by
 have im0:=zQ.1;have J0:=hs.fwd;have nU:=hs.bk;have hJ:0≤i.bN→i.bN<n→MI args {r with pc:=i.bN}:=λh0 h1=>
  ⟨h.a4,h.au,h.tL,h.ru,h.ro,h.LP,by dsimp only;omega,h.wr⟩
 have ah4:¬bY-r.writes<bV i.op→0≤r.writes+bV i.op∧r.writes+bV i.op≤1000000:=λhc=>by
  have:=Fb i.op;have:=h.wr;omega
 unfold Mo.act;by_cases Ba:i.op=17;refine ?Z;rotate_left;refine ?Y
 case' Z=>rw[aB Ba];have:=J0 (.inl Ba);exact⟨hJ im0 (by omega),.inl ⟨rfl,λ_ _=>by show i.bN<n;omega,by omega,by omega⟩,rfl⟩
 rw[aq Ba];by_cases Bb:i.op=18;refine ?X;rotate_left;refine ?J
 case' X=>rw[aB Bb];have:=J0 (.inr Bb)
 case' X=>split;refine ?G;rotate_left;refine ?D
 case' J=>rw[aq Bb]
 case' J=>by_cases yx:i.op=19;refine ?V;rotate_left;refine ?U
 case' V=>rw[aB yx];have:=nU yx
 case' V=>split;refine ?g0;rotate_left;refine ?g1
 case' G|g0=>exact⟨hJ im0 (by omega),.inl ⟨rfl,λ_ _=>by show i.bN<n;omega,by omega,by omega⟩,rfl⟩
 case' D=>exact⟨h,.inl ⟨rfl,λ_ hp=>hp,by omega,by omega⟩,rfl⟩
 case' g1=>exact⟨h,.inl ⟨rfl,λ_ hp=>hp,by omega,by omega⟩,rfl⟩
 rw[aq yx];by_cases fL:i.op=20
 ·rw[aB fL];exact⟨⟨h.a4,h.au,h.tL,h.ru,h.ro,h.LP,h.pc,h.wr⟩,.inr ⟨fL,rfl⟩,rfl⟩
 rw[aq fL];by_cases De:i.op=21
 ·rw[aB De];exact⟨⟨h.a4,h.au,h.tL,h.ru,h.ro,h.LP,h.pc,h.wr⟩,.inl ⟨rfl,λ_ hp=>hp,by omega,λ_=>rfl⟩,rfl⟩
 rw[aq De];have hId:MI args r∧(r.ended=r.ended∧(ends i.op=false→r.pc<n→r.pc<n)∧(i.op=20→r.ended=true)∧(i.op=21→(44:Int)=40)∨i.op=20∧r.ended=true)∧r.steps=r.steps:=⟨h,.inl ⟨rfl,λ_ hp=>hp,by omega,by omega⟩,rfl⟩;by_cases h9:i.op=9∨i.op=10
 ·rw[aB h9];split
  ·exact⟨h,.inl ⟨rfl,λ_ hp=>hp,by omega,by omega⟩,rfl⟩
  split
  ·exact⟨h.gV _ (J1 h.LP _),.inl ⟨rfl,λ_ hp=>hp,by omega,by omega⟩,rfl⟩
  split
  ·exact⟨h,.inl ⟨rfl,λ_ hp=>hp,by omega,by omega⟩,rfl⟩
  ·rename_i hc;exact⟨⟨h.a4,h.au,h.tL,h.ru,by dsimp only;rw[cF];exact h.ro,P8 h.LP _ (J1 h.ru _),h.pc,ah4 hc⟩,.inl ⟨rfl,λ_ hp=>hp,by omega,by omega⟩,rfl⟩
 rw[aq h9];split
 ·exact⟨h,.inl ⟨rfl,λ_ hp=>hp,by omega,by omega⟩,rfl⟩
 split
 ·split
  ·exact⟨h,.inl ⟨rfl,λ_ hp=>hp,by omega,by omega⟩,rfl⟩
  ·rename_i hc;exact⟨⟨h.a4,h.au,h.tL,h.ru,h.ro,h.LP,h.pc,ah4 hc⟩,.inl ⟨rfl,λ_ hp=>hp,by omega,by omega⟩,rfl⟩
 split
 ·exact⟨h,.inl ⟨rfl,λ_ hp=>hp,by omega,by omega⟩,rfl⟩
 ·exact⟨h.gV _ (Fc h.ru h.au zQ),.inl ⟨rfl,λ_ hp=>hp,by omega,by omega⟩,rfl⟩
def MI.step {bY:Int}(hm:0≤bY∧bY≤1000){args:List Int}{code:List In}(hr:right code=true)(hu:∀i∈code,W.U_ i.bN){r:Mo.R}(h:MI args r)(hp:r.pc<code.length)(he:r.ended=false):
 MI args (Mo.step bY args (code.getD r.pc.toNat i0) r).1∧(Mo.step bY args (code.getD r.pc.toNat i0) r).1.steps=r.steps∧((Mo.step bY args (code.getD r.pc.toNat i0) r).2=0→(Mo.step bY args (code.getD r.pc.toNat i0) r).1.ended=false→(Mo.step bY args (code.getD r.pc.toNat i0) r).1.pc<code.length):=by
 have hl:=c_ hr;have Hz:=h.pc;have hk:r.pc.toNat<code.length:=by omega
 have hs:=mJ hr r.pc.toNat hk;have lV:=zB hr r.pc.toNat hk;have hg:code.getD r.pc.toNat i0=code[r.pc.toNat]:=by simp[List.getD,hk]
 have hi:=hu _ (cJ hk);rw[←hg]at hi;obtain⟨a1,a2,a3⟩:=MI.act hm (h.next (by omega)) (n:=code.length) (k:=r.pc.toNat) (by omega) hs hi;unfold Mo.step;refine⟨a1,a3,λh0 h1=>?_⟩;rcases a2 with⟨b1,b2,b3,b4⟩|⟨b1,b2⟩
 ·refine b2 ?_ ?_
  ·unfold ends;rw[yJ];rintro(e|e)
   ·rw[b3 e]at h1;cases h1
   ·rw[b4 e]at h0;omega
  ·have:=lV (by
    unfold ends;rw[yJ];rintro(e|e)
    ·rw[b3 e]at h1;cases h1
    ·rw[b4 e]at h0;omega)
   dsimp only;omega
 ·rw[b2]at h1;cases h1
def tR (rc rv st wr:Int):List Value:=[I rc,U rv,I st,I wr,.slice none 0 0]
def P9 {w0 w R}{sb:Nat}{args roots:List Int}{bY F:Int}{pick}{ca:Option Addr}{cn cc:Nat}{code:List In}(hn:cn=code.length)(hr:right code=false)(hC:dJ w (.slice ca cn cc) code)(hS:Sep w0 w (rA sb roots::R)):
 jh 66 #[O sb,.slice ca cn cc,.agg (bC args).toArray,I F,I bY,pick] w (.agg (tR 30 0 0 0).toArray) w0 (rA sb roots::R):=by
 have NQ:=aa (λw' (f:Fr [] w w')=>lp w' ca cn cc code hn (hC.fr f));rw[hr]at NQ;clear hr hC;have HF:=aa (((Fr.refl [] w).alloc (.cells (bC args).toArray 36)).alloc (.cells (tR 0 0 0 0).toArray 150));have HS:=aa ((hS.new 36 (bC args)).new 150 (tR 0 0 0 0));clear hS;simp only[cG]at HS;unfold tR at HF HS;delta jh;go_in;go_wp2_with fail;subst hn;refine(NQ.out _ HF.out).kq HS λw1 HS=>?_;clear HF NQ;generalize w.heap.size=bi at*;have ho:∀z9∈ [I 30,U 0,I 0,I 0,.slice none 0 0],z9.oneCell'=true:=by simp[Value.oneCell']
 go_wp2_with(refine aC HS.out 0 rfl [I 30,U 0,I 0,I 0,.slice none 0 0] 150 _ _ rfl rfl rfl rfl rfl (by kernel_rfl) ho (λwA hA _=>?_);simp only[aL]at hA;have HS:=aa hA;clear hA)
 (try simp only[Exit.inBlock,Exit.then])
 refine aV (uO (P:=Tryz.prog) rfl _ _ (bi+1) 150 ([I 30,U 0,I 0,I 0,.slice none 0 0]).toArray (0,0) _ rfl (HS.ar 0 rfl) Tryz.underlying150 rfl (by kernel_rfl)) rfl ?_;exact⟨rfl,HS.tail.tail⟩
def HJ (F bY code args roots){n}(hn:0<n)(r):Mo.gA F bY code args roots n r=(if(Mo.step bY args (code.getD r.pc.toNat i0) {r with steps:=r.steps+1}).2≠0 then(roots,(Mo.step bY args (code.getD r.pc.toNat i0) {r with steps:=r.steps+1}).2,(Mo.step bY args (code.getD r.pc.toNat i0) {r with steps:=r.steps+1}).1.rv)else if(Mo.step bY args (code.getD r.pc.toNat i0) {r with steps:=r.steps+1}).1.ended then((Mo.step bY args (code.getD r.pc.toNat i0) {r with steps:=r.steps+1}).1.roots,0,(Mo.step bY args (code.getD r.pc.toNat i0) {r with steps:=r.steps+1}).1.rv)else Mo.gA F bY code args roots (n-1) (Mo.step bY args (code.getD r.pc.toNat i0) {r with steps:=r.steps+1}).1):=by
 obtain⟨m,rfl⟩:∃m,n=m+1:=⟨n-1,by omega⟩;rfl
def UU {w0 w R sb roots}(hS:Sep w0 w (rA sb roots::R)):
 ∃F:List Nat,(∀(i b:Nat) (ty:TypeId) (cs:List Value),R[i]?=some (aJ b ty cs)→b∉F)∧Calls Tryz.prog 97 #[O sb] w λr w'=>∃nb,r= .returned (O nb)∧Sep w0 w' (rA nb roots::rA sb roots::R)∧Fr F w w':=by
 obtain⟨F,S6,S7⟩:=uj (T':=λnb=>cM [rA nb roots,rA sb roots]) (A:=λnb e=>e= .returned (O nb)) hS (λRR h=>(Ht h).mono λe w' hr=>by
  obtain⟨v',h1,h2⟩:=hr;exact⟨v',h1,Sep.toList (Ts:=[_,_]) h2⟩)
 exact⟨F,S6,S7.mono λe w' hr=>by
  obtain⟨a,h1,h2,h3⟩:=hr;exact⟨a,h1,Sep.ofList (Ts:=[_,_]) h2,h3⟩⟩
def UW {w0 w R}{sb:Nat}{args roots:List Int}{bY F:Int}{pa:Option Addr}{pn Zb:Nat}{code:List In}(gN:args.length=4)(p6:∀x∈args,W.U_ x)(H3:roots.length=16)(um:∀x∈roots,W.U_ x)(hm:0≤bY∧bY≤1000)(hF:0≤F∧F≤1000)(kL:∀i∈code,JZ i){ca:Option Addr}{cn cc:Nat}(hn:cn=code.length)(hr:right code=true)(hC:∀w',Sep w0 w' R→dJ w' (.slice ca cn cc) code)(hS:Sep w0 w (rA sb roots::R)):
 Calls Tryz.prog 66 #[O sb,.slice ca cn cc,.agg (bC args).toArray,I F,I bY,(.slice pa pn Zb)] w λv w'=>∃st wr,v= .returned (.agg (tR (Mo.gA F bY code args roots F.toNat ⟨roots,List.replicate 16 0,0,0,0,0,false⟩).2.1 (Mo.gA F bY code args roots F.toNat ⟨roots,List.replicate 16 0,0,0,0,0,false⟩).2.2 st wr).toArray)∧Sep w0 w' (rA sb (Mo.gA F bY code args roots F.toNat ⟨roots,List.replicate 16 0,0,0,0,0,false⟩).1::R):=by
 obtain⟨a0,a1,a2,a3,rfl⟩:∃a0 a1 a2 a3,args=[a0,a1,a2,a3]:=by
  match args,gN with
  |[a0,a1,a2,a3],_=>exact⟨_,_,_,_,rfl⟩
 have hul:bC [a0,a1,a2,a3]=[U a0,U a1,U a2,U a3]:=rfl;rw[hul];have NQ:=aa (λw' h=>lp w' ca cn cc code hn (hC w' h));rw[hr]at NQ;have HC:=aa hC;have HR:=aa hr;clear hr hC;have HS:=aa ((hS.new 36 [U a0,U a1,U a2,U a3]).new 150 (tR 0 0 0 0));clear hS;simp only[cG]at HS;unfold tR at HS;obtain⟨X1,tM⟩:∃X1,Mo.gA F bY code [a0,a1,a2,a3] roots F.toNat ⟨roots,List.replicate 16 0,0,0,0,0,false⟩=X1:=⟨_,rfl⟩;rw[tM];have J2:=aa tM;clear tM;go_in;go_wp2_with fail;subst hn;refine(NQ.out _ HS.tail.tail.tail).kq HS λw1 HS=>?_;clear NQ;generalize w.heap.size=bi at*;go_wp2_with fail;have HS:=aa (HS.pull 2 rfl).drew;simp only[ze]at HS;obtain⟨FP,S6,S7⟩:=UU HS.out;have oR:=S6 1 bi _ _ rfl;have Xb:=aa S7;clear S6 S7;have W_:=(HS.ar 2 rfl).range;have fl:=(HS.ar 2 rfl).lt;refine dq [(1,[0,2,3,4]),(2,[1]),(0,[5]),(3,[6]),(0,[7])] FP (by kernel_rfl) (by kernel_rfl) ?_;simp only[zz];refine af ?_;repeat(first|(refine ak 36 _ bi 0 [U a0,U a1,U a2,U a3] _ rfl rfl rfl (aG W_ oR) Tryz.underlying36 rfl (by kernel_rfl) ?_;simp only[Act.put,aZ,zs])|go_big_quiet_step (fail)|quiet_step (fail))
 refine ax ?_;refine aA ?_;go_wp2_with fail;refine Xb.out.mono ?_;rintro r w2 ⟨nb,rfl,h1,hf⟩;have HF:=aa hf;have HS:=aa h1;clear h1 hf;go_wp2_with fail;refine⟨⟨⟨_,(by exact HF.out)⟩,rfl⟩,?_⟩;clear HF Xb W_ fl oR;repeat((first|apply af|apply ag|apply ah);(repeat go_big_quiet_step(fail));apply ax)
 refine ao ?_;go_wp2_with fail;repeat((first|apply af|apply ag|apply ah);(repeat go_big_quiet_step(fail));apply ax)
 refine aj ?_;generalize hw5:World.alloc _ _=w5;have h5:Sep w0 w5 (aJ w2.heap.size 188 (Em (O nb) [a0,a1,a2,a3] (List.replicate 16 0) (nB bY (.slice pa pn Zb) 0 ⟨roots,List.replicate 16 0,0,0,0,0,false⟩))::rA nb roots::rA sb roots::aJ (bi+1) 150 [I 0,U 0,I 0,I 0,.slice none 0 0]::aJ bi 36 [U a0,U a1,U a2,U a3]::R):=by
  rw[←hw5];exact HS.new 188 _
 generalize w2.heap.size=rb at h5⊢;clear hw5;have HS:=aa ((h5.pull 4 rfl).tail);clear h5;simp only[ze]at HS;go_wp2_with fail;have S8:=aa p6;have ah5:=aa H3;have HRO:=aa um;have C4:=aa kL;clear p6 H3 um kL hul;go_loopg [14] (F.toNat) (λg v14 wr=>∃y:Mo.R,MI [a0,a1,a2,a3] y∧0≤y.steps∧y.steps≤F∧(y.ended=false→y.pc<code.length∧Mo.gA F bY code [a0,a1,a2,a3] roots (F-y.steps).toNat y=X1)∧(y.ended=true→X1=(y.roots,0,y.rv))∧(F-y.steps).toNat=g∧Sep w0 wr (jq rb nb [a0,a1,a2,a3] bY (.slice pa pn Zb) 0 y++(rA sb roots::aJ (bi+1) 150 [I 0,U 0,I 0,I 0,.slice none 0 0]::R)))
 case atStart=>have nH:=c_ HR.out;refine⟨⟨roots,List.replicate 16 0,0,0,0,0,false⟩,⟨rfl,S8.out,by simp,λx hx=>by rw[zb hx];exact⟨by decide,by decide⟩,ah5.out,HRO.out,by dsimp only;omega,by dsimp only;omega⟩,iu _,hF.1,λ_=>⟨by show(0:Int)<code.length;omega,by show Mo.gA F bY code [a0,a1,a2,a3] roots (F-0).toNat _=X1;rw[Int.sub_zero];exact J2.out⟩,λe=>absurd (show false=true from e) (by decide),by show(F-0).toNat=_;rw[Int.sub_zero],HS.out⟩
 case round=>
  clear HS J2;obtain⟨y,hI,wK,hsF,Ch,LJ,hg,hS⟩:=hrel;have HY:=aa hI;have HS:=aa hS;clear hI hS;have c7:=HY.out.tL;have yY:([a0,a1,a2,a3]:List Int).length=4:=rfl;unfold jq at HS;dsimp only[List.cons_append,List.nil_append]at HS;have f29:=(HS.ar 0 rfl).aT 29 (fe yY c7 29 (by omega));have fl:=(HS.ar 0 rfl).lt;simp only[nB,Nat.reduceSub,zg]at f29;by_cases he:y.ended=true
  ·have HX:=aa (LJ he);clear Ch LJ;rw[he]at f29;have f0:=(HS.ar 0 rfl).aT 0 (Fa _ _ _ _);obtain⟨mb,_,h2⟩:=lQ (HS.pull 1 rfl);obtain⟨mb3,_,h3⟩:=lQ (h2.pull 3 rfl);have hTO:=aa (fun(w':World) RR hS=>pX (w0:=w0) (w:=w') (R:=RR) (sb:=sb) (mb:=mb) (roots:=y.roots) HY.out.ro hS);have HS:=aa h3;clear h2 h3;simp only[ze]at HS;obtain⟨r0,r1,r2,r3,r4,r5,r6,r7,r8,r9,u6,tF,tG,B_,Ca,Cb,hyr⟩:∃r0 r1 r2 r3 r4 r5 r6 r7 r8 r9 u6 tF tG B_ Ca Cb,y.roots=[r0,r1,r2,r3,r4,r5,r6,r7,r8,r9,u6,tF,tG,B_,Ca,Cb]:=by
    match y.roots,HY.out.ro with
    |[r0,r1,r2,r3,r4,r5,r6,r7,r8,r9,u6,tF,tG,B_,Ca,Cb],_=>exact⟨_,_,_,_,_,_,_,_,_,_,_,_,_,_,_,_,rfl⟩
   have Ci:=(HS.ar 2 rfl);rw[hyr]at Ci;simp only[Bf,zm,za]at Ci;have q0:=Ci.cell 0;have q1:=Ci.cell 1;have q2:=Ci.cell 2;have q3:=Ci.cell 3;have q4:=Ci.cell 4;have q5:=Ci.cell 5;have q6:=Ci.cell 6;have q7:=Ci.cell 7;have q8:=Ci.cell 8;have q9:=Ci.cell 9;have q10:=Ci.cell 10;have q11:=Ci.cell 11;have q12:=Ci.cell 12;have q13:=Ci.cell 13;have q14:=Ci.cell 14;have q15:=Ci.cell 15;have q16:=Ci.cell 16;simp only[zg]at q0 q1 q2 q3 q4 q5 q6 q7 q8 q9 q10 q11 q12 q13 q14 q15 q16;have fl:=(HS.ar 4 rfl).lt;have hlS:(Bf mb3 roots).length=17:=UI ah5.out;have HYR:=aa hyr;clear hyr;have ah6:∀z9∈([U r0,U r1,U r2,U r3,U r4,U r5,U r6,U r7,U r8,U r9,U u6,U tF,U tG,U B_,U Ca,U Cb,.map (some mb)]:List Value),z9.oneCell'=true:=by simp[Value.oneCell']
   have pE:∀z9∈ [I 0,U y.rv,I y.steps,I y.writes,.slice none 0 0],z9.oneCell'=true:=by simp[Value.oneCell']
   go_wp2_with(first
    |(refine aC HS.out 0 rfl [.int .u64 r0,.int .u64 r1,.int .u64 r2,.int .u64 r3,.int .u64 r4,.int .u64 r5,.int .u64 r6,.int .u64 r7,.int .u64 r8,.int .u64 r9,.int .u64 u6,.int .u64 tF,.int .u64 tG,.int .u64 B_,.int .u64 Ca,.int .u64 Cb,.map (some mb)] 136 _ _ rfl rfl rfl rfl (by rw[hlS];rfl) (by kernel_rfl) ah6 (λwB hA _=>?_);simp only[aL,aN]at hA;have HS:=aa (hA.pull 4 rfl);simp only[List.eraseIdx_cons_zero,List.eraseIdx_cons_succ]at HS;clear hA f29 f0 fl Ci q0 q1 q2 q3 q4 q5 q6 q7 q8 q9 q10 q11 q12 q13 q14 q15 q16;have fl:=(HS.ar 0 rfl).lt;have k23:=((HS.ar 0 rfl).cell 23).trans (fe yY c7 23 (by omega));have iF:=((HS.ar 0 rfl).cell 24).trans (fe yY c7 24 (by omega));have fK:=((HS.ar 0 rfl).cell 25).trans (fe yY c7 25 (by omega));have ee:=((HS.ar 0 rfl).cell 26).trans (fe yY c7 26 (by omega));have cu:=((HS.ar 0 rfl).cell 27).trans (fe yY c7 27 (by omega));simp only[nB,Nat.reduceSub,pN,gn]at k23 iF fK ee cu;skip)
    |(refine aC HS.out 5 rfl [.int .i64 0,.int .u64 y.rv,.int .i64 y.steps,.int .i64 y.writes,.slice none 0 0] 150 _ _ rfl rfl rfl rfl rfl (by kernel_rfl) pE (λwA hA _=>?_);simp only[zs]at hA;have HS:=aa hA;clear hA))
   (try simp only[Exit.inBlock,Exit.then])
   refine aV (uO (P:=Tryz.prog) rfl _ _ (bi+1) 150 ([I 0,U y.rv,I y.steps,I y.writes,.slice none 0 0]).toArray (0,0) _ rfl (HS.ar 5 rfl) Tryz.underlying150 rfl (by kernel_rfl)) rfl ?_;rw[HX.out];have h6:=((((HS.tail.pull 1 rfl).tail.pull 1 rfl).tail.pull 2 rfl).tail);simp only[ze]at h6;refine⟨_,_,rfl,hTO.out _ _ ?_⟩;rw[show Bf mb y.roots=([U r0,U r1,U r2,U r3,U r4,U r5,U r6,U r7,U r8,U r9,U u6,U tF,U tG,U B_,U Ca,U Cb,.map (some mb)]:List Value) by rw[HYR.out];rfl];exact h6
  ·have he0:y.ended=false:=by simpa using he
   have HPC:=aa (Ch he0).1;have HG:=aa (Ch he0).2;have HHG:=aa hg;have HE0:=aa he0;clear Ch LJ he hg;rw[he0]at f29;obtain⟨f25,g25⟩:=(HS.ar 0 rfl).cef 25 (fe yY c7 25 (by omega));simp only[nB,Nat.reduceSub,zg]at f25;clear he0;by_cases hf:F≤y.steps
   ·have d1:decide (F≤y.steps)=true:=eP hf;rw[show(F-y.steps).toNat=0 by omega]at HG;have HX:Hid (X1=(roots,41,0)):=aa HG.out.symm;clear HG hf;have ah7:∀z9∈ [I 41,U 0],z9.oneCell'=true:=by simp[Value.oneCell']
    have pE:∀z9∈ [I 41,U 0,I y.steps,I y.writes,.slice none 0 0],z9.oneCell'=true:=by simp[Value.oneCell']
    go_wp2_with(first
     |(refine fz HS.out 0 rfl 23 [.int .i64 41,.int .u64 0] 48 _ _ rfl rfl rfl rfl (by rw[Y4 yY c7];simp[nB]) (by kernel_rfl) ah7 (λwB hA _=>?_);simp only[aL,aN,n_,jY yY c7 23 _ (by omega),jY yY c7 (23+1) _ (by omega),Nat.reduceAdd,Nat.reduceSub,nB]at hA;have HS:=aa hA;clear hA f29 f25 g25 fl;have fl:=(HS.ar 0 rfl).lt;have k23:=((HS.ar 0 rfl).cell 23).trans (fe yY c7 23 (by omega));have iF:=((HS.ar 0 rfl).cell 24).trans (fe yY c7 24 (by omega));have fK:=((HS.ar 0 rfl).cell 25).trans (fe yY c7 25 (by omega));have ee:=((HS.ar 0 rfl).cell 26).trans (fe yY c7 26 (by omega));have cu:=((HS.ar 0 rfl).cell 27).trans (fe yY c7 27 (by omega));simp only[nB,Nat.reduceSub,pN,gn]at k23 iF fK ee cu;skip)
     |(refine aC HS.out 3 rfl [.int .i64 41,.int .u64 0,.int .i64 y.steps,.int .i64 y.writes,.slice none 0 0] 150 _ _ rfl rfl rfl rfl rfl (by kernel_rfl) pE (λwA hA _=>?_);simp only[zs]at hA;have HS:=aa hA;clear hA))
    (try simp only[Exit.inBlock,Exit.then])
    refine aV (uO (P:=Tryz.prog) rfl _ _ (bi+1) 150 ([I 41,U 0,I y.steps,I y.writes,.slice none 0 0]).toArray (0,0) _ rfl (HS.ar 3 rfl) Tryz.underlying150 rfl (by kernel_rfl)) rfl ?_;rw[HX.out];exact⟨_,_,rfl,HS.tail.tail.swap.tail⟩
   ·have d1:decide (F≤y.steps)=false:=cW hf;have JV:IntKind.i64.wrap (y.steps+1)=y.steps+1:=bf _ (by omega) (by omega);have nH:=c_ HR.out;have ah8:=HY.out.pc;have aq5:=HPC.out;obtain⟨kp,iG⟩:∃kp:Nat,y.pc=kp:=⟨y.pc.toNat,by omega⟩;have fu:kp<code.length:=by omega
    have hs:=mJ HR.out kp fu;have hg:code.getD kp i0=code[kp]:=by simp[List.getD,fu]
    have zQ:=(HC.out _ HS.tail.tail.tail.tail).2.2 _ (cJ fu);have oR:=C4.out _ (cJ fu);have hMS:=MI.step hm HR.out (λi hi=>(HC.out _ HS.tail.tail.tail.tail).2.2 _ hi) (r:={y with steps:=y.steps+1}) ⟨HY.out.a4,HY.out.au,HY.out.tL,HY.out.ru,HY.out.ro,HY.out.LP,HY.out.pc,HY.out.wr⟩ (by show y.pc<_;omega) HE0.out;have hGS:=(HJ F bY code [a0,a1,a2,a3] roots (n:=(F-y.steps).toNat) (by omega) y).symm.trans HG.out;dsimp only at hMS hGS;rw[iG,dU,hg]at hMS hGS;rw[hg]at hs;have TP:(F-y.steps).toNat-1=(F-(y.steps+1)).toNat:=by omega
    have HCE:Hid (∀w',Sep w0 w' R→∃xa:Addr,ca=some xa∧xa.block<w'.heap.size∧(∀u,(gl code[kp])[0]?=some u→w'.cell? (xa.add (kp*5))=some u)∧∀j u,(gl code[kp])[j+1]?=some u→w'.cell? ⟨(xa.add (kp*5)).block,(xa.add (kp*5)).off+(j+1),none⟩=some u):=aa (λw' hR=>dB.at (a:=ca) (m:=code.length) (cap:=cc) (HC.out w' hR).1 fu);have mX:=aa (λw' h=>L0 (w0:=w0) (w:=w') (R:=rA sb roots::aJ (bi+1) 150 [I 0,U 0,I 0,I 0,.slice none 0 0]::R) (rb:=rb) (sb:=nb) (args:=[a0,a1,a2,a3]) hm (pick:= .slice pa pn Zb) (rc:=0) (r:={y with steps:=y.steps+1}) (i:=code[kp]) ⟨HY.out.a4,HY.out.au,HY.out.tL,HY.out.ru,HY.out.ro,HY.out.LP,HY.out.pc,HY.out.wr⟩ ⟨HY.out.a4,HY.out.au,HY.out.tL,HY.out.ru,HY.out.ro,HY.out.LP,by show 0≤y.pc+1∧y.pc+1≤1000;omega,HY.out.wr⟩ (n:=code.length) (k:=kp) (by omega) hs zQ oR h);obtain⟨z,hz⟩:∃z,Mo.step bY [a0,a1,a2,a3] code[kp] {y with steps:=y.steps+1}=z:=⟨_,rfl⟩;have iR:=hz;rw[iG]at iR;simp only[hz]at mX;simp only[iR]at hMS hGS;clear iR;generalize code[kp]=ci at*;obtain⟨op,ia,ib,ic,im⟩:=ci;unfold gl at mX HCE;dsimp only at mX HCE;have HMS:=aa hMS;have HGS:=aa hGS;have HZ:=aa hz;have HN3:=aa TP;have JS:=aa (show 0≤y.steps∧y.steps<F from⟨wK,by omega⟩);have sh:(kp:Int)<(code.length:Int):=by omega
    have h5:=HS.set 0 rfl 25 (I (y.steps+1));simp only[zs,jY yY c7 25 _ (by omega),nB,Nat.reduceSub]at h5;have HS:=aa h5;clear h5 hMS hGS hz TP hs zQ oR hg nH ah8 aq5 hf fu HG;have f28:=(HS.ar 0 rfl).aT 28 (fe yY c7 28 (by omega));simp only[Nat.reduceSub,zg]at f28;rw[iG]at f28;obtain⟨xa,rfl,uI,c0,c1⟩:=HCE.out _ HS.tail.tail.tail.tail;have e0:=c0 _ rfl;have e1:=c1 0 _ rfl;have e2:=c1 1 _ rfl;have e3:=c1 2 _ rfl;have e4:=c1 3 _ rfl;clear c0 c1;go_wp2_with fail;refine(mX.out _ HS.out).kk λw9 h9=>?_;obtain⟨z1,e⟩:=z;have HS:=aa h9;clear h9 f28 e0 e1 e2 e3 e4 f29 f25 g25 fl uI mX HCE;have Ei:=aa HMS.out.1;have c7:=Ei.out.tL;unfold jq at HS;dsimp only[List.cons_append,List.nil_append]at HS;by_cases he:e=0
    ·have te:(e==0)=true:=by simpa using he
     have Ff:=aa HGS.out;rw[aq (by simpa using he)]at Ff;have HM3:=aa (HMS.out.2.2 he);have L2:z1.steps=y.steps+1:=HMS.out.2.1;have wY:Hid ((F-z1.steps).toNat<gk):=aa (by rw[←HHG.out,L2];have:=JS.out;omega);have P_:Hid (MI [a0,a1,a2,a3] z1∧0≤z1.steps∧z1.steps≤F∧(z1.ended=false→z1.pc<code.length∧Mo.gA F bY code [a0,a1,a2,a3] roots (F-z1.steps).toNat z1=X1)∧(z1.ended=true→X1=(z1.roots,0,z1.rv))∧(F-z1.steps).toNat=(F-z1.steps).toNat):=aa ⟨Ei.out,by rw[L2];have:=JS.out;omega,by rw[L2];have:=JS.out;omega,λh0=>⟨HM3.out h0,by
      have:=Ff.out;rw[h0,aq (by decide),HN3.out,←L2]at this;exact this⟩,λh0=>by
      have:=Ff.out;rw[h0,aB rfl]at this;exact this.symm,rfl⟩
     clear he L2;go_wp2_with fail;go_roundg ((F-z1.steps).toNat)
     case measure=>exact wY.out
     case rel=>exact⟨z1,P_.out.1,P_.out.2.1,P_.out.2.2.1,P_.out.2.2.2.1,P_.out.2.2.2.2.1,rfl,HS.out⟩
    ·have te:(e==0)=false:=by simpa using he
     have Ff:=aa HGS.out;rw[aB he]at Ff;have HX:Hid (X1=(roots,e,z1.rv)):=aa Ff.out.symm;clear he;have g23:=(HS.ar 0 rfl).az 23;have p23:=(HS.ar 0 rfl).aT 23 (fe yY c7 23 (by omega));simp only[nB,Nat.reduceSub,zg]at p23;have fl:=(HS.ar 0 rfl).lt;have h5:=HS.set 0 rfl 23 (I e);simp only[zs,jY yY c7 23 _ (by omega),nB,Nat.reduceSub]at h5;have HS:=aa h5;clear h5;have k23:=(HS.ar 0 rfl).aT 23 (fe yY c7 23 (by omega));have iF:=(HS.ar 0 rfl).aT 24 (fe yY c7 24 (by omega));have fK:=(HS.ar 0 rfl).aT 25 (fe yY c7 25 (by omega));have ee:=(HS.ar 0 rfl).aT 26 (fe yY c7 26 (by omega));have cu:=(HS.ar 0 rfl).aT 27 (fe yY c7 27 (by omega));simp only[nB,Nat.reduceSub,zg]at k23 iF fK ee cu;have pE:∀z9∈ [I e,U z1.rv,I z1.steps,I z1.writes,.slice none 0 0],z9.oneCell'=true:=by simp[Value.oneCell']
     go_wp2_with(refine aC HS.out 3 rfl [I e,U z1.rv,I z1.steps,I z1.writes,.slice none 0 0] 150 _ _ rfl rfl rfl rfl rfl (by kernel_rfl) pE (λwA hA _=>?_);simp only[zs]at hA;have HS:=aa hA;clear hA)
     (try simp only[Exit.inBlock,Exit.then])
     refine aV (uO (P:=Tryz.prog) rfl _ _ (bi+1) 150 ([I e,U z1.rv,I z1.steps,I z1.writes,.slice none 0 0]).toArray (0,0) _ rfl (HS.ar 3 rfl) Tryz.underlying150 rfl (by kernel_rfl)) rfl ?_;rw[HX.out];exact⟨_,_,rfl,HS.tail.tail.swap.tail⟩
def Qa {w0 w R}{c:cA}(aE:Y.Ok c){sb:Nat}{args roots:List Int}{pa:Option Addr}{pn Zb:Nat}{code:List In}(gN:args.length=4)(p6:∀x∈args,W.U_ x)(H3:roots.length=16)(um:∀x∈roots,W.U_ x)(kL:right code=true→∀i∈code,JZ i){cv}(hC:∀w',Sep w0 w' R→dJ w' cv code)(hS:Sep w0 w (rA sb roots::R)):
 Calls Tryz.prog 66 #[O sb,cv,.agg (bC args).toArray,I c.f,I c.w,.slice pa pn Zb] w λv w'=>∃st wr,v= .returned (.agg (tR (Mo.run c code args roots).2.1 (Mo.run c code args roots).2.2 st wr).toArray)∧Sep w0 w' (rA sb (Mo.run c code args roots).1::R):=by
 obtain⟨ca,cc,rfl⟩:=dB.len (hC _ hS.tail).1;have h1:=aE.Jw;have h2:=aE.zj;have h3:=aE.w0;have h4:=aE.f1;unfold Mo.run;by_cases hr:right code=true
 ·rw[aB hr];exact UW gN p6 H3 um (by omega) (by omega) (kL hr) rfl hr hC hS
 ·rw[aq hr];exact(P9 rfl (by simpa using hr) (hC _ hS.tail) hS).mono λv w' hv=>⟨0,0,hv.1,hv.2⟩
end Go.Proofs.YtolkmchicplaoaaGreat
namespace Go.Proofs.YtolkmchicplaoaaGreat
open Go.RowKit Go.aS Go.aS.I_ Go.aS.Y
def jG {rg:List Int}(hr:rg.length=16)(hu:∀r∈rg,0≤r∧r≤18446744073709551615){a:Int}(ha:0≤a∧a<16):∃(k:Nat) (v:Int),a=k∧k<16∧rg[k]?=some v∧rg.getD a.toNat 0=v∧0≤v∧v≤18446744073709551615:=by
 obtain⟨k,rfl⟩:∃k:Nat,a=k:=⟨a.toNat,by omega⟩;have hk:k<rg.length:=by omega
 have:=hu rg[k] (cJ hk);exact⟨k,rg[k],rfl,by omega,cy hk,by simp[List.getD,hk],this⟩
def fE{w0 w R c}(aE:Y.Ok c){aw seq b vb pb sb cv args}(ha:args.length=4){x}(h:gE c x)(hS:Sep w0 w (aQ c aw seq b vb pb sb cv args x::R)):ba 188 #[O b] w (.tuple #[I (X.block c x).1,I (X.block c x).2.1,.bool (X.block c x).2.2]):=by
 have nU:=aE.b1;have kF:=aE.nZ;obtain⟨ka,ua,ea,si,va,ga,Qb,Qc⟩:=jG h.aI h.ru h.ia;obtain⟨kb,ub,eb,p4,L3,gb,ub0,ub1⟩:=jG h.aI h.ru h.ib;obtain⟨kc,uc,ec,we,vc,gc,uc0,uc1⟩:=jG h.aI h.ru h.ic;have hbh:X.rh x=if x.i.op=16 then ua else ub:=by unfold X.rh X.iE;rw[ga,gb]
 have uG:X.sE x=if x.i.op=12∨x.i.op=14 then uc else if x.i.op=16 then 0 else x.i.bN:=by unfold X.sE X.iE;rw[gc]
 have Ej:X.block c x=if X.rh x<1∨c.b<X.rh x∨8≤X.sE x then(0,0,false)else(X.rh x-1,X.sE x,true):=rfl
 obtain⟨BL,hBL⟩:∃y,X.block c x=y:=⟨_,rfl⟩;obtain⟨BH,hBH⟩:∃y,X.rh x=y:=⟨_,rfl⟩;obtain⟨BW,hBW⟩:∃y,X.sE x=y:=⟨_,rfl⟩;rw[hBL];rw[hBL,hBH,hBW]at Ej;rw[hBH]at hbh;rw[hBW]at uG;clear ga gb gc hBL hBH hBW;obtain⟨la,lc,h2⟩:=bh hS;have dQ:Hid (∀w' nv,Sep w0 w' (aJ b 255 (iN (fJ (ae c) cv args vb pb sb x.mark x.mt x.ml) (x).aI (ey (x) nv))::aU 0 26 1 nv (x).news.length (bC (x).news)::aJ vb 258 (Vw.eU (ae c) aw seq (x).v)::bE c seq pb (x).p::cw sb (x).w::R)→Sep w0 w' (aQ c aw seq b vb pb sb cv args (x)::R)):=aa (λw' nv h=>bF h);have hE:=cH (show(ae c).length=24 from rfl) cv ha vb pb sb x.mark x.mt x.ml;unfold lP at h2;simp only[za]at h2;generalize fJ (ae c) cv args vb pb sb x.mark x.mt x.ml=H at*;have HE:=aa hE;have HX:=aa h;have HS:=aa h2;clear hS h2 hE h;have aD:(ae c).length=24:=rfl;have gF:=aa (λw=>bM w c);have fS:=aa (λw=>eS c w);unfold aY at*;generalize fB:db c=cf at*;clear fB;generalize ae c=cs at*;obtain⟨xv,xp,xw,mk,mt,ml,rg,pc,st,wr,wt,⟨op,ia,ib,ic,im⟩,s,rc,rv,nw⟩:=x;have bQ:=HX.aI;have zQ:=HX.out.im;unfold ey at HS;dsimp only at*;subst ea eb ec;have Xc:=aa hbh;have Xd:=aa uG;have SW:=aa Ej;clear hbh uG Ej;have HF:=aa (Fr.refl [] w);delta ba;go_in;go_wp2_with fail;have hB:=((HS.fr0 HF.out).ar 0 rfl).drew;have f55:=hB.cD HE.len bQ 55 rfl rfl;have f56:=hB.cD HE.len bQ 56 rfl rfl;have f57:=hB.cD HE.len bQ 57 rfl rfl;have f58:=hB.cD HE.len bQ 58 rfl rfl;have f59:=hB.cD HE.len bQ 59 rfl rfl;have ra:=(hB.cell (35+ka)).trans ((dM HE.len bQ _ si).trans (cV va));have rb:=(hB.cell (35+kb)).trans ((dM HE.len bQ _ p4).trans (cV L3));have jH:=(hB.cell (35+kc)).trans ((dM HE.len bQ _ we).trans (cV vc));refine bW [(1,[0,1,2,3,4,5,6,7,8,9,10,11,12,13,14,15,16])] (by kernel_rfl) ?_;simp only[zz];repeat((first|apply af|apply ag|apply ah);(repeat go_big_quiet_step(fail));apply ax)
 refine aj ?_;have HF:=aa HF.drew;clear hB f55 f56 f57 f58 f59 ra rb jH;have hB:=((HS.fr0 HF.out).ar 0 rfl);have f55:=hB.cD HE.len bQ 55 rfl rfl;have f56:=hB.cD HE.len bQ 56 rfl rfl;have f57:=hB.cD HE.len bQ 57 rfl rfl;have f58:=hB.cD HE.len bQ 58 rfl rfl;have f59:=hB.cD HE.len bQ 59 rfl rfl;have ra:=(hB.cell (35+ka)).trans ((dM HE.len bQ _ si).trans (cV va));have rb:=(hB.cell (35+kb)).trans ((dM HE.len bQ _ p4).trans (cV L3));have jH:=(hB.cell (35+kc)).trans ((dM HE.len bQ _ we).trans (cV vc));by_cases xJ:op=12;refine ?Z;rotate_left;refine ?Y
 case' Y=>have qN:(op==12)=false:=by simpa using xJ
 case' Y=>by_cases BR:op=14;refine ?X;rotate_left;refine ?J
 case' J=>have B4:(op==14)=false:=by simpa using BR
 case' J=>by_cases sH:op=16;refine ?G;rotate_left;refine ?D
 case' Z=>
  have qN:(op==12)=true:=by simpa using xJ
  have HW:Hid (BH=ub∧BW=uc):=aa (by rw[Xc.out,Xd.out,aq (by omega),aB (.inl xJ)];exact⟨rfl,rfl⟩);clear xJ
 case' X=>
  have B4:(op==14)=true:=by simpa using BR
  have HW:Hid (BH=ub∧BW=uc):=aa (by rw[Xc.out,Xd.out,aq (by omega),aB (.inr BR)];exact⟨rfl,rfl⟩);clear xJ BR
 case' G=>
  have GI:(op==16)=true:=by simpa using sH
  have HW:Hid (BH=ua∧BW=0):=aa (by rw[Xc.out,Xd.out,aB sH,aq (by omega),aB sH];exact⟨rfl,rfl⟩);clear xJ BR sH
 case' Z|X|G=>go_wp2_with fail;clear hB f55 f56 f57 f58 f59 ra rb jH;have hB:=((HS.fr0 HF.out).ar 0 rfl).drew;have f55:=hB.cD HE.len bQ 55 rfl rfl;have f56:=hB.cD HE.len bQ 56 rfl rfl;have f57:=hB.cD HE.len bQ 57 rfl rfl;have f58:=hB.cD HE.len bQ 58 rfl rfl;have f59:=hB.cD HE.len bQ 59 rfl rfl;have ra:=(hB.cell (35+ka)).trans ((dM HE.len bQ _ si).trans (cV va));have rb:=(hB.cell (35+kb)).trans ((dM HE.len bQ _ p4).trans (cV L3));have jH:=(hB.cell (35+kc)).trans ((dM HE.len bQ _ we).trans (cV vc))
 case' Z|X=>refine bW [(1,[0,1,2,3,4,5,6,7,8,9,10])] (by kernel_rfl) ?_
 case' G=>refine bW [(1,[0,1,2,3,4,5,6,7,8,9,10,11])] (by kernel_rfl) ?_
 case' Z|X|G=>
  simp only[zz];repeat((first|apply af|apply ag|apply ah);(repeat go_big_quiet_step(fail));apply ax)
  refine aj ?_;have HF:=aa HF.drew;clear hB f55 f56 f57 f58 f59 ra rb jH
 case' Z|X=>have En:Hid (BL=if ub<1∨c.b<ub∨8≤uc then(0,0,false)else(ub-1,uc,true)):=aa (by rw[SW.out,HW.out.1,HW.out.2]);clear SW Xc Xd HW
 case' G=>have En:Hid (BL=if ua<1∨c.b<ua then(0,0,false)else(ua-1,0,true)):=aa (by rw[SW.out,HW.out.1,HW.out.2];by_cases q:ua<1∨c.b<ua;rw[aB q,aB (by omega)];rw[aq q,aq (by omega)]);clear SW Xc Xd HW
 case' Z=>by_cases h1:ub<1;refine ?V;rotate_left;refine ?U
 case' X=>by_cases h1:ub<1;refine ?g0;rotate_left;refine ?g1
 case' G=>by_cases h1:ua<1;refine ?g2;rotate_left;refine ?g3
 case' U=>have d1:decide (ub<1)=false:=by simpa using h1
 case' U=>by_cases h2:c.b<ub;refine ?g4;rotate_left;refine ?g5
 case' g5=>have d2:decide (c.b<ub)=false:=by simpa using h2
 case' g5=>by_cases h3:8≤uc;refine ?g6;rotate_left;refine ?g7
 case' g1=>have d1:decide (ub<1)=false:=by simpa using h1
 case' g1=>by_cases h2:c.b<ub;refine ?g8;rotate_left;refine ?g9
 case' g9=>have d2:decide (c.b<ub)=false:=by simpa using h2
 case' g9=>by_cases h3:8≤uc;refine ?ga;rotate_left;refine ?gb
 case' g3=>have d1:decide (ua<1)=false:=by simpa using h1
 case' g3=>by_cases h2:c.b<ua;refine ?gc;rotate_left;refine ?gd
 case' D=>
  have GI:(op==16)=false:=by simpa using sH
  have HW:Hid (BH=ub∧BW=im):=aa (by rw[Xc.out,Xd.out,aq sH,aq (by omega),aq sH];exact⟨rfl,rfl⟩);clear xJ BR sH;have En:Hid (BL=if ub<1∨c.b<ub∨8≤im then(0,0,false)else(ub-1,im,true)):=aa (by rw[SW.out,HW.out.1,HW.out.2]);clear SW Xc Xd HW
 case' D=>by_cases h1:ub<1;refine ?ge;rotate_left;refine ?gf
 case' gf=>have d1:decide (ub<1)=false:=by simpa using h1
 case' gf=>by_cases h2:c.b<ub;refine ?gg;rotate_left;refine ?gh
 case' gh=>have d2:decide (c.b<ub)=false:=by simpa using h2
 case' gh=>by_cases h3:8≤im;refine ?gi;rotate_left;refine ?gj
 case' V|g0|ge=>have d1:decide (ub<1)=true:=by simpa using h1
 case' g2=>have d1:decide (ua<1)=true:=by simpa using h1
 case' V|g0|ge|g2=>have HR:Hid (BL=(0,0,false)):=aa (by rw[En.out,aB (.inl h1)]);clear h1;go_wp2_with fail
 case' g4|g8|gg=>
  have d2:decide (ub>c.b)=true:=by simpa using h2
  have HR:Hid (BL=(0,0,false)):=aa (by rw[En.out,aB (.inr (.inl h2))]);clear h1 h2
 case' g6|ga=>have d3:decide (8≤uc)=true:=by simpa using h3
 case' gi=>have d3:decide (8≤im)=true:=by simpa using h3
 case' g6|ga|gi=>have HR:Hid (BL=(0,0,false)):=aa (by rw[En.out,aB (.inr (.inr h3))]);clear h1 h2 h3
 case' gc=>
  have d2:decide (ua>c.b)=true:=by simpa using h2
  have HR:Hid (BL=(0,0,false)):=aa (by rw[En.out,aB (.inr h2)]);clear h1 h2
 case' g7|gb=>
  have d3:decide (8≤uc)=false:=by simpa using h3
  have HR:Hid (BL=(ub-1,uc,true)):=aa (by rw[En.out,aq (by omega)])
 case' gd=>
  have d2:decide (c.b<ua)=false:=by simpa using h2
  have HR:Hid (BL=(ua-1,0,true)):=aa (by rw[En.out,aq (by omega)])
 case' gj=>
  have d3:decide (8≤im)=false:=by simpa using h3
  have HR:Hid (BL=(ub-1,im,true)):=aa (by rw[En.out,aq (by omega)])
 case' g4|g8|gg|g6|ga|gi|gc|g7|gb|gd|gj=>have hB:=((HS.fr0 HF.out).ar 0 rfl);go_wp2_with(refine ay 58 _ rfl rfl _ 0 rfl cs _ (dw aD HE.out hB) Tryz.underlying58 rfl (by rw[aD];kernel_rfl) ?_);refine(gF.out _).kk λw2 hf=>?_;have HF:=aa (HF.trans hf);have kB:=λw=>(fS.out w).2.1;clear hf hB;go_wp2_with fail
 case' V|g0|ge|g2|g4|g8|gg|g6|ga|gi|gc=>exact aV (v:= .tuple #[I 0,I 0,.bool false]) (by simp[results,Tryz.results188,go_sem]) rfl ⟨by rw[HR.out],HF.out⟩
 case' g7|gb=>exact aV (v:= .tuple #[I (ub-1),I uc,.bool true]) (by simp[results,Tryz.results188,go_sem]) rfl ⟨by rw[HR.out],HF.out⟩
 case' gd=>exact aV (v:= .tuple #[I (ua-1),I 0,.bool true]) (by simp[results,Tryz.results188,go_sem]) rfl ⟨by rw[HR.out],HF.out⟩
 exact aV (v:= .tuple #[I (ub-1),I im,.bool true]) (by simp[results,Tryz.results188,go_sem]) rfl ⟨by rw[HR.out],HF.out⟩
end Go.Proofs.YtolkmchicplaoaaGreat
namespace Go.aS
def Sep.ah9 {w0 w A B C D E_ R}(h:Sep w0 w (A::B::C::D::E_::R)):Sep w0 w (E_::D::A::B::C::R):=(h.pull 3 rfl).pull 4 rfl
def Sep.Qd {w0 w A B C D E_ R}(h:Sep w0 w (E_::D::A::B::C::R)):Sep w0 w (A::B::C::D::E_::R):=(((h.pull 1 rfl).pull 4 rfl).pull 4 rfl).pull 4 rfl
end Go.aS
namespace Go.Proofs.YtolkmchicplaoaaGreat
open Go.RowKit Go.aS Go.aS.I_ Go.aS.Y
def wZ:(Tryz.prog.info? 26).map (λi=>(i.zero,i.size,i.bytes))=some (some (U 0),1,8):=by kernel_rfl
def zq34:(∀{w0 w R c}(aE:Y.Ok c){aw seq b vb pb sb cv args}(ha:args.length=4){x}(h:gE c x)(bb)(hb:0≤bb∧bb≤18446744073709551615)(hc:c.b≤bb)(hS:Sep w0 w (aQ c aw seq b vb pb sb cv args x::R)),bR 187 #[O b,U bb] w w0 (aQ c aw seq b vb pb sb cv args (X.fail 43 0 x)::R))∧(∀{w0 w R c}(aE:Y.Ok c){aw seq b vb pb sb cv args}(ha:args.length=4){x}(h:gE c x)(bb)(hb:0≤bb∧bb≤18446744073709551615)(hc:bb<c.b)(hS:Sep w0 w (aQ c aw seq b vb pb sb cv args x::R)),bR 187 #[O b,U bb] w w0 (aQ c aw seq b vb pb sb cv args (X.gV {x with p:=(P.take c bb x.p x.w).1,w:=(P.take c bb x.p x.w).2,news:=x.news++[bb+1]} x.i.a (bb+1))::R)):=by
 refine⟨?Z,?Y⟩
 case' Z|Y=>intro w0 w R c aE aw seq b vb pb sb cv args ha x h bb hb hc hS;have nU:=aE.b1;have kF:=aE.nZ
 case' Z=>
  have AY:=aa (fun(w':World) hS=>jC (w0:=w0) (w:=w') (R:=R) (c:=c) (aw:=aw) (seq:=seq) (b:=b) (vb:=vb) (pb:=pb) (sb:=sb) (cv:=cv) ha h 43 0 hS);have hd:decide (c.b≤bb)=true:=by simpa using hc
  clear hc;obtain⟨la,lc,h2⟩:=bh hS;have dQ:Hid (∀w' nv,Sep w0 w' (aJ b 255 (iN (fJ (ae c) cv args vb pb sb x.mark x.mt x.ml) (x).aI (ey (x) nv))::aU 0 26 1 nv (x).news.length (bC (x).news)::aJ vb 258 (Vw.eU (ae c) aw seq (x).v)::bE c seq pb (x).p::cw sb (x).w::R)→Sep w0 w' (aQ c aw seq b vb pb sb cv args (x)::R)):=aa (λw' nv h=>bF h)
 case' Y=>
  have hd:decide (c.b≤bb)=false:=by simpa using hc
  have BZ:bb≤63:=by omega
  clear hc;obtain⟨i0,iJ,jA,jB,iR⟩:=eA wZ;obtain⟨ka,ua,ea,si,va,ga,Qb,Qc⟩:=jG h.aI h.ru h.ia;clear ga;have kA:x.news.length≤10000:=by have h1:=h.nw;have h2:=h.st;omega
  have p5:x.w.done.length≤900000:=by have h1:=h.dn;have h2:=h.st;omega
  have J3:=aa (fun(w':World) (RR:List a_) hS=>YV (w0:=w0) (w:=w') (R:=RR) pb sb c aE seq x.p x.w bb h.nt p5 hS);obtain⟨la,lc,h2⟩:=bh hS;have dQ:Hid (∀w' nv,Sep w0 w' (aJ b 255 (iN (fJ (ae c) cv args vb pb sb x.mark x.mt x.ml) (X.gV {x with p:=(P.take c bb x.p x.w).1,w:=(P.take c bb x.p x.w).2,news:=x.news++[bb+1]} x.i.a (bb+1)).aI (ey (X.gV {x with p:=(P.take c bb x.p x.w).1,w:=(P.take c bb x.p x.w).2,news:=x.news++[bb+1]} x.i.a (bb+1)) nv))::aU 0 26 1 nv (X.gV {x with p:=(P.take c bb x.p x.w).1,w:=(P.take c bb x.p x.w).2,news:=x.news++[bb+1]} x.i.a (bb+1)).news.length (bC (X.gV {x with p:=(P.take c bb x.p x.w).1,w:=(P.take c bb x.p x.w).2,news:=x.news++[bb+1]} x.i.a (bb+1)).news)::aJ vb 258 (Vw.eU (ae c) aw seq (X.gV {x with p:=(P.take c bb x.p x.w).1,w:=(P.take c bb x.p x.w).2,news:=x.news++[bb+1]} x.i.a (bb+1)).v)::bE c seq pb (X.gV {x with p:=(P.take c bb x.p x.w).1,w:=(P.take c bb x.p x.w).2,news:=x.news++[bb+1]} x.i.a (bb+1)).p::cw sb (X.gV {x with p:=(P.take c bb x.p x.w).1,w:=(P.take c bb x.p x.w).2,news:=x.news++[bb+1]} x.i.a (bb+1)).w::R)→Sep w0 w' (aQ c aw seq b vb pb sb cv args (X.gV {x with p:=(P.take c bb x.p x.w).1,w:=(P.take c bb x.p x.w).2,news:=x.news++[bb+1]} x.i.a (bb+1))::R)):=aa (λw' nv h=>bF h)
 case' Z|Y=>have hE:=cH (show(ae c).length=24 from rfl) cv ha vb pb sb x.mark x.mt x.ml;unfold lP at h2;simp only[za]at h2;generalize fJ (ae c) cv args vb pb sb x.mark x.mt x.ml=H at*;have HE:=aa hE;have HX:=aa h;have HS:=aa h2;clear hS h2 hE h
 case' Y=>unfold X.gV at dQ;dsimp only at dQ;obtain⟨p2,GJ⟩:∃p2,(P.take c bb x.p x.w).1=p2:=⟨_,rfl⟩;obtain⟨s2,El⟩:∃s2,(P.take c bb x.p x.w).2=s2:=⟨_,rfl⟩;rw[GJ,El]at dQ J3⊢;clear GJ El
 case' Z|Y=>have aD:(ae c).length=24:=rfl;have gF:=aa (λw=>bM w c);have fS:=aa (λw=>eS c w);unfold aY at*;generalize fB:db c=cf at*;clear fB;generalize ae c=cs at*;obtain⟨xv,xp,xw,mk,mt,ml,rg,pc,st,wr,wt,⟨op,ia,ib,ic,im⟩,s,rc,rv,nw⟩:=x;unfold ey at HS;dsimp only at*;have bQ:=HX.aI;dsimp only at bQ;have hB:=(HS.ar 0 rfl);delta bR;go_in;go_wp2_with(refine ay 58 _ rfl rfl _ 0 rfl cs _ (dw aD HE.out hB) Tryz.underlying58 rfl (by rw[aD];kernel_rfl) ?_);refine(gF.out _).kk λw2 hf=>?_;have HS:=aa (HS.fr0 hf);have kB:=λw=>(fS.out w).2.1;clear hf hB
 case' Z=>go_wp2_with fail;refine(AY.out _ (dQ.out _ _ HS.out)).kh λw3 eH=>?_;go_wp2_with fail;refine aV (fV rfl _ _ _) rfl ?_
 case' Y=>
  subst ea;go_wp2_with fail;have hB:=(HS.ar 0 rfl).drew;have f30:=hB.fM HE.len 30 rfl HE.out.p;have f31:=hB.fM HE.len 31 rfl HE.out.w;clear kB;refine bW [(1,[0,1,2,3,4,5,6,7,8,9]),(3,[10])] (by kernel_rfl) ?_;simp only[zz];repeat((first|apply af|apply ag|apply ah);(repeat go_big_quiet_step(fail));apply ax)
  refine ao ?_;go_wp2_with fail;refine(J3.out _ _ HS.drew.ah9).kk λw3 h3=>?_;have HS:=aa h3.Qd;clear h3 hB f30 f31 J3;go_wp2_with fail;refine aj ?_;have hB:=(HS.ar 0 rfl);have f63:=hB.cD HE.len bQ 63 rfl rfl;have HS:=aa (HS.new 26 [U (bb+1)]);obtain⟨nl,Zc⟩:∃nl,nw.length=nl:=⟨_,rfl⟩;have HNL:=aa Zc;rw[Zc]at HS f63 kA;clear Zc;go_wp2_with(at_builtin;go_must (refine ch _ rfl _ _ 49 rfl 0 26 i0 _ 1 8 Tryz.underlying49 iJ jA jB iR rfl (by decide) (.slice la nl lc) nl (bC nw) rfl (HS.row 2 rfl) [U (bb+1)] _ _ rfl (HS.ar 0 rfl) rfl (by simp[Value.oneCell']) (by unfold maxLen;omega) (by omega) (cE _) ?_));intro g2 c2 w4 dy iZ jj kM mw;have h3:=(HS.grown 2 rfl dy iZ (λq e=>by
   rcases jj with h1|h1
   ·exact .inl (h1.trans e)
   ·right;simp only[Value.ownBlock,eX]at e;rw[←e,h1];simp)).tail
  simp only[zs]at h3;have hB:=(h3.ar 0 rfl);obtain⟨f63,g63⟩:=hB.exf HE.len bQ 63 rfl rfl;have h4:=h3.set 0 rfl 63 (.slice (some ⟨g2,0,none⟩) (nl+1) c2);simp only[aL,eK HE.len bQ,Nat.reduceSub,Nat.reduceLeDiff,aN]at h4;have HS:=aa h4;clear h3 h4 dy iZ jj hB;go_wp2_with fail;generalize World.setCell _ _ _=w5 at HS⊢;clear f63 g63;have hB:=(HS.ar 0 rfl).drew;have f56:=hB.cD HE.len bQ 56 rfl rfl;have ra:=(hB.cell (35+ka)).trans ((dM HE.len bQ _ si).trans (cV va));have UR:=hB.az (35+ka);have h5:=HS.drew.set 0 rfl (35+ka) (U (bb+1));simp only[aL,nA HE.len bQ _ si]at h5;have sk:=aa h5;clear h5;refine bW [(1,[0,1,2,3,4,5,6,7,8,9,10]),(3,[11])] (by kernel_rfl) ?_;simp only[zz];repeat((first|apply af|apply ag|apply ah);(repeat go_big_quiet_step(fail));apply ax)
  refine ao ?_;go_wp2_with fail;refine aj ?_;go_wp2_with fail;go_end0
 case' Z=>exact⟨rfl,eH.out⟩
 exact⟨rfl,dQ.out _ _ (by
  rw[eE,HNL.out];have e:bC (nw++[bb+1])=bC nw++[U (bb+1)]:=by simp[bC]
  rw[e,dU];exact sk.out)⟩
def L4:=@zq34.1
def H5:=@zq34.2
def H6 {w0 w R c}(aE:Y.Ok c){aw seq b vb pb sb cv args}(ha:args.length=4){x}(h:gE c x)(bb)(hb:0≤bb∧bb≤18446744073709551615)(hS:Sep w0 w (aQ c aw seq b vb pb sb cv args x::R)):
 bR 187 #[O b,U bb] w w0 (aQ c aw seq b vb pb sb cv args (X.taken c bb x)::R):=by
 unfold X.taken;by_cases hc:c.b≤bb
 ·rw[aB hc];exact L4 aE ha h bb hb hc hS
 ·rw[aq hc];exact H5 aE ha h bb hb (by omega) hS
def gE.lE {c}(aE:Y.Ok c){x}(h:gE c x)(hp:¬c.w-x.writes<bV x.i.op):gE c {x with writes:=x.writes+bV x.i.op}:=by
 have hco:0≤bV x.i.op∧bV x.i.op≤9:=by unfold bV;split;omega;split;omega;split<;>omega
 have:=h.wr;exact⟨h.aI,h.ru,h.ia,h.ib,h.ic,h.im,h.i8,by dsimp only;omega,h.dn,h.st,h.pc,h.nt,h.nl,h.mt,h.ml,h.nw,h.wu,h.vv⟩
def zq35:(∀{w0 w R c}(aE:Y.Ok c){aw seq b vb pb sb cv args}(ha:args.length=4){x}(h:gE c x)(val)(j_:x.i.op=9∨x.i.op=11∨x.i.op=12)(hS:Sep w0 w (aQ c aw seq b vb pb sb cv args x::R)),bR 177 #[O b,U val] w w0 (aQ c aw seq b vb pb sb cv args (X.gV x x.i.a val)::R))∧(∀{w0 w R c}(aE:Y.Ok c){aw seq b vb pb sb cv args}(ha:args.length=4){x}(h:gE c x)(val)(hv:0≤val∧val≤18446744073709551615)(j_:x.i.op=15)(hS:Sep w0 w (aQ c aw seq b vb pb sb cv args x::R)),bR 177 #[O b,U val] w w0 (aQ c aw seq b vb pb sb cv args (X.taken c val x)::R))∧(∀{w0 w R c}(aE:Y.Ok c){aw seq b vb pb sb cv args}(ha:args.length=4){x}(h:gE c x)(val)(j_:¬(x.i.op=9∨x.i.op=11∨x.i.op=12)∧x.i.op≠15∧¬(x.i.op=13∨x.i.op=14)∧x.i.op≠16)(hS:Sep w0 w (aQ c aw seq b vb pb sb cv args x::R)),bR 177 #[O b,U val] w w0 (aQ c aw seq b vb pb sb cv args x::R))∧(∀{w0 w R c}(aE:Y.Ok c){aw seq b vb pb sb cv args}(ha:args.length=4){x}(h:gE c x)(val)(j_:x.i.op=13)(hp:c.w-x.writes<bV x.i.op)(hS:Sep w0 w (aQ c aw seq b vb pb sb cv args x::R)),bR 177 #[O b,U val] w w0 (aQ c aw seq b vb pb sb cv args (X.fail 42 0 x)::R))∧(∀{w0 w R c}(aE:Y.Ok c){aw seq b vb pb sb cv args}(ha:args.length=4){x}(h:gE c x)(val)(j_:x.i.op=14)(hp:c.w-x.writes<bV x.i.op)(hS:Sep w0 w (aQ c aw seq b vb pb sb cv args x::R)),bR 177 #[O b,U val] w w0 (aQ c aw seq b vb pb sb cv args (X.fail 42 0 x)::R))∧(∀{w0 w R c}(aE:Y.Ok c){aw seq b vb pb sb cv args}(ha:args.length=4){x}(h:gE c x)(val)(j_:x.i.op=16)(hp:c.w-x.writes<bV x.i.op)(hS:Sep w0 w (aQ c aw seq b vb pb sb cv args x::R)),bR 177 #[O b,U val] w w0 (aQ c aw seq b vb pb sb cv args (X.fail 42 0 x)::R))∧(∀{w0 w R c}(aE:Y.Ok c){aw seq b vb pb sb cv args}(ha:args.length=4){x}(h:gE c x)(val)(j_:x.i.op=13)(hp:¬c.w-x.writes<bV x.i.op)(hS:Sep w0 w (aQ c aw seq b vb pb sb cv args x::R)),bR 177 #[O b,U val] w w0 (aQ c aw seq b vb pb sb cv args (X.wrote c {x with writes:=x.writes+bV x.i.op})::R))∧(∀{w0 w R c}(aE:Y.Ok c){aw seq b vb pb sb cv args}(ha:args.length=4){x}(h:gE c x)(val)(j_:x.i.op=14)(hp:¬c.w-x.writes<bV x.i.op)(hS:Sep w0 w (aQ c aw seq b vb pb sb cv args x::R)),bR 177 #[O b,U val] w w0 (aQ c aw seq b vb pb sb cv args (X.wrote c {x with writes:=x.writes+bV x.i.op})::R))∧(∀{w0 w R c}(aE:Y.Ok c){aw seq b vb pb sb cv args}(ha:args.length=4){x}(h:gE c x)(val)(j_:x.i.op=16)(hp:¬c.w-x.writes<bV x.i.op)(hS:Sep w0 w (aQ c aw seq b vb pb sb cv args x::R)),bR 177 #[O b,U val] w w0 (aQ c aw seq b vb pb sb cv args (X.rm c {x with writes:=x.writes+bV x.i.op})::R)):=by
 refine⟨?Z,?Y,?X,?J,?G,?D,?V,?U,?g0⟩
 case' Z=>intro w0 w R c aE aw seq b vb pb sb cv args ha x h val j_ hS;obtain⟨ka,ua,ea,si,va,ga,Qb,Qc⟩:=jG h.aI h.ru h.ia;clear ga
 case' Y=>intro w0 w R c aE aw seq b vb pb sb cv args ha x h val hv j_ hS;have GH:=aa (fun(w':World) RR hS=>H6 (w0:=w0) (w:=w') (R:=RR) aE (aw:=aw) (seq:=seq) (b:=b) (vb:=vb) (pb:=pb) (sb:=sb) (cv:=cv) ha h val hv hS)
 case' X=>intro w0 w R c aE aw seq b vb pb sb cv args ha x h val j_ hS
 case' J|G|D|V|U|g0=>intro w0 w R c aE aw seq b vb pb sb cv args ha x h val j_ hp hS;have tN:=aa (fun(w':World) RR hS=>fE (w0:=w0) (w:=w') (R:=RR) aE (aw:=aw) (seq:=seq) (b:=b) (vb:=vb) (pb:=pb) (sb:=sb) (cv:=cv) ha h hS)
 case' J|G|D=>have zW:=aa (fun(w':World) RR hS=>vB (w0:=w0) (w:=w') (R:=RR) aE (aw:=aw) (seq:=seq) (b:=b) (vb:=vb) (pb:=pb) (sb:=sb) (cv:=cv) ha h hp hS)
 case' V|U|g0=>have zW:=aa (fun(w':World) RR hS=>sJ (w0:=w0) (w:=w') (R:=RR) aE (aw:=aw) (seq:=seq) (b:=b) (vb:=vb) (pb:=pb) (sb:=sb) (cv:=cv) ha h hp hS);have hY:=gE.lE aE h hp;obtain⟨y,hy⟩:∃y,({x with writes:=x.writes+bV x.i.op}:X.St)=y:=⟨_,rfl⟩;have j9:X.block c x=X.block c y:=by rw[←hy];rfl
 case' V|U=>have hyi:y.i.a=x.i.a:=by rw[←hy]
 case' V|U|g0=>rw[hy]at zW hY⊢;rw[j9]at tN;clear hy j9
 case' Z|Y|X|J|G|D|V|U|g0=>obtain⟨yB,yC,fL⟩:=bh hS;have kC:=cH (show(ae c).length=24 from rfl) cv ha vb pb sb x.mark x.mt x.ml;unfold lP at fL;simp only[za]at fL;have jX:=fL.ar 0 rfl;have f55:=jX.cD kC.len h.aI 55 rfl rfl;have f56:=jX.cD kC.len h.aI 56 rfl rfl;have f57:=jX.cD kC.len h.aI 57 rfl rfl;have f58:=jX.cD kC.len h.aI 58 rfl rfl;have f59:=jX.cD kC.len h.aI 59 rfl rfl;have eG:=(hS.new 28 [I x.i.op,I x.i.a,I x.i.b,I x.i.c,U x.i.bN]).swap;clear kC fL jX hS;have dS:=aa eG;clear eG
 case' Z=>have hS:=dS.out;generalize hI:aJ w.heap.size 28 [I x.i.op,I x.i.a,I x.i.b,I x.i.c,U x.i.bN]=IT at*;obtain⟨la,lc,h2⟩:=bh hS;have dQ:Hid (∀w' nv,Sep w0 w' (aJ b 255 (iN (fJ (ae c) cv args vb pb sb x.mark x.mt x.ml) (X.gV x x.i.a val).aI (ey (X.gV x x.i.a val) nv))::aU 0 26 1 nv (X.gV x x.i.a val).news.length (bC (X.gV x x.i.a val).news)::aJ vb 258 (Vw.eU (ae c) aw seq (X.gV x x.i.a val).v)::bE c seq pb (X.gV x x.i.a val).p::cw sb (X.gV x x.i.a val).w::IT::R)→Sep w0 w' (aQ c aw seq b vb pb sb cv args (X.gV x x.i.a val)::IT::R)):=aa (λw' nv h=>bF h);have hE:=cH (show(ae c).length=24 from rfl) cv ha vb pb sb x.mark x.mt x.ml;unfold lP at h2;simp only[za]at h2;generalize fJ (ae c) cv args vb pb sb x.mark x.mt x.ml=H at*;have HE:=aa hE;have HX:=aa h;have HS:=aa h2;clear hS h2 hE h;subst hI;unfold X.gV at dQ;dsimp only at dQ;obtain⟨xv,xp,xw,mk,mt,ml,rg,pc,st,wr,wt,⟨op,ia,ib,ic,im⟩,s,rc,rv,nw⟩:=x;unfold ey at HS;dsimp only at*;subst ea;have bQ:=HX.aI;dsimp only at bQ;clear dS
 case' Y|X|J|G|D|V|U|g0=>
  have e9:(x.i.op==9)=false:=by simp;omega
  have qM:(x.i.op==11)=false:=by simp;omega
  have qN:(x.i.op==12)=false:=by simp;omega
 case' Y=>
  have JN:(x.i.op==15)=true:=by simpa using j_
  clear j_;generalize x.i.op=op at*;generalize x.i.a=ia at*;generalize x.i.b=ib at*;generalize x.i.c=ic at*;generalize x.i.bN=im at*;delta bR;go_in;go_wp2_with fail;refine(GH.out _ _ dS.out).kk λw1 h1=>?_;have de:=aa h1.swap.tail;clear h1;go_wp2_with fail;go_end0
 case' X|J|G|D|V|U|g0=>have JN:(x.i.op==15)=false:=by simp;omega
 case' X=>
  have yX:(x.i.op==13)=false:=by simp;omega
  have B4:(x.i.op==14)=false:=by simp;omega
  have GI:(x.i.op==16)=false:=by simp;omega
  clear j_;delta bR;go_in;go_wp2_with fail;go_end0
 case' J=>have yX:(x.i.op==13)=true:=by simpa using j_
 case' G=>have yX:(x.i.op==13)=false:=(by simp;omega);have B4:(x.i.op==14)=true:=(by simpa using j_)
 case' D=>have yX:(x.i.op==13)=false:=(by simp;omega);have B4:(x.i.op==14)=false:=(by simp;omega);have GI:(x.i.op==16)=true:=(by simpa using j_)
 case' J|G|D=>clear j_ hp;generalize X.block c x=bl at*
 case' V=>have yX:(x.i.op==13)=true:=by simpa using j_
 case' U=>have yX:(x.i.op==13)=false:=(by simp;omega);have B4:(x.i.op==14)=true:=(by simpa using j_)
 case' V|U=>clear j_ hp h;rw[←hyi]at dS f56;clear hyi;generalize x.i.op=op at*;generalize x.i.b=ib at*;generalize x.i.c=ic at*;generalize x.i.bN=im at*;obtain⟨ka,ua,ea,si,va,ga,Qb,Qc⟩:=jG hY.aI hY.ru hY.ia;rw[ea]at f56;have eG:=dS.out;rw[ea]at eG;clear dS;have dS:=aa eG;clear eG
 case' g0=>
  have yX:(x.i.op==13)=false:=by simp;omega
  have B4:(x.i.op==14)=false:=by simp;omega
  have GI:(x.i.op==16)=true:=by simpa using j_
  clear j_ hp h
 case' J|G|D|V|U|g0=>delta bR;go_in;go_wp2_with fail;refine(tN.out _ _ dS.out).kq dS λw1 dS=>?_;go_wp2_with fail;refine(zW.out _ _ dS.out).kh λw2 dS=>?_
 case' J|G|D=>have de:=aa dS.out.swap.tail;clear dS;go_wp2_with fail;go_end0
 case' V|U=>
  clear tN zW f55 f56 f57 f58 f59;go_wp2_with fail;have h_:=aa (λw=>cx w c aE 16 (X.block c y).1 (X.block c y).2.1);have JI:X.wrote c y={y with w:=P.cU y.w (at_ c 16 (X.block c y).1 (X.block c y).2.1) ua}:=by unfold X.wrote X.iE;rw[ga]
  have HWR:=aa JI;clear JI ga;have hS:=dS.out;obtain⟨la,lc,h2⟩:=bh hS;have dQ:Hid (∀w' nv,Sep w0 w' (aJ b 255 (iN (fJ (ae c) cv args vb pb sb y.mark y.mt y.ml) (X.wrote c y).aI (ey (X.wrote c y) nv))::aU 0 26 1 nv (X.wrote c y).news.length (bC (X.wrote c y).news)::aJ vb 258 (Vw.eU (ae c) aw seq (X.wrote c y).v)::bE c seq pb (X.wrote c y).p::cw sb (X.wrote c y).w::aJ w.heap.size 28 [I op,I (ka:Int),I ib,I ic,U im]::R)→Sep w0 w' (aQ c aw seq b vb pb sb cv args (X.wrote c y)::aJ w.heap.size 28 [I op,I (ka:Int),I ib,I ic,U im]::R)):=aa (λw' nv h=>bF h)
 case' g0=>
  have dS:=aa dS.out.swap.tail;clear tN zW f55 f56 f57 f58 f59 e9 qM qN JN yX B4 GI;go_wp2_with fail;have p5:y.w.done.length≤900000:=by have h1:=hY.dn;have h2:=hY.st;omega
  have HPG:=aa (fun(w':World) (RR:List a_) bb hS=>YW (w0:=w0) (w:=w') (R:=RR) pb sb c aE seq y.p y.w bb hY.nl p5 hS);have hS:=dS.out;have HGV:Hid (X.rm c y={y with p:=(P.nM c (X.block c y).1 y.p y.w).1,w:=(P.nM c (X.block c y).1 y.p y.w).2}):=aa rfl;obtain⟨la,lc,h2⟩:=bh hS;have dQ:Hid (∀w' nv,Sep w0 w' (aJ b 255 (iN (fJ (ae c) cv args vb pb sb y.mark y.mt y.ml) (X.rm c y).aI (ey (X.rm c y) nv))::aU 0 26 1 nv (X.rm c y).news.length (bC (X.rm c y).news)::aJ vb 258 (Vw.eU (ae c) aw seq (X.rm c y).v)::bE c seq pb (X.rm c y).p::cw sb (X.rm c y).w::R)→Sep w0 w' (aQ c aw seq b vb pb sb cv args (X.rm c y)::R)):=aa (λw' nv h=>bF h)
 case' V|U|g0=>have hE:=cH (show(ae c).length=24 from rfl) cv ha vb pb sb y.mark y.mt y.ml;unfold lP at h2;simp only[za]at h2;generalize fJ (ae c) cv args vb pb sb y.mark y.mt y.ml=H at*;have HE:=aa hE;have HX:=aa hY;have HS:=aa h2;clear hS h2 hE hY
 case' V|U=>
  rw[HWR.out]at dQ;generalize at_ c 16 (X.block c y).1 (X.block c y).2.1=av at*;generalize X.block c y=bl at*;have aD:(ae c).length=24:=rfl;unfold aY at*;generalize fB:db c=cf at*;clear fB;generalize ae c=cs at*;have hB:=(HS.ar 0 rfl).drew;have hI:=(HS.ar 5 rfl).drew;have i1:=hI.cell 1;have f31:=hB.fM HE.len 31 rfl HE.out.w;have ra:=(hB.cell (35+ka)).trans ((dM HE.len HX.aI _ si).trans (cV va));simp only[zg]at i1;refine bW [(1,[0,1,2,3,4,5,6,7,8,9,11,12,13,14,15,16,17]),(2,[10]),(3,[18])] (by kernel_rfl) ?_;simp only[zz];refine af ?_;repeat(first|(refine ak 58 _ b 0 cs _ rfl rfl rfl (aG (dw aD HE.out hB) (by simp)) Tryz.underlying58 rfl (by rw[aD];kernel_rfl) ?_;simp only[Act.put,aZ,aL,aN])|go_big_quiet_step (fail)|quiet_step (fail))
  refine ax ?_;refine aA ?_;go_wp2_with fail;refine(h_.out _).kf HS.dr λw3 HF HS=>?_;go_wp2_with fail;refine⟨⟨⟨_,(by exact HF.out)⟩,rfl⟩,?_⟩
 case' g0=>rw[HGV.out]at dQ;generalize X.block c y=bl at*;have hB:=(HS.ar 0 rfl).drew;have f30:=hB.fM HE.len 30 rfl HE.out.p;have f31:=hB.fM HE.len 31 rfl HE.out.w;refine bW [(1,[0,1,2,3,4,5,6,7,8]),(3,[9])] (by kernel_rfl) ?_;simp only[zz]
 case' V|U|g0=>
  repeat((first|apply af|apply ag|apply ah);(repeat go_big_quiet_step(fail));apply ax)
  refine ao ?_;go_wp2_with fail
 case' V|U=>refine(HS.call 4 rfl (λR hR=>iz hR (by have h1:=HX.out.dn;have h2:=HX.out.st;omega) av ua)).kk λw4 h1=>?_;simp only[zs]at h1;have HS:=aa h1;clear h1
 case' g0=>refine(HPG.out _ _ _ HS.drew.ah9).kk λw4 h1=>?_;have HS:=aa h1.Qd;clear h1
 case' V|U|g0=>go_wp2_with fail;refine aj ?_;go_wp2_with fail;go_end0
 case' Z=>rcases j_ with j_|j_|j_;refine ?g1;rotate_left;refine ?g2;rotate_left;refine ?g3
 case' Y|J|G|D=>exact⟨rfl,de.out⟩
 case' X=>exact⟨rfl,dS.out.swap.tail⟩
 case' V|U=>exact⟨rfl,by rw[HWR.out];exact(dQ.out _ _ HS.out).swap.tail⟩
 case' g0=>exact⟨rfl,by rw[HGV.out];exact dQ.out _ _ HS.out⟩
 case' g1=>have e9:(op==9)=true:=by simpa using j_
 case' g2=>
  have e9:(op==9)=false:=by simp;omega
  have qM:(op==11)=true:=by simpa using j_
 case' g3=>
  have e9:(op==9)=false:=by simp;omega
  have qM:(op==11)=false:=by simp;omega
  have qN:(op==12)=true:=by simpa using j_
 case' g1|g2|g3=>
  clear j_;delta bR;go_in;go_wp2_with fail;generalize World.alloc _ _=W1 at HS⊢;have hB:=(HS.ar 0 rfl).drew;have hI:=(HS.ar 5 rfl).drew;have i1:=hI.cell 1;have ra:=(hB.cell (35+ka)).trans ((dM HE.len bQ _ si).trans (cV va));have UR:=hB.az (35+ka);simp only[zg]at i1;have h5:=HS.drew.set 0 rfl (35+ka) (U val);simp only[aL,nA HE.len bQ _ si]at h5;have sk:=aa h5;clear h5;refine bW [(1,[0,1,2,3,4,5,6]),(3,[7])] (by kernel_rfl) ?_;simp only[zz];repeat((first|apply af|apply ag|apply ah);(repeat go_big_quiet_step(fail));apply ax)
  refine ao ?_;go_wp2_with fail;refine aj ?_;go_wp2_with fail;go_end0
 case' g1|g2|g3=>exact⟨rfl,(dQ.out _ _ (by rw[dU];exact sk.out)).swap.tail⟩
def UX:=@zq35.1
def UY:=@zq35.2.1
def J4:=@zq35.2.2.1
def L5:=@zq35.2.2.2.1
def L6:=@zq35.2.2.2.2.1
def L7:=@zq35.2.2.2.2.2.1
def H7:=@zq35.2.2.2.2.2.2.1
def H8:=@zq35.2.2.2.2.2.2.2.1
def H_:=@zq35.2.2.2.2.2.2.2.2
def qB {w0 w R c}(aE:Y.Ok c){aw seq b vb pb sb cv args}(ha:args.length=4){x}(h:gE c x)(val)(hv:0≤val∧val≤18446744073709551615)(hS:Sep w0 w (aQ c aw seq b vb pb sb cv args x::R)):
 bR 177 #[O b,U val] w w0 (aQ c aw seq b vb pb sb cv args (X.jb c val x)::R):=by
 unfold X.jb;by_cases h1:x.i.op=9∨x.i.op=11∨x.i.op=12
 ·rw[aB h1];exact UX aE ha h val h1 hS
 ·rw[aq h1];by_cases h2:x.i.op=15
  ·rw[aB h2];exact UY aE ha h val hv h2 hS
  ·rw[aq h2];have zS:X.lE c x=if c.w-x.writes<bV x.i.op then(X.fail 42 0 x,false)else({x with writes:=x.writes+bV x.i.op},true):=rfl
   by_cases hp:c.w-x.writes<bV x.i.op
   ·rw[zS,aB hp];dsimp only;by_cases h3:x.i.op=13∨x.i.op=14
    ·rw[aB h3,aq (by decide)];rcases h3 with h3|h3
     ·exact L5 aE ha h val h3 hp hS
     ·exact L6 aE ha h val h3 hp hS
    ·rw[aq h3];by_cases h4:x.i.op=16
     ·rw[aB h4,aq (by decide)];exact L7 aE ha h val h4 hp hS
     ·rw[aq h4];exact J4 aE ha h val ⟨h1,h2,h3,h4⟩ hS
   ·rw[zS,aq hp];dsimp only;by_cases h3:x.i.op=13∨x.i.op=14
    ·rw[aB h3,aB rfl];rcases h3 with h3|h3
     ·exact H7 aE ha h val h3 hp hS
     ·exact H8 aE ha h val h3 hp hS
    ·rw[aq h3];by_cases h4:x.i.op=16
     ·rw[aB h4,aB rfl];exact H_ aE ha h val h4 hp hS
     ·rw[aq h4];exact J4 aE ha h val ⟨h1,h2,h3,h4⟩ hS
def zq36:(∀{w0 w R c}(aE:Y.Ok c){aw seq b vb pb sb cv args}(ha:args.length=4){x}(h:gE c x)(av g)(hg:W.get x.w av=(g,true))(hS:Sep w0 w (aQ c aw seq b vb pb sb cv args x::R)),bR 193 #[O b,I av] w w0 (aQ c aw seq b vb pb sb cv args (X.jb c g x)::R))∧(∀{w0 w R c}(aE:Y.Ok c){aw seq b vb pb sb cv args}(ha:args.length=4){x}(h:gE c x)(av g)(hg:W.get x.w av=(g,false))(hS:Sep w0 w (aQ c aw seq b vb pb sb cv args x::R)),bR 193 #[O b,I av] w w0 (aQ c aw seq b vb pb sb cv args {x with v:=Vw.cell c av x.v,waits:=true}::R)):=by
 refine⟨?Z,?Y⟩
 case' Z|Y=>intro w0 w R c aE aw seq b vb pb sb cv args ha x h av g hg hS
 case' Z=>have u9:=h.wv av;rw[hg]at u9;dsimp only at u9;have Qe:=aa (fun(w':World) hS=>qB (w0:=w0) (w:=w') (R:=R) aE (aw:=aw) (seq:=seq) (b:=b) (vb:=vb) (pb:=pb) (sb:=sb) (cv:=cv) ha h g u9 hS);obtain⟨la,lc,h2⟩:=bh hS;have dQ:Hid (∀w' nv,Sep w0 w' (aJ b 255 (iN (fJ (ae c) cv args vb pb sb x.mark x.mt x.ml) (x).aI (ey (x) nv))::aU 0 26 1 nv (x).news.length (bC (x).news)::aJ vb 258 (Vw.eU (ae c) aw seq (x).v)::bE c seq pb (x).p::cw sb (x).w::R)→Sep w0 w' (aQ c aw seq b vb pb sb cv args (x)::R)):=aa (λw' nv h=>bF h)
 case' Y=>obtain⟨la,lc,h2⟩:=bh hS;have dQ:Hid (∀w' nv,Sep w0 w' (aJ b 255 (iN (fJ (ae c) cv args vb pb sb x.mark x.mt x.ml) ({x with v:=Vw.cell c av x.v,waits:=true}).aI (ey ({x with v:=Vw.cell c av x.v,waits:=true}) nv))::aU 0 26 1 nv ({x with v:=Vw.cell c av x.v,waits:=true}).news.length (bC ({x with v:=Vw.cell c av x.v,waits:=true}).news)::aJ vb 258 (Vw.eU (ae c) aw seq ({x with v:=Vw.cell c av x.v,waits:=true}).v)::bE c seq pb ({x with v:=Vw.cell c av x.v,waits:=true}).p::cw sb ({x with v:=Vw.cell c av x.v,waits:=true}).w::R)→Sep w0 w' (aQ c aw seq b vb pb sb cv args ({x with v:=Vw.cell c av x.v,waits:=true})::R)):=aa (λw' nv h=>bF h)
 case' Z|Y=>have hE:=cH (show(ae c).length=24 from rfl) cv ha vb pb sb x.mark x.mt x.ml;unfold lP at h2;simp only[za]at h2;generalize fJ (ae c) cv args vb pb sb x.mark x.mt x.ml=H at*;have HE:=aa hE;have HX:=aa h;have HS:=aa h2;clear hS h2 hE h
 case' Y=>dsimp only at dQ;have UZ:=aa (fun(w':World) RR hS=>B8 (w0:=w0) (w:=w') (R:=RR) vb c aE aw seq x.v av hS);have HHG:=aa (hg)
 case' Z|Y=>have f31:=(HS.ar 0 rfl).fM HE.len 31 rfl HE.out.w;delta bR;go_in;go_wp2_with fail;refine(jo (HS.pull 4 rfl) av).kk λw1 hf=>?_;rw[hg];have HS:=aa (HS.fr0 hf);clear hf f31 hg;dsimp only
 case' Z=>go_wp2_with fail;refine(Qe.out _ (dQ.out _ _ HS.out)).kh λw2 de=>?_;go_wp2_with fail;refine aV (fV rfl _ _ _) rfl ?_
 case' Y=>have f29:=(HS.ar 0 rfl).fM HE.len 29 rfl HE.out.v;go_wp2_with fail;refine(HS.call 2 rfl (λR hR=>UZ.out _ _ hR)).kk λw2 h1=>?_;simp only[zs]at h1;have HS:=aa h1;clear h1 f29;have bQ:=HX.aI;obtain⟨xv,xp,xw,mk,mt,ml,rg,pc,st,wr,wt,i,s,rc,rv,nw⟩:=x;unfold ey at HS;dsimp only at*;obtain⟨f54,g54⟩:=(HS.ar 0 rfl).exf HE.len bQ 54 rfl rfl;have h3:=HS.set 0 rfl 54 (.bool true);simp only[aL,eK HE.len bQ,Nat.reduceSub,Nat.reduceLeDiff,aN]at h3;have eH:=aa h3;clear h3;go_wp2_with fail;go_end0
 case' Z=>exact⟨rfl,de.out⟩
 exact⟨rfl,dQ.out _ _ eH.out⟩
def Ia:=@zq36.1
def L8:=@zq36.2
def zX {w0 w R c}(aE:Y.Ok c){aw seq b vb pb sb cv args}(ha:args.length=4){x}(h:gE c x)(av)(hS:Sep w0 w (aQ c aw seq b vb pb sb cv args x::R)):
 bR 193 #[O b,I av] w w0 (aQ c aw seq b vb pb sb cv args (X.jc c av x)::R):=by
 unfold X.jc;obtain⟨g,k,hg⟩:∃g k,W.get x.w av=(g,k):=⟨_,_,rfl⟩;rw[hg];cases k
 ·exact L8 aE ha h av g hg hS
 ·exact Ia aE ha h av g hg hS
def Ib{w0 w R c}(aE:Y.Ok c){aw seq b vb pb sb cv args}(ha:args.length=4){x}(h:gE c x)(hS:Sep w0 w (aQ c aw seq b vb pb sb cv args x::R)):bR 186 #[O b] w w0 (aQ c aw seq b vb pb sb cv args (X.fresh c x)::R):=by
 unfold X.fresh;have zS:X.lE c x=if c.w-x.writes<bV x.i.op then(X.fail 42 0 x,false)else({x with writes:=x.writes+bV x.i.op},true):=rfl
 by_cases hp:c.w-x.writes<bV x.i.op;refine ?Z;rotate_left;refine ?Y
 case' Z=>rw[zS,aB hp];dsimp only;rw[aq (by decide)];have H:=vB aE ha h hp hS;clear zS hp hS h;delta bR;go_in;go_wp2_with fail;refine H.mono ?_;rintro r w1 ⟨rfl,h1⟩;have HS:=aa h1;clear h1 H;go_wp2_with fail;refine aV (fV rfl _ _ _) rfl ?_
 case' Z=>exact⟨rfl,HS.out⟩
 have HP:=sJ aE ha h hp hS;have hY:=gE.lE aE h hp;rw[aq hp]at zS;obtain⟨y,hy⟩:∃y,({x with writes:=x.writes+bV x.i.op}:X.St)=y:=⟨_,rfl⟩;rw[hy]at HP hY zS;rw[zS];dsimp only;rw[aB rfl];clear zS hp hS h hy;have kF:=aE.nZ;have J3:=aa (fun(w':World) RR hS=>UC (w0:=w0) (w:=w') (R:=RR) pb c aE seq y.p (by have:=hY.nt;omega) hS);obtain⟨tv,tk,ht⟩:∃tv tk,P.top c y.p=(tv,tk):=⟨_,_,rfl⟩;rw[ht]at J3⊢;clear ht;dsimp only at J3⊢;have AY:=aa (fun(w':World) hS=>jC (w0:=w0) (w:=w') (R:=R) (c:=c) (aw:=aw) (seq:=seq) (b:=b) (vb:=vb) (pb:=pb) (sb:=sb) (cv:=cv) ha hY 43 0 hS);have xT:=aa (fun(w':World) hS=>zX (w0:=w0) (w:=w') (R:=R) aE (aw:=aw) (seq:=seq) (b:=b) (vb:=vb) (pb:=pb) (sb:=sb) (cv:=cv) ha hY tv hS);have HP:=aa HP;cases tk
 refine ?X;rotate_left;refine ?J
 case' X=>rw[aq (by decide)]
 case' J=>rw[aB rfl]
 case' X|J=>delta bR;go_in;go_wp2_with fail;refine HP.out.mono ?_;rintro r w1 ⟨rfl,h1⟩;obtain⟨la,lc,h2⟩:=bh h1;have hE:=cH (show(ae c).length=24 from rfl) cv ha vb pb sb y.mark y.mt y.ml;have f30:=(h2.ar 0 rfl).fM hE.len 30 rfl hE.p;have HS:=aa h1;have de:=aa (h2.pull 3 rfl);clear h1 h2 hE;go_wp2_with fail;refine(J3.out _ _ de.out).kq HS λw2 HS=>?_;clear f30 de;go_wp2_with fail
 case' X=>refine(AY.out _ HS.out).kh λw3 HS=>?_;go_wp2_with fail;refine aV (fV rfl _ _ _) rfl ?_
 case' J=>refine(xT.out _ HS.out).kh λw3 HS=>?_;go_wp2_with fail;go_end0
 case' X|J=>exact⟨rfl,HS.out⟩
def mP (w op):ba 194 #[I op] w (.bool (decide (op=11∨op=12))):=by
 by_cases h1:op=11
 ·have e1:(op==11)=true:=by simpa using h1
  rw[eP (p:=op=11∨op=12) (.inl h1)];clear h1;delta ba;go_in;go_wp2;go_ret;exact⟨rfl,Fr.refl _ _⟩
 ·have e1:(op==11)=false:=by simpa using h1
  by_cases h2:op=12
  ·have e2:(op==12)=true:=by simpa using h2
   rw[eP (p:=op=11∨op=12) (.inr h2)];clear h1 h2;delta ba;go_in;go_wp2;go_ret;exact⟨rfl,Fr.refl _ _⟩
  ·have e2:(op==12)=false:=by simpa using h2
   rw[cW (p:=op=11∨op=12) (by omega)];clear h1 h2;delta ba;go_in;go_wp2;go_ret;exact⟨rfl,Fr.refl _ _⟩
def zq37:(∀{w0 w R c}(aE:Y.Ok c){aw seq b vb pb sb cv args}(ha:args.length=4){x}(h:gE c x)(hk:16≤X.iE x x.i.b)(hS:Sep w0 w (aQ c aw seq b vb pb sb cv args x::R)),bR 184 #[O b] w w0 (aQ c aw seq b vb pb sb cv args (X.fail 44 0 x)::R))∧(∀{w0 w R c}(aE:Y.Ok c){aw seq b vb pb sb cv args}(ha:args.length=4){x}(h:gE c x)(hk:¬16≤X.iE x x.i.b)(j_:x.i.op≠10)(hS:Sep w0 w (aQ c aw seq b vb pb sb cv args x::R)),bR 184 #[O b] w w0 (aQ c aw seq b vb pb sb cv args (X.jc c (at_ c 10 (X.iE x x.i.b) 0) x)::R))∧(∀{w0 w R c}(aE:Y.Ok c){aw seq b vb pb sb cv args}(ha:args.length=4){x}(h:gE c x)(hk:¬16≤X.iE x x.i.b)(j_:x.i.op=10)(hp:c.w-x.writes<bV x.i.op)(hS:Sep w0 w (aQ c aw seq b vb pb sb cv args x::R)),bR 184 #[O b] w w0 (aQ c aw seq b vb pb sb cv args (X.fail 42 0 x)::R))∧(∀{w0 w R c}(aE:Y.Ok c){aw seq b vb pb sb cv args}(ha:args.length=4){x}(h:gE c x)(hk:¬16≤X.iE x x.i.b)(j_:x.i.op=10)(hp:¬c.w-x.writes<bV x.i.op)(hS:Sep w0 w (aQ c aw seq b vb pb sb cv args x::R))(y)(hy:y={x with writes:=x.writes+bV x.i.op}),bR 184 #[O b] w w0 (aQ c aw seq b vb pb sb cv args {y with w:=P.cU y.w (at_ c 10 (X.iE x x.i.b) 0) (X.iE y y.i.a)}::R))∧(∀{w0 w R c}(aE:Y.Ok c){aw seq b vb pb sb cv args}(ha:args.length=4){x}(h:gE c x)(B Wd lf)(hS:Sep w0 w (aQ c aw seq b vb pb sb cv args x::R))(kn)(j9:X.block c x=(B,Wd,false))(nF:aS.W.get x.w (at_ c 11 B 0)=(lf,kn)),bR 185 #[O b] w w0 (aQ c aw seq b vb pb sb cv args (X.fail 44 0 x)::R))∧(∀{w0 w R c}(aE:Y.Ok c){aw seq b vb pb sb cv args}(ha:args.length=4){x}(h:gE c x)(B Wd lf)(hS:Sep w0 w (aQ c aw seq b vb pb sb cv args x::R))(j9:X.block c x=(B,Wd,true)),(∀(nF:aS.W.get x.w (at_ c 11 B 0)=(lf,true))(Zd:(lf !=1)=true),bR 185 #[O b] w w0 (aQ c aw seq b vb pb sb cv args (X.fail 44 0 x)::R))∧(∀(gv)(nF:aS.W.get x.w (at_ c 11 B 0)=(lf,false))(AZ:aS.W.get x.w (at_ c 16 B Wd)=(gv,true))(jN:decide (x.i.op=11∨x.i.op=12)=true),bR 185 #[O b] w w0 (aQ c aw seq b vb pb sb cv args (X.jb c gv x)::R))∧(∀(gv)(nF:aS.W.get x.w (at_ c 11 B 0)=(lf,false))(AZ:aS.W.get x.w (at_ c 16 B Wd)=(gv,false))(jN:decide (x.i.op=11∨x.i.op=12)=true),bR 185 #[O b] w w0 (aQ c aw seq b vb pb sb cv args ({x with v:=Vw.word c B Wd x.v,waits:=true})::R))∧(∀(gv)(nF:aS.W.get x.w (at_ c 11 B 0)=(lf,true))(Zd:(lf !=1)=false)(AZ:aS.W.get x.w (at_ c 16 B Wd)=(gv,true))(jN:decide (x.i.op=11∨x.i.op=12)=true),bR 185 #[O b] w w0 (aQ c aw seq b vb pb sb cv args (X.jb c gv x)::R))∧(∀(gv)(nF:aS.W.get x.w (at_ c 11 B 0)=(lf,true))(Zd:(lf !=1)=false)(AZ:aS.W.get x.w (at_ c 16 B Wd)=(gv,false))(jN:decide (x.i.op=11∨x.i.op=12)=true),bR 185 #[O b] w w0 (aQ c aw seq b vb pb sb cv args ({x with v:=Vw.word c B Wd x.v,waits:=true})::R))∧(∀(nF:aS.W.get x.w (at_ c 11 B 0)=(lf,true))(Zd:(lf !=1)=false)(jN:decide (x.i.op=11∨x.i.op=12)=false),bR 185 #[O b] w w0 (aQ c aw seq b vb pb sb cv args (X.jb c 0 x)::R))∧(∀(nF:aS.W.get x.w (at_ c 11 B 0)=(lf,false))(jN:decide (x.i.op=11∨x.i.op=12)=false),bR 185 #[O b] w w0 (aQ c aw seq b vb pb sb cv args ({x with v:=Vw.live c B x.v,waits:=true})::R))):=by
 refine⟨?Z,?Y,?X,?J,?G,?D⟩
 case' D=>intro w0 w R c aE aw seq b vb pb sb cv args ha x h B Wd lf hS j9;refine⟨?V,?U,?g0,?g1,?g2,?g3,?g4⟩
 case' Z=>intro w0 w R c aE aw seq b vb pb sb cv args ha x h hk hS
 case' Y=>intro w0 w R c aE aw seq b vb pb sb cv args ha x h hk j_ hS
 case' X=>intro w0 w R c aE aw seq b vb pb sb cv args ha x h hk j_ hp hS
 case' J=>intro w0 w R c aE aw seq b vb pb sb cv args ha x h hk j_ hp hS y hy
 case' Z|Y|X|J=>obtain⟨kb,ub,eb,p4,L3,gb,ub0,ub1⟩:=jG h.aI h.ru h.ib
 case' Z=>
  have hd:decide (16≤ub)=true:=by unfold X.iE at hk;rw[gb]at hk;simpa using hk
  clear hk gb;have AY:=aa (fun(w':World) hS=>jC (w0:=w0) (w:=w') (R:=R) (c:=c) (aw:=aw) (seq:=seq) (b:=b) (vb:=vb) (pb:=pb) (sb:=sb) (cv:=cv) ha h 44 0 hS)
 case' Y|X|J=>have bQ:X.iE x x.i.b=ub:=by unfold X.iE;exact gb
 case' Y=>rw[bQ]at hk⊢
 case' X=>rw[bQ]at hk
 case' J=>rw[bQ]at hk⊢
 case' Y|X|J=>have hd:decide (16≤ub)=false:=by simpa using hk
 case' Y=>
  have o7:(x.i.op==10)=false:=by simpa using j_
  clear hk gb bQ j_;have xT:=aa (fun(w':World) hS=>zX (w0:=w0) (w:=w') (R:=R) aE (aw:=aw) (seq:=seq) (b:=b) (vb:=vb) (pb:=pb) (sb:=sb) (cv:=cv) ha h (at_ c 10 ub 0) hS)
 case' X=>
  have o7:(x.i.op==10)=true:=by simpa using j_
  have zW:=aa (fun(w':World) RR hS=>vB (w0:=w0) (w:=w') (R:=RR) aE (aw:=aw) (seq:=seq) (b:=b) (vb:=vb) (pb:=pb) (sb:=sb) (cv:=cv) ha h hp hS);clear hk gb bQ j_ hp
 case' J=>
  have o7:(x.i.op==10)=true:=by simpa using j_
  have zW:=aa (fun(w':World) RR hS=>sJ (w0:=w0) (w:=w') (R:=RR) aE (aw:=aw) (seq:=seq) (b:=b) (vb:=vb) (pb:=pb) (sb:=sb) (cv:=cv) ha h hp hS);have hY:=gE.lE aE h hp;rw[←hy]at hY zW;obtain⟨ka,ua,ea,si,va,ga,Qb,Qc⟩:=jG hY.aI hY.ru hY.ia;have rz:X.iE y y.i.a=ua:=by unfold X.iE;exact ga
  rw[rz];clear hk gb bQ j_ hp hy rz ga;have h_:=aa (λw=>cx w c aE 10 ub 0);generalize at_ c 10 ub 0=av at*
 case' Z|Y|X|J=>obtain⟨la,lc,h2⟩:=bh hS;have dQ:Hid (∀w' nv,Sep w0 w' (aJ b 255 (iN (fJ (ae c) cv args vb pb sb x.mark x.mt x.ml) (x).aI (ey (x) nv))::aU 0 26 1 nv (x).news.length (bC (x).news)::aJ vb 258 (Vw.eU (ae c) aw seq (x).v)::bE c seq pb (x).p::cw sb (x).w::R)→Sep w0 w' (aQ c aw seq b vb pb sb cv args (x)::R)):=aa (λw' nv h=>bF h)
 case' G=>intro w0 w R c aE aw seq b vb pb sb cv args ha x h B Wd lf hS kn j9 nF
 case' V=>intro nF Zd
 case' U=>intro gv nF AZ jN
 case' g1=>intro gv nF Zd AZ jN
 case' g0=>intro gv nF AZ jN
 case' g2=>intro gv nF Zd AZ jN
 case' g3=>intro nF Zd jN
 case' g4=>intro nF jN
 case' G|V|U|g1|g0|g2|g3|g4=>have tN:=aa (fun(w':World) RR hS=>fE (w0:=w0) (w:=w') (R:=RR) aE (aw:=aw) (seq:=seq) (b:=b) (vb:=vb) (pb:=pb) (sb:=sb) (cv:=cv) ha h hS)
 case' G|V=>have AY:=aa (fun(w':World) hS=>jC (w0:=w0) (w:=w') (R:=R) (c:=c) (aw:=aw) (seq:=seq) (b:=b) (vb:=vb) (pb:=pb) (sb:=sb) (cv:=cv) ha h 44 0 hS);obtain⟨la,lc,h2⟩:=bh hS;have dQ:Hid (∀w' nv,Sep w0 w' (aJ b 255 (iN (fJ (ae c) cv args vb pb sb x.mark x.mt x.ml) (x).aI (ey (x) nv))::aU 0 26 1 nv (x).news.length (bC (x).news)::aJ vb 258 (Vw.eU (ae c) aw seq (x).v)::bE c seq pb (x).p::cw sb (x).w::R)→Sep w0 w' (aQ c aw seq b vb pb sb cv args (x)::R)):=aa (λw' nv h=>bF h)
 case' U|g1|g0|g2|g3|g4=>have nX:=aa (λw'=>mP w' x.i.op);rw[jN]at nX
 case' U|g1=>have u9:=h.wv (at_ c 16 B Wd);rw[AZ]at u9;have Qe:=aa (fun(w':World) hS=>qB (w0:=w0) (w:=w') (R:=R) aE (aw:=aw) (seq:=seq) (b:=b) (vb:=vb) (pb:=pb) (sb:=sb) (cv:=cv) ha h gv u9 hS)
 case' g0|g2=>have UZ:=aa (fun(w':World) RR hS=>B9 (w0:=w0) (w:=w') (R:=RR) vb c aE aw seq x.v B Wd hS)
 case' U|g1|g0|g2=>have Du:=aa (λw=>cx w c aE 16 B Wd);have Qh:=aa AZ;obtain⟨av,tq⟩:∃av,at_ c 16 B Wd=av:=⟨_,rfl⟩;rw[tq]at Du Qh
 case' U|g1=>clear AZ tq u9 jN
 case' g0|g2=>clear AZ tq jN
 case' U|g1|g0|g2=>unfold aY at Du
 case' g3=>have Qe:=aa (fun(w':World) hS=>qB (w0:=w0) (w:=w') (R:=R) aE (aw:=aw) (seq:=seq) (b:=b) (vb:=vb) (pb:=pb) (sb:=sb) (cv:=cv) ha h 0 (by omega) hS);clear jN
 case' g4=>have UZ:=aa (fun(w':World) RR hS=>LB (w0:=w0) (w:=w') (R:=RR) vb c aE aw seq x.v B hS);clear jN
 case' U|g1|g0|g2|g3|g4=>have tS:Hid (∀w' nv,Sep w0 w' (aJ b 255 (iN (fJ (ae c) cv args vb pb sb x.mark x.mt x.ml) x.aI (ey x nv))::aU 0 26 1 nv x.news.length (bC x.news)::aJ vb 258 (Vw.eU (ae c) aw seq x.v)::bE c seq pb x.p::cw sb x.w::R)→Sep w0 w' (aQ c aw seq b vb pb sb cv args x::R)):=aa (λw' nv h=>bF h);obtain⟨la,lc,h2⟩:=bh hS
 case' U|g1=>have dQ:Hid (∀w' nv,Sep w0 w' (aJ b 255 (iN (fJ (ae c) cv args vb pb sb x.mark x.mt x.ml) (x).aI (ey (x) nv))::aU 0 26 1 nv (x).news.length (bC (x).news)::aJ vb 258 (Vw.eU (ae c) aw seq (x).v)::bE c seq pb (x).p::cw sb (x).w::R)→Sep w0 w' (aQ c aw seq b vb pb sb cv args (x)::R)):=aa (λw' nv h=>bF h)
 case' g0|g2=>have dQ:Hid (∀w' nv,Sep w0 w' (aJ b 255 (iN (fJ (ae c) cv args vb pb sb x.mark x.mt x.ml) ({x with v:=Vw.word c B Wd x.v,waits:=true}).aI (ey ({x with v:=Vw.word c B Wd x.v,waits:=true}) nv))::aU 0 26 1 nv ({x with v:=Vw.word c B Wd x.v,waits:=true}).news.length (bC ({x with v:=Vw.word c B Wd x.v,waits:=true}).news)::aJ vb 258 (Vw.eU (ae c) aw seq ({x with v:=Vw.word c B Wd x.v,waits:=true}).v)::bE c seq pb ({x with v:=Vw.word c B Wd x.v,waits:=true}).p::cw sb ({x with v:=Vw.word c B Wd x.v,waits:=true}).w::R)→Sep w0 w' (aQ c aw seq b vb pb sb cv args ({x with v:=Vw.word c B Wd x.v,waits:=true})::R)):=aa (λw' nv h=>bF h)
 case' g3=>have dQ:Hid (∀w' nv,Sep w0 w' (aJ b 255 (iN (fJ (ae c) cv args vb pb sb x.mark x.mt x.ml) (x).aI (ey (x) nv))::aU 0 26 1 nv (x).news.length (bC (x).news)::aJ vb 258 (Vw.eU (ae c) aw seq (x).v)::bE c seq pb (x).p::cw sb (x).w::R)→Sep w0 w' (aQ c aw seq b vb pb sb cv args (x)::R)):=aa (λw' nv h=>bF h)
 case' g4=>have dQ:Hid (∀w' nv,Sep w0 w' (aJ b 255 (iN (fJ (ae c) cv args vb pb sb x.mark x.mt x.ml) ({x with v:=Vw.live c B x.v,waits:=true}).aI (ey ({x with v:=Vw.live c B x.v,waits:=true}) nv))::aU 0 26 1 nv ({x with v:=Vw.live c B x.v,waits:=true}).news.length (bC ({x with v:=Vw.live c B x.v,waits:=true}).news)::aJ vb 258 (Vw.eU (ae c) aw seq ({x with v:=Vw.live c B x.v,waits:=true}).v)::bE c seq pb ({x with v:=Vw.live c B x.v,waits:=true}).p::cw sb ({x with v:=Vw.live c B x.v,waits:=true}).w::R)→Sep w0 w' (aQ c aw seq b vb pb sb cv args ({x with v:=Vw.live c B x.v,waits:=true})::R)):=aa (λw' nv h=>bF h)
 case' Z|Y|X|J|G|V|U|g1|g0|g2|g3|g4=>have hE:=cH (show(ae c).length=24 from rfl) cv ha vb pb sb x.mark x.mt x.ml;unfold lP at h2;simp only[za]at h2;generalize fJ (ae c) cv args vb pb sb x.mark x.mt x.ml=H at*;have HE:=aa hE;have HX:=aa h;have HS:=aa h2;clear hS h2 hE h
 case' Z|Y|X|J=>have hB:=(HS.ar 0 rfl).drew;have f57:=hB.cD HE.len HX.aI 57 rfl rfl;have rb:=(hB.cell (35+kb)).trans ((dM HE.len HX.aI _ p4).trans (cV L3));rw[eb]at f57;delta bR;go_in;go_wp2_with fail;refine bW [(1,[0,1,2,3,4,5,6,7,8,9,10])] (by kernel_rfl) ?_;simp only[zz]
 case' G|V=>have tS:=dQ
 case' g0|g2=>dsimp only at dQ
 case' g4=>dsimp only at dQ
 case' G|V|U|g1|g0|g2|g3|g4=>
  have h_:=aa (λw=>cx w c aE 11 B 0);have zY:=aa nF;have Ic:=aa j9;obtain⟨al,qm⟩:∃al,at_ c 11 B 0=al:=⟨_,rfl⟩;rw[qm]at h_ zY;clear nF j9 qm;unfold aY at h_;have aD:(ae c).length=24:=rfl;obtain⟨cs,j8⟩:∃cs,ae c=cs:=⟨_,rfl⟩;rw[j8]at aD h_;have qC:=aa j8;clear j8;delta bR;go_in;go_wp2_with fail;refine(tN.out _ _ (tS.out _ _ HS.out)).kk λw1 hf=>?_;rw[Ic.out];have HS:=aa (HS.fr0 hf);clear hf;dsimp only;go_wp2_with fail;have hB:=(HS.ar 0 rfl).drew;have f31:=hB.fM HE.len 31 rfl HE.out.w;have eJ:=dw (by rw[qC.out];exact aD) HE.out hB;rw[qC.out]at eJ;refine bW [(1,[0,1,2,3,4,5,6,7,8]),(2,[9]),(3,[10]),(0,[11,12,13,14,15])] (by kernel_rfl) ?_;simp only[zz];refine af ?_;repeat(first|(refine ak 58 _ b 0 cs _ rfl rfl rfl (aG eJ (by simp)) Tryz.underlying58 rfl (by rw[aD];kernel_rfl) ?_;simp only[Act.put,aZ,aL,aN])|go_big_quiet_step (fail)|quiet_step (fail))
  refine ax ?_;refine aA ?_;go_wp2_with fail;refine(h_.out _).kf HS.dr λw2 HF HS=>?_;go_wp2_with fail;refine⟨⟨⟨_,(by exact HF.out)⟩,rfl⟩,?_⟩;repeat((first|apply af|apply ag|apply ah);(repeat go_big_quiet_step(fail));apply ax)
  refine ao ?_;go_wp2_with fail;refine(jo (HS.pull 4 rfl) al).kk λw3 hf=>?_;rw[zY.out];have HS:=aa (HS.fr0 hf);clear hf;dsimp only;go_wp2_with fail
 case' Z|Y|X|J|G|V|U|g1|g0|g2|g3|g4=>
  repeat((first|apply af|apply ag|apply ah);(repeat go_big_quiet_step(fail));apply ax)
  refine aj ?_
 case' Z|Y|X|J=>have HS:=aa HS.drew;clear hB f57 rb
 case' Z=>go_wp2_with fail;refine(AY.out _ (dQ.out _ _ HS.out)).kh λw2 HS=>?_;go_wp2_with fail;refine aV (fV rfl _ _ _) rfl ?_
 case' Y|X|J=>have JU:ub≤15:=by simp at hd;omega
 case' Y|X=>have h_:=aa (λw=>cx w c aE 10 ub 0);have aD:(ae c).length=24:=rfl;unfold aY at*;generalize fB:db c=cf at*;clear fB;generalize ae c=cs at*;have hB:=(HS.ar 0 rfl);go_wp2_with(refine ay 58 _ rfl rfl _ 0 rfl cs _ (dw aD HE.out hB) Tryz.underlying58 rfl (by rw[aD];kernel_rfl) ?_);refine(h_.out _).kq HS λw2 HS=>?_;clear hB
 case' J=>unfold aY at h_;have aD:(ae c).length=24:=rfl;obtain⟨cs,j8⟩:∃cs,ae c=cs:=⟨_,rfl⟩;have hB:=(HS.ar 0 rfl);have eJ:=dw aD HE.out hB;rw[j8]at eJ aD h_;go_wp2_with(refine ay 58 _ rfl rfl _ 0 rfl cs _ eJ Tryz.underlying58 rfl (by rw[aD];kernel_rfl) ?_);refine(h_.out _).kq HS λw2 HS=>?_;clear hB eJ
 case' Y|X|J=>have f55:=(HS.ar 0 rfl).cD HE.len HX.aI 55 rfl rfl;go_wp2_with fail
 case' Y=>refine(xT.out _ (dQ.out _ _ HS.out)).kh λw3 HS=>?_;go_wp2_with fail;go_end0
 case' X=>refine(zW.out _ _ (dQ.out _ _ HS.out)).kh λw3 HS=>?_;go_wp2_with fail;refine aV (fV rfl _ _ _) rfl ?_
 case' J=>
  refine(zW.out _ _ (dQ.out _ _ HS.out)).kk λw3 hS=>?_;clear zW dQ HS HE HX h_ f55 o7 hd;go_wp2_with fail;obtain⟨la,lc,h2⟩:=bh hS;have dQ:Hid (∀w' nv,Sep w0 w' (aJ b 255 (iN (fJ (ae c) cv args vb pb sb y.mark y.mt y.ml) ({y with w:=P.cU y.w av ua}).aI (ey ({y with w:=P.cU y.w av ua}) nv))::aU 0 26 1 nv ({y with w:=P.cU y.w av ua}).news.length (bC ({y with w:=P.cU y.w av ua}).news)::aJ vb 258 (Vw.eU (ae c) aw seq ({y with w:=P.cU y.w av ua}).v)::bE c seq pb ({y with w:=P.cU y.w av ua}).p::cw sb ({y with w:=P.cU y.w av ua}).w::R)→Sep w0 w' (aQ c aw seq b vb pb sb cv args ({y with w:=P.cU y.w av ua})::R)):=aa (λw' nv h=>bF h);have hE:=cH (show(ae c).length=24 from rfl) cv ha vb pb sb y.mark y.mt y.ml;unfold lP at h2;simp only[za]at h2;generalize fJ (ae c) cv args vb pb sb y.mark y.mt y.ml=H at*;have HE:=aa hE;have HX:=aa hY;have HS:=aa h2;clear hS h2 hE hY;have hB:=(HS.ar 0 rfl).drew;have f31:=hB.fM HE.len 31 rfl HE.out.w;have f56:=hB.cD HE.len HX.aI 56 rfl rfl;have ra:=(hB.cell (35+ka)).trans ((dM HE.len HX.aI _ si).trans (cV va));rw[ea]at f56;refine bW [(1,[0,1,2,3,4,5,6,7,8,9,10,11,12,13,14]),(3,[15])] (by kernel_rfl) ?_;simp only[zz];repeat((first|apply af|apply ag|apply ah);(repeat go_big_quiet_step(fail));apply ax)
  refine ao ?_;go_wp2_with fail;refine(HS.drew.call 4 rfl (λR hR=>iz hR (by have h1:=HX.out.dn;have h2:=HX.out.st;omega) av ua)).kk λw4 h1=>?_;simp only[zs]at h1;have HS:=aa h1;clear h1;go_wp2_with fail;refine aj ?_;go_wp2_with fail;refine aV (fV rfl _ _ _) rfl ?_
 case' G|V|U|g1|g0|g2|g3|g4=>clear hB f31 eJ HF
 case' G|V=>go_wp2_with fail;refine(AY.out _ (dQ.out _ _ HS.out)).kh λw4 HS=>?_;go_wp2_with fail;refine aV (fV rfl _ _ _) rfl ?_
 case' U|g1|g0|g2=>rw[qC.out]at Du
 case' U|g1|g0|g2|g3|g4=>have f55:=(HS.ar 0 rfl).cD HE.len HX.aI 55 rfl rfl;go_wp2_with fail;refine(nX.out _).kq HS λw4 HS=>?_;clear f55
 case' U|g1|g0|g2|g3=>go_wp2_with fail
 case' U|g1|g0|g2=>
  have hB:=(HS.ar 0 rfl).drew;have f31:=hB.fM HE.len 31 rfl HE.out.w;have eJ:=dw (by rw[qC.out];exact aD) HE.out hB;rw[qC.out]at eJ;refine bW [(1,[0,1,2,3,4,5,6,7,8,9]),(2,[10]),(3,[11]),(0,[12,13,14,15,16])] (by kernel_rfl) ?_;simp only[zz];refine af ?_;repeat(first|(refine ak 58 _ b 0 cs _ rfl rfl rfl (aG eJ (by simp)) Tryz.underlying58 rfl (by rw[aD];kernel_rfl) ?_;simp only[Act.put,aZ,aL,aN])|go_big_quiet_step (fail)|quiet_step (fail))
  refine ax ?_;refine aA ?_;go_wp2_with fail;refine(Du.out _).kf HS.dr λw5 HF HS=>?_;go_wp2_with fail;refine⟨⟨⟨_,(by exact HF.out)⟩,rfl⟩,?_⟩;repeat((first|apply af|apply ag|apply ah);(repeat go_big_quiet_step(fail));apply ax)
  refine ao ?_;go_wp2_with fail;refine(jo (HS.pull 4 rfl) av).kk λw6 hf=>?_;rw[Qh.out];have HS:=aa (HS.fr0 hf);clear hf;dsimp only;go_wp2_with fail;repeat((first|apply af|apply ag|apply ah);(repeat go_big_quiet_step(fail));apply ax)
  refine aj ?_;clear hB f31 eJ HF
 case' U|g1=>go_wp2_with fail;refine(Qe.out _ (tS.out _ _ HS.out)).kh λw7 HS=>?_
 case' g0|g2=>have f29:=(HS.ar 0 rfl).fM HE.len 29 rfl HE.out.v;go_wp2_with fail;refine(HS.call 2 rfl (λR hR=>UZ.out _ _ hR)).kk λw7 h1=>?_;simp only[zs]at h1;unfold ey at h1;have HS:=aa h1;clear h1 f29;have bQ:=HX.aI;obtain⟨f54,g54⟩:=(HS.ar 0 rfl).exf HE.len bQ 54 rfl rfl;have h3:=HS.set 0 rfl 54 (.bool true);simp only[aL,eK HE.len bQ,Nat.reduceSub,Nat.reduceLeDiff,aN]at h3;have eH:=aa h3;clear h3
 case' g3=>refine(Qe.out _ (tS.out _ _ HS.out)).kh λw7 HS=>?_
 case' U|g1|g0|g2|g3=>go_wp2_with fail;refine aV (fV rfl _ _ _) rfl ?_
 case' g4=>have f29:=(HS.ar 0 rfl).fM HE.len 29 rfl HE.out.v;go_wp2_with fail;refine(HS.call 2 rfl (λR hR=>UZ.out _ _ hR)).kk λw7 h1=>?_;simp only[zs]at h1;unfold ey at h1;have HS:=aa h1;clear h1 f29;have bQ:=HX.aI;obtain⟨f54,g54⟩:=(HS.ar 0 rfl).exf HE.len bQ 54 rfl rfl;have h3:=HS.set 0 rfl 54 (.bool true);simp only[aL,eK HE.len bQ,Nat.reduceSub,Nat.reduceLeDiff,aN]at h3;have eH:=aa h3;clear h3;go_wp2_with fail;go_end0
 case' Z|Y|X|G|V|U|g1|g3=>exact⟨rfl,HS.out⟩
 case' J=>exact⟨rfl,dQ.out _ _ HS.out⟩
 case' g0|g2|g4=>exact⟨rfl,dQ.out _ _ eH.out⟩
def L9:=@zq37.1
def L_:=@zq37.2.1
def Qf:=@zq37.2.2.1
def Ma:=@zq37.2.2.2.1
def Qg:=@zq37.2.2.2.2.1
def Fg{w0 w R c}(aE){aw seq b vb pb sb cv args}(ha){x}(h B Wd lf hS j9):=(@zq37.2.2.2.2.2 w0 w R c aE aw seq b vb pb sb cv args ha x h B Wd lf hS j9).1
def Ie{w0 w R c}(aE){aw seq b vb pb sb cv args}(ha){x}(h B Wd lf hS j9):=(@zq37.2.2.2.2.2 w0 w R c aE aw seq b vb pb sb cv args ha x h B Wd lf hS j9).2.1
def Ig{w0 w R c}(aE){aw seq b vb pb sb cv args}(ha){x}(h B Wd lf hS j9):=(@zq37.2.2.2.2.2 w0 w R c aE aw seq b vb pb sb cv args ha x h B Wd lf hS j9).2.2.1
def Ih{w0 w R c}(aE){aw seq b vb pb sb cv args}(ha){x}(h B Wd lf hS j9):=(@zq37.2.2.2.2.2 w0 w R c aE aw seq b vb pb sb cv args ha x h B Wd lf hS j9).2.2.2.1
def Ii{w0 w R c}(aE){aw seq b vb pb sb cv args}(ha){x}(h B Wd lf hS j9):=(@zq37.2.2.2.2.2 w0 w R c aE aw seq b vb pb sb cv args ha x h B Wd lf hS j9).2.2.2.2.1
def Mb{w0 w R c}(aE){aw seq b vb pb sb cv args}(ha){x}(h B Wd lf hS j9):=(@zq37.2.2.2.2.2 w0 w R c aE aw seq b vb pb sb cv args ha x h B Wd lf hS j9).2.2.2.2.2.1
def Mc{w0 w R c}(aE){aw seq b vb pb sb cv args}(ha){x}(h B Wd lf hS j9):=(@zq37.2.2.2.2.2 w0 w R c aE aw seq b vb pb sb cv args ha x h B Wd lf hS j9).2.2.2.2.2.2
def Cj {w0 w R c}(aE:Y.Ok c){aw seq b vb pb sb cv args}(ha:args.length=4){x}(h:gE c x)(hS:Sep w0 w (aQ c aw seq b vb pb sb cv args x::R)):
 bR 184 #[O b] w w0 (aQ c aw seq b vb pb sb cv args (X.root c x)::R):=by
 unfold X.root;by_cases hk:16≤X.iE x x.i.b
 ·rw[aB hk];exact L9 aE ha h hk hS
 ·rw[aq hk];by_cases j_:x.i.op=10
  ·rw[aB j_];have zS:X.lE c x=if c.w-x.writes<bV x.i.op then(X.fail 42 0 x,false)else({x with writes:=x.writes+bV x.i.op},true):=rfl
   by_cases hp:c.w-x.writes<bV x.i.op
   ·rw[zS,aB hp,aq (by simp)];exact Qf aE ha h hk j_ hp hS
   ·rw[zS,aq hp,aB rfl];exact Ma aE ha h hk j_ hp hS _ rfl
  ·rw[aq j_];exact L_ aE ha h hk j_ hS
def oU{w0 w R c}(aE:Y.Ok c){aw seq b vb pb sb cv args}(ha:args.length=4){x}(h:gE c x)(hS:Sep w0 w (aQ c aw seq b vb pb sb cv args x::R)):bR 185 #[O b] w w0 (aQ c aw seq b vb pb sb cv args (X.fq c x)::R):=by
 unfold X.fq;obtain⟨B,Wd,ok,j9⟩:∃B Wd ok,X.block c x=(B,Wd,ok):=⟨_,_,_,rfl⟩;obtain⟨lf,kn,nF⟩:∃lf kn,aS.W.get x.w (at_ c 11 B 0)=(lf,kn):=⟨_,_,rfl⟩;obtain⟨gv,gk,AZ⟩:∃gv gk,aS.W.get x.w (at_ c 16 B Wd)=(gv,gk):=⟨_,_,rfl⟩;rw[j9];dsimp only;rw[nF,AZ];dsimp only;cases ok
 refine ?Z;rotate_left;refine ?Y
 case' Z=>rw[aB (.inl rfl)];exact Qg aE ha h B Wd lf hS kn j9 nF
 by_cases hr:x.i.op=11∨x.i.op=12;refine ?X;rotate_left;refine ?J
 case' X=>have jN:=eP hr
 case' X=>
  cases kn
  refine ?G;rotate_left;refine ?D
 case' G=>rw[aq (by simp),aB hr]
 case' G=>
  cases gk
  ·rw[aq (by simp)];exact Ig aE ha h B Wd lf hS j9 gv nF AZ jN
  ·rw[aB rfl];exact Ie aE ha h B Wd lf hS j9 gv nF AZ jN
 case' D=>by_cases hl:lf=1;refine ?V;rotate_left;refine ?U
 case' V=>rw[aq (by simp[hl]),aB hr]
 case' V=>
  cases gk
  ·rw[aq (by simp)];exact Ii aE ha h B Wd lf hS j9 gv nF (by simpa using hl) AZ jN
  ·rw[aB rfl];exact Ih aE ha h B Wd lf hS j9 gv nF (by simpa using hl) AZ jN
 case' J=>have jN:=cW hr
 case' J=>
  cases kn
  refine ?g0;rotate_left;refine ?g1
 case' g1=>by_cases hl:lf=1;refine ?g2;rotate_left;refine ?g3
 case' U|g3=>rw[aB (.inr ⟨rfl,hl⟩)];exact Fg aE ha h B Wd lf hS j9 nF (by simpa using hl)
 case' g0=>rw[aq (by simp),aq hr,aq (by simp)];exact Mc aE ha h B Wd lf hS j9 nF jN
 rw[aq (by simp[hl]),aq hr,aB rfl];exact Mb aE ha h B Wd lf hS j9 nF (by simpa using hl) jN
