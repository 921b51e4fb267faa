/- A part of the proof. -/
import Derived.WalkKit
import Derived.WalkSpells
import Derived.WalkLawsBesides
import Derived.Lib.Hide
import Derived.Deep.RegionLaw
import Derived.Laws.AppendOwnNone
import Derived.Deep.Slices
import Derived.ChangeSame
import Derived.OrdersHeld
import Derived.Deep.QuietTactic
import Derived.BigQuiet
import Derived.Deep.RegionHeld3
import Derived.StillTailTactics
import Derived.Test.YtolkmchicplaoaaGreatChecked
import Derived.Deep.MidRow
import Derived.Deep.WholeRow
set_option linter.all false
namespace Go
theorem zg:(∀{α:Type}{a:α}{l:List α}{i:Nat},(a::l)[i+1]?=l[i]?)∧∀{α:Type}{a:α}{l:List α},(a::l)[0]?=some a:=⟨rfl,rfl⟩
theorem zs:(∀{α:Type}{a b:α}{l:List α},(a::l).set 0 b=b::l)∧∀{α:Type}{a b:α}{l:List α}{i:Nat},(a::l).set (i+1) b=a::l.set i b:=⟨rfl,rfl⟩
theorem ze:(∀{α:Type}{a:α}{l:List α},(a::l).eraseIdx 0=l)∧∀{α:Type}{a:α}{l:List α}{i:Nat},(a::l).eraseIdx (i+1)=a::l.eraseIdx i:=⟨rfl,rfl⟩
theorem zm:(∀{α β:Type}{f:α→β}{a:α}{l:List α},(a::l).map f=f a::l.map f)∧∀{α β:Type}{f:α→β},[].map f=[]:=⟨rfl,rfl⟩
theorem za:(∀{α:Type}{a:α}{l m:List α},(a::l)++m=a::(l++m))∧∀{α:Type}{l:List α},[]++l=l:=⟨rfl,rfl⟩
end Go
open Go.Proofs.Tryz
namespace Go
open Go.RowKit
abbrev ax:=@wpQuiet_nil
abbrev aq:=@if_neg
abbrev aZ:=@List.setIfInBounds_toArray
abbrev aL:=@List.set_cons_zero
abbrev aB:=@if_pos
abbrev aN:=@List.set_cons_succ
abbrev cy:=@List.getElem?_eq_getElem
abbrev cO:=@List.getD_eq_getElem?_getD
abbrev dE:=@List.getElem?_eq_some_iff
abbrev gw:=@List.getElem?_append_right
abbrev cW:=@decide_eq_false
abbrev aV:=@bodyPost_ret
abbrev cJ:=@List.getElem_mem
abbrev cF:=@List.length_set
abbrev dF:=@List.getElem?_set_ne
abbrev eD:=@List.set_append_right
abbrev dk:=@Value.slice.injEq
abbrev eW:=@List.getElem?_set_self
abbrev gm:=@List.getElem?_append_left
abbrev eE:=@List.length_append
abbrev dD:=@List.length_map
abbrev oz:=@World.ownsRow.lt
abbrev dT:=@List.length_cons
abbrev cE:=@Nat.zero_le
abbrev eO:=@Bool.and_eq_true
abbrev eP:=@decide_eq_true
abbrev eQ:=@Option.some.inj
abbrev dU:=@Int.toNat_natCast
abbrev dp:=@Nat.le_refl
abbrev gP:=@ByteArray.toList_eq
abbrev iW:=@Lib.run_eql_slice_nil
abbrev cG:=@World.size_alloc
abbrev gG:=@decide_eq_true_eq
abbrev eX:=@Option.some.injEq
abbrev k_:=@List.mem_or_eq_of_mem_set
abbrev nJ:=@List.eq_nil_of_length_eq_zero
abbrev dA:=@rounds_succ
abbrev iX:=@all_oneCell_toArray
abbrev lg:=@List.getElem?_eq_none
abbrev jO:=@List.mem_singleton
abbrev jE:=@List.getElem?_map
abbrev eA:=@info_parts
abbrev jP:=@World.ownsRow_nil
abbrev gn:=@List.getElem?_cons_zero
abbrev fT:=@Nat.le_trans
abbrev fV:=@results_none
abbrev jQ:=@List.mem_append
abbrev gQ:=@wp_loop_rounds
abbrev oA:=@List.take_of_length_le
abbrev ir:=@IntKind.wrap_u64
abbrev pN:=@List.getElem?_cons_succ
abbrev iu:=@Int.le_refl
abbrev pO:=@List.drop_eq_getElem_cons
abbrev kD:=@run_underlying
abbrev oB:=@List.mem_cons_of_mem
abbrev mB:=@List.flatMap_cons
abbrev pP:=@Nat.lt_of_lt_of_le
abbrev jF:=@Nat.zero_add
abbrev y_:=@List.nil_append
abbrev CR:=@List.cons_append
abbrev mC:=@List.all_eq_true
abbrev mD:=@List.length_nil
abbrev oC:=@of_decide_eq_true
abbrev oD:=@Result.andThen_ok
abbrev wj:=@List.take_succ_eq_append_getElem
abbrev pQ:=@World.ownsRow_made
abbrev jR:=@Int.tmod_eq_emod_of_nonneg
abbrev nK:=@List.length_zip
abbrev lh:=@Sem.run_bind
abbrev kE:=@List.map_set
abbrev oE:=@List.length_take
abbrev qO:=@List.getElem_of_mem
abbrev pR:=@wpList_store_mid
abbrev nL:=@Prod.mk.injEq
abbrev oF:=@List.mem_range
abbrev mE:=@List.mem_map
abbrev qP:=@List.append_assoc
abbrev wm:=@Array.getElem?_eq_some_iff
abbrev pS:=@List.map_append
abbrev sm:=@List.pairwise_cons
abbrev oG:=@List.mem_cons
abbrev lj:=@Nat.mul_one
abbrev wo:=@Nat.mul_le_mul_right
abbrev wq:=@World.block_lt_of_cell?
abbrev oH:=@Nat.succ_mul
abbrev oI:=@Nat.sub_self
abbrev oJ:=@Int.le_trans
abbrev so:=@List.getElem_set
abbrev wy:=@List.getElem_set_self
abbrev CS:=@List.findIdx?_eq_some_iff_getElem
abbrev wz:=@List.mem_of_getElem?
abbrev tU:=@List.getElem?_set
abbrev zb:=@List.eq_of_mem_replicate
abbrev zd:=@Nat.add_sub_cancel_left
abbrev tV:=@List.take_length
abbrev CU:=@Int.mul_le_mul_of_nonneg_right
abbrev CV:=@ChangeMaps.heap_setBlock_same
abbrev qQ:=@Sem.run_pure
abbrev wC:=@List.zip_cons_cons
abbrev wD:=@Bool.false_eq_true
abbrev po:=@List.map_cons
abbrev pq:=@Bool.false_or
abbrev jk:=@Ne.symm
abbrev sW:=@Classical.not_not
abbrev yI:=@Option.ne_none_iff_exists'
abbrev uK:=@List.set_append_left
abbrev jI:=@Int.tdiv_eq_ediv_of_nonneg
abbrev qR:=@DataW.trod_int
abbrev lL:=@wpOp_mono
abbrev sX:=@decide_eq_decide
abbrev px:=@Nat.mul_comm
abbrev sY:=@List.append_nil
abbrev uL:=@of_decide_eq_false
abbrev nY:=@beq_iff_eq
abbrev uM:=@Int.emod_lt_of_pos
abbrev yJ:=@decide_eq_false_iff_not
abbrev yK:=@List.getElem?_replicate
abbrev qS:=@Nat.lt_or_ge
abbrev qT:=@Nat.add_zero
abbrev fN:=@Nat.add_comm
abbrev yL:=@MapKept.run_getObj_map
abbrev qU:=@List.set_set
abbrev uN:=@List.ext_getElem?
abbrev yM:=@List.drop_eq_nil_of_le
abbrev uO:=@results_cell_row
abbrev py:=@Nat.mod_lt
abbrev uP:=@List.not_mem_nil
abbrev uQ:=@List.getElem_zip
abbrev uR:=@IntKind.wrap_i64
end Go
section
namespace Go.aS
open Go.RowKit
theorem xA (y:Int)(h0:0≤y)(h1:y<18446744073709551616):(BitVec.ofInt 64 y).toNat=y.toNat:=by
 rw[BitVec.toNat_ofInt];congr 1;exact Int.emod_eq_of_lt h0 (by simpa using h1)
theorem bf (n:Int)(h0: -9223372036854775808≤n)(h1:n≤9223372036854775807):IntKind.i64.wrap n=n:=by
 rw[uR];omega
theorem xB (x y:Int)(h0:0≤y)(h1:y≤9223372036854775807):
 bits .and .i64 x y=(((BitVec.ofInt 64 x).toNat&&&y.toNat:Nat):Int):=by
 have e:bits .and .i64 x y=IntKind.i64.wrap ((BitVec.ofInt 64 x&&&BitVec.ofInt 64 y).toNat:Int):=rfl;rw[e,BitVec.toNat_and,xA y h0 (by omega)];have hle:(BitVec.ofInt 64 x).toNat&&&y.toNat≤y.toNat:=Nat.and_le_right;exact bf _ (by omega) (by omega)
theorem GS (x y:Int)(h0:0≤y)(h1:y≤9223372036854775807):
 0≤bits .and .i64 x y∧bits .and .i64 x y≤y:=by
 rw[xB x y h0 h1];have hle:(BitVec.ofInt 64 x).toNat&&&y.toNat≤y.toNat:=Nat.and_le_right;omega
theorem uS (x m p:Nat)(hm:m=2^p)(hx:x≤9223372036854775807)(Kz:m≤9223372036854775807):
 bits .and .i64 (x:Int) ((m:Int)-1)=((x%m:Nat):Int):=by
 have hp:0<m:=by rw[hm];exact Nat.two_pow_pos p
 rw[xB _ _ (by omega) (by omega),xA _ (by omega) (by omega)];have e1:((x:Int)).toNat=x:=by omega
 have e2:((m:Int)-1).toNat=2^p-1:=by omega
 rw[e1,e2,Nat.and_two_pow_sub_one_eq_mod,hm]
structure Fr (fp:List Nat)(w w':World):Prop where
 os:w'.os=w.os
 tape:w'.tape=w.tape
 output:w'.output=w.output
 size:w.heap.size≤w'.heap.size
 block:∀k,k<w.heap.size→k∉fp→w'.heap[k]?=w.heap[k]?
theorem Fr.refl (fp:List Nat)(w:World):Fr fp w w:=⟨rfl,rfl,rfl,dp _,fun _ _ _=>rfl⟩
theorem Fr.trans {fp:List Nat}{a b c:World}(h:Fr fp a b)(k:Fr fp b c):Fr fp a c:=
 ⟨k.os.trans h.os,k.tape.trans h.tape,k.output.trans h.output,fT h.size k.size,
  fun i hi hn=>(k.block i (pP hi h.size) hn).trans (h.block i hi hn)⟩
theorem Fr.trans' {fp se:List Nat}{a b c:World}(h:Fr fp a b)(k:Fr se b c)(hs:∀x∈se,x∈fp∨a.heap.size≤x):Fr fp a c:=
 ⟨k.os.trans h.os,k.tape.trans h.tape,k.output.trans h.output,fT h.size k.size,
  fun i hi hn=>(k.block i (pP hi h.size) (fun hm=>by rcases hs i hm with h1|h1;exact hn h1;omega)).trans (h.block i hi hn)⟩
theorem Fr.mono {fp se:List Nat}{w w':World}(h:Fr fp w w')(hs:∀x∈fp,x∈se):Fr se w w':=
 ⟨h.os,h.tape,h.output,h.size,fun k hk hn=>h.block k hk (fun hm=>hn (hs k hm))⟩
theorem Fr.drew {fp:List Nat}{a w:World}(h:Fr fp a w):Fr fp a w.drew:=⟨h.os,h.tape,h.output,h.size,h.block⟩
theorem Fr.drewN {fp:List Nat}{a w:World}(h:Fr fp a w)(n:Nat):Fr fp a (w.drewN n):=⟨h.os,h.tape,h.output,h.size,h.block⟩
theorem Fr.lB {fp:List Nat}{w w':World}(h:Fr fp w w'):Fr fp w.drew w':=⟨h.os,h.tape,h.output,h.size,h.block⟩
theorem Fr.CW {fp:List Nat}{w w':World}(h:Fr fp w.drew w'):Fr fp w w':=⟨h.os,h.tape,h.output,h.size,h.block⟩
theorem Fr.alloc {fp:List Nat}{a w:World}(h:Fr fp a w)(o:Obj):Fr fp a (w.alloc o):=
 ⟨h.os,h.tape,h.output,fT h.size (by simp),fun k hk hn=>(Below.heap_alloc w o k (pP hk h.size)).trans (h.block k hk hn)⟩
theorem Fr.setCell {fp:List Nat}{a w:World}(h:Fr fp a w){p:Addr}(hp:p.block∈fp∨a.heap.size≤p.block)(u:Value):Fr fp a (w.setCell p u):=
 ⟨h.os,h.tape,h.output,fT h.size (by simp[World.setCell]),fun k hk hn=>
  (Below.heap_setCell w p u k (fun e=>by rcases hp with hp|hp;exact hn (e▸hp);omega)).trans (h.block k hk hn)⟩
theorem Fr.grown {fp:List Nat}{a w w':World}{row:Option Nat}(h:Fr fp a w)(hg:w.grownBy w' row)(hr:∀k,row=some k→k∈fp∨a.heap.size≤k):Fr fp a w':=
 ⟨hg.os.trans h.os,hg.tape.trans h.tape,hg.output.trans h.output,fT h.size hg.size,
  fun k hk hn=>(hg.block k (pP hk h.size) (fun e=>by rcases hr k e.symm with h1|h1;exact hn h1;omega)).trans (h.block k hk hn)⟩
theorem Fr.N9 {w w':World}(h:Below w.heap.size w w')(fp:List Nat):Fr fp w w':=⟨h.os,h.tape,h.output,h.size,fun k hk _=>h.block k hk⟩
theorem Fr.below {B:Nat}{fp:List Nat}{w w':World}(h:Fr fp w w')(hB:B≤w.heap.size)(hf:∀x∈fp,B≤x):Below B w w':=
 ⟨h.os,h.tape,h.output,h.size,fun k hk=>h.block k (by omega) (fun hm=>by have:=hf k hm;omega)⟩
theorem Fr.cell {fp:List Nat}{w w':World}(h:Fr fp w w'){a:Addr}{v:Value}(hc:w.cell? a=some v)(hn:a.block∉fp):w'.cell? a=some v:=
 (World.cell?_of_block (w:=w) (h.block _ (wq w a hc) hn)).trans hc
theorem Fr.az {fp:List Nat}{w w':World}(h:Fr fp w w'){a:Addr}{b:Bool}(hc:w.frozen? a=b)(hl:a.block<w.heap.size)(hn:a.block∉fp):w'.frozen? a=b:=
 (World.frozen?_of_block (w:=w) (h.block _ hl hn)).trans hc
def cB (w:World)(k:Nat)(T:TypeId)(cs:List Value):Prop:=w.heap[k]?=some (.cells cs.toArray T (0,0))
theorem cB.lt {w:World}{k:Nat}{T:TypeId}{cs:List Value}(h:cB w k T cs):k<w.heap.size:=(wm.1 h).1
theorem cB.cell {w:World}{k:Nat}{T:TypeId}{cs:List Value}(h:cB w k T cs)(j:Nat):w.cell? ⟨k,j,none⟩=cs[j]?:=by
 simp only[World.cell?,show w.heap[k]?=_ from h];simp
theorem cB.az {w:World}{k:Nat}{T:TypeId}{cs:List Value}(h:cB w k T cs)(j:Nat):w.frozen? ⟨k,j,none⟩=false:=by
 simp only[World.frozen?,show w.heap[k]?=_ from h];simp
theorem cB.fr {fp:List Nat}{w w':World}{k:Nat}{T:TypeId}{cs:List Value}(h:cB w k T cs)(f:Fr fp w w')(hn:k∉fp):cB w' k T cs:=
 (f.block k h.lt hn).trans h
theorem cB.grown {w w':World}{row:Option Nat}{k:Nat}{T:TypeId}{cs:List Value}(h:cB w k T cs)(f:w.grownBy w' row)(hn:some k≠row):cB w' k T cs:=
 (f.block k h.lt hn).trans h
theorem cB.drew {w:World}{k:Nat}{T:TypeId}{cs:List Value}(h:cB w k T cs):cB w.drew k T cs:=h
theorem cB.drewN {w:World}{k:Nat}{T:TypeId}{cs:List Value}(h:cB w k T cs)(n:Nat):cB (w.drewN n) k T cs:=h
theorem cB.alloc {w:World}{k:Nat}{T:TypeId}{cs:List Value}(h:cB w k T cs)(o:Obj):cB (w.alloc o) k T cs:=
 (Below.heap_alloc w o k h.lt).trans h
theorem cB.new (w:World)(T:TypeId)(cs:List Value):cB (w.alloc (.cells cs.toArray T)) w.heap.size T cs:=heap_alloc_new w _
theorem cB.set {w:World}{k:Nat}{T:TypeId}{cs:List Value}(h:cB w k T cs)(j:Nat)(u:Value):cB (w.setCell ⟨k,j,none⟩ u) k T (cs.set j u):=by
 unfold cB at*;simp[World.setCell,Array.getElem?_modify,h]
theorem cB.oK {w:World}{k:Nat}{T:TypeId}{cs:List Value}(h:cB w k T cs){a:Addr}(u:Value)(hn:k≠a.block):cB (w.setCell a u) k T cs:=
 (Below.heap_setCell w a u k hn).trans h
theorem rQ {cs:List Value}(h:cs.length=24):∃x0 x1 x2 x3 x4 x5 x6 x7 x8 x9 l4 l5 l6 l7 l8 l9 l_ mf mh mi mj mm mo mq,cs=[x0,x1,x2,x3,x4,x5,x6,x7,x8,x9,l4,l5,l6,l7,l8,l9,l_,mf,mh,mi,mj,mm,mo,mq]:=by
 match cs,h with
 |[x0,x1,x2,x3,x4,x5,x6,x7,x8,x9,l4,l5,l6,l7,l8,l9,l_,mf,mh,mi,mj,mm,mo,mq],_=>exact⟨x0,x1,x2,x3,x4,x5,x6,x7,x8,x9,l4,l5,l6,l7,l8,l9,l_,mf,mh,mi,mj,mm,mo,mq,rfl⟩
theorem cX {fp:List Nat}{w w':World}{base:Nat}{e:TypeId}{size:Nat}{v:Value}{n:Nat}{xs:List Value}
 (h:w.ownsRow base e size v n xs)(f:Fr fp w w')(hn:∀k,v.ownBlock=some k→k∉fp):w'.ownsRow base e size v n xs:=by
 refine⟨h.1,?_⟩;rcases h.2 with h2|⟨g,cap,cur,rfl,hb,hg,rest⟩
 ·exact .inl h2
 ·exact .inr ⟨g,cap,cur,rfl,hb,(f.block g (wm.1 hg).1 (hn g rfl)).trans hg,rest⟩
theorem bz {w:World}{base:Nat}{e:TypeId}{size:Nat}{v:Value}{n:Nat}{xs:List Value}
 (h:w.ownsRow base e size v n xs){a:Addr}(hn:v.ownBlock≠some a.block)(u:Value):(w.setCell a u).ownsRow base e size v n xs:=by
 refine⟨h.1,?_⟩;rcases h.2 with h2|⟨g,cap,cur,rfl,hb,hg,rest⟩
 ·exact .inl h2
 ·refine .inr ⟨g,cap,cur,rfl,hb,?_,rest⟩;rw[Below.heap_setCell _ _ _ _ (fun e=>hn (by simp[Value.ownBlock,e]))];exact hg
theorem ix {w:World}{base:Nat}{e:TypeId}{size:Nat}{g n cap:Nat}{xs:List Value}
 (h:w.ownsRow base e size (.slice (some ⟨g,0,none⟩) n cap) n xs)(j:Nat)(u:Value):
 (w.setCell ⟨g,j,none⟩ u).ownsRow base e size (.slice (some ⟨g,0,none⟩) n cap) n (xs.set j u):=by
 refine⟨by simpa using h.1,?_⟩;rcases h.2 with h2|⟨g',tW,cur,e1,hb,hg,h1,h2,h3,h4⟩
 ·simp at h2
 ·simp only[dk,eX,Addr.mk.injEq,and_true]at e1;obtain⟨rfl,_,rfl⟩:=e1;refine .inr ⟨g,cap,cur.setIfInBounds j u,rfl,hb,?_,h1,h2,by simpa using h3,?_⟩
  ·simp[World.setCell,Array.getElem?_modify,hg]
  ·simp[List.take_set,h4]
theorem aH {w:World}{base:Nat}{e:TypeId}{size:Nat}{g n cap:Nat}{xs:List Value}
 (h:w.ownsRow base e size (.slice (some ⟨g,0,none⟩) n cap) n xs)(j:Nat)(u:Value)(hj:xs[j]?=some u):w.cell? ⟨g,j,none⟩=some u:=by
 have:=h.cells (g:=g) rfl j u hj;simpa[Addr.add_lit]using this
theorem bw {w:World}{base:Nat}{e:TypeId}{size:Nat}{g n cap:Nat}{xs:List Value}
 (h:w.ownsRow base e size (.slice (some ⟨g,0,none⟩) n cap) n xs)(j:Nat):w.frozen? ⟨g,j,none⟩=false:=by
 rcases h.2 with h2|⟨g',tW,cur,e1,hb,hg,h1,h2,h3,h4⟩
 ·simp at h2
 ·simp only[dk,eX,Addr.mk.injEq,and_true]at e1;obtain⟨rfl,_,rfl⟩:=e1;simp[World.frozen?,hg]
theorem bg {w:World}{base:Nat}{e:TypeId}{size:Nat}{v:Value}{n:Nat}{xs:List Value}
 (h:w.ownsRow base e size v n xs):(v= .slice none 0 0∧n=0)∨∃g cap,v= .slice (some ⟨g,0,none⟩) n cap∧g<w.heap.size∧base≤g∧n≤cap∧cap≤maxLen:=by
 rcases h.2 with h2|⟨g,cap,cur,rfl,hb,hg,h1,h2,h3,h4⟩
 ·exact .inl h2
 ·exact .inr ⟨g,cap,rfl,(wm.1 hg).1,hb,h1,h2⟩
end Go.aS
end
section
namespace Go.aS
open Go.RowKit
section
variable {P:Program} (w:World)
theorem mU (base:Nat)(t ty e:TypeId)(i:TypeInfo)(z:Value)(size bytes:Nat)(ht:P.underlying t=some (.slice e))(hi:P.info? e=some i)(hz:i.zero=some z)
 (oL:i.size=size)(KA:i.bytes=bytes)(N_:z.cells.size=size)(aD:0<size)
 (v:Value)(n:Nat)(xs:List Value)(dy:w.ownsRow base e size v n xs)
 (a:Addr)(m c:Nat)(news:List Value)(hl:news.length=m*size)(ng:∀j u,news[j]?=some u→w.cell? (a.add j)=some u)(h1:∀u∈news,u.oneCell'=true)
 (Oa:n+m≤maxLen)(mF:(n+m)*bytes≤140737488355328)(iy:base≤w.heap.size):
 ∃v' w',(Builtin.append_ #[t,t] ty #[v,.slice (some a) m c]).run P w= .ok v' w'∧w'.ownsRow base e size v' (n+m) (xs++news)∧w.grownBy w' v.ownBlock∧
  (v'= .slice none 0 0↔v= .slice none 0 0∧m=0)∧(v'.ownBlock=v.ownBlock∨v'.ownBlock=some w.heap.size):=by
 obtain⟨v',w',hr,ho,hg,hn⟩:=run_append_own (P:=P) w base t ty e i z size bytes ht hi hz oL KA N_ aD v n xs dy a m c news hl ng h1 Oa mF iy;refine⟨v',w',hr,ho,hg,hn,?_⟩;have ax8:n+m≤9223372036854775807:=by simp only[maxLen]at Oa;omega
 rcases dy.2 with⟨rfl,rfl⟩|⟨g,cap,cur,rfl,hbg,jj,Sv,Jv,j8,aw9⟩
 ·by_cases hm:m=0
  ·have:=hn.2 ⟨rfl,hm⟩;rw[this];exact .inl rfl
  ·have Ew:=run_append_nil (P:=P) w t ty e i z ht hi hz a m c news (by rw[oL];exact hl) ng (by omega) (by omega) (by rw[KA];have hb:=mF;simp only[jF]at hb;omega);rw[Ew]at hr;injection hr with e1 e2;rw[←e1];exact .inr rfl
 ·by_cases xD:n+m≤cap
  ·obtain⟨w2,Ew,_⟩:=run_append_fits (P:=P) w base t ty e i size ht hi oL g n cap xs dy a m c news hl ng h1 xD;rw[Ew]at hr;injection hr with e1 e2;rw[←e1];exact .inl rfl
  ·have Ew:=run_append_grow (P:=P) w t ty e i z ht hi hz ⟨g,0,none⟩ n cap xs (by rw[oL];exact dy.1) (dy.cells (g:=g) rfl) a m c news (by rw[oL];exact hl) ng (by omega) (by omega)
    (by rw[KA];exact growslice_fits (by omega) mF)
   rw[Ew]at hr;injection hr with e1 e2;rw[←e1];exact .inr rfl
theorem KC (cs:List Value)(e:TypeId):∀j u,cs[j]?=some u→(w.alloc (.cells cs.toArray e)).cell? ((⟨w.heap.size,0,none⟩:Addr).add j)=some u:=by
 intro j u h;have:=(cB.new w e cs).cell j;simp only[Addr.add_lit,jF]at*;rw[this,h]
theorem Tn {o:Oper}{a:Act}{K:Act→World→Prop}{Q:Exit→Act→World→Prop}(s x:Operand)(t:TypeId)
 (ho:o.op= .call {callee:= .builtin .append,args:=#[s,x],argTypes:=#[t,t]})
 (base:Nat) (e:TypeId) (i:TypeInfo) (z:Value) (size bytes:Nat) (ht:P.underlying t=some (.slice e)) (hi:P.info? e=some i) (hz:i.zero=some z)
 (oL:i.size=size) (KA:i.bytes=bytes) (N_:z.cells.size=size) (aD:0<size)
 (v:Value) (n:Nat) (xs:List Value) (hs:a.eval s=v) (dy:w.ownsRow base e size v n xs)
 (cs:List Value) (ex:TypeId) (bk:Nat) (hx:a.eval x= .slice (some ⟨bk,0,none⟩) 1 1) (j9:w.heap.size=bk) (hl:cs.length=size) (h1:∀u∈cs,u.oneCell'=true)
 (Oa:n+1≤maxLen) (mF:(n+1)*bytes≤140737488355328) (iy:base≤w.heap.size)
 (h:∀g c' w',w'.ownsRow base e size (.slice (some ⟨g,0,none⟩) (n+1) c') (n+1) (xs++cs)→(w.alloc (.cells cs.toArray ex)).grownBy w' v.ownBlock→(v.ownBlock=some g∨g=w.heap.size+1)→n+1≤c'→c'≤maxLen→K (a.put o.dst (.slice (some ⟨g,0,none⟩) (n+1) c')) w'):
 o.wp P a (w.alloc (.cells cs.toArray ex)) K Q:=by
 subst j9;obtain⟨v',w',hr,h2,h3,h4,h5⟩:=mU (P:=P) (w.alloc (.cells cs.toArray ex)) base t o.type e i z size bytes ht hi hz oL KA N_ aD v n xs (dy.alloc _) ⟨w.heap.size,0,none⟩ 1 1 cs
  (by omega) (KC w cs ex) h1 Oa mF (by simp;omega)
 unfold Oper.wp execOp;simp only[ho,resolve,invoke,builtin,lh,qQ,oD,List.map_toArray,zm,hs,hx,hr];rcases bg h2 with⟨e0,_⟩|⟨g,c',rfl,nF,_,h6,h7⟩
 ·have:=(h4.1 e0).2;omega
 ·refine h g c' w' h2 h3 ?_ h6 h7;rcases h5 with h5|h5
  ·exact .inl h5.symm
  ·simp[Value.ownBlock]at h5;exact .inr h5
theorem sq {ops:Array Oper}{rest:List Oper}{o:Oper}{a:Act}{Q:Exit→Act→World→Prop}(mV:o.guard=none)(s x:Operand)(t:TypeId)
 (ho:o.op= .call {callee:= .builtin .append,args:=#[s,x],argTypes:=#[t,t]})
 (base:Nat) (e:TypeId) (i:TypeInfo) (z:Value) (size bytes:Nat) (ht:P.underlying t=some (.slice e)) (hi:P.info? e=some i) (hz:i.zero=some z)
 (oL:i.size=size) (KA:i.bytes=bytes) (N_:z.cells.size=size) (aD:0<size)
 (v:Value) (n:Nat) (xs:List Value) (hs:a.eval s=v) (dy:w.ownsRow base e size v n xs)
 (cs:List Value) (ex:TypeId) (bk:Nat) (hx:a.eval x= .slice (some ⟨bk,0,none⟩) 1 1) (j9:w.heap.size=bk) (hl:cs.length=size) (h1:∀u∈cs,u.oneCell'=true)
 (Oa:n+1≤maxLen) (mF:(n+1)*bytes≤140737488355328) (iy:base≤w.heap.size)
 (h:∀g c' w',w'.ownsRow base e size (.slice (some ⟨g,0,none⟩) (n+1) c') (n+1) (xs++cs)→(w.alloc (.cells cs.toArray ex)).grownBy w' v.ownBlock→(v.ownBlock=some g∨g=w.heap.size+1)→n+1≤c'→c'≤maxLen→wpList P ops Q rest (a.put o.dst (.slice (some ⟨g,0,none⟩) (n+1) c')) w'):
 wpList P ops Q (o::rest) a (w.alloc (.cells cs.toArray ex)):=
 wpList_plain mV fun _ hK=>Tn w s x t ho base e i z size bytes ht hi hz oL KA N_ aD v n xs hs dy cs ex bk hx j9 hl h1 Oa mF iy fun g c' w' h2 h3 h4 h5 h6=>hK _ _ (h g c' w' h2 h3 h4 h5 h6)
theorem eC {ops:Array Oper}{rest:List Oper}{o:Oper}{a:Act}{Q:Exit→Act→World→Prop}(mV:o.guard=none)(s x:Operand)(t:TypeId)
 (ho:o.op= .call {callee:= .builtin .append,args:=#[s,x],argTypes:=#[t,t]})
 (base:Nat) (e:TypeId) (i:TypeInfo) (z:Value) (size bytes:Nat) (ht:P.underlying t=some (.slice e)) (hi:P.info? e=some i) (hz:i.zero=some z)
 (oL:i.size=size) (KA:i.bytes=bytes) (N_:z.cells.size=size) (aD:0<size)
 (v:Value) (n:Nat) (xs:List Value) (hs:a.eval s=v) (dy:w.ownsRow base e size v n xs)
 (ad:Addr) (m c:Nat) (news:List Value) (hx:a.eval x= .slice (some ad) m c) (hl:news.length=m*size) (ng:∀j u,news[j]?=some u→w.cell? (ad.add j)=some u) (h1:∀u∈news,u.oneCell'=true)
 (Oa:n+m≤maxLen) (mF:(n+m)*bytes≤140737488355328) (iy:base≤w.heap.size) (Gp:v≠ .slice none 0 0)
 (h:∀g c' w',w'.ownsRow base e size (.slice (some ⟨g,0,none⟩) (n+m) c') (n+m) (xs++news)→w.grownBy w' v.ownBlock→(v.ownBlock=some g∨g=w.heap.size)→n+m≤c'→c'≤maxLen→wpList P ops Q rest (a.put o.dst (.slice (some ⟨g,0,none⟩) (n+m) c')) w'):
 wpList P ops Q (o::rest) a w:=by
 refine wpList_plain mV fun K hK=>?_;obtain⟨v',w',hr,h2,h3,h4,h5⟩:=mU (P:=P) w base t o.type e i z size bytes ht hi hz oL KA N_ aD v n xs dy ad m c news hl ng h1 Oa mF iy;unfold Oper.wp execOp;simp only[ho,resolve,invoke,builtin,lh,qQ,oD,List.map_toArray,zm,hs,hx,hr];rcases bg h2 with⟨e0,_⟩|⟨g,c',rfl,nF,_,h6,h7⟩
 ·exact absurd (h4.1 e0).1 Gp
 ·refine hK _ _ (h g c' w' h2 h3 ?_ h6 h7);rcases h5 with h5|h5
  ·exact .inl h5.symm
  ·simp[Value.ownBlock]at h5;exact .inr h5
theorem ch {ops:Array Oper}{rest:List Oper}{o:Oper}{a:Act}{Q:Exit→Act→World→Prop}(mV:o.guard=none)(s x:Operand)(t:TypeId)
 (ho:o.op= .call {callee:= .builtin .append,args:=#[s,x],argTypes:=#[t,t]})
 (base:Nat) (e:TypeId) (i:TypeInfo) (z:Value) (size bytes:Nat) (ht:P.underlying t=some (.slice e)) (hi:P.info? e=some i) (hz:i.zero=some z)
 (oL:i.size=size) (KA:i.bytes=bytes) (N_:z.cells.size=size) (aD:0<size)
 (v:Value) (n:Nat) (xs:List Value) (hs:a.eval s=v) (dy:w.ownsRow base e size v n xs)
 (cs:List Value) (ex:TypeId) (bk:Nat) (hx:a.eval x= .slice (some ⟨bk,0,none⟩) 1 1) (j9:cB w bk ex cs) (hl:cs.length=size) (h1:∀u∈cs,u.oneCell'=true)
 (Oa:n+1≤maxLen) (mF:(n+1)*bytes≤140737488355328) (iy:base≤w.heap.size)
 (h:∀g c' w',w'.ownsRow base e size (.slice (some ⟨g,0,none⟩) (n+1) c') (n+1) (xs++cs)→w.grownBy w' v.ownBlock→(v.ownBlock=some g∨g=w.heap.size)→n+1≤c'→c'≤maxLen→wpList P ops Q rest (a.put o.dst (.slice (some ⟨g,0,none⟩) (n+1) c')) w'):
 wpList P ops Q (o::rest) a w:=by
 refine wpList_plain mV fun K hK=>?_;obtain⟨v',w',hr,h2,h3,h4,h5⟩:=mU (P:=P) w base t o.type e i z size bytes ht hi hz oL KA N_ aD v n xs dy ⟨bk,0,none⟩ 1 1 cs (by omega)
  (fun j u hj=>by simp only[Addr.add_lit,jF];rw[j9.cell j,hj]) h1 Oa mF iy
 unfold Oper.wp execOp;simp only[ho,resolve,invoke,builtin,lh,qQ,oD,List.map_toArray,zm,hs,hx,hr];rcases bg h2 with⟨e0,_⟩|⟨g,c',rfl,nF,_,h6,h7⟩
 ·have:=(h4.1 e0).2;omega
 ·refine hK _ _ (h g c' w' h2 h3 ?_ h6 h7);rcases h5 with h5|h5
  ·exact .inl h5.symm
  ·simp[Value.ownBlock]at h5;exact .inr h5
end
end Go.aS
end
section
namespace Go.aS
open Go.ChangeShapes Go.WideShapes Go.Deep
inductive LK where
 |int (k:IntKind)
 |bool
deriving DecidableEq
def LK.ok:LK→Value→Prop
 | .int k,v=>∃n,v= .int k n∧(Lit.int k n).wf=true
 | .bool,v=>∃b,v= .bool b
def uD (ks:List LK)(vs:List Value):Prop:=vs.length=ks.length∧∀(j:Nat) (k:LK),ks[j]?=some k→∃v,vs[j]?=some v∧k.ok v
theorem uD.nil:uD [] []:=⟨rfl,by simp⟩
theorem uD.app {k1 k2:List LK}{v1 v2:List Value}(h:uD k1 v1)(h':uD k2 v2):uD (k1++k2) (v1++v2):=by
 refine⟨by simp[h.1,h'.1],fun j k hj=>?_⟩;rcases qS j k1.length with hl|hl
 ·rw[gm hl]at hj;rw[gm (by rw[h.1];exact hl)];exact h.2 j k hj
 ·rw[gw hl]at hj;rw[gw (by rw[h.1];exact hl),h.1];exact h'.2 _ k hj
theorem uD.cons {k:LK}{ks:List LK}{vs:List Value}(h:uD (k::ks) vs):∃v r,vs=v::r∧k.ok v∧uD ks r:=by
 match vs,h with
 |[],h=>simp[uD]at h
 |v::r,h=>
  obtain⟨u,hu,hk⟩:=h.2 0 k rfl;simp only[gn,eX]at hu;subst hu;exact⟨v,r,rfl,hk,by have:=h.1;simp at this;exact this,fun j k' hj=>by simpa using h.2 (j+1) k' (by simpa using hj)⟩
theorem uD.none {vs:List Value}(h:uD [] vs):vs=[]:=nJ h.1
section
variable {H:Type} {enc:TypeId×Value→H} {P:Program} {w:World} {base:Nat} {spare:Nat→Bool} {held:Bool}
def dB {T:Type}(en:T→List Value)(n:Nat)(w:World)(v:Value)(l:List T):Prop:=
 ∃a cap,v= .slice a l.length cap∧l.length≤cap∧(l=[]∨∃x:Addr,a=some x∧x.block<w.heap.size∧∀i,(hi:i<l.length)→∀j u,(en l[i])[j]?=some u→w.cell? (x.add (i*n+j))=some u)
theorem dB.fr {T:Type}{en:T→List Value}{n:Nat}{w w':World}{v:Value}{l:List T}(h:dB en n w v l)(f:Fr [] w w'):dB en n w' v l:=by
 obtain⟨a,cap,e,XV,h⟩:=h;refine⟨a,cap,e,XV,h.imp id ?_⟩;rintro⟨x,e,hx,hc⟩;exact⟨x,e,pP hx f.size,fun i hi j u hj=>f.cell (hc i hi j u hj) (by simp)⟩
theorem dB.len {T:Type}{en:T→List Value}{n:Nat}{w:World}{v:Value}{l:List T}(h:dB en n w v l):∃a cap,v= .slice a l.length cap:=by
 obtain⟨a,cap,e,_⟩:=h;exact⟨a,cap,e⟩
theorem dB.at {T:Type}{en:T→List Value}{n:Nat}{w:World}{a:Option Addr}{m cap:Nat}{l:List T}(h:dB en n w (.slice a m cap) l){i:Nat}(hi:i<l.length):
 ∃x:Addr,a=some x∧x.block<w.heap.size∧(∀u,(en l[i])[0]?=some u→w.cell? (x.add (i*n))=some u)∧∀j u,(en l[i])[j+1]?=some u→w.cell? ⟨(x.add (i*n)).block,(x.add (i*n)).off+(j+1),none⟩=some u:=by
 obtain⟨a',tW,e,_,h⟩:=h;simp only[dk]at e;obtain⟨rfl,rfl,rfl⟩:=e;rcases h with h|⟨x,rfl,hx,hc⟩
 ·subst h;simp at hi
 ·refine⟨x,rfl,hx,fun u hu=>hc i hi 0 u hu,fun j u hj=>?_⟩;rw[←hc i hi (j+1) u hj];congr 1;by_cases h0:i*n=0
  ·simp[Addr.add,h0]
  ·simp[Addr.add,h0,Nat.add_assoc]
end
end Go.aS
end
section
namespace Go.aS
open Go.RowKit
def CX:Op→Bool
 | .move _| .assign _| .pick .. | .build .. | .load .. | .nilCheck _| .binOp .. | .unOp .. | .convert .. | .slice .. | .fieldAddr .. | .field .. | .indexAddr .. | .index .. | .extract .. =>true
 | .call {callee:= .builtin .len,.. }| .call {callee:= .builtin .cap,.. }| .call {callee:= .builtin .min,.. }| .call {callee:= .builtin .max,.. }=>true
 |_=>false
theorem wG {w':World}{n:Next}(r:Result Value)(h:(r.andThen fun a w'=>Result.ok (Next.value a) w')=Result.ok n w'):∃v,n= .value v:=by
 cases r with
 |ok v w1=>simp only[oD]at h;injection h with h1 h2;exact⟨v,h1.symm⟩
 |halt x w1=>simp only[Result.andThen_halt]at h;cases h
def gz (P:Program)(s:Sem Next):Prop:=∀w n w',s.run P w= .ok n w'→∃v,n= .value v
theorem gz.bind {P:Program}{α:Type}{x:Sem α}{f:α→Sem Next}(h:∀a,gz P (f a)):gz P (x>>=f):=by
 intro w n w' hr;rw[lh]at hr;cases hx:x.run P w with
 |ok a w1=>rw[hx]at hr;simp only[oD]at hr;exact h a _ _ _ hr
 |halt y w1=>rw[hx]at hr;simp only[Result.andThen_halt]at hr;cases hr
theorem gz.val {P:Program}(v:Value):gz P (pure (.value v)):=by
 intro w n w' h;simp only[qQ]at h;injection h with h1 h2;exact⟨v,h1.symm⟩
theorem gz.panic {P:Program}:gz P (runtimePanic .nilDeref):=by
 intro w n w' h;exact absurd h (by simp[runtimePanic])
theorem gz.ite {P:Program}{c:Prop} [Decidable c] {x y:Sem Next}(hx:gz P x)(hy:gz P y):gz P (if c then x else y):=by
 split<;>assumption
theorem KD (P:Program)(ρ:Operand→Value)(o:Oper)(hs:CX o.op=true):gz P (execOp ρ o):=by
 unfold CX at hs;split at hs
 case h_20=>cases hs
 all_goals(rename_i he;unfold execOp;rw[he];dsimp only)
 case h_6=>
  split
  ·exact .panic
  ·exact .panic
  ·exact .panic
  ·split
   ·exact .panic
   ·refine .bind fun a=> .bind fun b=>?_;split
    ·refine .bind fun _=> .val _
    ·exact .val _
   ·exact .val _
  ·exact .val _
 all_goals first
  |exact .val _
  |exact .bind fun _=> .val _
  |exact .bind fun _=> .ite (.val _) (.val _)
  |(intro w n w' h;simp only[resolve,lh,qQ,oD,invoke,builtin]at h;exact wG _ h)
structure rS (fp:List Nat)(w0:World) where
 wd:World
 fr:Fr fp w0 wd
instance SR (fp:List Nat)(w0:World):Nonempty (rS fp w0):=⟨⟨w0,Fr.refl _ _⟩⟩
section
variable {P:Program} {ops:Array Oper} {Q:Exit→Act→World→Prop}
theorem pz {C:World→Prop}{o:Oper}{a:Act}{K:Act→Prop}(hs:CX o.op=true)(h:if Region.wanted o (yielded ops a.tmps)then o.quiet P a C K else K (a.put o.dst undef)):
 ∃v,YieldsIf P ops C o v a∧K (a.put o.dst v):=by
 by_cases hw:Region.wanted o (yielded ops a.tmps)=true
 ·rw[aB hw]at h;obtain⟨v,h1,h2⟩:=h;refine⟨v,.inl ⟨hw,fun w hC=>?_⟩,h2⟩;have h3:=h1 w hC;unfold Oper.quietAt at h3;cases hr:(execOp a.eval o).run P w with
  |ok n w'=>
   obtain⟨u,rfl⟩:=KD P _ o hs w n w' hr;rw[hr]at h3;simp only[Oper.quietUpon]at h3;rw[h3.1,h3.2]
  |halt x w'=>rw[hr]at h3;simp only[Oper.quietUpon]at h3
 ·rw[aq hw]at h;exact⟨undef,.inr ⟨by simpa using hw,rfl⟩,h⟩
def iv (P:Program)(ops:Array Oper)(S:World→Prop)(Q:Exit→Act→World→Prop):List (Nat×List Oper)→Act→World→Prop
 |[],a,w=>Q .normal a w
 |(0,l)::r,a,w=>wpQuiet P ops (fun _=>True) (fun a'=>iv P ops S Q r a' w) l a
 |(1,l)::r,a,w=>wpQuiet P ops S (fun a'=>iv P ops S Q r a' w) l a
 |(4,l)::r,a,w=>wpQuiet P ops (fun w'=>∃x:rS [] w,w'=x.wd) (fun a'=>iv P ops S Q r a' w) l a
 |(2,l)::r,a,w=>wpList P ops (Exit.then (fun a' w'=>S w'∧iv P ops S Q r a' w') Q) l a w
 |(_,l)::r,a,w=>wpList P ops (Exit.then (iv P ops S Q r) Q) l a w
def pT (ops:Array Oper)(aW:Array Bool):Prop:=
 ∀j oj,ops[j]?=some oj→aW.getD j false=true→∀e∈oj.after,Region.binds .any e=true→aW.getD e.on false=true
theorem pT.set {aW:Array Bool}(h:pT ops aW){i:Nat}(hi:i∈Region.ready .any ops aW):pT ops (aW.setIfInBounds i true):=by
 obtain⟨_,oi,wH,yk⟩:=mem_ready.1 hi;intro j oj hj hl e he hb;refine getD_set_true ?_;by_cases yN:i=j
 ·subst yN;have:oj=oi:=eQ (hj.symm.trans wH);subst this;exact yk e he hb
 ·rw[getD_set_ne false yN]at hl;exact h j oj hj hl e he hb
def XW (ops:Array Oper):Nat→Nat→Nat→Bool
 |0,_,_=>false
 |f+1,j,i=>match ops[j]? with
  |none=>false
  |some oj=>oj.after.any fun e=>Region.binds .any e&&(e.on==i||XW ops f e.on i)
theorem zh {aW:Array Bool}(h:pT ops aW){i:Nat}:∀(f j:Nat),(∀oj,ops[j]?=some oj→∀e∈oj.after,Region.binds .any e=true→aW.getD e.on false=true)→
 XW ops f j i=true→aW.getD i false=true
 |0,_,_,ha=>by simp[XW]at ha
 |f+1,j,hp,ha=>by
  unfold XW at ha;split at ha
  ·cases ha
  ·rename_i oj hj;obtain⟨e,he,hb⟩:=Array.any_eq_true'.1 ha;simp only[eO,Bool.or_eq_true,nY]at hb;have h1:=hp oj hj e he hb.1;rcases hb.2 with h2|h2
   ·rw[←h2];exact h1
   ·exact zh h f e.on (fun ok hk e' he' Gs=>h e.on ok hk h1 e' he' Gs) h2
def GU (pU:List (Nat×List Nat))(i:Nat):Nat:=((pU.find? fun s=>s.2.contains i).map fun s=>if s.1=4 then 1 else s.1).getD 3
def oM (ops:Array Oper)(kd:Nat→Nat)(t:Nat):List Nat→Array Bool→(Array Bool→Bool)→Bool
 |[],aW,k=>k aW
 |i::r,aW,k=>
  (match ops[i]? with
   |none=>false
   |some oi=>
    if t≤1∨t=4 then
     kd i≤1&&CX oi.op&&(Region.ready .any ops aW).contains i&&Region.free .any ops aW i&&
      (t==0||(List.range ops.size).all fun j=>aW.getD j true||decide (kd j≤if t=4 then 1 else 2)||XW ops ops.size j i)
    else kd i==t&&Region.ready .any ops aW==[i])&&oM ops kd t r (aW.setIfInBounds i true) k
def qV (ops:Array Oper)(kd:Nat→Nat):Bool→List (Nat×List Nat)→Array Bool→Bool
 |_,[],aW=>(Region.ready .any ops aW).isEmpty
 |live,(t,l)::r,aW=>
  (match t with
   |0=>true
   |1=>live
   |2=>l.length==1
   |3=>l.length==1
   |4=>true
   |_=>false)&&oM ops kd t l aW (qV ops kd (if t==3 then false else if t==2 then true else live) r)
def qd (ops:Array Oper)(i:Nat):Oper:=ops.getD i default
def Gw (P:Program)(ops:Array Oper)(i:Nat)(K:Act→World→Prop)(a:Act)(w:World):Prop:=
 match ops[i]? with
 |none=>K a w
 |some o=>∃v,YieldsIf P ops (·=w) o v a∧K (a.put o.dst v) w
def mG (P:Program)(ops:Array Oper)(kd:Nat→Nat)(S:World→Prop)(Q:Exit→Act→World→Prop):Nat→Array Bool→Act→World→Prop
 |0,aW,a,w=>Region.ready .any ops aW=[]∧Q .normal a w
 |fuel+1,aW,a,w=>
  (Region.ready .any ops aW=[]→Q .normal a w)∧
  ∀i∈Region.ready .any ops aW,
   if kd i≤1 then Gw P ops i (mG P ops kd S Q fuel (aW.setIfInBounds i true)) a w
   else wpOp P ops Q i (fun a' w'=>(kd i=2→S w')∧mG P ops kd S Q fuel (aW.setIfInBounds i true) a' w') a w
theorem YieldsIf.ac1 {C D:World→Prop}{o:Oper}{v:Value}{a:Act}(h:YieldsIf P ops C o v a)(hd:∀w,D w→C w):YieldsIf P ops D o v a:=
 h.imp (fun⟨hw,hv⟩=>⟨hw,fun w NI=>hv w (hd w NI)⟩) id
theorem oN {kd:Nat→Nat}{S:World→Prop}:∀(fuel:Nat) (aW:Array Bool) (a:Act) (w:World),mG P ops kd S Q fuel aW a w→wpAny P .any ops Q fuel aW a w
 |0,_,_,_,h=>h
 |fuel+1,aW,a,w,h=>by
  refine⟨h.1,fun i hi=>?_⟩;have h2:=h.2 i hi;split at h2
  ·unfold Gw at h2;unfold wpOp;cases ho:ops[i]? with
   |none=>rw[ho]at h2;exact oN fuel _ _ _ h2
   |some o=>
    rw[ho]at h2;obtain⟨v,hy,hk⟩:=h2;have:=hy.wpOp (Q:=Q) ho (K:=wpAny P .any ops Q fuel (aW.setIfInBounds i true)) (w:=w) rfl (oN fuel _ _ _ hk);unfold wpOp at this;rw[ho]at this;exact this
  ·exact lL (fun a' w' h3=>oN fuel _ _ _ h3.2) h2
theorem uU {kd:Nat→Nat}{S C:World→Prop}{i:Nat}{oi:Oper}{v:Value}(hi:ops[i]?=some oi)(rX:kd i≤1)(qW:∀(j:Nat) (o:Oper) cs b,ops[j]?=some o→o.op≠ .select cs b)
 (hQ:∀c a w,¬Q (.panic c) a w):
 ∀(fuel:Nat) (aW:Array Bool) (a:Act) (w:World),C w→pT ops aW→
  (∀j oj,ops[j]?=some oj→j≠i→aW.getD j true=false→(∀e∈oj.after,Region.binds .any e=true→e.on≠i)→oi.apart ops oj=true)→
  (∀j,j<ops.size→aW.getD j true=false→kd j≤1∨(kd j≤2∧∀w,S w→C w)∨(∀w,C w)∨XW ops ops.size j i=true)→
  i∈Region.ready .any ops aW→YieldsIf P ops C oi v a→
  mG P ops kd S Q fuel (aW.setIfInBounds i true) (a.put oi.dst v) w→mG P ops kd S Q (fuel+1) aW a w:=by
 intro fuel;induction fuel with
 |zero=>
  intro aW a w nG _ _ _ hr hy H;refine⟨fun h=>(by rw[h]at hr;cases hr),fun j hj=>?_⟩;by_cases s9:j=i
  ·subst s9;rw[aB rX];unfold Gw;rw[hi];exact⟨v,YieldsIf.ac1 hy (fun w' e=>e▸nG),H⟩
  ·have:=ready_mono hj s9;rw[H.1]at this;cases this
 |succ fuel ih=>
  intro aW a w nG mr WD WE hr hy H;refine⟨fun h=>(by rw[h]at hr;cases hr),fun j hj=>?_⟩;by_cases s9:j=i
  ·subst s9;rw[aB rX];unfold Gw;rw[hi];exact⟨v,YieldsIf.ac1 hy (fun w' e=>e▸nG),H⟩
  ·have h1:=H.2 j (ready_mono hj s9);obtain⟨To,oj,Ob,yk⟩:=mem_ready.1 hj;have ac2:aW.getD i false=false:=by
    have h0:=(mem_ready.1 hr).1;rcases qS i aW.size with h'|h'
    ·simp[h']at h0⊢;exact h0
    ·simp[Array.getElem?_eq_none h']
   have am5:∀e∈oj.after,Region.binds .any e=true→e.on≠i:=fun e he hb heq=>by
    have h1:=yk e he hb;rw[heq,ac2]at h1;cases h1
   have hap:=WD j oj Ob s9 To am5;have Oc:∀k ok,ops[k]?=some ok→k≠i→(aW.setIfInBounds j true).getD k true=false→
    (∀e∈ok.after,Region.binds .any e=true→e.on≠i)→oi.apart ops ok=true:=fun k ok hk rX Gx kL=>by
    refine WD k ok hk rX ?_ kL;by_cases SS:j=k
    ·subst SS;exact To
    ·rw[getD_set_ne true SS]at Gx;exact Gx
   have Od:∀k,k<ops.size→(aW.setIfInBounds j true).getD k true=false→kd k≤1∨(kd k≤2∧∀w,S w→C w)∨(∀w,C w)∨XW ops ops.size k i=true:=fun k Tq Gx=>by
    refine WE k Tq ?_;by_cases SS:j=k
    ·subst SS;exact To
    ·rw[getD_set_ne true SS]at Gx;exact Gx
   have ac3:=mr.set hj;have GV:=ready_mono hr (jk s9);split at h1
   ·rename_i SU;rw[aB SU];unfold Gw at h1⊢;rw[Ob]at h1⊢;obtain⟨u,hu,hn⟩:=h1;obtain⟨g1,g2,g3⟩:=Oper.apart_spec hap;refine⟨u,hu.of_same (execOp_put oj (fun cs b=>qW j oj cs b Ob) a oi.dst v g1).symm (wanted_put oj a oi.dst v g1).symm,?_⟩;refine ih _ _ w nG ac3 Oc Od GV (hy.of_same (execOp_put oi (fun cs b=>qW i oi cs b hi) a oj.dst u g3) (wanted_put oi a oj.dst u g3)) ?_;rw[Array.setIfInBounds_comm _ _ s9,←Act.put_comm a v u g2];exact hn
   ·rename_i SU;rw[aq SU];have h2:=wpOp_putIf Ob hap (fun cs b=>qW i oi cs b hi) (fun cs b=>qW j oj cs b Ob) (fun c a w h=>absurd h (hQ c _ w)) hy h1;refine lL (fun a' w' h3=>⟨h3.2.1,?_⟩) h2;have am6:C w':=by
     rcases WE j (wm.1 Ob).1 To with sf|⟨uV,hC⟩|ac4|zT
     ·exact absurd sf SU
     ·exact hC _ (h3.2.1 (by omega))
     ·exact ac4 _
     ·have:=zh mr ops.size j (fun ok hk e he hb=>by
       have:ok=oj:=eQ (hk.symm.trans Ob);subst this;exact yk e he hb) zT
      rw[ac2]at this;cases this
    refine ih (aW.setIfInBounds j true) a' w' am6 ac3 Oc Od GV h3.1 ?_;rw[Array.setIfInBounds_comm _ _ s9];exact h3.2.2
def tX (ops:Array Oper)(pU:List (Nat×List Nat)):List (Nat×List Oper):=pU.map fun s=>(s.1,s.2.map (qd ops))
theorem _root_.Go.zz:(∀{o s},tX o s=s.map fun s=>(s.1,s.2.map (qd o)))∧(∀{o i},qd o i=o.getD i default)∧(∀{α β:Type}{f:α→β}{a:α}{l:List α},(a::l).map f=f a::l.map f)∧(∀{α β:Type}{f:α→β},[].map f=[])∧(∀{α:Type}{o:Array α}{i:Nat}{d:α},o.getD i d=o[i]?.getD d)∧(∀{α:Type}{l:List α}{i:Nat},l.toArray[i]?=l[i]?)∧(∀{α:Type}{a:α}{l:List α}{i:Nat},(a::l)[i+1]?=l[i]?)∧(∀{α:Type}{a:α}{l:List α},(a::l)[0]?=some a)∧∀{α:Type}{a d:α},(some a).getD d=a:=⟨rfl,rfl,rfl,rfl,by simp,by simp,rfl,rfl,rfl⟩
def total (pU:List (Nat×List Nat)):Nat:=pU.foldr (fun s n=>s.2.length+n) 0
theorem uW {i:Nat}{o:Oper}(h:ops[i]?=some o):qd ops i=o:=by simp[qd,h]
theorem s_ {kd:Nat→Nat}{S C:World→Prop}{t:Nat}(ht:t≤1∨t=4)(hQ:∀c a w,¬Q (.panic c) a w)(qW:Region.noSelect ops=true)(hC:t≠4→∀w,S w→C w)(Ho:t=0→∀w,C w)(N:Nat)(k:Array Bool→Bool)(w:World)(hw:C w)(F:Act→Prop)
 (hk:∀aW a,k aW=true→pT ops aW→F a→∀fuel,N≤fuel→mG P ops kd S Q fuel aW a w):
 ∀(l:List Nat) (aW:Array Bool) (a:Act),oM ops kd t l aW k=true→pT ops aW→wpQuiet P ops C F (l.map (qd ops)) a→
  ∀fuel,l.length+N≤fuel→mG P ops kd S Q fuel aW a w
 |[],aW,a,hc,mr,h,fuel,hf=>hk aW a (by simpa[oM]using hc) mr h fuel (by simpa using hf)
 |i::r,aW,a,hc,mr,h,fuel,hf=>by
  obtain⟨fuel,rfl⟩:∃f,fuel=f+1:=⟨fuel-1,by simp at hf;omega⟩;simp only[oM,eO]at hc;obtain⟨kM,mw⟩:=hc;cases wH:ops[i]? with
  |none=>rw[wH]at kM;cases kM
  |some oi=>
   rw[wH]at kM;simp only[ht,if_true,eO,gG]at kM;obtain⟨⟨⟨⟨sf,hs⟩,hr⟩,pe⟩,hh⟩:=kM;simp only[po,uW wH]at h;have GV:i∈Region.ready .any ops aW:=by simpa using hr
   obtain⟨v,hy,hK⟩:=pz hs (show if Region.wanted oi (yielded ops a.tmps)then oi.quiet P a C (wpQuiet P ops C F (r.map (qd ops)))else wpQuiet P ops C F (r.map (qd ops)) (a.put oi.dst undef)from h);have XX:=s_ ht hQ qW hC Ho N k w hw F hk r _ _ mw (mr.set GV) hK fuel (by simp at hf;omega);refine uU wH sf (Region.noSelect_spec qW) hQ fuel aW a w hw mr (Region.free_spec wH pe) ?_ GV hy XX;intro j Sy hj;by_cases h0:t=0
   ·exact .inr (.inr (.inl (Ho h0)))
   ·have:(t==0)=false:=by simpa using h0
    simp only[this,pq,mC,oF]at hh;have:=hh j Sy;rw[hj]at this;simp only[pq,Bool.or_eq_true,gG]at this;rcases this with h1|h1
    ·by_cases h4:t=4
     ·rw[aB h4]at h1;exact .inl h1
     ·rw[aq h4]at h1;exact .inr (.inl ⟨h1,hC h4⟩)
    ·exact .inr (.inr (.inr h1))
theorem KE {o:Oper}{a:Act}{next K:Act→World→Prop}(r:Result Next)(h:o.upon P a next (Exit.then K Q) r):o.upon P a next Q r:=by
 cases r with
 |ok n w'=>
  cases n<;>simp only[Oper.upon]at h⊢
  case enter f args=>
   refine Calls.mono h fun e qe he=>?_;cases e with
   |returned u=>exact he
   |panicked c=>exact he
   |outgrown=>exact he
  all_goals exact h
 |halt x w'=>
  cases x<;>simp only[Oper.upon]at h⊢
  case panic u=>exact h
theorem gH {i:Nat}{o:Oper}(hi:ops[i]?=some o){K:Act→World→Prop}{a:Act}{w:World}(h:wpList P ops (Exit.then K Q) [o] a w):wpOp P ops Q i K a w:=by
 unfold wpOp;rw[hi];simp only[wpList]at h;by_cases hw:Region.wanted o (yielded ops a.tmps)=true
 ·simp only[hw,if_true]at h⊢;rcases h with h|⟨h1,h2⟩
  ·refine .inl ?_;unfold Oper.wp at h⊢;exact KE _ h
  ·exact .inr ⟨h1,h2⟩
 ·simp only[hw]at h⊢;exact h
theorem mH {kd:Nat→Nat}{S:World→Prop}(hQ:∀c a w,¬Q (.panic c) a w)(qW:Region.noSelect ops=true):
 ∀(pU:List (Nat×List Nat)) (live:Bool) (aW:Array Bool) (a:Act) (w:World),qV ops kd live pU aW=true→(live=true→S w)→pT ops aW→
  iv P ops S Q (tX ops pU) a w→∀fuel,total pU≤fuel→mG P ops kd S Q fuel aW a w
 |[],live,aW,a,w,hc,hS,mr,h,fuel,hf=>by
  have hr:Region.ready .any ops aW=[]:=by simpa[qV]using hc
  cases fuel with
  |zero=>exact⟨hr,h⟩
  |succ f=>exact⟨fun _=>h,by rw[hr];simp⟩
 |(t,l)::r,live,aW,a,w,hc,hS,mr,h,fuel,hf=>by
  simp only[qV,eO]at hc;obtain⟨kM,mw⟩:=hc;have A2:l.length+total r≤fuel:=hf
  match t,kM,mw,h with
  |0,kM,mw,h=>
   exact s_ (t:=0) (C:=fun _=>True) (by omega) hQ qW (fun _ _ _=>trivial) (fun _ _=>trivial) (total r) _ w trivial _
    (fun aW a hk mr hF fuel hf=>mH hQ qW r live aW a w hk hS mr hF fuel hf) l aW a mw mr h fuel A2
  |1,kM,mw,h=>
   have hl:live=true:=kM;exact s_ (t:=1) (C:=S) (by omega) hQ qW (fun _ _ h=>h) (fun h=>by omega) (total r) _ w (hS hl) _
    (fun aW a hk mr hF fuel hf=>mH hQ qW r live aW a w hk hS mr hF fuel hf) l aW a mw mr h fuel A2
  |2,kM,mw,h=>
   obtain⟨i,rfl⟩:∃i,l=[i]:=by
    have:l.length=1:=by simpa using kM
    match l,this with
    |[i],_=>exact⟨i,rfl⟩
   obtain⟨fuel,rfl⟩:∃f,fuel=f+1:=⟨fuel-1,by simp at A2;omega⟩;simp only[oM,eO]at mw;obtain⟨Eg,sr⟩:=mw;cases wH:ops[i]? with
   |none=>rw[wH]at Eg;cases Eg
   |some oi=>
    rw[wH]at Eg;simp only[show¬(2≤1∨2=4)from by omega,if_false,eO,nY]at Eg;refine⟨fun h0=>(by rw[Eg.2]at h0;cases h0),fun j hj=>?_⟩;rw[Eg.2]at hj;obtain rfl:j=i:=by simpa using hj
    rw[aq (by omega)];have GV:j∈Region.ready .any ops aW:=by rw[Eg.2];simp
    have h':wpList P ops (Exit.then (fun a' w'=>S w'∧iv P ops S Q (tX ops r) a' w') Q) [oi] a w:=by rw[←uW wH];exact h
    exact lL (fun a' w' hh=>⟨fun _=>hh.1,mH hQ qW r true _ a' w' sr (fun _=>hh.1) (mr.set GV) hh.2 fuel (by simp at A2;omega)⟩) (gH wH h')
  |3,kM,mw,h=>
   obtain⟨i,rfl⟩:∃i,l=[i]:=by
    have:l.length=1:=by simpa using kM
    match l,this with
    |[i],_=>exact⟨i,rfl⟩
   obtain⟨fuel,rfl⟩:∃f,fuel=f+1:=⟨fuel-1,by simp at A2;omega⟩;simp only[oM,eO]at mw;obtain⟨Eg,sr⟩:=mw;cases wH:ops[i]? with
   |none=>rw[wH]at Eg;cases Eg
   |some oi=>
    rw[wH]at Eg;simp only[show¬(3≤1∨3=4)from by omega,if_false,eO,nY]at Eg;refine⟨fun h0=>(by rw[Eg.2]at h0;cases h0),fun j hj=>?_⟩;rw[Eg.2]at hj;obtain rfl:j=i:=by simpa using hj
    rw[aq (by omega)];have GV:j∈Region.ready .any ops aW:=by rw[Eg.2];simp
    have h':wpList P ops (Exit.then (iv P ops S Q (tX ops r)) Q) [oi] a w:=by rw[←uW wH];exact h
    exact lL (fun a' w' hh=>⟨fun e=>by omega,mH hQ qW r false _ a' w' sr (fun e=>by cases e) (mr.set GV) hh fuel (by simp at A2;omega)⟩) (gH wH h')
  |4,kM,mw,h=>
   exact s_ (t:=4) (C:=fun w'=>∃x:rS [] w,w'=x.wd) (.inr rfl) hQ qW (fun h=>absurd rfl h) (fun h=>by cases h) (total r) _ w ⟨⟨w,Fr.refl _ _⟩,rfl⟩ _
    (fun aW a hk mr hF fuel hf=>mH hQ qW r live aW a w hk hS mr hF fuel hf) l aW a mw mr h fuel A2
  |(n+5),kM,mw,h=>cases kM
theorem zi {id:Nat}{a:Act}{w:World}{l:List Oper}(pU:List (Nat×List Nat))(S:World→Prop)(hm:P.follows .mixedOrders=true)
 (hB:(Region.noSelect l.toArray&&decide (total pU≤l.toArray.size)&&qV l.toArray (GU pU) true pU (Array.replicate l.toArray.size false))=true)
 (hS:S w.drew)(h:iv P l.toArray S (NoPanic Q) (tX l.toArray pU) a w.drew):(Code.region id l.toArray true).wp P Q a w:=by
 simp only[eO,gG]at hB;refine wp_region_noPanic (wp_region_any hm (oN _ _ _ _ (mH (fun _ _ _ h=>h) hB.1.1 pU true _ a _ hB.2 (fun _=>hS) ?_ h _ hB.1.2)));intro j oj hj hl;rw[getD_replicate_false]at hl;cases hl
variable {S:World→Prop} {l:List Oper} {r:List (Nat×List Oper)} {a:Act} {w:World}
theorem ag (h:wpQuiet P ops (fun _=>True) (fun a'=>iv P ops S Q r a' w) l a):iv P ops S Q ((0,l)::r) a w:=h
theorem af (h:wpQuiet P ops S (fun a'=>iv P ops S Q r a' w) l a):iv P ops S Q ((1,l)::r) a w:=h
theorem ah (h:wpQuiet P ops (fun w'=>∃x:rS [] w,w'=x.wd) (fun a'=>iv P ops S Q r a' w) l a):iv P ops S Q ((4,l)::r) a w:=h
theorem aA (h:wpList P ops (Exit.then (fun a' w'=>S w'∧iv P ops S Q r a' w') Q) l a w):iv P ops S Q ((2,l)::r) a w:=h
theorem ao (h:wpList P ops (Exit.then (iv P ops S Q r) Q) l a w):iv P ops S Q ((3,l)::r) a w:=h
@[go_sem] theorem XY {fp:List Nat}{w0:World}(x:rS fp w0)(p:Addr)(h1:(w0.cell? p).isSome=true)(h2:p.block∉fp):x.wd.cell? p=w0.cell? p:=
 World.cell?_of_block (w:=w0) (x.fr.block _ (by obtain⟨u,hu⟩:=Option.isSome_iff_exists.1 h1;exact wq w0 p hu) h2)
theorem dq {id:Nat}{a:Act}{w:World}{l:List Oper}(pU:List (Nat×List Nat))(fp:List Nat)(hm:P.follows .mixedOrders=true)
 (hB:(Region.noSelect l.toArray&&decide (total pU≤l.toArray.size)&&qV l.toArray (GU pU) true pU (Array.replicate l.toArray.size false))=true)
 (h:iv P l.toArray (fun w'=>∃x:rS fp w.drew,w'=x.wd) (NoPanic Q) (tX l.toArray pU) a w.drew):(Code.region id l.toArray true).wp P Q a w:=
 zi pU _ hm hB ⟨⟨w.drew,Fr.refl _ _⟩,rfl⟩ h
theorem aj (h:Q .normal a w):iv P ops S (NoPanic Q) [] a w:=h
end
def iH:List Nat→Array Bool→Array Bool
 |[],b=>b
 |i::r,b=>iH r (b.setIfInBounds i true)
def yO (ops:Array Oper)(aW:Array Bool):Bool:=
 (List.range ops.size).all fun j=> !aW.getD j false||match ops[j]? with
  |none=>true
  |some oj=>oj.after.all fun e=> !Region.binds .any e||aW.getD e.on false
theorem xE {ops:Array Oper}{aW:Array Bool}(h:yO ops aW=true):pT ops aW:=by
 intro j oj hj hl e he hb;simp only[yO,mC,oF]at h;have h1:=h j (wm.1 hj).1;rw[hl,hj]at h1;simp only[Bool.not_true,pq,Array.all_eq_true_iff_forall_mem]at h1;have h2:=h1 e he;rw[hb]at h2;simpa using h2
section
variable {P:Program} {ops:Array Oper} {Q:Exit→Act→World→Prop}
theorem wI {kd:Nat→Nat}{S C:World→Prop}{t:Nat}(ht:t≤1∨t=4)(hQ:∀c a w,¬Q (.panic c) a w)(qW:Region.noSelect ops=true)(hC:t≠4→∀w,S w→C w)(Ho:t=0→∀w,C w)(N:Nat)(w:World)(hw:C w):
 ∀(l:List Nat) (aW:Array Bool) (a:Act),oM ops kd t l aW (fun _=>true)=true→pT ops aW→wpQuiet P ops C (fun a'=>mG P ops kd S Q N (iH l aW) a' w) (l.map (qd ops)) a→
  mG P ops kd S Q (l.length+N) aW a w
 |[],aW,a,hc,mr,h=>by rw[mD,jF];exact h
 |i::r,aW,a,hc,mr,h=>by
  rw[dT,Nat.add_right_comm];simp only[oM,eO]at hc;obtain⟨kM,mw⟩:=hc;cases wH:ops[i]? with
  |none=>rw[wH]at kM;cases kM
  |some oi=>
   rw[wH]at kM;simp only[ht,if_true,eO,gG]at kM;obtain⟨⟨⟨⟨sf,hs⟩,hr⟩,pe⟩,hh⟩:=kM;simp only[po,uW wH]at h;have GV:i∈Region.ready .any ops aW:=by simpa using hr
   obtain⟨v,hy,hK⟩:=pz hs (show if Region.wanted oi (yielded ops a.tmps)then oi.quiet P a C (wpQuiet P ops C (fun a'=>mG P ops kd S Q N (iH r (aW.setIfInBounds i true)) a' w) (r.map (qd ops)))else wpQuiet P ops C (fun a'=>mG P ops kd S Q N (iH r (aW.setIfInBounds i true)) a' w) (r.map (qd ops)) (a.put oi.dst undef)from h);have XX:=wI ht hQ qW hC Ho N w hw r _ _ mw (mr.set GV) hK;refine uU wH sf (Region.noSelect_spec qW) hQ _ aW a w hw mr (Region.free_spec wH pe) ?_ GV hy XX;intro j Sy hj;by_cases h0:t=0
   ·exact .inr (.inr (.inl (Ho h0)))
   ·have:(t==0)=false:=by simpa using h0
    simp only[this,pq,mC,oF]at hh;have:=hh j Sy;rw[hj]at this;simp only[pq,Bool.or_eq_true,gG]at this;rcases this with h1|h1
    ·by_cases h4:t=4
     ·rw[aB h4]at h1;exact .inl h1
     ·rw[aq h4]at h1;exact .inr (.inl ⟨h1,hC h4⟩)
    ·exact .inr (.inr (.inr h1))
def rT (ks:List Nat×List Nat)(i:Nat):Nat:=if ks.1.contains i then 2 else if ks.2.contains i then 3 else 0
def jS (P:Program)(ops:Array Oper)(ks:List Nat×List Nat)(S:World→Prop)(Q:Exit→Act→World→Prop)(N:Nat)(aW:Array Bool)(a:Act)(w:World):Prop:=
 mG P ops (rT ks) S (NoPanic Q) N aW a w
theorem gR {id:Nat}{a:Act}{w:World}{l:List Oper}(ks:List Nat×List Nat)(fp:List Nat)(hm:P.follows .mixedOrders=true)
 (h:jS P l.toArray ks (fun w'=>∃x:rS fp w.drew,w'=x.wd) Q l.length (Array.replicate l.length false) a w.drew):(Code.region id l.toArray true).wp P Q a w:=
 wp_region_noPanic (wp_region_any hm (oN _ _ _ _ h))
theorem gS {ks:List Nat×List Nat}{S:World→Prop}{N M:Nat}{aW:Array Bool}{a:Act}{w:World}(l:List Nat)
 (hB:(Region.noSelect ops&&yO ops aW&&oM ops (rT ks) 1 l aW (fun _=>true)&&M==l.length+N)=true)(hS:S w)
 (h:wpQuiet P ops S (fun a'=>jS P ops ks S Q N (iH l aW) a' w) (l.map (qd ops)) a):jS P ops ks S Q M aW a w:=by
 simp only[eO,nY]at hB;obtain⟨⟨⟨h1,h2⟩,h3⟩,rfl⟩:=hB;exact wI (kd:=rT ks) (by omega) (fun _ _ _ h=>h) h1 (fun _ _ h=>h) (fun h=>by omega) N w hS l aW a h3 (xE h2) h
theorem bP {ks:List Nat×List Nat}{S:World→Prop}{N M:Nat}{aW:Array Bool}{a:Act}{w:World}(l:List Nat)
 (hB:(Region.noSelect ops&&yO ops aW&&oM ops (rT ks) 0 l aW (fun _=>true)&&M==l.length+N)=true)
 (h:wpQuiet P ops (fun _=>True) (fun a'=>jS P ops ks S Q N (iH l aW) a' w) (l.map (qd ops)) a):jS P ops ks S Q M aW a w:=by
 simp only[eO,nY]at hB;obtain⟨⟨⟨h1,h2⟩,h3⟩,rfl⟩:=hB;exact wI (kd:=rT ks) (by omega) (fun _ _ _ h=>h) h1 (fun _ _ _=>trivial) (fun _ _=>trivial) N w trivial l aW a h3 (xE h2) h
theorem bA {ks:List Nat×List Nat}{S:World→Prop}{N M:Nat}{aW:Array Bool}{a:Act}{w:World}(i:Nat)
 (hB:(Region.ready .any ops aW==[i]&&rT ks i==2&&M==N+1)=true){o:Oper}(ho:ops[i]?=some o)
 (h:wpList P ops (Exit.then (fun a' w'=>S w'∧jS P ops ks S Q N (iH [i] aW) a' w') (NoPanic Q)) [o] a w):jS P ops ks S Q M aW a w:=by
 simp only[eO,nY]at hB;obtain⟨⟨h1,h2⟩,rfl⟩:=hB;refine⟨fun h0=>(by rw[h1]at h0;cases h0),fun j hj=>?_⟩;rw[h1]at hj;obtain rfl:j=i:=by simpa using hj
 rw[aq (by rw[h2];omega)];exact lL (fun a' w' hh=>⟨fun _=>hh.1,hh.2⟩) (gH ho h)
theorem dK {ks:List Nat×List Nat}{S:World→Prop}{N M:Nat}{aW:Array Bool}{a:Act}{w:World}(i:Nat)
 (hB:(Region.ready .any ops aW==[i]&&rT ks i==3&&M==N+1)=true){o:Oper}(ho:ops[i]?=some o)
 (h:wpList P ops (Exit.then (jS P ops ks S Q N (iH [i] aW)) (NoPanic Q)) [o] a w):jS P ops ks S Q M aW a w:=by
 simp only[eO,nY]at hB;obtain⟨⟨h1,h2⟩,rfl⟩:=hB;refine⟨fun h0=>(by rw[h1]at h0;cases h0),fun j hj=>?_⟩;rw[h1]at hj;obtain rfl:j=i:=by simpa using hj
 rw[aq (by rw[h2];omega)];exact lL (fun a' w' hh=>⟨fun e=>by rw[h2]at e;omega,hh⟩) (gH ho h)
theorem dN {ks:List Nat×List Nat}{S:World→Prop}{N M:Nat}{aW:Array Bool}{a:Act}{w:World}(i j:Nat)
 (hB:(Region.ready .any ops aW==[i,j]&&rT ks i==2&&rT ks j==2&&M==N+1)=true){oi oj:Oper}(wH:ops[i]?=some oi)(Ob:ops[j]?=some oj)
 (h1:wpList P ops (Exit.then (fun a' w'=>S w'∧jS P ops ks S Q N (iH [i] aW) a' w') (NoPanic Q)) [oi] a w)
 (h2:wpList P ops (Exit.then (fun a' w'=>S w'∧jS P ops ks S Q N (iH [j] aW) a' w') (NoPanic Q)) [oj] a w):jS P ops ks S Q M aW a w:=by
 simp only[eO,nY]at hB;obtain⟨⟨⟨hr,rX⟩,SU⟩,rfl⟩:=hB;refine⟨fun h0=>(by rw[hr]at h0;cases h0),fun k hk=>?_⟩;rw[hr]at hk;rcases(show k=i∨k=j by simpa using hk)with rfl|rfl
 ·rw[aq (by rw[rX];omega)];exact lL (fun a' w' hh=>⟨fun _=>hh.1,hh.2⟩) (gH wH h1)
 ·rw[aq (by rw[SU];omega)];exact lL (fun a' w' hh=>⟨fun _=>hh.1,hh.2⟩) (gH Ob h2)
theorem step_done {ks:List Nat×List Nat}{S:World→Prop}{N:Nat}{aW:Array Bool}{a:Act}{w:World}(hr:(Region.ready .any ops aW).isEmpty=true)(h:Q .normal a w):jS P ops ks S Q N aW a w:=by
 have GV:Region.ready .any ops aW=[]:=by simpa using hr
 cases N with
 |zero=>exact⟨GV,h⟩
 |succ n=>exact⟨fun _=>h,by rw[GV];simp⟩
end
end Go.aS
end
namespace Go.aS
open Go.RowKit
structure a_ where
 P:World→List Nat→Prop
 fr:∀{w w':World} {fp se:List Nat},P w fp→Fr se w w'→(∀k∈fp,k∉se)→P w' fp
 lt:∀{w:World} {fp:List Nat},P w fp→∀k∈fp,k<w.heap.size
def Sep (w0 w:World)(Ts:List a_):Prop:=
 Fr [] w0 w∧∃F:Nat→List Nat,(∀(i:Nat) (T:a_),Ts[i]?=some T→T.P w (F i)∧∀k∈F i,w0.heap.size≤k)∧∀i j,i<Ts.length→j<Ts.length→i≠j→∀k∈F i,k∉F j
theorem Sep.fr {w0 w Ts}(h:Sep w0 w Ts):Fr [] w0 w:=h.1
theorem Sep.base {w0 w Ts}(h:Sep w0 w Ts):w0.heap.size≤w.heap.size:=h.1.size
theorem Sep.nil {w0 w}(f:Fr [] w0 w):Sep w0 w []:=⟨f,fun _=> [],by simp,by simp⟩
theorem Sep.c_ {w0 w w' Ts}(h:Sep w0 w Ts)(f:Fr [] w w'):Sep w0 w' Ts:=by
 obtain⟨h0,F,hF,hd⟩:=h;exact⟨h0.trans f,F,fun i T hi=>⟨T.fr (hF i T hi).1 f (by simp),(hF i T hi).2⟩,hd⟩
theorem Sep.drew {w0 w Ts}(h:Sep w0 w Ts):Sep w0 w.drew Ts:=h.c_ (Fr.refl [] w).drew
theorem Sep.drewN {w0 w Ts}(h:Sep w0 w Ts)(n):Sep w0 (w.drewN n) Ts:=h.c_ ((Fr.refl [] w).drewN n)
theorem Sep.alloc {w0 w Ts}(h:Sep w0 w Ts)(o:Obj):Sep w0 (w.alloc o) Ts:=h.c_ ((Fr.refl [] w).alloc o)
theorem Sep.get {w0 w Ts}(h:Sep w0 w Ts)(i){T}(hi:Ts[i]?=some T):
 ∃fp,T.P w fp∧(∀k∈fp,w0.heap.size≤k)∧∀(T':a_) (w':World) (se:List Nat),T'.P w' se→Fr fp w w'→(∀k∈se,k∈fp∨w.heap.size≤k)→Sep w0 w' (Ts.set i T'):=by
 obtain⟨h0,F,hF,hd⟩:=h;have hb:=(hF i T hi).2;have td:i<Ts.length:=(dE.1 hi).1;refine⟨F i,(hF i T hi).1,hb,fun T' w' se SY f hn=>⟨h0.trans' f (fun k hk=> .inr (hb k hk)),fun j=>if j=i then se else F j,fun j Tj hj=>?_,fun j k mW fu SS q hq=>?_⟩⟩
 ·by_cases e:j=i
  ·subst e;rw[eW td]at hj;obtain rfl:T'=Tj:=by simpa using hj
   simp only[if_true];exact⟨SY,fun k hk=>by rcases hn k hk with h1|h1;exact hb k h1;have:=h0.size;omega⟩
  ·rw[dF (fun h=>e h.symm)]at hj;simp only[aq e];have mW:j<Ts.length:=(dE.1 hj).1;exact⟨Tj.fr (hF j Tj hj).1 f (fun k hk=>hd j i mW td e k hk),(hF j Tj hj).2⟩
 ·rw[cF]at mW fu;by_cases e:j=i<;>by_cases e':k=i
  ·omega
  ·simp only[aB e,aq e']at hq⊢;intro hm;rcases hn q hq with h1|h1
   ·exact hd i k td fu (jk e') q h1 hm
   ·have hT:=(hF k _ (cy fu)).1;have:=(Ts[k]).lt hT q hm;omega
  ·simp only[aq e,aB e']at hq⊢;intro hm;rcases hn q hm with h1|h1
   ·exact hd j i mW td e q hq h1
   ·have hT:=(hF j _ (cy mW)).1;have:=(Ts[j]).lt hT q hq;omega
  ·simp only[aq e,aq e']at hq⊢;exact hd j k mW fu SS q hq
theorem Sep.push {w0 w w' Ts}(h:Sep w0 w Ts)(f:Fr [] w w'){T fp}(hT:T.P w' fp)(hn:∀k∈fp,w.heap.size≤k):Sep w0 w' (T::Ts):=by
 have hs:=h.1.size;obtain⟨h0,F,hF,hd⟩:=h;refine⟨h0.trans f,fun i=>match i with|0=>fp|i+1=>F i,fun i Ti hi=>?_,fun i j hi hj yN q hq=>?_⟩
 ·cases i with
  |zero=>
   obtain rfl:T=Ti:=by simpa using hi
   exact⟨hT,fun k hk=>by have:=hn k hk;omega⟩
  |succ i=>
   have BM:Ts[i]?=some Ti:=by simpa using hi
   exact⟨Ti.fr (hF i Ti BM).1 f (by simp),(hF i Ti BM).2⟩
 ·cases i with
  |zero=>
   cases j with
   |zero=>omega
   |succ j=>
    intro hm;have WI:j<Ts.length:=by simpa using hj
    have:=(Ts[j]).lt (hF j _ (cy WI)).1 q hm;have:=hn q hq;omega
  |succ i=>
   have BM:i<Ts.length:=by simpa using hi
   cases j with
   |zero=>
    intro hm;have:=(Ts[i]).lt (hF i _ (cy BM)).1 q hq;have:=hn q hm;omega
   |succ j=>exact hd i j BM (by simpa using hj) (by omega) q hq
def eZ (w w':World)(T:a_):Prop:=Fr [] w w'∧∃fp,T.P w' fp∧∀k∈fp,w.heap.size≤k
theorem eZ.fr {w w' T}(h:eZ w w' T):Fr [] w w':=h.1
theorem Sep.fresh {w0 w w' Ts}(h:Sep w0 w Ts){T}(hT:eZ w w' T):Sep w0 w' (T::Ts):=by
 obtain⟨f,fp,hp,hn⟩:=hT;exact h.push f hp hn
theorem Sep.jm {w w' T}(h:Sep w w' [T]):eZ w w' T:=by
 obtain⟨fp,hp,hb,_⟩:=h.get 0 rfl;exact⟨h.fr,fp,hp,hb⟩
theorem Sep.tail {w0 w T Ts}(h:Sep w0 w (T::Ts)):Sep w0 w Ts:=by
 obtain⟨h0,F,hF,hd⟩:=h;exact⟨h0,fun i=>F (i+1),fun i Ti hi=>hF (i+1) Ti (by simpa using hi),fun i j hi hj yN=>hd (i+1) (j+1) (by simpa using hi) (by simpa using hj) (by omega)⟩
theorem Sep.sub {w0 w Ts NJ}(h:Sep w0 w Ts)(pick:List Nat)(hp:pick.map (fun i=>Ts[i]?)=NJ.map some)(hn:pick.Nodup):Sep w0 w NJ:=by
 obtain⟨h0,F,hF,hd⟩:=h;have hlen:pick.length=NJ.length:=by have:=congrArg List.length hp;simpa using this
 have jT:∀i (hi:i<NJ.length),Ts[pick[i]'(by omega)]?=some NJ[i]:=by
  intro i hi;have:=congrArg (fun l=>l[i]?) hp;simp only[jE,cy (show i<pick.length by omega),cy hi,Option.map_some,eX]at this;exact this
 refine⟨h0,fun i=>F (pick.getD i 0),fun i T hi=>?_,fun i j hi hj yN=>?_⟩
 ·obtain⟨td,rfl⟩:=dE.1 hi;have e:pick.getD i 0=pick[i]'(by omega):=by simp[List.getD,show i<pick.length by omega]
  dsimp only;rw[e];exact hF _ _ (jT i td)
 ·have ei:pick.getD i 0=pick[i]'(by omega):=by simp[List.getD,show i<pick.length by omega]
  have ej:pick.getD j 0=pick[j]'(by omega):=by simp[List.getD,show j<pick.length by omega]
  show∀k∈F (pick.getD i 0),k∉F (pick.getD j 0);rw[ei,ej];exact hd _ _ ((dE.1 (jT i hi)).1) ((dE.1 (jT j hj)).1) (fun e=>by
   have tE:=List.pairwise_iff_getElem.1 hn;rcases Nat.lt_or_gt_of_ne yN with h1|h1
   ·exact tE i j (by omega) (by omega) h1 e
   ·exact tE j i (by omega) (by omega) h1 e.symm)
theorem cY {w:World}{base:Nat}{e:TypeId}{size:Nat}{v:Value}{n:Nat}{xs:List Value}
 (h:w.ownsRow base e size v n xs):∃la lc,v= .slice la n lc:=by
 rcases bg h with⟨e,e2⟩|⟨g,cap,e,_⟩
 ·exact⟨none,0,by rw[e,e2]⟩
 ·exact⟨_,_,e⟩
theorem Sep.pull {w0 w Ts}(h:Sep w0 w Ts)(i){T}(hi:Ts[i]?=some T):Sep w0 w (T::Ts.eraseIdx i):=by
 obtain⟨h0,F,hF,hd⟩:=h;have td:i<Ts.length:=(dE.1 hi).1;have hlen:(Ts.eraseIdx i).length=Ts.length-1:=by rw[List.length_eraseIdx];simp[td]
 refine⟨h0,fun j=>match j with|0=>F i|j+1=>if j<i then F j else F (j+1),fun j Tj hj=>?_,fun j k hj hk SS q hq=>?_⟩
 ·cases j with
  |zero=>
   obtain rfl:T=Tj:=by simpa using hj
   exact hF i T hi
  |succ j=>
   have WI:(Ts.eraseIdx i)[j]?=some Tj:=by simpa using hj
   rw[List.getElem?_eraseIdx]at WI;dsimp only;split at WI<;>rename_i hc
   ·rw[aB hc];exact hF _ _ WI
   ·rw[aq hc];exact hF _ _ WI
 ·simp only[dT,hlen]at hj hk;cases j with
  |zero=>
   cases k with
   |zero=>omega
   |succ k=>
    dsimp only at hq⊢;split
    ·exact hd i k td (by omega) (by omega) q hq
    ·exact hd i (k+1) td (by omega) (by omega) q hq
  |succ j=>
   cases k with
   |zero=>
    dsimp only at hq⊢;split at hq
    ·exact hd j i (by omega) td (by omega) q hq
    ·exact hd (j+1) i (by omega) td (by omega) q hq
   |succ k=>
    dsimp only at hq⊢;split at hq<;>split
    ·exact hd j k (by omega) (by omega) (by omega) q hq
    ·exact hd j (k+1) (by omega) (by omega) (by omega) q hq
    ·exact hd (j+1) k (by omega) (by omega) (by omega) q hq
    ·exact hd (j+1) (k+1) (by omega) (by omega) (by omega) q hq
theorem Sep.back {w0 w:World}{Ts:List a_}{T:a_}(i:Nat)(td:i<Ts.length)(h:Sep w0 w (T::Ts.eraseIdx i)):Sep w0 w (Ts.set i T):=by
 obtain⟨h0,F,hF,hd⟩:=h;have hlen:(Ts.eraseIdx i).length=Ts.length-1:=by rw[List.length_eraseIdx];simp[td]
 refine⟨h0,fun j=>if j=i then F 0 else if j<i then F (j+1)else F j,fun j Tj hj=>?_,fun j k hj hk SS q hq=>?_⟩
 ·by_cases e:j=i
  ·subst e;rw[eW td]at hj;obtain rfl:T=Tj:=by simpa using hj
   simp only[if_true];exact hF 0 T rfl
  ·rw[dF (fun h=>e h.symm)]at hj;simp only[aq e];by_cases s9:j<i
   ·rw[aB s9];refine hF (j+1) Tj ?_;rw[pN,List.getElem?_eraseIdx_of_lt s9];exact hj
   ·rw[aq s9];obtain⟨j',rfl⟩:∃j',j=j'+1:=⟨j-1,by omega⟩;refine hF (j'+1) Tj ?_;rw[pN,List.getElem?_eraseIdx_of_ge (by omega)];exact hj
 ·rw[cF]at hj hk;have hD:∀a b,a<Ts.length→b<Ts.length→a≠b→∀k∈F a,k∉F b:=fun a b ha hb=>hd a b (by simp only[dT,hlen];omega) (by simp only[dT,hlen];omega);dsimp only at hq⊢;split at hq<;>split
  ·omega
  ·split
   ·exact hD 0 (k+1) (by omega) (by omega) (by omega) q hq
   ·exact hD 0 k (by omega) hk (by omega) q hq
  ·split at hq
   ·exact hD (j+1) 0 (by omega) (by omega) (by omega) q hq
   ·exact hD j 0 hj (by omega) (by omega) q hq
  ·split at hq<;>split
   ·exact hD (j+1) (k+1) (by omega) (by omega) (by omega) q hq
   ·exact hD (j+1) k (by omega) hk (by omega) q hq
   ·exact hD j (k+1) hj (by omega) (by omega) q hq
   ·exact hD j k hj hk SS q hq
theorem Sep.call {w0 w Ts}(h:Sep w0 w Ts)(i){T T'}(hi:Ts[i]?=some T){P f}{args:Array Value}{A:Ending→Prop}
 (hc:∀R,Sep w0 w (T::R)→Calls P f args w fun e w'=>A e∧Sep w0 w' (T'::R)):Calls P f args w fun e w'=>A e∧Sep w0 w' (Ts.set i T'):=
 (hc _ (h.pull i hi)).mono fun _ _ ⟨h1,h2⟩=>⟨h1,Sep.back i ((dE.1 hi).1) h2⟩
def aJ (k:Nat)(T:TypeId)(cs:List Value):a_ where
 P w fp:=fp=[k]∧cB w k T cs
 fr h f hn:=⟨h.1,h.2.fr f (hn k (by simp[h.1]))⟩
 lt h:=by rw[h.1];simp[h.2.lt]
def aU (base:Nat)(e:TypeId)(size:Nat)(v:Value)(n:Nat)(xs:List Value):a_ where
 P w fp:=fp=v.ownBlock.toList∧w.ownsRow base e size v n xs
 fr h f hn:=⟨h.1,cX h.2 f (fun k hk=>hn k (by simp[h.1,hk]))⟩
 lt h:=by
  rw[h.1];intro k hk;exact(oz h.2 k (by simpa using hk)).2
theorem eZ.form {w w' base}{e:TypeId}{size v n xs}(h:eZ w w' (aU base e size v n xs)):∃la lc,v= .slice la n lc:=by
 obtain⟨_,fp,hp,_⟩:=h;exact cY hp.2
theorem Sep.form {w0 w Ts}(h:Sep w0 w Ts)(i:Nat){base:Nat}{e:TypeId}{size:Nat}{v}{n:Nat}{xs}(hi:Ts[i]?=some (aU base e size v n xs)):∃la lc,v= .slice la n lc:=by
 obtain⟨fp,hp,_⟩:=h.get i hi;exact cY hp.2
theorem Sep.ar {w0 w Ts}(h:Sep w0 w Ts)(i:Nat){k:Nat}{T:TypeId}{cs}(hi:Ts[i]?=some (aJ k T cs)):cB w k T cs:=by
 obtain⟨fp,hp,_⟩:=h.get i hi;exact hp.2
theorem Sep.row {w0 w Ts}(h:Sep w0 w Ts)(i:Nat){base:Nat}{e:TypeId}{size:Nat}{v}{n:Nat}{xs}(hi:Ts[i]?=some (aU base e size v n xs)):w.ownsRow base e size v n xs:=by
 obtain⟨fp,hp,_⟩:=h.get i hi;exact hp.2
theorem Sep.set {w0 w Ts}(h:Sep w0 w Ts)(i){k}{T:TypeId}{cs}(hi:Ts[i]?=some (aJ k T cs))(j u):
 Sep w0 (w.setCell ⟨k,j,none⟩ u) (Ts.set i (aJ k T (cs.set j u))):=by
 obtain⟨fp,hp,_,hk⟩:=h.get i hi;exact hk _ _ [k] ⟨rfl,hp.2.set j u⟩ (((Fr.refl fp w).setCell (.inl (by simp[hp.1])) u)) (fun q hq=> .inl (by rw[hp.1];exact hq))
theorem Sep.setRow {w0 w Ts}(h:Sep w0 w Ts)(i){base}{e:TypeId}{size g n cap xs}(hi:Ts[i]?=some (aU base e size (.slice (some ⟨g,0,none⟩) n cap) n xs))(j u):
 Sep w0 (w.setCell ⟨g,j,none⟩ u) (Ts.set i (aU base e size (.slice (some ⟨g,0,none⟩) n cap) n (xs.set j u))):=by
 obtain⟨fp,hp,_,hk⟩:=h.get i hi;exact hk _ _ [g] ⟨rfl,ix hp.2 j u⟩ (((Fr.refl fp w).setCell (.inl (by rw[hp.1];simp[Value.ownBlock])) u)) (fun q hq=> .inl (by rw[hp.1];exact hq))
theorem Sep.grown {w0 w w' Ts}(h:Sep w0 w Ts)(i){base}{e:TypeId}{size v n xs}(hi:Ts[i]?=some (aU base e size v n xs))
 {v' n' xs'}(ho:w'.ownsRow base e size v' n' xs')(hg:w.grownBy w' v.ownBlock)(hb:∀g,v'.ownBlock=some g→v.ownBlock=some g∨w.heap.size≤g):
 Sep w0 w' (Ts.set i (aU base e size v' n' xs')):=by
 obtain⟨fp,hp,_,hk⟩:=h.get i hi;refine hk _ _ v'.ownBlock.toList ⟨rfl,ho⟩ ((Fr.refl fp w).grown hg (fun k e=> .inl (by rw[hp.1];simp[e]))) (fun q hq=>?_);rw[hp.1];rcases hb q (by simpa using hq)with h1|h1
 ·exact .inl (by simp[h1])
 ·exact .inr h1
theorem Sep.new {w0 w Ts}(h:Sep w0 w Ts)(T:TypeId)(cs):Sep w0 (w.alloc (.cells cs.toArray T)) (aJ w.heap.size T cs::Ts):=
 h.push ((Fr.refl [] w).alloc _) (fp:=[w.heap.size]) ⟨rfl,cB.new w T cs⟩ (by simp)
def flat {T:Type}(en:T→List Value)(l:List T):List Value:=l.flatMap en
theorem nh {T:Type}(en:T→List Value)(l l'):flat en (l++l')=flat en l++flat en l':=by simp[flat]
theorem qf {T:Type}(en:T→List Value)(x:T):flat en [x]=en x:=by simp[flat]
theorem ck {T:Type}{en:T→List Value}{n}(hn:∀x,(en x).length=n):∀l:List T,(flat en l).length=l.length*n
 |[]=>by simp[flat]
 |x::r=>by
  have:=ck hn r;simp only[flat,mB,eE,hn,dT]at*;rw[this,oH];omega
theorem cI {T:Type}{en:T→List Value}{n}(hn:∀x,(en x).length=n):∀(l:List T) (i:Nat) (hi:i<l.length) (j:Nat),j<n→(flat en l)[i*n+j]?=(en l[i])[j]?
 |[],i,hi,_,_=>by simp at hi
 |x::r,0,_,j,hj=>by
  simp only[flat,mB,Nat.zero_mul,jF,List.getElem_cons_zero];rw[gm (by rw[hn];exact hj)]
 |x::r,i+1,hi,j,hj=>by
  have:=cI hn r i (by simpa using hi) j hj;simp only[flat,mB,List.getElem_cons_succ]at*;rw[gw (by rw[hn,oH];omega),hn,oH,show i*n+n+j-n=i*n+j by omega,this]
theorem gJ {T:Type}{en:T→List Value}(h:∀x,∀u∈en x,u.oneCell'=true)(l):∀u∈flat en l,u.oneCell'=true:=by
 intro u hu;simp only[flat,List.mem_flatMap]at hu;obtain⟨e,_,he⟩:=hu;exact h e u he
theorem oO {T:Type}{en:T→List Value}{n}(hn:∀x,(en x).length=n)(l){xs}(hl:xs.length=l.length*n)
 (h:∀i,(hi:i<l.length)→∀j,j<n→xs[i*n+j]?=(en l[i])[j]?):xs=flat en l:=by
 apply uN;intro k;by_cases hk:k<l.length*n
 ·have uX:0<n:=by
   apply Nat.pos_of_ne_zero;intro e;subst e;omega
  have h1:k/n<l.length:=Nat.div_lt_of_lt_mul (by rw[px];exact hk);have e:k/n*n+k%n=k:=by rw[px];exact Nat.div_add_mod k n
  have:=h (k/n) h1 (k%n) (py _ uX);rw[e]at this;rw[this,←cI hn l (k/n) h1 (k%n) (py _ uX),e]
 ·rw[lg (by omega),lg (by rw[ck hn];omega)]
end Go.aS
namespace Go
abbrev I (x:Int):Value:=.int .i64 x
abbrev U (x:Int):Value:=.int .u64 x
abbrev O (b:Nat):Value:=.pointer (some ⟨b,0,none⟩)
abbrev E:Ending:=.returned (.tuple #[])
theorem aa {p:Prop}(h:p):RowKit.Hid p:=h
theorem Calls.kk {P:Program}{f:FuncId}{a:Array Value}{w:World}{v:Value}{S:World→Prop}{Q:Ending→World→Prop}(h:Calls P f a w fun r w'=>r= .returned v∧S w')(k:∀w',S w'→Q (.returned v) w'):Calls P f a w Q:=h.mono fun _ _ ⟨e,s⟩=>e▸k _ s
theorem Calls.kh {P:Program}{f:FuncId}{a:Array Value}{w:World}{v:Value}{S:World→Prop}{Q:Ending→World→Prop}(h:Calls P f a w fun r w'=>r= .returned v∧S w')(k:∀w',RowKit.Hid (S w')→Q (.returned v) w'):Calls P f a w Q:=h.kk k
end Go
namespace Go.aS
open Go.RowKit
theorem cB.aR {w:World}{k:Nat}{T:TypeId}{H t:List Value}{n:Nat}(h:cB w k T (H++t))(hl:H.length=n)(i:Nat){u:Value}(hi:Nat.ble n i=true)(hu:t[i-n]?=some u):w.cell? ⟨k,i,none⟩=some u:=by
 rw[h.cell,List.getElem?_append_right (by have:=Nat.le_of_ble_eq_true hi;omega),hl];exact hu
theorem cB.fM {w:World}{k:Nat}{T:TypeId}{H t:List Value}{n:Nat}(h:cB w k T (H++t))(hl:H.length=n)(i:Nat){u:Value}(hi:Nat.ble (i+1) n=true)(hu:H[i]?=some u):w.cell? ⟨k,i,none⟩=some u:=by
 rw[h.cell,List.getElem?_append_left (by have:=Nat.le_of_ble_eq_true hi;omega)];exact hu
theorem cB.cD {w:World}{k:Nat}{T:TypeId}{H t:List Value}{r:List Int}{g:Int→Value}(h:cB w k T (H++(r.map g++t)))(hl:H.length=35)(hr:r.length=16)(i:Nat){u:Value}(hi:Nat.ble 51 i=true)(hu:t[i-51]?=some u):w.cell? ⟨k,i,none⟩=some u:=by
 have:=Nat.le_of_ble_eq_true hi;rw[h.cell,List.getElem?_append_right (by omega),hl,List.getElem?_append_right (by rw[List.length_map];omega),List.length_map,hr,Nat.sub_sub];exact hu
theorem cB.aT {w:World}{k:Nat}{T:TypeId}{cs:List Value}(h:cB w k T cs)(i:Nat){u:Option Value}(hu:cs[i]?=u):w.cell? ⟨k,i,none⟩=u:=(h.cell i).trans hu
theorem cB.fe {w:World}{k:Nat}{T:TypeId}{H t:List Value}{n:Nat}(h:cB w k T (H++t))(hl:H.length=n)(i:Nat){u:Value}(hi:Nat.ble n i=true)(hu:t[i-n]?=some u):w.cell? ⟨k,i,none⟩=some u∧w.frozen? ⟨k,i,none⟩=false:=⟨h.aR hl i hi hu,h.az i⟩
theorem cB.xS {w:World}{k:Nat}{T:TypeId}{H t:List Value}{r:List Int}{g:Int→Value}(h:cB w k T (H++(r.map g++t)))(hl:H.length=35)(hr:r.length=16)(i:Nat){u:Value}(hi:Nat.ble 51 i=true)(hu:t[i-51]?=some u):w.cell? ⟨k,i,none⟩=some u∧w.frozen? ⟨k,i,none⟩=false:=⟨h.cD hl hr i hi hu,h.az i⟩
theorem cB.cef {w:World}{k:Nat}{T:TypeId}{cs:List Value}(h:cB w k T cs)(i:Nat){u:Option Value}(hu:cs[i]?=u):w.cell? ⟨k,i,none⟩=u∧w.frozen? ⟨k,i,none⟩=false:=⟨h.aT i hu,h.az i⟩
end Go.aS
namespace Go
open Go.aS
theorem Calls.kq {P:Program}{f:FuncId}{a:Array Value}{w w0:World}{Ts:List a_}{v:Value}{Q:Ending→World→Prop}(h:Calls P f a w fun r w'=>r= .returned v∧Fr [] w w')(H:RowKit.Hid (Sep w0 w Ts))(k:∀w',RowKit.Hid (Sep w0 w' Ts)→Q (.returned v) w'):Calls P f a w Q:=h.kk fun _ f=>k _ (aa (H.out.c_ f))
theorem Calls.kf {P:Program}{f:FuncId}{a:Array Value}{w w0:World}{Ts:List a_}{v:Value}{Q:Ending→World→Prop}(h:Calls P f a w fun r w'=>r= .returned v∧Fr [] w w')(H:RowKit.Hid (Sep w0 w Ts))(k:∀w',RowKit.Hid (Fr [] w w')→RowKit.Hid (Sep w0 w' Ts)→Q (.returned v) w'):Calls P f a w Q:=h.kk fun _ f=>k _ (aa f) (aa (H.out.c_ f))
theorem _root_.Go.RowKit.Hid.dr {w0 w:World}{Ts:List a_}(h:RowKit.Hid (Sep w0 w Ts)):RowKit.Hid (Sep w0 w.drew Ts):=aa h.out.drew
end Go
namespace Go.aS.Y
open Go.aS
structure cA where
 t:Int
 b:Int
 w:Int
 f:Int
 fi:Int
 la:Int
deriving DecidableEq
structure Ok (c:cA):Prop where
 t1:1≤c.t
 t8:c.t≤8
 b1:1≤c.b
 nZ:c.b≤64
 w8:8≤c.w
 Jw:c.w≤64
 f9:9≤c.f
 zj:c.f≤1000
 fl:c.fi≤c.la
 l47:c.la≤140737488355328
theorem Ok.w0 {c:cA}(h:Ok c):0≤c.w:=by have:=h.w8;omega
def b_ (c:cA):Int:=c.t*(c.w+1)
def cap (c:cA):Int:=c.t*(c.w+3)+3*b_ c+2
def aX (c:cA):Int:=8+cap c
def dj (c:cA):Int:=1+c.t*aX c
def dO (c:cA):Int:=dj c+c.t*3
def ef (c:cA):Int:=dO c+16
def fI (c:cA):Int:=ef c+c.b
def cK (c:cA):Int:=fI c+1
def gu (c:cA):Int:=cK c+c.b
def c8 (c:cA):Int:=gu c+1
def eo (c:cA):Int:=c8 c+b_ c
def size (c:cA):Int:=eo c+c.b*8
def ae (c:cA):List Value:=
 [I c.t,I c.b,I c.w,I c.f,U c.fi,U c.la,
  I 0,I 0,I 0,I 0,I 0,I 0,I 0,I (dj c),I 0,I 0,
  I (dO c),I (ef c),I (fI c),I (cK c),I (gu c),I (c8 c),I (eo c),I (size c)]
def db (c:cA):Value:= .agg #[I c.t,I c.b,I c.w,I c.f,U c.fi,U c.la]
def aY (c:cA):Value:= .agg (ae c).toArray
theorem CY {x y:Int}{a b:Int}(hx:0≤x)(hy:0≤y)(ha:x≤a)(hb:y≤b):0≤x*y∧x*y≤a*b:=
 ⟨Int.mul_nonneg hx hy,Int.mul_le_mul ha hb hy (by omega)⟩
theorem oP {c}(h:Ok c):0≤c.t*(c.w+1)∧c.t*(c.w+1)≤520:=by
 have h1:=h.t1;have h2:=h.t8;have h3:=h.w0;have h4:=h.Jw;have:=CY (x:=c.t) (y:=c.w+1) (a:=8) (b:=65) (by omega) (by omega) h2 (by omega);omega
theorem WJ {c}(h:Ok c):0≤c.t*(c.w+3)∧c.t*(c.w+3)≤536:=by
 have h1:=h.t1;have h2:=h.t8;have h3:=h.w0;have h4:=h.Jw;have:=CY (x:=c.t) (y:=c.w+3) (a:=8) (b:=67) (by omega) (by omega) h2 (by omega);omega
theorem bK {c}(h:Ok c):1≤b_ c∧b_ c≤520:=by
 have h1:=h.t1;have h3:=h.w0;have h2:=oP h;have h4:1*1≤c.t*(c.w+1):=Int.mul_le_mul h1 (by omega) (by omega) (by omega);unfold b_;omega
theorem iI {c}(h:Ok c):5≤cap c∧cap c≤2098:=by
 have h1:=bK h;have h2:=WJ h;unfold cap;omega
theorem fW {c}(h:Ok c):13≤aX c∧aX c≤2106:=by
 have:=iI h;unfold aX;omega
theorem xF {c}(h:Ok c):13≤c.t*aX c∧c.t*aX c≤16848:=by
 have h1:=h.t1;have h2:=h.t8;have h3:=fW h;have h4:=CY (x:=c.t) (y:=aX c) (a:=8) (b:=2106) (by omega) (by omega) h2 (by omega);have h5:1*13≤c.t*aX c:=Int.mul_le_mul h1 (by omega) (by omega) (by omega);omega
structure Bds (c:cA):Prop where
 tag:14≤dj c∧dj c≤16849
 root:dO c=dj c+c.t*3
 rY:ef c=dO c+16
 top:fI c=ef c+c.b
 stack:cK c=fI c+1
 bS:gu c=cK c+c.b
 mx:c8 c=gu c+1
 word:eo c=c8 c+b_ c
 my:size c=eo c+c.b*8
theorem A3 {c}(h:Ok c):Bds c:=⟨by have:=xF h;unfold dj;omega,rfl,rfl,rfl,rfl,rfl,rfl,rfl,rfl⟩
theorem iQ {c}(h:Ok c):0≤size c∧size c≤18100:=by
 have h1:=A3 h;have h2:=bK h;have:=h.t1;have:=h.t8;have:=h.b1;have:=h.nZ;have:=h1.tag;have:=h1.root;have:=h1.rY;have:=h1.top;have:=h1.stack;have:=h1.bS;have:=h1.mx;have:=h1.word;have:=h1.my;omega
end Go.aS.Y
namespace Go.Proofs.YtolkmchicplaoaaGreat
open Go.aS
abbrev ba (f:Nat)(a:Array Value)(w:World)(v:Value):Prop:=Calls Tryz.prog f a w fun e w'=>e= .returned v∧Fr [] w w'
abbrev bR (f:Nat)(a:Array Value)(w w0:World)(L:List a_):Prop:=Calls Tryz.prog f a w fun e w'=>e=E∧Sep w0 w' L
abbrev jh (f:Nat)(a:Array Value)(w:World)(v:Value)(w0:World)(L:List a_):Prop:=Calls Tryz.prog f a w fun e w'=>e= .returned v∧Sep w0 w' L
theorem bW {id:Nat}{a:Act}{w:World}{l:List Oper}{Q:Exit→Act→World→Prop}(s:List (Nat×List Nat))(hB:(Region.noSelect l.toArray&&decide (total s≤l.toArray.size)&&qV l.toArray (GU s) true s (Array.replicate l.toArray.size false))=true)(h:iv Tryz.prog l.toArray (fun w'=>∃x:rS [] w.drew,w'=x.wd) (NoPanic Q) (tX l.toArray s) a w.drew):(Code.region id l.toArray true).wp Tryz.prog Q a w:=dq s [] (by kernel_rfl) hB h
end Go.Proofs.YtolkmchicplaoaaGreat
namespace Go.Proofs.YtolkmchicplaoaaGreat
open Go.RowKit Go.aS Go.aS.Y
theorem KG (w:World)(c:cA)(h:Ok c):
 ba 44 #[db c] w (.bool true):=by
 unfold db;have d0:decide (c.t≥1)=true:=eP h.t1;have d1:decide (c.t≤8)=true:=eP h.t8;have d2:decide (c.b≥1)=true:=eP h.b1;have d3:decide (c.b≤64)=true:=eP h.nZ;have d4:decide (c.w≥0)=true:=eP h.w0;have d5:decide (c.w≤64)=true:=eP h.Jw;have d6:decide (c.f≥1)=true:=eP (by have:=h.f9;omega);have d7:decide (c.f≤1000)=true:=eP h.zj;have d8:decide (c.fi≤c.la)=true:=eP h.fl;have d9:decide (c.la≤140737488355328)=true:=eP h.l47;delta ba;go_in;go_wp2;go_ret;exact⟨rfl,(Fr.refl [] _).alloc _⟩
end Go.Proofs.YtolkmchicplaoaaGreat
section
namespace Go.aS
open Go.RowKit
theorem ak {P}{ops:Array Oper}{C:World→Prop}{K:Act→Prop}{a}{o:Oper}{rest}(ty:TypeId)(x:Operand)(b off cs)(d:TypeDesc)(ho:o.op= .load ty x)(hw:Region.wanted o (yielded ops a.tmps)=true)
 (hx:a.eval x= .pointer (some ⟨b,off,none⟩))(hS:∀w,C w→w.rangeAt b off cs)(hu:P.underlying ty=some d)(hd:d.isRow=true)(hi:(P.info? ty).map (·.size)=some cs.length)
 (h:wpQuiet P ops C K rest (a.put o.dst (.agg cs.toArray))):wpQuiet P ops C K (o::rest) a:=by
 unfold wpQuiet;rw[aB hw];refine⟨_,λw NI=>?_,h⟩;unfold Oper.quietAt execOp;simp only[ho,hx,lh,qQ,oD,run_loadAt_mid w b off ty cs d (hS w NI) hu hd hi,Oper.quietUpon];exact⟨trivial,trivial⟩
theorem bL {fp w0 b}{T:TypeId}{cs}(h:cB w0 b T cs)(hn:b∉fp):∀w',(∃x:rS fp w0,w'=x.wd)→w'.rangeAt b 0 cs:=by
 rintro _ ⟨x,rfl⟩ j v hj;rw[(h.fr x.fr hn).cell,jF];exact hj
theorem ay {P}{ops:Array Oper}{rest}{op:Oper}{a w}{Q:Exit→Act→World→Prop}(ty:TypeId)(x:Operand)(ho:op.op= .load ty x)(hw:Region.wanted op (yielded ops a.tmps)=true)
 (b o)(hx:a.eval x= .pointer (some ⟨b,o,none⟩))(cs)(d:TypeDesc)(hc:w.rangeAt b o cs)
 (hu:P.underlying ty=some d)(hd:d.isRow=true)(hi:(P.info? ty).map (·.size)=some cs.length)
 (h:wpList P ops Q rest (a.put op.dst (.agg cs.toArray)) w):wpList P ops Q (op::rest) a w:=by
 unfold wpList;rw[aB hw];exact .inl (wp_load_mid ty x ho b o hx cs d hc hu hd hi h)
theorem cB.range {w b}{T:TypeId}{cs}(h:cB w b T cs):w.rangeAt b 0 cs:=λj v hj=>by rw[h.cell,jF];exact hj
def n_:List Value→Nat→List Value→List Value
 |cs,_,[]=>cs
 |cs,o,v::r=>n_ (cs.set o v) (o+1) r
theorem pA:∀(vs:List Value) (cs:List Value) (o:Nat),(n_ cs o vs).length=cs.length
 |[],_,_=>rfl
 |v::r,cs,o=>by rw[n_,pA r];simp
theorem zk:∀(vs:List Value) (cs:List Value) (o j:Nat),j<cs.length→(n_ cs o vs)[j]?=if o≤j∧j<o+vs.length then vs[j-o]? else cs[j]?
 |[],cs,o,j,_=>by simp only[n_,mD];rw[aq (by omega)]
 |v::r,cs,o,j,hj=>by
  rw[n_,zk r _ _ j (by simpa using hj)];by_cases h1:o+1≤j∧j<o+1+r.length
  ·rw[aB h1,aB (by simp only[dT];omega),show j-o=j-(o+1)+1 by omega,pN]
  ·rw[aq h1];by_cases h2:j=o
   ·subst h2;rw[aB (by simp only[dT];omega),oI,eW hj];rfl
   ·rw[aq (by simp only[dT];omega),dF (λe=>h2 e.symm)]
theorem Oe {cs vs}(h:vs.length=cs.length):n_ cs 0 vs=vs:=by
 apply uN;intro j;by_cases hj:j<cs.length
 ·rw[zk vs cs 0 j hj,aB (by omega),Nat.sub_zero]
 ·rw[lg (by rw[pA];omega),lg (by omega)]
theorem cB.setCells {k}{T:TypeId}:∀(vs:List Value) {w:World} {cs:List Value} (o:Nat),cB w k T cs→cB (w.setCells k o vs) k T (n_ cs o vs)
 |[],_,_,_,h=>h
 |v::r,_,_,o,h=>cB.setCells r (o+1) (h.set o v)
theorem Fr.setCells {fp k}(hk:k∈fp):∀(vs:List Value) {a w:World} (o:Nat),Fr fp a w→Fr fp a (w.setCells k o vs)
 |[],_,_,_,h=>h
 |v::r,_,_,o,h=>Fr.setCells hk r (o+1) (h.setCell (.inl hk) v)
theorem cB.there {w k}{T:TypeId}{cs}(h:cB w k T cs)(n)(hn:n=cs.length):w.there k 0 n:=λj hj=>by
 refine⟨?_,h.az _⟩;rw[h.cell,jF];simp;omega
theorem Sep.iH {w0 w Ts}(h:Sep w0 w Ts)(i){k}{T:TypeId}{cs}(hi:Ts[i]?=some (aJ k T cs))(vs)(hl:vs.length=cs.length):
 Sep w0 (w.setCells k 0 vs) (Ts.set i (aJ k T vs)):=by
 obtain⟨fp,hp,_,hk⟩:=h.get i hi;refine hk _ _ [k] ⟨rfl,?_⟩ (Fr.setCells (by simp[hp.1]) vs 0 (Fr.refl fp w)) (λq hq=> .inl (by rw[hp.1];exact hq));have:=hp.2.setCells vs 0;rwa [Oe hl]at this
theorem bj {P}{fn:Func}{tmps:Array Value}{w a t j b cs}{d:TypeDesc}{v2}(hr:fn.results=#[.cell a t,.tmp j])(ha:tmps.getD a undef=O b)(hj:tmps.getD j undef=v2)
 (hc:w.rangeAt b 0 cs)(hu:P.underlying t=some d)(hd:d.isRow=true)(hi:(P.info? t).map (·.size)=some cs.length):(results fn tmps).run P w= .ok (.tuple #[.agg cs.toArray,v2]) w:=by
 have h1:=run_loadVar_mid (P:=P) w b 0 t cs d hc hu hd hi;rw[Array.getD_eq_getD_getElem?]at ha hj;simp[results,hr,ha,hj,asAddr,lh,h1]
theorem Of {P}{fn:Func}{tmps:Array Value}{w a t b cs}{d:TypeDesc}(hr:fn.results=#[.cell a t])(ha:tmps.getD a undef=O b)
 (hc:w.rangeAt b 0 cs)(hu:P.underlying t=some d)(hd:d.isRow=true)(hi:(P.info? t).map (·.size)=some cs.length):(results fn tmps).run P w= .ok (.agg cs.toArray) w:=by
 have h1:=run_loadVar_mid (P:=P) w b 0 t cs d hc hu hd hi;rw[Array.getD_eq_getD_getElem?]at ha;simp[results,hr,ha,asAddr,lh,h1]
theorem Sep.append {w0 w w' Ts Us}(h:Sep w0 w Ts)(k:Sep w w' Us):Sep w0 w' (Us++Ts):=by
 have hs:=h.1.size;obtain⟨h0,F,hF,hd⟩:=h;obtain⟨k0,G,hG,kd⟩:=k;refine⟨h0.trans k0,λi=>if i<Us.length then G i else F (i-Us.length),λi T hi=>?_,λi j hi hj yN q hq=>?_⟩
 ·by_cases hl:i<Us.length
  ·rw[gm hl]at hi;simp only[aB hl];exact⟨(hG i T hi).1,λk hk=>by have:=(hG i T hi).2 k hk;omega⟩
  ·rw[gw (by omega)]at hi;simp only[aq hl];exact⟨T.fr (hF _ T hi).1 k0 (by simp),(hF _ T hi).2⟩
 ·rw[eE]at hi hj;have low:∀i,i<Us.length+Ts.length→¬i<Us.length→∀q∈F (i-Us.length),q<w.heap.size:=λi hi hl q hq=>
   (Ts[i-Us.length]'(by omega)).lt (hF _ _ (cy (by omega))).1 q hq
  have high:∀i,i<Us.length→∀q∈G i,w.heap.size≤q:=λi hl q hq=>(hG i _ (cy hl)).2 q hq;dsimp only at hq⊢;split at hq<;>rename_i AS<;>split<;>rename_i rR
  ·exact kd i j AS rR yN q hq
  ·intro hm;have:=high i AS q hq;have:=low j hj rR q hm;omega
  ·intro hm;have:=low i hi AS q hq;have:=high j rR q hm;omega
  ·exact hd _ _ (by omega) (by omega) (by omega) q hq
end Go.aS
end
section
namespace Go.aS
open Go.RowKit
theorem dV {P:Program}{ops:Array Oper}{rest:List Oper}{op:Oper}{a:Act}{w:World}{Q:Exit→Act→World→Prop}(ty:TypeId)(c c':Array Value)(mV:op.guard=none)(x y:Operand)(ho:op.op= .store ty x y)
 (hx:a.eval x=O w.heap.size)(hy:a.eval y= .agg c')(hi:(P.info? ty).map (·.size)=some c'.size)(hs:c.size=c'.size)(h1:c'.all (·.oneCell')=true)
 (h:wpList P ops Q rest (a.put op.dst undef) (w.alloc (.cells c' ty))):wpList P ops Q (op::rest) a (w.alloc (.cells c ty)):=by
 refine wpList_plain mV λK hK=>?_;unfold Oper.wp execOp;simp only[ho,hx,hy,lh,qQ,oD,run_storeAt_new w ty c c' hi hs h1];exact hK _ _ h
theorem dW {P}(w)(T:TypeId)(cs:Array Value)(i)(fs:Array Field)(f:Field)(d:TypeDesc)(v)(hu:P.underlying T=some (.struct fs))(hf:fs[i]?=some f)(XZ:P.underlying f.type=some d)(hd:d.isRow=false)(hv:cs[f.offset]?=some v):
 (Instr.field T (.agg cs) i).run P w= .ok v w:=by
 have am7:(isAgg f.type).run P w= .ok false w:=by
  unfold isAgg;rw[lh,kD XZ w];cases d<;>simp_all
 simp[Instr.field,lh,kD hu w,hf,asAgg,part,am7,hv]
end Go.aS
end
section
namespace Go.aS
open Go.RowKit
theorem cm {fp w0 b}{T:TypeId}{cs tl}(h:cB w0 b T (cs++tl))(hn:b∉fp):∀w',(∃x:rS fp w0,w'=x.wd)→w'.rangeAt b 0 cs:=by
 rintro _ ⟨x,rfl⟩ j v hj;rw[(h.fr x.fr hn).cell,jF,gm (dE.1 hj).1];exact hj
theorem cB.pre {w b}{T:TypeId}{cs tl}(h:cB w b T (cs++tl)):w.rangeAt b 0 cs:=by
 intro j v hj;rw[h.cell,jF,gm (dE.1 hj).1];exact hj
theorem Sep.ne {w0 w Ts}(h:Sep w0 w Ts)(i j:Nat){k k':Nat}{T T':TypeId}{cs GF}(hi:Ts[i]?=some (aJ k T cs))(hj:Ts[j]?=some (aJ k' T' GF))(yN:i≠j):k≠k':=by
 obtain⟨h0,F,hF,hd⟩:=h;have p0:=(hF i _ hi).1.1;have p1:=(hF j _ hj).1.1;have d:=hd i j (dE.1 hi).1 (dE.1 hj).1 yN;rw[p0,p1]at d;intro e;exact d k (by simp) (by simp[e])
theorem Sep.ge {w0 w:World}{Ts:List a_}(h:Sep w0 w Ts)(i:Nat){k:Nat}{T:TypeId}{cs:List Value}(hi:Ts[i]?=some (aJ k T cs)):w0.heap.size≤k:=by
 obtain⟨h0,F,hF,hd⟩:=h;have p:=hF i _ hi;have e:=p.1.1;exact p.2 k (by rw[e];simp)
theorem Sep.snd {w0 w T U_ Ts}(h:Sep w0 w (T::U_::Ts)):Sep w0 w (T::Ts):=(h.pull 1 rfl).tail
end Go.aS
namespace Go.Proofs.YtolkmchicplaoaaGreat
open Go.RowKit Go.aS Go.aS.Y
end Go.Proofs.YtolkmchicplaoaaGreat
end
