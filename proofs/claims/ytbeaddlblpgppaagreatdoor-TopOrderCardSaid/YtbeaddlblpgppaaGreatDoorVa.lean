/- Part 1 of the proof of TopOrder (watchtowertop). Conditions: none. -/
import Derived.Shelf.SlGeneric
import Derived.KernelRfl
import Derived.Test.YtbeaddlblpgppaaGreatDoorProg
import Derived.Below
import Derived.Laws.OwnMore
import Derived.Laws.Rows
import Derived.Deep.Draws
import Derived.Maps.AppendAt
import Derived.Deep.AppendLies
import Derived.RegionTactic
import Derived.OwnWalk
import Derived.ArgAppend
import Derived.OneCell
import Derived.Laws.Slices
import Derived.Laws.BitsAllLaws
import Derived.Tactics
import Derived.Deep.QuietTactic
import Derived.Laws.Strings
import Derived.OrdersHeld
import Derived.Deep.RegionHeld
import Derived.Lib.LaidTab
import Derived.Lib.ItoaNum
import Derived.Maps.OwnSet
import Derived.Maps.Range
import Derived.Test.YtbeaddlblpgppaaGreatDoorChecked
import Derived.WalkKit
import Derived.Lib.Hide
import Derived.Deep.WholeRow
import Derived.ProofKit
import Derived.OpenShut
import Derived.ShutString
import Derived.ChangeOld
import Derived.Laws.Cover3
import Derived.Laws.IdiomStrings
import Derived.Lib.AppendStr
import Derived.Laws.StructEq
import Derived.Deep.SlicePairs
import Derived.Laws.CopyOwn
import Derived.Deep.OwnRows
set_option maxRecDepth 100000
set_option maxHeartbeats 8000000
set_option linter.unusedVariables false
set_option linter.unusedSimpArgs false
set_option linter.defProp false
open Go.Lib renaming hid->E
open Go.IntKind renaming i64->I,wrap_i64->b7
open Go.Value renaming int->J,slice->O,string->ap,bool->aG,agg->aY,pointer->bl,tuple->bn,ownBlock->qS
open Option renaming none->M,some->ad,map_some->tG
open Go.Addr renaming mk->ab
open Go renaming World->aB,Value->aE,Calls->aN,Addr->aX,Act->bb,TypeId->bf,Oper->bv,results->bz,bodyPost_ret->bF,maxLen->bK,Program->cp,undef->cu,yielded->dR,run_underlying->mf,heap_alloc_new->qR
open Go.Obj renaming cells->aD
open Go.Proofs.Tryz renaming prog->aH
open Nat renaming le_refl->aO,le_trans->a8,zero_le->bV,lt_of_lt_of_le->da,lt_or_ge->gy,zero_add->ig,eq_zero_or_pos->kJ,le_succ->mg,ne_of_lt->mW,succ_mul->oA,mul_le_mul_right->sa
open Go.Ending renaming returned->aQ
open Go.RowKit renaming Below->aS,Hid->a6
open Go.RowKit.Below renaming refl->bk,heap_setCell->yv
open List renaming mem_singleton->bD,length_append->b2,getElem?_eq_getElem->cR,getD_eq_getElem?_getD->dd,getElem_mem->dl,mem_cons->ee,mem_map->hM,mem_append->kf,not_mem_nil->kg,map_append->lK,append_assoc->mV,length_nil->nF,length_drop->oy,length->oz,drop_eq_getElem_cons->pf,length_cons->pY,length_map->p6,eq_nil_of_length_eq_zero->sb,map_cons->sd,range->se,pairwise_map->sf,getElem?_map->tJ,length_take->tH,mem_of_mem_drop->arC,getElem?_eq_some_iff->yy,pairwise_iff_getElem->yw,take_succ_eq_append_getElem->yz
open Bool renaming and_eq_true->b9,false_eq_true->tL
open Go.Region renaming wanted->dz,ready->iW
open Go.World renaming setCell->eB,size_alloc->eO,cell?_of_block->wK
open UInt8 renaming ofNat->fN
open Go.Op renaming bytesLess->ii
open Go.Instr renaming slice->iV
open Exists renaming intro->lL
open Array renaming getElem?_eq_some_iff->lJ,getElem?_eq_none->tK,replicate->tN,getElem?_modify->yu
open Go.Builtin renaming append_->tI
open Option.some renaming inj->tM
open Go.World.ownsRow renaming lt->CX
open Go.World.grownBy renaming refl->EZ
open Go.Proofs.Tryz
theorem Go.RowKit.Hid.A {p:Prop}(h:Go.RowKit.Hid p):p:=h
theorem Go.Calls.ah {P:Go.Program}{f:Go.FuncId}{args:Array Go.Value}{w:Go.World}{R R':Go.Ending->Go.World->Prop}(h:Go.Calls P f args w R)(k:∀e w',R e w'->R' e w'):Go.Calls P f args w R':=h.mono k
namespace Go.Proofs.YtbeaddlblpgppaaGreatDoor
open Go.RowKit
theorem aP.{u} {α:Sort u}(a:α):∃x,a=x:=⟨a,rfl⟩
theorem aa {p:Prop}[Decidable p](h:¬p):decide p=false:=decide_eq_false h
theorem ac {p:Prop}[Decidable p](h:p):decide p=true:=decide_eq_true h
theorem ae {a b:Prop}(h:a)(k:¬a):b:=absurd h k
theorem af.{u} {c:Prop}{h:Decidable c}(k:¬c){α:Sort u}{t e:α}:(if c then t else e)=e:=if_neg k
theorem ag.{u} {c:Prop}{h:Decidable c}(k:c){α:Sort u}{t e:α}:(if c then t else e)=t:=if_pos k
theorem ai {A P:Prop}(x:A)(h:A->P:=by intro hh;omega):P:=h x
theorem aj {A B P:Prop}(x:A)(y:B)(h:A->B->P:=by intro hh hk;omega):P:=h x y
theorem ak {A B C P:Prop}(x:A)(y:B)(z:C)(h:A->B->C->P:=by intro hh hk hl;omega):P:=h x y z
theorem am {A P:Prop}(x:A)(h:A->P:=by intro hh;simpa using hh):P:=h x
theorem an {P:Prop}(h:P:=by omega):P:=h
theorem aq {P:Prop}(h:P:=by decide):P:=h
theorem ar {P:Prop}(h:P:=by kernel_rfl):P:=h
theorem au {P:Prop}(h:P:=by rfl):P:=h
theorem av {P:Prop}(h:P:=by simp):P:=h
theorem aw {P:Prop}(h:P:=by simp;omega):P:=h
theorem ax {P:Prop}(h:P:=by simp[intOf];have:=aR.A;omega):P:=h
theorem ay {P:Prop}(h:P:=by rw[b7];omega):P:=h
theorem az {P:Prop}(h:P:=by intro i z e;rcases i with _|_|_|_|_|_|_|i<;>simp at e):P:=h
theorem aA {P:Prop}(h:P:=by simp[intOf];omega):P:=h
theorem aqf {P:Prop}(h:P:=by show w.heap.size<=w.heap.size+1+1;omega):P:=h
theorem aqg {P:Prop}(h:P:=by simpa[eB] using Z):P:=h
theorem aqh {P:Prop}(h:P:=by show w.heap.size+1+1+1≠w.heap.size+1+1;omega):P:=h
theorem aqi {P:Prop}(h:P:=by show w.heap.size<=w.heap.size+1+1+1;omega):P:=h
theorem aqj {P:Prop}(h:P:=by unfold Addr.add;split<;>simp_all):P:=h
theorem aqk {P:Prop}(h:P:=by simp;exact hk):P:=h
theorem aql {P:Prop}(h:P:=by rw[oy,fw,show Nat.min (l.length+1-i) (l.length-i)=l.length-i from by simp only[Nat.min_def];split<;>omega];show l.length*2-i*2=_;omega):P:=h
theorem aqm {P:Prop}(h:P:=by rw[HK.A];rfl):P:=h
theorem aqn {P:Prop}(h:P:=by decide+kernel):P:=h
theorem aqo {P:Prop}(h:P:=by show w.heap.size+1+1≠w.heap.size+1+1+1;omega):P:=h
theorem aqp {P:Prop}(h:P:=by simp[bz,results254,go_sem,k0]):P:=h
theorem aqq {P:Prop}(h:P:=by first|exact Gm.A|(have hh:=Gm.A;exact⟨λ_=>hh.1 (by first|trivial|rfl),λh=>⟨(hh.2 h).1,rfl,(hh.2 h).2.2⟩⟩)):P:=h
theorem aqr {P:Prop}(h:P:=by have:=aI.new (w.alloc (aD #[O Aq q.N.length kE,J I q.d,J I q.l] 31)) 31 #[O M 0 0,J I 0,J I 0];simpa using this):P:=h
theorem aqs {P:Prop}(h:P:=by rw[oy,fw,show Nat.min (l.length-i) (l.length-i)=l.length-i from Nat.min_self _];show l.length*2-i*2=_;omega):P:=h
theorem aqt {P:Prop}(h:P:=by rw[<-qc.A];exact(hB.cell (p:=⟨b,off+k*2+1,M⟩) cw).trans (hc k aK).2):P:=h
theorem aqu {P:Prop}(h:P:=by rw[<-pu.A];exact(hB.cell (p:=⟨b,off+k*2,M⟩) cw).trans (hc k aK).1):P:=h
theorem aqv {P:Prop}(h:P:=by simp only[bK];omega):P:=h
theorem aqw {P:Prop}(h:P:=by simp[bz,results319,go_sem,k0]):P:=h
theorem aqU {P:Prop}(h:P:=by have:=hB.size;show b<_;omega):P:=h
theorem aqx {P:Prop}(h:P:=by simp[intOf];have:=gY.A;omega):P:=h
theorem aqz {P:Prop}(h:P:=by have:=aW.size;simp at this;omega):P:=h
theorem aqy {P:Prop}(h:P:=by simp only[bK,nF];omega):P:=h
theorem aqA {P:Prop}(h:P:=by show w.heap.size+1≠w.heap.size;omega):P:=h
theorem aqB {P:Prop}(h:P:=by simp[bz,results302,go_sem,k0]):P:=h
theorem aqC {P:Prop}(h:P:=by show w.heap.size<=w.heap.size+1;omega):P:=h
theorem aqD {P:Prop}(h:P:=by have:=HN.A.1;show 1+nm.size<=66;omega):P:=h
theorem aqE {P:Prop}(h:P:=by cases e;rfl):P:=h
theorem aqF {P:Prop}(h:P:=by unfold bK;omega):P:=h
theorem aqG {P:Prop}(h:P:=by have:=KV.A;rw[qb] at this;exact this):P:=h
theorem aqH {P:Prop}(h:P:=by simp[bz,results166,go_sem]):P:=h
theorem aqI {P:Prop}(h:P:=by simp[bz,results165,go_sem]):P:=h
theorem aqJ {P:Prop}(h:P:=by simp only[nF];omega):P:=h
theorem aqK {P:Prop}(h:P:=by show _≠k0+1+1+1;have:=h.o;omega):P:=h
theorem aqL {P:Prop}(h:P:=by rw[b7];have:=dM.A;have:=aR.A;omega):P:=h
theorem aqM {P:Prop}(h:P:=by rw[tH,fw];show min (i*2) (l.length*2)=_;omega):P:=h
theorem aqN {P:Prop}(h:P:=by show _≠k0+1+1;have:=h.o;omega):P:=h
theorem aqO {P:Prop}(h:P:=by have:=bL.A.size;show b<_;omega):P:=h
theorem aqP {P:Prop}(h:P:=by have:=bg.size;show cH<_;omega):P:=h
theorem aqQ {P:Prop}(h:P:=by have:=aW.size;show cH<_;omega):P:=h
theorem aqR {P:Prop}(h:P:=by rw[b2];have:=HN.A.2.2.2;omega):P:=h
theorem aqT {P:Prop}(h:P:=by show _≠k0+1;have:=h.o;omega):P:=h
theorem aqS {P:Prop}(h:P:=by simp[bz,results154,go_sem,r0]):P:=h
theorem aqV {P:Prop}(h:P:=by have:=aR.A;show w.heap.size+1≠b;omega):P:=h
theorem aqW {P:Prop}(h:P:=by simp[bz,results55,go_sem,r0]):P:=h
theorem aqX {P:Prop}(h:P:=by rw[pH];have:=fH.A;omega):P:=h
theorem aqY {P:Prop}(h:P:=by simp[eB]):P:=h
theorem aqZ {P:Prop}(h:P:=by rw[HK.A,aa s1,Bool.and_false,Bool.and_false,Bool.false_and]):P:=h
theorem aq0 {P:Prop}(h:P:=by rw[show n-r.length=(bu m).length by omega,hl,List.drop_left]):P:=h
theorem aq1 {P:Prop}(h:P:=by simpa[qS] using hg):P:=h
theorem aq2 {P:Prop}(h:P:=by simp[bz,results170,go_sem]):P:=h
theorem aq3 {P:Prop}(h:P:=by rw[<-Act.put_comm a v cu h2];exact h.2):P:=h
theorem aq4 {P:Prop}(h:P:=by rw[hE.A];exact⟨rfl,⟨A9,n9,c9,rfl,HP.A,h1,h2⟩,rfl⟩):P:=h
theorem aq5 {P:Prop}(h:P:=by rw[Lib.cell_of_heap nB];rfl):P:=h
theorem aq6 {P:Prop}(h:P:=by rw[Lib.cell_of_heap bd];rfl):P:=h
theorem aq7 {P:Prop}(h:P:=by simp[bz,results88,go_sem]):P:=h
theorem aq8 {P:Prop}(h:P:=by rw[hg,e];rfl):P:=h
theorem aq9 {P:Prop}(h:P:=by rw[<-hc];unfold dp;rw[dif_pos aK];exact UInt8.toNat_lt _):P:=h
theorem arb {P:Prop}(h:P:=by show(0:Nat)<=_;omega):P:=h
theorem ara {P:Prop}(h:P:=by simpa[nh] using ht):P:=h
theorem arc {P:Prop}(h:P:=by show b<_;omega):P:=h
theorem ard {P:Prop}(h:P:=by have:=bA.A;simp only[World.size_setCell];exact this):P:=h
theorem are {P:Prop}(h:P:=by rw[b7];have:=dM.A;have:=xP.A;omega):P:=h
theorem arf {P:Prop}(h:P:=by simp only;omega):P:=h
theorem ez {P:Prop}(h:P:=by rw[oy,fw,lM,DE];show _+(l.length*2-i*2)<=G*2;omega):P:=h
theorem arh {P:Prop}(h:P:=by simp[bz,results85,go_sem,e0,e1]):P:=h
theorem eI {P:Prop}(h:P:=by rw[oy,fw,cS];show _+(l.length*2-i*2)<=cap*2;omega):P:=h
theorem eJ {P:Prop}(h:P:=by rw[oy,fw,b5];show _+(l.length*2-i*2)<=cap*2;omega):P:=h
theorem BY {P:Prop}(h:P:=by rw[jL,Array.length_toList,DD];show i*2+2<=_;omega):P:=h
theorem ars {P:Prop}(h:P:=by simp[bz,results90,go_sem,r0,r1]):P:=h
theorem ari {P:Prop}(h:P:=by simp[bz,results15,go_sem,g0,y0]):P:=h
theorem ark {P:Prop}(h:P:=by show _<256;omega):P:=h
theorem arj {P:Prop}(h:P:=by simp[World.setRow]):P:=h
theorem arl {P:Prop}(h:P:=by simpa[eB] using HS.A.rd.box.lt):P:=h
theorem arm {P:Prop}(h:P:=by rw[<-bD.1 e];exact ht):P:=h
theorem aro {P:Prop}(h:P:=by simp[bz,results280,go_sem,k0]):P:=h
theorem arn {P:Prop}(h:P:=by simp[bz,results153,go_sem,k0]):P:=h
theorem arp {P:Prop}(h:P:=by rw[cG];omega):P:=h
theorem arq {P:Prop}(h:P:=by rw[h] at er;cases er):P:=h
theorem art {P:Prop}(h:P:=by simp[bz,results53,go_sem,r0]):P:=h
theorem aru {P:Prop}(h:P:=by simp[bz,results54,go_sem,r0]):P:=h
theorem arv {P:Prop}(h:P:=by rw[Nat.pow_succ] at h;omega):P:=h
theorem arx {P:Prop}(h:P:=by simp[bz,results125,go_sem]):P:=h
theorem arw {P:Prop}(h:P:=by simp[bz,results214,go_sem]):P:=h
theorem ary {P:Prop}(h:P:=by simp[bz,results167,go_sem]):P:=h
theorem arz {P:Prop}(h:P:=by exact eN):P:=h
theorem wH {P:Prop}(h:P:=by rw[e]):P:=h
theorem yr {P:Prop}(h:P:=by rw[b2,p8];have:=kW.A;omega):P:=h
theorem CV {P:Prop}(h:P:=by rw[HE.A];rfl):P:=h
theorem K8 {P:Prop}(h:P:=by rw[cK];exact lV):P:=h
variable {n:Nat}
namespace bw
def bu (n:Nat):List UInt8:=if n<128 then[fN n] else fN (n % 128+128)::bu (n/128)
termination_by n
decreasing_by omega
def yC (h:n<128):bu n=[fN n]:=by rw[bu,ag h]
def CZ (h:¬n<128):bu n=fN (n % 128+128)::bu (n/128):=by rw[bu,af h]
def lN:Nat->Nat->Nat->List UInt8->Except Nat (Nat×List UInt8)
 |0,_,_,_=>.error 2
 |_+1,_,_,[]=>.error 3
 |f+1,i,aT,x::xs=>
  if 128<=x.toNat then lN f (i+1) (aT+x.toNat % 128*128^i) xs
  else if 1152921504606846976<aT+x.toNat % 128*128^i then .error 2
  else if x.toNat=0/\0<i then .error 1
  else .ok (aT+x.toNat % 128*128^i,xs)
def e9 (l:List UInt8):Except Nat (Nat×List UInt8):=lN 9 0 0 l
def ph:∀(f n:Nat),n<128^(f+1)->(bu n).length<=f+1
 |0,n,h=>by rw[yC (am h)];simp
 |f+1,n,h=>by
  by_cases a:n<128
  ·rw[yC a];simp
  ·rw[CZ a];have:=ph f (n/128) arv;simp;omega
def E1 (n:Nat):0<(bu n).length:=by
 by_cases h:n<128
 ·rw[yC h];simp
 ·rw[CZ h];simp
def Vv:∀(f n i aT:Nat) (t:List UInt8),n<128^(f+1)->(0<n\/i=0)->aT+n*128^i<=1152921504606846976->lN (f+1) i aT (bu n++t)= .ok (aT+n*128^i,t)
 |f,n,i,aT,t,h,hp,hm=>by
  by_cases b:n<128
  ·rw[yC b];have e:(fN n).toNat=n:=UInt8.toNat_ofNat_of_lt' ark;simp only[List.cons_append,List.nil_append,lN,e,Nat.mod_eq_of_lt b];rw[af an,af an,af an]
  ·rw[CZ b];have g:∃a,f=a+1:=by
    cases f with
    |zero=>simp at h;omega
    |succ a=>exact⟨a,rfl⟩
   obtain⟨a,rfl⟩:=g;have l:=Nat.mod_lt n (show 0<128 by omega);have e:(fN (n % 128+128)).toNat=n % 128+128:=UInt8.toNat_ofNat_of_lt' ark;simp only[List.cons_append,lN,e];rw[ag an];have j:(n % 128+128) % 128=n % 128:=an;rw[j];have c:aT+n % 128*128^i+n/128*128^(i+1)=aT+n*128^i:=by
    have:=Nat.mod_add_div n 128;rw[Nat.pow_succ];generalize 128^i=P;have k:n*P=n % 128*P+n/128*(P*128):=by
     have d:(n % 128+128*(n/128))*P=n*P:=by rw[this]
     rw[<-d,Nat.add_mul,Nat.mul_comm 128 (n/128),Nat.mul_assoc (n/128) 128 P,Nat.mul_comm 128 P]
    omega
   rw[Vv a (n/128) (i+1) _ t arv (.inl an) (by rw[c];exact hm),c]
def pj (n:Nat) (h:n<=1152921504606846976):n<128^9:=by
 have:(128:Nat)^9=9223372036854775808:=av;omega
def C0 (n:Nat) (t:List UInt8) (h:n<=1152921504606846976):e9 (bu n++t)= .ok (n,t):=by
 have:=Vv 8 n 0 0 t (pj n h) (.inr rfl) (am h);simpa[e9] using this
def Vw:∀(f i aT:Nat) (l:List UInt8) (m:Nat) (r:List UInt8),aT<128^i->lN f i aT l= .ok (m,r)->∃n,m=aT+n*128^i/\l=bu n++r/\m<=1152921504606846976/\(0<n\/i=0)
 |0,_,_,_,_,_,_,h=>by simp[lN] at h
 |_+1,_,_,[],_,_,_,h=>by simp[lN] at h
 |f+1,i,aT,x::xs,m,r,ha,h=>by
  have p:=x.toNat_lt
  simp only[lN] at h
  by_cases c:128<=x.toNat
  ·rw[ag c] at h;have e0:x.toNat % 128=x.toNat-128:=an;rw[e0] at h;have o:aT+(x.toNat-128)*128^i<128^(i+1):=by
    have:(x.toNat-128)*128^i<=127*128^i:=sa _ an;rw[Nat.pow_succ];omega
   obtain⟨n,k,j,g,a⟩:=Vw f (i+1) _ xs m r o h;have hn:0<n:=by
    rcases a with a|a
    ·exact a
    ·omega
   refine⟨128*n+(x.toNat-128),?_,?_,g,.inl an⟩
   ·rw[k,Nat.pow_succ];generalize 128^i=P;rw[Nat.add_mul (128*n),Nat.mul_comm 128 n,Nat.mul_assoc n 128 P,Nat.mul_comm P 128];omega
   ·have d:(128*n+(x.toNat-128))/128=n:=by omega
    have e:(128*n+(x.toNat-128)) % 128+128=x.toNat:=an;rw[CZ an,d,e,j];simp
  ·rw[af c] at h;have e0:x.toNat % 128=x.toNat:=an;rw[e0] at h;by_cases h2:1152921504606846976<aT+x.toNat*128^i
   ·rw[ag h2] at h;cases h
   ·rw[af h2] at h;by_cases b:x.toNat=0/\0<i
    ·rw[ag b] at h;cases h
    ·rw[af b] at h;cases h;refine⟨x.toNat,rfl,?_,an,an⟩;rw[yC an];simp
def C3 {l:List UInt8} {m:Nat} {r:List UInt8} (h:e9 l= .ok (m,r)):l=bu m++r/\m<=1152921504606846976:=by
 obtain⟨n,a,c,b,-⟩:=Vw 9 0 0 l m r aq h;simp at a;subst a;exact⟨c,b⟩
def Vx:∀(f i aT:Nat) (l:List UInt8) (c:Nat),lN f i aT l= .error c->c≠0
 |0,_,_,_,c,h=>by simp[lN] at h;omega
 |_+1,_,_,[],c,h=>by simp[lN] at h;omega
 |f+1,i,aT,x::xs,c,h=>by
  simp only[lN] at h
  split at h
  ·exact Vx f _ _ xs c h
  ·split at h
   ·cases h;omega
   ·split at h
    ·cases h;omega
    ·cases h
def wN {l:List UInt8} {c:Nat} (h:e9 l= .error c):c≠0:=Vx _ _ _ _ _ h
end bw
variable {b:Nat}
namespace arA
def rd (c:Nat):Nat:=c/2^^^(if c % 2=1 then 3988292384 else 0)
def gA:Nat->Nat->Nat
 |0,c=>c
 |n+1,c=>gA n (rd c)
def p9 (c x:Nat):Nat:=gA 8 (c^^^x)
def mq (c:Nat):List Nat->Nat
 |[]=>c
 |x::l=>mq (p9 c x) l
def sum (l:List Nat):Nat:=4294967295^^^mq 4294967295 l
def ae3 (a b:Nat):(a^^^b)/2=a/2^^^b/2:=by
 apply Nat.eq_of_testBit_eq;intro i;simp[Nat.testBit_div_two,Nat.testBit_xor]
def ae4 (a b:Nat):(a^^^b) % 2=1↔¬(a % 2=1↔b % 2=1):=by
 have h:=Nat.testBit_xor (x:=a) (y:=b) (i:=0);simp only[Nat.testBit_zero] at h;by_cases c:a % 2=1<;>by_cases Z:b % 2=1<;>simp_all
def ae5 (a b:Nat):rd (a^^^b)=rd a^^^rd b:=by
 unfold rd;rw[ae3];have h:=ae4 a b;by_cases c:a % 2=1<;>by_cases Z:b % 2=1<;>simp only[c,Z,h,iff_true,iff_false,not_true,not_false_eq_true,if_true,if_false,Nat.xor_zero]<;>(apply Nat.eq_of_testBit_eq;intro i;simp only[Nat.testBit_xor];cases(a/2).testBit i<;>cases(b/2).testBit i<;>cases(3988292384:Nat).testBit i<;>rfl)
def ae6 (n a b:Nat):gA n (a^^^b)=gA n a^^^gA n b:=by
 induction n generalizing a b with
 |zero=>rfl
 |succ n c=>simp only[gA,ae5,c]
def ae7 {c:Nat} (h:c<4294967296):rd c<4294967296:=by
 have h2:(4294967296:Nat)=2^32:=aq;unfold rd;rw[h2];apply Nat.xor_lt_two_pow
 ·omega
 ·split<;>omega
def Li (n:Nat) {c:Nat} (h:c<4294967296):gA n c<4294967296:=by
 induction n generalizing c with
 |zero=>exact h
 |succ n a=>exact a (ae7 h)
def ae8 (m n c:Nat):gA (m+n) c=gA n (gA m c):=by
 induction m generalizing c with
 |zero=>simp[gA]
 |succ m a=>rw[show m+1+n=(m+n)+1 from by omega];simp only[gA,a]
def ae9 (n x:Nat):gA n (x*2^n)=x:=by
 induction n generalizing x with
 |zero=>simp[gA]
 |succ n a=>
  have e:rd (x*2^(n+1))=x*2^n:=by
   unfold rd;rw[Nat.pow_succ,<-Nat.mul_assoc,Nat.mul_div_cancel _ an,af an,Nat.xor_zero]
  simp only[gA,e,a]
def afa (y:Nat):y % 256^^^y/256*256=y:=by
 apply Nat.eq_of_testBit_eq;intro i;rw[show(256:Nat)=2^8 from by decide];simp only[Nat.testBit_xor,Nat.testBit_mod_two_pow,Nat.testBit_mul_two_pow,Nat.testBit_div_two_pow];by_cases h:i<8
 ·simp[h,show¬8<=i from by omega]
 ·simp[h,show 8<=i from by omega,show i-8+8=i from by omega]
def afb (y:Nat):gA 8 (y % 256)^^^y/256=gA 8 y:=by
 have h:=ae6 8 (y % 256) (y/256*256);rw[afa,show(256:Nat)=2^8 from by decide,ae9] at h;exact h.symm
def VI (c x:Nat) (d:x<256):(c^^^x) % 256=c % 256^^^x/\(c^^^x)/256=c/256:=by
 constructor
 ·have h:=Nat.xor_mod_two_pow (a:=c) (b:=x) (n:=8);simp only[Nat.reducePow] at h;rw[h,Nat.mod_eq_of_lt d]
 ·have h:=Nat.xor_div_two_pow (a:=c) (b:=x) (n:=8);simp only[Nat.reducePow] at h;rw[h,Nat.div_eq_of_lt d,Nat.xor_zero]
def afc (c x:Nat) (a:x<256):gA 8 (c % 256^^^x)^^^c/256=p9 c x:=by
 have h:=afb (c^^^x);rw[(VI c x a).1,(VI c x a).2] at h;exact h
def Pd {a:Nat} (c:a<4294967296) (Z:b<4294967296):a^^^b<4294967296:=by
 have h2:(4294967296:Nat)=2^32:=aq;rw[h2] at*;exact Nat.xor_lt_two_pow c Z
def afd {c x:Nat} (a:c<4294967296) (b:x<256):p9 c x<4294967296:=Li 8 (Pd a an)
def Pe {c:Nat} {l:List Nat} (b:c<4294967296) (a:∀x∈l,x<256):mq c l<4294967296:=by
 induction l generalizing c with
 |nil=>exact b
 |cons x l d=>exact d (afd b (a x av)) λy e=>a y (by simp[e])
def Pf {l:List Nat} (a:∀x∈l,x<256):sum l<4294967296:=Pd an (Pe an a)
def afe (c:Nat) (a b:List Nat):mq c (a++b)=mq (mq c a) b:=by
 induction a generalizing c with
 |nil=>rfl
 |cons x a d=>exact d _
end arA
namespace im
def dT (t:Int):Bool:=decide (0<=t)&&decide (t<=9007199254740992)
def ey (n:Int):Int:=min (max n 0) 9007199254740992
structure Hd where
 on:Bool
 dB:Int
 hit:Bool
 eW:Int
def none_:Hd:=⟨false,0,false,0⟩
def fe (h:Hd):Bool:=dT h.dB&&dT h.eW&&(h.on||h.dB==0)&&(h.hit||h.eW==0)
def lR (h:Hd):Hd:=if fe h=true then h else none_
def Wj (f t k:Int):Bool:=decide (0<k)&&decide (f<t)&&decide (t-f<k)
def E9 (h:Hd) (t k:Int):Int:=if(h.hit&&(h.eW==t||Wj h.eW t k))=true then 2 else if h.on=true then 1 else 0
def aL (h:Hd) (t k:Int):Int:=E9 (lR h) (ey t) (ey k)
def wT (h:Hd) (c:Bool) (t wt:Int):Hd:=if c=true then let s:=if h.on=true/\h.dB<=t then h.dB else t;if wt<=t-s then⟨true,s,true,t⟩ else⟨true,s,h.hit,h.eW⟩ else⟨false,0,h.hit,h.eW⟩
def pv (h:Hd) (c:Bool) (t wt:Int):Hd:=wT (lR h) c (ey t) (ey wt)
def Fa (h:Hd) (t k:Int):Bool:=(E9 h t k==0)&&!h.on&&(!h.hit||(decide (h.eW<t)&&decide (k<=t-h.eW)))
def gone (h:Hd) (t k:Int):Bool:=Fa (lR h) (ey t) (ey k)
def Lu (t:Int):dT t=true↔0<=t/\t<=9007199254740992:=by simp[dT]
def afZ (t:Int) (h:dT t=true):ey t=t:=by rw[Lu] at h;unfold ey;omega
def Wk (t:Int):dT (ey t)=true:=by rw[Lu];unfold ey;omega
def Lv (t:Int):ey (ey t)=ey t:=afZ _ (Wk t)
def Dg (t:Int):0<=ey t/\ey t<=9007199254740992:=by unfold ey;omega
def Lw (h:Hd):fe h=true↔dT h.dB=true/\dT h.eW=true/\(h.on=true\/h.dB=0)/\(h.hit=true\/h.eW=0):=by
 simp[fe,and_assoc]
def af0:fe none_=true:=aq
def Io (h:Hd):fe (lR h)=true:=by
 unfold lR;split
 ·assumption
 ·exact af0
def af1 {h:Hd} (s:fe h=true):lR h=h:=ag s
def af2 (h:Hd):lR (lR h)=lR h:=af1 (Io h)
def Pw {h:Hd} (s:fe h=true):0<=h.dB/\h.dB<=9007199254740992/\0<=h.eW/\h.eW<=9007199254740992:=by
 rw[Lw,Lu,Lu] at s;omega
def af3 {h:Hd} (s:fe h=true) (c:Bool) (t wt:Int) (a:dT t=true):fe (wT h c t wt)=true:=by
 have Z:=Lw h|>.1 s;unfold wT;split
 ·dsimp only;split<;>split<;>rw[Lw]<;>simp_all
 ·rw[Lw];refine⟨(show dT 0=true by decide),Z.2.1,.inr rfl,Z.2.2.2⟩
def Wl (h:Hd) (c:Bool) (t wt:Int):fe (pv h c t wt)=true:=af3 (Io h) c _ _ (Wk t)
end im
variable {P:Prop}
noncomputable def Xa (f:Nat):String:=((aH.funcs[f]?).map (·.name)).getD ""
def agy {f:Nat} {B:Func} (a:(Xa f== "runtime.NumGoroutine")=false) (h2:aH.funcs[f]?=ad {B with name:=Xa f}):Bears aH f B:=⟨_,a,h2⟩
theorem rh (h:P:=by
 repeat' (first|kernel_rfl|(intro w;kernel_rfl)|(refine agy ?_ ?_<;>kernel_rfl)|decide|constructor)):P:=h
variable {w W w1:aB} {B k:Nat}
def aI (w:aB) (g:Nat) (t:bf) (cs:Array aE):Prop:=w.heap[g]?=ad (aD cs t (0,0))
section
variable {w w':aB} {g:Nat} {t:bf} {cs:Array aE}
def aI.lt (h:aI w g t cs):g<w.heap.size:=(lJ.1 h).1
def aI.cell (h:aI w g t cs) (i:Nat):w.cell? (ab g i M)=cs[i]?:=cell_of_row w g i cs t (0,0) h
def aI.frozen (h:aI w g t cs) (i:Nat):w.frozen? (ab g i M)=false:=by
 have h':w.heap[g]?=ad (aD cs t (0,0)):=h;simp[World.frozen?,h']
def aI.cf (h:aI w g t cs):(∀i,w.cell? (ab g i M)=cs[i]?)/\∀i,w.frozen? (ab g i M)=false:=⟨h.cell,h.frozen⟩
def aI.new (w:aB) (t:bf) (cs:Array aE):aI (w.alloc (aD cs t)) w.heap.size t cs:=qR w _
def aI.drew (h:aI w g t cs):aI w.drew g t cs:=h
def aI.drewN (h:aI w g t cs) (n:Nat):aI (w.drewN n) g t cs:=h
def aI.alloc (h:aI w g t cs) (o:Obj):aI (w.alloc o) g t cs:=(@heap_alloc_old w o g h.lt).trans h
def aI.put (h:aI w g t cs) (i:Nat) (u:aE):aI (w.setCell (ab g i M) u) g t (cs.setIfInBounds i u):=by
 have h':w.heap[g]?=ad (aD cs t (0,0)):=h;simp[aI,eB,yu,h']
def aI.bT (h:aI w g t cs) {p:aX} (a:g≠p.block) (u:aE):aI (w.setCell p u) g t cs:=(yv w p u g a).trans h
def aI.al (h:aI w g t cs) (Z:aS B w w') (hg:g<B):aI w' g t cs:=(Z.block g hg).trans h
def aI.grown {row:Option Nat} (h:aI w g t cs) (Z:w.grownBy w' row) (hg:ad g≠row):aI w' g t cs:=(Z.block g h.lt hg).trans h
def aI.setRow (h:aI w g t cs) (cs':Array aE):aI (w.setRow g cs') g t cs':=setRow_heap w g cs cs' t (0,0) h
def aI.aeL (h:aI w g t cs) {g':Nat} (a:g≠g') (cs':Array aE):aI (w.setRow g' cs') g t cs:=by
 have h':w.heap[g]?=ad (aD cs t (0,0)):=h;simp[aI,World.setRow,yu,Ne.symm a,h']
end
def below_setRow {a:aB} (h:aS B a w) {g:Nat} (hg:B<=g) (cs:Array aE):aS B a (w.setRow g cs):=h.trans ⟨rfl,rfl,rfl,arj,λk b=>by
 simp only[World.setRow,yu];rw[af an]⟩
def below_drewN {a:aB} (h:aS B a w) (n:Nat):aS B a (w.drewN n):=⟨h.os,h.tape,h.output,h.size,h.block⟩
def Sl (w:aB) (B:Nat) (ao:Option aX) (n:Nat) (V:Nat->aE):Prop:=0<n->∃b off,ao=ad (ab b off M)/\b<B/\∀i,i<n->w.cell? ⟨b,off+i,M⟩=ad (V i)
section
variable {w w':aB} {B B' n:Nat} {ao:Option aX} {V:Nat->aE}
def Sl.zero (w:aB) (B:Nat) (ao:Option aX) (V:Nat->aE):Sl w B ao 0 V:=λh=>ae h an
def Sl.keep (h:Sl w B ao n V) (a:∀b o,b<B->w'.cell? (ab b o M)=w.cell? (ab b o M)):Sl w' B ao n V:=λhn=>by
 obtain⟨b,off,e,Z,c⟩:=h hn;exact⟨b,off,e,Z,λi hi=>(a b _ Z).trans (c i hi)⟩
def Sl.al (h:Sl w B ao n V) (Z:aS B w w'):Sl w' B ao n V:=h.keep λ_ _ a=>Z.cell a
def Sl.bt (h:Sl w B ao n V) (hB:B<=B'):Sl w B' ao n V:=λhn=>by
 obtain⟨b,off,e,Z,a⟩:=h hn;exact⟨b,off,e,an,a⟩
def Sl.drew (h:Sl w B ao n V):Sl w.drew B ao n V:=h
def Sl.drewN (h:Sl w B ao n V) (k:Nat):Sl (w.drewN k) B ao n V:=h
def Sl.alloc (h:Sl w B ao n V) (hB:B<=w.heap.size) (o:Obj):Sl (w.alloc o) B ao n V:=h.keep λb o' a=>World.cell?_alloc_lt w o (ab b o' M) (by exact da a hB)
def Sl.setCell (h:Sl w B ao n V) {p:aX} (hB:B<=p.block) (u:aE):Sl (w.setCell p u) B ao n V:=h.keep λb o a=>World.cell?_setCell_other w p (ab b o M) u (λe=>by subst e;simp at hB;omega)
def Sl.grown (h:Sl w B ao n V) {row:Option Nat} (hg:w.grownBy w' row) (hB:B<=w.heap.size) (a:∀g,row=ad g->B<=g):Sl w' B ao n V:=h.keep λb o c=>wK (hg.block b an (λe=>by have:=a _ e.symm;omega))
def Sl.congr {a:Nat->aE} (h:Sl w B ao n V) (e:∀i,i<n->V i=a i):Sl w B ao n a:=λhn=>by
 obtain⟨b,off,c,Z,d⟩:=h hn;exact⟨b,off,c,Z,λi hi=>(d i hi).trans (by rw[e i hi])⟩
end
def wL (l:List UInt8):Nat->aE:=λi=>J .u8 ((l.getD i 0).toNat:Int)
structure Bs (w:aB) (B:Nat) (ao:Option aX) (n:Nat) (l:List UInt8):Prop where
 len:l.length=n
 sl:Sl w B ao n (wL l)
section
variable {w w':aB} {B B' n:Nat} {ao:Option aX} {l:List UInt8}
def Bs.bh (w:aB) (B:Nat) (ao:Option aX):Bs w B ao 0 []:=⟨rfl,Sl.zero _ _ _ _⟩
def Bs.al (h:Bs w B ao n l) (Z:aS B w w'):Bs w' B ao n l:=⟨h.len,h.sl.al Z⟩
def Bs.bt (h:Bs w B ao n l) (hB:B<=B'):Bs w B' ao n l:=⟨h.len,h.sl.bt hB⟩
def Bs.keep (h:Bs w B ao n l) (a:∀b o,b<B->w'.cell? (ab b o M)=w.cell? (ab b o M)):Bs w' B ao n l:=⟨h.len,h.sl.keep a⟩
def Bs.drew (h:Bs w B ao n l):Bs w.drew B ao n l:=⟨h.len,h.sl⟩
def Bs.drewN (h:Bs w B ao n l) (k:Nat):Bs (w.drewN k) B ao n l:=⟨h.len,h.sl⟩
def Bs.aL (h:Bs w1 w1.heap.size ao n l) (Z:aS w1.heap.size w1 W):Bs W W.heap.size ao n l:=⟨h.len,(h.sl.al Z).bt Z.size⟩
def Bs.at_ (h:Bs w B ao n l) (a:k<n):∃b off,ao=ad (ab b off M)/\b<B/\w.cell? ⟨b,off+k,M⟩=ad (J .u8 ((l.getD k 0).toNat:Int)):=by
 obtain⟨b,off,e,Z,c⟩:=h.sl an;exact⟨b,off,e,Z,c k a⟩
end
def Bs.fresh (w:aB) (t:bf) (cs:Array aE) (fr:Nat×Nat) (l:List UInt8) (n:Nat) (hn:l.length=n) (h:cs.toList=l.map λx=>J .u8 (x.toNat:Int)):Bs (w.alloc (aD cs t fr)) (w.alloc (aD cs t fr)).heap.size (ad (ab w.heap.size 0 M)) n l:=by
 subst hn;refine⟨rfl,λ_=>⟨w.heap.size,0,rfl,av,λi hi=>?_⟩⟩;rw[ig,cell_of_row _ _ i cs t fr (qR w _),<-Array.getElem?_toList,h];simp[wL,hi]
variable {g cap:Nat} {a:bb} {o:bv} {Q:Exit->bb->aB->Prop} {ops:Array bv} {rest:List bv} {K:bb->aB->Prop} {C6:Prop}
section
variable {P:cp} (w:aB)
def aeP (base:Nat) (t ty e:bf) (i:TypeInfo) (size:Nat) (a:P.underlying t=ad (.slice e)) (hi:P.info? e=ad i) (v:aE) (n:Nat) (b:List aE) (d:w.ownsRow base e size v n b) (c:Nat):(tI #[t,t] ty #[v,O M 0 c]).run P w= .ok v w:=by
 rcases d.2 with⟨rfl,rfl⟩|⟨g,cap,cur,rfl,_,_,fP,_⟩
 ·simp[tI,mf a,sizeOf,typeInfo,hi,Builtin.lenOf,Builtin.firstCells]
 ·simp[tI,mf a,sizeOf,typeInfo,hi,Builtin.lenOf,Builtin.firstCells,fP,storeCells]
def Vz (base:Nat) (t ty e:bf) (i:TypeInfo) (z:aE) (size d:Nat) (p:P.underlying t=ad (.slice e)) (hi:P.info? e=ad i) (E:i.zero=ad z) (S:i.size=size) (y:i.bytes=d) (C:z.cells.size=size) (s:0<size) (v:aE) (n:Nat) (g:List aE) (k:w.ownsRow base e size v n g) (B:Nat) (ao:Option aX) (m c:Nat) (V:Nat->aE) (a:List aE) (q:Sl w B ao (m*size) V) (r:a.length=m*size) (H:∀j u,a[j]?=ad u->u=V j) (K:∀u∈a,u.oneCell'=true) (L:n+m<=bK) (R:(n+m)*d<=140737488355328) (Q:base<=w.heap.size):∃f w',(tI #[t,t] ty #[v,O ao m c]).run P w= .ok f w'/\w'.ownsRow base e size f (n+m) (g++a)/\w.grownBy w' v.ownBlock/\(f.ownBlock=v.ownBlock\/f.ownBlock=ad w.heap.size):=by
 rcases ao with _|O6
 ·have F:m=0:=by
   rcases kJ m with h0|h0
   ·exact h0
   ·obtain⟨_,_,h,_⟩:=q (Nat.mul_pos h0 s);cases h
  subst F;have hn:a=[]:=sb (am r);subst hn;exact⟨v,w,aeP w base t ty e i size p hi v n g k c,am k,EZ w _,.inl rfl⟩
 ·have l:∀j u,a[j]?=ad u->w.cell? (O6.add j)=ad u:=by
   intro j u o;have hj:j<a.length:=(yy.1 o).1;obtain⟨b,off,h,_,G⟩:=q an;injection h with h;subst h;have D:((ab b off M):aX).add j=⟨b,off+j,M⟩:=aqj;rw[D,G j an,H j u o]
  obtain⟨f,w',N,h2,J,_,I⟩:=run_append_own_at (P:=P) w base t ty e i z size d p hi E S y C s v n g k O6 m c a r l K L R Q;exact⟨f,w',N,h2,J,I⟩
def VA (s x:Operand) (t:bf) (ho:o.op= .call {callee:=.builtin .append,args:=#[s,x],argTypes:=#[t,t]}) (base:Nat) (e:bf) (i:TypeInfo) (z:aE) (size d:Nat) (r:P.underlying t=ad (.slice e)) (hi:P.info? e=ad i) (p:i.zero=ad z) (M:i.size=size) (k:i.bytes=d) (l:z.cells.size=size) (J:0<size) (v:aE) (n:Nat) (g:List aE) (hs:a.eval s=v) (I:w.ownsRow base e size v n g) (B:Nat) (ao:Option aX) (m c:Nat) (V:Nat->aE) (b:List aE) (q:a.eval x=O ao m c) (y:Sl w B ao (m*size) V) (G:b.length=m*size) (A:∀j u,b[j]?=ad u->u=V j) (D:∀u∈b,u.oneCell'=true) (E:n+m<=bK) (L:(n+m)*d<=140737488355328) (H:base<=w.heap.size) (h:∀f w',w'.ownsRow base e size f (n+m) (g++b)->w.grownBy w' v.ownBlock->(f.ownBlock=v.ownBlock\/f.ownBlock=ad w.heap.size)->K (a.put o.dst f) w'):o.wp P a w K Q:=by
 obtain⟨f,w',F,h2,C,h4⟩:=Vz (P:=P) w base t o.type e i z size d r hi p M k l J v n g I B ao m c V b y G A D E L H;unfold Oper.wp execOp;simp only[ho,resolve,invoke,builtin,Sem.run_bind,Sem.run_pure,Result.andThen_ok,List.map_toArray,sd,List.map_nil,hs,q,F];exact h f w' h2 C h4
def VB (F:o.guard=M) (s x:Operand) (t:bf) (ho:o.op= .call {callee:=.builtin .append,args:=#[s,x],argTypes:=#[t,t]}) (base:Nat) (e:bf) (i:TypeInfo) (z:aE) (size d:Nat) (r:P.underlying t=ad (.slice e)) (hi:P.info? e=ad i) (p:i.zero=ad z) (N:i.size=size) (k:i.bytes=d) (l:z.cells.size=size) (K:0<size) (v:aE) (n:Nat) (g:List aE) (hs:a.eval s=v) (J:w.ownsRow base e size v n g) (B:Nat) (ao:Option aX) (m c:Nat) (V:Nat->aE) (b:List aE) (q:a.eval x=O ao m c) (y:Sl w B ao (m*size) V) (H:b.length=m*size) (A:∀j u,b[j]?=ad u->u=V j) (E:∀u∈b,u.oneCell'=true) (G:n+m<=bK) (L:(n+m)*d<=140737488355328) (I:base<=w.heap.size) (h:∀f w',w'.ownsRow base e size f (n+m) (g++b)->w.grownBy w' v.ownBlock->(f.ownBlock=v.ownBlock\/f.ownBlock=ad w.heap.size)->wpList P ops Q rest (a.put o.dst f) w'):wpList P ops Q (o::rest) a w:=wpList_plain F λ_ C=>VA w s x t ho base e i z size d r hi p N k l K v n g hs J B ao m c V b q y H A E G L I λf w' h2 D h4=>C _ _ (h f w' h2 D h4)
def aeR (E:o.guard=M) (s x:Operand) (t:bf) (ho:o.op= .call {callee:=.builtin .append,args:=#[s,x],argTypes:=#[t,t]}) (base:Nat) (e:bf) (i:TypeInfo) (z:aE) (size d:Nat) (y:P.underlying t=ad (.slice e)) (hi:P.info? e=ad i) (p:i.zero=ad z) (N:i.size=size) (k:i.bytes=d) (l:z.cells.size=size) (J:0<size) (v:aE) (n:Nat) (g:List aE) (hs:a.eval s=v) (I:w.ownsRow base e size v n g) (B:Nat) (ao:Option aX) (m c:Nat) (V:Nat->aE) (b:List aE) (q:a.eval x=O ao m c) (A:Sl w B ao (m*size) V) (G:b.length=m*size) (C:∀j u,b[j]?=ad u->u=V j) (D:∀u∈b,u.oneCell'=true) (F:n+m<=bK) (L:(n+m)*d<=140737488355328) (H:base<=w.heap.size) (h:∀f w',w'.ownsRow base e size f (n+m) (g++b)->w.grownBy w' v.ownBlock->(f.ownBlock=v.ownBlock\/f.ownBlock=ad w.heap.size)->K (a.put o.dst f) w'):if dz o (dR ops a.tmps)=true then Oper.wp P o a w K Q else C6:=by
 have r:dz o (dR ops a.tmps)=true:=by simp[dz,E]
 rw[ag r];exact VA w s x t ho base e i z size d y hi p N k l J v n g hs I B ao m c V b q A G C D F L H h
end
def ca (x:UInt8):aE:=J .u8 (x.toNat:Int)
def O7 (l:List UInt8):∀u∈l.map ca,u.oneCell'=true:=by
 intro u a;obtain⟨x,_,rfl⟩:=hM.1 a;rfl
def VC (l:List UInt8):∀j u,(l.map ca)[j]?=ad u->u=wL l j:=by
 intro j u a;rw[tJ] at a;obtain⟨x,b,rfl⟩:=Option.map_eq_some_iff.1 a;simp[wL,ca,b]
def bQ (w:aB) (base e:Nat) (v:aE) (l:List UInt8):Prop:=w.ownsRow base e 1 v l.length (l.map ca)
section
variable {w w':aB} {base e:Nat} {v:aE} {l:List UInt8}
def bQ.bh (w:aB) (base e:Nat):bQ w base e (O M 0 0) []:=World.ownsRow_nil _ _ _ _
theorem Ld (h:P:=by
 rcases h.2 with⟨h1,h2⟩|⟨g,cap,cur,hv,hg,hh,hc,hm,_⟩
 ·exact .inl ⟨h1,sb h2⟩
 ·exact .inr ⟨g,cap,hv,hg,(lJ.1 hh).1,hc,hm⟩
 ):P:=h
def bQ.form (h:bQ w base e v l):(v=O M 0 0/\l=[])\/∃g cap,v=O (ad (ab g 0 M)) l.length cap/\base<=g/\g<w.heap.size/\l.length<=cap/\cap<=bK:=by
 exact Ld
def bQ.bs (h:bQ w base e v l):∃ao n cap,v=O ao n cap/\Bs w w.heap.size ao n l/\n<=cap/\cap<=bK:=by
 rcases h.form with⟨rfl,rfl⟩|⟨g,cap,rfl,_,aK,hc,hm⟩
 ·exact⟨M,0,0,rfl,Bs.bh _ _ _,aO _,bV _⟩
 ·refine⟨_,_,cap,rfl,⟨rfl,λ_=>⟨g,0,rfl,aK,λi hi=>?_⟩⟩,hc,hm⟩;have:=World.ownsRow.cells h (g:=g) rfl i (ca (l.getD i 0)) (by simp[hi]);have a:((ab g 0 M):aX).add i=⟨g,0+i,M⟩:=aqj;rw[a] at this;exact this
def bQ.VD (h:bQ w base e (O (ad (ab g 0 M)) n cap) l):n=l.length:=by
 rcases h.form with⟨hv,_⟩|⟨_,_,hv,_⟩
 ·cases hv
 ·injection hv
def bQ.cell (h:bQ w base e (O (ad (ab g 0 M)) n cap) l) {j:Nat} (hj:j<l.length):w.cell? (ab g j M)=ad (J .u8 ((l.getD j 0).toNat:Int)):=by
 obtain rfl:=h.VD;rw[World.ownsRow.cellAt h j an];simp[ca,hj]
def bQ.frozen (h:bQ w base e (O (ad (ab g 0 M)) n cap) l) (j:Nat):w.frozen? (ab g j M)=false:=by
 obtain rfl:=h.VD;exact World.ownsRow.frozenAt h j
def bQ.alloc (h:bQ w base e v l) (o:Obj):bQ (w.alloc o) base e v l:=World.ownsRow.alloc h o
def bQ.drew (h:bQ w base e v l):bQ w.drew base e v l:=h
def bQ.drewN (h:bQ w base e v l) (n:Nat):bQ (w.drewN n) base e v l:=h
def bQ.kept (h:bQ w base e v l) {row:Option Nat} (hg:w.grownBy w' row) (a:v.ownBlock=M\/v.ownBlock≠row):bQ w' base e v l:=World.ownsRow.kept h hg a
def bQ.al (h:bQ w base e v l) (Z:aS w.heap.size w w'):bQ w' base e v l:=World.ownsRow.kept (row:=M) h ⟨Z.os,Z.tape,Z.output,Z.size,λk a _=>Z.block k a⟩ (by
 rcases h.form with⟨rfl,_⟩|⟨g,cap,rfl,_⟩
 ·exact .inl rfl
 ·exact .inr (by simp[qS]))
def bQ.nI (h:bQ w base e v l):∀k,v.ownBlock=ad k->base<=k:=λk a=>(CX h k a).1
def bQ.lt (h:bQ w base e v l):∀k,v.ownBlock=ad k->k<w.heap.size:=λk a=>(CX h k a).2
def bQ.fresh (w:aB) (e:bf) (l:List UInt8) (cs:Array aE) (a:cs.toList=l.map ca) (n:Nat) (hn:n=l.length) (Z:base<=w.heap.size) (b:l.length<=bK):bQ (w.alloc (aD cs e)) base e (O (ad (ab w.heap.size 0 M)) n n) l:=by
 subst hn;have c:cs.size=l.length:=by rw[<-Array.length_toList,a];simp
 refine⟨av,.inr ⟨w.heap.size,l.length,cs,rfl,Z,qR w _,aO _,b,an,?_⟩⟩;rw[a];exact List.take_of_length_le av
end
section
variable {P:cp} {w:aB}
def yD (p:o.guard=M) (s x:Operand) (t:bf) (ho:o.op= .call {callee:=.builtin .append,args:=#[s,x],argTypes:=#[t,t]}) (base:Nat) (e:bf) (j:P.underlying t=ad (.slice e)) (hi:(P.info? e).map (λi=>(i.zero,i.size,i.bytes))=ad (ad (J .u8 0),1,1)) (v:aE) (l:List UInt8) (hs:a.eval s=v) (z:bQ w base e v l) (B:Nat) (ao:Option aX) (m c:Nat) (l2:List UInt8) (g:a.eval x=O ao m c) (d:Bs w B ao m l2) (A:l.length+m<=140737488355328) (y:base<=w.heap.size) (h:∀b w',bQ w' base e b (l++l2)->w.grownBy w' v.ownBlock->(b.ownBlock=v.ownBlock\/b.ownBlock=ad w.heap.size)->wpList P ops Q rest (a.put o.dst b) w'):wpList P ops Q (o::rest) a w:=by
 obtain⟨f,hi,q,u,r⟩:=info_parts hi;refine VB w p s x t ho base e f _ 1 1 j hi q u r rfl aq v l.length (l.map ca) hs z B ao m c (wL l2) (l2.map ca) g (by rw[Nat.mul_one];exact d.sl) (by simp[d.len]) (VC l2) (O7 l2) aqF an y ?_;intro b w' n h2 k;refine h b w' ?_ h2 k;unfold bQ;rw[b2,d.len,lK];exact n
end
variable {off:Nat}
def Pb {l:List UInt8} (h:Bs w B (ad (ab b off M)) n l):∀j u,(l.map ca)[j]?=ad u->w.cell? ⟨b,off+j,M⟩=ad u:=by
 intro j u a;have hj:j<n:=by rw[<-h.len];simpa using(yy.1 a).1
 obtain⟨b',f,e,-,d⟩:=h.at_ hj;cases e;rw[d];rw[tJ] at a;obtain⟨x,c,rfl⟩:=Option.map_eq_some_iff.1 a;simp[ca,c]
section
variable {P:cp} {w:aB}
def Pc (C:o.guard=M) (s x:Operand) (t:bf) (ho:o.op= .call {callee:=.builtin .append,args:=#[s,x],argTypes:=#[t,t]}) (e:bf) (y:P.underlying t=ad (.slice e)) (hi:(P.info? e).map (λi=>(i.zero,i.size,i.bytes))=ad (ad (J .u8 0),1,1)) (b off n:Nat) (l:List UInt8) (hs:a.eval s=O (ad (ab b off M)) n n) (G:Nat) (Z:Bs w G (ad (ab b off M)) n l) (B:Nat) (ao:Option aX) (m c:Nat) (l2:List UInt8) (r:a.eval x=O ao m c) (f:Bs w B ao m l2) (z:0<m) (H:n+m<=140737488355328) (h:∀d w',bQ w' w.heap.size e d (l++l2)->w.grownBy w' M->wpList P ops Q rest (a.put o.dst d) w'):wpList P ops Q (o::rest) a w:=by
 obtain⟨q,hi,D,F,E⟩:=info_parts hi;obtain⟨gz,g,rfl,-,-⟩:=f.at_ z;refine wpList_append_arg w C s x t ho e q _ 1 1 y hi D F E rfl aq b off n n (l.map ca) hs (by simp[Z.len]) (Pb Z) (ab gz g M) m c (l2.map ca) r (by simp[f.len]) (λj u v=>by
  have p:((ab gz g M):aX).add j=⟨gz,g+j,M⟩:=aqj;rw[p];exact Pb f j u v) (O7 l2) (λk=>ae k an) aqF an (λk=>ae k an) (λ_ d w' A h2=>?_)
 refine h d w' ?_ h2;unfold bQ;rw[b2,Z.len,f.len,lK];exact A
def ae2 (j:o.guard=M) (s x:Operand) (t:bf) (ho:o.op= .call {callee:=.builtin .append,args:=#[s,x],argTypes:=#[t,t]}) (e:bf) (d:P.underlying t=ad (.slice e)) (hi:(P.info? e).map (λi=>(i.zero,i.size,i.bytes))=ad (ad (J .u8 0),1,1)) (b off n:Nat) (hs:a.eval s=O (ad (ab b off M)) n n) (ao:Option aX) (c:Nat) (f:a.eval x=O ao 0 c) (h:wpList P ops Q rest (a.put o.dst (O (ad (ab b off M)) n n)) w):wpList P ops Q (o::rest) a w:=by
 obtain⟨l,hi,m,q,p⟩:=info_parts hi;refine wpList_plain j λK g=>?_;have k:(tI #[t,t] o.type #[O (ad (ab b off M)) n n,O ao 0 c]).run P w= .ok (O (ad (ab b off M)) n n) w:=by
  cases ao with
  |none=>simp[tI,mf d,sizeOf,typeInfo,hi,Builtin.lenOf,Builtin.firstCells,storeCells]
  |some r=>simp[tI,mf d,sizeOf,typeInfo,hi,Builtin.lenOf,Builtin.firstCells,storeCells,loadCells,loadCellsFrom]
 unfold Oper.wp;simp[execOp,ho,resolve,invoke,builtin,hs,f,k,Result.andThen];exact g _ _ h
end
variable {ao:Option aX} {V:Nat->aE} {vg:Nat}
def Q2 (w:aB) (B:Nat) (ao:Option aX) (n:Nat) (V0 V1:Nat->aE):Prop:=0<n->∃b off,ao=ad (ab b off M)/\b<B/\∀i,i<n->w.cell? ⟨b,off+i*2,M⟩=ad (V0 i)/\w.cell? ⟨b,off+i*2+1,M⟩=ad (V1 i)
section
variable {w w':aB} {B B' n:Nat} {ao:Option aX} {V0 V1:Nat->aE}
def Q2.zero (w:aB) (B:Nat) (ao:Option aX) (V0 V1:Nat->aE):Q2 w B ao 0 V0 V1:=λh=>ae h an
def Q2.keep (h:Q2 w B ao n V0 V1) (a:∀b o,b<B->w'.cell? (ab b o M)=w.cell? (ab b o M)):Q2 w' B ao n V0 V1:=λhn=>by
 obtain⟨b,off,e,Z,c⟩:=h hn;exact⟨b,off,e,Z,λi hi=>⟨(a b _ Z).trans (c i hi).1,(a b _ Z).trans (c i hi).2⟩⟩
def Q2.al (h:Q2 w B ao n V0 V1) (Z:aS B w w'):Q2 w' B ao n V0 V1:=h.keep λ_ _ a=>Z.cell a
def Q2.bt (h:Q2 w B ao n V0 V1) (hB:B<=B'):Q2 w B' ao n V0 V1:=λhn=>by
 obtain⟨b,off,e,Z,a⟩:=h hn;exact⟨b,off,e,an,a⟩
def Q2.aL (h:Q2 w1 w1.heap.size ao n V0 V1) (Z:aS w1.heap.size w1 W):Q2 W W.heap.size ao n V0 V1:=(h.al Z).bt Z.size
def Q2.drew (h:Q2 w B ao n V0 V1):Q2 w.drew B ao n V0 V1:=h
def Q2.alloc (h:Q2 w B ao n V0 V1) (hB:B<=w.heap.size) (o:Obj):Q2 (w.alloc o) B ao n V0 V1:=h.keep λb o' a=>World.cell?_alloc_lt w o (ab b o' M) (by exact da a hB)
def Q2.setCell (h:Q2 w B ao n V0 V1) {p:aX} (hB:B<=p.block) (u:aE):Q2 (w.setCell p u) B ao n V0 V1:=h.keep λb o a=>World.cell?_setCell_other w p (ab b o M) u (λe=>by subst e;simp at hB;omega)
def Q2.grown (h:Q2 w B ao n V0 V1) {row:Option Nat} (hg:w.grownBy w' row) (hB:B<=w.heap.size) (a:∀g,row=ad g->B<=g):Q2 w' B ao n V0 V1:=h.keep λb o c=>wK (hg.block b an (λe=>by have:=a _ e.symm;omega))
def Q2.take (h:Q2 w B ao n V0 V1) {m:Nat} (c:m<=n):Q2 w B ao m V0 V1:=λhn=>by
 obtain⟨b,off,e,Z,a⟩:=h an;exact⟨b,off,e,Z,λi hi=>a i an⟩
def Q2.congr {d c:Nat->aE} (h:Q2 w B ao n V0 V1) (e0:∀i,i<n->V0 i=d i) (f:∀i,i<n->V1 i=c i):Q2 w B ao n d c:=λhn=>by
 obtain⟨b,off,e,Z,a⟩:=h hn;exact⟨b,off,e,Z,λi hi=>⟨by rw[(a i hi).1,e0 i hi],by rw[(a i hi).2,f i hi]⟩⟩
def Q2.none_ (h:Q2 w B M n V0 V1):n=0:=by
 rcases kJ n with e|e
 ·exact e
 ·obtain⟨_,_,e,_⟩:=h e;cases e
end
def Sl.take (h:Sl w B ao n V) {m:Nat} (c:m<=n):Sl w B ao m V:=λhn=>by
 obtain⟨b,off,e,Z,a⟩:=h an;exact⟨b,off,e,Z,λi hi=>a i an⟩
def Sl.aL (h:Sl w1 w1.heap.size ao n V) (Z:aS w1.heap.size w1 W):Sl W W.heap.size ao n V:=(h.al Z).bt Z.size
def two {α:Type} (f:α->aE×aE) (l:List α):List aE:=l.flatMap λx=>[(f x).1,(f x).2]
section
variable {α:Type} {f:α->aE×aE}
def afN (l:List α):(two f l).length=l.length*2:=by
 unfold two;induction l with
 |nil=>rfl
 |cons x l a=>rw[List.flatMap_cons,b2,a];simp;omega
def afO (l m:List α):two f (l++m)=two f l++two f m:=by unfold two;rw[List.flatMap_append]
def V5:∀(l:List α) (i:Nat) (h:i<l.length),(two f l)[i*2]?=ad (f l[i]).1/\(two f l)[i*2+1]?=ad (f l[i]).2
 |x::l,0,_=>by simp[two]
 |x::l,i+1,h=>by
  have:=V5 l i (am h)
  have e:two f (x::l)=(f x).1::(f x).2::two f l:=rfl
  rw[e,show(i+1)*2=i*2+1+1 by omega]
  simpa using this
end
def fl {α:Type} (w:aB) (base e:Nat) (f:α->aE×aE) (v:aE) (l:List α):Prop:=w.ownsRow base e 2 v l.length (two f l)
section
variable {α:Type} {w w':aB} {base e:Nat} {f:α->aE×aE} {v:aE} {l:List α}
def fl.bh (w:aB) (base e:Nat) (f:α->aE×aE):fl w base e f (O M 0 0) []:=World.ownsRow_nil _ _ _ _
def fl.form (h:fl w base e f v l):(v=O M 0 0/\l=[])\/∃g cap,v=O (ad (ab g 0 M)) l.length cap/\base<=g/\g<w.heap.size/\l.length<=cap/\cap<=bK:=by
 exact Ld
def fl.q2 (h:fl w base e f v l):∃ao n cap,v=O ao n cap/\n=l.length/\Q2 w w.heap.size ao n (λi=>((l[i]?).map f).getD (v,v)|>.1) (λi=>((l[i]?).map f).getD (v,v)|>.2)/\n<=cap/\cap<=bK:=by
 rcases h.form with⟨rfl,rfl⟩|⟨g,cap,rfl,_,aK,hc,hm⟩
 ·exact⟨M,0,0,rfl,rfl,Q2.zero _ _ _ _ _,aO _,bV _⟩
 ·refine⟨_,_,cap,rfl,rfl,λ_=>⟨g,0,rfl,aK,λi hi=>?_⟩,hc,hm⟩;obtain⟨a,b⟩:=V5 (f:=f) l i hi;have c:∀j,((ab g 0 M):aX).add j=⟨g,0+j,M⟩:=λj=>by unfold Addr.add;split<;>simp_all
  have c0:=World.ownsRow.cells h (g:=g) rfl (i*2) _ a;have c1:=World.ownsRow.cells h (g:=g) rfl (i*2+1) _ b;rw[c] at c0 c1;simp only[cR hi,tG,Option.getD_some];exact⟨c0,by rw[Nat.add_assoc];exact c1⟩
def fl.less (h:fl w base e f v l) (Z:vg<=base):fl w vg e f v l:=by
 refine⟨h.1,?_⟩;rcases h.2 with h1|⟨g,cap,cur,a,b,c⟩
 ·exact .inl h1
 ·exact .inr ⟨g,cap,cur,a,an,c⟩
def fl.alloc (h:fl w base e f v l) (o:Obj):fl (w.alloc o) base e f v l:=World.ownsRow.alloc h o
def fl.drew (h:fl w base e f v l):fl w.drew base e f v l:=h
def fl.kept (h:fl w base e f v l) {row:Option Nat} (hg:w.grownBy w' row) (a:v.ownBlock=M\/v.ownBlock≠row):fl w' base e f v l:=World.ownsRow.kept h hg a
def fl.al (h:fl w base e f v l) (Z:aS w.heap.size w w'):fl w' base e f v l:=World.ownsRow.kept (row:=M) h ⟨Z.os,Z.tape,Z.output,Z.size,λk a _=>Z.block k a⟩ (by
 rcases h.form with⟨rfl,_⟩|⟨g,cap,rfl,_⟩
 ·exact .inl rfl
 ·exact .inr (by simp[qS]))
def fl.setCell (h:fl w base e f v l) {a:aX} (b:v.ownBlock≠ad a.block) (u:aE):fl (w.setCell a u) base e f v l:=ownsRow_setCell_other h b u
def fl.nI (h:fl w base e f v l):∀k,v.ownBlock=ad k->base<=k:=λk a=>(CX h k a).1
def fl.lt (h:fl w base e f v l):∀k,v.ownBlock=ad k->k<w.heap.size:=λk a=>(CX h k a).2
end
def j4 {α:Type} (w:aB) (base e:Nat) (f:α->aE) (v:aE) (l:List α):Prop:=w.ownsRow base e 1 v l.length (l.map f)
section
variable {α:Type} {w w':aB} {base e:Nat} {f:α->aE} {v:aE} {l:List α}
def j4.bh (w:aB) (base e:Nat) (f:α->aE):j4 w base e f (O M 0 0) []:=World.ownsRow_nil _ _ _ _
def j4.form (h:j4 w base e f v l):(v=O M 0 0/\l=[])\/∃g cap,v=O (ad (ab g 0 M)) l.length cap/\base<=g/\g<w.heap.size/\l.length<=cap/\cap<=bK:=by
 exact Ld
def j4.sl (h:j4 w base e f v l):∃ao n cap,v=O ao n cap/\n=l.length/\Sl w w.heap.size ao n (λi=>((l[i]?).map f).getD v)/\n<=cap/\cap<=bK:=by
 rcases h.form with⟨rfl,rfl⟩|⟨g,cap,rfl,_,aK,hc,hm⟩
 ·exact⟨M,0,0,rfl,rfl,Sl.zero _ _ _ _,aO _,bV _⟩
 ·refine⟨_,_,cap,rfl,rfl,λ_=>⟨g,0,rfl,aK,λi hi=>?_⟩,hc,hm⟩;have:=World.ownsRow.cells h (g:=g) rfl i (f l[i]) (by simp[hi]);have a:((ab g 0 M):aX).add i=⟨g,0+i,M⟩:=aqj;rw[a] at this;simp only[cR hi,tG,Option.getD_some];exact this
def j4.less (h:j4 w base e f v l) (Z:vg<=base):j4 w vg e f v l:=by
 refine⟨h.1,?_⟩;rcases h.2 with h1|⟨g,cap,cur,a,b,c⟩
 ·exact .inl h1
 ·exact .inr ⟨g,cap,cur,a,an,c⟩
def j4.alloc (h:j4 w base e f v l) (o:Obj):j4 (w.alloc o) base e f v l:=World.ownsRow.alloc h o
def j4.drew (h:j4 w base e f v l):j4 w.drew base e f v l:=h
def j4.kept (h:j4 w base e f v l) {row:Option Nat} (hg:w.grownBy w' row) (a:v.ownBlock=M\/v.ownBlock≠row):j4 w' base e f v l:=World.ownsRow.kept h hg a
def j4.al (h:j4 w base e f v l) (Z:aS w.heap.size w w'):j4 w' base e f v l:=World.ownsRow.kept (row:=M) h ⟨Z.os,Z.tape,Z.output,Z.size,λk a _=>Z.block k a⟩ (by
 rcases h.form with⟨rfl,_⟩|⟨g,cap,rfl,_⟩
 ·exact .inl rfl
 ·exact .inr (by simp[qS]))
def j4.nI (h:j4 w base e f v l):∀k,v.ownBlock=ad k->base<=k:=λk a=>(CX h k a).1
def j4.lt (h:j4 w base e f v l):∀k,v.ownBlock=ad k->k<w.heap.size:=λk a=>(CX h k a).2
end
section
variable {α:Type} {P:cp} {w:aB}
def afP (E:o.guard=M) (s x:Operand) (t:bf) (ho:o.op= .call {callee:=.builtin .append,args:=#[s,x],argTypes:=#[t,t]}) (base:Nat) (e:bf) (z:aE) (b:Nat) (B:P.underlying t=ad (.slice e)) (hi:(P.info? e).map (λi=>(i.zero,i.size,i.bytes))=ad (ad z,2,b)) (r:z.cells.size=2) (f:α->aE×aE) (v:aE) (l:List α) (hs:a.eval s=v) (J:fl w base e f v l) (y:α) (n:(f y).1.oneCell'=true/\(f y).2.oneCell'=true) (g c:Nat) (p:bf) (A:a.eval x=O (ad (ab g 0 M)) 1 c) (m:aI w g p #[(f y).1,(f y).2]) (D:(l.length+1)*b<=140737488355328) (K:l.length+1<=140737488355328) (I:base<=w.heap.size) (h:∀k w',fl w' base e f k (l++[y])->w.grownBy w' v.ownBlock->(k.ownBlock=v.ownBlock\/k.ownBlock=ad w.heap.size)->wpList P ops Q rest (a.put o.dst k) w'):wpList P ops Q (o::rest) a w:=by
 obtain⟨q,hi,F,H,G⟩:=info_parts hi;refine VB w E s x t ho base e q z 2 b B hi F H G r aq v l.length (two f l) hs J w.heap.size (ad (ab g 0 M)) 1 c (λj=>if j=0 then(f y).1 else(f y).2) (two f [y]) A ?_ (by rw[afN];rfl) ?_ ?_ aqF D I ?_
 ·intro _;refine⟨g,0,rfl,m.lt,λi hi=>?_⟩;rw[ig,m.cell];match i,hi with
  |0,_=>rfl
  |1,_=>rfl
 ·intro j u d;match j,d with
  |0,d=>simp[two] at d;simp[d]
  |1,d=>simp[two] at d;simp[d]
  |j+2,d=>simp[two] at d
 ·intro u d;simp[two] at d;rcases d with rfl|rfl
  ·exact n.1
  ·exact n.2
 intro k w' h2 C h4;refine h k w' ?_ C h4;unfold fl;rw[b2,afO];exact h2
end
section
variable {P:cp} {w:aB} {B:Nat} {ao:Option aX} {n cap:Nat} {t e:bf}
def uX (k y:Nat) (a:BoundsCode) (h:k<=y) (w:aB):(Instr.sliceBound (J I (k:Int)) y a).run P w= .ok k w:=by
 have b:(0:Int)<=k/\(k:Int)<=y:=⟨an,an⟩;simp[Instr.sliceBound,asIntOf,b]
def cutAt (ao:Option aX) (cap k size:Nat):Option aX:=if cap=k then ao else ao.map (·.add (k*size))
def Lc (d:P.underlying t=ad (.slice e)) (size:Nat) (b:(P.info? e).map (·.size)=ad size) (ao:Option aX) (n cap l h m:Nat) (lo hi c:Option aE) (Z:∀w,(Instr.sliceBounds true n cap lo hi c).run P w= .ok (l,h,m) w) (w:aB):(iV t (O ao n cap) lo hi c).run P w= .ok (O (cutAt ao m l size) (h-l) (m-l)) w:=by
 cases a:P.info? e with
 |none=>simp[a] at b
 |some i=>
  have hs:i.size=size:=by simpa[a] using b
  simp[iV,mf d,Z,sizeOf,typeInfo,a,hs,cutAt]
def oC (a:P.underlying t=ad (.slice e)) (size:Nat) (b:(P.info? e).map (·.size)=ad size) (ao:Option aX) (n cap k:Nat) (c:k<=n) (w:aB):(iV t (O ao n cap) (ad (J I k)) M M).run P w= .ok (O (cutAt ao cap k size) (n-k) (cap-k)) w:=Lc a size b ao n cap k n cap _ _ _ (λw=>by simp[Instr.sliceBounds,uX k n .sliceB an]) w
def O4 (a:P.underlying t=ad (.slice e)) (size:Nat) (b:(P.info? e).map (·.size)=ad size) (ao:Option aX) (n cap k:Nat) (c:k<=cap) (w:aB):(iV t (O ao n cap) M (ad (J I k)) M).run P w= .ok (O ao k cap) w:=by
 have h:=Lc a size b ao n cap 0 k cap M (ad (J I k)) M (λw=>by simp[Instr.sliceBounds,uX k cap .sliceAcap an]) w;have e0:cutAt ao cap 0 size=ao:=by
  unfold cutAt;split
  ·rfl
  ·cases ao<;>simp[Addr.add]
 rw[h,e0,Nat.sub_zero,Nat.sub_zero]
def aeO (a:P.underlying t=ad (.slice e)) (size:Nat) (b:(P.info? e).map (·.size)=ad size) (ao:Option aX) (n cap i k:Nat) (hi:i<=k) (c:k<=cap) (w:aB):(iV t (O ao n cap) (ad (J I i)) (ad (J I k)) M).run P w= .ok (O (cutAt ao cap i size) (k-i) (cap-i)) w:=Lc a size b ao n cap i k cap _ _ _ (λw=>by simp[Instr.sliceBounds,uX k cap .sliceAcap an,uX i k .sliceB an]) w
def Vy (a:P.underlying t=ad (.slice e)) (size:Nat) (b:(P.info? e).map (·.size)=ad size) (ao:Option aX) (n cap k:Nat) (c:k<=cap) (w:aB):(iV t (O ao n cap) M (ad (J I k)) (ad (J I k))).run P w= .ok (O ao k k) w:=by
 have h:=Lc a size b ao n cap 0 k k M (ad (J I k)) (ad (J I k)) (λw=>by simp[Instr.sliceBounds,uX k cap .slice3Acap an,uX k k .slice3B an]) w;have e0:cutAt ao k 0 size=ao:=by
  unfold cutAt;split
  ·rfl
  ·cases ao<;>simp[Addr.add]
 rw[h,e0,Nat.sub_zero]
def Sl.cut {size:Nat} (h:Sl w B ao (n*size) V) (d:k<=n) (e:n<=cap):Sl w B (cutAt ao cap k size) ((n-k)*size) (λi=>V (k*size+i)):=λhn=>by
 have f:k<n:=by
  rcases gy k n with h'|h'
  ·exact h'
  ·rw[show n-k=0 from by omega,Nat.zero_mul] at hn;omega
 have a:(n-k)*size=n*size-k*size:=Nat.sub_mul _ _ _;obtain⟨b,off,rfl,Z,c⟩:=h an;refine⟨b,off+k*size,?_,Z,λi hi=>?_⟩
 ·unfold cutAt;rw[af an];simp only[tG,Addr.add];split
  ·rename_i h0;rw[h0];rfl
  ·rfl
 ·rw[Nat.add_assoc];exact c _ an
def Sl.hi (h:Sl w B ao n V) (c:k<=n):Sl w B ao k V:=λhn=>by
 obtain⟨b,off,e,Z,a⟩:=h an;exact⟨b,off,e,Z,λi hi=>a i an⟩
def Bs.lo {l:List UInt8} (h:Bs w B ao n l) (a:k<=n) (b:n<=cap):Bs w B (cutAt ao cap k 1) (n-k) (l.drop k):=by
 refine⟨by rw[oy,h.len],?_⟩;have:=Sl.cut (size:=1) (cap:=cap) (by rw[Nat.mul_one];exact h.sl) a b;rw[Nat.mul_one] at this;exact this.congr λi _=>by simp[wL,dd]
def Bs.hi {l:List UInt8} (h:Bs w B ao n l) (a:k<=n):Bs w B ao k (l.take k):=by
 refine⟨by rw[tH,h.len];omega,?_⟩;exact(h.sl.hi a).congr λi hi=>by simp[wL,dd,hi]
end
theorem O5 (h:P:=by
 rw[BitVec.ofInt_natCast,BitVec.toNat_ofNat];exact Nat.mod_eq_of_lt an;):P:=h
def aS.step {a W w':aB} (Z:aS W.heap.size W w') (b:aS a.heap.size a W):aS a.heap.size a w':=b.trans (Z.mono b.size)
variable {v:aE} {t:bf} {cs args:Array aE}
structure ba (w:aB) where
 aL:aB
 aC:aS w.heap.size w aL
instance (w:aB):Inhabited (ba w):=⟨⟨w,bk _ _⟩⟩
structure WQ (P:cp) (ops:Array bv) (C:aB->Prop) (Q:bb->Prop) (l:List bv) (a:bb):Prop where
 A:wpQuiet P ops C Q l a
def WQ.step {P:cp} {ops:Array bv} {C:aB->Prop} {Q:bb->Prop} {o:bv} {rest:List bv} {a:bb} (h:∀K:bb->Prop,(∀a,WQ P ops C Q rest a->K a)->if dz o (dR ops a.tmps) then o.quiet P a C K else K (a.put o.dst cu)):WQ P ops C Q (o::rest) a:=⟨wpQuiet_step λK b=>h K λa h'=>b a h'.A⟩
def WQ.bh {P:cp} {C:aB->Prop} {Q:bb->Prop} (h:Q a):WQ P ops C Q [] a:=⟨h⟩
def pk {P:cp} {b:Nat} {l:List bv} (c:P.follows .mixedOrders=true) (hB:Region.lexB .any l.toArray=true) (h:WQ P l.toArray (λw'=>∃p:ba w,w'=p.aL) (λd=>∀w',(∃p:ba w,w'=p.aL)->Q .normal d w') l a):(Code.region b l.toArray true).wp P Q a w:=wp_region_quiet (C:=λw'=>∃p:ba w,w'=p.aL) c hB ⟨⟨w.drew,(bk _ _).drew⟩,rfl⟩ (am h.A)
def ba.cell {a:aX} (p:ba w) (Z:a.block<w.heap.size) (h:w.cell? a=ad v):p.aL.cell? a=ad v:=(p.aC.cell Z).trans h
def ba.eP (p:ba w) (h:aI w g t cs):aI p.aL g t cs:=h.al p.aC h.lt
def ba.cells (h:aI w g t cs) (i:Nat):∀p:ba w,p.aL.cell? (ab g i M)=cs[i]?:=λp=>(p.eP h).cell i
def aN.aeS {P:cp} {f:FuncId} {p:ba w} (h:aN P f args p.aL λe w'=>e=aQ v/\aS p.aL.heap.size p.aL w'):aN P f args p.aL λe b=>e=aQ v/\∃q:ba w,b=q.aL:=h.mono λ_ _ ⟨a,Z⟩=>⟨a,⟨_,p.aC.trans (Z.mono p.aC.size)⟩,rfl⟩
def aN.aeT {P:cp} {f:FuncId} {p:ba w} (h:aN P f args p.aL λe w'=>e=aQ v/\p.aL=w'):aN P f args p.aL λe b=>e=aQ v/\∃q:ba w,b=q.aL:=h.mono λ_ _ ⟨a,Z⟩=>⟨a,p,Z.symm⟩
structure fS {α:Type} (c:α->α->Int):Prop where
 zero:∀{x y},c x y=0->x=y
 refl:∀x,c x x=0
 tO:∀x y,c y x=-c x y
 trans:∀{x y z},c x y<0->c y z<0->c x z<0
def wM {α β:Type} (c:α->α->Int) (d:β->β->Int) (x y:α×β):Int:=if c x.1 y.1=0 then d x.2 y.2 else c x.1 y.1
def mh {α:Type} (c:α->α->Int):List α->List α->Int
 |[],[]=>0
 |[],_::_=>-1
 |_::_,[]=>1
 |x::l,y::m=>if c x y=0 then mh c l m else c x y
section
variable {α β:Type} {c:α->α->Int} {d:β->β->Int}
def fS.gt (h:fS c) {x y:α}:0<c x y↔c y x<0:=by rw[h.tO x y];omega
def fS.AG (h:fS c) (x y:α):c x y<0\/x=y\/c y x<0:=by
 rcases Int.lt_trichotomy (c x y) 0 with h1|h1|h1
 ·exact .inl h1
 ·exact .inr (.inl (h.zero h1))
 ·exact .inr (.inr (h.gt.1 h1))
def fS.irrefl (h:fS c) {x:α}:¬c x x<0:=by rw[h.refl];omega
def fS.asymm (h:fS c) {x y:α} (a:c x y<0):¬c y x<0:=by rw[h.tO x y];omega
def fS.aeM (h:fS c) {x y:α}:c x y=0↔x=y:=⟨h.zero,λe=>e▸h.refl x⟩
def fS.wM (h:fS c) (k:fS d):fS (wM c d) where
 zero:=by
  rintro⟨b,x2⟩⟨g,i⟩ e
  simp only[YtbeaddlblpgppaaGreatDoor.wM] at e
  split at e
  ·rename_i a;cases h.zero a;cases k.zero e;rfl
  ·contradiction
 refl:=by rintro⟨b,x2⟩;simp only[YtbeaddlblpgppaaGreatDoor.wM,h.refl,k.refl,if_true]
 tO:=by
  rintro⟨b,x2⟩⟨g,i⟩
  simp only[YtbeaddlblpgppaaGreatDoor.wM,h.tO b g,k.tO x2 i]
  by_cases a:c b g=0
  ·simp[a]
  ·rw[af a,af an]
 trans:=by
  rintro⟨b,x2⟩⟨g,i⟩⟨j,l⟩ e f
  simp only[YtbeaddlblpgppaaGreatDoor.wM] at e f⊢
  by_cases a:c b g=0
  ·cases h.zero a;rw[ag a] at e;by_cases h2:c b j=0
   ·rw[ag h2] at f⊢;exact k.trans e f
   ·rw[af h2] at f⊢;exact f
  ·rw[af a] at e;by_cases h2:c g j=0
   ·cases h.zero h2;rw[af a];exact e
   ·rw[af h2] at f;have:=h.trans e f;rw[af an];exact this
def fS.mh (h:fS c):fS (mh c) where
 zero:=by
  intro x
  induction x with
  |nil=>intro y e;cases y<;>simp[YtbeaddlblpgppaaGreatDoor.mh] at e⊢
  |cons x l b=>
   intro y e
   cases y with
   |nil=>simp[YtbeaddlblpgppaaGreatDoor.mh] at e
   |cons y m=>
    simp only[YtbeaddlblpgppaaGreatDoor.mh] at e
    split at e
    ·rename_i a;cases h.zero a;rw[b e]
    ·contradiction
 refl:=by
  intro x
  induction x with
  |nil=>rfl
  |cons x l b=>simp only[YtbeaddlblpgppaaGreatDoor.mh,h.refl,if_true,b]
 tO:=by
  intro x
  induction x with
  |nil=>intro y;cases y<;>rfl
  |cons x l b=>
   intro y
   cases y with
   |nil=>rfl
   |cons y m=>
    simp only[YtbeaddlblpgppaaGreatDoor.mh,h.tO x y]
    by_cases a:c x y=0
    ·simp[a,b m]
    ·rw[af a,af an]
 trans:=by
  intro x
  induction x with
  |nil=>
   intro y z e f
   cases y with
   |nil=>simp[YtbeaddlblpgppaaGreatDoor.mh] at e
   |cons y m=>cases z with
    |nil=>simp[YtbeaddlblpgppaaGreatDoor.mh] at f
    |cons z n=>simp[YtbeaddlblpgppaaGreatDoor.mh]
  |cons x l b=>
   intro y z e f
   cases y with
   |nil=>simp[YtbeaddlblpgppaaGreatDoor.mh] at e
   |cons y m=>cases z with
    |nil=>simp[YtbeaddlblpgppaaGreatDoor.mh] at f
    |cons z n=>
     simp only[YtbeaddlblpgppaaGreatDoor.mh] at e f⊢
     by_cases a:c x y=0
     ·cases h.zero a;rw[ag a] at e;by_cases h2:c x z=0
      ·rw[ag h2] at f⊢;exact b e f
      ·rw[af h2] at f⊢;exact f
     ·rw[af a] at e;by_cases h2:c y z=0
      ·cases h.zero h2;rw[af a];exact e
      ·rw[af h2] at f;have:=h.trans e f;rw[af an];exact this
def fS.on (h:fS c) {f:β->α} (a:∀x y,f x=f y->x=y):fS (λx y=>c (f x) (f y)) where
 zero:=λe=>a _ _ (h.zero e)
 refl:=λx=>h.refl _
 tO:=λx y=>h.tO _ _
 trans:=λe f=>h.trans e f
end
def b1 (a b:ByteArray):Bool:=ii a.toList b.toList
def Vl:∀l:List UInt8,ii l l=false
 |[]=>by simp[ii]
 |a::l=>by simp[ii,Vl l]
def Vm:∀l m:List UInt8,ii l m=true\/l=m\/ii m l=true
 |[],[]=>by simp
 |[],_::_=>by simp[ii]
 |_::_,[]=>by simp[ii]
 |a::l,b::m=>by
  rcases Vm l m with h|h|h
  all_goals rcases UInt8.lt_or_lt_of_ne (a:=a) (b:=b)|>λk=>(Classical.em (a=b)).imp id k with h1|h1|h1
  all_goals simp[ii,h,h1]
def Vn:∀l m n:List UInt8,ii l m=true->ii m n=true->ii l n=true
 |[],[],_,h,_=>by simp[ii] at h
 |[],_::_,[],_,h=>by simp[ii] at h
 |[],_::_,_::_,_,_=>by simp[ii]
 |_::_,[],_,h,_=>by simp[ii] at h
 |_::_,_::_,[],_,h=>by simp[ii] at h
 |a::l,b::m,c::n,h,k=>by
  simp only[ii,Bool.or_eq_true,decide_eq_true_eq,b9,beq_iff_eq] at h k⊢
  rcases h with h|⟨rfl,h⟩
  ·rcases k with k|⟨rfl,_⟩
   ·exact .inl (UInt8.lt_trans h k)
   ·exact .inl h
  ·rcases k with k|⟨rfl,k⟩
   ·exact .inl k
   ·exact .inr ⟨rfl,Vn l m n h k⟩
def Vo {a b:ByteArray} (h:a.toList=b.toList):a=b:=by
 rw[ByteArray.toList_eq,ByteArray.toList_eq] at h;cases a;cases b;simp at h;rw[h]
def E0 (a:ByteArray):b1 a a=false:=Vl _
def Vp {a b c:ByteArray} (h:b1 a b=true) (k:b1 b c=true):b1 a c=true:=Vn _ _ _ h k
def O1 (a b:ByteArray):b1 a b=true\/a=b\/b1 b a=true:=(Vm a.toList b.toList).imp id (Or.imp Vo id)
def La {a b:ByteArray} (h:b1 a b=true):b1 b a=false:=by
 cases k:b1 b a
 ·rfl
 ·have:=Vp h k;rw[E0] at this;cases this
def fO (a b:ByteArray):Int:=if b1 a b=true then-1 else if b1 b a=true then 1 else 0
def CY:fS fO where
 zero:=by
  intro x y h
  unfold fO at h
  rcases O1 x y with k|k|k
  ·simp[k] at h
  ·exact k
  ·simp[k,La k] at h
 refl:=by intro x;unfold fO;simp[E0]
 tO:=by
  intro x y
  unfold fO
  rcases O1 x y with k|rfl|k
  ·simp[k,La k]
  ·simp[E0]
  ·simp[k,La k]
 trans:=by
  intro x y z h k
  have a:b1 x y=true:=by
   unfold fO at h
   split at h
   ·assumption
   ·split at h<;>omega
  have h2:b1 y z=true:=by
   unfold fO at k
   split at k
   ·assumption
   ·split at k<;>omega
  unfold fO
  rw[ag (Vp a h2)]
  omega
def Vq {a b:ByteArray}:fO a b<0↔b1 a b=true:=by
 unfold fO;split
 ·simp[*]
 ·rename_i h;split<;>simp[h]
def e8 {α:Type} (c:α->α->Int) (l:List α):Prop:=l.Pairwise λx y=>c x y<0
section
variable {α:Type} {c:α->α->Int}
def e8.of_next (h:fS c) {l:List α} (hn:∀i (hi:i+1<l.length),c l[i] l[i+1]<0):e8 c l:=by
 unfold e8;induction l with
 |nil=>exact .nil
 |cons a l f=>
  have e:=f (λi hi=>hn (i+1) (am hi));refine .cons ?_ e;cases l with
  |nil=>intro x d;cases d
  |cons b l=>
   have h0:=hn 0 av;intro x d;rcases ee.1 d with rfl|d
   ·exact h0
   ·exact h.trans h0 (List.rel_of_pairwise_cons e d)
def e8.next {l:List α} (h:e8 c l):∀i (hi:i+1<l.length),c l[i] l[i+1]<0:=λi hi=>yw.1 h i (i+1) _ hi an
def e8.eq (h:fS c):∀{l m:List α},e8 c l->e8 c m->(∀x,x∈l↔x∈m)->l=m
 |[],[],_,_,_=>rfl
 |[],b::m,_,_,k=>by have:=(k b).2 av;cases this
 |a::l,[],_,_,k=>by have:=(k a).1 av;cases this
 |a::l,b::m,h1,h2,k=>by
  have f:∀{z},z∈l->c a z<0:=List.rel_of_pairwise_cons h1
  have Z:∀{z},z∈m->c b z<0:=List.rel_of_pairwise_cons h2
  have g:a=b:=by
   rcases ee.1 ((k a).1 av) with e|e
   ·exact e
   ·rcases ee.1 ((k b).2 av) with e'|e'
    ·exact e'.symm
    ·exact ae (Z e) (h.asymm (f e'))
  subst g
  rw[e8.eq h (List.Pairwise.of_cons h1) (List.Pairwise.of_cons h2) (λx=>?_)]
  constructor
  ·intro d;rcases ee.1 ((k x).1 (List.mem_cons_of_mem _ d)) with e|e
   ·subst e;exact ae (f d) h.irrefl
   ·exact e
  ·intro d;rcases ee.1 ((k x).2 (List.mem_cons_of_mem _ d)) with e|e
   ·subst e;exact ae (Z d) h.irrefl
   ·exact e
def ins (c:α->α->Int) (x:α):List α->List α
 |[]=>[x]
 |y::l=>if c x y<0 then x::y::l else y::ins c x l
def oB (c:α->α->Int) (l:List α):List α:=l.foldr (ins c) []
def O2 {x y:α}:∀{l:List α},y∈ins c x l↔y=x\/y∈l
 |[]=>by simp[ins]
 |z::l=>by
  unfold ins
  split
  ·simp
  ·simp[O2 (l:=l)];constructor
   ·rintro(h|h|h)<;>simp[h]
   ·rintro(h|h|h)<;>simp[h]
def Vt {x:α}:∀{l:List α},(ins c x l).length=l.length+1
 |[]=>rfl
 |z::l=>by
  unfold ins
  split
  ·rfl
  ·simp[Vt (l:=l)]
def O3 {y:α} {l:List α}:y∈oB c l↔y∈l:=by
 unfold oB;induction l with
 |nil=>simp
 |cons a l b=>simp[O2,b]
def Vu {l:List α}:(oB c l).length=l.length:=by
 unfold oB;induction l with
 |nil=>rfl
 |cons a l b=>simp[Vt,b]
def e8.ins (h:fS c) {x:α}:∀{l:List α},e8 c l->x∉l->e8 c (ins c x l)
 |[],_,_=>by simp[e8,YtbeaddlblpgppaaGreatDoor.ins]
 |y::l,hl,hx=>by
  have e:∀{z},z∈l->c y z<0:=List.rel_of_pairwise_cons hl
  unfold YtbeaddlblpgppaaGreatDoor.ins
  split
  ·rename_i b;refine .cons ?_ hl;intro z a;rcases ee.1 a with rfl|a
   ·exact b
   ·exact h.trans b (e a)
  ·rename_i b;have d:c y x<0:=by
    rcases h.AG x y with h1|h1|h1
    ·exact ae h1 b
    ·subst h1;exact ae av hx
    ·exact h1
   refine .cons ?_ (e8.ins h (List.Pairwise.of_cons hl) (λh'=>hx (List.mem_cons_of_mem _ h')));intro z a;rcases O2.1 a with rfl|a
   ·exact d
   ·exact e a
def e8.oB (h:fS c) {l:List α} (hn:l.Nodup):e8 c (oB c l):=by
 induction l with
 |nil=>exact .nil
 |cons a l b=>
  have:=List.nodup_cons.1 hn;exact e8.ins h (b this.2) (λh'=>this.1 (O3.1 h'))
def e8.nodup (h:fS c) {l:List α} (b:e8 c l):l.Nodup:=List.Pairwise.imp (λ{x y} a=>λe=>by subst e;exact h.irrefl a) b
def aeN (h:fS c) {l m:List α} (b:e8 c l) (a:m.Nodup) (k:∀x,x∈l↔x∈m):l=oB c m:=e8.eq h b (e8.oB h a) (λx=>(k x).trans O3.symm)
end
variable {T e:bf} {B':Nat}
def bp (w:aB) (e:bf) (b:Nat):Prop:=∃cs fr,w.heap[b]?=ad (aD cs e fr)
def bp.lt (h:bp w e b):b<w.heap.size:=by
 obtain⟨cs,fr,h⟩:=h;exact(lJ.1 h).1
def bp.q9 (h:bp w e b) (k:bp w T b):e=T:=by
 obtain⟨cs,fr,h⟩:=h;obtain⟨cs',a,k⟩:=k;rw[h] at k;injection k with k;injection k
def bp.bO (h:aI w g t cs):bp w t g:=⟨cs,_,h⟩
structure Kt (B:Nat) (S:List bf) (w w':aB):Prop where
 os:w'.os=w.os
 tape:w'.tape=w.tape
 output:w'.output=w.output
 size:w.heap.size<=w'.heap.size
 low:∀b,b<B->w'.heap[b]?=w.heap[b]?
 typed:∀e b,e∉S->bp w e b->w'.heap[b]?=w.heap[b]?
section
variable {B:Nat} {S:List bf} {a w w':aB}
def Kt.refl (B:Nat) (S:List bf) (w:aB):Kt B S w w:=⟨rfl,rfl,rfl,aO _,λ_ _=>rfl,λ_ _ _ _=>rfl⟩
def bp.kt (h:bp w e b) (k:Kt B S w w') (a:e∉S):bp w' e b:=by
 have c:=k.typed e b a h;obtain⟨cs,fr,h⟩:=h;exact⟨cs,fr,c.trans h⟩
def Kt.trans {c:aB} (h:Kt B S a w) (k:Kt B S w c):Kt B S a c:=⟨k.os.trans h.os,k.tape.trans h.tape,k.output.trans h.output,a8 h.size k.size,λi hi=>(k.low i hi).trans (h.low i hi),λe i b d=>(k.typed e i b (d.kt h b)).trans (h.typed e i b d)⟩
def Kt.lQ (h:aS w.heap.size w w') (hB:B<=w.heap.size):Kt B S w w':=⟨h.os,h.tape,h.output,h.size,λb Z=>h.block b an,λ_ b _ a=>h.block b a.lt⟩
def Kt.aC (h:Kt B S w w'):aS B w w':=⟨h.os,h.tape,h.output,h.size,h.low⟩
def Kt.bt {S':List bf} (h:Kt B S w w') (hs:∀e∈S,e∈S'):Kt B S' w w':=⟨h.os,h.tape,h.output,h.size,h.low,λe b c a=>h.typed e b (λh'=>c (hs e h')) a⟩
def Kt.dJ (h:Kt B S w w') (hB:B'<=B):Kt B' S w w':=⟨h.os,h.tape,h.output,h.size,λb Z=>h.low b an,h.typed⟩
def Kt.alloc (h:Kt B S a w) (hB:B<=w.heap.size) (o:Obj):Kt B S a (w.alloc o):=h.trans (Kt.lQ ((bk _ _).alloc (aO _) o) hB)
def Kt.drew (h:Kt B S a w):Kt B S a w.drew:=⟨h.os,h.tape,h.output,h.size,h.low,h.typed⟩
def Kt.setCell {o:Nat} (h:Kt B S a w) (hg:B<=g) (c:bp w T g) (f:T∈S) (u:aE):Kt B S a (w.setCell (ab g o M) u):=h.trans ⟨rfl,rfl,rfl,aqY,λb Z=>yv _ _ _ _ (by show b≠g;omega),λe b d i=>yv _ _ _ _ (by
 rintro rfl;exact d ((i.q9 c)▸f))⟩
def Kt.grown {row:Option Nat} (h:Kt B S a w) (hg:w.grownBy w' row) (hB:B<=w.heap.size) (c:∀g,row=ad g->B<=g/\bp w T g) (i:T∈S):Kt B S a w':=h.trans ⟨hg.os,hg.tape,hg.output,hg.size,λb Z=>hg.block b an (λe=>by have:=(c b e.symm).1;omega),λe b f d=>hg.block b d.lt (λj=>f ((d.q9 (c b j.symm).2)▸i))⟩
def Kt.eP (h:Kt B S w w') (Z:aI w g t cs) (a:t∉S):aI w' g t cs:=(h.typed t g a (bp.bO Z)).trans Z
end
def TS (w:aB) (B:Nat) (e:bf) (ao:Option aX) (n:Nat) (V:Nat->aE):Prop:=0<n->∃b off,ao=ad (ab b off M)/\(b<B\/bp w e b)/\∀i,i<n->w.cell? ⟨b,off+i,M⟩=ad (V i)
def Pu {o:Nat} (h:w.cell? (ab b o M)=ad v):b<w.heap.size:=by
 rcases gy b w.heap.size with h'|h'
 ·exact h'
 ·simp[World.cell?,Array.getElem?_eq_none_iff.2 h'] at h
section
variable {w w':aB} {B B' n:Nat} {e:bf} {S:List bf} {ao:Option aX} {V:Nat->aE}
def TS.zero (w:aB) (B:Nat) (e:bf) (ao:Option aX) (V:Nat->aE):TS w B e ao 0 V:=λh=>ae h an
def TS.keep (h:TS w B e ao n V) (c:Kt B S w w') (f:e∉S):TS w' B e ao n V:=λhn=>by
 obtain⟨b,off,d,Z,g⟩:=h hn;have a:w'.heap[b]?=w.heap[b]?:=by
  rcases Z with Z|Z
  ·exact c.low b Z
  ·exact c.typed e b f Z
 refine⟨b,off,d,?_,λi hi=>(wK a).trans (g i hi)⟩;rcases Z with Z|⟨cs,fr,Z⟩
 ·exact .inl Z
 ·exact .inr ⟨cs,fr,a.trans Z⟩
def TS.al (h:TS w B e ao n V) (Z:aS w.heap.size w w'):TS w' B e ao n V:=λhn=>by
 obtain⟨b,off,f,a,c⟩:=h hn;have d:=Pu (c 0 hn);refine⟨b,off,f,?_,λi hi=>(wK (Z.block b d)).trans (c i hi)⟩;rcases a with a|⟨cs,fr,a⟩
 ·exact .inl a
 ·exact .inr ⟨cs,fr,(Z.block b d).trans a⟩
def TS.bt (h:TS w B e ao n V) (hB:B<=B'):TS w B' e ao n V:=λhn=>by
 obtain⟨b,off,a,c,d⟩:=h hn;exact⟨b,off,a,c.imp (λh=>by omega) id,d⟩
def TS.sink (h:TS w B e ao n V):Sl w w.heap.size ao n V:=λhn=>by
 obtain⟨b,off,c,Z,a⟩:=h hn;exact⟨b,off,c,Pu (a 0 hn),a⟩
def TS.Lt (h:Sl w B ao n V):TS w B e ao n V:=λhn=>by
 obtain⟨b,off,a,Z,c⟩:=h hn;exact⟨b,off,a,.inl Z,c⟩
end
structure Kr (α:Type) where
 k:Nat
 e:bf
 rel:aB->Nat->α->List aE->Prop
 bI:List bf
 pos:0<k
 len:∀{w B a vs},rel w B a vs->vs.length=k
 one:∀{w B a vs},rel w B a vs->∀u∈vs,u.oneCell'=true
 keep:∀{w w':aB} {B:Nat} {S:List bf} {a:α} {vs:List aE},rel w B a vs->Kt B S w w'->(∀t∈bI,t∉S)->rel w' B a vs
 al:∀{w w':aB} {B:Nat} {a:α} {vs:List aE},rel w B a vs->aS w.heap.size w w'->rel w' B a vs
 bt:∀{w:aB} {B B':Nat} {a:α} {vs:List aE},rel w B a vs->B<=B'->rel w B' a vs
inductive Rs {α:Type} (D:Kr α) (w:aB) (B:Nat):List α->List aE->Prop|nil:Rs D w B [] []|cons {a:α} {l:List α} {vs us:List aE}:D.rel w B a vs->Rs D w B l us->Rs D w B (a::l) (vs++us)
section
variable {α:Type} {D:Kr α} {w w':aB} {B B' n:Nat} {S:List bf} {l m:List α} {us mv:List aE}
def Rs.len (h:Rs D w B l us):us.length=l.length*D.k:=by
 induction h with
 |nil=>simp
 |cons h _ a=>rw[b2,D.len h,a,pY,oA];omega
def Rs.one (h:Rs D w B l us):∀u∈us,u.oneCell'=true:=by
 induction h with
 |nil=>intro u a;simp at a
 |cons h _ b=>
  intro u a;rcases kf.1 a with a|a
  ·exact D.one h u a
  ·exact b u a
def Rs.keep (h:Rs D w B l us) (c:Kt B S w w') (b:∀t∈D.bI,t∉S):Rs D w' B l us:=by
 induction h with
 |nil=>exact .nil
 |cons h _ a=>exact .cons (D.keep h c b) a
def Rs.Wf (h:Rs D w B l us) (b:aS w.heap.size w w'):Rs D w' B l us:=by
 induction h with
 |nil=>exact .nil
 |cons h _ a=>exact .cons (D.al h b) a
def Rs.bt (h:Rs D w B l us) (hB:B<=B'):Rs D w B' l us:=by
 induction h with
 |nil=>exact .nil
 |cons h _ a=>exact .cons (D.bt h hB) a
def Rs.append (h:Rs D w B l us) (k:Rs D w B m mv):Rs D w B (l++m) (us++mv):=by
 induction h with
 |nil=>exact k
 |cons h _ a=>rw[mV];exact .cons h a
def Rs.single {a:α} {vs:List aE} (h:D.rel w B a vs):Rs D w B [a] vs:=by
 have:=Rs.cons h (Rs.nil (D:=D) (w:=w) (B:=B));rwa[List.append_nil] at this
def Rs.get (h:Rs D w B l us):∀i (hi:i<l.length),∃vs,D.rel w B l[i] vs/\∀j v,vs[j]?=ad v->us[i*D.k+j]?=ad v:=by
 induction h with
 |nil=>intro i hi;simp at hi
 |cons h _ a=>
  intro i hi;match i,hi with
  |0,_=>
   refine⟨_,h,λj v hv=>?_⟩;rw[Nat.zero_mul,ig,List.getElem?_append_left (yy.1 hv).1];exact hv
  |i+1,hi=>
   obtain⟨vs,b,h2⟩:=a i (am hi);refine⟨vs,b,λj v hv=>?_⟩;rw[List.getElem?_append_right (by rw[D.len h,oA];omega),show(i+1)*D.k+j-_=i*D.k+j by rw[D.len h,oA];omega];exact h2 j v hv
def Rs.take_drop (i:Nat):∀{l:List α} {us:List aE},Rs D w B l us->Rs D w B (l.take i) (us.take (i*D.k))/\Rs D w B (l.drop i) (us.drop (i*D.k)):=by
 induction i with
 |zero=>intro l us h;simpa using⟨Rs.nil,h⟩
 |succ i b=>
  intro l us h;cases h with
  |nil=>simpa using(Rs.nil:Rs D w B [] [])
  |@cons a l vs us h h'=>
   obtain⟨d,h2⟩:=b h';have c:=D.len h;have e:(i+1)*D.k=vs.length+i*D.k:=by rw[oA,c,Nat.add_comm]
   rw[e,List.take_length_add_append,List.drop_length_add_append];exact⟨.cons h d,h2⟩
end
structure Rw {α:Type} (D:Kr α) (w:aB) (B:Nat) (ao:Option aX) (n:Nat) (l:List α):Prop where
 len:l.length=n
 A:∃us,Rs D w B l us/\TS w B D.e ao (n*D.k) (λi=>us.getD i (aG false))
structure Vs {α:Type} (D:Kr α) (w:aB) (B:Nat) (v:aE) (l:List α):Prop where
 A:∃ao n c,v=O ao n c/\Rw D w B ao n l/\n<=c/\c<=9223372036854775807
section
variable {α:Type} {D:Kr α} {w w':aB} {B B' n:Nat} {ao:Option aX} {S:List bf} {l:List α} {v:aE}
def Rw.bh (D:Kr α) (w:aB) (B:Nat) (ao:Option aX):Rw D w B ao 0 []:=⟨rfl,[],.nil,by rw[Nat.zero_mul];exact TS.zero _ _ _ _ _⟩
def Rw.keep (h:Rw D w B ao n l) (a:Kt B S w w') (d:D.e∉S) (h2:∀t∈D.bI,t∉S):Rw D w' B ao n l:=by
 obtain⟨us,b,c⟩:=h.A;exact⟨h.len,us,b.keep a h2,c.keep a d⟩
def Rw.al (h:Rw D w B ao n l) (a:aS w.heap.size w w'):Rw D w' B ao n l:=by
 obtain⟨us,b,c⟩:=h.A;exact⟨h.len,us,b.Wf a,c.al a⟩
def Rw.bt (h:Rw D w B ao n l) (hB:B<=B'):Rw D w B' ao n l:=by
 obtain⟨us,a,b⟩:=h.A;exact⟨h.len,us,a.bt hB,b.bt hB⟩
def Rw.at_ (h:Rw D w B ao n l) {i:Nat} (hi:i<l.length):∃b off vs,ao=ad (ab b off M)/\b<w.heap.size/\D.rel w B l[i] vs/\∀j v,vs[j]?=ad v->w.cell? ⟨b,off+i*D.k+j,M⟩=ad v:=by
 obtain⟨us,d,f⟩:=h.A;have c:i<n:=by rw[<-h.len];exact hi
 have k:i*D.k+D.k<=n*D.k:=by rw[<-oA];exact sa _ c
 have m:=D.pos;obtain⟨b,off,e,Z,g⟩:=f.sink an;obtain⟨vs,a,h2⟩:=d.get i hi;refine⟨b,off,vs,e,Z,a,λj v hv=>?_⟩;have hj:j<D.k:=by rw[<-D.len a];exact(yy.1 hv).1
 rw[Nat.add_assoc,g (i*D.k+j) an];show ad (us.getD (i*D.k+j) (aG false))=ad v;rw[dd,h2 j v hv];rfl
def Rw.drop (h:Rw D w B (ad (ab b off M)) n l) (i:Nat):Rw D w B (ad ⟨b,off+i*D.k,M⟩) (n-i) (l.drop i):=by
 obtain⟨us,a,c⟩:=h.A;refine⟨by rw[oy,h.len],_,(a.take_drop i).2,λhn=>?_⟩;have k:i*D.k+(n-i)*D.k<=n*D.k\/n<=i:=by
  rcases gy i n with h'|h'
  ·left;rw[<-Nat.add_mul];exact sa _ an
  ·exact .inr h'
 have g:i<n:=by
  rcases gy i n with h'|h'
  ·exact h'
  ·rw[Nat.sub_eq_zero_of_le h',Nat.zero_mul] at hn;omega
 obtain⟨b',f,e,Z,d⟩:=c an;cases e;refine⟨b,_,rfl,Z,λj hj=>?_⟩;rw[Nat.add_assoc,d (i*D.k+j) an];simp only[dd,List.getElem?_drop]
def Rw.take (h:Rw D w B (ad (ab b off M)) n l) {i:Nat} (hi:i<=n):Rw D w B (ad (ab b off M)) i (l.take i):=by
 obtain⟨us,a,c⟩:=h.A;refine⟨by rw[tH,h.len];omega,_,(a.take_drop i).1,λhn=>?_⟩;have g:i*D.k<=n*D.k:=sa _ hi;obtain⟨b',f,e,Z,d⟩:=c an;cases e;refine⟨b,off,rfl,Z,λj hj=>?_⟩;rw[d j an];simp only[dd,List.getElem?_take,ag hj]
def Vs.bh (D:Kr α) (w:aB) (B:Nat):Vs D w B (O M 0 0) []:=⟨_,_,_,rfl,Rw.bh _ _ _ _,aO _,an⟩
def Vs.keep (h:Vs D w B v l) (a:Kt B S w w') (d:D.e∉S) (h2:∀t∈D.bI,t∉S):Vs D w' B v l:=by
 obtain⟨ao,n,c,e,h,b⟩:=h.A;exact⟨ao,n,c,e,h.keep a d h2,b⟩
def Vs.al (h:Vs D w B v l) (a:aS w.heap.size w w'):Vs D w' B v l:=by
 obtain⟨ao,n,c,e,h,b⟩:=h.A;exact⟨ao,n,c,e,h.al a,b⟩
def Vs.bt (h:Vs D w B v l) (hB:B<=B'):Vs D w B' v l:=by
 obtain⟨ao,n,c,e,h,a⟩:=h.A;exact⟨ao,n,c,e,h.bt hB,a⟩
def Vs.j5 (h:Vs D w B v l):v.oneCell'=true:=by
 obtain⟨ao,n,c,rfl,_⟩:=h.A;rfl
end
def AN (g i:Nat):((ab g 0 M):aX).add i=⟨g,0+i,M⟩:=aqj
structure Ow {α:Type} (D:Kr α) (w:aB) (B base:Nat) (v:aE) (l:List α):Prop where
 A:∃us,Rs D w B l us/\w.ownsRow base D.e D.k v l.length us
section
variable {α:Type} {D:Kr α} {w w':aB} {B B' base n:Nat} {ao:Option aX} {S:List bf} {l m:List α} {v:aE}
def Ow.bh (D:Kr α) (w:aB) (B base:Nat):Ow D w B base (O M 0 0) []:=⟨[],.nil,World.ownsRow_nil _ _ _ _⟩
def Ow.form (h:Ow D w B base v l):(v=O M 0 0/\l=[])\/∃g cap,v=O (ad (ab g 0 M)) l.length cap/\base<=g/\bp w D.e g/\l.length<=cap/\cap<=bK:=by
 obtain⟨us,_,h⟩:=h.A;rcases h.2 with⟨h1,h2⟩|⟨g,cap,cur,hv,hg,hh,hc,hm,_⟩
 ·exact .inl ⟨h1,sb h2⟩
 ·exact .inr ⟨g,cap,hv,hg,⟨_,_,hh⟩,hc,hm⟩
def Ow.row (h:Ow D w B base v l):∀g,v.ownBlock=ad g->base<=g/\bp w D.e g:=by
 intro g hg;rcases h.form with⟨rfl,_⟩|⟨g',cap,rfl,Z,ht,_⟩
 ·simp[qS] at hg
 ·simp[qS] at hg;subst hg;exact⟨Z,ht⟩
def Ow.shape (h:Ow D w B base v l):∃ao c,v=O ao l.length c/\l.length<=c/\c<=9223372036854775807:=by
 rcases h.form with⟨rfl,rfl⟩|⟨g,cap,rfl,_,_,h1,h2⟩
 ·exact⟨_,0,rfl,aO _,an⟩
 ·exact⟨_,cap,rfl,h1,by simpa[bK] using h2⟩
def Ow.vs (h:Ow D w B base v l):Vs D w B v l:=by
 obtain⟨us,a,ho⟩:=h.A;rcases ho.2 with⟨rfl,h2⟩|⟨g,cap,cur,rfl,hg,hh,hc,hm,_⟩
 ·obtain rfl:=sb h2;exact Vs.bh _ _ _
 ·refine⟨_,_,cap,rfl,⟨rfl,us,a,λ_=>⟨g,0,rfl,.inr ⟨_,_,hh⟩,λi hi=>?_⟩⟩,hc,by simpa[bK] using hm⟩;have b:us[i]?=ad (us.getD i (aG false)):=by
   rw[dd,cR (by rw[a.len];exact hi)];rfl
  have:=World.ownsRow.cells ho (g:=g) rfl i _ b;rwa[AN] at this
def Ow.keep (h:Ow D w B base v l) (a:Kt B S w w') (c:D.e∉S) (h2:∀t∈D.bI,t∉S):Ow D w' B base v l:=by
 obtain⟨us,b,ho⟩:=h.A;refine⟨us,b.keep a h2,ho.1,?_⟩;rcases ho.2 with h|⟨g,cap,cur,hv,hg,hh,r⟩
 ·exact .inl h
 ·exact .inr ⟨g,cap,cur,hv,hg,(a.typed D.e g c ⟨_,_,hh⟩).trans hh,r⟩
def Ow.al (h:Ow D w B base v l) (a:aS w.heap.size w w'):Ow D w' B base v l:=by
 obtain⟨us,b,ho⟩:=h.A;refine⟨us,b.Wf a,ho.1,?_⟩;rcases ho.2 with h|⟨g,cap,cur,hv,hg,hh,r⟩
 ·exact .inl h
 ·exact .inr ⟨g,cap,cur,hv,hg,(a.block g (lJ.1 hh).1).trans hh,r⟩
def Ow.alloc (h:Ow D w B base v l) (o:Obj):Ow D (w.alloc o) B base v l:=h.al ((bk _ _).alloc (aO _) o)
def Ow.drew (h:Ow D w B base v l):Ow D w.drew B base v l:=h.al ((bk _ _).drew)
theorem Wg (h:P:=by
 obtain⟨us,hu,ho⟩:=h.A;refine⟨us,hu,ho.1,?_⟩;rcases ho.2 with h|⟨g,cap,cur,hv,hg,r⟩
 ·exact .inl h
 ·exact .inr ⟨g,cap,cur,hv,a8 Z hg,r⟩
 ):P:=h
def Ow.less {b':Nat} (h:Ow D w B base v l) (Z:b'<=base):Ow D w B b' v l:=by
 exact Wg
def Ow.bt (h:Ow D w B base v l) (hB:B<=B'):Ow D w B' base v l:=by
 obtain⟨us,a,ho⟩:=h.A;exact⟨us,a.bt hB,ho⟩
def Ow.AO (w:aB) (B:Nat) (Z:base<=w.heap.size):Ow D (w.alloc (aD #[] D.e)) B base (O (ad (ab w.heap.size 0 M)) 0 0) []:=⟨[],.nil,av,.inr ⟨w.heap.size,0,#[],rfl,Z,qR w _,aO _,bV _,av,av⟩⟩
end
def Im {P:cp} {z:aE} {a:Nat} (h:(P.info? e).map (λi=>(i.zero,i.size,i.bytes))=ad (ad z,k,a)):∃i,P.info? e=ad i/\i.zero=ad z/\i.size=k/\i.bytes=a:=by
 cases hi:P.info? e with
 |none=>rw[hi] at h;cases h
 |some i=>
  rw[hi] at h;simp at h;exact⟨i,rfl,h.1,h.2.1,h.2.2⟩
section
variable {α:Type} {P:cp} {w:aB}
def Pv (D:Kr α) (t ty:bf) (base a:Nat) (z:aE) (b:P.underlying t=ad (.slice D.e)) (hi:(P.info? D.e).map (λi=>(i.zero,i.size,i.bytes))=ad (ad z,D.k,a)) (q:z.cells.size=D.k) (B:Nat) (v:aE) (l:List α) (o:Ow D w B base v l) (ao:Option aX) (m c:Nat) (l2:List α) (mv:List aE) (h2:Rs D w B l2 mv) (n:l2.length=m) (B2:Nat) (r:Sl w B2 ao (m*D.k) (λi=>mv.getD i (aG false))) (y:l.length+m<=bK) (s:(l.length+m)*a<=140737488355328) (I:base<=w.heap.size) (hB:B<=base) (G:D.e∉D.bI):∃d w',(tI #[t,t] ty #[v,O ao m c]).run P w= .ok d w'/\Ow D w' B base d (l++l2)/\w.grownBy w' v.ownBlock/\Kt B [D.e] w w':=by
 obtain⟨us,e,ho⟩:=o.A;have k:=o.row;obtain⟨p,hi,C,H,F⟩:=Im hi;obtain⟨d,w',E,g1,g2,g3⟩:=Vz (P:=P) w base t ty D.e p z D.k a b hi C H F q D.pos v l.length us ho B2 ao m c _ mv r (by rw[h2.len,n]) (λj u e=>by
  show u=mv.getD j _;rw[dd,e];rfl) h2.one y s I
 have f:Kt B [D.e] w w':=(Kt.refl B [D.e] w).grown g2 an (λg hg=>⟨ai ((k g hg).1),(k g hg).2⟩) (bD.2 rfl);refine⟨d,w',E,⟨us++mv,?_,by rw[b2,n];exact g1⟩,g2,f⟩;have b:∀t∈D.bI,t∉[D.e]:=λt b h=>G ((bD.1 h)▸b);exact(e.keep f b).append (h2.keep f b)
def Wh (D:Kr α) (s x:Operand) (t:bf) (ho:o.op= .call {callee:=.builtin .append,args:=#[s,x],argTypes:=#[t,t]}) (base b:Nat) (z:aE) (g:P.underlying t=ad (.slice D.e)) (hi:(P.info? D.e).map (λi=>(i.zero,i.size,i.bytes))=ad (ad z,D.k,b)) (e:z.cells.size=D.k) (B:Nat) (v:aE) (l:List α) (hs:a.eval s=v) (A:Ow D w B base v l) (ao:Option aX) (m c:Nat) (l2:List α) (mv:List aE) (f:a.eval x=O ao m c) (h2:Rs D w B l2 mv) (u:l2.length=m) (B2:Nat) (j:Sl w B2 ao (m*D.k) (λi=>mv.getD i (aG false))) (p:l.length+m<=bK) (n:(l.length+m)*b<=140737488355328) (y:base<=w.heap.size) (hB:B<=base) (r:D.e∉D.bI) (h:∀d w',Ow D w' B base d (l++l2)->w.grownBy w' v.ownBlock->Kt B [D.e] w w'->K (a.put o.dst d) w'):o.wp P a w K Q:=by
 obtain⟨d,w',q,h2,k,h4⟩:=Pv (P:=P) (w:=w) D t o.type base b z g hi e B v l A ao m c l2 mv h2 u B2 j p n y hB r;unfold Oper.wp execOp;simp only[ho,resolve,invoke,builtin,Sem.run_bind,Sem.run_pure,Result.andThen_ok,List.map_toArray,sd,List.map_nil,hs,f,q];exact h d w' h2 k h4
def mZ (D:Kr α) (q:o.guard=M) (s x:Operand) (t:bf) (ho:o.op= .call {callee:=.builtin .append,args:=#[s,x],argTypes:=#[t,t]}) (base b:Nat) (z:aE) (g:P.underlying t=ad (.slice D.e)) (hi:(P.info? D.e).map (λi=>(i.zero,i.size,i.bytes))=ad (ad z,D.k,b)) (e:z.cells.size=D.k) (B:Nat) (v:aE) (l:List α) (hs:a.eval s=v) (C:Ow D w B base v l) (ao:Option aX) (m c:Nat) (l2:List α) (mv:List aE) (f:a.eval x=O ao m c) (h2:Rs D w B l2 mv) (y:l2.length=m) (B2:Nat) (j:Sl w B2 ao (m*D.k) (λi=>mv.getD i (aG false))) (r:l.length+m<=bK) (p:(l.length+m)*b<=140737488355328) (A:base<=w.heap.size) (hB:B<=base) (u:D.e∉D.bI) (h:∀d w',Ow D w' B base d (l++l2)->w.grownBy w' v.ownBlock->Kt B [D.e] w w'->wpList P ops Q rest (a.put o.dst d) w'):wpList P ops Q (o::rest) a w:=wpList_plain q λ_ k=>Wh D s x t ho base b z g hi e B v l hs C ao m c l2 mv f h2 y B2 j r p A hB u λd w' h2 n h4=>k _ _ (h d w' h2 n h4)
def E8 (D:Kr α) (p:o.guard=M) (s x:Operand) (t:bf) (ho:o.op= .call {callee:=.builtin .append,args:=#[s,x],argTypes:=#[t,t]}) (base b:Nat) (z:aE) (j:P.underlying t=ad (.slice D.e)) (hi:(P.info? D.e).map (λi=>(i.zero,i.size,i.bytes))=ad (ad z,D.k,b)) (e:z.cells.size=D.k) (B:Nat) (v:aE) (l:List α) (hs:a.eval s=v) (A:Ow D w B base v l) (ao:Option aX) (m c:Nat) (l2:List α) (mv:List aE) (f:a.eval x=O ao m c) (h2:Rs D w B l2 mv) (u:l2.length=m) (B2:Nat) (k:Sl w B2 ao (m*D.k) (λi=>mv.getD i (aG false))) (q:l.length+m<=bK) (n:(l.length+m)*b<=140737488355328) (y:base<=w.heap.size) (hB:B<=base) (r:D.e∉D.bI) (h:∀d w',Ow D w' B base d (l++l2)->w.grownBy w' v.ownBlock->Kt B [D.e] w w'->K (a.put o.dst d) w'):if dz o (dR ops a.tmps)=true then Oper.wp P o a w K Q else C6:=by
 have g:dz o (dR ops a.tmps)=true:=by simp[dz,p]
 rw[ag g];exact Wh D s x t ho base b z j hi e B v l hs A ao m c l2 mv f h2 u B2 k q n y hB r h
end
variable {i j:Nat} {w':aB} {oj oi:bv}
def af5 (P:cp) (ops:Array bv) (Q:Exit->bb->aB->Prop) (R:aB->aB->Prop) (i:Nat) (o:bv) (v:aE) (a:bb) (b:aB):Prop:=∀w,R b w->∀K:bb->aB->Prop,(∀w',R w w'->K (a.put o.dst v) w')->wpOp P ops Q i K a w
section
variable {P:cp} {ops:Array bv} {Q:Exit->bb->aB->Prop} {md:Region.Mode} {R:aB->aB->Prop}
def Dh (P:cp) (R:aB->aB->Prop) (w:aB) (v:aE):Result Next->Prop
 |.ok (.value u) w'=>w'=w/\u=v
 |.ok (.enter f args) w'=>w'=w/\aN P f args w λe cT=>e=aQ v/\R w cT
 |_=>False
def nd (P:cp) (R:aB->aB->Prop) (o:bv) (a:bb) (w:aB) (v:aE):Prop:=Dh P R w v ((execOp a.eval o).run P w)
inductive Calm (P:cp) (ops:Array bv) (R:aB->aB->Prop) (o:bv) (v:aE) (a:bb) (b:aB):Prop|off:dz o (dR ops a.tmps)=false->v=cu->Calm P ops R o v a b|on:dz o (dR ops a.tmps)=true->(∀w,R b w->nd P R o a w v)->Calm P ops R o v a b
def Calm.quiet (j:∀w,R w w) {i:Nat} {o:bv} {v:aE} {a:bb} {b:aB} (hi:ops[i]?=ad o) (h:Calm P ops R o v a b):af5 P ops Q R i o v a b:=by
 intro w k K d;unfold wpOp;simp only[hi];cases h with
 |off g h2=>simp only[g,tL,if_false];exact h2▸d w (j w)
 |on g h2=>
  have c:=h2 w k;unfold nd at c;simp only[g,if_true,Oper.wp];generalize(execOp a.eval o).run P w=r at c⊢;left;cases r with
  |ok n w'=>
   cases n<;>simp only[Dh] at c;case value u=>obtain⟨rfl,rfl⟩:=c;exact d _ (j _)
   case enter f args=>
    obtain⟨rfl,h4⟩:=c;refine h4.ah ?_;rintro e w'⟨rfl,l⟩;exact d w' l
  |halt x w'=>simp only[Dh] at c
def Calm.of_same {d:bb} {b b':aB} (f:∀w,R b' w->R b w) (h:Calm P ops R o v a b) (g:execOp d.eval o=execOp a.eval o) (e:dz o (dR ops d.tmps)=dz o (dR ops a.tmps)):Calm P ops R o v d b':=by
 cases h with
 |off c h2=>exact .off (e.trans c) h2
 |on c h2=>exact .on (e.trans c) λw Z=>by unfold nd;rw[g];exact h2 w (f w Z)
theorem Wr {P:Prop} (h:P:=by
 rename_i hw;simp only[hw,if_true] at h;rcases h with h|⟨Ws,af6⟩;case inr=>exact .inr ⟨by unfold Oper.asks at*;rw[execOp_put oj PC a oi.dst v h1] at Ws;exact Ws,af6⟩
 refine .inl ?_;unfold Oper.wp at*;rw[execOp_put oj PC a oi.dst v h1] at h;generalize(execOp a.eval oj).run P w=r at*;cases r with
 |ok n w'=>
  cases n<;>simp only[Oper.upon] at h⊢;case value u=>exact⟨h.1,keep a _ h.1 hy u,by rw[<-Act.put_comm a v u h2];exact h.2⟩
  case skip=>exact⟨h.1,keep a _ h.1 hy _,aq3⟩
  case defer d=>
   refine⟨h.1,keep _ _ h.1 (Wt d) _,?_⟩;rw[<-Act.put_comm _ v cu h2,<-Act.put_defers];exact h.2
  case enter f args=>
   refine Calls.mono h λe cT he=>?_;cases e with
   |returned u=>exact⟨he.1,keep a _ he.1 hy u,by rw[<-Act.put_comm a v u h2];exact he.2⟩
   |panicked c=>exact hQ _ _ _ he
   |outgrown=>exact he
  case row row args=>exact Rows.mono h λu cT he=>⟨he.1,keep a _ he.1 hy u,by rw[<-Act.put_comm a v u h2];exact he.2⟩
 |halt x w'=>
  cases x<;>simp only[Oper.upon] at h⊢;case panic u=>exact hQ _ _ _ h
 ):P:=h
def af7 (o:∀{a b c},R a b->R b c->R a c) (hj:ops[j]?=ad oj) (k:oi.apart ops oj=true) (l:∀cs b,oi.op≠.select cs b) (PC:∀cs b,oj.op≠.select cs b) (hQ:∀c a w,Q (.panic c) (a.put oi.dst v) w->Q (.panic c) a w) {K:bb->aB->Prop} {a:bb} {w:aB} (hy:Calm P ops R oi v a w) (h:wpOp P ops Q j (λg w'=>R w w'/\K g w') (a.put oi.dst v) w):wpOp P ops Q j (λg w'=>R w w'/\Calm P ops R oi v g w'/\K (g.put oi.dst v) w') a w:=by
 obtain⟨h1,h2,i⟩:=Oper.apart_spec k;have keep:∀(a:bb) (w':aB),R w w'->Calm P ops R oi v a w->∀u,Calm P ops R oi v (a.put oj.dst u) w':=λa w' m hy u=>hy.of_same (λ_ Z=>o m Z) (execOp_put oi l a oj.dst u i) (wanted_put oi a oj.dst u i);have Wt:∀d,Calm P ops R oi v {a with defers:=d::a.defers} w:=λd=>hy.of_same (λ_ Z=>Z) rfl rfl;unfold wpOp at*;simp only[hj] at*;rw[wanted_put oj a oi.dst v h1] at h;split
 ·exact Wr
 ·rename_i hw;simp only[hw] at h;exact⟨h.1,keep a _ h.1 hy _,aq3⟩
theorem Wu {P:Prop} (h:P:=by
 have h1:=iY e he Z;have h0:=(mem_ready.1 er).1;rw[Wv] at h1;rcases gy i listed.size with h'|h'
 ·simp[h'] at h0 h1;rw[h0] at h1;cases h1
 ·simp[tK h'] at h1
 ):P:=h
theorem Ww {P:Prop} (h:P:=by
 subst mx;exact hy.quiet hr hi w hw _ (λw' hR=>⟨hR,λcT eE=>H cT (fv (fv hw hR) eE)⟩);):P:=h
def tW (P:cp) (ops:Array bv) (Q:Exit->bb->aB->Prop) (R:aB->aB->Prop):List (Bool×Nat)->bb->aB->Prop
 |[],a,b=>∀w,R b w->Q .normal a w
 |(false,i)::js,a,b=>∃o,ops[i]?=ad o/\(if dz o (dR ops a.tmps) then∃v,(∀w,R b w->nd P R o a w v)/\tW P ops Q R js (a.put o.dst v) b else tW P ops Q R js (a.put o.dst cu) b)
 |(true,i)::js,a,b=>∃o,ops[i]?=ad o/\∀w,R b w->∀K:bb->aB->Prop,(∀a' w',R w w'->tW P ops Q R js a' w'->K a' w')->if dz o (dR ops a.tmps) then o.wp P a w K Q else K (a.put o.dst cu) w
structure SQ (P:cp) (ops:Array bv) (Q:Exit->bb->aB->Prop) (R:aB->aB->Prop) (js:List (Bool×Nat)) (a:bb) (b:aB):Prop where
 A:tW P ops Q R js a b
def SQ.bh {b:aB} (h:∀w,R b w->Q .normal a w):SQ P ops Q R [] a b:=⟨h⟩
def SQ.step {i:Nat} {js:List (Bool×Nat)} {o:bv} {a:bb} {b:aB} (h:∀K:bb->Prop,(∀c,SQ P ops Q R js c b->K c)->if dz o (dR ops a.tmps) then∃v,(∀w,R b w->nd P R o a w v)/\K (a.put o.dst v) else K (a.put o.dst cu)) (ho:ops[i]?=ad o:=by rfl):SQ P ops Q R ((false,i)::js) a b:=⟨⟨o,ho,h (λc=>tW P ops Q R js c b) λc h'=>h'.A⟩⟩
def SQ.dm {js:List (Bool×Nat)} {b:aB} (h:∀w,R b w->∀K:bb->aB->Prop,(∀c w',R w w'->SQ P ops Q R js c w'->K c w')->if dz o (dR ops a.tmps)=true then o.wp P a w K Q else K (a.put o.dst cu) w) (ho:ops[i]?=ad o:=by rfl):SQ P ops Q R ((true,i)::js) a b:=⟨⟨o,ho,λw d K f=>h w d K λc w' e hs=>f c w' e hs.A⟩⟩
end
attribute [go_sem] nd Dh
def aF (w w':aB):Prop:=∃p:ba w,w'=p.aL
def aF.refl (w:aB):aF w w:=⟨⟨w,bk _ _⟩,rfl⟩
def aF.trans {a b c:aB} (h:aF a b) (k:aF b c):aF a c:=by
 obtain⟨p,rfl⟩:=h;obtain⟨q,rfl⟩:=k;exact⟨⟨q.aL,p.aC.trans (q.aC.mono p.aC.size)⟩,rfl⟩
def aF.of (h:aS w.heap.size w w'):aF w w':=⟨⟨w',h⟩,rfl⟩
def aF.aC (h:aF w w'):aS w.heap.size w w':=by obtain⟨p,rfl⟩:=h;exact p.aC
attribute [go_sem] aF
def aF.drew (w:aB):aF w w.drew:=aF.of (bk _ _).drew
def aF.al {a:aB} (h:aS w.heap.size w w'):∃q:ba w,w'=q.aL:=aF.of h
def aN.seq {P:cp} {f:FuncId} (h:aN P f args w λe w'=>e=aQ v/\aS w.heap.size w w'):aN P f args w λe b=>e=aQ v/\∃q:ba w,b=q.aL:=h.mono λ_ _ ⟨a,Z⟩=>⟨a,aF.of Z⟩
def aF.alloc {a:aB} (h:aF a w) (o:Obj):aF a (w.alloc o):=aF.of (h.aC.alloc h.aC.size o)
def aF.setCell {a:aB} (h:aF a w) {p:aX} (b:a.heap.size<=p.block) (u:aE):aF a (w.setCell p u):=aF.of (h.aC.setCell b u)
def aF.next {a:aB} (h:aF a w) (k:aS w.heap.size w w'):aF a w':=h.trans (aF.of k)
def aF.size {a:aB} (h:aF a w):a.heap.size<=w.heap.size:=h.aC.size
def ba.r (p:ba w):aF w p.aL:=⟨p,rfl⟩
structure gT (w:aB) where
 aL:aB
 aC:aS w.heap.size w aL
 AS:w.drawn<=aL.drawn
instance (w:aB):Inhabited (gT w):=⟨⟨w,bk _ _,aO _⟩⟩
def gT.cell {a:aX} (p:gT w) (h:w.cell? a=ad v):p.aL.cell? a=ad v:=by
 rcases gy a.block w.heap.size with h'|h'
 ·exact(p.aC.cell h').trans h
 ·simp[World.cell?,Array.getElem?_eq_none_iff.2 h'] at h
def gT.eP (p:gT w) (h:aI w g t cs):aI p.aL g t cs:=h.al p.aC h.lt
def gT.cells (h:aI w g t cs) (i:Nat):∀p:gT w,p.aL.cell? (ab g i M)=cs[i]?:=λp=>(p.eP h).cell i
def cm (w w':aB):Prop:=∃p:gT w,w'=p.aL
def cm.of (h:aS w.heap.size w w') (a:w.drawn<=w'.drawn):cm w w':=⟨⟨w',h,a⟩,rfl⟩
def cm.aC (h:cm w w'):aS w.heap.size w w':=by obtain⟨p,rfl⟩:=h;exact p.aC
def cm.AS (h:cm w w'):w.drawn<=w'.drawn:=by obtain⟨p,rfl⟩:=h;exact p.AS
def cm.refl (w:aB):cm w w:=cm.of (bk _ _) (aO _)
def cm.trans {a b c:aB} (h:cm a b) (k:cm b c):cm a c:=cm.of (h.aC.trans (k.aC.mono h.aC.size)) (a8 h.AS k.AS)
def cm.drew (w:aB):cm w w.drew:=cm.of (bk _ _).drew (mg _)
def cm.alloc {a:aB} (h:cm a w) (o:Obj):cm a (w.alloc o):=cm.of (h.aC.alloc h.aC.size o) h.AS
def cm.setCell {a:aB} (h:cm a w) {p:aX} (b:a.heap.size<=p.block) (u:aE):cm a (w.setCell p u):=cm.of (h.aC.setCell b u) h.AS
def cm.size {a:aB} (h:cm a w):a.heap.size<=w.heap.size:=h.aC.size
def cm.PD {a:aB} (h:cm a w):aF a w:=aF.of h.aC
def gT.r (p:gT w):cm w p.aL:=⟨p,rfl⟩
def aN.Fc {P:cp} {f:FuncId} (h:aN P f args w λe w'=>e=aQ v/\w'=w):aN P f args w λe b=>e=aQ v/\∃q:gT w,b=q.aL:=h.mono λ_ _ ⟨a,Z⟩=>⟨a,Z▸cm.refl w⟩
attribute [go_sem] cm
variable {Φ:bb->aB->Prop}
section
variable {P:cp} {ops:Array bv} {Q:Exit->bb->aB->Prop} {R:aB->aB->Prop}
def one (P:cp) (ops:Array bv) (Q:Exit->bb->aB->Prop) (R:aB->aB->Prop) (i:Nat) (a:bb) (b:aB) (Φ:bb->aB->Prop):Prop:=∃o,ops[i]?=ad o/\∀w,R b w->∀K:bb->aB->Prop,(∀a' w',R w w'->Φ a' w'->K a' w')->if dz o (dR ops a.tmps)=true then o.wp P a w K Q else K (a.put o.dst cu) w
structure wY (P:cp) (ops:Array bv) (Q:Exit->bb->aB->Prop) (R:aB->aB->Prop) (i:Nat) (a:bb) (b:aB) (Φ:bb->aB->Prop):Prop where
 A:one P ops Q R i a b Φ
def wY.dm {b:aB} (h:∀w,R b w->∀K:bb->aB->Prop,(∀c w',R w w'->Φ c w'->K c w')->if dz o (dR ops a.tmps)=true then o.wp P a w K Q else K (a.put o.dst cu) w) (ho:ops[i]?=ad o:=by rfl):wY P ops Q R i a b Φ:=⟨⟨o,ho,h⟩⟩
def LD (P:cp) (ops:Array bv) (R:aB->aB->Prop) (T:bb->Prop) (b:aB):List Nat->bb->Prop
 |[],a=>T a
 |i::is,a=>∃o,ops[i]?=ad o/\(if dz o (dR ops a.tmps) then∃v,(∀w,R b w->nd P R o a w v)/\LD P ops R T b is (a.put o.dst v) else LD P ops R T b is (a.put o.dst cu))
structure QS (P:cp) (ops:Array bv) (R:aB->aB->Prop) (T:bb->Prop) (b:aB) (is:List Nat) (a:bb):Prop where
 A:LD P ops R T b is a
def QS.bh {T:bb->Prop} {b:aB} (h:T a):QS P ops R T b [] a:=⟨h⟩
def QS.step {T:bb->Prop} {b:aB} {i:Nat} {is:List Nat} {o:bv} {a:bb} (h:∀K:bb->Prop,(∀c,QS P ops R T b is c->K c)->if dz o (dR ops a.tmps) then∃v,(∀w,R b w->nd P R o a w v)/\K (a.put o.dst v) else K (a.put o.dst cu)) (ho:ops[i]?=ad o:=by rfl):QS P ops R T b (i::is) a:=⟨⟨o,ho,h (λc=>LD P ops R T b is c) λc h'=>h'.A⟩⟩
end
variable {listed:Array Bool}
inductive It where
 |q (i:Nat)
 |c (i:Nat)
 |two (i j:Nat)
def WA (ops:Array bv) (L:Array Bool) (t i:Nat):Bool:=(se ops.size).any λk=>(k==t||(L.getD k false&&k !=i))&&(match ops[k]? with|some o=>o.after.any λe=>e.on==i&&Region.binds .any e|none=>false)
def Iu (ops:Array bv) (L:Array Bool):Bool:=match iW .any ops L with
 |[]=>true
 |[t]=>(se L.size).all λi=>!(L.getD i false)||WA ops L t i
 |_=>false
def yU (ops:Array bv) (listed:Array Bool):Prop:=∀k o,ops[k]?=ad o->listed.getD k false=true->∀e∈o.after,Region.binds .any e=true->listed.getD e.on false=true
def WB (h:listed.getD k false=true):(listed.setIfInBounds i true).getD k false=true:=by
 by_cases a:i=k
 ·subst a;rcases gy i listed.size with h'|h'
  ·simp[Array.getD_eq_getD_getElem?,Array.getElem?_setIfInBounds_self_of_lt h']
  ·rw[Array.getD_eq_getD_getElem?,tK h'] at h;cases h
 ·rw[getD_set_ne false a];exact h
def yU.step {ops:Array bv} {a:Array Bool} {i:Nat} (h:yU ops a) (hi:i∈iW .any ops a):yU ops (a.setIfInBounds i true):=by
 intro k o ho c e d Z;by_cases b:i=k
 ·subst b;obtain⟨_,o',f,g⟩:=mem_ready.1 hi;obtain rfl:o'=o:=by rw[ho] at f;exact(tM f).symm
  exact WB (g e d Z)
 ·rw[getD_set_ne false b] at c;exact WB (h k o ho c e d Z)
def yU.start (ops:Array bv) (n:Nat):yU ops (tN n false):=by
 intro k o ho a;rw[Array.getD_eq_getD_getElem?,Array.getElem?_replicate] at a;split at a<;>cases a
def agk (b5:yU ops listed) (h:Iu ops (listed.setIfInBounds i true)=true) (hi:i∈iW .any ops listed) (hj:j∈iW .any ops listed) (r:j≠i):False:=by
 have c:=ready_mono hj r;obtain⟨b,w,u,_⟩:=mem_ready.1 hi;obtain⟨_,q,m,s⟩:=mem_ready.1 hj;unfold Iu at h;generalize iW .any ops (listed.setIfInBounds i true)=l at h c;match l,h,c with
 |[t],h,c=>
  obtain rfl:j=t:=am c;have g:i<listed.size:=by
   rcases gy i listed.size with h'|h'
   ·exact h'
   ·rw[Array.getD_eq_getD_getElem?,tK h'] at b;cases b
  have p:listed.getD i false=false:=by
   simp only[Array.getD_eq_getD_getElem?,Array.getElem?_eq_getElem g,Option.getD_some] at b⊢;exact b
  have h2:=List.all_eq_true.1 h i (am g);simp only[Array.getD_eq_getD_getElem?,Array.getElem?_setIfInBounds_self_of_lt g,Option.getD_some,Bool.not_true,Bool.false_or] at h2;unfold WA at h2;obtain⟨k,v,o⟩:=List.any_eq_true.1 h2;rw[b9,Bool.or_eq_true,b9,beq_iff_eq,bne_iff_ne] at o;obtain⟨h4,f⟩:=o;have d:k<ops.size:=am v;rw[Array.getElem?_eq_getElem d] at f;simp only[Array.any_eq_true'] at f;obtain⟨e,n,h6⟩:=f;rw[b9,beq_iff_eq] at h6;rcases h4 with rfl|⟨h4,h7⟩
  ·obtain rfl:q=ops[k]:=by rw[Array.getElem?_eq_getElem d] at m;exact(tM m).symm
   have a:=s e n h6.2;rw[h6.1,p] at a;cases a
  ·rw[getD_set_ne false (Ne.symm h7)] at h4;have a:=b5 k _ (Array.getElem?_eq_getElem d) h4 e n h6.2;rw[h6.1,p] at a;cases a
def AV (P:cp) (ops:Array bv) (Q:Exit->bb->aB->Prop) (R:aB->aB->Prop) (L:Array Bool) (T:bb->aB->Prop):Nat->Array Bool->bb->aB->Prop
 |0,listed,a,w=>listed=L/\T a w
 |fuel+1,listed,a,w=>
  iW .any ops listed≠[]/\
  ∀i∈iW .any ops listed,wpOp P ops Q i (λa' w'=>R w w'/\∀cT,R w' cT->AV P ops Q R L T fuel (listed.setIfInBounds i true) a' cT) a w
section
variable {P:cp} {ops:Array bv} {Q:Exit->bb->aB->Prop} {R:aB->aB->Prop} {L:Array Bool} {T:bb->aB->Prop}
def WE (c:∀w,R w w) {n:Nat} (d:∀a w,T a w->wpAny P .any ops Q n L a w):∀(fuel:Nat) (b:Array Bool) (a:bb) (w:aB),AV P ops Q R L T fuel b a w->wpAny P .any ops Q (fuel+n) b a w
 |0,_,_,_,h=>by rw[ig];exact h.1▸d _ _ h.2
 |fuel+1,b,a,w,h=>by
  rw[Nat.succ_add]
  exact⟨λh0=>ae h0 h.1,λi hi=>wpOp_mono (λe w' h'=>WE c d fuel _ e w' (h'.2 w' (c w'))) (h.2 i hi)⟩
def WF (hr:∀w,R w w) (fv:∀{a b c},R a b->R b c->R a c) (B:Iu ops L=true) {i:Nat} {d:bv} {v:aE} (hi:ops[i]?=ad d) (n:∀(j:Nat) (o:bv) cs b,ops[j]?=ad o->o.op≠.select cs b) (A:∀c a w,Q (.panic c) (a.put d.dst v) w->Q (.panic c) a w):∀(fuel:Nat) (listed:Array Bool) (a:bb) (b:aB),yU ops listed->(∀j f,ops[j]?=ad f->j≠i->listed.getD j true=false->(∀e∈f.after,Region.binds .any e=true->e.on≠i)->d.apart ops f=true)->i∈iW .any ops listed->Calm P ops R d v a b->(∀w,R b w->AV P ops Q R L T fuel (listed.setIfInBounds i true) (a.put d.dst v) w)->∀w,R b w->AV P ops Q R L T (fuel+1) listed a w:=by
 intro fuel;induction fuel with
 |zero=>
  intro listed a b b5 _ er hy H w hw;refine⟨λh=>arq,λj hj=>?_⟩;by_cases mx:j=i
  ·exact Ww
  ·exact(agk b5 ((H w hw).1▸B) er hj mx).elim
 |succ fuel x=>
  intro listed a b b5 s er hy H w hw;refine⟨λh=>arq,λj hj=>?_⟩;by_cases mx:j=i
  ·exact Ww
  ·have h1:=(H w hw).2 j (ready_mono hj mx);obtain⟨r,f,g,iY⟩:=mem_ready.1 hj;have t:∀e∈f.after,Region.binds .any e=true->e.on≠i:=λe he Z Wv=>by
    exact Wu
   have D:Calm P ops R d v a w:=hy.of_same (λ_ Z=>fv hw Z) rfl rfl;have h2:=af7 (R:=R) (w:=w) (K:=λm w'=>∀cT,R w' cT->AV P ops Q R L T fuel ((listed.setIfInBounds i true).setIfInBounds j true) m cT) fv g (s j f g mx r t) (λcs b=>n i d cs b hi) (λcs b=>n j f cs b g) A D h1;have C:∀k ok,ops[k]?=ad ok->k≠i->(listed.setIfInBounds j true).getD k true=false->(∀e∈ok.after,Region.binds .any e=true->e.on≠i)->d.apart ops ok=true:=λk ok z u p y=>by
    refine s k ok z u ?_ y;by_cases q:j=k
    ·subst q;exact r
    ·rw[getD_set_ne true q] at p;exact p
   refine wpOp_mono (λm w' l=>⟨l.1,x (listed.setIfInBounds j true) m w' (b5.step hj) C (ready_mono er (Ne.symm mx)) l.2.1 ?_⟩) h2;intro cT hR;rw[Array.setIfInBounds_comm _ _ mx];exact l.2.2 cT hR
def PM {b:aB} {m:Nat} (d:iW .any ops listed=[i]) (h:one P ops Q R i a b Φ) (k:∀c w',Φ c w'->∀w,R w' w->AV P ops Q R L T m (listed.setIfInBounds i true) c w):∀w,R b w->AV P ops Q R L T (m+1) listed a w:=by
 intro w f;obtain⟨o,ho,l⟩:=h;refine⟨λh0=>ae (d.symm.trans h0) av,λj hj=>?_⟩;obtain rfl:j=i:=by rw[d] at hj;simpa using hj
 refine wpOp_step ho λr e=>?_;exact l w f r λc w' n g=>e c w' ⟨n,λq p=>k c w' g q p⟩
def Dj (P:cp) (ops:Array bv) (Q:Exit->bb->aB->Prop) (R:aB->aB->Prop) (T:bb->aB->Prop):List It->bb->aB->Prop
 |[],a,b=>∀w,R b w->T a w
 |.q i::js,a,b=>∃o,ops[i]?=ad o/\(if dz o (dR ops a.tmps) then∃v,(∀w,R b w->nd P R o a w v)/\Dj P ops Q R T js (a.put o.dst v) b else Dj P ops Q R T js (a.put o.dst cu) b)
 |.c i::js,a,b=>one P ops Q R i a b (Dj P ops Q R T js)
 |.two i j::js,a,b=>∃Φ:bb->aB->Prop,one P ops Q R i a b (λa' w'=>one P ops Q R j a' w' Φ)/\one P ops Q R j a b (λa' w'=>one P ops Q R i a' w' Φ)/\∀a' w',Φ a' w'->Dj P ops Q R T js a' w'
def sy (ops:Array bv):List It->Array Bool->Bool
 |[],L=>Iu ops L
 |.q i::js,L=>Region.free .any ops L i&&(iW .any ops L).contains i&&sy ops js (L.setIfInBounds i true)
 |.c i::js,L=>(iW .any ops L==[i])&&sy ops js (L.setIfInBounds i true)
 |.two i j::js,L=>(iW .any ops L==[i,j])&&(iW .any ops (L.setIfInBounds i true)==[j])&&(iW .any ops (L.setIfInBounds j true)==[i])&&(i !=j)&&sy ops js ((L.setIfInBounds i true).setIfInBounds j true)
def Dl:List It->Array Bool->Array Bool
 |[],L=>L
 |.q i::js,L=>Dl js (L.setIfInBounds i true)
 |.c i::js,L=>Dl js (L.setIfInBounds i true)
 |.two i j::js,L=>Dl js ((L.setIfInBounds i true).setIfInBounds j true)
def Ff:List It->Nat
 |[]=>0
 |.q _::js=>Ff js+1
 |.c _::js=>Ff js+1
 |.two _ _::js=>Ff js+1+1
def LF {ops:Array bv}:∀(js:List It) (L:Array Bool),sy ops js L=true->Iu ops (Dl js L)=true
 |[],L,h=>h
 |.q i::js,L,h=>by simp only[sy,b9] at h;exact LF js _ h.2
 |.c i::js,L,h=>by simp only[sy,b9] at h;exact LF js _ h.2
 |.two i j::js,L,h=>by simp only[sy,b9] at h;exact LF js _ h.2
def Fg (f:∀w,R w w) (l:∀{a b c},R a b->R b c->R a c) (hs:Region.noSelect ops=true) (g:∀c a d v w,Q (.panic c) (Act.put a d v) w->Q (.panic c) a w):∀(js:List It) (e:Array Bool) (a:bb) (b:aB),yU ops e->sy ops js e=true->Dj P ops Q R T js a b->∀w,R b w->AV P ops Q R (Dl js e) T (Ff js) e a w
 |[],e,a,b,b5,hB,h,w,hw=>⟨rfl,h w hw⟩
 |.q i::js,e,a,b,b5,hB,h,w,hw=>by
  have J:=LF _ _ hB
  simp only[sy,b9] at hB
  obtain⟨⟨H,r⟩,G⟩:=hB
  obtain⟨o,ho,h⟩:=h
  by_cases s:dz o (dR ops a.tmps)=true
  ·rw[ag s] at h;obtain⟨v,N,h2⟩:=h;exact WF f l J ho (Region.noSelect_spec hs) (λc a w=>g c a _ _ w) _ e a b b5 (Region.free_spec ho H) (am r) (.on s N) (λw' F=>Fg f l hs g js _ _ b (b5.step (am r)) G h2 w' F) w hw
  ·rw[af s] at h;exact WF f l J ho (Region.noSelect_spec hs) (λc a w=>g c a _ _ w) _ e a b b5 (Region.free_spec ho H) (am r) (.off (am s) rfl) (λw' F=>Fg f l hs g js _ _ b (b5.step (am r)) G h w' F) w hw
 |.c i::js,e,a,b,b5,hB,h,w,hw=>by
  simp only[sy,b9,beq_iff_eq] at hB
  exact PM hB.1 h (λO w' n=>Fg f l hs g js _ O w' (b5.step (by rw[hB.1];simp)) hB.2 n) w hw
 |.two i j::js,e,a,b,b5,hB,h,w,hw=>by
  simp only[sy,b9,beq_iff_eq,bne_iff_ne] at hB
  obtain⟨⟨⟨⟨h2,C⟩,h4⟩,L⟩,K⟩:=hB
  obtain⟨Φ,M,Z,I⟩:=h
  refine⟨λh0=>ae (h2.symm.trans h0) av,λk z=>?_⟩
  rw[h2] at z
  simp only[ee,kg,or_false] at z
  rcases z with rfl|rfl
  ·obtain⟨o,ho,h⟩:=M;refine wpOp_step ho λE u=>?_;exact h w hw E λD t B y=>u D t ⟨B,PM C y λp m n=>Fg f l hs g js _ p m ((b5.step (by rw[h2];simp)).step (by rw[C];simp)) K (I p m n)⟩
  ·obtain⟨o,ho,h⟩:=Z;refine wpOp_step ho λE u=>?_;refine h w hw E λD t B y=>u D t ⟨B,PM h4 y λp m n=>?_⟩;rw[Array.setIfInBounds_comm _ _ (Ne.symm L)];exact Fg f l hs g js _ p m ((b5.step (by rw[h2];simp)).step (by rw[C];simp)) K (I p m n)
def LG (P:cp) (ops:Array bv) (Q:Exit->bb->aB->Prop):List Nat->bb->aB->Prop
 |[],a,w=>Q .normal a w
 |i::is,a,w=>∃o,ops[i]?=ad o/\∀K:bb->aB->Prop,(∀a' w',LG P ops Q is a' w'->K a' w')->if dz o (dR ops a.tmps)=true then o.wp P a w K Q else K (a.put o.dst cu) w
def Fh (ops:Array bv):List Nat->Array Bool->Bool
 |[],L=>iW .any ops L==[]
 |i::is,L=>(iW .any ops L==[i])&&Fh ops is (L.setIfInBounds i true)
def WG:∀(is:List Nat) (L:Array Bool) (a:bb) (w:aB),Fh ops is L=true->LG P ops Q is a w->wpAny P .any ops Q is.length L a w
 |[],L,a,w,hB,h=>⟨by simpa[Fh] using hB,h⟩
 |i::is,L,a,w,hB,h=>by
  simp only[Fh,b9,beq_iff_eq] at hB
  obtain⟨o,ho,h⟩:=h
  refine⟨λh0=>ae (hB.1.symm.trans h0) av,λj hj=>?_⟩
  obtain rfl:j=i:=by rw[hB.1] at hj;simpa using hj
  exact wpOp_step ho λe c=>h e λb w' d=>c b w' (WG is _ b w' hB.2 d)
structure E4 (P:cp) (ops:Array bv) (Q:Exit->bb->aB->Prop) (ks:List Nat) (a:bb) (w:aB):Prop where
 A:LG P ops Q ks a w
def E4.bh (h:Q .normal a w):E4 P ops Q [] a w:=⟨h⟩
def E4.dm {is:List Nat} (h:∀K:bb->aB->Prop,(∀b w',E4 P ops Q is b w'->K b w')->if dz o (dR ops a.tmps)=true then o.wp P a w K Q else K (a.put o.dst cu) w) (ho:ops[i]?=ad o:=by rfl):E4 P ops Q (i::is) a w:=⟨⟨o,ho,λK d=>h K λb w' c=>d b w' c.A⟩⟩
structure S4 (P:cp) (ops:Array bv) (Q:Exit->bb->aB->Prop) (R:aB->aB->Prop) (ks:List Nat) (js:List It) (a:bb) (b:aB):Prop where
 A:Dj P ops Q R (LG P ops Q ks) js a b
variable {ks:List Nat}
def S4.bh {b:aB} (h:∀w,R b w->E4 P ops Q ks a w):S4 P ops Q R ks [] a b:=⟨λw c=>(h w c).A⟩
def S4.step {i:Nat} {js:List It} {o:bv} {a:bb} {b:aB} (h:∀K:bb->Prop,(∀c,S4 P ops Q R ks js c b->K c)->if dz o (dR ops a.tmps) then∃v,(∀w,R b w->nd P R o a w v)/\K (a.put o.dst v) else K (a.put o.dst cu)) (ho:ops[i]?=ad o:=by rfl):S4 P ops Q R ks (.q i::js) a b:=⟨⟨o,ho,h (λc=>Dj P ops Q R _ js c b) λc h'=>h'.A⟩⟩
def S4.dm {js:List It} {b:aB} (h:∀w,R b w->∀K:bb->aB->Prop,(∀d w',R w w'->S4 P ops Q R ks js d w'->K d w')->if dz o (dR ops a.tmps)=true then o.wp P a w K Q else K (a.put o.dst cu) w) (ho:ops[i]?=ad o:=by rfl):S4 P ops Q R ks (.c i::js) a b:=⟨⟨o,ho,λw e K g=>h w e K λd w' f hs=>g d w' f hs.A⟩⟩
def S4.two {js:List It} {b:aB} (g f:Option Nat) (Ψ:aE->aE->aB->Prop) (s:∀v u,(a.put f u).put g v=(a.put g v).put f u) (y:wY P ops Q R i a b (λc w'=>∃v,c=a.put g v/\wY P ops Q R j (a.put g v) w' (λt q=>∃u,t=(a.put g v).put f u/\Ψ v u q))) (h2:wY P ops Q R j a b (λc w'=>∃u,c=a.put f u/\wY P ops Q R i (a.put f u) w' (λt q=>∃v,t=(a.put f u).put g v/\Ψ v u q))) (x:∀v u w,Ψ v u w->S4 P ops Q R ks js ((a.put g v).put f u) w):S4 P ops Q R ks (.two i j::js) a b:=by
 refine⟨⟨λc w'=>∃v u,c=(a.put g v).put f u/\Ψ v u w',?_,?_,?_⟩⟩
 ·obtain⟨o,ho,h⟩:=y.A;refine⟨o,ho,λw k K m=>h w k K λc w' l d=>m c w' l ?_⟩;obtain⟨v,rfl,d⟩:=d;obtain⟨p,r,h2⟩:=d.A;exact⟨p,r,λw k K m=>h2 w k K λc w' l d=>m c w' l (by obtain⟨u,e,n⟩:=d;exact⟨v,u,e,n⟩)⟩
 ·obtain⟨o,ho,h⟩:=h2.A;refine⟨o,ho,λw k K m=>h w k K λc w' l d=>m c w' l ?_⟩;obtain⟨u,rfl,d⟩:=d;obtain⟨p,r,h2⟩:=d.A;exact⟨p,r,λw k K m=>h2 w k K λc w' l d=>m c w' l (by obtain⟨v,e,n⟩:=d;exact⟨v,u,e.trans (s v u),n⟩)⟩
 ·rintro c w'⟨v,u,rfl,n⟩;exact(x v u w' n).A
def AY {g:Nat} {l:List bv} (R:aB->aB->Prop) (f:∀w,R w w) (p:∀{a b c},R a b->R b c->R a c) (js:List It) (ks:List Nat) (k:R w w.drew) (h:S4 P l.toArray Q R ks js a w) (j:P.follows .mixedOrders=true:=by kernel_rfl) (hB:(Region.noSelect l.toArray&&sy l.toArray js (tN l.toArray.size false)&&Fh l.toArray ks (Dl js (tN l.toArray.size false))&&(Ff js+ks.length==l.toArray.size))=true:=by kernel_rfl) (m:∀c a d v w,Q (.panic c) (Act.put a d v) w->Q (.panic c) a w:=by intro _ _ oI _ _ h;cases oI<;>exact h):(Code.region g l.toArray true).wp P Q a w:=by
 simp only[b9,beq_iff_eq] at hB;obtain⟨⟨⟨hs,o⟩,h2⟩,n⟩:=hB;refine wp_region_any j ?_;have e:=WE (R:=R) f (λa w i=>WG ks _ a w h2 i) _ _ _ _ (Fg f p hs m js _ a w (yU.start _ _) o h.A w.drew k);rw[n] at e;exact e
end
def WH (Q:Exit->bb->aB->Prop):Exit->bb->aB->Prop
 |.normal,a,w=>Q .normal a w
 |_,_,_=>False
def Ix {P:cp} {c:Code} (h:c.wp P (WH Q) a w):c.wp P Q a w:=wp_mono h λe a w h=>by cases e<;>first|exact h|exact h.elim
attribute [go_sem] WH
def cU (i:Nat):Nat->List It->List It
 |0,t=>t
 |n+1,t=>.q i::cU (i+1) n t
def du {P:cp} {b:Nat} {l:List bv} (js:List It) (ks:List Nat) (h:S4 P l.toArray Q aF ks js a w) (e:P.follows .mixedOrders=true:=by kernel_rfl) (hB:(Region.noSelect l.toArray&&sy l.toArray js (tN l.toArray.size false)&&Fh l.toArray ks (Dl js (tN l.toArray.size false))&&(Ff js+ks.length==l.toArray.size))=true:=by kernel_rfl) (f:∀c a d v w,Q (.panic c) (Act.put a d v) w->Q (.panic c) a w:=by intro _ _ oI _ _ h;cases oI<;>exact h):(Code.region b l.toArray true).wp P Q a w:=AY aF aF.refl aF.trans js ks (aF.drew _) h e hB f
def S4.nb {P:cp} {ks:List Nat} {b:aB} (h:∀w,aS b.heap.size b w->E4 P ops Q ks a w):S4 P ops Q aF ks [] a b:=.bh λw c=>h w c.aC
theorem dY {Q:Prop} (k:Q) (h:a6 Q->P:=by
 intro nf;repeat (
  refine S4.step (λKK aJ=>?_);go_simp;refine aJ _ ?_;clear aJ KK)
 exact nf.A):P:=h k
theorem dP {Q:Prop} (k:Q) (h:a6 Q->P:=by
 intro nf;repeat (
  refine E4.dm (λKK aJ=>?_);go_simp;refine aJ _ _ ?_;clear aJ KK)
 refine E4.bh ?_;exact nf.A):P:=h k
def Mv (w:aB) (v:aE):Result Next->Prop
 |.ok (.value u) w'=>w'=w/\u=v
 |_=>False
def Mw (P:cp) (o:bv) (a:bb) (w:aB) (v:aE):Prop:=Mv w v ((execOp a.eval o).run P w)
def Q9 (P:cp) (o:bv) (a:bb) (C:aB->Prop) (next:bb->Prop):Prop:=∃v,(∀w,C w->Mw P o a w v)/\next (a.put o.dst v)
attribute [go_sem] Q9 Mw Mv
def ah5 {P:cp} (h:Mw P o a w v):(execOp a.eval o).run P w= .ok (.value v) w:=by
 unfold Mw at h;generalize(execOp a.eval o).run P w=r at h;cases r with
 |ok n w'=>cases n<;>simp only[Mv] at h;obtain⟨rfl,rfl⟩:=h;rfl
 |halt x w'=>simp only[Mv] at h
def tk (P:cp) (ops:Array bv) (C:aB->Prop) (Q:bb->Prop):List Nat->bb->Prop
 |[],a=>Q a
 |i::js,a=>∃o,ops[i]?=ad o/\(if dz o (dR ops a.tmps) then Q9 P o a C (tk P ops C Q js) else tk P ops C Q js (a.put o.dst cu))
structure TK (P:cp) (ops:Array bv) (C:aB->Prop) (Q:bb->Prop) (is:List Nat) (a:bb):Prop where
 A:tk P ops C Q is a
section
variable {P:cp} {ops:Array bv} {C S:aB->Prop} {Q:bb->Prop} {md:Region.Mode} {QQ:Exit->bb->aB->Prop}
def TK.bh (h:Q a):TK P ops C Q [] a:=⟨h⟩
def TK.step {i:Nat} {js:List Nat} {o:bv} {a:bb} (ho:ops[i]?=ad o) (h:∀K:bb->Prop,(∀a,TK P ops C Q js a->K a)->if dz o (dR ops a.tmps) then Q9 P o a C K else K (a.put o.dst cu)):TK P ops C Q (i::js) a:=⟨⟨o,ho,h _ λ_ b=>b.A⟩⟩
def I9 (md:Region.Mode) (ops:Array bv):List Nat->Array Bool->Bool
 |[],_=>true
 |i::is,listed=>Region.free md ops listed i&&(iW md ops listed).contains i&&I9 md ops is (listed.setIfInBounds i true)
def DT:List Nat->Array Bool->Array Bool
 |[],listed=>listed
 |i::is,listed=>DT is (listed.setIfInBounds i true)
def Mx (hs:Region.noSelect ops=true) (f:∀c a d v w,QQ (.panic c) (Act.put a d v) w->QQ (.panic c) a w) {w:aB} (g:C w) {fuel:Nat}:∀(is:List Nat) (b:Array Bool) (a:bb),I9 md ops is b=true->tk P ops C Q is a->(∀m,Q m->wpAnyH P md ops QQ C fuel (DT is b) m w)->wpAnyH P md ops QQ C (fuel+is.length) b a w
 |[],b,a,_,h,hk=>hk a h
 |i::is,b,a,hB,h,hk=>by
  simp only[I9,b9] at hB
  obtain⟨⟨l,k⟩,j⟩:=hB
  obtain⟨o,ho,h⟩:=h
  rw[pY,<-Nat.add_assoc]
  by_cases e:dz o (dR ops a.tmps)=true
  ·rw[ag e] at h;obtain⟨v,n,h2⟩:=h;exact wpAnyH_take ho hs l k (λc a w=>f c a _ _ w) (.inl ⟨e,λw e=>ah5 (n w e)⟩) g (Mx hs f g is _ _ j h2 hk)
  ·rw[af e] at h;exact wpAnyH_take ho hs l k (λc a w=>f c a _ _ w) (.inr ⟨am e,rfl⟩) g (Mx hs f g is _ _ j h hk)
def YT {S':aB->Prop} (c:∀w,S' w->S w):∀(fuel:Nat) (b:Array Bool) (a:bb) (w:aB),wpAnyH P md ops QQ S' fuel b a w->wpAnyH P md ops QQ S fuel b a w
 |0,_,_,_,h=>h
 |fuel+1,_,_,_,h=>⟨h.1,λi hi=>wpOp_mono (λd w' h'=>⟨c _ h'.1,YT c fuel _ d w' h'.2⟩) (h.2 i hi)⟩
end
def kY:Array aE:=#[ap ⟨#[100]⟩,J I 86400000,ap ⟨#[104]⟩,J I 3600000,ap ⟨#[109]⟩,J I 60000,ap ⟨#[115]⟩,J I 1000,ap ⟨#[109,115]⟩,J I 1]
def uw:Array aE:=#[ap ⟨#[]⟩,ap ⟨#[62]⟩,ap ⟨#[62,61]⟩,ap ⟨#[60]⟩,ap ⟨#[60,61]⟩,ap ⟨#[61,61]⟩,ap ⟨#[33,61]⟩]
def RP:Array aE:=#[ap ⟨#[]⟩,ap ⟨#[112,101,110,100,105,110,103]⟩,ap ⟨#[102,105,114,105,110,103]⟩]
structure eK (w:aB):Prop where
 aju:∃T f,w.heap[1]?=ad (aD kY T f)
 ajv:∃T f,w.heap[2]?=ad (aD uw T f)
 ajw:∃T f,w.heap[3]?=ad (aD RP T f)
 pow:∀w',aS w.heap.size w w'->Lib.TabIs aH w' "internal/strconv.uint64pow10" .u64 Lib.pow10Tab
def eK.al (h:eK w) (Z:aS w.heap.size w w'):eK w':=by
 have a:∀{g:Nat} {o:Obj},w.heap[g]?=ad o->w'.heap[g]?=ad o:=λ{g o} hg=>(Z.block g (lJ.1 hg).1).trans hg;obtain⟨⟨c,j,e⟩,⟨l,i,h2⟩,⟨b,f,d⟩,h4⟩:=h;exact⟨⟨c,j,a e⟩,⟨l,i,a h2⟩,⟨b,f,a d⟩,λk h=>h4 k (Z.trans (h.mono Z.size))⟩
def eK.rel (h:eK w) (Z:aF w w'):eK w':=h.al Z.aC
def eK.unit (h:eK w) (j:Nat):w.cell? (ab 1 j M)=kY[j]?:=by
 obtain⟨T,f,a⟩:=h.aju;simp[World.cell?,a]
def eK.sign (h:eK w) (j:Nat):w.cell? (ab 2 j M)=uw[j]?:=by
 obtain⟨T,f,a⟩:=h.ajv;simp[World.cell?,a]
def eK.state (h:eK w) (j:Nat):w.cell? (ab 3 j M)=RP[j]?:=by
 obtain⟨T,f,a⟩:=h.ajw;simp[World.cell?,a]
variable {α β:Type} {cl:Nat}
section
open Go.ChangeMaps Go.MapKept
open Go.Maps (Keyed)
def PE (f:α->β):∀(l:List α) (j:Nat),(l.eraseIdx j).map f=(l.map f).eraseIdx j
 |[],_=>rfl
 |_::_,0=>rfl
 |a::l,j+1=>by simp[PE f l j]
structure KK (P:cp) (k:bf) (κ:Type) where
 law:Keyed P k
 kv:κ->aE
 ok:κ->Prop
 lit:∀a,ok a->∃l,keyOf P k (kv a)=ad l
 inj:∀a b,ok a->ok b->kv a=kv b->a=b
section
variable {P:cp} {k:bf} {κ:Type} {Q:KK P k κ}
def su (ms:Array MapEntry) (cl:Nat):Prop:=(ms.toList.map (·.born)).Nodup/\∀e∈ms.toList,e.born<cl
structure Mp (Q:KK P k κ) (w:aB) (r:Nat) (es:List (κ×aE)):Prop where
 A:∃ms bo,w.heap[r]?=ad (.map ms bo)/\ms.toList.map (λe=>(e.key,e.val))=es.map (λe=>(Q.kv e.1,e.2))/\su ms bo
 ok:∀e∈es,Q.ok e.1
def gF [DecidableEq κ] {ν:Type} (es:List (κ×ν)) (a:κ):Option ν:=(es.find? λe=>decide (e.1=a)).map (·.2)
def eF [DecidableEq κ] {ν:Type}:List (κ×ν)->κ->ν->List (κ×ν)
 |[],a,v=>[(a,v)]
 |e::es,a,v=>if e.1=a then(a,v)::es else e::eF es a v
def jI [DecidableEq κ] {ν:Type}:List (κ×ν)->κ->List (κ×ν)
 |[],_=>[]
 |e::es,a=>if e.1=a then es else e::jI es a
variable {w w':aB} {r:Nat} {es:List (κ×aE)} {a:κ} {v:aE} {t e:bf}
def su.sub {ms ns:Array MapEntry} (h:su ms cl) (hs:ns.toList.Sublist ms.toList):su ns cl:=⟨h.1.sublist (hs.map _),λe a=>h.2 e (hs.subset a)⟩
def su.same {ms ns:Array MapEntry} (h:su ms cl) (hs:ns.toList.map (·.born)=ms.toList.map (·.born)):su ns cl:=⟨by rw[hs];exact h.1,λe c=>by
 have:e.born∈ms.toList.map (·.born):=hs▸hM.2 ⟨e,c,rfl⟩;obtain⟨x,b,a⟩:=hM.1 this;rw[<-a];exact h.2 x b⟩
def su.push {ms:Array MapEntry} (h:su ms cl) (k v:aE):su (ms.push ⟨k,v,cl⟩) (cl+1):=by
 refine⟨?_,λe c=>?_⟩
 ·rw[Array.toList_push,lK,List.nodup_append];refine⟨h.1,av,λa f b Z=>?_⟩;simp only[sd,List.map_nil,bD] at Z;subst Z;obtain⟨x,d,rfl⟩:=hM.1 f;exact mW (h.2 x d)
 ·rw[Array.toList_push] at c;rcases kf.1 c with c|c
  ·exact Nat.lt_succ_of_lt (h.2 e c)
  ·rw[bD] at c;subst c;exact Nat.lt_succ_self _
def af8 (ms:Array MapEntry) (j:Nat) (k v:aE):((ms.modify j λe=>{e with key:=k,val:=v}).toList.map (·.born))=ms.toList.map (·.born):=by
 apply List.ext_getElem?;intro i;rw[tJ,tJ,Array.getElem?_toList,Array.getElem?_toList,yu];by_cases a:j=i
 ·subst a;cases ms[j]?<;>simp
 ·simp[a]
def Mp.made (Q:KK P k κ) (w:aB):Mp Q (w.alloc (.map #[] 0)) w.heap.size []:=⟨⟨#[],0,qR w _,rfl,by simp[su]⟩,av⟩
def Mp.lt (h:Mp Q w r es):r<w.heap.size:=by
 obtain⟨ms,c,Z,_⟩:=h.A;exact(lJ.1 Z).1
def Mp.of_block (h:Mp Q w r es) (Z:w'.heap[r]?=w.heap[r]?):Mp Q w' r es:=by
 obtain⟨ms,c,b,h2,a⟩:=h.A;exact⟨⟨ms,c,Z.trans b,h2,a⟩,h.ok⟩
def Mp.al (h:Mp Q w r es) (Z:aS w.heap.size w w'):Mp Q w' r es:=h.of_block (Z.block r h.lt)
def Mp.alloc (h:Mp Q w r es) (o:Obj):Mp Q (w.alloc o) r es:=h.al ((bk _ _).alloc (aO _) o)
def Mp.setCell (h:Mp Q w r es) {p:aX} (a:r≠p.block) (u:aE):Mp Q (w.setCell p u) r es:=h.of_block (yv _ _ _ _ a)
def Mp.drew (h:Mp Q w r es):Mp Q w.drew r es:=h.of_block rfl
def Mp.find (h:Mp Q w r es) {ms:Array MapEntry} (d:ms.toList.map (λe=>(e.key,e.val))=es.map (λe=>(Q.kv e.1,e.2))) (n:Q.ok a) (W:aB):((Instr.findKey k (Q.kv a) ms.toList).run P W= .ok M W/\∀e∈es,e.1≠a)\/∃j e0 x,(Instr.findKey k (Q.kv a) ms.toList).run P W= .ok (ad (j,e0.val)) W/\ms.toList[j]?=ad e0/\e0.key=Q.kv a/\es[j]?=ad x/\x.1=a/\x.2=e0.val:=by
 obtain⟨l,p⟩:=Q.lit a n;have g:∀e∈ms.toList,∃x∈es,(e.key,e.val)=(Q.kv x.1,x.2):=λe f=>by
  have:(e.key,e.val)∈es.map (λe=>(Q.kv e.1,e.2)):=d▸hM.2 ⟨e,f,rfl⟩;obtain⟨x,b,c⟩:=hM.1 this;exact⟨x,b,c.symm⟩
 rcases Q.law.find W p ms.toList (λe f=>by
  obtain⟨x,b,c⟩:=g e f;rw[(Prod.mk.inj c).1];exact Q.lit _ (h.ok x b)) with⟨h1,h2⟩|⟨j,e0,h1,h2,h3⟩
 ·refine .inl ⟨h1,λx b e=>?_⟩;have:(Q.kv x.1,x.2)∈ms.toList.map (λe=>(e.key,e.val)):=d▸hM.2 ⟨x,b,rfl⟩;obtain⟨m,o,q⟩:=hM.1 this;exact h2 m o ((Prod.mk.inj q).1.trans wH)
 ·refine .inr ⟨j,e0,?_⟩;have hj:(es.map (λe=>(Q.kv e.1,e.2)))[j]?=ad (e0.key,e0.val):=by rw[<-d,tJ,h2];rfl
  rw[tJ] at hj;obtain⟨x,b,c⟩:=Option.map_eq_some_iff.1 hj;have i:=Prod.mk.inj c;exact⟨x,h1,h2,h3,b,Q.inj _ _ (h.ok x (List.mem_of_getElem? b)) n (i.1.trans h3),i.2⟩
end
section
variable {κ:Type} {ν:Type} {es:List (κ×ν)} {a:κ} {v:ν}
def jt {ν:Type} (es:List (κ×ν)):Prop:=es.Pairwise λx y=>x.1≠y.1
theorem PG (h:P:=by
 have:=List.rel_of_pairwise_cons hd (List.mem_of_getElem? (am hj));rw[hx] at this;exact this;):P:=h
def aga [DecidableEq κ] (hd:jt es) {j:Nat} {x:κ×ν} (hj:es[j]?=ad x) (hx:x.1=a):gF es a=ad x.2:=by
 unfold gF;induction es generalizing j with
 |nil=>simp at hj
 |cons y es b=>
  rw[List.find?_cons];cases j with
  |zero=>
   simp at hj;subst hj;simp[hx]
  |succ j=>
   have c:y.1≠a:=by
    exact PG
   simp only[c,decide_false];exact b (List.Pairwise.of_cons hd) (am hj)
def agb [DecidableEq κ] (h:∀e∈es,e.1≠a):gF es a=M:=by
 unfold gF;rw[Option.map_eq_none_iff,List.find?_eq_none];simpa using h
def Ly [DecidableEq κ] (h:∀e∈es,e.1≠a):eF es a v=es++[(a,v)]:=by
 induction es with
 |nil=>rfl
 |cons y es b=>rw[eF,af (h y av),b (λe c=>h e (by simp[c]))];rfl
def agc [DecidableEq κ] (hd:jt es) {j:Nat} {x:κ×ν} (hj:es[j]?=ad x) (hx:x.1=a):eF es a v=es.set j (a,v):=by
 induction es generalizing j with
 |nil=>simp at hj
 |cons y es b=>
  cases j with
  |zero=>simp at hj;subst hj;rw[eF,ag hx];rfl
  |succ j=>
   have c:y.1≠a:=by
    exact PG
   rw[eF,af c,b (List.Pairwise.of_cons hd) (am hj)];rfl
def Wx [DecidableEq κ] (h:∀e∈es,e.1≠a):jI es a=es:=by
 induction es with
 |nil=>rfl
 |cons y es b=>rw[jI,af (h y av),b (λe c=>h e (by simp[c]))]
def agd [DecidableEq κ] (hd:jt es) {j:Nat} {x:κ×ν} (hj:es[j]?=ad x) (hx:x.1=a):jI es a=es.eraseIdx j:=by
 induction es generalizing j with
 |nil=>simp at hj
 |cons y es b=>
  cases j with
  |zero=>simp at hj;subst hj;rw[jI,ag hx];rfl
  |succ j=>
   have c:y.1≠a:=by
    exact PG
   rw[jI,af c,b (List.Pairwise.of_cons hd) (am hj)];rfl
def LA [DecidableEq κ] {x:κ×ν}:x∈eF es a v->x=(a,v)\/x∈es:=by
 induction es with
 |nil=>intro h;simpa[eF] using h
 |cons y es b=>
  intro h;unfold eF at h;split at h
  ·rcases ee.1 h with h|h
   ·exact .inl h
   ·exact .inr (by simp[h])
  ·rcases ee.1 h with h|h
   ·exact .inr (by simp[h])
   ·rcases b h with h|h
    ·exact .inl h
    ·exact .inr (by simp[h])
def PH [DecidableEq κ] {x:κ×ν}:x∈jI es a->x∈es:=by
 induction es with
 |nil=>intro h;simp[jI] at h
 |cons y es b=>
  intro h;unfold jI at h;split at h
  ·simp[h]
  ·rcases ee.1 h with h|h
   ·simp[h]
   ·simp[b h]
def jt.eF [DecidableEq κ] (f:jt es):jt (eF es a v):=by
 unfold jt at*;induction es with
 |nil=>simp[YtbeaddlblpgppaaGreatDoor.eF]
 |cons y es d=>
  have c:=List.pairwise_cons.1 f;unfold YtbeaddlblpgppaaGreatDoor.eF;split
  ·rename_i e;refine List.pairwise_cons.2 ⟨λz b=>?_,c.2⟩;have:=c.1 z b;rw[e] at this;exact this
  ·rename_i e;refine List.pairwise_cons.2 ⟨λz b=>?_,d c.2⟩;rcases LA b with rfl|b
   ·exact e
   ·exact c.1 z b
def jt.jI [DecidableEq κ] (e:jt es):jt (jI es a):=by
 unfold jt at*;induction es with
 |nil=>simp[YtbeaddlblpgppaaGreatDoor.jI]
 |cons y es c=>
  have b:=List.pairwise_cons.1 e;unfold YtbeaddlblpgppaaGreatDoor.jI;split
  ·exact b.2
  ·exact List.pairwise_cons.2 ⟨λz d=>b.1 z (PH d),c b.2⟩
end
section
variable {P:cp} {k:bf} {κ:Type} {Q:KK P k κ} {w w':aB} {r:Nat} {es:List (κ×aE)} {a:κ} {v:aE} {t e:bf}
def LB [DecidableEq κ] (c:Bool) (h:Mp Q w r es) (m:jt es) (f:Q.ok a) (b:P.underlying t=ad (.map k e)) {z:aE} (g:(zeroValue e).run P w= .ok z w):(Instr.lookup t (.map (ad r)) (Q.kv a) c).run P w= .ok (if c then bn #[(gF es a).getD z,aG (gF es a).isSome] else(gF es a).getD z) w:=by
 obtain⟨ms,cl,Z,i,n⟩:=h.A;obtain⟨l,d⟩:=Q.lit a f;rcases h.find i f w with⟨h1,h2⟩|⟨j,e0,x,h1,h2,h3,h4,h5,h6⟩
 ·rw[agb h2];simp[Instr.lookup,mf b,MapKept.run_getObj_map Z,Q.law.check w _ d,h1,g,Result.andThen]
 ·rw[aga m h4 h5,h6];simp[Instr.lookup,mf b,MapKept.run_getObj_map Z,Q.law.check w _ d,h1,Result.andThen]
def run_store [DecidableEq κ] (h:Mp Q w r es) (u:jt es) (c:Q.ok a) (p:P.underlying t=ad (.map k e)):∃w',(Instr.mapUpdate t (.map (ad r)) (Q.kv a) v).run P w= .ok () w'/\Mp Q w' r (eF es a v)/\w.grownBy w' (ad r):=by
 obtain⟨ms,cl,Z,d,m⟩:=h.A;obtain⟨l,f⟩:=Q.lit a c;have q:∀o,w.grownBy (setBlock w r o) (ad r):=λo=>⟨rfl,rfl,rfl,by simp[setBlock],λi _ y=>heap_setBlock_other Z o (λe=>y wH)⟩;rcases h.find d c w with⟨h1,h2⟩|⟨j,e0,x,h1,h2,h3,h4,h5,h6⟩
 ·refine⟨setBlock w r (.map (ms.push ⟨Q.kv a,v,cl⟩) (cl+1)),?_,⟨⟨_,_,heap_setBlock_same Z _,?_,?_⟩,?_⟩,q _⟩
  ·simp[Instr.mapUpdate,mf p,MapKept.run_getObj_map Z,Q.law.check w false f,h1,MapKept.run_setObj_map _ Z,Result.andThen,setBlock]
  ·rw[Ly h2];simp[d]
  ·exact m.push _ _
  ·rw[Ly h2];intro e b;rcases kf.1 b with b|b
   ·exact h.ok e b
   ·rw[bD] at b;subst b;exact c
 ·have z:=Q.law.stays w f;have n:j<ms.toList.length:=(yy.1 h2).1;have s:ms[j]?=ad e0:=am h2;refine⟨setBlock w r (.map (ms.modify j λe=>{e with key:=Q.kv a,val:=v}) cl),?_,⟨⟨_,_,heap_setBlock_same Z _,?_,?_⟩,?_⟩,q _⟩
  ·simp[Instr.mapUpdate,mf p,MapKept.run_getObj_map Z,Q.law.check w false f,h1,MapKept.run_setObj_map _ Z,Result.andThen,setBlock,s,h3,z]
  ·rw[agc u h4 h5,List.map_set,<-d];apply List.ext_getElem?;intro i;rw[tJ,Array.getElem?_toList,yu,List.getElem?_set];have B:j<(ms.toList.map λe=>(e.key,e.val)).length:=am n;by_cases g:j=i
   ·subst g;simp[s];simpa using n
   ·simp[g]
  ·exact m.same (af8 _ _ _ _)
  ·intro e b;rcases LA b with rfl|b
   ·exact c
   ·exact h.ok e b
theorem Wy {P:Prop} (h:P:=by
 simp[Builtin.delete_,mf ht,MapKept.run_getObj_map Z,Q.law.check w _ hl,h1,MapKept.run_setObj_map _ Z,Result.andThen,setBlock];):P:=h
def age [DecidableEq κ] (ty:bf) (h:Mp Q w r es) (p:jt es) (d:Q.ok a) (ht:P.underlying t=ad (.map k e)):∃w',(Builtin.delete_ #[t,k] ty #[.map (ad r),Q.kv a]).run P w= .ok (bn #[]) w'/\Mp Q w' r (jI es a)/\w.grownBy w' (ad r):=by
 obtain⟨ms,cl,Z,b,c⟩:=h.A;obtain⟨l,hl⟩:=Q.lit a d;have f:∀o,w.grownBy (setBlock w r o) (ad r):=λo=>⟨rfl,rfl,rfl,by simp[setBlock],λi _ q=>heap_setBlock_other Z o (λe=>q wH)⟩;rcases h.find b d w with⟨h1,h2⟩|⟨j,e0,x,h1,h2,h3,h4,h5,h6⟩
 ·refine⟨setBlock w r (.map ms cl),?_,⟨⟨_,_,heap_setBlock_same Z _,by rw[Wx h2];exact b,c⟩,by rw[Wx h2];exact h.ok⟩,f _⟩;exact Wy
 ·have m:j<ms.toList.length:=(yy.1 h2).1;have s:j<ms.size:=am m;have g:(ms.eraseIdxIfInBounds j).toList=ms.toList.eraseIdx j:=by
   unfold Array.eraseIdxIfInBounds;rw[dif_pos s];simp
  refine⟨setBlock w r (.map (ms.eraseIdxIfInBounds j) cl),?_,⟨⟨_,_,heap_setBlock_same Z _,?_,c.sub (by rw[g];exact List.eraseIdx_sublist _ _)⟩,λe n=>h.ok e (PH n)⟩,f _⟩
  ·exact Wy
  ·rw[agd p h4 h5,g,PE,b,PE]
def agf (ty:bf) (h:Mp Q w r es) (a:P.underlying t=ad (.map k e)):(Builtin.len_ #[t] ty #[.map (ad r)]).run P w= .ok (J I es.length) w:=by
 obtain⟨ms,cl,Z,b,c⟩:=h.A;have:ms.size=es.length:=by have:=congrArg oz b;simpa using this
 simp[Builtin.len_,mf a,MapKept.run_getObj_map Z,goInt,Result.andThen,this]
end
end
section
open Go.ChangeMaps Go.MapKept
open Go.Maps (Keyed)
section
variable {P:cp} {k:bf} {κ:Type} {Q:KK P k κ} {w w':aB} {r b B:Nat} {a:κ} {t e:bf}
structure my (Q:KK P k κ) (w:aB) (r b:Nat) (es todo:List (κ×aE)):Prop where
 A:∃ms cl dB seen c0,w.heap[b]?=ad (.map ms cl)/\ms.toList.map (λe=>(e.key,e.val))=es.map (λe=>(Q.kv e.1,e.2))/\su ms cl/\w.heap[r]?=ad (.mapIter (ad b) dB seen c0)/\(∀e∈ms.toList,e.born<dB)/\dB<=c0/\dB<=cl/\(leftOf ms seen).toList.map (λe=>(e.key,e.val))=todo.map (λe=>(Q.kv e.1,e.2))
 ok:∀e∈es,Q.ok e.1
variable {es todo:List (κ×aE)}
def my.mp (h:my Q w r b es todo):Mp Q w b es:=by
 obtain⟨ms,cl,dB,seen,c0,c,h2,a,_⟩:=h.A;exact⟨⟨ms,cl,c,h2,a⟩,h.ok⟩
def my.lt (h:my Q w r b es todo):r<w.heap.size:=by
 obtain⟨ms,cl,dB,seen,c0,c,h2,a,h4,_⟩:=h.A;exact(lJ.1 h4).1
def my.of_block (h:my Q w r b es todo) (a:w'.heap[r]?=w.heap[r]?) (Z:w'.heap[b]?=w.heap[b]?):my Q w' r b es todo:=by
 obtain⟨ms,cl,dB,seen,c0,e,h2,d,h4,c⟩:=h.A;exact⟨⟨ms,cl,dB,seen,c0,Z.trans e,h2,d,a.trans h4,c⟩,h.ok⟩
def my.al [DecidableEq κ] (h:my Q w r b es todo) (Z:aS w.heap.size w w'):my Q w' r b es todo:=h.of_block (Z.block r h.lt) (Z.block b h.mp.lt)
def my.alloc [DecidableEq κ] (h:my Q w r b es todo) (o:Obj):my Q (w.alloc o) r b es todo:=h.al ((bk _ _).alloc (aO _) o)
def agh (ms:Array MapEntry):leftOf ms #[]=ms:=by
 unfold leftOf;rw[Array.filter_eq_self];simp
def Mp.range [DecidableEq κ] (h:Mp Q w b es) (d:P.underlying t=ad (.map k e)):∃w',(Instr.range t (.map (ad b))).run P w= .ok (bl (ad (ab w.heap.size 0 M))) w'/\my Q w' w.heap.size b es es/\w.grownBy w' M/\w'.heap.size=w.heap.size+1:=by
 have f:=h.lt;obtain⟨ms,cl,Z,c,a⟩:=h.A;refine⟨_,run_range_map w t k e b ms cl d Z,⟨⟨ms,cl,cl,#[],cl,((MapKept.heap_alloc w _).2 b f).trans Z,c,a,(MapKept.heap_alloc w _).1,a.2,aO _,aO _,?_⟩,h.ok⟩,World.grownBy_alloc w _ M,av⟩;rw[agh];exact c
def agi {ms:Array MapEntry} (d:su ms cl) (seen:Array Nat) {ao C:List MapEntry} {e:MapEntry} (h:(leftOf ms seen).toList=ao++e::C):(leftOf ms (seen.push e.born)).toList=ao++C:=by
 have c:((leftOf ms seen).toList.map (·.born)).Nodup:=by
  refine d.1.sublist (List.Sublist.map _ ?_);unfold leftOf;rw[Array.toList_filter];exact List.filter_sublist
 have h2:(leftOf ms (seen.push e.born)).toList=(leftOf ms seen).toList.filter (λx=>!(x.born==e.born)):=by
  unfold leftOf;rw[Array.toList_filter,Array.toList_filter,List.filter_filter];refine List.filter_congr λx _=>?_;rw[contains_push];cases seen.contains x.born<;>cases(x.born==e.born)<;>rfl
 rw[h2,h];rw[h,lK,sd,List.nodup_append] at c;obtain⟨_,b,f⟩:=c;rw[List.nodup_cons] at b;rw[List.filter_append,List.filter_cons];simp only[beq_self_eq_true,Bool.not_true,tL,if_false];congr 1
 ·refine List.filter_eq_self.2 λx a=>?_;have:=f _ (hM.2 ⟨x,a,rfl⟩) e.born av;simpa using this
 ·refine List.filter_eq_self.2 λx a=>?_;have:x.born≠e.born:=λg=>b.1 (g▸hM.2 ⟨x,a,rfl⟩);simpa using this
def my.next (h:my Q w r b es todo) (D:r≠b) (ty:bf):(todo=[]/\(Instr.next (bl (ad (ab r 0 M))) false ty).run P w= .ok (bn #[aG false]) w)\/∃d x c w',todo=d++x::c/\(Instr.next (bl (ad (ab r 0 M))) false ty).run P w= .ok (bn #[aG true,Q.kv x.1,x.2]) w'/\my Q w' r b es (d++c)/\w.grownBy w' (ad r)/\w'.heap.size=w.heap.size/\(Instr.entry (bl (ad (ab r 0 M)))).run P w'= .ok (bn #[Q.kv x.1,x.2]) w':=by
 obtain⟨ms,cl,dB,seen,c0,Z,y,k,p,a,H,n,g⟩:=h.A;rcases run_next_at (P:=P) w ty r b dB c0 seen ms cl p Z a H with⟨h0,eC⟩|⟨e,he,w1,ds,eC⟩
 ·refine .inl ⟨?_,eC⟩;have z:(leftOf ms seen).toList=[]:=List.length_eq_zero_iff.1 (am h0);rw[z] at g;have:=congrArg oz g;exact List.length_eq_zero_iff.1 (am this.symm)
 ·obtain⟨ao,C,q⟩:=List.append_of_mem he;have l:e∈ms.toList:=by
   have:e∈(leftOf ms seen).toList:=he;unfold leftOf at this;rw[Array.toList_filter] at this;exact(List.mem_filter.1 this).1
  have B:w1.heap[r]?=ad (.mapIter (ad b) dB seen c0):=by rcases ds with rfl|rfl<;>exact p
  have E:w1.heap[b]?=ad (.map ms cl):=by rcases ds with rfl|rfl<;>exact Z
  have j:=heap_set (o':=.mapIter (ad b) dB (seen.push e.born) cl) B;have o:(setBlock w1 r (.mapIter (ad b) dB (seen.push e.born) cl)).heap[b]?=ad (.map ms cl):=(j.2 b (λm=>D m.symm)).trans E;rw[q,lK,sd] at g;obtain⟨d,I,F,u,t⟩:=List.map_eq_append_iff.1 g.symm;obtain⟨x,c,s,v,G⟩:=List.map_eq_cons_iff.1 t;have f:=Prod.mk.inj v;refine .inr ⟨d,x,c,_,by rw[F,s],?_,⟨⟨ms,cl,dB,seen.push e.born,cl,o,y,k,j.1,a,n,n,?_⟩,h.ok⟩,?_,?_,?_⟩
  ·rw[eC,f.1,f.2]
  ·rw[agi k seen q,lK,lK,u,G]
  ·rcases ds with rfl|rfl<;>exact⟨rfl,rfl,rfl,by simp[setBlock],λi _ hi=>j.2 i (λm=>hi (by rw[m]))⟩
  ·rcases ds with rfl|rfl<;>simp[setBlock]
  ·rw[run_entry_at _ r b dB seen ms cl e j.1 o l k.1,f.1,f.2]
def my.left (h:my Q w r b es todo):w.rangeLeft b r=todo.length:=by
 obtain⟨ms,cl,dB,seen,c0,Z,g,f,c,a,i,e,d⟩:=h.A;unfold World.rangeLeft;rw[Z,c];have:=congrArg oz d;simpa using this
end
section
variable {P:cp} {k:bf} {κ:Type} {Q:KK P k κ} {α:Type} {D:Kr α} {w w':aB} {r b B B':Nat} {S:List bf} {a:κ} {t e:bf} {es:List (κ×α)} {cd:List (κ×aE)} {v:aE} {x:α}
def Av (D:Kr α) (w:aB) (B:Nat) (x:α) (v:aE):Prop:=∃cs:List aE,v= .agg cs.toArray/\D.rel w B x cs
def Av.keep (h:Av D w B x v) (a:Kt B S w w') (h2:∀t∈D.bI,t∉S):Av D w' B x v:=by
 obtain⟨cs,rfl,h⟩:=h;exact⟨cs,rfl,D.keep h a h2⟩
def Av.al (h:Av D w B x v) (a:aS w.heap.size w w'):Av D w' B x v:=by
 obtain⟨cs,rfl,h⟩:=h;exact⟨cs,rfl,D.al h a⟩
def Av.bt (h:Av D w B x v) (hB:B<=B'):Av D w B' x v:=by
 obtain⟨cs,rfl,h⟩:=h;exact⟨cs,rfl,D.bt h hB⟩
inductive Fo (D:Kr α) (w:aB) (B:Nat):List (κ×α)->List (κ×aE)->Prop|nil:Fo D w B [] []|cons {a:κ} {x:α} {v:aE} {es:List (κ×α)} {cd:List (κ×aE)}:Av D w B x v->Fo D w B es cd->Fo D w B ((a,x)::es) ((a,v)::cd)
def Fo.map {w':aB} {B':Nat} (h:Fo D w B es cd) (b:∀x v,Av D w B x v->Av D w' B' x v):Fo D w' B' es cd:=by
 induction h with
 |nil=>exact .nil
 |cons h _ a=>exact .cons (b _ _ h) a
def Fo.keys (h:Fo D w B es cd):cd.map (·.1)=es.map (·.1):=by
 induction h with
 |nil=>rfl
 |cons h _ a=>simp[a]
def Fo.length (h:Fo D w B es cd):cd.length=es.length:=by
 have:=congrArg oz h.keys;simpa using this
def Fo.apart (h:Fo D w B es cd):jt cd↔jt es:=by
 have a:∀{ν:Type} (l:List (κ×ν)),jt l↔(l.map (·.1)).Nodup:=λl=>by
  unfold jt List.Nodup;rw[sf]
 rw[a,a,h.keys]
def Fo.get [DecidableEq κ] (h:Fo D w B es cd) (a:κ):(gF cd a=M/\gF es a=M)\/∃x v,gF cd a=ad v/\gF es a=ad x/\Av D w B x v:=by
 induction h with
 |nil=>exact .inl ⟨rfl,rfl⟩
 |@cons a' x v es cd h _ ih=>
  unfold gF at*;rw[List.find?_cons,List.find?_cons];by_cases e:a'=a
  ·simp only[e,decide_true];exact .inr ⟨x,v,rfl,rfl,h⟩
  ·simp only[e,decide_false];exact ih
def Fo.put [DecidableEq κ] (h:Fo D w B es cd) (a:κ) (b:Av D w B x v):Fo D w B (eF es a x) (eF cd a v):=by
 induction h with
 |nil=>exact .cons b .nil
 |@cons a' y u es cd h h2 ih=>
  unfold eF;by_cases e:a'=a
  ·simp only[e,if_true];exact .cons b h2
  ·simp only[e,if_false];exact .cons h ih
def Fo.del [DecidableEq κ] (h:Fo D w B es cd) (a:κ):Fo D w B (jI es a) (jI cd a):=by
 induction h with
 |nil=>exact .nil
 |@cons a' y u es cd h h2 ih=>
  unfold jI;by_cases e:a'=a
  ·simp only[e,if_true];exact h2
  ·simp only[e,if_false];exact .cons h ih
def Fo.split:∀{es:List (κ×α)} {e:List (κ×aE)} {y:κ×aE} {b:List (κ×aE)},Fo D w B es (e++y::b)->∃d x c,es=d++(y.1,x)::c/\Av D w B x y.2/\Fo D w B (d++c) (e++b)
 |[],[],_,_,h=>by cases h
 |[],_::_,_,_,h=>by cases h
 |(a,x)::es,[],y,b,h=>by
  cases h with
  |cons f h2=>exact⟨[],x,es,rfl,f,h2⟩
 |(a,x)::es,z::e,y,b,h=>by
  cases h with
  |cons f h2=>
   obtain⟨d,u,c,j,g,i⟩:=Fo.split h2
   exact⟨(a,x)::d,u,c,by rw[j];rfl,g,.cons f i⟩
def Fo.agj {es:List (κ×α)} (h:Fo D w B es []):es=[]:=by cases h;rfl
structure Mt (Q:KK P k κ) (D:Kr α) (w:aB) (B r:Nat) (es:List (κ×α)):Prop where
 lj:jt es
 A:∃cd,Mp Q w r cd/\Fo D w B es cd
def Mt.made [DecidableEq κ] (Q:KK P k κ) (D:Kr α) (w:aB) (B:Nat):Mt Q D (w.alloc (.map #[] 0)) B w.heap.size []:=⟨List.Pairwise.nil,[],Mp.made Q w,.nil⟩
def Mt.lt [DecidableEq κ] (h:Mt Q D w B r es):r<w.heap.size:=by
 obtain⟨cd,a,h2⟩:=h.A;exact a.lt
def Mt.al [DecidableEq κ] (h:Mt Q D w B r es) (a:aS w.heap.size w w'):Mt Q D w' B r es:=by
 obtain⟨cd,b,h2⟩:=h.A;exact⟨h.lj,cd,b.al a,h2.map λ_ _ h=>h.al a⟩
def Mt.alloc [DecidableEq κ] (h:Mt Q D w B r es) (o:Obj):Mt Q D (w.alloc o) B r es:=h.al ((bk _ _).alloc (aO _) o)
def Mt.drew [DecidableEq κ] (h:Mt Q D w B r es):Mt Q D w.drew B r es:=h.al ((bk _ _).drew)
def Mt.bt (h:Mt Q D w B r es) (hB:B<=B'):Mt Q D w B' r es:=by
 obtain⟨cd,a,h2⟩:=h.A;exact⟨h.lj,cd,a,h2.map λ_ _ h=>h.bt hB⟩
def Mt.keep [DecidableEq κ] (h:Mt Q D w B r es) (b:Kt B S w w') (h2:∀t∈D.bI,t∉S) (a:w'.heap[r]?=w.heap[r]?):Mt Q D w' B r es:=by
 obtain⟨cd,d,c⟩:=h.A;exact⟨h.lj,cd,d.of_block a,c.map λ_ _ h=>h.keep b h2⟩
def Mt.look [DecidableEq κ] (h:Mt Q D w B r es) (f:Q.ok a) (d:P.underlying t=ad (.map k e)) {z:aE} (b:(zeroValue e).run P w= .ok z w) (c:Bool):(gF es a=M/\(Instr.lookup t (.map (ad r)) (Q.kv a) c).run P w= .ok (if c then bn #[z,aG false] else z) w)\/∃x v,gF es a=ad x/\Av D w B x v/\(Instr.lookup t (.map (ad r)) (Q.kv a) c).run P w= .ok (if c then bn #[v,aG true] else v) w:=by
 obtain⟨cd,g,h2⟩:=h.A;have:=LB c g (h2.apart.2 h.lj) f d b;rcases h2.get a with⟨g1,g2⟩|⟨x,v,g1,g2,g3⟩
 ·rw[g1] at this;exact .inl ⟨g2,this⟩
 ·rw[g1] at this;exact .inr ⟨x,v,g2,g3,this⟩
def Mt.store [DecidableEq κ] (h:Mt Q D w B r es) (m:Q.ok a) (l:P.underlying t=ad (.map k e)) (j:Av D w B x v) (hB:B<=r) (n:∀T,¬bp w T r):∃w',(Instr.mapUpdate t (.map (ad r)) (Q.kv a) v).run P w= .ok () w'/\Mt Q D w' B r (eF es a x)/\w.grownBy w' (ad r)/\Kt B [] w w':=by
 obtain⟨cd,f,h2⟩:=h.A;obtain⟨c,o,g,g1⟩:=run_store (v:=v) f (h2.apart.2 h.lj) m l;have b:Kt B [] w c:=⟨g1.os,g1.tape,g1.output,g1.size,λi hi=>g1.block i (ai f.lt) (λe=>by cases e;omega),λT i _ d=>g1.block i d.lt (λe=>by cases e;exact n T d)⟩;exact⟨c,o,⟨h.lj.eF,_,g,(h2.map λ_ _ h=>h.keep b av).put a (j.keep b av)⟩,g1,b⟩
def Mt.delete [DecidableEq κ] (h:Mt Q D w B r es) (ty:bf) (l:Q.ok a) (j:P.underlying t=ad (.map k e)) (hB:B<=r) (m:∀T,¬bp w T r):∃w',(Builtin.delete_ #[t,k] ty #[.map (ad r),Q.kv a]).run P w= .ok (bn #[]) w'/\Mt Q D w' B r (jI es a)/\w.grownBy w' (ad r)/\Kt B [] w w':=by
 obtain⟨cd,f,h2⟩:=h.A;obtain⟨b,n,g,g1⟩:=age ty f (h2.apart.2 h.lj) l j;have d:Kt B [] w b:=⟨g1.os,g1.tape,g1.output,g1.size,λi hi=>g1.block i (ai f.lt) (λe=>by cases e;omega),λT i _ c=>g1.block i c.lt (λe=>by cases e;exact m T c)⟩;exact⟨b,n,⟨h.lj.jI,_,g,(h2.map λ_ _ h=>h.keep d av).del a⟩,g1,d⟩
def Mt.len [DecidableEq κ] (h:Mt Q D w B r es) (ty:bf) (a:P.underlying t=ad (.map k e)):(Builtin.len_ #[t] ty #[.map (ad r)]).run P w= .ok (J I es.length) w:=by
 obtain⟨cd,b,h2⟩:=h.A;rw[agf ty b a,h2.length]
def Mt.lk (h:Mt Q D w B r es) (T:bf):¬bp w T r:=by
 obtain⟨cd,b,h2⟩:=h.A;obtain⟨ms,cl,Z,_⟩:=b.A;rintro⟨cs,fr,a⟩;rw[Z] at a;cases a
structure j7 (Q:KK P k κ) (D:Kr α) (w:aB) (B r b:Nat) (es todo:List (κ×α)):Prop where
 lj:jt es
 ne:r≠b
 A:∃cd vq,my Q w r b cd vq/\Fo D w B es cd/\Fo D w B todo vq
def j7.al [DecidableEq κ] {todo:List (κ×α)} (h:j7 Q D w B r b es todo) (a:aS w.heap.size w w'):j7 Q D w' B r b es todo:=by
 obtain⟨cd,vq,d,h2,c⟩:=h.A;exact⟨h.lj,h.ne,cd,vq,d.al a,h2.map λ_ _ h=>h.al a,c.map λ_ _ h=>h.al a⟩
def j7.mt {todo:List (κ×α)} (h:j7 Q D w B r b es todo):Mt Q D w B b es:=by
 obtain⟨cd,vq,a,h2,c⟩:=h.A;exact⟨h.lj,cd,a.mp,h2⟩
def j7.left {todo:List (κ×α)} (h:j7 Q D w B r b es todo):w.rangeLeft b r=todo.length:=by
 obtain⟨cd,vq,c,h2,a⟩:=h.A;rw[c.left,a.length]
def j7.of_block {todo:List (κ×α)} (h:j7 Q D w B r b es todo) (a:Kt B S w w') (h2:∀t∈D.bI,t∉S) (c:w'.heap[r]?=w.heap[r]?) (Z:w'.heap[b]?=w.heap[b]?):j7 Q D w' B r b es todo:=by
 obtain⟨cd,vq,e,d,h4⟩:=h.A;exact⟨h.lj,h.ne,cd,vq,e.of_block c Z,d.map λ_ _ h=>h.keep a h2,h4.map λ_ _ h=>h.keep a h2⟩
def Mt.range [DecidableEq κ] (h:Mt Q D w B b es) (d:P.underlying t=ad (.map k e)):∃w',(Instr.range t (.map (ad b))).run P w= .ok (bl (ad (ab w.heap.size 0 M))) w'/\j7 Q D w' B w.heap.size b es es/\w.grownBy w' M/\w'.heap.size=w.heap.size+1:=by
 have j:=h.lt;obtain⟨cd,f,h2⟩:=h.A;obtain⟨a,g,c,g1,s1⟩:=f.range d;have Z:aS w.heap.size w a:=⟨g1.os,g1.tape,g1.output,an,λi hi=>g1.block i hi av⟩;exact⟨a,g,⟨h.lj,an,cd,cd,c,h2.map λ_ _ h=>h.al Z,h2.map λ_ _ h=>h.al Z⟩,g1,s1⟩
def j7.next {todo:List (κ×α)} (h:j7 Q D w B r b es todo) (hB:B<=r) (ty:bf):(todo=[]/\(Instr.next (bl (ad (ab r 0 M))) false ty).run P w= .ok (bn #[aG false]) w)\/∃f a x d v w',todo=f++(a,x)::d/\Av D w' B x v/\(Instr.next (bl (ad (ab r 0 M))) false ty).run P w= .ok (bn #[aG true,Q.kv a,v]) w'/\j7 Q D w' B r b es (f++d)/\w.grownBy w' (ad r)/\w'.heap.size=w.heap.size/\(Instr.entry (bl (ad (ab r 0 M)))).run P w'= .ok (bn #[Q.kv a,v]) w'/\Kt B [] w w':=by
 obtain⟨cd,vq,g,h2,o⟩:=h.A;have hit:∃l k j,w.heap[r]?=ad (.mapIter (ad b) l k j):=by
  obtain⟨ms,cl,dB,seen,c0,_,_,_,s,_⟩:=g.A;exact⟨_,_,_,s⟩
 rcases g.next h.ne ty with⟨rfl,eC⟩|⟨f,y,d,w',rfl,eC,LC,hg,hs,E3⟩
 ·exact .inl ⟨o.agj,eC⟩
 ·obtain⟨C,x,z,u,q,t⟩:=o.split;have c:Kt B [] w w':=⟨hg.os,hg.tape,hg.output,hg.size,λi hi=>hg.block i (ai g.lt) (λe=>by cases e;omega),λT i _ m=>hg.block i m.lt (λe=>by
   cases e;obtain⟨l,k,j,p⟩:=hit;obtain⟨cs,fr,n⟩:=m;rw[p] at n;cases n)⟩
  exact .inr ⟨C,y.1,x,z,y.2,w',u,q.keep c av,eC,⟨h.lj,h.ne,cd,_,LC,h2.map λ_ _ h=>h.keep c av,t.map λ_ _ h=>h.keep c av⟩,hg,hs,E3,c⟩
end
end
variable {wr:aB}
section
open arA
def aff (n c:Nat):gA (n+1) c=rd (gA n c):=ae8 n 1 c
def and_one (m:Nat) (h:m<4294967296):bits .and .u32 (m:Int) 1=((m % 2:Nat):Int):=by
 have:=u32_and_nat m 1 h an;rw[nat_mask1] at this;exact this
def afg (m:Nat) (h:m<4294967296) (ho:m % 2=1):bits .xor .u32 ((m:Int)/2) 3988292384=((rd m:Nat):Int):=by
 have:=u32_xor_nat (m/2) 3988292384 an an;have e:((m/2:Nat):Int)=(m:Int)/2:=an;rw[e] at this;unfold rd;rw[ag ho];exact this
def afh (m:Nat) (ho:¬m % 2=1):(m:Int)/2=((rd m:Nat):Int):=by
 unfold rd;rw[af ho,Nat.xor_zero];omega
def E5 {k:IntKind} {a b:Int} (h:a=b):aQ (J k a)=aQ (J k b):=by rw[h]
def afi (c x:Nat) (j:c<4294967296) (p:x<256) (w:aB):aN aH 273 #[J .u32 c,J .u8 x] w λe w'=>e=aQ (J .u32 (p9 c x:Nat))/\w=w':=by
 have h0:=u32_xor_nat c x j an;have g:=Pd j (show x<4294967296 by omega);have d:a6 (p9 c x=gA 8 (c^^^x)):=rfl;generalize c^^^x=a at h0 g d;generalize p9 c x=S at d⊢;go_enter func273,ntmps273;go_wp2;go_loop [0,5,10] (λs _ i=>∃k:Nat,k<=8/\i=J I k/\s=J .u32 (gA k a:Nat)) (λ_ _ i=>8-(intOf i).toNat);case atStart=>exact⟨0,an,rfl,rfl⟩
 case round=>
  obtain⟨k,r,rfl,rfl⟩:=hrel;have b:=Li k g;have f:a6 (gA (k+1) a=rd (gA k a)):=aff k a;generalize hg:gA k a=m at b f;have o:=E hg;clear hg;by_cases t:k<8
  ·by_cases ho:m % 2=1
   ·have Z:bits .and .u32 (m:Int) 1=1:=by rw[and_one m b,ho];rfl
    have q:=afg m b ho;have n:=E ho;clear ho;go_wp2;go_round;case rel=>exact⟨k+1,an,by go_num,by rw[f.A]⟩
    case measure=>exact aA
   ·have Z:bits .and .u32 (m:Int) 1=0:=by rw[and_one m b];omega
    have l:a6 _:=afh m ho;have n:=E ho;clear ho;go_wp2;go_round;case rel=>exact⟨k+1,an,by go_num,by rw[f.A,l.A]⟩
    case measure=>exact aA
  ·obtain rfl:k=8:=by omega
   go_wp2;go_ret;exact⟨E5 (by rw[d.A,o.A]),rfl⟩
def afj (c x:Int) (b:0<=c) (h2:c<4294967296) (a:0<=x) (h4:x<256) (w:aB):aN aH 273 #[J .u32 c,J .u8 x] w λe w'=>e=aQ (J .u32 (p9 c.toNat x.toNat:Nat))/\w=w':=by
 obtain⟨c,rfl⟩:=Int.eq_ofNat_of_zero_le b;obtain⟨x,rfl⟩:=Int.eq_ofNat_of_zero_le a;exact afi c x an an w
def ik (k:Nat):Array aE:=((se 256).map λx=>J .u32 ((if x<k then gA 8 x else 0:Nat):Int)).toArray
def ve (k:Nat):(ik k).size=256:=by simp[ik]
def Lj (k j:Nat) (hj:j<256):(ik k)[j]?=ad (J .u32 ((if j<k then gA 8 j else 0:Nat):Int)):=by
 simp[ik,hj]
def afk (k:Nat) (a:k<256):(ik k).setIfInBounds k (J .u32 (gA 8 k:Nat))=ik (k+1):=by
 apply Array.ext_getElem?;intro j;rw[Array.getElem?_setIfInBounds,ve];by_cases hj:j<256
 ·rw[Lj k j hj,Lj (k+1) j hj];by_cases e:k=j
  ·subst e;simp[a]
  ·rw[af e];congr 3;by_cases h:j<k<;>simp[h]<;>omega
 ·rw[tK (by rw[ve];omega),tK (by rw[ve];omega),af an]
def VJ (k:Nat):(ik k).all (·.oneCell')=true:=by
 simp[ik,Value.oneCell']
def VK:(aH.info? 355).map (λi=>(i.zero,i.size))=ad (ad (.agg (ik 0)),256):=ar
def afl (k:Nat):p9 0 k=gA 8 k:=by unfold p9;rw[Nat.zero_xor]
def afm (a:k<256) (h:aI wr g 355 (ik k)) (Z:aS w.heap.size w wr) (hg:w.heap.size<=g) (S:Nat) (b:S=p9 0 k):aI (wr.setCell (ab g k M) (J .u32 S)) g 355 (ik (k+1))/\aS w.heap.size w (wr.setCell (ab g k M) (J .u32 S)):=by
 subst b;rw[afl];refine⟨?_,Z.setCell hg _⟩;have:=h.put k (J .u32 (gA 8 k:Nat));rwa[afk k a] at this
def afn (w:aB):aN aH 241 #[] w λe w'=>e=aQ (.agg (ik 256))/\aS w.heap.size w w':=by
 obtain⟨j,d⟩:=zero_of_info VK;have hs:=E d;clear d;go_enter func241,ntmps241;go_wp2;clear j;go_loopw [2,3] (λ_ i wr=>∃k:Nat,k<=256/\i=J I k/\aI wr w.heap.size 355 (ik 0)/\aI wr (w.heap.size+1) 355 (ik k)/\aS w.heap.size w wr) (λ_ i _=>256-(intOf i).toNat);case atStart=>
  refine⟨0,an,rfl,(aI.new _ _ _).alloc _,?_,((bk _ _).alloc (aO _) _).alloc av _⟩;have:=aI.new (w.alloc (aD (ik 0) 355)) 355 (ik 0);rwa[eO] at this
 case round=>
  obtain⟨k,m,rfl,b,a,c⟩:=hrel;by_cases f:k<256
  ·have l:=(a.cell k).trans (Lj k k f);rw[af an] at l;have n:=a.frozen k;go_wp2_with fail;refine(afj _ _ an an an an _).ah ?_;rintro e w'⟨rfl,rfl⟩;have g:a6 (p9 (0:Int).toNat (k:Int).toNat=p9 0 k):=rfl;generalize p9 (0:Int).toNat (k:Int).toNat=S at g⊢;go_wp2;have R:=afm f a c (mg _) S g.A;go_roundw;case rel=>exact⟨k+1,an,by go_num,b.bT av _,R.1,R.2⟩
   case measure=>exact aA
  ·obtain rfl:k=256:=by omega
   go_wp2_with (first
    |(refine wpList_load_row rfl 355 _ rfl (w.heap.size+1) rfl 355 (ik 256) (0,0) _ a underlying355 rfl (by rw[hs.A,ve]) ?_)
    |(refine wpList_store_row rfl 355 _ _ rfl w.heap.size (ik 256) rfl rfl 355 (ik 0) b (by rw[hs.A,ve]) (by rw[ve,ve]) (VJ _) ?_))
   refine bF (v:=.agg (ik 256)) ?_ rfl ⟨rfl,below_setRow c (aO _) _⟩;exact results_cell_row rfl _ _ w.heap.size 355 (ik 256) (0,0) _ rfl (b.setRow _) underlying355 rfl (by rw[hs.A,ve])
end
section
open arA
def gB (l:List UInt8):List Nat:=l.map UInt8.toNat
def Ib (l:List UInt8):∀x∈gB l,x<256:=by
 intro x a;obtain⟨y,_,rfl⟩:=hM.1 a;exact y.toNat_lt
def afo (a b:List UInt8):gB (a++b)=gB a++gB b:=by simp[gB]
def take_succ (l:List UInt8) (k:Nat) (a:k<l.length):l.take (k+1)=l.take k++[l.getD k 0]:=by
 rw[yz a,dd,cR a];rfl
def afp (c:Nat) (l:List UInt8) (k:Nat) (a:k<l.length):mq c (gB (l.take (k+1)))=p9 (mq c (gB (l.take k))) (l.getD k 0).toNat:=by
 rw[take_succ l k a,afo,afe];rfl
def look_eq (m x:Nat) (c:m<4294967296) (a:x<256):(m % 256^^^x)<256/\bits .xor .u8 ((m:Int) % 256) (x:Int)=((m % 256^^^x:Nat):Int)/\bits .xor .u32 ((gA 8 (m % 256^^^x):Nat):Int) ((m:Int)/256)=((p9 m x:Nat):Int):=by
 have b:m % 256^^^x<256:=by
  have h2:(256:Nat)=2^8:=aq;rw[h2] at*;exact Nat.xor_lt_two_pow (Nat.mod_lt _ aq) a
 refine⟨b,?_,?_⟩
 ·have:=u8_xor_nat (m % 256) x (Nat.mod_lt _ aq) a;rwa[Int.natCast_emod] at this
 ·have:=u32_xor_nat (gA 8 (m % 256^^^x)) (m/256) (Li 8 an) an;rw[afc m x a,Int.natCast_ediv] at this;exact this
def afq (c:Int) (ao:Option aX) (n cap:Nat) (l:List UInt8) (w:aB) (K:0<=c) (h2:c<4294967296) (hn:n<=9223372036854775807) (Z:Bs w w.heap.size ao n l):aN aH 201 #[J .u32 c,O ao n cap] w λe w'=>e=aQ (J .u32 (mq c.toNat (gB l):Nat))/\aS w.heap.size w w':=by
 obtain⟨c,rfl⟩:=Int.eq_ofNat_of_zero_le K;have U:c<4294967296:=an;clear K h2;obtain⟨G,D⟩:=Z;have v:=E G;clear G;by_cases h0:n=0
 ·have X:a6 (mq (c:Int).toNat (gB l)=c):=by
   have:l=[]:=sb (by rw[v.A,h0]);subst this;rfl
  subst h0;go_enter func201,ntmps201;go_wp2;go_ret;exact⟨E5 (by rw[X.A]),bk _ _⟩
 ·obtain⟨b,off,rfl,T,H⟩:=D an;have bq:((n:Int)==0)=false:=aw;obtain⟨S,C⟩:=zero_of_info VK;have hs:=E C;clear C;have V:=E H;clear H D;clear h0;go_enter func201,ntmps201;go_wp2_with fail;refine(afn _).ah ?_;rintro e d⟨rfl,f⟩;go_wp2_with (refine wpList_store_row rfl 355 _ _ rfl d.heap.size (ik 256) rfl rfl 355 (ik 0) (aI.new _ _ _) (by rw[hs.A,ve]) (by rw[ve,ve]) (VJ _) ?_);have t:aS w.heap.size w ((d.alloc (aD (ik 0) 355)).setRow d.heap.size (ik 256)):=below_setRow (f.alloc f.size _) f.size _;have a:aI ((d.alloc (aD (ik 0) 355)).setRow d.heap.size (ik 256)) d.heap.size 355 (ik 256):=(aI.new _ _ _).setRow _;generalize(d.alloc (aD (ik 0) 355)).setRow d.heap.size (ik 256)=w2 at t a⊢;generalize d.heap.size=g at a⊢;clear f S;go_loop [0,7,15] (λs _ i=>∃k:Nat,k<=n/\i=J I k/\s=J .u32 (mq c (gB (l.take k)):Nat)) (λ_ _ i=>n-(intOf i).toNat);case atStart=>exact⟨0,an,rfl,rfl⟩
  case round=>
   obtain⟨k,Y,rfl,rfl⟩:=hrel;have q:=Pe (c:=c) (l:=gB (l.take k)) an (Ib _);by_cases L:k<n
   ·have F:=(t.cell (p:=⟨b,off+k,M⟩) T).trans (V.A k L);have B:a6 _:=afp c l k (by rw[v.A];exact L);unfold wL at F;have Q:(l.getD k 0).toNat<256:=(l.getD k 0).toNat_lt;generalize(l.getD k 0).toNat=x at F Q B;generalize hg:mq c (gB (l.take k))=m at q B;have R:=E hg;clear hg;obtain⟨j,u,N⟩:=look_eq m x q Q;have z:=(a.cell (m % 256^^^x)).trans (Lj 256 _ j);rw[ag j] at z;have A:=E N;clear N;generalize m % 256^^^x=y at j u z A;have o:=Li 8 (c:=y) an;generalize gA 8 y=r at z A o;go_wp2;go_round;case rel=>exact⟨k+1,an,by go_num,by rw[B.A,<-A.A]⟩
    case measure=>exact aA
   ·obtain rfl:k=n:=by omega
    have W:a6 (l.take k=l):=List.take_of_length_le (by rw[v.A];exact aO _);generalize hg:mq c (gB (l.take k))=m at q;have R:=E hg;clear hg;go_wp2;go_ret;exact⟨E5 (by rw[<-R.A,W.A]),t⟩
def aft (m:Nat) (a:m<4294967296):bits .xor .u32 IntKind.u32.max (m:Int)=((4294967295^^^m:Nat):Int):=u32_xor_nat 4294967295 m an a
def VM (ao:Option aX) (n cap:Nat) (l:List UInt8) (w:aB) (hn:n<=9223372036854775807) (Z:Bs w w.heap.size ao n l):aN aH 159 #[O ao n cap] w λe w'=>e=aQ (J .u32 (sum (gB l):Nat))/\aS w.heap.size w w':=by
 have a:=Pe (c:=4294967295) (l:=gB l) an (Ib _);go_enter func159,ntmps159;go_wp2_with fail;refine(afq _ _ _ _ l _ an an hn Z).ah ?_;rintro e i⟨rfl,f⟩;have g:a6 (mq (4294967295:Int).toNat (gB l)=mq 4294967295 (gB l)):=rfl;rw[g.A];have d:a6 _:=aft _ a;have b:a6 (sum (gB l)=4294967295^^^mq 4294967295 (gB l)):=rfl;generalize mq 4294967295 (gB l)=m at a d b⊢;go_wp2;go_ret;exact⟨E5 (by rw[b.A,<-d.A]),f⟩
end
section
open Go.ChangeAt Go.ChangeShapes Go.WideShapes
open Go.ChangeMaps (open_string shut_string)
def own:ownKnob aH.godebug=M:=ar
def laidOut:laidOutB aH=true:=ar
section
variable {H:Type} {enc:bf×aE->H} {W:aB} {base t e:Nat} {v:aE} {d:DataW H} {p:List MemPlace}
end
end
open bw
def pm:(aH.info? 5).map (λi=>(i.zero,i.size,i.bytes))=ad (ad (J .u8 0),1,1):=ar
def yE {x:Nat} (h:x<256) (z:Int) (a:z=(x:Int)):J .u8 z=J .u8 ((fN x).toNat:Int):=by
 have e:(fN x).toNat=x:=UInt8.toNat_ofNat_of_lt' ark;rw[e,a]
def Bs.AH (w:aB) (t:bf) (u:aE) (x:UInt8) (h:u=J .u8 (x.toNat:Int)):Bs (w.alloc (aD #[u] t)) (w.heap.size+1) (ad (ab w.heap.size 0 M)) 1 [x]:=by
 have:=Bs.fresh w t #[u] (0,0) [x] 1 rfl (by rw[h];rfl);rwa[eO] at this
theorem VE (h:P:=by
 have e:l++bu n=l'++[fN m]:=by rw[<-hE.A,yC (n:=m) an]
 show bQ _ _ _ _ (l++bu n);rw[e];exact bC;):P:=h
def O8 (j:aE) (l:List UInt8) (n:Int) (w:aB) (base:Nat) (C:base<=w.heap.size) (z:l.length<=70368744177664) (hn:0<=n/\n<=1152921504606846976) (a:bQ w base 5 j l):aN aH 155 #[j,J I n] w λe w'=>(∃v,e=aQ v/\bQ w' base 5 v (l++bu n.toNat))/\aS base w w':=by
 obtain⟨n,rfl⟩:=Int.eq_ofNat_of_zero_le hn.1;have r:n<=1152921504606846976:=an;clear hn;have u:=E a;clear a;have p:=E (ph 8 n (pj n r));have d1:decide (1152921504606846976<n)=false:=aa an;go_enter func155,ntmps155;go_wp2;go_loopw [0,1] (λvo x wr=>∃(m:Nat) (l':List UInt8),m<=n/\x=J I m/\bQ wr base 5 vo l'/\a6 (l'++bu m=l++bu n)/\aS base w wr) (λ_ x _=>(intOf x).toNat);case atStart=>exact⟨n,l,aO _,rfl,u.A,E rfl,bk _ _⟩
 case round=>
  obtain⟨m,l',D,rfl,a,hE,hB⟩:=hrel;have b:=E a;clear a;have k:=E (show l'.length<=l.length+9 by have:=congrArg oz hE.A;have h2:=p.A;have B:=E1 m;simp at this;omega);by_cases y:128<=m
  ·have i:=E (Bs.AH wr 5 (J .u8 ((m:Int) % 128+128)) (fN (m % 128+128)) (yE an _ an));have c:=E (b.A.alloc (aD #[J .u8 ((m:Int) % 128+128)] 5));have t:=hB.size;go_wp2_with ((refine yD au (.tmp 14) (.tmp 19) 34 au base 5 underlying34 pm _ l' au c.A (wr.heap.size+1) (ad (ab wr.heap.size 0 M)) 1 1 [fN (m % 128+128)] au i.A (ai k.A) aw ?_;intro o w' bC f q));have d:aS base w w':=(hB.alloc an _).grown f aw (λg e=>b.A.nI g e);have s:=E (show(l'++[fN (m % 128+128)])++bu (m/128)=l++bu n by rw[<-hE.A,CZ (n:=m) an];simp);go_roundw;case rel=>exact⟨m/128,l'++[fN (m % 128+128)],an,by rw[Int.natCast_ediv];rfl,bC,s,d⟩
   case measure=>exact aA
  ·have i:=E (Bs.AH wr 5 (J .u8 (m:Int)) (fN m) (yE an _ an));have c:=E (b.A.alloc (aD #[J .u8 (m:Int)] 5));have t:=hB.size;go_wp2_with ((refine yD au (.tmp 23) (.tmp 26) 34 au base 5 underlying34 pm _ l' au c.A (wr.heap.size+1) (ad (ab wr.heap.size 0 M)) 1 1 [fN m] au i.A (ai k.A) aw ?_;intro o w' bC f q));have d:aS base w w':=(hB.alloc an _).grown f aw (λg e=>b.A.nI g e);go_ret;refine⟨⟨_,rfl,?_⟩,d⟩;exact VE
theorem aeU (h:P:=by
 go_ret;exact⟨⟨_,rfl,bC⟩,((bk _ _).alloc (aO _) _).grown bG av (λg e=>by cases e;exact aO _)⟩;):P:=h
def Le (ao:Option aX) (n cap:Nat) (l:List UInt8) (w:aB) (hn:n<=70368744177664) (Z:Bs w w.heap.size ao n l):aN aH 158 #[O ao n cap] w λe w'=>(∃v,e=aQ v/\bQ w' w.heap.size 5 v l)/\aS w.heap.size w w':=by
 have b:=E Z;clear Z;have k:∀w,(binOp .eql 34 (O ao n cap) (O M 0 0)).run aH w= .ok (aG ao.isNone) w:=λw=>by
  simp only[binOp];simp[run_equal_slice_nil w 34 5 ao n cap underlying34]
 cases ao with
 |none=>
  have c:l=[]:=sb (by
   rw[b.A.len];rcases kJ n with h|h
   ·exact h
   ·obtain⟨_,_,e,_⟩:=b.A.sl h;cases e)
  subst c;go_enter func158,ntmps158;go_wp2;go_ret;exact⟨⟨_,rfl,bQ.bh _ _ _⟩,bk _ _⟩
 |some a=>
  go_enter func158,ntmps158;have f:a6 (bQ (w.alloc (aD #[] 5)) w.heap.size 5 (O (ad (ab w.heap.size 0 M)) 0 0) []):=bQ.fresh w 5 [] #[] rfl 0 rfl (aO _) (bV _);have d:a6 (Bs (w.alloc (aD #[] 5)) w.heap.size (ad a) n l):=⟨b.A.len,b.A.sl.alloc (aO _) _⟩;go_wp2_with ((refine yD au (.tmp 5) (.tmp 6) 34 au w.heap.size 5 underlying34 pm _ [] au f.A w.heap.size (ad a) n cap l au d.A aw av ?_;intro i w' bC bG j));exact aeU
def aeV (a:aE) (n:Int) (w:aB) (hn:¬(0<=n/\n<=1152921504606846976)):aN aH 155 #[a,J I n] w λe w'=>e=aQ a/\w=w':=by
 by_cases h0:n<0
 ·go_enter func155,ntmps155;go_wp2;go_ret;exact⟨rfl,rfl⟩
 ·have b:1152921504606846976<n:=by omega
  go_enter func155,ntmps155;go_wp2;go_ret;exact⟨rfl,rfl⟩
def mm (l:List UInt8) (n:Int):List UInt8:=if 0<=n/\n<=1152921504606846976 then l++bu n.toNat else l
def yF (ao:Option aX) (n cap:Nat) (l:List UInt8) (m:Int) (w:aB) (hn:n<=70368744177664) (Z:Bs w w.heap.size ao n l):aN aH 117 #[O ao n cap,J I m] w λe w'=>(∃v,e=aQ v/\bQ w' w.heap.size 5 v (mm l m))/\aS w.heap.size w w':=by
 have j:=Z.len;go_enter func117,ntmps117;go_wp2_with fail;refine(Le ao n cap l _ hn Z).ah ?_;rintro e i⟨⟨v,rfl,a⟩,b⟩;by_cases h:0<=m/\m<=1152921504606846976
 ·have c:=E (show mm l m=l++bu m.toNat from ag h);go_wp2_with fail;refine(O8 v l m _ w.heap.size b.size an h a).ah ?_;rintro e d⟨⟨v2,rfl,f⟩,g⟩;clear a h Z;go_wp2;go_ret;exact⟨⟨_,rfl,by rw[c.A];exact f⟩,b.trans g⟩
 ·have c:=E (show mm l m=l from af h);go_wp2_with fail;refine(aeV v m _ h).ah ?_;rintro e d⟨rfl,rfl⟩;clear h Z;go_wp2;go_ret;exact⟨⟨_,rfl,by rw[c.A];exact a⟩,b⟩
def uZ (ao:Option aX) (n cap:Nat):Except Nat (Nat×List UInt8)->Array aE
 |.ok (m,r)=>#[J I (m:Int),O (cutAt ao cap (n-r.length) 1) r.length (cap-(n-r.length)),J I 0]
 |.error c=>#[J I 0,O M 0 0,J I (c:Int)]
def VF (i:Nat):(128:Nat)^i=2^(7*i):=by rw[Nat.pow_mul]
def aeW (a b:Nat) (c:a<9223372036854775808) (Z:b<9223372036854775808):bits .or I (a:Int) (b:Int)=((a|||b:Nat):Int):=by
 have d:∀aU:Nat,aU<9223372036854775808->(BitVec.ofInt 64 (aU:Int)).toNat=aU:=λaU h=>by
  exact O5
 have h2:a|||b<9223372036854775808:=Nat.or_lt_two_pow (n:=63) c Z
 show I.wrap ((BitVec.ofInt 64 a|||BitVec.ofInt 64 b).toNat:Int)=_;rw[BitVec.toNat_or,d a c,d b Z,b7];omega
def aeX {aT x:Nat} (a:aT<128^i) (hi:i<=8):bits .or I (aT:Int) (wrap64 ((x:Int) % 128*2^(7*i)))=((aT+x % 128*128^i:Nat):Int)/\aT+x % 128*128^i<128^(i+1)/\aT+x % 128*128^i<9223372036854775808:=by
 have c:x % 128<128:=Nat.mod_lt _ an;have j:(x:Int) % 128=((x % 128:Nat):Int):=an;rw[j];generalize x % 128=y at c;have d:(128:Nat)^i<=128^8:=Nat.pow_le_pow_right an hi;have e:(128:Nat)^8=72057594037927936:=av;rw[e] at d;have b:y*128^i<=127*128^i:=sa _ an;have k:aT+y*128^i<128^(i+1):=by rw[Nat.pow_succ];omega
 have f:aT+y*128^i<9223372036854775808:=an;refine⟨?_,k,f⟩;have g:(y:Int)*2^(7*i)=((y*128^i:Nat):Int):=by
  rw[VF];simp
 rw[g,wrap64,show(((y*128^i:Nat):Int)+9223372036854775808) % 18446744073709551616-9223372036854775808=((y*128^i:Nat):Int) by omega,aeW _ _ an an];congr 1;rw[VF] at a⊢;have:=Nat.shiftLeft_add_eq_or_of_lt a y;rw[Nat.shiftLeft_eq] at this;rw[Nat.or_comm,<-this,Nat.add_comm]
def AJ:(aH.info? 5).map (·.size)=ad 1:=ar
def aeY {l:List UInt8} (h:i<l.length):l.drop i=l.getD i 0::l.drop (i+1):=by
 rw[pf h,dd,cR h];rfl
def aeZ {f aT:Nat} {x:UInt8} {a:List UInt8}:lN (f+1) i aT (x::a)=if 128<=x.toNat then lN f (i+1) (aT+x.toNat % 128*128^i) a else if 1152921504606846976<aT+x.toNat % 128*128^i then .error 2 else if x.toNat=0/\0<i then .error 1 else .ok (aT+x.toNat % 128*128^i,a):=rfl
def ae0 {a b:Array aE} (h:a=b):aQ (.tuple a)=aQ (.tuple b):=by rw[h]
theorem VG (h:P:=by
 go_wp2_with fail;refine pk ar ar ?_;repeat (
  refine WQ.step (λKK aJ=>?_);go_simp;refine aJ _ ?_;clear aJ KK)
 refine WQ.bh ?_;rintro iE⟨⟨wq,hq⟩,dA⟩;obtain rfl:wq=iE:=dA.symm;clear dA;go_wp2;refine bF (v:=bn #[J I (a2:Int),O A2 (n-(i+1)) (cap-(i+1)),J I 0]) aqH rfl ⟨?_,?_⟩
 ·exact ae0 HE.A.symm
 ·exact hq
 ):P:=h
def H7 (ao:Option aX) (n cap:Nat) (l:List UInt8) (w:aB) (hn:n<=9223372036854775807) (X:n<=cap) (T:cap<=9223372036854775807) (Z:Bs w w.heap.size ao n l):aN aH 166 #[O ao n cap] w λe w'=>e=aQ (.tuple (uZ ao n cap (e9 l)))/\aS w.heap.size w w':=by
 have z:=E Z;clear Z;have q:=E z.A.len;have K:=E (show e9 l=lN 9 0 0 l from rfl);go_enter func166,ntmps166;go_wp2;go_loop [5,7] (λx y=>∃(i aT:Nat),i<=9/\i<=n/\y=J I i/\x=J I aT/\a6 (aT<128^i)/\a6 (e9 l=lN (9-i) i aT (l.drop i))) (λ_ y=>9-(intOf y).toNat);case atStart=>exact⟨0,0,an,an,rfl,rfl,E av,K⟩
 case round=>
  obtain⟨i,aT,H,U,rfl,rfl,Q,k⟩:=hrel;by_cases hi:i<9
  ·by_cases t:i=n
   ·have m:=E (show e9 l= .error 3 by
     have o:l.drop i=[]:=List.drop_of_length_le (by rw[q.A];omega);have h2:9-i=(8-i)+1:=an;rw[k.A,o,h2];rfl)
    have r:((i:Int)==(n:Int))=true:=by rw[t];simp
    have R:=E t;clear t;go_wp2;refine bF (v:=bn #[J I 0,O M 0 0,J I 3]) aqH rfl ⟨?_,?_⟩
    ·rw[m.A];rfl
    ·exact bk _ _
   ·have B:i<n:=by omega
    have r:((i:Int)==(n:Int))=false:=beq_false_of_ne an;obtain⟨b,off,rfl,L,A⟩:=z.A.at_ B;have N:=(l.getD i 0).toNat_lt;obtain⟨C,f,u⟩:=aeX (x:=(l.getD i 0).toNat) Q.A (show i<=8 by omega);have a:=E (show e9 l=_ by
     have h2:9-i=(8-i)+1:=an;rw[k.A,aeY (by rw[q.A];exact B),h2,aeZ])
    generalize(l.getD i 0).toNat=x at A N C f u a;generalize aT+x % 128*128^i=a2 at C f u a;have s:=E f;clear f;have G:∀p:ba w,p.aL.cell? ⟨b,off+i,M⟩=ad (J .u8 (x:Int)):=λp=>p.cell L A;by_cases d:128<=x
    ·have c:=E (show e9 l=lN (9-(i+1)) (i+1) a2 (l.drop (i+1)) by
      rw[a.A,ag d,show 9-(i+1)=8-i by omega])
     have HX:=E a.A;clear a;go_wp2;go_round;case rel=>exact⟨i+1,a2,an,an,by go_num,rfl,s,c⟩
     case measure=>exact aA
    ·have d1:decide (128<=x)=false:=aa d;by_cases j:1152921504606846976<a2
     ·have c:=E (show e9 l= .error 2 by rw[a.A,af d,ag j]);clear a;go_wp2;refine bF (v:=bn #[J I 0,O M 0 0,J I 2]) aqH rfl ⟨?_,?_⟩
      ·rw[c.A];rfl
      ·exact bk _ _
     ·have W:decide (1152921504606846976<a2)=false:=aa j;by_cases h0:x=0/\0<i
      ·have c:=E (show e9 l= .error 1 by rw[a.A,af d,af j,ag h0]);clear a;have F:((x:Int)==0)=true:=by rw[h0.1];rfl
       have D:0<i:=h0.2;have H0:=E h0;clear h0;go_wp2;refine bF (v:=bn #[J I 0,O M 0 0,J I 1]) aqH rfl ⟨?_,?_⟩
       ·rw[c.A];rfl
       ·exact bk _ _
      ·have c:=E (show e9 l= .ok (a2,l.drop (i+1)) by rw[a.A,af d,af j,af h0]);clear a;have r1:=oC underlying34 1 AJ (ad (ab b off M)) n cap (i+1) an;have r2:∀w,(iV 34 (O (ad (ab b off M)) n cap) (ad (J I ((i:Int)+1))) M M).run aH w= .ok (O (cutAt (ad (ab b off M)) cap (i+1) 1) (n-(i+1)) (cap-(i+1))) w:=λw=>r1 w;have Y:I.wrap ((i:Int)+1)=(i:Int)+1:=ay;clear r1;have HE:=E (show uZ (ad (ab b off M)) n cap (e9 l)=#[J I (a2:Int),O (cutAt (ad (ab b off M)) cap (i+1) 1) (n-(i+1)) (cap-(i+1)),J I 0] by
        rw[c.A];have o:(l.drop (i+1)).length=n-(i+1):=by rw[oy,q.A]
        simp only[uZ,o,show n-(n-(i+1))=i+1 by omega])
       generalize cutAt (ad (ab b off M)) cap (i+1) 1=A2 at r2 HE;by_cases g:x=0
       ·have D:decide (0<i)=false:=aa (λh=>h0 ⟨g,h⟩);have F:((x:Int)==0)=true:=by rw[g];rfl
        have S:=E g;clear h0 g;exact VG
       ·have V:((x:Int)==0)=false:=beq_false_of_ne an;clear h0;exact VG
  ·obtain rfl:i=9:=by omega
   have m:=E (show e9 l= .error 2 by rw[k.A];rfl);go_wp2;refine bF (v:=bn #[J I 0,O M 0 0,J I 2]) aqH rfl ⟨?_,?_⟩
   ·rw[m.A];rfl
   ·exact bk _ _
variable {base:Nat}
section
open arA
def ki (s:Nat):List UInt8:=[fN (s % 256),fN (s/256 % 256),fN (s/65536 % 256),fN (s/16777216)]
def kK (p:List UInt8):List UInt8:=bu p.length++p++ki (sum (gB p))
def C8 (l p:List UInt8):List UInt8:=if p.length<=65536 then l++kK p else l
def VN (w:aB) (t:bf) {s:Nat} (hs:s<4294967296):Bs (w.alloc (aD #[J .u8 ((s:Int) % 256),J .u8 ((s:Int)/256 % 256),J .u8 ((s:Int)/65536 % 256),J .u8 ((s:Int)/16777216)] t)) (w.heap.size+1) (ad (ab w.heap.size 0 M)) 4 (ki s):=by
 have:=Bs.fresh w t #[J .u8 ((s:Int) % 256),J .u8 ((s:Int)/256 % 256),J .u8 ((s:Int)/65536 % 256),J .u8 ((s:Int)/16777216)] (0,0) (ki s) 4 rfl (by
  simp only[ki,sd,List.map_nil];rw[yE (x:=s % 256) an ((s:Int) % 256) an,yE (x:=s/256 % 256) an ((s:Int)/256 % 256) an,yE (x:=s/65536 % 256) an ((s:Int)/65536 % 256) an,yE (x:=s/16777216) an ((s:Int)/16777216) an])
 rwa[eO] at this
def Lm (h:n<=65536):(bu n).length<=3:=by
 have a:(128:Nat)^(2+1)=2097152:=av;exact ph 2 n an
def bQ.less {e:Nat} {l:List UInt8} (h:bQ w base e v l) (Z:vg<=base):bQ w vg e v l:=by
 refine⟨h.1,?_⟩;rcases h.2 with h1|⟨g,cap,cur,a,b,c⟩
 ·exact .inl h1
 ·exact .inr ⟨g,cap,cur,a,an,c⟩
def VO:bK=9223372036854775807:=rfl
def Ph (ao:Option aX) (n cap:Nat) (l:List UInt8) (A2:Option aX) (m c2:Nat) (p:List UInt8) (w:aB) (hn:n<=1099511627776) (VP:m<=9223372036854775807) (Z:Bs w w.heap.size ao n l) (i:Bs w w.heap.size A2 m p):aN aH 118 #[O ao n cap,O A2 m c2] w λe w'=>(∃v,e=aQ v/\bQ w' w.heap.size 5 v (C8 l p))/\aS w.heap.size w w':=by
 have t:=E Z;clear Z;have c:=E i;clear i;by_cases y:m<=65536
 ·have q:=E (show C8 l p=l++kK p from ag (by rw[c.A.len];exact y));have ce:=E (show(bu m).length<=3 from Lm y);have u:=E (show mm l (m:Int)=l++bu m from by unfold mm;rw[ag ⟨an,an⟩];rfl);have I:=Pf (Ib p);go_enter func118,ntmps118;go_wp2_with fail;refine(VM A2 m c2 p _ VP c.A).ah ?_;rintro e V⟨rfl,f⟩;have H:=E (show kK p=bu m++p++ki (sum (gB p)) from by unfold kK;rw[c.A.len]);generalize sum (gB p)=s at I H⊢;go_wp2_with fail;refine(yF ao n cap l m _ an (t.A.aL f)).ah ?_;rintro e a⟨⟨v,rfl,b⟩,i⟩;rw[u.A] at b;rcases b.form with⟨-,h⟩|⟨g,afu,rfl,mr,ck,lO,AK⟩
  ·exfalso;have:=congrArg oz h;have h3:=E1 m;rw[b2] at this;simp only[nF] at this;omega
  have d:=f.trans (i.mono f.size);generalize Q:(l++bu m).length=k at b lO AK⊢;have T:=E Q;clear Q;have L:Bs a a.heap.size (ad (ab g 0 M)) k (l++bu m):=by
   obtain⟨A',n',c',e,h1,-,-⟩:=b.bs;cases e;exact h1
  have G:=E L;clear L b;have F:=E (show k<=n+3 by rw[<-T.A,b2,t.A.len];have:=ce.A;omega);have wP:=Vy underlying34 1 AJ (ad (ab g 0 M)) k afu k lO;have z:=E (c.A.aL d);rw[VO] at AK;have C:=E (VN a 5 I);by_cases r:m=0
  ·have Ic:=E (show p=[] from sb (by rw[c.A.len,r]));have aM:=E r;subst r;have Pn:=E (show Bs (a.alloc (aD #[J .u8 ((s:Int) % 256),J .u8 ((s:Int)/256 % 256),J .u8 ((s:Int)/65536 % 256),J .u8 ((s:Int)/16777216)] 5)) a.heap.size (ad (ab g 0 M)) k (l++bu 0) from⟨G.A.len,G.A.sl.alloc (aO _) _⟩);go_wp2_with (first
    |(refine ae2 au (.tmp 22) (.tmp 23) 34 au 5 underlying34 pm g 0 k au A2 c2 au ?_)
    |(refine Pc au (.tmp 25) (.tmp 37) 34 au 5 underlying34 pm g 0 k (l++bu 0) au _ Pn.A _ (ad (ab a.heap.size 0 M)) 4 4 (ki s) au C.A an (ai F.A) ?_;intro N w' o j))
   go_ret;have R:=d.size;refine⟨⟨_,rfl,?_⟩,(d.alloc d.size _).grown j aw (λg e=>by cases e)⟩;rw[q.A,H.A,Ic.A];have e:l++(bu 0++[]++ki s)=l++bu 0++ki s:=av;rw[e];exact bQ.less o aw
  ·have W:0<m:=by omega
   have fk:=E (show(l++bu m++p).length=k+m by rw[b2,T.A,c.A.len]);go_wp2_with (first
    |(refine Pc au (.tmp 22) (.tmp 23) 34 au 5 underlying34 pm g 0 k (l++bu m) au _ G.A _ A2 m c2 p au z.A W (ai F.A) ?_;intro N w' o j;have K:=E o;clear o;have B:=E (VN w' 5 I);have U:=E (K.A.alloc (aD #[J .u8 ((s:Int) % 256),J .u8 ((s:Int)/256 % 256),J .u8 ((s:Int)/65536 % 256),J .u8 ((s:Int)/16777216)] 5));have aJ:=j.size)
    |(refine yD au (.tmp 25) (.tmp 37) 34 au a.heap.size 5 underlying34 pm N (l++bu m++p) au U.A (w'.heap.size+1) (ad (ab w'.heap.size 0 M)) 4 4 (ki s) au B.A (by rw[fk.A];have:=F.A;omega) aw ?_;intro X cT D Y aK))
   go_ret;have R:=d.size;have S:=d.grown j R (λg e=>by cases e);refine⟨⟨_,rfl,?_⟩,(S.alloc S.size _).grown Y aw (λg e=>by have:=K.A.nI g e;omega)⟩;rw[q.A,H.A];have e:l++(bu m++p++ki s)=l++bu m++p++ki s:=av;rw[e];exact bQ.less D an
 ·have q:=E (show C8 l p=l from af (by rw[c.A.len];exact y));have j0:65536<m:=an;go_enter func118,ntmps118;go_wp2_with fail;refine(Le ao n cap l _ an t.A).ah ?_;rintro e V⟨⟨v,rfl,b⟩,f⟩;go_wp2;go_ret;exact⟨⟨_,rfl,by rw[q.A];exact b⟩,f⟩
end
section
open arA
def yI (l:List UInt8):Nat:=(l.getD 0 0).toNat+256*(l.getD 1 0).toNat+65536*(l.getD 2 0).toNat+16777216*(l.getD 3 0).toNat
def kL (l:List UInt8):Except Nat (List UInt8×List UInt8):=match e9 l with
 |.error c=>.error c
 |.ok (n,r)=>if 65536<n then .error 4 else if r.length<n+4 then .error 3 else if sum (gB (r.take n))=yI (r.drop n) then .ok (r.take n,r.drop (n+4)) else .error 5
def VQ (w':aB) (B:Nat) (e:Ending):Except Nat (List UInt8×List UInt8)->Prop
 |.ok (p,r)=>∃A1 n1 c1 A2 n2 c2,e=aQ (bn #[O A1 n1 c1,O A2 n2 c2,J I 0])/\Bs w' B A1 n1 p/\Bs w' B A2 n2 r/\n1<=c1/\c1<=9223372036854775807/\n2<=c2/\c2<=9223372036854775807
 |.error c=>e=aQ (bn #[O M 0 0,O M 0 0,J I (c:Int)])
def Po {a:Nat} (h:a<2^k):a|||b*2^k=a+b*2^k:=by
 have:=Nat.shiftLeft_add_eq_or_of_lt h b;rw[Nat.shiftLeft_eq] at this;rw[Nat.or_comm,<-this,Nat.add_comm]
def or4 {d c b a:Nat} (yJ:d<2^8) (l1:c<2^8) (l2:b<2^8) (Da:a<2^8):bits .or .u32 (bits .or .u32 (bits .or .u32 (d:Int) (IntKind.u32.wrap ((c:Int)*256))) (IntKind.u32.wrap ((b:Int)*65536))) (IntKind.u32.wrap ((a:Int)*16777216))=((d+256*c+65536*b+16777216*a:Nat):Int):=by
 have g:IntKind.u32.wrap ((c:Int)*256)=((c*2^8:Nat):Int):=by rw[IntKind.wrap_u32];omega
 have f:IntKind.u32.wrap ((b:Int)*65536)=((b*2^16:Nat):Int):=by rw[IntKind.wrap_u32];omega
 have e:IntKind.u32.wrap ((a:Int)*16777216)=((a*2^24:Nat):Int):=by rw[IntKind.wrap_u32];omega
 rw[g,f,e,u32_or_nat _ _ an an,Po yJ,u32_or_nat _ _ an an,Po (k:=16) an,u32_or_nat _ _ an an,Po (k:=24) an];congr 1;omega
theorem VR (h:P:=by
 have e1:l.drop (n-r.length)=r:=aq0;have e2:n-(n-r.length)=r.length:=an;rw[e1,e2] at this;exact this;):P:=h
def afw (B:Nat) (ao:Option aX) (n cap:Nat) (l:List UInt8) (w:aB) (dI:B<=w.heap.size) (hn:n<=9223372036854775807) (cB:n<=cap) (ij:cap<=9223372036854775807) (Z:Bs w B ao n l):aN aH 165 #[O ao n cap] w λe w'=>VQ w' B e (kL l)/\aS w.heap.size w w':=by
 have VS:=E Z;clear Z;have jY:=E (VS.A.bt dI);go_enter func165,ntmps165;go_wp2_with fail;refine(H7 ao n cap l _ hn cB ij jY.A).ah ?_;rintro e X⟨rfl,aW⟩;cases hg:e9 l with
 |error c=>
  have u:=E (show kL l= .error c by unfold kL;rw[hg]);simp only[uZ];have hc:((c:Int)==0)=false:=by
   have:c≠0:=wN hg;exact beq_false_of_ne an
  clear hg;go_wp2;refine bF (v:=bn #[O M 0 0,O M 0 0,J I (c:Int)]) aqI rfl ⟨?_,?_⟩
  ·rw[u.A];rfl
  ·exact aW
 |ok Db=>
  obtain⟨m,r⟩:=Db;obtain⟨hl,VT⟩:=C3 hg;simp only[uZ];have S:=E hg;clear hg;by_cases D:65536<m
  ·have u:=E (show kL l= .error 4 by unfold kL;rw[S.A];simp only;rw[ag D]);clear hl;go_wp2;refine bF (v:=bn #[O M 0 0,O M 0 0,J I 4]) aqI rfl ⟨?_,?_⟩
   ·rw[u.A];rfl
   ·exact aW
  have d1:decide (65536<m)=false:=aa D;have j1:r.length+(bu m).length=n:=by have:=congrArg oz hl;rw[b2,jY.A.len] at this;omega
  by_cases h2:r.length<m+4
  ·have u:=E (show kL l= .error 3 by unfold kL;rw[S.A];simp only;rw[af D,ag h2]);clear hl;go_wp2;refine bF (v:=bn #[O M 0 0,O M 0 0,J I 3]) aqI rfl ⟨?_,?_⟩
   ·rw[u.A];rfl
   ·exact aW
  have d2:decide (r.length<m+4)=false:=aa h2;have gg:Bs X B (cutAt ao cap (n-r.length) 1) r.length r:=by
   have:=(VS.A.al (aW.mono dI)).lo (k:=n-r.length) (cap:=cap) an cB;exact VR
  have U:r.length<=cap-(n-r.length):=an;have Pr:cap-(n-r.length)<=9223372036854775807:=an;have F:=E gg;clear gg hl;generalize cutAt ao cap (n-r.length) 1=A3 at F⊢;generalize cap-(n-r.length)=c3 at U Pr⊢;generalize W:r.length=k at*;have mY:=E W;clear W;have aK:m+4<=k:=an;have s1:∀w,(iV 34 (O A3 k c3) M (ad (J I (m:Int))) (ad (J I (m:Int)))).run aH w= .ok (O A3 m m) w:=Vy underlying34 1 AJ A3 k c3 m an;have s2:∀w,(iV 34 (O A3 k c3) (ad (J I (m:Int))) (ad (J I ((m:Int)+4))) M).run aH w= .ok (O (cutAt A3 c3 m 1) 4 (c3-m)) w:=by
   have:=aeO (P:=aH) underlying34 1 AJ A3 k c3 m (m+4) an an;rw[show m+4-m=4 by omega] at this;exact this
  have Y:∀w,(iV 34 (O A3 k c3) (ad (J I ((m:Int)+4))) M M).run aH w= .ok (O (cutAt A3 c3 (m+4) 1) (k-(m+4)) (c3-(m+4))) w:=oC underlying34 1 AJ A3 k c3 (m+4) an;have Q:I.wrap ((m:Int)+4)=(m:Int)+4:=ay;have HP:=E (F.A.hi (show m<=k by omega));have HT:=E (F.A.lo (show m+4<=k by omega) U);have C:=F.A.lo (show m<=k by omega) U;obtain⟨cH,b,e1,aM,x0⟩:=C.at_ (show 0<k-m by omega);obtain⟨b',o',g,-,N⟩:=C.at_ (show 1<k-m by omega);rw[e1] at g;cases g;obtain⟨b',o',g,-,x2⟩:=C.at_ (show 2<k-m by omega);rw[e1] at g;cases g;obtain⟨b',o',g,-,x3⟩:=C.at_ (show 3<k-m by omega);rw[e1] at g;cases g;rw[e1] at s2;have s:=E (show yI (r.drop m)=((r.drop m).getD 0 0).toNat+256*((r.drop m).getD 1 0).toNat+65536*((r.drop m).getD 2 0).toNat+16777216*((r.drop m).getD 3 0).toNat from rfl);have yJ:=((r.drop m).getD 0 0).toNat_lt;have l1:=((r.drop m).getD 1 0).toNat_lt;have l2:=((r.drop m).getD 2 0).toNat_lt;have Da:=((r.drop m).getD 3 0).toNat_lt;generalize((r.drop m).getD 0 0).toNat=L at x0 yJ s;generalize((r.drop m).getD 1 0).toNat=K at N l1 s;generalize((r.drop m).getD 2 0).toNat=H at x2 l2 s;generalize((r.drop m).getD 3 0).toNat=G at x3 Da s;clear C e1;generalize cutAt A3 c3 (m+4) 1=A5 at Y HT;have Ie:m<=9223372036854775807:=an;go_wp2_with fail;refine pk ar ar ?_;repeat (
   refine WQ.step (λKK d=>?_);go_simp;refine d _ ?_;clear d KK)
  refine WQ.bh ?_;rintro t⟨⟨f,a⟩,i⟩;obtain rfl:f=t:=i.symm;clear i;have bg:=aW.trans (a.mono aW.size);have z0:∀p:ba f,p.aL.cell? (ab cH b M)=ad (J .u8 (L:Int)):=λp=>(p.aC.cell (p:=(ab cH b M)) aqP).trans ((a.cell (p:=(ab cH b M)) aqQ).trans x0);have z1:∀p:ba f,p.aL.cell? ⟨cH,b+1,M⟩=ad (J .u8 (K:Int)):=λp=>(p.aC.cell (p:=⟨cH,b+1,M⟩) aqP).trans ((a.cell (p:=⟨cH,b+1,M⟩) aqQ).trans N);have z2:∀p:ba f,p.aL.cell? ⟨cH,b+2,M⟩=ad (J .u8 (H:Int)):=λp=>(p.aC.cell (p:=⟨cH,b+2,M⟩) aqP).trans ((a.cell (p:=⟨cH,b+2,M⟩) aqQ).trans x2);have z3:∀p:ba f,p.aL.cell? ⟨cH,b+3,M⟩=ad (J .u8 (G:Int)):=λp=>(p.aC.cell (p:=⟨cH,b+3,M⟩) aqP).trans ((a.cell (p:=⟨cH,b+3,M⟩) aqQ).trans x3);clear s1 s2 Y Q x0 N x2 x3;have R:=E (show∀p:ba f,aN aH 159 #[O A3 m m] p.aL λe cT=>e=aQ (J .u32 (sum (gB (r.take m)):Nat))/\∃q:ba f,cT=q.aL fromλp=>aN.aeS (VM A3 m m (r.take m) p.aL Ie (((HP.A.al (a.mono (ai aW.size))).al (p.aC.mono (ai bg.size))).bt (aj p.aC.size bg.size))));have iG:=Pf (Ib (r.take m));generalize q5:sum (gB (r.take m))=sv at R iG;have gR:=E q5;clear q5;have z:∀y:Nat,y<2^8->IntKind.u32.wrap (y:Int)=(y:Int):=λy h=>by rw[IntKind.wrap_u32];omega
  have v0:=z L yJ;have v1:=z K l1;have v2:=z H l2;have v3:=z G Da;clear z;have C7:=or4 yJ l1 l2 Da;generalize L+256*K+65536*H+16777216*G=V at C7 s;clear yJ l1 l2 Da;have VU:kL l=if sv=V then .ok (r.take m,r.drop (m+4)) else .error 5:=by
   unfold kL;rw[S.A];simp only;rw[af D,af (by rw[mY.A];exact h2),gR.A,s.A]
  have AM:=E VU;clear VU;by_cases j:sv=V
  ·have bq:((sv:Int)!=(V:Int))=false:=by rw[j];simp
   have T:=E (show kL l= .ok (r.take m,r.drop (m+4)) by rw[AM.A,ag j]);have wR:=E j;clear j;go_wp2_with fail;have o:=bg;have VV:=a;clear bg a;refine pk ar ar ?_;repeat (
    refine WQ.step (λKK d=>?_);go_simp;first
     |(refine d _ ?_;clear d KK)
     |(apply lL;refine⟨λ_=>?_,d _ ?_⟩;((go_at_call 159;exact R.A _));clear d KK))
   refine WQ.bh ?_;rintro t⟨⟨f,a⟩,i⟩;obtain rfl:f=t:=i.symm;clear i;go_wp2;refine bF (v:=bn #[O A3 m m,O A5 (k-(m+4)) (c3-(m+4)),J I 0]) aqI rfl ⟨?_,?_⟩
   ·rw[T.A];have Dd:=(VV.mono (show B<=X.heap.size by have:=aW.size;omega)).trans (a.mono (ai o.size));exact⟨A3,m,m,A5,_,_,rfl,HP.A.al Dd,by have:=HT.A.al Dd;exact this,aO _,Ie,an,an⟩
   ·exact o.trans (a.mono o.size)
  have bq:((sv:Int)!=(V:Int))=true:=bne_iff_ne.2 an;have T:=E (show kL l= .error 5 by rw[AM.A,af j]);have wR:=E j;clear j;go_wp2_with fail;have o:=bg;have VV:=a;clear bg a;refine pk ar ar ?_;repeat (
   refine WQ.step (λKK d=>?_);go_simp;first
    |(refine d _ ?_;clear d KK)
    |(apply lL;refine⟨λ_=>?_,d _ ?_⟩;((go_at_call 159;exact R.A _));clear d KK))
  refine WQ.bh ?_;rintro t⟨⟨f,a⟩,i⟩;obtain rfl:f=t:=i.symm;clear i;go_wp2;refine bF (v:=bn #[O M 0 0,O M 0 0,J I 5]) aqI rfl ⟨?_,?_⟩
  ·rw[T.A];rfl
  ·exact o.trans (a.mono o.size)
def afx (ao:Option aX) (n cap:Nat) (l:List UInt8) (w:aB) (hn:n<=9223372036854775807) (b:n<=cap) (a:cap<=9223372036854775807) (Z:Bs w w.heap.size ao n l):aN aH 165 #[O ao n cap] w λe w'=>VQ w' w.heap.size e (kL l)/\aS w.heap.size w w':=afw w.heap.size ao n cap l w (aO _) hn b a Z
end
section
open arA
def ofNat_toNat {x:Nat} (h:x<256):(fN x).toNat=x:=UInt8.toNat_ofNat_of_lt' ark
def afy {s:Nat} (hs:s<4294967296) (t:List UInt8):yI (ki s++t)=s:=by
 simp only[yI,ki,List.cons_append,List.nil_append,List.getD_cons_zero,List.getD_cons_succ];rw[ofNat_toNat (x:=s % 256) an,ofNat_toNat (x:=s/256 % 256) an,ofNat_toNat (x:=s/65536 % 256) an,ofNat_toNat (x:=s/16777216) an];omega
def Lo (s:Nat):(ki s).length=4:=rfl
def afz {l:List UInt8} (h:l.length=4):ki (yI l)=l:=by
 match l,h with
 |[a,b,c,d],_=>
  have i:=a.toNat_lt;have Z:=b.toNat_lt;have g:=c.toNat_lt;have f:=d.toNat_lt;simp only[yI,ki,List.getD_cons_zero,List.getD_cons_succ];have e:∀(x:UInt8) (z:Nat),z=x.toNat->fN z=x:=λx z h=>by rw[h];exact UInt8.ofNat_toNat
  rw[e a _ an,e b _ an,e c _ an,e d _ an]
def afA (p t:List UInt8) (d:p.length<=65536):kL (kK p++t)= .ok (p,t):=by
 have hs:=Pf (Ib p);unfold kL kK;rw[mV,mV,C0 _ _ an];simp only;have c:(p++(ki (sum (gB p))++t)).take p.length=p:=List.take_left;have a:(p++(ki (sum (gB p))++t)).drop p.length=ki (sum (gB p))++t:=List.drop_left;have b:(p++(ki (sum (gB p))++t)).drop (p.length+4)=t:=by
  rw[<-List.drop_drop,a];rfl
 rw[af an,af (by simp[Lo]),c,a,b,ag (afy hs t).symm]
def afB {l p r:List UInt8} (h:kL l= .ok (p,r)):l=kK p++r/\p.length<=65536:=by
 unfold kL at h;cases hg:e9 l with
 |error c=>rw[hg] at h;cases h
 |ok f=>
  obtain⟨m,q⟩:=f;rw[hg] at h;simp only at h;split at h
  ·cases h
  ·split at h
   ·cases h
   ·split at h
    ·rename_i g h2 a;injection h with h;injection h with hp hr;obtain⟨e,-⟩:=C3 hg;have d:p.length=m:=by rw[<-hp,tH];omega
     refine⟨?_,an⟩;have h4:(q.drop m).take 4=ki (sum (gB p)):=by
      have:yI (q.drop m)=yI ((q.drop m).take 4):=by
       simp[yI,dd]
      rw[<-hp,a,this,afz (by rw[tH,oy];omega)]
     unfold kK;rw[d,<-h4,<-hp,<-hr,e];have b:q.drop (m+4)=(q.drop m).drop 4:=by rw[List.drop_drop]
     rw[b,mV,mV,List.take_append_drop,List.take_append_drop]
    ·cases h
def Ps (w:aB) {B n:Nat} {ao:Option aX} {l:List UInt8} (cap:Nat) (h:Bs w B ao n l):(convert 34 9 (O ao n cap)).run aH w= .ok (ap ⟨l.toArray⟩) w:=by
 cases ao with
 |none=>
  have hn:n=0:=by
   rcases kJ n with h0|h0
   ·exact h0
   ·obtain⟨_,_,e,_⟩:=h.sl h0;cases e
  have d:l=[]:=sb (by rw[h.len,hn]);subst d;subst hn;rw[run_convert_bytes_string w _ _ 5 M 0 cap underlying34 underlying5 underlying9];rfl
 |some a=>
  have hn:=h.len;subst hn;refine run_convert_bytes_back w _ _ 5 a cap l underlying34 underlying5 underlying9 (λj hj=>?_);obtain⟨b,off,e,-,f⟩:=h.at_ hj;cases e;have c:((ab b off M):aX).add j=⟨b,off+j,M⟩:=aqj;rw[c,f];simp[hj]
end
def encI (n:Int):Nat:=if n<0 then(-2*n-1).toNat else(2*n).toNat
def qa (u:Nat):Int:=if u % 2=1 then-(((u+1)/2:Nat):Int) else((u/2:Nat):Int)
def afC (n:Int):qa (encI n)=n:=by
 unfold qa encI;by_cases h:n<0
 ·rw[ag h,ag an];omega
 ·rw[af h,af an];omega
def afD {u:Nat} (h:u<=1152921504606846976):-576460752303423488<=qa u/\qa u<=576460752303423488:=by
 unfold qa;split<;>omega
def Lp (l:List UInt8) (n:Int):List UInt8:=if-576460752303423488<=n/\n<=576460752303423488 then l++bu (encI n) else l
def sj (l:List UInt8):Except Nat (Int×List UInt8):=match e9 l with
 |.error c=>.error c
 |.ok (u,r)=>.ok (qa u,r)
def afE (n:Int) (t:List UInt8) (h:-576460752303423488<=n/\n<=576460752303423488):sj (bu (encI n)++t)= .ok (n,t):=by
 unfold sj;rw[C0 _ _ (by unfold encI;split<;>omega)];simp only[afC]
theorem VW (h:P:=by
 have HP:=E (show Lp l m=l from af (λh=>by omega));go_enter func161,ntmps161;go_wp2_with fail;refine(Le ao n cap l _ hn HB.A).ah ?_;rintro e w1⟨⟨v,rfl,bc⟩,aW⟩;go_wp2;go_ret;exact⟨⟨_,rfl,by rw[HP.A];exact bc⟩,aW⟩;):P:=h
def afF (ao:Option aX) (n cap:Nat) (l:List UInt8) (m:Int) (w:aB) (hn:n<=70368744177664) (Z:Bs w w.heap.size ao n l):aN aH 161 #[O ao n cap,J I m] w λe w'=>(∃v,e=aQ v/\bQ w' w.heap.size 5 v (Lp l m))/\aS w.heap.size w w':=by
 have HB:=E Z;clear Z;by_cases h0:m< -576460752303423488
 ·exact VW
 have d0:decide (m< -576460752303423488)=false:=aa h0;by_cases c:576460752303423488<m
 ·exact VW
 have d1:decide (576460752303423488<m)=false:=aa c;have HP:=E (show Lp l m=l++bu (encI m) from ag ⟨an,an⟩);by_cases a:m<0
 ·have b:=E (show mm l (-2*m-1)=l++bu (encI m) from by unfold mm encI;rw[ag an,ag a]);go_enter func161,ntmps161;go_wp2_with fail;refine(yF ao n cap l (-2*m-1) _ hn HB.A).ah ?_;rintro e w1⟨⟨v,rfl,bc⟩,aW⟩;go_wp2;go_ret;exact⟨⟨_,rfl,by rw[HP.A,<-b.A];exact bc⟩,aW⟩
 ·have b:=E (show mm l (2*m)=l++bu (encI m) from by unfold mm encI;rw[ag an,af a]);have d:decide (m<0)=false:=aa a;go_enter func161,ntmps161;go_wp2_with fail;refine(yF ao n cap l (2*m) _ hn HB.A).ah ?_;rintro e w1⟨⟨v,rfl,bc⟩,aW⟩;go_wp2;go_ret;exact⟨⟨_,rfl,by rw[HP.A,<-b.A];exact bc⟩,aW⟩
def afG (ao:Option aX) (n cap:Nat):Except Nat (Int×List UInt8)->Array aE
 |.ok (m,r)=>#[J I m,O (cutAt ao cap (n-r.length) 1) r.length (cap-(n-r.length)),J I 0]
 |.error c=>#[J I 0,O M 0 0,J I (c:Int)]
def afH (ao:Option aX) (n cap:Nat) (l:List UInt8) (w:aB) (hn:n<=9223372036854775807) (z:n<=cap) (s:cap<=9223372036854775807) (Z:Bs w w.heap.size ao n l):aN aH 215 #[O ao n cap] w λe w'=>e=aQ (.tuple (afG ao n cap (sj l)))/\aS w.heap.size w w':=by
 have C:=E Z;clear Z;go_enter func215,ntmps215;go_wp2_with fail;refine(H7 ao n cap l _ hn z s C.A).ah ?_;rintro e D⟨rfl,j⟩;cases b:e9 l with
 |error c=>
  have d:=E (show sj l= .error c by unfold sj;rw[b]);have F:((c:Int)!=0)=true:=bne_iff_ne.2 (ai (wN b));simp only[uZ];clear b;go_wp2;refine bF (v:=bn #[J I 0,O M 0 0,J I (c:Int)]) (by simp[bz,results215,go_sem]) rfl ⟨?_,j⟩;rw[d.A];rfl
 |ok i=>
  obtain⟨u,r⟩:=i;obtain⟨-,g⟩:=C3 b;have d:=E (show sj l= .ok (qa u,r) by unfold sj;rw[b]);simp only[uZ];clear b;generalize o:cutAt ao cap (n-r.length) 1=A2 at*;generalize m:cap-(n-r.length)=c2 at*;have k:=E o;have p:=E m;clear o m;by_cases a:u % 2=1
  ·have y:(u:Int) % 2=1:=by omega
   have f:(u:Int).tmod 2=1:=by rw[show(2:Int)=((2:Nat):Int) from rfl];exact congrArg Int.ofNat a
   have t:(-((u:Int)+1)).tdiv 2=qa u:=by
    unfold qa;rw[ag a];rw[Int.neg_tdiv,show(2:Int)=((2:Nat):Int) from rfl,show(u:Int)+1=((u+1:Nat):Int) by push_cast;rfl];rfl
   have q:wrap64 (qa u)=qa u:=by have:=afD g;unfold wrap64;omega
   have B:=E a;clear a;go_wp2;refine bF (v:=bn #[J I (qa u),O A2 r.length c2,J I 0]) (by simp[bz,results215,go_sem,q]) rfl ⟨?_,j⟩;rw[d.A,<-k.A,<-p.A];rfl
  ·have y:(u:Int) % 2=0:=by omega
   have f:(u:Int).tmod 2=0:=by rw[show(2:Int)=((2:Nat):Int) from rfl];exact congrArg Int.ofNat (show u % 2=0 by omega)
   have t:(u:Int)/2=qa u:=by
    unfold qa;rw[af a];omega
   have B:=E a;clear a;go_wp2;refine bF (v:=bn #[J I (qa u),O A2 r.length c2,J I 0]) (by simp[bz,results215,go_sem]) rfl ⟨?_,j⟩;rw[d.A,<-k.A,<-p.A];rfl
def nL (s:ByteArray):List UInt8:=s.data.toList
def yO (s:ByteArray):(nL s).length=s.size:=Array.length_toList
def VX (s:ByteArray):(⟨(nL s).toArray⟩:ByteArray)=s:=by
 apply ByteArray.ext;simp[nL]
def tR (l:List UInt8) (s:ByteArray):List UInt8:=if s.size<=65536 then l++bu s.size++nL s else l
def afK (a:aE) (l:List UInt8) (s:ByteArray) (w:aB) (base:Nat) (B:base<=w.heap.size) (t:l.length<=70368744177664) (D:s.size<=9223372036854775807) (j:bQ w base 5 a l):aN aH 157 #[a,ap s] w λe w'=>(∃v,e=aQ v/\bQ w' base 5 v (tR l s))/\aS base w w':=by
 have m:=E j;clear j;by_cases hs:s.size<=65536
 ·have c:=E (show tR l s=l++bu s.size++nL s from ag hs);have d:decide ((65536:Int)<(s.size:Int))=false:=aa an;have i:=E (ph 8 s.size (pj _ an));obtain⟨r,hi,u,z,y⟩:=info_parts pm;go_enter func157,ntmps157;go_wp2_with fail;refine(O8 a l (s.size:Int) w base B t ⟨an,an⟩ m.A).ah ?_;rintro e f⟨⟨p,rfl,k⟩,b⟩;have n:a6 (f.ownsRow base 5 1 p (l++bu s.size).length ((l++bu s.size).map ca)):=E k;clear k;go_wp2_with ((refine Lib.wpList_append_own_string f au (.tmp 12) (.tmp 13) 34 9 au base 5 r underlying34 underlying9 hi u z y _ _ _ au n.A s au (by rw[b2];have:=i.A;unfold bK;omega) (by rw[b2];have:=i.A;omega) (ai b.size) ?_;intro v2 C q o _));go_ret;refine⟨⟨_,rfl,?_⟩,b.grown o (ai b.size) (λg e=>(CX n.A g e).1)⟩;rw[c.A];unfold bQ;rw[b2,yO,lK];exact q
 ·have c:=E (show tR l s=l from af hs);have d:(65536:Int)<(s.size:Int):=an;go_enter func157,ntmps157;go_wp2;go_ret;exact⟨⟨_,rfl,by rw[c.A];exact m.A⟩,bk _ _⟩
def afL (ao:Option aX) (n cap:Nat) (l:List UInt8) (s:ByteArray) (w:aB) (hn:n<=70368744177664) (f:s.size<=9223372036854775807) (Z:Bs w w.heap.size ao n l):aN aH 120 #[O ao n cap,ap s] w λe w'=>(∃v,e=aQ v/\bQ w' w.heap.size 5 v (tR l s))/\aS w.heap.size w w':=by
 have j:=Z.len;go_enter func120,ntmps120;go_wp2_with fail;refine(Le ao n cap l _ hn Z).ah ?_;rintro e i⟨⟨v,rfl,a⟩,b⟩;go_wp2_with fail;refine(afK v l s _ w.heap.size b.size an f a).ah ?_;rintro e g⟨⟨v2,rfl,c⟩,d⟩;clear a Z;go_wp2;go_ret;exact⟨⟨_,rfl,c⟩,b.trans d⟩
def kk (l:List UInt8):Except Nat (List UInt8×List UInt8):=match e9 l with
 |.error c=>.error c
 |.ok (n,r)=>if 65536<n then .error 4 else if r.length<n then .error 3 else .ok (r.take n,r.drop n)
def afM (w':aB) (B:Nat) (e:Ending):Except Nat (List UInt8×List UInt8)->Prop
 |.ok (t,r)=>∃A2 n2 c2,e=aQ (bn #[ap ⟨t.toArray⟩,O A2 n2 c2,J I 0])/\Bs w' B A2 n2 r/\n2<=c2/\c2<=9223372036854775807
 |.error c=>e=aQ (bn #[ap ⟨#[]⟩,O M 0 0,J I (c:Int)])
def VZ (B:Nat) (ao:Option aX) (n cap:Nat) (l:List UInt8) (w:aB) (z:B<=w.heap.size) (hn:n<=9223372036854775807) (D:n<=cap) (R:cap<=9223372036854775807) (Z:Bs w B ao n l):aN aH 170 #[O ao n cap] w λe w'=>afM w' B e (kk l)/\aS w.heap.size w w':=by
 have j:=E Z;clear Z;go_enter func170,ntmps170;go_wp2_with fail;refine(H7 ao n cap l _ hn D R (j.A.bt z)).ah ?_;rintro e q⟨rfl,a⟩;cases d:e9 l with
 |error c=>
  have b:=E (show kk l= .error c by unfold kk;rw[d]);have V:((c:Int)!=0)=true:=bne_iff_ne.2 (ai (wN d));simp only[uZ];clear d;go_wp2;refine bF (v:=bn #[ap ⟨#[]⟩,O M 0 0,J I (c:Int)]) aq2 rfl ⟨?_,a⟩;rw[b.A];rfl
 |ok U=>
  obtain⟨m,r⟩:=U;obtain⟨hl,X⟩:=C3 d;simp only[uZ];have g:=E d;clear d;have Q:r.length+(bu m).length=n:=by have:=congrArg oz hl;rw[b2,j.A.len] at this;omega
  have u:Bs q B (cutAt ao cap (n-r.length) 1) r.length r:=by
   have:=(j.A.al (a.mono z)).lo (k:=n-r.length) (cap:=cap) an D;exact VR
  have H:r.length<=cap-(n-r.length):=an;have T:cap-(n-r.length)<=9223372036854775807:=an;have i:=E u;clear u hl Q;generalize cutAt ao cap (n-r.length) 1=A3 at i⊢;generalize cap-(n-r.length)=c3 at H T⊢;generalize o:r.length=k at*;have s:=E o;clear o;by_cases f:65536<m
  ·have b:=E (show kk l= .error 4 by unfold kk;rw[g.A];simp only;rw[ag f]);go_wp2;refine bF (v:=bn #[ap ⟨#[]⟩,O M 0 0,J I 4]) aq2 rfl ⟨?_,a⟩;rw[b.A];rfl
  have d1:decide (65536<m)=false:=aa f;by_cases h2:k<m
  ·have b:=E (show kk l= .error 3 by unfold kk;rw[g.A];simp only;rw[af f,ag (by rw[s.A];exact h2)]);go_wp2;refine bF (v:=bn #[ap ⟨#[]⟩,O M 0 0,J I 3]) aq2 rfl ⟨?_,a⟩;rw[b.A];rfl
  have W:decide (k<m)=false:=aa h2;have b:=E (show kk l= .ok (r.take m,r.drop m) by unfold kk;rw[g.A];simp only;rw[af f,af (by rw[s.A];exact h2)]);have s1:∀w,(iV 34 (O A3 k c3) M (ad (J I (m:Int))) M).run aH w= .ok (O A3 m c3) w:=O4 underlying34 1 AJ A3 k c3 m an;have L:∀w,(iV 34 (O A3 k c3) (ad (J I (m:Int))) M M).run aH w= .ok (O (cutAt A3 c3 m 1) (k-m) (c3-m)) w:=oC underlying34 1 AJ A3 k c3 m an;have st:∀p:ba q,(convert 34 9 (O A3 m c3)).run aH p.aL= .ok (ap ⟨(r.take m).toArray⟩) p.aL:=λp=>Ps p.aL c3 ((i.A.al (p.aC.mono (ai a.size))).hi (show m<=k by omega));have G:=E (i.A.lo (show m<=k by omega) H);generalize cutAt A3 c3 m 1=A5 at L G;generalize y:(⟨(r.take m).toArray⟩:ByteArray)=sx at st;have N:=E y;clear y;go_wp2_with fail;refine pk ar ar ?_;repeat (
   refine WQ.step (λKK F=>?_);go_simp;refine F _ ?_;clear F KK)
  refine WQ.bh ?_;rintro S⟨⟨K,t⟩,C⟩;obtain rfl:K=S:=C.symm;clear C;go_wp2;refine bF (v:=bn #[ap sx,O A5 (k-m) (c3-m),J I 0]) aq2 rfl ⟨?_,a.trans (t.mono a.size)⟩;rw[b.A];exact⟨A5,_,_,by rw[N.A],G.A.al (t.mono (ai a.size)),an,an⟩
def cc {a b:Bool} (h:a=b):aQ (aG a)=aQ (aG b):=by rw[h]
def vi (first:Bool) (c:Nat):Prop:=(97<=c/\c<=122)\/(65<=c/\c<=90)\/c=95\/(48<=c/\c<=57/\first=false)
def dp (s:ByteArray) (i:Nat):Nat:=if h:i<s.size then(s[i]'h).toNat else 0
def pq (s:ByteArray):Prop:=1<=s.size/\s.size<=64/\∀i,i<s.size->vi (decide (i=0)) (dp s i)
instance (f:Bool) (c:Nat):Decidable (vi f c):=by unfold vi;infer_instance
instance (s:ByteArray):Decidable (pq s):=by unfold pq;infer_instance
def db (s:ByteArray):Bool:=decide (pq s)
def nM {s:ByteArray}:db s=true↔pq s:=by unfold db;simp
def Lq {s:ByteArray}:db s=false↔¬pq s:=by unfold db;simp
def afQ {s:ByteArray} (h:∀j,j<k->vi (decide (j=0)) (dp s j)) (a:vi (decide (k=0)) (dp s k)):∀j,j<k+1->vi (decide (j=0)) (dp s j):=λj hj=>by
 rcases gy j k with h'|h'
 ·exact h j h'
 ·obtain rfl:j=k:=by omega
  exact a
def mu (s:ByteArray) (w:aB) (hs:s.size<=9223372036854775807):aN aH 16 #[ap s] w λe w'=>e=aQ (aG (db s))/\w'=w:=by
 by_cases h0:s.size<1
 ·have a:=E (show db s=false from Lq.2 λh=>by have:=h.1;omega);go_enter func16,ntmps16;go_wp2;go_ret;exact⟨cc a.A.symm,rfl⟩
 have d0:decide (s.size<1)=false:=aa h0;by_cases m:64<s.size
 ·have a:=E (show db s=false from Lq.2 λh=>by have:=h.2.1;omega);go_enter func16,ntmps16;go_wp2;go_ret;exact⟨cc a.A.symm,rfl⟩
 have d1:decide (64<s.size)=false:=aa m;go_enter func16,ntmps16;go_wp2;go_loopw [3] (λi wr=>∃k:Nat,k<=s.size/\i=J I k/\a6 (∀j,j<k->vi (decide (j=0)) (dp s j))/\wr=w) (λi _=>s.size-(intOf i).toNat);case atStart=>exact⟨0,an,rfl,E (λj hj=>ae hj (Nat.not_lt_zero _)),rfl⟩
 case round=>
  obtain⟨k,n,rfl,g,rfl⟩:=hrel;by_cases f:k<s.size
  ·obtain⟨c,d⟩:=aP (dp s k);have o:(s[k]'f).toNat=c:=by rw[<-d];unfold dp;rw[dif_pos f]
   have l:=E d;clear d;go_wp2;all_goals try simp only[Bool.not_eq_true',Bool.not_eq_false',decide_eq_true_eq,decide_eq_false_iff_not,beq_iff_eq,beq_eq_false_iff_ne,ne_eq] at*
   all_goals first
    |(have b:vi (decide (k=0)) c:=(by simp only[vi,decide_eq_false_iff_not];omega);refine⟨⟨k+1,an,by go_num,E (afQ g.A (by rw[l.A];exact b)),trivial⟩,aA⟩)
    |(have a:=E (show db s=false from Lq.2 λh=>by
     have h2:=h.2.2 k f;rw[l.A] at h2;simp only[vi,decide_eq_false_iff_not] at h2;omega);go_ret;exact⟨cc a.A.symm,rfl⟩)
    |(exfalso;omega)
  ·obtain rfl:k=s.size:=by omega
   have a:=E (show db s=true from nM.2 ⟨an,an,g.A⟩);go_wp2;go_ret;exact⟨cc a.A.symm,rfl⟩
abbrev aZ:=List (ByteArray×ByteArray)
def nm (L:aZ) (i:Nat):ByteArray:=(L.getD i (⟨#[]⟩,⟨#[]⟩)).1
def vl (L:aZ) (i:Nat):ByteArray:=(L.getD i (⟨#[]⟩,⟨#[]⟩)).2
structure fm (w:aB) (B:Nat) (ao:Option aX) (n:Nat) (L:aZ):Prop where
 len:L.length=n
 q:Q2 w B ao n (λi=>ap (nm L i)) (λi=>ap (vl L i))
 sz:∀i,i<n->(nm L i).size<=9223372036854775807/\(vl L i).size<=9223372036854775807
def fm.bh (w:aB) (B:Nat) (ao:Option aX):fm w B ao 0 []:=⟨rfl,Q2.zero _ _ _ _ _,λi hi=>ae hi (Nat.not_lt_zero _)⟩
section
variable {w w':aB} {B B' n:Nat} {ao:Option aX} {L:aZ}
def fm.al (h:fm w B ao n L) (Z:aS B w w'):fm w' B ao n L:=⟨h.len,h.q.al Z,h.sz⟩
def fm.bt (h:fm w B ao n L) (hB:B<=B'):fm w B' ao n L:=⟨h.len,h.q.bt hB,h.sz⟩
def fm.aL (h:fm w w.heap.size ao n L) (Z:aS w.heap.size w w'):fm w' w'.heap.size ao n L:=⟨h.len,h.q.aL Z,h.sz⟩
end
def tS (a b:ByteArray):Bool:=!(ii a.toList b.toList)
def V6 (a b:ByteArray) (t:bf) (W:aB):(binOp .geq t (ap a) (ap b)).run aH W= .ok (aG (tS a b)) W:=by simp[binOp,Op.stringOp,tS]
def yQ (k:Nat) (L:aZ):Prop:=∀i,i<k->pq (nm L i)/\(vl L i).size<=64/\(0<i->tS (nm L (i-1)) (nm L i)=false)
def yQ.succ {L:aZ} (h:yQ k L) (b:pq (nm L k)) (h2:(vl L k).size<=64) (a:0<k->tS (nm L (k-1)) (nm L k)=false):yQ (k+1) L:=λi hi=>by
 rcases gy i k with h'|h'
 ·exact h i h'
 ·obtain rfl:i=k:=by omega
  exact⟨b,h2,a⟩
def Df (L:aZ):Prop:=L.length<=16/\yQ L.length L
instance (L:aZ):Decidable (Df L):=by unfold Df yQ;infer_instance
def bH (L:aZ):Bool:=decide (Df L)
def yR {L:aZ}:bH L=true↔Df L:=by unfold bH;simp
def V7 {L:aZ}:bH L=false↔¬Df L:=by unfold bH;simp
theorem V8 (h:P:=by
 go_wp2_with fail;refine(mu s0 _ jr).ah ?_;rintro e w1⟨rfl,rfl⟩;rw[c1];go_wp2_with fail;refine pk ar ar ?_;repeat (
  refine WQ.step (λKK aJ=>?_);go_simp;refine aJ _ ?_;clear aJ KK)
 refine WQ.bh ?_;rintro iE⟨⟨wq,hq⟩,dA⟩;obtain rfl:wq=iE:=dA.symm;clear dA;go_wp2;go_roundw;case rel=>exact⟨k+1,an,by go_num,HN,bN.trans (hq.mono bN.size)⟩
 case measure=>exact aA
 ):P:=h
def Ih (ao:Option aX) (n cap:Nat) (L:aZ) (w:aB) (hn:n<=9223372036854775807) (Z:fm w w.heap.size ao n L):aN aH 19 #[O ao n cap] w λe w'=>e=aQ (aG (bH L))/\aS w.heap.size w w':=by
 have f:=E Z;clear Z;have d:=E f.A.len;by_cases t:n<=16
 ·go_enter func19,ntmps19;go_wp2;go_loopw [10] (λi wr=>∃k:Nat,k<=n/\i=J I k/\a6 (yQ k L)/\aS w.heap.size w wr) (λi _=>n-(intOf i).toNat);case atStart=>exact⟨0,an,rfl,E (λi hi=>ae hi an),bk _ _⟩
  case round=>
   obtain⟨k,D,rfl,l,hB⟩:=hrel;by_cases aK:k<n
   ·obtain⟨b,off,rfl,cw,hc⟩:=f.A.q an;obtain⟨s0,pu⟩:∃s,a6 (nm L k=s):=⟨_,E rfl⟩;obtain⟨s1,qc⟩:∃s,a6 (vl L k=s):=⟨_,E rfl⟩;have F:wr.cell? ⟨b,off+k*2,M⟩=ad (ap s0):=aqu;have K:wr.cell? ⟨b,off+k*2+1,M⟩=ad (ap s1):=aqt;have o:=E hc;clear hc;have m:=E (show bH L=true->pq s0/\s1.size<=64/\(0<k->tS (nm L (k-1)) s0=false) fromλh=>by rw[<-pu.A,<-qc.A];exact(yR.1 h).2 k (by rw[d.A];exact aK));have jr:s0.size<=9223372036854775807:=by rw[<-pu.A];exact(f.A.sz k aK).1
    have G:s1.size<=9223372036854775807:=by rw[<-qc.A];exact(f.A.sz k aK).2
    have bN:=hB.alloc hB.size (aD #[ap s0,ap s1] 78);cases c1:db s0
    ·have a:=E (show bH L=false by
      cases h:bH L
      ·rfl
      ·rw[nM.2 (m.A h).1] at c1;cases c1)
     go_wp2_with fail;refine(mu s0 _ jr).ah ?_;rintro e w1⟨rfl,rfl⟩;rw[c1];go_wp2;go_ret;exact⟨cc a.A.symm,bN⟩
    have u:=nM.1 c1;by_cases c2:64<s1.size
    ·have a:=E (show bH L=false by
      cases h:bH L
      ·rfl
      ·have:=(m.A h).2.1;omega)
     go_wp2_with fail;refine(mu s0 _ jr).ah ?_;rintro e w1⟨rfl,rfl⟩;rw[c1];go_wp2;go_ret;exact⟨cc a.A.symm,bN⟩
    have N:decide (64<s1.size)=false:=aa c2;by_cases c3:k=0
    ·have HN:=E (l.A.succ (by rw[pu.A];exact u) (by rw[qc.A];omega) (λh=>ae h an));have q:decide (0<k)=false:=aa an;clear c3;exact V8
    obtain⟨j,hj⟩:=aP (k-1);have q:0<k:=an;have y:j<n:=an;have H:I.wrap (j:Int)=(j:Int):=ay;have C:(k:Int)-1=(j:Int):=an;obtain⟨c,g⟩:∃s,a6 (nm L j=s):=⟨_,E rfl⟩;have z:wr.cell? ⟨b,off+j*2,M⟩=ad (ap c):=by rw[<-g.A];exact(hB.cell (p:=⟨b,off+j*2,M⟩) cw).trans (o.A j y).1
    have B:∀p:ba (wr.alloc (aD #[ap s0,ap s1] 78)),p.aL.cell? ⟨b,off+j*2,M⟩=ad (ap c):=λp=>p.cell (by have:=hB.size;simp;omega) ((World.cell?_alloc_lt wr _ ⟨b,off+j*2,M⟩ aqU).trans z);have A:∀p:ba (wr.alloc (aD #[ap s0,ap s1] 78)),p.aL.cell? (ab wr.heap.size 0 M)=ad (ap s0):=ba.cells (aI.new wr _ _) 0;have v:=E hj;clear hj;cases c4:tS c s0
    ·have x:∀W,(binOp .geq 9 (ap c) (ap s0)).run aH W= .ok (aG false) W:=λW=>by rw[V6,c4]
     have HN:=E (l.A.succ (by rw[pu.A];exact u) (by rw[qc.A];omega) (λh=>by rw[v.A,g.A,pu.A];exact c4));exact V8
    ·have x:∀W,(binOp .geq 9 (ap c) (ap s0)).run aH W= .ok (aG true) W:=λW=>by rw[V6,c4]
     have a:=E (show bH L=false by
      cases h:bH L
      ·rfl
      ·have r:=(m.A h).2.2 q;rw[v.A,g.A,c4] at r;cases r)
     go_wp2_with fail;refine(mu s0 _ jr).ah ?_;rintro e w1⟨rfl,rfl⟩;rw[c1];go_wp2_with fail;refine pk ar ar ?_;repeat (
      refine WQ.step (λKK aJ=>?_);go_simp;refine aJ _ ?_;clear aJ KK)
     refine WQ.bh ?_;rintro iE⟨⟨wq,hq⟩,dA⟩;obtain rfl:wq=iE:=dA.symm;clear dA;go_wp2;go_ret;exact⟨cc a.A.symm,bN.trans (hq.mono bN.size)⟩
   ·obtain rfl:k=n:=by omega
    have a:=E (show bH L=true from yR.2 ⟨by rw[d.A];exact t,by rw[d.A];exact l.A⟩);go_wp2;go_ret;exact⟨cc a.A.symm,hB⟩
 ·have a:=E (show bH L=false from V7.2 (λh=>t (by have:=h.1;rw[d.A] at this;exact this)));go_enter func19,ntmps19;go_wp2;go_ret;exact⟨cc a.A.symm,bk _ _⟩
variable {L:aZ}
def fU:ByteArray×ByteArray->ByteArray×ByteArray->Int:=wM fO fO
def Ij:fS fU:=CY.wM CY
def fu:aZ->aZ->Int:=mh fU
def lg:fS fu:=Ij.mh
noncomputable def dG (L:aZ):aZ:=if bH L=true then L else[]
noncomputable def cmpL (a b:aZ):Int:=fu (dG a) (dG b)
def lP (L:aZ) (k:ByteArray):Option ByteArray:=(L.find? λp=>decide (p.1=k)).map (·.2)
noncomputable def gD (L:aZ) (k:ByteArray):Option ByteArray:=lP (dG L) k
def tT (l:aZ):Prop:=l.length<=16/\(∀p∈l,p.2.size<=64)/\(∀p∈l,pq p.1)/\(l.map (·.1)).Nodup
instance (l:aZ):Decidable (tT l):=by unfold tT;infer_instance
noncomputable def qd (l:aZ):Option aZ:=if tT l then ad (oB fU l) else M
noncomputable def tU (L:aZ) (k:ByteArray):aZ:=(dG L).filter λp=>!decide (p.1=k)
noncomputable def vk (L:aZ) (k v:ByteArray):Option aZ:=qd (tU L k++[(k,v)])
noncomputable def so (a b:aZ):Option aZ:=qd ((dG a).filter (λp=>(lP (dG b) p.1).isNone)++dG b)
def afR {p q:ByteArray×ByteArray} (h:fO p.1 q.1<0):fU p q<0:=by
 unfold fU wM;rw[af an];exact h
def afS {p q:ByteArray×ByteArray} (h:fU p q<0) (hn:p.1≠q.1):fO p.1 q.1<0:=by
 unfold fU wM at h;split at h
 ·rename_i e;exact ae (CY.zero e) hn
 ·exact h
def yS (h:i<L.length):nm L i=(L[i]).1:=by unfold nm;rw[dd,cR h];rfl
def E7 (h:i<L.length):vl L i=(L[i]).2:=by unfold vl;rw[dd,cR h];rfl
def nN:bH L=true↔L.length<=16/\(∀p∈L,pq p.1/\p.2.size<=64)/\e8 (λp q:ByteArray×ByteArray=>fO p.1 q.1) L:=by
 rw[yR];unfold Df yQ;constructor
 ·rintro⟨a,h2⟩;refine⟨a,λp c=>?_,?_⟩
  ·obtain⟨i,hi,rfl⟩:=List.getElem_of_mem c;have:=h2 i hi;rw[yS hi,E7 hi] at this;exact⟨this.1,this.2.1⟩
  ·have b:e8 fO (L.map (·.1)):=e8.of_next CY (λi hi=>by
    simp at hi;have:=(h2 (i+1) hi).2.2 an;rw[show i+1-1=i from rfl,yS hi,yS an] at this;simp;rw[Vq];unfold tS at this;unfold b1;simpa using this)
   unfold e8 at b⊢;exact sf.1 b
 ·rintro⟨a,h2,d⟩;refine⟨a,λi hi=>?_⟩;rw[yS hi,E7 hi];refine⟨(h2 _ (dl hi)).1,(h2 _ (dl hi)).2,λh0=>?_⟩;rw[yS (show i-1<L.length by omega)];have:=yw.1 d (i-1) i an hi an;rw[Vq] at this;unfold b1 at this;unfold tS;rw[this];rfl
def Ik (L:aZ):bH (dG L)=true:=by
 unfold dG;split
 ·assumption
 ·exact nN.2 ⟨av,av,.nil⟩
def nO (h:bH L=true):dG L=L:=by unfold dG;rw[ag h]
def afT (L:aZ):dG (dG L)=dG L:=nO (Ik L)
def V9 {l m:aZ} (h:qd l=ad m):tT l/\m=oB fU l:=by
 unfold qd at h;split at h
 ·rename_i k;exact⟨k,by injection h with h;exact h.symm⟩
 ·cases h
def Wa {l:aZ} (h:(l.map (·.1)).Nodup):l.Nodup:=List.Pairwise.imp (λ{x y} (a:x.1≠y.1) (e:x=y)=>a wH) (sf.1 h)
def Wd {l m:aZ} (h:qd l=ad m):∀p,p∈m↔p∈l:=by
 intro p;rw[(V9 h).2,O3]
def arQ {l:aZ} (h:(l.map (·.1)).Nodup) {p q:ByteArray×ByteArray} (c:p∈l) (b:q∈l) (e:p.1=q.1):p=q:=by
 induction l with
 |nil=>cases c
 |cons a l d=>
  rw[sd,List.nodup_cons] at h;rcases ee.1 c with rfl|c
  ·rcases ee.1 b with rfl|b
   ·rfl
   ·exact ae (hM.2 ⟨q,b,e.symm⟩) h.1
  ·rcases ee.1 b with e'|b
   ·exact ae (show a.1∈l.map (·.1) from hM.2 ⟨p,c,e.trans (by rw[e'])⟩) h.1
   ·exact d h.2 c b
def Pt {l m:aZ} (h:qd l=ad m):bH m=true:=by
 obtain⟨⟨i,h2,g,h4⟩,e⟩:=V9 h;have b:=Wd h;rw[nN];refine⟨by rw[e,Vu];exact i,λp a=>⟨g p ((b p).1 a),h2 p ((b p).1 a)⟩,?_⟩;have c:e8 fU m:=e▸e8.oB Ij (Wa h4);have j:=c.nodup Ij;unfold e8 at c⊢;refine List.Pairwise.imp_of_mem ?_ (c.and j);intro p q a f d;exact afS d.1 (λe=>d.2 (arQ h4 ((b p).1 a) ((b q).1 f) e))
def afU (h:bH L=true):(L.map (·.1)).Nodup:=by
 have:=(nN.1 h).2.2;unfold e8 at this;exact sf.2 (this.imp λ{x y} a e=>by have a:fO x.1 y.1<0:=a;rw[show x.1=y.1 from e,CY.refl] at a;omega)
def afV {k v:ByteArray} (hn:(L.map (·.1)).Nodup):lP L k=ad v↔(k,v)∈L:=by
 unfold lP;constructor
 ·intro h;obtain⟨p,c,rfl⟩:=Option.map_eq_some_iff.1 h;have a:=List.find?_some c;have h2:=List.mem_of_find?_eq_some c;simp at a;rw[<-a];exact h2
 ·intro h;cases b:L.find? λp=>decide (p.1=k) with
  |none=>have:=List.find?_eq_none.1 b _ h;simp at this
  |some p=>
   have a:=List.find?_some b;have h2:=List.mem_of_find?_eq_some b;simp at a;have:=arQ hn h2 h a;rw[this];rfl
def afW {k v:ByteArray}:gD L k=ad v↔(k,v)∈dG L:=afV (afU (Ik L))
def afX {a b m:aZ} {k v:ByteArray} (h:so a b=ad m) (c:(k,v)∈dG b):gD m k=ad v:=by
 rw[afW,nO (Pt h),Wd h];exact kf.2 (.inr c)
def afY {a b m:aZ} (h:so a b=ad m):bH m=true:=Pt h
abbrev dC:=Int×Int
abbrev Key:=ByteArray×ByteArray
instance:Inhabited ByteArray:=⟨⟨#[]⟩⟩
structure cr where
 L:aZ
 S:List dC
 deriving Inhabited,DecidableEq
structure wU where
 n:ByteArray
 v:ByteArray
 neg:Bool
 deriving Inhabited,DecidableEq
structure iZ where
 n:ByteArray
 aU:List wU
 deriving Inhabited,DecidableEq
structure wV where
 s:iZ
 op:Int
 v:Int
 deriving Inhabited,DecidableEq
structure cv where
 n:ByteArray
 x:wV
 wait:Int
 keep:Int
 L:aZ
 deriving Inhabited,DecidableEq
structure cC where
 n:ByteArray
 br:Int
 off:Int
 R:List cv
 deriving Inhabited,DecidableEq
structure b8 where
 L:aZ
 h:im.Hd
 st:Int
 v:Int
structure cy where
 ao:List b8
 full:Int
structure eX where
 k:Key
 x:cy
structure cJ where
 L:aZ
 x:dC
 deriving Inhabited,DecidableEq
structure eQ where
 L:aZ
 t:Int
 deriving Inhabited,DecidableEq
structure Nte where
 L:aZ
 f:Bool
 t:Int
 k:Int
 x:Int
 deriving Inhabited,DecidableEq
structure fQ where
 N:List Nte
 d:Int
 l:Int
 deriving Inhabited,DecidableEq
structure Tok where
 k:Int
 p:Int
 s:ByteArray
 deriving Inhabited,DecidableEq
structure dX where
 c8:Int
 s:ByteArray
 L:aZ
 x:dC
 n:Int
 ok:Bool
 k:Key
 deriving Inhabited,DecidableEq
structure jE where
 e:Int
 n:Int
 ao:List b8
structure bx where
 F:List cC
 bo:Int
 St:List cr
 last:List Int
 tabs:List (List cy)
 bU:Int
 off:Int
 q:fQ
 told:List eQ
 A:List (List UInt8)
 dU:List UInt8×List UInt8
def fF:Kr (UInt8) where
 k:=1
 e:=5
 bI:=[]
 rel w B a vs:=vs=[J .u8 (a.toNat:Int)]
 pos:=by decide
 len:=by rintro w B a vs rfl;rfl
 one:=by
  rintro w B a vs rfl u hu
  simp only[ee,kg,or_false] at hu
  subst hu
  all_goals first|rfl
 keep:=λh _ _=>h
 al:=λh _=>h
 bt:=λh _=>h
def jF:Kr (Int) where
 k:=1
 e:=3
 bI:=[]
 rel w B a vs:=vs=[J I a]
 pos:=by decide
 len:=by rintro w B a vs rfl;rfl
 one:=by
  rintro w B a vs rfl u hu
  simp only[ee,kg,or_false] at hu
  subst hu
  all_goals first|rfl
 keep:=λh _ _=>h
 al:=λh _=>h
 bt:=λh _=>h
def bE:Kr (ByteArray×ByteArray) where
 k:=2
 e:=78
 bI:=[]
 rel w B a vs:=vs=[ap a.1,ap a.2]/\a.1.size<=9223372036854775807/\a.2.size<=9223372036854775807
 pos:=by decide
 len:=by rintro w B a vs⟨rfl,h0,h1⟩;rfl
 one:=by
  rintro w B a vs⟨rfl,h0,h1⟩ u hu
  simp only[ee,kg,or_false] at hu
  rcases hu with rfl|rfl
  all_goals first|rfl
 keep:=λh _ _=>h
 al:=λh _=>h
 bt:=λh _=>h
def ja:Kr (Int×Int) where
 k:=2
 e:=65
 bI:=[]
 rel w B a vs:=vs=[J I a.1,J I a.2]
 pos:=by decide
 len:=by rintro w B a vs rfl;rfl
 one:=by
  rintro w B a vs rfl u hu
  simp only[ee,kg,or_false] at hu
  rcases hu with rfl|rfl
  all_goals first|rfl
 keep:=λh _ _=>h
 al:=λh _=>h
 bt:=λh _=>h
def jG:Kr (wU) where
 k:=3
 e:=126
 bI:=[]
 rel w B a vs:=vs=[ap a.n,ap a.v,aG a.neg]/\a.n.size<=9223372036854775807/\a.v.size<=9223372036854775807
 pos:=by decide
 len:=by rintro w B a vs⟨rfl,h0,h1⟩;rfl
 one:=by
  rintro w B a vs⟨rfl,h0,h1⟩ u hu
  simp only[ee,kg,or_false] at hu
  rcases hu with rfl|rfl|rfl
  all_goals first|rfl
 keep:=λh _ _=>h
 al:=λh _=>h
 bt:=λh _=>h
def oD:Kr (ByteArray×ByteArray) where
 k:=2
 e:=67
 bI:=[]
 rel w B a vs:=vs=[ap a.1,ap a.2]/\a.1.size<=9223372036854775807/\a.2.size<=9223372036854775807
 pos:=by decide
 len:=by rintro w B a vs⟨rfl,h0,h1⟩;rfl
 one:=by
  rintro w B a vs⟨rfl,h0,h1⟩ u hu
  simp only[ee,kg,or_false] at hu
  rcases hu with rfl|rfl
  all_goals first|rfl
 keep:=λh _ _=>h
 al:=λh _=>h
 bt:=λh _=>h
def kM:Kr (Tok) where
 k:=3
 e:=176
 bI:=[]
 rel w B a vs:=vs=[J I a.k,J I a.p,ap a.s]/\a.s.size<=9223372036854775807
 pos:=by decide
 len:=by rintro w B a vs⟨rfl,h0⟩;rfl
 one:=by
  rintro w B a vs⟨rfl,h0⟩ u hu
  simp only[ee,kg,or_false] at hu
  rcases hu with rfl|rfl|rfl
  all_goals first|rfl
 keep:=λh _ _=>h
 al:=λh _=>h
 bt:=λh _=>h
def dO:Kr (cr) where
 k:=2
 e:=112
 bI:=[78,65]
 rel w B a vs:=∃v0 v1,vs=[v0,v1]/\Vs bE w B v0 a.L/\Vs ja w B v1 a.S
 pos:=by decide
 len:=by rintro w B a vs⟨v0,v1,rfl,h0,h1⟩;rfl
 one:=by
  rintro w B a vs⟨v0,v1,rfl,h0,h1⟩ u hu
  simp only[ee,kg,or_false] at hu
  rcases hu with rfl|rfl
  all_goals first|rfl|exact h0.j5|exact h1.j5
 keep:=by
  rintro w w' B S a vs⟨v0,v1,rfl,h0,h1⟩ hk ht
  exact⟨v0,v1,rfl,h0.keep hk (ht _ (by decide)) (λt h=>ht t ((by decide:∀t∈bE.bI,t∈[78,65]) t h)),h1.keep hk (ht _ (by decide)) (λt h=>ht t ((by decide:∀t∈ja.bI,t∈[78,65]) t h))⟩
 al:=by
  rintro w w' B a vs⟨v0,v1,rfl,h0,h1⟩ hk
  exact⟨v0,v1,rfl,h0.al hk,h1.al hk⟩
 bt:=by
  rintro w B B' a vs⟨v0,v1,rfl,h0,h1⟩ hB
  exact⟨v0,v1,rfl,h0.bt hB,h1.bt hB⟩
def lS:Kr (cv) where
 k:=8
 e:=51
 bI:=[126,78]
 rel w B a vs:=∃v2 v7,vs=[ap a.n,ap a.x.s.n,v2,J I a.x.op,J I a.x.v,J I a.wait,J I a.keep,v7]/\a.n.size<=9223372036854775807/\a.x.s.n.size<=9223372036854775807/\Vs jG w B v2 a.x.s.aU/\Vs bE w B v7 a.L
 pos:=by decide
 len:=by rintro w B a vs⟨v2,v7,rfl,h0,h1,h2,h3⟩;rfl
 one:=by
  rintro w B a vs⟨v2,v7,rfl,h0,h1,h2,h3⟩ u hu
  simp only[ee,kg,or_false] at hu
  rcases hu with rfl|rfl|rfl|rfl|rfl|rfl|rfl|rfl
  all_goals first|rfl|exact h2.j5|exact h3.j5
 keep:=by
  rintro w w' B S a vs⟨v2,v7,rfl,h0,h1,h2,h3⟩ hk ht
  exact⟨v2,v7,rfl,h0,h1,h2.keep hk (ht _ (by decide)) (λt h=>ht t ((by decide:∀t∈jG.bI,t∈[126,78]) t h)),h3.keep hk (ht _ (by decide)) (λt h=>ht t ((by decide:∀t∈bE.bI,t∈[126,78]) t h))⟩
 al:=by
  rintro w w' B a vs⟨v2,v7,rfl,h0,h1,h2,h3⟩ hk
  exact⟨v2,v7,rfl,h0,h1,h2.al hk,h3.al hk⟩
 bt:=by
  rintro w B B' a vs⟨v2,v7,rfl,h0,h1,h2,h3⟩ hB
  exact⟨v2,v7,rfl,h0,h1,h2.bt hB,h3.bt hB⟩
def fG:Kr (cC) where
 k:=4
 e:=43
 bI:=[51,126,78]
 rel w B a vs:=∃v3,vs=[ap a.n,J I a.br,J I a.off,v3]/\a.n.size<=9223372036854775807/\Vs lS w B v3 a.R
 pos:=by decide
 len:=by rintro w B a vs⟨v3,rfl,h0,h1⟩;rfl
 one:=by
  rintro w B a vs⟨v3,rfl,h0,h1⟩ u hu
  simp only[ee,kg,or_false] at hu
  rcases hu with rfl|rfl|rfl|rfl
  all_goals first|rfl|exact h1.j5
 keep:=by
  rintro w w' B S a vs⟨v3,rfl,h0,h1⟩ hk ht
  exact⟨v3,rfl,h0,h1.keep hk (ht _ (by decide)) (λt h=>ht t ((by decide:∀t∈lS.bI,t∈[51,126,78]) t h))⟩
 al:=by
  rintro w w' B a vs⟨v3,rfl,h0,h1⟩ hk
  exact⟨v3,rfl,h0,h1.al hk⟩
 bt:=by
  rintro w B B' a vs⟨v3,rfl,h0,h1⟩ hB
  exact⟨v3,rfl,h0,h1.bt hB⟩
def dV:Kr (b8) where
 k:=7
 e:=62
 bI:=[78]
 rel w B a vs:=∃v0,vs=[v0,aG a.h.on,J I a.h.dB,aG a.h.hit,J I a.h.eW,J I a.st,J I a.v]/\Vs bE w B v0 a.L
 pos:=by decide
 len:=by rintro w B a vs⟨v0,rfl,h0⟩;rfl
 one:=by
  rintro w B a vs⟨v0,rfl,h0⟩ u hu
  simp only[ee,kg,or_false] at hu
  rcases hu with rfl|rfl|rfl|rfl|rfl|rfl|rfl
  all_goals first|rfl|exact h0.j5
 keep:=by
  rintro w w' B S a vs⟨v0,rfl,h0⟩ hk ht
  exact⟨v0,rfl,h0.keep hk (ht _ (by decide)) (λt h=>ht t ((by decide:∀t∈bE.bI,t∈[78]) t h))⟩
 al:=by
  rintro w w' B a vs⟨v0,rfl,h0⟩ hk
  exact⟨v0,rfl,h0.al hk⟩
 bt:=by
  rintro w B B' a vs⟨v0,rfl,h0⟩ hB
  exact⟨v0,rfl,h0.bt hB⟩
def jb:Kr (cy) where
 k:=2
 e:=56
 bI:=[62,78]
 rel w B a vs:=∃v0,vs=[v0,J I a.full]/\Vs dV w B v0 a.ao
 pos:=by decide
 len:=by rintro w B a vs⟨v0,rfl,h0⟩;rfl
 one:=by
  rintro w B a vs⟨v0,rfl,h0⟩ u hu
  simp only[ee,kg,or_false] at hu
  rcases hu with rfl|rfl
  all_goals first|rfl|exact h0.j5
 keep:=by
  rintro w w' B S a vs⟨v0,rfl,h0⟩ hk ht
  exact⟨v0,rfl,h0.keep hk (ht _ (by decide)) (λt h=>ht t ((by decide:∀t∈dV.bI,t∈[62,78]) t h))⟩
 al:=by
  rintro w w' B a vs⟨v0,rfl,h0⟩ hk
  exact⟨v0,rfl,h0.al hk⟩
 bt:=by
  rintro w B B' a vs⟨v0,rfl,h0⟩ hB
  exact⟨v0,rfl,h0.bt hB⟩
def jH:Kr (eX) where
 k:=4
 e:=205
 bI:=[62,78]
 rel w B a vs:=∃v2,vs=[ap a.k.1,ap a.k.2,v2,J I a.x.full]/\a.k.1.size<=9223372036854775807/\a.k.2.size<=9223372036854775807/\Vs dV w B v2 a.x.ao
 pos:=by decide
 len:=by rintro w B a vs⟨v2,rfl,h0,h1,h2⟩;rfl
 one:=by
  rintro w B a vs⟨v2,rfl,h0,h1,h2⟩ u hu
  simp only[ee,kg,or_false] at hu
  rcases hu with rfl|rfl|rfl|rfl
  all_goals first|rfl|exact h2.j5
 keep:=by
  rintro w w' B S a vs⟨v2,rfl,h0,h1,h2⟩ hk ht
  exact⟨v2,rfl,h0,h1,h2.keep hk (ht _ (by decide)) (λt h=>ht t ((by decide:∀t∈dV.bI,t∈[62,78]) t h))⟩
 al:=by
  rintro w w' B a vs⟨v2,rfl,h0,h1,h2⟩ hk
  exact⟨v2,rfl,h0,h1,h2.al hk⟩
 bt:=by
  rintro w B B' a vs⟨v2,rfl,h0,h1,h2⟩ hB
  exact⟨v2,rfl,h0,h1,h2.bt hB⟩
def kN:Kr (cJ) where
 k:=3
 e:=286
 bI:=[78]
 rel w B a vs:=∃v0,vs=[v0,J I a.x.1,J I a.x.2]/\Vs bE w B v0 a.L
 pos:=by decide
 len:=by rintro w B a vs⟨v0,rfl,h0⟩;rfl
 one:=by
  rintro w B a vs⟨v0,rfl,h0⟩ u hu
  simp only[ee,kg,or_false] at hu
  rcases hu with rfl|rfl|rfl
  all_goals first|rfl|exact h0.j5
 keep:=by
  rintro w w' B S a vs⟨v0,rfl,h0⟩ hk ht
  exact⟨v0,rfl,h0.keep hk (ht _ (by decide)) (λt h=>ht t ((by decide:∀t∈bE.bI,t∈[78]) t h))⟩
 al:=by
  rintro w w' B a vs⟨v0,rfl,h0⟩ hk
  exact⟨v0,rfl,h0.al hk⟩
 bt:=by
  rintro w B B' a vs⟨v0,rfl,h0⟩ hB
  exact⟨v0,rfl,h0.bt hB⟩
def eR:Kr (eQ) where
 k:=2
 e:=119
 bI:=[78]
 rel w B a vs:=∃v0,vs=[v0,J I a.t]/\Vs bE w B v0 a.L
 pos:=by decide
 len:=by rintro w B a vs⟨v0,rfl,h0⟩;rfl
 one:=by
  rintro w B a vs⟨v0,rfl,h0⟩ u hu
  simp only[ee,kg,or_false] at hu
  rcases hu with rfl|rfl
  all_goals first|rfl|exact h0.j5
 keep:=by
  rintro w w' B S a vs⟨v0,rfl,h0⟩ hk ht
  exact⟨v0,rfl,h0.keep hk (ht _ (by decide)) (λt h=>ht t ((by decide:∀t∈bE.bI,t∈[78]) t h))⟩
 al:=by
  rintro w w' B a vs⟨v0,rfl,h0⟩ hk
  exact⟨v0,rfl,h0.al hk⟩
 bt:=by
  rintro w B B' a vs⟨v0,rfl,h0⟩ hB
  exact⟨v0,rfl,h0.bt hB⟩
def fV:Kr (Nte) where
 k:=5
 e:=117
 bI:=[78]
 rel w B a vs:=∃v0,vs=[v0,aG a.f,J I a.t,J I a.k,J I a.x]/\Vs bE w B v0 a.L
 pos:=by decide
 len:=by rintro w B a vs⟨v0,rfl,h0⟩;rfl
 one:=by
  rintro w B a vs⟨v0,rfl,h0⟩ u hu
  simp only[ee,kg,or_false] at hu
  rcases hu with rfl|rfl|rfl|rfl|rfl
  all_goals first|rfl|exact h0.j5
 keep:=by
  rintro w w' B S a vs⟨v0,rfl,h0⟩ hk ht
  exact⟨v0,rfl,h0.keep hk (ht _ (by decide)) (λt h=>ht t ((by decide:∀t∈bE.bI,t∈[78]) t h))⟩
 al:=by
  rintro w w' B a vs⟨v0,rfl,h0⟩ hk
  exact⟨v0,rfl,h0.al hk⟩
 bt:=by
  rintro w B B' a vs⟨v0,rfl,h0⟩ hB
  exact⟨v0,rfl,h0.bt hB⟩
def nc:Kr (dX) where
 k:=9
 e:=69
 bI:=[78]
 rel w B a vs:=∃v2,vs=[J I a.c8,ap a.s,v2,J I a.x.1,J I a.x.2,J I a.n,aG a.ok,ap a.k.1,ap a.k.2]/\a.s.size<=9223372036854775807/\Vs bE w B v2 a.L/\a.k.1.size<=9223372036854775807/\a.k.2.size<=9223372036854775807
 pos:=by decide
 len:=by rintro w B a vs⟨v2,rfl,h0,h1,h2,h3⟩;rfl
 one:=by
  rintro w B a vs⟨v2,rfl,h0,h1,h2,h3⟩ u hu
  simp only[ee,kg,or_false] at hu
  rcases hu with rfl|rfl|rfl|rfl|rfl|rfl|rfl|rfl|rfl
  all_goals first|rfl|exact h1.j5
 keep:=by
  rintro w w' B S a vs⟨v2,rfl,h0,h1,h2,h3⟩ hk ht
  exact⟨v2,rfl,h0,h1.keep hk (ht _ (by decide)) (λt h=>ht t ((by decide:∀t∈bE.bI,t∈[78]) t h)),h2,h3⟩
 al:=by
  rintro w w' B a vs⟨v2,rfl,h0,h1,h2,h3⟩ hk
  exact⟨v2,rfl,h0,h1.al hk,h2,h3⟩
 bt:=by
  rintro w B B' a vs⟨v2,rfl,h0,h1,h2,h3⟩ hB
  exact⟨v2,rfl,h0,h1.bt hB,h2,h3⟩
def Lx:Kr (jE) where
 k:=3
 e:=81
 bI:=[62,78]
 rel w B a vs:=∃v2,vs=[J I a.e,J I a.n,v2]/\Vs dV w B v2 a.ao
 pos:=by decide
 len:=by rintro w B a vs⟨v2,rfl,h0⟩;rfl
 one:=by
  rintro w B a vs⟨v2,rfl,h0⟩ u hu
  simp only[ee,kg,or_false] at hu
  rcases hu with rfl|rfl|rfl
  all_goals first|rfl|exact h0.j5
 keep:=by
  rintro w w' B S a vs⟨v2,rfl,h0⟩ hk ht
  exact⟨v2,rfl,h0.keep hk (ht _ (by decide)) (λt h=>ht t ((by decide:∀t∈dV.bI,t∈[62,78]) t h))⟩
 al:=by
  rintro w w' B a vs⟨v2,rfl,h0⟩ hk
  exact⟨v2,rfl,h0.al hk⟩
 bt:=by
  rintro w B B' a vs⟨v2,rfl,h0⟩ hB
  exact⟨v2,rfl,h0.bt hB⟩
def io:Kr (List cy) where
 k:=1
 e:=53
 bI:=[56,62,78]
 rel w B a vs:=∃v0,vs=[v0]/\Vs jb w B v0 a
 pos:=by decide
 len:=by rintro w B a vs⟨v0,rfl,h0⟩;rfl
 one:=by
  rintro w B a vs⟨v0,rfl,h0⟩ u hu
  simp only[ee,kg,or_false] at hu
  subst hu
  all_goals first|rfl|exact h0.j5
 keep:=by
  rintro w w' B S a vs⟨v0,rfl,h0⟩ hk ht
  exact⟨v0,rfl,h0.keep hk (ht _ (by decide)) (λt h=>ht t ((by decide:∀t∈jb.bI,t∈[56,62,78]) t h))⟩
 al:=by
  rintro w w' B a vs⟨v0,rfl,h0⟩ hk
  exact⟨v0,rfl,h0.al hk⟩
 bt:=by
  rintro w B B' a vs⟨v0,rfl,h0⟩ hB
  exact⟨v0,rfl,h0.bt hB⟩
def kl:Kr (List UInt8) where
 k:=1
 e:=34
 bI:=[5]
 rel w B a vs:=∃v0,vs=[v0]/\Vs fF w B v0 a
 pos:=by decide
 len:=by rintro w B a vs⟨v0,rfl,h0⟩;rfl
 one:=by
  rintro w B a vs⟨v0,rfl,h0⟩ u hu
  simp only[ee,kg,or_false] at hu
  subst hu
  all_goals first|rfl|exact h0.j5
 keep:=by
  rintro w w' B S a vs⟨v0,rfl,h0⟩ hk ht
  exact⟨v0,rfl,h0.keep hk (ht _ (by decide)) (λt h=>ht t ((by decide:∀t∈fF.bI,t∈[5]) t h))⟩
 al:=by
  rintro w w' B a vs⟨v0,rfl,h0⟩ hk
  exact⟨v0,rfl,h0.al hk⟩
 bt:=by
  rintro w B B' a vs⟨v0,rfl,h0⟩ hB
  exact⟨v0,rfl,h0.bt hB⟩
def sp:Kr (List (ByteArray×ByteArray)) where
 k:=1
 e:=49
 bI:=[78]
 rel w B a vs:=∃v0,vs=[v0]/\Vs bE w B v0 a
 pos:=by decide
 len:=by rintro w B a vs⟨v0,rfl,h0⟩;rfl
 one:=by
  rintro w B a vs⟨v0,rfl,h0⟩ u hu
  simp only[ee,kg,or_false] at hu
  subst hu
  all_goals first|rfl|exact h0.j5
 keep:=by
  rintro w w' B S a vs⟨v0,rfl,h0⟩ hk ht
  exact⟨v0,rfl,h0.keep hk (ht _ (by decide)) (λt h=>ht t ((by decide:∀t∈bE.bI,t∈[78]) t h))⟩
 al:=by
  rintro w w' B a vs⟨v0,rfl,h0⟩ hk
  exact⟨v0,rfl,h0.al hk⟩
 bt:=by
  rintro w B B' a vs⟨v0,rfl,h0⟩ hB
  exact⟨v0,rfl,h0.bt hB⟩
def KMn:Kr (bx) where
 k:=14
 e:=39
 bI:=[43,51,126,78,112,65,3,53,56,62,117,119,34,5]
 rel w B a vs:=∃v0 v2 v3 v4 v7 a1 a7 v12 aV,vs=[v0,J I a.bo,v2,v3,v4,J I a.bU,J I a.off,v7,J I a.q.d,J I a.q.l,a1,a7,v12,aV]/\Vs fG w B v0 a.F/\Vs dO w B v2 a.St/\Vs jF w B v3 a.last/\Vs io w B v4 a.tabs/\Vs fV w B v7 a.q.N/\Vs eR w B a1 a.told/\Vs kl w B a7 a.A/\Vs fF w B v12 a.dU.1/\Vs fF w B aV a.dU.2
 pos:=by decide
 len:=by rintro w B a vs⟨v0,v2,v3,v4,v7,a1,a7,v12,aV,rfl,h0,h1,h2,h3,h4,h5,h6,h7,h8⟩;rfl
 one:=by
  rintro w B a vs⟨v0,v2,v3,v4,v7,a1,a7,v12,aV,rfl,h0,h1,h2,h3,h4,h5,h6,h7,h8⟩ u hu
  simp only[ee,kg,or_false] at hu
  rcases hu with rfl|rfl|rfl|rfl|rfl|rfl|rfl|rfl|rfl|rfl|rfl|rfl|rfl|rfl
  all_goals first|rfl|exact h0.j5|exact h1.j5|exact h2.j5|exact h3.j5|exact h4.j5|exact h5.j5|exact h6.j5|exact h7.j5|exact h8.j5
 keep:=by
  rintro w w' B S a vs⟨v0,v2,v3,v4,v7,a1,a7,v12,aV,rfl,h0,h1,h2,h3,h4,h5,h6,h7,h8⟩ hk ht
  exact⟨v0,v2,v3,v4,v7,a1,a7,v12,aV,rfl,h0.keep hk (ht _ (by decide)) (λt h=>ht t ((by decide:∀t∈fG.bI,t∈[43,51,126,78,112,65,3,53,56,62,117,119,34,5]) t h)),h1.keep hk (ht _ (by decide)) (λt h=>ht t ((by decide:∀t∈dO.bI,t∈[43,51,126,78,112,65,3,53,56,62,117,119,34,5]) t h)),h2.keep hk (ht _ (by decide)) (λt h=>ht t ((by decide:∀t∈jF.bI,t∈[43,51,126,78,112,65,3,53,56,62,117,119,34,5]) t h)),h3.keep hk (ht _ (by decide)) (λt h=>ht t ((by decide:∀t∈io.bI,t∈[43,51,126,78,112,65,3,53,56,62,117,119,34,5]) t h)),h4.keep hk (ht _ (by decide)) (λt h=>ht t ((by decide:∀t∈fV.bI,t∈[43,51,126,78,112,65,3,53,56,62,117,119,34,5]) t h)),h5.keep hk (ht _ (by decide)) (λt h=>ht t ((by decide:∀t∈eR.bI,t∈[43,51,126,78,112,65,3,53,56,62,117,119,34,5]) t h)),h6.keep hk (ht _ (by decide)) (λt h=>ht t ((by decide:∀t∈kl.bI,t∈[43,51,126,78,112,65,3,53,56,62,117,119,34,5]) t h)),h7.keep hk (ht _ (by decide)) (λt h=>ht t ((by decide:∀t∈fF.bI,t∈[43,51,126,78,112,65,3,53,56,62,117,119,34,5]) t h)),h8.keep hk (ht _ (by decide)) (λt h=>ht t ((by decide:∀t∈fF.bI,t∈[43,51,126,78,112,65,3,53,56,62,117,119,34,5]) t h))⟩
 al:=by
  rintro w w' B a vs⟨v0,v2,v3,v4,v7,a1,a7,v12,aV,rfl,h0,h1,h2,h3,h4,h5,h6,h7,h8⟩ hk
  exact⟨v0,v2,v3,v4,v7,a1,a7,v12,aV,rfl,h0.al hk,h1.al hk,h2.al hk,h3.al hk,h4.al hk,h5.al hk,h6.al hk,h7.al hk,h8.al hk⟩
 bt:=by
  rintro w B B' a vs⟨v0,v2,v3,v4,v7,a1,a7,v12,aV,rfl,h0,h1,h2,h3,h4,h5,h6,h7,h8⟩ hB
  exact⟨v0,v2,v3,v4,v7,a1,a7,v12,aV,rfl,h0.bt hB,h1.bt hB,h2.bt hB,h3.bt hB,h4.bt hB,h5.bt hB,h6.bt hB,h7.bt hB,h8.bt hB⟩
variable {x:dC}
section
open im (dT)
def cI:Nat->(Nat->Bool)->Bool
 |0,_=>true
 |n+1,P=>cI n P&&P n
def mw {P:Nat->Bool}:∀{n:Nat},cI n P=true↔∀i,i<n->P i=true
 |0=>by simp[cI]
 |n+1=>by
  rw[cI,b9,mw]
  constructor
  ·rintro⟨a,h2⟩ i hi;rcases gy i n with h|h
   ·exact a i h
   ·obtain rfl:i=n:=by omega
    exact h2
  ·intro h;exact⟨λi hi=>h i an,h n an⟩
def tV {P:Nat->Bool} (a:k<n) (h:P k=false):cI n P=false:=by
 cases e:cI n P
 ·rfl
 ·rw[mw.1 e k a] at h;cases h
def wW {P:Nat->Bool} (h:cI k P=true) (a:P k=true):cI (k+1) P=true:=by rw[cI,h,a];rfl
def dr [Inhabited α] {l:List α} {i:Nat} (h:i<l.length):l.getD i default=l[i]:=by rw[dd,cR h];rfl
def j6 (v:Int):Bool:=decide (-9007199254740992<=v)&&decide (v<=9007199254740992)
def sT (s:List dC) (i:Nat):Int:=(s.getD i default).1
def sV (s:List dC) (i:Nat):Int:=(s.getD i default).2
def AP (s:List dC) (i:Nat):Bool:=dT (sT s i)&&j6 (sV s i)&&(i==0||decide (sT s (i-1)<sT s i))
def km (s:List dC):Bool:=decide (s.length<=64)&&cI s.length (AP s)
def pw (s:List dC):List dC:=if km s=true then s else[]
def yT (s:List dC) (x:dC):Option (List dC):=let s:=pw s;if(dT x.1&&j6 x.2)=false then M else if(decide (s≠[])&&decide (x.1<=sT s (s.length-1)))=true then M else ad ((if 64<=s.length then s.drop 1 else s)++[x])
def atR (t w:Int):List dC->Option dC
 |[]=>M
 |x::l=>if t<x.1 then atR t w l else if t-x.1<w then ad x else M
def AQ (s:List dC) (t w:Int):Option dC:=atR t w (pw s).reverse
def Px (s:List dC):km (pw s)=true:=by
 unfold pw;split
 ·assumption
 ·rfl
def Ip {s:List dC}:km s=true↔s.length<=64/\(∀x∈s,dT x.1=true/\j6 x.2=true)/\s.Pairwise λx y=>x.1<y.1:=by
 unfold km;rw[b9,decide_eq_true_eq,mw];refine and_congr_right λk=>?_;constructor
 ·intro h;have a:∀i (hi:i<s.length),dT (s[i]).1=true/\j6 (s[i]).2=true/\(0<i->(s[i-1]).1<(s[i]).1):=by
   intro i hi;have:=h i hi;unfold AP sT sV at this;rw[dr hi,dr (show i-1<s.length by omega)] at this;simp at this;exact⟨this.1.1,this.1.2,λh0=>this.2.resolve_left an⟩
  refine⟨λx f=>?_,?_⟩
  ·obtain⟨i,hi,rfl⟩:=List.getElem_of_mem f;exact⟨(a i hi).1,(a i hi).2.1⟩
  ·rw[yw];intro i j hi hj g;have:∀d,i+d<s.length->∀(c:i+d<s.length),0<d->(s[i]).1<(s[i+d]).1:=by
    intro d;induction d with
    |zero=>intro _ _ h;omega
    |succ d e=>
     intro h2 c _;have b:=(a (i+(d+1)) c).2.2 an;simp only[show i+(d+1)-1=i+d by omega] at b;rcases kJ d with rfl|h0
     ·exact b
     ·exact Int.lt_trans (e an an h0) b
   have:=this (j-i) an an an;simpa only[show i+(j-i)=j by omega] using this
 ·rintro⟨a,h2⟩ i hi;unfold AP sT sV;rw[dr hi,dr (show i-1<s.length by omega)];have:=a _ (dl hi);simp[this];rcases kJ i with h0|h0
  ·exact .inl h0
  ·exact .inr (yw.1 h2 (i-1) i an hi an)
def af4 {s m:List dC} (h:yT s x=ad m):km m=true/\m≠[]:=by
 unfold yT at h;have hs:=Ip.1 (Px s);generalize pw s=c at h hs;simp only at h;split at h
 ·cases h
 ·rename_i l;split at h
  ·cases h
  ·rename_i h2;injection h with h;subst h;refine⟨?_,av⟩;have k:∀y,y∈(if 64<=c.length then c.drop 1 else c)->y∈c:=by
    intro y a;split at a
    ·exact arC a
    ·exact a
   rw[Ip];refine⟨?_,?_,?_⟩
   ·rw[b2];split
    ·rw[oy];simp;omega
    ·simp;omega
   ·intro y a;rcases kf.1 a with a|a
    ·exact hs.2.1 y (k y a)
    ·rw[bD] at a;subst a;simpa using l
   ·rw[List.pairwise_append];refine⟨?_,av,?_⟩
    ·split
     ·exact hs.2.2.sublist (List.drop_sublist _ _)
     ·exact hs.2.2
    ·intro y a z f;rw[bD] at f;subst f;have d:=k y a;have j:c≠[]:=λe=>by rw[e] at d;cases d
     have b:sT c (c.length-1)<z.1:=by
      have:=h2;simp[j] at this;omega
     have g:c.length-1<c.length:=ai (List.length_pos_iff.2 j);unfold sT at b;rw[dr g] at b;obtain⟨i,hi,rfl⟩:=List.getElem_of_mem d;rcases gy i (c.length-1) with h4|h4
     ·exact Int.lt_trans (yw.1 hs.2.2 i (c.length-1) hi g h4) b
     ·have:i=c.length-1:=by omega
      subst this;exact b
def iH:ByteArray:=⟨#[95,95,110,97,109,101,95,95]⟩
noncomputable def qe (l:aZ):Bool:=(gD l iH).isSome&&bH l
def sL (st:List cr) (i:Nat):aZ:=(st.getD i default).L
def sS (st:List cr) (i:Nat):List dC:=(st.getD i default).S
noncomputable def AR (st:List cr) (i:Nat):Bool:=qe (sL st i)&&!decide (sS st i=[])&&km (sS st i)&&(i==0||decide (cmpL (sL st (i-1)) (sL st i)<0))
noncomputable def eY (st:List cr):Bool:=decide (st.length<=32)&&cI st.length (AR st)
noncomputable def gS (st:List cr):List cr:=if eY st=true then st else[]
def ahead (l:aZ) (st:List cr):Nat:=(st.takeWhile λy=>decide (fu y.L l<0)).length
def sq (l:aZ) (st:List cr):Bool:=decide (ahead l st<st.length)&&decide (sL st (ahead l st)=l)
noncomputable def ra (st:List cr) (l:aZ) (x:dC):Option (List cr):=let st:=gS st;if qe l=false then M else match yT (if sq l st=true then sS st (ahead l st) else[]) x with
 |none=>M
 |some s=>
  if sq l st=true then ad (st.set (ahead l st) ⟨sL st (ahead l st),s⟩)
  else if 32<=st.length then M
  else ad (st.take (ahead l st)++⟨l,s⟩::st.drop (ahead l st))
def Ir (st:List cr):Prop:=st.Pairwise λx y=>fu x.L y.L<0
def vm {st:List cr}:eY st=true↔st.length<=32/\(∀y∈st,qe y.L=true/\y.S≠[]/\km y.S=true)/\Ir st:=by
 unfold eY;rw[b9,decide_eq_true_eq,mw];refine and_congr_right λf=>?_;have b:∀y:cr,qe y.L=true->dG y.L=y.L:=λy h=>nO (by unfold qe at h;simp at h;exact h.2);constructor
 ·intro h;have a:∀i (hi:i<st.length),(qe (st[i]).L=true/\(st[i]).S≠[]/\km (st[i]).S=true)/\(0<i->cmpL (st[i-1]).L (st[i]).L<0):=by
   intro i hi;have:=h i hi;unfold AR sL sS at this;rw[dr hi,dr (show i-1<st.length by omega)] at this;simp at this;exact⟨⟨this.1.1.1,this.1.1.2,this.1.2⟩,λh0=>this.2.resolve_left an⟩
  refine⟨λx d=>?_,?_⟩
  ·obtain⟨i,hi,rfl⟩:=List.getElem_of_mem d;exact(a i hi).1
  ·have e:e8 fu (st.map (·.L)):=e8.of_next lg (λi hi=>by
    simp at hi;have:=(a (i+1) hi).2 an;simp only[Nat.add_sub_cancel] at this;unfold cmpL at this;rw[b _ (a i an).1.1,b _ (a (i+1) hi).1.1] at this;simpa using this)
   exact sf.1 e
 ·rintro⟨a,h2⟩ i hi;unfold AR sL sS;rw[dr hi,dr (show i-1<st.length by omega)];have c:=a _ (dl hi);simp[c];rcases kJ i with h0|h0
  ·exact .inl h0
  ·right;unfold cmpL;rw[b _ c.1,b _ (a _ (dl (show i-1<st.length by omega))).1];exact yw.1 h2 (i-1) i an hi an
def Fb (st:List cr):eY (gS st)=true:=by
 unfold gS;split
 ·assumption
 ·exact vm.2 ⟨av,av,.nil⟩
def arR {st:List cr} (h:eY st=true):gS st=st:=by unfold gS;rw[ag h]
def Pz {l:aZ} (h:qe l=true):bH l=true:=by unfold qe at h;simp at h;exact h.2
def PA (l:aZ) (st:List cr):ahead l st<=st.length:=(List.takeWhile_sublist _).length_le
def arS (l:aZ) (st:List cr):st.take (ahead l st)=st.takeWhile λy=>decide (fu y.L l<0):=by
 unfold ahead;exact(List.prefix_iff_eq_take.1 (List.takeWhile_prefix _)).symm
def Wo {l:aZ} {st:List cr}:∀y∈st.take (ahead l st),fu y.L l<0:=by
 rw[arS];intro y a;have:=List.all_takeWhile (p:=λy:cr=>decide (fu y.L l<0)) (l:=st);simpa using List.all_eq_true.1 this y a
def PB {l:aZ} {st:List cr} (h:ahead l st<st.length):¬fu (st[ahead l st]).L l<0:=by
 intro c;have b:st.drop (ahead l st)=st.dropWhile λy=>decide (fu y.L l<0):=by
  have:=List.takeWhile_append_dropWhile (p:=λy:cr=>decide (fu y.L l<0)) (l:=st);have h2:=List.take_append_drop (ahead l st) st;rw[arS] at h2;exact List.append_cancel_left (h2.trans this.symm)
 have a:=List.head?_dropWhile_not (λy:cr=>decide (fu y.L l<0)) st;rw[<-b,List.head?_drop,cR h] at a;simp[c] at a
def Wq {l:aZ} {st:List cr} (a:Ir st) {i:Nat} (hi:i<st.length) (h:ahead l st<i):0<fu (st[i]).L l:=by
 have b:=PB (l:=l) (st:=st) an;have h2:=yw.1 a (ahead l st) i an hi h;rcases lg.AG (st[ahead l st]'an).L l with k|k|k
 ·exact ae k b
 ·rw[k] at h2;exact lg.gt.2 h2
 ·exact lg.gt.2 (lg.trans k h2)
end
def mH (c:Nat):Bool:=c==32||c==9||c==13||c==10
def zn (c:Nat):Bool:=(decide (97<=c)&&decide (c<=122))||(decide (65<=c)&&decide (c<=90))||c==95
def l0 (c:Nat):Bool:=decide (48<=c)&&decide (c<=57)
def Plain (s:ByteArray):Prop:=∀k,k<s.size->dp s k≠34/\dp s k≠35
structure ib (P:Nat->Bool) (s:ByteArray) (i j:Nat):Prop where
 le:i<=j
 hi:j<=s.size
 on:∀k,i<=k->k<j->P (dp s k)=true
 off:j<s.size->P (dp s j)=false
def ib.q9 {P:Nat->Bool} {s:ByteArray} (h:ib P s i j) (h2:ib P s i k):j=k:=by
 rcases Nat.lt_trichotomy j k with e|e|e
 ·have a:=h2.on j h.le e;rw[h.off (ai h2.hi)] at a;cases a
 ·exact e
 ·have a:=h.on k h2.le e;rw[h2.off (ai h.hi)] at a;cases a
def ib.refl {P:Nat->Bool} {s:ByteArray} (h:i<=s.size) (ho:i<s.size->P (dp s i)=false):ib P s i i:=⟨aO _,h,λk a h2=>by omega,ho⟩
def uu (c:Nat):Bool:=c==123||c==125||c==40||c==41||c==44||c==58||c==59||c==61||c==60||c==62
def eqs (c:Nat):Bool:=c==61||c==33||c==60||c==62
def gJ (c:Nat) (bt:Bool) (d:Nat):Int×Nat:=if zn c=true then(1,0) else if l0 c=true then(2,0) else if(c==45&&bt&&l0 d)=true then(2,0) else if c=34 then(3,0) else if(eqs c&&bt&&(d==61))=true then(4,2) else if uu c=true then(4,1) else(0,0)
def gW (s:ByteArray) (i:Nat):Int×Nat:=gJ (dp s i) (decide (i+1<s.size)) (dp s (i+1))
def rH (pt:Bool) (c:Nat):Bool:=zn c||l0 c||(pt&&c==46)
def One (s:ByteArray) (i:Nat) (k:Int) (n:Nat):Prop:=(gW s i).1=k/\((k=4/\n=(gW s i).2)\/((k=1\/k=2)/\ib (rH (decide (k=2))) s (i+1) (i+n)))
inductive mI (s:ByteArray):Nat->List Tok->Prop|start {j:Nat}:ib mH s 0 j->mI s j []|step {i j n:Nat} {k:Int} {t:List Tok}:mI s i t->i<s.size->One s i k n->ib mH s (i+n) j->mI s j (t++[⟨k,i,s.extract i (i+n)⟩])
def zo (P:Nat->Bool) (s:ByteArray):Nat->Nat->Nat
 |0,i=>i
 |n+1,i=>if i<s.size then if P (dp s i)=true then zo P s n (i+1) else i else i
def MO (P:Nat->Bool) (s:ByteArray):∀(n i:Nat),i<=s.size->s.size<=i+n->ib P s i (zo P s n i)
 |0,i,h1,h2=>ib.refl h1 (λh=>by omega)
 |n+1,i,h1,h2=>by
  unfold zo
  by_cases hi:i<s.size
  ·rw[ag hi];by_cases a:P (dp s i)=true
   ·rw[ag a];have:=MO P s n (i+1) hi an;refine⟨ai this.le,this.hi,λk b h4=>?_,this.off⟩;by_cases e:k=i
    ·rw[e];exact a
    ·exact this.on k an h4
   ·rw[af a];exact ib.refl h1 (λ_=>by simpa using a)
  ·rw[af hi];exact ib.refl h1 (λh=>ae h hi)
def FW (s:ByteArray) (st:Nat×List Tok):Option (Nat×List Tok):=if st.1<s.size then let b:=gW s st.1;if b.1=0 then M else if b.1=3 then M else let n:=if b.1=4 then b.2 else zo (rH (decide (b.1=2))) s s.size (st.1+1)-st.1;ad (zo mH s s.size (st.1+n),st.2++[⟨b.1,st.1,s.extract st.1 (st.1+n)⟩]) else M
def gK (s:ByteArray):Nat->Option (Nat×List Tok)
 |0=>ad (zo mH s s.size 0,[])
 |n+1=>(gK s n).bind (FW s)
def One.le {s:ByteArray} {k:Int} (hi:i<s.size) (h:One s i k n):i+n<=s.size/\1<=n:=by
 obtain⟨c,h2|h2⟩:=h
 ·rw[h2.2];have a:=c.trans h2.1;unfold gW gJ at a⊢;split at a
  ·simp at a
  split at a
  ·simp at a
  split at a
  ·simp at a
  split at a
  ·simp at a
  rename_i e j g f;rw[af e,af j,af g,af f];split at a
  ·rename_i b;simp at b;simp[b];omega
  ·rename_i b;split at a
   ·rename_i d;simp[b,d];omega
   ·simp at a
 ·exact⟨h2.2.hi,ai h2.2.le⟩
def ZH {s:ByteArray} {t:List Tok} (h:mI s i t):∃n,gK s n=ad (i,t):=by
 induction h with
 |start h=>exact⟨0,by rw[gK,h.q9 (MO mH s s.size 0 (bV _) an)]⟩
 |@step i j n k t h hi ho hu ih=>
  obtain⟨m,b⟩:=ih;refine⟨m+1,?_⟩;have d:=ho.le hi;obtain⟨c,h2⟩:=ho;rw[gK,b,Option.bind_some,FW,ag hi];simp only[c];have e:¬k=0:=by rcases h2 with h2|h2<;>omega
  have a:¬k=3:=by rcases h2 with h2|h2<;>omega
  rw[af e,af a];have hn:(if k=4 then(gW s i).2 else zo (rH (decide (k=2))) s s.size (i+1)-i)=n:=by
   rcases h2 with h2|h2
   ·rw[ag h2.1,h2.2]
   ·rw[af an,<-h2.2.q9 (MO _ s s.size (i+1) an an)];omega
  rw[hn,hu.q9 (MO mH s s.size (i+n) d.1 an)]
def ai0 {s:ByteArray} {m:Nat} {t:List Tok} (h:gK s m=ad (i,t)) (hi:s.size<=i):∀{n:Nat} {j:Nat} {u:List Tok},gK s n=ad (j,u)->s.size<=j->n=m:=by
 have stop:∀{a:Nat} {x:Nat} {v:List Tok},gK s a=ad (x,v)->s.size<=x->∀d,gK s (a+d+1)=M:=by
  intro a x v f c d;induction d with
  |zero=>rw[Nat.add_zero,gK,f,Option.bind_some,FW,af (am c)]
  |succ d b=>rw[show a+(d+1)+1=(a+d+1)+1 from rfl,gK,b];rfl
 intro n j u hn hj;rcases Nat.lt_trichotomy n m with e|e|e
 ·have:=stop hn hj (m-n-1);rw[show n+(m-n-1)+1=m by omega,h] at this;cases this
 ·exact e
 ·have:=stop h hi (n-m-1);rw[show m+(n-m-1)+1=n by omega,hn] at this;cases this
def ai1 {s:ByteArray} {m:Nat} {t u:List Tok} (h:gK s m=ad (i,t)) (hi:s.size<=i) (h2:mI s j u) (hj:s.size<=j):j=i/\u=t:=by
 obtain⟨n,hn⟩:=ZH h2;obtain rfl:=ai0 h hi hn hj;rw[h] at hn;cases hn;exact⟨rfl,rfl⟩
variable {gen:Int}
section
open arA
def rz (gen:Int) (p:List UInt8):Prop:=(0<=gen/\gen<=9007199254740992)/\(bu gen.toNat++p).length<=65536
open Classical in
noncomputable def ky (gen:Int) (p:List UInt8):List UInt8:=if rz gen p then kK (bu gen.toNat++p) else[]
def DW {p:List UInt8} (h:rz gen p):ky gen p=kK (bu gen.toNat++p):=ag h
def MC {p:List UInt8} (h:¬rz gen p):ky gen p=[]:=af h
def aif (p:List UInt8) (h:p.length<=65536):C8 [] p=kK p:=by unfold C8;rw[ag h];rfl
def Rf (gen:Int) (ao:Option aX) (n cap:Nat) (p:List UInt8) (w:aB) (hn:n<=70368744177664) (Z:Bs w w.heap.size ao n p):aN aH 86 #[J I gen,O ao n cap] w λe w'=>(∃v,e=aQ v/\bQ w' w.heap.size 5 v (ky gen p))/\aS w.heap.size w w':=by
 have z:=E Z;clear Z;by_cases h0:gen<0
 ·have a:=E (MC (gen:=gen) (p:=p) (λh=>by have:=h.1.1;omega));go_enter func86,ntmps86;go_wp2;go_ret;exact⟨⟨_,rfl,by rw[a.A];exact bQ.bh _ _ _⟩,bk _ _⟩
 by_cases B:9007199254740992<gen
 ·have a:=E (MC (gen:=gen) (p:=p) (λh=>by have:=h.1.2;omega));go_enter func86,ntmps86;go_wp2;go_ret;exact⟨⟨_,rfl,by rw[a.A];exact bQ.bh _ _ _⟩,bk _ _⟩
 have d0:decide (gen<0)=false:=aa h0;have d1:decide (9007199254740992<gen)=false:=aa B;have F:=E (show mm [] gen=bu gen.toNat from by unfold mm;rw[ag ⟨an,an⟩];rfl);have u:=E (ph 8 gen.toNat (pj _ an));go_enter func86,ntmps86;go_wp2_with fail;refine(yF M 0 0 [] gen _ an (Bs.bh _ _ _)).ah ?_;rintro e t⟨⟨v,rfl,m⟩,f⟩;rw[F.A] at m;have s:=E m;clear m;have l:=E (z.A.aL f);clear d0 d1;go_wp2_with ((refine yD au (.tmp 13) (.tmp 14) 34 au w.heap.size 5 underlying34 pm v (bu gen.toNat) au s.A t.heap.size ao n cap p au l.A (ai u.A) f.size ?_));intro v2 H i D r;have c:=f.grown D f.size (λg e=>s.A.nI g e);obtain⟨A2,j,c2,rfl,d,L,y⟩:=i.bs;rw[VO] at y;have b:=d.len;by_cases h6:j<=65536
 ·have a:=E (DW (gen:=gen) (p:=p) ⟨⟨an,an⟩,by rw[b];exact h6⟩);have k:=E d;have o:=E b;clear i d b r;go_wp2_with fail;refine(Ph M 0 0 [] A2 j c2 (bu gen.toNat++p) _ an an (Bs.bh _ _ _) k.A).ah ?_;rintro e G⟨⟨v3,rfl,q⟩,C⟩;rw[aif _ (by rw[o.A];exact h6)] at q;go_wp2;go_ret;exact⟨⟨_,rfl,by rw[a.A];exact bQ.less q c.size⟩,c.trans (C.mono c.size)⟩
 ·have a:=E (MC (gen:=gen) (p:=p) (λh=>by have:=h.2;rw[b] at this;exact h6 this));have K:65536<j:=an;clear i d b r;go_wp2;go_ret;exact⟨⟨_,rfl,by rw[a.A];exact bQ.bh _ _ _⟩,c⟩
def iu (l:List UInt8):Option (Nat×List UInt8):=match kL l with
 |.ok (q,[])=>match e9 q with
  |.ok (g,p)=>if g<=9007199254740992 then ad (g,p) else M
  |.error _=>M
 |_=>M
def Rh (w':aB) (B:Nat) (e:Ending):Option (Nat×List UInt8)->Prop
 |some (g,p)=>∃ao n c,e=aQ (bn #[J I (g:Int),O ao n c,aG true])/\Bs w' B ao n p/\n<=c/\c<=9223372036854775807
 |none=>e=aQ (bn #[J I 0,O M 0 0,aG false])
def aih {l:List UInt8} {c:Nat} (h:kL l= .error c):c≠0:=by
 unfold kL at h;cases hg:e9 l with
 |error c'=>rw[hg] at h;cases h;exact wN hg
 |ok a=>
  obtain⟨m,q⟩:=a;rw[hg] at h;simp only at h;split at h
  ·cases h;omega
  ·split at h
   ·cases h;omega
   ·split at h
    ·cases h
    ·cases h;omega
theorem Y0 (h:P:=by
 go_wp2;refine bF (v:=bn #[J I 0,O M 0 0,aG false]) arx rfl ⟨?_,?_⟩
 ·rw[hE.A];rfl
 ·exact aW
 ):P:=h
theorem Y1 (h:P:=by
 go_wp2;refine bF (v:=bn #[J I 0,O M 0 0,aG false]) arx rfl ⟨?_,?_⟩
 ·rw[hE.A];rfl
 ·exact bN
 ):P:=h
def Ri (ao:Option aX) (n cap:Nat) (l:List UInt8) (w:aB) (hn:n<=9223372036854775807) (X:n<=cap) (S:cap<=9223372036854775807) (Z:Bs w w.heap.size ao n l):aN aH 125 #[O ao n cap] w λe w'=>Rh w' w.heap.size e (iu l)/\aS w.heap.size w w':=by
 have F:=E Z;clear Z;go_enter func125,ntmps125;go_wp2_with fail;refine(afx ao n cap l _ hn X S F.A).ah ?_;rintro e Y⟨m,aW⟩;cases hg:kL l with
 |error c=>
  have hE:=E (show iu l=M by unfold iu;rw[hg]);rw[hg] at m;obtain rfl:=m;have U:((c:Int)!=0)=true:=bne_iff_ne.2 (ai (aih hg));clear hg;exact Y0
 |ok Q=>
  obtain⟨q,r⟩:=Q;rw[hg] at m;obtain⟨A1,n1,c1,A2,D,c2,rfl,j,i,G,h2,h3,h4⟩:=m;have u:=E (show n1<=n by
   obtain⟨e,-⟩:=afB hg;have:=congrArg oz e;rw[F.A.len] at this;rw[<-j.len];unfold kK at this;simp at this;omega)
  by_cases f:D=0
  ·have N:r=[]:=sb (by rw[i.len,f]);subst N;have o:=E j;have s:=E hg;subst f;clear j i hg;go_wp2_with fail;refine(H7 A1 n1 c1 q _ (ai u.A) G h2 (o.A.bt aW.size)).ah ?_;rintro e L⟨rfl,H⟩;have bN:=aW.trans (H.mono aW.size);cases b:e9 q with
   |error c=>
    have hE:=E (show iu l=M by unfold iu;rw[s.A];simp only[b]);have U:((c:Int)!=0)=true:=bne_iff_ne.2 (ai (wN b));simp only[uZ];clear b;exact Y1
   |ok R=>
    obtain⟨g,p⟩:=R;obtain⟨d,-⟩:=C3 b;simp only[uZ];have C:n1-p.length+p.length=n1:=by have:=congrArg oz d;rw[b2,o.A.len] at this;omega
    have B:Bs L w.heap.size (cutAt A1 c1 (n1-p.length) 1) p.length p:=by
     have:=((o.A.al (H.mono aW.size))).lo (k:=n1-p.length) (cap:=c1) an G;have V:q.drop (n1-p.length)=p:=by
      have:=congrArg oz d;rw[b2,o.A.len] at this;rw[show n1-p.length=(bu g).length by omega,d,List.drop_left]
     rw[V,show n1-(n1-p.length)=p.length by omega] at this;exact this
    have z:=E B;clear B;have t:p.length<=c1-(n1-p.length):=an;have y:c1-(n1-p.length)<=9223372036854775807:=an;by_cases K:g<=9007199254740992
    ·have hE:=E (show iu l=ad (g,p) by unfold iu;rw[s.A];simp only[b];rw[ag K]);have W:decide (9007199254740992<g)=false:=aa an;clear b d C;generalize cutAt A1 c1 (n1-p.length) 1=A9 at z⊢;generalize c1-(n1-p.length)=c9 at t y⊢;generalize T:p.length=k at*;clear T;go_wp2;refine bF (v:=bn #[J I (g:Int),O A9 k c9,aG true]) arx rfl ⟨?_,?_⟩
     ·rw[hE.A];exact⟨A9,k,c9,rfl,z.A,t,y⟩
     ·exact bN
    ·have hE:=E (show iu l=M by unfold iu;rw[s.A];simp only[b];rw[af K]);have W:9007199254740992<g:=an;clear b d C;generalize cutAt A1 c1 (n1-p.length) 1=A9 at z⊢;generalize c1-(n1-p.length)=c9 at t y⊢;exact Y1
  ·have hE:=E (show iu l=M by
    unfold iu;rw[hg];cases r with
    |nil=>exact ae i.len.symm f
    |cons a r=>rfl)
   have eg:0<D:=an;clear j i hg f;exact Y0
end
section
open arA
theorem Y2 (h:P:=by
 have:=(aI.new (w.alloc (aD #[O A0 n0 c0,O A1 n1 c1] 37)) 37 #[O M 0 0,O M 0 0]).al aW av;rwa[eO] at this;):P:=h
def aii (A0 A1:Option aX) (n0 c0 n1 c1:Nat) (gen n:Int) (ao:Option aX) (m cap:Nat) (p:List UInt8) (w:aB) (hn:m<=70368744177664) (Z:Bs w w.heap.size ao m p) (ho:ky gen p=[]):aN aH 85 #[aY #[O A0 n0 c0,O A1 n1 c1],J I gen,O ao m cap,J I n] w λe w'=>e=aQ (aY #[O A0 n0 c0,O A1 n1 c1])/\aS w.heap.size w w':=by
 have f:=E Z;clear Z;go_enter func85,ntmps85;go_wp2_with fail;refine(Rf gen ao m cap p _ hn (by
  have j:=f.A.sl.alloc (aO _) (aD #[O A0 n0 c0,O A1 n1 c1] 37);exact⟨f.A.len,(j.alloc av _).bt aw⟩)).ah ?_
 rintro e a⟨⟨v,rfl,c⟩,aW⟩;rw[ho] at c;have k:aS w.heap.size w a:=(((bk _ _).alloc (aO _) _).alloc av _).trans (aW.mono aw);have d:aI a w.heap.size 37 #[O A0 n0 c0,O A1 n1 c1]:=((aI.new w _ _).alloc _).al aW aw;have b:aI a (w.heap.size+1) 37 #[O M 0 0,O M 0 0]:=by
  exact Y2
 have k0:a.cell? (ab w.heap.size 0 M)=ad (O A0 n0 c0):=d.cell 0;have o:a.cell? (ab w.heap.size 1 M)=ad (O A1 n1 c1):=d.cell 1;have l:a.cell? ⟨w.heap.size+1,0,M⟩=ad (O M 0 0):=b.cell 0;have q1:a.cell? ⟨w.heap.size+1,1,M⟩=ad (O M 0 0):=b.cell 1;have q:=b.frozen;obtain⟨A2,i,c2,rfl,g,-,-⟩:=c.bs;obtain rfl:i=0:=g.len.symm;have e0:(a.setCell ⟨w.heap.size+1,0,M⟩ (O A0 n0 c0)).cell? ⟨w.heap.size+1,0,M⟩=ad (O A0 n0 c0):=(b.put 0 (O A0 n0 c0)).cell 0;have e1:((a.setCell ⟨w.heap.size+1,0,M⟩ (O A0 n0 c0)).setCell ⟨w.heap.size+1,1,M⟩ (O A1 n1 c1)).cell? ⟨w.heap.size+1,1,M⟩=ad (O A1 n1 c1):=((b.put 0 (O A0 n0 c0)).put 1 (O A1 n1 c1)).cell 1;clear c g aW d b;go_wp2;refine bF (v:=aY #[O A0 n0 c0,O A1 n1 c1]) arh rfl ⟨rfl,?_⟩;exact(k.setCell av _).setCell av _
def aij {P:cp} (z:o.guard=M) (d s:Operand) (n sT:bf) (ho:o.op= .call {callee:=.builtin .copy,args:=#[d,s],argTypes:=#[n,sT]}) (c:bf) (u:P.underlying n=ad (.slice c)) (C:(P.info? c).map (·.size)=ad 1) (g k b off f q:Nat) (m:a.eval d=O (ad (ab g 0 M)) k k) (hs:a.eval s=O (ad (ab b off M)) f q) (cur:Array aE) (t:bf) (hg:aI w g t cur) (p:cur.size=k) (B:Nat) (l:List UInt8) (Z:Bs w B (ad (ab b off M)) f l) (x:k<=f) (h:∀W,aI W g t ((l.take k).map ca).toArray->w.grownBy W (ad g)->wpList P ops Q rest (a.put o.dst (goInt k)) W):wpList P ops Q (o::rest) a w:=by
 have i:((l.take k).map ca).length=k:=by simp[Z.len];omega
 refine wpList_copy_own z d s n sT ho c u C g 0 k k (ab b off M) f q m hs cur t hg ((l.take k).map ca) ?_ ?_ ?_ (O7 _) ?_
 ·rw[i];simp[Nat.min_def];omega
 ·intro j v hv;have r:((ab b off M):aX).add j=⟨b,off+j,M⟩:=aqj;rw[r];exact Pb (Z.hi x) j v hv
 ·rw[i,p];omega
 ·have y:(cur.toList.take 0++((l.take k).map ca++cur.toList.drop (0+((l.take k).map ca).length))).toArray=((l.take k).map ca).toArray:=by
   have m:cur.toList.drop (0+((l.take k).map ca).length)=[]:=List.drop_of_length_le (by rw[i];simp[p]);rw[m];simp
  rw[y,i];refine h _ (aI.setRow hg _) ⟨rfl,rfl,rfl,arj,λj hj A=>?_⟩;simp only[World.setRow,yu];rw[af (λe=>A wH)]
def aik {G:Nat} {l:List UInt8} (h:aI W G t (l.map ca).toArray) (b:l.length=k):Bs W W.heap.size (ad (ab G 0 M)) k l:=by
 refine⟨b,λ_=>⟨G,0,rfl,h.lt,λi hi=>?_⟩⟩;have a:i<(l.map ca).length:=by rw[p6,b];exact hi
 rw[ig,h.cell];have e:=VC _ i _ (cR a);rw[<-e];simpa using cR a
def ail (z:Int) (l:Nat):∃(b:Int) (k:Nat),(∀(a:Array bf) (t:bf) (W:aB),(Builtin.max_ a t #[J I z,J I 0]).run aH W= .ok (J I b) W)/\(∀(a:Array bf) (t:bf) (W:aB),(Builtin.min_ a t #[J I b,J I (l:Int)]).run aH W= .ok (J I (k:Int)) W)/\k=min z.toNat l:=by
 refine⟨max z 0,min z.toNat l,λa t W=>?_,λa t W=>?_,rfl⟩
 ·simp[Builtin.max_,Builtin.max2];split<;>omega
 ·simp[Builtin.min_,Builtin.min2];split<;>omega
theorem Y3 (h:P:=by
 have e:min n.toNat (ky (gen:Int) p).length=k:=by rw[eo.A,wQ];exact HK.A.symm
 rw[e,eo.A];exact aik (t:=5) (by rw[List.map_take];exact Y4.A) cx.A;):P:=h
def aim (A0 A1:Option aX) (n0 c0 n1 c1:Nat) (gen:Nat) (n:Int) (ao:Option aX) (m cap:Nat) (p:List UInt8) (w:aB) (hn:m<=70368744177664) (Z:Bs w w.heap.size ao m p) (ho:rz gen p):aN aH 85 #[aY #[O A0 n0 c0,O A1 n1 c1],J I (gen:Int),O ao m cap,J I n] w λe w'=>(∃G k,w.heap.size<=G/\k=min n.toNat (ky gen p).length/\Bs w' w'.heap.size (ad (ab G 0 M)) k ((ky gen p).take k)/\e=aQ (.agg (if gen % 2=0 then#[O (ad (ab G 0 M)) k k,O A1 n1 c1] else#[O A0 n0 c0,O (ad (ab G 0 M)) k k])))/\aS w.heap.size w w':=by
 have D:=E Z;clear Z;have l:=E (show 0<(ky gen p).length/\(ky gen p).length<=70000 from by
  rw[DW ho];have f:=ho.2;have h2:=Lm f;have h3:=E1 (bu (gen:Int).toNat++p).length;unfold kK;simp only[b2,Lo] at*;omega)
 go_enter func85,ntmps85;go_wp2_with fail;refine(Rf gen ao m cap p _ hn (by
  have f:=D.A.sl.alloc (aO _) (aD #[O A0 n0 c0,O A1 n1 c1] 37);exact⟨D.A.len,(f.alloc av _).bt aw⟩)).ah ?_
 rintro e a⟨⟨v,rfl,o⟩,aW⟩;generalize L:ky gen p=R at o l;have eo:=E L;clear L;have c:aS w.heap.size w a:=(((bk _ _).alloc (aO _) _).alloc av _).trans (aW.mono aw);have cG:w.heap.size+1<a.heap.size:=aqz;have z:aI a w.heap.size 37 #[O A0 n0 c0,O A1 n1 c1]:=((aI.new w _ _).alloc _).al aW aw;have S:aI a (w.heap.size+1) 37 #[O M 0 0,O M 0 0]:=by
  exact Y2
 rcases o.form with⟨-,h⟩|⟨g,oT,rfl,-,ck,lO,AK⟩
 ·exfalso;have:=l.A.1;rw[h] at this;simp at this
 have K:Bs a a.heap.size (ad (ab g 0 M)) R.length R:=by
  obtain⟨A',n',c',e,f,-,-⟩:=o.bs;cases e;exact f
 generalize wQ:R.length=d at*;obtain⟨m1,k,QN,W,H⟩:=ail n d;have C:=run_make_row' (P:=aH) 34 5 (J .u8 0) 1 underlying34 pm rfl I I k (ai l.A) (ai l.A);have aJ:((d:Int)==0)=false:=beq_false_of_ne (ai l.A);have U:=E K;have F:=E (show k<=d by omega);have HK:=E H;clear H;clear o K aW;generalize T:madeCells #[J .u8 0] k=FN at C;have Q:FN.size=k:=by rw[<-T];simp[size_madeCells]
 have B:=E Q;clear Q T;have k0:(a.alloc (aD FN 5)).cell? (ab w.heap.size 0 M)=ad (O A0 n0 c0):=(z.alloc _).cell 0;have bM:=E (show Bs (a.alloc (aD FN 5)) a.heap.size (ad (ab g 0 M)) d R from⟨U.A.len,U.A.sl.alloc (aO _) _⟩);go_wp2_with ((refine aij au (.tmp 24) (.tmp 25) 34 34 au 5 underlying34 AJ a.heap.size k g 0 d oT au au FN 5 (aI.new a _ _) B.A _ R bM.A F.A ?_));intro b u q;have fk:=E (show((R.take k).map ca).length=k by simp[wQ];have:=F.A;omega);have N:aS w.heap.size w b:=(c.alloc c.size _).grown q (by have:=c.size;simp;omega) (λg e=>by cases e;exact c.size);have y:=(z.alloc (aD FN 5)).grown q (λe=>by have:=tM e;omega);have j:=(S.alloc (aD FN 5)).grown q (λe=>by have:=tM e;omega);have de:a.heap.size<b.heap.size:=u.lt;clear C QN W k0 z S q;have cx:=E (show(R.take k).length=k by have:=fk.A;simpa using this);have V:=E u;clear u;have k0:b.cell? (ab w.heap.size 0 M)=ad (O A0 n0 c0):=y.cell 0;have k1:b.cell? (ab w.heap.size 1 M)=ad (O A1 n1 c1):=y.cell 1;have Y:=y.frozen;have q0:b.cell? ⟨w.heap.size+1,0,M⟩=ad (O M 0 0):=j.cell 0;have q1:b.cell? ⟨w.heap.size+1,1,M⟩=ad (O M 0 0):=j.cell 1;have f0:=j.frozen;by_cases r:gen % 2=0
 ·have X:(gen:Int) % 2=0:=by omega
  have s:=E r;clear r;have Y4:=E (((V.A.bT (p:=(ab w.heap.size 0 M)) (show a.heap.size≠w.heap.size by omega) (O (ad (ab a.heap.size 0 M)) k k)).bT (p:=⟨w.heap.size+1,0,M⟩) (show a.heap.size≠w.heap.size+1 by omega) (O (ad (ab a.heap.size 0 M)) k k)).bT (p:=⟨w.heap.size+1,1,M⟩) (show a.heap.size≠w.heap.size+1 by omega) (O A1 n1 c1));have i:=j.bT (p:=(ab w.heap.size 0 M)) av (O (ad (ab a.heap.size 0 M)) k k);have e0:((b.setCell (ab w.heap.size 0 M) (O (ad (ab a.heap.size 0 M)) k k)).setCell ⟨w.heap.size+1,0,M⟩ (O (ad (ab a.heap.size 0 M)) k k)).cell? ⟨w.heap.size+1,0,M⟩=ad (O (ad (ab a.heap.size 0 M)) k k):=(i.put 0 (O (ad (ab a.heap.size 0 M)) k k)).cell 0;have e1:(((b.setCell (ab w.heap.size 0 M) (O (ad (ab a.heap.size 0 M)) k k)).setCell ⟨w.heap.size+1,0,M⟩ (O (ad (ab a.heap.size 0 M)) k k)).setCell ⟨w.heap.size+1,1,M⟩ (O A1 n1 c1)).cell? ⟨w.heap.size+1,1,M⟩=ad (O A1 n1 c1):=((i.put 0 (O (ad (ab a.heap.size 0 M)) k k)).put 1 (O A1 n1 c1)).cell 1;go_wp2;refine bF (v:=aY #[O (ad (ab a.heap.size 0 M)) k k,O A1 n1 c1]) arh rfl ⟨⟨a.heap.size,c.size,?_,?_⟩,?_⟩
  ·exact Y3
  ·have e:min n.toNat (ky (gen:Int) p).length=k:=by rw[eo.A,wQ];exact HK.A.symm
   rw[e]
  ·exact((N.setCell (aO _) _).setCell av _).setCell av _
 ·have X:(gen:Int) % 2=1:=by omega
  have s:=E r;clear r;have Y4:=E (((V.A.bT (p:=(ab w.heap.size 1 M)) (show a.heap.size≠w.heap.size by omega) (O (ad (ab a.heap.size 0 M)) k k)).bT (p:=⟨w.heap.size+1,0,M⟩) (show a.heap.size≠w.heap.size+1 by omega) (O A0 n0 c0)).bT (p:=⟨w.heap.size+1,1,M⟩) (show a.heap.size≠w.heap.size+1 by omega) (O (ad (ab a.heap.size 0 M)) k k));have i:=j.bT (p:=(ab w.heap.size 1 M)) av (O (ad (ab a.heap.size 0 M)) k k);have e0:((b.setCell (ab w.heap.size 1 M) (O (ad (ab a.heap.size 0 M)) k k)).setCell ⟨w.heap.size+1,0,M⟩ (O A0 n0 c0)).cell? ⟨w.heap.size+1,0,M⟩=ad (O A0 n0 c0):=(i.put 0 (O A0 n0 c0)).cell 0;have e1:(((b.setCell (ab w.heap.size 1 M) (O (ad (ab a.heap.size 0 M)) k k)).setCell ⟨w.heap.size+1,0,M⟩ (O A0 n0 c0)).setCell ⟨w.heap.size+1,1,M⟩ (O (ad (ab a.heap.size 0 M)) k k)).cell? ⟨w.heap.size+1,1,M⟩=ad (O (ad (ab a.heap.size 0 M)) k k):=((i.put 0 (O A0 n0 c0)).put 1 (O (ad (ab a.heap.size 0 M)) k k)).cell 1;go_wp2;refine bF (v:=aY #[O A0 n0 c0,O (ad (ab a.heap.size 0 M)) k k]) arh rfl ⟨⟨a.heap.size,c.size,?_,?_⟩,?_⟩
  ·exact Y3
  ·have e:min n.toNat (ky (gen:Int) p).length=k:=by rw[eo.A,wQ];exact HK.A.symm
   rw[e]
  ·exact((N.setCell (aO _) _).setCell av _).setCell av _
end
end Go.Proofs.YtbeaddlblpgppaaGreatDoor
