/- Part 4 of the proof of TopRules (watchtowertop). Conditions: none. -/
import Derived.Test.YtbeaddlblpgppaaGreatDoorYc
import Derived.Test.YtbeaddlblpgppaaGreatDoorRows
import Derived.JoinedOf
import Derived.MakeChecks
import Derived.Lib.AppendIntMem
import Derived.Shelf.Strings.Builder1
import Derived.Shelf.Strings.Trim
import Derived.Shelf.Small.Utf8
import Derived.Shelf.Small.Bits
import Derived.Shelf.Small.Strs
import Derived.Shelf.Small.Wraps
import Derived.Shelf.Strings.BuilderF
import Derived.Shelf.Strings.BuilderK
import Derived.Shelf.Strconv.Itoa0
import Derived.Shelf.Strconv.Itoa1
import Derived.Shelf.LaysM
import Derived.Shelf.Strconv.Itoa2
import Derived.Shelf.Strconv.Itoa3
import Derived.Shelf.Strings.Search1
import Derived.Shelf.Strings.Prefix
import Derived.Shelf.Unicode.Decode
import Derived.Shelf.Strings.Runes
import Derived.Shelf.Strings.AsciiSet
import Derived.Shelf.Unicode.DecodeSlow
import Derived.Shelf.Unicode.DecodeAny
import Derived.Shelf.Unicode.DecodeLast
import Derived.Shelf.Strings.BuilderCap
import Derived.Ground.Names2Prog
import Derived.Shelf.Slices.Clone
import Derived.Ground.SlgnProg
import Derived.Shelf.SlicesE.Clone
import Derived.Shelf.SlSortCmp.WholeK
import Derived.Shelf.SlSortCmp.NoneTotal
import Derived.Ground.SlsfProg
import Derived.Ground.NamesProg
import Derived.Shelf.SlSortCmp.Whole1
import Derived.Lib.ItoaLen
import Derived.Lib.TrimByte
import Derived.Laws.DeepStrings4
import Derived.RangeFuncNested
import Derived.RangeFuncLeaves
import Derived.RangeFuncBox
import Derived.Shelf.Abstract
import Derived.OwnWalkIn
import Derived.TacticsInMore
import Derived.LoopNIn
import Derived.LoopIn
import Derived.Laws.CopyRow
import Derived.Lib.AppendZerosOnto
import Derived.Lib.Overlaps
import Derived.Laws.NewBlocks
import Derived.Shelf.Spec.SlicesInsert
set_option maxRecDepth 100000
set_option maxHeartbeats 8000000
set_option linter.unusedVariables false
set_option linter.unusedSimpArgs false
set_option linter.defProp false
open Go.Lib renaming hid->E,decDigits->qU
open Go.IntKind renaming i64->I,wrap_i64->b7
open Go.Value renaming int->J,slice->O,string->ap,bool->aG,agg->aY,pointer->bl,tuple->bn
open Option renaming none->M,some->ad,map_some->tG
open Go.Addr renaming mk->ab
open Go renaming World->aB,Value->aE,Calls->aN,Addr->aX,Act->bb,TypeId->bf,Oper->bv,results->bz,bodyPost_ret->bF,maxLen->bK,Program->cp,undef->cu,run_underlying->mf,heap_alloc_new->qR
open Go.Obj renaming cells->aD
open Go.Proofs.Tryz renaming prog->aH
open Nat renaming le_refl->aO,le_trans->a8,zero_le->bV,lt_of_lt_of_le->da,lt_or_ge->gy,zero_add->ig,eq_zero_or_pos->kJ,succ_mul->oA,mul_le_mul_right->sa
open Go.Ending renaming returned->aQ
open Go.RowKit renaming Below->aS,Hid->a6
open Go.RowKit.Below renaming refl->bk
open List renaming mem_singleton->bD,length_append->b2,getElem?_eq_getElem->cR,getD_eq_getElem?_getD->dd,getElem_mem->dl,mem_cons->ee,mem_map->hM,mem_append->kf,map_append->lK,size_toArray->lM,append_assoc->mV,length_nil->nF,length_drop->oy,length->oz,length_cons->pY,length_map->p6,length_singleton->p8,take_length->pZ,drop_length->qT,eq_nil_of_length_eq_zero->sb,map_cons->sd,pairwise_map->sf,getElem?_map->tJ,length_take->tH,pairwise_iff_getElem->yw,take_succ_eq_append_getElem->yz
open Bool renaming and_eq_true->b9
open Go.World renaming size_alloc->eO,cell?_of_block->wK
open And renaming intro->iC
open Go.Instr renaming slice->iV
open Array renaming getElem?_eq_some_iff->lJ,getElem?_eq_none->tK,getElem?_modify->yu
open Exists renaming intro->lL
open Go.Builtin renaming zeroCells->pg,append_->tI
open Go.DataW renaming trod->qW
open Option.some renaming inj->tM
open Go.Shelf renaming Ren->uW
open Go.KeepsOthers renaming setCell->yB
open Go.Proofs.Tryz
namespace Go.Proofs.YtbeaddlblpgppaaGreatDoor
open Go.RowKit
def aoJ:aH.initOrder=String.ofList (List.map Char.ofNat [104,97,114,110,101,115,115,32,97,101,102,54,56,51,101,48,101,100,101,101,52,55,52,99,53,52,55,53,100,54,57,53,51,100,49,97,102,101,49,53,97,97,50,55,101,100,48,57,97,50,100,55,53,53,51,55,97,51,53,57,101,55,51,48,49,102,50,99,100,49,54,48,32,99,117,116,32,97,116,32,119,97,116,99,104,116,111,119,101,114,47,119,97,116,99,104,116,111,119,101,114,116,111,112,46,84,111,112,82,117,108,101,115,32,119,97,116,99,104,116,111,119,101,114,47,119,97,116,99,104,116,111,119,101,114,116,111,112,46,84,111,112,79,114,100,101,114]):=ar
def aoK:aH.initOrder.toList=List.map Char.ofNat [104,97,114,110,101,115,115,32,97,101,102,54,56,51,101,48,101,100,101,101,52,55,52,99,53,52,55,53,100,54,57,53,51,100,49,97,102,101,49,53,97,97,50,55,101,100,48,57,97,50,100,55,53,53,51,55,97,51,53,57,101,55,51,48,49,102,50,99,100,49,54,48,32,99,117,116,32,97,116,32,119,97,116,99,104,116,111,119,101,114,47,119,97,116,99,104,116,111,119,101,114,116,111,112,46,84,111,112,82,117,108,101,115,32,119,97,116,99,104,116,111,119,101,114,47,119,97,116,99,104,116,111,119,101,114,116,111,112,46,84,111,112,79,114,100,101,114]:=by rw[aoJ,String.toList_ofList]
def Vj:List (List Char):=[List.map Char.ofNat [99,117,116],List.map Char.ofNat [97,116],List.map Char.ofNat [119,97,116,99,104,116,111,119,101,114,47,119,97,116,99,104,116,111,119,101,114,116,111,112,46,84,111,112,82,117,108,101,115],List.map Char.ofNat [119,97,116,99,104,116,111,119,101,114,47,119,97,116,99,104,116,111,119,101,114,116,111,112,46,84,111,112,79,114,100,101,114]]
def Vk:behindMainWord (wordsSigns aH.initOrder.toList)=Vj:=by rw[aoK];kernel_rfl
def aoL:aH.laysLater=false:=ar
def aoM:aH.bearsReflect=false:=ar
def aoN:aH.mayEnter=true:=by
 unfold Program.mayEnter Program.doorFits;rw[Vk,aoL,aoM];kernel_rfl
def aoO:∀P:cp,behindMainWord (wordsSigns P.initOrder.toList)=Vj->P.liftsFinal=false:=by
 intro P h;unfold Program.liftsFinal Program.headLifts;rw[h];kernel_rfl
def aoP:aH.liftsFinal=false:=aoO _ Vk
def aoQ:∀P:cp,behindMainWord (wordsSigns P.initOrder.toList)=Vj->P.make=ad .cut:=by
 intro P h;unfold Program.make Program.headLifts;rw[h];kernel_rfl
def aoR:aH.make=ad .cut:=aoQ _ Vk
variable {v:aE} {g i:Nat} {cs:Array aE} {W:aB}
section
open Go.ChangeShapes
section
variable {W:aB} {f n:Nat} {t e:bf} {cs:Array aE} {p:List MemPlace}
noncomputable abbrev Vh (W:aB) (f:Nat) (t:bf) (cs:List aE):=qW (H:=Unit) (λ_=>()) aH W 0 (λ_=>true) false f t cs
def aoD {l:List aE} (h:(l.drop i).take 1=[v]):l[i]?=ad v:=by
 have:=congrArg (λx=>x[0]?) h;simp[List.getElem?_take,List.getElem?_drop] at this;exact this
def aeI {bs:List (List UInt8)} (k:aH.underlying t=ad (.array n e)) (o:aH.underlying e=ad .string) (r:aH.cellsOf e=1) (g:aH.cellsOf t=n) (h:Vh W f t cs.toList=ad (.agg (bs.map λb=>.lit (.string b)),p)):cs=(bs.map λb=>ap ⟨b.toArray⟩).toArray:=by
 obtain⟨a,m,_,ex,q,l,j⟩:=DataW.trod_array k h;rw[g] at q;have d:bs.map (λb=>(DataW.lit (.string b):DataW Unit))=a.map (·.1):=DataW.agg.inj (Prod.mk.inj ex).1;have u:bs.length=n:=by have:=congrArg oz d;simpa[l] using this
 apply Array.ext';simp only;apply List.ext_getElem?;intro i;by_cases hi:i<n
 ·have c:=j i hi;rw[r,Nat.mul_one,cR an] at c;obtain⟨s,q1,q2,_⟩:=DataW.trod_string o c;rw[aoD q1];have h2:=congrArg (λx=>x[i]?) d;simp only[tJ,cR (show i<bs.length by omega),cR (show i<a.length by omega),tG,q2] at h2;injection h2 with h2;injection h2 with h2;injection h2 with h2;rw[tJ,cR an,tG,h2]
 ·rw[List.getElem?_eq_none an,List.getElem?_eq_none aw]
end
def aoE {f:Nat} {p:List MemPlace} (h:Vh W f 321 cs.toList=ad (Rows.laid_watchtower_dur_units,p)):cs=kY:=by
 have w:aH.cellsOf 321=10:=ar;have G:aH.cellsOf 320=2:=ar;have E:aH.cellsOf 9=1:=ar;have k:aH.cellsOf 3=1:=ar;obtain⟨v,m,_,ex,u,A,c⟩:=DataW.trod_array underlying321 h;rw[w] at u;have t:=DataW.agg.inj (Prod.mk.inj ex).1;have one:∀(i:Nat) (a b:aE) (x:DataW Unit×List MemPlace) (s0:List UInt8) (e:Int),Vh W m 320 [a,b]=ad x->x.1= .agg [.lit (.string s0),.lit (.int I e)]->a=ap ⟨s0.toArray⟩/\b=J I e:=by
  intro i a b x s0 e y g;obtain⟨d,o,_,n,_,j,r⟩:=DataW.trod_struct underlying320 y;have k0:qW (H:=Unit) (λ_=>()) aH W 0 (λ_=>true) false o 9 (([a,b].drop 0).take (aH.cellsOf 9))=d[0]?:=r 0 _ rfl;have q:qW (H:=Unit) (λ_=>()) aH W 0 (λ_=>true) false o 3 (([a,b].drop 1).take (aH.cellsOf 3))=d[1]?:=r 1 _ rfl;have F:d.length=2:=by rw[j];rfl
  match d,F with
  |[y0,y1],_=>
   rw[E] at k0;rw[k] at q;obtain⟨s,q1,q2,_⟩:=DataW.trod_string underlying9 k0;obtain⟨z,r1,r2,_⟩:=DataW.trod_int underlying3 q;rw[n] at g;simp[q2,r2] at g q1 r1;obtain⟨rfl,rfl⟩:=g;exact⟨q1,r1⟩
 obtain⟨l⟩:=cs;match l,u with
 |[a0,cZ,a2,a3,a4,a5,gp,rM,BZ,a9],_=>
  match v,A with
  |[x0,x1,x2,x3,x4],_=>
   simp only[sd,List.map_nil,List.cons.injEq,and_true] at t;obtain⟨d0,d1,D,C,B⟩:=t;rw[G] at c;obtain⟨rfl,rfl⟩:=one 0 a0 cZ x0 _ _ (c 0 aq) d0.symm;obtain⟨rfl,rfl⟩:=one 1 a2 a3 x1 _ _ (c 1 aq) d1.symm;obtain⟨rfl,rfl⟩:=one 2 a4 a5 x2 _ _ (c 2 aq) D.symm;obtain⟨rfl,rfl⟩:=one 3 gp rM x3 _ _ (c 3 aq) C.symm;obtain⟨rfl,rfl⟩:=one 4 BZ a9 x4 _ _ (c 4 aq) B.symm;rfl
def Vi {n:String} (hg:aH.globalNamed n=ad g) (h:W.var? aH n=ad cs):∃T f,W.heap[g]?=ad (aD cs T f):=by
 unfold World.var? at h;rw[hg,Option.bind_some] at h;cases a:W.heap[g]? with
 |none=>rw[a] at h;cases h
 |some o=>
  rw[a] at h;cases o with
  |cells c T f=>simp at h;subst h;exact⟨T,f,rfl⟩
  |_=>cases h
def aoG (h:laidMetH aH Rows.topRulesRow.laid W):eK W:=by
 rw[MakeChecks.laidMetH_plain _ _ _ ar] at h;obtain⟨ps,h,_,_⟩:=h;obtain⟨_,_,_,_,_,_,_,_,_,_,h,_⟩:=h;obtain⟨_,_,_,_,_,_,_,_,_,_,h,_⟩:=h;obtain⟨g3,B,c3,L,F,C,m,l,g,q,h,_⟩:=h;obtain⟨_,_,_,_,_,_,_,_,_,_,h,_⟩:=h;obtain⟨g5,A,c5,K,E,N,f,t,i,d,h,_⟩:=h;obtain⟨g6,y,kS,I,w,M,u,r,s,c,h,_⟩:=h;obtain⟨G,x,c7,H,D,v,k,a,e,b,h,_⟩:=h;obtain rfl:=tM ((show aH.globalNamed "internal/strconv.uint64pow10"=ad 4 by kernel_rfl).symm.trans m);obtain rfl:=tM ((show aH.globalNamed "watchtower/dur.units"=ad 1 by kernel_rfl).symm.trans f);obtain rfl:=tM ((show aH.globalNamed "watchtower/cond.signs"=ad 2 by kernel_rfl).symm.trans u);obtain rfl:=tM ((show aH.globalNamed "watchtower/eval.states"=ad 3 by kernel_rfl).symm.trans k);obtain rfl:=tM ((show(aH.globals[4]?).map (·.type)=ad 437 by kernel_rfl).symm.trans l);obtain rfl:=tM ((show(aH.globals[1]?).map (·.type)=ad 321 by kernel_rfl).symm.trans t);obtain rfl:=tM ((show(aH.globals[2]?).map (·.type)=ad 329 by kernel_rfl).symm.trans r);obtain rfl:=tM ((show(aH.globals[3]?).map (·.type)=ad 352 by kernel_rfl).symm.trans a);have o:kS=uw:=aeI (bs:=[[],[62],[62,61],[60],[60,61],[61,61],[33,61]]) underlying329 underlying9 ar ar c;have j:c7=RP:=aeI (bs:=[[],[112,101,110,100,105,110,103],[102,105,114,105,110,103]]) underlying352 underlying9 ar ar b;have n:c5=kY:=aoE d;have p:c3.toList=Lib.pow10Tab.map λz=>J .u64 z:=Lib.cells_of_tab (zs:=Lib.pow10Tab) underlying437 underlying315 ar ar q;subst n o j;refine⟨Vi ar i,Vi ar s,Vi ar e,Lib.tabBelow_of_tabIs ?_⟩;unfold Lib.TabIs;rw[g,<-p]
end
section
open Go.Shelf
def Tryz.ZP:uW:=⟨λ|169=>227|n=>n,λ|70=>331|9=>9|0=>0|72=>333|37=>34|127=>376|3=>3|5=>5|n=>n,λ|n=>n⟩
def Tryz.ai4:Go.Proofs.Lays.n169 aH Tryz.ZP:=rh
def Tryz.ai5:Builder.Extra aH Tryz.ZP:=rh
open Go.RowKit in
theorem Tryz.Builder_String_any (B b:Nat) (l:List UInt8) (w:aB) (h:Lib.IsBuilder 333 5 B b (Lib.byteCells l) w) (a:B<=w.heap.size):aN aH 227 #[bl (ad (ab b 0 M))] w λe w'=>e=aQ (ap ⟨l.toArray⟩)/\aS B w w':=Any.Builder_String_any Tryz.ai4 Tryz.ai5 B b l w h a
def Tryz.ai6:uW:=⟨λ|162=>259|232=>281|227=>282|234=>283|236=>284|228=>305|271=>306|151=>307|120=>322|197=>323|152=>324|260=>339|137=>176|119=>340|224=>341|225=>342|217=>216|266=>249|n=>n,λ|9=>9|4=>4|3=>3|5=>5|117=>396|116=>395|0=>0|124=>399|21=>21|105=>420|46=>257|119=>448|139=>451|138=>450|n=>n,λ|3=>5|4=>6|n=>n⟩
def Tryz.ai7:Go.Proofs.Lays.n162 aH Tryz.ai6:=rh
open Go.RowKit in
theorem Tryz.strings_TrimRight_one (s:ByteArray) (c:UInt8) (a:c.toNat<128) (w:aB) (hs:s.size<=9223372036854775807):aN aH 259 #[ap s,ap ⟨#[c]⟩] w λe w'=>e=aQ (ap ⟨(Lib.trimRightB s.data.toList c).toArray⟩)/\w'=w:=Any.strings_TrimRight_one Tryz.ai7 s c a w hs
def Tryz.ai8:uW:=⟨λ|106=>124|213=>164|265=>212|n=>n,λ|9=>9|3=>3|n=>n,λ|n=>n⟩
def Tryz.ai9:Go.Proofs.Lays.n106 aH Tryz.ai8:=rh
open Go.RowKit in
theorem Tryz.strings_Compare (a b:ByteArray) (w:aB):aN aH 124 #[ap a,ap b] w λe w'=>e=aQ (J I (Lib.compareBytes a.data.toList b.data.toList))/\w'=w:=Any.strings_Compare Tryz.ai9 a b w
def Tryz.aja:uW:=⟨λ|137=>176|217=>216|266=>249|n=>n,λ|9=>9|5=>5|3=>3|n=>n,λ|n=>n⟩
def Tryz.ajb:Go.Proofs.Lays.n137 aH Tryz.aja:=rh
open Go.RowKit in
theorem Tryz.strings_IndexByte (s:ByteArray) (c:Int) (w:aB):aN aH 176 #[ap s,J .u8 c] w λe w'=>e=aQ (J I (Lib.indexByte s.data.toList c.toNat.toUInt8))/\w'=w:=Any.strings_IndexByte Tryz.ajb s c w
def Tryz.ajc:uW:=⟨λ|103=>303|210=>321|206=>250|n=>n,λ|9=>9|4=>4|24=>57|3=>3|n=>n,λ|n=>n⟩
def Tryz.ajd:Go.Proofs.Lays.n103 aH Tryz.ajc:=rh
open Go.RowKit in
theorem Tryz.strings_CutPrefix (s p:ByteArray) (w:aB):aN aH 303 #[ap s,ap p] w λe w'=>e=aQ (bn #[ap ⟨(Lib.trimPrefix s.data.toList p.data.toList).toArray⟩,aG (Lib.hasPrefix s.data.toList p.data.toList)])/\w'=w:=Any.strings_CutPrefix Tryz.ajd s p w
def Tryz.aje:uW:=⟨λ|171=>223|243=>260|246=>285|283=>308|284=>309|285=>310|286=>311|129=>211|317=>325|318=>326|319=>327|320=>328|337=>343|338=>344|n=>n,λ|3=>3|9=>9|2=>2|4=>4|171=>423|0=>0|53=>315|37=>34|5=>5|173=>425|212=>437|51=>255|20=>20|213=>438|46=>257|232=>452|233=>453|n=>n,λ|17=>4|18=>7|19=>8|n=>n⟩
def Tryz.ajf:Go.Proofs.LaysM.n171 aH Tryz.aje:=rh
open Go.RowKit Go.Sort Go.Lib in
theorem Tryz.strconv_Itoa (n:Int) (h0:-9223372036854775808<=n) (a:n<=9223372036854775807) (w:aB) (b:Lib.TabIs aH w "internal/strconv.uint64pow10" .u64 Lib.pow10Tab):aN aH 223 #[J I n] w λe w'=>e=aQ (ap ⟨(Lib.itoa n).toArray⟩)/\∃k os,w'=grow (w.drewN k) os:=Any.strconv_Itoa Tryz.ajf n h0 a w b
def Tryz.ajg:uW:=⟨λ|171=>223|243=>260|246=>285|283=>308|284=>309|285=>310|286=>311|129=>211|317=>325|318=>326|319=>327|320=>328|337=>343|338=>344|n=>n,λ|3=>3|9=>9|2=>2|4=>4|171=>423|0=>0|53=>315|37=>34|5=>5|173=>425|212=>437|51=>255|20=>20|213=>438|46=>257|232=>452|233=>453|n=>n,λ|17=>4|18=>7|19=>8|n=>n⟩
def Tryz.ajh:Go.Proofs.Lays.n171 aH Tryz.ajg:=rh
open Go.RowKit Go.Sort Go.Lib in
theorem Tryz.strconv_Itoa_small (i:Nat) (hi:i<100) (w:aB):aN aH 223 #[J I i] w λe w'=>e=aQ (ap ⟨(qU i).toArray⟩)/\w'=w:=Any.strconv_Itoa_small Tryz.ajh i hi w
def Tryz.aji:uW:=⟨λ|99=>218|206=>250|n=>n,λ|9=>9|4=>4|3=>3|n=>n,λ|n=>n⟩
def Tryz.ajj:Go.Proofs.Lays.n99 aH Tryz.aji:=rh
open Go.RowKit Go.Lib in
theorem Tryz.strings_HasPrefix (s p:ByteArray) (w:aB):aN aH 218 #[ap s,ap p] w λe w'=>e=aQ (aG (Lib.hasPrefix s.data.toList p.data.toList))/\w'=w:=Any.strings_HasPrefix Tryz.ajj s p w
end
def sizeBuilder:(aH.info? 333).map (·.size)=ad 2:=ar
def liesBuilder:liesAt aH aH.depth 333 (2/aH.cellsOf 333) 0 333 1=true:=ar
def abx:(aH.info? 5).map (λi=>(i.zero,i.size,i.bytes))=ad (ad (J .u8 0),1,1):=ar
def akT (b:Nat) (w:aB) (h0:w.cell? (ab b 0 M)=ad (bl (ad (ab b 0 M)))):aN aH 261 #[bl (ad (ab b 0 M))] w λe w'=>e=aQ (bn #[])/\w'=w:=by
 obtain⟨j,hj,_⟩:=Option.map_eq_some_iff.1 sizeBuilder;go_enter func261,ntmps261;go_wp2;rw[Lib.run_neq_ptr_same w _ underlying331 hj];go_wp2;go_end0;exact⟨rfl,rfl⟩
def akU (b:Nat) (w:aB) (h0:w.cell? (ab b 0 M)=ad (.pointer M)) (a:w.shape? b=ad (333,2)) (c:w.frozen? (ab b 0 M)=false):aN aH 261 #[bl (ad (ab b 0 M))] w λe w'=>e=aQ (bn #[])/\w'=w.setCell (ab b 0 M) (bl (ad (ab b 0 M))):=by
 obtain⟨j,hj,d⟩:=Option.map_eq_some_iff.1 sizeBuilder;go_enter func261,ntmps261;go_wp2;rw[Lib.run_to_unsafe w (ab b 0 M) underlying331 underlying401 hj (by rw[d];decide) a (Nat.zero_lt_succ 1)];simp only[Result.andThen];rw[Oper.upon_value];go_wp2;rw[run_callFunc_extern func286 ar ar ar (e:=Extern.AbiNoEscape.same) ar];rw[Lib.run_noEscape];simp only[Result.andThen];rw[Oper.upon_value];go_wp2;rw[Lib.run_from_unsafe w (ab b 0 M) underlying401 underlying331 hj a liesBuilder];simp only[Result.andThen];rw[Oper.upon_value];go_wp2;go_end0;exact⟨rfl,rfl⟩
def aby (B b:Nat) (bs:List aE) (w:aB) (h:Lib.IsBuilder 333 5 B b bs w):aN aH 261 #[bl (ad (ab b 0 M))] w λe w'=>e=aQ (bn #[])/\(Lib.BuilderAt 333 5 B b (bl (ad (ab b 0 M))) bs w'/\aS B w w'):=by
 rcases h with h|h
 ·refine(akU b w h.cell0 h.shape h.frozen0).ah ?_;rintro e w'⟨rfl,rfl⟩;exact⟨rfl,h.used _,(bk B w).setCell (p:=(ab b 0 M)) h.1 _⟩
 ·refine(akT b w h.cell0).ah ?_;rintro e w'⟨rfl,rfl⟩;exact⟨rfl,h,bk B _⟩
def akV (B b:Nat) (bs:List aE) (c:Int) (w:aB) (h:Lib.IsBuilder 333 5 B b bs w) (G:bs.length+1<=140737488355328) (F:B<=w.heap.size):aN aH 226 #[bl (ad (ab b 0 M)),J .u8 c] w λe w'=>e=aQ .nilIface/\(Lib.BuilderAt 333 5 B b (bl (ad (ab b 0 M))) (bs++[J .u8 c]) w'/\aS B w w'):=by
 obtain⟨q,hi,t,z,y⟩:=info_parts abx;go_enter func226,ntmps226;go_wp2_with fail;refine(aby B b bs _ h).ah ?_;rintro e a⟨rfl,s,f⟩;obtain⟨hB,v,nB,l,C⟩:=s;have c0:a.cell? (ab b 0 M)=ad (bl (ad (ab b 0 M))):=aq5;have c1:a.cell? (ab b 1 M)=ad v:=aq5;go_wp2_with (at_builtin;refine wpList_append_own _ rfl _ _ 34 rfl B 5 q (J .u8 0) 1 1 underlying34 hi t z y rfl aq _ _ _ rfl (l.alloc _) (ab a.heap.size 0 M) 1 1 [J .u8 c] rfl rfl ?c1 ?c2 ?c3 ?c4 ?c5 ?_);case c1=>
  intro j u hj;match j,hj with
  |0,hj=>simp at hj;subst hj;simp[Addr.add]
 case c2=>intro u i;simp at i;subst i;rfl
 case c3=>exact aqF
 case c4=>exact an
 case c5=>have:=f.size;simp;omega
 intro o d m n _;have D:b<a.heap.size:=by
  rcases gy b a.heap.size with h'|h'
  ·exact h'
  ·simp[tK h'] at nB
 have bd:d.heap[b]?=ad (aD #[bl (ad (ab b 0 M)),v] 333 (0,0)):=by
  rw[n.block b aw (λe=>C e.symm),Lib.alloc_old a _ b D];exact nB
 have d0:d.cell? (ab b 0 M)=ad (bl (ad (ab b 0 M))):=aq6;have d1:d.cell? (ab b 1 M)=ad v:=aq6;have E:d.frozen? (ab b 1 M)=false:=Lib.frozen_of_heap bd 1;obtain⟨g,cap,rfl⟩:∃g cap,o=O (ad (ab g 0 M)) (bs.length+1) cap:=by
  rcases m.2 with⟨_,h0⟩|⟨g,cap,cur,hv,_⟩
  ·omega
  ·exact⟨g,cap,hv⟩
 go_wp2;go_ret;refine⟨rfl,?_,?_⟩
 ·exact Lib.BuilderAt.put (T:=333) (e:=5) hB bd (bs':=bs++[J .u8 c]) (am m) aq
 ·exact((f.alloc (ai f.size) _).grown n (by have:=f.size;simp;omega) (λk r=>(l.lt k r).1)).setCell (p:=(ab b 1 M)) hB _
def abz (B b:Nat) (bs:List aE) (s:ByteArray) (w:aB) (h:Lib.IsBuilder 333 5 B b bs w) (E:bs.length+s.size<=140737488355328) (D:B<=w.heap.size):aN aH 225 #[bl (ad (ab b 0 M)),ap s] w λe w'=>e=aQ (bn #[J I s.size,.nilIface])/\(Lib.BuilderAt 333 5 B b (bl (ad (ab b 0 M))) (bs++Lib.strCells s) w'/\aS B w w'):=by
 obtain⟨n,hi,r,u,t⟩:=info_parts abx;go_enter func225,ntmps225;go_wp2_with fail;refine(aby B b bs _ h).ah ?_;rintro e d⟨rfl,q,f⟩;obtain⟨hB,v,nB,i,y⟩:=q;have c0:d.cell? (ab b 0 M)=ad (bl (ad (ab b 0 M))):=aq5;have c1:d.cell? (ab b 1 M)=ad v:=aq5;go_wp2_with (at_builtin;refine Lib.wpList_append_own_string _ rfl _ _ 34 9 rfl B 5 n underlying34 underlying9 hi r u t _ _ _ rfl i s rfl ?c3 ?c4 ?c5 ?_);case c3=>exact aqF
 case c4=>exact an
 case c5=>have:=f.size;omega
 intro m c j l _;have z:b<d.heap.size:=by
  rcases gy b d.heap.size with h'|h'
  ·exact h'
  ·simp[tK h'] at nB
 have bd:c.heap[b]?=ad (aD #[bl (ad (ab b 0 M)),v] 333 (0,0)):=by
  rw[l.block b z (λe=>y e.symm)];exact nB
 have d0:c.cell? (ab b 0 M)=ad (bl (ad (ab b 0 M))):=aq6;have d1:c.cell? (ab b 1 M)=ad v:=aq6;have C:c.frozen? (ab b 1 M)=false:=Lib.frozen_of_heap bd 1;obtain⟨a,n',cap,rfl⟩:∃a n' cap,m=O a n' cap:=by
  rcases j.2 with⟨hv,_⟩|⟨g,cap,cur,hv,_⟩
  ·exact⟨_,_,_,hv⟩
  ·exact⟨_,_,_,hv⟩
 go_wp2;go_ret2;refine⟨rfl,?_,?_⟩
 ·exact Lib.BuilderAt.put (T:=333) (e:=5) hB bd (bs':=bs++Lib.strCells s) (by simpa[Lib.strCells_length] using j) aq
 ·exact(f.grown l (ai f.size) (λk o=>(i.lt k o).1)).setCell (p:=(ab b 1 M)) hB _
section
open Go.Shelf
def Tryz.agz:uW:=⟨λ|6=>296|15=>163|14=>315|28=>210|29=>211|20=>330|21=>331|22=>332|23=>333|24=>334|25=>335|26=>336|27=>337|46=>345|47=>243|48=>244|49=>346|50=>347|57=>348|n=>n,λ|22=>49|24=>78|25=>131|3=>3|39=>257|0=>0|53=>255|55=>315|4=>4|46=>308|45=>307|50=>187|5=>5|9=>9|66=>357|70=>361|76=>385|77=>218|n=>n,λ|n=>n⟩
def Tryz.agA:Go.Proofs.SlLaysF0.n6 aH Tryz.agz:=rh
def Tryz.agB:uW:=⟨λ|6=>231|15=>163|14=>262|28=>210|29=>211|20=>287|21=>288|22=>289|23=>290|24=>291|25=>292|26=>293|27=>294|46=>312|47=>243|48=>244|49=>313|50=>314|57=>329|n=>n,λ|22=>54|24=>62|25=>345|3=>3|39=>257|0=>0|53=>255|55=>315|4=>4|46=>308|45=>307|50=>187|5=>5|9=>9|66=>357|70=>361|76=>385|77=>218|n=>n,λ|n=>n⟩
def Tryz.agC:Go.Proofs.SlLaysF0.n6 aH Tryz.agB:=rh
def Tryz.agD:uW:=⟨λ|6=>122|15=>163|14=>162|28=>210|29=>211|20=>202|21=>203|22=>204|23=>205|24=>206|25=>207|26=>208|27=>209|46=>242|47=>243|48=>244|49=>245|50=>246|57=>274|n=>n,λ|22=>158|24=>205|25=>209|3=>3|39=>257|0=>0|53=>255|55=>315|4=>4|46=>308|45=>307|50=>187|5=>5|9=>9|66=>357|70=>361|76=>385|77=>218|n=>n,λ|n=>n⟩
def Tryz.agE:Go.Proofs.SlLaysF0.n6 aH Tryz.agD:=rh
def Tryz.agF:uW:=⟨λ|6=>196|15=>163|14=>238|28=>210|29=>211|20=>264|21=>265|22=>266|23=>267|24=>268|25=>269|26=>270|27=>271|46=>298|47=>243|48=>244|49=>299|50=>300|57=>316|n=>n,λ|22=>246|24=>49|25=>114|3=>3|39=>257|0=>0|53=>255|55=>315|4=>4|46=>308|45=>307|50=>187|5=>5|9=>9|66=>357|70=>361|76=>385|77=>218|n=>n,λ|n=>n⟩
def Tryz.agG:Go.Proofs.SlLaysF.n6 aH Tryz.agF:=rh
def Tryz.agH:uW:=⟨λ|6=>196|15=>163|14=>238|28=>210|29=>211|20=>264|21=>265|22=>266|23=>267|24=>268|25=>269|26=>270|27=>271|46=>298|47=>243|48=>244|49=>299|50=>300|57=>316|n=>n,λ|22=>246|24=>49|25=>114|3=>3|39=>257|0=>0|53=>255|55=>315|4=>4|46=>308|45=>307|50=>187|5=>5|9=>9|66=>357|70=>361|76=>385|77=>218|n=>n,λ|n=>n⟩
def Tryz.agI:Go.Proofs.SlLaysF0.n6 aH Tryz.agH:=rh
end
variable {P:Prop}
open bw
def ajk:∀c,c<256->decide (0<=Lib.indexByte [61,33,60,62] c.toUInt8)=eqs c:=aq
def ajl:∀c,c<256->decide (0<=Lib.indexByte [123,125,40,41,44,58,59,61,60,62] c.toUInt8)=uu c:=aq
def ZQ (c:Nat) (a:c<256) (w:aB):aN aH 176 #[ap ⟨#[61,33,60,62]⟩,J .u8 (c:Int)] w λe w'=>(∃x:Int,e=aQ (J I x)/\decide (0<=x)=eqs c)/\w'=w:=(Tryz.strings_IndexByte _ _ w).mono λe w' h=>⟨⟨_,h.1,ajk c a⟩,h.2⟩
def ZR (c:Nat) (a:c<256) (w:aB):aN aH 176 #[ap ⟨#[123,125,40,41,44,58,59,61,60,62]⟩,J .u8 (c:Int)] w λe w'=>(∃x:Int,e=aQ (J I x)/\decide (0<=x)=uu c)/\w'=w:=(Tryz.strings_IndexByte _ _ w).mono λe w' h=>⟨⟨_,h.1,ajl c a⟩,h.2⟩
def ajm (s:ByteArray) (i:Nat):dp s i<256:=by
 unfold dp;split
 ·exact UInt8.toNat_lt _
 ·decide
theorem ZS (h:P:=by
 cases hg:uu c with
 |true=>
  rw[hg] at oc sZ;have HE:=E (show gJ c true d=(4,1) from sZ.A);clear sZ hq hg;go_enter func130,ntmps130;go_wp2_with fail;refine hl.ah ?_;rintro e w1⟨rfl,rfl⟩;clear hl;go_wp2_with fail;refine hd.ah ?_;rintro e w1⟨rfl,rfl⟩;clear hd;go_wp2_with fail;refine od.ah ?_;rintro e w1⟨⟨x,rfl,hx⟩,rfl⟩;clear od;go_wp2_with fail;refine oc.ah ?_;rintro e w1⟨⟨y,rfl,hy⟩,rfl⟩;clear oc;go_wp2;go_ret2;rw[HE.A];exact⟨rfl,rfl⟩
 |false=>
  rw[hg] at oc sZ;have HE:=E (show gJ c true d=(0,0) from sZ.A);clear sZ hq hg;go_enter func130,ntmps130;go_wp2_with fail;refine hl.ah ?_;rintro e w1⟨rfl,rfl⟩;clear hl;go_wp2_with fail;refine hd.ah ?_;rintro e w1⟨rfl,rfl⟩;clear hd;go_wp2_with fail;refine od.ah ?_;rintro e w1⟨⟨x,rfl,hx⟩,rfl⟩;clear od;go_wp2_with fail;refine oc.ah ?_;rintro e w1⟨⟨y,rfl,hy⟩,rfl⟩;clear oc;go_wp2;go_ret2;rw[HE.A];exact⟨rfl,rfl⟩
 ):P:=h
theorem ZT (h:P:=by
 clear sZ hg;cases hq:eqs c<;>rw[hq] at od<;>by_cases FY:c=45;all_goals
  try have e45:((c:Int)==45)=false:=aw
  try subst FY
  try clear FY
  go_enter func130,ntmps130;go_wp2_with fail;refine hl.ah ?_;rintro e w1⟨rfl,rfl⟩;clear hl;go_wp2_with fail;refine hd.ah ?_;rintro e w1⟨rfl,rfl⟩;clear hd;go_wp2_with fail;refine od.ah ?_;rintro e w1⟨⟨x,rfl,hx⟩,rfl⟩;clear od;go_wp2_with fail;refine oc.ah ?_;rintro e w1⟨⟨y,rfl,hy⟩,rfl⟩;clear oc;go_wp2;go_ret2;rw[HE.A];exact⟨rfl,rfl⟩
 ):P:=h
theorem RH (h:P:=by
 go_enter func130,ntmps130;go_wp2_with fail;refine hl.ah ?_;rintro e w1⟨rfl,rfl⟩;clear hl;go_wp2_with fail;refine hd.ah ?_;rintro e w1⟨rfl,rfl⟩;clear hd;go_wp2;go_ret2;rw[HE.A];exact⟨rfl,rfl⟩;):P:=h
def ajn (s:ByteArray) (w:aB) (hs:s.size<=9223372036854775807) (v:1<=s.size):aN aH 130 #[ap s] w λe w'=>(e=aQ (bn #[J I (gJ (dp s 0) (decide (1<s.size)) (dp s 1)).1,J I ((gJ (dp s 0) (decide (1<s.size)) (dp s 1)).2:Nat)]))/\w'=w:=by
 have q:=zp (s:=s) (i:=0) an;obtain⟨c,m⟩:=aP (dp s 0);have p:c<256:=by rw[<-m];exact ajm _ _
 rw[m] at q⊢;clear m;have hl:=ZI c w;have hd:=RG c w;have od:=ZQ c p w;have oc:=ZR c p w;have u:(0:Nat)<s.size:=an;cases Z:zn c with
 |true=>
  rw[Z] at hl;have HE:=E (show gJ c (decide (1<s.size)) (dp s 1)=(1,0) by unfold gJ;rw[ag Z]);go_enter func130,ntmps130;go_wp2_with fail;refine hl.ah ?_;rintro e w1⟨rfl,rfl⟩;clear hl;go_wp2;go_ret2;rw[HE.A];exact⟨rfl,rfl⟩
 |false=>
  rw[Z] at hl;cases b:l0 c with
  |true=>
   rw[b] at hd;have HE:=E (show gJ c (decide (1<s.size)) (dp s 1)=(2,0) by unfold gJ;simp[Z,b]);exact RH
  |false=>
   rw[b] at hd;by_cases j:1<s.size
   ·have r:=zp j;obtain⟨d,o⟩:=aP (dp s 1);rw[o] at r⊢;clear o;have f:=RG d w;have l:decide (1<s.size)=true:=ac j;rw[l];by_cases FY:c=45
    ·subst FY;have z:=E b;clear Z b od oc;cases k:l0 d with
     |true=>
      rw[k] at f;have HE:=E (show gJ 45 true d=(2,0) by unfold gJ;simp[k,show zn 45=false from by decide,show l0 45=false from by decide,show eqs 45=false from by decide,show uu 45=false from by decide]);go_enter func130,ntmps130;go_wp2_with fail;refine hl.ah ?_;rintro e w1⟨rfl,rfl⟩;clear hl;go_wp2_with fail;refine hd.ah ?_;rintro e w1⟨rfl,rfl⟩;clear hd;go_wp2_with fail;refine f.ah ?_;rintro e w1⟨rfl,rfl⟩;clear f;go_wp2;go_ret2;rw[HE.A];exact⟨rfl,rfl⟩
     |false=>
      rw[k] at f;have od:=ZQ 45 aq w;have oc:=ZR 45 aq w;have HE:=E (show gJ 45 true d=(0,0) by unfold gJ;simp[k,show zn 45=false from by decide,show l0 45=false from by decide,show eqs 45=false from by decide,show uu 45=false from by decide]);go_enter func130,ntmps130;go_wp2_with fail;refine hl.ah ?_;rintro e w1⟨rfl,rfl⟩;clear hl;go_wp2_with fail;refine hd.ah ?_;rintro e w1⟨rfl,rfl⟩;clear hd;go_wp2_with fail;refine f.ah ?_;rintro e w1⟨rfl,rfl⟩;clear f;go_wp2_with fail;refine od.ah ?_;rintro e w1⟨⟨x,rfl,hx⟩,rfl⟩;clear od;have hx:decide (0<=x)=false:=hx;go_wp2_with fail;refine oc.ah ?_;rintro e w1⟨⟨y,rfl,hy⟩,rfl⟩;clear oc;have hy:decide (0<=y)=false:=hy;go_wp2;go_ret2;rw[HE.A];exact⟨rfl,rfl⟩
    ·have e45:((c:Int)==45)=false:=by simp;omega
     by_cases g:c=34
     ·subst g;have HE:=E (show gJ 34 true d=(3,0) by unfold gJ;simp[show zn 34=false from by decide,show l0 34=false from by decide]);clear od oc f;exact RH
     ·have t:((c:Int)==34)=false:=by simp;omega
      have a:=E (show gJ c true d=if(eqs c&&true&&(d==61))=true then(4,2) else if uu c=true then(4,1) else(0,0) by unfold gJ;simp[Z,b,FY,g]);clear Z b f FY g;cases hq:eqs c with
      |true=>
       rw[hq] at od a;by_cases n:d=61
       ·subst n;have HE:=E (show gJ c true 61=(4,2) from a.A);clear a oc;go_enter func130,ntmps130;go_wp2_with fail;refine hl.ah ?_;rintro e w1⟨rfl,rfl⟩;clear hl;go_wp2_with fail;refine hd.ah ?_;rintro e w1⟨rfl,rfl⟩;clear hd;go_wp2_with fail;refine od.ah ?_;rintro e w1⟨⟨x,rfl,hx⟩,rfl⟩;clear od;go_wp2;go_ret2;rw[HE.A];exact⟨rfl,rfl⟩
       ·have B:((d:Int)==61)=false:=by simp;omega
        have sZ:=E (show gJ c true d=if uu c=true then(4,1) else(0,0) by rw[a.A];simp[n]);clear a n;exact ZS
      |false=>
       rw[hq] at od a;have sZ:=E (show gJ c true d=if uu c=true then(4,1) else(0,0) from a.A);clear a;exact ZS
   ·obtain A:s.size=1:=by omega
    have l:decide (1<s.size)=false:=aa j;generalize dp s 1=d;rw[l];have a:=E (show gJ c false d=if c=34 then(3,0) else if uu c=true then(4,1) else(0,0) by unfold gJ;simp[Z,b]);clear Z b j;by_cases g:c=34
    ·subst g;have HE:=E (show gJ 34 false d=(3,0) from a.A);clear a od oc;exact RH
    ·have t:((c:Int)==34)=false:=by simp;omega
     have sZ:=E (show gJ c false d=if uu c=true then(4,1) else(0,0) by rw[a.A,af g]);clear a g;cases hg:uu c with
     |true=>
      rw[hg] at oc sZ;have HE:=E (show gJ c false d=(4,1) from sZ.A);exact ZT
     |false=>
      rw[hg] at oc sZ;have HE:=E (show gJ c false d=(0,0) from sZ.A);exact ZT
variable {α β γ:Type} {w':aB}
section
open Go.Lib Go.Shelf
open Go.Sort (PermIn SortedIn SWO putCells putRow mapBlock onCells grow putRowK HoldsK flatK)
section
variable {α β:Type} {D:Kr α} {w:aB} {B:Nat}
abbrev Cl (D:Kr α) (w:aB) (B:Nat):={x:α×List aE//D.rel w B x.1 x.2}
def Rs.zip:∀{l:List α} {us:List aE},Rs D w B l us->∃zs:List (Cl D w B),zs.map (λz=>z.1.1)=l/\zs.flatMap (λz=>z.1.2)=us:=by
 intro l us h;induction h with
 |nil=>exact⟨[],rfl,rfl⟩
 |cons h _ a=>
  obtain⟨zs,b,h2⟩:=a;exact⟨⟨(_,_),h⟩::zs,by simp[b],by simp[h2]⟩
def Rs.P1 (a:∀(z:Cl D w B),D.rel w' B z.1.1 z.1.2):∀zs:List (Cl D w B),Rs D w' B (zs.map λz=>z.1.1) (zs.flatMap λz=>z.1.2)
 |[]=>.nil
 |z::zs=>.cons (a z) (Rs.P1 a zs)
def P2 [Inhabited γ] (enc:γ->List aE) (k:Nat) (a:∀x,(enc x).length=k) (b:0<k):∀(zs:List γ) (t:Nat),t<zs.length*k->(zs.flatMap enc)[t]?=(enc (zs.toArray[t/k]!))[t % k]?
 |[],t,h=>by simp at h
 |z::zs,t,h=>by
  rw[List.flatMap_cons]
  rcases gy t k with h1|h1
  ·rw[List.getElem?_append_left (by rw[a];exact h1),Nat.div_eq_of_lt h1,Nat.mod_eq_of_lt h1];rfl
  ·rw[List.getElem?_append_right (by rw[a];exact h1),a,P2 enc k a b zs (t-k) (by simp[oA] at h;omega)];have d:t/k=(t-k)/k+1:=by
    have:=Nat.add_div_right (t-k) b;rw[show t-k+k=t by omega] at this;omega
   have c:t % k=(t-k) % k:=by
    have:=Nat.add_mod_right (t-k) k;rw[show t-k+k=t by omega] at this;exact this
   rw[d,c];congr 2;simp
def WV (enc:γ->List aE) (k:Nat) (a:∀x,(enc x).length=k):∀zs:List γ,(zs.flatMap enc).length=zs.length*k
 |[]=>by simp
 |z::zs=>by rw[List.flatMap_cons,b2,a,WV enc k a zs,pY,oA];omega
end
def agu [Inhabited α] (enc:α->List aE) (k:Nat) (w:aB) (g m:Nat) (d:Array α) (os:Array Obj) {cur:Array aE} {e:bf} {fr:Nat×Nat} (hg:w.heap[g]?=ad (aD cur e fr)):(sortWorldK enc k w g 0 m d os).heap[g]?=ad (aD (putCells id 0 (flatK enc k d) cur) e fr):=by
 have a:g<w.heap.size:=(lJ.1 hg).1;show(w.heap.modify g (onCells (putCells id 0 (flatK enc k d)))++os)[g]?=_;rw[Array.getElem?_append,ag (am a),yu,ag rfl,hg];rfl
def WW [Inhabited α] (enc:α->List aE) (k:Nat) (w:aB) (g m:Nat) (d:Array α) (os:Array Obj) {b:Nat} (Z:b<w.heap.size) (a:b≠g):(sortWorldK enc k w g 0 m d os).heap[b]?=w.heap[b]?:=by
 show(w.heap.modify g (onCells (putCells id 0 (flatK enc k d)))++os)[b]?=_;rw[Array.getElem?_append,ag (am Z),yu,af (λe=>a e.symm)]
def LM [Inhabited α] (enc:α->List aE) (k:Nat) (w:aB) (g m:Nat) (d:Array α) (os:Array Obj) {B:Nat} {T:bf} (hB:B<=g) (hg:bp w T g):Kt B [T] w (sortWorldK enc k w g 0 m d os) where
 os:=rfl
 tape:=rfl
 output:=rfl
 size:=by simp[sortWorldK,grow,putRowK,putRow,mapBlock,Go.Sort.ahead]
 low:=λb Z=>WW enc k w g m d os (ai hg.lt) an
 typed:=λe b c a=>WW enc k w g m d os a.lt (by rintro rfl;exact c (bD.2 (a.q9 hg)))
def agv [Inhabited α] (enc:α->List aE) (k:Nat) (w a:aB) (g m:Nat) (d:Array α) (os:Array Obj) {T:bf} (hg:bp w T g) (h:cm a w) (b:a.heap.size<=g):cm a (sortWorldK enc k w g 0 m d os):=by
 refine cm.of (h.aC.trans ((LM enc k w g m d os (B:=a.heap.size) b hg).aC)) (a8 h.AS ?_);show w.drawn<=w.drawn+m;omega
def WX (h:cm W w'):∃q a,w'=grow (W.drewN q) a:=by
 have Z:=h.aC;refine⟨w'.drawn-W.drawn,(w'.heap.toList.drop W.heap.size).toArray,?_⟩;have b:W.drawn+(w'.drawn-W.drawn)=w'.drawn:=ai h.AS;have hh:W.heap++(w'.heap.toList.drop W.heap.size).toArray=w'.heap:=by
  apply Array.ext';rw[Array.toList_append];apply List.ext_getElem?;intro i;rw[List.getElem?_append];split
  ·rename_i hi;have:=Z.block i (am hi);simpa using this.symm
  ·rename_i hi;simp at hi;rw[List.toList_toArray,List.getElem?_drop,Array.length_toList,show W.heap.size+(i-W.heap.size)=i by omega]
 cases w';cases W;simp only[grow,World.drewN] at*;simp only[World.mk.injEq];exact⟨hh.symm,Z.tape,b.symm,Z.os,Z.output⟩
def WY {o:β->β->Int} (ho:fS o) (f:γ->β):SWO (ltOf λx y:γ=>o (f x) (f y)) where
 irrefl x:=by unfold ltOf;simp[ho.refl]
 trans x y z h1 h2:=by unfold ltOf at*;simp at*;exact ho.trans h1 h2
 ntrans x y z h1 h2:=by
  unfold ltOf at*
  simp at*
  rcases ho.AG (f x) (f z) with h|h|h
  ·rcases ho.AG (f x) (f y) with k|k|k
   ·omega
   ·rw[<-k] at h2;omega
   ·have:=ho.trans k h;omega
  ·rw[h,ho.refl];omega
  ·rw[ho.tO (f z) (f x)];omega
theorem WZ (h:P:=by
 have e1:d'.extract 0 l.length=d':=by rw[<-nh];simp
 have e2:zs.toArray.extract 0 l.length=zs.toArray:=by rw[show l.length=zs.toArray.size by simp[hn]];simp
 rw[e1,e2] at Do;simpa using Do;):P:=h
def P3 {P:cp} {ρ:Ren} (D:Kr α) (L:SlLaysF0.n6 P ρ) (E:∀w,(isAgg (ρ.t 24)).run P w= .ok true w) (C:∀w,(Go.sizeOf (ρ.t 24)).run P w= .ok D.k w) {o:β->β->Int} (ho:fS o) (f:α->β) (g:Nat) (cb:Array aE) (Dp:∀args w,(callFunc g args).run P w= .ok (.enter g args) w) (B base:Nat) (w:aB) (b5:∀(W:aB) (x y:α) (vs us:List aE),Kt B [D.e] w W->D.rel W B x vs->D.rel W B y us->aN P g (#[.agg vs.toArray,.agg us.toArray]++cb) W λe w'=>e=aQ (J I (o (f x) (f y)))/\cm W w') (v:aE) (l:List α) (u:Ow D w B base v l) (hB:B<=base) (dK:D.e∉D.bI) (ce:l.length<4611686018427387904):aN P (ρ.f 6) #[v,.func (.func g) #[] cb] w λe w'=>e=aQ (bn #[])/\∃r,r.Perm l/\(r.Pairwise λx y=>¬o (f y) (f x)<0)/\Ow D w' B base v r/\Kt B [D.e] w w'/\(∀a,cm a w->a.heap.size<=base->cm a w')/\∀a,aF a w->a.heap.size<=base->aF a w':=by
 obtain⟨us,H,Y⟩:=u.A;rcases Y.2 with⟨rfl,h2⟩|⟨oJ,cap,cur,rfl,rf,hg,fP,dL,cS,IB⟩
 ·obtain rfl:=sb h2;refine(AnyF.slices_SortFunc_none L M 0 (.func (.func g) #[] cb) w).ah ?_;rintro e w'⟨rfl,rfl⟩;exact⟨rfl,[],.refl _,.nil,u,Kt.refl _ _ _,λa h _=>h,λa h _=>h⟩
 obtain⟨zs,q,Z⟩:=H.zip;by_cases h0:zs=[]
 ·subst h0;simp at q;subst q;refine(AnyF.slices_SortFunc_none L _ cap (.func (.func g) #[] cb) w).ah ?_;rintro e w'⟨rfl,rfl⟩;exact⟨rfl,[],.refl _,.nil,u,Kt.refl _ _ _,λa h _=>h,λa h _=>h⟩
 obtain⟨O,ef⟩:∃z,z∈zs:=List.exists_mem_of_ne_nil _ h0;letI:Inhabited (Cl D w B):=⟨O⟩
 have b:∀x:Cl D w B,x.1.2.length=D.k:=λx=>D.len x.2;have hn:zs.length=l.length:=by rw[<-q];simp
 have F:∀t∈D.bI,t∉[D.e]:=λt ht h=>dK ((bD.1 h)▸ht);have d:bp w D.e oJ:=⟨_,_,hg⟩;have yX:us.length=l.length*D.k:=H.len;have X:HoldsK (λz:Cl D w B=>z.1.2) D.k w oJ 0 zs.toArray:=by
  intro t ht;rw[Go.Sort.size_flatK] at ht;have G:t<zs.length*D.k:=am ht;rw[ig];refine⟨?_,frozen_of_row w oJ t cur D.e hg⟩;rw[cell_of_row w oJ t cur D.e (0,0) hg,Go.Sort.get_flatK _ _ _ _ ht];have p:=P2 (λz:Cl D w B=>z.1.2) D.k b D.pos zs t G;rw[Z] at p;have k:us[t]?=cur[t]?:=by
   rw[<-IB,List.getElem?_take,ag (by rw[<-hn];exact G)];simp
  rw[<-k,p];have n:t % D.k<(zs.toArray[t/D.k]!).1.2.length:=by rw[b];exact Nat.mod_lt _ D.pos
  rw[cR n];show ad _=ad ((zs.toArray[t/D.k]!).1.2[t % D.k]!);rw[getElem!_pos (zs.toArray[t/D.k]!).1.2 (t % D.k) n]
 have N:=AnyQ.slices_SortFunc L D.k E C (λz:Cl D w B=>z.1.2) b (λx=>D.one x.2) (λx y=>o (f x.1.1) (f y.1.1)) (WY ho (λx:Cl D w B=>f x.1.1)) g cb oJ 0 cap zs.toArray w Dp (λm os T _ x y=>by
  have c:=LM (λz:Cl D w B=>z.1.2) D.k w oJ m T os (B:=B) an d;refine(b5 _ x.1.1 y.1.1 x.1.2 y.1.2 c (D.keep x.2 c F) (D.keep y.2 c F)).ah ?_;rintro e w'⟨V,Dr⟩;exact⟨V,WX Dr⟩) X d.lt aw
 rw[show(zs.toArray).size=l.length by simp[hn]] at N;refine N.ah ?_;rintro e w'⟨rfl,d',m,os,U,hs,rfl⟩;obtain⟨S,_,Do⟩:=U;have nh:d'.size=l.length:=by rw[S];simp[hn]
 have Do:d'.toList.Perm zs:=by
  exact WZ
 have c:=LM (λz:Cl D w B=>z.1.2) D.k w oJ m d' os (B:=B) an d;refine⟨rfl,d'.toList.map (λz=>z.1.1),?_,?_,⟨d'.toList.flatMap (λz=>z.1.2),Rs.P1 (λz=>D.keep z.2 c F) _,?_⟩,c,λa s Lb=>agv _ _ _ _ _ _ _ _ d s an,λa s Lb=>aF.of (s.aC.trans ((LM _ _ _ _ _ _ _ (B:=a.heap.size) an d).aC))⟩
 ·rw[<-q];exact Do.map _
 ·rw[sf,yw];intro i j hi hj R;have k:=hs i j (bV _) R (by simpa[nh] using hj);unfold ltOf at k;have Q:i<d'.size:=am hi;have ID:j<d'.size:=am hj;rw[getElem!_pos d' i Q,getElem!_pos d' j ID] at k;simpa using k
 ·have K:(d'.toList.flatMap (λz:Cl D w B=>z.1.2)).length=l.length*D.k:=by rw[WV _ D.k b];simp[nh]
  refine⟨by rw[K];simp[nh],.inr ⟨oJ,cap,_,by simp[nh],rf,agu _ _ _ _ _ _ _ hg,by simp[nh];omega,dL,by simpa[putCells] using cS,?_⟩⟩;apply List.ext_getElem?;intro t;rw[List.getElem?_take,Array.getElem?_toList];by_cases ht:t<l.length*D.k
  ·have LO:t<cur.size:=by rw[cS];exact da ht (sa _ fP)
   rw[ag ara];simp only[putCells,Array.getElem?_mapIdx,Array.getElem?_eq_getElem LO,tG];have LP:(flatK (λz:Cl D w B=>z.1.2) D.k d').size=l.length*D.k:=by rw[Go.Sort.size_flatK,nh]
   rw[ag (by rw[LP];omega),Nat.sub_zero,Go.Sort.get_flatK _ _ _ _ (by rw[nh];exact ht)];have p:=P2 (λz:Cl D w B=>z.1.2) D.k b D.pos d'.toList t ara;rw[p];have n:t % D.k<(d'[t/D.k]!).1.2.length:=by rw[b];exact Nat.mod_lt _ D.pos
   simp only[Array.toArray_toList];rw[cR n];simp[getElem!_pos,n]
  ·rw[af ara,List.getElem?_eq_none (by rw[K];omega)]
end
variable {B:Nat} {L aU:aZ} {u:aE}
theorem Ds (h:P:=by
 go_ret;exact⟨⟨_,rfl,bC⟩,HB.A.grown HO.A (aO _) bG⟩;):P:=h
theorem Ba (h:P:=by
 go_wp2;go_ret;exact⟨⟨_,rfl,Ow.bh _ _ _ _⟩,aF.refl _⟩;):P:=h
theorem Dt (h:P:=by
 exact sb an;):P:=h
def agJ {l:List (ByteArray×ByteArray)} (w:aB) (hB:B<=w.heap.size) (h:Vs bE w B v l) (hs:l.length*32<=140737488355328):aN aH 295 #[v] w λe w'=>(∃d,e=aQ d/\Ow bE w' B w.heap.size d l)/\aF w w':=by
 obtain⟨ao,n,cap,rfl,c,_⟩:=h.A;clear h;have u:∀w,(binOp .eql 49 (O ao n cap) (O M 0 0)).run aH w= .ok (aG ao.isNone) w:=λw=>by
  simp only[binOp];simp[run_equal_slice_nil w 49 78 ao n cap underlying49]
 have k:=c.len;cases ao with
 |none=>
  have o:l=[]:=by
   obtain⟨us,b,f⟩:=c.A;rcases kJ n with h|h
   ·exact Dt
   ·obtain⟨_,_,e,_⟩:=f (Nat.mul_pos h bE.pos);cases e
  subst o;clear c;go_enter func295,ntmps295;exact Ba
 |some a=>
  have HO:=E (Ow.AO (D:=bE) (base:=w.heap.size) w B (aO _));have HB:=E ((aF.refl w).alloc (aD #[] 78));have m:=E (show∃us,Rs bE (w.alloc (aD #[] 78)) B l us/\Sl (w.alloc (aD #[] 78)) (w.heap.size+1) (ad a) (n*bE.k) (λi=>us.getD i (aG false)) by
   have p:=c.al ((bk _ _).alloc (aO _) (aD #[] 78));obtain⟨us,b,f⟩:=p.A;have:=f.sink;rw[eO] at this;exact⟨us,b,this⟩)
  obtain⟨us,b,j⟩:=m.A;have s:=E b;have t:=E j;have g:=E (show([]:List (ByteArray×ByteArray)).length+n<=bK/\(([]:List (ByteArray×ByteArray)).length+n)*32<=140737488355328/\w.heap.size<=(w.alloc (aD #[] 78)).heap.size from⟨aqy,aqJ,av⟩);have q:=E k;have r:=E hB;clear b j m c hs k hB;go_enter func295,ntmps295;go_wp2_with ((refine mZ bE au (.tmp 5) (.tmp 6) 49 au w.heap.size 32 _ ar Dn au B _ [] au HO.A (ad a) n cap l us au s.A q.A (w.heap.size+1) t.A g.A.1 g.A.2.1 g.A.2.2 r.A Fk ?_;intro d w' bC bG x));exact Ds
def P4:KK aH 9 ByteArray where
 law:=Go.Maps.string_keyed underlying9
 kv:=.string
 ok s:=s.size<=bK
 lit:=λs hs=>⟨.string s.data.toList,by
  unfold keyOf
  rw[underlying9]
  simp[mapKey,underlying9,hs]⟩
 inj:=λa b _ _ h=>by injection h
def agK (b d a q1:ByteArray) (w:aB):aN aH 297 #[aY #[ap b,ap d],aY #[ap a,ap q1]] w λe w'=>e=aQ (J I (fO b a))/\cm w w':=by
 have c:=E (λW=>PS b a W);generalize fO b a=x at c⊢;go_enter func297,ntmps297;go_wp2_with fail;refine(c.A _).ah ?_;rintro e f⟨rfl,rfl⟩;go_wp2;go_ret;exact⟨rfl,((cm.refl w).alloc _).alloc _⟩
def agL (B base:Nat) (w:aB) (v:aE) (l:List (ByteArray×ByteArray)) (c:Ow bE w B base v l) (hB:B<=base) (d:l.length<=1000):aN aH 296 #[v,.func (.func 297) #[] #[]] w λe w'=>e=aQ (bn #[])/\∃b,b.Perm l/\(b.Pairwise λx y=>¬fO y.1 x.1<0)/\Ow bE w' B base v b/\Kt B [bE.e] w w'/\(∀a,cm a w->a.heap.size<=base->cm a w')/\∀a,aF a w->a.heap.size<=base->aF a w':=by
 refine P3 bE Tryz.agA (λw=>by kernel_rfl) (λw=>by kernel_rfl) CY (λp=>p.1) 297 #[] (enters_of func297 ar rfl) B base w ?_ v l c hB Fk an;rintro W x y vs us _⟨rfl,_,_⟩⟨rfl,_,_⟩;exact agK x.1 x.2 y.1 y.2 W
def agM {l:aZ} (h:¬tT l):qd l=M:=by unfold qd;rw[af h]
def agN {l:aZ} (h:tT l):qd l=ad (oB fU l):=by unfold qd;rw[ag h]
def agO {l a:aZ} (hn:(l.map (·.1)).Nodup) (b:a.Perm l) (hs:a.Pairwise λx y=>¬fO y.1 x.1<0):a=oB fU l:=by
 refine aeN Ij ?_ (Wa hn) (λx=>b.mem_iff);have e:(a.map (·.1)).Nodup:=((b.map (·.1)).nodup_iff).2 hn;have d:=hs.and (sf.1 e);refine List.Pairwise.imp ?_ d;intro x y ⟨h2,c⟩;refine afR ?_;rcases CY.AG x.1 y.1 with h|h|h
 ·exact h
 ·exact ae h c
 ·exact ae h h2
def yY (l:aZ):List (ByteArray×aE):=l.map λp=>(p.1,aG true)
open Classical in
theorem agP {l:aZ} {s:ByteArray}:gF (yY l) s=if s∈l.map (λp:ByteArray×ByteArray=>p.1) then ad (aG true) else M:=by
 unfold gF yY;induction l with
 |nil=>simp
 |cons p l a=>
  simp only[sd,List.find?_cons];by_cases h:p.1=s
  ·simp[h]
  ·have h':¬s=p.1:=λe=>h e.symm;simp only[h,decide_false,ee,h',false_or];exact a
def Xb {l:aZ} (h:(l.map (·.1)).Nodup):jt (yY l):=by
 unfold jt yY;rw[sf];exact sf.1 h
def P5 (w:aB) (hB:B<=w.heap.size) (h:Vs bE w B v L):aN aH 263 #[v] w λe w'=>sB bE w' B e (qd L)/\aF w w':=by
 have HH:=E h;obtain⟨ao,c,rfl,m,cn,b4⟩:=h.hN;clear h;have AZ:=E m;clear m;have m:=AZ;clear AZ;have q:∀k:Int,k≠0->¬tT L->∀w',aF w w'->sB bE w' B (aQ (bn #[O M 0 0,J I k])) (qd L):=λk u hn w' _=>by
  rw[agM hn];exact⟨_,k,u,rfl,[],Vs.bh _ _ _⟩
 have q:=E q;by_cases cg:L.length<=16;case neg=>
  have o:=E (show¬tT L fromλh=>cg h.1);go_enter func263,ntmps263;go_wp2;go_ret2;exact⟨q.A 4 aq o.A _ (aF.refl _),aF.refl _⟩
 have aJ:decide ((16:Int)<(L.length:Int))=false:=aa an;go_enter func263,ntmps263;go_wp2;go_loopw [17] (λi wr=>∃k:Nat,k<=L.length/\i=J I k/\a6 (∀p∈L.take k,p.2.size<=64)/\aF w wr) (λi _=>L.length-(intOf i).toNat);case atStart=>exact⟨0,an,rfl,E av,aF.refl _⟩
 case round=>
  obtain⟨k,u,rfl,l,d⟩:=hrel;by_cases j:k<L.length
  ·obtain⟨b,off,rfl,cw,X,dS⟩:=m.A.cells (B:=0) d.aC j;have r:=E (show L.take (k+1)=L.take k++[(nm L k,vl L k)] by rw[yz j,sA j]);have N:=E (show(nm L k,vl L k)∈L from sA j▸dl j);have fo:=(m.A.sz k j).2;generalize nm L k=s0 at*;generalize vl L k=s1 at*;by_cases c1:64<s1.size
   ·have o:=E (show¬tT L fromλh=>by have:=h.2.1 _ N.A;simp at this;omega);have d1:decide ((64:Int)<(s1.size:Int))=true:=ac an;go_wp2;go_ret2;exact⟨q.A 4 aq o.A _ (d.alloc _),d.alloc _⟩
   ·have n:=E (show∀p∈L.take (k+1),p.2.size<=64 by
     rw[r.A];intro p f;rcases kf.1 f with f|f
     ·exact l.A p f
     ·rw[bD] at f;subst f;show s1.size<=64;omega)
    have d1:decide ((64:Int)<(s1.size:Int))=false:=aa an;go_wp2;go_roundw;case rel=>exact⟨k+1,an,by go_num,n,d.alloc _⟩
    case measure=>exact aA
  obtain rfl:k=L.length:=an;have HV:=E (show∀p∈L,p.2.size<=64 by have:=l.A;rwa[pZ] at this);go_wp2;go_loopw [28] (λi wr=>∃k:Nat,k<=L.length/\i=J I k/\a6 (∀p∈L.take k,pq p.1)/\aF w wr) (λi _=>L.length-(intOf i).toNat);case atStart=>exact⟨0,an,rfl,E av,d⟩
  case round=>
   clear l;obtain⟨k,u,rfl,l,d⟩:=hrel;by_cases j:k<L.length
   ·obtain⟨b,off,rfl,cw,X,dS⟩:=m.A.cells (B:=0) d.aC j;have r:=E (show L.take (k+1)=L.take k++[(nm L k,vl L k)] by rw[yz j,sA j]);have N:=E (show(nm L k,vl L k)∈L from sA j▸dl j);have s:=(m.A.sz k j).1;generalize nm L k=s0 at*;generalize vl L k=s1 at*;cases c1:db s0
    ·have o:=E (show¬tT L fromλh=>by have:=h.2.2.1 _ N.A;exact Lq.1 c1 this);go_wp2_with fail;refine(mu s0 _ s).ah ?_;rintro e S⟨rfl,rfl⟩;rw[c1];go_wp2;go_ret2;exact⟨q.A 7 aq o.A _ (d.alloc _),d.alloc _⟩
    ·have n:=E (show∀p∈L.take (k+1),pq p.1 by
      rw[r.A];intro p f;rcases kf.1 f with f|f
      ·exact l.A p f
      ·rw[bD] at f;subst f;exact nM.1 c1)
     go_wp2_with fail;refine(mu s0 _ s).ah ?_;rintro e S⟨rfl,rfl⟩;rw[c1];go_wp2;go_roundw;case rel=>exact⟨k+1,an,by go_num,n,d.alloc _⟩
     case measure=>exact aA
   obtain rfl:k=L.length:=an;have nj:=E (show∀p∈L,pq p.1 by have:=l.A;rwa[pZ] at this);have ka:=run_makeMap (P:=aH) 408 wr;have HS:=m.A.cells (B:=0) d.aC (k:=0);go_wp2;have D:=E (Mp.made P4 wr);have bN:=d.alloc (.map #[] 0);clear ka HS l;obtain⟨R,H⟩:=aP wr.heap.size;rw[H] at D⊢;have G:w.heap.size<=R:=by rw[<-H];exact d.size
   clear H d;go_loopw [40] (λi wr=>∃k:Nat,k<=L.length/\i=J I k/\a6 (((L.take k).map (·.1)).Nodup)/\aF w wr/\a6 (Mp P4 wr R (yY (L.take k)))) (λi _=>L.length-(intOf i).toNat);case atStart=>exact⟨0,an,rfl,E av,bN,D⟩
   case round=>
    clear D bN;obtain⟨k,u,rfl,l,d,Xc⟩:=hrel;by_cases j:k<L.length
    ·obtain⟨b,off,rfl,cw,X,dS⟩:=m.A.cells (B:=0) d.aC j;have r:=E (show L.take (k+1)=L.take k++[(nm L k,vl L k)] by rw[yz j,sA j]);have s:=(m.A.sz k j).1;generalize nm L k=s0 at*;generalize vl L k=s1 at*;have Xd:=E (Xc.A.alloc (aD #[ap s0,ap s1] 78));have t:((Instr.lookup 408 (.map (ad R)) (ap s0) false).run aH (wr.alloc (aD #[ap s0,ap s1] 78)))= .ok ((gF (yY (L.take k)) s0).getD (aG false)) (wr.alloc (aD #[ap s0,ap s1] 78)):=LB false Xd.A (Xb l.A) (by show s0.size<=bK;simpa[bK] using s) underlying408 (z:=aG false) ar;rw[agP] at t;by_cases c1:s0∈(L.take k).map (λp:ByteArray×ByteArray=>p.1)
     ·rw[ag c1] at t;have o:=E (show¬tT L fromλh=>by
       have h4:=h.2.2.2;rw[<-List.take_append_drop (k+1) L,r.A,lK,lK] at h4;have:=(List.nodup_append.1 (List.nodup_append.1 h4).1).2.2 s0 c1 s0 av;exact this rfl)
      simp only[Option.getD_some] at t;clear c1;go_wp2;go_ret2;exact⟨q.A 6 aq o.A _ (d.alloc _),d.alloc _⟩
     ·rw[af c1] at t;simp only[Option.getD_none] at t;obtain⟨C,bS,F,T⟩:=run_store (v:=aG true) Xd.A (Xb l.A) (a:=s0) (by show s0.size<=bK;simpa[bK] using s) underlying408;have bS:((Instr.mapUpdate 408 (.map (ad R)) (ap s0) (aG true)).run aH (wr.alloc (aD #[ap s0,ap s1] 78)))= .ok () C:=bS;have n:=E (show((L.take (k+1)).map (·.1)).Nodup/\Mp P4 C R (yY (L.take (k+1))) by
       rw[r.A];refine⟨?_,?_⟩
       ·rw[lK,List.nodup_append];refine⟨l.A,av,λx hx y V e=>?_⟩;simp at V;subst V;subst e;exact c1 hx
       ·rw[Ly (λe W IE=>?_)] at F
        ·unfold yY;rw[lK];exact F
        ·unfold yY at W;obtain⟨p,f,rfl⟩:=hM.1 W;exact c1 (hM.2 ⟨p,f,IE⟩))
      have cP:aF w C:=aF.of ((d.alloc (aD #[ap s0,ap s1] 78)).aC.grown T (d.alloc _).size (λg e=>by cases e;exact G));clear F T c1;go_wp2;go_roundw;case rel=>exact⟨k+1,an,by go_num,E n.A.1,cP,E n.A.2⟩
      case measure=>exact aA
    obtain rfl:k=L.length:=an;have Z:=E (show tT L from⟨cg,HV.A,nj.A,by have:=l.A;rwa[pZ] at this⟩);have K:=d.size;clear Xc l;go_wp2_with fail;refine(agJ _ (a8 hB K) (HH.A.al d.aC) an).ah ?_;rintro e S⟨⟨v1,rfl,A⟩,aW⟩;have vt:=aW.size;have IF:=E A;obtain⟨A1,c1,rfl,_⟩:=A.shape;clear A;go_wp2_with fail;refine(agL B wr.heap.size _ _ L IF.A (a8 hB K) an).ah ?_;rintro e w2⟨rfl,U,f,hs,Q,cx,Dr,Y⟩;have n:=E (show qd L=ad U by rw[agN Z.A,agO Z.A.2.2.2 f hs]);have ce:U.length=L.length:=f.length_eq;have iJ:=E Q.vs;have ff:=E (Y w (d.trans aW) K);clear f hs cx Dr Y Q;go_wp2;go_ret2;refine⟨?_,?_⟩
    ·rw[n.A];exact⟨_,rfl,iJ.A⟩
    ·exact ff.A
def Xe (s t:ByteArray) (w:aB) (hB:B<=w.heap.size) (hs:s.size<=9223372036854775807) (l:t.size<=9223372036854775807) (h:Vs bE w B v L):aN aH 237 #[v,ap s,ap t] w λe w'=>sB bE w' B e (vk L s t)/\aF w w':=by
 have y:=E h;obtain⟨ao,c,rfl,_⟩:=h.len_;clear h;have H:(tU L s).length<=16:=a8 (List.length_filter_le _ _) (LL L);have g:=E (show vk L s t=qd (tU L s++[(s,t)]) from rfl);generalize vk L s t=r at g⊢;go_enter func237,ntmps237;go_wp2_with fail;refine(WU s _ hB y.A).ah ?_;rintro e d⟨⟨A,rfl,b⟩,a⟩;have q:=E b;have j:=a.size;have f:=E (aF.of a);have u:=E (show bE.rel d B (s,t) [ap s,ap t] from⟨rfl,hs,l⟩);have x:=E (show((tU L s).length+1)*32<=140737488355328 by omega);generalize tU L s=m at*;clear b a;go_wp2_with (first|(refine WS bE d [ap s,ap t] au (.tmp 10) (.tmp 14) 49 au w.heap.size 32 _ ar Dn au B _ m (s,t) au au q.A u.A x.A aq j hB Fk ?_;intro C w' p D G i;have n:=P5 w' (a8 hB (i w f.A (aO _)).size) p.vs)|(refine n.ah ?_));rintro e z⟨hg,o⟩;obtain⟨v3,F,rfl,k,_,_⟩:=hg.form;go_wp2;go_ret2;exact⟨g.A▸k,(i w f.A (aO _)).trans o⟩
def agQ (L:aZ) (s:ByteArray):gD (dG L) s=lP (dG L) s:=by unfold gD;rw[afT]
def Xf (w:aB) (hB:B<=w.heap.size) (h:Vs bE w B v L) (h2:Vs bE w B u aU):aN aH 235 #[v,u] w λe w'=>sB bE w' B e (so L aU)/\aF w w':=by
 have HH:=E h;have HM:=E h2;obtain⟨ao,c,rfl,_⟩:=h.len_;clear h;obtain⟨A2,c2,rfl,_⟩:=h2.len_;clear h2;have q:=E (show so L aU=qd ((dG L).filter (λp=>(lP (dG aU) p.1).isNone)++dG aU) from rfl);generalize so L aU=r at q⊢;have M:=LL L;have jC:=E (WT L);have K:=LL aU;have HG:=E (agQ aU);obtain⟨X,hX⟩:=aP (dG L);obtain⟨Y,hY⟩:=aP (dG aU);have Xg:=E (λw (h:Vs bE w B (O ao L.length c) L)=>LI w h);have Xh:=E (λw (h:Vs bE w B (O A2 aU.length c2) aU)=>LI w h);rw[hX] at q M jC Xg;rw[hY] at q K HG Xh;clear hX hY;go_enter func235,ntmps235;go_wp2_with fail;refine(Xh.A _ HM.A).ah ?_;rintro e w1⟨⟨v1,rfl,z⟩,N⟩;have K1:=E z;obtain⟨A3,c3,rfl,_⟩:=z.len_;clear z;go_wp2_with fail;refine(Xg.A _ (HH.A.al N)).ah ?_;rintro e d⟨⟨v2,rfl,Z⟩,F⟩;have K2:=E (K1.A.al F);have U:aF w d:=(aF.of N).next F;have H:=a8 hB U.size;obtain⟨A4,c4,rfl,m,_⟩:=Z.hN;clear Z K1 N F;have AZ:=E m;clear m;have m:=AZ;clear AZ;go_wp2;go_loopw [6,16] (λu i wr=>∃(k:Nat) (aT:aZ),k<=X.length/\aT.length<=k/\i=J I k/\a6 (aT++(X.drop k).filter (λp=>(lP Y p.1).isNone)=X.filter (λp=>(lP Y p.1).isNone))/\aF d wr/\a6 (Ow bE wr B d.heap.size u aT)) (λ_ i _=>X.length-(intOf i).toNat);case atStart=>exact⟨0,[],an,aO _,rfl,E rfl,aF.refl _,E (Ow.bh _ _ _ _)⟩
 case round=>
  obtain⟨k,aT,hk,Iz,rfl,bj,f,G⟩:=hrel;by_cases g:k<X.length
  ·obtain⟨b,off,rfl,cw,ft,dS⟩:=m.A.cells (B:=0) f.aC g;have l:=E (P0 (λp:ByteArray×ByteArray=>(lP Y p.1).isNone) g aT);rw[bj.A,sA g] at l;have R:=E (jC.A _ (dl g));rw[sA g] at R;generalize nm X k=s0 at*;generalize vl X k=s1 at*;have S:=E (f.alloc (aD #[ap s0,ap s1] 78));have HO:=E (G.A.alloc (aD #[ap s0,ap s1] 78));have j:=E (Fi (B:=B) s0 _ (K2.A.al S.A.aC));rw[HG.A] at j;have A:=(aI.new wr 78 #[ap s0,ap s1]);cases c1:lP Y s0 with
   |some t0=>
    rw[c1] at j;have C:=E (show aT++(X.drop (k+1)).filter (λp=>(lP Y p.1).isNone)=X.filter (λp=>(lP Y p.1).isNone) by rw[l.A];simp[c1]);clear c1 l;go_wp2_with fail;refine(j.A).ah ?_;rintro e t⟨rfl,a⟩;go_wp2;go_roundw;case rel=>exact⟨k+1,aT,an,an,by go_num,C,S.A.next a,E (HO.A.al a)⟩
    case measure=>exact aA
   |none=>
    rw[c1] at j;have C:=E (show(aT++[(s0,s1)])++(X.drop (k+1)).filter (λp=>(lP Y p.1).isNone)=X.filter (λp=>(lP Y p.1).isNone) by rw[l.A];simp[c1]);clear c1 l;go_wp2_with fail;refine(j.A).ah ?_;rintro e t⟨rfl,a⟩;have cG:=A.al a A.lt;have q0:=cG.cell;have nQ:=E (HO.A.al a);have P6:=E (S.A.next a);have hU:=E P6.A.size;have HR:=E (show bE.rel t B (s0,s1) [ap s0,ap s1] from⟨rfl,a8 R.A.1 aq,a8 R.A.2 aq⟩);have o:=E (show(aT.length+1)*32<=140737488355328 by omega);clear A cG a;go_wp2_with ((refine WS bE t [ap s0,ap s1] au (.tmp 29) (.tmp 31) 49 au d.heap.size 32 _ ar Dn au B _ aT (s0,s1) au au nQ.A HR.A o.A aq hU.A H Fk ?_;intro v' w' n y eZ s));go_roundw;case rel=>exact⟨k+1,_,an,aw,by go_num,C,s d P6.A (aO _),E n⟩
    case measure=>exact aA
  ·obtain rfl:k=X.length:=by omega
   have HA:=E (show aT=X.filter (λp=>(lP Y p.1).isNone) by rw[<-bj.A,qT];simp);have Xi:=K2.A.al f.aC;obtain⟨A5,x,c5,gQ,Q,_⟩:=Xi.A;have fH:=E (show∃us,Rs bE wr B Y us/\Sl wr wr.heap.size A5 (x*bE.k) (λi=>us.getD i (aG false)) by
    obtain⟨us,hu,ht⟩:=Q.A;exact⟨us,hu,ht.sink⟩)
   have ri:=Q.len;obtain⟨us,Xj,V⟩:=fH.A;injection gQ with P8 P9 e53;have HU:=E Xj;have HS:=E V;have dt:=E f.size;have o:=E (show aT.length+x<=bK/\(aT.length+x)*32<=140737488355328 from⟨aqv,an⟩);have py:=E ri;subst P8 e53;subst P9;clear Xj V fH Q Xi;go_wp2_with ((refine mZ bE au (.tmp 34) (.tmp 35) 49 au d.heap.size 32 _ ar Dn au B _ aT au G.A _ Y.length _ Y us au HU.A rfl wr.heap.size HS.A o.A.1 o.A.2 dt.A H Fk ?_;intro v' w' n y eZ;have s:=f.grown G.A (aO _) y;have W:=E s;clear s;have ll:=E n.vs;clear n eZ y));refine(P5 w' (a8 H W.A.size) ll.A).ah ?_;rintro e w6⟨hg,D⟩;obtain⟨yZ,Dv,rfl,T,LQ,IH⟩:=hg.form;clear hg LQ IH;have T:=E T;have D:=E D;go_wp2;go_ret2;refine⟨?_,(U.trans W.A).trans D.A⟩;rw[q.A,<-HA.A];exact T.A
variable {w wr:aB} {ao:Option aX} {n k:Nat}
section
open im (dT)
def Rw.aL {α:Type} {D:Kr α} {l:List α} (h:Rw D w B ao n l) (hB:aS w.heap.size w wr) {k:Nat} (a:k<l.length):∃b off vs,ao=ad (ab b off M)/\b<w.heap.size/\D.rel wr B l[k] vs/\∀j v,vs[j]?=ad v->wr.cell? ⟨b,off+k*D.k+j,M⟩=ad v:=by
 obtain⟨b,off,vs,e,Z,c,h2⟩:=h.at_ a;exact⟨b,off,vs,e,Z,D.al c hB,λj v hv=>(hB.cell (p:=⟨b,off+k*D.k+j,M⟩) Z).trans (h2 j v hv)⟩
def Vs.be {α:Type} {D:Kr α} {l:List α} (h:Vs D w B v l):∃ao c,v=O ao l.length c/\Rw D w B ao l.length l/\l.length<=c/\c<=9223372036854775807:=by
 obtain⟨ao,n,c,rfl,h,a,h2⟩:=h.A;obtain rfl:=h.len;exact⟨ao,c,rfl,h,a,h2⟩
def Qa (t:Int) (w:aB):aN aH 60 #[J I t] w λe w'=>e=aQ (aG (dT t))/\w'=w:=by
 by_cases b:0<=t<;>by_cases h2:t<=9007199254740992;all_goals
  have a:=E (show dT t=(decide (0<=t)&&decide (t<=9007199254740992)) from rfl);simp only[b,h2,decide_true,decide_false,Bool.and_true,Bool.and_false] at a;go_enter func60,ntmps60;go_wp2;go_ret;exact⟨cc a.A.symm,rfl⟩
def Fl (t:Int) (w:aB):aN aH 39 #[J I t] w λe w'=>e=aQ (aG (j6 t))/\w'=w:=by
 by_cases b:-9007199254740992<=t<;>by_cases h2:t<=9007199254740992;all_goals
  have a:=E (show j6 t=(decide (-9007199254740992<=t)&&decide (t<=9007199254740992)) from rfl);simp only[b,h2,decide_true,decide_false,Bool.and_true,Bool.and_false] at a;go_enter func39,ntmps39;go_wp2;go_ret;exact⟨cc a.A.symm,rfl⟩
def Xk {s:List dC} (h:k<s.length):s[k]=(sT s k,sV s k):=by unfold sT sV;rw[dr h]
def Rw.sm {l:List dC} (h:Rw ja w B ao n l) (hB:aS w.heap.size w wr) {k:Nat} (a:k<l.length):∃b off,ao=ad (ab b off M)/\b<w.heap.size/\wr.cell? ⟨b,off+k*2,M⟩=ad (J I (sT l k))/\wr.cell? ⟨b,off+k*2+1,M⟩=ad (J I (sV l k)):=by
 obtain⟨b,off,vs,e,Z,c,h2⟩:=h.aL hB a;rw[Xk a] at c;obtain rfl:vs=[J I (sT l k),J I (sV l k)]:=c;exact⟨b,off,e,Z,h2 0 _ rfl,h2 1 _ rfl⟩
theorem Xl (h:P:=by
 go_wp2_with fail;refine(CT.A _).ah ?_;rintro e w1⟨rfl,rfl⟩;go_wp2_with fail;refine(CN.A _).ah ?_;rintro e w2⟨rfl,rfl⟩;go_wp2_with fail;refine du (cU 0 13 []) [] ?_;refine dY ?_;refine S4.nb λwq hq=>?_;refine dP ?_;go_wp2;go_roundw;case rel=>exact⟨k+1,an,by go_num,HN,bm.A.next hq⟩
 case measure=>exact aA
 ):P:=h
theorem Qb (h:P:=by
 have HS:=E (xb.A bj.A);go_wp2;go_ret;exact⟨cc HS.A.symm,hB⟩;):P:=h
def Xm {s:List dC} (w:aB) (h:Vs ja w B v s):aN aH 44 #[v] w λe w'=>e=aQ (aG (km s))/\aF w w':=by
 obtain⟨ao,cap,rfl,n,hn,N⟩:=h.be;have z:=E n;clear h n;by_cases f:s.length<=64;case neg=>
  have HS:=E (show km s=false by unfold km;simp[f]);go_enter func44,ntmps44;go_wp2;go_ret;exact⟨cc HS.A.symm,aF.refl _⟩
 have o:=E (λk (m:k<s.length) (h:AP s k=false)=>(show km s=false by unfold km;rw[tV m h,Bool.and_false]));have xb:=E (λ(h:cI s.length (AP s)=true)=>(show km s=true by unfold km;rw[h];simp[f]));have F:=E (λk=>(show AP s k=(dT (sT s k)&&j6 (sV s k)&&(k==0||decide (sT s (k-1)<sT s k))) from rfl));generalize km s=r at o xb⊢;go_enter func44,ntmps44;go_wp2;go_loopw [10] (λi wr=>∃k:Nat,k<=s.length/\i=J I k/\a6 (cI k (AP s)=true)/\aF w wr) (λi _=>s.length-(intOf i).toNat);case atStart=>exact⟨0,an,rfl,E rfl,aF.refl _⟩
 case round=>
  obtain⟨k,m,rfl,bj,hB⟩:=hrel;by_cases u:k<s.length
  ·obtain⟨b,off,rfl,U,O,S⟩:=z.A.sm hB.aC u;have a:=E (F.A k);have t:=E (o.A k u);have q:=E (λh=>wW bj.A (P:=AP s) h);have bm:=E (hB.alloc (aD #[J I (sT s k),J I (sV s k)] 65));by_cases c1:(dT (sT s k)&&j6 (sV s k))=true;case neg=>
    have HS:=E (show r=false from t.A (by rw[a.A,Bool.eq_false_iff.2 c1];rfl));have CT:=E (λW=>Qa (sT s k) W);have CN:=E (λW=>Fl (sV s k) W);generalize sT s k=T at*;generalize sV s k=V at*;generalize dT T=x at*;generalize j6 V=y at*;cases x
    ·go_wp2_with fail;refine(CT.A _).ah ?_;rintro e w1⟨rfl,rfl⟩;go_wp2;go_ret;exact⟨cc HS.A.symm,bm.A⟩
    ·obtain rfl:y=false:=by simpa using c1
     clear c1;go_wp2_with fail;refine(CT.A _).ah ?_;rintro e w1⟨rfl,rfl⟩;go_wp2_with fail;refine(CN.A _).ah ?_;rintro e w2⟨rfl,rfl⟩;go_wp2;go_ret;exact⟨cc HS.A.symm,bm.A⟩
   have l:dT (sT s k)=true:=by simp at c1;exact c1.1
   have g:j6 (sV s k)=true:=by simp at c1;exact c1.2
   have CT:=E (λW=>l▸Qa (sT s k) W);have CN:=E (λW=>g▸Fl (sV s k) W);rw[c1] at a;clear c1 l g;by_cases c3:k=0
   ·have HN:=E (q.A (by rw[a.A,c3];rfl));have C:decide (0<k)=false:=aa an;clear c3;generalize sT s k=T at*;generalize sV s k=V at*;exact Xl
   obtain⟨j,hj⟩:=aP (k-1);have C:0<k:=an;have A:j<s.length:=an;have R:I.wrap (j:Int)=(j:Int):=ay;have L:(k:Int)-1=(j:Int):=an;obtain⟨b',K,D,Y,c,_⟩:=z.A.sm bm.A.aC A;cases D;have X:=hB.size;have H:=λp:ba (wr.alloc (aD #[J I (sT s k),J I (sV s k)] 65))=>p.cell (by show b<_;simp;omega) c;have G:∀p:ba (wr.alloc (aD #[J I (sT s k),J I (sV s k)] 65)),p.aL.cell? (ab wr.heap.size 0 M)=ad (J I (sT s k)):=ba.cells (aI.new wr _ _) 0;rw[hj] at a;have d:(k==0)=false:=aw;rw[d] at a;clear hj c d;by_cases c4:sT s k<=sT s j
   ·have HS:=E (show r=false from t.A (by rw[a.A,aa an];rfl));have c5:decide (sT s k<=sT s j)=true:=ac c4;clear c4;generalize sT s k=T at*;generalize sV s k=V at*;generalize sT s j=T2 at*;go_wp2_with fail;refine(CT.A _).ah ?_;rintro e w1⟨rfl,rfl⟩;go_wp2_with fail;refine(CN.A _).ah ?_;rintro e w2⟨rfl,rfl⟩;go_wp2_with fail;refine du (cU 0 13 []) [] ?_;refine dY ?_;refine S4.nb λwq hq=>?_;refine dP ?_;go_wp2;go_ret;exact⟨cc HS.A.symm,bm.A.next hq⟩
   ·have HN:=E (q.A (by rw[a.A,ac an];rfl));have c5:decide (sT s k<=sT s j)=false:=aa c4;clear c4;generalize sT s k=T at*;generalize sV s k=V at*;generalize sT s j=T2 at*;exact Xl
  ·obtain rfl:k=s.length:=by omega
   exact Qb
theorem Xn (h:P:=by
 go_enter func141,ntmps141;go_wp2_with fail;refine(Xm _ HH.A).ah ?_;rintro e w1⟨rfl,Z⟩;rw[c1];go_wp2;go_ret;exact⟨rfl,Z⟩;):P:=h
def Qc {s:List dC} (w:aB) (h:Vs ja w B v s):aN aH 141 #[v] w λe w'=>(e=aQ (if km s=true then v else O M 0 0))/\aF w w':=by
 obtain⟨ao,c,rfl,_⟩:=h.len_;have HH:=E h;clear h;cases c1:km s
 ·exact Xn
 ·exact Xn
def Xo {s:List dC} (h:Vs ja w B v s):Vs ja w B (if km s=true then v else O M 0 0) (pw s):=by
 unfold pw;split
 ·exact h
 ·exact Vs.bh _ _ _
end
variable {a:bb} {o:bv} {t:bf} {Q:Exit->bb->aB->Prop} {ops:Array bv} {B':Nat} {rest:List bv}
section
open Go.ChangeMaps Go.MapKept
section
variable {α:Type} {P:cp}
theorem MR {P:Prop} (h:P:=by
 have:(l.length+1)*1<=(l.length+1)*bytes:=Nat.mul_le_mul_left _ qY;simp only[bK];omega;):P:=h
def uv (D:Kr α) (E:o.guard=M) (s x:Operand) (t:bf) (ho:o.op= .call {callee:=.builtin .append,args:=#[s,x],argTypes:=#[t,t]}) (base bytes:Nat) (z:aE) (p:P.underlying t=ad (.slice D.e)) (hi:(P.info? D.e).map (λi=>(i.zero,i.size,i.bytes))=ad (ad z,D.k,bytes)) (m:z.cells.size=D.k) (qY:1<=bytes) (B:Nat) (v:aE) (l:List α) (hs:a.eval s=v) (W:aB) (vs:List aE) (y:α) (n:a.eval x=O (ad (ab W.heap.size 0 M)) 1 1) (g:Ow D W B base v l) (hrel:D.rel W B y vs) (C:(l.length+1)*bytes<=140737488355328) (f:base<=W.heap.size) (hB:B<=base) (G:D.e∉D.bI) (h:∀c w',Ow D w' B base c (l++[y])->(∀a0,aF a0 W->a0.heap.size<=base->aF a0 w')->Kt B [D.e] W w'->(∀r,r<W.heap.size->(∀T,¬bp W T r)->w'.heap[r]?=W.heap[r]?)->wpList P ops Q rest (a.put o.dst c) w'):wpList P ops Q (o::rest) a (W.alloc (aD vs.toArray D.e)):=by
 have H:=D.len hrel;have k:Sl (W.alloc (aD vs.toArray D.e)) (W.heap.size+1) (ad (ab W.heap.size 0 M)) (1*D.k) (λi=>vs.getD i (aG false)):=Sl.lit W D.e vs (1*D.k) an;have b:=(bk W.heap.size W).alloc (aO _) (aD vs.toArray D.e);have j:=g.alloc (aD vs.toArray D.e);have F:l.length+1<=bK:=by
  exact MR
 refine mZ D E s x t ho base bytes z p hi m B v l hs j (ad (ab W.heap.size 0 M)) 1 1 [y] vs n (Rs.single (D.al hrel b)) rfl _ k F C (a8 f b.size) hB G λc w' A h2 w=>?_;refine h c w' A (λa0 q Z=>(q.alloc _).grown j Z h2) ((Kt.lQ b (a8 hB f)).trans w) λr d u=>?_;refine(h2.block r (da d b.size) λe=>?_).trans (b.block r d);exact u _ (g.row r e.symm).2
def MU (w:aB) (h:Vs bE w B v L):aN aH 19 #[v] w λe w'=>e=aQ (aG (bH L))/\aF w w':=(LH w h).mono λ_ _ h=>⟨h.1,h.2.PD⟩
def ZY (w:aB) (a:Vs bE w B v L) (h2:Vs bE w B' u aU):aN aH 45 #[v,u] w λe w'=>e=aQ (J I (cmpL L aU))/\aF w w':=(LJ w a h2).mono λ_ _ h=>⟨h.1,h.2.PD⟩
end
section
variable {P:cp} {k:bf} {κ:Type} {Q:KK P k κ} {α β:Type} {D:Kr α} {ZZ:Kr β} {w w':aB} {r b B B2 base:Nat} {S:List bf} {es todo:List (κ×α)} {v:aE} {l:List β}
def Mt.grown [DecidableEq κ] (h:Mt Q D w B r es) (ho:Ow ZZ w B2 base v l) (hg:w.grownBy w' v.ownBlock) (a:Kt B S w w') (h2:∀t∈D.bI,t∉S):Mt Q D w' B r es:=by
 refine h.keep a h2 (hg.block r h.lt ?_);intro e;have:=(ho.row r e.symm).2;exact h.lk _ this
def j7.lt [DecidableEq κ] (h:j7 Q D w B r b es todo):r<w.heap.size:=by
 obtain⟨cd,vq,a,_⟩:=h.A;exact a.lt
def j7.lk [DecidableEq κ] (h:j7 Q D w B r b es todo) (T:bf):¬bp w T r:=by
 obtain⟨cd,vq,d,_⟩:=h.A;obtain⟨ms,cl,dB,seen,c0,_,_,_,c,_⟩:=d.A;rintro⟨cs,fr,a⟩;rw[c] at a;cases a
def j7.grown [DecidableEq κ] (h:j7 Q D w B r b es todo) (ho:Ow ZZ w B2 base v l) (hg:w.grownBy w' v.ownBlock) (a:Kt B S w w') (h2:∀t∈D.bI,t∉S):j7 Q D w' B r b es todo:=by
 refine h.of_block a h2 (hg.block r h.lt ?_) (hg.block b h.mt.lt ?_)
 ·intro e;exact h.lk _ (ho.row r e.symm).2
 ·intro e;exact h.mt.lk _ (ho.row b e.symm).2
def j7.alloc [DecidableEq κ] (h:j7 Q D w B r b es todo) (o:Obj):j7 Q D (w.alloc o) B r b es todo:=h.al ((bk _ _).alloc (aO _) o)
def aF.cD {a w w':aB} (h:aF a w) {r:Nat} (hg:w.grownBy w' (ad r)) (b:a.heap.size<=r):aF a w':=aF.of (h.aC.grown hg h.size (λg e=>by cases e;exact b))
def aI.cD {w w':aB} {r:Nat} (h:aI w g t cs) (hg:w.grownBy w' (ad r)) (a:g≠r):aI w' g t cs:=h.grown hg (λe=>a aqE)
end
end
section
open Go.Lib Go.Shelf
open Go.Sort (PermIn SortedIn SWO putCells putRow mapBlock onCells grow Holds)
section
variable {α β:Type} {D:Kr α} {w:aB} {B:Nat}
def CA (z:Cl D w B):aE:=z.1.2.headD (aG false)
def Og (a:D.k=1) (z:Cl D w B):z.1.2=[CA z]:=by
 have h:=D.len z.2;unfold CA;rw[a] at h;match hz:z.1.2,h with
 |[v],_=>rfl
def TG (a:D.k=1):∀zs:List (Cl D w B),zs.flatMap (λz=>z.1.2)=zs.map CA
 |[]=>rfl
 |z::zs=>by rw[List.flatMap_cons,TG a zs,Og a z];simp[CA]
end
def amr [Inhabited α] (enc:α->aE) (w:aB) (g m:Nat) (d:Array α) (os:Array Obj) {cur:Array aE} {e:bf} {fr:Nat×Nat} (hg:w.heap[g]?=ad (aD cur e fr)):(sortWorld enc w g 0 m d os).heap[g]?=ad (aD (putCells enc 0 d cur) e fr):=by
 have a:g<w.heap.size:=(lJ.1 hg).1;show(w.heap.modify g (onCells (putCells enc 0 d))++os)[g]?=_;rw[Array.getElem?_append,ag (am a),yu,ag rfl,hg];rfl
def acT [Inhabited α] (enc:α->aE) (w:aB) (g m:Nat) (d:Array α) (os:Array Obj) {b:Nat} (Z:b<w.heap.size) (a:b≠g):(sortWorld enc w g 0 m d os).heap[b]?=w.heap[b]?:=by
 show(w.heap.modify g (onCells (putCells enc 0 d))++os)[b]?=_;rw[Array.getElem?_append,ag (am Z),yu,af (λe=>a e.symm)]
def TH [Inhabited α] (enc:α->aE) (w:aB) (g m:Nat) (d:Array α) (os:Array Obj) {B:Nat} {T:bf} (hB:B<=g) (hg:bp w T g):Kt B [T] w (sortWorld enc w g 0 m d os) where
 os:=rfl
 tape:=rfl
 output:=rfl
 size:=by simp[sortWorld,grow,putRow,mapBlock,Go.Sort.ahead]
 low:=λb Z=>acT enc w g m d os (ai hg.lt) an
 typed:=λe b c a=>acT enc w g m d os a.lt (by rintro rfl;exact c (bD.2 (a.q9 hg)))
def ams {P:cp} {ρ:Ren} (D:Kr α) (b:D.k=1) (L:SlLaysF.n6 P ρ) (d:SlLaysF0.n6 P ρ) {o:β->β->Int} (ho:fS o) (f:α->β) (g:Nat) (cb:Array aE) (Y:∀args w,(callFunc g args).run P w= .ok (.enter g args) w) (B base:Nat) (w:aB) (b5:∀(W:aB) (x y:α) (v u:aE),Kt B [D.e] w W->D.rel W B x [v]->D.rel W B y [u]->aN P g (#[v,u]++cb) W λe w'=>e=aQ (J I (o (f x) (f y)))/\cm W w') (v:aE) (l:List α) (k:Ow D w B base v l) (hB:B<=base) (U:D.e∉D.bI) (ce:l.length<4611686018427387904):aN P (ρ.f 6) #[v,.func (.func g) #[] cb] w λe w'=>e=aQ (bn #[])/\∃q,q.Perm l/\Ow D w' B base v q/\Kt B [D.e] w w'/\∀a,aF a w->a.heap.size<=base->aF a w':=by
 obtain⟨us,K,T⟩:=k.A;rcases T.2 with⟨rfl,h2⟩|⟨oJ,cap,cur,rfl,rf,hg,fP,dL,cS,IB⟩
 ·obtain rfl:=sb h2;refine(AnyF.slices_SortFunc_none d M 0 (.func (.func g) #[] cb) w).ah ?_;rintro e w'⟨rfl,rfl⟩;exact⟨rfl,[],.refl _,k,Kt.refl _ _ _,λa h _=>h⟩
 obtain⟨zs,j,C⟩:=K.zip;rw[TG b] at C;by_cases h0:zs=[]
 ·subst h0;simp at j;subst j;refine(AnyF.slices_SortFunc_none d _ cap (.func (.func g) #[] cb) w).ah ?_;rintro e w'⟨rfl,rfl⟩;exact⟨rfl,[],.refl _,k,Kt.refl _ _ _,λa h _=>h⟩
 obtain⟨F,Z⟩:∃z,z∈zs:=List.exists_mem_of_ne_nil _ h0;letI:Inhabited (Cl D w B):=⟨F⟩
 rw[b] at cS IB;rw[Nat.mul_one] at cS IB;have hn:zs.length=l.length:=by rw[<-j];simp
 have n:∀t∈D.bI,t∉[D.e]:=λt ht h=>U ((bD.1 h)▸ht);have i:bp w D.e oJ:=⟨_,_,hg⟩;have R:Holds (CA:Cl D w B->aE) w oJ 0 zs.toArray:=by
  intro t ht;have p:t<zs.length:=am ht;rw[ig];refine⟨?_,frozen_of_row w oJ t cur D.e hg⟩;rw[cell_of_row w oJ t cur D.e (0,0) hg];have S:us[t]?=cur[t]?:=by
   rw[<-IB,List.getElem?_take,ag (by rw[<-hn];exact p)];simp
  rw[<-S,<-C,tJ,cR p];rw[getElem!_pos zs.toArray t ht];rfl
 have E:=Any.slices_SortFunc L (CA:Cl D w B->aE) (λx=>D.one x.2 _ (by rw[Og b x];simp)) (λx y=>o (f x.1.1) (f y.1.1)) (WY ho (λx:Cl D w B=>f x.1.1)) g cb oJ 0 cap zs.toArray w Y (λm os H _ x y=>by
  have c:=TH (CA:Cl D w B->aE) w oJ m H os (B:=B) an i;have s:=D.keep x.2 c n;have r:=D.keep y.2 c n;rw[Og b x] at s;rw[Og b y] at r;refine(b5 _ x.1.1 y.1.1 _ _ c s r).ah ?_;rintro e w'⟨O,X⟩;exact⟨O,WX X⟩) R i.lt aw
 rw[show(zs.toArray).size=l.length by simp[hn]] at E;refine E.ah ?_;rintro e w'⟨rfl,d',m,os,N,_,rfl⟩;obtain⟨G,_,Do⟩:=N;have nh:d'.size=l.length:=by rw[G];simp[hn]
 have Do:d'.toList.Perm zs:=by
  exact WZ
 have c:=TH (CA:Cl D w B->aE) w oJ m d' os (B:=B) an i;refine⟨rfl,d'.toList.map (λz=>z.1.1),?_,⟨d'.toList.flatMap (λz=>z.1.2),Rs.P1 (λz=>D.keep z.2 c n) _,?_⟩,c,λa Q Lb=>aF.of (Q.aC.trans ((TH _ _ _ _ _ _ (B:=a.heap.size) an i).aC))⟩
 ·rw[<-j];exact Do.map _
 ·rw[TG b];refine⟨by simp[nh,b],.inr ⟨oJ,cap,_,by simp[nh],rf,amr _ _ _ _ _ _ hg,by simp[nh];omega,dL,by simpa[putCells,b] using cS,?_⟩⟩;apply List.ext_getElem?;intro t;rw[b,Nat.mul_one,List.getElem?_take,Array.getElem?_toList];by_cases ht:t<l.length
  ·have V:t<cur.size:=by omega
   rw[ag ara];simp only[putCells,Array.getElem?_mapIdx,Array.getElem?_eq_getElem V,tG];rw[ag (by rw[nh];omega),Nat.sub_zero,tJ,Array.getElem?_toList,Array.getElem?_eq_getElem an,getElem!_pos d' t an];rfl
  ·rw[af ara,List.getElem?_eq_none (by simp[nh];omega)]
end
def fE (a b:ByteArray) {K:Nat} (h:a.size+b.size<=K) (c:K<=9223372036854775807):∃s:ByteArray,s.size<=K/\∀W,(Op.stringOp .add a b).run aH W= .ok (ap s) W:=⟨a++b,by rw[ByteArray.size_append];exact h,λW=>run_string_add_sum W a b an⟩
def aof (n:Int):1<=(Lib.itoa n).length:=by
 have h:∀u,1<=(qU u).length:=λu=>by
  unfold qU;split<;>simp
 unfold Lib.itoa;split
 ·simp
 ·exact h _
def aog (l:List UInt8) (c:UInt8):(Lib.trimRightB l c).length<=l.length:=by
 unfold Lib.trimRightB;rw[List.length_reverse];exact a8 (List.dropWhile_sublist _).length_le av
def OX (n:Int) (h0:-9223372036854775808<=n) (a:n<=9223372036854775807) (w:aB) (b:eK w):aN aH 223 #[J I n] w λe w'=>(∃s:ByteArray,e=aQ (ap s)/\s.size<=21/\1<=s.size)/\aF w w':=by
 refine(Tryz.strconv_Itoa n h0 a w (b.pow w (bk _ _))).ah ?_;rintro e w'⟨rfl,k,os,rfl⟩;refine⟨⟨_,rfl,?_,?_⟩,aF.of (Lib.below_grow _ w (aO _) k os)⟩
 ·have:=Lib.itoa_length_le n h0 a;simpa[ByteArray.size] using this
 ·have:=aof n;simpa[ByteArray.size] using this
theorem aev (h:P:=by
 have qo:=E lf;clear Cf lI lf bd;by_cases hz:p=0
 ·have d0:(p==0)=true:=by simpa using hz
  clear hz;go_wp2;go_ret;exact⟨⟨_,rfl,ai qo.A⟩,bm.A⟩
 have d0:(p==0)=false:=am hz;obtain⟨r,hr⟩:=aP (1000+p);have aiR:wrap64 r=r:=by have:=HP.A;unfold wrap64;omega
 have wi:=E (OX r (ai HP.A) (ai HP.A) w2 (cY.A.rel bm.A));clear hz;go_wp2_with fail;refine wi.A.ah ?_;rintro e w3⟨⟨t3,rfl,pe,ap4⟩,ct⟩;have bL:=E (bm.A.trans ct);obtain⟨t4,ox,x5⟩:=fE t2 ⟨#[46]⟩ (K:=40) (by have:=qo.A;show t2.size+1<=40;omega) aq;have wI:=E ox;have sY:(t3.extract 1 t3.size).size<=21:=by rw[ByteArray.size_extract];omega
 obtain⟨Cx,fp,HTR⟩:∃Cx:ByteArray,a6 (Cx.size<=21)/\a6 (∀W,aN aH 259 #[ap (t3.extract 1 t3.size),ap ⟨#[48]⟩] W λe w'=>e=aQ (ap Cx)/\w'=W):=⟨_,E (a8 (Nat.le_of_eq lM) (a8 (aog (t3.extract 1 t3.size).data.toList 48) (a8 (Nat.le_of_eq (Array.length_toList)) sY))),E λW=>Tryz.strings_TrimRight_one (t3.extract 1 t3.size) 48 aq W an⟩;clear ct wi ox sY;go_wp2_with fail;refine(HTR.A _).ah ?_;rintro e w4⟨rfl,rfl⟩;obtain⟨t5,EW,Kc⟩:=fE t4 Cx (K:=90) (aj wI.A fp.A) aq;have Tr:=E EW;clear EW HTR;go_wp2;go_ret;exact⟨⟨_,rfl,ai Tr.A⟩,bL.A⟩;):P:=h
def aoh (v:Int) (w:aB) (l:eK w) (hv:j6 v=true):aN aH 222 #[J I v] w λe w'=>(∃s:ByteArray,e=aQ (ap s)/\s.size<=100)/\aF w w':=by
 have cY:=E l;have hn:=Fl v w;rw[hv] at hn;have Z:-9007199254740992<=v/\v<=9007199254740992:=by unfold j6 at hv;simpa using hv
 have k:=E Z;clear l hv;have d:∀x:Int,0<=x->x<=9007199254740992->wrap64 x=x:=λx h0 F=>by unfold wrap64;omega
 by_cases g:v<0
 ·have d1:decide (v<0)=true:=ac g;obtain⟨u,i⟩:=aP (-v);have D:I.wrap (-v)=u:=by rw[i];rw[b7];omega
  have b:=E (show 0<=u/\u<=9007199254740992 by omega);clear Z g i k;go_enter func222,ntmps222;go_wp2_with fail;refine hn.ah ?_;rintro e j⟨rfl,rfl⟩;clear hn;obtain⟨q,n,a⟩:∃q:Int,u.tdiv 1000=q/\(0<=q/\q<=9007199254740992):=⟨_,rfl,Int.tdiv_nonneg b.A.1 aq,Int.le_trans (Int.tdiv_le_self _ b.A.1) b.A.2⟩;obtain⟨p,o,c⟩:∃p:Int,u.tmod 1000=p/\(0<=p/\p<1000):=⟨_,rfl,Int.tmod_nonneg _ b.A.1,Int.tmod_lt_of_pos _ aq⟩;have t:=d q a.1 a.2;have C:=d p c.1 an;have z:=E a;have HP:=E c;have Cf:=E (OX q an an j cY.A);clear d a c;go_wp2_with fail;refine Cf.A.ah ?_;rintro e w2⟨⟨f,rfl,lI,_⟩,bd⟩;have bm:=E bd;obtain⟨t2,lf,m⟩:=fE ⟨#[45]⟩ f (K:=30) (by show 1+f.size<=30;omega) aq;exact aev
 ·have d1:decide (v<0)=false:=aa g;obtain⟨u,i⟩:=aP v;have b:=E (show 0<=u/\u<=9007199254740992 by omega);subst i;clear Z g k;go_enter func222,ntmps222;go_wp2_with fail;refine hn.ah ?_;rintro e j⟨rfl,rfl⟩;clear hn;obtain⟨q,n,a⟩:∃q:Int,v.tdiv 1000=q/\(0<=q/\q<=9007199254740992):=⟨_,rfl,Int.tdiv_nonneg b.A.1 aq,Int.le_trans (Int.tdiv_le_self _ b.A.1) b.A.2⟩;obtain⟨p,o,c⟩:∃p:Int,v.tmod 1000=p/\(0<=p/\p<1000):=⟨_,rfl,Int.tmod_nonneg _ b.A.1,Int.tmod_lt_of_pos _ aq⟩;have t:=d q a.1 a.2;have C:=d p c.1 an;have z:=E a;have HP:=E c;have Cf:=E (OX q an an j cY.A);clear d a c;go_wp2_with fail;refine Cf.A.ah ?_;rintro e w2⟨⟨f,rfl,lI,_⟩,bd⟩;have bm:=E bd;obtain⟨t2,lf,m⟩:=fE ⟨#[]⟩ f (K:=30) (by show 0+f.size<=30;omega) aq;exact aev
def MV:(aH.info? 176).map (λi=>(i.zero,i.size,i.bytes))=ad (ad (aY #[J I 0,J I 0,ap ⟨#[]⟩]),3,32):=ar
def MW:kM.e∉kM.bI:=aq
def pG (s:ByteArray) (i j:Nat) (a:i<=j) (h2:j<=s.size):(s.extract i j).size=j-i:=by
 rw[ByteArray.size_extract];omega
def MX (s:ByteArray) (i k:Nat) (h:i+k<s.size):dp (s.extract i s.size) k=dp s (i+k):=by
 have a:=pG s i s.size an (aO _);unfold dp;rw[dif_pos an,dif_pos h,ByteArray.getElem_extract]
def ajp (c d a:Nat):gJ c false d=gJ c false a:=by unfold gJ;simp
def ajq (s:ByteArray) (i:Nat) (h:i<s.size):gJ (dp (s.extract i s.size) 0) (decide (1<(s.extract i s.size).size)) (dp (s.extract i s.size) 1)=gW s i:=by
 unfold gW;have b:=pG s i s.size an (aO _);rw[MX s i 0 an,b];by_cases a:i+1<s.size
 ·rw[MX s i 1 a,show decide (1<s.size-i)=true from ac an,show decide (i+1<s.size)=true from ac a];rfl
 ·rw[show decide (1<s.size-i)=false from aa an,show decide (i+1<s.size)=false from aa a];exact ajp _ _ _
def Z0 {P:Nat->Bool} {s:ByteArray} (hi:i<s.size) (h:ib P (s.extract i s.size) 1 n):ib P s (i+1) (i+n)/\1<=n/\i+n<=s.size:=by
 have a:=pG s i s.size an (aO _);have hh:=h.hi;rw[a] at hh;refine⟨⟨ai h.le,an,λk h2 b=>?_,λh2=>?_⟩,h.le,an⟩
 ·have:=h.on (k-i) an an;rwa[MX s i (k-i) an,show i+(k-i)=k by omega] at this
 ·have:=h.off an;rwa[MX s i n h2] at this
def BJ (n:Nat) (t:List Tok):Prop:=∀x∈t,0<=x.p/\x.p<=n/\x.s.size<=n
def ajr (s:ByteArray) (i:Nat):(gW s i).1=0\/(gW s i).1=1\/(gW s i).1=2\/(gW s i).1=3\/((gW s i).1=4/\1<=(gW s i).2/\(gW s i).2<=2/\((gW s i).2=2->i+1<s.size)):=by
 unfold gW gJ;repeat' split
 all_goals simp
 rename_i h;simp at h;exact h.1.2
def str_slice (s:ByteArray) (i j:Nat) (a:i<=j) (h2:j<=s.size) (W:aB):(iV 9 (ap s) (ad (J I (i:Int))) (ad (J I (j:Int))) M).run aH W= .ok (ap (s.extract i j)) W:=by
 rw[run_slice_string_if (h:=underlying9)];simp[a,h2]
def MY (s:ByteArray) (i n:Nat) (w:aB) (hs:s.size<=9223372036854775807) (hi:i+n<=s.size):aN aH 129 #[ap s,J I ((i:Int)+(n:Int))] w λe w'=>(∃j:Nat,e=aQ (J I j)/\i+n<=j/\j<=s.size/\(Plain s->ib mH s (i+n) j))/\w'=w:=ZJ s (i+n) w hs hi
def MZ {t:List Tok} (h:BJ n t) (x:Tok) (c:0<=x.p) (h2:x.p<=n) (b:x.s.size<=n):BJ n (t++[x]):=λy a=>by
 rcases kf.1 a with a|a
 ·exact h y a
 ·rw[bD] at a;subst a;exact⟨c,h2,b⟩
def ajs {s:ByteArray} (h:gW s i=(3,n)) (hi:i<s.size) (c:Plain s):False:=by
 have b:dp s i=34:=by
  have a:(gW s i).1=3:=by rw[h]
  unfold gW gJ at a;repeat' split at a
  all_goals first|(simp at a;done)|assumption
 exact(c i hi).1 b
theorem RN (h:P:=by
 refine(oF _).ah ?_;rintro e w3⟨⟨j,rfl,Jl,Bz,BK⟩,rfl⟩;clear oF;go_wp2;go_roundw;case rel=>exact⟨j,_,Bz,rfl,by simp;have:=HT.A;omega,fA _ HB.A (aO _),bC,E ⟨cQ.A,λhp=>dM.A j (BK hp) hp⟩⟩
 case measure=>exact aA
 ):P:=h
def ajt (s:ByteArray) (w:aB) (hs:s.size<=1000000):aN aH 96 #[ap s] w λe w'=>(∃z t,∃(n:Nat) (k:Int),e=aQ (bn #[z,J I n,J I k])/\Ow kM w' w.heap.size w.heap.size z t/\BJ s.size t/\t.length<=65536/\(Plain s->if k=0 then mI s s.size t else∃i u,mI s i u/\i<s.size/\((gW s i).1=0\/u.length=65536)))/\aF w w':=by
 have HS:=E hs;have D:s.size<=9223372036854775807:=an;have oF:=ZJ s 0 w D (bV _);go_enter func96,ntmps96;go_wp2_with fail;refine oF.ah ?_;rintro e f⟨⟨ut,rfl,_,zq,qq⟩,rfl⟩;have zr:=E qq;clear oF qq;go_wp2;go_loopw [5,6] (λv5 K wr=>∃(i:Nat) (t:List Tok),i<=s.size/\K=J I i/\t.length<=65536/\aF f wr/\Ow kM wr f.heap.size f.heap.size v5 t/\a6 (BJ s.size t/\(Plain s->mI s i t))) (λ_ K _=>s.size-(intOf K).toNat);case atStart=>exact⟨ut,[],zq,rfl,av,aF.refl _,Ow.bh _ _ _ _,E ⟨λx hx=>by simp at hx,λhp=>.start (zr.A hp)⟩⟩
 case round=>
  clear zr;obtain⟨i,t,hi,rfl,F,hB,T,r⟩:=hrel;have HB:=E hB;have y:=E T;obtain⟨A0,c0,rfl,_⟩:=T.shape;clear hB T;by_cases v:i<s.size;case neg=>
   obtain rfl:i=s.size:=an;go_wp2;go_ret3;exact⟨⟨_,t,s.size,0,rfl,y.A,r.A.1,F,λhp=>by rw[ag rfl];exact r.A.2 hp⟩,HB.A⟩
  by_cases mJ:t.length=65536
  ·have X:=E (show Plain s->∃i u,mI s i u/\i<s.size/\((gW s i).1=0\/u.length=65536) fromλhp=>⟨i,t,r.A.2 hp,v,.inr mJ⟩);have S:((t.length:Int)==65536)=true:=aw;have HT:=E F;clear F;go_wp2;go_ret3;exact⟨⟨_,t,i,4,rfl,y.A,r.A.1,HT.A,λhp=>by rw[af aq];exact X.A hp⟩,HB.A⟩
  have S:((t.length:Int)==65536)=false:=aw;have HT:=E (show t.length+1<=65536 by omega);clear mJ F;have pH:=pG s i s.size hi (aO _);have Z1:1<=(s.extract i s.size).size:=an;have Z2:(s.extract i s.size).size<=9223372036854775807:=an;have d:=ajn (s.extract i s.size) wr Z2 Z1;rw[ajq s i v] at d;have V:=ajr s i;have l:=λb=>ai3 (s.extract i s.size) b wr Z2 Z1;have B:=ajo (s.extract i s.size) wr an;have H:=E (λ(n:Nat) (j:Nat) (h1:One s i (gW s i).1 n) (h2:ib mH s (i+n) j) (hp:Plain s)=>mI.step (r.A.2 hp) v h1 h2);have aM:=E (show gW s i=gW s i from rfl);obtain⟨⟨aJ,n0⟩,Y⟩:∃x,gW s i=x:=⟨_,rfl⟩;rw[Y] at V d;have g:=E Y;clear Y;dsimp only at V d;have q:=E r.A;clear r;rcases V with rfl|rfl|rfl|rfl|⟨rfl,Q,eg,lT⟩
  ·have X:=E (show Plain s->∃i u,mI s i u/\i<s.size/\((gW s i).1=0\/u.length=65536) fromλhp=>⟨i,t,q.A.2 hp,v,.inl (by rw[g.A])⟩);clear l B;go_wp2_with fail;refine d.ah ?_;rintro e a⟨rfl,rfl⟩;clear d;go_wp2;go_ret3;exact⟨⟨_,t,i,1,rfl,y.A,q.A.1,ai HT.A,λhp=>by rw[af aq];exact X.A hp⟩,HB.A⟩
  ·clear B;replace l:=l false;go_wp2_with fail;refine d.ah ?_;rintro e a⟨rfl,rfl⟩;clear d;go_wp2_with fail;refine l.ah ?_;rintro e a⟨⟨n,rfl,C⟩,rfl⟩;clear l;obtain⟨N,Q,c⟩:=Z0 v C;clear C;have o:(s.extract i (i+n)).size<=9223372036854775807:=by rw[pG s i (i+n) an c];omega
   have BL:I.wrap ((i:Int)+(n:Int))=(i:Int)+(n:Int):=ay;have oF:=λW=>MY s i n W D c;have cQ:=E (show BJ s.size (t++[⟨1,(i:Int),s.extract i (i+n)⟩]) from MZ q.A.1 ⟨1,(i:Int),s.extract i (i+n)⟩ av aw (by rw[pG s i (i+n) an c];omega));have dM:=E (λ(j:Nat) (h2:ib mH s (i+n) j) (hp:Plain s)=>(show mI s j (t++[⟨1,(i:Int),s.extract i (i+n)⟩]) by
    have m:=H.A n j ⟨rfl,.inr ⟨by rw[g.A];simp,by rw[g.A];exact N⟩⟩ h2 hp;rw[g.A] at m;exact m))
   have iG:(iV 9 (ap s) (ad (J I (i:Int))) (ad (J I ((i:Int)+(n:Int)))) M).run aH a= .ok (ap (s.extract i (i+n))) a:=str_slice s i (i+n) an c a;generalize s.extract i (i+n)=BM at*;go_wp2_with ((refine uv kM au (.tmp 75) (.tmp 80) 170 au f.heap.size 32 _ ar MV au aq f.heap.size _ t au a [J I 1,J I (i:Int),ap BM] ⟨1,(i:Int),BM⟩ au y.A ⟨rfl,o⟩ (ai HT.A) HB.A.size (aO _) MW ?_;intro z w' bC fA R L));exact RN
  ·clear B;replace l:=l true;go_wp2_with fail;refine d.ah ?_;rintro e a⟨rfl,rfl⟩;clear d;go_wp2_with fail;refine l.ah ?_;rintro e a⟨⟨n,rfl,C⟩,rfl⟩;clear l;obtain⟨N,Q,c⟩:=Z0 v C;clear C;have o:(s.extract i (i+n)).size<=9223372036854775807:=by rw[pG s i (i+n) an c];omega
   have BL:I.wrap ((i:Int)+(n:Int))=(i:Int)+(n:Int):=ay;have oF:=λW=>MY s i n W D c;have cQ:=E (show BJ s.size (t++[⟨2,(i:Int),s.extract i (i+n)⟩]) from MZ q.A.1 ⟨2,(i:Int),s.extract i (i+n)⟩ av aw (by rw[pG s i (i+n) an c];omega));have dM:=E (λ(j:Nat) (h2:ib mH s (i+n) j) (hp:Plain s)=>(show mI s j (t++[⟨2,(i:Int),s.extract i (i+n)⟩]) by
    have m:=H.A n j ⟨rfl,.inr ⟨by rw[g.A];simp,by rw[g.A];exact N⟩⟩ h2 hp;rw[g.A] at m;exact m))
   have iG:(iV 9 (ap s) (ad (J I (i:Int))) (ad (J I ((i:Int)+(n:Int)))) M).run aH a= .ok (ap (s.extract i (i+n))) a:=str_slice s i (i+n) an c a;generalize s.extract i (i+n)=BM at*;go_wp2_with ((refine uv kM au (.tmp 75) (.tmp 80) 170 au f.heap.size 32 _ ar MV au aq f.heap.size _ t au a [J I 2,J I (i:Int),ap BM] ⟨2,(i:Int),BM⟩ au y.A ⟨rfl,o⟩ (ai HT.A) HB.A.size (aO _) MW ?_;intro z w' bC fA R L));exact RN
  ·clear l;have Jj:=E (show¬Plain s fromλhp=>ajs g.A v hp);go_wp2_with fail;refine d.ah ?_;rintro e a⟨rfl,rfl⟩;clear d;go_wp2_with fail;refine B.ah ?_;rintro e w3⟨⟨p,n,k,rfl,ng,hn,O⟩,Z⟩;clear B;rw[pH] at ng hn;have U:=E (HB.A.trans Z);have nQ:=E (y.A.al Z.aC);clear Z;have BL:I.wrap ((i:Int)+(n:Int))=(i:Int)+(n:Int):=ay;by_cases G:k=0
   ·subst G;have Q:=O rfl;clear O;have o:p.size<=9223372036854775807:=an;have oF:=λW=>MY s i n W D an;have cQ:=E (show BJ s.size (t++[⟨3,(i:Int),p⟩]) from MZ q.A.1 ⟨3,(i:Int),p⟩ av aw arf);go_wp2_with ((refine uv kM au (.tmp 75) (.tmp 80) 170 au f.heap.size 32 _ ar MV au aq f.heap.size _ t au w3 [J I 3,J I (i:Int),ap p] ⟨3,(i:Int),p⟩ au nQ.A ⟨rfl,o⟩ (ai HT.A) U.A.size (aO _) MW ?_;intro z w' bC fA R L));refine(oF _).ah ?_;rintro e w4⟨⟨j,rfl,Jl,Bz,BK⟩,rfl⟩;clear oF;go_wp2;go_roundw;case rel=>exact⟨j,_,Bz,rfl,by simp;have:=HT.A;omega,fA _ U.A (aO _),bC,E ⟨cQ.A,λhp=>ae hp Jj.A⟩⟩
    case measure=>exact aA
   ·have jv:(k !=0)=true:=by simp;exact G
    have HK:=E G;clear O G;go_wp2;go_ret3;exact⟨⟨_,t,i+n,k,rfl,nQ.A,q.A.1,ai HT.A,λhp=>ae hp Jj.A⟩,U.A⟩
  ·clear B l;have c:i+n0<=s.size:=by
    rcases gy n0 2 with h|h
    ·omega
    ·have:=lT an;omega
   go_wp2_with fail;refine d.ah ?_;rintro e a⟨rfl,rfl⟩;clear d;have o:(s.extract i (i+n0)).size<=9223372036854775807:=by rw[pG s i (i+n0) an c];omega
   have BL:I.wrap ((i:Int)+(n0:Int))=(i:Int)+(n0:Int):=ay;have oF:=λW=>MY s i n0 W D c;have cQ:=E (show BJ s.size (t++[⟨4,(i:Int),s.extract i (i+n0)⟩]) from MZ q.A.1 ⟨4,(i:Int),s.extract i (i+n0)⟩ av aw (by rw[pG s i (i+n0) an c];omega));have dM:=E (λ(j:Nat) (h2:ib mH s (i+n0) j) (hp:Plain s)=>(show mI s j (t++[⟨4,(i:Int),s.extract i (i+n0)⟩]) by
    have m:=H.A n0 j ⟨rfl,.inl ⟨by rw[g.A],by rw[g.A]⟩⟩ h2 hp;rw[g.A] at m;exact m))
   have iG:(iV 9 (ap s) (ad (J I (i:Int))) (ad (J I ((i:Int)+(n0:Int)))) M).run aH a= .ok (ap (s.extract i (i+n0))) a:=str_slice s i (i+n0) an c a;generalize s.extract i (i+n0)=BM at*;go_wp2_with ((refine uv kM au (.tmp 75) (.tmp 80) 170 au f.heap.size 32 _ ar MV au aq f.heap.size _ t au a [J I 4,J I (i:Int),ap BM] ⟨4,(i:Int),BM⟩ au y.A ⟨rfl,o⟩ (ai HT.A) HB.A.size (aO _) MW ?_;intro z w' bC fA R L));exact RN
variable {j:Nat}
section
open Go.Shelf
open im (dT)
attribute [local go_sem] Oper.semAt_some
def agT {s:List dC} (hj:j<s.length):s.reverse.take (s.length-j)=s.reverse.take (s.length-(j+1))++[s[j]]:=by
 have a:s.length-j=(s.length-(j+1))+1:=an;rw[a,yz aw];congr 1;rw[List.getElem_reverse];congr 2;omega
def agU (F:Fence) (n:Nat) (R:F.fn 184) (K:F.round=M) (hn:1<=n) (l Bs c B:Nat) (ao:Option aX) (cap:Nat) (s:List dC) (w0:aB) (d:Rw ja w0 B ao s.length s) (ij:s.length<=cap) (Y:cap<=9223372036854775807) (Z:w0.heap.size=c) (a G:List dC->aB->Prop) (N:∀pre x W,a pre W->pre.length<s.length->s.reverse.take (pre.length+1)=pre++[x]->YieldAt F (n-1) aH l #[aY #[J I x.1,J I x.2]] W λe W'=>(e=aQ (aG true)/\a (pre++[x]) W'/\aS c W W')\/(e=aQ (aG false)/\G (pre++[x]) W')) (W:aB) (f:W.cell? (ab Bs 0 M)=ad (O ao s.length cap)) (Q:aS c w0 W) (C:Bs<c\/∀pre D,a pre D->D.cell? (ab Bs 0 M)=ad (O ao s.length cap)) (h0:a [] W):CallsIn F n aH 184 #[.func (.yield l) #[] #[],bl (ad (ab Bs 0 M))] W λe W'=>(∃v,e=aQ v)/\((∃u,u=s.reverse/\a u W')\/(∃pre,(∃k,k<=s.length/\pre=s.reverse.take k)/\G pre W')):=by
 have X:=E d;clear d;have L:=E C;clear C;refine callsIn_of_wp func184 rfl R ?_ K;simp only[ntmps184,lM,pY,nF,Nat.reduceAdd,Nat.reduceSub,Array.replicate_succ,Array.replicate_zero,List.push_toArray,List.append_toArray,List.nil_append,List.cons_append];have Dw:I.wrap ((s.length:Int)-1)=(s.length:Int)-1:=ay;gi_wp2;gi_loopw [3] (λi wr=>∃k:Nat,k<=s.length/\i=J I ((k:Int)-1)/\a (s.reverse.take (s.length-k)) wr/\aS c w0 wr/\wr.cell? (ab Bs 0 M)=ad (O ao s.length cap)) (λi _=>(intOf i+1).toNat);case atStart=>exact⟨s.length,aO _,rfl,by rw[Nat.sub_self];exact h0,Q,f⟩
 case round=>
  clear f;obtain⟨k,hk,rfl,t,H,f⟩:=hrel;by_cases o:k=0
  ·subst o;have m:=E t;clear t;gi_wp2;go_end0;exact⟨⟨_,rfl⟩,.inl ⟨_,rfl,by have:=m.A;rwa[Nat.sub_zero,show s.length=s.reverse.length by simp,pZ] at this⟩⟩
  ·obtain⟨j,rfl⟩:∃j,k=j+1:=⟨k-1,an⟩;have hj:j<s.length:=an;have S:((j+1:Nat):Int)-1=(j:Int):=an;rw[S];have g:=E (agT hj);obtain⟨b,off,z,il,ft,dS⟩:=X.A.sm (Z▸H) hj;have HA:=E z;obtain⟨fn,tmps,assign,body,y,d⟩:=N _ s[j] wr t aw (by
    rw[<-g.A];congr 1;simp;omega)
   rw[Xk hj] at y d g;dsimp only at y;have vj:decide ((0:Int)<=(j:Int))=true:=decide_eq_true an;have Dx:I.wrap ((j:Int)-1)=(j:Int)-1:=ay;generalize sT s j=T at*;generalize sV s j=V at*;subst z;gi_wp2;refine d.mono ?_;rintro e U (⟨rfl,A,w⟩|⟨rfl,r⟩)
   ·have q:U.cell? (ab Bs 0 M)=ad (O (ad (ab b off M)) s.length cap):=by
     rcases L.A with h|h
     ·exact(w.cell (p:=(ab Bs 0 M)) h).trans f
     ·exact h _ _ A
    gi_wp2;go_roundw;case rel=>exact⟨j,an,rfl,by rw[g.A];exact A,H.trans w,q⟩
    case measure=>simp[intOf]
   ·gi_wp2;refine bF (results_none rfl _ _ _) rfl ?_;exact⟨⟨_,rfl⟩,.inr ⟨_,⟨s.length-j,an,g.A.symm⟩,r⟩⟩
def Xr (ao:Option aX) (m c:Nat) (w:aB):aN aH 142 #[O ao m c] w λe w'=>e=aQ (.func (.func 184) #[] #[bl (ad (ab w.heap.size 0 M))])/\w'=w.alloc (aD #[O ao m c] 110):=by
 go_enter func142,ntmps142;go_wp2;go_ret;exact⟨rfl,rfl⟩
def Xs (f:α->dC) (sl:List α) (F:Fence) (n:Nat) (S:F.fn 184) (E:F.round=M) (hn:1<=n) (Bs d B:Nat) (ao:Option aX) (cap:Nat) (s:List dC) (hs:sl.map f=s) (w0 w:aB) (R:Rw ja w0 B ao s.length s) (K:s.length<=cap) (D:cap<=9223372036854775807) (Z:w0.heap.size=d) (t:aS d w0 w) (r:aI w Bs 110 #[O ao s.length cap]) (Kp:aB->aB->Prop) (z:∀W W',Kp W W'->aS d W W'/\(aI W Bs 110 #[O ao s.length cap]->aI W' Bs 110 #[O ao s.length cap])):SeqStopsK F n aH 184 #[bl (ad (ab Bs 0 M))] (λx:α=>#[aY #[J I (f x).1,J I (f x).2]]) Kp (λq=>q=sl.reverse) (λpre=>∃k,pre=sl.reverse.take k) s.length w:=λl X V W v _ _ Q h0=>by
 have c:aI W Bs 110 #[O ao s.length cap]:=r.al v r.lt;have Qe:sl.length=s.length:=by rw[<-hs];simp
 refine agU F n S E hn l Bs d B ao cap s w0 R K D Z (λpre W'=>(∃a,pre=a.map f/\a=sl.reverse.take a.length/\X a W')/\aI W' Bs 110 #[O ao s.length cap]) (λpre W'=>∃a,pre=a.map f/\(∃k,a=sl.reverse.take k)/\V a W') ?_ W (c.cell 0) (t.trans (v.mono (ai t.size))) (.inr λpre C h=>h.2.cell 0) ⟨⟨[],rfl,av,h0⟩,c⟩|>.mono ?_
 ·rintro pre x C⟨⟨a,rfl,N,p⟩,U⟩ y i;rw[p6] at i y;have H:a.length<sl.reverse.length:=aw;have j:sl.reverse.take (a.length+1)=a++[sl.reverse[a.length]]:=by rw[yz H,<-N]
  have g:x=f sl.reverse[a.length]:=by
   rw[<-hs,<-List.map_reverse,<-List.map_take,j,lK] at i;have:=List.append_cancel_left i;simpa using this.symm
  subst g;obtain⟨T,tmps,assign,body,L,G⟩:=Q a sl.reverse[a.length] C p y;refine⟨T,tmps,assign,body,L,G.mono ?_⟩;rintro e Y (⟨b,m,u⟩|⟨b,h⟩)
  ·exact .inl ⟨b,⟨⟨_,av,by rw[b2,p8,j],m⟩,(z _ _ u).2 U⟩,(z _ _ u).1⟩
  ·exact .inr ⟨b,_,av,⟨a.length+1,j.symm⟩,h⟩
 ·rintro e W'⟨b,⟨q,c,⟨a,h2,o,h4⟩,_⟩|⟨pre,c,a,h2,o,h4⟩⟩
  ·refine⟨b,.inl ⟨a,?_,h4⟩⟩;have:a.length=sl.reverse.length:=by
    have:=congrArg oz h2;rw[c] at this;simp at this;simp;omega
   rw[o,this,pZ]
  ·exact⟨b,.inr ⟨a,o,h4⟩⟩
def jd (g:Nat) (t:bf) (cs:β->Array aE):Own (λ(s:β) W=>aI W g t (cs s)):=λs ao B row hs hg a=>by
 refine(hg.block g hs.lt (λe=>?_)).trans hs;obtain⟨o,ho,b⟩:=a g e.symm;have:ao.heap[g]?=ad (aD (cs s) t (0,0)):=hs;rw[this] at ho;cases ho;cases b
def Fm (p:β->Prop):Own (λ(s:β) (_:aB)=>p s):=λs ao B row hs hg a=>hs
def Own.nR {β:Type} {c b:β->aB->Prop} (h:Own c) (h':Own b):Own (λs W=>c s W/\b s W):=λs ao B row hs hg a=>⟨h s ao B row hs.1 hg a,h' s ao B row hs.2 hg a⟩
def Own.comp {a:γ->aB->Prop} (h:Own a) (g:β->γ):Own (λs W=>a (g s) W):=λs ao B row hs hg b=>h (g s) ao B row hs hg b
def OwnFrom.comp {D:Nat} {a:γ->aB->Prop} (h:OwnFrom D a) (g:β->γ):OwnFrom D (λs W=>a (g s) W):=λs ao B row hs hg b=>h (g s) ao B row hs hg b
abbrev xd:={x:dC//dT x.1=true}
def cd (l:List xd):List dC:=l.map (·.1)
def Qf:∀{l:List dC},(∀x∈l,dT x.1=true)->∃sl:List xd,sl.map (·.1)=l
 |[],_=>⟨[],rfl⟩
 |x::l,h=>by
  obtain⟨sl,hs⟩:=Qf (l:=l) λy a=>h y (by simp[a])
  exact⟨⟨x,h x av⟩::sl,by simp[hs]⟩
def LU (t:Int) (pre:List dC):Prop:=∀y∈pre,t<y.1
def Fp (t:Int) (pre:List dC):Prop:=pre≠[]/\(∀y∈pre.dropLast,t<y.1)/\(pre.getLastD (0,0)).1<=t
def LV (w:aB) (t wd:Int):Code->List dC->aB->Prop
 |.ret,pre,W=>(((Fp t pre/\t-(pre.getLastD (0,0)).1<wd)/\aI W (w.heap.size+1+1) 65 #[J I (pre.getLastD (0,0)).1,J I (pre.getLastD (0,0)).2])/\aI W (w.heap.size+1+1+1) 4 #[aG true])/\aS w.heap.size w W
 |.exit 0,pre,W=>(((Fp t pre/\¬t-(pre.getLastD (0,0)).1<wd)/\aI W (w.heap.size+1+1) 65 #[J I 0,J I 0])/\aI W (w.heap.size+1+1+1) 4 #[aG false])/\aS w.heap.size w W
 |_,_,_=>False
def LV.own (w:aB) (t a:Int) (D:Nat) (b:w.heap.size<=D) (c:Code):OwnFrom D (LV w t a c):=by
 cases c with
 |ret=>exact OwnFrom.and (Own.from (Own.nR (Own.nR (Fm λpre:List dC=>Fp t pre/\t-(pre.getLastD (0,0)).1<a) (jd _ _ λpre:List dC=>#[J I (pre.getLastD (0,0)).1,J I (pre.getLastD (0,0)).2])) (jd _ _ λ_=>#[aG true])) _) (ownFrom_below (aO _) b)
 |exit k=>
  cases k with
  |zero=>exact OwnFrom.and (Own.from (Own.nR (Own.nR (Fm λpre:List dC=>Fp t pre/\¬t-(pre.getLastD (0,0)).1<a) (jd _ _ λ_=>#[J I 0,J I 0])) (jd _ _ λ_=>#[aG false])) _) (ownFrom_below (aO _) b)
  |succ k=>exactλ_ _ _ _ h _ _=>h
 |_=>exactλ_ _ _ _ h _ _=>h
def Qg {t a:Int}:∀{pre rest:List dC},Fp t pre->atR t a (pre++rest)=if t-(pre.getLastD (0,0)).1<a then ad (pre.getLastD (0,0)) else M
 |[],_,h=>absurd rfl h.1
 |[x],rest,h=>by
  have:=h.2.2
  simp at this
  simp only[List.singleton_append,atR]
  rw[if_neg an]
  rfl
 |x::y::l,rest,h=>by
  have c:=h.2.1 x av
  simp only[List.cons_append,atR]
  rw[if_pos c]
  exact Qg (pre:=y::l) ⟨av,λz b=>h.2.1 z (by simp at b⊢;exact .inr b),h.2.2⟩
def Xu {t a:Int}:∀{l:List dC},(∀y∈l,t<y.1)->atR t a l=M
 |[],_=>rfl
 |x::l,h=>by
  rw[atR,if_pos (h x av)]
  exact Xu λy b=>h y (by simp[b])
theorem Xv (h:P:=by
 have f20:=x3.frozen 0;have f21:=x3.frozen 1;have f30:=x4.frozen 0;have g0:=x3.cell 0;have g1:=x3.cell 1;have g2:=x4.cell 0;simp at g0 g1 g2;gi_wp2;have y3:=((x3.put 0 (J I 0)).put 1 (J I 0)).bT (p:=⟨w.heap.size+1+1+1,0,M⟩) aqo (aG false);have y4:=((x4.bT (p:=⟨w.heap.size+1+1,0,M⟩) aqh (J I 0)).bT (p:=⟨w.heap.size+1+1,1,M⟩) aqh (J I 0)).put 0 (aG false);have y5:=((Dy.setCell (p:=⟨w.heap.size+1+1,0,M⟩) aqf (J I 0)).setCell (p:=⟨w.heap.size+1+1,1,M⟩) aqf (J I 0)).setCell (p:=⟨w.heap.size+1+1+1,0,M⟩) aqi (aG false);have yK:(((W.setCell ⟨w.heap.size+1+1,0,M⟩ (J I 0)).setCell ⟨w.heap.size+1+1,1,M⟩ (J I 0)).setCell ⟨w.heap.size+1+1+1,0,M⟩ (aG false)).heap[D]?=ad (.deferred (ad [])):=(((yB _ _ _).trans (yB _ _ _)).trans (yB _ _ _)).same D _ hK rfl;clear f20 f21 f30 g0 g1 g2;generalize(((W.setCell ⟨w.heap.size+1+1,0,M⟩ (J I 0)).setCell ⟨w.heap.size+1+1,1,M⟩ (J I 0)).setCell ⟨w.heap.size+1+1+1,0,M⟩ (aG false))=W9 at*;have hZ:=grownBy_putObj' W9 D (.deferred M);have sC:∀r,ad D=ad r->∃o:Obj,W9.heap[r]?=ad o/\o.isCells=false:=λr e=>by cases e;exact⟨_,yK,rfl⟩
 have v3:=jd (β:=Unit) _ _ (λ_=>#[J I 0,J I 0]) () _ _ _ y3 hZ sC;have v4:=jd (β:=Unit) _ _ (λ_=>#[aG false]) () _ _ _ y4 hZ sC;have g0:=v3.cell 0;have g1:=v3.cell 1;have g2:=v4.cell 0;simp at g0 g1 g2;refine⟨av,.inl ⟨_,_,rfl,run_takeDeferred yK,?_⟩⟩;refine⟨bn #[aY #[J I 0,J I 0],aG false],by simp[bz,results234,go_sem,g0,g1,g2],by rw[HR.A];rfl,?_⟩;exact aF.of (y5.grown hZ y5.size (λk e=>by cases e;have:=sD.size;omega));):P:=h
theorem Xw (h:P:=by
 intro W l o o' hl ho hc _;have hg:=grownBy_putObj' W l o';refine⟨(bk _ W).grown hg (aj sD.size ((lJ.1 ho).1)) (λk e=>by cases e;have:=sD.size;omega),λZ=>?_⟩;exact jd (β:=Unit) Bs 110 (λ_=>#[O ao c.length cap]) () W _ (ad l) Z hg (λr e=>by cases e;exact⟨o,ho,hc⟩);):P:=h
theorem Xx (h:P:=by
 intro x a' X Y agY row hs hg hr;obtain⟨Bx,h1,h2,h3⟩:=hs;exact⟨Bx,h1,jd (β:=Unit) Bx 65 (λ_=>#[J I x.1.1,J I x.1.2]) () Y agY row h2 hg (λr e=>(hr r e).2),h3⟩;):P:=h
def agZ {s:List dC} (t a:Int) (w:aB) (Fq:-9223372036854775808<=t/\t<=9007199254740992) (h:Vs ja w B v s):aN aH 234 #[v,J I t,J I a] w λe w'=>e=aQ (bn #[aY #[J I ((AQ s t a).getD (0,0)).1,J I ((AQ s t a).getD (0,0)).2],aG (AQ s t a).isSome])/\aF w w':=by
 have HC:=E (Qc w h);have HV:=E (Xo h);have HE:=E (show AQ s t a=atR t a (pw s).reverse from rfl);have HS:=E (Px s);have Xy:=E (λb (Z:aS w.heap.size w b)=>Qc b (h.al Z));generalize AQ s t a=r at HE⊢;generalize(if km s=true then v else O M 0 0)=u at*;generalize pw s=c at*;obtain⟨A0,c0,rfl,_⟩:=h.len_;obtain⟨ao,cap,rfl,hR,ij,y7⟩:=HV.A.be;have HR:=E hR;clear h hR HV HC;refine(callsIn_wide (n:=3)).1 ?_;refine callsIn_of_wp_marks func234 rfl trivial ?_ rfl;simp only[ntmps234,lM,pY,nF,Nat.reduceAdd,Nat.reduceSub,Array.replicate_succ,Array.replicate_zero,List.push_toArray,List.append_toArray,List.nil_append,List.cons_append];have R:aS w.heap.size w ((((w.alloc (aD #[J I t] 3)).alloc (aD #[J I a] 3)).alloc (aD #[J I 0,J I 0] 65)).alloc (aD #[aG false] 4)):=(((((aF.refl w).alloc _).alloc _).alloc _).alloc _).aC;gi_wp2_with (refine⟨trivial,?_⟩;gi_at_call 141;refine(callsIn_wide.2 (Xy.A _ R)).mono ?_;rintro e b⟨rfl,aW⟩);refine⟨trivial,?_⟩;refine(callsIn_wide.2 (Xr ao c.length cap b)).mono ?_;rintro e w'⟨rfl,rfl⟩;gi_wp2;have m:=aW.aC;have vt:w.heap.size+4<=b.heap.size:=by have:=m.size;simp at this;omega
 have q0:aI (b.alloc (aD #[O ao c.length cap] 110)) w.heap.size 3 #[J I t]:=(((((aI.new w 3 #[J I t]).alloc (aD #[J I a] 3)).alloc (aD #[J I 0,J I 0] 65)).alloc (aD #[aG false] 4)).al m aw).alloc _;have q1:aI (b.alloc (aD #[O ao c.length cap] 110)) (w.heap.size+1) 3 #[J I a]:=by
  have:=((((aI.new (w.alloc (aD #[J I t] 3)) 3 #[J I a]).alloc (aD #[J I 0,J I 0] 65)).alloc (aD #[aG false] 4)).al m av).alloc (aD #[O ao c.length cap] 110);simpa using this
 have q2:aI (b.alloc (aD #[O ao c.length cap] 110)) (w.heap.size+1+1) 65 #[J I 0,J I 0]:=by
  have:=(((aI.new ((w.alloc (aD #[J I t] 3)).alloc (aD #[J I a] 3)) 65 #[J I 0,J I 0]).alloc (aD #[aG false] 4)).al m av).alloc (aD #[O ao c.length cap] 110);simpa using this
 have q3:aI (b.alloc (aD #[O ao c.length cap] 110)) (w.heap.size+1+1+1) 4 #[aG false]:=by
  have:=((aI.new (((w.alloc (aD #[J I t] 3)).alloc (aD #[J I a] 3)).alloc (aD #[J I 0,J I 0] 65)) 4 #[aG false]).al m av).alloc (aD #[O ao c.length cap] 110);simpa using this
 have q4:aI (b.alloc (aD #[O ao c.length cap] 110)) b.heap.size 110 #[O ao c.length cap]:=aI.new _ _ _;have sD:aS w.heap.size w (b.alloc (aD #[O ao c.length cap] 110)):=((aF.of (R.trans (m.mono aw))).alloc _).aC;have Qh:(b.alloc (aD #[O ao c.length cap] 110)).heap.size=b.heap.size+1:=av;generalize b.heap.size=Bs at*;generalize b.alloc (aD #[O ao c.length cap] 110)=W0 at*;clear R m aW Xy;obtain⟨sl,Q⟩:=Qf λx hx=>((Ip.1 HS.A).2.1 x hx).1;refine wpIn_rangeFunc_ownH rfl an (gf:=184) (lb:=#[bl (ad (ab Bs 0 M))]) rfl trivial (enters_of func184 ar rfl) (Xs (λx:xd=>x.1) sl _ _ trivial rfl an Bs w.heap.size B ao cap c Q w W0 HR.A ij y7 rfl sD q4 (λW W'=>aS w.heap.size W W'/\(aI W Bs 110 #[O ao c.length cap]->aI W' Bs 110 #[O ao c.length cap])) (λ_ _ h=>h)) (λh k=>⟨h.1.trans k.1,λx=>k.2 (h.2 x)⟩) ?hKb (bk _ _) (λ_=>rfl) (λ(pre:List xd) W=>(((((LU t (cd pre))/\aI W w.heap.size 3 #[J I t])/\aI W (w.heap.size+1) 3 #[J I a])/\aI W (w.heap.size+1+1) 65 #[J I 0,J I 0])/\aI W (w.heap.size+1+1+1) 4 #[aG false])/\aS w.heap.size w W) (λH (pre:List xd) W=>LV w t a H (cd pre) W) ?hI ?hIx ?h0 (λx a' W=>∃Bx,w.heap.size+3<Bx/\aI W Bx 65 #[J I x.1.1,J I x.1.2]/\a'={tmps:=#[O A0 s.length c0,J I t,J I a,cu,bl (ad (ab w.heap.size 0 M)),bl (ad ⟨w.heap.size+1,0,M⟩),bl (ad ⟨w.heap.size+1+1,0,M⟩),bl (ad ⟨w.heap.size+1+1+1,0,M⟩),bl (ad (ab Bx 0 M)),O A0 s.length c0,O ao c.length cap,.func (.func 184) #[] #[bl (ad (ab Bs 0 M))],aY #[J I x.1.1,J I x.1.2],cu,cu,cu,cu,cu,cu,cu,cu,cu,cu,cu,cu],defers:=[]}) ?hAx ?assign ?body ?done ?stop;case hKb=>
  exact Xw
 case hI=>exact OwnFrom.and (Own.from (Own.nR (Own.nR (Own.nR (Own.nR (Fm λpre:List xd=>LU t (cd pre)) (jd _ _ λ_=>#[J I t])) (jd _ _ λ_=>#[J I a])) (jd _ _ λ_=>#[J I 0,J I 0])) (jd _ _ λ_=>#[aG false])) _) (ownFrom_below (aO _) sD.size)
 case hIx=>exactλH=>OwnFrom.comp (LV.own w t a _ sD.size H) cd
 case h0=>exact⟨⟨⟨⟨⟨(show LU t (cd []) fromλy g=>absurd g (by simp[cd])),q0⟩,q1⟩,q2⟩,q3⟩,sD⟩
 case hAx=>
  exact Xx
 case assign=>
  rintro l pre x W K⟨⟨⟨⟨⟨j,G⟩,F⟩,d⟩,f⟩,i⟩ hK;gi_wp2;refine hK _ _ ((KeepsOthers.alloc _ _).from _) ⟨(bk _ W).alloc i.size _,λh=>h.alloc _⟩ ⟨⟨⟨⟨⟨j,G.alloc _⟩,F.alloc _⟩,d.alloc _⟩,f.alloc _⟩,i.alloc i.size _⟩ ⟨W.heap.size,ai f.lt,aI.new _ _ _,rfl⟩
 case body=>
  rintro l pre⟨⟨T,V⟩,q⟩ a' W hl⟨r,hr⟩⟨⟨⟨⟨⟨j,G⟩,F⟩,d⟩,f⟩,i⟩⟨Bx,aJ,oK,rfl⟩ aK;have Xz:cd (pre++[⟨(T,V),q⟩])=cd pre++[(T,V)]:=by simp[cd]
  have N:=E Xz;clear Xz;have Qi:0<=T:=by simp[dT] at q;exact q.1
  have iq:=E j;clear j;have c1:=G.cell 0;have c2:=F.cell 0;have x0:=oK.cell;have f20:=d.frozen 0;have f21:=d.frozen 1;have f30:=f.frozen 0;have g0:=d.cell 0;have g1:=d.cell 1;have g2:=f.cell 0;simp at g0 g1 g2;by_cases h1:t<T
  ·have d1:decide (t<T)=true:=decide_eq_true h1;have HN:=E (show LU t (cd (pre++[⟨(T,V),q⟩])) by
    rw[N.A];intro y g;rcases kf.1 g with g|g
    ·exact iq.A y g
    ·rw[bD] at g;subst g;exact h1)
   clear h1;gi_wp2;exact⟨KeepsFrom.refl _ _,⟨bk _ _,id⟩,⟨⟨⟨⟨HN.A,G⟩,F⟩,d⟩,f⟩,i⟩
  ·have d1:decide (t<T)=false:=decide_eq_false h1;have XA:=E (show Fp t (cd (pre++[⟨(T,V),q⟩])) by
    rw[N.A];refine⟨av,by rw[List.dropLast_concat];exact iq.A,?_⟩;rw[show(cd pre++[(T,V)]).getLastD (0,0)=(T,V) by simp];show T<=t;omega)
   have S:=E (show(cd (pre++[⟨(T,V),q⟩])).getLastD (0,0)=(T,V) by rw[N.A];simp);have yN:I.wrap (t-T)=t-T:=ay;by_cases h2:t-T<a
   ·have d2:decide (t-T<a)=true:=decide_eq_true h2;have U:=E h2;clear h1 h2;gi_wp2;refine⟨((yB _ _ _).trans (yB _ _ _)).trans (yB _ _ _)|>.from _,?_⟩;refine⟨⟨⟨⟨XA.A,by rw[S.A];exact U.A⟩,?_⟩,?_⟩,?_⟩
    ·rw[S.A];exact((d.put 0 _).put 1 _).bT aqo _
    ·exact((f.bT aqh _).bT aqh _).put 0 _
    ·exact((i.setCell aqf _).setCell aqf _).setCell aqi _
   ·have d2:decide (t-T<a)=false:=decide_eq_false h2;have U:=E h2;clear h1 h2;gi_wp2;exact⟨KeepsFrom.refl _ _,⟨⟨⟨⟨XA.A,by rw[S.A];have:=U.A;show¬t-T<a;omega⟩,d⟩,f⟩,i⟩⟩
 case done=>
  rintro D xs W hD rfl⟨⟨⟨⟨⟨j,G⟩,F⟩,x3⟩,x4⟩,Dy⟩ hK;have HR:=E (show r=M by
   rw[HE.A,<-Q,<-List.map_reverse];exact Xu j)
  clear j;exact Xv
 case stop=>
  rintro D H pre W hD⟨k,hk⟩ L hK;have vw:c.reverse=cd pre++cd (sl.reverse.drop k):=by
   rw[<-Q,<-List.map_reverse,hk];unfold cd;rw[<-lK,List.take_append_drop]
  have eD:=E (show r=atR t a (cd pre++cd (sl.reverse.drop k)) by rw[HE.A,vw]);clear vw;match H,L with
  |.ret,L=>
   obtain⟨⟨⟨⟨C,x2⟩,x3⟩,x4⟩,Dy⟩:=L;have HR:=E (show r=ad ((cd pre).getLastD (0,0)) by rw[eD.A,Qg C,if_pos x2]);clear C x2;generalize(cd pre).getLastD (0,0)=z at*;gi_wp2;obtain⟨W9,Fs⟩:=aP W;subst Fs;have y3:=x3;have y4:=x4;have y5:=Dy;have yK:=hK;have hZ:=grownBy_putObj' W D (.deferred M);have sC:∀r,ad D=ad r->∃o:Obj,W.heap[r]?=ad o/\o.isCells=false:=λr e=>by cases e;exact⟨_,yK,rfl⟩
   have v3:=jd (β:=Unit) _ _ (λ_=>#[J I z.1,J I z.2]) () _ _ _ y3 hZ sC;have v4:=jd (β:=Unit) _ _ (λ_=>#[aG true]) () _ _ _ y4 hZ sC;have g0:=v3.cell 0;have g1:=v3.cell 1;have g2:=v4.cell 0;simp at g0 g1 g2;refine⟨av,.inl ⟨_,_,rfl,run_takeDeferred yK,?_⟩⟩;refine⟨bn #[aY #[J I z.1,J I z.2],aG true],by simp[bz,results234,go_sem,g0,g1,g2],by rw[HR.A];rfl,?_⟩;exact aF.of (y5.grown hZ y5.size (λk e=>by cases e;have:=sD.size;omega))
  |.exit 0,L=>
   obtain⟨⟨⟨⟨C,x2⟩,x3⟩,x4⟩,Dy⟩:=L;have HR:=E (show r=M by rw[eD.A,Qg C,if_neg x2]);clear C x2;exact Xv
end
variable {us:List aE}
section
open Go.Shelf
open im (dT)
attribute [local go_sem] Oper.semAt_some
def XB:(aH.info? 65).map (λi=>(i.zero,i.size,i.bytes))=ad (ad (aY #[J I 0,J I 0]),2,16):=ar
def XC:ja.e∉ja.bI:=aq
def ag0 {l:List (Int×Int)} (w:aB) (hB:B<=w.heap.size) (h:Vs ja w B v l) (hs:l.length*16<=140737488355328):aN aH 143 #[v] w λe w'=>(∃d,e=aQ d/\Ow ja w' B w.heap.size d l)/\aF w w':=by
 obtain⟨ao,n,cap,rfl,c,_⟩:=h.A;clear h;have u:∀w,(binOp .eql 110 (O ao n cap) (O M 0 0)).run aH w= .ok (aG ao.isNone) w:=λw=>by
  simp only[binOp];simp[run_equal_slice_nil w 110 65 ao n cap underlying110]
 have k:=c.len;cases ao with
 |none=>
  have o:l=[]:=by
   obtain⟨us,b,f⟩:=c.A;rcases kJ n with h|h
   ·exact Dt
   ·obtain⟨_,_,e,_⟩:=f (Nat.mul_pos h ja.pos);cases e
  subst o;clear c;go_enter func143,ntmps143;exact Ba
 |some a=>
  have HO:=E (Ow.AO (D:=ja) (base:=w.heap.size) w B (aO _));have HB:=E ((aF.refl w).alloc (aD #[] 65));have m:=E (show∃us,Rs ja (w.alloc (aD #[] 65)) B l us/\Sl (w.alloc (aD #[] 65)) (w.heap.size+1) (ad a) (n*ja.k) (λi=>us.getD i (aG false)) by
   have p:=c.al ((bk _ _).alloc (aO _) (aD #[] 65));obtain⟨us,b,f⟩:=p.A;have:=f.sink;rw[eO] at this;exact⟨us,b,this⟩)
  obtain⟨us,b,j⟩:=m.A;have s:=E b;have t:=E j;have g:=E (show([]:List (Int×Int)).length+n<=bK/\(([]:List (Int×Int)).length+n)*16<=140737488355328/\w.heap.size<=(w.alloc (aD #[] 65)).heap.size from⟨aqy,aqJ,av⟩);have q:=E k;have r:=E hB;clear b j m c hs k hB;go_enter func143,ntmps143;go_wp2_with ((refine mZ ja au (.tmp 5) (.tmp 6) 110 au w.heap.size 16 _ ar XB au B _ [] au HO.A (ad a) n cap l us au s.A q.A (w.heap.size+1) t.A g.A.1 g.A.2.1 g.A.2.2 r.A XC ?_;intro d w' bC bG x));exact Ds
def aI.src (h:aI W g t us.toArray) (hn:n=us.length):Sl W (g+1) (ad (ab g 0 M)) n (λi=>us.getD i (aG false)):=λ_=>by
 refine⟨g,0,rfl,an,λi hi=>?_⟩;rw[ig,h.cell];simp only[dd];rw[cR (by omega:i<us.length)];simp[hn▸hi]
def LW (w:aB) (T V:Int) (sv:aE):Code->List dC->aB->Prop
 |.ret,pre,W=>(((pre≠[]/\T<=(pre.headD (0,0)).1)/\aI W (w.heap.size+1+1) 110 #[sv])/\aI W (w.heap.size+1+1+1) 79 #[J I 9])/\aS w.heap.size w W
 |.exit 0,pre,W=>(((((pre≠[]/\(pre.headD (0,0)).1<T)/\aI W w.heap.size 110 #[sv])/\aI W (w.heap.size+1) 65 #[J I T,J I V])/\aI W (w.heap.size+1+1) 110 #[O M 0 0])/\aI W (w.heap.size+1+1+1) 79 #[J I 0])/\aS w.heap.size w W
 |_,_,_=>False
def LW.own (w:aB) (T V:Int) (sv:aE) (D:Nat) (a:w.heap.size<=D) (c:Code):OwnFrom D (LW w T V sv c):=by
 cases c with
 |ret=>exact OwnFrom.and (Own.from (Own.nR (Own.nR (Fm λpre:List dC=>pre≠[]/\T<=(pre.headD (0,0)).1) (jd _ _ λ_=>#[sv])) (jd _ _ λ_=>#[J I 9])) _) (ownFrom_below (aO _) a)
 |exit k=>
  cases k with
  |zero=>exact OwnFrom.and (Own.from (Own.nR (Own.nR (Own.nR (Own.nR (Fm λpre:List dC=>pre≠[]/\(pre.headD (0,0)).1<T) (jd _ _ λ_=>#[sv])) (jd _ _ λ_=>#[J I T,J I V])) (jd _ _ λ_=>#[O M 0 0])) (jd _ _ λ_=>#[J I 0])) _) (ownFrom_below (aO _) a)
  |succ k=>exactλ_ _ _ _ h _ _=>h
 |_=>exactλ_ _ _ _ h _ _=>h
theorem XD (h:P:=by
 gi_wp2;have y2:=(q2.put 0 (O ao c.length cap)).bT (p:=⟨w.heap.size+1+1+1,0,M⟩) aqo (J I 2);have y3:=(q3.bT (p:=⟨w.heap.size+1+1,0,M⟩) aqh (O ao c.length cap)).put 0 (J I 2);have XE:=(LX.setCell (p:=⟨w.heap.size+1+1,0,M⟩) aqf (O ao c.length cap)).setCell (p:=⟨w.heap.size+1+1+1,0,M⟩) aqi (J I 2);generalize(w2.setCell ⟨w.heap.size+1+1,0,M⟩ (O ao c.length cap)).setCell ⟨w.heap.size+1+1+1,0,M⟩ (J I 2)=W9 at*;have z2:=y2.cell 0;have z3:=y3.cell 0;simp at z2 z3;refine⟨bn #[O ao c.length cap,J I 2],by simp[bz,results105,go_sem,z2,z3],?_,XE⟩;rw[ff.A];exact⟨_,_,aq,rfl,_,HV.A.al XE.aC⟩;):P:=h
theorem XF (h:P:=by
 have XG:=E (λ(q:ba W1)=>ag0 (v:=Qj) (l:=c1) (B:=B) q.aL (a8 hB (a8 y5.size q.r.size)) (ln.A.al (y5.trans (q.aC.mono y5.size))) (ai Ft.A));have z0:∀q:ba W1,q.aL.cell? (ab w.heap.size 0 M)=ad Qj:=ba.cells y1 0;have LY:∀q:ba W1,q.aL.cell? ⟨w.heap.size+1,0,M⟩=ad (J I T):=ba.cells y2 0;have Bf:∀q:ba W1,q.aL.cell? ⟨w.heap.size+1,1,M⟩=ad (J I V):=ba.cells y2 1;have ao6:=E (show w.heap.size+4<=W1.heap.size from by have:=y4.lt;omega);have XH:=E y3;have XI:=E y4;have Qk:=E y5;clear Fu g10 g11 g20 II Ql f20 f30 y3 y4 y5;refine wpIn_wide.2 (Ix ?_);refine du [.q 0,.q 2,.two 1 3] [4,5,6] ?_;refine dY ?_;refine S4.two (ad 35) (ad 37) (λv u W=>aF W1 W/\Ow ja W B W1.heap.size v c1/\∃g,u=O (ad (ab g 0 M)) 1 1/\aI W g 65 #[J I T,J I V]) (λ_ _=>rfl) ?_ ?_ ?_
 ·skip;refine wY.dm ?_;rintro _⟨pt,rfl⟩ KK aJ;go_simp;have hp:=pt.r;refine(XG.A pt).mono ?_;rintro e w1⟨⟨v',rfl,ho⟩,Z⟩;refine aJ _ _ Z ⟨_,rfl,?_⟩;clear aJ KK;replace hp:=hp.trans Z;replace ho:=ho.less pt.r.size;refine wY.dm ?_;rintro _⟨pt,rfl⟩ KK aJ;go_simp;refine aJ _ _ ((aF.refl _).alloc _) ⟨_,rfl,(hp.trans pt.r).alloc _,(ho.al pt.aC).alloc _,_,rfl,aI.new _ _ _⟩
 ·skip;refine wY.dm ?_;rintro _⟨pt,rfl⟩ KK aJ;go_simp;refine aJ _ _ ((aF.refl _).alloc _) ⟨_,rfl,?_⟩;clear aJ KK;have hp:=pt.r.alloc (aD #[J I T,J I V] 65);have cq:=aI.new pt.aL 65 #[J I T,J I V];generalize pt.aL.heap.size=g at*;generalize pt.aL.alloc (aD #[J I T,J I V] 65)=W2 at*;refine wY.dm ?_;rintro _⟨pt,rfl⟩ KK aJ;go_simp;obtain⟨q,Qm⟩:=hp.trans pt.r;rw[Qm];have nP:=hp.trans pt.r;have e4:=cq.al pt.aC cq.lt;rw[Qm] at nP e4;refine(XG.A q).mono ?_;rintro e w1⟨⟨v',rfl,ho⟩,Z⟩;refine aJ _ _ (by rw[Qm];exact Z) ⟨_,rfl,nP.trans Z,ho.less q.r.size,_,rfl,e4.al Z.aC e4.lt⟩
 rintro v u W⟨hW,hO,g,rfl,hG⟩;refine S4.nb λwq hq=>?_;replace hW:=hW.next hq;replace hO:=hO.al hq;replace hG:=hG.al hq hG.lt;have XJ:=aI.src (us:=[J I T,J I V]) (n:=1*ja.k) hG rfl;have ce:=Ft.A;refine E4.dm (λKK aJ=>?_);refine E8 ja au (.tmp 35) (.tmp 37) 110 au W1.heap.size 16 _ ar XB au B v c1 au hO (ad (ab g 0 M)) 1 1 [(T,V)] [J I T,J I V] au (Rs.single (show ja.rel wq B (T,V) [J I T,J I V] from rfl)) rfl (g+1) XJ aqv an hW.size (a8 hB Qk.A.size) XC ?_;intro v' w9 bC bG cx;have sF:=E bC;obtain⟨A9,c9,rfl,_⟩:=bC.shape;clear bC;generalize(c1++[(T,V)]).length=n9 at*;refine aJ _ _ ?_;clear aJ KK;have Fs:=(hW.grown hO (aO _) bG);have x3:=XH.A.al Fs.aC XH.A.lt;have x4:=XI.A.al Fs.aC XI.A.lt;have g20:=x3.cell 0;have II:=x4.cell 0;have f20:=x3.frozen 0;have f30:=x4.frozen 0;clear hq hG XJ hO cx bG ce;have ci:=‹∀(a:bb) (w:aB),Code.wpIn Fence.wide 3 aH Code.ret _ a w->_›;refine dP ?_;refine ci _ _ ?_;clear ci;gi_wp2;have z3:=(x3.put 0 (O A9 n9 c9)).bT (p:=⟨w.heap.size+1+1+1,0,M⟩) aqo (J I 0);have z4:=(x4.bT (p:=⟨w.heap.size+1+1,0,M⟩) aqh (O A9 n9 c9)).put 0 (J I 0);have zB:=((Qk.A.trans (Fs.aC.mono Qk.A.size)).setCell (p:=⟨w.heap.size+1+1,0,M⟩) aqf (O A9 n9 c9)).setCell (p:=⟨w.heap.size+1+1+1,0,M⟩) aqi (J I 0);have LZ:=(sF.A.keep (((Kt.refl B [110,79] w9).setCell (g:=w.heap.size+1+1) (o:=0) an (bp.bO x3) aq (O A9 n9 c9)).setCell (g:=w.heap.size+1+1+1) (o:=0) an (bp.bO (x4.bT (p:=⟨w.heap.size+1+1,0,M⟩) aqh (O A9 n9 c9))) aq (J I 0)) aq aq).vs;have yK:((w9.setCell ⟨w.heap.size+1+1,0,M⟩ (O A9 n9 c9)).setCell ⟨w.heap.size+1+1+1,0,M⟩ (J I 0)).heap[D]?=ad (.deferred (ad [])):=((yB _ _ _).trans (yB _ _ _)).same D _ ((Fs.aC.block D (lJ.1 IJ.A).1).trans IJ.A) rfl;obtain⟨pA,L0⟩:∃x,x=(w9.setCell ⟨w.heap.size+1+1,0,M⟩ (O A9 n9 c9)).setCell ⟨w.heap.size+1+1+1,0,M⟩ (J I 0):=⟨_,rfl⟩;rw[<-L0] at z3 z4 zB LZ yK⊢;clear L0;have hZ:=grownBy_putObj' pA D (.deferred M);have sC:∀r,ad D=ad r->∃o:Obj,pA.heap[r]?=ad o/\o.isCells=false:=λr e=>by cases e;exact⟨_,yK,rfl⟩
 have v3:=jd (β:=Unit) _ _ (λ_=>#[(O A9 n9 c9)]) () _ _ _ z3 hZ sC;have v4:=jd (β:=Unit) _ _ (λ_=>#[J I 0]) () _ _ _ z4 hZ sC;have IK:Kt B [] pA (pA.putObj D (.deferred M)):=⟨hZ.os,hZ.tape,hZ.output,hZ.size,λb Z=>hZ.block b (ai zB.size) (λe=>by cases e;omega),λe b _ ⟨cs,fr,hh⟩=>hZ.block b (lJ.1 hh).1 (λe=>by cases e;rw[yK] at hh;cases hh)⟩;have Qn:aF w (pA.putObj D (.deferred M)):=aF.of (zB.grown hZ zB.size (λk e=>by cases e;omega));have Qo:=LZ.keep IK av av;have g0:=v3.cell 0;have g1:=v4.cell 0;simp at g0 g1;clear hZ sC IK;refine⟨av,.inl ⟨_,_,rfl,run_takeDeferred yK,?_⟩⟩;refine⟨bn #[(O A9 n9 c9),J I 0],by simp[bz,results105,go_sem,g0,g1],?_,Qn⟩;rw[eo.A];exact⟨_,rfl,Qo⟩;):P:=h
theorem XK (h:P:=by
 have Fu:=p1.cell 0;have g10:=p2.cell 0;have g11:=p2.cell 1;have g20:=p3.cell 0;have II:=p4.cell 0;have Ql:=p1.frozen 0;have f20:=p3.frozen 0;have f30:=p4.frozen 0;have XL:=E (show c.length<=64 from(Ip.1 HS.A).1);by_cases jJ:64<=c.length
 ·obtain⟨b,off,hA,il,ft,dS⟩:=HR.A.sm p5 (k:=0) an;subst hA;clear ft dS;have d64:decide ((64:Int)<=(c.length:Int))=true:=decide_eq_true an;gi_wp2;have IJ:=E (((yB W (ab w.heap.size 0 M) (O (ad ⟨b,off+1*2,M⟩) (c.length-1) (cap-1))).same D _ hK rfl));have y1:=p1.put 0 (O (ad ⟨b,off+1*2,M⟩) (c.length-1) (cap-1));have y2:=p2.bT (p:=(ab w.heap.size 0 M)) aqA (O (ad ⟨b,off+1*2,M⟩) (c.length-1) (cap-1));have y3:=p3.bT (p:=(ab w.heap.size 0 M)) (by show w.heap.size+1+1≠w.heap.size;omega) (O (ad ⟨b,off+1*2,M⟩) (c.length-1) (cap-1));have y4:=p4.bT (p:=(ab w.heap.size 0 M)) (by show w.heap.size+1+1+1≠w.heap.size;omega) (O (ad ⟨b,off+1*2,M⟩) (c.length-1) (cap-1));have y5:=p5.setCell (p:=(ab w.heap.size 0 M)) (aO _) (O (ad ⟨b,off+1*2,M⟩) (c.length-1) (cap-1));have ln:=E (show Vs ja w B (O (ad ⟨b,off+1*2,M⟩) (c.length-1) (cap-1)) (c.drop 1) from⟨_,_,_,rfl,HR.A.drop 1,an,an⟩);have Ft:=E (show(c.drop 1).length<=64 from by have:=XL.A;simp;omega);rw[if_pos jJ] at eo;obtain⟨Qj,Dz⟩:∃x,x=O (ad ⟨b,off+1*2,M⟩) (c.length-1) (cap-1):=⟨_,rfl⟩;obtain⟨W1,ko⟩:∃x,x=W.setCell (ab w.heap.size 0 M) (O (ad ⟨b,off+1*2,M⟩) (c.length-1) (cap-1)):=⟨_,rfl⟩;rw[<-ko] at y1 y2 y3 y4 y5 IJ⊢;clear ko;change aI W1 _ _ #[_] at y1;rw[<-Dz] at ln y1;replace Dz:=E Dz;clear d64 jJ;generalize c.drop 1=c1 at*;exact XF
 ·have d64:decide ((64:Int)<=(c.length:Int))=false:=decide_eq_false an;rw[if_neg jJ] at eo;clear jJ;gi_wp2;have ln:=HV;have Ft:=XL;have y1:=p1;have y2:=p2;have y3:=p3;have y4:=p4;have y5:=p5;obtain⟨Qj,Dz⟩:∃x,x=O ao c.length cap:=⟨_,rfl⟩;rw[<-Dz] at ln y1;replace Dz:=E Dz;generalize c=c1 at*;obtain⟨W1,ko⟩:∃x,x=W:=⟨_,rfl⟩;have IJ:=E hK;rw[<-ko] at y1 y2 y3 y4 y5 IJ⊢;clear ko;exact XF
 ):P:=h
def XM {s:List dC} (T V:Int) (w:aB) (hB:B<=w.heap.size) (h:Vs ja w B v s):aN aH 105 #[v,aY #[J I T,J I V]] w λe w'=>sB ja w' B e (yT s (T,V))/\aF w w':=by
 have HV:=E (Xo h);have j:=E (show yT s (T,V)=if(dT T&&j6 V)=false then M else if(decide (pw s≠[])&&decide (T<=sT (pw s) ((pw s).length-1)))=true then M else ad ((if 64<=(pw s).length then(pw s).drop 1 else pw s)++[(T,V)]) from rfl);have HS:=E (Px s);have HC:=E (λw1 (Z:aS w.heap.size w w1)=>Qc w1 (h.al Z));generalize yT s (T,V)=r at j⊢;generalize(if km s=true then v else O M 0 0)=u at*;generalize pw s=c at*;obtain⟨A0,c0,rfl,_⟩:=h.len_;obtain⟨ao,cap,rfl,hR,ij,y7⟩:=HV.A.be;have HR:=E hR;clear h hR;obtain⟨sl,iG⟩:=Qf λx i=>((Ip.1 HS.A).2.1 x i).1;have dh:aF w ((((w.alloc (aD #[O A0 s.length c0] 110)).alloc (aD #[J I T,J I V] 65)).alloc (aD #[O M 0 0] 110)).alloc (aD #[J I 0] 79)):=((((aF.refl w).alloc _).alloc _).alloc _).alloc _;have CC:=E (HC.A _ dh.aC);refine(callsIn_wide (n:=3)).1 ?_;refine callsIn_of_wp_marks func105 rfl trivial ?_ rfl;simp only[ntmps105,lM,pY,nF,Nat.reduceAdd,Nat.reduceSub,Array.replicate_succ,Array.replicate_zero,List.push_toArray,List.append_toArray,List.nil_append,List.cons_append];have d:=(((aI.new w 110 #[O A0 s.length c0]).alloc (aD #[J I T,J I V] 65)).alloc (aD #[O M 0 0] 110)).alloc (aD #[J I 0] 79);have q1:=((aI.new (w.alloc (aD #[O A0 s.length c0] 110)) 65 #[J I T,J I V]).alloc (aD #[O M 0 0] 110)).alloc (aD #[J I 0] 79);have q2:=(aI.new ((w.alloc (aD #[O A0 s.length c0] 110)).alloc (aD #[J I T,J I V] 65)) 110 #[O M 0 0]).alloc (aD #[J I 0] 79);have q3:=aI.new (((w.alloc (aD #[O A0 s.length c0] 110)).alloc (aD #[J I T,J I V] 65)).alloc (aD #[O M 0 0] 110)) 79 #[J I 0];simp only[eO] at q1 q2 q3;have Qp:((((w.alloc (aD #[O A0 s.length c0] 110)).alloc (aD #[J I T,J I V] 65)).alloc (aD #[O M 0 0] 110)).alloc (aD #[J I 0] 79)).heap.size=w.heap.size+4:=av;gi_wp2_with fail;refine⟨trivial,?_⟩;refine(callsIn_wide.2 CC.A).mono ?_;rintro e w1⟨rfl,aW⟩;have il:=aW.aC;replace d:=(d.al il d.lt).put 0 (O ao c.length cap);replace q1:=(q1.al il q1.lt).bT (p:=(ab w.heap.size 0 M)) aqA (O ao c.length cap);replace q2:=(q2.al il q2.lt).bT (p:=(ab w.heap.size 0 M)) (by show w.heap.size+1+1≠w.heap.size;omega) (O ao c.length cap);replace q3:=(q3.al il q3.lt).bT (p:=(ab w.heap.size 0 M)) (by show w.heap.size+1+1+1≠w.heap.size;omega) (O ao c.length cap);have LX:=(dh.trans aW).setCell (p:=(ab w.heap.size 0 M)) (aO _) (O ao c.length cap);have Fu:w1.cell? (ab w.heap.size 0 M)=ad (O A0 s.length c0):=((((aI.new w 110 #[O A0 s.length c0]).alloc (aD #[J I T,J I V] 65)).alloc (aD #[O M 0 0] 110)).alloc (aD #[J I 0] 79)|>.al il aw).cell 0;have Ql:w1.frozen? (ab w.heap.size 0 M)=false:=((((aI.new w 110 #[O A0 s.length c0]).alloc (aD #[J I T,J I V] 65)).alloc (aD #[O M 0 0] 110)).alloc (aD #[J I 0] 79)|>.al il aw).frozen 0;have g10:=q1.cell 0;have g11:=q1.cell 1;have CT:=E (λW=>Qa T W);have CN:=E (λW=>Fl V W);clear il dh aW;have aR:w.heap.size+4<=(w1.setCell (ab w.heap.size 0 M) (O ao c.length cap)).heap.size:=ai q3.lt;gi_wp2_with fail;obtain⟨Wc,Bg⟩:=aP (w1.setCell (ab w.heap.size 0 M) (O ao c.length cap));rw[Bg] at d q1 q2 q3 LX aR⊢;clear Bg g10 g11 Fu Ql;have Fu:=d.cell 0;have g10:=q1.cell 0;have g11:=q1.cell 1;have g20:=q2.cell 0;have II:=q3.cell 0;have f20:=q2.frozen 0;have f30:=q3.frozen 0;simp at Fu;by_cases c1:(dT T&&j6 V)=true;case neg=>
  have ff:=E (show r=M by rw[j.A,Bool.eq_false_iff.2 c1];rfl);generalize dT T=x at*;generalize j6 V=y at*;cases x
  ·refine⟨trivial,?_⟩;refine(callsIn_wide.2 (CT.A _)).mono ?_;rintro e w2⟨rfl,rfl⟩;gi_wp2_with fail;refine⟨trivial,?_⟩;exact XD
  ·obtain rfl:y=false:=by simpa using c1
   clear c1;refine⟨trivial,?_⟩;refine(callsIn_wide.2 (CT.A _)).mono ?_;rintro e w2⟨rfl,rfl⟩;gi_wp2_with fail;refine⟨trivial,?_⟩;refine(callsIn_wide.2 (CN.A _)).mono ?_;rintro e w2⟨rfl,rfl⟩;exact XD
 have i:dT T=true:=by simp at c1;exact c1.1
 have hy:j6 V=true:=by simp at c1;exact c1.2
 rw[if_neg (by rw[c1];simp)] at j;rw[i] at CT;rw[hy] at CN;clear c1 i hy;refine⟨trivial,?_⟩;refine(callsIn_wide.2 (CT.A _)).mono ?_;rintro e w2⟨rfl,rfl⟩;gi_wp2_with fail;refine⟨trivial,?_⟩;refine(callsIn_wide.2 (CN.A _)).mono ?_;rintro e f⟨rfl,rfl⟩;gi_wp2_with fail;refine⟨trivial,?_⟩;refine(callsIn_wide.2 (Xr ao c.length cap f)).mono ?_;rintro e w'⟨rfl,rfl⟩;gi_wp2;have q4:aI (f.alloc (aD #[O ao c.length cap] 110)) f.heap.size 110 #[O ao c.length cap]:=aI.new _ _ _;have sD:=(LX.alloc (aD #[O ao c.length cap] 110)).aC;have Qh:(f.alloc (aD #[O ao c.length cap] 110)).heap.size=f.heap.size+1:=av;replace d:=d.alloc (aD #[O ao c.length cap] 110);replace q1:=q1.alloc (aD #[O ao c.length cap] 110);replace q2:=q2.alloc (aD #[O ao c.length cap] 110);replace q3:=q3.alloc (aD #[O ao c.length cap] 110);generalize f.heap.size=Bs at*;generalize f.alloc (aD #[O ao c.length cap] 110)=W0 at*;clear Fu g10 g11 g20 II f20 f30 LX CT CN CC HC;refine wpIn_rangeFunc_ownH rfl an (gf:=184) (lb:=#[bl (ad (ab Bs 0 M))]) rfl trivial (enters_of func184 ar rfl) (Xs (λx:xd=>x.1) sl _ _ trivial rfl an Bs w.heap.size B ao cap c iG w W0 HR.A ij y7 rfl sD q4 (λW W'=>aS w.heap.size W W'/\(aI W Bs 110 #[O ao c.length cap]->aI W' Bs 110 #[O ao c.length cap])) (λ_ _ h=>h)) (λh k=>⟨h.1.trans k.1,λx=>k.2 (h.2 x)⟩) ?hKb (bk _ _) (λ_=>rfl) (λ(pre:List xd) W=>(((((pre=[])/\aI W w.heap.size 110 #[O ao c.length cap])/\aI W (w.heap.size+1) 65 #[J I T,J I V])/\aI W (w.heap.size+1+1) 110 #[O M 0 0])/\aI W (w.heap.size+1+1+1) 79 #[J I 0])/\aS w.heap.size w W) (λnl (pre:List xd) W=>LW w T V (O ao c.length cap) nl (cd pre) W) ?hI ?hIx ?h0 (λx a' W=>∃Bx,w.heap.size+3<Bx/\aI W Bx 65 #[J I x.1.1,J I x.1.2]/\a'.defers=[]/\∃t7 t8 t9 aM U S R N L H G F C z t,a'.tmps=#[O A0 s.length c0,aY #[J I T,J I V],bl (ad (ab w.heap.size 0 M)),bl (ad ⟨w.heap.size+1,0,M⟩),bl (ad ⟨w.heap.size+1+1,0,M⟩),bl (ad ⟨w.heap.size+1+1+1,0,M⟩),bl (ad (ab Bx 0 M)),t7,t8,t9,aM,U,S,R,N,L,H,G,F,C,z,t,aY #[J I x.1.1,J I x.1.2],cu,cu,cu,cu,cu,cu,cu,cu,cu,cu,cu,cu,cu,cu,cu,cu]) ?hAx ?assign ?body ?done ?stop;case hKb=>
  exact Xw
 case hI=>exact OwnFrom.and (Own.from (Own.nR (Own.nR (Own.nR (Own.nR (Fm λpre:List xd=>pre=[]) (jd _ _ λ_=>#[O ao c.length cap])) (jd _ _ λ_=>#[J I T,J I V])) (jd _ _ λ_=>#[O M 0 0])) (jd _ _ λ_=>#[J I 0])) _) (ownFrom_below (aO _) sD.size)
 case hIx=>exactλnl=>OwnFrom.comp (LW.own w T V _ _ sD.size nl) cd
 case h0=>exact⟨⟨⟨⟨⟨rfl,d⟩,q1⟩,q2⟩,q3⟩,sD⟩
 case hAx=>
  exact Xx
 case assign=>
  rintro l pre x W K⟨⟨⟨⟨⟨p0,p1⟩,p2⟩,p3⟩,p4⟩,p5⟩ hK;gi_wp2;refine hK _ _ ((KeepsOthers.alloc _ _).from _) ⟨(bk _ W).alloc p5.size _,λh=>h.alloc _⟩ ⟨⟨⟨⟨⟨p0,p1.alloc _⟩,p2.alloc _⟩,p3.alloc _⟩,p4.alloc _⟩,p5.alloc p5.size _⟩ ⟨W.heap.size,ai p4.lt,aI.new _ _ _,rfl,_,_,_,_,_,_,_,_,_,_,_,_,_,_,_,rfl⟩
 case body=>
  rintro l pre⟨⟨T2,V2⟩,hT⟩⟨a5,a4⟩ W hl⟨r,hr⟩⟨⟨⟨⟨⟨rfl,p1⟩,p2⟩,p3⟩,p4⟩,p5⟩⟨Bx,a3,oK,rfl,t7,t8,t9,aM,U,S,R,N,L,H,G,F,C,z,t,rfl⟩ aK;have DA:=p1.cell 0;have c1:=p2.cell 0;have c2:=p2.cell 1;have x0:=oK.cell;have f20:=p3.frozen 0;have f30:=p4.frozen 0;have g20:=p3.cell 0;have II:=p4.cell 0;simp at c1;have a2:=E hT;by_cases h1:T<=T2
  ·have d1:decide (T<=T2)=true:=decide_eq_true h1;have HP:=E h1;clear h1;gi_wp2;refine⟨((yB _ _ _).trans (yB _ _ _)).from _,⟨⟨⟨⟨by simp[cd],by simpa[cd] using HP.A⟩,?_⟩,?_⟩,?_⟩⟩
   ·exact(p3.put 0 _).bT aqo _
   ·exact(p4.bT aqh _).put 0 _
   ·exact(p5.setCell aqf _).setCell aqi _
  ·have d1:decide (T<=T2)=false:=decide_eq_false h1;have HP:=E (show T2<T by omega);clear h1;gi_wp2;exact⟨KeepsFrom.refl _ _,⟨⟨⟨⟨⟨⟨by simp[cd],by simpa[cd] using HP.A⟩,p1⟩,p2⟩,p3⟩,p4⟩,p5⟩⟩
 case done=>
  rintro D xs W hD rfl⟨⟨⟨⟨⟨p0,p1⟩,p2⟩,p3⟩,p4⟩,p5⟩ hK;have fW:c=[]:=by
   rw[List.reverse_eq_nil_iff] at p0;rw[<-iG,p0];rfl
  have eo:=E (show r=ad ((if 64<=c.length then c.drop 1 else c)++[(T,V)]) by rw[j.A,fW];rfl);clear p0 fW;exact XK
 case stop=>
  rintro D nl pre W hD⟨k,hk⟩ hX hK;have vw:c.reverse=cd pre++cd (sl.reverse.drop k):=by
   rw[<-iG,<-List.map_reverse,hk];unfold cd;rw[<-lK,List.take_append_drop]
  have HL:=E (λ(h:cd pre≠[])=>show c≠[]/\sT c (c.length-1)=((cd pre).headD (0,0)).1 from by
   obtain⟨x,l,i⟩:=List.exists_cons_of_ne_nil h;rw[i] at vw⊢;have hc:c=(l++cd (sl.reverse.drop k)).reverse++[x]:=by
    rw[<-List.reverse_reverse c,vw];simp
   refine⟨by rw[hc];simp,?_⟩;rw[hc];unfold sT;rw[dd,b2,p8,Nat.add_sub_cancel,List.getElem?_append_right (aO _)];simp)
  clear vw;match nl,hX with
  |.ret,hX=>
   obtain⟨⟨⟨⟨m,x2⟩,x3⟩,x4⟩,Dy⟩:=hX;have eo:=E (show r=M by
    have:=HL.A m;rw[j.A,this.2];rw[if_pos (by rw[b9,decide_eq_true_eq,decide_eq_true_eq];exact⟨this.1,x2⟩)])
   clear m x2;gi_wp2;have z3:=x3;have z4:=x4;have zB:=Dy;have yK:=hK;have LZ:=HV.A.al zB;obtain⟨pA,L0⟩:=aP W;subst L0;have hZ:=grownBy_putObj' W D (.deferred M);have sC:∀r,ad D=ad r->∃o:Obj,W.heap[r]?=ad o/\o.isCells=false:=λr e=>by cases e;exact⟨_,yK,rfl⟩
   have v3:=jd (β:=Unit) _ _ (λ_=>#[(O ao c.length cap)]) () _ _ _ z3 hZ sC;have v4:=jd (β:=Unit) _ _ (λ_=>#[J I 9]) () _ _ _ z4 hZ sC;have IK:Kt B [] W (W.putObj D (.deferred M)):=⟨hZ.os,hZ.tape,hZ.output,hZ.size,λb Z=>hZ.block b (ai zB.size) (λe=>by cases e;omega),λe b _ ⟨cs,fr,hh⟩=>hZ.block b (lJ.1 hh).1 (λe=>by cases e;rw[yK] at hh;cases hh)⟩;have Qn:aF w (W.putObj D (.deferred M)):=aF.of (zB.grown hZ zB.size (λk e=>by cases e;omega));have Qo:=LZ.keep IK av av;have g0:=v3.cell 0;have g1:=v4.cell 0;simp at g0 g1;clear hZ sC IK;refine⟨av,.inl ⟨_,_,rfl,run_takeDeferred yK,?_⟩⟩;refine⟨bn #[(O ao c.length cap),J I 9],by simp[bz,results105,go_sem,g0,g1],?_,Qn⟩;rw[eo.A];exact⟨_,_,aq,rfl,_,Qo⟩
  |.exit 0,hX=>
   obtain⟨⟨⟨⟨⟨⟨m,x2⟩,p1⟩,p2⟩,p3⟩,p4⟩,p5⟩:=hX;have eo:=E (show r=ad ((if 64<=c.length then c.drop 1 else c)++[(T,V)]) by
    have:=HL.A m;rw[j.A,this.2];rw[if_neg (by rw[b9,decide_eq_true_eq,decide_eq_true_eq];rintro⟨_,h⟩;omega)])
   clear m x2;exact XK
end
def XN (w:aB) (h:Vs bE w B v L):aN aH 43 #[v] w λe w'=>e=aQ (aG (qe L))/\aF w w':=by
 have i:=E h;have j:=E (Fi iH w h);have b:=E (show qe L=((gD L iH).isSome&&bH L) from rfl);obtain⟨A0,c0,rfl,_⟩:=h.len_;clear h;generalize(gD L iH).getD ⟨#[]⟩=u at*;generalize(gD L iH).isSome=x at*;go_enter func43,ntmps43;go_wp2_with fail;refine j.A.ah ?_;rintro e d⟨rfl,Z⟩;have c:=E Z;have g:=E (Iy d (i.A.al Z));clear Z;generalize bH L=y at*;cases x
 ·go_wp2;go_ret;exact⟨cc (by rw[b.A];rfl),aF.of c.A⟩
 ·go_wp2_with fail;refine g.A.ah ?_;rintro e k⟨rfl,a⟩;have f:=E ((aF.of c.A).next a);clear a;go_wp2;go_ret;exact⟨cc (by rw[b.A];rfl),f.A⟩
def Rw.Fv {l:List cr} (h:Rw dO w B ao n l) (hB:aS w.heap.size w wr) {k:Nat} (a:k<l.length):∃b off A0 c0 A1 c1,ao=ad (ab b off M)/\b<w.heap.size/\wr.cell? ⟨b,off+k*2,M⟩=ad (O A0 (sL l k).length c0)/\wr.cell? ⟨b,off+k*2+1,M⟩=ad (O A1 (sS l k).length c1)/\Vs bE wr B (O A0 (sL l k).length c0) (sL l k)/\Vs ja wr B (O A1 (sS l k).length c1) (sS l k):=by
 obtain⟨b,off,vs,e,Z,d,h2⟩:=h.aL hB a;rw[<-dr a] at d;obtain⟨v0,f,rfl,c,h4⟩:=d;obtain⟨A0,c0,rfl,_⟩:=c.be;obtain⟨A1,c1,rfl,_⟩:=h4.be;exact⟨b,off,A0,c0,A1,c1,e,Z,h2 0 _ rfl,h2 1 _ rfl,c,h4⟩
theorem XO (h:P:=by
 refine du (cU 0 14 []) [] ?_;repeat (
  refine S4.step (λKK aJ=>?_);go_simp;first
   |(refine aJ _ ?_;clear aJ KK)
   |(apply lL;refine⟨λ_=>?_,aJ _ ?_⟩;(with_reducible exact aN.seq (CC.A _));clear aJ KK))
 refine S4.nb λwq hq=>?_;refine dP ?_;go_wp2;replace bL:=E (bL.A.next hq);go_ret;exact⟨cc HS.A.symm,bL.A⟩;):P:=h
theorem XP (h:P:=by
 refine S4.nb λwq hq=>?_;refine dP ?_;go_wp2;go_roundw;case rel=>exact⟨k+1,an,by go_num,HN,bL.A.next hq⟩
 case measure=>exact aA
 ):P:=h
theorem y9 (h:P:=by
 go_wp2;go_ret;exact⟨cc HS.A.symm,bL.A⟩;):P:=h
def Qq {st:List cr} (w:aB) (h:Vs dO w B v st):aN aH 24 #[v] w λe w'=>e=aQ (aG (eY st))/\aF w w':=by
 obtain⟨ao,cap,rfl,A,hn,hc⟩:=h.be;have L:=E A;clear h A;by_cases x:st.length<=32;case neg=>
  have HS:=E (show eY st=false by unfold eY;simp[x]);go_enter func24,ntmps24;go_wp2;go_ret;exact⟨cc HS.A.symm,aF.refl _⟩
 have D:=E (λk (z:k<st.length) (h:AR st k=false)=>(show eY st=false by unfold eY;rw[tV z h,Bool.and_false]));have xb:=E (λ(h:cI st.length (AR st)=true)=>(show eY st=true by unfold eY;rw[h];simp[x]));have U:=E (λk=>(show AR st k=(qe (sL st k)&&!decide (sS st k=[])&&km (sS st k)&&(k==0||decide (cmpL (sL st (k-1)) (sL st k)<0))) from rfl));generalize eY st=r at D xb⊢;go_enter func24,ntmps24;go_wp2;go_loopw [10] (λi wr=>∃k:Nat,k<=st.length/\i=J I k/\a6 (cI k (AR st)=true)/\aF w wr) (λi _=>st.length-(intOf i).toNat);case atStart=>exact⟨0,an,rfl,E rfl,aF.refl _⟩
 case round=>
  obtain⟨k,z,rfl,bj,hB⟩:=hrel;by_cases m:k<st.length
  ·obtain⟨b,off,A0,c0,A1,c1,rfl,cw,ft,dS,g,y⟩:=L.A.Fv hB.aC m;have HK:=E (U.A k);have f:=E (D.A k m);have F:=E (λh=>wW bj.A (P:=AR st) h);have G:=E (hB.alloc (aD #[O A0 (sL st k).length c0,O A1 (sS st k).length c1] 112));have d:=(bk wr.heap.size wr).alloc (aO _) (aD #[O A0 (sL st k).length c0,O A1 (sS st k).length c1] 112);have hq:=aI.new wr 112 #[O A0 (sL st k).length c0,O A1 (sS st k).length c1];have c:=E (XN _ (g.al d));have C:=E (λW (Z:aS _ _ W)=>Xm W ((y.al d).al Z));have s:=E (g.al d);have V:(((sS st k).length:Int)==0)=decide (sS st k=[]):=by
    cases sS st k<;>simp<;>omega
   clear g y d;generalize decide (sS st k=[])=ag1 at*;have aR:=E m;have H:=E hq;clear hq;generalize l:qe (sL st k)=x1 at c HK;cases x1;case false=>
    have HS:=E (show r=false from f.A aqm);go_wp2_with fail;refine c.A.ah ?_;rintro e q⟨rfl,Z⟩;have bL:=E (G.A.trans Z);clear Z;exact y9
   clear l;go_wp2_with fail;refine c.A.ah ?_;rintro e q⟨rfl,Z⟩;have bL:=E (G.A.trans Z);have q1:=H.A.al Z.aC H.A.lt;have n:=E (C.A q Z.aC);have K:=E (s.A.al Z.aC);clear Z c C s;have S:=q1.cell;cases ag1;case true=>
    have HS:=E (show r=false from f.A aqm);exact y9
   generalize km (sS st k)=x2 at*;cases x2;case false=>
    have HS:=E (show r=false from f.A aqm);go_wp2_with fail;refine n.A.ah ?_;rintro e a⟨rfl,Z⟩;replace bL:=E (bL.A.trans Z);clear Z;exact y9
   go_wp2_with fail;refine n.A.ah ?_;rintro e a⟨rfl,Z⟩;replace bL:=E (bL.A.trans Z);have q2:=q1.al Z.aC q1.lt;have X:=E (K.A.al Z.aC);clear Z n K S q1;have Y:∀p:ba a,p.aL.cell? (ab wr.heap.size 0 M)=ad (O A0 (sL st k).length c0):=ba.cells q2 0;go_wp2_with fail;by_cases c3:k=0;case pos=>
    have HN:=E (F.A (by rw[HK.A,c3];rfl));have R:decide (0<k)=false:=aa an;clear c3;refine du (cU 0 14 []) [] ?_;refine dY ?_;exact XP
   obtain⟨j,hj⟩:=aP (k-1);have R:0<k:=an;have N:j<st.length:=an;have eV:I.wrap (j:Int)=(j:Int):=ay;have q7:(k:Int)-1=(j:Int):=an;obtain⟨b',tP,Fw,DA,L5,L6,T,LR,t,_,o,_⟩:=L.A.Fv bL.A.aC N;cases T;have z0:=λp:ba a=>p.cell aqO t;have CC:=E (λp:ba a=>LK p.aL (o.al p.aC) (X.A.al p.aC));rw[hj] at HK;have u:(k==0)=false:=aw;rw[u] at HK;clear hj t u o;by_cases c4:cmpL (sL st j) (sL st k)<0
   ·have HN:=E (F.A (by rw[HK.A,ac c4];rfl));have c5:decide (0<=cmpL (sL st j) (sL st k))=false:=aa an;clear c4 HK;generalize cmpL (sL st j) (sL st k)=tY at*;refine du (cU 0 14 []) [] ?_;repeat (
     refine S4.step (λKK aJ=>?_);go_simp;first
      |(refine aJ _ ?_;clear aJ KK)
      |(apply lL;refine⟨λ_=>?_,aJ _ ?_⟩;(with_reducible exact aN.seq (CC.A _));clear aJ KK))
    exact XP
   ·have HS:=E (show r=false from f.A (by rw[HK.A,aa c4];rfl));have c5:decide (0<=cmpL (sL st j) (sL st k))=true:=ac an;clear c4 HK;generalize cmpL (sL st j) (sL st k)=tY at*;exact XO
  ·obtain rfl:k=st.length:=by omega
   exact Qb
def XQ {s:List cr} (w:aB) (h:Vs dO w B v s):aN aH 103 #[v] w λe w'=>(e=aQ (if eY s=true then v else O M 0 0))/\aF w w':=by
 have a:=E (Qq w h);obtain⟨A0,c0,rfl,_⟩:=h.len_;clear h;generalize eY s=x at*;cases x;all_goals
  go_enter func103,ntmps103;go_wp2_with fail;refine a.A.ah ?_;rintro e c⟨rfl,Z⟩;have b:=E Z;clear Z;go_wp2;go_ret;exact⟨rfl,b.A⟩
def L7 {s:List cr} (h:Vs dO w B v s):Vs dO w B (if eY s=true then v else O M 0 0) (gS s):=by
 unfold gS;split
 ·exact h
 ·exact Vs.bh _ _ _
def ag3 {vs vl:aE} {st:List cr} (w:aB) (hs:Vs dO w B vs st) (d:Vs bE w B' vl L) (i:Nat) (hi:i<st.length) (v:st.length<=32):aN aH 140 #[aY #[vs,vl],J I i] w λe w'=>e=aQ (J I (cmpL L (sL st i)))/\aF w w':=by
 obtain⟨ao,cap,rfl,f,hn,u⟩:=hs.be;have g:=d;obtain⟨A2,c2,rfl,_⟩:=d.be;clear d hs;obtain⟨b,off,A0,c0,A1,c1,rfl,m,j,_,l,_⟩:=f.Fv (bk _ w) hi;have n:=E ((aF.refl w).alloc (aD #[O (ad (ab b off M)) st.length cap,O A2 L.length c2] 233));have c:=(bk w.heap.size w).alloc (aO _) (aD #[O (ad (ab b off M)) st.length cap,O A2 L.length c2] 233);have a:=aI.new w 233 #[O (ad (ab b off M)) st.length cap,O A2 L.length c2];have o:=E (λp:ba (w.alloc (aD #[O (ad (ab b off M)) st.length cap,O A2 L.length c2] 233))=>LK p.aL ((g.al c).al p.aC) ((l.al c).al p.aC));have s:∀p:ba (w.alloc (aD #[O (ad (ab b off M)) st.length cap,O A2 L.length c2] 233)),p.aL.cell? (ab w.heap.size 0 M)=ad (O (ad (ab b off M)) st.length cap):=ba.cells a 0;have r:∀p:ba (w.alloc (aD #[O (ad (ab b off M)) st.length cap,O A2 L.length c2] 233)),p.aL.cell? (ab w.heap.size 1 M)=ad (O A2 L.length c2):=ba.cells a 1;have q:=λp:ba (w.alloc (aD #[O (ad (ab b off M)) st.length cap,O A2 L.length c2] 233))=>p.cell (by show b<_;simp;omega) (c.cell (p:=⟨b,off+i*2,M⟩) m|>.trans j);clear j l f g c a;generalize cmpL L (sL st i)=tY at*;go_enter func140,ntmps140;go_wp2_with fail;refine du (cU 0 10 []) [] ?_;repeat (
  refine S4.step (λKK aJ=>?_);go_simp;first
   |(refine aJ _ ?_;clear aJ KK)
   |(apply lL;refine⟨λ_=>?_,aJ _ ?_⟩;(with_reducible exact aN.seq (o.A _));clear aJ KK))
 refine S4.nb λt a=>?_;refine dP ?_;go_wp2;go_ret;exact⟨rfl,n.A.next a⟩
theorem XR (h:P:=by
 go_wp2_with fail;refine Fx.A.ah ?_;rintro e w1⟨rfl,Z⟩;have HB:=E (hB.trans Z);clear Z;go_wp2;go_roundw;case rel=>exact⟨lo,h,h1,qg.A,an,rfl,rfl,HB.A⟩
 case measure=>exact aA
 ):P:=h
theorem XS (h:P:=by
 go_wp2_with fail;refine Fx.A.ah ?_;rintro e w1⟨rfl,Z⟩;have HB:=E (hB.trans Z);clear Z;go_wp2;go_roundw;case rel=>exact⟨h+1,hi,qg.A,h2,h3,rfl,rfl,HB.A⟩
 case measure=>exact aA
 ):P:=h
theorem XT (h:P:=by
 go_wp2_with fail;refine Fx.A.ah ?_;rintro e w1⟨rfl,Z⟩;have HB:=E (hB.trans Z);clear Z;go_wp2;go_ret2;exact⟨by rw[d4.A,Bool.true_and,hy.A];rfl,HB.A⟩;):P:=h
def ag4 (a:aE) (n c:Nat) (f:Nat->Int) (w:aB) (hn:n<=64) (p:c<=n) (hcut:∀i,i<n->(0<f i↔i<c)) (k:∀W,aF w W->∀i:Nat,i<n->aN aH 140 #[a,J I i] W λe w'=>e=aQ (J I (f i))/\aF W w'):aN aH 139 #[J I n,.func (.func 140) #[a] #[]] w λe w'=>e=aQ (bn #[J I c,aG (decide (c<n)&&decide (f c=0))])/\aF w w':=by
 have m:=E k;have s:=E hcut;clear k hcut;go_enter func139,ntmps139;go_wp2;go_loopw [4,6] (λi j wr=>∃lo hi:Nat,lo<=c/\c<=hi/\hi<=n/\i=J I lo/\j=J I hi/\aF w wr) (λi j _=>(intOf j).toNat-(intOf i).toNat);case atStart=>exact⟨0,n,an,p,aO _,rfl,rfl,aF.refl _⟩
 case round=>
  obtain⟨lo,hi,h1,h2,h3,rfl,rfl,hB⟩:=hrel;by_cases v:lo<hi
  ·obtain⟨h,t⟩:=aP ((lo+hi)/2:Nat);have o:((lo:Int)+(hi:Int))/2=(h:Int):=an;have l:h<n:=an;have Fx:=E (m.A wr hB h l);have g:=E (s.A h l);have x:I.wrap ((h:Int)+1)=((h+1:Nat):Int):=ay;by_cases d:0<f h
   ·have d1:decide (0<f h)=true:=ac d;have qg:=E (g.A.1 d);clear d;exact XS
   ·have d1:decide (0<f h)=false:=aa d;have qg:=E (show c<=h from by have:=g.A.2;omega);clear d;exact XR
  ·obtain rfl:lo=c:=by omega
   by_cases b:lo<n
   ·have Fx:=E (m.A wr hB lo b);have r:decide ((lo:Int)<(n:Int))=true:=ac an;obtain⟨y,hy⟩:=aP (decide (f lo=0));have u:(f lo==0)=y:=hy;have d4:=E (ac b);have q:decide (lo<n)=true:=ac b;replace hy:=E hy;clear b;exact XT
   ·have r:decide ((lo:Int)<(n:Int))=false:=aa an;have d4:=E (aa b);have q:decide (lo<n)=false:=aa b;clear b;go_wp2;go_ret2;exact⟨by rw[d4.A,Bool.false_and];rfl,hB⟩
def XV (a:bH L=true) (h2:bH aU=true):cmpL L aU=fu L aU:=by unfold cmpL;rw[nO a,nO h2]
def ag5 {st:List cr} (hs:eY st=true) {L:aZ} (b:bH L=true):∀i,i<st.length->(0<cmpL L (sL st i)↔i<ahead L st):=by
 intro i hi;have a:=vm.1 hs;have h0:sL st i=st[i].L:=by unfold sL;rw[dr hi]
 rw[XV b (by rw[h0];exact Pz (a.2.1 _ (dl hi)).1),h0,lg.gt];constructor
 ·intro h;rcases gy i (ahead L st) with k|k
  ·exact k
  ·rcases gy (ahead L st) i with k2|k2
   ·have:=Wq (l:=L) a.2.2 hi k2;omega
   ·obtain rfl:i=ahead L st:=by omega
    exact ae h (PB hi)
 ·intro h;have:=Wo (l:=L) (st:=st) st[i] (by
   rw[List.mem_take_iff_getElem];exact⟨i,an,rfl⟩)
  exact this
def ag6 {st:List cr} (hs:eY st=true) {L:aZ} (b:bH L=true):(decide (ahead L st<st.length)&&decide (cmpL L (sL st (ahead L st))=0))=sq L st:=by
 unfold sq;by_cases h:ahead L st<st.length
 ·have a:=vm.1 hs;have h0:sL st (ahead L st)=st[ahead L st].L:=by unfold sL;rw[dr h]
  rw[ac h,Bool.true_and,Bool.true_and,XV b (by rw[h0];exact Pz (a.2.1 _ (dl h)).1)];congr 1;exact propext (lg.aeM.trans eq_comm)
 ·rw[aa h];rfl
def ag7 {vl:aE} {st:List cr} (w:aB) (hB:B<=w.heap.size) (hs:Vs dO w B v st) (f:Vs bE w B' vl L) (a:eY st=true) (g:bH L=true):aN aH 104 #[v,vl] w λe w'=>e=aQ (bn #[J I (ahead L st),aG (sq L st)])/\aF w w':=by
 have j:=(vm.1 a).1;have m:=E (λd (Z:aS w.heap.size w d)=>ag4 (aY #[v,vl]) st.length (ahead L st) (λi=>cmpL L (sL st i)) d an (PA _ _) (ag5 a g) (λW k i hi=>ag3 W ((hs.al Z).al k.aC) ((f.al Z).al k.aC) i hi j));have l:=E (ag6 a g);clear a g j;obtain⟨ao,cap,rfl,_⟩:=hs.be;obtain⟨A2,c2,rfl,_⟩:=f.be;clear hs f;generalize ahead L st=c at*;generalize sq L st=t at*;have b:=E ((aF.refl w).alloc (aD #[O ao st.length cap,O A2 L.length c2] 233));go_enter func104,ntmps104;go_wp2_with fail;refine(m.A _ b.A.aC).ah ?_;rintro e d⟨rfl,Z⟩;rw[l.A];replace b:=E (b.A.trans Z);clear Z l m;go_wp2;go_ret2;exact⟨rfl,b.A⟩
variable {base cap:Nat} {T e:bf} {S:List bf} {cur:List aE}
def laid (o:Nat) (cs cur:List aE):List aE:=cur.take o++cs++cur.drop (o+cs.length)
def xf {o:Nat} {cs:List aE} (h:o+cs.length<=cur.length):(laid o cs cur).length=cur.length:=by unfold laid;simp;omega
def ag8 {o m:Nat} {cs:List aE} (h:o+cs.length<=cur.length) (a:m<=o):(laid o cs cur).take m=cur.take m:=by
 unfold laid;rw[mV,List.take_append_of_le_length aw,List.take_take];congr 1;omega
def Qs {o:Nat} {cs:List aE} (h:o+cs.length<=cur.length):(laid o cs cur).take (o+cs.length)=cur.take o++cs:=by
 unfold laid;rw[List.take_append_of_le_length aw,List.take_of_length_le aw]
def XW {c l:List aE} (e:us.length=k) (hi:i<=n) (p:(n+1)*k<=c.length) (a:c.take (n*k)=l):(laid (i*k) us (laid ((i+1)*k) (l.drop (i*k)) c)).take ((n+1)*k)=l.take (i*k)++us++l.drop (i*k):=by
 have g:(i+1)*k=i*k+k:=oA i k;have h2:(n+1)*k=n*k+k:=oA n k;have q:i*k<=n*k:=sa k hi;have d:l.length=n*k:=by rw[<-a];simp;omega
 have s:(l.drop (i*k)).length=n*k-i*k:=by simp[d]
 have j:(i+1)*k+(l.drop (i*k)).length=(n+1)*k:=an;have r:=xf (o:=(i+1)*k) (cs:=l.drop (i*k)) (cur:=c) an;have h4:(laid ((i+1)*k) (l.drop (i*k)) c).take ((n+1)*k)=c.take ((i+1)*k)++l.drop (i*k):=by
  have:=Qs (o:=(i+1)*k) (cs:=l.drop (i*k)) (cur:=c) an;rwa[j] at this
 have f:laid (i*k) us (laid ((i+1)*k) (l.drop (i*k)) c)=c.take (i*k)++us++(laid ((i+1)*k) (l.drop (i*k)) c).drop ((i+1)*k):=by
  conv=>lhs;unfold laid
  have h6:=ag8 (o:=(i+1)*k) (m:=i*k) (cs:=l.drop (i*k)) (cur:=c) an an;unfold laid at h6⊢;rw[h6,e,<-g]
 rw[f,show(n+1)*k=(c.take (i*k)++us).length+(n*k-i*k) by simp;omega,List.take_length_add_append,<-a,List.take_take,show min (i*k) (n*k)=i*k by omega];congr 1;rw[a];have b:=congrArg (List.drop ((i+1)*k)) h4;rw[List.drop_take,List.drop_left' (by rw[tH];omega),show(n+1)*k-(i+1)*k=n*k-i*k by omega] at b;exact b
def XY {c l:List aE} (f:us.length=k) (hi:i<=n) (g:(n+1)*k<=c.length) (a:l.length=n*k) (b:c.take (i*k)=l.take (i*k)):(laid ((i+1)*k) (l.drop (i*k)) (laid (i*k) us c)).take ((n+1)*k)=l.take (i*k)++us++l.drop (i*k):=by
 have m:(i+1)*k=i*k+k:=oA i k;have h2:(n+1)*k=n*k+k:=oA n k;have j:i*k<=n*k:=sa k hi;have q:(l.drop (i*k)).length=n*k-i*k:=by simp[a]
 have e:(i+1)*k+(l.drop (i*k)).length=(n+1)*k:=an;have p:=xf (o:=i*k) (cs:=us) (cur:=c) an;have h4:=Qs (o:=(i+1)*k) (cs:=l.drop (i*k)) (cur:=laid (i*k) us c) an;rw[e] at h4;have d:=Qs (o:=i*k) (cs:=us) (cur:=c) an;rw[h4,show(i+1)*k=i*k+us.length by omega,d,b]
def DB {P:cp} (w:aB) (n sT ty b:bf) (k:Nat) (g o m f:Nat) (a:aX) (l e:Nat) (cur:Array aE) (t:bf) (cs:List aE) (p:P.underlying n=ad (.slice b)) (hs:(P.info? b).map (·.size)=ad k) (hg:w.heap[g]?=ad (aD cur t (0,0))) (hn:cs.length=Nat.min l m*k) (d:∀j v,cs[j]?=ad v->w.cell? (a.add j)=ad v) (u:o+cs.length<=cur.size) (r:∀v∈cs,v.oneCell'=true):(Builtin.copy_ #[n,sT] ty #[O (ad (ab g o M)) m f,O (ad a) l e]).run P w= .ok (goInt (Nat.min l m)) (w.setRow g (laid o cs cur.toList).toArray):=by
 have q:=run_loadCells_list (P:=P) w a cs d;have s:=run_storeCells_at P g o t cs 0 cur w hg (am u) r;cases c:P.info? b with
 |none=>simp[c] at hs
 |some i=>
  have hi:i.size=k:=by simpa[c] using hs
  simp[Builtin.copy_,mf p,Builtin.lenOf,Builtin.firstCells,sizeOf,typeInfo,c,hi,<-hn,q,s,laid]
def run_sizeOf {P:cp} (h:(P.info? e).map (·.size)=ad k):∀w,(Go.sizeOf e).run P w= .ok k w:=λw=>by
 cases a:P.info? e with
 |none=>simp[a] at h
 |some i=>
  have hi:i.size=k:=by simpa[a] using h
  simp[sizeOf,typeInfo,a,hi]
def setRow_other (w:aB) (g b:Nat) (cs:Array aE) (h:b≠g):(w.setRow g cs).heap[b]?=w.heap[b]?:=by
 unfold World.setRow;simp only[yu];rw[af (Ne.symm h)]
def Kt.setRow {a:aB} (h:Kt B S a w) (hg:B<=g) (c:bp w T g) (f:T∈S) (cs:Array aE):Kt B S a (w.setRow g cs):=h.trans ⟨rfl,rfl,rfl,arj,λb Z=>setRow_other _ _ _ _ an,λe b d i=>setRow_other _ _ _ _ (by
 rintro rfl;exact d ((i.q9 c)▸f))⟩
def aF.setRow {a:aB} (h:aF a w) (hg:a.heap.size<=g) (cs:Array aE):aF a (w.setRow g cs):=aF.of (h.aC.trans ⟨rfl,rfl,rfl,arj,λb Z=>setRow_other _ _ _ _ an⟩)
def Ow.Bi {α:Type} {D:Kr α} {l:List α} {cur:Array aE} (a:Rs D w B l us) (Z:base<=g) (hg:w.heap[g]?=ad (aD cur D.e (0,0))) (hn:l.length<=cap) (c:cap<=bK) (hs:cur.size=cap*D.k) (b:cur.toList.take (l.length*D.k)=us):Ow D w B base (O (ad (ab g 0 M)) l.length cap) l:=⟨us,a,a.len,.inr ⟨g,cap,cur,rfl,Z,hg,hn,c,hs,b⟩⟩
def Ow.tZ {α:Type} {D:Kr α} {l:List α} (h:Ow D w B base (O (ad (ab g 0 M)) n cap) l):∃us cur,n=l.length/\Rs D w B l us/\base<=g/\w.heap[g]?=ad (aD cur D.e (0,0))/\l.length<=cap/\cap<=bK/\cur.size=cap*D.k/\cur.toList.take (l.length*D.k)=us:=by
 obtain⟨us,a,ho⟩:=h.A;rcases ho.2 with⟨h1,_⟩|⟨g',ahc,cur,h1,r⟩
 ·cases h1
 ·cases h1;exact⟨us,cur,rfl,a,r⟩
def L8:(aH.info? 112).map (λi=>(i.zero,i.size,i.bytes))=ad (ad (aY #[O M 0 0,O M 0 0]),2,48):=ar
def IQ:dO.e∉dO.bI:=aq
def vy:(aH.info? 112).map (·.size)=ad 2:=ar
def XZ {l:List cr} (w:aB) (hB:B<=w.heap.size) (h:Vs dO w B v l) (hs:l.length*48<=140737488355328):aN aH 106 #[v] w λe w'=>(∃d,e=aQ d/\Ow dO w' B w.heap.size d l)/\aF w w':=by
 obtain⟨ao,n,cap,rfl,c,_⟩:=h.A;clear h;have u:∀w,(binOp .eql 26 (O ao n cap) (O M 0 0)).run aH w= .ok (aG ao.isNone) w:=λw=>by
  simp only[binOp];simp[run_equal_slice_nil w 26 112 ao n cap underlying26]
 have k:=c.len;cases ao with
 |none=>
  have o:l=[]:=by
   obtain⟨us,b,f⟩:=c.A;rcases kJ n with h|h
   ·exact Dt
   ·obtain⟨_,_,e,_⟩:=f (Nat.mul_pos h dO.pos);cases e
  subst o;clear c;go_enter func106,ntmps106;exact Ba
 |some a=>
  have HO:=E (Ow.AO (D:=dO) (base:=w.heap.size) w B (aO _));have HB:=E ((aF.refl w).alloc (aD #[] 112));have m:=E (show∃us,Rs dO (w.alloc (aD #[] 112)) B l us/\Sl (w.alloc (aD #[] 112)) (w.heap.size+1) (ad a) (n*dO.k) (λi=>us.getD i (aG false)) by
   have p:=c.al ((bk _ _).alloc (aO _) (aD #[] 112));obtain⟨us,b,f⟩:=p.A;have:=f.sink;rw[eO] at this;exact⟨us,b,this⟩)
  obtain⟨us,b,j⟩:=m.A;have s:=E b;have t:=E j;have g:=E (show([]:List cr).length+n<=bK/\(([]:List cr).length+n)*48<=140737488355328/\w.heap.size<=(w.alloc (aD #[] 112)).heap.size from⟨aqy,aqJ,av⟩);have q:=E k;have r:=E hB;clear b j m c hs k hB;go_enter func106,ntmps106;go_wp2_with ((refine mZ dO au (.tmp 5) (.tmp 6) 26 au w.heap.size 48 _ ar L8 au B _ [] au HO.A (ad a) n cap l us au s.A q.A (w.heap.size+1) t.A g.A.1 g.A.2.1 g.A.2.2 r.A IQ ?_;intro d w' bC bG x));exact Ds
theorem X0 (h:P:=by
 rw[nH];exact run_firstCells_some w.drew 2 i (ab g 0 M) i cap (vs.take (i*2)) aqM (λj v hj=>by
  rw[Addr.add_lit,ig];rw[List.getElem?_take] at hj;split at hj
  ·rw[<-sH,List.getElem?_take] at hj;split at hj
   ·show w.cell? _=_;simp only[World.cell?,fc];simpa using hj
   ·cases hj
  ·cases hj)
 ):P:=h
theorem X1 (h:P:=by
 intro W hW j v hj;rw[Addr.add_lit,wK hW];rw[List.getElem?_drop,<-sH,List.getElem?_take] at hj;split at hj
 ·simp only[World.cell?,fc];simpa using hj
 ·cases hj
 ):P:=h
theorem X2 (h:P:=by
 rw[Bj,Array.append_assoc,Array.toList_append,List.take_append_of_le_length (by rw[List.toList_toArray];omega),List.toList_toArray,List.take_take,Nat.min_self];):P:=h
theorem X3 (h:P:=by
 have h1:=(lp.keep hW dK).take_drop i;have h2:=(h1.1.append (nS.keep hW dK)).append h1.2;rwa[mV,List.singleton_append] at h2;):P:=h
theorem L9 (h:P:=by
 rw[cutAt,af dh,tG,AN,ig] at h;exact h;):P:=h
def ahd {l:List cr} {x:cr} {a:Nat} (i:Nat) (w:aB) (hi:i<=l.length) (hB:B<=base) (cF:base<=w.heap.size) (ho:Ow dO w B base v l) (m:aI w a 112 us.toArray) (hrel:dO.rel w B x us) (V:∀g,v.ownBlock=ad g->g≠a) (hs:(l.length+1)*48<=140737488355328):aN aH 107 #[v,J I i,O (ad (ab a 0 M)) 1 1] w λe w'=>(∃v',e=aQ v'/\Ow dO w' B base v' (l.take i++x::l.drop i))/\(∀ao,aF ao w->ao.heap.size<=base->aF ao w'):=by
 have jL:us.length=dO.k:=dO.len hrel;have ua:=dO.one hrel;have nS:Rs dO w B [x] us:=Rs.single hrel;have K:=aI.src (n:=1*dO.k) m (by rw[jL,Nat.one_mul]);have IR:l.length+1<=140737488355328:=a8 (Nat.le_mul_of_pos_right _ aq) hs;by_cases iF:i=l.length
 ·subst iF;rw[pZ,qT];have HO:=E ho;have HR:=E nS;have HS:=E K;have u:=E (show l.length+1<=bK/\base<=w.heap.size/\B<=base/\(l.length+1)*48<=140737488355328 from⟨aqv,cF,hB,hs⟩);rcases ho.form with⟨rfl,rfl⟩|⟨g,cap,rfl,rf,N,qg,U⟩
  ·clear ho nS K m hrel ua jL V hs hB cF;go_enter func107,ntmps107;go_wp2_with ((refine mZ dO au (.tmp 23) (.tmp 24) 26 au base 48 _ ar L8 au B _ [] au HO.A (ad (ab a 0 M)) 1 1 [x] us au HR.A rfl (a+1) HS.A u.A.1 u.A.2.2.2 u.A.2.1 u.A.2.2.1 IQ ?_;intro v' w' bC bG cx));go_ret;exact⟨⟨_,rfl,bC⟩,λao q o=>q.grown HO.A o bG⟩
  ·have hm:=show cap<=9223372036854775807 by simpa[bK] using U
   have n1:(l.length:Int)<=140737488355328:=an;clear ho nS K m hrel ua jL V hs hB cF N U;go_enter func107,ntmps107;have s1:∀W,(iV 26 (O (ad (ab g 0 M)) l.length cap) (ad (J I (l.length:Int))) M M).run aH W= .ok (O (cutAt (ad (ab g 0 M)) cap l.length 2) (l.length-l.length) (cap-l.length)) W:=oC underlying26 2 vy (ad (ab g 0 M)) l.length cap l.length (aO _);go_wp2_with ((refine mZ dO au (.tmp 23) (.tmp 24) 26 au base 48 _ ar L8 au B _ l au HO.A (ad (ab a 0 M)) 1 1 [x] us au HR.A rfl (a+1) HS.A u.A.1 u.A.2.2.2 u.A.2.1 u.A.2.2.1 IQ ?_;intro v' w' bC bG cx));go_ret;exact⟨⟨_,rfl,bC⟩,λao q o=>q.grown HO.A o bG⟩
 obtain⟨g,cap,rfl,rf,N,qg,U⟩:∃g cap,v=O (ad (ab g 0 M)) l.length cap/\base<=g/\bp w dO.e g/\l.length<=cap/\cap<=bK:=by
  rcases ho.form with⟨rfl,rfl⟩|h
  ·simp at hi iF;omega
  ·exact h
 obtain⟨vs,cur,_,lp,_,fc,_,_,cS,sH⟩:=ho.tZ;have hm:=show cap<=9223372036854775807 by simpa[bK] using U
 have IS:g≠a:=V g rfl;have fw:=lp.len;have iK:=lp.one;have bJ:(aH.info? 112).map (·.size)=ad 2:=vy;have mi:∀W:aB,W.heap[g]?=w.heap[g]?->∀j v,(vs.drop (i*2))[j]?=ad v->W.cell? ((⟨g,i*2,M⟩:aX).add j)=ad v:=by
  exact X1
 have aK:i<l.length:=an;have Dx:I.wrap ((i:Int)+1)=(i:Int)+1:=ay;have X4:I.wrap ((l.length:Int)+1)=(l.length:Int)+1:=ay;have de:((i:Int)==(l.length:Int))=false:=aw;have dh:¬(cap=i):=an;have aR:i<=l.length:=hi;have Z:g<w.heap.size:=N.lt;have b5:cur.toList.length=cap*2:=by have Qv:cur.size=cap*2:=cS;simpa using Qv
 have Y:∀W,Kt B [112] w W->Rs dO W B (l.take i++x::l.drop i) (vs.take (i*2)++us++vs.drop (i*2)):=by
  intro W hW;have dK:∀t∈dO.bI,t∉[112]:=λt ht h=>by rw[bD.1 h] at ht;exact IQ ht
  exact X3
 have H:(l.take i++x::l.drop i).length=l.length+1:=aw;have X:∀(W:aB) (L:Nat) (R:Array aE) (S:Nat),W.heap[L]?=ad (aD R 112 (0,0))->W.heap[a]?=w.heap[a]?->(i+1)*2<=R.size->0<S->∀ty d,(Builtin.copy_ #[26,26] ty #[O (ad ⟨L,i*2,M⟩) S d,O (ad (ab a 0 M)) 1 1]).run aH W= .ok (goInt (Nat.min 1 S)) (W.setRow L (laid (i*2) us R.toList).toArray):=λW L R S h1 h2 h3 h4 ty d=>DB W _ _ ty 112 2 L _ _ d (ab a 0 M) _ 1 R 112 us au vy h1 (by rw[jL,show Nat.min 1 S=1 from Nat.min_eq_left an];rfl) (λj v hj=>by
  rw[Addr.add_lit,ig,wK h2,m.cell,List.getElem?_toArray];exact hj) (by rw[jL];show i*2+2<=_;omega) ua
 by_cases ze:l.length+1<=cap
 ·have d1:decide (cap<l.length+1)=false:=aa an;have cq:¬(cap=i+1):=an;have IT:∀lb cb,(callFunc 144 #[O (ad (ab a 0 M)) 1 1,O (ad ⟨g,(i+1)*2,M⟩) lb cb]).run aH w= .ok (.value (aG false)) w:=λlb cb=>by
   rw[run_callFunc_extern func144 ar ar ar (e:=Extern.SlicesOverlaps.overlaps #[26,26] #[4]) ar,Lib.run_overlaps_apart w 26 4 112 au 2 (run_sizeOf vy) (ab a 0 M) ⟨g,(i+1)*2,M⟩ 1 1 lb cb (Ne.symm IS) 112 112 us.toArray.size cur.size (by simp[World.shape?,show w.heap[a]?=_ from m]) (by rw[World.shape?,fc];rfl) (by rw[cS];show cap*2≠0;omega) (m.frozen 0) (m.frozen _)];rfl
  have IU:∀W:aB,W.heap[g]?=w.heap[g]?->∀ty d z,(Builtin.copy_ #[26,26] ty #[O (ad ⟨g,(i+1)*2,M⟩) (l.length-i) d,O (ad ⟨g,i*2,M⟩) (l.length+1-i) z]).run aH W= .ok (goInt (Nat.min (l.length+1-i) (l.length-i))) (W.setRow g (laid ((i+1)*2) (vs.drop (i*2)) cur.toList).toArray):=λW hW ty d z=>DB W _ _ ty 112 2 g _ _ d ⟨g,i*2,M⟩ _ z cur 112 _ au vy (hW.trans fc) aql (mi W hW) eI (λv hv=>iK v (List.mem_of_mem_drop hv));have kQ:(laid ((i+1)*2) (vs.drop (i*2)) cur.toList).toArray.size=cap*2:=by
   rw[lM,xf eJ,b5]
  have T:=XW (c:=cur.toList) (us:=us) (l:=vs) (i:=i) (n:=l.length) (k:=2) jL hi (by rw[b5];omega) sH;generalize(laid ((i+1)*2) (vs.drop (i*2)) cur.toList)=R1 at*;go_enter func107,ntmps107;have Qw:∀W,(iV 26 (O (ad (ab g 0 M)) (l.length+1) cap) (ad (J I ((i:Int)+1))) M M).run aH W= .ok (O (ad ⟨g,(i+1)*2,M⟩) (l.length+1-(i+1)) (cap-(i+1))) W:=λW=>by
   have h:=oC underlying26 2 vy (ad (ab g 0 M)) (l.length+1) cap (i+1) an W;rw[cutAt,af cq,tG,AN,ig] at h;exact h
  have Qx:∀W,(iV 26 (O (ad (ab g 0 M)) (l.length+1) cap) (ad (J I (i:Int))) M M).run aH W= .ok (O (ad ⟨g,i*2,M⟩) (l.length+1-i) (cap-i)) W:=λW=>by
   have h:=oC underlying26 2 vy (ad (ab g 0 M)) (l.length+1) cap i an W;exact L9
  go_wp2_with (simp only[IT]);refine du (cU 0 8 []) [8] ?_;refine dY ?_;refine S4.nb λp f=>?_;refine E4.dm (λKK aJ=>?_);refine step_copy_runI rfl (.tmp 73) (.tmp 76) _ _ rfl _ _ au au (IU p (f.block g Z) _ _ _) ?_;refine aJ _ _ ?_;clear aJ KK;refine E4.bh ?_;have F:=aF.of f;have C:=setRow_heap p g cur R1.toArray 112 (0,0) ((f.block g Z).trans fc);have mr:(p.setRow g R1.toArray).heap[a]?=w.heap[a]?:=(setRow_other _ _ _ _ (Ne.symm IS)).trans (f.block a m.lt);have jD:Kt B [112] w (p.setRow g R1.toArray):=(Kt.lQ f an).setRow an ⟨_,_,(f.block g Z).trans fc⟩ (bD.2 rfl) _;have IV:∀ao,aF ao w->ao.heap.size<=base->aF ao (p.setRow g R1.toArray):=λao q o=>(q.trans F).setRow an _;generalize p.setRow g R1.toArray=W2 at*;have b4:=X W2 g R1.toArray (l.length+1-i) C mr (by rw[kQ];omega) an;have re:=setRow_heap W2 g R1.toArray (laid (i*2) us R1).toArray 112 (0,0) C;have eV:=jD.setRow (g:=g) an ⟨_,_,C⟩ (bD.2 rfl) (laid (i*2) us R1).toArray;have rk:∀ao,aF ao w->ao.heap.size<=base->aF ao (W2.setRow g (laid (i*2) us R1).toArray):=λao q o=>(IV ao q o).setRow an _;have A:=E (Ow.Bi (D:=dO) (Y _ eV) rf re (by rw[H];exact ze) U (by
   rw[lM,xf (by rw[jL,<-lM,kQ];show i*2+2<=_;omega),<-lM,kQ];rfl) (by rw[H];exact T))
  rw[H] at A;replace rk:=E rk;clear Y C mr jD IV re eV kQ T IU X mi fc cS sH b5 lp fw iK f F IT ho m nS K V N IR hs;go_wp2_with (at_builtin;refine wpList_copy_runI _ rfl (.tmp 80) (.tmp 81) _ _ rfl _ _ rfl rfl (b4 _ _) ?_);go_ret;first|exact⟨⟨_,rfl,A.A⟩,rk.A⟩|exact⟨⟨_,rfl,A.A⟩,λao y e o=>rk.A ao ⟨y,e⟩ o⟩
 ·have d1:decide (cap<l.length+1)=true:=ac an;obtain⟨i0,jZ,ef,nH,DC⟩:=Im L8;have r:(Builtin.firstCells i0.size i (O (ad (ab g 0 M)) i cap)).run aH w.drew= .ok (vs.take (i*2)).toArray w.drew:=by
   exact X0
  have qh:i+(l.length+1-i)=l.length+1:=an;have eh:(l.length:Int)+1-(i:Int)=((l.length+1-i:Nat):Int):=an;obtain⟨G,ub⟩:∃G,G=grownCap w (l.length+1) cap 112:=⟨_,rfl⟩;obtain⟨b,Bj⟩:∃b:Array aE,b=(vs.take (i*2)).toArray++pg (aY #[O M 0 0,O M 0 0]:aE).cells (l.length+1-i)++pg (aY #[O M 0 0,O M 0 0]:aE).cells (G-(l.length+1)):=⟨_,rfl⟩;have IW:∀ty,(tI #[26,3] ty #[O (ad (ab g 0 M)) i cap,J I ((l.length:Int)+1-(i:Int))]).run aH w= .ok (O (ad (ab w.heap.size 0 M)) (l.length+1) G) (w.drew.alloc (aD b 112)):=λty=>by
   have h:=Lib.run_append_grow_zeros w 26 3 ty 112 i0 _ I I au au jZ ef (ad (ab g 0 M)) i cap (vs.take (i*2)) r (l.length+1-i) an (by rw[nH];decide) an an (by rw[DC];have:=sa 48 (show l.length+1-i<=l.length+1 by omega);omega) (by rw[DC,qh];exact growslice_fits an hs);rw[qh] at h;rw[eh,Bj,ub];exact h
  have Qy:l.length+1<=G:=by rw[ub];exact grownCap_ge w _ _ _
  have IX:G<=bK:=by rw[ub];exact grownCap_le_maxLen w _ _ _ aqF
  have aP:G<=9223372036854775807:=by simpa[bK] using IX
  have DD:b.size=G*2:=by
   rw[Bj];simp[pg,Value.cells,fw];have:dO.k=2:=rfl;rw[this];omega
  have Ma:(vs.take (i*2)).length=i*2:=aqM;have Qz:b.toList.take (i*2)=vs.take (i*2):=by
   exact X2
  clear Bj ub r qh eh jZ ef nH DC;have QA:¬(G=i):=an;have QB:¬(G=i+1):=an;obtain⟨s,ko⟩:∃s,s=w.drew.alloc (aD b 112):=⟨_,rfl⟩;have bg:aF w s:=by rw[ko];exact(aF.drew w).alloc _
  have po:s.heap[w.heap.size]?=ad (aD b 112 (0,0)):=by rw[ko];exact qR w.drew _
  have uc:g≠w.heap.size:=an;rw[<-ko] at IW;have b4:=X s w.heap.size b (l.length+1-i) po (bg.aC.block a m.lt) an an;have C:=setRow_heap s w.heap.size b (laid (i*2) us b.toList).toArray 112 (0,0) po;have DE:(laid (i*2) us b.toList).length=G*2:=by
   rw[xf BY,Array.length_toList,DD]
  have T:=XY (c:=b.toList) (us:=us) (l:=vs) (i:=i) (n:=l.length) (k:=2) jL hi (by have:=DD;rw[<-Array.length_toList] at this;omega) fw Qz;have bN:aF w (s.setRow w.heap.size (laid (i*2) us b.toList).toArray):=bg.setRow (aO _) _;generalize(laid (i*2) us b.toList)=R1 at*;have IY:∀W:aB,W.heap[w.heap.size]?=ad (aD R1.toArray 112 (0,0))->W.heap[g]?=w.heap[g]?->∀ty d z,(Builtin.copy_ #[26,26] ty #[O (ad ⟨w.heap.size,(i+1)*2,M⟩) (l.length-i) d,O (ad ⟨g,i*2,M⟩) (l.length-i) z]).run aH W= .ok (goInt (Nat.min (l.length-i) (l.length-i))) (W.setRow w.heap.size (laid ((i+1)*2) (vs.drop (i*2)) R1.toArray.toList).toArray):=λW h1 hW ty d z=>DB W _ _ ty 112 2 w.heap.size _ _ d ⟨g,i*2,M⟩ _ z R1.toArray 112 _ au vy h1 aqs (mi W hW) ez (λv hv=>iK v (List.mem_of_mem_drop hv));have Qw:∀W,(iV 26 (O (ad (ab w.heap.size 0 M)) (l.length+1) G) (ad (J I ((i:Int)+1))) M M).run aH W= .ok (O (ad ⟨w.heap.size,(i+1)*2,M⟩) (l.length+1-(i+1)) (G-(i+1))) W:=λW=>by
   have h:=oC underlying26 2 vy (ad (ab w.heap.size 0 M)) (l.length+1) G (i+1) an W;rw[cutAt,af QB,tG,AN,ig] at h;exact h
  have Qx:∀W,(iV 26 (O (ad (ab w.heap.size 0 M)) (l.length+1) G) (ad (J I (i:Int))) M M).run aH W= .ok (O (ad ⟨w.heap.size,i*2,M⟩) (l.length+1-i) (G-i)) W:=λW=>by
   have h:=oC underlying26 2 vy (ad (ab w.heap.size 0 M)) (l.length+1) G i an W;rw[cutAt,af QA,tG,AN,ig] at h;exact h
  have aM:∀W,(iV 26 (O (ad (ab g 0 M)) l.length cap) (ad (J I (i:Int))) M M).run aH W= .ok (O (ad ⟨g,i*2,M⟩) (l.length-i) (cap-i)) W:=λW=>by
   have h:=oC underlying26 2 vy (ad (ab g 0 M)) l.length cap i an W;exact L9
  have HQ:=E (iC C bN);clear C bN po bg ko;go_enter func107,ntmps107;go_wp2_with (first
   |(at_builtin;refine Lib.wpList_append_run _ rfl _ _ _ _ rfl _ _ rfl rfl _ _ (IW _) ?_)
   |(at_builtin;refine wpList_copy_runI _ rfl _ _ _ _ rfl _ _ rfl rfl (b4 _ _) ?_))
  obtain⟨W2,nk⟩:∃y,y=s.setRow w.heap.size R1.toArray:=⟨_,rfl⟩;rw[<-nk] at HQ⊢;clear nk;refine du (cU 0 8 []) [8] ?_;refine dY ?_;refine S4.nb λp f=>?_;have DF:=(f.block _ (lJ.1 HQ.A.1).1).trans HQ.A.1;have F:=HQ.A.2.next f;refine E4.dm (λKK aJ=>?_);refine step_copy_runI rfl (.tmp 50) (.tmp 53) _ _ rfl _ _ au au (IY p DF (F.aC.block g Z) _ _ _) ?_;refine aJ _ _ ?_;clear aJ KK;refine E4.bh ?_;have IZ:=setRow_heap p w.heap.size R1.toArray (laid ((i+1)*2) (vs.drop (i*2)) R1.toArray.toList).toArray 112 (0,0) DF;have cP:=F.setRow (aO _) (laid ((i+1)*2) (vs.drop (i*2)) R1.toArray.toList).toArray;have A:=E (Ow.Bi (D:=dO) (Y _ (Kt.lQ cP.aC an)) cF IZ (by rw[H];exact Qy) IX (by
   rw[lM,xf (by rw[oy,fw,DE];show _+(l.length*2-i*2)<=G*2;omega),DE];rfl) (by rw[H];exact T))
  rw[H] at A;have bL:=E cP;clear Y IZ cP DF F T X IY mi fc cS sH b5 lp fw iK f ho m nS K V N IR hs;go_wp2;go_ret;first|exact⟨⟨_,rfl,A.A⟩,λao q o=>q.trans bL.A⟩|exact⟨⟨_,rfl,A.A⟩,λao y e o=>aF.trans ⟨y,e⟩ bL.A⟩
end Go.Proofs.YtbeaddlblpgppaaGreatDoor
