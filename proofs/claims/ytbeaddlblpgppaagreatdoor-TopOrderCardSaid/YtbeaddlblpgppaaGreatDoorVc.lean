/- Part 3 of the proof of TopOrder (watchtowertop). Conditions: none. -/
import Derived.Test.YtbeaddlblpgppaaGreatDoorVb
import Derived.Test.YtbeaddlblpgppaaGreatDoorRows
import Derived.JoinedOf
import Derived.MakeChecks
import Derived.Lib.AppendIntMem
import Derived.Shelf.Strings.Builder1
import Derived.Shelf.Strings.Trim
import Derived.Shelf.Small.Utf8
import Derived.Shelf.Small.Bits
import Derived.Shelf.Small.Strs
import Derived.Shelf.Small.Wraps
import Derived.Shelf.Strings.BuilderF
import Derived.Shelf.Strings.BuilderK
import Derived.Shelf.Strconv.Itoa0
import Derived.Shelf.Strconv.Itoa1
import Derived.Shelf.LaysM
import Derived.Shelf.Strconv.Itoa2
import Derived.Shelf.Strconv.Itoa3
import Derived.Shelf.Strings.Search1
import Derived.Shelf.Strings.Prefix
import Derived.Shelf.Unicode.Decode
import Derived.Shelf.Strings.Runes
import Derived.Shelf.Strings.AsciiSet
import Derived.Shelf.Unicode.DecodeSlow
import Derived.Shelf.Unicode.DecodeAny
import Derived.Shelf.Unicode.DecodeLast
import Derived.Shelf.Strings.BuilderCap
import Derived.Ground.Names2Prog
import Derived.Shelf.Slices.Clone
import Derived.Ground.SlgnProg
import Derived.Shelf.SlicesE.Clone
import Derived.Shelf.SlSortCmp.WholeK
import Derived.Shelf.SlSortCmp.NoneTotal
import Derived.Ground.SlsfProg
import Derived.Ground.NamesProg
import Derived.Shelf.SlSortCmp.Whole1
import Derived.Lib.ItoaLen
import Derived.Lib.TrimByte
import Derived.Laws.DeepStrings4
import Derived.RangeFuncNested
import Derived.RangeFuncLeaves
import Derived.RangeFuncBox
import Derived.Shelf.Abstract
import Derived.OwnWalkIn
import Derived.TacticsInMore
import Derived.LoopNIn
import Derived.LoopIn
import Derived.Laws.CopyRow
import Derived.Lib.AppendZerosOnto
import Derived.Lib.Overlaps
import Derived.Laws.NewBlocks
import Derived.Shelf.Spec.SlicesInsert
set_option maxRecDepth 100000
set_option maxHeartbeats 8000000
set_option linter.unusedVariables false
set_option linter.unusedSimpArgs false
set_option linter.defProp false
open Go.Lib renaming hid->E,decDigits->qU
open Go.IntKind renaming i64->I,wrap_i64->b7
open Go.Value renaming int->J,slice->O,string->ap,bool->aG,agg->aY,pointer->bl,tuple->bn
open Option renaming none->M,some->ad,map_some->tG
open Go.Addr renaming mk->ab
open Go renaming World->aB,Value->aE,Calls->aN,Addr->aX,Act->bb,TypeId->bf,Oper->bv,results->bz,bodyPost_ret->bF,maxLen->bK,Program->cp,undef->cu,run_underlying->mf,heap_alloc_new->qR
open Go.Obj renaming cells->aD
open Go.Proofs.Tryz renaming prog->aH
open Nat renaming le_refl->aO,le_trans->a8,zero_le->bV,lt_of_lt_of_le->da,lt_or_ge->gy,zero_add->ig,eq_zero_or_pos->kJ,succ_mul->oA,mul_le_mul_right->sa
open Go.Ending renaming returned->aQ
open Go.RowKit renaming Below->aS,Hid->a6
open Go.RowKit.Below renaming refl->bk
open List renaming mem_singleton->bD,length_append->b2,getElem?_eq_getElem->cR,getD_eq_getElem?_getD->dd,getElem_mem->dl,mem_cons->ee,mem_map->hM,mem_append->kf,map_append->lK,size_toArray->lM,append_assoc->mV,mem_iff_getElem->qV,length_nil->nF,length_drop->oy,length->oz,drop_eq_getElem_cons->pf,length_cons->pY,length_map->p6,length_singleton->p8,take_length->pZ,drop_length->qT,eq_nil_of_length_eq_zero->sb,map_cons->sd,pairwise_map->sf,getElem?_map->tJ,length_take->tH,mem_of_mem_drop->arC,pairwise_iff_getElem->yw,take_succ_eq_append_getElem->yz
open Bool renaming and_eq_true->b9,false_eq_true->tL
open Go.World renaming size_alloc->eO,cell?_of_block->wK
open And renaming intro->iC
open Go.Instr renaming slice->iV,index->mX
open Exists renaming intro->lL
open Array renaming getElem?_eq_some_iff->lJ,getElem?_eq_none->tK,getElem?_modify->yu
open Go.Builtin renaming zeroCells->pg,append_->tI
open Go.DataW renaming trod->qW
open Option.some renaming inj->tM
open Go.Shelf renaming Ren->uW
open Go.KeepsOthers renaming setCell->yB
open Go.Proofs.Tryz
namespace Go.Proofs.YtbeaddlblpgppaaGreatDoor
open Go.RowKit
def aoJ:aH.initOrder=String.ofList (List.map Char.ofNat [104,97,114,110,101,115,115,32,97,101,102,54,56,51,101,48,101,100,101,101,52,55,52,99,53,52,55,53,100,54,57,53,51,100,49,97,102,101,49,53,97,97,50,55,101,100,48,57,97,50,100,55,53,53,51,55,97,51,53,57,101,55,51,48,49,102,50,99,100,49,54,48,32,99,117,116,32,97,116,32,119,97,116,99,104,116,111,119,101,114,47,119,97,116,99,104,116,111,119,101,114,116,111,112,46,84,111,112,82,117,108,101,115,32,119,97,116,99,104,116,111,119,101,114,47,119,97,116,99,104,116,111,119,101,114,116,111,112,46,84,111,112,79,114,100,101,114]):=ar
def aoK:aH.initOrder.toList=List.map Char.ofNat [104,97,114,110,101,115,115,32,97,101,102,54,56,51,101,48,101,100,101,101,52,55,52,99,53,52,55,53,100,54,57,53,51,100,49,97,102,101,49,53,97,97,50,55,101,100,48,57,97,50,100,55,53,53,51,55,97,51,53,57,101,55,51,48,49,102,50,99,100,49,54,48,32,99,117,116,32,97,116,32,119,97,116,99,104,116,111,119,101,114,47,119,97,116,99,104,116,111,119,101,114,116,111,112,46,84,111,112,82,117,108,101,115,32,119,97,116,99,104,116,111,119,101,114,47,119,97,116,99,104,116,111,119,101,114,116,111,112,46,84,111,112,79,114,100,101,114]:=by rw[aoJ,String.toList_ofList]
def Vj:List (List Char):=[List.map Char.ofNat [99,117,116],List.map Char.ofNat [97,116],List.map Char.ofNat [119,97,116,99,104,116,111,119,101,114,47,119,97,116,99,104,116,111,119,101,114,116,111,112,46,84,111,112,82,117,108,101,115],List.map Char.ofNat [119,97,116,99,104,116,111,119,101,114,47,119,97,116,99,104,116,111,119,101,114,116,111,112,46,84,111,112,79,114,100,101,114]]
def Vk:behindMainWord (wordsSigns aH.initOrder.toList)=Vj:=by rw[aoK];kernel_rfl
def aoL:aH.laysLater=false:=ar
def aoM:aH.bearsReflect=false:=ar
def aoN:aH.mayEnter=true:=by
 unfold Program.mayEnter Program.doorFits;rw[Vk,aoL,aoM];kernel_rfl
def aoO:∀P:cp,behindMainWord (wordsSigns P.initOrder.toList)=Vj->P.liftsFinal=false:=by
 intro P h;unfold Program.liftsFinal Program.headLifts;rw[h];kernel_rfl
def aoP:aH.liftsFinal=false:=aoO _ Vk
def aoQ:∀P:cp,behindMainWord (wordsSigns P.initOrder.toList)=Vj->P.make=ad .cut:=by
 intro P h;unfold Program.make Program.headLifts;rw[h];kernel_rfl
def aoR:aH.make=ad .cut:=aoQ _ Vk
variable {v:aE} {i g:Nat} {cs:Array aE} {W:aB}
section
open Go.ChangeShapes
section
variable {W:aB} {f n:Nat} {t e:bf} {cs:Array aE} {p:List MemPlace}
noncomputable abbrev Vh (W:aB) (f:Nat) (t:bf) (cs:List aE):=qW (H:=Unit) (λ_=>()) aH W 0 (λ_=>true) false f t cs
def aoD {l:List aE} (h:(l.drop i).take 1=[v]):l[i]?=ad v:=by
 have:=congrArg (λx=>x[0]?) h;simp[List.getElem?_take,List.getElem?_drop] at this;exact this
def aeI {bs:List (List UInt8)} (k:aH.underlying t=ad (.array n e)) (o:aH.underlying e=ad .string) (r:aH.cellsOf e=1) (g:aH.cellsOf t=n) (h:Vh W f t cs.toList=ad (.agg (bs.map λb=>.lit (.string b)),p)):cs=(bs.map λb=>ap ⟨b.toArray⟩).toArray:=by
 obtain⟨a,m,_,ex,q,l,j⟩:=DataW.trod_array k h;rw[g] at q;have d:bs.map (λb=>(DataW.lit (.string b):DataW Unit))=a.map (·.1):=DataW.agg.inj (Prod.mk.inj ex).1;have u:bs.length=n:=by have:=congrArg oz d;simpa[l] using this
 apply Array.ext';simp only;apply List.ext_getElem?;intro i;by_cases hi:i<n
 ·have c:=j i hi;rw[r,Nat.mul_one,cR an] at c;obtain⟨s,q1,q2,_⟩:=DataW.trod_string o c;rw[aoD q1];have h2:=congrArg (λx=>x[i]?) d;simp only[tJ,cR (show i<bs.length by omega),cR (show i<a.length by omega),tG,q2] at h2;injection h2 with h2;injection h2 with h2;injection h2 with h2;rw[tJ,cR an,tG,h2]
 ·rw[List.getElem?_eq_none an,List.getElem?_eq_none aw]
end
def aoE {f:Nat} {p:List MemPlace} (h:Vh W f 321 cs.toList=ad (Rows.laid_watchtower_dur_units,p)):cs=kY:=by
 have w:aH.cellsOf 321=10:=ar;have G:aH.cellsOf 320=2:=ar;have E:aH.cellsOf 9=1:=ar;have k:aH.cellsOf 3=1:=ar;obtain⟨v,m,_,ex,u,A,c⟩:=DataW.trod_array underlying321 h;rw[w] at u;have t:=DataW.agg.inj (Prod.mk.inj ex).1;have one:∀(i:Nat) (a b:aE) (x:DataW Unit×List MemPlace) (s0:List UInt8) (e:Int),Vh W m 320 [a,b]=ad x->x.1= .agg [.lit (.string s0),.lit (.int I e)]->a=ap ⟨s0.toArray⟩/\b=J I e:=by
  intro i a b x s0 e y g;obtain⟨d,o,_,n,_,j,r⟩:=DataW.trod_struct underlying320 y;have k0:qW (H:=Unit) (λ_=>()) aH W 0 (λ_=>true) false o 9 (([a,b].drop 0).take (aH.cellsOf 9))=d[0]?:=r 0 _ rfl;have q:qW (H:=Unit) (λ_=>()) aH W 0 (λ_=>true) false o 3 (([a,b].drop 1).take (aH.cellsOf 3))=d[1]?:=r 1 _ rfl;have F:d.length=2:=by rw[j];rfl
  match d,F with
  |[y0,y1],_=>
   rw[E] at k0;rw[k] at q;obtain⟨s,q1,q2,_⟩:=DataW.trod_string underlying9 k0;obtain⟨z,r1,r2,_⟩:=DataW.trod_int underlying3 q;rw[n] at g;simp[q2,r2] at g q1 r1;obtain⟨rfl,rfl⟩:=g;exact⟨q1,r1⟩
 obtain⟨l⟩:=cs;match l,u with
 |[a0,cZ,a2,a3,a4,a5,gp,rM,BZ,a9],_=>
  match v,A with
  |[x0,x1,x2,x3,x4],_=>
   simp only[sd,List.map_nil,List.cons.injEq,and_true] at t;obtain⟨d0,d1,D,C,B⟩:=t;rw[G] at c;obtain⟨rfl,rfl⟩:=one 0 a0 cZ x0 _ _ (c 0 aq) d0.symm;obtain⟨rfl,rfl⟩:=one 1 a2 a3 x1 _ _ (c 1 aq) d1.symm;obtain⟨rfl,rfl⟩:=one 2 a4 a5 x2 _ _ (c 2 aq) D.symm;obtain⟨rfl,rfl⟩:=one 3 gp rM x3 _ _ (c 3 aq) C.symm;obtain⟨rfl,rfl⟩:=one 4 BZ a9 x4 _ _ (c 4 aq) B.symm;rfl
def Vi {n:String} (hg:aH.globalNamed n=ad g) (h:W.var? aH n=ad cs):∃T f,W.heap[g]?=ad (aD cs T f):=by
 unfold World.var? at h;rw[hg,Option.bind_some] at h;cases a:W.heap[g]? with
 |none=>rw[a] at h;cases h
 |some o=>
  rw[a] at h;cases o with
  |cells c T f=>simp at h;subst h;exact⟨T,f,rfl⟩
  |_=>cases h
def aoG (h:laidMetH aH Rows.topRulesRow.laid W):eK W:=by
 rw[MakeChecks.laidMetH_plain _ _ _ ar] at h;obtain⟨ps,h,_,_⟩:=h;obtain⟨_,_,_,_,_,_,_,_,_,_,h,_⟩:=h;obtain⟨_,_,_,_,_,_,_,_,_,_,h,_⟩:=h;obtain⟨g3,B,c3,L,F,C,m,l,g,q,h,_⟩:=h;obtain⟨_,_,_,_,_,_,_,_,_,_,h,_⟩:=h;obtain⟨g5,A,c5,K,E,N,f,t,i,d,h,_⟩:=h;obtain⟨g6,y,kS,I,w,M,u,r,s,c,h,_⟩:=h;obtain⟨G,x,c7,H,D,v,k,a,e,b,h,_⟩:=h;obtain rfl:=tM ((show aH.globalNamed "internal/strconv.uint64pow10"=ad 4 by kernel_rfl).symm.trans m);obtain rfl:=tM ((show aH.globalNamed "watchtower/dur.units"=ad 1 by kernel_rfl).symm.trans f);obtain rfl:=tM ((show aH.globalNamed "watchtower/cond.signs"=ad 2 by kernel_rfl).symm.trans u);obtain rfl:=tM ((show aH.globalNamed "watchtower/eval.states"=ad 3 by kernel_rfl).symm.trans k);obtain rfl:=tM ((show(aH.globals[4]?).map (·.type)=ad 437 by kernel_rfl).symm.trans l);obtain rfl:=tM ((show(aH.globals[1]?).map (·.type)=ad 321 by kernel_rfl).symm.trans t);obtain rfl:=tM ((show(aH.globals[2]?).map (·.type)=ad 329 by kernel_rfl).symm.trans r);obtain rfl:=tM ((show(aH.globals[3]?).map (·.type)=ad 352 by kernel_rfl).symm.trans a);have o:kS=uw:=aeI (bs:=[[],[62],[62,61],[60],[60,61],[61,61],[33,61]]) underlying329 underlying9 ar ar c;have j:c7=RP:=aeI (bs:=[[],[112,101,110,100,105,110,103],[102,105,114,105,110,103]]) underlying352 underlying9 ar ar b;have n:c5=kY:=aoE d;have p:c3.toList=Lib.pow10Tab.map λz=>J .u64 z:=Lib.cells_of_tab (zs:=Lib.pow10Tab) underlying437 underlying315 ar ar q;subst n o j;refine⟨Vi ar i,Vi ar s,Vi ar e,Lib.tabBelow_of_tabIs ?_⟩;unfold Lib.TabIs;rw[g,<-p]
end
section
open Go.Shelf
def Tryz.ZP:uW:=⟨λ|169=>227|n=>n,λ|70=>331|9=>9|0=>0|72=>333|37=>34|127=>376|3=>3|5=>5|n=>n,λ|n=>n⟩
def Tryz.ai4:Go.Proofs.Lays.n169 aH Tryz.ZP:=rh
def Tryz.ai5:Builder.Extra aH Tryz.ZP:=rh
open Go.RowKit in
theorem Tryz.Builder_String_any (B b:Nat) (l:List UInt8) (w:aB) (h:Lib.IsBuilder 333 5 B b (Lib.byteCells l) w) (a:B<=w.heap.size):aN aH 227 #[bl (ad (ab b 0 M))] w λe w'=>e=aQ (ap ⟨l.toArray⟩)/\aS B w w':=Any.Builder_String_any Tryz.ai4 Tryz.ai5 B b l w h a
def Tryz.ai6:uW:=⟨λ|162=>259|232=>281|227=>282|234=>283|236=>284|228=>305|271=>306|151=>307|120=>322|197=>323|152=>324|260=>339|137=>176|119=>340|224=>341|225=>342|217=>216|266=>249|n=>n,λ|9=>9|4=>4|3=>3|5=>5|117=>396|116=>395|0=>0|124=>399|21=>21|105=>420|46=>257|119=>448|139=>451|138=>450|n=>n,λ|3=>5|4=>6|n=>n⟩
def Tryz.ai7:Go.Proofs.Lays.n162 aH Tryz.ai6:=rh
open Go.RowKit in
theorem Tryz.strings_TrimRight_one (s:ByteArray) (c:UInt8) (a:c.toNat<128) (w:aB) (hs:s.size<=9223372036854775807):aN aH 259 #[ap s,ap ⟨#[c]⟩] w λe w'=>e=aQ (ap ⟨(Lib.trimRightB s.data.toList c).toArray⟩)/\w'=w:=Any.strings_TrimRight_one Tryz.ai7 s c a w hs
def Tryz.ai8:uW:=⟨λ|106=>124|213=>164|265=>212|n=>n,λ|9=>9|3=>3|n=>n,λ|n=>n⟩
def Tryz.ai9:Go.Proofs.Lays.n106 aH Tryz.ai8:=rh
open Go.RowKit in
theorem Tryz.strings_Compare (a b:ByteArray) (w:aB):aN aH 124 #[ap a,ap b] w λe w'=>e=aQ (J I (Lib.compareBytes a.data.toList b.data.toList))/\w'=w:=Any.strings_Compare Tryz.ai9 a b w
def Tryz.aja:uW:=⟨λ|137=>176|217=>216|266=>249|n=>n,λ|9=>9|5=>5|3=>3|n=>n,λ|n=>n⟩
def Tryz.ajb:Go.Proofs.Lays.n137 aH Tryz.aja:=rh
open Go.RowKit in
theorem Tryz.strings_IndexByte (s:ByteArray) (c:Int) (w:aB):aN aH 176 #[ap s,J .u8 c] w λe w'=>e=aQ (J I (Lib.indexByte s.data.toList c.toNat.toUInt8))/\w'=w:=Any.strings_IndexByte Tryz.ajb s c w
def Tryz.ajc:uW:=⟨λ|103=>303|210=>321|206=>250|n=>n,λ|9=>9|4=>4|24=>57|3=>3|n=>n,λ|n=>n⟩
def Tryz.ajd:Go.Proofs.Lays.n103 aH Tryz.ajc:=rh
open Go.RowKit in
theorem Tryz.strings_CutPrefix (s p:ByteArray) (w:aB):aN aH 303 #[ap s,ap p] w λe w'=>e=aQ (bn #[ap ⟨(Lib.trimPrefix s.data.toList p.data.toList).toArray⟩,aG (Lib.hasPrefix s.data.toList p.data.toList)])/\w'=w:=Any.strings_CutPrefix Tryz.ajd s p w
def Tryz.aje:uW:=⟨λ|171=>223|243=>260|246=>285|283=>308|284=>309|285=>310|286=>311|129=>211|317=>325|318=>326|319=>327|320=>328|337=>343|338=>344|n=>n,λ|3=>3|9=>9|2=>2|4=>4|171=>423|0=>0|53=>315|37=>34|5=>5|173=>425|212=>437|51=>255|20=>20|213=>438|46=>257|232=>452|233=>453|n=>n,λ|17=>4|18=>7|19=>8|n=>n⟩
def Tryz.ajf:Go.Proofs.LaysM.n171 aH Tryz.aje:=rh
open Go.RowKit Go.Sort Go.Lib in
theorem Tryz.strconv_Itoa (n:Int) (h0:-9223372036854775808<=n) (a:n<=9223372036854775807) (w:aB) (b:Lib.TabIs aH w "internal/strconv.uint64pow10" .u64 Lib.pow10Tab):aN aH 223 #[J I n] w λe w'=>e=aQ (ap ⟨(Lib.itoa n).toArray⟩)/\∃k os,w'=grow (w.drewN k) os:=Any.strconv_Itoa Tryz.ajf n h0 a w b
def Tryz.ajg:uW:=⟨λ|171=>223|243=>260|246=>285|283=>308|284=>309|285=>310|286=>311|129=>211|317=>325|318=>326|319=>327|320=>328|337=>343|338=>344|n=>n,λ|3=>3|9=>9|2=>2|4=>4|171=>423|0=>0|53=>315|37=>34|5=>5|173=>425|212=>437|51=>255|20=>20|213=>438|46=>257|232=>452|233=>453|n=>n,λ|17=>4|18=>7|19=>8|n=>n⟩
def Tryz.ajh:Go.Proofs.Lays.n171 aH Tryz.ajg:=rh
open Go.RowKit Go.Sort Go.Lib in
theorem Tryz.strconv_Itoa_small (i:Nat) (hi:i<100) (w:aB):aN aH 223 #[J I i] w λe w'=>e=aQ (ap ⟨(qU i).toArray⟩)/\w'=w:=Any.strconv_Itoa_small Tryz.ajh i hi w
def Tryz.aji:uW:=⟨λ|99=>218|206=>250|n=>n,λ|9=>9|4=>4|3=>3|n=>n,λ|n=>n⟩
def Tryz.ajj:Go.Proofs.Lays.n99 aH Tryz.aji:=rh
open Go.RowKit Go.Lib in
theorem Tryz.strings_HasPrefix (s p:ByteArray) (w:aB):aN aH 218 #[ap s,ap p] w λe w'=>e=aQ (aG (Lib.hasPrefix s.data.toList p.data.toList))/\w'=w:=Any.strings_HasPrefix Tryz.ajj s p w
end
def sizeBuilder:(aH.info? 333).map (·.size)=ad 2:=ar
def liesBuilder:liesAt aH aH.depth 333 (2/aH.cellsOf 333) 0 333 1=true:=ar
def abx:(aH.info? 5).map (λi=>(i.zero,i.size,i.bytes))=ad (ad (J .u8 0),1,1):=ar
def akT (b:Nat) (w:aB) (h0:w.cell? (ab b 0 M)=ad (bl (ad (ab b 0 M)))):aN aH 261 #[bl (ad (ab b 0 M))] w λe w'=>e=aQ (bn #[])/\w'=w:=by
 obtain⟨j,hj,_⟩:=Option.map_eq_some_iff.1 sizeBuilder;go_enter func261,ntmps261;go_wp2;rw[Lib.run_neq_ptr_same w _ underlying331 hj];go_wp2;go_end0;exact⟨rfl,rfl⟩
def akU (b:Nat) (w:aB) (h0:w.cell? (ab b 0 M)=ad (.pointer M)) (a:w.shape? b=ad (333,2)) (c:w.frozen? (ab b 0 M)=false):aN aH 261 #[bl (ad (ab b 0 M))] w λe w'=>e=aQ (bn #[])/\w'=w.setCell (ab b 0 M) (bl (ad (ab b 0 M))):=by
 obtain⟨j,hj,d⟩:=Option.map_eq_some_iff.1 sizeBuilder;go_enter func261,ntmps261;go_wp2;rw[Lib.run_to_unsafe w (ab b 0 M) underlying331 underlying401 hj (by rw[d];decide) a (Nat.zero_lt_succ 1)];simp only[Result.andThen];rw[Oper.upon_value];go_wp2;rw[run_callFunc_extern func286 ar ar ar (e:=Extern.AbiNoEscape.same) ar];rw[Lib.run_noEscape];simp only[Result.andThen];rw[Oper.upon_value];go_wp2;rw[Lib.run_from_unsafe w (ab b 0 M) underlying401 underlying331 hj a liesBuilder];simp only[Result.andThen];rw[Oper.upon_value];go_wp2;go_end0;exact⟨rfl,rfl⟩
def aby (B b:Nat) (bs:List aE) (w:aB) (h:Lib.IsBuilder 333 5 B b bs w):aN aH 261 #[bl (ad (ab b 0 M))] w λe w'=>e=aQ (bn #[])/\(Lib.BuilderAt 333 5 B b (bl (ad (ab b 0 M))) bs w'/\aS B w w'):=by
 rcases h with h|h
 ·refine(akU b w h.cell0 h.shape h.frozen0).ah ?_;rintro e w'⟨rfl,rfl⟩;exact⟨rfl,h.used _,(bk B w).setCell (p:=(ab b 0 M)) h.1 _⟩
 ·refine(akT b w h.cell0).ah ?_;rintro e w'⟨rfl,rfl⟩;exact⟨rfl,h,bk B _⟩
def akV (B b:Nat) (bs:List aE) (c:Int) (w:aB) (h:Lib.IsBuilder 333 5 B b bs w) (G:bs.length+1<=140737488355328) (F:B<=w.heap.size):aN aH 226 #[bl (ad (ab b 0 M)),J .u8 c] w λe w'=>e=aQ .nilIface/\(Lib.BuilderAt 333 5 B b (bl (ad (ab b 0 M))) (bs++[J .u8 c]) w'/\aS B w w'):=by
 obtain⟨q,hi,t,z,y⟩:=info_parts abx;go_enter func226,ntmps226;go_wp2_with fail;refine(aby B b bs _ h).ah ?_;rintro e a⟨rfl,s,f⟩;obtain⟨hB,v,nB,l,C⟩:=s;have c0:a.cell? (ab b 0 M)=ad (bl (ad (ab b 0 M))):=aq5;have c1:a.cell? (ab b 1 M)=ad v:=aq5;go_wp2_with (at_builtin;refine wpList_append_own _ rfl _ _ 34 rfl B 5 q (J .u8 0) 1 1 underlying34 hi t z y rfl aq _ _ _ rfl (l.alloc _) (ab a.heap.size 0 M) 1 1 [J .u8 c] rfl rfl ?c1 ?c2 ?c3 ?c4 ?c5 ?_);case c1=>
  intro j u hj;match j,hj with
  |0,hj=>simp at hj;subst hj;simp[Addr.add]
 case c2=>intro u i;simp at i;subst i;rfl
 case c3=>exact aqF
 case c4=>exact an
 case c5=>have:=f.size;simp;omega
 intro o d m n _;have D:b<a.heap.size:=by
  rcases gy b a.heap.size with h'|h'
  ·exact h'
  ·simp[tK h'] at nB
 have bd:d.heap[b]?=ad (aD #[bl (ad (ab b 0 M)),v] 333 (0,0)):=by
  rw[n.block b aw (λe=>C e.symm),Lib.alloc_old a _ b D];exact nB
 have d0:d.cell? (ab b 0 M)=ad (bl (ad (ab b 0 M))):=aq6;have d1:d.cell? (ab b 1 M)=ad v:=aq6;have E:d.frozen? (ab b 1 M)=false:=Lib.frozen_of_heap bd 1;obtain⟨g,cap,rfl⟩:∃g cap,o=O (ad (ab g 0 M)) (bs.length+1) cap:=by
  rcases m.2 with⟨_,h0⟩|⟨g,cap,cur,hv,_⟩
  ·omega
  ·exact⟨g,cap,hv⟩
 go_wp2;go_ret;refine⟨rfl,?_,?_⟩
 ·exact Lib.BuilderAt.put (T:=333) (e:=5) hB bd (bs':=bs++[J .u8 c]) (am m) aq
 ·exact((f.alloc (ai f.size) _).grown n (by have:=f.size;simp;omega) (λk r=>(l.lt k r).1)).setCell (p:=(ab b 1 M)) hB _
def abz (B b:Nat) (bs:List aE) (s:ByteArray) (w:aB) (h:Lib.IsBuilder 333 5 B b bs w) (E:bs.length+s.size<=140737488355328) (D:B<=w.heap.size):aN aH 225 #[bl (ad (ab b 0 M)),ap s] w λe w'=>e=aQ (bn #[J I s.size,.nilIface])/\(Lib.BuilderAt 333 5 B b (bl (ad (ab b 0 M))) (bs++Lib.strCells s) w'/\aS B w w'):=by
 obtain⟨n,hi,r,u,t⟩:=info_parts abx;go_enter func225,ntmps225;go_wp2_with fail;refine(aby B b bs _ h).ah ?_;rintro e d⟨rfl,q,f⟩;obtain⟨hB,v,nB,i,y⟩:=q;have c0:d.cell? (ab b 0 M)=ad (bl (ad (ab b 0 M))):=aq5;have c1:d.cell? (ab b 1 M)=ad v:=aq5;go_wp2_with (at_builtin;refine Lib.wpList_append_own_string _ rfl _ _ 34 9 rfl B 5 n underlying34 underlying9 hi r u t _ _ _ rfl i s rfl ?c3 ?c4 ?c5 ?_);case c3=>exact aqF
 case c4=>exact an
 case c5=>have:=f.size;omega
 intro m c j l _;have z:b<d.heap.size:=by
  rcases gy b d.heap.size with h'|h'
  ·exact h'
  ·simp[tK h'] at nB
 have bd:c.heap[b]?=ad (aD #[bl (ad (ab b 0 M)),v] 333 (0,0)):=by
  rw[l.block b z (λe=>y e.symm)];exact nB
 have d0:c.cell? (ab b 0 M)=ad (bl (ad (ab b 0 M))):=aq6;have d1:c.cell? (ab b 1 M)=ad v:=aq6;have C:c.frozen? (ab b 1 M)=false:=Lib.frozen_of_heap bd 1;obtain⟨a,n',cap,rfl⟩:∃a n' cap,m=O a n' cap:=by
  rcases j.2 with⟨hv,_⟩|⟨g,cap,cur,hv,_⟩
  ·exact⟨_,_,_,hv⟩
  ·exact⟨_,_,_,hv⟩
 go_wp2;go_ret2;refine⟨rfl,?_,?_⟩
 ·exact Lib.BuilderAt.put (T:=333) (e:=5) hB bd (bs':=bs++Lib.strCells s) (by simpa[Lib.strCells_length] using j) aq
 ·exact(f.grown l (ai f.size) (λk o=>(i.lt k o).1)).setCell (p:=(ab b 1 M)) hB _
section
open Go.Shelf
def Tryz.agz:uW:=⟨λ|6=>296|15=>163|14=>315|28=>210|29=>211|20=>330|21=>331|22=>332|23=>333|24=>334|25=>335|26=>336|27=>337|46=>345|47=>243|48=>244|49=>346|50=>347|57=>348|n=>n,λ|22=>49|24=>78|25=>131|3=>3|39=>257|0=>0|53=>255|55=>315|4=>4|46=>308|45=>307|50=>187|5=>5|9=>9|66=>357|70=>361|76=>385|77=>218|n=>n,λ|n=>n⟩
def Tryz.agA:Go.Proofs.SlLaysF0.n6 aH Tryz.agz:=rh
def Tryz.agB:uW:=⟨λ|6=>231|15=>163|14=>262|28=>210|29=>211|20=>287|21=>288|22=>289|23=>290|24=>291|25=>292|26=>293|27=>294|46=>312|47=>243|48=>244|49=>313|50=>314|57=>329|n=>n,λ|22=>54|24=>62|25=>345|3=>3|39=>257|0=>0|53=>255|55=>315|4=>4|46=>308|45=>307|50=>187|5=>5|9=>9|66=>357|70=>361|76=>385|77=>218|n=>n,λ|n=>n⟩
def Tryz.agC:Go.Proofs.SlLaysF0.n6 aH Tryz.agB:=rh
def Tryz.agD:uW:=⟨λ|6=>122|15=>163|14=>162|28=>210|29=>211|20=>202|21=>203|22=>204|23=>205|24=>206|25=>207|26=>208|27=>209|46=>242|47=>243|48=>244|49=>245|50=>246|57=>274|n=>n,λ|22=>158|24=>205|25=>209|3=>3|39=>257|0=>0|53=>255|55=>315|4=>4|46=>308|45=>307|50=>187|5=>5|9=>9|66=>357|70=>361|76=>385|77=>218|n=>n,λ|n=>n⟩
def Tryz.agE:Go.Proofs.SlLaysF0.n6 aH Tryz.agD:=rh
def Tryz.agF:uW:=⟨λ|6=>196|15=>163|14=>238|28=>210|29=>211|20=>264|21=>265|22=>266|23=>267|24=>268|25=>269|26=>270|27=>271|46=>298|47=>243|48=>244|49=>299|50=>300|57=>316|n=>n,λ|22=>246|24=>49|25=>114|3=>3|39=>257|0=>0|53=>255|55=>315|4=>4|46=>308|45=>307|50=>187|5=>5|9=>9|66=>357|70=>361|76=>385|77=>218|n=>n,λ|n=>n⟩
def Tryz.agG:Go.Proofs.SlLaysF.n6 aH Tryz.agF:=rh
def Tryz.agH:uW:=⟨λ|6=>196|15=>163|14=>238|28=>210|29=>211|20=>264|21=>265|22=>266|23=>267|24=>268|25=>269|26=>270|27=>271|46=>298|47=>243|48=>244|49=>299|50=>300|57=>316|n=>n,λ|22=>246|24=>49|25=>114|3=>3|39=>257|0=>0|53=>255|55=>315|4=>4|46=>308|45=>307|50=>187|5=>5|9=>9|66=>357|70=>361|76=>385|77=>218|n=>n,λ|n=>n⟩
def Tryz.agI:Go.Proofs.SlLaysF0.n6 aH Tryz.agH:=rh
end
variable {P:Prop}
open bw
def ajk:∀c,c<256->decide (0<=Lib.indexByte [61,33,60,62] c.toUInt8)=eqs c:=aq
def ajl:∀c,c<256->decide (0<=Lib.indexByte [123,125,40,41,44,58,59,61,60,62] c.toUInt8)=uu c:=aq
def ZQ (c:Nat) (a:c<256) (w:aB):aN aH 176 #[ap ⟨#[61,33,60,62]⟩,J .u8 (c:Int)] w λe w'=>(∃x:Int,e=aQ (J I x)/\decide (0<=x)=eqs c)/\w'=w:=(Tryz.strings_IndexByte _ _ w).mono λe w' h=>⟨⟨_,h.1,ajk c a⟩,h.2⟩
def ZR (c:Nat) (a:c<256) (w:aB):aN aH 176 #[ap ⟨#[123,125,40,41,44,58,59,61,60,62]⟩,J .u8 (c:Int)] w λe w'=>(∃x:Int,e=aQ (J I x)/\decide (0<=x)=uu c)/\w'=w:=(Tryz.strings_IndexByte _ _ w).mono λe w' h=>⟨⟨_,h.1,ajl c a⟩,h.2⟩
def ajm (s:ByteArray) (i:Nat):dp s i<256:=by
 unfold dp;split
 ·exact UInt8.toNat_lt _
 ·decide
theorem ZS (h:P:=by
 cases hg:uu c with
 |true=>
  rw[hg] at oc sZ;have HE:=E (show gJ c true d=(4,1) from sZ.A);clear sZ hq hg;go_enter func130,ntmps130;go_wp2_with fail;refine hl.ah ?_;rintro e w1⟨rfl,rfl⟩;clear hl;go_wp2_with fail;refine hd.ah ?_;rintro e w1⟨rfl,rfl⟩;clear hd;go_wp2_with fail;refine od.ah ?_;rintro e w1⟨⟨x,rfl,hx⟩,rfl⟩;clear od;go_wp2_with fail;refine oc.ah ?_;rintro e w1⟨⟨y,rfl,hy⟩,rfl⟩;clear oc;go_wp2;go_ret2;rw[HE.A];exact⟨rfl,rfl⟩
 |false=>
  rw[hg] at oc sZ;have HE:=E (show gJ c true d=(0,0) from sZ.A);clear sZ hq hg;go_enter func130,ntmps130;go_wp2_with fail;refine hl.ah ?_;rintro e w1⟨rfl,rfl⟩;clear hl;go_wp2_with fail;refine hd.ah ?_;rintro e w1⟨rfl,rfl⟩;clear hd;go_wp2_with fail;refine od.ah ?_;rintro e w1⟨⟨x,rfl,hx⟩,rfl⟩;clear od;go_wp2_with fail;refine oc.ah ?_;rintro e w1⟨⟨y,rfl,hy⟩,rfl⟩;clear oc;go_wp2;go_ret2;rw[HE.A];exact⟨rfl,rfl⟩
 ):P:=h
theorem ZT (h:P:=by
 clear sZ hg;cases hq:eqs c<;>rw[hq] at od<;>by_cases FY:c=45;all_goals
  try have e45:((c:Int)==45)=false:=aw
  try subst FY
  try clear FY
  go_enter func130,ntmps130;go_wp2_with fail;refine hl.ah ?_;rintro e w1⟨rfl,rfl⟩;clear hl;go_wp2_with fail;refine hd.ah ?_;rintro e w1⟨rfl,rfl⟩;clear hd;go_wp2_with fail;refine od.ah ?_;rintro e w1⟨⟨x,rfl,hx⟩,rfl⟩;clear od;go_wp2_with fail;refine oc.ah ?_;rintro e w1⟨⟨y,rfl,hy⟩,rfl⟩;clear oc;go_wp2;go_ret2;rw[HE.A];exact⟨rfl,rfl⟩
 ):P:=h
theorem RH (h:P:=by
 go_enter func130,ntmps130;go_wp2_with fail;refine hl.ah ?_;rintro e w1⟨rfl,rfl⟩;clear hl;go_wp2_with fail;refine hd.ah ?_;rintro e w1⟨rfl,rfl⟩;clear hd;go_wp2;go_ret2;rw[HE.A];exact⟨rfl,rfl⟩;):P:=h
def ajn (s:ByteArray) (w:aB) (hs:s.size<=9223372036854775807) (v:1<=s.size):aN aH 130 #[ap s] w λe w'=>(e=aQ (bn #[J I (gJ (dp s 0) (decide (1<s.size)) (dp s 1)).1,J I ((gJ (dp s 0) (decide (1<s.size)) (dp s 1)).2:Nat)]))/\w'=w:=by
 have q:=zp (s:=s) (i:=0) an;obtain⟨c,m⟩:=aP (dp s 0);have p:c<256:=by rw[<-m];exact ajm _ _
 rw[m] at q⊢;clear m;have hl:=ZI c w;have hd:=RG c w;have od:=ZQ c p w;have oc:=ZR c p w;have u:(0:Nat)<s.size:=an;cases Z:zn c with
 |true=>
  rw[Z] at hl;have HE:=E (show gJ c (decide (1<s.size)) (dp s 1)=(1,0) by unfold gJ;rw[ag Z]);go_enter func130,ntmps130;go_wp2_with fail;refine hl.ah ?_;rintro e w1⟨rfl,rfl⟩;clear hl;go_wp2;go_ret2;rw[HE.A];exact⟨rfl,rfl⟩
 |false=>
  rw[Z] at hl;cases b:l0 c with
  |true=>
   rw[b] at hd;have HE:=E (show gJ c (decide (1<s.size)) (dp s 1)=(2,0) by unfold gJ;simp[Z,b]);exact RH
  |false=>
   rw[b] at hd;by_cases j:1<s.size
   ·have r:=zp j;obtain⟨d,o⟩:=aP (dp s 1);rw[o] at r⊢;clear o;have f:=RG d w;have l:decide (1<s.size)=true:=ac j;rw[l];by_cases FY:c=45
    ·subst FY;have z:=E b;clear Z b od oc;cases k:l0 d with
     |true=>
      rw[k] at f;have HE:=E (show gJ 45 true d=(2,0) by unfold gJ;simp[k,show zn 45=false from by decide,show l0 45=false from by decide,show eqs 45=false from by decide,show uu 45=false from by decide]);go_enter func130,ntmps130;go_wp2_with fail;refine hl.ah ?_;rintro e w1⟨rfl,rfl⟩;clear hl;go_wp2_with fail;refine hd.ah ?_;rintro e w1⟨rfl,rfl⟩;clear hd;go_wp2_with fail;refine f.ah ?_;rintro e w1⟨rfl,rfl⟩;clear f;go_wp2;go_ret2;rw[HE.A];exact⟨rfl,rfl⟩
     |false=>
      rw[k] at f;have od:=ZQ 45 aq w;have oc:=ZR 45 aq w;have HE:=E (show gJ 45 true d=(0,0) by unfold gJ;simp[k,show zn 45=false from by decide,show l0 45=false from by decide,show eqs 45=false from by decide,show uu 45=false from by decide]);go_enter func130,ntmps130;go_wp2_with fail;refine hl.ah ?_;rintro e w1⟨rfl,rfl⟩;clear hl;go_wp2_with fail;refine hd.ah ?_;rintro e w1⟨rfl,rfl⟩;clear hd;go_wp2_with fail;refine f.ah ?_;rintro e w1⟨rfl,rfl⟩;clear f;go_wp2_with fail;refine od.ah ?_;rintro e w1⟨⟨x,rfl,hx⟩,rfl⟩;clear od;have hx:decide (0<=x)=false:=hx;go_wp2_with fail;refine oc.ah ?_;rintro e w1⟨⟨y,rfl,hy⟩,rfl⟩;clear oc;have hy:decide (0<=y)=false:=hy;go_wp2;go_ret2;rw[HE.A];exact⟨rfl,rfl⟩
    ·have e45:((c:Int)==45)=false:=by simp;omega
     by_cases g:c=34
     ·subst g;have HE:=E (show gJ 34 true d=(3,0) by unfold gJ;simp[show zn 34=false from by decide,show l0 34=false from by decide]);clear od oc f;exact RH
     ·have t:((c:Int)==34)=false:=by simp;omega
      have a:=E (show gJ c true d=if(eqs c&&true&&(d==61))=true then(4,2) else if uu c=true then(4,1) else(0,0) by unfold gJ;simp[Z,b,FY,g]);clear Z b f FY g;cases hq:eqs c with
      |true=>
       rw[hq] at od a;by_cases n:d=61
       ·subst n;have HE:=E (show gJ c true 61=(4,2) from a.A);clear a oc;go_enter func130,ntmps130;go_wp2_with fail;refine hl.ah ?_;rintro e w1⟨rfl,rfl⟩;clear hl;go_wp2_with fail;refine hd.ah ?_;rintro e w1⟨rfl,rfl⟩;clear hd;go_wp2_with fail;refine od.ah ?_;rintro e w1⟨⟨x,rfl,hx⟩,rfl⟩;clear od;go_wp2;go_ret2;rw[HE.A];exact⟨rfl,rfl⟩
       ·have B:((d:Int)==61)=false:=by simp;omega
        have sZ:=E (show gJ c true d=if uu c=true then(4,1) else(0,0) by rw[a.A];simp[n]);clear a n;exact ZS
      |false=>
       rw[hq] at od a;have sZ:=E (show gJ c true d=if uu c=true then(4,1) else(0,0) from a.A);clear a;exact ZS
   ·obtain A:s.size=1:=by omega
    have l:decide (1<s.size)=false:=aa j;generalize dp s 1=d;rw[l];have a:=E (show gJ c false d=if c=34 then(3,0) else if uu c=true then(4,1) else(0,0) by unfold gJ;simp[Z,b]);clear Z b j;by_cases g:c=34
    ·subst g;have HE:=E (show gJ 34 false d=(3,0) from a.A);clear a od oc;exact RH
    ·have t:((c:Int)==34)=false:=by simp;omega
     have sZ:=E (show gJ c false d=if uu c=true then(4,1) else(0,0) by rw[a.A,af g]);clear a g;cases hg:uu c with
     |true=>
      rw[hg] at oc sZ;have HE:=E (show gJ c false d=(4,1) from sZ.A);exact ZT
     |false=>
      rw[hg] at oc sZ;have HE:=E (show gJ c false d=(0,0) from sZ.A);exact ZT
variable {α β γ:Type} {w':aB}
section
open Go.Lib Go.Shelf
open Go.Sort (PermIn SortedIn SWO putCells putRow mapBlock onCells grow putRowK HoldsK flatK)
section
variable {α β:Type} {D:Kr α} {w:aB} {B:Nat}
abbrev Cl (D:Kr α) (w:aB) (B:Nat):={x:α×List aE//D.rel w B x.1 x.2}
def Rs.zip:∀{l:List α} {us:List aE},Rs D w B l us->∃zs:List (Cl D w B),zs.map (λz=>z.1.1)=l/\zs.flatMap (λz=>z.1.2)=us:=by
 intro l us h;induction h with
 |nil=>exact⟨[],rfl,rfl⟩
 |cons h _ a=>
  obtain⟨zs,b,h2⟩:=a;exact⟨⟨(_,_),h⟩::zs,by simp[b],by simp[h2]⟩
def Rs.P1 (a:∀(z:Cl D w B),D.rel w' B z.1.1 z.1.2):∀zs:List (Cl D w B),Rs D w' B (zs.map λz=>z.1.1) (zs.flatMap λz=>z.1.2)
 |[]=>.nil
 |z::zs=>.cons (a z) (Rs.P1 a zs)
def P2 [Inhabited γ] (enc:γ->List aE) (k:Nat) (a:∀x,(enc x).length=k) (b:0<k):∀(zs:List γ) (t:Nat),t<zs.length*k->(zs.flatMap enc)[t]?=(enc (zs.toArray[t/k]!))[t % k]?
 |[],t,h=>by simp at h
 |z::zs,t,h=>by
  rw[List.flatMap_cons]
  rcases gy t k with h1|h1
  ·rw[List.getElem?_append_left (by rw[a];exact h1),Nat.div_eq_of_lt h1,Nat.mod_eq_of_lt h1];rfl
  ·rw[List.getElem?_append_right (by rw[a];exact h1),a,P2 enc k a b zs (t-k) (by simp[oA] at h;omega)];have d:t/k=(t-k)/k+1:=by
    have:=Nat.add_div_right (t-k) b;rw[show t-k+k=t by omega] at this;omega
   have c:t % k=(t-k) % k:=by
    have:=Nat.add_mod_right (t-k) k;rw[show t-k+k=t by omega] at this;exact this
   rw[d,c];congr 2;simp
def WV (enc:γ->List aE) (k:Nat) (a:∀x,(enc x).length=k):∀zs:List γ,(zs.flatMap enc).length=zs.length*k
 |[]=>by simp
 |z::zs=>by rw[List.flatMap_cons,b2,a,WV enc k a zs,pY,oA];omega
end
def agu [Inhabited α] (enc:α->List aE) (k:Nat) (w:aB) (g m:Nat) (d:Array α) (os:Array Obj) {cur:Array aE} {e:bf} {fr:Nat×Nat} (hg:w.heap[g]?=ad (aD cur e fr)):(sortWorldK enc k w g 0 m d os).heap[g]?=ad (aD (putCells id 0 (flatK enc k d) cur) e fr):=by
 have a:g<w.heap.size:=(lJ.1 hg).1;show(w.heap.modify g (onCells (putCells id 0 (flatK enc k d)))++os)[g]?=_;rw[Array.getElem?_append,ag (am a),yu,ag rfl,hg];rfl
def WW [Inhabited α] (enc:α->List aE) (k:Nat) (w:aB) (g m:Nat) (d:Array α) (os:Array Obj) {b:Nat} (Z:b<w.heap.size) (a:b≠g):(sortWorldK enc k w g 0 m d os).heap[b]?=w.heap[b]?:=by
 show(w.heap.modify g (onCells (putCells id 0 (flatK enc k d)))++os)[b]?=_;rw[Array.getElem?_append,ag (am Z),yu,af (λe=>a e.symm)]
def LM [Inhabited α] (enc:α->List aE) (k:Nat) (w:aB) (g m:Nat) (d:Array α) (os:Array Obj) {B:Nat} {T:bf} (hB:B<=g) (hg:bp w T g):Kt B [T] w (sortWorldK enc k w g 0 m d os) where
 os:=rfl
 tape:=rfl
 output:=rfl
 size:=by simp[sortWorldK,grow,putRowK,putRow,mapBlock,Go.Sort.ahead]
 low:=λb Z=>WW enc k w g m d os (ai hg.lt) an
 typed:=λe b c a=>WW enc k w g m d os a.lt (by rintro rfl;exact c (bD.2 (a.q9 hg)))
def agv [Inhabited α] (enc:α->List aE) (k:Nat) (w a:aB) (g m:Nat) (d:Array α) (os:Array Obj) {T:bf} (hg:bp w T g) (h:cm a w) (b:a.heap.size<=g):cm a (sortWorldK enc k w g 0 m d os):=by
 refine cm.of (h.aC.trans ((LM enc k w g m d os (B:=a.heap.size) b hg).aC)) (a8 h.AS ?_);show w.drawn<=w.drawn+m;omega
def WX (h:cm W w'):∃q a,w'=grow (W.drewN q) a:=by
 have Z:=h.aC;refine⟨w'.drawn-W.drawn,(w'.heap.toList.drop W.heap.size).toArray,?_⟩;have b:W.drawn+(w'.drawn-W.drawn)=w'.drawn:=ai h.AS;have hh:W.heap++(w'.heap.toList.drop W.heap.size).toArray=w'.heap:=by
  apply Array.ext';rw[Array.toList_append];apply List.ext_getElem?;intro i;rw[List.getElem?_append];split
  ·rename_i hi;have:=Z.block i (am hi);simpa using this.symm
  ·rename_i hi;simp at hi;rw[List.toList_toArray,List.getElem?_drop,Array.length_toList,show W.heap.size+(i-W.heap.size)=i by omega]
 cases w';cases W;simp only[grow,World.drewN] at*;simp only[World.mk.injEq];exact⟨hh.symm,Z.tape,b.symm,Z.os,Z.output⟩
def WY {o:β->β->Int} (ho:fS o) (f:γ->β):SWO (ltOf λx y:γ=>o (f x) (f y)) where
 irrefl x:=by unfold ltOf;simp[ho.refl]
 trans x y z h1 h2:=by unfold ltOf at*;simp at*;exact ho.trans h1 h2
 ntrans x y z h1 h2:=by
  unfold ltOf at*
  simp at*
  rcases ho.AG (f x) (f z) with h|h|h
  ·rcases ho.AG (f x) (f y) with k|k|k
   ·omega
   ·rw[<-k] at h2;omega
   ·have:=ho.trans k h;omega
  ·rw[h,ho.refl];omega
  ·rw[ho.tO (f z) (f x)];omega
theorem WZ (h:P:=by
 have e1:d'.extract 0 l.length=d':=by rw[<-nh];simp
 have e2:zs.toArray.extract 0 l.length=zs.toArray:=by rw[show l.length=zs.toArray.size by simp[hn]];simp
 rw[e1,e2] at Do;simpa using Do;):P:=h
def P3 {P:cp} {ρ:Ren} (D:Kr α) (L:SlLaysF0.n6 P ρ) (E:∀w,(isAgg (ρ.t 24)).run P w= .ok true w) (C:∀w,(Go.sizeOf (ρ.t 24)).run P w= .ok D.k w) {o:β->β->Int} (ho:fS o) (f:α->β) (g:Nat) (cb:Array aE) (Dp:∀args w,(callFunc g args).run P w= .ok (.enter g args) w) (B base:Nat) (w:aB) (b5:∀(W:aB) (x y:α) (vs us:List aE),Kt B [D.e] w W->D.rel W B x vs->D.rel W B y us->aN P g (#[.agg vs.toArray,.agg us.toArray]++cb) W λe w'=>e=aQ (J I (o (f x) (f y)))/\cm W w') (v:aE) (l:List α) (u:Ow D w B base v l) (hB:B<=base) (dK:D.e∉D.bI) (ce:l.length<4611686018427387904):aN P (ρ.f 6) #[v,.func (.func g) #[] cb] w λe w'=>e=aQ (bn #[])/\∃r,r.Perm l/\(r.Pairwise λx y=>¬o (f y) (f x)<0)/\Ow D w' B base v r/\Kt B [D.e] w w'/\(∀a,cm a w->a.heap.size<=base->cm a w')/\∀a,aF a w->a.heap.size<=base->aF a w':=by
 obtain⟨us,H,Y⟩:=u.A;rcases Y.2 with⟨rfl,h2⟩|⟨oJ,cap,cur,rfl,rf,hg,fP,dL,cS,IB⟩
 ·obtain rfl:=sb h2;refine(AnyF.slices_SortFunc_none L M 0 (.func (.func g) #[] cb) w).ah ?_;rintro e w'⟨rfl,rfl⟩;exact⟨rfl,[],.refl _,.nil,u,Kt.refl _ _ _,λa h _=>h,λa h _=>h⟩
 obtain⟨zs,q,Z⟩:=H.zip;by_cases h0:zs=[]
 ·subst h0;simp at q;subst q;refine(AnyF.slices_SortFunc_none L _ cap (.func (.func g) #[] cb) w).ah ?_;rintro e w'⟨rfl,rfl⟩;exact⟨rfl,[],.refl _,.nil,u,Kt.refl _ _ _,λa h _=>h,λa h _=>h⟩
 obtain⟨O,ef⟩:∃z,z∈zs:=List.exists_mem_of_ne_nil _ h0;letI:Inhabited (Cl D w B):=⟨O⟩
 have b:∀x:Cl D w B,x.1.2.length=D.k:=λx=>D.len x.2;have hn:zs.length=l.length:=by rw[<-q];simp
 have F:∀t∈D.bI,t∉[D.e]:=λt ht h=>dK ((bD.1 h)▸ht);have d:bp w D.e oJ:=⟨_,_,hg⟩;have yX:us.length=l.length*D.k:=H.len;have X:HoldsK (λz:Cl D w B=>z.1.2) D.k w oJ 0 zs.toArray:=by
  intro t ht;rw[Go.Sort.size_flatK] at ht;have G:t<zs.length*D.k:=am ht;rw[ig];refine⟨?_,frozen_of_row w oJ t cur D.e hg⟩;rw[cell_of_row w oJ t cur D.e (0,0) hg,Go.Sort.get_flatK _ _ _ _ ht];have p:=P2 (λz:Cl D w B=>z.1.2) D.k b D.pos zs t G;rw[Z] at p;have k:us[t]?=cur[t]?:=by
   rw[<-IB,List.getElem?_take,ag (by rw[<-hn];exact G)];simp
  rw[<-k,p];have n:t % D.k<(zs.toArray[t/D.k]!).1.2.length:=by rw[b];exact Nat.mod_lt _ D.pos
  rw[cR n];show ad _=ad ((zs.toArray[t/D.k]!).1.2[t % D.k]!);rw[getElem!_pos (zs.toArray[t/D.k]!).1.2 (t % D.k) n]
 have N:=AnyQ.slices_SortFunc L D.k E C (λz:Cl D w B=>z.1.2) b (λx=>D.one x.2) (λx y=>o (f x.1.1) (f y.1.1)) (WY ho (λx:Cl D w B=>f x.1.1)) g cb oJ 0 cap zs.toArray w Dp (λm os T _ x y=>by
  have c:=LM (λz:Cl D w B=>z.1.2) D.k w oJ m T os (B:=B) an d;refine(b5 _ x.1.1 y.1.1 x.1.2 y.1.2 c (D.keep x.2 c F) (D.keep y.2 c F)).ah ?_;rintro e w'⟨V,Dr⟩;exact⟨V,WX Dr⟩) X d.lt aw
 rw[show(zs.toArray).size=l.length by simp[hn]] at N;refine N.ah ?_;rintro e w'⟨rfl,d',m,os,U,hs,rfl⟩;obtain⟨S,_,Do⟩:=U;have nh:d'.size=l.length:=by rw[S];simp[hn]
 have Do:d'.toList.Perm zs:=by
  exact WZ
 have c:=LM (λz:Cl D w B=>z.1.2) D.k w oJ m d' os (B:=B) an d;refine⟨rfl,d'.toList.map (λz=>z.1.1),?_,?_,⟨d'.toList.flatMap (λz=>z.1.2),Rs.P1 (λz=>D.keep z.2 c F) _,?_⟩,c,λa s Lb=>agv _ _ _ _ _ _ _ _ d s an,λa s Lb=>aF.of (s.aC.trans ((LM _ _ _ _ _ _ _ (B:=a.heap.size) an d).aC))⟩
 ·rw[<-q];exact Do.map _
 ·rw[sf,yw];intro i j hi hj R;have k:=hs i j (bV _) R (by simpa[nh] using hj);unfold ltOf at k;have Q:i<d'.size:=am hi;have ID:j<d'.size:=am hj;rw[getElem!_pos d' i Q,getElem!_pos d' j ID] at k;simpa using k
 ·have K:(d'.toList.flatMap (λz:Cl D w B=>z.1.2)).length=l.length*D.k:=by rw[WV _ D.k b];simp[nh]
  refine⟨by rw[K];simp[nh],.inr ⟨oJ,cap,_,by simp[nh],rf,agu _ _ _ _ _ _ _ hg,by simp[nh];omega,dL,by simpa[putCells] using cS,?_⟩⟩;apply List.ext_getElem?;intro t;rw[List.getElem?_take,Array.getElem?_toList];by_cases ht:t<l.length*D.k
  ·have LO:t<cur.size:=by rw[cS];exact da ht (sa _ fP)
   rw[ag ara];simp only[putCells,Array.getElem?_mapIdx,Array.getElem?_eq_getElem LO,tG];have LP:(flatK (λz:Cl D w B=>z.1.2) D.k d').size=l.length*D.k:=by rw[Go.Sort.size_flatK,nh]
   rw[ag (by rw[LP];omega),Nat.sub_zero,Go.Sort.get_flatK _ _ _ _ (by rw[nh];exact ht)];have p:=P2 (λz:Cl D w B=>z.1.2) D.k b D.pos d'.toList t ara;rw[p];have n:t % D.k<(d'[t/D.k]!).1.2.length:=by rw[b];exact Nat.mod_lt _ D.pos
   simp only[Array.toArray_toList];rw[cR n];simp[getElem!_pos,n]
  ·rw[af ara,List.getElem?_eq_none (by rw[K];omega)]
end
variable {B:Nat} {L aU:aZ} {u:aE}
theorem Ds (h:P:=by
 go_ret;exact⟨⟨_,rfl,bC⟩,HB.A.grown HO.A (aO _) bG⟩;):P:=h
theorem Ba (h:P:=by
 go_wp2;go_ret;exact⟨⟨_,rfl,Ow.bh _ _ _ _⟩,aF.refl _⟩;):P:=h
theorem Dt (h:P:=by
 exact sb an;):P:=h
def agJ {l:List (ByteArray×ByteArray)} (w:aB) (hB:B<=w.heap.size) (h:Vs bE w B v l) (hs:l.length*32<=140737488355328):aN aH 295 #[v] w λe w'=>(∃d,e=aQ d/\Ow bE w' B w.heap.size d l)/\aF w w':=by
 obtain⟨ao,n,cap,rfl,c,_⟩:=h.A;clear h;have u:∀w,(binOp .eql 49 (O ao n cap) (O M 0 0)).run aH w= .ok (aG ao.isNone) w:=λw=>by
  simp only[binOp];simp[run_equal_slice_nil w 49 78 ao n cap underlying49]
 have k:=c.len;cases ao with
 |none=>
  have o:l=[]:=by
   obtain⟨us,b,f⟩:=c.A;rcases kJ n with h|h
   ·exact Dt
   ·obtain⟨_,_,e,_⟩:=f (Nat.mul_pos h bE.pos);cases e
  subst o;clear c;go_enter func295,ntmps295;exact Ba
 |some a=>
  have HO:=E (Ow.AO (D:=bE) (base:=w.heap.size) w B (aO _));have HB:=E ((aF.refl w).alloc (aD #[] 78));have m:=E (show∃us,Rs bE (w.alloc (aD #[] 78)) B l us/\Sl (w.alloc (aD #[] 78)) (w.heap.size+1) (ad a) (n*bE.k) (λi=>us.getD i (aG false)) by
   have p:=c.al ((bk _ _).alloc (aO _) (aD #[] 78));obtain⟨us,b,f⟩:=p.A;have:=f.sink;rw[eO] at this;exact⟨us,b,this⟩)
  obtain⟨us,b,j⟩:=m.A;have s:=E b;have t:=E j;have g:=E (show([]:List (ByteArray×ByteArray)).length+n<=bK/\(([]:List (ByteArray×ByteArray)).length+n)*32<=140737488355328/\w.heap.size<=(w.alloc (aD #[] 78)).heap.size from⟨aqy,aqJ,av⟩);have q:=E k;have r:=E hB;clear b j m c hs k hB;go_enter func295,ntmps295;go_wp2_with ((refine mZ bE au (.tmp 5) (.tmp 6) 49 au w.heap.size 32 _ ar Dn au B _ [] au HO.A (ad a) n cap l us au s.A q.A (w.heap.size+1) t.A g.A.1 g.A.2.1 g.A.2.2 r.A Fk ?_;intro d w' bC bG x));exact Ds
def P4:KK aH 9 ByteArray where
 law:=Go.Maps.string_keyed underlying9
 kv:=.string
 ok s:=s.size<=bK
 lit:=λs hs=>⟨.string s.data.toList,by
  unfold keyOf
  rw[underlying9]
  simp[mapKey,underlying9,hs]⟩
 inj:=λa b _ _ h=>by injection h
def agK (b d a q1:ByteArray) (w:aB):aN aH 297 #[aY #[ap b,ap d],aY #[ap a,ap q1]] w λe w'=>e=aQ (J I (fO b a))/\cm w w':=by
 have c:=E (λW=>PS b a W);generalize fO b a=x at c⊢;go_enter func297,ntmps297;go_wp2_with fail;refine(c.A _).ah ?_;rintro e f⟨rfl,rfl⟩;go_wp2;go_ret;exact⟨rfl,((cm.refl w).alloc _).alloc _⟩
def agL (B base:Nat) (w:aB) (v:aE) (l:List (ByteArray×ByteArray)) (c:Ow bE w B base v l) (hB:B<=base) (d:l.length<=1000):aN aH 296 #[v,.func (.func 297) #[] #[]] w λe w'=>e=aQ (bn #[])/\∃b,b.Perm l/\(b.Pairwise λx y=>¬fO y.1 x.1<0)/\Ow bE w' B base v b/\Kt B [bE.e] w w'/\(∀a,cm a w->a.heap.size<=base->cm a w')/\∀a,aF a w->a.heap.size<=base->aF a w':=by
 refine P3 bE Tryz.agA (λw=>by kernel_rfl) (λw=>by kernel_rfl) CY (λp=>p.1) 297 #[] (enters_of func297 ar rfl) B base w ?_ v l c hB Fk an;rintro W x y vs us _⟨rfl,_,_⟩⟨rfl,_,_⟩;exact agK x.1 x.2 y.1 y.2 W
def agM {l:aZ} (h:¬tT l):qd l=M:=by unfold qd;rw[af h]
def agN {l:aZ} (h:tT l):qd l=ad (oB fU l):=by unfold qd;rw[ag h]
def agO {l a:aZ} (hn:(l.map (·.1)).Nodup) (b:a.Perm l) (hs:a.Pairwise λx y=>¬fO y.1 x.1<0):a=oB fU l:=by
 refine aeN Ij ?_ (Wa hn) (λx=>b.mem_iff);have e:(a.map (·.1)).Nodup:=((b.map (·.1)).nodup_iff).2 hn;have d:=hs.and (sf.1 e);refine List.Pairwise.imp ?_ d;intro x y ⟨h2,c⟩;refine afR ?_;rcases CY.AG x.1 y.1 with h|h|h
 ·exact h
 ·exact ae h c
 ·exact ae h h2
def yY (l:aZ):List (ByteArray×aE):=l.map λp=>(p.1,aG true)
open Classical in
theorem agP {l:aZ} {s:ByteArray}:gF (yY l) s=if s∈l.map (λp:ByteArray×ByteArray=>p.1) then ad (aG true) else M:=by
 unfold gF yY;induction l with
 |nil=>simp
 |cons p l a=>
  simp only[sd,List.find?_cons];by_cases h:p.1=s
  ·simp[h]
  ·have h':¬s=p.1:=λe=>h e.symm;simp only[h,decide_false,ee,h',false_or];exact a
def Xb {l:aZ} (h:(l.map (·.1)).Nodup):jt (yY l):=by
 unfold jt yY;rw[sf];exact sf.1 h
def P5 (w:aB) (hB:B<=w.heap.size) (h:Vs bE w B v L):aN aH 263 #[v] w λe w'=>sB bE w' B e (qd L)/\aF w w':=by
 have HH:=E h;obtain⟨ao,c,rfl,m,cn,b4⟩:=h.hN;clear h;have AZ:=E m;clear m;have m:=AZ;clear AZ;have q:∀k:Int,k≠0->¬tT L->∀w',aF w w'->sB bE w' B (aQ (bn #[O M 0 0,J I k])) (qd L):=λk u hn w' _=>by
  rw[agM hn];exact⟨_,k,u,rfl,[],Vs.bh _ _ _⟩
 have q:=E q;by_cases cg:L.length<=16;case neg=>
  have o:=E (show¬tT L fromλh=>cg h.1);go_enter func263,ntmps263;go_wp2;go_ret2;exact⟨q.A 4 aq o.A _ (aF.refl _),aF.refl _⟩
 have aJ:decide ((16:Int)<(L.length:Int))=false:=aa an;go_enter func263,ntmps263;go_wp2;go_loopw [17] (λi wr=>∃k:Nat,k<=L.length/\i=J I k/\a6 (∀p∈L.take k,p.2.size<=64)/\aF w wr) (λi _=>L.length-(intOf i).toNat);case atStart=>exact⟨0,an,rfl,E av,aF.refl _⟩
 case round=>
  obtain⟨k,u,rfl,l,d⟩:=hrel;by_cases j:k<L.length
  ·obtain⟨b,off,rfl,cw,X,dS⟩:=m.A.cells (B:=0) d.aC j;have r:=E (show L.take (k+1)=L.take k++[(nm L k,vl L k)] by rw[yz j,sA j]);have N:=E (show(nm L k,vl L k)∈L from sA j▸dl j);have fo:=(m.A.sz k j).2;generalize nm L k=s0 at*;generalize vl L k=s1 at*;by_cases c1:64<s1.size
   ·have o:=E (show¬tT L fromλh=>by have:=h.2.1 _ N.A;simp at this;omega);have d1:decide ((64:Int)<(s1.size:Int))=true:=ac an;go_wp2;go_ret2;exact⟨q.A 4 aq o.A _ (d.alloc _),d.alloc _⟩
   ·have n:=E (show∀p∈L.take (k+1),p.2.size<=64 by
     rw[r.A];intro p f;rcases kf.1 f with f|f
     ·exact l.A p f
     ·rw[bD] at f;subst f;show s1.size<=64;omega)
    have d1:decide ((64:Int)<(s1.size:Int))=false:=aa an;go_wp2;go_roundw;case rel=>exact⟨k+1,an,by go_num,n,d.alloc _⟩
    case measure=>exact aA
  obtain rfl:k=L.length:=an;have HV:=E (show∀p∈L,p.2.size<=64 by have:=l.A;rwa[pZ] at this);go_wp2;go_loopw [28] (λi wr=>∃k:Nat,k<=L.length/\i=J I k/\a6 (∀p∈L.take k,pq p.1)/\aF w wr) (λi _=>L.length-(intOf i).toNat);case atStart=>exact⟨0,an,rfl,E av,d⟩
  case round=>
   clear l;obtain⟨k,u,rfl,l,d⟩:=hrel;by_cases j:k<L.length
   ·obtain⟨b,off,rfl,cw,X,dS⟩:=m.A.cells (B:=0) d.aC j;have r:=E (show L.take (k+1)=L.take k++[(nm L k,vl L k)] by rw[yz j,sA j]);have N:=E (show(nm L k,vl L k)∈L from sA j▸dl j);have s:=(m.A.sz k j).1;generalize nm L k=s0 at*;generalize vl L k=s1 at*;cases c1:db s0
    ·have o:=E (show¬tT L fromλh=>by have:=h.2.2.1 _ N.A;exact Lq.1 c1 this);go_wp2_with fail;refine(mu s0 _ s).ah ?_;rintro e S⟨rfl,rfl⟩;rw[c1];go_wp2;go_ret2;exact⟨q.A 7 aq o.A _ (d.alloc _),d.alloc _⟩
    ·have n:=E (show∀p∈L.take (k+1),pq p.1 by
      rw[r.A];intro p f;rcases kf.1 f with f|f
      ·exact l.A p f
      ·rw[bD] at f;subst f;exact nM.1 c1)
     go_wp2_with fail;refine(mu s0 _ s).ah ?_;rintro e S⟨rfl,rfl⟩;rw[c1];go_wp2;go_roundw;case rel=>exact⟨k+1,an,by go_num,n,d.alloc _⟩
     case measure=>exact aA
   obtain rfl:k=L.length:=an;have nj:=E (show∀p∈L,pq p.1 by have:=l.A;rwa[pZ] at this);have ka:=run_makeMap (P:=aH) 408 wr;have HS:=m.A.cells (B:=0) d.aC (k:=0);go_wp2;have D:=E (Mp.made P4 wr);have bN:=d.alloc (.map #[] 0);clear ka HS l;obtain⟨R,H⟩:=aP wr.heap.size;rw[H] at D⊢;have G:w.heap.size<=R:=by rw[<-H];exact d.size
   clear H d;go_loopw [40] (λi wr=>∃k:Nat,k<=L.length/\i=J I k/\a6 (((L.take k).map (·.1)).Nodup)/\aF w wr/\a6 (Mp P4 wr R (yY (L.take k)))) (λi _=>L.length-(intOf i).toNat);case atStart=>exact⟨0,an,rfl,E av,bN,D⟩
   case round=>
    clear D bN;obtain⟨k,u,rfl,l,d,Xc⟩:=hrel;by_cases j:k<L.length
    ·obtain⟨b,off,rfl,cw,X,dS⟩:=m.A.cells (B:=0) d.aC j;have r:=E (show L.take (k+1)=L.take k++[(nm L k,vl L k)] by rw[yz j,sA j]);have s:=(m.A.sz k j).1;generalize nm L k=s0 at*;generalize vl L k=s1 at*;have Xd:=E (Xc.A.alloc (aD #[ap s0,ap s1] 78));have t:((Instr.lookup 408 (.map (ad R)) (ap s0) false).run aH (wr.alloc (aD #[ap s0,ap s1] 78)))= .ok ((gF (yY (L.take k)) s0).getD (aG false)) (wr.alloc (aD #[ap s0,ap s1] 78)):=LB false Xd.A (Xb l.A) (by show s0.size<=bK;simpa[bK] using s) underlying408 (z:=aG false) ar;rw[agP] at t;by_cases c1:s0∈(L.take k).map (λp:ByteArray×ByteArray=>p.1)
     ·rw[ag c1] at t;have o:=E (show¬tT L fromλh=>by
       have h4:=h.2.2.2;rw[<-List.take_append_drop (k+1) L,r.A,lK,lK] at h4;have:=(List.nodup_append.1 (List.nodup_append.1 h4).1).2.2 s0 c1 s0 av;exact this rfl)
      simp only[Option.getD_some] at t;clear c1;go_wp2;go_ret2;exact⟨q.A 6 aq o.A _ (d.alloc _),d.alloc _⟩
     ·rw[af c1] at t;simp only[Option.getD_none] at t;obtain⟨C,bS,F,T⟩:=run_store (v:=aG true) Xd.A (Xb l.A) (a:=s0) (by show s0.size<=bK;simpa[bK] using s) underlying408;have bS:((Instr.mapUpdate 408 (.map (ad R)) (ap s0) (aG true)).run aH (wr.alloc (aD #[ap s0,ap s1] 78)))= .ok () C:=bS;have n:=E (show((L.take (k+1)).map (·.1)).Nodup/\Mp P4 C R (yY (L.take (k+1))) by
       rw[r.A];refine⟨?_,?_⟩
       ·rw[lK,List.nodup_append];refine⟨l.A,av,λx hx y V e=>?_⟩;simp at V;subst V;subst e;exact c1 hx
       ·rw[Ly (λe W IE=>?_)] at F
        ·unfold yY;rw[lK];exact F
        ·unfold yY at W;obtain⟨p,f,rfl⟩:=hM.1 W;exact c1 (hM.2 ⟨p,f,IE⟩))
      have cP:aF w C:=aF.of ((d.alloc (aD #[ap s0,ap s1] 78)).aC.grown T (d.alloc _).size (λg e=>by cases e;exact G));clear F T c1;go_wp2;go_roundw;case rel=>exact⟨k+1,an,by go_num,E n.A.1,cP,E n.A.2⟩
      case measure=>exact aA
    obtain rfl:k=L.length:=an;have Z:=E (show tT L from⟨cg,HV.A,nj.A,by have:=l.A;rwa[pZ] at this⟩);have K:=d.size;clear Xc l;go_wp2_with fail;refine(agJ _ (a8 hB K) (HH.A.al d.aC) an).ah ?_;rintro e S⟨⟨v1,rfl,A⟩,aW⟩;have vt:=aW.size;have IF:=E A;obtain⟨A1,c1,rfl,_⟩:=A.shape;clear A;go_wp2_with fail;refine(agL B wr.heap.size _ _ L IF.A (a8 hB K) an).ah ?_;rintro e w2⟨rfl,U,f,hs,Q,cx,Dr,Y⟩;have n:=E (show qd L=ad U by rw[agN Z.A,agO Z.A.2.2.2 f hs]);have ce:U.length=L.length:=f.length_eq;have iJ:=E Q.vs;have ff:=E (Y w (d.trans aW) K);clear f hs cx Dr Y Q;go_wp2;go_ret2;refine⟨?_,?_⟩
    ·rw[n.A];exact⟨_,rfl,iJ.A⟩
    ·exact ff.A
def Xe (s t:ByteArray) (w:aB) (hB:B<=w.heap.size) (hs:s.size<=9223372036854775807) (l:t.size<=9223372036854775807) (h:Vs bE w B v L):aN aH 237 #[v,ap s,ap t] w λe w'=>sB bE w' B e (vk L s t)/\aF w w':=by
 have y:=E h;obtain⟨ao,c,rfl,_⟩:=h.len_;clear h;have H:(tU L s).length<=16:=a8 (List.length_filter_le _ _) (LL L);have g:=E (show vk L s t=qd (tU L s++[(s,t)]) from rfl);generalize vk L s t=r at g⊢;go_enter func237,ntmps237;go_wp2_with fail;refine(WU s _ hB y.A).ah ?_;rintro e d⟨⟨A,rfl,b⟩,a⟩;have q:=E b;have j:=a.size;have f:=E (aF.of a);have u:=E (show bE.rel d B (s,t) [ap s,ap t] from⟨rfl,hs,l⟩);have x:=E (show((tU L s).length+1)*32<=140737488355328 by omega);generalize tU L s=m at*;clear b a;go_wp2_with (first|(refine WS bE d [ap s,ap t] au (.tmp 10) (.tmp 14) 49 au w.heap.size 32 _ ar Dn au B _ m (s,t) au au q.A u.A x.A aq j hB Fk ?_;intro C w' p D G i;have n:=P5 w' (a8 hB (i w f.A (aO _)).size) p.vs)|(refine n.ah ?_));rintro e z⟨hg,o⟩;obtain⟨v3,F,rfl,k,_,_⟩:=hg.form;go_wp2;go_ret2;exact⟨g.A▸k,(i w f.A (aO _)).trans o⟩
def agQ (L:aZ) (s:ByteArray):gD (dG L) s=lP (dG L) s:=by unfold gD;rw[afT]
def Xf (w:aB) (hB:B<=w.heap.size) (h:Vs bE w B v L) (h2:Vs bE w B u aU):aN aH 235 #[v,u] w λe w'=>sB bE w' B e (so L aU)/\aF w w':=by
 have HH:=E h;have HM:=E h2;obtain⟨ao,c,rfl,_⟩:=h.len_;clear h;obtain⟨A2,c2,rfl,_⟩:=h2.len_;clear h2;have q:=E (show so L aU=qd ((dG L).filter (λp=>(lP (dG aU) p.1).isNone)++dG aU) from rfl);generalize so L aU=r at q⊢;have M:=LL L;have jC:=E (WT L);have K:=LL aU;have HG:=E (agQ aU);obtain⟨X,hX⟩:=aP (dG L);obtain⟨Y,hY⟩:=aP (dG aU);have Xg:=E (λw (h:Vs bE w B (O ao L.length c) L)=>LI w h);have Xh:=E (λw (h:Vs bE w B (O A2 aU.length c2) aU)=>LI w h);rw[hX] at q M jC Xg;rw[hY] at q K HG Xh;clear hX hY;go_enter func235,ntmps235;go_wp2_with fail;refine(Xh.A _ HM.A).ah ?_;rintro e w1⟨⟨v1,rfl,z⟩,N⟩;have K1:=E z;obtain⟨A3,c3,rfl,_⟩:=z.len_;clear z;go_wp2_with fail;refine(Xg.A _ (HH.A.al N)).ah ?_;rintro e d⟨⟨v2,rfl,Z⟩,F⟩;have K2:=E (K1.A.al F);have U:aF w d:=(aF.of N).next F;have H:=a8 hB U.size;obtain⟨A4,c4,rfl,m,_⟩:=Z.hN;clear Z K1 N F;have AZ:=E m;clear m;have m:=AZ;clear AZ;go_wp2;go_loopw [6,16] (λu i wr=>∃(k:Nat) (aT:aZ),k<=X.length/\aT.length<=k/\i=J I k/\a6 (aT++(X.drop k).filter (λp=>(lP Y p.1).isNone)=X.filter (λp=>(lP Y p.1).isNone))/\aF d wr/\a6 (Ow bE wr B d.heap.size u aT)) (λ_ i _=>X.length-(intOf i).toNat);case atStart=>exact⟨0,[],an,aO _,rfl,E rfl,aF.refl _,E (Ow.bh _ _ _ _)⟩
 case round=>
  obtain⟨k,aT,hk,Iz,rfl,bj,f,G⟩:=hrel;by_cases g:k<X.length
  ·obtain⟨b,off,rfl,cw,ft,dS⟩:=m.A.cells (B:=0) f.aC g;have l:=E (P0 (λp:ByteArray×ByteArray=>(lP Y p.1).isNone) g aT);rw[bj.A,sA g] at l;have R:=E (jC.A _ (dl g));rw[sA g] at R;generalize nm X k=s0 at*;generalize vl X k=s1 at*;have S:=E (f.alloc (aD #[ap s0,ap s1] 78));have HO:=E (G.A.alloc (aD #[ap s0,ap s1] 78));have j:=E (Fi (B:=B) s0 _ (K2.A.al S.A.aC));rw[HG.A] at j;have A:=(aI.new wr 78 #[ap s0,ap s1]);cases c1:lP Y s0 with
   |some t0=>
    rw[c1] at j;have C:=E (show aT++(X.drop (k+1)).filter (λp=>(lP Y p.1).isNone)=X.filter (λp=>(lP Y p.1).isNone) by rw[l.A];simp[c1]);clear c1 l;go_wp2_with fail;refine(j.A).ah ?_;rintro e t⟨rfl,a⟩;go_wp2;go_roundw;case rel=>exact⟨k+1,aT,an,an,by go_num,C,S.A.next a,E (HO.A.al a)⟩
    case measure=>exact aA
   |none=>
    rw[c1] at j;have C:=E (show(aT++[(s0,s1)])++(X.drop (k+1)).filter (λp=>(lP Y p.1).isNone)=X.filter (λp=>(lP Y p.1).isNone) by rw[l.A];simp[c1]);clear c1 l;go_wp2_with fail;refine(j.A).ah ?_;rintro e t⟨rfl,a⟩;have cG:=A.al a A.lt;have q0:=cG.cell;have nQ:=E (HO.A.al a);have P6:=E (S.A.next a);have hU:=E P6.A.size;have HR:=E (show bE.rel t B (s0,s1) [ap s0,ap s1] from⟨rfl,a8 R.A.1 aq,a8 R.A.2 aq⟩);have o:=E (show(aT.length+1)*32<=140737488355328 by omega);clear A cG a;go_wp2_with ((refine WS bE t [ap s0,ap s1] au (.tmp 29) (.tmp 31) 49 au d.heap.size 32 _ ar Dn au B _ aT (s0,s1) au au nQ.A HR.A o.A aq hU.A H Fk ?_;intro v' w' n y eZ s));go_roundw;case rel=>exact⟨k+1,_,an,aw,by go_num,C,s d P6.A (aO _),E n⟩
    case measure=>exact aA
  ·obtain rfl:k=X.length:=by omega
   have HA:=E (show aT=X.filter (λp=>(lP Y p.1).isNone) by rw[<-bj.A,qT];simp);have Xi:=K2.A.al f.aC;obtain⟨A5,x,c5,gQ,Q,_⟩:=Xi.A;have fH:=E (show∃us,Rs bE wr B Y us/\Sl wr wr.heap.size A5 (x*bE.k) (λi=>us.getD i (aG false)) by
    obtain⟨us,hu,ht⟩:=Q.A;exact⟨us,hu,ht.sink⟩)
   have ri:=Q.len;obtain⟨us,Xj,V⟩:=fH.A;injection gQ with P8 P9 e53;have HU:=E Xj;have HS:=E V;have dt:=E f.size;have o:=E (show aT.length+x<=bK/\(aT.length+x)*32<=140737488355328 from⟨aqv,an⟩);have py:=E ri;subst P8 e53;subst P9;clear Xj V fH Q Xi;go_wp2_with ((refine mZ bE au (.tmp 34) (.tmp 35) 49 au d.heap.size 32 _ ar Dn au B _ aT au G.A _ Y.length _ Y us au HU.A rfl wr.heap.size HS.A o.A.1 o.A.2 dt.A H Fk ?_;intro v' w' n y eZ;have s:=f.grown G.A (aO _) y;have W:=E s;clear s;have ll:=E n.vs;clear n eZ y));refine(P5 w' (a8 H W.A.size) ll.A).ah ?_;rintro e w6⟨hg,D⟩;obtain⟨yZ,Dv,rfl,T,LQ,IH⟩:=hg.form;clear hg LQ IH;have T:=E T;have D:=E D;go_wp2;go_ret2;refine⟨?_,(U.trans W.A).trans D.A⟩;rw[q.A,<-HA.A];exact T.A
variable {w wr:aB} {ao:Option aX} {n k:Nat}
section
open im (dT)
def Rw.aL {α:Type} {D:Kr α} {l:List α} (h:Rw D w B ao n l) (hB:aS w.heap.size w wr) {k:Nat} (a:k<l.length):∃b off vs,ao=ad (ab b off M)/\b<w.heap.size/\D.rel wr B l[k] vs/\∀j v,vs[j]?=ad v->wr.cell? ⟨b,off+k*D.k+j,M⟩=ad v:=by
 obtain⟨b,off,vs,e,Z,c,h2⟩:=h.at_ a;exact⟨b,off,vs,e,Z,D.al c hB,λj v hv=>(hB.cell (p:=⟨b,off+k*D.k+j,M⟩) Z).trans (h2 j v hv)⟩
def Vs.be {α:Type} {D:Kr α} {l:List α} (h:Vs D w B v l):∃ao c,v=O ao l.length c/\Rw D w B ao l.length l/\l.length<=c/\c<=9223372036854775807:=by
 obtain⟨ao,n,c,rfl,h,a,h2⟩:=h.A;obtain rfl:=h.len;exact⟨ao,c,rfl,h,a,h2⟩
def Qa (t:Int) (w:aB):aN aH 60 #[J I t] w λe w'=>e=aQ (aG (dT t))/\w'=w:=by
 by_cases b:0<=t<;>by_cases h2:t<=9007199254740992;all_goals
  have a:=E (show dT t=(decide (0<=t)&&decide (t<=9007199254740992)) from rfl);simp only[b,h2,decide_true,decide_false,Bool.and_true,Bool.and_false] at a;go_enter func60,ntmps60;go_wp2;go_ret;exact⟨cc a.A.symm,rfl⟩
def Fl (t:Int) (w:aB):aN aH 39 #[J I t] w λe w'=>e=aQ (aG (j6 t))/\w'=w:=by
 by_cases b:-9007199254740992<=t<;>by_cases h2:t<=9007199254740992;all_goals
  have a:=E (show j6 t=(decide (-9007199254740992<=t)&&decide (t<=9007199254740992)) from rfl);simp only[b,h2,decide_true,decide_false,Bool.and_true,Bool.and_false] at a;go_enter func39,ntmps39;go_wp2;go_ret;exact⟨cc a.A.symm,rfl⟩
def Xk {s:List dC} (h:k<s.length):s[k]=(sT s k,sV s k):=by unfold sT sV;rw[dr h]
def Rw.sm {l:List dC} (h:Rw ja w B ao n l) (hB:aS w.heap.size w wr) {k:Nat} (a:k<l.length):∃b off,ao=ad (ab b off M)/\b<w.heap.size/\wr.cell? ⟨b,off+k*2,M⟩=ad (J I (sT l k))/\wr.cell? ⟨b,off+k*2+1,M⟩=ad (J I (sV l k)):=by
 obtain⟨b,off,vs,e,Z,c,h2⟩:=h.aL hB a;rw[Xk a] at c;obtain rfl:vs=[J I (sT l k),J I (sV l k)]:=c;exact⟨b,off,e,Z,h2 0 _ rfl,h2 1 _ rfl⟩
theorem Xl (h:P:=by
 go_wp2_with fail;refine(CT.A _).ah ?_;rintro e w1⟨rfl,rfl⟩;go_wp2_with fail;refine(CN.A _).ah ?_;rintro e w2⟨rfl,rfl⟩;go_wp2_with fail;refine du (cU 0 13 []) [] ?_;refine dY ?_;refine S4.nb λwq hq=>?_;refine dP ?_;go_wp2;go_roundw;case rel=>exact⟨k+1,an,by go_num,HN,bm.A.next hq⟩
 case measure=>exact aA
 ):P:=h
theorem Qb (h:P:=by
 have HS:=E (xb.A bj.A);go_wp2;go_ret;exact⟨cc HS.A.symm,hB⟩;):P:=h
def Xm {s:List dC} (w:aB) (h:Vs ja w B v s):aN aH 44 #[v] w λe w'=>e=aQ (aG (km s))/\aF w w':=by
 obtain⟨ao,cap,rfl,n,hn,N⟩:=h.be;have z:=E n;clear h n;by_cases f:s.length<=64;case neg=>
  have HS:=E (show km s=false by unfold km;simp[f]);go_enter func44,ntmps44;go_wp2;go_ret;exact⟨cc HS.A.symm,aF.refl _⟩
 have o:=E (λk (m:k<s.length) (h:AP s k=false)=>(show km s=false by unfold km;rw[tV m h,Bool.and_false]));have xb:=E (λ(h:cI s.length (AP s)=true)=>(show km s=true by unfold km;rw[h];simp[f]));have F:=E (λk=>(show AP s k=(dT (sT s k)&&j6 (sV s k)&&(k==0||decide (sT s (k-1)<sT s k))) from rfl));generalize km s=r at o xb⊢;go_enter func44,ntmps44;go_wp2;go_loopw [10] (λi wr=>∃k:Nat,k<=s.length/\i=J I k/\a6 (cI k (AP s)=true)/\aF w wr) (λi _=>s.length-(intOf i).toNat);case atStart=>exact⟨0,an,rfl,E rfl,aF.refl _⟩
 case round=>
  obtain⟨k,m,rfl,bj,hB⟩:=hrel;by_cases u:k<s.length
  ·obtain⟨b,off,rfl,U,O,S⟩:=z.A.sm hB.aC u;have a:=E (F.A k);have t:=E (o.A k u);have q:=E (λh=>wW bj.A (P:=AP s) h);have bm:=E (hB.alloc (aD #[J I (sT s k),J I (sV s k)] 65));by_cases c1:(dT (sT s k)&&j6 (sV s k))=true;case neg=>
    have HS:=E (show r=false from t.A (by rw[a.A,Bool.eq_false_iff.2 c1];rfl));have CT:=E (λW=>Qa (sT s k) W);have CN:=E (λW=>Fl (sV s k) W);generalize sT s k=T at*;generalize sV s k=V at*;generalize dT T=x at*;generalize j6 V=y at*;cases x
    ·go_wp2_with fail;refine(CT.A _).ah ?_;rintro e w1⟨rfl,rfl⟩;go_wp2;go_ret;exact⟨cc HS.A.symm,bm.A⟩
    ·obtain rfl:y=false:=by simpa using c1
     clear c1;go_wp2_with fail;refine(CT.A _).ah ?_;rintro e w1⟨rfl,rfl⟩;go_wp2_with fail;refine(CN.A _).ah ?_;rintro e w2⟨rfl,rfl⟩;go_wp2;go_ret;exact⟨cc HS.A.symm,bm.A⟩
   have l:dT (sT s k)=true:=by simp at c1;exact c1.1
   have g:j6 (sV s k)=true:=by simp at c1;exact c1.2
   have CT:=E (λW=>l▸Qa (sT s k) W);have CN:=E (λW=>g▸Fl (sV s k) W);rw[c1] at a;clear c1 l g;by_cases c3:k=0
   ·have HN:=E (q.A (by rw[a.A,c3];rfl));have C:decide (0<k)=false:=aa an;clear c3;generalize sT s k=T at*;generalize sV s k=V at*;exact Xl
   obtain⟨j,hj⟩:=aP (k-1);have C:0<k:=an;have A:j<s.length:=an;have R:I.wrap (j:Int)=(j:Int):=ay;have L:(k:Int)-1=(j:Int):=an;obtain⟨b',K,D,Y,c,_⟩:=z.A.sm bm.A.aC A;cases D;have X:=hB.size;have H:=λp:ba (wr.alloc (aD #[J I (sT s k),J I (sV s k)] 65))=>p.cell (by show b<_;simp;omega) c;have G:∀p:ba (wr.alloc (aD #[J I (sT s k),J I (sV s k)] 65)),p.aL.cell? (ab wr.heap.size 0 M)=ad (J I (sT s k)):=ba.cells (aI.new wr _ _) 0;rw[hj] at a;have d:(k==0)=false:=aw;rw[d] at a;clear hj c d;by_cases c4:sT s k<=sT s j
   ·have HS:=E (show r=false from t.A (by rw[a.A,aa an];rfl));have c5:decide (sT s k<=sT s j)=true:=ac c4;clear c4;generalize sT s k=T at*;generalize sV s k=V at*;generalize sT s j=T2 at*;go_wp2_with fail;refine(CT.A _).ah ?_;rintro e w1⟨rfl,rfl⟩;go_wp2_with fail;refine(CN.A _).ah ?_;rintro e w2⟨rfl,rfl⟩;go_wp2_with fail;refine du (cU 0 13 []) [] ?_;refine dY ?_;refine S4.nb λwq hq=>?_;refine dP ?_;go_wp2;go_ret;exact⟨cc HS.A.symm,bm.A.next hq⟩
   ·have HN:=E (q.A (by rw[a.A,ac an];rfl));have c5:decide (sT s k<=sT s j)=false:=aa c4;clear c4;generalize sT s k=T at*;generalize sV s k=V at*;generalize sT s j=T2 at*;exact Xl
  ·obtain rfl:k=s.length:=by omega
   exact Qb
theorem Xn (h:P:=by
 go_enter func141,ntmps141;go_wp2_with fail;refine(Xm _ HH.A).ah ?_;rintro e w1⟨rfl,Z⟩;rw[c1];go_wp2;go_ret;exact⟨rfl,Z⟩;):P:=h
def Qc {s:List dC} (w:aB) (h:Vs ja w B v s):aN aH 141 #[v] w λe w'=>(e=aQ (if km s=true then v else O M 0 0))/\aF w w':=by
 obtain⟨ao,c,rfl,_⟩:=h.len_;have HH:=E h;clear h;cases c1:km s
 ·exact Xn
 ·exact Xn
def Xo {s:List dC} (h:Vs ja w B v s):Vs ja w B (if km s=true then v else O M 0 0) (pw s):=by
 unfold pw;split
 ·exact h
 ·exact Vs.bh _ _ _
end
variable {a:bb} {o:bv} {t:bf} {Q:Exit->bb->aB->Prop} {ops:Array bv} {B':Nat} {rest:List bv}
section
open Go.ChangeMaps Go.MapKept
section
variable {α:Type} {P:cp}
theorem MR {P:Prop} (h:P:=by
 have:(l.length+1)*1<=(l.length+1)*bytes:=Nat.mul_le_mul_left _ qY;simp only[bK];omega;):P:=h
def uv (D:Kr α) (E:o.guard=M) (s x:Operand) (t:bf) (ho:o.op= .call {callee:=.builtin .append,args:=#[s,x],argTypes:=#[t,t]}) (base bytes:Nat) (z:aE) (p:P.underlying t=ad (.slice D.e)) (hi:(P.info? D.e).map (λi=>(i.zero,i.size,i.bytes))=ad (ad z,D.k,bytes)) (m:z.cells.size=D.k) (qY:1<=bytes) (B:Nat) (v:aE) (l:List α) (hs:a.eval s=v) (W:aB) (vs:List aE) (y:α) (n:a.eval x=O (ad (ab W.heap.size 0 M)) 1 1) (g:Ow D W B base v l) (hrel:D.rel W B y vs) (C:(l.length+1)*bytes<=140737488355328) (f:base<=W.heap.size) (hB:B<=base) (G:D.e∉D.bI) (h:∀c w',Ow D w' B base c (l++[y])->(∀a0,aF a0 W->a0.heap.size<=base->aF a0 w')->Kt B [D.e] W w'->(∀r,r<W.heap.size->(∀T,¬bp W T r)->w'.heap[r]?=W.heap[r]?)->wpList P ops Q rest (a.put o.dst c) w'):wpList P ops Q (o::rest) a (W.alloc (aD vs.toArray D.e)):=by
 have H:=D.len hrel;have k:Sl (W.alloc (aD vs.toArray D.e)) (W.heap.size+1) (ad (ab W.heap.size 0 M)) (1*D.k) (λi=>vs.getD i (aG false)):=Sl.lit W D.e vs (1*D.k) an;have b:=(bk W.heap.size W).alloc (aO _) (aD vs.toArray D.e);have j:=g.alloc (aD vs.toArray D.e);have F:l.length+1<=bK:=by
  exact MR
 refine mZ D E s x t ho base bytes z p hi m B v l hs j (ad (ab W.heap.size 0 M)) 1 1 [y] vs n (Rs.single (D.al hrel b)) rfl _ k F C (a8 f b.size) hB G λc w' A h2 w=>?_;refine h c w' A (λa0 q Z=>(q.alloc _).grown j Z h2) ((Kt.lQ b (a8 hB f)).trans w) λr d u=>?_;refine(h2.block r (da d b.size) λe=>?_).trans (b.block r d);exact u _ (g.row r e.symm).2
def MU (w:aB) (h:Vs bE w B v L):aN aH 19 #[v] w λe w'=>e=aQ (aG (bH L))/\aF w w':=(LH w h).mono λ_ _ h=>⟨h.1,h.2.PD⟩
def ZY (w:aB) (a:Vs bE w B v L) (h2:Vs bE w B' u aU):aN aH 45 #[v,u] w λe w'=>e=aQ (J I (cmpL L aU))/\aF w w':=(LJ w a h2).mono λ_ _ h=>⟨h.1,h.2.PD⟩
end
section
variable {P:cp} {k:bf} {κ:Type} {Q:KK P k κ} {α β:Type} {D:Kr α} {ZZ:Kr β} {w w':aB} {r b B B2 base:Nat} {S:List bf} {es todo:List (κ×α)} {v:aE} {l:List β}
def Mt.grown [DecidableEq κ] (h:Mt Q D w B r es) (ho:Ow ZZ w B2 base v l) (hg:w.grownBy w' v.ownBlock) (a:Kt B S w w') (h2:∀t∈D.bI,t∉S):Mt Q D w' B r es:=by
 refine h.keep a h2 (hg.block r h.lt ?_);intro e;have:=(ho.row r e.symm).2;exact h.lk _ this
def j7.lt [DecidableEq κ] (h:j7 Q D w B r b es todo):r<w.heap.size:=by
 obtain⟨cd,vq,a,_⟩:=h.A;exact a.lt
def j7.lk [DecidableEq κ] (h:j7 Q D w B r b es todo) (T:bf):¬bp w T r:=by
 obtain⟨cd,vq,d,_⟩:=h.A;obtain⟨ms,cl,dB,seen,c0,_,_,_,c,_⟩:=d.A;rintro⟨cs,fr,a⟩;rw[c] at a;cases a
def j7.grown [DecidableEq κ] (h:j7 Q D w B r b es todo) (ho:Ow ZZ w B2 base v l) (hg:w.grownBy w' v.ownBlock) (a:Kt B S w w') (h2:∀t∈D.bI,t∉S):j7 Q D w' B r b es todo:=by
 refine h.of_block a h2 (hg.block r h.lt ?_) (hg.block b h.mt.lt ?_)
 ·intro e;exact h.lk _ (ho.row r e.symm).2
 ·intro e;exact h.mt.lk _ (ho.row b e.symm).2
def j7.alloc [DecidableEq κ] (h:j7 Q D w B r b es todo) (o:Obj):j7 Q D (w.alloc o) B r b es todo:=h.al ((bk _ _).alloc (aO _) o)
def aF.cD {a w w':aB} (h:aF a w) {r:Nat} (hg:w.grownBy w' (ad r)) (b:a.heap.size<=r):aF a w':=aF.of (h.aC.grown hg h.size (λg e=>by cases e;exact b))
def aI.cD {w w':aB} {r:Nat} (h:aI w g t cs) (hg:w.grownBy w' (ad r)) (a:g≠r):aI w' g t cs:=h.grown hg (λe=>a aqE)
end
end
section
open Go.Lib Go.Shelf
open Go.Sort (PermIn SortedIn SWO putCells putRow mapBlock onCells grow Holds)
section
variable {α β:Type} {D:Kr α} {w:aB} {B:Nat}
def CA (z:Cl D w B):aE:=z.1.2.headD (aG false)
def Og (a:D.k=1) (z:Cl D w B):z.1.2=[CA z]:=by
 have h:=D.len z.2;unfold CA;rw[a] at h;match hz:z.1.2,h with
 |[v],_=>rfl
def TG (a:D.k=1):∀zs:List (Cl D w B),zs.flatMap (λz=>z.1.2)=zs.map CA
 |[]=>rfl
 |z::zs=>by rw[List.flatMap_cons,TG a zs,Og a z];simp[CA]
end
def amr [Inhabited α] (enc:α->aE) (w:aB) (g m:Nat) (d:Array α) (os:Array Obj) {cur:Array aE} {e:bf} {fr:Nat×Nat} (hg:w.heap[g]?=ad (aD cur e fr)):(sortWorld enc w g 0 m d os).heap[g]?=ad (aD (putCells enc 0 d cur) e fr):=by
 have a:g<w.heap.size:=(lJ.1 hg).1;show(w.heap.modify g (onCells (putCells enc 0 d))++os)[g]?=_;rw[Array.getElem?_append,ag (am a),yu,ag rfl,hg];rfl
def acT [Inhabited α] (enc:α->aE) (w:aB) (g m:Nat) (d:Array α) (os:Array Obj) {b:Nat} (Z:b<w.heap.size) (a:b≠g):(sortWorld enc w g 0 m d os).heap[b]?=w.heap[b]?:=by
 show(w.heap.modify g (onCells (putCells enc 0 d))++os)[b]?=_;rw[Array.getElem?_append,ag (am Z),yu,af (λe=>a e.symm)]
def TH [Inhabited α] (enc:α->aE) (w:aB) (g m:Nat) (d:Array α) (os:Array Obj) {B:Nat} {T:bf} (hB:B<=g) (hg:bp w T g):Kt B [T] w (sortWorld enc w g 0 m d os) where
 os:=rfl
 tape:=rfl
 output:=rfl
 size:=by simp[sortWorld,grow,putRow,mapBlock,Go.Sort.ahead]
 low:=λb Z=>acT enc w g m d os (ai hg.lt) an
 typed:=λe b c a=>acT enc w g m d os a.lt (by rintro rfl;exact c (bD.2 (a.q9 hg)))
def ams {P:cp} {ρ:Ren} (D:Kr α) (b:D.k=1) (L:SlLaysF.n6 P ρ) (d:SlLaysF0.n6 P ρ) {o:β->β->Int} (ho:fS o) (f:α->β) (g:Nat) (cb:Array aE) (Y:∀args w,(callFunc g args).run P w= .ok (.enter g args) w) (B base:Nat) (w:aB) (b5:∀(W:aB) (x y:α) (v u:aE),Kt B [D.e] w W->D.rel W B x [v]->D.rel W B y [u]->aN P g (#[v,u]++cb) W λe w'=>e=aQ (J I (o (f x) (f y)))/\cm W w') (v:aE) (l:List α) (k:Ow D w B base v l) (hB:B<=base) (U:D.e∉D.bI) (ce:l.length<4611686018427387904):aN P (ρ.f 6) #[v,.func (.func g) #[] cb] w λe w'=>e=aQ (bn #[])/\∃q,q.Perm l/\Ow D w' B base v q/\Kt B [D.e] w w'/\∀a,aF a w->a.heap.size<=base->aF a w':=by
 obtain⟨us,K,T⟩:=k.A;rcases T.2 with⟨rfl,h2⟩|⟨oJ,cap,cur,rfl,rf,hg,fP,dL,cS,IB⟩
 ·obtain rfl:=sb h2;refine(AnyF.slices_SortFunc_none d M 0 (.func (.func g) #[] cb) w).ah ?_;rintro e w'⟨rfl,rfl⟩;exact⟨rfl,[],.refl _,k,Kt.refl _ _ _,λa h _=>h⟩
 obtain⟨zs,j,C⟩:=K.zip;rw[TG b] at C;by_cases h0:zs=[]
 ·subst h0;simp at j;subst j;refine(AnyF.slices_SortFunc_none d _ cap (.func (.func g) #[] cb) w).ah ?_;rintro e w'⟨rfl,rfl⟩;exact⟨rfl,[],.refl _,k,Kt.refl _ _ _,λa h _=>h⟩
 obtain⟨F,Z⟩:∃z,z∈zs:=List.exists_mem_of_ne_nil _ h0;letI:Inhabited (Cl D w B):=⟨F⟩
 rw[b] at cS IB;rw[Nat.mul_one] at cS IB;have hn:zs.length=l.length:=by rw[<-j];simp
 have n:∀t∈D.bI,t∉[D.e]:=λt ht h=>U ((bD.1 h)▸ht);have i:bp w D.e oJ:=⟨_,_,hg⟩;have R:Holds (CA:Cl D w B->aE) w oJ 0 zs.toArray:=by
  intro t ht;have p:t<zs.length:=am ht;rw[ig];refine⟨?_,frozen_of_row w oJ t cur D.e hg⟩;rw[cell_of_row w oJ t cur D.e (0,0) hg];have S:us[t]?=cur[t]?:=by
   rw[<-IB,List.getElem?_take,ag (by rw[<-hn];exact p)];simp
  rw[<-S,<-C,tJ,cR p];rw[getElem!_pos zs.toArray t ht];rfl
 have E:=Any.slices_SortFunc L (CA:Cl D w B->aE) (λx=>D.one x.2 _ (by rw[Og b x];simp)) (λx y=>o (f x.1.1) (f y.1.1)) (WY ho (λx:Cl D w B=>f x.1.1)) g cb oJ 0 cap zs.toArray w Y (λm os H _ x y=>by
  have c:=TH (CA:Cl D w B->aE) w oJ m H os (B:=B) an i;have s:=D.keep x.2 c n;have r:=D.keep y.2 c n;rw[Og b x] at s;rw[Og b y] at r;refine(b5 _ x.1.1 y.1.1 _ _ c s r).ah ?_;rintro e w'⟨O,X⟩;exact⟨O,WX X⟩) R i.lt aw
 rw[show(zs.toArray).size=l.length by simp[hn]] at E;refine E.ah ?_;rintro e w'⟨rfl,d',m,os,N,_,rfl⟩;obtain⟨G,_,Do⟩:=N;have nh:d'.size=l.length:=by rw[G];simp[hn]
 have Do:d'.toList.Perm zs:=by
  exact WZ
 have c:=TH (CA:Cl D w B->aE) w oJ m d' os (B:=B) an i;refine⟨rfl,d'.toList.map (λz=>z.1.1),?_,⟨d'.toList.flatMap (λz=>z.1.2),Rs.P1 (λz=>D.keep z.2 c n) _,?_⟩,c,λa Q Lb=>aF.of (Q.aC.trans ((TH _ _ _ _ _ _ (B:=a.heap.size) an i).aC))⟩
 ·rw[<-j];exact Do.map _
 ·rw[TG b];refine⟨by simp[nh,b],.inr ⟨oJ,cap,_,by simp[nh],rf,amr _ _ _ _ _ _ hg,by simp[nh];omega,dL,by simpa[putCells,b] using cS,?_⟩⟩;apply List.ext_getElem?;intro t;rw[b,Nat.mul_one,List.getElem?_take,Array.getElem?_toList];by_cases ht:t<l.length
  ·have V:t<cur.size:=by omega
   rw[ag ara];simp only[putCells,Array.getElem?_mapIdx,Array.getElem?_eq_getElem V,tG];rw[ag (by rw[nh];omega),Nat.sub_zero,tJ,Array.getElem?_toList,Array.getElem?_eq_getElem an,getElem!_pos d' t an];rfl
  ·rw[af ara,List.getElem?_eq_none (by simp[nh];omega)]
end
def fE (a b:ByteArray) {K:Nat} (h:a.size+b.size<=K) (c:K<=9223372036854775807):∃s:ByteArray,s.size<=K/\∀W,(Op.stringOp .add a b).run aH W= .ok (ap s) W:=⟨a++b,by rw[ByteArray.size_append];exact h,λW=>run_string_add_sum W a b an⟩
def aof (n:Int):1<=(Lib.itoa n).length:=by
 have h:∀u,1<=(qU u).length:=λu=>by
  unfold qU;split<;>simp
 unfold Lib.itoa;split
 ·simp
 ·exact h _
def aog (l:List UInt8) (c:UInt8):(Lib.trimRightB l c).length<=l.length:=by
 unfold Lib.trimRightB;rw[List.length_reverse];exact a8 (List.dropWhile_sublist _).length_le av
def OX (n:Int) (h0:-9223372036854775808<=n) (a:n<=9223372036854775807) (w:aB) (b:eK w):aN aH 223 #[J I n] w λe w'=>(∃s:ByteArray,e=aQ (ap s)/\s.size<=21/\1<=s.size)/\aF w w':=by
 refine(Tryz.strconv_Itoa n h0 a w (b.pow w (bk _ _))).ah ?_;rintro e w'⟨rfl,k,os,rfl⟩;refine⟨⟨_,rfl,?_,?_⟩,aF.of (Lib.below_grow _ w (aO _) k os)⟩
 ·have:=Lib.itoa_length_le n h0 a;simpa[ByteArray.size] using this
 ·have:=aof n;simpa[ByteArray.size] using this
theorem aev (h:P:=by
 have qo:=E lf;clear Cf lI lf bd;by_cases hz:p=0
 ·have d0:(p==0)=true:=by simpa using hz
  clear hz;go_wp2;go_ret;exact⟨⟨_,rfl,ai qo.A⟩,bm.A⟩
 have d0:(p==0)=false:=am hz;obtain⟨r,hr⟩:=aP (1000+p);have aiR:wrap64 r=r:=by have:=HP.A;unfold wrap64;omega
 have wi:=E (OX r (ai HP.A) (ai HP.A) w2 (cY.A.rel bm.A));clear hz;go_wp2_with fail;refine wi.A.ah ?_;rintro e w3⟨⟨t3,rfl,pe,ap4⟩,ct⟩;have bL:=E (bm.A.trans ct);obtain⟨t4,ox,x5⟩:=fE t2 ⟨#[46]⟩ (K:=40) (by have:=qo.A;show t2.size+1<=40;omega) aq;have wI:=E ox;have sY:(t3.extract 1 t3.size).size<=21:=by rw[ByteArray.size_extract];omega
 obtain⟨Cx,fp,HTR⟩:∃Cx:ByteArray,a6 (Cx.size<=21)/\a6 (∀W,aN aH 259 #[ap (t3.extract 1 t3.size),ap ⟨#[48]⟩] W λe w'=>e=aQ (ap Cx)/\w'=W):=⟨_,E (a8 (Nat.le_of_eq lM) (a8 (aog (t3.extract 1 t3.size).data.toList 48) (a8 (Nat.le_of_eq (Array.length_toList)) sY))),E λW=>Tryz.strings_TrimRight_one (t3.extract 1 t3.size) 48 aq W an⟩;clear ct wi ox sY;go_wp2_with fail;refine(HTR.A _).ah ?_;rintro e w4⟨rfl,rfl⟩;obtain⟨t5,EW,Kc⟩:=fE t4 Cx (K:=90) (aj wI.A fp.A) aq;have Tr:=E EW;clear EW HTR;go_wp2;go_ret;exact⟨⟨_,rfl,ai Tr.A⟩,bL.A⟩;):P:=h
def aoh (v:Int) (w:aB) (l:eK w) (hv:j6 v=true):aN aH 222 #[J I v] w λe w'=>(∃s:ByteArray,e=aQ (ap s)/\s.size<=100)/\aF w w':=by
 have cY:=E l;have hn:=Fl v w;rw[hv] at hn;have Z:-9007199254740992<=v/\v<=9007199254740992:=by unfold j6 at hv;simpa using hv
 have k:=E Z;clear l hv;have d:∀x:Int,0<=x->x<=9007199254740992->wrap64 x=x:=λx h0 F=>by unfold wrap64;omega
 by_cases g:v<0
 ·have d1:decide (v<0)=true:=ac g;obtain⟨u,i⟩:=aP (-v);have D:I.wrap (-v)=u:=by rw[i];rw[b7];omega
  have b:=E (show 0<=u/\u<=9007199254740992 by omega);clear Z g i k;go_enter func222,ntmps222;go_wp2_with fail;refine hn.ah ?_;rintro e j⟨rfl,rfl⟩;clear hn;obtain⟨q,n,a⟩:∃q:Int,u.tdiv 1000=q/\(0<=q/\q<=9007199254740992):=⟨_,rfl,Int.tdiv_nonneg b.A.1 aq,Int.le_trans (Int.tdiv_le_self _ b.A.1) b.A.2⟩;obtain⟨p,o,c⟩:∃p:Int,u.tmod 1000=p/\(0<=p/\p<1000):=⟨_,rfl,Int.tmod_nonneg _ b.A.1,Int.tmod_lt_of_pos _ aq⟩;have t:=d q a.1 a.2;have C:=d p c.1 an;have z:=E a;have HP:=E c;have Cf:=E (OX q an an j cY.A);clear d a c;go_wp2_with fail;refine Cf.A.ah ?_;rintro e w2⟨⟨f,rfl,lI,_⟩,bd⟩;have bm:=E bd;obtain⟨t2,lf,m⟩:=fE ⟨#[45]⟩ f (K:=30) (by show 1+f.size<=30;omega) aq;exact aev
 ·have d1:decide (v<0)=false:=aa g;obtain⟨u,i⟩:=aP v;have b:=E (show 0<=u/\u<=9007199254740992 by omega);subst i;clear Z g k;go_enter func222,ntmps222;go_wp2_with fail;refine hn.ah ?_;rintro e j⟨rfl,rfl⟩;clear hn;obtain⟨q,n,a⟩:∃q:Int,v.tdiv 1000=q/\(0<=q/\q<=9007199254740992):=⟨_,rfl,Int.tdiv_nonneg b.A.1 aq,Int.le_trans (Int.tdiv_le_self _ b.A.1) b.A.2⟩;obtain⟨p,o,c⟩:∃p:Int,v.tmod 1000=p/\(0<=p/\p<1000):=⟨_,rfl,Int.tmod_nonneg _ b.A.1,Int.tmod_lt_of_pos _ aq⟩;have t:=d q a.1 a.2;have C:=d p c.1 an;have z:=E a;have HP:=E c;have Cf:=E (OX q an an j cY.A);clear d a c;go_wp2_with fail;refine Cf.A.ah ?_;rintro e w2⟨⟨f,rfl,lI,_⟩,bd⟩;have bm:=E bd;obtain⟨t2,lf,m⟩:=fE ⟨#[]⟩ f (K:=30) (by show 0+f.size<=30;omega) aq;exact aev
def MV:(aH.info? 176).map (λi=>(i.zero,i.size,i.bytes))=ad (ad (aY #[J I 0,J I 0,ap ⟨#[]⟩]),3,32):=ar
def MW:kM.e∉kM.bI:=aq
def pG (s:ByteArray) (i j:Nat) (a:i<=j) (h2:j<=s.size):(s.extract i j).size=j-i:=by
 rw[ByteArray.size_extract];omega
def MX (s:ByteArray) (i k:Nat) (h:i+k<s.size):dp (s.extract i s.size) k=dp s (i+k):=by
 have a:=pG s i s.size an (aO _);unfold dp;rw[dif_pos an,dif_pos h,ByteArray.getElem_extract]
def ajp (c d a:Nat):gJ c false d=gJ c false a:=by unfold gJ;simp
def ajq (s:ByteArray) (i:Nat) (h:i<s.size):gJ (dp (s.extract i s.size) 0) (decide (1<(s.extract i s.size).size)) (dp (s.extract i s.size) 1)=gW s i:=by
 unfold gW;have b:=pG s i s.size an (aO _);rw[MX s i 0 an,b];by_cases a:i+1<s.size
 ·rw[MX s i 1 a,show decide (1<s.size-i)=true from ac an,show decide (i+1<s.size)=true from ac a];rfl
 ·rw[show decide (1<s.size-i)=false from aa an,show decide (i+1<s.size)=false from aa a];exact ajp _ _ _
def Z0 {P:Nat->Bool} {s:ByteArray} (hi:i<s.size) (h:ib P (s.extract i s.size) 1 n):ib P s (i+1) (i+n)/\1<=n/\i+n<=s.size:=by
 have a:=pG s i s.size an (aO _);have hh:=h.hi;rw[a] at hh;refine⟨⟨ai h.le,an,λk h2 b=>?_,λh2=>?_⟩,h.le,an⟩
 ·have:=h.on (k-i) an an;rwa[MX s i (k-i) an,show i+(k-i)=k by omega] at this
 ·have:=h.off an;rwa[MX s i n h2] at this
def BJ (n:Nat) (t:List Tok):Prop:=∀x∈t,0<=x.p/\x.p<=n/\x.s.size<=n
def ajr (s:ByteArray) (i:Nat):(gW s i).1=0\/(gW s i).1=1\/(gW s i).1=2\/(gW s i).1=3\/((gW s i).1=4/\1<=(gW s i).2/\(gW s i).2<=2/\((gW s i).2=2->i+1<s.size)):=by
 unfold gW gJ;repeat' split
 all_goals simp
 rename_i h;simp at h;exact h.1.2
def str_slice (s:ByteArray) (i j:Nat) (a:i<=j) (h2:j<=s.size) (W:aB):(iV 9 (ap s) (ad (J I (i:Int))) (ad (J I (j:Int))) M).run aH W= .ok (ap (s.extract i j)) W:=by
 rw[run_slice_string_if (h:=underlying9)];simp[a,h2]
def MY (s:ByteArray) (i n:Nat) (w:aB) (hs:s.size<=9223372036854775807) (hi:i+n<=s.size):aN aH 129 #[ap s,J I ((i:Int)+(n:Int))] w λe w'=>(∃j:Nat,e=aQ (J I j)/\i+n<=j/\j<=s.size/\(Plain s->ib mH s (i+n) j))/\w'=w:=ZJ s (i+n) w hs hi
def MZ {t:List Tok} (h:BJ n t) (x:Tok) (c:0<=x.p) (h2:x.p<=n) (b:x.s.size<=n):BJ n (t++[x]):=λy a=>by
 rcases kf.1 a with a|a
 ·exact h y a
 ·rw[bD] at a;subst a;exact⟨c,h2,b⟩
def ajs {s:ByteArray} (h:gW s i=(3,n)) (hi:i<s.size) (c:Plain s):False:=by
 have b:dp s i=34:=by
  have a:(gW s i).1=3:=by rw[h]
  unfold gW gJ at a;repeat' split at a
  all_goals first|(simp at a;done)|assumption
 exact(c i hi).1 b
theorem RN (h:P:=by
 refine(oF _).ah ?_;rintro e w3⟨⟨j,rfl,Jl,Bz,BK⟩,rfl⟩;clear oF;go_wp2;go_roundw;case rel=>exact⟨j,_,Bz,rfl,by simp;have:=HT.A;omega,fA _ HB.A (aO _),bC,E ⟨cQ.A,λhp=>dM.A j (BK hp) hp⟩⟩
 case measure=>exact aA
 ):P:=h
def ajt (s:ByteArray) (w:aB) (hs:s.size<=1000000):aN aH 96 #[ap s] w λe w'=>(∃z t,∃(n:Nat) (k:Int),e=aQ (bn #[z,J I n,J I k])/\Ow kM w' w.heap.size w.heap.size z t/\BJ s.size t/\t.length<=65536/\(Plain s->if k=0 then mI s s.size t else∃i u,mI s i u/\i<s.size/\((gW s i).1=0\/u.length=65536)))/\aF w w':=by
 have HS:=E hs;have D:s.size<=9223372036854775807:=an;have oF:=ZJ s 0 w D (bV _);go_enter func96,ntmps96;go_wp2_with fail;refine oF.ah ?_;rintro e f⟨⟨ut,rfl,_,zq,qq⟩,rfl⟩;have zr:=E qq;clear oF qq;go_wp2;go_loopw [5,6] (λv5 K wr=>∃(i:Nat) (t:List Tok),i<=s.size/\K=J I i/\t.length<=65536/\aF f wr/\Ow kM wr f.heap.size f.heap.size v5 t/\a6 (BJ s.size t/\(Plain s->mI s i t))) (λ_ K _=>s.size-(intOf K).toNat);case atStart=>exact⟨ut,[],zq,rfl,av,aF.refl _,Ow.bh _ _ _ _,E ⟨λx hx=>by simp at hx,λhp=>.start (zr.A hp)⟩⟩
 case round=>
  clear zr;obtain⟨i,t,hi,rfl,F,hB,T,r⟩:=hrel;have HB:=E hB;have y:=E T;obtain⟨A0,c0,rfl,_⟩:=T.shape;clear hB T;by_cases v:i<s.size;case neg=>
   obtain rfl:i=s.size:=an;go_wp2;go_ret3;exact⟨⟨_,t,s.size,0,rfl,y.A,r.A.1,F,λhp=>by rw[ag rfl];exact r.A.2 hp⟩,HB.A⟩
  by_cases mJ:t.length=65536
  ·have X:=E (show Plain s->∃i u,mI s i u/\i<s.size/\((gW s i).1=0\/u.length=65536) fromλhp=>⟨i,t,r.A.2 hp,v,.inr mJ⟩);have S:((t.length:Int)==65536)=true:=aw;have HT:=E F;clear F;go_wp2;go_ret3;exact⟨⟨_,t,i,4,rfl,y.A,r.A.1,HT.A,λhp=>by rw[af aq];exact X.A hp⟩,HB.A⟩
  have S:((t.length:Int)==65536)=false:=aw;have HT:=E (show t.length+1<=65536 by omega);clear mJ F;have pH:=pG s i s.size hi (aO _);have Z1:1<=(s.extract i s.size).size:=an;have Z2:(s.extract i s.size).size<=9223372036854775807:=an;have d:=ajn (s.extract i s.size) wr Z2 Z1;rw[ajq s i v] at d;have V:=ajr s i;have l:=λb=>ai3 (s.extract i s.size) b wr Z2 Z1;have B:=ajo (s.extract i s.size) wr an;have H:=E (λ(n:Nat) (j:Nat) (h1:One s i (gW s i).1 n) (h2:ib mH s (i+n) j) (hp:Plain s)=>mI.step (r.A.2 hp) v h1 h2);have aM:=E (show gW s i=gW s i from rfl);obtain⟨⟨aJ,n0⟩,Y⟩:∃x,gW s i=x:=⟨_,rfl⟩;rw[Y] at V d;have g:=E Y;clear Y;dsimp only at V d;have q:=E r.A;clear r;rcases V with rfl|rfl|rfl|rfl|⟨rfl,Q,eg,lT⟩
  ·have X:=E (show Plain s->∃i u,mI s i u/\i<s.size/\((gW s i).1=0\/u.length=65536) fromλhp=>⟨i,t,q.A.2 hp,v,.inl (by rw[g.A])⟩);clear l B;go_wp2_with fail;refine d.ah ?_;rintro e a⟨rfl,rfl⟩;clear d;go_wp2;go_ret3;exact⟨⟨_,t,i,1,rfl,y.A,q.A.1,ai HT.A,λhp=>by rw[af aq];exact X.A hp⟩,HB.A⟩
  ·clear B;replace l:=l false;go_wp2_with fail;refine d.ah ?_;rintro e a⟨rfl,rfl⟩;clear d;go_wp2_with fail;refine l.ah ?_;rintro e a⟨⟨n,rfl,C⟩,rfl⟩;clear l;obtain⟨N,Q,c⟩:=Z0 v C;clear C;have o:(s.extract i (i+n)).size<=9223372036854775807:=by rw[pG s i (i+n) an c];omega
   have BL:I.wrap ((i:Int)+(n:Int))=(i:Int)+(n:Int):=ay;have oF:=λW=>MY s i n W D c;have cQ:=E (show BJ s.size (t++[⟨1,(i:Int),s.extract i (i+n)⟩]) from MZ q.A.1 ⟨1,(i:Int),s.extract i (i+n)⟩ av aw (by rw[pG s i (i+n) an c];omega));have dM:=E (λ(j:Nat) (h2:ib mH s (i+n) j) (hp:Plain s)=>(show mI s j (t++[⟨1,(i:Int),s.extract i (i+n)⟩]) by
    have m:=H.A n j ⟨rfl,.inr ⟨by rw[g.A];simp,by rw[g.A];exact N⟩⟩ h2 hp;rw[g.A] at m;exact m))
   have iG:(iV 9 (ap s) (ad (J I (i:Int))) (ad (J I ((i:Int)+(n:Int)))) M).run aH a= .ok (ap (s.extract i (i+n))) a:=str_slice s i (i+n) an c a;generalize s.extract i (i+n)=BM at*;go_wp2_with ((refine uv kM au (.tmp 75) (.tmp 80) 170 au f.heap.size 32 _ ar MV au aq f.heap.size _ t au a [J I 1,J I (i:Int),ap BM] ⟨1,(i:Int),BM⟩ au y.A ⟨rfl,o⟩ (ai HT.A) HB.A.size (aO _) MW ?_;intro z w' bC fA R L));exact RN
  ·clear B;replace l:=l true;go_wp2_with fail;refine d.ah ?_;rintro e a⟨rfl,rfl⟩;clear d;go_wp2_with fail;refine l.ah ?_;rintro e a⟨⟨n,rfl,C⟩,rfl⟩;clear l;obtain⟨N,Q,c⟩:=Z0 v C;clear C;have o:(s.extract i (i+n)).size<=9223372036854775807:=by rw[pG s i (i+n) an c];omega
   have BL:I.wrap ((i:Int)+(n:Int))=(i:Int)+(n:Int):=ay;have oF:=λW=>MY s i n W D c;have cQ:=E (show BJ s.size (t++[⟨2,(i:Int),s.extract i (i+n)⟩]) from MZ q.A.1 ⟨2,(i:Int),s.extract i (i+n)⟩ av aw (by rw[pG s i (i+n) an c];omega));have dM:=E (λ(j:Nat) (h2:ib mH s (i+n) j) (hp:Plain s)=>(show mI s j (t++[⟨2,(i:Int),s.extract i (i+n)⟩]) by
    have m:=H.A n j ⟨rfl,.inr ⟨by rw[g.A];simp,by rw[g.A];exact N⟩⟩ h2 hp;rw[g.A] at m;exact m))
   have iG:(iV 9 (ap s) (ad (J I (i:Int))) (ad (J I ((i:Int)+(n:Int)))) M).run aH a= .ok (ap (s.extract i (i+n))) a:=str_slice s i (i+n) an c a;generalize s.extract i (i+n)=BM at*;go_wp2_with ((refine uv kM au (.tmp 75) (.tmp 80) 170 au f.heap.size 32 _ ar MV au aq f.heap.size _ t au a [J I 2,J I (i:Int),ap BM] ⟨2,(i:Int),BM⟩ au y.A ⟨rfl,o⟩ (ai HT.A) HB.A.size (aO _) MW ?_;intro z w' bC fA R L));exact RN
  ·clear l;have Jj:=E (show¬Plain s fromλhp=>ajs g.A v hp);go_wp2_with fail;refine d.ah ?_;rintro e a⟨rfl,rfl⟩;clear d;go_wp2_with fail;refine B.ah ?_;rintro e w3⟨⟨p,n,k,rfl,ng,hn,O⟩,Z⟩;clear B;rw[pH] at ng hn;have U:=E (HB.A.trans Z);have nQ:=E (y.A.al Z.aC);clear Z;have BL:I.wrap ((i:Int)+(n:Int))=(i:Int)+(n:Int):=ay;by_cases G:k=0
   ·subst G;have Q:=O rfl;clear O;have o:p.size<=9223372036854775807:=an;have oF:=λW=>MY s i n W D an;have cQ:=E (show BJ s.size (t++[⟨3,(i:Int),p⟩]) from MZ q.A.1 ⟨3,(i:Int),p⟩ av aw arf);go_wp2_with ((refine uv kM au (.tmp 75) (.tmp 80) 170 au f.heap.size 32 _ ar MV au aq f.heap.size _ t au w3 [J I 3,J I (i:Int),ap p] ⟨3,(i:Int),p⟩ au nQ.A ⟨rfl,o⟩ (ai HT.A) U.A.size (aO _) MW ?_;intro z w' bC fA R L));refine(oF _).ah ?_;rintro e w4⟨⟨j,rfl,Jl,Bz,BK⟩,rfl⟩;clear oF;go_wp2;go_roundw;case rel=>exact⟨j,_,Bz,rfl,by simp;have:=HT.A;omega,fA _ U.A (aO _),bC,E ⟨cQ.A,λhp=>ae hp Jj.A⟩⟩
    case measure=>exact aA
   ·have jv:(k !=0)=true:=by simp;exact G
    have HK:=E G;clear O G;go_wp2;go_ret3;exact⟨⟨_,t,i+n,k,rfl,nQ.A,q.A.1,ai HT.A,λhp=>ae hp Jj.A⟩,U.A⟩
  ·clear B l;have c:i+n0<=s.size:=by
    rcases gy n0 2 with h|h
    ·omega
    ·have:=lT an;omega
   go_wp2_with fail;refine d.ah ?_;rintro e a⟨rfl,rfl⟩;clear d;have o:(s.extract i (i+n0)).size<=9223372036854775807:=by rw[pG s i (i+n0) an c];omega
   have BL:I.wrap ((i:Int)+(n0:Int))=(i:Int)+(n0:Int):=ay;have oF:=λW=>MY s i n0 W D c;have cQ:=E (show BJ s.size (t++[⟨4,(i:Int),s.extract i (i+n0)⟩]) from MZ q.A.1 ⟨4,(i:Int),s.extract i (i+n0)⟩ av aw (by rw[pG s i (i+n0) an c];omega));have dM:=E (λ(j:Nat) (h2:ib mH s (i+n0) j) (hp:Plain s)=>(show mI s j (t++[⟨4,(i:Int),s.extract i (i+n0)⟩]) by
    have m:=H.A n0 j ⟨rfl,.inl ⟨by rw[g.A],by rw[g.A]⟩⟩ h2 hp;rw[g.A] at m;exact m))
   have iG:(iV 9 (ap s) (ad (J I (i:Int))) (ad (J I ((i:Int)+(n0:Int)))) M).run aH a= .ok (ap (s.extract i (i+n0))) a:=str_slice s i (i+n0) an c a;generalize s.extract i (i+n0)=BM at*;go_wp2_with ((refine uv kM au (.tmp 75) (.tmp 80) 170 au f.heap.size 32 _ ar MV au aq f.heap.size _ t au a [J I 4,J I (i:Int),ap BM] ⟨4,(i:Int),BM⟩ au y.A ⟨rfl,o⟩ (ai HT.A) HB.A.size (aO _) MW ?_;intro z w' bC fA R L));exact RN
variable {j:Nat}
section
open Go.Shelf
open im (dT)
attribute [local go_sem] Oper.semAt_some
def agT {s:List dC} (hj:j<s.length):s.reverse.take (s.length-j)=s.reverse.take (s.length-(j+1))++[s[j]]:=by
 have a:s.length-j=(s.length-(j+1))+1:=an;rw[a,yz aw];congr 1;rw[List.getElem_reverse];congr 2;omega
def agU (F:Fence) (n:Nat) (R:F.fn 184) (K:F.round=M) (hn:1<=n) (l Bs c B:Nat) (ao:Option aX) (cap:Nat) (s:List dC) (w0:aB) (d:Rw ja w0 B ao s.length s) (ij:s.length<=cap) (Y:cap<=9223372036854775807) (Z:w0.heap.size=c) (a G:List dC->aB->Prop) (N:∀pre x W,a pre W->pre.length<s.length->s.reverse.take (pre.length+1)=pre++[x]->YieldAt F (n-1) aH l #[aY #[J I x.1,J I x.2]] W λe W'=>(e=aQ (aG true)/\a (pre++[x]) W'/\aS c W W')\/(e=aQ (aG false)/\G (pre++[x]) W')) (W:aB) (f:W.cell? (ab Bs 0 M)=ad (O ao s.length cap)) (Q:aS c w0 W) (C:Bs<c\/∀pre D,a pre D->D.cell? (ab Bs 0 M)=ad (O ao s.length cap)) (h0:a [] W):CallsIn F n aH 184 #[.func (.yield l) #[] #[],bl (ad (ab Bs 0 M))] W λe W'=>(∃v,e=aQ v)/\((∃u,u=s.reverse/\a u W')\/(∃pre,(∃k,k<=s.length/\pre=s.reverse.take k)/\G pre W')):=by
 have X:=E d;clear d;have L:=E C;clear C;refine callsIn_of_wp func184 rfl R ?_ K;simp only[ntmps184,lM,pY,nF,Nat.reduceAdd,Nat.reduceSub,Array.replicate_succ,Array.replicate_zero,List.push_toArray,List.append_toArray,List.nil_append,List.cons_append];have Dw:I.wrap ((s.length:Int)-1)=(s.length:Int)-1:=ay;gi_wp2;gi_loopw [3] (λi wr=>∃k:Nat,k<=s.length/\i=J I ((k:Int)-1)/\a (s.reverse.take (s.length-k)) wr/\aS c w0 wr/\wr.cell? (ab Bs 0 M)=ad (O ao s.length cap)) (λi _=>(intOf i+1).toNat);case atStart=>exact⟨s.length,aO _,rfl,by rw[Nat.sub_self];exact h0,Q,f⟩
 case round=>
  clear f;obtain⟨k,hk,rfl,t,H,f⟩:=hrel;by_cases o:k=0
  ·subst o;have m:=E t;clear t;gi_wp2;go_end0;exact⟨⟨_,rfl⟩,.inl ⟨_,rfl,by have:=m.A;rwa[Nat.sub_zero,show s.length=s.reverse.length by simp,pZ] at this⟩⟩
  ·obtain⟨j,rfl⟩:∃j,k=j+1:=⟨k-1,an⟩;have hj:j<s.length:=an;have S:((j+1:Nat):Int)-1=(j:Int):=an;rw[S];have g:=E (agT hj);obtain⟨b,off,z,il,ft,dS⟩:=X.A.sm (Z▸H) hj;have HA:=E z;obtain⟨fn,tmps,assign,body,y,d⟩:=N _ s[j] wr t aw (by
    rw[<-g.A];congr 1;simp;omega)
   rw[Xk hj] at y d g;dsimp only at y;have vj:decide ((0:Int)<=(j:Int))=true:=decide_eq_true an;have Dx:I.wrap ((j:Int)-1)=(j:Int)-1:=ay;generalize sT s j=T at*;generalize sV s j=V at*;subst z;gi_wp2;refine d.mono ?_;rintro e U (⟨rfl,A,w⟩|⟨rfl,r⟩)
   ·have q:U.cell? (ab Bs 0 M)=ad (O (ad (ab b off M)) s.length cap):=by
     rcases L.A with h|h
     ·exact(w.cell (p:=(ab Bs 0 M)) h).trans f
     ·exact h _ _ A
    gi_wp2;go_roundw;case rel=>exact⟨j,an,rfl,by rw[g.A];exact A,H.trans w,q⟩
    case measure=>simp[intOf]
   ·gi_wp2;refine bF (results_none rfl _ _ _) rfl ?_;exact⟨⟨_,rfl⟩,.inr ⟨_,⟨s.length-j,an,g.A.symm⟩,r⟩⟩
def Xr (ao:Option aX) (m c:Nat) (w:aB):aN aH 142 #[O ao m c] w λe w'=>e=aQ (.func (.func 184) #[] #[bl (ad (ab w.heap.size 0 M))])/\w'=w.alloc (aD #[O ao m c] 110):=by
 go_enter func142,ntmps142;go_wp2;go_ret;exact⟨rfl,rfl⟩
def Xs (f:α->dC) (sl:List α) (F:Fence) (n:Nat) (S:F.fn 184) (E:F.round=M) (hn:1<=n) (Bs d B:Nat) (ao:Option aX) (cap:Nat) (s:List dC) (hs:sl.map f=s) (w0 w:aB) (R:Rw ja w0 B ao s.length s) (K:s.length<=cap) (D:cap<=9223372036854775807) (Z:w0.heap.size=d) (t:aS d w0 w) (r:aI w Bs 110 #[O ao s.length cap]) (Kp:aB->aB->Prop) (z:∀W W',Kp W W'->aS d W W'/\(aI W Bs 110 #[O ao s.length cap]->aI W' Bs 110 #[O ao s.length cap])):SeqStopsK F n aH 184 #[bl (ad (ab Bs 0 M))] (λx:α=>#[aY #[J I (f x).1,J I (f x).2]]) Kp (λq=>q=sl.reverse) (λpre=>∃k,pre=sl.reverse.take k) s.length w:=λl X V W v _ _ Q h0=>by
 have c:aI W Bs 110 #[O ao s.length cap]:=r.al v r.lt;have Qe:sl.length=s.length:=by rw[<-hs];simp
 refine agU F n S E hn l Bs d B ao cap s w0 R K D Z (λpre W'=>(∃a,pre=a.map f/\a=sl.reverse.take a.length/\X a W')/\aI W' Bs 110 #[O ao s.length cap]) (λpre W'=>∃a,pre=a.map f/\(∃k,a=sl.reverse.take k)/\V a W') ?_ W (c.cell 0) (t.trans (v.mono (ai t.size))) (.inr λpre C h=>h.2.cell 0) ⟨⟨[],rfl,av,h0⟩,c⟩|>.mono ?_
 ·rintro pre x C⟨⟨a,rfl,N,p⟩,U⟩ y i;rw[p6] at i y;have H:a.length<sl.reverse.length:=aw;have j:sl.reverse.take (a.length+1)=a++[sl.reverse[a.length]]:=by rw[yz H,<-N]
  have g:x=f sl.reverse[a.length]:=by
   rw[<-hs,<-List.map_reverse,<-List.map_take,j,lK] at i;have:=List.append_cancel_left i;simpa using this.symm
  subst g;obtain⟨T,tmps,assign,body,L,G⟩:=Q a sl.reverse[a.length] C p y;refine⟨T,tmps,assign,body,L,G.mono ?_⟩;rintro e Y (⟨b,m,u⟩|⟨b,h⟩)
  ·exact .inl ⟨b,⟨⟨_,av,by rw[b2,p8,j],m⟩,(z _ _ u).2 U⟩,(z _ _ u).1⟩
  ·exact .inr ⟨b,_,av,⟨a.length+1,j.symm⟩,h⟩
 ·rintro e W'⟨b,⟨q,c,⟨a,h2,o,h4⟩,_⟩|⟨pre,c,a,h2,o,h4⟩⟩
  ·refine⟨b,.inl ⟨a,?_,h4⟩⟩;have:a.length=sl.reverse.length:=by
    have:=congrArg oz h2;rw[c] at this;simp at this;simp;omega
   rw[o,this,pZ]
  ·exact⟨b,.inr ⟨a,o,h4⟩⟩
def jd (g:Nat) (t:bf) (cs:β->Array aE):Own (λ(s:β) W=>aI W g t (cs s)):=λs ao B row hs hg a=>by
 refine(hg.block g hs.lt (λe=>?_)).trans hs;obtain⟨o,ho,b⟩:=a g e.symm;have:ao.heap[g]?=ad (aD (cs s) t (0,0)):=hs;rw[this] at ho;cases ho;cases b
def Fm (p:β->Prop):Own (λ(s:β) (_:aB)=>p s):=λs ao B row hs hg a=>hs
def Own.nR {β:Type} {c b:β->aB->Prop} (h:Own c) (h':Own b):Own (λs W=>c s W/\b s W):=λs ao B row hs hg a=>⟨h s ao B row hs.1 hg a,h' s ao B row hs.2 hg a⟩
def Own.comp {a:γ->aB->Prop} (h:Own a) (g:β->γ):Own (λs W=>a (g s) W):=λs ao B row hs hg b=>h (g s) ao B row hs hg b
def OwnFrom.comp {D:Nat} {a:γ->aB->Prop} (h:OwnFrom D a) (g:β->γ):OwnFrom D (λs W=>a (g s) W):=λs ao B row hs hg b=>h (g s) ao B row hs hg b
abbrev xd:={x:dC//dT x.1=true}
def cd (l:List xd):List dC:=l.map (·.1)
def Qf:∀{l:List dC},(∀x∈l,dT x.1=true)->∃sl:List xd,sl.map (·.1)=l
 |[],_=>⟨[],rfl⟩
 |x::l,h=>by
  obtain⟨sl,hs⟩:=Qf (l:=l) λy a=>h y (by simp[a])
  exact⟨⟨x,h x av⟩::sl,by simp[hs]⟩
def LU (t:Int) (pre:List dC):Prop:=∀y∈pre,t<y.1
def Fp (t:Int) (pre:List dC):Prop:=pre≠[]/\(∀y∈pre.dropLast,t<y.1)/\(pre.getLastD (0,0)).1<=t
def LV (w:aB) (t wd:Int):Code->List dC->aB->Prop
 |.ret,pre,W=>(((Fp t pre/\t-(pre.getLastD (0,0)).1<wd)/\aI W (w.heap.size+1+1) 65 #[J I (pre.getLastD (0,0)).1,J I (pre.getLastD (0,0)).2])/\aI W (w.heap.size+1+1+1) 4 #[aG true])/\aS w.heap.size w W
 |.exit 0,pre,W=>(((Fp t pre/\¬t-(pre.getLastD (0,0)).1<wd)/\aI W (w.heap.size+1+1) 65 #[J I 0,J I 0])/\aI W (w.heap.size+1+1+1) 4 #[aG false])/\aS w.heap.size w W
 |_,_,_=>False
def LV.own (w:aB) (t a:Int) (D:Nat) (b:w.heap.size<=D) (c:Code):OwnFrom D (LV w t a c):=by
 cases c with
 |ret=>exact OwnFrom.and (Own.from (Own.nR (Own.nR (Fm λpre:List dC=>Fp t pre/\t-(pre.getLastD (0,0)).1<a) (jd _ _ λpre:List dC=>#[J I (pre.getLastD (0,0)).1,J I (pre.getLastD (0,0)).2])) (jd _ _ λ_=>#[aG true])) _) (ownFrom_below (aO _) b)
 |exit k=>
  cases k with
  |zero=>exact OwnFrom.and (Own.from (Own.nR (Own.nR (Fm λpre:List dC=>Fp t pre/\¬t-(pre.getLastD (0,0)).1<a) (jd _ _ λ_=>#[J I 0,J I 0])) (jd _ _ λ_=>#[aG false])) _) (ownFrom_below (aO _) b)
  |succ k=>exactλ_ _ _ _ h _ _=>h
 |_=>exactλ_ _ _ _ h _ _=>h
def Qg {t a:Int}:∀{pre rest:List dC},Fp t pre->atR t a (pre++rest)=if t-(pre.getLastD (0,0)).1<a then ad (pre.getLastD (0,0)) else M
 |[],_,h=>absurd rfl h.1
 |[x],rest,h=>by
  have:=h.2.2
  simp at this
  simp only[List.singleton_append,atR]
  rw[if_neg an]
  rfl
 |x::y::l,rest,h=>by
  have c:=h.2.1 x av
  simp only[List.cons_append,atR]
  rw[if_pos c]
  exact Qg (pre:=y::l) ⟨av,λz b=>h.2.1 z (by simp at b⊢;exact .inr b),h.2.2⟩
def Xu {t a:Int}:∀{l:List dC},(∀y∈l,t<y.1)->atR t a l=M
 |[],_=>rfl
 |x::l,h=>by
  rw[atR,if_pos (h x av)]
  exact Xu λy b=>h y (by simp[b])
theorem Xv (h:P:=by
 have f20:=x3.frozen 0;have f21:=x3.frozen 1;have f30:=x4.frozen 0;have g0:=x3.cell 0;have g1:=x3.cell 1;have g2:=x4.cell 0;simp at g0 g1 g2;gi_wp2;have y3:=((x3.put 0 (J I 0)).put 1 (J I 0)).bT (p:=⟨w.heap.size+1+1+1,0,M⟩) aqo (aG false);have y4:=((x4.bT (p:=⟨w.heap.size+1+1,0,M⟩) aqh (J I 0)).bT (p:=⟨w.heap.size+1+1,1,M⟩) aqh (J I 0)).put 0 (aG false);have y5:=((Dy.setCell (p:=⟨w.heap.size+1+1,0,M⟩) aqf (J I 0)).setCell (p:=⟨w.heap.size+1+1,1,M⟩) aqf (J I 0)).setCell (p:=⟨w.heap.size+1+1+1,0,M⟩) aqi (aG false);have yK:(((W.setCell ⟨w.heap.size+1+1,0,M⟩ (J I 0)).setCell ⟨w.heap.size+1+1,1,M⟩ (J I 0)).setCell ⟨w.heap.size+1+1+1,0,M⟩ (aG false)).heap[D]?=ad (.deferred (ad [])):=(((yB _ _ _).trans (yB _ _ _)).trans (yB _ _ _)).same D _ hK rfl;clear f20 f21 f30 g0 g1 g2;generalize(((W.setCell ⟨w.heap.size+1+1,0,M⟩ (J I 0)).setCell ⟨w.heap.size+1+1,1,M⟩ (J I 0)).setCell ⟨w.heap.size+1+1+1,0,M⟩ (aG false))=W9 at*;have hZ:=grownBy_putObj' W9 D (.deferred M);have sC:∀r,ad D=ad r->∃o:Obj,W9.heap[r]?=ad o/\o.isCells=false:=λr e=>by cases e;exact⟨_,yK,rfl⟩
 have v3:=jd (β:=Unit) _ _ (λ_=>#[J I 0,J I 0]) () _ _ _ y3 hZ sC;have v4:=jd (β:=Unit) _ _ (λ_=>#[aG false]) () _ _ _ y4 hZ sC;have g0:=v3.cell 0;have g1:=v3.cell 1;have g2:=v4.cell 0;simp at g0 g1 g2;refine⟨av,.inl ⟨_,_,rfl,run_takeDeferred yK,?_⟩⟩;refine⟨bn #[aY #[J I 0,J I 0],aG false],by simp[bz,results234,go_sem,g0,g1,g2],by rw[HR.A];rfl,?_⟩;exact aF.of (y5.grown hZ y5.size (λk e=>by cases e;have:=sD.size;omega));):P:=h
theorem Xw (h:P:=by
 intro W l o o' hl ho hc _;have hg:=grownBy_putObj' W l o';refine⟨(bk _ W).grown hg (aj sD.size ((lJ.1 ho).1)) (λk e=>by cases e;have:=sD.size;omega),λZ=>?_⟩;exact jd (β:=Unit) Bs 110 (λ_=>#[O ao c.length cap]) () W _ (ad l) Z hg (λr e=>by cases e;exact⟨o,ho,hc⟩);):P:=h
theorem Xx (h:P:=by
 intro x a' X Y agY row hs hg hr;obtain⟨Bx,h1,h2,h3⟩:=hs;exact⟨Bx,h1,jd (β:=Unit) Bx 65 (λ_=>#[J I x.1.1,J I x.1.2]) () Y agY row h2 hg (λr e=>(hr r e).2),h3⟩;):P:=h
def agZ {s:List dC} (t a:Int) (w:aB) (Fq:-9223372036854775808<=t/\t<=9007199254740992) (h:Vs ja w B v s):aN aH 234 #[v,J I t,J I a] w λe w'=>e=aQ (bn #[aY #[J I ((AQ s t a).getD (0,0)).1,J I ((AQ s t a).getD (0,0)).2],aG (AQ s t a).isSome])/\aF w w':=by
 have HC:=E (Qc w h);have HV:=E (Xo h);have HE:=E (show AQ s t a=atR t a (pw s).reverse from rfl);have HS:=E (Px s);have Xy:=E (λb (Z:aS w.heap.size w b)=>Qc b (h.al Z));generalize AQ s t a=r at HE⊢;generalize(if km s=true then v else O M 0 0)=u at*;generalize pw s=c at*;obtain⟨A0,c0,rfl,_⟩:=h.len_;obtain⟨ao,cap,rfl,hR,ij,y7⟩:=HV.A.be;have HR:=E hR;clear h hR HV HC;refine(callsIn_wide (n:=3)).1 ?_;refine callsIn_of_wp_marks func234 rfl trivial ?_ rfl;simp only[ntmps234,lM,pY,nF,Nat.reduceAdd,Nat.reduceSub,Array.replicate_succ,Array.replicate_zero,List.push_toArray,List.append_toArray,List.nil_append,List.cons_append];have R:aS w.heap.size w ((((w.alloc (aD #[J I t] 3)).alloc (aD #[J I a] 3)).alloc (aD #[J I 0,J I 0] 65)).alloc (aD #[aG false] 4)):=(((((aF.refl w).alloc _).alloc _).alloc _).alloc _).aC;gi_wp2_with (refine⟨trivial,?_⟩;gi_at_call 141;refine(callsIn_wide.2 (Xy.A _ R)).mono ?_;rintro e b⟨rfl,aW⟩);refine⟨trivial,?_⟩;refine(callsIn_wide.2 (Xr ao c.length cap b)).mono ?_;rintro e w'⟨rfl,rfl⟩;gi_wp2;have m:=aW.aC;have vt:w.heap.size+4<=b.heap.size:=by have:=m.size;simp at this;omega
 have q0:aI (b.alloc (aD #[O ao c.length cap] 110)) w.heap.size 3 #[J I t]:=(((((aI.new w 3 #[J I t]).alloc (aD #[J I a] 3)).alloc (aD #[J I 0,J I 0] 65)).alloc (aD #[aG false] 4)).al m aw).alloc _;have q1:aI (b.alloc (aD #[O ao c.length cap] 110)) (w.heap.size+1) 3 #[J I a]:=by
  have:=((((aI.new (w.alloc (aD #[J I t] 3)) 3 #[J I a]).alloc (aD #[J I 0,J I 0] 65)).alloc (aD #[aG false] 4)).al m av).alloc (aD #[O ao c.length cap] 110);simpa using this
 have q2:aI (b.alloc (aD #[O ao c.length cap] 110)) (w.heap.size+1+1) 65 #[J I 0,J I 0]:=by
  have:=(((aI.new ((w.alloc (aD #[J I t] 3)).alloc (aD #[J I a] 3)) 65 #[J I 0,J I 0]).alloc (aD #[aG false] 4)).al m av).alloc (aD #[O ao c.length cap] 110);simpa using this
 have q3:aI (b.alloc (aD #[O ao c.length cap] 110)) (w.heap.size+1+1+1) 4 #[aG false]:=by
  have:=((aI.new (((w.alloc (aD #[J I t] 3)).alloc (aD #[J I a] 3)).alloc (aD #[J I 0,J I 0] 65)) 4 #[aG false]).al m av).alloc (aD #[O ao c.length cap] 110);simpa using this
 have q4:aI (b.alloc (aD #[O ao c.length cap] 110)) b.heap.size 110 #[O ao c.length cap]:=aI.new _ _ _;have sD:aS w.heap.size w (b.alloc (aD #[O ao c.length cap] 110)):=((aF.of (R.trans (m.mono aw))).alloc _).aC;have Qh:(b.alloc (aD #[O ao c.length cap] 110)).heap.size=b.heap.size+1:=av;generalize b.heap.size=Bs at*;generalize b.alloc (aD #[O ao c.length cap] 110)=W0 at*;clear R m aW Xy;obtain⟨sl,Q⟩:=Qf λx hx=>((Ip.1 HS.A).2.1 x hx).1;refine wpIn_rangeFunc_ownH rfl an (gf:=184) (lb:=#[bl (ad (ab Bs 0 M))]) rfl trivial (enters_of func184 ar rfl) (Xs (λx:xd=>x.1) sl _ _ trivial rfl an Bs w.heap.size B ao cap c Q w W0 HR.A ij y7 rfl sD q4 (λW W'=>aS w.heap.size W W'/\(aI W Bs 110 #[O ao c.length cap]->aI W' Bs 110 #[O ao c.length cap])) (λ_ _ h=>h)) (λh k=>⟨h.1.trans k.1,λx=>k.2 (h.2 x)⟩) ?hKb (bk _ _) (λ_=>rfl) (λ(pre:List xd) W=>(((((LU t (cd pre))/\aI W w.heap.size 3 #[J I t])/\aI W (w.heap.size+1) 3 #[J I a])/\aI W (w.heap.size+1+1) 65 #[J I 0,J I 0])/\aI W (w.heap.size+1+1+1) 4 #[aG false])/\aS w.heap.size w W) (λH (pre:List xd) W=>LV w t a H (cd pre) W) ?hI ?hIx ?h0 (λx a' W=>∃Bx,w.heap.size+3<Bx/\aI W Bx 65 #[J I x.1.1,J I x.1.2]/\a'={tmps:=#[O A0 s.length c0,J I t,J I a,cu,bl (ad (ab w.heap.size 0 M)),bl (ad ⟨w.heap.size+1,0,M⟩),bl (ad ⟨w.heap.size+1+1,0,M⟩),bl (ad ⟨w.heap.size+1+1+1,0,M⟩),bl (ad (ab Bx 0 M)),O A0 s.length c0,O ao c.length cap,.func (.func 184) #[] #[bl (ad (ab Bs 0 M))],aY #[J I x.1.1,J I x.1.2],cu,cu,cu,cu,cu,cu,cu,cu,cu,cu,cu,cu],defers:=[]}) ?hAx ?assign ?body ?done ?stop;case hKb=>
  exact Xw
 case hI=>exact OwnFrom.and (Own.from (Own.nR (Own.nR (Own.nR (Own.nR (Fm λpre:List xd=>LU t (cd pre)) (jd _ _ λ_=>#[J I t])) (jd _ _ λ_=>#[J I a])) (jd _ _ λ_=>#[J I 0,J I 0])) (jd _ _ λ_=>#[aG false])) _) (ownFrom_below (aO _) sD.size)
 case hIx=>exactλH=>OwnFrom.comp (LV.own w t a _ sD.size H) cd
 case h0=>exact⟨⟨⟨⟨⟨(show LU t (cd []) fromλy g=>absurd g (by simp[cd])),q0⟩,q1⟩,q2⟩,q3⟩,sD⟩
 case hAx=>
  exact Xx
 case assign=>
  rintro l pre x W K⟨⟨⟨⟨⟨j,G⟩,F⟩,d⟩,f⟩,i⟩ hK;gi_wp2;refine hK _ _ ((KeepsOthers.alloc _ _).from _) ⟨(bk _ W).alloc i.size _,λh=>h.alloc _⟩ ⟨⟨⟨⟨⟨j,G.alloc _⟩,F.alloc _⟩,d.alloc _⟩,f.alloc _⟩,i.alloc i.size _⟩ ⟨W.heap.size,ai f.lt,aI.new _ _ _,rfl⟩
 case body=>
  rintro l pre⟨⟨T,V⟩,q⟩ a' W hl⟨r,hr⟩⟨⟨⟨⟨⟨j,G⟩,F⟩,d⟩,f⟩,i⟩⟨Bx,aJ,oK,rfl⟩ aK;have Xz:cd (pre++[⟨(T,V),q⟩])=cd pre++[(T,V)]:=by simp[cd]
  have N:=E Xz;clear Xz;have Qi:0<=T:=by simp[dT] at q;exact q.1
  have iq:=E j;clear j;have c1:=G.cell 0;have c2:=F.cell 0;have x0:=oK.cell;have f20:=d.frozen 0;have f21:=d.frozen 1;have f30:=f.frozen 0;have g0:=d.cell 0;have g1:=d.cell 1;have g2:=f.cell 0;simp at g0 g1 g2;by_cases h1:t<T
  ·have d1:decide (t<T)=true:=decide_eq_true h1;have HN:=E (show LU t (cd (pre++[⟨(T,V),q⟩])) by
    rw[N.A];intro y g;rcases kf.1 g with g|g
    ·exact iq.A y g
    ·rw[bD] at g;subst g;exact h1)
   clear h1;gi_wp2;exact⟨KeepsFrom.refl _ _,⟨bk _ _,id⟩,⟨⟨⟨⟨HN.A,G⟩,F⟩,d⟩,f⟩,i⟩
  ·have d1:decide (t<T)=false:=decide_eq_false h1;have XA:=E (show Fp t (cd (pre++[⟨(T,V),q⟩])) by
    rw[N.A];refine⟨av,by rw[List.dropLast_concat];exact iq.A,?_⟩;rw[show(cd pre++[(T,V)]).getLastD (0,0)=(T,V) by simp];show T<=t;omega)
   have S:=E (show(cd (pre++[⟨(T,V),q⟩])).getLastD (0,0)=(T,V) by rw[N.A];simp);have yN:I.wrap (t-T)=t-T:=ay;by_cases h2:t-T<a
   ·have d2:decide (t-T<a)=true:=decide_eq_true h2;have U:=E h2;clear h1 h2;gi_wp2;refine⟨((yB _ _ _).trans (yB _ _ _)).trans (yB _ _ _)|>.from _,?_⟩;refine⟨⟨⟨⟨XA.A,by rw[S.A];exact U.A⟩,?_⟩,?_⟩,?_⟩
    ·rw[S.A];exact((d.put 0 _).put 1 _).bT aqo _
    ·exact((f.bT aqh _).bT aqh _).put 0 _
    ·exact((i.setCell aqf _).setCell aqf _).setCell aqi _
   ·have d2:decide (t-T<a)=false:=decide_eq_false h2;have U:=E h2;clear h1 h2;gi_wp2;exact⟨KeepsFrom.refl _ _,⟨⟨⟨⟨XA.A,by rw[S.A];have:=U.A;show¬t-T<a;omega⟩,d⟩,f⟩,i⟩⟩
 case done=>
  rintro D xs W hD rfl⟨⟨⟨⟨⟨j,G⟩,F⟩,x3⟩,x4⟩,Dy⟩ hK;have HR:=E (show r=M by
   rw[HE.A,<-Q,<-List.map_reverse];exact Xu j)
  clear j;exact Xv
 case stop=>
  rintro D H pre W hD⟨k,hk⟩ L hK;have vw:c.reverse=cd pre++cd (sl.reverse.drop k):=by
   rw[<-Q,<-List.map_reverse,hk];unfold cd;rw[<-lK,List.take_append_drop]
  have eD:=E (show r=atR t a (cd pre++cd (sl.reverse.drop k)) by rw[HE.A,vw]);clear vw;match H,L with
  |.ret,L=>
   obtain⟨⟨⟨⟨C,x2⟩,x3⟩,x4⟩,Dy⟩:=L;have HR:=E (show r=ad ((cd pre).getLastD (0,0)) by rw[eD.A,Qg C,if_pos x2]);clear C x2;generalize(cd pre).getLastD (0,0)=z at*;gi_wp2;obtain⟨W9,Fs⟩:=aP W;subst Fs;have y3:=x3;have y4:=x4;have y5:=Dy;have yK:=hK;have hZ:=grownBy_putObj' W D (.deferred M);have sC:∀r,ad D=ad r->∃o:Obj,W.heap[r]?=ad o/\o.isCells=false:=λr e=>by cases e;exact⟨_,yK,rfl⟩
   have v3:=jd (β:=Unit) _ _ (λ_=>#[J I z.1,J I z.2]) () _ _ _ y3 hZ sC;have v4:=jd (β:=Unit) _ _ (λ_=>#[aG true]) () _ _ _ y4 hZ sC;have g0:=v3.cell 0;have g1:=v3.cell 1;have g2:=v4.cell 0;simp at g0 g1 g2;refine⟨av,.inl ⟨_,_,rfl,run_takeDeferred yK,?_⟩⟩;refine⟨bn #[aY #[J I z.1,J I z.2],aG true],by simp[bz,results234,go_sem,g0,g1,g2],by rw[HR.A];rfl,?_⟩;exact aF.of (y5.grown hZ y5.size (λk e=>by cases e;have:=sD.size;omega))
  |.exit 0,L=>
   obtain⟨⟨⟨⟨C,x2⟩,x3⟩,x4⟩,Dy⟩:=L;have HR:=E (show r=M by rw[eD.A,Qg C,if_neg x2]);clear C x2;exact Xv
end
variable {us:List aE}
section
open Go.Shelf
open im (dT)
attribute [local go_sem] Oper.semAt_some
def XB:(aH.info? 65).map (λi=>(i.zero,i.size,i.bytes))=ad (ad (aY #[J I 0,J I 0]),2,16):=ar
def XC:ja.e∉ja.bI:=aq
def ag0 {l:List (Int×Int)} (w:aB) (hB:B<=w.heap.size) (h:Vs ja w B v l) (hs:l.length*16<=140737488355328):aN aH 143 #[v] w λe w'=>(∃d,e=aQ d/\Ow ja w' B w.heap.size d l)/\aF w w':=by
 obtain⟨ao,n,cap,rfl,c,_⟩:=h.A;clear h;have u:∀w,(binOp .eql 110 (O ao n cap) (O M 0 0)).run aH w= .ok (aG ao.isNone) w:=λw=>by
  simp only[binOp];simp[run_equal_slice_nil w 110 65 ao n cap underlying110]
 have k:=c.len;cases ao with
 |none=>
  have o:l=[]:=by
   obtain⟨us,b,f⟩:=c.A;rcases kJ n with h|h
   ·exact Dt
   ·obtain⟨_,_,e,_⟩:=f (Nat.mul_pos h ja.pos);cases e
  subst o;clear c;go_enter func143,ntmps143;exact Ba
 |some a=>
  have HO:=E (Ow.AO (D:=ja) (base:=w.heap.size) w B (aO _));have HB:=E ((aF.refl w).alloc (aD #[] 65));have m:=E (show∃us,Rs ja (w.alloc (aD #[] 65)) B l us/\Sl (w.alloc (aD #[] 65)) (w.heap.size+1) (ad a) (n*ja.k) (λi=>us.getD i (aG false)) by
   have p:=c.al ((bk _ _).alloc (aO _) (aD #[] 65));obtain⟨us,b,f⟩:=p.A;have:=f.sink;rw[eO] at this;exact⟨us,b,this⟩)
  obtain⟨us,b,j⟩:=m.A;have s:=E b;have t:=E j;have g:=E (show([]:List (Int×Int)).length+n<=bK/\(([]:List (Int×Int)).length+n)*16<=140737488355328/\w.heap.size<=(w.alloc (aD #[] 65)).heap.size from⟨aqy,aqJ,av⟩);have q:=E k;have r:=E hB;clear b j m c hs k hB;go_enter func143,ntmps143;go_wp2_with ((refine mZ ja au (.tmp 5) (.tmp 6) 110 au w.heap.size 16 _ ar XB au B _ [] au HO.A (ad a) n cap l us au s.A q.A (w.heap.size+1) t.A g.A.1 g.A.2.1 g.A.2.2 r.A XC ?_;intro d w' bC bG x));exact Ds
def aI.src (h:aI W g t us.toArray) (hn:n=us.length):Sl W (g+1) (ad (ab g 0 M)) n (λi=>us.getD i (aG false)):=λ_=>by
 refine⟨g,0,rfl,an,λi hi=>?_⟩;rw[ig,h.cell];simp only[dd];rw[cR (by omega:i<us.length)];simp[hn▸hi]
def LW (w:aB) (T V:Int) (sv:aE):Code->List dC->aB->Prop
 |.ret,pre,W=>(((pre≠[]/\T<=(pre.headD (0,0)).1)/\aI W (w.heap.size+1+1) 110 #[sv])/\aI W (w.heap.size+1+1+1) 79 #[J I 9])/\aS w.heap.size w W
 |.exit 0,pre,W=>(((((pre≠[]/\(pre.headD (0,0)).1<T)/\aI W w.heap.size 110 #[sv])/\aI W (w.heap.size+1) 65 #[J I T,J I V])/\aI W (w.heap.size+1+1) 110 #[O M 0 0])/\aI W (w.heap.size+1+1+1) 79 #[J I 0])/\aS w.heap.size w W
 |_,_,_=>False
def LW.own (w:aB) (T V:Int) (sv:aE) (D:Nat) (a:w.heap.size<=D) (c:Code):OwnFrom D (LW w T V sv c):=by
 cases c with
 |ret=>exact OwnFrom.and (Own.from (Own.nR (Own.nR (Fm λpre:List dC=>pre≠[]/\T<=(pre.headD (0,0)).1) (jd _ _ λ_=>#[sv])) (jd _ _ λ_=>#[J I 9])) _) (ownFrom_below (aO _) a)
 |exit k=>
  cases k with
  |zero=>exact OwnFrom.and (Own.from (Own.nR (Own.nR (Own.nR (Own.nR (Fm λpre:List dC=>pre≠[]/\(pre.headD (0,0)).1<T) (jd _ _ λ_=>#[sv])) (jd _ _ λ_=>#[J I T,J I V])) (jd _ _ λ_=>#[O M 0 0])) (jd _ _ λ_=>#[J I 0])) _) (ownFrom_below (aO _) a)
  |succ k=>exactλ_ _ _ _ h _ _=>h
 |_=>exactλ_ _ _ _ h _ _=>h
theorem XD (h:P:=by
 gi_wp2;have y2:=(q2.put 0 (O ao c.length cap)).bT (p:=⟨w.heap.size+1+1+1,0,M⟩) aqo (J I 2);have y3:=(q3.bT (p:=⟨w.heap.size+1+1,0,M⟩) aqh (O ao c.length cap)).put 0 (J I 2);have XE:=(LX.setCell (p:=⟨w.heap.size+1+1,0,M⟩) aqf (O ao c.length cap)).setCell (p:=⟨w.heap.size+1+1+1,0,M⟩) aqi (J I 2);generalize(w2.setCell ⟨w.heap.size+1+1,0,M⟩ (O ao c.length cap)).setCell ⟨w.heap.size+1+1+1,0,M⟩ (J I 2)=W9 at*;have z2:=y2.cell 0;have z3:=y3.cell 0;simp at z2 z3;refine⟨bn #[O ao c.length cap,J I 2],by simp[bz,results105,go_sem,z2,z3],?_,XE⟩;rw[ff.A];exact⟨_,_,aq,rfl,_,HV.A.al XE.aC⟩;):P:=h
theorem XF (h:P:=by
 have XG:=E (λ(q:ba W1)=>ag0 (v:=Qj) (l:=c1) (B:=B) q.aL (a8 hB (a8 y5.size q.r.size)) (ln.A.al (y5.trans (q.aC.mono y5.size))) (ai Ft.A));have z0:∀q:ba W1,q.aL.cell? (ab w.heap.size 0 M)=ad Qj:=ba.cells y1 0;have LY:∀q:ba W1,q.aL.cell? ⟨w.heap.size+1,0,M⟩=ad (J I T):=ba.cells y2 0;have Bf:∀q:ba W1,q.aL.cell? ⟨w.heap.size+1,1,M⟩=ad (J I V):=ba.cells y2 1;have ao6:=E (show w.heap.size+4<=W1.heap.size from by have:=y4.lt;omega);have XH:=E y3;have XI:=E y4;have Qk:=E y5;clear Fu g10 g11 g20 II Ql f20 f30 y3 y4 y5;refine wpIn_wide.2 (Ix ?_);refine du [.q 0,.q 2,.two 1 3] [4,5,6] ?_;refine dY ?_;refine S4.two (ad 35) (ad 37) (λv u W=>aF W1 W/\Ow ja W B W1.heap.size v c1/\∃g,u=O (ad (ab g 0 M)) 1 1/\aI W g 65 #[J I T,J I V]) (λ_ _=>rfl) ?_ ?_ ?_
 ·skip;refine wY.dm ?_;rintro _⟨pt,rfl⟩ KK aJ;go_simp;have hp:=pt.r;refine(XG.A pt).mono ?_;rintro e w1⟨⟨v',rfl,ho⟩,Z⟩;refine aJ _ _ Z ⟨_,rfl,?_⟩;clear aJ KK;replace hp:=hp.trans Z;replace ho:=ho.less pt.r.size;refine wY.dm ?_;rintro _⟨pt,rfl⟩ KK aJ;go_simp;refine aJ _ _ ((aF.refl _).alloc _) ⟨_,rfl,(hp.trans pt.r).alloc _,(ho.al pt.aC).alloc _,_,rfl,aI.new _ _ _⟩
 ·skip;refine wY.dm ?_;rintro _⟨pt,rfl⟩ KK aJ;go_simp;refine aJ _ _ ((aF.refl _).alloc _) ⟨_,rfl,?_⟩;clear aJ KK;have hp:=pt.r.alloc (aD #[J I T,J I V] 65);have cq:=aI.new pt.aL 65 #[J I T,J I V];generalize pt.aL.heap.size=g at*;generalize pt.aL.alloc (aD #[J I T,J I V] 65)=W2 at*;refine wY.dm ?_;rintro _⟨pt,rfl⟩ KK aJ;go_simp;obtain⟨q,Qm⟩:=hp.trans pt.r;rw[Qm];have nP:=hp.trans pt.r;have e4:=cq.al pt.aC cq.lt;rw[Qm] at nP e4;refine(XG.A q).mono ?_;rintro e w1⟨⟨v',rfl,ho⟩,Z⟩;refine aJ _ _ (by rw[Qm];exact Z) ⟨_,rfl,nP.trans Z,ho.less q.r.size,_,rfl,e4.al Z.aC e4.lt⟩
 rintro v u W⟨hW,hO,g,rfl,hG⟩;refine S4.nb λwq hq=>?_;replace hW:=hW.next hq;replace hO:=hO.al hq;replace hG:=hG.al hq hG.lt;have XJ:=aI.src (us:=[J I T,J I V]) (n:=1*ja.k) hG rfl;have ce:=Ft.A;refine E4.dm (λKK aJ=>?_);refine E8 ja au (.tmp 35) (.tmp 37) 110 au W1.heap.size 16 _ ar XB au B v c1 au hO (ad (ab g 0 M)) 1 1 [(T,V)] [J I T,J I V] au (Rs.single (show ja.rel wq B (T,V) [J I T,J I V] from rfl)) rfl (g+1) XJ aqv an hW.size (a8 hB Qk.A.size) XC ?_;intro v' w9 bC bG cx;have sF:=E bC;obtain⟨A9,c9,rfl,_⟩:=bC.shape;clear bC;generalize(c1++[(T,V)]).length=n9 at*;refine aJ _ _ ?_;clear aJ KK;have Fs:=(hW.grown hO (aO _) bG);have x3:=XH.A.al Fs.aC XH.A.lt;have x4:=XI.A.al Fs.aC XI.A.lt;have g20:=x3.cell 0;have II:=x4.cell 0;have f20:=x3.frozen 0;have f30:=x4.frozen 0;clear hq hG XJ hO cx bG ce;have ci:=‹∀(a:bb) (w:aB),Code.wpIn Fence.wide 3 aH Code.ret _ a w->_›;refine dP ?_;refine ci _ _ ?_;clear ci;gi_wp2;have z3:=(x3.put 0 (O A9 n9 c9)).bT (p:=⟨w.heap.size+1+1+1,0,M⟩) aqo (J I 0);have z4:=(x4.bT (p:=⟨w.heap.size+1+1,0,M⟩) aqh (O A9 n9 c9)).put 0 (J I 0);have zB:=((Qk.A.trans (Fs.aC.mono Qk.A.size)).setCell (p:=⟨w.heap.size+1+1,0,M⟩) aqf (O A9 n9 c9)).setCell (p:=⟨w.heap.size+1+1+1,0,M⟩) aqi (J I 0);have LZ:=(sF.A.keep (((Kt.refl B [110,79] w9).setCell (g:=w.heap.size+1+1) (o:=0) an (bp.bO x3) aq (O A9 n9 c9)).setCell (g:=w.heap.size+1+1+1) (o:=0) an (bp.bO (x4.bT (p:=⟨w.heap.size+1+1,0,M⟩) aqh (O A9 n9 c9))) aq (J I 0)) aq aq).vs;have yK:((w9.setCell ⟨w.heap.size+1+1,0,M⟩ (O A9 n9 c9)).setCell ⟨w.heap.size+1+1+1,0,M⟩ (J I 0)).heap[D]?=ad (.deferred (ad [])):=((yB _ _ _).trans (yB _ _ _)).same D _ ((Fs.aC.block D (lJ.1 IJ.A).1).trans IJ.A) rfl;obtain⟨pA,L0⟩:∃x,x=(w9.setCell ⟨w.heap.size+1+1,0,M⟩ (O A9 n9 c9)).setCell ⟨w.heap.size+1+1+1,0,M⟩ (J I 0):=⟨_,rfl⟩;rw[<-L0] at z3 z4 zB LZ yK⊢;clear L0;have hZ:=grownBy_putObj' pA D (.deferred M);have sC:∀r,ad D=ad r->∃o:Obj,pA.heap[r]?=ad o/\o.isCells=false:=λr e=>by cases e;exact⟨_,yK,rfl⟩
 have v3:=jd (β:=Unit) _ _ (λ_=>#[(O A9 n9 c9)]) () _ _ _ z3 hZ sC;have v4:=jd (β:=Unit) _ _ (λ_=>#[J I 0]) () _ _ _ z4 hZ sC;have IK:Kt B [] pA (pA.putObj D (.deferred M)):=⟨hZ.os,hZ.tape,hZ.output,hZ.size,λb Z=>hZ.block b (ai zB.size) (λe=>by cases e;omega),λe b _ ⟨cs,fr,hh⟩=>hZ.block b (lJ.1 hh).1 (λe=>by cases e;rw[yK] at hh;cases hh)⟩;have Qn:aF w (pA.putObj D (.deferred M)):=aF.of (zB.grown hZ zB.size (λk e=>by cases e;omega));have Qo:=LZ.keep IK av av;have g0:=v3.cell 0;have g1:=v4.cell 0;simp at g0 g1;clear hZ sC IK;refine⟨av,.inl ⟨_,_,rfl,run_takeDeferred yK,?_⟩⟩;refine⟨bn #[(O A9 n9 c9),J I 0],by simp[bz,results105,go_sem,g0,g1],?_,Qn⟩;rw[eo.A];exact⟨_,rfl,Qo⟩;):P:=h
theorem XK (h:P:=by
 have Fu:=p1.cell 0;have g10:=p2.cell 0;have g11:=p2.cell 1;have g20:=p3.cell 0;have II:=p4.cell 0;have Ql:=p1.frozen 0;have f20:=p3.frozen 0;have f30:=p4.frozen 0;have XL:=E (show c.length<=64 from(Ip.1 HS.A).1);by_cases jJ:64<=c.length
 ·obtain⟨b,off,hA,il,ft,dS⟩:=HR.A.sm p5 (k:=0) an;subst hA;clear ft dS;have d64:decide ((64:Int)<=(c.length:Int))=true:=decide_eq_true an;gi_wp2;have IJ:=E (((yB W (ab w.heap.size 0 M) (O (ad ⟨b,off+1*2,M⟩) (c.length-1) (cap-1))).same D _ hK rfl));have y1:=p1.put 0 (O (ad ⟨b,off+1*2,M⟩) (c.length-1) (cap-1));have y2:=p2.bT (p:=(ab w.heap.size 0 M)) aqA (O (ad ⟨b,off+1*2,M⟩) (c.length-1) (cap-1));have y3:=p3.bT (p:=(ab w.heap.size 0 M)) (by show w.heap.size+1+1≠w.heap.size;omega) (O (ad ⟨b,off+1*2,M⟩) (c.length-1) (cap-1));have y4:=p4.bT (p:=(ab w.heap.size 0 M)) (by show w.heap.size+1+1+1≠w.heap.size;omega) (O (ad ⟨b,off+1*2,M⟩) (c.length-1) (cap-1));have y5:=p5.setCell (p:=(ab w.heap.size 0 M)) (aO _) (O (ad ⟨b,off+1*2,M⟩) (c.length-1) (cap-1));have ln:=E (show Vs ja w B (O (ad ⟨b,off+1*2,M⟩) (c.length-1) (cap-1)) (c.drop 1) from⟨_,_,_,rfl,HR.A.drop 1,an,an⟩);have Ft:=E (show(c.drop 1).length<=64 from by have:=XL.A;simp;omega);rw[if_pos jJ] at eo;obtain⟨Qj,Dz⟩:∃x,x=O (ad ⟨b,off+1*2,M⟩) (c.length-1) (cap-1):=⟨_,rfl⟩;obtain⟨W1,ko⟩:∃x,x=W.setCell (ab w.heap.size 0 M) (O (ad ⟨b,off+1*2,M⟩) (c.length-1) (cap-1)):=⟨_,rfl⟩;rw[<-ko] at y1 y2 y3 y4 y5 IJ⊢;clear ko;change aI W1 _ _ #[_] at y1;rw[<-Dz] at ln y1;replace Dz:=E Dz;clear d64 jJ;generalize c.drop 1=c1 at*;exact XF
 ·have d64:decide ((64:Int)<=(c.length:Int))=false:=decide_eq_false an;rw[if_neg jJ] at eo;clear jJ;gi_wp2;have ln:=HV;have Ft:=XL;have y1:=p1;have y2:=p2;have y3:=p3;have y4:=p4;have y5:=p5;obtain⟨Qj,Dz⟩:∃x,x=O ao c.length cap:=⟨_,rfl⟩;rw[<-Dz] at ln y1;replace Dz:=E Dz;generalize c=c1 at*;obtain⟨W1,ko⟩:∃x,x=W:=⟨_,rfl⟩;have IJ:=E hK;rw[<-ko] at y1 y2 y3 y4 y5 IJ⊢;clear ko;exact XF
 ):P:=h
def XM {s:List dC} (T V:Int) (w:aB) (hB:B<=w.heap.size) (h:Vs ja w B v s):aN aH 105 #[v,aY #[J I T,J I V]] w λe w'=>sB ja w' B e (yT s (T,V))/\aF w w':=by
 have HV:=E (Xo h);have j:=E (show yT s (T,V)=if(dT T&&j6 V)=false then M else if(decide (pw s≠[])&&decide (T<=sT (pw s) ((pw s).length-1)))=true then M else ad ((if 64<=(pw s).length then(pw s).drop 1 else pw s)++[(T,V)]) from rfl);have HS:=E (Px s);have HC:=E (λw1 (Z:aS w.heap.size w w1)=>Qc w1 (h.al Z));generalize yT s (T,V)=r at j⊢;generalize(if km s=true then v else O M 0 0)=u at*;generalize pw s=c at*;obtain⟨A0,c0,rfl,_⟩:=h.len_;obtain⟨ao,cap,rfl,hR,ij,y7⟩:=HV.A.be;have HR:=E hR;clear h hR;obtain⟨sl,iG⟩:=Qf λx i=>((Ip.1 HS.A).2.1 x i).1;have dh:aF w ((((w.alloc (aD #[O A0 s.length c0] 110)).alloc (aD #[J I T,J I V] 65)).alloc (aD #[O M 0 0] 110)).alloc (aD #[J I 0] 79)):=((((aF.refl w).alloc _).alloc _).alloc _).alloc _;have CC:=E (HC.A _ dh.aC);refine(callsIn_wide (n:=3)).1 ?_;refine callsIn_of_wp_marks func105 rfl trivial ?_ rfl;simp only[ntmps105,lM,pY,nF,Nat.reduceAdd,Nat.reduceSub,Array.replicate_succ,Array.replicate_zero,List.push_toArray,List.append_toArray,List.nil_append,List.cons_append];have d:=(((aI.new w 110 #[O A0 s.length c0]).alloc (aD #[J I T,J I V] 65)).alloc (aD #[O M 0 0] 110)).alloc (aD #[J I 0] 79);have q1:=((aI.new (w.alloc (aD #[O A0 s.length c0] 110)) 65 #[J I T,J I V]).alloc (aD #[O M 0 0] 110)).alloc (aD #[J I 0] 79);have q2:=(aI.new ((w.alloc (aD #[O A0 s.length c0] 110)).alloc (aD #[J I T,J I V] 65)) 110 #[O M 0 0]).alloc (aD #[J I 0] 79);have q3:=aI.new (((w.alloc (aD #[O A0 s.length c0] 110)).alloc (aD #[J I T,J I V] 65)).alloc (aD #[O M 0 0] 110)) 79 #[J I 0];simp only[eO] at q1 q2 q3;have Qp:((((w.alloc (aD #[O A0 s.length c0] 110)).alloc (aD #[J I T,J I V] 65)).alloc (aD #[O M 0 0] 110)).alloc (aD #[J I 0] 79)).heap.size=w.heap.size+4:=av;gi_wp2_with fail;refine⟨trivial,?_⟩;refine(callsIn_wide.2 CC.A).mono ?_;rintro e w1⟨rfl,aW⟩;have il:=aW.aC;replace d:=(d.al il d.lt).put 0 (O ao c.length cap);replace q1:=(q1.al il q1.lt).bT (p:=(ab w.heap.size 0 M)) aqA (O ao c.length cap);replace q2:=(q2.al il q2.lt).bT (p:=(ab w.heap.size 0 M)) (by show w.heap.size+1+1≠w.heap.size;omega) (O ao c.length cap);replace q3:=(q3.al il q3.lt).bT (p:=(ab w.heap.size 0 M)) (by show w.heap.size+1+1+1≠w.heap.size;omega) (O ao c.length cap);have LX:=(dh.trans aW).setCell (p:=(ab w.heap.size 0 M)) (aO _) (O ao c.length cap);have Fu:w1.cell? (ab w.heap.size 0 M)=ad (O A0 s.length c0):=((((aI.new w 110 #[O A0 s.length c0]).alloc (aD #[J I T,J I V] 65)).alloc (aD #[O M 0 0] 110)).alloc (aD #[J I 0] 79)|>.al il aw).cell 0;have Ql:w1.frozen? (ab w.heap.size 0 M)=false:=((((aI.new w 110 #[O A0 s.length c0]).alloc (aD #[J I T,J I V] 65)).alloc (aD #[O M 0 0] 110)).alloc (aD #[J I 0] 79)|>.al il aw).frozen 0;have g10:=q1.cell 0;have g11:=q1.cell 1;have CT:=E (λW=>Qa T W);have CN:=E (λW=>Fl V W);clear il dh aW;have aR:w.heap.size+4<=(w1.setCell (ab w.heap.size 0 M) (O ao c.length cap)).heap.size:=ai q3.lt;gi_wp2_with fail;obtain⟨Wc,Bg⟩:=aP (w1.setCell (ab w.heap.size 0 M) (O ao c.length cap));rw[Bg] at d q1 q2 q3 LX aR⊢;clear Bg g10 g11 Fu Ql;have Fu:=d.cell 0;have g10:=q1.cell 0;have g11:=q1.cell 1;have g20:=q2.cell 0;have II:=q3.cell 0;have f20:=q2.frozen 0;have f30:=q3.frozen 0;simp at Fu;by_cases c1:(dT T&&j6 V)=true;case neg=>
  have ff:=E (show r=M by rw[j.A,Bool.eq_false_iff.2 c1];rfl);generalize dT T=x at*;generalize j6 V=y at*;cases x
  ·refine⟨trivial,?_⟩;refine(callsIn_wide.2 (CT.A _)).mono ?_;rintro e w2⟨rfl,rfl⟩;gi_wp2_with fail;refine⟨trivial,?_⟩;exact XD
  ·obtain rfl:y=false:=by simpa using c1
   clear c1;refine⟨trivial,?_⟩;refine(callsIn_wide.2 (CT.A _)).mono ?_;rintro e w2⟨rfl,rfl⟩;gi_wp2_with fail;refine⟨trivial,?_⟩;refine(callsIn_wide.2 (CN.A _)).mono ?_;rintro e w2⟨rfl,rfl⟩;exact XD
 have i:dT T=true:=by simp at c1;exact c1.1
 have hy:j6 V=true:=by simp at c1;exact c1.2
 rw[if_neg (by rw[c1];simp)] at j;rw[i] at CT;rw[hy] at CN;clear c1 i hy;refine⟨trivial,?_⟩;refine(callsIn_wide.2 (CT.A _)).mono ?_;rintro e w2⟨rfl,rfl⟩;gi_wp2_with fail;refine⟨trivial,?_⟩;refine(callsIn_wide.2 (CN.A _)).mono ?_;rintro e f⟨rfl,rfl⟩;gi_wp2_with fail;refine⟨trivial,?_⟩;refine(callsIn_wide.2 (Xr ao c.length cap f)).mono ?_;rintro e w'⟨rfl,rfl⟩;gi_wp2;have q4:aI (f.alloc (aD #[O ao c.length cap] 110)) f.heap.size 110 #[O ao c.length cap]:=aI.new _ _ _;have sD:=(LX.alloc (aD #[O ao c.length cap] 110)).aC;have Qh:(f.alloc (aD #[O ao c.length cap] 110)).heap.size=f.heap.size+1:=av;replace d:=d.alloc (aD #[O ao c.length cap] 110);replace q1:=q1.alloc (aD #[O ao c.length cap] 110);replace q2:=q2.alloc (aD #[O ao c.length cap] 110);replace q3:=q3.alloc (aD #[O ao c.length cap] 110);generalize f.heap.size=Bs at*;generalize f.alloc (aD #[O ao c.length cap] 110)=W0 at*;clear Fu g10 g11 g20 II f20 f30 LX CT CN CC HC;refine wpIn_rangeFunc_ownH rfl an (gf:=184) (lb:=#[bl (ad (ab Bs 0 M))]) rfl trivial (enters_of func184 ar rfl) (Xs (λx:xd=>x.1) sl _ _ trivial rfl an Bs w.heap.size B ao cap c iG w W0 HR.A ij y7 rfl sD q4 (λW W'=>aS w.heap.size W W'/\(aI W Bs 110 #[O ao c.length cap]->aI W' Bs 110 #[O ao c.length cap])) (λ_ _ h=>h)) (λh k=>⟨h.1.trans k.1,λx=>k.2 (h.2 x)⟩) ?hKb (bk _ _) (λ_=>rfl) (λ(pre:List xd) W=>(((((pre=[])/\aI W w.heap.size 110 #[O ao c.length cap])/\aI W (w.heap.size+1) 65 #[J I T,J I V])/\aI W (w.heap.size+1+1) 110 #[O M 0 0])/\aI W (w.heap.size+1+1+1) 79 #[J I 0])/\aS w.heap.size w W) (λnl (pre:List xd) W=>LW w T V (O ao c.length cap) nl (cd pre) W) ?hI ?hIx ?h0 (λx a' W=>∃Bx,w.heap.size+3<Bx/\aI W Bx 65 #[J I x.1.1,J I x.1.2]/\a'.defers=[]/\∃t7 t8 t9 aM U S R N L H G F C z t,a'.tmps=#[O A0 s.length c0,aY #[J I T,J I V],bl (ad (ab w.heap.size 0 M)),bl (ad ⟨w.heap.size+1,0,M⟩),bl (ad ⟨w.heap.size+1+1,0,M⟩),bl (ad ⟨w.heap.size+1+1+1,0,M⟩),bl (ad (ab Bx 0 M)),t7,t8,t9,aM,U,S,R,N,L,H,G,F,C,z,t,aY #[J I x.1.1,J I x.1.2],cu,cu,cu,cu,cu,cu,cu,cu,cu,cu,cu,cu,cu,cu,cu,cu]) ?hAx ?assign ?body ?done ?stop;case hKb=>
  exact Xw
 case hI=>exact OwnFrom.and (Own.from (Own.nR (Own.nR (Own.nR (Own.nR (Fm λpre:List xd=>pre=[]) (jd _ _ λ_=>#[O ao c.length cap])) (jd _ _ λ_=>#[J I T,J I V])) (jd _ _ λ_=>#[O M 0 0])) (jd _ _ λ_=>#[J I 0])) _) (ownFrom_below (aO _) sD.size)
 case hIx=>exactλnl=>OwnFrom.comp (LW.own w T V _ _ sD.size nl) cd
 case h0=>exact⟨⟨⟨⟨⟨rfl,d⟩,q1⟩,q2⟩,q3⟩,sD⟩
 case hAx=>
  exact Xx
 case assign=>
  rintro l pre x W K⟨⟨⟨⟨⟨p0,p1⟩,p2⟩,p3⟩,p4⟩,p5⟩ hK;gi_wp2;refine hK _ _ ((KeepsOthers.alloc _ _).from _) ⟨(bk _ W).alloc p5.size _,λh=>h.alloc _⟩ ⟨⟨⟨⟨⟨p0,p1.alloc _⟩,p2.alloc _⟩,p3.alloc _⟩,p4.alloc _⟩,p5.alloc p5.size _⟩ ⟨W.heap.size,ai p4.lt,aI.new _ _ _,rfl,_,_,_,_,_,_,_,_,_,_,_,_,_,_,_,rfl⟩
 case body=>
  rintro l pre⟨⟨T2,V2⟩,hT⟩⟨a5,a4⟩ W hl⟨r,hr⟩⟨⟨⟨⟨⟨rfl,p1⟩,p2⟩,p3⟩,p4⟩,p5⟩⟨Bx,a3,oK,rfl,t7,t8,t9,aM,U,S,R,N,L,H,G,F,C,z,t,rfl⟩ aK;have DA:=p1.cell 0;have c1:=p2.cell 0;have c2:=p2.cell 1;have x0:=oK.cell;have f20:=p3.frozen 0;have f30:=p4.frozen 0;have g20:=p3.cell 0;have II:=p4.cell 0;simp at c1;have a2:=E hT;by_cases h1:T<=T2
  ·have d1:decide (T<=T2)=true:=decide_eq_true h1;have HP:=E h1;clear h1;gi_wp2;refine⟨((yB _ _ _).trans (yB _ _ _)).from _,⟨⟨⟨⟨by simp[cd],by simpa[cd] using HP.A⟩,?_⟩,?_⟩,?_⟩⟩
   ·exact(p3.put 0 _).bT aqo _
   ·exact(p4.bT aqh _).put 0 _
   ·exact(p5.setCell aqf _).setCell aqi _
  ·have d1:decide (T<=T2)=false:=decide_eq_false h1;have HP:=E (show T2<T by omega);clear h1;gi_wp2;exact⟨KeepsFrom.refl _ _,⟨⟨⟨⟨⟨⟨by simp[cd],by simpa[cd] using HP.A⟩,p1⟩,p2⟩,p3⟩,p4⟩,p5⟩⟩
 case done=>
  rintro D xs W hD rfl⟨⟨⟨⟨⟨p0,p1⟩,p2⟩,p3⟩,p4⟩,p5⟩ hK;have fW:c=[]:=by
   rw[List.reverse_eq_nil_iff] at p0;rw[<-iG,p0];rfl
  have eo:=E (show r=ad ((if 64<=c.length then c.drop 1 else c)++[(T,V)]) by rw[j.A,fW];rfl);clear p0 fW;exact XK
 case stop=>
  rintro D nl pre W hD⟨k,hk⟩ hX hK;have vw:c.reverse=cd pre++cd (sl.reverse.drop k):=by
   rw[<-iG,<-List.map_reverse,hk];unfold cd;rw[<-lK,List.take_append_drop]
  have HL:=E (λ(h:cd pre≠[])=>show c≠[]/\sT c (c.length-1)=((cd pre).headD (0,0)).1 from by
   obtain⟨x,l,i⟩:=List.exists_cons_of_ne_nil h;rw[i] at vw⊢;have hc:c=(l++cd (sl.reverse.drop k)).reverse++[x]:=by
    rw[<-List.reverse_reverse c,vw];simp
   refine⟨by rw[hc];simp,?_⟩;rw[hc];unfold sT;rw[dd,b2,p8,Nat.add_sub_cancel,List.getElem?_append_right (aO _)];simp)
  clear vw;match nl,hX with
  |.ret,hX=>
   obtain⟨⟨⟨⟨m,x2⟩,x3⟩,x4⟩,Dy⟩:=hX;have eo:=E (show r=M by
    have:=HL.A m;rw[j.A,this.2];rw[if_pos (by rw[b9,decide_eq_true_eq,decide_eq_true_eq];exact⟨this.1,x2⟩)])
   clear m x2;gi_wp2;have z3:=x3;have z4:=x4;have zB:=Dy;have yK:=hK;have LZ:=HV.A.al zB;obtain⟨pA,L0⟩:=aP W;subst L0;have hZ:=grownBy_putObj' W D (.deferred M);have sC:∀r,ad D=ad r->∃o:Obj,W.heap[r]?=ad o/\o.isCells=false:=λr e=>by cases e;exact⟨_,yK,rfl⟩
   have v3:=jd (β:=Unit) _ _ (λ_=>#[(O ao c.length cap)]) () _ _ _ z3 hZ sC;have v4:=jd (β:=Unit) _ _ (λ_=>#[J I 9]) () _ _ _ z4 hZ sC;have IK:Kt B [] W (W.putObj D (.deferred M)):=⟨hZ.os,hZ.tape,hZ.output,hZ.size,λb Z=>hZ.block b (ai zB.size) (λe=>by cases e;omega),λe b _ ⟨cs,fr,hh⟩=>hZ.block b (lJ.1 hh).1 (λe=>by cases e;rw[yK] at hh;cases hh)⟩;have Qn:aF w (W.putObj D (.deferred M)):=aF.of (zB.grown hZ zB.size (λk e=>by cases e;omega));have Qo:=LZ.keep IK av av;have g0:=v3.cell 0;have g1:=v4.cell 0;simp at g0 g1;clear hZ sC IK;refine⟨av,.inl ⟨_,_,rfl,run_takeDeferred yK,?_⟩⟩;refine⟨bn #[(O ao c.length cap),J I 9],by simp[bz,results105,go_sem,g0,g1],?_,Qn⟩;rw[eo.A];exact⟨_,_,aq,rfl,_,Qo⟩
  |.exit 0,hX=>
   obtain⟨⟨⟨⟨⟨⟨m,x2⟩,p1⟩,p2⟩,p3⟩,p4⟩,p5⟩:=hX;have eo:=E (show r=ad ((if 64<=c.length then c.drop 1 else c)++[(T,V)]) by
    have:=HL.A m;rw[j.A,this.2];rw[if_neg (by rw[b9,decide_eq_true_eq,decide_eq_true_eq];rintro⟨_,h⟩;omega)])
   clear m x2;exact XK
end
def XN (w:aB) (h:Vs bE w B v L):aN aH 43 #[v] w λe w'=>e=aQ (aG (qe L))/\aF w w':=by
 have g:=E h;have i:=E (Fi iH w h);have HE:=E (show qe L=((gD L iH).isSome&&bH L) from rfl);obtain⟨A0,c0,rfl,_⟩:=h.len_;clear h;generalize(gD L iH).getD ⟨#[]⟩=u at*;generalize(gD L iH).isSome=x at*;go_enter func43,ntmps43;go_wp2_with fail;refine i.A.ah ?_;rintro e c⟨rfl,Z⟩;have b:=E Z;have f:=E (Iy c (g.A.al Z));clear Z;generalize bH L=y at*;cases x
 ·go_wp2;go_ret;exact⟨cc CV,aF.of b.A⟩
 ·go_wp2_with fail;refine f.A.ah ?_;rintro e j⟨rfl,a⟩;have d:=E ((aF.of b.A).next a);clear a;go_wp2;go_ret;exact⟨cc CV,d.A⟩
def Rw.Fv {l:List cr} (h:Rw dO w B ao n l) (hB:aS w.heap.size w wr) {k:Nat} (a:k<l.length):∃b off A0 c0 A1 c1,ao=ad (ab b off M)/\b<w.heap.size/\wr.cell? ⟨b,off+k*2,M⟩=ad (O A0 (sL l k).length c0)/\wr.cell? ⟨b,off+k*2+1,M⟩=ad (O A1 (sS l k).length c1)/\Vs bE wr B (O A0 (sL l k).length c0) (sL l k)/\Vs ja wr B (O A1 (sS l k).length c1) (sS l k):=by
 obtain⟨b,off,vs,e,Z,d,h2⟩:=h.aL hB a;rw[<-dr a] at d;obtain⟨v0,f,rfl,c,h4⟩:=d;obtain⟨A0,c0,rfl,_⟩:=c.be;obtain⟨A1,c1,rfl,_⟩:=h4.be;exact⟨b,off,A0,c0,A1,c1,e,Z,h2 0 _ rfl,h2 1 _ rfl,c,h4⟩
theorem XO (h:P:=by
 refine du (cU 0 14 []) [] ?_;repeat (
  refine S4.step (λKK aJ=>?_);go_simp;first
   |(refine aJ _ ?_;clear aJ KK)
   |(apply lL;refine⟨λ_=>?_,aJ _ ?_⟩;(with_reducible exact aN.seq (CC.A _));clear aJ KK))
 refine S4.nb λwq hq=>?_;refine dP ?_;go_wp2;replace bL:=E (bL.A.next hq);go_ret;exact⟨cc HS.A.symm,bL.A⟩;):P:=h
theorem XP (h:P:=by
 refine S4.nb λwq hq=>?_;refine dP ?_;go_wp2;go_roundw;case rel=>exact⟨k+1,an,by go_num,HN,bL.A.next hq⟩
 case measure=>exact aA
 ):P:=h
theorem y9 (h:P:=by
 go_wp2;go_ret;exact⟨cc HS.A.symm,bL.A⟩;):P:=h
def Qq {st:List cr} (w:aB) (h:Vs dO w B v st):aN aH 24 #[v] w λe w'=>e=aQ (aG (eY st))/\aF w w':=by
 obtain⟨ao,cap,rfl,A,hn,hc⟩:=h.be;have L:=E A;clear h A;by_cases x:st.length<=32;case neg=>
  have HS:=E (show eY st=false by unfold eY;simp[x]);go_enter func24,ntmps24;go_wp2;go_ret;exact⟨cc HS.A.symm,aF.refl _⟩
 have D:=E (λk (z:k<st.length) (h:AR st k=false)=>(show eY st=false by unfold eY;rw[tV z h,Bool.and_false]));have xb:=E (λ(h:cI st.length (AR st)=true)=>(show eY st=true by unfold eY;rw[h];simp[x]));have U:=E (λk=>(show AR st k=(qe (sL st k)&&!decide (sS st k=[])&&km (sS st k)&&(k==0||decide (cmpL (sL st (k-1)) (sL st k)<0))) from rfl));generalize eY st=r at D xb⊢;go_enter func24,ntmps24;go_wp2;go_loopw [10] (λi wr=>∃k:Nat,k<=st.length/\i=J I k/\a6 (cI k (AR st)=true)/\aF w wr) (λi _=>st.length-(intOf i).toNat);case atStart=>exact⟨0,an,rfl,E rfl,aF.refl _⟩
 case round=>
  obtain⟨k,z,rfl,bj,hB⟩:=hrel;by_cases m:k<st.length
  ·obtain⟨b,off,A0,c0,A1,c1,rfl,cw,ft,dS,g,y⟩:=L.A.Fv hB.aC m;have HK:=E (U.A k);have f:=E (D.A k m);have F:=E (λh=>wW bj.A (P:=AR st) h);have G:=E (hB.alloc (aD #[O A0 (sL st k).length c0,O A1 (sS st k).length c1] 112));have d:=(bk wr.heap.size wr).alloc (aO _) (aD #[O A0 (sL st k).length c0,O A1 (sS st k).length c1] 112);have hq:=aI.new wr 112 #[O A0 (sL st k).length c0,O A1 (sS st k).length c1];have c:=E (XN _ (g.al d));have C:=E (λW (Z:aS _ _ W)=>Xm W ((y.al d).al Z));have s:=E (g.al d);have V:(((sS st k).length:Int)==0)=decide (sS st k=[]):=by
    cases sS st k<;>simp<;>omega
   clear g y d;generalize decide (sS st k=[])=ag1 at*;have aR:=E m;have H:=E hq;clear hq;generalize l:qe (sL st k)=x1 at c HK;cases x1;case false=>
    have HS:=E (show r=false from f.A aqm);go_wp2_with fail;refine c.A.ah ?_;rintro e q⟨rfl,Z⟩;have bL:=E (G.A.trans Z);clear Z;exact y9
   clear l;go_wp2_with fail;refine c.A.ah ?_;rintro e q⟨rfl,Z⟩;have bL:=E (G.A.trans Z);have q1:=H.A.al Z.aC H.A.lt;have n:=E (C.A q Z.aC);have K:=E (s.A.al Z.aC);clear Z c C s;have S:=q1.cell;cases ag1;case true=>
    have HS:=E (show r=false from f.A aqm);exact y9
   generalize km (sS st k)=x2 at*;cases x2;case false=>
    have HS:=E (show r=false from f.A aqm);go_wp2_with fail;refine n.A.ah ?_;rintro e a⟨rfl,Z⟩;replace bL:=E (bL.A.trans Z);clear Z;exact y9
   go_wp2_with fail;refine n.A.ah ?_;rintro e a⟨rfl,Z⟩;replace bL:=E (bL.A.trans Z);have q2:=q1.al Z.aC q1.lt;have X:=E (K.A.al Z.aC);clear Z n K S q1;have Y:∀p:ba a,p.aL.cell? (ab wr.heap.size 0 M)=ad (O A0 (sL st k).length c0):=ba.cells q2 0;go_wp2_with fail;by_cases c3:k=0;case pos=>
    have HN:=E (F.A (by rw[HK.A,c3];rfl));have R:decide (0<k)=false:=aa an;clear c3;refine du (cU 0 14 []) [] ?_;refine dY ?_;exact XP
   obtain⟨j,hj⟩:=aP (k-1);have R:0<k:=an;have N:j<st.length:=an;have eV:I.wrap (j:Int)=(j:Int):=ay;have q7:(k:Int)-1=(j:Int):=an;obtain⟨b',tP,Fw,DA,L5,L6,T,LR,t,_,o,_⟩:=L.A.Fv bL.A.aC N;cases T;have z0:=λp:ba a=>p.cell aqO t;have CC:=E (λp:ba a=>LK p.aL (o.al p.aC) (X.A.al p.aC));rw[hj] at HK;have u:(k==0)=false:=aw;rw[u] at HK;clear hj t u o;by_cases c4:cmpL (sL st j) (sL st k)<0
   ·have HN:=E (F.A (by rw[HK.A,ac c4];rfl));have c5:decide (0<=cmpL (sL st j) (sL st k))=false:=aa an;clear c4 HK;generalize cmpL (sL st j) (sL st k)=tY at*;refine du (cU 0 14 []) [] ?_;repeat (
     refine S4.step (λKK aJ=>?_);go_simp;first
      |(refine aJ _ ?_;clear aJ KK)
      |(apply lL;refine⟨λ_=>?_,aJ _ ?_⟩;(with_reducible exact aN.seq (CC.A _));clear aJ KK))
    exact XP
   ·have HS:=E (show r=false from f.A (by rw[HK.A,aa c4];rfl));have c5:decide (0<=cmpL (sL st j) (sL st k))=true:=ac an;clear c4 HK;generalize cmpL (sL st j) (sL st k)=tY at*;exact XO
  ·obtain rfl:k=st.length:=by omega
   exact Qb
def XQ {s:List cr} (w:aB) (h:Vs dO w B v s):aN aH 103 #[v] w λe w'=>(e=aQ (if eY s=true then v else O M 0 0))/\aF w w':=by
 have a:=E (Qq w h);obtain⟨A0,c0,rfl,_⟩:=h.len_;clear h;generalize eY s=x at*;cases x;all_goals
  go_enter func103,ntmps103;go_wp2_with fail;refine a.A.ah ?_;rintro e c⟨rfl,Z⟩;have b:=E Z;clear Z;go_wp2;go_ret;exact⟨rfl,b.A⟩
def L7 {s:List cr} (h:Vs dO w B v s):Vs dO w B (if eY s=true then v else O M 0 0) (gS s):=by
 unfold gS;split
 ·exact h
 ·exact Vs.bh _ _ _
def ag3 {vs vl:aE} {st:List cr} (w:aB) (hs:Vs dO w B vs st) (d:Vs bE w B' vl L) (i:Nat) (hi:i<st.length) (v:st.length<=32):aN aH 140 #[aY #[vs,vl],J I i] w λe w'=>e=aQ (J I (cmpL L (sL st i)))/\aF w w':=by
 obtain⟨ao,cap,rfl,f,hn,u⟩:=hs.be;have g:=d;obtain⟨A2,c2,rfl,_⟩:=d.be;clear d hs;obtain⟨b,off,A0,c0,A1,c1,rfl,m,j,_,l,_⟩:=f.Fv (bk _ w) hi;have n:=E ((aF.refl w).alloc (aD #[O (ad (ab b off M)) st.length cap,O A2 L.length c2] 233));have c:=(bk w.heap.size w).alloc (aO _) (aD #[O (ad (ab b off M)) st.length cap,O A2 L.length c2] 233);have a:=aI.new w 233 #[O (ad (ab b off M)) st.length cap,O A2 L.length c2];have o:=E (λp:ba (w.alloc (aD #[O (ad (ab b off M)) st.length cap,O A2 L.length c2] 233))=>LK p.aL ((g.al c).al p.aC) ((l.al c).al p.aC));have s:∀p:ba (w.alloc (aD #[O (ad (ab b off M)) st.length cap,O A2 L.length c2] 233)),p.aL.cell? (ab w.heap.size 0 M)=ad (O (ad (ab b off M)) st.length cap):=ba.cells a 0;have r:∀p:ba (w.alloc (aD #[O (ad (ab b off M)) st.length cap,O A2 L.length c2] 233)),p.aL.cell? (ab w.heap.size 1 M)=ad (O A2 L.length c2):=ba.cells a 1;have q:=λp:ba (w.alloc (aD #[O (ad (ab b off M)) st.length cap,O A2 L.length c2] 233))=>p.cell (by show b<_;simp;omega) (c.cell (p:=⟨b,off+i*2,M⟩) m|>.trans j);clear j l f g c a;generalize cmpL L (sL st i)=tY at*;go_enter func140,ntmps140;go_wp2_with fail;refine du (cU 0 10 []) [] ?_;repeat (
  refine S4.step (λKK aJ=>?_);go_simp;first
   |(refine aJ _ ?_;clear aJ KK)
   |(apply lL;refine⟨λ_=>?_,aJ _ ?_⟩;(with_reducible exact aN.seq (o.A _));clear aJ KK))
 refine S4.nb λt a=>?_;refine dP ?_;go_wp2;go_ret;exact⟨rfl,n.A.next a⟩
theorem XR (h:P:=by
 go_wp2_with fail;refine Fx.A.ah ?_;rintro e w1⟨rfl,Z⟩;have HB:=E (hB.trans Z);clear Z;go_wp2;go_roundw;case rel=>exact⟨lo,h,h1,qg.A,an,rfl,rfl,HB.A⟩
 case measure=>exact aA
 ):P:=h
theorem XS (h:P:=by
 go_wp2_with fail;refine Fx.A.ah ?_;rintro e w1⟨rfl,Z⟩;have HB:=E (hB.trans Z);clear Z;go_wp2;go_roundw;case rel=>exact⟨h+1,hi,qg.A,h2,h3,rfl,rfl,HB.A⟩
 case measure=>exact aA
 ):P:=h
theorem XT (h:P:=by
 go_wp2_with fail;refine Fx.A.ah ?_;rintro e w1⟨rfl,Z⟩;have HB:=E (hB.trans Z);clear Z;go_wp2;go_ret2;exact⟨by rw[d4.A,Bool.true_and,hy.A];rfl,HB.A⟩;):P:=h
def ag4 (a:aE) (n c:Nat) (f:Nat->Int) (w:aB) (hn:n<=64) (p:c<=n) (hcut:∀i,i<n->(0<f i↔i<c)) (k:∀W,aF w W->∀i:Nat,i<n->aN aH 140 #[a,J I i] W λe w'=>e=aQ (J I (f i))/\aF W w'):aN aH 139 #[J I n,.func (.func 140) #[a] #[]] w λe w'=>e=aQ (bn #[J I c,aG (decide (c<n)&&decide (f c=0))])/\aF w w':=by
 have m:=E k;have s:=E hcut;clear k hcut;go_enter func139,ntmps139;go_wp2;go_loopw [4,6] (λi j wr=>∃lo hi:Nat,lo<=c/\c<=hi/\hi<=n/\i=J I lo/\j=J I hi/\aF w wr) (λi j _=>(intOf j).toNat-(intOf i).toNat);case atStart=>exact⟨0,n,an,p,aO _,rfl,rfl,aF.refl _⟩
 case round=>
  obtain⟨lo,hi,h1,h2,h3,rfl,rfl,hB⟩:=hrel;by_cases v:lo<hi
  ·obtain⟨h,t⟩:=aP ((lo+hi)/2:Nat);have o:((lo:Int)+(hi:Int))/2=(h:Int):=an;have l:h<n:=an;have Fx:=E (m.A wr hB h l);have g:=E (s.A h l);have x:I.wrap ((h:Int)+1)=((h+1:Nat):Int):=ay;by_cases d:0<f h
   ·have d1:decide (0<f h)=true:=ac d;have qg:=E (g.A.1 d);clear d;exact XS
   ·have d1:decide (0<f h)=false:=aa d;have qg:=E (show c<=h from by have:=g.A.2;omega);clear d;exact XR
  ·obtain rfl:lo=c:=by omega
   by_cases b:lo<n
   ·have Fx:=E (m.A wr hB lo b);have r:decide ((lo:Int)<(n:Int))=true:=ac an;obtain⟨y,hy⟩:=aP (decide (f lo=0));have u:(f lo==0)=y:=hy;have d4:=E (ac b);have q:decide (lo<n)=true:=ac b;replace hy:=E hy;clear b;exact XT
   ·have r:decide ((lo:Int)<(n:Int))=false:=aa an;have d4:=E (aa b);have q:decide (lo<n)=false:=aa b;clear b;go_wp2;go_ret2;exact⟨by rw[d4.A,Bool.false_and];rfl,hB⟩
def XV (a:bH L=true) (h2:bH aU=true):cmpL L aU=fu L aU:=by unfold cmpL;rw[nO a,nO h2]
def ag5 {st:List cr} (hs:eY st=true) {L:aZ} (b:bH L=true):∀i,i<st.length->(0<cmpL L (sL st i)↔i<ahead L st):=by
 intro i hi;have a:=vm.1 hs;have h0:sL st i=st[i].L:=by unfold sL;rw[dr hi]
 rw[XV b (by rw[h0];exact Pz (a.2.1 _ (dl hi)).1),h0,lg.gt];constructor
 ·intro h;rcases gy i (ahead L st) with k|k
  ·exact k
  ·rcases gy (ahead L st) i with k2|k2
   ·have:=Wq (l:=L) a.2.2 hi k2;omega
   ·obtain rfl:i=ahead L st:=by omega
    exact ae h (PB hi)
 ·intro h;have:=Wo (l:=L) (st:=st) st[i] (by
   rw[List.mem_take_iff_getElem];exact⟨i,an,rfl⟩)
  exact this
def ag6 {st:List cr} (hs:eY st=true) {L:aZ} (b:bH L=true):(decide (ahead L st<st.length)&&decide (cmpL L (sL st (ahead L st))=0))=sq L st:=by
 unfold sq;by_cases h:ahead L st<st.length
 ·have a:=vm.1 hs;have h0:sL st (ahead L st)=st[ahead L st].L:=by unfold sL;rw[dr h]
  rw[ac h,Bool.true_and,Bool.true_and,XV b (by rw[h0];exact Pz (a.2.1 _ (dl h)).1)];congr 1;exact propext (lg.aeM.trans eq_comm)
 ·rw[aa h];rfl
def ag7 {vl:aE} {st:List cr} (w:aB) (hB:B<=w.heap.size) (hs:Vs dO w B v st) (f:Vs bE w B' vl L) (a:eY st=true) (g:bH L=true):aN aH 104 #[v,vl] w λe w'=>e=aQ (bn #[J I (ahead L st),aG (sq L st)])/\aF w w':=by
 have j:=(vm.1 a).1;have m:=E (λd (Z:aS w.heap.size w d)=>ag4 (aY #[v,vl]) st.length (ahead L st) (λi=>cmpL L (sL st i)) d an (PA _ _) (ag5 a g) (λW k i hi=>ag3 W ((hs.al Z).al k.aC) ((f.al Z).al k.aC) i hi j));have l:=E (ag6 a g);clear a g j;obtain⟨ao,cap,rfl,_⟩:=hs.be;obtain⟨A2,c2,rfl,_⟩:=f.be;clear hs f;generalize ahead L st=c at*;generalize sq L st=t at*;have b:=E ((aF.refl w).alloc (aD #[O ao st.length cap,O A2 L.length c2] 233));go_enter func104,ntmps104;go_wp2_with fail;refine(m.A _ b.A.aC).ah ?_;rintro e d⟨rfl,Z⟩;rw[l.A];replace b:=E (b.A.trans Z);clear Z l m;go_wp2;go_ret2;exact⟨rfl,b.A⟩
variable {T e:bf} {base cap:Nat} {S:List bf} {cur:List aE}
def laid (o:Nat) (cs cur:List aE):List aE:=cur.take o++cs++cur.drop (o+cs.length)
def xf {o:Nat} {cs:List aE} (h:o+cs.length<=cur.length):(laid o cs cur).length=cur.length:=by unfold laid;simp;omega
def ag8 {o m:Nat} {cs:List aE} (h:o+cs.length<=cur.length) (a:m<=o):(laid o cs cur).take m=cur.take m:=by
 unfold laid;rw[mV,List.take_append_of_le_length aw,List.take_take];congr 1;omega
def Qs {o:Nat} {cs:List aE} (h:o+cs.length<=cur.length):(laid o cs cur).take (o+cs.length)=cur.take o++cs:=by
 unfold laid;rw[List.take_append_of_le_length aw,List.take_of_length_le aw]
def XW {c l:List aE} (e:us.length=k) (hi:i<=n) (p:(n+1)*k<=c.length) (a:c.take (n*k)=l):(laid (i*k) us (laid ((i+1)*k) (l.drop (i*k)) c)).take ((n+1)*k)=l.take (i*k)++us++l.drop (i*k):=by
 have g:(i+1)*k=i*k+k:=oA i k;have h2:(n+1)*k=n*k+k:=oA n k;have q:i*k<=n*k:=sa k hi;have d:l.length=n*k:=by rw[<-a];simp;omega
 have s:(l.drop (i*k)).length=n*k-i*k:=by simp[d]
 have j:(i+1)*k+(l.drop (i*k)).length=(n+1)*k:=an;have r:=xf (o:=(i+1)*k) (cs:=l.drop (i*k)) (cur:=c) an;have h4:(laid ((i+1)*k) (l.drop (i*k)) c).take ((n+1)*k)=c.take ((i+1)*k)++l.drop (i*k):=by
  have:=Qs (o:=(i+1)*k) (cs:=l.drop (i*k)) (cur:=c) an;rwa[j] at this
 have f:laid (i*k) us (laid ((i+1)*k) (l.drop (i*k)) c)=c.take (i*k)++us++(laid ((i+1)*k) (l.drop (i*k)) c).drop ((i+1)*k):=by
  conv=>lhs;unfold laid
  have h6:=ag8 (o:=(i+1)*k) (m:=i*k) (cs:=l.drop (i*k)) (cur:=c) an an;unfold laid at h6⊢;rw[h6,e,<-g]
 rw[f,show(n+1)*k=(c.take (i*k)++us).length+(n*k-i*k) by simp;omega,List.take_length_add_append,<-a,List.take_take,show min (i*k) (n*k)=i*k by omega];congr 1;rw[a];have b:=congrArg (List.drop ((i+1)*k)) h4;rw[List.drop_take,List.drop_left' (by rw[tH];omega),show(n+1)*k-(i+1)*k=n*k-i*k by omega] at b;exact b
def XY {c l:List aE} (f:us.length=k) (hi:i<=n) (g:(n+1)*k<=c.length) (a:l.length=n*k) (b:c.take (i*k)=l.take (i*k)):(laid ((i+1)*k) (l.drop (i*k)) (laid (i*k) us c)).take ((n+1)*k)=l.take (i*k)++us++l.drop (i*k):=by
 have m:(i+1)*k=i*k+k:=oA i k;have h2:(n+1)*k=n*k+k:=oA n k;have j:i*k<=n*k:=sa k hi;have q:(l.drop (i*k)).length=n*k-i*k:=by simp[a]
 have e:(i+1)*k+(l.drop (i*k)).length=(n+1)*k:=an;have p:=xf (o:=i*k) (cs:=us) (cur:=c) an;have h4:=Qs (o:=(i+1)*k) (cs:=l.drop (i*k)) (cur:=laid (i*k) us c) an;rw[e] at h4;have d:=Qs (o:=i*k) (cs:=us) (cur:=c) an;rw[h4,show(i+1)*k=i*k+us.length by omega,d,b]
def DB {P:cp} (w:aB) (n sT ty b:bf) (k:Nat) (g o m f:Nat) (a:aX) (l e:Nat) (cur:Array aE) (t:bf) (cs:List aE) (p:P.underlying n=ad (.slice b)) (hs:(P.info? b).map (·.size)=ad k) (hg:w.heap[g]?=ad (aD cur t (0,0))) (hn:cs.length=Nat.min l m*k) (d:∀j v,cs[j]?=ad v->w.cell? (a.add j)=ad v) (u:o+cs.length<=cur.size) (r:∀v∈cs,v.oneCell'=true):(Builtin.copy_ #[n,sT] ty #[O (ad (ab g o M)) m f,O (ad a) l e]).run P w= .ok (goInt (Nat.min l m)) (w.setRow g (laid o cs cur.toList).toArray):=by
 have q:=run_loadCells_list (P:=P) w a cs d;have s:=run_storeCells_at P g o t cs 0 cur w hg (am u) r;cases c:P.info? b with
 |none=>simp[c] at hs
 |some i=>
  have hi:i.size=k:=by simpa[c] using hs
  simp[Builtin.copy_,mf p,Builtin.lenOf,Builtin.firstCells,sizeOf,typeInfo,c,hi,<-hn,q,s,laid]
def run_sizeOf {P:cp} (h:(P.info? e).map (·.size)=ad k):∀w,(Go.sizeOf e).run P w= .ok k w:=λw=>by
 cases a:P.info? e with
 |none=>simp[a] at h
 |some i=>
  have hi:i.size=k:=by simpa[a] using h
  simp[sizeOf,typeInfo,a,hi]
def setRow_other (w:aB) (g b:Nat) (cs:Array aE) (h:b≠g):(w.setRow g cs).heap[b]?=w.heap[b]?:=by
 unfold World.setRow;simp only[yu];rw[af (Ne.symm h)]
def Kt.setRow {a:aB} (h:Kt B S a w) (hg:B<=g) (c:bp w T g) (f:T∈S) (cs:Array aE):Kt B S a (w.setRow g cs):=h.trans ⟨rfl,rfl,rfl,arj,λb Z=>setRow_other _ _ _ _ an,λe b d i=>setRow_other _ _ _ _ (by
 rintro rfl;exact d ((i.q9 c)▸f))⟩
def aF.setRow {a:aB} (h:aF a w) (hg:a.heap.size<=g) (cs:Array aE):aF a (w.setRow g cs):=aF.of (h.aC.trans ⟨rfl,rfl,rfl,arj,λb Z=>setRow_other _ _ _ _ an⟩)
def Ow.Bi {α:Type} {D:Kr α} {l:List α} {cur:Array aE} (a:Rs D w B l us) (Z:base<=g) (hg:w.heap[g]?=ad (aD cur D.e (0,0))) (hn:l.length<=cap) (c:cap<=bK) (hs:cur.size=cap*D.k) (b:cur.toList.take (l.length*D.k)=us):Ow D w B base (O (ad (ab g 0 M)) l.length cap) l:=⟨us,a,a.len,.inr ⟨g,cap,cur,rfl,Z,hg,hn,c,hs,b⟩⟩
def Ow.tZ {α:Type} {D:Kr α} {l:List α} (h:Ow D w B base (O (ad (ab g 0 M)) n cap) l):∃us cur,n=l.length/\Rs D w B l us/\base<=g/\w.heap[g]?=ad (aD cur D.e (0,0))/\l.length<=cap/\cap<=bK/\cur.size=cap*D.k/\cur.toList.take (l.length*D.k)=us:=by
 obtain⟨us,a,ho⟩:=h.A;rcases ho.2 with⟨h1,_⟩|⟨g',ahc,cur,h1,r⟩
 ·cases h1
 ·cases h1;exact⟨us,cur,rfl,a,r⟩
def L8:(aH.info? 112).map (λi=>(i.zero,i.size,i.bytes))=ad (ad (aY #[O M 0 0,O M 0 0]),2,48):=ar
def IQ:dO.e∉dO.bI:=aq
def vy:(aH.info? 112).map (·.size)=ad 2:=ar
def XZ {l:List cr} (w:aB) (hB:B<=w.heap.size) (h:Vs dO w B v l) (hs:l.length*48<=140737488355328):aN aH 106 #[v] w λe w'=>(∃d,e=aQ d/\Ow dO w' B w.heap.size d l)/\aF w w':=by
 obtain⟨ao,n,cap,rfl,c,_⟩:=h.A;clear h;have u:∀w,(binOp .eql 26 (O ao n cap) (O M 0 0)).run aH w= .ok (aG ao.isNone) w:=λw=>by
  simp only[binOp];simp[run_equal_slice_nil w 26 112 ao n cap underlying26]
 have k:=c.len;cases ao with
 |none=>
  have o:l=[]:=by
   obtain⟨us,b,f⟩:=c.A;rcases kJ n with h|h
   ·exact Dt
   ·obtain⟨_,_,e,_⟩:=f (Nat.mul_pos h dO.pos);cases e
  subst o;clear c;go_enter func106,ntmps106;exact Ba
 |some a=>
  have HO:=E (Ow.AO (D:=dO) (base:=w.heap.size) w B (aO _));have HB:=E ((aF.refl w).alloc (aD #[] 112));have m:=E (show∃us,Rs dO (w.alloc (aD #[] 112)) B l us/\Sl (w.alloc (aD #[] 112)) (w.heap.size+1) (ad a) (n*dO.k) (λi=>us.getD i (aG false)) by
   have p:=c.al ((bk _ _).alloc (aO _) (aD #[] 112));obtain⟨us,b,f⟩:=p.A;have:=f.sink;rw[eO] at this;exact⟨us,b,this⟩)
  obtain⟨us,b,j⟩:=m.A;have s:=E b;have t:=E j;have g:=E (show([]:List cr).length+n<=bK/\(([]:List cr).length+n)*48<=140737488355328/\w.heap.size<=(w.alloc (aD #[] 112)).heap.size from⟨aqy,aqJ,av⟩);have q:=E k;have r:=E hB;clear b j m c hs k hB;go_enter func106,ntmps106;go_wp2_with ((refine mZ dO au (.tmp 5) (.tmp 6) 26 au w.heap.size 48 _ ar L8 au B _ [] au HO.A (ad a) n cap l us au s.A q.A (w.heap.size+1) t.A g.A.1 g.A.2.1 g.A.2.2 r.A IQ ?_;intro d w' bC bG x));exact Ds
theorem X0 (h:P:=by
 rw[nH];exact run_firstCells_some w.drew 2 i (ab g 0 M) i cap (vs.take (i*2)) aqM (λj v hj=>by
  rw[Addr.add_lit,ig];rw[List.getElem?_take] at hj;split at hj
  ·rw[<-sH,List.getElem?_take] at hj;split at hj
   ·show w.cell? _=_;simp only[World.cell?,fc];simpa using hj
   ·cases hj
  ·cases hj)
 ):P:=h
theorem X1 (h:P:=by
 intro W hW j v hj;rw[Addr.add_lit,wK hW];rw[List.getElem?_drop,<-sH,List.getElem?_take] at hj;split at hj
 ·simp only[World.cell?,fc];simpa using hj
 ·cases hj
 ):P:=h
theorem X2 (h:P:=by
 rw[Bj,Array.append_assoc,Array.toList_append,List.take_append_of_le_length (by rw[List.toList_toArray];omega),List.toList_toArray,List.take_take,Nat.min_self];):P:=h
theorem X3 (h:P:=by
 have h1:=(lp.keep hW dK).take_drop i;have h2:=(h1.1.append (nS.keep hW dK)).append h1.2;rwa[mV,List.singleton_append] at h2;):P:=h
theorem L9 (h:P:=by
 rw[cutAt,af dh,tG,AN,ig] at h;exact h;):P:=h
def ahd {l:List cr} {x:cr} {a:Nat} (i:Nat) (w:aB) (hi:i<=l.length) (hB:B<=base) (cF:base<=w.heap.size) (ho:Ow dO w B base v l) (m:aI w a 112 us.toArray) (hrel:dO.rel w B x us) (T:∀g,v.ownBlock=ad g->g≠a) (hs:(l.length+1)*48<=140737488355328):aN aH 107 #[v,J I i,O (ad (ab a 0 M)) 1 1] w λe w'=>(∃Y,e=aQ Y/\Ow dO w' B base Y (l.take i++x::l.drop i))/\(∀ao,aF ao w->ao.heap.size<=base->aF ao w'):=by
 have jL:us.length=dO.k:=dO.len hrel;have ua:=dO.one hrel;have nS:Rs dO w B [x] us:=Rs.single hrel;have H:=aI.src (n:=1*dO.k) m (by rw[jL,Nat.one_mul]);have IR:l.length+1<=140737488355328:=a8 (Nat.le_mul_of_pos_right _ aq) hs;by_cases iF:i=l.length
 ·subst iF;rw[pZ,qT];have HO:=E ho;have HR:=E nS;have HS:=E H;have u:=E (show l.length+1<=bK/\base<=w.heap.size/\B<=base/\(l.length+1)*48<=140737488355328 from⟨aqv,cF,hB,hs⟩);rcases ho.form with⟨rfl,rfl⟩|⟨g,cap,rfl,rf,L,qg,S⟩
  ·clear ho nS H m hrel ua jL T hs hB cF;go_enter func107,ntmps107;go_wp2_with ((refine mZ dO au (.tmp 23) (.tmp 24) 26 au base 48 _ ar L8 au B _ [] au HO.A (ad (ab a 0 M)) 1 1 [x] us au HR.A rfl (a+1) HS.A u.A.1 u.A.2.2.2 u.A.2.1 u.A.2.2.1 IQ ?_;intro Y w' bC bG cx));go_ret;exact⟨⟨_,rfl,bC⟩,λao q o=>q.grown HO.A o bG⟩
  ·have hm:=show cap<=9223372036854775807 by simpa[bK] using S
   have n1:(l.length:Int)<=140737488355328:=an;clear ho nS H m hrel ua jL T hs hB cF L S;go_enter func107,ntmps107;have s1:∀W,(iV 26 (O (ad (ab g 0 M)) l.length cap) (ad (J I (l.length:Int))) M M).run aH W= .ok (O (cutAt (ad (ab g 0 M)) cap l.length 2) (l.length-l.length) (cap-l.length)) W:=oC underlying26 2 vy (ad (ab g 0 M)) l.length cap l.length (aO _);go_wp2_with ((refine mZ dO au (.tmp 23) (.tmp 24) 26 au base 48 _ ar L8 au B _ l au HO.A (ad (ab a 0 M)) 1 1 [x] us au HR.A rfl (a+1) HS.A u.A.1 u.A.2.2.2 u.A.2.1 u.A.2.2.1 IQ ?_;intro Y w' bC bG cx));go_ret;exact⟨⟨_,rfl,bC⟩,λao q o=>q.grown HO.A o bG⟩
 obtain⟨g,cap,rfl,rf,L,qg,S⟩:∃g cap,v=O (ad (ab g 0 M)) l.length cap/\base<=g/\bp w dO.e g/\l.length<=cap/\cap<=bK:=by
  rcases ho.form with⟨rfl,rfl⟩|h
  ·simp at hi iF;omega
  ·exact h
 obtain⟨vs,cur,_,lp,_,fc,_,_,cS,sH⟩:=ho.tZ;have hm:=show cap<=9223372036854775807 by simpa[bK] using S
 have IS:g≠a:=T g rfl;have fw:=lp.len;have iK:=lp.one;have bJ:(aH.info? 112).map (·.size)=ad 2:=vy;have mi:∀W:aB,W.heap[g]?=w.heap[g]?->∀j v,(vs.drop (i*2))[j]?=ad v->W.cell? ((⟨g,i*2,M⟩:aX).add j)=ad v:=by
  exact X1
 have aK:i<l.length:=an;have Dx:I.wrap ((i:Int)+1)=(i:Int)+1:=ay;have X4:I.wrap ((l.length:Int)+1)=(l.length:Int)+1:=ay;have de:((i:Int)==(l.length:Int))=false:=aw;have dh:¬(cap=i):=an;have aR:i<=l.length:=hi;have X:g<w.heap.size:=L.lt;have b5:cur.toList.length=cap*2:=by have Qv:cur.size=cap*2:=cS;simpa using Qv
 have V:∀W,Kt B [112] w W->Rs dO W B (l.take i++x::l.drop i) (vs.take (i*2)++us++vs.drop (i*2)):=by
  intro W hW;have dK:∀t∈dO.bI,t∉[112]:=λt ht h=>by rw[bD.1 h] at ht;exact IQ ht
  exact X3
 have cK:(l.take i++x::l.drop i).length=l.length+1:=aw;have U:∀(W:aB) (K:Nat) (R:Array aE) (N:Nat),W.heap[K]?=ad (aD R 112 (0,0))->W.heap[a]?=w.heap[a]?->(i+1)*2<=R.size->0<N->∀ty d,(Builtin.copy_ #[26,26] ty #[O (ad ⟨K,i*2,M⟩) N d,O (ad (ab a 0 M)) 1 1]).run aH W= .ok (goInt (Nat.min 1 N)) (W.setRow K (laid (i*2) us R.toList).toArray):=λW K R N h1 h2 h3 h4 ty d=>DB W _ _ ty 112 2 K _ _ d (ab a 0 M) _ 1 R 112 us au vy h1 (by rw[jL,show Nat.min 1 N=1 from Nat.min_eq_left an];rfl) (λj v hj=>by
  rw[Addr.add_lit,ig,wK h2,m.cell,List.getElem?_toArray];exact hj) (by rw[jL];show i*2+2<=_;omega) ua
 by_cases ze:l.length+1<=cap
 ·have d1:decide (cap<l.length+1)=false:=aa an;have cq:¬(cap=i+1):=an;have IT:∀lb cb,(callFunc 144 #[O (ad (ab a 0 M)) 1 1,O (ad ⟨g,(i+1)*2,M⟩) lb cb]).run aH w= .ok (.value (aG false)) w:=λlb cb=>by
   rw[run_callFunc_extern func144 ar ar ar (e:=Extern.SlicesOverlaps.overlaps #[26,26] #[4]) ar,Lib.run_overlaps_apart w 26 4 112 au 2 (run_sizeOf vy) (ab a 0 M) ⟨g,(i+1)*2,M⟩ 1 1 lb cb (Ne.symm IS) 112 112 us.toArray.size cur.size (by simp[World.shape?,show w.heap[a]?=_ from m]) (by rw[World.shape?,fc];rfl) (by rw[cS];show cap*2≠0;omega) (m.frozen 0) (m.frozen _)];rfl
  have IU:∀W:aB,W.heap[g]?=w.heap[g]?->∀ty d z,(Builtin.copy_ #[26,26] ty #[O (ad ⟨g,(i+1)*2,M⟩) (l.length-i) d,O (ad ⟨g,i*2,M⟩) (l.length+1-i) z]).run aH W= .ok (goInt (Nat.min (l.length+1-i) (l.length-i))) (W.setRow g (laid ((i+1)*2) (vs.drop (i*2)) cur.toList).toArray):=λW hW ty d z=>DB W _ _ ty 112 2 g _ _ d ⟨g,i*2,M⟩ _ z cur 112 _ au vy (hW.trans fc) aql (mi W hW) eI (λv hv=>iK v (arC hv));have kQ:(laid ((i+1)*2) (vs.drop (i*2)) cur.toList).toArray.size=cap*2:=by
   rw[lM,xf eJ,b5]
  have lV:=XW (c:=cur.toList) (us:=us) (l:=vs) (i:=i) (n:=l.length) (k:=2) jL hi (by rw[b5];omega) sH;generalize(laid ((i+1)*2) (vs.drop (i*2)) cur.toList)=R1 at*;go_enter func107,ntmps107;have Qw:∀W,(iV 26 (O (ad (ab g 0 M)) (l.length+1) cap) (ad (J I ((i:Int)+1))) M M).run aH W= .ok (O (ad ⟨g,(i+1)*2,M⟩) (l.length+1-(i+1)) (cap-(i+1))) W:=λW=>by
   have h:=oC underlying26 2 vy (ad (ab g 0 M)) (l.length+1) cap (i+1) an W;rw[cutAt,af cq,tG,AN,ig] at h;exact h
  have Qx:∀W,(iV 26 (O (ad (ab g 0 M)) (l.length+1) cap) (ad (J I (i:Int))) M M).run aH W= .ok (O (ad ⟨g,i*2,M⟩) (l.length+1-i) (cap-i)) W:=λW=>by
   have h:=oC underlying26 2 vy (ad (ab g 0 M)) (l.length+1) cap i an W;exact L9
  go_wp2_with (simp only[IT]);refine du (cU 0 8 []) [8] ?_;refine dY ?_;refine S4.nb λp f=>?_;refine E4.dm (λKK aJ=>?_);refine step_copy_runI rfl (.tmp 73) (.tmp 76) _ _ rfl _ _ au au (IU p (f.block g X) _ _ _) ?_;refine aJ _ _ ?_;clear aJ KK;refine E4.bh ?_;have F:=aF.of f;have C:=setRow_heap p g cur R1.toArray 112 (0,0) ((f.block g X).trans fc);have mr:(p.setRow g R1.toArray).heap[a]?=w.heap[a]?:=(setRow_other _ _ _ _ (Ne.symm IS)).trans (f.block a m.lt);have jD:Kt B [112] w (p.setRow g R1.toArray):=(Kt.lQ f an).setRow an ⟨_,_,(f.block g X).trans fc⟩ (bD.2 rfl) _;have IV:∀ao,aF ao w->ao.heap.size<=base->aF ao (p.setRow g R1.toArray):=λao q o=>(q.trans F).setRow an _;generalize p.setRow g R1.toArray=W2 at*;have b4:=U W2 g R1.toArray (l.length+1-i) C mr (by rw[kQ];omega) an;have re:=setRow_heap W2 g R1.toArray (laid (i*2) us R1).toArray 112 (0,0) C;have eV:=jD.setRow (g:=g) an ⟨_,_,C⟩ (bD.2 rfl) (laid (i*2) us R1).toArray;have rk:∀ao,aF ao w->ao.heap.size<=base->aF ao (W2.setRow g (laid (i*2) us R1).toArray):=λao q o=>(IV ao q o).setRow an _;have A:=E (Ow.Bi (D:=dO) (V _ eV) rf re (by rw[cK];exact ze) S (by
   rw[lM,xf (by rw[jL,<-lM,kQ];show i*2+2<=_;omega),<-lM,kQ];rfl) K8)
  rw[cK] at A;replace rk:=E rk;clear V C mr jD IV re eV kQ lV IU U mi fc cS sH b5 lp fw iK f F IT ho m nS H T L IR hs;go_wp2_with (at_builtin;refine wpList_copy_runI _ rfl (.tmp 80) (.tmp 81) _ _ rfl _ _ rfl rfl (b4 _ _) ?_);go_ret;first|exact⟨⟨_,rfl,A.A⟩,rk.A⟩|exact⟨⟨_,rfl,A.A⟩,λao y e o=>rk.A ao ⟨y,e⟩ o⟩
 ·have d1:decide (cap<l.length+1)=true:=ac an;obtain⟨i0,jZ,ef,nH,DC⟩:=Im L8;have r:(Builtin.firstCells i0.size i (O (ad (ab g 0 M)) i cap)).run aH w.drew= .ok (vs.take (i*2)).toArray w.drew:=by
   exact X0
  have qh:i+(l.length+1-i)=l.length+1:=an;have eh:(l.length:Int)+1-(i:Int)=((l.length+1-i:Nat):Int):=an;obtain⟨G,Z⟩:∃G,G=grownCap w (l.length+1) cap 112:=⟨_,rfl⟩;obtain⟨b,Bj⟩:∃b:Array aE,b=(vs.take (i*2)).toArray++pg (aY #[O M 0 0,O M 0 0]:aE).cells (l.length+1-i)++pg (aY #[O M 0 0,O M 0 0]:aE).cells (G-(l.length+1)):=⟨_,rfl⟩;have IW:∀ty,(tI #[26,3] ty #[O (ad (ab g 0 M)) i cap,J I ((l.length:Int)+1-(i:Int))]).run aH w= .ok (O (ad (ab w.heap.size 0 M)) (l.length+1) G) (w.drew.alloc (aD b 112)):=λty=>by
   have h:=Lib.run_append_grow_zeros w 26 3 ty 112 i0 _ I I au au jZ ef (ad (ab g 0 M)) i cap (vs.take (i*2)) r (l.length+1-i) an (by rw[nH];decide) an an (by rw[DC];have:=sa 48 (show l.length+1-i<=l.length+1 by omega);omega) (by rw[DC,qh];exact growslice_fits an hs);rw[qh] at h;rw[eh,Bj,Z];exact h
  have Qy:l.length+1<=G:=by rw[Z];exact grownCap_ge w _ _ _
  have IX:G<=bK:=by rw[Z];exact grownCap_le_maxLen w _ _ _ aqF
  have aP:G<=9223372036854775807:=by simpa[bK] using IX
  have DD:b.size=G*2:=by
   rw[Bj];simp[pg,Value.cells,fw];have:dO.k=2:=rfl;rw[this];omega
  have Ma:(vs.take (i*2)).length=i*2:=aqM;have Qz:b.toList.take (i*2)=vs.take (i*2):=by
   exact X2
  clear Bj Z r qh eh jZ ef nH DC;have QA:¬(G=i):=an;have QB:¬(G=i+1):=an;obtain⟨s,ko⟩:∃s,s=w.drew.alloc (aD b 112):=⟨_,rfl⟩;have bg:aF w s:=by rw[ko];exact(aF.drew w).alloc _
  have po:s.heap[w.heap.size]?=ad (aD b 112 (0,0)):=by rw[ko];exact qR w.drew _
  have uc:g≠w.heap.size:=an;rw[<-ko] at IW;have b4:=U s w.heap.size b (l.length+1-i) po (bg.aC.block a m.lt) an an;have C:=setRow_heap s w.heap.size b (laid (i*2) us b.toList).toArray 112 (0,0) po;have DE:(laid (i*2) us b.toList).length=G*2:=by
   rw[xf BY,Array.length_toList,DD]
  have lV:=XY (c:=b.toList) (us:=us) (l:=vs) (i:=i) (n:=l.length) (k:=2) jL hi (by have:=DD;rw[<-Array.length_toList] at this;omega) fw Qz;have bN:aF w (s.setRow w.heap.size (laid (i*2) us b.toList).toArray):=bg.setRow (aO _) _;generalize(laid (i*2) us b.toList)=R1 at*;have IY:∀W:aB,W.heap[w.heap.size]?=ad (aD R1.toArray 112 (0,0))->W.heap[g]?=w.heap[g]?->∀ty d z,(Builtin.copy_ #[26,26] ty #[O (ad ⟨w.heap.size,(i+1)*2,M⟩) (l.length-i) d,O (ad ⟨g,i*2,M⟩) (l.length-i) z]).run aH W= .ok (goInt (Nat.min (l.length-i) (l.length-i))) (W.setRow w.heap.size (laid ((i+1)*2) (vs.drop (i*2)) R1.toArray.toList).toArray):=λW h1 hW ty d z=>DB W _ _ ty 112 2 w.heap.size _ _ d ⟨g,i*2,M⟩ _ z R1.toArray 112 _ au vy h1 aqs (mi W hW) ez (λv hv=>iK v (arC hv));have Qw:∀W,(iV 26 (O (ad (ab w.heap.size 0 M)) (l.length+1) G) (ad (J I ((i:Int)+1))) M M).run aH W= .ok (O (ad ⟨w.heap.size,(i+1)*2,M⟩) (l.length+1-(i+1)) (G-(i+1))) W:=λW=>by
   have h:=oC underlying26 2 vy (ad (ab w.heap.size 0 M)) (l.length+1) G (i+1) an W;rw[cutAt,af QB,tG,AN,ig] at h;exact h
  have Qx:∀W,(iV 26 (O (ad (ab w.heap.size 0 M)) (l.length+1) G) (ad (J I (i:Int))) M M).run aH W= .ok (O (ad ⟨w.heap.size,i*2,M⟩) (l.length+1-i) (G-i)) W:=λW=>by
   have h:=oC underlying26 2 vy (ad (ab w.heap.size 0 M)) (l.length+1) G i an W;rw[cutAt,af QA,tG,AN,ig] at h;exact h
  have aM:∀W,(iV 26 (O (ad (ab g 0 M)) l.length cap) (ad (J I (i:Int))) M M).run aH W= .ok (O (ad ⟨g,i*2,M⟩) (l.length-i) (cap-i)) W:=λW=>by
   have h:=oC underlying26 2 vy (ad (ab g 0 M)) l.length cap i an W;exact L9
  have HQ:=E (iC C bN);clear C bN po bg ko;go_enter func107,ntmps107;go_wp2_with (first
   |(at_builtin;refine Lib.wpList_append_run _ rfl _ _ _ _ rfl _ _ rfl rfl _ _ (IW _) ?_)
   |(at_builtin;refine wpList_copy_runI _ rfl _ _ _ _ rfl _ _ rfl rfl (b4 _ _) ?_))
  obtain⟨W2,nk⟩:∃y,y=s.setRow w.heap.size R1.toArray:=⟨_,rfl⟩;rw[<-nk] at HQ⊢;clear nk;refine du (cU 0 8 []) [8] ?_;refine dY ?_;refine S4.nb λp f=>?_;have DF:=(f.block _ (lJ.1 HQ.A.1).1).trans HQ.A.1;have F:=HQ.A.2.next f;refine E4.dm (λKK aJ=>?_);refine step_copy_runI rfl (.tmp 50) (.tmp 53) _ _ rfl _ _ au au (IY p DF (F.aC.block g X) _ _ _) ?_;refine aJ _ _ ?_;clear aJ KK;refine E4.bh ?_;have IZ:=setRow_heap p w.heap.size R1.toArray (laid ((i+1)*2) (vs.drop (i*2)) R1.toArray.toList).toArray 112 (0,0) DF;have cP:=F.setRow (aO _) (laid ((i+1)*2) (vs.drop (i*2)) R1.toArray.toList).toArray;have A:=E (Ow.Bi (D:=dO) (V _ (Kt.lQ cP.aC an)) cF IZ (by rw[cK];exact Qy) IX (by
   rw[lM,xf (by rw[oy,fw,DE];show _+(l.length*2-i*2)<=G*2;omega),DE];rfl) K8)
  rw[cK] at A;have bL:=E cP;clear V IZ cP DF F lV U IY mi fc cS sH b5 lp fw iK f ho m nS H T L IR hs;go_wp2;go_ret;first|exact⟨⟨_,rfl,A.A⟩,λao q o=>q.trans bL.A⟩|exact⟨⟨_,rfl,A.A⟩,λao y e o=>aF.trans ⟨y,e⟩ bL.A⟩
variable {D:Kr α}
section
open im (dT)
def Rs.put {d:α} (hj:j<D.k):∀{l:List α} {us:List aE} (i:Nat) (hi:i<l.length),Rs D w B l us->(∀vs,D.rel w B l[i] vs->D.rel w B d (vs.set j u))->Rs D w B (l.set i d) (us.set (i*D.k+j) u):=by
 intro l us i hi h;induction h generalizing i with
 |nil=>simp at hi
 |@cons a l vs us h h' ih=>
  intro b;have c:=D.len h;cases i with
  |zero=>
   rw[Nat.zero_mul,ig,List.set_append_left _ _ an,List.set_cons_zero];exact .cons (b vs h) h'
  |succ i=>
   rw[List.set_append_right _ _ (by rw[c,oA];omega),List.set_cons_succ,show(i+1)*D.k+j-vs.length=i*D.k+j by rw[c,oA];omega];exact .cons h (ih i (am hi) (am b))
def Ow.store {l:List α} (h:Ow D w B base (O (ad (ab g 0 M)) n cap) l) {i j:Nat} (hi:i<l.length) (hj:j<D.k) (u:aE) (b:α) (hB:B<=base) (m:D.e∉D.bI) (hrel:∀vs,D.rel (w.setCell ⟨g,i*D.k+j,M⟩ u) B l[i] vs->D.rel (w.setCell ⟨g,i*D.k+j,M⟩ u) B b (vs.set j u)):Ow D (w.setCell ⟨g,i*D.k+j,M⟩ u) B base (O (ad (ab g 0 M)) n cap) (l.set i b):=by
 obtain⟨us,cur,rfl,e,Z,hg,hn,c,hs,a⟩:=h.tZ;have d:Kt B [D.e] w (w.setCell ⟨g,i*D.k+j,M⟩ u):=(Kt.refl B [D.e] w).setCell an ⟨_,_,hg⟩ (bD.2 rfl) u;have k:=e.keep d (λt a h=>by rw[bD.1 h] at a;exact m a);have f:(i+1)*D.k<=l.length*D.k:=sa _ hi;rw[oA] at f;have hh:(w.setCell ⟨g,i*D.k+j,M⟩ u).heap[g]?=ad (aD (cur.setIfInBounds (i*D.k+j) u) D.e (0,0)):=by
  rw[setCell_eq_setRow w g (i*D.k+j) cur D.e (0,0) u hg];exact setRow_heap w g cur _ D.e (0,0) hg
 have:=Ow.Bi (D:=D) (l:=l.set i b) (Rs.put hj i hi k hrel) Z hh (am hn) c (am hs) (by
  rw[List.length_set,Array.toList_setIfInBounds,List.take_set,a])
 simpa using this
theorem X5 (h:P:=by
 have eo:=E HE.A;obtain⟨v9,k,ci,rfl,m9,nT⟩:=hg;obtain⟨A9,c9,rfl,_⟩:=nT.be;have d1:(k !=0)=true:=by simp[ci]
 have HK:=E ci;clear ci;go_wp2;go_ret2;rw[eo.A];exact⟨⟨_,k,HK.A,rfl,_,HV.A.al dw.A.aC⟩,dw.A⟩;):P:=h
def X6 {vl:aE} {st:List cr} (T V:Int) (w:aB) (hB:B<=w.heap.size) (hs:Vs dO w B v st) (hl:Vs bE w B vl L):aN aH 73 #[v,vl,aY #[J I T,J I V]] w λe w'=>sB dO w' B e (ra st L (T,V))/\aF w w':=by
 have HE:=E (show ra st L (T,V)=(if qe L=false then M else match yT (if sq L (gS st)=true then sS (gS st) (ahead L (gS st)) else[]) (T,V) with|none=>M|some s=>if sq L (gS st)=true then ad ((gS st).set (ahead L (gS st)) ⟨sL (gS st) (ahead L (gS st)),s⟩) else if 32<=(gS st).length then M else ad ((gS st).take (ahead L (gS st))++⟨L,s⟩::(gS st).drop (ahead L (gS st)))) from rfl);have HV:=E (L7 hs);have HS:=E (Fb st);have HL:=E hl;have d:=E hB;have HC:=E (λK (Z:aS w.heap.size w K)=>XQ K (hs.al Z));generalize ra st L (T,V)=r at HE⊢;generalize(if eY st=true then v else O M 0 0)=u at*;generalize gS st=c at*;obtain⟨A0,c0,rfl,_⟩:=hs.len_;obtain⟨A2,c2,rfl,_⟩:=hl.be;obtain⟨ao,cap,rfl,hR,ij,y7⟩:=HV.A.be;have HR:=E hR;clear hs hl hR hB;have bR:=E ((aF.refl w).alloc (aD #[J I T,J I V] 65));have n:=aI.new w 65 #[J I T,J I V];go_enter func73,ntmps73;go_wp2_with fail;refine(HC.A _ bR.A.aC).ah ?_;rintro e K⟨rfl,Z⟩;have Q:=E (bR.A.trans Z);have cW:=E (n.al Z.aC n.lt);clear Z bR n HC;go_wp2_with fail;have F:=E (XN K (HL.A.al Q.A.aC));by_cases o:qe L=true;case neg=>
  rw[Bool.not_eq_true] at o;have eo:=E (show r=M by rw[HE.A,ag o]);rw[o] at F;refine F.A.ah ?_;rintro e w2⟨rfl,Z⟩;have l:=E (Q.A.trans Z);clear Z;go_wp2;go_ret2;rw[eo.A];exact⟨⟨_,7,aq,rfl,_,HV.A.al l.A.aC⟩,l.A⟩
 rw[af (by rw[o];decide)] at HE;rw[o] at F;refine F.A.ah ?_;rintro e w2⟨rfl,Z⟩;have l:=E (Q.A.trans Z);have QC:=E (cW.A.al Z.aC cW.A.lt);clear Z cW Q;have HF:=E (ag7 w2 (a8 d.A l.A.size) (HV.A.al l.A.aC) (HL.A.al l.A.aC) HS.A (Pz o));have S:=E (show sq L c=true->ahead L c<c.length fromλh=>by unfold sq at h;simp at h;exact h.1);have vA:=E (PA L c);clear o F;generalize ahead L c=i at*;generalize sq L c=there at*;go_wp2_with fail;refine HF.A.ah ?_;rintro e W⟨rfl,Z⟩;have q:=E (l.A.trans Z);have n:=QC.A.al Z.aC QC.A.lt;clear Z l QC HF;have g0:=n.cell;cases there;case true=>
  have H:=S.A rfl;obtain⟨b,off,A3,c3,A4,c4,rfl,cw,ft,dS,bZ,iK⟩:=HR.A.Fv q.A.aC H;have G:=E (XM T V W (a8 d.A q.A.size) iK);simp only[if_true] at HE;clear S;go_wp2_with fail;refine G.A.ah ?_;rintro e U⟨hg,Z⟩;have dw:=E (q.A.trans Z);have b5:=(vm.1 HS.A).1;clear Z q G g0 n;generalize X:yT (sS c i) (T,V)=lj at hg HE;cases lj with
  |none=>
   exact X5
  |some m=>
   have eo:=E HE.A;simp only at eo;obtain⟨v9,rfl,nT⟩:=hg;have t:=E nT;obtain⟨A9,c9,rfl,_⟩:=nT.be;clear nT X HE;have D:=E (XZ U (a8 d.A dw.A.size) (HV.A.al dw.A.aC) an);go_wp2_with fail;refine D.A.ah ?_;rintro e a⟨⟨v5,rfl,ho⟩,f⟩;have N:=E (dw.A.trans f);have Y:=E (t.A.al f.aC);have HO:=E ho;rcases ho.form with⟨rfl,h0⟩|⟨g,ahh,rfl,rf,rj,_,Mb⟩
   ·subst h0;simp at H
   obtain⟨aM,aR,_,_,_,fc,_⟩:=ho.tZ;obtain⟨A6,kS,fT,nU,_⟩:=ho.vs.be;cases fT;obtain⟨DG,aW,A7,c7,A8,kb,rl,e4,q8,PY,_,_⟩:=nU.Fv (bk _ a) H;cases rl;rw[ig] at q8 PY;have mB:a.frozen? ⟨g,i*2+1,M⟩=false:=by simp[World.frozen?,fc]
   have HG:=E rf;have HT:=E rj;have X7:=E H;have fp:=E dw.A.size;have aP:ahh<=9223372036854775807:=by simpa[bK] using Mb
   clear f dw ho rf rj fc nU D t ft dS bZ iK Mb;go_wp2;go_ret2;have cx:Kt B [112] a (a.setCell ⟨g,i*2+1,M⟩ (O A9 m.length c9)):=(Kt.refl B _ a).setCell (ak fp.A d.A HG.A) HT.A (bD.2 rfl) _;have il:=N.A.setCell (p:=⟨g,i*2+1,M⟩) (by show w.heap.size<=g;have:=HG.A;have:=fp.A;omega) (O A9 m.length c9);have bS:=HO.A.store (j:=1) X7.A aq (O A9 m.length c9) (⟨sL c i,m⟩:cr) (a8 d.A fp.A) IQ (by
    rintro vs⟨y0,y1,rfl,h0,h1⟩;exact⟨y0,_,rfl,by unfold sL;rw[dr X7.A];exact h0,Y.A.keep cx aq aq⟩)
   rw[eo.A];exact⟨⟨_,rfl,bS.vs⟩,il⟩
 case false=>
  have G:=E (XM T V W (a8 d.A q.A.size) (Vs.bh ja W B));simp only[tL,if_false] at HE;clear S;go_wp2_with fail;refine G.A.ah ?_;rintro e U⟨hg,Z⟩;have dw:=E (q.A.trans Z);have b5:=(vm.1 HS.A).1;clear Z q G g0 n;generalize X:yT [] (T,V)=lj at hg HE;cases lj with
  |none=>
   exact X5
  |some m=>
   have eo:=E HE.A;simp only at eo;obtain⟨v9,rfl,nT⟩:=hg;have t:=E nT;obtain⟨A9,c9,rfl,_⟩:=nT.be;clear nT X HE;have D:=E (XZ U (a8 d.A dw.A.size) (HV.A.al dw.A.aC) an);by_cases R:32<=c.length
   ·have aJ:decide ((32:Int)<=(c.length:Int))=true:=ac an;rw[ag R] at eo;clear R;go_wp2;go_ret2;rw[eo.A];exact⟨⟨_,10,aq,rfl,_,HV.A.al dw.A.aC⟩,dw.A⟩
   have aJ:decide ((32:Int)<=(c.length:Int))=false:=aa an;rw[af R] at eo;clear R;go_wp2_with fail;refine D.A.ah ?_;rintro e a⟨⟨v5,rfl,ho⟩,f⟩;have N:=E (dw.A.trans f);have Y:=E (t.A.al f.aC);have HI:=E (ahd (x:=⟨L,m⟩) (us:=[O A2 L.length c2,O A9 m.length c9]) (B:=B) i (a.alloc (aD #[O A2 L.length c2,O A9 m.length c9] 112)) vA.A (a8 d.A dw.A.size) (by rw[eO];have:=f.size;omega) (ho.alloc _) (aI.new a 112 #[O A2 L.length c2,O A9 m.length c9]) ⟨_,_,rfl,(HL.A.al N.A.aC).al ((bk _ _).alloc (aO _) _),Y.A.al ((bk _ _).alloc (aO _) _)⟩ (λg hg=>by have:=(ho.row g hg).2.lt;omega) an);have aK:=E dw;obtain⟨A6,kS,rfl,_⟩:=ho.vs.be;clear f ho D t;go_wp2_with fail;refine HI.A.ah ?_;rintro e w6⟨⟨yZ,rfl,QD⟩,e4⟩;have jM:=E (e4 w (N.A.alloc _) aK.A.A.size);have nV:=E QD.vs;obtain⟨A7,n7,c7,rfl,_⟩:=QD.vs.A;clear e4 QD;go_wp2;go_ret2;rw[eo.A];exact⟨⟨_,rfl,nV.A⟩,jM.A⟩
end
def oM (s:iZ) (k:Nat):ByteArray:=(s.aU.getD k default).n
def nW (s:iZ) (k:Nat):ByteArray:=(s.aU.getD k default).v
def ue (s:iZ) (k:Nat):Bool:=(s.aU.getD k default).neg
noncomputable def Bk (s:iZ) (k:Nat):Bool:=db (oM s k)&&decide ((nW s k).size<=64)
noncomputable def kT (s:iZ):Bool:=db s.n&&decide (s.aU.length<=8)&&cI s.aU.length (Bk s)
noncomputable def DI (l:aZ) (s:iZ) (k:Nat):Bool:=!(((((gD l (oM s k)).getD ⟨#[]⟩).toList==(nW s k).toList))==ue s k)
noncomputable def Fy (s:iZ) (l:aZ):Bool:=kT s&&bH l&&((gD l iH).isSome&&(((gD l iH).getD ⟨#[]⟩).toList==s.n.toList))&&cI s.aU.length (DI l s)
structure qi (w:aB) (B:Nat) (v:aE) (s:iZ):Prop where
 A:∃u,v=aY #[ap s.n,u]/\s.n.size<=9223372036854775807/\Vs jG w B u s.aU
def qi.al {s:iZ} (h:qi w B v s) (Z:aS w.heap.size w w'):qi w' B v s:=by
 obtain⟨u,e,a,h2⟩:=h.A;exact⟨u,e,a,h2.al Z⟩
def Rw.mt {s:iZ} (h:Rw jG w B ao n s.aU) (hB:aS w.heap.size w wr) {k:Nat} (a:k<s.aU.length):∃b off,ao=ad (ab b off M)/\b<w.heap.size/\wr.cell? ⟨b,off+k*3,M⟩=ad (ap (oM s k))/\wr.cell? ⟨b,off+k*3+1,M⟩=ad (ap (nW s k))/\wr.cell? ⟨b,off+k*3+2,M⟩=ad (aG (ue s k))/\(oM s k).size<=9223372036854775807/\(nW s k).size<=9223372036854775807:=by
 obtain⟨b,off,vs,e,Z,c,h2⟩:=h.aL hB a;rw[<-dr a] at c;obtain⟨rfl,d,h4⟩:=c;exact⟨b,off,e,Z,h2 0 _ rfl,h2 1 _ rfl,h2 2 _ rfl,d,h4⟩
theorem X8 (h:P:=by
 go_enter func37,ntmps37;go_wp2_with fail;refine(nn.A _).ah ?_;rintro e w1⟨rfl,rfl⟩;go_wp2;go_ret;exact⟨cc HS.A.symm,cW.A⟩;):P:=h
def QE {s:iZ} (w:aB) (h:qi w B v s):aN aH 37 #[v] w λe w'=>e=aQ (aG (kT s))/\aF w w':=by
 obtain⟨u,rfl,hn,j⟩:=h.A;obtain⟨ao,cap,rfl,m,D,F⟩:=j.be;have C:=E m;clear h j m;have cW:=E ((aF.refl w).alloc (aD #[ap s.n,O ao s.aU.length cap] 46));have HX:=E (aI.new w 46 #[ap s.n,O ao s.aU.length cap]);have nn:=E (λW=>mu s.n W hn);by_cases c1:db s.n=true;case neg=>
  rw[Bool.not_eq_true] at c1;have HS:=E (show kT s=false by unfold kT;rw[c1];rfl);rw[c1] at nn;exact X8
 rw[c1] at nn;by_cases g:s.aU.length<=8;case neg=>
  have HS:=E (show kT s=false by unfold kT;simp[g]);have g1:=HX.A.cell 1;exact X8
 have n:=E (λk (l:k<s.aU.length) (h:Bk s k=false)=>(show kT s=false by unfold kT;rw[tV l h,Bool.and_false]));have xb:=E (λ(h:cI s.aU.length (Bk s)=true)=>(show kT s=true by unfold kT;rw[h,c1];simp[g]));have y:=E (λk=>(show Bk s k=(db (oM s k)&&decide ((nW s k).size<=64)) from rfl));clear c1;have g1:=HX.A.cell 1;generalize kT s=r at n xb⊢;go_enter func37,ntmps37;go_wp2_with fail;refine(nn.A _).ah ?_;rintro e w1⟨rfl,rfl⟩;go_wp2;go_loopw [18] (λi wr=>∃k:Nat,k<=s.aU.length/\i=J I k/\a6 (cI k (Bk s)=true)/\aF w wr) (λi _=>s.aU.length-(intOf i).toNat);case atStart=>exact⟨0,an,rfl,E rfl,cW.A⟩
 case round=>
  clear g1;obtain⟨k,l,rfl,bj,hB⟩:=hrel;by_cases c:k<s.aU.length
  ·obtain⟨b,off,rfl,M,G,L,K,q,H⟩:=C.A.mt hB.aC c;have HK:=E (y.A k);have o:=E (n.A k c);have t:=E (λh=>wW bj.A (P:=Bk s) h);have a:=E (hB.alloc (aD #[ap (oM s k),ap (nW s k),aG (ue s k)] 126));have d:=E (λW=>mu (oM s k) W q);have aR:=E c;generalize db (oM s k)=x at*;cases x;case false=>
    have HS:=E (show r=false from o.A aqm);go_wp2_with fail;refine(d.A _).ah ?_;rintro e f⟨rfl,rfl⟩;go_wp2;go_ret;exact⟨cc HS.A.symm,a.A⟩
   by_cases c4:(nW s k).size<=64
   ·have p:=E (t.A (by rw[HK.A,ac c4];rfl));have A:decide ((64:Int)<((nW s k).size:Int))=false:=aa an;have z:decide (64<(nW s k).size)=false:=aa an;clear c4;go_wp2_with fail;refine(d.A _).ah ?_;rintro e f⟨rfl,rfl⟩;go_wp2;go_roundw;case rel=>exact⟨k+1,aR.A,by go_num,p,a.A⟩
    case measure=>exact ax
   ·have HS:=E (show r=false from o.A (by rw[HK.A,aa c4];rfl));have A:decide ((64:Int)<((nW s k).size:Int))=true:=ac an;have z:decide (64<(nW s k).size)=true:=ac an;clear c4;go_wp2_with fail;refine(d.A _).ah ?_;rintro e f⟨rfl,rfl⟩;go_wp2;go_ret;exact⟨cc HS.A.symm,a.A⟩
  ·obtain rfl:k=s.aU.length:=by omega
   exact Qb
theorem Fz (h:P:=by
 go_wp2;go_ret;exact⟨cc HR.A.symm,HB.A⟩;):P:=h
def ahk {vl:aE} {s:iZ} (w:aB) (h:qi w B v s) (y:Vs bE w B' vl L):aN aH 233 #[v,vl] w λe w'=>e=aQ (aG (Fy s L))/\aF w w':=by
 have R:=E (λc (Z:aS w.heap.size w c)=>QE c (h.al Z));have p:=E y;have a:=E (show Fy s L=(kT s&&bH L&&((gD L iH).isSome&&(((gD L iH).getD ⟨#[]⟩).toList==s.n.toList))&&cI s.aU.length (DI L s)) from rfl);obtain⟨u,rfl,hn,M⟩:=h.A;obtain⟨ao,cap,rfl,Q,Y,hc⟩:=M.be;obtain⟨A2,c2,rfl,_⟩:=y.be;have HP:=E Q;clear h M Q y;have g:=E ((aF.refl w).alloc (aD #[ap s.n,O ao s.aU.length cap] 46));have A:=aI.new w 46 #[ap s.n,O ao s.aU.length cap];have HX:=E A;have m:=E (R.A _ g.A.aC);have d:=A.cell;clear A R;generalize X:Fy s L=r at a⊢;generalize kT s=x1 at*;cases x1;case false=>
  have HR:=E (show r=false by rw[a.A];rfl);go_enter func233,ntmps233;go_wp2_with fail;refine m.A.ah ?_;rintro e c⟨rfl,Z⟩;have HB:=E (g.A.trans Z);clear Z;exact Fz
 by_cases l:bH L=true;case neg=>
  rw[Bool.not_eq_true] at l;have HR:=E (show r=false by rw[a.A,l];rfl);go_enter func233,ntmps233;go_wp2_with fail;refine m.A.ah ?_;rintro e c⟨rfl,Z⟩;have HB:=E (g.A.trans Z);have f:=HX.A.al Z.aC HX.A.lt;have o:=E (l▸Iy c (p.A.al HB.A.aC));clear Z g HX m d;go_wp2_with fail;refine o.A.ah ?_;rintro e H⟨rfl,Z⟩;have j:=f.al Z f.lt;replace HB:=E (HB.A.next Z);clear Z f o;have d:=j.cell;exact Fz
 rw[l] at a;have HF:=E (λk=>(show DI L s k=!(((((gD L (oM s k)).getD ⟨#[]⟩).toList==(nW s k).toList))==ue s k) from rfl));go_enter func233,ntmps233;go_wp2_with fail;refine m.A.ah ?_;rintro e c⟨rfl,Z⟩;have HB:=E (g.A.trans Z);have f:=HX.A.al Z.aC HX.A.lt;have o:=E (l▸Iy c (p.A.al HB.A.aC));clear Z g HX m d;go_wp2_with fail;refine o.A.ah ?_;rintro e H⟨rfl,Z⟩;have j:=f.al Z f.lt;replace HB:=E (HB.A.next Z);clear Z f o;have d:=j.cell;have G:=E (Fi iH H (p.A.al HB.A.aC));generalize(gD L iH).getD ⟨#[]⟩=QF at*;generalize(gD L iH).isSome=x3 at*;go_wp2_with fail;refine G.A.ah ?_;rintro e w3⟨rfl,Z⟩;have V:=j.al Z j.lt;replace HB:=E (HB.A.next Z);clear Z j G d;have d:=V.cell;cases x3;case false=>
  have HR:=E (show r=false by rw[a.A];rfl);exact Fz
 generalize q:(QF.toList==s.n.toList)=x4 at a;cases x4;case false=>
  have HR:=E (show r=false by rw[a.A];rfl);have T:(QF.toList !=s.n.toList)=true:=by rw[bne,q];rfl
  exact Fz
 have T:(QF.toList !=s.n.toList)=false:=by rw[bne,q];rfl
 have S:=E (show r=cI s.aU.length (DI L s) by rw[a.A];rfl);have gh:=E (λk (N:k<s.aU.length) (h:DI L s k=false)=>(show r=false by rw[S.A,tV N h]));clear a X V;go_wp2;clear d T q;go_loopw [35] (λi wr=>∃k:Nat,k<=s.aU.length/\i=J I k/\a6 (cI k (DI L s)=true)/\aF w wr) (λi _=>s.aU.length-(intOf i).toNat);case atStart=>exact⟨0,an,rfl,E rfl,HB.A⟩
 case round=>
  obtain⟨k,N,rfl,U,hB⟩:=hrel;by_cases C:k<s.aU.length
  ·obtain⟨b,off,rfl,cw,ft,dS,aJ,jr,fo⟩:=HP.A.mt hB.aC C;have n:=E (hB.alloc (aD #[ap (oM s k),ap (nW s k),aG (ue s k)] 126));have x:=E (aI.new wr 126 #[ap (oM s k),ap (nW s k),aG (ue s k)]);have HG:=E (Fi (oM s k) _ (p.A.al n.A.aC));have F:=E (HF.A k);have fI:=E (gh.A k C);have gG:=E (λh=>wW U.A (P:=DI L s) h);have aR:=E C;generalize(gD L (oM s k)).getD ⟨#[]⟩=y1 at*;generalize(gD L (oM s k)).isSome=y2 at*;go_wp2_with fail;refine HG.A.ah ?_;rintro e w4⟨rfl,Z⟩;replace n:=E (n.A.next Z);have K:=x.A.al Z x.A.lt;have g1:=K.cell;clear Z x K;obtain⟨z,W⟩:=aP ((y1.toList==(nW s k).toList));rw[W] at F;generalize ue s k=z2 at*;by_cases D:(z==z2)=true
   ·have HR:=E (show r=false from fI.A (by rw[F.A,D];rfl));replace HB:=n;exact Fz
   ·have t:(z==z2)=false:=by simpa using D
    have HN:=E (gG.A (by rw[F.A,t];rfl));clear D;go_wp2;go_roundw;case rel=>exact⟨k+1,aR.A,by go_num,HN,n.A⟩
    case measure=>exact ax
  ·obtain rfl:k=s.aU.length:=by omega
   have HR:=E (show r=true by rw[S.A];exact U.A);replace HB:=E hB;exact Fz
def QH:(aH.info? 286).map (λi=>(i.zero,i.size,i.bytes))=ad (ad (aY #[O M 0 0,J I 0,J I 0]),3,40):=ar
def QI:kN.e∉kN.bI:=aq
def ahl (f:α->Option β) {l:List α} {k:Nat} (a:k<l.length) (aT:List β):aT++(l.drop k).filterMap f=(match f l[k] with|none=>aT|some b=>aT++[b])++(l.drop (k+1)).filterMap f:=by
 rw[pf a,List.filterMap_cons];split<;>simp_all
def ahm {l:List cr} (h:k<l.length):l[k]=⟨sL l k,sS l k⟩:=by unfold sL sS;rw[dr h]
noncomputable def Bl (s:iZ) (t wd:Int) (y:cr):Option cJ:=if Fy s y.L=true then(AQ y.S t wd).map (λx=>⟨y.L,x⟩) else M
noncomputable def zg (st:List cr) (s:iZ) (t wd:Int):List cJ:=(gS st).filterMap (Bl s t wd)
theorem X9 (h:P:=by
 go_roundw;case rel=>exact⟨k+1,_,aR.A,aw,by go_num,HE,dw.A.grown gH.A (aO _) kj,bC⟩
 case measure=>exact ax
 ):P:=h
theorem Ya (h:P:=by
 have HE:=E (show r=aT by rw[<-bj.A,qT];simp);go_wp2;go_ret;exact⟨⟨_,rfl,HE.A▸bc.less bm.A.size⟩,bm.A.trans dI⟩;):P:=h
def ahn {vs:aE} {st:List cr} {s:iZ} (t f:Int) (w:aB) (hB:B<=w.heap.size) (Fq:-9223372036854775808<=t/\t<=9007199254740992) (h:Vs dO w B v st) (D:qi w B vs s):aN aH 191 #[v,vs,J I t,J I f] w λe w'=>(∃S,e=aQ S/\Ow kN w' B w.heap.size S (zg st s t f))/\aF w w':=by
 have HV:=E (L7 h);have HC:=E (λm (Z:aS w.heap.size w m)=>XQ m (h.al Z));have HR:=E (show zg st s t f=(gS st).filterMap (Bl s t f) from rfl);have HS:=E (Fb st);generalize zg st s t f=r at HR⊢;generalize(if eY st=true then v else O M 0 0)=u at*;generalize gS st=c at*;obtain⟨A0,c0,rfl,_⟩:=h.len_;obtain⟨ao,cap,rfl,xh,ij,y7⟩:=HV.A.be;have HP:=E xh;have aP:=E D;have Bm:=E (λW L vl B' (Z:aS w.heap.size w W) (hl:Vs bE W B' vl L)=>ahk W (D.al Z) hl);obtain⟨us,rfl,hn,hu⟩:=D.A;obtain⟨FC,cs,rfl,_⟩:=hu.be;have aW:=(vm.1 HS.A).1;have aJ:=E Fq;have di:=E hB;clear h D hu xh HV HS Fq hB;have bR:=E ((aF.refl w).alloc (aD #[ap s.n,O FC s.aU.length cs] 46));have U:=aI.new w 46 #[ap s.n,O FC s.aU.length cs];go_enter func191,ntmps191;go_wp2_with fail;refine(HC.A _ bR.A.aC).ah ?_;rintro e m⟨rfl,Z⟩;have bm:=E (bR.A.trans Z);have HX:=E (U.al Z.aC U.lt);clear Z bR U HC;go_wp2;go_loopw [9,17] (λa i wr=>∃(k:Nat) (aT:List cJ),k<=c.length/\aT.length<=k/\i=J I k/\a6 (aT++(c.drop k).filterMap (Bl s t f)=r)/\aF m wr/\Ow kN wr B m.heap.size a aT) (λ_ i _=>c.length-(intOf i).toNat);case atStart=>exact⟨0,[],an,aO _,rfl,E HR.A.symm,aF.refl _,Ow.bh _ _ _ _⟩
 case round=>
  obtain⟨k,aT,hk,Iz,rfl,bj,dI,bc⟩:=hrel;by_cases R:k<c.length
  ·obtain⟨b,off,g,c3,o,c4,rfl,cw,ft,dS,bZ,iK⟩:=HP.A.Fv (bm.A.trans dI).aC R;have n:=E (ahl (Bl s t f) R aT);rw[bj.A,ahm R] at n;have l:=E (show Bl s t f ⟨sL c k,sS c k⟩=if Fy s (sL c k)=true then(AQ (sS c k) t f).map (λx=>⟨sL c k,x⟩) else M from rfl);have Y:=E bc;have K:=E (dI.alloc (aD #[O g (sL c k).length c3,O o (sS c k).length c4] 112));have y:=aI.new wr 112 #[O g (sL c k).length c3,O o (sS c k).length c4];have G:=(bk wr.heap.size wr).alloc (aO _) (aD #[O g (sL c k).length c3,O o (sS c k).length c4] 112);have Yb:=HX.A.al K.A.aC HX.A.lt;have C:=E (Bm.A _ _ _ _ (bm.A.trans K.A).aC (bZ.al G));have QJ:=E (bZ.al G);have rm:=E (iK.al G);have V:=Yb.cell;have g2:=y.cell 0;have aR:=E R;replace y:=E y;clear bc Yb G dI bZ iK;by_cases A:Fy s (sL c k)=true;case neg=>
    rw[Bool.not_eq_true] at A;rw[A] at C l;have HE:=E (show aT++(c.drop (k+1)).filterMap (Bl s t f)=r by rw[n.A,l.A];rfl);clear A n l;go_wp2_with fail;refine C.A.ah ?_;rintro e p⟨rfl,Z⟩;have N:=E (K.A.trans Z);have F:=E ((Y.A.alloc (aD #[O g (sL c k).length c3,O o (sS c k).length c4] 112)).al Z.aC);clear Z;go_wp2;go_roundw;case rel=>exact⟨k+1,aT,aR.A,an,by go_num,HE,N.A,F.A⟩
    case measure=>exact ax
   rw[A] at C l;clear A;go_wp2_with fail;refine C.A.ah ?_;rintro e p⟨rfl,Z⟩;have N:=E (K.A.trans Z);have F:=E ((Y.A.alloc (aD #[O g (sL c k).length c3,O o (sS c k).length c4] 112)).al Z.aC);have q:=y.A.al Z.aC y.A.lt;have z:=E (agZ t f p aJ.A (rm.A.al Z.aC));have lq:=E (QJ.A.al Z.aC);have V:=q.cell;clear Z y C QJ rm Y;replace q:=E q;cases H:AQ (sS c k) t f with
   |none=>
    rw[H] at z l;have HE:=E (show aT++(c.drop (k+1)).filterMap (Bl s t f)=r by rw[n.A,l.A];rfl);have T:=E (show aN aH 234 #[O o (sS c k).length c4,J I t,J I f] p λe w'=>e=aQ (bn #[aY #[J I 0,J I 0],aG false])/\aF p w' from z.A);clear H n l z;go_wp2_with fail;refine T.A.ah ?_;rintro e j⟨rfl,Z⟩;have Q:=E ((N.A.trans Z).alloc (aD #[J I 0,J I 0] 65));have X:=E ((F.A.al Z.aC).alloc (aD #[J I 0,J I 0] 65));clear Z;go_wp2;go_roundw;case rel=>exact⟨k+1,aT,aR.A,an,by go_num,HE,Q.A,X.A⟩
    case measure=>exact ax
   |some x=>
    obtain⟨d,x2⟩:=x;rw[H] at z l;have HE:=E (show(aT++[(⟨sL c k,(d,x2)⟩:cJ)])++(c.drop (k+1)).filterMap (Bl s t f)=r by rw[n.A,l.A];rfl);have T:=E (show aN aH 234 #[O o (sS c k).length c4,J I t,J I f] p λe w'=>e=aQ (bn #[aY #[J I d,J I x2],aG true])/\aF p w' from z.A);clear H n l z;go_wp2_with fail;refine T.A.ah ?_;rintro e j⟨rfl,Z⟩;have Q:=E ((N.A.trans Z).alloc (aD #[J I d,J I x2] 65));have X:=E ((F.A.al Z.aC).alloc (aD #[J I d,J I x2] 65));have I1:=E ((lq.A.al Z.aC).al ((bk _ _).alloc (aO _) (aD #[J I d,J I x2] 65)));have Yc:=(q.A.al Z.aC q.A.lt).alloc (aD #[J I d,J I x2] 65);have dt:=E (show(aT.length+1)*40<=140737488355328 by have:=aR.A;omega);have Yd:=E (show w.heap.size<=(j.alloc (aD #[J I d,J I x2] 65)).heap.size from(bm.A.trans Q.A).size);have aM:=E bm.A.size;have V:=Yc.cell 0;simp at V;have AL:=aI.new j 65 #[J I d,J I x2];have k0:=AL.cell;clear Z q Yc AL;have DK:=E (show Sl ((j.alloc (aD #[J I d,J I x2] 65)).alloc (aD #[O g (sL c k).length c3,J I d,J I x2] 286)) (j.heap.size+2) (ad ⟨j.heap.size+1,0,M⟩) (1*kN.k) (λi=>[O g (sL c k).length c3,J I d,J I x2].getD i (aG false)) by
     have:=Sl.lit (j.alloc (aD #[J I d,J I x2] 65)) 286 [O g (sL c k).length c3,J I d,J I x2] (1*kN.k) rfl;rw[eO] at this;exact this)
    have fp:=E (show Rs kN ((j.alloc (aD #[J I d,J I x2] 65)).alloc (aD #[O g (sL c k).length c3,J I d,J I x2] 286)) B [⟨sL c k,(d,x2)⟩] [O g (sL c k).length c3,J I d,J I x2] from Rs.single ⟨_,rfl,I1.A.al ((bk _ _).alloc (aO _) _)⟩);have gH:=E (X.A.alloc (aD #[O g (sL c k).length c3,J I d,J I x2] 286));have dw:=E (Q.A.alloc (aD #[O g (sL c k).length c3,J I d,J I x2] 286));have py:=E (show aT.length+1<=bK/\m.heap.size<=((j.alloc (aD #[J I d,J I x2] 65)).alloc (aD #[O g (sL c k).length c3,J I d,J I x2] 286)).heap.size from⟨by simp only[bK];have:=dt.A;omega,dw.A.size⟩);have lr:=E (a8 di.A bm.A.size);go_wp2_with ((refine mZ kN au (.tmp 35) (.tmp 40) 241 au m.heap.size 40 _ ar QH au B _ aT au gH.A (ad ⟨j.heap.size+1,0,M⟩) 1 1 [⟨sL c k,(d,x2)⟩] [O g (sL c k).length c3,J I d,J I x2] au fp.A rfl (j.heap.size+2) DK.A py.A.1 dt.A py.A.2 lr.A QI ?_;intro S w' bC kj eZ));exact X9
  ·obtain rfl:k=c.length:=by omega
   exact Ya
section
open im (dT fe)
instance:Inhabited b8:=⟨⟨[],im.none_,0,0⟩⟩
def cX (x:List b8) (k:Nat):aZ:=(x.getD k default).L
def dx (x:List b8) (k:Nat):im.Hd:=(x.getD k default).h
def gl (x:List b8) (k:Nat):Int:=(x.getD k default).st
def oO (x:List b8) (k:Nat):Int:=(x.getD k default).v
noncomputable def sK (x:List b8) (k:Nat):Bool:=bH (cX x k)&&fe (dx x k)&&(decide (0<=gl x k)&&decide (gl x k<=2))&&(k==0||decide (cmpL (cX x (k-1)) (cX x k)<0))
noncomputable def fY (x:cy):Bool:=decide (x.ao.length<=16)&&(decide (0<=x.full)&&decide (x.full<=9007199254740992))&&cI x.ao.length (sK x.ao)
def jN:cy:=⟨[],0⟩
noncomputable def dQ (x:cy):cy:=if fY x=true then x else jN
def jO (x:List b8):List b8:=x.filter (λa=>!decide (a.st=0))
structure nX (w:aB) (B:Nat) (v:aE) (x:cy):Prop where
 A:∃u,v=aY #[u,J I x.full]/\Vs dV w B u x.ao
def nX.al {s:cy} (h:nX w B v s) (Z:aS w.heap.size w w'):nX w' B v s:=by
 obtain⟨u,e,a⟩:=h.A;exact⟨u,e,a.al Z⟩
def Rw.jP {l:List b8} (h:Rw dV w B ao n l) (hB:aS w.heap.size w wr) {k:Nat} (a:k<l.length):∃b off A0 c0,ao=ad (ab b off M)/\b<w.heap.size/\wr.cell? ⟨b,off+k*7,M⟩=ad (O A0 (cX l k).length c0)/\wr.cell? ⟨b,off+k*7+1,M⟩=ad (aG (dx l k).on)/\wr.cell? ⟨b,off+k*7+2,M⟩=ad (J I (dx l k).dB)/\wr.cell? ⟨b,off+k*7+3,M⟩=ad (aG (dx l k).hit)/\wr.cell? ⟨b,off+k*7+4,M⟩=ad (J I (dx l k).eW)/\wr.cell? ⟨b,off+k*7+5,M⟩=ad (J I (gl l k))/\wr.cell? ⟨b,off+k*7+6,M⟩=ad (J I (oO l k))/\Vs bE wr B (O A0 (cX l k).length c0) (cX l k):=by
 obtain⟨b,off,vs,e,Z,d,h2⟩:=h.aL hB a;rw[<-dr a] at d;obtain⟨v0,rfl,c⟩:=d;obtain⟨A0,c0,rfl,_⟩:=c.be;exact⟨b,off,A0,c0,e,Z,h2 0 _ rfl,h2 1 _ rfl,h2 2 _ rfl,h2 3 _ rfl,h2 4 _ rfl,h2 5 _ rfl,h2 6 _ rfl,c⟩
theorem QR (h:P:=by
 repeat (
  refine S4.step (λKK aJ=>?_);go_simp;first
   |(refine aJ _ ?_;clear aJ KK)
   |(apply lL;refine⟨λ_=>?_,aJ _ ?_⟩;(with_reducible exact aN.seq (CC.A _));clear aJ KK))
 refine S4.nb λwq hq=>?_;refine dP ?_;go_wp2;go_roundw;case rel=>exact⟨k+1,aR.A,by go_num,HN,bL.A.next hq⟩
 case measure=>exact ax
 ):P:=h
theorem QT (h:P:=by
 refine dY ?_;refine S4.nb λwq hq=>?_;refine dP ?_;go_wp2;go_roundw;case rel=>exact⟨k+1,aR.A,by go_num,HN,bL.A.next hq⟩
 case measure=>exact ax
 ):P:=h
theorem QU (h:P:=by
 go_enter func46,ntmps46;go_wp2;go_ret;exact⟨cc HS.A.symm,cW.A⟩;):P:=h
theorem I5 (h:P:=by
 go_wp2;go_ret;exact⟨cc HS.A.symm,cW.A.trans bL.A⟩;):P:=h
def QW {x:cy} (w:aB) (h:nX w B v x):aN aH 46 #[v] w λe w'=>e=aQ (aG (fY x))/\aF w w':=by
 obtain⟨u,rfl,D⟩:=h.A;obtain⟨ao,cap,rfl,G,hl,hc⟩:=D.be;have V:=E G;clear h D G;have cW:=E ((aF.refl w).alloc (aD #[O ao x.ao.length cap,J I x.full] 56));have HX:=E (aI.new w 56 #[O ao x.ao.length cap,J I x.full]);have d:=E (show fY x=(decide (x.ao.length<=16)&&(decide (0<=x.full)&&decide (x.full<=9007199254740992))&&cI x.ao.length (sK x.ao)) from rfl);have dv:=E (λk=>(show sK x.ao k=(bH (cX x.ao k)&&fe (dx x.ao k)&&(decide (0<=gl x.ao k)&&decide (gl x.ao k<=2))&&(k==0||decide (cmpL (cX x.ao (k-1)) (cX x.ao k)<0))) from rfl));generalize fY x=r at d⊢;obtain⟨a,full⟩:=x;dsimp only at*;have g0:=HX.A.cell;by_cases L:a.length<=16;case neg=>
  have HS:=E (show r=false by rw[d.A];simp[L]);exact QU
 by_cases S:0<=full;case neg=>
  have HS:=E (show r=false by rw[d.A];simp[S]);exact QU
 by_cases T:full<=9007199254740992;case neg=>
  have HS:=E (show r=false by rw[d.A];simp[T]);exact QU
 have K:=E (show r=cI a.length (sK a) by rw[d.A];simp[L,S,T]);have gh:=E (λk (F:k<a.length) (h:sK a k=false)=>(show r=false by rw[K.A,tV F h]));clear d;go_enter func46,ntmps46;go_wp2;clear g0;go_loopw [22] (λi wr=>∃k:Nat,k<=a.length/\i=J I k/\a6 (cI k (sK a)=true)/\aF (w.alloc (aD #[O ao a.length cap,J I full] 56)) wr) (λi _=>a.length-(intOf i).toNat);case atStart=>exact⟨0,an,rfl,E rfl,aF.refl _⟩
 case round=>
  obtain⟨k,F,rfl,N,hB⟩:=hrel;by_cases n:k<a.length
  ·obtain⟨b,off,A0,c0,rfl,cw,y0,y1,y2,y3,y4,y5,y6,s⟩:=V.A.jP (cW.A.trans hB).aC n;have HK:=E (dv.A k);have f:=E (gh.A k n);have H:=E (λh=>wW N.A (P:=sK a) h);have aR:=E n;have q:=E (hB.alloc (aD #[O A0 (cX a k).length c0,aG (dx a k).on,J I (dx a k).dB,aG (dx a k).hit,J I (dx a k).eW,J I (gl a k),J I (oO a k)] 62));have hq:=aI.new wr 62 #[O A0 (cX a k).length c0,aG (dx a k).on,J I (dx a k).dB,aG (dx a k).hit,J I (dx a k).eW,J I (gl a k),J I (oO a k)];have o:=(bk wr.heap.size wr).alloc (aO _) (aD #[O A0 (cX a k).length c0,aG (dx a k).on,J I (dx a k).dB,aG (dx a k).hit,J I (dx a k).eW,J I (gl a k),J I (oO a k)] 62);have m:=E (Iy _ (s.al o));have z:=E (s.al o);have g:=E (λW=>QK (dx a k).on (dx a k).dB (dx a k).hit (dx a k).eW W);have t:=E hq;clear s o hq n;generalize dS:bH (cX a k)=x1 at m HK;replace g:=E (show∀W,aN aH 65 #[aY #[aG (dx a k).on,J I (dx a k).dB,aG (dx a k).hit,J I (dx a k).eW]] W λe w'=>e=aQ (aG (fe (dx a k)))/\aS W.heap.size W w' from g.A);generalize fb:fe (dx a k)=x2 at g HK;clear dS fb;cases x1;case false=>
    have HS:=E (show r=false from f.A aqm);go_wp2_with fail;refine m.A.ah ?_;rintro e Y⟨rfl,Z⟩;have bL:=E (q.A.next Z);clear Z;exact I5
   go_wp2_with fail;refine m.A.ah ?_;rintro e Y⟨rfl,Z⟩;have bL:=E (q.A.next Z);have q1:=t.A.al Z t.A.lt;have U:=E (z.A.al Z);clear Z m z t q;have g1:=q1.cell;go_wp2_with fail;refine(g.A _).ah ?_;rintro e l⟨rfl,Z⟩;replace bL:=E (bL.A.next Z);have q2:=q1.al Z q1.lt;have IM:=E (U.A.al Z);clear Z g U g1 q1;cases x2;case false=>
    have HS:=E (show r=false from f.A aqm);exact I5
   have g5:=q2.cell 5;by_cases s0:0<=gl a k;case neg=>
    have HS:=E (show r=false from f.A (by rw[HK.A,aa s0];rfl));have d0:decide (gl a k<0)=true:=ac an;generalize gl a k=sx at*;exact I5
   by_cases s1:gl a k<=2;case neg=>
    have HS:=E (show r=false from f.A aqZ);have d0:decide (gl a k<0)=false:=aa an;have d1:decide (2<gl a k)=true:=ac an;generalize gl a k=sx at*;exact I5
   have c:=E (show sK a k=(k==0||decide (cmpL (cX a (k-1)) (cX a k)<0)) by rw[HK.A,ac s0,ac s1];rfl);have d0:decide (gl a k<0)=false:=aa an;have d1:decide (2<gl a k)=false:=aa an;have R:=HX.A.al bL.A.aC HX.A.lt;have z1:∀p:ba l,p.aL.cell? (ab wr.heap.size 0 M)=ad (O A0 (cX a k).length c0):=ba.cells q2 0;have z2:∀p:ba l,p.aL.cell? (ab w.heap.size 0 M)=ad (O (ad (ab b off M)) a.length cap):=ba.cells R 0;clear HK s0 s1 q2 R;generalize gl a k=sx at*;go_wp2_with fail;clear d0 d1 g5;by_cases c3:k=0;case pos=>
    have HN:=E (H.A (by rw[c.A,c3];rfl));have jD:decide (0<k)=false:=aa an;clear c3;refine du (cU 0 15 []) [] ?_;exact QT
   obtain⟨j,hj⟩:=aP (k-1);have jD:0<k:=an;have sk:j<a.length:=ai aR.A;have eV:I.wrap (j:Int)=(j:Int):=ay;have q7:(k:Int)-1=(j:Int):=an;obtain⟨b',tP,Fw,DA,e',LR,X,_,_,_,_,_,_,y⟩:=V.A.jP (cW.A.trans bL.A).aC sk;cases e';have z0:=λp:ba l=>p.cell (by have:=(cW.A.trans bL.A).size;show b<_;omega) X;have CC:=E (λp:ba l=>LK p.aL (y.al p.aC) (IM.A.al p.aC));rw[hj] at c;have C:(k==0)=false:=aw;rw[C] at c;clear hj X C y;by_cases c4:cmpL (cX a j) (cX a k)<0
   ·have HN:=E (H.A (by rw[c.A,ac c4];rfl));have c5:decide (0<=cmpL (cX a j) (cX a k))=false:=aa an;clear c4 c;generalize cmpL (cX a j) (cX a k)=tY at*;refine du (cU 0 15 []) [] ?_;exact QR
   ·have HS:=E (show r=false from f.A (by rw[c.A,aa c4];rfl));have c5:decide (0<=cmpL (cX a j) (cX a k))=true:=ac an;clear c4 c;generalize cmpL (cX a j) (cX a k)=tY at*;refine du (cU 0 15 []) [] ?_;repeat (
     refine S4.step (λKK aJ=>?_);go_simp;first
      |(refine aJ _ ?_;clear aJ KK)
      |(apply lL;refine⟨λ_=>?_,aJ _ ?_⟩;(with_reducible exact aN.seq (CC.A _));clear aJ KK))
    refine S4.nb λwq hq=>?_;refine dP ?_;go_wp2;replace bL:=E (bL.A.next hq);exact I5
  ·obtain rfl:k=a.length:=by omega
   have HS:=E (show r=true by rw[K.A];exact N.A);go_wp2;go_ret;exact⟨cc HS.A.symm,cW.A.trans hB⟩
end
variable {wait:Int} {f:cJ} {there:List (aZ×cJ)}
section
open im (dT fe pv aL gone none_)
def QX (c:α->α->Int) (x:α):∀l:List α,(ins c x l).Perm (x::l)
 |[]=>.refl _
 |y::l=>by
  unfold ins
  split
  ·exact .refl _
  ·exact((QX c x l).cons y).trans (.swap x y l)
def Mh (c:α->α->Int):∀l:List α,(oB c l).Perm l
 |[]=>.refl _
 |y::l=>(QX c y (oB c l)).trans ((Mh c l).cons y)
def Yp {o:β->β->Int} (ho:fS o) (f:α->β) (x:α):∀{l:List α},(l.Pairwise λx y=>¬o (f y) (f x)<0)->(ins (λx y=>o (f x) (f y)) x l).Pairwise λx y=>¬o (f y) (f x)<0
 |[],_=>by simp[ins]
 |y::l,h=>by
  have d:=List.pairwise_cons.1 h
  unfold ins
  split
  ·rename_i b;refine List.pairwise_cons.2 ⟨λz a=>?_,h⟩;rcases ee.1 a with rfl|a
   ·exact ho.asymm b
   ·intro c;exact d.1 z a (ho.trans c b)
  ·rename_i b;refine List.pairwise_cons.2 ⟨λz a=>?_,Yp ho f x d.2⟩;rcases ee.1 ((QX _ x l).mem_iff.1 a) with rfl|a
   ·exact b
   ·exact d.1 z a
def QY {o:β->β->Int} (ho:fS o) (f:α->β):∀l:List α,(oB (λx y=>o (f x) (f y)) l).Pairwise λx y=>¬o (f y) (f x)<0
 |[]=>List.Pairwise.nil
 |y::l=>Yp ho f y (QY ho f l)
def ahu {o:β->β->Int} (ho:fS o) (f:α->β) {l m:List α} (g:l.Perm m) (hn:(l.map f).Nodup) (k:l.Pairwise λx y=>¬o (f y) (f x)<0) (j:m.Pairwise λx y=>¬o (f y) (f x)<0):l=m:=by
 refine List.Perm.eq_of_pairwise (λa b d Z n h2=>?_) k j g;have e:f a=f b:=by
  rcases ho.AG (f a) (f b) with h|h|h
  ·exact ae h h2
  ·exact h
  ·exact ae h n
 have c:=g.mem_iff.2 Z;have:∀{l:List α},(l.map f).Nodup->a∈l->b∈l->a=b:=by
  intro l;induction l with
  |nil=>intro _ h;cases h
  |cons z l i=>
   intro hn d Z;rw[sd,List.nodup_cons] at hn;rcases ee.1 d with qX|E2
   ·rcases ee.1 Z with QZ|c
    ·rw[qX,QZ]
    ·exact ae (hM.2 ⟨b,c,by rw[<-e,qX]⟩) hn.1
   ·rcases ee.1 Z with QZ|c
    ·exact ae (hM.2 ⟨a,E2,by rw[e,QZ]⟩) hn.1
    ·exact i hn.2 E2 c
 exact this hn d c
def kU (s:ByteArray):List UInt8:=qU s.size++32::s.data.toList
def DM (p:ByteArray×ByteArray):List UInt8:=kU p.1++kU p.2
def iN (L:aZ):List UInt8:=L.flatMap DM
def sM (L:aZ):ByteArray:=⟨(iN L).toArray⟩
def Mi:∀i,i<100->((qU i).foldl (λn d=>n*10+(d.toNat-48)) 0=i/\(32:UInt8)∉qU i):=by
 intro i hi;by_cases h:i<10
 ·rw[Lib.decDigits_one h];revert h;clear hi;revert i;decide
 ·rw[Lib.decDigits_two h hi];revert hi;clear h;revert i;decide
def Yq:∀{a b r s:List UInt8},(32:UInt8)∉a->(32:UInt8)∉b->a++32::r=b++32::s->a=b/\r=s
 |[],[],r,s,_,_,h=>⟨rfl,am h⟩
 |[],y::b,r,s,_,Z,h=>by simp at h;exact ae h.1 (λe=>Z (by simp[<-e]))
 |x::a,[],r,s,ha,_,h=>by simp at h;exact ae h.1.symm (λe=>ha (by simp[e]))
 |x::a,y::b,r,s,ha,Z,h=>by
  simp at h
  obtain⟨c,h2⟩:=Yq (a:=a) (b:=b) (λh=>ha (by simp[h])) (λh=>Z (by simp[h])) h.2
  exact⟨by rw[h.1,c],h2⟩
def Yr {a b:ByteArray} {r s:List UInt8} (c:a.size<100) (Z:b.size<100) (h:kU a++r=kU b++s):a=b/\r=s:=by
 unfold kU at h;rw[mV,mV,List.cons_append,List.cons_append] at h;obtain⟨f,h2⟩:=Yq (Mi _ c).2 (Mi _ Z).2 h;have hs:a.size=b.size:=by rw[<-(Mi _ c).1,f,(Mi _ Z).1]
 have d:a.data.toList.length=b.data.toList.length:=am hs;obtain⟨e,h4⟩:=List.append_inj h2 d;refine⟨?_,h4⟩;cases a;cases b;simp only[ByteArray.mk.injEq] at*;exact Array.toList_inj.1 e
def Ys:∀{a b:aZ},(∀p∈a,p.1.size<100/\p.2.size<100)->(∀p∈b,p.1.size<100/\p.2.size<100)->iN a=iN b->a=b
 |[],[],_,_,_=>rfl
 |[],q::b,_,_,h=>by
  exfalso
  have:=congrArg oz h
  simp[iN,DM,kU] at this
 |p::a,[],_,_,h=>by
  exfalso
  have:=congrArg oz h
  simp[iN,DM,kU] at this
 |p::a,q::b,ha,Z,h=>by
  have g:iN (p::a)=kU p.1++(kU p.2++iN a):=by simp[iN,DM]
  have f:iN (q::b)=kU q.1++(kU q.2++iN b):=by simp[iN,DM]
  rw[g,f] at h
  obtain⟨e,h2⟩:=Yr (ha p av).1 (Z q av).1 h
  obtain⟨d,h4⟩:=Yr (ha p av).2 (Z q av).2 h2
  rw[Ys (λx c=>ha x (by simp[c])) (λx c=>Z x (by simp[c])) h4,Prod.ext e d]
def Mj (h:bH L=true):∀p∈L,p.1.size<100/\p.2.size<100:=λp a=>by
 have b:=((nN.1 h).2.1 p a);exact⟨ai b.1.2.1,an⟩
def ahv {a b:aZ} (c:bH a=true) (Z:bH b=true) (h:sM a=sM b):a=b:=by
 refine Ys (Mj c) (Mj Z) ?_;have:=congrArg (λx:ByteArray=>x.data.toList) h;simpa[sM] using this
instance (l:aZ) (ls:List aZ):Decidable (l∈ls):=decidable_of_iff (ls.any (λy=>decide (y=l))=true) (by simp)
noncomputable def pB (A:List cJ) (f:cJ):List cJ:=if bH f.L=true/\f.L∉A.map (·.L) then A++[f] else A
noncomputable def lW (l:List cJ):List cJ:=l.foldl pB []
def it (l:List cJ):List (aZ×cJ):=l.map λf=>(f.L,f)
def FE (there:List (aZ×cJ)) (t wait keep:Int) (a:b8):b8:=⟨a.L,pv a.h (gF there a.L).isSome t wait,aL (pv a.h (gF there a.L).isSome t wait) t keep,(match gF there a.L with|some f=>f.x.2|none=>a.v)⟩
def kr (there:List (aZ×cJ)) (t wait keep:Int) (m:List (aZ×b8)) (a:b8):List (aZ×b8):=if gone (FE there t wait keep a).h t keep=true then jI (eF m a.L (FE there t wait keep a)) a.L else eF m a.L (FE there t wait keep a)
def FF (t wait keep:Int) (f:cJ):b8:=⟨f.L,pv none_ true t wait,aL (pv none_ true t wait) t keep,f.x.2⟩
def fx (t wait keep:Int) (s:List (aZ×b8)×Int) (f:cJ):List (aZ×b8)×Int:=if(gF s.1 f.L).isSome=true then s else if 16<=s.1.length then(s.1,min (s.2+1) 9007199254740992) else(eF s.1 f.L (FF t wait keep f),s.2)
noncomputable def uh (l:List b8):List b8:=oB (λx y=>fu (dG x.L) (dG y.L)) l
noncomputable def Br (x:cy) (l:List cJ) (t wait keep:Int):List (aZ×b8)×Int:=(lW l).foldl (fx t wait keep) ((dQ x).ao.foldl (kr (it (lW l)) t wait keep) [],(dQ x).full)
noncomputable def stepT (x:cy) (l:List cJ) (t wait keep:Int):cy:=⟨uh ((Br x l t wait keep).1.map (·.2)),(Br x l t wait keep).2⟩
def Q0 (f:β->α->β) (b:β) {l:List α} {k:Nat} (a:k<l.length):(l.take (k+1)).foldl f b=f ((l.take k).foldl f b) l[k]:=by
 rw[yz a,List.foldl_append];rfl
def Yt (l:List cJ):(∀f∈lW l,bH f.L=true/\f∈l)/\((lW l).map (·.L)).Nodup:=by
 suffices H:∀(l A:List cJ) (S:cJ->Prop),(∀f∈A,bH f.L=true/\S f)->(A.map (·.L)).Nodup->(∀f∈l,S f)->(∀f∈l.foldl pB A,bH f.L=true/\S f)/\((l.foldl pB A).map (·.L)).Nodup from H l [] (·∈l) av av (λf h=>h)
 intro l;induction l with
 |nil=>intro A S c h2 _;exact⟨c,h2⟩
 |cons f l j=>
  intro A S c h2 i;refine j _ S ?_ ?_ (λg hg=>i g (by simp[hg]))
  ·unfold pB;split
   ·rename_i d;intro g hg;rcases kf.1 hg with hg|hg
    ·exact c g hg
    ·rw[bD] at hg;subst hg;exact⟨d.1,i _ av⟩
   ·exact c
  ·unfold pB;split
   ·rename_i d;rw[lK,List.nodup_append];exact⟨h2,av,λa k b Z=>by simp at Z;subst Z;exactλe=>d.2 (e▸k)⟩
   ·exact h2
def Mk {κ ν:Type} [DecidableEq κ] {a:κ} {v:ν}:∀{es:List (κ×ν)},(eF es a v).length<=es.length+1
 |[]=>by simp[eF]
 |y::es=>by
  unfold eF
  split
  ·simp
  ·have:=Mk (a:=a) (v:=v) (es:=es);simp;omega
def Yu {κ ν:Type} [DecidableEq κ] {a:κ}:∀{es:List (κ×ν)},(jI es a).length<=es.length
 |[]=>by simp[jI]
 |y::es=>by
  unfold jI
  split
  ·simp
  ·have:=Yu (a:=a) (es:=es);simp;omega
structure oP (S:aZ->Prop) (m:List (aZ×b8)):Prop where
 lj:jt m
 ok:∀e∈m,e.1=e.2.L/\bH e.2.L=true/\fe e.2.h=true/\0<=e.2.st/\e.2.st<=2/\S e.2.L
def Yv (h:im.Hd) (t k:Int):0<=aL h t k/\aL h t k<=2:=by
 unfold aL im.E9;split
 ·omega
 ·split<;>omega
def oP.put {S:aZ->Prop} {m:List (aZ×b8)} (h:oP S m) {a:b8} (d:bH a.L=true) (h2:fe a.h=true) (c:0<=a.st/\a.st<=2) (h4:S a.L):oP S (eF m a.L a):=⟨h.lj.eF,λe b=>by
 rcases LA b with rfl|b
 ·exact⟨rfl,d,h2,c.1,c.2,h4⟩
 ·exact h.ok e b⟩
def oP.kr {S:aZ->Prop} {m:List (aZ×b8)} {t keep:Int} (h:oP S m) {a:b8} (d:bH a.L=true) (h4:S a.L):oP S (kr there t wait keep m a):=by
 have b:oP S (eF m a.L (FE there t wait keep a)):=h.put (a:=FE there t wait keep a) d (im.Wl _ _ _ _) (Yv _ _ _) h4;unfold YtbeaddlblpgppaaGreatDoor.kr;split
 ·exact⟨b.lj.jI,λe c=>b.ok e (PH c)⟩
 ·exact b
def ahw {m:List (aZ×b8)} {t keep:Int} {a:b8}:(kr there t wait keep m a).length<=m.length+1:=by
 unfold kr;split
 ·exact a8 Yu Mk
 ·exact Mk
def oP.fx {S:aZ->Prop} {s:List (aZ×b8)×Int} {t keep:Int} (h:oP S s.1) {f:cJ} (b:bH f.L=true) (h4:S f.L):oP S (fx t wait keep s f).1:=by
 unfold YtbeaddlblpgppaaGreatDoor.fx;split
 ·exact h
 ·split
  ·exact h
  ·exact h.put (a:=FF t wait keep f) b (im.Wl _ _ _ _) (Yv _ _ _) h4
def ahx {s:List (aZ×b8)×Int} {t keep:Int} (h:s.1.length<=16):(fx t wait keep s f).1.length<=16:=by
 unfold fx;split
 ·exact h
 ·split
  ·exact h
  ·have:=Mk (a:=f.L) (v:=FF t wait keep f) (es:=s.1);simp only;omega
def Yw {s:List (aZ×b8)×Int} {t keep:Int} (h:0<=s.2/\s.2<=9007199254740992):0<=(fx t wait keep s f).2/\(fx t wait keep s f).2<=9007199254740992:=by
 unfold fx;split
 ·exact h
 ·split
  ·simp only;omega
  ·exact h
theorem Yx (h:P:=by
 rw[List.getElem_map,List.getElem_map];have:=((FG yV).1 (h3 _ yV)).2;rcases this with h|h
 ·omega
 ·rw[Nat.add_sub_cancel,Q1 an] at h;unfold cmpL at h;rwa[nO (hs _ (dl _)).1,nO (hs _ (dl _)).1] at h
 ):P:=h
theorem Yy (h:P:=by
 rcases kJ k with h|h
 ·exact .inl h
 ·refine .inr ?_;rw[Q1 an];unfold cmpL;rw[nO (h3 _ (dl _)).1,nO (h3 _ (dl _)).1];exact yw.1 h4 (k-1) k _ hk an
 ):P:=h
def qk {x:cy}:fY x=true↔x.ao.length<=16/\(0<=x.full/\x.full<=9007199254740992)/\(∀a∈x.ao,bH a.L=true/\fe a.h=true/\0<=a.st/\a.st<=2)/\x.ao.Pairwise λa b=>fu a.L b.L<0:=by
 have FG:∀{k:Nat} (hk:k<x.ao.length),sK x.ao k=true↔(bH x.ao[k].L=true/\fe x.ao[k].h=true/\(0<=x.ao[k].st/\x.ao[k].st<=2))/\(k=0\/cmpL (cX x.ao (k-1)) x.ao[k].L<0):=by
  intro k hk;unfold sK cX dx gl;rw[dr hk];simp[and_assoc]
 have Q1:∀{k:Nat} (hk:k<x.ao.length),cX x.ao k=x.ao[k].L:=λ{k} hk=>by unfold cX;rw[dr hk]
 unfold fY;rw[b9,b9,b9,decide_eq_true_eq,decide_eq_true_eq,decide_eq_true_eq,mw];constructor
 ·rintro⟨⟨d,h2⟩,h3⟩;have hs:∀a∈x.ao,bH a.L=true/\fe a.h=true/\0<=a.st/\a.st<=2:=λa e=>by
   obtain⟨k,hk,rfl⟩:=qV.1 e;have:=((FG hk).1 (h3 k hk)).1;exact⟨this.1,this.2.1,this.2.2.1,this.2.2.2⟩
  refine⟨d,h2,hs,?_⟩;have c:e8 (λa b:aZ=>fu a b) (x.ao.map (·.L)):=by
   refine e8.of_next lg λi hi=>?_;have yV:i+1<x.ao.length:=am hi;exact Yx
  unfold e8 at c;rw[sf] at c;exact c
 ·rintro⟨d,h2,h3,h4⟩;refine⟨⟨d,h2⟩,λk hk=>(FG hk).2 ⟨?_,?_⟩⟩
  ·have:=h3 _ (dl hk);exact⟨this.1,this.2.1,this.2.2.1,this.2.2.2⟩
  ·exact Yy
def Bt (x:cy):fY (dQ x)=true:=by
 unfold dQ;split
 ·assumption
 ·rw[qk];simp[jN]
def oP.sort {S:aZ->Prop} {m:List (aZ×b8)} (h:oP S m):(∀a∈uh (m.map (·.2)),bH a.L=true/\fe a.h=true/\0<=a.st/\a.st<=2/\S a.L)/\((m.map (·.2)).map λa=>dG a.L).Nodup/\((uh (m.map (·.2))).Pairwise λa b=>fu a.L b.L<0):=by
 have hs:∀a∈uh (m.map (·.2)),∃e∈m,e.2=a:=λa i=>by
  have:=(Mh _ _).mem_iff.1 i;obtain⟨e,g,rfl⟩:=hM.1 this;exact⟨e,g,rfl⟩
 have j:∀a∈uh (m.map (·.2)),bH a.L=true/\fe a.h=true/\0<=a.st/\a.st<=2/\S a.L:=λa i=>by
  obtain⟨e,g,rfl⟩:=hs a i;exact(h.ok e g).2
 have h2:((m.map (·.2)).map λa=>dG a.L).Nodup:=by
  rw[List.map_map];unfold List.Nodup;rw[sf];refine List.Pairwise.imp_of_mem (λ{x y} f d c=>?_) h.lj;have k:=h.ok x f;have l:=h.ok y d;simp only[Function.comp];rw[nO k.2.1,nO l.2.1,<-k.1,<-l.1];exact c
 refine⟨j,h2,?_⟩;have n:(uh (m.map (·.2))).Pairwise λx y=>¬fu (dG y.L) (dG x.L)<0:=QY lg (λa:b8=>dG a.L) _;have hn:((uh (m.map (·.2))).map λa=>dG a.L).Nodup:=((Mh _ _).map _).nodup_iff.2 h2;unfold List.Nodup at hn;rw[sf] at hn;refine List.Pairwise.imp_of_mem (λ{x y} f d c=>?_) (n.and hn);have p:=nO (j x f).1;have o:=nO (j y d).1;rw[p,o] at c;rcases lg.AG x.L y.L with h|h|h
 ·exact h
 ·exact ae h c.2
 ·exact ae h c.1
def Ml (x:cy) (l:List cJ) (t wait keep:Int):oP (λL=>(∃a∈(dQ x).ao,a.L=L)\/∃f∈l,f.L=L) (Br x l t wait keep).1/\(Br x l t wait keep).1.length<=16/\0<=(Br x l t wait keep).2/\(Br x l t wait keep).2<=9007199254740992:=by
 have n:=qk.1 (Bt x);have q:=Yt l;unfold Br;generalize dQ x=c at*;generalize lW l=d at*;have r:∀(zs:List b8) (m:List (aZ×b8)),(∀a∈zs,a∈c.ao)->oP (λL=>(∃a∈c.ao,a.L=L)\/∃f∈l,f.L=L) m->oP (λL=>(∃a∈c.ao,a.L=L)\/∃f∈l,f.L=L) (zs.foldl (YtbeaddlblpgppaaGreatDoor.kr (it d) t wait keep) m)/\(zs.foldl (YtbeaddlblpgppaaGreatDoor.kr (it d) t wait keep) m).length<=m.length+zs.length:=by
  intro zs;induction zs with
  |nil=>intro m _ h;exact⟨h,av⟩
  |cons a zs k=>
   intro m e h2;have p:=e a av;have:=k (YtbeaddlblpgppaaGreatDoor.kr (it d) t wait keep m a) (λb Z=>e b (by simp[Z])) (h2.kr (n.2.2.1 a p).1 (.inl ⟨a,p,rfl⟩));refine⟨this.1,a8 this.2 ?_⟩;have:=ahw (m:=m) (there:=it d) (t:=t) (wait:=wait) (keep:=keep) (a:=a);simp only[pY];omega
 have e:=r c.ao [] (λa h=>h) ⟨List.Pairwise.nil,av⟩;have hB:∀(i:List cJ) (s:List (aZ×b8)×Int),(∀f∈i,f∈d)->oP (λL=>(∃a∈c.ao,a.L=L)\/∃f∈l,f.L=L) s.1->s.1.length<=16->(0<=s.2/\s.2<=9007199254740992)->oP (λL=>(∃a∈c.ao,a.L=L)\/∃f∈l,f.L=L) (i.foldl (YtbeaddlblpgppaaGreatDoor.fx t wait keep) s).1/\(i.foldl (YtbeaddlblpgppaaGreatDoor.fx t wait keep) s).1.length<=16/\0<=(i.foldl (YtbeaddlblpgppaaGreatDoor.fx t wait keep) s).2/\(i.foldl (YtbeaddlblpgppaaGreatDoor.fx t wait keep) s).2<=9007199254740992:=by
  intro i;induction i with
  |nil=>intro s _ e h2 j;exact⟨e,h2,j.1,j.2⟩
  |cons f i k=>
   intro s e h2 j h4;have o:=q.1 f (e f av);exact k _ (λg hg=>e g (by simp[hg])) (h2.fx o.1 (.inr ⟨f,o.2,rfl⟩)) (ahx j) (Yw h4)
 exact hB d _ (λf h=>h) e.1 (by have:=e.2;have:=n.1;simp at*;omega) n.2.1
def ahy (x:cy) (l:List cJ) (t wait keep:Int):fY (stepT x l t wait keep)=true:=by
 obtain⟨d,h2,c,h4⟩:=Ml x l t wait keep;obtain⟨g1,g2,g3⟩:=d.sort;rw[qk];refine⟨?_,⟨c,h4⟩,λa b=>?_,g3⟩
 ·show(uh _).length<=16;unfold uh;rw[Vu,p6];exact h2
 ·have:=g1 a b;exact⟨this.1,this.2.1,this.2.2.1,this.2.2.2.1⟩
def ahz (x:cy) (l:List cJ) (t wait keep:Int):∀a∈(stepT x l t wait keep).ao,(∃b∈(dQ x).ao,b.L=a.L)\/∃f∈l,f.L=a.L:=λa c=>by
 obtain⟨d,_⟩:=Ml x l t wait keep;exact(d.sort.1 a c).2.2.2.2
end
variable {x:dC}
section
open im (dT fe)
def lv:ByteArray:=⟨#[97,108,101,114,116,110,97,109,101]⟩
def DN:ByteArray:=⟨#[97,108,101,114,116,115,116,97,116,101]⟩
def FH:ByteArray:=⟨#[65,76,69,82,84,83]⟩
def ahA:ByteArray:=⟨#[112,101,110,100,105,110,103]⟩
def ahB:ByteArray:=⟨#[102,105,114,105,110,103]⟩
def DO (st:Int):ByteArray:=if st=1 then ahA else if st=2 then ahB else⟨#[]⟩
def vC (k:ByteArray):Bool:=decide (k=iH)||decide (k=lv)||decide (k=DN)
def zi (L:aZ):Bool:=L.any λp=>vC p.1
def gm (d:Int):Bool:=decide (0<=d)&&decide (d<=9007199254740992)
def rp (o:Int):Bool:=decide (1<=o)&&decide (o<=6)
noncomputable def rq (x:wV):Bool:=kT x.s&&rp x.op&&j6 x.v
noncomputable def ku (r:cv):Bool:=db r.n&&rq r.x&&gm r.wait&&gm r.keep&&bH r.L&&!zi r.L
def rN (R:List cv) (i:Nat):ByteArray:=(R.getD i default).n
noncomputable def lX (R:List cv) (i:Nat):Bool:=ku (R.getD i default)&&!((R.take i).any λr=>decide (r.n=rN R i))
noncomputable def lY (g:cC):Bool:=db g.n&&gm g.br&&!decide (g.br=0)&&(decide (0<=g.off)&&decide (g.off<g.br))&&decide (g.R.length<=16)&&cI g.R.length (lX g.R)
def Mm (F:List cC) (i:Nat):ByteArray:=(F.getD i default).n
noncomputable def nY (F:List cC) (i:Nat):Bool:=lY (F.getD i default)&&!((F.take i).any λg=>decide (g.n=Mm F i))
noncomputable def jf (F:List cC):Bool:=decide (F.length<=16)&&cI F.length (nY F)
noncomputable def sN (g:cC) (last aL:Int):Option (Int×Int):=let aL:=min aL 9007199254740992;if lY g=false\/aL<g.off then M else let b:=(aL-g.off)/g.br;let t:=g.off+b*g.br;if t<=last then M else ad (t,if g.off<=last then b-((last-g.off)/g.br+1) else b)
noncomputable def sO (r:cv) (l:aZ):Option aZ:=(so (tU l iH) r.L).bind λm=>so m [(lv,r.n)]
def xi (op v xj:Int):Bool:=if op=1 then decide (xj<v) else if op=2 then decide (xj<=v) else if op=3 then decide (v<xj) else if op=4 then decide (v<=xj) else if op=5 then decide (v=xj) else if op=6 then !decide (v=xj) else false
noncomputable def DP (A:List cJ) (l:aZ):Bool:=A.any λf=>decide (cmpL f.L l=0)
noncomputable def kc (r:cv) (A:List cJ) (f:cJ):List cJ:=if xi r.x.op f.x.2 r.x.v=true then match sO r f.L with
 |none=>A
 |some l=>if DP A l=true then A else A++[⟨l,f.x⟩] else A
noncomputable def sP (st:List cr) (r:cv) (t:Int):List cJ:=if ku r=true then(zg st r.x.s t 300000).foldl (kc r) [] else[]
noncomputable def xk (a:b8):Option aZ:=(vk a.L iH FH).bind λl=>vk l DN (DO a.st)
noncomputable def lw (t:Int) (s:List cr×Int) (a:b8):List cr×Int:=match xk a with
 |none=>(s.1,s.2+1)
 |some l=>
  match ra s.1 l (t,1000) with
  |none=>(s.1,s.2+1)
  |some st=>(st,s.2)
noncomputable def ui (st:List cr) (x:cy) (t:Int):List cr×Int:=(jO (dQ x).ao).foldl (lw t) (gS st,0)
def sQ (tabs:List cy) (i:Nat):cy:=tabs.getD i jN
noncomputable def vD (tabs:List cy) (t:Int) (s:List cr×List cy×Int) (r:cv):List cr×List cy×Int:=let x:=stepT (sQ tabs s.2.1.length) (sP s.1 r t) t r.wait r.keep;let w:=ui s.1 x t;(w.1,s.2.1++[x],s.2.2+w.2)
noncomputable def np (st:List cr) (g:cC) (tabs:List cy) (t:Int):List cr×List cy×Int:=g.R.foldl (vD tabs t) (gS st,[],0)
def Nm (n:ByteArray) (x:cy):Prop:=∀a∈x.ao,gD a.L lv=ad n
def ahC:pq lv:=by
 refine⟨aq,aq,λi hi=>?_⟩;have:i<9:=hi;unfold vi;revert i;decide
def ahD {r:cv} (h:ku r=true):pq r.n:=by
 unfold ku at h;simp only[b9] at h;exact nM.1 h.1.1.1.1.1
def ahE {r:cv} {l m:aZ} (b:ku r=true) (h:sO r l=ad m):bH m=true/\gD m lv=ad r.n:=by
 unfold sO at h;obtain⟨c,d,h2⟩:=Option.bind_eq_some_iff.1 h;refine⟨afY h2,afX h2 ?_⟩;rw[nO]
 ·simp
 ·rw[nN];refine⟨av,?_,by simp[e8]⟩;intro p a;rw[bD] at a;subst a;exact⟨ahC,(ahD b).2.1⟩
def ahF (st:List cr) (r:cv) (t:Int):∀f∈sP st r t,bH f.L=true/\gD f.L lv=ad r.n:=by
 unfold sP;split
 ·rename_i c;have:∀(l A:List cJ),(∀f∈A,bH f.L=true/\gD f.L lv=ad r.n)->∀f∈l.foldl (kc r) A,bH f.L=true/\gD f.L lv=ad r.n:=by
   intro l;induction l with
   |nil=>intro A h;exact h
   |cons g l b=>
    intro A h;refine b _ ?_;unfold kc;split
    ·cases d:sO r g.L with
     |none=>exact h
     |some m=>
      simp only;split
      ·exact h
      ·intro f a;rcases kf.1 a with a|a
       ·exact h f a
       ·rw[bD] at a;subst a;exact ahE c d
    ·exact h
  exact this _ [] av
 ·simp
def Nm.lR {n:ByteArray} {x:cy} (h:Nm n x):Nm n (dQ x):=by
 unfold dQ;split
 ·exact h
 ·intro a b;simp[jN] at b
def Nm.step {n:ByteArray} {x:cy} (h:Nm n x) {l:List cJ} (c:∀f∈l,gD f.L lv=ad n) (t wait keep:Int):Nm n (stepT x l t wait keep):=λa d=>by
 rcases ahz x l t wait keep a d with⟨b,Z,e⟩|⟨f,hf,e⟩
 ·rw[<-e];exact h.lR b Z
 ·rw[<-e];exact c f hf
def YA {st:List cr} (b:st.length<=32) (h2:∀y∈st,qe y.L=true/\y.S≠[]/\km y.S=true) (a:Ir st):eY st=true:=vm.2 ⟨b,h2,a⟩
def YB {st m:List cr} {l:aZ} (h:ra st l x=ad m):eY m=true:=by
 have j:=vm.1 (Fb st);unfold ra at h;simp only at h;generalize gS st=c at*;split at h
 ·cases h
 rename_i hn;rw[Bool.not_eq_false] at hn;split at h
 ·cases h
 rename_i s hs;have o:=af4 hs;split at h
 ·rename_i f;unfold sq at f;rw[b9,decide_eq_true_eq,decide_eq_true_eq] at f;cases h;refine YA (am j.1) (λy d=>?_) ?_
  ·rcases List.mem_or_eq_of_mem_set d with d|rfl
   ·exact j.2.1 y d
   ·exact⟨by rw[f.2];exact hn,o.2,o.1⟩
  ·have n:=j.2.2;unfold Ir at*;have r:(c.set (ahead l c) ⟨sL c (ahead l c),s⟩).map (·.L)=c.map (·.L):=by
    rw[List.map_set];show(c.map (·.L)).set (ahead l c) (sL c (ahead l c))=_;apply List.ext_getElem?;intro i;rw[List.getElem?_set];split
    ·rename_i e;subst e;unfold sL;rw[dr f.1,p6,ag f.1,tJ,cR f.1];rfl
    ·rfl
   have g:∀l:List cr,l.Pairwise (λx y=>fu x.L y.L<0)↔(l.map (·.L)).Pairwise (λa b=>fu a b<0):=λl=>by rw[sf]
   rw[g,r,<-g];exact n
 ·rename_i f;split at h
  ·cases h
  rename_i v;cases h;have u:=PA l c;refine YA aw (λy d=>?_) ?_
  ·rcases kf.1 d with d|d
   ·exact j.2.1 y (List.mem_of_mem_take d)
   ·rcases ee.1 d with rfl|d
    ·exact⟨hn,o.2,o.1⟩
    ·exact j.2.1 y (arC d)
  ·have n:=j.2.2;unfold Ir at*;have Z:=Wo (l:=l) (st:=c);have q:∀y∈c.drop (ahead l c),fu l y.L<0:=by
    intro y d;obtain⟨i,hi,rfl⟩:=qV.1 d;rw[oy] at hi;rw[List.getElem_drop];rcases kJ i with rfl|h0
    ·have g:=PB (l:=l) (st:=c) an;rcases lg.AG (c[ahead l c]'an).L l with k|k|k
     ·exact ae k g
     ·exfalso;apply f;unfold sq sL;rw[dr an,b9,decide_eq_true_eq,decide_eq_true_eq];exact⟨an,k⟩
     ·simpa using k
    ·exact lg.gt.1 (Wq n an an)
   refine List.pairwise_append.2 ⟨n.sublist (List.take_sublist _ _),List.pairwise_cons.2 ⟨q,n.sublist (List.drop_sublist _ _)⟩,λa t b p=>?_⟩;have g:=Z a t;rcases ee.1 p with rfl|p
   ·exact g
   ·exact lg.trans g (q b p)
def ahG {t:Int} {s:List cr×Int} {a:b8} (h:eY s.1=true/\0<=s.2):eY (lw t s a).1=true/\0<=(lw t s a).2/\(lw t s a).2<=s.2+1:=by
 unfold lw;split
 ·exact⟨h.1,arf,av⟩
 ·split
  ·exact⟨h.1,arf,av⟩
  ·rename_i st hs;exact⟨YB hs,h.2,arf⟩
def YC (st:List cr) (x:cy) (t:Int):eY (ui st x t).1=true/\0<=(ui st x t).2/\(ui st x t).2<=16:=by
 have d:(jO (dQ x).ao).length<=16:=a8 (List.length_filter_le _ _) (qk.1 (Bt x)).1;unfold ui;generalize jO (dQ x).ao=zs at*;have:∀(zs:List b8) (s:List cr×Int),eY s.1=true/\0<=s.2->eY (zs.foldl (lw t) s).1=true/\0<=(zs.foldl (lw t) s).2/\(zs.foldl (lw t) s).2<=s.2+zs.length:=by
  intro zs;induction zs with
  |nil=>intro s h;exact⟨h.1,h.2,av⟩
  |cons a zs c=>
   intro s h;have b:=ahG (t:=t) (a:=a) h;have h2:=c _ ⟨b.1,b.2.1⟩;refine⟨h2.1,h2.2.1,?_⟩;simp only[List.foldl_cons,pY];have:=h2.2.2;push_cast at*;omega
 have h:=this zs (gS st,0) ⟨Fb st,av⟩;refine⟨h.1,h.2.1,?_⟩;have:=h.2.2;simp only at this;omega
structure YD (R:List cv) (k:Nat) (s:List cr×List cy×Int):Prop where
 st:eY s.1=true
 len:s.2.1.length=k
 tab:∀i (h:i<s.2.1.length),fY s.2.1[i]=true/\Nm (rN R i) s.2.1[i]
 off:0<=s.2.2/\s.2.2<=16*k
def YE (st:List cr) (g:cC) (tabs:List cy) (t:Int) (l:∀i (h:i<tabs.length),Nm (rN g.R i) tabs[i]):YD g.R g.R.length (np st g tabs t):=by
 have b:∀k,k<=g.R.length->YD g.R k ((g.R.take k).foldl (vD tabs t) (gS st,[],0)):=by
  intro k;induction k with
  |zero=>intro _;exact⟨Fb st,rfl,λi h=>by simp at h,av⟩
  |succ k j=>
   intro p;have h:=j an;rw[Q0 _ _ (show k<g.R.length by omega)];generalize(g.R.take k).foldl (vD tabs t) (gS st,[],0)=s at*;have hg:g.R[k]'an=g.R.getD k default:=(dr an).symm;have hn:Nm (rN g.R k) (sQ tabs s.2.1.length):=by
    unfold sQ;rw[h.len];by_cases d:k<tabs.length
    ·rw[dd,cR d];exact l k d
    ·rw[dd,List.getElem?_eq_none an];intro a o;simp[jN] at o
   have hs:=ahy (sQ tabs s.2.1.length) (sP s.1 g.R[k] t) t g.R[k].wait g.R[k].keep;have m:Nm (rN g.R k) (stepT (sQ tabs s.2.1.length) (sP s.1 g.R[k] t) t g.R[k].wait g.R[k].keep):=hn.step (λf n=>by
    rw[(ahF _ _ _ f n).2];unfold rN;rw[hg]) _ _ _
   have e:=YC s.1 (stepT (sQ tabs s.2.1.length) (sP s.1 g.R[k] t) t g.R[k].wait g.R[k].keep) t;unfold vD;refine⟨e.1,by simp[h.len],λi hi=>?_,?_⟩
   ·simp only[b2,p8] at hi;simp only;rw[List.getElem_append];split
    ·rename_i c;exact h.tab i c
    ·rename_i c;have:i=k:=ai h.len;subst this;simp only[List.getElem_singleton];exact⟨hs,m⟩
   ·have c:=h.off;have h2:=e.2;simp only;push_cast;omega
 have:=b g.R.length (aO _);rwa[pZ] at this
end
def Jm (d:Int) (w:aB):aN aH 18 #[J I d] w λe w'=>e=aQ (aG (gm d))/\w'=w:=by
 go_enter func18,ntmps18;go_wp2;all_goals go_ret
 all_goals refine⟨cc ?_,rfl⟩
 all_goals rw[Bool.eq_iff_iff]
 all_goals simp only[gm,Bool.or_eq_true,b9,decide_eq_true_eq,beq_iff_eq,true_iff,tL,false_iff]
 all_goals omega
def ux (s:ByteArray):Nat->Int
 |0=>0
 |k+1=>min (ux s k*10+((dp s k:Int)-48)) 9007199254740993
def RQ (s:ByteArray):∀k,(∀j,j<k->l0 (dp s j)=true)->0<=ux s k/\ux s k<=9007199254740993
 |0,_=>by simp[ux]
 |k+1,h=>by
  have a:=RQ s k (λj hj=>h j an)
  have h2:=h k an
  simp only[l0,b9,decide_eq_true_eq] at h2
  simp only[ux]
  omega
def ajz (s:ByteArray) (w:aB) (hs:s.size<=9223372036854775807):aN aH 217 #[ap s] w λe w'=>(∃k:Nat,e=aQ (bn #[J I (ux s k),J I k])/\ib l0 s 0 k)/\w'=w:=by
 have y:=E hs;go_enter func217,ntmps217;go_wp2;go_loopw [4,5] (λn f wr=>∃k:Nat,k<=s.size/\n=J I (ux s k)/\f=J I k/\a6 (∀j,0<=j->j<k->l0 (dp s j)=true)/\wr=w) (λ_ f _=>s.size-(intOf f).toNat);case atStart=>exact⟨0,an,rfl,rfl,E (λj D h2=>by omega),rfl⟩
 case round=>
  obtain⟨k,r,rfl,rfl,b,rfl⟩:=hrel;have F:=y.A;have l:=E (RQ s k (λj hj=>b.A j (bV _) hj));have i:=E (show ux s (k+1)=min (ux s k*10+((dp s k:Int)-48)) 9007199254740993 from rfl);by_cases x:k<s.size
  ·have v:=zp x;obtain⟨c,g⟩:=aP (dp s k);rw[g] at v i;have p:=E g;clear g;obtain⟨N,a⟩:=aP (ux s k);rw[a] at l i;have q:=E a;simp only[a];clear a;have H:=l.A.1;have G:=l.A.2;cases Z:l0 c with
   |true=>
    have o:=Z;simp only[l0,b9,decide_eq_true_eq] at o;obtain⟨q1,q2⟩:=o;have d1:decide ((48:Int)<=(c:Int))=true:=ac an;have u:decide ((c:Int)<=57)=true:=ac an;have m:decide (48<=c)=true:=ac q1;have t:decide (c<=57)=true:=ac q2;have C:IntKind.u8.wrap ((c:Int)-48)=(c:Int)-48:=by rw[IntKind.wrap_u8];omega
    have B:I.wrap ((c:Int)-48)=(c:Int)-48:=ay;have A:I.wrap (N*10)=N*10:=ay;have z:I.wrap (N*10+((c:Int)-48))=N*10+((c:Int)-48):=ay;go_wp2;go_roundw;case rel=>exact⟨k+1,an,by rw[i.A],by go_num,E (ZL b.A (by rw[p.A];exact Z)),trivial⟩
    case measure=>exact aA
   |false=>
    have d:=E (show ib l0 s 0 k from⟨bV _,r,b.A,λ_=>by rw[p.A];exact Z⟩);by_cases q1:48<=c
    ·have q2:¬c<=57:=λh=>by simp[l0,q1,h] at Z
     have d1:decide ((48:Int)<=(c:Int))=true:=ac an;have u:decide ((c:Int)<=57)=false:=aa an;have m:decide (48<=c)=true:=ac q1;have t:decide (c<=57)=false:=aa q2;clear Z;go_wp2;go_ret2;exact⟨⟨k,by rw[q.A];rfl,d.A⟩,rfl⟩
    ·have d1:decide ((48:Int)<=(c:Int))=false:=aa an;have m:decide (48<=c)=false:=aa q1;clear Z;go_wp2;go_ret2;exact⟨⟨k,by rw[q.A];rfl,d.A⟩,rfl⟩
  ·obtain rfl:k=s.size:=by omega
   have d:=E (show ib l0 s 0 s.size from⟨bV _,aO _,b.A,λh=>ae h (Nat.lt_irrefl _)⟩);go_wp2;go_ret2;exact⟨⟨s.size,rfl,d.A⟩,rfl⟩
def mK (sum n size:Int):Int:=if sum>9007199254740992\/n>(9007199254740992-sum)/size then 9007199254740993 else sum+n*size
theorem RR (h:P:=by
 go_enter func219,ntmps219;go_wp2;go_ret;rw[HE.A];exact⟨rfl,rfl⟩;):P:=h
def Jn (sum n size:Int) (w:aB) (hs:0<=sum/\sum<=9007199254740993) (hn:0<=n/\n<=9007199254740993) (t:1<=size/\size<=86400000):aN aH 219 #[J I sum,J I n,J I size] w λe w'=>e=aQ (J I (mK sum n size))/\w'=w:=by
 by_cases p:sum>9007199254740992
 ·have HE:=E (show mK sum n size=9007199254740993 by unfold mK;rw[ag (.inl p)]);exact RR
 have k:(9007199254740992-sum).tdiv size=(9007199254740992-sum)/size:=Int.tdiv_eq_ediv_of_nonneg an;have s:0<=(9007199254740992-sum)/size:=Int.ediv_nonneg an an;have g:(9007199254740992-sum)/size<=9007199254740992-sum:=Int.ediv_le_self _ an;have r:(size==0)=false:=aw;have v:I.wrap (9007199254740992-sum)=9007199254740992-sum:=ay;have c:(9007199254740992-sum)/size*size<=9007199254740992-sum:=Int.ediv_mul_le _ an;have o:decide (9007199254740992<sum)=false:=aa an;obtain⟨q,d⟩:=aP ((9007199254740992-sum)/size);have a:=E (show mK sum n size=if sum>9007199254740992\/n>q then 9007199254740993 else sum+n*size by unfold mK;rw[d]);rw[d] at k s g c;clear d;have u:I.wrap q=q:=ay;by_cases h2:n>q
 ·have HE:=E (show mK sum n size=9007199254740993 by rw[a.A,ag (.inr h2)]);clear a c;exact RR
 ·have HE:=E (show mK sum n size=sum+n*size by rw[a.A,af an]);have l:n*size<=q*size:=Int.mul_le_mul_of_nonneg_right an an;have f:0<=n*size:=Int.mul_nonneg hn.1 an;obtain⟨m,b⟩:=aP (n*size);have j:I.wrap (n*size)=m:=by rw[b,b7];omega
  have i:I.wrap (sum+m)=sum+m:=ay;rw[b] at HE;clear a c l f b;exact RR
def Jo {sum n size:Int} (hs:0<=sum/\sum<=9007199254740993) (hn:0<=n/\n<=9007199254740993) (b:1<=size/\size<=86400000):0<=mK sum n size/\mK sum n size<=9007199254740993:=by
 unfold mK;split
 ·omega
 ·rename_i h;have d:(9007199254740992-sum)/size*size<=9007199254740992-sum:=Int.ediv_mul_le _ an;have c:n*size<=(9007199254740992-sum)/size*size:=Int.mul_le_mul_of_nonneg_right an an;have a:0<=n*size:=Int.mul_nonneg hn.1 an;omega
def Z3 (o:Int) (w:aB):aN aH 38 #[J I o] w λe w'=>e=aQ (aG (rp o))/\w'=w:=by
 go_enter func38,ntmps38;go_wp2;all_goals go_ret
 all_goals refine⟨cc ?_,rfl⟩
 all_goals rw[Bool.eq_iff_iff]
 all_goals simp only[rp,Bool.or_eq_true,b9,decide_eq_true_eq,beq_iff_eq,true_iff,tL,false_iff]
 all_goals omega
def ajA:iH.toList=[95,95,110,97,109,101,95,95]:=ar
def ajB:lv.toList=[97,108,101,114,116,110,97,109,101]:=ar
def ajC:DN.toList=[97,108,101,114,116,115,116,97,116,101]:=ar
def ajD (k:ByteArray) (w:aB):aN aH 40 #[ap k] w λe w'=>e=aQ (aG (vC k))/\w'=w:=by
 go_enter func40,ntmps40;go_wp2;all_goals go_ret
 all_goals refine⟨cc ?_,rfl⟩
 all_goals
  have a:vC k=((k.toList==[95,95,110,97,109,101,95,95]||k.toList==[97,108,101,114,116,110,97,109,101])||k.toList==[97,108,101,114,116,115,116,97,116,101]):=by
   unfold vC;rw[<-j9,<-j9,<-j9,ajA,ajB,ajC]
  rw[a];try simp[*]
def ajE (a:k<L.length):(L.drop k).any (λp=>vC p.1)=(vC L[k].1||(L.drop (k+1)).any (λp=>vC p.1)):=by
 rw[pf a,List.any_cons]
def Z4 (w:aB) (h:Vs bE w B v L):aN aH 20 #[v] w λe w'=>e=aQ (aG (zi L))/\aF w w':=by
 have l:=E (show(L.drop 0).any (λp=>vC p.1)=zi L from rfl);generalize zi L=r at l⊢;obtain⟨ao,c,rfl,n,z,A⟩:=h.hN;clear h;have s:=E n;clear n;go_enter func20,ntmps20;go_wp2;go_loopw [7] (λi wr=>∃k:Nat,k<=L.length/\i=J I k/\aF w wr/\a6 ((L.drop k).any (λp=>vC p.1)=r)) (λi _=>L.length-(intOf i).toNat);case atStart=>exact⟨0,an,rfl,aF.refl _,l⟩
 case round=>
  clear l;obtain⟨k,t,rfl,g,m⟩:=hrel;by_cases j:k<L.length
  ·obtain⟨b,off,rfl,y,u,x⟩:=s.A.cells (B:=0) g.aC j;have d:=E (ajE j);rw[sA j,m.A] at d;have aR:=E j;generalize nm L k=s0 at*;generalize vl L k=s1 at*;have o:=E (g.alloc (aD #[ap s0,ap s1] 78));have a:=ajD s0 (wr.alloc (aD #[ap s0,ap s1] 78));clear g m;cases Z:vC s0 with
   |true=>
    rw[Z] at a d;have f:=E (show r=true by rw[d.A];rfl);go_wp2_with fail;refine a.ah ?_;rintro e q⟨rfl,rfl⟩;clear a;go_wp2;go_ret;exact⟨cc f.A.symm,o.A⟩
   |false=>
    rw[Z] at a d;have f:=E (show(L.drop (k+1)).any (λp=>vC p.1)=r by rw[d.A];rfl);go_wp2_with fail;refine a.ah ?_;rintro e q⟨rfl,rfl⟩;clear a;go_wp2;go_roundw;case rel=>exact⟨k+1,aR.A,by go_num,o.A,f⟩
    case measure=>exact ax
  ·obtain rfl:k=L.length:=by omega
   have f:=E (show r=false by rw[<-m.A,qT];rfl);go_wp2;go_ret;exact⟨cc f.A.symm,g⟩
structure vO (w:aB) (B:Nat) (v:aE) (x:wV):Prop where
 A:∃u,v=aY #[ap x.s.n,u,J I x.op,J I x.v]/\x.s.n.size<=9223372036854775807/\Vs jG w B u x.s.aU
def vO.al {s:wV} (h:vO w B v s) (Z:aS w.heap.size w w'):vO w' B v s:=by
 obtain⟨u,e,a,h2⟩:=h.A;exact⟨u,e,a,h2.al Z⟩
theorem Z5 (h:P:=by
 go_enter func17,ntmps17;go_wp2_with fail;refine(H0.A _ HB.A).ah ?_;rintro e w2⟨rfl,Z⟩;replace HX:=E (HX.A.al Z.aC HX.A.lt);replace HB:=E (HB.A.trans Z);clear Z;have g0:=HX.A.cell;go_wp2_with fail;refine(H1.A _ HB.A).ah ?_;rintro e w1⟨rfl,rfl⟩;go_wp2_with fail;refine(H2.A _ HB.A).ah ?_;rintro e w1⟨rfl,rfl⟩;go_wp2;go_ret;exact⟨cc HE.A.symm,am HB.A⟩;):P:=h
theorem RT (h:P:=by
 replace HX:=E (HX.A.al Z.aC HX.A.lt);replace HB:=E (HB.A.trans Z);clear Z;have g0:=HX.A.cell;go_wp2;go_ret;exact⟨cc HE.A.symm,am HB.A⟩;):P:=h
theorem M1 (h:P:=by
 rintro e w1⟨rfl,rfl⟩;go_wp2;go_ret;exact⟨cc HE.A.symm,am HB.A⟩;):P:=h
def Z6 {x:wV} (w:aB) (h:vO w B v x):aN aH 17 #[v] w λe w'=>e=aQ (aG (rq x))/\aF w w':=by
 obtain⟨u,rfl,hn,d⟩:=h.A;have b:=E (show rq x=(kT x.s&&rp x.op&&j6 x.v) from rfl);generalize rq x=r at b⊢;obtain⟨A0,c0,rfl,_⟩:=d.be;have HB:=E ((aF.refl w).alloc (aD #[ap x.s.n,O A0 x.s.aU.length c0,J I x.op,J I x.v] 48));have HX:=E (aI.new w 48 #[ap x.s.n,O A0 x.s.aU.length c0,J I x.op,J I x.v]);have H0:=E (λW (Z:aF w W)=>QE (v:=aY #[ap x.s.n,O A0 x.s.aU.length c0]) (s:=x.s) W ⟨_,rfl,hn,d.al Z.aC⟩);have H1:=E (λW (Z:aF w W)=>Z3 x.op W);have H2:=E (λW (Z:aF w W)=>Fl x.v W);clear h d;cases cN:kT x.s with
 |false=>
  have HE:=E (show r=false by rw[b.A];simp[cN]);rw[cN] at H0;go_enter func17,ntmps17;go_wp2_with fail;refine(H0.A _ HB.A).ah ?_;rintro e w2⟨rfl,Z⟩;exact RT
 |true=>
  rw[cN] at H0;cases a:rp x.op with
  |false=>
   have HE:=E (show r=false by rw[b.A];simp[cN,a]);rw[a] at H1;go_enter func17,ntmps17;go_wp2_with fail;refine(H0.A _ HB.A).ah ?_;rintro e w2⟨rfl,Z⟩;replace HX:=E (HX.A.al Z.aC HX.A.lt);replace HB:=E (HB.A.trans Z);clear Z;have g0:=HX.A.cell;go_wp2_with fail;refine(H1.A _ HB.A).ah ?_;exact M1
  |true=>
   rw[a] at H1;cases c:j6 x.v with
   |false=>
    have HE:=E (show r=false by rw[b.A];simp[cN,a,c]);rw[c] at H2;exact Z5
   |true=>
    rw[c] at H2;have HE:=E (show r=true by rw[b.A];simp[cN,a,c]);exact Z5
def rI (w:aB) (B:Nat) (v:aE) (x:cv):Prop:=Av lS w B x v
def rI.be {x:cv} (h:rI w B v x):∃A2 c2 A7 c7,v=aY #[ap x.n,ap x.x.s.n,O A2 x.x.s.aU.length c2,J I x.x.op,J I x.x.v,J I x.wait,J I x.keep,O A7 x.L.length c7]/\x.n.size<=9223372036854775807/\x.x.s.n.size<=9223372036854775807/\Vs jG w B (O A2 x.x.s.aU.length c2) x.x.s.aU/\Vs bE w B (O A7 x.L.length c7) x.L:=by
 obtain⟨cs,rfl,v2,v7,rfl,b,h2,a,h4⟩:=h;obtain⟨A2,c2,rfl,_⟩:=a.be;obtain⟨A7,c7,rfl,_⟩:=h4.be;exact⟨A2,c2,A7,c7,rfl,b,h2,a,h4⟩
theorem Z7 (h:P:=by
 go_enter func8,ntmps8;go_wp2_with fail;refine(H0.A _ HB.A).ah ?_;rintro e w1⟨rfl,rfl⟩;go_wp2_with fail;refine(H1.A _ HB.A).ah ?_;rintro e w3⟨rfl,Z⟩;replace HX:=E (HX.A.al Z.aC HX.A.lt);replace HB:=E (HB.A.trans Z);clear Z;have g0:=HX.A.cell;go_wp2_with fail;refine(H2.A _ HB.A).ah ?_;rintro e w1⟨rfl,rfl⟩;go_wp2_with fail;refine(H3.A _ HB.A).ah ?_;rintro e w1⟨rfl,rfl⟩;go_wp2_with fail;refine(H4.A _ HB.A).ah ?_;rintro e w6⟨rfl,Z⟩;replace HX:=E (HX.A.al Z.aC HX.A.lt);replace HB:=E (HB.A.trans Z);clear Z;have g0:=HX.A.cell;go_wp2_with fail;refine(H5.A _ HB.A).ah ?_;rintro e w7⟨rfl,Z⟩;replace HX:=E (HX.A.al Z.aC HX.A.lt);replace HB:=E (HB.A.trans Z);clear Z;have g0:=HX.A.cell;go_wp2;go_ret;exact⟨cc HE.A.symm,am HB.A⟩;):P:=h
def M3 {x:cv} (w:aB) (h:rI w B v x):aN aH 8 #[v] w λe w'=>e=aQ (aG (ku x))/\aF w w':=by
 obtain⟨A2,c2,A7,c7,rfl,hn,k,j,i⟩:=h.be;have b:=E (show ku x=(db x.n&&rq x.x&&gm x.wait&&gm x.keep&&bH x.L&&!zi x.L) from rfl);generalize ku x=r at b⊢;have HB:=E ((aF.refl w).alloc (aD #[ap x.n,ap x.x.s.n,O A2 x.x.s.aU.length c2,J I x.x.op,J I x.x.v,J I x.wait,J I x.keep,O A7 x.L.length c7] 51));have HX:=E (aI.new w 51 #[ap x.n,ap x.x.s.n,O A2 x.x.s.aU.length c2,J I x.x.op,J I x.x.v,J I x.wait,J I x.keep,O A7 x.L.length c7]);have H0:=E (λW (Z:aF w W)=>mu x.n W hn);have H1:=E (λW (Z:aF w W)=>Z6 (v:=aY #[ap x.x.s.n,O A2 x.x.s.aU.length c2,J I x.x.op,J I x.x.v]) (x:=x.x) W ⟨_,rfl,k,j.al Z.aC⟩);have H2:=E (λW (Z:aF w W)=>Jm x.wait W);have H3:=E (λW (Z:aF w W)=>Jm x.keep W);have H4:=E (λW (Z:aF w W)=>MU W (i.al Z.aC));have H5:=E (λW (Z:aF w W)=>Z4 W (i.al Z.aC));have g0:=HX.A.cell;clear h j i;cases cN:db x.n with
 |false=>
  have HE:=E (show r=false by rw[b.A];simp[cN]);rw[cN] at H0;go_enter func8,ntmps8;go_wp2_with fail;refine(H0.A _ HB.A).ah ?_;exact M1
 |true=>
  rw[cN] at H0;cases a:rq x.x with
  |false=>
   have HE:=E (show r=false by rw[b.A];simp[cN,a]);rw[a] at H1;go_enter func8,ntmps8;go_wp2_with fail;refine(H0.A _ HB.A).ah ?_;rintro e w1⟨rfl,rfl⟩;go_wp2_with fail;refine(H1.A _ HB.A).ah ?_;rintro e w3⟨rfl,Z⟩;exact RT
  |true=>
   rw[a] at H1;cases c:gm x.wait with
   |false=>
    have HE:=E (show r=false by rw[b.A];simp[cN,a,c]);rw[c] at H2;go_enter func8,ntmps8;go_wp2_with fail;refine(H0.A _ HB.A).ah ?_;rintro e w1⟨rfl,rfl⟩;go_wp2_with fail;refine(H1.A _ HB.A).ah ?_;rintro e w3⟨rfl,Z⟩;replace HX:=E (HX.A.al Z.aC HX.A.lt);replace HB:=E (HB.A.trans Z);clear Z;have g0:=HX.A.cell;go_wp2_with fail;refine(H2.A _ HB.A).ah ?_;exact M1
   |true=>
    rw[c] at H2;cases d:gm x.keep with
    |false=>
     have HE:=E (show r=false by rw[b.A];simp[cN,a,c,d]);rw[d] at H3;go_enter func8,ntmps8;go_wp2_with fail;refine(H0.A _ HB.A).ah ?_;rintro e w1⟨rfl,rfl⟩;go_wp2_with fail;refine(H1.A _ HB.A).ah ?_;rintro e w3⟨rfl,Z⟩;replace HX:=E (HX.A.al Z.aC HX.A.lt);replace HB:=E (HB.A.trans Z);clear Z;have g0:=HX.A.cell;go_wp2_with fail;refine(H2.A _ HB.A).ah ?_;rintro e w1⟨rfl,rfl⟩;go_wp2_with fail;refine(H3.A _ HB.A).ah ?_;exact M1
    |true=>
     rw[d] at H3;cases f:bH x.L with
     |false=>
      have HE:=E (show r=false by rw[b.A];simp[cN,a,c,d,f]);rw[f] at H4;go_enter func8,ntmps8;go_wp2_with fail;refine(H0.A _ HB.A).ah ?_;rintro e w1⟨rfl,rfl⟩;go_wp2_with fail;refine(H1.A _ HB.A).ah ?_;rintro e w3⟨rfl,Z⟩;replace HX:=E (HX.A.al Z.aC HX.A.lt);replace HB:=E (HB.A.trans Z);clear Z;have g0:=HX.A.cell;go_wp2_with fail;refine(H2.A _ HB.A).ah ?_;rintro e w1⟨rfl,rfl⟩;go_wp2_with fail;refine(H3.A _ HB.A).ah ?_;rintro e w1⟨rfl,rfl⟩;go_wp2_with fail;refine(H4.A _ HB.A).ah ?_;rintro e w6⟨rfl,Z⟩;exact RT
     |true=>
      rw[f] at H4;cases g:zi x.L with
      |true=>
       have HE:=E (show r=false by rw[b.A];simp[cN,a,c,d,f,g]);rw[g] at H5;exact Z7
      |false=>
       rw[g] at H5;have HE:=E (show r=true by rw[b.A];simp[cN,a,c,d,f,g]);exact Z7
variable {b:Nat}
def abB (h:n<100):(qU n).length<=2:=by
 by_cases a:n<10
 ·rw[Lib.decDigits_one a];simp
 ·rw[Lib.decDigits_two a h];simp
def SZ {s:ByteArray} (h:s.size<100):(kU s).length<=102:=by
 have:=abB h;have h2:s.data.toList.length=s.size:=av;unfold kU;simp only[b2,pY,h2];omega
def S1:∀{L:aZ},(∀p∈L,p.1.size<100/\p.2.size<100)->(iN L).length<=L.length*204
 |[],_=>by simp[iN]
 |p::L,h=>by
  have c:=S1 (L:=L) (λq a=>h q (by simp[a]))
  have h2:=SZ (h p av).1
  have b:=SZ (h p av).2
  have:iN (p::L)=kU p.1++kU p.2++iN L:=by simp[iN,DM]
  rw[this]
  simp only[b2,pY]
  omega
def akW (a:k<L.length):iN (L.take (k+1))=iN (L.take k)++DM L[k]:=by
 unfold iN;rw[yz a,List.flatMap_append];simp
def _root_.Go.Lib.BuilderAt.abC {p:aE} {bs:List aE} (h:Lib.BuilderAt T e B b p bs w) (o:Obj):Lib.BuilderAt T e B b p bs (w.alloc o):=by
 have d:=h.lt;obtain⟨c,v,h2,a,h4⟩:=h;exact⟨c,v,(Lib.alloc_old w o b d).trans h2,a.alloc o,h4⟩
def strSize (w:aB):(Go.sizeOf 9).run aH w= .ok 1 w:=ar
def akX (a b:aE) (w:aB):(mX 334 (aY #[a,b]) (J I 0)).run aH w= .ok a w:=by
 unfold mX;simp[asIntOf,mf underlying334,part,isAgg,strSize,mf underlying9]
def akY (a b:aE) (w:aB):(mX 334 (aY #[a,b]) (J I 1)).run aH w= .ok b w:=by
 unfold mX;simp[asIntOf,mf underlying334,part,isAgg,strSize,mf underlying9]
abbrev El (B b:Nat) (l:List UInt8) (w:aB):Prop:=Lib.IsBuilder 333 5 B b (Lib.byteCells l) w
def S2 {G:Nat} (w:aB) (h:Vs bE w G v L) (hs:bH L=true):aN aH 187 #[v] w λe w'=>e=aQ (ap (sM L))/\aF w w':=by
 have cg:=(nN.1 hs).1;have Q:=E (Mj hs);obtain⟨ao,c,rfl,R,cn,b4⟩:=h.hN;clear h;have HP:=E R;clear R;have U:=E (show El w.heap.size w.heap.size (iN (L.take 0)) (w.alloc (aD #[.pointer M,O M 0 0] 333)) from Lib.fresh_isBuilder _ _ w);have X:=E ((aF.refl w).alloc (aD #[.pointer M,O M 0 0] 333));go_enter func187,ntmps187;go_wp2;go_loopw [10] (λi wr=>∃k:Nat,k<=L.length/\i=J I k/\aF w wr/\a6 (El w.heap.size w.heap.size (iN (L.take k)) wr)) (λi _=>L.length-(intOf i).toNat);case atStart=>exact⟨0,an,rfl,X.A,U⟩
 case round=>
  clear U X;obtain⟨k,hk,rfl,d,a⟩:=hrel;by_cases C:k<L.length
  ·obtain⟨b,off,rfl,cw,ft,dS⟩:=HP.A.cells (B:=0) d.aC C;have H:=E (akW C);have T:=E (show(iN (L.take k)).length<=3264 from a8 (S1 λp hp=>Q.A p (List.mem_of_mem_take hp)) (by rw[tH];omega));have t:=E (Q.A L[k] (dl C));rw[sA C] at H t;generalize nm L k=s0 at*;generalize vl L k=s1 at*;have V:=E (d.alloc (aD #[ap s0,ap s1] 78));have K:=E (show El w.heap.size w.heap.size (iN (L.take k)) (wr.alloc (aD #[ap s0,ap s1] 78)) from a.A.imp (λh=>h.abC _) (λh=>h.abC _));have Y:=E (show iN (L.take (k+1))=iN (L.take k)++(kU s0++kU s1) from H.A);have aR:=E C;generalize iN (L.take k)=aT at*;clear d a H;go_wp2;go_loopw [19] (λi N=>∃j:Nat,j<=2/\i=J I j/\aF w N/\a6 (El w.heap.size w.heap.size (aT++(if j=0 then[] else if j=1 then kU s0 else kU s0++kU s1)) N)) (λi _=>2-(intOf i).toNat);case atStart=>exact⟨0,an,rfl,V.A,E (am K.A)⟩
   case round=>
    clear V K;obtain⟨j,hj,rfl,g,a⟩:=hrel;have r:∀(s:ByteArray) (l:List UInt8) (W:aB),s.size<100->l.length<=4000->aF w W->El w.heap.size w.heap.size l W->aN aH 225 #[bl (ad (ab w.heap.size 0 M)),ap ⟨(qU s.size).toArray⟩] W λe f=>e=aQ (bn #[J I ((qU s.size).length:Nat),.nilIface])/\aF w f/\aN aH 226 #[bl (ad (ab w.heap.size 0 M)),J .u8 32] f λe o=>e=aQ .nilIface/\aF w o/\aN aH 225 #[bl (ad (ab w.heap.size 0 M)),ap s] o λe u=>e=aQ (bn #[J I s.size,.nilIface])/\aF w u/\El w.heap.size w.heap.size (l++kU s) u:=by
     intro s l W hs ha hB hI;have hd:=abB hs;refine(abz w.heap.size w.heap.size _ ⟨(qU s.size).toArray⟩ W hI (by rw[Lib.byteCells_length];show l.length+(qU s.size).toArray.size<=_;rw[lM];omega) hB.size).ah ?_;rintro e f⟨rfl,S,aW⟩;have d:aF w f:=aF.of (hB.aC.trans aW);refine⟨rfl,d,?_⟩;rw[Lib.strCells_eq,<-Lib.byteCells_append] at S;refine(akV w.heap.size w.heap.size _ 32 f (.inr S) (by rw[Lib.byteCells_length,b2];show l.length+(qU s.size).toArray.toList.length+1<=_;simp;omega) d.size).ah ?_;rintro e o⟨rfl,h2,bd⟩;have z:aF w o:=aF.of (d.aC.trans bd);refine⟨rfl,z,?_⟩;rw[show(J .u8 32)=J .u8 ((32:UInt8).toNat:Int) from rfl,show[J .u8 ((32:UInt8).toNat:Int)]=Lib.byteCells [32] from rfl,<-Lib.byteCells_append] at h2;refine(abz w.heap.size w.heap.size _ s o (.inr h2) (by rw[Lib.byteCells_length,b2,b2];show l.length+(qU s.size).toArray.toList.length+1+s.size<=_;simp;omega) z.size).ah ?_;rintro e u⟨rfl,F,ct⟩;refine⟨rfl,aF.of (z.aC.trans ct),.inr ?_⟩;rw[Lib.strCells_eq,<-Lib.byteCells_append] at F;have he:l++(qU s.size).toArray.toList++[32]++s.data.toList=l++kU s:=by unfold kU;simp
     rw[show(⟨(qU s.size).toArray⟩:ByteArray).data.toList=(qU s.size).toArray.toList from rfl,he] at F;exact F
    have r:=E r;rcases(show j=0\/j=1\/j=2 by omega) with rfl|rfl|rfl
    ·have D:=E (r.A s0 _ _ t.A.1 (by have:=T.A;simp;omega) g a.A);have y:=Tryz.strconv_Itoa_small s0.size t.A.1;have fL:=λW=>akX (ap s0) (ap s1) W;clear a g r;go_wp2_with fail;refine(y _).ah ?_;rintro e f⟨rfl,rfl⟩;clear y;go_wp2_with fail;refine D.A.ah ?_;rintro e f⟨rfl,d,n⟩;clear D;have n:=E n;go_wp2_with fail;refine n.A.ah ?_;rintro e o⟨rfl,z,m⟩;clear n;have m:=E m;go_wp2_with fail;refine m.A.ah ?_;rintro e u⟨rfl,g,q⟩;clear m;have q:=E q;go_wp2;go_roundw;case rel=>exact⟨1,an,by go_num,g,E (am q.A)⟩
     case measure=>simp[intOf]
    ·have D:=E (r.A s1 _ _ t.A.2 (by have:=T.A;have:=SZ t.A.1;simp;omega) g a.A);have y:=Tryz.strconv_Itoa_small s1.size t.A.2;have fL:=λW=>akY (ap s0) (ap s1) W;clear a g r;go_wp2_with fail;refine(y _).ah ?_;rintro e f⟨rfl,rfl⟩;clear y;go_wp2_with fail;refine D.A.ah ?_;rintro e f⟨rfl,d,n⟩;clear D;have n:=E n;go_wp2_with fail;refine n.A.ah ?_;rintro e o⟨rfl,z,m⟩;clear n;have m:=E m;go_wp2_with fail;refine m.A.ah ?_;rintro e u⟨rfl,g,q⟩;clear m;have q:=E q;go_wp2;go_roundw;case rel=>exact⟨2,an,by go_num,g,E (am q.A)⟩
     case measure=>simp[intOf]
    ·have HE:=E (show El w.heap.size w.heap.size (iN (L.take (k+1))) wr by rw[Y.A];simpa using a.A);clear a r;go_wp2;go_roundw;case rel=>exact⟨k+1,aR.A,by go_num,g,HE⟩
     case measure=>exact ax
  ·obtain rfl:k=L.length:=by omega
   rw[pZ] at a;have bS:=Tryz.Builder_String_any w.heap.size w.heap.size (iN L) wr a.A d.size;clear a;go_wp2_with fail;refine bS.ah ?_;rintro e f⟨rfl,Z⟩;go_wp2;go_ret;exact⟨rfl,aF.of (d.aC.trans Z)⟩
end Go.Proofs.YtbeaddlblpgppaaGreatDoor
