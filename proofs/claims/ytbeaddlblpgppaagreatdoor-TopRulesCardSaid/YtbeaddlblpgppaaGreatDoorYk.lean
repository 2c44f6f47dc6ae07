/- watchtowertop, TopRules: what fires is a rule's. Conditions: none. -/
import Derived.Test.YtbeaddlblpgppaaGreatDoorYj
import Derived.Test.YtbeaddlblpgppaaGreatDoorCards
import Derived.Test.YtbeaddlblpgppaaGreatDoorTie
import Derived.Deep.DeepHandedRow
import Derived.LaidMore
import Derived.Lay
import Derived.LaidOnce
import Derived.SevenTiedAt
import Derived.JoinedCond
set_option maxRecDepth 100000
set_option maxHeartbeats 8000000
set_option linter.unusedVariables false
set_option linter.unusedSimpArgs false
set_option linter.defProp false
open Go.Lib renaming hid->E
open Go.IntKind renaming i64->I
open Go.Value renaming int->J,slice->O,string->ap,tuple->bn,ownBlock->qS
open Option renaming none->M,some->ad
open Go.Addr renaming mk->ab
open Go renaming World->aB,Value->aE,Calls->aN,Addr->aX,TypeId->bf,results->bz,bodyPost_ret->bF,maxLen->bK,Program->cp
open Go.Obj renaming cells->aD
open Go.Proofs.Tryz renaming prog->aH
open Nat renaming le_refl->aO,le_trans->a8,zero_le->bV,eq_zero_or_pos->kJ,succ_mul->oA,mul_le_mul_right->sa
open Go.Ending renaming returned->aQ
open Go.RowKit renaming Hid->a6
open List renaming length_append->b2,getElem?_eq_getElem->cR,getD_eq_getElem?_getD->dd,mem_map->hM,map_append->lK,length_singleton->p8,range->se
open Bool renaming and_eq_true->b9
open Array renaming getElem?_eq_some_iff->lJ
open Go.DataW renaming trod->qW
open Option.some renaming inj->tM
open Go.Proofs.Tryz
namespace Go.Proofs.YtbeaddlblpgppaaGreatDoor
open Go.RowKit
variable {v2 v1:aE} {B2:Nat}
open bw
def aor {G3 G4:List cC} {B1:Nat} (w:aB) (hG:eK w) (bg:B1<=w.heap.size) (bN:B2<=w.heap.size) (fo:jf G3=true) (b6:jf G4=true) (d:Vs fG w B1 v1 G3) (h2:Vs fG w B2 v2 G4):aN aH 69 #[v1,v2] w λe w'=>(∃u0 u1 u2:aE,e=aQ (bn #[u0,u1,u2])/\∃l:List (ByteArray×ByteArray),Vs oD w' w'.heap.size u0 l)/\aF w w':=by
 have tj:=E (aeC w hG bg fo d);have l8:=E (λW (Z:aF w W)=>aeC W (hG.rel Z) (a8 bN Z.size) b6 (h2.al Z.aC));have uI:=E (λW (Z:aF w W)=>aeu W (a8 bg Z.size) fo (d.al Z.aC));have fZ:=E (λW (Z:aF w W)=>aeu W (a8 bN Z.size) b6 (h2.al Z.aC));clear d h2 fo b6 bg bN hG;go_enter func69,ntmps69;go_wp2_with fail;refine tj.A.ah ?_;rintro e w1⟨⟨Ra,rfl,M⟩,aW⟩;have HA:=E M;have bR:=E aW;clear M aW tj;go_wp2_with fail;refine(l8.A w1 bR.A).ah ?_;rintro e w2⟨⟨Rb,rfl,L⟩,bd⟩;have X:=E L;have sJ:=E (HA.A.al bd.aC);have bm:=E (bR.A.trans bd);clear L bd l8 HA bR;go_wp2_with fail;refine(fZ.A w2 bm.A).ah ?_;rintro e w3⟨⟨bj,G,rfl,N,H⟩,ct⟩;obtain⟨ao,cap,rfl,O,cn,b4⟩:=N.vs.be;have a3:=E O;have TR:=E H;have Ve:=E (sJ.A.al ct.aC);have Vf:=E (X.A.al ct.aC);have bA:=E (bm.A.trans ct);have bi:G.length<=9223372036854775807:=an;clear N H O cn b4 ct fZ sJ X bm;go_wp2;go_loopw [9,10,23] (λs c i wr=>∃(n:Nat) (ls lc:List Key),n<=G.length/\i=J I n/\aF w3 wr/\a6 (Ow oD wr 0 w3.heap.size s ls)/\a6 (Ow oD wr 0 w3.heap.size c lc)/\a6 (ls.length<=n/\lc.length<=n)/\a6 (∀b,s.ownBlock=ad b->c.ownBlock=ad b->False)) (λ_ _ i _=>G.length-(intOf i).toNat);case atStart=>exact⟨0,[],[],an,rfl,aF.refl _,E (Ow.bh _ _ _ _),E (Ow.bh _ _ _ _),E ⟨av,av⟩,E λb h=>by simp[qS] at h⟩
 case round=>
  obtain⟨n,ls,lc,hn,rfl,hB,f,j,o,C⟩:=hrel;by_cases V:n<G.length
  ·obtain⟨x,K⟩:=aP (G[n]);obtain⟨b,off,rfl,il,y0,y1,z,u⟩:=a3.A.Ux hB.aC V K;have t:=E (show x.1.size<=9223372036854775807/\x.2.size<=9223372036854775807 from⟨z,u⟩);have aR:=E V;have dM:=E (show ls.length<=300/\lc.length<=300 by have:=o.A;have:=TR.A;omega);have g:=(aF.refl wr).alloc (aD #[ap x.1,ap x.2] 67);have HX:=E (aI.new wr 67 #[ap x.1,ap x.2]);have Y:=E (aes (wr.alloc (aD #[ap x.1,ap x.2] 67)) x (Ve.A.al (hB.trans g).aC) (Vf.A.al (hB.trans g).aC) ⟨z,u⟩);have a:=E (hB.trans g);replace f:=E (f.A.al g.aC);replace j:=E (j.A.al g.aC);clear z u g hB K il;go_wp2_with fail;refine Y.A.ah ?_;rintro e w4⟨⟨qu,rfl⟩,k⟩;replace a:=E (a.A.trans k);replace f:=E (f.A.al k.aC);replace j:=E (j.A.al k.aC);replace HX:=E (HX.A.al k.aC HX.A.lt);have r:=E a.A.size;clear k Y y0 y1;have g0:=HX.A.cell;cases qu
   ·go_wp2_with ((refine Vd oD au (.tmp 35) (.tmp 37) 137 au 32 _ underlying137 OV au aq au x au j.A ⟨rfl,t.A.1,t.A.2⟩ (ai dM.A) r.A (bV _) OW ?_;intro v' w5 p m y B));have R:=E p;have GY:=E ((f.A.alloc (aD [ap x.1,ap x.2].toArray 67)).aeD m (λb d h2=>C.A b d h2) y aq);have T:=E (((a.A.alloc _).grown (j.A.alloc _) (aO _) m));have py:=E (show∀b,u9.ownBlock=ad b->v'.ownBlock=ad b->False fromλb d h2=>(B b h2).elim (λh=>C.A b d h) (λh=>by have:=(f.A.row b d).2.lt;omega));clear p m y B f j a C r g0;go_wp2;go_roundw;case rel=>exact⟨n+1,ls,lc++[x],aR.A,by go_num,T.A,GY,R,E ⟨ai o.A,by rw[b2,p8];have:=o.A;omega⟩,py⟩
    case measure=>exact ax
   ·go_wp2_with ((refine Vd oD au (.tmp 31) (.tmp 33) 137 au 32 _ underlying137 OV au aq au x au f.A ⟨rfl,t.A.1,t.A.2⟩ (ai dM.A) r.A (bV _) OW ?_;intro v' w5 p m y B));have R:=E p;have GY:=E ((j.A.alloc (aD [ap x.1,ap x.2].toArray 67)).aeD m (λb d h2=>C.A b h2 d) y aq);have T:=E (((a.A.alloc _).grown (f.A.alloc _) (aO _) m));have py:=E (show∀b,v'.ownBlock=ad b->u10.ownBlock=ad b->False fromλb d h2=>(B b d).elim (λh=>C.A b h h2) (λh=>by have:=(j.A.row b h2).2.lt;omega));clear p m y B f j a C r g0;go_wp2;go_roundw;case rel=>exact⟨n+1,ls++[x],lc,aR.A,by go_num,T.A,R,GY,E ⟨by rw[b2,p8];have:=o.A;omega,ai o.A⟩,py⟩
    case measure=>exact ax
  ·obtain rfl:n=G.length:=by omega
   have a:=E hB;clear hB;go_wp2_with fail;refine(uI.A wr (bA.A.trans a.A)).ah ?_;rintro e w6⟨⟨Tg,F,rfl,N,H⟩,S⟩;obtain⟨a9,bq,rfl,Q,cn,b4⟩:=N.vs.be;have a4:=E Q;have a2:=E H;have qE:=E (Ve.A.al (a.A.trans S).aC);have aM:=E (Vf.A.al (a.A.trans S).aC);have aJ:=E ((bA.A.trans a.A).trans S);have U:=E (f.A.al S.aC);have a5:F.length<=9223372036854775807:=an;clear N H Q cn b4 S uI Ve Vf bA f j a;go_wp2;go_loopw [11,43] (λs i wr=>∃(n:Nat) (D:List Key),n<=F.length/\i=J I n/\aF w6 wr/\a6 (Ow oD wr 0 w6.heap.size s D)/\a6 (D.length<=n)) (λ_ i _=>F.length-(intOf i).toNat);case atStart=>exact⟨0,[],an,rfl,aF.refl _,E (Ow.bh _ _ _ _),E av⟩
   case round=>
    obtain⟨n,D,hn,rfl,hB,q,o⟩:=hrel;by_cases V:n<F.length
    ·obtain⟨x,K⟩:=aP (F[n]);obtain⟨b,off,rfl,il,y0,y1,z,u⟩:=a4.A.Ux hB.aC V K;have t:=E (show x.1.size<=9223372036854775807/\x.2.size<=9223372036854775807 from⟨z,u⟩);have aR:=E V;have dM:=E (show D.length<=300 by have:=o.A;have:=a2.A;omega);have g:=(aF.refl wr).alloc (aD #[ap x.1,ap x.2] 67);have HX:=E (aI.new wr 67 #[ap x.1,ap x.2]);have Y:=E (aes (wr.alloc (aD #[ap x.1,ap x.2] 67)) x (qE.A.al (hB.trans g).aC) (aM.A.al (hB.trans g).aC) ⟨z,u⟩);have a:=E (hB.trans g);replace q:=E (q.A.al g.aC);clear z u g hB K il;go_wp2_with fail;refine Y.A.ah ?_;rintro e w4⟨⟨qu,rfl⟩,k⟩;replace a:=E (a.A.trans k);replace q:=E (q.A.al k.aC);replace HX:=E (HX.A.al k.aC HX.A.lt);have r:=E a.A.size;clear k Y y0 y1;have g0:=HX.A.cell;cases qu
     ·go_wp2_with ((refine Vd oD au (.tmp 52) (.tmp 54) 137 au 32 _ underlying137 OV au aq au x au q.A ⟨rfl,t.A.1,t.A.2⟩ (ai dM.A) r.A (bV _) OW ?_;intro v' w5 p m y B));have R:=E p;have T:=E (((a.A.alloc _).grown (q.A.alloc _) (aO _) m));clear p m y B q a r g0;go_wp2;go_roundw;case rel=>exact⟨n+1,D++[x],aR.A,by go_num,T.A,R,E (by rw[b2,p8];have:=o.A;omega)⟩
      case measure=>exact ax
     ·go_wp2;go_roundw;case rel=>exact⟨n+1,D,aR.A,by go_num,a.A,q,E (ai o.A)⟩
      case measure=>exact ax
    ·obtain rfl:n=F.length:=by omega
     have a:=E hB;have xO:=E (((U.A.vs.al hB.aC).bt (bV _):Vs oD wr wr.heap.size _ ls));clear hB U;go_wp2;refine bF (v:=bn #[u9,u10,u11]) (by simp[bz,results69,go_sem]) rfl ⟨⟨_,_,_,rfl,ls,xO.A⟩,(aJ.A.trans a.A)⟩
def aov:OB:=λf v2 h g i B2 w d e h2 s1 a c b=>aor w d e h2 s1 a c b
variable {B n:Nat} {W:aB}
section
open Go.ChangeAt Go.ChangeShapes Go.Joins Go.WideShapes
def aeH {α:Type} {D:Kr α} {Y:Nat->α} {U:Nat->List aE}:∀n,(∀i,i<n->D.rel W B (Y i) (U i))->∃us,Rs D W B ((se n).map Y) us/\us.length=n*D.k/\∀i,i<n->∀j,j<D.k->us[i*D.k+j]?=(U i)[j]?
 |0,_=>⟨[],.nil,av,λi hi=>ae hi an⟩
 |n+1,h=>by
  obtain⟨us,c,h2,b⟩:=aeH n (λi hi=>h i an)
  have a:=D.len (h n an)
  refine⟨us++U n,?_,by rw[b2,h2,a,oA],λi hi j hj=>?_⟩
  ·rw[List.range_succ,lK];exact c.append (Rs.single (h n an))
  ·by_cases e:i=n
   ·subst e;rw[List.getElem?_append_right an,h2,Nat.add_sub_cancel_left]
   ·have d:(i+1)*D.k<=n*D.k:=sa _ an;rw[oA] at d;rw[List.getElem?_append_left an];exact b i an j hj
def aox {α:Type} {D:Kr α} {a:aX} {c:Nat} {Y:Nat->α} {U:Nat->List aE} (h:∀i,i<n->D.rel W W.heap.size (Y i) (U i)/\∀j,j<D.k->W.cell? ((a.add (i*D.k)).add j)=(U i)[j]?) (s:n<=c) (p:c<=9223372036854775807):Vs D W W.heap.size (O (ad a) n c) ((se n).map Y):=by
 obtain⟨us,r,h2,q⟩:=aeH n (λi hi=>(h i hi).1);refine⟨ad a,n,c,rfl,⟨av,us,r,λhn=>?_⟩,s,p⟩;have f:=D.pos;have g:0<n:=by
  rcases kJ n with e|e
  ·rw[e] at hn;simp at hn
  ·exact e
 have hg:∀i,i<n->∀j,j<D.k->∃u,(U i)[j]?=ad u:=λi hi j hj=>⟨_,cR (by rw[D.len (h i hi).1];exact hj)⟩;obtain⟨b,off,d⟩:=a;have h0:=(h 0 g).2 0 f;obtain⟨u0,e0⟩:=hg 0 g 0 f;rw[e0,Deep.add_add] at h0;have t:d=M:=by simpa[Addr.add] using World.cell?_spot h0
 subst t;rw[O0] at h0;refine⟨b,off,rfl,.inl (aeG h0),λi hi=>?_⟩;have l:i/D.k<n:=Nat.div_lt_of_lt_mul (by rw[Nat.mul_comm];exact hi);have k:i % D.k<D.k:=Nat.mod_lt _ f;have m:=(h (i/D.k) l).2 (i % D.k) k;have o:i/D.k*D.k+i % D.k=i:=by rw[Nat.mul_comm];exact Nat.div_add_mod i D.k
 rw[Deep.add_add,O0,o] at m;rw[m,<-q _ l _ k,o];show us[i]?=ad (us.getD i _);rw[dd,cR an];rfl
section
variable {H:Type} {enc:bf×aE->H} {W:aB} {base:Nat} {v:aE} {d:DataW H} {p:List MemPlace}
def aoy {fuel:Nat} {cs:List aE} {x:DataW H×List MemPlace} (g:cs.length=9) (a:qW enc aH W 0 (λ_=>true) true fuel 69 cs=ad x):∃y:dX,nc.rel W W.heap.size y cs/\qH.ok y.c8:=by
 match cs,g with
 |[c0,c1,c2,c3,c4,c5,kS,c7,kb],_=>
  obtain⟨b,n,_,hx,hl,g,a⟩:=DataW.trod_struct underlying69 a;have Ui:b.length=7:=by rw[g];rfl
  have S:aH.cellsOf 49=1:=ar;have hI:aH.cellsOf 3=1:=ar;have hB:aH.cellsOf 4=1:=ar;have r:aH.cellsOf 9=1:=ar;have Q:aH.cellsOf 65=2:=ar;have T:aH.cellsOf 67=2:=ar;have E:qW enc aH W 0 (λ_=>true) true n 3 (([c0,c1,c2,c3,c4,c5,kS,c7,kb].drop 0).take (aH.cellsOf 3))=b[0]?:=a 0 _ rfl;have D:qW enc aH W 0 (λ_=>true) true n 9 (([c0,c1,c2,c3,c4,c5,kS,c7,kb].drop 1).take (aH.cellsOf 9))=b[1]?:=a 1 _ rfl;have C:qW enc aH W 0 (λ_=>true) true n 49 (([c0,c1,c2,c3,c4,c5,kS,c7,kb].drop 2).take (aH.cellsOf 49))=b[2]?:=a 2 _ rfl;have B:qW enc aH W 0 (λ_=>true) true n 65 (([c0,c1,c2,c3,c4,c5,kS,c7,kb].drop 3).take (aH.cellsOf 65))=b[3]?:=a 3 _ rfl;have A:qW enc aH W 0 (λ_=>true) true n 3 (([c0,c1,c2,c3,c4,c5,kS,c7,kb].drop 5).take (aH.cellsOf 3))=b[4]?:=a 4 _ rfl;have z:qW enc aH W 0 (λ_=>true) true n 4 (([c0,c1,c2,c3,c4,c5,kS,c7,kb].drop 6).take (aH.cellsOf 4))=b[5]?:=a 5 _ rfl;have w:qW enc aH W 0 (λ_=>true) true n 67 (([c0,c1,c2,c3,c4,c5,kS,c7,kb].drop 7).take (aH.cellsOf 67))=b[6]?:=a 6 _ rfl;rw[hI,cR an] at E A;rw[r,cR an] at D;rw[S,cR an] at C;rw[Q,cR an] at B;rw[hB,cR an] at z;rw[T,cR an] at w;obtain⟨N,e0,-,w0⟩:=DataW.trod_int underlying3 E;obtain⟨s1,G,-,cH⟩:=DataW.trod_string underlying9 D;obtain⟨ao,k,c,L,V,h0,U,h2⟩:=aow (v:=c2) C;obtain⟨f,o,_,hy,Fe,i,e⟩:=DataW.trod_struct underlying65 B;have Hi:f.length=2:=by rw[i];rfl
  have t:qW enc aH W 0 (λ_=>true) true o 3 (([c3,c4].drop 0).take (aH.cellsOf 3))=f[0]?:=e 0 _ rfl;have g1:qW enc aH W 0 (λ_=>true) true o 3 (([c3,c4].drop 1).take (aH.cellsOf 3))=f[1]?:=e 1 _ rfl;rw[hI,cR an] at t g1;obtain⟨M,F,-⟩:=DataW.trod_int underlying3 t;obtain⟨K,q,-⟩:=DataW.trod_int underlying3 g1;obtain⟨J,s,-⟩:=DataW.trod_int underlying3 A;obtain⟨Z,u,-⟩:=DataW.trod_bool underlying4 z;obtain⟨zs,m,_,hz,R,j,d⟩:=DataW.trod_struct underlying67 w;have de:zs.length=2:=by rw[j];rfl
  have k0:qW enc aH W 0 (λ_=>true) true m 9 (([c7,kb].drop 0).take (aH.cellsOf 9))=zs[0]?:=d 0 _ rfl;have p:qW enc aH W 0 (λ_=>true) true m 9 (([c7,kb].drop 1).take (aH.cellsOf 9))=zs[1]?:=d 1 _ rfl;rw[r,cR an] at k0 p;obtain⟨O,l,-,Y⟩:=DataW.trod_string underlying9 k0;obtain⟨X,I,-,ca⟩:=DataW.trod_string underlying9 p;simp at e0 G F q s u l I;subst e0 G V F q s u l I;exact⟨⟨N,s1,L,(M,K),J,Z,(O,X)⟩,⟨_,rfl,cH,⟨_,_,_,rfl,h0.WJ,U,h2⟩,Y,ca⟩,w0⟩
def aoB (W:aB) (v:aE):Prop:=∃l:List dX,Vs nc W W.heap.size v l/\∀c∈l,qH.ok c.c8
def aoC (hv:Value.okWide aH W .any base 22 v) (h:DataW.Trod enc aH W 0 (λ_=>true) true 22 v d p) (f:∀x∈p,x.block<W.heap.size):aoB W v:=by
 obtain⟨ao,n,c,rfl⟩:=okWide_slice underlying22 hv;obtain⟨fuel,q⟩:=h;have g:aH.cellsOf 69=9:=ar;rcases Deep.open_slice underlying22 q with⟨cS,_⟩|⟨a,l,c',m,k,D,aqb,cS,_,hl,hm,rb,_,mi⟩
 ·simp[Value.cells] at cS;obtain⟨rfl,rfl,rfl⟩:=cS;exact⟨[],Vs.bh _ _ _,λc b=>by cases b⟩
 ·simp[Value.cells] at cS;obtain⟨rfl,rfl,rfl⟩:=cS;simp at rb;subst rb;rw[g] at mi;obtain⟨Y,e⟩:=Deep.choose_lt (α:=dX×List aE) (n:=m) (p:=λi y=>(nc.rel W W.heap.size y.1 y.2/\∀j,j<9->W.cell? (a.add (i*9)|>.add j)=y.2[j]?)/\qH.ok y.1.c8) (λi hi=>by
   obtain⟨cs',c1,c2⟩:=mi i hi;obtain⟨-,c3,c4⟩:=World.cells?_some c1;obtain⟨y,o,ho⟩:=aoy c3 c2;exact⟨(y,cs'),⟨o,c4⟩,ho⟩)
  exact⟨_,aox (D:=nc) (Y:=λi=>(Y i).1) (U:=λi=>(Y i).2) (λi hi=>(e i an).1) hl (by unfold bK at hm;omega),λc b=>by
   obtain⟨i,hi,rfl⟩:=hM.1 b;exact(e i (ai (List.mem_range.1 hi))).2⟩
end
end
namespace topRules
open Go Go.ChangeShapes Go.WideShapes Go.ChangeAt Go.RowKit
def aoH (os:Os) (args:Array aE):laidMetH aH Rows.topRulesRow.laid ((World.laidAll aH os Rows.topRulesRow.laid).forCall (λ_ _=>0) ⟨#[],args,[]⟩).memory:=by
 rw[MakeChecks.laidMetH_plain _ _ _ ar];exact laidMet_laidAll _ ar ar
def aoI (os:Os) {H:Type} (enc:bf×aE->H):(OpenSpec.ofChange Rows.topRulesSpec).preRow enc aH Tryz.f3 Rows.topRulesRow.domain false Rows.topRulesRow.laid ((World.laidAll aH os Rows.topRulesRow.laid).forCall (λ_ _=>0) ⟨#[],#[O M 0 0],[]⟩).memory #[O M 0 0]:=by
 have c:(DataW.whole enc aH ((World.laidAll aH os Rows.topRulesRow.laid).forCall (λ_ _=>0) ⟨#[],#[O M 0 0],[]⟩).memory Tryz.f3.params.toList (OpenSpec.ofChange Rows.topRulesSpec).vars false #[O M 0 0].toList 8).map (λx=>(x.1,x.2.1))=ad ([.nil],[]):=ar;obtain⟨⟨e,x2,x3⟩,b,a⟩:=Option.map_eq_some_iff.1 c;simp only[Prod.mk.injEq] at a;obtain⟨rfl,rfl⟩:=a;exact OpenSpec.preRow_of_cond 8 b ar (λk d=>by cases d) ar (aoH os _)
def lifted (os:Os) (a:os.Started) (H:Type) (enc:bf×aE->H) (F:Stop.Interp):ReturnsInHanded {} Tryz.checked os 3 .any ((OpenSpec.ofChange Rows.topRulesSpec).preRow enc aH Tryz.f3 Rows.topRulesRow.domain false Rows.topRulesRow.laid) (((OpenSpec.ofChange Rows.topRulesSpec).at F).post enc aH Tryz.f3 false true false false):=by
 refine returnsInHanded_of_row (C:=Tryz.checked) (s:=OpenSpec.ofChange Rows.topRulesSpec) own a ar func3 (witness_row_at (enc:=enc) (C:=Tryz.checked) false (World.laidAll aH os Rows.topRulesRow.laid) #[O M 0 0] (World.laidAll_os _ _ _) ar ar ar (aoI os enc)) ?_;intro W base args gd J g f k _ _ _ B K _;have d:∀(j:Nat) t v,Tryz.f3.params[j]?=ad t->args[j]?=ad v->Value.okWide aH W .any base t v:=f;have i:=k;obtain⟨p,q,c,A,rfl,_,_⟩:=k;have n:DataW.TrodAll enc aH W 0 (λ_=>true) true Tryz.f3.params.toList args.toList gd p:=c;rw[params3] at n d;obtain⟨v0,o,d0,D,u,I,G,rfl,rfl,h0,r⟩:=trodAll_cons n;obtain⟨rfl,rfl,rfl⟩:=trodAll_nil r;obtain rfl:args=#[v0]:=by cases args;simp_all
 obtain⟨rfl,rfl⟩:=trodVars_none A;have k0:=h0;have b:∀x∈u,x.block<W.heap.size:=by obtain⟨m,w⟩:=k0;exact DataW.trod_lt m _ _ _ w
 obtain⟨l,y,E⟩:=aoC (d 0 22 v0 rfl rfl) h0 b;clear c f;refine(aoa (anR aov) W (aoG B) y E).mono λe W' ⟨z,aC⟩=>?_;subst z;exact⟨_,rfl,_,_,_,[],_,[],i,trodAll_mk1 (shut_bool underlying4 _),(trodAll_cons_mk (Below.trod laidOut ar (of_decide_eq_true ar) k0 aC.aC b) trodAll_mk0),rfl,aC.aC.frame _,λh=>by cases h⟩
end topRules
namespace topRules
open Go Go.ChangeShapes Go.WideShapes Go.ChangeAt Go.RowKit
def nE (P:cp) (f:FuncId) (fn:Func) (s:ChangeSpec) (c:OpenClaim):{x:Bool×Bool×Bool×Bool×Bool×Bool×Bool×Bool×Bool×Bool×Bool×Bool×Bool×Bool×Bool×Bool×Bool//joinedFacts P f fn s c=(x.1&&(c.inPlace==P.inPlace f)&&(c.unfollowed==P.unfollowed f)&&(c.recurses==P.recurses f)&&(c.named==P.varsNamed f)&&x.2.1&&x.2.2.1&&x.2.2.2.1&&x.2.2.2.2.1&&x.2.2.2.2.2.1&&x.2.2.2.2.2.2.1&&x.2.2.2.2.2.2.2.1&&x.2.2.2.2.2.2.2.2.1&&x.2.2.2.2.2.2.2.2.2.1&&x.2.2.2.2.2.2.2.2.2.2.1&&x.2.2.2.2.2.2.2.2.2.2.2.1&&x.2.2.2.2.2.2.2.2.2.2.2.2.1&&P.mayEnter&&(c.lifted==P.liftsFinal)&&(P.make==ad c.make)&&x.2.2.2.2.2.2.2.2.2.2.2.2.2.1&&x.2.2.2.2.2.2.2.2.2.2.2.2.2.2.1&&x.2.2.2.2.2.2.2.2.2.2.2.2.2.2.2.1&&x.2.2.2.2.2.2.2.2.2.2.2.2.2.2.2.2)}:=⟨(_,_,_,_,_,_,_,_,_,_,_,_,_,_,_,_,_),rfl⟩
def aoS (P:cp) (f:FuncId) (a:Func) (s:ChangeSpec) (c:OpenClaim) (e:(c.inPlace==P.inPlace f)=true) (g:(c.unfollowed==P.unfollowed f)=true) (b:(c.recurses==P.recurses f)=true) (v:(c.named==P.varsNamed f)=true) (r:P.mayEnter=true) (h2:P.liftsFinal=false) (q:P.make=ad .cut) (p:c.lifted=false) (o:c.make= .cut) (d:((nE P f a s c).1.1&&(nE P f a s c).1.2.1&&(nE P f a s c).1.2.2.1&&(nE P f a s c).1.2.2.2.1&&(nE P f a s c).1.2.2.2.2.1&&(nE P f a s c).1.2.2.2.2.2.1&&(nE P f a s c).1.2.2.2.2.2.2.1&&(nE P f a s c).1.2.2.2.2.2.2.2.1&&(nE P f a s c).1.2.2.2.2.2.2.2.2.1&&(nE P f a s c).1.2.2.2.2.2.2.2.2.2.1&&(nE P f a s c).1.2.2.2.2.2.2.2.2.2.2.1&&(nE P f a s c).1.2.2.2.2.2.2.2.2.2.2.2.1&&(nE P f a s c).1.2.2.2.2.2.2.2.2.2.2.2.2.1&&(nE P f a s c).1.2.2.2.2.2.2.2.2.2.2.2.2.2.1&&(nE P f a s c).1.2.2.2.2.2.2.2.2.2.2.2.2.2.2.1&&(nE P f a s c).1.2.2.2.2.2.2.2.2.2.2.2.2.2.2.2.1&&(nE P f a s c).1.2.2.2.2.2.2.2.2.2.2.2.2.2.2.2.2)=true):joinedFacts P f a s c=true:=by
 rw[(nE P f a s c).2];generalize(nE P f a s c).1=x at d⊢;rw[e,g,b,v,r,h2,q,p,o];simp only[b9] at d⊢;obtain⟨⟨⟨⟨⟨⟨⟨⟨⟨⟨⟨⟨⟨⟨⟨⟨k0,C⟩,B⟩,A⟩,w⟩,z⟩,D⟩,u⟩,t⟩,y⟩,n⟩,m⟩,l⟩,k⟩,j⟩,i⟩,h⟩:=d;simp_all
def aoT:(Rows.topRulesRow.inPlace==aH.inPlace 3)=true:=ar
def aoU:(Rows.topRulesRow.unfollowed==aH.unfollowed 3)=true:=ar
def aoV:(Rows.topRulesRow.recurses==aH.recurses 3)=true:=ar
def aoW:(Rows.topRulesRow.named==aH.varsNamed 3)=true:=ar
def closed:joinedFacts aH 3 Tryz.f3 Rows.topRulesSpec Rows.topRulesRow=true:=aoS _ _ _ _ _ aoT aoU aoV aoW aoN aoP aoR rfl rfl ar
def aoX:aH.funcs.any Func.goes=false:=ar
def aoY {P:cp} (h:P.funcs.any Func.goes=false) (f:FuncId):P.goes f=false:=by
 have hg:∀g:Nat,(P.funcs[g]?).any Func.goes=false:=λg=>by
  cases b:P.funcs[g]? with
  |none=>rfl
  |some c=>
   rw[Array.any_eq_false] at h;obtain⟨a,e⟩:=lJ.1 b;have:=h g a;rw[e] at this;simpa using this
 unfold Program.goes;rw[h];simp[hg]
def aoZ (P:cp) (c:OpenClaim) (hs:c.start= .entering) (h:∀f,P.goes f=false):false=c.goesBy P:=by
 unfold OpenClaim.goesBy Program.goesAt;rw[hs];simp[Program.goesFrom];cases P.funcNamed c.func<;>simp[h]
def ao0:false=Rows.topRulesRow.goesBy aH:=aoZ _ _ rfl (λf=>aoY aoX f)
def over:Rows.topRulesRow.holds Tryz.pinned (OpenSpec.ofChange Rows.topRulesSpec):=OpenClaim.holds_of_cond 3 Tryz.f3 rfl rfl rfl rfl rfl rfl rfl ⟨rfl,rfl,rfl,rfl,rfl⟩ rfl rfl rfl rfl rfl ar func3 closed (of_decide_eq_true ar) (by unfold Func.isWrapper;first|(rw[ag aqn];kernel_rfl)|(rw[af aqn];exact⟨rfl,rfl⟩)) (λos a H enc _ b=>by rw[OpenClaim.pre_eq_preRow];exact lifted os a H enc b)
end topRules
namespace topRules
open Go Go.ChangeShapes Go.WideShapes Go.ChangeAt Go.RowKit
theorem proved:Rows.TopRulesCardSaid:=Claim7.holds_tied_plain_at .later [] [.data,.data,.data,.data,.data,.data,.data,.pinned] true (true,"aef683e0edee474c5475d6953d1afe15aa27ed09a2d75537a359e7301f2cd160") true over (λ_ h=>by cases h) ar (λ_ h=>by cases h) topRules_row_tie rfl ⟨rfl,rfl⟩ ar rfl (λf e d g=>by
 obtain rfl:f=3:=tM ((show aH.funcNamed "watchtower/watchtowertop.TopRules"=ad 3 by kernel_rfl).symm.trans d)|>.symm;obtain rfl:e=Tryz.f3:=(tM (func3.symm.trans g)).symm;exact⟨ar,λj t a=>by
  rw[params3] at a;have c:t∈[22]:=am (Array.mem_of_getElem? a);have b:([22].all λu=>!aH.wantsStandIn u)=true:=ar;exact(show aH.wantsStandIn t=false by simpa using List.all_eq_true.1 b t c)⟩) ao0
#print axioms proved
end topRules
end Go.Proofs.YtbeaddlblpgppaaGreatDoor
