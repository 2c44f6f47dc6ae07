/- Part 6 of the proof of TopRules (watchtowertop). Conditions: none. -/
import Derived.Test.YtbeaddlblpgppaaGreatDoorYe
import Derived.WalkMore
import Derived.Laws.RangeAny
import Derived.Lib.RuneCount
set_option maxRecDepth 100000
set_option maxHeartbeats 8000000
set_option linter.unusedVariables false
set_option linter.unusedSimpArgs false
set_option linter.defProp false
open Go.Lib renaming hid->E
open Go.IntKind renaming i64->I,wrap_i64->b7
open Go.Value renaming int->J,slice->O,string->ap,bool->aG,agg->aY,pointer->bl,tuple->bn
open Option renaming none->M,some->ad
open Go.Addr renaming mk->ab
open Go renaming World->aB,Value->aE,Calls->aN,Addr->aX,Act->bb,TypeId->bf,Oper->bv,results->bz,bodyPost_ret->bF,maxLen->bK,Program->cp,run_underlying->mf
open Go.Obj renaming cells->aD
open Go.Proofs.Tryz renaming prog->aH
open Nat renaming le_refl->aO,le_trans->a8,zero_le->bV,lt_of_lt_of_le->da,lt_or_ge->gy,eq_zero_or_pos->kJ,le_succ->mg,ne_of_lt->mW,ne_of_gt->sh
open Go.Ending renaming returned->aQ
open Go.RowKit renaming Below->aS,Hid->a6
open Go.RowKit.Below renaming refl->bk,heap_setCell->yv
open List renaming mem_singleton->bD,getElem?_eq_getElem->cR,getD_eq_getElem?_getD->dd,getElem_mem->dl,mem_cons->ee,mem_append->kf,append_assoc->mV,length->oz,drop_eq_getElem_cons->pf,length_cons->pY,length_map->p6,drop_length->qT,mem_iff_getElem->qV,pairwise_map->sf,getElem?_map->tJ,pairwise_iff_getElem->yw
open Bool renaming and_eq_true->b9,false_eq_true->tL
open Go.World renaming setCell->eB,size_alloc->eO,cell?_of_block->wK
open Go.Op renaming bytesLess->ii
open And renaming intro->iC
open Exists renaming intro->lL
open Go.Instr renaming index->mX
open Go.Proofs.Tryz
namespace Go.Proofs.YtbeaddlblpgppaaGreatDoor
open Go.RowKit
variable {w wr:aB} {B n k:Nat} {P:Prop} {ao:Option aX} {tabs:List cy}
open bw
def NN:(aH.info? 56).map (λi=>(i.zero,i.size,i.bytes))=ad (ad (aY #[O M 0 0,J I 0]),2,32):=ar
def abT:jb.e∉jb.bI:=aq
def Rw.Cm {l:List cy} (h:Rw jb w B ao n l) (hB:aS w.heap.size w wr) {k:Nat} (g:k<l.length) {x:cy} (f:l[k]=x):∃b off a c3,ao=ad (ab b off M)/\b<w.heap.size/\wr.cell? ⟨b,off+k*2,M⟩=ad (O a x.ao.length c3)/\wr.cell? ⟨b,off+k*2+1,M⟩=ad (J I x.full)/\Vs dV wr B (O a x.ao.length c3) x.ao:=by
 obtain⟨b,off,vs,e,Z,d,h2⟩:=h.aL hB g;rw[f] at d;obtain⟨v0,rfl,c⟩:=d;obtain⟨a,c3,rfl,_⟩:=c.be;exact⟨b,off,a,c3,e,Z,h2 0 _ rfl,h2 1 _ rfl,c⟩
def alw (h:k<tabs.length):sQ tabs k=tabs[k]:=by unfold sQ;rw[dd,cR h];rfl
def alx (h:¬k<tabs.length):sQ tabs k=jN:=by unfold sQ;rw[dd,List.getElem?_eq_none an];rfl
def aly {t:Int} {l:List cv} (a:k<l.length) (s:List cr×List cy×Int):(l.drop k).foldl (vD tabs t) s=(l.drop (k+1)).foldl (vD tabs t) (vD tabs t s l[k]):=by
 rw[pf a];rfl
def abU (st:List cr) (r:cv) (t:Int):(sP st r t).length<=32:=by
 unfold sP;split
 ·have:∀(l A:List cJ),(l.foldl (kc r) A).length<=A.length+l.length:=by
   intro l;induction l with
   |nil=>intro A;simp
   |cons f l b=>
    intro A;have a:=b (kc r A f);have h2:(kc r A f).length<=A.length+1:=by
     unfold kc;split
     ·split
      ·omega
      ·split
       ·omega
       ·simp
     ·omega
    simp only[List.foldl_cons,pY];omega
  have a:=this (zg st r.x.s t 300000) [];have h2:=abF st r.x.s t 300000;simp at a;omega
 ·simp
theorem abV (h:P:=by
 rw[hT] at NP;have gZ:=E hT;obtain⟨u7,rfl,Te⟩:=NP.A;obtain⟨A8,kb,rfl,_⟩:=Te.be;have J7:=E ((NQ.A.trans wk.r).trans Z);have GI:=E ((J8.A.al wk.aC J8.A.lt).al Z.aC (da J8.A.lt wk.aC.size));have Es:=E Te;refine aJ _ _ Z ?_;clear aJ KK Z NP Te hT Et J8 NR NS fy;refine S4.nb λwq hq=>?_;have BO:=E (J7.A.next hq);have J9:=E (GI.A.al hq GI.A.lt);have HU8:=E (Es.A.al hq);clear hq J7 GI Es;have⟨z0,f0⟩:=J9.A.cf;refine dP ?_;clear f0 z0;have NT:=E (show aI _ (wr.heap.size+1) 56 #[O A8 T.ao.length kb,J I T.full] from(J9.A.put 0 (O A8 T.ao.length kb)).put 1 (J I T.full));have cx:=((Kt.refl B [56] wq).setCell (o:=0) (a8 di.A (a8 (bR.A.trans uP.A).size (mg _))) (bp.bO J9.A) (bD.2 rfl) (O A8 T.ao.length kb)).setCell (o:=1) (a8 di.A (a8 (bR.A.trans uP.A).size (mg _))) (bp.bO (J9.A.put 0 (O A8 T.ao.length kb))) (bD.2 rfl) (J I T.full);have Cn:=E (HU8.A.keep cx aq aq);have rK:=E ((BO.A.setCell (p:=⟨wr.heap.size+1,0,M⟩) (mg _) (O A8 T.ao.length kb)).setCell (p:=⟨wr.heap.size+1,1,M⟩) (mg _) (J I T.full));clear cx J9 HU8 BO;have z0:=NT.A.cell;have Jy:=E (alq (B:=B) (vs:=O As1 s.length cs1) (v:=aY #[O A8 T.ao.length kb,J I T.full]) (st:=s) (x:=T) t _ (cY.A.rel (bR.A.trans (uP.A.trans rK.A))) (a8 di.A (bR.A.trans (uP.A.trans rK.A)).size) (xO.A.al rK.A.aC) ⟨_,rfl,Cn.A⟩);have Co:=E (YC s T t).2;have uQ:=E (show vD tabs t (s,A,o) x=((ui s T t).1,A++[T],o+(ui s T t).2) by
  unfold vD;simp only[ny.A.1,Gi.A,gZ.A])
 rw[uQ.A] at HD;obtain⟨⟨s2,o2⟩,hso⟩:∃y,ui s T t=y:=⟨_,rfl⟩;rw[hso] at Jy Co HD;clear hso uQ gZ;dsimp only at Jy Co HD;go_wp2_with fail;refine Jy.A.ah ?_;rintro e DS⟨⟨a1,rfl,abW⟩,Z⟩;have Tf:=E (rK.A.trans Z);have HUa:=E (Cn.A.al Z.aC);have hYa:=NT.A.al Z.aC NT.A.lt;have HVa:=E abW;have HOa:=E (qC.A.al Tf.A.aC);clear z0 Z Jy rK NT Cn abW;have z0:=hYa.cell;clear hYa;have xX:I.wrap (o+o2)=o+o2:=by have:=ny.A;have:=Co.A;have:=aR.A;have:=qF.A;rw[b7];omega
 go_wp2_with ((refine uv jb au (.tmp 53) (.tmp 55) 53 au w1.heap.size 32 _ ar NN au aq B _ A au DS [O A8 T.ao.length kb,J I T.full] T au HOa.A ⟨_,rfl,HUa.A⟩ (ak ny.A.1 aR.A qF.A) (uP.A.trans Tf.A).size (a8 di.A bR.A.size) abT ?_;intro v' w' bC fA eZ pI));go_roundw;case rel=>exact⟨k+1,(s2,A++[T],o+o2),aR.A,by go_num,rfl,fA w1 (uP.A.trans Tf.A) (aO _),HVa.A.keep eZ aq aq,bC,E ⟨by have:=ny.A;have:=Co.A;simp;omega,HD.A.symm⟩⟩
 case measure=>exact ax
 ):P:=h
def alz {vs Tg z6:aE} {st:List cr} {g:cC} (t:Int) (w:aB) (hG:eK w) (hB:B<=w.heap.size) (ht:-9223372036854775808<=t/\t<=9007199254740992) (cg:g.R.length<=16) (hs:Vs dO w B vs st) (h:BV w B Tg g) (zR:Vs jb w B z6 tabs):aN aH 109 #[vs,Tg,z6,J I t] w λe w'=>(∃v1 v2,e=aQ (bn #[v1,v2,J I (np st g tabs t).2.2])/\Vs dO w' B v1 (np st g tabs t).1/\Ow jb w' B w.heap.size v2 (np st g tabs t).2.1)/\aF w w':=by
 have cY:=E hG;have di:=E hB;have HT:=E ht;have HC:=E (λW (Z:aS w.heap.size w W)=>abK W (hs.al Z));have HV:=E (L7 hs);have HR:=E (show np st g tabs t=(g.R.drop 0).foldl (vD tabs t) (gS st,[],0) from rfl);generalize np st g tabs t=r at HR⊢;obtain⟨r1,r2,wP⟩:=r;dsimp only;obtain⟨A3,c3,rfl,hn,H⟩:=h.be;generalize h9:(if eY st=true then vs else _:aE)=jg at HC HV;clear h9;generalize gS st=s0 at*;obtain⟨FC,cs,m,_⟩:=hs.be;subst m;obtain⟨At,kG,rfl,G,a2,LO⟩:=zR.be;have NU:=E G;obtain⟨Aq,kE,R5,hP,cn,b4⟩:=H.be;cases R5;have HP:=E hP;have qF:=E cg;have HB:=E ((aF.refl w).alloc (aD #[ap g.n,J I g.br,J I g.off,O A3 g.R.length c3] 43));have HX:=E (aI.new w 43 #[ap g.n,J I g.br,J I g.off,O A3 g.R.length c3]);clear h hs hB hG zR G H hP ht;go_enter func109,ntmps109;go_wp2_with fail;refine(HC.A _ HB.A.aC).ah ?_;rintro e w1⟨rfl,Z⟩;have bR:=E (HB.A.trans Z);have nK:=E (HX.A.al Z.aC HX.A.lt);have ln:=E (HV.A.al bR.A.aC);clear Z HC HB HX HV;have q3:=nK.A.cell 3;go_wp2;clear q3;go_loopw [0,11,12,22] (λa c o i wr=>∃(k:Nat) (s:List cr×List cy×Int),k<=g.R.length/\i=J I k/\o=J I s.2.2/\aF w1 wr/\Vs dO wr B a s.1/\Ow jb wr B w1.heap.size c s.2.1/\a6 ((s.2.1.length=k/\0<=s.2.2/\s.2.2<=16*k)/\(g.R.drop k).foldl (vD tabs t) s=(r1,r2,wP))) (λ_ _ _ i _=>g.R.length-(intOf i).toNat);case atStart=>exact⟨0,(s0,[],0),an,rfl,rfl,aF.refl _,ln.A,Ow.bh _ _ _ _,E ⟨av,HR.A.symm⟩⟩
 case round=>
  clear ln HR;obtain⟨k,⟨s,A,o⟩,hk,rfl,rfl,u,m,K,q⟩:=hrel;obtain⟨As1,cs1,rfl,_⟩:=m.be;dsimp only at m K q;by_cases aK:k<g.R.length
  ·obtain⟨x,S⟩:=aP (g.R[k]);obtain⟨b,off,A2,c2,A7,c7,rfl,cw,⟨y0,y1,y2,y3,y4,y5,y6,F9⟩,hv⟩:=HP.A.vR (bR.A.trans u).aC aK S;have HD:=E (aly (tabs:=tabs) (t:=t) aK (s,A,o));rw[q.A.2,S] at HD;have ny:=E q.A.1;have aR:=E aK;clear S q;have uN:=E ((u.alloc (aD #[ap x.n,ap x.x.s.n,O A2 x.x.s.aU.length c2,J I x.x.op,J I x.x.v,J I x.wait,J I x.keep,O A7 x.L.length c7] 51)).alloc (aD #[O M 0 0,J I 0] 56));have vu:=E ((bk wr.heap.size wr).alloc (aO _) (aD #[ap x.n,ap x.x.s.n,O A2 x.x.s.aU.length c2,J I x.x.op,J I x.x.v,J I x.wait,J I x.keep,O A7 x.L.length c7] 51)|>.alloc (Nat.le_of_lt av) (aD #[O M 0 0,J I 0] 56));have xO:=E m;have qC:=E K;have mR:=E hv;have eU:=E ((aI.new wr 51 #[ap x.n,ap x.x.s.n,O A2 x.x.s.aU.length c2,J I x.x.op,J I x.x.v,J I x.wait,J I x.keep,O A7 x.L.length c7]).alloc (aD #[O M 0 0,J I 0] 56));have tp:=E (show aI _ (wr.heap.size+1) _ _ by
    have:=aI.new (wr.alloc (aD #[ap x.n,ap x.x.s.n,O A2 x.x.s.aU.length c2,J I x.x.op,J I x.x.v,J I x.wait,J I x.keep,O A7 x.L.length c7] 51)) 56 #[O M 0 0,J I 0];rwa[eO] at this)
   have uP:=E u;have BI:=E (((aF.refl wr).alloc (aD #[ap x.n,ap x.x.s.n,O A2 x.x.s.aU.length c2,J I x.x.op,J I x.x.v,J I x.wait,J I x.keep,O A7 x.L.length c7] 51)).alloc (aD #[O M 0 0,J I 0] 56));clear u m K hv vu;by_cases D:k<tabs.length
   ·obtain⟨X,V⟩:=aP (tabs[k]);obtain⟨Y,L,A4,c4,rfl,eb,Th,Ti,Ma⟩:=NU.A.Cm (bR.A.trans uP.A).aC D V;have Gi:=E (show sQ tabs k=X by rw[alw D,V]);have l:=E ((aI.new wr 51 #[ap x.n,ap x.x.s.n,O A2 x.x.s.aU.length c2,J I x.x.op,J I x.x.v,J I x.wait,J I x.keep,O A7 x.L.length c7]).alloc (aD #[O A4 X.ao.length c4,J I X.full] 56));have j:=E (show aI _ (wr.heap.size+1) _ _ by
     have:=aI.new (wr.alloc (aD #[ap x.n,ap x.x.s.n,O A2 x.x.s.aU.length c2,J I x.x.op,J I x.x.v,J I x.wait,J I x.keep,O A7 x.L.length c7] 51)) 56 #[O A4 X.ao.length c4,J I X.full];rwa[eO] at this)
    have f:=E (((aF.refl wr).alloc (aD #[ap x.n,ap x.x.s.n,O A2 x.x.s.aU.length c2,J I x.x.op,J I x.x.v,J I x.wait,J I x.keep,O A7 x.L.length c7] 51)).alloc (aD #[O A4 X.ao.length c4,J I X.full] 56));have R:=E (show nX _ B (aY #[O A4 X.ao.length c4,J I X.full]) X from⟨_,rfl,Ma.al f.A.aC⟩);have⟨z0,f0⟩:=tp.A.cf;have Np:Y<wr.heap.size:=da eb (bR.A.trans uP.A).size;replace Th:=(BI.A.aC.cell (p:=⟨Y,L+k*2,M⟩) Np).trans Th;replace Ti:=(BI.A.aC.cell (p:=⟨Y,L+k*2+1,M⟩) Np).trans Ti;have Tj:decide ((k:Int)<(tabs.length:Int))=true:=ac an;have jU:=E D;clear V Ma;go_wp2_with fail;clear z0 f0 Th Ti Tj;have z0:=ba.cells j.A;have x0:=ba.cells l.A;have bA:=E (bR.A.trans (uP.A.trans f.A));have F:=E (λp:ba ((wr.alloc (aD #[ap x.n,ap x.x.s.n,O A2 x.x.s.aU.length c2,J I x.x.op,J I x.x.v,J I x.wait,J I x.keep,O A7 x.L.length c7] 51)).alloc (aD #[O A4 X.ao.length c4,J I X.full] 56))=>abG (B:=B) t p.aL (a8 di.A (a8 bA.A.size p.aC.size)) HT.A ((xO.A.al f.A.aC).al p.aC) (Av.al (Av.al mR.A f.A.aC) p.aC));go_wp2_with fail;refine du (cU 0 4 (cU 5 5 (.c 4::(.c 10::[])))) [11] ?_;refine dY ?_;refine S4.dm ?_;rintro _⟨d,rfl⟩ KK aJ;go_simp;refine(F.A d).ah ?_;rintro e N⟨⟨vl,rfl,n⟩,Z⟩;have NQ:=E ((f.A.trans d.r).trans Z);have Et:=E ((l.A.al d.aC l.A.lt).al Z.aC (da l.A.lt d.aC.size));have J8:=E ((j.A.al d.aC j.A.lt).al Z.aC (da j.A.lt d.aC.size));have NR:=E ((R.A.al d.aC).al Z.aC);have NS:=E n.vs;obtain⟨A9,c9,rfl,_⟩:=n.shape;refine aJ _ _ Z ?_;clear aJ KK Z n z0 x0 F;have fy:=E (λp:ba N=>abS (B:=B) t x.wait x.keep p.aL (a8 di.A (a8 (bR.A.trans (uP.A.trans NQ.A)).size p.aC.size)) (NR.A.al p.aC) (NS.A.al p.aC) (a8 (abU _ _ _) aq));refine S4.dm (λwt dD KK aJ=>?_);obtain⟨wk,rfl⟩:=dD;go_simp;refine(fy.A wk).ah ?_;rintro e w7⟨⟨v7,rfl,NP⟩,Z⟩;obtain⟨T,hT⟩:=aP (stepT X (sP s x t) t x.wait x.keep);exact abV
   ·have Gi:=E (show sQ tabs k=jN from alx D);have j:=tp;have l:=eU;have f:=BI;have R:=E (show nX ((wr.alloc (aD #[ap x.n,ap x.x.s.n,O A2 x.x.s.aU.length c2,J I x.x.op,J I x.x.v,J I x.wait,J I x.keep,O A7 x.L.length c7] 51)).alloc (aD #[O M 0 0,J I 0] 56)) B (aY #[O M 0 0,J I 0]) jN from⟨_,rfl,Vs.bh _ _ _⟩);have Tj:decide ((k:Int)<(tabs.length:Int))=false:=aa an;have aM:decide (k<tabs.length)=false:=aa D;clear D;go_wp2_with fail;clear Tj aM y0 y1 y2 y3 y4 y5 y6 F9;have z0:=ba.cells j.A;have x0:=ba.cells l.A;have bA:=E (bR.A.trans (uP.A.trans f.A));have F:=E (λp:ba ((wr.alloc (aD #[ap x.n,ap x.x.s.n,O A2 x.x.s.aU.length c2,J I x.x.op,J I x.x.v,J I x.wait,J I x.keep,O A7 x.L.length c7] 51)).alloc (aD #[O M 0 0,J I 0] 56))=>abG (B:=B) t p.aL (a8 di.A (a8 bA.A.size p.aC.size)) HT.A ((xO.A.al f.A.aC).al p.aC) (Av.al (Av.al mR.A f.A.aC) p.aC));go_wp2_with fail;refine du (cU 0 4 (cU 5 5 (.c 4::(.c 10::[])))) [11] ?_;refine dY ?_;refine S4.dm ?_;rintro _⟨d,rfl⟩ KK aJ;go_simp;refine(F.A d).ah ?_;rintro e N⟨⟨vl,rfl,n⟩,Z⟩;have NQ:=E ((f.A.trans d.r).trans Z);have Et:=E ((l.A.al d.aC l.A.lt).al Z.aC (da l.A.lt d.aC.size));have J8:=E ((j.A.al d.aC j.A.lt).al Z.aC (da j.A.lt d.aC.size));have NR:=E ((R.A.al d.aC).al Z.aC);have NS:=E n.vs;obtain⟨A9,c9,rfl,_⟩:=n.shape;refine aJ _ _ Z ?_;clear aJ KK Z n z0 x0 F;have fy:=E (λp:ba N=>abS (B:=B) t x.wait x.keep p.aL (a8 di.A (a8 (bR.A.trans (uP.A.trans NQ.A)).size p.aC.size)) (NR.A.al p.aC) (NS.A.al p.aC) (a8 (abU _ _ _) aq));refine S4.dm (λwt dD KK aJ=>?_);obtain⟨wk,rfl⟩:=dD;go_simp;refine(fy.A wk).ah ?_;rintro e w7⟨⟨v7,rfl,NP⟩,Z⟩;obtain⟨T,hT⟩:=aP (stepT jN (sP s x t) t x.wait x.keep);exact abV
  ·obtain rfl:k=g.R.length:=by omega
   have HE:=E (show(s,A,o)=(r1,r2,wP) by have:=q.A.2;rwa[qT] at this);have Ta:=E m;have aW:=E K;have bY:=E u;clear q m u K;obtain⟨rfl,U⟩:=Prod.mk.inj HE.A;obtain⟨rfl,rfl⟩:=Prod.mk.inj U;go_wp2;go_ret3;exact⟨⟨_,_,rfl,Ta.A,aW.A.less bR.A.size⟩,bR.A.trans bY.A⟩
variable {v:aE}
def amH (g:cC):jf [g]=lY g:=by
 unfold jf nY;simp[cI,List.getD]
def amI {g:cC} (w:aB) (h:BV w B v g):aN aH 108 #[v] w λe w'=>e=aQ (aG (lY g))/\aF w w':=by
 obtain⟨a,c3,rfl,hn,c⟩:=h.be;have b:=E (((aF.refl w).alloc (aD #[ap g.n,J I g.br,J I g.off,O a g.R.length c3] 43)).alloc (aD #[ap g.n,J I g.br,J I g.off,O a g.R.length c3] 43));have HX:=E (aI.new w 43 #[ap g.n,J I g.br,J I g.off,O a g.R.length c3]);have i:=E (Sl.lit (w.alloc (aD #[ap g.n,J I g.br,J I g.off,O a g.R.length c3] 43)) 43 [ap g.n,J I g.br,J I g.off,O a g.R.length c3] 4 rfl);have f:=E (c.al (b.A.aC));have d:=E (R6 (v:=O (ad ⟨w.heap.size+1,0,M⟩) 1 1) (F:=[g]) (B:=B+w.heap.size+5) ((w.alloc (aD #[ap g.n,J I g.br,J I g.off,O a g.R.length c3] 43)).alloc (aD #[ap g.n,J I g.br,J I g.off,O a g.R.length c3] 43)) (by
  refine⟨_,1,1,rfl,⟨rfl,[ap g.n,J I g.br,J I g.off,O a g.R.length c3],Rs.single ⟨_,rfl,hn,f.A.bt an⟩,?_⟩,av,av⟩;have:=i.A;rw[eO] at this;exact TS.Lt (this.bt an)))
 rw[amH] at d;have k:=HX.A.cell;clear h c;go_enter func108,ntmps108;go_wp2_with fail;refine d.A.ah ?_;rintro e j⟨rfl,Z⟩;replace b:=E (b.A.trans Z);clear Z;go_wp2;go_ret;exact⟨rfl,b.A⟩
def amJ:Option (Int×Int)->Ending
 |none=>aQ (bn #[J I 0,J I 0,aG false])
 |some On=>aQ (bn #[J I On.1,J I On.2,aG true])
theorem T0 (h:P:=by
 go_enter func76,ntmps76;go_wp2_with fail;refine HS.A.ah ?_;rintro e w1'⟨rfl,Z⟩;have hX:=HX.A.al Z.aC HX.A.lt;have k1:=hX.cell;replace HB:=E (HB.A.trans Z);clear Z hX;go_wp2;go_ret3;rw[HD.A];exact⟨rfl,HB.A⟩;):P:=h
def amK {g:cC} (last aL:Int) (w:aB) (h:BV w B v g) (U:-1<=last/\last<=9007199254740992) (hn:0<=aL/\aL<=9007199254740992):aN aH 76 #[v,J I last,J I aL] w λe w'=>e=amJ (sN g last aL)/\aF w w':=by
 have a:=E (show sN g last aL=if lY g=false\/min aL 9007199254740992<g.off then M else if g.off+(min aL 9007199254740992-g.off)/g.br*g.br<=last then M else ad (g.off+(min aL 9007199254740992-g.off)/g.br*g.br,if g.off<=last then(min aL 9007199254740992-g.off)/g.br-((last-g.off)/g.br+1) else(min aL 9007199254740992-g.off)/g.br) from rfl);rw[Int.min_eq_left hn.2] at a;have S:min aL 9007199254740992=aL:=Int.min_eq_left hn.2;obtain⟨y,c3,rfl,X,z⟩:=h.be;have HB:=E ((aF.refl w).alloc (aD #[ap g.n,J I g.br,J I g.off,O y g.R.length c3] 43));have HX:=E (aI.new w 43 #[ap g.n,J I g.br,J I g.off,O y g.R.length c3]);have F:=E (h.al HB.A.aC);have HS:=E (amI _ F.A);have V:=HX.A.cell;clear h z;cases hs:lY g with
 |false=>
  rw[hs] at HS;have HD:=E (show sN g last aL=M by rw[a.A,ag (.inl hs)]);clear a;go_enter func76,ntmps76;go_wp2_with fail;refine HS.A.ah ?_;rintro e s⟨rfl,Z⟩;replace HB:=E (HB.A.trans Z);clear Z;go_wp2;go_ret3;rw[HD.A];exact⟨rfl,HB.A⟩
 |true=>
 rw[hs] at HS;have hg:=hs;unfold lY at hg;simp only[b9,decide_eq_true_eq,Bool.not_eq_true',decide_eq_false_iff_not] at hg;obtain⟨⟨⟨⟨⟨_,hi⟩,t⟩,h0,o⟩,_⟩,_⟩:=hg;unfold gm at hi;simp only[b9,decide_eq_true_eq] at hi;by_cases d:aL<g.off
 ·have HD:=E (show sN g last aL=M by rw[a.A,ag (.inr d)]);have d1:decide (aL<g.off)=true:=ac d;clear a hi t h0 o;go_enter func76,ntmps76;go_wp2_with fail;refine HS.A.ah ?_;rintro e s⟨rfl,Z⟩;have hX:=HX.A.al Z.aC HX.A.lt;have T:=hX.cell 2;replace HB:=E (HB.A.trans Z);clear Z hX;go_wp2;go_ret3;rw[HD.A];exact⟨rfl,HB.A⟩
 rw[af (by rw[not_or,Bool.not_eq_false];exact⟨hs,d⟩)] at a;have d1:decide (aL<g.off)=false:=aa d;have Z:=Int.ediv_mul_le (aL-g.off) (b:=g.br) an;have cN:0<=(aL-g.off)/g.br:=Int.ediv_nonneg an an;have p:(aL-g.off)/g.br<=aL-g.off:=Int.ediv_le_self _ an;have l:0<=(aL-g.off)/g.br*g.br:=Int.mul_nonneg cN an;have D:(aL-g.off).tdiv g.br=(aL-g.off)/g.br:=Int.tdiv_eq_ediv_of_nonneg an;have W:(g.br==0)=false:=by simp;exact t
 obtain⟨q,n⟩:=aP ((aL-g.off)/g.br);rw[n] at a Z cN p l D;obtain⟨m,j⟩:=aP (q*g.br);rw[j] at a Z l;have s:I.wrap (aL-g.off)=aL-g.off:=ay;have R:I.wrap q=q:=ay;have Q:I.wrap (q*g.br)=m:=by rw[j,b7];omega
 have N:I.wrap (g.off+m)=g.off+m:=ay;by_cases f:g.off+m<=last
 ·rw[ag f] at a;have C:decide (g.off+m<=last)=true:=ac f;have HD:=E a.A;clear hi h0 o d Z cN p l n j f a;exact T0
 rw[af f] at a;have C:decide (g.off+m<=last)=false:=aa f;by_cases i:g.off<=last
 ·rw[ag i] at a;have A:decide (g.off<=last)=true:=ac i;have x:0<=(last-g.off)/g.br:=Int.ediv_nonneg an an;have k:(last-g.off)/g.br<=last-g.off:=Int.ediv_le_self _ an;have r:(last-g.off).tdiv g.br=(last-g.off)/g.br:=Int.tdiv_eq_ediv_of_nonneg an;obtain⟨c,u⟩:=aP ((last-g.off)/g.br);rw[u] at a x k r;have L:I.wrap (last-g.off)=last-g.off:=ay;have K:I.wrap c=c:=ay;have H:I.wrap (c+1)=c+1:=ay;have G:I.wrap (q-(c+1))=q-(c+1):=ay;have HD:=E a.A;clear hi h0 o d Z cN p l n j f i x k u a;exact T0
 ·rw[af i] at a;have A:decide (g.off<=last)=false:=aa i;have HD:=E a.A;clear hi h0 o d Z cN p l n j f i a;exact T0
variable {α β:Type}
section
open im (dT fe)
instance:Inhabited eX:=⟨⟨(⟨#[]⟩,⟨#[]⟩),jN⟩⟩
def cz (l:List eX) (i:Nat):Key:=(l.getD i default).k
def fJ (l:List eX) (i:Nat):cy:=(l.getD i default).x
noncomputable def sR (l:List eX) (i:Nat):Bool:=db (cz l i).1&&db (cz l i).2&&fY (fJ l i)&&(decide (i=0)||decide (fU (cz l (i-1)) (cz l i)<0))
noncomputable def kz (l:List eX):Bool:=decide (l.length<=256)&&cI l.length (sR l)
def zm (v:Int):Int:=min (max v (-576460752303423488)) 576460752303423488
def xu (a:b8):b8:={a with v:=zm a.v}
def oa (s:eX):eX:={s with x:={s.x with ao:=s.x.ao.map xu}}
def um (a:b8):Int:=a.st+(if a.h.on=true then 4 else 0)+(if a.h.hit=true then 8 else 0)
def mF (a:b8):List UInt8:=kx a.L++bu (um a).toNat++bu a.h.dB.toNat++bu a.h.eW.toNat++bu (encI (zm a.v))
def oU (s:ByteArray):List UInt8:=bu s.size++nL s
def oV (s:eX):List UInt8:=oU s.k.1++oU s.k.2++bu s.x.full.toNat++bu s.x.ao.length++s.x.ao.flatMap mF
noncomputable def gV (l:List eX):List UInt8:=if kz l=true then bu l.length++l.flatMap oV else[]
abbrev RS:=Except Nat (List UInt8)
def sU:RS->Int×RS
 |.error c=>(0,.error c)
 |.ok l=>match sj l with
  |.error c=>(0,.error c)
  |.ok (u,r)=>(u,.ok r)
noncomputable def kA:RS->aZ×RS
 |.error c=>([],.error c)
 |.ok l=>match uk l with
  |.error c=>([],.error c)
  |.ok (u,r)=>(u,.ok r)
def sW (c:Nat):RS->RS
 |.error e=>.error e
 |.ok _=>.error c
def By (b:Bool) (c:Nat) (s:RS):RS:=if b=true then sW c s else s
noncomputable def lx (s0:RS):b8×RS:=let L:=kA s0;let n:=dc L.2;let a:=dc (By (decide (15<n.1)) 1 n.2);let f:=dc a.2;let v:=sU f.2;(⟨L.1,⟨decide (n.1/4 % 2=1),a.1,decide (n.1/8 % 2=1),f.1⟩,(n.1 % 4:Nat),v.1⟩,v.2)
def qs {α:Type} (one:RS->α×RS):Nat->RS->List α->List α×RS
 |0,s,aT=>(aT,s)
 |_+1,.error c,aT=>(aT,.error c)
 |k+1,.ok l,aT=>qs one k (one (.ok l)).2 (aT++[(one (.ok l)).1])
def pD {α:Type} (one:RS->α×RS) (FP:Nat) (s:RS):List α×RS:=let n:=dc s;qs one n.1 (By (decide (FP<n.1)) 4 n.2) []
noncomputable def mG (s0:RS):eX×RS:=let g:=dZ s0;let r:=dZ g.2;let f:=dc r.2;let ao:=pD lx 16 f.2;(⟨(⟨g.1.toArray⟩,⟨r.1.toArray⟩),⟨ao.1,f.1⟩⟩,ao.2)
noncomputable def un (l:List UInt8):Option (List eX):=match pD mG 256 (.ok l) with
 |(_,.error _)=>M
 |(A,.ok rest)=>if rest=[]/\kz A=true then ad A else M
def Jf (n:Nat) (t:List UInt8) (h:n<=1152921504606846976):dc (.ok (bu n++t))=(n,.ok t):=by
 unfold dc;simp only;rw[C0 n t h]
def Zd (s:ByteArray) (t:List UInt8) (h:s.size<=65536):dZ (.ok (oU s++t))=(nL s,.ok t):=by
 unfold dZ oU;simp only;rw[Rl s t h]
def aiv (L:aZ) (t:List UInt8) (h:bH L=true):kA (.ok (kx L++t))=(L,.ok t):=by
 unfold kA;simp only;rw[aiu L t h]
def aiw (n:Int) (t:List UInt8) (h:-576460752303423488<=n/\n<=576460752303423488):sU (.ok (bu (encI n)++t))=(n,.ok t):=by
 unfold sU;simp only;rw[afE n t h]
def Rm (v:Int):-576460752303423488<=zm v/\zm v<=576460752303423488:=by unfold zm;omega
def Ro {a:b8} (h:0<=a.st/\a.st<=2):0<=um a/\um a<=15/\(um a).toNat % 4=a.st.toNat/\decide ((um a).toNat/4 % 2=1)=a.h.on/\decide ((um a).toNat/8 % 2=1)=a.h.hit:=by
 obtain⟨L,⟨on,s,hit,f⟩,st,v⟩:=a;unfold um;simp only at h⊢;rcases(show st=0\/st=1\/st=2 by omega) with rfl|rfl|rfl<;>cases on<;>cases hit<;>simp
theorem Rp (h:P:=by
 unfold fe dT at h2;simp only[b9,decide_eq_true_eq] at h2;omega;):P:=h
def aix {a:b8} (t:List UInt8) (c:bH a.L=true) (h2:fe a.h=true) (b:0<=a.st/\a.st<=2):lx (.ok (mF a++t))=(xu a,.ok t):=by
 have hs:=Ro b;have Z:0<=a.h.dB/\a.h.dB<=9007199254740992/\0<=a.h.eW/\a.h.eW<=9007199254740992:=by
  exact Rp
 unfold lx mF;simp only[mV];rw[aiv _ _ c];simp only;rw[Jf _ _ an];simp only;rw[show decide (15<(um a).toNat)=false from aa an];unfold By;simp only[tL,if_false];rw[Jf _ _ an];simp only;rw[Jf _ _ an];simp only;rw[aiw _ _ (Rm _)];simp only;rw[hs.2.2.1,hs.2.2.2.1,hs.2.2.2.2];obtain⟨L,⟨on,s,hit,f⟩,st,v⟩:=a;simp only at Z b;unfold xu;simp only;rw[show((s.toNat:Nat):Int)=s by omega,show((f.toNat:Nat):Int)=f by omega,show((st.toNat:Nat):Int)=st by omega]
def Ze (one:RS->α×RS) (put:β->List UInt8) (cl:β->α):∀(zs:List β) (t:List UInt8) (aT:List α),(∀z∈zs,∀t,one (.ok (put z++t))=(cl z,.ok t))->qs one zs.length (.ok (zs.flatMap put++t)) aT=(aT++zs.map cl,.ok t)
 |[],t,aT,_=>by simp[qs]
 |z::zs,t,aT,h=>by
  rw[pY,List.flatMap_cons,mV,qs,h z av]
  simp only
  rw[Ze one put cl zs t _ (λy a=>h y (by simp[a]))]
  simp
def Zf (one:RS->α×RS) (put:β->List UInt8) (cl:β->α) (a:Nat) (zs:List β) (t:List UInt8) (c:a<=1000) (b:zs.length<=a) (h:∀z∈zs,∀t,one (.ok (put z++t))=(cl z,.ok t)):pD one a (.ok (bu zs.length++(zs.flatMap put++t)))=(zs.map cl,.ok t):=by
 unfold pD;rw[Jf _ _ an];simp only;rw[show decide (a<zs.length)=false from aa an];unfold By;simp only[tL,if_false];rw[Ze one put cl zs t [] h];simp
def FQ {l:List eX} (h:kz l=true):l.length<=256/\∀s∈l,db s.k.1=true/\db s.k.2=true/\fY s.x=true:=by
 unfold kz at h;rw[b9,decide_eq_true_eq,mw] at h;refine⟨h.1,λs hs=>?_⟩;obtain⟨i,hi,rfl⟩:=qV.1 hs;have:=h.2 i hi;unfold sR cz fJ at this;rw[dr hi] at this;simp only[b9] at this;exact⟨this.1.1.1,this.1.1.2,this.1.2⟩
def Zg (s:ByteArray):(⟨(nL s).toArray⟩:ByteArray)=s:=by
 unfold nL;simp
def aiy {s:eX} (t:List UInt8) (e:db s.k.1=true) (h2:db s.k.2=true) (d:fY s.x=true):mG (.ok (oV s++t))=(oa s,.ok t):=by
 have b:=qk.1 d;have n1:=(nM.1 e).2.1;have f:=(nM.1 h2).2.1;unfold mG oV;simp only[mV];rw[Zd _ _ an];simp only;rw[Zd _ _ an];simp only;rw[Jf _ _ an];simp only;rw[Zf lx mF xu 16 s.x.ao t an b.1 (λa c t=>aix t (b.2.2.1 a c).1 (b.2.2.1 a c).2.1 (b.2.2.1 a c).2.2)];simp only;rw[Zg,Zg,show((s.x.full.toNat:Nat):Int)=s.x.full by omega];rfl
def Zh {f g:Nat->Bool} (h:∀i,i<n->f i=g i):cI n f=cI n g:=by
 rw[Bool.eq_iff_iff,mw,mw];exact⟨λk i hi=>h i hi▸k i hi,λk i hi=>(h i hi).symm▸k i hi⟩
theorem Zi (h:P:=by
 rw[dd,tJ,cR hk,dd,cR hk];rfl;):P:=h
def aiz (x:cy):fY {x with ao:=x.ao.map xu}=fY x:=by
 have hk:∀k,k<x.ao.length->(x.ao.map xu).getD k default=xu (x.ao.getD k default):=λk hk=>by
  exact Zi
 unfold fY;simp only[p6];rw[Zh (f:=sK (x.ao.map xu)) (g:=sK x.ao) (λi hi=>by
  have h0:=hk i hi;have a:(x.ao.map xu).getD (i-1) default=xu (x.ao.getD (i-1) default):=hk (i-1) an;unfold sK cX dx gl;rw[h0,a];rfl)]
def Zj (l:List eX):kz (l.map oa)=kz l:=by
 have hk:∀k,k<l.length->(l.map oa).getD k default=oa (l.getD k default):=λk hk=>by
  exact Zi
 unfold kz;rw[p6,Zh (f:=sR (l.map oa)) (g:=sR l) (λi hi=>by
  have h0:=hk i hi;have a:(l.map oa).getD (i-1) default=oa (l.getD (i-1) default):=hk (i-1) an;unfold sR cz fJ;rw[h0,a];unfold oa;simp only;rw[aiz])]
def Zk {l:List eX} (h:kz l=true):un (gV l)=ad (l.map oa):=by
 have a:=FQ h;unfold un gV;rw[ag h];have:=Zf mG oV oa 256 l [] an a.1 (λs hs t=>aiy t (a.2 s hs).1 (a.2 s hs).2.1 (a.2 s hs).2.2);rw[List.append_nil] at this;rw[this];simp only;rw[ag ⟨trivial,by rw[Zj];exact h⟩]
def aiA {b:List UInt8} {l:List eX} (h:un b=ad l):kz l=true:=by
 unfold un at h;split at h
 ·cases h
 ·split at h
  ·rename_i a;cases h;exact a.2
  ·cases h
end
variable {i b:Nat} {l:List Tok} {w0:aB}
def eT (l:List Tok) (i:Nat) (k:Int):Bool:=(l[i]?).any λt=>decide (t.k=k)
def cA (l:List Tok) (i:Nat) (k:Int) (s:ByteArray):Bool:=(l[i]?).any λt=>decide (t.k=k)&&decide (t.s=s)
def eu (l:List Tok) (i:Nat):ByteArray:=(l.getD i ⟨0,0,⟨#[]⟩⟩).s
def s6 (h:i<l.length) (k:Int):eT l i k=decide (l[i].k=k):=by unfold eT;rw[cR h];rfl
def F3 (h:¬i<l.length) (k:Int):eT l i k=false:=by unfold eT;rw[List.getElem?_eq_none an];rfl
def kZ {k:Int} (h:eT l i k=true):i<l.length:=by
 rcases gy i l.length with h1|h1
 ·exact h1
 ·rw[F3 an] at h;cases h
def pJ {k:Int} {s:ByteArray}:cA l i k s=(eT l i k&&decide (eu l i=s)):=by
 unfold cA eT eu;by_cases h:i<l.length
 ·rw[cR h,dd,cR h];rfl
 ·rw[List.getElem?_eq_none an];rfl
def qx (h:i<l.length):eu l i=l[i].s:=by unfold eu;rw[dd,cR h];rfl
def Rw.tk (h:Rw kM w B ao n l) (hB:aS w.heap.size w wr) {k:Nat} (a:k<l.length):∃b off,ao=ad (ab b off M)/\b<w.heap.size/\wr.cell? ⟨b,off+k*3,M⟩=ad (J I l[k].k)/\wr.cell? ⟨b,off+k*3+1,M⟩=ad (J I l[k].p)/\wr.cell? ⟨b,off+k*3+2,M⟩=ad (ap l[k].s)/\l[k].s.size<=9223372036854775807:=by
 obtain⟨b,off,vs,e,Z,d,h2⟩:=h.aL hB a;obtain⟨rfl,c⟩:=d;exact⟨b,off,e,Z,h2 0 _ rfl,h2 1 _ rfl,h2 2 _ rfl,c⟩
structure jj (w0 w:aB) (B b c i:Nat) (ao:Option aX) (l:List Tok):Prop where
 b0:aF w0 w
 Z:w0.heap.size<=b
 tk:Rw kM w0 B ao l.length l
 box:aI w b 415 #[O ao l.length c,J I i]
 lc:l.length<=c/\c<=9223372036854775807
 le:i<=l.length
section
variable {w0 w w':aB} {B b c i:Nat} {ao:Option aX} {l:List Tok}
def jj.al (h:jj w0 w B b c i ao l) (Z:aS w.heap.size w w'):jj w0 w' B b c i ao l:=⟨h.b0.trans (aF.of Z),h.Z,h.tk,h.box.al Z h.box.lt,h.lc,h.le⟩
def jj.step (h:jj w0 w B b c i ao l) {j:Nat} (hj:j<=l.length):jj w0 (w.setCell (ab b 1 M) (J I j)) B b c j ao l:=⟨h.b0.setCell h.Z _,h.Z,h.tk,h.box.put 1 _,h.lc,hj⟩
end
def bX {o:Nat} (Z:b<w.heap.size) (u:aE):w.grownBy (w.setCell (ab b o M) u) (ad b):=⟨rfl,rfl,rfl,aqY,λk c a=>yv _ _ _ _ (λe=>a (by rw[e]))⟩
def bB {a b c:aB} {r:Nat} (h:a.grownBy b (ad r)) (k:b.grownBy c (ad r)):a.grownBy c (ad r):=⟨k.os.trans h.os,k.tape.trans h.tape,k.output.trans h.output,a8 h.size k.size,λi hi d=>(k.block i (da hi h.size) d).trans (h.block i hi d)⟩
def grown_of {a b:aB} {r:Nat} (h:aS a.heap.size a b):a.grownBy b (ad r):=⟨h.os,h.tape,h.output,h.size,λi hi _=>h.block i hi⟩
theorem Z8 (h:P:=by
 go_wp2_with fail;refine du (cU 0 26 []) [] ?_;refine dY ?_;refine S4.nb λwq hq=>?_;refine dP ?_;go_wp2;go_ret;exact⟨cc (by rw[HE.A];first|rfl|(rw[Bool.eq_iff_iff];simp)),hq⟩;):P:=h
theorem Z9 (h:P:=by
 go_wp2_with fail;refine du (cU 0 26 []) [] ?_;refine dY ?_;refine S4.nb λwq hq=>?_;refine dP ?_;go_wp2;go_ret;exact⟨cc HE.A.symm,hq⟩;):P:=h
def D1 {c:Nat} (k:Int) (h:jj w0 w B b c i ao l):aN aH 338 #[bl (ad (ab b 0 M)),J I k] w λe w'=>e=aQ (aG (eT l i k))/\aS w.heap.size w w':=by
 have g:=E h.b0;have o:=E h.tk;have q:=ba.cells h.box;have t:=h.lc.1;have s:=h.lc.2;by_cases a:i<l.length
 ·have HE:=E (s6 a k);generalize eT l i k=r at HE⊢;obtain⟨u,off,rfl,n,f,q1,q2,j⟩:=o.A.tk g.A.aC a;have x0:=λp:ba w=>p.cell (da n g.A.size) f;obtain⟨K,d⟩:=aP (l[i].k);rw[d] at HE;simp only[d] at x0;have d1:decide ((i:Int)<(l.length:Int))=true:=ac an;have m:decide (i<l.length)=true:=ac a;clear d f q1 q2 j h;go_enter func338,ntmps338;exact Z8
 ·have HE:=E (F3 a k);have d1:decide ((i:Int)<(l.length:Int))=false:=aa an;have m:decide (i<l.length)=false:=aa a;clear h;go_enter func338,ntmps338;exact Z9
theorem aaa (h:P:=by
 go_wp2_with fail;refine du (cU 0 10 []) [] ?_;refine dY ?_;refine S4.nb λwq hq=>?_;refine dP ?_;go_wp2;go_ret;exact⟨⟨3,rfl,aq⟩,hq⟩;):P:=h
theorem aab (h:P:=by
 go_wp2_with fail;refine du (cU 0 10 []) [] ?_;refine dY ?_;refine S4.nb λwq hq=>?_;refine dP ?_;go_wp2;go_ret;exact⟨⟨1,rfl,aq⟩,hq⟩;):P:=h
def M4 {c:Nat} (h:jj w0 w B b c i ao l):aN aH 320 #[bl (ad (ab b 0 M))] w λe w'=>(∃k:Int,e=aQ (J I k)/\(k !=0)=true)/\aS w.heap.size w w':=by
 have f:=ba.cells h.box;clear h;by_cases a:l.length<=i
 ·have d1:decide ((l.length:Int)<=(i:Int))=true:=ac an;have d:decide (l.length<=i)=true:=ac a;go_enter func320,ntmps320;exact aaa
 ·have d1:decide ((l.length:Int)<=(i:Int))=false:=aa an;have d:decide (l.length<=i)=false:=aa a;go_enter func320,ntmps320;exact aab
theorem aac (h:P:=by
 go_enter func318,ntmps318;go_wp2_with fail;refine du (cU 0 18 []) [] ?_;repeat (
  refine S4.step (λKK aJ=>?_);go_simp;first
   |(refine aJ _ ?_;clear aJ KK)
   |(apply lL;refine⟨λ_=>?_,aJ _ ?_⟩;(with_reducible exact aN.seq (C1.A _));clear aJ KK))
 refine S4.nb λwq hq=>?_;refine dP ?_;go_wp2;go_ret;exact⟨rfl,hq⟩;):P:=h
def F4 {c:Nat} (s:ByteArray) (h:jj w0 w B b c i ao l) (a:cA l i 4 s=false):aN aH 318 #[bl (ad (ab b 0 M)),ap s] w λe w'=>e=aQ (aG false)/\aS w.heap.size w w':=by
 have C1:=E (λp:ba w=>D1 4 (h.al p.aC));have g:=E h.b0;have q:=E h.tk;have t:=ba.cells h.box;have v:=h.lc.1;have u:=h.lc.2;rw[pJ] at a;cases d:eT l i 4 with
 |false=>
  rw[d] at C1;clear h a;exact aac
 |true=>
  rw[d] at C1 a;have j:=kZ d;obtain⟨x,off,rfl,o,n,q1,q2,m⟩:=q.A.tk g.A.aC j;have x2:=λp:ba w=>p.cell (da o g.A.size) q2;rw[qx j] at a;obtain⟨T,f⟩:=aP (l[i].s);rw[f] at a;simp only[f] at x2;have r:(T.toList==s.toList)=false:=by rw[j9];simpa using a
  have y:(T.toList !=s.toList)=true:=by rw[bne,r];rfl
  clear d a f n q1 q2 m h;exact aac
def F5 {c:Nat} (s:ByteArray) (h:jj w0 w B b c i ao l) (a:cA l i 4 s=true):aN aH 318 #[bl (ad (ab b 0 M)),ap s] w λe w'=>e=aQ (aG true)/\jj w0 w' B b c (i+1) ao l/\w.grownBy w' (ad b):=by
 have u:=E (λp:ba w=>D1 4 (h.al p.aC));have K:=E h;have t:=E h.b0;have D:=E h.tk;have v:=ba.cells h.box;have S:=h.lc.1;have R:=h.lc.2;rw[pJ,b9] at a;rw[a.1] at u;have q:=kZ a.1;obtain⟨U,off,rfl,C,z,q1,q2,y⟩:=D.A.tk t.A.aC q;have x2:=λp:ba w=>p.cell (da C t.A.size) q2;have d:=a.2;rw[qx q] at d;obtain⟨T,n⟩:=aP (l[i].s);rw[n] at d;simp only[n] at x2;have m:T=s:=am d;subst m;have F:=E q;clear a d n z q1 q2 y h;go_enter func318,ntmps318;go_wp2_with fail;refine du (cU 0 18 []) [] ?_;repeat (
  refine S4.step (λKK aJ=>?_);go_simp;first
   |(refine aJ _ ?_;clear aJ KK)
   |(apply lL;refine⟨λ_=>?_,aJ _ ?_⟩;(with_reducible exact aN.seq (u.A _));clear aJ KK))
 refine S4.nb λO g=>?_;refine dP ?_;have f:=E (K.A.al g);have H:=E g;clear g v x2;have V:=f.A.box.frozen 1;have N:=f.A.box.cell 1;have W:I.wrap ((i:Int)+1)=((i+1:Nat):Int):=ay;have G:=E (f.A.step (j:=i+1) F.A);have L:=E (bB (grown_of (r:=b) H.A) (bX (o:=1) f.A.box.lt (J I ((i+1:Nat):Int))));go_wp2;go_ret;exact⟨rfl,G.A,L.A⟩
def aad {c:Nat} (h:jj w0 w B b c i ao l) (a:(eT l i 1&&db (eu l i))=false):aN aH 317 #[bl (ad (ab b 0 M))] w λe w'=>(∃k:Int,e=aQ (bn #[ap ⟨#[]⟩,J I k])/\(k !=0)=true)/\aS w.heap.size w w':=by
 have g:=E (D1 1 h);have y:=E h;have V:=E h.b0;have F:=E h.tk;have S:=h.lc.1;have R:=h.lc.2;cases f:eT l i 1 with
 |false=>
  rw[f] at g;clear h a;go_enter func317,ntmps317;go_wp2_with fail;refine g.A.ah ?_;rintro e q⟨rfl,Z⟩;have G:=E (M4 (y.A.al Z));have d:=E Z;clear Z;go_wp2_with fail;refine G.A.ah ?_;rintro e O⟨⟨k,rfl,u⟩,Z⟩;have H:=E u;have m:=E (d.A.trans (Z.mono d.A.size));clear u Z;go_wp2;go_ret2;exact⟨⟨k,rfl,H.A⟩,m.A⟩
 |true=>
  rw[f] at g a;have v:=kZ f;rw[qx v] at a;have o:db l[i].s=false:=am a;clear h a f;go_enter func317,ntmps317;go_wp2_with fail;refine g.A.ah ?_;rintro e q⟨rfl,Z⟩;have j:=E (y.A.al Z);have d:=E Z;obtain⟨U,off,rfl,D,C,q1,q2,r⟩:=F.A.tk j.A.b0.aC v;have x2:=λp:ba q=>p.cell (da D j.A.b0.size) q2;have K:=ba.cells j.A.box;obtain⟨T,n⟩:=aP (l[i].s);rw[n] at o r;simp only[n] at x2;have z:=λW=>mu T W r;rw[o] at z;clear n o C q1 q2 Z;go_wp2_with fail;refine du (cU 0 12 []) [] ?_;refine dY ?_;refine S4.nb λL t=>?_;refine dP ?_;have m:=E (d.A.trans (t.mono d.A.size));clear t;go_wp2_with fail;refine(z _).ah ?_;rintro e N⟨rfl,rfl⟩;go_wp2;go_ret2;exact⟨⟨7,rfl,aq⟩,m.A⟩
def aae {c:Nat} (h:jj w0 w B b c i ao l) (d:(eT l i 1&&db (eu l i))=true):aN aH 317 #[bl (ad (ab b 0 M))] w λe w'=>e=aQ (bn #[ap (eu l i),J I 0])/\jj w0 w' B b c (i+1) ao l/\w.grownBy w' (ad b):=by
 have x:=E (D1 1 h);have L:=E h;have F:=E h.tk;have V:=h.lc.1;have U:=h.lc.2;rw[b9] at d;rw[d.1] at x;have q:=kZ d.1;have m:=d.2;rw[qx q] at m⊢;obtain⟨T,a⟩:=aP (l[i].s);rw[a] at m⊢;have H:=E a;clear a;have G:=E q;clear h d;go_enter func317,ntmps317;go_wp2_with fail;refine x.A.ah ?_;rintro e z⟨rfl,Z⟩;have f:=E (L.A.al Z);have u:=E Z;obtain⟨X,off,rfl,D,A,q1,q2,t⟩:=F.A.tk f.A.b0.aC q;have x2:=λp:ba z=>p.cell (da D f.A.b0.size) q2;have y:=ba.cells f.A.box;have a:=H.A;rw[a] at t;simp only[a] at x2;have v:=λW=>mu T W t;rw[m] at v;clear a m A q1 q2 Z;go_wp2_with fail;refine du (cU 0 12 []) [] ?_;refine dY ?_;refine S4.nb λR n=>?_;refine dP ?_;have g:=E (f.A.al n);have C:=E (u.A.trans (n.mono u.A.size));clear n y x2;go_wp2_with fail;refine(v _).ah ?_;rintro e S⟨rfl,rfl⟩;have Y:=g.A.box.frozen 1;have O:=g.A.box.cell 1;have VH:I.wrap ((i:Int)+1)=((i+1:Nat):Int):=ay;have K:=E (g.A.step (j:=i+1) G.A);have N:=E (bB (grown_of (r:=b) C.A) (bX (o:=1) g.A.box.lt (J I ((i+1:Nat):Int))));go_wp2;go_ret2;exact⟨rfl,K.A,N.A⟩
variable {g:Nat} {w' cT:aB} {t:bf} {cs:Array aE} {a0 cZ a2:aE}
def jj.grown {w:aB} {c:Nat} (h:jj w0 w' B b c i ao l):jj w0 w' B b c i ao l:=h
def aI.gr {r:Nat} (h:aI w g t cs) (hg:w.grownBy w' (ad r)) (a:g≠r):aI w' g t cs:=h.grown hg (λe=>a aqE)
def aI.F6 (h:aI w g t #[a0,cZ,a2]) (u0 u1 u2:aE):aI (((w.setCell (ab g 0 M) u0).setCell (ab g 1 M) u1).setCell (ab g 2 M) u2) g t #[u0,u1,u2]:=((h.put 0 u0).put 1 u1).put 2 u2
def jj.own {c:Nat} (h:jj w0 w B b c i ao l) (hg:w.grownBy w' (ad g)) (h0:w0.heap.size<=g) (a:b≠g):jj w0 w' B b c i ao l:=⟨h.b0.cD hg h0,h.Z,h.tk,h.box.gr hg a,h.lc,h.le⟩
def F7 (Z:g<w.heap.size) (u0 u1 u2:aE):w.grownBy (((w.setCell (ab g 0 M) u0).setCell (ab g 1 M) u1).setCell (ab g 2 M) u2) (ad g):=bB (bB (bX Z u0) (bX aqg u1)) (bX aqg u2)
def l3 (h:w.grownBy w' (ad b)) (k:w'.grownBy cT (ad g)) (hg:w.heap.size<=g):w.grownBy cT (ad b):=⟨k.os.trans h.os,k.tape.trans h.tape,k.output.trans h.output,a8 h.size k.size,λj hj a=>(k.block j (da hj h.size) (λe=>by cases e;omega)).trans (h.block j hj a)⟩
structure ajF (w0 w w':aB) (B b c:Nat) (ao:Option aX) (l:List Tok) (n:Int) (e:Ending):Prop where
 A:∃(mt:wU) (k:Int),e=aQ (bn #[aY #[ap mt.n,ap mt.v,aG mt.neg],J I k])/\(mt.n.size<=9223372036854775807/\mt.v.size<=9223372036854775807)/\(k=0->db mt.n=true/\mt.v.size<=64/\n<8)
 rd:∃j,jj w0 w' B b c j ao l
 gr:w.grownBy w' (ad b)
theorem aaf (h:P:=by
 have aM:=D1 3 HR.A;rw[s7] at aM;go_wp2_with fail;refine(aM).ah ?_;rintro e wz⟨rfl,Z⟩;replace HR:=E (HR.A.al Z);replace HX:=E (HX.A.al Z HX.A.lt);replace HG:=E (bB HG.A (grown_of Z));clear Z;have HW:=E (M4 HR.A);go_wp2_with fail;refine HW.A.ah ?_;rintro e wz⟨⟨k,rfl,ci⟩,Z⟩;have HK:=E (show k≠0 by simpa using ci);replace HR:=E (HR.A.al Z);replace HG:=E (bB HG.A (grown_of Z));replace HX:=E (HX.A.al Z HX.A.lt);clear ci Z HW;have⟨z0,f0⟩:=HX.A.cf;have HP:=E (HX.A.F6 (ap ⟨#[]⟩) (ap ⟨#[]⟩) (aG false));have ch:=E (F7 HX.A.lt (ap ⟨#[]⟩) (ap ⟨#[]⟩) (aG false));have bi:=E (HR.A.own ch.A (a8 H0.A (aO _)) (mW gu.A));have k4:=E (l3 HG.A ch.A (aO _));go_wp2;have k0:=HP.A.cell;refine bF (v:=bn #[aY #[ap ⟨#[]⟩,ap ⟨#[]⟩,aG false],J I k]) aqw rfl ⟨⟨⟨⟨#[]⟩,⟨#[]⟩,false⟩,k,rfl,aq,λh=>ae h HK.A⟩,⟨_,bi.A⟩,k4.A⟩;):P:=h
theorem aag (h:P:=by
 have d1:decide ((64:Int)<(T.size:Int))=true:=ac an;have ec:decide (64<T.size)=true:=ac jJ;have⟨z0,f0⟩:=HX.A.cf;have HP:=E (HX.A.F6 (ap ⟨#[]⟩) (ap ⟨#[]⟩) (aG false));have ch:=E (F7 HX.A.lt (ap ⟨#[]⟩) (ap ⟨#[]⟩) (aG false));have bi:=E (HR.A.own ch.A (a8 H0.A (aO _)) (mW gu.A));have k4:=E (l3 HG.A ch.A (aO _));go_wp2;have k0:=HP.A.cell;refine bF (v:=bn #[aY #[ap ⟨#[]⟩,ap ⟨#[]⟩,aG false],J I 4]) aqw rfl ⟨⟨⟨⟨#[]⟩,⟨#[]⟩,false⟩,4,rfl,aq,λh=>ae h aq⟩,⟨_,bi.A⟩,k4.A⟩;):P:=h
theorem aah (h:P:=by
 have d2:decide (8<=n)=true:=ac h8;have⟨z0,f0⟩:=HX.A.cf;have HP:=E (HX.A.F6 (ap ⟨#[]⟩) (ap ⟨#[]⟩) (aG false));have ch:=E (F7 HX.A.lt (ap ⟨#[]⟩) (ap ⟨#[]⟩) (aG false));have bi:=E (HR.A.own ch.A (a8 H0.A (aO _)) (mW gu.A));have k4:=E (l3 HG.A ch.A (aO _));go_wp2;have k0:=HP.A.cell;refine bF (v:=bn #[aY #[ap ⟨#[]⟩,ap ⟨#[]⟩,aG false],J I 4]) aqw rfl ⟨⟨⟨⟨#[]⟩,⟨#[]⟩,false⟩,4,rfl,aq,λh=>ae h aq⟩,⟨_,bi.A⟩,k4.A⟩;):P:=h
theorem aai (h:P:=by
 have⟨z0,f0⟩:=HX.A.cf;have HP:=E (HX.A.F6 (ap ⟨#[]⟩) (ap ⟨#[]⟩) (aG false));have ch:=E (F7 HX.A.lt (ap ⟨#[]⟩) (ap ⟨#[]⟩) (aG false));have bi:=E (HR.A.own ch.A (a8 H0.A (aO _)) (mW gu.A));have k4:=E (l3 HG.A ch.A (aO _));go_wp2;have k0:=HP.A.cell;refine bF (v:=bn #[aY #[ap ⟨#[]⟩,ap ⟨#[]⟩,aG false],J I k]) aqw rfl ⟨⟨⟨⟨#[]⟩,⟨#[]⟩,false⟩,k,rfl,aq,λh=>ae h HK.A⟩,⟨_,bi.A⟩,k4.A⟩;):P:=h
def ajG {c:Nat} (n:Int) (h:jj w0 w B b c i ao l):aN aH 319 #[bl (ad (ab b 0 M)),J I n] w λe w'=>ajF w0 w w' B b c ao l n e:=by
 have H0:=E h.b0.size;have gu:=E (show b<w.heap.size from h.box.lt);have K:=(bk w.heap.size w).alloc (aO _) (aD #[ap ⟨#[]⟩,ap ⟨#[]⟩,aG false] 126);have HR:=E (h.al K);have HG:=E (grown_of (r:=b) K);have HX:=E (aI.new w 126 #[ap ⟨#[]⟩,ap ⟨#[]⟩,aG false]);clear h K;go_enter func319,ntmps319;cases f:(eT l i 1&&db (eu l i)) with
 |false=>
  go_wp2_with fail;refine(aad HR.A f).ah ?_;rintro e wz⟨⟨k,rfl,ci⟩,Z⟩;have HK:=E (show k≠0 by simpa using ci);replace HR:=E (HR.A.al Z);replace HX:=E (HX.A.al Z HX.A.lt);replace HG:=E (bB HG.A (grown_of Z));have eV:=ci;clear f Z ci;exact aai
 |true=>
  have U:=E (show(eu l i).size<=9223372036854775807 by
   rw[b9] at f;have m:=kZ f.1;obtain⟨S,off,_,D,z,q1,q2,q⟩:=HR.A.tk.tk HR.A.b0.aC m;rw[qx m];exact q)
  go_wp2_with fail;refine(aae HR.A f).ah ?_;rintro e wz⟨rfl,g,a⟩;replace HR:=E g;replace HX:=E (HX.A.gr a (sh gu.A));replace HG:=E (bB HG.A a);have A:=E (show db (eu l i)=true/\(eu l i).size<=9223372036854775807 from⟨by rw[b9] at f;exact f.2,U.A⟩);generalize eu l i=nm at*;clear g a f U;cases F:cA l (i+1) 4 ⟨#[33,61]⟩ with
  |true=>
   have aM:=F5 ⟨#[33,61]⟩ HR.A F;go_wp2_with fail;refine(aM).ah ?_;rintro e wz⟨rfl,g,a⟩;replace HR:=E g;replace HX:=E (HX.A.gr a (sh gu.A));replace HG:=E (bB HG.A a);clear g a;clear F aM;obtain⟨j,hj⟩:=aP (i+1+1);rw[hj] at HR;clear hj;cases s7:eT l (j) 3 with
   |false=>
    exact aaf
   |true=>
    have m:=kZ s7;have aM:=D1 3 HR.A;rw[s7] at aM;go_wp2_with fail;refine(aM).ah ?_;rintro e wz⟨rfl,Z⟩;replace HR:=E (HR.A.al Z);replace HX:=E (HX.A.al Z HX.A.lt);replace HG:=E (bB HG.A (grown_of Z));clear Z;clear aM;obtain⟨S,off,rfl,D,z,q1,q2,q⟩:=HR.A.tk.tk HR.A.b0.aC m;have x2:=λp:ba wz=>p.cell (da D HR.A.b0.size) q2;have G:=ba.cells HR.A.box;have Y:=HR.A.lc.1;have X:=HR.A.lc.2;obtain⟨T,u⟩:=aP (l[j].s);rw[u] at q;simp only[u] at x2;have N:=E m;have H:=E q;clear u z q1 q2 s7;go_wp2_with fail;refine du (cU 0 12 []) [] ?_;refine dY ?_;refine S4.nb λW d=>?_;refine dP ?_;replace HR:=E (HR.A.al d);replace HX:=E (HX.A.al d HX.A.lt);replace HG:=E (bB HG.A (grown_of d));clear d G x2;by_cases jJ:64<T.size
    ·exact aag
    have d1:decide ((64:Int)<(T.size:Int))=false:=aa an;have ec:decide (64<T.size)=false:=aa jJ;by_cases h8:8<=n
    ·exact aah
    have d2:decide (8<=n)=false:=aa h8;have y:=E (show T.size<=64/\n<8 by omega);clear jJ h8;have g1:=HR.A.box.frozen 1;have V:=HR.A.box.cell 1;have L:I.wrap ((j:Int)+1)=(j:Int)+1:=ay;have hs:=HR.A.step (j:=j+1) N.A;rw[show(((j+1:Nat)):Int)=(j:Int)+1 from rfl] at hs;have R:=E hs;clear hs;have t:=bX (o:=1) HR.A.box.lt (J I ((j:Int)+1));have x:=E (HX.A.gr t (sh gu.A));have O:=E (bB HG.A t);clear t;have⟨z0,f0⟩:=x.A.cf;have HP:=E (x.A.F6 (ap nm) (ap T) (aG true));have ch:=E (F7 x.A.lt (ap nm) (ap T) (aG true));have bi:=E (R.A.own ch.A (a8 H0.A (aO _)) (mW gu.A));have k4:=E (l3 O.A ch.A (aO _));go_wp2;have k0:=HP.A.cell;refine bF (v:=bn #[aY #[ap nm,ap T,aG true],J I 0]) aqw rfl ⟨⟨⟨nm,T,true⟩,0,rfl,⟨A.A.2,H.A⟩,λ_=>⟨A.A.1,y.A.1,y.A.2⟩⟩,⟨_,bi.A⟩,k4.A⟩
  |false=>
   have aM:=F4 ⟨#[33,61]⟩ HR.A F;go_wp2_with fail;refine(aM).ah ?_;rintro e wz⟨rfl,Z⟩;replace HR:=E (HR.A.al Z);replace HX:=E (HX.A.al Z HX.A.lt);replace HG:=E (bB HG.A (grown_of Z));clear Z;clear F aM;cases C:cA l (i+1) 4 ⟨#[61]⟩ with
   |false=>
    have aM:=F4 ⟨#[61]⟩ HR.A C;go_wp2_with fail;refine(aM).ah ?_;rintro e wz⟨rfl,Z⟩;replace HR:=E (HR.A.al Z);replace HX:=E (HX.A.al Z HX.A.lt);replace HG:=E (bB HG.A (grown_of Z));clear Z;clear C aM;have HW:=E (M4 HR.A);go_wp2_with fail;refine HW.A.ah ?_;rintro e wz⟨⟨k,rfl,ci⟩,Z⟩;have HK:=E (show k≠0 by simpa using ci);replace HR:=E (HR.A.al Z);replace HG:=E (bB HG.A (grown_of Z));replace HX:=E (HX.A.al Z HX.A.lt);clear ci Z HW;exact aai
   |true=>
    have aM:=F5 ⟨#[61]⟩ HR.A C;go_wp2_with fail;refine(aM).ah ?_;rintro e wz⟨rfl,g,a⟩;replace HR:=E g;replace HX:=E (HX.A.gr a (sh gu.A));replace HG:=E (bB HG.A a);clear g a;clear C aM;obtain⟨j,hj⟩:=aP (i+1+1);rw[hj] at HR;clear hj;cases s7:eT l (j) 3 with
    |false=>
     exact aaf
    |true=>
     have m:=kZ s7;have aM:=D1 3 HR.A;rw[s7] at aM;go_wp2_with fail;refine(aM).ah ?_;rintro e wz⟨rfl,Z⟩;replace HR:=E (HR.A.al Z);replace HX:=E (HX.A.al Z HX.A.lt);replace HG:=E (bB HG.A (grown_of Z));clear Z;clear aM;obtain⟨S,off,rfl,D,z,q1,q2,q⟩:=HR.A.tk.tk HR.A.b0.aC m;have x2:=λp:ba wz=>p.cell (da D HR.A.b0.size) q2;have G:=ba.cells HR.A.box;have Y:=HR.A.lc.1;have X:=HR.A.lc.2;obtain⟨T,u⟩:=aP (l[j].s);rw[u] at q;simp only[u] at x2;have N:=E m;have H:=E q;clear u z q1 q2 s7;go_wp2_with fail;refine du (cU 0 12 []) [] ?_;refine dY ?_;refine S4.nb λW d=>?_;refine dP ?_;replace HR:=E (HR.A.al d);replace HX:=E (HX.A.al d HX.A.lt);replace HG:=E (bB HG.A (grown_of d));clear d G x2;by_cases jJ:64<T.size
     ·exact aag
     have d1:decide ((64:Int)<(T.size:Int))=false:=aa an;have ec:decide (64<T.size)=false:=aa jJ;by_cases h8:8<=n
     ·exact aah
     have d2:decide (8<=n)=false:=aa h8;have y:=E (show T.size<=64/\n<8 by omega);clear jJ h8;have g1:=HR.A.box.frozen 1;have V:=HR.A.box.cell 1;have L:I.wrap ((j:Int)+1)=(j:Int)+1:=ay;have hs:=HR.A.step (j:=j+1) N.A;rw[show(((j+1:Nat)):Int)=(j:Int)+1 from rfl] at hs;have R:=E hs;clear hs;have t:=bX (o:=1) HR.A.box.lt (J I ((j:Int)+1));have x:=E (HX.A.gr t (sh gu.A));have O:=E (bB HG.A t);clear t;have⟨z0,f0⟩:=x.A.cf;have HP:=E (x.A.F6 (ap nm) (ap T) (aG false));have ch:=E (F7 x.A.lt (ap nm) (ap T) (aG false));have bi:=E (R.A.own ch.A (a8 H0.A (aO _)) (mW gu.A));have k4:=E (l3 O.A ch.A (aO _));go_wp2;have k0:=HP.A.cell;refine bF (v:=bn #[aY #[ap nm,ap T,aG false],J I 0]) aqw rfl ⟨⟨⟨nm,T,false⟩,0,rfl,⟨A.A.2,H.A⟩,λ_=>⟨A.A.1,y.A.1,y.A.2⟩⟩,⟨_,bi.A⟩,k4.A⟩
variable {a:bb} {o:bv} {Q:Exit->bb->aB->Prop} {ops:Array bv} {base:Nat} {rest:List bv}
section
open Go.ChangeMaps Go.MapKept
def ajI:(aH.info? 126).map (λi=>(i.zero,i.size,i.bytes))=ad (ad (aY #[ap ⟨#[]⟩,ap ⟨#[]⟩,aG false]),3,40):=ar
def ajJ:jG.e∉jG.bI:=aq
def M5 {P:cp} (D:Kr α) (r:o.guard=M) (s x:Operand) (t:bf) (ho:o.op= .call {callee:=.builtin .append,args:=#[s,x],argTypes:=#[t,t]}) (base bytes:Nat) (z:aE) (m:P.underlying t=ad (.slice D.e)) (hi:(P.info? D.e).map (λi=>(i.zero,i.size,i.bytes))=ad (ad z,D.k,bytes)) (j:z.cells.size=D.k) (qY:1<=bytes) (B:Nat) (v:aE) (l:List α) (hs:a.eval s=v) (W:aB) (vs:List aE) (y:α) (k:a.eval x=O (ad (ab W.heap.size 0 M)) 1 1) (e:Ow D W B base v l) (hrel:D.rel W B y vs) (q:(l.length+1)*bytes<=140737488355328) (d:base<=W.heap.size) (hB:B<=base) (w:D.e∉D.bI) (h:∀b w',Ow D w' B base b (l++[y])->(∀g,v.ownBlock=ad g->base<=g)->Kt B [D.e] W w'->(W.alloc (aD vs.toArray D.e)).grownBy w' v.ownBlock->wpList P ops Q rest (a.put o.dst b) w'):wpList P ops Q (o::rest) a (W.alloc (aD vs.toArray D.e)):=by
 have C:=D.len hrel;have f:Sl (W.alloc (aD vs.toArray D.e)) (W.heap.size+1) (ad (ab W.heap.size 0 M)) (1*D.k) (λi=>vs.getD i (aG false)):=Sl.lit W D.e vs (1*D.k) an;have c:=(bk W.heap.size W).alloc (aO _) (aD vs.toArray D.e);have A:=e.alloc (aD vs.toArray D.e);have u:l.length+1<=bK:=by
  exact MR
 refine mZ D r s x t ho base bytes z m hi j B v l hs A (ad (ab W.heap.size 0 M)) 1 1 [y] vs k (Rs.single (D.al hrel c)) rfl _ f u q (a8 d c.size) hB w λb w' p h2 n=>?_;exact h b w' p (λg hg=>(e.row g hg).1) ((Kt.lQ c (a8 hB d)).trans n) h2
structure qy (w0 w wr:aB) (B b c j:Nat) (ao:Option aX) (l:List Tok) (g2 g6:Nat) (c2:Array aE) (nm:ByteArray) (vM:aE) (ms:List wU):Prop where
 rd:jj w0 wr B b c j ao l
 gr:w.grownBy wr (ad b)
 r2:aI wr g2 46 c2
 r6:aI wr g6 46 #[ap nm,vM]
 ow:Ow jG wr 0 w.heap.size vM ms
 h0:w0.heap.size<=w.heap.size
 h2:w.heap.size<=g2
 h6:w.heap.size<=g6
 ne:g2≠g6
 Z:b<w.heap.size
 ok:∀m∈ms,db m.n=true/\m.v.size<=64
 len:ms.length<=8
section
variable {w0 w wr w':aB} {B b c j:Nat} {ao:Option aX} {l:List Tok} {g2 g6:Nat} {c2:Array aE} {nm:ByteArray} {vM:aE} {ms:List wU}
def qy.al (h:qy w0 w wr B b c j ao l g2 g6 c2 nm vM ms) (Z:aS wr.heap.size wr w'):qy w0 w w' B b c j ao l g2 g6 c2 nm vM ms:=⟨h.rd.al Z,bB h.gr (grown_of Z),h.r2.al Z h.r2.lt,h.r6.al Z h.r6.lt,h.ow.al Z,h.h0,h.h2,h.h6,h.ne,h.Z,h.ok,h.len⟩
def qy.kt (h:qy w0 w wr B b c j ao l g2 g6 c2 nm vM ms) (a:wr.grownBy w' (ad b)):Kt w0.heap.size [415] wr w':=(Kt.refl _ _ wr).grown a (a8 h.h0 h.gr.size) (λg e=>by cases e;exact⟨h.rd.Z,bp.bO h.rd.box⟩) (bD.2 rfl)
def qy.step (h:qy w0 w wr B b c j ao l g2 g6 c2 nm vM ms) {k:Nat} (d:jj w0 w' B b c k ao l) (a:wr.grownBy w' (ad b)):qy w0 w w' B b c k ao l g2 g6 c2 nm vM ms:=⟨d,bB h.gr a,h.r2.gr a (aj h.h2 h.Z),h.r6.gr a (aj h.h6 h.Z),h.ow.keep ((h.kt a).dJ (bV _)) aq aq,h.h0,h.h2,h.h6,h.ne,h.Z,h.ok,h.len⟩
def aI.s8 {w:aB} (h:aI w g t #[a0,cZ]) (u0 u1:aE):aI ((w.setCell (ab g 0 M) u0).setCell (ab g 1 M) u1) g t #[u0,u1]:=(h.put 0 u0).put 1 u1
def rJ {w:aB} (Z:g<w.heap.size) (u0 u1:aE):w.grownBy ((w.setCell (ab g 0 M) u0).setCell (ab g 1 M) u1) (ad g):=bB (bX Z u0) (bX aqg u1)
def qy.own (h:qy w0 w wr B b c j ao l g2 g6 c2 nm vM ms) {g:Nat} (hg:w.heap.size<=g) (a:wr.grownBy w' (ad g)):jj w0 w' B b c j ao l/\w.grownBy w' (ad b):=⟨h.rd.own a (a8 h.h0 hg) (ai h.Z),l3 h.gr a hg⟩
def qy.bt (h:qy w0 w wr B b c j ao l g2 g6 c2 nm vM ms) {i:aE} {y:wU} {us:List aE} {W:aB} (C:W=wr.alloc (aD us.toArray jG.e)) (D:Ow jG w' 0 w.heap.size i (ms++[y])) (s:∀g,vM.ownBlock=ad g->w.heap.size<=g) (hk:Kt 0 [jG.e] wr w') (d:W.grownBy w' vM.ownBlock) (z:db y.n=true/\y.v.size<=64) (H:ms.length<8):qy w0 w (w'.setCell (ab g6 1 M) i) B b c j ao l g2 g6 c2 nm i (ms++[y]):=by
 have a:aS wr.heap.size wr W:=by rw[C];exact(bk _ _).alloc (aO _) _
 have F:aI w' b 415 _:=hk.eP h.rd.box aq;have q:aI w' g6 46 _:=hk.eP h.r6 aq;have G:aI w' g2 46 _:=hk.eP h.r2 aq;have t:w.grownBy w' (ad b):=⟨d.os.trans (a.os.trans h.gr.os),d.tape.trans (a.tape.trans h.gr.tape),d.output.trans (a.output.trans h.gr.output),a8 h.gr.size (a8 a.size d.size),λk f E=>((d.block k (da f (a8 h.gr.size a.size)) (λe=>by have:=s k e.symm;omega)).trans (a.block k (da f h.gr.size))).trans (h.gr.block k f E)⟩;have v:∀k,k<w.heap.size->w'.heap[k]?=wr.heap[k]?:=λk f=>(d.block k (da f (a8 h.gr.size a.size)) (λe=>by have:=s k e.symm;omega)).trans (a.block k (da f h.gr.size));have p:=h.rd.b0.aC;have cN:aF w0 w':=aF.of ⟨(d.os.trans a.os).trans p.os,(d.tape.trans a.tape).trans p.tape,(d.output.trans a.output).trans p.output,a8 h.h0 t.size,λk f=>(v k (da f h.h0)).trans (p.block k f)⟩;have r:=bX (o:=1) q.lt i;have u:Kt w0.heap.size [46] w' (w'.setCell (ab g6 1 M) i):=(Kt.refl _ _ _).setCell (a8 h.h0 h.h6) (bp.bO q) (bD.2 rfl) i;exact⟨⟨cN.cD r (a8 h.h0 h.h6),h.rd.Z,h.rd.tk,F.gr r (aj h.Z h.h6),h.rd.lc,h.rd.le⟩,l3 t r h.h6,G.bT h.ne _,q.put 1 i,D.keep (u.dJ (bV _)) aq aq,h.h0,h.h2,h.h6,h.ne,h.Z,λm n=>by
  rcases kf.1 n with n|n
  ·exact h.ok m n
  ·rw[bD] at n;subst n;exact z,aw⟩
end
structure ajK (w0 w w':aB) (B b c i:Nat) (ao:Option aX) (l:List Tok) (e:Ending):Prop where
 A:∃(v:aE) (s:iZ) (k:Int) (j:Nat),e=aQ (bn #[v,J I k])/\qi w' 0 v s/\(k=0->kT s=true)/\((eT l i 1&&db (eu l i))=true->cA l (i+1) 4 ⟨#[123]⟩=false->s=⟨eu l i,[]⟩/\k=0/\j=i+1)/\jj w0 w' B b c j ao l
 gr:w.grownBy w' (ad b)
def aaj (w:aB) (B:Nat):qi w B (aY #[ap ⟨#[]⟩,O M 0 0]) ⟨⟨#[]⟩,[]⟩:=⟨_,rfl,aq,Vs.bh _ _ _⟩
def RW {nm:ByteArray} {ms:List wU} (h:db nm=true) (h2:∀m∈ms,db m.n=true/\m.v.size<=64) (d:ms.length<=8):kT ⟨nm,ms⟩=true:=by
 unfold kT;rw[b9,b9,decide_eq_true_eq];refine⟨⟨h,d⟩,mw.2 λk c=>?_⟩;have a:k<ms.length:=c;have b:=h2 _ (dl a);unfold Bk oM nW;rw[dr a,b9,decide_eq_true_eq];exact b
def ajL {ms:List wU} (h:Ow jG w B base v ms) (ty:bf) (W:aB):(Builtin.len_ #[44] ty #[v]).run aH W= .ok (J I ms.length) W:=by
 obtain⟨ao,c,rfl,_⟩:=h.shape;simp[Builtin.len_,mf underlying44,goInt,Result.andThen]
theorem aak (h:P:=by
 have⟨z0,f0⟩:=(HS.A.r2).cf;have HP:=E ((HS.A.r2).s8 (ap ⟨#[]⟩) (O M 0 0));have ch:=E (rJ (HS.A.r2).lt (ap ⟨#[]⟩) (O M 0 0));have HF:=E (HS.A.own HS.A.h2 ch.A);go_wp2;have k0:=HP.A.cell;refine bF (v:=bn #[aY #[(ap ⟨#[]⟩),(O M 0 0)],J I k]) aqB rfl ⟨⟨_,⟨⟨#[]⟩,[]⟩,k,_,rfl,aaj _ _,λh=>ae h HK.A,λ_ h=>fK.A _ h,HF.A.1⟩,HF.A.2⟩;):P:=h
def ajM {c:Nat} (h:jj w0 w B b c i ao l):aN aH 302 #[bl (ad (ab b 0 M))] w λe w'=>ajK w0 w w' B b c i ao l e:=by
 have H0:=E h.b0.size;have V:=E (show b<w.heap.size from h.box.lt);have Y:=(bk w.heap.size w).alloc (aO _) (aD #[ap ⟨#[]⟩,O M 0 0] 46);have m:=E (h.al Y);have t:=E (grown_of (r:=b) Y);have HX:=E (aI.new w 46 #[ap ⟨#[]⟩,O M 0 0]);clear h Y;go_enter func302,ntmps302;cases p:(eT l i 1&&db (eu l i)) with
 |false=>
  go_wp2_with fail;refine(aad m.A p).ah ?_;rintro e g⟨⟨k,rfl,y⟩,Z⟩;have HK:=E (show k≠0 by simpa using y);replace m:=E (m.A.al Z);replace HX:=E (HX.A.al Z HX.A.lt);replace t:=E (bB t.A (grown_of Z));have eV:=y;have eo:=E p;clear p Z y;have⟨z0,f0⟩:=(HX.A).cf;have HP:=E ((HX.A).s8 (ap ⟨#[]⟩) (O M 0 0));have ch:=E (rJ (HX.A).lt (ap ⟨#[]⟩) (O M 0 0));have bi:=E (m.A.own ch.A (a8 H0.A (aO _)) (mW V.A));have k4:=E (l3 t.A ch.A (aO _));go_wp2;have k0:=HP.A.cell;refine bF (v:=bn #[aY #[(ap ⟨#[]⟩),(O M 0 0)],J I k]) aqB rfl ⟨⟨_,⟨⟨#[]⟩,[]⟩,k,_,rfl,aaj _ _,λh=>ae h HK.A,λh=>ae (eo.A.symm.trans h) aq,bi.A⟩,k4.A⟩
 |true=>
  have Jp:=E (show(eu l i).size<=9223372036854775807 by
   rw[b9] at p;have aK:=kZ p.1;obtain⟨gq,off,_,eb,q0,q1,q2,q3⟩:=m.A.tk.tk m.A.b0.aC aK;rw[qx aK];exact q3)
  go_wp2_with fail;refine(aae m.A p).ah ?_;rintro e D⟨rfl,f,d⟩;replace m:=E f;replace HX:=E (HX.A.gr d (sh V.A));replace t:=E (bB t.A d);have u:=E (show db (eu l i)=true/\(eu l i).size<=9223372036854775807 from⟨by rw[b9] at p;exact p.2,Jp.A⟩);obtain⟨nm,N⟩:=aP (eu l i);rw[N] at u;have BN:=E N;simp only[N];clear f d p Jp N;have HS:=E (show qy w0 w (D.alloc (aD #[ap nm,O M 0 0] 46)) B b c (i+1) ao l w.heap.size D.heap.size #[ap ⟨#[]⟩,O M 0 0] nm (O M 0 0) [] from⟨m.A.al ((bk _ _).alloc (aO _) _),bB t.A (grown_of ((bk _ _).alloc (aO _) _)),HX.A.alloc _,aI.new D 46 _,Ow.bh _ _ _ _,H0.A,aO _,t.A.size,mW HX.A.lt,V.A,av,av⟩);clear m HX t;cases z:cA l (i+1) 4 ⟨#[123]⟩ with
  |false=>
   have a:=F4 ⟨#[123]⟩ HS.A.rd z;go_wp2_with fail;refine(a).ah ?_;rintro e g⟨rfl,Z⟩;replace HS:=E (HS.A.al Z);clear Z;clear a z;have y0:=HS.A.r6.cell;have⟨z0,f0⟩:=(HS.A.r2).cf;have HP:=E ((HS.A.r2).s8 (ap nm) (O M 0 0));have ch:=E (rJ (HS.A.r2).lt (ap nm) (O M 0 0));have HF:=E (HS.A.own HS.A.h2 ch.A);have s:=((Kt.refl w0.heap.size [46] _).setCell (o:=0) (a8 HS.A.h0 HS.A.h2) (bp.bO HS.A.r2) (bD.2 rfl) (ap nm)).setCell (o:=1) (a8 HS.A.h0 HS.A.h2) (bp.bO (HS.A.r2.put 0 (ap nm))) (bD.2 rfl) (O M 0 0);have F:=E (HS.A.ow.keep (s.dJ (bV _)) aq aq).vs;have C:=E (RW u.A.1 HS.A.ok HS.A.len);clear s;go_wp2;have k0:=HP.A.cell;refine bF (v:=bn #[aY #[(ap nm),(O M 0 0)],J I 0]) aqB rfl ⟨⟨_,⟨nm,[]⟩,0,_,rfl,⟨_,rfl,u.A.2,F.A⟩,λ_=>C.A,λ_ _=>⟨by rw[BN.A],rfl,rfl⟩,HF.A.1⟩,HF.A.2⟩
  |true=>
   have Bw:=E z;have a:=F5 ⟨#[123]⟩ HS.A.rd z;go_wp2_with fail;refine(a).ah ?_;rintro e g⟨rfl,f,d⟩;replace HS:=E (HS.A.step f d);clear f d;clear a z;cases L:cA l (i+1+1) 4 ⟨#[125]⟩ with
   |true=>
    have a:=F5 ⟨#[125]⟩ HS.A.rd L;go_wp2_with fail;refine(a).ah ?_;rintro e g⟨rfl,f,d⟩;replace HS:=E (HS.A.step f d);clear f d;clear a L;have y0:=HS.A.r6.cell;have⟨z0,f0⟩:=(HS.A.r2).cf;have HP:=E ((HS.A.r2).s8 (ap nm) (O M 0 0));have ch:=E (rJ (HS.A.r2).lt (ap nm) (O M 0 0));have HF:=E (HS.A.own HS.A.h2 ch.A);have s:=((Kt.refl w0.heap.size [46] _).setCell (o:=0) (a8 HS.A.h0 HS.A.h2) (bp.bO HS.A.r2) (bD.2 rfl) (ap nm)).setCell (o:=1) (a8 HS.A.h0 HS.A.h2) (bp.bO (HS.A.r2.put 0 (ap nm))) (bD.2 rfl) (O M 0 0);have F:=E (HS.A.ow.keep (s.dJ (bV _)) aq aq).vs;have C:=E (RW u.A.1 HS.A.ok HS.A.len);clear s;go_wp2;have k0:=HP.A.cell;refine bF (v:=bn #[aY #[(ap nm),(O M 0 0)],J I 0]) aqB rfl ⟨⟨_,⟨nm,[]⟩,0,_,rfl,⟨_,rfl,u.A.2,F.A⟩,λ_=>C.A,λ_ h=>ae (Bw.A.symm.trans h) aq,HF.A.1⟩,HF.A.2⟩
   |false=>
    have a:=F4 ⟨#[125]⟩ HS.A.rd L;go_wp2_with fail;refine(a).ah ?_;rintro e g⟨rfl,Z⟩;replace HS:=E (HS.A.al Z);clear Z;clear a L;go_wp2;have fK:=E (λ(P:Prop) (h:cA l (i+1) 4 ⟨#[123]⟩=false)=>(ae (Bw.A.symm.trans h) aq:P));generalize i+1+1=ut at HS;go_loopw [] (λwr=>∃(j:Nat) (vM:aE) (ms:List wU),a6 (qy w0 w wr B b c j ao l w.heap.size D.heap.size #[ap ⟨#[]⟩,O M 0 0] nm vM ms)) (λwr=>match wr.cell? (ab D.heap.size 1 M) with|some (O _ n _)=>9-n|_=>0);case atStart=>exact⟨_,_,_,HS⟩
    case round=>
     clear HS;obtain⟨j,vM,ms,HS⟩:=hrel;have wR:=HS;have q:=HS.A.r6.cell 1;simp at q;have ce:=λW=>ajL HS.A.ow 3 W;have G:=E (ajG (ms.length:Int) HS.A.rd);go_wp2_with fail;refine G.A.ah ?_;rintro e g lU;obtain⟨⟨mt,k,rfl,bJ,X⟩,⟨j2,f⟩,d⟩:=lU;replace HS:=E ((HS.A.step f d).al ((bk _ _).alloc (aO _) (aD #[ap mt.n,ap mt.v,aG mt.neg] 126)));clear f d G q ce;by_cases hk:k=0;case neg=>
      have jv:(k !=0)=true:=aqk;have HK:=E hk;clear hk X;exact aak
     subst hk;obtain⟨fz,j0,qf⟩:=X rfl;have Q:=E (show(db mt.n=true/\mt.v.size<=64)/\ms.length<8 from⟨⟨fz,j0⟩,an⟩);have dt:=E bJ;clear X fz j0 qf bJ;have q:=HS.A.r6.cell 1;have ca:=aI.new g 126 #[ap mt.n,ap mt.v,aG mt.neg];have x0:=ca.cell;simp at q;have dj:=E HS.A.gr.size;clear ca;go_wp2_with ((refine M5 jG au (.tmp 44) (.tmp 46) 44 au w.heap.size 40 _ ar ajI au aq 0 _ ms au (g.alloc (aD #[ap mt.n,ap mt.v,aG mt.neg] 126)) [ap mt.n,ap mt.v,aG mt.neg] mt (by rw[eO];rfl) HS.A.ow ⟨rfl,dt.A.1,dt.A.2⟩ (ai Q.A.2) dj.A (bV _) ajJ ?_;intro v' w' bC vP eZ kj;obtain⟨Av,jg,mM,_⟩:=bC.shape;obtain⟨H,U⟩:∃n,(ms++[mt]).length=n:=⟨_,rfl⟩;rw[U] at mM;subst mM;have rK:=E U;clear U;have gH:=E bC;have pK:=E vP;have BP:=E eZ;have oe:=E kj;clear bC vP eZ kj q;have D3:=BP.A.eP HS.A.r6 aq;have f1:=D3.frozen 1;have q:=D3.cell 1;simp at q;clear D3));replace HS:=E (HS.A.bt rfl gH.A pK.A BP.A oe.A Q.A.1 Q.A.2);clear gH pK BP oe;cases K:cA l j2 4 ⟨#[125]⟩ with
     |true=>
      have a:=F5 ⟨#[125]⟩ HS.A.rd K;go_wp2_with fail;refine(a).ah ?_;rintro e g⟨rfl,f,d⟩;replace HS:=E (HS.A.step f d);clear f d;clear a K;have y0:=HS.A.r6.cell;have⟨z0,f0⟩:=(HS.A.r2).cf;have HP:=E ((HS.A.r2).s8 (ap nm) (O Av H jg));have ch:=E (rJ (HS.A.r2).lt (ap nm) (O Av H jg));have HF:=E (HS.A.own HS.A.h2 ch.A);have s:=((Kt.refl w0.heap.size [46] _).setCell (o:=0) (a8 HS.A.h0 HS.A.h2) (bp.bO HS.A.r2) (bD.2 rfl) (ap nm)).setCell (o:=1) (a8 HS.A.h0 HS.A.h2) (bp.bO (HS.A.r2.put 0 (ap nm))) (bD.2 rfl) (O Av H jg);have F:=E (HS.A.ow.keep (s.dJ (bV _)) aq aq).vs;have C:=E (RW u.A.1 HS.A.ok HS.A.len);clear s;go_wp2;have k0:=HP.A.cell;refine bF (v:=bn #[aY #[(ap nm),(O Av H jg)],J I 0]) aqB rfl ⟨⟨_,⟨nm,ms++[mt]⟩,0,_,rfl,⟨_,rfl,u.A.2,F.A⟩,λ_=>C.A,λ_ h=>fK.A _ h,HF.A.1⟩,HF.A.2⟩
     |false=>
      have a:=F4 ⟨#[125]⟩ HS.A.rd K;go_wp2_with fail;refine(a).ah ?_;rintro e g⟨rfl,Z⟩;replace HS:=E (HS.A.al Z);clear Z;clear a K;cases R:cA l j2 4 ⟨#[44]⟩ with
      |false=>
       have a:=F4 ⟨#[44]⟩ HS.A.rd R;go_wp2_with fail;refine(a).ah ?_;rintro e g⟨rfl,Z⟩;replace HS:=E (HS.A.al Z);clear Z;clear a R;have HW:=E (M4 HS.A.rd);go_wp2_with fail;refine HW.A.ah ?_;rintro e g⟨⟨k,rfl,y⟩,Z⟩;have HK:=E (show k≠0 by simpa using y);replace HS:=E (HS.A.al Z);clear y Z HW;exact aak
      |true=>
       have a:=F5 ⟨#[44]⟩ HS.A.rd R;go_wp2_with fail;refine(a).ah ?_;rintro e g⟨rfl,f,d⟩;replace HS:=E (HS.A.step f d);clear f d;clear a R;have T:=HS.A.r6.cell 1;have S:=wR.A.r6.cell 1;simp at T S;have HY:=E (iC T S);obtain⟨A1,c1,e1,_⟩:=HS.A.ow.shape;obtain⟨A2,c2,e2,_⟩:=wR.A.ow.shape;have HE:=E (iC e1 e2);have aJ:=Q.A.2;clear T S e1 e2 q f1 x0;go_wp2;go_roundw;case rel=>exact⟨_,_,_,HS⟩
       case measure=>
        have q1:=HY.A.1;have q2:=HY.A.2;rw[HE.A.1] at q1;rw[HE.A.2] at q2;simp only[q1,q2];simp;omega
end
variable {cs' args:Array aE} {a3:aE}
section
structure Gx (r:Nat) (X:Obj) (W:aB) where
 aL:aB
 gr:W.grownBy aL (ad r)
 box:aL.heap[r]?=W.heap[r]?\/aL.heap[r]?=ad X
instance (r:Nat) (X:Obj) (W:aB):Inhabited (Gx r X W):=⟨⟨W,grown_of (bk _ _),.inl rfl⟩⟩
def gb (r:Nat) (X:Obj) (w w':aB):Prop:=∃p:Gx r X w,w'=p.aL
variable {r:Nat} {X:Obj}
def gb.refl (w:aB):gb r X w w:=⟨⟨w,grown_of (bk _ _),.inl rfl⟩,rfl⟩
def gb.trans {a b c:aB} (h:gb r X a b) (k:gb r X b c):gb r X a c:=by
 obtain⟨p,rfl⟩:=h;obtain⟨q,rfl⟩:=k;refine⟨⟨q.aL,bB p.gr q.gr,?_⟩,rfl⟩;rcases q.box with h|h
 ·rcases p.box with k|k
  ·exact .inl (h.trans k)
  ·exact .inr (h.trans k)
 ·exact .inr h
def gb.of (a:r<w.heap.size) (h:aS w.heap.size w w'):gb r X w w':=⟨⟨w',grown_of h,.inl (h.block r a)⟩,rfl⟩
def gb.drew (w:aB):gb r X w w.drew:=⟨⟨w.drew,grown_of (bk _ _).drew,.inl rfl⟩,rfl⟩
def Gx.rel (p:Gx r X w):gb r X w p.aL:=⟨p,rfl⟩
def Gx.size (p:Gx r X w):w.heap.size<=p.aL.heap.size:=p.gr.size
def Gx.cells (h:aI w g t cs) (a:g≠r) (i:Nat):∀p:Gx r X w,p.aL.cell? (ab g i M)=cs[i]?:=λp=>(h.gr p.gr a).cell i
def Gx.cell {a:aX} (p:Gx r X w) (b:a.block≠r) (h:w.cell? a=ad v):p.aL.cell? a=ad v:=by
 rcases gy a.block w.heap.size with h'|h'
 ·rw[wK (p.gr.block _ h' (am b))];exact h
 ·simp[World.cell?,Array.getElem?_eq_none_iff.2 h'] at h
def Gx.own (p:Gx r (aD cs' t (0,0)) w) (h:aI w r t cs) (hs:cs'.size=cs.size):∃us,aI p.aL r t us/\us.size=cs.size:=by
 rcases p.box with k|k
 ·exact⟨cs,k.trans h,rfl⟩
 ·exact⟨cs',k,hs⟩
def aI.some_ {us:Array aE} (h:aI w g t us) {i:Nat} (hi:i<us.size):∃v,w.cell? (ab g i M)=ad v:=⟨us[i],by rw[h.cell i];exact Array.getElem?_eq_getElem hi⟩
def gb.put (h:aI w' r t cs') (hg:w.grownBy w' (ad r)):gb r (aD cs' t (0,0)) w w':=⟨⟨w',hg,.inr h⟩,rfl⟩
def gb.last (h:gb r (aD cs' t (0,0)) w w') (a:aI w r t cs'):aI w' r t cs'/\w.grownBy w' (ad r):=by
 obtain⟨p,rfl⟩:=h;rcases p.box with k|k
 ·exact⟨k.trans a,p.gr⟩
 ·exact⟨k,p.gr⟩
attribute [go_sem] gb
def aN.vQ {P:cp} {f:FuncId} (a:r<w.heap.size) (h:aN P f args w λe w'=>e=aQ v/\aS w.heap.size w w'):aN P f args w λe c=>e=aQ v/\∃q:Gx r X w,c=q.aL:=h.mono λ_ _ ⟨b,Z⟩=>⟨b,gb.of a Z⟩
def aI.mO (h:aI w g t #[a0,cZ,a2,a3]) (u0 u1 u2 u3:aE):aI ((((w.setCell (ab g 0 M) u0).setCell (ab g 1 M) u1).setCell (ab g 2 M) u2).setCell (ab g 3 M) u3) g t #[u0,u1,u2,u3]:=(((h.put 0 u0).put 1 u1).put 2 u2).put 3 u3
def ajN {us:Array aE} (h:us.size=2):∃a b,us=#[a,b]:=by
 rcases us with⟨l⟩;match l,h with
 |[a,b],_=>exact⟨a,b,rfl⟩
def aal {us:Array aE} (h:us.size=8):∃a b c d e f g i,us=#[a,b,c,d,e,f,g,i]:=by
 rcases us with⟨l⟩;match l,h with
 |[a,b,c,d,e,f,g,i],_=>exact⟨a,b,c,d,e,f,g,i,rfl⟩
end
variable {F:List cC}
noncomputable def cntF (F:List cC):List cC:=if jf F=true then F else[]
def Ju (h:jf F=true):cntF F=F:=by unfold cntF;rw[ag h]
def M7:jf []=true:=by unfold jf;simp[cI]
def ajV (F:List cC):jf (cntF F)=true:=by
 unfold cntF;split
 ·assumption
 ·exact M7
def o0 (h:jf F=true):F.length<=16/\∀g∈F,lY g=true:=by
 unfold jf at h;rw[b9,decide_eq_true_eq,mw] at h;refine⟨h.1,λg hg=>?_⟩;obtain⟨i,hi,rfl⟩:=qV.1 hg;have:=h.2 i hi;unfold nY at this;rw[dr hi,b9] at this;exact this.1
def vS {g:cC} (h:lY g=true):db g.n=true/\g.R.length<=16/\∀r∈g.R,ku r=true:=by
 unfold lY at h;simp only[b9,decide_eq_true_eq,mw] at h;refine⟨h.1.1.1.1.1,h.1.2,λr a=>?_⟩;obtain⟨i,hi,rfl⟩:=qV.1 a;have:=h.2 i hi;unfold lX at this;rw[dr hi,b9] at this;exact this.1
def R7 (w:aB) (h:Vs fG w B v F):aN aH 102 #[v] w λe w'=>(∃f,e=aQ f/\Vs fG w' B f (cntF F))/\aF w w':=by
 obtain⟨ao,c,rfl,_⟩:=h.len_;have hs:=R6 w h;have i:=E h;cases a:jf F with
 |true=>
  have d:=E (Ju a);rw[a] at hs;clear h a;go_enter func102,ntmps102;go_wp2_with fail;refine hs.ah ?_;rintro e g⟨rfl,Z⟩;have b:=E Z;clear hs Z;go_wp2;go_ret;exact⟨⟨_,rfl,by rw[d.A];exact i.A.al b.A.aC⟩,b.A⟩
 |false=>
  have d:=E (show cntF F=[] by unfold cntF;rw[a];rfl);rw[a] at hs;clear h a;go_enter func102,ntmps102;go_wp2_with fail;refine hs.ah ?_;rintro e g⟨rfl,Z⟩;have b:=E Z;clear hs Z;go_wp2;go_ret;exact⟨⟨_,rfl,by rw[d.A];exact Vs.bh _ _ _⟩,b.A⟩
structure M8 (F:List cC) (k:Key) (i j:Nat) (ok:Bool):Prop where
 D5:ok=true->∃(hi:i<F.length) (hj:j<F[i].R.length),F[i].n=k.1/\(F[i].R[j]).n=k.2
 no:ok=false->∀g∈F,∀r∈g.R,¬(g.n=k.1/\r.n=k.2)
def NoK (F:List cC) (k:Key) (n:Nat):Prop:=∀i (hi:i<F.length),i<n->∀r∈F[i].R,¬(F[i].n=k.1/\r.n=k.2)
def NoR (g:ByteArray) (R:List cv) (k:Key) (n:Nat):Prop:=∀j (hj:j<R.length),j<n->¬(g=k.1/\(R[j]).n=k.2)
theorem aay (h:P:=by
 clear he hy hr e1;go_wp2;go_roundw;case rel=>exact⟨m+1,gY.A,by go_num,R8,b3.A⟩
 case measure=>exact aqx
 ):P:=h
def aaz (k:Key) (w:aB) (h:Vs fG w B v F):aN aH 72 #[v,aY #[ap k.1,ap k.2]] w λe w'=>(∃(i j:Nat) (ok:Bool),e=aQ (bn #[J I i,J I j,aG ok])/\M8 (cntF F) k i j ok)/\aF w w':=by
 obtain⟨a,d⟩:=k;have V:=R7 (w.alloc (aD #[ap a,ap d] 67)) (h.al ((bk _ _).alloc (aO _) _));have f:=E (aI.new w 67 #[ap a,ap d]);have u:=E ((aF.refl w).alloc (aD #[ap a,ap d] 67));have T:=o0 (ajV F);generalize cntF F=G at*;have cj:=E T;clear h T;go_enter func72,ntmps72;go_wp2_with fail;refine V.ah ?_;rintro e z⟨⟨v1,rfl,hv⟩,Z⟩;obtain⟨ao,cap,rfl,Q,hl,hc⟩:=hv.be;have HP:=E Q;replace f:=E (f.A.al Z.aC f.A.lt);replace u:=E (u.A.trans Z);have MN:=E (iC hl hc);have HW:=E (show w.heap.size<z.heap.size from f.A.lt);clear V hv Q Z;go_wp2;go_loopw [14] (λi wr=>∃n:Nat,n<=G.length/\i=J I n/\a6 (NoK G (a,d) n)/\aF z wr) (λi _=>G.length-(intOf i).toNat);case atStart=>exact⟨0,an,rfl,E (λi hi h=>ae h an),aF.refl _⟩
 case round=>
  obtain⟨n,hn,rfl,X,hB⟩:=hrel;by_cases K:n<G.length
  ·obtain⟨x,q⟩:=aP (G[n]);obtain⟨b,off,o,c3,rfl,cw,⟨q0,q1,q2,q3⟩,hg⟩:=HP.A.gr hB.aC K q;have HX:=E q;have N:=E (vS (cj.A.2 x (q▸dl K)));have aR:=E K;obtain⟨aM,L,Jv,Jw,uc,C⟩:=hg;subst Jw;have Jx:Jv=O o x.R.length c3:=am L.symm;subst Jx;obtain⟨c,p,s,R⟩:=x;dsimp only at q0 q1 q2 q3 C N;clear L;have t:=E (hB.alloc (aD #[ap c,J I p,J I s,O o R.length c3] 43));obtain⟨A9,c9,nx,U,Gb,Gc⟩:=(C.al ((bk _ _).alloc (aO _) (aD #[ap c,J I p,J I s,O o R.length c3] 43))).be;cases nx;have eo:=E U;have a2:=E (iC Gb Gc);have D:=E (aI.new wr 43 #[ap c,J I p,J I s,O o R.length c3]);have g3:=D.A.cell 3;have Jy:=E (show z.heap.size<=wr.heap.size from hB.size);clear U C Gb Gc q;go_wp2;rename aB=>wo;go_loopw [22] (λi wr=>∃m:Nat,m<=R.length/\i=J I m/\a6 (NoR c R (a,d) m)/\aF (wo.alloc (aD #[ap c,J I p,J I s,O o R.length c3] 43)) wr) (λi _=>R.length-(intOf i).toNat);case atStart=>exact⟨0,an,rfl,E (λi hi h=>ae h an),aF.refl _⟩
   case round=>
    obtain⟨m,hm,rfl,Y,H⟩:=hrel;by_cases S:m<R.length
    ·obtain⟨y,hy⟩:=aP (R[m]);obtain⟨gz,tQ,A2,c2,A7,c7,rfl,Jz,⟨p0,p1,p2,p3,p4,p5,tb,p7⟩,hr⟩:=eo.A.vR H.aC S hy;have W:=E hy;have gY:=E S;have aW:R.length<=16:=N.A.2.1;have b3:=E (H.alloc (aD #[ap y.n,ap y.x.s.n,O A2 y.x.s.aU.length c2,J I y.x.op,J I y.x.v,J I y.wait,J I y.keep,O A7 y.L.length c7] 51));have k0:(wr.alloc (aD #[ap y.n,ap y.x.s.n,O A2 y.x.s.aU.length c2,J I y.x.op,J I y.x.v,J I y.wait,J I y.keep,O A7 y.L.length c7] 51)).cell? (ab w.heap.size 0 M)=ad (ap a):=(f.A.al ((t.A.trans b3.A).aC) f.A.lt).cell 0;have k1:(wr.alloc (aD #[ap y.n,ap y.x.s.n,O A2 y.x.s.aU.length c2,J I y.x.op,J I y.x.v,J I y.wait,J I y.keep,O A7 y.L.length c7] 51)).cell? (ab w.heap.size 1 M)=ad (ap d):=(f.A.al ((t.A.trans b3.A).aC) f.A.lt).cell 1;have g0:(wr.alloc (aD #[ap y.n,ap y.x.s.n,O A2 y.x.s.aU.length c2,J I y.x.op,J I y.x.v,J I y.wait,J I y.keep,O A7 y.L.length c7] 51)).cell? (ab wo.heap.size 0 M)=ad (ap c):=(D.A.al b3.A.aC D.A.lt).cell 0;by_cases he:a=c/\d=y.n
     ·have e1:(a.toList==c.toList)=true:=by rw[j9];simpa using he.1
      have e2:(d.toList==y.n.toList)=true:=by rw[j9];simpa using he.2
      have l:=E he;clear he hy hr;go_wp2;go_ret3;exact⟨⟨n,m,true,rfl,⟨λ_=>⟨aR.A,by rw[HX.A];exact gY.A,by rw[HX.A];exact l.A.1.symm,by simp only[HX.A];rw[W.A];exact l.A.2.symm⟩,λh=>(by cases h)⟩⟩,(u.A.trans t.A).trans b3.A⟩
     ·have l:=E he;have R8:=E (show NoR c R (a,d) (m+1) fromλj hj aJ=>by
       rcases gy j m with h'|h'
       ·exact Y.A j hj h'
       ·obtain rfl:j=m:=by omega
        rw[W.A];exactλh=>l.A ⟨h.1.symm,h.2.symm⟩)
      by_cases e1:a=c
      ·have d1:(a.toList==c.toList)=true:=by rw[j9];simpa using e1
       have d2:(d.toList==y.n.toList)=false:=by rw[j9];simpa usingλh=>l.A ⟨e1,h⟩
       exact aay
      ·have d1:(a.toList==c.toList)=false:=by rw[j9];simpa using e1
       exact aay
    ·obtain rfl:m=R.length:=by omega
     have fI:=E (show NoK G (a,d) (n+1) fromλi hi iF=>by
      rcases gy i n with h'|h'
      ·exact X.A i hi h'
      ·obtain rfl:i=n:=by omega
       rw[HX.A];intro r hr h;obtain⟨j,hj,rfl⟩:=qV.1 hr;exact Y.A j hj hj h)
     have gX:=E (t.A.trans H);go_wp2;go_roundw;case rel=>exact⟨n+1,aR.A,by go_num,fI,gX.A⟩
     case measure=>exact ax
  ·obtain rfl:n=G.length:=by omega
   go_wp2;go_ret3;exact⟨⟨0,0,false,rfl,⟨λh=>(by cases h),λ_ g hg r hr h=>by
    obtain⟨i,hi,rfl⟩:=qV.1 hg;exact X.A i hi hi r hr h⟩⟩,u.A.trans hB⟩
variable {x:List eQ}
def dH (x:List eQ) (k:Nat):aZ:=(x.getD k default).L
def jm (x:List eQ) (k:Nat):Int:=(x.getD k default).t
noncomputable def xy (x:List eQ) (k:Nat):Bool:=bH (dH x k)&&et (jm x k)&&(k==0||decide (cmpL (dH x (k-1)) (dH x k)<0))
noncomputable def jy (x:List eQ):Bool:=decide (x.length<=64)&&cI x.length (xy x)
def aaA:jy []=true:=by unfold jy;simp[cI]
def Gd (h:k<x.length):x[k]=⟨dH x k,jm x k⟩:=by unfold dH jm;rw[dr h]
def M9 (y:eQ):Prop:=bH y.L=true/\0<=y.t/\y.t<=9007199254740992
def xz:jy x=true↔x.length<=64/\(∀y∈x,M9 y)/\x.Pairwise λa b=>fu a.L b.L<0:=by
 have FG:∀{k:Nat} (hk:k<x.length),xy x k=true↔M9 x[k]/\(k=0\/cmpL (dH x (k-1)) x[k].L<0):=by
  intro k hk;unfold xy dH jm M9;rw[dr hk];simp[and_assoc,sX]
 have Q1:∀{k:Nat} (hk:k<x.length),dH x k=x[k].L:=λ{k} hk=>by unfold dH;rw[dr hk]
 unfold jy;rw[b9,decide_eq_true_eq,mw];constructor
 ·rintro⟨d,h3⟩;have hs:∀a∈x,M9 a:=λa e=>by
   obtain⟨k,hk,rfl⟩:=qV.1 e;exact((FG hk).1 (h3 k hk)).1
  refine⟨d,hs,?_⟩;have c:e8 (λa b:aZ=>fu a b) (x.map (·.L)):=by
   refine e8.of_next lg λi hi=>?_;have yV:i+1<x.length:=am hi;exact Yx
  unfold e8 at c;rw[sf] at c;exact c
 ·rintro⟨d,h3,h4⟩;refine⟨d,λk hk=>(FG hk).2 ⟨h3 _ (dl hk),?_⟩⟩;exact Yy
def ajX {y:List eQ} (h:jy x=true) (hs:y.Sublist x):jy y=true:=by
 rw[xz] at h⊢;exact⟨a8 hs.length_le h.1,λa b=>h.2.1 a (hs.subset b),h.2.2.sublist hs⟩
def Sa (x:List eQ) (L:aZ) (c:Nat):Prop:=c<=x.length/\∀i,i<x.length->(cmpL (dH x i) L<0↔i<c)
def ajY (h:jy x=true) {L:aZ} (j:bH L=true):∃c,Sa x L c:=by
 have d:=xz.1 h;have e:∀i (hi:i<x.length),cmpL (dH x i) L=fu x[i].L L:=λi hi=>by
  unfold cmpL dH;rw[dr hi,nO (d.2.1 _ (dl hi)).1,nO j]
 have b:∀n,n<=x.length->∃c,c<=n/\∀i,i<n->(cmpL (dH x i) L<0↔i<c):=by
  intro n;induction n with
  |zero=>intro _;exact⟨0,aO _,λi hi=>ae hi (Nat.not_lt_zero _)⟩
  |succ n g=>
   intro hn;obtain⟨c,f,h2⟩:=g an;by_cases a:cmpL (dH x n) L<0
   ·refine⟨n+1,aO _,λi hi=>⟨λ_=>hi,λ_=>?_⟩⟩;rcases gy i n with h'|h'
    ·rw[e i an];rw[e n an] at a;exact lg.trans (yw.1 d.2.2 i n an an h') a
    ·obtain rfl:i=n:=by omega
     exact a
   ·refine⟨c,an,λi hi=>?_⟩;rcases gy i n with h'|h'
    ·exact h2 i h'
    ·obtain rfl:i=n:=by omega
     exact⟨λh=>ae h a,λh=>by omega⟩
 obtain⟨c,f,h2⟩:=b x.length (aO _);exact⟨c,f,h2⟩
def ajZ (h:jy x=true) {L:aZ} (n:bH L=true) {c:Nat} (g:Sa x L c) (k:(decide (c<x.length)&&decide (cmpL (dH x c) L=0))=false) (r:x.length<64) {t:Int} (p:0<=t/\t<=9007199254740992):jy (x.take c++⟨L,t⟩::x.drop c)=true:=by
 have e:=xz.1 h;have j:∀i (hi:i<x.length),cmpL (dH x i) L=fu x[i].L L:=λi hi=>by
  unfold cmpL dH;rw[dr hi,nO (e.2.1 _ (dl hi)).1,nO n]
 rw[xz];refine⟨by simp;have:=g.1;omega,λy d=>?_,?_⟩
 ·rcases kf.1 d with d|d
  ·exact e.2.1 y (List.mem_of_mem_take d)
  ·rcases ee.1 d with rfl|d
   ·exact⟨n,p⟩
   ·exact e.2.1 y (List.mem_of_mem_drop d)
 ·have l:∀y∈x.take c,fu y.L L<0:=λy d=>by
   obtain⟨i,hi,rfl⟩:=List.mem_take_iff_getElem.1 d;rw[<-j i an];exact(g.2 i an).2 an
  have f:∀y∈x.drop c,fu L y.L<0:=λy d=>by
   obtain⟨i,hi,rfl⟩:=List.mem_drop_iff_getElem.1 d;have q:¬cmpL (dH x (c+i)) L<0:=λh=>by have:=(g.2 (c+i) an).1 h;omega
   rw[j _ an] at q;have h2:=lg.tO x[c+i].L L;rcases(show fu x[c+i].L L=0\/0<fu x[c+i].L L by omega) with h0|h0
   ·exfalso;rcases kJ i with rfl|jZ
    ·rw[ac (show c<x.length by omega),j c an] at k;simp only[Nat.add_zero] at h0;rw[h0] at k;simp at k
    ·have o:¬cmpL (dH x c) L<0:=λh=>by have:=(g.2 c an).1 h;omega
     rw[j c an] at o;have h4:=yw.1 e.2.2 c (c+i) an an an;rw[lg.zero h0] at h4;exact o h4
   ·omega
  rw[List.pairwise_append];refine⟨e.2.2.sublist (List.take_sublist _ _),List.pairwise_cons.2 ⟨f,e.2.2.sublist (List.drop_sublist _ _)⟩,λa m b Z=>?_⟩;rcases ee.1 Z with rfl|Z
  ·exact l a m
  ·exact lg.trans (l a m) (f b Z)
def aj0 (h:jy x=true) {c:Nat} (j:c<x.length) {t:Int} (k:0<=t/\t<=9007199254740992):jy (x.set c ⟨dH x c,t⟩)=true:=by
 have d:=xz.1 h;rw[xz];refine⟨am d.1,λy g=>?_,?_⟩
 ·rcases List.mem_or_eq_of_mem_set g with g|rfl
  ·exact d.2.1 y g
  ·have:=d.2.1 _ (dl j);rw[Gd j] at this;exact⟨this.1,k⟩
 ·have h2:=d.2.2;rw[<-sf (f:=λa:eQ=>a.L) (R:=λa b=>fu a b<0)] at h2⊢;have:(x.set c ⟨dH x c,t⟩).map (λa=>a.L)=x.map (λa=>a.L):=by
   rw[List.map_set];apply List.ext_getElem av;intro i l h2;rw[List.getElem_set];split
   ·rename_i e;subst e;rw[List.getElem_map,Gd j]
   ·rfl
  rw[this];exact h2
def aaB:∀a b:List UInt8,Lib.compareBytes a b=if ii a b=true then-1 else if ii b a=true then 1 else 0
 |[],[]=>by simp[Lib.compareBytes,ii]
 |[],_::_=>by simp[Lib.compareBytes,ii]
 |_::_,[]=>by simp[Lib.compareBytes,ii]
 |a::x,b::y=>by
  have d:=aaB x y
  rcases(show a<b\/a=b\/b<a from by
   rcases Nat.lt_trichotomy a.toNat b.toNat with h|h|h
   ·exact .inl (UInt8.lt_iff_toNat_lt.2 h)
   ·exact .inr (.inl (UInt8.toNat.inj h))
   ·exact .inr (.inr (UInt8.lt_iff_toNat_lt.2 h))) with h|h|h
  ·simp[Lib.compareBytes,ii,h]
  ·subst h;simp[Lib.compareBytes,ii,d]
  ·have h2:¬a<b:=λh'=>ae (UInt8.lt_trans h h') (UInt8.lt_irrefl _);have c:a≠b:=λe=>by subst e;exact ae h (UInt8.lt_irrefl _)
   simp[Lib.compareBytes,ii,h,h2,c,Ne.symm c]
def Na (a b:ByteArray) (w:aB):aN aH 124 #[ap a,ap b] w λe w'=>e=aQ (J I (fO a b))/\w'=w:=(Tryz.strings_Compare a b w).mono λe w' h=>⟨by rw[h.1,aaB];unfold fO b1;rw[ByteArray.toList_eq,ByteArray.toList_eq],h.2⟩
def aj1 (d b a q1:ByteArray) (w:aB):aN aH 160 #[aY #[ap d,ap b],aY #[ap a,ap q1]] w λe w'=>e=aQ (J I (fU (d,b) (a,q1)))/\cm w w':=by
 have HE:=E (show fU (d,b) (a,q1)=Fj (fO d a) (fO b q1) from rfl);generalize fU (d,b) (a,q1)=r at HE⊢;have C1:=λW=>Na d a W;have C2:=λW=>Na b q1 W;generalize fO d a=x at HE C1;generalize fO b q1=y at HE C2;have C1:=E C1;have C2:=E C2;have a0:=(aI.new w 67 #[ap d,ap b]).alloc (aD #[ap a,ap q1] 67);have f:=aI.new (w.alloc (aD #[ap d,ap b] 67)) 67 #[ap a,ap q1];have l:=gT.cells a0 0;have j:=gT.cells a0 1;have i:=gT.cells f 0;have g:=gT.cells f 1;simp at l j i g;go_enter func160,ntmps160;exact WP
def aj2 (d b a q1:ByteArray) (n m q2 l:aE) (w:aB):aN aH 123 #[aY #[ap d,ap b,n,m],aY #[ap a,ap q1,q2,l]] w λe w'=>e=aQ (J I (fU (d,b) (a,q1)))/\cm w w':=by
 have g:=E (show fU (d,b) (a,q1)=Fj (fO d a) (fO b q1) from rfl);generalize fU (d,b) (a,q1)=r at g⊢;have j:=λW=>Na d a W;have i:=λW=>Na b q1 W;generalize fO d a=x at g j;generalize fO b q1=y at g i;have j:=E j;have i:=E i;have a0:=(aI.new w 205 #[ap d,ap b,n,m]).alloc (aD #[ap a,ap q1,q2,l] 205);have o:=aI.new (w.alloc (aD #[ap d,ap b,n,m] 205)) 205 #[ap a,ap q1,q2,l];have u:=gT.cells a0 0;have t:=gT.cells a0 1;have s:=gT.cells o 0;have p:=gT.cells o 1;simp at u t s p;go_enter func123,ntmps123;go_wp2_with fail;refine AY cm cm.refl cm.trans (cU 0 14 (.c 14::(cU 15 2 []))) [] (cm.drew _) ?_;repeat (
  refine S4.step (λKK aJ=>?_);go_simp;first
   |(refine aJ _ ?_;clear aJ KK)
   |(apply lL;refine⟨λ_=>?_,aJ _ ?_⟩;(first|(with_reducible exact aN.Fc (j.A _))|(with_reducible exact aN.Fc (i.A _)));clear aJ KK))
 refine S4.dm ?_;rintro _⟨f,rfl⟩ KK aJ;go_simp;refine aJ _ _ ((cm.refl _).alloc _) ?_;have B:=gT.cells (aI.new f.aL 3 #[J I x,J I y]) 0;have A:=gT.cells (aI.new f.aL 3 #[J I x,J I y]) 1;have z:=E (λq:gT (f.aL.alloc (aD #[J I x,J I y] 3))=>WO f.aL.heap.size x y q.aL (B q) (A q));repeat (
  refine S4.step (λKK aJ=>?_);go_simp;first
   |(refine aJ _ ?_;clear aJ KK)
   |(apply lL;refine⟨λ_=>?_,aJ _ ?_⟩;(with_reducible exact aN.Fc (z.A _));clear aJ KK))
 refine S4.bh ?_;rintro C v;refine dP ?_;go_wp2;go_ret;exact⟨yW g.A.symm,(((((cm.refl w).alloc _).alloc _).trans f.r).alloc _).trans v⟩
def JA {l:List eX} (h:k<l.length):l[k]=⟨cz l k,fJ l k⟩:=by unfold cz fJ;rw[dr h]
def Rw.sv {l:List eX} (h:Rw jH w B ao n l) (hB:aS w.heap.size w wr) {k:Nat} (a:k<l.length):∃b off A0 c0,ao=ad (ab b off M)/\b<w.heap.size/\wr.cell? ⟨b,off+k*4,M⟩=ad (ap (cz l k).1)/\wr.cell? ⟨b,off+k*4+1,M⟩=ad (ap (cz l k).2)/\wr.cell? ⟨b,off+k*4+2,M⟩=ad (O A0 (fJ l k).ao.length c0)/\wr.cell? ⟨b,off+k*4+3,M⟩=ad (J I (fJ l k).full)/\((cz l k).1.size<=9223372036854775807/\(cz l k).2.size<=9223372036854775807)/\Vs dV wr B (O A0 (fJ l k).ao.length c0) (fJ l k).ao:=by
 obtain⟨b,off,vs,e,Z,d,h2⟩:=h.aL hB a;rw[JA a] at d;obtain⟨v0,rfl,f,h4,c⟩:=d;obtain⟨A0,c0,rfl,_⟩:=c.be;exact⟨b,off,A0,c0,e,Z,h2 0 _ rfl,h2 1 _ rfl,h2 2 _ rfl,h2 3 _ rfl,⟨f,h4⟩,c⟩
def Sb {l:List eX} (w:aB) (h:Vs jH w B v l):aN aH 119 #[v] w λe w'=>e=aQ (aG (kz l))/\aF w w':=by
 obtain⟨ao,cap,rfl,D,cn,b4⟩:=h.be;have s:=E (show kz l=(decide (l.length<=256)&&cI l.length (sR l)) from rfl);generalize kz l=r at s⊢;have N:=E D;have dv:=E (λk=>(show sR l k=(db (cz l k).1&&db (cz l k).2&&fY (fJ l k)&&(decide (k=0)||decide (fU (cz l (k-1)) (cz l k)<0))) from rfl));clear h D;by_cases H:l.length<=256;case neg=>
  have HS:=E (show r=false by rw[s.A];simp[H]);have f:decide (256<l.length)=true:=ac an;go_enter func119,ntmps119;go_wp2;go_ret;exact⟨cc HS.A.symm,aF.refl _⟩
 have G:=E (show r=cI l.length (sR l) by rw[s.A];simp[H]);have X:=E (λk (C:k<l.length) (h:sR l k=false)=>(show r=false by rw[G.A,tV C h]));have f:decide (256<l.length)=false:=aa an;clear s;go_enter func119,ntmps119;go_wp2;clear f;go_loopw [10] (λi wr=>∃k:Nat,k<=l.length/\i=J I k/\a6 (cI k (sR l)=true)/\aF w wr) (λi _=>l.length-(intOf i).toNat);case atStart=>exact⟨0,an,rfl,E rfl,aF.refl _⟩
 case round=>
  obtain⟨k,C,rfl,K,hB⟩:=hrel;by_cases o:k<l.length
  ·obtain⟨b,off,A0,c0,rfl,cw,y0,y1,y2,y3,n,L⟩:=N.A.sv hB.aC o;have HK:=E (dv.A k);have m:=E (X.A k o);have F:=E (λh=>wW K.A (P:=sR l) h);have aR:=E o;have bL:=E (hB.alloc (aD #[ap (cz l k).1,ap (cz l k).2,O A0 (fJ l k).ao.length c0,J I (fJ l k).full] 205));have c:=E (aI.new wr 205 #[ap (cz l k).1,ap (cz l k).2,O A0 (fJ l k).ao.length c0,J I (fJ l k).full]);have M:=E (L.al ((bk wr.heap.size wr).alloc (aO _) (aD #[ap (cz l k).1,ap (cz l k).2,O A0 (fJ l k).ao.length c0,J I (fJ l k).full] 205)));have dt:=E n;have BW:=E (show cz l k=((cz l k).1,(cz l k).2) from rfl);have q:=E (λW=>mu (cz l k).1 W n.1);have u:=E (λW=>mu (cz l k).2 W n.2);clear L o n;generalize dS:db (cz l k).1=x1 at q HK;generalize fb:db (cz l k).2=x2 at u HK;clear dS fb;have Y:=c.A.cell;cases x1;case false=>
    have HS:=E (show r=false from m.A aqm);go_wp2_with fail;refine(q.A _).ah ?_;rintro e g⟨rfl,rfl⟩;exact y9
   cases x2;case false=>
    have HS:=E (show r=false from m.A aqm);go_wp2_with fail;refine(q.A _).ah ?_;rintro e g⟨rfl,rfl⟩;go_wp2_with fail;refine(u.A _).ah ?_;rintro e g⟨rfl,rfl⟩;exact y9
   go_wp2_with fail;refine(q.A _).ah ?_;rintro e g⟨rfl,rfl⟩;go_wp2_with fail;refine(u.A _).ah ?_;rintro e g⟨rfl,rfl⟩;have g2:=c.A.cell;have y:=E (QW (v:=aY #[O A0 (fJ l k).ao.length c0,J I (fJ l k).full]) (x:=fJ l k) _ ⟨_,rfl,M.A⟩);generalize S:fY (fJ l k)=x3 at y HK;clear S;go_wp2_with fail;refine y.A.ah ?_;rintro e t⟨rfl,Z⟩;replace bL:=E (bL.A.trans Z);replace c:=E (c.A.al Z.aC c.A.lt);clear Z y M Y g2;cases x3;case false=>
    have HS:=E (show r=false from m.A aqm);exact y9
   have a:=E (show sR l k=(decide (k=0)||decide (fU (cz l (k-1)) (cz l k)<0)) by rw[HK.A];rfl);have z1:=ba.cells c.A;clear HK;go_wp2_with fail;by_cases c3:k=0;case pos=>
    have HN:=E (F.A (by rw[a.A,c3];rfl));have V:decide (0<k)=false:=aa an;clear c3;refine du (cU 0 14 []) [] ?_;exact QT
   obtain⟨j,hj⟩:=aP (k-1);have V:0<k:=an;have U:j<l.length:=ai aR.A;have eV:I.wrap (j:Int)=(j:Int):=ay;have q7:(k:Int)-1=(j:Int):=an;obtain⟨b',tP,Fw,DA,e',LR,R,d,_,_,_,T⟩:=N.A.sv bL.A.aC U;cases e';have z3:=λp:ba t=>p.cell aqO R;have z4:=λp:ba t=>p.cell aqO d;have CC:=E (λp:ba t=>(aj1 (cz l j).1 (cz l j).2 (cz l k).1 (cz l k).2 p.aL).mono λe w' h=>(⟨h.1,h.2.PD.aC⟩:_/\aS p.aL.heap.size p.aL _));rw[hj] at a;have z:decide (k=0)=false:=aw;rw[z] at a;clear hj R d z T;replace a:=E (show sR l k=decide (fU ((cz l j).1,(cz l j).2) ((cz l k).1,(cz l k).2)<0) from a.A);by_cases c4:fU ((cz l j).1,(cz l j).2) ((cz l k).1,(cz l k).2)<0
   ·have HN:=E (F.A (by rw[a.A,ac c4]));have c5:decide (0<=fU ((cz l j).1,(cz l j).2) ((cz l k).1,(cz l k).2))=false:=aa an;clear c4 a;generalize fU ((cz l j).1,(cz l j).2) ((cz l k).1,(cz l k).2)=tY at*;refine du (cU 0 14 []) [] ?_;exact QR
   ·have HS:=E (show r=false from m.A (by rw[a.A,aa c4]));have c5:decide (0<=fU ((cz l j).1,(cz l j).2) ((cz l k).1,(cz l k).2))=true:=ac an;clear c4 a;generalize fU ((cz l j).1,(cz l j).2) ((cz l k).1,(cz l k).2)=tY at*;exact XO
  ·obtain rfl:k=l.length:=by omega
   have HS:=E (show r=true by rw[G.A];exact K.A);go_wp2;go_ret;exact⟨cc HS.A.symm,hB⟩
variable {S:List bf}
section
open Go.ChangeMaps Go.MapKept
structure SPo (w w':aB) (i:Nat) (l:List Tok) (v:aE) (s:iZ) (k:Int) (j:Nat):Prop where
 val:qi w' 0 v s
 le:j<=l.length
 Sd:k=0->kT s=true
 ex:(eT l i 1&&db (eu l i))=true->cA l (i+1) 4 ⟨#[123]⟩=false->s=⟨eu l i,[]⟩/\k=0/\j=i+1
def qi.keep {s:iZ} (h:qi w B v s) (b:Kt B S w w') (c:jG.e∉S) (h2:∀t∈jG.bI,t∉S):qi w' B v s:=by
 obtain⟨u,e,hn,a⟩:=h.A;exact⟨u,e,hn,a.keep b c h2⟩
def aj9 {c:Nat} (m:aF w0 w) (h:Rw kM w0 B ao l.length l) (H:l.length<=c/\c<=9223372036854775807) (hi:i<=l.length):aN aH 277 #[O ao l.length c,J I i] w λe w'=>(∃(v:aE) (s:iZ) (k:Int) (j:Nat),e=aQ (bn #[v,J I j,J I k])/\SPo w0 w' i l v s k j)/\aF w w':=by
 have ug:min (i:Int) (l.length:Int)=(i:Int):=an;have U:=(aF.refl w).alloc (aD #[ap ⟨#[]⟩,O M 0 0] 46);have z:=U.alloc (aD #[O ao l.length c,J I i] 415);have W:=E (show jj w0 ((w.alloc (aD #[ap ⟨#[]⟩,O M 0 0] 46)).alloc (aD #[O ao l.length c,J I i] 415)) B (w.heap.size+1) c i ao l from⟨m.trans z,ai m.size,h,by have:=aI.new (w.alloc (aD #[ap ⟨#[]⟩,O M 0 0] 46)) 415 #[O ao l.length c,J I i];simpa using this,H,hi⟩);have HX:=E (aI.alloc (aI.new w 46 #[ap ⟨#[]⟩,O M 0 0]) (aD #[O ao l.length c,J I i] 415));have bm:=E z;have cV:=E m;have Se:¬((i:Int)<0):=an;have HL:=E hi;clear h H hi U z m;go_enter func277,ntmps277;have V:=E (ajM W.A);go_wp2_with fail;refine V.A.ah ?_;clear V;rintro e b⟨⟨v,s,k,j,rfl,p,N,d,t⟩,a⟩;obtain⟨u,rfl,hn,G⟩:=p.A;obtain⟨A0,c0,rfl,_⟩:=G.be;have n:=(bk b.heap.size b).alloc (aO _) (aD #[ap s.n,O A0 s.aU.length c0] 46);have bA:=E ((bm.A.cD a (mg _)).trans (aF.of n));have HV:=E (p.al n);have Y:=E (iC N d);have HY:=E (aI.new b 46 #[ap s.n,O A0 s.aU.length c0]);have y:=E (t.al n);have T:=E ((HX.A.gr a an).alloc (aD #[ap s.n,O A0 s.aU.length c0] 46));have L:=E (show b.heap.size≠w.heap.size/\w.heap.size+1≠w.heap.size from⟨ai t.box.lt,an⟩);clear p N d hn G n t a W HX;have hj:=y.A.le;have y0:=Gx.cells (r:=w.heap.size) (X:=aD #[ap s.n,O A0 s.aU.length c0] 46 (0,0)) HY.A L.A.1;have r1:=Gx.cells (r:=w.heap.size) (X:=aD #[ap s.n,O A0 s.aU.length c0] 46 (0,0)) y.A.box L.A.2 1;have HJ:=E hj;clear hj ug;go_wp2_with fail;refine AY (gb w.heap.size (aD #[(ap s.n),(O A0 s.aU.length c0)] 46 (0,0))) gb.refl gb.trans [.q 0,.q 1,.q 2,.q 3,.q 4,.q 5,.c 6,.q 7,.q 8] [] (gb.drew _) ?_;refine dY ?_;refine S4.dm ?_;rintro _⟨D,rfl⟩ KK aJ;obtain⟨us,o,C⟩:=D.own T.A rfl;obtain⟨aM,aK,rfl⟩:=ajN C;have⟨Z,f0⟩:=o.cf;have f:=E o;clear C o;go_simp;refine aJ _ _ (gb.put (f.A.s8 (ap s.n) (O A0 s.aU.length c0)) (rJ f.A.lt (ap s.n) (O A0 s.aU.length c0))) ?_;clear aJ KK Z f0;refine dY ?_;refine S4.bh ?_;rintro wq R;obtain⟨K,a⟩:=gb.last R (f.A.s8 (ap s.n) (O A0 s.aU.length c0));have HP:=E K;have S:=E (bB D.gr (bB (rJ f.A.lt (ap s.n) (O A0 s.aU.length c0)) a));clear R K a f;refine E4.bh ?_;have F:=(Kt.refl w0.heap.size [46] (b.alloc (aD #[ap s.n,O A0 s.aU.length c0] 46))).grown S.A (y.A.b0.size) (λg e=>by cases e;exact⟨cV.A.size,bp.bO T.A⟩) (bD.2 rfl);have ic:=E (HV.A.keep (F.dJ (bV _)) aq aq);have gX:=E (bA.A.cD S.A (aO _));clear F;go_wp2;have k0:=HP.A.cell;refine bF (v:=bn #[aY #[ap s.n,O A0 s.aU.length c0],J I j,J I k]) (by simp[bz,results277,go_sem,k0]) rfl ⟨⟨_,s,k,j,rfl,⟨ic.A,HJ.A,Y.A.1,Y.A.2⟩⟩,gX.A⟩
end
def kD:ByteArray:=⟨#[49,48,109,115]⟩
def zy (a b:ByteArray):Bool:=Lib.hasPrefix a.data.toList b.data.toList
def JE {a b:ByteArray} (h:zy a b=true):b.size<=a.size:=by
 unfold zy Lib.hasPrefix at h;have c:b.data.toList.length<=a.data.toList.length:=by
  first
   |(have:=List.IsPrefix.length_le (List.isPrefixOf_iff_prefix.1 h);exact this)
   |(have:=congrArg oz (of_decide_eq_true h);simp at this;omega)
   |(have:=congrArg oz (beq_iff_eq.1 h);simp at this;omega)
 simpa using c
def Ge (a b:ByteArray) (w:aB):aN aH 218 #[ap a,ap b] w λe w'=>e=aQ (aG (zy a b))/\w'=w:=Tryz.strings_HasPrefix a b w
def aka:ib l0 kD 0 2:=by
 refine⟨aq,aq,λk a h2=>?_,λ_=>by decide⟩;rcases(show k=0\/k=1 by omega) with rfl|rfl<;>decide
def akb:kD.extract 2 kD.size=⟨#[109,115]⟩:=aq
def a1:ux kD 2=10:=aq
def l1:(⟨#[100]⟩:ByteArray).toList=[100]:=ar
def l2:(⟨#[104]⟩:ByteArray).toList=[104]:=ar
def Da:(⟨#[109]⟩:ByteArray).toList=[109]:=ar
def akc:(⟨#[109,115]⟩:ByteArray).toList=[109,115]:=ar
def yJ:(⟨#[]⟩:ByteArray).toList=[]:=ar
def aaE (w:aB):(mX 321 (.agg kY) (J I 0)).run aH w= .ok (aY #[ap ⟨#[100]⟩,J I 86400000]) w:=ar
def aaF (w:aB):(mX 321 (.agg kY) (J I 1)).run aH w= .ok (aY #[ap ⟨#[104]⟩,J I 3600000]) w:=ar
def aaG (w:aB):(mX 321 (.agg kY) (J I 2)).run aH w= .ok (aY #[ap ⟨#[109]⟩,J I 60000]) w:=ar
def aaH (w:aB):(mX 321 (.agg kY) (J I 3)).run aH w= .ok (aY #[ap ⟨#[115]⟩,J I 1000]) w:=ar
def aaI (w:aB):(mX 321 (.agg kY) (J I 4)).run aH w= .ok (aY #[ap ⟨#[109,115]⟩,J I 1]) w:=ar
def akd {s:ByteArray} (h:s.size=0):s.toList=[]:=by
 have:s=⟨#[]⟩:=by
  cases s with
  |mk d=>simp[ByteArray.size] at h;simp[h]
 rw[this];exact yJ
def ake {s:ByteArray} (h:s.size≠0):(s.toList==[])=false:=by
 rw[<-yJ,j9];exact aa λe=>h (by rw[e];rfl)
theorem aaJ (h:P:=by
 go_wp2;go_roundw;case rel=>exact⟨3,an,by go_num,rfl,rfl,rfl,b3.A,E (λh=>by omega)⟩
 case measure=>simp[intOf]
 ):P:=h
def aaK (s:ByteArray) (w:aB) (hG:eK w) (hs:s.size<=9223372036854775807):aN aH 178 #[ap s] w λe w'=>(∃n k:Int,e=aQ (bn #[J I n,J I k])/\a6 ((k=0->0<=n/\n<=9007199254740992)/\(s=kD->n=10/\k=0)))/\aF w w':=by
 have cY:=E hG;have D:=E hs;go_enter func178,ntmps178;go_wp2;go_step3;go_wp2;go_step3;go_wp2;go_loopw [0,4,5,6] (λa0 a4 a5 Y wr=>∃(cur:ByteArray) (sum:Int) (fr:Nat) (f:Bool),a0=ap cur/\a4=J I sum/\a5=J I fr/\Y=aG f/\aF w wr/\a6 (cur.size<=s.size/\fr<=5/\(0<=sum/\sum<=9007199254740993)/\(f=true->cur=s/\sum=0/\fr=0)/\(s=kD->f=false->cur.size=0/\sum=10))) (λa0 _ _ Y _=>(match a0 with|ap c=>c.size|_=>0)+(match Y with|aG true=>1|_=>0));case atStart=>exact⟨s,0,0,true,rfl,rfl,rfl,rfl,aF.refl _,E ⟨aO _,an,an,λ_=>⟨rfl,rfl,rfl⟩,λ_ h=>by cases h⟩⟩
 case round=>
  obtain⟨cur,sum,fr,f,rfl,rfl,rfl,rfl,L,A⟩:=hrel;have C:=D.A;by_cases Q:f=false/\cur.size=0
  ·obtain⟨rfl,h0⟩:=Q;have t0:=akd h0;have R:=Jm sum wr;have jC:=E (show s=kD->sum=10 fromλh=>(A.A.2.2.2.2 h rfl).2);clear A h0;cases Z:gm sum with
   |false=>
    rw[Z] at R;have K:=E (show s≠kD fromλh=>by
     rw[jC.A h] at Z;exact ae Z aq)
    clear Z;go_wp2_with fail;refine R.ah ?_;rintro e w2⟨rfl,rfl⟩;go_wp2;rw[Exit.noGoto_ret];go_ret2;exact⟨⟨0,2,rfl,E ⟨λh=>ae h aq,λh=>ae h K.A⟩⟩,L⟩
   |true=>
    rw[Z] at R;have vV:=E (show 0<=sum/\sum<=9007199254740992 by simpa[gm] using Z);clear Z;go_wp2_with fail;refine R.ah ?_;rintro e w2⟨rfl,rfl⟩;go_wp2;rw[Exit.noGoto_ret];go_ret2;exact⟨⟨sum,0,rfl,E ⟨λ_=>vV.A,λh=>⟨jC.A h,rfl⟩⟩⟩,L⟩
  have cB:f=false->(cur.toList==[])=false:=λh=>ake λh0=>Q ⟨h,h0⟩;have U:=E (show s=kD->cur=kD/\sum=0/\fr=0 fromλh=>by
   cases X:f with
   |true=>obtain⟨y,h2,H⟩:=A.A.2.2.2.1 X;exact⟨y.trans h,h2,H⟩
   |false=>exact ae ⟨X,(A.A.2.2.2.2 h X).1⟩ Q)
  have q:=E A.A.2.2.1;have BX:=E A.A.1;clear A Q;have O:=ajz cur wr (a8 BX.A C);have o:=(cY.A.rel L);have u0:=o.unit 0;have u1:=o.unit 1;have u2:=o.unit 2;have u3:=o.unit 3;have u4:=o.unit 4;have u5:=o.unit 5;have u6:=o.unit 6;have u7:=o.unit 7;have u8:=o.unit 8;have u9:=o.unit 9;simp[kY] at u0 u1 u2 u3 u4 u5 u6 u7 u8 u9;clear o;cases f;all_goals
   try have cB:=cB rfl
   go_wp2_with fail;refine O.ah ?_;rintro e w2⟨⟨k,rfl,z⟩,rfl⟩;clear O;have T:s=kD->k=2:=λh=>by rw[(U.A h).1] at z;exact z.q9 aka
   have aK:=E z;by_cases ci:k=0
   ·subst ci;have K:=E (show s≠kD fromλh=>by have:=T h;omega);clear z T;go_wp2;rw[Exit.noGoto_ret];go_ret2;exact⟨⟨0,1,rfl,E ⟨λh=>ae h aq,λh=>ae h K.A⟩⟩,L⟩
   have aJ:((k:Int)==0)=false:=aw;have oG:=z.hi;have m:=E (RQ cur k (λj hj=>z.on j (bV _) hj));obtain⟨N,G⟩:=aP (ux cur k);obtain⟨rest,F⟩:=aP (cur.extract k cur.size);have fH:=E (show rest.size+k=cur.size/\1<=k/\cur.size<=s.size from⟨by rw[<-F,pG cur k cur.size oG (aO _)];omega,an,BX.A⟩);have HX:=E (show s=kD->rest=⟨#[109,115]⟩/\N=10/\sum=0/\fr=0 fromλh=>by
    obtain⟨y,h2,H⟩:=U.A h;have h4:=T h;subst h4;rw[y] at F G;exact⟨F.symm.trans akb,G.symm.trans a1,h2,H⟩)
   rw[G] at m;simp only[G];clear z T G U;go_wp2;try simp only[F]
   clear F u0 u1 u2 u3 u4 u5 u6 u7 u8 u9;go_loopw [0,4,5,28] (λa0 a4 a5 i vL=>∃j:Nat,j<=5/\i=J I j/\a0=ap cur/\a4=J I sum/\a5=J I fr/\aF w vL/\a6 (s=kD->j<=4)) (λ_ _ _ i _=>5-(intOf i).toNat);case atStart=>exact⟨0,an,rfl,rfl,rfl,rfl,L,E (λ_=>by omega)⟩
   case round=>
    obtain⟨j,hj,rfl,rfl,rfl,rfl,p,V⟩:=hrel;rcases(show j=0\/j=1\/j=2\/j=3\/j=4\/j=5 by omega) with rfl|rfl|rfl|rfl|rfl|rfl
    ·have C:=D.A;have b3:=E (p.alloc (aD #[ap ⟨#[100]⟩,J I 86400000] 320));have b:=λW=>aaE W;have b:∀W,(mX 321 (.agg kY) (J I 0)).run aH W= .ok (aY #[ap ⟨#[100]⟩,J I 86400000]) W:=b;unfold kY at b;clear p;by_cases g:0<fr
     ·have d1:decide ((0:Int)<(fr:Int))=true:=ac an;have v:decide (0<fr)=true:=ac g;go_wp2;go_roundw;case rel=>exact⟨1,an,by go_num,rfl,rfl,rfl,b3.A,E (λh=>ae (HX.A h).2.2.2 an)⟩
      case measure=>simp[intOf]
     have d1:decide ((0:Int)<(fr:Int))=false:=aa an;have v:decide (0<fr)=false:=aa g;have a:=λW=>Ge rest ⟨#[100]⟩ W;cases Z:zy rest ⟨#[100]⟩ with
     |false=>
      rw[Z] at a;have M:=E Z;clear Z;go_wp2_with fail;refine(a _).ah ?_;rintro e d⟨rfl,rfl⟩;go_wp2;go_roundw;case rel=>exact⟨1,an,by go_num,rfl,rfl,rfl,b3.A,E (λh=>by omega)⟩
      case measure=>simp[intOf]
     |true=>
      rw[Z] at a;have x:=JE Z;have r:1<=rest.size:=x;have l:=λW=>Jn sum N 86400000 W q.A m.A aq;have u:=E (Jo (sum:=sum) (n:=N) (size:=86400000) q.A m.A aq);have t:=E (show s=kD->(rest.extract 1 rest.size).size=0/\mK sum N 86400000=10 fromλh=>by rw[(HX.A h).1] at Z;exact ae Z aq);go_wp2_with fail;refine(a _).ah ?_;rintro e d⟨rfl,rfl⟩;clear a;go_wp2_with fail;refine(l _).ah ?_;rintro e d⟨rfl,rfl⟩;clear l;have pH:=pG rest 1 rest.size r (aO _);go_wp2;go_roundw;case rel=>exact⟨rest.extract 1 rest.size,mK sum N 86400000,1,false,rfl,rfl,by go_num,rfl,b3.A,E ⟨aqX,an,u.A,(λh:false=true=>ae h aq),λh _=>t.A h⟩⟩
      case measure=>exact da (show(rest.extract 1 rest.size).size+0<cur.size from by rw[pH];have:=fH.A;omega) (Nat.le_add_right _ _)
    ·have C:=D.A;have b3:=E (p.alloc (aD #[ap ⟨#[104]⟩,J I 3600000] 320));have b:=λW=>aaF W;have b:∀W,(mX 321 (.agg kY) (J I 1)).run aH W= .ok (aY #[ap ⟨#[104]⟩,J I 3600000]) W:=b;unfold kY at b;clear p;by_cases g:1<fr
     ·have d1:decide ((1:Int)<(fr:Int))=true:=ac an;have v:decide (1<fr)=true:=ac g;go_wp2;go_roundw;case rel=>exact⟨2,an,by go_num,rfl,rfl,rfl,b3.A,E (λh=>ae (HX.A h).2.2.2 an)⟩
      case measure=>simp[intOf]
     have d1:decide ((1:Int)<(fr:Int))=false:=aa an;have v:decide (1<fr)=false:=aa g;have a:=λW=>Ge rest ⟨#[104]⟩ W;cases Z:zy rest ⟨#[104]⟩ with
     |false=>
      rw[Z] at a;have M:=E Z;clear Z;go_wp2_with fail;refine(a _).ah ?_;rintro e d⟨rfl,rfl⟩;go_wp2;go_roundw;case rel=>exact⟨2,an,by go_num,rfl,rfl,rfl,b3.A,E (λh=>by omega)⟩
      case measure=>simp[intOf]
     |true=>
      rw[Z] at a;have x:=JE Z;have r:1<=rest.size:=x;have l:=λW=>Jn sum N 3600000 W q.A m.A aq;have u:=E (Jo (sum:=sum) (n:=N) (size:=3600000) q.A m.A aq);have t:=E (show s=kD->(rest.extract 1 rest.size).size=0/\mK sum N 3600000=10 fromλh=>by rw[(HX.A h).1] at Z;exact ae Z aq);go_wp2_with fail;refine(a _).ah ?_;rintro e d⟨rfl,rfl⟩;clear a;go_wp2_with fail;refine(l _).ah ?_;rintro e d⟨rfl,rfl⟩;clear l;have pH:=pG rest 1 rest.size r (aO _);go_wp2;go_roundw;case rel=>exact⟨rest.extract 1 rest.size,mK sum N 3600000,2,false,rfl,rfl,by go_num,rfl,b3.A,E ⟨aqX,an,u.A,(λh:false=true=>ae h aq),λh _=>t.A h⟩⟩
      case measure=>exact da (show(rest.extract 1 rest.size).size+0<cur.size from by rw[pH];have:=fH.A;omega) (Nat.le_add_right _ _)
    ·have C:=D.A;have b3:=E (p.alloc (aD #[ap ⟨#[109]⟩,J I 60000] 320));have b:=λW=>aaG W;have b:∀W,(mX 321 (.agg kY) (J I 2)).run aH W= .ok (aY #[ap ⟨#[109]⟩,J I 60000]) W:=b;unfold kY at b;clear p;by_cases g:2<fr
     ·have d1:decide ((2:Int)<(fr:Int))=true:=ac an;have v:decide (2<fr)=true:=ac g;go_wp2;go_roundw;case rel=>exact⟨3,an,by go_num,rfl,rfl,rfl,b3.A,E (λh=>ae (HX.A h).2.2.2 an)⟩
      case measure=>simp[intOf]
     have d1:decide ((2:Int)<(fr:Int))=false:=aa an;have v:decide (2<fr)=false:=aa g;have a:=λW=>Ge rest ⟨#[109]⟩ W;cases Z:zy rest ⟨#[109]⟩ with
     |false=>
      rw[Z] at a;have M:=E Z;clear Z;go_wp2_with fail;refine(a _).ah ?_;rintro e d⟨rfl,rfl⟩;exact aaJ
     |true=>
      rw[Z] at a;have B:=λW=>Ge rest ⟨#[109,115]⟩ W;cases S:zy rest ⟨#[109,115]⟩ with
      |true=>
       rw[S] at B;go_wp2_with fail;refine(a _).ah ?_;rintro e d⟨rfl,rfl⟩;clear a;go_wp2_with fail;refine(B _).ah ?_;rintro e d⟨rfl,rfl⟩;clear B;exact aaJ
      |false=>
       rw[S] at B;have x:=JE Z;have r:1<=rest.size:=x;have l:=λW=>Jn sum N 60000 W q.A m.A aq;have u:=E (Jo (sum:=sum) (n:=N) (size:=60000) q.A m.A aq);have t:=E (show s=kD->(rest.extract 1 rest.size).size=0/\mK sum N 60000=10 fromλh=>by rw[(HX.A h).1] at S;exact ae S aq);go_wp2_with fail;refine(a _).ah ?_;rintro e d⟨rfl,rfl⟩;clear a;go_wp2_with fail;refine(B _).ah ?_;rintro e d⟨rfl,rfl⟩;clear B;go_wp2_with fail;refine(l _).ah ?_;rintro e d⟨rfl,rfl⟩;clear l;have pH:=pG rest 1 rest.size r (aO _);go_wp2;go_roundw;case rel=>exact⟨rest.extract 1 rest.size,mK sum N 60000,3,false,rfl,rfl,by go_num,rfl,b3.A,E ⟨aqX,an,u.A,(λh:false=true=>ae h aq),λh _=>t.A h⟩⟩
       case measure=>exact da (show(rest.extract 1 rest.size).size+0<cur.size from by rw[pH];have:=fH.A;omega) (Nat.le_add_right _ _)
    ·have C:=D.A;have b3:=E (p.alloc (aD #[ap ⟨#[115]⟩,J I 1000] 320));have b:=λW=>aaH W;have b:∀W,(mX 321 (.agg kY) (J I 3)).run aH W= .ok (aY #[ap ⟨#[115]⟩,J I 1000]) W:=b;unfold kY at b;clear p;by_cases g:3<fr
     ·have d1:decide ((3:Int)<(fr:Int))=true:=ac an;have v:decide (3<fr)=true:=ac g;go_wp2;go_roundw;case rel=>exact⟨4,an,by go_num,rfl,rfl,rfl,b3.A,E (λh=>ae (HX.A h).2.2.2 an)⟩
      case measure=>simp[intOf]
     have d1:decide ((3:Int)<(fr:Int))=false:=aa an;have v:decide (3<fr)=false:=aa g;have a:=λW=>Ge rest ⟨#[115]⟩ W;cases Z:zy rest ⟨#[115]⟩ with
     |false=>
      rw[Z] at a;have M:=E Z;clear Z;go_wp2_with fail;refine(a _).ah ?_;rintro e d⟨rfl,rfl⟩;go_wp2;go_roundw;case rel=>exact⟨4,an,by go_num,rfl,rfl,rfl,b3.A,E (λh=>by omega)⟩
      case measure=>simp[intOf]
     |true=>
      rw[Z] at a;have x:=JE Z;have r:1<=rest.size:=x;have l:=λW=>Jn sum N 1000 W q.A m.A aq;have u:=E (Jo (sum:=sum) (n:=N) (size:=1000) q.A m.A aq);have t:=E (show s=kD->(rest.extract 1 rest.size).size=0/\mK sum N 1000=10 fromλh=>by rw[(HX.A h).1] at Z;exact ae Z aq);go_wp2_with fail;refine(a _).ah ?_;rintro e d⟨rfl,rfl⟩;clear a;go_wp2_with fail;refine(l _).ah ?_;rintro e d⟨rfl,rfl⟩;clear l;have pH:=pG rest 1 rest.size r (aO _);go_wp2;go_roundw;case rel=>exact⟨rest.extract 1 rest.size,mK sum N 1000,4,false,rfl,rfl,by go_num,rfl,b3.A,E ⟨aqX,an,u.A,(λh:false=true=>ae h aq),λh _=>t.A h⟩⟩
      case measure=>exact da (show(rest.extract 1 rest.size).size+0<cur.size from by rw[pH];have:=fH.A;omega) (Nat.le_add_right _ _)
    ·have C:=D.A;have b3:=E (p.alloc (aD #[ap ⟨#[109,115]⟩,J I 1] 320));have b:=λW=>aaI W;have b:∀W,(mX 321 (.agg kY) (J I 4)).run aH W= .ok (aY #[ap ⟨#[109,115]⟩,J I 1]) W:=b;unfold kY at b;clear p;by_cases g:4<fr
     ·have d1:decide ((4:Int)<(fr:Int))=true:=ac an;have v:decide (4<fr)=true:=ac g;go_wp2;go_roundw;case rel=>exact⟨5,an,by go_num,rfl,rfl,rfl,b3.A,E (λh=>ae (HX.A h).2.2.2 an)⟩
      case measure=>simp[intOf]
     have d1:decide ((4:Int)<(fr:Int))=false:=aa an;have v:decide (4<fr)=false:=aa g;have a:=λW=>Ge rest ⟨#[109,115]⟩ W;cases Z:zy rest ⟨#[109,115]⟩ with
     |false=>
      rw[Z] at a;have M:=E Z;clear Z;go_wp2_with fail;refine(a _).ah ?_;rintro e d⟨rfl,rfl⟩;go_wp2;go_roundw;case rel=>exact⟨5,an,by go_num,rfl,rfl,rfl,b3.A,E (λh=>by have y:=M.A;rw[(HX.A h).1] at y;exact ae y aq)⟩
      case measure=>simp[intOf]
     |true=>
      rw[Z] at a;have x:=JE Z;have r:2<=rest.size:=x;have l:=λW=>Jn sum N 1 W q.A m.A aq;have u:=E (Jo (sum:=sum) (n:=N) (size:=1) q.A m.A aq);have t:=E (show s=kD->(rest.extract 2 rest.size).size=0/\mK sum N 1=10 fromλh=>by obtain⟨y,h2,H,h4⟩:=HX.A h;rw[y,h2,H];exact⟨aq,aq⟩);go_wp2_with fail;refine(a _).ah ?_;rintro e d⟨rfl,rfl⟩;clear a;go_wp2_with fail;refine(l _).ah ?_;rintro e d⟨rfl,rfl⟩;clear l;have pH:=pG rest 2 rest.size r (aO _);go_wp2;go_roundw;case rel=>exact⟨rest.extract 2 rest.size,mK sum N 1,5,false,rfl,rfl,by go_num,rfl,b3.A,E ⟨aqX,an,u.A,(λh:false=true=>ae h aq),λh _=>t.A h⟩⟩
      case measure=>exact da (show(rest.extract 2 rest.size).size+0<cur.size from by rw[pH];have:=fH.A;omega) (Nat.le_add_right _ _)
    ·have K:=E (show s≠kD fromλh=>by have:=V.A h;omega);go_wp2;rw[Exit.noGoto_ret];go_ret2;exact⟨⟨0,1,rfl,E ⟨λh=>ae h aq,λh=>ae h K.A⟩⟩,p⟩
def S0:ByteArray:=⟨#[48]⟩
def aaM (v d:Int) (w:aB) (hv:0<=v/\v<=9007199254740993) (c:0<=d/\d<=9):aN aH 304 #[J I v,J I d] w λe w'=>e=aQ (J I (min (v*10+d) 9007199254740993))/\w'=w:=by
 have b:I.wrap (v*10)=v*10:=ay;have a:I.wrap (v*10+d)=v*10+d:=ay;go_enter func304,ntmps304;go_wp2;go_ret;exact⟨rfl,rfl⟩
def akf (s:ByteArray) (p:List UInt8):(⟨(Lib.trimPrefix s.data.toList p).toArray⟩:ByteArray).size<=s.size:=by
 show(Lib.trimPrefix s.data.toList p).toArray.size<=s.data.size;unfold Lib.trimPrefix;split<;>simp
def akg:Utf8.decode S0 0=(48,1):=decode_ascii S0 0 aq aq
theorem D7 (h:P:=by
 go_wp2;go_ret2;exact⟨⟨0,1,rfl,E ⟨λh=>ae h aq,λh=>ae (o4.A h).1 HN.A⟩⟩,HB.A _⟩;):P:=h
def akh (s:ByteArray) (w:aB) (hs:s.size<=1000000):aN aH 279 #[ap s] w λe w'=>(∃v k:Int,e=aQ (bn #[J I v,J I k])/\a6 ((k=0->j6 v=true)/\(s=S0->v=0/\k=0)))/\aF w w':=by
 have hcut:=Tryz.strings_CutPrefix s ⟨#[45]⟩ w;have S:=akf s [45];obtain⟨a,D⟩:=aP ((⟨(Lib.trimPrefix s.data.toList [45]).toArray⟩:ByteArray));obtain⟨aC,N⟩:=aP (Lib.hasPrefix s.data.toList [45]);have HC:=E (show aN aH 303 #[ap s,ap ⟨#[45]⟩] w λe w'=>e=aQ (bn #[ap a,aG aC])/\w'=w by rw[<-D,<-N];exact hcut);rw[D] at S;have o4:=E (show s=S0->a=S0/\aC=false fromλh=>by
  subst h;exact⟨D.symm.trans aq,N.symm.trans aq⟩)
 have dt:=E (show a.size<=1000000 by omega);clear hcut D N S;go_enter func279,ntmps279;go_wp2_with fail;refine HC.A.ah ?_;rintro e g⟨rfl,rfl⟩;clear HC;go_wp2;have HB:=E (λp=>show aF g (g.iter a p) from(aF.refl g).alloc _);go_loopw [6,7,8,9] (λL rM BZ a9 wr=>∃(v:Int) (b pl pos:Nat) (d:Bool),L=J I v/\rM=J I b/\BZ=J I pl/\a9=aG d/\wr=g.iter a pos/\a6 ((0<=v/\v<=9007199254740993)/\b+pl<=pos/\b+pl<=a.size/\(a=S0->v=0/\pl=0/\d=false/\b=pos/\pos<=1))) (λ_ _ _ _ wr=>a.size-wr.iterPos g.heap.size);case atStart=>exact⟨0,0,0,0,false,rfl,rfl,rfl,rfl,rfl,E ⟨an,an,an,λ_=>⟨rfl,rfl,rfl,rfl,an⟩⟩⟩
 case round=>
  obtain⟨v,b,pl,pos,d,rfl,rfl,rfl,rfl,rfl,l⟩:=hrel;have hv:=l.A.1;have Gf:=l.A.2.1;have Fq:=l.A.2.2.1;have S:=dt.A;by_cases m:pos<a.size
  ·have Y:=run_next_any (P:=aH) g a pos 0 m;have z:=Lib.decode_width_pos a pos m;have O:=decode_le a pos;have B:=E (show a=S0->(Utf8.decode a pos)=(48,1)/\pos=0 fromλh=>by
    subst h;have:pos=0:=by have K:pos<1:=m;omega
    subst this;exact⟨akg,rfl⟩)
   obtain⟨⟨c,n⟩,xA⟩:∃x,Utf8.decode a pos=x:=⟨_,rfl⟩;rw[xA] at Y z O B;dsimp only at Y z O;clear xA;have bq:pos≠a.size:=an;by_cases V:c=46/\d=false/\0<b
   ·obtain⟨rfl,rfl,X⟩:=V;have d0:decide ((0:Int)<(b:Int))=true:=ac an;have aR:decide (0<b)=true:=ac X;have HN:=E (show a≠S0 fromλh=>by have:=(B.A h).1;simp at this);go_wp2;go_roundw;case rel=>exact⟨v,b,pl,pos+n,true,rfl,rfl,rfl,rfl,rfl,E ⟨hv,an,Fq,λh=>ae h HN.A⟩⟩
    case measure=>exact aw
   by_cases U:48<=c/\c<=57
   ·have M:((c:Int)==46)=false:=by simp;omega
    have d1:decide ((c:Int)<48)=false:=aa an;have d2:decide ((57:Int)<(c:Int))=false:=aa an;have ec:decide (c<48)=false:=aa an;have R:decide (57<c)=false:=aa an;have aM:IntKind.i32.wrap ((c:Int)-48)=(c:Int)-48:=by simp[IntKind.wrap,IntKind.bits,IntKind.signed];omega
    have aJ:I.wrap ((c:Int)-48)=(c:Int)-48:=ay;have f:=λW=>aaM v ((c:Int)-48) W hv an;obtain⟨v2,rO⟩:=aP (min (v*10+((c:Int)-48)) 9007199254740993);rw[rO] at f;have C:=E (show(0<=v2/\v2<=9007199254740993)/\(a=S0->v2=0/\pl=0/\d=false/\b+1=pos+n/\pos+n<=1) from⟨an,λh=>by
     obtain⟨K,h2⟩:=B.A h;cases K;obtain⟨g1,g2,g3,g4,g5⟩:=l.A.2.2.2 h;exact⟨an,g2,g3,an,an⟩⟩)
    clear rO V O;cases d with
    |true=>
     have HN:=E (show a≠S0 fromλh=>by have:=(C.A.2 h).2.2.1;cases this);go_wp2_with fail;refine(f _).ah ?_;rintro e o⟨rfl,rfl⟩;clear f;go_wp2;go_roundw;case rel=>exact⟨v2,b,pl+1,pos+n,true,rfl,rfl,by go_num,rfl,rfl,E ⟨C.A.1,an,an,λh=>ae h HN.A⟩⟩
     case measure=>exact aw
    |false=>
     go_wp2_with fail;refine(f _).ah ?_;rintro e o⟨rfl,rfl⟩;clear f;go_wp2;go_roundw;case rel=>exact⟨v2,b+1,pl,pos+n,false,rfl,by go_num,rfl,rfl,rfl,E ⟨C.A.1,an,an,λh=>by obtain⟨g1,g2,g3,g4,g5⟩:=C.A.2 h;exact⟨g1,g2,rfl,g4,g5⟩⟩⟩
     case measure=>exact aw
   have HN:=E (show a≠S0 fromλh=>by
    have:=(B.A h).1;cases this;exact U an)
   clear B;by_cases H:c=46
   ·subst H;cases d with
    |true=>
     exact D7
    |false=>
     have X:b=0:=by
      rcases kJ b with h|h
      ·exact h
      ·exact ae ⟨rfl,rfl,h⟩ V
     subst X;exact D7
   have M:((c:Int)==46)=false:=aw;by_cases y:c<48
   ·have d1:decide ((c:Int)<48)=true:=ac an;have ec:decide (c<48)=true:=ac y;exact D7
   ·have d1:decide ((c:Int)<48)=false:=aa an;have d2:decide ((57:Int)<(c:Int))=true:=ac an;have ec:decide (c<48)=false:=aa y;have R:decide (57<c)=true:=ac an;exact D7
  ·have Y:=run_next_end (P:=aH) g a pos 0 m;have r:=E (show a=S0->v=0/\pl=0/\d=false/\b=1 fromλh=>by
    obtain⟨g1,g2,g3,g4,g5⟩:=l.A.2.2.2 h;have K:¬pos<1:=by rw[h] at m;exact m
    exact⟨g1,g2,g3,an⟩)
   clear l;by_cases hA:b=0
   ·subst hA;have HN:=E (show a≠S0 fromλh=>by have:=(r.A h).2.2.2;omega);exact D7
   have a2:((b:Int)==0)=false:=aw;by_cases hB:3<pl
   ·have T:decide ((3:Int)<(pl:Int))=true:=ac an;have Q:decide (3<pl)=true:=ac hB;have HN:=E (show a≠S0 fromλh=>by have:=(r.A h).2.1;omega);exact D7
   have T:decide ((3:Int)<(pl:Int))=false:=aa an;have Q:decide (3<pl)=false:=aa hB;by_cases G:d=true/\pl=0
   ·obtain⟨rfl,rfl⟩:=G;have HN:=E (show a≠S0 fromλh=>by have:=(r.A h).2.2.1;cases this);exact D7
   have HQ:=E (show(0<=v/\v<=9007199254740993)/\(a=S0->v=0) from⟨hv,λh=>(r.A h).1⟩);have qq:pl<=3:=an;have w3:I.wrap (3-(pl:Int))=3-(pl:Int):=ay;have u:d=true->((pl:Int)==0)=false:=λh=>by
    have:pl≠0:=λh2=>G ⟨h,h2⟩;simp;omega
   clear G Gf Fq hv r;cases d;all_goals
    try have u:=u rfl
    go_wp2;go_loopw [6,65] (λL i wr=>∃(v2:Int) (j:Nat),L=J I v2/\i=J I j/\j+pl<=3/\wr=g.iter a pos/\a6 ((0<=v2/\v2<=9007199254740993)/\(a=S0->v2=0))) (λ_ i _=>3-pl-(intOf i).toNat);case atStart=>exact⟨v,0,rfl,rfl,an,by first|rfl|trivial,HQ⟩
    case round=>
     obtain⟨v2,j,rfl,rfl,hj,rfl,q⟩:=hrel;by_cases aW:j+pl<3
     ·have d3:decide ((j:Int)<3-(pl:Int))=true:=ac an;have f:=λW=>aaM v2 0 W q.A.1 an;obtain⟨v3,uA⟩:=aP (min (v2*10+0) 9007199254740993);rw[uA] at f;have D8:=E (show(0<=v3/\v3<=9007199254740993)/\(a=S0->v3=0) from⟨ai q.A.1,λh=>by have:=q.A.2 h;omega⟩);clear uA;go_wp2_with fail;refine(f _).ah ?_;rintro e o⟨rfl,rfl⟩;clear f;go_wp2;go_roundw;case rel=>exact⟨v3,j+1,rfl,by go_num,an,by first|rfl|trivial,D8⟩
      case measure=>exact aA
     ·have d3:decide ((j:Int)<3-(pl:Int))=false:=aa an;have t:=λW=>Fl v2 W;cases Z:j6 v2 with
      |false=>
       rw[Z] at t;have HN:=E (show a≠S0 fromλh=>by rw[q.A.2 h] at Z;exact ae Z aq);clear Z;go_wp2_with fail;refine(t _).ah ?_;rintro e o⟨rfl,rfl⟩;go_wp2;go_ret2;exact⟨⟨0,2,rfl,E ⟨λh=>ae h aq,λh=>ae (o4.A h).1 HN.A⟩⟩,HB.A _⟩
      |true=>
       rw[Z] at t;have F:=E (show-9007199254740992<=v2/\v2<=9007199254740992 by simpa[j6] using Z);have wn:I.wrap (-v2)=-v2:=by have:=F.A;rw[b7];omega
       clear Z;cases aC with
       |false=>
        go_wp2_with fail;refine(t _).ah ?_;rintro e o⟨rfl,rfl⟩;go_wp2;go_ret2;exact⟨⟨v2,0,rfl,E ⟨λ_=>by have:=F.A;simp[j6];omega,λh=>⟨q.A.2 (o4.A h).1,by first|rfl|trivial⟩⟩⟩,HB.A _⟩
       |true=>
        have HN:=E (show s≠S0 fromλh=>by have:=(o4.A h).2;cases this);go_wp2_with fail;refine(t _).ah ?_;rintro e o⟨rfl,rfl⟩;go_wp2;go_ret2;exact⟨⟨-v2,0,rfl,E ⟨λ_=>by have:=F.A;simp[j6];omega,λh=>ae h HN.A⟩⟩,HB.A _⟩
def Sg {c:Nat} (i:Nat) (b:ByteArray) (h:Rw kM w B ao l.length l) (hB:aF w wr) (g:l.length<=c/\c<=9223372036854775807):aN aH 276 #[O ao l.length c,J I i,ap b] wr λe w'=>e=aQ (aG (cA l i 4 b))/\w'=wr:=by
 have y:=g.1;by_cases d:i<l.length
 ·have a:=E (show cA l i 4 b=(decide (l[i].k=4)&&decide (l[i].s=b)) by rw[pJ,s6 d,qx d]);generalize cA l i 4 b=r at a⊢;obtain⟨u,off,rfl,v,p,q1,q2,o⟩:=h.tk hB.aC d;obtain⟨K,m⟩:=aP (l[i].k);obtain⟨S,j⟩:=aP (l[i].s);rw[m,j] at a;simp only[m] at p;simp only[j] at q2;have d1:decide ((i:Int)<(l.length:Int))=true:=ac an;have q:decide (i<l.length)=true:=ac d;clear m j q1 o h g hB;go_enter func276,ntmps276;by_cases f:K=4
  ·subst f;by_cases hs:S=b
   ·subst hs;go_wp2;go_ret;exact⟨cc (by rw[a.A];simp),rfl⟩
   ·have t:(S.toList==b.toList)=false:=by rw[j9];simpa using hs
    have n:=E (show r=false by rw[a.A];simp[hs]);clear hs a;go_wp2;go_ret;exact⟨cc n.A.symm,rfl⟩
  ·have n:=E (show r=false by rw[a.A];simp[f]);have t:(K==4)=false:=am f;clear a;go_wp2;go_ret;exact⟨cc n.A.symm,rfl⟩
 ·have a:=E (show cA l i 4 b=false by rw[pJ,F3 d];rfl);have d1:decide ((i:Int)<(l.length:Int))=false:=aa an;have q:decide (i<l.length)=false:=aa d;clear h hB g;go_enter func276,ntmps276;go_wp2;go_ret;exact⟨cc a.A.symm,rfl⟩
def Sh {c:Nat} (i:Nat) (wr:aB):aN aH 278 #[O ao n c,J I i] wr λe w'=>(∃k:Int,e=aQ (J I k)/\a6 (k≠0))/\w'=wr:=by
 go_enter func278,ntmps278;go_wp2;all_goals go_ret
 all_goals exact⟨⟨_,rfl,E aq⟩,rfl⟩
variable {j:Nat} {u:aE}
noncomputable def l4 (l:List Tok) (i:Nat):Bool:=eT l i 1&&db (eu l i)&&cA l (i+1) 4 ⟨#[61,61]⟩&&eT l (i+2) 2&&decide (eu l (i+2)=S0)
structure XPo (w w':aB) (i:Nat) (l:List Tok) (v:aE) (x:wV) (k:Int) (j:Nat):Prop where
 val:vO w' 0 v x
 le:j<=l.length
 Sd:k=0->rq x=true
 ex:l4 l i=true->x=⟨⟨eu l i,[]⟩,5,0⟩/\k=0/\j=i+3
def Gg (w:aB) (B:Nat):vO w B (aY #[ap ⟨#[]⟩,O M 0 0,J I 0,J I 0]) ⟨⟨⟨#[]⟩,[]⟩,0,0⟩:=⟨_,rfl,aq,Vs.bh _ _ _⟩
def xB (Z:g<w.heap.size) (u0 u1 u2 u3:aE):w.grownBy ((((w.setCell (ab g 0 M) u0).setCell (ab g 1 M) u1).setCell (ab g 2 M) u2).setCell (ab g 3 M) u3) (ad g):=bB (rJ Z u0 u1) (bB (bX aqg u2) (bX aqg u3))
def akk {a b:ByteArray} (h:cA l i 4 a=true) (c:a≠b):cA l i 4 b=false:=by
 rw[pJ,b9,decide_eq_true_eq] at h;rw[pJ,Bool.and_eq_false_iff];right;rw[h.2];simpa using c
def akl {b:ByteArray} (h:eT l i 1=true):cA l i 4 b=false:=by
 have a:=kZ h;rw[s6 a,decide_eq_true_eq] at h;rw[pJ,s6 a,h];rfl
def td {k:Int} {s:ByteArray} (h:cA l i k s=true):i<l.length:=by
 rw[pJ,b9] at h;exact kZ h.1
structure D9 (l:List Tok) (j k:Nat) (o:Int):Prop where
 ok:o=0\/rp o=true
 lt:o≠0->j<l.length
 ex:cA l j 4 ⟨#[61,61]⟩=true->(k<=5->o=0)/\(5<k->o=5)
def D9.none_ {o:Int} {b:ByteArray} (h:D9 l j k o) (hs:uw[k]?=ad (ap b)) (hn:(rp k&&cA l j 4 b)=false):D9 l j (k+1) o:=by
 refine⟨h.ok,h.lt,λa=>⟨λc=>(h.ex a).1 an,λc=>?_⟩⟩;rcases gy 5 k with h6|h6
 ·exact(h.ex a).2 h6
 ·obtain rfl:k=5:=by omega
  simp[uw] at hs;subst hs;rw[a] at hn;simp[rp] at hn
def D9.some_ {o:Int} {a:ByteArray} (h:D9 l j k o) (hs:uw[k]?=ad (ap a)) (Z:rp k=true) (hn:cA l j 4 a=true):D9 l j (k+1) k:=by
 refine⟨.inr Z,λ_=>td hn,λb=>?_⟩;have d:k<=6:=by
  rw[rp,b9,decide_eq_true_eq,decide_eq_true_eq] at Z;omega
 have:k=5:=by
  have c:a=⟨#[61,61]⟩:=by
   rw[pJ,b9,decide_eq_true_eq] at b hn;rw[<-hn.2,b.2]
  subst c;rcases k with _|_|_|_|_|_|_|k<;>first|rfl|(simp[uw] at hs;done)|omega
 subst this;exact⟨λh=>by omega,λ_=>rfl⟩
def akm (k:Nat) (b:k<7):∃a:ByteArray,uw[k]?=ad (ap a)/\∀W,(mX 329 (.agg uw) (J I k)).run aH W= .ok (ap a) W:=by
 rcases k with _|_|_|_|_|_|_|k<;>first|exact⟨_,rfl,λW=>by kernel_rfl⟩|omega
structure xC (w wr:aB):Prop where
 b:aF w wr
 x:aI wr w.heap.size 48 #[ap ⟨#[]⟩,O M 0 0,J I 0,J I 0]
def xC.al (h:xC w wr) (Z:aS wr.heap.size wr w'):xC w w':=⟨h.b.trans (aF.of Z),h.x.al Z h.x.lt⟩
def xC.rel (h:xC w wr) (Z:aF wr w'):xC w w':=h.al Z.aC
structure qz (w0 w wr:aB) (g:Nat) (s:iZ) (u:aE) (o v:Int):Prop where
 c:xC w wr
 hg:w.heap.size<g
 y:aI wr g 48 #[ap s.n,u,J I o,J I v]
 h0:w0.heap.size<=w.heap.size
 sv:qi wr 0 (aY #[ap s.n,u]) s
def qz.al {s:iZ} {o v:Int} (h:qz w0 w wr g s u o v) (Z:aS wr.heap.size wr w'):qz w0 w w' g s u o v:=⟨h.c.al Z,h.hg,h.y.al Z h.y.lt,h.h0,h.sv.al Z⟩
def qz.setCell {s:iZ} {o v:Int} (h:qz w0 w wr g s u o v) (i:Nat) (a:aE):xC w (wr.setCell (ab g i M) a)/\qi (wr.setCell (ab g i M) a) 0 (aY #[ap s.n,u]) s:=⟨⟨h.c.b.setCell (p:=(ab g i M)) (Nat.le_of_lt h.hg) a,h.c.x.bT (by have:=h.hg;show w.heap.size≠g;omega) a⟩,h.sv.keep (((Kt.refl w0.heap.size [48] wr).setCell (o:=i) (a8 h.h0 (Nat.le_of_lt h.hg)) (bp.bO h.y) (bD.2 rfl) a).dJ (bV _)) aq aq⟩
def qz.op {s:iZ} {o v:Int} (h:qz w0 w wr g s u o v) (o':Int):qz w0 w (wr.setCell (ab g 2 M) (J I o')) g s u o' v:=⟨(h.setCell 2 _).1,h.hg,h.y.put 2 _,h.h0,(h.setCell 2 _).2⟩
def qz.val {s:iZ} {o v:Int} (h:qz w0 w wr g s u o v) (a:Int):qz w0 w (wr.setCell (ab g 3 M) (J I a)) g s u o a:=⟨(h.setCell 3 _).1,h.hg,h.y.put 3 _,h.h0,(h.setCell 3 _).2⟩
def qz.akn {s:iZ} {o v:Int} (h:qz w0 w wr g s u o v):vO wr 0 (aY #[ap s.n,u,J I o,J I v]) ⟨s,o,v⟩:=by
 obtain⟨u',e,hn,a⟩:=h.sv.A;obtain rfl:u=u':=am e;exact⟨u,rfl,hn,a⟩
def vO.keep {x:wV} (h:vO w B v x) (b:Kt B S w w') (c:jG.e∉S) (h2:∀t∈jG.bI,t∉S):vO w' B v x:=by
 obtain⟨u,e,hn,a⟩:=h.A;exact⟨u,e,hn,a.keep b c h2⟩
theorem aaQ (h:P:=by
 go_wp2_with (simp only[aaR,cj3]);go_wp2_with fail;refine(Sh _ _).ah ?_;rintro e wz⟨⟨k,rfl,HK⟩,rfl⟩;have ed:=E HX.A.c;have⟨z0,f0⟩:=ed.A.x.cf;have HP:=E (ed.A.x.mO (ap ⟨#[]⟩) (O M 0 0) (J I 0) (J I 0));have ch:=E (xB ed.A.x.lt (ap ⟨#[]⟩) (O M 0 0) (J I 0) (J I 0));have gX:=E (ed.A.b.cD ch.A (aO _));go_wp2;have k0:=HP.A.cell;refine bF (v:=bn #[aY #[(ap ⟨#[]⟩),(O M 0 0),(J I 0),(J I 0)],J I j3,J I k]) aqp rfl ⟨⟨_,⟨⟨⟨#[]⟩,[]⟩,0,0⟩,k,j3,rfl,⟨Gg _ _,xD.A.1,λh=>ae h HK.A,λhx=>(qj.A hx).elim⟩⟩,gX.A⟩;):P:=h
def ako {c:Nat} (kq:aF w0 w) (h:Rw kM w0 B ao l.length l) (hc:l.length<=c/\c<=9223372036854775807) (hi:i<=l.length) (hG:eK w) (D:∀t∈l,t.s.size<=1000000):aN aH 254 #[O ao l.length c,J I i] w λe w'=>(∃(v:aE) (x:wV) (k:Int) (j:Nat),e=aQ (bn #[v,J I j,J I k])/\XPo w0 w' i l v x k j)/\aF w w':=by
 have Y:=E h;have r:=E kq;have HC:=E hc;have cY:=E hG;have gZ:=E D;have HL:=E hi;have n:=E (show xC w (w.alloc (aD #[ap ⟨#[]⟩,O M 0 0,J I 0,J I 0] 48)) from⟨(aF.refl w).alloc _,aI.new w 48 #[ap ⟨#[]⟩,O M 0 0,J I 0,J I 0]⟩);have Se:¬((i:Int)<0):=an;have cK:l.length<=9223372036854775807:=a8 hc.1 hc.2;clear h hc hG D hi kq;go_enter func254,ntmps254;go_wp2;go_loop [1,7] (λX rM=>∃j o:Nat,X=J I j/\rM=J I o/\o<=32/\j<=l.length/\a6 (l4 l i=true->j=i/\o=0)) (λX _=>l.length-(intOf X).toNat);case atStart=>exact⟨i,0,rfl,rfl,an,HL.A,E λ_=>⟨rfl,rfl⟩⟩
 case round=>
  obtain⟨j,o,rfl,rfl,ho,hj,H⟩:=hrel;have a:=Sg j ⟨#[40]⟩ Y.A (r.A.trans n.A.b) HC.A;cases f:cA l j 4 ⟨#[40]⟩ with
  |true=>
   rw[f] at a;have lh:=td f;have HN:=E (show l4 l i=true->False fromλhx=>by
    obtain⟨rfl,_⟩:=H.A hx;unfold l4 at hx;simp only[b9] at hx;rw[akl hx.1.1.1.1] at f;cases f)
   clear f;go_wp2_with fail;refine a.ah ?_;rintro e wz⟨rfl,Si⟩;replace n:a6 (xC w wz):=by rw[Si];exact n
   have xE:=E Si;clear a Si;by_cases DH:o=32
   ·subst DH;have Sj:=E hj;clear H lh;have ed:=E n.A;have⟨z0,f0⟩:=ed.A.x.cf;have HP:=E (ed.A.x.mO (ap ⟨#[]⟩) (O M 0 0) (J I 0) (J I 0));have ch:=E (xB ed.A.x.lt (ap ⟨#[]⟩) (O M 0 0) (J I 0) (J I 0));have gX:=E (ed.A.b.cD ch.A (aO _));go_wp2;have k0:=HP.A.cell;refine bF (v:=bn #[aY #[(ap ⟨#[]⟩),(O M 0 0),(J I 0),(J I 0)],J I j,J I 8]) aqp rfl ⟨⟨_,⟨⟨⟨#[]⟩,[]⟩,0,0⟩,8,j,rfl,⟨Gg _ _,Sj.A,λh=>ae h aq,λhx=>(HN.A hx).elim⟩⟩,gX.A⟩
   ·have qb:((o:Int)==32)=false:=by simp;omega
    have w1:I.wrap ((o:Int)+1)=(o:Int)+1:=ay;have w2:I.wrap ((j:Int)+1)=(j:Int)+1:=ay;have aJ:=xE.A;clear xE;subst aJ;go_wp2;go_round;case rel=>exact⟨j+1,o+1,by go_num,by go_num,an,an,E λhx=>(HN.A hx).elim⟩
    case measure=>exact aA
  |false=>
   rw[f] at a;clear f;go_wp2_with fail;refine a.ah ?_;rintro e wz⟨rfl,rfl⟩;clear a;have ny:=E (iC ho hj);go_wp2_with fail;refine(aj9 (r.A.trans n.A.b) Y.A HC.A ny.A.2).ah ?_;rintro e wz⟨⟨v,s,k,d,rfl,U⟩,Z⟩;obtain⟨u,rfl,hn,hu⟩:=U.val.A;obtain⟨A0,c0,rfl,_⟩:=hu.be;replace n:=E (n.A.rel Z);have iq:=E U;have N:=E (show l4 l i=true->d=i+1/\s=⟨eu l i,[]⟩/\o=0/\k=0 fromλhx=>by
    obtain⟨rfl,Mz⟩:=H.A hx;unfold l4 at hx;simp only[b9] at hx;obtain⟨m,h2,h3⟩:=U.ex (by rw[b9];exact hx.1.1.1) (akk hx.1.1.2 aq);exact⟨h3,m,Mz,h2⟩)
   have Nf:=E U.le;clear Z U hn hu hj ho H;have rP:=E (n.A.al ((bk _ _).alloc (aO _) (aD #[ap s.n,O A0 s.aU.length c0] 46)));by_cases hk:k=0;case neg=>
    have jv:(k !=0)=true:=aqk;have HK:=E hk;clear hk;have ed:=E rP.A;have⟨z0,f0⟩:=ed.A.x.cf;have HP:=E (ed.A.x.mO (ap ⟨#[]⟩) (O M 0 0) (J I 0) (J I 0));have ch:=E (xB ed.A.x.lt (ap ⟨#[]⟩) (O M 0 0) (J I 0) (J I 0));have gX:=E (ed.A.b.cD ch.A (aO _));go_wp2;have k0:=HP.A.cell;refine bF (v:=bn #[aY #[(ap ⟨#[]⟩),(O M 0 0),(J I 0),(J I 0)],J I d,J I k]) aqp rfl ⟨⟨_,⟨⟨⟨#[]⟩,[]⟩,0,0⟩,k,d,rfl,⟨Gg _ _,Nf.A,λh=>ae h HK.A,λhx=>ae (N.A hx).2.2.2 HK.A⟩⟩,gX.A⟩
   subst hk;have ca:=aI.new wz 46 #[ap s.n,O A0 s.aU.length c0];have x0:=ca.cell;clear ca;have HX:=E (show qz w0 w ((wz.alloc (aD #[ap s.n,O A0 s.aU.length c0] 46)).alloc (aD #[ap s.n,O A0 s.aU.length c0,J I 0,J I 0] 48)) (wz.heap.size+1) s (O A0 s.aU.length c0) 0 0 from⟨rP.A.al ((bk _ _).alloc (aO _) _),ai n.A.b.size,by have:=aI.new (wz.alloc (aD #[ap s.n,O A0 s.aU.length c0] 46)) 48 #[ap s.n,O A0 s.aU.length c0,J I 0,J I 0];simpa using this,r.A.size,(iq.A.val.al ((bk _ _).alloc (aO _) _)).al ((bk _ _).alloc (aO _) _)⟩);have p:=cY.A.rel HX.A.c.b;have u0:=p.sign 0;have u1:=p.sign 1;have u2:=p.sign 2;have u3:=p.sign 3;have u4:=p.sign 4;have u5:=p.sign 5;have u6:=p.sign 6;simp[uw] at u0 u1 u2 u3 u4 u5 u6;clear p rP;go_wp2;clear u0 u1 u2 u3 u4 u5 u6 x0;go_loopw [42] (λSk wr=>∃(k:Nat) (b:Int),Sk=J I k/\k<=7/\a6 (qz w0 w wr (wz.heap.size+1) s (O A0 s.aU.length c0) b 0)/\a6 (D9 l d k b)) (λSk _=>7-(intOf Sk).toNat);case atStart=>exact⟨0,0,rfl,an,HX,E ⟨.inl rfl,λh=>ae rfl h,λ_=>⟨λ_=>rfl,λh=>by omega⟩⟩⟩
   case round=>
    clear HX;obtain⟨k,b,rfl,vX,HX,G⟩:=hrel;have y2:=HX.A.y.cell 2;have g2:=HX.A.y.frozen 2;by_cases hk:k<7
    ·obtain⟨sg,Ea,fL⟩:=akm k hk;unfold uw at fL;have a9:decide ((k:Int)<7)=true:=ac an;have bc:I.wrap ((k:Int)+1)=(k:Int)+1:=ay;have z:=Z3 (k:Int) wr;have og:=E Ea;clear Ea;cases Z:rp k with
     |false=>
      rw[Z] at z;have V:=E (G.A.none_ og.A (by rw[Z];rfl));clear Z;go_wp2_with fail;refine z.ah ?_;rintro e L⟨rfl,rfl⟩;clear z;go_wp2;go_roundw;case rel=>exact⟨k+1,b,by go_num,an,HX,V⟩
      case measure=>exact aA
     |true=>
      rw[Z] at z;have bg:=E Z;have a:=Sg d sg Y.A (r.A.trans HX.A.c.b) HC.A;cases hs:cA l d 4 sg with
      |false=>
       rw[hs] at a;have V:=E (G.A.none_ og.A (by rw[hs];cases rp (k:Int)<;>rfl));clear Z hs;go_wp2_with fail;refine z.ah ?_;rintro e L⟨rfl,rfl⟩;clear z;go_wp2_with fail;refine a.ah ?_;rintro e L⟨rfl,rfl⟩;clear a;go_wp2;go_roundw;case rel=>exact⟨k+1,b,by go_num,an,HX,V⟩
       case measure=>exact aA
      |true=>
       rw[hs] at a;have V:=E (G.A.some_ og.A Z hs);have cL:=E (HX.A.op (k:Int));clear Z hs;go_wp2_with fail;refine z.ah ?_;rintro e L⟨rfl,rfl⟩;clear z;go_wp2_with fail;refine a.ah ?_;rintro e L⟨rfl,rfl⟩;clear a;go_wp2;go_roundw;case rel=>exact⟨k+1,(k:Int),by go_num,an,cL,V⟩
       case measure=>exact aA
    ·obtain rfl:k=7:=by omega
     have Sj:=E (show d<=l.length from Nf.A);have gH:=E (show l4 l i=true->b=5 fromλhx=>by
      obtain⟨rfl,_⟩:=N.A hx;unfold l4 at hx;simp only[b9] at hx;exact(G.A.ex hx.1.1.2).2 an)
     have dv:=E (iC G.A.ok G.A.lt);clear G;by_cases Q:b=0
     ·subst Q;have qj:=E (show l4 l i=true->False fromλhx=>ae (gH.A hx) aq);have Gh:=E vX;clear hk vX g2;go_wp2_with fail;refine(Sh _ _).ah ?_;rintro e wz⟨⟨k,rfl,HK⟩,rfl⟩;have ed:=E HX.A.c;have⟨z0,f0⟩:=ed.A.x.cf;have HP:=E (ed.A.x.mO (ap ⟨#[]⟩) (O M 0 0) (J I 0) (J I 0));have ch:=E (xB ed.A.x.lt (ap ⟨#[]⟩) (O M 0 0) (J I 0) (J I 0));have gX:=E (ed.A.b.cD ch.A (aO _));go_wp2;have k0:=HP.A.cell;refine bF (v:=bn #[aY #[(ap ⟨#[]⟩),(O M 0 0),(J I 0),(J I 0)],J I d,J I k]) aqp rfl ⟨⟨_,⟨⟨⟨#[]⟩,[]⟩,0,0⟩,k,d,rfl,⟨Gg _ _,Sj.A,λh=>ae h HK.A,λhx=>(qj.A hx).elim⟩⟩,gX.A⟩
     have a5:(b==0)=false:=by simp;exact Q
     have a2:=E (show rp b=true/\b≠0 from⟨dv.A.1.resolve_left Q,Q⟩);have Bz:=dv.A.2 Q;have aaR:I.wrap ((d:Int)+1)=(d:Int)+1:=ay;clear Q dv hk vX g2;obtain⟨j3,BK⟩:=aP (d+1);have cj3:(d:Int)+1=(j3:Int):=an;have xD:=E (show j3<=l.length/\j3=d+1 from⟨an,BK.symm⟩);have a3:I.wrap (j3:Int)=(j3:Int):=ay;clear Bz BK;by_cases F:j3<l.length;case neg=>
      have d4:decide ((l.length:Int)<=(j3:Int))=true:=ac an;have W:decide (l.length<=j3)=true:=ac an;have qj:=E (show l4 l i=true->False fromλhx=>by
       obtain⟨e2,_⟩:=N.A hx;have e3:=xD.A.2;unfold l4 at hx;simp only[b9] at hx;have:=kZ hx.1.2;omega)
      clear F;exact aaQ
     obtain⟨gq,off,hA,eb,q0,q1,q2,q3⟩:=Y.A.tk (r.A.trans HX.A.c.b).aC F;subst hA;obtain⟨K,hK⟩:=aP (l[j3].k);obtain⟨T,D⟩:=aP (l[j3].s);have HK:=E (show eT l j3 2=decide (K=2)/\eu l j3=T/\T.size<=1000000 from⟨by rw[s6 F,hK],by rw[qx F,D],by rw[<-D];exact gZ.A _ (dl _)⟩);simp only[hK] at q0;simp only[D] at q2;have d4:decide ((l.length:Int)<=(j3:Int))=false:=aa an;have W:decide (l.length<=j3)=false:=aa an;have aR:=E F;clear q1 q3 hK D;by_cases eV:K=2;case neg=>
      have d5:(K !=2)=true:=by simp;exact eV
      have qj:=E (show l4 l i=true->False fromλhx=>by
       obtain⟨e2,_⟩:=N.A hx;have e3:=xD.A.2;unfold l4 at hx;simp only[b9] at hx;have m:=hx.1.2;rw[show i+2=j3 by omega,HK.A.1,decide_eq_true_eq] at m;exact eV m)
      clear eV;exact aaQ
     subst eV;have a4:I.wrap ((j3:Int)+1)=(j3:Int)+1:=ay;have S:=akh T wr HK.A.2.2;go_wp2_with (simp only[aaR,cj3]);refine S.ah ?_;rintro e L⟨⟨y,k,rfl,R⟩,Z⟩;replace HX:=E (HX.A.al Z.aC);have y3:=HX.A.y.cell 3;have g3:=HX.A.y.frozen 3;have C:=E (HX.A.val y);obtain⟨W3,xF⟩:=aP (L.setCell ⟨wz.heap.size+1,3,M⟩ (J I y));rw[xF] at C;have uB:=E R.A;clear S Z R q0 q2 d4 W F HX y2;by_cases hk:k=0;case neg=>
      have jv:(k !=0)=true:=aqk;have BW:=E hk;have qj:=E (show l4 l i=true->False fromλhx=>by
       obtain⟨e2,_⟩:=N.A hx;have e3:=xD.A.2;unfold l4 at hx;simp only[b9] at hx;have m:=hx.2;rw[show i+2=j3 by omega,HK.A.2.1,decide_eq_true_eq] at m;exact hk (uB.A.2 m).2)
      clear hk;subst xF;have ed:=E C.A.c;have⟨z0,f0⟩:=ed.A.x.cf;have HP:=E (ed.A.x.mO (ap ⟨#[]⟩) (O M 0 0) (J I 0) (J I 0));have ch:=E (xB ed.A.x.lt (ap ⟨#[]⟩) (O M 0 0) (J I 0) (J I 0));have gX:=E (ed.A.b.cD ch.A (aO _));go_wp2;have k0:=HP.A.cell;refine bF (v:=bn #[aY #[(ap ⟨#[]⟩),(O M 0 0),(J I 0),(J I 0)],J I j3,J I k]) aqp rfl ⟨⟨_,⟨⟨⟨#[]⟩,[]⟩,0,0⟩,k,j3,rfl,⟨Gg _ _,xD.A.1,λh=>ae h BW.A,λhx=>(qj.A hx).elim⟩⟩,gX.A⟩
     subst hk;have jS:=E (uB.A.1 rfl);have Gi:=E (show l4 l i=true->y=0/\o=0/\j3+1=i+3/\b=5/\s=⟨eu l i,[]⟩ fromλhx=>by
      obtain⟨e2,iX,gQ,_⟩:=N.A hx;have fT:=gH.A hx;have e3:=xD.A.2;unfold l4 at hx;simp only[b9] at hx;have m:=hx.2;rw[show i+2=j3 by omega,HK.A.2.1,decide_eq_true_eq] at m;exact⟨(uB.A.2 m).1,gQ,an,fT,iX⟩)
     have F:=aR.A;have bd:=ny.A.1;clear uB;go_wp2_with (simp only[xF]);clear y3 g3;go_loop [1,102] (λX Sp=>∃j q:Nat,X=J I j/\Sp=J I q/\q<=o/\j<=l.length/\a6 (l4 l i=true->j=i+3)) (λ_ Sp=>o-(intOf Sp).toNat);case atStart=>exact⟨j3+1,0,by go_num,rfl,an,an,E λhx=>(Gi.A hx).2.2.1⟩
     case round=>
      obtain⟨j,q,rfl,rfl,hq,hj,H⟩:=hrel;by_cases Sq:q<o
      ·have a:=Sg j ⟨#[41]⟩ Y.A (r.A.trans C.A.c.b) HC.A;have qj:=E (show l4 l i=true->False fromλhx=>by have:=(Gi.A hx).2.1;omega);have d6:decide ((q:Int)<(o:Int))=true:=ac an;have aW:decide (q<o)=true:=ac Sq;cases f:cA l j 4 ⟨#[41]⟩ with
       |true=>
        rw[f] at a;have lh:=td f;have w1:I.wrap ((q:Int)+1)=(q:Int)+1:=ay;have w2:I.wrap ((j:Int)+1)=(j:Int)+1:=ay;clear f;go_wp2_with fail;refine a.ah ?_;rintro e w5⟨rfl,rfl⟩;clear a;go_wp2;go_round;case rel=>exact⟨j+1,q+1,by go_num,by go_num,an,an,E λhx=>(qj.A hx).elim⟩
        case measure=>exact aA
       |false=>
        rw[f] at a;have Gh:=E hj;clear f hj H;go_wp2_with fail;refine a.ah ?_;rintro e w5⟨rfl,rfl⟩;clear a;go_wp2_with fail;refine(Sh _ _).ah ?_;rintro e wz⟨⟨k,rfl,HK⟩,rfl⟩;have ed:=E C.A.c;have⟨z0,f0⟩:=ed.A.x.cf;have HP:=E (ed.A.x.mO (ap ⟨#[]⟩) (O M 0 0) (J I 0) (J I 0));have ch:=E (xB ed.A.x.lt (ap ⟨#[]⟩) (O M 0 0) (J I 0) (J I 0));have gX:=E (ed.A.b.cD ch.A (aO _));go_wp2;have k0:=HP.A.cell;refine bF (v:=bn #[aY #[(ap ⟨#[]⟩),(O M 0 0),(J I 0),(J I 0)],J I j,J I k]) aqp rfl ⟨⟨_,⟨⟨⟨#[]⟩,[]⟩,0,0⟩,k,j,rfl,⟨Gg _ _,Gh.A,λh=>ae h HK.A,λhx=>(qj.A hx).elim⟩⟩,gX.A⟩
      ·have d6:decide ((q:Int)<(o:Int))=false:=aa an;have aW:decide (q<o)=false:=aa Sq;have Gh:=E hj;have v0:=C.A.y.cell;clear hj hq Sq;have ed:=E C.A.c;have⟨z0,f0⟩:=ed.A.x.cf;have HP:=E (ed.A.x.mO (ap s.n) (O A0 s.aU.length c0) (J I b) (J I y));have ch:=E (xB ed.A.x.lt (ap s.n) (O A0 s.aU.length c0) (J I b) (J I y));have gX:=E (ed.A.b.cD ch.A (aO _));have j8:=(Kt.refl w0.heap.size [48] _).grown ch.A (a8 r.A.size ed.A.b.size) (λg e=>by cases e;exact⟨r.A.size,bp.bO ed.A.x⟩) (bD.2 rfl);have ic:=E (C.A.akn.keep (j8.dJ (bV _)) aq aq);have cj:=E (show rq ⟨s,b,y⟩=true by
        unfold rq;rw[b9,b9];exact⟨⟨iq.A.Sd rfl,a2.A.1⟩,jS.A⟩)
       clear j8;go_wp2;have k0:=HP.A.cell;refine bF (v:=bn #[aY #[(ap s.n),(O A0 s.aU.length c0),(J I b),(J I y)],J I j,J I 0]) aqp rfl ⟨⟨_,⟨s,b,y⟩,0,j,rfl,⟨ic.A,Gh.A,λ_=>cj.A,λhx=>⟨by obtain⟨e1,e2,e3,iX,gQ⟩:=Gi.A hx;rw[e1,iX,gQ],rfl,H.A hx⟩⟩⟩,gX.A⟩
variable {R:cv}
structure dk (w0 w:aB) (B b c i:Nat) (ao:Option aX) (l:List Tok) (R:cv) (m q:Option aX×Nat):Prop where
 b0:aF w0 w
 Z:w0.heap.size<=b
 tk:Rw kM w0 B ao l.length l
 box:aI w b 326 #[O ao l.length c,J I i,ap R.n,ap R.x.s.n,O m.1 R.x.s.aU.length m.2,J I R.x.op,J I R.x.v,J I R.wait,J I R.keep,O q.1 R.L.length q.2]
 lc:l.length<=c/\c<=9223372036854775807
 le:i<=l.length
 hn:R.n.size<=9223372036854775807
 hs:R.x.s.n.size<=9223372036854775807
 xG:Vs jG w 0 (O m.1 R.x.s.aU.length m.2) R.x.s.aU
 oh:Vs bE w 0 (O q.1 R.L.length q.2) R.L
section
variable {w0 w w':aB} {B b c i:Nat} {ao:Option aX} {l:List Tok} {R:cv} {m q:Option aX×Nat}
def dk.al (h:dk w0 w B b c i ao l R m q) (Z:aS w.heap.size w w'):dk w0 w' B b c i ao l R m q:=⟨h.b0.trans (aF.of Z),h.Z,h.tk,h.box.al Z h.box.lt,h.lc,h.le,h.hn,h.hs,h.xG.al Z,h.oh.al Z⟩
def dk.kt (h:dk w0 w B b c i ao l R m q) (o:Nat) (u:aE):Kt w0.heap.size [326] w (w.setCell (ab b o M) u):=(Kt.refl _ _ w).setCell (o:=o) h.Z (bp.bO h.box) (bD.2 rfl) u
def dk.Gj (h:dk w0 w B b c i ao l R m q) (hg:w.grownBy w' (ad b)):Kt w0.heap.size [326] w w':=(Kt.refl _ _ w).grown hg h.b0.size (λg e=>by cases e;exact⟨h.Z,bp.bO h.box⟩) (bD.2 rfl)
def dk.own (h:dk w0 w B b c i ao l R m q) (hg:w.grownBy w' (ad g)) (h0:w0.heap.size<=g) (e:b≠g) (a:Kt w0.heap.size S w w') (d:jG.e∉S/\bE.e∉S) (h2:(∀t∈jG.bI,t∉S)/\∀t∈bE.bI,t∉S):dk w0 w' B b c i ao l R m q:=⟨h.b0.cD hg h0,h.Z,h.tk,h.box.gr hg e,h.lc,h.le,h.hn,h.hs,h.xG.keep (a.dJ (bV _)) d.1 h2.1,h.oh.keep (a.dJ (bV _)) d.2 h2.2⟩
def dk.step (h:dk w0 w B b c i ao l R m q) {j:Nat} (hj:j<=l.length):dk w0 (w.setCell (ab b 1 M) (J I j)) B b c j ao l R m q:=⟨h.b0.setCell h.Z _,h.Z,h.tk,h.box.put 1 _,h.lc,hj,h.hn,h.hs,h.xG.keep ((h.kt 1 _).dJ (bV _)) aq aq,h.oh.keep ((h.kt 1 _).dJ (bV _)) aq aq⟩
def dk.nm (h:dk w0 w B b c i ao l R m q) {n:ByteArray} (hn:n.size<=9223372036854775807):dk w0 (w.setCell (ab b 2 M) (ap n)) B b c i ao l {R with n:=n} m q:=⟨h.b0.setCell h.Z _,h.Z,h.tk,h.box.put 2 _,h.lc,h.le,hn,h.hs,h.xG.keep ((h.kt 2 _).dJ (bV _)) aq aq,h.oh.keep ((h.kt 2 _).dJ (bV _)) aq aq⟩
def dk.wt (h:dk w0 w B b c i ao l R m q) (n:Int):dk w0 (w.setCell (ab b 7 M) (J I n)) B b c i ao l {R with wait:=n} m q:=⟨h.b0.setCell h.Z _,h.Z,h.tk,h.box.put 7 _,h.lc,h.le,h.hn,h.hs,h.xG.keep ((h.kt 7 _).dJ (bV _)) aq aq,h.oh.keep ((h.kt 7 _).dJ (bV _)) aq aq⟩
def dk.MB (h:dk w0 w B b c i ao l R m q) (n:Int):dk w0 (w.setCell (ab b 8 M) (J I n)) B b c i ao l {R with keep:=n} m q:=⟨h.b0.setCell h.Z _,h.Z,h.tk,h.box.put 8 _,h.lc,h.le,h.hn,h.hs,h.xG.keep ((h.kt 8 _).dJ (bV _)) aq aq,h.oh.keep ((h.kt 8 _).dJ (bV _)) aq aq⟩
def dk.lb (h:dk w0 w B b c i ao l R m q) {L:aZ} {q':Option aX×Nat} (a:Vs bE w 0 (O q'.1 L.length q'.2) L):dk w0 (w.setCell (ab b 9 M) (O q'.1 L.length q'.2)) B b c i ao l {R with L:=L} m q':=⟨h.b0.setCell h.Z _,h.Z,h.tk,h.box.put 9 _,h.lc,h.le,h.hn,h.hs,h.xG.keep ((h.kt 9 _).dJ (bV _)) aq aq,a.keep ((h.kt 9 _).dJ (bV _)) aq aq⟩
def dk.rul (h:dk w0 w B b c i ao l R m q):rI w 0 (aY #[ap R.n,ap R.x.s.n,O m.1 R.x.s.aU.length m.2,J I R.x.op,J I R.x.v,J I R.wait,J I R.keep,O q.1 R.L.length q.2]) R:=⟨_,rfl,_,_,rfl,h.hn,h.hs,h.xG,h.oh⟩
end
def Gk {c:Nat} {m q:Option aX×Nat} (k:Int) (h:dk w0 w B b c i ao l R m q):aN aH 252 #[bl (ad (ab b 0 M)),J I k] w λe w'=>e=aQ (aG (eT l i k))/\aS w.heap.size w w':=by
 have g:=E h.b0;have s:=E h.tk;have t:=ba.cells h.box;have v:=h.lc.1;have u:=h.lc.2;by_cases a:i<l.length
 ·have HE:=E (s6 a k);generalize eT l i k=r at HE⊢;obtain⟨x,off,rfl,o,f,q1,q2,j⟩:=s.A.tk g.A.aC a;have x0:=λp:ba w=>p.cell (da o g.A.size) f;obtain⟨K,d⟩:=aP (l[i].k);rw[d] at HE;simp only[d] at x0;have d1:decide ((i:Int)<(l.length:Int))=true:=ac an;have n:decide (i<l.length)=true:=ac a;clear d f q1 q2 j h;go_enter func252,ntmps252;exact Z8
 ·have HE:=E (F3 a k);have d1:decide ((i:Int)<(l.length:Int))=false:=aa an;have n:decide (i<l.length)=false:=aa a;clear h;go_enter func252,ntmps252;exact Z9
def B4 {c:Nat} {m q:Option aX×Nat} (h:dk w0 w B b c i ao l R m q):aN aH 253 #[bl (ad (ab b 0 M))] w λe w'=>(∃k:Int,e=aQ (J I k)/\(k !=0)=true)/\aS w.heap.size w w':=by
 have f:=ba.cells h.box;clear h;by_cases a:l.length<=i
 ·have d1:decide ((l.length:Int)<=(i:Int))=true:=ac an;have d:decide (l.length<=i)=true:=ac a;go_enter func253,ntmps253;exact aaa
 ·have d1:decide ((l.length:Int)<=(i:Int))=false:=aa an;have d:decide (l.length<=i)=false:=aa a;go_enter func253,ntmps253;exact aab
theorem aaS (h:P:=by
 go_enter func275,ntmps275;go_wp2_with fail;refine du (cU 0 19 []) [] ?_;repeat (
  refine S4.step (λKK aJ=>?_);go_simp;first
   |(refine aJ _ ?_;clear aJ KK)
   |(apply lL;refine⟨λ_=>?_,aJ _ ?_⟩;(with_reducible exact aN.seq (C1.A _));clear aJ KK))
 refine S4.nb λwq hq=>?_;refine dP ?_;go_wp2;go_ret;exact⟨cc eD.A.symm,hq⟩;):P:=h
def JG {c:Nat} {m q:Option aX×Nat} (k:Int) (s:ByteArray) (h:dk w0 w B b c i ao l R m q):aN aH 275 #[bl (ad (ab b 0 M)),J I k,ap s] w λe w'=>e=aQ (aG (cA l i k s))/\aS w.heap.size w w':=by
 have C1:=E (λp:ba w=>Gk k (h.al p.aC));have o:=E h.b0;have v:=E h.tk;have y:=ba.cells h.box;have A:=h.lc.1;have z:=h.lc.2;have a:=E (show cA l i k s=_ from pJ);generalize cA l i k s=r at a⊢;cases d:eT l i k with
 |false=>
  rw[d] at C1 a;clear h;go_enter func275,ntmps275;go_wp2_with fail;refine du (cU 0 19 []) [] ?_;repeat (
   refine S4.step (λKK aJ=>?_);go_simp;first
    |(refine aJ _ ?_;clear aJ KK)
    |(apply lL;refine⟨λ_=>?_,aJ _ ?_⟩;(with_reducible exact aN.seq (C1.A _));clear aJ KK))
  refine S4.nb λwq hq=>?_;refine dP ?_;go_wp2;go_ret;exact⟨cc (by rw[a.A];rfl),hq⟩
 |true=>
  rw[d] at C1 a;have t:=kZ d;obtain⟨C,off,rfl,u,n,q1,q2,j⟩:=v.A.tk o.A.aC t;have x2:=λp:ba w=>p.cell (da u o.A.size) q2;rw[qx t] at a;obtain⟨T,g⟩:=aP (l[i].s);rw[g] at a;simp only[g] at x2;by_cases f:T=s
  ·subst f;have eD:=E (show r=true by rw[a.A];simp);clear d g n q1 q2 j h a;exact aaS
  ·have eD:=E (show r=false by rw[a.A];simp[f]);have x:(T.toList==s.toList)=false:=by rw[j9];simpa using f
   have D:(T.toList !=s.toList)=true:=by rw[bne,x];rfl
   clear d g n q1 q2 j h a f;exact aaS
def zD {c:Nat} {m q:Option aX×Nat} (k:Int) (s:ByteArray) (h:dk w0 w B b c i ao l R m q) (d:cA l i k s=false):aN aH 251 #[bl (ad (ab b 0 M)),J I k,ap s] w λe w'=>e=aQ (aG false)/\aS w.heap.size w w':=by
 have a:=JG k s h;rw[d] at a;clear h d;go_enter func251,ntmps251;go_wp2_with fail;refine a.ah ?_;rintro e f⟨rfl,Z⟩;clear a;go_wp2;go_ret;exact⟨rfl,Z⟩
def zE {c:Nat} {m q:Option aX×Nat} (k:Int) (s:ByteArray) (h:dk w0 w B b c i ao l R m q) (d:cA l i k s=true):aN aH 251 #[bl (ad (ab b 0 M)),J I k,ap s] w λe w'=>e=aQ (aG true)/\dk w0 w' B b c (i+1) ao l R m q/\w.grownBy w' (ad b):=by
 have f:=JG k s h;have v:=td d;have u:=a8 h.lc.1 h.lc.2;rw[d] at f;have g:=E h;have r:I.wrap ((i:Int)+1)=(i:Int)+1:=ay;clear h d;go_enter func251,ntmps251;go_wp2_with fail;refine f.ah ?_;rintro e p⟨rfl,Z⟩;have a:=E (g.A.al Z);have n:=E Z;have o:=a.A.box.cell 1;have t:=a.A.box.frozen 1;clear f Z;go_wp2;go_ret;exact⟨rfl,a.A.step (j:=i+1) an,bB (grown_of n.A) (bX a.A.box.lt _)⟩
def aaT {c:Nat} {m q:Option aX×Nat} (o:Nat) (mq:Int->cv) (ho:o=7\/o=8) (X:∀n W j,dk w0 W B b c j ao l R m q->dk w0 (W.setCell (ab b o M) (J I n)) B b c j ao l (mq n) m q) (O:eK w0) (h:dk w0 w B b c i ao l R m q):aN aH 256 #[bl (ad (ab b 0 M)),bl (ad (ab b o M))] w λe w'=>(∃k:Int,e=aQ (J I k)/\a6 ((k≠0->dk w0 w' B b c i ao l R m q)/\(k=0->∃n,gm n=true/\dk w0 w' B b c (i+1) ao l (mq n) m q)))/\w.grownBy w' (ad b):=by
 have d:=E h;have HU:=E X;have cY:=E O;have HO:=E ho;have cK:=a8 h.lc.1 h.lc.2;clear h X O ho;go_enter func256,ntmps256;have g:=Gk 2 d.A;cases hk:eT l i 2 with
 |false=>
  rw[hk] at g;clear hk;go_wp2_with fail;refine g.ah ?_;rintro e y⟨rfl,Z⟩;replace d:=E (d.A.al Z);have H:=E Z;have K:=B4 d.A;clear g Z;go_wp2_with fail;refine K.ah ?_;rintro e wy⟨⟨k,rfl,V⟩,Z⟩;have G:=E (d.A.al Z);have gX:=E (bB (r:=b) (grown_of H.A) (grown_of Z));have F:=E (show k≠0 by simpa using V);clear K Z V;go_wp2;go_ret;exact⟨⟨k,rfl,E ⟨λ_=>G.A,λh=>ae h F.A⟩⟩,gX.A⟩
 |true=>
  rw[hk] at g;have x:=kZ hk;clear hk;obtain⟨S,off,rfl,U,q0,q1,q2,z⟩:=d.A.tk.tk d.A.b0.aC x;obtain⟨T,D⟩:=aP (l[i].s);rw[D] at z;simp only[D] at q2;have JI:=E z;clear q0 q1 z D;go_wp2_with fail;refine g.ah ?_;rintro e y⟨rfl,Z⟩;have t:=(Z.cell (p:=⟨S,off+i*3+2,M⟩) (da U d.A.b0.size)).trans q2;replace d:=E (d.A.al Z);have H:=E Z;have z0:=ba.cells d.A.box;have x2:=λp:ba y=>p.cell (a:=⟨S,off+i*3+2,M⟩) (da U (d.A.b0.size)) t;have Y:=E (λp:ba y=>aaK T p.aL (cY.A.rel (d.A.b0.trans p.r)) JI.A);have u:=E x;clear g Z q2 t;go_wp2_with fail;refine du (cU 0 11 (.c 11::(cU 12 5 []))) [] ?_;refine dY ?_;refine S4.dm ?_;rintro _⟨A,rfl⟩ KK aJ;go_simp;refine(Y.A A).ah ?_;rintro e wd⟨⟨n,k,rfl,HN⟩,Z⟩;have v:=E ((d.A.al A.aC).al Z.aC);have L:=E (bB (r:=b) (grown_of H.A) (bB (grown_of A.aC) (grown_of Z.aC)));refine aJ _ _ Z ?_;clear aJ KK Z z0 x2 Y;refine dY ?_;refine S4.nb λwq C=>?_;refine dP ?_;have f:=E (v.A.al C);have N:=E (bB L.A (grown_of C));clear C v L;by_cases hk:k=0;case neg=>
   have jv:(k !=0)=true:=aqk;have F:=E hk;clear hk;go_wp2;go_ret;exact⟨⟨k,rfl,E ⟨λ_=>f.A,λh=>ae h F.A⟩⟩,N.A⟩
  subst hk;have cM:=E (HU.A n _ _ f.A);have jS:=E (show gm n=true by have:=HN.A.1 rfl;simpa[gm] using this);have x:=u.A;have w1:I.wrap ((i:Int)+1)=(i:Int)+1:=ay;have f1:=f.A.box.frozen 1;have z1:=f.A.box.cell 1;clear x;rcases HO.A with ho|ho;all_goals
   subst ho;have⟨B6,f7⟩:=f.A.box.cf;go_wp2;go_ret;exact⟨⟨0,rfl,E ⟨λh=>ae rfl h,λ_=>⟨n,jS.A,cM.A.step (j:=i+1) u.A⟩⟩⟩,bB (bB N.A (bX f.A.box.lt _)) (bX (by simpa[eB] using f.A.box.lt) _)⟩
variable {B':Nat}
def aaU {α:Type} {D:Kr α} {a:Option aX} {c:Nat} {L:List α} (b:L=[]) (h:Vs D w B (O a L.length c) L):Vs D w' B' (O a L.length c) L:=by
 subst b;obtain⟨ao,n,c',e,_,h2⟩:=h.A;cases e;exact⟨_,_,_,rfl,Rw.bh _ _ _ _,h2⟩
def dk.Ss {c:Nat} {m q:Option aX×Nat} (h:dk w0 w B b c i ao l R m q) (d:R.L=[]) (hg:w.grownBy w' (ad g)) (h0:w0.heap.size<=g) (f:b≠g) (a:Kt w0.heap.size S w w') (e:jG.e∉S) (h2:∀t∈jG.bI,t∉S):dk w0 w' B b c i ao l R m q:=⟨h.b0.cD hg h0,h.Z,h.tk,h.box.gr hg f,h.lc,h.le,h.hn,h.hs,h.xG.keep (a.dJ (bV _)) e h2,aaU d h.oh⟩
structure RPo (w0 w w':aB) (B b c i:Nat) (ao:Option aX) (l:List Tok) (R:cv) (m q:Option aX×Nat) (e:Ending):Prop where
 A:∃(p:ByteArray×ByteArray) (k:Int) (j:Nat),e=aQ (bn #[aY #[ap p.1,ap p.2],J I k])/\(p.1.size<=9223372036854775807/\p.2.size<=9223372036854775807)/\(k=0->i<j)/\dk w0 w' B b c j ao l R m q
 gr:w.grownBy w' (ad b)
theorem aaV (h:P:=by
 rw[hk] at aM;clear hk;go_wp2_with fail;refine(aM).ah ?_;rintro e wz⟨rfl,Z⟩;replace HR:=E (HR.A.al Z);replace HX:=E (HX.A.al Z HX.A.lt);replace HG:=E (bB HG.A (grown_of Z));clear Z;clear aM;have HW:=E (B4 HR.A);go_wp2_with fail;refine HW.A.ah ?_;rintro e wz⟨⟨k,rfl,ci⟩,Z⟩;have HK:=E (show k≠0 by simpa using ci);replace HR:=E (HR.A.al Z);replace HX:=E (HX.A.al Z HX.A.lt);replace HG:=E (bB HG.A (grown_of Z));clear ci Z HW;have⟨z0,f0⟩:=HX.A.cf;have HP:=E (HX.A.s8 (ap ⟨#[]⟩) (ap ⟨#[]⟩));have ch:=E (rJ HX.A.lt (ap ⟨#[]⟩) (ap ⟨#[]⟩));have JJ:=E (((Kt.refl w0.heap.size [78] _).setCell (o:=0) H0.A (bp.bO HX.A) (bD.2 rfl) (ap ⟨#[]⟩)).setCell (o:=1) H0.A (bp.bO (HX.A.put 0 (ap ⟨#[]⟩))) (bD.2 rfl) (ap ⟨#[]⟩));have bi:=E (HR.A.Ss HL.A ch.A H0.A (mW gu.A) JJ.A aq aq);have k4:=E (l3 HG.A ch.A (aO _));go_wp2;have k0:=HP.A.cell;refine bF (v:=bn #[aY #[(ap ⟨#[]⟩),(ap ⟨#[]⟩)],J I k]) aro rfl ⟨⟨(⟨#[]⟩,⟨#[]⟩),k,_,rfl,aq,λh=>ae h HK.A,bi.A⟩,k4.A⟩;):P:=h
def akp {c:Nat} {m q:Option aX×Nat} (L:R.L=[]) (h:dk w0 w B b c i ao l R m q):aN aH 280 #[bl (ad (ab b 0 M))] w λe w'=>RPo w0 w w' B b c i ao l R m q e:=by
 have H0:=E h.b0.size;have gu:=E (show b<w.heap.size from h.box.lt);have HL:=E L;have dM:=E (a8 h.lc.1 h.lc.2);have G:=(bk w.heap.size w).alloc (aO _) (aD #[ap ⟨#[]⟩,ap ⟨#[]⟩] 78);have HR:=E (h.al G);have HG:=E (grown_of (r:=b) G);have HX:=E (aI.new w 78 #[ap ⟨#[]⟩,ap ⟨#[]⟩]);clear h G L;go_enter func280,ntmps280;have aM:=Gk 1 HR.A;cases hk:eT l i 1 with
 |false=>
  exact aaV
 |true=>
  rw[hk] at aM;have d:=kZ hk;clear hk;go_wp2_with fail;refine(aM).ah ?_;rintro e wz⟨rfl,Z⟩;replace HR:=E (HR.A.al Z);replace HX:=E (HX.A.al Z HX.A.lt);replace HG:=E (bB HG.A (grown_of Z));clear Z;clear aM;obtain⟨gq,off,H,F,A,q1,q2,f⟩:=HR.A.tk.tk HR.A.b0.aC d;subst H;have x2:=λp:ba _=>p.cell (da F HR.A.b0.size) q2;have y:=ba.cells HR.A.box;have S:=HR.A.lc.1;have O:=HR.A.lc.2;obtain⟨T,n⟩:=aP (l[i].s);rw[n] at f;simp only[n] at x2;have W:=E f;have aR:=E d;clear n A q1 q2 f;go_wp2_with fail;refine du (cU 0 12 []) [] ?_;refine dY ?_;refine S4.nb λN a=>?_;refine dP ?_;replace HR:=E (HR.A.al a);replace HX:=E (HX.A.al a HX.A.lt);replace HG:=E (bB HG.A (grown_of a));clear a y x2;have x:=HR.A.box.cell 1;have D:=HR.A.box.frozen 1;have z:I.wrap ((i:Int)+1)=(i:Int)+1:=aqL;have g:=bX (o:=1) HR.A.box.lt (J I ((i:Int)+1));replace HX:=E (HX.A.gr g (sh gu.A));replace HG:=E (bB HG.A g);have t:=HR.A.step (j:=i+1) aR.A;replace HR:=E t;clear g t d;cases u:cA l (i+1) 4 ⟨#[61]⟩ with
  |false=>
   have aM:=zD 4 ⟨#[61]⟩ HR.A u;clear u;go_wp2_with fail;refine(aM).ah ?_;rintro e wz⟨rfl,Z⟩;replace HR:=E (HR.A.al Z);replace HX:=E (HX.A.al Z HX.A.lt);replace HG:=E (bB HG.A (grown_of Z));clear Z;clear aM x D z;have HW:=E (B4 HR.A);go_wp2_with fail;refine HW.A.ah ?_;rintro e wz⟨⟨k,rfl,ci⟩,Z⟩;have HK:=E (show k≠0 by simpa using ci);replace HR:=E (HR.A.al Z);replace HX:=E (HX.A.al Z HX.A.lt);replace HG:=E (bB HG.A (grown_of Z));clear ci Z HW;have⟨z0,f0⟩:=HX.A.cf;have HP:=E (HX.A.s8 (ap ⟨#[]⟩) (ap ⟨#[]⟩));have ch:=E (rJ HX.A.lt (ap ⟨#[]⟩) (ap ⟨#[]⟩));have JJ:=E (((Kt.refl w0.heap.size [78] _).setCell (o:=0) H0.A (bp.bO HX.A) (bD.2 rfl) (ap ⟨#[]⟩)).setCell (o:=1) H0.A (bp.bO (HX.A.put 0 (ap ⟨#[]⟩))) (bD.2 rfl) (ap ⟨#[]⟩));have bi:=E (HR.A.Ss HL.A ch.A H0.A (mW gu.A) JJ.A aq aq);have k4:=E (l3 HG.A ch.A (aO _));go_wp2;have k0:=HP.A.cell;refine bF (v:=bn #[aY #[(ap ⟨#[]⟩),(ap ⟨#[]⟩)],J I k]) aro rfl ⟨⟨(⟨#[]⟩,⟨#[]⟩),k,_,rfl,aq,λh=>ae h HK.A,bi.A⟩,k4.A⟩
  |true=>
   have aM:=zE 4 ⟨#[61]⟩ HR.A u;clear u;go_wp2_with fail;refine(aM).ah ?_;rintro e wz⟨rfl,K,C⟩;replace HR:=E K;replace HX:=E (HX.A.gr C (sh gu.A));replace HG:=E (bB HG.A C);clear K C;clear aM x D z;have aM:=Gk 3 HR.A;cases hk:eT l (i+1+1) 3 with
   |false=>
    exact aaV
   |true=>
    rw[hk] at aM;have d:=kZ hk;clear hk;go_wp2_with fail;refine(aM).ah ?_;rintro e wz⟨rfl,Z⟩;replace HR:=E (HR.A.al Z);replace HX:=E (HX.A.al Z HX.A.lt);replace HG:=E (bB HG.A (grown_of Z));clear Z;clear aM;clear aR;obtain⟨j,hj⟩:=aP (i+1+1);rw[hj] at HR;simp only[hj] at d;have Y:=E hj;clear hj;obtain⟨V,tQ,H,F,A,q1,q2,f⟩:=HR.A.tk.tk HR.A.b0.aC d;cases H;have x2:=λp:ba _=>p.cell (da F HR.A.b0.size) q2;have y:=ba.cells HR.A.box;have S:=HR.A.lc.1;have O:=HR.A.lc.2;obtain⟨U,n⟩:=aP (l[j].s);rw[n] at f;simp only[n] at x2;have X:=E f;have aR:=E d;clear n A q1 q2 f;go_wp2_with fail;refine du (cU 0 12 []) [] ?_;refine dY ?_;refine S4.nb λN a=>?_;refine dP ?_;replace HR:=E (HR.A.al a);replace HX:=E (HX.A.al a HX.A.lt);replace HG:=E (bB HG.A (grown_of a));clear a y x2;have x:=HR.A.box.cell 1;have D:=HR.A.box.frozen 1;have z:I.wrap ((j:Int)+1)=(j:Int)+1:=aqL;have g:=bX (o:=1) HR.A.box.lt (J I ((j:Int)+1));replace HX:=E (HX.A.gr g (sh gu.A));replace HG:=E (bB HG.A g);have t:=HR.A.step (j:=j+1) aR.A;replace HR:=E t;clear g t d;have⟨z0,f0⟩:=HX.A.cf;have HP:=E (HX.A.s8 (ap T) (ap U));have ch:=E (rJ HX.A.lt (ap T) (ap U));have JJ:=E (((Kt.refl w0.heap.size [78] _).setCell (o:=0) H0.A (bp.bO HX.A) (bD.2 rfl) (ap T)).setCell (o:=1) H0.A (bp.bO (HX.A.put 0 (ap T))) (bD.2 rfl) (ap U));have bi:=E (HR.A.Ss HL.A ch.A H0.A (mW gu.A) JJ.A aq aq);have k4:=E (l3 HG.A ch.A (aO _));go_wp2;have k0:=HP.A.cell;refine bF (v:=bn #[aY #[(ap T),(ap U)],J I 0]) aro rfl ⟨⟨(T,U),0,_,rfl,⟨W.A,X.A⟩,λ_=>by have:=Y.A;omega,bi.A⟩,k4.A⟩
def akq:bH []=true:=by
 rw[nN];exact⟨av,av,by simp[e8]⟩
def akr:(aH.info? bE.e).map (λi=>(i.zero,i.size,i.bytes))=ad (ad (aY #[ap ⟨#[]⟩,ap ⟨#[]⟩]),2,32):=ar
structure vZ (w0 w wr:aB) (B b c j:Nat) (ao:Option aX) (l:List Tok) (R:cv) (m q:Option aX×Nat) (v:aE) (ps:aZ):Prop where
 rd:dk w0 wr B b c j ao l R m q
 gr:w.grownBy wr (ad b)
 ow:Ow bE wr 0 w.heap.size v ps
 h0:w0.heap.size<=w.heap.size
 Z:b<w.heap.size
 len:ps.length<=j
section
variable {w0 w wr w':aB} {B b c j:Nat} {ao:Option aX} {l:List Tok} {R:cv} {m q:Option aX×Nat} {v:aE} {ps:aZ}
def vZ.al (h:vZ w0 w wr B b c j ao l R m q v ps) (Z:aS wr.heap.size wr w'):vZ w0 w w' B b c j ao l R m q v ps:=⟨h.rd.al Z,bB h.gr (grown_of Z),h.ow.al Z,h.h0,h.Z,h.len⟩
def vZ.step (h:vZ w0 w wr B b c j ao l R m q v ps) {k:Nat} (d:j<=k) (e:dk w0 w' B b c k ao l R m q) (a:wr.grownBy w' (ad b)):vZ w0 w w' B b c k ao l R m q v ps:=⟨e,bB h.gr a,h.ow.keep ((h.rd.Gj a).dJ (bV _)) aq aq,h.h0,h.Z,a8 h.len d⟩
def vZ.bt (h:vZ w0 w wr B b c j ao l R m q v ps) (x:R.L=[]) {n:aE} {y:ByteArray×ByteArray} {us:List aE} {W:aB} (t:W=wr.alloc (aD us.toArray bE.e)) (u:Ow bE w' 0 w.heap.size n (ps++[y])) (p:∀g,v.ownBlock=ad g->w.heap.size<=g) (o:Kt 0 [bE.e] wr w') (d:W.grownBy w' v.ownBlock) (hj:ps.length<j):vZ w0 w w' B b c j ao l R m q n (ps++[y]):=by
 have a:aS wr.heap.size wr W:=by rw[t];exact(bk _ _).alloc (aO _) _
 have r:w.grownBy w' (ad b):=⟨d.os.trans (a.os.trans h.gr.os),d.tape.trans (a.tape.trans h.gr.tape),d.output.trans (a.output.trans h.gr.output),a8 h.gr.size (a8 a.size d.size),λk f z=>((d.block k (da f (a8 h.gr.size a.size)) (λe=>by have:=p k e.symm;omega)).trans (a.block k (da f h.gr.size))).trans (h.gr.block k f z)⟩;have s:∀k,k<w.heap.size->w'.heap[k]?=wr.heap[k]?:=λk f=>(d.block k (da f (a8 h.gr.size a.size)) (λe=>by have:=p k e.symm;omega)).trans (a.block k (da f h.gr.size));have i:=h.rd.b0.aC;have cN:aF w0 w':=aF.of ⟨(d.os.trans a.os).trans i.os,(d.tape.trans a.tape).trans i.tape,(d.output.trans a.output).trans i.output,a8 h.h0 r.size,λk f=>(s k (da f h.h0)).trans (i.block k f)⟩;exact⟨⟨cN,h.rd.Z,h.rd.tk,o.eP h.rd.box aq,h.rd.lc,h.rd.le,h.rd.hn,h.rd.hs,h.rd.xG.keep (o.dJ (bV _)) aq aq,aaU x h.rd.oh⟩,r,u,h.h0,h.Z,aw⟩
end
theorem aaW (h:P:=by
 go_wp2_with fail;refine(aM).ah ?_;rintro e wz⟨rfl,Z⟩;replace HS:=E (HS.A.al Z);clear Z;clear aM;have HW:=E (B4 HS.A.rd);go_wp2_with fail;refine HW.A.ah ?_;rintro e wz⟨⟨k,rfl,ci⟩,Z⟩;have HK:=E (show k≠0 by simpa using ci);replace HS:=E (HS.A.al Z);clear ci Z HW;go_wp2;go_ret;exact⟨⟨k,rfl,E ⟨λ_=>⟨_,HS.A.rd⟩,λh=>ae h HK.A⟩⟩,HS.A.gr⟩;):P:=h
theorem aaX (h:P:=by
 have JL:=E (show wr.cell? (ab b 1 M)=ad (J I (j:Int)) from wR.A.rd.box.cell 1);go_wp2;go_roundw;case rel=>exact⟨_,_,_,_,rfl,rfl,HS⟩
 case measure=>
  have q1:=Gl.A;have q2:=JL.A;simp only[q1,q2];have:=HS.A.rd.le;have:=Gh.A;omega
 ):P:=h
def aks {c:Nat} {m q:Option aX×Nat} (r:R.L=[]) (mJ:l.length<=65536) (h:dk w0 w B b c i ao l R m q):aN aH 258 #[bl (ad (ab b 0 M))] w λe w'=>(∃k:Int,e=aQ (J I k)/\a6 ((k≠0->∃j,dk w0 w' B b c j ao l R m q)/\(k=0->∃(j:Nat) (L:aZ) (q':Option aX×Nat),bH L=true/\zi L=false/\dk w0 w' B b c j ao l {R with L:=L} m q')))/\w.grownBy w' (ad b):=by
 have HS:=E (show vZ w0 w w B b c i ao l R m q (O M 0 0) [] from⟨h,grown_of (bk _ _),Ow.bh _ _ _ _,h.b0.size,h.box.lt,bV _⟩);have HL:=E r;have uC:=E mJ;have dM:=E (a8 h.lc.1 h.lc.2);clear h r mJ;go_enter func258,ntmps258;cases F:cA l i 4 ⟨#[123]⟩ with
 |false=>
  have aM:=zD 4 ⟨#[123]⟩ HS.A.rd F;clear F;exact aaW
 |true=>
  have aM:=zE 4 ⟨#[123]⟩ HS.A.rd F;clear F;go_wp2_with fail;refine(aM).ah ?_;rintro e wz⟨rfl,f,g⟩;replace HS:=E (HS.A.step (mg _) f g);clear f g;clear aM;have aM:=JG 4 ⟨#[125]⟩ HS.A.rd;obtain⟨gq,eb⟩:=aP (cA l (i+1) 4 ⟨#[125]⟩);rw[eb] at aM;clear eb;go_wp2_with fail;refine(aM).ah ?_;rintro e wz⟨rfl,Z⟩;replace HS:=E (HS.A.al Z);clear Z;clear aM;go_wp2;generalize i+1=ut at HS;go_loopw [3,4] (λa V wr=>∃(j:Nat) (vM:aE) (ps:aZ) (W:Bool),a=vM/\V=aG W/\a6 (vZ w0 w wr B b c j ao l R m q vM ps)) (λ_ _ wr=>match wr.cell? (ab b 1 M) with|some (J _ x)=>l.length-x.toNat|_=>0);case atStart=>exact⟨_,_,_,_,rfl,rfl,HS⟩
  case round=>
   clear HS;obtain⟨j,vM,ps,W,rfl,rfl,HS⟩:=hrel;cases W with
   |true=>
    have wR:=HS;have v:=E (akp HL.A HS.A.rd);go_wp2_with fail;refine v.A.ah ?_;rintro e wz lU;obtain⟨⟨p,k,G,rfl,bJ,T,f⟩,g⟩:=lU;clear v;by_cases hk:k=0;case neg=>
     have jv:(k !=0)=true:=aqk;have HK:=E hk;have bi:=E (f.al ((bk _ _).alloc (aO _) (aD #[ap p.1,ap p.2] 78)));have N:=E (bB HS.A.gr (bB g (grown_of ((bk wz.heap.size wz).alloc (aO _) (aD #[ap p.1,ap p.2] 78)))));clear hk T f g;go_wp2;go_ret;exact⟨⟨k,rfl,E ⟨λ_=>⟨_,bi.A⟩,λh=>ae h HK.A⟩⟩,N.A⟩
    subst hk;have X:=T rfl;replace HS:=E ((HS.A.step (Nat.le_of_lt X) f g).al ((bk _ _).alloc (aO _) (aD #[ap p.1,ap p.2] 78)));have dt:=E bJ;have HJ:=E (show ps.length<G/\ps.length<=65536 from⟨ai wR.A.len,ak HS.A.rd.le uC.A wR.A.len⟩);have Gh:=E X;have ca:=aI.new wz 78 #[ap p.1,ap p.2];have x0:=ca.cell;have dj:=E HS.A.gr.size;have H0:=E HS.A.h0;clear ca T f g bJ X;go_wp2_with ((refine M5 bE au (.tmp 28) (.tmp 30) 49 au w.heap.size 32 _ ar akr au aq 0 _ ps au (wz.alloc (aD #[ap p.1,ap p.2] 78)) [ap p.1,ap p.2] p (by rw[eO];rfl) HS.A.ow ⟨rfl,dt.A.1,dt.A.2⟩ (ai HJ.A.2) dj.A (bV _) aq ?_;intro v' w' bC vP eZ kj;have gH:=E bC;have pK:=E vP;have BP:=E eZ;have oe:=E kj;clear bC vP eZ kj));replace HS:=E (HS.A.bt HL.A rfl gH.A pK.A BP.A oe.A HJ.A.1);clear gH pK BP oe x0;cases d:cA l G 4 ⟨#[44]⟩ with
    |true=>
     have aM:=zE 4 ⟨#[44]⟩ HS.A.rd d;clear d;go_wp2_with fail;refine(aM).ah ?_;rintro e wz⟨rfl,f,g⟩;replace HS:=E (HS.A.step (mg _) f g);clear f g;clear aM;have Gl:=E (show wz.cell? (ab b 1 M)=ad (J I ((G+1:Nat):Int)) from HS.A.rd.box.cell 1);exact aaX
    |false=>
     have aM:=zD 4 ⟨#[44]⟩ HS.A.rd d;clear d;go_wp2_with fail;refine(aM).ah ?_;rintro e wz⟨rfl,Z⟩;replace HS:=E (HS.A.al Z);clear Z;clear aM;have Gl:=E (show wz.cell? (ab b 1 M)=ad (J I (G:Int)) from HS.A.rd.box.cell 1);exact aaX
   |false=>
    cases d:cA l j 4 ⟨#[125]⟩ with
    |false=>
     have aM:=JG 4 ⟨#[125]⟩ HS.A.rd;rw[d] at aM;clear d;exact aaW
    |true=>
     have aM:=JG 4 ⟨#[125]⟩ HS.A.rd;rw[d] at aM;have aR:=E (td d);clear d;go_wp2_with fail;refine(aM).ah ?_;rintro e wz⟨rfl,Z⟩;replace HS:=E (HS.A.al Z);clear Z;clear aM;have ka:=P5 wz (bV _) HS.A.ow.vs;go_wp2_with fail;refine ka.ah ?_;rintro e u⟨hg,s⟩;obtain⟨Eb,k,rfl,lA,⟨U,rb⟩,K⟩:=hg.form;replace HS:=E (HS.A.al s.aC);have Y:=E lA;clear ka hg s lA;by_cases hk:k=0;case neg=>
      have jv:(k !=0)=true:=aqk;have HK:=E hk;clear hk K rb;go_wp2;go_ret;exact⟨⟨k,rfl,E ⟨λ_=>⟨_,HS.A.rd⟩,λh=>ae h HK.A⟩⟩,HS.A.gr⟩
     subst hk;obtain⟨L,r⟩:=Option.isSome_iff_exists.1 (K.1 rfl);have dn:=E (Pt r);rw[r] at Y;have n:Vs bE u 0 Eb L:=by
      obtain⟨v9,nx,nu⟩:=Y.A;cases nx;exact nu
     clear rb K Y r U;have t:=Z4 u n;go_wp2_with fail;refine t.ah ?_;rintro e wn⟨rfl,Q⟩;replace HS:=E (HS.A.al Q.aC);replace n:=n.al Q.aC;have sG:=E n;clear t Q;cases H:zi L with
     |true=>
      clear H n;go_wp2;go_ret;exact⟨⟨7,rfl,E ⟨λ_=>⟨_,HS.A.rd⟩,λh=>ae h aq⟩⟩,HS.A.gr⟩
     |false=>
      have fH:=E H;obtain⟨A9,S,rfl,_⟩:=n.len_;have⟨z1,f1⟩:=HS.A.rd.box.cf;have w1:I.wrap ((j:Int)+1)=(j:Int)+1:=aqL;have D:=E (HS.A.rd.lb (L:=L) (q':=(A9,S)) sG.A);have l6:=bX (o:=9) HS.A.rd.box.lt (O A9 L.length S);have JM:=E (D.A.step (j:=j+1) aR.A);have xo:=bX (o:=1) D.A.box.lt (J I ((j:Int)+1));have N:=E (bB HS.A.gr (bB l6 xo));clear H n l6 xo;go_wp2;go_ret;exact⟨⟨0,rfl,E ⟨λh=>ae rfl h,λ_=>⟨_,L,(A9,S),dn.A,fH.A,JM.A⟩⟩⟩,N.A⟩
def xH:ByteArray:=⟨#[114,117,108,101]⟩
noncomputable def qA (l:List Tok) (i:Nat):Bool:=cA l i 1 xH&&(eT l (i+1) 1&&db (eu l (i+1)))&&cA l (i+2) 4 ⟨#[58]⟩&&l4 l (i+3)&&cA l (i+6) 4 ⟨#[59]⟩
def xI (h:qA l i=true):cA l i 1 xH=true/\eT l (i+1) 1=true/\db (eu l (i+1))=true/\cA l (i+2) 4 ⟨#[58]⟩=true/\l4 l (i+3)=true/\cA l (i+6) 4 ⟨#[59]⟩=true:=by
 unfold qA at h;simp only[b9] at h;exact⟨h.1.1.1.1,h.1.1.1.2.1,h.1.1.1.2.2,h.1.1.2,h.1.2,h.2⟩
def te (l:List Tok) (i:Nat):cv:=⟨eu l (i+1),⟨⟨eu l (i+3),[]⟩,5,0⟩,0,0,[]⟩
structure RUo (w0 w w':aB) (B b c i:Nat) (ao:Option aX) (l:List Tok) (e:Ending):Prop where
 A:∃(k:Int) (j:Nat) (R:cv) (m q:Option aX×Nat),e=aQ (J I k)/\dk w0 w' B b c j ao l R m q/\a6 ((k=0->ku R=true/\cA l i 1 xH=true)/\(qA l i=true->R=te l i/\k=0/\j=i+7))
 gr:w.grownBy w' (ad b)
def dk.akv {c:Nat} {m q:Option aX×Nat} (h:dk w0 w B b c i ao l R m q) {X:wV} {A2:Option aX} {c2:Nat} (hn:X.s.n.size<=9223372036854775807) (g:Vs jG w 0 (O A2 X.s.aU.length c2) X.s.aU):dk w0 ((((w.setCell (ab b 3 M) (ap X.s.n)).setCell (ab b 4 M) (O A2 X.s.aU.length c2)).setCell (ab b 5 M) (J I X.op)).setCell (ab b 6 M) (J I X.v)) B b c i ao l {R with x:=X} (A2,c2) q:=by
 have e:=h.box.put 3 (ap X.s.n);have d:=e.put 4 (O A2 X.s.aU.length c2);have f:=d.put 5 (J I X.op);have j:=f.put 6 (J I X.v);have a:Kt w0.heap.size [326] w ((((w.setCell (ab b 3 M) (ap X.s.n)).setCell (ab b 4 M) (O A2 X.s.aU.length c2)).setCell (ab b 5 M) (J I X.op)).setCell (ab b 6 M) (J I X.v)):=((((Kt.refl w0.heap.size [326] w).setCell (o:=3) h.Z (bp.bO h.box) (bD.2 rfl) _).setCell (o:=4) h.Z (bp.bO e) (bD.2 rfl) _).setCell (o:=5) h.Z (bp.bO d) (bD.2 rfl) _).setCell (o:=6) h.Z (bp.bO f) (bD.2 rfl) _;exact⟨(((h.b0.setCell (p:=(ab b 3 M)) h.Z _).setCell (p:=(ab b 4 M)) h.Z _).setCell (p:=(ab b 5 M)) h.Z _).setCell (p:=(ab b 6 M)) h.Z _,h.Z,h.tk,j,h.lc,h.le,h.hn,hn,g.keep (a.dJ (bV _)) aq aq,h.oh.keep (a.dJ (bV _)) aq aq⟩
structure B7 (w0 w wr:aB) (B b c j:Nat) (ao:Option aX) (l:List Tok) (R:cv) (m q:Option aX×Nat):Prop where
 rd:dk w0 wr B b c j ao l R m q
 gr:w.grownBy wr (ad b)
 jn:aI wr w.heap.size 324 #[bl (ad (ab b 0 M))]
 Z:b<w.heap.size
 h0:w0.heap.size<=w.heap.size
section
variable {w0 w wr w':aB} {B b c j:Nat} {ao:Option aX} {l:List Tok} {R:cv} {m q:Option aX×Nat}
def B7.al (h:B7 w0 w wr B b c j ao l R m q) (Z:aS wr.heap.size wr w'):B7 w0 w w' B b c j ao l R m q:=⟨h.rd.al Z,bB h.gr (grown_of Z),h.jn.al Z h.jn.lt,h.Z,h.h0⟩
def B7.step (h:B7 w0 w wr B b c j ao l R m q) {k:Nat} {d:cv} {m' q':Option aX×Nat} (e:dk w0 w' B b c k ao l d m' q') (a:wr.grownBy w' (ad b)):B7 w0 w w' B b c k ao l d m' q':=⟨e,bB h.gr a,h.jn.gr a (sh h.Z),h.Z,h.h0⟩
end
def akw {c:Nat} {m q:Option aX×Nat} (f:eK w0) (d:aI w g 324 #[bl (ad (ab b 0 M))]) (h:dk w0 w B b c i ao l R m q):aN aH 255 #[bl (ad (ab g 0 M))] w λe w'=>(∃k:Int,e=aQ (J I k)/\a6 ((k≠0->dk w0 w' B b c i ao l R m q)/\(k=0->∃n,gm n=true/\dk w0 w' B b c (i+1) ao l {R with wait:=n} m q)))/\w.grownBy w' (ad b):=by
 have y:=E h;have v:=E f;have t:=ba.cells d 0;clear h f d;go_enter func255,ntmps255;go_wp2_with fail;refine du (cU 0 5 []) [5,6] ?_;refine dY ?_;refine S4.nb λz a=>?_;have p:=E (y.A.al a);have u:=E (grown_of (r:=b) a);clear a t;refine E4.dm (λKK aJ=>?_);go_simp;refine(aaT 7 (λn=>{R with wait:=n}) aq (λn W j h=>h.wt n) v.A p.A).ah ?_;rintro e A⟨⟨n,rfl,o⟩,hg⟩;have x:=E (bB u.A hg);have s:=E o;clear o hg;refine aJ _ _ ?_;clear aJ KK;refine dP ?_;go_wp2;go_ret;exact⟨⟨n,rfl,s.A⟩,x.A⟩
def akx {c:Nat} {m q:Option aX×Nat} (f:eK w0) (d:aI w g 324 #[bl (ad (ab b 0 M))]) (h:dk w0 w B b c i ao l R m q):aN aH 257 #[bl (ad (ab g 0 M))] w λe w'=>(∃k:Int,e=aQ (J I k)/\a6 ((k≠0->dk w0 w' B b c i ao l R m q)/\(k=0->∃n,gm n=true/\dk w0 w' B b c (i+1) ao l {R with keep:=n} m q)))/\w.grownBy w' (ad b):=by
 have y:=E h;have v:=E f;have t:=ba.cells d 0;clear h f d;go_enter func257,ntmps257;go_wp2_with fail;refine du (cU 0 5 []) [5,6] ?_;refine dY ?_;refine S4.nb λz a=>?_;have p:=E (y.A.al a);have u:=E (grown_of (r:=b) a);clear a t;refine E4.dm (λKK aJ=>?_);go_simp;refine(aaT 8 (λn=>{R with keep:=n}) aq (λn W j h=>h.MB n) v.A p.A).ah ?_;rintro e A⟨⟨n,rfl,o⟩,hg⟩;have x:=E (bB u.A hg);have s:=E o;clear o hg;refine aJ _ _ ?_;clear aJ KK;refine dP ?_;go_wp2;go_ret;exact⟨⟨n,rfl,s.A⟩,x.A⟩
end Go.Proofs.YtbeaddlblpgppaaGreatDoor
