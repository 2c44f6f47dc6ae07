/- Part 5 of the proof of TopOrder (watchtowertop). Conditions: none. -/
import Derived.Test.YtbeaddlblpgppaaGreatDoorVd
import Derived.Laws.EntriesVeiled
import Derived.Recover
set_option maxRecDepth 100000
set_option maxHeartbeats 8000000
set_option linter.unusedVariables false
set_option linter.unusedSimpArgs false
set_option linter.defProp false
open Go.Lib renaming hid->E
open Go.IntKind renaming i64->I,wrap_i64->b7
open Go.Value renaming int->J,slice->O,string->ap,bool->aG,agg->aY,pointer->bl,tuple->bn
open Option renaming none->M,some->ad,map_some->tG
open Go.Addr renaming mk->ab
open Go renaming World->aB,Value->aE,Calls->aN,Addr->aX,Act->bb,TypeId->bf,Oper->bv,results->bz,bodyPost_ret->bF,maxLen->bK,Program->cp,undef->cu,yielded->dR,run_underlying->mf,heap_alloc_new->qR
open Go.Obj renaming cells->aD
open Go.Proofs.Tryz renaming prog->aH
open Nat renaming le_refl->aO,le_trans->a8,zero_le->bV,lt_of_lt_of_le->da,lt_or_ge->gy,zero_add->ig,eq_zero_or_pos->kJ,le_succ->mg,ne_of_lt->mW,mul_le_mul_right->sa,ne_of_gt->sh
open Go.Ending renaming returned->aQ
open Go.RowKit renaming Below->aS,Hid->a6
open Go.RowKit.Below renaming refl->bk,heap_setCell->yv
open List renaming mem_singleton->bD,length_append->b2,getD_eq_getElem?_getD->dd,getElem_mem->dl,mem_cons->ee,mem_map->hM,mem_append->kf,not_mem_nil->kg,map_append->lK,size_toArray->lM,append_assoc->mV,mem_iff_getElem->qV,length_nil->nF,length_drop->oy,length->oz,length_cons->pY,length_map->p6,length_singleton->p8,take_length->pZ,drop_length->qT,eq_nil_of_length_eq_zero->sb,map_cons->sd,length_take->tH,mem_of_mem_drop->arC,getElem?_eq_some_iff->yy,take_succ_eq_append_getElem->yz
open Bool renaming and_eq_true->b9,false_eq_true->tL
open Go.Region renaming wanted->dz,ready->iW
open Go.World renaming setCell->eB,size_alloc->eO,cell?_of_block->wK
open And renaming intro->iC
open Go.Instr renaming slice->iV,index->mX
open Exists renaming intro->lL
open Array renaming getElem?_eq_some_iff->lJ,getElem?_eq_none->tK,replicate->tN
open Go.Builtin renaming zeroCells->pg,append_->tI
open Go.World.grownBy renaming refl->EZ
open Go.Proofs.Tryz
namespace Go.Proofs.YtbeaddlblpgppaaGreatDoor
open Go.RowKit
variable {w w' w0:aB} {B i g b B':Nat} {P:Prop} {ao:Option aX} {l:List Tok} {R:cv} {S:List bf}
open bw
def aaU {α:Type} {D:Kr α} {a:Option aX} {c:Nat} {L:List α} (b:L=[]) (h:Vs D w B (O a L.length c) L):Vs D w' B' (O a L.length c) L:=by
 subst b;obtain⟨ao,n,c',e,_,h2⟩:=h.A;cases e;exact⟨_,_,_,rfl,Rw.bh _ _ _ _,h2⟩
def dk.Ss {c:Nat} {m q:Option aX×Nat} (h:dk w0 w B b c i ao l R m q) (d:R.L=[]) (hg:w.grownBy w' (ad g)) (h0:w0.heap.size<=g) (f:b≠g) (a:Kt w0.heap.size S w w') (e:jG.e∉S) (h2:∀t∈jG.bI,t∉S):dk w0 w' B b c i ao l R m q:=⟨h.b0.cD hg h0,h.Z,h.tk,h.box.gr hg f,h.lc,h.le,h.hn,h.hs,h.xG.keep (a.dJ (bV _)) e h2,aaU d h.oh⟩
structure RPo (w0 w w':aB) (B b c i:Nat) (ao:Option aX) (l:List Tok) (R:cv) (m q:Option aX×Nat) (e:Ending):Prop where
 A:∃(p:ByteArray×ByteArray) (k:Int) (j:Nat),e=aQ (bn #[aY #[ap p.1,ap p.2],J I k])/\(p.1.size<=9223372036854775807/\p.2.size<=9223372036854775807)/\(k=0->i<j)/\dk w0 w' B b c j ao l R m q
 gr:w.grownBy w' (ad b)
theorem aaV (h:P:=by
 rw[hk] at aM;clear hk;go_wp2_with fail;refine(aM).ah ?_;rintro e wz⟨rfl,Z⟩;replace HR:=E (HR.A.al Z);replace HX:=E (HX.A.al Z HX.A.lt);replace HG:=E (bB HG.A (grown_of Z));clear Z;clear aM;have HW:=E (B4 HR.A);go_wp2_with fail;refine HW.A.ah ?_;rintro e wz⟨⟨k,rfl,ci⟩,Z⟩;have HK:=E (show k≠0 by simpa using ci);replace HR:=E (HR.A.al Z);replace HX:=E (HX.A.al Z HX.A.lt);replace HG:=E (bB HG.A (grown_of Z));clear ci Z HW;have⟨z0,f0⟩:=HX.A.cf;have HP:=E (HX.A.s8 (ap ⟨#[]⟩) (ap ⟨#[]⟩));have ch:=E (rJ HX.A.lt (ap ⟨#[]⟩) (ap ⟨#[]⟩));have JJ:=E (((Kt.refl w0.heap.size [78] _).setCell (o:=0) H0.A (bp.bO HX.A) (bD.2 rfl) (ap ⟨#[]⟩)).setCell (o:=1) H0.A (bp.bO (HX.A.put 0 (ap ⟨#[]⟩))) (bD.2 rfl) (ap ⟨#[]⟩));have bi:=E (HR.A.Ss HL.A ch.A H0.A (mW gu.A) JJ.A aq aq);have k4:=E (l3 HG.A ch.A (aO _));go_wp2;have k0:=HP.A.cell;refine bF (v:=bn #[aY #[(ap ⟨#[]⟩),(ap ⟨#[]⟩)],J I k]) aro rfl ⟨⟨(⟨#[]⟩,⟨#[]⟩),k,_,rfl,aq,λh=>ae h HK.A,bi.A⟩,k4.A⟩;):P:=h
def akp {c:Nat} {m q:Option aX×Nat} (L:R.L=[]) (h:dk w0 w B b c i ao l R m q):aN aH 280 #[bl (ad (ab b 0 M))] w λe w'=>RPo w0 w w' B b c i ao l R m q e:=by
 have H0:=E h.b0.size;have gu:=E (show b<w.heap.size from h.box.lt);have HL:=E L;have dM:=E (a8 h.lc.1 h.lc.2);have G:=(bk w.heap.size w).alloc (aO _) (aD #[ap ⟨#[]⟩,ap ⟨#[]⟩] 78);have HR:=E (h.al G);have HG:=E (grown_of (r:=b) G);have HX:=E (aI.new w 78 #[ap ⟨#[]⟩,ap ⟨#[]⟩]);clear h G L;go_enter func280,ntmps280;have aM:=Gk 1 HR.A;cases hk:eT l i 1 with
 |false=>
  exact aaV
 |true=>
  rw[hk] at aM;have d:=kZ hk;clear hk;go_wp2_with fail;refine(aM).ah ?_;rintro e wz⟨rfl,Z⟩;replace HR:=E (HR.A.al Z);replace HX:=E (HX.A.al Z HX.A.lt);replace HG:=E (bB HG.A (grown_of Z));clear Z;clear aM;obtain⟨gq,off,H,F,A,q1,q2,f⟩:=HR.A.tk.tk HR.A.b0.aC d;subst H;have x2:=λp:ba _=>p.cell (da F HR.A.b0.size) q2;have y:=ba.cells HR.A.box;have S:=HR.A.lc.1;have O:=HR.A.lc.2;obtain⟨T,n⟩:=aP (l[i].s);rw[n] at f;simp only[n] at x2;have W:=E f;have aR:=E d;clear n A q1 q2 f;go_wp2_with fail;refine du (cU 0 12 []) [] ?_;refine dY ?_;refine S4.nb λN a=>?_;refine dP ?_;replace HR:=E (HR.A.al a);replace HX:=E (HX.A.al a HX.A.lt);replace HG:=E (bB HG.A (grown_of a));clear a y x2;have x:=HR.A.box.cell 1;have D:=HR.A.box.frozen 1;have z:I.wrap ((i:Int)+1)=(i:Int)+1:=aqL;have g:=bX (o:=1) HR.A.box.lt (J I ((i:Int)+1));replace HX:=E (HX.A.gr g (sh gu.A));replace HG:=E (bB HG.A g);have t:=HR.A.step (j:=i+1) aR.A;replace HR:=E t;clear g t d;cases u:cA l (i+1) 4 ⟨#[61]⟩ with
  |false=>
   have aM:=zD 4 ⟨#[61]⟩ HR.A u;clear u;go_wp2_with fail;refine(aM).ah ?_;rintro e wz⟨rfl,Z⟩;replace HR:=E (HR.A.al Z);replace HX:=E (HX.A.al Z HX.A.lt);replace HG:=E (bB HG.A (grown_of Z));clear Z;clear aM x D z;have HW:=E (B4 HR.A);go_wp2_with fail;refine HW.A.ah ?_;rintro e wz⟨⟨k,rfl,ci⟩,Z⟩;have HK:=E (show k≠0 by simpa using ci);replace HR:=E (HR.A.al Z);replace HX:=E (HX.A.al Z HX.A.lt);replace HG:=E (bB HG.A (grown_of Z));clear ci Z HW;have⟨z0,f0⟩:=HX.A.cf;have HP:=E (HX.A.s8 (ap ⟨#[]⟩) (ap ⟨#[]⟩));have ch:=E (rJ HX.A.lt (ap ⟨#[]⟩) (ap ⟨#[]⟩));have JJ:=E (((Kt.refl w0.heap.size [78] _).setCell (o:=0) H0.A (bp.bO HX.A) (bD.2 rfl) (ap ⟨#[]⟩)).setCell (o:=1) H0.A (bp.bO (HX.A.put 0 (ap ⟨#[]⟩))) (bD.2 rfl) (ap ⟨#[]⟩));have bi:=E (HR.A.Ss HL.A ch.A H0.A (mW gu.A) JJ.A aq aq);have k4:=E (l3 HG.A ch.A (aO _));go_wp2;have k0:=HP.A.cell;refine bF (v:=bn #[aY #[(ap ⟨#[]⟩),(ap ⟨#[]⟩)],J I k]) aro rfl ⟨⟨(⟨#[]⟩,⟨#[]⟩),k,_,rfl,aq,λh=>ae h HK.A,bi.A⟩,k4.A⟩
  |true=>
   have aM:=zE 4 ⟨#[61]⟩ HR.A u;clear u;go_wp2_with fail;refine(aM).ah ?_;rintro e wz⟨rfl,K,C⟩;replace HR:=E K;replace HX:=E (HX.A.gr C (sh gu.A));replace HG:=E (bB HG.A C);clear K C;clear aM x D z;have aM:=Gk 3 HR.A;cases hk:eT l (i+1+1) 3 with
   |false=>
    exact aaV
   |true=>
    rw[hk] at aM;have d:=kZ hk;clear hk;go_wp2_with fail;refine(aM).ah ?_;rintro e wz⟨rfl,Z⟩;replace HR:=E (HR.A.al Z);replace HX:=E (HX.A.al Z HX.A.lt);replace HG:=E (bB HG.A (grown_of Z));clear Z;clear aM;clear aR;obtain⟨j,hj⟩:=aP (i+1+1);rw[hj] at HR;simp only[hj] at d;have Y:=E hj;clear hj;obtain⟨V,tQ,H,F,A,q1,q2,f⟩:=HR.A.tk.tk HR.A.b0.aC d;cases H;have x2:=λp:ba _=>p.cell (da F HR.A.b0.size) q2;have y:=ba.cells HR.A.box;have S:=HR.A.lc.1;have O:=HR.A.lc.2;obtain⟨U,n⟩:=aP (l[j].s);rw[n] at f;simp only[n] at x2;have X:=E f;have aR:=E d;clear n A q1 q2 f;go_wp2_with fail;refine du (cU 0 12 []) [] ?_;refine dY ?_;refine S4.nb λN a=>?_;refine dP ?_;replace HR:=E (HR.A.al a);replace HX:=E (HX.A.al a HX.A.lt);replace HG:=E (bB HG.A (grown_of a));clear a y x2;have x:=HR.A.box.cell 1;have D:=HR.A.box.frozen 1;have z:I.wrap ((j:Int)+1)=(j:Int)+1:=aqL;have g:=bX (o:=1) HR.A.box.lt (J I ((j:Int)+1));replace HX:=E (HX.A.gr g (sh gu.A));replace HG:=E (bB HG.A g);have t:=HR.A.step (j:=j+1) aR.A;replace HR:=E t;clear g t d;have⟨z0,f0⟩:=HX.A.cf;have HP:=E (HX.A.s8 (ap T) (ap U));have ch:=E (rJ HX.A.lt (ap T) (ap U));have JJ:=E (((Kt.refl w0.heap.size [78] _).setCell (o:=0) H0.A (bp.bO HX.A) (bD.2 rfl) (ap T)).setCell (o:=1) H0.A (bp.bO (HX.A.put 0 (ap T))) (bD.2 rfl) (ap U));have bi:=E (HR.A.Ss HL.A ch.A H0.A (mW gu.A) JJ.A aq aq);have k4:=E (l3 HG.A ch.A (aO _));go_wp2;have k0:=HP.A.cell;refine bF (v:=bn #[aY #[(ap T),(ap U)],J I 0]) aro rfl ⟨⟨(T,U),0,_,rfl,⟨W.A,X.A⟩,λ_=>by have:=Y.A;omega,bi.A⟩,k4.A⟩
def akq:bH []=true:=by
 rw[nN];exact⟨av,av,by simp[e8]⟩
def akr:(aH.info? bE.e).map (λi=>(i.zero,i.size,i.bytes))=ad (ad (aY #[ap ⟨#[]⟩,ap ⟨#[]⟩]),2,32):=ar
structure vZ (w0 w wr:aB) (B b c j:Nat) (ao:Option aX) (l:List Tok) (R:cv) (m q:Option aX×Nat) (v:aE) (ps:aZ):Prop where
 rd:dk w0 wr B b c j ao l R m q
 gr:w.grownBy wr (ad b)
 ow:Ow bE wr 0 w.heap.size v ps
 h0:w0.heap.size<=w.heap.size
 Z:b<w.heap.size
 len:ps.length<=j
section
variable {w0 w wr w':aB} {B b c j:Nat} {ao:Option aX} {l:List Tok} {R:cv} {m q:Option aX×Nat} {v:aE} {ps:aZ}
def vZ.al (h:vZ w0 w wr B b c j ao l R m q v ps) (Z:aS wr.heap.size wr w'):vZ w0 w w' B b c j ao l R m q v ps:=⟨h.rd.al Z,bB h.gr (grown_of Z),h.ow.al Z,h.h0,h.Z,h.len⟩
def vZ.step (h:vZ w0 w wr B b c j ao l R m q v ps) {k:Nat} (d:j<=k) (e:dk w0 w' B b c k ao l R m q) (a:wr.grownBy w' (ad b)):vZ w0 w w' B b c k ao l R m q v ps:=⟨e,bB h.gr a,h.ow.keep ((h.rd.Gj a).dJ (bV _)) aq aq,h.h0,h.Z,a8 h.len d⟩
def vZ.bt (h:vZ w0 w wr B b c j ao l R m q v ps) (x:R.L=[]) {n:aE} {y:ByteArray×ByteArray} {us:List aE} {W:aB} (t:W=wr.alloc (aD us.toArray bE.e)) (u:Ow bE w' 0 w.heap.size n (ps++[y])) (p:∀g,v.ownBlock=ad g->w.heap.size<=g) (o:Kt 0 [bE.e] wr w') (d:W.grownBy w' v.ownBlock) (hj:ps.length<j):vZ w0 w w' B b c j ao l R m q n (ps++[y]):=by
 have a:aS wr.heap.size wr W:=by rw[t];exact(bk _ _).alloc (aO _) _
 have r:w.grownBy w' (ad b):=⟨d.os.trans (a.os.trans h.gr.os),d.tape.trans (a.tape.trans h.gr.tape),d.output.trans (a.output.trans h.gr.output),a8 h.gr.size (a8 a.size d.size),λk f z=>((d.block k (da f (a8 h.gr.size a.size)) (λe=>by have:=p k e.symm;omega)).trans (a.block k (da f h.gr.size))).trans (h.gr.block k f z)⟩;have s:∀k,k<w.heap.size->w'.heap[k]?=wr.heap[k]?:=λk f=>(d.block k (da f (a8 h.gr.size a.size)) (λe=>by have:=p k e.symm;omega)).trans (a.block k (da f h.gr.size));have i:=h.rd.b0.aC;have cN:aF w0 w':=aF.of ⟨(d.os.trans a.os).trans i.os,(d.tape.trans a.tape).trans i.tape,(d.output.trans a.output).trans i.output,a8 h.h0 r.size,λk f=>(s k (da f h.h0)).trans (i.block k f)⟩;exact⟨⟨cN,h.rd.Z,h.rd.tk,o.eP h.rd.box aq,h.rd.lc,h.rd.le,h.rd.hn,h.rd.hs,h.rd.xG.keep (o.dJ (bV _)) aq aq,aaU x h.rd.oh⟩,r,u,h.h0,h.Z,aw⟩
end
theorem aaW (h:P:=by
 go_wp2_with fail;refine(aM).ah ?_;rintro e wz⟨rfl,Z⟩;replace HS:=E (HS.A.al Z);clear Z;clear aM;have HW:=E (B4 HS.A.rd);go_wp2_with fail;refine HW.A.ah ?_;rintro e wz⟨⟨k,rfl,ci⟩,Z⟩;have HK:=E (show k≠0 by simpa using ci);replace HS:=E (HS.A.al Z);clear ci Z HW;go_wp2;go_ret;exact⟨⟨k,rfl,E ⟨λ_=>⟨_,HS.A.rd⟩,λh=>ae h HK.A⟩⟩,HS.A.gr⟩;):P:=h
theorem aaX (h:P:=by
 have JL:=E (show wr.cell? (ab b 1 M)=ad (J I (j:Int)) from wR.A.rd.box.cell 1);go_wp2;go_roundw;case rel=>exact⟨_,_,_,_,rfl,rfl,HS⟩
 case measure=>
  have q1:=Gl.A;have q2:=JL.A;simp only[q1,q2];have:=HS.A.rd.le;have:=Gh.A;omega
 ):P:=h
def aks {c:Nat} {m q:Option aX×Nat} (r:R.L=[]) (mJ:l.length<=65536) (h:dk w0 w B b c i ao l R m q):aN aH 258 #[bl (ad (ab b 0 M))] w λe w'=>(∃k:Int,e=aQ (J I k)/\a6 ((k≠0->∃j,dk w0 w' B b c j ao l R m q)/\(k=0->∃(j:Nat) (L:aZ) (q':Option aX×Nat),bH L=true/\zi L=false/\dk w0 w' B b c j ao l {R with L:=L} m q')))/\w.grownBy w' (ad b):=by
 have HS:=E (show vZ w0 w w B b c i ao l R m q (O M 0 0) [] from⟨h,grown_of (bk _ _),Ow.bh _ _ _ _,h.b0.size,h.box.lt,bV _⟩);have HL:=E r;have uC:=E mJ;have dM:=E (a8 h.lc.1 h.lc.2);clear h r mJ;go_enter func258,ntmps258;cases F:cA l i 4 ⟨#[123]⟩ with
 |false=>
  have aM:=zD 4 ⟨#[123]⟩ HS.A.rd F;clear F;exact aaW
 |true=>
  have aM:=zE 4 ⟨#[123]⟩ HS.A.rd F;clear F;go_wp2_with fail;refine(aM).ah ?_;rintro e wz⟨rfl,f,g⟩;replace HS:=E (HS.A.step (mg _) f g);clear f g;clear aM;have aM:=JG 4 ⟨#[125]⟩ HS.A.rd;obtain⟨gq,eb⟩:=aP (cA l (i+1) 4 ⟨#[125]⟩);rw[eb] at aM;clear eb;go_wp2_with fail;refine(aM).ah ?_;rintro e wz⟨rfl,Z⟩;replace HS:=E (HS.A.al Z);clear Z;clear aM;go_wp2;generalize i+1=ut at HS;go_loopw [3,4] (λa V wr=>∃(j:Nat) (vM:aE) (ps:aZ) (W:Bool),a=vM/\V=aG W/\a6 (vZ w0 w wr B b c j ao l R m q vM ps)) (λ_ _ wr=>match wr.cell? (ab b 1 M) with|some (J _ x)=>l.length-x.toNat|_=>0);case atStart=>exact⟨_,_,_,_,rfl,rfl,HS⟩
  case round=>
   clear HS;obtain⟨j,vM,ps,W,rfl,rfl,HS⟩:=hrel;cases W with
   |true=>
    have wR:=HS;have v:=E (akp HL.A HS.A.rd);go_wp2_with fail;refine v.A.ah ?_;rintro e wz lU;obtain⟨⟨p,k,G,rfl,bJ,T,f⟩,g⟩:=lU;clear v;by_cases hk:k=0;case neg=>
     have jv:(k !=0)=true:=aqk;have HK:=E hk;have bi:=E (f.al ((bk _ _).alloc (aO _) (aD #[ap p.1,ap p.2] 78)));have N:=E (bB HS.A.gr (bB g (grown_of ((bk wz.heap.size wz).alloc (aO _) (aD #[ap p.1,ap p.2] 78)))));clear hk T f g;go_wp2;go_ret;exact⟨⟨k,rfl,E ⟨λ_=>⟨_,bi.A⟩,λh=>ae h HK.A⟩⟩,N.A⟩
    subst hk;have X:=T rfl;replace HS:=E ((HS.A.step (Nat.le_of_lt X) f g).al ((bk _ _).alloc (aO _) (aD #[ap p.1,ap p.2] 78)));have dt:=E bJ;have HJ:=E (show ps.length<G/\ps.length<=65536 from⟨ai wR.A.len,ak HS.A.rd.le uC.A wR.A.len⟩);have Gh:=E X;have ca:=aI.new wz 78 #[ap p.1,ap p.2];have x0:=ca.cell;have dj:=E HS.A.gr.size;have H0:=E HS.A.h0;clear ca T f g bJ X;go_wp2_with ((refine M5 bE au (.tmp 28) (.tmp 30) 49 au w.heap.size 32 _ ar akr au aq 0 _ ps au (wz.alloc (aD #[ap p.1,ap p.2] 78)) [ap p.1,ap p.2] p (by rw[eO];rfl) HS.A.ow ⟨rfl,dt.A.1,dt.A.2⟩ (ai HJ.A.2) dj.A (bV _) aq ?_;intro v' w' bC vP eZ kj;have gH:=E bC;have pK:=E vP;have BP:=E eZ;have oe:=E kj;clear bC vP eZ kj));replace HS:=E (HS.A.bt HL.A rfl gH.A pK.A BP.A oe.A HJ.A.1);clear gH pK BP oe x0;cases d:cA l G 4 ⟨#[44]⟩ with
    |true=>
     have aM:=zE 4 ⟨#[44]⟩ HS.A.rd d;clear d;go_wp2_with fail;refine(aM).ah ?_;rintro e wz⟨rfl,f,g⟩;replace HS:=E (HS.A.step (mg _) f g);clear f g;clear aM;have Gl:=E (show wz.cell? (ab b 1 M)=ad (J I ((G+1:Nat):Int)) from HS.A.rd.box.cell 1);exact aaX
    |false=>
     have aM:=zD 4 ⟨#[44]⟩ HS.A.rd d;clear d;go_wp2_with fail;refine(aM).ah ?_;rintro e wz⟨rfl,Z⟩;replace HS:=E (HS.A.al Z);clear Z;clear aM;have Gl:=E (show wz.cell? (ab b 1 M)=ad (J I (G:Int)) from HS.A.rd.box.cell 1);exact aaX
   |false=>
    cases d:cA l j 4 ⟨#[125]⟩ with
    |false=>
     have aM:=JG 4 ⟨#[125]⟩ HS.A.rd;rw[d] at aM;clear d;exact aaW
    |true=>
     have aM:=JG 4 ⟨#[125]⟩ HS.A.rd;rw[d] at aM;have aR:=E (td d);clear d;go_wp2_with fail;refine(aM).ah ?_;rintro e wz⟨rfl,Z⟩;replace HS:=E (HS.A.al Z);clear Z;clear aM;have ka:=P5 wz (bV _) HS.A.ow.vs;go_wp2_with fail;refine ka.ah ?_;rintro e u⟨hg,s⟩;obtain⟨Eb,k,rfl,lA,⟨U,rb⟩,K⟩:=hg.form;replace HS:=E (HS.A.al s.aC);have Y:=E lA;clear ka hg s lA;by_cases hk:k=0;case neg=>
      have jv:(k !=0)=true:=aqk;have HK:=E hk;clear hk K rb;go_wp2;go_ret;exact⟨⟨k,rfl,E ⟨λ_=>⟨_,HS.A.rd⟩,λh=>ae h HK.A⟩⟩,HS.A.gr⟩
     subst hk;obtain⟨L,r⟩:=Option.isSome_iff_exists.1 (K.1 rfl);have dn:=E (Pt r);rw[r] at Y;have n:Vs bE u 0 Eb L:=by
      obtain⟨v9,nx,nu⟩:=Y.A;cases nx;exact nu
     clear rb K Y r U;have t:=Z4 u n;go_wp2_with fail;refine t.ah ?_;rintro e wn⟨rfl,Q⟩;replace HS:=E (HS.A.al Q.aC);replace n:=n.al Q.aC;have sG:=E n;clear t Q;cases H:zi L with
     |true=>
      clear H n;go_wp2;go_ret;exact⟨⟨7,rfl,E ⟨λ_=>⟨_,HS.A.rd⟩,λh=>ae h aq⟩⟩,HS.A.gr⟩
     |false=>
      have fH:=E H;obtain⟨A9,S,rfl,_⟩:=n.len_;have⟨z1,f1⟩:=HS.A.rd.box.cf;have w1:I.wrap ((j:Int)+1)=(j:Int)+1:=aqL;have D:=E (HS.A.rd.lb (L:=L) (q':=(A9,S)) sG.A);have l6:=bX (o:=9) HS.A.rd.box.lt (O A9 L.length S);have JM:=E (D.A.step (j:=j+1) aR.A);have xo:=bX (o:=1) D.A.box.lt (J I ((j:Int)+1));have N:=E (bB HS.A.gr (bB l6 xo));clear H n l6 xo;go_wp2;go_ret;exact⟨⟨0,rfl,E ⟨λh=>ae rfl h,λ_=>⟨_,L,(A9,S),dn.A,fH.A,JM.A⟩⟩⟩,N.A⟩
def xH:ByteArray:=⟨#[114,117,108,101]⟩
noncomputable def qA (l:List Tok) (i:Nat):Bool:=cA l i 1 xH&&(eT l (i+1) 1&&db (eu l (i+1)))&&cA l (i+2) 4 ⟨#[58]⟩&&l4 l (i+3)&&cA l (i+6) 4 ⟨#[59]⟩
def xI (h:qA l i=true):cA l i 1 xH=true/\eT l (i+1) 1=true/\db (eu l (i+1))=true/\cA l (i+2) 4 ⟨#[58]⟩=true/\l4 l (i+3)=true/\cA l (i+6) 4 ⟨#[59]⟩=true:=by
 unfold qA at h;simp only[b9] at h;exact⟨h.1.1.1.1,h.1.1.1.2.1,h.1.1.1.2.2,h.1.1.2,h.1.2,h.2⟩
def te (l:List Tok) (i:Nat):cv:=⟨eu l (i+1),⟨⟨eu l (i+3),[]⟩,5,0⟩,0,0,[]⟩
structure RUo (w0 w w':aB) (B b c i:Nat) (ao:Option aX) (l:List Tok) (e:Ending):Prop where
 A:∃(k:Int) (j:Nat) (R:cv) (m q:Option aX×Nat),e=aQ (J I k)/\dk w0 w' B b c j ao l R m q/\a6 ((k=0->ku R=true/\cA l i 1 xH=true)/\(qA l i=true->R=te l i/\k=0/\j=i+7))
 gr:w.grownBy w' (ad b)
def dk.akv {c:Nat} {m q:Option aX×Nat} (h:dk w0 w B b c i ao l R m q) {X:wV} {A2:Option aX} {c2:Nat} (hn:X.s.n.size<=9223372036854775807) (g:Vs jG w 0 (O A2 X.s.aU.length c2) X.s.aU):dk w0 ((((w.setCell (ab b 3 M) (ap X.s.n)).setCell (ab b 4 M) (O A2 X.s.aU.length c2)).setCell (ab b 5 M) (J I X.op)).setCell (ab b 6 M) (J I X.v)) B b c i ao l {R with x:=X} (A2,c2) q:=by
 have e:=h.box.put 3 (ap X.s.n);have d:=e.put 4 (O A2 X.s.aU.length c2);have f:=d.put 5 (J I X.op);have j:=f.put 6 (J I X.v);have a:Kt w0.heap.size [326] w ((((w.setCell (ab b 3 M) (ap X.s.n)).setCell (ab b 4 M) (O A2 X.s.aU.length c2)).setCell (ab b 5 M) (J I X.op)).setCell (ab b 6 M) (J I X.v)):=((((Kt.refl w0.heap.size [326] w).setCell (o:=3) h.Z (bp.bO h.box) (bD.2 rfl) _).setCell (o:=4) h.Z (bp.bO e) (bD.2 rfl) _).setCell (o:=5) h.Z (bp.bO d) (bD.2 rfl) _).setCell (o:=6) h.Z (bp.bO f) (bD.2 rfl) _;exact⟨(((h.b0.setCell (p:=(ab b 3 M)) h.Z _).setCell (p:=(ab b 4 M)) h.Z _).setCell (p:=(ab b 5 M)) h.Z _).setCell (p:=(ab b 6 M)) h.Z _,h.Z,h.tk,j,h.lc,h.le,h.hn,hn,g.keep (a.dJ (bV _)) aq aq,h.oh.keep (a.dJ (bV _)) aq aq⟩
structure B7 (w0 w wr:aB) (B b c j:Nat) (ao:Option aX) (l:List Tok) (R:cv) (m q:Option aX×Nat):Prop where
 rd:dk w0 wr B b c j ao l R m q
 gr:w.grownBy wr (ad b)
 jn:aI wr w.heap.size 324 #[bl (ad (ab b 0 M))]
 Z:b<w.heap.size
 h0:w0.heap.size<=w.heap.size
section
variable {w0 w wr w':aB} {B b c j:Nat} {ao:Option aX} {l:List Tok} {R:cv} {m q:Option aX×Nat}
def B7.al (h:B7 w0 w wr B b c j ao l R m q) (Z:aS wr.heap.size wr w'):B7 w0 w w' B b c j ao l R m q:=⟨h.rd.al Z,bB h.gr (grown_of Z),h.jn.al Z h.jn.lt,h.Z,h.h0⟩
def B7.step (h:B7 w0 w wr B b c j ao l R m q) {k:Nat} {d:cv} {m' q':Option aX×Nat} (e:dk w0 w' B b c k ao l d m' q') (a:wr.grownBy w' (ad b)):B7 w0 w w' B b c k ao l d m' q':=⟨e,bB h.gr a,h.jn.gr a (sh h.Z),h.Z,h.h0⟩
end
def akw {c:Nat} {m q:Option aX×Nat} (f:eK w0) (d:aI w g 324 #[bl (ad (ab b 0 M))]) (h:dk w0 w B b c i ao l R m q):aN aH 255 #[bl (ad (ab g 0 M))] w λe w'=>(∃k:Int,e=aQ (J I k)/\a6 ((k≠0->dk w0 w' B b c i ao l R m q)/\(k=0->∃n,gm n=true/\dk w0 w' B b c (i+1) ao l {R with wait:=n} m q)))/\w.grownBy w' (ad b):=by
 have y:=E h;have v:=E f;have t:=ba.cells d 0;clear h f d;go_enter func255,ntmps255;go_wp2_with fail;refine du (cU 0 5 []) [5,6] ?_;refine dY ?_;refine S4.nb λz a=>?_;have p:=E (y.A.al a);have u:=E (grown_of (r:=b) a);clear a t;refine E4.dm (λKK aJ=>?_);go_simp;refine(aaT 7 (λn=>{R with wait:=n}) aq (λn W j h=>h.wt n) v.A p.A).ah ?_;rintro e A⟨⟨n,rfl,o⟩,hg⟩;have x:=E (bB u.A hg);have s:=E o;clear o hg;refine aJ _ _ ?_;clear aJ KK;refine dP ?_;go_wp2;go_ret;exact⟨⟨n,rfl,s.A⟩,x.A⟩
def akx {c:Nat} {m q:Option aX×Nat} (f:eK w0) (d:aI w g 324 #[bl (ad (ab b 0 M))]) (h:dk w0 w B b c i ao l R m q):aN aH 257 #[bl (ad (ab g 0 M))] w λe w'=>(∃k:Int,e=aQ (J I k)/\a6 ((k≠0->dk w0 w' B b c i ao l R m q)/\(k=0->∃n,gm n=true/\dk w0 w' B b c (i+1) ao l {R with keep:=n} m q)))/\w.grownBy w' (ad b):=by
 have y:=E h;have v:=E f;have t:=ba.cells d 0;clear h f d;go_enter func257,ntmps257;go_wp2_with fail;refine du (cU 0 5 []) [5,6] ?_;refine dY ?_;refine S4.nb λz a=>?_;have p:=E (y.A.al a);have u:=E (grown_of (r:=b) a);clear a t;refine E4.dm (λKK aJ=>?_);go_simp;refine(aaT 8 (λn=>{R with keep:=n}) aq (λn W j h=>h.MB n) v.A p.A).ah ?_;rintro e A⟨⟨n,rfl,o⟩,hg⟩;have x:=E (bB u.A hg);have s:=E o;clear o hg;refine aJ _ _ ?_;clear aJ KK;refine dP ?_;go_wp2;go_ret;exact⟨⟨n,rfl,s.A⟩,x.A⟩
variable {v:aE} {n k j:Nat} {a:bb} {o oj oi:bv} {t:bf} {cs:Array aE} {Q:Exit->bb->aB->Prop} {ops:Array bv} {listed:Array Bool} {Φ:bb->aB->Prop}
inductive e7 where
 |nil
 |k (n i:Nat) (js:e7)
 |t (n i:Nat) (js:e7)
 |l7 (i:Nat) (js:e7) (j:Nat) (ks:e7)
 |zH (i:Nat) (js:e7) (j:Nat) (ks:e7) (k:Nat) (ls:e7)
abbrev e7.q:=e7.k 0
abbrev e7.p:=e7.k 1
abbrev e7.r:=e7.k 2
abbrev e7.c:=e7.t 0
abbrev e7.s:=e7.t 1
abbrev e7.z:=e7.t 2
section
variable {P:cp} {ops:Array bv} {Q:Exit->bb->aB->Prop} {R F G:aB->aB->Prop} {ss:List Nat×List Nat}
def v6 (ss:List Nat×List Nat) (j:Nat):Nat:=if ss.2.contains j then 2 else if ss.1.contains j then 1 else 0
def rR (R F:aB->aB->Prop):Nat->aB->aB->Prop
 |0=>R
 |1=>F
 |_=>λ_ _=>True
def uD (R F:aB->aB->Prop) (ss:List Nat×List Nat) (j:Nat) (w w':aB):Prop:=rR R F (v6 ss j) w w'
inductive rS (P:cp) (ops:Array bv) (R G:aB->aB->Prop) (o:bv) (v:aE) (a:bb) (b:aB):Prop|off:dz o (dR ops a.tmps)=false->v=cu->rS P ops R G o v a b|on:dz o (dR ops a.tmps)=true->(∀w,G b w->nd P R o a w v)->rS P ops R G o v a b
theorem aa0 {P:Prop} (h:P:=by
 have h3:=h2 w hw;unfold wpOp;simp only[hi];unfold nd at h3;simp only[h1,if_true,Oper.wp];generalize(execOp a.eval o).run P w=r at h3⊢;left;cases r with
 |ok n w'=>
  cases n<;>simp only[Dh] at h3;case value u=>obtain⟨rfl,rfl⟩:=h3;exact hK _ (hr _)
  case enter f args=>
   obtain⟨rfl,h4⟩:=h3;refine h4.ah ?_;rintro e w'⟨rfl,h5⟩;exact hK w' h5
 |halt x w'=>simp only[Dh] at h3
 ):P:=h
def rS.run (hr:∀w,R w w) {i:Nat} {o:bv} {v:aE} {a:bb} {b:aB} (hi:ops[i]?=ad o) (h:rS P ops R G o v a b):∀w,G b w->∀K:bb->aB->Prop,(∀w',R w w'->K (a.put o.dst v) w')->wpOp P ops Q i K a w:=by
 intro w hw K hK;have h':Calm P ops (λx y=>x=y\/R x y) o v a w->wpOp P ops Q i K a w:=λ_=>by
  cases h with
  |off h1 h2=>
   unfold wpOp;simp only[hi,h1,tL,if_false];exact h2▸hK w (hr w)
  |on h1 h2=>
   exact aa0
 by_cases c:dz o (dR ops a.tmps)=true
 ·cases h with
  |off h1 h2=>rw[c] at h1;cases h1
  |on h1 h2=>
   exact aa0
 ·cases h with
  |off h1 h2=>
   unfold wpOp;simp only[hi,h1,tL,if_false];exact h2▸hK w (hr w)
  |on h1 h2=>exact ae h1 c
def rS.of_same {d:bb} {b b':aB} (f:∀w,G b' w->G b w) (h:rS P ops R G o v a b) (g:execOp d.eval o=execOp a.eval o) (e:dz o (dR ops d.tmps)=dz o (dR ops a.tmps)):rS P ops R G o v d b':=by
 cases h with
 |off c h2=>exact .off (e.trans c) h2
 |on c h2=>exact .on (e.trans c) λw Z=>by unfold nd;rw[g];exact h2 w (f w Z)
def aky {S:aB->aB->Prop} (m:∀{a b c},G a b->G b c->G a c) (p:∀{a b},S a b->G a b) (hj:ops[j]?=ad oj) (k:oi.apart ops oj=true) (l:∀cs b,oi.op≠.select cs b) (PC:∀cs b,oj.op≠.select cs b) (hQ:∀c a w,Q (.panic c) (a.put oi.dst v) w->Q (.panic c) a w) {K:bb->aB->Prop} {a:bb} {w:aB} (hy:rS P ops R G oi v a w) (h:wpOp P ops Q j (λg w'=>S w w'/\K g w') (a.put oi.dst v) w):wpOp P ops Q j (λg w'=>S w w'/\rS P ops R G oi v g w'/\K (g.put oi.dst v) w') a w:=by
 obtain⟨h1,h2,i⟩:=Oper.apart_spec k;have keep:∀(a:bb) (w':aB),S w w'->rS P ops R G oi v a w->∀u,rS P ops R G oi v (a.put oj.dst u) w':=λa w' o hy u=>hy.of_same (λ_ Z=>m (p o) Z) (execOp_put oi l a oj.dst u i) (wanted_put oi a oj.dst u i);have Wt:∀d,rS P ops R G oi v {a with defers:=d::a.defers} w:=λd=>hy.of_same (λ_ Z=>Z) rfl rfl;unfold wpOp at*;simp only[hj] at*;rw[wanted_put oj a oi.dst v h1] at h;split
 ·exact Wr
 ·rename_i hw;simp only[hw] at h;exact⟨h.1,keep a _ h.1 hy _,aq3⟩
def B8 (P:cp) (ops:Array bv) (Q:Exit->bb->aB->Prop) (R F:aB->aB->Prop) (ss:List Nat×List Nat):Nat->Array Bool->bb->aB->Prop
 |0,listed,a,w=>iW .any ops listed=[]/\Q .normal a w
 |fuel+1,listed,a,w=>
  (iW .any ops listed=[]->Q .normal a w)/\
  ∀i∈iW .any ops listed,wpOp P ops Q i (λa' w'=>uD R F ss i w w'/\∀cT,R w' cT->B8 P ops Q R F ss fuel (listed.setIfInBounds i true) a' cT) a w
def aa1 (c:∀w,R w w):∀(fuel:Nat) (b:Array Bool) (a:bb) (w:aB),B8 P ops Q R F ss fuel b a w->wpAny P .any ops Q fuel b a w
 |0,_,_,_,h=>h
 |fuel+1,_,_,_,h=>⟨h.1,λi hi=>wpOp_mono (λd w' h'=>aa1 c fuel _ d w' (h'.2 w' (c w'))) (h.2 i hi)⟩
def aa2 (D:∀w,R w w) (q:∀{a b c},R a b->R b c->R a c) (B:∀{a b c},G a b->G b c->G a c) (z:∀{a b},R a b->G a b) {i:Nat} {d:bv} {v:aE} (hi:ops[i]?=ad d) (Y:v6 ss i=0) (A:∀(j:Nat) (o:bv) cs b,ops[j]?=ad o->o.op≠.select cs b) (V:∀c a w,Q (.panic c) (a.put d.dst v) w->Q (.panic c) a w):∀(fuel:Nat) (listed:Array Bool) (a:bb) (b:aB),(∀j m,ops[j]?=ad m->j≠i->listed.getD j true=false->(∀e∈m.after,Region.binds .any e=true->e.on≠i)->d.apart ops m=true/\∀{x y},uD R F ss j x y->G x y)->i∈iW .any ops listed->rS P ops R G d v a b->(∀w,R b w->B8 P ops Q R F ss fuel (listed.setIfInBounds i true) (a.put d.dst v) w)->∀w,R b w->B8 P ops Q R F ss (fuel+1) listed a w:=by
 have own:∀{x y:aB},R x y->uD R F ss i x y:=λh=>by unfold uD;rw[Y];exact h
 intro fuel;induction fuel with
 |zero=>
  intro listed a b _ er p H w g;refine⟨λh=>arq,λj hj=>?_⟩;by_cases f:j=i
  ·subst f;exact p.run D hi w (z g) _ (λw' n=>⟨own n,λl t=>H l (q (q g n) t)⟩)
  ·have:=ready_mono hj f;rw[(H w g).1] at this;cases this
 |succ fuel O=>
  intro listed a b L er p H w g;refine⟨λh=>arq,λj hj=>?_⟩;by_cases f:j=i
  ·subst f;exact p.run D hi w (z g) _ (λw' n=>⟨own n,λl t=>H l (q (q g n) t)⟩)
  ·have h1:=(H w g).2 j (ready_mono hj f);obtain⟨J,m,r,iY⟩:=mem_ready.1 hj;have M:∀e∈m.after,Region.binds .any e=true->e.on≠i:=λe he Z Wv=>by
    exact Wu
   have X:rS P ops R G d v a w:=p.of_same (λ_ Z=>B (z g) Z) rfl rfl;have E:=L j m r f J M;have h2:=aky (R:=R) (G:=G) (w:=w) (S:=uD R F ss j) (K:=λu w'=>∀l,R w' l->B8 P ops Q R F ss fuel ((listed.setIfInBounds i true).setIfInBounds j true) u l) B E.2 r E.1 (λcs b=>A i d cs b hi) (λcs b=>A j m cs b r) V X h1;have W:∀k ok,ops[k]?=ad ok->k≠i->(listed.setIfInBounds j true).getD k true=false->(∀e∈ok.after,Region.binds .any e=true->e.on≠i)->d.apart ops ok=true/\∀{x y},uD R F ss k x y->G x y:=λk ok U N C T=>by
    refine L k ok U N ?_ T;by_cases I:j=k
    ·subst I;exact J
    ·rw[getD_set_ne true I] at C;exact C
   refine wpOp_mono (λu w' s=>⟨s.1,?_⟩) h2;refine O (listed.setIfInBounds j true) u w' W (ready_mono er (Ne.symm f)) s.2.1 ?_;intro l n;rw[Array.setIfInBounds_comm _ _ f];exact s.2.2 l n
def Ec (P:cp) (ops:Array bv) (Q:Exit->bb->aB->Prop) (R S:aB->aB->Prop) (i:Nat) (a:bb) (b:aB) (Φ:bb->aB->Prop):Prop:=∃o,ops[i]?=ad o/\∀w,R b w->∀K:bb->aB->Prop,(∀a' w',S w w'->Φ a' w'->K a' w')->if dz o (dR ops a.tmps)=true then o.wp P a w K Q else K (a.put o.dst cu) w
def v8 (P:cp) (ops:Array bv) (Q:Exit->bb->aB->Prop) (R F:aB->aB->Prop):e7->bb->aB->Prop
 |.nil,a,b=>∀w,R b w->Q .normal a w
 |.k n i js,a,b=>∃o,ops[i]?=ad o/\(if dz o (dR ops a.tmps) then∃v,(∀w,rR R F n b w->nd P R o a w v)/\v8 P ops Q R F js (a.put o.dst v) b else v8 P ops Q R F js (a.put o.dst cu) b)
 |.t n i js,a,b=>Ec P ops Q R (rR R F n) i a b (v8 P ops Q R F js)
 |.l7 i js j ks,a,b=>Ec P ops Q R R i a b (v8 P ops Q R F js)/\Ec P ops Q R R j a b (v8 P ops Q R F ks)
 |.zH i js j ks k ls,a,b=>Ec P ops Q R R i a b (v8 P ops Q R F js)/\Ec P ops Q R R j a b (v8 P ops Q R F ks)/\Ec P ops Q R R k a b (v8 P ops Q R F ls)
def uE:e7->List Nat×List Nat
 |.nil=>([],[])
 |.k _ _ js=>uE js
 |.t 0 _ js=>uE js
 |.t 1 i js=>(i::(uE js).1,(uE js).2)
 |.t _ i js=>((uE js).1,i::(uE js).2)
 |.l7 _ js _ _=>uE js
 |.zH _ js _ _ _ _=>uE js
def rT:e7->Nat
 |.nil=>0
 |.k _ _ js=>rT js+1
 |.t _ _ js=>rT js+1
 |.l7 _ js _ _=>rT js+1
 |.zH _ js _ _ _ _=>rT js+1
def wl6 (ss:List Nat×List Nat):Nat->List Nat
 |0=>ss.1++ss.2
 |1=>ss.2
 |_=>[]
def Sv (ops:Array bv) (j i:Nat):Bool:=match ops[j]? with|some o=>o.after.any λe=>e.on==i&&Region.binds .any e|none=>false
def pL (ops:Array bv) (ss:List Nat×List Nat):e7->Array Bool->Bool
 |.nil,L=>iW .any ops L==[]
 |.k n i js,L=>Region.free .any ops L i&&(iW .any ops L).contains i&&(v6 ss i==0)&&((wl6 ss n).all λj=>L.getD j true||Sv ops j i)&&pL ops ss js (L.setIfInBounds i true)
 |.t n i js,L=>(iW .any ops L==[i])&&decide (n<=v6 ss i)&&pL ops ss js (L.setIfInBounds i true)
 |.l7 i js j ks,L=>(iW .any ops L==[i,j])&&(v6 ss i==0)&&(v6 ss j==0)&&(rT js==rT ks)&&pL ops ss js (L.setIfInBounds i true)&&pL ops ss ks (L.setIfInBounds j true)
 |.zH i js j ks k ls,L=>(iW .any ops L==[i,j,k])&&(v6 ss i==0)&&(v6 ss j==0)&&(v6 ss k==0)&&(rT js==rT ks)&&(rT js==rT ls)&&pL ops ss js (L.setIfInBounds i true)&&pL ops ss ks (L.setIfInBounds j true)&&pL ops ss ls (L.setIfInBounds k true)
def akz (h:k=0->j∉ss.1/\j∉ss.2) (a:k=1->j∉ss.2):v6 ss j<=k:=by
 unfold v6;rcases kJ k with rfl|hk
 ·rw[af (am ((h rfl).2)),af (am ((h rfl).1))];exact aO _
 ·rcases gy 1 k with h2|h2
  ·split
   ·omega
   ·split<;>omega
  ·obtain rfl:k=1:=by omega
   rw[af (am (a rfl))];split<;>omega
def Sw (d:∀{a b},R a b->F a b) {j k:Nat} (h:j<=k) {a b:aB} (c:rR R F j a b):rR R F k a b:=by
 match j,k,h with
 |0,0,_=>exact c
 |0,1,_=>exact d c
 |0,k+2,_=>exact trivial
 |1,1,_=>exact c
 |1,k+2,_=>exact trivial
 |j+2,k+2,_=>exact trivial
def aa3 (e:∀{a b c},R a b->R b c->R a c) (d:∀{a b c},F a b->F b c->F a c):∀(n:Nat) {a b c:aB},rR R F n a b->rR R F n b c->rR R F n a c
 |0,_,_,_,h,k=>e h k
 |1,_,_,_,h,k=>d h k
 |_+2,_,_,_,_,_=>trivial
def aa4 {ls:List Nat} {L:Array Bool} (g:(ls.all λj=>L.getD j true||Sv ops j i)=true) (hj:ops[j]?=ad oj) (b:L.getD j true=false) (c:∀e∈oj.after,Region.binds .any e=true->e.on≠i):j∉ls:=by
 intro f;have a:=List.all_eq_true.1 g j f;rw[b,Bool.false_or] at a;unfold Sv at a;rw[hj] at a;simp only[Array.any_eq_true'] at a;obtain⟨e,d,h2⟩:=a;rw[b9,beq_iff_eq] at h2;exact c e d h2.2 h2.1
def akA {S:aB->aB->Prop} {b:aB} {m:Nat} (d:iW .any ops listed=[i]) (h:Ec P ops Q R S i a b Φ) (n:∀{x y},S x y->uD R F ss i x y) (k:∀c w',Φ c w'->∀w,R w' w->B8 P ops Q R F ss m (listed.setIfInBounds i true) c w):∀w,R b w->B8 P ops Q R F ss (m+1) listed a w:=by
 intro w f;obtain⟨o,ho,l⟩:=h;refine⟨λh0=>ae (d.symm.trans h0) av,λj hj=>?_⟩;obtain rfl:j=i:=by rw[d] at hj;simpa using hj
 refine wpOp_step ho λs e=>?_;exact l w f s λc w' p g=>e c w' ⟨n p,λr q=>k c w' g r q⟩
theorem aa5 {P:Prop} (h:P:=by
 obtain⟨o,ho,hh⟩:=h.1;refine wpOp_step ho λK' oH=>?_;exact hh w hw K' λa' w' hR hq=>oH a' w' ⟨by unfold uD;rw[hi];exact hR,λcT eE=>Ed hr fv mC qB hs hQ js _ a' w' bg hq cT eE⟩;):P:=h
theorem aa6 {P:Prop} (h:P:=by
 refine wpOp_step ho λK' oH=>?_;exact hh w hw K' λa' w' hR hq=>oH a' w' ⟨by unfold uD;rw[hj];exact hR,λcT eE=>by rw[hl];exact Ed hr fv mC qB hs hQ ks _ a' w' bN hq cT eE⟩;):P:=h
def Ed (hr:∀w,R w w) (fv:∀{a b c},R a b->R b c->R a c) (mC:∀{a b c},F a b->F b c->F a c) (qB:∀{a b},R a b->F a b) (hs:Region.noSelect ops=true) (hQ:∀(i:Nat) (o:bv),ops[i]?=ad o->∀c a v w,Q (.panic c) (Act.put a o.dst v) w->Q (.panic c) a w):∀(js:e7) (d:Array Bool) (a:bb) (b:aB),pL ops ss js d=true->v8 P ops Q R F js a b->∀w,R b w->B8 P ops Q R F ss (rT js) d a w
 |.nil,d,a,b,hB,h,w,hw=>⟨by simpa[pL] using hB,h w hw⟩
 |.k n i js,d,a,b,hB,h,w,hw=>by
  simp only[pL,b9,beq_iff_eq] at hB
  obtain⟨⟨⟨⟨M,C⟩,E⟩,D⟩,B⟩:=hB
  obtain⟨o,ho,h⟩:=h
  have I:∀j f,ops[j]?=ad f->j≠i->d.getD j true=false->(∀e∈f.after,Region.binds .any e=true->e.on≠i)->o.apart ops f=true/\∀{x y},uD R F ss j x y->rR R F n x y:=λj f hj J p r=>by
   refine⟨Region.free_spec ho M j f hj J p r,λ{x y} hl=>Sw qB (akz ?_ ?_) hl⟩
   ·intro hn;subst hn;have l:=aa4 D hj p r;exact⟨λu=>l (kf.2 (.inl u)),λu=>l (kf.2 (.inr u))⟩
   ·intro hn;subst hn;exact aa4 D hj p r
  have H:∀{x y},R x y->rR R F n x y:=λs=>Sw qB (bV n) (j:=0) s
  by_cases m:dz o (dR ops a.tmps)=true
  ·rw[ag m] at h;obtain⟨v,l,h2⟩:=h;exact aa2 (G:=rR R F n) hr fv (aa3 (R:=R) (F:=F) fv mC n) H ho E (Region.noSelect_spec hs) (λc a w=>hQ i o ho c a _ w) _ d a b I (am C) (.on m l) (λw' z=>Ed hr fv mC qB hs hQ js _ _ b B h2 w' z) w hw
  ·rw[af m] at h;exact aa2 (G:=rR R F n) hr fv (aa3 (R:=R) (F:=F) fv mC n) H ho E (Region.noSelect_spec hs) (λc a w=>hQ i o ho c a _ w) _ d a b I (am C) (.off (am m) rfl) (λw' z=>Ed hr fv mC qB hs hQ js _ _ b B h w' z) w hw
 |.t n i js,d,a,b,hB,h,w,hw=>by
  simp only[pL,b9,beq_iff_eq,decide_eq_true_eq] at hB
  exact akA hB.1.1 h (λ{x y} s=>by unfold uD;exact Sw qB hB.1.2 s) (λa' w' L=>Ed hr fv mC qB hs hQ js _ a' w' hB.2 L) w hw
 |.l7 i js j ks,d,a,b,hB,h,w,hw=>by
  simp only[pL,b9,beq_iff_eq] at hB
  obtain⟨⟨⟨⟨⟨h2,hi⟩,hj⟩,hl⟩,bg⟩,bN⟩:=hB
  refine⟨λh0=>ae (h2.symm.trans h0) av,λk g=>?_⟩
  rw[h2] at g
  simp only[ee,kg,or_false] at g
  rcases g with rfl|rfl
  ·exact aa5
  ·obtain⟨o,ho,hh⟩:=h.2;exact aa6
 |.zH i js j ks k ls,d,a,b,hB,h,w,hw=>by
  simp only[pL,b9,beq_iff_eq] at hB
  obtain⟨⟨⟨⟨⟨⟨⟨⟨h2,hi⟩,hj⟩,g⟩,hl⟩,K⟩,bg⟩,bN⟩,N⟩:=hB
  refine⟨λh0=>ae (h2.symm.trans h0) av,λq hq=>?_⟩
  rw[h2] at hq
  simp only[ee,kg,or_false] at hq
  rcases hq with rfl|rfl|rfl
  ·exact aa5
  ·obtain⟨o,ho,hh⟩:=h.2.1;exact aa6
  ·obtain⟨o,ho,hh⟩:=h.2.2;refine wpOp_step ho λK' oH=>?_;exact hh w hw K' λa' w' hR hq=>oH a' w' ⟨by unfold uD;rw[g];exact hR,λcT eE=>by rw[K];exact Ed hr fv mC qB hs hQ ls _ a' w' N hq cT eE⟩
structure S6 (P:cp) (ops:Array bv) (Q:Exit->bb->aB->Prop) (R F:aB->aB->Prop) (js:e7) (a:bb) (b:aB):Prop where
 A:v8 P ops Q R F js a b
def S6.bh {b:aB} (h:∀w,R b w->Q .normal a w):S6 P ops Q R F .nil a b:=⟨h⟩
def S6.k_ {js:e7} {b:aB} (h:∀K:bb->Prop,(∀c,S6 P ops Q R F js c b->K c)->if dz o (dR ops a.tmps) then∃v,(∀w,rR R F n b w->nd P R o a w v)/\K (a.put o.dst v) else K (a.put o.dst cu)) (ho:ops[i]?=ad o):S6 P ops Q R F (.k n i js) a b:=⟨⟨o,ho,h (λc=>v8 P ops Q R F js c b) λc h'=>h'.A⟩⟩
def S6.q {js:e7} {b:aB} (h:∀K:bb->Prop,(∀c,S6 P ops Q R F js c b->K c)->if dz o (dR ops a.tmps) then∃v,(∀w,R b w->nd P R o a w v)/\K (a.put o.dst v) else K (a.put o.dst cu)) (ho:ops[i]?=ad o:=by rfl):S6 P ops Q R F (.k 0 i js) a b:=S6.k_ (n:=0) h ho
def S6.p {js:e7} {b:aB} (h:∀K:bb->Prop,(∀c,S6 P ops Q R F js c b->K c)->if dz o (dR ops a.tmps) then∃v,(∀w,F b w->nd P R o a w v)/\K (a.put o.dst v) else K (a.put o.dst cu)) (ho:ops[i]?=ad o:=by rfl):S6 P ops Q R F (.k 1 i js) a b:=S6.k_ (n:=1) h ho
def S6.r {js:e7} {b:aB} (h:∀K:bb->Prop,(∀c,S6 P ops Q R F js c b->K c)->if dz o (dR ops a.tmps) then∃v,(∀w,True->nd P R o a w v)/\K (a.put o.dst v) else K (a.put o.dst cu)) (ho:ops[i]?=ad o:=by rfl):S6 P ops Q R F (.k 2 i js) a b:=S6.k_ (n:=2) h ho
def S6.t_ {js:e7} {b:aB} (h:∀w,R b w->∀K:bb->aB->Prop,(∀c w',rR R F n w w'->S6 P ops Q R F js c w'->K c w')->if dz o (dR ops a.tmps)=true then o.wp P a w K Q else K (a.put o.dst cu) w) (ho:ops[i]?=ad o):S6 P ops Q R F (.t n i js) a b:=⟨⟨o,ho,λw d K f=>h w d K λc w' e hs=>f c w' e hs.A⟩⟩
def S6.c {js:e7} {b:aB} (h:∀w,R b w->∀K:bb->aB->Prop,(∀c w',R w w'->S6 P ops Q R F js c w'->K c w')->if dz o (dR ops a.tmps)=true then o.wp P a w K Q else K (a.put o.dst cu) w) (ho:ops[i]?=ad o:=by rfl):S6 P ops Q R F (.t 0 i js) a b:=S6.t_ (n:=0) h ho
def S6.s {js:e7} {b:aB} (h:∀w,R b w->∀K:bb->aB->Prop,(∀c w',F w w'->S6 P ops Q R F js c w'->K c w')->if dz o (dR ops a.tmps)=true then o.wp P a w K Q else K (a.put o.dst cu) w) (ho:ops[i]?=ad o:=by rfl):S6 P ops Q R F (.t 1 i js) a b:=S6.t_ (n:=1) h ho
def S6.z {js:e7} {b:aB} (h:∀w,R b w->∀K:bb->aB->Prop,(∀c w',S6 P ops Q R F js c w'->K c w')->if dz o (dR ops a.tmps)=true then o.wp P a w K Q else K (a.put o.dst cu) w) (ho:ops[i]?=ad o:=by rfl):S6 P ops Q R F (.t 2 i js) a b:=S6.t_ (n:=2) (λw d K e=>h w d K λc w' hs=>e c w' trivial hs) ho
def S6.l7 {js ks:e7} {b:aB} (hi:ops[i]?=ad oi) (hj:ops[j]?=ad oj) (g:∀w,R b w->∀K:bb->aB->Prop,(∀c w',R w w'->S6 P ops Q R F js c w'->K c w')->if dz oi (dR ops a.tmps)=true then oi.wp P a w K Q else K (a.put oi.dst cu) w) (h2:∀w,R b w->∀K:bb->aB->Prop,(∀c w',R w w'->S6 P ops Q R F ks c w'->K c w')->if dz oj (dR ops a.tmps)=true then oj.wp P a w K Q else K (a.put oj.dst cu) w):S6 P ops Q R F (.l7 i js j ks) a b:=⟨⟨⟨oi,hi,λw d K f=>g w d K λc w' e hs=>f c w' e hs.A⟩,⟨oj,hj,λw d K f=>h2 w d K λc w' e hs=>f c w' e hs.A⟩⟩⟩
def S6.zH {js ks ls:e7} {ok:bv} {b:aB} (hi:ops[i]?=ad oi) (hj:ops[j]?=ad oj) (g:ops[k]?=ad ok) (l:∀w,R b w->∀K:bb->aB->Prop,(∀c w',R w w'->S6 P ops Q R F js c w'->K c w')->if dz oi (dR ops a.tmps)=true then oi.wp P a w K Q else K (a.put oi.dst cu) w) (h2:∀w,R b w->∀K:bb->aB->Prop,(∀c w',R w w'->S6 P ops Q R F ks c w'->K c w')->if dz oj (dR ops a.tmps)=true then oj.wp P a w K Q else K (a.put oj.dst cu) w) (h:∀w,R b w->∀K:bb->aB->Prop,(∀c w',R w w'->S6 P ops Q R F ls c w'->K c w')->if dz ok (dR ops a.tmps)=true then ok.wp P a w K Q else K (a.put ok.dst cu) w):S6 P ops Q R F (.zH i js j ks k ls) a b:=⟨⟨⟨oi,hi,λw d K f=>l w d K λc w' e hs=>f c w' e hs.A⟩,⟨oj,hj,λw d K f=>h2 w d K λc w' e hs=>f c w' e hs.A⟩,⟨ok,g,λw d K f=>h w d K λc w' e hs=>f c w' e hs.A⟩⟩⟩
def aa7 {k:Nat} {l:List bv} (R F:aB->aB->Prop) (f:∀w,R w w) (q:∀{a b c},R a b->R b c->R a c) (j:∀{a b c},F a b->F b c->F a c) (g:∀{a b},R a b->F a b) (js:e7) (n:R w w.drew) (h:S6 P l.toArray Q R F js a w) (m:P.follows .mixedOrders=true:=by kernel_rfl) (hB:(Region.noSelect l.toArray&&pL l.toArray (uE js) js (tN l.toArray.size false)&&(rT js==l.toArray.size))=true:=by kernel_rfl) (p:∀o∈l,∀c a v w,Q (.panic c) (Act.put a o.dst v) w->Q (.panic c) a w:=by exact apB ar):(Code.region k l.toArray true).wp P Q a w:=by
 simp only[b9,beq_iff_eq] at hB;obtain⟨⟨hs,e⟩,h2⟩:=hB;refine wp_region_any m ?_;have d:=aa1 f _ _ _ _ (Ed (R:=R) (F:=F) (ss:=uE js) f (λe h2=>q e h2) (λe h2=>j e h2) (λh=>g h) hs (λi o hi c a v w h=>p o (by simpa using List.mem_of_getElem? (by simpa using hi:l[i]?=ad o)) c a v w h) js _ a w e h.A w.drew n);rw[h2] at d;exact d
def wa {i:Nat} {l:List bv} (R F:aB->aB->Prop) (j:∀w,R w w) (p:∀{a b c},R a b->R b c->R a c) (g:∀{a b c},F a b->F b c->F a c) (f:∀{a b},R a b->F a b) (js:e7) (m:R w w.drew) (h:S6 P l.toArray Q R F js a w) (k:P.follows .mixedOrders=true:=by kernel_rfl) (hB:(Region.noSelect l.toArray&&pL l.toArray (uE js) js (tN l.toArray.size false)&&(rT js==l.toArray.size))=true:=by kernel_rfl) (n:∀c a d v w,Q (.panic c) (Act.put a d v) w->Q (.panic c) a w:=by intro _ _ oI _ _ h;cases oI<;>exact h):(Code.region i l.toArray true).wp P Q a w:=aa7 R F j (λe h2=>p e h2) (λe h2=>g e h2) (λh=>f h) js m h k hB (λo _ c a v w h=>n c a o.dst v w h)
def aa8 (D:List Deferred) (ps:List (Nat×aE)) (Pp:List PanicEntry->aB->Prop) (Q:Exit->bb->aB->Prop):Exit->bb->aB->Prop
 |.normal,a,w=>Q .normal a w
 |.panic c,a,w=>a.defers=D/\(∀p∈ps,a.tmps.getD p.1 cu=p.2)/\Pp c w
 |_,_,_=>False
def akB {c:Code} {D:List Deferred} {ps:List (Nat×aE)} {Pp:List PanicEntry->aB->Prop} (b:∀c a w,a.defers=D->(∀p∈ps,a.tmps.getD p.1 cu=p.2)->Pp c w->Q (.panic c) a w) (h:c.wp P (aa8 D ps Pp Q) a w):c.wp P Q a w:=wp_mono h λe a w h=>by cases e<;>first|exact h|exact h.elim|exact b _ _ _ h.1 h.2.1 h.2.2
def apB {l:List bv} {D:List Deferred} {ps:List (Nat×aE)} {Pp:List PanicEntry->aB->Prop} (i:(l.all λo=>ps.all λp=>o.dst !=ad p.1)=true):∀o∈l,∀c a v w,aa8 D ps Pp Q (.panic c) (Act.put a o.dst v) w->aa8 D ps Pp Q (.panic c) a w:=by
 rintro o ho c a v w⟨g,h2,j⟩;have hn:=List.all_eq_true.1 i o ho;refine⟨?_,λp e=>?_,j⟩
 ·cases b:o.dst<;>rw[b] at g<;>exact g
 ·have h4:=h2 p e;have f:=List.all_eq_true.1 hn p e;cases b:o.dst with
  |none=>rw[b] at h4;exact h4
  |some d=>
   rw[b] at h4 f;have k:d≠p.1:=am f;rw[<-h4];simp only[Act.put];rw[Array.getD_eq_getD_getElem?,Array.getD_eq_getD_getElem?,Array.getElem?_setIfInBounds_ne k]
attribute [go_sem] aa8
end
structure Gy (r:Nat) (W:aB) where
 aL:aB
 gr:W.grownBy aL (ad r)
instance (r:Nat) (W:aB):Inhabited (Gy r W):=⟨⟨W,grown_of (bk _ _)⟩⟩
def jT (r:Nat) (w w':aB):Prop:=∃p:Gy r w,w'=p.aL
def jT.trans {r:Nat} {a b c:aB} (h:jT r a b) (k:jT r b c):jT r a c:=by
 obtain⟨p,rfl⟩:=h;obtain⟨q,rfl⟩:=k;exact⟨⟨q.aL,bB p.gr q.gr⟩,rfl⟩
def jT.of {r:Nat} {a b:aB} (h:aF a b):jT r a b:=⟨⟨b,grown_of h.aC⟩,rfl⟩
def jT.gr {r:Nat} {a b:aB} (h:a.grownBy b (ad r)):jT r a b:=⟨⟨b,h⟩,rfl⟩
def Gy.cells {r:Nat} (h:aI w g t cs) (a:g≠r) (i:Nat):∀p:Gy r w,p.aL.cell? (ab g i M)=cs[i]?:=λp=>(h.gr p.gr a).cell i
attribute [go_sem] jT
def jT.refl {r:Nat} (w:aB):jT r w w:=⟨⟨w,grown_of (bk _ _)⟩,rfl⟩
def jT.drew {r:Nat} (w:aB):jT r w w.drew:=.of (aF.drew w)
def xJ (_ _:aB):Prop:=True
def xJ.trans {a b c:aB} (_:xJ a b) (_:xJ b c):xJ a c:=trivial
def xJ.of {a b:aB} (_:aF a b):xJ a b:=trivial
attribute [go_sem] xJ
def dq (i:Nat):Nat->e7->e7
 |0,t=>t
 |n+1,t=>.q i (dq (i+1) n t)
def hb {P:cp} {b:Nat} {l:List bv} (js:e7) (h:S6 P l.toArray Q aF xJ js a w) (e:P.follows .mixedOrders=true:=by kernel_rfl) (hB:(Region.noSelect l.toArray&&pL l.toArray (uE js) js (tN l.toArray.size false)&&(rT js==l.toArray.size))=true:=by kernel_rfl) (f:∀c a d v w,Q (.panic c) (Act.put a d v) w->Q (.panic c) a w:=by intro _ _ oI _ _ h;cases oI<;>exact h):(Code.region b l.toArray true).wp P Q a w:=wa aF xJ aF.refl aF.trans xJ.trans (λ_=>trivial) js (aF.drew _) h e hB f
def S6.nb {P:cp} {F:aB->aB->Prop} {b:aB} (h:∀w,aS b.heap.size b w->Q .normal a w):S6 P ops Q aF F .nil a b:=⟨λw c=>h w c.aC⟩
theorem bP {Q:Prop} (k:Q) (h:a6 Q->P:=by
 intro nf;repeat (
  (first|refine S6.q (λKK aJ=>?_)|refine S6.p (λKK aJ=>?_)|refine S6.r (λKK aJ=>?_));go_simp;refine aJ _ ?_;clear aJ KK)
 exact nf.A):P:=h k
variable {cs':Array aE}
structure k7 (g:Nat) (w w':aB):Prop where
 rest:∀b,b≠g->b<w.heap.size->w'.heap[b]?=w.heap[b]?
 typed:∀e b,bp w e b->bp w' e b
 no:∀o z,w.cell? (ab g o M)≠ad (ap z)
section
variable {α:Type} {D:Kr α} {w w':aB} {B g:Nat} {v:aE} {l:List α}
def Rs.apart (b:∀x us,D.rel w B x us->D.rel w' B x us) {us:List aE} (h:Rs D w B l us):Rs D w' B l us:=by
 induction h with
 |nil=>exact .nil
 |cons h _ a=>exact .cons (b _ _ h) a
def Vs.apart (hs:∀x us,D.rel w B x us->∃z,us[0]?=ad (ap z)) (o:∀x us,D.rel w B x us->D.rel w' B x us) (e:k7 g w w') (h:Vs D w B v l):Vs D w' B v l:=by
 obtain⟨ao,n,c,rfl,⟨k,us,j,m⟩,p,h2⟩:=h.A;refine⟨ao,n,c,rfl,⟨k,us,j.apart o,λhn=>?_⟩,p,h2⟩;obtain⟨b,off,rfl,Z,d⟩:=m hn;have q:b≠g:=by
  rintro rfl;clear h;cases j with
  |nil=>rw[<-k] at hn;simp at hn
  |@cons x xs vs vt hx _=>
   obtain⟨z,f⟩:=hs _ _ hx;have h0:=d 0 hn;have a:(vs++vt)[0]?=ad (ap z):=by rw[List.getElem?_append_left (yy.1 f).1];exact f
   simp only[dd] at h0;rw[a] at h0;exact e.no _ _ h0
 refine⟨b,off,rfl,Z.imp id (e.typed _ _),λi hi=>?_⟩;have r:b<w.heap.size:=by
  rcases gy b w.heap.size with h'|h'
  ·exact h'
  ·have h0:=d i hi;simp[World.cell?,Array.getElem?_eq_none_iff.2 h'] at h0
 rw[wK (e.rest b q r)];exact d i hi
end
section
variable {w w':aB} {B g:Nat} {v:aE}
def k7.mt (a:k7 g w w') {l:List wU} (h:Vs jG w B v l):Vs jG w' B v l:=Vs.apart (w:=w) (w':=w') (B:=B) (λx us h=>by obtain⟨rfl,_⟩:=h;exact⟨_,au⟩) (λ_ _ h=>h) a h
def k7.pr (a:k7 g w w') {l:aZ} (h:Vs bE w B v l):Vs bE w' B v l:=Vs.apart (w:=w) (w':=w') (B:=B) (λx us h=>by obtain⟨rfl,_⟩:=h;exact⟨_,au⟩) (λ_ _ h=>h) a h
def k7.vR (a:k7 g w w') {l:List cv} (h:Vs lS w B v l):Vs lS w' B v l:=Vs.apart (w:=w) (w':=w') (B:=B) (λx us h=>by obtain⟨_,_,rfl,_⟩:=h;exact⟨_,au⟩) (λx us h=>by obtain⟨v2,v7,e,h0,c,h2,b⟩:=h;exact⟨v2,v7,e,h0,c,a.mt h2,a.pr b⟩) a h
def k7.gr (a:k7 g w w') {l:List cC} (h:Vs fG w B v l):Vs fG w' B v l:=Vs.apart (w:=w) (w':=w') (B:=B) (λx us h=>by obtain⟨_,rfl,_⟩:=h;exact⟨_,au⟩) (λx us h=>by obtain⟨v3,e,h0,b⟩:=h;exact⟨v3,e,h0,a.vR b⟩) a h
def k7.set (Z:aI w g t cs) (hn:∀(i:Nat) (z:ByteArray),cs[i]?≠ad (ap z)) (o:Nat) (u:aE):k7 g w (w.setCell (ab g o M) u):=by
 refine⟨λb a _=>yv _ _ _ _ a,λe b c=>?_,λi z h=>hn i z ((Z.cell i).symm.trans h)⟩;by_cases a:b=g
 ·subst a;obtain rfl:=c.q9 (bp.bO Z);exact bp.bO (Z.put o u)
 ·obtain⟨cs',fr,h⟩:=c;exact⟨cs',fr,(yv _ _ _ _ a).trans h⟩
def k7.grown (Z:aI w g t cs) (d:aI w' g t cs') (hg:w.grownBy w' (ad g)) (hn:∀(i:Nat) (z:ByteArray),cs[i]?≠ad (ap z)):k7 g w w':=by
 refine⟨λb a f=>hg.block b f (λe=>a aqE),λe b c=>?_,λi z h=>hn i z ((Z.cell i).symm.trans h)⟩;by_cases a:b=g
 ·subst a;obtain rfl:=c.q9 (bp.bO Z);exact bp.bO d
 ·obtain⟨cs',fr,h⟩:=c;exact⟨cs',fr,(hg.block b (bp.lt ⟨cs',fr,h⟩) (λe=>a aqE)).trans h⟩
end
variable {α:Type}
section
open im (dT fe)
theorem adx (h:P:=by
 have:=ih (λb Z=>h b (by simp[Z]));have nu:=alC ha.1 ha.2.1 ha.2.2;simp only[List.flatMap_cons,b2,pY];omega;):P:=h
def am9 {s:eX} (f:db s.k.1=true) (h2:db s.k.2=true) (e:fY s.x=true):(oV s).length<=55000:=by
 have c:=qk.1 e;have n1:=(nM.1 f).2.1;have g:=(nM.1 h2).2.1;have d:∀zs:List b8,(∀a∈zs,a∈s.x.ao)->(zs.flatMap mF).length<=3400*zs.length:=by
  intro zs;induction zs with
  |nil=>intro _;simp
  |cons a zs ih=>
   intro h;have ha:=c.2.2.1 a (h a av);exact adx
 have h4:=d s.x.ao (λa h=>h);have l:=l9 (n:=s.k.1.size) an;have k:=l9 (n:=s.k.2.size) an;have j:=l9 (n:=s.x.full.toNat) an;have i:=l9 (n:=s.x.ao.length) an;unfold oV oU;simp only[b2,yO];have:=c.1;omega
def ady {l:List eX} (h:kz l=true) (k:Nat):((l.take k).flatMap oV).length<=55000*256:=by
 have d:=FQ h;have:∀zs:List eX,(∀s∈zs,s∈l)->(zs.flatMap oV).length<=55000*zs.length:=by
  intro zs;induction zs with
  |nil=>intro _;simp
  |cons a zs e=>
   intro h;have c:=d.2 a (h a av);have:=e (λb Z=>h b (by simp[Z]));have g:=am9 c.1 c.2.1 c.2.2;simp only[List.flatMap_cons,b2,pY];omega
 have f:=this (l.take k) (λs hs=>List.mem_of_mem_take hs);rw[tH] at f;have:=d.1;omega
def adz (f:α->List UInt8) {l:List α} {k:Nat} (a:k<l.length):(l.take (k+1)).flatMap f=(l.take k).flatMap f++f l[k]:=by
 rw[yz a,List.flatMap_append];simp
def ana {l:List eX} (w:aB) (h:Vs jH w B v l):aN aH 83 #[v] w λe w'=>(∃v',e=aQ v'/\bQ w' 0 5 v' (gV l))/\aF w w':=by
 have hs:=Sb w h;obtain⟨ao,cap,rfl,hP,cn,b4⟩:=h.be;have HP:=E hP;have T:=E (show gV l=if kz l=true then bu l.length++l.flatMap oV else[] from rfl);generalize gV l=r at T⊢;clear h hP;cases D:kz l with
 |false=>
  have X:=E (show r=[] by rw[T.A,D];rfl);rw[D] at hs;clear D;go_enter func83,ntmps83;go_wp2_with fail;refine hs.ah ?_;rintro e U⟨rfl,Z⟩;have f:=E Z;clear hs Z;go_wp2;go_ret;exact⟨⟨_,rfl,by rw[X.A];exact bQ.bh _ _ _⟩,f.A⟩
 |true=>
  have X:=E (show r=bu l.length++l.flatMap oV by rw[T.A,D];rfl);have Y:=E (FQ D);have dn:=E (ady D);rw[D] at hs;clear D T;go_enter func83,ntmps83;go_wp2_with fail;refine hs.ah ?_;rintro e U⟨rfl,Z⟩;have f:=E Z;clear hs Z;have m:=z8 (l.length:Int) U (bQ.bh U 0 5) av (ai Y.A.1);go_wp2_with fail;refine m.ah ?_;rintro e w2⟨⟨v2,rfl,ho⟩,Z⟩;replace f:=E (f.A.trans (aF.of Z));have d:=E (show bQ w2 0 5 v2 (bu l.length++(l.take 0).flatMap oV) by simpa using ho);have Ft:=E (show(bu l.length).length<=9 from l9 (ai Y.A.1));have OC:=E (E1 l.length);clear m ho Z;go_wp2;go_loopw [3,16] (λa i wr=>∃k:Nat,k<=l.length/\i=J I k/\aF w wr/\a6 (bQ wr 0 5 a (bu l.length++(l.take k).flatMap oV))) (λ_ i _=>l.length-(intOf i).toNat);case atStart=>exact⟨0,an,rfl,f.A,d⟩
  case round=>
   clear f d;rename_i a i0 wr;obtain⟨k,hk,rfl,hB,d⟩:=hrel;by_cases g:k<l.length
   ·obtain⟨b,off,A0,c0,rfl,cw,y0,y1,y2,y3,bJ,R⟩:=HP.A.sv hB.aC g;have aR:=E g;have G:=E (adz oV g);have L:=E (Y.A.2 (l[k]'g) (dl g));rw[JA g] at G L;have OD:=E (dn.A k);have K:=E (show oV ⟨cz l k,fJ l k⟩=oU (cz l k).1++oU (cz l k).2++bu (fJ l k).full.toNat++bu (fJ l k).ao.length++(fJ l k).ao.flatMap mF from rfl);generalize oV ⟨cz l k,fJ l k⟩=UB at G K;have C:=E (show(cz l k).1.size<=64/\(cz l k).2.size<=64 from⟨(nM.1 L.A.1).2.1,(nM.1 L.A.2.1).2.1⟩);have o:=E (qk.1 L.A.2.2);obtain⟨nf,W⟩:=aP (cz l k);obtain⟨Gv,EI⟩:=aP (fJ l k);rw[W,EI] at K;rw[W] at y0 y1 C;rw[EI] at y2 y3 R o;obtain⟨u,t⟩:=nf;obtain⟨c,y⟩:=Gv;dsimp only at y0 y1 y2 y3 R;have K:=E (show UB=oU u++oU t++bu y.toNat++bu c.length++c.flatMap mF from K.A);have C:=E (show u.size<=64/\t.size<=64 from C.A);have o:=E (show c.length<=16/\(0<=y/\y<=9007199254740992)/\(∀a∈c,bH a.L=true/\fe a.h=true/\0<=a.st/\a.st<=2) from⟨o.A.1,o.A.2.1,o.A.2.2.1⟩);have F:=(bk wr.heap.size wr).alloc (aO _) (aD #[ap u,ap t,O A0 c.length c0,J I y] 205);have f:=E (hB.alloc (aD #[ap u,ap t,O A0 c.length c0,J I y] 205));have HX:=E (aI.new wr 205 #[ap u,ap t,O A0 c.length c0,J I y]);replace d:=E (d.A.al F);have q:=E (R.al F);have Q:=E (show(oU u).length<=100/\(oU t).length<=100/\(bu y.toNat).length<=9/\(bu c.length).length<=9 from⟨by unfold oU;rw[b2,yO];have:=l9 (n:=u.size) (ai C.A.1);have:=C.A.1;omega,by unfold oU;rw[b2,yO];have:=l9 (n:=t.size) (ai C.A.2);have:=C.A.2;omega,l9 (ai o.A.2.1),l9 (ai o.A.1)⟩);obtain⟨pre,N⟩:=aP (bu l.length++(l.take k).flatMap oV);have H:=E (show 0<pre.length/\pre.length<=14080009 by rw[<-N,b2];have:=Ft.A;have:=OC.A;have:=OD.A;omega);have qj:=E (show bu l.length++(l.take (k+1)).flatMap oV=pre++UB by rw[G.A,<-mV,N]);rw[N] at d;clear N W EI g R hB G L OD bJ F;have z:=HX.A.cell;have m:=abY u _ d.A (ai H.A) (ai C.A);go_wp2_with fail;refine(m).ah ?_;rintro e M⟨⟨V,rfl,p⟩,Z⟩;replace HX:=E (HX.A.al Z HX.A.lt);replace f:=E (f.A.trans (aF.of Z));replace d:=E p;replace q:=E (q.A.al Z);clear p Z;clear m z;have z:=HX.A.cell;have m:=abY t _ d.A (by rw[b2];have:=H.A;have:=Q.A;omega) (ai C.A);go_wp2_with fail;refine(m).ah ?_;rintro e M⟨⟨V,rfl,p⟩,Z⟩;replace HX:=E (HX.A.al Z HX.A.lt);replace f:=E (f.A.trans (aF.of Z));replace d:=E p;replace q:=E (q.A.al Z);clear p Z;clear m z;have z:=HX.A.cell;have m:=z8 y _ d.A (by rw[b2,b2];have:=H.A;have:=Q.A;omega) (ai o.A.2.1);go_wp2_with fail;refine(m).ah ?_;rintro e M⟨⟨V,rfl,p⟩,Z⟩;replace HX:=E (HX.A.al Z HX.A.lt);replace f:=E (f.A.trans (aF.of Z));replace d:=E p;replace q:=E (q.A.al Z);clear p Z;clear m z;have z:=HX.A.cell;have m:=z8 (c.length:Int) _ d.A (by rw[b2,b2,b2];have:=H.A;have:=Q.A;omega) (ai o.A.1);go_wp2_with fail;refine(m).ah ?_;rintro e M⟨⟨V,rfl,p⟩,Z⟩;replace HX:=E (HX.A.al Z HX.A.lt);replace f:=E (f.A.trans (aF.of Z));replace d:=E p;replace q:=E (q.A.al Z);clear p Z;clear m z;have z:=HX.A.cell;obtain⟨rr,S⟩:=aP (pre++oU u++oU t++bu y.toNat++bu (c.length:Int).toNat);have iQ:=E (show 0<rr.length/\rr.length<=14090000 by rw[<-S];simp only[b2,Int.toNat_natCast];have:=H.A;have:=Q.A;omega);have vE:=E (show pre++UB=rr++c.flatMap mF by rw[K.A,<-S];simp);rw[S] at d;clear S;obtain⟨A9,c9,nx,dE,Gb,Gc⟩:=q.A.be;cases nx;have eo:=E dE;have P6:=E f.A.size;have HZ:=f;clear dE HX q Gb Gc;go_wp2;go_loopw [3,45] (λa i vL=>∃j:Nat,j<=c.length/\i=J I j/\aF M vL/\a6 (bQ vL 0 5 a (rr++(c.take j).flatMap mF))) (λ_ i _=>c.length-(intOf i).toNat);case atStart=>exact⟨0,an,rfl,aF.refl _,E (am d.A)⟩
    case round=>
     clear d f;obtain⟨j,hj,rfl,hB,d⟩:=hrel;by_cases g:j<c.length
     ·obtain⟨gz,tQ,A1,c1,rfl,Jz,x0,x1,x2,x3,x4,Dy,a3,iK⟩:=eo.A.jP hB.aC g;have gY:=E g;have G:=E (show rr++(c.take (j+1)).flatMap mF=rr++(c.take j).flatMap mF++mF (c[j]'g) by rw[adz mF g,mV]);have aW:=E (show AOk (c[j]'g) from⟨(o.A.2.2 _ (dl g)).1,(o.A.2.2 _ (dl g)).2.1,(o.A.2.2 _ (dl g)).2.2⟩);have aJ:=E (show((c.take j).flatMap mF).length<=60000 by
       have:∀zs:List b8,(∀a∈zs,a∈c)->(zs.flatMap mF).length<=3400*zs.length:=by
        intro zs;induction zs with
        |nil=>intro _;simp
        |cons a zs ih=>
         intro h;have ha:=o.A.2.2 a (h a av);exact adx
       have h1:=this (c.take j) (λs hs=>List.mem_of_mem_take hs);rw[tH] at h1;have:=o.A.1;omega)
      have F:=(bk wr.heap.size wr).alloc (aO _) (aD #[O A1 (cX c j).length c1,aG (dx c j).on,J I (dx c j).dB,aG (dx c j).hit,J I (dx c j).eW,J I (gl c j),J I (oO c j)] 62);have f:=E (hB.alloc (aD #[O A1 (cX c j).length c1,aG (dx c j).on,J I (dx c j).dB,aG (dx c j).hit,J I (dx c j).eW,J I (gl c j),J I (oO c j)] 62));have aM:=E (show Tk (wr.alloc (aD #[O A1 (cX c j).length c1,aG (dx c j).on,J I (dx c j).dB,aG (dx c j).hit,J I (dx c j).eW,J I (gl c j),J I (oO c j)] 62)) B (aY #[O A1 (cX c j).length c1,aG (dx c j).on,J I (dx c j).dB,aG (dx c j).hit,J I (dx c j).eW,J I (gl c j),J I (oO c j)]) (c[j]'g) from by rw[show c[j]'g=(⟨cX c j,dx c j,gl c j,oO c j⟩:b8) from by unfold cX dx gl oO;rw[dr g]];exact⟨_,rfl,_,rfl,iK.al F⟩);replace d:=E (d.A.al F);have m:=alD _ d.A ⟨by rw[b2];have:=iQ.A;omega,by rw[b2];have:=iQ.A;have:=aJ.A;omega⟩ aM.A aW.A;have hX:=aI.new wr 62 #[O A1 (cX c j).length c1,aG (dx c j).on,J I (dx c j).dB,aG (dx c j).hit,J I (dx c j).eW,J I (gl c j),J I (oO c j)];have z:=hX.cell;clear hX F hB iK;go_wp2_with fail;refine(m).ah ?_;rintro e w7⟨⟨v7,rfl,UC⟩,tv⟩;have jM:=E (f.A.trans tv);have zV:=E UC;clear m UC tv;have a2:c.length<=16:=o.A.1;go_wp2;go_roundw;case rel=>exact⟨j+1,gY.A,by go_num,jM.A,E (by rw[G.A];exact zV.A)⟩
      case measure=>exact aqx
     ·obtain rfl:j=c.length:=by omega
      rw[pZ,<-vE.A,<-qj.A] at d;have gX:=E (HZ.A.trans hB);go_wp2;go_roundw;case rel=>exact⟨k+1,aR.A,by go_num,gX.A,d⟩
      case measure=>exact ax
   ·obtain rfl:k=l.length:=by omega
    rw[pZ] at d;go_wp2;go_ret;exact⟨⟨_,rfl,by rw[X.A];exact d.A⟩,hB⟩
end
variable {L aU:aZ} {us:List aE}
def r5 (L:aZ):List ByteArray:=L.flatMap λp=>[p.1,p.2]
def ou (L:aZ):List ByteArray:=r5 L++List.replicate (32-2*L.length) ⟨#[]⟩
def Ty (L:aZ):(r5 L).length=2*L.length:=by
 induction L with
 |nil=>rfl
 |cons p L a=>show(p.1::p.2::r5 L).length=_;simp[a];omega
def amd (h:Rs bE w B L us):us=(r5 L).map .string/\∀s∈r5 L,s.size<=9223372036854775807:=by
 induction h with
 |nil=>exact⟨rfl,by simp[r5]⟩
 |@cons a l vs us h _ ih=>
  obtain⟨rfl,c,h2⟩:=h;refine⟨?_,λs hs=>?_⟩
  ·show _=(a.1::a.2::r5 l).map ap;rw[ih.1];rfl
  ·have b:s∈a.1::a.2::r5 l:=hs;rcases ee.1 b with rfl|b
   ·exact c
   ·rcases ee.1 b with rfl|b
    ·exact h2
    ·exact ih.2 s b
def Od (a:L.length<=16) (hs:∀s∈r5 L,s.size<=9223372036854775807):(ou L).length=32/\∀s∈ou L,s.size<=bK:=by
 refine⟨by unfold ou;rw[b2,Ty,List.length_replicate];omega,λs h=>?_⟩;unfold ou at h;rcases kf.1 h with h|h
 ·have:=hs s h;simpa[bK] using this
 ·rw[(List.mem_replicate.1 h).2];decide
def lE:Array aE:=(List.replicate 32 (ap ⟨#[]⟩)).toArray
def ame (a:L.length<=16):(laid 0 ((r5 L).map .string) lE.toList)=(ou L).map .string:=by
 unfold laid lE ou;rw[List.toList_toArray,List.drop_replicate,List.take_zero,List.nil_append,lK,List.map_replicate,p6,Ty,ig]
def Tz (w:aB) (h:Vs bE w B v L) (o:L.length<=16):aN aH 152 #[v] w λe w'=>(e=aQ (.agg ((ou L).map .string).toArray)/\∀s∈r5 L,s.size<=9223372036854775807)/\aF w w':=by
 obtain⟨ao,cap,rfl,N,jc,cn⟩:=h.be;have l:aF w ((w.alloc (aD lE 250)).alloc (aD lE 250)):=((aF.refl w).alloc _).alloc _;obtain⟨us,J,n⟩:=(N.al l.aC).A;have LN:=amd J;obtain⟨rfl,y⟩:=LN;have Y:=E y;have Q:lE=#[ap ⟨#[]⟩,ap ⟨#[]⟩,ap ⟨#[]⟩,ap ⟨#[]⟩,ap ⟨#[]⟩,ap ⟨#[]⟩,ap ⟨#[]⟩,ap ⟨#[]⟩,ap ⟨#[]⟩,ap ⟨#[]⟩,ap ⟨#[]⟩,ap ⟨#[]⟩,ap ⟨#[]⟩,ap ⟨#[]⟩,ap ⟨#[]⟩,ap ⟨#[]⟩,ap ⟨#[]⟩,ap ⟨#[]⟩,ap ⟨#[]⟩,ap ⟨#[]⟩,ap ⟨#[]⟩,ap ⟨#[]⟩,ap ⟨#[]⟩,ap ⟨#[]⟩,ap ⟨#[]⟩,ap ⟨#[]⟩,ap ⟨#[]⟩,ap ⟨#[]⟩,ap ⟨#[]⟩,ap ⟨#[]⟩,ap ⟨#[]⟩,ap ⟨#[]⟩]:=au;have p:aI ((w.alloc (aD lE 250)).alloc (aD lE 250)) w.heap.size 250 lE:=(aI.new w _ _).alloc _;have a:aI ((w.alloc (aD lE 250)).alloc (aD lE 250)) (w.heap.size+1) 250 lE:=by
  have:=aI.new (w.alloc (aD lE 250)) 250 lE;simpa using this
 obtain⟨R,r⟩:=aP (((ou L).map ap).toArray);have m:R.size=32:=by rw[<-r,lM,p6];exact(Od o y).1
 have I:R.all (·.oneCell')=true:=by
  rw[<-r,Array.all_eq_true_iff_forall_mem];intro x V;obtain⟨s,_,rfl⟩:=hM.1 (am V);rfl
 have q:=E r;have T:=E l;obtain⟨f,H⟩:=aP ((w.alloc (aD lE 250)).alloc (aD lE 250));rw[H] at p a T n l;rw[Q] at H;obtain⟨d,C,S,t⟩:∃d,(∀ty,(Builtin.copy_ #[49,49] ty #[O (ad ⟨w.heap.size+1,0,M⟩) 16 16,O ao L.length cap]).run aH f= .ok (goInt L.length) d)/\aI d (w.heap.size+1) 250 R/\f.grownBy d (ad (w.heap.size+1)):=by
  have k:Nat.min L.length 16=L.length:=Nat.min_eq_left o;have z:(aH.info? 78).map (·.size)=ad 2:=ar;rcases kJ L.length with h0|h0
  ·have X:L=[]:=sb h0;subst X;refine⟨f,λty=>?_,?_,⟨rfl,rfl,rfl,aO _,λ_ _ _=>rfl⟩⟩
   ·cases K:aH.info? 78 with
    |none=>rw[K] at z;cases z
    |some i=>
     cases ao<;>simp[Builtin.copy_,mf underlying49,Builtin.lenOf,Builtin.firstCells,sizeOf,typeInfo,K,storeCells,loadCells,loadCellsFrom]
   ·rw[<-q.A];exact a
  ·obtain⟨b,off,rfl,Z,W⟩:=n (by show 0<L.length*2;omega);refine⟨f.setRow (w.heap.size+1) R,λty=>?_,a.setRow R,⟨rfl,rfl,rfl,arj,λb Z bq=>setRow_other _ _ _ _ (λe=>bq wH)⟩⟩;have u:((r5 L).map ap).length=Nat.min L.length 16*2:=by rw[p6,Ty,k];omega
   have:=DB (P:=aH) f 49 49 ty 78 2 (w.heap.size+1) 0 16 16 (ab b off M) L.length cap lE 250 ((r5 L).map .string) underlying49 z a u (λj v hj=>by
    rw[Addr.add_lit,W j (by
     have:=(yy.1 hj).1;rw[u,k] at this;exact this)]
    show ad (((r5 L).map ap).getD j (aG false))=ad v;rw[dd,hj];rfl) (by rw[u,k];show 0+L.length*2<=32;omega) (λv hv=>by
    obtain⟨s,_,rfl⟩:=hM.1 hv;rfl)
   rw[this,k,ame o,q.A]
 have c:aI d w.heap.size 250 lE:=p.grown t av;have D:=E (show(aH.info? 250).map (·.size)=ad R.size by rw[m];kernel_rfl);have bm:=E ((T.A.cD t an).setRow (g:=w.heap.size) (aO _) R);have F:=E C;have HX:=E S;have G:=E c;have U:=E (iC m I);clear c S t p a Q J n N h l m I C y;go_enter func152,ntmps152;have C:=F.A;go_wp2_with (first
  |(refine wpList_load_row rfl 250 _ rfl (w.heap.size+1) rfl 250 R (0,0) _ HX.A underlying250 rfl D.A ?_)
  |(refine wpList_store_row rfl 250 _ _ rfl w.heap.size R rfl rfl 250 lE G.A D.A (by rw[U.A.1];rfl) U.A.2 ?_))
 refine bF (v:=.agg R) ?_ rfl ⟨⟨by rw[q.A],Y.A⟩,bm.A⟩;exact results_cell_row rfl _ _ w.heap.size 250 R (0,0) _ rfl (G.A.setRow _) underlying250 rfl D.A
def acP {vl f:aE} (t:Int) (w:aB) (h:Vs bE w B vl L) (h2:Vs bE w B' f aU):aN aH 199 #[aY #[vl,J I t],f] w λe w'=>e=aQ (J I (cmpL L aU))/\aF w w':=by
 obtain⟨ao,c,rfl,_⟩:=h.be;obtain⟨A2,c2,rfl,_⟩:=h2.be;have a:=E ((aF.refl w).alloc (aD #[O ao L.length c,J I t] 119));have b:=aI.new w 119 #[O ao L.length c,J I t];have j:=b.cell 0;have d:=E (ZY _ (h.al a.A.aC) (h2.al a.A.aC));clear h h2 b;go_enter func199,ntmps199;go_wp2_with fail;refine d.A.ah ?_;rintro e i⟨rfl,Z⟩;have g:=E (a.A.trans Z);clear Z d;go_wp2;go_ret;exact⟨rfl,g.A⟩
def amf {vl:aE} {x:List eQ} (c:Nat) (w:aB) (m:Vs eR w B v x) (g:Vs bE w B' vl L) (hn:x.length<=64) (k:Sa x L c):aN aH 198 #[v,vl,.func (.func 199) #[] #[]] w λe w'=>e=aQ (bn #[J I c,aG (decide (c<x.length)&&decide (cmpL (dH x c) L=0))])/\aF w w':=by
 obtain⟨ao,cap,rfl,n,D,H⟩:=m.be;obtain⟨A2,c2,rfl,_⟩:=g.be;have p:=E n;have C:=E k;have q:=E g;have a:=k.1;clear m g n k;go_enter func198,ntmps198;go_wp2;go_loopw [9,10] (λi j wr=>∃lo hi:Nat,lo<=c/\c<=hi/\hi<=x.length/\i=J I lo/\j=J I hi/\aF w wr) (λi j _=>(intOf j).toNat-(intOf i).toNat);case atStart=>exact⟨0,x.length,an,a,aO _,rfl,rfl,aF.refl _⟩
 case round=>
  obtain⟨lo,hi,h1,h2,h3,rfl,rfl,hB⟩:=hrel;by_cases K:lo<hi
  ·obtain⟨h,F⟩:=aP ((lo+hi)/2:Nat);have t:((lo:Int)+(hi:Int))/2=(h:Int):=an;have o:h<x.length:=an;obtain⟨b,off,A0,c0,rfl,A,s,r,d⟩:=p.A.Gu hB.aC o;have Fx:=E (acP (jm x h) wr d (q.A.al hB.aC));have l:=E (C.A.2 h o);have M:I.wrap ((h:Int)+1)=((h+1:Nat):Int):=ay;by_cases f:cmpL (dH x h) L<0
   ·have d1:decide (cmpL (dH x h) L<0)=true:=ac f;have qg:=E (l.A.1 f);clear f d;exact XS
   ·have d1:decide (cmpL (dH x h) L<0)=false:=aa f;have qg:=E (show c<=h from by have:=l.A.2;omega);clear f d;exact XR
  ·obtain rfl:lo=c:=by omega
   by_cases a:lo<x.length
   ·obtain⟨b,off,A0,c0,rfl,A,s,r,d⟩:=p.A.Gu hB.aC a;have Fx:=E (acP (jm x lo) wr d (q.A.al hB.aC));have z:decide ((lo:Int)<(x.length:Int))=true:=ac an;obtain⟨y,hy⟩:=aP (decide (cmpL (dH x lo) L=0));have G:(cmpL (dH x lo) L==0)=y:=hy;have d4:=E (ac a);have u:decide (lo<x.length)=true:=ac a;replace hy:=E hy;clear d;exact XT
   ·have z:decide ((lo:Int)<(x.length:Int))=false:=aa an;have d4:=E (aa a);have u:decide (lo<x.length)=false:=aa a;clear a;go_wp2;go_ret2;exact⟨by rw[d4.A,Bool.false_and];rfl,hB⟩
variable {base:Nat}
def Oe:(aH.info? 119).map (λi=>(i.zero,i.size,i.bytes))=ad (ad (aY #[O M 0 0,J I 0]),2,32):=ar
def Of:eR.e∉eR.bI:=aq
def ww:(aH.info? 119).map (·.size)=ad 2:=ar
def amg {l:List eQ} {x:eQ} {a:Nat} (i:Nat) (w:aB) (hi:i<=l.length) (hB:B<=base) (H:base<=w.heap.size) (ho:Ow eR w B base v l) (m:aI w a 119 us.toArray) (hrel:eR.rel w B x us) (U:∀g,v.ownBlock=ad g->g≠a) (hs:(l.length+1)*32<=140737488355328):aN aH 200 #[v,J I i,O (ad (ab a 0 M)) 1 1] w λe w'=>(∃Z,e=aQ Z/\Ow eR w' B base Z (l.take i++x::l.drop i))/\(∀ao,aF ao w->ao.heap.size<=base->aF ao w')/\Kt B [119] w w':=by
 have jL:us.length=eR.k:=eR.len hrel;have ua:=eR.one hrel;have nS:Rs eR w B [x] us:=Rs.single hrel;have K:=aI.src (n:=1*eR.k) m (by rw[jL,Nat.one_mul]);have IR:l.length+1<=140737488355328:=a8 (Nat.le_mul_of_pos_right _ aq) hs;by_cases iF:i=l.length
 ·subst iF;rw[pZ,qT];have HO:=E ho;have HR:=E nS;have HS:=E K;have u:=E (show l.length+1<=bK/\base<=w.heap.size/\B<=base/\(l.length+1)*32<=140737488355328 from⟨aqv,H,hB,hs⟩);rcases ho.form with⟨rfl,rfl⟩|⟨g,cap,rfl,rf,N,qg,T⟩
  ·clear ho nS K m hrel ua jL U hs hB H;go_enter func200,ntmps200;go_wp2_with ((refine mZ eR au (.tmp 23) (.tmp 24) 32 au base 32 _ ar Oe au B _ [] au HO.A (ad (ab a 0 M)) 1 1 [x] us au HR.A rfl (a+1) HS.A u.A.1 u.A.2.2.2 u.A.2.1 u.A.2.2.1 Of ?_;intro Z w' bC bG cx));go_ret;exact⟨⟨_,rfl,bC⟩,λao q o=>q.grown HO.A o bG,cx⟩
  ·have hm:=show cap<=9223372036854775807 by simpa[bK] using T
   have n1:(l.length:Int)<=140737488355328:=an;clear ho nS K m hrel ua jL U hs hB H N T;go_enter func200,ntmps200;have s1:∀W,(iV 32 (O (ad (ab g 0 M)) l.length cap) (ad (J I (l.length:Int))) M M).run aH W= .ok (O (cutAt (ad (ab g 0 M)) cap l.length 2) (l.length-l.length) (cap-l.length)) W:=oC underlying32 2 ww (ad (ab g 0 M)) l.length cap l.length (aO _);go_wp2_with ((refine mZ eR au (.tmp 23) (.tmp 24) 32 au base 32 _ ar Oe au B _ l au HO.A (ad (ab a 0 M)) 1 1 [x] us au HR.A rfl (a+1) HS.A u.A.1 u.A.2.2.2 u.A.2.1 u.A.2.2.1 Of ?_;intro Z w' bC bG cx));go_ret;exact⟨⟨_,rfl,bC⟩,λao q o=>q.grown HO.A o bG,cx⟩
 obtain⟨g,cap,rfl,rf,N,qg,T⟩:∃g cap,v=O (ad (ab g 0 M)) l.length cap/\base<=g/\bp w eR.e g/\l.length<=cap/\cap<=bK:=by
  rcases ho.form with⟨rfl,rfl⟩|h
  ·simp at hi iF;omega
  ·exact h
 obtain⟨vs,cur,_,lp,_,fc,_,_,cS,sH⟩:=ho.tZ;have hm:=show cap<=9223372036854775807 by simpa[bK] using T
 have IS:g≠a:=U g rfl;have fw:=lp.len;have iK:=lp.one;have bJ:(aH.info? 119).map (·.size)=ad 2:=ww;have mi:∀W:aB,W.heap[g]?=w.heap[g]?->∀j v,(vs.drop (i*2))[j]?=ad v->W.cell? ((⟨g,i*2,M⟩:aX).add j)=ad v:=by
  exact X1
 have aK:i<l.length:=an;have Dx:I.wrap ((i:Int)+1)=(i:Int)+1:=ay;have X4:I.wrap ((l.length:Int)+1)=(l.length:Int)+1:=ay;have de:((i:Int)==(l.length:Int))=false:=aw;have dh:¬(cap=i):=an;have aR:i<=l.length:=hi;have Y:g<w.heap.size:=N.lt;have b5:cur.toList.length=cap*2:=by have Qv:cur.size=cap*2:=cS;simpa using Qv
 have X:∀W,Kt B [119] w W->Rs eR W B (l.take i++x::l.drop i) (vs.take (i*2)++us++vs.drop (i*2)):=by
  intro W hW;have dK:∀t∈eR.bI,t∉[119]:=λt ht h=>by rw[bD.1 h] at ht;exact Of ht
  exact X3
 have cK:(l.take i++x::l.drop i).length=l.length+1:=aw;have V:∀(W:aB) (L:Nat) (R:Array aE) (S:Nat),W.heap[L]?=ad (aD R 119 (0,0))->W.heap[a]?=w.heap[a]?->(i+1)*2<=R.size->0<S->∀ty d,(Builtin.copy_ #[32,32] ty #[O (ad ⟨L,i*2,M⟩) S d,O (ad (ab a 0 M)) 1 1]).run aH W= .ok (goInt (Nat.min 1 S)) (W.setRow L (laid (i*2) us R.toList).toArray):=λW L R S h1 h2 h3 h4 ty d=>DB W _ _ ty 119 2 L _ _ d (ab a 0 M) _ 1 R 119 us au ww h1 (by rw[jL,show Nat.min 1 S=1 from Nat.min_eq_left an];rfl) (λj v hj=>by
  rw[Addr.add_lit,ig,wK h2,m.cell,List.getElem?_toArray];exact hj) (by rw[jL];show i*2+2<=_;omega) ua
 by_cases ze:l.length+1<=cap
 ·have d1:decide (cap<l.length+1)=false:=aa an;have cq:¬(cap=i+1):=an;have IT:∀lb cb,(callFunc 239 #[O (ad (ab a 0 M)) 1 1,O (ad ⟨g,(i+1)*2,M⟩) lb cb]).run aH w= .ok (.value (aG false)) w:=λlb cb=>by
   rw[run_callFunc_extern func239 ar ar ar (e:=Extern.SlicesOverlaps.overlaps #[32,32] #[4]) ar,Lib.run_overlaps_apart w 32 4 119 au 2 (run_sizeOf ww) (ab a 0 M) ⟨g,(i+1)*2,M⟩ 1 1 lb cb (Ne.symm IS) 119 119 us.toArray.size cur.size (by simp[World.shape?,show w.heap[a]?=_ from m]) (by rw[World.shape?,fc];rfl) (by rw[cS];show cap*2≠0;omega) (m.frozen 0) (m.frozen _)];rfl
  have IU:∀W:aB,W.heap[g]?=w.heap[g]?->∀ty d z,(Builtin.copy_ #[32,32] ty #[O (ad ⟨g,(i+1)*2,M⟩) (l.length-i) d,O (ad ⟨g,i*2,M⟩) (l.length+1-i) z]).run aH W= .ok (goInt (Nat.min (l.length+1-i) (l.length-i))) (W.setRow g (laid ((i+1)*2) (vs.drop (i*2)) cur.toList).toArray):=λW hW ty d z=>DB W _ _ ty 119 2 g _ _ d ⟨g,i*2,M⟩ _ z cur 119 _ au ww (hW.trans fc) aql (mi W hW) eI (λv hv=>iK v (arC hv));have kQ:(laid ((i+1)*2) (vs.drop (i*2)) cur.toList).toArray.size=cap*2:=by
   rw[lM,xf eJ,b5]
  have lV:=XW (c:=cur.toList) (us:=us) (l:=vs) (i:=i) (n:=l.length) (k:=2) jL hi (by rw[b5];omega) sH;generalize(laid ((i+1)*2) (vs.drop (i*2)) cur.toList)=R1 at*;go_enter func200,ntmps200;have Qw:∀W,(iV 32 (O (ad (ab g 0 M)) (l.length+1) cap) (ad (J I ((i:Int)+1))) M M).run aH W= .ok (O (ad ⟨g,(i+1)*2,M⟩) (l.length+1-(i+1)) (cap-(i+1))) W:=λW=>by
   have h:=oC underlying32 2 ww (ad (ab g 0 M)) (l.length+1) cap (i+1) an W;rw[cutAt,af cq,tG,AN,ig] at h;exact h
  have Qx:∀W,(iV 32 (O (ad (ab g 0 M)) (l.length+1) cap) (ad (J I (i:Int))) M M).run aH W= .ok (O (ad ⟨g,i*2,M⟩) (l.length+1-i) (cap-i)) W:=λW=>by
   have h:=oC underlying32 2 ww (ad (ab g 0 M)) (l.length+1) cap i an W;exact L9
  go_wp2_with (simp only[IT]);refine du (cU 0 8 []) [8] ?_;refine dY ?_;refine S4.nb λp f=>?_;refine E4.dm (λKK aJ=>?_);refine step_copy_runI rfl (.tmp 73) (.tmp 76) _ _ rfl _ _ au au (IU p (f.block g Y) _ _ _) ?_;refine aJ _ _ ?_;clear aJ KK;refine E4.bh ?_;have F:=aF.of f;have C:=setRow_heap p g cur R1.toArray 119 (0,0) ((f.block g Y).trans fc);have mr:(p.setRow g R1.toArray).heap[a]?=w.heap[a]?:=(setRow_other _ _ _ _ (Ne.symm IS)).trans (f.block a m.lt);have jD:Kt B [119] w (p.setRow g R1.toArray):=(Kt.lQ f an).setRow an ⟨_,_,(f.block g Y).trans fc⟩ (bD.2 rfl) _;have IV:∀ao,aF ao w->ao.heap.size<=base->aF ao (p.setRow g R1.toArray):=λao q o=>(q.trans F).setRow an _;generalize p.setRow g R1.toArray=W2 at*;have b4:=V W2 g R1.toArray (l.length+1-i) C mr (by rw[kQ];omega) an;have re:=setRow_heap W2 g R1.toArray (laid (i*2) us R1).toArray 119 (0,0) C;have eV:=jD.setRow (g:=g) an ⟨_,_,C⟩ (bD.2 rfl) (laid (i*2) us R1).toArray;have rk:∀ao,aF ao w->ao.heap.size<=base->aF ao (W2.setRow g (laid (i*2) us R1).toArray):=λao q o=>(IV ao q o).setRow an _;have A:=E (Ow.Bi (D:=eR) (X _ eV) rf re (by rw[cK];exact ze) T (by
   rw[lM,xf (by rw[jL,<-lM,kQ];show i*2+2<=_;omega),<-lM,kQ];rfl) K8)
  rw[cK] at A;replace rk:=E rk;have fZ:=E eV;clear X C mr jD IV re eV kQ lV IU V mi fc cS sH b5 lp fw iK f F IT ho m nS K U N IR hs;go_wp2_with (at_builtin;refine wpList_copy_runI _ rfl (.tmp 80) (.tmp 81) _ _ rfl _ _ rfl rfl (b4 _ _) ?_);go_ret;first|exact⟨⟨_,rfl,A.A⟩,rk.A,fZ.A⟩|exact⟨⟨_,rfl,A.A⟩,λao y e o=>rk.A ao ⟨y,e⟩ o,fZ.A⟩
 ·have d1:decide (cap<l.length+1)=true:=ac an;obtain⟨i0,jZ,ef,nH,DC⟩:=Im Oe;have r:(Builtin.firstCells i0.size i (O (ad (ab g 0 M)) i cap)).run aH w.drew= .ok (vs.take (i*2)).toArray w.drew:=by
   exact X0
  have qh:i+(l.length+1-i)=l.length+1:=an;have eh:(l.length:Int)+1-(i:Int)=((l.length+1-i:Nat):Int):=an;obtain⟨G,ub⟩:∃G,G=grownCap w (l.length+1) cap 119:=⟨_,rfl⟩;obtain⟨b,Bj⟩:∃b:Array aE,b=(vs.take (i*2)).toArray++pg (aY #[O M 0 0,J I 0]:aE).cells (l.length+1-i)++pg (aY #[O M 0 0,J I 0]:aE).cells (G-(l.length+1)):=⟨_,rfl⟩;have IW:∀ty,(tI #[32,3] ty #[O (ad (ab g 0 M)) i cap,J I ((l.length:Int)+1-(i:Int))]).run aH w= .ok (O (ad (ab w.heap.size 0 M)) (l.length+1) G) (w.drew.alloc (aD b 119)):=λty=>by
   have h:=Lib.run_append_grow_zeros w 32 3 ty 119 i0 _ I I au au jZ ef (ad (ab g 0 M)) i cap (vs.take (i*2)) r (l.length+1-i) an (by rw[nH];decide) an an (by rw[DC];have:=sa 32 (show l.length+1-i<=l.length+1 by omega);omega) (by rw[DC,qh];exact growslice_fits an hs);rw[qh] at h;rw[eh,Bj,ub];exact h
  have Qy:l.length+1<=G:=by rw[ub];exact grownCap_ge w _ _ _
  have IX:G<=bK:=by rw[ub];exact grownCap_le_maxLen w _ _ _ aqF
  have aP:G<=9223372036854775807:=by simpa[bK] using IX
  have DD:b.size=G*2:=by
   rw[Bj];simp[pg,Value.cells,fw];have:eR.k=2:=rfl;rw[this];omega
  have Ma:(vs.take (i*2)).length=i*2:=aqM;have Qz:b.toList.take (i*2)=vs.take (i*2):=by
   exact X2
  clear Bj ub r qh eh jZ ef nH DC;have QA:¬(G=i):=an;have QB:¬(G=i+1):=an;obtain⟨s,ko⟩:∃s,s=w.drew.alloc (aD b 119):=⟨_,rfl⟩;have bg:aF w s:=by rw[ko];exact(aF.drew w).alloc _
  have po:s.heap[w.heap.size]?=ad (aD b 119 (0,0)):=by rw[ko];exact qR w.drew _
  have uc:g≠w.heap.size:=an;rw[<-ko] at IW;have b4:=V s w.heap.size b (l.length+1-i) po (bg.aC.block a m.lt) an an;have C:=setRow_heap s w.heap.size b (laid (i*2) us b.toList).toArray 119 (0,0) po;have DE:(laid (i*2) us b.toList).length=G*2:=by
   rw[xf BY,Array.length_toList,DD]
  have lV:=XY (c:=b.toList) (us:=us) (l:=vs) (i:=i) (n:=l.length) (k:=2) jL hi (by have:=DD;rw[<-Array.length_toList] at this;omega) fw Qz;have bN:aF w (s.setRow w.heap.size (laid (i*2) us b.toList).toArray):=bg.setRow (aO _) _;generalize(laid (i*2) us b.toList)=R1 at*;have IY:∀W:aB,W.heap[w.heap.size]?=ad (aD R1.toArray 119 (0,0))->W.heap[g]?=w.heap[g]?->∀ty d z,(Builtin.copy_ #[32,32] ty #[O (ad ⟨w.heap.size,(i+1)*2,M⟩) (l.length-i) d,O (ad ⟨g,i*2,M⟩) (l.length-i) z]).run aH W= .ok (goInt (Nat.min (l.length-i) (l.length-i))) (W.setRow w.heap.size (laid ((i+1)*2) (vs.drop (i*2)) R1.toArray.toList).toArray):=λW h1 hW ty d z=>DB W _ _ ty 119 2 w.heap.size _ _ d ⟨g,i*2,M⟩ _ z R1.toArray 119 _ au ww h1 aqs (mi W hW) ez (λv hv=>iK v (arC hv));have Qw:∀W,(iV 32 (O (ad (ab w.heap.size 0 M)) (l.length+1) G) (ad (J I ((i:Int)+1))) M M).run aH W= .ok (O (ad ⟨w.heap.size,(i+1)*2,M⟩) (l.length+1-(i+1)) (G-(i+1))) W:=λW=>by
   have h:=oC underlying32 2 ww (ad (ab w.heap.size 0 M)) (l.length+1) G (i+1) an W;rw[cutAt,af QB,tG,AN,ig] at h;exact h
  have Qx:∀W,(iV 32 (O (ad (ab w.heap.size 0 M)) (l.length+1) G) (ad (J I (i:Int))) M M).run aH W= .ok (O (ad ⟨w.heap.size,i*2,M⟩) (l.length+1-i) (G-i)) W:=λW=>by
   have h:=oC underlying32 2 ww (ad (ab w.heap.size 0 M)) (l.length+1) G i an W;rw[cutAt,af QA,tG,AN,ig] at h;exact h
  have aM:∀W,(iV 32 (O (ad (ab g 0 M)) l.length cap) (ad (J I (i:Int))) M M).run aH W= .ok (O (ad ⟨g,i*2,M⟩) (l.length-i) (cap-i)) W:=λW=>by
   have h:=oC underlying32 2 ww (ad (ab g 0 M)) l.length cap i an W;exact L9
  have HQ:=E (iC C bN);clear C bN po bg ko;go_enter func200,ntmps200;go_wp2_with (first
   |(at_builtin;refine Lib.wpList_append_run _ rfl _ _ _ _ rfl _ _ rfl rfl _ _ (IW _) ?_)
   |(at_builtin;refine wpList_copy_runI _ rfl _ _ _ _ rfl _ _ rfl rfl (b4 _ _) ?_))
  obtain⟨W2,nk⟩:∃y,y=s.setRow w.heap.size R1.toArray:=⟨_,rfl⟩;rw[<-nk] at HQ⊢;clear nk;refine du (cU 0 8 []) [8] ?_;refine dY ?_;refine S4.nb λp f=>?_;have DF:=(f.block _ (lJ.1 HQ.A.1).1).trans HQ.A.1;have F:=HQ.A.2.next f;refine E4.dm (λKK aJ=>?_);refine step_copy_runI rfl (.tmp 50) (.tmp 53) _ _ rfl _ _ au au (IY p DF (F.aC.block g Y) _ _ _) ?_;refine aJ _ _ ?_;clear aJ KK;refine E4.bh ?_;have IZ:=setRow_heap p w.heap.size R1.toArray (laid ((i+1)*2) (vs.drop (i*2)) R1.toArray.toList).toArray 119 (0,0) DF;have cP:=F.setRow (aO _) (laid ((i+1)*2) (vs.drop (i*2)) R1.toArray.toList).toArray;have A:=E (Ow.Bi (D:=eR) (X _ (Kt.lQ cP.aC an)) H IZ (by rw[cK];exact Qy) IX (by
   rw[lM,xf (by rw[oy,fw,DE];show _+(l.length*2-i*2)<=G*2;omega),DE];rfl) K8)
  rw[cK] at A;have bL:=E cP;clear X IZ cP DF F lV V IY mi fc cS sH b5 lp fw iK f ho m nS K U N IR hs;go_wp2;go_ret;first|exact⟨⟨_,rfl,A.A⟩,λao q o=>q.trans bL.A,Kt.lQ bL.A.aC (a8 hB H)⟩|exact⟨⟨_,rfl,A.A⟩,λao y e o=>aF.trans ⟨y,e⟩ bL.A,Kt.lQ bL.A.aC (a8 hB H)⟩
theorem aex (h:P:=by
 obtain⟨t2,lf,pn⟩:=fE t1 ⟨#[33,61]⟩ (K:=68) (by show t1.size+2<=68;omega) aq;have qo:=E lf;clear lI lf;go_upto_region 14 with(fail);have h0:=ba.cells HM;refine hb (dq 0 9 (.c 9 (dq 10 3 .nil))) ?_;refine bP ?_;refine S6.c ?_;rintro _⟨pt,rfl⟩ KK aJ;go_simp;refine(HQ.A pt.aL).ah ?_;rintro e w2⟨⟨q,rfl,Hu⟩,bd⟩;obtain⟨t3,pe,xZ⟩:=fE t2 q (K:=200) (aj qo.A HN.A.2) aq;obtain⟨t4,ox,x5⟩:=fE tx t3 (K:=64+210*(k+1)) (ai EX.A) (ai zZ.A);refine aJ _ _ bd ?_;have lr:=E ((FT.A.trans pt.r).trans bd);have wI:=E ox;clear aJ KK bd pe ox Hu h0 pt;refine bP ?_;refine S6.nb λwq hq=>?_;have ke:=E (lr.A.trans (aF.of hq));clear hq lr;go_wp2;go_roundw;case rel=>exact⟨k+1,t4,aR.A,by go_num,rfl,wI.A,ke.A⟩
 case measure=>exact ax
 ):P:=h
theorem aey (h:P:=by
 obtain⟨t2,lf,pn⟩:=fE t1 ⟨#[61]⟩ (K:=68) (by show t1.size+1<=68;omega) aq;have qo:=E lf;clear lI lf;go_upto_region 14 with(fail);have h0:=ba.cells HM;refine hb (dq 0 9 (.c 9 (dq 10 3 .nil))) ?_;refine bP ?_;refine S6.c ?_;rintro _⟨pt,rfl⟩ KK aJ;go_simp;refine(HQ.A pt.aL).ah ?_;rintro e w2⟨⟨q,rfl,Hu⟩,bd⟩;obtain⟨t3,pe,xZ⟩:=fE t2 q (K:=200) (aj qo.A HN.A.2) aq;obtain⟨t4,ox,x5⟩:=fE tx t3 (K:=64+210*(k+1)) (ai EX.A) (ai zZ.A);refine aJ _ _ bd ?_;have lr:=E ((FT.A.trans pt.r).trans bd);have wI:=E ox;clear aJ KK bd pe ox Hu h0 pt;refine bP ?_;refine S6.nb λwq hq=>?_;have ke:=E (lr.A.trans (aF.of hq));clear hq lr;go_wp2;go_roundw;case rel=>exact⟨k+1,t4,aR.A,by go_num,rfl,wI.A,ke.A⟩
 case measure=>exact ax
 ):P:=h
def aoi {s:iZ} (w:aB) (h:qi w B v s) (hs:kT s=true):aN aH 221 #[v] w λe w'=>(∃p:ByteArray,e=aQ (ap p)/\p.size<=2000)/\aF w w':=by
 obtain⟨u,rfl,hn,C⟩:=h.A;obtain⟨ao,cap,rfl,F,X,D⟩:=C.be;obtain⟨W,m⟩:=aP (w.alloc (aD #[ap s.n,O ao s.aU.length cap] 46));have r:aF w W:=m▸(aF.refl w).alloc (aD #[ap s.n,O ao s.aU.length cap] 46);have HX:=E (show aI W w.heap.size 46 #[ap s.n,O ao s.aU.length cap] from m▸aI.new w _ _);have n:=E (QE W (h.al r.aC));rw[hs] at n;have H:s.n.size<=64/\s.aU.length<=8/\∀k,k<s.aU.length->(oM s k).size<=64/\(nW s k).size<=64:=by
  unfold kT at hs;simp only[b9,decide_eq_true_eq,mw] at hs;refine⟨(nM.1 hs.1.1).2.1,hs.1.2,λk hk=>?_⟩;have:=hs.2 k hk;unfold Bk at this;simp only[b9,decide_eq_true_eq] at this;exact⟨(nM.1 this.1).2.1,this.2⟩
 have g:=E H;have VP:s.aU.length<=9223372036854775807:=a8 X D;have HP:=E F;have d:=E r;have o:=HX.A.cell;clear h C F hs r H D;go_enter func221,ntmps221;go_wp2_with fail;refine n.A.ah ?_;rintro e T⟨rfl,Z⟩;replace HX:=E (HX.A.al Z.aC HX.A.lt);replace d:=E (d.A.trans Z);clear Z n m o;have o:=HX.A.cell;by_cases l:s.aU.length=0
 ·have d0:((s.aU.length:Int)==0)=true:=by rw[l];rfl
  clear l;go_wp2;go_ret;exact⟨⟨_,rfl,ai g.A.1⟩,d.A⟩
 have d0:((s.aU.length:Int)==0)=false:=beq_eq_false_iff_ne.2 an;clear l;go_wp2;clear d0 o;go_loopw [3,22] (λa i wr=>∃(k:Nat) (tx:ByteArray),k<=s.aU.length/\i=J I k/\a=ap tx/\tx.size<=64+210*k/\aF T wr) (λ_ i _=>s.aU.length-(intOf i).toNat);case atStart=>exact⟨0,s.n,an,rfl,rfl,ai g.A.1,aF.refl _⟩
 case round=>
  obtain⟨k,tx,hk,rfl,rfl,z,hB⟩:=hrel;have EX:=E z;clear z;by_cases t:k<s.aU.length
  ·obtain⟨b,off,rfl,cw,R,N,M,V,bZ⟩:=HP.A.mt (d.A.trans hB).aC t;have HN:=E (g.A.2.2 k t);have zZ:=E (show k<8 by have:=g.A.2.1;omega);obtain⟨nm,L⟩:=aP (oM s k);obtain⟨vl,G⟩:=aP (nW s k);rw[L] at R HN;rw[G] at N HN;have aR:=E t;have Y:=E ((d.A.trans hB).alloc (aD #[ap nm,ap vl,aG (ue s k)] 126));have FT:=E (hB.alloc (aD #[ap nm,ap vl,aG (ue s k)] 126));have HM:=aI.new wr 126 #[ap nm,ap vl,aG (ue s k)];have HQ:=E (λW=>aew vl W (ai HN.A.2));have S:=E (show wr.heap.size<(wr.alloc (aD #[ap nm,ap vl,aG (ue s k)] 126)).heap.size by simp);clear hB L G V bZ;rcases kJ k with ci|ci<;>cases f:ue s k;all_goals rw[f] at M Y FT HM S
   ·have e0:((k:Int)==0)=true:=by rw[ci];rfl
    clear ci f;obtain⟨t1,lI,j⟩:=fE ⟨#[123]⟩ nm (K:=66) aqD aq;exact aey
   ·have e0:((k:Int)==0)=true:=by rw[ci];rfl
    clear ci f;obtain⟨t1,lI,j⟩:=fE ⟨#[123]⟩ nm (K:=66) aqD aq;exact aex
   ·have e0:((k:Int)==0)=false:=beq_eq_false_iff_ne.2 an;clear ci f;obtain⟨t1,lI,j⟩:=fE ⟨#[44]⟩ nm (K:=66) aqD aq;exact aey
   ·have e0:((k:Int)==0)=false:=beq_eq_false_iff_ne.2 an;clear ci f;obtain⟨t1,lI,j⟩:=fE ⟨#[44]⟩ nm (K:=66) aqD aq;exact aex
  ·obtain rfl:k=s.aU.length:=by omega
   obtain⟨t1,lI,j⟩:=fE tx ⟨#[125]⟩ (K:=2000) (by have:=EX.A;have:=g.A.2.1;show tx.size+1<=2000;omega) aq;have U:=E lI;have bm:=E (d.A.trans hB);clear lI hB;go_wp2;go_ret;exact⟨⟨_,rfl,U.A⟩,bm.A⟩
def aoj (j:Nat) (hj:j<5):∃(L:ByteArray) (sz:Int),1<=sz/\sz<=86400000/\L.size<=2/\∀W,(mX 321 (.agg kY) (J I (j:Int))).run aH W= .ok (aY #[ap L,J I sz]) W:=by
 rcases(show j=0\/j=1\/j=2\/j=3\/j=4 by omega) with rfl|rfl|rfl|rfl|rfl
 ·exact⟨_,_,aq,aq,aq,aaE⟩
 ·exact⟨_,_,aq,aq,aq,aaF⟩
 ·exact⟨_,_,aq,aq,aq,aaG⟩
 ·exact⟨_,_,aq,aq,aq,aaH⟩
 ·exact⟨_,_,aq,aq,aq,aaI⟩
def aez (d:Int) (w:aB) (R:eK w) (n:gm d=true):aN aH 182 #[J I d] w λe w'=>(∃p:ByteArray,e=aQ (ap p)/\p.size<=200)/\aF w w':=by
 have a:=E R;have hn:=Jm d w;rw[n] at hn;have Z:0<=d/\d<=9007199254740992:=by unfold gm at n;simp at n;omega
 have D:=E Z;clear R n;have u0:=a.A.unit 0;have u1:=a.A.unit 1;have u2:=a.A.unit 2;have u3:=a.A.unit 3;have u4:=a.A.unit 4;have u5:=a.A.unit 5;have u6:=a.A.unit 6;have u7:=a.A.unit 7;have u8:=a.A.unit 8;have u9:=a.A.unit 9;simp[kY] at u0 u1 u2 u3 u4 u5 u6 u7 u8 u9;by_cases l:d=0
 ·have d0:(d==0)=true:=by simpa using l
  clear l Z;go_enter func182,ntmps182;go_wp2_with fail;refine hn.ah ?_;rintro e C⟨rfl,rfl⟩;clear hn;go_wp2;go_ret;exact⟨⟨_,rfl,aq⟩,aF.refl _⟩
 have d0:(d==0)=false:=am l;clear l Z;go_enter func182,ntmps182;go_wp2_with fail;refine hn.ah ?_;rintro e C⟨rfl,rfl⟩;clear hn;go_wp2;clear d0 u0 u1 u2 u3 u4 u5 u6 u7 u8 u9;go_loopw [0,3,13] (λa0 a3 i wr=>∃(j:Nat) (x:Int) (g:ByteArray),j<=5/\i=J I j/\a0=J I x/\a3=ap g/\aF C wr/\a6 (0<=x/\x<=9007199254740992/\g.size<=23*j)) (λ_ _ i _=>5-(intOf i).toNat);case atStart=>exact⟨0,d,⟨#[]⟩,an,rfl,rfl,rfl,aF.refl _,E ⟨D.A.1,D.A.2,aq⟩⟩
 case round=>
  obtain⟨j,x,g,hj,rfl,rfl,rfl,hB,HX⟩:=hrel;by_cases s:j<5
  ·have T:decide ((j:Int)<5)=true:=ac an;obtain⟨L,sz,o,S,O,fL⟩:=aoj j s;unfold kY at fL;have dt:=E (show 1<=sz/\sz<=86400000 from⟨o,S⟩);have aR:=E s;have kW:=E O;have bq:sz≠0:=an;have RU:(sz==0)=false:=am bq;have fz:¬sz=-1:=an;obtain⟨q,m,N⟩:∃q:Int,x.tdiv sz=q/\(0<=q/\q<=9007199254740992):=⟨_,rfl,Int.tdiv_nonneg HX.A.1 an,Int.le_trans (Int.tdiv_le_self _ HX.A.1) HX.A.2.1⟩;obtain⟨p,hp,G⟩:∃p:Int,x.tmod sz=p/\(0<=p/\p<=9007199254740992):=⟨_,rfl,Int.tmod_nonneg _ HX.A.1,by have:=Int.tmod_lt_of_pos x (show 0<sz by omega);omega⟩;have dA:wrap64 q=q:=by unfold wrap64;omega
   have Gf:wrap64 p=p:=by unfold wrap64;omega
   have t:=E G;have OA:=E N;have b:=aI.new wr 320 #[ap L,J I sz];have v:=E (hB.alloc (aD #[ap L,J I sz] 320));have z:=E (λW hW=>OX q an an W (a.A.rel hW));clear o S O s N G hB;by_cases u:0<q
   ·have d1:decide (0<q)=true:=ac u;clear u;go_upto_region 11 with(fail);have h0:=ba.cells b;refine hb (dq 0 2 (dq 3 2 (.c 2 (dq 5 3 .nil)))) ?_;refine bP ?_;refine S6.c ?_;rintro _⟨f,rfl⟩ KK aJ;go_simp;refine(z.A f.aL (v.A.trans f.r)).ah ?_;rintro e w2⟨⟨s1,rfl,o,_⟩,r⟩;obtain⟨X,Y,xZ⟩:=fE s1 L (K:=23) (ai kW.A) aq;obtain⟨V,F,x5⟩:=fE g X (K:=23*(j+1)) (ai HX.A.2.2) (ai aR.A);have H:=E ((v.A.trans f.r).trans r);have U:=E F;have M:=E ((b.al f.aC b.lt).al r.aC (b.al f.aC b.lt).lt);refine aJ _ _ r ?_;clear aJ KK r Y F o h0 f;refine bP ?_;refine S6.nb λwq m=>?_;have ke:=E (H.A.trans (aF.of m));have g1:=(M.A.al m M.A.lt).cell 1;clear m H b;go_wp2;go_roundw;case rel=>exact⟨j+1,p,V,aR.A,by go_num,rfl,rfl,ke.A,E ⟨t.A.1,t.A.2,U.A⟩⟩
    case measure=>exact ax
   ·have d1:decide (0<q)=false:=aa u;clear u b;go_wp2;go_roundw;case rel=>exact⟨j+1,p,g,aR.A,by go_num,rfl,rfl,v.A,E ⟨t.A.1,t.A.2,ai HX.A.2.2⟩⟩
    case measure=>exact ax
  ·have T:decide ((j:Int)<5)=false:=aa an;have bL:=E hB;have HJ:=E hj;clear hB s hj;go_wp2;go_ret;exact⟨⟨_,rfl,aj HX.A.2.2 HJ.A⟩,bL.A⟩
def aok (o:Nat) (h:o<7):∃a:ByteArray,uw[o]?=ad (ap a)/\a.size<=2:=by
 rcases(show o=0\/o=1\/o=2\/o=3\/o=4\/o=5\/o=6 by omega) with rfl|rfl|rfl|rfl|rfl|rfl|rfl<;>exact⟨_,rfl,aq⟩
def aol {x:wV} (w:aB) (C:eK w) (h:vO w B v x) (hs:rq x=true):aN aH 181 #[v] w λe w'=>(∃p:ByteArray,e=aQ (ap p)/\p.size<=2200)/\aF w w':=by
 obtain⟨u,rfl,hn,f⟩:=h.A;obtain⟨ao,cap,rfl,hR,hl,hc⟩:=f.be;have D:kT x.s=true/\(1<=x.op/\x.op<=6)/\j6 x.v=true:=by
  unfold rq rp at hs;simp only[b9,decide_eq_true_eq] at hs;exact⟨hs.1.1,hs.1.2,hs.2⟩
 obtain⟨o,ho⟩:∃o:Nat,x.op=(o:Int):=⟨x.op.toNat,an⟩;obtain⟨m,L,H⟩:=aok o an;have UC:(o:Int)<7:=an;have Z:=(aF.refl w).alloc (aD #[ap x.s.n,O ao x.s.aU.length cap,J I x.op,J I x.v] 48);have d:=E (Z6 _ (h.al Z.aC));rw[hs] at d;have HX:=E (aI.new w 48 #[ap x.s.n,O ao x.s.aU.length cap,J I x.op,J I x.v]);rw[ho] at Z d HX⊢;have F:=E C;have y:=E D;have HU:=E f;have HN:=E hn;have b:=E Z;have dt:=E H;have W:=E L;have g0:=HX.A.cell;clear h f hR hs D Z hn hc hl C L H ho;go_enter func181,ntmps181;go_wp2_with fail;refine d.A.ah ?_;rintro e R⟨rfl,Z⟩;replace HX:=E (HX.A.al Z.aC HX.A.lt);replace b:=E (b.A.trans Z);clear Z d g0;have h0:=ba.cells HX.A;have U:∀p:ba R,p.aL.cell? (ab 2 o M)=ad (ap m):=λp=>((F.A.rel b.A).rel (aF.of p.aC)).sign o▸W.A;go_wp2_with fail;refine hb (dq 0 2 (dq 4 4 (dq 10 2 (.c 2 (.q 3 (dq 8 2 (.c 12 (dq 13 2 .nil)))))))) ?_;refine bP ?_;refine S6.c ?_;rintro _⟨a,rfl⟩ KK aJ;go_simp;refine(aoi (s:=x.s) a.aL ⟨_,rfl,HN.A,HU.A.al (b.A.trans a.r).aC⟩ y.A.1).ah ?_;rintro e w2⟨⟨r,rfl,X⟩,i⟩;obtain⟨T,lI,mn⟩:=fE r ⟨#[32]⟩ (K:=2001) (by show r.size+1<=2001;omega) aq;obtain⟨l,lf,pn⟩:=fE T m (K:=2003) (ai dt.A) aq;obtain⟨S,n,xZ⟩:=fE l ⟨#[32]⟩ (K:=2004) (by show l.size+1<=2004;omega) aq;have G:=E ((b.A.trans a.r).trans i);have j:=E n;refine aJ _ _ i ?_;clear aJ KK i lI lf n X a h0 U;refine bP ?_;refine S6.c ?_;rintro _⟨a,rfl⟩ KK aJ;go_simp;refine(aoh x.v a.aL (F.A.rel (G.A.trans a.r)) y.A.2.2).ah ?_;rintro e w3⟨⟨V,rfl,Y⟩,g⟩;obtain⟨t4,t,x5⟩:=fE S V (K:=2200) (ai j.A) aq;have bL:=E ((G.A.trans a.r).trans g);have N:=E t;refine aJ _ _ g ?_;clear aJ KK g t Y a;refine bP ?_;refine S6.nb λwq z=>?_;have b3:=E (bL.A.trans (aF.of z));clear z;go_wp2;go_ret;exact⟨⟨_,rfl,N.A⟩,b3.A⟩
variable {a0 cZ a2:aE}
def aI.iv (h:aI w g t #[a0,cZ,a2]) (u0 u1 u2:aE):aI (((w.setCell (ab g 0 M) u0).setCell (ab g 1 M) u1).setCell (ab g 2 M) u2) g t #[u0,u1,u2]:=(((h.put 0 u0).put 1 u1).put 2 u2)
def BQ (Z:g<w.heap.size) (u0 u1 u2:aE):w.grownBy (((w.setCell (ab g 0 M) u0).setCell (ab g 1 M) u1).setCell (ab g 2 M) u2) (ad g):=bB (bB (bX Z u0) (bX aqg u1)) (bX aqg u2)
def Nt.BR (y:Nt):Nte:=⟨y.L,y.f,y.t,y.k,y.x⟩
noncomputable def M6 (y:Nte):Bool:=bH y.L&&et y.t&&et y.x&&(decide (0<=y.k)&&decide (y.k<8))
noncomputable def jk (q:fQ):Bool:=decide (q.N.length<=16)&&et q.d&&et q.l&&q.N.all M6
noncomputable def oY (q:fQ):fQ:=if jk q=true then q else⟨[],0,0⟩
def RX {y:Nte}:M6 y=true↔bH y.L=true/\et y.t=true/\et y.x=true/\0<=y.k/\y.k<8:=by
 unfold M6;simp only[b9,decide_eq_true_eq];constructor
 ·rintro⟨⟨⟨c,h2⟩,b⟩,h4,a⟩;exact⟨c,h2,b,h4,a⟩
 ·rintro⟨c,h2,b,h4,a⟩;exact⟨⟨⟨c,h2⟩,b⟩,h4,a⟩
theorem aam (h:P:=by
 simp only[b9,decide_eq_true_eq,List.all_eq_true];constructor
 ·rintro⟨⟨⟨h1,h2⟩,h3⟩,h4⟩;exact⟨h1,h2,h3,h4⟩
 ·rintro⟨h1,h2,h3,h4⟩;exact⟨⟨⟨h1,h2⟩,h3⟩,h4⟩
 ):P:=h
def arF {q:fQ}:jk q=true↔q.N.length<=16/\et q.d=true/\et q.l=true/\∀y∈q.N,M6 y=true:=by
 unfold jk;exact aam
def RY (q:fQ):jk (oY q)=true:=by
 unfold oY;split
 ·assumption
 ·rw[arF];exact⟨av,aq,aq,av⟩
def aan (ns:List Nt) (d l:Int):jQ ns d l=jk ⟨ns.map Nt.BR,d,l⟩:=by
 rw[Bool.eq_iff_iff,BD,arF];unfold BC BB BA;simp only[p6];constructor
 ·rintro⟨b,h2,a,h4⟩;refine⟨b,h2,a,λy c=>?_⟩;obtain⟨x,e,rfl⟩:=hM.1 c;obtain⟨i,hi,rfl⟩:=MM e;rw[RX];exact h4 i hi
 ·rintro⟨b,h2,a,h4⟩;refine⟨b,h2,a,λi hi=>?_⟩;have:=h4 _ (hM.2 ⟨_,ML hi,rfl⟩);rw[RX] at this;exact this
def Rs.Jg {l:List Nte} (h:Rs fV w B l us):∃ns:List Nt,ns.map Nt.BR=l/\us=jx ns/\∀y∈ns,Rn w w.heap.size y:=by
 induction h with
 |nil=>exact⟨[],rfl,rfl,av⟩
 |@cons a l vs us h _ ih=>
  obtain⟨ns,f,h2,e⟩:=ih;obtain⟨v0,rfl,hv⟩:=h;obtain⟨ao,c,rfl,d,g,i⟩:=hv.hN;refine⟨⟨ao,a.L.length,c,a.L,a.f,a.t,a.k,a.x⟩::ns,by rw[sd,f];rfl,by rw[h2];rfl,λy b=>?_⟩;rcases ee.1 b with rfl|b
  ·exact⟨d,g,i⟩
  ·exact e y b
def Vs.Jg {l:List Nte} (h:Vs fV w B v l):∃ao n c ns,v=O ao n c/\ia w w.heap.size ao n ns/\ns.map Nt.BR=l/\n<=c/\c<=9223372036854775807:=by
 obtain⟨ao,n,c,rfl,⟨a,us,d,e⟩,f,h2⟩:=h.A;obtain⟨ns,b,rfl,g⟩:=d.Jg;refine⟨ao,n,c,ns,rfl,⟨?_,e.sink,λi hi=>g _ (ML ?_)⟩,b,f,h2⟩
 ·rw[<-b,p6] at a;exact a
 ·rw[<-b,p6] at a;omega
structure jl (w:aB) (B:Nat) (v:aE) (q:fQ):Prop where
 A:∃u,v=aY #[u,J I q.d,J I q.l]/\Vs fV w B u q.N
def jl.al {q:fQ} (h:jl w B v q) (Z:aS w.heap.size w w'):jl w' B v q:=by
 obtain⟨u,e,h⟩:=h.A;exact⟨u,e,h.al Z⟩
def jl.keep {q:fQ} (h:jl w B v q) (a:Kt B S w w') (b:fV.e∉S) (h2:∀t∈fV.bI,t∉S):jl w' B v q:=by
 obtain⟨u,e,h⟩:=h.A;exact⟨u,e,h.keep a b h2⟩
def jl.zero (w:aB) (B:Nat):jl w B (aY #[O M 0 0,J I 0,J I 0]) ⟨[],0,0⟩:=⟨_,rfl,Vs.bh _ _ _⟩
def jl.qv {q:fQ} (h:jl w B v q):∃ns,QV w w.heap.size v ns q.d q.l/\ns.map Nt.BR=q.N:=by
 obtain⟨u,rfl,a⟩:=h.A;obtain⟨ao,n,c,ns,rfl,d,h2,b,h4⟩:=a.Jg;exact⟨ns,⟨ao,n,c,rfl,d,b,h4⟩,h2⟩
def RZ {q:fQ} (w:aB) (h:jl w B v q):aN aH 26 #[v] w λe w'=>e=aQ (aG (jk q))/\aF w w':=by
 obtain⟨ns,b,h2⟩:=h.qv;obtain⟨ao,n,c,rfl,a,h4,d⟩:=b.A;refine(Zr ao n c q.d q.l ns w an a).ah ?_;rintro e w'⟨rfl,Z⟩;rw[aan,h2];exact⟨rfl,aF.of Z⟩
def ajO {q:fQ} (h:jl w B v q):jl w B (if jk q=true then v else aY #[O M 0 0,J I 0,J I 0]) (oY q):=by
 unfold oY;split
 ·exact h
 ·exact jl.zero _ _
def ajP {q:fQ} (w:aB) (h:jl w B v q):aN aH 112 #[v] w λe w'=>e=aQ (if jk q=true then v else aY #[O M 0 0,J I 0,J I 0])/\aF w w':=by
 obtain⟨u,e,j⟩:=h.A;obtain⟨ao,cap,rfl,_⟩:=j.be;subst e;have i:=E (((aF.refl w).alloc (aD #[O ao q.N.length cap,J I q.d,J I q.l] 31)).alloc (aD #[O M 0 0,J I 0,J I 0] 31));have HX:=E ((aI.new w 31 #[O ao q.N.length cap,J I q.d,J I q.l]).alloc (aD #[O M 0 0,J I 0,J I 0] 31));have f:=E (aI.new (w.alloc (aD #[O ao q.N.length cap,J I q.d,J I q.l] 31)) 31 #[O M 0 0,J I 0,J I 0]);have l:=E (RZ _ (h.al i.A.aC));clear h j;generalize jk q=y at*;go_enter func112,ntmps112;go_wp2_with fail;refine l.A.ah ?_;rintro e o⟨rfl,Z⟩;have m:=HX.A.al Z.aC HX.A.lt;have d:=f.A.al Z.aC f.A.lt;simp only[eO] at d;have n:=i.A.trans Z;clear Z HX f l i;have p:=m.cell;have⟨h0,r⟩:=d.cf;have k:=E (λ(a b c:aE)=>n.cD (BQ d.lt a b c) an);cases y
 ·have g:=E (d.iv (O M 0 0) (J I 0) (J I 0));go_wp2;have k0:=g.A.cell;refine bF (v:=aY #[O M 0 0,J I 0,J I 0]) (by simp[bz,results112,go_sem,k0]) rfl ⟨rfl,k.A _ _ _⟩
 ·have g:=E (d.iv (O ao q.N.length cap) (J I q.d) (J I q.l));go_wp2;have k0:=g.A.cell;refine bF (v:=aY #[O ao q.N.length cap,J I q.d,J I q.l]) (by simp[bz,results112,go_sem,k0]) rfl ⟨rfl,k.A _ _ _⟩
def aao:(aH.info? fV.e).map (λi=>(i.zero,i.size,i.bytes))=ad (ad (aY #[O M 0 0,aG false,J I 0,J I 0,J I 0]),5,56):=ar
def aap:fV.e∉fV.bI:=aq
def ajQ {l:List Nte} (w:aB) (hB:B<=w.heap.size) (h:Vs fV w B v l) (hs:l.length*56<=140737488355328):aN aH 197 #[v] w λe w'=>(∃d,e=aQ d/\Ow fV w' B w.heap.size d l)/\aF w w':=by
 obtain⟨ao,n,cap,rfl,c,_⟩:=h.A;clear h;have u:∀w,(binOp .eql 29 (O ao n cap) (O M 0 0)).run aH w= .ok (aG ao.isNone) w:=λw=>by
  simp only[binOp];simp[run_equal_slice_nil w 29 117 ao n cap underlying29]
 have k:=c.len;cases ao with
 |none=>
  have o:l=[]:=by
   obtain⟨us,b,f⟩:=c.A;rcases kJ n with h|h
   ·exact Dt
   ·obtain⟨_,_,e,_⟩:=f (Nat.mul_pos h fV.pos);cases e
  subst o;clear c;go_enter func197,ntmps197;exact Ba
 |some a=>
  have HO:=E (Ow.AO (D:=fV) (base:=w.heap.size) w B (aO _));have HB:=E ((aF.refl w).alloc (aD #[] 117));have m:=E (show∃us,Rs fV (w.alloc (aD #[] 117)) B l us/\Sl (w.alloc (aD #[] 117)) (w.heap.size+1) (ad a) (n*fV.k) (λi=>us.getD i (aG false)) by
   have p:=c.al ((bk _ _).alloc (aO _) (aD #[] 117));obtain⟨us,b,f⟩:=p.A;have:=f.sink;rw[eO] at this;exact⟨us,b,this⟩)
  obtain⟨us,b,j⟩:=m.A;have s:=E b;have t:=E j;have g:=E (show([]:List Nte).length+n<=bK/\(([]:List Nte).length+n)*56<=140737488355328/\w.heap.size<=(w.alloc (aD #[] 117)).heap.size from⟨aqy,aqJ,av⟩);have q:=E k;have r:=E hB;clear b j m c hs k hB;go_enter func197,ntmps197;go_wp2_with ((refine mZ fV au (.tmp 5) (.tmp 6) 29 au w.heap.size 56 _ ar aao au B _ [] au HO.A (ad a) n cap l us au s.A q.A (w.heap.size+1) t.A g.A.1 g.A.2.1 g.A.2.2 r.A aap ?_;intro d w' bC bG x));exact Ds
noncomputable def BS (q:fQ) (L:aZ) (f:Bool) (t:Int):fQ:=if bH L=false then oY q else if 16<=(oY q).N.length then{oY q with d:=min ((oY q).d+1) 9007199254740992} else{oY q with N:=(oY q).N++[⟨L,f,ga t,0,ga t⟩]}
def R0 (q:fQ) (L:aZ) (f:Bool) (t:Int):jk (BS q L f t)=true:=by
 have a:=arF.1 (RY q);unfold BS;split
 ·exact RY q
 ·rename_i c;split
  ·rw[arF];refine⟨a.1,?_,a.2.2.1,a.2.2.2⟩;have:=sX.1 a.2.1;rw[sX];simp only;omega
  ·rw[arF];refine⟨aw,a.2.1,a.2.2.1,λy b=>?_⟩;rcases kf.1 b with b|b
   ·exact a.2.2.2 y b
   ·rw[bD] at b;subst b;rw[RX];exact⟨am c,sX.2 (MH t),sX.2 (MH t),av,av⟩
structure s9 (w W:aB) (B:Nat) (u:aE) (d l:Int) (N:List Nte) (vl:aE) (L:aZ):Prop where
 b:aF w W
 x:aI W w.heap.size 31 #[u,J I d,J I l]
 y:aI W (w.heap.size+1) 31 #[O M 0 0,J I 0,J I 0]
 q:Vs fV W B u N
 p:Vs bE W B vl L
section
variable {w W W':aB} {B:Nat} {u:aE} {d l:Int} {N:List Nte} {vl:aE} {L:aZ}
def s9.al (h:s9 w W B u d l N vl L) (Z:aS W.heap.size W W'):s9 w W' B u d l N vl L:=⟨h.b.trans (aF.of Z),h.x.al Z h.x.lt,h.y.al Z h.y.lt,h.q.al Z,h.p.al Z⟩
def s9.fill (h:s9 w W B u d l N vl L) (hB:B<=w.heap.size) {u':aE} {f:List Nte} (b a:Int) (i:Vs fV W B u' f):s9 w (((W.setCell (ab w.heap.size 0 M) u').setCell (ab w.heap.size 1 M) (J I b)).setCell (ab w.heap.size 2 M) (J I a)) B u' b a f vl L:=by
 have hg:=BQ h.x.lt u' (J I b) (J I a);have c:Kt B [31] W _:=(Kt.refl _ _ W).grown hg (ai h.b.size) (λg e=>by cases e;exact⟨hB,bp.bO h.x⟩) (bD.2 rfl);exact⟨h.b.cD hg (aO _),h.x.iv _ _ _,h.y.gr hg an,i.keep c aq aq,h.p.keep c aq aq⟩
def s9.push (h:s9 w W B u d l N vl L) (hB:B<=w.heap.size) {u':aE} {i:List Nte} (c:aF w W') (b:Kt B [117] W W') (ho:Ow fV W' B w.heap.size u' i):s9 w (W'.setCell (ab w.heap.size 0 M) u') B u' d l i vl L:=by
 have a:=b.eP h.x aq;have hg:=bX (o:=0) a.lt u';have f:Kt B [31] W' _:=(Kt.refl _ _ W').grown hg (ai c.size) (λg e=>by cases e;exact⟨hB,bp.bO a⟩) (bD.2 rfl);exact⟨c.cD hg (aO _),a.put 0 _,(b.eP h.y aq).gr hg an,ho.vs.keep f aq aq,(h.p.keep b aq aq).keep f aq aq⟩
def s9.fin (h:s9 w W B u d l N vl L) (hB:B<=w.heap.size):jl (((W.setCell ⟨w.heap.size+1,0,M⟩ u).setCell ⟨w.heap.size+1,1,M⟩ (J I d)).setCell ⟨w.heap.size+1,2,M⟩ (J I l)) B (aY #[u,J I d,J I l]) ⟨N,d,l⟩/\aF w (((W.setCell ⟨w.heap.size+1,0,M⟩ u).setCell ⟨w.heap.size+1,1,M⟩ (J I d)).setCell ⟨w.heap.size+1,2,M⟩ (J I l)):=by
 have hg:=BQ h.y.lt u (J I d) (J I l);have a:Kt B [31] W _:=(Kt.refl _ _ W).grown hg (ai h.b.size) (λg e=>by cases e;exact⟨an,bp.bO h.y⟩) (bD.2 rfl);exact⟨⟨u,rfl,h.q.keep a aq aq⟩,h.b.cD hg an⟩
end
def R3 {vl:aE} {q:fQ} (f:Bool) (t:Int) (w:aB) (hB:B<=w.heap.size) (h:jl w B v q) (U:Vs bE w B vl L):aN aH 153 #[v,vl,aG f,J I t] w λe w'=>(∃G,e=aQ G/\jl w' B G (BS q L f t))/\aF w w':=by
 obtain⟨u,e,S⟩:=h.A;obtain⟨ao,cap,rfl,_⟩:=S.be;subst e;obtain⟨Al,cl,rfl,_⟩:=U.len_;have m:=((aF.refl w).alloc (aD #[O ao q.N.length cap,J I q.d,J I q.l] 31)).alloc (aD #[O M 0 0,J I 0,J I 0] 31);have a:=E (show s9 w ((w.alloc (aD #[O ao q.N.length cap,J I q.d,J I q.l] 31)).alloc (aD #[O M 0 0,J I 0,J I 0] 31)) B (O ao q.N.length cap) q.d q.l q.N (O Al L.length cl) L from⟨m,(aI.new w 31 _).alloc _,by have:=aI.new (w.alloc (aD #[O ao q.N.length cap,J I q.d,J I q.l] 31)) 31 #[O M 0 0,J I 0,J I 0];simpa using this,S.al m.aC,U.al m.aC⟩);have HC:=E (ajP _ (h.al m.aC));have BU:=E (ajO (h.al m.aC));have b:=E hB;have H:=E (arF.1 (RY q));have p:=E (show BS q L f t=(if bH L=false then oY q else if 16<=(oY q).N.length then{oY q with d:=min ((oY q).d+1) 9007199254740992} else{oY q with N:=(oY q).N++[⟨L,f,ga t,0,ga t⟩]}) from rfl);generalize BS q L f t=r at p⊢;clear h S U m hB;go_enter func153,ntmps153;go_wp2_with fail;refine HC.A.ah ?_;rintro e w1⟨rfl,Z⟩;have V:=a.A.al Z.aC;have hV:=BU.A.al Z.aC;generalize(if jk q=true then aY #[O ao q.N.length cap,J I q.d,J I q.l] else aY #[O M 0 0,J I 0,J I 0])=v1 at*;generalize oY q=Q at*;obtain⟨u1,rfl,z⟩:=hV.A;obtain⟨A1,c1,rfl,_⟩:=z.be;obtain⟨N,d1,l1⟩:=Q;dsimp only at z H p;have⟨i,C⟩:=V.x.cf;replace a:=E (V.fill b.A d1 l1 z);clear Z V hV z HC BU;have eG:=MU _ a.A.p;go_wp2_with fail;refine eG.ah ?_;rintro e F⟨rfl,Z⟩;replace a:=E (a.A.al Z.aC);clear eG Z C i;cases k:bH L with
 |false=>
  have j:=E (show r=⟨N,d1,l1⟩ by rw[p.A,ag k]);clear k;have s:=E (a.A.y.iv (O A1 N.length c1) (J I d1) (J I l1));have c:=E (a.A.fin b.A);have i:=a.A.x.cell;have⟨h0,C⟩:=a.A.y.cf;go_wp2;have k0:=s.A.cell;refine bF (v:=aY #[(O A1 N.length c1),J I d1,J I l1]) arn rfl ⟨⟨_,rfl,by rw[j.A];exact c.A.1⟩,c.A.2⟩
 |true=>
  have ce:=H.A.1;have i:=a.A.x.cell 0;simp at i;by_cases D:16<=N.length
  ·have j:=E (show r=⟨N,min (d1+1) 9007199254740992,l1⟩ by rw[p.A,af (by simp[k]),ag D]);have Y:decide (16<=N.length)=true:=ac D;have hd:=sX.1 H.A.2.1;have aK:I.wrap (d1+1)=d1+1:=ay;obtain⟨l,K⟩:=aP (min (d1+1) 9007199254740992);have AI:∀(ts:Array bf) (ty:bf) (W:aB),(Builtin.min_ ts ty #[J I (d1+1),J I 9007199254740992]).run aH W= .ok (J I l) W:=λts ty W=>by
    rw[<-K];rw[run_min_int2];congr 2;split<;>omega
   rw[K] at j;have g1:=a.A.x.cell 1;have f1:=a.A.x.frozen 1;have iM:=a.A.q;have bM:=E (show s9 w (F.setCell (ab w.heap.size 1 M) (J I l)) B (O A1 N.length c1) l l1 N (O Al L.length cl) L from by
    have hg:=bX (o:=1) a.A.x.lt (J I l);have hk:Kt B [31] F _:=(Kt.refl _ _ F).grown hg (aj a.A.b.size b.A) (λg e=>by cases e;exact⟨b.A,bp.bO a.A.x⟩) (bD.2 rfl);exact⟨a.A.b.cD hg (aO _),a.A.x.put 1 _,a.A.y.gr hg an,a.A.q.keep hk aq aq,a.A.p.keep hk aq aq⟩)
   clear k iM a K;have a:=bM;clear bM;have s:=E (a.A.y.iv (O A1 N.length c1) (J I l) (J I l1));have c:=E (a.A.fin b.A);have e0:=a.A.x.cell;have⟨h0,C⟩:=a.A.y.cf;go_wp2;have k0:=s.A.cell;refine bF (v:=aY #[(O A1 N.length c1),J I l,J I l1]) arn rfl ⟨⟨_,rfl,by rw[j.A];exact c.A.1⟩,c.A.2⟩
  ·have j:=E (show r=⟨N++[⟨L,f,ga t,0,ga t⟩],d1,l1⟩ by rw[p.A,af (by simp[k]),af D]);have Y:decide (16<=N.length)=false:=aa D;clear k;go_wp2_with fail;refine(MI t _).ah ?_;rintro e w3⟨rfl,rfl⟩;obtain⟨T,HT⟩:∃T,a6 (ga t=T):=⟨_,E rfl⟩;rw[HT.A] at j⊢;have aJ:=E a.A.b.size;have b5:=ajQ w3 (aj a.A.b.size b.A) a.A.q an;go_wp2_with fail;refine b5.ah ?_;rintro e w4⟨⟨v4,rfl,bc⟩,Z⟩;replace a:=E (a.A.al Z.aC);have HO:=E (bc.less (b':=w.heap.size) aJ.A);have R4:=E a.A.b.size;have HX:=E a.A.x;have HY:=E a.A.y;clear b5 bc Z i;go_wp2_with ((refine uv fV au (.tmp 29) (.tmp 35) 29 au w.heap.size 56 _ ar aao au aq B _ N au w4 [O Al L.length cl,aG f,J I T,J I 0,J I T] ⟨L,f,T,0,T⟩ au HO.A ⟨_,rfl,a.A.p⟩ an R4.A b.A aap ?_;intro G w' bC fA X pI;obtain⟨A5,c5,mM,_⟩:=bC.shape;obtain⟨n5,ri⟩:∃n,(N++[(⟨L,f,T,0,T⟩:Nte)]).length=n:=⟨_,rfl⟩;rw[ri] at mM;subst mM;clear ri;have R:=X.eP HX.A aq;have C:=R.frozen 0;have i:=R.cell 0;have a:=E (a.A.push b.A (fA _ a.A.b (aO _)) X bC);simp at i;clear R bC fA X pI;have s:=E (a.A.y.iv (O A5 n5 c5) (J I d1) (J I l1));have c:=E (a.A.fin b.A);have e0:=a.A.x.cell 0;have e1:=a.A.x.cell 1;have e2:=a.A.x.cell 2;have h0:=a.A.y.cell 0;have h1:=a.A.y.cell 1;have h2:=a.A.y.cell 2;have p0:=a.A.y.frozen 0;have p1:=a.A.y.frozen 1;have p2:=a.A.y.frozen 2;simp at e0 e1 e2 h0 h1 h2));have k0:=s.A.cell;refine bF (v:=aY #[(O A5 n5 c5),J I d1,J I l1]) arn rfl ⟨⟨_,rfl,by rw[j.A];exact c.A.1⟩,c.A.2⟩
def NV (n:Int) (w:aB):aN aH 23 #[J I n] w λe w'=>e=aQ (aG (et n))/\w'=w:=by
 go_enter func23,ntmps23;go_wp2;all_goals go_ret
 all_goals refine⟨cc ?_,rfl⟩
 all_goals rw[Bool.eq_iff_iff]
 all_goals simp only[et,Bool.or_eq_true,b9,decide_eq_true_eq,true_iff,tL,false_iff]
 all_goals omega
variable {x:dC}
section
open im (dT fe)
noncomputable def arB (st:List cr) (l:aZ):List dC:=if sq l st=true then sS st (ahead l st) else[]
def arK (l:aZ):¬fu l l<0:=ai (lg.refl l)
def arL {st:List cr} (h:i<st.length):sL st i=(st[i]).L:=by unfold sL;rw[dr h]
def ar7 {st:List cr} (h:i<st.length):sS st i=(st[i]).S:=by unfold sS;rw[dr h]
def arU {st:List cr} (a:Ir st) {i:Nat} (hi:i<st.length):ahead (st[i]).L st=i:=by
 rcases Nat.lt_trichotomy (ahead (st[i]).L st) i with h|h|h
 ·have:=Wq a hi h;have h2:=lg.refl (st[i]).L;omega
 ·exact h
 ·have c:=PA (st[i]).L st;have b:st[i]∈st.take (ahead (st[i]).L st):=by
   rw[List.mem_take_iff_getElem];exact⟨i,an,rfl⟩
  exact ae (Wo _ b) (arK _)
def arM {st:List cr} (d:Ir st) {y:cr} (c:y∈st):sq y.L st=true/\arB st y.L=y.S:=by
 obtain⟨i,hi,rfl⟩:=qV.1 c;have b:=arU d hi;have a:sq (st[i]).L st=true:=by
  unfold sq;rw[b,b9,decide_eq_true_eq,decide_eq_true_eq];exact⟨hi,arL hi⟩
 refine⟨a,?_⟩;unfold arB;rw[ag a,b,ar7 hi]
def arV {st:List cr} {l:aZ} (h:∀y∈st,y.L≠l):sq l st=false/\arB st l=[]:=by
 have a:sq l st=false:=by
  cases h':sq l st with
  |false=>rfl
  |true=>
   unfold sq at h';rw[b9,decide_eq_true_eq,decide_eq_true_eq] at h';rw[arL h'.1] at h';exact ae h'.2 (h _ (dl h'.1))
 refine⟨a,?_⟩;unfold arB;rw[af (by rw[a];decide)]
def ar8 {a b:List cr} (k:Ir a) (Z:Ir b) (h:∀y,y∈a↔y∈b):a=b:=by
 induction a generalizing b with
 |nil=>
  cases b with
  |nil=>rfl
  |cons y b=>exact ae ((h y).2 av) av
 |cons x a j=>
  cases b with
  |nil=>exact ae ((h x).1 av) av
  |cons y b=>
   have g:=List.pairwise_cons.1 k;have d:=List.pairwise_cons.1 Z;have i:x=y:=by
    have f:=(h x).1 av;have h2:=(h y).2 av;rcases ee.1 f with e|f
    ·exact e
    ·rcases ee.1 h2 with e|h2
     ·exact e.symm
     ·have m:=d.1 x f;have l:=g.1 y h2;have:=lg.tO x.L y.L;omega
   subst i;rw[j g.2 d.2 (λz=>?_)];constructor
   ·intro c;rcases ee.1 ((h z).1 (by simp[c])) with e|hz'
    ·subst e;exact ae (g.1 _ c) (arK _)
    ·exact hz'
   ·intro c;rcases ee.1 ((h z).2 (by simp[c])) with e|hz'
    ·subst e;exact ae (d.1 _ c) (arK _)
    ·exact hz'
def arI {st m:List cr} {l:aZ} (hs:eY st=true) (h:ra st l x=ad m):∃s,yT (arB st l) x=ad s/\m.length<=st.length+1/\∀y,y∈m↔(y∈st/\y.L≠l)\/y=⟨l,s⟩:=by
 have i:=(vm.1 hs).2.2;unfold ra at h;simp only at h;rw[arR hs] at h;split at h
 ·cases h
 change (match yT (arB st l) x with|none=>M|some s=>_)=_ at h;cases n:yT (arB st l) x with
 |none=>rw[n] at h;cases h
 |some s=>
  rw[n] at h;simp only at h;refine⟨s,rfl,?_⟩;cases a:sq l st with
  |true=>
   rw[a,ag rfl] at h;injection h with h;subst h;unfold sq at a;rw[b9,decide_eq_true_eq,decide_eq_true_eq] at a;obtain⟨hi,k⟩:=a;refine⟨av,λy=>?_⟩;rw[k];have f:(st[ahead l st]'hi).L=l:=by rw[<-arL hi];exact k
   constructor
   ·intro c;obtain⟨j,hj,e⟩:=qV.1 c;rw[List.getElem_set] at e;split at e
    ·exact .inr e.symm
    ·rename_i d;simp only[List.length_set] at hj;refine .inl ⟨e▸dl hj,λb=>d ?_⟩;rw[<-e] at b;have:=arU i hj;rw[b] at this;exact this
   ·rintro(⟨c,d⟩|rfl)
    ·obtain⟨j,hj,rfl⟩:=qV.1 c;refine qV.2 ⟨j,am hj,?_⟩;rw[List.getElem_set,af];rintro rfl;exact d f
    ·exact qV.2 ⟨ahead l st,am hi,by rw[List.getElem_set,ag rfl]⟩
  |false=>
   rw[a,af aq] at h;split at h
   ·cases h
   injection h with h;subst h;have g:∀y∈st,y.L≠l:=λy c e=>by
    have:=(arM i c).1;rw[e,a] at this;cases this
   refine⟨aw,λy=>?_⟩;rw[kf,ee];constructor
   ·rintro(h|h|h)
    ·exact .inl ⟨List.mem_of_mem_take h,g y (List.mem_of_mem_take h)⟩
    ·exact .inr h
    ·exact .inl ⟨arC h,g y (arC h)⟩
   ·rintro(⟨h,_⟩|h)
    ·rw[<-List.take_append_drop (ahead l st) st,kf] at h;exact h.imp id .inr
    ·exact .inr (.inl h)
def arN {st:List cr} {l:aZ} (hs:eY st=true) (b:st.length<32):ra st l x=M↔qe l=false\/yT (arB st l) x=M:=by
 unfold ra;simp only;rw[arR hs];cases hn:qe l with
 |false=>simp
 |true=>
  rw[af aq];change (match yT (arB st l) x with|none=>M|some s=>_)=_↔_;cases c:yT (arB st l) x with
  |none=>simp
  |some s=>
   simp only[reduceCtorEq,or_false,iff_false];cases a:sq l st with
   |true=>simp
   |false=>simp;omega
noncomputable def D6 (st:List cr) (l:aZ) (x:dC):List cr:=(ra st l x).getD st
def ajW {st:List cr} {l:aZ} (hs:eY st=true):eY (D6 st l x)=true:=by
 unfold D6;cases h:ra st l x with
 |none=>exact hs
 |some m=>exact YB h
def arW {st:List cr} {l:aZ} (hs:eY st=true):(D6 st l x).length<=st.length+1:=by
 unfold D6;cases h:ra st l x with
 |none=>simp
 |some m=>obtain⟨_,_,h2,_⟩:=arI hs h;exact h2
def arX {st:List cr} {l k:aZ} (hs:eY st=true) (f:k≠l):arB (D6 st l x) k=arB st k:=by
 have i:=ajW (l:=l) (x:=x) hs;have g:=(vm.1 hs).2.2;have a:=(vm.1 i).2.2;unfold D6 at*;cases h:ra st l x with
 |none=>rfl
 |some m=>
  rw[h] at a;obtain⟨s,_,_,d⟩:=arI hs h;simp only[Option.getD_some] at a⊢;by_cases c:∃y∈st,y.L=k
  ·obtain⟨y,b,rfl⟩:=c;rw[(arM g b).2,(arM a ((d y).2 (.inl ⟨b,f⟩))).2]
  ·rw[(arV (λy b e=>c ⟨y,b,e⟩)).2,(arV (λy b e=>?_)).2];rcases(d y).1 b with⟨h1,_⟩|rfl
   ·exact c ⟨y,h1,e⟩
   ·exact f e.symm
def ar9 {st:List cr} {l k:aZ} {y:dC} (hs:eY st=true) (G:st.length<=30) (f:l≠k):D6 (D6 st l x) k y=D6 (D6 st k y) l x:=by
 have e:=ajW (l:=l) (x:=x) hs;have g:=ajW (l:=k) (x:=y) hs;have l1:=arW (l:=l) (x:=x) hs;have l2:=arW (l:=k) (x:=y) hs;have v:=arX (x:=x) hs (Ne.symm f);have u:=arX (x:=y) hs f;have n1:=arN (l:=k) (x:=y) e an;have b:=arN (l:=l) (x:=x) g an;rw[v] at n1;rw[u] at b;rw[<-arN hs an] at n1 b;cases a:ra st l x with
 |none=>
  have d:D6 st l x=st:=by unfold D6;rw[a];rfl
  have c:D6 (D6 st k y) l x=D6 st k y:=by
   show(ra (D6 st k y) l x).getD _=_;rw[b.2 a];rfl
  rw[d,c]
 |some m=>
  cases Z:ra st k y with
  |none=>
   have d:D6 st k y=st:=by unfold D6;rw[Z];rfl
   have c:D6 (D6 st l x) k y=D6 st l x:=by
    show(ra (D6 st l x) k y).getD _=_;rw[n1.2 Z];rfl
   rw[d,c]
  |some o=>
   have d:D6 st l x=m:=by unfold D6;rw[a];rfl
   have c:D6 st k y=o:=by unfold D6;rw[Z];rfl
   have g1:=ajW (l:=k) (x:=y) e;have g2:=ajW (l:=l) (x:=x) g;rw[d] at e v n1 g1⊢;rw[c] at g u b g2⊢;obtain⟨s,C,_,D⟩:=arI hs a;obtain⟨t,cH,_,gz⟩:=arI hs Z;cases j:ra m k y with
   |none=>rw[n1.1 j] at Z;cases Z
   |some p=>
    cases i:ra o l x with
    |none=>rw[b.1 i] at a;cases a
    |some q=>
     have A:D6 m k y=p:=by unfold D6;rw[j];rfl
     have w:D6 o l x=q:=by unfold D6;rw[i];rfl
     rw[A] at g1⊢;rw[w] at g2⊢;obtain⟨E,c1,_,c2⟩:=arI e j;obtain⟨F,d1,_,B⟩:=arI g i;rw[v,cH] at c1;rw[u,C] at d1;injection c1 with c1;injection d1 with d1;subst c1 d1;refine ar8 (vm.1 g1).2.2 (vm.1 g2).2.2 λz=>?_;rw[c2,B,D,gz];constructor
     ·rintro(⟨⟨r,h2⟩|rfl,n⟩|rfl)
      ·exact .inl ⟨.inl ⟨r,n⟩,h2⟩
      ·exact .inr rfl
      ·exact .inl ⟨.inr rfl,λh=>f h.symm⟩
     ·rintro(⟨⟨r,h2⟩|rfl,n⟩|rfl)
      ·exact .inl ⟨.inl ⟨r,n⟩,h2⟩
      ·exact .inr rfl
      ·exact .inl ⟨.inr rfl,f⟩
end
def JB (l:List eX) (k:Key) (T:cy):Prop:=(T=⟨[],0⟩/\(kz l=true->∀s∈l,s.k≠k))\/(kz l=true/\∃s∈l,s.k=k/\T=s.x)
theorem aaC (h:P:=by
 clear he e1;go_wp2;go_roundw;case rel=>exact⟨m+1,aR.A,by go_num,vE,b3.A⟩
 case measure=>exact ax
 ):P:=h
def aj3 {l:List eX} (k0 a:ByteArray) (w:aB) (hB:B<=w.heap.size) (h:Vs jH w B v l):aN aH 90 #[v,aY #[ap k0,ap a]] w λe w'=>(∃u T,e=aQ u/\Av jb w' B T u/\JB l (k0,a) T)/\aF w w':=by
 have G:=((aF.refl w).alloc (aD #[ap k0,ap a] 67)).alloc (aD #[O M 0 0,J I 0] 56);have c:=E G;have y:=E ((aI.new w 67 #[ap k0,ap a]).alloc (aD #[O M 0 0,J I 0] 56));have HX:=E (show aI ((w.alloc (aD #[ap k0,ap a] 67)).alloc (aD #[O M 0 0,J I 0] 56)) (w.heap.size+1) 56 #[O M 0 0,J I 0] from by have:=aI.new (w.alloc (aD #[ap k0,ap a] 67)) 56 #[O M 0 0,J I 0];simpa using this);have X:=E hB;have HV:=E (h.al G.aC);have K:=Sb _ HV.A;obtain⟨ao,cap,rfl,S,cn,b4⟩:=h.be;have iq:=E S;obtain⟨r,D⟩:=aP (kz l);rw[D] at K;have L:=E D;clear h S D G hB;go_enter func90,ntmps90;go_wp2_with fail;refine K.ah ?_;rintro e w1⟨rfl,Z⟩;replace HX:=E (HX.A.al Z.aC HX.A.lt);replace y:=E (y.A.al Z.aC y.A.lt);replace c:=E (c.A.trans Z);clear K Z HV;cases r with
 |false=>
  have V:=HX.A.frozen 0;have U:=HX.A.frozen 1;have x0:=HX.A.cell 0;have o:=HX.A.cell 1;simp at x0 o;have d:=E (HX.A.s8 (O M 0 0) (J I 0));have k:=E (rJ HX.A.lt (O M 0 0) (J I 0));go_wp2;have r0:=d.A.cell 0;have r1:=d.A.cell 1;simp at r0 r1;refine bF (v:=aY #[O M 0 0,J I 0]) ars rfl ⟨⟨_,⟨[],0⟩,rfl,⟨_,rfl,_,rfl,Vs.bh _ _ _⟩,.inl ⟨rfl,λh=>ae (L.A.symm.trans h) aq⟩⟩,c.A.cD k.A (mg _)⟩
 |true=>
  have aJ:l.length<=256:=(FQ L.A).1;go_wp2;go_loopw [13] (λi wr=>∃m:Nat,m<=l.length/\i=J I m/\a6 (∀j,j<m->cz l j≠(k0,a))/\aF w1 wr) (λi _=>l.length-(intOf i).toNat);case atStart=>exact⟨0,an,rfl,E (λj hj=>ae hj an),aF.refl _⟩
  case round=>
   obtain⟨m,hm,rfl,HN,C⟩:=hrel;by_cases n:m<l.length
   ·obtain⟨b,off,A0,c0,rfl,cw,y0,y1,y2,y3,bJ,W⟩:=iq.A.sv (c.A.trans C).aC n;have aR:=E n;have H:=(aF.refl wr).alloc (aD #[ap (cz l m).1,ap (cz l m).2,O A0 (fJ l m).ao.length c0,J I (fJ l m).full] 205);have b3:=E (C.trans H);have N:=E (W.al H.aC);have z:=E (aI.new wr 205 #[ap (cz l m).1,ap (cz l m).2,O A0 (fJ l m).ao.length c0,J I (fJ l m).full]);have f:=E (y.A.al b3.A.aC y.A.lt);replace HX:=E (HX.A.al b3.A.aC HX.A.lt);have t:=f.A.cell 0;have p:=f.A.cell 1;have s0:=z.A.cell 0;have s1:=z.A.cell 1;have R:=z.A.cell 2;have Q:=z.A.cell 3;simp at t p s0 s1 R Q;obtain⟨g,hg⟩:=aP ((cz l m).1);obtain⟨q,F⟩:=aP ((cz l m).2);have Y:=E (show cz l m=(g,q) from Prod.ext hg F);clear bJ W H;simp only[hg,F] at y0 y1 s0 s1 b3 N z f HX t p R Q;clear hg F;by_cases he:g=k0/\q=a
    ·have e1:(g.toList==k0.toList)=true:=by rw[j9];simpa using he.1
     have e2:(q.toList==a.toList)=true:=by rw[j9];simpa using he.2
     have A:=E he;clear he;replace c:=E (c.A.trans b3.A);have V:=HX.A.frozen 0;have U:=HX.A.frozen 1;have x0:=HX.A.cell 0;have o:=HX.A.cell 1;simp at x0 o;have d:=E (HX.A.s8 (O A0 (fJ l m).ao.length c0) (J I (fJ l m).full));have k:=E (rJ HX.A.lt (O A0 (fJ l m).ao.length c0) (J I (fJ l m).full));go_wp2;have r0:=d.A.cell 0;have r1:=d.A.cell 1;simp at r0 r1;refine bF (v:=aY #[O A0 (fJ l m).ao.length c0,J I (fJ l m).full]) ars rfl ⟨⟨_,fJ l m,rfl,⟨_,rfl,_,rfl,N.A.keep ((Kt.refl B [56] _).grown k.A (a8 X.A c.A.size) (λx e=>by cases e;exact⟨Nat.le_succ_of_le X.A,bp.bO HX.A⟩) (bD.2 rfl)) aq aq⟩,.inr ⟨L.A,l[m]'n,dl n,by rw[JA n];show cz l m=_;rw[Y.A,A.A.1,A.A.2],by rw[JA n]⟩⟩,c.A.cD k.A (mg _)⟩
    ·have A:=E he;have vE:=E (show∀j,j<m+1->cz l j≠(k0,a) fromλj hj=>by
      rcases gy j m with h'|h'
      ·exact HN.A j h'
      ·obtain rfl:j=m:=by omega
       rw[Y.A];exactλh=>A.A ⟨congrArg Prod.fst h,congrArg Prod.snd h⟩)
     by_cases e1:g=k0
     ·have d1:(g.toList==k0.toList)=true:=by rw[j9];simpa using e1
      have d2:(q.toList==a.toList)=false:=by rw[j9];simpa usingλh=>A.A ⟨e1,h⟩
      exact aaC
     ·have d1:(g.toList==k0.toList)=false:=by rw[j9];simpa using e1
      exact aaC
   ·obtain rfl:m=l.length:=by omega
    replace HX:=E (HX.A.al C.aC HX.A.lt);replace c:=E (c.A.trans C);have V:=HX.A.frozen 0;have U:=HX.A.frozen 1;have x0:=HX.A.cell 0;have o:=HX.A.cell 1;simp at x0 o;have d:=E (HX.A.s8 (O M 0 0) (J I 0));have k:=E (rJ HX.A.lt (O M 0 0) (J I 0));go_wp2;have r0:=d.A.cell 0;have r1:=d.A.cell 1;simp at r0 r1;refine bF (v:=aY #[O M 0 0,J I 0]) ars rfl ⟨⟨_,⟨[],0⟩,rfl,⟨_,rfl,_,rfl,Vs.bh _ _ _⟩,.inl ⟨rfl,λ_ s hs=>by obtain⟨j,hj,rfl⟩:=qV.1 hs;rw[JA hj];exact HN.A j hj⟩⟩,c.A.cD k.A (mg _)⟩
theorem aa9 (h:P:=by
 have jv:(xK !=0)=true:=aqk;have HK:=E hk;have hR:=HN.A.1 hk;replace HS:=E (HS.A.step hR hG);clear hk hR hG HN;go_wp2;go_ret;exact⟨⟨xK,_,_,_,_,rfl,HS.A.rd,E ⟨λh=>ae h HK.A,λh=>(zI.A h).elim⟩⟩,HS.A.gr⟩;):P:=h
def akC {c:Nat} (hG:eK w0) (hT:∀t∈l,t.s.size<=1000000) (mJ:l.length<=65536) (h:dk w0 w B b c i ao l ⟨⟨#[]⟩,⟨⟨⟨#[]⟩,[]⟩,0,0⟩,0,0,[]⟩ (M,0) (M,0)):aN aH 220 #[bl (ad (ab b 0 M))] w λe w'=>RUo w0 w w' B b c i ao l e:=by
 have bW:=(bk w.heap.size w).alloc (aO _) (aD #[bl (ad (ab b 0 M))] 324);have HS:=E (show B7 w0 w (w.alloc (aD #[bl (ad (ab b 0 M))] 324)) B b c i ao l ⟨⟨#[]⟩,⟨⟨⟨#[]⟩,[]⟩,0,0⟩,0,0,[]⟩ (M,0) (M,0) from⟨h.al bW,grown_of bW,aI.new w _ _,h.box.lt,h.b0.size⟩);have cY:=E hG;have gZ:=E hT;have uC:=E mJ;have dM:=E (a8 h.lc.1 h.lc.2);clear h bW hG hT mJ;go_enter func220,ntmps220;cases kw:cA l i 1 xH with
 |false=>
  have N:=E kw;have a:=zD 1 xH HS.A.rd kw;clear kw;have d:=HS.A.jn.cell 0;go_wp2_with fail;refine(a).ah ?_;rintro e g⟨rfl,Z⟩;replace HS:=E (HS.A.al Z);clear Z;clear a d;have d:=HS.A.jn.cell 0;have H:=E (B4 HS.A.rd);go_wp2_with fail;refine H.A.ah ?_;rintro e g⟨⟨k,rfl,G⟩,Z⟩;have HK:=E (show k≠0 by simpa using G);replace HS:=E (HS.A.al Z);clear G Z H d;go_wp2;go_ret;exact⟨⟨k,_,_,_,_,rfl,HS.A.rd,E ⟨λh=>ae h HK.A,λh=>ae ((xI h).1.symm.trans N.A) aq⟩⟩,HS.A.gr⟩
 |true=>
  have a:=zE 1 xH HS.A.rd kw;have Bw:=E kw;clear kw;have d:=HS.A.jn.cell 0;go_wp2_with fail;refine(a).ah ?_;rintro e g⟨rfl,hR,hG⟩;replace HS:=E (HS.A.step hR hG);clear hR hG;clear a d;obtain⟨K,Jl⟩:=aP (i+1);rw[Jl] at HS;have Ni:=E Jl;clear Jl;cases hk:eT l K 1 with
  |false=>
   have N:=E (show eT l (i+1) 1=false by rw[Ni.A];exact hk);have a:=Gk 1 HS.A.rd;rw[hk] at a;clear hk;have d:=HS.A.jn.cell 0;go_wp2_with fail;refine(a).ah ?_;rintro e g⟨rfl,Z⟩;replace HS:=E (HS.A.al Z);clear Z;clear a d;have d:=HS.A.jn.cell 0;have H:=E (B4 HS.A.rd);go_wp2_with fail;refine H.A.ah ?_;rintro e g⟨⟨k,rfl,G⟩,Z⟩;have HK:=E (show k≠0 by simpa using G);replace HS:=E (HS.A.al Z);clear G Z H d;go_wp2;go_ret;exact⟨⟨k,_,_,_,_,rfl,HS.A.rd,E ⟨λh=>ae h HK.A,λh=>ae ((xI h).2.1.symm.trans N.A) aq⟩⟩,HS.A.gr⟩
  |true=>
   have U:=kZ hk;have a:=Gk 1 HS.A.rd;rw[hk] at a;clear hk;have d:=HS.A.jn.cell 0;go_wp2_with fail;refine(a).ah ?_;rintro e g⟨rfl,Z⟩;replace HS:=E (HS.A.al Z);clear Z;clear a d;obtain⟨gq,off,JK,eb,q0,q1,q2,q3⟩:=HS.A.rd.tk.tk HS.A.rd.b0.aC U;subst JK;have x2:=λp:ba _=>p.cell (da eb HS.A.rd.b0.size) q2;have y0:=ba.cells HS.A.rd.box;have d:=ba.cells HS.A.jn 0;have jc:=HS.A.rd.lc.1;have ju:=HS.A.rd.lc.2;have xM:=E (show eu l (i+1)=l[K].s by rw[Ni.A];exact qx U);obtain⟨T,ol⟩:=aP (l[K].s);rw[ol] at q3 xM;simp only[ol] at x2;have V:=E q3;have aR:=E U;clear ol q0 q1 q2 q3;go_wp2_with fail;refine du (cU 0 15 []) [15] ?_;refine dY ?_;refine S4.nb λwq hq=>?_;replace HS:=E (HS.A.al hq);have z2:=HS.A.rd.box.cell 2;have f2:=HS.A.rd.box.frozen 2;have hR:=HS.A.rd.nm (n:=T) V.A;have hG:=bX (o:=2) HS.A.rd.box.lt (ap T);replace HS:=E (HS.A.step hR hG);clear hq hR hG y0 x2 d;refine dP ?_;have z2:=HS.A.rd.box.cell 2;cases e5:db T with
   |false=>
    have N:=E e5;have a:=λW=>mu T W V.A;simp only[e5] at a;have d:=HS.A.jn.cell 0;go_wp2_with fail;refine(a _).ah ?_;rintro e g⟨rfl,rfl⟩;clear a d z2 f2 e5;go_wp2;go_ret;exact⟨⟨7,_,_,_,_,rfl,HS.A.rd,E ⟨λh=>ae h aq,λh=>ae ((xI h).2.2.1.symm.trans (xM.A▸N.A)) aq⟩⟩,HS.A.gr⟩
   |true=>
    have a:=λW=>mu T W V.A;simp only[e5] at a;have nj:=E e5;have d:=HS.A.jn.cell 0;go_wp2_with fail;refine(a _).ah ?_;rintro e g⟨rfl,rfl⟩;clear a d z2 f2 e5;have z1:=HS.A.rd.box.cell 1;have f1:=HS.A.rd.box.frozen 1;have d:=HS.A.jn.cell 0;have w1:I.wrap ((K:Int)+1)=(K:Int)+1:=aqL;have L:=bX (o:=1) HS.A.rd.box.lt (J I ((K:Int)+1));have Y:=HS.A.rd.step (j:=K+1) aR.A;replace HS:=E (HS.A.step Y L);have p1:=HS.A.jn.cell 0;simp at p1;clear L Y;cases eg:cA l (K+1) 4 ⟨#[58]⟩ with
    |false=>
     have N:=E (show cA l (i+2) 4 ⟨#[58]⟩=false by rw[show i+2=K+1 by have:=Ni.A;omega];exact eg);have a:=zD 4 ⟨#[58]⟩ HS.A.rd eg;clear eg;go_wp2_with fail;refine(a).ah ?_;rintro e g⟨rfl,Z⟩;replace HS:=E (HS.A.al Z);clear Z;clear a d p1 z1 f1 w1;have d:=HS.A.jn.cell 0;have H:=E (B4 HS.A.rd);go_wp2_with fail;refine H.A.ah ?_;rintro e g⟨⟨k,rfl,G⟩,Z⟩;have HK:=E (show k≠0 by simpa using G);replace HS:=E (HS.A.al Z);clear G Z H d;go_wp2;go_ret;exact⟨⟨k,_,_,_,_,rfl,HS.A.rd,E ⟨λh=>ae h HK.A,λh=>ae ((xI h).2.2.2.1.symm.trans N.A) aq⟩⟩,HS.A.gr⟩
    |true=>
     have a:=zE 4 ⟨#[58]⟩ HS.A.rd eg;clear eg;go_wp2_with fail;refine(a).ah ?_;rintro e g⟨rfl,hR,hG⟩;replace HS:=E (HS.A.step hR hG);clear hR hG;clear a d p1 z1 f1 w1;obtain⟨j3,BK⟩:=aP (K+1+1);rw[BK] at HS;have xD:=E (show i+3=j3 by have:=Ni.A;omega);have a4:=E (xM.A.symm);clear BK;have y0:=ba.cells HS.A.rd.box;have d:=ba.cells HS.A.jn 0;have p1:=Gy.cells HS.A.jn (sh HS.A.Z) 0;simp at p1;have zK:=E (λp:ba _=>ako (HS.A.rd.b0.trans p.r) HS.A.rd.tk HS.A.rd.lc HS.A.rd.le (cY.A.rel (HS.A.rd.b0.trans p.r)) gZ.A);go_wp2_with fail;refine wa aF (jT b) aF.refl aF.trans jT.trans jT.of (.q 0 (.p 1 (dq 2 8 (.c 10 (dq 11 2 (.p 13 (.p 14 (.p 15 (.p 16 (.p 17 (.s 18 (.p 19 (.p 20 (.s 21 (.q 22 .nil))))))))))))))) (aF.drew _) ?_;refine bP ?_;refine S6.c ?_;rintro _⟨C,rfl⟩ KK aJ;go_simp;refine(zK.A C).ah ?_;rintro e wd⟨⟨v,X,k,uF,rfl,Ee⟩,Z⟩;obtain⟨u,mM,JP,Sx⟩:=Ee.val.A;obtain⟨A2,c2,Sy,_⟩:=Sx.len_;subst Sy;subst mM;have nK:=E (iC JP Sx);have cL:=E (iC Ee.le (iC Ee.Sd Ee.ex));have a2:=E ((HS.A.al C.aC).al Z.aC);refine aJ _ _ Z ?_;clear aJ KK Z y0 d p1 zK Ee JP Sx HS C;refine bP ?_;refine S6.s ?_;rintro _⟨C,rfl⟩ KK aJ;go_simp;have HS:=E (a2.A.al C.aC);have aW:=E (nK.A.2.al C.aC);have⟨z3,f3⟩:=HS.A.rd.box.cf;go_simp;have Y:=HS.A.rd.akv (X:=X) (A2:=A2) (c2:=c2) nK.A.1 aW.A;have L:=bB (bB (bB (bX (o:=3) HS.A.rd.box.lt (ap X.s.n)) (bX (o:=4) arl (O A2 X.s.aU.length c2))) (bX (o:=5) arl (J I X.op))) (bX (o:=6) arl (J I X.v));refine aJ _ _ (jT.gr L) ?_;clear aJ KK z3 f3 aW;replace HS:=E (HS.A.step Y L);clear Y L a2;generalize((((C.aL.setCell (ab b 3 M) (ap X.s.n)).setCell (ab b 4 M) (O A2 X.s.aU.length c2)).setCell (ab b 5 M) (J I X.op)).setCell (ab b 6 M) (J I X.v))=W8 at HS⊢;clear C;refine bP ?_;refine S6.s ?_;rintro _⟨C,rfl⟩ KK aJ;go_simp;have bM:=E (HS.A.al C.aC);have z1:=bM.A.rd.box.cell 1;have f1:=bM.A.rd.box.frozen 1;go_simp;have L:=bX (o:=1) bM.A.rd.box.lt (J I (uF:Int));refine aJ _ _ (jT.gr L) ?_;clear aJ KK z1 f1 HS;have Y:=bM.A.rd.step (j:=uF) cL.A.1;have hU:=E (bM.A.step Y L);clear Y L bM;generalize C.aL.setCell (ab b 1 M) (J I (uF:Int))=W9 at hU⊢;clear C;refine bP ?_;refine S6.nb λwq hq=>?_;have HS:=E (hU.A.al hq);clear hU hq;have Sz:=E (λ(h:qA l i=true)=>(cL.A.2.2 (by have e:i+3=j3:=xD.A;rw[<-e];exact(xI h).2.2.2.2.1)));by_cases hk:k=0;case neg=>
      have jv:(k !=0)=true:=aqk;have HK:=E hk;clear hk;go_wp2;go_ret;exact⟨⟨k,_,_,_,_,rfl,HS.A.rd,E ⟨λh=>ae h HK.A,λh=>ae (Sz.A h).2.1 HK.A⟩⟩,HS.A.gr⟩
     subst hk;have d:=HS.A.jn.cell 0;have xN:∀(fn:Fn) (first cap:Array aE) (w:aB),(Instr.makeFunc fn first cap).run aH w= .ok (.func fn first cap) w:=λ_ _ _ _=>rfl;have f:=E (show db T=true/\rq X=true from⟨nj.A,cL.A.2.1 rfl⟩);have cV:=E (HS.A.al ((bk _ _).alloc (aO _) (aD #[ap ⟨#[102,111,114]⟩,.func (.func 255) #[] #[bl (ad (ab w.heap.size 0 M))],ap ⟨#[107,101,101,112]⟩,.func (.func 257) #[] #[bl (ad (ab w.heap.size 0 M))],ap ⟨#[108,97,98,101,108,115]⟩,.func (.func 258) #[bl (ad (ab b 0 M))] #[]] 374)));go_wp2;clear xN;go_loopw [84] (λi9 wr=>∃(k j:Nat) (R:cv) (m q:Option aX×Nat),k<=3/\i9=J I k/\a6 (B7 w0 w wr B b c j (ad (ab gq off M)) l R m q/\(db R.n=true/\rq R.x=true/\gm R.wait=true/\gm R.keep=true/\bH R.L=true/\zi R.L=false)/\(k<=2->R.L=[])/\(qA l i=true->R=te l i/\i+6=j))) (λi9 _=>3-(intOf i9).toNat);case atStart=>exact⟨0,uF,_,_,_,an,rfl,E ⟨cV.A,⟨f.A.1,f.A.2,(show gm 0=true from by decide),(show gm 0=true from by decide),akq,rfl⟩,λ_=>rfl,λh=>by
      obtain⟨r,_,h2⟩:=Sz.A h;refine⟨?_,ai xD.A⟩;rw[r];unfold te;rw[a4.A,show i+3=j3 from xD.A]⟩⟩
     case round=>
      clear HS cV f Sz nK cL d;obtain⟨k,j,R,m,q,hk,rfl,HU⟩:=hrel;have HS:=E HU.A.1;have f:=E HU.A.2.1;have V:=E HU.A.2.2.1;have S:=E HU.A.2.2.2;have SA:=E (HU.A.1.gr.size);clear HU;rcases k with _|_|_|_|k
      ·skip;have fL:∀W,(mX 374 (aY #[ap ⟨#[102,111,114]⟩,.func (.func 255) #[] #[bl (ad (ab w.heap.size 0 M))],ap ⟨#[107,101,101,112]⟩,.func (.func 257) #[] #[bl (ad (ab w.heap.size 0 M))],ap ⟨#[108,97,98,101,108,115]⟩,.func (.func 258) #[bl (ad (ab b 0 M))] #[]]) (J I 0)).run aH W= .ok (aY #[ap ⟨#[102,111,114]⟩,.func (.func 255) #[] #[bl (ad (ab w.heap.size 0 M))]]) W:=λW=>by kernel_rfl
       have d:=HS.A.jn.cell 0;have D:=E (HS.A.al ((bk _ _).alloc (aO _) (aD #[ap ⟨#[102,111,114]⟩,.func (.func 255) #[] #[bl (ad (ab w.heap.size 0 M))]] 373)));have ca:=aI.new wr 373 #[ap ⟨#[102,111,114]⟩,.func (.func 255) #[] #[bl (ad (ab w.heap.size 0 M))]];have x0:=ca.cell 0;have z:=E ca;have d:=D.A.jn.cell 0;replace HS:=D;clear ca D;cases hn:cA l j 1 ⟨#[102,111,114]⟩ with
       |false=>
        have a:=zD 1 ⟨#[102,111,114]⟩ HS.A.rd hn;clear hn;go_wp2_with fail;refine(a).ah ?_;rintro e g⟨rfl,Z⟩;replace HS:=E (HS.A.al Z);clear Z;clear a x0 d z fL;go_wp2;go_roundw;case rel=>exact⟨1,j,R,m,q,an,au,E ⟨HS.A,f.A,λh=>V.A an,S.A⟩⟩
        case measure=>simp[intOf]
       |true=>
        have a:=zE 1 ⟨#[102,111,114]⟩ HS.A.rd hn;have zI:=E (show qA l i=true->False fromλh=>by
         have r:=(xI h).2.2.2.2.2;rw[(S.A h).2] at r;rw[pJ,b9] at r hn;have U:=kZ r.1;rw[s6 U,decide_eq_true_eq] at r hn;omega)
        clear hn;go_wp2_with fail;refine(a).ah ?_;rintro e g⟨rfl,hR,hG⟩;replace HS:=E (HS.A.step hR hG);replace z:=E (z.A.gr hG (aj HS.A.Z SA.A));clear hR hG a x0 d fL;have x1:=z.A.cell 1;skip;have a:=akw cY.A HS.A.jn HS.A.rd;go_wp2_with fail;refine(a).ah ?_;rintro e wy⟨⟨xK,rfl,HN⟩,hG⟩;clear a x1;by_cases hk:xK=0;case neg=>
         exact aa9
        subst hk;obtain⟨n,SB,hR⟩:=HN.A.2 rfl;have F:=hR;replace HS:=E (HS.A.step F hG);have JQ:=E (show _/\_/\_/\_/\_/\_ from⟨f.A.1,f.A.2.1,SB,f.A.2.2.2⟩);have SD:=E F.le;clear hG HN hR F;go_wp2;go_roundw;case rel=>exact⟨1,_,_,_,_,an,au,E ⟨HS.A,JQ.A,λ_=>V.A an,λh=>(zI.A h).elim⟩⟩
        case measure=>simp[intOf]
      ·skip;have fL:∀W,(mX 374 (aY #[ap ⟨#[102,111,114]⟩,.func (.func 255) #[] #[bl (ad (ab w.heap.size 0 M))],ap ⟨#[107,101,101,112]⟩,.func (.func 257) #[] #[bl (ad (ab w.heap.size 0 M))],ap ⟨#[108,97,98,101,108,115]⟩,.func (.func 258) #[bl (ad (ab b 0 M))] #[]]) (J I 1)).run aH W= .ok (aY #[ap ⟨#[107,101,101,112]⟩,.func (.func 257) #[] #[bl (ad (ab w.heap.size 0 M))]]) W:=λW=>by kernel_rfl
       have d:=HS.A.jn.cell 0;have D:=E (HS.A.al ((bk _ _).alloc (aO _) (aD #[ap ⟨#[107,101,101,112]⟩,.func (.func 257) #[] #[bl (ad (ab w.heap.size 0 M))]] 373)));have ca:=aI.new wr 373 #[ap ⟨#[107,101,101,112]⟩,.func (.func 257) #[] #[bl (ad (ab w.heap.size 0 M))]];have x0:=ca.cell 0;have z:=E ca;have d:=D.A.jn.cell 0;replace HS:=D;clear ca D;cases hn:cA l j 1 ⟨#[107,101,101,112]⟩ with
       |false=>
        have a:=zD 1 ⟨#[107,101,101,112]⟩ HS.A.rd hn;clear hn;go_wp2_with fail;refine(a).ah ?_;rintro e g⟨rfl,Z⟩;replace HS:=E (HS.A.al Z);clear Z;clear a x0 d z fL;go_wp2;go_roundw;case rel=>exact⟨2,j,R,m,q,an,au,E ⟨HS.A,f.A,λh=>V.A an,S.A⟩⟩
        case measure=>simp[intOf]
       |true=>
        have a:=zE 1 ⟨#[107,101,101,112]⟩ HS.A.rd hn;have zI:=E (show qA l i=true->False fromλh=>by
         have r:=(xI h).2.2.2.2.2;rw[(S.A h).2] at r;rw[pJ,b9] at r hn;have U:=kZ r.1;rw[s6 U,decide_eq_true_eq] at r hn;omega)
        clear hn;go_wp2_with fail;refine(a).ah ?_;rintro e g⟨rfl,hR,hG⟩;replace HS:=E (HS.A.step hR hG);replace z:=E (z.A.gr hG (aj HS.A.Z SA.A));clear hR hG a x0 d fL;have x1:=z.A.cell 1;skip;have a:=akx cY.A HS.A.jn HS.A.rd;go_wp2_with fail;refine(a).ah ?_;rintro e wy⟨⟨xK,rfl,HN⟩,hG⟩;clear a x1;by_cases hk:xK=0;case neg=>
         exact aa9
        subst hk;obtain⟨n,SB,hR⟩:=HN.A.2 rfl;have F:=hR;replace HS:=E (HS.A.step F hG);have JQ:=E (show _/\_/\_/\_/\_/\_ from⟨f.A.1,f.A.2.1,f.A.2.2.1,SB,f.A.2.2.2.2⟩);have SD:=E F.le;clear hG HN hR F;go_wp2;go_roundw;case rel=>exact⟨2,_,_,_,_,an,au,E ⟨HS.A,JQ.A,λ_=>V.A an,λh=>(zI.A h).elim⟩⟩
        case measure=>simp[intOf]
      ·skip;have fL:∀W,(mX 374 (aY #[ap ⟨#[102,111,114]⟩,.func (.func 255) #[] #[bl (ad (ab w.heap.size 0 M))],ap ⟨#[107,101,101,112]⟩,.func (.func 257) #[] #[bl (ad (ab w.heap.size 0 M))],ap ⟨#[108,97,98,101,108,115]⟩,.func (.func 258) #[bl (ad (ab b 0 M))] #[]]) (J I 2)).run aH W= .ok (aY #[ap ⟨#[108,97,98,101,108,115]⟩,.func (.func 258) #[bl (ad (ab b 0 M))] #[]]) W:=λW=>by kernel_rfl
       have d:=HS.A.jn.cell 0;have D:=E (HS.A.al ((bk _ _).alloc (aO _) (aD #[ap ⟨#[108,97,98,101,108,115]⟩,.func (.func 258) #[bl (ad (ab b 0 M))] #[]] 373)));have ca:=aI.new wr 373 #[ap ⟨#[108,97,98,101,108,115]⟩,.func (.func 258) #[bl (ad (ab b 0 M))] #[]];have x0:=ca.cell 0;have z:=E ca;have d:=D.A.jn.cell 0;replace HS:=D;clear ca D;cases hn:cA l j 1 ⟨#[108,97,98,101,108,115]⟩ with
       |false=>
        have a:=zD 1 ⟨#[108,97,98,101,108,115]⟩ HS.A.rd hn;clear hn;go_wp2_with fail;refine(a).ah ?_;rintro e g⟨rfl,Z⟩;replace HS:=E (HS.A.al Z);clear Z;clear a x0 d z fL;go_wp2;go_roundw;case rel=>exact⟨3,j,R,m,q,an,au,E ⟨HS.A,f.A,λh=>ae h an,S.A⟩⟩
        case measure=>simp[intOf]
       |true=>
        have a:=zE 1 ⟨#[108,97,98,101,108,115]⟩ HS.A.rd hn;have zI:=E (show qA l i=true->False fromλh=>by
         have r:=(xI h).2.2.2.2.2;rw[(S.A h).2] at r;rw[pJ,b9] at r hn;have U:=kZ r.1;rw[s6 U,decide_eq_true_eq] at r hn;omega)
        clear hn;go_wp2_with fail;refine(a).ah ?_;rintro e g⟨rfl,hR,hG⟩;replace HS:=E (HS.A.step hR hG);replace z:=E (z.A.gr hG (aj HS.A.Z SA.A));clear hR hG a x0 d fL;have x1:=z.A.cell 1;have a3:=V.A an;have a:=aks a3 uC.A HS.A.rd;go_wp2_with fail;refine(a).ah ?_;rintro e wy⟨⟨xK,rfl,HN⟩,hG⟩;clear a x1;by_cases hk:xK=0;case neg=>
         have jv:(xK !=0)=true:=aqk;have HK:=E hk;obtain⟨j2,hR⟩:=HN.A.1 hk;replace HS:=E (HS.A.step hR hG);clear hk hR hG HN;go_wp2;go_ret;exact⟨⟨xK,_,_,_,_,rfl,HS.A.rd,E ⟨λh=>ae h HK.A,λh=>(zI.A h).elim⟩⟩,HS.A.gr⟩
        subst hk;obtain⟨j2,L2,q2,iG,zG,hR⟩:=HN.A.2 rfl;have F:=hR;replace HS:=E (HS.A.step F hG);have JQ:=E (show _/\_/\_/\_/\_/\_ from⟨f.A.1,f.A.2.1,f.A.2.2.1,f.A.2.2.2.1,iG,zG⟩);have SD:=E F.le;clear hG HN hR F;go_wp2;go_roundw;case rel=>exact⟨3,_,_,_,_,an,au,E ⟨HS.A,JQ.A,λh=>ae h an,λh=>(zI.A h).elim⟩⟩
        case measure=>simp[intOf]
      ·skip;have d:=HS.A.jn.cell 0;cases hn:cA l j 4 ⟨#[59]⟩ with
       |false=>
        have N:=E hn;have a:=zD 4 ⟨#[59]⟩ HS.A.rd hn;clear hn;go_wp2_with fail;refine(a).ah ?_;rintro e g⟨rfl,Z⟩;replace HS:=E (HS.A.al Z);clear Z;clear a d;have d:=HS.A.jn.cell 0;have H:=E (B4 HS.A.rd);go_wp2_with fail;refine H.A.ah ?_;rintro e g⟨⟨k,rfl,G⟩,Z⟩;have HK:=E (show k≠0 by simpa using G);replace HS:=E (HS.A.al Z);clear G Z H d;go_wp2;go_ret;exact⟨⟨k,_,_,_,_,rfl,HS.A.rd,E ⟨λh=>ae h HK.A,λh=>ae (((xI h).2.2.2.2.2).symm.trans ((S.A h).2▸N.A)) aq⟩⟩,HS.A.gr⟩
       |true=>
        have a:=zE 4 ⟨#[59]⟩ HS.A.rd hn;clear hn;go_wp2_with fail;refine(a).ah ?_;rintro e g⟨rfl,hR,hG⟩;replace HS:=E (HS.A.step hR hG);clear hR hG;clear a d;go_wp2;go_ret;exact⟨⟨0,_,_,_,_,rfl,HS.A.rd,E ⟨λ_=>⟨by unfold ku;rw[f.A.1,f.A.2.1,f.A.2.2.1,f.A.2.2.2.1,f.A.2.2.2.2.1,f.A.2.2.2.2.2];rfl,Bw.A⟩,λh=>⟨(S.A h).1,rfl,ai ((S.A h).2)⟩⟩⟩,HS.A.gr⟩
      ·omega
variable {a3 a4 a5 gp:aE}
def aI.Ef {a:aE} (h:aI w g t #[a0,cZ,a2,a3,a4,a5,gp,a]) (u0 u1 u2 u3 u4 u5 u6 u7:aE):aI ((((((((w.setCell (ab g 0 M) u0).setCell (ab g 1 M) u1).setCell (ab g 2 M) u2).setCell (ab g 3 M) u3).setCell (ab g 4 M) u4).setCell (ab g 5 M) u5).setCell (ab g 6 M) u6).setCell (ab g 7 M) u7) g t #[u0,u1,u2,u3,u4,u5,u6,u7]:=by
 have h0:aI (w.setCell (ab g 0 M) u0) g t #[u0,cZ,a2,a3,a4,a5,gp,a]:=h.put 0 u0;have e:aI ((w.setCell (ab g 0 M) u0).setCell (ab g 1 M) u1) g t #[u0,u1,a2,a3,a4,a5,gp,a]:=h0.put 1 u1;have h2:aI (((w.setCell (ab g 0 M) u0).setCell (ab g 1 M) u1).setCell (ab g 2 M) u2) g t #[u0,u1,u2,a3,a4,a5,gp,a]:=e.put 2 u2;have d:aI ((((w.setCell (ab g 0 M) u0).setCell (ab g 1 M) u1).setCell (ab g 2 M) u2).setCell (ab g 3 M) u3) g t #[u0,u1,u2,u3,a4,a5,gp,a]:=h2.put 3 u3;have h4:aI (((((w.setCell (ab g 0 M) u0).setCell (ab g 1 M) u1).setCell (ab g 2 M) u2).setCell (ab g 3 M) u3).setCell (ab g 4 M) u4) g t #[u0,u1,u2,u3,u4,a5,gp,a]:=d.put 4 u4;have c:aI ((((((w.setCell (ab g 0 M) u0).setCell (ab g 1 M) u1).setCell (ab g 2 M) u2).setCell (ab g 3 M) u3).setCell (ab g 4 M) u4).setCell (ab g 5 M) u5) g t #[u0,u1,u2,u3,u4,u5,gp,a]:=h4.put 5 u5;have h6:aI (((((((w.setCell (ab g 0 M) u0).setCell (ab g 1 M) u1).setCell (ab g 2 M) u2).setCell (ab g 3 M) u3).setCell (ab g 4 M) u4).setCell (ab g 5 M) u5).setCell (ab g 6 M) u6) g t #[u0,u1,u2,u3,u4,u5,u6,a]:=c.put 6 u6;have b:aI ((((((((w.setCell (ab g 0 M) u0).setCell (ab g 1 M) u1).setCell (ab g 2 M) u2).setCell (ab g 3 M) u3).setCell (ab g 4 M) u4).setCell (ab g 5 M) u5).setCell (ab g 6 M) u6).setCell (ab g 7 M) u7) g t #[u0,u1,u2,u3,u4,u5,u6,u7]:=h6.put 7 u7;exact b
def Eg (Z:g<w.heap.size) (u0 u1 u2 u3 u4 u5 u6 u7:aE):w.grownBy ((((((((w.setCell (ab g 0 M) u0).setCell (ab g 1 M) u1).setCell (ab g 2 M) u2).setCell (ab g 3 M) u3).setCell (ab g 4 M) u4).setCell (ab g 5 M) u5).setCell (ab g 6 M) u6).setCell (ab g 7 M) u7) (ad g):=bB (bB (bB (bB (bB (bB (bB (bX Z u0) (bX aqg u1)) (bX aqg u2)) (bX aqg u3)) (bX aqg u4)) (bX aqg u5)) (bX aqg u6)) (bX aqg u7)
structure RPa (w0 w':aB) (i:Nat) (l:List Tok) (v:aE) (R:cv) (k:Int) (j:Nat):Prop where
 val:rI w' 0 v R
 le:j<=l.length
 ok:(k=0->ku R=true/\cA l i 1 xH=true)/\(qA l i=true->R=te l i/\k=0/\j=i+7)
def rI.keep {x:cv} (h:rI w B v x) (a:Kt B S w w') (b:∀t∈[126,78],t∉S):rI w' B v x:=Av.keep h a b
def Nj {c:Nat} (z:aF w0 w) (h:Rw kM w0 B ao l.length l) (hc:l.length<=c/\c<=9223372036854775807) (hi:i<=l.length) (a:eK w0) (hT:∀t∈l,t.s.size<=1000000) (mJ:l.length<=65536):aN aH 180 #[O ao l.length c,J I i] w λe w'=>(∃(v:aE) (R:cv) (k:Int) (j:Nat),e=aQ (bn #[v,J I j,J I k])/\RPa w0 w' i l v R k j)/\aF w w':=by
 have ug:min (i:Int) (l.length:Int)=(i:Int):=an;have aW:=(aF.refl w).alloc (aD #[ap ⟨#[]⟩,ap ⟨#[]⟩,O M 0 0,J I 0,J I 0,J I 0,J I 0,O M 0 0] 51);have Z:=aW.alloc (aD #[O ao l.length c,J I i,ap ⟨#[]⟩,ap ⟨#[]⟩,O M 0 0,J I 0,J I 0,J I 0,J I 0,O M 0 0] 326);have f:=E (show dk w0 ((w.alloc (aD #[ap ⟨#[]⟩,ap ⟨#[]⟩,O M 0 0,J I 0,J I 0,J I 0,J I 0,O M 0 0] 51)).alloc (aD #[O ao l.length c,J I i,ap ⟨#[]⟩,ap ⟨#[]⟩,O M 0 0,J I 0,J I 0,J I 0,J I 0,O M 0 0] 326)) B (w.heap.size+1) c i ao l ⟨⟨#[]⟩,⟨⟨⟨#[]⟩,[]⟩,0,0⟩,0,0,[]⟩ (M,0) (M,0) from⟨z.trans Z,ai z.size,h,by have:=aI.new (w.alloc (aD #[ap ⟨#[]⟩,ap ⟨#[]⟩,O M 0 0,J I 0,J I 0,J I 0,J I 0,O M 0 0] 51)) 326 #[O ao l.length c,J I i,ap ⟨#[]⟩,ap ⟨#[]⟩,O M 0 0,J I 0,J I 0,J I 0,J I 0,O M 0 0];simpa using this,hc,hi,aq,aq,Vs.bh _ _ _,Vs.bh _ _ _⟩);have HX:=E (aI.alloc (aI.new w 51 #[ap ⟨#[]⟩,ap ⟨#[]⟩,O M 0 0,J I 0,J I 0,J I 0,J I 0,O M 0 0]) (aD #[O ao l.length c,J I i,ap ⟨#[]⟩,ap ⟨#[]⟩,O M 0 0,J I 0,J I 0,J I 0,J I 0,O M 0 0] 326));have bm:=E Z;have cV:=E z;have cY:=E a;have gZ:=E hT;have uC:=E mJ;have Se:¬((i:Int)<0):=an;clear h hc hi aW Z z a hT mJ;go_enter func180,ntmps180;have HS:=E (akC cY.A gZ.A uC.A f.A);go_wp2_with fail;refine HS.A.ah ?_;clear HS;rintro e wz⟨⟨k,j,R,m,q,rfl,D,bj⟩,a⟩;have bA:=E (bm.A.cD a (mg _));have Gm:=E bj.A;replace f:=E D;have HV:=E D.rul;replace HX:=E (HX.A.gr a an);have HJ:=E D.le;have ej:=E (show w.heap.size+1≠w.heap.size by omega);clear bj D a ug bm;by_cases hk:k=0;case neg=>
  have jv:(k !=0)=true:=aqk;have r1:=Gx.cells (r:=w.heap.size) (X:=aD #[(ap ⟨#[]⟩),(ap ⟨#[]⟩),(O M 0 0),(J I 0),(J I 0),(J I 0),(J I 0),(O M 0 0)] 51 (0,0)) f.A.box ej.A 1;simp at r1;have HK:=E hk;clear hk;go_wp2_with fail;refine AY (gb (w.heap.size) (aD #[(ap ⟨#[]⟩),(ap ⟨#[]⟩),(O M 0 0),(J I 0),(J I 0),(J I 0),(J I 0),(O M 0 0)] 51 (0,0))) gb.refl gb.trans [.q 0,.q 1,.q 2,.q 3,.q 4,.q 5,.c 6,.q 7,.q 8] [] (gb.drew _) ?_;refine dY ?_;refine S4.dm ?_;rintro _⟨o,rfl⟩ KK aJ;obtain⟨us,d,n⟩:=o.own HX.A rfl;obtain⟨U,T,S,N,L,K,H,G,rfl⟩:=aal n;have⟨F,Y⟩:=d.cf;have b:=E d;clear n d;go_simp;refine aJ _ _ (gb.put (b.A.Ef (ap ⟨#[]⟩) (ap ⟨#[]⟩) (O M 0 0) (J I 0) (J I 0) (J I 0) (J I 0) (O M 0 0)) (Eg b.A.lt (ap ⟨#[]⟩) (ap ⟨#[]⟩) (O M 0 0) (J I 0) (J I 0) (J I 0) (J I 0) (O M 0 0))) ?_;clear aJ KK F Y;refine dY ?_;refine S4.bh ?_;rintro wq u;obtain⟨s,a⟩:=gb.last u (b.A.Ef (ap ⟨#[]⟩) (ap ⟨#[]⟩) (O M 0 0) (J I 0) (J I 0) (J I 0) (J I 0) (O M 0 0));have HP:=E s;have y:=E (bB o.gr (bB (Eg b.A.lt (ap ⟨#[]⟩) (ap ⟨#[]⟩) (O M 0 0) (J I 0) (J I 0) (J I 0) (J I 0) (O M 0 0)) a));clear u s a b;refine E4.bh ?_;have C:=(Kt.refl w0.heap.size [51] wz).grown y.A (f.A.b0.size) (λg e=>by cases e;exact⟨cV.A.size,bp.bO HX.A⟩) (bD.2 rfl);have V:=E (bA.A.cD y.A (aO _));have p:=E (λW=>show rI W 0 (aY #[(ap ⟨#[]⟩),(ap ⟨#[]⟩),(O M 0 0),(J I 0),(J I 0),(J I 0),(J I 0),(O M 0 0)]) ⟨⟨#[]⟩,⟨⟨⟨#[]⟩,[]⟩,0,0⟩,0,0,[]⟩ from⟨_,rfl,_,_,rfl,aq,aq,Vs.bh _ _ _,Vs.bh _ _ _⟩);replace Gm:=E (show(k=0->ku ⟨⟨#[]⟩,⟨⟨⟨#[]⟩,[]⟩,0,0⟩,0,0,[]⟩=true/\cA l i 1 xH=true)/\(qA l i=true->⟨⟨#[]⟩,⟨⟨⟨#[]⟩,[]⟩,0,0⟩,0,0,[]⟩=te l i/\k=0/\j=i+7) from⟨λh=>ae h HK.A,λh=>ae (Gm.A.2 h).2.1 HK.A⟩);clear C;go_wp2;have k0:=HP.A.cell;refine bF (v:=bn #[aY #[(ap ⟨#[]⟩),(ap ⟨#[]⟩),(O M 0 0),(J I 0),(J I 0),(J I 0),(J I 0),(O M 0 0)],J I (j:Int),J I k]) (by simp[bz,results180,go_sem,k0]) rfl ⟨⟨_,⟨⟨#[]⟩,⟨⟨⟨#[]⟩,[]⟩,0,0⟩,0,0,[]⟩,k,j,rfl,(by first|exact p.A|exact p.A _),HJ.A,aqq⟩,V.A⟩
 subst hk;have r1:=Gx.cells (r:=w.heap.size) (X:=aD #[(ap R.n),(ap R.x.s.n),(O m.1 R.x.s.aU.length m.2),(J I R.x.op),(J I R.x.v),(J I R.wait),(J I R.keep),(O q.1 R.L.length q.2)] 51 (0,0)) f.A.box ej.A;go_wp2_with fail;refine AY (gb (w.heap.size) (aD #[(ap R.n),(ap R.x.s.n),(O m.1 R.x.s.aU.length m.2),(J I R.x.op),(J I R.x.v),(J I R.wait),(J I R.keep),(O q.1 R.L.length q.2)] 51 (0,0))) gb.refl gb.trans [.q 0,.q 1,.q 2,.q 3,.q 4,.q 5,.q 6,.q 7,.c 8,.q 9,.q 10] [] (gb.drew _) ?_;refine dY ?_;refine S4.dm ?_;rintro _⟨o,rfl⟩ KK aJ;obtain⟨us,d,n⟩:=o.own HX.A rfl;obtain⟨U,T,S,N,L,K,H,G,rfl⟩:=aal n;have⟨F,Y⟩:=d.cf;have b:=E d;clear n d;go_simp;refine aJ _ _ (gb.put (b.A.Ef (ap R.n) (ap R.x.s.n) (O m.1 R.x.s.aU.length m.2) (J I R.x.op) (J I R.x.v) (J I R.wait) (J I R.keep) (O q.1 R.L.length q.2)) (Eg b.A.lt (ap R.n) (ap R.x.s.n) (O m.1 R.x.s.aU.length m.2) (J I R.x.op) (J I R.x.v) (J I R.wait) (J I R.keep) (O q.1 R.L.length q.2))) ?_;clear aJ KK F Y;refine dY ?_;refine S4.bh ?_;rintro wq u;obtain⟨s,a⟩:=gb.last u (b.A.Ef (ap R.n) (ap R.x.s.n) (O m.1 R.x.s.aU.length m.2) (J I R.x.op) (J I R.x.v) (J I R.wait) (J I R.keep) (O q.1 R.L.length q.2));have HP:=E s;have y:=E (bB o.gr (bB (Eg b.A.lt (ap R.n) (ap R.x.s.n) (O m.1 R.x.s.aU.length m.2) (J I R.x.op) (J I R.x.v) (J I R.wait) (J I R.keep) (O q.1 R.L.length q.2)) a));clear u s a b;refine E4.bh ?_;have C:=(Kt.refl w0.heap.size [51] wz).grown y.A (f.A.b0.size) (λg e=>by cases e;exact⟨cV.A.size,bp.bO HX.A⟩) (bD.2 rfl);have V:=E (bA.A.cD y.A (aO _));have p:=E (HV.A.keep (C.dJ (bV _)) aq);clear C;go_wp2;have k0:=HP.A.cell;refine bF (v:=bn #[aY #[(ap R.n),(ap R.x.s.n),(O m.1 R.x.s.aU.length m.2),(J I R.x.op),(J I R.x.v),(J I R.wait),(J I R.keep),(O q.1 R.L.length q.2)],J I (j:Int),J I 0]) (by simp[bz,results180,go_sem,k0]) rfl ⟨⟨_,R,0,j,rfl,(by first|exact p.A|exact p.A _),HJ.A,aqq⟩,V.A⟩
variable {F:List cC}
structure fC (w0 w:aB) (B b c i:Nat) (ao:Option aX) (l:List Tok) (F:List cC) (q:Option aX×Nat):Prop where
 b0:aF w0 w
 Z:w0.heap.size<=b
 tk:Rw kM w0 B ao l.length l
 box:aI w b 179 #[O ao l.length c,J I i,O q.1 F.length q.2]
 lc:l.length<=c/\c<=9223372036854775807
 le:i<=l.length
 lD:Ow fG w 0 w0.heap.size (O q.1 F.length q.2) F
section
variable {w0 w w':aB} {B b c i:Nat} {ao:Option aX} {l:List Tok} {F:List cC} {q:Option aX×Nat}
def fC.al (h:fC w0 w B b c i ao l F q) (Z:aS w.heap.size w w'):fC w0 w' B b c i ao l F q:=⟨h.b0.trans (aF.of Z),h.Z,h.tk,h.box.al Z h.box.lt,h.lc,h.le,h.lD.al Z⟩
def fC.Gj (h:fC w0 w B b c i ao l F q) (hg:w.grownBy w' (ad b)):Kt w0.heap.size [179] w w':=(Kt.refl _ _ w).grown hg h.b0.size (λg e=>by cases e;exact⟨h.Z,bp.bO h.box⟩) (bD.2 rfl)
def fC.step (h:fC w0 w B b c i ao l F q) {j:Nat} (hj:j<=l.length):fC w0 (w.setCell (ab b 1 M) (J I j)) B b c j ao l F q:=⟨h.b0.setCell h.Z _,h.Z,h.tk,h.box.put 1 _,h.lc,hj,h.lD.keep ((h.Gj (bX h.box.lt _)).dJ (bV _)) aq aq⟩
def fC.own (h:fC w0 w B b c i ao l F q) (hg:w.grownBy w' (ad g)) (h0:w0.heap.size<=g) (e:b≠g) (a:Kt w0.heap.size S w w') (d:fG.e∉S) (h2:∀t∈fG.bI,t∉S):fC w0 w' B b c i ao l F q:=⟨h.b0.cD hg h0,h.Z,h.tk,h.box.gr hg e,h.lc,h.le,h.lD.keep (a.dJ (bV _)) d h2⟩
end
theorem Nk (h:P:=by
 go_enter func179,ntmps179;go_wp2_with fail;refine du (cU 0 41 []) [] ?_;refine dY ?_;refine S4.nb λwq hq=>?_;refine dP ?_;go_wp2;go_ret;exact⟨cc eD.A.symm,hq⟩;):P:=h
def SE {c:Nat} {q:Option aX×Nat} (k:Int) (s:ByteArray) (h:fC w0 w B b c i ao l F q):aN aH 179 #[bl (ad (ab b 0 M)),J I k,ap s] w λe w'=>e=aQ (aG (cA l i k s))/\aS w.heap.size w w':=by
 have t:=E h.b0;have y:=E h.tk;have C:=ba.cells h.box;have H:=h.lc.1;have G:=h.lc.2;have a:=E (show cA l i k s=_ from pJ);generalize cA l i k s=r at a⊢;by_cases d:i<l.length
 ·rw[s6 d,qx d] at a;obtain⟨L,off,rfl,u,m,q1,q2,o⟩:=y.A.tk t.A.aC d;have x0:=λp:ba w=>p.cell (da u t.A.size) m;have x2:=λp:ba w=>p.cell (da u t.A.size) q2;have d1:decide ((i:Int)<(l.length:Int))=true:=ac an;have v:decide (i<l.length)=true:=ac d;obtain⟨T,f⟩:=aP (l[i].s);obtain⟨K,g⟩:=aP (l[i].k);rw[f,g] at a;simp only[f] at x2;simp only[g] at x0;by_cases n:K=k
  ·subst n;by_cases j:T=s
   ·subst j;have eD:=E (show r=true by rw[a.A];simp);clear f g m q1 q2 o h a;exact Nk
   ·have eD:=E (show r=false by rw[a.A];simp[j]);have z:(T.toList==s.toList)=false:=by rw[j9];simpa using j
    have N:(T.toList !=s.toList)=true:=by rw[bne,z];rfl
    clear f g m q1 q2 o h a j;exact Nk
  ·have eD:=E (show r=false by rw[a.A];simp[n]);have D:(K==k)=false:=am n;clear f g m q1 q2 o h a n;exact Nk
 ·have eD:=E (show r=false by rw[a.A,F3 d];rfl);have d1:decide ((i:Int)<(l.length:Int))=false:=aa an;have v:decide (i<l.length)=false:=aa d;clear h a;exact Nk
def SF {c:Nat} {q:Option aX×Nat} (k:Int) (s:ByteArray) (h:fC w0 w B b c i ao l F q) (d:cA l i k s=false):aN aH 136 #[bl (ad (ab b 0 M)),J I k,ap s] w λe w'=>e=aQ (aG false)/\aS w.heap.size w w':=by
 have a:=SE k s h;rw[d] at a;clear h d;go_enter func136,ntmps136;go_wp2_with fail;refine a.ah ?_;rintro e f⟨rfl,Z⟩;clear a;go_wp2;go_ret;exact⟨rfl,Z⟩
def Nl {c:Nat} {q:Option aX×Nat} (k:Int) (s:ByteArray) (h:fC w0 w B b c i ao l F q) (d:cA l i k s=true):aN aH 136 #[bl (ad (ab b 0 M)),J I k,ap s] w λe w'=>e=aQ (aG true)/\fC w0 w' B b c (i+1) ao l F q/\w.grownBy w' (ad b):=by
 have f:=SE k s h;have u:=td d;have t:=a8 h.lc.1 h.lc.2;rw[d] at f;have g:=E h;have p:I.wrap ((i:Int)+1)=(i:Int)+1:=ay;clear h d;go_enter func136,ntmps136;go_wp2_with fail;refine f.ah ?_;rintro e o⟨rfl,Z⟩;have a:=E (g.A.al Z);have m:=E Z;have n:=a.A.box.cell 1;have r:=a.A.box.frozen 1;clear f Z;go_wp2;go_ret;exact⟨rfl,a.A.step (j:=i+1) an,bB (grown_of m.A) (bX a.A.box.lt _)⟩
def FV (n:Nat) (k:Int):aE:=.iface 174 (aY #[J I n,J I k])
structure Gn (w w':aB) (b:Nat) (e:Ending):Prop where
 A:∃(n:Nat) (k:Int),e= .panicked [{v:=FV n k,recovered:=false}]
 gr:w.grownBy w' (ad b)
theorem aba (h:P:=by
 go_enter func177,ntmps177;go_wp2_with fail;refine du (cU 0 10 []) [] ?_;refine dY ?_;refine S4.nb λwq hq=>?_;refine dP ?_;have y1:=(HH.A.al hq).box.cell 1;go_wp2;exact⟨rfl,⟨i,_,rfl⟩,grown_of hq⟩;):P:=h
def SG {c:Nat} {q:Option aX×Nat} (h:fC w0 w B b c i ao l F q):aN aH 177 #[bl (ad (ab b 0 M))] w λe w'=>Gn w w' b e:=by
 have HH:=E h;have f:=ba.cells h.box;have j:=h.lc.1;have g:=h.lc.2;clear h;by_cases a:l.length<=i
 ·have d1:decide ((l.length:Int)<=(i:Int))=true:=ac an;have d:decide (l.length<=i)=true:=ac a;exact aba
 ·have d1:decide ((l.length:Int)<=(i:Int))=false:=aa an;have d:decide (l.length<=i)=false:=aa a;exact aba
def Nn {c:Nat} {q:Option aX×Nat} (k:Int) (s:ByteArray) (h:fC w0 w B b c i ao l F q):aN aH 133 #[bl (ad (ab b 0 M)),J I k,ap s] w λe w'=>(e=aQ (bn #[])/\cA l i k s=true/\fC w0 w' B b c (i+1) ao l F q/\w.grownBy w' (ad b))\/(cA l i k s=false/\Gn w w' b e):=by
 have g:=E h;clear h;cases d:cA l i k s with
 |false=>
  have a:=SF k s g.A d;clear d;go_enter func133,ntmps133;go_wp2_with fail;refine a.ah ?_;rintro e j⟨rfl,Z⟩;clear a;have a:=SG (g.A.al Z);go_wp2_with fail;refine a.ah ?_;rintro e p⟨⟨n,m,rfl⟩,f⟩;clear a;go_wp2;exact⟨rfl,.inr ⟨by trivial,⟨n,m,rfl⟩,bB (grown_of Z) f⟩⟩
 |true=>
  have a:=Nl k s g.A d;clear d;go_enter func133,ntmps133;go_wp2_with fail;refine a.ah ?_;rintro e j⟨rfl,o,f⟩;clear a;go_wp2;refine⟨rfl,bn #[],by simp[bz,results133,go_sem],?_⟩;exact .inl ⟨rfl,by trivial,o,f⟩
theorem abb (h:P:=by
 go_wp2_with fail;refine aM.ah ?_;rintro e wy⟨⟨n,m,rfl⟩,hG⟩;clear aM;go_wp2;exact⟨rfl,.inr ⟨by first|trivial|exact HR.A,⟨n,m,rfl⟩,bB (grown_of hq) hG⟩⟩;):P:=h
def abc {c:Nat} {q:Option aX×Nat} (k:Int) (h:fC w0 w B b c i ao l F q):aN aH 134 #[bl (ad (ab b 0 M)),J I k] w λe w'=>(e=aQ (ap (eu l i))/\eT l i k=true/\fC w0 w' B b c (i+1) ao l F q/\w.grownBy w' (ad b))\/(eT l i k=false/\Gn w w' b e):=by
 have A:=E h;have L:=E h.b0;have N:=E h.tk;have t:=ba.cells h.box;have jc:=h.lc.1;have ju:=h.lc.2;clear h;by_cases a:i<l.length
 ·obtain⟨gq,off,S,H,g,q1,q2,u⟩:=N.A.tk L.A.aC a;have d:=E (s6 a k);have U:=E (qx a);obtain⟨T,v⟩:=aP (l[i].s);obtain⟨K,y⟩:=aP (l[i].k);rw[v] at U;rw[y] at d;subst S;have x0:=λp:ba w=>p.cell (da H L.A.size) g;simp only[y] at x0;have z:=E a;have aW:=E H;rw[v] at q2;have mL:=E q2;have d1:decide ((l.length:Int)<=(i:Int))=false:=aa an;have V:decide (l.length<=i)=false:=aa an;clear y v g q1 q2 u;by_cases hk:K=k
  ·subst hk;have HR:=E (show eT l i K=true by rw[d.A];simp);have w1:I.wrap ((i:Int)+1)=(i:Int)+1:=ay;have w2:I.wrap (i:Int)=(i:Int):=ay;clear d;go_enter func134,ntmps134;go_wp2_with fail;refine du (cU 0 25 []) [] ?_;refine dY ?_;refine S4.nb λC hq=>?_;refine dP ?_;have f:=E (A.A.al hq);have HB:=E hq;have y1:=f.A.box.cell 1;have f1:=f.A.box.frozen 1;clear t x0 hq;have Z:=E (bX (o:=1) f.A.box.lt (J I ((i:Int)+1)));have r:=E (f.A.step (j:=i+1) z.A);go_wp2_with fail;have y0:=ba.cells r.A.box;obtain⟨W,tQ,R,Y,g,q1,q2,u⟩:=N.A.tk r.A.b0.aC z.A;cases R;have x2:=λp:ba _=>p.cell (da Y r.A.b0.size) q2;have D:=E (qx z.A);clear g q1 q2 u;generalize l[i].s=T2 at D x2;have Ft:=E a;have fj:i<l.length:=a;have X:((i+1:Nat):Int)=(i:Int)+1:=an;refine du (cU 0 13 []) [] ?_;refine dY ?_;refine S4.nb λO G=>?_;refine dP ?_;go_wp2;go_ret;exact .inl ⟨congrArg (λx=>aQ (ap x)) D.A.symm,by first|trivial|exact HR.A,r.A.al G,bB (grown_of HB.A) (bB Z.A (grown_of G))⟩
  ·have HR:=E (show eT l i k=false by rw[d.A];simp[hk]);have jv:(K !=k)=true:=aqk;clear d hk;go_enter func134,ntmps134;go_wp2_with fail;refine du (cU 0 25 []) [] ?_;refine dY ?_;refine S4.nb λC hq=>?_;refine dP ?_;have aM:=SG (A.A.al hq);clear t x0;exact abb
 ·have HR:=E (F3 a k);have d1:decide ((l.length:Int)<=(i:Int))=true:=ac an;have V:decide (l.length<=i)=true:=ac an;clear a;go_enter func134,ntmps134;go_wp2_with fail;refine du (cU 0 25 []) [] ?_;refine dY ?_;refine S4.nb λC hq=>?_;refine dP ?_;have aM:=SG (A.A.al hq);clear t;exact abb
def abd {c:Nat} {q:Option aX×Nat} (f:eK w0) (d:∀t∈l,t.s.size<=1000000) (h:fC w0 w B b c i ao l F q):aN aH 135 #[bl (ad (ab b 0 M))] w λe w'=>(∃n:Int,e=aQ (J I n)/\a6 (0<=n/\n<=9007199254740992/\(eu l i=kD->n=10))/\fC w0 w' B b c (i+1) ao l F q/\w.grownBy w' (ad b))\/(¬(eT l i 2=true/\eu l i=kD)/\Gn w w' b e):=by
 have L:=E h;have G:=E f;have C:=E d;have D:=E (a8 h.lc.1 h.lc.2);clear h f d;have g:=abc 2 L.A;go_enter func135,ntmps135;go_wp2_with fail;refine g.ah ?_;rintro e A (⟨rfl,a,r,f⟩|⟨a,⟨n,m,rfl⟩,f⟩)
 ·have p:=E r;have y:=E f;have j:=kZ a;have H:=E j;have v:(eu l i).size<=1000000:=by rw[qx j];exact C.A _ (dl j)
  have z:=E (rfl:eu l i=eu l i);obtain⟨T,d⟩:=aP (eu l i);rw[d] at v;have x:=E d;simp only[d];clear g a r f j d z;have g:=aaK T A (G.A.rel p.A.b0) (a8 v aq);go_wp2_with fail;refine g.ah ?_;rintro e O⟨⟨n,k,rfl,o⟩,Z⟩;have u:=E (p.A.al Z.aC);have s:=E (bB y.A (grown_of Z.aC));have N:=u.A.box.cell 1;clear g Z p y;by_cases a:k=0
  ·subst a;go_wp2;go_ret;exact .inl ⟨n,rfl,⟨(o.A.1 (by trivial)).1,(o.A.1 (by trivial)).2,λh=>(o.A.2 (by rw[<-h];exact x.A.symm)).1⟩,u.A,s.A⟩
  ·have S:(k !=0)=true:=by simp;exact a
   have K:=E a;have j:=H.A;have U:=D.A;have R:I.wrap ((i:Int)+1-1)=(i:Int):=ay;have Q:I.wrap (i:Int)=(i:Int):=ay;clear a;go_wp2;exact⟨rfl,.inr ⟨λh=>K.A (o.A.2 (by rw[<-h.2];exact x.A.symm)).2,⟨i,k,rfl⟩,s.A⟩⟩
 ·clear g;go_wp2;exact⟨rfl,.inr ⟨λh=>ae (a.symm.trans h.1) aq,⟨n,m,rfl⟩,f⟩⟩
variable {B2:Nat}
def fC.fin {c:Nat} {q:Option aX×Nat} (h:fC w0 w B b c i ao l F q) (hg:w.grownBy w' (ad b)) {j:Nat} (Z:aI w' b 179 #[O ao l.length c,J I j,O q.1 F.length q.2]) (hj:j<=l.length):fC w0 w' B b c j ao l F q:=⟨h.b0.cD hg h.Z,h.Z,h.tk,Z,h.lc,hj,h.lD.keep ((h.Gj hg).dJ (bV _)) aq aq⟩
theorem abe (h:P:=by
 have zL:=E (HV.A.al Eh.A.aC);have⟨x0,Gp⟩:=gn.A.cf;go_simp;refine aJ _ _ trivial ?_;clear aJ KK HP;clear x0 Gp;have HN:=E (gn.A.Ef (ap R.n) (ap R.x.s.n) (O A2 R.x.s.aU.length c2) (J I R.x.op) (J I R.x.v) (J I R.wait) (J I R.keep) (O A7 R.L.length c7));have uH:=Eg gn.A.lt (ap R.n) (ap R.x.s.n) (O A2 R.x.s.aU.length c2) (J I R.x.op) (J I R.x.v) (J I R.wait) (J I R.keep) (O A7 R.L.length c7);have uB:=E (zL.A.keep (((Kt.refl w0.heap.size [51] pt.aL).grown uH (HS.A.b0.trans bR.A).size (λg e=>by cases e;exact⟨Ei.A,bp.bO gn.A⟩) (bD.2 rfl)).dJ (bV _)) aq);have bm:=E (bR.A.cD uH kV.A);clear uH zL HV bR gn Eh;generalize((((((((pt.aL.setCell (ab G 0 M) (ap R.n)).setCell (ab G 1 M) (ap R.x.s.n)).setCell (ab G 2 M) (O A2 R.x.s.aU.length c2)).setCell (ab G 3 M) (J I R.x.op)).setCell (ab G 4 M) (J I R.x.v)).setCell (ab G 5 M) (J I R.wait)).setCell (ab G 6 M) (J I R.keep)).setCell (ab G 7 M) (O A7 R.L.length c7))=W9 at HN uB bm⊢;clear pt;refine bP ?_;refine S6.nb λwq hq=>?_;have SH:=E (uB.A.al hq);have JR:=E (HN.A.al hq HN.A.lt);have kd:=E (bm.A.next hq);have HGq:=E (da HN.A.lt hq.size);clear hq uB HN bm;have SI:=E (HS.A.al kd.A.aC);have Nq:=E (HX.A.al kd.A.aC HX.A.lt);have HNQ:=E (JR.A.cell 0);have n0:=HNQ.A;simp at n0;by_cases hk:k=0;case neg=>
  have jv:(k !=0)=true:=aqk;have HK:=E hk;clear hk;go_wp2;exact⟨rfl,.inr ⟨E λ_ h=>HK.A (dF.A.2.2 h).2.1,⟨j,k,rfl⟩,grown_of (di.A.next kd.A.aC).aC⟩⟩
 subst hk;have cj:=E (dF.A.2.1 (by trivial));have fK:=E (λh=>(dF.A.2.2 h:_));have aM:=aas R.n wq (xO.A.al (di.A.next kd.A.aC).aC);obtain⟨r,hr⟩:=aP (Rs.any (λx=>decide (x.n=R.n)));rw[hr] at aM;have HR:=E hr;clear hr;go_wp2_with fail;refine aM.ah ?_;rintro e apD⟨rfl,zM⟩;clear aM n0 HNQ;have hU:=E (SI.A.al zM.aC);have l5:=E (Nq.A.al zM.aC Nq.A.lt);have SJ:=E (JR.A.al zM.aC JR.A.lt);have D8:=E (SH.A.al zM.aC);have bL:=E ((di.A.next kd.A.aC).trans zM);clear SI Nq JR SH zM;have z1:=hU.A.box.cell 1;have fz1:=hU.A.box.frozen 1;cases r with
 |true=>
  have w1:I.wrap ((i:Int)+1)=(i:Int)+1:=by rw[b7];have:=HS.A.lc.1;have:=HS.A.lc.2;have:=td cj.A.2;omega
  go_wp2;exact⟨rfl,.inr ⟨E λh=>ae HR.A (by rw[h];simp),⟨i+1,_,rfl⟩,grown_of bL.A.aC⟩⟩
 |false=>
  have⟨n0,SK⟩:=SJ.A.cf;have⟨r0,Nr⟩:=l5.A.cf;have HJ:=E dF.A.1;have JS:=E (bX (o:=1) hU.A.box.lt (J I (j:Int)));have gv:=E (hU.A.step (j:=j) HJ.A);have eU:=E (l5.A.gr JS.A (ai bY.A));have BI:=E (SJ.A.gr JS.A (aj bY.A abf.A));have eH:=E (D8.A.keep ((hU.A.Gj JS.A).dJ (bV _)) aq);clear hU l5 SJ D8;clear n0 SK;clear r0 Nr;have⟨n0,SK⟩:=BI.A.cf;have⟨r0,Nr⟩:=eU.A.cf;go_wp2;have HP4:=E (eU.A.Ef (ap R.n) (ap R.x.s.n) (O A2 R.x.s.aU.length c2) (J I R.x.op) (J I R.x.v) (J I R.wait) (J I R.keep) (O A7 R.L.length c7));have uH:=Eg eU.A.lt (ap R.n) (ap R.x.s.n) (O A2 R.x.s.aU.length c2) (J I R.x.op) (J I R.x.v) (J I R.wait) (J I R.keep) (O A7 R.L.length c7);clear n0 SK;clear r0 Nr;have⟨r0,Nr⟩:=HP4.A.cf;refine bF (v:=aY #[ap R.n,ap R.x.s.n,O A2 R.x.s.aU.length c2,J I R.x.op,J I R.x.v,J I R.wait,J I R.keep,O A7 R.L.length c7]) (by simp[bz,results137,go_sem,r0]) rfl (.inl ⟨_,R,j,rfl,?_,?_,?_,?_⟩)
  ·exact eH.A.keep (((Kt.refl w0.heap.size [51] _).grown uH gv.A.b0.size (λg e=>by cases e;exact⟨JT.A,bp.bO eU.A⟩) (bD.2 rfl)).dJ (bV _)) aq
  ·exact E ⟨cj.A.1,dM.A,HR.A,λh=>(fK.A h).1,λh=>(fK.A h).2.2⟩
  ·exact B9.A.fin (l3 (bB (grown_of bL.A.aC) JS.A) uH (aO _)) (gv.A.box.gr uH (mW bY.A)) HJ.A
  ·exact l3 (bB (grown_of bL.A.aC) JS.A) uH (aO _)
 ):P:=h
theorem abg (h:P:=by
 have zL:=E (HV.A.al Eh.A.aC);have⟨x0,Gp⟩:=gn.A.cf;go_simp;refine aJ _ _ trivial ?_;clear aJ KK HP;clear x0 Gp;have HN:=E (gn.A.Ef (ap R.n) (ap R.x.s.n) (O A2 R.x.s.aU.length c2) (J I R.x.op) (J I R.x.v) (J I R.wait) (J I R.keep) (O A7 R.L.length c7));have uH:=Eg gn.A.lt (ap R.n) (ap R.x.s.n) (O A2 R.x.s.aU.length c2) (J I R.x.op) (J I R.x.v) (J I R.wait) (J I R.keep) (O A7 R.L.length c7);have uB:=E (zL.A.keep (((Kt.refl w0.heap.size [51] pt.aL).grown uH (HS.A.b0.trans bR.A).size (λg e=>by cases e;exact⟨Ei.A,bp.bO gn.A⟩) (bD.2 rfl)).dJ (bV _)) aq);have bm:=E (bR.A.cD uH kV.A);clear uH zL HV bR gn Eh;generalize((((((((pt.aL.setCell (ab G 0 M) (ap R.n)).setCell (ab G 1 M) (ap R.x.s.n)).setCell (ab G 2 M) (O A2 R.x.s.aU.length c2)).setCell (ab G 3 M) (J I R.x.op)).setCell (ab G 4 M) (J I R.x.v)).setCell (ab G 5 M) (J I R.wait)).setCell (ab G 6 M) (J I R.keep)).setCell (ab G 7 M) (O A7 R.L.length c7))=W9 at HN uB bm⊢;clear pt;refine bP ?_;refine S6.nb λwq hq=>?_;have SH:=E (uB.A.al hq);have JR:=E (HN.A.al hq HN.A.lt);have kd:=E (bm.A.next hq);have HGq:=E (da HN.A.lt hq.size);clear hq uB HN bm;have SI:=E (HS.A.al kd.A.aC);have Nq:=E (HX.A.al kd.A.aC HX.A.lt);have hk:k≠0:=λh=>by
  have:=(dF.A.2.1 h).2;rw[HRF.A] at this;cases this
 have jv:(k !=0)=true:=aqk;have HK:=E hk;clear hk;go_wp2;exact⟨rfl,.inr ⟨E λ_ h=>HK.A (dF.A.2.2 h).2.1,⟨j,k,rfl⟩,grown_of (di.A.next kd.A.aC).aC⟩⟩;):P:=h
def akD {c:Nat} {q:Option aX×Nat} {Rs:List cv} (hG:eK w0) (hT:∀t∈l,t.s.size<=1000000) (mJ:l.length<=65536) (hv:Vs lS w B2 v Rs) (h:fC w0 w B b c i ao l F q):aN aH 137 #[bl (ad (ab b 0 M)),v] w λe w'=>(∃(v':aE) (R:cv) (j:Nat),e=aQ v'/\rI w' 0 v' R/\a6 (ku R=true/\Rs.length<16/\Rs.any (λx=>decide (x.n=R.n))=false/\(qA l i=true->R=te l i)/\(qA l i=true->j=i+7))/\fC w0 w' B b c j ao l F q/\w.grownBy w' (ad b))\/(a6 (Rs=[]->qA l i=true->False)/\Gn w w' b e):=by
 obtain⟨A8,kb,rfl,Y,X⟩:=hv.be;have xO:=E hv;have B9:=E h;have aW:=(aF.refl w).alloc (aD #[ap ⟨#[]⟩,ap ⟨#[]⟩,O M 0 0,J I 0,J I 0,J I 0,J I 0,O M 0 0] 51);have di:=E aW;have HS:=E (h.al aW.aC);have HX:=E (aI.new w 51 #[ap ⟨#[]⟩,ap ⟨#[]⟩,O M 0 0,J I 0,J I 0,J I 0,J I 0,O M 0 0]);have bY:=E h.box.lt;have JT:=E h.b0.size;have U:=E hG;have S:=E hT;have N:=E mJ;clear hG hT mJ hv Y X h aW;by_cases T:16<=Rs.length
 ·have d1:decide (16<=(Rs.length:Int))=true:=ac an;have ec:decide (16<=Rs.length)=true:=ac T;have BN:=E (show Rs≠[] fromλe=>by rw[e] at T;simp at T);have aM:=SE 1 xH HS.A;cases hr:cA l i 1 xH with
  |true=>
   rw[hr] at aM;go_enter func137,ntmps137;go_wp2_with fail;refine aM.ah ?_;rintro e V⟨rfl,Z⟩;have aK:=E (HS.A.al Z);have z1:=aK.A.box.cell 1;clear aM;go_wp2;exact⟨rfl,.inr ⟨E λh=>ae h BN.A,⟨i,_,rfl⟩,grown_of (di.A.next Z).aC⟩⟩
  |false=>
   rw[hr] at aM;have HRF:=E hr;clear hr;go_enter func137,ntmps137;go_wp2_with fail;refine aM.ah ?_;rintro e V⟨rfl,Z⟩;replace di:=E (di.A.next Z);replace HS:=E (HS.A.al Z);replace HX:=E (HX.A.al Z HX.A.lt);clear aM Z;have L:=ba.cells HS.A.box;have HP:=E (λp:ba _=>Nj (HS.A.b0.trans p.r) HS.A.tk HS.A.lc HS.A.le U.A S.A N.A);go_wp2_with fail;refine hb (dq 0 8 (.l7 8 (dq 9 2 (.p 11 (.p 12 (.c 13 (.s 14 (.p 15 (.p 16 .nil))))))) 13 (.c 8 (dq 9 2 (.p 11 (.p 12 (.s 14 (.p 15 (.p 16 .nil))))))))) ?_;refine bP ?_;refine S6.l7 au au (λwt K KK aJ=>?_) (λwt K KK aJ=>?_)
   ·skip;obtain⟨pt,rfl⟩:=K;go_simp;refine(HP.A pt).ah ?_;rintro e W⟨⟨v,R,k,j,rfl,d⟩,Z⟩;obtain⟨A2,c2,A7,c7,rfl,H,D,C,z⟩:=d.val.be;have HV:=E d.val;have dF:=E (iC d.le d.ok);have m:=E (pt.r.trans Z);refine aJ _ _ Z ?_;clear aJ KK Z L d H D C z pt;refine bP ?_;refine S6.c ?_;rintro _⟨pt,rfl⟩ KK aJ;go_simp;refine aJ _ _ ((aF.refl _).alloc _) ?_;clear aJ KK;obtain⟨G,f⟩:∃G,a6 (pt.aL.heap.size=G):=⟨_,E rfl⟩;have a:=E (aI.new pt.aL 51 #[ap ⟨#[]⟩,ap ⟨#[]⟩,O M 0 0,J I 0,J I 0,J I 0,J I 0,O M 0 0]);simp only[f.A] at a⊢;have n:=E ((m.A.trans pt.r).alloc (aD #[ap ⟨#[]⟩,ap ⟨#[]⟩,O M 0 0,J I 0,J I 0,J I 0,J I 0,O M 0 0] 51));have u:=E ((aF.alloc pt.r (aD #[ap ⟨#[]⟩,ap ⟨#[]⟩,O M 0 0,J I 0,J I 0,J I 0,J I 0,O M 0 0] 51)));have Ei:=E (show w0.heap.size<=G by have:=(HS.A.b0.trans (m.A.trans pt.r)).size;have:=f.A;omega);have kV:=E (show V.heap.size<=G by have:=(m.A.trans pt.r).size;have:=f.A;omega);clear f m;generalize pt.aL.alloc (aD #[ap ⟨#[]⟩,ap ⟨#[]⟩,O M 0 0,J I 0,J I 0,J I 0,J I 0,O M 0 0] 51)=W7 at a n u⊢;clear pt;refine S6.s ?_;rintro _⟨pt,rfl⟩ KK aJ;go_simp;have gn:=E (a.A.al pt.aC a.A.lt);have bR:=E (n.A.trans pt.r);have Eh:=E (u.A.trans pt.r);clear a n u;exact abg
   ·skip;obtain⟨pt,rfl⟩:=K;go_simp;refine aJ _ _ ((aF.refl _).alloc _) ?_;clear aJ KK;obtain⟨G,f⟩:∃G,a6 (pt.aL.heap.size=G):=⟨_,E rfl⟩;have a:=E (aI.new pt.aL 51 #[ap ⟨#[]⟩,ap ⟨#[]⟩,O M 0 0,J I 0,J I 0,J I 0,J I 0,O M 0 0]);simp only[f.A] at a⊢;have n:=E (pt.r.alloc (aD #[ap ⟨#[]⟩,ap ⟨#[]⟩,O M 0 0,J I 0,J I 0,J I 0,J I 0,O M 0 0] 51));have Ei:=E (show w0.heap.size<=G by have:=(HS.A.b0.trans pt.r).size;have:=f.A;omega);have kV:=E (show V.heap.size<=G by have:=pt.r.size;have:=f.A;omega);clear f L;generalize pt.aL.alloc (aD #[ap ⟨#[]⟩,ap ⟨#[]⟩,O M 0 0,J I 0,J I 0,J I 0,J I 0,O M 0 0] 51)=W7 at a n⊢;clear pt;have HP:=E (λp:ba W7=>Nj (HS.A.b0.trans (n.A.trans p.r)) HS.A.tk HS.A.lc HS.A.le U.A S.A N.A);refine S6.c ?_;rintro _⟨pt,rfl⟩ KK aJ;go_simp;refine(HP.A pt).ah ?_;rintro e W⟨⟨v,R,k,j,rfl,d⟩,Z⟩;obtain⟨A2,c2,A7,c7,rfl,H,D,C,z⟩:=d.val.be;have HV:=E d.val;have dF:=E (iC d.le d.ok);have m:=E (pt.r.trans Z);refine aJ _ _ Z ?_;clear aJ KK Z d H D C z pt;refine bP ?_;refine S6.s ?_;rintro _⟨pt,rfl⟩ KK aJ;go_simp;have gn:=E (a.A.al (m.A.trans pt.r).aC a.A.lt);have bR:=E (n.A.trans (m.A.trans pt.r));have Eh:=E pt.r;clear a n m;exact abg
 ·have dM:=E (show Rs.length<16 by omega);have d1:decide (16<=(Rs.length:Int))=false:=aa an;have ec:decide (16<=Rs.length)=false:=aa T;go_enter func137,ntmps137;have L:=ba.cells HS.A.box;have HP:=E (λp:ba _=>Nj (HS.A.b0.trans p.r) HS.A.tk HS.A.lc HS.A.le U.A S.A N.A);go_wp2_with fail;refine hb (dq 0 8 (.l7 8 (dq 9 2 (.p 11 (.p 12 (.c 13 (.s 14 (.p 15 (.p 16 .nil))))))) 13 (.c 8 (dq 9 2 (.p 11 (.p 12 (.s 14 (.p 15 (.p 16 .nil))))))))) ?_;refine bP ?_;refine S6.l7 au au (λwt K KK aJ=>?_) (λwt K KK aJ=>?_)
  ·skip;obtain⟨pt,rfl⟩:=K;go_simp;refine(HP.A pt).ah ?_;rintro e W⟨⟨v,R,k,j,rfl,d⟩,Z⟩;obtain⟨A2,c2,A7,c7,rfl,H,D,C,z⟩:=d.val.be;have HV:=E d.val;have dF:=E (iC d.le d.ok);have m:=E (pt.r.trans Z);refine aJ _ _ Z ?_;clear aJ KK Z L d H D C z pt;refine bP ?_;refine S6.c ?_;rintro _⟨pt,rfl⟩ KK aJ;go_simp;refine aJ _ _ ((aF.refl _).alloc _) ?_;clear aJ KK;obtain⟨G,f⟩:∃G,a6 (pt.aL.heap.size=G):=⟨_,E rfl⟩;have a:=E (aI.new pt.aL 51 #[ap ⟨#[]⟩,ap ⟨#[]⟩,O M 0 0,J I 0,J I 0,J I 0,J I 0,O M 0 0]);simp only[f.A] at a⊢;have n:=E ((m.A.trans pt.r).alloc (aD #[ap ⟨#[]⟩,ap ⟨#[]⟩,O M 0 0,J I 0,J I 0,J I 0,J I 0,O M 0 0] 51));have u:=E ((aF.alloc pt.r (aD #[ap ⟨#[]⟩,ap ⟨#[]⟩,O M 0 0,J I 0,J I 0,J I 0,J I 0,O M 0 0] 51)));have Ei:=E (show w0.heap.size<=G by have:=(HS.A.b0.trans (m.A.trans pt.r)).size;have:=f.A;omega);have kV:=E (show(w.alloc (aD #[ap ⟨#[]⟩,ap ⟨#[]⟩,O M 0 0,J I 0,J I 0,J I 0,J I 0,O M 0 0] 51)).heap.size<=G by have:=(m.A.trans pt.r).size;have:=f.A;omega);have abf:=E (show w.heap.size+1<=G by have:=kV.A;simpa using this);clear f m;generalize pt.aL.alloc (aD #[ap ⟨#[]⟩,ap ⟨#[]⟩,O M 0 0,J I 0,J I 0,J I 0,J I 0,O M 0 0] 51)=W7 at a n u⊢;clear pt;refine S6.s ?_;rintro _⟨pt,rfl⟩ KK aJ;go_simp;have gn:=E (a.A.al pt.aC a.A.lt);have bR:=E (n.A.trans pt.r);have Eh:=E (u.A.trans pt.r);clear a n u;exact abe
  ·skip;obtain⟨pt,rfl⟩:=K;go_simp;refine aJ _ _ ((aF.refl _).alloc _) ?_;clear aJ KK;obtain⟨G,f⟩:∃G,a6 (pt.aL.heap.size=G):=⟨_,E rfl⟩;have a:=E (aI.new pt.aL 51 #[ap ⟨#[]⟩,ap ⟨#[]⟩,O M 0 0,J I 0,J I 0,J I 0,J I 0,O M 0 0]);simp only[f.A] at a⊢;have n:=E (pt.r.alloc (aD #[ap ⟨#[]⟩,ap ⟨#[]⟩,O M 0 0,J I 0,J I 0,J I 0,J I 0,O M 0 0] 51));have Ei:=E (show w0.heap.size<=G by have:=(HS.A.b0.trans pt.r).size;have:=f.A;omega);have kV:=E (show(w.alloc (aD #[ap ⟨#[]⟩,ap ⟨#[]⟩,O M 0 0,J I 0,J I 0,J I 0,J I 0,O M 0 0] 51)).heap.size<=G by have:=pt.r.size;have:=f.A;omega);have abf:=E (show w.heap.size+1<=G by have:=kV.A;simpa using this);clear f L;generalize pt.aL.alloc (aD #[ap ⟨#[]⟩,ap ⟨#[]⟩,O M 0 0,J I 0,J I 0,J I 0,J I 0,O M 0 0] 51)=W7 at a n⊢;clear pt;have HP:=E (λp:ba W7=>Nj (HS.A.b0.trans (n.A.trans p.r)) HS.A.tk HS.A.lc HS.A.le U.A S.A N.A);refine S6.c ?_;rintro _⟨pt,rfl⟩ KK aJ;go_simp;refine(HP.A pt).ah ?_;rintro e W⟨⟨v,R,k,j,rfl,d⟩,Z⟩;obtain⟨A2,c2,A7,c7,rfl,H,D,C,z⟩:=d.val.be;have HV:=E d.val;have dF:=E (iC d.le d.ok);have m:=E (pt.r.trans Z);refine aJ _ _ Z ?_;clear aJ KK Z d H D C z pt;refine bP ?_;refine S6.s ?_;rintro _⟨pt,rfl⟩ KK aJ;go_simp;have gn:=E (a.A.al (m.A.trans pt.r).aC a.A.lt);have bR:=E (n.A.trans (m.A.trans pt.r));have Eh:=E pt.r;clear a n m;exact abe
variable {cT:aB}
def SL:ByteArray:=⟨#[103,114,111,117,112]⟩
def SM:ByteArray:=⟨#[101,118,101,114,121]⟩
def SN:ByteArray:=⟨#[111,102,102,115,101,116]⟩
noncomputable def o5 (l:List Tok) (i:Nat):Bool:=cA l i 1 SL&&(eT l (i+1) 1&&db (eu l (i+1)))&&cA l (i+2) 1 SM&&(eT l (i+3) 2&&decide (eu l (i+3)=kD))&&cA l (i+4) 4 ⟨#[123]⟩&&qA l (i+5)&&cA l (i+12) 4 ⟨#[125]⟩
def rU (h:o5 l i=true):cA l i 1 SL=true/\eT l (i+1) 1=true/\db (eu l (i+1))=true/\cA l (i+2) 1 SM=true/\(eT l (i+3) 2=true/\eu l (i+3)=kD)/\cA l (i+4) 4 ⟨#[123]⟩=true/\qA l (i+5)=true/\cA l (i+12) 4 ⟨#[125]⟩=true:=by
 unfold o5 at h;simp only[b9,decide_eq_true_eq] at h;exact⟨h.1.1.1.1.1.1,h.1.1.1.1.1.2.1,h.1.1.1.1.1.2.2,h.1.1.1.1.2,h.1.1.1.2,h.1.1.2,h.1.2,h.2⟩
def Ca (l:List Tok) (i:Nat):cC:=⟨eu l (i+1),10,0,[te l (i+5)]⟩
def abh {k a:Int} {s c:ByteArray} (h:cA l i k s=true) (d:k≠a):cA l i a c=false:=by
 have b:=td h;rw[pJ,b9,s6 b,decide_eq_true_eq] at h;rw[pJ,s6 b,h.1,aa d];rfl
theorem abi (h:P:=by
 obtain rfl:k=RS.length:=an;rw[dr (by rw[b2,p8];omega),List.getElem_append_right (aO _),List.take_left];simp only[Nat.sub_self,List.getElem_cons_zero];rw[hs,hn];rfl;):P:=h
theorem abj (h:P:=by
 rw[dr (by rw[b2];omega),List.getElem_append_left aK,List.take_append_of_le_length (Nat.le_of_lt aK),<-dr aK];exact this;):P:=h
def akE {RS:List cv} (h:cI RS.length (lX RS)=true) (hs:ku R=true) (hn:RS.any (λx=>decide (x.n=R.n))=false):cI (RS++[R]).length (lX (RS++[R]))=true:=by
 rw[mw] at h⊢;intro k a;rw[b2,p8] at a;unfold lX rN;rcases gy k RS.length with aK|vj
 ·have:=h k aK;unfold lX rN at this;exact abj
 ·exact abi
def akF {RS:List cC} {R:cC} (h:cI RS.length (nY RS)=true) (hs:lY R=true) (hn:RS.any (λx=>decide (x.n=R.n))=false):cI (RS++[R]).length (nY (RS++[R]))=true:=by
 rw[mw] at h⊢;intro k a;rw[b2,p8] at a;unfold nY Mm;rcases gy k RS.length with aK|vj
 ·have:=h k aK;unfold nY Mm at this;exact abj
 ·exact abi
def akG:lS.e∉lS.bI:=aq
def akH:(aH.info? 51).map (λi=>(i.zero,i.size,i.bytes))=ad (ad (aY #[ap ⟨#[]⟩,ap ⟨#[]⟩,O M 0 0,J I 0,J I 0,J I 0,J I 0,O M 0 0]),8,112):=ar
def akI {o:Option Nat} (h:w.grownBy w' (ad b)) (k:w'.grownBy cT o) (ho:∀g,o=ad g->w.heap.size<=g):w.grownBy cT (ad b):=⟨k.os.trans h.os,k.tape.trans h.tape,k.output.trans h.output,a8 h.size k.size,λi hi a=>(k.block i (da hi h.size) (λe=>by have:=ho i e.symm;omega)).trans (h.block i hi a)⟩
structure wb (w0 w wr:aB) (B b c j:Nat) (ao:Option aX) (l:List Tok) (F:List cC) (q:Option aX×Nat):Prop where
 rd:fC w0 wr B b c j ao l F q
 gr:w.grownBy wr (ad b)
 r4:aI wr w.heap.size 43 #[ap ⟨#[]⟩,J I 0,J I 0,O M 0 0]
 Z:b<w.heap.size
 h0:w0.heap.size<=w.heap.size
structure jo (w0 w wr:aB) (B b c j:Nat) (ao:Option aX) (l:List Tok) (F:List cC) (q:Option aX×Nat) (g:Nat) (T:ByteArray) (br off:Int) (A7:Option aX) (c7:Nat) (RS:List cv):Prop where
 pr:wb w0 w wr B b c j ao l F q
 g4:aI wr g 43 #[ap T,J I br,J I off,O A7 RS.length c7]
 ow:Ow lS wr 0 w.heap.size (O A7 RS.length c7) RS
 h4:w.heap.size<g
section
variable {w0 w wr:aB} {B b c i j:Nat} {ao:Option aX} {l:List Tok} {F:List cC} {q:Option aX×Nat} {g:Nat} {T:ByteArray} {br off:Int} {A7:Option aX} {c7:Nat} {RS:List cv} {w':aB}
def wb.al (h:wb w0 w wr B b c j ao l F q) (Z:aS wr.heap.size wr w'):wb w0 w w' B b c j ao l F q:=⟨h.rd.al Z,bB h.gr (grown_of Z),h.r4.al Z h.r4.lt,h.Z,h.h0⟩
def wb.step (h:wb w0 w wr B b c j ao l F q) {k:Nat} (d:fC w0 w' B b c k ao l F q) (a:wr.grownBy w' (ad b)):wb w0 w w' B b c k ao l F q:=⟨d,bB h.gr a,h.r4.gr a (sh h.Z),h.Z,h.h0⟩
def jo.al (h:jo w0 w wr B b c j ao l F q g T br off A7 c7 RS) (Z:aS wr.heap.size wr w'):jo w0 w w' B b c j ao l F q g T br off A7 c7 RS:=⟨h.pr.al Z,h.g4.al Z h.g4.lt,h.ow.al Z,h.h4⟩
def jo.step (h:jo w0 w wr B b c j ao l F q g T br off A7 c7 RS) {k:Nat} (d:fC w0 w' B b c k ao l F q) (a:wr.grownBy w' (ad b)):jo w0 w w' B b c k ao l F q g T br off A7 c7 RS:=⟨h.pr.step d a,h.g4.gr a (aj h.pr.Z h.h4),h.ow.keep ((h.pr.rd.Gj a).dJ (bV _)) aq aq,h.h4⟩
def jo.new (h:wb w0 w wr B b c j ao l F q):jo w0 w (wr.alloc (aD #[ap T,J I 0,J I 0,O M 0 0] 43)) B b c j ao l F q wr.heap.size T 0 0 M 0 []:=⟨h.al ((bk _ _).alloc (aO _) _),aI.new wr 43 _,Ow.bh _ _ _ _,h.r4.lt⟩
def jo.dm {k:ByteArray} {a e:Int} {A':Option aX} {c':Nat} {d:List cv} (h0:fC w0 w B b c i ao l F q) (h:wb w0 w wr B b c j ao l F q) (hg:wr.grownBy w' (ad g)) (h4:w.heap.size<g) (Z:aI w' g 43 #[ap k,J I a,J I e,O A' d.length c']) (ho:Ow lS w' 0 w.heap.size (O A' d.length c') d):jo w0 w w' B b c j ao l F q g k a e A' c' d:=have f:=l3 h.gr hg (Nat.le_of_lt h4);⟨⟨h0.fin f (h.rd.box.gr hg (ai h.Z)) h.rd.le,f,h.r4.gr hg an,h.Z,h.h0⟩,Z,ho,h4⟩
def jo.ktb (h:jo w0 w wr B b c j ao l F q g T br off A7 c7 RS) (hg:wr.grownBy w' (ad g)):Kt w0.heap.size [43] wr w':=(Kt.refl _ _ wr).grown hg h.pr.rd.b0.size (λx e=>by cases e;exact⟨aj h.h4 h.pr.h0,bp.bO h.g4⟩) (bD.2 rfl)
def jo.Nu (h0:fC w0 w B b c i ao l F q) (h:jo w0 w wr B b c j ao l F q g T br off A7 c7 RS) (n:Int):jo w0 w (wr.setCell (ab g 1 M) (J I n)) B b c j ao l F q g T n off A7 c7 RS:=jo.dm h0 h.pr (bX h.g4.lt _) h.h4 (h.g4.put 1 _) (h.ow.keep ((h.ktb (bX h.g4.lt _)).dJ (bV _)) aq aq)
def jo.JU (h0:fC w0 w B b c i ao l F q) (h:jo w0 w wr B b c j ao l F q g T br off A7 c7 RS) (n:Int):jo w0 w (wr.setCell (ab g 2 M) (J I n)) B b c j ao l F q g T br n A7 c7 RS:=jo.dm h0 h.pr (bX h.g4.lt _) h.h4 (h.g4.put 2 _) (h.ow.keep ((h.ktb (bX h.g4.lt _)).dJ (bV _)) aq aq)
end
structure Sm (r:Nat) (W:aB) where
 aL:aB
 gr:W.heap.size<=aL.heap.size
 box:r<W.heap.size->aL.heap[r]?=W.heap[r]?
instance (r:Nat) (W:aB):Inhabited (Sm r W):=⟨⟨W,aO _,λ_=>rfl⟩⟩
def fg (r:Nat) (w w':aB):Prop:=∃p:Sm r w,w'=p.aL
def fg.trans {r:Nat} {a b c:aB} (h:fg r a b) (k:fg r b c):fg r a c:=by
 obtain⟨p,rfl⟩:=h;obtain⟨q,rfl⟩:=k;exact⟨⟨q.aL,a8 p.gr q.gr,λd=>(q.box (da d p.gr)).trans (p.box d)⟩,rfl⟩
def fg.of {r:Nat} {a b:aB} (h:aF a b):fg r a b:=⟨⟨b,h.size,λc=>h.aC.block r c⟩,rfl⟩
def fg.gr {r:Nat} {a b:aB} (h:a.grownBy b (ad g)) (d:r≠g):fg r a b:=⟨⟨b,h.size,λc=>h.block r c (λe=>d aqE)⟩,rfl⟩
def Sm.cells {r:Nat} (h:aI w r t cs) (i:Nat):∀p:Sm r w,p.aL.cell? (ab r i M)=cs[i]?:=λp=>aI.cell (t:=t) ((p.box h.lt).trans h) i
attribute [go_sem] fg
theorem abl (h:P:=by
 have HN:=E hn;have aM:=SF 4 ⟨#[125]⟩ HS.A.pr.rd hn;clear hn;go_wp2_with fail;refine aM.ah ?_;rintro e wz⟨rfl,Z⟩;replace HS:=E (HS.A.al Z);clear aM Z;have zK:=E (λp:ba wz=>akD cY.A gZ.A uC.A (HS.A.al p.aC).ow.vs (HS.A.al p.aC).pr.rd);have p3:=Sm.cells HS.A.g4 3;simp at p3;go_wp2_with fail;refine wa aF (fg g) aF.refl aF.trans fg.trans fg.of (.r 0 (.p 1 (.r 2 (.r 3 (.p 4 (.s 5 (.c 6 (.s 7 (.r 8 (.z 9 .nil)))))))))) (aF.drew _) ?_;refine bP ?_;refine S6.s ?_;rintro _⟨pt,rfl⟩ KK aJ;go_simp;refine(zK.A pt).ah ?_;replace HS:=E (HS.A.al pt.aC);rintro e wd (⟨v',R,j2,rfl,hv,bj,hR,hG⟩|⟨hk,⟨n,m,rfl⟩,hG⟩);case inr=>
  have HK:=E hk;have tf:=E (bB HS.A.pr.gr hG);clear hG hk zK p3;refine⟨rfl,.inr ⟨E λhF h=>?_,⟨n,m,rfl⟩,tf.A⟩⟩;obtain⟨h1,h2,h3|h3⟩:=fK.A hF h
  ·rw[h3.2] at HK;exact HK.A h3.1 (rU h).2.2.2.2.2.2.1
  ·have h4:=HN.A;rw[h3.2] at h4;exact ae (h4.symm.trans (rU h).2.2.2.2.2.2.2) aq
 have dv:=E bj.A;replace HS:=E (HS.A.step hR hG);have HV:=E hv;obtain⟨A2,c2,A9,c9,rfl,ea,eg,fz,j0⟩:=hv.be;refine aJ _ _ (fg.gr hG (aj HS.A.h4 HS.A.pr.Z)) ?_;clear aJ KK zK p3 bj hR hG hv pt;refine S6.c ?_;rintro _⟨pt,rfl⟩ KK aJ;go_simp;refine aJ _ _ ((aF.refl _).alloc _) ?_;clear aJ KK;replace HS:=E ((HS.A.al pt.aC).al ((bk _ _).alloc (aO _) (aD #[ap R.n,ap R.x.s.n,O A2 R.x.s.aU.length c2,J I R.x.op,J I R.x.v,J I R.wait,J I R.keep,O A9 R.L.length c9] 51)));have fB:=E (aI.new pt.aL 51 #[ap R.n,ap R.x.s.n,O A2 R.x.s.aU.length c2,J I R.x.op,J I R.x.v,J I R.wait,J I R.keep,O A9 R.L.length c9]);have rV:=E (show lS.rel _ 0 R [ap R.n,ap R.x.s.n,O A2 R.x.s.aU.length c2,J I R.x.op,J I R.x.v,J I R.wait,J I R.keep,O A9 R.L.length c9] from(by obtain⟨cs,e,hr⟩:=(HV.A.al pt.aC).al ((bk _ _).alloc (aO _) (aD #[ap R.n,ap R.x.s.n,O A2 R.x.s.aU.length c2,J I R.x.op,J I R.x.v,J I R.wait,J I R.keep,O A9 R.L.length c9] 51));cases(Array.toList_inj.2 (Value.agg.inj e):[ap R.n,ap R.x.s.n,O A2 R.x.s.aU.length c2,J I R.x.op,J I R.x.v,J I R.wait,J I R.keep,O A9 R.L.length c9]=cs);exact hr));clear HV ea eg fz j0;obtain⟨g8,rW⟩:∃g8,a6 (pt.aL.heap.size=g8):=⟨_,E rfl⟩;simp only[rW.A] at fB⊢;generalize pt.aL.alloc (aD #[ap R.n,ap R.x.s.n,O A2 R.x.s.aU.length c2,J I R.x.op,J I R.x.v,J I R.wait,J I R.keep,O A9 R.L.length c9] 51)=W7 at HS fB rV⊢;clear pt rW;refine S6.s ?_;rintro _⟨pt,rfl⟩ KK aJ;replace HS:=E (HS.A.al pt.aC);have JV:=E (lS.al rV.A pt.aC);have we:=E (aI.src (us:=[ap R.n,ap R.x.s.n,O A2 R.x.s.aU.length c2,J I R.x.op,J I R.x.v,J I R.wait,J I R.keep,O A9 R.L.length c9]) (n:=1*lS.k) (fB.A.al pt.aC fB.A.lt) rfl);have Gq:=E dv.A.2.1;refine E8 lS au (.tmp 85) (.tmp 90) 41 au w.heap.size 112 _ ar akH au 0 _ RS au HS.A.ow (ad (ab g8 0 M)) 1 1 [R] [ap R.n,ap R.x.s.n,O A2 R.x.s.aU.length c2,J I R.x.op,J I R.x.v,J I R.wait,J I R.keep,O A9 R.L.length c9] au (Rs.single JV.A) rfl (g8+1) we.A (by have:=Gq.A;simp only[bK];omega) (ai Gq.A) HS.A.pr.gr.size (bV _) akG ?_;intro v' w9 bC bG cx;obtain⟨An,tg,mM,_⟩:=bC.shape;subst mM;obtain⟨n9,mN⟩:=aP ((RS++[R]).length);have rK:=E mN;have sF:=E bC;have o6:=E (akI HS.A.pr.gr bG (λx e=>(HS.A.ow.row x e).1));have Nv:=E (show wb w0 w w9 B b c j2 ao l F q from⟨B9.A.fin o6.A (cx.eP HS.A.pr.rd.box aq) HS.A.pr.rd.le,o6.A,cx.eP HS.A.pr.r4 aq,HS.A.pr.Z,HS.A.pr.h0⟩);have lr:=E (cx.eP HS.A.g4 aq);have H49:=E HS.A.h4;simp only[mN];refine aJ _ _ ⟨⟨w9,bG.size,λ_=>lr.A.trans HS.A.g4.symm⟩,rfl⟩ ?_;clear aJ KK mN bC bG cx JV we fB rV Gq HS pt;refine bP ?_;refine S6.z ?_;rintro _⟨pt,rfl⟩ KK aJ;go_simp;have Nw:=E (Nv.A.al pt.aC);have kd:=E (lr.A.al pt.aC lr.A.lt);have Nx:=E (sF.A.al pt.aC);have n3:=kd.A.cell 3;have f3:=kd.A.frozen 3;go_simp;refine aJ _ _ ?_;have iP:=bX (o:=3) kd.A.lt (O An n9 tg);have HS:=E (show jo w0 w _ B b c j2 ao l F q g T br off An tg (RS++[R]) from jo.dm B9.A Nw.A iP H49.A (by rw[rK.A];exact kd.A.put 3 (O An n9 tg)) (by rw[rK.A];have ho:=Nx.A;rw[rK.A] at ho;exact ho.keep (((Kt.refl _ _ _).grown iP Nw.A.rd.b0.size (λx e=>by cases e;exact⟨aj H49.A Nw.A.h0,bp.bO kd.A⟩) (bD.2 rfl)).dJ (bV _)) aq aq));clear aJ KK n3 f3 iP Nw kd Nx Nv lr sF o6;generalize pt.aL.setCell (ab g 3 M) (O An n9 tg)=W8 at HS⊢;clear pt;refine S6.nb λwq hq=>?_;replace HS:=E (HS.A.al hq);have JW:=E (show(RS++[R]).length<=16/\cI (RS++[R]).length (lX (RS++[R]))=true from⟨by rw[b2,p8];have:=dv.A.2.1;omega,akE fH.A.2 dv.A.1 dv.A.2.2.1⟩);have SO:=E (show(F=[]->o5 l i=true->(off=(0:Int)/\br=10/\((RS++[R]=[]/\j2=i+5)\/(RS++[R]=[te l (i+5)]/\j2=i+12)))) fromλhF h=>by
  obtain⟨h1,h2,h3|h3⟩:=fK.A hF h
  ·have hx:=(rU h).2.2.2.2.2.2.1;rw[<-h3.2] at hx;refine⟨h1,h2,.inr ⟨?_,?_⟩⟩
   ·rw[h3.1,dv.A.2.2.2.1 hx,h3.2];rfl
   ·rw[dv.A.2.2.2.2 hx,h3.2]
  ·exfalso;have h4:=HN.A;rw[h3.2] at h4;exact ae (h4.symm.trans (rU h).2.2.2.2.2.2.2) aq)
 go_wp2;go_roundw;case rel=>exact⟨j2,An,tg,_,HS,JW,SO⟩
 case measure=>
  have m1:=o4.A.g4.cell 3;have m2:=HS.A.g4.cell 3;have:=JW.A.1;simp at m1 m2 this;simp[m1,m2];omega
 ):P:=h
theorem abm (h:P:=by
 obtain⟨h1,h2,h3|h3⟩:=fK.A hF h
 ·exfalso;have h4:=HN.A;rw[h3.2] at h4;exact ae (h4.symm.trans (abh (xI (rU h).2.2.2.2.2.2.1).1 aq)) aq
 ·refine⟨?_,an⟩;unfold Ca;rw[h1,h2,h3.1,abn.A]
 ):P:=h
theorem abo (h:P:=by
 have tf:=E (bB HS.A.pr.gr hG);clear aM hk hG;go_wp2;exact⟨rfl,.inr ⟨E λhF h=>gh.A _ h,⟨n,m,rfl⟩,tf.A⟩⟩;):P:=h
def akJ {c:Nat} {q:Option aX×Nat} (hG:eK w0) (C:∀t∈l,t.s.size<=1000000) (mJ:l.length<=65536) (h:fC w0 w B b c i ao l F q):aN aH 98 #[bl (ad (ab b 0 M))] w λe w'=>(∃(v':aE) (X:cC) (j:Nat),e=aQ v'/\BV w' 0 v' X/\a6 (lY X=true/\F.length<16/\F.any (λx=>decide (x.n=X.n))=false/\(F=[]->o5 l i=true->X=Ca l i/\j=i+13))/\fC w0 w' B b c j ao l F q/\w.grownBy w' (ad b))\/(a6 (F=[]->o5 l i=true->False)/\Gn w w' b e):=by
 have B9:=E h;have aW:=(aF.refl w).alloc (aD #[ap ⟨#[]⟩,J I 0,J I 0,O M 0 0] 43);have HS:=E (show wb w0 w (w.alloc (aD #[ap ⟨#[]⟩,J I 0,J I 0,O M 0 0] 43)) B b c i ao l F q from⟨h.al aW.aC,grown_of aW.aC,aI.new w 43 _,h.box.lt,h.b0.size⟩);have cY:=E hG;have gZ:=E C;have uC:=E mJ;have dM:=E (a8 h.lc.1 h.lc.2);clear h aW hG C mJ;go_enter func98,ntmps98;have aM:=Nn 1 SL HS.A.rd;go_wp2_with fail;refine aM.ah ?_;rintro e wz (⟨rfl,hk,hR,hG⟩|⟨hk,⟨n,m,rfl⟩,hG⟩);case inr=>
  have HK:=E hk;have tf:=E (bB HS.A.gr hG);clear aM hk hG;go_wp2;exact⟨rfl,.inr ⟨E λhF h=>ae (HK.A.symm.trans (rU h).1) aq,⟨n,m,rfl⟩,tf.A⟩⟩
 have uI:=E hk;have xP:=E (td hk);replace HS:=E (HS.A.step hR hG);clear aM hk hR hG;have d:=HS.A.rd.box.cell;by_cases N:16<=F.length
 ·have d1:decide (16<=(F.length:Int))=true:=ac an;have ec:decide (16<=F.length)=true:=ac N;have BN:=E (show F≠[] fromλe=>by rw[e] at N;simp at N);have w1:I.wrap ((i:Int))=(i:Int):=are;go_wp2;exact⟨rfl,.inr ⟨E λh=>ae h BN.A,⟨i,_,rfl⟩,HS.A.gr⟩⟩
 have Gr:=E (show F.length<16 by omega);have d1:decide (16<=(F.length:Int))=false:=aa an;have ec:decide (16<=F.length)=false:=aa N;have aM:=abc 1 HS.A.rd;go_wp2_with fail;refine aM.ah ?_;rintro e wz (⟨rfl,hk,hR,hG⟩|⟨hk,⟨n,m,rfl⟩,hG⟩);case inr=>
  have HK:=E hk;have tf:=E (bB HS.A.gr hG);clear aM hk hG;go_wp2;exact⟨rfl,.inr ⟨E λhF h=>ae (HK.A.symm.trans (rU h).2.1) aq,⟨n,m,rfl⟩,tf.A⟩⟩
 replace xP:=E (kZ hk);have bJ:(eu l (i+1)).size<=9223372036854775807:=by rw[qx (kZ hk)];exact a8 (gZ.A _ (dl (kZ hk))) aq
 replace HS:=E (HS.A.step hR hG);clear aM hk hR hG d d1 ec N;obtain⟨T,C⟩:=aP (eu l (i+1));rw[C] at bJ;have abn:=E C;simp only[C];have dt:=E bJ;clear C bJ;have a:=E (jo.new (T:=T) HS.A);have n0:=a.A.g4.cell 0;simp at n0;have e5:=λW=>mu T W dt.A;have d:=a.A.pr.rd.box.cell 1;simp at d;obtain⟨r,hr⟩:=aP (db T);simp only[hr] at e5;have SP:=E hr;have w1:I.wrap ((i:Int)+1)=(i:Int)+1:=are;have aK:I.wrap ((i:Int))=(i:Int):=are;clear hr HS;go_wp2_with fail;refine(e5 _).ah ?_;rintro e w9⟨rfl,rfl⟩;generalize wz.alloc (aD #[ap T,J I 0,J I 0,O M 0 0] 43)=wy at a n0 d⊢;generalize wz.heap.size=g at a n0⊢;rename a6 (jo w0 w wy B b c (i+1+1) ao l F q g T 0 0 M 0 [])=>HS;clear e5;cases r with
 |false=>
  go_wp2;exact⟨rfl,.inr ⟨E λhF h=>ae ((abn.A▸SP.A:db (eu l (i+1))=false).symm.trans (rU h).2.2.1) aq,⟨i+1,_,rfl⟩,HS.A.pr.gr⟩⟩
 |true=>
 have nj:=E SP.A;clear SP;have C2:=E (λp:ba wy=>(aat T p.aL (HS.A.al p.aC).pr.rd.lD.vs).mono λ_ _ h=>(⟨h.1,h.2.aC⟩:_/\aS p.aL.heap.size p.aL _));have y2:=ba.cells HS.A.pr.rd.box 2;have y0:=ba.cells HS.A.g4 0;simp at y0;obtain⟨r,hr⟩:=aP (F.any (λx=>decide (x.n=T)));simp only[hr] at C2;have SR:=E hr;clear hr n0;go_wp2_with fail;refine du (cU 0 7 []) [] ?_;repeat (
  refine S4.step (λKK aJ=>?_);go_simp;first
   |(refine aJ _ ?_;clear aJ KK)
   |(apply lL;refine⟨λ_=>?_,aJ _ ?_⟩;(with_reducible exact aN.seq (C2.A _));clear aJ KK))
 refine S4.nb λwq hq=>?_;refine dP ?_;replace HS:=E (HS.A.al hq);clear C2 y2 y0 hq d;have d:=HS.A.pr.rd.box.cell 1;simp at d;cases r with
 |true=>
  go_wp2;exact⟨rfl,.inr ⟨E λhF h=>ae SR.A (by rw[hF];simp),⟨i+1,_,rfl⟩,HS.A.pr.gr⟩⟩
 |false=>
 have S:=E SR.A;clear SR d w1 aK;have aM:=Nn 1 SM HS.A.pr.rd;go_wp2_with fail;refine aM.ah ?_;rintro e wz (⟨rfl,hk,hR,hG⟩|⟨hk,⟨n,m,rfl⟩,hG⟩);case inr=>
  have HK:=E hk;have tf:=E (bB HS.A.pr.gr hG);clear aM hk hG;go_wp2;exact⟨rfl,.inr ⟨E λhF h=>ae (HK.A.symm.trans (rU h).2.2.2.1) aq,⟨n,m,rfl⟩,tf.A⟩⟩
 have fZ:=E hk;have xP:=E (td hk);replace HS:=E (HS.A.step hR hG);clear aM hk hR hG;have aM:=abd cY.A gZ.A HS.A.pr.rd;go_wp2_with fail;refine aM.ah ?_;rintro e wz (⟨br,rfl,HN,hR,hG⟩|⟨hk,⟨n,m,rfl⟩,hG⟩);case inr=>
  have HK:=E hk;have tf:=E (bB HS.A.pr.gr hG);clear aM hk hG;go_wp2;exact⟨rfl,.inr ⟨E λhF h=>HK.A (rU h).2.2.2.2.1,⟨n,m,rfl⟩,tf.A⟩⟩
 replace HS:=E (HS.A.step hR hG);have aR:=E HN.A;have U:=E (show gm br=true by unfold gm;rw[ac HN.A.1,ac HN.A.2.1];rfl);clear aM hR hG xP;obtain⟨u,SS⟩:=aP (i+1+1+1+1);rw[SS] at HS;have Y:=E (show i+4=u from SS);clear SS;have n1:=HS.A.g4.cell 1;have f1:=HS.A.g4.frozen 1;have a:=E (jo.Nu B9.A HS.A br);have d:=a.A.pr.rd.box.cell 1;simp at d;by_cases f:br=0
 ·have e0:(br==0)=true:=by simp;exact f
  have HZ:=E f;have w1:I.wrap ((u:Int)-1)=((u-1:Nat):Int):=by rw[b7];have:=dM.A;have:=HS.A.pr.rd.le;have:=Y.A;omega
  clear f;go_wp2;exact⟨rfl,.inr ⟨E λhF h=>ae (HZ.A.symm.trans (HN.A.2.2 (rU h).2.2.2.2.1.2)) aq,⟨u-1,_,rfl⟩,a.A.pr.gr⟩⟩
 have e0:(br==0)=false:=by simp;exact f
 have SU:=E f;clear f d;cases hn:cA l u 1 SN with
 |false=>
  have aM:=SF 1 SN a.A.pr.rd hn;clear hn;go_wp2_with fail;refine aM.ah ?_;rintro e wy⟨rfl,Z⟩;replace HS:=E (a.A.al Z);clear aM Z a n1 f1 e0;obtain⟨off,Ny⟩:∃o:Int,a6 ((0:Int)=o):=⟨0,E rfl⟩;rw[Ny.A] at HS;have aM:=Nn 4 ⟨#[123]⟩ HS.A.pr.rd;go_wp2_with fail;refine aM.ah ?_;rintro e wz (⟨rfl,hk,hR,hG⟩|⟨hk,⟨n,m,rfl⟩,hG⟩);case inr=>
   have HK:=E hk;have tf:=E (bB HS.A.pr.gr hG);clear aM hk hG;go_wp2;exact⟨rfl,.inr ⟨E λhF h=>ae (HK.A.symm.trans (Y.A▸(rU h).2.2.2.2.2.1)) aq,⟨n,m,rfl⟩,tf.A⟩⟩
  have BP:=E hk;have xP:=E (td hk);replace HS:=E (HS.A.step hR hG);clear aM hk hR hG;go_wp2;obtain⟨H,G⟩:=aP (u+1);rw[G] at HS;have L:=E (show(([]:List cv).length<=16/\cI ([]:List cv).length (lX [])=true) from⟨aq,aq⟩);have K:=E (show(F=[]->o5 l i=true->(off=(0:Int)/\br=10/\((([]:List cv)=[]/\H=i+5)\/(([]:List cv)=[te l (i+5)]/\H=i+12)))) fromλhF h=>⟨Ny.A.symm,HN.A.2.2 (rU h).2.2.2.2.1.2,.inl ⟨rfl,ai Y.A⟩⟩);clear G;go_loopw [] (λwr=>∃(j:Nat) (A7:Option aX) (c7:Nat) (RS:List cv),a6 (jo w0 w wr B b c j ao l F q g T br off A7 c7 RS)/\a6 (RS.length<=16/\cI RS.length (lX RS)=true)/\a6 (F=[]->o5 l i=true->(off=(0:Int)/\br=10/\((RS=[]/\j=i+5)\/(RS=[te l (i+5)]/\j=i+12))))) (λwr=>match wr.cell? (ab g 3 M) with|some (O _ n _)=>17-n|_=>0);case atStart=>exact⟨_,_,_,_,HS,L,K⟩
  case round=>
   clear HS L K;obtain⟨j,A7,c7,RS,HS,fH,fK⟩:=hrel;have o4:=HS;cases hn:cA l j 4 ⟨#[125]⟩ with
   |true=>
    have HN:=E hn;have aM:=Nl 4 ⟨#[125]⟩ HS.A.pr.rd hn;clear hn;go_wp2_with fail;refine aM.ah ?_;rintro e wz⟨rfl,hR,hG⟩;replace HS:=E (HS.A.step hR hG);clear aM hR hG;have y0:=HS.A.g4.cell;have⟨z0,f0⟩:=HS.A.pr.r4.cf;have HP:=E (HS.A.pr.r4.mO (ap T) (J I br) (J I off) (O A7 RS.length c7));have D:=E (xB HS.A.pr.r4.lt (ap T) (J I br) (J I off) (O A7 RS.length c7));have qC:=E (HS.A.ow.keep (((Kt.refl w0.heap.size [43] wz).grown D.A HS.A.pr.rd.b0.size (λx e=>by cases e;exact⟨HS.A.pr.h0,bp.bO HS.A.pr.r4⟩) (bD.2 rfl)).dJ (bV _)) aq aq);have V:=E (l3 HS.A.pr.gr D.A (aO _));go_wp2;have k0:=HP.A.cell;refine bF (v:=aY #[ap T,J I br,J I off,O A7 RS.length c7]) (by simp[bz,results98,go_sem,k0]) rfl (.inl ⟨_,⟨T,br,off,RS⟩,j+1,rfl,⟨_,rfl,_,rfl,dt.A,qC.A.vs⟩,E ⟨?_,Gr.A,S.A,λhF h=>?_⟩,B9.A.fin V.A (HS.A.pr.rd.box.gr D.A (mW HS.A.pr.Z)) HS.A.pr.rd.le,V.A⟩)
    ·unfold lY;show(db T&&gm br&&!decide (br=0)&&(decide (0<=off)&&decide (off<br))&&decide (RS.length<=16)&&cI RS.length (lX RS))=true;rw[nj.A,show gm br=true from U.A,aa SU.A,ac fH.A.1,fH.A.2,ac (show 0<=off from Int.le_of_eq Ny.A),ac (show off<br from by have:=aR.A.1;have:=SU.A;have:=Ny.A;omega)];rfl
    ·exact abm
   |false=>
    exact abl
 |true=>
  have gh:=E (show∀Q:Prop,o5 l i=true->Q fromλQ h=>ae (hn.symm.trans (abh (Y.A▸(rU h).2.2.2.2.2.1) aq)) aq);have aM:=Nl 1 SN a.A.pr.rd hn;have xP:=E (td hn);clear hn;go_wp2_with fail;refine aM.ah ?_;rintro e wy⟨rfl,hR,hG⟩;replace HS:=E (a.A.step hR hG);clear aM hR hG a n1 f1 e0;have aM:=abd cY.A gZ.A HS.A.pr.rd;go_wp2_with fail;refine aM.ah ?_;rintro e wz (⟨off,rfl,a2,hR,hG⟩|⟨hk,⟨n,m,rfl⟩,hG⟩);case inr=>
   exact abo
  replace HS:=E (HS.A.step hR hG);clear aM hR hG xP;obtain⟨Nz,SV⟩:=aP (u+1+1);rw[SV] at HS;have a3:=E SV;clear SV;have n1:=HS.A.g4.cell 2;have f1:=HS.A.g4.frozen 2;have a:=E (jo.JU B9.A HS.A off);have d:=a.A.pr.rd.box.cell 1;have n0:=a.A.g4.cell;simp at d;by_cases f:br<=off
  ·have e0:decide (br<=off)=true:=ac f;have w1:I.wrap ((Nz:Int)-1)=((Nz-1:Nat):Int):=by rw[b7];have:=dM.A;have:=HS.A.pr.rd.le;have:=a3.A;omega
   clear f;go_wp2;exact⟨rfl,.inr ⟨E λhF h=>gh.A _ h,⟨Nz-1,_,rfl⟩,a.A.pr.gr⟩⟩
  have e0:decide (br<=off)=false:=aa f;have ny:=E (show off<br by omega);replace HS:=a;clear f d;have aM:=Nn 4 ⟨#[123]⟩ HS.A.pr.rd;go_wp2_with fail;refine aM.ah ?_;rintro e wz (⟨rfl,hk,hR,hG⟩|⟨hk,⟨n,m,rfl⟩,hG⟩);case inr=>
   have HK:=E hk;exact abo
  have BP:=E hk;have xP:=E (td hk);replace HS:=E (HS.A.step hR hG);clear aM hk hR hG;go_wp2;obtain⟨H,G⟩:=aP (Nz+1);rw[G] at HS;have L:=E (show(([]:List cv).length<=16/\cI ([]:List cv).length (lX [])=true) from⟨aq,aq⟩);have K:=E (show(F=[]->o5 l i=true->(off=(0:Int)/\br=10/\((([]:List cv)=[]/\H=i+5)\/(([]:List cv)=[te l (i+5)]/\H=i+12)))) fromλhF h=>gh.A _ h);clear G;go_loopw [] (λwr=>∃(j:Nat) (A7:Option aX) (c7:Nat) (RS:List cv),a6 (jo w0 w wr B b c j ao l F q g T br off A7 c7 RS)/\a6 (RS.length<=16/\cI RS.length (lX RS)=true)/\a6 (F=[]->o5 l i=true->(off=(0:Int)/\br=10/\((RS=[]/\j=i+5)\/(RS=[te l (i+5)]/\j=i+12))))) (λwr=>match wr.cell? (ab g 3 M) with|some (O _ n _)=>17-n|_=>0);case atStart=>exact⟨_,_,_,_,HS,L,K⟩
  case round=>
   clear HS L K;obtain⟨j,A7,c7,RS,HS,fH,fK⟩:=hrel;have o4:=HS;cases hn:cA l j 4 ⟨#[125]⟩ with
   |true=>
    have HN:=E hn;have aM:=Nl 4 ⟨#[125]⟩ HS.A.pr.rd hn;clear hn;go_wp2_with fail;refine aM.ah ?_;rintro e wz⟨rfl,hR,hG⟩;replace HS:=E (HS.A.step hR hG);clear aM hR hG;have y0:=HS.A.g4.cell;have⟨z0,f0⟩:=HS.A.pr.r4.cf;have HP:=E (HS.A.pr.r4.mO (ap T) (J I br) (J I off) (O A7 RS.length c7));have D:=E (xB HS.A.pr.r4.lt (ap T) (J I br) (J I off) (O A7 RS.length c7));have qC:=E (HS.A.ow.keep (((Kt.refl w0.heap.size [43] wz).grown D.A HS.A.pr.rd.b0.size (λx e=>by cases e;exact⟨HS.A.pr.h0,bp.bO HS.A.pr.r4⟩) (bD.2 rfl)).dJ (bV _)) aq aq);have V:=E (l3 HS.A.pr.gr D.A (aO _));go_wp2;have k0:=HP.A.cell;refine bF (v:=aY #[ap T,J I br,J I off,O A7 RS.length c7]) (by simp[bz,results98,go_sem,k0]) rfl (.inl ⟨_,⟨T,br,off,RS⟩,j+1,rfl,⟨_,rfl,_,rfl,dt.A,qC.A.vs⟩,E ⟨?_,Gr.A,S.A,λhF h=>?_⟩,B9.A.fin V.A (HS.A.pr.rd.box.gr D.A (mW HS.A.pr.Z)) HS.A.pr.rd.le,V.A⟩)
    ·unfold lY;show(db T&&gm br&&!decide (br=0)&&(decide (0<=off)&&decide (off<br))&&decide (RS.length<=16)&&cI RS.length (lX RS))=true;rw[nj.A,show gm br=true from U.A,aa SU.A,ac fH.A.1,fH.A.2,ac (show 0<=off from a2.A.1),ac ny.A];rfl
    ·exact abm
   |false=>
    exact abl
structure tB (W:aB) (bs dN eA eL b1 g:Nat) (s:ByteArray) (vf:aE) (a0 e0:Int) (ao:Option aX) (l:List Tok) (c:Nat) (n:Nat) (k:Int):Prop where
 s:aI W bs 9 #[ap s]
 f:aI W dN 25 #[vf]
 a:aI W eA 3 #[J I a0]
 e:aI W eL 79 #[J I e0]
 t:aI W b1 170 #[O ao l.length c]
 g:aI W g 174 #[J I n,J I k]
section
variable {W W':aB} {bs dN eA eL b1 g:Nat} {s:ByteArray} {vf:aE} {a0 e0:Int} {ao:Option aX} {l:List Tok} {c n z:Nat} {k:Int}
def tB.al (h:tB W bs dN eA eL b1 g s vf a0 e0 ao l c n k) (Z:aS W.heap.size W W'):tB W' bs dN eA eL b1 g s vf a0 e0 ao l c n k:=⟨h.s.al Z h.s.lt,h.f.al Z h.f.lt,h.a.al Z h.a.lt,h.e.al Z h.e.lt,h.t.al Z h.t.lt,h.g.al Z h.g.lt⟩
def tB.G1 (h:tB W bs dN eA eL b1 g s vf a0 e0 ao l c n k) (hn:bs<dN/\dN<eA/\eA<eL/\eL<b1/\b1<g/\z<=g) (v:aE):tB (W.setCell (ab dN 0 M) v) bs dN eA eL b1 g s v a0 e0 ao l c n k:=⟨h.s.bT (p:=(ab dN 0 M)) (by show bs≠dN;omega) v,h.f.put 0 v,h.a.bT (p:=(ab dN 0 M)) (by show eA≠dN;omega) v,h.e.bT (p:=(ab dN 0 M)) (by show eL≠dN;omega) v,h.t.bT (p:=(ab dN 0 M)) (by show b1≠dN;omega) v,h.g.bT (p:=(ab dN 0 M)) (by show g≠dN;omega) v⟩
def tB.Ay (h:tB W bs dN eA eL b1 g s vf a0 e0 ao l c n k) (hn:bs<dN/\dN<eA/\eA<eL/\eL<b1/\b1<g/\z<=g) (x:Int):tB (W.setCell (ab eA 0 M) (J I x)) bs dN eA eL b1 g s vf x e0 ao l c n k:=⟨h.s.bT (p:=(ab eA 0 M)) (by show bs≠eA;omega) _,h.f.bT (p:=(ab eA 0 M)) (by show dN≠eA;omega) _,h.a.put 0 _,h.e.bT (p:=(ab eA 0 M)) (by show eL≠eA;omega) _,h.t.bT (p:=(ab eA 0 M)) (by show b1≠eA;omega) _,h.g.bT (p:=(ab eA 0 M)) (by show g≠eA;omega) _⟩
def tB.EK (h:tB W bs dN eA eL b1 g s vf a0 e0 ao l c n k) (hn:bs<dN/\dN<eA/\eA<eL/\eL<b1/\b1<g/\z<=g) (x:Int):tB (W.setCell (ab eL 0 M) (J I x)) bs dN eA eL b1 g s vf a0 x ao l c n k:=⟨h.s.bT (p:=(ab eL 0 M)) (by show bs≠eL;omega) _,h.f.bT (p:=(ab eL 0 M)) (by show dN≠eL;omega) _,h.a.bT (p:=(ab eL 0 M)) (by show eA≠eL;omega) _,h.e.put 0 _,h.t.bT (p:=(ab eL 0 M)) (by show b1≠eL;omega) _,h.g.bT (p:=(ab eL 0 M)) (by show g≠eL;omega) _⟩
end
def amW {P:cp} {d:Nat} {rest:Code} {Q:Exit->bb->List Frame->aB->Prop} {c:Frame} {cs:List Frame} {b:List PanicEntry} (ho:o.op= .call {callee:=.builtin .recover,args:=#[],argTypes:=#[]}) (hg:o.guard=M) (e:c.mode= .panicking ({v:=v,recovered:=false}::b)) (h:rest.wpS P Q (a.put o.dst v) ({c with mode:=.panicking ({v:=v,recovered:=true}::b)}::cs) w):(Code.seq (.region d #[o] false) rest).wpS P Q a (c::cs) w:=by
 apply wpS_seq;apply wpS_region;simp[wpOpsS,go_sem,recoverD,e,Exit.thenS,execOp,ho,hg,dz];exact h
def amX {P:cp} {c:Nat} {rest:Code} {Q:Exit->bb->List Frame->aB->Prop} {b:Frame} {cs:List Frame} (ho:o.op= .call {callee:=.builtin .recover,args:=#[],argTypes:=#[]}) (hg:o.guard=M) (d:b.mode= .returning) (h:rest.wpS P Q (a.put o.dst .nilIface) (b::cs) w):(Code.seq (.region c #[o] false) rest).wpS P Q a (b::cs) w:=by
 apply wpS_seq;apply wpS_region;simp[wpOpsS,go_sem,recoverD,d,Exit.thenS,execOp,ho,hg,dz];exact h
def amY {bs dN eA eL b1:Nat} {c:Nat} {s:ByteArray} {vf:aE} {a0 e0:Int} (n:Nat) (k:Int) (wA:Rw kM w B ao l.length l) (hB:B<=bs) (hl:l.length<=c/\c<=9223372036854775807) (hs:aI w bs 9 #[ap s]) (T:aI w dN 25 #[vf]) (V:aI w eA 3 #[J I a0]) (U:aI w eL 79 #[J I e0]) (H:aI w b1 170 #[O ao l.length c]) (L:bs<dN/\dN<eA/\eA<eL/\eL<b1):CallsD aH 97 #[bl (ad (ab bs 0 M)),bl (ad (ab dN 0 M)),bl (ad (ab eA 0 M)),bl (ad (ab eL 0 M)),bl (ad (ab b1 0 M))] (.panicking [{v:=FV n k,recovered:=false}]) w λe u' w'=>e=aQ (bn #[])/\u'= .panicking [{v:=FV n k,recovered:=true}]/\(∃z:Int,aI w' dN 25 #[O M 0 0]/\aI w' eA 3 #[J I z]/\aI w' eL 79 #[J I k])/\(∀a,aF a w->a.heap.size<=dN->aF a w'):=by
 refine callsD_of_wpS func97 rfl λc₀ cs hu=>?_;refine amW au au hu ?_;refine wpS_of_wp ?_;simp only[Act.put,ntmps97,lM,pY,nF,Nat.reduceAdd,Nat.reduceSub,Array.replicate_succ,Array.replicate_zero,List.push_toArray,List.append_toArray,List.nil_append,List.cons_append,List.setIfInBounds_toArray,List.set_cons_succ,List.set_cons_zero,FV];have aM:∀W,(Instr.typeAssert (.iface 174 (aY #[J I n,J I k])) 20 174 true).run aH W= .ok (bn #[aY #[J I n,J I k],aG true]) W:=λW=>by kernel_rfl
 have S:=aI.new w 174 #[J I n,J I k];have K:=(aF.refl w).alloc (aD #[J I n,J I k] 174);have g1:=Sm.cells S 1;have s0:=ba.cells (hs.al K.aC hs.lt) 0;simp at g1;have b:=E (show tB (w.alloc (aD #[J I n,J I k] 174)) bs dN eA eL b1 w.heap.size s vf a0 e0 ao l c n k from⟨hs.al K.aC hs.lt,T.al K.aC T.lt,V.al K.aC V.lt,U.al K.aC U.lt,H.al K.aC H.lt,S⟩);have d:=E (show bs<dN/\dN<eA/\eA<eL/\eL<b1/\b1<w.heap.size/\B<=w.heap.size from⟨L.1,L.2.1,L.2.2.1,L.2.2.2,H.lt,ai hs.lt⟩);have m:=E (show∀a,aF a w->a.heap.size<=dN->aF a (w.alloc (aD #[J I n,J I k] 174)) fromλa h _=>h.alloc _);have i:=E ((Kt.refl B [25,3,79] w).alloc (ai hs.lt) (aD #[J I n,J I k] 174));have C:=E hB;have cQ:=E wA;obtain⟨jc,ju⟩:=hl;clear hs T V U H L wA;go_wp2_with fail;refine wa aF (fg w.heap.size) aF.refl aF.trans fg.trans fg.of (.q 0 (.r 1 (.r 2 (.p 3 (.s 4 (.s 5 (.s 6 .nil))))))) (aF.drew _) ?_;refine bP ?_;clear g1 s0 S;refine S6.s ?_;rintro _⟨f,rfl⟩ KK aJ;go_simp;have F:=E (b.A.al f.aC);have z:=F.A.f.cell 0;have N:=F.A.f.frozen 0;simp at z;go_simp;have u:=E (λa (j:aF a w) (h2:a.heap.size<=dN)=>(m.A a j h2).trans f.r);refine aJ _ _ (fg.gr (bX F.A.f.lt _) (ai d.A)) ?_;clear aJ KK z N;replace i:=E ((i.A.trans (Kt.lQ f.aC (a8 (a8 C.A (by have:=d.A;omega:bs<=w.heap.size)) i.A.size))).setCell (g:=dN) (o:=0) (aj d.A C.A) (bp.bO F.A.f) av (O M 0 0));replace b:=E (F.A.G1 d.A (O M 0 0));replace m:=E (λa (j:aF a w) (h2:a.heap.size<=dN)=>(u.A a j h2).setCell (p:=(ab dN 0 M)) (by have:=d.A;show a.heap.size<=dN;omega) (O M 0 0));clear F u;generalize f.aL.setCell (ab dN 0 M) (O M 0 0)=W0 at b m i⊢;clear f;refine S6.s ?_;rintro _⟨f,rfl⟩ KK aJ;go_simp;have D:=E (b.A.al f.aC);have z:=D.A.a.cell 0;have N:=D.A.a.frozen 0;simp at z;go_simp;have u:=E (λa (j:aF a w) (h2:a.heap.size<=dN)=>(m.A a j h2).trans f.r);refine aJ _ _ (fg.gr (bX D.A.a.lt _) (ai d.A)) ?_;clear aJ KK z N;replace i:=E ((i.A.trans (Kt.lQ f.aC (a8 (a8 C.A (by have:=d.A;omega:bs<=w.heap.size)) i.A.size))).setCell (g:=eA) (o:=0) (aj d.A C.A) (bp.bO D.A.a) av (J I s.size));replace b:=E (D.A.Ay d.A s.size);replace m:=E (λa (j:aF a w) (h2:a.heap.size<=dN)=>(u.A a j h2).setCell (p:=(ab eA 0 M)) (by have:=d.A;show a.heap.size<=eA;omega) (J I s.size));clear D u;generalize f.aL.setCell (ab eA 0 M) (J I s.size)=W1 at b m i⊢;clear f;refine S6.s ?_;rintro _⟨f,rfl⟩ KK aJ;go_simp;have G:=E (b.A.al f.aC);have z:=G.A.e.cell 0;have N:=G.A.e.frozen 0;simp at z;go_simp;have u:=E (λa (j:aF a w) (h2:a.heap.size<=dN)=>(m.A a j h2).trans f.r);refine aJ _ _ (fg.gr (bX G.A.e.lt _) (ai d.A)) ?_;clear aJ KK z N;replace i:=E ((i.A.trans (Kt.lQ f.aC (a8 (a8 C.A (by have:=d.A;omega:bs<=w.heap.size)) i.A.size))).setCell (g:=eL) (o:=0) (aj d.A C.A) (bp.bO G.A.e) av (J I k));replace b:=E (G.A.EK d.A k);replace m:=E (λa (j:aF a w) (h2:a.heap.size<=dN)=>(u.A a j h2).setCell (p:=(ab eL 0 M)) (by have:=d.A;show a.heap.size<=eL;omega) (J I k));clear G u;generalize f.aL.setCell (ab eL 0 M) (J I k)=W2 at b m i⊢;clear f;refine S6.nb λwq R=>?_;replace b:=E (b.A.al R);replace m:=E (λa (j:aF a w) (h2:a.heap.size<=dN)=>(m.A a j h2).next R);replace i:=E (i.A.trans (Kt.lQ R (a8 (a8 C.A (by have:=d.A;omega:bs<=w.heap.size)) i.A.size)));clear R;have g0:=b.A.g.cell 0;have t0:=b.A.t.cell 0;by_cases Y:n<l.length
 ·have d1:decide ((n:Int)<(l.length:Int))=true:=decide_eq_true an;have ec:decide (n<l.length)=true:=decide_eq_true Y;obtain⟨gq,off,rfl,eb,q0,q1,q2,q3⟩:=(cQ.A.keep i.A aq (λt H=>by cases H)).tk (bk _ _) Y;obtain⟨P,hP⟩:=aP (l[n].p);rw[hP] at q1;have a2:=b.A.a.cell 0;have aR:=b.A.a.frozen 0;have Z:=E (b.A.Ay d.A P);have X:=E (λa (j:aF a w) (h2:a.heap.size<=dN)=>(m.A a j h2).setCell (p:=(ab eA 0 M)) (by have:=d.A;show a.heap.size<=eA;omega) (J I P));clear hP q0 q2 q3;go_wp2;refine⟨rfl,_,rfl,bn #[],by simp[bz,results97,go_sem],rfl,rfl,⟨_,Z.A.f,Z.A.a,Z.A.e⟩,X.A⟩
 ·have d1:decide ((n:Int)<(l.length:Int))=false:=decide_eq_false an;have ec:decide (n<l.length)=false:=decide_eq_false Y;go_wp2;refine⟨rfl,_,rfl,bn #[],by simp[bz,results97,go_sem],rfl,rfl,⟨_,b.A.f,b.A.a,b.A.e⟩,m.A⟩
def am0 {bs dN eA eL b1:Nat}:CallsD aH 97 #[bl (ad (ab bs 0 M)),bl (ad (ab dN 0 M)),bl (ad (ab eA 0 M)),bl (ad (ab eL 0 M)),bl (ad (ab b1 0 M))] .returning w λe u' w'=>e=aQ (bn #[])/\u'= .returning/\w'=w:=by
 refine callsD_of_wpS func97 rfl λb cs a=>?_;refine amX au au a ?_;refine wpS_of_wp ?_;simp only[Act.put,ntmps97,lM,pY,nF,Nat.reduceAdd,Nat.reduceSub,Array.replicate_succ,Array.replicate_zero,List.push_toArray,List.append_toArray,List.nil_append,List.cons_append,List.setIfInBounds_toArray,List.set_cons_succ,List.set_cons_zero,FV];go_wp2;cases b;simp_all [bodyPostS,bz,results97]
variable {W:aB} {u:aE}
structure lG (W:aB) (k0 b1:Nat) (s:ByteArray) (vf a0 e0:aE) (ao:Option aX) (l:List Tok) (c:Nat):Prop where
 s:aI W k0 9 #[ap s]
 f:aI W (k0+1) 25 #[vf]
 a:aI W (k0+1+1) 3 #[a0]
 e:aI W (k0+1+1+1) 79 #[e0]
 t:aI W b1 170 #[O ao l.length c]
 o:k0+1+1+1<b1
section
variable {W W':aB} {k0 b1 b:Nat} {s:ByteArray} {vf a0 e0:aE} {ao:Option aX} {l:List Tok} {c:Nat}
def lG.al (h:lG W k0 b1 s vf a0 e0 ao l c) (Z:aS W.heap.size W W'):lG W' k0 b1 s vf a0 e0 ao l c:=⟨h.s.al Z h.s.lt,h.f.al Z h.f.lt,h.a.al Z h.a.lt,h.e.al Z h.e.lt,h.t.al Z h.t.lt,h.o⟩
def lG.gr (h:lG W k0 b1 s vf a0 e0 ao l c) (hg:W.grownBy W' (ad b)) (Z:b1<b):lG W' k0 b1 s vf a0 e0 ao l c:=⟨h.s.gr hg (ai h.o),h.f.gr hg (ai h.o),h.a.gr hg (ai h.o),h.e.gr hg (ai h.o),h.t.gr hg an,h.o⟩
def lG.A {o:Option Nat} (h:lG W k0 b1 s vf a0 e0 ao l c) (hg:W.grownBy W' o) (Z:∀g,o=ad g->b1<g):lG W' k0 b1 s vf a0 e0 ao l c:=have H:∀k t cs,k<=b1->aI W k t cs->aI W' k t cs:=λk t cs a hB=>hB.grown hg (λe=>by have:=Z k e.symm;omega);⟨H _ _ _ (ai h.o) h.s,H _ _ _ (ai h.o) h.f,H _ _ _ (ai h.o) h.a,H _ _ _ (ai h.o) h.e,H _ _ _ (aO _) h.t,h.o⟩
def lG.G1 (h:lG W k0 b1 s vf a0 e0 ao l c) (x:aE):lG (W.setCell ⟨k0+1,0,M⟩ x) k0 b1 s x a0 e0 ao l c:=⟨h.s.bT (p:=⟨k0+1,0,M⟩) aqT _,h.f.put 0 _,h.a.bT (p:=⟨k0+1,0,M⟩) aqT _,h.e.bT (p:=⟨k0+1,0,M⟩) aqT _,h.t.bT (p:=⟨k0+1,0,M⟩) aqT _,h.o⟩
def lG.Ay (h:lG W k0 b1 s vf a0 e0 ao l c) (x:aE):lG (W.setCell ⟨k0+1+1,0,M⟩ x) k0 b1 s vf x e0 ao l c:=⟨h.s.bT (p:=⟨k0+1+1,0,M⟩) aqN _,h.f.bT (p:=⟨k0+1+1,0,M⟩) aqN _,h.a.put 0 _,h.e.bT (p:=⟨k0+1+1,0,M⟩) aqN _,h.t.bT (p:=⟨k0+1+1,0,M⟩) aqN _,h.o⟩
def lG.EK (h:lG W k0 b1 s vf a0 e0 ao l c) (x:aE):lG (W.setCell ⟨k0+1+1+1,0,M⟩ x) k0 b1 s vf a0 x ao l c:=⟨h.s.bT (p:=⟨k0+1+1+1,0,M⟩) aqK _,h.f.bT (p:=⟨k0+1+1+1,0,M⟩) aqK _,h.a.bT (p:=⟨k0+1+1+1,0,M⟩) aqK _,h.e.put 0 _,h.t.bT (p:=⟨k0+1+1+1,0,M⟩) aqK _,h.o⟩
end
structure Sn (r g:Nat) (W:aB) where
 aL:aB
 gr:W.heap.size<=aL.heap.size
 cH:r<W.heap.size->aL.heap[r]?=W.heap[r]?
 gz:g<W.heap.size->aL.heap[g]?=W.heap[g]?
instance (r g:Nat) (W:aB):Inhabited (Sn r g W):=⟨⟨W,aO _,λ_=>rfl,λ_=>rfl⟩⟩
def qM (r g:Nat) (w w':aB):Prop:=∃p:Sn r g w,w'=p.aL
def qM.trans {r:Nat} {a b c:aB} (h:qM r g a b) (k:qM r g b c):qM r g a c:=by
 obtain⟨p,rfl⟩:=h;obtain⟨q,rfl⟩:=k;exact⟨⟨q.aL,a8 p.gr q.gr,λd=>(q.cH (da d p.gr)).trans (p.cH d),λd=>(q.gz (da d p.gr)).trans (p.gz d)⟩,rfl⟩
def qM.of {r:Nat} {a b:aB} (h:aF a b):qM r g a b:=⟨⟨b,h.size,λc=>h.aC.block r c,λc=>h.aC.block g c⟩,rfl⟩
def qM.mk {r:Nat} {a b:aB} (hs:a.heap.size<=b.heap.size) (c:b.heap[r]?=a.heap[r]?) (h2:b.heap[g]?=a.heap[g]?):qM r g a b:=⟨⟨b,hs,λ_=>c,λ_=>h2⟩,rfl⟩
def Sn.c1 {r:Nat} (h:aI w r t cs) (i:Nat):∀p:Sn r g w,p.aL.cell? (ab r i M)=cs[i]?:=λp=>aI.cell (t:=t) ((p.cH h.lt).trans h) i
def Sn.c2 {r:Nat} (h:aI w g t cs) (i:Nat):∀p:Sn r g w,p.aL.cell? (ab g i M)=cs[i]?:=λp=>aI.cell (t:=t) ((p.gz h.lt).trans h) i
attribute [go_sem] qM
structure KO (a:aX) (W:aB) where
 aL:aB
 gr:W.heap.size<=aL.heap.size
 c:a.block<W.heap.size->aL.cell? a=W.cell? a
instance (a:aX) (W:aB):Inhabited (KO a W):=⟨⟨W,aO _,λ_=>rfl⟩⟩
def r8 (a:aX) (w w':aB):Prop:=∃p:KO a w,w'=p.aL
def r8.trans {r:aX} {a b c:aB} (h:r8 r a b) (k:r8 r b c):r8 r a c:=by
 obtain⟨p,rfl⟩:=h;obtain⟨q,rfl⟩:=k;exact⟨⟨q.aL,a8 p.gr q.gr,λd=>(q.c (da d p.gr)).trans (p.c d)⟩,rfl⟩
def r8.of {r:aX} {a b:aB} (h:aF a b):r8 r a b:=⟨⟨b,h.size,λc=>wK (h.aC.block r.block c)⟩,rfl⟩
def r8.mk {r:aX} {a b:aB} (hs:a.heap.size<=b.heap.size) (h:b.cell? r=a.cell? r):r8 r a b:=⟨⟨b,hs,λ_=>h⟩,rfl⟩
def KO.cell (h:aI w g t cs):∀p:KO (ab g i M) w,p.aL.cell? (ab g i M)=cs[i]?:=λp=>(p.c h.lt).trans (h.cell i)
attribute [go_sem] r8
def Ow.tk (h:Ow kM w B base v l):Ow kM w B' base v l:=by
 obtain⟨us,b,h2⟩:=h.A;refine⟨us,?_,h2⟩;clear h2 h;induction b with
 |nil=>exact .nil
 |cons h _ a=>exact .cons h a
def am1 {c:Nat} (h:Ow kM w B B (O ao l.length c) l) (hB:B'<=B) (b:Kt B' S w w') (d:kM.e∉S:=by decide):Rw kM w' B' ao l.length l:=by
 obtain⟨A',c',e,f,_⟩:=(h.tk (B':=B')).vs.be;cases e;exact f.keep b d (λt a=>by cases a)
def Ut (h:(match u with|ap _=>true|_=>false)=false):∀(i:Nat) (z:ByteArray),(#[u]:Array aE)[i]?≠ad (ap z):=by
 intro i z e;rcases i with _|i
 ·simp at e;rw[e] at h;cases h
 ·simp at e
def am2:fG.e∉fG.bI:=aq
def am3:(aH.info? 43).map (λi=>(i.zero,i.size,i.bytes))=ad (ad (aY #[ap ⟨#[]⟩,J I 0,J I 0,O M 0 0]),4,56):=ar
def adr (w w':aB) (s:ByteArray) (e:Ending):Prop:=∃(v:aE) (F:List cC) (a k:Int),e=aQ (bn #[v,J I a,J I k])/\Vs fG w' 0 v F/\a6 ((k=0->jf F=true)/\∃(t:List Tok) (k0:Int),(Plain s->if k0=0 then mI s s.size t else∃i u,mI s i u/\i<s.size/\((gW s i).1=0\/u.length=65536))/\(k0=0->o5 t 0=true->t.length=13->F=[Ca t 0]/\k=0))
def am4 {b1 c:Nat} {s:ByteArray} {a0 e0:Int} (n:Nat) (k:Int) (p:a.defers=[{target:=.fn (.func 97) #[bl (ad (ab w.heap.size 0 M)),bl (ad ⟨w.heap.size+1,0,M⟩),bl (ad ⟨w.heap.size+1+1,0,M⟩),bl (ad ⟨w.heap.size+1+1+1,0,M⟩),bl (ad (ab b1 0 M))],args:=#[]}]) (h2:a.tmps.getD 2 cu=bl (ad ⟨w.heap.size+1,0,M⟩)) (d:a.tmps.getD 3 cu=bl (ad ⟨w.heap.size+1+1,0,M⟩)) (h4:a.tmps.getD 4 cu=bl (ad ⟨w.heap.size+1+1+1,0,M⟩)) (hF:lG W w.heap.size b1 s (O M 0 0) (J I a0) (J I e0) ao l c) (hB:aF w W) (g:Rw kM W w.heap.size ao l.length l) (o:l.length<=c/\c<=9223372036854775807) (m:∃(t:List Tok) (k0:Int),(Plain s->if k0=0 then mI s s.size t else∃i u,mI s i u/\i<s.size/\((gW s i).1=0\/u.length=65536))/\(k0=0->o5 t 0=true->t.length=13->False)):bodyPostD aH Tryz.f68 (λe w'=>adr w w' s e/\aF w w') (.panic [{v:=FV n k,recovered:=false}]) a W:=by
 rw[Array.getD_eq_getD_getElem?] at h2 d h4;show Leaves _ _ _ _ a.defers _ W;rw[p];refine leaves_cons (f:=97) (args:=#[bl (ad (ab w.heap.size 0 M)),bl (ad ⟨w.heap.size+1,0,M⟩),bl (ad ⟨w.heap.size+1+1,0,M⟩),bl (ad ⟨w.heap.size+1+1+1,0,M⟩),bl (ad (ab b1 0 M))]) av (by simp[go_sem]) ?_;refine(amY n k g (aO _) o hF.s hF.f hF.a hF.e hF.t ⟨an,an,an,hF.o⟩).mono ?_;rintro e u' W'⟨rfl,rfl,⟨z,q1,q2,j⟩,Z⟩;have g1:=q1.cell 0;have g2:=q2.cell 0;have g3:=j.cell 0;simp at g1 g2 g3;show Leaves _ _ _ _ [] .returning W';obtain⟨t,k0,q,h6⟩:=m;exact⟨bn #[O M 0 0,J I z,J I k],by simp[bz,results68,go_sem,h2,d,h4,g1,g2,g3],⟨_,[],z,k,rfl,Vs.bh _ _ _,E ⟨λ_=>M7,t,k0,q,λh a b=>(h6 h a b).elim⟩⟩,Z w hB an⟩
def am5 (s:ByteArray) (V:eK w) (hs:s.size<=1000000):aN aH 68 #[ap s] w λe w'=>adr w w' s e/\aF w w':=by
 have xN:∀(fn:Fn) (first cap:Array aE) (w:aB),(Instr.makeFunc fn first cap).run aH w= .ok (.func fn first cap) w:=λ_ _ _ _=>rfl;have wR:=E hs;have cY:=E V;have dh:=((((aF.refl w).alloc (aD #[ap s] 9)).alloc (aD #[O M 0 0] 25)).alloc (aD #[J I 0] 3)).alloc (aD #[J I 0] 79);have q1:=((aI.new w 9 #[ap s]).alloc (aD #[O M 0 0] 25)).alloc (aD #[J I 0] 3)|>.alloc (aD #[J I 0] 79);have q2:=((aI.new (w.alloc (aD #[ap s] 9)) 25 #[O M 0 0]).alloc (aD #[J I 0] 3)).alloc (aD #[J I 0] 79);have q3:=(aI.new ((w.alloc (aD #[ap s] 9)).alloc (aD #[O M 0 0] 25)) 3 #[J I 0]).alloc (aD #[J I 0] 79);have q4:=aI.new (((w.alloc (aD #[ap s] 9)).alloc (aD #[O M 0 0] 25)).alloc (aD #[J I 0] 3)) 79 #[J I 0];obtain⟨W4,qL⟩:=aP ((((w.alloc (aD #[ap s] 9)).alloc (aD #[O M 0 0] 25)).alloc (aD #[J I 0] 3)).alloc (aD #[J I 0] 79));have Qp:W4.heap.size=w.heap.size+1+1+1+1:=by rw[<-qL];simp
 rw[qL] at dh q1 q2 q3 q4;simp only[eO] at q2 q3 q4;have OA:=E q1;have mL:=E q2;have xx:=E q3;have vK:=E q4;have b3:=E dh;have Uu:=E Qp;have R4:=E qL;have aM:=ajt s W4 hs;clear hs V q1 q2 q3 q4 dh Qp qL;go_enter_defers func68,ntmps68;go_wp2_with fail;rw[R4.A];refine aM.mono ?_;rintro e wz⟨⟨v,l,n,k,rfl,hO,bj,mJ,qq⟩,Z⟩;have HO:=E hO;obtain⟨ao,c,rfl,qg⟩:=hO.vs.len_;have zt:=E (iC bj (iC mJ qq));have Uv:=E qg;have tA:=E (show lG (wz.alloc (aD #[O ao l.length c] 170)) w.heap.size wz.heap.size s (O M 0 0) (J I 0) (J I 0) ao l c from have hx:=Z.aC.alloc (a8 (aO _) Z.aC.size) (aD #[O ao l.length c] 170);⟨OA.A.al hx OA.A.lt,mL.A.al hx mL.A.lt,xx.A.al hx xx.A.lt,vK.A.al hx vK.A.lt,aI.new wz 170 _,aj Z.size Uu.A⟩);have u:=E ((b3.A.trans Z).alloc (aD #[O ao l.length c] 170));clear aM hO bj mJ qq qg OA mL xx vK;have z3:=tA.A.a.cell 0;have z4:=tA.A.e.cell 0;have f3:=tA.A.a.frozen 0;have f4:=tA.A.e.frozen 0;obtain⟨at_,iD⟩:=aP ((n:Int):Int);have TJ:=E iD;simp only[iD];clear iD;have d:=E ((tA.A.Ay (J I at_)).EK (J I k));have CO:=E ((u.A.setCell (p:=⟨w.heap.size+1+1,0,M⟩) aqf (J I at_)).setCell (p:=⟨w.heap.size+1+1+1,0,M⟩) aqi (J I k));have cQ:=E (am1 HO.A (by have:=Uu.A;omega:w.heap.size<=W4.heap.size) ((((Kt.refl w.heap.size [3,79] wz).alloc (ak u.A.size Uu.A Z.size) (aD #[O ao l.length c] 170)).setCell (g:=w.heap.size+1+1) (o:=0) an (bp.bO tA.A.a) av (J I at_)).setCell (g:=w.heap.size+1+1+1) (o:=0) an (bp.bO (tA.A.Ay (J I at_)).e) av (J I k)));have gu:=E (show w.heap.size+1+1+1<wz.heap.size from tA.A.o);have xE:=E Z.size;clear u HO Z;by_cases hk:k=0;case neg=>
  have jv:(k !=0)=true:=aqk;have HK:=E hk;clear hk cQ;go_wp2_with fail;clear z3 z4 f3 f4 tA;generalize(((wz.alloc (aD #[O ao l.length c] 170)).setCell ⟨w.heap.size+1+1,0,M⟩ (J I at_)).setCell ⟨w.heap.size+1+1+1,0,M⟩ (J I k))=N at d CO⊢;have u:=CO;clear CO;generalize wz.heap.size=b1 at d gu xE⊢;have p0:=Sn.c1 (r:=w.heap.size+1+1) (g:=w.heap.size+1+1+1) d.A.a 0;have p1:=Sn.c2 (r:=w.heap.size+1+1) (g:=w.heap.size+1+1+1) d.A.e 0;simp at p0 p1;refine Ix ?_;refine wa aF (qM (w.heap.size+1+1) (w.heap.size+1+1+1)) aF.refl aF.trans qM.trans qM.of (.p 0 (.p 1 (.s 2 (.s 3 (.s 4 .nil))))) (aF.drew _) ?_;refine bP ?_;clear p0 p1;refine S6.s ?_;rintro _⟨b,rfl⟩ KK aJ;go_simp;have S:=E (d.A.al b.aC);have z:=S.A.f.cell 0;have U:=S.A.f.frozen 0;go_simp;have L:=E (u.A.trans b.r);refine aJ _ _ (qM.mk aqY (((S.A.G1 _).a).trans S.A.a.symm) (((S.A.G1 _).e).trans S.A.e.symm)) ?_;clear aJ KK z U;replace d:=E (S.A.G1 (O M 0 0));replace u:=E (L.A.setCell (p:=⟨w.heap.size+1,0,M⟩) aqC (O M 0 0));clear S L;generalize b.aL.setCell ⟨w.heap.size+1,0,M⟩ (O M 0 0)=N at d u⊢;clear b;refine S6.s ?_;rintro _⟨b,rfl⟩ KK aJ;go_simp;have R:=E (d.A.al b.aC);have z:=R.A.a.cell 0;have U:=R.A.a.frozen 0;go_simp;have L:=E (u.A.trans b.r);refine aJ _ _ (qM.mk aqY (((R.A.Ay _).a).trans R.A.a.symm) (((R.A.Ay _).e).trans R.A.e.symm)) ?_;clear aJ KK z U;replace d:=E (R.A.Ay (J I at_));replace u:=E (L.A.setCell (p:=⟨w.heap.size+1+1,0,M⟩) aqf (J I at_));clear R L;generalize b.aL.setCell ⟨w.heap.size+1+1,0,M⟩ (J I at_)=W1 at d u⊢;clear b;refine S6.s ?_;rintro _⟨b,rfl⟩ KK aJ;go_simp;have T:=E (d.A.al b.aC);have z:=T.A.e.cell 0;have U:=T.A.e.frozen 0;go_simp;have L:=E (u.A.trans b.r);refine aJ _ _ (qM.mk aqY (((T.A.EK _).a).trans T.A.a.symm) (((T.A.EK _).e).trans T.A.e.symm)) ?_;clear aJ KK z U;replace d:=E (T.A.EK (J I k));replace u:=E (L.A.setCell (p:=⟨w.heap.size+1+1+1,0,M⟩) aqi (J I k));clear T L;generalize b.aL.setCell ⟨w.heap.size+1+1+1,0,M⟩ (J I k)=W2 at d u⊢;clear b;refine S6.nb λwq H=>?_;replace d:=E (d.A.al H);replace u:=E (u.A.next H);clear H;have g0:=d.A.f.cell 0;have g1:=d.A.a.cell 0;have g2:=d.A.e.cell 0;simp at g0 g1 g2;have ci:=‹∀(a:bb) (w:aB),Code.wp aH Code.ret _ a w->_›;refine ci _ _ ?_;clear ci;go_wp2;exact⟨bn #[O M 0 0,J I at_,J I k],by simp[bz,results68,go_sem,g0,g1,g2],⟨_,[],at_,k,rfl,Vs.bh _ _ _,E ⟨λ_=>M7,l,k,zt.A.2.2,λh=>absurd h HK.A⟩⟩,u.A⟩
 subst hk;have z5:=d.A.t.cell 0;obtain⟨N,EL⟩:=aP ((((wz.alloc (aD #[O ao l.length c] 170)).setCell ⟨w.heap.size+1+1,0,M⟩ (J I at_)).setCell ⟨w.heap.size+1+1+1,0,M⟩ (J I 0)));have JT:=E EL;have aW:N.heap.size=wz.heap.size+1:=by rw[<-EL];simp[eB]
 rw[EL] at d CO cQ;clear EL;have nw:=(aF.refl N).alloc (aD #[O ao l.length c,J I 0,O M 0 0] 179);have G:=E (show fC N (N.alloc (aD #[O ao l.length c,J I 0,O M 0 0] 179)) w.heap.size N.heap.size c 0 ao l [] (M,0) from⟨nw,aO _,cQ.A,aI.new N 179 _,Uv.A,bV _,Ow.bh _ _ _ _⟩);replace d:=E (d.A.al nw.aC);have u:=E (CO.A.next nw.aC);have Ei:=E (cY.A.rel CO.A);have G2:=E aW;have qn:=E (show∀t∈l,t.s.size<=1000000 fromλt ht=>a8 (zt.A.1 t ht).2.2 wR.A);have a3:=E CO.A.size;have a2:=cQ;clear CO tA aW nw;rw[G2.A] at G;go_wp2_with fail;generalize wz.heap.size=b1 at G d gu xE G2⊢;have ed:=E (show([]:List cC).length<=16/\cI ([]:List cC).length (nY [])=true from⟨aq,aq⟩);have lB:=E (show o5 l 0=true->l.length=13->((([]:List cC)=[]/\0=0)\/(([]:List cC)=[Ca l 0]/\0=13)) fromλ_ _=>.inl ⟨rfl,rfl⟩);go_loopw [] (λwr=>∃(j:Nat) (F:List cC) (q:Option aX×Nat),a6 (fC N wr w.heap.size (b1+1) c j ao l F q)/\a6 (lG wr w.heap.size b1 s (O M 0 0) (J I at_) (J I 0) ao l c)/\a6 (aF w wr)/\a6 (F.length<=16/\cI F.length (nY F)=true)/\a6 (o5 l 0=true->l.length=13->((F=[]/\j=0)\/(F=[Ca l 0]/\j=13)))) (λwr=>match wr.cell? ⟨b1+1,2,M⟩ with|some (O _ n _)=>17-n|_=>0);case atStart=>exact⟨0,[],(M,0),by rw[JT.A];exact G,by rw[JT.A];exact d,by rw[JT.A];exact u,ed,lB⟩
 case round=>
  clear G d u ed lB;obtain⟨j,F,q,G,d,u,fH,fK⟩:=hrel;have y1:=ba.cells G.A.box 1;have t0:=ba.cells d.A.t 0;have o4:=G;by_cases aK:j<l.length
  ·have d1:decide ((j:Int)<(l.length:Int))=true:=decide_eq_true an;have ec:decide (j<l.length)=true:=decide_eq_true aK;have aR:=E aK;clear aK;go_wp2_with fail;refine Ix ?_;refine du (cU 0 7 []) [] ?_;refine dY ?_;refine S4.nb λwq H=>?_;refine dP ?_;have ci:=‹∀(a:bb) (w:aB),Code.wp aH (Code.cond _ _ _) _ a w->_›;refine ci _ _ ?_;clear ci;replace G:=E (G.A.al H);replace d:=E (d.A.al H);replace u:=E (u.A.next H);clear H y1 t0 d1 ec;have zK:=E (λp:ba wq=>akJ Ei.A qn.A zt.A.2.1 (G.A.al p.aC));have p2:=KO.cell (i:=2) G.A.box;simp at p2;go_wp2_with fail;refine akB (D:=[{target:=.fn (.func 97) #[bl (ad (ab w.heap.size 0 M)),bl (ad ⟨w.heap.size+1,0,M⟩),bl (ad ⟨w.heap.size+1+1,0,M⟩),bl (ad ⟨w.heap.size+1+1+1,0,M⟩),bl (ad (ab b1 0 M))],args:=#[]}]) (ps:=[(2,bl (ad ⟨w.heap.size+1,0,M⟩)),(3,bl (ad ⟨w.heap.size+1+1,0,M⟩)),(4,bl (ad ⟨w.heap.size+1+1+1,0,M⟩))]) (Pp:=λc' W=>∃n k,c'=[{v:=FV n k,recovered:=false}]/\lG W w.heap.size b1 s (O M 0 0) (J I at_) (J I 0) ao l c/\aF w W/\aF N W/\(o5 l 0=true->l.length=13->False)) ?_ ?_
   ·rintro c' a W hd hp⟨n,k,rfl,h1,h2,Y,h4⟩;exact am4 n k hd (hp (2,_) av) (hp (3,_) av) (hp (4,_) av) h1 h2 (a2.A.al Y.aC) Uv.A ⟨l,0,zt.A.2.2,λ_=>h4⟩
   refine aa7 aF (r8 ⟨b1+1,2,M⟩) aF.refl aF.trans r8.trans r8.of (.r 0 (.r 1 (.r 2 (.r 3 (.p 4 (.r 5 (.s 6 (.c 7 (.s 8 (.r 9 (.r 10 (.z 11 .nil)))))))))))) (aF.drew _) ?_;refine bP ?_;refine S6.s ?_;rintro _⟨b,rfl⟩ KK aJ;go_simp;refine(zK.A b).mono ?_;replace G:=E (G.A.al b.aC);replace d:=E (d.A.al b.aC);replace u:=E (u.A.trans b.r);rintro e wd (⟨v',X,j2,rfl,hv,bj,hR,V⟩|⟨hk,⟨n,m,rfl⟩,V⟩);case inr=>
    have bW:=u.A.cD V (aj xE.A gu.A);exact⟨⟨n,m,rfl⟩,d.A.gr V (Nat.lt_succ_self _),bW,G.A.b0.cD V G.A.Z,λh1 h2=>by
     rcases fK.A h1 h2 with⟨Y,h4⟩|⟨Y,h4⟩
     ·rw[h4] at hk;exact hk.A Y h1
     ·have:=aR.A;omega⟩
   have dv:=E bj.A;have HV:=E hv;obtain⟨A3,c3,rfl,ea,fz⟩:=hv.be;have bm:=E (hR.box.cell 2);have Az:wd.cell? ⟨b1+1,2,M⟩=b.aL.cell? ⟨b1+1,2,M⟩:=bm.A.trans (G.A.box.cell 2).symm;refine aJ _ _ (r8.mk V.size Az) ?_;replace G:=E hR;replace d:=E (d.A.gr V (Nat.lt_succ_self _));replace u:=E (u.A.cD V (aj xE.A gu.A));clear aJ KK zK p2 bj hR V hv b Az bm;refine S6.c ?_;rintro _⟨b,rfl⟩ KK aJ;go_simp;refine aJ _ _ ((aF.refl _).alloc _) ?_;clear aJ KK;have pX:=(b.r).alloc (aD #[ap X.n,J I X.br,J I X.off,O A3 X.R.length c3] 43);replace G:=E (G.A.al pX.aC);replace d:=E (d.A.al pX.aC);replace u:=E (u.A.trans pX);have fB:=E (aI.new b.aL 43 #[ap X.n,J I X.br,J I X.off,O A3 X.R.length c3]);have rV:=E (show fG.rel _ 0 X [ap X.n,J I X.br,J I X.off,O A3 X.R.length c3] from(by obtain⟨cs,e,hr⟩:=HV.A.al pX.aC;cases(Array.toList_inj.2 (Value.agg.inj e):[ap X.n,J I X.br,J I X.off,O A3 X.R.length c3]=cs);exact hr));clear HV ea fz pX;obtain⟨g8,rW⟩:∃g8,a6 (b.aL.heap.size=g8):=⟨_,E rfl⟩;simp only[rW.A] at fB⊢;generalize b.aL.alloc (aD #[ap X.n,J I X.br,J I X.off,O A3 X.R.length c3] 43)=W7 at G d u fB rV⊢;clear b rW;refine S6.s ?_;rintro _⟨b,rfl⟩ KK aJ;replace G:=E (G.A.al b.aC);replace d:=E (d.A.al b.aC);replace u:=E (u.A.trans b.r);have JV:=E (fG.al rV.A b.aC);have we:=E (aI.src (us:=[ap X.n,J I X.br,J I X.off,O A3 X.R.length c3]) (n:=1*fG.k) (fB.A.al b.aC fB.A.lt) rfl);refine E8 fG au (.tmp 32) (.tmp 35) 25 au N.heap.size 56 _ ar am3 au 0 _ F au G.A.lD (ad (ab g8 0 M)) 1 1 [X] [ap X.n,J I X.br,J I X.off,O A3 X.R.length c3] au (Rs.single JV.A) rfl (g8+1) we.A (by have:=dv.A.2.1;simp only[bK];omega) (ai dv.A.2.1) G.A.b0.size (bV _) am2 ?_;intro v' w9 bC bG cx;obtain⟨An,tg,mM,_⟩:=bC.shape;subst mM;obtain⟨n9,mN⟩:=aP ((F++[X]).length);have rK:=E mN;have sF:=E bC;have yi:=E (cx.eP G.A.box aq);have fc:=λx e=>(G.A.lD.row x e).1;have KP:=E (G.A.b0.grown G.A.lD (aO _) bG);replace d:=E (d.A.A bG (λx e=>by have:=fc x e;have:=G2.A;omega));replace u:=E (u.A.grown G.A.lD (by have:=a3.A;exact this) bG);have Az:w9.cell? ⟨b1+1,2,M⟩=b.aL.cell? ⟨b1+1,2,M⟩:=(yi.A.cell 2).trans (G.A.box.cell 2).symm;simp only[mN];refine aJ _ _ (r8.mk bG.size Az) ?_;have Nf:=E G.A.le;clear aJ KK mN bC bG cx JV we fB rV G b Az fc;refine bP ?_;refine S6.z ?_;rintro _⟨b,rfl⟩ KK aJ;go_simp;replace yi:=E (yi.A.al b.aC yi.A.lt);replace sF:=E (sF.A.al b.aC);replace KP:=E (KP.A.trans b.r);replace d:=E (d.A.al b.aC);replace u:=E (u.A.trans b.r);have n2:=yi.A.cell 2;have f2:=yi.A.frozen 2;go_simp;refine aJ _ _ ?_;have iP:=bX (o:=2) yi.A.lt (O An n9 tg);have G:=E (show fC N (b.aL.setCell ⟨b1+1,2,M⟩ (O An n9 tg)) w.heap.size (b1+1) c j2 ao l (F++[X]) (An,tg) from⟨KP.A.cD iP (ai G2.A),ai G2.A,a2.A,by rw[rK.A];exact yi.A.put 2 (O An n9 tg),Uv.A,Nf.A,by rw[rK.A];have ho:=sF.A;rw[rK.A] at ho;exact ho.keep (((Kt.refl N.heap.size [179] b.aL).grown iP KP.A.size (λx e=>by cases e;exact⟨ai G2.A,bp.bO yi.A⟩) (bD.2 rfl)).dJ (bV _)) aq aq⟩);replace d:=E (d.A.gr iP (Nat.lt_succ_self _));replace u:=E (u.A.cD iP (aj xE.A gu.A));clear aJ KK n2 f2 iP yi sF KP;generalize b.aL.setCell ⟨b1+1,2,M⟩ (O An n9 tg)=W8 at G d u⊢;clear b;refine S6.nb λwq H=>?_;replace G:=E (G.A.al H);replace d:=E (d.A.al H);replace u:=E (u.A.next H);have JW:=E (show(F++[X]).length<=16/\cI (F++[X]).length (nY (F++[X]))=true from⟨by rw[b2,p8];have:=dv.A.2.1;omega,akF fH.A.2 dv.A.1 dv.A.2.2.1⟩);have SO:=E (show o5 l 0=true->l.length=13->((F++[X]=[]/\j2=0)\/(F++[X]=[Ca l 0]/\j2=13)) fromλh1 h2=>by
    rcases fK.A h1 h2 with⟨Y,h4⟩|⟨Y,h4⟩
    ·obtain⟨h5,h6⟩:=dv.A.2.2.2 Y (by rw[h4];exact h1);exact .inr ⟨by rw[Y,h5,h4];rfl,by rw[h6,h4]⟩
    ·exfalso;have:=aR.A;omega)
   go_wp2;go_roundw;case rel=>exact⟨_,_,_,_,_,_,_,_,_,_,_,_,_,_,_,_,_,_,⟨j2,F++[X],(An,tg),G,d,u,JW,SO⟩,au⟩
   case measure=>
    have m1:=o4.A.box.cell 2;have m2:=G.A.box.cell 2;have:=JW.A.1;simp at m1 m2 this;simp[m1,m2];omega
  ·obtain rfl:j=l.length:=by have:=G.A.le;omega
   have d1:decide ((l.length:Int)<(l.length:Int))=false:=decide_eq_false an;have ec:decide (l.length<l.length)=false:=decide_eq_false an;clear aK;go_wp2_with fail;refine Ix ?_;refine du (cU 0 7 []) [] ?_;refine dY ?_;refine S4.nb λwq H=>?_;refine dP ?_;have ci:=‹∀(a:bb) (w:aB),Code.wp aH (Code.cond _ _ _) _ a w->_›;refine ci _ _ ?_;clear ci;replace G:=E (G.A.al H);replace d:=E (d.A.al H);replace u:=E (u.A.next H);clear H y1 t0 d1 ec;have y2:=ba.cells G.A.box 2;have s0:=Sm.cells d.A.s 0;simp at s0;have K:=E G.A.lD.vs;have dt:=E G.A.b0.size;go_wp2_with fail;refine Ix ?_;refine wa aF (fg w.heap.size) aF.refl aF.trans fg.trans fg.of (.r 0 (.r 1 (.r 2 (.q 3 (.p 4 (.r 5 (.s 6 (.s 7 (.s 8 .nil))))))))) (aF.drew _) ?_;refine bP ?_;clear y2 s0;refine S6.s ?_;rintro _⟨b,rfl⟩ KK aJ;go_simp;have S:=E (d.A.al b.aC);replace K:=E (K.A.al b.aC);have z:=S.A.f.cell 0;have U:=S.A.f.frozen 0;go_simp;have L:=E (u.A.trans b.r);refine aJ _ _ (fg.gr (bX S.A.f.lt _) an) ?_;clear aJ KK z U;replace d:=E (S.A.G1 (O q.1 F.length q.2));replace K:=E ((k7.set S.A.f (Ut rfl) 0 (O q.1 F.length q.2)).gr K.A);replace u:=E (L.A.setCell (p:=⟨w.heap.size+1,0,M⟩) aqC (O q.1 F.length q.2));clear S L;replace dt:=E (show N.heap.size<=(b.aL.setCell ⟨w.heap.size+1,0,M⟩ (O q.1 F.length q.2)).heap.size by have:=a8 dt.A b.r.size;simpa[eB] using this);generalize b.aL.setCell ⟨w.heap.size+1,0,M⟩ (O q.1 F.length q.2)=V0 at d u K dt⊢;clear b;refine S6.s ?_;rintro _⟨b,rfl⟩ KK aJ;go_simp;have R:=E (d.A.al b.aC);replace K:=E (K.A.al b.aC);have z:=R.A.a.cell 0;have U:=R.A.a.frozen 0;go_simp;have L:=E (u.A.trans b.r);refine aJ _ _ (fg.gr (bX R.A.a.lt _) an) ?_;clear aJ KK z U;replace d:=E (R.A.Ay (J I s.size));replace K:=E ((k7.set R.A.a (Ut rfl) 0 (J I s.size)).gr K.A);replace u:=E (L.A.setCell (p:=⟨w.heap.size+1+1,0,M⟩) aqf (J I s.size));clear R L;replace dt:=E (show N.heap.size<=(b.aL.setCell ⟨w.heap.size+1+1,0,M⟩ (J I s.size)).heap.size by have:=a8 dt.A b.r.size;simpa[eB] using this);generalize b.aL.setCell ⟨w.heap.size+1+1,0,M⟩ (J I s.size)=V1 at d u K dt⊢;clear b;refine S6.s ?_;rintro _⟨b,rfl⟩ KK aJ;go_simp;have T:=E (d.A.al b.aC);replace K:=E (K.A.al b.aC);have z:=T.A.e.cell 0;have U:=T.A.e.frozen 0;go_simp;have L:=E (u.A.trans b.r);refine aJ _ _ (fg.gr (bX T.A.e.lt _) an) ?_;clear aJ KK z U;replace d:=E (T.A.EK (J I 0));replace K:=E ((k7.set T.A.e (Ut rfl) 0 (J I 0)).gr K.A);replace u:=E (L.A.setCell (p:=⟨w.heap.size+1+1+1,0,M⟩) aqi (J I 0));clear T L;replace dt:=E (show N.heap.size<=(b.aL.setCell ⟨w.heap.size+1+1+1,0,M⟩ (J I 0)).heap.size by have:=a8 dt.A b.r.size;simpa[eB] using this);generalize b.aL.setCell ⟨w.heap.size+1+1+1,0,M⟩ (J I 0)=V2 at d u K dt⊢;clear b;refine S6.nb λwq H=>?_;replace d:=E (d.A.al H);replace u:=E (u.A.next H);replace K:=E (K.A.al H);have a4:=E (a8 dt.A H.size);clear H;have g0:=d.A.f.cell 0;have g1:=d.A.a.cell 0;have g2:=d.A.e.cell 0;simp at g0 g1 g2;have ci:=‹∀(a:bb) (w:aB),Code.wp aH Code.ret _ a w->_›;refine ci _ _ ?_;clear ci;go_wp2;show Leaves _ _ _ _ [{target:=.fn (.func 97) #[bl (ad (ab w.heap.size 0 M)),bl (ad ⟨w.heap.size+1,0,M⟩),bl (ad ⟨w.heap.size+1+1,0,M⟩),bl (ad ⟨w.heap.size+1+1+1,0,M⟩),bl (ad (ab b1 0 M))],args:=#[]}] .returning _;refine leaves_cons (f:=97) (args:=#[bl (ad (ab w.heap.size 0 M)),bl (ad ⟨w.heap.size+1,0,M⟩),bl (ad ⟨w.heap.size+1+1,0,M⟩),bl (ad ⟨w.heap.size+1+1+1,0,M⟩),bl (ad (ab b1 0 M))]) av (by simp[go_sem]) ?_;refine(am0).mono ?_;rintro e u' W'⟨rfl,rfl,rfl⟩;show Leaves _ _ _ _ [] .returning _;exact⟨bn #[O q.1 F.length q.2,J I s.size,J I 0],by simp[bz,results68,go_sem,g0,g1,g2],⟨_,F,s.size,0,rfl,K.A,E ⟨λ_=>by unfold jf;rw[decide_eq_true fH.A.1,fH.A.2];rfl,l,0,zt.A.2.2,λ_ h1 h2=>⟨by
    rcases fK.A h1 h2 with⟨Y,h4⟩|⟨Y,h4⟩
    ·omega
    ·exact Y,rfl⟩⟩⟩,u.A⟩
def ang (w':aB) (B:Nat) (e:Ending):Except Nat (Int×List UInt8)->Prop
 |.ok (t,r)=>∃A2 n2 c2,e=aQ (bn #[J I t,O A2 n2 c2,J I 0])/\Bs w' B A2 n2 r/\n2<=c2/\c2<=9223372036854775807
 |.error c=>e=aQ (bn #[J I 0,O M 0 0,J I (c:Int)])
def anh (B:Nat) (ao:Option aX) (n cap:Nat) (l:List UInt8) (w:aB) (dI:B<=w.heap.size) (hn:n<=9223372036854775807) (cB:n<=cap) (a:cap<=9223372036854775807) (Z:Bs w B ao n l):aN aH 215 #[O ao n cap] w λe w'=>ang w' B e (sj l)/\aS w.heap.size w w':=by
 refine(afH ao n cap l _ hn cB a (Z.bt dI)).ah ?_;rintro e b⟨rfl,aW⟩;refine⟨?_,aW⟩;unfold sj;cases hu:e9 l with
 |error c=>rfl
 |ok q=>
  exact YH
def noS:aE->Bool
 |ap _=>false
 |_=>true
def Sr (w:aB) (g B:Nat):RS->Prop
 |.ok l=>∃ao n c,aI w g 213 #[O ao n c,J I 0]/\Bs w B ao n l/\n<=c/\c<=9223372036854775807
 |.error c=>1<=c/\∃v,aI w g 213 #[v,J I (c:Int)]/\noS v=true
def Sr.eP {st:RS} (h:Sr w g B st):∃v c,aI w g 213 #[v,J I (c:Int)]/\noS v=true:=by
 cases st with
 |error c=>obtain⟨_,v,a,h2⟩:=h;exact⟨_,_,a,h2⟩
 |ok l=>obtain⟨ao,n,c,a,_⟩:=h;exact⟨_,0,a,rfl⟩
def Sr.lt {st:RS} (h:Sr w g B st):g<w.heap.size:=by
 obtain⟨v,c,h,_⟩:=h.eP;exact h.lt
def Sr.grown {st:RS} {row:Option Nat} (h:Sr w g B st) (hg:w.grownBy w' row) (b:ad g≠row) (d:∀k,row=ad k->B<=k) (hB:B<=w.heap.size):Sr w' g B st:=by
 cases st with
 |error c=>obtain⟨h0,v,a,h2⟩:=h;exact⟨h0,v,a.grown hg b,h2⟩
 |ok l=>obtain⟨ao,n,c,a,h2,e⟩:=h;exact⟨ao,n,c,a.grown hg b,⟨h2.len,h2.sl.grown hg hB d⟩,e⟩
def Sr.al {st:RS} (h:Sr w g B st) (hB:B<=w.heap.size) (Z:aS w.heap.size w w'):Sr w' g B st:=h.grown (xl Z M) av (λk e=>by cases e) hB
def Hc (g B:Nat) (st:RS) (c:Nat) (w:aB) (m:B<=g) (b:1<=c) (h:Sr w g B st):aN aH 168 #[bl (ad (ab g 0 M)),J I (c:Int)] w λe w'=>e=aQ (bn #[])/\Sr w' g B (sW c st)/\w.grownBy w' (ad g):=by
 cases st with
 |error e0=>
  obtain⟨i,v,Z,hv⟩:=h;have d:((e0:Int)==0)=false:=beq_eq_false_iff_ne.2 an;have j:=Z.cell 1;have a:=E Z;clear Z;go_enter func168,ntmps168;go_wp2;refine⟨rfl,bn #[],by simp[bz,results168,go_sem],rfl,⟨i,v,a.A,hv⟩,EZ _ _⟩
 |ok l=>
  obtain⟨ao,n,cap,Z,f,k,o⟩:=h;have j:=Z.cell 1;have p:=Z.frozen 1;have a:=E Z;clear Z f;go_enter func168,ntmps168;go_wp2;refine⟨rfl,bn #[],by simp[bz,results168,go_sem],rfl,⟨b,O ao n cap,a.A.put 1 _,rfl⟩,bX a.A.lt _⟩
def ani {l:List UInt8} {c:Nat} (h:sj l= .error c):c≠0:=by
 unfold sj at h;cases a:e9 l with
 |error c'=>rw[a] at h;have:=wN a;simp at h;omega
 |ok q=>rw[a] at h;simp at h
theorem adB (h:P:=by
 clear ht;have aM:=Hc g B (.ok l) c w1 eN cB cM.A;go_wp2_with fail;refine aM.ah ?_;rintro e w2⟨rfl,b6,ck⟩;clear aM;go_wp2;refine bF (v:=J I 0) ary rfl ?_;rw[HE.A];exact⟨rfl,b6,bB kV.A ck⟩;):P:=h
theorem adC (h:P:=by
 obtain⟨cn,v,Z,hv⟩:=h;have d:((c:Int)!=0)=true:=aw;have OF:=Z.cell 1;have HB:=E Z;clear Z;go_enter func167,ntmps167;go_wp2;go_ret;exact⟨rfl,⟨cn,v,HB.A,hv⟩,EZ _ _⟩;):P:=h
theorem adD (h:P:=by
 rw[HE.A];exact⟨rfl,⟨A2,n2,c2,bR.A.put 0 _,⟨qm.A.len,qm.A.sl.setCell arz _⟩,eg,b4⟩,kV.A.set 0 _⟩;):P:=h
def CQ (g B:Nat) (st:RS) (w:aB) (eN:B<=g) (h:Sr w g B st):aN aH 167 #[bl (ad (ab g 0 M)),.func (.func 166) #[] #[]] w λe w'=>e=aQ (J I ((dc st).1:Int))/\Sr w' g B (dc st).2/\w.grownBy w' (ad g):=by
 have hg:=h.lt;cases st with
 |error c=>
  exact adC
 |ok l=>
  have y:=E h;obtain⟨ao,n,cap,Z,k,p,u⟩:=h;have z:=Z.cell;have HB:=E Z;clear Z;have s:=E k;clear k;have i:n<=9223372036854775807:=an;have m:B<=w.heap.size:=an;have o:=E m;go_enter func167,ntmps167;go_wp2_with fail;refine(YI B ao n cap l _ o.A i p u s.A).ah ?_;rintro e w1⟨a,f⟩;have cM:=E (y.A.al o.A f);have kV:=E (xl f (ad g));have b:=HB.A.al f hg;have D:=b.cell 0;have C:=b.frozen 0;have bR:=E b;clear b f m i;cases ht:e9 l with
  |error c=>
   rw[ht] at a;obtain rfl:=a;have cB:1<=c:=ai (wN ht);have d:((c:Int)!=0)=true:=aw;have HE:=E (show dc (.ok l)=(0,.error c) by simp only[dc,ht]);exact adB
  |ok q=>
   obtain⟨t,r⟩:=q;rw[ht] at a;obtain⟨A2,n2,c2,rfl,j,eg,b4⟩:=a;have HE:=E (show dc (.ok l)=(t,.ok r) by simp only[dc,ht]);clear ht;have qm:=E j;clear j;go_wp2;refine bF (v:=(J I (t:Int))) ary rfl ?_;exact adD
def adE (g B:Nat) (st:RS) (w:aB) (eN:B<=g) (h:Sr w g B st):aN aH 167 #[bl (ad (ab g 0 M)),.func (.func 215) #[] #[]] w λe w'=>e=aQ (J I (sU st).1)/\Sr w' g B (sU st).2/\w.grownBy w' (ad g):=by
 have hg:=h.lt;cases st with
 |error c=>
  exact adC
 |ok l=>
  have y:=E h;obtain⟨ao,n,cap,Z,k,p,u⟩:=h;have z:=Z.cell;have HB:=E Z;clear Z;have s:=E k;clear k;have i:n<=9223372036854775807:=an;have m:B<=w.heap.size:=an;have o:=E m;go_enter func167,ntmps167;go_wp2_with fail;refine(anh B ao n cap l _ o.A i p u s.A).ah ?_;rintro e w1⟨a,f⟩;have cM:=E (y.A.al o.A f);have kV:=E (xl f (ad g));have b:=HB.A.al f hg;have D:=b.cell 0;have C:=b.frozen 0;have bR:=E b;clear b f m i;cases ht:sj l with
  |error c=>
   rw[ht] at a;obtain rfl:=a;have cB:1<=c:=ai (ani ht);have d:((c:Int)!=0)=true:=aw;have HE:=E (show sU (.ok l)=(0,.error c) by simp only[sU,ht]);exact adB
  |ok q=>
   obtain⟨t,r⟩:=q;rw[ht] at a;obtain⟨A2,n2,c2,rfl,j,eg,b4⟩:=a;have HE:=E (show sU (.ok l)=(t,.ok r) by simp only[sU,ht]);clear ht;have qm:=E j;clear j;go_wp2;refine bF (v:=(J I t)) ary rfl ?_;exact adD
def adF (g B:Nat) (st:RS) (w:aB) (eN:B<=g) (h:Sr w g B st):aN aH 169 #[bl (ad (ab g 0 M)),.func (.func 170) #[] #[]] w λe w'=>e=aQ (ap ⟨(dZ st).1.toArray⟩)/\Sr w' g B (dZ st).2/\w.grownBy w' (ad g):=by
 have hg:=h.lt;cases st with
 |error c=>
  obtain⟨N,v,Z,hv⟩:=h;have d:((c:Int)!=0)=true:=aw;have Y:=Z.cell 1;have k:=E Z;clear Z;go_enter func169,ntmps169;go_wp2;go_ret;exact⟨rfl,⟨N,v,k.A,hv⟩,EZ _ _⟩
 |ok l=>
  have V:=E h;obtain⟨ao,n,cap,Z,u,I,L⟩:=h;have X:=Z.cell;have k:=E Z;clear Z;have K:=E u;clear u;have o:n<=9223372036854775807:=an;have y:B<=w.heap.size:=an;have C:=E y;go_enter func169,ntmps169;go_wp2_with fail;refine(VZ B ao n cap l _ C.A o I L K.A).ah ?_;rintro e F⟨b,i⟩;have Q:=E (V.A.al C.A i);have s:=E (xl i (ad g));have f:=k.A.al i hg;have I7:=f.cell 0;have I8:=f.frozen 0;have S:=E f;clear f i y o;cases a:kk l with
  |error c=>
   rw[a] at b;obtain rfl:=b;have R:1<=c:=ai (YF a);have d:((c:Int)!=0)=true:=aw;have j:=E (show dZ (.ok l)=([],.error c) by simp only[dZ,a]);clear a;have D:=Hc g B (.ok l) c F eN R Q.A;go_wp2_with fail;refine D.ah ?_;rintro e W⟨rfl,T,O⟩;clear D;go_wp2;refine bF (v:=ap ⟨#[]⟩) (by simp[bz,results169,go_sem]) rfl ?_;rw[j.A];exact⟨rfl,T,bB s.A O⟩
  |ok q=>
   obtain⟨t,r⟩:=q;rw[a] at b;obtain⟨A2,G,c2,rfl,p,J,U⟩:=b;have j:=E (show dZ (.ok l)=(t,.ok r) by simp only[dZ,a]);clear a;have m:=E p;clear p;generalize z:(⟨t.toArray⟩:ByteArray)=sst;have H:=E z;clear z;go_wp2;refine bF (v:=(ap sst)) (by simp[bz,results169,go_sem]) rfl ?_;rw[j.A];exact⟨by rw[H.A],⟨A2,G,c2,S.A.put 0 _,⟨m.A.len,m.A.sl.setCell arz _⟩,J,U⟩,s.A.set 0 _⟩
def anj (g B:Nat) (st:RS) (w:aB) (eN:B<=g) (h:Sr w g B st):aN aH 213 #[bl (ad (ab g 0 M)),.func (.func 214) #[] #[]] w λe w'=>(∃ao n c,e=aQ (O ao n c)/\Vs bE w' 0 (O ao n c) (kA st).1)/\Sr w' g B (kA st).2/\w.grownBy w' (ad g):=by
 have hg:=h.lt;cases st with
 |error c=>
  obtain⟨s,v,Z,hv⟩:=h;have d:((c:Int)!=0)=true:=aw;have OF:=Z.cell 1;have x:=E Z;clear Z;go_enter func213,ntmps213;go_wp2;go_ret;exact⟨⟨_,_,_,rfl,Vs.bh _ _ _⟩,⟨s,v,x.A,hv⟩,EZ _ _⟩
 |ok l=>
  have HS:=E h;obtain⟨ao,n,cap,Z,F,L,S⟩:=h;have fW:=Z.cell;have x:=E Z;clear Z;have R:=E F;clear F;have z:n<=9223372036854775807:=an;have G:B<=w.heap.size:=an;have J:=E G;go_enter func213,ntmps213;go_wp2_with fail;refine(ahR B ao n cap l _ J.A z L S R.A).ah ?_;rintro e k⟨b,j⟩;have U:=E (HS.A.al J.A j);have D:=E (xl j (ad g));have i:=x.A.al j hg;have I7:=i.cell 0;have I8:=i.frozen 0;have I:=E i;clear i j G z;cases a:uk l with
  |error c=>
   rw[a] at b;obtain⟨rfl,V⟩:=b;have d:((c:Int)!=0)=true:=aw;have u:=E (show kA (.ok l)=([],.error c) by simp only[kA,a]);clear a;have K:=Hc g B (.ok l) c k eN V U.A;go_wp2_with fail;refine K.ah ?_;rintro e w2⟨rfl,W,T⟩;clear K;go_wp2;refine bF (v:=O M 0 0) (by simp[bz,results213,go_sem]) rfl ?_;rw[u.A];exact⟨⟨_,_,_,rfl,Vs.bh _ _ _⟩,W,bB D.A T⟩
  |ok q=>
   obtain⟨t,r⟩:=q;rw[a] at b;obtain⟨A1,n1,c1,A2,C,c2,rfl,f,Q,s,_,A,N,X,⟨base,H⟩,m⟩:=b;have u:=E (show kA (.ok l)=(t,.ok r) by simp only[kA,a]);clear a;have y:=E A;have Y:=E ((show Vs bE k 0 (O A1 n1 c1) t from Ow.vs (base:=base) ⟨_,Rs.PO t (λp f=>⟨a8 (m p f).1 aq,a8 (m p f).2 aq⟩),H⟩).keep ((Kt.refl 0 [213] k).setCell (g:=g) (o:=0) (bV _) (bp.bO I.A) (bD.2 rfl) (O A2 C c2)) aq aq);clear H m;clear A f Q s;go_wp2;refine bF (v:=O A1 n1 c1) (by simp[bz,results213,go_sem]) rfl ?_;rw[u.A];exact⟨⟨_,_,_,rfl,Y.A⟩,⟨A2,C,c2,I.A.put 0 _,⟨y.A.len,y.A.sl.setCell arz _⟩,N,X⟩,D.A.set 0 _⟩
end Go.Proofs.YtbeaddlblpgppaaGreatDoor
