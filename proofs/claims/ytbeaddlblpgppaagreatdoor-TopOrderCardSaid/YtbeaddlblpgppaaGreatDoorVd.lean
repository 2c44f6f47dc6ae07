/- Part 4 of the proof of TopOrder (watchtowertop). Conditions: none. -/
import Derived.Test.YtbeaddlblpgppaaGreatDoorVc
import Derived.WalkMore
import Derived.Laws.RangeAny
import Derived.Lib.RuneCount
set_option maxRecDepth 100000
set_option maxHeartbeats 8000000
set_option linter.unusedVariables false
set_option linter.unusedSimpArgs false
set_option linter.defProp false
open Go.Lib renaming hid->E
open Go.IntKind renaming i64->I,wrap_i64->b7
open Go.Value renaming int->J,slice->O,string->ap,bool->aG,agg->aY,pointer->bl,tuple->bn
open Option renaming none->M,some->ad
open Go.Addr renaming mk->ab
open Go renaming World->aB,Value->aE,Calls->aN,Addr->aX,Act->bb,TypeId->bf,Oper->bv,results->bz,bodyPost_ret->bF,maxLen->bK,Program->cp,run_underlying->mf
open Go.Obj renaming cells->aD
open Go.Proofs.Tryz renaming prog->aH
open Nat renaming le_refl->aO,le_trans->a8,zero_le->bV,lt_of_lt_of_le->da,lt_or_ge->gy,zero_add->ig,eq_zero_or_pos->kJ,le_succ->mg,ne_of_lt->mW,ne_of_gt->sh
open Go.Ending renaming returned->aQ
open Go.RowKit renaming Below->aS,Hid->a6
open Go.RowKit.Below renaming refl->bk,heap_setCell->yv
open List renaming mem_singleton->bD,length_append->b2,getElem?_eq_getElem->cR,getD_eq_getElem?_getD->dd,getElem_mem->dl,mem_cons->ee,mem_map->hM,mem_append->kf,map_append->lK,size_toArray->lM,append_assoc->mV,mem_iff_getElem->qV,length->oz,drop_eq_getElem_cons->pf,length_cons->pY,length_map->p6,take_length->pZ,drop_length->qT,map_cons->sd,pairwise_map->sf,getElem?_map->tJ,mem_of_mem_drop->arC,pairwise_iff_getElem->yw
open Bool renaming and_eq_true->b9,false_eq_true->tL
open Go.World renaming setCell->eB,size_alloc->eO,cell?_of_block->wK
open Go.Op renaming bytesLess->ii
open And renaming intro->iC
open Exists renaming intro->lL
open Go.Instr renaming index->mX
open Go.Proofs.Tryz
namespace Go.Proofs.YtbeaddlblpgppaaGreatDoor
open Go.RowKit
variable {w:aB} {B k:Nat} {P:Prop} {v:aE}
open bw
section
open im (dT fe)
def Zl {x:cy} (h:nX w B v x):nX w B (if fY x=true then v else aY #[O M 0 0,J I 0]) (dQ x):=by
 unfold dQ;split
 ·exact h
 ·exact⟨_,rfl,Vs.bh _ _ _⟩
theorem Zm (h:P:=by
 exact(bm.setCell (p:=⟨w.heap.size+1,0,M⟩) aqC _).setCell (p:=⟨w.heap.size+1,1,M⟩) aqC _;):P:=h
def Zn {x:cy} (w:aB) (h:nX w B v x):aN aH 128 #[v] w λe w'=>e=aQ (if fY x=true then v else aY #[O M 0 0,J I 0])/\aF w w':=by
 obtain⟨u,e,d⟩:=h.A;obtain⟨ao,cap,rfl,_⟩:=d.be;subst e;have c:=E (((aF.refl w).alloc (aD #[O ao x.ao.length cap,J I x.full] 56)).alloc (aD #[O M 0 0,J I 0] 56));have HX:=E ((aI.new w 56 #[O ao x.ao.length cap,J I x.full]).alloc (aD #[O M 0 0,J I 0] 56));have b:=E (aI.new (w.alloc (aD #[O ao x.ao.length cap,J I x.full] 56)) 56 #[O M 0 0,J I 0]);have f:=E (QW _ (h.al c.A.aC));clear h d;generalize fY x=y at*;go_enter func128,ntmps128;go_wp2_with fail;refine f.A.ah ?_;rintro e i⟨rfl,Z⟩;have g:=HX.A.al Z.aC HX.A.lt;have a:=b.A.al Z.aC b.A.lt;simp only[eO] at a;have bm:=c.A.trans Z;clear Z HX b f c;have j:=g.cell;have⟨g2,k⟩:=a.cf;cases y
 ·go_wp2;have y:=(a.put 0 (O M 0 0)).put 1 (J I 0);have k0:=y.cell;refine bF (v:=aY #[(O M 0 0),(J I 0)]) (by simp[bz,results128,go_sem,k0]) rfl ⟨rfl,?_⟩;exact Zm
 ·go_wp2;have y:=(a.put 0 (O ao x.ao.length cap)).put 1 (J I x.full);have k0:=y.cell;refine bF (v:=aY #[(O ao x.ao.length cap),(J I x.full)]) (by simp[bz,results128,go_sem,k0]) rfl ⟨rfl,?_⟩;exact Zm
def Rq:(aH.info? 62).map (λi=>(i.zero,i.size,i.bytes))=ad (ad (aY #[O M 0 0,aG false,J I 0,aG false,J I 0,J I 0,J I 0]),7,72):=ar
def MF:dV.e∉dV.bI:=aq
def aiB (a b:aE) (w:aB):(Instr.field 56 (aY #[a,b]) 0).run aH w= .ok a w:=by
 unfold Instr.field;simp only[Sem.run_bind,mf underlying56,Result.andThen_ok];simp[asAgg,part,isAgg,mf underlying54]
def MG {l:List b8} (h:k<l.length):l[k]=⟨cX l k,dx l k,gl l k,oO l k⟩:=by unfold cX dx gl oO;rw[dr h]
def Rr {x:cy} (w:aB) (hB:B<=w.heap.size) (h:nX w B v x):aN aH 91 #[v] w λe w'=>(∃p,e=aQ p/\Ow dV w' B w.heap.size p (jO (dQ x).ao))/\aF w w':=by
 have F:=E (λm (Z:aS w.heap.size w m)=>Zn m (h.al Z));have D:=E (Zl h);have T:=E (show(dQ x).ao.length<=16 by
  unfold dQ;split
  ·rename_i h;unfold fY at h;simp at h;exact h.1.1
  ·exact bV _)
 obtain⟨u0,e0,N⟩:=h.A;obtain⟨A0,c0,rfl,_⟩:=N.be;subst e0;generalize h9:(if fY x=true then _ else _:aE)=jg at F D;clear h9;obtain⟨c,X⟩:=aP ((dQ x).ao);obtain⟨u,rfl,y⟩:=D.A.A;rw[X] at y T⊢;obtain⟨ao,cap,rfl,Q,hl,hc⟩:=y.be;have HP:=E Q;have V:=E (show jO c=c.filter (λa=>!decide (a.st=0)) from rfl);have di:=E hB;have cg:=T.A;generalize jO c=r at V⊢;generalize(dQ x).full=aiC at*;clear h N y Q hB X D;have A:=E ((aF.refl w).alloc (aD #[O A0 x.ao.length c0,J I x.full] 56));have oK:=aI.new w 56 #[O A0 x.ao.length c0,J I x.full];go_enter func91,ntmps91;go_wp2_with fail;refine(F.A _ A.A.aC).ah ?_;rintro e m⟨rfl,Z⟩;have bm:=E (A.A.trans Z);clear Z A oK F;have C:=λW=>aiB (O ao c.length cap) (J I aiC) W;go_wp2;clear C;go_loopw [3,10] (λa i wr=>∃(k:Nat) (aT:List b8),k<=c.length/\aT.length<=k/\i=J I k/\a6 (aT++(c.drop k).filter (λa=>!decide (a.st=0))=r)/\aF m wr/\Ow dV wr B m.heap.size a aT) (λ_ i _=>c.length-(intOf i).toNat);case atStart=>exact⟨0,[],an,aO _,rfl,E V.A.symm,aF.refl _,Ow.bh _ _ _ _⟩
 case round=>
  obtain⟨k,aT,hk,Iz,rfl,bj,dI,bc⟩:=hrel;by_cases o:k<c.length
  ·obtain⟨b,off,l,c3,rfl,cw,y0,L,K,H,G,y5,Y,U⟩:=HP.A.jP (bm.A.trans dI).aC o;have n:=E (P0 (λa:b8=>!decide (a.st=0)) o aT);rw[bj.A,MG o] at n;have aR:=E o;obtain⟨hd,s⟩:=aP (dx c k);obtain⟨d,z⟩:=aP (gl c k);obtain⟨f,q⟩:=aP (oO c k);rw[s,z,q] at n;rw[s] at L K H G;rw[z] at y5;rw[q] at Y;obtain⟨ho,hs,g,j⟩:=hd;clear s z q;dsimp only at L K H G;have R:=E (bc.alloc (aD #[O l (cX c k).length c3,aG ho,J I hs,aG g,J I j,J I d,J I f] 62));have S:=E (dI.alloc (aD #[O l (cX c k).length c3,aG ho,J I hs,aG g,J I j,J I d,J I f] 62));have ln:=E (U.al ((bk _ _).alloc (aO _) (aD #[O l (cX c k).length c3,aG ho,J I hs,aG g,J I j,J I d,J I f] 62)));clear bc dI U;by_cases c1:d=0
   ·have d1:(d !=0)=false:=by simp[c1]
    have HE:=E (show aT++(c.drop (k+1)).filter (λa=>!decide (a.st=0))=r by rw[n.A];simp[c1]);clear c1 n;go_wp2;go_roundw;case rel=>exact⟨k+1,aT,aR.A,an,by go_num,HE,S.A,R.A⟩
    case measure=>exact ax
   ·have d1:(d !=0)=true:=by simp[c1]
    have HE:=E (show(aT++[(⟨cX c k,⟨ho,hs,g,j⟩,d,f⟩:b8)])++(c.drop (k+1)).filter (λa=>!decide (a.st=0))=r by rw[n.A];simp[c1]);clear c1 n;have DK:=E (show Sl ((wr.alloc (aD #[O l (cX c k).length c3,aG ho,J I hs,aG g,J I j,J I d,J I f] 62)).alloc (aD #[O l (cX c k).length c3,aG ho,J I hs,aG g,J I j,J I d,J I f] 62)) (wr.heap.size+2) (ad ⟨wr.heap.size+1,0,M⟩) (1*dV.k) (λi=>([O l (cX c k).length c3,aG ho,J I hs,aG g,J I j,J I d,J I f]:List aE).getD i (aG false)) by
     have:=Sl.lit (wr.alloc (aD #[O l (cX c k).length c3,aG ho,J I hs,aG g,J I j,J I d,J I f] 62)) 62 [O l (cX c k).length c3,aG ho,J I hs,aG g,J I j,J I d,J I f] (1*dV.k) rfl;rw[eO] at this;exact this)
    have fp:=E (show Rs dV ((wr.alloc (aD #[O l (cX c k).length c3,aG ho,J I hs,aG g,J I j,J I d,J I f] 62)).alloc (aD #[O l (cX c k).length c3,aG ho,J I hs,aG g,J I j,J I d,J I f] 62)) B [⟨cX c k,⟨ho,hs,g,j⟩,d,f⟩] [O l (cX c k).length c3,aG ho,J I hs,aG g,J I j,J I d,J I f] from Rs.single ⟨_,rfl,ln.A.al ((bk _ _).alloc (aO _) _)⟩);have gH:=E (R.A.alloc (aD #[O l (cX c k).length c3,aG ho,J I hs,aG g,J I j,J I d,J I f] 62));have dw:=E (S.A.alloc (aD #[O l (cX c k).length c3,aG ho,J I hs,aG g,J I j,J I d,J I f] 62));have t:=E (show aT.length+1<=bK/\(aT.length+1)*72<=140737488355328/\m.heap.size<=((wr.alloc (aD #[O l (cX c k).length c3,aG ho,J I hs,aG g,J I j,J I d,J I f] 62)).alloc (aD #[O l (cX c k).length c3,aG ho,J I hs,aG g,J I j,J I d,J I f] 62)).heap.size from⟨aqv,an,dw.A.size⟩);have lr:=E (a8 di.A bm.A.size);go_wp2_with ((refine mZ dV au (.tmp 17) (.tmp 19) 54 au m.heap.size 72 _ ar Rq au B _ aT au gH.A (ad ⟨wr.heap.size+1,0,M⟩) 1 1 [⟨cX c k,⟨ho,hs,g,j⟩,d,f⟩] [O l (cX c k).length c3,aG ho,J I hs,aG g,J I j,J I d,J I f] au fp.A rfl (wr.heap.size+2) DK.A t.A.1 t.A.2.1 t.A.2.2 lr.A MF ?_;intro p w' bC kj eZ));exact X9
  ·obtain rfl:k=c.length:=by omega
   exact Ya
end
variable {ao:Option aX} {n:Nat} {L:aZ} {wr:aB} {aT:List cJ}
def uK:KK aH 9 aZ where
 law:=Go.Maps.string_keyed underlying9
 kv L:=.string (sM L)
 ok L:=bH L=true
 lit:=λL hs=>⟨.string (sM L).data.toList,by
  have h1:=S1 (Mj hs)
  have h2:=(nN.1 hs).1
  have h3:(sM L).size<=bK:=by
   show(iN L).toArray.size<=_
   rw[lM]
   simp only[bK]
   omega
  unfold keyOf
  rw[underlying9]
  simp[mapKey,underlying9,h3]⟩
 inj:=λa b ha Z h=>ahv ha Z (by injection h)
def zS (l:List cJ) (k:Nat):aZ:=(l.getD k default).L
def Ce (l:List cJ) (k:Nat):dC:=(l.getD k default).x
def NE {l:List cJ} (h:k<l.length):l[k]=⟨zS l k,Ce l k⟩:=by unfold zS Ce;rw[dr h]
def Rw.NF {l:List cJ} (h:Rw kN w B ao n l) (hB:aS w.heap.size w wr) {k:Nat} (a:k<l.length):∃b off A0 c0,ao=ad (ab b off M)/\b<w.heap.size/\wr.cell? ⟨b,off+k*3,M⟩=ad (O A0 (zS l k).length c0)/\wr.cell? ⟨b,off+k*3+1,M⟩=ad (J I (Ce l k).1)/\wr.cell? ⟨b,off+k*3+2,M⟩=ad (J I (Ce l k).2)/\Vs bE wr B (O A0 (zS l k).length c0) (zS l k):=by
 obtain⟨b,off,vs,e,Z,d,h2⟩:=h.aL hB a;rw[<-dr a] at d;obtain⟨v0,rfl,c⟩:=d;obtain⟨A0,c0,rfl,_⟩:=c.be;exact⟨b,off,A0,c0,e,Z,h2 0 _ rfl,h2 1 _ rfl,h2 2 _ rfl,c⟩
def ak0 (aT:List cJ) (f:cJ):it (aT++[f])=it aT++[(f.L,f)]:=by unfold it;rw[lK];rfl
def S3:gF (it aT) L=M↔L∉aT.map (·.L):=by
 unfold gF it;rw[Option.map_eq_none_iff,List.find?_eq_none];constructor
 ·intro h c;obtain⟨f,a,e⟩:=hM.1 c;exact h (f.L,f) (hM.2 ⟨f,a,rfl⟩) (am e)
 ·intro h x b e;obtain⟨f,a,rfl⟩:=hM.1 b;exact h (hM.2 ⟨f,a,am e⟩)
def ak1 {l:List cJ} (a:k<l.length) (aT:List cJ):(l.drop k).foldl pB aT=(l.drop (k+1)).foldl pB (pB aT l[k]):=by
 rw[pf a];rfl
def ak2 {l:List cJ} (w:aB) (hB:B<=w.heap.size) (h:Vs kN w B v l) (ce:l.length<=100000):aN aH 186 #[v] w λe w'=>(∃W r,e=aQ (bn #[W,.map (ad r)])/\Ow kN w' B w.heap.size W (lW l)/\Mt uK kN w' B r (it (lW l))/\w.heap.size<=r)/\aF w w':=by
 have HR:=E (show(l.drop 0).foldl pB []=lW l from rfl);generalize lW l=r at HR⊢;obtain⟨ao,cap,rfl,hR,hl,hc⟩:=h.be;have HP:=E hR;have di:=E hB;have bR:=E ((aF.refl w).alloc (.map #[] 0));have Y:=E (Mt.made uK kN w B);have ka:=run_makeMap (P:=aH) 280 w;clear h hR hB;go_enter func186,ntmps186;go_wp2;clear ka;obtain⟨R,F⟩:=aP w.heap.size;rw[F] at Y;simp only[F];have eo:=E F;clear F;go_loopw [4,14] (λa i wr=>∃(k:Nat) (aT:List cJ),k<=l.length/\i=J I k/\a6 (aT.length<=k/\(l.drop k).foldl pB aT=r)/\aF w wr/\Ow kN wr B w.heap.size a aT/\a6 (Mt uK kN wr B R (it aT))) (λ_ i _=>l.length-(intOf i).toNat);case atStart=>exact⟨0,[],an,rfl,E ⟨aO _,HR.A⟩,bR.A,Ow.bh _ _ _ _,Y⟩
 case round=>
  clear bR Y;obtain⟨k,aT,hk,rfl,K,L,bc,U⟩:=hrel;by_cases S:k<l.length
  ·obtain⟨b,off,d,c3,rfl,cw,y0,y1,y2,bZ⟩:=HP.A.NF L.aC S;have j:=E (ak1 S aT);rw[K.A.2,NE S] at j;have q:=E K.A.1;have aR:=E S;generalize zS l k=L3 at*;obtain⟨⟨c,x2⟩,hx⟩:∃x,Ce l k=x:=⟨_,rfl⟩;rw[hx] at j;simp only[hx] at y1 y2;clear hx K;have eS:=E (bc.alloc (aD #[O d L3.length c3,J I c,J I x2] 286));have e6:=E (L.alloc (aD #[O d L3.length c3,J I c,J I x2] 286));have S5:=E (U.A.alloc (aD #[O d L3.length c3,J I c,J I x2] 286));have t:=E (bZ.al ((bk _ _).alloc (aO _) (aD #[O d L3.length c3,J I c,J I x2] 286)));have HX:=E (aI.new wr 286 #[O d L3.length c3,J I c,J I x2]);have aM:=E (show R<wr.heap.size from U.A.lt);clear bc L bZ U;have m:=HX.A.cell 0;simp at m;by_cases c1:bH L3=true;case neg=>
    have d1:bH L3=false:=am c1;have g:=E (show(l.drop (k+1)).foldl pB aT=r by rw[j.A];unfold pB;rw[af (λh=>c1 h.1)]);clear c1 j;go_wp2_with fail;refine(MU _ t.A).ah ?_;rintro e w2⟨rfl,Z⟩;have H:=E (e6.A.trans Z);have D:=E (eS.A.al Z.aC);have u:=E (S5.A.al Z.aC);clear Z;rw[d1];go_wp2;go_roundw;case rel=>exact⟨k+1,aT,aR.A,by go_num,E ⟨Nat.le_succ_of_le q.A,g.A⟩,H.A,D.A,u⟩
    case measure=>exact ax
   go_wp2_with fail;refine(MU _ t.A).ah ?_;rintro e w2⟨rfl,Z⟩;have H:=E (e6.A.trans Z);have D:=E (eS.A.al Z.aC);have u:=E (S5.A.al Z.aC);have iJ:=E (t.A.al Z.aC);have G:=E (HX.A.al Z.aC HX.A.lt);clear Z e6 eS S5 t HX m;rw[c1];have m:=G.A.cell 0;simp at m;go_wp2_with fail;refine(S2 _ iJ.A c1).ah ?_;rintro e w3⟨rfl,Z⟩;have N:=E (H.A.trans Z);have s:=E (D.A.al Z.aC);have n:=E (u.A.al Z.aC);have D8:=E (iJ.A.al Z.aC);have l5:=E (G.A.al Z.aC G.A.lt);clear Z H D u iJ G m;have p:(ap (sM L3))=uK.kv L3:=rfl;have HC:=E c1;rcases n.A.look (a:=L3) c1 underlying280 (z:=aY #[O M 0 0,J I 0,J I 0]) ar true with⟨hn,fk⟩|⟨x,vx,hs,zT,fk⟩
   ·rw[<-p] at fk;simp only[if_true] at fk;have HN:=E hn;have g:=E (show(l.drop (k+1)).foldl pB (aT++[⟨L3,(c,x2)⟩])=r by rw[j.A];unfold pB;rw[ag ⟨c1,S3.1 hn⟩]);clear hn c1 p j;have Q:=E (N.A.alloc (aD #[O M 0 0,J I 0,J I 0] 286));have C:=E (s.A.alloc (aD #[O M 0 0,J I 0,J I 0] 286));have o:=E (n.A.alloc (aD #[O M 0 0,J I 0,J I 0] 286));have eH:=E (D8.A.al ((bk _ _).alloc (aO _) (aD #[O M 0 0,J I 0,J I 0] 286)));have DY:=l5.A.alloc (aD #[O M 0 0,J I 0,J I 0] 286);clear N s n D8;have eU:=E DY;have m:=DY.cell;obtain⟨w5,bS,X,V,oS⟩:=o.A.store (a:=L3) (x:=(⟨L3,(c,x2)⟩:cJ)) (v:=aY #[O d L3.length c3,J I c,J I x2]) HC.A underlying280 ⟨[O d L3.length c3,J I c,J I x2],rfl,⟨_,rfl,eH.A⟩⟩ (aj di.A eo.A) (λT=>o.A.lk T);have bS:(Instr.mapUpdate 280 (.map (ad R)) (ap (sM L3)) (aY #[O d L3.length c3,J I c,J I x2])).run aH (w3.alloc (aD #[O M 0 0,J I 0,J I 0] 286))= .ok () w5:=bS;have dw:=E (Q.A.cD V (ai eo.A));have gH:=E (C.A.keep oS av av);have je:=E (eH.A.keep oS av av);have jV:=E (eU.A.cD V (ai aM.A));rw[Ly (λe he IE=>by
     have:=S3.1 HN.A;unfold it at he;obtain⟨f,hf,rfl⟩:=hM.1 he;exact this (hM.2 ⟨f,hf,IE⟩)),show it aT++[(L3,(⟨L3,(c,x2)⟩:cJ))]=it (aT++[⟨L3,(c,x2)⟩]) from(ak0 aT ⟨L3,(c,x2)⟩).symm] at X
    have En:=E X;have h0:=jV.A.cell;clear V oS X DY l5 eU Q C o eH;have aJ:=E (dw.A.size);go_wp2_with ((refine uv kN au (.tmp 36) (.tmp 38) 241 au w.heap.size 40 _ ar QH au aq B _ aT au w5 [O d L3.length c3,J I c,J I x2] ⟨L3,(c,x2)⟩ au gH.A ⟨_,rfl,je.A⟩ (aj q.A aR.A) aJ.A di.A QI ?_;intro W w' bC fA eZ pI));go_roundw;case rel=>exact⟨k+1,_,aR.A,by go_num,E ⟨by simp;have:=q.A;omega,g.A⟩,fA _ dw.A (aO _),bC,E (En.A.keep eZ aq (pI R En.A.lt (λT=>En.A.lk T)))⟩
    case measure=>exact ax
   ·rw[<-p] at fk;simp only[if_true] at fk;obtain⟨cs,rfl,v9,rfl,nT⟩:=zT;obtain⟨A9,c9,rfl,_⟩:=nT.be;have g:=E (show(l.drop (k+1)).foldl pB aT=r by
     rw[j.A];unfold pB;rw[af];rintro⟨_,h⟩;rw[S3.2 h] at hs;cases hs)
    clear hs c1 p j nT;have Q:=E (N.A.alloc (aD #[O A9 x.L.length c9,J I x.x.1,J I x.x.2] 286));have C:=E (s.A.alloc (aD #[O A9 x.L.length c9,J I x.x.1,J I x.x.2] 286));have o:=E (n.A.alloc (aD #[O A9 x.L.length c9,J I x.x.1,J I x.x.2] 286));clear N s n;go_wp2;go_roundw;case rel=>exact⟨k+1,aT,aR.A,by go_num,E ⟨Nat.le_succ_of_le q.A,g.A⟩,Q.A,C.A,o⟩
    case measure=>exact ax
  ·obtain rfl:k=l.length:=by omega
   have g:=E (show aT=r by have:=K.A.2;rwa[qT] at this);have mY:=E (show w.heap.size<=R by rw[eo.A];exact aO _);go_wp2;go_ret2;exact⟨⟨_,_,rfl,g.A▸bc,g.A▸U.A,mY.A⟩,L⟩
variable {b:Nat} {W:aB} {us:List aE}
def J1 {x:b8} {vs:List aE} (h:dV.rel W B x vs):∃ao c,vs=[O ao x.L.length c,aG x.h.on,J I x.h.dB,aG x.h.hit,J I x.h.eW,J I x.st,J I x.v]/\Vs bE W B (O ao x.L.length c) x.L:=by
 obtain⟨v0,rfl,a⟩:=h;obtain⟨A0,c0,rfl,_⟩:=a.be;exact⟨A0,c0,rfl,a⟩
def ak3 {x y:b8} {vs:List aE} (m:dV.rel W B x vs) (l:dV.rel W B y us):aN aH 232 (#[.agg vs.toArray,.agg us.toArray]++#[]) W λe w'=>e=aQ (J I (fu (dG x.L) (dG y.L)))/\cm W w':=by
 obtain⟨ao,c,rfl,n⟩:=J1 m;obtain⟨A2,c2,rfl,k⟩:=J1 l;have o:=E n;have j:=E k;obtain⟨h,h2,g,h4⟩:=x.h;obtain⟨f,d,b,a⟩:=y.h;have i:=E (((cm.refl W).alloc (aD #[O ao x.L.length c,aG h,J I h2,aG g,J I h4,J I x.st,J I x.v] 62)).alloc (aD #[O A2 y.L.length c2,aG f,J I d,aG b,J I a,J I y.st,J I y.v] 62));have q:=E (LJ _ (o.A.al i.A.aC) (j.A.al i.A.aC));have cH:=(aI.new W 62 #[O ao x.L.length c,aG h,J I h2,aG g,J I h4,J I x.st,J I x.v]).alloc (aD #[O A2 y.L.length c2,aG f,J I d,aG b,J I a,J I y.st,J I y.v] 62);have gz:=aI.new (W.alloc (aD #[O ao x.L.length c,aG h,J I h2,aG g,J I h4,J I x.st,J I x.v] 62)) 62 #[O A2 y.L.length c2,aG f,J I d,aG b,J I a,J I y.st,J I y.v];have g1:=cH.cell 0;have g2:=gz.cell 0;clear cH gz n k m l o j;show aN aH 232 #[aY #[O ao x.L.length c,aG h,J I h2,aG g,J I h4,J I x.st,J I x.v],aY #[O A2 y.L.length c2,aG f,J I d,aG b,J I a,J I y.st,J I y.v]] W _;go_enter func232,ntmps232;go_wp2_with fail;refine q.A.ah ?_;rintro e r⟨rfl,Z⟩;have p:=E (i.A.trans Z);clear Z;go_wp2;go_ret;exact⟨rfl,p.A⟩
def ak4 (B base:Nat) (w:aB) (v:aE) (l:List b8) (f:Ow dV w B base v l) (hB:B<=base) (g:l.length<=1000):aN aH 231 #[v,.func (.func 232) #[] #[]] w λe w'=>e=aQ (bn #[])/\∃b,b.Perm l/\(b.Pairwise λx y=>¬fu (dG y.L) (dG x.L)<0)/\Ow dV w' B base v b/\Kt B [dV.e] w w'/\(∀a,cm a w->a.heap.size<=base->cm a w')/\∀a,aF a w->a.heap.size<=base->aF a w':=by
 refine P3 dV Tryz.agC (λw=>by kernel_rfl) (λw=>by kernel_rfl) lg (λa=>dG a.L) 232 #[] (enters_of func232 ar rfl) B base w ?_ v l f hB MF an;intro W x y vs us _ d c;exact ak3 d c
def ak5 {es:List (aZ×b8)} (w:aB) (hB:B<=w.heap.size) (h:Mt uK dV w B b es) (ce:es.length<=1000):aN aH 190 #[.map (ad b)] w λe w'=>(∃q,e=aQ q/\∃c:List b8,c.Perm (es.map (·.2))/\(c.Pairwise λx y=>¬fu (dG y.L) (dG x.L)<0)/\Ow dV w' B w.heap.size q c)/\aF w w':=by
 have u:=E hB;obtain⟨Y,JO,hit,hg,bJ⟩:=h.range (t:=283) underlying283;have W:=E (show aF w Y from aF.of ⟨hg.os,hg.tape,hg.output,an,λi hi=>hg.block i hi av⟩);have H:=E hit;have QJ:=E h.lt;clear h hg bJ hit hB;go_enter func190,ntmps190;go_wp2;clear JO;obtain⟨r,o⟩:=aP w.heap.size;have X:=E o;rw[o] at H;simp only[o];clear o;go_loopw [3] (λa wr=>∃(aT:List b8) (todo:List (aZ×b8)),aF w wr/\Ow dV wr B w.heap.size a aT/\a6 (j7 uK dV wr B r b es todo)/\a6 ((aT++todo.map (·.2)).Perm (es.map (·.2)))) (λ_ wr=>wr.rangeLeft b r);case atStart=>exact⟨[],es,W.A,Ow.bh _ _ _ _,H,E av⟩
 case round=>
  clear H W;obtain⟨aT,todo,hB,V,F,z⟩:=hrel;have C:=E V;have G:=E hB;have R:=E (show aT.length<=1000 by have:=z.A.length_eq;simp at this;omega);clear V hB;rcases F.A.next (aj X.A u.A) 0 with⟨rfl,Bd⟩|⟨t1,a,x,t2,v,w2,rfl,zT,Bd,LC,ck,b6,E3,eV⟩
  ·have s:=E (show aT.Perm (es.map (·.2)) by simpa using z.A);go_wp2_with fail;refine(ak4 B w.heap.size _ _ aT C.A u.A R.A).ah ?_;rintro e K⟨rfl,c,N,hs,m,cx,Dr,Q⟩;have p:=E (show c.Perm (es.map (·.2))/\(c.Pairwise λx y=>¬fu (dG y.L) (dG x.L)<0)/\Ow dV K B w.heap.size _ c/\aF w K from⟨N.trans s.A,hs,m,Q _ G.A (aO _)⟩);clear N hs m cx Dr Q;go_wp2;go_ret;exact⟨⟨_,rfl,c,p.A.1,p.A.2.1,p.A.2.2.1⟩,p.A.2.2.2⟩
  ·obtain⟨cs,rfl,S⟩:=zT;obtain⟨A1,c1,rfl,M⟩:=J1 S;obtain⟨k,⟨f,h2,d,h4⟩,j,g⟩:=x;dsimp only at*;have D:=E (show(t1++t2).length<wr.rangeLeft b r by rw[F.A.left];simp);have U:=E ((G.A.cD ck (ai X.A)).alloc (aD #[O A1 k.length c1,aG f,J I h2,aG d,J I h4,J I j,J I g] 62));have dF:=E ((C.A.keep eV av av).alloc (aD #[O A1 k.length c1,aG f,J I h2,aG d,J I h4,J I j,J I g] 62));have l:=E (LC.alloc (aD #[O A1 k.length c1,aG f,J I h2,aG d,J I h4,J I j,J I g] 62));have iJ:=E (M.al ((bk _ _).alloc (aO _) (aD #[O A1 k.length c1,aG f,J I h2,aG d,J I h4,J I j,J I g] 62)));have s:=E (show((aT++[(⟨k,⟨f,h2,d,h4⟩,j,g⟩:b8)])++(t1++t2).map (·.2)).Perm (es.map (·.2)) by
    refine List.Perm.trans ?_ z.A;rw[mV];refine List.Perm.append_left _ ?_;simp only[lK,sd];rw[List.singleton_append];exact List.perm_middle.symm)
   have Z:=E (show aT.length+1<=1001 by have:=R.A;omega);clear LC ck b6 eV S M F C G;go_wp2_with ((refine uv dV au (.tmp 12) (.tmp 14) 54 au w.heap.size 72 _ ar Rq au aq B _ aT au (w2.alloc (aD #[O A1 k.length c1,aG f,J I h2,aG d,J I h4,J I j,J I g] 62)) [O A1 k.length c1,aG f,J I h2,aG d,J I h4,J I j,J I g] ⟨k,⟨f,h2,d,h4⟩,j,g⟩ (by rw[eO];rfl) dF.A ⟨_,rfl,iJ.A⟩ (ai Z.A) U.A.size u.A MF ?_;intro q w' bC fA eZ L));have n:=E (l.A.of_block eZ aq (L r l.A.lt (λT=>l.A.lk T)) (L b l.A.mt.lt (λT=>l.A.mt.lk T)));go_roundw;case rel=>exact⟨_,_,fA _ U.A (aO _),bC,n,s⟩
   case measure=>
    show w'.rangeLeft b r<_;rw[n.A.left];exact D.A
variable {α:Type} {B2:Nat}
def Vs.AH (D:Kr α) {W:aB} {B:Nat} {y:α} {vs:List aE} (hrel:D.rel W B y vs):Vs D (W.alloc (aD vs.toArray D.e)) B (O (ad (ab W.heap.size 0 M)) 1 1) [y]:=by
 have c:=D.len hrel;have b:=(bk W.heap.size W).alloc (aO _) (aD vs.toArray D.e);have a:=aI.new W D.e vs.toArray;refine⟨_,1,1,rfl,⟨rfl,vs,Rs.single (D.al hrel b),λ_=>?_⟩,aO _,an⟩;refine⟨W.heap.size,0,rfl,.inr (bp.bO a),λi hi=>?_⟩;rw[ig,a.cell];simp only[dd];rw[List.getElem?_toArray,cR (by omega:i<vs.length)];rfl
theorem NG (h:P:=by
 go_enter func192,ntmps192;go_wp2;go_ret;exact⟨cc (by simp[xi]),rfl⟩;):P:=h
def ak6 (op v d:Int) (w:aB):aN aH 192 #[J I op,J I v,J I d] w λe w'=>e=aQ (aG (xi op v d))/\w'=w:=by
 by_cases c:op=1
 ·subst c;exact NG
 by_cases h2:op=2
 ·subst h2;exact NG
 by_cases b:op=3
 ·subst b;exact NG
 by_cases h4:op=4
 ·subst h4;exact NG
 by_cases a:op=5
 ·subst a;go_enter func192,ntmps192;go_wp2;go_ret;exact⟨cc (by simp only[xi];rw[Bool.eq_iff_iff];simp),rfl⟩
 by_cases h6:op=6
 ·subst h6;go_enter func192,ntmps192;go_wp2;go_ret;exact⟨cc (by simp only[xi];rw[Bool.eq_iff_iff];simp),rfl⟩
 have f:=E (show xi op v d=false by simp[xi,c,h2,b,h4,a,h6]);have m:(op==1)=false:=by simp;exact c
 have l:(op==2)=false:=by simp;exact h2
 have k:(op==3)=false:=by simp;exact b
 have g:(op==4)=false:=by simp;exact h4
 have i:(op==5)=false:=by simp;exact a
 have j:(op==6)=false:=by simp;exact h6
 clear c h2 b h4 a h6;go_enter func192,ntmps192;go_wp2;go_ret;exact⟨cc f.A.symm,rfl⟩
def ak7 {l:List cJ} (a:k<l.length):(l.drop k).any (λf=>decide (cmpL f.L L=0))=(decide (cmpL l[k].L L=0)||(l.drop (k+1)).any (λf=>decide (cmpL f.L L=0))):=by
 rw[pf a,List.any_cons]
def abD {vl:aE} {l:List cJ} (w:aB) (h:Vs kN w B v l) (n:Vs bE w B2 vl L):aN aH 194 #[v,vl] w λe w'=>e=aQ (aG (DP l L))/\aF w w':=by
 have q:=E (show(l.drop 0).any (λf=>decide (cmpL f.L L=0))=DP l L from rfl);generalize DP l L=r at q⊢;obtain⟨ao,c,rfl,x,Q,R⟩:=h.be;have C:=E x;have D:=E n;obtain⟨S,K,rfl,_⟩:=n.be;clear h x n;go_enter func194,ntmps194;go_wp2;go_loopw [9] (λi wr=>∃k:Nat,k<=l.length/\i=J I k/\aF w wr/\a6 ((l.drop k).any (λf=>decide (cmpL f.L L=0))=r)) (λi _=>l.length-(intOf i).toNat);case atStart=>exact⟨0,an,rfl,aF.refl _,q⟩
 case round=>
  clear q;obtain⟨k,M,rfl,g,s⟩:=hrel;by_cases j:k<l.length
  ·obtain⟨b,off,z,c3,rfl,N,H,G,F,y⟩:=C.A.NF g.aC j;have a:=E (ak7 (L:=L) j);rw[NE j,s.A] at a;dsimp only at a;have aR:=E j;generalize zS l k=L3 at*;generalize Ce l k=Gv at*;have o:=E (g.alloc (aD #[O z L3.length c3,J I Gv.1,J I Gv.2] 286));have t:=E (ZY _ (y.al ((bk _ _).alloc (aO _) (aD #[O z L3.length c3,J I Gv.1,J I Gv.2] 286))) (D.A.al o.A.aC));clear g s y;obtain⟨m,u⟩:=aP (cmpL L3 L);rw[u] at t a;clear u;by_cases h0:m=0
   ·have d:=E (show r=true by rw[a.A,h0];rfl);have e0:(m==0)=true:=by simp;exact h0
    clear h0 a;go_wp2_with fail;refine t.A.ah ?_;rintro e A⟨rfl,Z⟩;have p:=E (o.A.trans Z);clear Z;go_wp2;go_ret;exact⟨cc d.A.symm,p.A⟩
   ·have d:=E (show(l.drop (k+1)).any (λf=>decide (cmpL f.L L=0))=r by rw[a.A,aa h0];rfl);have e0:(m==0)=false:=by simp;exact h0
    clear h0 a;go_wp2_with fail;refine t.A.ah ?_;rintro e A⟨rfl,Z⟩;have p:=E (o.A.trans Z);clear Z;go_wp2;go_roundw;case rel=>exact⟨k+1,aR.A,by go_num,p.A,d⟩
    case measure=>exact ax
  ·obtain rfl:k=l.length:=by omega
   have d:=E (show r=false by rw[<-s.A,qT];rfl);go_wp2;go_ret;exact⟨cc d.A.symm,g⟩
def ak8 (w':aB) (B:Nat) (e:Ending):Option aZ->Prop
 |some m=>∃v,e=aQ (bn #[v,aG true])/\Vs bE w' B v m
 |none=>e=aQ (bn #[O M 0 0,aG false])
def ak9 (x:cv) (L:aZ):sO x L=(match so (tU L iH) x.L with|none=>M|some m=>so m [(lv,x.n)]):=by
 unfold sO;cases so (tU L iH) x.L<;>rfl
theorem abE (h:P:=by
 rw[j0] at hG HF;obtain⟨v5,rfl,tn⟩:=hG;have je:=E tn;clear tn j0;go_wp2;go_ret2;rw[HF.A];exact⟨⟨_,rfl,je.A⟩,kp.A⟩;):P:=h
def ala {vl:aE} {x:cv} (w:aB) (hB:B<=w.heap.size) (h:rI w B v x) (q:Vs bE w B vl L):aN aH 193 #[v,vl] w λe w'=>ak8 w' B e (sO x L)/\aF w w':=by
 have f:=E (ak9 x L);obtain⟨A2,c2,A7,c7,rfl,hn,eG,S,C⟩:=h.be;have Y:=E hn;have V:=E hB;obtain⟨Aq,kE,rfl,_⟩:=q.be;have g:=E ((aF.refl w).alloc (aD #[ap x.n,ap x.x.s.n,O A2 x.x.s.aU.length c2,J I x.x.op,J I x.x.v,J I x.wait,J I x.keep,O A7 x.L.length c7] 51));have HX:=E (aI.new w 51 #[ap x.n,ap x.x.s.n,O A2 x.x.s.aU.length c2,J I x.x.op,J I x.x.v,J I x.wait,J I x.keep,O A7 x.L.length c7]);have A:=E (q.al g.A.aC);have H:=E (C.al g.A.aC);have K:=ba.cells HX.A 7;have G:=E (λp:ba (w.alloc (aD #[ap x.n,ap x.x.s.n,O A2 x.x.s.aU.length c2,J I x.x.op,J I x.x.v,J I x.wait,J I x.keep,O A7 x.L.length c7] 51))=>WU iH p.aL (a8 hB (a8 g.A.size p.aC.size)) (A.A.al p.aC));clear h q S C;go_enter func193,ntmps193;go_wp2_with fail;refine du (cU 0 1 (cU 2 2 (.c 1::(.c 4::(cU 5 5 []))))) [] ?_;refine dY ?_;refine S4.dm ?_;rintro _⟨b,rfl⟩ KK aJ;go_simp;refine(G.A b).ah ?_;rintro e N⟨⟨v2,rfl,D⟩,Z⟩;have u:=E (λp:ba N=>Xf p.aL (a8 hB (a8 g.A.size (a8 b.aC.size (a8 Z.size p.aC.size)))) (D.vs.al p.aC) (((H.A.al b.aC).al Z).al p.aC));have r:=E ((g.A.trans b.r).trans (aF.of Z));have d:=E ((HX.A.al b.aC HX.A.lt).al Z (da HX.A.lt b.aC.size));clear D;refine aJ _ _ (aF.of Z) ?_;clear aJ KK Z K G A H;refine S4.dm (λwt X KK aJ=>?_);obtain⟨i,rfl⟩:=X;go_simp;refine(u.A i).ah ?_;rintro e w3⟨hG,Z⟩;have s:=E ((r.A.trans i.r).trans Z);have o:=E ((d.A.al i.aC d.A.lt).al Z.aC (da d.A.lt i.aC.size));cases j:so (tU L iH) x.L with
 |none=>
  rw[j] at hG f;obtain⟨v3,k,hk,rfl,_⟩:=hG;refine aJ _ _ Z ?_;clear aJ KK Z r d u;refine dY ?_;refine S4.nb λl a=>?_;refine dP ?_;have t:=E (s.A.next a);have R:(k !=0)=true:=aqk;have HF:=E (show sO x L=M from f.A);clear a j hk;go_wp2;go_ret2;rw[HF.A];exact⟨rfl,t.A⟩
 |some m=>
  rw[j] at hG f;obtain⟨v3,rfl,n⟩:=hG;obtain⟨A9,c9,rfl,_⟩:=n.be;refine aJ _ _ Z ?_;clear aJ KK Z r d u;refine dY ?_;refine S4.nb λl a=>?_;refine dP ?_;have t:=E (s.A.next a);have T:=E (o.A.al a o.A.lt);have U:=E (n.al a);clear a j n o s;have k0:=T.A.cell 0;have F:=E (t.A.alloc (aD #[ap lv,ap x.n] 78));have z:=E (Xf (B:=B) (l.alloc (aD #[ap lv,ap x.n] 78)) (a8 V.A F.A.size) (U.A.al ((bk _ _).alloc (aO _) (aD #[ap lv,ap x.n] 78))) (Vs.AH bE (W:=l) (y:=(lv,x.n)) (vs:=[ap lv,ap x.n]) ⟨rfl,(by decide:lv.size<=9223372036854775807),Y.A⟩));have HF:=E (show sO x L=so m [(lv,x.n)] from f.A);clear f;go_wp2_with fail;refine z.A.ah ?_;rintro e w5⟨hG,Z⟩;have kp:=E (F.A.trans Z);clear Z z;cases j0:so m [(lv,x.n)] with
  |none=>
   rw[j0] at hG HF;obtain⟨v5,k,hk,rfl,_⟩:=hG;have R:(k !=0)=true:=aqk;clear hk j0;go_wp2;go_ret2;rw[HF.A];exact⟨rfl,kp.A⟩
  |some m2=>
   exact abE
def alb (a:b8):xk a=(match vk a.L iH FH with|none=>M|some m=>vk m DN (DO a.st)):=by
 unfold xk;cases vk a.L iH FH<;>rfl
def alc (h:eK w) {st:Int} (h0:0<=st) (h2:st<=2):w.cell? (ab 3 st.toNat M)=ad (ap (DO st)):=by
 rw[h.state];rcases(show st=0\/st=1\/st=2 by omega) with rfl|rfl|rfl<;>rfl
def ald {a:b8} (w:aB) (hG:eK w) (hB:B<=w.heap.size) (h:Av dV w B a v) (r:0<=a.st/\a.st<=2):aN aH 195 #[v] w λe w'=>sB bE w' B e (xk a)/\aF w w':=by
 have b:=E (alb a);obtain⟨cs,rfl,q⟩:=h;obtain⟨A1,c1,rfl,hv⟩:=J1 q;have f:=E r;have A:=E hB;have C:=E hG;have o:=E ((aF.refl w).alloc (aD #[O A1 a.L.length c1,aG a.h.on,J I a.h.dB,aG a.h.hit,J I a.h.eW,J I a.st,J I a.v] 62));have HX:=E (aI.new w 62 #[O A1 a.L.length c1,aG a.h.on,J I a.h.dB,aG a.h.hit,J I a.h.eW,J I a.st,J I a.v]);have s:=E (Xe (B:=B) iH FH (w.alloc (aD #[O A1 a.L.length c1,aG a.h.on,J I a.h.dB,aG a.h.hit,J I a.h.eW,J I a.st,J I a.v] 62)) (a8 hB o.A.size) aq aq (hv.al o.A.aC));have N:=HX.A.cell 0;clear q hv r hG hB;go_enter func195,ntmps195;go_wp2_with fail;refine s.A.ah ?_;rintro e y⟨hG,Z⟩;have g:=E (o.A.trans Z);have D:=E (HX.A.al Z.aC HX.A.lt);clear Z s HX;cases d:vk a.L iH FH with
 |none=>
  rw[d] at hG b;obtain⟨v3,k,hk,rfl,c⟩:=hG;have L:(k !=0)=true:=aqk;have H:=E hk;have HF:=E (show xk a=M from b.A);clear hk d c b;go_wp2;go_ret2;rw[HF.A];exact⟨⟨_,k,H.A,rfl,[],Vs.bh _ _ _⟩,g.A⟩
 |some m=>
  rw[d] at hG b;obtain⟨v3,rfl,i⟩:=hG;obtain⟨R,Q,rfl,_⟩:=i.be;have HF:=E (show xk a=vk m DN (DO a.st) from b.A);have l:=E (Xe (B:=B) DN (DO a.st) y (a8 A.A g.A.size) aq (by unfold DO;split;decide;split<;>decide) i);have p:=D.A.cell 5;simp at p;have u:=alc (C.A.rel g.A) f.A.1 f.A.2;have z:=f.A.1;have F:=f.A.2;obtain⟨sn,j⟩:∃n:Nat,a.st=(n:Int):=⟨a.st.toNat,an⟩;rw[j] at u z F p;simp only[Int.toNat_natCast] at u;have G:sn<3:=an;rw[j] at l HF;clear b i d j;go_wp2_with fail;refine l.A.ah ?_;rintro e x⟨hG,Z⟩;have kp:=E (g.A.trans Z);clear Z l;cases j0:vk m DN (DO (sn:Int)) with
  |none=>
   rw[j0] at hG HF;obtain⟨v5,k,hk,rfl,c⟩:=hG;have t:=E (show k≠0/\∃m,Vs bE x B v5 m from⟨hk,c⟩);clear hk c j0;go_wp2;go_ret2;rw[HF.A];exact⟨⟨_,k,t.A.1,rfl,t.A.2⟩,kp.A⟩
  |some K=>
   exact abE
variable {f:cJ}
def ale {r:cv} {l:List cJ} (a:k<l.length) (aT:List cJ):(l.drop k).foldl (kc r) aT=(l.drop (k+1)).foldl (kc r) (kc r aT l[k]):=by
 rw[pf a];rfl
def abF (st:List cr) (s:iZ) (t a:Int):(zg st s t a).length<=32:=a8 (List.length_filterMap_le _ _) (vm.1 (Fb st)).1
def alf {r:cv} (h:xi r.x.op f.x.2 r.x.v=false):kc r aT f=aT:=by unfold kc;rw[af (by rw[h];decide)]
def alg {r:cv} (h:sO r f.L=M):kc r aT f=aT:=by unfold kc;rw[h];split<;>rfl
def alh {r:cv} {m:aZ} (h:sO r f.L=ad m) (h2:DP aT m=true):kc r aT f=aT:=by unfold kc;rw[h];split<;>simp[h2]
def ali {r:cv} {m:aZ} (h0:xi r.x.op f.x.2 r.x.v=true) (h:sO r f.L=ad m) (h2:DP aT m=false):kc r aT f=aT++[⟨m,f.x⟩]:=by unfold kc;rw[ag h0,h];simp[h2]
def abG {vs:aE} {st:List cr} {x:cv} (t:Int) (w:aB) (hB:B<=w.heap.size) (ht:-9223372036854775808<=t/\t<=9007199254740992) (hs:Vs dO w B vs st) (h:rI w B v x):aN aH 148 #[vs,v,J I t] w λe w'=>(∃v',e=aQ v'/\Ow kN w' B w.heap.size v' (sP st x t))/\aF w w':=by
 have HR:=E (show sP st x t=if ku x=true then(zg st x.x.s t 300000).foldl (kc x) [] else[] from rfl);generalize sP st x t=r at HR⊢;obtain⟨A2,c2,A7,c7,rfl,hn,eG,hm,hl⟩:=h.be;have di:=E hB;obtain⟨FC,cs,rfl,_⟩:=hs.be;have HB:=E ((aF.refl w).alloc (aD #[ap x.n,ap x.x.s.n,O A2 x.x.s.aU.length c2,J I x.x.op,J I x.x.v,J I x.wait,J I x.keep,O A7 x.L.length c7] 51));have HX:=E (aI.new w 51 #[ap x.n,ap x.x.s.n,O A2 x.x.s.aU.length c2,J I x.x.op,J I x.x.v,J I x.wait,J I x.keep,O A7 x.L.length c7]);have mR:=E (h.al HB.A.aC);have S:=E (M3 _ mR.A);have dn:=E (λW (Z:aS w.heap.size w W) (hW:B<=W.heap.size)=>ahn (B:=B) t 300000 W hW ht (hs.al Z) (vs:=aY #[ap x.x.s.n,O A2 x.x.s.aU.length c2]) (s:=x.x.s) ⟨_,rfl,eG,hm.al Z⟩);have g0:=HX.A.cell;clear h hs hm hl;cases o:ku x with
 |false=>
  rw[o] at S;have HF:=E (show r=[] by rw[HR.A,af (by rw[o];decide)]);clear o;go_enter func148,ntmps148;go_wp2_with fail;refine S.A.ah ?_;rintro e w2⟨rfl,Z⟩;have u:=E (HB.A.trans Z);clear Z;go_wp2;go_ret;exact⟨⟨_,rfl,HF.A▸Ow.bh _ _ _ _⟩,u.A⟩
 |true=>
 rw[o] at S;have HF:=E (show((zg st x.x.s t 300000).drop 0).foldl (kc x) []=r by rw[HR.A,ag o];rfl);have aM:=E (abF st x.x.s t 300000);clear o HR;go_enter func148,ntmps148;go_wp2_with fail;refine S.A.ah ?_;rintro e w2⟨rfl,Z⟩;have u:=E (HB.A.trans Z);have V:=E (HX.A.al Z.aC HX.A.lt);have N:=E (mR.A.al Z.aC);clear Z HB HX mR S g0;have k1:=V.A.cell;go_wp2_with fail;refine(dn.A w2 u.A.aC (a8 hB u.A.size)).ah ?_;rintro e T⟨⟨vl,rfl,hO⟩,Z⟩;generalize zg st x.x.s t 300000=l at*;have K:=E (u.A.trans Z);have l5:=E (V.A.al Z.aC V.A.lt);have aJ:=E (N.A.al Z.aC);obtain⟨Al,cl,rfl,lp,jc,ju⟩:=hO.vs.be;have HP:=E lp;clear Z u V N dn hO lp k1;go_wp2;go_loopw [7,22] (λa i wr=>∃(k:Nat) (aT:List cJ),k<=l.length/\i=J I k/\aF T wr/\Ow kN wr B T.heap.size a aT/\a6 (aT.length<=k/\(l.drop k).foldl (kc x) aT=r)) (λ_ i _=>l.length-(intOf i).toNat);case atStart=>exact⟨0,[],an,rfl,aF.refl _,Ow.bh _ _ _ _,E ⟨aO _,HF.A⟩⟩
 case round=>
  clear HF;obtain⟨k,aT,hk,rfl,Y,bc,X⟩:=hrel;by_cases aK:k<l.length
  ·obtain⟨b,off,A3,c3,rfl,cw,y0,y1,y2,bZ⟩:=HP.A.NF Y.aC aK;have d:=E (ale (r:=x) aK aT);rw[X.A.2,NE aK] at d;have G:=E X.A.1;have aR:=E aK;generalize zS l k=L3 at*;obtain⟨⟨c,x2⟩,hx⟩:∃x,Ce l k=x:=⟨_,rfl⟩;rw[hx] at d;simp only[hx] at y1 y2;clear hx X;have fX:=E (bc.alloc (aD #[O A3 L3.length c3,J I c,J I x2] 286));have j:=E (Y.alloc (aD #[O A3 L3.length c3,J I c,J I x2] 286));have eH:=E (bZ.al ((bk _ _).alloc (aO _) (aD #[O A3 L3.length c3,J I c,J I x2] 286)));have NH:=E (aI.new wr 286 #[O A3 L3.length c3,J I c,J I x2]);have eU:=E (l5.A.al j.A.aC l5.A.lt);have zU:=E (aJ.A.al j.A.aC);have L:=E (K.A.trans j.A);clear bc Y bZ;have p0:=eU.A.cell;have f0:=NH.A.cell;have hh:=λW=>ak6 x.x.op x2 x.x.v W;cases D:xi x.x.op x2 x.x.v with
   |false=>
    rw[D] at hh;have g:=E (show(l.drop (k+1)).foldl (kc x) aT=r by rw[d.A,alf D]);clear D d;go_wp2_with fail;refine(hh _).ah ?_;rintro e w5⟨rfl,rfl⟩;clear hh;go_wp2;go_roundw;case rel=>exact⟨k+1,aT,aR.A,by go_num,j.A,fX.A,E ⟨Nat.le_succ_of_le G.A,g.A⟩⟩
    case measure=>exact ax
   |true=>
    rw[D] at hh;have aP:=E D;clear D;go_wp2_with fail;refine(hh _).ah ?_;rintro e w5⟨rfl,rfl⟩;clear hh;go_wp2_with fail;refine(ala _ (a8 di.A L.A.size) zU.A eH.A).ah ?_;rintro e w6⟨p,Z⟩;have n:=E (fX.A.al Z.aC);have NI:=E (j.A.trans Z);have wl:=E (NH.A.al Z.aC NH.A.lt);clear Z fX j eH NH eU zU L p0 f0;cases q:sO x L3 with
    |none=>
     rw[q] at p;have p:e=aQ (bn #[O M 0 0,aG false]):=p;subst p;have g:=E (show(l.drop (k+1)).foldl (kc x) aT=r by rw[d.A,alg (f:=⟨L3,(c,x2)⟩) q]);clear q d;go_wp2;go_roundw;case rel=>exact⟨k+1,aT,aR.A,by go_num,NI.A,n.A,E ⟨Nat.le_succ_of_le G.A,g.A⟩⟩
     case measure=>exact ax
    |some m=>
     rw[q] at p;obtain⟨yZ,rfl,J2⟩:=p;obtain⟨A6,kS,rfl,_⟩:=J2.be;have U:=E J2;have vA:=E q;clear J2 q;cases F:DP aT m with
     |true=>
      have g:=E (show(l.drop (k+1)).foldl (kc x) aT=r by rw[d.A,alh (f:=⟨L3,(c,x2)⟩) vA.A F]);have R:=E (abD w6 n.A.vs U.A);rw[F] at R;clear F d;go_wp2_with fail;refine R.A.ah ?_;rintro e w7⟨rfl,Z⟩;have zV:=E (n.A.al Z.aC);have Q:=E (NI.A.trans Z);clear Z;go_wp2;go_roundw;case rel=>exact⟨k+1,aT,aR.A,by go_num,Q.A,zV.A,E ⟨Nat.le_succ_of_le G.A,g.A⟩⟩
      case measure=>exact ax
     |false=>
      have g:=E (show(l.drop (k+1)).foldl (kc x) (aT++[⟨m,(c,x2)⟩])=r by rw[d.A,ali (f:=⟨L3,(c,x2)⟩) aP.A vA.A F]);have R:=E (abD w6 n.A.vs U.A);rw[F] at R;clear F d;go_wp2_with fail;refine R.A.ah ?_;rintro e w7⟨rfl,Z⟩;have zV:=E (n.A.al Z.aC);have Q:=E (NI.A.trans Z);have aW:=E (K.A.trans Q.A);have xT:=E (U.A.al Z.aC);have H:=wl.A.al Z.aC wl.A.lt;have q1:=H.cell;clear Z H n NI wl U;go_wp2_with ((refine uv kN au (.tmp 51) (.tmp 56) 241 au T.heap.size 40 _ ar QH au aq B _ aT au w7 [O A6 m.length kS,J I c,J I x2] ⟨m,(c,x2)⟩ au zV.A ⟨_,rfl,xT.A⟩ (ak G.A aR.A aM.A) Q.A.size (a8 di.A K.A.size) QI ?_;intro v' w' bC fA eZ pI));go_roundw;case rel=>exact⟨k+1,_,aR.A,by go_num,fA T Q.A (aO _),bC,E ⟨by simp;have:=G.A;omega,g.A⟩⟩
      case measure=>exact ax
  ·obtain rfl:k=l.length:=by omega
   have g:=E (show aT=r by have:=X.A.2;rwa[qT] at this);go_wp2;go_ret;exact⟨⟨_,rfl,g.A▸bc.less K.A.size⟩,K.A.trans Y⟩
def abK {s:List cr} (w:aB) (h:Vs dO w B v s):aN aH 146 #[v] w λe w'=>(e=aQ (if eY s=true then v else O M 0 0))/\aF w w':=by
 have a:=E (Qq w h);obtain⟨A0,c0,rfl,_⟩:=h.len_;clear h;generalize eY s=b at a;go_enter func146,ntmps146;go_wp2_with fail;refine a.A.ah ?_;rintro e d⟨rfl,Z⟩;have c:=E Z;clear Z a;cases b
 ·go_wp2;go_ret;exact⟨rfl,c.A⟩
 ·go_wp2;go_ret;exact⟨rfl,c.A⟩
def alm {t:Int} {l:List b8} (a:k<l.length) (s:List cr×Int):(l.drop k).foldl (lw t) s=(l.drop (k+1)).foldl (lw t) (lw t s l[k]):=by
 rw[pf a];rfl
def aln {t:Int} {s:List cr} {o:Int} {a:b8} (h:xk a=M):lw t (s,o) a=(s,o+1):=by unfold lw;rw[h]
def alo {t:Int} {s:List cr} {o:Int} {a:b8} {m:aZ} (h:xk a=ad m) (h2:ra s m (t,1000)=M):lw t (s,o) a=(s,o+1):=by unfold lw;rw[h];simp only[h2]
def alp {t:Int} {s b:List cr} {o:Int} {a:b8} {m:aZ} (h:xk a=ad m) (h2:ra s m (t,1000)=ad b):lw t (s,o) a=(b,o):=by unfold lw;rw[h];simp only[h2]
def alq {vs:aE} {st:List cr} {x:cy} (t:Int) (w:aB) (c:eK w) (hB:B<=w.heap.size) (hs:Vs dO w B vs st) (h:nX w B v x):aN aH 149 #[vs,v,J I t] w λe w'=>(∃v',e=aQ (bn #[v',J I (ui st x t).2])/\Vs dO w' B v' (ui st x t).1)/\aF w w':=by
 have cY:=E c;have di:=E hB;have HA:=E (λW (Z:aS w.heap.size w W)=>Rr W (a8 hB Z.size) (h.al Z));have HC:=E (λW (Z:aS w.heap.size w W)=>abK W (hs.al Z));have HV:=E (L7 hs);have HR:=E (show ui st x t=((jO (dQ x).ao).drop 0).foldl (lw t) (gS st,0) from rfl);have cj:=E (show(∀a∈jO (dQ x).ao,0<=a.st/\a.st<=2)/\(jO (dQ x).ao).length<=16 from⟨λa ha=>((qk.1 (Bt x)).2.2.1 a ((List.mem_filter.1 ha).1)).2.2,a8 (List.length_filter_le _ _) (qk.1 (Bt x)).1⟩);generalize ui st x t=r at HR⊢;obtain⟨u0,rfl,ob⟩:=h.A;obtain⟨A0,c0,rfl,_⟩:=ob.be;generalize h9:(if eY st=true then vs else _:aE)=jg at HC HV;clear h9;generalize gS st=s0 at*;generalize jO (dQ x).ao=zs at*;obtain⟨r1,r2⟩:=r;have HB:=E ((aF.refl w).alloc (aD #[O A0 x.ao.length c0,J I x.full] 56));have HX:=E (aI.new w 56 #[O A0 x.ao.length c0,J I x.full]);obtain⟨FC,cs,n,_⟩:=hs.be;subst n;clear h hs ob hB c;go_enter func149,ntmps149;go_wp2_with fail;refine(HC.A _ HB.A.aC).ah ?_;rintro e w1⟨rfl,Z⟩;have X:=E (HB.A.trans Z);have nK:=E (HX.A.al Z.aC HX.A.lt);clear Z HC HB HX;have g0:=nK.A.cell;go_wp2_with fail;refine(HA.A _ X.A.aC).ah ?_;rintro e w2⟨⟨aJ,rfl,hO⟩,Z⟩;have F:=E (X.A.trans Z);obtain⟨S8,S9,rfl,lp,jc,ju⟩:=hO.vs.be;have HP:=E lp;clear Z X nK HA hO lp g0;have iJ:=E (HV.A.al F.A.aC);clear HV;go_wp2;go_loopw [0,8,19] (λa o i wr=>∃(k:Nat) (s:List cr×Int),k<=zs.length/\i=J I k/\o=J I s.2/\aF w2 wr/\Vs dO wr B a s.1/\a6 ((0<=s.2/\s.2<=k)/\(zs.drop k).foldl (lw t) s=(r1,r2))) (λ_ _ i _=>zs.length-(intOf i).toNat);case atStart=>exact⟨0,(s0,0),an,rfl,rfl,aF.refl _,iJ.A,E ⟨av,HR.A.symm⟩⟩
 case round=>
  clear iJ HR;obtain⟨k,⟨s,o⟩,hk,rfl,rfl,G,n,u⟩:=hrel;dsimp only at n u;by_cases y:k<zs.length
  ·obtain⟨b,off,A1,c1,rfl,cw,y0,y1,y2,y3,y4,y5,y6,bZ⟩:=HP.A.jP G.aC y;have l:=E (alm (t:=t) y (s,o));have N:=E (cj.A.1 zs[k] (dl y));rw[u.A.2,MG y] at l;rw[MG y] at N;have S:=E u.A.1;have aR:=E y;obtain⟨hd,U⟩:=aP (dx zs k);obtain⟨f,V⟩:=aP (gl zs k);obtain⟨d,T⟩:=aP (oO zs k);rw[U,V,T] at l N;rw[U] at y1 y2 y3 y4;rw[V] at y5;rw[T] at y6;generalize cX zs k=Ck at*;obtain⟨ho,hs,g,j⟩:=hd;clear U V T u;dsimp only at y1 y2 y3 y4 N;have M:=E (G.alloc (aD #[O A1 Ck.length c1,aG ho,J I hs,aG g,J I j,J I f,J I d] 62));have xO:=E (n.al ((bk _ _).alloc (aO _) (aD #[O A1 Ck.length c1,aG ho,J I hs,aG g,J I j,J I f,J I d] 62)));have HW:=E (ald (v:=aY #[O A1 Ck.length c1,aG ho,J I hs,aG g,J I j,J I f,J I d]) (a:=⟨Ck,⟨ho,hs,g,j⟩,f,d⟩) (wr.alloc (aD #[O A1 Ck.length c1,aG ho,J I hs,aG g,J I j,J I f,J I d] 62)) (cY.A.rel (F.A.trans M.A)) (a8 di.A (F.A.trans M.A).size) ⟨[O A1 Ck.length c1,aG ho,J I hs,aG g,J I j,J I f,J I d],rfl,_,rfl,bZ.al ((bk _ _).alloc (aO _) (aD #[O A1 Ck.length c1,aG ho,J I hs,aG g,J I j,J I f,J I d] 62))⟩ N.A);have Dx:I.wrap (o+1)=o+1:=by have:=S.A;have:=aR.A;rw[b7];omega
   clear G n bZ;go_wp2_with fail;refine HW.A.ah ?_;rintro e w4⟨c,Z⟩;have R:=E (M.A.trans Z);have Q:=E (xO.A.al Z.aC);clear Z HW M xO;cases A:xk ⟨Ck,⟨ho,hs,g,j⟩,f,d⟩ with
   |none=>
    rw[A] at c;obtain⟨v4,q,D,rfl,_⟩:=c;have jv:(q !=0)=true:=by simp;exact D
    have p:=E (show(zs.drop (k+1)).foldl (lw t) (s,o+1)=(r1,r2) by rw[l.A,aln A]);clear D A l;go_wp2;go_roundw;case rel=>exact⟨k+1,(s,o+1),aR.A,by go_num,rfl,R.A,Q.A,E ⟨by have:=S.A;simp only;omega,p.A⟩⟩
    case measure=>exact ax
   |some m=>
    rw[A] at c;obtain⟨v4,rfl,C⟩:=c;have L:=E (X6 t 1000 w4 (a8 di.A (F.A.trans R.A).size) Q.A C);have K:=E A;clear C A;go_wp2_with fail;refine L.A.ah ?_;rintro e w5⟨c,Z⟩;have H:=E (R.A.trans Z);have Y:=E (Q.A.al Z.aC);clear Z L R Q;cases z:ra s m (t,1000) with
    |none=>
     rw[z] at c;obtain⟨v5,q,D,rfl,_⟩:=c;have jv:(q !=0)=true:=by simp;exact D
     have p:=E (show(zs.drop (k+1)).foldl (lw t) (s,o+1)=(r1,r2) by rw[l.A,alo K.A z]);clear D z l;go_wp2;go_roundw;case rel=>exact⟨k+1,(s,o+1),aR.A,by go_num,rfl,H.A,Y.A,E ⟨by have:=S.A;simp only;omega,p.A⟩⟩
     case measure=>exact ax
    |some s2=>
     rw[z] at c;obtain⟨v5,rfl,tn⟩:=c;have je:=E tn;have p:=E (show(zs.drop (k+1)).foldl (lw t) (s2,o)=(r1,r2) by rw[l.A,alp K.A z]);clear tn z l;go_wp2;go_roundw;case rel=>exact⟨k+1,(s2,o),aR.A,by go_num,rfl,H.A,je.A,E ⟨by have:=S.A;simp only;omega,p.A⟩⟩
     case measure=>exact ax
  ·obtain rfl:k=zs.length:=by omega
   have p:=E (show(s,o)=(r1,r2) by have:=u.A.2;rwa[qT] at this);have Ta:=E n;have bY:=E G;clear u n G;obtain⟨rfl,rfl⟩:=Prod.mk.inj p.A;go_wp2;go_ret2;exact⟨⟨_,rfl,Ta.A⟩,F.A.trans bY.A⟩
variable {g:Nat} {w0:aB} {t T:bf} {cs:Array aE} {a0 cZ a2 a3 a4 a5 gp:aE} {wait:Int} {there:List (aZ×cJ)}
section
open Go.ChangeMaps Go.MapKept
open im (dT fe pv aL gone none_)
structure gw (w0 wr:aB) (B R1 R2 g5 g10:Nat) (vd:aE) (d:List cJ) (m:List (aZ×b8)) (c5:Array aE):Prop where
 b:aF w0 wr
 oI:Vs kN wr B vd d
 r1:Mt uK kN wr B R1 (it d)
 r2:Mt uK dV wr B R2 m
 x:aI wr g5 56 c5
 y:aI wr g10 56 #[O M 0 0,J I 0]
 g1:w0.heap.size<=R1
 g2:w0.heap.size<=R2
 g3:w0.heap.size<=g5
 g4:w0.heap.size<=g10
 hB:B<=w0.heap.size
 ne:g5≠g10
section
variable {w0 wr w':aB} {B R1 R2 g5 g10:Nat} {vd:aE} {d:List cJ} {m:List (aZ×b8)} {c5:Array aE}
def gw.al (h:gw w0 wr B R1 R2 g5 g10 vd d m c5) (Z:aS wr.heap.size wr w'):gw w0 w' B R1 R2 g5 g10 vd d m c5:=⟨h.b.trans (aF.of Z),h.oI.al Z,h.r1.al Z,h.r2.al Z,h.x.al Z h.x.lt,h.y.al Z h.y.lt,h.g1,h.g2,h.g3,h.g4,h.hB,h.ne⟩
def gw.rel (h:gw w0 wr B R1 R2 g5 g10 vd d m c5) (Z:aF wr w'):gw w0 w' B R1 R2 g5 g10 vd d m c5:=h.al Z.aC
def gw.alloc (h:gw w0 wr B R1 R2 g5 g10 vd d m c5) (o:Obj):gw w0 (wr.alloc o) B R1 R2 g5 g10 vd d m c5:=h.al ((bk _ _).alloc (aO _) o)
def abN {U:bf} (h:aI w g U cs) (a:bp w T g):U=T:=(bp.bO h).q9 a
def gw.set (h:gw w0 wr B R1 R2 g5 g10 vd d m c5) {g:Nat} (hg:w0.heap.size<=g) {cs:Array aE} (a:aI wr g 62 cs) (o:Nat) (u:aE):gw w0 (wr.setCell (ab g o M) u) B R1 R2 g5 g10 vd d m c5:=by
 have b:Kt B [62] wr (wr.setCell (ab g o M) u):=(Kt.refl _ _ _).setCell (a8 h.hB hg) (bp.bO a) (bD.2 rfl) u;have c:∀r,(∀T,¬bp wr T r)->(wr.setCell (ab g o M) u).heap[r]?=wr.heap[r]?:=λr i=>yv wr (ab g o M) u r (λe=>by have k:r=g:=e;subst k;exact i _ (bp.bO a));have j:g5≠g:=λe=>by subst e;exact ae (abN h.x (bp.bO a)) aq
 have f:g10≠g:=λe=>by subst e;exact ae (abN h.y (bp.bO a)) aq
 exact⟨h.b.setCell hg u,h.oI.keep b aq aq,h.r1.keep b aq (c _ λT=>h.r1.lk T),h.r2.keep b aq (c _ λT=>h.r2.lk T),h.x.bT j u,h.y.bT f u,h.g1,h.g2,h.g3,h.g4,h.hB,h.ne⟩
def gw.als (h:gw w0 wr B R1 R2 g5 g10 vd d m c5) (o:Nat) (u:aE):gw w0 (wr.setCell (ab g5 o M) u) B R1 R2 g5 g10 vd d m (c5.setIfInBounds o u):=by
 have a:Kt B [56] wr (wr.setCell (ab g5 o M) u):=(Kt.refl _ _ _).setCell (a8 h.hB h.g3) (bp.bO h.x) (bD.2 rfl) u;have b:∀r,(∀T,¬bp wr T r)->(wr.setCell (ab g5 o M) u).heap[r]?=wr.heap[r]?:=λr c=>yv wr (ab g5 o M) u r (λe=>by have f:r=g5:=e;subst f;exact c _ (bp.bO h.x));exact⟨h.b.setCell h.g3 u,h.oI.keep a aq aq,h.r1.keep a aq (b _ λT=>h.r1.lk T),h.r2.keep a aq (b _ λT=>h.r2.lk T),h.x.put o u,h.y.bT h.ne.symm u,h.g1,h.g2,h.g3,h.g4,h.hB,h.ne⟩
def gw.dm (h:gw w0 wr B R1 R2 g5 g10 vd d m c5) (b:R1≠R2) {m':List (aZ×b8)} (c:Mt uK dV w' B R2 m') (hg:wr.grownBy w' (ad R2)) (a:Kt B [] wr w'):gw w0 w' B R1 R2 g5 g10 vd d m' c5:=⟨h.b.cD hg h.g2,h.oI.keep a av av,h.r1.keep a av (hg.block R1 h.r1.lt (λe=>b aqE)),c,h.x.cD hg (λe=>h.r2.lk _ (e▸bp.bO h.x)),h.y.cD hg (λe=>h.r2.lk _ (e▸bp.bO h.y)),h.g1,h.g2,h.g3,h.g4,h.hB,h.ne⟩
def gw.store (h:gw w0 wr B R1 R2 g5 g10 vd d m c5) (c:R1≠R2) {a:aZ} (j:bH a=true) {x:b8} {v:aE} (f:Av dV wr B x v):∃w',(Instr.mapUpdate 283 (.map (ad R2)) (ap (sM a)) v).run aH wr= .ok () w'/\gw w0 w' B R1 R2 g5 g10 vd d (eF m a x) c5/\(∀(g:Nat) (T:bf) (cs:Array aE),aI wr g T cs->aI w' g T cs)/\Kt B [] wr w':=by
 obtain⟨w',e,i,hg,b⟩:=h.r2.store (a:=a) (x:=x) (v:=v) j underlying283 f (a8 h.hB h.g2) (λT=>h.r2.lk T);exact⟨w',e,h.dm c i hg b,λg T cs Z=>Z.cD hg (λe=>h.r2.lk _ (e▸bp.bO Z)),b⟩
def gw.delete (h:gw w0 wr B R1 R2 g5 g10 vd d m c5) (b:R1≠R2) (ty:bf) {a:aZ} (g:bH a=true):∃w',(Builtin.delete_ #[283,9] ty #[.map (ad R2),ap (sM a)]).run aH wr= .ok (bn #[]) w'/\gw w0 w' B R1 R2 g5 g10 vd d (jI m a) c5:=by
 obtain⟨w',e,c,hg,f⟩:=h.r2.delete (a:=a) ty g underlying283 (a8 h.hB h.g2) (λT=>h.r2.lk T);exact⟨w',e,h.dm b c hg f⟩
end
def al7 (h:aI w g t #[a0,cZ,a2,a3,a4,a5,gp]) (u1 u2 u3 u4 u5:aE):aI (((((w.setCell (ab g 1 M) u1).setCell (ab g 2 M) u2).setCell (ab g 3 M) u3).setCell (ab g 4 M) u4).setCell (ab g 5 M) u5) g t #[a0,u1,u2,u3,u4,u5,gp]:=((((h.put 1 u1).put 2 u2).put 3 u3).put 4 u4).put 5 u5
def alt (x:cy) (l:List cJ) (t wait keep:Int) (k:Nat):0<=(((lW l).take k).foldl (fx t wait keep) ((dQ x).ao.foldl (kr (it (lW l)) t wait keep) [],(dQ x).full)).2/\(((lW l).take k).foldl (fx t wait keep) ((dQ x).ao.foldl (kr (it (lW l)) t wait keep) [],(dQ x).full)).2<=9007199254740992:=by
 have d:=(qk.1 (Bt x)).2.1;generalize(dQ x).ao.foldl (kr (it (lW l)) t wait keep) []=m;generalize dQ x=c at*;have:∀(a:List cJ) (s:List (aZ×b8)×Int),(0<=s.2/\s.2<=9007199254740992)->0<=(a.foldl (fx t wait keep) s).2/\(a.foldl (fx t wait keep) s).2<=9007199254740992:=by
  intro a;induction a with
  |nil=>intro s h;exact h
  |cons f a b=>intro s h;exact b _ (Yw h)
 exact this _ _ d
def abO (h:aI w g 62 #[a0,cZ,a2,a3,a4,a5,gp]) (hB:B<=g) (u1 u2 u3 u4 u5:aE):Kt B [62] w (((((w.setCell (ab g 1 M) u1).setCell (ab g 2 M) u2).setCell (ab g 3 M) u3).setCell (ab g 4 M) u4).setCell (ab g 5 M) u5):=by
 have f:=(Kt.refl B [62] w).setCell hB (bp.bO h) (bD.2 rfl) (o:=1) u1;have cH:=h.put 1 u1;have e:=f.setCell hB (bp.bO cH) (bD.2 rfl) (o:=2) u2;have gz:=cH.put 2 u2;have d:=e.setCell hB (bp.bO gz) (bD.2 rfl) (o:=3) u3;have a:=gz.put 3 u3;have c:=d.setCell hB (bp.bO a) (bD.2 rfl) (o:=4) u4;have b:=a.put 4 u4;exact c.setCell hB (bp.bO b) (bD.2 rfl) (o:=5) u5
def abP {R1 R2 g5 g10:Nat} {vd:aE} {d:List cJ} {m:List (aZ×b8)} {c5:Array aE} (h:gw w0 wr B R1 R2 g5 g10 vd d m c5) (Z:aI wr g 62 #[a0,cZ,a2,a3,a4,a5,gp]) (hg:w0.heap.size<=g) (u1 u2 u3 u4 u5:aE):gw w0 (((((wr.setCell (ab g 1 M) u1).setCell (ab g 2 M) u2).setCell (ab g 3 M) u3).setCell (ab g 4 M) u4).setCell (ab g 5 M) u5) B R1 R2 g5 g10 vd d m c5:=((((h.set hg Z 1 u1).set hg (Z.put 1 u1) 2 u2).set hg ((Z.put 1 u1).put 2 u2) 3 u3).set hg (((Z.put 1 u1).put 2 u2).put 3 u3) 4 u4).set hg ((((Z.put 1 u1).put 2 u2).put 3 u3).put 4 u4) 5 u5
def abQ {t keep:Int} {m:List (aZ×b8)} {h:im.Hd} {st v:Int} {c:Bool} {S:im.Hd} {N v2:Int} (b:(gF there L).isSome=c) (d:pv h c t wait=S) (a:aL S t keep=N) (hv:(match gF there L with|some f=>f.x.2|none=>v)=v2):kr there t wait keep m ⟨L,h,st,v⟩=if gone S t keep=true then jI (eF m L ⟨L,S,N,v2⟩) L else eF m L ⟨L,S,N,v2⟩:=by
 have h0:FE there t wait keep ⟨L,h,st,v⟩=⟨L,S,N,v2⟩:=by
  subst b;subst d;subst a;subst hv;rfl
 unfold kr;rw[h0]
theorem abR (h:P:=by
 have HSa:=E GF;have HAa:=E (kh _ _ _ J5.A);clear GF kh NL;have r1:=HAa.A.cell;go_wp2_with fail;refine(ahs s1 s2 s3 s4 t keep _).ah ?_;rintro e FK⟨rfl,Z⟩;have HSb:=E (HSa.A.al Z);clear Z f1 g0 p0 r1 bS;clear o8 xT xU Tb rP zX rV GG J5 ud HSa HAa;cases lA:gone ⟨s1,s2,s3,s4⟩ t keep with
 |true=>
  rw[lA] at cQ;obtain⟨wc,XX,AT⟩:=HSb.A.delete Eo.A 0 dn.A;have Tc:=E (show gw w wc B R1 R2 w.heap.size (w.heap.size+1) (O NM d.length nl) d ((xs.take (k+1)).foldl (kr (it d) t wait keep) []) #[O (ad (ab b off M)) xs.length cap,J I full] by rw[cQ.A];exact AT);clear AT cQ lA;go_wp2;go_roundw;case rel=>exact⟨k+1,aR.A,by go_num,Tc⟩
  case measure=>exact ax
 |false=>
  rw[lA] at cQ;have Tc:=E (show gw w FK B R1 R2 w.heap.size (w.heap.size+1) (O NM d.length nl) d ((xs.take (k+1)).foldl (kr (it d) t wait keep) []) #[O (ad (ab b off M)) xs.length cap,J I full] by rw[cQ.A];exact HSb.A);clear cQ lA;go_wp2;go_roundw;case rel=>exact⟨k+1,aR.A,by go_num,Tc⟩
  case measure=>exact ax
 ):P:=h
def abS {G vl:aE} {x:cy} {l:List cJ} (t wait keep:Int) (w:aB) (hB:B<=w.heap.size) (hx:nX w B G x) (hl:Vs kN w B vl l) (ce:l.length<=100000):aN aH 147 #[G,vl,J I t,J I wait,J I keep] w λe w'=>(∃v',e=aQ v'/\nX w' B v' (stepT x l t wait keep))/\aF w w':=by
 have HC:=E (λw1 (Z:aS w.heap.size w w1)=>Zn w1 (hx.al Z));have HD:=E (λw1 (Z:aS w.heap.size w w1)=>ak2 w1 (a8 hB Z.size) (hl.al Z) ce);have HV:=E (Zl hx);have J6:=E (show _/\(List.foldl (fx t wait keep) ((dQ x).ao.foldl (kr (it (lW l)) t wait keep) [],(dQ x).full) (lW l)).1.length<=16 from⟨(Ml x l t wait keep).1.sort.2.1,(Ml x l t wait keep).2.1⟩);have HE:=E (show stepT x l t wait keep=⟨uh (((lW l).foldl (fx t wait keep) ((dQ x).ao.foldl (kr (it (lW l)) t wait keep) [],(dQ x).full)).1.map (·.2)),((lW l).foldl (fx t wait keep) ((dQ x).ao.foldl (kr (it (lW l)) t wait keep) [],(dQ x).full)).2⟩ from rfl);have cj:=E (qk.1 (Bt x));have bd:=E (Yt l).1;have a5:=E (λk=>alt x l t wait keep k);unfold Br at J6;generalize stepT x l t wait keep=r at HE⊢;obtain⟨u0,e0,ob⟩:=hx.A;obtain⟨A0,c0,rfl,_⟩:=ob.be;obtain⟨Al,cl,rfl,_⟩:=hl.be;subst e0;generalize h9:(if fY x=true then _ else _:aE)=jg at HC HV;clear h9;generalize dQ x=c at*;generalize lW l=d at*;obtain⟨xs,full⟩:=c;dsimp only at*;obtain⟨u,rfl,hu⟩:=HV.A.A;dsimp only at hu;obtain⟨ao,cap,rfl,hR,jc,cn⟩:=hu.be;have HP:=E hR;have di:=E hB;clear hx hl ob hu hR hB HV;have bR:=E (((aF.refl w).alloc (aD #[O A0 x.ao.length c0,J I x.full] 56)).alloc (aD #[O M 0 0,J I 0] 56));have nK:=E ((aI.new w 56 #[O A0 x.ao.length c0,J I x.full]).alloc (aD #[O M 0 0,J I 0] 56));have Gl:=E (show aI _ (w.heap.size+1) _ _ by
  have:=aI.new (w.alloc (aD #[O A0 x.ao.length c0,J I x.full] 56)) 56 #[O M 0 0,J I 0];rwa[eO] at this)
 have k0:=nK.A.cell;go_enter func147,ntmps147;go_wp2_with fail;refine(HC.A _ bR.A.aC).ah ?_;rintro e w1⟨rfl,Z⟩;have hX:=nK.A.al Z.aC nK.A.lt;have hY:=Gl.A.al Z.aC Gl.A.lt;have bN:=bR.A.trans Z;clear Z HC k0 nK Gl bR;have⟨k0,f0⟩:=hX.cf;have cL:=E (show aI ((w1.setCell (ab w.heap.size 0 M) (O ao xs.length cap)).setCell (ab w.heap.size 1 M) (J I full)) w.heap.size 56 #[O ao xs.length cap,J I full] from(hX.put 0 _).put 1 _);have JL:=E (show aI ((w1.setCell (ab w.heap.size 0 M) (O ao xs.length cap)).setCell (ab w.heap.size 1 M) (J I full)) (w.heap.size+1) 56 #[O M 0 0,J I 0] from(hY.bT aqA _).bT aqA _);have bm:=E (show aF w ((w1.setCell (ab w.heap.size 0 M) (O ao xs.length cap)).setCell (ab w.heap.size 1 M) (J I full)) from(bN.setCell (p:=(ab w.heap.size 0 M)) (aO _) _).setCell (p:=(ab w.heap.size 1 M)) (aO _) _);clear hX hY bN;go_wp2_with fail;refine(HD.A _ bm.A.aC).ah ?_;rintro e w2⟨⟨vd,R1,rfl,Td,fz,gg⟩,Z⟩;have ka:=run_makeMap (P:=aH) 283 w2;have hU:=E (show gw w (w2.alloc (.map #[] 0)) B R1 w2.heap.size w.heap.size (w.heap.size+1) vd d [] #[O ao xs.length cap,J I full] from⟨(bm.A.trans Z).alloc _,(Td.vs.al ((bk _ _).alloc (aO _) _)),fz.alloc _,Mt.made uK dV w2 B,(cL.A.al Z.aC cL.A.lt).alloc _,(JL.A.al Z.aC JL.A.lt).alloc _,a8 bm.A.size gg,(bm.A.trans Z).size,aO _,an,di.A,an⟩);obtain⟨NM,nl,rfl,_⟩:=Td.vs.be;have uO:R1≠w2.heap.size:=mW fz.lt;clear Td fz gg Z cL JL bm HD f0 k0;have k0:=hU.A.x.cell 0;simp at k0;go_wp2;clear ka k0;obtain⟨R2,lV⟩:=aP w2.heap.size;rw[lV] at hU uO;simp only[lV];clear lV;have Eo:=E uO;clear uO;go_loopw [36] (λi wr=>∃k:Nat,k<=xs.length/\i=J I k/\a6 (gw w wr B R1 R2 w.heap.size (w.heap.size+1) (O NM d.length nl) d ((xs.take k).foldl (kr (it d) t wait keep) []) #[O ao xs.length cap,J I full])) (λi _=>xs.length-(intOf i).toNat);case atStart=>exact⟨0,an,rfl,hU⟩
 case round=>
  clear hU;obtain⟨k,hk,rfl,g⟩:=hrel;by_cases F:k<xs.length
  ·obtain⟨b,off,C,c3,rfl,cw,y0,y1,y2,y3,y4,y5,y6,bZ⟩:=HP.A.jP g.A.b.aC F;have cQ:=E (Q0 (kr (it d) t wait keep) [] F);have dn:=E (cj.A.2.2.1 xs[k] (dl F)).1;rw[MG F] at cQ dn;have aR:=E F;obtain⟨hd,rC⟩:=aP (dx xs k);obtain⟨sx,gC⟩:=aP (gl xs k);obtain⟨G,rD⟩:=aP (oO xs k);rw[rC,gC,rD] at cQ;rw[rC] at y1 y2 y3 y4;rw[gC] at y5;rw[rD] at y6;generalize cX xs k=L3 at*;obtain⟨ho,hs,hh,U⟩:=hd;clear rC gC rD;dsimp only at y1 y2 y3 y4 dn;generalize(xs.take k).foldl (kr (it d) t wait keep) []=m at*;have mS:=g.A.b.size;have Ep:=E mS;have gv:=E (g.A.alloc (aD #[O C L3.length c3,aG ho,J I hs,aG hh,J I U,J I sx,J I G] 62));have eH:=E (bZ.al ((bk _ _).alloc (aO _) (aD #[O C L3.length c3,aG ho,J I hs,aG hh,J I U,J I sx,J I G] 62)));have zY:=E (aI.new wr 62 #[O C L3.length c3,aG ho,J I hs,aG hh,J I U,J I sx,J I G]);clear g bZ mS;have g0:=zY.A.cell 0;simp at g0;go_wp2_with fail;refine(S2 _ eH.A dn.A).ah ?_;rintro e R⟨rfl,Z⟩;have X:=E (gv.A.rel Z);have je:=E (eH.A.al Z.aC);have Er:=E (zY.A.al Z.aC zY.A.lt);clear Z gv eH zY g0 y0 y1 y2 y3 y4 y5 y6;have rX:(ap (sM L3))=uK.kv L3:=rfl;rcases X.A.r1.look (a:=L3) dn.A underlying280 (z:=aY #[O M 0 0,J I 0,J I 0]) ar true with⟨hn,fk⟩|⟨f,v1,fo,zT,fk⟩
   ·rw[<-rX] at fk;simp only[if_true] at fk;have HQ:=E (λS N h1 h2=>abQ (m:=m) (L:=L3) (h:=⟨ho,hs,hh,U⟩) (st:=sx) (v:=G) (t:=t) (wait:=wait) (keep:=keep) (S:=S) (N:=N) (show(gF (it d) L3).isSome=false by rw[hn];rfl) h1 h2 (show _=G by rw[hn]));clear hn;clear rX;have H:=E (X.A.alloc (aD #[O M 0 0,J I 0,J I 0] 286));have pN:=E (je.A.al ((bk _ _).alloc (aO _) (aD #[O M 0 0,J I 0,J I 0] 286)));have D:=E (Er.A.alloc (aD #[O M 0 0,J I 0,J I 0] 286));have wl:=E (aI.new R 286 #[O M 0 0,J I 0,J I 0]);clear X je Er;have g1:=D.A.cell;have K:=E (QO ho hs hh U false t wait keep (R.alloc (aD #[O M 0 0,J I 0,J I 0] 286)));obtain⟨S,V⟩:=aP (pv ⟨ho,hs,hh,U⟩ false t wait);rw[V] at K;obtain⟨N,T⟩:=aP (aL S t keep);rw[T] at K;have mL:=E (HQ.A S N V T);clear HQ V T;rw[mL.A] at cQ;clear mL;obtain⟨s1,s2,s3,s4⟩:=S;have xV:=E (show aN aH 188 #[aY #[aG ho,J I hs,aG hh,J I U],aG false,J I t,J I wait,J I keep] (R.alloc (aD #[O M 0 0,J I 0,J I 0] 286)) λe w'=>e=aQ (bn #[aY #[aG s1,J I s2,aG s3,J I s4],J I N])/\aS (R.alloc (aD #[O M 0 0,J I 0,J I 0] 286)).heap.size (R.alloc (aD #[O M 0 0,J I 0,J I 0] 286)) w' from K.A);clear K;go_wp2_with fail;refine xV.A.ah ?_;rintro e w7⟨rfl,Z⟩;have o8:=E (H.A.al Z);have xT:=E (pN.A.al Z);have xU:=E (D.A.al Z D.A.lt);have Tb:=E (wl.A.al Z wl.A.lt);clear Z xV H pN D wl g1;have⟨g0,f1⟩:=xU.A.cf;have rP:=E (abP o8.A xU.A Ep.A (aG s1) (J I s2) (aG s3) (J I s4) (J I N));have zX:=E (al7 xU.A (aG s1) (J I s2) (aG s3) (J I s4) (J I N));have zZ:=abO (B:=B) xU.A (a8 di.A Ep.A) (aG s1) (J I s2) (aG s3) (J I s4) (J I N);have rV:=E (xT.A.keep zZ aq aq);clear zZ;have GG:=rP;have J5:=zX;have ud:=rV;have p0:=J5.A.cell;obtain⟨DS,bS,GF,kh,NL⟩:=GG.A.store Eo.A dn.A (x:=(⟨L3,⟨s1,s2,s3,s4⟩,N,G⟩:b8)) (v:=aY #[O C L3.length c3,aG s1,J I s2,aG s3,J I s4,J I N,J I G]) ⟨[O C L3.length c3,aG s1,J I s2,aG s3,J I s4,J I N,J I G],rfl,⟨_,rfl,ud.A⟩⟩;exact abR
   ·rw[<-rX] at fk;simp only[if_true] at fk;obtain⟨cs,rfl,v9,rfl,nT⟩:=zT;obtain⟨n,j,rfl,_⟩:=nT.be;have HQ:=E (λS N h1 h2=>abQ (m:=m) (L:=L3) (h:=⟨ho,hs,hh,U⟩) (st:=sx) (v:=G) (t:=t) (wait:=wait) (keep:=keep) (S:=S) (N:=N) (show(gF (it d) L3).isSome=true by rw[fo];rfl) h1 h2 (show _=f.x.2 by rw[fo]));clear fo nT;clear rX;have H:=E (X.A.alloc (aD #[O n f.L.length j,J I f.x.1,J I f.x.2] 286));have pN:=E (je.A.al ((bk _ _).alloc (aO _) (aD #[O n f.L.length j,J I f.x.1,J I f.x.2] 286)));have D:=E (Er.A.alloc (aD #[O n f.L.length j,J I f.x.1,J I f.x.2] 286));have wl:=E (aI.new R 286 #[O n f.L.length j,J I f.x.1,J I f.x.2]);clear X je Er;have g1:=D.A.cell;have K:=E (QO ho hs hh U true t wait keep (R.alloc (aD #[O n f.L.length j,J I f.x.1,J I f.x.2] 286)));obtain⟨S,V⟩:=aP (pv ⟨ho,hs,hh,U⟩ true t wait);rw[V] at K;obtain⟨N,T⟩:=aP (aL S t keep);rw[T] at K;have mL:=E (HQ.A S N V T);clear HQ V T;rw[mL.A] at cQ;clear mL;obtain⟨s1,s2,s3,s4⟩:=S;have xV:=E (show aN aH 188 #[aY #[aG ho,J I hs,aG hh,J I U],aG true,J I t,J I wait,J I keep] (R.alloc (aD #[O n f.L.length j,J I f.x.1,J I f.x.2] 286)) λe w'=>e=aQ (bn #[aY #[aG s1,J I s2,aG s3,J I s4],J I N])/\aS (R.alloc (aD #[O n f.L.length j,J I f.x.1,J I f.x.2] 286)).heap.size (R.alloc (aD #[O n f.L.length j,J I f.x.1,J I f.x.2] 286)) w' from K.A);clear K;go_wp2_with fail;refine xV.A.ah ?_;rintro e w7⟨rfl,Z⟩;have o8:=E (H.A.al Z);have xT:=E (pN.A.al Z);have xU:=E (D.A.al Z D.A.lt);have Tb:=E (wl.A.al Z wl.A.lt);clear Z xV H pN D wl g1;have⟨g0,f1⟩:=xU.A.cf;have rP:=E (abP o8.A xU.A Ep.A (aG s1) (J I s2) (aG s3) (J I s4) (J I N));have zX:=E (al7 xU.A (aG s1) (J I s2) (aG s3) (J I s4) (J I N));have zZ:=abO (B:=B) xU.A (a8 di.A Ep.A) (aG s1) (J I s2) (aG s3) (J I s4) (J I N);have rV:=E (xT.A.keep zZ aq aq);have bc:=E (zZ.eP Tb.A aq);clear zZ;have W9:=zX.A.put 6 (J I f.x.2);have GG:=E (rP.A.set Ep.A zX.A 6 (J I f.x.2));have J5:=E (show aI _ _ _ #[O C L3.length c3,aG s1,J I s2,aG s3,J I s4,J I N,J I f.x.2] from W9);have ud:=E (rV.A.keep ((Kt.refl B [62] _).setCell (a8 di.A Ep.A) (bp.bO zX.A) (bD.2 rfl) (o:=6) (J I f.x.2)) aq aq);clear W9;have q2:=bc.A.cell 2;have f6:=zX.A.frozen 6;have p0:=J5.A.cell;obtain⟨DS,bS,GF,kh,NL⟩:=GG.A.store Eo.A dn.A (x:=(⟨L3,⟨s1,s2,s3,s4⟩,N,f.x.2⟩:b8)) (v:=aY #[O C L3.length c3,aG s1,J I s2,aG s3,J I s4,J I N,J I f.x.2]) ⟨[O C L3.length c3,aG s1,J I s2,aG s3,J I s4,J I N,J I f.x.2],rfl,⟨_,rfl,ud.A⟩⟩;exact abR
  ·obtain rfl:k=xs.length:=by omega
   rw[pZ] at g;generalize xs.foldl (kr (it d) t wait keep) []=m1 at*;have cM:=g;clear g HP cj F;go_wp2;go_loopw [79] (λi wr=>∃k:Nat,k<=d.length/\i=J I k/\a6 (gw w wr B R1 R2 w.heap.size (w.heap.size+1) (O NM d.length nl) d ((d.take k).foldl (fx t wait keep) (m1,full)).1 #[O ao xs.length cap,J I ((d.take k).foldl (fx t wait keep) (m1,full)).2])) (λi _=>d.length-(intOf i).toNat);case atStart=>exact⟨0,an,rfl,cM⟩
   case round=>
    clear cM;obtain⟨k,hk,rfl,g⟩:=hrel;by_cases F:k<d.length
    ·obtain⟨bq,bj,IE,xh,_,y7⟩:=g.A.oI.be;obtain⟨b,off,C,c3,ha,cw,y0,y1,y2,bZ⟩:=xh.NF (bk _ _) F;cases IE;subst ha;have cQ:=E (Q0 (fx t wait keep) (m1,full) F);have dn:=E (bd.A d[k] (dl F)).1;have GH:=E (a5.A k);rw[NE F] at cQ dn;have aR:=E F;generalize zS d k=L3 at*;obtain⟨⟨f,x2⟩,hx⟩:∃x,Ce d k=x:=⟨_,rfl⟩;rw[hx] at cQ;simp only[hx] at y1 y2;clear hx;dsimp only at dn;obtain⟨⟨m,s⟩,lU⟩:∃aU,(d.take k).foldl (fx t wait keep) (m1,full)=aU:=⟨_,rfl⟩;rw[lU] at cQ g GH;clear lU;dsimp only at g GH;have Ep:=E g.A.b.size;have gv:=E (g.A.alloc (aD #[O C L3.length c3,J I f,J I x2] 286));have eH:=E (bZ.al ((bk _ _).alloc (aO _) (aD #[O C L3.length c3,J I f,J I x2] 286)));have zY:=E (aI.new wr 286 #[O C L3.length c3,J I f,J I x2]);clear g bZ xh;have g0:=zY.A.cell 0;simp at g0;go_wp2_with fail;refine(S2 _ eH.A dn.A).ah ?_;rintro e R⟨rfl,Z⟩;have X:=E (gv.A.rel Z);have je:=E (eH.A.al Z.aC);have Er:=E (zY.A.al Z.aC zY.A.lt);clear Z gv eH zY g0 y0 y1 y2;have rX:(ap (sM L3))=uK.kv L3:=rfl;rcases X.A.r2.look (a:=L3) dn.A underlying283 (z:=aY #[O M 0 0,aG false,J I 0,aG false,J I 0,J I 0,J I 0]) ar true with⟨hn,fk⟩|⟨a9,v1,fo,zT,fk⟩
     ·rw[<-rX] at fk;simp only[if_true] at fk;have HQ:=E (show fx t wait keep (m,s) ⟨L3,(f,x2)⟩=if 16<=m.length then(m,min (s+1) 9007199254740992) else(eF m L3 (FF t wait keep ⟨L3,(f,x2)⟩),s) by
       unfold fx;simp only[hn,Option.isSome_none,tL,if_false])
      clear hn rX;have H:=E (X.A.alloc (aD #[O M 0 0,aG false,J I 0,aG false,J I 0,J I 0,J I 0] 62));have pN:=E (je.A.al ((bk _ _).alloc (aO _) (aD #[O M 0 0,aG false,J I 0,aG false,J I 0,J I 0,J I 0] 62)));have D:=E (Er.A.alloc (aD #[O M 0 0,aG false,J I 0,aG false,J I 0,J I 0,J I 0] 62));clear X je Er;have cK:=H.A.r2.len 3 (t:=283) underlying283;by_cases cg:16<=m.length
      ·have uG:=E (show(d.take (k+1)).foldl (fx t wait keep) (m1,full)=(m,min (s+1) 9007199254740992) by rw[cQ.A,HQ.A,ag cg]);have f1:=H.A.x.frozen 1;have q1:=H.A.x.cell 1;have Mg:=GH.A.1;have bg:=GH.A.2;have Dx:I.wrap (s+1)=s+1:=ay;have o8:=E (show gw w _ B R1 R2 w.heap.size (w.heap.size+1) (O (ad (ab b off M)) d.length nl) d ((d.take (k+1)).foldl (fx t wait keep) (m1,full)).1 #[O ao xs.length cap,J I ((d.take (k+1)).foldl (fx t wait keep) (m1,full)).2] from by
        rw[uG.A];exact H.A.als 1 (J I (min (s+1) 9007199254740992)))
       have a2:decide (16<=(m.length:Int))=true:=ac an;clear cQ HQ uG cg;go_wp2;go_roundw;case rel=>exact⟨k+1,aR.A,by go_num,o8⟩
       case measure=>exact ax
      ·have uG:=E (show(d.take (k+1)).foldl (fx t wait keep) (m1,full)=(eF m L3 (FF t wait keep ⟨L3,(f,x2)⟩),s) by rw[cQ.A,HQ.A,af cg]);have a2:decide (16<=(m.length:Int))=false:=aa an;have bi:decide (16<=m.length)=false:=aa cg;clear cQ HQ cg;have xV:=E (λW=>QO false 0 false 0 true t wait keep W);obtain⟨S,V⟩:=aP (pv ⟨false,0,false,0⟩ true t wait);rw[V] at xV;obtain⟨N,T⟩:=aP (aL S t keep);rw[T] at xV;have uz:=E (show FF t wait keep ⟨L3,(f,x2)⟩=⟨L3,S,N,x2⟩ by subst T;subst V;rfl);rw[uz.A] at uG;clear uz V T;obtain⟨s1,s2,s3,s4⟩:=S;have aW:=E (λW=>show aN aH 188 #[aY #[aG false,J I 0,aG false,J I 0],aG true,J I t,J I wait,J I keep] W λe w'=>e=aQ (bn #[aY #[aG s1,J I s2,aG s3,J I s4],J I N])/\aS W.heap.size W w' from xV.A W);clear xV;go_wp2_with fail;refine(aW.A _).ah ?_;rintro e w7⟨rfl,Z⟩;have rP:=E ((H.A.al Z).alloc (aD #[aG s1,J I s2,aG s3,J I s4] 60));have rV:=E ((pN.A.al Z).al ((bk _ _).alloc (aO _) (aD #[aG s1,J I s2,aG s3,J I s4] 60)));have zX:=E ((D.A.al Z D.A.lt).alloc (aD #[aG s1,J I s2,aG s3,J I s4] 60));clear Z aW H pN D cK fk;have g0:=zX.A.cell;obtain⟨DS,bS,GF,kh,NL⟩:=rP.A.store Eo.A dn.A (x:=(⟨L3,⟨s1,s2,s3,s4⟩,N,x2⟩:b8)) (v:=aY #[O C L3.length c3,aG s1,J I s2,aG s3,J I s4,J I N,J I x2]) ⟨[O C L3.length c3,aG s1,J I s2,aG s3,J I s4,J I N,J I x2],rfl,⟨_,rfl,rV.A⟩⟩;have GG:=E (show gw w DS B R1 R2 w.heap.size (w.heap.size+1) (O (ad (ab b off M)) d.length nl) d ((d.take (k+1)).foldl (fx t wait keep) (m1,full)).1 #[O ao xs.length cap,J I ((d.take (k+1)).foldl (fx t wait keep) (m1,full)).2] from by
        rw[uG.A];exact GF)
       clear GF kh NL uG;go_wp2;go_roundw;case rel=>exact⟨k+1,aR.A,by go_num,GG⟩
       case measure=>exact ax
     ·rw[<-rX] at fk;simp only[if_true] at fk;obtain⟨cs,rfl,cS⟩:=zT;obtain⟨n,j,rfl,_⟩:=J1 cS;have uG:=E (show(d.take (k+1)).foldl (fx t wait keep) (m1,full)=(m,s) by
       rw[cQ.A];unfold fx;simp only[fo,Option.isSome_some,if_true])
      have o8:=E (show gw w _ B R1 R2 w.heap.size (w.heap.size+1) (O (ad (ab b off M)) d.length nl) d ((d.take (k+1)).foldl (fx t wait keep) (m1,full)).1 #[O ao xs.length cap,J I ((d.take (k+1)).foldl (fx t wait keep) (m1,full)).2] from by
       rw[uG.A];exact X.A.alloc (aD #[O n a9.L.length j,aG a9.h.on,J I a9.h.dB,aG a9.h.hit,J I a9.h.eW,J I a9.st,J I a9.v] 62))
      clear fo cS rX cQ uG X;go_wp2;go_roundw;case rel=>exact⟨k+1,aR.A,by go_num,o8⟩
      case measure=>exact ax
    ·obtain rfl:k=d.length:=by omega
     rw[pZ] at g;obtain⟨⟨m,s⟩,lU⟩:∃aU,d.foldl (fx t wait keep) (m1,full)=aU:=⟨_,rfl⟩;rw[lU] at g HE J6;clear lU;dsimp only at g HE J6;have a4:=E (λp:ba wr=>ak5 p.aL (a8 di.A (a8 g.A.b.size p.aC.size)) (g.A.r2.al p.aC) (ai J6.A.2));have q1:=ba.cells g.A.x 1;clear F;go_wp2_with fail;refine du [.q 0,.q 2,.q 3,.c 1] [4,5] ?_;refine dY ?_;refine S4.dm ?_;rintro _⟨pt,rfl⟩ KK aJ;go_simp;refine(a4.A pt).ah ?_;rintro e w9⟨⟨v9,rfl,Y,hp,aM,hO⟩,Z⟩;obtain⟨n,j,rfl,_⟩:=hO.shape;have K:=E (show Ow dV w9 B pt.aL.heap.size (O n Y.length j) Y/\Y=uh (m.map (·.2)) from⟨hO,ahu lg (λa:b8=>dG a.L) (hp.trans (Mh _ _).symm) (((hp.map _).nodup_iff).2 J6.A.1) (aM.imp λ{x y} h=>by omega) (QY lg _ _)⟩);clear hp aM hO;have rY:=E Z;refine aJ _ _ Z ?_;clear aJ KK Z;refine S4.nb λwq hq=>?_;have HY:=E ((((g.A.y.al pt.aC g.A.y.lt)).al rY.A.aC (da g.A.y.lt pt.aC.size)).al hq (da (da g.A.y.lt pt.aC.size) rY.A.size));have kd:=E (((g.A.b.trans pt.r).trans rY.A).trans (aF.of hq));have Nx:=E (K.A.1.al hq);have fR:=E g.A.g4;clear hq;have⟨z0,f0⟩:=HY.A.cf;refine dP ?_;clear z0 f0;have y:=(HY.A.put 0 (O n Y.length j)).put 1 (J I s);have k0:=y.cell;have cx:=((Kt.refl B [56] wq).setCell (a8 di.A fR.A) (bp.bO HY.A) (bD.2 rfl) (o:=0) (O n Y.length j)).setCell (a8 di.A fR.A) (bp.bO (HY.A.put 0 (O n Y.length j))) (bD.2 rfl) (o:=1) (J I s);have a3:=E (show nX _ B (aY #[O n Y.length j,J I s]) r from⟨O n Y.length j,by rw[HE.A],by rw[HE.A];show Vs dV _ B _ (uh (m.map (·.2)));rw[<-K.A.2];exact(Nx.A.keep cx aq aq).vs⟩);have Dd:=E ((kd.A.setCell (p:=⟨w.heap.size+1,0,M⟩) fR.A (O n Y.length j)).setCell (p:=⟨w.heap.size+1,1,M⟩) fR.A (J I s));clear y cx;go_wp2;refine bF (v:=aY #[O n Y.length j,J I s]) (by simp[bz,results147,go_sem,k0]) rfl ⟨⟨_,rfl,a3.A⟩,Dd.A⟩
end
variable {F:List cC}
def Rw.vR {l:List cv} (h:Rw lS w B ao n l) (hB:aS w.heap.size w wr) {k:Nat} (g:k<l.length) {x:cv} (f:l[k]=x):∃b off A2 c2 A7 c7,ao=ad (ab b off M)/\b<w.heap.size/\(wr.cell? ⟨b,off+k*8,M⟩=ad (ap x.n)/\wr.cell? ⟨b,off+k*8+1,M⟩=ad (ap x.x.s.n)/\wr.cell? ⟨b,off+k*8+2,M⟩=ad (O A2 x.x.s.aU.length c2)/\wr.cell? ⟨b,off+k*8+3,M⟩=ad (J I x.x.op)/\wr.cell? ⟨b,off+k*8+4,M⟩=ad (J I x.x.v)/\wr.cell? ⟨b,off+k*8+5,M⟩=ad (J I x.wait)/\wr.cell? ⟨b,off+k*8+6,M⟩=ad (J I x.keep)/\wr.cell? ⟨b,off+k*8+7,M⟩=ad (O A7 x.L.length c7))/\rI wr B (aY #[ap x.n,ap x.x.s.n,O A2 x.x.s.aU.length c2,J I x.x.op,J I x.x.v,J I x.wait,J I x.keep,O A7 x.L.length c7]) x:=by
 obtain⟨b,off,vs,e,Z,d,h2⟩:=h.aL hB g;rw[f] at d;obtain⟨v2,v7,rfl,q1,q2,c,a⟩:=d;obtain⟨A2,c2,rfl,_⟩:=c.be;obtain⟨A7,c7,rfl,_⟩:=a.be;exact⟨b,off,A2,c2,A7,c7,e,Z,⟨h2 0 _ rfl,h2 1 _ rfl,h2 2 _ rfl,h2 3 _ rfl,h2 4 _ rfl,h2 5 _ rfl,h2 6 _ rfl,h2 7 _ rfl⟩,⟨_,rfl,_,_,rfl,q1,q2,c,a⟩⟩
def BV (w:aB) (B:Nat) (v:aE) (x:cC):Prop:=Av fG w B x v
def BV.be {x:cC} (h:BV w B v x):∃a c3,v=aY #[ap x.n,J I x.br,J I x.off,O a x.R.length c3]/\x.n.size<=9223372036854775807/\Vs lS w B (O a x.R.length c3) x.R:=by
 obtain⟨cs,rfl,v3,rfl,c,b⟩:=h;obtain⟨a,c3,rfl,_⟩:=b.be;exact⟨a,c3,rfl,c,b⟩
def Rw.gr {l:List cC} (h:Rw fG w B ao n l) (hB:aS w.heap.size w wr) {k:Nat} (g:k<l.length) {x:cC} (f:l[k]=x):∃b off a c3,ao=ad (ab b off M)/\b<w.heap.size/\(wr.cell? ⟨b,off+k*4,M⟩=ad (ap x.n)/\wr.cell? ⟨b,off+k*4+1,M⟩=ad (J I x.br)/\wr.cell? ⟨b,off+k*4+2,M⟩=ad (J I x.off)/\wr.cell? ⟨b,off+k*4+3,M⟩=ad (O a x.R.length c3))/\BV wr B (aY #[ap x.n,J I x.br,J I x.off,O a x.R.length c3]) x:=by
 obtain⟨b,off,vs,e,Z,d,h2⟩:=h.aL hB g;rw[f] at d;obtain⟨v3,rfl,q1,c⟩:=d;obtain⟨a,c3,rfl,_⟩:=c.be;exact⟨b,off,a,c3,e,Z,⟨h2 0 _ rfl,h2 1 _ rfl,h2 2 _ rfl,h2 3 _ rfl⟩,⟨_,rfl,_,rfl,q1,c⟩⟩
def ajS {l:List cv} {name:ByteArray} (a:k<l.length):(l.drop k).any (λr=>decide (r.n=name))=(decide (l[k].n=name)||(l.drop (k+1)).any (λr=>decide (r.n=name))):=by
 rw[pf a,List.any_cons]
theorem aaq (h:P:=by
 clear bg HE hv hx;have zu:=j9 x.n name;cases Z:decide (x.n=name) with
 |true=>
  rw[Z] at zu HT;have HF:=E (show r=true by rw[HT.A];rfl);have hq:x.n.toList=name.toList:=beq_iff_eq.1 zu;clear Z HT;go_wp2;go_ret;exact⟨cc HF.A.symm,bm.A⟩
 |false=>
  rw[Z] at zu HT;have HF:=E (show(l.drop (k+1)).any (λr=>decide (r.n=name))=r by rw[HT.A];rfl);clear Z HT;go_wp2;go_roundw;case rel=>exact⟨k+1,aR.A,by go_num,bm.A,HF⟩
  case measure=>exact ax
 ):P:=h
theorem aar (h:P:=by
 obtain rfl:k=l.length:=an;have HF:=E (show r=false by rw[<-HE.A,qT];rfl);go_wp2;go_ret;exact⟨cc HF.A.symm,bg⟩;):P:=h
def aas {l:List cv} (name:ByteArray) (w:aB) (h:Vs lS w B v l):aN aH 59 #[v,ap name] w λe w'=>e=aQ (aG (l.any λr=>decide (r.n=name)))/\aF w w':=by
 have d:=E (show(l.drop 0).any (λr=>decide (r.n=name))=l.any (λr=>decide (r.n=name)) from rfl);generalize l.any (λr=>decide (r.n=name))=r at d⊢;obtain⟨ao,c,rfl,f,y,z⟩:=h.be;clear h;have g:=E f;clear f;go_enter func59,ntmps59;go_wp2;go_loopw [9] (λi wr=>∃k:Nat,k<=l.length/\i=J I k/\aF w wr/\a6 ((l.drop k).any (λr=>decide (r.n=name))=r)) (λi _=>l.length-(intOf i).toNat);case atStart=>exact⟨0,an,rfl,aF.refl _,d⟩
 case round=>
  clear d;obtain⟨k,t,rfl,bg,HE⟩:=hrel;by_cases a:k<l.length
  ·obtain⟨x,hx⟩:=aP (l[k]);obtain⟨b,off,A2,c2,A7,c7,rfl,u,⟨s,q,p,o,n,m,j,A⟩,hv⟩:=g.A.vR bg.aC a hx;have HT:=E (ajS (name:=name) a);rw[hx,HE.A] at HT;have aR:=E a;have bm:=E (bg.alloc (aD #[ap x.n,ap x.x.s.n,O A2 x.x.s.aU.length c2,J I x.x.op,J I x.x.v,J I x.wait,J I x.keep,O A7 x.L.length c7] 51));exact aaq
  ·exact aar
def ajT {l:List cC} {name:ByteArray} (a:k<l.length):(l.drop k).any (λr=>decide (r.n=name))=(decide (l[k].n=name)||(l.drop (k+1)).any (λr=>decide (r.n=name))):=by
 rw[pf a,List.any_cons]
def aat {l:List cC} (name:ByteArray) (w:aB) (h:Vs fG w B v l):aN aH 42 #[v,ap name] w λe w'=>e=aQ (aG (l.any λr=>decide (r.n=name)))/\aF w w':=by
 have d:=E (show(l.drop 0).any (λr=>decide (r.n=name))=l.any (λr=>decide (r.n=name)) from rfl);generalize l.any (λr=>decide (r.n=name))=r at d⊢;obtain⟨ao,c,rfl,f,t,u⟩:=h.be;clear h;have g:=E f;clear f;go_enter func42,ntmps42;go_wp2;go_loopw [9] (λi wr=>∃k:Nat,k<=l.length/\i=J I k/\aF w wr/\a6 ((l.drop k).any (λr=>decide (r.n=name))=r)) (λi _=>l.length-(intOf i).toNat);case atStart=>exact⟨0,an,rfl,aF.refl _,d⟩
 case round=>
  clear d;obtain⟨k,q,rfl,bg,HE⟩:=hrel;by_cases a:k<l.length
  ·obtain⟨x,hx⟩:=aP (l[k]);obtain⟨b,off,j,c3,rfl,s,⟨p,o,n,m⟩,hv⟩:=g.A.gr bg.aC a hx;have HT:=E (ajT (name:=name) a);rw[hx,HE.A] at HT;have aR:=E a;have bm:=E (bg.alloc (aD #[ap x.n,J I x.br,J I x.off,O j x.R.length c3] 43));exact aaq
  ·exact aar
theorem aau (h:P:=by
 repeat (
  refine S4.step (λKK aJ=>?_);go_simp;first
   |(refine aJ _ ?_;clear aJ KK)
   |(apply lL;refine⟨λ_=>?_,aJ _ ?_⟩;(first|(with_reducible exact aN.seq (C1.A _))|(with_reducible exact aN.seq (C2.A _)));clear aJ KK))
 refine S4.nb λwq hq=>?_;refine dP ?_;go_wp2;go_roundw;case rel=>exact⟨k+1,aR.A,by go_num,gu.A.next hq,aav⟩
 case measure=>exact ax
 ):P:=h
theorem aaw (h:P:=by
 refine du (cU 0 12 []) [] ?_;repeat (
  refine S4.step (λKK aJ=>?_);go_simp;first
   |(refine aJ _ ?_;clear aJ KK)
   |(apply lL;refine⟨λ_=>?_,aJ _ ?_⟩;(first|(with_reducible exact aN.seq (C1.A _))|(with_reducible exact aN.seq (C2.A _)));clear aJ KK))
 refine S4.nb λwq hq=>?_;refine dP ?_;go_wp2;go_ret;exact⟨cc HF.A.symm,(b3.A.next hq)⟩;):P:=h
theorem Js (h:P:=by
 go_enter func41,ntmps41;go_wp2_with fail;refine(N0.A _).ah ?_;rintro e w1⟨rfl,rfl⟩;go_wp2_with fail;refine(Ga.A _).ah ?_;rintro e w1⟨rfl,rfl⟩;go_wp2;go_ret;exact⟨cc HF.A.symm,cV.A⟩;):P:=h
def ajU {x:cC} (w:aB) (h:BV w B v x):aN aH 41 #[v] w λe w'=>e=aQ (aG (lY x))/\aF w w':=by
 obtain⟨A,c3,rfl,hn,D⟩:=h.be;have a:=E (show lY x=(db x.n&&gm x.br&&!decide (x.br=0)&&(decide (0<=x.off)&&decide (x.off<x.br))&&decide (x.R.length<=16)&&cI x.R.length (lX x.R)) from rfl);generalize lY x=r at a⊢;have cV:=E ((aF.refl w).alloc (aD #[ap x.n,J I x.br,J I x.off,O A x.R.length c3] 43));have HX:=E (aI.new w 43 #[ap x.n,J I x.br,J I x.off,O A x.R.length c3]);have N0:=E (λW=>mu x.n W hn);have Ga:=E (λW=>Jm x.br W);obtain⟨Aq,cap,R5,F,N,Z⟩:=D.be;cases R5;have S:=E F;clear h D F;have U:=HX.A.cell;cases cN:db x.n with
 |false=>
  rw[cN] at N0;have HF:=E (show r=false by rw[a.A];simp[cN]);go_enter func41,ntmps41;go_wp2_with fail;refine(N0.A _).ah ?_;rintro e w1⟨rfl,rfl⟩;go_wp2;go_ret;exact⟨cc HF.A.symm,cV.A⟩
 |true=>
 rw[cN] at N0;cases g:gm x.br with
 |false=>
  rw[g] at Ga;have HF:=E (show r=false by rw[a.A];simp[cN,g]);exact Js
 |true=>
 rw[g] at Ga;by_cases c:x.br=0
 ·have e0:(x.br==0)=true:=by simp;exact c
  have HF:=E (show r=false by rw[a.A];simp[c]);clear c;exact Js
 have e0:(x.br==0)=false:=by simp;exact c
 have d:decide (x.br=0)=false:=aa c;by_cases z:0<=x.off;case neg=>
  have L:decide (x.off<0)=true:=ac an;have HF:=E (show r=false by rw[a.A];simp[z]);exact Js
 have L:decide (x.off<0)=false:=aa an;by_cases m:x.off<x.br;case neg=>
  have K:decide (x.br<=x.off)=true:=ac an;have HF:=E (show r=false by rw[a.A];simp[m]);exact Js
 have K:decide (x.br<=x.off)=false:=aa an;by_cases s:x.R.length<=16;case neg=>
  have H:decide (16<(x.R.length:Int))=true:=ac an;have R:decide (16<x.R.length)=true:=ac an;have HF:=E (show r=false by rw[a.A];simp[s]);exact Js
 have H:decide (16<(x.R.length:Int))=false:=aa an;have R:decide (16<x.R.length)=false:=aa an;have q:=E (show r=cI x.R.length (lX x.R) by rw[a.A,cN,g,d,ac z,ac m,ac s];simp);have G:=E (λ(h:cI x.R.length (lX x.R)=false)=>show r=false by rw[q.A,h]);have T:=E (λ(h:cI x.R.length (lX x.R)=true)=>show r=true by rw[q.A,h]);clear q a cN g c d z m s;go_enter func41,ntmps41;go_wp2_with fail;refine(N0.A _).ah ?_;rintro e w1⟨rfl,rfl⟩;go_wp2_with fail;refine(Ga.A _).ah ?_;rintro e w1⟨rfl,rfl⟩;clear N0 Ga;go_wp2;clear e0 L K H R U;go_loopw [39] (λi wr=>∃k:Nat,k<=x.R.length/\i=J I k/\aF (w.alloc (aD #[ap x.n,J I x.br,J I x.off,O A x.R.length c3] 43)) wr/\a6 (cI k (lX x.R)=true)) (λi _=>x.R.length-(intOf i).toNat);case atStart=>exact⟨0,an,rfl,aF.refl _,E rfl⟩
 case round=>
  obtain⟨k,o,rfl,f,t⟩:=hrel;by_cases u:k<x.R.length
  ·obtain⟨y,n⟩:=aP (x.R[k]);obtain⟨b,off,A2,c2,A7,c7,rfl,cw,⟨y0,y1,y2,y3,y4,y5,y6,F9⟩,hv⟩:=S.A.vR (cV.A.trans f).aC u n;have HK:=E (show lX x.R k=(ku y&&!((x.R.take k).any λr=>decide (r.n=y.n))) by
    unfold lX rN;rw[dr u,n])
   have aR:=E u;have b3:=E ((cV.A.trans f).alloc (aD #[ap y.n,ap y.x.s.n,O A2 y.x.s.aU.length c2,J I y.x.op,J I y.x.v,J I y.wait,J I y.keep,O A7 y.L.length c7] 51));have gu:=E (f.alloc (aD #[ap y.n,ap y.x.s.n,O A2 y.x.s.aU.length c2,J I y.x.op,J I y.x.v,J I y.wait,J I y.keep,O A7 y.L.length c7] 51));have V:=E (aI.new wr 51 #[ap y.n,ap y.x.s.n,O A2 y.x.s.aU.length c2,J I y.x.op,J I y.x.v,J I y.wait,J I y.keep,O A7 y.L.length c7]);have X:=E (hv.al ((bk _ _).alloc (aO _) (aD #[ap y.n,ap y.x.s.n,O A2 y.x.s.aU.length c2,J I y.x.op,J I y.x.v,J I y.wait,J I y.keep,O A7 y.L.length c7] 51)));have C1:=E (λp:ba (wr.alloc (aD #[ap y.n,ap y.x.s.n,O A2 y.x.s.aU.length c2,J I y.x.op,J I y.x.v,J I y.wait,J I y.keep,O A7 y.L.length c7] 51))=>(M3 p.aL (X.A.al p.aC)).mono λ_ _ h=>(⟨h.1,h.2.aC⟩:_/\aS p.aL.heap.size p.aL _));have Y:=E (S.A.take (i:=k) o);have C2:=E (λp:ba (wr.alloc (aD #[ap y.n,ap y.x.s.n,O A2 y.x.s.aU.length c2,J I y.x.op,J I y.x.v,J I y.wait,J I y.keep,O A7 y.L.length c7] 51))=>(aas y.n p.aL (show Vs lS p.aL B (O (ad (ab b off M)) k c3) (x.R.take k) from⟨_,_,_,rfl,Y.A.al (b3.A.aC.trans (p.aC.mono b3.A.size)),a8 o N,Z⟩)).mono λ_ _ h=>(⟨h.1,h.2.aC⟩:_/\aS p.aL.heap.size p.aL _));have hcut:=λW=>O4 underlying41 8 (show(aH.info? 51).map (·.size)=ad 8 by kernel_rfl) (ad (ab b off M)) x.R.length c3 k (a8 o N) W;have q0:=ba.cells V.A;have C:=(HX.A.al f.aC HX.A.lt).alloc (aD #[ap y.n,ap y.x.s.n,O A2 y.x.s.aU.length c2,J I y.x.op,J I y.x.v,J I y.wait,J I y.keep,O A7 y.L.length c7] 51);have z3:=ba.cells C 3;clear C;have l:=E (mw.1 t.A);clear hv n t;go_wp2_with fail;cases hs:ku y with
   |false=>
    rw[hs] at C1 HK;have HF:=E (show r=false from G.A (tV aR.A aqm));clear hs HK l;exact aaw
   |true=>
    rw[hs] at C1 HK;cases j:(x.R.take k).any (λr=>decide (r.n=y.n)) with
    |true=>
     rw[j] at C2 HK;have HF:=E (show r=false from G.A (tV aR.A aqm));clear hs j HK l;exact aaw
    |false=>
     rw[j] at C2 HK;have aav:=E (show cI (k+1) (lX x.R)=true from wW (mw.2 l.A) aqm);clear hs j HK l;refine du (cU 0 12 []) [] ?_;exact aau
  ·obtain rfl:k=x.R.length:=by omega
   have HF:=E (show r=true from T.A t.A);go_wp2;go_ret;exact⟨cc HF.A.symm,cV.A.trans f⟩
theorem aax (h:P:=by
 refine du (cU 0 11 []) [] ?_;repeat (
  refine S4.step (λKK aJ=>?_);go_simp;first
   |(refine aJ _ ?_;clear aJ KK)
   |(apply lL;refine⟨λ_=>?_,aJ _ ?_⟩;(first|(with_reducible exact aN.seq (C1.A _))|(with_reducible exact aN.seq (C2.A _)));clear aJ KK))
 refine S4.nb λwq hq=>?_;refine dP ?_;go_wp2;go_ret;exact⟨cc HF.A.symm,(b3.A.next hq)⟩;):P:=h
def R6 (w:aB) (h:Vs fG w B v F):aN aH 22 #[v] w λe w'=>e=aQ (aG (jf F))/\aF w w':=by
 obtain⟨ao,cap,rfl,t,z,L⟩:=h.be;have j:=E (show jf F=(decide (F.length<=16)&&cI F.length (nY F)) from rfl);generalize jf F=r at j⊢;have C:=E t;have f:=E (aF.refl w);clear h t;by_cases d:F.length<=16;case neg=>
  have HF:=E (show r=false by rw[j.A];simp[d]);have x:decide (16<(F.length:Int))=true:=ac an;have A:decide (16<F.length)=true:=ac an;clear d;go_enter func22,ntmps22;go_wp2;go_ret;exact⟨cc HF.A.symm,f.A⟩
 have x:decide (16<(F.length:Int))=false:=aa an;have A:decide (16<F.length)=false:=aa an;have o:=E (show r=cI F.length (nY F) by rw[j.A,ac d];simp);have u:=E (λ(h:cI F.length (nY F)=false)=>show r=false by rw[o.A,h]);have D:=E (λ(h:cI F.length (nY F)=true)=>show r=true by rw[o.A,h]);clear o j d;go_enter func22,ntmps22;go_wp2;clear x A;go_loopw [10] (λi wr=>∃k:Nat,k<=F.length/\i=J I k/\aF w wr/\a6 (cI k (nY F)=true)) (λi _=>F.length-(intOf i).toNat);case atStart=>exact⟨0,an,rfl,aF.refl _,E rfl⟩
 case round=>
  obtain⟨k,n,rfl,g,q⟩:=hrel;by_cases s:k<F.length
  ·obtain⟨y,m⟩:=aP (F[k]);obtain⟨b,off,a,c4,rfl,V,⟨T,S,R,N⟩,hv⟩:=C.A.gr (f.A.trans g).aC s m;have HK:=E (show nY F k=(lY y&&!((F.take k).any λr=>decide (r.n=y.n))) by
    unfold nY Mm;rw[dr s,m])
   have aR:=E s;have b3:=E ((f.A.trans g).alloc (aD #[ap y.n,J I y.br,J I y.off,O a y.R.length c4] 43));have gu:=E (g.alloc (aD #[ap y.n,J I y.br,J I y.off,O a y.R.length c4] 43));have G:=E (aI.new wr 43 #[ap y.n,J I y.br,J I y.off,O a y.R.length c4]);have H:=E (hv.al ((bk _ _).alloc (aO _) (aD #[ap y.n,J I y.br,J I y.off,O a y.R.length c4] 43)));have C1:=E (λp:ba (wr.alloc (aD #[ap y.n,J I y.br,J I y.off,O a y.R.length c4] 43))=>(ajU p.aL (H.A.al p.aC)).mono λ_ _ h=>(⟨h.1,h.2.aC⟩:_/\aS p.aL.heap.size p.aL _));have K:=E (C.A.take (i:=k) n);have C2:=E (λp:ba (wr.alloc (aD #[ap y.n,J I y.br,J I y.off,O a y.R.length c4] 43))=>(aat y.n p.aL (show Vs fG p.aL B (O (ad (ab b off M)) k cap) (F.take k) from⟨_,_,_,rfl,K.A.al (b3.A.aC.trans (p.aC.mono b3.A.size)),a8 n z,L⟩)).mono λ_ _ h=>(⟨h.1,h.2.aC⟩:_/\aS p.aL.heap.size p.aL _));have hcut:=λW=>O4 underlying25 4 (show(aH.info? 43).map (·.size)=ad 4 by kernel_rfl) (ad (ab b off M)) F.length cap k (a8 n z) W;have U:=ba.cells G.A;have l:=E (mw.1 q.A);clear hv m q;go_wp2_with fail;cases hs:lY y with
   |false=>
    rw[hs] at C1 HK;have HF:=E (show r=false from u.A (tV aR.A aqm));clear hs HK l;exact aax
   |true=>
    rw[hs] at C1 HK;cases c:(F.take k).any (λr=>decide (r.n=y.n)) with
    |true=>
     rw[c] at C2 HK;have HF:=E (show r=false from u.A (tV aR.A aqm));clear hs c HK l;exact aax
    |false=>
     rw[c] at C2 HK;have aav:=E (show cI (k+1) (nY F)=true from wW (mw.2 l.A) aqm);clear hs c HK l;refine du (cU 0 11 []) [] ?_;exact aau
  ·obtain rfl:k=F.length:=by omega
   have HF:=E (show r=true from D.A q.A);go_wp2;go_ret;exact⟨cc HF.A.symm,f.A.trans g⟩
variable {tabs:List cy}
def NN:(aH.info? 56).map (λi=>(i.zero,i.size,i.bytes))=ad (ad (aY #[O M 0 0,J I 0]),2,32):=ar
def abT:jb.e∉jb.bI:=aq
def Rw.Cm {l:List cy} (h:Rw jb w B ao n l) (hB:aS w.heap.size w wr) {k:Nat} (g:k<l.length) {x:cy} (f:l[k]=x):∃b off a c3,ao=ad (ab b off M)/\b<w.heap.size/\wr.cell? ⟨b,off+k*2,M⟩=ad (O a x.ao.length c3)/\wr.cell? ⟨b,off+k*2+1,M⟩=ad (J I x.full)/\Vs dV wr B (O a x.ao.length c3) x.ao:=by
 obtain⟨b,off,vs,e,Z,d,h2⟩:=h.aL hB g;rw[f] at d;obtain⟨v0,rfl,c⟩:=d;obtain⟨a,c3,rfl,_⟩:=c.be;exact⟨b,off,a,c3,e,Z,h2 0 _ rfl,h2 1 _ rfl,c⟩
def alw (h:k<tabs.length):sQ tabs k=tabs[k]:=by unfold sQ;rw[dd,cR h];rfl
def alx (h:¬k<tabs.length):sQ tabs k=jN:=by unfold sQ;rw[dd,List.getElem?_eq_none an];rfl
def aly {t:Int} {l:List cv} (a:k<l.length) (s:List cr×List cy×Int):(l.drop k).foldl (vD tabs t) s=(l.drop (k+1)).foldl (vD tabs t) (vD tabs t s l[k]):=by
 rw[pf a];rfl
def abU (st:List cr) (r:cv) (t:Int):(sP st r t).length<=32:=by
 unfold sP;split
 ·have:∀(l A:List cJ),(l.foldl (kc r) A).length<=A.length+l.length:=by
   intro l;induction l with
   |nil=>intro A;simp
   |cons f l b=>
    intro A;have a:=b (kc r A f);have h2:(kc r A f).length<=A.length+1:=by
     unfold kc;split
     ·split
      ·omega
      ·split
       ·omega
       ·simp
     ·omega
    simp only[List.foldl_cons,pY];omega
  have a:=this (zg st r.x.s t 300000) [];have h2:=abF st r.x.s t 300000;simp at a;omega
 ·simp
theorem abV (h:P:=by
 rw[hT] at NP;have gZ:=E hT;obtain⟨u7,rfl,Te⟩:=NP.A;obtain⟨A8,kb,rfl,_⟩:=Te.be;have J7:=E ((NQ.A.trans wk.r).trans Z);have GI:=E ((J8.A.al wk.aC J8.A.lt).al Z.aC (da J8.A.lt wk.aC.size));have Es:=E Te;refine aJ _ _ Z ?_;clear aJ KK Z NP Te hT Et J8 NR NS fy;refine S4.nb λwq hq=>?_;have BO:=E (J7.A.next hq);have J9:=E (GI.A.al hq GI.A.lt);have HU8:=E (Es.A.al hq);clear hq J7 GI Es;have⟨z0,f0⟩:=J9.A.cf;refine dP ?_;clear f0 z0;have NT:=E (show aI _ (wr.heap.size+1) 56 #[O A8 T.ao.length kb,J I T.full] from(J9.A.put 0 (O A8 T.ao.length kb)).put 1 (J I T.full));have cx:=((Kt.refl B [56] wq).setCell (o:=0) (a8 di.A (a8 (bR.A.trans uP.A).size (mg _))) (bp.bO J9.A) (bD.2 rfl) (O A8 T.ao.length kb)).setCell (o:=1) (a8 di.A (a8 (bR.A.trans uP.A).size (mg _))) (bp.bO (J9.A.put 0 (O A8 T.ao.length kb))) (bD.2 rfl) (J I T.full);have Cn:=E (HU8.A.keep cx aq aq);have rK:=E ((BO.A.setCell (p:=⟨wr.heap.size+1,0,M⟩) (mg _) (O A8 T.ao.length kb)).setCell (p:=⟨wr.heap.size+1,1,M⟩) (mg _) (J I T.full));clear cx J9 HU8 BO;have z0:=NT.A.cell;have Jy:=E (alq (B:=B) (vs:=O As1 s.length cs1) (v:=aY #[O A8 T.ao.length kb,J I T.full]) (st:=s) (x:=T) t _ (cY.A.rel (bR.A.trans (uP.A.trans rK.A))) (a8 di.A (bR.A.trans (uP.A.trans rK.A)).size) (xO.A.al rK.A.aC) ⟨_,rfl,Cn.A⟩);have Co:=E (YC s T t).2;have uQ:=E (show vD tabs t (s,A,o) x=((ui s T t).1,A++[T],o+(ui s T t).2) by
  unfold vD;simp only[ny.A.1,Gi.A,gZ.A])
 rw[uQ.A] at HD;obtain⟨⟨s2,o2⟩,hso⟩:∃y,ui s T t=y:=⟨_,rfl⟩;rw[hso] at Jy Co HD;clear hso uQ gZ;dsimp only at Jy Co HD;go_wp2_with fail;refine Jy.A.ah ?_;rintro e DS⟨⟨a1,rfl,abW⟩,Z⟩;have Tf:=E (rK.A.trans Z);have HUa:=E (Cn.A.al Z.aC);have hYa:=NT.A.al Z.aC NT.A.lt;have HVa:=E abW;have HOa:=E (qC.A.al Tf.A.aC);clear z0 Z Jy rK NT Cn abW;have z0:=hYa.cell;clear hYa;have xX:I.wrap (o+o2)=o+o2:=by have:=ny.A;have:=Co.A;have:=aR.A;have:=qF.A;rw[b7];omega
 go_wp2_with ((refine uv jb au (.tmp 53) (.tmp 55) 53 au w1.heap.size 32 _ ar NN au aq B _ A au DS [O A8 T.ao.length kb,J I T.full] T au HOa.A ⟨_,rfl,HUa.A⟩ (ak ny.A.1 aR.A qF.A) (uP.A.trans Tf.A).size (a8 di.A bR.A.size) abT ?_;intro v' w' bC fA eZ pI));go_roundw;case rel=>exact⟨k+1,(s2,A++[T],o+o2),aR.A,by go_num,rfl,fA w1 (uP.A.trans Tf.A) (aO _),HVa.A.keep eZ aq aq,bC,E ⟨by have:=ny.A;have:=Co.A;simp;omega,HD.A.symm⟩⟩
 case measure=>exact ax
 ):P:=h
def alz {vs Tg vt:aE} {st:List cr} {g:cC} (t:Int) (w:aB) (hG:eK w) (hB:B<=w.heap.size) (ht:-9223372036854775808<=t/\t<=9007199254740992) (cg:g.R.length<=16) (hs:Vs dO w B vs st) (h:BV w B Tg g) (zR:Vs jb w B vt tabs):aN aH 109 #[vs,Tg,vt,J I t] w λe w'=>(∃v1 v2,e=aQ (bn #[v1,v2,J I (np st g tabs t).2.2])/\Vs dO w' B v1 (np st g tabs t).1/\Ow jb w' B w.heap.size v2 (np st g tabs t).2.1)/\aF w w':=by
 have cY:=E hG;have di:=E hB;have HT:=E ht;have HC:=E (λW (Z:aS w.heap.size w W)=>abK W (hs.al Z));have HV:=E (L7 hs);have HR:=E (show np st g tabs t=(g.R.drop 0).foldl (vD tabs t) (gS st,[],0) from rfl);generalize np st g tabs t=r at HR⊢;obtain⟨r1,r2,wP⟩:=r;dsimp only;obtain⟨A3,c3,rfl,hn,H⟩:=h.be;generalize h9:(if eY st=true then vs else _:aE)=jg at HC HV;clear h9;generalize gS st=s0 at*;obtain⟨FC,cs,m,_⟩:=hs.be;subst m;obtain⟨At,kG,rfl,G,a2,LO⟩:=zR.be;have NU:=E G;obtain⟨Aq,kE,R5,hP,cn,b4⟩:=H.be;cases R5;have HP:=E hP;have qF:=E cg;have HB:=E ((aF.refl w).alloc (aD #[ap g.n,J I g.br,J I g.off,O A3 g.R.length c3] 43));have HX:=E (aI.new w 43 #[ap g.n,J I g.br,J I g.off,O A3 g.R.length c3]);clear h hs hB hG zR G H hP ht;go_enter func109,ntmps109;go_wp2_with fail;refine(HC.A _ HB.A.aC).ah ?_;rintro e w1⟨rfl,Z⟩;have bR:=E (HB.A.trans Z);have nK:=E (HX.A.al Z.aC HX.A.lt);have ln:=E (HV.A.al bR.A.aC);clear Z HC HB HX HV;have q3:=nK.A.cell 3;go_wp2;clear q3;go_loopw [0,11,12,22] (λa c o i wr=>∃(k:Nat) (s:List cr×List cy×Int),k<=g.R.length/\i=J I k/\o=J I s.2.2/\aF w1 wr/\Vs dO wr B a s.1/\Ow jb wr B w1.heap.size c s.2.1/\a6 ((s.2.1.length=k/\0<=s.2.2/\s.2.2<=16*k)/\(g.R.drop k).foldl (vD tabs t) s=(r1,r2,wP))) (λ_ _ _ i _=>g.R.length-(intOf i).toNat);case atStart=>exact⟨0,(s0,[],0),an,rfl,rfl,aF.refl _,ln.A,Ow.bh _ _ _ _,E ⟨av,HR.A.symm⟩⟩
 case round=>
  clear ln HR;obtain⟨k,⟨s,A,o⟩,hk,rfl,rfl,u,m,K,q⟩:=hrel;obtain⟨As1,cs1,rfl,_⟩:=m.be;dsimp only at m K q;by_cases aK:k<g.R.length
  ·obtain⟨x,U⟩:=aP (g.R[k]);obtain⟨b,off,A2,c2,A7,c7,rfl,cw,⟨y0,y1,y2,y3,y4,y5,y6,F9⟩,hv⟩:=HP.A.vR (bR.A.trans u).aC aK U;have HD:=E (aly (tabs:=tabs) (t:=t) aK (s,A,o));rw[q.A.2,U] at HD;have ny:=E q.A.1;have aR:=E aK;clear U q;have uN:=E ((u.alloc (aD #[ap x.n,ap x.x.s.n,O A2 x.x.s.aU.length c2,J I x.x.op,J I x.x.v,J I x.wait,J I x.keep,O A7 x.L.length c7] 51)).alloc (aD #[O M 0 0,J I 0] 56));have vu:=E ((bk wr.heap.size wr).alloc (aO _) (aD #[ap x.n,ap x.x.s.n,O A2 x.x.s.aU.length c2,J I x.x.op,J I x.x.v,J I x.wait,J I x.keep,O A7 x.L.length c7] 51)|>.alloc (Nat.le_of_lt av) (aD #[O M 0 0,J I 0] 56));have xO:=E m;have qC:=E K;have mR:=E hv;have eU:=E ((aI.new wr 51 #[ap x.n,ap x.x.s.n,O A2 x.x.s.aU.length c2,J I x.x.op,J I x.x.v,J I x.wait,J I x.keep,O A7 x.L.length c7]).alloc (aD #[O M 0 0,J I 0] 56));have tp:=E (show aI _ (wr.heap.size+1) _ _ by
    have:=aI.new (wr.alloc (aD #[ap x.n,ap x.x.s.n,O A2 x.x.s.aU.length c2,J I x.x.op,J I x.x.v,J I x.wait,J I x.keep,O A7 x.L.length c7] 51)) 56 #[O M 0 0,J I 0];rwa[eO] at this)
   have uP:=E u;have BI:=E (((aF.refl wr).alloc (aD #[ap x.n,ap x.x.s.n,O A2 x.x.s.aU.length c2,J I x.x.op,J I x.x.v,J I x.wait,J I x.keep,O A7 x.L.length c7] 51)).alloc (aD #[O M 0 0,J I 0] 56));clear u m K hv vu;by_cases D:k<tabs.length
   ·obtain⟨X,Y⟩:=aP (tabs[k]);obtain⟨gq,L,N,c4,rfl,eb,Th,Ti,Ma⟩:=NU.A.Cm (bR.A.trans uP.A).aC D Y;have Gi:=E (show sQ tabs k=X by rw[alw D,Y]);have l:=E ((aI.new wr 51 #[ap x.n,ap x.x.s.n,O A2 x.x.s.aU.length c2,J I x.x.op,J I x.x.v,J I x.wait,J I x.keep,O A7 x.L.length c7]).alloc (aD #[O N X.ao.length c4,J I X.full] 56));have j:=E (show aI _ (wr.heap.size+1) _ _ by
     have:=aI.new (wr.alloc (aD #[ap x.n,ap x.x.s.n,O A2 x.x.s.aU.length c2,J I x.x.op,J I x.x.v,J I x.wait,J I x.keep,O A7 x.L.length c7] 51)) 56 #[O N X.ao.length c4,J I X.full];rwa[eO] at this)
    have f:=E (((aF.refl wr).alloc (aD #[ap x.n,ap x.x.s.n,O A2 x.x.s.aU.length c2,J I x.x.op,J I x.x.v,J I x.wait,J I x.keep,O A7 x.L.length c7] 51)).alloc (aD #[O N X.ao.length c4,J I X.full] 56));have S:=E (show nX _ B (aY #[O N X.ao.length c4,J I X.full]) X from⟨_,rfl,Ma.al f.A.aC⟩);have⟨z0,f0⟩:=tp.A.cf;have Np:gq<wr.heap.size:=da eb (bR.A.trans uP.A).size;replace Th:=(BI.A.aC.cell (p:=⟨gq,L+k*2,M⟩) Np).trans Th;replace Ti:=(BI.A.aC.cell (p:=⟨gq,L+k*2+1,M⟩) Np).trans Ti;have Tj:decide ((k:Int)<(tabs.length:Int))=true:=ac an;have jU:=E D;clear Y Ma;go_wp2_with fail;clear z0 f0 Th Ti Tj;have z0:=ba.cells j.A;have x0:=ba.cells l.A;have bA:=E (bR.A.trans (uP.A.trans f.A));have F:=E (λp:ba ((wr.alloc (aD #[ap x.n,ap x.x.s.n,O A2 x.x.s.aU.length c2,J I x.x.op,J I x.x.v,J I x.wait,J I x.keep,O A7 x.L.length c7] 51)).alloc (aD #[O N X.ao.length c4,J I X.full] 56))=>abG (B:=B) t p.aL (a8 di.A (a8 bA.A.size p.aC.size)) HT.A ((xO.A.al f.A.aC).al p.aC) (Av.al (Av.al mR.A f.A.aC) p.aC));go_wp2_with fail;refine du (cU 0 4 (cU 5 5 (.c 4::(.c 10::[])))) [11] ?_;refine dY ?_;refine S4.dm ?_;rintro _⟨d,rfl⟩ KK aJ;go_simp;refine(F.A d).ah ?_;rintro e R⟨⟨vl,rfl,n⟩,Z⟩;have NQ:=E ((f.A.trans d.r).trans Z);have Et:=E ((l.A.al d.aC l.A.lt).al Z.aC (da l.A.lt d.aC.size));have J8:=E ((j.A.al d.aC j.A.lt).al Z.aC (da j.A.lt d.aC.size));have NR:=E ((S.A.al d.aC).al Z.aC);have NS:=E n.vs;obtain⟨A9,c9,rfl,_⟩:=n.shape;refine aJ _ _ Z ?_;clear aJ KK Z n z0 x0 F;have fy:=E (λp:ba R=>abS (B:=B) t x.wait x.keep p.aL (a8 di.A (a8 (bR.A.trans (uP.A.trans NQ.A)).size p.aC.size)) (NR.A.al p.aC) (NS.A.al p.aC) (a8 (abU _ _ _) aq));refine S4.dm (λwt dD KK aJ=>?_);obtain⟨wk,rfl⟩:=dD;go_simp;refine(fy.A wk).ah ?_;rintro e w7⟨⟨v7,rfl,NP⟩,Z⟩;obtain⟨T,hT⟩:=aP (stepT X (sP s x t) t x.wait x.keep);exact abV
   ·have Gi:=E (show sQ tabs k=jN from alx D);have j:=tp;have l:=eU;have f:=BI;have S:=E (show nX ((wr.alloc (aD #[ap x.n,ap x.x.s.n,O A2 x.x.s.aU.length c2,J I x.x.op,J I x.x.v,J I x.wait,J I x.keep,O A7 x.L.length c7] 51)).alloc (aD #[O M 0 0,J I 0] 56)) B (aY #[O M 0 0,J I 0]) jN from⟨_,rfl,Vs.bh _ _ _⟩);have Tj:decide ((k:Int)<(tabs.length:Int))=false:=aa an;have aM:decide (k<tabs.length)=false:=aa D;clear D;go_wp2_with fail;clear Tj aM y0 y1 y2 y3 y4 y5 y6 F9;have z0:=ba.cells j.A;have x0:=ba.cells l.A;have bA:=E (bR.A.trans (uP.A.trans f.A));have F:=E (λp:ba ((wr.alloc (aD #[ap x.n,ap x.x.s.n,O A2 x.x.s.aU.length c2,J I x.x.op,J I x.x.v,J I x.wait,J I x.keep,O A7 x.L.length c7] 51)).alloc (aD #[O M 0 0,J I 0] 56))=>abG (B:=B) t p.aL (a8 di.A (a8 bA.A.size p.aC.size)) HT.A ((xO.A.al f.A.aC).al p.aC) (Av.al (Av.al mR.A f.A.aC) p.aC));go_wp2_with fail;refine du (cU 0 4 (cU 5 5 (.c 4::(.c 10::[])))) [11] ?_;refine dY ?_;refine S4.dm ?_;rintro _⟨d,rfl⟩ KK aJ;go_simp;refine(F.A d).ah ?_;rintro e R⟨⟨vl,rfl,n⟩,Z⟩;have NQ:=E ((f.A.trans d.r).trans Z);have Et:=E ((l.A.al d.aC l.A.lt).al Z.aC (da l.A.lt d.aC.size));have J8:=E ((j.A.al d.aC j.A.lt).al Z.aC (da j.A.lt d.aC.size));have NR:=E ((S.A.al d.aC).al Z.aC);have NS:=E n.vs;obtain⟨A9,c9,rfl,_⟩:=n.shape;refine aJ _ _ Z ?_;clear aJ KK Z n z0 x0 F;have fy:=E (λp:ba R=>abS (B:=B) t x.wait x.keep p.aL (a8 di.A (a8 (bR.A.trans (uP.A.trans NQ.A)).size p.aC.size)) (NR.A.al p.aC) (NS.A.al p.aC) (a8 (abU _ _ _) aq));refine S4.dm (λwt dD KK aJ=>?_);obtain⟨wk,rfl⟩:=dD;go_simp;refine(fy.A wk).ah ?_;rintro e w7⟨⟨v7,rfl,NP⟩,Z⟩;obtain⟨T,hT⟩:=aP (stepT jN (sP s x t) t x.wait x.keep);exact abV
  ·obtain rfl:k=g.R.length:=by omega
   have HE:=E (show(s,A,o)=(r1,r2,wP) by have:=q.A.2;rwa[qT] at this);have Ta:=E m;have aW:=E K;have bY:=E u;clear q m u K;obtain⟨rfl,V⟩:=Prod.mk.inj HE.A;obtain⟨rfl,rfl⟩:=Prod.mk.inj V;go_wp2;go_ret3;exact⟨⟨_,_,rfl,Ta.A,aW.A.less bR.A.size⟩,bR.A.trans bY.A⟩
def amH (g:cC):jf [g]=lY g:=by
 unfold jf nY;simp[cI,List.getD]
def amI {g:cC} (w:aB) (h:BV w B v g):aN aH 108 #[v] w λe w'=>e=aQ (aG (lY g))/\aF w w':=by
 obtain⟨a,c3,rfl,hn,c⟩:=h.be;have b:=E (((aF.refl w).alloc (aD #[ap g.n,J I g.br,J I g.off,O a g.R.length c3] 43)).alloc (aD #[ap g.n,J I g.br,J I g.off,O a g.R.length c3] 43));have HX:=E (aI.new w 43 #[ap g.n,J I g.br,J I g.off,O a g.R.length c3]);have i:=E (Sl.lit (w.alloc (aD #[ap g.n,J I g.br,J I g.off,O a g.R.length c3] 43)) 43 [ap g.n,J I g.br,J I g.off,O a g.R.length c3] 4 rfl);have f:=E (c.al (b.A.aC));have d:=E (R6 (v:=O (ad ⟨w.heap.size+1,0,M⟩) 1 1) (F:=[g]) (B:=B+w.heap.size+5) ((w.alloc (aD #[ap g.n,J I g.br,J I g.off,O a g.R.length c3] 43)).alloc (aD #[ap g.n,J I g.br,J I g.off,O a g.R.length c3] 43)) (by
  refine⟨_,1,1,rfl,⟨rfl,[ap g.n,J I g.br,J I g.off,O a g.R.length c3],Rs.single ⟨_,rfl,hn,f.A.bt an⟩,?_⟩,av,av⟩;have:=i.A;rw[eO] at this;exact TS.Lt (this.bt an)))
 rw[amH] at d;have k:=HX.A.cell;clear h c;go_enter func108,ntmps108;go_wp2_with fail;refine d.A.ah ?_;rintro e j⟨rfl,Z⟩;replace b:=E (b.A.trans Z);clear Z;go_wp2;go_ret;exact⟨rfl,b.A⟩
def amJ:Option (Int×Int)->Ending
 |none=>aQ (bn #[J I 0,J I 0,aG false])
 |some On=>aQ (bn #[J I On.1,J I On.2,aG true])
theorem T0 (h:P:=by
 go_enter func76,ntmps76;go_wp2_with fail;refine HS.A.ah ?_;rintro e w1'⟨rfl,Z⟩;have hX:=HX.A.al Z.aC HX.A.lt;have k1:=hX.cell;replace HB:=E (HB.A.trans Z);clear Z hX;go_wp2;go_ret3;rw[HD.A];exact⟨rfl,HB.A⟩;):P:=h
def amK {g:cC} (last aL:Int) (w:aB) (h:BV w B v g) (U:-1<=last/\last<=9007199254740992) (hn:0<=aL/\aL<=9007199254740992):aN aH 76 #[v,J I last,J I aL] w λe w'=>e=amJ (sN g last aL)/\aF w w':=by
 have a:=E (show sN g last aL=if lY g=false\/min aL 9007199254740992<g.off then M else if g.off+(min aL 9007199254740992-g.off)/g.br*g.br<=last then M else ad (g.off+(min aL 9007199254740992-g.off)/g.br*g.br,if g.off<=last then(min aL 9007199254740992-g.off)/g.br-((last-g.off)/g.br+1) else(min aL 9007199254740992-g.off)/g.br) from rfl);rw[Int.min_eq_left hn.2] at a;have S:min aL 9007199254740992=aL:=Int.min_eq_left hn.2;obtain⟨y,c3,rfl,X,z⟩:=h.be;have HB:=E ((aF.refl w).alloc (aD #[ap g.n,J I g.br,J I g.off,O y g.R.length c3] 43));have HX:=E (aI.new w 43 #[ap g.n,J I g.br,J I g.off,O y g.R.length c3]);have F:=E (h.al HB.A.aC);have HS:=E (amI _ F.A);have V:=HX.A.cell;clear h z;cases hs:lY g with
 |false=>
  rw[hs] at HS;have HD:=E (show sN g last aL=M by rw[a.A,ag (.inl hs)]);clear a;go_enter func76,ntmps76;go_wp2_with fail;refine HS.A.ah ?_;rintro e s⟨rfl,Z⟩;replace HB:=E (HB.A.trans Z);clear Z;go_wp2;go_ret3;rw[HD.A];exact⟨rfl,HB.A⟩
 |true=>
 rw[hs] at HS;have hg:=hs;unfold lY at hg;simp only[b9,decide_eq_true_eq,Bool.not_eq_true',decide_eq_false_iff_not] at hg;obtain⟨⟨⟨⟨⟨_,hi⟩,t⟩,h0,o⟩,_⟩,_⟩:=hg;unfold gm at hi;simp only[b9,decide_eq_true_eq] at hi;by_cases d:aL<g.off
 ·have HD:=E (show sN g last aL=M by rw[a.A,ag (.inr d)]);have d1:decide (aL<g.off)=true:=ac d;clear a hi t h0 o;go_enter func76,ntmps76;go_wp2_with fail;refine HS.A.ah ?_;rintro e s⟨rfl,Z⟩;have hX:=HX.A.al Z.aC HX.A.lt;have T:=hX.cell 2;replace HB:=E (HB.A.trans Z);clear Z hX;go_wp2;go_ret3;rw[HD.A];exact⟨rfl,HB.A⟩
 rw[af (by rw[not_or,Bool.not_eq_false];exact⟨hs,d⟩)] at a;have d1:decide (aL<g.off)=false:=aa d;have Z:=Int.ediv_mul_le (aL-g.off) (b:=g.br) an;have cN:0<=(aL-g.off)/g.br:=Int.ediv_nonneg an an;have p:(aL-g.off)/g.br<=aL-g.off:=Int.ediv_le_self _ an;have l:0<=(aL-g.off)/g.br*g.br:=Int.mul_nonneg cN an;have D:(aL-g.off).tdiv g.br=(aL-g.off)/g.br:=Int.tdiv_eq_ediv_of_nonneg an;have W:(g.br==0)=false:=by simp;exact t
 obtain⟨q,n⟩:=aP ((aL-g.off)/g.br);rw[n] at a Z cN p l D;obtain⟨m,j⟩:=aP (q*g.br);rw[j] at a Z l;have s:I.wrap (aL-g.off)=aL-g.off:=ay;have R:I.wrap q=q:=ay;have Q:I.wrap (q*g.br)=m:=by rw[j,b7];omega
 have N:I.wrap (g.off+m)=g.off+m:=ay;by_cases f:g.off+m<=last
 ·rw[ag f] at a;have C:decide (g.off+m<=last)=true:=ac f;have HD:=E a.A;clear hi h0 o d Z cN p l n j f a;exact T0
 rw[af f] at a;have C:decide (g.off+m<=last)=false:=aa f;by_cases i:g.off<=last
 ·rw[ag i] at a;have A:decide (g.off<=last)=true:=ac i;have x:0<=(last-g.off)/g.br:=Int.ediv_nonneg an an;have k:(last-g.off)/g.br<=last-g.off:=Int.ediv_le_self _ an;have r:(last-g.off).tdiv g.br=(last-g.off)/g.br:=Int.tdiv_eq_ediv_of_nonneg an;obtain⟨c,u⟩:=aP ((last-g.off)/g.br);rw[u] at a x k r;have L:I.wrap (last-g.off)=last-g.off:=ay;have K:I.wrap c=c:=ay;have H:I.wrap (c+1)=c+1:=ay;have G:I.wrap (q-(c+1))=q-(c+1):=ay;have HD:=E a.A;clear hi h0 o d Z cN p l n j f i x k u a;exact T0
 ·rw[af i] at a;have A:decide (g.off<=last)=false:=aa i;have HD:=E a.A;clear hi h0 o d Z cN p l n j f i a;exact T0
def dH (x:List eQ) (k:Nat):aZ:=(x.getD k default).L
def jm (x:List eQ) (k:Nat):Int:=(x.getD k default).t
noncomputable def xy (x:List eQ) (k:Nat):Bool:=bH (dH x k)&&et (jm x k)&&(k==0||decide (cmpL (dH x (k-1)) (dH x k)<0))
noncomputable def jy (x:List eQ):Bool:=decide (x.length<=64)&&cI x.length (xy x)
def aaA:jy []=true:=by unfold jy;simp[cI]
def Gd {x:List eQ} (h:k<x.length):x[k]=⟨dH x k,jm x k⟩:=by unfold dH jm;rw[dr h]
def M9 (y:eQ):Prop:=bH y.L=true/\0<=y.t/\y.t<=9007199254740992
def xz {x:List eQ}:jy x=true↔x.length<=64/\(∀y∈x,M9 y)/\x.Pairwise λa b=>fu a.L b.L<0:=by
 have FG:∀{k:Nat} (hk:k<x.length),xy x k=true↔M9 x[k]/\(k=0\/cmpL (dH x (k-1)) x[k].L<0):=by
  intro k hk;unfold xy dH jm M9;rw[dr hk];simp[and_assoc,sX]
 have Q1:∀{k:Nat} (hk:k<x.length),dH x k=x[k].L:=λ{k} hk=>by unfold dH;rw[dr hk]
 unfold jy;rw[b9,decide_eq_true_eq,mw];constructor
 ·rintro⟨d,h3⟩;have hs:∀a∈x,M9 a:=λa e=>by
   obtain⟨k,hk,rfl⟩:=qV.1 e;exact((FG hk).1 (h3 k hk)).1
  refine⟨d,hs,?_⟩;have c:e8 (λa b:aZ=>fu a b) (x.map (·.L)):=by
   refine e8.of_next lg λi hi=>?_;have yV:i+1<x.length:=am hi;exact Yx
  unfold e8 at c;rw[sf] at c;exact c
 ·rintro⟨d,h3,h4⟩;refine⟨d,λk hk=>(FG hk).2 ⟨h3 _ (dl hk),?_⟩⟩;exact Yy
def ajX {x y:List eQ} (h:jy x=true) (hs:y.Sublist x):jy y=true:=by
 rw[xz] at h⊢;exact⟨a8 hs.length_le h.1,λa b=>h.2.1 a (hs.subset b),h.2.2.sublist hs⟩
def Sa (x:List eQ) (L:aZ) (c:Nat):Prop:=c<=x.length/\∀i,i<x.length->(cmpL (dH x i) L<0↔i<c)
def ajY {x:List eQ} (h:jy x=true) {L:aZ} (j:bH L=true):∃c,Sa x L c:=by
 have d:=xz.1 h;have e:∀i (hi:i<x.length),cmpL (dH x i) L=fu x[i].L L:=λi hi=>by
  unfold cmpL dH;rw[dr hi,nO (d.2.1 _ (dl hi)).1,nO j]
 have b:∀n,n<=x.length->∃c,c<=n/\∀i,i<n->(cmpL (dH x i) L<0↔i<c):=by
  intro n;induction n with
  |zero=>intro _;exact⟨0,aO _,λi hi=>ae hi (Nat.not_lt_zero _)⟩
  |succ n g=>
   intro hn;obtain⟨c,f,h2⟩:=g an;by_cases a:cmpL (dH x n) L<0
   ·refine⟨n+1,aO _,λi hi=>⟨λ_=>hi,λ_=>?_⟩⟩;rcases gy i n with h'|h'
    ·rw[e i an];rw[e n an] at a;exact lg.trans (yw.1 d.2.2 i n an an h') a
    ·obtain rfl:i=n:=by omega
     exact a
   ·refine⟨c,an,λi hi=>?_⟩;rcases gy i n with h'|h'
    ·exact h2 i h'
    ·obtain rfl:i=n:=by omega
     exact⟨λh=>ae h a,λh=>by omega⟩
 obtain⟨c,f,h2⟩:=b x.length (aO _);exact⟨c,f,h2⟩
def ajZ {x:List eQ} (h:jy x=true) {L:aZ} (n:bH L=true) {c:Nat} (g:Sa x L c) (k:(decide (c<x.length)&&decide (cmpL (dH x c) L=0))=false) (r:x.length<64) {t:Int} (p:0<=t/\t<=9007199254740992):jy (x.take c++⟨L,t⟩::x.drop c)=true:=by
 have e:=xz.1 h;have j:∀i (hi:i<x.length),cmpL (dH x i) L=fu x[i].L L:=λi hi=>by
  unfold cmpL dH;rw[dr hi,nO (e.2.1 _ (dl hi)).1,nO n]
 rw[xz];refine⟨by simp;have:=g.1;omega,λy d=>?_,?_⟩
 ·rcases kf.1 d with d|d
  ·exact e.2.1 y (List.mem_of_mem_take d)
  ·rcases ee.1 d with rfl|d
   ·exact⟨n,p⟩
   ·exact e.2.1 y (arC d)
 ·have l:∀y∈x.take c,fu y.L L<0:=λy d=>by
   obtain⟨i,hi,rfl⟩:=List.mem_take_iff_getElem.1 d;rw[<-j i an];exact(g.2 i an).2 an
  have f:∀y∈x.drop c,fu L y.L<0:=λy d=>by
   obtain⟨i,hi,rfl⟩:=List.mem_drop_iff_getElem.1 d;have q:¬cmpL (dH x (c+i)) L<0:=λh=>by have:=(g.2 (c+i) an).1 h;omega
   rw[j _ an] at q;have h2:=lg.tO x[c+i].L L;rcases(show fu x[c+i].L L=0\/0<fu x[c+i].L L by omega) with h0|h0
   ·exfalso;rcases kJ i with rfl|jZ
    ·rw[ac (show c<x.length by omega),j c an] at k;simp only[Nat.add_zero] at h0;rw[h0] at k;simp at k
    ·have o:¬cmpL (dH x c) L<0:=λh=>by have:=(g.2 c an).1 h;omega
     rw[j c an] at o;have h4:=yw.1 e.2.2 c (c+i) an an an;rw[lg.zero h0] at h4;exact o h4
   ·omega
  rw[List.pairwise_append];refine⟨e.2.2.sublist (List.take_sublist _ _),List.pairwise_cons.2 ⟨f,e.2.2.sublist (List.drop_sublist _ _)⟩,λa m b Z=>?_⟩;rcases ee.1 Z with rfl|Z
  ·exact l a m
  ·exact lg.trans (l a m) (f b Z)
def aj0 {x:List eQ} (h:jy x=true) {c:Nat} (j:c<x.length) {t:Int} (k:0<=t/\t<=9007199254740992):jy (x.set c ⟨dH x c,t⟩)=true:=by
 have d:=xz.1 h;rw[xz];refine⟨am d.1,λy g=>?_,?_⟩
 ·rcases List.mem_or_eq_of_mem_set g with g|rfl
  ·exact d.2.1 y g
  ·have:=d.2.1 _ (dl j);rw[Gd j] at this;exact⟨this.1,k⟩
 ·have h2:=d.2.2;rw[<-sf (f:=λa:eQ=>a.L) (R:=λa b=>fu a b<0)] at h2⊢;have:(x.set c ⟨dH x c,t⟩).map (λa=>a.L)=x.map (λa=>a.L):=by
   rw[List.map_set];apply List.ext_getElem av;intro i l h2;rw[List.getElem_set];split
   ·rename_i e;subst e;rw[List.getElem_map,Gd j]
   ·rfl
  rw[this];exact h2
def Rw.Gu {l:List eQ} (h:Rw eR w B ao n l) (hB:aS w.heap.size w wr) {k:Nat} (a:k<l.length):∃b off A0 c0,ao=ad (ab b off M)/\b<w.heap.size/\wr.cell? ⟨b,off+k*2,M⟩=ad (O A0 (dH l k).length c0)/\wr.cell? ⟨b,off+k*2+1,M⟩=ad (J I (jm l k))/\Vs bE wr B (O A0 (dH l k).length c0) (dH l k):=by
 obtain⟨b,off,vs,e,Z,d,h2⟩:=h.aL hB a;rw[<-dr a] at d;obtain⟨v0,rfl,c⟩:=d;obtain⟨A0,c0,rfl,_⟩:=c.be;exact⟨b,off,A0,c0,e,Z,h2 0 _ rfl,h2 1 _ rfl,c⟩
def abw {a:List eQ} (w:aB) (h:Vs eR w B v a):aN aH 27 #[v] w λe w'=>e=aQ (aG (jy a))/\aF w w':=by
 obtain⟨ao,cap,rfl,D,hl,hc⟩:=h.be;have L:=E D;clear h D;have l:=E (show jy a=(decide (a.length<=64)&&cI a.length (xy a)) from rfl);have V:=E (λk=>(show xy a k=(bH (dH a k)&&et (jm a k)&&(k==0||decide (cmpL (dH a (k-1)) (dH a k)<0))) from rfl));generalize jy a=r at l⊢;by_cases H:a.length<=64;case neg=>
  have HS:=E (show r=false by rw[l.A];simp[H]);go_enter func27,ntmps27;go_wp2;go_ret;exact⟨cc HS.A.symm,aF.refl _⟩
 have G:=E (show r=cI a.length (xy a) by rw[l.A];simp[H]);have T:=E (λk (C:k<a.length) (h:xy a k=false)=>(show r=false by rw[G.A,tV C h]));clear l;go_enter func27,ntmps27;go_wp2;go_loopw [10] (λi wr=>∃k:Nat,k<=a.length/\i=J I k/\a6 (cI k (xy a)=true)/\aF w wr) (λi _=>a.length-(intOf i).toNat);case atStart=>exact⟨0,an,rfl,E rfl,aF.refl _⟩
 case round=>
  obtain⟨k,C,rfl,K,hB⟩:=hrel;by_cases g:k<a.length
  ·obtain⟨b,off,A0,c0,rfl,cw,y0,y1,q⟩:=L.A.Gu hB.aC g;have HK:=E (V.A k);have f:=E (T.A k g);have F:=E (λh=>wW K.A (P:=xy a) h);have aR:=E g;have o:=E (hB.alloc (aD #[O A0 (dH a k).length c0,J I (jm a k)] 119));have hq:=aI.new wr 119 #[O A0 (dH a k).length c0,J I (jm a k)];have n:=(bk wr.heap.size wr).alloc (aO _) (aD #[O A0 (dH a k).length c0,J I (jm a k)] 119);have d:=E (Iy _ (q.al n));have y:=E (q.al n);have s:=E hq;clear q n hq g;generalize W:bH (dH a k)=x1 at d HK;clear W;cases x1;case false=>
    have HS:=E (show r=false from f.A aqm);go_wp2_with fail;refine d.A.ah ?_;rintro e w1⟨rfl,Z⟩;have bL:=E (o.A.next Z);clear Z;exact y9
   go_wp2_with fail;refine d.A.ah ?_;rintro e m⟨rfl,Z⟩;have bL:=E (o.A.next Z);have q2:=s.A.al Z s.A.lt;have X:=E (y.A.al Z);clear Z d y s o;have g1:=q2.cell 1;have t:et (jm a k)=(decide (0<=jm a k)&&decide (jm a k<=9007199254740992)):=rfl;rw[t] at HK;clear t;by_cases s0:0<=jm a k;case neg=>
    have HS:=E (show r=false from f.A (by rw[HK.A,aa s0];rfl));have d0:decide (jm a k<0)=true:=ac an;generalize jm a k=sx at*;exact y9
   by_cases s1:jm a k<=9007199254740992;case neg=>
    have HS:=E (show r=false from f.A aqZ);have d0:decide (jm a k<0)=false:=aa an;have d1:decide (9007199254740992<jm a k)=true:=ac an;generalize jm a k=sx at*;exact y9
   have c:=E (show xy a k=(k==0||decide (cmpL (dH a (k-1)) (dH a k)<0)) by rw[HK.A,ac s0,ac s1];rfl);have d0:decide (jm a k<0)=false:=aa an;have d1:decide (9007199254740992<jm a k)=false:=aa an;have Y:∀p:ba m,p.aL.cell? (ab wr.heap.size 0 M)=ad (O A0 (dH a k).length c0):=ba.cells q2 0;clear HK s0 s1 q2;generalize jm a k=sx at*;go_wp2_with fail;clear d0 d1 g1;by_cases c3:k=0;case pos=>
    have HN:=E (F.A (by rw[c.A,c3];rfl));have S:decide (0<k)=false:=aa an;clear c3;refine du (cU 0 14 []) [] ?_;exact QT
   obtain⟨j,hj⟩:=aP (k-1);have S:0<k:=an;have R:j<a.length:=ai aR.A;have eV:I.wrap (j:Int)=(j:Int):=ay;have q7:(k:Int)-1=(j:Int):=an;obtain⟨b',tP,Fw,DA,U,LR,N,_,u⟩:=L.A.Gu bL.A.aC R;cases U;have z0:=λp:ba m=>p.cell aqO N;have CC:=E (λp:ba m=>LK p.aL (u.al p.aC) (X.A.al p.aC));rw[hj] at c;have z:(k==0)=false:=aw;rw[z] at c;clear hj N z u;by_cases c4:cmpL (dH a j) (dH a k)<0
   ·have HN:=E (F.A (by rw[c.A,ac c4];rfl));have c5:decide (0<=cmpL (dH a j) (dH a k))=false:=aa an;clear c4 c;generalize cmpL (dH a j) (dH a k)=tY at*;refine du (cU 0 14 []) [] ?_;exact QR
   ·have HS:=E (show r=false from f.A (by rw[c.A,aa c4];rfl));have c5:decide (0<=cmpL (dH a j) (dH a k))=true:=ac an;clear c4 c;generalize cmpL (dH a j) (dH a k)=tY at*;refine du (cU 0 14 []) [] ?_;repeat (
     refine S4.step (λKK aJ=>?_);go_simp;first
      |(refine aJ _ ?_;clear aJ KK)
      |(apply lL;refine⟨λ_=>?_,aJ _ ?_⟩;(with_reducible exact aN.seq (CC.A _));clear aJ KK))
    refine S4.nb λwq hq=>?_;refine dP ?_;go_wp2;go_ret;exact⟨cc HS.A.symm,bL.A.next hq⟩
  ·have HS:=E (show r=true by rw[G.A,<-show k=a.length by omega];exact K.A);obtain rfl:k=a.length:=an;go_wp2;go_ret;exact⟨cc HS.A.symm,hB⟩
variable {i:Nat} {l:List Tok}
def eT (l:List Tok) (i:Nat) (k:Int):Bool:=(l[i]?).any λt=>decide (t.k=k)
def cA (l:List Tok) (i:Nat) (k:Int) (s:ByteArray):Bool:=(l[i]?).any λt=>decide (t.k=k)&&decide (t.s=s)
def eu (l:List Tok) (i:Nat):ByteArray:=(l.getD i ⟨0,0,⟨#[]⟩⟩).s
def s6 (h:i<l.length) (k:Int):eT l i k=decide (l[i].k=k):=by unfold eT;rw[cR h];rfl
def F3 (h:¬i<l.length) (k:Int):eT l i k=false:=by unfold eT;rw[List.getElem?_eq_none an];rfl
def kZ {k:Int} (h:eT l i k=true):i<l.length:=by
 rcases gy i l.length with h1|h1
 ·exact h1
 ·rw[F3 an] at h;cases h
def pJ {k:Int} {s:ByteArray}:cA l i k s=(eT l i k&&decide (eu l i=s)):=by
 unfold cA eT eu;by_cases h:i<l.length
 ·rw[cR h,dd,cR h];rfl
 ·rw[List.getElem?_eq_none an];rfl
def qx (h:i<l.length):eu l i=l[i].s:=by unfold eu;rw[dd,cR h];rfl
def Rw.tk (h:Rw kM w B ao n l) (hB:aS w.heap.size w wr) {k:Nat} (a:k<l.length):∃b off,ao=ad (ab b off M)/\b<w.heap.size/\wr.cell? ⟨b,off+k*3,M⟩=ad (J I l[k].k)/\wr.cell? ⟨b,off+k*3+1,M⟩=ad (J I l[k].p)/\wr.cell? ⟨b,off+k*3+2,M⟩=ad (ap l[k].s)/\l[k].s.size<=9223372036854775807:=by
 obtain⟨b,off,vs,e,Z,d,h2⟩:=h.aL hB a;obtain⟨rfl,c⟩:=d;exact⟨b,off,e,Z,h2 0 _ rfl,h2 1 _ rfl,h2 2 _ rfl,c⟩
structure jj (w0 w:aB) (B b c i:Nat) (ao:Option aX) (l:List Tok):Prop where
 b0:aF w0 w
 Z:w0.heap.size<=b
 tk:Rw kM w0 B ao l.length l
 box:aI w b 415 #[O ao l.length c,J I i]
 lc:l.length<=c/\c<=9223372036854775807
 le:i<=l.length
section
variable {w0 w w':aB} {B b c i:Nat} {ao:Option aX} {l:List Tok}
def jj.al (h:jj w0 w B b c i ao l) (Z:aS w.heap.size w w'):jj w0 w' B b c i ao l:=⟨h.b0.trans (aF.of Z),h.Z,h.tk,h.box.al Z h.box.lt,h.lc,h.le⟩
def jj.step (h:jj w0 w B b c i ao l) {j:Nat} (hj:j<=l.length):jj w0 (w.setCell (ab b 1 M) (J I j)) B b c j ao l:=⟨h.b0.setCell h.Z _,h.Z,h.tk,h.box.put 1 _,h.lc,hj⟩
end
def bX {o:Nat} (Z:b<w.heap.size) (u:aE):w.grownBy (w.setCell (ab b o M) u) (ad b):=⟨rfl,rfl,rfl,aqY,λk c a=>yv _ _ _ _ (λe=>a wH)⟩
def bB {a b c:aB} {r:Nat} (h:a.grownBy b (ad r)) (k:b.grownBy c (ad r)):a.grownBy c (ad r):=⟨k.os.trans h.os,k.tape.trans h.tape,k.output.trans h.output,a8 h.size k.size,λi hi d=>(k.block i (da hi h.size) d).trans (h.block i hi d)⟩
def grown_of {a b:aB} {r:Nat} (h:aS a.heap.size a b):a.grownBy b (ad r):=⟨h.os,h.tape,h.output,h.size,λi hi _=>h.block i hi⟩
theorem Z8 (h:P:=by
 go_wp2_with fail;refine du (cU 0 26 []) [] ?_;refine dY ?_;refine S4.nb λwq hq=>?_;refine dP ?_;go_wp2;go_ret;exact⟨cc (by rw[HE.A];first|rfl|(rw[Bool.eq_iff_iff];simp)),hq⟩;):P:=h
theorem Z9 (h:P:=by
 go_wp2_with fail;refine du (cU 0 26 []) [] ?_;refine dY ?_;refine S4.nb λwq hq=>?_;refine dP ?_;go_wp2;go_ret;exact⟨cc HE.A.symm,hq⟩;):P:=h
def D1 {c:Nat} (k:Int) (h:jj w0 w B b c i ao l):aN aH 338 #[bl (ad (ab b 0 M)),J I k] w λe w'=>e=aQ (aG (eT l i k))/\aS w.heap.size w w':=by
 have g:=E h.b0;have o:=E h.tk;have q:=ba.cells h.box;have t:=h.lc.1;have s:=h.lc.2;by_cases a:i<l.length
 ·have HE:=E (s6 a k);generalize eT l i k=r at HE⊢;obtain⟨u,off,rfl,n,f,q1,q2,j⟩:=o.A.tk g.A.aC a;have x0:=λp:ba w=>p.cell (da n g.A.size) f;obtain⟨K,d⟩:=aP (l[i].k);rw[d] at HE;simp only[d] at x0;have d1:decide ((i:Int)<(l.length:Int))=true:=ac an;have m:decide (i<l.length)=true:=ac a;clear d f q1 q2 j h;go_enter func338,ntmps338;exact Z8
 ·have HE:=E (F3 a k);have d1:decide ((i:Int)<(l.length:Int))=false:=aa an;have m:decide (i<l.length)=false:=aa a;clear h;go_enter func338,ntmps338;exact Z9
theorem aaa (h:P:=by
 go_wp2_with fail;refine du (cU 0 10 []) [] ?_;refine dY ?_;refine S4.nb λwq hq=>?_;refine dP ?_;go_wp2;go_ret;exact⟨⟨3,rfl,aq⟩,hq⟩;):P:=h
theorem aab (h:P:=by
 go_wp2_with fail;refine du (cU 0 10 []) [] ?_;refine dY ?_;refine S4.nb λwq hq=>?_;refine dP ?_;go_wp2;go_ret;exact⟨⟨1,rfl,aq⟩,hq⟩;):P:=h
def M4 {c:Nat} (h:jj w0 w B b c i ao l):aN aH 320 #[bl (ad (ab b 0 M))] w λe w'=>(∃k:Int,e=aQ (J I k)/\(k !=0)=true)/\aS w.heap.size w w':=by
 have f:=ba.cells h.box;clear h;by_cases a:l.length<=i
 ·have d1:decide ((l.length:Int)<=(i:Int))=true:=ac an;have d:decide (l.length<=i)=true:=ac a;go_enter func320,ntmps320;exact aaa
 ·have d1:decide ((l.length:Int)<=(i:Int))=false:=aa an;have d:decide (l.length<=i)=false:=aa a;go_enter func320,ntmps320;exact aab
theorem aac (h:P:=by
 go_enter func318,ntmps318;go_wp2_with fail;refine du (cU 0 18 []) [] ?_;repeat (
  refine S4.step (λKK aJ=>?_);go_simp;first
   |(refine aJ _ ?_;clear aJ KK)
   |(apply lL;refine⟨λ_=>?_,aJ _ ?_⟩;(with_reducible exact aN.seq (C1.A _));clear aJ KK))
 refine S4.nb λwq hq=>?_;refine dP ?_;go_wp2;go_ret;exact⟨rfl,hq⟩;):P:=h
def F4 {c:Nat} (s:ByteArray) (h:jj w0 w B b c i ao l) (a:cA l i 4 s=false):aN aH 318 #[bl (ad (ab b 0 M)),ap s] w λe w'=>e=aQ (aG false)/\aS w.heap.size w w':=by
 have C1:=E (λp:ba w=>D1 4 (h.al p.aC));have g:=E h.b0;have q:=E h.tk;have t:=ba.cells h.box;have v:=h.lc.1;have u:=h.lc.2;rw[pJ] at a;cases d:eT l i 4 with
 |false=>
  rw[d] at C1;clear h a;exact aac
 |true=>
  rw[d] at C1 a;have j:=kZ d;obtain⟨x,off,rfl,o,n,q1,q2,m⟩:=q.A.tk g.A.aC j;have x2:=λp:ba w=>p.cell (da o g.A.size) q2;rw[qx j] at a;obtain⟨T,f⟩:=aP (l[i].s);rw[f] at a;simp only[f] at x2;have r:(T.toList==s.toList)=false:=by rw[j9];simpa using a
  have y:(T.toList !=s.toList)=true:=by rw[bne,r];rfl
  clear d a f n q1 q2 m h;exact aac
def F5 {c:Nat} (s:ByteArray) (h:jj w0 w B b c i ao l) (a:cA l i 4 s=true):aN aH 318 #[bl (ad (ab b 0 M)),ap s] w λe w'=>e=aQ (aG true)/\jj w0 w' B b c (i+1) ao l/\w.grownBy w' (ad b):=by
 have u:=E (λp:ba w=>D1 4 (h.al p.aC));have K:=E h;have t:=E h.b0;have D:=E h.tk;have v:=ba.cells h.box;have S:=h.lc.1;have R:=h.lc.2;rw[pJ,b9] at a;rw[a.1] at u;have q:=kZ a.1;obtain⟨U,off,rfl,C,z,q1,q2,y⟩:=D.A.tk t.A.aC q;have x2:=λp:ba w=>p.cell (da C t.A.size) q2;have d:=a.2;rw[qx q] at d;obtain⟨T,n⟩:=aP (l[i].s);rw[n] at d;simp only[n] at x2;have m:T=s:=am d;subst m;have F:=E q;clear a d n z q1 q2 y h;go_enter func318,ntmps318;go_wp2_with fail;refine du (cU 0 18 []) [] ?_;repeat (
  refine S4.step (λKK aJ=>?_);go_simp;first
   |(refine aJ _ ?_;clear aJ KK)
   |(apply lL;refine⟨λ_=>?_,aJ _ ?_⟩;(with_reducible exact aN.seq (u.A _));clear aJ KK))
 refine S4.nb λO g=>?_;refine dP ?_;have f:=E (K.A.al g);have H:=E g;clear g v x2;have V:=f.A.box.frozen 1;have N:=f.A.box.cell 1;have W:I.wrap ((i:Int)+1)=((i+1:Nat):Int):=ay;have G:=E (f.A.step (j:=i+1) F.A);have L:=E (bB (grown_of (r:=b) H.A) (bX (o:=1) f.A.box.lt (J I ((i+1:Nat):Int))));go_wp2;go_ret;exact⟨rfl,G.A,L.A⟩
def aad {c:Nat} (h:jj w0 w B b c i ao l) (a:(eT l i 1&&db (eu l i))=false):aN aH 317 #[bl (ad (ab b 0 M))] w λe w'=>(∃k:Int,e=aQ (bn #[ap ⟨#[]⟩,J I k])/\(k !=0)=true)/\aS w.heap.size w w':=by
 have g:=E (D1 1 h);have y:=E h;have V:=E h.b0;have F:=E h.tk;have S:=h.lc.1;have R:=h.lc.2;cases f:eT l i 1 with
 |false=>
  rw[f] at g;clear h a;go_enter func317,ntmps317;go_wp2_with fail;refine g.A.ah ?_;rintro e q⟨rfl,Z⟩;have G:=E (M4 (y.A.al Z));have d:=E Z;clear Z;go_wp2_with fail;refine G.A.ah ?_;rintro e O⟨⟨k,rfl,u⟩,Z⟩;have H:=E u;have m:=E (d.A.trans (Z.mono d.A.size));clear u Z;go_wp2;go_ret2;exact⟨⟨k,rfl,H.A⟩,m.A⟩
 |true=>
  rw[f] at g a;have v:=kZ f;rw[qx v] at a;have o:db l[i].s=false:=am a;clear h a f;go_enter func317,ntmps317;go_wp2_with fail;refine g.A.ah ?_;rintro e q⟨rfl,Z⟩;have j:=E (y.A.al Z);have d:=E Z;obtain⟨U,off,rfl,D,C,q1,q2,r⟩:=F.A.tk j.A.b0.aC v;have x2:=λp:ba q=>p.cell (da D j.A.b0.size) q2;have K:=ba.cells j.A.box;obtain⟨T,n⟩:=aP (l[i].s);rw[n] at o r;simp only[n] at x2;have z:=λW=>mu T W r;rw[o] at z;clear n o C q1 q2 Z;go_wp2_with fail;refine du (cU 0 12 []) [] ?_;refine dY ?_;refine S4.nb λL t=>?_;refine dP ?_;have m:=E (d.A.trans (t.mono d.A.size));clear t;go_wp2_with fail;refine(z _).ah ?_;rintro e N⟨rfl,rfl⟩;go_wp2;go_ret2;exact⟨⟨7,rfl,aq⟩,m.A⟩
def aae {c:Nat} (h:jj w0 w B b c i ao l) (d:(eT l i 1&&db (eu l i))=true):aN aH 317 #[bl (ad (ab b 0 M))] w λe w'=>e=aQ (bn #[ap (eu l i),J I 0])/\jj w0 w' B b c (i+1) ao l/\w.grownBy w' (ad b):=by
 have x:=E (D1 1 h);have L:=E h;have F:=E h.tk;have V:=h.lc.1;have U:=h.lc.2;rw[b9] at d;rw[d.1] at x;have q:=kZ d.1;have m:=d.2;rw[qx q] at m⊢;obtain⟨T,a⟩:=aP (l[i].s);rw[a] at m⊢;have H:=E a;clear a;have G:=E q;clear h d;go_enter func317,ntmps317;go_wp2_with fail;refine x.A.ah ?_;rintro e z⟨rfl,Z⟩;have f:=E (L.A.al Z);have u:=E Z;obtain⟨X,off,rfl,D,A,q1,q2,t⟩:=F.A.tk f.A.b0.aC q;have x2:=λp:ba z=>p.cell (da D f.A.b0.size) q2;have y:=ba.cells f.A.box;have a:=H.A;rw[a] at t;simp only[a] at x2;have v:=λW=>mu T W t;rw[m] at v;clear a m A q1 q2 Z;go_wp2_with fail;refine du (cU 0 12 []) [] ?_;refine dY ?_;refine S4.nb λR n=>?_;refine dP ?_;have g:=E (f.A.al n);have C:=E (u.A.trans (n.mono u.A.size));clear n y x2;go_wp2_with fail;refine(v _).ah ?_;rintro e S⟨rfl,rfl⟩;have Y:=g.A.box.frozen 1;have O:=g.A.box.cell 1;have VH:I.wrap ((i:Int)+1)=((i+1:Nat):Int):=ay;have K:=E (g.A.step (j:=i+1) G.A);have N:=E (bB (grown_of (r:=b) C.A) (bX (o:=1) g.A.box.lt (J I ((i+1:Nat):Int))));go_wp2;go_ret2;exact⟨rfl,K.A,N.A⟩
variable {w' cT:aB}
def jj.grown {w:aB} {c:Nat} (h:jj w0 w' B b c i ao l):jj w0 w' B b c i ao l:=h
def aI.gr {r:Nat} (h:aI w g t cs) (hg:w.grownBy w' (ad r)) (a:g≠r):aI w' g t cs:=h.grown hg (λe=>a aqE)
def aI.F6 (h:aI w g t #[a0,cZ,a2]) (u0 u1 u2:aE):aI (((w.setCell (ab g 0 M) u0).setCell (ab g 1 M) u1).setCell (ab g 2 M) u2) g t #[u0,u1,u2]:=((h.put 0 u0).put 1 u1).put 2 u2
def jj.own {c:Nat} (h:jj w0 w B b c i ao l) (hg:w.grownBy w' (ad g)) (h0:w0.heap.size<=g) (a:b≠g):jj w0 w' B b c i ao l:=⟨h.b0.cD hg h0,h.Z,h.tk,h.box.gr hg a,h.lc,h.le⟩
def F7 (Z:g<w.heap.size) (u0 u1 u2:aE):w.grownBy (((w.setCell (ab g 0 M) u0).setCell (ab g 1 M) u1).setCell (ab g 2 M) u2) (ad g):=bB (bB (bX Z u0) (bX aqg u1)) (bX aqg u2)
def l3 (h:w.grownBy w' (ad b)) (k:w'.grownBy cT (ad g)) (hg:w.heap.size<=g):w.grownBy cT (ad b):=⟨k.os.trans h.os,k.tape.trans h.tape,k.output.trans h.output,a8 h.size k.size,λj hj a=>(k.block j (da hj h.size) (λe=>by cases e;omega)).trans (h.block j hj a)⟩
structure ajF (w0 w w':aB) (B b c:Nat) (ao:Option aX) (l:List Tok) (n:Int) (e:Ending):Prop where
 A:∃(mt:wU) (k:Int),e=aQ (bn #[aY #[ap mt.n,ap mt.v,aG mt.neg],J I k])/\(mt.n.size<=9223372036854775807/\mt.v.size<=9223372036854775807)/\(k=0->db mt.n=true/\mt.v.size<=64/\n<8)
 rd:∃j,jj w0 w' B b c j ao l
 gr:w.grownBy w' (ad b)
theorem aaf (h:P:=by
 have aM:=D1 3 HR.A;rw[s7] at aM;go_wp2_with fail;refine(aM).ah ?_;rintro e wz⟨rfl,Z⟩;replace HR:=E (HR.A.al Z);replace HX:=E (HX.A.al Z HX.A.lt);replace HG:=E (bB HG.A (grown_of Z));clear Z;have HW:=E (M4 HR.A);go_wp2_with fail;refine HW.A.ah ?_;rintro e wz⟨⟨k,rfl,ci⟩,Z⟩;have HK:=E (show k≠0 by simpa using ci);replace HR:=E (HR.A.al Z);replace HG:=E (bB HG.A (grown_of Z));replace HX:=E (HX.A.al Z HX.A.lt);clear ci Z HW;have⟨z0,f0⟩:=HX.A.cf;have HP:=E (HX.A.F6 (ap ⟨#[]⟩) (ap ⟨#[]⟩) (aG false));have ch:=E (F7 HX.A.lt (ap ⟨#[]⟩) (ap ⟨#[]⟩) (aG false));have bi:=E (HR.A.own ch.A (a8 H0.A (aO _)) (mW gu.A));have k4:=E (l3 HG.A ch.A (aO _));go_wp2;have k0:=HP.A.cell;refine bF (v:=bn #[aY #[ap ⟨#[]⟩,ap ⟨#[]⟩,aG false],J I k]) aqw rfl ⟨⟨⟨⟨#[]⟩,⟨#[]⟩,false⟩,k,rfl,aq,λh=>ae h HK.A⟩,⟨_,bi.A⟩,k4.A⟩;):P:=h
theorem aag (h:P:=by
 have d1:decide ((64:Int)<(T.size:Int))=true:=ac an;have ec:decide (64<T.size)=true:=ac jJ;have⟨z0,f0⟩:=HX.A.cf;have HP:=E (HX.A.F6 (ap ⟨#[]⟩) (ap ⟨#[]⟩) (aG false));have ch:=E (F7 HX.A.lt (ap ⟨#[]⟩) (ap ⟨#[]⟩) (aG false));have bi:=E (HR.A.own ch.A (a8 H0.A (aO _)) (mW gu.A));have k4:=E (l3 HG.A ch.A (aO _));go_wp2;have k0:=HP.A.cell;refine bF (v:=bn #[aY #[ap ⟨#[]⟩,ap ⟨#[]⟩,aG false],J I 4]) aqw rfl ⟨⟨⟨⟨#[]⟩,⟨#[]⟩,false⟩,4,rfl,aq,λh=>ae h aq⟩,⟨_,bi.A⟩,k4.A⟩;):P:=h
theorem aah (h:P:=by
 have d2:decide (8<=n)=true:=ac h8;have⟨z0,f0⟩:=HX.A.cf;have HP:=E (HX.A.F6 (ap ⟨#[]⟩) (ap ⟨#[]⟩) (aG false));have ch:=E (F7 HX.A.lt (ap ⟨#[]⟩) (ap ⟨#[]⟩) (aG false));have bi:=E (HR.A.own ch.A (a8 H0.A (aO _)) (mW gu.A));have k4:=E (l3 HG.A ch.A (aO _));go_wp2;have k0:=HP.A.cell;refine bF (v:=bn #[aY #[ap ⟨#[]⟩,ap ⟨#[]⟩,aG false],J I 4]) aqw rfl ⟨⟨⟨⟨#[]⟩,⟨#[]⟩,false⟩,4,rfl,aq,λh=>ae h aq⟩,⟨_,bi.A⟩,k4.A⟩;):P:=h
theorem aai (h:P:=by
 have⟨z0,f0⟩:=HX.A.cf;have HP:=E (HX.A.F6 (ap ⟨#[]⟩) (ap ⟨#[]⟩) (aG false));have ch:=E (F7 HX.A.lt (ap ⟨#[]⟩) (ap ⟨#[]⟩) (aG false));have bi:=E (HR.A.own ch.A (a8 H0.A (aO _)) (mW gu.A));have k4:=E (l3 HG.A ch.A (aO _));go_wp2;have k0:=HP.A.cell;refine bF (v:=bn #[aY #[ap ⟨#[]⟩,ap ⟨#[]⟩,aG false],J I k]) aqw rfl ⟨⟨⟨⟨#[]⟩,⟨#[]⟩,false⟩,k,rfl,aq,λh=>ae h HK.A⟩,⟨_,bi.A⟩,k4.A⟩;):P:=h
def ajG {c:Nat} (n:Int) (h:jj w0 w B b c i ao l):aN aH 319 #[bl (ad (ab b 0 M)),J I n] w λe w'=>ajF w0 w w' B b c ao l n e:=by
 have H0:=E h.b0.size;have gu:=E (show b<w.heap.size from h.box.lt);have K:=(bk w.heap.size w).alloc (aO _) (aD #[ap ⟨#[]⟩,ap ⟨#[]⟩,aG false] 126);have HR:=E (h.al K);have HG:=E (grown_of (r:=b) K);have HX:=E (aI.new w 126 #[ap ⟨#[]⟩,ap ⟨#[]⟩,aG false]);clear h K;go_enter func319,ntmps319;cases f:(eT l i 1&&db (eu l i)) with
 |false=>
  go_wp2_with fail;refine(aad HR.A f).ah ?_;rintro e wz⟨⟨k,rfl,ci⟩,Z⟩;have HK:=E (show k≠0 by simpa using ci);replace HR:=E (HR.A.al Z);replace HX:=E (HX.A.al Z HX.A.lt);replace HG:=E (bB HG.A (grown_of Z));have eV:=ci;clear f Z ci;exact aai
 |true=>
  have U:=E (show(eu l i).size<=9223372036854775807 by
   rw[b9] at f;have m:=kZ f.1;obtain⟨S,off,_,D,z,q1,q2,q⟩:=HR.A.tk.tk HR.A.b0.aC m;rw[qx m];exact q)
  go_wp2_with fail;refine(aae HR.A f).ah ?_;rintro e wz⟨rfl,g,a⟩;replace HR:=E g;replace HX:=E (HX.A.gr a (sh gu.A));replace HG:=E (bB HG.A a);have A:=E (show db (eu l i)=true/\(eu l i).size<=9223372036854775807 from⟨by rw[b9] at f;exact f.2,U.A⟩);generalize eu l i=nm at*;clear g a f U;cases F:cA l (i+1) 4 ⟨#[33,61]⟩ with
  |true=>
   have aM:=F5 ⟨#[33,61]⟩ HR.A F;go_wp2_with fail;refine(aM).ah ?_;rintro e wz⟨rfl,g,a⟩;replace HR:=E g;replace HX:=E (HX.A.gr a (sh gu.A));replace HG:=E (bB HG.A a);clear g a;clear F aM;obtain⟨j,hj⟩:=aP (i+1+1);rw[hj] at HR;clear hj;cases s7:eT l (j) 3 with
   |false=>
    exact aaf
   |true=>
    have m:=kZ s7;have aM:=D1 3 HR.A;rw[s7] at aM;go_wp2_with fail;refine(aM).ah ?_;rintro e wz⟨rfl,Z⟩;replace HR:=E (HR.A.al Z);replace HX:=E (HX.A.al Z HX.A.lt);replace HG:=E (bB HG.A (grown_of Z));clear Z;clear aM;obtain⟨S,off,rfl,D,z,q1,q2,q⟩:=HR.A.tk.tk HR.A.b0.aC m;have x2:=λp:ba wz=>p.cell (da D HR.A.b0.size) q2;have G:=ba.cells HR.A.box;have Y:=HR.A.lc.1;have X:=HR.A.lc.2;obtain⟨T,u⟩:=aP (l[j].s);rw[u] at q;simp only[u] at x2;have N:=E m;have H:=E q;clear u z q1 q2 s7;go_wp2_with fail;refine du (cU 0 12 []) [] ?_;refine dY ?_;refine S4.nb λW d=>?_;refine dP ?_;replace HR:=E (HR.A.al d);replace HX:=E (HX.A.al d HX.A.lt);replace HG:=E (bB HG.A (grown_of d));clear d G x2;by_cases jJ:64<T.size
    ·exact aag
    have d1:decide ((64:Int)<(T.size:Int))=false:=aa an;have ec:decide (64<T.size)=false:=aa jJ;by_cases h8:8<=n
    ·exact aah
    have d2:decide (8<=n)=false:=aa h8;have y:=E (show T.size<=64/\n<8 by omega);clear jJ h8;have g1:=HR.A.box.frozen 1;have V:=HR.A.box.cell 1;have L:I.wrap ((j:Int)+1)=(j:Int)+1:=ay;have hs:=HR.A.step (j:=j+1) N.A;rw[show(((j+1:Nat)):Int)=(j:Int)+1 from rfl] at hs;have R:=E hs;clear hs;have t:=bX (o:=1) HR.A.box.lt (J I ((j:Int)+1));have x:=E (HX.A.gr t (sh gu.A));have O:=E (bB HG.A t);clear t;have⟨z0,f0⟩:=x.A.cf;have HP:=E (x.A.F6 (ap nm) (ap T) (aG true));have ch:=E (F7 x.A.lt (ap nm) (ap T) (aG true));have bi:=E (R.A.own ch.A (a8 H0.A (aO _)) (mW gu.A));have k4:=E (l3 O.A ch.A (aO _));go_wp2;have k0:=HP.A.cell;refine bF (v:=bn #[aY #[ap nm,ap T,aG true],J I 0]) aqw rfl ⟨⟨⟨nm,T,true⟩,0,rfl,⟨A.A.2,H.A⟩,λ_=>⟨A.A.1,y.A.1,y.A.2⟩⟩,⟨_,bi.A⟩,k4.A⟩
  |false=>
   have aM:=F4 ⟨#[33,61]⟩ HR.A F;go_wp2_with fail;refine(aM).ah ?_;rintro e wz⟨rfl,Z⟩;replace HR:=E (HR.A.al Z);replace HX:=E (HX.A.al Z HX.A.lt);replace HG:=E (bB HG.A (grown_of Z));clear Z;clear F aM;cases C:cA l (i+1) 4 ⟨#[61]⟩ with
   |false=>
    have aM:=F4 ⟨#[61]⟩ HR.A C;go_wp2_with fail;refine(aM).ah ?_;rintro e wz⟨rfl,Z⟩;replace HR:=E (HR.A.al Z);replace HX:=E (HX.A.al Z HX.A.lt);replace HG:=E (bB HG.A (grown_of Z));clear Z;clear C aM;have HW:=E (M4 HR.A);go_wp2_with fail;refine HW.A.ah ?_;rintro e wz⟨⟨k,rfl,ci⟩,Z⟩;have HK:=E (show k≠0 by simpa using ci);replace HR:=E (HR.A.al Z);replace HG:=E (bB HG.A (grown_of Z));replace HX:=E (HX.A.al Z HX.A.lt);clear ci Z HW;exact aai
   |true=>
    have aM:=F5 ⟨#[61]⟩ HR.A C;go_wp2_with fail;refine(aM).ah ?_;rintro e wz⟨rfl,g,a⟩;replace HR:=E g;replace HX:=E (HX.A.gr a (sh gu.A));replace HG:=E (bB HG.A a);clear g a;clear C aM;obtain⟨j,hj⟩:=aP (i+1+1);rw[hj] at HR;clear hj;cases s7:eT l (j) 3 with
    |false=>
     exact aaf
    |true=>
     have m:=kZ s7;have aM:=D1 3 HR.A;rw[s7] at aM;go_wp2_with fail;refine(aM).ah ?_;rintro e wz⟨rfl,Z⟩;replace HR:=E (HR.A.al Z);replace HX:=E (HX.A.al Z HX.A.lt);replace HG:=E (bB HG.A (grown_of Z));clear Z;clear aM;obtain⟨S,off,rfl,D,z,q1,q2,q⟩:=HR.A.tk.tk HR.A.b0.aC m;have x2:=λp:ba wz=>p.cell (da D HR.A.b0.size) q2;have G:=ba.cells HR.A.box;have Y:=HR.A.lc.1;have X:=HR.A.lc.2;obtain⟨T,u⟩:=aP (l[j].s);rw[u] at q;simp only[u] at x2;have N:=E m;have H:=E q;clear u z q1 q2 s7;go_wp2_with fail;refine du (cU 0 12 []) [] ?_;refine dY ?_;refine S4.nb λW d=>?_;refine dP ?_;replace HR:=E (HR.A.al d);replace HX:=E (HX.A.al d HX.A.lt);replace HG:=E (bB HG.A (grown_of d));clear d G x2;by_cases jJ:64<T.size
     ·exact aag
     have d1:decide ((64:Int)<(T.size:Int))=false:=aa an;have ec:decide (64<T.size)=false:=aa jJ;by_cases h8:8<=n
     ·exact aah
     have d2:decide (8<=n)=false:=aa h8;have y:=E (show T.size<=64/\n<8 by omega);clear jJ h8;have g1:=HR.A.box.frozen 1;have V:=HR.A.box.cell 1;have L:I.wrap ((j:Int)+1)=(j:Int)+1:=ay;have hs:=HR.A.step (j:=j+1) N.A;rw[show(((j+1:Nat)):Int)=(j:Int)+1 from rfl] at hs;have R:=E hs;clear hs;have t:=bX (o:=1) HR.A.box.lt (J I ((j:Int)+1));have x:=E (HX.A.gr t (sh gu.A));have O:=E (bB HG.A t);clear t;have⟨z0,f0⟩:=x.A.cf;have HP:=E (x.A.F6 (ap nm) (ap T) (aG false));have ch:=E (F7 x.A.lt (ap nm) (ap T) (aG false));have bi:=E (R.A.own ch.A (a8 H0.A (aO _)) (mW gu.A));have k4:=E (l3 O.A ch.A (aO _));go_wp2;have k0:=HP.A.cell;refine bF (v:=bn #[aY #[ap nm,ap T,aG false],J I 0]) aqw rfl ⟨⟨⟨nm,T,false⟩,0,rfl,⟨A.A.2,H.A⟩,λ_=>⟨A.A.1,y.A.1,y.A.2⟩⟩,⟨_,bi.A⟩,k4.A⟩
variable {a:bb} {o:bv} {Q:Exit->bb->aB->Prop} {ops:Array bv} {base:Nat} {rest:List bv}
section
open Go.ChangeMaps Go.MapKept
def ajI:(aH.info? 126).map (λi=>(i.zero,i.size,i.bytes))=ad (ad (aY #[ap ⟨#[]⟩,ap ⟨#[]⟩,aG false]),3,40):=ar
def ajJ:jG.e∉jG.bI:=aq
def M5 {P:cp} (D:Kr α) (r:o.guard=M) (s x:Operand) (t:bf) (ho:o.op= .call {callee:=.builtin .append,args:=#[s,x],argTypes:=#[t,t]}) (base bytes:Nat) (z:aE) (m:P.underlying t=ad (.slice D.e)) (hi:(P.info? D.e).map (λi=>(i.zero,i.size,i.bytes))=ad (ad z,D.k,bytes)) (j:z.cells.size=D.k) (qY:1<=bytes) (B:Nat) (v:aE) (l:List α) (hs:a.eval s=v) (W:aB) (vs:List aE) (y:α) (k:a.eval x=O (ad (ab W.heap.size 0 M)) 1 1) (e:Ow D W B base v l) (hrel:D.rel W B y vs) (q:(l.length+1)*bytes<=140737488355328) (d:base<=W.heap.size) (hB:B<=base) (w:D.e∉D.bI) (h:∀b w',Ow D w' B base b (l++[y])->(∀g,v.ownBlock=ad g->base<=g)->Kt B [D.e] W w'->(W.alloc (aD vs.toArray D.e)).grownBy w' v.ownBlock->wpList P ops Q rest (a.put o.dst b) w'):wpList P ops Q (o::rest) a (W.alloc (aD vs.toArray D.e)):=by
 have C:=D.len hrel;have f:Sl (W.alloc (aD vs.toArray D.e)) (W.heap.size+1) (ad (ab W.heap.size 0 M)) (1*D.k) (λi=>vs.getD i (aG false)):=Sl.lit W D.e vs (1*D.k) an;have c:=(bk W.heap.size W).alloc (aO _) (aD vs.toArray D.e);have A:=e.alloc (aD vs.toArray D.e);have u:l.length+1<=bK:=by
  exact MR
 refine mZ D r s x t ho base bytes z m hi j B v l hs A (ad (ab W.heap.size 0 M)) 1 1 [y] vs k (Rs.single (D.al hrel c)) rfl _ f u q (a8 d c.size) hB w λb w' p h2 n=>?_;exact h b w' p (λg hg=>(e.row g hg).1) ((Kt.lQ c (a8 hB d)).trans n) h2
structure qy (w0 w wr:aB) (B b c j:Nat) (ao:Option aX) (l:List Tok) (g2 g6:Nat) (c2:Array aE) (nm:ByteArray) (vM:aE) (ms:List wU):Prop where
 rd:jj w0 wr B b c j ao l
 gr:w.grownBy wr (ad b)
 r2:aI wr g2 46 c2
 r6:aI wr g6 46 #[ap nm,vM]
 ow:Ow jG wr 0 w.heap.size vM ms
 h0:w0.heap.size<=w.heap.size
 h2:w.heap.size<=g2
 h6:w.heap.size<=g6
 ne:g2≠g6
 Z:b<w.heap.size
 ok:∀m∈ms,db m.n=true/\m.v.size<=64
 len:ms.length<=8
section
variable {w0 w wr w':aB} {B b c j:Nat} {ao:Option aX} {l:List Tok} {g2 g6:Nat} {c2:Array aE} {nm:ByteArray} {vM:aE} {ms:List wU}
def qy.al (h:qy w0 w wr B b c j ao l g2 g6 c2 nm vM ms) (Z:aS wr.heap.size wr w'):qy w0 w w' B b c j ao l g2 g6 c2 nm vM ms:=⟨h.rd.al Z,bB h.gr (grown_of Z),h.r2.al Z h.r2.lt,h.r6.al Z h.r6.lt,h.ow.al Z,h.h0,h.h2,h.h6,h.ne,h.Z,h.ok,h.len⟩
def qy.kt (h:qy w0 w wr B b c j ao l g2 g6 c2 nm vM ms) (a:wr.grownBy w' (ad b)):Kt w0.heap.size [415] wr w':=(Kt.refl _ _ wr).grown a (a8 h.h0 h.gr.size) (λg e=>by cases e;exact⟨h.rd.Z,bp.bO h.rd.box⟩) (bD.2 rfl)
def qy.step (h:qy w0 w wr B b c j ao l g2 g6 c2 nm vM ms) {k:Nat} (d:jj w0 w' B b c k ao l) (a:wr.grownBy w' (ad b)):qy w0 w w' B b c k ao l g2 g6 c2 nm vM ms:=⟨d,bB h.gr a,h.r2.gr a (aj h.h2 h.Z),h.r6.gr a (aj h.h6 h.Z),h.ow.keep ((h.kt a).dJ (bV _)) aq aq,h.h0,h.h2,h.h6,h.ne,h.Z,h.ok,h.len⟩
def aI.s8 {w:aB} (h:aI w g t #[a0,cZ]) (u0 u1:aE):aI ((w.setCell (ab g 0 M) u0).setCell (ab g 1 M) u1) g t #[u0,u1]:=(h.put 0 u0).put 1 u1
def rJ {w:aB} (Z:g<w.heap.size) (u0 u1:aE):w.grownBy ((w.setCell (ab g 0 M) u0).setCell (ab g 1 M) u1) (ad g):=bB (bX Z u0) (bX aqg u1)
def qy.own (h:qy w0 w wr B b c j ao l g2 g6 c2 nm vM ms) {g:Nat} (hg:w.heap.size<=g) (a:wr.grownBy w' (ad g)):jj w0 w' B b c j ao l/\w.grownBy w' (ad b):=⟨h.rd.own a (a8 h.h0 hg) (ai h.Z),l3 h.gr a hg⟩
def qy.bt (h:qy w0 w wr B b c j ao l g2 g6 c2 nm vM ms) {i:aE} {y:wU} {us:List aE} {W:aB} (C:W=wr.alloc (aD us.toArray jG.e)) (D:Ow jG w' 0 w.heap.size i (ms++[y])) (s:∀g,vM.ownBlock=ad g->w.heap.size<=g) (hk:Kt 0 [jG.e] wr w') (d:W.grownBy w' vM.ownBlock) (z:db y.n=true/\y.v.size<=64) (H:ms.length<8):qy w0 w (w'.setCell (ab g6 1 M) i) B b c j ao l g2 g6 c2 nm i (ms++[y]):=by
 have a:aS wr.heap.size wr W:=by rw[C];exact(bk _ _).alloc (aO _) _
 have F:aI w' b 415 _:=hk.eP h.rd.box aq;have n:aI w' g6 46 _:=hk.eP h.r6 aq;have G:aI w' g2 46 _:=hk.eP h.r2 aq;have t:w.grownBy w' (ad b):=⟨d.os.trans (a.os.trans h.gr.os),d.tape.trans (a.tape.trans h.gr.tape),d.output.trans (a.output.trans h.gr.output),a8 h.gr.size (a8 a.size d.size),λk f E=>((d.block k (da f (a8 h.gr.size a.size)) (λe=>by have:=s k e.symm;omega)).trans (a.block k (da f h.gr.size))).trans (h.gr.block k f E)⟩;have v:∀k,k<w.heap.size->w'.heap[k]?=wr.heap[k]?:=λk f=>(d.block k (da f (a8 h.gr.size a.size)) (λe=>by have:=s k e.symm;omega)).trans (a.block k (da f h.gr.size));have q:=h.rd.b0.aC;have cN:aF w0 w':=aF.of ⟨(d.os.trans a.os).trans q.os,(d.tape.trans a.tape).trans q.tape,(d.output.trans a.output).trans q.output,a8 h.h0 t.size,λk f=>(v k (da f h.h0)).trans (q.block k f)⟩;have r:=bX (o:=1) n.lt i;have u:Kt w0.heap.size [46] w' (w'.setCell (ab g6 1 M) i):=(Kt.refl _ _ _).setCell (a8 h.h0 h.h6) (bp.bO n) (bD.2 rfl) i;exact⟨⟨cN.cD r (a8 h.h0 h.h6),h.rd.Z,h.rd.tk,F.gr r (aj h.Z h.h6),h.rd.lc,h.rd.le⟩,l3 t r h.h6,G.bT h.ne _,n.put 1 i,D.keep (u.dJ (bV _)) aq aq,h.h0,h.h2,h.h6,h.ne,h.Z,λm p=>by
  rcases kf.1 p with p|p
  ·exact h.ok m p
  ·rw[bD] at p;subst p;exact z,aw⟩
end
structure ajK (w0 w w':aB) (B b c i:Nat) (ao:Option aX) (l:List Tok) (e:Ending):Prop where
 A:∃(v:aE) (s:iZ) (k:Int) (j:Nat),e=aQ (bn #[v,J I k])/\qi w' 0 v s/\(k=0->kT s=true)/\((eT l i 1&&db (eu l i))=true->cA l (i+1) 4 ⟨#[123]⟩=false->s=⟨eu l i,[]⟩/\k=0/\j=i+1)/\jj w0 w' B b c j ao l
 gr:w.grownBy w' (ad b)
def aaj (w:aB) (B:Nat):qi w B (aY #[ap ⟨#[]⟩,O M 0 0]) ⟨⟨#[]⟩,[]⟩:=⟨_,rfl,aq,Vs.bh _ _ _⟩
def RW {nm:ByteArray} {ms:List wU} (h:db nm=true) (h2:∀m∈ms,db m.n=true/\m.v.size<=64) (d:ms.length<=8):kT ⟨nm,ms⟩=true:=by
 unfold kT;rw[b9,b9,decide_eq_true_eq];refine⟨⟨h,d⟩,mw.2 λk c=>?_⟩;have a:k<ms.length:=c;have b:=h2 _ (dl a);unfold Bk oM nW;rw[dr a,b9,decide_eq_true_eq];exact b
def ajL {ms:List wU} (h:Ow jG w B base v ms) (ty:bf) (W:aB):(Builtin.len_ #[44] ty #[v]).run aH W= .ok (J I ms.length) W:=by
 obtain⟨ao,c,rfl,_⟩:=h.shape;simp[Builtin.len_,mf underlying44,goInt,Result.andThen]
theorem aak (h:P:=by
 have⟨z0,f0⟩:=(HS.A.r2).cf;have HP:=E ((HS.A.r2).s8 (ap ⟨#[]⟩) (O M 0 0));have ch:=E (rJ (HS.A.r2).lt (ap ⟨#[]⟩) (O M 0 0));have HF:=E (HS.A.own HS.A.h2 ch.A);go_wp2;have k0:=HP.A.cell;refine bF (v:=bn #[aY #[(ap ⟨#[]⟩),(O M 0 0)],J I k]) aqB rfl ⟨⟨_,⟨⟨#[]⟩,[]⟩,k,_,rfl,aaj _ _,λh=>ae h HK.A,λ_ h=>fK.A _ h,HF.A.1⟩,HF.A.2⟩;):P:=h
def ajM {c:Nat} (h:jj w0 w B b c i ao l):aN aH 302 #[bl (ad (ab b 0 M))] w λe w'=>ajK w0 w w' B b c i ao l e:=by
 have H0:=E h.b0.size;have X:=E (show b<w.heap.size from h.box.lt);have bW:=(bk w.heap.size w).alloc (aO _) (aD #[ap ⟨#[]⟩,O M 0 0] 46);have m:=E (h.al bW);have t:=E (grown_of (r:=b) bW);have HX:=E (aI.new w 46 #[ap ⟨#[]⟩,O M 0 0]);clear h bW;go_enter func302,ntmps302;cases p:(eT l i 1&&db (eu l i)) with
 |false=>
  go_wp2_with fail;refine(aad m.A p).ah ?_;rintro e g⟨⟨k,rfl,z⟩,Z⟩;have HK:=E (show k≠0 by simpa using z);replace m:=E (m.A.al Z);replace HX:=E (HX.A.al Z HX.A.lt);replace t:=E (bB t.A (grown_of Z));have eV:=z;have eo:=E p;clear p Z z;have⟨z0,f0⟩:=(HX.A).cf;have HP:=E ((HX.A).s8 (ap ⟨#[]⟩) (O M 0 0));have ch:=E (rJ (HX.A).lt (ap ⟨#[]⟩) (O M 0 0));have bi:=E (m.A.own ch.A (a8 H0.A (aO _)) (mW X.A));have k4:=E (l3 t.A ch.A (aO _));go_wp2;have k0:=HP.A.cell;refine bF (v:=bn #[aY #[(ap ⟨#[]⟩),(O M 0 0)],J I k]) aqB rfl ⟨⟨_,⟨⟨#[]⟩,[]⟩,k,_,rfl,aaj _ _,λh=>ae h HK.A,λh=>ae (eo.A.symm.trans h) aq,bi.A⟩,k4.A⟩
 |true=>
  have Jp:=E (show(eu l i).size<=9223372036854775807 by
   rw[b9] at p;have aK:=kZ p.1;obtain⟨gq,off,_,eb,q0,q1,q2,q3⟩:=m.A.tk.tk m.A.b0.aC aK;rw[qx aK];exact q3)
  go_wp2_with fail;refine(aae m.A p).ah ?_;rintro e F⟨rfl,f,d⟩;replace m:=E f;replace HX:=E (HX.A.gr d (sh X.A));replace t:=E (bB t.A d);have u:=E (show db (eu l i)=true/\(eu l i).size<=9223372036854775807 from⟨by rw[b9] at p;exact p.2,Jp.A⟩);obtain⟨nm,Q⟩:=aP (eu l i);rw[Q] at u;have BN:=E Q;simp only[Q];clear f d p Jp Q;have HS:=E (show qy w0 w (F.alloc (aD #[ap nm,O M 0 0] 46)) B b c (i+1) ao l w.heap.size F.heap.size #[ap ⟨#[]⟩,O M 0 0] nm (O M 0 0) [] from⟨m.A.al ((bk _ _).alloc (aO _) _),bB t.A (grown_of ((bk _ _).alloc (aO _) _)),HX.A.alloc _,aI.new F 46 _,Ow.bh _ _ _ _,H0.A,aO _,t.A.size,mW HX.A.lt,X.A,av,av⟩);clear m HX t;cases C:cA l (i+1) 4 ⟨#[123]⟩ with
  |false=>
   have a:=F4 ⟨#[123]⟩ HS.A.rd C;go_wp2_with fail;refine(a).ah ?_;rintro e g⟨rfl,Z⟩;replace HS:=E (HS.A.al Z);clear Z;clear a C;have y0:=HS.A.r6.cell;have⟨z0,f0⟩:=(HS.A.r2).cf;have HP:=E ((HS.A.r2).s8 (ap nm) (O M 0 0));have ch:=E (rJ (HS.A.r2).lt (ap nm) (O M 0 0));have HF:=E (HS.A.own HS.A.h2 ch.A);have s:=((Kt.refl w0.heap.size [46] _).setCell (o:=0) (a8 HS.A.h0 HS.A.h2) (bp.bO HS.A.r2) (bD.2 rfl) (ap nm)).setCell (o:=1) (a8 HS.A.h0 HS.A.h2) (bp.bO (HS.A.r2.put 0 (ap nm))) (bD.2 rfl) (O M 0 0);have G:=E (HS.A.ow.keep (s.dJ (bV _)) aq aq).vs;have D:=E (RW u.A.1 HS.A.ok HS.A.len);clear s;go_wp2;have k0:=HP.A.cell;refine bF (v:=bn #[aY #[(ap nm),(O M 0 0)],J I 0]) aqB rfl ⟨⟨_,⟨nm,[]⟩,0,_,rfl,⟨_,rfl,u.A.2,G.A⟩,λ_=>D.A,λ_ _=>⟨by rw[BN.A],rfl,rfl⟩,HF.A.1⟩,HF.A.2⟩
  |true=>
   have Bw:=E C;have a:=F5 ⟨#[123]⟩ HS.A.rd C;go_wp2_with fail;refine(a).ah ?_;rintro e g⟨rfl,f,d⟩;replace HS:=E (HS.A.step f d);clear f d;clear a C;cases N:cA l (i+1+1) 4 ⟨#[125]⟩ with
   |true=>
    have a:=F5 ⟨#[125]⟩ HS.A.rd N;go_wp2_with fail;refine(a).ah ?_;rintro e g⟨rfl,f,d⟩;replace HS:=E (HS.A.step f d);clear f d;clear a N;have y0:=HS.A.r6.cell;have⟨z0,f0⟩:=(HS.A.r2).cf;have HP:=E ((HS.A.r2).s8 (ap nm) (O M 0 0));have ch:=E (rJ (HS.A.r2).lt (ap nm) (O M 0 0));have HF:=E (HS.A.own HS.A.h2 ch.A);have s:=((Kt.refl w0.heap.size [46] _).setCell (o:=0) (a8 HS.A.h0 HS.A.h2) (bp.bO HS.A.r2) (bD.2 rfl) (ap nm)).setCell (o:=1) (a8 HS.A.h0 HS.A.h2) (bp.bO (HS.A.r2.put 0 (ap nm))) (bD.2 rfl) (O M 0 0);have G:=E (HS.A.ow.keep (s.dJ (bV _)) aq aq).vs;have D:=E (RW u.A.1 HS.A.ok HS.A.len);clear s;go_wp2;have k0:=HP.A.cell;refine bF (v:=bn #[aY #[(ap nm),(O M 0 0)],J I 0]) aqB rfl ⟨⟨_,⟨nm,[]⟩,0,_,rfl,⟨_,rfl,u.A.2,G.A⟩,λ_=>D.A,λ_ h=>ae (Bw.A.symm.trans h) aq,HF.A.1⟩,HF.A.2⟩
   |false=>
    have a:=F4 ⟨#[125]⟩ HS.A.rd N;go_wp2_with fail;refine(a).ah ?_;rintro e g⟨rfl,Z⟩;replace HS:=E (HS.A.al Z);clear Z;clear a N;go_wp2;have fK:=E (λ(P:Prop) (h:cA l (i+1) 4 ⟨#[123]⟩=false)=>(ae (Bw.A.symm.trans h) aq:P));generalize i+1+1=ut at HS;go_loopw [] (λwr=>∃(j:Nat) (vM:aE) (ms:List wU),a6 (qy w0 w wr B b c j ao l w.heap.size F.heap.size #[ap ⟨#[]⟩,O M 0 0] nm vM ms)) (λwr=>match wr.cell? (ab F.heap.size 1 M) with|some (O _ n _)=>9-n|_=>0);case atStart=>exact⟨_,_,_,HS⟩
    case round=>
     clear HS;obtain⟨j,vM,ms,HS⟩:=hrel;have wR:=HS;have q:=HS.A.r6.cell 1;simp at q;have ce:=λW=>ajL HS.A.ow 3 W;have H:=E (ajG (ms.length:Int) HS.A.rd);go_wp2_with fail;refine H.A.ah ?_;rintro e g lU;obtain⟨⟨mt,k,rfl,bJ,Y⟩,⟨j2,f⟩,d⟩:=lU;replace HS:=E ((HS.A.step f d).al ((bk _ _).alloc (aO _) (aD #[ap mt.n,ap mt.v,aG mt.neg] 126)));clear f d H q ce;by_cases hk:k=0;case neg=>
      have jv:(k !=0)=true:=aqk;have HK:=E hk;clear hk Y;exact aak
     subst hk;obtain⟨fz,j0,qf⟩:=Y rfl;have R:=E (show(db mt.n=true/\mt.v.size<=64)/\ms.length<8 from⟨⟨fz,j0⟩,an⟩);have dt:=E bJ;clear Y fz j0 qf bJ;have q:=HS.A.r6.cell 1;have ca:=aI.new g 126 #[ap mt.n,ap mt.v,aG mt.neg];have x0:=ca.cell;simp at q;have dj:=E HS.A.gr.size;clear ca;go_wp2_with ((refine M5 jG au (.tmp 44) (.tmp 46) 44 au w.heap.size 40 _ ar ajI au aq 0 _ ms au (g.alloc (aD #[ap mt.n,ap mt.v,aG mt.neg] 126)) [ap mt.n,ap mt.v,aG mt.neg] mt (by rw[eO];rfl) HS.A.ow ⟨rfl,dt.A.1,dt.A.2⟩ (ai R.A.2) dj.A (bV _) ajJ ?_;intro v' w' bC vP eZ kj;obtain⟨Av,jg,mM,_⟩:=bC.shape;obtain⟨K,V⟩:∃n,(ms++[mt]).length=n:=⟨_,rfl⟩;rw[V] at mM;subst mM;have rK:=E V;clear V;have gH:=E bC;have pK:=E vP;have BP:=E eZ;have oe:=E kj;clear bC vP eZ kj q;have y:=BP.A.eP HS.A.r6 aq;have f1:=y.frozen 1;have q:=y.cell 1;simp at q;clear y));replace HS:=E (HS.A.bt rfl gH.A pK.A BP.A oe.A R.A.1 R.A.2);clear gH pK BP oe;cases L:cA l j2 4 ⟨#[125]⟩ with
     |true=>
      have a:=F5 ⟨#[125]⟩ HS.A.rd L;go_wp2_with fail;refine(a).ah ?_;rintro e g⟨rfl,f,d⟩;replace HS:=E (HS.A.step f d);clear f d;clear a L;have y0:=HS.A.r6.cell;have⟨z0,f0⟩:=(HS.A.r2).cf;have HP:=E ((HS.A.r2).s8 (ap nm) (O Av K jg));have ch:=E (rJ (HS.A.r2).lt (ap nm) (O Av K jg));have HF:=E (HS.A.own HS.A.h2 ch.A);have s:=((Kt.refl w0.heap.size [46] _).setCell (o:=0) (a8 HS.A.h0 HS.A.h2) (bp.bO HS.A.r2) (bD.2 rfl) (ap nm)).setCell (o:=1) (a8 HS.A.h0 HS.A.h2) (bp.bO (HS.A.r2.put 0 (ap nm))) (bD.2 rfl) (O Av K jg);have G:=E (HS.A.ow.keep (s.dJ (bV _)) aq aq).vs;have D:=E (RW u.A.1 HS.A.ok HS.A.len);clear s;go_wp2;have k0:=HP.A.cell;refine bF (v:=bn #[aY #[(ap nm),(O Av K jg)],J I 0]) aqB rfl ⟨⟨_,⟨nm,ms++[mt]⟩,0,_,rfl,⟨_,rfl,u.A.2,G.A⟩,λ_=>D.A,λ_ h=>fK.A _ h,HF.A.1⟩,HF.A.2⟩
     |false=>
      have a:=F4 ⟨#[125]⟩ HS.A.rd L;go_wp2_with fail;refine(a).ah ?_;rintro e g⟨rfl,Z⟩;replace HS:=E (HS.A.al Z);clear Z;clear a L;cases S:cA l j2 4 ⟨#[44]⟩ with
      |false=>
       have a:=F4 ⟨#[44]⟩ HS.A.rd S;go_wp2_with fail;refine(a).ah ?_;rintro e g⟨rfl,Z⟩;replace HS:=E (HS.A.al Z);clear Z;clear a S;have HW:=E (M4 HS.A.rd);go_wp2_with fail;refine HW.A.ah ?_;rintro e g⟨⟨k,rfl,z⟩,Z⟩;have HK:=E (show k≠0 by simpa using z);replace HS:=E (HS.A.al Z);clear z Z HW;exact aak
      |true=>
       have a:=F5 ⟨#[44]⟩ HS.A.rd S;go_wp2_with fail;refine(a).ah ?_;rintro e g⟨rfl,f,d⟩;replace HS:=E (HS.A.step f d);clear f d;clear a S;have U:=HS.A.r6.cell 1;have T:=wR.A.r6.cell 1;simp at U T;have HY:=E (iC U T);obtain⟨A1,c1,e1,_⟩:=HS.A.ow.shape;obtain⟨A2,c2,e2,_⟩:=wR.A.ow.shape;have HE:=E (iC e1 e2);have aJ:=R.A.2;clear U T e1 e2 q f1 x0;go_wp2;go_roundw;case rel=>exact⟨_,_,_,HS⟩
       case measure=>
        have q1:=HY.A.1;have q2:=HY.A.2;rw[HE.A.1] at q1;rw[HE.A.2] at q2;simp only[q1,q2];simp;omega
end
variable {cs' args:Array aE}
section
structure Gx (r:Nat) (X:Obj) (W:aB) where
 aL:aB
 gr:W.grownBy aL (ad r)
 box:aL.heap[r]?=W.heap[r]?\/aL.heap[r]?=ad X
instance (r:Nat) (X:Obj) (W:aB):Inhabited (Gx r X W):=⟨⟨W,grown_of (bk _ _),.inl rfl⟩⟩
def gb (r:Nat) (X:Obj) (w w':aB):Prop:=∃p:Gx r X w,w'=p.aL
variable {r:Nat} {X:Obj}
def gb.refl (w:aB):gb r X w w:=⟨⟨w,grown_of (bk _ _),.inl rfl⟩,rfl⟩
def gb.trans {a b c:aB} (h:gb r X a b) (k:gb r X b c):gb r X a c:=by
 obtain⟨p,rfl⟩:=h;obtain⟨q,rfl⟩:=k;refine⟨⟨q.aL,bB p.gr q.gr,?_⟩,rfl⟩;rcases q.box with h|h
 ·rcases p.box with k|k
  ·exact .inl (h.trans k)
  ·exact .inr (h.trans k)
 ·exact .inr h
def gb.of (a:r<w.heap.size) (h:aS w.heap.size w w'):gb r X w w':=⟨⟨w',grown_of h,.inl (h.block r a)⟩,rfl⟩
def gb.drew (w:aB):gb r X w w.drew:=⟨⟨w.drew,grown_of (bk _ _).drew,.inl rfl⟩,rfl⟩
def Gx.rel (p:Gx r X w):gb r X w p.aL:=⟨p,rfl⟩
def Gx.size (p:Gx r X w):w.heap.size<=p.aL.heap.size:=p.gr.size
def Gx.cells (h:aI w g t cs) (a:g≠r) (i:Nat):∀p:Gx r X w,p.aL.cell? (ab g i M)=cs[i]?:=λp=>(h.gr p.gr a).cell i
def Gx.cell {a:aX} (p:Gx r X w) (b:a.block≠r) (h:w.cell? a=ad v):p.aL.cell? a=ad v:=by
 rcases gy a.block w.heap.size with h'|h'
 ·rw[wK (p.gr.block _ h' (am b))];exact h
 ·simp[World.cell?,Array.getElem?_eq_none_iff.2 h'] at h
def Gx.own (p:Gx r (aD cs' t (0,0)) w) (h:aI w r t cs) (hs:cs'.size=cs.size):∃us,aI p.aL r t us/\us.size=cs.size:=by
 rcases p.box with k|k
 ·exact⟨cs,k.trans h,rfl⟩
 ·exact⟨cs',k,hs⟩
def aI.some_ {us:Array aE} (h:aI w g t us) {i:Nat} (hi:i<us.size):∃v,w.cell? (ab g i M)=ad v:=⟨us[i],by rw[h.cell i];exact Array.getElem?_eq_getElem hi⟩
def gb.put (h:aI w' r t cs') (hg:w.grownBy w' (ad r)):gb r (aD cs' t (0,0)) w w':=⟨⟨w',hg,.inr h⟩,rfl⟩
def gb.last (h:gb r (aD cs' t (0,0)) w w') (a:aI w r t cs'):aI w' r t cs'/\w.grownBy w' (ad r):=by
 obtain⟨p,rfl⟩:=h;rcases p.box with k|k
 ·exact⟨k.trans a,p.gr⟩
 ·exact⟨k,p.gr⟩
attribute [go_sem] gb
def aN.vQ {P:cp} {f:FuncId} (a:r<w.heap.size) (h:aN P f args w λe w'=>e=aQ v/\aS w.heap.size w w'):aN P f args w λe c=>e=aQ v/\∃q:Gx r X w,c=q.aL:=h.mono λ_ _ ⟨b,Z⟩=>⟨b,gb.of a Z⟩
def aI.mO (h:aI w g t #[a0,cZ,a2,a3]) (u0 u1 u2 u3:aE):aI ((((w.setCell (ab g 0 M) u0).setCell (ab g 1 M) u1).setCell (ab g 2 M) u2).setCell (ab g 3 M) u3) g t #[u0,u1,u2,u3]:=(((h.put 0 u0).put 1 u1).put 2 u2).put 3 u3
def ajN {us:Array aE} (h:us.size=2):∃a b,us=#[a,b]:=by
 rcases us with⟨l⟩;match l,h with
 |[a,b],_=>exact⟨a,b,rfl⟩
def aal {us:Array aE} (h:us.size=8):∃a b c d e f g i,us=#[a,b,c,d,e,f,g,i]:=by
 rcases us with⟨l⟩;match l,h with
 |[a,b,c,d,e,f,g,i],_=>exact⟨a,b,c,d,e,f,g,i,rfl⟩
end
variable {β:Type}
section
open im (dT fe)
instance:Inhabited eX:=⟨⟨(⟨#[]⟩,⟨#[]⟩),jN⟩⟩
def cz (l:List eX) (i:Nat):Key:=(l.getD i default).k
def fJ (l:List eX) (i:Nat):cy:=(l.getD i default).x
noncomputable def sR (l:List eX) (i:Nat):Bool:=db (cz l i).1&&db (cz l i).2&&fY (fJ l i)&&(decide (i=0)||decide (fU (cz l (i-1)) (cz l i)<0))
noncomputable def kz (l:List eX):Bool:=decide (l.length<=256)&&cI l.length (sR l)
def zm (v:Int):Int:=min (max v (-576460752303423488)) 576460752303423488
def xu (a:b8):b8:={a with v:=zm a.v}
def oa (s:eX):eX:={s with x:={s.x with ao:=s.x.ao.map xu}}
def um (a:b8):Int:=a.st+(if a.h.on=true then 4 else 0)+(if a.h.hit=true then 8 else 0)
def mF (a:b8):List UInt8:=kx a.L++bu (um a).toNat++bu a.h.dB.toNat++bu a.h.eW.toNat++bu (encI (zm a.v))
def oU (s:ByteArray):List UInt8:=bu s.size++nL s
def oV (s:eX):List UInt8:=oU s.k.1++oU s.k.2++bu s.x.full.toNat++bu s.x.ao.length++s.x.ao.flatMap mF
noncomputable def gV (l:List eX):List UInt8:=if kz l=true then bu l.length++l.flatMap oV else[]
abbrev RS:=Except Nat (List UInt8)
def sU:RS->Int×RS
 |.error c=>(0,.error c)
 |.ok l=>match sj l with
  |.error c=>(0,.error c)
  |.ok (u,r)=>(u,.ok r)
noncomputable def kA:RS->aZ×RS
 |.error c=>([],.error c)
 |.ok l=>match uk l with
  |.error c=>([],.error c)
  |.ok (u,r)=>(u,.ok r)
def sW (c:Nat):RS->RS
 |.error e=>.error e
 |.ok _=>.error c
def By (b:Bool) (c:Nat) (s:RS):RS:=if b=true then sW c s else s
noncomputable def lx (s0:RS):b8×RS:=let L:=kA s0;let n:=dc L.2;let a:=dc (By (decide (15<n.1)) 1 n.2);let f:=dc a.2;let v:=sU f.2;(⟨L.1,⟨decide (n.1/4 % 2=1),a.1,decide (n.1/8 % 2=1),f.1⟩,(n.1 % 4:Nat),v.1⟩,v.2)
def qs {α:Type} (one:RS->α×RS):Nat->RS->List α->List α×RS
 |0,s,aT=>(aT,s)
 |_+1,.error c,aT=>(aT,.error c)
 |k+1,.ok l,aT=>qs one k (one (.ok l)).2 (aT++[(one (.ok l)).1])
def pD {α:Type} (one:RS->α×RS) (FP:Nat) (s:RS):List α×RS:=let n:=dc s;qs one n.1 (By (decide (FP<n.1)) 4 n.2) []
noncomputable def mG (s0:RS):eX×RS:=let g:=dZ s0;let r:=dZ g.2;let f:=dc r.2;let ao:=pD lx 16 f.2;(⟨(⟨g.1.toArray⟩,⟨r.1.toArray⟩),⟨ao.1,f.1⟩⟩,ao.2)
noncomputable def un (l:List UInt8):Option (List eX):=match pD mG 256 (.ok l) with
 |(_,.error _)=>M
 |(A,.ok rest)=>if rest=[]/\kz A=true then ad A else M
def Jf (n:Nat) (t:List UInt8) (h:n<=1152921504606846976):dc (.ok (bu n++t))=(n,.ok t):=by
 unfold dc;simp only;rw[C0 n t h]
def Zd (s:ByteArray) (t:List UInt8) (h:s.size<=65536):dZ (.ok (oU s++t))=(nL s,.ok t):=by
 unfold dZ oU;simp only;rw[Rl s t h]
def aiv (L:aZ) (t:List UInt8) (h:bH L=true):kA (.ok (kx L++t))=(L,.ok t):=by
 unfold kA;simp only;rw[aiu L t h]
def aiw (n:Int) (t:List UInt8) (h:-576460752303423488<=n/\n<=576460752303423488):sU (.ok (bu (encI n)++t))=(n,.ok t):=by
 unfold sU;simp only;rw[afE n t h]
def Rm (v:Int):-576460752303423488<=zm v/\zm v<=576460752303423488:=by unfold zm;omega
def Ro {a:b8} (h:0<=a.st/\a.st<=2):0<=um a/\um a<=15/\(um a).toNat % 4=a.st.toNat/\decide ((um a).toNat/4 % 2=1)=a.h.on/\decide ((um a).toNat/8 % 2=1)=a.h.hit:=by
 obtain⟨L,⟨on,s,hit,f⟩,st,v⟩:=a;unfold um;simp only at h⊢;rcases(show st=0\/st=1\/st=2 by omega) with rfl|rfl|rfl<;>cases on<;>cases hit<;>simp
theorem Rp (h:P:=by
 unfold fe dT at h2;simp only[b9,decide_eq_true_eq] at h2;omega;):P:=h
def aix {a:b8} (t:List UInt8) (c:bH a.L=true) (h2:fe a.h=true) (b:0<=a.st/\a.st<=2):lx (.ok (mF a++t))=(xu a,.ok t):=by
 have hs:=Ro b;have Z:0<=a.h.dB/\a.h.dB<=9007199254740992/\0<=a.h.eW/\a.h.eW<=9007199254740992:=by
  exact Rp
 unfold lx mF;simp only[mV];rw[aiv _ _ c];simp only;rw[Jf _ _ an];simp only;rw[show decide (15<(um a).toNat)=false from aa an];unfold By;simp only[tL,if_false];rw[Jf _ _ an];simp only;rw[Jf _ _ an];simp only;rw[aiw _ _ (Rm _)];simp only;rw[hs.2.2.1,hs.2.2.2.1,hs.2.2.2.2];obtain⟨L,⟨on,s,hit,f⟩,st,v⟩:=a;simp only at Z b;unfold xu;simp only;rw[show((s.toNat:Nat):Int)=s by omega,show((f.toNat:Nat):Int)=f by omega,show((st.toNat:Nat):Int)=st by omega]
def Ze (one:RS->α×RS) (put:β->List UInt8) (cl:β->α):∀(zs:List β) (t:List UInt8) (aT:List α),(∀z∈zs,∀t,one (.ok (put z++t))=(cl z,.ok t))->qs one zs.length (.ok (zs.flatMap put++t)) aT=(aT++zs.map cl,.ok t)
 |[],t,aT,_=>by simp[qs]
 |z::zs,t,aT,h=>by
  rw[pY,List.flatMap_cons,mV,qs,h z av]
  simp only
  rw[Ze one put cl zs t _ (λy a=>h y (by simp[a]))]
  simp
def Zf (one:RS->α×RS) (put:β->List UInt8) (cl:β->α) (a:Nat) (zs:List β) (t:List UInt8) (c:a<=1000) (b:zs.length<=a) (h:∀z∈zs,∀t,one (.ok (put z++t))=(cl z,.ok t)):pD one a (.ok (bu zs.length++(zs.flatMap put++t)))=(zs.map cl,.ok t):=by
 unfold pD;rw[Jf _ _ an];simp only;rw[show decide (a<zs.length)=false from aa an];unfold By;simp only[tL,if_false];rw[Ze one put cl zs t [] h];simp
def FQ {l:List eX} (h:kz l=true):l.length<=256/\∀s∈l,db s.k.1=true/\db s.k.2=true/\fY s.x=true:=by
 unfold kz at h;rw[b9,decide_eq_true_eq,mw] at h;refine⟨h.1,λs hs=>?_⟩;obtain⟨i,hi,rfl⟩:=qV.1 hs;have:=h.2 i hi;unfold sR cz fJ at this;rw[dr hi] at this;simp only[b9] at this;exact⟨this.1.1.1,this.1.1.2,this.1.2⟩
def Zg (s:ByteArray):(⟨(nL s).toArray⟩:ByteArray)=s:=by
 unfold nL;simp
def aiy {s:eX} (t:List UInt8) (e:db s.k.1=true) (h2:db s.k.2=true) (d:fY s.x=true):mG (.ok (oV s++t))=(oa s,.ok t):=by
 have b:=qk.1 d;have n1:=(nM.1 e).2.1;have f:=(nM.1 h2).2.1;unfold mG oV;simp only[mV];rw[Zd _ _ an];simp only;rw[Zd _ _ an];simp only;rw[Jf _ _ an];simp only;rw[Zf lx mF xu 16 s.x.ao t an b.1 (λa c t=>aix t (b.2.2.1 a c).1 (b.2.2.1 a c).2.1 (b.2.2.1 a c).2.2)];simp only;rw[Zg,Zg,show((s.x.full.toNat:Nat):Int)=s.x.full by omega];rfl
def Zh {f g:Nat->Bool} (h:∀i,i<n->f i=g i):cI n f=cI n g:=by
 rw[Bool.eq_iff_iff,mw,mw];exact⟨λk i hi=>h i hi▸k i hi,λk i hi=>(h i hi).symm▸k i hi⟩
theorem Zi (h:P:=by
 rw[dd,tJ,cR hk,dd,cR hk];rfl;):P:=h
def aiz (x:cy):fY {x with ao:=x.ao.map xu}=fY x:=by
 have hk:∀k,k<x.ao.length->(x.ao.map xu).getD k default=xu (x.ao.getD k default):=λk hk=>by
  exact Zi
 unfold fY;simp only[p6];rw[Zh (f:=sK (x.ao.map xu)) (g:=sK x.ao) (λi hi=>by
  have h0:=hk i hi;have a:(x.ao.map xu).getD (i-1) default=xu (x.ao.getD (i-1) default):=hk (i-1) an;unfold sK cX dx gl;rw[h0,a];rfl)]
def Zj (l:List eX):kz (l.map oa)=kz l:=by
 have hk:∀k,k<l.length->(l.map oa).getD k default=oa (l.getD k default):=λk hk=>by
  exact Zi
 unfold kz;rw[p6,Zh (f:=sR (l.map oa)) (g:=sR l) (λi hi=>by
  have h0:=hk i hi;have a:(l.map oa).getD (i-1) default=oa (l.getD (i-1) default):=hk (i-1) an;unfold sR cz fJ;rw[h0,a];unfold oa;simp only;rw[aiz])]
def Zk {l:List eX} (h:kz l=true):un (gV l)=ad (l.map oa):=by
 have a:=FQ h;unfold un gV;rw[ag h];have:=Zf mG oV oa 256 l [] an a.1 (λs hs t=>aiy t (a.2 s hs).1 (a.2 s hs).2.1 (a.2 s hs).2.2);rw[List.append_nil] at this;rw[this];simp only;rw[ag ⟨trivial,by rw[Zj];exact h⟩]
def aiA {b:List UInt8} {l:List eX} (h:un b=ad l):kz l=true:=by
 unfold un at h;split at h
 ·cases h
 ·split at h
  ·rename_i a;cases h;exact a.2
  ·cases h
end
def aaB:∀a b:List UInt8,Lib.compareBytes a b=if ii a b=true then-1 else if ii b a=true then 1 else 0
 |[],[]=>by simp[Lib.compareBytes,ii]
 |[],_::_=>by simp[Lib.compareBytes,ii]
 |_::_,[]=>by simp[Lib.compareBytes,ii]
 |a::x,b::y=>by
  have d:=aaB x y
  rcases(show a<b\/a=b\/b<a from by
   rcases Nat.lt_trichotomy a.toNat b.toNat with h|h|h
   ·exact .inl (UInt8.lt_iff_toNat_lt.2 h)
   ·exact .inr (.inl (UInt8.toNat.inj h))
   ·exact .inr (.inr (UInt8.lt_iff_toNat_lt.2 h))) with h|h|h
  ·simp[Lib.compareBytes,ii,h]
  ·subst h;simp[Lib.compareBytes,ii,d]
  ·have h2:¬a<b:=λh'=>ae (UInt8.lt_trans h h') (UInt8.lt_irrefl _);have c:a≠b:=λe=>by subst e;exact ae h (UInt8.lt_irrefl _)
   simp[Lib.compareBytes,ii,h,h2,c,Ne.symm c]
def Na (a b:ByteArray) (w:aB):aN aH 124 #[ap a,ap b] w λe w'=>e=aQ (J I (fO a b))/\w'=w:=(Tryz.strings_Compare a b w).mono λe w' h=>⟨by rw[h.1,aaB];unfold fO b1;rw[ByteArray.toList_eq,ByteArray.toList_eq],h.2⟩
def aj1 (d b a q1:ByteArray) (w:aB):aN aH 160 #[aY #[ap d,ap b],aY #[ap a,ap q1]] w λe w'=>e=aQ (J I (fU (d,b) (a,q1)))/\cm w w':=by
 have HE:=E (show fU (d,b) (a,q1)=Fj (fO d a) (fO b q1) from rfl);generalize fU (d,b) (a,q1)=r at HE⊢;have C1:=λW=>Na d a W;have C2:=λW=>Na b q1 W;generalize fO d a=x at HE C1;generalize fO b q1=y at HE C2;have C1:=E C1;have C2:=E C2;have a0:=(aI.new w 67 #[ap d,ap b]).alloc (aD #[ap a,ap q1] 67);have f:=aI.new (w.alloc (aD #[ap d,ap b] 67)) 67 #[ap a,ap q1];have l:=gT.cells a0 0;have j:=gT.cells a0 1;have i:=gT.cells f 0;have g:=gT.cells f 1;simp at l j i g;go_enter func160,ntmps160;exact WP
def aj2 (d b a q1:ByteArray) (n m q2 l:aE) (w:aB):aN aH 123 #[aY #[ap d,ap b,n,m],aY #[ap a,ap q1,q2,l]] w λe w'=>e=aQ (J I (fU (d,b) (a,q1)))/\cm w w':=by
 have g:=E (show fU (d,b) (a,q1)=Fj (fO d a) (fO b q1) from rfl);generalize fU (d,b) (a,q1)=r at g⊢;have j:=λW=>Na d a W;have i:=λW=>Na b q1 W;generalize fO d a=x at g j;generalize fO b q1=y at g i;have j:=E j;have i:=E i;have a0:=(aI.new w 205 #[ap d,ap b,n,m]).alloc (aD #[ap a,ap q1,q2,l] 205);have o:=aI.new (w.alloc (aD #[ap d,ap b,n,m] 205)) 205 #[ap a,ap q1,q2,l];have u:=gT.cells a0 0;have t:=gT.cells a0 1;have s:=gT.cells o 0;have p:=gT.cells o 1;simp at u t s p;go_enter func123,ntmps123;go_wp2_with fail;refine AY cm cm.refl cm.trans (cU 0 14 (.c 14::(cU 15 2 []))) [] (cm.drew _) ?_;repeat (
  refine S4.step (λKK aJ=>?_);go_simp;first
   |(refine aJ _ ?_;clear aJ KK)
   |(apply lL;refine⟨λ_=>?_,aJ _ ?_⟩;(first|(with_reducible exact aN.Fc (j.A _))|(with_reducible exact aN.Fc (i.A _)));clear aJ KK))
 refine S4.dm ?_;rintro _⟨f,rfl⟩ KK aJ;go_simp;refine aJ _ _ ((cm.refl _).alloc _) ?_;have B:=gT.cells (aI.new f.aL 3 #[J I x,J I y]) 0;have A:=gT.cells (aI.new f.aL 3 #[J I x,J I y]) 1;have z:=E (λq:gT (f.aL.alloc (aD #[J I x,J I y] 3))=>WO f.aL.heap.size x y q.aL (B q) (A q));repeat (
  refine S4.step (λKK aJ=>?_);go_simp;first
   |(refine aJ _ ?_;clear aJ KK)
   |(apply lL;refine⟨λ_=>?_,aJ _ ?_⟩;(with_reducible exact aN.Fc (z.A _));clear aJ KK))
 refine S4.bh ?_;rintro C v;refine dP ?_;go_wp2;go_ret;exact⟨yW g.A.symm,(((((cm.refl w).alloc _).alloc _).trans f.r).alloc _).trans v⟩
def JA {l:List eX} (h:k<l.length):l[k]=⟨cz l k,fJ l k⟩:=by unfold cz fJ;rw[dr h]
def Rw.sv {l:List eX} (h:Rw jH w B ao n l) (hB:aS w.heap.size w wr) {k:Nat} (a:k<l.length):∃b off A0 c0,ao=ad (ab b off M)/\b<w.heap.size/\wr.cell? ⟨b,off+k*4,M⟩=ad (ap (cz l k).1)/\wr.cell? ⟨b,off+k*4+1,M⟩=ad (ap (cz l k).2)/\wr.cell? ⟨b,off+k*4+2,M⟩=ad (O A0 (fJ l k).ao.length c0)/\wr.cell? ⟨b,off+k*4+3,M⟩=ad (J I (fJ l k).full)/\((cz l k).1.size<=9223372036854775807/\(cz l k).2.size<=9223372036854775807)/\Vs dV wr B (O A0 (fJ l k).ao.length c0) (fJ l k).ao:=by
 obtain⟨b,off,vs,e,Z,d,h2⟩:=h.aL hB a;rw[JA a] at d;obtain⟨v0,rfl,f,h4,c⟩:=d;obtain⟨A0,c0,rfl,_⟩:=c.be;exact⟨b,off,A0,c0,e,Z,h2 0 _ rfl,h2 1 _ rfl,h2 2 _ rfl,h2 3 _ rfl,⟨f,h4⟩,c⟩
def Sb {l:List eX} (w:aB) (h:Vs jH w B v l):aN aH 119 #[v] w λe w'=>e=aQ (aG (kz l))/\aF w w':=by
 obtain⟨ao,cap,rfl,D,cn,b4⟩:=h.be;have s:=E (show kz l=(decide (l.length<=256)&&cI l.length (sR l)) from rfl);generalize kz l=r at s⊢;have N:=E D;have dv:=E (λk=>(show sR l k=(db (cz l k).1&&db (cz l k).2&&fY (fJ l k)&&(decide (k=0)||decide (fU (cz l (k-1)) (cz l k)<0))) from rfl));clear h D;by_cases H:l.length<=256;case neg=>
  have HS:=E (show r=false by rw[s.A];simp[H]);have f:decide (256<l.length)=true:=ac an;go_enter func119,ntmps119;go_wp2;go_ret;exact⟨cc HS.A.symm,aF.refl _⟩
 have G:=E (show r=cI l.length (sR l) by rw[s.A];simp[H]);have X:=E (λk (C:k<l.length) (h:sR l k=false)=>(show r=false by rw[G.A,tV C h]));have f:decide (256<l.length)=false:=aa an;clear s;go_enter func119,ntmps119;go_wp2;clear f;go_loopw [10] (λi wr=>∃k:Nat,k<=l.length/\i=J I k/\a6 (cI k (sR l)=true)/\aF w wr) (λi _=>l.length-(intOf i).toNat);case atStart=>exact⟨0,an,rfl,E rfl,aF.refl _⟩
 case round=>
  obtain⟨k,C,rfl,K,hB⟩:=hrel;by_cases o:k<l.length
  ·obtain⟨b,off,A0,c0,rfl,cw,y0,y1,y2,y3,n,L⟩:=N.A.sv hB.aC o;have HK:=E (dv.A k);have m:=E (X.A k o);have F:=E (λh=>wW K.A (P:=sR l) h);have aR:=E o;have bL:=E (hB.alloc (aD #[ap (cz l k).1,ap (cz l k).2,O A0 (fJ l k).ao.length c0,J I (fJ l k).full] 205));have c:=E (aI.new wr 205 #[ap (cz l k).1,ap (cz l k).2,O A0 (fJ l k).ao.length c0,J I (fJ l k).full]);have M:=E (L.al ((bk wr.heap.size wr).alloc (aO _) (aD #[ap (cz l k).1,ap (cz l k).2,O A0 (fJ l k).ao.length c0,J I (fJ l k).full] 205)));have dt:=E n;have BW:=E (show cz l k=((cz l k).1,(cz l k).2) from rfl);have q:=E (λW=>mu (cz l k).1 W n.1);have u:=E (λW=>mu (cz l k).2 W n.2);clear L o n;generalize dS:db (cz l k).1=x1 at q HK;generalize fb:db (cz l k).2=x2 at u HK;clear dS fb;have Y:=c.A.cell;cases x1;case false=>
    have HS:=E (show r=false from m.A aqm);go_wp2_with fail;refine(q.A _).ah ?_;rintro e g⟨rfl,rfl⟩;exact y9
   cases x2;case false=>
    have HS:=E (show r=false from m.A aqm);go_wp2_with fail;refine(q.A _).ah ?_;rintro e g⟨rfl,rfl⟩;go_wp2_with fail;refine(u.A _).ah ?_;rintro e g⟨rfl,rfl⟩;exact y9
   go_wp2_with fail;refine(q.A _).ah ?_;rintro e g⟨rfl,rfl⟩;go_wp2_with fail;refine(u.A _).ah ?_;rintro e g⟨rfl,rfl⟩;have g2:=c.A.cell;have y:=E (QW (v:=aY #[O A0 (fJ l k).ao.length c0,J I (fJ l k).full]) (x:=fJ l k) _ ⟨_,rfl,M.A⟩);generalize S:fY (fJ l k)=x3 at y HK;clear S;go_wp2_with fail;refine y.A.ah ?_;rintro e t⟨rfl,Z⟩;replace bL:=E (bL.A.trans Z);replace c:=E (c.A.al Z.aC c.A.lt);clear Z y M Y g2;cases x3;case false=>
    have HS:=E (show r=false from m.A aqm);exact y9
   have a:=E (show sR l k=(decide (k=0)||decide (fU (cz l (k-1)) (cz l k)<0)) by rw[HK.A];rfl);have z1:=ba.cells c.A;clear HK;go_wp2_with fail;by_cases c3:k=0;case pos=>
    have HN:=E (F.A (by rw[a.A,c3];rfl));have V:decide (0<k)=false:=aa an;clear c3;refine du (cU 0 14 []) [] ?_;exact QT
   obtain⟨j,hj⟩:=aP (k-1);have V:0<k:=an;have U:j<l.length:=ai aR.A;have eV:I.wrap (j:Int)=(j:Int):=ay;have q7:(k:Int)-1=(j:Int):=an;obtain⟨b',tP,Fw,DA,e',LR,R,d,_,_,_,T⟩:=N.A.sv bL.A.aC U;cases e';have z3:=λp:ba t=>p.cell aqO R;have z4:=λp:ba t=>p.cell aqO d;have CC:=E (λp:ba t=>(aj1 (cz l j).1 (cz l j).2 (cz l k).1 (cz l k).2 p.aL).mono λe w' h=>(⟨h.1,h.2.PD.aC⟩:_/\aS p.aL.heap.size p.aL _));rw[hj] at a;have z:decide (k=0)=false:=aw;rw[z] at a;clear hj R d z T;replace a:=E (show sR l k=decide (fU ((cz l j).1,(cz l j).2) ((cz l k).1,(cz l k).2)<0) from a.A);by_cases c4:fU ((cz l j).1,(cz l j).2) ((cz l k).1,(cz l k).2)<0
   ·have HN:=E (F.A (by rw[a.A,ac c4]));have c5:decide (0<=fU ((cz l j).1,(cz l j).2) ((cz l k).1,(cz l k).2))=false:=aa an;clear c4 a;generalize fU ((cz l j).1,(cz l j).2) ((cz l k).1,(cz l k).2)=tY at*;refine du (cU 0 14 []) [] ?_;exact QR
   ·have HS:=E (show r=false from m.A (by rw[a.A,aa c4]));have c5:decide (0<=fU ((cz l j).1,(cz l j).2) ((cz l k).1,(cz l k).2))=true:=ac an;clear c4 a;generalize fU ((cz l j).1,(cz l j).2) ((cz l k).1,(cz l k).2)=tY at*;exact XO
  ·obtain rfl:k=l.length:=by omega
   have HS:=E (show r=true by rw[G.A];exact K.A);go_wp2;go_ret;exact⟨cc HS.A.symm,hB⟩
variable {vb:aE}
section
open im (dT fe)
def bQ.vs {o:List UInt8} (h:bQ w base 5 v o):Ow fF w B base v o:=by
 refine⟨o.map ca,?_,h⟩;clear h;induction o with
 |nil=>exact .nil
 |cons a o b=>
  have:(a::o).map ca=[ca a]++o.map ca:=rfl;rw[this];exact .cons rfl b
def l9 (h:n<=1152921504606846976):(bu n).length<=9:=ph 8 n (pj n h)
def z8 {o:List UInt8} (m:Int) (w:aB) (ho:bQ w 0 5 vb o) (b:o.length<=70368744177664) (a:0<=m/\m<=1152921504606846976):aN aH 117 #[vb,J I m] w λe w'=>(∃v,e=aQ v/\bQ w' 0 5 v (o++bu m.toNat))/\aS w.heap.size w w':=by
 obtain⟨ao,n,c,rfl,Z,d,f⟩:=ho.bs;refine(yF ao n c o m w (by rw[<-Z.len];exact b) Z).ah ?_;rintro e w'⟨⟨v,rfl,h⟩,Z⟩;refine⟨⟨v,rfl,?_⟩,Z⟩;unfold mm at h;rw[ag a] at h;exact h.less (bV _)
def abY {o:List UInt8} (s:ByteArray) (w:aB) (ho:bQ w 0 5 vb o) (a:o.length<=70368744177664) (hs:s.size<=65536):aN aH 120 #[vb,ap s] w λe w'=>(∃v,e=aQ v/\bQ w' 0 5 v (o++oU s))/\aS w.heap.size w w':=by
 obtain⟨ao,n,c,rfl,Z,b,d⟩:=ho.bs;refine(afL ao n c o s w (by rw[<-Z.len];exact a) an Z).ah ?_;rintro e w'⟨⟨v,rfl,h⟩,Z⟩;refine⟨⟨v,rfl,?_⟩,Z⟩;unfold tR at h;rw[ag hs] at h;unfold oU;rw[<-mV];exact h.less (bV _)
def alB {o:List UInt8} (m:Int) (w:aB) (ho:bQ w 0 5 vb o) (b:o.length<=70368744177664) (a:-576460752303423488<=m/\m<=576460752303423488):aN aH 161 #[vb,J I m] w λe w'=>(∃v,e=aQ v/\bQ w' 0 5 v (o++bu (encI m)))/\aS w.heap.size w w':=by
 obtain⟨ao,n,c,rfl,Z,d,f⟩:=ho.bs;refine(afF ao n c o m w (by rw[<-Z.len];exact b) Z).ah ?_;rintro e w'⟨⟨v,rfl,h⟩,Z⟩;refine⟨⟨v,rfl,?_⟩,Z⟩;unfold Lp at h;rw[ag a] at h;exact h.less (bV _)
def NW {vl:aE} {o:List UInt8} (w:aB) (ho:bQ w 0 5 vb o) (a:0<o.length/\o.length<=1099511627776) (hv:Vs bE w B vl L) (hs:bH L=true):aN aH 116 #[vb,vl] w λe w'=>(∃v,e=aQ v/\bQ w' 0 5 v (o++kx L))/\aS w.heap.size w w':=by
 obtain⟨ao,n,c,rfl,Z,d,g⟩:=ho.bs;obtain⟨A2,c2,rfl,b,f,h2⟩:=hv.hN;refine(Re ao n c o A2 L.length c2 L w (by rw[<-Z.len];exact a.2) d (.inr (by rw[<-Z.len];exact a.1)) an Z b).ah ?_;rintro e w'⟨⟨v,rfl,h⟩,Z⟩;refine⟨⟨v,rfl,?_⟩,Z⟩;unfold oR at h;rw[ag hs] at h;exact h.less (bV _)
def NX (h:bH L=true):(kx L).length<=3300:=by
 have hs:=yR.1 h;unfold kx;rw[b2];have a:=l9 (n:=L.length) (ai hs.1);have h2:=Rc L (λi hi=>⟨(hs.2 i hi).1.2.1,(hs.2 i hi).2.1⟩) L.length (aO _);rw[pZ] at h2;have:=hs.1;omega
def alC {a:b8} (c:bH a.L=true) (h2:fe a.h=true) (b:0<=a.st/\a.st<=2):(mF a).length<=3400:=by
 have hs:=Ro b;have Z:0<=a.h.dB/\a.h.dB<=9007199254740992/\0<=a.h.eW/\a.h.eW<=9007199254740992:=by
  exact Rp
 have hv:=Rm a.v;unfold mF;simp only[b2];have i:=NX c;have g:=l9 (n:=(um a).toNat) an;have f:=l9 (n:=a.h.dB.toNat) an;have d:=l9 (n:=a.h.eW.toNat) an;have e:=l9 (n:=encI (zm a.v)) (by unfold encI;split<;>omega);omega
def Tk (w:aB) (B:Nat) (v:aE) (x:b8):Prop:=Av dV w B x v
structure AOk (a:b8):Prop where
 l:bH a.L=true
 h:fe a.h=true
 s:0<=a.st/\a.st<=2
theorem NY (h:P:=by
 have hp:=z8 si _ HO.A (by rw[b2,b2];have:=HN.A.2.2.2;have:=tm.A;omega) (ai HN.A.2.1);go_wp2_with fail;refine(hp).ah ?_;rintro e wz⟨⟨rZ,rfl,c6⟩,Z⟩;replace HX:=E (HX.A.al Z HX.A.lt);replace HB:=E (HB.A.trans (aF.of Z));replace HO:=E c6;clear hp c6 Z g0;have g0:=HX.A.cell;have lq:=E (show(bu si.toNat).length<=9 from l9 (ai HN.A.2.1));have hp:=z8 fi _ HO.A (by rw[b2,b2,b2];have:=HN.A.2.2.2;have:=tm.A;have:=lq.A;omega) (ai HN.A.2.1);go_wp2_with fail;refine(hp).ah ?_;rintro e wz⟨⟨rZ,rfl,c6⟩,Z⟩;replace HX:=E (HX.A.al Z HX.A.lt);replace HB:=E (HB.A.trans (aF.of Z));replace HO:=E c6;clear hp c6 Z g0;have g0:=HX.A.cell;have I1:=E (show(bu fi.toNat).length<=9 from l9 (ai HN.A.2.1));have hp:=alB jg _ HO.A (by rw[b2,b2,b2,b2];have:=HN.A.2.2.2;have:=tm.A;have:=lq.A;have:=I1.A;omega) HN.A.2.2.1;go_wp2_with fail;refine(hp).ah ?_;rintro e wz⟨⟨rZ,rfl,c6⟩,Z⟩;replace HX:=E (HX.A.al Z HX.A.lt);replace HB:=E (HB.A.trans (aF.of Z));replace HO:=E c6;clear hp c6 Z g0;go_wp2;go_ret;exact⟨⟨_,rfl,by rw[HE.A];have nu:=HO.A;simp only[mV] at nu⊢;exact nu⟩,HB.A⟩;):P:=h
def alD {va:aE} {o:List UInt8} {a:b8} (w:aB) (ho:bQ w 0 5 vb o) (p:0<o.length/\o.length<=1000000000) (hv:Tk w B va a) (f:AOk a):aN aH 121 #[vb,va] w λe w'=>(∃v,e=aQ v/\bQ w' 0 5 v (o++mF a))/\aF w w':=by
 obtain⟨cs,rfl,v0,rfl,n⟩:=hv;obtain⟨A0,c0,rfl,_⟩:=n.be;have hs:=Ro f.s;have Z:0<=a.h.dB/\a.h.dB<=9007199254740992/\0<=a.h.eW/\a.h.eW<=9007199254740992:=by
  have h2:=f.h;exact Rp
 have b5:=Rm a.v;have s:=NX f.l;have HE:=E (show mF a=kx a.L++bu (um a).toNat++bu a.h.dB.toNat++bu a.h.eW.toNat++bu (encI (zm a.v)) from rfl);have k:=E f.l;have y:=f.s;have b:=E (show um a=a.st+(if a.h.on=true then 4 else 0)+(if a.h.hit=true then 8 else 0) from rfl);have i:=E (show zm a.v=min (max a.v (-576460752303423488)) 576460752303423488 from rfl);generalize mF a=r at HE⊢;generalize um a=uX at*;generalize zm a.v=jg at*;obtain⟨L,⟨on,si,hi,fi⟩,st,j⟩:=a;dsimp only at*;clear f;have l:=(bk w.heap.size w).alloc (aO _) (aD #[O A0 L.length c0,aG on,J I si,aG hi,J I fi,J I st,J I j] 62);have HB:=E (aF.of l);have HX:=E (aI.new w 62 #[O A0 L.length c0,aG on,J I si,aG hi,J I fi,J I st,J I j]);have HO:=E (ho.al l);have m:=E (n.al l);have HN:=E (iC hs (iC Z (iC b5 (iC s p))));have u:I.wrap (st+4)=st+4:=ay;have t:I.wrap (st+8)=st+8:=ay;have z:I.wrap (st+4+8)=st+4+8:=ay;obtain⟨q,C⟩:=aP (max j (-576460752303423488));have F:∀(g:Array bf) (ty:bf) (W:aB),(Builtin.max_ g ty #[J I j,J I (-576460752303423488)]).run aH W= .ok (J I q) W:=λg ty W=>by
  rw[run_max_int2];congr 2;split<;>omega
 have D:∀(g:Array bf) (ty:bf) (W:aB),(Builtin.min_ g ty #[J I q,J I 576460752303423488]).run aH W= .ok (J I jg) W:=λg ty W=>by
  rw[run_min_int2];have:=i.A;congr 2;split<;>omega
 clear hs Z b5 s p ho n l y C;cases on<;>cases hi
 ·skip;have d:=E (show uX=st by have:=b.A;simp at this;omega);have c:=d.A.symm;subst c;have g0:=HX.A.cell;clear b i;go_enter func121,ntmps121;have hp:=NW _ HO.A ⟨HN.A.2.2.2.2.1,ai HN.A.2.2.2.2.2⟩ m.A k.A;go_wp2_with fail;refine(hp).ah ?_;rintro e wz⟨⟨rZ,rfl,c6⟩,Z⟩;replace HX:=E (HX.A.al Z HX.A.lt);replace HB:=E (HB.A.trans (aF.of Z));replace HO:=E c6;clear hp c6 Z g0;have g0:=HX.A.cell;have hp:=z8 (st) _ HO.A aqR (ai HN.A.1);go_wp2_with fail;refine(hp).ah ?_;rintro e wz⟨⟨rZ,rfl,c6⟩,Z⟩;replace HX:=E (HX.A.al Z HX.A.lt);replace HB:=E (HB.A.trans (aF.of Z));replace HO:=E c6;clear hp c6 Z g0;have g0:=HX.A.cell;have tm:=E (show(bu (st).toNat).length<=9 from l9 (ai HN.A.1));exact NY
 ·skip;have d:=E (show uX=st+8 by have:=b.A;simp at this;omega);have c:=d.A.symm;subst c;have g0:=HX.A.cell;clear b i;go_enter func121,ntmps121;have hp:=NW _ HO.A ⟨HN.A.2.2.2.2.1,ai HN.A.2.2.2.2.2⟩ m.A k.A;go_wp2_with fail;refine(hp).ah ?_;rintro e wz⟨⟨rZ,rfl,c6⟩,Z⟩;replace HX:=E (HX.A.al Z HX.A.lt);replace HB:=E (HB.A.trans (aF.of Z));replace HO:=E c6;clear hp c6 Z g0;have g0:=HX.A.cell;have hp:=z8 (st+8) _ HO.A aqR (ai HN.A.1);go_wp2_with fail;refine(hp).ah ?_;rintro e wz⟨⟨rZ,rfl,c6⟩,Z⟩;replace HX:=E (HX.A.al Z HX.A.lt);replace HB:=E (HB.A.trans (aF.of Z));replace HO:=E c6;clear hp c6 Z g0;have g0:=HX.A.cell;have tm:=E (show(bu (st+8).toNat).length<=9 from l9 (ai HN.A.1));exact NY
 ·skip;have d:=E (show uX=st+4 by have:=b.A;simp at this;omega);have c:=d.A.symm;subst c;have g0:=HX.A.cell;clear b i;go_enter func121,ntmps121;have hp:=NW _ HO.A ⟨HN.A.2.2.2.2.1,ai HN.A.2.2.2.2.2⟩ m.A k.A;go_wp2_with fail;refine(hp).ah ?_;rintro e wz⟨⟨rZ,rfl,c6⟩,Z⟩;replace HX:=E (HX.A.al Z HX.A.lt);replace HB:=E (HB.A.trans (aF.of Z));replace HO:=E c6;clear hp c6 Z g0;have g0:=HX.A.cell;have hp:=z8 (st+4) _ HO.A aqR (ai HN.A.1);go_wp2_with fail;refine(hp).ah ?_;rintro e wz⟨⟨rZ,rfl,c6⟩,Z⟩;replace HX:=E (HX.A.al Z HX.A.lt);replace HB:=E (HB.A.trans (aF.of Z));replace HO:=E c6;clear hp c6 Z g0;have g0:=HX.A.cell;have tm:=E (show(bu (st+4).toNat).length<=9 from l9 (ai HN.A.1));exact NY
 ·skip;have d:=E (show uX=st+4+8 by have:=b.A;simp at this;omega);have c:=d.A.symm;subst c;have g0:=HX.A.cell;clear b i;go_enter func121,ntmps121;have hp:=NW _ HO.A ⟨HN.A.2.2.2.2.1,ai HN.A.2.2.2.2.2⟩ m.A k.A;go_wp2_with fail;refine(hp).ah ?_;rintro e wz⟨⟨rZ,rfl,c6⟩,Z⟩;replace HX:=E (HX.A.al Z HX.A.lt);replace HB:=E (HB.A.trans (aF.of Z));replace HO:=E c6;clear hp c6 Z g0;have g0:=HX.A.cell;have hp:=z8 (st+4+8) _ HO.A aqR (ai HN.A.1);go_wp2_with fail;refine(hp).ah ?_;rintro e wz⟨⟨rZ,rfl,c6⟩,Z⟩;replace HX:=E (HX.A.al Z HX.A.lt);replace HB:=E (HB.A.trans (aF.of Z));replace HO:=E c6;clear hp c6 Z g0;have g0:=HX.A.cell;have tm:=E (show(bu (st+4+8).toNat).length<=9 from l9 (ai HN.A.1));exact NY
end
noncomputable def cntF (F:List cC):List cC:=if jf F=true then F else[]
def Ju (h:jf F=true):cntF F=F:=by unfold cntF;rw[ag h]
def M7:jf []=true:=by unfold jf;simp[cI]
def ajV (F:List cC):jf (cntF F)=true:=by
 unfold cntF;split
 ·assumption
 ·exact M7
def o0 (h:jf F=true):F.length<=16/\∀g∈F,lY g=true:=by
 unfold jf at h;rw[b9,decide_eq_true_eq,mw] at h;refine⟨h.1,λg hg=>?_⟩;obtain⟨i,hi,rfl⟩:=qV.1 hg;have:=h.2 i hi;unfold nY at this;rw[dr hi,b9] at this;exact this.1
def vS {g:cC} (h:lY g=true):db g.n=true/\g.R.length<=16/\∀r∈g.R,ku r=true:=by
 unfold lY at h;simp only[b9,decide_eq_true_eq,mw] at h;refine⟨h.1.1.1.1.1,h.1.2,λr a=>?_⟩;obtain⟨i,hi,rfl⟩:=qV.1 a;have:=h.2 i hi;unfold lX at this;rw[dr hi,b9] at this;exact this.1
def R7 (w:aB) (h:Vs fG w B v F):aN aH 102 #[v] w λe w'=>(∃f,e=aQ f/\Vs fG w' B f (cntF F))/\aF w w':=by
 obtain⟨ao,c,rfl,_⟩:=h.len_;have hs:=R6 w h;have i:=E h;cases a:jf F with
 |true=>
  have d:=E (Ju a);rw[a] at hs;clear h a;go_enter func102,ntmps102;go_wp2_with fail;refine hs.ah ?_;rintro e g⟨rfl,Z⟩;have b:=E Z;clear hs Z;go_wp2;go_ret;exact⟨⟨_,rfl,by rw[d.A];exact i.A.al b.A.aC⟩,b.A⟩
 |false=>
  have d:=E (show cntF F=[] by unfold cntF;rw[a];rfl);rw[a] at hs;clear h a;go_enter func102,ntmps102;go_wp2_with fail;refine hs.ah ?_;rintro e g⟨rfl,Z⟩;have b:=E Z;clear hs Z;go_wp2;go_ret;exact⟨⟨_,rfl,by rw[d.A];exact Vs.bh _ _ _⟩,b.A⟩
structure M8 (F:List cC) (k:Key) (i j:Nat) (ok:Bool):Prop where
 D5:ok=true->∃(hi:i<F.length) (hj:j<F[i].R.length),F[i].n=k.1/\(F[i].R[j]).n=k.2
 no:ok=false->∀g∈F,∀r∈g.R,¬(g.n=k.1/\r.n=k.2)
def NoK (F:List cC) (k:Key) (n:Nat):Prop:=∀i (hi:i<F.length),i<n->∀r∈F[i].R,¬(F[i].n=k.1/\r.n=k.2)
def NoR (g:ByteArray) (R:List cv) (k:Key) (n:Nat):Prop:=∀j (hj:j<R.length),j<n->¬(g=k.1/\(R[j]).n=k.2)
theorem aay (h:P:=by
 clear he hy hr e1;go_wp2;go_roundw;case rel=>exact⟨m+1,gY.A,by go_num,R8,b3.A⟩
 case measure=>exact aqx
 ):P:=h
def aaz (k:Key) (w:aB) (h:Vs fG w B v F):aN aH 72 #[v,aY #[ap k.1,ap k.2]] w λe w'=>(∃(i j:Nat) (ok:Bool),e=aQ (bn #[J I i,J I j,aG ok])/\M8 (cntF F) k i j ok)/\aF w w':=by
 obtain⟨a,d⟩:=k;have V:=R7 (w.alloc (aD #[ap a,ap d] 67)) (h.al ((bk _ _).alloc (aO _) _));have f:=E (aI.new w 67 #[ap a,ap d]);have u:=E ((aF.refl w).alloc (aD #[ap a,ap d] 67));have T:=o0 (ajV F);generalize cntF F=G at*;have cj:=E T;clear h T;go_enter func72,ntmps72;go_wp2_with fail;refine V.ah ?_;rintro e z⟨⟨v1,rfl,hv⟩,Z⟩;obtain⟨ao,cap,rfl,Q,hl,hc⟩:=hv.be;have HP:=E Q;replace f:=E (f.A.al Z.aC f.A.lt);replace u:=E (u.A.trans Z);have MN:=E (iC hl hc);have HW:=E (show w.heap.size<z.heap.size from f.A.lt);clear V hv Q Z;go_wp2;go_loopw [14] (λi wr=>∃n:Nat,n<=G.length/\i=J I n/\a6 (NoK G (a,d) n)/\aF z wr) (λi _=>G.length-(intOf i).toNat);case atStart=>exact⟨0,an,rfl,E (λi hi h=>ae h an),aF.refl _⟩
 case round=>
  obtain⟨n,hn,rfl,X,hB⟩:=hrel;by_cases K:n<G.length
  ·obtain⟨x,q⟩:=aP (G[n]);obtain⟨b,off,o,c3,rfl,cw,⟨q0,q1,q2,q3⟩,hg⟩:=HP.A.gr hB.aC K q;have HX:=E q;have N:=E (vS (cj.A.2 x (q▸dl K)));have aR:=E K;obtain⟨aM,L,Jv,Jw,uc,C⟩:=hg;subst Jw;have Jx:Jv=O o x.R.length c3:=am L.symm;subst Jx;obtain⟨c,p,s,R⟩:=x;dsimp only at q0 q1 q2 q3 C N;clear L;have t:=E (hB.alloc (aD #[ap c,J I p,J I s,O o R.length c3] 43));obtain⟨A9,c9,nx,U,Gb,Gc⟩:=(C.al ((bk _ _).alloc (aO _) (aD #[ap c,J I p,J I s,O o R.length c3] 43))).be;cases nx;have eo:=E U;have a2:=E (iC Gb Gc);have D:=E (aI.new wr 43 #[ap c,J I p,J I s,O o R.length c3]);have g3:=D.A.cell 3;have Jy:=E (show z.heap.size<=wr.heap.size from hB.size);clear U C Gb Gc q;go_wp2;rename aB=>wo;go_loopw [22] (λi wr=>∃m:Nat,m<=R.length/\i=J I m/\a6 (NoR c R (a,d) m)/\aF (wo.alloc (aD #[ap c,J I p,J I s,O o R.length c3] 43)) wr) (λi _=>R.length-(intOf i).toNat);case atStart=>exact⟨0,an,rfl,E (λi hi h=>ae h an),aF.refl _⟩
   case round=>
    obtain⟨m,hm,rfl,Y,H⟩:=hrel;by_cases S:m<R.length
    ·obtain⟨y,hy⟩:=aP (R[m]);obtain⟨gz,tQ,A2,c2,A7,c7,rfl,Jz,⟨p0,p1,p2,p3,p4,p5,tb,p7⟩,hr⟩:=eo.A.vR H.aC S hy;have W:=E hy;have gY:=E S;have aW:R.length<=16:=N.A.2.1;have b3:=E (H.alloc (aD #[ap y.n,ap y.x.s.n,O A2 y.x.s.aU.length c2,J I y.x.op,J I y.x.v,J I y.wait,J I y.keep,O A7 y.L.length c7] 51));have k0:(wr.alloc (aD #[ap y.n,ap y.x.s.n,O A2 y.x.s.aU.length c2,J I y.x.op,J I y.x.v,J I y.wait,J I y.keep,O A7 y.L.length c7] 51)).cell? (ab w.heap.size 0 M)=ad (ap a):=(f.A.al ((t.A.trans b3.A).aC) f.A.lt).cell 0;have k1:(wr.alloc (aD #[ap y.n,ap y.x.s.n,O A2 y.x.s.aU.length c2,J I y.x.op,J I y.x.v,J I y.wait,J I y.keep,O A7 y.L.length c7] 51)).cell? (ab w.heap.size 1 M)=ad (ap d):=(f.A.al ((t.A.trans b3.A).aC) f.A.lt).cell 1;have g0:(wr.alloc (aD #[ap y.n,ap y.x.s.n,O A2 y.x.s.aU.length c2,J I y.x.op,J I y.x.v,J I y.wait,J I y.keep,O A7 y.L.length c7] 51)).cell? (ab wo.heap.size 0 M)=ad (ap c):=(D.A.al b3.A.aC D.A.lt).cell 0;by_cases he:a=c/\d=y.n
     ·have e1:(a.toList==c.toList)=true:=by rw[j9];simpa using he.1
      have e2:(d.toList==y.n.toList)=true:=by rw[j9];simpa using he.2
      have l:=E he;clear he hy hr;go_wp2;go_ret3;exact⟨⟨n,m,true,rfl,⟨λ_=>⟨aR.A,by rw[HX.A];exact gY.A,by rw[HX.A];exact l.A.1.symm,by simp only[HX.A];rw[W.A];exact l.A.2.symm⟩,λh=>(by cases h)⟩⟩,(u.A.trans t.A).trans b3.A⟩
     ·have l:=E he;have R8:=E (show NoR c R (a,d) (m+1) fromλj hj aJ=>by
       rcases gy j m with h'|h'
       ·exact Y.A j hj h'
       ·obtain rfl:j=m:=by omega
        rw[W.A];exactλh=>l.A ⟨h.1.symm,h.2.symm⟩)
      by_cases e1:a=c
      ·have d1:(a.toList==c.toList)=true:=by rw[j9];simpa using e1
       have d2:(d.toList==y.n.toList)=false:=by rw[j9];simpa usingλh=>l.A ⟨e1,h⟩
       exact aay
      ·have d1:(a.toList==c.toList)=false:=by rw[j9];simpa using e1
       exact aay
    ·obtain rfl:m=R.length:=by omega
     have fI:=E (show NoK G (a,d) (n+1) fromλi hi iF=>by
      rcases gy i n with h'|h'
      ·exact X.A i hi h'
      ·obtain rfl:i=n:=by omega
       rw[HX.A];intro r hr h;obtain⟨j,hj,rfl⟩:=qV.1 hr;exact Y.A j hj hj h)
     have gX:=E (t.A.trans H);go_wp2;go_roundw;case rel=>exact⟨n+1,aR.A,by go_num,fI,gX.A⟩
     case measure=>exact ax
  ·obtain rfl:n=G.length:=by omega
   go_wp2;go_ret3;exact⟨⟨0,0,false,rfl,⟨λh=>(by cases h),λ_ g hg r hr h=>by
    obtain⟨i,hi,rfl⟩:=qV.1 hg;exact X.A i hi hi r hr h⟩⟩,u.A.trans hB⟩
variable {S:List bf}
section
open Go.ChangeMaps Go.MapKept
structure SPo (w w':aB) (i:Nat) (l:List Tok) (v:aE) (s:iZ) (k:Int) (j:Nat):Prop where
 val:qi w' 0 v s
 le:j<=l.length
 Sd:k=0->kT s=true
 ex:(eT l i 1&&db (eu l i))=true->cA l (i+1) 4 ⟨#[123]⟩=false->s=⟨eu l i,[]⟩/\k=0/\j=i+1
def qi.keep {s:iZ} (h:qi w B v s) (b:Kt B S w w') (c:jG.e∉S) (h2:∀t∈jG.bI,t∉S):qi w' B v s:=by
 obtain⟨u,e,hn,a⟩:=h.A;exact⟨u,e,hn,a.keep b c h2⟩
def aj9 {c:Nat} (m:aF w0 w) (h:Rw kM w0 B ao l.length l) (H:l.length<=c/\c<=9223372036854775807) (hi:i<=l.length):aN aH 277 #[O ao l.length c,J I i] w λe w'=>(∃(v:aE) (s:iZ) (k:Int) (j:Nat),e=aQ (bn #[v,J I j,J I k])/\SPo w0 w' i l v s k j)/\aF w w':=by
 have ug:min (i:Int) (l.length:Int)=(i:Int):=an;have U:=(aF.refl w).alloc (aD #[ap ⟨#[]⟩,O M 0 0] 46);have z:=U.alloc (aD #[O ao l.length c,J I i] 415);have W:=E (show jj w0 ((w.alloc (aD #[ap ⟨#[]⟩,O M 0 0] 46)).alloc (aD #[O ao l.length c,J I i] 415)) B (w.heap.size+1) c i ao l from⟨m.trans z,ai m.size,h,by have:=aI.new (w.alloc (aD #[ap ⟨#[]⟩,O M 0 0] 46)) 415 #[O ao l.length c,J I i];simpa using this,H,hi⟩);have HX:=E (aI.alloc (aI.new w 46 #[ap ⟨#[]⟩,O M 0 0]) (aD #[O ao l.length c,J I i] 415));have bm:=E z;have cV:=E m;have Se:¬((i:Int)<0):=an;have HL:=E hi;clear h H hi U z m;go_enter func277,ntmps277;have V:=E (ajM W.A);go_wp2_with fail;refine V.A.ah ?_;clear V;rintro e b⟨⟨v,s,k,j,rfl,p,N,d,t⟩,a⟩;obtain⟨u,rfl,hn,G⟩:=p.A;obtain⟨A0,c0,rfl,_⟩:=G.be;have n:=(bk b.heap.size b).alloc (aO _) (aD #[ap s.n,O A0 s.aU.length c0] 46);have bA:=E ((bm.A.cD a (mg _)).trans (aF.of n));have HV:=E (p.al n);have Y:=E (iC N d);have HY:=E (aI.new b 46 #[ap s.n,O A0 s.aU.length c0]);have y:=E (t.al n);have T:=E ((HX.A.gr a an).alloc (aD #[ap s.n,O A0 s.aU.length c0] 46));have L:=E (show b.heap.size≠w.heap.size/\w.heap.size+1≠w.heap.size from⟨ai t.box.lt,an⟩);clear p N d hn G n t a W HX;have hj:=y.A.le;have y0:=Gx.cells (r:=w.heap.size) (X:=aD #[ap s.n,O A0 s.aU.length c0] 46 (0,0)) HY.A L.A.1;have r1:=Gx.cells (r:=w.heap.size) (X:=aD #[ap s.n,O A0 s.aU.length c0] 46 (0,0)) y.A.box L.A.2 1;have HJ:=E hj;clear hj ug;go_wp2_with fail;refine AY (gb w.heap.size (aD #[(ap s.n),(O A0 s.aU.length c0)] 46 (0,0))) gb.refl gb.trans [.q 0,.q 1,.q 2,.q 3,.q 4,.q 5,.c 6,.q 7,.q 8] [] (gb.drew _) ?_;refine dY ?_;refine S4.dm ?_;rintro _⟨D,rfl⟩ KK aJ;obtain⟨us,o,C⟩:=D.own T.A rfl;obtain⟨aM,aK,rfl⟩:=ajN C;have⟨Z,f0⟩:=o.cf;have f:=E o;clear C o;go_simp;refine aJ _ _ (gb.put (f.A.s8 (ap s.n) (O A0 s.aU.length c0)) (rJ f.A.lt (ap s.n) (O A0 s.aU.length c0))) ?_;clear aJ KK Z f0;refine dY ?_;refine S4.bh ?_;rintro wq R;obtain⟨K,a⟩:=gb.last R (f.A.s8 (ap s.n) (O A0 s.aU.length c0));have HP:=E K;have S:=E (bB D.gr (bB (rJ f.A.lt (ap s.n) (O A0 s.aU.length c0)) a));clear R K a f;refine E4.bh ?_;have F:=(Kt.refl w0.heap.size [46] (b.alloc (aD #[ap s.n,O A0 s.aU.length c0] 46))).grown S.A (y.A.b0.size) (λg e=>by cases e;exact⟨cV.A.size,bp.bO T.A⟩) (bD.2 rfl);have ic:=E (HV.A.keep (F.dJ (bV _)) aq aq);have gX:=E (bA.A.cD S.A (aO _));clear F;go_wp2;have k0:=HP.A.cell;refine bF (v:=bn #[aY #[ap s.n,O A0 s.aU.length c0],J I j,J I k]) (by simp[bz,results277,go_sem,k0]) rfl ⟨⟨_,s,k,j,rfl,⟨ic.A,HJ.A,Y.A.1,Y.A.2⟩⟩,gX.A⟩
end
def kD:ByteArray:=⟨#[49,48,109,115]⟩
def zy (a b:ByteArray):Bool:=Lib.hasPrefix a.data.toList b.data.toList
def JE {a b:ByteArray} (h:zy a b=true):b.size<=a.size:=by
 unfold zy Lib.hasPrefix at h;have c:b.data.toList.length<=a.data.toList.length:=by
  first
   |(have:=List.IsPrefix.length_le (List.isPrefixOf_iff_prefix.1 h);exact this)
   |(have:=congrArg oz (of_decide_eq_true h);simp at this;omega)
   |(have:=congrArg oz (beq_iff_eq.1 h);simp at this;omega)
 simpa using c
def Ge (a b:ByteArray) (w:aB):aN aH 218 #[ap a,ap b] w λe w'=>e=aQ (aG (zy a b))/\w'=w:=Tryz.strings_HasPrefix a b w
def aka:ib l0 kD 0 2:=by
 refine⟨aq,aq,λk a h2=>?_,λ_=>by decide⟩;rcases(show k=0\/k=1 by omega) with rfl|rfl<;>decide
def akb:kD.extract 2 kD.size=⟨#[109,115]⟩:=aq
def a1:ux kD 2=10:=aq
def l1:(⟨#[100]⟩:ByteArray).toList=[100]:=ar
def l2:(⟨#[104]⟩:ByteArray).toList=[104]:=ar
def Da:(⟨#[109]⟩:ByteArray).toList=[109]:=ar
def akc:(⟨#[109,115]⟩:ByteArray).toList=[109,115]:=ar
def yJ:(⟨#[]⟩:ByteArray).toList=[]:=ar
def aaE (w:aB):(mX 321 (.agg kY) (J I 0)).run aH w= .ok (aY #[ap ⟨#[100]⟩,J I 86400000]) w:=ar
def aaF (w:aB):(mX 321 (.agg kY) (J I 1)).run aH w= .ok (aY #[ap ⟨#[104]⟩,J I 3600000]) w:=ar
def aaG (w:aB):(mX 321 (.agg kY) (J I 2)).run aH w= .ok (aY #[ap ⟨#[109]⟩,J I 60000]) w:=ar
def aaH (w:aB):(mX 321 (.agg kY) (J I 3)).run aH w= .ok (aY #[ap ⟨#[115]⟩,J I 1000]) w:=ar
def aaI (w:aB):(mX 321 (.agg kY) (J I 4)).run aH w= .ok (aY #[ap ⟨#[109,115]⟩,J I 1]) w:=ar
def akd {s:ByteArray} (h:s.size=0):s.toList=[]:=by
 have:s=⟨#[]⟩:=by
  cases s with
  |mk d=>simp[ByteArray.size] at h;simp[h]
 rw[this];exact yJ
def ake {s:ByteArray} (h:s.size≠0):(s.toList==[])=false:=by
 rw[<-yJ,j9];exact aa λe=>h (by rw[e];rfl)
theorem aaJ (h:P:=by
 go_wp2;go_roundw;case rel=>exact⟨3,an,by go_num,rfl,rfl,rfl,b3.A,E (λh=>by omega)⟩
 case measure=>simp[intOf]
 ):P:=h
def aaK (s:ByteArray) (w:aB) (hG:eK w) (hs:s.size<=9223372036854775807):aN aH 178 #[ap s] w λe w'=>(∃n k:Int,e=aQ (bn #[J I n,J I k])/\a6 ((k=0->0<=n/\n<=9007199254740992)/\(s=kD->n=10/\k=0)))/\aF w w':=by
 have cY:=E hG;have D:=E hs;go_enter func178,ntmps178;go_wp2;go_step3;go_wp2;go_step3;go_wp2;go_loopw [0,4,5,6] (λa0 a4 a5 Y wr=>∃(cur:ByteArray) (sum:Int) (fr:Nat) (f:Bool),a0=ap cur/\a4=J I sum/\a5=J I fr/\Y=aG f/\aF w wr/\a6 (cur.size<=s.size/\fr<=5/\(0<=sum/\sum<=9007199254740993)/\(f=true->cur=s/\sum=0/\fr=0)/\(s=kD->f=false->cur.size=0/\sum=10))) (λa0 _ _ Y _=>(match a0 with|ap c=>c.size|_=>0)+(match Y with|aG true=>1|_=>0));case atStart=>exact⟨s,0,0,true,rfl,rfl,rfl,rfl,aF.refl _,E ⟨aO _,an,an,λ_=>⟨rfl,rfl,rfl⟩,λ_ h=>by cases h⟩⟩
 case round=>
  obtain⟨cur,sum,fr,f,rfl,rfl,rfl,rfl,L,A⟩:=hrel;have C:=D.A;by_cases Q:f=false/\cur.size=0
  ·obtain⟨rfl,h0⟩:=Q;have t0:=akd h0;have R:=Jm sum wr;have jC:=E (show s=kD->sum=10 fromλh=>(A.A.2.2.2.2 h rfl).2);clear A h0;cases Z:gm sum with
   |false=>
    rw[Z] at R;have K:=E (show s≠kD fromλh=>by
     rw[jC.A h] at Z;exact ae Z aq)
    clear Z;go_wp2_with fail;refine R.ah ?_;rintro e w2⟨rfl,rfl⟩;go_wp2;rw[Exit.noGoto_ret];go_ret2;exact⟨⟨0,2,rfl,E ⟨λh=>ae h aq,λh=>ae h K.A⟩⟩,L⟩
   |true=>
    rw[Z] at R;have vV:=E (show 0<=sum/\sum<=9007199254740992 by simpa[gm] using Z);clear Z;go_wp2_with fail;refine R.ah ?_;rintro e w2⟨rfl,rfl⟩;go_wp2;rw[Exit.noGoto_ret];go_ret2;exact⟨⟨sum,0,rfl,E ⟨λ_=>vV.A,λh=>⟨jC.A h,rfl⟩⟩⟩,L⟩
  have cB:f=false->(cur.toList==[])=false:=λh=>ake λh0=>Q ⟨h,h0⟩;have U:=E (show s=kD->cur=kD/\sum=0/\fr=0 fromλh=>by
   cases X:f with
   |true=>obtain⟨y,h2,H⟩:=A.A.2.2.2.1 X;exact⟨y.trans h,h2,H⟩
   |false=>exact ae ⟨X,(A.A.2.2.2.2 h X).1⟩ Q)
  have q:=E A.A.2.2.1;have BX:=E A.A.1;clear A Q;have O:=ajz cur wr (a8 BX.A C);have o:=(cY.A.rel L);have u0:=o.unit 0;have u1:=o.unit 1;have u2:=o.unit 2;have u3:=o.unit 3;have u4:=o.unit 4;have u5:=o.unit 5;have u6:=o.unit 6;have u7:=o.unit 7;have u8:=o.unit 8;have u9:=o.unit 9;simp[kY] at u0 u1 u2 u3 u4 u5 u6 u7 u8 u9;clear o;cases f;all_goals
   try have cB:=cB rfl
   go_wp2_with fail;refine O.ah ?_;rintro e w2⟨⟨k,rfl,z⟩,rfl⟩;clear O;have T:s=kD->k=2:=λh=>by rw[(U.A h).1] at z;exact z.q9 aka
   have aK:=E z;by_cases ci:k=0
   ·subst ci;have K:=E (show s≠kD fromλh=>by have:=T h;omega);clear z T;go_wp2;rw[Exit.noGoto_ret];go_ret2;exact⟨⟨0,1,rfl,E ⟨λh=>ae h aq,λh=>ae h K.A⟩⟩,L⟩
   have aJ:((k:Int)==0)=false:=aw;have oG:=z.hi;have m:=E (RQ cur k (λj hj=>z.on j (bV _) hj));obtain⟨N,G⟩:=aP (ux cur k);obtain⟨rest,F⟩:=aP (cur.extract k cur.size);have fH:=E (show rest.size+k=cur.size/\1<=k/\cur.size<=s.size from⟨by rw[<-F,pG cur k cur.size oG (aO _)];omega,an,BX.A⟩);have HX:=E (show s=kD->rest=⟨#[109,115]⟩/\N=10/\sum=0/\fr=0 fromλh=>by
    obtain⟨y,h2,H⟩:=U.A h;have h4:=T h;subst h4;rw[y] at F G;exact⟨F.symm.trans akb,G.symm.trans a1,h2,H⟩)
   rw[G] at m;simp only[G];clear z T G U;go_wp2;try simp only[F]
   clear F u0 u1 u2 u3 u4 u5 u6 u7 u8 u9;go_loopw [0,4,5,28] (λa0 a4 a5 i vL=>∃j:Nat,j<=5/\i=J I j/\a0=ap cur/\a4=J I sum/\a5=J I fr/\aF w vL/\a6 (s=kD->j<=4)) (λ_ _ _ i _=>5-(intOf i).toNat);case atStart=>exact⟨0,an,rfl,rfl,rfl,rfl,L,E (λ_=>by omega)⟩
   case round=>
    obtain⟨j,hj,rfl,rfl,rfl,rfl,p,V⟩:=hrel;rcases(show j=0\/j=1\/j=2\/j=3\/j=4\/j=5 by omega) with rfl|rfl|rfl|rfl|rfl|rfl
    ·have C:=D.A;have b3:=E (p.alloc (aD #[ap ⟨#[100]⟩,J I 86400000] 320));have b:=λW=>aaE W;have b:∀W,(mX 321 (.agg kY) (J I 0)).run aH W= .ok (aY #[ap ⟨#[100]⟩,J I 86400000]) W:=b;unfold kY at b;clear p;by_cases g:0<fr
     ·have d1:decide ((0:Int)<(fr:Int))=true:=ac an;have v:decide (0<fr)=true:=ac g;go_wp2;go_roundw;case rel=>exact⟨1,an,by go_num,rfl,rfl,rfl,b3.A,E (λh=>ae (HX.A h).2.2.2 an)⟩
      case measure=>simp[intOf]
     have d1:decide ((0:Int)<(fr:Int))=false:=aa an;have v:decide (0<fr)=false:=aa g;have a:=λW=>Ge rest ⟨#[100]⟩ W;cases Z:zy rest ⟨#[100]⟩ with
     |false=>
      rw[Z] at a;have M:=E Z;clear Z;go_wp2_with fail;refine(a _).ah ?_;rintro e d⟨rfl,rfl⟩;go_wp2;go_roundw;case rel=>exact⟨1,an,by go_num,rfl,rfl,rfl,b3.A,E (λh=>by omega)⟩
      case measure=>simp[intOf]
     |true=>
      rw[Z] at a;have x:=JE Z;have r:1<=rest.size:=x;have l:=λW=>Jn sum N 86400000 W q.A m.A aq;have u:=E (Jo (sum:=sum) (n:=N) (size:=86400000) q.A m.A aq);have t:=E (show s=kD->(rest.extract 1 rest.size).size=0/\mK sum N 86400000=10 fromλh=>by rw[(HX.A h).1] at Z;exact ae Z aq);go_wp2_with fail;refine(a _).ah ?_;rintro e d⟨rfl,rfl⟩;clear a;go_wp2_with fail;refine(l _).ah ?_;rintro e d⟨rfl,rfl⟩;clear l;have pH:=pG rest 1 rest.size r (aO _);go_wp2;go_roundw;case rel=>exact⟨rest.extract 1 rest.size,mK sum N 86400000,1,false,rfl,rfl,by go_num,rfl,b3.A,E ⟨aqX,an,u.A,(λh:false=true=>ae h aq),λh _=>t.A h⟩⟩
      case measure=>exact da (show(rest.extract 1 rest.size).size+0<cur.size from by rw[pH];have:=fH.A;omega) (Nat.le_add_right _ _)
    ·have C:=D.A;have b3:=E (p.alloc (aD #[ap ⟨#[104]⟩,J I 3600000] 320));have b:=λW=>aaF W;have b:∀W,(mX 321 (.agg kY) (J I 1)).run aH W= .ok (aY #[ap ⟨#[104]⟩,J I 3600000]) W:=b;unfold kY at b;clear p;by_cases g:1<fr
     ·have d1:decide ((1:Int)<(fr:Int))=true:=ac an;have v:decide (1<fr)=true:=ac g;go_wp2;go_roundw;case rel=>exact⟨2,an,by go_num,rfl,rfl,rfl,b3.A,E (λh=>ae (HX.A h).2.2.2 an)⟩
      case measure=>simp[intOf]
     have d1:decide ((1:Int)<(fr:Int))=false:=aa an;have v:decide (1<fr)=false:=aa g;have a:=λW=>Ge rest ⟨#[104]⟩ W;cases Z:zy rest ⟨#[104]⟩ with
     |false=>
      rw[Z] at a;have M:=E Z;clear Z;go_wp2_with fail;refine(a _).ah ?_;rintro e d⟨rfl,rfl⟩;go_wp2;go_roundw;case rel=>exact⟨2,an,by go_num,rfl,rfl,rfl,b3.A,E (λh=>by omega)⟩
      case measure=>simp[intOf]
     |true=>
      rw[Z] at a;have x:=JE Z;have r:1<=rest.size:=x;have l:=λW=>Jn sum N 3600000 W q.A m.A aq;have u:=E (Jo (sum:=sum) (n:=N) (size:=3600000) q.A m.A aq);have t:=E (show s=kD->(rest.extract 1 rest.size).size=0/\mK sum N 3600000=10 fromλh=>by rw[(HX.A h).1] at Z;exact ae Z aq);go_wp2_with fail;refine(a _).ah ?_;rintro e d⟨rfl,rfl⟩;clear a;go_wp2_with fail;refine(l _).ah ?_;rintro e d⟨rfl,rfl⟩;clear l;have pH:=pG rest 1 rest.size r (aO _);go_wp2;go_roundw;case rel=>exact⟨rest.extract 1 rest.size,mK sum N 3600000,2,false,rfl,rfl,by go_num,rfl,b3.A,E ⟨aqX,an,u.A,(λh:false=true=>ae h aq),λh _=>t.A h⟩⟩
      case measure=>exact da (show(rest.extract 1 rest.size).size+0<cur.size from by rw[pH];have:=fH.A;omega) (Nat.le_add_right _ _)
    ·have C:=D.A;have b3:=E (p.alloc (aD #[ap ⟨#[109]⟩,J I 60000] 320));have b:=λW=>aaG W;have b:∀W,(mX 321 (.agg kY) (J I 2)).run aH W= .ok (aY #[ap ⟨#[109]⟩,J I 60000]) W:=b;unfold kY at b;clear p;by_cases g:2<fr
     ·have d1:decide ((2:Int)<(fr:Int))=true:=ac an;have v:decide (2<fr)=true:=ac g;go_wp2;go_roundw;case rel=>exact⟨3,an,by go_num,rfl,rfl,rfl,b3.A,E (λh=>ae (HX.A h).2.2.2 an)⟩
      case measure=>simp[intOf]
     have d1:decide ((2:Int)<(fr:Int))=false:=aa an;have v:decide (2<fr)=false:=aa g;have a:=λW=>Ge rest ⟨#[109]⟩ W;cases Z:zy rest ⟨#[109]⟩ with
     |false=>
      rw[Z] at a;have M:=E Z;clear Z;go_wp2_with fail;refine(a _).ah ?_;rintro e d⟨rfl,rfl⟩;exact aaJ
     |true=>
      rw[Z] at a;have B:=λW=>Ge rest ⟨#[109,115]⟩ W;cases S:zy rest ⟨#[109,115]⟩ with
      |true=>
       rw[S] at B;go_wp2_with fail;refine(a _).ah ?_;rintro e d⟨rfl,rfl⟩;clear a;go_wp2_with fail;refine(B _).ah ?_;rintro e d⟨rfl,rfl⟩;clear B;exact aaJ
      |false=>
       rw[S] at B;have x:=JE Z;have r:1<=rest.size:=x;have l:=λW=>Jn sum N 60000 W q.A m.A aq;have u:=E (Jo (sum:=sum) (n:=N) (size:=60000) q.A m.A aq);have t:=E (show s=kD->(rest.extract 1 rest.size).size=0/\mK sum N 60000=10 fromλh=>by rw[(HX.A h).1] at S;exact ae S aq);go_wp2_with fail;refine(a _).ah ?_;rintro e d⟨rfl,rfl⟩;clear a;go_wp2_with fail;refine(B _).ah ?_;rintro e d⟨rfl,rfl⟩;clear B;go_wp2_with fail;refine(l _).ah ?_;rintro e d⟨rfl,rfl⟩;clear l;have pH:=pG rest 1 rest.size r (aO _);go_wp2;go_roundw;case rel=>exact⟨rest.extract 1 rest.size,mK sum N 60000,3,false,rfl,rfl,by go_num,rfl,b3.A,E ⟨aqX,an,u.A,(λh:false=true=>ae h aq),λh _=>t.A h⟩⟩
       case measure=>exact da (show(rest.extract 1 rest.size).size+0<cur.size from by rw[pH];have:=fH.A;omega) (Nat.le_add_right _ _)
    ·have C:=D.A;have b3:=E (p.alloc (aD #[ap ⟨#[115]⟩,J I 1000] 320));have b:=λW=>aaH W;have b:∀W,(mX 321 (.agg kY) (J I 3)).run aH W= .ok (aY #[ap ⟨#[115]⟩,J I 1000]) W:=b;unfold kY at b;clear p;by_cases g:3<fr
     ·have d1:decide ((3:Int)<(fr:Int))=true:=ac an;have v:decide (3<fr)=true:=ac g;go_wp2;go_roundw;case rel=>exact⟨4,an,by go_num,rfl,rfl,rfl,b3.A,E (λh=>ae (HX.A h).2.2.2 an)⟩
      case measure=>simp[intOf]
     have d1:decide ((3:Int)<(fr:Int))=false:=aa an;have v:decide (3<fr)=false:=aa g;have a:=λW=>Ge rest ⟨#[115]⟩ W;cases Z:zy rest ⟨#[115]⟩ with
     |false=>
      rw[Z] at a;have M:=E Z;clear Z;go_wp2_with fail;refine(a _).ah ?_;rintro e d⟨rfl,rfl⟩;go_wp2;go_roundw;case rel=>exact⟨4,an,by go_num,rfl,rfl,rfl,b3.A,E (λh=>by omega)⟩
      case measure=>simp[intOf]
     |true=>
      rw[Z] at a;have x:=JE Z;have r:1<=rest.size:=x;have l:=λW=>Jn sum N 1000 W q.A m.A aq;have u:=E (Jo (sum:=sum) (n:=N) (size:=1000) q.A m.A aq);have t:=E (show s=kD->(rest.extract 1 rest.size).size=0/\mK sum N 1000=10 fromλh=>by rw[(HX.A h).1] at Z;exact ae Z aq);go_wp2_with fail;refine(a _).ah ?_;rintro e d⟨rfl,rfl⟩;clear a;go_wp2_with fail;refine(l _).ah ?_;rintro e d⟨rfl,rfl⟩;clear l;have pH:=pG rest 1 rest.size r (aO _);go_wp2;go_roundw;case rel=>exact⟨rest.extract 1 rest.size,mK sum N 1000,4,false,rfl,rfl,by go_num,rfl,b3.A,E ⟨aqX,an,u.A,(λh:false=true=>ae h aq),λh _=>t.A h⟩⟩
      case measure=>exact da (show(rest.extract 1 rest.size).size+0<cur.size from by rw[pH];have:=fH.A;omega) (Nat.le_add_right _ _)
    ·have C:=D.A;have b3:=E (p.alloc (aD #[ap ⟨#[109,115]⟩,J I 1] 320));have b:=λW=>aaI W;have b:∀W,(mX 321 (.agg kY) (J I 4)).run aH W= .ok (aY #[ap ⟨#[109,115]⟩,J I 1]) W:=b;unfold kY at b;clear p;by_cases g:4<fr
     ·have d1:decide ((4:Int)<(fr:Int))=true:=ac an;have v:decide (4<fr)=true:=ac g;go_wp2;go_roundw;case rel=>exact⟨5,an,by go_num,rfl,rfl,rfl,b3.A,E (λh=>ae (HX.A h).2.2.2 an)⟩
      case measure=>simp[intOf]
     have d1:decide ((4:Int)<(fr:Int))=false:=aa an;have v:decide (4<fr)=false:=aa g;have a:=λW=>Ge rest ⟨#[109,115]⟩ W;cases Z:zy rest ⟨#[109,115]⟩ with
     |false=>
      rw[Z] at a;have M:=E Z;clear Z;go_wp2_with fail;refine(a _).ah ?_;rintro e d⟨rfl,rfl⟩;go_wp2;go_roundw;case rel=>exact⟨5,an,by go_num,rfl,rfl,rfl,b3.A,E (λh=>by have y:=M.A;rw[(HX.A h).1] at y;exact ae y aq)⟩
      case measure=>simp[intOf]
     |true=>
      rw[Z] at a;have x:=JE Z;have r:2<=rest.size:=x;have l:=λW=>Jn sum N 1 W q.A m.A aq;have u:=E (Jo (sum:=sum) (n:=N) (size:=1) q.A m.A aq);have t:=E (show s=kD->(rest.extract 2 rest.size).size=0/\mK sum N 1=10 fromλh=>by obtain⟨y,h2,H,h4⟩:=HX.A h;rw[y,h2,H];exact⟨aq,aq⟩);go_wp2_with fail;refine(a _).ah ?_;rintro e d⟨rfl,rfl⟩;clear a;go_wp2_with fail;refine(l _).ah ?_;rintro e d⟨rfl,rfl⟩;clear l;have pH:=pG rest 2 rest.size r (aO _);go_wp2;go_roundw;case rel=>exact⟨rest.extract 2 rest.size,mK sum N 1,5,false,rfl,rfl,by go_num,rfl,b3.A,E ⟨aqX,an,u.A,(λh:false=true=>ae h aq),λh _=>t.A h⟩⟩
      case measure=>exact da (show(rest.extract 2 rest.size).size+0<cur.size from by rw[pH];have:=fH.A;omega) (Nat.le_add_right _ _)
    ·have K:=E (show s≠kD fromλh=>by have:=V.A h;omega);go_wp2;rw[Exit.noGoto_ret];go_ret2;exact⟨⟨0,1,rfl,E ⟨λh=>ae h aq,λh=>ae h K.A⟩⟩,p⟩
def S0:ByteArray:=⟨#[48]⟩
def aaM (v d:Int) (w:aB) (hv:0<=v/\v<=9007199254740993) (c:0<=d/\d<=9):aN aH 304 #[J I v,J I d] w λe w'=>e=aQ (J I (min (v*10+d) 9007199254740993))/\w'=w:=by
 have b:I.wrap (v*10)=v*10:=ay;have a:I.wrap (v*10+d)=v*10+d:=ay;go_enter func304,ntmps304;go_wp2;go_ret;exact⟨rfl,rfl⟩
def akf (s:ByteArray) (p:List UInt8):(⟨(Lib.trimPrefix s.data.toList p).toArray⟩:ByteArray).size<=s.size:=by
 show(Lib.trimPrefix s.data.toList p).toArray.size<=s.data.size;unfold Lib.trimPrefix;split<;>simp
def akg:Utf8.decode S0 0=(48,1):=decode_ascii S0 0 aq aq
theorem arE (h:P:=by
 go_wp2;go_ret2;exact⟨⟨0,1,rfl,E ⟨λh=>ae h aq,λh=>ae (o4.A h).1 HN.A⟩⟩,HB.A _⟩;):P:=h
def akh (s:ByteArray) (w:aB) (hs:s.size<=1000000):aN aH 279 #[ap s] w λe w'=>(∃v k:Int,e=aQ (bn #[J I v,J I k])/\a6 ((k=0->j6 v=true)/\(s=S0->v=0/\k=0)))/\aF w w':=by
 have hcut:=Tryz.strings_CutPrefix s ⟨#[45]⟩ w;have S:=akf s [45];obtain⟨a,D⟩:=aP ((⟨(Lib.trimPrefix s.data.toList [45]).toArray⟩:ByteArray));obtain⟨aC,N⟩:=aP (Lib.hasPrefix s.data.toList [45]);have HC:=E (show aN aH 303 #[ap s,ap ⟨#[45]⟩] w λe w'=>e=aQ (bn #[ap a,aG aC])/\w'=w by rw[<-D,<-N];exact hcut);rw[D] at S;have o4:=E (show s=S0->a=S0/\aC=false fromλh=>by
  subst h;exact⟨D.symm.trans aq,N.symm.trans aq⟩)
 have dt:=E (show a.size<=1000000 by omega);clear hcut D N S;go_enter func279,ntmps279;go_wp2_with fail;refine HC.A.ah ?_;rintro e g⟨rfl,rfl⟩;clear HC;go_wp2;have HB:=E (λp=>show aF g (g.iter a p) from(aF.refl g).alloc _);go_loopw [6,7,8,9] (λL rM BZ a9 wr=>∃(v:Int) (b pl pos:Nat) (d:Bool),L=J I v/\rM=J I b/\BZ=J I pl/\a9=aG d/\wr=g.iter a pos/\a6 ((0<=v/\v<=9007199254740993)/\b+pl<=pos/\b+pl<=a.size/\(a=S0->v=0/\pl=0/\d=false/\b=pos/\pos<=1))) (λ_ _ _ _ wr=>a.size-wr.iterPos g.heap.size);case atStart=>exact⟨0,0,0,0,false,rfl,rfl,rfl,rfl,rfl,E ⟨an,an,an,λ_=>⟨rfl,rfl,rfl,rfl,an⟩⟩⟩
 case round=>
  obtain⟨v,b,pl,pos,d,rfl,rfl,rfl,rfl,rfl,l⟩:=hrel;have hv:=l.A.1;have Gf:=l.A.2.1;have Fq:=l.A.2.2.1;have S:=dt.A;by_cases m:pos<a.size
  ·have Y:=run_next_any (P:=aH) g a pos 0 m;have z:=Lib.decode_width_pos a pos m;have O:=decode_le a pos;have B:=E (show a=S0->(Utf8.decode a pos)=(48,1)/\pos=0 fromλh=>by
    subst h;have:pos=0:=by have K:pos<1:=m;omega
    subst this;exact⟨akg,rfl⟩)
   obtain⟨⟨c,n⟩,xA⟩:∃x,Utf8.decode a pos=x:=⟨_,rfl⟩;rw[xA] at Y z O B;dsimp only at Y z O;clear xA;have bq:pos≠a.size:=an;by_cases V:c=46/\d=false/\0<b
   ·obtain⟨rfl,rfl,X⟩:=V;have d0:decide ((0:Int)<(b:Int))=true:=ac an;have aR:decide (0<b)=true:=ac X;have HN:=E (show a≠S0 fromλh=>by have:=(B.A h).1;simp at this);go_wp2;go_roundw;case rel=>exact⟨v,b,pl,pos+n,true,rfl,rfl,rfl,rfl,rfl,E ⟨hv,an,Fq,λh=>ae h HN.A⟩⟩
    case measure=>exact aw
   by_cases U:48<=c/\c<=57
   ·have M:((c:Int)==46)=false:=by simp;omega
    have d1:decide ((c:Int)<48)=false:=aa an;have d2:decide ((57:Int)<(c:Int))=false:=aa an;have ec:decide (c<48)=false:=aa an;have R:decide (57<c)=false:=aa an;have aM:IntKind.i32.wrap ((c:Int)-48)=(c:Int)-48:=by simp[IntKind.wrap,IntKind.bits,IntKind.signed];omega
    have aJ:I.wrap ((c:Int)-48)=(c:Int)-48:=ay;have f:=λW=>aaM v ((c:Int)-48) W hv an;obtain⟨v2,rO⟩:=aP (min (v*10+((c:Int)-48)) 9007199254740993);rw[rO] at f;have C:=E (show(0<=v2/\v2<=9007199254740993)/\(a=S0->v2=0/\pl=0/\d=false/\b+1=pos+n/\pos+n<=1) from⟨an,λh=>by
     obtain⟨K,h2⟩:=B.A h;cases K;obtain⟨g1,g2,g3,g4,g5⟩:=l.A.2.2.2 h;exact⟨an,g2,g3,an,an⟩⟩)
    clear rO V O;cases d with
    |true=>
     have HN:=E (show a≠S0 fromλh=>by have:=(C.A.2 h).2.2.1;cases this);go_wp2_with fail;refine(f _).ah ?_;rintro e o⟨rfl,rfl⟩;clear f;go_wp2;go_roundw;case rel=>exact⟨v2,b,pl+1,pos+n,true,rfl,rfl,by go_num,rfl,rfl,E ⟨C.A.1,an,an,λh=>ae h HN.A⟩⟩
     case measure=>exact aw
    |false=>
     go_wp2_with fail;refine(f _).ah ?_;rintro e o⟨rfl,rfl⟩;clear f;go_wp2;go_roundw;case rel=>exact⟨v2,b+1,pl,pos+n,false,rfl,by go_num,rfl,rfl,rfl,E ⟨C.A.1,an,an,λh=>by obtain⟨g1,g2,g3,g4,g5⟩:=C.A.2 h;exact⟨g1,g2,rfl,g4,g5⟩⟩⟩
     case measure=>exact aw
   have HN:=E (show a≠S0 fromλh=>by
    have:=(B.A h).1;cases this;exact U an)
   clear B;by_cases H:c=46
   ·subst H;cases d with
    |true=>
     exact arE
    |false=>
     have X:b=0:=by
      rcases kJ b with h|h
      ·exact h
      ·exact ae ⟨rfl,rfl,h⟩ V
     subst X;exact arE
   have M:((c:Int)==46)=false:=aw;by_cases y:c<48
   ·have d1:decide ((c:Int)<48)=true:=ac an;have ec:decide (c<48)=true:=ac y;exact arE
   ·have d1:decide ((c:Int)<48)=false:=aa an;have d2:decide ((57:Int)<(c:Int))=true:=ac an;have ec:decide (c<48)=false:=aa y;have R:decide (57<c)=true:=ac an;exact arE
  ·have Y:=run_next_end (P:=aH) g a pos 0 m;have r:=E (show a=S0->v=0/\pl=0/\d=false/\b=1 fromλh=>by
    obtain⟨g1,g2,g3,g4,g5⟩:=l.A.2.2.2 h;have K:¬pos<1:=by rw[h] at m;exact m
    exact⟨g1,g2,g3,an⟩)
   clear l;by_cases hA:b=0
   ·subst hA;have HN:=E (show a≠S0 fromλh=>by have:=(r.A h).2.2.2;omega);exact arE
   have a2:((b:Int)==0)=false:=aw;by_cases hB:3<pl
   ·have T:decide ((3:Int)<(pl:Int))=true:=ac an;have Q:decide (3<pl)=true:=ac hB;have HN:=E (show a≠S0 fromλh=>by have:=(r.A h).2.1;omega);exact arE
   have T:decide ((3:Int)<(pl:Int))=false:=aa an;have Q:decide (3<pl)=false:=aa hB;by_cases G:d=true/\pl=0
   ·obtain⟨rfl,rfl⟩:=G;have HN:=E (show a≠S0 fromλh=>by have:=(r.A h).2.2.1;cases this);exact arE
   have HQ:=E (show(0<=v/\v<=9007199254740993)/\(a=S0->v=0) from⟨hv,λh=>(r.A h).1⟩);have qq:pl<=3:=an;have w3:I.wrap (3-(pl:Int))=3-(pl:Int):=ay;have u:d=true->((pl:Int)==0)=false:=λh=>by
    have:pl≠0:=λh2=>G ⟨h,h2⟩;simp;omega
   clear G Gf Fq hv r;cases d;all_goals
    try have u:=u rfl
    go_wp2;go_loopw [6,65] (λL i wr=>∃(v2:Int) (j:Nat),L=J I v2/\i=J I j/\j+pl<=3/\wr=g.iter a pos/\a6 ((0<=v2/\v2<=9007199254740993)/\(a=S0->v2=0))) (λ_ i _=>3-pl-(intOf i).toNat);case atStart=>exact⟨v,0,rfl,rfl,an,by first|rfl|trivial,HQ⟩
    case round=>
     obtain⟨v2,j,rfl,rfl,hj,rfl,q⟩:=hrel;by_cases aW:j+pl<3
     ·have d3:decide ((j:Int)<3-(pl:Int))=true:=ac an;have f:=λW=>aaM v2 0 W q.A.1 an;obtain⟨v3,uA⟩:=aP (min (v2*10+0) 9007199254740993);rw[uA] at f;have D8:=E (show(0<=v3/\v3<=9007199254740993)/\(a=S0->v3=0) from⟨ai q.A.1,λh=>by have:=q.A.2 h;omega⟩);clear uA;go_wp2_with fail;refine(f _).ah ?_;rintro e o⟨rfl,rfl⟩;clear f;go_wp2;go_roundw;case rel=>exact⟨v3,j+1,rfl,by go_num,an,by first|rfl|trivial,D8⟩
      case measure=>exact aA
     ·have d3:decide ((j:Int)<3-(pl:Int))=false:=aa an;have t:=λW=>Fl v2 W;cases Z:j6 v2 with
      |false=>
       rw[Z] at t;have HN:=E (show a≠S0 fromλh=>by rw[q.A.2 h] at Z;exact ae Z aq);clear Z;go_wp2_with fail;refine(t _).ah ?_;rintro e o⟨rfl,rfl⟩;go_wp2;go_ret2;exact⟨⟨0,2,rfl,E ⟨λh=>ae h aq,λh=>ae (o4.A h).1 HN.A⟩⟩,HB.A _⟩
      |true=>
       rw[Z] at t;have F:=E (show-9007199254740992<=v2/\v2<=9007199254740992 by simpa[j6] using Z);have wn:I.wrap (-v2)=-v2:=by have:=F.A;rw[b7];omega
       clear Z;cases aC with
       |false=>
        go_wp2_with fail;refine(t _).ah ?_;rintro e o⟨rfl,rfl⟩;go_wp2;go_ret2;exact⟨⟨v2,0,rfl,E ⟨λ_=>by have:=F.A;simp[j6];omega,λh=>⟨q.A.2 (o4.A h).1,by first|rfl|trivial⟩⟩⟩,HB.A _⟩
       |true=>
        have HN:=E (show s≠S0 fromλh=>by have:=(o4.A h).2;cases this);go_wp2_with fail;refine(t _).ah ?_;rintro e o⟨rfl,rfl⟩;go_wp2;go_ret2;exact⟨⟨-v2,0,rfl,E ⟨λ_=>by have:=F.A;simp[j6];omega,λh=>ae h HN.A⟩⟩,HB.A _⟩
def Sg {c:Nat} (i:Nat) (b:ByteArray) (h:Rw kM w B ao l.length l) (hB:aF w wr) (g:l.length<=c/\c<=9223372036854775807):aN aH 276 #[O ao l.length c,J I i,ap b] wr λe w'=>e=aQ (aG (cA l i 4 b))/\w'=wr:=by
 have y:=g.1;by_cases d:i<l.length
 ·have a:=E (show cA l i 4 b=(decide (l[i].k=4)&&decide (l[i].s=b)) by rw[pJ,s6 d,qx d]);generalize cA l i 4 b=r at a⊢;obtain⟨u,off,rfl,v,p,q1,q2,o⟩:=h.tk hB.aC d;obtain⟨K,m⟩:=aP (l[i].k);obtain⟨S,j⟩:=aP (l[i].s);rw[m,j] at a;simp only[m] at p;simp only[j] at q2;have d1:decide ((i:Int)<(l.length:Int))=true:=ac an;have q:decide (i<l.length)=true:=ac d;clear m j q1 o h g hB;go_enter func276,ntmps276;by_cases f:K=4
  ·subst f;by_cases hs:S=b
   ·subst hs;go_wp2;go_ret;exact⟨cc (by rw[a.A];simp),rfl⟩
   ·have t:(S.toList==b.toList)=false:=by rw[j9];simpa using hs
    have n:=E (show r=false by rw[a.A];simp[hs]);clear hs a;go_wp2;go_ret;exact⟨cc n.A.symm,rfl⟩
  ·have n:=E (show r=false by rw[a.A];simp[f]);have t:(K==4)=false:=am f;clear a;go_wp2;go_ret;exact⟨cc n.A.symm,rfl⟩
 ·have a:=E (show cA l i 4 b=false by rw[pJ,F3 d];rfl);have d1:decide ((i:Int)<(l.length:Int))=false:=aa an;have q:decide (i<l.length)=false:=aa d;clear h hB g;go_enter func276,ntmps276;go_wp2;go_ret;exact⟨cc a.A.symm,rfl⟩
def Sh {c:Nat} (i:Nat) (wr:aB):aN aH 278 #[O ao n c,J I i] wr λe w'=>(∃k:Int,e=aQ (J I k)/\a6 (k≠0))/\w'=wr:=by
 go_enter func278,ntmps278;go_wp2;all_goals go_ret
 all_goals exact⟨⟨_,rfl,E aq⟩,rfl⟩
variable {j:Nat} {u:aE}
noncomputable def l4 (l:List Tok) (i:Nat):Bool:=eT l i 1&&db (eu l i)&&cA l (i+1) 4 ⟨#[61,61]⟩&&eT l (i+2) 2&&decide (eu l (i+2)=S0)
structure XPo (w w':aB) (i:Nat) (l:List Tok) (v:aE) (x:wV) (k:Int) (j:Nat):Prop where
 val:vO w' 0 v x
 le:j<=l.length
 Sd:k=0->rq x=true
 ex:l4 l i=true->x=⟨⟨eu l i,[]⟩,5,0⟩/\k=0/\j=i+3
def Gg (w:aB) (B:Nat):vO w B (aY #[ap ⟨#[]⟩,O M 0 0,J I 0,J I 0]) ⟨⟨⟨#[]⟩,[]⟩,0,0⟩:=⟨_,rfl,aq,Vs.bh _ _ _⟩
def xB (Z:g<w.heap.size) (u0 u1 u2 u3:aE):w.grownBy ((((w.setCell (ab g 0 M) u0).setCell (ab g 1 M) u1).setCell (ab g 2 M) u2).setCell (ab g 3 M) u3) (ad g):=bB (rJ Z u0 u1) (bB (bX aqg u2) (bX aqg u3))
def akk {a b:ByteArray} (h:cA l i 4 a=true) (c:a≠b):cA l i 4 b=false:=by
 rw[pJ,b9,decide_eq_true_eq] at h;rw[pJ,Bool.and_eq_false_iff];right;rw[h.2];simpa using c
def akl {b:ByteArray} (h:eT l i 1=true):cA l i 4 b=false:=by
 have a:=kZ h;rw[s6 a,decide_eq_true_eq] at h;rw[pJ,s6 a,h];rfl
def td {k:Int} {s:ByteArray} (h:cA l i k s=true):i<l.length:=by
 rw[pJ,b9] at h;exact kZ h.1
structure D9 (l:List Tok) (j k:Nat) (o:Int):Prop where
 ok:o=0\/rp o=true
 lt:o≠0->j<l.length
 ex:cA l j 4 ⟨#[61,61]⟩=true->(k<=5->o=0)/\(5<k->o=5)
def D9.none_ {o:Int} {b:ByteArray} (h:D9 l j k o) (hs:uw[k]?=ad (ap b)) (hn:(rp k&&cA l j 4 b)=false):D9 l j (k+1) o:=by
 refine⟨h.ok,h.lt,λa=>⟨λc=>(h.ex a).1 an,λc=>?_⟩⟩;rcases gy 5 k with h6|h6
 ·exact(h.ex a).2 h6
 ·obtain rfl:k=5:=by omega
  simp[uw] at hs;subst hs;rw[a] at hn;simp[rp] at hn
def D9.some_ {o:Int} {a:ByteArray} (h:D9 l j k o) (hs:uw[k]?=ad (ap a)) (Z:rp k=true) (hn:cA l j 4 a=true):D9 l j (k+1) k:=by
 refine⟨.inr Z,λ_=>td hn,λb=>?_⟩;have d:k<=6:=by
  rw[rp,b9,decide_eq_true_eq,decide_eq_true_eq] at Z;omega
 have:k=5:=by
  have c:a=⟨#[61,61]⟩:=by
   rw[pJ,b9,decide_eq_true_eq] at b hn;rw[<-hn.2,b.2]
  subst c;rcases k with _|_|_|_|_|_|_|k<;>first|rfl|(simp[uw] at hs;done)|omega
 subst this;exact⟨λh=>by omega,λ_=>rfl⟩
def akm (k:Nat) (b:k<7):∃a:ByteArray,uw[k]?=ad (ap a)/\∀W,(mX 329 (.agg uw) (J I k)).run aH W= .ok (ap a) W:=by
 rcases k with _|_|_|_|_|_|_|k<;>first|exact⟨_,rfl,λW=>by kernel_rfl⟩|omega
structure xC (w wr:aB):Prop where
 b:aF w wr
 x:aI wr w.heap.size 48 #[ap ⟨#[]⟩,O M 0 0,J I 0,J I 0]
def xC.al (h:xC w wr) (Z:aS wr.heap.size wr w'):xC w w':=⟨h.b.trans (aF.of Z),h.x.al Z h.x.lt⟩
def xC.rel (h:xC w wr) (Z:aF wr w'):xC w w':=h.al Z.aC
structure qz (w0 w wr:aB) (g:Nat) (s:iZ) (u:aE) (o v:Int):Prop where
 c:xC w wr
 hg:w.heap.size<g
 y:aI wr g 48 #[ap s.n,u,J I o,J I v]
 h0:w0.heap.size<=w.heap.size
 sv:qi wr 0 (aY #[ap s.n,u]) s
def qz.al {s:iZ} {o v:Int} (h:qz w0 w wr g s u o v) (Z:aS wr.heap.size wr w'):qz w0 w w' g s u o v:=⟨h.c.al Z,h.hg,h.y.al Z h.y.lt,h.h0,h.sv.al Z⟩
def qz.setCell {s:iZ} {o v:Int} (h:qz w0 w wr g s u o v) (i:Nat) (a:aE):xC w (wr.setCell (ab g i M) a)/\qi (wr.setCell (ab g i M) a) 0 (aY #[ap s.n,u]) s:=⟨⟨h.c.b.setCell (p:=(ab g i M)) (Nat.le_of_lt h.hg) a,h.c.x.bT (by have:=h.hg;show w.heap.size≠g;omega) a⟩,h.sv.keep (((Kt.refl w0.heap.size [48] wr).setCell (o:=i) (a8 h.h0 (Nat.le_of_lt h.hg)) (bp.bO h.y) (bD.2 rfl) a).dJ (bV _)) aq aq⟩
def qz.op {s:iZ} {o v:Int} (h:qz w0 w wr g s u o v) (o':Int):qz w0 w (wr.setCell (ab g 2 M) (J I o')) g s u o' v:=⟨(h.setCell 2 _).1,h.hg,h.y.put 2 _,h.h0,(h.setCell 2 _).2⟩
def qz.val {s:iZ} {o v:Int} (h:qz w0 w wr g s u o v) (a:Int):qz w0 w (wr.setCell (ab g 3 M) (J I a)) g s u o a:=⟨(h.setCell 3 _).1,h.hg,h.y.put 3 _,h.h0,(h.setCell 3 _).2⟩
def qz.akn {s:iZ} {o v:Int} (h:qz w0 w wr g s u o v):vO wr 0 (aY #[ap s.n,u,J I o,J I v]) ⟨s,o,v⟩:=by
 obtain⟨u',e,hn,a⟩:=h.sv.A;obtain rfl:u=u':=am e;exact⟨u,rfl,hn,a⟩
def vO.keep {x:wV} (h:vO w B v x) (b:Kt B S w w') (c:jG.e∉S) (h2:∀t∈jG.bI,t∉S):vO w' B v x:=by
 obtain⟨u,e,hn,a⟩:=h.A;exact⟨u,e,hn,a.keep b c h2⟩
theorem aaQ (h:P:=by
 go_wp2_with (simp only[aaR,cj3]);go_wp2_with fail;refine(Sh _ _).ah ?_;rintro e wz⟨⟨k,rfl,HK⟩,rfl⟩;have ed:=E HX.A.c;have⟨z0,f0⟩:=ed.A.x.cf;have HP:=E (ed.A.x.mO (ap ⟨#[]⟩) (O M 0 0) (J I 0) (J I 0));have ch:=E (xB ed.A.x.lt (ap ⟨#[]⟩) (O M 0 0) (J I 0) (J I 0));have gX:=E (ed.A.b.cD ch.A (aO _));go_wp2;have k0:=HP.A.cell;refine bF (v:=bn #[aY #[(ap ⟨#[]⟩),(O M 0 0),(J I 0),(J I 0)],J I j3,J I k]) aqp rfl ⟨⟨_,⟨⟨⟨#[]⟩,[]⟩,0,0⟩,k,j3,rfl,⟨Gg _ _,xD.A.1,λh=>ae h HK.A,λhx=>(qj.A hx).elim⟩⟩,gX.A⟩;):P:=h
def ako {c:Nat} (kq:aF w0 w) (h:Rw kM w0 B ao l.length l) (hc:l.length<=c/\c<=9223372036854775807) (hi:i<=l.length) (hG:eK w) (D:∀t∈l,t.s.size<=1000000):aN aH 254 #[O ao l.length c,J I i] w λe w'=>(∃(v:aE) (x:wV) (k:Int) (j:Nat),e=aQ (bn #[v,J I j,J I k])/\XPo w0 w' i l v x k j)/\aF w w':=by
 have Y:=E h;have r:=E kq;have HC:=E hc;have cY:=E hG;have gZ:=E D;have HL:=E hi;have n:=E (show xC w (w.alloc (aD #[ap ⟨#[]⟩,O M 0 0,J I 0,J I 0] 48)) from⟨(aF.refl w).alloc _,aI.new w 48 #[ap ⟨#[]⟩,O M 0 0,J I 0,J I 0]⟩);have Se:¬((i:Int)<0):=an;have cK:l.length<=9223372036854775807:=a8 hc.1 hc.2;clear h hc hG D hi kq;go_enter func254,ntmps254;go_wp2;go_loop [1,7] (λX rM=>∃j o:Nat,X=J I j/\rM=J I o/\o<=32/\j<=l.length/\a6 (l4 l i=true->j=i/\o=0)) (λX _=>l.length-(intOf X).toNat);case atStart=>exact⟨i,0,rfl,rfl,an,HL.A,E λ_=>⟨rfl,rfl⟩⟩
 case round=>
  obtain⟨j,o,rfl,rfl,ho,hj,H⟩:=hrel;have a:=Sg j ⟨#[40]⟩ Y.A (r.A.trans n.A.b) HC.A;cases f:cA l j 4 ⟨#[40]⟩ with
  |true=>
   rw[f] at a;have lh:=td f;have HN:=E (show l4 l i=true->False fromλhx=>by
    obtain⟨rfl,_⟩:=H.A hx;unfold l4 at hx;simp only[b9] at hx;rw[akl hx.1.1.1.1] at f;cases f)
   clear f;go_wp2_with fail;refine a.ah ?_;rintro e wz⟨rfl,Si⟩;replace n:a6 (xC w wz):=by rw[Si];exact n
   have xE:=E Si;clear a Si;by_cases DH:o=32
   ·subst DH;have Sj:=E hj;clear H lh;have ed:=E n.A;have⟨z0,f0⟩:=ed.A.x.cf;have HP:=E (ed.A.x.mO (ap ⟨#[]⟩) (O M 0 0) (J I 0) (J I 0));have ch:=E (xB ed.A.x.lt (ap ⟨#[]⟩) (O M 0 0) (J I 0) (J I 0));have gX:=E (ed.A.b.cD ch.A (aO _));go_wp2;have k0:=HP.A.cell;refine bF (v:=bn #[aY #[(ap ⟨#[]⟩),(O M 0 0),(J I 0),(J I 0)],J I j,J I 8]) aqp rfl ⟨⟨_,⟨⟨⟨#[]⟩,[]⟩,0,0⟩,8,j,rfl,⟨Gg _ _,Sj.A,λh=>ae h aq,λhx=>(HN.A hx).elim⟩⟩,gX.A⟩
   ·have qb:((o:Int)==32)=false:=by simp;omega
    have w1:I.wrap ((o:Int)+1)=(o:Int)+1:=ay;have w2:I.wrap ((j:Int)+1)=(j:Int)+1:=ay;have aJ:=xE.A;clear xE;subst aJ;go_wp2;go_round;case rel=>exact⟨j+1,o+1,by go_num,by go_num,an,an,E λhx=>(HN.A hx).elim⟩
    case measure=>exact aA
  |false=>
   rw[f] at a;clear f;go_wp2_with fail;refine a.ah ?_;rintro e wz⟨rfl,rfl⟩;clear a;have ny:=E (iC ho hj);go_wp2_with fail;refine(aj9 (r.A.trans n.A.b) Y.A HC.A ny.A.2).ah ?_;rintro e wz⟨⟨v,s,k,d,rfl,U⟩,Z⟩;obtain⟨u,rfl,hn,hu⟩:=U.val.A;obtain⟨A0,c0,rfl,_⟩:=hu.be;replace n:=E (n.A.rel Z);have iq:=E U;have N:=E (show l4 l i=true->d=i+1/\s=⟨eu l i,[]⟩/\o=0/\k=0 fromλhx=>by
    obtain⟨rfl,Mz⟩:=H.A hx;unfold l4 at hx;simp only[b9] at hx;obtain⟨m,h2,h3⟩:=U.ex (by rw[b9];exact hx.1.1.1) (akk hx.1.1.2 aq);exact⟨h3,m,Mz,h2⟩)
   have Nf:=E U.le;clear Z U hn hu hj ho H;have rP:=E (n.A.al ((bk _ _).alloc (aO _) (aD #[ap s.n,O A0 s.aU.length c0] 46)));by_cases hk:k=0;case neg=>
    have jv:(k !=0)=true:=aqk;have HK:=E hk;clear hk;have ed:=E rP.A;have⟨z0,f0⟩:=ed.A.x.cf;have HP:=E (ed.A.x.mO (ap ⟨#[]⟩) (O M 0 0) (J I 0) (J I 0));have ch:=E (xB ed.A.x.lt (ap ⟨#[]⟩) (O M 0 0) (J I 0) (J I 0));have gX:=E (ed.A.b.cD ch.A (aO _));go_wp2;have k0:=HP.A.cell;refine bF (v:=bn #[aY #[(ap ⟨#[]⟩),(O M 0 0),(J I 0),(J I 0)],J I d,J I k]) aqp rfl ⟨⟨_,⟨⟨⟨#[]⟩,[]⟩,0,0⟩,k,d,rfl,⟨Gg _ _,Nf.A,λh=>ae h HK.A,λhx=>ae (N.A hx).2.2.2 HK.A⟩⟩,gX.A⟩
   subst hk;have ca:=aI.new wz 46 #[ap s.n,O A0 s.aU.length c0];have x0:=ca.cell;clear ca;have HX:=E (show qz w0 w ((wz.alloc (aD #[ap s.n,O A0 s.aU.length c0] 46)).alloc (aD #[ap s.n,O A0 s.aU.length c0,J I 0,J I 0] 48)) (wz.heap.size+1) s (O A0 s.aU.length c0) 0 0 from⟨rP.A.al ((bk _ _).alloc (aO _) _),ai n.A.b.size,by have:=aI.new (wz.alloc (aD #[ap s.n,O A0 s.aU.length c0] 46)) 48 #[ap s.n,O A0 s.aU.length c0,J I 0,J I 0];simpa using this,r.A.size,(iq.A.val.al ((bk _ _).alloc (aO _) _)).al ((bk _ _).alloc (aO _) _)⟩);have p:=cY.A.rel HX.A.c.b;have u0:=p.sign 0;have u1:=p.sign 1;have u2:=p.sign 2;have u3:=p.sign 3;have u4:=p.sign 4;have u5:=p.sign 5;have u6:=p.sign 6;simp[uw] at u0 u1 u2 u3 u4 u5 u6;clear p rP;go_wp2;clear u0 u1 u2 u3 u4 u5 u6 x0;go_loopw [42] (λSk wr=>∃(k:Nat) (b:Int),Sk=J I k/\k<=7/\a6 (qz w0 w wr (wz.heap.size+1) s (O A0 s.aU.length c0) b 0)/\a6 (D9 l d k b)) (λSk _=>7-(intOf Sk).toNat);case atStart=>exact⟨0,0,rfl,an,HX,E ⟨.inl rfl,λh=>ae rfl h,λ_=>⟨λ_=>rfl,λh=>by omega⟩⟩⟩
   case round=>
    clear HX;obtain⟨k,b,rfl,vX,HX,G⟩:=hrel;have y2:=HX.A.y.cell 2;have g2:=HX.A.y.frozen 2;by_cases hk:k<7
    ·obtain⟨sg,Ea,fL⟩:=akm k hk;unfold uw at fL;have a9:decide ((k:Int)<7)=true:=ac an;have bc:I.wrap ((k:Int)+1)=(k:Int)+1:=ay;have z:=Z3 (k:Int) wr;have og:=E Ea;clear Ea;cases Z:rp k with
     |false=>
      rw[Z] at z;have V:=E (G.A.none_ og.A (by rw[Z];rfl));clear Z;go_wp2_with fail;refine z.ah ?_;rintro e L⟨rfl,rfl⟩;clear z;go_wp2;go_roundw;case rel=>exact⟨k+1,b,by go_num,an,HX,V⟩
      case measure=>exact aA
     |true=>
      rw[Z] at z;have bg:=E Z;have a:=Sg d sg Y.A (r.A.trans HX.A.c.b) HC.A;cases hs:cA l d 4 sg with
      |false=>
       rw[hs] at a;have V:=E (G.A.none_ og.A (by rw[hs];cases rp (k:Int)<;>rfl));clear Z hs;go_wp2_with fail;refine z.ah ?_;rintro e L⟨rfl,rfl⟩;clear z;go_wp2_with fail;refine a.ah ?_;rintro e L⟨rfl,rfl⟩;clear a;go_wp2;go_roundw;case rel=>exact⟨k+1,b,by go_num,an,HX,V⟩
       case measure=>exact aA
      |true=>
       rw[hs] at a;have V:=E (G.A.some_ og.A Z hs);have cL:=E (HX.A.op (k:Int));clear Z hs;go_wp2_with fail;refine z.ah ?_;rintro e L⟨rfl,rfl⟩;clear z;go_wp2_with fail;refine a.ah ?_;rintro e L⟨rfl,rfl⟩;clear a;go_wp2;go_roundw;case rel=>exact⟨k+1,(k:Int),by go_num,an,cL,V⟩
       case measure=>exact aA
    ·obtain rfl:k=7:=by omega
     have Sj:=E (show d<=l.length from Nf.A);have gH:=E (show l4 l i=true->b=5 fromλhx=>by
      obtain⟨rfl,_⟩:=N.A hx;unfold l4 at hx;simp only[b9] at hx;exact(G.A.ex hx.1.1.2).2 an)
     have dv:=E (iC G.A.ok G.A.lt);clear G;by_cases Q:b=0
     ·subst Q;have qj:=E (show l4 l i=true->False fromλhx=>ae (gH.A hx) aq);have Gh:=E vX;clear hk vX g2;go_wp2_with fail;refine(Sh _ _).ah ?_;rintro e wz⟨⟨k,rfl,HK⟩,rfl⟩;have ed:=E HX.A.c;have⟨z0,f0⟩:=ed.A.x.cf;have HP:=E (ed.A.x.mO (ap ⟨#[]⟩) (O M 0 0) (J I 0) (J I 0));have ch:=E (xB ed.A.x.lt (ap ⟨#[]⟩) (O M 0 0) (J I 0) (J I 0));have gX:=E (ed.A.b.cD ch.A (aO _));go_wp2;have k0:=HP.A.cell;refine bF (v:=bn #[aY #[(ap ⟨#[]⟩),(O M 0 0),(J I 0),(J I 0)],J I d,J I k]) aqp rfl ⟨⟨_,⟨⟨⟨#[]⟩,[]⟩,0,0⟩,k,d,rfl,⟨Gg _ _,Sj.A,λh=>ae h HK.A,λhx=>(qj.A hx).elim⟩⟩,gX.A⟩
     have a5:(b==0)=false:=by simp;exact Q
     have a2:=E (show rp b=true/\b≠0 from⟨dv.A.1.resolve_left Q,Q⟩);have Bz:=dv.A.2 Q;have aaR:I.wrap ((d:Int)+1)=(d:Int)+1:=ay;clear Q dv hk vX g2;obtain⟨j3,BK⟩:=aP (d+1);have cj3:(d:Int)+1=(j3:Int):=an;have xD:=E (show j3<=l.length/\j3=d+1 from⟨an,BK.symm⟩);have a3:I.wrap (j3:Int)=(j3:Int):=ay;clear Bz BK;by_cases F:j3<l.length;case neg=>
      have d4:decide ((l.length:Int)<=(j3:Int))=true:=ac an;have W:decide (l.length<=j3)=true:=ac an;have qj:=E (show l4 l i=true->False fromλhx=>by
       obtain⟨e2,_⟩:=N.A hx;have e3:=xD.A.2;unfold l4 at hx;simp only[b9] at hx;have:=kZ hx.1.2;omega)
      clear F;exact aaQ
     obtain⟨gq,off,hA,eb,q0,q1,q2,q3⟩:=Y.A.tk (r.A.trans HX.A.c.b).aC F;subst hA;obtain⟨K,hK⟩:=aP (l[j3].k);obtain⟨T,D⟩:=aP (l[j3].s);have HK:=E (show eT l j3 2=decide (K=2)/\eu l j3=T/\T.size<=1000000 from⟨by rw[s6 F,hK],by rw[qx F,D],by rw[<-D];exact gZ.A _ (dl _)⟩);simp only[hK] at q0;simp only[D] at q2;have d4:decide ((l.length:Int)<=(j3:Int))=false:=aa an;have W:decide (l.length<=j3)=false:=aa an;have aR:=E F;clear q1 q3 hK D;by_cases eV:K=2;case neg=>
      have d5:(K !=2)=true:=by simp;exact eV
      have qj:=E (show l4 l i=true->False fromλhx=>by
       obtain⟨e2,_⟩:=N.A hx;have e3:=xD.A.2;unfold l4 at hx;simp only[b9] at hx;have m:=hx.1.2;rw[show i+2=j3 by omega,HK.A.1,decide_eq_true_eq] at m;exact eV m)
      clear eV;exact aaQ
     subst eV;have a4:I.wrap ((j3:Int)+1)=(j3:Int)+1:=ay;have S:=akh T wr HK.A.2.2;go_wp2_with (simp only[aaR,cj3]);refine S.ah ?_;rintro e L⟨⟨y,k,rfl,R⟩,Z⟩;replace HX:=E (HX.A.al Z.aC);have y3:=HX.A.y.cell 3;have g3:=HX.A.y.frozen 3;have C:=E (HX.A.val y);obtain⟨W3,xF⟩:=aP (L.setCell ⟨wz.heap.size+1,3,M⟩ (J I y));rw[xF] at C;have uB:=E R.A;clear S Z R q0 q2 d4 W F HX y2;by_cases hk:k=0;case neg=>
      have jv:(k !=0)=true:=aqk;have BW:=E hk;have qj:=E (show l4 l i=true->False fromλhx=>by
       obtain⟨e2,_⟩:=N.A hx;have e3:=xD.A.2;unfold l4 at hx;simp only[b9] at hx;have m:=hx.2;rw[show i+2=j3 by omega,HK.A.2.1,decide_eq_true_eq] at m;exact hk (uB.A.2 m).2)
      clear hk;subst xF;have ed:=E C.A.c;have⟨z0,f0⟩:=ed.A.x.cf;have HP:=E (ed.A.x.mO (ap ⟨#[]⟩) (O M 0 0) (J I 0) (J I 0));have ch:=E (xB ed.A.x.lt (ap ⟨#[]⟩) (O M 0 0) (J I 0) (J I 0));have gX:=E (ed.A.b.cD ch.A (aO _));go_wp2;have k0:=HP.A.cell;refine bF (v:=bn #[aY #[(ap ⟨#[]⟩),(O M 0 0),(J I 0),(J I 0)],J I j3,J I k]) aqp rfl ⟨⟨_,⟨⟨⟨#[]⟩,[]⟩,0,0⟩,k,j3,rfl,⟨Gg _ _,xD.A.1,λh=>ae h BW.A,λhx=>(qj.A hx).elim⟩⟩,gX.A⟩
     subst hk;have jS:=E (uB.A.1 rfl);have Gi:=E (show l4 l i=true->y=0/\o=0/\j3+1=i+3/\b=5/\s=⟨eu l i,[]⟩ fromλhx=>by
      obtain⟨e2,iX,gQ,_⟩:=N.A hx;have fT:=gH.A hx;have e3:=xD.A.2;unfold l4 at hx;simp only[b9] at hx;have m:=hx.2;rw[show i+2=j3 by omega,HK.A.2.1,decide_eq_true_eq] at m;exact⟨(uB.A.2 m).1,gQ,an,fT,iX⟩)
     have F:=aR.A;have bd:=ny.A.1;clear uB;go_wp2_with (simp only[xF]);clear y3 g3;go_loop [1,102] (λX Sp=>∃j q:Nat,X=J I j/\Sp=J I q/\q<=o/\j<=l.length/\a6 (l4 l i=true->j=i+3)) (λ_ Sp=>o-(intOf Sp).toNat);case atStart=>exact⟨j3+1,0,by go_num,rfl,an,an,E λhx=>(Gi.A hx).2.2.1⟩
     case round=>
      obtain⟨j,q,rfl,rfl,hq,hj,H⟩:=hrel;by_cases Sq:q<o
      ·have a:=Sg j ⟨#[41]⟩ Y.A (r.A.trans C.A.c.b) HC.A;have qj:=E (show l4 l i=true->False fromλhx=>by have:=(Gi.A hx).2.1;omega);have d6:decide ((q:Int)<(o:Int))=true:=ac an;have aW:decide (q<o)=true:=ac Sq;cases f:cA l j 4 ⟨#[41]⟩ with
       |true=>
        rw[f] at a;have lh:=td f;have w1:I.wrap ((q:Int)+1)=(q:Int)+1:=ay;have w2:I.wrap ((j:Int)+1)=(j:Int)+1:=ay;clear f;go_wp2_with fail;refine a.ah ?_;rintro e w5⟨rfl,rfl⟩;clear a;go_wp2;go_round;case rel=>exact⟨j+1,q+1,by go_num,by go_num,an,an,E λhx=>(qj.A hx).elim⟩
        case measure=>exact aA
       |false=>
        rw[f] at a;have Gh:=E hj;clear f hj H;go_wp2_with fail;refine a.ah ?_;rintro e w5⟨rfl,rfl⟩;clear a;go_wp2_with fail;refine(Sh _ _).ah ?_;rintro e wz⟨⟨k,rfl,HK⟩,rfl⟩;have ed:=E C.A.c;have⟨z0,f0⟩:=ed.A.x.cf;have HP:=E (ed.A.x.mO (ap ⟨#[]⟩) (O M 0 0) (J I 0) (J I 0));have ch:=E (xB ed.A.x.lt (ap ⟨#[]⟩) (O M 0 0) (J I 0) (J I 0));have gX:=E (ed.A.b.cD ch.A (aO _));go_wp2;have k0:=HP.A.cell;refine bF (v:=bn #[aY #[(ap ⟨#[]⟩),(O M 0 0),(J I 0),(J I 0)],J I j,J I k]) aqp rfl ⟨⟨_,⟨⟨⟨#[]⟩,[]⟩,0,0⟩,k,j,rfl,⟨Gg _ _,Gh.A,λh=>ae h HK.A,λhx=>(qj.A hx).elim⟩⟩,gX.A⟩
      ·have d6:decide ((q:Int)<(o:Int))=false:=aa an;have aW:decide (q<o)=false:=aa Sq;have Gh:=E hj;have v0:=C.A.y.cell;clear hj hq Sq;have ed:=E C.A.c;have⟨z0,f0⟩:=ed.A.x.cf;have HP:=E (ed.A.x.mO (ap s.n) (O A0 s.aU.length c0) (J I b) (J I y));have ch:=E (xB ed.A.x.lt (ap s.n) (O A0 s.aU.length c0) (J I b) (J I y));have gX:=E (ed.A.b.cD ch.A (aO _));have j8:=(Kt.refl w0.heap.size [48] _).grown ch.A (a8 r.A.size ed.A.b.size) (λg e=>by cases e;exact⟨r.A.size,bp.bO ed.A.x⟩) (bD.2 rfl);have ic:=E (C.A.akn.keep (j8.dJ (bV _)) aq aq);have cj:=E (show rq ⟨s,b,y⟩=true by
        unfold rq;rw[b9,b9];exact⟨⟨iq.A.Sd rfl,a2.A.1⟩,jS.A⟩)
       clear j8;go_wp2;have k0:=HP.A.cell;refine bF (v:=bn #[aY #[(ap s.n),(O A0 s.aU.length c0),(J I b),(J I y)],J I j,J I 0]) aqp rfl ⟨⟨_,⟨s,b,y⟩,0,j,rfl,⟨ic.A,Gh.A,λ_=>cj.A,λhx=>⟨by obtain⟨e1,e2,e3,iX,gQ⟩:=Gi.A hx;rw[e1,iX,gQ],rfl,H.A hx⟩⟩⟩,gX.A⟩
variable {R:cv}
structure dk (w0 w:aB) (B b c i:Nat) (ao:Option aX) (l:List Tok) (R:cv) (m q:Option aX×Nat):Prop where
 b0:aF w0 w
 Z:w0.heap.size<=b
 tk:Rw kM w0 B ao l.length l
 box:aI w b 326 #[O ao l.length c,J I i,ap R.n,ap R.x.s.n,O m.1 R.x.s.aU.length m.2,J I R.x.op,J I R.x.v,J I R.wait,J I R.keep,O q.1 R.L.length q.2]
 lc:l.length<=c/\c<=9223372036854775807
 le:i<=l.length
 hn:R.n.size<=9223372036854775807
 hs:R.x.s.n.size<=9223372036854775807
 xG:Vs jG w 0 (O m.1 R.x.s.aU.length m.2) R.x.s.aU
 oh:Vs bE w 0 (O q.1 R.L.length q.2) R.L
section
variable {w0 w w':aB} {B b c i:Nat} {ao:Option aX} {l:List Tok} {R:cv} {m q:Option aX×Nat}
def dk.al (h:dk w0 w B b c i ao l R m q) (Z:aS w.heap.size w w'):dk w0 w' B b c i ao l R m q:=⟨h.b0.trans (aF.of Z),h.Z,h.tk,h.box.al Z h.box.lt,h.lc,h.le,h.hn,h.hs,h.xG.al Z,h.oh.al Z⟩
def dk.kt (h:dk w0 w B b c i ao l R m q) (o:Nat) (u:aE):Kt w0.heap.size [326] w (w.setCell (ab b o M) u):=(Kt.refl _ _ w).setCell (o:=o) h.Z (bp.bO h.box) (bD.2 rfl) u
def dk.Gj (h:dk w0 w B b c i ao l R m q) (hg:w.grownBy w' (ad b)):Kt w0.heap.size [326] w w':=(Kt.refl _ _ w).grown hg h.b0.size (λg e=>by cases e;exact⟨h.Z,bp.bO h.box⟩) (bD.2 rfl)
def dk.own (h:dk w0 w B b c i ao l R m q) (hg:w.grownBy w' (ad g)) (h0:w0.heap.size<=g) (e:b≠g) (a:Kt w0.heap.size S w w') (d:jG.e∉S/\bE.e∉S) (h2:(∀t∈jG.bI,t∉S)/\∀t∈bE.bI,t∉S):dk w0 w' B b c i ao l R m q:=⟨h.b0.cD hg h0,h.Z,h.tk,h.box.gr hg e,h.lc,h.le,h.hn,h.hs,h.xG.keep (a.dJ (bV _)) d.1 h2.1,h.oh.keep (a.dJ (bV _)) d.2 h2.2⟩
def dk.step (h:dk w0 w B b c i ao l R m q) {j:Nat} (hj:j<=l.length):dk w0 (w.setCell (ab b 1 M) (J I j)) B b c j ao l R m q:=⟨h.b0.setCell h.Z _,h.Z,h.tk,h.box.put 1 _,h.lc,hj,h.hn,h.hs,h.xG.keep ((h.kt 1 _).dJ (bV _)) aq aq,h.oh.keep ((h.kt 1 _).dJ (bV _)) aq aq⟩
def dk.nm (h:dk w0 w B b c i ao l R m q) {n:ByteArray} (hn:n.size<=9223372036854775807):dk w0 (w.setCell (ab b 2 M) (ap n)) B b c i ao l {R with n:=n} m q:=⟨h.b0.setCell h.Z _,h.Z,h.tk,h.box.put 2 _,h.lc,h.le,hn,h.hs,h.xG.keep ((h.kt 2 _).dJ (bV _)) aq aq,h.oh.keep ((h.kt 2 _).dJ (bV _)) aq aq⟩
def dk.wt (h:dk w0 w B b c i ao l R m q) (n:Int):dk w0 (w.setCell (ab b 7 M) (J I n)) B b c i ao l {R with wait:=n} m q:=⟨h.b0.setCell h.Z _,h.Z,h.tk,h.box.put 7 _,h.lc,h.le,h.hn,h.hs,h.xG.keep ((h.kt 7 _).dJ (bV _)) aq aq,h.oh.keep ((h.kt 7 _).dJ (bV _)) aq aq⟩
def dk.MB (h:dk w0 w B b c i ao l R m q) (n:Int):dk w0 (w.setCell (ab b 8 M) (J I n)) B b c i ao l {R with keep:=n} m q:=⟨h.b0.setCell h.Z _,h.Z,h.tk,h.box.put 8 _,h.lc,h.le,h.hn,h.hs,h.xG.keep ((h.kt 8 _).dJ (bV _)) aq aq,h.oh.keep ((h.kt 8 _).dJ (bV _)) aq aq⟩
def dk.lb (h:dk w0 w B b c i ao l R m q) {L:aZ} {q':Option aX×Nat} (a:Vs bE w 0 (O q'.1 L.length q'.2) L):dk w0 (w.setCell (ab b 9 M) (O q'.1 L.length q'.2)) B b c i ao l {R with L:=L} m q':=⟨h.b0.setCell h.Z _,h.Z,h.tk,h.box.put 9 _,h.lc,h.le,h.hn,h.hs,h.xG.keep ((h.kt 9 _).dJ (bV _)) aq aq,a.keep ((h.kt 9 _).dJ (bV _)) aq aq⟩
def dk.rul (h:dk w0 w B b c i ao l R m q):rI w 0 (aY #[ap R.n,ap R.x.s.n,O m.1 R.x.s.aU.length m.2,J I R.x.op,J I R.x.v,J I R.wait,J I R.keep,O q.1 R.L.length q.2]) R:=⟨_,rfl,_,_,rfl,h.hn,h.hs,h.xG,h.oh⟩
end
def Gk {c:Nat} {m q:Option aX×Nat} (k:Int) (h:dk w0 w B b c i ao l R m q):aN aH 252 #[bl (ad (ab b 0 M)),J I k] w λe w'=>e=aQ (aG (eT l i k))/\aS w.heap.size w w':=by
 have g:=E h.b0;have s:=E h.tk;have t:=ba.cells h.box;have v:=h.lc.1;have u:=h.lc.2;by_cases a:i<l.length
 ·have HE:=E (s6 a k);generalize eT l i k=r at HE⊢;obtain⟨x,off,rfl,o,f,q1,q2,j⟩:=s.A.tk g.A.aC a;have x0:=λp:ba w=>p.cell (da o g.A.size) f;obtain⟨K,d⟩:=aP (l[i].k);rw[d] at HE;simp only[d] at x0;have d1:decide ((i:Int)<(l.length:Int))=true:=ac an;have n:decide (i<l.length)=true:=ac a;clear d f q1 q2 j h;go_enter func252,ntmps252;exact Z8
 ·have HE:=E (F3 a k);have d1:decide ((i:Int)<(l.length:Int))=false:=aa an;have n:decide (i<l.length)=false:=aa a;clear h;go_enter func252,ntmps252;exact Z9
def B4 {c:Nat} {m q:Option aX×Nat} (h:dk w0 w B b c i ao l R m q):aN aH 253 #[bl (ad (ab b 0 M))] w λe w'=>(∃k:Int,e=aQ (J I k)/\(k !=0)=true)/\aS w.heap.size w w':=by
 have f:=ba.cells h.box;clear h;by_cases a:l.length<=i
 ·have d1:decide ((l.length:Int)<=(i:Int))=true:=ac an;have d:decide (l.length<=i)=true:=ac a;go_enter func253,ntmps253;exact aaa
 ·have d1:decide ((l.length:Int)<=(i:Int))=false:=aa an;have d:decide (l.length<=i)=false:=aa a;go_enter func253,ntmps253;exact aab
theorem aaS (h:P:=by
 go_enter func275,ntmps275;go_wp2_with fail;refine du (cU 0 19 []) [] ?_;repeat (
  refine S4.step (λKK aJ=>?_);go_simp;first
   |(refine aJ _ ?_;clear aJ KK)
   |(apply lL;refine⟨λ_=>?_,aJ _ ?_⟩;(with_reducible exact aN.seq (C1.A _));clear aJ KK))
 refine S4.nb λwq hq=>?_;refine dP ?_;go_wp2;go_ret;exact⟨cc eD.A.symm,hq⟩;):P:=h
def JG {c:Nat} {m q:Option aX×Nat} (k:Int) (s:ByteArray) (h:dk w0 w B b c i ao l R m q):aN aH 275 #[bl (ad (ab b 0 M)),J I k,ap s] w λe w'=>e=aQ (aG (cA l i k s))/\aS w.heap.size w w':=by
 have C1:=E (λp:ba w=>Gk k (h.al p.aC));have n:=E h.b0;have u:=E h.tk;have x:=ba.cells h.box;have z:=h.lc.1;have y:=h.lc.2;have HE:=E (show cA l i k s=_ from pJ);generalize cA l i k s=r at HE⊢;cases a:eT l i k with
 |false=>
  rw[a] at C1 HE;clear h;go_enter func275,ntmps275;go_wp2_with fail;refine du (cU 0 19 []) [] ?_;repeat (
   refine S4.step (λKK aJ=>?_);go_simp;first
    |(refine aJ _ ?_;clear aJ KK)
    |(apply lL;refine⟨λ_=>?_,aJ _ ?_⟩;(with_reducible exact aN.seq (C1.A _));clear aJ KK))
  refine S4.nb λwq hq=>?_;refine dP ?_;go_wp2;go_ret;exact⟨cc CV,hq⟩
 |true=>
  rw[a] at C1 HE;have o:=kZ a;obtain⟨A,off,rfl,t,j,q1,q2,g⟩:=u.A.tk n.A.aC o;have x2:=λp:ba w=>p.cell (da t n.A.size) q2;rw[qx o] at HE;obtain⟨T,f⟩:=aP (l[i].s);rw[f] at HE;simp only[f] at x2;by_cases d:T=s
  ·subst d;have eD:=E (show r=true by rw[HE.A];simp);clear a f j q1 q2 g h HE;exact aaS
  ·have eD:=E (show r=false by rw[HE.A];simp[d]);have v:(T.toList==s.toList)=false:=by rw[j9];simpa using d
   have C:(T.toList !=s.toList)=true:=by rw[bne,v];rfl
   clear a f j q1 q2 g h HE d;exact aaS
def zD {c:Nat} {m q:Option aX×Nat} (k:Int) (s:ByteArray) (h:dk w0 w B b c i ao l R m q) (d:cA l i k s=false):aN aH 251 #[bl (ad (ab b 0 M)),J I k,ap s] w λe w'=>e=aQ (aG false)/\aS w.heap.size w w':=by
 have a:=JG k s h;rw[d] at a;clear h d;go_enter func251,ntmps251;go_wp2_with fail;refine a.ah ?_;rintro e f⟨rfl,Z⟩;clear a;go_wp2;go_ret;exact⟨rfl,Z⟩
def zE {c:Nat} {m q:Option aX×Nat} (k:Int) (s:ByteArray) (h:dk w0 w B b c i ao l R m q) (d:cA l i k s=true):aN aH 251 #[bl (ad (ab b 0 M)),J I k,ap s] w λe w'=>e=aQ (aG true)/\dk w0 w' B b c (i+1) ao l R m q/\w.grownBy w' (ad b):=by
 have f:=JG k s h;have v:=td d;have u:=a8 h.lc.1 h.lc.2;rw[d] at f;have g:=E h;have r:I.wrap ((i:Int)+1)=(i:Int)+1:=ay;clear h d;go_enter func251,ntmps251;go_wp2_with fail;refine f.ah ?_;rintro e p⟨rfl,Z⟩;have a:=E (g.A.al Z);have n:=E Z;have o:=a.A.box.cell 1;have t:=a.A.box.frozen 1;clear f Z;go_wp2;go_ret;exact⟨rfl,a.A.step (j:=i+1) an,bB (grown_of n.A) (bX a.A.box.lt _)⟩
def aaT {c:Nat} {m q:Option aX×Nat} (o:Nat) (mq:Int->cv) (ho:o=7\/o=8) (X:∀n W j,dk w0 W B b c j ao l R m q->dk w0 (W.setCell (ab b o M) (J I n)) B b c j ao l (mq n) m q) (O:eK w0) (h:dk w0 w B b c i ao l R m q):aN aH 256 #[bl (ad (ab b 0 M)),bl (ad (ab b o M))] w λe w'=>(∃k:Int,e=aQ (J I k)/\a6 ((k≠0->dk w0 w' B b c i ao l R m q)/\(k=0->∃n,gm n=true/\dk w0 w' B b c (i+1) ao l (mq n) m q)))/\w.grownBy w' (ad b):=by
 have d:=E h;have HU:=E X;have cY:=E O;have HO:=E ho;have cK:=a8 h.lc.1 h.lc.2;clear h X O ho;go_enter func256,ntmps256;have g:=Gk 2 d.A;cases hk:eT l i 2 with
 |false=>
  rw[hk] at g;clear hk;go_wp2_with fail;refine g.ah ?_;rintro e y⟨rfl,Z⟩;replace d:=E (d.A.al Z);have H:=E Z;have K:=B4 d.A;clear g Z;go_wp2_with fail;refine K.ah ?_;rintro e wy⟨⟨k,rfl,V⟩,Z⟩;have G:=E (d.A.al Z);have gX:=E (bB (r:=b) (grown_of H.A) (grown_of Z));have F:=E (show k≠0 by simpa using V);clear K Z V;go_wp2;go_ret;exact⟨⟨k,rfl,E ⟨λ_=>G.A,λh=>ae h F.A⟩⟩,gX.A⟩
 |true=>
  rw[hk] at g;have x:=kZ hk;clear hk;obtain⟨S,off,rfl,U,q0,q1,q2,z⟩:=d.A.tk.tk d.A.b0.aC x;obtain⟨T,D⟩:=aP (l[i].s);rw[D] at z;simp only[D] at q2;have JI:=E z;clear q0 q1 z D;go_wp2_with fail;refine g.ah ?_;rintro e y⟨rfl,Z⟩;have t:=(Z.cell (p:=⟨S,off+i*3+2,M⟩) (da U d.A.b0.size)).trans q2;replace d:=E (d.A.al Z);have H:=E Z;have z0:=ba.cells d.A.box;have x2:=λp:ba y=>p.cell (a:=⟨S,off+i*3+2,M⟩) (da U (d.A.b0.size)) t;have Y:=E (λp:ba y=>aaK T p.aL (cY.A.rel (d.A.b0.trans p.r)) JI.A);have u:=E x;clear g Z q2 t;go_wp2_with fail;refine du (cU 0 11 (.c 11::(cU 12 5 []))) [] ?_;refine dY ?_;refine S4.dm ?_;rintro _⟨A,rfl⟩ KK aJ;go_simp;refine(Y.A A).ah ?_;rintro e wd⟨⟨n,k,rfl,HN⟩,Z⟩;have v:=E ((d.A.al A.aC).al Z.aC);have L:=E (bB (r:=b) (grown_of H.A) (bB (grown_of A.aC) (grown_of Z.aC)));refine aJ _ _ Z ?_;clear aJ KK Z z0 x2 Y;refine dY ?_;refine S4.nb λwq C=>?_;refine dP ?_;have f:=E (v.A.al C);have N:=E (bB L.A (grown_of C));clear C v L;by_cases hk:k=0;case neg=>
   have jv:(k !=0)=true:=aqk;have F:=E hk;clear hk;go_wp2;go_ret;exact⟨⟨k,rfl,E ⟨λ_=>f.A,λh=>ae h F.A⟩⟩,N.A⟩
  subst hk;have cM:=E (HU.A n _ _ f.A);have jS:=E (show gm n=true by have:=HN.A.1 rfl;simpa[gm] using this);have x:=u.A;have w1:I.wrap ((i:Int)+1)=(i:Int)+1:=ay;have f1:=f.A.box.frozen 1;have z1:=f.A.box.cell 1;clear x;rcases HO.A with ho|ho;all_goals
   subst ho;have⟨B6,f7⟩:=f.A.box.cf;go_wp2;go_ret;exact⟨⟨0,rfl,E ⟨λh=>ae rfl h,λ_=>⟨n,jS.A,cM.A.step (j:=i+1) u.A⟩⟩⟩,bB (bB N.A (bX f.A.box.lt _)) (bX (by simpa[eB] using f.A.box.lt) _)⟩
end Go.Proofs.YtbeaddlblpgppaaGreatDoor
