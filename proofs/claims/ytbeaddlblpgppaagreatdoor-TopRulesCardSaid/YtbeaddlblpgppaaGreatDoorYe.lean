/- Part 5 of the proof of TopRules (watchtowertop). Conditions: none. -/
import Derived.Test.YtbeaddlblpgppaaGreatDoorYd
set_option maxRecDepth 100000
set_option maxHeartbeats 8000000
set_option linter.unusedVariables false
set_option linter.unusedSimpArgs false
set_option linter.defProp false
open Go.Lib renaming hid->E,decDigits->qU
open Go.IntKind renaming i64->I,wrap_i64->b7
open Go.Value renaming int->J,slice->O,string->ap,bool->aG,agg->aY,pointer->bl,tuple->bn
open Option renaming none->M,some->ad
open Go.Addr renaming mk->ab
open Go renaming World->aB,Value->aE,Calls->aN,Addr->aX,TypeId->bf,results->bz,bodyPost_ret->bF,maxLen->bK,run_underlying->mf
open Go.Obj renaming cells->aD
open Go.Proofs.Tryz renaming prog->aH
open Nat renaming le_refl->aO,le_trans->a8,zero_le->bV,lt_of_lt_of_le->da,zero_add->ig,eq_zero_or_pos->kJ,ne_of_lt->mW,succ_mul->oA,mul_le_mul_right->sa
open Go.Ending renaming returned->aQ
open Go.RowKit renaming Below->aS,Hid->a6
open Go.RowKit.Below renaming refl->bk,heap_setCell->yv
open List renaming mem_singleton->bD,length_append->b2,getElem?_eq_getElem->cR,getD_eq_getElem?_getD->dd,getElem_mem->dl,mem_cons->ee,mem_map->hM,mem_append->kf,map_append->lK,size_toArray->lM,append_assoc->mV,length_drop->oy,length->oz,drop_eq_getElem_cons->pf,length_cons->pY,length_map->p6,length_singleton->p8,take_length->pZ,drop_length->qT,mem_iff_getElem->qV,map_cons->sd,pairwise_map->sf,getElem?_map->tJ,length_take->tH,pairwise_iff_getElem->yw,take_succ_eq_append_getElem->yz
open Bool renaming and_eq_true->b9,false_eq_true->tL
open Go.World renaming size_alloc->eO
open Exists renaming intro->lL
open Go.Instr renaming index->mX
open Go.Proofs.Tryz
namespace Go.Proofs.YtbeaddlblpgppaaGreatDoor
open Go.RowKit
variable {α:Type} {w:aB} {B g n base j cap:Nat} {P:Prop} {v u:aE} {L:aZ} {D:Kr α}
open bw
section
open im (dT)
def Rs.put {d:α} (hj:j<D.k):∀{l:List α} {us:List aE} (i:Nat) (hi:i<l.length),Rs D w B l us->(∀vs,D.rel w B l[i] vs->D.rel w B d (vs.set j u))->Rs D w B (l.set i d) (us.set (i*D.k+j) u):=by
 intro l us i hi h;induction h generalizing i with
 |nil=>simp at hi
 |@cons a l vs us h h' ih=>
  intro b;have c:=D.len h;cases i with
  |zero=>
   rw[Nat.zero_mul,ig,List.set_append_left _ _ an,List.set_cons_zero];exact .cons (b vs h) h'
  |succ i=>
   rw[List.set_append_right _ _ (by rw[c,oA];omega),List.set_cons_succ,show(i+1)*D.k+j-vs.length=i*D.k+j by rw[c,oA];omega];exact .cons h (ih i (am hi) (am b))
def Ow.store {l:List α} (h:Ow D w B base (O (ad (ab g 0 M)) n cap) l) {i j:Nat} (hi:i<l.length) (hj:j<D.k) (u:aE) (b:α) (hB:B<=base) (m:D.e∉D.bI) (hrel:∀vs,D.rel (w.setCell ⟨g,i*D.k+j,M⟩ u) B l[i] vs->D.rel (w.setCell ⟨g,i*D.k+j,M⟩ u) B b (vs.set j u)):Ow D (w.setCell ⟨g,i*D.k+j,M⟩ u) B base (O (ad (ab g 0 M)) n cap) (l.set i b):=by
 obtain⟨us,cur,rfl,e,Z,hg,hn,c,hs,a⟩:=h.tZ;have d:Kt B [D.e] w (w.setCell ⟨g,i*D.k+j,M⟩ u):=(Kt.refl B [D.e] w).setCell an ⟨_,_,hg⟩ (bD.2 rfl) u;have k:=e.keep d (λt a h=>by rw[bD.1 h] at a;exact m a);have f:(i+1)*D.k<=l.length*D.k:=sa _ hi;rw[oA] at f;have hh:(w.setCell ⟨g,i*D.k+j,M⟩ u).heap[g]?=ad (aD (cur.setIfInBounds (i*D.k+j) u) D.e (0,0)):=by
  rw[setCell_eq_setRow w g (i*D.k+j) cur D.e (0,0) u hg];exact setRow_heap w g cur _ D.e (0,0) hg
 have:=Ow.Bi (D:=D) (l:=l.set i b) (Rs.put hj i hi k hrel) Z hh (am hn) c (am hs) (by
  rw[List.length_set,Array.toList_setIfInBounds,List.take_set,a])
 simpa using this
theorem X5 (h:P:=by
 have eo:=E HE.A;obtain⟨v9,k,ci,rfl,m9,nT⟩:=hg;obtain⟨A9,c9,rfl,_⟩:=nT.be;have d1:(k !=0)=true:=by simp[ci]
 have HK:=E ci;clear ci;go_wp2;go_ret2;rw[eo.A];exact⟨⟨_,k,HK.A,rfl,_,HV.A.al dw.A.aC⟩,dw.A⟩;):P:=h
def X6 {vl:aE} {st:List cr} (T V:Int) (w:aB) (hB:B<=w.heap.size) (hs:Vs dO w B v st) (hl:Vs bE w B vl L):aN aH 73 #[v,vl,aY #[J I T,J I V]] w λe w'=>sB dO w' B e (ra st L (T,V))/\aF w w':=by
 have HE:=E (show ra st L (T,V)=(if qe L=false then M else match yT (if sq L (gS st)=true then sS (gS st) (ahead L (gS st)) else[]) (T,V) with|none=>M|some s=>if sq L (gS st)=true then ad ((gS st).set (ahead L (gS st)) ⟨sL (gS st) (ahead L (gS st)),s⟩) else if 32<=(gS st).length then M else ad ((gS st).take (ahead L (gS st))++⟨L,s⟩::(gS st).drop (ahead L (gS st)))) from rfl);have HV:=E (L7 hs);have HS:=E (Fb st);have HL:=E hl;have d:=E hB;have HC:=E (λK (Z:aS w.heap.size w K)=>XQ K (hs.al Z));generalize ra st L (T,V)=r at HE⊢;generalize(if eY st=true then v else O M 0 0)=u at*;generalize gS st=c at*;obtain⟨A0,c0,rfl,_⟩:=hs.len_;obtain⟨A2,c2,rfl,_⟩:=hl.be;obtain⟨ao,cap,rfl,hR,ij,y7⟩:=HV.A.be;have HR:=E hR;clear hs hl hR hB;have bR:=E ((aF.refl w).alloc (aD #[J I T,J I V] 65));have n:=aI.new w 65 #[J I T,J I V];go_enter func73,ntmps73;go_wp2_with fail;refine(HC.A _ bR.A.aC).ah ?_;rintro e K⟨rfl,Z⟩;have Q:=E (bR.A.trans Z);have cW:=E (n.al Z.aC n.lt);clear Z bR n HC;go_wp2_with fail;have F:=E (XN K (HL.A.al Q.A.aC));by_cases o:qe L=true;case neg=>
  rw[Bool.not_eq_true] at o;have eo:=E (show r=M by rw[HE.A,ag o]);rw[o] at F;refine F.A.ah ?_;rintro e w2⟨rfl,Z⟩;have l:=E (Q.A.trans Z);clear Z;go_wp2;go_ret2;rw[eo.A];exact⟨⟨_,7,aq,rfl,_,HV.A.al l.A.aC⟩,l.A⟩
 rw[af (by rw[o];decide)] at HE;rw[o] at F;refine F.A.ah ?_;rintro e w2⟨rfl,Z⟩;have l:=E (Q.A.trans Z);have QC:=E (cW.A.al Z.aC cW.A.lt);clear Z cW Q;have HF:=E (ag7 w2 (a8 d.A l.A.size) (HV.A.al l.A.aC) (HL.A.al l.A.aC) HS.A (Pz o));have S:=E (show sq L c=true->ahead L c<c.length fromλh=>by unfold sq at h;simp at h;exact h.1);have vA:=E (PA L c);clear o F;generalize ahead L c=i at*;generalize sq L c=there at*;go_wp2_with fail;refine HF.A.ah ?_;rintro e W⟨rfl,Z⟩;have q:=E (l.A.trans Z);have n:=QC.A.al Z.aC QC.A.lt;clear Z l QC HF;have g0:=n.cell;cases there;case true=>
  have H:=S.A rfl;obtain⟨b,off,A3,c3,A4,c4,rfl,cw,ft,dS,bZ,iK⟩:=HR.A.Fv q.A.aC H;have G:=E (XM T V W (a8 d.A q.A.size) iK);simp only[if_true] at HE;clear S;go_wp2_with fail;refine G.A.ah ?_;rintro e U⟨hg,Z⟩;have dw:=E (q.A.trans Z);have b5:=(vm.1 HS.A).1;clear Z q G g0 n;generalize X:yT (sS c i) (T,V)=lj at hg HE;cases lj with
  |none=>
   exact X5
  |some m=>
   have eo:=E HE.A;simp only at eo;obtain⟨v9,rfl,nT⟩:=hg;have t:=E nT;obtain⟨A9,c9,rfl,_⟩:=nT.be;clear nT X HE;have D:=E (XZ U (a8 d.A dw.A.size) (HV.A.al dw.A.aC) an);go_wp2_with fail;refine D.A.ah ?_;rintro e a⟨⟨v5,rfl,ho⟩,f⟩;have N:=E (dw.A.trans f);have Y:=E (t.A.al f.aC);have HO:=E ho;rcases ho.form with⟨rfl,h0⟩|⟨g,ahh,rfl,rf,rj,_,Mb⟩
   ·subst h0;simp at H
   obtain⟨aM,aR,_,_,_,fc,_⟩:=ho.tZ;obtain⟨A6,kS,fT,nU,_⟩:=ho.vs.be;cases fT;obtain⟨DG,aW,A7,c7,A8,kb,rl,e4,q8,PY,_,_⟩:=nU.Fv (bk _ a) H;cases rl;rw[ig] at q8 PY;have mB:a.frozen? ⟨g,i*2+1,M⟩=false:=by simp[World.frozen?,fc]
   have HG:=E rf;have HT:=E rj;have X7:=E H;have fp:=E dw.A.size;have aP:ahh<=9223372036854775807:=by simpa[bK] using Mb
   clear f dw ho rf rj fc nU D t ft dS bZ iK Mb;go_wp2;go_ret2;have cx:Kt B [112] a (a.setCell ⟨g,i*2+1,M⟩ (O A9 m.length c9)):=(Kt.refl B _ a).setCell (ak fp.A d.A HG.A) HT.A (bD.2 rfl) _;have il:=N.A.setCell (p:=⟨g,i*2+1,M⟩) (by show w.heap.size<=g;have:=HG.A;have:=fp.A;omega) (O A9 m.length c9);have bS:=HO.A.store (j:=1) X7.A aq (O A9 m.length c9) (⟨sL c i,m⟩:cr) (a8 d.A fp.A) IQ (by
    rintro vs⟨y0,y1,rfl,h0,h1⟩;exact⟨y0,_,rfl,by unfold sL;rw[dr X7.A];exact h0,Y.A.keep cx aq aq⟩)
   rw[eo.A];exact⟨⟨_,rfl,bS.vs⟩,il⟩
 case false=>
  have G:=E (XM T V W (a8 d.A q.A.size) (Vs.bh ja W B));simp only[tL,if_false] at HE;clear S;go_wp2_with fail;refine G.A.ah ?_;rintro e U⟨hg,Z⟩;have dw:=E (q.A.trans Z);have b5:=(vm.1 HS.A).1;clear Z q G g0 n;generalize X:yT [] (T,V)=lj at hg HE;cases lj with
  |none=>
   exact X5
  |some m=>
   have eo:=E HE.A;simp only at eo;obtain⟨v9,rfl,nT⟩:=hg;have t:=E nT;obtain⟨A9,c9,rfl,_⟩:=nT.be;clear nT X HE;have D:=E (XZ U (a8 d.A dw.A.size) (HV.A.al dw.A.aC) an);by_cases R:32<=c.length
   ·have aJ:decide ((32:Int)<=(c.length:Int))=true:=ac an;rw[ag R] at eo;clear R;go_wp2;go_ret2;rw[eo.A];exact⟨⟨_,10,aq,rfl,_,HV.A.al dw.A.aC⟩,dw.A⟩
   have aJ:decide ((32:Int)<=(c.length:Int))=false:=aa an;rw[af R] at eo;clear R;go_wp2_with fail;refine D.A.ah ?_;rintro e a⟨⟨v5,rfl,ho⟩,f⟩;have N:=E (dw.A.trans f);have Y:=E (t.A.al f.aC);have HI:=E (ahd (x:=⟨L,m⟩) (us:=[O A2 L.length c2,O A9 m.length c9]) (B:=B) i (a.alloc (aD #[O A2 L.length c2,O A9 m.length c9] 112)) vA.A (a8 d.A dw.A.size) (by rw[eO];have:=f.size;omega) (ho.alloc _) (aI.new a 112 #[O A2 L.length c2,O A9 m.length c9]) ⟨_,_,rfl,(HL.A.al N.A.aC).al ((bk _ _).alloc (aO _) _),Y.A.al ((bk _ _).alloc (aO _) _)⟩ (λg hg=>by have:=(ho.row g hg).2.lt;omega) an);have aK:=E dw;obtain⟨A6,kS,rfl,_⟩:=ho.vs.be;clear f ho D t;go_wp2_with fail;refine HI.A.ah ?_;rintro e w6⟨⟨yZ,rfl,QD⟩,e4⟩;have jM:=E (e4 w (N.A.alloc _) aK.A.A.size);have nV:=E QD.vs;obtain⟨A7,n7,c7,rfl,_⟩:=QD.vs.A;clear e4 QD;go_wp2;go_ret2;rw[eo.A];exact⟨⟨_,rfl,nV.A⟩,jM.A⟩
end
variable {ao:Option aX} {w' wr:aB} {B':Nat}
def oM (s:iZ) (k:Nat):ByteArray:=(s.aU.getD k default).n
def nW (s:iZ) (k:Nat):ByteArray:=(s.aU.getD k default).v
def ue (s:iZ) (k:Nat):Bool:=(s.aU.getD k default).neg
noncomputable def Bk (s:iZ) (k:Nat):Bool:=db (oM s k)&&decide ((nW s k).size<=64)
noncomputable def kT (s:iZ):Bool:=db s.n&&decide (s.aU.length<=8)&&cI s.aU.length (Bk s)
noncomputable def DI (l:aZ) (s:iZ) (k:Nat):Bool:=!(((((gD l (oM s k)).getD ⟨#[]⟩).toList==(nW s k).toList))==ue s k)
noncomputable def Fy (s:iZ) (l:aZ):Bool:=kT s&&bH l&&((gD l iH).isSome&&(((gD l iH).getD ⟨#[]⟩).toList==s.n.toList))&&cI s.aU.length (DI l s)
structure qi (w:aB) (B:Nat) (v:aE) (s:iZ):Prop where
 A:∃u,v=aY #[ap s.n,u]/\s.n.size<=9223372036854775807/\Vs jG w B u s.aU
def qi.al {s:iZ} (h:qi w B v s) (Z:aS w.heap.size w w'):qi w' B v s:=by
 obtain⟨u,e,a,h2⟩:=h.A;exact⟨u,e,a,h2.al Z⟩
def Rw.mt {s:iZ} (h:Rw jG w B ao n s.aU) (hB:aS w.heap.size w wr) {k:Nat} (a:k<s.aU.length):∃b off,ao=ad (ab b off M)/\b<w.heap.size/\wr.cell? ⟨b,off+k*3,M⟩=ad (ap (oM s k))/\wr.cell? ⟨b,off+k*3+1,M⟩=ad (ap (nW s k))/\wr.cell? ⟨b,off+k*3+2,M⟩=ad (aG (ue s k))/\(oM s k).size<=9223372036854775807/\(nW s k).size<=9223372036854775807:=by
 obtain⟨b,off,vs,e,Z,c,h2⟩:=h.aL hB a;rw[<-dr a] at c;obtain⟨rfl,d,h4⟩:=c;exact⟨b,off,e,Z,h2 0 _ rfl,h2 1 _ rfl,h2 2 _ rfl,d,h4⟩
theorem X8 (h:P:=by
 go_enter func37,ntmps37;go_wp2_with fail;refine(nn.A _).ah ?_;rintro e w1⟨rfl,rfl⟩;go_wp2;go_ret;exact⟨cc HS.A.symm,cW.A⟩;):P:=h
def QE {s:iZ} (w:aB) (h:qi w B v s):aN aH 37 #[v] w λe w'=>e=aQ (aG (kT s))/\aF w w':=by
 obtain⟨u,rfl,hn,j⟩:=h.A;obtain⟨ao,cap,rfl,m,D,F⟩:=j.be;have C:=E m;clear h j m;have cW:=E ((aF.refl w).alloc (aD #[ap s.n,O ao s.aU.length cap] 46));have HX:=E (aI.new w 46 #[ap s.n,O ao s.aU.length cap]);have nn:=E (λW=>mu s.n W hn);by_cases c1:db s.n=true;case neg=>
  rw[Bool.not_eq_true] at c1;have HS:=E (show kT s=false by unfold kT;rw[c1];rfl);rw[c1] at nn;exact X8
 rw[c1] at nn;by_cases g:s.aU.length<=8;case neg=>
  have HS:=E (show kT s=false by unfold kT;simp[g]);have g1:=HX.A.cell 1;exact X8
 have n:=E (λk (l:k<s.aU.length) (h:Bk s k=false)=>(show kT s=false by unfold kT;rw[tV l h,Bool.and_false]));have xb:=E (λ(h:cI s.aU.length (Bk s)=true)=>(show kT s=true by unfold kT;rw[h,c1];simp[g]));have y:=E (λk=>(show Bk s k=(db (oM s k)&&decide ((nW s k).size<=64)) from rfl));clear c1;have g1:=HX.A.cell 1;generalize kT s=r at n xb⊢;go_enter func37,ntmps37;go_wp2_with fail;refine(nn.A _).ah ?_;rintro e w1⟨rfl,rfl⟩;go_wp2;go_loopw [18] (λi wr=>∃k:Nat,k<=s.aU.length/\i=J I k/\a6 (cI k (Bk s)=true)/\aF w wr) (λi _=>s.aU.length-(intOf i).toNat);case atStart=>exact⟨0,an,rfl,E rfl,cW.A⟩
 case round=>
  clear g1;obtain⟨k,l,rfl,bj,hB⟩:=hrel;by_cases c:k<s.aU.length
  ·obtain⟨b,off,rfl,M,G,L,K,q,H⟩:=C.A.mt hB.aC c;have HK:=E (y.A k);have o:=E (n.A k c);have t:=E (λh=>wW bj.A (P:=Bk s) h);have a:=E (hB.alloc (aD #[ap (oM s k),ap (nW s k),aG (ue s k)] 126));have d:=E (λW=>mu (oM s k) W q);have aR:=E c;generalize db (oM s k)=x at*;cases x;case false=>
    have HS:=E (show r=false from o.A aqm);go_wp2_with fail;refine(d.A _).ah ?_;rintro e f⟨rfl,rfl⟩;go_wp2;go_ret;exact⟨cc HS.A.symm,a.A⟩
   by_cases c4:(nW s k).size<=64
   ·have p:=E (t.A (by rw[HK.A,ac c4];rfl));have A:decide ((64:Int)<((nW s k).size:Int))=false:=aa an;have z:decide (64<(nW s k).size)=false:=aa an;clear c4;go_wp2_with fail;refine(d.A _).ah ?_;rintro e f⟨rfl,rfl⟩;go_wp2;go_roundw;case rel=>exact⟨k+1,aR.A,by go_num,p,a.A⟩
    case measure=>exact ax
   ·have HS:=E (show r=false from o.A (by rw[HK.A,aa c4];rfl));have A:decide ((64:Int)<((nW s k).size:Int))=true:=ac an;have z:decide (64<(nW s k).size)=true:=ac an;clear c4;go_wp2_with fail;refine(d.A _).ah ?_;rintro e f⟨rfl,rfl⟩;go_wp2;go_ret;exact⟨cc HS.A.symm,a.A⟩
  ·obtain rfl:k=s.aU.length:=by omega
   exact Qb
theorem Fz (h:P:=by
 go_wp2;go_ret;exact⟨cc HR.A.symm,HB.A⟩;):P:=h
def ahk {vl:aE} {s:iZ} (w:aB) (h:qi w B v s) (y:Vs bE w B' vl L):aN aH 233 #[v,vl] w λe w'=>e=aQ (aG (Fy s L))/\aF w w':=by
 have R:=E (λc (Z:aS w.heap.size w c)=>QE c (h.al Z));have p:=E y;have a:=E (show Fy s L=(kT s&&bH L&&((gD L iH).isSome&&(((gD L iH).getD ⟨#[]⟩).toList==s.n.toList))&&cI s.aU.length (DI L s)) from rfl);obtain⟨u,rfl,hn,M⟩:=h.A;obtain⟨ao,cap,rfl,Q,Y,hc⟩:=M.be;obtain⟨A2,c2,rfl,_⟩:=y.be;have HP:=E Q;clear h M Q y;have g:=E ((aF.refl w).alloc (aD #[ap s.n,O ao s.aU.length cap] 46));have A:=aI.new w 46 #[ap s.n,O ao s.aU.length cap];have HX:=E A;have m:=E (R.A _ g.A.aC);have d:=A.cell;clear A R;generalize X:Fy s L=r at a⊢;generalize kT s=x1 at*;cases x1;case false=>
  have HR:=E (show r=false by rw[a.A];rfl);go_enter func233,ntmps233;go_wp2_with fail;refine m.A.ah ?_;rintro e c⟨rfl,Z⟩;have HB:=E (g.A.trans Z);clear Z;exact Fz
 by_cases l:bH L=true;case neg=>
  rw[Bool.not_eq_true] at l;have HR:=E (show r=false by rw[a.A,l];rfl);go_enter func233,ntmps233;go_wp2_with fail;refine m.A.ah ?_;rintro e c⟨rfl,Z⟩;have HB:=E (g.A.trans Z);have f:=HX.A.al Z.aC HX.A.lt;have o:=E (l▸Iy c (p.A.al HB.A.aC));clear Z g HX m d;go_wp2_with fail;refine o.A.ah ?_;rintro e H⟨rfl,Z⟩;have j:=f.al Z f.lt;replace HB:=E (HB.A.next Z);clear Z f o;have d:=j.cell;exact Fz
 rw[l] at a;have HF:=E (λk=>(show DI L s k=!(((((gD L (oM s k)).getD ⟨#[]⟩).toList==(nW s k).toList))==ue s k) from rfl));go_enter func233,ntmps233;go_wp2_with fail;refine m.A.ah ?_;rintro e c⟨rfl,Z⟩;have HB:=E (g.A.trans Z);have f:=HX.A.al Z.aC HX.A.lt;have o:=E (l▸Iy c (p.A.al HB.A.aC));clear Z g HX m d;go_wp2_with fail;refine o.A.ah ?_;rintro e H⟨rfl,Z⟩;have j:=f.al Z f.lt;replace HB:=E (HB.A.next Z);clear Z f o;have d:=j.cell;have G:=E (Fi iH H (p.A.al HB.A.aC));generalize(gD L iH).getD ⟨#[]⟩=QF at*;generalize(gD L iH).isSome=x3 at*;go_wp2_with fail;refine G.A.ah ?_;rintro e w3⟨rfl,Z⟩;have V:=j.al Z j.lt;replace HB:=E (HB.A.next Z);clear Z j G d;have d:=V.cell;cases x3;case false=>
  have HR:=E (show r=false by rw[a.A];rfl);exact Fz
 generalize q:(QF.toList==s.n.toList)=x4 at a;cases x4;case false=>
  have HR:=E (show r=false by rw[a.A];rfl);have T:(QF.toList !=s.n.toList)=true:=by rw[bne,q];rfl
  exact Fz
 have T:(QF.toList !=s.n.toList)=false:=by rw[bne,q];rfl
 have S:=E (show r=cI s.aU.length (DI L s) by rw[a.A];rfl);have gh:=E (λk (N:k<s.aU.length) (h:DI L s k=false)=>(show r=false by rw[S.A,tV N h]));clear a X V;go_wp2;clear d T q;go_loopw [35] (λi wr=>∃k:Nat,k<=s.aU.length/\i=J I k/\a6 (cI k (DI L s)=true)/\aF w wr) (λi _=>s.aU.length-(intOf i).toNat);case atStart=>exact⟨0,an,rfl,E rfl,HB.A⟩
 case round=>
  obtain⟨k,N,rfl,U,hB⟩:=hrel;by_cases C:k<s.aU.length
  ·obtain⟨b,off,rfl,cw,ft,dS,aJ,jr,fo⟩:=HP.A.mt hB.aC C;have n:=E (hB.alloc (aD #[ap (oM s k),ap (nW s k),aG (ue s k)] 126));have x:=E (aI.new wr 126 #[ap (oM s k),ap (nW s k),aG (ue s k)]);have HG:=E (Fi (oM s k) _ (p.A.al n.A.aC));have F:=E (HF.A k);have fI:=E (gh.A k C);have gG:=E (λh=>wW U.A (P:=DI L s) h);have aR:=E C;generalize(gD L (oM s k)).getD ⟨#[]⟩=y1 at*;generalize(gD L (oM s k)).isSome=y2 at*;go_wp2_with fail;refine HG.A.ah ?_;rintro e w4⟨rfl,Z⟩;replace n:=E (n.A.next Z);have K:=x.A.al Z x.A.lt;have g1:=K.cell;clear Z x K;obtain⟨z,W⟩:=aP ((y1.toList==(nW s k).toList));rw[W] at F;generalize ue s k=z2 at*;by_cases D:(z==z2)=true
   ·have HR:=E (show r=false from fI.A (by rw[F.A,D];rfl));replace HB:=n;exact Fz
   ·have t:(z==z2)=false:=by simpa using D
    have HN:=E (gG.A (by rw[F.A,t];rfl));clear D;go_wp2;go_roundw;case rel=>exact⟨k+1,aR.A,by go_num,HN,n.A⟩
    case measure=>exact ax
  ·obtain rfl:k=s.aU.length:=by omega
   have HR:=E (show r=true by rw[S.A];exact U.A);replace HB:=E hB;exact Fz
variable {β:Type} {k:Nat}
def QH:(aH.info? 286).map (λi=>(i.zero,i.size,i.bytes))=ad (ad (aY #[O M 0 0,J I 0,J I 0]),3,40):=ar
def QI:kN.e∉kN.bI:=aq
def ahl (f:α->Option β) {l:List α} {k:Nat} (a:k<l.length) (aT:List β):aT++(l.drop k).filterMap f=(match f l[k] with|none=>aT|some b=>aT++[b])++(l.drop (k+1)).filterMap f:=by
 rw[pf a,List.filterMap_cons];split<;>simp_all
def ahm {l:List cr} (h:k<l.length):l[k]=⟨sL l k,sS l k⟩:=by unfold sL sS;rw[dr h]
noncomputable def Bl (s:iZ) (t wd:Int) (y:cr):Option cJ:=if Fy s y.L=true then(AQ y.S t wd).map (λx=>⟨y.L,x⟩) else M
noncomputable def zg (st:List cr) (s:iZ) (t wd:Int):List cJ:=(gS st).filterMap (Bl s t wd)
theorem X9 (h:P:=by
 go_roundw;case rel=>exact⟨k+1,_,aR.A,aw,by go_num,HE,dw.A.grown gH.A (aO _) kj,bC⟩
 case measure=>exact ax
 ):P:=h
theorem Ya (h:P:=by
 have HE:=E (show r=aT by rw[<-bj.A,qT];simp);go_wp2;go_ret;exact⟨⟨_,rfl,HE.A▸bc.less bm.A.size⟩,bm.A.trans dI⟩;):P:=h
def ahn {vs:aE} {st:List cr} {s:iZ} (t f:Int) (w:aB) (hB:B<=w.heap.size) (Fq:-9223372036854775808<=t/\t<=9007199254740992) (h:Vs dO w B v st) (C:qi w B vs s):aN aH 191 #[v,vs,J I t,J I f] w λe w'=>(∃R,e=aQ R/\Ow kN w' B w.heap.size R (zg st s t f))/\aF w w':=by
 have HV:=E (L7 h);have HC:=E (λm (Z:aS w.heap.size w m)=>XQ m (h.al Z));have HR:=E (show zg st s t f=(gS st).filterMap (Bl s t f) from rfl);have HS:=E (Fb st);generalize zg st s t f=r at HR⊢;generalize(if eY st=true then v else O M 0 0)=u at*;generalize gS st=c at*;obtain⟨A0,c0,rfl,_⟩:=h.len_;obtain⟨ao,cap,rfl,xh,ij,y7⟩:=HV.A.be;have HP:=E xh;have aP:=E C;have Bm:=E (λW L vl B' (Z:aS w.heap.size w W) (hl:Vs bE W B' vl L)=>ahk W (C.al Z) hl);obtain⟨us,rfl,hn,hu⟩:=C.A;obtain⟨FC,cs,rfl,_⟩:=hu.be;have aW:=(vm.1 HS.A).1;have aJ:=E Fq;have di:=E hB;clear h C hu xh HV HS Fq hB;have bR:=E ((aF.refl w).alloc (aD #[ap s.n,O FC s.aU.length cs] 46));have T:=aI.new w 46 #[ap s.n,O FC s.aU.length cs];go_enter func191,ntmps191;go_wp2_with fail;refine(HC.A _ bR.A.aC).ah ?_;rintro e m⟨rfl,Z⟩;have bm:=E (bR.A.trans Z);have HX:=E (T.al Z.aC T.lt);clear Z bR T HC;go_wp2;go_loopw [9,17] (λa i wr=>∃(k:Nat) (aT:List cJ),k<=c.length/\aT.length<=k/\i=J I k/\a6 (aT++(c.drop k).filterMap (Bl s t f)=r)/\aF m wr/\Ow kN wr B m.heap.size a aT) (λ_ i _=>c.length-(intOf i).toNat);case atStart=>exact⟨0,[],an,aO _,rfl,E HR.A.symm,aF.refl _,Ow.bh _ _ _ _⟩
 case round=>
  obtain⟨k,aT,hk,Iz,rfl,bj,dI,bc⟩:=hrel;by_cases Q:k<c.length
  ·obtain⟨b,off,g,c3,A4,c4,rfl,cw,ft,dS,Y,iK⟩:=HP.A.Fv (bm.A.trans dI).aC Q;have n:=E (ahl (Bl s t f) Q aT);rw[bj.A,ahm Q] at n;have l:=E (show Bl s t f ⟨sL c k,sS c k⟩=if Fy s (sL c k)=true then(AQ (sS c k) t f).map (λx=>⟨sL c k,x⟩) else M from rfl);have X:=E bc;have H:=E (dI.alloc (aD #[O g (sL c k).length c3,O A4 (sS c k).length c4] 112));have q:=aI.new wr 112 #[O g (sL c k).length c3,O A4 (sS c k).length c4];have F:=(bk wr.heap.size wr).alloc (aO _) (aD #[O g (sL c k).length c3,O A4 (sS c k).length c4] 112);have Yb:=HX.A.al H.A.aC HX.A.lt;have A:=E (Bm.A _ _ _ _ (bm.A.trans H.A).aC (Y.al F));have QJ:=E (Y.al F);have rm:=E (iK.al F);have U:=Yb.cell;have g2:=q.cell 0;have aR:=E Q;replace q:=E q;clear bc Yb F dI Y iK;by_cases z:Fy s (sL c k)=true;case neg=>
    rw[Bool.not_eq_true] at z;rw[z] at A l;have HE:=E (show aT++(c.drop (k+1)).filterMap (Bl s t f)=r by rw[n.A,l.A];rfl);clear z n l;go_wp2_with fail;refine A.A.ah ?_;rintro e o⟨rfl,Z⟩;have K:=E (H.A.trans Z);have D:=E ((X.A.alloc (aD #[O g (sL c k).length c3,O A4 (sS c k).length c4] 112)).al Z.aC);clear Z;go_wp2;go_roundw;case rel=>exact⟨k+1,aT,aR.A,an,by go_num,HE,K.A,D.A⟩
    case measure=>exact ax
   rw[z] at A l;clear z;go_wp2_with fail;refine A.A.ah ?_;rintro e o⟨rfl,Z⟩;have K:=E (H.A.trans Z);have D:=E ((X.A.alloc (aD #[O g (sL c k).length c3,O A4 (sS c k).length c4] 112)).al Z.aC);have p:=q.A.al Z.aC q.A.lt;have y:=E (agZ t f o aJ.A (rm.A.al Z.aC));have lq:=E (QJ.A.al Z.aC);have U:=p.cell;clear Z q A QJ rm X;replace p:=E p;cases G:AQ (sS c k) t f with
   |none=>
    rw[G] at y l;have HE:=E (show aT++(c.drop (k+1)).filterMap (Bl s t f)=r by rw[n.A,l.A];rfl);have S:=E (show aN aH 234 #[O A4 (sS c k).length c4,J I t,J I f] o λe w'=>e=aQ (bn #[aY #[J I 0,J I 0],aG false])/\aF o w' from y.A);clear G n l y;go_wp2_with fail;refine S.A.ah ?_;rintro e j⟨rfl,Z⟩;have N:=E ((K.A.trans Z).alloc (aD #[J I 0,J I 0] 65));have V:=E ((D.A.al Z.aC).alloc (aD #[J I 0,J I 0] 65));clear Z;go_wp2;go_roundw;case rel=>exact⟨k+1,aT,aR.A,an,by go_num,HE,N.A,V.A⟩
    case measure=>exact ax
   |some x=>
    obtain⟨d,x2⟩:=x;rw[G] at y l;have HE:=E (show(aT++[(⟨sL c k,(d,x2)⟩:cJ)])++(c.drop (k+1)).filterMap (Bl s t f)=r by rw[n.A,l.A];rfl);have S:=E (show aN aH 234 #[O A4 (sS c k).length c4,J I t,J I f] o λe w'=>e=aQ (bn #[aY #[J I d,J I x2],aG true])/\aF o w' from y.A);clear G n l y;go_wp2_with fail;refine S.A.ah ?_;rintro e j⟨rfl,Z⟩;have N:=E ((K.A.trans Z).alloc (aD #[J I d,J I x2] 65));have V:=E ((D.A.al Z.aC).alloc (aD #[J I d,J I x2] 65));have I1:=E ((lq.A.al Z.aC).al ((bk _ _).alloc (aO _) (aD #[J I d,J I x2] 65)));have Yc:=(p.A.al Z.aC p.A.lt).alloc (aD #[J I d,J I x2] 65);have dt:=E (show(aT.length+1)*40<=140737488355328 by have:=aR.A;omega);have Yd:=E (show w.heap.size<=(j.alloc (aD #[J I d,J I x2] 65)).heap.size from(bm.A.trans N.A).size);have aM:=E bm.A.size;have U:=Yc.cell 0;simp at U;have AL:=aI.new j 65 #[J I d,J I x2];have k0:=AL.cell;clear Z p Yc AL;have DK:=E (show Sl ((j.alloc (aD #[J I d,J I x2] 65)).alloc (aD #[O g (sL c k).length c3,J I d,J I x2] 286)) (j.heap.size+2) (ad ⟨j.heap.size+1,0,M⟩) (1*kN.k) (λi=>[O g (sL c k).length c3,J I d,J I x2].getD i (aG false)) by
     have:=Sl.lit (j.alloc (aD #[J I d,J I x2] 65)) 286 [O g (sL c k).length c3,J I d,J I x2] (1*kN.k) rfl;rw[eO] at this;exact this)
    have fp:=E (show Rs kN ((j.alloc (aD #[J I d,J I x2] 65)).alloc (aD #[O g (sL c k).length c3,J I d,J I x2] 286)) B [⟨sL c k,(d,x2)⟩] [O g (sL c k).length c3,J I d,J I x2] from Rs.single ⟨_,rfl,I1.A.al ((bk _ _).alloc (aO _) _)⟩);have gH:=E (V.A.alloc (aD #[O g (sL c k).length c3,J I d,J I x2] 286));have dw:=E (N.A.alloc (aD #[O g (sL c k).length c3,J I d,J I x2] 286));have py:=E (show aT.length+1<=bK/\m.heap.size<=((j.alloc (aD #[J I d,J I x2] 65)).alloc (aD #[O g (sL c k).length c3,J I d,J I x2] 286)).heap.size from⟨by simp only[bK];have:=dt.A;omega,dw.A.size⟩);have lr:=E (a8 di.A bm.A.size);go_wp2_with ((refine mZ kN au (.tmp 35) (.tmp 40) 241 au m.heap.size 40 _ ar QH au B _ aT au gH.A (ad ⟨j.heap.size+1,0,M⟩) 1 1 [⟨sL c k,(d,x2)⟩] [O g (sL c k).length c3,J I d,J I x2] au fp.A rfl (j.heap.size+2) DK.A py.A.1 dt.A py.A.2 lr.A QI ?_;intro R w' bC kj eZ));exact X9
  ·obtain rfl:k=c.length:=by omega
   exact Ya
section
open im (dT fe)
instance:Inhabited b8:=⟨⟨[],im.none_,0,0⟩⟩
def cX (x:List b8) (k:Nat):aZ:=(x.getD k default).L
def dx (x:List b8) (k:Nat):im.Hd:=(x.getD k default).h
def gl (x:List b8) (k:Nat):Int:=(x.getD k default).st
def oO (x:List b8) (k:Nat):Int:=(x.getD k default).v
noncomputable def sK (x:List b8) (k:Nat):Bool:=bH (cX x k)&&fe (dx x k)&&(decide (0<=gl x k)&&decide (gl x k<=2))&&(k==0||decide (cmpL (cX x (k-1)) (cX x k)<0))
noncomputable def fY (x:cy):Bool:=decide (x.ao.length<=16)&&(decide (0<=x.full)&&decide (x.full<=9007199254740992))&&cI x.ao.length (sK x.ao)
def jN:cy:=⟨[],0⟩
noncomputable def dQ (x:cy):cy:=if fY x=true then x else jN
def jO (x:List b8):List b8:=x.filter (λa=>!decide (a.st=0))
structure nX (w:aB) (B:Nat) (v:aE) (x:cy):Prop where
 A:∃u,v=aY #[u,J I x.full]/\Vs dV w B u x.ao
def nX.al {s:cy} (h:nX w B v s) (Z:aS w.heap.size w w'):nX w' B v s:=by
 obtain⟨u,e,a⟩:=h.A;exact⟨u,e,a.al Z⟩
def Rw.jP {l:List b8} (h:Rw dV w B ao n l) (hB:aS w.heap.size w wr) {k:Nat} (a:k<l.length):∃b off A0 c0,ao=ad (ab b off M)/\b<w.heap.size/\wr.cell? ⟨b,off+k*7,M⟩=ad (O A0 (cX l k).length c0)/\wr.cell? ⟨b,off+k*7+1,M⟩=ad (aG (dx l k).on)/\wr.cell? ⟨b,off+k*7+2,M⟩=ad (J I (dx l k).dB)/\wr.cell? ⟨b,off+k*7+3,M⟩=ad (aG (dx l k).hit)/\wr.cell? ⟨b,off+k*7+4,M⟩=ad (J I (dx l k).eW)/\wr.cell? ⟨b,off+k*7+5,M⟩=ad (J I (gl l k))/\wr.cell? ⟨b,off+k*7+6,M⟩=ad (J I (oO l k))/\Vs bE wr B (O A0 (cX l k).length c0) (cX l k):=by
 obtain⟨b,off,vs,e,Z,d,h2⟩:=h.aL hB a;rw[<-dr a] at d;obtain⟨v0,rfl,c⟩:=d;obtain⟨A0,c0,rfl,_⟩:=c.be;exact⟨b,off,A0,c0,e,Z,h2 0 _ rfl,h2 1 _ rfl,h2 2 _ rfl,h2 3 _ rfl,h2 4 _ rfl,h2 5 _ rfl,h2 6 _ rfl,c⟩
theorem QR (h:P:=by
 repeat (
  refine S4.step (λKK aJ=>?_);go_simp;first
   |(refine aJ _ ?_;clear aJ KK)
   |(apply lL;refine⟨λ_=>?_,aJ _ ?_⟩;(with_reducible exact aN.seq (CC.A _));clear aJ KK))
 refine S4.nb λwq hq=>?_;refine dP ?_;go_wp2;go_roundw;case rel=>exact⟨k+1,aR.A,by go_num,HN,bL.A.next hq⟩
 case measure=>exact ax
 ):P:=h
theorem QT (h:P:=by
 refine dY ?_;refine S4.nb λwq hq=>?_;refine dP ?_;go_wp2;go_roundw;case rel=>exact⟨k+1,aR.A,by go_num,HN,bL.A.next hq⟩
 case measure=>exact ax
 ):P:=h
theorem QU (h:P:=by
 go_enter func46,ntmps46;go_wp2;go_ret;exact⟨cc HS.A.symm,cW.A⟩;):P:=h
theorem I5 (h:P:=by
 go_wp2;go_ret;exact⟨cc HS.A.symm,cW.A.trans bL.A⟩;):P:=h
def QW {x:cy} (w:aB) (h:nX w B v x):aN aH 46 #[v] w λe w'=>e=aQ (aG (fY x))/\aF w w':=by
 obtain⟨u,rfl,D⟩:=h.A;obtain⟨ao,cap,rfl,G,hl,hc⟩:=D.be;have V:=E G;clear h D G;have cW:=E ((aF.refl w).alloc (aD #[O ao x.ao.length cap,J I x.full] 56));have HX:=E (aI.new w 56 #[O ao x.ao.length cap,J I x.full]);have d:=E (show fY x=(decide (x.ao.length<=16)&&(decide (0<=x.full)&&decide (x.full<=9007199254740992))&&cI x.ao.length (sK x.ao)) from rfl);have dv:=E (λk=>(show sK x.ao k=(bH (cX x.ao k)&&fe (dx x.ao k)&&(decide (0<=gl x.ao k)&&decide (gl x.ao k<=2))&&(k==0||decide (cmpL (cX x.ao (k-1)) (cX x.ao k)<0))) from rfl));generalize fY x=r at d⊢;obtain⟨a,full⟩:=x;dsimp only at*;have g0:=HX.A.cell;by_cases L:a.length<=16;case neg=>
  have HS:=E (show r=false by rw[d.A];simp[L]);exact QU
 by_cases S:0<=full;case neg=>
  have HS:=E (show r=false by rw[d.A];simp[S]);exact QU
 by_cases T:full<=9007199254740992;case neg=>
  have HS:=E (show r=false by rw[d.A];simp[T]);exact QU
 have K:=E (show r=cI a.length (sK a) by rw[d.A];simp[L,S,T]);have gh:=E (λk (F:k<a.length) (h:sK a k=false)=>(show r=false by rw[K.A,tV F h]));clear d;go_enter func46,ntmps46;go_wp2;clear g0;go_loopw [22] (λi wr=>∃k:Nat,k<=a.length/\i=J I k/\a6 (cI k (sK a)=true)/\aF (w.alloc (aD #[O ao a.length cap,J I full] 56)) wr) (λi _=>a.length-(intOf i).toNat);case atStart=>exact⟨0,an,rfl,E rfl,aF.refl _⟩
 case round=>
  obtain⟨k,F,rfl,N,hB⟩:=hrel;by_cases n:k<a.length
  ·obtain⟨b,off,A0,c0,rfl,cw,y0,y1,y2,y3,y4,y5,y6,s⟩:=V.A.jP (cW.A.trans hB).aC n;have HK:=E (dv.A k);have f:=E (gh.A k n);have H:=E (λh=>wW N.A (P:=sK a) h);have aR:=E n;have q:=E (hB.alloc (aD #[O A0 (cX a k).length c0,aG (dx a k).on,J I (dx a k).dB,aG (dx a k).hit,J I (dx a k).eW,J I (gl a k),J I (oO a k)] 62));have hq:=aI.new wr 62 #[O A0 (cX a k).length c0,aG (dx a k).on,J I (dx a k).dB,aG (dx a k).hit,J I (dx a k).eW,J I (gl a k),J I (oO a k)];have o:=(bk wr.heap.size wr).alloc (aO _) (aD #[O A0 (cX a k).length c0,aG (dx a k).on,J I (dx a k).dB,aG (dx a k).hit,J I (dx a k).eW,J I (gl a k),J I (oO a k)] 62);have m:=E (Iy _ (s.al o));have z:=E (s.al o);have g:=E (λW=>QK (dx a k).on (dx a k).dB (dx a k).hit (dx a k).eW W);have t:=E hq;clear s o hq n;generalize dS:bH (cX a k)=x1 at m HK;replace g:=E (show∀W,aN aH 65 #[aY #[aG (dx a k).on,J I (dx a k).dB,aG (dx a k).hit,J I (dx a k).eW]] W λe w'=>e=aQ (aG (fe (dx a k)))/\aS W.heap.size W w' from g.A);generalize fb:fe (dx a k)=x2 at g HK;clear dS fb;cases x1;case false=>
    have HS:=E (show r=false from f.A aqm);go_wp2_with fail;refine m.A.ah ?_;rintro e Y⟨rfl,Z⟩;have bL:=E (q.A.next Z);clear Z;exact I5
   go_wp2_with fail;refine m.A.ah ?_;rintro e Y⟨rfl,Z⟩;have bL:=E (q.A.next Z);have q1:=t.A.al Z t.A.lt;have U:=E (z.A.al Z);clear Z m z t q;have g1:=q1.cell;go_wp2_with fail;refine(g.A _).ah ?_;rintro e l⟨rfl,Z⟩;replace bL:=E (bL.A.next Z);have q2:=q1.al Z q1.lt;have IM:=E (U.A.al Z);clear Z g U g1 q1;cases x2;case false=>
    have HS:=E (show r=false from f.A aqm);exact I5
   have g5:=q2.cell 5;by_cases s0:0<=gl a k;case neg=>
    have HS:=E (show r=false from f.A (by rw[HK.A,aa s0];rfl));have d0:decide (gl a k<0)=true:=ac an;generalize gl a k=sx at*;exact I5
   by_cases s1:gl a k<=2;case neg=>
    have HS:=E (show r=false from f.A aqZ);have d0:decide (gl a k<0)=false:=aa an;have d1:decide (2<gl a k)=true:=ac an;generalize gl a k=sx at*;exact I5
   have c:=E (show sK a k=(k==0||decide (cmpL (cX a (k-1)) (cX a k)<0)) by rw[HK.A,ac s0,ac s1];rfl);have d0:decide (gl a k<0)=false:=aa an;have d1:decide (2<gl a k)=false:=aa an;have R:=HX.A.al bL.A.aC HX.A.lt;have z1:∀p:ba l,p.aL.cell? (ab wr.heap.size 0 M)=ad (O A0 (cX a k).length c0):=ba.cells q2 0;have z2:∀p:ba l,p.aL.cell? (ab w.heap.size 0 M)=ad (O (ad (ab b off M)) a.length cap):=ba.cells R 0;clear HK s0 s1 q2 R;generalize gl a k=sx at*;go_wp2_with fail;clear d0 d1 g5;by_cases c3:k=0;case pos=>
    have HN:=E (H.A (by rw[c.A,c3];rfl));have jD:decide (0<k)=false:=aa an;clear c3;refine du (cU 0 15 []) [] ?_;exact QT
   obtain⟨j,hj⟩:=aP (k-1);have jD:0<k:=an;have sk:j<a.length:=ai aR.A;have eV:I.wrap (j:Int)=(j:Int):=ay;have q7:(k:Int)-1=(j:Int):=an;obtain⟨b',tP,Fw,DA,e',LR,X,_,_,_,_,_,_,y⟩:=V.A.jP (cW.A.trans bL.A).aC sk;cases e';have z0:=λp:ba l=>p.cell (by have:=(cW.A.trans bL.A).size;show b<_;omega) X;have CC:=E (λp:ba l=>LK p.aL (y.al p.aC) (IM.A.al p.aC));rw[hj] at c;have C:(k==0)=false:=aw;rw[C] at c;clear hj X C y;by_cases c4:cmpL (cX a j) (cX a k)<0
   ·have HN:=E (H.A (by rw[c.A,ac c4];rfl));have c5:decide (0<=cmpL (cX a j) (cX a k))=false:=aa an;clear c4 c;generalize cmpL (cX a j) (cX a k)=tY at*;refine du (cU 0 15 []) [] ?_;exact QR
   ·have HS:=E (show r=false from f.A (by rw[c.A,aa c4];rfl));have c5:decide (0<=cmpL (cX a j) (cX a k))=true:=ac an;clear c4 c;generalize cmpL (cX a j) (cX a k)=tY at*;refine du (cU 0 15 []) [] ?_;repeat (
     refine S4.step (λKK aJ=>?_);go_simp;first
      |(refine aJ _ ?_;clear aJ KK)
      |(apply lL;refine⟨λ_=>?_,aJ _ ?_⟩;(with_reducible exact aN.seq (CC.A _));clear aJ KK))
    refine S4.nb λwq hq=>?_;refine dP ?_;go_wp2;replace bL:=E (bL.A.next hq);exact I5
  ·obtain rfl:k=a.length:=by omega
   have HS:=E (show r=true by rw[K.A];exact N.A);go_wp2;go_ret;exact⟨cc HS.A.symm,cW.A.trans hB⟩
end
variable {wait:Int} {f:cJ} {there:List (aZ×cJ)}
section
open im (dT fe pv aL gone none_)
def QX (c:α->α->Int) (x:α):∀l:List α,(ins c x l).Perm (x::l)
 |[]=>.refl _
 |y::l=>by
  unfold ins
  split
  ·exact .refl _
  ·exact((QX c x l).cons y).trans (.swap x y l)
def Mh (c:α->α->Int):∀l:List α,(oB c l).Perm l
 |[]=>.refl _
 |y::l=>(QX c y (oB c l)).trans ((Mh c l).cons y)
def Yp {o:β->β->Int} (ho:fS o) (f:α->β) (x:α):∀{l:List α},(l.Pairwise λx y=>¬o (f y) (f x)<0)->(ins (λx y=>o (f x) (f y)) x l).Pairwise λx y=>¬o (f y) (f x)<0
 |[],_=>by simp[ins]
 |y::l,h=>by
  have d:=List.pairwise_cons.1 h
  unfold ins
  split
  ·rename_i b;refine List.pairwise_cons.2 ⟨λz a=>?_,h⟩;rcases ee.1 a with rfl|a
   ·exact ho.asymm b
   ·intro c;exact d.1 z a (ho.trans c b)
  ·rename_i b;refine List.pairwise_cons.2 ⟨λz a=>?_,Yp ho f x d.2⟩;rcases ee.1 ((QX _ x l).mem_iff.1 a) with rfl|a
   ·exact b
   ·exact d.1 z a
def QY {o:β->β->Int} (ho:fS o) (f:α->β):∀l:List α,(oB (λx y=>o (f x) (f y)) l).Pairwise λx y=>¬o (f y) (f x)<0
 |[]=>List.Pairwise.nil
 |y::l=>Yp ho f y (QY ho f l)
def ahu {o:β->β->Int} (ho:fS o) (f:α->β) {l m:List α} (g:l.Perm m) (hn:(l.map f).Nodup) (k:l.Pairwise λx y=>¬o (f y) (f x)<0) (j:m.Pairwise λx y=>¬o (f y) (f x)<0):l=m:=by
 refine List.Perm.eq_of_pairwise (λa b d Z n h2=>?_) k j g;have e:f a=f b:=by
  rcases ho.AG (f a) (f b) with h|h|h
  ·exact ae h h2
  ·exact h
  ·exact ae h n
 have c:=g.mem_iff.2 Z;have:∀{l:List α},(l.map f).Nodup->a∈l->b∈l->a=b:=by
  intro l;induction l with
  |nil=>intro _ h;cases h
  |cons z l i=>
   intro hn d Z;rw[sd,List.nodup_cons] at hn;rcases ee.1 d with qX|E2
   ·rcases ee.1 Z with QZ|c
    ·rw[qX,QZ]
    ·exact ae (hM.2 ⟨b,c,by rw[<-e,qX]⟩) hn.1
   ·rcases ee.1 Z with QZ|c
    ·exact ae (hM.2 ⟨a,E2,by rw[e,QZ]⟩) hn.1
    ·exact i hn.2 E2 c
 exact this hn d c
def kU (s:ByteArray):List UInt8:=qU s.size++32::s.data.toList
def DM (p:ByteArray×ByteArray):List UInt8:=kU p.1++kU p.2
def iN (L:aZ):List UInt8:=L.flatMap DM
def sM (L:aZ):ByteArray:=⟨(iN L).toArray⟩
def Mi:∀i,i<100->((qU i).foldl (λn d=>n*10+(d.toNat-48)) 0=i/\(32:UInt8)∉qU i):=by
 intro i hi;by_cases h:i<10
 ·rw[Lib.decDigits_one h];revert h;clear hi;revert i;decide
 ·rw[Lib.decDigits_two h hi];revert hi;clear h;revert i;decide
def Yq:∀{a b r s:List UInt8},(32:UInt8)∉a->(32:UInt8)∉b->a++32::r=b++32::s->a=b/\r=s
 |[],[],r,s,_,_,h=>⟨rfl,am h⟩
 |[],y::b,r,s,_,Z,h=>by simp at h;exact ae h.1 (λe=>Z (by simp[<-e]))
 |x::a,[],r,s,ha,_,h=>by simp at h;exact ae h.1.symm (λe=>ha (by simp[e]))
 |x::a,y::b,r,s,ha,Z,h=>by
  simp at h
  obtain⟨c,h2⟩:=Yq (a:=a) (b:=b) (λh=>ha (by simp[h])) (λh=>Z (by simp[h])) h.2
  exact⟨by rw[h.1,c],h2⟩
def Yr {a b:ByteArray} {r s:List UInt8} (c:a.size<100) (Z:b.size<100) (h:kU a++r=kU b++s):a=b/\r=s:=by
 unfold kU at h;rw[mV,mV,List.cons_append,List.cons_append] at h;obtain⟨f,h2⟩:=Yq (Mi _ c).2 (Mi _ Z).2 h;have hs:a.size=b.size:=by rw[<-(Mi _ c).1,f,(Mi _ Z).1]
 have d:a.data.toList.length=b.data.toList.length:=am hs;obtain⟨e,h4⟩:=List.append_inj h2 d;refine⟨?_,h4⟩;cases a;cases b;simp only[ByteArray.mk.injEq] at*;exact Array.toList_inj.1 e
def Ys:∀{a b:aZ},(∀p∈a,p.1.size<100/\p.2.size<100)->(∀p∈b,p.1.size<100/\p.2.size<100)->iN a=iN b->a=b
 |[],[],_,_,_=>rfl
 |[],q::b,_,_,h=>by
  exfalso
  have:=congrArg oz h
  simp[iN,DM,kU] at this
 |p::a,[],_,_,h=>by
  exfalso
  have:=congrArg oz h
  simp[iN,DM,kU] at this
 |p::a,q::b,ha,Z,h=>by
  have g:iN (p::a)=kU p.1++(kU p.2++iN a):=by simp[iN,DM]
  have f:iN (q::b)=kU q.1++(kU q.2++iN b):=by simp[iN,DM]
  rw[g,f] at h
  obtain⟨e,h2⟩:=Yr (ha p av).1 (Z q av).1 h
  obtain⟨d,h4⟩:=Yr (ha p av).2 (Z q av).2 h2
  rw[Ys (λx c=>ha x (by simp[c])) (λx c=>Z x (by simp[c])) h4,Prod.ext e d]
def Mj (h:bH L=true):∀p∈L,p.1.size<100/\p.2.size<100:=λp a=>by
 have b:=((nN.1 h).2.1 p a);exact⟨ai b.1.2.1,an⟩
def ahv {a b:aZ} (c:bH a=true) (Z:bH b=true) (h:sM a=sM b):a=b:=by
 refine Ys (Mj c) (Mj Z) ?_;have:=congrArg (λx:ByteArray=>x.data.toList) h;simpa[sM] using this
instance (l:aZ) (ls:List aZ):Decidable (l∈ls):=decidable_of_iff (ls.any (λy=>decide (y=l))=true) (by simp)
noncomputable def pB (A:List cJ) (f:cJ):List cJ:=if bH f.L=true/\f.L∉A.map (·.L) then A++[f] else A
noncomputable def lW (l:List cJ):List cJ:=l.foldl pB []
def it (l:List cJ):List (aZ×cJ):=l.map λf=>(f.L,f)
def FE (there:List (aZ×cJ)) (t wait keep:Int) (a:b8):b8:=⟨a.L,pv a.h (gF there a.L).isSome t wait,aL (pv a.h (gF there a.L).isSome t wait) t keep,(match gF there a.L with|some f=>f.x.2|none=>a.v)⟩
def kr (there:List (aZ×cJ)) (t wait keep:Int) (m:List (aZ×b8)) (a:b8):List (aZ×b8):=if gone (FE there t wait keep a).h t keep=true then jI (eF m a.L (FE there t wait keep a)) a.L else eF m a.L (FE there t wait keep a)
def FF (t wait keep:Int) (f:cJ):b8:=⟨f.L,pv none_ true t wait,aL (pv none_ true t wait) t keep,f.x.2⟩
def fx (t wait keep:Int) (s:List (aZ×b8)×Int) (f:cJ):List (aZ×b8)×Int:=if(gF s.1 f.L).isSome=true then s else if 16<=s.1.length then(s.1,min (s.2+1) 9007199254740992) else(eF s.1 f.L (FF t wait keep f),s.2)
noncomputable def uh (l:List b8):List b8:=oB (λx y=>fu (dG x.L) (dG y.L)) l
noncomputable def Br (x:cy) (l:List cJ) (t wait keep:Int):List (aZ×b8)×Int:=(lW l).foldl (fx t wait keep) ((dQ x).ao.foldl (kr (it (lW l)) t wait keep) [],(dQ x).full)
noncomputable def stepT (x:cy) (l:List cJ) (t wait keep:Int):cy:=⟨uh ((Br x l t wait keep).1.map (·.2)),(Br x l t wait keep).2⟩
def Q0 (f:β->α->β) (b:β) {l:List α} {k:Nat} (a:k<l.length):(l.take (k+1)).foldl f b=f ((l.take k).foldl f b) l[k]:=by
 rw[yz a,List.foldl_append];rfl
def Yt (l:List cJ):(∀f∈lW l,bH f.L=true/\f∈l)/\((lW l).map (·.L)).Nodup:=by
 suffices H:∀(l A:List cJ) (S:cJ->Prop),(∀f∈A,bH f.L=true/\S f)->(A.map (·.L)).Nodup->(∀f∈l,S f)->(∀f∈l.foldl pB A,bH f.L=true/\S f)/\((l.foldl pB A).map (·.L)).Nodup from H l [] (·∈l) av av (λf h=>h)
 intro l;induction l with
 |nil=>intro A S c h2 _;exact⟨c,h2⟩
 |cons f l j=>
  intro A S c h2 i;refine j _ S ?_ ?_ (λg hg=>i g (by simp[hg]))
  ·unfold pB;split
   ·rename_i d;intro g hg;rcases kf.1 hg with hg|hg
    ·exact c g hg
    ·rw[bD] at hg;subst hg;exact⟨d.1,i _ av⟩
   ·exact c
  ·unfold pB;split
   ·rename_i d;rw[lK,List.nodup_append];exact⟨h2,av,λa k b Z=>by simp at Z;subst Z;exactλe=>d.2 (e▸k)⟩
   ·exact h2
def Mk {κ ν:Type} [DecidableEq κ] {a:κ} {v:ν}:∀{es:List (κ×ν)},(eF es a v).length<=es.length+1
 |[]=>by simp[eF]
 |y::es=>by
  unfold eF
  split
  ·simp
  ·have:=Mk (a:=a) (v:=v) (es:=es);simp;omega
def Yu {κ ν:Type} [DecidableEq κ] {a:κ}:∀{es:List (κ×ν)},(jI es a).length<=es.length
 |[]=>by simp[jI]
 |y::es=>by
  unfold jI
  split
  ·simp
  ·have:=Yu (a:=a) (es:=es);simp;omega
structure oP (S:aZ->Prop) (m:List (aZ×b8)):Prop where
 lj:jt m
 ok:∀e∈m,e.1=e.2.L/\bH e.2.L=true/\fe e.2.h=true/\0<=e.2.st/\e.2.st<=2/\S e.2.L
def Yv (h:im.Hd) (t k:Int):0<=aL h t k/\aL h t k<=2:=by
 unfold aL im.E9;split
 ·omega
 ·split<;>omega
def oP.put {S:aZ->Prop} {m:List (aZ×b8)} (h:oP S m) {a:b8} (d:bH a.L=true) (h2:fe a.h=true) (c:0<=a.st/\a.st<=2) (h4:S a.L):oP S (eF m a.L a):=⟨h.lj.eF,λe b=>by
 rcases LA b with rfl|b
 ·exact⟨rfl,d,h2,c.1,c.2,h4⟩
 ·exact h.ok e b⟩
def oP.kr {S:aZ->Prop} {m:List (aZ×b8)} {t keep:Int} (h:oP S m) {a:b8} (d:bH a.L=true) (h4:S a.L):oP S (kr there t wait keep m a):=by
 have b:oP S (eF m a.L (FE there t wait keep a)):=h.put (a:=FE there t wait keep a) d (im.Wl _ _ _ _) (Yv _ _ _) h4;unfold YtbeaddlblpgppaaGreatDoor.kr;split
 ·exact⟨b.lj.jI,λe c=>b.ok e (PH c)⟩
 ·exact b
def ahw {m:List (aZ×b8)} {t keep:Int} {a:b8}:(kr there t wait keep m a).length<=m.length+1:=by
 unfold kr;split
 ·exact a8 Yu Mk
 ·exact Mk
def oP.fx {S:aZ->Prop} {s:List (aZ×b8)×Int} {t keep:Int} (h:oP S s.1) {f:cJ} (b:bH f.L=true) (h4:S f.L):oP S (fx t wait keep s f).1:=by
 unfold YtbeaddlblpgppaaGreatDoor.fx;split
 ·exact h
 ·split
  ·exact h
  ·exact h.put (a:=FF t wait keep f) b (im.Wl _ _ _ _) (Yv _ _ _) h4
def ahx {s:List (aZ×b8)×Int} {t keep:Int} (h:s.1.length<=16):(fx t wait keep s f).1.length<=16:=by
 unfold fx;split
 ·exact h
 ·split
  ·exact h
  ·have:=Mk (a:=f.L) (v:=FF t wait keep f) (es:=s.1);simp only;omega
def Yw {s:List (aZ×b8)×Int} {t keep:Int} (h:0<=s.2/\s.2<=9007199254740992):0<=(fx t wait keep s f).2/\(fx t wait keep s f).2<=9007199254740992:=by
 unfold fx;split
 ·exact h
 ·split
  ·simp only;omega
  ·exact h
theorem Yx (h:P:=by
 rw[List.getElem_map,List.getElem_map];have:=((FG yV).1 (h3 _ yV)).2;rcases this with h|h
 ·omega
 ·rw[Nat.add_sub_cancel,Q1 an] at h;unfold cmpL at h;rwa[nO (hs _ (dl _)).1,nO (hs _ (dl _)).1] at h
 ):P:=h
theorem Yy (h:P:=by
 rcases kJ k with h|h
 ·exact .inl h
 ·refine .inr ?_;rw[Q1 an];unfold cmpL;rw[nO (h3 _ (dl _)).1,nO (h3 _ (dl _)).1];exact yw.1 h4 (k-1) k _ hk an
 ):P:=h
def qk {x:cy}:fY x=true↔x.ao.length<=16/\(0<=x.full/\x.full<=9007199254740992)/\(∀a∈x.ao,bH a.L=true/\fe a.h=true/\0<=a.st/\a.st<=2)/\x.ao.Pairwise λa b=>fu a.L b.L<0:=by
 have FG:∀{k:Nat} (hk:k<x.ao.length),sK x.ao k=true↔(bH x.ao[k].L=true/\fe x.ao[k].h=true/\(0<=x.ao[k].st/\x.ao[k].st<=2))/\(k=0\/cmpL (cX x.ao (k-1)) x.ao[k].L<0):=by
  intro k hk;unfold sK cX dx gl;rw[dr hk];simp[and_assoc]
 have Q1:∀{k:Nat} (hk:k<x.ao.length),cX x.ao k=x.ao[k].L:=λ{k} hk=>by unfold cX;rw[dr hk]
 unfold fY;rw[b9,b9,b9,decide_eq_true_eq,decide_eq_true_eq,decide_eq_true_eq,mw];constructor
 ·rintro⟨⟨d,h2⟩,h3⟩;have hs:∀a∈x.ao,bH a.L=true/\fe a.h=true/\0<=a.st/\a.st<=2:=λa e=>by
   obtain⟨k,hk,rfl⟩:=qV.1 e;have:=((FG hk).1 (h3 k hk)).1;exact⟨this.1,this.2.1,this.2.2.1,this.2.2.2⟩
  refine⟨d,h2,hs,?_⟩;have c:e8 (λa b:aZ=>fu a b) (x.ao.map (·.L)):=by
   refine e8.of_next lg λi hi=>?_;have yV:i+1<x.ao.length:=am hi;exact Yx
  unfold e8 at c;rw[sf] at c;exact c
 ·rintro⟨d,h2,h3,h4⟩;refine⟨⟨d,h2⟩,λk hk=>(FG hk).2 ⟨?_,?_⟩⟩
  ·have:=h3 _ (dl hk);exact⟨this.1,this.2.1,this.2.2.1,this.2.2.2⟩
  ·exact Yy
def Bt (x:cy):fY (dQ x)=true:=by
 unfold dQ;split
 ·assumption
 ·rw[qk];simp[jN]
def oP.sort {S:aZ->Prop} {m:List (aZ×b8)} (h:oP S m):(∀a∈uh (m.map (·.2)),bH a.L=true/\fe a.h=true/\0<=a.st/\a.st<=2/\S a.L)/\((m.map (·.2)).map λa=>dG a.L).Nodup/\((uh (m.map (·.2))).Pairwise λa b=>fu a.L b.L<0):=by
 have hs:∀a∈uh (m.map (·.2)),∃e∈m,e.2=a:=λa i=>by
  have:=(Mh _ _).mem_iff.1 i;obtain⟨e,g,rfl⟩:=hM.1 this;exact⟨e,g,rfl⟩
 have j:∀a∈uh (m.map (·.2)),bH a.L=true/\fe a.h=true/\0<=a.st/\a.st<=2/\S a.L:=λa i=>by
  obtain⟨e,g,rfl⟩:=hs a i;exact(h.ok e g).2
 have h2:((m.map (·.2)).map λa=>dG a.L).Nodup:=by
  rw[List.map_map];unfold List.Nodup;rw[sf];refine List.Pairwise.imp_of_mem (λ{x y} f d c=>?_) h.lj;have k:=h.ok x f;have l:=h.ok y d;simp only[Function.comp];rw[nO k.2.1,nO l.2.1,<-k.1,<-l.1];exact c
 refine⟨j,h2,?_⟩;have n:(uh (m.map (·.2))).Pairwise λx y=>¬fu (dG y.L) (dG x.L)<0:=QY lg (λa:b8=>dG a.L) _;have hn:((uh (m.map (·.2))).map λa=>dG a.L).Nodup:=((Mh _ _).map _).nodup_iff.2 h2;unfold List.Nodup at hn;rw[sf] at hn;refine List.Pairwise.imp_of_mem (λ{x y} f d c=>?_) (n.and hn);have p:=nO (j x f).1;have o:=nO (j y d).1;rw[p,o] at c;rcases lg.AG x.L y.L with h|h|h
 ·exact h
 ·exact ae h c.2
 ·exact ae h c.1
def Ml (x:cy) (l:List cJ) (t wait keep:Int):oP (λL=>(∃a∈(dQ x).ao,a.L=L)\/∃f∈l,f.L=L) (Br x l t wait keep).1/\(Br x l t wait keep).1.length<=16/\0<=(Br x l t wait keep).2/\(Br x l t wait keep).2<=9007199254740992:=by
 have n:=qk.1 (Bt x);have q:=Yt l;unfold Br;generalize dQ x=c at*;generalize lW l=d at*;have r:∀(zs:List b8) (m:List (aZ×b8)),(∀a∈zs,a∈c.ao)->oP (λL=>(∃a∈c.ao,a.L=L)\/∃f∈l,f.L=L) m->oP (λL=>(∃a∈c.ao,a.L=L)\/∃f∈l,f.L=L) (zs.foldl (YtbeaddlblpgppaaGreatDoor.kr (it d) t wait keep) m)/\(zs.foldl (YtbeaddlblpgppaaGreatDoor.kr (it d) t wait keep) m).length<=m.length+zs.length:=by
  intro zs;induction zs with
  |nil=>intro m _ h;exact⟨h,av⟩
  |cons a zs k=>
   intro m e h2;have p:=e a av;have:=k (YtbeaddlblpgppaaGreatDoor.kr (it d) t wait keep m a) (λb Z=>e b (by simp[Z])) (h2.kr (n.2.2.1 a p).1 (.inl ⟨a,p,rfl⟩));refine⟨this.1,a8 this.2 ?_⟩;have:=ahw (m:=m) (there:=it d) (t:=t) (wait:=wait) (keep:=keep) (a:=a);simp only[pY];omega
 have e:=r c.ao [] (λa h=>h) ⟨List.Pairwise.nil,av⟩;have hB:∀(i:List cJ) (s:List (aZ×b8)×Int),(∀f∈i,f∈d)->oP (λL=>(∃a∈c.ao,a.L=L)\/∃f∈l,f.L=L) s.1->s.1.length<=16->(0<=s.2/\s.2<=9007199254740992)->oP (λL=>(∃a∈c.ao,a.L=L)\/∃f∈l,f.L=L) (i.foldl (YtbeaddlblpgppaaGreatDoor.fx t wait keep) s).1/\(i.foldl (YtbeaddlblpgppaaGreatDoor.fx t wait keep) s).1.length<=16/\0<=(i.foldl (YtbeaddlblpgppaaGreatDoor.fx t wait keep) s).2/\(i.foldl (YtbeaddlblpgppaaGreatDoor.fx t wait keep) s).2<=9007199254740992:=by
  intro i;induction i with
  |nil=>intro s _ e h2 j;exact⟨e,h2,j.1,j.2⟩
  |cons f i k=>
   intro s e h2 j h4;have o:=q.1 f (e f av);exact k _ (λg hg=>e g (by simp[hg])) (h2.fx o.1 (.inr ⟨f,o.2,rfl⟩)) (ahx j) (Yw h4)
 exact hB d _ (λf h=>h) e.1 (by have:=e.2;have:=n.1;simp at*;omega) n.2.1
def ahy (x:cy) (l:List cJ) (t wait keep:Int):fY (stepT x l t wait keep)=true:=by
 obtain⟨d,h2,c,h4⟩:=Ml x l t wait keep;obtain⟨g1,g2,g3⟩:=d.sort;rw[qk];refine⟨?_,⟨c,h4⟩,λa b=>?_,g3⟩
 ·show(uh _).length<=16;unfold uh;rw[Vu,p6];exact h2
 ·have:=g1 a b;exact⟨this.1,this.2.1,this.2.2.1,this.2.2.2.1⟩
def ahz (x:cy) (l:List cJ) (t wait keep:Int):∀a∈(stepT x l t wait keep).ao,(∃b∈(dQ x).ao,b.L=a.L)\/∃f∈l,f.L=a.L:=λa c=>by
 obtain⟨d,_⟩:=Ml x l t wait keep;exact(d.sort.1 a c).2.2.2.2
end
section
open im (dT fe)
def lv:ByteArray:=⟨#[97,108,101,114,116,110,97,109,101]⟩
def DN:ByteArray:=⟨#[97,108,101,114,116,115,116,97,116,101]⟩
def FH:ByteArray:=⟨#[65,76,69,82,84,83]⟩
def ahA:ByteArray:=⟨#[112,101,110,100,105,110,103]⟩
def ahB:ByteArray:=⟨#[102,105,114,105,110,103]⟩
def DO (st:Int):ByteArray:=if st=1 then ahA else if st=2 then ahB else⟨#[]⟩
def vC (k:ByteArray):Bool:=decide (k=iH)||decide (k=lv)||decide (k=DN)
def zi (L:aZ):Bool:=L.any λp=>vC p.1
def gm (d:Int):Bool:=decide (0<=d)&&decide (d<=9007199254740992)
def rp (o:Int):Bool:=decide (1<=o)&&decide (o<=6)
noncomputable def rq (x:wV):Bool:=kT x.s&&rp x.op&&j6 x.v
noncomputable def ku (r:cv):Bool:=db r.n&&rq r.x&&gm r.wait&&gm r.keep&&bH r.L&&!zi r.L
def rN (R:List cv) (i:Nat):ByteArray:=(R.getD i default).n
noncomputable def lX (R:List cv) (i:Nat):Bool:=ku (R.getD i default)&&!((R.take i).any λr=>decide (r.n=rN R i))
noncomputable def lY (g:cC):Bool:=db g.n&&gm g.br&&!decide (g.br=0)&&(decide (0<=g.off)&&decide (g.off<g.br))&&decide (g.R.length<=16)&&cI g.R.length (lX g.R)
def Mm (F:List cC) (i:Nat):ByteArray:=(F.getD i default).n
noncomputable def nY (F:List cC) (i:Nat):Bool:=lY (F.getD i default)&&!((F.take i).any λg=>decide (g.n=Mm F i))
noncomputable def jf (F:List cC):Bool:=decide (F.length<=16)&&cI F.length (nY F)
noncomputable def sN (g:cC) (last aL:Int):Option (Int×Int):=let aL:=min aL 9007199254740992;if lY g=false\/aL<g.off then M else let b:=(aL-g.off)/g.br;let t:=g.off+b*g.br;if t<=last then M else ad (t,if g.off<=last then b-((last-g.off)/g.br+1) else b)
noncomputable def sO (r:cv) (l:aZ):Option aZ:=(so (tU l iH) r.L).bind λm=>so m [(lv,r.n)]
def xi (op v xj:Int):Bool:=if op=1 then decide (xj<v) else if op=2 then decide (xj<=v) else if op=3 then decide (v<xj) else if op=4 then decide (v<=xj) else if op=5 then decide (v=xj) else if op=6 then !decide (v=xj) else false
noncomputable def DP (A:List cJ) (l:aZ):Bool:=A.any λf=>decide (cmpL f.L l=0)
noncomputable def kc (r:cv) (A:List cJ) (f:cJ):List cJ:=if xi r.x.op f.x.2 r.x.v=true then match sO r f.L with
 |none=>A
 |some l=>if DP A l=true then A else A++[⟨l,f.x⟩] else A
noncomputable def sP (st:List cr) (r:cv) (t:Int):List cJ:=if ku r=true then(zg st r.x.s t 300000).foldl (kc r) [] else[]
noncomputable def xk (a:b8):Option aZ:=(vk a.L iH FH).bind λl=>vk l DN (DO a.st)
noncomputable def lw (t:Int) (s:List cr×Int) (a:b8):List cr×Int:=match xk a with
 |none=>(s.1,s.2+1)
 |some l=>
  match ra s.1 l (t,1000) with
  |none=>(s.1,s.2+1)
  |some st=>(st,s.2)
noncomputable def ui (st:List cr) (x:cy) (t:Int):List cr×Int:=(jO (dQ x).ao).foldl (lw t) (gS st,0)
def sQ (tabs:List cy) (i:Nat):cy:=tabs.getD i jN
noncomputable def vD (tabs:List cy) (t:Int) (s:List cr×List cy×Int) (r:cv):List cr×List cy×Int:=let x:=stepT (sQ tabs s.2.1.length) (sP s.1 r t) t r.wait r.keep;let w:=ui s.1 x t;(w.1,s.2.1++[x],s.2.2+w.2)
noncomputable def np (st:List cr) (g:cC) (tabs:List cy) (t:Int):List cr×List cy×Int:=g.R.foldl (vD tabs t) (gS st,[],0)
def Nm (n:ByteArray) (x:cy):Prop:=∀a∈x.ao,gD a.L lv=ad n
def ahC:pq lv:=by
 refine⟨aq,aq,λi hi=>?_⟩;have:i<9:=hi;unfold vi;revert i;decide
def ahD {r:cv} (h:ku r=true):pq r.n:=by
 unfold ku at h;simp only[b9] at h;exact nM.1 h.1.1.1.1.1
def ahE {r:cv} {l m:aZ} (b:ku r=true) (h:sO r l=ad m):bH m=true/\gD m lv=ad r.n:=by
 unfold sO at h;obtain⟨c,d,h2⟩:=Option.bind_eq_some_iff.1 h;refine⟨afY h2,afX h2 ?_⟩;rw[nO]
 ·simp
 ·rw[nN];refine⟨av,?_,by simp[e8]⟩;intro p a;rw[bD] at a;subst a;exact⟨ahC,(ahD b).2.1⟩
def ahF (st:List cr) (r:cv) (t:Int):∀f∈sP st r t,bH f.L=true/\gD f.L lv=ad r.n:=by
 unfold sP;split
 ·rename_i c;have:∀(l A:List cJ),(∀f∈A,bH f.L=true/\gD f.L lv=ad r.n)->∀f∈l.foldl (kc r) A,bH f.L=true/\gD f.L lv=ad r.n:=by
   intro l;induction l with
   |nil=>intro A h;exact h
   |cons g l b=>
    intro A h;refine b _ ?_;unfold kc;split
    ·cases d:sO r g.L with
     |none=>exact h
     |some m=>
      simp only;split
      ·exact h
      ·intro f a;rcases kf.1 a with a|a
       ·exact h f a
       ·rw[bD] at a;subst a;exact ahE c d
    ·exact h
  exact this _ [] av
 ·simp
def Nm.lR {n:ByteArray} {x:cy} (h:Nm n x):Nm n (dQ x):=by
 unfold dQ;split
 ·exact h
 ·intro a b;simp[jN] at b
def Nm.step {n:ByteArray} {x:cy} (h:Nm n x) {l:List cJ} (c:∀f∈l,gD f.L lv=ad n) (t wait keep:Int):Nm n (stepT x l t wait keep):=λa d=>by
 rcases ahz x l t wait keep a d with⟨b,Z,e⟩|⟨f,hf,e⟩
 ·rw[<-e];exact h.lR b Z
 ·rw[<-e];exact c f hf
def YA {st:List cr} (b:st.length<=32) (h2:∀y∈st,qe y.L=true/\y.S≠[]/\km y.S=true) (a:Ir st):eY st=true:=vm.2 ⟨b,h2,a⟩
def YB {st m:List cr} {l:aZ} {x:dC} (h:ra st l x=ad m):eY m=true:=by
 have j:=vm.1 (Fb st);unfold ra at h;simp only at h;generalize gS st=c at*;split at h
 ·cases h
 rename_i hn;rw[Bool.not_eq_false] at hn;split at h
 ·cases h
 rename_i s hs;have o:=af4 hs;split at h
 ·rename_i f;unfold sq at f;rw[b9,decide_eq_true_eq,decide_eq_true_eq] at f;cases h;refine YA (am j.1) (λy d=>?_) ?_
  ·rcases List.mem_or_eq_of_mem_set d with d|rfl
   ·exact j.2.1 y d
   ·exact⟨by rw[f.2];exact hn,o.2,o.1⟩
  ·have n:=j.2.2;unfold Ir at*;have r:(c.set (ahead l c) ⟨sL c (ahead l c),s⟩).map (·.L)=c.map (·.L):=by
    rw[List.map_set];show(c.map (·.L)).set (ahead l c) (sL c (ahead l c))=_;apply List.ext_getElem?;intro i;rw[List.getElem?_set];split
    ·rename_i e;subst e;unfold sL;rw[dr f.1,p6,ag f.1,tJ,cR f.1];rfl
    ·rfl
   have g:∀l:List cr,l.Pairwise (λx y=>fu x.L y.L<0)↔(l.map (·.L)).Pairwise (λa b=>fu a b<0):=λl=>by rw[sf]
   rw[g,r,<-g];exact n
 ·rename_i f;split at h
  ·cases h
  rename_i v;cases h;have u:=PA l c;refine YA aw (λy d=>?_) ?_
  ·rcases kf.1 d with d|d
   ·exact j.2.1 y (List.mem_of_mem_take d)
   ·rcases ee.1 d with rfl|d
    ·exact⟨hn,o.2,o.1⟩
    ·exact j.2.1 y (List.mem_of_mem_drop d)
  ·have n:=j.2.2;unfold Ir at*;have Z:=Wo (l:=l) (st:=c);have q:∀y∈c.drop (ahead l c),fu l y.L<0:=by
    intro y d;obtain⟨i,hi,rfl⟩:=qV.1 d;rw[oy] at hi;rw[List.getElem_drop];rcases kJ i with rfl|h0
    ·have g:=PB (l:=l) (st:=c) an;rcases lg.AG (c[ahead l c]'an).L l with k|k|k
     ·exact ae k g
     ·exfalso;apply f;unfold sq sL;rw[dr an,b9,decide_eq_true_eq,decide_eq_true_eq];exact⟨an,k⟩
     ·simpa using k
    ·exact lg.gt.1 (Wq n an an)
   refine List.pairwise_append.2 ⟨n.sublist (List.take_sublist _ _),List.pairwise_cons.2 ⟨q,n.sublist (List.drop_sublist _ _)⟩,λa t b p=>?_⟩;have g:=Z a t;rcases ee.1 p with rfl|p
   ·exact g
   ·exact lg.trans g (q b p)
def ahG {t:Int} {s:List cr×Int} {a:b8} (h:eY s.1=true/\0<=s.2):eY (lw t s a).1=true/\0<=(lw t s a).2/\(lw t s a).2<=s.2+1:=by
 unfold lw;split
 ·exact⟨h.1,arf,av⟩
 ·split
  ·exact⟨h.1,arf,av⟩
  ·rename_i st hs;exact⟨YB hs,h.2,arf⟩
def YC (st:List cr) (x:cy) (t:Int):eY (ui st x t).1=true/\0<=(ui st x t).2/\(ui st x t).2<=16:=by
 have d:(jO (dQ x).ao).length<=16:=a8 (List.length_filter_le _ _) (qk.1 (Bt x)).1;unfold ui;generalize jO (dQ x).ao=zs at*;have:∀(zs:List b8) (s:List cr×Int),eY s.1=true/\0<=s.2->eY (zs.foldl (lw t) s).1=true/\0<=(zs.foldl (lw t) s).2/\(zs.foldl (lw t) s).2<=s.2+zs.length:=by
  intro zs;induction zs with
  |nil=>intro s h;exact⟨h.1,h.2,av⟩
  |cons a zs c=>
   intro s h;have b:=ahG (t:=t) (a:=a) h;have h2:=c _ ⟨b.1,b.2.1⟩;refine⟨h2.1,h2.2.1,?_⟩;simp only[List.foldl_cons,pY];have:=h2.2.2;push_cast at*;omega
 have h:=this zs (gS st,0) ⟨Fb st,av⟩;refine⟨h.1,h.2.1,?_⟩;have:=h.2.2;simp only at this;omega
structure YD (R:List cv) (k:Nat) (s:List cr×List cy×Int):Prop where
 st:eY s.1=true
 len:s.2.1.length=k
 tab:∀i (h:i<s.2.1.length),fY s.2.1[i]=true/\Nm (rN R i) s.2.1[i]
 off:0<=s.2.2/\s.2.2<=16*k
def YE (st:List cr) (g:cC) (tabs:List cy) (t:Int) (l:∀i (h:i<tabs.length),Nm (rN g.R i) tabs[i]):YD g.R g.R.length (np st g tabs t):=by
 have b:∀k,k<=g.R.length->YD g.R k ((g.R.take k).foldl (vD tabs t) (gS st,[],0)):=by
  intro k;induction k with
  |zero=>intro _;exact⟨Fb st,rfl,λi h=>by simp at h,av⟩
  |succ k j=>
   intro p;have h:=j an;rw[Q0 _ _ (show k<g.R.length by omega)];generalize(g.R.take k).foldl (vD tabs t) (gS st,[],0)=s at*;have hg:g.R[k]'an=g.R.getD k default:=(dr an).symm;have hn:Nm (rN g.R k) (sQ tabs s.2.1.length):=by
    unfold sQ;rw[h.len];by_cases d:k<tabs.length
    ·rw[dd,cR d];exact l k d
    ·rw[dd,List.getElem?_eq_none an];intro a o;simp[jN] at o
   have hs:=ahy (sQ tabs s.2.1.length) (sP s.1 g.R[k] t) t g.R[k].wait g.R[k].keep;have m:Nm (rN g.R k) (stepT (sQ tabs s.2.1.length) (sP s.1 g.R[k] t) t g.R[k].wait g.R[k].keep):=hn.step (λf n=>by
    rw[(ahF _ _ _ f n).2];unfold rN;rw[hg]) _ _ _
   have e:=YC s.1 (stepT (sQ tabs s.2.1.length) (sP s.1 g.R[k] t) t g.R[k].wait g.R[k].keep) t;unfold vD;refine⟨e.1,by simp[h.len],λi hi=>?_,?_⟩
   ·simp only[b2,p8] at hi;simp only;rw[List.getElem_append];split
    ·rename_i c;exact h.tab i c
    ·rename_i c;have:i=k:=ai h.len;subst this;simp only[List.getElem_singleton];exact⟨hs,m⟩
   ·have c:=h.off;have h2:=e.2;simp only;push_cast;omega
 have:=b g.R.length (aO _);rwa[pZ] at this
end
section
open im (dT fe)
def Zl {x:cy} (h:nX w B v x):nX w B (if fY x=true then v else aY #[O M 0 0,J I 0]) (dQ x):=by
 unfold dQ;split
 ·exact h
 ·exact⟨_,rfl,Vs.bh _ _ _⟩
theorem Zm (h:P:=by
 exact(bm.setCell (p:=⟨w.heap.size+1,0,M⟩) aqC _).setCell (p:=⟨w.heap.size+1,1,M⟩) aqC _;):P:=h
def Zn {x:cy} (w:aB) (h:nX w B v x):aN aH 128 #[v] w λe w'=>e=aQ (if fY x=true then v else aY #[O M 0 0,J I 0])/\aF w w':=by
 obtain⟨u,e,d⟩:=h.A;obtain⟨ao,cap,rfl,_⟩:=d.be;subst e;have c:=E (((aF.refl w).alloc (aD #[O ao x.ao.length cap,J I x.full] 56)).alloc (aD #[O M 0 0,J I 0] 56));have HX:=E ((aI.new w 56 #[O ao x.ao.length cap,J I x.full]).alloc (aD #[O M 0 0,J I 0] 56));have b:=E (aI.new (w.alloc (aD #[O ao x.ao.length cap,J I x.full] 56)) 56 #[O M 0 0,J I 0]);have f:=E (QW _ (h.al c.A.aC));clear h d;generalize fY x=y at*;go_enter func128,ntmps128;go_wp2_with fail;refine f.A.ah ?_;rintro e i⟨rfl,Z⟩;have g:=HX.A.al Z.aC HX.A.lt;have a:=b.A.al Z.aC b.A.lt;simp only[eO] at a;have bm:=c.A.trans Z;clear Z HX b f c;have j:=g.cell;have⟨g2,k⟩:=a.cf;cases y
 ·go_wp2;have y:=(a.put 0 (O M 0 0)).put 1 (J I 0);have k0:=y.cell;refine bF (v:=aY #[(O M 0 0),(J I 0)]) (by simp[bz,results128,go_sem,k0]) rfl ⟨rfl,?_⟩;exact Zm
 ·go_wp2;have y:=(a.put 0 (O ao x.ao.length cap)).put 1 (J I x.full);have k0:=y.cell;refine bF (v:=aY #[(O ao x.ao.length cap),(J I x.full)]) (by simp[bz,results128,go_sem,k0]) rfl ⟨rfl,?_⟩;exact Zm
def Rq:(aH.info? 62).map (λi=>(i.zero,i.size,i.bytes))=ad (ad (aY #[O M 0 0,aG false,J I 0,aG false,J I 0,J I 0,J I 0]),7,72):=ar
def MF:dV.e∉dV.bI:=aq
def aiB (a b:aE) (w:aB):(Instr.field 56 (aY #[a,b]) 0).run aH w= .ok a w:=by
 unfold Instr.field;simp only[Sem.run_bind,mf underlying56,Result.andThen_ok];simp[asAgg,part,isAgg,mf underlying54]
def MG {l:List b8} (h:k<l.length):l[k]=⟨cX l k,dx l k,gl l k,oO l k⟩:=by unfold cX dx gl oO;rw[dr h]
def Rr {x:cy} (w:aB) (hB:B<=w.heap.size) (h:nX w B v x):aN aH 91 #[v] w λe w'=>(∃p,e=aQ p/\Ow dV w' B w.heap.size p (jO (dQ x).ao))/\aF w w':=by
 have F:=E (λm (Z:aS w.heap.size w m)=>Zn m (h.al Z));have D:=E (Zl h);have T:=E (show(dQ x).ao.length<=16 by
  unfold dQ;split
  ·rename_i h;unfold fY at h;simp at h;exact h.1.1
  ·exact bV _)
 obtain⟨u0,e0,N⟩:=h.A;obtain⟨A0,c0,rfl,_⟩:=N.be;subst e0;generalize h9:(if fY x=true then _ else _:aE)=jg at F D;clear h9;obtain⟨c,X⟩:=aP ((dQ x).ao);obtain⟨u,rfl,y⟩:=D.A.A;rw[X] at y T⊢;obtain⟨ao,cap,rfl,Q,hl,hc⟩:=y.be;have HP:=E Q;have V:=E (show jO c=c.filter (λa=>!decide (a.st=0)) from rfl);have di:=E hB;have cg:=T.A;generalize jO c=r at V⊢;generalize(dQ x).full=aiC at*;clear h N y Q hB X D;have A:=E ((aF.refl w).alloc (aD #[O A0 x.ao.length c0,J I x.full] 56));have oK:=aI.new w 56 #[O A0 x.ao.length c0,J I x.full];go_enter func91,ntmps91;go_wp2_with fail;refine(F.A _ A.A.aC).ah ?_;rintro e m⟨rfl,Z⟩;have bm:=E (A.A.trans Z);clear Z A oK F;have C:=λW=>aiB (O ao c.length cap) (J I aiC) W;go_wp2;clear C;go_loopw [3,10] (λa i wr=>∃(k:Nat) (aT:List b8),k<=c.length/\aT.length<=k/\i=J I k/\a6 (aT++(c.drop k).filter (λa=>!decide (a.st=0))=r)/\aF m wr/\Ow dV wr B m.heap.size a aT) (λ_ i _=>c.length-(intOf i).toNat);case atStart=>exact⟨0,[],an,aO _,rfl,E V.A.symm,aF.refl _,Ow.bh _ _ _ _⟩
 case round=>
  obtain⟨k,aT,hk,Iz,rfl,bj,dI,bc⟩:=hrel;by_cases o:k<c.length
  ·obtain⟨b,off,l,c3,rfl,cw,y0,L,K,H,G,y5,Y,U⟩:=HP.A.jP (bm.A.trans dI).aC o;have n:=E (P0 (λa:b8=>!decide (a.st=0)) o aT);rw[bj.A,MG o] at n;have aR:=E o;obtain⟨hd,s⟩:=aP (dx c k);obtain⟨d,z⟩:=aP (gl c k);obtain⟨f,q⟩:=aP (oO c k);rw[s,z,q] at n;rw[s] at L K H G;rw[z] at y5;rw[q] at Y;obtain⟨ho,hs,g,j⟩:=hd;clear s z q;dsimp only at L K H G;have R:=E (bc.alloc (aD #[O l (cX c k).length c3,aG ho,J I hs,aG g,J I j,J I d,J I f] 62));have S:=E (dI.alloc (aD #[O l (cX c k).length c3,aG ho,J I hs,aG g,J I j,J I d,J I f] 62));have ln:=E (U.al ((bk _ _).alloc (aO _) (aD #[O l (cX c k).length c3,aG ho,J I hs,aG g,J I j,J I d,J I f] 62)));clear bc dI U;by_cases c1:d=0
   ·have d1:(d !=0)=false:=by simp[c1]
    have HE:=E (show aT++(c.drop (k+1)).filter (λa=>!decide (a.st=0))=r by rw[n.A];simp[c1]);clear c1 n;go_wp2;go_roundw;case rel=>exact⟨k+1,aT,aR.A,an,by go_num,HE,S.A,R.A⟩
    case measure=>exact ax
   ·have d1:(d !=0)=true:=by simp[c1]
    have HE:=E (show(aT++[(⟨cX c k,⟨ho,hs,g,j⟩,d,f⟩:b8)])++(c.drop (k+1)).filter (λa=>!decide (a.st=0))=r by rw[n.A];simp[c1]);clear c1 n;have DK:=E (show Sl ((wr.alloc (aD #[O l (cX c k).length c3,aG ho,J I hs,aG g,J I j,J I d,J I f] 62)).alloc (aD #[O l (cX c k).length c3,aG ho,J I hs,aG g,J I j,J I d,J I f] 62)) (wr.heap.size+2) (ad ⟨wr.heap.size+1,0,M⟩) (1*dV.k) (λi=>([O l (cX c k).length c3,aG ho,J I hs,aG g,J I j,J I d,J I f]:List aE).getD i (aG false)) by
     have:=Sl.lit (wr.alloc (aD #[O l (cX c k).length c3,aG ho,J I hs,aG g,J I j,J I d,J I f] 62)) 62 [O l (cX c k).length c3,aG ho,J I hs,aG g,J I j,J I d,J I f] (1*dV.k) rfl;rw[eO] at this;exact this)
    have fp:=E (show Rs dV ((wr.alloc (aD #[O l (cX c k).length c3,aG ho,J I hs,aG g,J I j,J I d,J I f] 62)).alloc (aD #[O l (cX c k).length c3,aG ho,J I hs,aG g,J I j,J I d,J I f] 62)) B [⟨cX c k,⟨ho,hs,g,j⟩,d,f⟩] [O l (cX c k).length c3,aG ho,J I hs,aG g,J I j,J I d,J I f] from Rs.single ⟨_,rfl,ln.A.al ((bk _ _).alloc (aO _) _)⟩);have gH:=E (R.A.alloc (aD #[O l (cX c k).length c3,aG ho,J I hs,aG g,J I j,J I d,J I f] 62));have dw:=E (S.A.alloc (aD #[O l (cX c k).length c3,aG ho,J I hs,aG g,J I j,J I d,J I f] 62));have t:=E (show aT.length+1<=bK/\(aT.length+1)*72<=140737488355328/\m.heap.size<=((wr.alloc (aD #[O l (cX c k).length c3,aG ho,J I hs,aG g,J I j,J I d,J I f] 62)).alloc (aD #[O l (cX c k).length c3,aG ho,J I hs,aG g,J I j,J I d,J I f] 62)).heap.size from⟨aqv,an,dw.A.size⟩);have lr:=E (a8 di.A bm.A.size);go_wp2_with ((refine mZ dV au (.tmp 17) (.tmp 19) 54 au m.heap.size 72 _ ar Rq au B _ aT au gH.A (ad ⟨wr.heap.size+1,0,M⟩) 1 1 [⟨cX c k,⟨ho,hs,g,j⟩,d,f⟩] [O l (cX c k).length c3,aG ho,J I hs,aG g,J I j,J I d,J I f] au fp.A rfl (wr.heap.size+2) DK.A t.A.1 t.A.2.1 t.A.2.2 lr.A MF ?_;intro p w' bC kj eZ));exact X9
  ·obtain rfl:k=c.length:=by omega
   exact Ya
end
def Jm (d:Int) (w:aB):aN aH 18 #[J I d] w λe w'=>e=aQ (aG (gm d))/\w'=w:=by
 go_enter func18,ntmps18;go_wp2;all_goals go_ret
 all_goals refine⟨cc ?_,rfl⟩
 all_goals rw[Bool.eq_iff_iff]
 all_goals simp only[gm,Bool.or_eq_true,b9,decide_eq_true_eq,beq_iff_eq,true_iff,tL,false_iff]
 all_goals omega
def ux (s:ByteArray):Nat->Int
 |0=>0
 |k+1=>min (ux s k*10+((dp s k:Int)-48)) 9007199254740993
def RQ (s:ByteArray):∀k,(∀j,j<k->l0 (dp s j)=true)->0<=ux s k/\ux s k<=9007199254740993
 |0,_=>by simp[ux]
 |k+1,h=>by
  have a:=RQ s k (λj hj=>h j an)
  have h2:=h k an
  simp only[l0,b9,decide_eq_true_eq] at h2
  simp only[ux]
  omega
def ajz (s:ByteArray) (w:aB) (hs:s.size<=9223372036854775807):aN aH 217 #[ap s] w λe w'=>(∃k:Nat,e=aQ (bn #[J I (ux s k),J I k])/\ib l0 s 0 k)/\w'=w:=by
 have y:=E hs;go_enter func217,ntmps217;go_wp2;go_loopw [4,5] (λn f wr=>∃k:Nat,k<=s.size/\n=J I (ux s k)/\f=J I k/\a6 (∀j,0<=j->j<k->l0 (dp s j)=true)/\wr=w) (λ_ f _=>s.size-(intOf f).toNat);case atStart=>exact⟨0,an,rfl,rfl,E (λj D h2=>by omega),rfl⟩
 case round=>
  obtain⟨k,r,rfl,rfl,b,rfl⟩:=hrel;have F:=y.A;have l:=E (RQ s k (λj hj=>b.A j (bV _) hj));have i:=E (show ux s (k+1)=min (ux s k*10+((dp s k:Int)-48)) 9007199254740993 from rfl);by_cases x:k<s.size
  ·have v:=zp x;obtain⟨c,g⟩:=aP (dp s k);rw[g] at v i;have p:=E g;clear g;obtain⟨N,a⟩:=aP (ux s k);rw[a] at l i;have q:=E a;simp only[a];clear a;have H:=l.A.1;have G:=l.A.2;cases Z:l0 c with
   |true=>
    have o:=Z;simp only[l0,b9,decide_eq_true_eq] at o;obtain⟨q1,q2⟩:=o;have d1:decide ((48:Int)<=(c:Int))=true:=ac an;have u:decide ((c:Int)<=57)=true:=ac an;have m:decide (48<=c)=true:=ac q1;have t:decide (c<=57)=true:=ac q2;have C:IntKind.u8.wrap ((c:Int)-48)=(c:Int)-48:=by rw[IntKind.wrap_u8];omega
    have B:I.wrap ((c:Int)-48)=(c:Int)-48:=ay;have A:I.wrap (N*10)=N*10:=ay;have z:I.wrap (N*10+((c:Int)-48))=N*10+((c:Int)-48):=ay;go_wp2;go_roundw;case rel=>exact⟨k+1,an,by rw[i.A],by go_num,E (ZL b.A (by rw[p.A];exact Z)),trivial⟩
    case measure=>exact aA
   |false=>
    have d:=E (show ib l0 s 0 k from⟨bV _,r,b.A,λ_=>by rw[p.A];exact Z⟩);by_cases q1:48<=c
    ·have q2:¬c<=57:=λh=>by simp[l0,q1,h] at Z
     have d1:decide ((48:Int)<=(c:Int))=true:=ac an;have u:decide ((c:Int)<=57)=false:=aa an;have m:decide (48<=c)=true:=ac q1;have t:decide (c<=57)=false:=aa q2;clear Z;go_wp2;go_ret2;exact⟨⟨k,by rw[q.A];rfl,d.A⟩,rfl⟩
    ·have d1:decide ((48:Int)<=(c:Int))=false:=aa an;have m:decide (48<=c)=false:=aa q1;clear Z;go_wp2;go_ret2;exact⟨⟨k,by rw[q.A];rfl,d.A⟩,rfl⟩
  ·obtain rfl:k=s.size:=by omega
   have d:=E (show ib l0 s 0 s.size from⟨bV _,aO _,b.A,λh=>ae h (Nat.lt_irrefl _)⟩);go_wp2;go_ret2;exact⟨⟨s.size,rfl,d.A⟩,rfl⟩
def mK (sum n size:Int):Int:=if sum>9007199254740992\/n>(9007199254740992-sum)/size then 9007199254740993 else sum+n*size
theorem RR (h:P:=by
 go_enter func219,ntmps219;go_wp2;go_ret;rw[HE.A];exact⟨rfl,rfl⟩;):P:=h
def Jn (sum n size:Int) (w:aB) (hs:0<=sum/\sum<=9007199254740993) (hn:0<=n/\n<=9007199254740993) (t:1<=size/\size<=86400000):aN aH 219 #[J I sum,J I n,J I size] w λe w'=>e=aQ (J I (mK sum n size))/\w'=w:=by
 by_cases p:sum>9007199254740992
 ·have HE:=E (show mK sum n size=9007199254740993 by unfold mK;rw[ag (.inl p)]);exact RR
 have k:(9007199254740992-sum).tdiv size=(9007199254740992-sum)/size:=Int.tdiv_eq_ediv_of_nonneg an;have s:0<=(9007199254740992-sum)/size:=Int.ediv_nonneg an an;have g:(9007199254740992-sum)/size<=9007199254740992-sum:=Int.ediv_le_self _ an;have r:(size==0)=false:=aw;have v:I.wrap (9007199254740992-sum)=9007199254740992-sum:=ay;have c:(9007199254740992-sum)/size*size<=9007199254740992-sum:=Int.ediv_mul_le _ an;have o:decide (9007199254740992<sum)=false:=aa an;obtain⟨q,d⟩:=aP ((9007199254740992-sum)/size);have a:=E (show mK sum n size=if sum>9007199254740992\/n>q then 9007199254740993 else sum+n*size by unfold mK;rw[d]);rw[d] at k s g c;clear d;have u:I.wrap q=q:=ay;by_cases h2:n>q
 ·have HE:=E (show mK sum n size=9007199254740993 by rw[a.A,ag (.inr h2)]);clear a c;exact RR
 ·have HE:=E (show mK sum n size=sum+n*size by rw[a.A,af an]);have l:n*size<=q*size:=Int.mul_le_mul_of_nonneg_right an an;have f:0<=n*size:=Int.mul_nonneg hn.1 an;obtain⟨m,b⟩:=aP (n*size);have j:I.wrap (n*size)=m:=by rw[b,b7];omega
  have i:I.wrap (sum+m)=sum+m:=ay;rw[b] at HE;clear a c l f b;exact RR
def Jo {sum n size:Int} (hs:0<=sum/\sum<=9007199254740993) (hn:0<=n/\n<=9007199254740993) (b:1<=size/\size<=86400000):0<=mK sum n size/\mK sum n size<=9007199254740993:=by
 unfold mK;split
 ·omega
 ·rename_i h;have d:(9007199254740992-sum)/size*size<=9007199254740992-sum:=Int.ediv_mul_le _ an;have c:n*size<=(9007199254740992-sum)/size*size:=Int.mul_le_mul_of_nonneg_right an an;have a:0<=n*size:=Int.mul_nonneg hn.1 an;omega
def Z3 (o:Int) (w:aB):aN aH 38 #[J I o] w λe w'=>e=aQ (aG (rp o))/\w'=w:=by
 go_enter func38,ntmps38;go_wp2;all_goals go_ret
 all_goals refine⟨cc ?_,rfl⟩
 all_goals rw[Bool.eq_iff_iff]
 all_goals simp only[rp,Bool.or_eq_true,b9,decide_eq_true_eq,beq_iff_eq,true_iff,tL,false_iff]
 all_goals omega
def ajA:iH.toList=[95,95,110,97,109,101,95,95]:=ar
def ajB:lv.toList=[97,108,101,114,116,110,97,109,101]:=ar
def ajC:DN.toList=[97,108,101,114,116,115,116,97,116,101]:=ar
def ajD (k:ByteArray) (w:aB):aN aH 40 #[ap k] w λe w'=>e=aQ (aG (vC k))/\w'=w:=by
 go_enter func40,ntmps40;go_wp2;all_goals go_ret
 all_goals refine⟨cc ?_,rfl⟩
 all_goals
  have a:vC k=((k.toList==[95,95,110,97,109,101,95,95]||k.toList==[97,108,101,114,116,110,97,109,101])||k.toList==[97,108,101,114,116,115,116,97,116,101]):=by
   unfold vC;rw[<-j9,<-j9,<-j9,ajA,ajB,ajC]
  rw[a];try simp[*]
def ajE (a:k<L.length):(L.drop k).any (λp=>vC p.1)=(vC L[k].1||(L.drop (k+1)).any (λp=>vC p.1)):=by
 rw[pf a,List.any_cons]
def Z4 (w:aB) (h:Vs bE w B v L):aN aH 20 #[v] w λe w'=>e=aQ (aG (zi L))/\aF w w':=by
 have l:=E (show(L.drop 0).any (λp=>vC p.1)=zi L from rfl);generalize zi L=r at l⊢;obtain⟨ao,c,rfl,n,z,A⟩:=h.hN;clear h;have s:=E n;clear n;go_enter func20,ntmps20;go_wp2;go_loopw [7] (λi wr=>∃k:Nat,k<=L.length/\i=J I k/\aF w wr/\a6 ((L.drop k).any (λp=>vC p.1)=r)) (λi _=>L.length-(intOf i).toNat);case atStart=>exact⟨0,an,rfl,aF.refl _,l⟩
 case round=>
  clear l;obtain⟨k,t,rfl,g,m⟩:=hrel;by_cases j:k<L.length
  ·obtain⟨b,off,rfl,y,u,x⟩:=s.A.cells (B:=0) g.aC j;have d:=E (ajE j);rw[sA j,m.A] at d;have aR:=E j;generalize nm L k=s0 at*;generalize vl L k=s1 at*;have o:=E (g.alloc (aD #[ap s0,ap s1] 78));have a:=ajD s0 (wr.alloc (aD #[ap s0,ap s1] 78));clear g m;cases Z:vC s0 with
   |true=>
    rw[Z] at a d;have f:=E (show r=true by rw[d.A];rfl);go_wp2_with fail;refine a.ah ?_;rintro e q⟨rfl,rfl⟩;clear a;go_wp2;go_ret;exact⟨cc f.A.symm,o.A⟩
   |false=>
    rw[Z] at a d;have f:=E (show(L.drop (k+1)).any (λp=>vC p.1)=r by rw[d.A];rfl);go_wp2_with fail;refine a.ah ?_;rintro e q⟨rfl,rfl⟩;clear a;go_wp2;go_roundw;case rel=>exact⟨k+1,aR.A,by go_num,o.A,f⟩
    case measure=>exact ax
  ·obtain rfl:k=L.length:=by omega
   have f:=E (show r=false by rw[<-m.A,qT];rfl);go_wp2;go_ret;exact⟨cc f.A.symm,g⟩
structure vO (w:aB) (B:Nat) (v:aE) (x:wV):Prop where
 A:∃u,v=aY #[ap x.s.n,u,J I x.op,J I x.v]/\x.s.n.size<=9223372036854775807/\Vs jG w B u x.s.aU
def vO.al {s:wV} (h:vO w B v s) (Z:aS w.heap.size w w'):vO w' B v s:=by
 obtain⟨u,e,a,h2⟩:=h.A;exact⟨u,e,a,h2.al Z⟩
theorem Z5 (h:P:=by
 go_enter func17,ntmps17;go_wp2_with fail;refine(H0.A _ HB.A).ah ?_;rintro e w2⟨rfl,Z⟩;replace HX:=E (HX.A.al Z.aC HX.A.lt);replace HB:=E (HB.A.trans Z);clear Z;have g0:=HX.A.cell;go_wp2_with fail;refine(H1.A _ HB.A).ah ?_;rintro e w1⟨rfl,rfl⟩;go_wp2_with fail;refine(H2.A _ HB.A).ah ?_;rintro e w1⟨rfl,rfl⟩;go_wp2;go_ret;exact⟨cc HE.A.symm,am HB.A⟩;):P:=h
theorem RT (h:P:=by
 replace HX:=E (HX.A.al Z.aC HX.A.lt);replace HB:=E (HB.A.trans Z);clear Z;have g0:=HX.A.cell;go_wp2;go_ret;exact⟨cc HE.A.symm,am HB.A⟩;):P:=h
theorem M1 (h:P:=by
 rintro e w1⟨rfl,rfl⟩;go_wp2;go_ret;exact⟨cc HE.A.symm,am HB.A⟩;):P:=h
def Z6 {x:wV} (w:aB) (h:vO w B v x):aN aH 17 #[v] w λe w'=>e=aQ (aG (rq x))/\aF w w':=by
 obtain⟨u,rfl,hn,d⟩:=h.A;have b:=E (show rq x=(kT x.s&&rp x.op&&j6 x.v) from rfl);generalize rq x=r at b⊢;obtain⟨A0,c0,rfl,_⟩:=d.be;have HB:=E ((aF.refl w).alloc (aD #[ap x.s.n,O A0 x.s.aU.length c0,J I x.op,J I x.v] 48));have HX:=E (aI.new w 48 #[ap x.s.n,O A0 x.s.aU.length c0,J I x.op,J I x.v]);have H0:=E (λW (Z:aF w W)=>QE (v:=aY #[ap x.s.n,O A0 x.s.aU.length c0]) (s:=x.s) W ⟨_,rfl,hn,d.al Z.aC⟩);have H1:=E (λW (Z:aF w W)=>Z3 x.op W);have H2:=E (λW (Z:aF w W)=>Fl x.v W);clear h d;cases cN:kT x.s with
 |false=>
  have HE:=E (show r=false by rw[b.A];simp[cN]);rw[cN] at H0;go_enter func17,ntmps17;go_wp2_with fail;refine(H0.A _ HB.A).ah ?_;rintro e w2⟨rfl,Z⟩;exact RT
 |true=>
  rw[cN] at H0;cases a:rp x.op with
  |false=>
   have HE:=E (show r=false by rw[b.A];simp[cN,a]);rw[a] at H1;go_enter func17,ntmps17;go_wp2_with fail;refine(H0.A _ HB.A).ah ?_;rintro e w2⟨rfl,Z⟩;replace HX:=E (HX.A.al Z.aC HX.A.lt);replace HB:=E (HB.A.trans Z);clear Z;have g0:=HX.A.cell;go_wp2_with fail;refine(H1.A _ HB.A).ah ?_;exact M1
  |true=>
   rw[a] at H1;cases c:j6 x.v with
   |false=>
    have HE:=E (show r=false by rw[b.A];simp[cN,a,c]);rw[c] at H2;exact Z5
   |true=>
    rw[c] at H2;have HE:=E (show r=true by rw[b.A];simp[cN,a,c]);exact Z5
def rI (w:aB) (B:Nat) (v:aE) (x:cv):Prop:=Av lS w B x v
def rI.be {x:cv} (h:rI w B v x):∃A2 c2 A7 c7,v=aY #[ap x.n,ap x.x.s.n,O A2 x.x.s.aU.length c2,J I x.x.op,J I x.x.v,J I x.wait,J I x.keep,O A7 x.L.length c7]/\x.n.size<=9223372036854775807/\x.x.s.n.size<=9223372036854775807/\Vs jG w B (O A2 x.x.s.aU.length c2) x.x.s.aU/\Vs bE w B (O A7 x.L.length c7) x.L:=by
 obtain⟨cs,rfl,v2,v7,rfl,b,h2,a,h4⟩:=h;obtain⟨A2,c2,rfl,_⟩:=a.be;obtain⟨A7,c7,rfl,_⟩:=h4.be;exact⟨A2,c2,A7,c7,rfl,b,h2,a,h4⟩
theorem Z7 (h:P:=by
 go_enter func8,ntmps8;go_wp2_with fail;refine(H0.A _ HB.A).ah ?_;rintro e w1⟨rfl,rfl⟩;go_wp2_with fail;refine(H1.A _ HB.A).ah ?_;rintro e w3⟨rfl,Z⟩;replace HX:=E (HX.A.al Z.aC HX.A.lt);replace HB:=E (HB.A.trans Z);clear Z;have g0:=HX.A.cell;go_wp2_with fail;refine(H2.A _ HB.A).ah ?_;rintro e w1⟨rfl,rfl⟩;go_wp2_with fail;refine(H3.A _ HB.A).ah ?_;rintro e w1⟨rfl,rfl⟩;go_wp2_with fail;refine(H4.A _ HB.A).ah ?_;rintro e w6⟨rfl,Z⟩;replace HX:=E (HX.A.al Z.aC HX.A.lt);replace HB:=E (HB.A.trans Z);clear Z;have g0:=HX.A.cell;go_wp2_with fail;refine(H5.A _ HB.A).ah ?_;rintro e w7⟨rfl,Z⟩;replace HX:=E (HX.A.al Z.aC HX.A.lt);replace HB:=E (HB.A.trans Z);clear Z;have g0:=HX.A.cell;go_wp2;go_ret;exact⟨cc HE.A.symm,am HB.A⟩;):P:=h
def M3 {x:cv} (w:aB) (h:rI w B v x):aN aH 8 #[v] w λe w'=>e=aQ (aG (ku x))/\aF w w':=by
 obtain⟨A2,c2,A7,c7,rfl,hn,k,j,i⟩:=h.be;have b:=E (show ku x=(db x.n&&rq x.x&&gm x.wait&&gm x.keep&&bH x.L&&!zi x.L) from rfl);generalize ku x=r at b⊢;have HB:=E ((aF.refl w).alloc (aD #[ap x.n,ap x.x.s.n,O A2 x.x.s.aU.length c2,J I x.x.op,J I x.x.v,J I x.wait,J I x.keep,O A7 x.L.length c7] 51));have HX:=E (aI.new w 51 #[ap x.n,ap x.x.s.n,O A2 x.x.s.aU.length c2,J I x.x.op,J I x.x.v,J I x.wait,J I x.keep,O A7 x.L.length c7]);have H0:=E (λW (Z:aF w W)=>mu x.n W hn);have H1:=E (λW (Z:aF w W)=>Z6 (v:=aY #[ap x.x.s.n,O A2 x.x.s.aU.length c2,J I x.x.op,J I x.x.v]) (x:=x.x) W ⟨_,rfl,k,j.al Z.aC⟩);have H2:=E (λW (Z:aF w W)=>Jm x.wait W);have H3:=E (λW (Z:aF w W)=>Jm x.keep W);have H4:=E (λW (Z:aF w W)=>MU W (i.al Z.aC));have H5:=E (λW (Z:aF w W)=>Z4 W (i.al Z.aC));have g0:=HX.A.cell;clear h j i;cases cN:db x.n with
 |false=>
  have HE:=E (show r=false by rw[b.A];simp[cN]);rw[cN] at H0;go_enter func8,ntmps8;go_wp2_with fail;refine(H0.A _ HB.A).ah ?_;exact M1
 |true=>
  rw[cN] at H0;cases a:rq x.x with
  |false=>
   have HE:=E (show r=false by rw[b.A];simp[cN,a]);rw[a] at H1;go_enter func8,ntmps8;go_wp2_with fail;refine(H0.A _ HB.A).ah ?_;rintro e w1⟨rfl,rfl⟩;go_wp2_with fail;refine(H1.A _ HB.A).ah ?_;rintro e w3⟨rfl,Z⟩;exact RT
  |true=>
   rw[a] at H1;cases c:gm x.wait with
   |false=>
    have HE:=E (show r=false by rw[b.A];simp[cN,a,c]);rw[c] at H2;go_enter func8,ntmps8;go_wp2_with fail;refine(H0.A _ HB.A).ah ?_;rintro e w1⟨rfl,rfl⟩;go_wp2_with fail;refine(H1.A _ HB.A).ah ?_;rintro e w3⟨rfl,Z⟩;replace HX:=E (HX.A.al Z.aC HX.A.lt);replace HB:=E (HB.A.trans Z);clear Z;have g0:=HX.A.cell;go_wp2_with fail;refine(H2.A _ HB.A).ah ?_;exact M1
   |true=>
    rw[c] at H2;cases d:gm x.keep with
    |false=>
     have HE:=E (show r=false by rw[b.A];simp[cN,a,c,d]);rw[d] at H3;go_enter func8,ntmps8;go_wp2_with fail;refine(H0.A _ HB.A).ah ?_;rintro e w1⟨rfl,rfl⟩;go_wp2_with fail;refine(H1.A _ HB.A).ah ?_;rintro e w3⟨rfl,Z⟩;replace HX:=E (HX.A.al Z.aC HX.A.lt);replace HB:=E (HB.A.trans Z);clear Z;have g0:=HX.A.cell;go_wp2_with fail;refine(H2.A _ HB.A).ah ?_;rintro e w1⟨rfl,rfl⟩;go_wp2_with fail;refine(H3.A _ HB.A).ah ?_;exact M1
    |true=>
     rw[d] at H3;cases f:bH x.L with
     |false=>
      have HE:=E (show r=false by rw[b.A];simp[cN,a,c,d,f]);rw[f] at H4;go_enter func8,ntmps8;go_wp2_with fail;refine(H0.A _ HB.A).ah ?_;rintro e w1⟨rfl,rfl⟩;go_wp2_with fail;refine(H1.A _ HB.A).ah ?_;rintro e w3⟨rfl,Z⟩;replace HX:=E (HX.A.al Z.aC HX.A.lt);replace HB:=E (HB.A.trans Z);clear Z;have g0:=HX.A.cell;go_wp2_with fail;refine(H2.A _ HB.A).ah ?_;rintro e w1⟨rfl,rfl⟩;go_wp2_with fail;refine(H3.A _ HB.A).ah ?_;rintro e w1⟨rfl,rfl⟩;go_wp2_with fail;refine(H4.A _ HB.A).ah ?_;rintro e w6⟨rfl,Z⟩;exact RT
     |true=>
      rw[f] at H4;cases g:zi x.L with
      |true=>
       have HE:=E (show r=false by rw[b.A];simp[cN,a,c,d,f,g]);rw[g] at H5;exact Z7
      |false=>
       rw[g] at H5;have HE:=E (show r=true by rw[b.A];simp[cN,a,c,d,f,g]);exact Z7
variable {F:List cC}
def Rw.vR {l:List cv} (h:Rw lS w B ao n l) (hB:aS w.heap.size w wr) {k:Nat} (g:k<l.length) {x:cv} (f:l[k]=x):∃b off A2 c2 A7 c7,ao=ad (ab b off M)/\b<w.heap.size/\(wr.cell? ⟨b,off+k*8,M⟩=ad (ap x.n)/\wr.cell? ⟨b,off+k*8+1,M⟩=ad (ap x.x.s.n)/\wr.cell? ⟨b,off+k*8+2,M⟩=ad (O A2 x.x.s.aU.length c2)/\wr.cell? ⟨b,off+k*8+3,M⟩=ad (J I x.x.op)/\wr.cell? ⟨b,off+k*8+4,M⟩=ad (J I x.x.v)/\wr.cell? ⟨b,off+k*8+5,M⟩=ad (J I x.wait)/\wr.cell? ⟨b,off+k*8+6,M⟩=ad (J I x.keep)/\wr.cell? ⟨b,off+k*8+7,M⟩=ad (O A7 x.L.length c7))/\rI wr B (aY #[ap x.n,ap x.x.s.n,O A2 x.x.s.aU.length c2,J I x.x.op,J I x.x.v,J I x.wait,J I x.keep,O A7 x.L.length c7]) x:=by
 obtain⟨b,off,vs,e,Z,d,h2⟩:=h.aL hB g;rw[f] at d;obtain⟨v2,v7,rfl,q1,q2,c,a⟩:=d;obtain⟨A2,c2,rfl,_⟩:=c.be;obtain⟨A7,c7,rfl,_⟩:=a.be;exact⟨b,off,A2,c2,A7,c7,e,Z,⟨h2 0 _ rfl,h2 1 _ rfl,h2 2 _ rfl,h2 3 _ rfl,h2 4 _ rfl,h2 5 _ rfl,h2 6 _ rfl,h2 7 _ rfl⟩,⟨_,rfl,_,_,rfl,q1,q2,c,a⟩⟩
def BV (w:aB) (B:Nat) (v:aE) (x:cC):Prop:=Av fG w B x v
def BV.be {x:cC} (h:BV w B v x):∃a c3,v=aY #[ap x.n,J I x.br,J I x.off,O a x.R.length c3]/\x.n.size<=9223372036854775807/\Vs lS w B (O a x.R.length c3) x.R:=by
 obtain⟨cs,rfl,v3,rfl,c,b⟩:=h;obtain⟨a,c3,rfl,_⟩:=b.be;exact⟨a,c3,rfl,c,b⟩
def Rw.gr {l:List cC} (h:Rw fG w B ao n l) (hB:aS w.heap.size w wr) {k:Nat} (g:k<l.length) {x:cC} (f:l[k]=x):∃b off a c3,ao=ad (ab b off M)/\b<w.heap.size/\(wr.cell? ⟨b,off+k*4,M⟩=ad (ap x.n)/\wr.cell? ⟨b,off+k*4+1,M⟩=ad (J I x.br)/\wr.cell? ⟨b,off+k*4+2,M⟩=ad (J I x.off)/\wr.cell? ⟨b,off+k*4+3,M⟩=ad (O a x.R.length c3))/\BV wr B (aY #[ap x.n,J I x.br,J I x.off,O a x.R.length c3]) x:=by
 obtain⟨b,off,vs,e,Z,d,h2⟩:=h.aL hB g;rw[f] at d;obtain⟨v3,rfl,q1,c⟩:=d;obtain⟨a,c3,rfl,_⟩:=c.be;exact⟨b,off,a,c3,e,Z,⟨h2 0 _ rfl,h2 1 _ rfl,h2 2 _ rfl,h2 3 _ rfl⟩,⟨_,rfl,_,rfl,q1,c⟩⟩
def ajS {l:List cv} {name:ByteArray} (a:k<l.length):(l.drop k).any (λr=>decide (r.n=name))=(decide (l[k].n=name)||(l.drop (k+1)).any (λr=>decide (r.n=name))):=by
 rw[pf a,List.any_cons]
theorem aaq (h:P:=by
 clear bg HE hv hx;have zu:=j9 x.n name;cases Z:decide (x.n=name) with
 |true=>
  rw[Z] at zu HT;have HF:=E (show r=true by rw[HT.A];rfl);have hq:x.n.toList=name.toList:=beq_iff_eq.1 zu;clear Z HT;go_wp2;go_ret;exact⟨cc HF.A.symm,bm.A⟩
 |false=>
  rw[Z] at zu HT;have HF:=E (show(l.drop (k+1)).any (λr=>decide (r.n=name))=r by rw[HT.A];rfl);clear Z HT;go_wp2;go_roundw;case rel=>exact⟨k+1,aR.A,by go_num,bm.A,HF⟩
  case measure=>exact ax
 ):P:=h
theorem aar (h:P:=by
 obtain rfl:k=l.length:=an;have HF:=E (show r=false by rw[<-HE.A,qT];rfl);go_wp2;go_ret;exact⟨cc HF.A.symm,bg⟩;):P:=h
def aas {l:List cv} (name:ByteArray) (w:aB) (h:Vs lS w B v l):aN aH 59 #[v,ap name] w λe w'=>e=aQ (aG (l.any λr=>decide (r.n=name)))/\aF w w':=by
 have d:=E (show(l.drop 0).any (λr=>decide (r.n=name))=l.any (λr=>decide (r.n=name)) from rfl);generalize l.any (λr=>decide (r.n=name))=r at d⊢;obtain⟨ao,c,rfl,f,y,z⟩:=h.be;clear h;have g:=E f;clear f;go_enter func59,ntmps59;go_wp2;go_loopw [9] (λi wr=>∃k:Nat,k<=l.length/\i=J I k/\aF w wr/\a6 ((l.drop k).any (λr=>decide (r.n=name))=r)) (λi _=>l.length-(intOf i).toNat);case atStart=>exact⟨0,an,rfl,aF.refl _,d⟩
 case round=>
  clear d;obtain⟨k,t,rfl,bg,HE⟩:=hrel;by_cases a:k<l.length
  ·obtain⟨x,hx⟩:=aP (l[k]);obtain⟨b,off,A2,c2,A7,c7,rfl,u,⟨s,q,p,o,n,m,j,A⟩,hv⟩:=g.A.vR bg.aC a hx;have HT:=E (ajS (name:=name) a);rw[hx,HE.A] at HT;have aR:=E a;have bm:=E (bg.alloc (aD #[ap x.n,ap x.x.s.n,O A2 x.x.s.aU.length c2,J I x.x.op,J I x.x.v,J I x.wait,J I x.keep,O A7 x.L.length c7] 51));exact aaq
  ·exact aar
def ajT {l:List cC} {name:ByteArray} (a:k<l.length):(l.drop k).any (λr=>decide (r.n=name))=(decide (l[k].n=name)||(l.drop (k+1)).any (λr=>decide (r.n=name))):=by
 rw[pf a,List.any_cons]
def aat {l:List cC} (name:ByteArray) (w:aB) (h:Vs fG w B v l):aN aH 42 #[v,ap name] w λe w'=>e=aQ (aG (l.any λr=>decide (r.n=name)))/\aF w w':=by
 have d:=E (show(l.drop 0).any (λr=>decide (r.n=name))=l.any (λr=>decide (r.n=name)) from rfl);generalize l.any (λr=>decide (r.n=name))=r at d⊢;obtain⟨ao,c,rfl,f,t,u⟩:=h.be;clear h;have g:=E f;clear f;go_enter func42,ntmps42;go_wp2;go_loopw [9] (λi wr=>∃k:Nat,k<=l.length/\i=J I k/\aF w wr/\a6 ((l.drop k).any (λr=>decide (r.n=name))=r)) (λi _=>l.length-(intOf i).toNat);case atStart=>exact⟨0,an,rfl,aF.refl _,d⟩
 case round=>
  clear d;obtain⟨k,q,rfl,bg,HE⟩:=hrel;by_cases a:k<l.length
  ·obtain⟨x,hx⟩:=aP (l[k]);obtain⟨b,off,j,c3,rfl,s,⟨p,o,n,m⟩,hv⟩:=g.A.gr bg.aC a hx;have HT:=E (ajT (name:=name) a);rw[hx,HE.A] at HT;have aR:=E a;have bm:=E (bg.alloc (aD #[ap x.n,J I x.br,J I x.off,O j x.R.length c3] 43));exact aaq
  ·exact aar
theorem aau (h:P:=by
 repeat (
  refine S4.step (λKK aJ=>?_);go_simp;first
   |(refine aJ _ ?_;clear aJ KK)
   |(apply lL;refine⟨λ_=>?_,aJ _ ?_⟩;(first|(with_reducible exact aN.seq (C1.A _))|(with_reducible exact aN.seq (C2.A _)));clear aJ KK))
 refine S4.nb λwq hq=>?_;refine dP ?_;go_wp2;go_roundw;case rel=>exact⟨k+1,aR.A,by go_num,gu.A.next hq,aav⟩
 case measure=>exact ax
 ):P:=h
theorem aaw (h:P:=by
 refine du (cU 0 12 []) [] ?_;repeat (
  refine S4.step (λKK aJ=>?_);go_simp;first
   |(refine aJ _ ?_;clear aJ KK)
   |(apply lL;refine⟨λ_=>?_,aJ _ ?_⟩;(first|(with_reducible exact aN.seq (C1.A _))|(with_reducible exact aN.seq (C2.A _)));clear aJ KK))
 refine S4.nb λwq hq=>?_;refine dP ?_;go_wp2;go_ret;exact⟨cc HF.A.symm,(b3.A.next hq)⟩;):P:=h
theorem Js (h:P:=by
 go_enter func41,ntmps41;go_wp2_with fail;refine(N0.A _).ah ?_;rintro e w1⟨rfl,rfl⟩;go_wp2_with fail;refine(Ga.A _).ah ?_;rintro e w1⟨rfl,rfl⟩;go_wp2;go_ret;exact⟨cc HF.A.symm,cV.A⟩;):P:=h
def ajU {x:cC} (w:aB) (h:BV w B v x):aN aH 41 #[v] w λe w'=>e=aQ (aG (lY x))/\aF w w':=by
 obtain⟨A,c3,rfl,hn,D⟩:=h.be;have a:=E (show lY x=(db x.n&&gm x.br&&!decide (x.br=0)&&(decide (0<=x.off)&&decide (x.off<x.br))&&decide (x.R.length<=16)&&cI x.R.length (lX x.R)) from rfl);generalize lY x=r at a⊢;have cV:=E ((aF.refl w).alloc (aD #[ap x.n,J I x.br,J I x.off,O A x.R.length c3] 43));have HX:=E (aI.new w 43 #[ap x.n,J I x.br,J I x.off,O A x.R.length c3]);have N0:=E (λW=>mu x.n W hn);have Ga:=E (λW=>Jm x.br W);obtain⟨Aq,cap,R5,F,N,Z⟩:=D.be;cases R5;have S:=E F;clear h D F;have U:=HX.A.cell;cases cN:db x.n with
 |false=>
  rw[cN] at N0;have HF:=E (show r=false by rw[a.A];simp[cN]);go_enter func41,ntmps41;go_wp2_with fail;refine(N0.A _).ah ?_;rintro e w1⟨rfl,rfl⟩;go_wp2;go_ret;exact⟨cc HF.A.symm,cV.A⟩
 |true=>
 rw[cN] at N0;cases g:gm x.br with
 |false=>
  rw[g] at Ga;have HF:=E (show r=false by rw[a.A];simp[cN,g]);exact Js
 |true=>
 rw[g] at Ga;by_cases c:x.br=0
 ·have e0:(x.br==0)=true:=by simp;exact c
  have HF:=E (show r=false by rw[a.A];simp[c]);clear c;exact Js
 have e0:(x.br==0)=false:=by simp;exact c
 have d:decide (x.br=0)=false:=aa c;by_cases z:0<=x.off;case neg=>
  have L:decide (x.off<0)=true:=ac an;have HF:=E (show r=false by rw[a.A];simp[z]);exact Js
 have L:decide (x.off<0)=false:=aa an;by_cases m:x.off<x.br;case neg=>
  have K:decide (x.br<=x.off)=true:=ac an;have HF:=E (show r=false by rw[a.A];simp[m]);exact Js
 have K:decide (x.br<=x.off)=false:=aa an;by_cases s:x.R.length<=16;case neg=>
  have H:decide (16<(x.R.length:Int))=true:=ac an;have R:decide (16<x.R.length)=true:=ac an;have HF:=E (show r=false by rw[a.A];simp[s]);exact Js
 have H:decide (16<(x.R.length:Int))=false:=aa an;have R:decide (16<x.R.length)=false:=aa an;have q:=E (show r=cI x.R.length (lX x.R) by rw[a.A,cN,g,d,ac z,ac m,ac s];simp);have G:=E (λ(h:cI x.R.length (lX x.R)=false)=>show r=false by rw[q.A,h]);have T:=E (λ(h:cI x.R.length (lX x.R)=true)=>show r=true by rw[q.A,h]);clear q a cN g c d z m s;go_enter func41,ntmps41;go_wp2_with fail;refine(N0.A _).ah ?_;rintro e w1⟨rfl,rfl⟩;go_wp2_with fail;refine(Ga.A _).ah ?_;rintro e w1⟨rfl,rfl⟩;clear N0 Ga;go_wp2;clear e0 L K H R U;go_loopw [39] (λi wr=>∃k:Nat,k<=x.R.length/\i=J I k/\aF (w.alloc (aD #[ap x.n,J I x.br,J I x.off,O A x.R.length c3] 43)) wr/\a6 (cI k (lX x.R)=true)) (λi _=>x.R.length-(intOf i).toNat);case atStart=>exact⟨0,an,rfl,aF.refl _,E rfl⟩
 case round=>
  obtain⟨k,o,rfl,f,t⟩:=hrel;by_cases u:k<x.R.length
  ·obtain⟨y,n⟩:=aP (x.R[k]);obtain⟨b,off,A2,c2,A7,c7,rfl,cw,⟨y0,y1,y2,y3,y4,y5,y6,F9⟩,hv⟩:=S.A.vR (cV.A.trans f).aC u n;have HK:=E (show lX x.R k=(ku y&&!((x.R.take k).any λr=>decide (r.n=y.n))) by
    unfold lX rN;rw[dr u,n])
   have aR:=E u;have b3:=E ((cV.A.trans f).alloc (aD #[ap y.n,ap y.x.s.n,O A2 y.x.s.aU.length c2,J I y.x.op,J I y.x.v,J I y.wait,J I y.keep,O A7 y.L.length c7] 51));have gu:=E (f.alloc (aD #[ap y.n,ap y.x.s.n,O A2 y.x.s.aU.length c2,J I y.x.op,J I y.x.v,J I y.wait,J I y.keep,O A7 y.L.length c7] 51));have V:=E (aI.new wr 51 #[ap y.n,ap y.x.s.n,O A2 y.x.s.aU.length c2,J I y.x.op,J I y.x.v,J I y.wait,J I y.keep,O A7 y.L.length c7]);have X:=E (hv.al ((bk _ _).alloc (aO _) (aD #[ap y.n,ap y.x.s.n,O A2 y.x.s.aU.length c2,J I y.x.op,J I y.x.v,J I y.wait,J I y.keep,O A7 y.L.length c7] 51)));have C1:=E (λp:ba (wr.alloc (aD #[ap y.n,ap y.x.s.n,O A2 y.x.s.aU.length c2,J I y.x.op,J I y.x.v,J I y.wait,J I y.keep,O A7 y.L.length c7] 51))=>(M3 p.aL (X.A.al p.aC)).mono λ_ _ h=>(⟨h.1,h.2.aC⟩:_/\aS p.aL.heap.size p.aL _));have Y:=E (S.A.take (i:=k) o);have C2:=E (λp:ba (wr.alloc (aD #[ap y.n,ap y.x.s.n,O A2 y.x.s.aU.length c2,J I y.x.op,J I y.x.v,J I y.wait,J I y.keep,O A7 y.L.length c7] 51))=>(aas y.n p.aL (show Vs lS p.aL B (O (ad (ab b off M)) k c3) (x.R.take k) from⟨_,_,_,rfl,Y.A.al (b3.A.aC.trans (p.aC.mono b3.A.size)),a8 o N,Z⟩)).mono λ_ _ h=>(⟨h.1,h.2.aC⟩:_/\aS p.aL.heap.size p.aL _));have hcut:=λW=>O4 underlying41 8 (show(aH.info? 51).map (·.size)=ad 8 by kernel_rfl) (ad (ab b off M)) x.R.length c3 k (a8 o N) W;have q0:=ba.cells V.A;have C:=(HX.A.al f.aC HX.A.lt).alloc (aD #[ap y.n,ap y.x.s.n,O A2 y.x.s.aU.length c2,J I y.x.op,J I y.x.v,J I y.wait,J I y.keep,O A7 y.L.length c7] 51);have z3:=ba.cells C 3;clear C;have l:=E (mw.1 t.A);clear hv n t;go_wp2_with fail;cases hs:ku y with
   |false=>
    rw[hs] at C1 HK;have HF:=E (show r=false from G.A (tV aR.A aqm));clear hs HK l;exact aaw
   |true=>
    rw[hs] at C1 HK;cases j:(x.R.take k).any (λr=>decide (r.n=y.n)) with
    |true=>
     rw[j] at C2 HK;have HF:=E (show r=false from G.A (tV aR.A aqm));clear hs j HK l;exact aaw
    |false=>
     rw[j] at C2 HK;have aav:=E (show cI (k+1) (lX x.R)=true from wW (mw.2 l.A) aqm);clear hs j HK l;refine du (cU 0 12 []) [] ?_;exact aau
  ·obtain rfl:k=x.R.length:=by omega
   have HF:=E (show r=true from T.A t.A);go_wp2;go_ret;exact⟨cc HF.A.symm,cV.A.trans f⟩
theorem aax (h:P:=by
 refine du (cU 0 11 []) [] ?_;repeat (
  refine S4.step (λKK aJ=>?_);go_simp;first
   |(refine aJ _ ?_;clear aJ KK)
   |(apply lL;refine⟨λ_=>?_,aJ _ ?_⟩;(first|(with_reducible exact aN.seq (C1.A _))|(with_reducible exact aN.seq (C2.A _)));clear aJ KK))
 refine S4.nb λwq hq=>?_;refine dP ?_;go_wp2;go_ret;exact⟨cc HF.A.symm,(b3.A.next hq)⟩;):P:=h
def R6 (w:aB) (h:Vs fG w B v F):aN aH 22 #[v] w λe w'=>e=aQ (aG (jf F))/\aF w w':=by
 obtain⟨ao,cap,rfl,s,x,K⟩:=h.be;have g:=E (show jf F=(decide (F.length<=16)&&cI F.length (nY F)) from rfl);generalize jf F=r at g⊢;have A:=E s;have d:=E (aF.refl w);clear h s;by_cases c:F.length<=16;case neg=>
  have HF:=E (show r=false by rw[g.A];simp[c]);have u:decide (16<(F.length:Int))=true:=ac an;have z:decide (16<F.length)=true:=ac an;clear c;go_enter func22,ntmps22;go_wp2;go_ret;exact⟨cc HF.A.symm,d.A⟩
 have u:decide (16<(F.length:Int))=false:=aa an;have z:decide (16<F.length)=false:=aa an;have n:=E (show r=cI F.length (nY F) by rw[g.A,ac c];simp);have t:=E (λ(h:cI F.length (nY F)=false)=>show r=false by rw[n.A,h]);have C:=E (λ(h:cI F.length (nY F)=true)=>show r=true by rw[n.A,h]);clear n g c;go_enter func22,ntmps22;go_wp2;clear u z;go_loopw [10] (λi wr=>∃k:Nat,k<=F.length/\i=J I k/\aF w wr/\a6 (cI k (nY F)=true)) (λi _=>F.length-(intOf i).toNat);case atStart=>exact⟨0,an,rfl,aF.refl _,E rfl⟩
 case round=>
  obtain⟨k,m,rfl,f,o⟩:=hrel;by_cases q:k<F.length
  ·obtain⟨y,l⟩:=aP (F[k]);obtain⟨b,off,A4,c4,rfl,U,⟨S,R,N,L⟩,hv⟩:=A.A.gr (d.A.trans f).aC q l;have HK:=E (show nY F k=(lY y&&!((F.take k).any λr=>decide (r.n=y.n))) by
    unfold nY Mm;rw[dr q,l])
   have aR:=E q;have b3:=E ((d.A.trans f).alloc (aD #[ap y.n,J I y.br,J I y.off,O A4 y.R.length c4] 43));have gu:=E (f.alloc (aD #[ap y.n,J I y.br,J I y.off,O A4 y.R.length c4] 43));have D:=E (aI.new wr 43 #[ap y.n,J I y.br,J I y.off,O A4 y.R.length c4]);have G:=E (hv.al ((bk _ _).alloc (aO _) (aD #[ap y.n,J I y.br,J I y.off,O A4 y.R.length c4] 43)));have C1:=E (λp:ba (wr.alloc (aD #[ap y.n,J I y.br,J I y.off,O A4 y.R.length c4] 43))=>(ajU p.aL (G.A.al p.aC)).mono λ_ _ h=>(⟨h.1,h.2.aC⟩:_/\aS p.aL.heap.size p.aL _));have H:=E (A.A.take (i:=k) m);have C2:=E (λp:ba (wr.alloc (aD #[ap y.n,J I y.br,J I y.off,O A4 y.R.length c4] 43))=>(aat y.n p.aL (show Vs fG p.aL B (O (ad (ab b off M)) k cap) (F.take k) from⟨_,_,_,rfl,H.A.al (b3.A.aC.trans (p.aC.mono b3.A.size)),a8 m x,K⟩)).mono λ_ _ h=>(⟨h.1,h.2.aC⟩:_/\aS p.aL.heap.size p.aL _));have hcut:=λW=>O4 underlying25 4 (show(aH.info? 43).map (·.size)=ad 4 by kernel_rfl) (ad (ab b off M)) F.length cap k (a8 m x) W;have T:=ba.cells D.A;have j:=E (mw.1 o.A);clear hv l o;go_wp2_with fail;cases hs:lY y with
   |false=>
    rw[hs] at C1 HK;have HF:=E (show r=false from t.A (tV aR.A aqm));clear hs HK j;exact aax
   |true=>
    rw[hs] at C1 HK;cases a:(F.take k).any (λr=>decide (r.n=y.n)) with
    |true=>
     rw[a] at C2 HK;have HF:=E (show r=false from t.A (tV aR.A aqm));clear hs a HK j;exact aax
    |false=>
     rw[a] at C2 HK;have aav:=E (show cI (k+1) (nY F)=true from wW (mw.2 j.A) aqm);clear hs a HK j;refine du (cU 0 11 []) [] ?_;exact aau
  ·obtain rfl:k=F.length:=by omega
   have HF:=E (show r=true from C.A o.A);go_wp2;go_ret;exact⟨cc HF.A.symm,d.A.trans f⟩
variable {b:Nat} {T e:bf}
def abB (h:n<100):(qU n).length<=2:=by
 by_cases a:n<10
 ·rw[Lib.decDigits_one a];simp
 ·rw[Lib.decDigits_two a h];simp
def SZ {s:ByteArray} (h:s.size<100):(kU s).length<=102:=by
 have:=abB h;have h2:s.data.toList.length=s.size:=av;unfold kU;simp only[b2,pY,h2];omega
def S1:∀{L:aZ},(∀p∈L,p.1.size<100/\p.2.size<100)->(iN L).length<=L.length*204
 |[],_=>by simp[iN]
 |p::L,h=>by
  have c:=S1 (L:=L) (λq a=>h q (by simp[a]))
  have h2:=SZ (h p av).1
  have b:=SZ (h p av).2
  have:iN (p::L)=kU p.1++kU p.2++iN L:=by simp[iN,DM]
  rw[this]
  simp only[b2,pY]
  omega
def akW (a:k<L.length):iN (L.take (k+1))=iN (L.take k)++DM L[k]:=by
 unfold iN;rw[yz a,List.flatMap_append];simp
def _root_.Go.Lib.BuilderAt.abC {p:aE} {bs:List aE} (h:Lib.BuilderAt T e B b p bs w) (o:Obj):Lib.BuilderAt T e B b p bs (w.alloc o):=by
 have d:=h.lt;obtain⟨c,v,h2,a,h4⟩:=h;exact⟨c,v,(Lib.alloc_old w o b d).trans h2,a.alloc o,h4⟩
def strSize (w:aB):(Go.sizeOf 9).run aH w= .ok 1 w:=ar
def akX (a b:aE) (w:aB):(mX 334 (aY #[a,b]) (J I 0)).run aH w= .ok a w:=by
 unfold mX;simp[asIntOf,mf underlying334,part,isAgg,strSize,mf underlying9]
def akY (a b:aE) (w:aB):(mX 334 (aY #[a,b]) (J I 1)).run aH w= .ok b w:=by
 unfold mX;simp[asIntOf,mf underlying334,part,isAgg,strSize,mf underlying9]
abbrev El (B b:Nat) (l:List UInt8) (w:aB):Prop:=Lib.IsBuilder 333 5 B b (Lib.byteCells l) w
def S2 {G:Nat} (w:aB) (h:Vs bE w G v L) (hs:bH L=true):aN aH 187 #[v] w λe w'=>e=aQ (ap (sM L))/\aF w w':=by
 have cg:=(nN.1 hs).1;have Q:=E (Mj hs);obtain⟨ao,c,rfl,R,cn,b4⟩:=h.hN;clear h;have HP:=E R;clear R;have U:=E (show El w.heap.size w.heap.size (iN (L.take 0)) (w.alloc (aD #[.pointer M,O M 0 0] 333)) from Lib.fresh_isBuilder _ _ w);have X:=E ((aF.refl w).alloc (aD #[.pointer M,O M 0 0] 333));go_enter func187,ntmps187;go_wp2;go_loopw [10] (λi wr=>∃k:Nat,k<=L.length/\i=J I k/\aF w wr/\a6 (El w.heap.size w.heap.size (iN (L.take k)) wr)) (λi _=>L.length-(intOf i).toNat);case atStart=>exact⟨0,an,rfl,X.A,U⟩
 case round=>
  clear U X;obtain⟨k,hk,rfl,d,a⟩:=hrel;by_cases C:k<L.length
  ·obtain⟨b,off,rfl,cw,ft,dS⟩:=HP.A.cells (B:=0) d.aC C;have H:=E (akW C);have T:=E (show(iN (L.take k)).length<=3264 from a8 (S1 λp hp=>Q.A p (List.mem_of_mem_take hp)) (by rw[tH];omega));have t:=E (Q.A L[k] (dl C));rw[sA C] at H t;generalize nm L k=s0 at*;generalize vl L k=s1 at*;have V:=E (d.alloc (aD #[ap s0,ap s1] 78));have K:=E (show El w.heap.size w.heap.size (iN (L.take k)) (wr.alloc (aD #[ap s0,ap s1] 78)) from a.A.imp (λh=>h.abC _) (λh=>h.abC _));have Y:=E (show iN (L.take (k+1))=iN (L.take k)++(kU s0++kU s1) from H.A);have aR:=E C;generalize iN (L.take k)=aT at*;clear d a H;go_wp2;go_loopw [19] (λi N=>∃j:Nat,j<=2/\i=J I j/\aF w N/\a6 (El w.heap.size w.heap.size (aT++(if j=0 then[] else if j=1 then kU s0 else kU s0++kU s1)) N)) (λi _=>2-(intOf i).toNat);case atStart=>exact⟨0,an,rfl,V.A,E (am K.A)⟩
   case round=>
    clear V K;obtain⟨j,hj,rfl,g,a⟩:=hrel;have r:∀(s:ByteArray) (l:List UInt8) (W:aB),s.size<100->l.length<=4000->aF w W->El w.heap.size w.heap.size l W->aN aH 225 #[bl (ad (ab w.heap.size 0 M)),ap ⟨(qU s.size).toArray⟩] W λe f=>e=aQ (bn #[J I ((qU s.size).length:Nat),.nilIface])/\aF w f/\aN aH 226 #[bl (ad (ab w.heap.size 0 M)),J .u8 32] f λe o=>e=aQ .nilIface/\aF w o/\aN aH 225 #[bl (ad (ab w.heap.size 0 M)),ap s] o λe u=>e=aQ (bn #[J I s.size,.nilIface])/\aF w u/\El w.heap.size w.heap.size (l++kU s) u:=by
     intro s l W hs ha hB hI;have hd:=abB hs;refine(abz w.heap.size w.heap.size _ ⟨(qU s.size).toArray⟩ W hI (by rw[Lib.byteCells_length];show l.length+(qU s.size).toArray.size<=_;rw[lM];omega) hB.size).ah ?_;rintro e f⟨rfl,S,aW⟩;have d:aF w f:=aF.of (hB.aC.trans aW);refine⟨rfl,d,?_⟩;rw[Lib.strCells_eq,<-Lib.byteCells_append] at S;refine(akV w.heap.size w.heap.size _ 32 f (.inr S) (by rw[Lib.byteCells_length,b2];show l.length+(qU s.size).toArray.toList.length+1<=_;simp;omega) d.size).ah ?_;rintro e o⟨rfl,h2,bd⟩;have z:aF w o:=aF.of (d.aC.trans bd);refine⟨rfl,z,?_⟩;rw[show(J .u8 32)=J .u8 ((32:UInt8).toNat:Int) from rfl,show[J .u8 ((32:UInt8).toNat:Int)]=Lib.byteCells [32] from rfl,<-Lib.byteCells_append] at h2;refine(abz w.heap.size w.heap.size _ s o (.inr h2) (by rw[Lib.byteCells_length,b2,b2];show l.length+(qU s.size).toArray.toList.length+1+s.size<=_;simp;omega) z.size).ah ?_;rintro e u⟨rfl,F,ct⟩;refine⟨rfl,aF.of (z.aC.trans ct),.inr ?_⟩;rw[Lib.strCells_eq,<-Lib.byteCells_append] at F;have he:l++(qU s.size).toArray.toList++[32]++s.data.toList=l++kU s:=by unfold kU;simp
     rw[show(⟨(qU s.size).toArray⟩:ByteArray).data.toList=(qU s.size).toArray.toList from rfl,he] at F;exact F
    have r:=E r;rcases(show j=0\/j=1\/j=2 by omega) with rfl|rfl|rfl
    ·have D:=E (r.A s0 _ _ t.A.1 (by have:=T.A;simp;omega) g a.A);have y:=Tryz.strconv_Itoa_small s0.size t.A.1;have fL:=λW=>akX (ap s0) (ap s1) W;clear a g r;go_wp2_with fail;refine(y _).ah ?_;rintro e f⟨rfl,rfl⟩;clear y;go_wp2_with fail;refine D.A.ah ?_;rintro e f⟨rfl,d,n⟩;clear D;have n:=E n;go_wp2_with fail;refine n.A.ah ?_;rintro e o⟨rfl,z,m⟩;clear n;have m:=E m;go_wp2_with fail;refine m.A.ah ?_;rintro e u⟨rfl,g,q⟩;clear m;have q:=E q;go_wp2;go_roundw;case rel=>exact⟨1,an,by go_num,g,E (am q.A)⟩
     case measure=>simp[intOf]
    ·have D:=E (r.A s1 _ _ t.A.2 (by have:=T.A;have:=SZ t.A.1;simp;omega) g a.A);have y:=Tryz.strconv_Itoa_small s1.size t.A.2;have fL:=λW=>akY (ap s0) (ap s1) W;clear a g r;go_wp2_with fail;refine(y _).ah ?_;rintro e f⟨rfl,rfl⟩;clear y;go_wp2_with fail;refine D.A.ah ?_;rintro e f⟨rfl,d,n⟩;clear D;have n:=E n;go_wp2_with fail;refine n.A.ah ?_;rintro e o⟨rfl,z,m⟩;clear n;have m:=E m;go_wp2_with fail;refine m.A.ah ?_;rintro e u⟨rfl,g,q⟩;clear m;have q:=E q;go_wp2;go_roundw;case rel=>exact⟨2,an,by go_num,g,E (am q.A)⟩
     case measure=>simp[intOf]
    ·have HE:=E (show El w.heap.size w.heap.size (iN (L.take (k+1))) wr by rw[Y.A];simpa using a.A);clear a r;go_wp2;go_roundw;case rel=>exact⟨k+1,aR.A,by go_num,g,HE⟩
     case measure=>exact ax
  ·obtain rfl:k=L.length:=by omega
   rw[pZ] at a;have bS:=Tryz.Builder_String_any w.heap.size w.heap.size (iN L) wr a.A d.size;clear a;go_wp2_with fail;refine bS.ah ?_;rintro e f⟨rfl,Z⟩;go_wp2;go_ret;exact⟨rfl,aF.of (d.aC.trans Z)⟩
variable {aT:List cJ}
def uK:KK aH 9 aZ where
 law:=Go.Maps.string_keyed underlying9
 kv L:=.string (sM L)
 ok L:=bH L=true
 lit:=λL hs=>⟨.string (sM L).data.toList,by
  have h1:=S1 (Mj hs)
  have h2:=(nN.1 hs).1
  have h3:(sM L).size<=bK:=by
   show(iN L).toArray.size<=_
   rw[lM]
   simp only[bK]
   omega
  unfold keyOf
  rw[underlying9]
  simp[mapKey,underlying9,h3]⟩
 inj:=λa b ha Z h=>ahv ha Z (by injection h)
def zS (l:List cJ) (k:Nat):aZ:=(l.getD k default).L
def Ce (l:List cJ) (k:Nat):dC:=(l.getD k default).x
def NE {l:List cJ} (h:k<l.length):l[k]=⟨zS l k,Ce l k⟩:=by unfold zS Ce;rw[dr h]
def Rw.NF {l:List cJ} (h:Rw kN w B ao n l) (hB:aS w.heap.size w wr) {k:Nat} (a:k<l.length):∃b off A0 c0,ao=ad (ab b off M)/\b<w.heap.size/\wr.cell? ⟨b,off+k*3,M⟩=ad (O A0 (zS l k).length c0)/\wr.cell? ⟨b,off+k*3+1,M⟩=ad (J I (Ce l k).1)/\wr.cell? ⟨b,off+k*3+2,M⟩=ad (J I (Ce l k).2)/\Vs bE wr B (O A0 (zS l k).length c0) (zS l k):=by
 obtain⟨b,off,vs,e,Z,d,h2⟩:=h.aL hB a;rw[<-dr a] at d;obtain⟨v0,rfl,c⟩:=d;obtain⟨A0,c0,rfl,_⟩:=c.be;exact⟨b,off,A0,c0,e,Z,h2 0 _ rfl,h2 1 _ rfl,h2 2 _ rfl,c⟩
def ak0 (aT:List cJ) (f:cJ):it (aT++[f])=it aT++[(f.L,f)]:=by unfold it;rw[lK];rfl
def S3:gF (it aT) L=M↔L∉aT.map (·.L):=by
 unfold gF it;rw[Option.map_eq_none_iff,List.find?_eq_none];constructor
 ·intro h c;obtain⟨f,a,e⟩:=hM.1 c;exact h (f.L,f) (hM.2 ⟨f,a,rfl⟩) (am e)
 ·intro h x b e;obtain⟨f,a,rfl⟩:=hM.1 b;exact h (hM.2 ⟨f,a,am e⟩)
def ak1 {l:List cJ} (a:k<l.length) (aT:List cJ):(l.drop k).foldl pB aT=(l.drop (k+1)).foldl pB (pB aT l[k]):=by
 rw[pf a];rfl
def ak2 {l:List cJ} (w:aB) (hB:B<=w.heap.size) (h:Vs kN w B v l) (ce:l.length<=100000):aN aH 186 #[v] w λe w'=>(∃W r,e=aQ (bn #[W,.map (ad r)])/\Ow kN w' B w.heap.size W (lW l)/\Mt uK kN w' B r (it (lW l))/\w.heap.size<=r)/\aF w w':=by
 have HR:=E (show(l.drop 0).foldl pB []=lW l from rfl);generalize lW l=r at HR⊢;obtain⟨ao,cap,rfl,hR,hl,hc⟩:=h.be;have HP:=E hR;have di:=E hB;have bR:=E ((aF.refl w).alloc (.map #[] 0));have Y:=E (Mt.made uK kN w B);have ka:=run_makeMap (P:=aH) 280 w;clear h hR hB;go_enter func186,ntmps186;go_wp2;clear ka;obtain⟨R,F⟩:=aP w.heap.size;rw[F] at Y;simp only[F];have eo:=E F;clear F;go_loopw [4,14] (λa i wr=>∃(k:Nat) (aT:List cJ),k<=l.length/\i=J I k/\a6 (aT.length<=k/\(l.drop k).foldl pB aT=r)/\aF w wr/\Ow kN wr B w.heap.size a aT/\a6 (Mt uK kN wr B R (it aT))) (λ_ i _=>l.length-(intOf i).toNat);case atStart=>exact⟨0,[],an,rfl,E ⟨aO _,HR.A⟩,bR.A,Ow.bh _ _ _ _,Y⟩
 case round=>
  clear bR Y;obtain⟨k,aT,hk,rfl,K,L,bc,U⟩:=hrel;by_cases S:k<l.length
  ·obtain⟨b,off,d,c3,rfl,cw,y0,y1,y2,bZ⟩:=HP.A.NF L.aC S;have j:=E (ak1 S aT);rw[K.A.2,NE S] at j;have q:=E K.A.1;have aR:=E S;generalize zS l k=L3 at*;obtain⟨⟨c,x2⟩,hx⟩:∃x,Ce l k=x:=⟨_,rfl⟩;rw[hx] at j;simp only[hx] at y1 y2;clear hx K;have eS:=E (bc.alloc (aD #[O d L3.length c3,J I c,J I x2] 286));have e6:=E (L.alloc (aD #[O d L3.length c3,J I c,J I x2] 286));have S5:=E (U.A.alloc (aD #[O d L3.length c3,J I c,J I x2] 286));have t:=E (bZ.al ((bk _ _).alloc (aO _) (aD #[O d L3.length c3,J I c,J I x2] 286)));have HX:=E (aI.new wr 286 #[O d L3.length c3,J I c,J I x2]);have aM:=E (show R<wr.heap.size from U.A.lt);clear bc L bZ U;have m:=HX.A.cell 0;simp at m;by_cases c1:bH L3=true;case neg=>
    have d1:bH L3=false:=am c1;have g:=E (show(l.drop (k+1)).foldl pB aT=r by rw[j.A];unfold pB;rw[af (λh=>c1 h.1)]);clear c1 j;go_wp2_with fail;refine(MU _ t.A).ah ?_;rintro e w2⟨rfl,Z⟩;have H:=E (e6.A.trans Z);have D:=E (eS.A.al Z.aC);have u:=E (S5.A.al Z.aC);clear Z;rw[d1];go_wp2;go_roundw;case rel=>exact⟨k+1,aT,aR.A,by go_num,E ⟨Nat.le_succ_of_le q.A,g.A⟩,H.A,D.A,u⟩
    case measure=>exact ax
   go_wp2_with fail;refine(MU _ t.A).ah ?_;rintro e w2⟨rfl,Z⟩;have H:=E (e6.A.trans Z);have D:=E (eS.A.al Z.aC);have u:=E (S5.A.al Z.aC);have iJ:=E (t.A.al Z.aC);have G:=E (HX.A.al Z.aC HX.A.lt);clear Z e6 eS S5 t HX m;rw[c1];have m:=G.A.cell 0;simp at m;go_wp2_with fail;refine(S2 _ iJ.A c1).ah ?_;rintro e w3⟨rfl,Z⟩;have N:=E (H.A.trans Z);have s:=E (D.A.al Z.aC);have n:=E (u.A.al Z.aC);have D8:=E (iJ.A.al Z.aC);have l5:=E (G.A.al Z.aC G.A.lt);clear Z H D u iJ G m;have p:(ap (sM L3))=uK.kv L3:=rfl;have HC:=E c1;rcases n.A.look (a:=L3) c1 underlying280 (z:=aY #[O M 0 0,J I 0,J I 0]) ar true with⟨hn,fk⟩|⟨x,vx,hs,zT,fk⟩
   ·rw[<-p] at fk;simp only[if_true] at fk;have HN:=E hn;have g:=E (show(l.drop (k+1)).foldl pB (aT++[⟨L3,(c,x2)⟩])=r by rw[j.A];unfold pB;rw[ag ⟨c1,S3.1 hn⟩]);clear hn c1 p j;have Q:=E (N.A.alloc (aD #[O M 0 0,J I 0,J I 0] 286));have C:=E (s.A.alloc (aD #[O M 0 0,J I 0,J I 0] 286));have o:=E (n.A.alloc (aD #[O M 0 0,J I 0,J I 0] 286));have eH:=E (D8.A.al ((bk _ _).alloc (aO _) (aD #[O M 0 0,J I 0,J I 0] 286)));have DY:=l5.A.alloc (aD #[O M 0 0,J I 0,J I 0] 286);clear N s n D8;have eU:=E DY;have m:=DY.cell;obtain⟨w5,bS,X,V,oS⟩:=o.A.store (a:=L3) (x:=(⟨L3,(c,x2)⟩:cJ)) (v:=aY #[O d L3.length c3,J I c,J I x2]) HC.A underlying280 ⟨[O d L3.length c3,J I c,J I x2],rfl,⟨_,rfl,eH.A⟩⟩ (aj di.A eo.A) (λT=>o.A.lk T);have bS:(Instr.mapUpdate 280 (.map (ad R)) (ap (sM L3)) (aY #[O d L3.length c3,J I c,J I x2])).run aH (w3.alloc (aD #[O M 0 0,J I 0,J I 0] 286))= .ok () w5:=bS;have dw:=E (Q.A.cD V (ai eo.A));have gH:=E (C.A.keep oS av av);have je:=E (eH.A.keep oS av av);have jV:=E (eU.A.cD V (ai aM.A));rw[Ly (λe he IE=>by
     have:=S3.1 HN.A;unfold it at he;obtain⟨f,hf,rfl⟩:=hM.1 he;exact this (hM.2 ⟨f,hf,IE⟩)),show it aT++[(L3,(⟨L3,(c,x2)⟩:cJ))]=it (aT++[⟨L3,(c,x2)⟩]) from(ak0 aT ⟨L3,(c,x2)⟩).symm] at X
    have En:=E X;have h0:=jV.A.cell;clear V oS X DY l5 eU Q C o eH;have aJ:=E (dw.A.size);go_wp2_with ((refine uv kN au (.tmp 36) (.tmp 38) 241 au w.heap.size 40 _ ar QH au aq B _ aT au w5 [O d L3.length c3,J I c,J I x2] ⟨L3,(c,x2)⟩ au gH.A ⟨_,rfl,je.A⟩ (aj q.A aR.A) aJ.A di.A QI ?_;intro W w' bC fA eZ pI));go_roundw;case rel=>exact⟨k+1,_,aR.A,by go_num,E ⟨by simp;have:=q.A;omega,g.A⟩,fA _ dw.A (aO _),bC,E (En.A.keep eZ aq (pI R En.A.lt (λT=>En.A.lk T)))⟩
    case measure=>exact ax
   ·rw[<-p] at fk;simp only[if_true] at fk;obtain⟨cs,rfl,v9,rfl,nT⟩:=zT;obtain⟨A9,c9,rfl,_⟩:=nT.be;have g:=E (show(l.drop (k+1)).foldl pB aT=r by
     rw[j.A];unfold pB;rw[af];rintro⟨_,h⟩;rw[S3.2 h] at hs;cases hs)
    clear hs c1 p j nT;have Q:=E (N.A.alloc (aD #[O A9 x.L.length c9,J I x.x.1,J I x.x.2] 286));have C:=E (s.A.alloc (aD #[O A9 x.L.length c9,J I x.x.1,J I x.x.2] 286));have o:=E (n.A.alloc (aD #[O A9 x.L.length c9,J I x.x.1,J I x.x.2] 286));clear N s n;go_wp2;go_roundw;case rel=>exact⟨k+1,aT,aR.A,by go_num,E ⟨Nat.le_succ_of_le q.A,g.A⟩,Q.A,C.A,o⟩
    case measure=>exact ax
  ·obtain rfl:k=l.length:=by omega
   have g:=E (show aT=r by have:=K.A.2;rwa[qT] at this);have mY:=E (show w.heap.size<=R by rw[eo.A];exact aO _);go_wp2;go_ret2;exact⟨⟨_,_,rfl,g.A▸bc,g.A▸U.A,mY.A⟩,L⟩
variable {W:aB} {us:List aE}
def J1 {x:b8} {vs:List aE} (h:dV.rel W B x vs):∃ao c,vs=[O ao x.L.length c,aG x.h.on,J I x.h.dB,aG x.h.hit,J I x.h.eW,J I x.st,J I x.v]/\Vs bE W B (O ao x.L.length c) x.L:=by
 obtain⟨v0,rfl,a⟩:=h;obtain⟨A0,c0,rfl,_⟩:=a.be;exact⟨A0,c0,rfl,a⟩
def ak3 {x y:b8} {vs:List aE} (m:dV.rel W B x vs) (l:dV.rel W B y us):aN aH 232 (#[.agg vs.toArray,.agg us.toArray]++#[]) W λe w'=>e=aQ (J I (fu (dG x.L) (dG y.L)))/\cm W w':=by
 obtain⟨ao,c,rfl,n⟩:=J1 m;obtain⟨A2,c2,rfl,k⟩:=J1 l;have o:=E n;have j:=E k;obtain⟨h,h2,g,h4⟩:=x.h;obtain⟨f,d,b,a⟩:=y.h;have i:=E (((cm.refl W).alloc (aD #[O ao x.L.length c,aG h,J I h2,aG g,J I h4,J I x.st,J I x.v] 62)).alloc (aD #[O A2 y.L.length c2,aG f,J I d,aG b,J I a,J I y.st,J I y.v] 62));have q:=E (LJ _ (o.A.al i.A.aC) (j.A.al i.A.aC));have cH:=(aI.new W 62 #[O ao x.L.length c,aG h,J I h2,aG g,J I h4,J I x.st,J I x.v]).alloc (aD #[O A2 y.L.length c2,aG f,J I d,aG b,J I a,J I y.st,J I y.v] 62);have gz:=aI.new (W.alloc (aD #[O ao x.L.length c,aG h,J I h2,aG g,J I h4,J I x.st,J I x.v] 62)) 62 #[O A2 y.L.length c2,aG f,J I d,aG b,J I a,J I y.st,J I y.v];have g1:=cH.cell 0;have g2:=gz.cell 0;clear cH gz n k m l o j;show aN aH 232 #[aY #[O ao x.L.length c,aG h,J I h2,aG g,J I h4,J I x.st,J I x.v],aY #[O A2 y.L.length c2,aG f,J I d,aG b,J I a,J I y.st,J I y.v]] W _;go_enter func232,ntmps232;go_wp2_with fail;refine q.A.ah ?_;rintro e r⟨rfl,Z⟩;have p:=E (i.A.trans Z);clear Z;go_wp2;go_ret;exact⟨rfl,p.A⟩
def ak4 (B base:Nat) (w:aB) (v:aE) (l:List b8) (f:Ow dV w B base v l) (hB:B<=base) (g:l.length<=1000):aN aH 231 #[v,.func (.func 232) #[] #[]] w λe w'=>e=aQ (bn #[])/\∃b,b.Perm l/\(b.Pairwise λx y=>¬fu (dG y.L) (dG x.L)<0)/\Ow dV w' B base v b/\Kt B [dV.e] w w'/\(∀a,cm a w->a.heap.size<=base->cm a w')/\∀a,aF a w->a.heap.size<=base->aF a w':=by
 refine P3 dV Tryz.agC (λw=>by kernel_rfl) (λw=>by kernel_rfl) lg (λa=>dG a.L) 232 #[] (enters_of func232 ar rfl) B base w ?_ v l f hB MF an;intro W x y vs us _ d c;exact ak3 d c
def ak5 {es:List (aZ×b8)} (w:aB) (hB:B<=w.heap.size) (h:Mt uK dV w B b es) (ce:es.length<=1000):aN aH 190 #[.map (ad b)] w λe w'=>(∃q,e=aQ q/\∃c:List b8,c.Perm (es.map (·.2))/\(c.Pairwise λx y=>¬fu (dG y.L) (dG x.L)<0)/\Ow dV w' B w.heap.size q c)/\aF w w':=by
 have u:=E hB;obtain⟨Y,JO,hit,hg,bJ⟩:=h.range (t:=283) underlying283;have W:=E (show aF w Y from aF.of ⟨hg.os,hg.tape,hg.output,an,λi hi=>hg.block i hi av⟩);have H:=E hit;have QJ:=E h.lt;clear h hg bJ hit hB;go_enter func190,ntmps190;go_wp2;clear JO;obtain⟨r,o⟩:=aP w.heap.size;have X:=E o;rw[o] at H;simp only[o];clear o;go_loopw [3] (λa wr=>∃(aT:List b8) (todo:List (aZ×b8)),aF w wr/\Ow dV wr B w.heap.size a aT/\a6 (j7 uK dV wr B r b es todo)/\a6 ((aT++todo.map (·.2)).Perm (es.map (·.2)))) (λ_ wr=>wr.rangeLeft b r);case atStart=>exact⟨[],es,W.A,Ow.bh _ _ _ _,H,E av⟩
 case round=>
  clear H W;obtain⟨aT,todo,hB,V,F,z⟩:=hrel;have C:=E V;have G:=E hB;have R:=E (show aT.length<=1000 by have:=z.A.length_eq;simp at this;omega);clear V hB;rcases F.A.next (aj X.A u.A) 0 with⟨rfl,Bd⟩|⟨t1,a,x,t2,v,w2,rfl,zT,Bd,LC,ck,b6,E3,eV⟩
  ·have s:=E (show aT.Perm (es.map (·.2)) by simpa using z.A);go_wp2_with fail;refine(ak4 B w.heap.size _ _ aT C.A u.A R.A).ah ?_;rintro e K⟨rfl,c,N,hs,m,cx,Dr,Q⟩;have p:=E (show c.Perm (es.map (·.2))/\(c.Pairwise λx y=>¬fu (dG y.L) (dG x.L)<0)/\Ow dV K B w.heap.size _ c/\aF w K from⟨N.trans s.A,hs,m,Q _ G.A (aO _)⟩);clear N hs m cx Dr Q;go_wp2;go_ret;exact⟨⟨_,rfl,c,p.A.1,p.A.2.1,p.A.2.2.1⟩,p.A.2.2.2⟩
  ·obtain⟨cs,rfl,S⟩:=zT;obtain⟨A1,c1,rfl,M⟩:=J1 S;obtain⟨k,⟨f,h2,d,h4⟩,j,g⟩:=x;dsimp only at*;have D:=E (show(t1++t2).length<wr.rangeLeft b r by rw[F.A.left];simp);have U:=E ((G.A.cD ck (ai X.A)).alloc (aD #[O A1 k.length c1,aG f,J I h2,aG d,J I h4,J I j,J I g] 62));have dF:=E ((C.A.keep eV av av).alloc (aD #[O A1 k.length c1,aG f,J I h2,aG d,J I h4,J I j,J I g] 62));have l:=E (LC.alloc (aD #[O A1 k.length c1,aG f,J I h2,aG d,J I h4,J I j,J I g] 62));have iJ:=E (M.al ((bk _ _).alloc (aO _) (aD #[O A1 k.length c1,aG f,J I h2,aG d,J I h4,J I j,J I g] 62)));have s:=E (show((aT++[(⟨k,⟨f,h2,d,h4⟩,j,g⟩:b8)])++(t1++t2).map (·.2)).Perm (es.map (·.2)) by
    refine List.Perm.trans ?_ z.A;rw[mV];refine List.Perm.append_left _ ?_;simp only[lK,sd];rw[List.singleton_append];exact List.perm_middle.symm)
   have Z:=E (show aT.length+1<=1001 by have:=R.A;omega);clear LC ck b6 eV S M F C G;go_wp2_with ((refine uv dV au (.tmp 12) (.tmp 14) 54 au w.heap.size 72 _ ar Rq au aq B _ aT au (w2.alloc (aD #[O A1 k.length c1,aG f,J I h2,aG d,J I h4,J I j,J I g] 62)) [O A1 k.length c1,aG f,J I h2,aG d,J I h4,J I j,J I g] ⟨k,⟨f,h2,d,h4⟩,j,g⟩ (by rw[eO];rfl) dF.A ⟨_,rfl,iJ.A⟩ (ai Z.A) U.A.size u.A MF ?_;intro q w' bC fA eZ L));have n:=E (l.A.of_block eZ aq (L r l.A.lt (λT=>l.A.lk T)) (L b l.A.mt.lt (λT=>l.A.mt.lk T)));go_roundw;case rel=>exact⟨_,_,fA _ U.A (aO _),bC,n,s⟩
   case measure=>
    show w'.rangeLeft b r<_;rw[n.A.left];exact D.A
variable {B2:Nat}
def Vs.AH (D:Kr α) {W:aB} {B:Nat} {y:α} {vs:List aE} (hrel:D.rel W B y vs):Vs D (W.alloc (aD vs.toArray D.e)) B (O (ad (ab W.heap.size 0 M)) 1 1) [y]:=by
 have c:=D.len hrel;have b:=(bk W.heap.size W).alloc (aO _) (aD vs.toArray D.e);have a:=aI.new W D.e vs.toArray;refine⟨_,1,1,rfl,⟨rfl,vs,Rs.single (D.al hrel b),λ_=>?_⟩,aO _,an⟩;refine⟨W.heap.size,0,rfl,.inr (bp.bO a),λi hi=>?_⟩;rw[ig,a.cell];simp only[dd];rw[List.getElem?_toArray,cR (by omega:i<vs.length)];rfl
theorem NG (h:P:=by
 go_enter func192,ntmps192;go_wp2;go_ret;exact⟨cc (by simp[xi]),rfl⟩;):P:=h
def ak6 (op v d:Int) (w:aB):aN aH 192 #[J I op,J I v,J I d] w λe w'=>e=aQ (aG (xi op v d))/\w'=w:=by
 by_cases c:op=1
 ·subst c;exact NG
 by_cases h2:op=2
 ·subst h2;exact NG
 by_cases b:op=3
 ·subst b;exact NG
 by_cases h4:op=4
 ·subst h4;exact NG
 by_cases a:op=5
 ·subst a;go_enter func192,ntmps192;go_wp2;go_ret;exact⟨cc (by simp only[xi];rw[Bool.eq_iff_iff];simp),rfl⟩
 by_cases h6:op=6
 ·subst h6;go_enter func192,ntmps192;go_wp2;go_ret;exact⟨cc (by simp only[xi];rw[Bool.eq_iff_iff];simp),rfl⟩
 have f:=E (show xi op v d=false by simp[xi,c,h2,b,h4,a,h6]);have m:(op==1)=false:=by simp;exact c
 have l:(op==2)=false:=by simp;exact h2
 have k:(op==3)=false:=by simp;exact b
 have g:(op==4)=false:=by simp;exact h4
 have i:(op==5)=false:=by simp;exact a
 have j:(op==6)=false:=by simp;exact h6
 clear c h2 b h4 a h6;go_enter func192,ntmps192;go_wp2;go_ret;exact⟨cc f.A.symm,rfl⟩
def ak7 {l:List cJ} (a:k<l.length):(l.drop k).any (λf=>decide (cmpL f.L L=0))=(decide (cmpL l[k].L L=0)||(l.drop (k+1)).any (λf=>decide (cmpL f.L L=0))):=by
 rw[pf a,List.any_cons]
def abD {vl:aE} {l:List cJ} (w:aB) (h:Vs kN w B v l) (n:Vs bE w B2 vl L):aN aH 194 #[v,vl] w λe w'=>e=aQ (aG (DP l L))/\aF w w':=by
 have q:=E (show(l.drop 0).any (λf=>decide (cmpL f.L L=0))=DP l L from rfl);generalize DP l L=r at q⊢;obtain⟨ao,c,rfl,x,Q,R⟩:=h.be;have C:=E x;have D:=E n;obtain⟨S,K,rfl,_⟩:=n.be;clear h x n;go_enter func194,ntmps194;go_wp2;go_loopw [9] (λi wr=>∃k:Nat,k<=l.length/\i=J I k/\aF w wr/\a6 ((l.drop k).any (λf=>decide (cmpL f.L L=0))=r)) (λi _=>l.length-(intOf i).toNat);case atStart=>exact⟨0,an,rfl,aF.refl _,q⟩
 case round=>
  clear q;obtain⟨k,M,rfl,g,s⟩:=hrel;by_cases j:k<l.length
  ·obtain⟨b,off,z,c3,rfl,N,H,G,F,y⟩:=C.A.NF g.aC j;have a:=E (ak7 (L:=L) j);rw[NE j,s.A] at a;dsimp only at a;have aR:=E j;generalize zS l k=L3 at*;generalize Ce l k=Gv at*;have o:=E (g.alloc (aD #[O z L3.length c3,J I Gv.1,J I Gv.2] 286));have t:=E (ZY _ (y.al ((bk _ _).alloc (aO _) (aD #[O z L3.length c3,J I Gv.1,J I Gv.2] 286))) (D.A.al o.A.aC));clear g s y;obtain⟨m,u⟩:=aP (cmpL L3 L);rw[u] at t a;clear u;by_cases h0:m=0
   ·have d:=E (show r=true by rw[a.A,h0];rfl);have e0:(m==0)=true:=by simp;exact h0
    clear h0 a;go_wp2_with fail;refine t.A.ah ?_;rintro e A⟨rfl,Z⟩;have p:=E (o.A.trans Z);clear Z;go_wp2;go_ret;exact⟨cc d.A.symm,p.A⟩
   ·have d:=E (show(l.drop (k+1)).any (λf=>decide (cmpL f.L L=0))=r by rw[a.A,aa h0];rfl);have e0:(m==0)=false:=by simp;exact h0
    clear h0 a;go_wp2_with fail;refine t.A.ah ?_;rintro e A⟨rfl,Z⟩;have p:=E (o.A.trans Z);clear Z;go_wp2;go_roundw;case rel=>exact⟨k+1,aR.A,by go_num,p.A,d⟩
    case measure=>exact ax
  ·obtain rfl:k=l.length:=by omega
   have d:=E (show r=false by rw[<-s.A,qT];rfl);go_wp2;go_ret;exact⟨cc d.A.symm,g⟩
def ak8 (w':aB) (B:Nat) (e:Ending):Option aZ->Prop
 |some m=>∃v,e=aQ (bn #[v,aG true])/\Vs bE w' B v m
 |none=>e=aQ (bn #[O M 0 0,aG false])
def ak9 (x:cv) (L:aZ):sO x L=(match so (tU L iH) x.L with|none=>M|some m=>so m [(lv,x.n)]):=by
 unfold sO;cases so (tU L iH) x.L<;>rfl
theorem abE (h:P:=by
 rw[j0] at hG HF;obtain⟨v5,rfl,tn⟩:=hG;have je:=E tn;clear tn j0;go_wp2;go_ret2;rw[HF.A];exact⟨⟨_,rfl,je.A⟩,kp.A⟩;):P:=h
def ala {vl:aE} {x:cv} (w:aB) (hB:B<=w.heap.size) (h:rI w B v x) (q:Vs bE w B vl L):aN aH 193 #[v,vl] w λe w'=>ak8 w' B e (sO x L)/\aF w w':=by
 have f:=E (ak9 x L);obtain⟨A2,c2,A7,c7,rfl,hn,eG,S,C⟩:=h.be;have Y:=E hn;have V:=E hB;obtain⟨Aq,kE,rfl,_⟩:=q.be;have g:=E ((aF.refl w).alloc (aD #[ap x.n,ap x.x.s.n,O A2 x.x.s.aU.length c2,J I x.x.op,J I x.x.v,J I x.wait,J I x.keep,O A7 x.L.length c7] 51));have HX:=E (aI.new w 51 #[ap x.n,ap x.x.s.n,O A2 x.x.s.aU.length c2,J I x.x.op,J I x.x.v,J I x.wait,J I x.keep,O A7 x.L.length c7]);have A:=E (q.al g.A.aC);have H:=E (C.al g.A.aC);have K:=ba.cells HX.A 7;have G:=E (λp:ba (w.alloc (aD #[ap x.n,ap x.x.s.n,O A2 x.x.s.aU.length c2,J I x.x.op,J I x.x.v,J I x.wait,J I x.keep,O A7 x.L.length c7] 51))=>WU iH p.aL (a8 hB (a8 g.A.size p.aC.size)) (A.A.al p.aC));clear h q S C;go_enter func193,ntmps193;go_wp2_with fail;refine du (cU 0 1 (cU 2 2 (.c 1::(.c 4::(cU 5 5 []))))) [] ?_;refine dY ?_;refine S4.dm ?_;rintro _⟨b,rfl⟩ KK aJ;go_simp;refine(G.A b).ah ?_;rintro e N⟨⟨v2,rfl,D⟩,Z⟩;have u:=E (λp:ba N=>Xf p.aL (a8 hB (a8 g.A.size (a8 b.aC.size (a8 Z.size p.aC.size)))) (D.vs.al p.aC) (((H.A.al b.aC).al Z).al p.aC));have r:=E ((g.A.trans b.r).trans (aF.of Z));have d:=E ((HX.A.al b.aC HX.A.lt).al Z (da HX.A.lt b.aC.size));clear D;refine aJ _ _ (aF.of Z) ?_;clear aJ KK Z K G A H;refine S4.dm (λwt X KK aJ=>?_);obtain⟨i,rfl⟩:=X;go_simp;refine(u.A i).ah ?_;rintro e w3⟨hG,Z⟩;have s:=E ((r.A.trans i.r).trans Z);have o:=E ((d.A.al i.aC d.A.lt).al Z.aC (da d.A.lt i.aC.size));cases j:so (tU L iH) x.L with
 |none=>
  rw[j] at hG f;obtain⟨v3,k,hk,rfl,_⟩:=hG;refine aJ _ _ Z ?_;clear aJ KK Z r d u;refine dY ?_;refine S4.nb λl a=>?_;refine dP ?_;have t:=E (s.A.next a);have R:(k !=0)=true:=aqk;have HF:=E (show sO x L=M from f.A);clear a j hk;go_wp2;go_ret2;rw[HF.A];exact⟨rfl,t.A⟩
 |some m=>
  rw[j] at hG f;obtain⟨v3,rfl,n⟩:=hG;obtain⟨A9,c9,rfl,_⟩:=n.be;refine aJ _ _ Z ?_;clear aJ KK Z r d u;refine dY ?_;refine S4.nb λl a=>?_;refine dP ?_;have t:=E (s.A.next a);have T:=E (o.A.al a o.A.lt);have U:=E (n.al a);clear a j n o s;have k0:=T.A.cell 0;have F:=E (t.A.alloc (aD #[ap lv,ap x.n] 78));have z:=E (Xf (B:=B) (l.alloc (aD #[ap lv,ap x.n] 78)) (a8 V.A F.A.size) (U.A.al ((bk _ _).alloc (aO _) (aD #[ap lv,ap x.n] 78))) (Vs.AH bE (W:=l) (y:=(lv,x.n)) (vs:=[ap lv,ap x.n]) ⟨rfl,(by decide:lv.size<=9223372036854775807),Y.A⟩));have HF:=E (show sO x L=so m [(lv,x.n)] from f.A);clear f;go_wp2_with fail;refine z.A.ah ?_;rintro e w5⟨hG,Z⟩;have kp:=E (F.A.trans Z);clear Z z;cases j0:so m [(lv,x.n)] with
  |none=>
   rw[j0] at hG HF;obtain⟨v5,k,hk,rfl,_⟩:=hG;have R:(k !=0)=true:=aqk;clear hk j0;go_wp2;go_ret2;rw[HF.A];exact⟨rfl,kp.A⟩
  |some m2=>
   exact abE
def alb (a:b8):xk a=(match vk a.L iH FH with|none=>M|some m=>vk m DN (DO a.st)):=by
 unfold xk;cases vk a.L iH FH<;>rfl
def alc (h:eK w) {st:Int} (h0:0<=st) (h2:st<=2):w.cell? (ab 3 st.toNat M)=ad (ap (DO st)):=by
 rw[h.state];rcases(show st=0\/st=1\/st=2 by omega) with rfl|rfl|rfl<;>rfl
def ald {a:b8} (w:aB) (hG:eK w) (hB:B<=w.heap.size) (h:Av dV w B a v) (r:0<=a.st/\a.st<=2):aN aH 195 #[v] w λe w'=>sB bE w' B e (xk a)/\aF w w':=by
 have b:=E (alb a);obtain⟨cs,rfl,q⟩:=h;obtain⟨A1,c1,rfl,hv⟩:=J1 q;have f:=E r;have A:=E hB;have C:=E hG;have o:=E ((aF.refl w).alloc (aD #[O A1 a.L.length c1,aG a.h.on,J I a.h.dB,aG a.h.hit,J I a.h.eW,J I a.st,J I a.v] 62));have HX:=E (aI.new w 62 #[O A1 a.L.length c1,aG a.h.on,J I a.h.dB,aG a.h.hit,J I a.h.eW,J I a.st,J I a.v]);have s:=E (Xe (B:=B) iH FH (w.alloc (aD #[O A1 a.L.length c1,aG a.h.on,J I a.h.dB,aG a.h.hit,J I a.h.eW,J I a.st,J I a.v] 62)) (a8 hB o.A.size) aq aq (hv.al o.A.aC));have N:=HX.A.cell 0;clear q hv r hG hB;go_enter func195,ntmps195;go_wp2_with fail;refine s.A.ah ?_;rintro e y⟨hG,Z⟩;have g:=E (o.A.trans Z);have D:=E (HX.A.al Z.aC HX.A.lt);clear Z s HX;cases d:vk a.L iH FH with
 |none=>
  rw[d] at hG b;obtain⟨v3,k,hk,rfl,c⟩:=hG;have L:(k !=0)=true:=aqk;have H:=E hk;have HF:=E (show xk a=M from b.A);clear hk d c b;go_wp2;go_ret2;rw[HF.A];exact⟨⟨_,k,H.A,rfl,[],Vs.bh _ _ _⟩,g.A⟩
 |some m=>
  rw[d] at hG b;obtain⟨v3,rfl,i⟩:=hG;obtain⟨R,Q,rfl,_⟩:=i.be;have HF:=E (show xk a=vk m DN (DO a.st) from b.A);have l:=E (Xe (B:=B) DN (DO a.st) y (a8 A.A g.A.size) aq (by unfold DO;split;decide;split<;>decide) i);have p:=D.A.cell 5;simp at p;have u:=alc (C.A.rel g.A) f.A.1 f.A.2;have z:=f.A.1;have F:=f.A.2;obtain⟨sn,j⟩:∃n:Nat,a.st=(n:Int):=⟨a.st.toNat,an⟩;rw[j] at u z F p;simp only[Int.toNat_natCast] at u;have G:sn<3:=an;rw[j] at l HF;clear b i d j;go_wp2_with fail;refine l.A.ah ?_;rintro e x⟨hG,Z⟩;have kp:=E (g.A.trans Z);clear Z l;cases j0:vk m DN (DO (sn:Int)) with
  |none=>
   rw[j0] at hG HF;obtain⟨v5,k,hk,rfl,c⟩:=hG;have t:=E (show k≠0/\∃m,Vs bE x B v5 m from⟨hk,c⟩);clear hk c j0;go_wp2;go_ret2;rw[HF.A];exact⟨⟨_,k,t.A.1,rfl,t.A.2⟩,kp.A⟩
  |some K=>
   exact abE
def ale {r:cv} {l:List cJ} (a:k<l.length) (aT:List cJ):(l.drop k).foldl (kc r) aT=(l.drop (k+1)).foldl (kc r) (kc r aT l[k]):=by
 rw[pf a];rfl
def abF (st:List cr) (s:iZ) (t a:Int):(zg st s t a).length<=32:=a8 (List.length_filterMap_le _ _) (vm.1 (Fb st)).1
def alf {r:cv} (h:xi r.x.op f.x.2 r.x.v=false):kc r aT f=aT:=by unfold kc;rw[af (by rw[h];decide)]
def alg {r:cv} (h:sO r f.L=M):kc r aT f=aT:=by unfold kc;rw[h];split<;>rfl
def alh {r:cv} {m:aZ} (h:sO r f.L=ad m) (h2:DP aT m=true):kc r aT f=aT:=by unfold kc;rw[h];split<;>simp[h2]
def ali {r:cv} {m:aZ} (h0:xi r.x.op f.x.2 r.x.v=true) (h:sO r f.L=ad m) (h2:DP aT m=false):kc r aT f=aT++[⟨m,f.x⟩]:=by unfold kc;rw[ag h0,h];simp[h2]
def abG {vs:aE} {st:List cr} {x:cv} (t:Int) (w:aB) (hB:B<=w.heap.size) (ht:-9223372036854775808<=t/\t<=9007199254740992) (hs:Vs dO w B vs st) (h:rI w B v x):aN aH 148 #[vs,v,J I t] w λe w'=>(∃v',e=aQ v'/\Ow kN w' B w.heap.size v' (sP st x t))/\aF w w':=by
 have HR:=E (show sP st x t=if ku x=true then(zg st x.x.s t 300000).foldl (kc x) [] else[] from rfl);generalize sP st x t=r at HR⊢;obtain⟨A2,c2,A7,c7,rfl,hn,eG,hm,hl⟩:=h.be;have di:=E hB;obtain⟨FC,cs,rfl,_⟩:=hs.be;have HB:=E ((aF.refl w).alloc (aD #[ap x.n,ap x.x.s.n,O A2 x.x.s.aU.length c2,J I x.x.op,J I x.x.v,J I x.wait,J I x.keep,O A7 x.L.length c7] 51));have HX:=E (aI.new w 51 #[ap x.n,ap x.x.s.n,O A2 x.x.s.aU.length c2,J I x.x.op,J I x.x.v,J I x.wait,J I x.keep,O A7 x.L.length c7]);have mR:=E (h.al HB.A.aC);have S:=E (M3 _ mR.A);have dn:=E (λW (Z:aS w.heap.size w W) (hW:B<=W.heap.size)=>ahn (B:=B) t 300000 W hW ht (hs.al Z) (vs:=aY #[ap x.x.s.n,O A2 x.x.s.aU.length c2]) (s:=x.x.s) ⟨_,rfl,eG,hm.al Z⟩);have g0:=HX.A.cell;clear h hs hm hl;cases o:ku x with
 |false=>
  rw[o] at S;have HF:=E (show r=[] by rw[HR.A,af (by rw[o];decide)]);clear o;go_enter func148,ntmps148;go_wp2_with fail;refine S.A.ah ?_;rintro e w2⟨rfl,Z⟩;have u:=E (HB.A.trans Z);clear Z;go_wp2;go_ret;exact⟨⟨_,rfl,HF.A▸Ow.bh _ _ _ _⟩,u.A⟩
 |true=>
 rw[o] at S;have HF:=E (show((zg st x.x.s t 300000).drop 0).foldl (kc x) []=r by rw[HR.A,ag o];rfl);have aM:=E (abF st x.x.s t 300000);clear o HR;go_enter func148,ntmps148;go_wp2_with fail;refine S.A.ah ?_;rintro e w2⟨rfl,Z⟩;have u:=E (HB.A.trans Z);have V:=E (HX.A.al Z.aC HX.A.lt);have N:=E (mR.A.al Z.aC);clear Z HB HX mR S g0;have k1:=V.A.cell;go_wp2_with fail;refine(dn.A w2 u.A.aC (a8 hB u.A.size)).ah ?_;rintro e T⟨⟨vl,rfl,hO⟩,Z⟩;generalize zg st x.x.s t 300000=l at*;have K:=E (u.A.trans Z);have l5:=E (V.A.al Z.aC V.A.lt);have aJ:=E (N.A.al Z.aC);obtain⟨Al,cl,rfl,lp,jc,ju⟩:=hO.vs.be;have HP:=E lp;clear Z u V N dn hO lp k1;go_wp2;go_loopw [7,22] (λa i wr=>∃(k:Nat) (aT:List cJ),k<=l.length/\i=J I k/\aF T wr/\Ow kN wr B T.heap.size a aT/\a6 (aT.length<=k/\(l.drop k).foldl (kc x) aT=r)) (λ_ i _=>l.length-(intOf i).toNat);case atStart=>exact⟨0,[],an,rfl,aF.refl _,Ow.bh _ _ _ _,E ⟨aO _,HF.A⟩⟩
 case round=>
  clear HF;obtain⟨k,aT,hk,rfl,Y,bc,X⟩:=hrel;by_cases aK:k<l.length
  ·obtain⟨b,off,A3,c3,rfl,cw,y0,y1,y2,bZ⟩:=HP.A.NF Y.aC aK;have d:=E (ale (r:=x) aK aT);rw[X.A.2,NE aK] at d;have G:=E X.A.1;have aR:=E aK;generalize zS l k=L3 at*;obtain⟨⟨c,x2⟩,hx⟩:∃x,Ce l k=x:=⟨_,rfl⟩;rw[hx] at d;simp only[hx] at y1 y2;clear hx X;have fX:=E (bc.alloc (aD #[O A3 L3.length c3,J I c,J I x2] 286));have j:=E (Y.alloc (aD #[O A3 L3.length c3,J I c,J I x2] 286));have eH:=E (bZ.al ((bk _ _).alloc (aO _) (aD #[O A3 L3.length c3,J I c,J I x2] 286)));have NH:=E (aI.new wr 286 #[O A3 L3.length c3,J I c,J I x2]);have eU:=E (l5.A.al j.A.aC l5.A.lt);have zU:=E (aJ.A.al j.A.aC);have L:=E (K.A.trans j.A);clear bc Y bZ;have p0:=eU.A.cell;have f0:=NH.A.cell;have hh:=λW=>ak6 x.x.op x2 x.x.v W;cases D:xi x.x.op x2 x.x.v with
   |false=>
    rw[D] at hh;have g:=E (show(l.drop (k+1)).foldl (kc x) aT=r by rw[d.A,alf D]);clear D d;go_wp2_with fail;refine(hh _).ah ?_;rintro e w5⟨rfl,rfl⟩;clear hh;go_wp2;go_roundw;case rel=>exact⟨k+1,aT,aR.A,by go_num,j.A,fX.A,E ⟨Nat.le_succ_of_le G.A,g.A⟩⟩
    case measure=>exact ax
   |true=>
    rw[D] at hh;have aP:=E D;clear D;go_wp2_with fail;refine(hh _).ah ?_;rintro e w5⟨rfl,rfl⟩;clear hh;go_wp2_with fail;refine(ala _ (a8 di.A L.A.size) zU.A eH.A).ah ?_;rintro e w6⟨p,Z⟩;have n:=E (fX.A.al Z.aC);have NI:=E (j.A.trans Z);have wl:=E (NH.A.al Z.aC NH.A.lt);clear Z fX j eH NH eU zU L p0 f0;cases q:sO x L3 with
    |none=>
     rw[q] at p;have p:e=aQ (bn #[O M 0 0,aG false]):=p;subst p;have g:=E (show(l.drop (k+1)).foldl (kc x) aT=r by rw[d.A,alg (f:=⟨L3,(c,x2)⟩) q]);clear q d;go_wp2;go_roundw;case rel=>exact⟨k+1,aT,aR.A,by go_num,NI.A,n.A,E ⟨Nat.le_succ_of_le G.A,g.A⟩⟩
     case measure=>exact ax
    |some m=>
     rw[q] at p;obtain⟨yZ,rfl,J2⟩:=p;obtain⟨A6,kS,rfl,_⟩:=J2.be;have U:=E J2;have vA:=E q;clear J2 q;cases F:DP aT m with
     |true=>
      have g:=E (show(l.drop (k+1)).foldl (kc x) aT=r by rw[d.A,alh (f:=⟨L3,(c,x2)⟩) vA.A F]);have R:=E (abD w6 n.A.vs U.A);rw[F] at R;clear F d;go_wp2_with fail;refine R.A.ah ?_;rintro e w7⟨rfl,Z⟩;have zV:=E (n.A.al Z.aC);have Q:=E (NI.A.trans Z);clear Z;go_wp2;go_roundw;case rel=>exact⟨k+1,aT,aR.A,by go_num,Q.A,zV.A,E ⟨Nat.le_succ_of_le G.A,g.A⟩⟩
      case measure=>exact ax
     |false=>
      have g:=E (show(l.drop (k+1)).foldl (kc x) (aT++[⟨m,(c,x2)⟩])=r by rw[d.A,ali (f:=⟨L3,(c,x2)⟩) aP.A vA.A F]);have R:=E (abD w6 n.A.vs U.A);rw[F] at R;clear F d;go_wp2_with fail;refine R.A.ah ?_;rintro e w7⟨rfl,Z⟩;have zV:=E (n.A.al Z.aC);have Q:=E (NI.A.trans Z);have aW:=E (K.A.trans Q.A);have xT:=E (U.A.al Z.aC);have H:=wl.A.al Z.aC wl.A.lt;have q1:=H.cell;clear Z H n NI wl U;go_wp2_with ((refine uv kN au (.tmp 51) (.tmp 56) 241 au T.heap.size 40 _ ar QH au aq B _ aT au w7 [O A6 m.length kS,J I c,J I x2] ⟨m,(c,x2)⟩ au zV.A ⟨_,rfl,xT.A⟩ (ak G.A aR.A aM.A) Q.A.size (a8 di.A K.A.size) QI ?_;intro v' w' bC fA eZ pI));go_roundw;case rel=>exact⟨k+1,_,aR.A,by go_num,fA T Q.A (aO _),bC,E ⟨by simp;have:=G.A;omega,g.A⟩⟩
      case measure=>exact ax
  ·obtain rfl:k=l.length:=by omega
   have g:=E (show aT=r by have:=X.A.2;rwa[qT] at this);go_wp2;go_ret;exact⟨⟨_,rfl,g.A▸bc.less K.A.size⟩,K.A.trans Y⟩
def abK {s:List cr} (w:aB) (h:Vs dO w B v s):aN aH 146 #[v] w λe w'=>(e=aQ (if eY s=true then v else O M 0 0))/\aF w w':=by
 have a:=E (Qq w h);obtain⟨A0,c0,rfl,_⟩:=h.len_;clear h;generalize eY s=b at a;go_enter func146,ntmps146;go_wp2_with fail;refine a.A.ah ?_;rintro e d⟨rfl,Z⟩;have c:=E Z;clear Z a;cases b
 ·go_wp2;go_ret;exact⟨rfl,c.A⟩
 ·go_wp2;go_ret;exact⟨rfl,c.A⟩
def alm {t:Int} {l:List b8} (a:k<l.length) (s:List cr×Int):(l.drop k).foldl (lw t) s=(l.drop (k+1)).foldl (lw t) (lw t s l[k]):=by
 rw[pf a];rfl
def aln {t:Int} {s:List cr} {o:Int} {a:b8} (h:xk a=M):lw t (s,o) a=(s,o+1):=by unfold lw;rw[h]
def alo {t:Int} {s:List cr} {o:Int} {a:b8} {m:aZ} (h:xk a=ad m) (h2:ra s m (t,1000)=M):lw t (s,o) a=(s,o+1):=by unfold lw;rw[h];simp only[h2]
def alp {t:Int} {s b:List cr} {o:Int} {a:b8} {m:aZ} (h:xk a=ad m) (h2:ra s m (t,1000)=ad b):lw t (s,o) a=(b,o):=by unfold lw;rw[h];simp only[h2]
def alq {vs:aE} {st:List cr} {x:cy} (t:Int) (w:aB) (c:eK w) (hB:B<=w.heap.size) (hs:Vs dO w B vs st) (h:nX w B v x):aN aH 149 #[vs,v,J I t] w λe w'=>(∃v',e=aQ (bn #[v',J I (ui st x t).2])/\Vs dO w' B v' (ui st x t).1)/\aF w w':=by
 have cY:=E c;have di:=E hB;have HA:=E (λW (Z:aS w.heap.size w W)=>Rr W (a8 hB Z.size) (h.al Z));have HC:=E (λW (Z:aS w.heap.size w W)=>abK W (hs.al Z));have HV:=E (L7 hs);have HR:=E (show ui st x t=((jO (dQ x).ao).drop 0).foldl (lw t) (gS st,0) from rfl);have cj:=E (show(∀a∈jO (dQ x).ao,0<=a.st/\a.st<=2)/\(jO (dQ x).ao).length<=16 from⟨λa ha=>((qk.1 (Bt x)).2.2.1 a ((List.mem_filter.1 ha).1)).2.2,a8 (List.length_filter_le _ _) (qk.1 (Bt x)).1⟩);generalize ui st x t=r at HR⊢;obtain⟨u0,rfl,ob⟩:=h.A;obtain⟨A0,c0,rfl,_⟩:=ob.be;generalize h9:(if eY st=true then vs else _:aE)=jg at HC HV;clear h9;generalize gS st=s0 at*;generalize jO (dQ x).ao=zs at*;obtain⟨r1,r2⟩:=r;have HB:=E ((aF.refl w).alloc (aD #[O A0 x.ao.length c0,J I x.full] 56));have HX:=E (aI.new w 56 #[O A0 x.ao.length c0,J I x.full]);obtain⟨FC,cs,n,_⟩:=hs.be;subst n;clear h hs ob hB c;go_enter func149,ntmps149;go_wp2_with fail;refine(HC.A _ HB.A.aC).ah ?_;rintro e w1⟨rfl,Z⟩;have X:=E (HB.A.trans Z);have nK:=E (HX.A.al Z.aC HX.A.lt);clear Z HC HB HX;have g0:=nK.A.cell;go_wp2_with fail;refine(HA.A _ X.A.aC).ah ?_;rintro e w2⟨⟨aJ,rfl,hO⟩,Z⟩;have F:=E (X.A.trans Z);obtain⟨S8,S9,rfl,lp,jc,ju⟩:=hO.vs.be;have HP:=E lp;clear Z X nK HA hO lp g0;have iJ:=E (HV.A.al F.A.aC);clear HV;go_wp2;go_loopw [0,8,19] (λa o i wr=>∃(k:Nat) (s:List cr×Int),k<=zs.length/\i=J I k/\o=J I s.2/\aF w2 wr/\Vs dO wr B a s.1/\a6 ((0<=s.2/\s.2<=k)/\(zs.drop k).foldl (lw t) s=(r1,r2))) (λ_ _ i _=>zs.length-(intOf i).toNat);case atStart=>exact⟨0,(s0,0),an,rfl,rfl,aF.refl _,iJ.A,E ⟨av,HR.A.symm⟩⟩
 case round=>
  clear iJ HR;obtain⟨k,⟨s,o⟩,hk,rfl,rfl,G,n,u⟩:=hrel;dsimp only at n u;by_cases y:k<zs.length
  ·obtain⟨b,off,A1,c1,rfl,cw,y0,y1,y2,y3,y4,y5,y6,bZ⟩:=HP.A.jP G.aC y;have l:=E (alm (t:=t) y (s,o));have N:=E (cj.A.1 zs[k] (dl y));rw[u.A.2,MG y] at l;rw[MG y] at N;have S:=E u.A.1;have aR:=E y;obtain⟨hd,U⟩:=aP (dx zs k);obtain⟨f,V⟩:=aP (gl zs k);obtain⟨d,T⟩:=aP (oO zs k);rw[U,V,T] at l N;rw[U] at y1 y2 y3 y4;rw[V] at y5;rw[T] at y6;generalize cX zs k=Ck at*;obtain⟨ho,hs,g,j⟩:=hd;clear U V T u;dsimp only at y1 y2 y3 y4 N;have M:=E (G.alloc (aD #[O A1 Ck.length c1,aG ho,J I hs,aG g,J I j,J I f,J I d] 62));have xO:=E (n.al ((bk _ _).alloc (aO _) (aD #[O A1 Ck.length c1,aG ho,J I hs,aG g,J I j,J I f,J I d] 62)));have HW:=E (ald (v:=aY #[O A1 Ck.length c1,aG ho,J I hs,aG g,J I j,J I f,J I d]) (a:=⟨Ck,⟨ho,hs,g,j⟩,f,d⟩) (wr.alloc (aD #[O A1 Ck.length c1,aG ho,J I hs,aG g,J I j,J I f,J I d] 62)) (cY.A.rel (F.A.trans M.A)) (a8 di.A (F.A.trans M.A).size) ⟨[O A1 Ck.length c1,aG ho,J I hs,aG g,J I j,J I f,J I d],rfl,_,rfl,bZ.al ((bk _ _).alloc (aO _) (aD #[O A1 Ck.length c1,aG ho,J I hs,aG g,J I j,J I f,J I d] 62))⟩ N.A);have Dx:I.wrap (o+1)=o+1:=by have:=S.A;have:=aR.A;rw[b7];omega
   clear G n bZ;go_wp2_with fail;refine HW.A.ah ?_;rintro e w4⟨c,Z⟩;have R:=E (M.A.trans Z);have Q:=E (xO.A.al Z.aC);clear Z HW M xO;cases A:xk ⟨Ck,⟨ho,hs,g,j⟩,f,d⟩ with
   |none=>
    rw[A] at c;obtain⟨v4,q,D,rfl,_⟩:=c;have jv:(q !=0)=true:=by simp;exact D
    have p:=E (show(zs.drop (k+1)).foldl (lw t) (s,o+1)=(r1,r2) by rw[l.A,aln A]);clear D A l;go_wp2;go_roundw;case rel=>exact⟨k+1,(s,o+1),aR.A,by go_num,rfl,R.A,Q.A,E ⟨by have:=S.A;simp only;omega,p.A⟩⟩
    case measure=>exact ax
   |some m=>
    rw[A] at c;obtain⟨v4,rfl,C⟩:=c;have L:=E (X6 t 1000 w4 (a8 di.A (F.A.trans R.A).size) Q.A C);have K:=E A;clear C A;go_wp2_with fail;refine L.A.ah ?_;rintro e w5⟨c,Z⟩;have H:=E (R.A.trans Z);have Y:=E (Q.A.al Z.aC);clear Z L R Q;cases z:ra s m (t,1000) with
    |none=>
     rw[z] at c;obtain⟨v5,q,D,rfl,_⟩:=c;have jv:(q !=0)=true:=by simp;exact D
     have p:=E (show(zs.drop (k+1)).foldl (lw t) (s,o+1)=(r1,r2) by rw[l.A,alo K.A z]);clear D z l;go_wp2;go_roundw;case rel=>exact⟨k+1,(s,o+1),aR.A,by go_num,rfl,H.A,Y.A,E ⟨by have:=S.A;simp only;omega,p.A⟩⟩
     case measure=>exact ax
    |some s2=>
     rw[z] at c;obtain⟨v5,rfl,tn⟩:=c;have je:=E tn;have p:=E (show(zs.drop (k+1)).foldl (lw t) (s2,o)=(r1,r2) by rw[l.A,alp K.A z]);clear tn z l;go_wp2;go_roundw;case rel=>exact⟨k+1,(s2,o),aR.A,by go_num,rfl,H.A,je.A,E ⟨by have:=S.A;simp only;omega,p.A⟩⟩
     case measure=>exact ax
  ·obtain rfl:k=zs.length:=by omega
   have p:=E (show(s,o)=(r1,r2) by have:=u.A.2;rwa[qT] at this);have Ta:=E n;have bY:=E G;clear u n G;obtain⟨rfl,rfl⟩:=Prod.mk.inj p.A;go_wp2;go_ret2;exact⟨⟨_,rfl,Ta.A⟩,F.A.trans bY.A⟩
variable {w0:aB} {t:bf} {cs:Array aE} {a0 cZ a2 a3 a4 a5 gp:aE}
section
open Go.ChangeMaps Go.MapKept
open im (dT fe pv aL gone none_)
structure gw (w0 wr:aB) (B R1 R2 g5 g10:Nat) (vd:aE) (d:List cJ) (m:List (aZ×b8)) (c5:Array aE):Prop where
 b:aF w0 wr
 oI:Vs kN wr B vd d
 r1:Mt uK kN wr B R1 (it d)
 r2:Mt uK dV wr B R2 m
 x:aI wr g5 56 c5
 y:aI wr g10 56 #[O M 0 0,J I 0]
 g1:w0.heap.size<=R1
 g2:w0.heap.size<=R2
 g3:w0.heap.size<=g5
 g4:w0.heap.size<=g10
 hB:B<=w0.heap.size
 ne:g5≠g10
section
variable {w0 wr w':aB} {B R1 R2 g5 g10:Nat} {vd:aE} {d:List cJ} {m:List (aZ×b8)} {c5:Array aE}
def gw.al (h:gw w0 wr B R1 R2 g5 g10 vd d m c5) (Z:aS wr.heap.size wr w'):gw w0 w' B R1 R2 g5 g10 vd d m c5:=⟨h.b.trans (aF.of Z),h.oI.al Z,h.r1.al Z,h.r2.al Z,h.x.al Z h.x.lt,h.y.al Z h.y.lt,h.g1,h.g2,h.g3,h.g4,h.hB,h.ne⟩
def gw.rel (h:gw w0 wr B R1 R2 g5 g10 vd d m c5) (Z:aF wr w'):gw w0 w' B R1 R2 g5 g10 vd d m c5:=h.al Z.aC
def gw.alloc (h:gw w0 wr B R1 R2 g5 g10 vd d m c5) (o:Obj):gw w0 (wr.alloc o) B R1 R2 g5 g10 vd d m c5:=h.al ((bk _ _).alloc (aO _) o)
def abN {U:bf} (h:aI w g U cs) (a:bp w T g):U=T:=(bp.bO h).q9 a
def gw.set (h:gw w0 wr B R1 R2 g5 g10 vd d m c5) {g:Nat} (hg:w0.heap.size<=g) {cs:Array aE} (a:aI wr g 62 cs) (o:Nat) (u:aE):gw w0 (wr.setCell (ab g o M) u) B R1 R2 g5 g10 vd d m c5:=by
 have b:Kt B [62] wr (wr.setCell (ab g o M) u):=(Kt.refl _ _ _).setCell (a8 h.hB hg) (bp.bO a) (bD.2 rfl) u;have c:∀r,(∀T,¬bp wr T r)->(wr.setCell (ab g o M) u).heap[r]?=wr.heap[r]?:=λr i=>yv wr (ab g o M) u r (λe=>by have k:r=g:=e;subst k;exact i _ (bp.bO a));have j:g5≠g:=λe=>by subst e;exact ae (abN h.x (bp.bO a)) aq
 have f:g10≠g:=λe=>by subst e;exact ae (abN h.y (bp.bO a)) aq
 exact⟨h.b.setCell hg u,h.oI.keep b aq aq,h.r1.keep b aq (c _ λT=>h.r1.lk T),h.r2.keep b aq (c _ λT=>h.r2.lk T),h.x.bT j u,h.y.bT f u,h.g1,h.g2,h.g3,h.g4,h.hB,h.ne⟩
def gw.als (h:gw w0 wr B R1 R2 g5 g10 vd d m c5) (o:Nat) (u:aE):gw w0 (wr.setCell (ab g5 o M) u) B R1 R2 g5 g10 vd d m (c5.setIfInBounds o u):=by
 have a:Kt B [56] wr (wr.setCell (ab g5 o M) u):=(Kt.refl _ _ _).setCell (a8 h.hB h.g3) (bp.bO h.x) (bD.2 rfl) u;have b:∀r,(∀T,¬bp wr T r)->(wr.setCell (ab g5 o M) u).heap[r]?=wr.heap[r]?:=λr c=>yv wr (ab g5 o M) u r (λe=>by have f:r=g5:=e;subst f;exact c _ (bp.bO h.x));exact⟨h.b.setCell h.g3 u,h.oI.keep a aq aq,h.r1.keep a aq (b _ λT=>h.r1.lk T),h.r2.keep a aq (b _ λT=>h.r2.lk T),h.x.put o u,h.y.bT h.ne.symm u,h.g1,h.g2,h.g3,h.g4,h.hB,h.ne⟩
def gw.dm (h:gw w0 wr B R1 R2 g5 g10 vd d m c5) (b:R1≠R2) {m':List (aZ×b8)} (c:Mt uK dV w' B R2 m') (hg:wr.grownBy w' (ad R2)) (a:Kt B [] wr w'):gw w0 w' B R1 R2 g5 g10 vd d m' c5:=⟨h.b.cD hg h.g2,h.oI.keep a av av,h.r1.keep a av (hg.block R1 h.r1.lt (λe=>b aqE)),c,h.x.cD hg (λe=>h.r2.lk _ (e▸bp.bO h.x)),h.y.cD hg (λe=>h.r2.lk _ (e▸bp.bO h.y)),h.g1,h.g2,h.g3,h.g4,h.hB,h.ne⟩
def gw.store (h:gw w0 wr B R1 R2 g5 g10 vd d m c5) (c:R1≠R2) {a:aZ} (j:bH a=true) {x:b8} {v:aE} (f:Av dV wr B x v):∃w',(Instr.mapUpdate 283 (.map (ad R2)) (ap (sM a)) v).run aH wr= .ok () w'/\gw w0 w' B R1 R2 g5 g10 vd d (eF m a x) c5/\(∀(g:Nat) (T:bf) (cs:Array aE),aI wr g T cs->aI w' g T cs)/\Kt B [] wr w':=by
 obtain⟨w',e,i,hg,b⟩:=h.r2.store (a:=a) (x:=x) (v:=v) j underlying283 f (a8 h.hB h.g2) (λT=>h.r2.lk T);exact⟨w',e,h.dm c i hg b,λg T cs Z=>Z.cD hg (λe=>h.r2.lk _ (e▸bp.bO Z)),b⟩
def gw.delete (h:gw w0 wr B R1 R2 g5 g10 vd d m c5) (b:R1≠R2) (ty:bf) {a:aZ} (g:bH a=true):∃w',(Builtin.delete_ #[283,9] ty #[.map (ad R2),ap (sM a)]).run aH wr= .ok (bn #[]) w'/\gw w0 w' B R1 R2 g5 g10 vd d (jI m a) c5:=by
 obtain⟨w',e,c,hg,f⟩:=h.r2.delete (a:=a) ty g underlying283 (a8 h.hB h.g2) (λT=>h.r2.lk T);exact⟨w',e,h.dm b c hg f⟩
end
def al7 (h:aI w g t #[a0,cZ,a2,a3,a4,a5,gp]) (u1 u2 u3 u4 u5:aE):aI (((((w.setCell (ab g 1 M) u1).setCell (ab g 2 M) u2).setCell (ab g 3 M) u3).setCell (ab g 4 M) u4).setCell (ab g 5 M) u5) g t #[a0,u1,u2,u3,u4,u5,gp]:=((((h.put 1 u1).put 2 u2).put 3 u3).put 4 u4).put 5 u5
def alt (x:cy) (l:List cJ) (t wait keep:Int) (k:Nat):0<=(((lW l).take k).foldl (fx t wait keep) ((dQ x).ao.foldl (kr (it (lW l)) t wait keep) [],(dQ x).full)).2/\(((lW l).take k).foldl (fx t wait keep) ((dQ x).ao.foldl (kr (it (lW l)) t wait keep) [],(dQ x).full)).2<=9007199254740992:=by
 have d:=(qk.1 (Bt x)).2.1;generalize(dQ x).ao.foldl (kr (it (lW l)) t wait keep) []=m;generalize dQ x=c at*;have:∀(a:List cJ) (s:List (aZ×b8)×Int),(0<=s.2/\s.2<=9007199254740992)->0<=(a.foldl (fx t wait keep) s).2/\(a.foldl (fx t wait keep) s).2<=9007199254740992:=by
  intro a;induction a with
  |nil=>intro s h;exact h
  |cons f a b=>intro s h;exact b _ (Yw h)
 exact this _ _ d
def abO (h:aI w g 62 #[a0,cZ,a2,a3,a4,a5,gp]) (hB:B<=g) (u1 u2 u3 u4 u5:aE):Kt B [62] w (((((w.setCell (ab g 1 M) u1).setCell (ab g 2 M) u2).setCell (ab g 3 M) u3).setCell (ab g 4 M) u4).setCell (ab g 5 M) u5):=by
 have f:=(Kt.refl B [62] w).setCell hB (bp.bO h) (bD.2 rfl) (o:=1) u1;have cH:=h.put 1 u1;have e:=f.setCell hB (bp.bO cH) (bD.2 rfl) (o:=2) u2;have gz:=cH.put 2 u2;have d:=e.setCell hB (bp.bO gz) (bD.2 rfl) (o:=3) u3;have a:=gz.put 3 u3;have c:=d.setCell hB (bp.bO a) (bD.2 rfl) (o:=4) u4;have b:=a.put 4 u4;exact c.setCell hB (bp.bO b) (bD.2 rfl) (o:=5) u5
def abP {R1 R2 g5 g10:Nat} {vd:aE} {d:List cJ} {m:List (aZ×b8)} {c5:Array aE} (h:gw w0 wr B R1 R2 g5 g10 vd d m c5) (Z:aI wr g 62 #[a0,cZ,a2,a3,a4,a5,gp]) (hg:w0.heap.size<=g) (u1 u2 u3 u4 u5:aE):gw w0 (((((wr.setCell (ab g 1 M) u1).setCell (ab g 2 M) u2).setCell (ab g 3 M) u3).setCell (ab g 4 M) u4).setCell (ab g 5 M) u5) B R1 R2 g5 g10 vd d m c5:=((((h.set hg Z 1 u1).set hg (Z.put 1 u1) 2 u2).set hg ((Z.put 1 u1).put 2 u2) 3 u3).set hg (((Z.put 1 u1).put 2 u2).put 3 u3) 4 u4).set hg ((((Z.put 1 u1).put 2 u2).put 3 u3).put 4 u4) 5 u5
def abQ {t keep:Int} {m:List (aZ×b8)} {h:im.Hd} {st v:Int} {c:Bool} {S:im.Hd} {N v2:Int} (b:(gF there L).isSome=c) (d:pv h c t wait=S) (a:aL S t keep=N) (hv:(match gF there L with|some f=>f.x.2|none=>v)=v2):kr there t wait keep m ⟨L,h,st,v⟩=if gone S t keep=true then jI (eF m L ⟨L,S,N,v2⟩) L else eF m L ⟨L,S,N,v2⟩:=by
 have h0:FE there t wait keep ⟨L,h,st,v⟩=⟨L,S,N,v2⟩:=by
  subst b;subst d;subst a;subst hv;rfl
 unfold kr;rw[h0]
theorem abR (h:P:=by
 have HSa:=E GF;have HAa:=E (kh _ _ _ J5.A);clear GF kh NL;have r1:=HAa.A.cell;go_wp2_with fail;refine(ahs s1 s2 s3 s4 t keep _).ah ?_;rintro e FK⟨rfl,Z⟩;have HSb:=E (HSa.A.al Z);clear Z f1 g0 p0 r1 bS;clear o8 xT xU Tb rP zX rV GG J5 ud HSa HAa;cases lA:gone ⟨s1,s2,s3,s4⟩ t keep with
 |true=>
  rw[lA] at cQ;obtain⟨wc,XX,AT⟩:=HSb.A.delete Eo.A 0 dn.A;have Tc:=E (show gw w wc B R1 R2 w.heap.size (w.heap.size+1) (O NM d.length nl) d ((xs.take (k+1)).foldl (kr (it d) t wait keep) []) #[O (ad (ab b off M)) xs.length cap,J I full] by rw[cQ.A];exact AT);clear AT cQ lA;go_wp2;go_roundw;case rel=>exact⟨k+1,aR.A,by go_num,Tc⟩
  case measure=>exact ax
 |false=>
  rw[lA] at cQ;have Tc:=E (show gw w FK B R1 R2 w.heap.size (w.heap.size+1) (O NM d.length nl) d ((xs.take (k+1)).foldl (kr (it d) t wait keep) []) #[O (ad (ab b off M)) xs.length cap,J I full] by rw[cQ.A];exact HSb.A);clear cQ lA;go_wp2;go_roundw;case rel=>exact⟨k+1,aR.A,by go_num,Tc⟩
  case measure=>exact ax
 ):P:=h
def abS {G vl:aE} {x:cy} {l:List cJ} (t wait keep:Int) (w:aB) (hB:B<=w.heap.size) (hx:nX w B G x) (hl:Vs kN w B vl l) (ce:l.length<=100000):aN aH 147 #[G,vl,J I t,J I wait,J I keep] w λe w'=>(∃v',e=aQ v'/\nX w' B v' (stepT x l t wait keep))/\aF w w':=by
 have HC:=E (λw1 (Z:aS w.heap.size w w1)=>Zn w1 (hx.al Z));have HD:=E (λw1 (Z:aS w.heap.size w w1)=>ak2 w1 (a8 hB Z.size) (hl.al Z) ce);have HV:=E (Zl hx);have J6:=E (show _/\(List.foldl (fx t wait keep) ((dQ x).ao.foldl (kr (it (lW l)) t wait keep) [],(dQ x).full) (lW l)).1.length<=16 from⟨(Ml x l t wait keep).1.sort.2.1,(Ml x l t wait keep).2.1⟩);have HE:=E (show stepT x l t wait keep=⟨uh (((lW l).foldl (fx t wait keep) ((dQ x).ao.foldl (kr (it (lW l)) t wait keep) [],(dQ x).full)).1.map (·.2)),((lW l).foldl (fx t wait keep) ((dQ x).ao.foldl (kr (it (lW l)) t wait keep) [],(dQ x).full)).2⟩ from rfl);have cj:=E (qk.1 (Bt x));have bd:=E (Yt l).1;have a5:=E (λk=>alt x l t wait keep k);unfold Br at J6;generalize stepT x l t wait keep=r at HE⊢;obtain⟨u0,e0,ob⟩:=hx.A;obtain⟨A0,c0,rfl,_⟩:=ob.be;obtain⟨Al,cl,rfl,_⟩:=hl.be;subst e0;generalize h9:(if fY x=true then _ else _:aE)=jg at HC HV;clear h9;generalize dQ x=c at*;generalize lW l=d at*;obtain⟨xs,full⟩:=c;dsimp only at*;obtain⟨u,rfl,hu⟩:=HV.A.A;dsimp only at hu;obtain⟨ao,cap,rfl,hR,jc,cn⟩:=hu.be;have HP:=E hR;have di:=E hB;clear hx hl ob hu hR hB HV;have bR:=E (((aF.refl w).alloc (aD #[O A0 x.ao.length c0,J I x.full] 56)).alloc (aD #[O M 0 0,J I 0] 56));have nK:=E ((aI.new w 56 #[O A0 x.ao.length c0,J I x.full]).alloc (aD #[O M 0 0,J I 0] 56));have Gl:=E (show aI _ (w.heap.size+1) _ _ by
  have:=aI.new (w.alloc (aD #[O A0 x.ao.length c0,J I x.full] 56)) 56 #[O M 0 0,J I 0];rwa[eO] at this)
 have k0:=nK.A.cell;go_enter func147,ntmps147;go_wp2_with fail;refine(HC.A _ bR.A.aC).ah ?_;rintro e w1⟨rfl,Z⟩;have hX:=nK.A.al Z.aC nK.A.lt;have hY:=Gl.A.al Z.aC Gl.A.lt;have bN:=bR.A.trans Z;clear Z HC k0 nK Gl bR;have⟨k0,f0⟩:=hX.cf;have cL:=E (show aI ((w1.setCell (ab w.heap.size 0 M) (O ao xs.length cap)).setCell (ab w.heap.size 1 M) (J I full)) w.heap.size 56 #[O ao xs.length cap,J I full] from(hX.put 0 _).put 1 _);have JL:=E (show aI ((w1.setCell (ab w.heap.size 0 M) (O ao xs.length cap)).setCell (ab w.heap.size 1 M) (J I full)) (w.heap.size+1) 56 #[O M 0 0,J I 0] from(hY.bT aqA _).bT aqA _);have bm:=E (show aF w ((w1.setCell (ab w.heap.size 0 M) (O ao xs.length cap)).setCell (ab w.heap.size 1 M) (J I full)) from(bN.setCell (p:=(ab w.heap.size 0 M)) (aO _) _).setCell (p:=(ab w.heap.size 1 M)) (aO _) _);clear hX hY bN;go_wp2_with fail;refine(HD.A _ bm.A.aC).ah ?_;rintro e w2⟨⟨vd,R1,rfl,Td,fz,gg⟩,Z⟩;have ka:=run_makeMap (P:=aH) 283 w2;have hU:=E (show gw w (w2.alloc (.map #[] 0)) B R1 w2.heap.size w.heap.size (w.heap.size+1) vd d [] #[O ao xs.length cap,J I full] from⟨(bm.A.trans Z).alloc _,(Td.vs.al ((bk _ _).alloc (aO _) _)),fz.alloc _,Mt.made uK dV w2 B,(cL.A.al Z.aC cL.A.lt).alloc _,(JL.A.al Z.aC JL.A.lt).alloc _,a8 bm.A.size gg,(bm.A.trans Z).size,aO _,an,di.A,an⟩);obtain⟨NM,nl,rfl,_⟩:=Td.vs.be;have uO:R1≠w2.heap.size:=mW fz.lt;clear Td fz gg Z cL JL bm HD f0 k0;have k0:=hU.A.x.cell 0;simp at k0;go_wp2;clear ka k0;obtain⟨R2,lV⟩:=aP w2.heap.size;rw[lV] at hU uO;simp only[lV];clear lV;have Eo:=E uO;clear uO;go_loopw [36] (λi wr=>∃k:Nat,k<=xs.length/\i=J I k/\a6 (gw w wr B R1 R2 w.heap.size (w.heap.size+1) (O NM d.length nl) d ((xs.take k).foldl (kr (it d) t wait keep) []) #[O ao xs.length cap,J I full])) (λi _=>xs.length-(intOf i).toNat);case atStart=>exact⟨0,an,rfl,hU⟩
 case round=>
  clear hU;obtain⟨k,hk,rfl,g⟩:=hrel;by_cases F:k<xs.length
  ·obtain⟨b,off,C,c3,rfl,cw,y0,y1,y2,y3,y4,y5,y6,bZ⟩:=HP.A.jP g.A.b.aC F;have cQ:=E (Q0 (kr (it d) t wait keep) [] F);have dn:=E (cj.A.2.2.1 xs[k] (dl F)).1;rw[MG F] at cQ dn;have aR:=E F;obtain⟨hd,rC⟩:=aP (dx xs k);obtain⟨sx,gC⟩:=aP (gl xs k);obtain⟨G,rD⟩:=aP (oO xs k);rw[rC,gC,rD] at cQ;rw[rC] at y1 y2 y3 y4;rw[gC] at y5;rw[rD] at y6;generalize cX xs k=L3 at*;obtain⟨ho,hs,hh,U⟩:=hd;clear rC gC rD;dsimp only at y1 y2 y3 y4 dn;generalize(xs.take k).foldl (kr (it d) t wait keep) []=m at*;have mS:=g.A.b.size;have Ep:=E mS;have gv:=E (g.A.alloc (aD #[O C L3.length c3,aG ho,J I hs,aG hh,J I U,J I sx,J I G] 62));have eH:=E (bZ.al ((bk _ _).alloc (aO _) (aD #[O C L3.length c3,aG ho,J I hs,aG hh,J I U,J I sx,J I G] 62)));have zY:=E (aI.new wr 62 #[O C L3.length c3,aG ho,J I hs,aG hh,J I U,J I sx,J I G]);clear g bZ mS;have g0:=zY.A.cell 0;simp at g0;go_wp2_with fail;refine(S2 _ eH.A dn.A).ah ?_;rintro e R⟨rfl,Z⟩;have X:=E (gv.A.rel Z);have je:=E (eH.A.al Z.aC);have Er:=E (zY.A.al Z.aC zY.A.lt);clear Z gv eH zY g0 y0 y1 y2 y3 y4 y5 y6;have rX:(ap (sM L3))=uK.kv L3:=rfl;rcases X.A.r1.look (a:=L3) dn.A underlying280 (z:=aY #[O M 0 0,J I 0,J I 0]) ar true with⟨hn,fk⟩|⟨f,v1,fo,zT,fk⟩
   ·rw[<-rX] at fk;simp only[if_true] at fk;have HQ:=E (λS N h1 h2=>abQ (m:=m) (L:=L3) (h:=⟨ho,hs,hh,U⟩) (st:=sx) (v:=G) (t:=t) (wait:=wait) (keep:=keep) (S:=S) (N:=N) (show(gF (it d) L3).isSome=false by rw[hn];rfl) h1 h2 (show _=G by rw[hn]));clear hn;clear rX;have H:=E (X.A.alloc (aD #[O M 0 0,J I 0,J I 0] 286));have pN:=E (je.A.al ((bk _ _).alloc (aO _) (aD #[O M 0 0,J I 0,J I 0] 286)));have D:=E (Er.A.alloc (aD #[O M 0 0,J I 0,J I 0] 286));have wl:=E (aI.new R 286 #[O M 0 0,J I 0,J I 0]);clear X je Er;have g1:=D.A.cell;have K:=E (QO ho hs hh U false t wait keep (R.alloc (aD #[O M 0 0,J I 0,J I 0] 286)));obtain⟨S,V⟩:=aP (pv ⟨ho,hs,hh,U⟩ false t wait);rw[V] at K;obtain⟨N,T⟩:=aP (aL S t keep);rw[T] at K;have mL:=E (HQ.A S N V T);clear HQ V T;rw[mL.A] at cQ;clear mL;obtain⟨s1,s2,s3,s4⟩:=S;have xV:=E (show aN aH 188 #[aY #[aG ho,J I hs,aG hh,J I U],aG false,J I t,J I wait,J I keep] (R.alloc (aD #[O M 0 0,J I 0,J I 0] 286)) λe w'=>e=aQ (bn #[aY #[aG s1,J I s2,aG s3,J I s4],J I N])/\aS (R.alloc (aD #[O M 0 0,J I 0,J I 0] 286)).heap.size (R.alloc (aD #[O M 0 0,J I 0,J I 0] 286)) w' from K.A);clear K;go_wp2_with fail;refine xV.A.ah ?_;rintro e w7⟨rfl,Z⟩;have o8:=E (H.A.al Z);have xT:=E (pN.A.al Z);have xU:=E (D.A.al Z D.A.lt);have Tb:=E (wl.A.al Z wl.A.lt);clear Z xV H pN D wl g1;have⟨g0,f1⟩:=xU.A.cf;have rP:=E (abP o8.A xU.A Ep.A (aG s1) (J I s2) (aG s3) (J I s4) (J I N));have zX:=E (al7 xU.A (aG s1) (J I s2) (aG s3) (J I s4) (J I N));have zZ:=abO (B:=B) xU.A (a8 di.A Ep.A) (aG s1) (J I s2) (aG s3) (J I s4) (J I N);have rV:=E (xT.A.keep zZ aq aq);clear zZ;have GG:=rP;have J5:=zX;have ud:=rV;have p0:=J5.A.cell;obtain⟨DS,bS,GF,kh,NL⟩:=GG.A.store Eo.A dn.A (x:=(⟨L3,⟨s1,s2,s3,s4⟩,N,G⟩:b8)) (v:=aY #[O C L3.length c3,aG s1,J I s2,aG s3,J I s4,J I N,J I G]) ⟨[O C L3.length c3,aG s1,J I s2,aG s3,J I s4,J I N,J I G],rfl,⟨_,rfl,ud.A⟩⟩;exact abR
   ·rw[<-rX] at fk;simp only[if_true] at fk;obtain⟨cs,rfl,v9,rfl,nT⟩:=zT;obtain⟨n,j,rfl,_⟩:=nT.be;have HQ:=E (λS N h1 h2=>abQ (m:=m) (L:=L3) (h:=⟨ho,hs,hh,U⟩) (st:=sx) (v:=G) (t:=t) (wait:=wait) (keep:=keep) (S:=S) (N:=N) (show(gF (it d) L3).isSome=true by rw[fo];rfl) h1 h2 (show _=f.x.2 by rw[fo]));clear fo nT;clear rX;have H:=E (X.A.alloc (aD #[O n f.L.length j,J I f.x.1,J I f.x.2] 286));have pN:=E (je.A.al ((bk _ _).alloc (aO _) (aD #[O n f.L.length j,J I f.x.1,J I f.x.2] 286)));have D:=E (Er.A.alloc (aD #[O n f.L.length j,J I f.x.1,J I f.x.2] 286));have wl:=E (aI.new R 286 #[O n f.L.length j,J I f.x.1,J I f.x.2]);clear X je Er;have g1:=D.A.cell;have K:=E (QO ho hs hh U true t wait keep (R.alloc (aD #[O n f.L.length j,J I f.x.1,J I f.x.2] 286)));obtain⟨S,V⟩:=aP (pv ⟨ho,hs,hh,U⟩ true t wait);rw[V] at K;obtain⟨N,T⟩:=aP (aL S t keep);rw[T] at K;have mL:=E (HQ.A S N V T);clear HQ V T;rw[mL.A] at cQ;clear mL;obtain⟨s1,s2,s3,s4⟩:=S;have xV:=E (show aN aH 188 #[aY #[aG ho,J I hs,aG hh,J I U],aG true,J I t,J I wait,J I keep] (R.alloc (aD #[O n f.L.length j,J I f.x.1,J I f.x.2] 286)) λe w'=>e=aQ (bn #[aY #[aG s1,J I s2,aG s3,J I s4],J I N])/\aS (R.alloc (aD #[O n f.L.length j,J I f.x.1,J I f.x.2] 286)).heap.size (R.alloc (aD #[O n f.L.length j,J I f.x.1,J I f.x.2] 286)) w' from K.A);clear K;go_wp2_with fail;refine xV.A.ah ?_;rintro e w7⟨rfl,Z⟩;have o8:=E (H.A.al Z);have xT:=E (pN.A.al Z);have xU:=E (D.A.al Z D.A.lt);have Tb:=E (wl.A.al Z wl.A.lt);clear Z xV H pN D wl g1;have⟨g0,f1⟩:=xU.A.cf;have rP:=E (abP o8.A xU.A Ep.A (aG s1) (J I s2) (aG s3) (J I s4) (J I N));have zX:=E (al7 xU.A (aG s1) (J I s2) (aG s3) (J I s4) (J I N));have zZ:=abO (B:=B) xU.A (a8 di.A Ep.A) (aG s1) (J I s2) (aG s3) (J I s4) (J I N);have rV:=E (xT.A.keep zZ aq aq);have bc:=E (zZ.eP Tb.A aq);clear zZ;have W9:=zX.A.put 6 (J I f.x.2);have GG:=E (rP.A.set Ep.A zX.A 6 (J I f.x.2));have J5:=E (show aI _ _ _ #[O C L3.length c3,aG s1,J I s2,aG s3,J I s4,J I N,J I f.x.2] from W9);have ud:=E (rV.A.keep ((Kt.refl B [62] _).setCell (a8 di.A Ep.A) (bp.bO zX.A) (bD.2 rfl) (o:=6) (J I f.x.2)) aq aq);clear W9;have q2:=bc.A.cell 2;have f6:=zX.A.frozen 6;have p0:=J5.A.cell;obtain⟨DS,bS,GF,kh,NL⟩:=GG.A.store Eo.A dn.A (x:=(⟨L3,⟨s1,s2,s3,s4⟩,N,f.x.2⟩:b8)) (v:=aY #[O C L3.length c3,aG s1,J I s2,aG s3,J I s4,J I N,J I f.x.2]) ⟨[O C L3.length c3,aG s1,J I s2,aG s3,J I s4,J I N,J I f.x.2],rfl,⟨_,rfl,ud.A⟩⟩;exact abR
  ·obtain rfl:k=xs.length:=by omega
   rw[pZ] at g;generalize xs.foldl (kr (it d) t wait keep) []=m1 at*;have cM:=g;clear g HP cj F;go_wp2;go_loopw [79] (λi wr=>∃k:Nat,k<=d.length/\i=J I k/\a6 (gw w wr B R1 R2 w.heap.size (w.heap.size+1) (O NM d.length nl) d ((d.take k).foldl (fx t wait keep) (m1,full)).1 #[O ao xs.length cap,J I ((d.take k).foldl (fx t wait keep) (m1,full)).2])) (λi _=>d.length-(intOf i).toNat);case atStart=>exact⟨0,an,rfl,cM⟩
   case round=>
    clear cM;obtain⟨k,hk,rfl,g⟩:=hrel;by_cases F:k<d.length
    ·obtain⟨bq,bj,IE,xh,_,y7⟩:=g.A.oI.be;obtain⟨b,off,C,c3,ha,cw,y0,y1,y2,bZ⟩:=xh.NF (bk _ _) F;cases IE;subst ha;have cQ:=E (Q0 (fx t wait keep) (m1,full) F);have dn:=E (bd.A d[k] (dl F)).1;have GH:=E (a5.A k);rw[NE F] at cQ dn;have aR:=E F;generalize zS d k=L3 at*;obtain⟨⟨f,x2⟩,hx⟩:∃x,Ce d k=x:=⟨_,rfl⟩;rw[hx] at cQ;simp only[hx] at y1 y2;clear hx;dsimp only at dn;obtain⟨⟨m,s⟩,lU⟩:∃aU,(d.take k).foldl (fx t wait keep) (m1,full)=aU:=⟨_,rfl⟩;rw[lU] at cQ g GH;clear lU;dsimp only at g GH;have Ep:=E g.A.b.size;have gv:=E (g.A.alloc (aD #[O C L3.length c3,J I f,J I x2] 286));have eH:=E (bZ.al ((bk _ _).alloc (aO _) (aD #[O C L3.length c3,J I f,J I x2] 286)));have zY:=E (aI.new wr 286 #[O C L3.length c3,J I f,J I x2]);clear g bZ xh;have g0:=zY.A.cell 0;simp at g0;go_wp2_with fail;refine(S2 _ eH.A dn.A).ah ?_;rintro e R⟨rfl,Z⟩;have X:=E (gv.A.rel Z);have je:=E (eH.A.al Z.aC);have Er:=E (zY.A.al Z.aC zY.A.lt);clear Z gv eH zY g0 y0 y1 y2;have rX:(ap (sM L3))=uK.kv L3:=rfl;rcases X.A.r2.look (a:=L3) dn.A underlying283 (z:=aY #[O M 0 0,aG false,J I 0,aG false,J I 0,J I 0,J I 0]) ar true with⟨hn,fk⟩|⟨a9,v1,fo,zT,fk⟩
     ·rw[<-rX] at fk;simp only[if_true] at fk;have HQ:=E (show fx t wait keep (m,s) ⟨L3,(f,x2)⟩=if 16<=m.length then(m,min (s+1) 9007199254740992) else(eF m L3 (FF t wait keep ⟨L3,(f,x2)⟩),s) by
       unfold fx;simp only[hn,Option.isSome_none,tL,if_false])
      clear hn rX;have H:=E (X.A.alloc (aD #[O M 0 0,aG false,J I 0,aG false,J I 0,J I 0,J I 0] 62));have pN:=E (je.A.al ((bk _ _).alloc (aO _) (aD #[O M 0 0,aG false,J I 0,aG false,J I 0,J I 0,J I 0] 62)));have D:=E (Er.A.alloc (aD #[O M 0 0,aG false,J I 0,aG false,J I 0,J I 0,J I 0] 62));clear X je Er;have cK:=H.A.r2.len 3 (t:=283) underlying283;by_cases cg:16<=m.length
      ·have uG:=E (show(d.take (k+1)).foldl (fx t wait keep) (m1,full)=(m,min (s+1) 9007199254740992) by rw[cQ.A,HQ.A,ag cg]);have f1:=H.A.x.frozen 1;have q1:=H.A.x.cell 1;have Mg:=GH.A.1;have bg:=GH.A.2;have Dx:I.wrap (s+1)=s+1:=ay;have o8:=E (show gw w _ B R1 R2 w.heap.size (w.heap.size+1) (O (ad (ab b off M)) d.length nl) d ((d.take (k+1)).foldl (fx t wait keep) (m1,full)).1 #[O ao xs.length cap,J I ((d.take (k+1)).foldl (fx t wait keep) (m1,full)).2] from by
        rw[uG.A];exact H.A.als 1 (J I (min (s+1) 9007199254740992)))
       have a2:decide (16<=(m.length:Int))=true:=ac an;clear cQ HQ uG cg;go_wp2;go_roundw;case rel=>exact⟨k+1,aR.A,by go_num,o8⟩
       case measure=>exact ax
      ·have uG:=E (show(d.take (k+1)).foldl (fx t wait keep) (m1,full)=(eF m L3 (FF t wait keep ⟨L3,(f,x2)⟩),s) by rw[cQ.A,HQ.A,af cg]);have a2:decide (16<=(m.length:Int))=false:=aa an;have bi:decide (16<=m.length)=false:=aa cg;clear cQ HQ cg;have xV:=E (λW=>QO false 0 false 0 true t wait keep W);obtain⟨S,V⟩:=aP (pv ⟨false,0,false,0⟩ true t wait);rw[V] at xV;obtain⟨N,T⟩:=aP (aL S t keep);rw[T] at xV;have uz:=E (show FF t wait keep ⟨L3,(f,x2)⟩=⟨L3,S,N,x2⟩ by subst T;subst V;rfl);rw[uz.A] at uG;clear uz V T;obtain⟨s1,s2,s3,s4⟩:=S;have aW:=E (λW=>show aN aH 188 #[aY #[aG false,J I 0,aG false,J I 0],aG true,J I t,J I wait,J I keep] W λe w'=>e=aQ (bn #[aY #[aG s1,J I s2,aG s3,J I s4],J I N])/\aS W.heap.size W w' from xV.A W);clear xV;go_wp2_with fail;refine(aW.A _).ah ?_;rintro e w7⟨rfl,Z⟩;have rP:=E ((H.A.al Z).alloc (aD #[aG s1,J I s2,aG s3,J I s4] 60));have rV:=E ((pN.A.al Z).al ((bk _ _).alloc (aO _) (aD #[aG s1,J I s2,aG s3,J I s4] 60)));have zX:=E ((D.A.al Z D.A.lt).alloc (aD #[aG s1,J I s2,aG s3,J I s4] 60));clear Z aW H pN D cK fk;have g0:=zX.A.cell;obtain⟨DS,bS,GF,kh,NL⟩:=rP.A.store Eo.A dn.A (x:=(⟨L3,⟨s1,s2,s3,s4⟩,N,x2⟩:b8)) (v:=aY #[O C L3.length c3,aG s1,J I s2,aG s3,J I s4,J I N,J I x2]) ⟨[O C L3.length c3,aG s1,J I s2,aG s3,J I s4,J I N,J I x2],rfl,⟨_,rfl,rV.A⟩⟩;have GG:=E (show gw w DS B R1 R2 w.heap.size (w.heap.size+1) (O (ad (ab b off M)) d.length nl) d ((d.take (k+1)).foldl (fx t wait keep) (m1,full)).1 #[O ao xs.length cap,J I ((d.take (k+1)).foldl (fx t wait keep) (m1,full)).2] from by
        rw[uG.A];exact GF)
       clear GF kh NL uG;go_wp2;go_roundw;case rel=>exact⟨k+1,aR.A,by go_num,GG⟩
       case measure=>exact ax
     ·rw[<-rX] at fk;simp only[if_true] at fk;obtain⟨cs,rfl,cS⟩:=zT;obtain⟨n,j,rfl,_⟩:=J1 cS;have uG:=E (show(d.take (k+1)).foldl (fx t wait keep) (m1,full)=(m,s) by
       rw[cQ.A];unfold fx;simp only[fo,Option.isSome_some,if_true])
      have o8:=E (show gw w _ B R1 R2 w.heap.size (w.heap.size+1) (O (ad (ab b off M)) d.length nl) d ((d.take (k+1)).foldl (fx t wait keep) (m1,full)).1 #[O ao xs.length cap,J I ((d.take (k+1)).foldl (fx t wait keep) (m1,full)).2] from by
       rw[uG.A];exact X.A.alloc (aD #[O n a9.L.length j,aG a9.h.on,J I a9.h.dB,aG a9.h.hit,J I a9.h.eW,J I a9.st,J I a9.v] 62))
      clear fo cS rX cQ uG X;go_wp2;go_roundw;case rel=>exact⟨k+1,aR.A,by go_num,o8⟩
      case measure=>exact ax
    ·obtain rfl:k=d.length:=by omega
     rw[pZ] at g;obtain⟨⟨m,s⟩,lU⟩:∃aU,d.foldl (fx t wait keep) (m1,full)=aU:=⟨_,rfl⟩;rw[lU] at g HE J6;clear lU;dsimp only at g HE J6;have a4:=E (λp:ba wr=>ak5 p.aL (a8 di.A (a8 g.A.b.size p.aC.size)) (g.A.r2.al p.aC) (ai J6.A.2));have q1:=ba.cells g.A.x 1;clear F;go_wp2_with fail;refine du [.q 0,.q 2,.q 3,.c 1] [4,5] ?_;refine dY ?_;refine S4.dm ?_;rintro _⟨pt,rfl⟩ KK aJ;go_simp;refine(a4.A pt).ah ?_;rintro e w9⟨⟨v9,rfl,Y,hp,aM,hO⟩,Z⟩;obtain⟨n,j,rfl,_⟩:=hO.shape;have K:=E (show Ow dV w9 B pt.aL.heap.size (O n Y.length j) Y/\Y=uh (m.map (·.2)) from⟨hO,ahu lg (λa:b8=>dG a.L) (hp.trans (Mh _ _).symm) (((hp.map _).nodup_iff).2 J6.A.1) (aM.imp λ{x y} h=>by omega) (QY lg _ _)⟩);clear hp aM hO;have rY:=E Z;refine aJ _ _ Z ?_;clear aJ KK Z;refine S4.nb λwq hq=>?_;have HY:=E ((((g.A.y.al pt.aC g.A.y.lt)).al rY.A.aC (da g.A.y.lt pt.aC.size)).al hq (da (da g.A.y.lt pt.aC.size) rY.A.size));have kd:=E (((g.A.b.trans pt.r).trans rY.A).trans (aF.of hq));have Nx:=E (K.A.1.al hq);have fR:=E g.A.g4;clear hq;have⟨z0,f0⟩:=HY.A.cf;refine dP ?_;clear z0 f0;have y:=(HY.A.put 0 (O n Y.length j)).put 1 (J I s);have k0:=y.cell;have cx:=((Kt.refl B [56] wq).setCell (a8 di.A fR.A) (bp.bO HY.A) (bD.2 rfl) (o:=0) (O n Y.length j)).setCell (a8 di.A fR.A) (bp.bO (HY.A.put 0 (O n Y.length j))) (bD.2 rfl) (o:=1) (J I s);have a3:=E (show nX _ B (aY #[O n Y.length j,J I s]) r from⟨O n Y.length j,by rw[HE.A],by rw[HE.A];show Vs dV _ B _ (uh (m.map (·.2)));rw[<-K.A.2];exact(Nx.A.keep cx aq aq).vs⟩);have Dd:=E ((kd.A.setCell (p:=⟨w.heap.size+1,0,M⟩) fR.A (O n Y.length j)).setCell (p:=⟨w.heap.size+1,1,M⟩) fR.A (J I s));clear y cx;go_wp2;refine bF (v:=aY #[O n Y.length j,J I s]) (by simp[bz,results147,go_sem,k0]) rfl ⟨⟨_,rfl,a3.A⟩,Dd.A⟩
end
end Go.Proofs.YtbeaddlblpgppaaGreatDoor
