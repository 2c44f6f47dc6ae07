/- Part 3 of the proof of TopRules (watchtowertop). Conditions: none. -/
import Derived.Test.YtbeaddlblpgppaaGreatDoorYb
import Derived.Deep.RegionHeld3
import Derived.DeepKeys5
import Derived.Deep.Slices
import Derived.Lib.SmallJoins
import Derived.WalkLawsBesides
import Derived.BigQuiet
import Derived.Outline
set_option maxRecDepth 100000
set_option maxHeartbeats 8000000
set_option linter.unusedVariables false
set_option linter.unusedSimpArgs false
set_option linter.defProp false
open Go.Lib renaming hid->E
open Go.IntKind renaming i64->I,wrap_i64->b7
open Go.Value renaming int->J,slice->O,string->ap,bool->aG,agg->aY,pointer->bl,tuple->bn,ownBlock->qS
open Option renaming none->M,some->ad
open Go.Addr renaming mk->ab
open Go renaming World->aB,Value->aE,Calls->aN,Addr->aX,Act->bb,TypeId->bf,Oper->bv,results->bz,bodyPost_ret->bF,maxLen->bK,Program->cp,undef->cu,yielded->dR,heap_alloc_new->qR
open Go.Obj renaming cells->aD
open Go.Proofs.Tryz renaming prog->aH
open Nat renaming le_refl->aO,le_trans->a8,zero_le->bV,lt_of_lt_of_le->da,lt_or_ge->gy
open Go.Ending renaming returned->aQ
open Go.RowKit renaming Below->aS,Hid->a6
open Go.RowKit.Below renaming refl->bk,heap_setCell->yv
open List renaming length_append->b2,getElem?_eq_getElem->cR,getD_eq_getElem?_getD->dd,getElem_mem->dl,mem_append->kf,map_append->lK,append_assoc->mV,length->oz,drop_eq_getElem_cons->pf,length_cons->pY,length_map->p6,mem_iff_getElem->qV,eq_nil_of_length_eq_zero->sb,map_cons->sd,range->se
open Bool renaming and_eq_true->b9,false_eq_true->tL
open Go.Region renaming wanted->dz,ready->iW
open Go.World renaming setCell->eB,size_alloc->eO
open UInt8 renaming ofNat->fN
open Go.Instr renaming slice->iV
open Array renaming getElem?_eq_some_iff->lJ,getElem?_eq_none->tK,replicate->tN
open Exists renaming intro->lL
open Go.DataW renaming trod->qW
open Go.World.ownsRow renaming lt->CX
open Go.World.grownBy renaming refl->EZ
open Go.Proofs.Tryz
namespace Go.Proofs.YtbeaddlblpgppaaGreatDoor
open Go.RowKit
variable {w:aB} {B g base:Nat} {v a0 cZ a2:aE} {L:aZ} {t:bf} {cs:Array aE}
open bw
section
variable {w w':aB} {B B' n:Nat} {ao:Option aX} {ns:List Nt} {y:Nt}
def fm.setCell (h:fm w B ao n L) {p:aX} (hB:B<=p.block) (u:aE):fm (w.setCell p u) B ao n L:=⟨h.len,h.q.setCell hB u,h.sz⟩
def fm.alloc (h:fm w B ao n L) (hB:B<=w.heap.size) (o:Obj):fm (w.alloc o) B ao n L:=⟨h.len,h.q.alloc hB o,h.sz⟩
def fm.grown {row:Option Nat} (h:fm w B ao n L) (hg:w.grownBy w' row) (hB:B<=w.heap.size) (a:∀g,row=ad g->B<=g):fm w' B ao n L:=⟨h.len,h.q.grown hg hB a,h.sz⟩
def Rn.setCell (h:Rn w B y) {p:aX} (hB:B<=p.block) (u:aE):Rn (w.setCell p u) B y:=⟨h.hN.setCell hB u,h.cap⟩
def Rn.alloc (h:Rn w B y) (hB:B<=w.heap.size) (o:Obj):Rn (w.alloc o) B y:=⟨h.hN.alloc hB o,h.cap⟩
def Rn.grown {row:Option Nat} (h:Rn w B y) (hg:w.grownBy w' row) (hB:B<=w.heap.size) (a:∀g,row=ad g->B<=g):Rn w' B y:=⟨h.hN.grown hg hB a,h.cap⟩
def ia.setCell (h:ia w B ao n ns) {p:aX} (hB:B<=p.block) (u:aE):ia (w.setCell p u) B ao n ns:=⟨h.len,h.sl.setCell hB u,λi hi=>(h.rE i hi).setCell hB u⟩
def ia.alloc (h:ia w B ao n ns) (hB:B<=w.heap.size) (o:Obj):ia (w.alloc o) B ao n ns:=⟨h.len,h.sl.alloc hB o,λi hi=>(h.rE i hi).alloc hB o⟩
def ia.grown {row:Option Nat} (h:ia w B ao n ns) (hg:w.grownBy w' row) (hB:B<=w.heap.size) (a:∀g,row=ad g->B<=g):ia w' B ao n ns:=⟨h.len,h.sl.grown hg hB a,λi hi=>(h.rE i hi).grown hg hB a⟩
end
def aiK (g i:Nat):((ab g 0 M):aX).add i=⟨g,0+i,M⟩:=aqj
def jh (w:aB) (base e:Nat) (v:aE) (l:List Nt):Prop:=w.ownsRow base e 5 v l.length (jx l)
section
variable {w w':aB} {base e:Nat} {v:aE} {l:List Nt}
def jh.bh (w:aB) (base e:Nat):jh w base e (O M 0 0) []:=World.ownsRow_nil _ _ _ _
def jh.form (h:jh w base e v l):(v=O M 0 0/\l=[])\/∃g cap,v=O (ad (ab g 0 M)) l.length cap/\base<=g/\g<w.heap.size/\l.length<=cap/\cap<=bK:=by
 exact Ld
def jh.Jg (h:jh w base e v l) (hB:B<=w.heap.size) (a:∀i,i<l.length->Rn w B (nt l i)):∃ao n cap,v=O ao n cap/\ia w w.heap.size ao n l/\n<=cap/\cap<=9223372036854775807:=by
 rcases h.form with⟨rfl,rfl⟩|⟨g,cap,rfl,_,aK,hc,hm⟩
 ·exact⟨M,0,0,rfl,ia.bh _ _ _,aO _,an⟩
 ·refine⟨_,_,cap,rfl,⟨rfl,λ_=>⟨g,0,rfl,aK,λi hi=>?_⟩,λi hi=>(a i hi).bt hB⟩,hc,hm⟩;have b:(jx l)[i]?=ad ((jx l).getD i (aG false)):=by
   rw[dd,cR (by rw[Zo];exact hi)];rfl
  have:=World.ownsRow.cells h (g:=g) rfl i _ b;rw[aiK] at this;exact this
def jh.setCell (h:jh w base e v l) {a:aX} (b:a.block<base) (u:aE):jh (w.setCell a u) base e v l:=ownsRow_setCell_below h b u
def jh.alloc (h:jh w base e v l) (o:Obj):jh (w.alloc o) base e v l:=World.ownsRow.alloc h o
def jh.nI (h:jh w base e v l):∀k,v.ownBlock=ad k->base<=k:=λk a=>(CX h k a).1
def jh.AO (w:aB) (e:bf) (Z:base<=w.heap.size):jh (w.alloc (aD #[] e)) base e (O (ad (ab w.heap.size 0 M)) 0 0) []:=⟨rfl,.inr ⟨w.heap.size,0,#[],rfl,Z,qR w _,aO _,bV _,rfl,rfl⟩⟩
end
def jh.shape {e:Nat} {l:List Nt} (h:jh w base e v l):∃ao n cap,v=O ao n cap:=by
 rcases h.form with⟨rfl,rfl⟩|⟨g,cap,rfl,_⟩
 ·exact⟨_,_,_,rfl⟩
 ·exact⟨_,_,_,rfl⟩
def aiL (ns:List Nt):∀u∈jx ns,u.oneCell'=true:=by
 intro u b;obtain⟨y,_,a⟩:=List.mem_flatMap.1 b;simp[Nt.cells] at a;rcases a with rfl|rfl|rfl|rfl|rfl<;>rfl
def aiM:(aH.info? 117).map (λi=>(i.zero,i.size,i.bytes))=ad (ad (aY #[O M 0 0,aG false,J I 0,J I 0,J I 0]),5,56):=ar
section
variable {w:aB}
end
def aI.Zu (h:aI w g t #[a0,cZ,a2]) (u0 u1 u2:aE):aI (((w.setCell (ab g 0 M) u0).setCell (ab g 1 M) u1).setCell (ab g 2 M) u2) g t #[u0,u1,u2]:=((h.put 0 u0).put 1 u1).put 2 u2
def aI.MJ (h:aI w g t cs) {k:Nat} (a:g≠k) (u0 u1 u2:aE):aI (((w.setCell (ab k 0 M) u0).setCell (ab k 1 M) u1).setCell (ab k 2 M) u2) g t cs:=((h.bT a u0).bT a u1).bT a u2
def MK {a:aB} (h:aS B a w) {k:Nat} (b:B<=k) (u0 u1 u2:aE):aS B a (((w.setCell (ab k 0 M) u0).setCell (ab k 1 M) u1).setCell (ab k 2 M) u2):=((h.setCell b u0).setCell b u1).setCell b u2
variable {P:Prop}
def kC (ns:List Nt) (t:Int):Bool:=decide (0<ns.length)&&decide ((nt ns 0).x<=ga t)
def qt (ns:List Nt) (t:Int):Nt:=if kC ns t then nt ns 0 else default
def Zv {a:aB} (h:aS B a w) {k:Nat} (b:B<=k) (u0 u1 u2 u3 u4:aE):aS B a (((((w.setCell (ab k 0 M) u0).setCell (ab k 1 M) u1).setCell (ab k 2 M) u2).setCell (ab k 3 M) u3).setCell (ab k 4 M) u4):=((((h.setCell b u0).setCell b u1).setCell b u2).setCell b u3).setCell b u4
theorem Zw (h:P:=by
 refine WQ.bh ?_;rintro iE⟨⟨wq,hq⟩,dA⟩;obtain rfl:wq=iE:=dA.symm;clear dA;have k1:=g1.al hq g1.lt;have r0:=k1.cell 0;have r1:=k1.cell 1;have r2:=k1.cell 2;have wP:=k1.cell 3;have r4:=k1.cell 4;have z0:=k1.frozen 0;have z1:=k1.frozen 1;have z2:=k1.frozen 2;have z3:=k1.frozen 3;have z4:=k1.frozen 4;simp at r0 r1 r2 wP r4;have cP:=bN.trans (hq.mono bN.size);clear k1 hq;go_wp2;refine bF (v:=bn #[aY #[O M 0 0,aG false,J I 0,J I 0,J I 0],aG false]) (by simp[bz,results78,go_sem,r0,r1,r2,wP,r4]) rfl ?_;refine⟨?_,Zv cP an _ _ _ _ _⟩;rw[H1.A];unfold qt;rw[HE.A];rfl;):P:=h
def RA (v:aE) (d l:Int) (ns:List Nt) (t:Int) (w:aB) (Z:QV w w.heap.size v ns d l):aN aH 78 #[v,J I t] w λe w'=>e=aQ (bn #[(qt (kB ns d l) t).val,aG (kC (kB ns d l) t)])/\aS w.heap.size w w':=by
 have HB:=E Z;obtain⟨A0,n0,c0,rfl,Y,h2,h3⟩:=Z.A;clear Y Z;obtain⟨n,H1⟩:∃x,a6 (kB ns d l=x):=⟨_,E rfl⟩;obtain⟨d1,H2⟩:∃x,a6 (ly ns d l d=x):=⟨_,E rfl⟩;obtain⟨l1,H3⟩:∃x,a6 (ly ns d l l=x):=⟨_,E rfl⟩;go_enter func78,ntmps78;go_wp2_with fail;refine(Zt w.heap.size _ d l ns _ aw (HB.A.al ?cN)).ah ?_;case cN=>exact((bk _ _).alloc (aO _) _).alloc av _
 rintro e c⟨⟨v1,rfl,o⟩,aW⟩;rw[H1.A,H2.A,H3.A] at o;have bg:aS w.heap.size w c:=(((bk w.heap.size w).alloc (aO _) _).alloc av _).trans (aW.mono aw);have b0:=((aI.new w 31 #[O A0 n0 c0,J I d,J I l]).alloc (aD #[O M 0 0,aG false,J I 0,J I 0,J I 0] 117)).al aW aw;have cH:=(aI.new (w.alloc (aD #[O A0 n0 c0,J I d,J I l] 31)) 117 #[O M 0 0,aG false,J I 0,J I 0,J I 0]).al aW av;simp only[eO] at cH;obtain⟨A1,n1,c1,rfl,o,FJ,g⟩:=o.A;have G:n.length=n1:=o.len;have x0:c.frozen? (ab w.heap.size 0 M)=false:=b0.frozen 0;have x1:c.frozen? (ab w.heap.size 1 M)=false:=b0.frozen 1;have x2:c.frozen? (ab w.heap.size 2 M)=false:=b0.frozen 2;have ef:c.cell? (ab w.heap.size 0 M)=ad (O A0 n0 c0):=b0.cell 0;have cG:c.cell? (ab w.heap.size 1 M)=ad (J I d):=b0.cell 1;have de:c.cell? (ab w.heap.size 2 M)=ad (J I l):=b0.cell 2;have u:=b0.Zu (O A1 n1 c1) (J I d1) (J I l1);have g1:=cH.MJ (k:=w.heap.size) an (O A1 n1 c1) (J I d1) (J I l1);have bN:=MK bg (aO _) (O A1 n1 c1) (J I d1) (J I l1);have K:=E (((o.setCell (p:=(ab w.heap.size 0 M)) (aO _) (O A1 n1 c1)).setCell (p:=(ab w.heap.size 1 M)) (aO _) (J I d1)).setCell (p:=(ab w.heap.size 2 M)) (aO _) (J I l1));have vt:w.heap.size+1<c.heap.size:=aqz;obtain⟨W,s⟩:=aP (((c.setCell (ab w.heap.size 0 M) (O A1 n1 c1)).setCell (ab w.heap.size 1 M) (J I d1)).setCell (ab w.heap.size 2 M) (J I l1));have Qh:W.heap.size=c.heap.size:=by rw[<-s];simp
 rw[s] at u g1 K bN;have q0:∀p:ba W,p.aL.cell? (ab w.heap.size 0 M)=ad (O A1 n1 c1):=ba.cells u 0;have D:=E (show∀p:ba W,aN aH 113 #[J I t] p.aL λe cT=>e=aQ (J I (ga t))/\∃q:ba W,cT=q.aL fromλp=>aN.aeT ((MI t p.aL).mono λ_ _ h=>⟨h.1,h.2.symm⟩));have C:=E s;clear aW b0 cH o s;by_cases h0:n1=0
 ·subst h0;have HE:=E (show kC n t=false by unfold kC;rw[G];rfl);go_wp2_with fail;rw[C.A];refine pk ar ar ?_;repeat (
   refine WQ.step (λKK a=>?_);go_simp;refine a _ ?_;clear a KK)
  exact Zw
 ·obtain⟨b,off,rfl,cw,j,g,m,i,f⟩:=K.A.at_ (k:=0) an;obtain⟨y,B⟩:∃y,a6 (nt n 0=y):=⟨_,E rfl⟩;rw[B.A] at j g m i f;simp only[Nat.zero_mul,Nat.add_zero] at j g m i f;have z:=E (show kC n t=decide (y.x<=ga t) by unfold kC;rw[G,B.A];simp;omega);have Jh:=E (show kC n t=true->qt n t=y by intro h;unfold qt;rw[h,B.A];rfl);obtain⟨U,N,S,yL,R,L,Q,r⟩:=y;dsimp only at j g m i f z;have oN:∀p:ba W,p.aL.cell? ⟨b,off+4,M⟩=ad (J I r):=λp=>p.cell arc f;have e0:((n1:Int)==0)=false:=beq_false_of_ne an;have A:0<n1:=an;have aM:decide (0<n1)=true:=ac A;obtain⟨T,HT⟩:∃T,a6 (ga t=T):=⟨_,E rfl⟩;rw[HT.A] at D z;by_cases H:r<=T
  ·have HE:=E (show kC n t=true by rw[z.A];exact ac H);have Bh:decide (T<r)=false:=aa an;have aK:b<w.heap.size:=cw;have F:=E (⟨j,g,m,i,f⟩:(_/\_/\_/\_/\_));clear j g m i f;go_wp2_with fail;rw[C.A];refine pk ar ar ?_;repeat (
    refine WQ.step (λKK a=>?_);go_simp;first
     |(refine a _ ?_;clear a KK)
     |(apply lL;refine⟨λ_=>?_,a _ ?_⟩;((go_at_call 113;exact D.A _));clear a KK))
   refine WQ.bh ?_;rintro iE⟨⟨wq,hq⟩,dA⟩;obtain rfl:wq=iE:=dA.symm;clear dA;have k1:=g1.al hq g1.lt;have k0:=u.al hq u.lt;have r0:=k1.cell 0;have r1:=k1.cell 1;have r2:=k1.cell 2;have wP:=k1.cell 3;have r4:=k1.cell 4;have z0:=k1.frozen 0;have z1:=k1.frozen 1;have z2:=k1.frozen 2;have z3:=k1.frozen 3;have z4:=k1.frozen 4;have p0:=k0.cell 0;simp at r0 r1 r2 wP r4;obtain⟨j,g,m,i,f⟩:=F.A;have Zx:=(hq.cell (p:=(ab b off M)) arc).trans j;have X:=(hq.cell (p:=⟨b,off+1,M⟩) arc).trans g;have mE:=(hq.cell (p:=⟨b,off+2,M⟩) arc).trans m;have Zy:=(hq.cell (p:=⟨b,off+3,M⟩) arc).trans i;have V:=(hq.cell (p:=⟨b,off+4,M⟩) arc).trans f;have cP:=bN.trans (hq.mono bN.size);clear k1 hq j g m i f k0;go_wp2;refine bF (v:=bn #[aY #[O U N S,aG R,J I L,J I Q,J I r],aG true]) (by simp[bz,results78,go_sem,r0,r1,r2,wP,r4]) rfl ?_;refine⟨?_,Zv cP an _ _ _ _ _⟩;rw[H1.A,Jh.A HE.A,HE.A];rfl
  ·have HE:=E (show kC n t=false by rw[z.A];exact aa H);have Bh:decide (T<r)=true:=ac an;clear j g m i f;go_wp2_with fail;rw[C.A];refine pk ar ar ?_;repeat (
    refine WQ.step (λKK a=>?_);go_simp;first
     |(refine a _ ?_;clear a KK)
     |(apply lL;refine⟨λ_=>?_,a _ ?_⟩;((go_at_call 113;exact D.A _));clear a KK))
   exact Zw
variable {i n:Nat}
theorem MP (h:P:=by
 go_enter func173,ntmps173;go_wp2;go_ret;exact⟨rfl,rfl⟩;):P:=h
def ai2 (c:Nat) (w:aB):aN aH 173 #[J .u8 (c:Int)] w λe w'=>e=aQ (aG (mH c))/\w'=w:=by
 by_cases b:c=32
 ·subst b;exact MP
 by_cases h2:c=9
 ·subst h2;exact MP
 by_cases a:c=13
 ·subst a;exact MP
 by_cases h4:c=10
 ·subst h4;exact MP
 have d:=E (show mH c=false by unfold mH;simp[b,h2,a,h4]);have j:((c:Int)==32)=false:=aw;have i:((c:Int)==9)=false:=aw;have g:((c:Int)==13)=false:=aw;have f:((c:Int)==10)=false:=aw;clear b h2 a h4;go_enter func173,ntmps173;go_wp2;go_ret;exact⟨cc d.A.symm,rfl⟩
def ZI (c:Nat) (w:aB):aN aH 174 #[J .u8 (c:Int)] w λe w'=>e=aQ (aG (zn c))/\w'=w:=by
 go_enter func174,ntmps174;go_wp2;all_goals go_ret
 all_goals refine⟨cc ?_,rfl⟩
 all_goals rw[Bool.eq_iff_iff]
 all_goals simp only[zn,Bool.or_eq_true,b9,decide_eq_true_eq,beq_iff_eq,true_iff,tL,false_iff]
 all_goals omega
def RG (c:Nat) (w:aB):aN aH 175 #[J .u8 (c:Int)] w λe w'=>e=aQ (aG (l0 c))/\w'=w:=by
 go_enter func175,ntmps175;go_wp2;all_goals go_ret
 all_goals refine⟨cc ?_,rfl⟩
 all_goals rw[Bool.eq_iff_iff]
 all_goals simp only[l0,Bool.or_eq_true,b9,decide_eq_true_eq,beq_iff_eq,true_iff,tL,false_iff]
 all_goals omega
def zp {s:ByteArray} (h:i<s.size):(s[i]'h).toNat=dp s i:=by unfold dp;rw[dif_pos h]
def ZJ (s:ByteArray) (i:Nat) (w:aB) (hs:s.size<=9223372036854775807) (hi:i<=s.size):aN aH 129 #[ap s,J I i] w λe w'=>(∃j:Nat,e=aQ (J I j)/\i<=j/\j<=s.size/\(Plain s->ib mH s i j))/\w'=w:=by
 have C:=E hs;go_enter func129,ntmps129;go_wp2;go_loopw [1] (λr wr=>∃k:Nat,i<=k/\k<=s.size/\r=J I k/\a6 (Plain s->∀j,i<=j->j<k->mH (dp s j)=true)/\wr=w) (λr _=>s.size-(intOf r).toNat);case atStart=>exact⟨i,an,an,rfl,E (λ_ j y h2=>by omega),rfl⟩
 case round=>
  obtain⟨k,l,m,rfl,p,rfl⟩:=hrel;by_cases z:k<s.size
  ·have K:=zp z;obtain⟨c,t⟩:=aP (dp s k);rw[t] at K;have g:=E t;clear t;have f:=ai2 c wr;cases Z:mH c with
   |true=>
    rw[Z] at f;go_wp2_with fail;refine f.ah ?_;rintro e n⟨rfl,rfl⟩;clear f;have G:=C.A;go_wp2;go_roundw;case rel=>exact⟨k+1,an,an,by go_num,E (λb j y h2=>by
     rcases gy j k with h|h
     ·exact p.A b j y h
     ·obtain rfl:j=k:=by omega
      rw[g.A];exact Z),trivial⟩
    case measure=>exact aA
   |false=>
    rw[Z] at f;by_cases A:c=35
    ·subst A;have B:=E (show¬Plain s fromλh=>(h k z).2 g.A);go_wp2_with fail;refine f.ah ?_;rintro e n⟨rfl,rfl⟩;clear f Z;go_wp2;go_loopw [1] (λq D=>∃a:Nat,k<=a/\a<=s.size/\q=J I a/\D=n) (λq _=>s.size-(intOf q).toNat);case atStart=>exact⟨k,an,an,rfl,rfl⟩
     case round=>
      obtain⟨a,M,L,rfl,rfl⟩:=hrel;have G:=C.A;by_cases F:a<s.size
      ·have v:=zp F;by_cases o:dp s a=10
       ·rw[o] at v;have N:k≠a:=λe=>by rw[e] at g;have:=g.A;omega
        go_wp2;go_roundw;case rel=>exact⟨a,an,an,rfl,E (λb=>ae b B.A),trivial⟩
        case measure=>exact aA
       ·obtain⟨d,x⟩:=aP (dp s a);rw[x] at v o;have H:((d:Int)!=10)=true:=aw;clear x o;go_wp2;go_roundw;case rel=>exact⟨a+1,an,an,by go_num,trivial⟩
        case measure=>exact aA
      ·obtain rfl:a=s.size:=by omega
       go_wp2;go_roundw;case rel=>exact⟨s.size,an,an,rfl,E (λb=>ae b B.A),trivial⟩
       case measure=>exact aA
    ·have H:((c:Int)==35)=false:=by simp;omega
     have u:=E (show Plain s->ib mH s i k fromλb=>⟨l,m,p.A b,λ_=>by rw[g.A];exact Z⟩);clear A;go_wp2_with fail;refine f.ah ?_;rintro e n⟨rfl,rfl⟩;clear f Z;go_wp2;go_ret;exact⟨⟨k,rfl,l,m,u.A⟩,rfl⟩
  ·obtain rfl:k=s.size:=by omega
   have u:=E (show Plain s->ib mH s i s.size fromλb=>⟨l,m,p.A b,λh=>ae h (Nat.lt_irrefl _)⟩);go_wp2;go_ret;exact⟨⟨s.size,rfl,l,m,u.A⟩,rfl⟩
def ib.of {P:Nat->Bool} {s:ByteArray} (b:i<=n) (h2:n<=s.size) (a:∀k,i<=k->k<n->P (dp s k)=true) (h4:n<s.size->P (dp s n)=false):ib P s i n:=⟨b,h2,a,h4⟩
def ZL {P:Nat->Bool} {s:ByteArray} (h:∀k,i<=k->k<n->P (dp s k)=true) (a:P (dp s n)=true):∀k,i<=k->k<n+1->P (dp s k)=true:=λk h2 b=>by
 rcases gy k n with h4|h4
 ·exact h k h2 h4
 ·obtain rfl:k=n:=by omega
  exact a
theorem ZM (h:P:=by
 have HE:=E (FX.A (by unfold rH;rw[Z,bd];rfl));go_wp2_with fail;refine hw.ah ?_;rintro e w1⟨rfl,rfl⟩;clear hw;go_wp2_with fail;refine hd.ah ?_;rintro e w1⟨rfl,rfl⟩;clear hd;go_wp2;go_roundw;case rel=>exact⟨k+1,an,an,by go_num,HE,trivial⟩
 case measure=>exact aA
 ):P:=h
theorem ZN (h:P:=by
 go_wp2_with fail;refine hw.ah ?_;rintro e w1⟨rfl,rfl⟩;clear hw;go_wp2_with fail;refine hd.ah ?_;rintro e w1⟨rfl,rfl⟩;clear hd;go_wp2;go_ret;exact⟨⟨k,rfl,HE.A⟩,rfl⟩;):P:=h
def ai3 (s:ByteArray) (a:Bool) (w:aB) (hs:s.size<=9223372036854775807) (r:1<=s.size):aN aH 132 #[ap s,aG a] w λe w'=>(∃n:Nat,e=aQ (J I n)/\ib (rH a) s 1 n)/\w'=w:=by
 have x:=E hs;go_enter func132,ntmps132;go_wp2;go_loopw [5] (λf wr=>∃k:Nat,1<=k/\k<=s.size/\f=J I k/\a6 (∀j,1<=j->j<k->rH a (dp s j)=true)/\wr=w) (λf _=>s.size-(intOf f).toNat);case atStart=>exact⟨1,an,an,rfl,E (λj r h2=>by omega),rfl⟩
 case round=>
  obtain⟨k,i,m,rfl,d,rfl⟩:=hrel;have y:=x.A;by_cases v:k<s.size
  ·have u:=zp v;obtain⟨c,g⟩:=aP (dp s k);rw[g] at u;have q:=E g;clear g;have hw:=ZI c wr;have hd:=RG c wr;have l:rH a c=true->∀j,1<=j->j<k+1->rH a (dp s j)=true:=λh=>ZL d.A (by rw[q.A];exact h);have p:rH a c=false->ib (rH a) s 1 k:=λh=>⟨i,m,d.A,λ_=>by rw[q.A];exact h⟩;have FX:=E l;have t:=E p;clear l p;cases Z:zn c with
   |true=>
    rw[Z] at hw;have HE:=E (FX.A (by unfold rH;rw[Z];rfl));clear hd;go_wp2_with fail;refine hw.ah ?_;rintro e w1⟨rfl,rfl⟩;clear hw;go_wp2;go_roundw;case rel=>exact⟨k+1,an,an,by go_num,HE,trivial⟩
    case measure=>exact aA
   |false=>
    rw[Z] at hw;cases bd:l0 c with
    |true=>
     rw[bd] at hd;exact ZM
    |false=>
     rw[bd] at hd;by_cases b:a=true/\c=46
     ·obtain⟨rfl,rfl⟩:=b;exact ZM
     ·have HE:=E (t.A (by
       unfold rH;rw[Z,bd];cases a with
       |false=>rfl
       |true=>simp;exactλh=>b ⟨rfl,h⟩))
      have o:a=true->((c:Int)==46)=false:=λh=>by
       have:c≠46:=λh2=>b ⟨h,h2⟩;simp;omega
      clear b;cases a with
      |false=>
       exact ZN
      |true=>
       have z:=o rfl;clear o;exact ZN
  ·obtain rfl:k=s.size:=by omega
   have HE:=E (show ib (rH a) s 1 s.size from⟨i,m,d.A,λh=>ae h (Nat.lt_irrefl _)⟩);go_wp2;go_ret;exact⟨⟨s.size,rfl,HE.A⟩,rfl⟩
variable {a:bb} {w':aB} {o:bv} {Q:Exit->bb->aB->Prop} {ops:Array bv} {rest:List bv}
def aF.ZW {a:aB} {e:Nat} {l:List UInt8} (h:aF a w) (ho:bQ w base e v l) (Z:a.heap.size<=base) (hg:w.grownBy w' v.ownBlock):aF a w':=aF.of (h.aC.grown hg h.size (λg e=>a8 Z (ho.nI g e)))
def F0 (k:o.guard=M) (s x:Operand) (ho:o.op= .call {callee:=.builtin .append,args:=#[s,x],argTypes:=#[34,34]}) (base:Nat) (v:aE) (l:List UInt8) (hs:a.eval s=v) (W:aB) (c:Nat) (m:c<256) (d:bQ W base 5 v l) (e:a.eval x=O (ad (ab W.heap.size 0 M)) 1 1) (j:l.length+1<=140737488355328) (n:base<=W.heap.size) (h:∀b w',bQ w' base 5 b (l++[fN c])->(∀a0,aF a0 W->a0.heap.size<=base->aF a0 w')->wpList aH ops Q rest (a.put o.dst b) w'):wpList aH ops Q (o::rest) a (W.alloc (aD #[J .u8 (c:Int)] 5)):=by
 have i:=Bs.AH W 5 (J .u8 (c:Int)) (fN c) (by
  congr 1;simp;omega)
 refine yD k s x 34 ho base 5 underlying34 pm v l hs (d.alloc _) _ _ 1 1 _ e i j aw λb w' h2 g h4=>?_;exact h b w' h2 (λa0 f Z=>(f.alloc _).ZW (d.alloc _) Z g)
theorem RL (h:P:=by
 go_roundw;case rel=>exact⟨k+2,_,an,.inl an,by go_num,aw,aw,fA _ HB.A (aO _),bC⟩
 case measure=>exact aA
 ):P:=h
def ajo (s:ByteArray) (w:aB) (hs:s.size<=1000000):aN aH 131 #[ap s] w λe w'=>(∃(p:ByteArray) (n:Nat) (k:Int),e=aQ (bn #[ap p,J I n,J I k])/\p.size<=s.size/\n<=s.size/\(k=0->1<=n))/\aF w w':=by
 have H:=E hs;go_enter func131,ntmps131;go_wp2;go_loopw [5,6] (λb i wr=>∃(k:Nat) (aT:List UInt8),1<=k/\(k<=s.size\/k=1)/\i=J I k/\aT.length<=k/\(k<=s.size->aT.length+1<=k)/\aF w wr/\bQ wr w.heap.size 5 b aT) (λ_ i _=>s.size-(intOf i).toNat);case atStart=>exact⟨1,[],an,.inr rfl,rfl,av,av,aF.refl _,bQ.bh _ _ _⟩
 case round=>
  obtain⟨k,aT,L,M,rfl,Y,F,hB,q⟩:=hrel;have S:=H.A;have a:=hB.size;by_cases aK:k<s.size
  ·have A:=zp aK;obtain⟨c,hc⟩:=aP (dp s k);have K:c<256:=aq9;rw[hc] at A;clear hc;have HB:=E hB;have f:=E q;obtain⟨ao,n,cap,rfl,o,N,U⟩:=q.bs;have W:=o.len;have r:=Ps wr cap o;clear hB q o;by_cases j:c=34
   ·subst j;go_wp2;go_ret3;exact⟨⟨_,k+1,0,rfl,by show aT.toArray.size<=_;simp;omega,an,an⟩,HB.A⟩
   have X:((c:Int)==34)=false:=aw;by_cases l:c=10
   ·subst l;clear r;go_wp2;go_ret3;exact⟨⟨⟨#[]⟩,0,12,rfl,arb,an,an⟩,HB.A⟩
   have z:((c:Int)==10)=false:=aw;by_cases v:c=92;case neg=>
    have y:((c:Int)!=92)=true:=aw;clear r j l v;go_wp2_with ((refine F0 au (.tmp 31) (.tmp 33) au w.heap.size _ aT au wr c K f.A au an a ?_;intro g w' bC fA));go_roundw;case rel=>exact⟨k+1,_,an,.inl an,by go_num,aw,aw,fA _ HB.A (aO _),bC⟩
    case measure=>exact aA
   subst v;clear r j l;by_cases G:k+1=s.size
   ·go_wp2;go_ret3;exact⟨⟨⟨#[]⟩,0,12,rfl,arb,an,an⟩,HB.A⟩
   have u:k+1<s.size:=an;have x:=zp u;obtain⟨d,m⟩:=aP (dp s (k+1));have D:d<256:=by rw[<-m];unfold dp;rw[dif_pos u];exact UInt8.toNat_lt _
   rw[m] at x;clear m;have T:I.wrap ((k:Int)+1)=((k+1:Nat):Int):=ay;have C:((((k+1:Nat):Int))==(s.size:Int))=false:=aw;have B:((k:Int)+1==(s.size:Int))=false:=aw;clear G;by_cases q1:d=92
   ·subst q1;go_wp2_with ((refine F0 au (.tmp 56) (.tmp 60) au w.heap.size _ aT au wr 92 aq f.A au an a ?_;intro g w' bC fA));exact RL
   have R:((d:Int)==92)=false:=aw;by_cases q2:d=34
   ·subst q2;go_wp2_with ((refine F0 au (.tmp 56) (.tmp 60) au w.heap.size _ aT au wr 34 aq f.A au an a ?_;intro g w' bC fA));exact RL
   have Q:((d:Int)==34)=false:=aw;by_cases t:d=110
   ·subst t;go_wp2_with ((refine F0 au (.tmp 70) (.tmp 71) au w.heap.size _ aT au wr 10 aq f.A au an a ?_;intro g w' bC fA));exact RL
   have O:((d:Int)==110)=false:=aw;clear q1 q2 t;go_wp2;go_ret3;exact⟨⟨⟨#[]⟩,k,1,rfl,arb,an,an⟩,HB.A⟩
  ·have V:k=s.size\/s.size<k:=by omega
   go_wp2;go_ret3;exact⟨⟨⟨#[]⟩,0,12,rfl,arb,an,an⟩,hB⟩
def U7 (p:o.guard=M) (s x:Operand) (ho:o.op= .call {callee:=.builtin .append,args:=#[s,x],argTypes:=#[34,34]}) (base:Nat) (v:aE) (l:List UInt8) (hs:a.eval s=v) (W:aB) (c d:Nat) (r:c<256) (q:d<256) (f:bQ W base 5 v l) (g:a.eval x=O (ad (ab W.heap.size 0 M)) 2 2) (m:l.length+2<=140737488355328) (t:base<=W.heap.size) (h:∀b w',bQ w' base 5 b (l++[fN c,fN d])->(∀a0,aF a0 W->a0.heap.size<=base->aF a0 w')->wpList aH ops Q rest (a.put o.dst b) w'):wpList aH ops Q (o::rest) a (W.alloc (aD #[J .u8 (c:Int),J .u8 (d:Int)] 5)):=by
 have k:Bs (W.alloc (aD #[J .u8 (c:Int),J .u8 (d:Int)] 5)) (W.heap.size+1) (ad (ab W.heap.size 0 M)) 2 [fN c,fN d]:=by
  obtain⟨ao,n,cap,e,Z,_⟩:=(bQ.fresh (base:=W.heap.size) W 5 [fN c,fN d] #[J .u8 (c:Int),J .u8 (d:Int)] (by
   simp only[ca,sd,List.map_nil];congr 2
   ·simp;omega
   ·congr 2;simp;omega) 2 rfl (aO _) (by show(2:Nat)<=bK;decide)).bs
  cases e;rw[eO] at Z;exact Z
 refine yD p s x 34 ho base 5 underlying34 pm v l hs (f.alloc _) _ _ 2 2 _ g k m aw λb w' h2 j h4=>?_;exact h b w' h2 (λa0 i Z=>(i.alloc _).ZW (f.alloc _) Z j)
theorem OY (h:P:=by
 go_roundw;case rel=>exact⟨k+1,_,an,by go_num,aw,fA _ HB.A (aO _),bC⟩
 case measure=>exact aA
 ):P:=h
def aew (s:ByteArray) (w:aB) (hs:s.size<=1000000):aN aH 183 #[ap s] w λe w'=>(∃p:ByteArray,e=aQ (ap p)/\p.size<=2*s.size+2)/\aF w w':=by
 have A:=E hs;have z:=E (bQ.fresh (base:=w.heap.size) w 5 [34] #[J .u8 34] au 1 rfl (aO _) aq);have x:=E ((aF.refl w).alloc (aD #[J .u8 34] 5));go_enter func183,ntmps183;go_wp2;go_loopw [3,4] (λb i wr=>∃(k:Nat) (aT:List UInt8),k<=s.size/\i=J I k/\aT.length<=2*k+1/\aF w wr/\bQ wr w.heap.size 5 b aT) (λ_ i _=>s.size-(intOf i).toNat);case atStart=>exact⟨0,[34],an,rfl,av,x.A,z.A⟩
 case round=>
  obtain⟨k,aT,C,rfl,H,hB,m⟩:=hrel;have D:=A.A;have a:=hB.size;have HB:=E hB;have d:=E m;clear hB m;by_cases aK:k<s.size
  ·have y:=zp aK;obtain⟨c,hc⟩:=aP (dp s k);have B:c<256:=aq9;rw[hc] at y;clear hc;by_cases o:c=92
   ·subst o;go_wp2_with ((refine U7 au (.tmp 24) (.tmp 28) au w.heap.size _ aT au wr 92 92 aq aq d.A au an a ?_;intro f w' bC fA));exact OY
   have r:((c:Int)==92)=false:=aw;by_cases g:c=34
   ·subst g;go_wp2_with ((refine U7 au (.tmp 24) (.tmp 28) au w.heap.size _ aT au wr 92 34 aq aq d.A au an a ?_;intro f w' bC fA));exact OY
   have G:((c:Int)==34)=false:=aw;by_cases j:c=10
   ·subst j;go_wp2_with ((refine U7 au (.tmp 32) (.tmp 33) au w.heap.size _ aT au wr 92 110 aq aq d.A au an a ?_;intro f w' bC fA));exact OY
   have t:((c:Int)==10)=false:=aw;clear o g j;go_wp2_with ((refine F0 au (.tmp 15) (.tmp 19) au w.heap.size _ aT au wr c B d.A au an a ?_;intro f w' bC fA));exact OY
  ·obtain rfl:k=s.size:=by omega
   go_wp2_with ((refine F0 au (.tmp 35) (.tmp 36) au w.heap.size _ aT au wr 34 aq d.A au an a ?_;intro f w' bC fA;have v:=E (fA _ HB.A (aO _));obtain⟨ao,n,cap,rfl,l,q,u⟩:=bC.bs;have F:=Ps w' cap l;clear l fA bC q u));go_ret;exact⟨⟨_,rfl,by show(aT++_).toArray.size<=_;simp;omega⟩,v.A⟩
variable {k:Nat}
def ah6:Obj->Prop
 |aD _ t _=>t≠5
 |_=>True
structure Kp (w w':aB):Prop where
 size:w.heap.size<=w'.heap.size
 block:∀(k:Nat) (obj:Obj),w.heap[k]?=ad obj->ah6 obj->w'.heap[k]?=ad obj
def Kp.refl (w:aB):Kp w w:=⟨aO _,λ_ _ h _=>h⟩
def Kp.trans {a b c:aB} (h:Kp a b) (k:Kp b c):Kp a c:=⟨a8 h.size k.size,λi o d h2=>k.block i o (h.block i o d h2) h2⟩
def Kp.alloc {a b:aB} (h:Kp a b) (o:Obj):Kp a (b.alloc o):=h.trans ⟨av,λk obj c _=>(@heap_alloc_old b o _ (lJ.1 c).1).trans c⟩
def Kp.step {b c:aB} {v:aE} {base:Nat} {l:List UInt8} (h:b.grownBy c v.ownBlock) (ho:bQ b base 5 v l):Kp b c:=⟨h.size,λk obj a hn=>by
 refine(h.block k (lJ.1 a).1 (λe=>?_)).trans a;rcases ho.2 with⟨h1,h2⟩|⟨g,cap,cur,hv,hg,hh,-⟩
 ·rw[h1] at e;simp[qS] at e
 ·rw[hv] at e;simp[qS] at e;subst e;rw[a] at hh;cases hh;exact hn rfl⟩
def Kp.eP {a b:aB} (h:Kp a b) (Z:aI a g t cs) (c:t≠5):aI b g t cs:=h.block g _ Z c
def Kp.al {a b:aB} (h:aS a.heap.size a b):Kp a b:=⟨h.size,λk obj c _=>(h.block k (lJ.1 c).1).trans c⟩
def Kp.drew (a:aB):Kp a a.drew:=⟨aO _,λ_ _ h _=>h⟩
def ah7 (o:aE) (l:List UInt8) (n:Int) (w:aB) (base:Nat) (D:base<=w.heap.size) (B:l.length<=70368744177664) (hn:0<=n/\n<=1152921504606846976) (c:bQ w base 5 o l):aN aH 155 #[o,J I n] w λe w'=>(∃v,e=aQ v/\bQ w' base 5 v (l++bu n.toNat))/\aS base w w'/\Kp w w':=by
 obtain⟨n,rfl⟩:=Int.eq_ofNat_of_zero_le hn.1;have t:n<=1152921504606846976:=an;clear hn;have y:=E c;clear c;have s:=E (ph 8 n (pj n t));have d1:decide (1152921504606846976<n)=false:=aa an;go_enter func155,ntmps155;go_wp2;go_loopw [0,1] (λvo x wr=>∃(m:Nat) (l':List UInt8),m<=n/\x=J I m/\bQ wr base 5 vo l'/\a6 (l'++bu m=l++bu n)/\aS base w wr/\a6 (Kp w wr)) (λ_ x _=>(intOf x).toNat);case atStart=>exact⟨n,l,aO _,rfl,y.A,E rfl,bk _ _,E (Kp.refl _)⟩
 case round=>
  obtain⟨m,l',G,rfl,c,hE,hB,q⟩:=hrel;have d:=E c;clear c;have F:=hB.size;have p:=E (show l'.length<=l.length+9 by have:=congrArg oz hE.A;have h2:=s.A;have C:=E1 m;simp at this;omega);by_cases z:128<=m
  ·have k:=E (Bs.AH wr 5 (J .u8 ((m:Int) % 128+128)) (fN (m % 128+128)) (yE an _ an));have b:=E (d.A.alloc (aD #[J .u8 ((m:Int) % 128+128)] 5));go_wp2_with ((refine yD au (.tmp 14) (.tmp 19) 34 au base 5 underlying34 pm _ l' au b.A (wr.heap.size+1) (ad (ab wr.heap.size 0 M)) 1 1 [fN (m % 128+128)] au k.A (ai p.A) aw ?_;intro r w' bC a i));have j:aS base w w':=(hB.alloc an _).grown a aw (λg e=>d.A.nI g e);have f:=E ((q.A.alloc _).trans (Kp.step a b.A));have u:=E (show(l'++[fN (m % 128+128)])++bu (m/128)=l++bu n by rw[<-hE.A,CZ (n:=m) an];simp);clear a i;go_roundw;case rel=>exact⟨m/128,l'++[fN (m % 128+128)],an,by rw[Int.natCast_ediv];rfl,bC,u,j,f⟩
   case measure=>exact aA
  ·have k:=E (Bs.AH wr 5 (J .u8 (m:Int)) (fN m) (yE an _ an));have b:=E (d.A.alloc (aD #[J .u8 (m:Int)] 5));go_wp2_with ((refine yD au (.tmp 23) (.tmp 26) 34 au base 5 underlying34 pm _ l' au b.A (wr.heap.size+1) (ad (ab wr.heap.size 0 M)) 1 1 [fN m] au k.A (ai p.A) aw ?_;intro r w' bC a i));have j:aS base w w':=(hB.alloc an _).grown a aw (λg e=>d.A.nI g e);have f:=E ((q.A.alloc _).trans (Kp.step a b.A));clear a i;go_ret;refine⟨⟨_,rfl,?_⟩,j,f.A⟩;exact VE
def YU (c:aE) (l:List UInt8) (s:ByteArray) (w:aB) (base:Nat) (B:base<=w.heap.size) (u:l.length<=70368744177664) (hs:s.size<=65536) (m:bQ w base 5 c l):aN aH 157 #[c,ap s] w λe w'=>(∃v,e=aQ v/\bQ w' base 5 v (tR l s))/\aS base w w'/\Kp w w':=by
 have F:=E m;clear m;have D:=E (show tR l s=l++bu s.size++nL s from ag hs);have d:decide ((65536:Int)<(s.size:Int))=false:=aa an;have k:=E (ph 8 s.size (pj _ an));obtain⟨t,hi,y,A,z⟩:=info_parts pm;go_enter func157,ntmps157;go_wp2_with fail;refine(ah7 c l (s.size:Int) w base B u ⟨an,an⟩ F.A).ah ?_;rintro e b⟨⟨i,rfl,o⟩,n,j⟩;have f:a6 (b.ownsRow base 5 1 i (l++bu s.size).length ((l++bu s.size).map ca)):=E o;have q:=E j;have H:=n.size;clear o j;go_wp2_with ((refine Lib.wpList_append_own_string b au (.tmp 12) (.tmp 13) 34 9 au base 5 t underlying34 underlying9 hi y A z _ _ _ au f.A s au (by rw[b2];have:=k.A;unfold bK;omega) (by rw[b2];have:=k.A;omega) an ?_;intro v2 G p a r));have C:=n.grown a an (λg e=>(CX f.A g e).1);have x:=E (q.A.trans (Kp.step a (show bQ b base 5 i (l++bu s.size) from f.A)));clear a r;go_ret;refine⟨⟨_,rfl,?_⟩,C,x.A⟩;rw[D.A];unfold bQ;rw[b2,yO,lK];exact p
section
variable {P:cp} {QQ:Exit->bb->aB->Prop}
def YV (ops:Array bv) (is:List Nat) (i0 i1:Nat) (ks:List Nat):Bool:=Region.noSelect ops&&I9 .any ops is (tN ops.size false)&&(iW .any ops (DT is (tN ops.size false))==[i0])&&(iW .any ops ((DT is (tN ops.size false)).setIfInBounds i0 true)==[i1])&&I9 .any ops ks (((DT is (tN ops.size false)).setIfInBounds i0 true).setIfInBounds i1 true)&&(iW .any ops (DT ks (((DT is (tN ops.size false)).setIfInBounds i0 true).setIfInBounds i1 true))==[])&&(ks.length+1+1+is.length==ops.size)
def YW {G:Nat} {l:List bv} (C:aB->Prop) (J:C w.drew) (is:List Nat) (r q:Nat) (ks:List Nat) (p n:bv) (R:l.toArray[r]?=ad p) (V:l.toArray[q]?=ad n) (I:P.follows .mixedOrders=true) (hB:YV l.toArray is r q ks=true) (u:∀c a d v w,QQ (.panic c) (Act.put a d v) w->QQ (.panic c) a w) (h:TK P l.toArray C (λo=>∀K:bb->aB->Prop,(∀g f,C f->(∀m:bb->aB->Prop,(∀k b,C b->TK P l.toArray (λw'=>w'=b) (λO=>QQ .normal O b) ks k->m k b)->if dz n (dR l.toArray g.tmps)=true then Oper.wp P n g f m QQ else m (g.put n.dst cu) f)->K g f)->if dz p (dR l.toArray o.tmps)=true then Oper.wp P p o w.drew K QQ else K (o.put p.dst cu) w.drew) is a):(Code.region G l.toArray true).wp P QQ a w:=by
 simp only[YV,b9,beq_iff_eq] at hB;obtain⟨⟨⟨⟨⟨⟨hs,z⟩,h2⟩,D⟩,y⟩,h4⟩,M⟩:=hB;refine wp_region_held (S:=C) I ?_;generalize tN l.toArray.size false=L at z h2 D y h4⊢;rw[<-M];refine Mx (Q:=_) hs u J is _ a z h.A ?_;intro o F;refine wpAnyH_all h2 av λi hi=>?_;obtain rfl:i=r:=am hi;refine wpOp_step R (λT E=>?_);refine F T λg f N t=>E g f ⟨N,?_⟩;refine wpAnyH_all D av λj hj=>?_;obtain rfl:j=q:=am hj;refine wpOp_step V (λm s=>?_);refine t m λk b B H=>s k b ⟨B,?_⟩;refine YT (S':=λw'=>w'=b) (λw' e=>by rw[e];exact B) _ _ _ _ ?_;have:=Mx (P:=P) (md:=.any) (QQ:=QQ) (fuel:=0) hs u (C:=λw'=>w'=b) (w:=b) rfl ks _ k y H.A (λW U=>⟨h4,U⟩);simpa using this
end
def ah9 (ao:Option aX) (n:Nat) (l:List UInt8) (k:Nat) (w:aB) (hn:n<=70368744177664) (d:k<128) (f:ao=M/\n=0\/0<n) (Z:Bs w w.heap.size ao n l):aN aH 155 #[O ao n n,J I (k:Int)] w λe w'=>(∃v,e=aQ v/\bQ w' w.heap.size 5 v (l++bu k))/\aS w.heap.size w w':=by
 have i:=Z.len;rcases f with⟨rfl,rfl⟩|kw
 ·obtain rfl:=sb i;simpa using O8 (O M 0 0) [] (k:Int) w w.heap.size (aO _) av ⟨an,an⟩ (bQ.bh _ _ _)
 ·obtain⟨b,off,rfl,u,-⟩:=Z.at_ (k:=0) an;have r:=E Z;clear Z;have d1:decide (128<=k)=false:=aa an;have t:decide (1152921504606846976<k)=false:=aa an;have q:=E (Bs.AH w 5 (J .u8 (k:Int)) (fN k) (yE an _ an));have j:=E (r.A.Q4 (aO _) (aD #[J .u8 (k:Int)] 5));go_enter func155,ntmps155;go_wp2;go_loopw [0,1] (λvo x wr=>vo=O (ad (ab b off M)) n n/\x=J I (k:Int)/\wr=w) (λ_ _ _=>0);case atStart=>exact⟨rfl,rfl,rfl⟩
  case round=>
   obtain⟨rfl,rfl,rfl⟩:=hrel;generalize c:(O (ad (ab b off M)) n n)=vv;have a:=E c;clear c;go_wp2_with ((refine Pc au (.tmp 23) (.tmp 26) 34 au 5 underlying34 pm b off n l a.A.symm _ j.A _ _ 1 1 [fN k] au q.A an an ?_;intro s w' p o));have m:aS wr.heap.size wr w':=((bk wr.heap.size wr).alloc (aO _) _).grown o av (λg e=>by cases e);go_ret;exact⟨⟨_,rfl,by rw[yC (n:=k) d];exact bQ.less p av⟩,m⟩
structure MA (w:aB) where
 aL:aB
 MB:Kp w aL
instance (w:aB):Inhabited (MA w):=⟨⟨w,Kp.refl _⟩⟩
def nr (L:aZ):List UInt8:=L.flatMap λq=>bu q.1.size++nL q.1++(bu q.2.size++nL q.2)
def kx (L:aZ):List UInt8:=bu L.length++nr L
noncomputable def oR (L:aZ):aZ:=if bH L=true then L else[]
def YX (a:k<L.length):L.take (k+1)=L.take k++[(nm L k,vl L k)]:=by
 rw[List.take_add_one,cR a,DQ a];rfl
def aib (L:aZ) (a b:ByteArray) (c:a.size<=65536) (Z:b.size<=65536) (l:List UInt8):tR (tR (l++nr L) a) b=l++nr (L++[(a,b)]):=by
 unfold tR nr;rw[ag Z,ag c,List.flatMap_append];simp
def Rc (L:aZ) (h:∀i,i<L.length->(nm L i).size<=64/\(vl L i).size<=64):∀k,k<=L.length->(nr (L.take k)).length<=200*k
 |0,_=>by simp[nr]
 |k+1,hk=>by
  have a:=Rc L h k an
  rw[YX an]
  have e:nr (L.take k++[(nm L k,vl L k)])=nr (L.take k)++(bu (nm L k).size++nL (nm L k)++(bu (vl L k).size++nL (vl L k))):=by unfold nr;rw[List.flatMap_append];simp
  rw[e]
  obtain⟨b,h2⟩:=h k an
  have d:=ph 8 (nm L k).size (pj _ an)
  have c:=ph 8 (vl L k).size (pj _ an)
  simp only[b2,yO]
  omega
def Re (ao:Option aX) (n cap:Nat) (l:List UInt8) (A2:Option aX) (m c2:Nat) (L:aZ) (w:aB) (hn:n<=1099511627776) (fP:n<=cap) (hA:ao=M/\n=0/\cap=0\/0<n) (hm:m<=9223372036854775807) (Z:Bs w w.heap.size ao n l) (Y:fm w w.heap.size A2 m L):aN aH 116 #[O ao n cap,O A2 m c2] w λe w'=>(∃v,e=aQ v/\bQ w' w.heap.size 5 v (l++kx (oR L)))/\aS w.heap.size w w':=by
 have R:=E Z;clear Z;have z:=E Y;clear Y;have nJ:=R.A.len;have HM:=E z.A.len;have YY:∀W,aN aH 156 #[O ao n cap] W λe w'=>e=aQ (O ao n n)/\w'=W:=by
  intro W;rcases hA with⟨rfl,rfl,rfl⟩|h0
  ·go_enter func156,ntmps156;go_wp2;go_ret;exact⟨rfl,rfl⟩
  ·obtain⟨b,off,rfl,-,-⟩:=R.A.at_ h0;go_enter func156,ntmps156;go_wp2;go_ret;exact⟨rfl,rfl⟩
 have eM:=E YY;clear YY;have D:=hA;go_enter func116,ntmps116;go_wp2_with fail;refine(Ih A2 m c2 L _ hm z.A).ah ?_;rintro e w1⟨rfl,r⟩;go_upto_if 9 with(fail);go_cut [1] from 7 (λs wr=>(∃u a c3,s=O u a c3/\a6 (fm wr wr.heap.size u a (oR L)))/\wr=w1);case first=>
  cases hs:bH L
  ·have Q:=E (show oR L=[] by unfold oR;rw[hs];rfl);go_wp2;go_meet;case rel=>exact⟨⟨M,0,0,rfl,E (by rw[Q.A];exact fm.bh _ _ _)⟩,rfl⟩
  ·have Q:=E (show oR L=L by unfold oR;rw[hs];rfl);go_wp2;go_meet;case rel=>exact⟨⟨A2,m,c2,rfl,E (by rw[Q.A];exact z.A.aL r)⟩,rfl⟩
 case rest=>
  obtain⟨⟨u,a,c3,rfl,d⟩,rfl⟩:=hcut;have j:=E (show∀i,i<(oR L).length->(nm (oR L) i).size<=64/\(vl (oR L) i).size<=64 fromλi hi=>by
   unfold oR at hi⊢;cases hs:bH L
   ·rw[hs] at hi;simp at hi
   ·rw[hs] at hi;simp only[if_true] at hi⊢;obtain⟨o,h2,-⟩:=(yR.1 hs).2 i hi;exact⟨o.2.1,h2⟩)
  have cg:a<=16:=by
   rw[<-d.A.len];unfold oR;cases hs:bH L
   ·simp
   ·simp only[if_true];exact(yR.1 hs).1
  obtain⟨aU,t⟩:∃aU,a6 (oR L=aU):=⟨_,E rfl⟩;have d:=E (show fm wc wc.heap.size u a aU by rw[<-t.A];exact d.A);have j:=E (show∀i,i<a->(nm aU i).size<=64/\(vl aU i).size<=64 by rw[<-t.A];intro i hi;exact j.A i (by have:=d.A.len;rw[<-t.A] at this;omega));have g:=E d.A.len;go_wp2_with fail;refine(eM.A _).ah ?_;rintro e c⟨rfl,rfl⟩;go_wp2_with fail;refine(ah9 ao n l a _ an an (by rcases D with⟨o,h2,-⟩|h;exact .inl ⟨o,h2⟩;exact .inr h) (R.A.aL r)).ah ?_;rintro e w3⟨⟨v0,rfl,YZ⟩,bd⟩;have U:=r.size;have C:=E YZ;clear YZ;have kq:aS c.heap.size c w3:=bd;have PF:=E (ph 8 a (pj _ an));have b5:=E (Rc aU (λi hi=>j.A i (by rw[<-g.A];exact hi)));go_wp2;go_loopw [0,17] (λvo x wr=>∃k:Nat,k<=a/\x=J I (k:Int)/\a6 (bQ wr c.heap.size 5 vo (l++bu a++nr (aU.take k)))/\aS c.heap.size c wr) (λ_ x _=>a-(intOf x).toNat);case atStart=>exact⟨0,an,rfl,E (by have:=C.A;simpa[nr] using this),kq⟩
  case round=>
   obtain⟨k,hk,rfl,X,hB⟩:=hrel;have K:=hB.size;by_cases aK:k<a
   ·obtain⟨b,off,rfl,cw,hc⟩:=d.A.q an;obtain⟨s0,pu⟩:∃s,a6 (nm aU k=s):=⟨_,E rfl⟩;obtain⟨s1,qc⟩:∃s,a6 (vl aU k=s):=⟨_,E rfl⟩;have ft:wr.cell? ⟨b,off+k*2,M⟩=ad (ap s0):=aqu;have dS:wr.cell? ⟨b,off+k*2+1,M⟩=ad (ap s1):=aqt;clear hc;have ef:s0.size<=64:=by rw[<-pu.A];exact(j.A k aK).1
    have cG:s1.size<=64:=by rw[<-qc.A];exact(j.A k aK).2
    have cj:=E (show aU.take (k+1)=aU.take k++[(s0,s1)] by rw[YX (by rw[g.A];exact aK),pu.A,qc.A]);have gn:=E (aI.new wr 78 #[ap s0,ap s1]);have r0:∀p:MA (wr.alloc (aD #[ap s0,ap s1] 78)),p.aL.cell? (ab wr.heap.size 0 M)=ad (ap s0):=λp=>(p.MB.eP gn.A aq).cell 0;have r1:∀p:MA (wr.alloc (aD #[ap s0,ap s1] 78)),p.aL.cell? (ab wr.heap.size 1 M)=ad (ap s1):=λp=>(p.MB.eP gn.A aq).cell 1;have B:=E (X.A.alloc (aD #[ap s0,ap s1] 78)).drew;have S:=E (show(l++bu a++nr (aU.take k)).length<=1099511627776+9+200*16 by
     have o:=b5.A k (by rw[g.A];exact hk);have h2:=PF.A;simp only[b2];omega)
    have YO:=E (show(tR (l++bu a++nr (aU.take k)) s0).length<=70368744177664 by
     have o:=S.A;have h2:=ph 8 s0.size (pj _ an);unfold tR;rw[ag an];rw[b2,b2,yO];omega)
    have DV:=E (aib (aU.take k) s0 s1 an an (l++bu a));have Pn:=hB.alloc K (aD #[ap s0,ap s1] 78);go_wp2_with fail;refine YW (λw'=>∃p:MA (wr.alloc (aD #[ap s0,ap s1] 78)),w'=p.aL) ⟨⟨_,Kp.drew _⟩,rfl⟩ [0,1,2,4,5] 3 6 [7] _ _ au au ar ar (λ_ _ oI _ _ h=>by cases oI<;>exact h) ?_;repeat (
     refine TK.step au (λKK q=>?_);go_simp;refine q _ ?_;clear q KK)
    refine TK.bh ?_;intro N f;go_simp;go_at_call 157;refine(YU _ _ s0 _ c.heap.size aw (ai S.A) an B.A).ah ?_;rintro e w5⟨⟨v5,rfl,V⟩,F,y⟩;refine f _ _ ⟨⟨w5,(Kp.drew _).trans y⟩,rfl⟩ ?_;clear f N;have H:=E V;clear V;have mA:=F.size;intro N f;go_simp;go_at_call 157;refine(YU _ _ s1 _ c.heap.size (by simp at mA;omega) YO.A an H.A).ah ?_;rintro e T⟨⟨yZ,rfl,Ja⟩,e4,IH⟩;refine f _ _ ⟨⟨T,((Kp.drew _).trans y).trans IH⟩,rfl⟩ ?_;clear f N;have G:=E Ja;clear Ja;repeat (
     refine TK.step au (λKK q=>?_);go_simp;refine q _ ?_;clear q KK)
    refine TK.bh ?_;have zl:aS c.heap.size c T:=(Pn.drew.trans F).trans e4;clear F e4 y IH;go_wp2;go_roundw;case rel=>exact⟨k+1,an,by go_num,E (by rw[cj.A,<-DV.A];exact G.A),zl⟩
    case measure=>exact aA
   ·obtain rfl:k=a:=by omega
    have HF:=E (show l++bu k++nr (aU.take k)=l++kx aU by rw[List.take_of_length_le (by rw[g.A];omega)];unfold kx;rw[g.A];simp);go_wp2;go_ret;exact⟨⟨_,rfl,by rw[t.A,<-HF.A];exact bQ.less X.A U⟩,r.trans (hB.mono U)⟩
def Rl (s:ByteArray) (t:List UInt8) (hs:s.size<=65536):kk (bu s.size++nL s++t)= .ok (nL s,t):=by
 unfold kk;rw[mV,C0 _ _ an];simp only;rw[af an,af (by rw[b2,yO];omega)];rw[<-yO s,List.take_left,List.drop_left]
def Zc:∀(aU:aZ) (t:List UInt8) (ps:aZ),(∀q∈aU,q.1.size<=65536/\q.2.size<=65536)->xm aU.length (nr aU++t) ps= .ok (ps++aU,t)
 |[],t,ps,_=>by simp[xm,nr]
 |q::aU,t,ps,h=>by
  obtain⟨a,b⟩:=q
  obtain⟨d,h2⟩:=h (a,b) av
  have e:nr ((a,b)::aU)++t=bu a.size++nL a++(bu b.size++nL b++(nr aU++t)):=by unfold nr;simp
  rw[e,pY,xm,Rl a _ d]
  simp only
  rw[Rl b _ h2]
  simp only
  rw[VX,VX,Zc aU t _ (λq c=>h q (by simp[c]))]
  simp
def ait (h:Df L):∀q∈L,q.1.size<=64/\q.2.size<=64:=by
 intro q a;obtain⟨i,hi,rfl⟩:=List.getElem_of_mem a;have:=h.2 i hi;have e:=DQ hi;rw[<-e];exact⟨this.1.2.1,this.2.1⟩
def aiu (L:aZ) (t:List UInt8) (h:bH L=true):uk (kx L++t)= .ok (L,t):=by
 have hs:=yR.1 h;unfold uk kx;rw[mV,C0 _ _ (ai hs.1)];simp only;rw[af (ai hs.1),Zc L t [] (λq a=>by have:=ait hs q a;omega)];simp only[List.nil_append];rw[ag h]
def lz (y:Nt) (ok:Bool) (aL:Int):List Nt:=if ok then[] else if 7<=y.k then[] else[{y with k:=y.k+1,x:=ga (aL+kX y.k.toNat)}]
def uq (y:Nt) (ok:Bool) (lost:Int):Int:=if ok then lost else if 7<=y.k then min (lost+1) 9007199254740992 else lost
def jh.aiO (w:aB) (e base:Nat) (y:Nt) (Z:base<=w.heap.size):jh (w.alloc (aD #[O y.ao y.n y.c,aG y.f,J I y.t,J I y.k,J I y.x] e)) base e (O (ad (ab w.heap.size 0 M)) 1 1) [y]:=⟨rfl,.inr ⟨w.heap.size,1,#[O y.ao y.n y.c,aG y.f,J I y.t,J I y.k,J I y.x],rfl,Z,qR w _,aO _,aqF,rfl,rfl⟩⟩
def Zz (h:aS w.heap.size w w') (r:Option Nat):w.grownBy w' r:=⟨h.os,h.tape,h.output,h.size,λk a _=>h.block k a⟩
theorem ZA (h:P:=by
 go_enter func114,ntmps114;go_wp2;go_ret;refine⟨⟨_,rfl,by rw[HE.A.1];exact jh.bh _ _ _⟩,?_,by rw[HE.A.2];exact(H2.A.put 0 _).alloc _⟩;exact⟨rfl,rfl,rfl,aqY,λk hk eV=>by
  rw[Below.heap_alloc _ _ _ (by simpa[eB] using hk),yv _ _ _ _ (by intro e;exact eV (by rw[e]))]⟩
 ):P:=h
def aiP (y:Nt) (nv b1 m:Nat) (ok:Bool) (a aL:Int) (w:aB) (r:aI w nv 4 #[aG ok]) (h2:aI w b1 3 #[J I a]) (p:aI w m 3 #[J I aL]) (L:0<=a/\a<=9007199254740992) (z:0<=aL/\aL<=9007199254740992) (hk:0<=y.k/\y.k<8) (R:m≠b1):aN aH 114 #[y.val,bl (ad (ab nv 0 M)),bl (ad (ab b1 0 M)),bl (ad (ab m 0 M))] w λe w'=>(∃v,e=aQ v/\jh w' w.heap.size 117 v (lz y ok aL))/\w.grownBy w' (ad b1)/\aI w' b1 3 #[J I (uq y ok a)]:=by
 have H2:=E h2;have l1:=r.lt;have l2:=h2.lt;have Da:=p.lt;obtain⟨i,d,g,l,f,c,b,j⟩:=y;simp only at hk;unfold Nt.val;simp only;have g1:=r.alloc (aD #[O i d g,aG f,J I c,J I b,J I j] 117);have g2:=h2.alloc (aD #[O i d g,aG f,J I c,J I b,J I j] 117);have g3:=p.alloc (aD #[O i d g,aG f,J I c,J I b,J I j] 117);have g4:=aI.new w 117 #[O i d g,aG f,J I c,J I b,J I j];have hB:aS w.heap.size w (w.alloc (aD #[O i d g,aG f,J I c,J I b,J I j] 117)):=(bk _ _).alloc (aO _) _;have x0:(w.alloc (aD #[O i d g,aG f,J I c,J I b,J I j] 117)).cell? (ab nv 0 M)=ad (aG ok):=g1.cell 0;have K:(w.alloc (aD #[O i d g,aG f,J I c,J I b,J I j] 117)).cell? (ab b1 0 M)=ad (J I a):=g2.cell 0;have x2:(w.alloc (aD #[O i d g,aG f,J I c,J I b,J I j] 117)).cell? (ab m 0 M)=ad (J I aL):=g3.cell 0;have x3:(w.alloc (aD #[O i d g,aG f,J I c,J I b,J I j] 117)).cell? (ab w.heap.size 3 M)=ad (J I b):=g4.cell 3;have F:(w.alloc (aD #[O i d g,aG f,J I c,J I b,J I j] 117)).frozen? (ab b1 0 M)=false:=g2.frozen 0;have D:(w.alloc (aD #[O i d g,aG f,J I c,J I b,J I j] 117)).frozen? (ab w.heap.size 3 M)=false:=g4.frozen 3;have C:(w.alloc (aD #[O i d g,aG f,J I c,J I b,J I j] 117)).frozen? (ab w.heap.size 4 M)=false:=g4.frozen 4;have s:=E g2;have x:=E g4;have u:w.cell? (ab m 0 M)=ad (J I aL):=p.cell 0;clear r h2 p g1 g2 g3 g4;cases ok;case true=>
  have HE:=E (show lz ⟨i,d,g,l,f,c,b,j⟩ true aL=[]/\uq ⟨i,d,g,l,f,c,b,j⟩ true a=a by simp[lz,uq]);go_enter func114,ntmps114;go_wp2;go_ret;exact⟨⟨_,rfl,by rw[HE.A.1];exact jh.bh _ _ _⟩,Zz hB _,by rw[HE.A.2];exact s.A⟩
 case false=>
 by_cases o:7<=b
 ·by_cases N:9007199254740992<a+1
  ·have HE:=E (show lz ⟨i,d,g,l,f,c,b,j⟩ false aL=[]/\uq ⟨i,d,g,l,f,c,b,j⟩ false a=9007199254740992 by simp[lz,uq,o];omega);exact ZA
  ·have HE:=E (show lz ⟨i,d,g,l,f,c,b,j⟩ false aL=[]/\uq ⟨i,d,g,l,f,c,b,j⟩ false a=a+1 by simp[lz,uq,o];omega);exact ZA
 ·have HE:=E (show lz ⟨i,d,g,l,f,c,b,j⟩ false aL=[⟨i,d,g,l,f,c,b+1,ga (aL+kX b.toNat)⟩]/\uq ⟨i,d,g,l,f,c,b,j⟩ false a=a by simp[lz,uq,o]);have Q:decide (7<=b)=false:=aa o;obtain⟨n,q⟩:=aP (kX b.toNat);have B:=aiF b.toNat;rw[q] at B;have t:=E q;have G:I.wrap (aL+(n:Int))=aL+(n:Int):=ay;clear q;go_enter func114,ntmps114;go_wp2_with fail;go_region_held3 (λw'=>w'.cell? (ab m 0 M)=ad (J I aL)/\w'.cell? (ab w.heap.size 3 M)=ad (J I b)) (first|go_keep|(refine⟨?_,?_⟩<;>first|assumption|(go_simp;done)|(exact(World.cell?_alloc_lt w _ (ab m 0 M) Da).trans u))) (first|(go_at_call 115;refine(aiH b _ an).ah ?_;rintro e w'⟨rfl,rfl⟩;rw[t.A])|(go_at_call 113;refine(MI (aL+(n:Int)) _).ah ?_;rintro e w'⟨rfl,rfl⟩));have A:I.wrap (b+1)=b+1:=ay;go_wp2;go_ret;refine⟨⟨_,rfl,?_⟩,?_,?_⟩
  ·rw[HE.A.1,t.A];have H:=jh.aiO (w.alloc (aD #[O i d g,aG f,J I c,J I (b+1),J I (ga (aL+(n:Int)))] 117)) 117 w.heap.size ⟨i,d,g,l,f,c,b+1,ga (aL+(n:Int))⟩ av;simp only[eO] at H;exact H
  ·exact Zz ((((bk _ _).alloc (aO _) _).alloc av _).drew) _
  ·rw[HE.A.2];exact(H2.A.alloc _).alloc _
variable {ao:Option aX} {cap:Nat} {K:bb->aB->Prop} {C6:Prop}
def ia.drop1 {ns:List Nt} (h:ia w B ao n ns) (hn:1<=n) (a:n<=cap):ia w B (cutAt ao cap 1 5) (n-1) (ns.drop 1):=by
 obtain⟨x,l,rfl⟩:∃x l,ns=x::l:=by
  cases ns with
  |nil=>have:=h.len;simp at this;omega
  |cons x l=>exact⟨x,l,rfl⟩
 refine⟨by have:=h.len;simp at this⊢;omega,?_,λi hi=>?_⟩
 ·refine(Sl.cut (size:=5) (k:=1) h.sl hn a).congr λi hi=>?_;show(jx (x::l)).getD (1*5+i) _=(jx l).getD i _;have e:jx (x::l)=x.cells++jx l:=rfl;rw[e,dd,dd,List.getElem?_append_right (by simp[Nt.cells])];simp[Nt.cells]
 ·have:=h.rE (i+1) an;exact this
def BF (ns:List Nt) (ok:Bool) (t:Int):List Nt:=if kC ns t then lz (nt ns 0) ok (ga t)++ns.drop 1 else ns
def BG (ns:List Nt) (ok:Bool) (t l:Int):Int:=if kC ns t then uq (nt ns 0) ok l else l
def aiS (t:Int):ga (ga t)=ga t:=by unfold ga;omega
def ZB (ns:List Nt) (t:Int):kC ns (ga t)=kC ns t:=by unfold kC;rw[aiS]
def aiT (ns:List Nt) (t:Int):qt ns (ga t)=qt ns t:=by unfold qt;rw[ZB]
structure Gw (w:aB) (r:Option Nat) where
 aL:aB
 gr:w.grownBy aL r
instance (w:aB) (r:Option Nat):Inhabited (Gw w r):=⟨⟨w,EZ _ _⟩⟩
def Gw.cells {r:Option Nat} (h:aI w g t cs) (a:ad g≠r) (i:Nat):∀p:Gw w r,p.aL.cell? (ab g i M)=cs[i]?:=λp=>(h.grown p.gr a).cell i
section
variable {w:aB}
def aiU (q:o.guard=M) (s x:Operand) (ho:o.op= .call {callee:=.builtin .append,args:=#[s,x],argTypes:=#[29,29]}) (base:Nat) (v:aE) (l:List Nt) (hs:a.eval s=v) (A:jh w base 117 v l) (B:Nat) (ao:Option aX) (m c:Nat) (l2:List Nt) (f:a.eval x=O ao m c) (d:l2.length=m) (k:Sl w B ao (m*5) (λi=>(jx l2).getD i (aG false))) (C:l.length+m<=1000000) (z:base<=w.heap.size) (h:∀b w',jh w' base 117 b (l++l2)->w.grownBy w' v.ownBlock->(b.ownBlock=v.ownBlock\/b.ownBlock=ad w.heap.size)->K (a.put o.dst b) w'):if dz o (dR ops a.tmps)=true then Oper.wp aH o a w K Q else C6:=by
 obtain⟨e,hi,r,y,t⟩:=info_parts aiM;refine aeR w q s x _ ho base _ e _ 5 56 underlying29 hi r y t rfl aq v l.length (jx l) hs A B ao m c _ (jx l2) f k (by rw[Zo,d]) (λj u g=>by
  show u=(jx l2).getD j _;rw[dd,g];rfl) (aiL l2) aqF an z ?_
 intro b w' p h2 n;refine h b w' ?_ h2 n;unfold jh;rw[b2,d,aiE];exact p
end
def ML {l:List Nt} (h:i<l.length):nt l i∈l:=by
 unfold nt;rw[dd,cR h];exact dl h
def MM {l:List Nt} {x:Nt} (h:x∈l):∃i,i<l.length/\nt l i=x:=by
 obtain⟨i,hi,rfl⟩:=qV.1 h;exact⟨i,hi,by unfold nt;rw[dd,cR hi];rfl⟩
def aiV {ns:List Nt} {ok:Bool} {T:Int} (h0:0<ns.length) (h:∀i,i<ns.length->Rn w B (nt ns i)) (i:Nat) (hi:i<(lz (nt ns 0) ok T++ns.drop 1).length):Rn w B (nt (lz (nt ns 0) ok T++ns.drop 1) i):=by
 have a:=ML hi;rcases kf.1 a with a|a
 ·have b:=h 0 h0;generalize nt (lz (nt ns 0) ok T++ns.drop 1) i=x at a;unfold lz at a;split at a
  ·simp at a
  ·split at a
   ·simp at a
   ·simp at a;subst a;exact⟨b.hN,b.cap⟩
 ·obtain⟨j,hj,e⟩:=MM (List.mem_of_mem_drop a);rw[<-e];exact h j hj
def aiW:(aH.info? 117).map (·.size)=ad 5:=ar
def aiX (v:aE) (d l:Int) (ns:List Nt) (t:Int) (ok:Bool) (w:aB) (Z:QV w w.heap.size v ns d l):aN aH 79 #[v,J I t,aG ok] w λe w'=>(∃v',e=aQ v'/\QV w' w'.heap.size v' (BF (kB ns d l) ok t) (ly ns d l d) (BG (kB ns d l) ok t (ly ns d l l)))/\aS w.heap.size w w':=by
 have HB:=E Z;obtain⟨A0,n0,c0,rfl,h1,h2,h3⟩:=Z.A;clear h1 Z;have Y:=Zs ns d l;obtain⟨f,H1⟩:∃x,a6 (kB ns d l=x):=⟨_,E rfl⟩;obtain⟨d1,H2⟩:∃x,a6 (ly ns d l d=x):=⟨_,E rfl⟩;obtain⟨l1,H3⟩:∃x,a6 (ly ns d l l=x):=⟨_,E rfl⟩;rw[H1.A,H2.A,H3.A] at Y;have a9:=Y.1;have jc:=sX.1 Y.2.2.1;have dv:=E Y.2.2.2;have MN:=E (aiJ Y);clear Y;go_enter func79,ntmps79;go_wp2_with fail;refine(Zt w.heap.size _ d l ns _ aw (HB.A.al ?cN)).ah ?_;case cN=>exact((((bk _ _).alloc (aO _) _).alloc av _).alloc aw _).alloc aw _
 rintro e u⟨⟨v1,rfl,R⟩,V⟩;rw[H1.A,H2.A,H3.A] at R;have bg:aS w.heap.size w u:=(((((bk w.heap.size w).alloc (aO _) _).alloc av _).alloc aw _).alloc aw _).trans (V.mono aw);have b0:=((((aI.new w 31 #[O A0 n0 c0,J I d,J I l]).alloc (aD #[J I t] 3)).alloc (aD #[aG ok] 4)).alloc (aD #[O M 0 0,J I 0,J I 0] 31)).al V aw;have cH:=(((aI.new (w.alloc (aD #[O A0 n0 c0,J I d,J I l] 31)) 3 #[J I t]).alloc (aD #[aG ok] 4)).alloc (aD #[O M 0 0,J I 0,J I 0] 31)).al V av;have gz:=((aI.new ((w.alloc (aD #[O A0 n0 c0,J I d,J I l] 31)).alloc (aD #[J I t] 3)) 4 #[aG ok]).alloc (aD #[O M 0 0,J I 0,J I 0] 31)).al V av;have ur:=(aI.new (((w.alloc (aD #[O A0 n0 c0,J I d,J I l] 31)).alloc (aD #[J I t] 3)).alloc (aD #[aG ok] 4)) 31 #[O M 0 0,J I 0,J I 0]).al V av;simp only[eO] at cH gz ur;have vt:w.heap.size+1+1+1<u.heap.size:=ur.lt;obtain⟨A1,n1,c1,rfl,R,FJ,cn⟩:=R.A;have zj:f.length=n1:=R.len;have x0:u.frozen? (ab w.heap.size 0 M)=false:=b0.frozen 0;have x1:u.frozen? (ab w.heap.size 1 M)=false:=b0.frozen 1;have x2:u.frozen? (ab w.heap.size 2 M)=false:=b0.frozen 2;have ef:u.cell? (ab w.heap.size 0 M)=ad (O A0 n0 c0):=b0.cell 0;have cG:u.cell? (ab w.heap.size 1 M)=ad (J I d):=b0.cell 1;have de:u.cell? (ab w.heap.size 2 M)=ad (J I l):=b0.cell 2;have sY:u.cell? ⟨w.heap.size+1,0,M⟩=ad (J I t):=cH.cell 0;have xw:u.frozen? ⟨w.heap.size+1,0,M⟩=false:=cH.frozen 0;have S:=b0.Zu (O A1 n1 c1) (J I d1) (J I l1);have g1:=cH.MJ (k:=w.heap.size) an (O A1 n1 c1) (J I d1) (J I l1);have g2:=gz.MJ (k:=w.heap.size) an (O A1 n1 c1) (J I d1) (J I l1);have g3:=ur.MJ (k:=w.heap.size) an (O A1 n1 c1) (J I d1) (J I l1);have bN:=MK bg (aO _) (O A1 n1 c1) (J I d1) (J I l1);have HQ:=E (((R.setCell (p:=(ab w.heap.size 0 M)) (aO _) (O A1 n1 c1)).setCell (p:=(ab w.heap.size 1 M)) (aO _) (J I d1)).setCell (p:=(ab w.heap.size 2 M)) (aO _) (J I l1));clear V b0 cH gz ur R;go_wp2_with fail;refine(MI t _).ah ?_;rintro e w2⟨rfl,rfl⟩;obtain⟨T,HT⟩:∃T,a6 (ga t=T):=⟨_,E rfl⟩;rw[HT.A];obtain⟨W,hW⟩:=aP (((u.setCell (ab w.heap.size 0 M) (O A1 n1 c1)).setCell (ab w.heap.size 1 M) (J I d1)).setCell (ab w.heap.size 2 M) (J I l1));have Qh:W.heap.size=u.heap.size:=by rw[<-hW];simp
 rw[hW] at S g1 g2 g3 bN HQ⊢;clear hW bg x0 x1 x2 ef cG de sY xw;have y0:W.cell? (ab w.heap.size 0 M)=ad (O A1 n1 c1):=S.cell 0;have y1:W.cell? (ab w.heap.size 1 M)=ad (J I d1):=S.cell 1;have y2:W.cell? (ab w.heap.size 2 M)=ad (J I l1):=S.cell 2;have y3:W.cell? ⟨w.heap.size+1,0,M⟩=ad (J I t):=g1.cell 0;have y4:W.frozen? ⟨w.heap.size+1,0,M⟩=false:=g1.frozen 0;go_wp2_with fail;have D:=S.bT (p:=⟨w.heap.size+1,0,M⟩) av (J I T);have K:aI (W.setCell ⟨w.heap.size+1,0,M⟩ (J I T)) (w.heap.size+1) 3 #[J I T]:=g1.put 0 (J I T);have H:=g2.bT (p:=⟨w.heap.size+1,0,M⟩) av (J I T);have G:=g3.bT (p:=⟨w.heap.size+1,0,M⟩) aw (J I T);have cP:=bN.setCell (p:=⟨w.heap.size+1,0,M⟩) av (J I T);have xx:=E (HQ.A.setCell (p:=⟨w.heap.size+1,0,M⟩) av (J I T));refine(RA _ d1 l1 f T _ ⟨A1,n1,c1,rfl,xx.A.bt aw,FJ,cn⟩).ah ?_;rintro e b⟨rfl,L⟩;have HR:=E (show qt f T=qt f t/\kC f T=kC f t by rw[<-HT.A];exact⟨aiT _ _,ZB _ _⟩);rw[MN.A.1,HR.A.1,HR.A.2];have k0:=D.al L D.lt;have k1:=K.al L K.lt;have k2:=H.al L H.lt;have C:=G.al L G.lt;have BH:=cP.trans (L.mono cP.size);have vK:=E (xx.A.al (L.mono cP.size));have RC:w.heap.size+1+1+1<b.heap.size:=C.lt;clear L D K H G cP xx S g1 g2 g3 bN HQ y0 y1 y2 y3 y4;obtain⟨⟨s,o,r,yL,q,n,j,m⟩,HY⟩:∃y,a6 (qt f t=y):=⟨_,E rfl⟩;rw[HY.A];simp only[Nt.val];have y0:b.cell? (ab w.heap.size 0 M)=ad (O A1 n1 c1):=k0.cell 0;have y1:b.cell? (ab w.heap.size 1 M)=ad (J I d1):=k0.cell 1;have y2:b.cell? (ab w.heap.size 2 M)=ad (J I l1):=k0.cell 2;have z0:b.cell? ⟨w.heap.size+1+1+1,0,M⟩=ad (O M 0 0):=C.cell 0;have z1:b.cell? ⟨w.heap.size+1+1+1,1,M⟩=ad (J I 0):=C.cell 1;have z2:b.cell? ⟨w.heap.size+1+1+1,2,M⟩=ad (J I 0):=C.cell 2;have f0:b.frozen? ⟨w.heap.size+1+1+1,0,M⟩=false:=C.frozen 0;have f1:b.frozen? ⟨w.heap.size+1+1+1,1,M⟩=false:=C.frozen 1;have f2:b.frozen? ⟨w.heap.size+1+1+1,2,M⟩=false:=C.frozen 2;have jr:w.heap.size<b.heap.size:=an;have fo:w.heap.size+1<b.heap.size:=an;have b6:w.heap.size+1+1<b.heap.size:=an;have qw:w.heap.size+1+1+1<b.heap.size:=RC;cases U:kC f t
 ·have HE:=E (show BF f ok t=f/\BG f ok t l1=l1 by unfold BF BG;rw[U];exact⟨rfl,rfl⟩);clear k0 k1 k2 C;go_wp2;refine bF (v:=aY #[O A1 n1 c1,J I d1,J I l1]) (by simp[bz,results79,go_sem,z0,z1,z2,qw]) rfl ?_;refine⟨⟨_,rfl,?_⟩,(MK BH an _ _ _).alloc aw _⟩;rw[H1.A,H2.A,H3.A,HE.A.1,HE.A.2];exact⟨A1,n1,c1,rfl,((((vK.A.setCell aw _).setCell aw _).setCell aw _).alloc aw _).bt aw,FJ,cn⟩
 ·have ru:=E U;have ZC:1<=n1:=by
   rw[<-zj];unfold kC at U;simp at U;omega
  have RD:=E (show nt f 0=⟨s,o,r,yL,q,n,j,m⟩ by rw[<-HY.A];unfold qt;rw[U];rfl);clear U;go_wp2_with fail;obtain⟨X,hX⟩:=aP ((b.alloc (aD #[O s o r,aG q,J I n,J I j,J I m] 117)).alloc (aD #[J I l1] 3));have D:=(k0.alloc (aD #[O s o r,aG q,J I n,J I j,J I m] 117)).alloc (aD #[J I l1] 3);have K:=(k1.alloc (aD #[O s o r,aG q,J I n,J I j,J I m] 117)).alloc (aD #[J I l1] 3);have H:=(k2.alloc (aD #[O s o r,aG q,J I n,J I j,J I m] 117)).alloc (aD #[J I l1] 3);have G:=(C.alloc (aD #[O s o r,aG q,J I n,J I j,J I m] 117)).alloc (aD #[J I l1] 3);have F:=(aI.new b 117 #[O s o r,aG q,J I n,J I j,J I m]).alloc (aD #[J I l1] 3);have m5:=aI.new (b.alloc (aD #[O s o r,aG q,J I n,J I j,J I m] 117)) 3 #[J I l1];have FB:aS w.heap.size b ((b.alloc (aD #[O s o r,aG q,J I n,J I j,J I m] 117)).alloc (aD #[J I l1] 3)):=((bk _ _).alloc an _).alloc aw _;simp only[eO] at m5;rw[hX] at D K H G F m5 FB⊢;have a5:X.heap.size=b.heap.size+1+1:=by rw[<-hX];simp
  clear hX k0 k1 k2 C y0 y1 y2 z0 z1 z2 f0 f1 f2;have q0:∀p:Gw X (ad (b.heap.size+1)),p.aL.cell? (ab w.heap.size 0 M)=ad (O A1 n1 c1):=Gw.cells D aw 0;have v0:∀p:Gw X (ad (b.heap.size+1)),p.aL.cell? (ab b.heap.size 0 M)=ad (O s o r):=Gw.cells F av 0;have v1:∀p:Gw X (ad (b.heap.size+1)),p.aL.cell? (ab b.heap.size 1 M)=ad (aG q):=Gw.cells F av 1;have v2:∀p:Gw X (ad (b.heap.size+1)),p.aL.cell? (ab b.heap.size 2 M)=ad (J I n):=Gw.cells F av 2;have v3:∀p:Gw X (ad (b.heap.size+1)),p.aL.cell? (ab b.heap.size 3 M)=ad (J I j):=Gw.cells F av 3;have v4:∀p:Gw X (ad (b.heap.size+1)),p.aL.cell? (ab b.heap.size 4 M)=ad (J I m):=Gw.cells F av 4;have s1:∀W,(iV 29 (O A1 n1 c1) (ad (J I 1)) M M).run aH W= .ok (O (cutAt A1 c1 1 5) (n1-1) (c1-1)) W:=oC underlying29 5 aiW A1 n1 c1 1 ZC;have a3:=E (show 0<=j/\j<8 from by
   have:=dv.A 0 an;rw[RD.A] at this;exact this.2.2.2)
  refine YW (λw'=>∃p:Gw X (ad (b.heap.size+1)),w'=p.aL) ⟨⟨X.drew,⟨rfl,rfl,rfl,aO _,λ_ _ _=>rfl⟩⟩,rfl⟩ [0,1,3,4,5] 2 6 [7] _ _ au au ar ar (λ_ _ oI _ _ h=>by cases oI<;>exact h) ?_;repeat (
   refine TK.step au (λKK aJ=>?_);go_simp;refine aJ _ ?_;clear aJ KK)
  refine TK.bh ?_;intro KM vG;go_simp;refine(aiP ⟨s,o,r,yL,q,n,j,m⟩ (w.heap.size+1+1) (b.heap.size+1) (w.heap.size+1) ok l1 T X.drew H.drew m5.drew K.drew jc (by rw[<-HT.A];exact MH t) a3.A an).ah ?_;rintro e w4⟨⟨vb,rfl,Q⟩,c,RE⟩;have c:X.grownBy w4 (ad (b.heap.size+1)):=⟨c.os,c.tape,c.output,c.size,c.block⟩;have Q:jh w4 X.heap.size 117 vb (lz ⟨s,o,r,yL,q,n,j,m⟩ ok T):=Q;refine vG _ _ ⟨⟨w4,c⟩,rfl⟩ ?_;clear vG KM v0 v1 v2 v3 v4 q0;have DY:aS w.heap.size b w4:=FB.grown c an (λg e=>by cases e;omega);have BI:=E ((vK.A.al DY).drop1 ZC FJ);have Yf:(lz ⟨s,o,r,yL,q,n,j,m⟩ ok T).length<=1:=by unfold lz;split;simp;split<;>simp
  have ut:=D.grown c aw;have j3:=G.grown c aw;have a2:=c.size;obtain⟨Ji,ZD⟩:∃x,a6 (uq ⟨s,o,r,yL,q,n,j,m⟩ ok l1=x):=⟨_,E rfl⟩;rw[ZD.A] at RE;intro KM vG;refine aiU au (.tmp 30) (.tmp 33) au X.heap.size vb _ au Q w.heap.size (cutAt A1 c1 1 5) (n1-1) (c1-1) (f.drop 1) au BI.A.len BI.A.sl an a2 ?_;intro v5 z ry A aR;have bq:∀k,k<X.heap.size->ad k≠vb.ownBlock:=λk hk e=>by have:=Q.nI _ e.symm;omega
  have h0:=ut.grown A (bq _ an);have N:=j3.grown A (bq _ an);have h5:=RE.grown A (bq _ an);have aK:aS w.heap.size b z:=DY.grown A an (λg e=>by have:=Q.nI g e;omega);have a4:=A.size;have ZE:X.grownBy z (ad (b.heap.size+1)):=⟨A.os.trans c.os,A.tape.trans c.tape,A.output.trans c.output,a8 c.size A.size,λk hk eV=>(A.block k an (bq k hk)).trans (c.block k hk eV)⟩;refine vG _ _ ⟨⟨z,ZE⟩,rfl⟩ ?_;clear vG KM;obtain⟨A5,n5,c5,rfl⟩:=ry.shape;repeat (
   refine TK.step au (λKK aJ=>?_);go_simp;refine aJ _ ?_;clear aJ KK)
  refine TK.bh ?_;have y1:z.cell? (ab w.heap.size 1 M)=ad (J I d1):=h0.cell 1;have y2:z.cell? ⟨b.heap.size+1,0,M⟩=ad (J I Ji):=h5.cell 0;have z0:z.cell? ⟨w.heap.size+1+1+1,0,M⟩=ad (O M 0 0):=N.cell 0;have z1:z.cell? ⟨w.heap.size+1+1+1,1,M⟩=ad (J I 0):=N.cell 1;have z2:z.cell? ⟨w.heap.size+1+1+1,2,M⟩=ad (J I 0):=N.cell 2;have f0:z.frozen? ⟨w.heap.size+1+1+1,0,M⟩=false:=N.frozen 0;have f1:z.frozen? ⟨w.heap.size+1+1+1,1,M⟩=false:=N.frozen 1;have f2:z.frozen? ⟨w.heap.size+1+1+1,2,M⟩=false:=N.frozen 2;have gH:=E ry;clear ut j3 h0 N h5 c A ZE aR Q ry RE D K H G F m5 FB DY;go_wp2;refine bF (v:=aY #[O A5 n5 c5,J I d1,J I Ji]) (by simp[bz,results79,go_sem,z0,z1,z2]) rfl ?_;have RF:=MK (k:=w.heap.size+1+1+1) aK an (O A5 n5 c5) (J I d1) (J I Ji);refine⟨⟨_,rfl,?_⟩,BH.trans RF⟩;have HE:=E (show BF f ok t=lz (nt f 0) ok T++f.drop 1/\BG f ok t l1=Ji by unfold BF BG;rw[ru.A,HT.A,RD.A,ZD.A];exact⟨rfl,rfl⟩);rw[H1.A,H2.A,H3.A,HE.A.1,HE.A.2];have ZF:=((gH.A.setCell (a:=⟨w.heap.size+1+1+1,0,M⟩) aw (O A5 n5 c5)).setCell (a:=⟨w.heap.size+1+1+1,1,M⟩) aw (J I d1)).setCell (a:=⟨w.heap.size+1+1+1,2,M⟩) aw (J I Ji);rw[<-RD.A] at ZF;obtain⟨A6,n6,kS,fT,aM,ZG⟩:=ZF.Jg (B:=w.heap.size) (by have:=RF.size;simp;omega) (aiV an (λi hi=>(vK.A.rE i an).al RF));injection fT with fT rl FU;subst fT rl FU;exact⟨_,_,_,rfl,aM,ZG.1,ZG.2⟩
variable {α β:Type}
section
open Go.ChangeMaps Go.MapKept
def alE:(67:bf)<aH.types.size:=of_decide_eq_true ar
def alF:(250:bf)<aH.types.size:=of_decide_eq_true ar
def alG:WideMaps.KeyLaw aH 67:=deep_law_laid laidOut (m:=2) an alE ar ar
def alH:WideMaps.KeyLaw aH 250:=deep_law_laid laidOut (m:=3) an alF ar ar
def abZ:∃n,aH.types.size=n+3:=⟨aH.types.size-3,by
 have:decide (3<=aH.types.size)=true:=ar;have:=of_decide_eq_true this;omega⟩
def NZ (d:Nat) (a:ByteArray) (b:a.size<=bK):aH.keyLits (d+1) 9 [.string a]=ad [.string a.data.toList]:=by
 unfold Program.keyLits;rw[underlying9];simp[b]
def ab0:aH.cellsOf 67=2:=ar
def ab1:aH.cellsOf 78=2:=ar
def ab2:aH.cellsOf 250=32:=ar
def ab3:aH.cellsOf 9=1:=ar
def alI (d:Nat) (a b:ByteArray) (c:a.size<=bK) (Z:b.size<=bK):∃l,aH.keyLits (d+2) 67 [.string a,.string b]=ad l:=by
 unfold Program.keyLits;rw[underlying67];simp[ab0,ab3,NZ d a c,NZ d b Z]
def alJ (d:Nat) (a b:ByteArray) (c:a.size<=bK) (Z:b.size<=bK):∃l,aH.keyLits (d+2) 78 [.string a,.string b]=ad l:=by
 unfold Program.keyLits;rw[underlying78];simp[ab1,ab3,NZ d a c,NZ d b Z]
def mapM_some (f:α->Option β):∀l:List α,(∀x∈l,∃y,f x=ad y)->∃a,l.mapM f=ad a
 |[],_=>⟨[],rfl⟩
 |x::l,h=>by
  obtain⟨y,c⟩:=h x av
  obtain⟨a,d⟩:=mapM_some f l (λz b=>h z (by simp[b]))
  exact⟨y::a,by rw[List.mapM_cons,c,d];rfl⟩
def alK (d:Nat) (cs:List ByteArray) (b:cs.length=32) (hs:∀s∈cs,s.size<=bK):∃l,aH.keyLits (d+3) 250 (cs.map .string)=ad l:=by
 unfold Program.keyLits;rw[underlying250];simp only;rw[ag (by rw[p6,b,ab2])];obtain⟨f,c⟩:=mapM_some (λi=>aH.keyLits (d+2) 78 (((cs.map ap).drop (i*aH.cellsOf 78)).take (aH.cellsOf 78))) (se 16) (λi hi=>by
  rw[List.mem_range] at hi;rw[ab1];have a:i*2<cs.length:=an;have h2:i*2+1<cs.length:=an;have e:((cs.map ap).drop (i*2)).take 2=[.string cs[i*2],.string cs[i*2+1]]:=by
   rw[pf (by rw[p6];exact a),pf (by rw[p6];exact h2)];simp
  rw[e];exact alJ d _ _ (hs _ (dl a)) (hs _ (dl h2)))
 rw[c];exact⟨_,rfl⟩
def qG:KK aH 67 Key where
 law:=Maps.Keyed.of_law alG
 kv a:=.agg #[.string a.1,.string a.2]
 ok a:=a.1.size<=bK/\a.2.size<=bK
 lit:=λa h=>by
  obtain⟨n,hn⟩:=abZ
  obtain⟨l,hl⟩:=alI (n+2) a.1 a.2 h.1 h.2
  have hk:aH.keyType 67=true:=by kernel_rfl
  have hf:(aY #[.string a.1,.string a.2]).formed aH 67=true:=by simp[Value.formed,underlying67,ab0]
  refine⟨.string (keyBytes l),?_⟩
  unfold keyOf
  rw[underlying67]
  simp only
  rw[ag (by rw[hk,hf];rfl),hn]
  show((aH.keyLits (n+2+2) 67 [.string a.1,.string a.2]).map λls=>Lit.string (keyBytes ls))=_
  rw[hl]
  rfl
 inj:=λa b _ _ h=>by
  injection h with h
  have h1:=congrArg Array.toList h
  simp at h1
  exact Prod.ext h1.1 h1.2
def Aa:KK aH 250 (List ByteArray) where
 law:=Maps.Keyed.of_law alH
 kv a:=.agg (a.map .string).toArray
 ok a:=a.length=32/\∀s∈a,s.size<=bK
 lit:=λa h=>by
  obtain⟨n,hn⟩:=abZ
  obtain⟨l,hl⟩:=alK (n+1) a h.1 h.2
  have hk:aH.keyType 250=true:=by kernel_rfl
  have hf:(aY (a.map ap).toArray).formed aH 250=true:=by simp[Value.formed,underlying250,ab2,h.1]
  refine⟨.string (keyBytes l),?_⟩
  unfold keyOf
  rw[underlying250]
  simp only
  rw[ag (by rw[hk,hf];rfl),hn]
  show((aH.keyLits (n+1+3) 250 (a.map ap).toArray.toList).map λls=>Lit.string (keyBytes ls))=_
  rw[List.toList_toArray,hl]
  rfl
 inj:=λa b _ _ h=>by
  injection h with h
  have h1:=congrArg Array.toList h
  simp only[List.toList_toArray] at h1
  exact(List.map_inj_right (λx y h=>by injection h)).1 h1
end
variable {b:Nat} {W:aB}
section
open Go.ChangeAt Go.ChangeShapes Go.Joins Go.WideShapes
structure Lbs (w:aB) (ao:Option aX) (n:Nat) (ls:List aZ):Prop where
 len:ls.length=n
 A:∃V:Nat->aE,Sl w w.heap.size ao n V/\∀i,i<n->∃A' n' c',V i=O A' n' c'/\fm w w.heap.size A' n' (ls.getD i [])/\n'<=c'/\c'<=9223372036854775807
def Lbs.aL {ls:List aZ} (h:Lbs w ao n ls) (Z:aS w.heap.size w w'):Lbs w' ao n ls:=by
 obtain⟨V,b,h2⟩:=h.A;refine⟨h.len,V,b.aL Z,λi hi=>?_⟩;obtain⟨A',n',c',e,a,r⟩:=h2 i hi;exact⟨A',n',c',e,a.aL Z,r⟩
def O0 (b off i:Nat):((ab b off M):aX).add i=⟨b,off+i,M⟩:=aqj
def aeG {o:Nat} (h:W.cell? (ab b o M)=ad v):b<W.heap.size:=by
 rcases gy b W.heap.size with h'|h'
 ·exact h'
 ·simp[World.cell?,tK h'] at h
section
variable {H:Type} {enc:bf×aE->H} {W:aB} {base:Nat} {v:aE} {d:DataW H} {p:List MemPlace}
def aow {fuel:Nat} {x:DataW H×List MemPlace} (c:qW enc aH W 0 (λ_=>true) true fuel 49 [v]=ad x):ahI W v:=by
 rcases Deep.open_slice_pairs underlying49 underlying78 ar rfl rfl ar ar c with⟨cS,_⟩|⟨x,l,c',m,k,V0,V1,Ga,ap9,aqa,WR,cS,_,hl,hm,rb,_,mi⟩
 ·simp at cS;subst cS;exact⟨M,0,0,[],rfl,fm.bh _ _ _,aO _,an⟩
 ·simp at cS;subst cS;simp at rb;subst rb;have iD:∀i,i<l->nm ((se l).map λi=>(uj (V0 i),uj (V1 i))) i=uj (V0 i)/\vl ((se l).map λi=>(uj (V0 i),uj (V1 i))) i=uj (V1 i):=λi hi=>by
   have:=DQ (L:=(se l).map λi=>(uj (V0 i),uj (V1 i))) (i:=i) (am hi);simp at this;exact this
  refine⟨_,l,m,(se l).map λi=>(uj (V0 i),uj (V1 i)),rfl,⟨av,λhn=>?_,λi hi=>?_⟩,hl,by unfold bK at hm;omega⟩
  ·obtain⟨b,off,a⟩:=x;have h0:=(mi 0 an).1;have d:a=M:=by simpa[Addr.add] using World.cell?_spot h0
   subst d;refine⟨b,off,rfl,?_,λi hi=>?_⟩
   ·rw[O0] at h0;exact aeG h0
   ·obtain⟨c0,c1,t0,t1⟩:=mi i an;obtain⟨z,e0,-⟩:=DataW.trod_string underlying9 t0;obtain⟨q,e1,-⟩:=DataW.trod_string underlying9 t1;simp at e0 e1;rw[O0] at c0 c1;exact ahK
  ·exact ahJ
end
end
section
open im
def hv (h:Hd):Array aE:=#[aG h.on,J I h.dB,aG h.hit,J I h.eW]
def Bn {a b:Bool} (h:a=b):aQ (aG a)=aQ (aG b):=by rw[h]
def I2 (t:Int) (w:aB):aN aH 93 #[J I t] w λe w'=>e=aQ (aG (dT t))/\w=w':=by
 by_cases a:0<=t
 ·by_cases h2:t<=9007199254740992
  ·go_enter func93,ntmps93;go_wp2;go_ret;exact⟨Bn (by simp[dT,a,h2]),rfl⟩
  ·go_enter func93,ntmps93;go_wp2;go_ret;exact⟨Bn (by simp[dT,a];omega),rfl⟩
 ·go_enter func93,ntmps93;go_wp2;go_ret;exact⟨Bn (by simp[dT];omega),rfl⟩
def QK (o:Bool) (s:Int) (i:Bool) (f:Int) (w:aB):aN aH 65 #[aY #[aG o,J I s,aG i,J I f]] w λe w'=>e=aQ (aG (fe ⟨o,s,i,f⟩))/\aS w.heap.size w w':=by
 have b:=E (show fe ⟨o,s,i,f⟩=(dT s&&dT f&&(o||s==0)&&(i||f==0)) from rfl);cases a:dT s
 ·go_enter func65,ntmps65;go_wp2_with fail;refine(I2 _ _).ah ?_;rintro e w'⟨rfl,rfl⟩;go_wp2;go_ret;exact⟨Bn (by rw[b.A,a];rfl),(bk _ _).alloc (aO _) _⟩
 ·cases h2:dT f
  ·go_enter func65,ntmps65;go_wp2_with fail;refine(I2 _ _).ah ?_;rintro e w'⟨rfl,rfl⟩;go_wp2_with fail;refine(I2 _ _).ah ?_;rintro e w'⟨rfl,rfl⟩;go_wp2;go_ret;exact⟨Bn (by rw[b.A,a,h2];rfl),(bk _ _).alloc (aO _) _⟩
  ·cases o<;>cases i;all_goals
    cases d:(s==0)<;>cases c:(f==0)
   all_goals
    go_enter func65,ntmps65;go_wp2_with fail;refine(I2 _ _).ah ?_;rintro e w'⟨rfl,rfl⟩;go_wp2_with fail;refine(I2 _ _).ah ?_;rintro e w'⟨rfl,rfl⟩;go_wp2;go_ret;exact⟨Bn (by rw[b.A,a,h2];simp_all),(bk _ _).alloc (aO _) _⟩
end
variable {w1:aB}
section
open im
def Bo (Z:aS W.heap.size W w1):(∀b o,b<W.heap.size->w1.cell? (ab b o M)=W.cell? (ab b o M))/\(∀b o,b<W.heap.size->w1.frozen? (ab b o M)=W.frozen? (ab b o M)):=⟨λb o h=>Z.cell (p:=(ab b o M)) h,λb o h=>Z.frozen (p:=(ab b o M)) h⟩
theorem Ye (h:P:=by
 exact((((((bk _ _).alloc (aO _) _).alloc av _).trans (Z.mono aw)).setCell av _).setCell av _|>.setCell av _).setCell av _;):P:=h
def QL (o:Bool) (s:Int) (i:Bool) (f:Int) (w:aB):aN aH 228 #[aY #[aG o,J I s,aG i,J I f]] w λe w'=>e=aQ (.agg (hv (lR ⟨o,s,i,f⟩)))/\aS w.heap.size w w':=by
 have g:=E (show lR ⟨o,s,i,f⟩=if fe ⟨o,s,i,f⟩=true then⟨o,s,i,f⟩ else none_ from rfl);cases d:fe ⟨o,s,i,f⟩
 ·have c:=E d;go_enter func228,ntmps228;go_wp2_with fail;refine(QK o s i f _).ah ?_;rintro e a⟨rfl,Z⟩;obtain⟨b,k⟩:=Bo Z;have j:w.heap.size+1<a.heap.size:=by have:=Z.size;simp at this;omega
  go_wp2;refine bF (v:=aY #[aG false,J I 0,aG false,J I 0]) (by simp[bz,results228,go_sem,b]) rfl ⟨by rw[g.A,c.A];rfl,?_⟩;exact Ye
 ·have c:=E d;go_enter func228,ntmps228;go_wp2_with fail;refine(QK o s i f _).ah ?_;rintro e a⟨rfl,Z⟩;obtain⟨b,k⟩:=Bo Z;have j:w.heap.size+1<a.heap.size:=by have:=Z.size;simp at this;omega
  go_wp2;refine bF (v:=aY #[aG o,J I s,aG i,J I f]) (by simp[bz,results228,go_sem,b]) rfl ⟨by rw[g.A,c.A];rfl,?_⟩;exact Ye
def uf (zs:List Int) (k:Nat):Array aE:=((se zs.length).map λj=>J I (if j<k then ey (zs.getD j 0) else 0)).toArray
def Md (zs:List Int) (k:Nat):(uf zs k).size=zs.length:=by simp[uf]
def zh (zs:List Int) (k j:Nat) (hj:j<zs.length):(uf zs k)[j]?=ad (J I (if j<k then ey (zs.getD j 0) else 0)):=by
 simp[uf,hj]
def aho (zs:List Int) (k:Nat) (a:k<zs.length) (v:Int) (hv:v=ey (zs.getD k 0)):(uf zs k).setIfInBounds k (J I v)=uf zs (k+1):=by
 subst hv;apply Array.ext_getElem?;intro j;rw[Array.getElem?_setIfInBounds,Md];by_cases hj:j<zs.length
 ·rw[zh zs k j hj,zh zs (k+1) j hj];by_cases e:k=j
  ·subst e;simp[a]
  ·rw[af e];congr 3;simp;omega
 ·rw[tK (by rw[Md];omega),tK (by rw[Md];omega),af an]
def ahp (zs:List Int):madeCells #[J I 0] zs.length=uf zs 0:=by
 apply Array.ext_getElem?;intro j;by_cases hj:j<zs.length
 ·rw[zh zs 0 j hj];simp[madeCells,hj,Nat.mod_one]
 ·rw[tK (by simp[madeCells];omega),tK (by rw[Md];omega)]
def ahq:(aH.info? 3).map (λi=>(i.zero,i.size,i.bytes))=ad (ad (J I 0),1,8):=ar
def ahr (z:Int):∃c b:Int,(∀(a:Array bf) (t:bf) (W:aB),(Builtin.max_ a t #[J I z,J I 0]).run aH W= .ok (J I c) W)/\(∀(a:Array bf) (t:bf) (W:aB),(Builtin.min_ a t #[J I c,J I 9007199254740992]).run aH W= .ok (J I b) W)/\b=ey z:=by
 refine⟨max z 0,ey z,λa t W=>?_,λa t W=>?_,rfl⟩
 ·simp[Builtin.max_,Builtin.max2];split<;>omega
 ·simp[Builtin.min_,Builtin.min2,ey];split<;>omega
def QM (b:Nat) (zs:List Int) (n:Nat) (hn:zs.length=n) (A:n<=3) (w:aB) (j:aI w b 3 (zs.map (J I)).toArray):aN aH 229 #[O (ad (ab b 0 M)) n n] w λe w'=>∃g,e=aQ (O (ad (ab g 0 M)) n n)/\aI w' g 3 (uf zs n)/\w.heap.size<=g/\aS w.heap.size w w':=by
 have q:=run_make_row' (P:=aH) 27 3 (J I 0) 8 underlying27 ahq rfl I I n an an;go_enter func229,ntmps229;go_wp2_with fail;have p:aI (w.alloc (aD (madeCells #[J I 0] n) 3)) w.heap.size 3 (uf zs 0):=by
  rw[<-ahp,hn];exact aI.new _ _ _
 have f:aS w.heap.size w (w.alloc (aD (madeCells #[J I 0] n) 3)):=(bk _ _).alloc (aO _) _;generalize w.alloc (aD (madeCells #[J I 0] n) 3)=w0 at p f⊢;clear q;have C:=E hn;have s:=j.lt;subst hn;go_loopw [4,5,11] (λ_ _ i wr=>∃k:Nat,k<=zs.length/\i=J I k/\aI wr w.heap.size 3 (uf zs k)/\aS w.heap.size w wr) (λ_ _ i _=>zs.length-(intOf i).toNat);case atStart=>exact⟨0,an,rfl,p,f⟩
 case round=>
  obtain⟨k,B,rfl,a,hB⟩:=hrel;by_cases c:k<zs.length
  ·have u:wr.cell? (ab b k M)=ad (J I (zs.getD k 0)):=by
    rw[(j.al hB s).cell k];simp[c]
   have D:=(a.cell k).trans (zh zs k k c);have r:=a.frozen k;obtain⟨y,d,t,x,m⟩:=ahr (zs.getD k 0);have o:=E m;clear m;generalize l:zs.getD k 0=z at u t o;have v:=E l;clear l;go_wp2;go_roundw;case rel=>
    refine⟨k+1,an,by go_num,?_,hB.setCell (aO _) _⟩;have:=a.put k (J I d);rwa[aho zs k c d (by rw[v.A,o.A])] at this
   case measure=>exact aA
  ·obtain rfl:k=zs.length:=by omega
   go_wp2;go_ret;exact⟨_,rfl,a,aO _,hB⟩
end
variable {cs':Array aE}
section
open im
def Yg {t k:Int} (h:aI w g 3 (uf [t,k] 2)):w.cell? (ab g 0 M)=ad (J I (ey t))/\w.cell? (ab g 1 M)=ad (J I (ey k)):=⟨(h.cell 0).trans (zh [t,k] 2 0 av),(h.cell 1).trans (zh [t,k] 2 1 av)⟩
def bd3 {t k m:Int} (h:aI w g 3 (uf [t,k,m] 3)):w.cell? (ab g 0 M)=ad (J I (ey t))/\w.cell? (ab g 1 M)=ad (J I (ey k))/\w.cell? (ab g 2 M)=ad (J I (ey m)):=⟨(h.cell 0).trans (zh [t,k,m] 3 0 av),(h.cell 1).trans (zh [t,k,m] 3 1 av),(h.cell 2).trans (zh [t,k,m] 3 2 av)⟩
def Me (hn:W.heap.size=n) (a:cs'=cs):aI (W.alloc (aD cs t)) n t cs':=by
 subst hn a;exact aI.new _ _ _
theorem Yh (h:P:=by
 refine Below.trans ?_ (bd.mono aw);exact(((((((bk _ _).alloc (aO _) _).trans (aW.mono av)).setCell av _).setCell av _).setCell av _).setCell av _).alloc aw _;):P:=h
def Yi (o:Bool) (s:Int) (i:Bool) (f:Int) (t k:Int) (w:aB):aN aH 230 #[aY #[aG o,J I s,aG i,J I f],J I t,J I k] w λe w'=>e=aQ (J I (aL ⟨o,s,i,f⟩ t k))/\aS w.heap.size w w':=by
 have j:=E (show aL ⟨o,s,i,f⟩ t k=E9 (lR ⟨o,s,i,f⟩) (ey t) (ey k) from rfl);have n:=Pw (Io ⟨o,s,i,f⟩);go_enter func230,ntmps230;go_wp2_with fail;refine(QL o s i f _).ah ?_;rintro e l⟨rfl,aW⟩;generalize lR ⟨o,s,i,f⟩=h at j n⊢;obtain⟨o',F,m,c⟩:=h;simp only at n;simp only[hv];obtain⟨u,r⟩:=Bo aW;have z:w.heap.size<l.heap.size:=aqz;go_wp2_with fail;refine(QM l.heap.size [t,k] 2 rfl an _ (Me av rfl)).ah ?_;rintro e b⟨g,rfl,a,D,bd⟩;obtain⟨p,q⟩:=Yg a;have v:=Dg t;have x:=Dg k;generalize ey t=T at j p v;generalize ey k=K at j q x;obtain⟨d,-⟩:=Bo bd;have H:b.cell? (ab w.heap.size 0 M)=ad (aG o'):=by rw[d _ _ aw];go_simp
 have q2:b.cell? (ab w.heap.size 2 M)=ad (aG m):=by rw[d _ _ aw];go_simp
 have G:b.cell? (ab w.heap.size 3 M)=ad (J I c):=by rw[d _ _ aw];go_simp
 have hB:aS w.heap.size w b:=by
  exact Yh
 clear a d bd u r aW D;go_wp2_with fail;go_quiet (fail);clear z;cases m<;>cases o';all_goals
  by_cases y:0<K<;>by_cases C:c<T<;>by_cases B:T-c<K<;>by_cases A:c=T
 all_goals
  first
   |(exfalso;omega)
   |(go_wp2;go_ret;refine⟨E5 (by rw[j.A];simp[E9,Wj,y,C,B,A]<;>omega),below_drewN hB _⟩)
end
section
open im
def ahs (o:Bool) (s:Int) (i:Bool) (f:Int) (t k:Int) (w:aB):aN aH 189 #[aY #[aG o,J I s,aG i,J I f],J I t,J I k] w λe w'=>e=aQ (aG (gone ⟨o,s,i,f⟩ t k))/\aS w.heap.size w w':=by
 have p:=E (show gone ⟨o,s,i,f⟩ t k=Fa (lR ⟨o,s,i,f⟩) (ey t) (ey k) from rfl);have j:=E (show aL (lR ⟨o,s,i,f⟩) (ey t) (ey k)=E9 (lR ⟨o,s,i,f⟩) (ey t) (ey k) from by unfold aL;rw[af2,Lv,Lv]);have D:=Pw (Io ⟨o,s,i,f⟩);go_enter func189,ntmps189;go_wp2_with fail;refine(QL o s i f _).ah ?_;rintro e y⟨rfl,aW⟩;generalize lR ⟨o,s,i,f⟩=h at p j D⊢;obtain⟨o',l,b,a⟩:=h;simp only at D;simp only[hv];obtain⟨H,G⟩:=Bo aW;have R:w.heap.size<y.heap.size:=aqz;go_wp2_with fail;refine(QM y.heap.size [t,k] 2 rfl an _ (Me av rfl)).ah ?_;rintro e d⟨g,rfl,c,U,bd⟩;obtain⟨z,C⟩:=Yg c;have L:=Dg t;have O:=Dg k;generalize ey t=T at p j z L;generalize ey k=K at p j C O;obtain⟨n,-⟩:=Bo bd;have B:d.cell? (ab w.heap.size 0 M)=ad (aG o'):=by rw[n _ _ aw];go_simp
 have q1:d.cell? (ab w.heap.size 1 M)=ad (J I l):=by rw[n _ _ aw];go_simp
 have q2:d.cell? (ab w.heap.size 2 M)=ad (aG b):=by rw[n _ _ aw];go_simp
 have A:d.cell? (ab w.heap.size 3 M)=ad (J I a):=by rw[n _ _ aw];go_simp
 have hB:aS w.heap.size w d:=by
  exact Yh
 have u:w.heap.size<d.heap.size:=by have:=bd.size;simp at this;omega
 clear c n bd H G aW U R;go_wp2_with fail;go_quiet (fail);go_wp2_with fail;refine(Yi o' l b a T K _).ah ?_;rintro e q⟨rfl,v⟩;obtain⟨r,-⟩:=Bo v;have u0:q.cell? (ab w.heap.size 0 M)=ad (aG o'):=(r _ _ u).trans B;have u2:q.cell? (ab w.heap.size 2 M)=ad (aG b):=(r _ _ u).trans q2;have u3:q.cell? (ab w.heap.size 3 M)=ad (J I a):=(r _ _ u).trans A;have F:aS w.heap.size w q:=(below_drewN hB _).trans (v.mono hB.size);clear r v hB B q1 q2 A z C u;generalize aL ⟨o',l,b,a⟩ T K=N at j⊢;by_cases m:N=0
 ·subst m;have x:=E (show Fa ⟨o',l,b,a⟩ T K=((0==0:Bool)&&!o'&&(!b||(decide (a<T)&&decide (K<=T-a)))) from by unfold Fa;rw[<-j.A];rfl);cases o'<;>cases b;all_goals
   by_cases Q:a<T<;>by_cases S:K<=T-a
  all_goals
   go_wp2;go_ret;refine⟨Bn (by rw[p.A,x.A];simp[Q,S]<;>omega),F⟩
 ·have d1:(N !=0)=true:=by simp[m]
  have x:=E (show Fa ⟨o',l,b,a⟩ T K=false from by unfold Fa;rw[<-j.A];simp[m]);have V:=E m;clear m;go_wp2;go_ret;refine⟨Bn (by rw[p.A,x.A]),F⟩
end
section
open im
def aht (h:Hd) (t k:Int):aL h (ey t) (ey k)=aL h t k:=by unfold aL;rw[Lv,Lv]
def HX (w W:aB) (cs:Array aE):Prop:=aI W w.heap.size 60 cs/\aI W (w.heap.size+1) 60 #[aG false,J I 0,aG false,J I 0]/\aS w.heap.size w W
def HX.set (h:HX w W cs) (i:Nat) (u:aE):HX w (W.setCell (ab w.heap.size i M) u) (cs.setIfInBounds i u):=⟨h.1.put i u,h.2.1.bT av u,h.2.2.setCell (aO _) u⟩
def DL (S:Hd) (w V:aB):Prop:=∃a0 cZ a2 a3,S=⟨a0,cZ,a2,a3⟩/\HX w V #[aG a0,J I cZ,aG a2,J I a3]
theorem FD (h:P:=by
 obtain⟨a0,cZ,a2,a3,hS,Yj,M2,Yk⟩:=aU;have CN:=E (λq:ba V=>Yi a0 cZ a2 a3 T K q.aL);have z:=ba.cells Yj;have H2:=E M2;have HB:=E Yk;have HS:=E hS;clear Yj M2 Yk hS p f X hT Yl hK;refine du (cU 0 4 (.c 4::[])) [5,6] ?_;refine dY ?_;refine S4.dm ?_;rintro _⟨pt,rfl⟩ KK aJ;go_simp;refine(CN.A pt).ah ?_;rintro e w9⟨rfl,Z⟩;replace H2:=E ((H2.A.al pt.aC H2.A.lt).al Z (da H2.A.lt pt.aC.size));replace HB:=E ((HB.A.trans (pt.aC.mono HB.A.size)).trans (Z.mono (a8 HB.A.size pt.aC.size)));refine aJ _ _ (aF.of Z) ?_;clear aJ KK Z CN z;refine S4.nb λwq hq=>?_;replace H2:=E (H2.A.al hq H2.A.lt);replace HB:=E (HB.A.trans (hq.mono HB.A.size));clear hq;have⟨k,g⟩:=H2.A.cf;refine dP ?_;go_wp2;refine bF (v:=bn #[aY #[aG a0,J I cZ,aG a2,J I a3],J I (aL ⟨a0,cZ,a2,a3⟩ T K)]) (by simp[bz,results188,go_sem,(((H2.A.put 0 (aG a0)).put 1 (J I cZ)).put 2 (aG a2)).put 3 (J I a3)|>.cell]) rfl ⟨?_,?_⟩
 ·have h:=HK.A;rw[<-HS.A,h,HS.A];rfl
 ·exact(((HB.A.setCell av _).setCell av _).setCell av _).setCell av _):P:=h
theorem Ym (h:P:=by
 generalize((((W.setCell (ab w.heap.size 1 M) (J I T)).setCell (ab w.heap.size 0 M) (aG true)).setCell (ab w.heap.size 2 M) (aG true)).setCell (ab w.heap.size 3 M) (J I T))=V at aU⊢;exact FD;):P:=h
def QO (o:Bool) (s:Int) (i:Bool) (f:Int) (c:Bool) (t wt k:Int) (w:aB):aN aH 188 #[aY #[aG o,J I s,aG i,J I f],aG c,J I t,J I wt,J I k] w λe w'=>e=aQ (bn #[.agg (hv (pv ⟨o,s,i,f⟩ c t wt)),J I (aL (pv ⟨o,s,i,f⟩ c t wt) t k)])/\aS w.heap.size w w':=by
 have b:=E (show pv ⟨o,s,i,f⟩ c t wt=wT (lR ⟨o,s,i,f⟩) c (ey t) (ey wt) from rfl);have HK:=E (aht (pv ⟨o,s,i,f⟩ c t wt) t k);generalize pv ⟨o,s,i,f⟩ c t wt=S at b HK⊢;have H:=Pw (Io ⟨o,s,i,f⟩);go_enter func188,ntmps188;go_wp2_with fail;refine(QL o s i f _).ah ?_;rintro e r⟨rfl,aW⟩;generalize lR ⟨o,s,i,f⟩=h at b H⊢;obtain⟨o',a,D,G⟩:=h;simp only at H;simp only[hv];have cG:w.heap.size+1<r.heap.size:=aqz;have Y:aI r w.heap.size 60 #[aG o,J I s,aG i,J I f]:=((aI.new w _ _).alloc _).al aW aw;have R:aI r (w.heap.size+1) 60 #[aG false,J I 0,aG false,J I 0]:=(Me av rfl).al aW av;obtain⟨hc,hf⟩:=Bo aW;go_wp2_with fail;refine(QM r.heap.size [t,wt,k] 3 rfl an _ (Me av rfl)).ah ?_;rintro e m⟨g,rfl,j,I4,n⟩;obtain⟨B,C,L⟩:=bd3 j;have hT:=Dg t;have Yl:=Dg wt;have hK:=Dg k;have O:aI m w.heap.size 60 #[aG o',J I a,aG D,J I G]:=by
  refine aI.al ?_ n aw;refine aI.alloc ?_ _;exact(((Y.put 0 (aG o')).put 1 (J I a)).put 2 (aG D)).put 3 (J I G)
 have N:aI m (w.heap.size+1) 60 #[aG false,J I 0,aG false,J I 0]:=by
  refine aI.al ?_ n aw;refine aI.alloc ?_ _;exact(((R.bT av _).bT av _).bT av _).bT av _
 have hB:aS w.heap.size w m:=by
  refine Below.trans ?_ (n.mono aw);exact((((((((bk _ _).alloc (aO _) _).alloc av _).trans (aW.mono aw)).setCell av _).setCell av _).setCell av _).setCell av _).alloc aw _
 have de:w.heap.size+1<m.heap.size:=by have:=n.size;simp at this;omega
 clear j n hc hf aW I4 Y R cG;generalize ey t=T at b HK B hT;generalize ey wt=U at b C Yl;generalize ey k=K at HK L hK;go_wp2_with fail;go_quiet (fail);have y:=below_drewN hB nq;have x:=O.drewN nq;have A:=N.drewN nq;clear B C L hB O N de;generalize m.drewN nq=W at y x A⊢;have X:HX w W _:=⟨x,A,y⟩;have⟨p,f⟩:=x.cf;clear y x A;cases c
 ·skip;go_wp2_with fail;have aU:DL S w _:=⟨_,_,_,_,b.A.trans au,((X.set 0 (aG false)).set 1 (J I 0))⟩;generalize((W.setCell (ab w.heap.size 0 M) (aG false)).setCell (ab w.heap.size 1 M) (J I 0))=V at aU⊢;exact FD
 ·by_cases l:o'=true/\a<=T
  ·obtain⟨rfl,F⟩:=l;by_cases u:U<=T-a
   ·skip;go_wp2_with fail;have aU:DL S w _:=⟨_,_,_,_,b.A.trans (by simp[wT,F,u]),(((X.set 0 (aG true)).set 2 (aG true)).set 3 (J I T))⟩;generalize(((W.setCell (ab w.heap.size 0 M) (aG true)).setCell (ab w.heap.size 2 M) (aG true)).setCell (ab w.heap.size 3 M) (J I T))=V at aU⊢;exact FD
   ·skip;go_wp2_with fail;have aU:DL S w _:=⟨_,_,_,_,b.A.trans (by simp[wT,F,show¬U<=T-a by omega]),(X.set 0 (aG true))⟩;generalize(W.setCell (ab w.heap.size 0 M) (aG true))=V at aU⊢;exact FD
  ·by_cases u:U<=0
   ·have d:¬(o'=true/\a<=T):=l;cases o'
    ·have HH:=E d;clear d l;go_wp2_with fail;have aU:DL S w _:=⟨_,_,_,_,b.A.trans (by simp[wT,u]),((((X.set 1 (J I T)).set 0 (aG true)).set 2 (aG true)).set 3 (J I T))⟩;exact Ym
    ·have mz:T<a:=by simp at d;omega
     clear d l;go_wp2_with fail;have aU:DL S w _:=⟨_,_,_,_,b.A.trans (by simp[wT,u,show¬a<=T by omega]),((((X.set 1 (J I T)).set 0 (aG true)).set 2 (aG true)).set 3 (J I T))⟩;exact Ym
   ·have d:¬(o'=true/\a<=T):=l;cases o'
    ·have HH:=E d;clear d l;go_wp2_with fail;have aU:DL S w _:=⟨_,_,_,_,b.A.trans (by simp[wT,show¬U<=0 by omega]),((X.set 1 (J I T)).set 0 (aG true))⟩;generalize((W.setCell (ab w.heap.size 1 M) (J I T)).setCell (ab w.heap.size 0 M) (aG true))=V at aU⊢;exact FD
    ·have mz:T<a:=by simp at d;omega
     clear d l;go_wp2_with fail;have aU:DL S w _:=⟨_,_,_,_,b.A.trans (by simp[wT,show¬U<=0 by omega,show¬a<=T by omega]),((X.set 1 (J I T)).set 0 (aG true))⟩;generalize((W.setCell (ab w.heap.size 1 M) (J I T)).setCell (ab w.heap.size 0 M) (aG true))=V at aU⊢;exact FD
end
end Go.Proofs.YtbeaddlblpgppaaGreatDoor
