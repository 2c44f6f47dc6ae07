/- Part 2 of the proof of TopRules (watchtowertop). Conditions: none. -/
import Derived.Test.YtbeaddlblpgppaaGreatDoorYa
import Derived.Laws.IdiomStrings
import Derived.Lib.AppendStr
import Derived.Laws.StructEq
import Derived.Deep.SlicePairs
import Derived.Laws.CopyOwn
import Derived.Deep.OwnRows
import Derived.Deep.Cut
set_option maxRecDepth 100000
set_option maxHeartbeats 8000000
set_option linter.unusedVariables false
set_option linter.unusedSimpArgs false
set_option linter.defProp false
open Go.Lib renaming hid->E
open Go.IntKind renaming i64->I,wrap_i64->b7
open Go.Value renaming int->J,slice->O,string->ap,bool->aG,agg->aY,pointer->bl,tuple->bn
open Option renaming none->M,some->ad
open Go.Addr renaming mk->ab
open Go renaming World->aB,Value->aE,Calls->aN,Addr->aX,Act->bb,TypeId->bf,Oper->bv,results->bz,bodyPost_ret->bF,maxLen->bK,Program->cp
open Go.Obj renaming cells->aD
open Go.Proofs.Tryz renaming prog->aH
open Nat renaming le_refl->aO,le_trans->a8,zero_le->bV,lt_or_ge->gy,zero_add->ig,eq_zero_or_pos->kJ
open Go.Ending renaming returned->aQ
open Go.RowKit renaming Below->aS,Hid->a6
open Go.RowKit.Below renaming refl->bk,heap_setCell->yv
open List renaming mem_singleton->bD,length_append->b2,getElem?_eq_getElem->cR,getD_eq_getElem?_getD->dd,getElem_mem->dl,mem_cons->ee,mem_map->hM,mem_append->kf,not_mem_nil->kg,map_append->lK,size_toArray->lM,append_assoc->mV,length_drop->oy,length->oz,drop_eq_getElem_cons->pf,length_map->p6,length_singleton->p8,drop_length->qT,eq_nil_of_length_eq_zero->sb,map_cons->sd,pairwise_map->sf,length_take->tH,pairwise_iff_getElem->yw
open Bool renaming and_eq_true->b9,false_eq_true->tL
open Go.World renaming setCell->eB,size_alloc->eO
open UInt8 renaming ofNat->fN
open Go.Op renaming bytesLess->ii
open And renaming intro->iC
open Go.Instr renaming slice->iV,index->mX
open Exists renaming intro->lL
open Option.some renaming inj->tM
open Array renaming getElem?_modify->yu
open Go.World.ownsRow renaming lt->CX
open Go.World.grownBy renaming refl->EZ
open Go.Proofs.Tryz
namespace Go.Proofs.YtbeaddlblpgppaaGreatDoor
open Go.RowKit
variable {P:Prop} {b k:Nat}
open bw
section
open arA
def yI (l:List UInt8):Nat:=(l.getD 0 0).toNat+256*(l.getD 1 0).toNat+65536*(l.getD 2 0).toNat+16777216*(l.getD 3 0).toNat
def kL (l:List UInt8):Except Nat (List UInt8×List UInt8):=match e9 l with
 |.error c=>.error c
 |.ok (n,r)=>if 65536<n then .error 4 else if r.length<n+4 then .error 3 else if sum (gB (r.take n))=yI (r.drop n) then .ok (r.take n,r.drop (n+4)) else .error 5
def VQ (w':aB) (B:Nat) (e:Ending):Except Nat (List UInt8×List UInt8)->Prop
 |.ok (p,r)=>∃A1 n1 c1 A2 n2 c2,e=aQ (bn #[O A1 n1 c1,O A2 n2 c2,J I 0])/\Bs w' B A1 n1 p/\Bs w' B A2 n2 r/\n1<=c1/\c1<=9223372036854775807/\n2<=c2/\c2<=9223372036854775807
 |.error c=>e=aQ (bn #[O M 0 0,O M 0 0,J I (c:Int)])
def Po {a:Nat} (h:a<2^k):a|||b*2^k=a+b*2^k:=by
 have:=Nat.shiftLeft_add_eq_or_of_lt h b;rw[Nat.shiftLeft_eq] at this;rw[Nat.or_comm,<-this,Nat.add_comm]
def or4 {d c b a:Nat} (yJ:d<2^8) (l1:c<2^8) (l2:b<2^8) (Da:a<2^8):bits .or .u32 (bits .or .u32 (bits .or .u32 (d:Int) (IntKind.u32.wrap ((c:Int)*256))) (IntKind.u32.wrap ((b:Int)*65536))) (IntKind.u32.wrap ((a:Int)*16777216))=((d+256*c+65536*b+16777216*a:Nat):Int):=by
 have g:IntKind.u32.wrap ((c:Int)*256)=((c*2^8:Nat):Int):=by rw[IntKind.wrap_u32];omega
 have f:IntKind.u32.wrap ((b:Int)*65536)=((b*2^16:Nat):Int):=by rw[IntKind.wrap_u32];omega
 have e:IntKind.u32.wrap ((a:Int)*16777216)=((a*2^24:Nat):Int):=by rw[IntKind.wrap_u32];omega
 rw[g,f,e,u32_or_nat _ _ an an,Po yJ,u32_or_nat _ _ an an,Po (k:=16) an,u32_or_nat _ _ an an,Po (k:=24) an];congr 1;omega
theorem VR (h:P:=by
 have e1:l.drop (n-r.length)=r:=aq0;have e2:n-(n-r.length)=r.length:=an;rw[e1,e2] at this;exact this;):P:=h
def afw (B:Nat) (ao:Option aX) (n cap:Nat) (l:List UInt8) (w:aB) (dI:B<=w.heap.size) (hn:n<=9223372036854775807) (cB:n<=cap) (ij:cap<=9223372036854775807) (Z:Bs w B ao n l):aN aH 165 #[O ao n cap] w λe w'=>VQ w' B e (kL l)/\aS w.heap.size w w':=by
 have VS:=E Z;clear Z;have jY:=E (VS.A.bt dI);go_enter func165,ntmps165;go_wp2_with fail;refine(H7 ao n cap l _ hn cB ij jY.A).ah ?_;rintro e X⟨rfl,aW⟩;cases hg:e9 l with
 |error c=>
  have u:=E (show kL l= .error c by unfold kL;rw[hg]);simp only[uZ];have hc:((c:Int)==0)=false:=by
   have:c≠0:=wN hg;exact beq_false_of_ne an
  clear hg;go_wp2;refine bF (v:=bn #[O M 0 0,O M 0 0,J I (c:Int)]) aqI rfl ⟨?_,?_⟩
  ·rw[u.A];rfl
  ·exact aW
 |ok Db=>
  obtain⟨m,r⟩:=Db;obtain⟨hl,VT⟩:=C3 hg;simp only[uZ];have S:=E hg;clear hg;by_cases D:65536<m
  ·have u:=E (show kL l= .error 4 by unfold kL;rw[S.A];simp only;rw[ag D]);clear hl;go_wp2;refine bF (v:=bn #[O M 0 0,O M 0 0,J I 4]) aqI rfl ⟨?_,?_⟩
   ·rw[u.A];rfl
   ·exact aW
  have d1:decide (65536<m)=false:=aa D;have j1:r.length+(bu m).length=n:=by have:=congrArg oz hl;rw[b2,jY.A.len] at this;omega
  by_cases h2:r.length<m+4
  ·have u:=E (show kL l= .error 3 by unfold kL;rw[S.A];simp only;rw[af D,ag h2]);clear hl;go_wp2;refine bF (v:=bn #[O M 0 0,O M 0 0,J I 3]) aqI rfl ⟨?_,?_⟩
   ·rw[u.A];rfl
   ·exact aW
  have d2:decide (r.length<m+4)=false:=aa h2;have gg:Bs X B (cutAt ao cap (n-r.length) 1) r.length r:=by
   have:=(VS.A.al (aW.mono dI)).lo (k:=n-r.length) (cap:=cap) an cB;exact VR
  have U:r.length<=cap-(n-r.length):=an;have Pr:cap-(n-r.length)<=9223372036854775807:=an;have F:=E gg;clear gg hl;generalize cutAt ao cap (n-r.length) 1=A3 at F⊢;generalize cap-(n-r.length)=c3 at U Pr⊢;generalize W:r.length=k at*;have mY:=E W;clear W;have aK:m+4<=k:=an;have s1:∀w,(iV 34 (O A3 k c3) M (ad (J I (m:Int))) (ad (J I (m:Int)))).run aH w= .ok (O A3 m m) w:=Vy underlying34 1 AJ A3 k c3 m an;have s2:∀w,(iV 34 (O A3 k c3) (ad (J I (m:Int))) (ad (J I ((m:Int)+4))) M).run aH w= .ok (O (cutAt A3 c3 m 1) 4 (c3-m)) w:=by
   have:=aeO (P:=aH) underlying34 1 AJ A3 k c3 m (m+4) an an;rw[show m+4-m=4 by omega] at this;exact this
  have Y:∀w,(iV 34 (O A3 k c3) (ad (J I ((m:Int)+4))) M M).run aH w= .ok (O (cutAt A3 c3 (m+4) 1) (k-(m+4)) (c3-(m+4))) w:=oC underlying34 1 AJ A3 k c3 (m+4) an;have Q:I.wrap ((m:Int)+4)=(m:Int)+4:=ay;have HP:=E (F.A.hi (show m<=k by omega));have HT:=E (F.A.lo (show m+4<=k by omega) U);have C:=F.A.lo (show m<=k by omega) U;obtain⟨cH,b,e1,aM,x0⟩:=C.at_ (show 0<k-m by omega);obtain⟨b',o',g,-,N⟩:=C.at_ (show 1<k-m by omega);rw[e1] at g;cases g;obtain⟨b',o',g,-,x2⟩:=C.at_ (show 2<k-m by omega);rw[e1] at g;cases g;obtain⟨b',o',g,-,x3⟩:=C.at_ (show 3<k-m by omega);rw[e1] at g;cases g;rw[e1] at s2;have s:=E (show yI (r.drop m)=((r.drop m).getD 0 0).toNat+256*((r.drop m).getD 1 0).toNat+65536*((r.drop m).getD 2 0).toNat+16777216*((r.drop m).getD 3 0).toNat from rfl);have yJ:=((r.drop m).getD 0 0).toNat_lt;have l1:=((r.drop m).getD 1 0).toNat_lt;have l2:=((r.drop m).getD 2 0).toNat_lt;have Da:=((r.drop m).getD 3 0).toNat_lt;generalize((r.drop m).getD 0 0).toNat=L at x0 yJ s;generalize((r.drop m).getD 1 0).toNat=K at N l1 s;generalize((r.drop m).getD 2 0).toNat=H at x2 l2 s;generalize((r.drop m).getD 3 0).toNat=G at x3 Da s;clear C e1;generalize cutAt A3 c3 (m+4) 1=A5 at Y HT;have Ie:m<=9223372036854775807:=an;go_wp2_with fail;refine pk ar ar ?_;repeat (
   refine WQ.step (λKK d=>?_);go_simp;refine d _ ?_;clear d KK)
  refine WQ.bh ?_;rintro t⟨⟨f,a⟩,i⟩;obtain rfl:f=t:=i.symm;clear i;have bg:=aW.trans (a.mono aW.size);have z0:∀p:ba f,p.aL.cell? (ab cH b M)=ad (J .u8 (L:Int)):=λp=>(p.aC.cell (p:=(ab cH b M)) aqP).trans ((a.cell (p:=(ab cH b M)) aqQ).trans x0);have z1:∀p:ba f,p.aL.cell? ⟨cH,b+1,M⟩=ad (J .u8 (K:Int)):=λp=>(p.aC.cell (p:=⟨cH,b+1,M⟩) aqP).trans ((a.cell (p:=⟨cH,b+1,M⟩) aqQ).trans N);have z2:∀p:ba f,p.aL.cell? ⟨cH,b+2,M⟩=ad (J .u8 (H:Int)):=λp=>(p.aC.cell (p:=⟨cH,b+2,M⟩) aqP).trans ((a.cell (p:=⟨cH,b+2,M⟩) aqQ).trans x2);have z3:∀p:ba f,p.aL.cell? ⟨cH,b+3,M⟩=ad (J .u8 (G:Int)):=λp=>(p.aC.cell (p:=⟨cH,b+3,M⟩) aqP).trans ((a.cell (p:=⟨cH,b+3,M⟩) aqQ).trans x3);clear s1 s2 Y Q x0 N x2 x3;have R:=E (show∀p:ba f,aN aH 159 #[O A3 m m] p.aL λe cT=>e=aQ (J .u32 (sum (gB (r.take m)):Nat))/\∃q:ba f,cT=q.aL fromλp=>aN.aeS (VM A3 m m (r.take m) p.aL Ie (((HP.A.al (a.mono (ai aW.size))).al (p.aC.mono (ai bg.size))).bt (aj p.aC.size bg.size))));have iG:=Pf (Ib (r.take m));generalize q5:sum (gB (r.take m))=sv at R iG;have gR:=E q5;clear q5;have z:∀y:Nat,y<2^8->IntKind.u32.wrap (y:Int)=(y:Int):=λy h=>by rw[IntKind.wrap_u32];omega
  have v0:=z L yJ;have v1:=z K l1;have v2:=z H l2;have v3:=z G Da;clear z;have C7:=or4 yJ l1 l2 Da;generalize L+256*K+65536*H+16777216*G=V at C7 s;clear yJ l1 l2 Da;have VU:kL l=if sv=V then .ok (r.take m,r.drop (m+4)) else .error 5:=by
   unfold kL;rw[S.A];simp only;rw[af D,af (by rw[mY.A];exact h2),gR.A,s.A]
  have AM:=E VU;clear VU;by_cases j:sv=V
  ·have bq:((sv:Int)!=(V:Int))=false:=by rw[j];simp
   have T:=E (show kL l= .ok (r.take m,r.drop (m+4)) by rw[AM.A,ag j]);have wR:=E j;clear j;go_wp2_with fail;have o:=bg;have VV:=a;clear bg a;refine pk ar ar ?_;repeat (
    refine WQ.step (λKK d=>?_);go_simp;first
     |(refine d _ ?_;clear d KK)
     |(apply lL;refine⟨λ_=>?_,d _ ?_⟩;((go_at_call 159;exact R.A _));clear d KK))
   refine WQ.bh ?_;rintro t⟨⟨f,a⟩,i⟩;obtain rfl:f=t:=i.symm;clear i;go_wp2;refine bF (v:=bn #[O A3 m m,O A5 (k-(m+4)) (c3-(m+4)),J I 0]) aqI rfl ⟨?_,?_⟩
   ·rw[T.A];have Dd:=(VV.mono (show B<=X.heap.size by have:=aW.size;omega)).trans (a.mono (ai o.size));exact⟨A3,m,m,A5,_,_,rfl,HP.A.al Dd,by have:=HT.A.al Dd;exact this,aO _,Ie,an,an⟩
   ·exact o.trans (a.mono o.size)
  have bq:((sv:Int)!=(V:Int))=true:=bne_iff_ne.2 an;have T:=E (show kL l= .error 5 by rw[AM.A,af j]);have wR:=E j;clear j;go_wp2_with fail;have o:=bg;have VV:=a;clear bg a;refine pk ar ar ?_;repeat (
   refine WQ.step (λKK d=>?_);go_simp;first
    |(refine d _ ?_;clear d KK)
    |(apply lL;refine⟨λ_=>?_,d _ ?_⟩;((go_at_call 159;exact R.A _));clear d KK))
  refine WQ.bh ?_;rintro t⟨⟨f,a⟩,i⟩;obtain rfl:f=t:=i.symm;clear i;go_wp2;refine bF (v:=bn #[O M 0 0,O M 0 0,J I 5]) aqI rfl ⟨?_,?_⟩
  ·rw[T.A];rfl
  ·exact o.trans (a.mono o.size)
def afx (ao:Option aX) (n cap:Nat) (l:List UInt8) (w:aB) (hn:n<=9223372036854775807) (b:n<=cap) (a:cap<=9223372036854775807) (Z:Bs w w.heap.size ao n l):aN aH 165 #[O ao n cap] w λe w'=>VQ w' w.heap.size e (kL l)/\aS w.heap.size w w':=afw w.heap.size ao n cap l w (aO _) hn b a Z
end
section
open arA
def ofNat_toNat {x:Nat} (h:x<256):(fN x).toNat=x:=UInt8.toNat_ofNat_of_lt' ark
def afy {s:Nat} (hs:s<4294967296) (t:List UInt8):yI (ki s++t)=s:=by
 simp only[yI,ki,List.cons_append,List.nil_append,List.getD_cons_zero,List.getD_cons_succ];rw[ofNat_toNat (x:=s % 256) an,ofNat_toNat (x:=s/256 % 256) an,ofNat_toNat (x:=s/65536 % 256) an,ofNat_toNat (x:=s/16777216) an];omega
def Lo (s:Nat):(ki s).length=4:=rfl
def afz {l:List UInt8} (h:l.length=4):ki (yI l)=l:=by
 match l,h with
 |[a,b,c,d],_=>
  have i:=a.toNat_lt;have Z:=b.toNat_lt;have g:=c.toNat_lt;have f:=d.toNat_lt;simp only[yI,ki,List.getD_cons_zero,List.getD_cons_succ];have e:∀(x:UInt8) (z:Nat),z=x.toNat->fN z=x:=λx z h=>by rw[h];exact UInt8.ofNat_toNat
  rw[e a _ an,e b _ an,e c _ an,e d _ an]
def afA (p t:List UInt8) (d:p.length<=65536):kL (kK p++t)= .ok (p,t):=by
 have hs:=Pf (Ib p);unfold kL kK;rw[mV,mV,C0 _ _ an];simp only;have c:(p++(ki (sum (gB p))++t)).take p.length=p:=List.take_left;have a:(p++(ki (sum (gB p))++t)).drop p.length=ki (sum (gB p))++t:=List.drop_left;have b:(p++(ki (sum (gB p))++t)).drop (p.length+4)=t:=by
  rw[<-List.drop_drop,a];rfl
 rw[af an,af (by simp[Lo]),c,a,b,ag (afy hs t).symm]
def afB {l p r:List UInt8} (h:kL l= .ok (p,r)):l=kK p++r/\p.length<=65536:=by
 unfold kL at h;cases hg:e9 l with
 |error c=>rw[hg] at h;cases h
 |ok f=>
  obtain⟨m,q⟩:=f;rw[hg] at h;simp only at h;split at h
  ·cases h
  ·split at h
   ·cases h
   ·split at h
    ·rename_i g h2 a;injection h with h;injection h with hp hr;obtain⟨e,-⟩:=C3 hg;have d:p.length=m:=by rw[<-hp,tH];omega
     refine⟨?_,an⟩;have h4:(q.drop m).take 4=ki (sum (gB p)):=by
      have:yI (q.drop m)=yI ((q.drop m).take 4):=by
       simp[yI,dd]
      rw[<-hp,a,this,afz (by rw[tH,oy];omega)]
     unfold kK;rw[d,<-h4,<-hp,<-hr,e];have b:q.drop (m+4)=(q.drop m).drop 4:=by rw[List.drop_drop]
     rw[b,mV,mV,List.take_append_drop,List.take_append_drop]
    ·cases h
def Ps (w:aB) {B n:Nat} {ao:Option aX} {l:List UInt8} (cap:Nat) (h:Bs w B ao n l):(convert 34 9 (O ao n cap)).run aH w= .ok (ap ⟨l.toArray⟩) w:=by
 cases ao with
 |none=>
  have hn:n=0:=by
   rcases kJ n with h0|h0
   ·exact h0
   ·obtain⟨_,_,e,_⟩:=h.sl h0;cases e
  have d:l=[]:=sb (by rw[h.len,hn]);subst d;subst hn;rw[run_convert_bytes_string w _ _ 5 M 0 cap underlying34 underlying5 underlying9];rfl
 |some a=>
  have hn:=h.len;subst hn;refine run_convert_bytes_back w _ _ 5 a cap l underlying34 underlying5 underlying9 (λj hj=>?_);obtain⟨b,off,e,-,f⟩:=h.at_ hj;cases e;have c:((ab b off M):aX).add j=⟨b,off+j,M⟩:=aqj;rw[c,f];simp[hj]
end
def encI (n:Int):Nat:=if n<0 then(-2*n-1).toNat else(2*n).toNat
def qa (u:Nat):Int:=if u % 2=1 then-(((u+1)/2:Nat):Int) else((u/2:Nat):Int)
def afC (n:Int):qa (encI n)=n:=by
 unfold qa encI;by_cases h:n<0
 ·rw[ag h,ag an];omega
 ·rw[af h,af an];omega
def afD {u:Nat} (h:u<=1152921504606846976):-576460752303423488<=qa u/\qa u<=576460752303423488:=by
 unfold qa;split<;>omega
def Lp (l:List UInt8) (n:Int):List UInt8:=if-576460752303423488<=n/\n<=576460752303423488 then l++bu (encI n) else l
def sj (l:List UInt8):Except Nat (Int×List UInt8):=match e9 l with
 |.error c=>.error c
 |.ok (u,r)=>.ok (qa u,r)
def afE (n:Int) (t:List UInt8) (h:-576460752303423488<=n/\n<=576460752303423488):sj (bu (encI n)++t)= .ok (n,t):=by
 unfold sj;rw[C0 _ _ (by unfold encI;split<;>omega)];simp only[afC]
theorem VW (h:P:=by
 have HP:=E (show Lp l m=l from af (λh=>by omega));go_enter func161,ntmps161;go_wp2_with fail;refine(Le ao n cap l _ hn HB.A).ah ?_;rintro e w1⟨⟨v,rfl,bc⟩,aW⟩;go_wp2;go_ret;exact⟨⟨_,rfl,by rw[HP.A];exact bc⟩,aW⟩;):P:=h
def afF (ao:Option aX) (n cap:Nat) (l:List UInt8) (m:Int) (w:aB) (hn:n<=70368744177664) (Z:Bs w w.heap.size ao n l):aN aH 161 #[O ao n cap,J I m] w λe w'=>(∃v,e=aQ v/\bQ w' w.heap.size 5 v (Lp l m))/\aS w.heap.size w w':=by
 have HB:=E Z;clear Z;by_cases h0:m< -576460752303423488
 ·exact VW
 have d0:decide (m< -576460752303423488)=false:=aa h0;by_cases c:576460752303423488<m
 ·exact VW
 have d1:decide (576460752303423488<m)=false:=aa c;have HP:=E (show Lp l m=l++bu (encI m) from ag ⟨an,an⟩);by_cases a:m<0
 ·have b:=E (show mm l (-2*m-1)=l++bu (encI m) from by unfold mm encI;rw[ag an,ag a]);go_enter func161,ntmps161;go_wp2_with fail;refine(yF ao n cap l (-2*m-1) _ hn HB.A).ah ?_;rintro e w1⟨⟨v,rfl,bc⟩,aW⟩;go_wp2;go_ret;exact⟨⟨_,rfl,by rw[HP.A,<-b.A];exact bc⟩,aW⟩
 ·have b:=E (show mm l (2*m)=l++bu (encI m) from by unfold mm encI;rw[ag an,af a]);have d:decide (m<0)=false:=aa a;go_enter func161,ntmps161;go_wp2_with fail;refine(yF ao n cap l (2*m) _ hn HB.A).ah ?_;rintro e w1⟨⟨v,rfl,bc⟩,aW⟩;go_wp2;go_ret;exact⟨⟨_,rfl,by rw[HP.A,<-b.A];exact bc⟩,aW⟩
def afG (ao:Option aX) (n cap:Nat):Except Nat (Int×List UInt8)->Array aE
 |.ok (m,r)=>#[J I m,O (cutAt ao cap (n-r.length) 1) r.length (cap-(n-r.length)),J I 0]
 |.error c=>#[J I 0,O M 0 0,J I (c:Int)]
def afH (ao:Option aX) (n cap:Nat) (l:List UInt8) (w:aB) (hn:n<=9223372036854775807) (z:n<=cap) (s:cap<=9223372036854775807) (Z:Bs w w.heap.size ao n l):aN aH 215 #[O ao n cap] w λe w'=>e=aQ (.tuple (afG ao n cap (sj l)))/\aS w.heap.size w w':=by
 have C:=E Z;clear Z;go_enter func215,ntmps215;go_wp2_with fail;refine(H7 ao n cap l _ hn z s C.A).ah ?_;rintro e D⟨rfl,j⟩;cases b:e9 l with
 |error c=>
  have d:=E (show sj l= .error c by unfold sj;rw[b]);have F:((c:Int)!=0)=true:=bne_iff_ne.2 (ai (wN b));simp only[uZ];clear b;go_wp2;refine bF (v:=bn #[J I 0,O M 0 0,J I (c:Int)]) (by simp[bz,results215,go_sem]) rfl ⟨?_,j⟩;rw[d.A];rfl
 |ok i=>
  obtain⟨u,r⟩:=i;obtain⟨-,g⟩:=C3 b;have d:=E (show sj l= .ok (qa u,r) by unfold sj;rw[b]);simp only[uZ];clear b;generalize o:cutAt ao cap (n-r.length) 1=A2 at*;generalize m:cap-(n-r.length)=c2 at*;have k:=E o;have p:=E m;clear o m;by_cases a:u % 2=1
  ·have y:(u:Int) % 2=1:=by omega
   have f:(u:Int).tmod 2=1:=by rw[show(2:Int)=((2:Nat):Int) from rfl];exact congrArg Int.ofNat a
   have t:(-((u:Int)+1)).tdiv 2=qa u:=by
    unfold qa;rw[ag a];rw[Int.neg_tdiv,show(2:Int)=((2:Nat):Int) from rfl,show(u:Int)+1=((u+1:Nat):Int) by push_cast;rfl];rfl
   have q:wrap64 (qa u)=qa u:=by have:=afD g;unfold wrap64;omega
   have B:=E a;clear a;go_wp2;refine bF (v:=bn #[J I (qa u),O A2 r.length c2,J I 0]) (by simp[bz,results215,go_sem,q]) rfl ⟨?_,j⟩;rw[d.A,<-k.A,<-p.A];rfl
  ·have y:(u:Int) % 2=0:=by omega
   have f:(u:Int).tmod 2=0:=by rw[show(2:Int)=((2:Nat):Int) from rfl];exact congrArg Int.ofNat (show u % 2=0 by omega)
   have t:(u:Int)/2=qa u:=by
    unfold qa;rw[af a];omega
   have B:=E a;clear a;go_wp2;refine bF (v:=bn #[J I (qa u),O A2 r.length c2,J I 0]) (by simp[bz,results215,go_sem]) rfl ⟨?_,j⟩;rw[d.A,<-k.A,<-p.A];rfl
def nL (s:ByteArray):List UInt8:=s.data.toList
def yO (s:ByteArray):(nL s).length=s.size:=Array.length_toList
def VX (s:ByteArray):(⟨(nL s).toArray⟩:ByteArray)=s:=by
 apply ByteArray.ext;simp[nL]
def tR (l:List UInt8) (s:ByteArray):List UInt8:=if s.size<=65536 then l++bu s.size++nL s else l
def afK (a:aE) (l:List UInt8) (s:ByteArray) (w:aB) (base:Nat) (B:base<=w.heap.size) (t:l.length<=70368744177664) (D:s.size<=9223372036854775807) (j:bQ w base 5 a l):aN aH 157 #[a,ap s] w λe w'=>(∃v,e=aQ v/\bQ w' base 5 v (tR l s))/\aS base w w':=by
 have m:=E j;clear j;by_cases hs:s.size<=65536
 ·have c:=E (show tR l s=l++bu s.size++nL s from ag hs);have d:decide ((65536:Int)<(s.size:Int))=false:=aa an;have i:=E (ph 8 s.size (pj _ an));obtain⟨r,hi,u,z,y⟩:=info_parts pm;go_enter func157,ntmps157;go_wp2_with fail;refine(O8 a l (s.size:Int) w base B t ⟨an,an⟩ m.A).ah ?_;rintro e f⟨⟨p,rfl,k⟩,b⟩;have n:a6 (f.ownsRow base 5 1 p (l++bu s.size).length ((l++bu s.size).map ca)):=E k;clear k;go_wp2_with ((refine Lib.wpList_append_own_string f au (.tmp 12) (.tmp 13) 34 9 au base 5 r underlying34 underlying9 hi u z y _ _ _ au n.A s au (by rw[b2];have:=i.A;unfold bK;omega) (by rw[b2];have:=i.A;omega) (ai b.size) ?_;intro v2 C q o _));go_ret;refine⟨⟨_,rfl,?_⟩,b.grown o (ai b.size) (λg e=>(CX n.A g e).1)⟩;rw[c.A];unfold bQ;rw[b2,yO,lK];exact q
 ·have c:=E (show tR l s=l from af hs);have d:(65536:Int)<(s.size:Int):=an;go_enter func157,ntmps157;go_wp2;go_ret;exact⟨⟨_,rfl,by rw[c.A];exact m.A⟩,bk _ _⟩
def afL (ao:Option aX) (n cap:Nat) (l:List UInt8) (s:ByteArray) (w:aB) (hn:n<=70368744177664) (f:s.size<=9223372036854775807) (Z:Bs w w.heap.size ao n l):aN aH 120 #[O ao n cap,ap s] w λe w'=>(∃v,e=aQ v/\bQ w' w.heap.size 5 v (tR l s))/\aS w.heap.size w w':=by
 have j:=Z.len;go_enter func120,ntmps120;go_wp2_with fail;refine(Le ao n cap l _ hn Z).ah ?_;rintro e i⟨⟨v,rfl,a⟩,b⟩;go_wp2_with fail;refine(afK v l s _ w.heap.size b.size an f a).ah ?_;rintro e g⟨⟨v2,rfl,c⟩,d⟩;clear a Z;go_wp2;go_ret;exact⟨⟨_,rfl,c⟩,b.trans d⟩
def kk (l:List UInt8):Except Nat (List UInt8×List UInt8):=match e9 l with
 |.error c=>.error c
 |.ok (n,r)=>if 65536<n then .error 4 else if r.length<n then .error 3 else .ok (r.take n,r.drop n)
def afM (w':aB) (B:Nat) (e:Ending):Except Nat (List UInt8×List UInt8)->Prop
 |.ok (t,r)=>∃A2 n2 c2,e=aQ (bn #[ap ⟨t.toArray⟩,O A2 n2 c2,J I 0])/\Bs w' B A2 n2 r/\n2<=c2/\c2<=9223372036854775807
 |.error c=>e=aQ (bn #[ap ⟨#[]⟩,O M 0 0,J I (c:Int)])
def VZ (B:Nat) (ao:Option aX) (n cap:Nat) (l:List UInt8) (w:aB) (z:B<=w.heap.size) (hn:n<=9223372036854775807) (D:n<=cap) (R:cap<=9223372036854775807) (Z:Bs w B ao n l):aN aH 170 #[O ao n cap] w λe w'=>afM w' B e (kk l)/\aS w.heap.size w w':=by
 have j:=E Z;clear Z;go_enter func170,ntmps170;go_wp2_with fail;refine(H7 ao n cap l _ hn D R (j.A.bt z)).ah ?_;rintro e q⟨rfl,a⟩;cases d:e9 l with
 |error c=>
  have b:=E (show kk l= .error c by unfold kk;rw[d]);have V:((c:Int)!=0)=true:=bne_iff_ne.2 (ai (wN d));simp only[uZ];clear d;go_wp2;refine bF (v:=bn #[ap ⟨#[]⟩,O M 0 0,J I (c:Int)]) aq2 rfl ⟨?_,a⟩;rw[b.A];rfl
 |ok U=>
  obtain⟨m,r⟩:=U;obtain⟨hl,X⟩:=C3 d;simp only[uZ];have g:=E d;clear d;have Q:r.length+(bu m).length=n:=by have:=congrArg oz hl;rw[b2,j.A.len] at this;omega
  have u:Bs q B (cutAt ao cap (n-r.length) 1) r.length r:=by
   have:=(j.A.al (a.mono z)).lo (k:=n-r.length) (cap:=cap) an D;exact VR
  have H:r.length<=cap-(n-r.length):=an;have T:cap-(n-r.length)<=9223372036854775807:=an;have i:=E u;clear u hl Q;generalize cutAt ao cap (n-r.length) 1=A3 at i⊢;generalize cap-(n-r.length)=c3 at H T⊢;generalize o:r.length=k at*;have s:=E o;clear o;by_cases f:65536<m
  ·have b:=E (show kk l= .error 4 by unfold kk;rw[g.A];simp only;rw[ag f]);go_wp2;refine bF (v:=bn #[ap ⟨#[]⟩,O M 0 0,J I 4]) aq2 rfl ⟨?_,a⟩;rw[b.A];rfl
  have d1:decide (65536<m)=false:=aa f;by_cases h2:k<m
  ·have b:=E (show kk l= .error 3 by unfold kk;rw[g.A];simp only;rw[af f,ag (by rw[s.A];exact h2)]);go_wp2;refine bF (v:=bn #[ap ⟨#[]⟩,O M 0 0,J I 3]) aq2 rfl ⟨?_,a⟩;rw[b.A];rfl
  have W:decide (k<m)=false:=aa h2;have b:=E (show kk l= .ok (r.take m,r.drop m) by unfold kk;rw[g.A];simp only;rw[af f,af (by rw[s.A];exact h2)]);have s1:∀w,(iV 34 (O A3 k c3) M (ad (J I (m:Int))) M).run aH w= .ok (O A3 m c3) w:=O4 underlying34 1 AJ A3 k c3 m an;have L:∀w,(iV 34 (O A3 k c3) (ad (J I (m:Int))) M M).run aH w= .ok (O (cutAt A3 c3 m 1) (k-m) (c3-m)) w:=oC underlying34 1 AJ A3 k c3 m an;have st:∀p:ba q,(convert 34 9 (O A3 m c3)).run aH p.aL= .ok (ap ⟨(r.take m).toArray⟩) p.aL:=λp=>Ps p.aL c3 ((i.A.al (p.aC.mono (ai a.size))).hi (show m<=k by omega));have G:=E (i.A.lo (show m<=k by omega) H);generalize cutAt A3 c3 m 1=A5 at L G;generalize y:(⟨(r.take m).toArray⟩:ByteArray)=sx at st;have N:=E y;clear y;go_wp2_with fail;refine pk ar ar ?_;repeat (
   refine WQ.step (λKK F=>?_);go_simp;refine F _ ?_;clear F KK)
  refine WQ.bh ?_;rintro S⟨⟨K,t⟩,C⟩;obtain rfl:K=S:=C.symm;clear C;go_wp2;refine bF (v:=bn #[ap sx,O A5 (k-m) (c3-m),J I 0]) aq2 rfl ⟨?_,a.trans (t.mono a.size)⟩;rw[b.A];exact⟨A5,_,_,by rw[N.A],G.A.al (t.mono (ai a.size)),an,an⟩
def cc {a b:Bool} (h:a=b):aQ (aG a)=aQ (aG b):=by rw[h]
def vi (first:Bool) (c:Nat):Prop:=(97<=c/\c<=122)\/(65<=c/\c<=90)\/c=95\/(48<=c/\c<=57/\first=false)
def dp (s:ByteArray) (i:Nat):Nat:=if h:i<s.size then(s[i]'h).toNat else 0
def pq (s:ByteArray):Prop:=1<=s.size/\s.size<=64/\∀i,i<s.size->vi (decide (i=0)) (dp s i)
instance (f:Bool) (c:Nat):Decidable (vi f c):=by unfold vi;infer_instance
instance (s:ByteArray):Decidable (pq s):=by unfold pq;infer_instance
def db (s:ByteArray):Bool:=decide (pq s)
def nM {s:ByteArray}:db s=true↔pq s:=by unfold db;simp
def Lq {s:ByteArray}:db s=false↔¬pq s:=by unfold db;simp
def afQ {s:ByteArray} (h:∀j,j<k->vi (decide (j=0)) (dp s j)) (a:vi (decide (k=0)) (dp s k)):∀j,j<k+1->vi (decide (j=0)) (dp s j):=λj hj=>by
 rcases gy j k with h'|h'
 ·exact h j h'
 ·obtain rfl:j=k:=by omega
  exact a
def mu (s:ByteArray) (w:aB) (hs:s.size<=9223372036854775807):aN aH 16 #[ap s] w λe w'=>e=aQ (aG (db s))/\w'=w:=by
 by_cases h0:s.size<1
 ·have a:=E (show db s=false from Lq.2 λh=>by have:=h.1;omega);go_enter func16,ntmps16;go_wp2;go_ret;exact⟨cc a.A.symm,rfl⟩
 have d0:decide (s.size<1)=false:=aa h0;by_cases m:64<s.size
 ·have a:=E (show db s=false from Lq.2 λh=>by have:=h.2.1;omega);go_enter func16,ntmps16;go_wp2;go_ret;exact⟨cc a.A.symm,rfl⟩
 have d1:decide (64<s.size)=false:=aa m;go_enter func16,ntmps16;go_wp2;go_loopw [3] (λi wr=>∃k:Nat,k<=s.size/\i=J I k/\a6 (∀j,j<k->vi (decide (j=0)) (dp s j))/\wr=w) (λi _=>s.size-(intOf i).toNat);case atStart=>exact⟨0,an,rfl,E (λj hj=>ae hj (Nat.not_lt_zero _)),rfl⟩
 case round=>
  obtain⟨k,n,rfl,g,rfl⟩:=hrel;by_cases f:k<s.size
  ·obtain⟨c,d⟩:=aP (dp s k);have o:(s[k]'f).toNat=c:=by rw[<-d];unfold dp;rw[dif_pos f]
   have l:=E d;clear d;go_wp2;all_goals try simp only[Bool.not_eq_true',Bool.not_eq_false',decide_eq_true_eq,decide_eq_false_iff_not,beq_iff_eq,beq_eq_false_iff_ne,ne_eq] at*
   all_goals first
    |(have b:vi (decide (k=0)) c:=(by simp only[vi,decide_eq_false_iff_not];omega);refine⟨⟨k+1,an,by go_num,E (afQ g.A (by rw[l.A];exact b)),trivial⟩,aA⟩)
    |(have a:=E (show db s=false from Lq.2 λh=>by
     have h2:=h.2.2 k f;rw[l.A] at h2;simp only[vi,decide_eq_false_iff_not] at h2;omega);go_ret;exact⟨cc a.A.symm,rfl⟩)
    |(exfalso;omega)
  ·obtain rfl:k=s.size:=by omega
   have a:=E (show db s=true from nM.2 ⟨an,an,g.A⟩);go_wp2;go_ret;exact⟨cc a.A.symm,rfl⟩
abbrev aZ:=List (ByteArray×ByteArray)
def nm (L:aZ) (i:Nat):ByteArray:=(L.getD i (⟨#[]⟩,⟨#[]⟩)).1
def vl (L:aZ) (i:Nat):ByteArray:=(L.getD i (⟨#[]⟩,⟨#[]⟩)).2
structure fm (w:aB) (B:Nat) (ao:Option aX) (n:Nat) (L:aZ):Prop where
 len:L.length=n
 q:Q2 w B ao n (λi=>ap (nm L i)) (λi=>ap (vl L i))
 sz:∀i,i<n->(nm L i).size<=9223372036854775807/\(vl L i).size<=9223372036854775807
def fm.bh (w:aB) (B:Nat) (ao:Option aX):fm w B ao 0 []:=⟨rfl,Q2.zero _ _ _ _ _,λi hi=>ae hi (Nat.not_lt_zero _)⟩
section
variable {w w':aB} {B B' n:Nat} {ao:Option aX} {L:aZ}
def fm.al (h:fm w B ao n L) (Z:aS B w w'):fm w' B ao n L:=⟨h.len,h.q.al Z,h.sz⟩
def fm.bt (h:fm w B ao n L) (hB:B<=B'):fm w B' ao n L:=⟨h.len,h.q.bt hB,h.sz⟩
def fm.aL (h:fm w w.heap.size ao n L) (Z:aS w.heap.size w w'):fm w' w'.heap.size ao n L:=⟨h.len,h.q.aL Z,h.sz⟩
end
def tS (a b:ByteArray):Bool:=!(ii a.toList b.toList)
def V6 (a b:ByteArray) (t:bf) (W:aB):(binOp .geq t (ap a) (ap b)).run aH W= .ok (aG (tS a b)) W:=by simp[binOp,Op.stringOp,tS]
def yQ (k:Nat) (L:aZ):Prop:=∀i,i<k->pq (nm L i)/\(vl L i).size<=64/\(0<i->tS (nm L (i-1)) (nm L i)=false)
def yQ.succ {L:aZ} (h:yQ k L) (b:pq (nm L k)) (h2:(vl L k).size<=64) (a:0<k->tS (nm L (k-1)) (nm L k)=false):yQ (k+1) L:=λi hi=>by
 rcases gy i k with h'|h'
 ·exact h i h'
 ·obtain rfl:i=k:=by omega
  exact⟨b,h2,a⟩
def Df (L:aZ):Prop:=L.length<=16/\yQ L.length L
instance (L:aZ):Decidable (Df L):=by unfold Df yQ;infer_instance
def bH (L:aZ):Bool:=decide (Df L)
def yR {L:aZ}:bH L=true↔Df L:=by unfold bH;simp
def V7 {L:aZ}:bH L=false↔¬Df L:=by unfold bH;simp
theorem V8 (h:P:=by
 go_wp2_with fail;refine(mu s0 _ jr).ah ?_;rintro e w1⟨rfl,rfl⟩;rw[c1];go_wp2_with fail;refine pk ar ar ?_;repeat (
  refine WQ.step (λKK aJ=>?_);go_simp;refine aJ _ ?_;clear aJ KK)
 refine WQ.bh ?_;rintro iE⟨⟨wq,hq⟩,dA⟩;obtain rfl:wq=iE:=dA.symm;clear dA;go_wp2;go_roundw;case rel=>exact⟨k+1,an,by go_num,HN,bN.trans (hq.mono bN.size)⟩
 case measure=>exact aA
 ):P:=h
def Ih (ao:Option aX) (n cap:Nat) (L:aZ) (w:aB) (hn:n<=9223372036854775807) (Z:fm w w.heap.size ao n L):aN aH 19 #[O ao n cap] w λe w'=>e=aQ (aG (bH L))/\aS w.heap.size w w':=by
 have f:=E Z;clear Z;have d:=E f.A.len;by_cases t:n<=16
 ·go_enter func19,ntmps19;go_wp2;go_loopw [10] (λi wr=>∃k:Nat,k<=n/\i=J I k/\a6 (yQ k L)/\aS w.heap.size w wr) (λi _=>n-(intOf i).toNat);case atStart=>exact⟨0,an,rfl,E (λi hi=>ae hi an),bk _ _⟩
  case round=>
   obtain⟨k,D,rfl,l,hB⟩:=hrel;by_cases aK:k<n
   ·obtain⟨b,off,rfl,cw,hc⟩:=f.A.q an;obtain⟨s0,pu⟩:∃s,a6 (nm L k=s):=⟨_,E rfl⟩;obtain⟨s1,qc⟩:∃s,a6 (vl L k=s):=⟨_,E rfl⟩;have F:wr.cell? ⟨b,off+k*2,M⟩=ad (ap s0):=aqu;have K:wr.cell? ⟨b,off+k*2+1,M⟩=ad (ap s1):=aqt;have o:=E hc;clear hc;have m:=E (show bH L=true->pq s0/\s1.size<=64/\(0<k->tS (nm L (k-1)) s0=false) fromλh=>by rw[<-pu.A,<-qc.A];exact(yR.1 h).2 k (by rw[d.A];exact aK));have jr:s0.size<=9223372036854775807:=by rw[<-pu.A];exact(f.A.sz k aK).1
    have G:s1.size<=9223372036854775807:=by rw[<-qc.A];exact(f.A.sz k aK).2
    have bN:=hB.alloc hB.size (aD #[ap s0,ap s1] 78);cases c1:db s0
    ·have a:=E (show bH L=false by
      cases h:bH L
      ·rfl
      ·rw[nM.2 (m.A h).1] at c1;cases c1)
     go_wp2_with fail;refine(mu s0 _ jr).ah ?_;rintro e w1⟨rfl,rfl⟩;rw[c1];go_wp2;go_ret;exact⟨cc a.A.symm,bN⟩
    have u:=nM.1 c1;by_cases c2:64<s1.size
    ·have a:=E (show bH L=false by
      cases h:bH L
      ·rfl
      ·have:=(m.A h).2.1;omega)
     go_wp2_with fail;refine(mu s0 _ jr).ah ?_;rintro e w1⟨rfl,rfl⟩;rw[c1];go_wp2;go_ret;exact⟨cc a.A.symm,bN⟩
    have N:decide (64<s1.size)=false:=aa c2;by_cases c3:k=0
    ·have HN:=E (l.A.succ (by rw[pu.A];exact u) (by rw[qc.A];omega) (λh=>ae h an));have q:decide (0<k)=false:=aa an;clear c3;exact V8
    obtain⟨j,hj⟩:=aP (k-1);have q:0<k:=an;have y:j<n:=an;have H:I.wrap (j:Int)=(j:Int):=ay;have C:(k:Int)-1=(j:Int):=an;obtain⟨c,g⟩:∃s,a6 (nm L j=s):=⟨_,E rfl⟩;have z:wr.cell? ⟨b,off+j*2,M⟩=ad (ap c):=by rw[<-g.A];exact(hB.cell (p:=⟨b,off+j*2,M⟩) cw).trans (o.A j y).1
    have B:∀p:ba (wr.alloc (aD #[ap s0,ap s1] 78)),p.aL.cell? ⟨b,off+j*2,M⟩=ad (ap c):=λp=>p.cell (by have:=hB.size;simp;omega) ((World.cell?_alloc_lt wr _ ⟨b,off+j*2,M⟩ aqU).trans z);have A:∀p:ba (wr.alloc (aD #[ap s0,ap s1] 78)),p.aL.cell? (ab wr.heap.size 0 M)=ad (ap s0):=ba.cells (aI.new wr _ _) 0;have v:=E hj;clear hj;cases c4:tS c s0
    ·have x:∀W,(binOp .geq 9 (ap c) (ap s0)).run aH W= .ok (aG false) W:=λW=>by rw[V6,c4]
     have HN:=E (l.A.succ (by rw[pu.A];exact u) (by rw[qc.A];omega) (λh=>by rw[v.A,g.A,pu.A];exact c4));exact V8
    ·have x:∀W,(binOp .geq 9 (ap c) (ap s0)).run aH W= .ok (aG true) W:=λW=>by rw[V6,c4]
     have a:=E (show bH L=false by
      cases h:bH L
      ·rfl
      ·have r:=(m.A h).2.2 q;rw[v.A,g.A,c4] at r;cases r)
     go_wp2_with fail;refine(mu s0 _ jr).ah ?_;rintro e w1⟨rfl,rfl⟩;rw[c1];go_wp2_with fail;refine pk ar ar ?_;repeat (
      refine WQ.step (λKK aJ=>?_);go_simp;refine aJ _ ?_;clear aJ KK)
     refine WQ.bh ?_;rintro iE⟨⟨wq,hq⟩,dA⟩;obtain rfl:wq=iE:=dA.symm;clear dA;go_wp2;go_ret;exact⟨cc a.A.symm,bN.trans (hq.mono bN.size)⟩
   ·obtain rfl:k=n:=by omega
    have a:=E (show bH L=true from yR.2 ⟨by rw[d.A];exact t,by rw[d.A];exact l.A⟩);go_wp2;go_ret;exact⟨cc a.A.symm,hB⟩
 ·have a:=E (show bH L=false from V7.2 (λh=>t (by have:=h.1;rw[d.A] at this;exact this)));go_enter func19,ntmps19;go_wp2;go_ret;exact⟨cc a.A.symm,bk _ _⟩
variable {i:Nat} {L:aZ}
def fU:ByteArray×ByteArray->ByteArray×ByteArray->Int:=wM fO fO
def Ij:fS fU:=CY.wM CY
def fu:aZ->aZ->Int:=mh fU
def lg:fS fu:=Ij.mh
noncomputable def dG (L:aZ):aZ:=if bH L=true then L else[]
noncomputable def cmpL (a b:aZ):Int:=fu (dG a) (dG b)
def lP (L:aZ) (k:ByteArray):Option ByteArray:=(L.find? λp=>decide (p.1=k)).map (·.2)
noncomputable def gD (L:aZ) (k:ByteArray):Option ByteArray:=lP (dG L) k
def tT (l:aZ):Prop:=l.length<=16/\(∀p∈l,p.2.size<=64)/\(∀p∈l,pq p.1)/\(l.map (·.1)).Nodup
instance (l:aZ):Decidable (tT l):=by unfold tT;infer_instance
noncomputable def qd (l:aZ):Option aZ:=if tT l then ad (oB fU l) else M
noncomputable def tU (L:aZ) (k:ByteArray):aZ:=(dG L).filter λp=>!decide (p.1=k)
noncomputable def vk (L:aZ) (k v:ByteArray):Option aZ:=qd (tU L k++[(k,v)])
noncomputable def so (a b:aZ):Option aZ:=qd ((dG a).filter (λp=>(lP (dG b) p.1).isNone)++dG b)
def afR {p q:ByteArray×ByteArray} (h:fO p.1 q.1<0):fU p q<0:=by
 unfold fU wM;rw[af an];exact h
def afS {p q:ByteArray×ByteArray} (h:fU p q<0) (hn:p.1≠q.1):fO p.1 q.1<0:=by
 unfold fU wM at h;split at h
 ·rename_i e;exact ae (CY.zero e) hn
 ·exact h
def yS (h:i<L.length):nm L i=(L[i]).1:=by unfold nm;rw[dd,cR h];rfl
def E7 (h:i<L.length):vl L i=(L[i]).2:=by unfold vl;rw[dd,cR h];rfl
def nN:bH L=true↔L.length<=16/\(∀p∈L,pq p.1/\p.2.size<=64)/\e8 (λp q:ByteArray×ByteArray=>fO p.1 q.1) L:=by
 rw[yR];unfold Df yQ;constructor
 ·rintro⟨a,h2⟩;refine⟨a,λp c=>?_,?_⟩
  ·obtain⟨i,hi,rfl⟩:=List.getElem_of_mem c;have:=h2 i hi;rw[yS hi,E7 hi] at this;exact⟨this.1,this.2.1⟩
  ·have b:e8 fO (L.map (·.1)):=e8.of_next CY (λi hi=>by
    simp at hi;have:=(h2 (i+1) hi).2.2 an;rw[show i+1-1=i from rfl,yS hi,yS an] at this;simp;rw[Vq];unfold tS at this;unfold b1;simpa using this)
   unfold e8 at b⊢;exact sf.1 b
 ·rintro⟨a,h2,d⟩;refine⟨a,λi hi=>?_⟩;rw[yS hi,E7 hi];refine⟨(h2 _ (dl hi)).1,(h2 _ (dl hi)).2,λh0=>?_⟩;rw[yS (show i-1<L.length by omega)];have:=yw.1 d (i-1) i an hi an;rw[Vq] at this;unfold b1 at this;unfold tS;rw[this];rfl
def Ik (L:aZ):bH (dG L)=true:=by
 unfold dG;split
 ·assumption
 ·exact nN.2 ⟨av,av,.nil⟩
def nO (h:bH L=true):dG L=L:=by unfold dG;rw[ag h]
def afT (L:aZ):dG (dG L)=dG L:=nO (Ik L)
def V9 {l m:aZ} (h:qd l=ad m):tT l/\m=oB fU l:=by
 unfold qd at h;split at h
 ·rename_i k;exact⟨k,by injection h with h;exact h.symm⟩
 ·cases h
def Wa {l:aZ} (h:(l.map (·.1)).Nodup):l.Nodup:=List.Pairwise.imp (λ{x y} (a:x.1≠y.1) (e:x=y)=>a (by rw[e])) (sf.1 h)
def Wd {l m:aZ} (h:qd l=ad m):∀p,p∈m↔p∈l:=by
 intro p;rw[(V9 h).2,O3]
def We {l:aZ} (h:(l.map (·.1)).Nodup) {p q:ByteArray×ByteArray} (c:p∈l) (b:q∈l) (e:p.1=q.1):p=q:=by
 induction l with
 |nil=>cases c
 |cons a l d=>
  rw[sd,List.nodup_cons] at h;rcases ee.1 c with rfl|c
  ·rcases ee.1 b with rfl|b
   ·rfl
   ·exact ae (hM.2 ⟨q,b,e.symm⟩) h.1
  ·rcases ee.1 b with e'|b
   ·exact ae (show a.1∈l.map (·.1) from hM.2 ⟨p,c,e.trans (by rw[e'])⟩) h.1
   ·exact d h.2 c b
def Pt {l m:aZ} (h:qd l=ad m):bH m=true:=by
 obtain⟨⟨i,h2,g,h4⟩,e⟩:=V9 h;have b:=Wd h;rw[nN];refine⟨by rw[e,Vu];exact i,λp a=>⟨g p ((b p).1 a),h2 p ((b p).1 a)⟩,?_⟩;have c:e8 fU m:=e▸e8.oB Ij (Wa h4);have j:=c.nodup Ij;unfold e8 at c⊢;refine List.Pairwise.imp_of_mem ?_ (c.and j);intro p q a f d;exact afS d.1 (λe=>d.2 (We h4 ((b p).1 a) ((b q).1 f) e))
def afU (h:bH L=true):(L.map (·.1)).Nodup:=by
 have:=(nN.1 h).2.2;unfold e8 at this;exact sf.2 (this.imp λ{x y} a e=>by have a:fO x.1 y.1<0:=a;rw[show x.1=y.1 from e,CY.refl] at a;omega)
def afV {k v:ByteArray} (hn:(L.map (·.1)).Nodup):lP L k=ad v↔(k,v)∈L:=by
 unfold lP;constructor
 ·intro h;obtain⟨p,c,rfl⟩:=Option.map_eq_some_iff.1 h;have a:=List.find?_some c;have h2:=List.mem_of_find?_eq_some c;simp at a;rw[<-a];exact h2
 ·intro h;cases b:L.find? λp=>decide (p.1=k) with
  |none=>have:=List.find?_eq_none.1 b _ h;simp at this
  |some p=>
   have a:=List.find?_some b;have h2:=List.mem_of_find?_eq_some b;simp at a;have:=We hn h2 h a;rw[this];rfl
def afW {k v:ByteArray}:gD L k=ad v↔(k,v)∈dG L:=afV (afU (Ik L))
def afX {a b m:aZ} {k v:ByteArray} (h:so a b=ad m) (c:(k,v)∈dG b):gD m k=ad v:=by
 rw[afW,nO (Pt h),Wd h];exact kf.2 (.inr c)
def afY {a b m:aZ} (h:so a b=ad m):bH m=true:=Pt h
abbrev dC:=Int×Int
abbrev Key:=ByteArray×ByteArray
instance:Inhabited ByteArray:=⟨⟨#[]⟩⟩
structure cr where
 L:aZ
 S:List dC
 deriving Inhabited,DecidableEq
structure wU where
 n:ByteArray
 v:ByteArray
 neg:Bool
 deriving Inhabited,DecidableEq
structure iZ where
 n:ByteArray
 aU:List wU
 deriving Inhabited,DecidableEq
structure wV where
 s:iZ
 op:Int
 v:Int
 deriving Inhabited,DecidableEq
structure cv where
 n:ByteArray
 x:wV
 wait:Int
 keep:Int
 L:aZ
 deriving Inhabited,DecidableEq
structure cC where
 n:ByteArray
 br:Int
 off:Int
 R:List cv
 deriving Inhabited,DecidableEq
structure b8 where
 L:aZ
 h:im.Hd
 st:Int
 v:Int
structure cy where
 ao:List b8
 full:Int
structure eX where
 k:Key
 x:cy
structure cJ where
 L:aZ
 x:dC
 deriving Inhabited,DecidableEq
structure eQ where
 L:aZ
 t:Int
 deriving Inhabited,DecidableEq
structure na where
 L:aZ
 f:Bool
 t:Int
 k:Int
 x:Int
 deriving Inhabited,DecidableEq
structure fQ where
 N:List na
 d:Int
 l:Int
 deriving Inhabited,DecidableEq
structure Tok where
 k:Int
 p:Int
 s:ByteArray
 deriving Inhabited,DecidableEq
structure dX where
 c8:Int
 s:ByteArray
 L:aZ
 x:dC
 n:Int
 ok:Bool
 k:Key
 deriving Inhabited,DecidableEq
structure jE where
 e:Int
 n:Int
 ao:List b8
structure bx where
 F:List cC
 bo:Int
 St:List cr
 last:List Int
 tabs:List (List cy)
 bU:Int
 off:Int
 q:fQ
 told:List eQ
 A:List (List UInt8)
 dU:List UInt8×List UInt8
def fF:Kr (UInt8) where
 k:=1
 e:=5
 bI:=[]
 rel w B a vs:=vs=[J .u8 (a.toNat:Int)]
 pos:=by decide
 len:=by rintro w B a vs rfl;rfl
 one:=by
  rintro w B a vs rfl u hu
  simp only[ee,kg,or_false] at hu
  subst hu
  all_goals first|rfl
 keep:=λh _ _=>h
 al:=λh _=>h
 bt:=λh _=>h
def jF:Kr (Int) where
 k:=1
 e:=3
 bI:=[]
 rel w B a vs:=vs=[J I a]
 pos:=by decide
 len:=by rintro w B a vs rfl;rfl
 one:=by
  rintro w B a vs rfl u hu
  simp only[ee,kg,or_false] at hu
  subst hu
  all_goals first|rfl
 keep:=λh _ _=>h
 al:=λh _=>h
 bt:=λh _=>h
def bE:Kr (ByteArray×ByteArray) where
 k:=2
 e:=78
 bI:=[]
 rel w B a vs:=vs=[ap a.1,ap a.2]/\a.1.size<=9223372036854775807/\a.2.size<=9223372036854775807
 pos:=by decide
 len:=by rintro w B a vs⟨rfl,h0,h1⟩;rfl
 one:=by
  rintro w B a vs⟨rfl,h0,h1⟩ u hu
  simp only[ee,kg,or_false] at hu
  rcases hu with rfl|rfl
  all_goals first|rfl
 keep:=λh _ _=>h
 al:=λh _=>h
 bt:=λh _=>h
def ja:Kr (Int×Int) where
 k:=2
 e:=65
 bI:=[]
 rel w B a vs:=vs=[J I a.1,J I a.2]
 pos:=by decide
 len:=by rintro w B a vs rfl;rfl
 one:=by
  rintro w B a vs rfl u hu
  simp only[ee,kg,or_false] at hu
  rcases hu with rfl|rfl
  all_goals first|rfl
 keep:=λh _ _=>h
 al:=λh _=>h
 bt:=λh _=>h
def jG:Kr (wU) where
 k:=3
 e:=126
 bI:=[]
 rel w B a vs:=vs=[ap a.n,ap a.v,aG a.neg]/\a.n.size<=9223372036854775807/\a.v.size<=9223372036854775807
 pos:=by decide
 len:=by rintro w B a vs⟨rfl,h0,h1⟩;rfl
 one:=by
  rintro w B a vs⟨rfl,h0,h1⟩ u hu
  simp only[ee,kg,or_false] at hu
  rcases hu with rfl|rfl|rfl
  all_goals first|rfl
 keep:=λh _ _=>h
 al:=λh _=>h
 bt:=λh _=>h
def oD:Kr (ByteArray×ByteArray) where
 k:=2
 e:=67
 bI:=[]
 rel w B a vs:=vs=[ap a.1,ap a.2]/\a.1.size<=9223372036854775807/\a.2.size<=9223372036854775807
 pos:=by decide
 len:=by rintro w B a vs⟨rfl,h0,h1⟩;rfl
 one:=by
  rintro w B a vs⟨rfl,h0,h1⟩ u hu
  simp only[ee,kg,or_false] at hu
  rcases hu with rfl|rfl
  all_goals first|rfl
 keep:=λh _ _=>h
 al:=λh _=>h
 bt:=λh _=>h
def kM:Kr (Tok) where
 k:=3
 e:=176
 bI:=[]
 rel w B a vs:=vs=[J I a.k,J I a.p,ap a.s]/\a.s.size<=9223372036854775807
 pos:=by decide
 len:=by rintro w B a vs⟨rfl,h0⟩;rfl
 one:=by
  rintro w B a vs⟨rfl,h0⟩ u hu
  simp only[ee,kg,or_false] at hu
  rcases hu with rfl|rfl|rfl
  all_goals first|rfl
 keep:=λh _ _=>h
 al:=λh _=>h
 bt:=λh _=>h
def dO:Kr (cr) where
 k:=2
 e:=112
 bI:=[78,65]
 rel w B a vs:=∃v0 v1,vs=[v0,v1]/\Vs bE w B v0 a.L/\Vs ja w B v1 a.S
 pos:=by decide
 len:=by rintro w B a vs⟨v0,v1,rfl,h0,h1⟩;rfl
 one:=by
  rintro w B a vs⟨v0,v1,rfl,h0,h1⟩ u hu
  simp only[ee,kg,or_false] at hu
  rcases hu with rfl|rfl
  all_goals first|rfl|exact h0.j5|exact h1.j5
 keep:=by
  rintro w w' B S a vs⟨v0,v1,rfl,h0,h1⟩ hk ht
  exact⟨v0,v1,rfl,h0.keep hk (ht _ (by decide)) (λt h=>ht t ((by decide:∀t∈bE.bI,t∈[78,65]) t h)),h1.keep hk (ht _ (by decide)) (λt h=>ht t ((by decide:∀t∈ja.bI,t∈[78,65]) t h))⟩
 al:=by
  rintro w w' B a vs⟨v0,v1,rfl,h0,h1⟩ hk
  exact⟨v0,v1,rfl,h0.al hk,h1.al hk⟩
 bt:=by
  rintro w B B' a vs⟨v0,v1,rfl,h0,h1⟩ hB
  exact⟨v0,v1,rfl,h0.bt hB,h1.bt hB⟩
def lS:Kr (cv) where
 k:=8
 e:=51
 bI:=[126,78]
 rel w B a vs:=∃v2 v7,vs=[ap a.n,ap a.x.s.n,v2,J I a.x.op,J I a.x.v,J I a.wait,J I a.keep,v7]/\a.n.size<=9223372036854775807/\a.x.s.n.size<=9223372036854775807/\Vs jG w B v2 a.x.s.aU/\Vs bE w B v7 a.L
 pos:=by decide
 len:=by rintro w B a vs⟨v2,v7,rfl,h0,h1,h2,h3⟩;rfl
 one:=by
  rintro w B a vs⟨v2,v7,rfl,h0,h1,h2,h3⟩ u hu
  simp only[ee,kg,or_false] at hu
  rcases hu with rfl|rfl|rfl|rfl|rfl|rfl|rfl|rfl
  all_goals first|rfl|exact h2.j5|exact h3.j5
 keep:=by
  rintro w w' B S a vs⟨v2,v7,rfl,h0,h1,h2,h3⟩ hk ht
  exact⟨v2,v7,rfl,h0,h1,h2.keep hk (ht _ (by decide)) (λt h=>ht t ((by decide:∀t∈jG.bI,t∈[126,78]) t h)),h3.keep hk (ht _ (by decide)) (λt h=>ht t ((by decide:∀t∈bE.bI,t∈[126,78]) t h))⟩
 al:=by
  rintro w w' B a vs⟨v2,v7,rfl,h0,h1,h2,h3⟩ hk
  exact⟨v2,v7,rfl,h0,h1,h2.al hk,h3.al hk⟩
 bt:=by
  rintro w B B' a vs⟨v2,v7,rfl,h0,h1,h2,h3⟩ hB
  exact⟨v2,v7,rfl,h0,h1,h2.bt hB,h3.bt hB⟩
def fG:Kr (cC) where
 k:=4
 e:=43
 bI:=[51,126,78]
 rel w B a vs:=∃v3,vs=[ap a.n,J I a.br,J I a.off,v3]/\a.n.size<=9223372036854775807/\Vs lS w B v3 a.R
 pos:=by decide
 len:=by rintro w B a vs⟨v3,rfl,h0,h1⟩;rfl
 one:=by
  rintro w B a vs⟨v3,rfl,h0,h1⟩ u hu
  simp only[ee,kg,or_false] at hu
  rcases hu with rfl|rfl|rfl|rfl
  all_goals first|rfl|exact h1.j5
 keep:=by
  rintro w w' B S a vs⟨v3,rfl,h0,h1⟩ hk ht
  exact⟨v3,rfl,h0,h1.keep hk (ht _ (by decide)) (λt h=>ht t ((by decide:∀t∈lS.bI,t∈[51,126,78]) t h))⟩
 al:=by
  rintro w w' B a vs⟨v3,rfl,h0,h1⟩ hk
  exact⟨v3,rfl,h0,h1.al hk⟩
 bt:=by
  rintro w B B' a vs⟨v3,rfl,h0,h1⟩ hB
  exact⟨v3,rfl,h0,h1.bt hB⟩
def dV:Kr (b8) where
 k:=7
 e:=62
 bI:=[78]
 rel w B a vs:=∃v0,vs=[v0,aG a.h.on,J I a.h.dB,aG a.h.hit,J I a.h.eW,J I a.st,J I a.v]/\Vs bE w B v0 a.L
 pos:=by decide
 len:=by rintro w B a vs⟨v0,rfl,h0⟩;rfl
 one:=by
  rintro w B a vs⟨v0,rfl,h0⟩ u hu
  simp only[ee,kg,or_false] at hu
  rcases hu with rfl|rfl|rfl|rfl|rfl|rfl|rfl
  all_goals first|rfl|exact h0.j5
 keep:=by
  rintro w w' B S a vs⟨v0,rfl,h0⟩ hk ht
  exact⟨v0,rfl,h0.keep hk (ht _ (by decide)) (λt h=>ht t ((by decide:∀t∈bE.bI,t∈[78]) t h))⟩
 al:=by
  rintro w w' B a vs⟨v0,rfl,h0⟩ hk
  exact⟨v0,rfl,h0.al hk⟩
 bt:=by
  rintro w B B' a vs⟨v0,rfl,h0⟩ hB
  exact⟨v0,rfl,h0.bt hB⟩
def jb:Kr (cy) where
 k:=2
 e:=56
 bI:=[62,78]
 rel w B a vs:=∃v0,vs=[v0,J I a.full]/\Vs dV w B v0 a.ao
 pos:=by decide
 len:=by rintro w B a vs⟨v0,rfl,h0⟩;rfl
 one:=by
  rintro w B a vs⟨v0,rfl,h0⟩ u hu
  simp only[ee,kg,or_false] at hu
  rcases hu with rfl|rfl
  all_goals first|rfl|exact h0.j5
 keep:=by
  rintro w w' B S a vs⟨v0,rfl,h0⟩ hk ht
  exact⟨v0,rfl,h0.keep hk (ht _ (by decide)) (λt h=>ht t ((by decide:∀t∈dV.bI,t∈[62,78]) t h))⟩
 al:=by
  rintro w w' B a vs⟨v0,rfl,h0⟩ hk
  exact⟨v0,rfl,h0.al hk⟩
 bt:=by
  rintro w B B' a vs⟨v0,rfl,h0⟩ hB
  exact⟨v0,rfl,h0.bt hB⟩
def jH:Kr (eX) where
 k:=4
 e:=205
 bI:=[62,78]
 rel w B a vs:=∃v2,vs=[ap a.k.1,ap a.k.2,v2,J I a.x.full]/\a.k.1.size<=9223372036854775807/\a.k.2.size<=9223372036854775807/\Vs dV w B v2 a.x.ao
 pos:=by decide
 len:=by rintro w B a vs⟨v2,rfl,h0,h1,h2⟩;rfl
 one:=by
  rintro w B a vs⟨v2,rfl,h0,h1,h2⟩ u hu
  simp only[ee,kg,or_false] at hu
  rcases hu with rfl|rfl|rfl|rfl
  all_goals first|rfl|exact h2.j5
 keep:=by
  rintro w w' B S a vs⟨v2,rfl,h0,h1,h2⟩ hk ht
  exact⟨v2,rfl,h0,h1,h2.keep hk (ht _ (by decide)) (λt h=>ht t ((by decide:∀t∈dV.bI,t∈[62,78]) t h))⟩
 al:=by
  rintro w w' B a vs⟨v2,rfl,h0,h1,h2⟩ hk
  exact⟨v2,rfl,h0,h1,h2.al hk⟩
 bt:=by
  rintro w B B' a vs⟨v2,rfl,h0,h1,h2⟩ hB
  exact⟨v2,rfl,h0,h1,h2.bt hB⟩
def kN:Kr (cJ) where
 k:=3
 e:=286
 bI:=[78]
 rel w B a vs:=∃v0,vs=[v0,J I a.x.1,J I a.x.2]/\Vs bE w B v0 a.L
 pos:=by decide
 len:=by rintro w B a vs⟨v0,rfl,h0⟩;rfl
 one:=by
  rintro w B a vs⟨v0,rfl,h0⟩ u hu
  simp only[ee,kg,or_false] at hu
  rcases hu with rfl|rfl|rfl
  all_goals first|rfl|exact h0.j5
 keep:=by
  rintro w w' B S a vs⟨v0,rfl,h0⟩ hk ht
  exact⟨v0,rfl,h0.keep hk (ht _ (by decide)) (λt h=>ht t ((by decide:∀t∈bE.bI,t∈[78]) t h))⟩
 al:=by
  rintro w w' B a vs⟨v0,rfl,h0⟩ hk
  exact⟨v0,rfl,h0.al hk⟩
 bt:=by
  rintro w B B' a vs⟨v0,rfl,h0⟩ hB
  exact⟨v0,rfl,h0.bt hB⟩
def eR:Kr (eQ) where
 k:=2
 e:=119
 bI:=[78]
 rel w B a vs:=∃v0,vs=[v0,J I a.t]/\Vs bE w B v0 a.L
 pos:=by decide
 len:=by rintro w B a vs⟨v0,rfl,h0⟩;rfl
 one:=by
  rintro w B a vs⟨v0,rfl,h0⟩ u hu
  simp only[ee,kg,or_false] at hu
  rcases hu with rfl|rfl
  all_goals first|rfl|exact h0.j5
 keep:=by
  rintro w w' B S a vs⟨v0,rfl,h0⟩ hk ht
  exact⟨v0,rfl,h0.keep hk (ht _ (by decide)) (λt h=>ht t ((by decide:∀t∈bE.bI,t∈[78]) t h))⟩
 al:=by
  rintro w w' B a vs⟨v0,rfl,h0⟩ hk
  exact⟨v0,rfl,h0.al hk⟩
 bt:=by
  rintro w B B' a vs⟨v0,rfl,h0⟩ hB
  exact⟨v0,rfl,h0.bt hB⟩
def fV:Kr (na) where
 k:=5
 e:=117
 bI:=[78]
 rel w B a vs:=∃v0,vs=[v0,aG a.f,J I a.t,J I a.k,J I a.x]/\Vs bE w B v0 a.L
 pos:=by decide
 len:=by rintro w B a vs⟨v0,rfl,h0⟩;rfl
 one:=by
  rintro w B a vs⟨v0,rfl,h0⟩ u hu
  simp only[ee,kg,or_false] at hu
  rcases hu with rfl|rfl|rfl|rfl|rfl
  all_goals first|rfl|exact h0.j5
 keep:=by
  rintro w w' B S a vs⟨v0,rfl,h0⟩ hk ht
  exact⟨v0,rfl,h0.keep hk (ht _ (by decide)) (λt h=>ht t ((by decide:∀t∈bE.bI,t∈[78]) t h))⟩
 al:=by
  rintro w w' B a vs⟨v0,rfl,h0⟩ hk
  exact⟨v0,rfl,h0.al hk⟩
 bt:=by
  rintro w B B' a vs⟨v0,rfl,h0⟩ hB
  exact⟨v0,rfl,h0.bt hB⟩
def nc:Kr (dX) where
 k:=9
 e:=69
 bI:=[78]
 rel w B a vs:=∃v2,vs=[J I a.c8,ap a.s,v2,J I a.x.1,J I a.x.2,J I a.n,aG a.ok,ap a.k.1,ap a.k.2]/\a.s.size<=9223372036854775807/\Vs bE w B v2 a.L/\a.k.1.size<=9223372036854775807/\a.k.2.size<=9223372036854775807
 pos:=by decide
 len:=by rintro w B a vs⟨v2,rfl,h0,h1,h2,h3⟩;rfl
 one:=by
  rintro w B a vs⟨v2,rfl,h0,h1,h2,h3⟩ u hu
  simp only[ee,kg,or_false] at hu
  rcases hu with rfl|rfl|rfl|rfl|rfl|rfl|rfl|rfl|rfl
  all_goals first|rfl|exact h1.j5
 keep:=by
  rintro w w' B S a vs⟨v2,rfl,h0,h1,h2,h3⟩ hk ht
  exact⟨v2,rfl,h0,h1.keep hk (ht _ (by decide)) (λt h=>ht t ((by decide:∀t∈bE.bI,t∈[78]) t h)),h2,h3⟩
 al:=by
  rintro w w' B a vs⟨v2,rfl,h0,h1,h2,h3⟩ hk
  exact⟨v2,rfl,h0,h1.al hk,h2,h3⟩
 bt:=by
  rintro w B B' a vs⟨v2,rfl,h0,h1,h2,h3⟩ hB
  exact⟨v2,rfl,h0,h1.bt hB,h2,h3⟩
def Lx:Kr (jE) where
 k:=3
 e:=81
 bI:=[62,78]
 rel w B a vs:=∃v2,vs=[J I a.e,J I a.n,v2]/\Vs dV w B v2 a.ao
 pos:=by decide
 len:=by rintro w B a vs⟨v2,rfl,h0⟩;rfl
 one:=by
  rintro w B a vs⟨v2,rfl,h0⟩ u hu
  simp only[ee,kg,or_false] at hu
  rcases hu with rfl|rfl|rfl
  all_goals first|rfl|exact h0.j5
 keep:=by
  rintro w w' B S a vs⟨v2,rfl,h0⟩ hk ht
  exact⟨v2,rfl,h0.keep hk (ht _ (by decide)) (λt h=>ht t ((by decide:∀t∈dV.bI,t∈[62,78]) t h))⟩
 al:=by
  rintro w w' B a vs⟨v2,rfl,h0⟩ hk
  exact⟨v2,rfl,h0.al hk⟩
 bt:=by
  rintro w B B' a vs⟨v2,rfl,h0⟩ hB
  exact⟨v2,rfl,h0.bt hB⟩
def io:Kr (List cy) where
 k:=1
 e:=53
 bI:=[56,62,78]
 rel w B a vs:=∃v0,vs=[v0]/\Vs jb w B v0 a
 pos:=by decide
 len:=by rintro w B a vs⟨v0,rfl,h0⟩;rfl
 one:=by
  rintro w B a vs⟨v0,rfl,h0⟩ u hu
  simp only[ee,kg,or_false] at hu
  subst hu
  all_goals first|rfl|exact h0.j5
 keep:=by
  rintro w w' B S a vs⟨v0,rfl,h0⟩ hk ht
  exact⟨v0,rfl,h0.keep hk (ht _ (by decide)) (λt h=>ht t ((by decide:∀t∈jb.bI,t∈[56,62,78]) t h))⟩
 al:=by
  rintro w w' B a vs⟨v0,rfl,h0⟩ hk
  exact⟨v0,rfl,h0.al hk⟩
 bt:=by
  rintro w B B' a vs⟨v0,rfl,h0⟩ hB
  exact⟨v0,rfl,h0.bt hB⟩
def kl:Kr (List UInt8) where
 k:=1
 e:=34
 bI:=[5]
 rel w B a vs:=∃v0,vs=[v0]/\Vs fF w B v0 a
 pos:=by decide
 len:=by rintro w B a vs⟨v0,rfl,h0⟩;rfl
 one:=by
  rintro w B a vs⟨v0,rfl,h0⟩ u hu
  simp only[ee,kg,or_false] at hu
  subst hu
  all_goals first|rfl|exact h0.j5
 keep:=by
  rintro w w' B S a vs⟨v0,rfl,h0⟩ hk ht
  exact⟨v0,rfl,h0.keep hk (ht _ (by decide)) (λt h=>ht t ((by decide:∀t∈fF.bI,t∈[5]) t h))⟩
 al:=by
  rintro w w' B a vs⟨v0,rfl,h0⟩ hk
  exact⟨v0,rfl,h0.al hk⟩
 bt:=by
  rintro w B B' a vs⟨v0,rfl,h0⟩ hB
  exact⟨v0,rfl,h0.bt hB⟩
def sp:Kr (List (ByteArray×ByteArray)) where
 k:=1
 e:=49
 bI:=[78]
 rel w B a vs:=∃v0,vs=[v0]/\Vs bE w B v0 a
 pos:=by decide
 len:=by rintro w B a vs⟨v0,rfl,h0⟩;rfl
 one:=by
  rintro w B a vs⟨v0,rfl,h0⟩ u hu
  simp only[ee,kg,or_false] at hu
  subst hu
  all_goals first|rfl|exact h0.j5
 keep:=by
  rintro w w' B S a vs⟨v0,rfl,h0⟩ hk ht
  exact⟨v0,rfl,h0.keep hk (ht _ (by decide)) (λt h=>ht t ((by decide:∀t∈bE.bI,t∈[78]) t h))⟩
 al:=by
  rintro w w' B a vs⟨v0,rfl,h0⟩ hk
  exact⟨v0,rfl,h0.al hk⟩
 bt:=by
  rintro w B B' a vs⟨v0,rfl,h0⟩ hB
  exact⟨v0,rfl,h0.bt hB⟩
def KMn:Kr (bx) where
 k:=14
 e:=39
 bI:=[43,51,126,78,112,65,3,53,56,62,117,119,34,5]
 rel w B a vs:=∃v0 v2 v3 v4 v7 a1 a7 v12 aV,vs=[v0,J I a.bo,v2,v3,v4,J I a.bU,J I a.off,v7,J I a.q.d,J I a.q.l,a1,a7,v12,aV]/\Vs fG w B v0 a.F/\Vs dO w B v2 a.St/\Vs jF w B v3 a.last/\Vs io w B v4 a.tabs/\Vs fV w B v7 a.q.N/\Vs eR w B a1 a.told/\Vs kl w B a7 a.A/\Vs fF w B v12 a.dU.1/\Vs fF w B aV a.dU.2
 pos:=by decide
 len:=by rintro w B a vs⟨v0,v2,v3,v4,v7,a1,a7,v12,aV,rfl,h0,h1,h2,h3,h4,h5,h6,h7,h8⟩;rfl
 one:=by
  rintro w B a vs⟨v0,v2,v3,v4,v7,a1,a7,v12,aV,rfl,h0,h1,h2,h3,h4,h5,h6,h7,h8⟩ u hu
  simp only[ee,kg,or_false] at hu
  rcases hu with rfl|rfl|rfl|rfl|rfl|rfl|rfl|rfl|rfl|rfl|rfl|rfl|rfl|rfl
  all_goals first|rfl|exact h0.j5|exact h1.j5|exact h2.j5|exact h3.j5|exact h4.j5|exact h5.j5|exact h6.j5|exact h7.j5|exact h8.j5
 keep:=by
  rintro w w' B S a vs⟨v0,v2,v3,v4,v7,a1,a7,v12,aV,rfl,h0,h1,h2,h3,h4,h5,h6,h7,h8⟩ hk ht
  exact⟨v0,v2,v3,v4,v7,a1,a7,v12,aV,rfl,h0.keep hk (ht _ (by decide)) (λt h=>ht t ((by decide:∀t∈fG.bI,t∈[43,51,126,78,112,65,3,53,56,62,117,119,34,5]) t h)),h1.keep hk (ht _ (by decide)) (λt h=>ht t ((by decide:∀t∈dO.bI,t∈[43,51,126,78,112,65,3,53,56,62,117,119,34,5]) t h)),h2.keep hk (ht _ (by decide)) (λt h=>ht t ((by decide:∀t∈jF.bI,t∈[43,51,126,78,112,65,3,53,56,62,117,119,34,5]) t h)),h3.keep hk (ht _ (by decide)) (λt h=>ht t ((by decide:∀t∈io.bI,t∈[43,51,126,78,112,65,3,53,56,62,117,119,34,5]) t h)),h4.keep hk (ht _ (by decide)) (λt h=>ht t ((by decide:∀t∈fV.bI,t∈[43,51,126,78,112,65,3,53,56,62,117,119,34,5]) t h)),h5.keep hk (ht _ (by decide)) (λt h=>ht t ((by decide:∀t∈eR.bI,t∈[43,51,126,78,112,65,3,53,56,62,117,119,34,5]) t h)),h6.keep hk (ht _ (by decide)) (λt h=>ht t ((by decide:∀t∈kl.bI,t∈[43,51,126,78,112,65,3,53,56,62,117,119,34,5]) t h)),h7.keep hk (ht _ (by decide)) (λt h=>ht t ((by decide:∀t∈fF.bI,t∈[43,51,126,78,112,65,3,53,56,62,117,119,34,5]) t h)),h8.keep hk (ht _ (by decide)) (λt h=>ht t ((by decide:∀t∈fF.bI,t∈[43,51,126,78,112,65,3,53,56,62,117,119,34,5]) t h))⟩
 al:=by
  rintro w w' B a vs⟨v0,v2,v3,v4,v7,a1,a7,v12,aV,rfl,h0,h1,h2,h3,h4,h5,h6,h7,h8⟩ hk
  exact⟨v0,v2,v3,v4,v7,a1,a7,v12,aV,rfl,h0.al hk,h1.al hk,h2.al hk,h3.al hk,h4.al hk,h5.al hk,h6.al hk,h7.al hk,h8.al hk⟩
 bt:=by
  rintro w B B' a vs⟨v0,v2,v3,v4,v7,a1,a7,v12,aV,rfl,h0,h1,h2,h3,h4,h5,h6,h7,h8⟩ hB
  exact⟨v0,v2,v3,v4,v7,a1,a7,v12,aV,rfl,h0.bt hB,h1.bt hB,h2.bt hB,h3.bt hB,h4.bt hB,h5.bt hB,h6.bt hB,h7.bt hB,h8.bt hB⟩
variable {α:Type} {n:Nat}
section
open im (dT)
def cI:Nat->(Nat->Bool)->Bool
 |0,_=>true
 |n+1,P=>cI n P&&P n
def mw {P:Nat->Bool}:∀{n:Nat},cI n P=true↔∀i,i<n->P i=true
 |0=>by simp[cI]
 |n+1=>by
  rw[cI,b9,mw]
  constructor
  ·rintro⟨a,h2⟩ i hi;rcases gy i n with h|h
   ·exact a i h
   ·obtain rfl:i=n:=by omega
    exact h2
  ·intro h;exact⟨λi hi=>h i an,h n an⟩
def tV {P:Nat->Bool} (a:k<n) (h:P k=false):cI n P=false:=by
 cases e:cI n P
 ·rfl
 ·rw[mw.1 e k a] at h;cases h
def wW {P:Nat->Bool} (h:cI k P=true) (a:P k=true):cI (k+1) P=true:=by rw[cI,h,a];rfl
def dr [Inhabited α] {l:List α} {i:Nat} (h:i<l.length):l.getD i default=l[i]:=by rw[dd,cR h];rfl
def j6 (v:Int):Bool:=decide (-9007199254740992<=v)&&decide (v<=9007199254740992)
def sT (s:List dC) (i:Nat):Int:=(s.getD i default).1
def sV (s:List dC) (i:Nat):Int:=(s.getD i default).2
def AP (s:List dC) (i:Nat):Bool:=dT (sT s i)&&j6 (sV s i)&&(i==0||decide (sT s (i-1)<sT s i))
def km (s:List dC):Bool:=decide (s.length<=64)&&cI s.length (AP s)
def pw (s:List dC):List dC:=if km s=true then s else[]
def yT (s:List dC) (x:dC):Option (List dC):=let s:=pw s;if(dT x.1&&j6 x.2)=false then M else if(decide (s≠[])&&decide (x.1<=sT s (s.length-1)))=true then M else ad ((if 64<=s.length then s.drop 1 else s)++[x])
def atR (t w:Int):List dC->Option dC
 |[]=>M
 |x::l=>if t<x.1 then atR t w l else if t-x.1<w then ad x else M
def AQ (s:List dC) (t w:Int):Option dC:=atR t w (pw s).reverse
def Px (s:List dC):km (pw s)=true:=by
 unfold pw;split
 ·assumption
 ·rfl
def Ip {s:List dC}:km s=true↔s.length<=64/\(∀x∈s,dT x.1=true/\j6 x.2=true)/\s.Pairwise λx y=>x.1<y.1:=by
 unfold km;rw[b9,decide_eq_true_eq,mw];refine and_congr_right λk=>?_;constructor
 ·intro h;have a:∀i (hi:i<s.length),dT (s[i]).1=true/\j6 (s[i]).2=true/\(0<i->(s[i-1]).1<(s[i]).1):=by
   intro i hi;have:=h i hi;unfold AP sT sV at this;rw[dr hi,dr (show i-1<s.length by omega)] at this;simp at this;exact⟨this.1.1,this.1.2,λh0=>this.2.resolve_left an⟩
  refine⟨λx f=>?_,?_⟩
  ·obtain⟨i,hi,rfl⟩:=List.getElem_of_mem f;exact⟨(a i hi).1,(a i hi).2.1⟩
  ·rw[yw];intro i j hi hj g;have:∀d,i+d<s.length->∀(c:i+d<s.length),0<d->(s[i]).1<(s[i+d]).1:=by
    intro d;induction d with
    |zero=>intro _ _ h;omega
    |succ d e=>
     intro h2 c _;have b:=(a (i+(d+1)) c).2.2 an;simp only[show i+(d+1)-1=i+d by omega] at b;rcases kJ d with rfl|h0
     ·exact b
     ·exact Int.lt_trans (e an an h0) b
   have:=this (j-i) an an an;simpa only[show i+(j-i)=j by omega] using this
 ·rintro⟨a,h2⟩ i hi;unfold AP sT sV;rw[dr hi,dr (show i-1<s.length by omega)];have:=a _ (dl hi);simp[this];rcases kJ i with h0|h0
  ·exact .inl h0
  ·exact .inr (yw.1 h2 (i-1) i an hi an)
def af4 {s m:List dC} {x:dC} (h:yT s x=ad m):km m=true/\m≠[]:=by
 unfold yT at h;have hs:=Ip.1 (Px s);generalize pw s=c at h hs;simp only at h;split at h
 ·cases h
 ·rename_i l;split at h
  ·cases h
  ·rename_i h2;injection h with h;subst h;refine⟨?_,av⟩;have k:∀y,y∈(if 64<=c.length then c.drop 1 else c)->y∈c:=by
    intro y a;split at a
    ·exact List.mem_of_mem_drop a
    ·exact a
   rw[Ip];refine⟨?_,?_,?_⟩
   ·rw[b2];split
    ·rw[oy];simp;omega
    ·simp;omega
   ·intro y a;rcases kf.1 a with a|a
    ·exact hs.2.1 y (k y a)
    ·rw[bD] at a;subst a;simpa using l
   ·rw[List.pairwise_append];refine⟨?_,av,?_⟩
    ·split
     ·exact hs.2.2.sublist (List.drop_sublist _ _)
     ·exact hs.2.2
    ·intro y a z f;rw[bD] at f;subst f;have d:=k y a;have j:c≠[]:=λe=>by rw[e] at d;cases d
     have b:sT c (c.length-1)<z.1:=by
      have:=h2;simp[j] at this;omega
     have g:c.length-1<c.length:=ai (List.length_pos_iff.2 j);unfold sT at b;rw[dr g] at b;obtain⟨i,hi,rfl⟩:=List.getElem_of_mem d;rcases gy i (c.length-1) with h4|h4
     ·exact Int.lt_trans (yw.1 hs.2.2 i (c.length-1) hi g h4) b
     ·have:i=c.length-1:=by omega
      subst this;exact b
def iH:ByteArray:=⟨#[95,95,110,97,109,101,95,95]⟩
noncomputable def qe (l:aZ):Bool:=(gD l iH).isSome&&bH l
def sL (st:List cr) (i:Nat):aZ:=(st.getD i default).L
def sS (st:List cr) (i:Nat):List dC:=(st.getD i default).S
noncomputable def AR (st:List cr) (i:Nat):Bool:=qe (sL st i)&&!decide (sS st i=[])&&km (sS st i)&&(i==0||decide (cmpL (sL st (i-1)) (sL st i)<0))
noncomputable def eY (st:List cr):Bool:=decide (st.length<=32)&&cI st.length (AR st)
noncomputable def gS (st:List cr):List cr:=if eY st=true then st else[]
def ahead (l:aZ) (st:List cr):Nat:=(st.takeWhile λy=>decide (fu y.L l<0)).length
def sq (l:aZ) (st:List cr):Bool:=decide (ahead l st<st.length)&&decide (sL st (ahead l st)=l)
noncomputable def ra (st:List cr) (l:aZ) (x:dC):Option (List cr):=let st:=gS st;if qe l=false then M else match yT (if sq l st=true then sS st (ahead l st) else[]) x with
 |none=>M
 |some s=>
  if sq l st=true then ad (st.set (ahead l st) ⟨sL st (ahead l st),s⟩)
  else if 32<=st.length then M
  else ad (st.take (ahead l st)++⟨l,s⟩::st.drop (ahead l st))
def Ir (st:List cr):Prop:=st.Pairwise λx y=>fu x.L y.L<0
def vm {st:List cr}:eY st=true↔st.length<=32/\(∀y∈st,qe y.L=true/\y.S≠[]/\km y.S=true)/\Ir st:=by
 unfold eY;rw[b9,decide_eq_true_eq,mw];refine and_congr_right λf=>?_;have b:∀y:cr,qe y.L=true->dG y.L=y.L:=λy h=>nO (by unfold qe at h;simp at h;exact h.2);constructor
 ·intro h;have a:∀i (hi:i<st.length),(qe (st[i]).L=true/\(st[i]).S≠[]/\km (st[i]).S=true)/\(0<i->cmpL (st[i-1]).L (st[i]).L<0):=by
   intro i hi;have:=h i hi;unfold AR sL sS at this;rw[dr hi,dr (show i-1<st.length by omega)] at this;simp at this;exact⟨⟨this.1.1.1,this.1.1.2,this.1.2⟩,λh0=>this.2.resolve_left an⟩
  refine⟨λx d=>?_,?_⟩
  ·obtain⟨i,hi,rfl⟩:=List.getElem_of_mem d;exact(a i hi).1
  ·have e:e8 fu (st.map (·.L)):=e8.of_next lg (λi hi=>by
    simp at hi;have:=(a (i+1) hi).2 an;simp only[Nat.add_sub_cancel] at this;unfold cmpL at this;rw[b _ (a i an).1.1,b _ (a (i+1) hi).1.1] at this;simpa using this)
   exact sf.1 e
 ·rintro⟨a,h2⟩ i hi;unfold AR sL sS;rw[dr hi,dr (show i-1<st.length by omega)];have c:=a _ (dl hi);simp[c];rcases kJ i with h0|h0
  ·exact .inl h0
  ·right;unfold cmpL;rw[b _ c.1,b _ (a _ (dl (show i-1<st.length by omega))).1];exact yw.1 h2 (i-1) i an hi an
def Fb (st:List cr):eY (gS st)=true:=by
 unfold gS;split
 ·assumption
 ·exact vm.2 ⟨av,av,.nil⟩
def Pz {l:aZ} (h:qe l=true):bH l=true:=by unfold qe at h;simp at h;exact h.2
def PA (l:aZ) (st:List cr):ahead l st<=st.length:=(List.takeWhile_sublist _).length_le
def Wn (l:aZ) (st:List cr):st.take (ahead l st)=st.takeWhile λy=>decide (fu y.L l<0):=by
 unfold ahead;exact(List.prefix_iff_eq_take.1 (List.takeWhile_prefix _)).symm
def Wo {l:aZ} {st:List cr}:∀y∈st.take (ahead l st),fu y.L l<0:=by
 rw[Wn];intro y a;have:=List.all_takeWhile (p:=λy:cr=>decide (fu y.L l<0)) (l:=st);simpa using List.all_eq_true.1 this y a
def PB {l:aZ} {st:List cr} (h:ahead l st<st.length):¬fu (st[ahead l st]).L l<0:=by
 intro c;have b:st.drop (ahead l st)=st.dropWhile λy=>decide (fu y.L l<0):=by
  have:=List.takeWhile_append_dropWhile (p:=λy:cr=>decide (fu y.L l<0)) (l:=st);have h2:=List.take_append_drop (ahead l st) st;rw[Wn] at h2;exact List.append_cancel_left (h2.trans this.symm)
 have a:=List.head?_dropWhile_not (λy:cr=>decide (fu y.L l<0)) st;rw[<-b,List.head?_drop,cR h] at a;simp[c] at a
def Wq {l:aZ} {st:List cr} (a:Ir st) {i:Nat} (hi:i<st.length) (h:ahead l st<i):0<fu (st[i]).L l:=by
 have b:=PB (l:=l) (st:=st) an;have h2:=yw.1 a (ahead l st) i an hi h;rcases lg.AG (st[ahead l st]'an).L l with k|k|k
 ·exact ae k b
 ·rw[k] at h2;exact lg.gt.2 h2
 ·exact lg.gt.2 (lg.trans k h2)
end
variable {gen:Int}
section
open arA
def rz (gen:Int) (p:List UInt8):Prop:=(0<=gen/\gen<=9007199254740992)/\(bu gen.toNat++p).length<=65536
open Classical in
noncomputable def ky (gen:Int) (p:List UInt8):List UInt8:=if rz gen p then kK (bu gen.toNat++p) else[]
def DW {p:List UInt8} (h:rz gen p):ky gen p=kK (bu gen.toNat++p):=ag h
def MC {p:List UInt8} (h:¬rz gen p):ky gen p=[]:=af h
def aif (p:List UInt8) (h:p.length<=65536):C8 [] p=kK p:=by unfold C8;rw[ag h];rfl
def Rf (gen:Int) (ao:Option aX) (n cap:Nat) (p:List UInt8) (w:aB) (hn:n<=70368744177664) (Z:Bs w w.heap.size ao n p):aN aH 86 #[J I gen,O ao n cap] w λe w'=>(∃v,e=aQ v/\bQ w' w.heap.size 5 v (ky gen p))/\aS w.heap.size w w':=by
 have z:=E Z;clear Z;by_cases h0:gen<0
 ·have a:=E (MC (gen:=gen) (p:=p) (λh=>by have:=h.1.1;omega));go_enter func86,ntmps86;go_wp2;go_ret;exact⟨⟨_,rfl,by rw[a.A];exact bQ.bh _ _ _⟩,bk _ _⟩
 by_cases B:9007199254740992<gen
 ·have a:=E (MC (gen:=gen) (p:=p) (λh=>by have:=h.1.2;omega));go_enter func86,ntmps86;go_wp2;go_ret;exact⟨⟨_,rfl,by rw[a.A];exact bQ.bh _ _ _⟩,bk _ _⟩
 have d0:decide (gen<0)=false:=aa h0;have d1:decide (9007199254740992<gen)=false:=aa B;have F:=E (show mm [] gen=bu gen.toNat from by unfold mm;rw[ag ⟨an,an⟩];rfl);have u:=E (ph 8 gen.toNat (pj _ an));go_enter func86,ntmps86;go_wp2_with fail;refine(yF M 0 0 [] gen _ an (Bs.bh _ _ _)).ah ?_;rintro e t⟨⟨v,rfl,m⟩,f⟩;rw[F.A] at m;have s:=E m;clear m;have l:=E (z.A.aL f);clear d0 d1;go_wp2_with ((refine yD au (.tmp 13) (.tmp 14) 34 au w.heap.size 5 underlying34 pm v (bu gen.toNat) au s.A t.heap.size ao n cap p au l.A (ai u.A) f.size ?_));intro v2 H i D r;have c:=f.grown D f.size (λg e=>s.A.nI g e);obtain⟨A2,j,c2,rfl,d,L,y⟩:=i.bs;rw[VO] at y;have b:=d.len;by_cases h6:j<=65536
 ·have a:=E (DW (gen:=gen) (p:=p) ⟨⟨an,an⟩,by rw[b];exact h6⟩);have k:=E d;have o:=E b;clear i d b r;go_wp2_with fail;refine(Ph M 0 0 [] A2 j c2 (bu gen.toNat++p) _ an an (Bs.bh _ _ _) k.A).ah ?_;rintro e G⟨⟨v3,rfl,q⟩,C⟩;rw[aif _ (by rw[o.A];exact h6)] at q;go_wp2;go_ret;exact⟨⟨_,rfl,by rw[a.A];exact bQ.less q c.size⟩,c.trans (C.mono c.size)⟩
 ·have a:=E (MC (gen:=gen) (p:=p) (λh=>by have:=h.2;rw[b] at this;exact h6 this));have K:65536<j:=an;clear i d b r;go_wp2;go_ret;exact⟨⟨_,rfl,by rw[a.A];exact bQ.bh _ _ _⟩,c⟩
def iu (l:List UInt8):Option (Nat×List UInt8):=match kL l with
 |.ok (q,[])=>match e9 q with
  |.ok (g,p)=>if g<=9007199254740992 then ad (g,p) else M
  |.error _=>M
 |_=>M
def Rh (w':aB) (B:Nat) (e:Ending):Option (Nat×List UInt8)->Prop
 |some (g,p)=>∃ao n c,e=aQ (bn #[J I (g:Int),O ao n c,aG true])/\Bs w' B ao n p/\n<=c/\c<=9223372036854775807
 |none=>e=aQ (bn #[J I 0,O M 0 0,aG false])
def aih {l:List UInt8} {c:Nat} (h:kL l= .error c):c≠0:=by
 unfold kL at h;cases hg:e9 l with
 |error c'=>rw[hg] at h;cases h;exact wN hg
 |ok a=>
  obtain⟨m,q⟩:=a;rw[hg] at h;simp only at h;split at h
  ·cases h;omega
  ·split at h
   ·cases h;omega
   ·split at h
    ·cases h
    ·cases h;omega
theorem Y0 (h:P:=by
 go_wp2;refine bF (v:=bn #[J I 0,O M 0 0,aG false]) arx rfl ⟨?_,?_⟩
 ·rw[hE.A];rfl
 ·exact aW
 ):P:=h
theorem Y1 (h:P:=by
 go_wp2;refine bF (v:=bn #[J I 0,O M 0 0,aG false]) arx rfl ⟨?_,?_⟩
 ·rw[hE.A];rfl
 ·exact bN
 ):P:=h
def Ri (ao:Option aX) (n cap:Nat) (l:List UInt8) (w:aB) (hn:n<=9223372036854775807) (X:n<=cap) (S:cap<=9223372036854775807) (Z:Bs w w.heap.size ao n l):aN aH 125 #[O ao n cap] w λe w'=>Rh w' w.heap.size e (iu l)/\aS w.heap.size w w':=by
 have F:=E Z;clear Z;go_enter func125,ntmps125;go_wp2_with fail;refine(afx ao n cap l _ hn X S F.A).ah ?_;rintro e Y⟨m,aW⟩;cases hg:kL l with
 |error c=>
  have hE:=E (show iu l=M by unfold iu;rw[hg]);rw[hg] at m;obtain rfl:=m;have U:((c:Int)!=0)=true:=bne_iff_ne.2 (ai (aih hg));clear hg;exact Y0
 |ok Q=>
  obtain⟨q,r⟩:=Q;rw[hg] at m;obtain⟨A1,n1,c1,A2,D,c2,rfl,j,i,G,h2,h3,h4⟩:=m;have u:=E (show n1<=n by
   obtain⟨e,-⟩:=afB hg;have:=congrArg oz e;rw[F.A.len] at this;rw[<-j.len];unfold kK at this;simp at this;omega)
  by_cases f:D=0
  ·have N:r=[]:=sb (by rw[i.len,f]);subst N;have o:=E j;have s:=E hg;subst f;clear j i hg;go_wp2_with fail;refine(H7 A1 n1 c1 q _ (ai u.A) G h2 (o.A.bt aW.size)).ah ?_;rintro e L⟨rfl,H⟩;have bN:=aW.trans (H.mono aW.size);cases b:e9 q with
   |error c=>
    have hE:=E (show iu l=M by unfold iu;rw[s.A];simp only[b]);have U:((c:Int)!=0)=true:=bne_iff_ne.2 (ai (wN b));simp only[uZ];clear b;exact Y1
   |ok R=>
    obtain⟨g,p⟩:=R;obtain⟨d,-⟩:=C3 b;simp only[uZ];have C:n1-p.length+p.length=n1:=by have:=congrArg oz d;rw[b2,o.A.len] at this;omega
    have B:Bs L w.heap.size (cutAt A1 c1 (n1-p.length) 1) p.length p:=by
     have:=((o.A.al (H.mono aW.size))).lo (k:=n1-p.length) (cap:=c1) an G;have V:q.drop (n1-p.length)=p:=by
      have:=congrArg oz d;rw[b2,o.A.len] at this;rw[show n1-p.length=(bu g).length by omega,d,List.drop_left]
     rw[V,show n1-(n1-p.length)=p.length by omega] at this;exact this
    have z:=E B;clear B;have t:p.length<=c1-(n1-p.length):=an;have y:c1-(n1-p.length)<=9223372036854775807:=an;by_cases K:g<=9007199254740992
    ·have hE:=E (show iu l=ad (g,p) by unfold iu;rw[s.A];simp only[b];rw[ag K]);have W:decide (9007199254740992<g)=false:=aa an;clear b d C;generalize cutAt A1 c1 (n1-p.length) 1=A9 at z⊢;generalize c1-(n1-p.length)=c9 at t y⊢;generalize T:p.length=k at*;clear T;go_wp2;refine bF (v:=bn #[J I (g:Int),O A9 k c9,aG true]) arx rfl ⟨?_,?_⟩
     ·rw[hE.A];exact⟨A9,k,c9,rfl,z.A,t,y⟩
     ·exact bN
    ·have hE:=E (show iu l=M by unfold iu;rw[s.A];simp only[b];rw[af K]);have W:9007199254740992<g:=an;clear b d C;generalize cutAt A1 c1 (n1-p.length) 1=A9 at z⊢;generalize c1-(n1-p.length)=c9 at t y⊢;exact Y1
  ·have hE:=E (show iu l=M by
    unfold iu;rw[hg];cases r with
    |nil=>exact ae i.len.symm f
    |cons a r=>rfl)
   have eg:0<D:=an;clear j i hg f;exact Y0
end
variable {w W:aB} {a:bb} {o:bv} {t:bf} {Q:Exit->bb->aB->Prop} {ops:Array bv} {rest:List bv}
section
open arA
theorem Y2 (h:P:=by
 have:=(aI.new (w.alloc (aD #[O A0 n0 c0,O A1 n1 c1] 37)) 37 #[O M 0 0,O M 0 0]).al aW av;rwa[eO] at this;):P:=h
def aii (A0 A1:Option aX) (n0 c0 n1 c1:Nat) (gen n:Int) (ao:Option aX) (m cap:Nat) (p:List UInt8) (w:aB) (hn:m<=70368744177664) (Z:Bs w w.heap.size ao m p) (ho:ky gen p=[]):aN aH 85 #[aY #[O A0 n0 c0,O A1 n1 c1],J I gen,O ao m cap,J I n] w λe w'=>e=aQ (aY #[O A0 n0 c0,O A1 n1 c1])/\aS w.heap.size w w':=by
 have f:=E Z;clear Z;go_enter func85,ntmps85;go_wp2_with fail;refine(Rf gen ao m cap p _ hn (by
  have j:=f.A.sl.alloc (aO _) (aD #[O A0 n0 c0,O A1 n1 c1] 37);exact⟨f.A.len,(j.alloc av _).bt aw⟩)).ah ?_
 rintro e a⟨⟨v,rfl,c⟩,aW⟩;rw[ho] at c;have k:aS w.heap.size w a:=(((bk _ _).alloc (aO _) _).alloc av _).trans (aW.mono aw);have d:aI a w.heap.size 37 #[O A0 n0 c0,O A1 n1 c1]:=((aI.new w _ _).alloc _).al aW aw;have b:aI a (w.heap.size+1) 37 #[O M 0 0,O M 0 0]:=by
  exact Y2
 have k0:a.cell? (ab w.heap.size 0 M)=ad (O A0 n0 c0):=d.cell 0;have o:a.cell? (ab w.heap.size 1 M)=ad (O A1 n1 c1):=d.cell 1;have l:a.cell? ⟨w.heap.size+1,0,M⟩=ad (O M 0 0):=b.cell 0;have q1:a.cell? ⟨w.heap.size+1,1,M⟩=ad (O M 0 0):=b.cell 1;have q:=b.frozen;obtain⟨A2,i,c2,rfl,g,-,-⟩:=c.bs;obtain rfl:i=0:=g.len.symm;have e0:(a.setCell ⟨w.heap.size+1,0,M⟩ (O A0 n0 c0)).cell? ⟨w.heap.size+1,0,M⟩=ad (O A0 n0 c0):=(b.put 0 (O A0 n0 c0)).cell 0;have e1:((a.setCell ⟨w.heap.size+1,0,M⟩ (O A0 n0 c0)).setCell ⟨w.heap.size+1,1,M⟩ (O A1 n1 c1)).cell? ⟨w.heap.size+1,1,M⟩=ad (O A1 n1 c1):=((b.put 0 (O A0 n0 c0)).put 1 (O A1 n1 c1)).cell 1;clear c g aW d b;go_wp2;refine bF (v:=aY #[O A0 n0 c0,O A1 n1 c1]) arh rfl ⟨rfl,?_⟩;exact(k.setCell av _).setCell av _
def aij {P:cp} (z:o.guard=M) (d s:Operand) (n sT:bf) (ho:o.op= .call {callee:=.builtin .copy,args:=#[d,s],argTypes:=#[n,sT]}) (c:bf) (u:P.underlying n=ad (.slice c)) (C:(P.info? c).map (·.size)=ad 1) (g k b off f q:Nat) (m:a.eval d=O (ad (ab g 0 M)) k k) (hs:a.eval s=O (ad (ab b off M)) f q) (cur:Array aE) (t:bf) (hg:aI w g t cur) (p:cur.size=k) (B:Nat) (l:List UInt8) (Z:Bs w B (ad (ab b off M)) f l) (x:k<=f) (h:∀W,aI W g t ((l.take k).map ca).toArray->w.grownBy W (ad g)->wpList P ops Q rest (a.put o.dst (goInt k)) W):wpList P ops Q (o::rest) a w:=by
 have i:((l.take k).map ca).length=k:=by simp[Z.len];omega
 refine wpList_copy_own z d s n sT ho c u C g 0 k k (ab b off M) f q m hs cur t hg ((l.take k).map ca) ?_ ?_ ?_ (O7 _) ?_
 ·rw[i];simp[Nat.min_def];omega
 ·intro j v hv;have r:((ab b off M):aX).add j=⟨b,off+j,M⟩:=aqj;rw[r];exact Pb (Z.hi x) j v hv
 ·rw[i,p];omega
 ·have y:(cur.toList.take 0++((l.take k).map ca++cur.toList.drop (0+((l.take k).map ca).length))).toArray=((l.take k).map ca).toArray:=by
   have m:cur.toList.drop (0+((l.take k).map ca).length)=[]:=List.drop_of_length_le (by rw[i];simp[p]);rw[m];simp
  rw[y,i];refine h _ (aI.setRow hg _) ⟨rfl,rfl,rfl,arj,λj hj A=>?_⟩;simp only[World.setRow,yu];rw[af (λe=>A (by rw[e]))]
def aik {G:Nat} {l:List UInt8} (h:aI W G t (l.map ca).toArray) (b:l.length=k):Bs W W.heap.size (ad (ab G 0 M)) k l:=by
 refine⟨b,λ_=>⟨G,0,rfl,h.lt,λi hi=>?_⟩⟩;have a:i<(l.map ca).length:=by rw[p6,b];exact hi
 rw[ig,h.cell];have e:=VC _ i _ (cR a);rw[<-e];simpa using cR a
def ail (z:Int) (l:Nat):∃(b:Int) (k:Nat),(∀(a:Array bf) (t:bf) (W:aB),(Builtin.max_ a t #[J I z,J I 0]).run aH W= .ok (J I b) W)/\(∀(a:Array bf) (t:bf) (W:aB),(Builtin.min_ a t #[J I b,J I (l:Int)]).run aH W= .ok (J I (k:Int)) W)/\k=min z.toNat l:=by
 refine⟨max z 0,min z.toNat l,λa t W=>?_,λa t W=>?_,rfl⟩
 ·simp[Builtin.max_,Builtin.max2];split<;>omega
 ·simp[Builtin.min_,Builtin.min2];split<;>omega
theorem Y3 (h:P:=by
 have e:min n.toNat (ky (gen:Int) p).length=k:=by rw[eo.A,wQ];exact HK.A.symm
 rw[e,eo.A];exact aik (t:=5) (by rw[List.map_take];exact Y4.A) cx.A;):P:=h
def aim (A0 A1:Option aX) (n0 c0 n1 c1:Nat) (gen:Nat) (n:Int) (ao:Option aX) (m cap:Nat) (p:List UInt8) (w:aB) (hn:m<=70368744177664) (Z:Bs w w.heap.size ao m p) (ho:rz gen p):aN aH 85 #[aY #[O A0 n0 c0,O A1 n1 c1],J I (gen:Int),O ao m cap,J I n] w λe w'=>(∃G k,w.heap.size<=G/\k=min n.toNat (ky gen p).length/\Bs w' w'.heap.size (ad (ab G 0 M)) k ((ky gen p).take k)/\e=aQ (.agg (if gen % 2=0 then#[O (ad (ab G 0 M)) k k,O A1 n1 c1] else#[O A0 n0 c0,O (ad (ab G 0 M)) k k])))/\aS w.heap.size w w':=by
 have D:=E Z;clear Z;have l:=E (show 0<(ky gen p).length/\(ky gen p).length<=70000 from by
  rw[DW ho];have f:=ho.2;have h2:=Lm f;have h3:=E1 (bu (gen:Int).toNat++p).length;unfold kK;simp only[b2,Lo] at*;omega)
 go_enter func85,ntmps85;go_wp2_with fail;refine(Rf gen ao m cap p _ hn (by
  have f:=D.A.sl.alloc (aO _) (aD #[O A0 n0 c0,O A1 n1 c1] 37);exact⟨D.A.len,(f.alloc av _).bt aw⟩)).ah ?_
 rintro e a⟨⟨v,rfl,o⟩,aW⟩;generalize L:ky gen p=R at o l;have eo:=E L;clear L;have c:aS w.heap.size w a:=(((bk _ _).alloc (aO _) _).alloc av _).trans (aW.mono aw);have cG:w.heap.size+1<a.heap.size:=aqz;have z:aI a w.heap.size 37 #[O A0 n0 c0,O A1 n1 c1]:=((aI.new w _ _).alloc _).al aW aw;have S:aI a (w.heap.size+1) 37 #[O M 0 0,O M 0 0]:=by
  exact Y2
 rcases o.form with⟨-,h⟩|⟨g,oT,rfl,-,ck,lO,AK⟩
 ·exfalso;have:=l.A.1;rw[h] at this;simp at this
 have K:Bs a a.heap.size (ad (ab g 0 M)) R.length R:=by
  obtain⟨A',n',c',e,f,-,-⟩:=o.bs;cases e;exact f
 generalize wQ:R.length=d at*;obtain⟨m1,k,QN,W,H⟩:=ail n d;have C:=run_make_row' (P:=aH) 34 5 (J .u8 0) 1 underlying34 pm rfl I I k (ai l.A) (ai l.A);have aJ:((d:Int)==0)=false:=beq_false_of_ne (ai l.A);have U:=E K;have F:=E (show k<=d by omega);have HK:=E H;clear H;clear o K aW;generalize T:madeCells #[J .u8 0] k=FN at C;have Q:FN.size=k:=by rw[<-T];simp[size_madeCells]
 have B:=E Q;clear Q T;have k0:(a.alloc (aD FN 5)).cell? (ab w.heap.size 0 M)=ad (O A0 n0 c0):=(z.alloc _).cell 0;have bM:=E (show Bs (a.alloc (aD FN 5)) a.heap.size (ad (ab g 0 M)) d R from⟨U.A.len,U.A.sl.alloc (aO _) _⟩);go_wp2_with ((refine aij au (.tmp 24) (.tmp 25) 34 34 au 5 underlying34 AJ a.heap.size k g 0 d oT au au FN 5 (aI.new a _ _) B.A _ R bM.A F.A ?_));intro b u q;have fk:=E (show((R.take k).map ca).length=k by simp[wQ];have:=F.A;omega);have N:aS w.heap.size w b:=(c.alloc c.size _).grown q (by have:=c.size;simp;omega) (λg e=>by cases e;exact c.size);have y:=(z.alloc (aD FN 5)).grown q (λe=>by have:=tM e;omega);have j:=(S.alloc (aD FN 5)).grown q (λe=>by have:=tM e;omega);have de:a.heap.size<b.heap.size:=u.lt;clear C QN W k0 z S q;have cx:=E (show(R.take k).length=k by have:=fk.A;simpa using this);have V:=E u;clear u;have k0:b.cell? (ab w.heap.size 0 M)=ad (O A0 n0 c0):=y.cell 0;have k1:b.cell? (ab w.heap.size 1 M)=ad (O A1 n1 c1):=y.cell 1;have Y:=y.frozen;have q0:b.cell? ⟨w.heap.size+1,0,M⟩=ad (O M 0 0):=j.cell 0;have q1:b.cell? ⟨w.heap.size+1,1,M⟩=ad (O M 0 0):=j.cell 1;have f0:=j.frozen;by_cases r:gen % 2=0
 ·have X:(gen:Int) % 2=0:=by omega
  have s:=E r;clear r;have Y4:=E (((V.A.bT (p:=(ab w.heap.size 0 M)) (show a.heap.size≠w.heap.size by omega) (O (ad (ab a.heap.size 0 M)) k k)).bT (p:=⟨w.heap.size+1,0,M⟩) (show a.heap.size≠w.heap.size+1 by omega) (O (ad (ab a.heap.size 0 M)) k k)).bT (p:=⟨w.heap.size+1,1,M⟩) (show a.heap.size≠w.heap.size+1 by omega) (O A1 n1 c1));have i:=j.bT (p:=(ab w.heap.size 0 M)) av (O (ad (ab a.heap.size 0 M)) k k);have e0:((b.setCell (ab w.heap.size 0 M) (O (ad (ab a.heap.size 0 M)) k k)).setCell ⟨w.heap.size+1,0,M⟩ (O (ad (ab a.heap.size 0 M)) k k)).cell? ⟨w.heap.size+1,0,M⟩=ad (O (ad (ab a.heap.size 0 M)) k k):=(i.put 0 (O (ad (ab a.heap.size 0 M)) k k)).cell 0;have e1:(((b.setCell (ab w.heap.size 0 M) (O (ad (ab a.heap.size 0 M)) k k)).setCell ⟨w.heap.size+1,0,M⟩ (O (ad (ab a.heap.size 0 M)) k k)).setCell ⟨w.heap.size+1,1,M⟩ (O A1 n1 c1)).cell? ⟨w.heap.size+1,1,M⟩=ad (O A1 n1 c1):=((i.put 0 (O (ad (ab a.heap.size 0 M)) k k)).put 1 (O A1 n1 c1)).cell 1;go_wp2;refine bF (v:=aY #[O (ad (ab a.heap.size 0 M)) k k,O A1 n1 c1]) arh rfl ⟨⟨a.heap.size,c.size,?_,?_⟩,?_⟩
  ·exact Y3
  ·have e:min n.toNat (ky (gen:Int) p).length=k:=by rw[eo.A,wQ];exact HK.A.symm
   rw[e]
  ·exact((N.setCell (aO _) _).setCell av _).setCell av _
 ·have X:(gen:Int) % 2=1:=by omega
  have s:=E r;clear r;have Y4:=E (((V.A.bT (p:=(ab w.heap.size 1 M)) (show a.heap.size≠w.heap.size by omega) (O (ad (ab a.heap.size 0 M)) k k)).bT (p:=⟨w.heap.size+1,0,M⟩) (show a.heap.size≠w.heap.size+1 by omega) (O A0 n0 c0)).bT (p:=⟨w.heap.size+1,1,M⟩) (show a.heap.size≠w.heap.size+1 by omega) (O (ad (ab a.heap.size 0 M)) k k));have i:=j.bT (p:=(ab w.heap.size 1 M)) av (O (ad (ab a.heap.size 0 M)) k k);have e0:((b.setCell (ab w.heap.size 1 M) (O (ad (ab a.heap.size 0 M)) k k)).setCell ⟨w.heap.size+1,0,M⟩ (O A0 n0 c0)).cell? ⟨w.heap.size+1,0,M⟩=ad (O A0 n0 c0):=(i.put 0 (O A0 n0 c0)).cell 0;have e1:(((b.setCell (ab w.heap.size 1 M) (O (ad (ab a.heap.size 0 M)) k k)).setCell ⟨w.heap.size+1,0,M⟩ (O A0 n0 c0)).setCell ⟨w.heap.size+1,1,M⟩ (O (ad (ab a.heap.size 0 M)) k k)).cell? ⟨w.heap.size+1,1,M⟩=ad (O (ad (ab a.heap.size 0 M)) k k):=((i.put 0 (O A0 n0 c0)).put 1 (O (ad (ab a.heap.size 0 M)) k k)).cell 1;go_wp2;refine bF (v:=aY #[O A0 n0 c0,O (ad (ab a.heap.size 0 M)) k k]) arh rfl ⟨⟨a.heap.size,c.size,?_,?_⟩,?_⟩
  ·exact Y3
  ·have e:min n.toNat (ky (gen:Int) p).length=k:=by rw[eo.A,wQ];exact HK.A.symm
   rw[e]
  ·exact((N.setCell (aO _) _).setCell av _).setCell av _
end
variable {B g:Nat} {w' cT:aB} {s0 s1:List UInt8}
section
open arA
def gI (i:Nat) (l:List UInt8):Option (Nat×List UInt8):=match iu l with
 |some (g,p)=>if g % 2=i then ad (g,p) else M
 |none=>M
def later (a b:Option (Nat×List UInt8)):Option (Nat×List UInt8):=match a,b with
 |none,b=>b
 |some x,M=>ad x
 |some x,ad y=>if x.1<y.1 then ad y else ad x
def pC (s0 s1:List UInt8):Option (Nat×List UInt8):=later (gI 0 s0) (gI 1 s1)
def ME (w':aB) (B:Nat) (x y z:aE):Option (Nat×List UInt8)->Prop
 |none=>x=J I 0/\y=O M 0 0/\z=aG false
 |some (g,p)=>x=J I (g:Int)/\(∃ao n c,y=O ao n c/\Bs w' B ao n p/\n<=c/\c<=9223372036854775807)/\z=aG true
def rB (s0 s1:List UInt8):Nat->Option (Nat×List UInt8)
 |0=>M
 |1=>gI 0 s0
 |_=>pC s0 s1
def ME.al {x y z:aE} {o:Option (Nat×List UInt8)} (h:ME w' B x y z o) (Z:aS B w' cT):ME cT B x y z o:=by
 cases o with
 |none=>exact h
 |some a=>
  obtain⟨g,p⟩:=a;obtain⟨e,⟨ao,n,c,h2,d,h4⟩,b⟩:=h;exact⟨e,⟨ao,n,c,h2,d.al Z,h4⟩,b⟩
theorem Rk (h:P:=by
 go_wp2;go_roundw;case rel=>exact⟨2,an,by go_num,by rw[hE.A];exact⟨rfl,⟨A8,n8,kb,rfl,HP8.A,h8,nu⟩,rfl⟩,bN⟩
 case measure=>simp[intOf]
 ):P:=h
theorem Y6 (h:P:=by
 go_wp2;go_roundw;case rel=>exact⟨2,an,by go_num,aq4,bN⟩
 case measure=>simp[intOf]
 ):P:=h
theorem Y7 (h:P:=by
 go_wp2;go_roundw;case rel=>exact⟨1,an,by go_num,by rw[hE.A];exact⟨rfl,rfl,rfl⟩,bN⟩
 case measure=>simp[intOf]
 ):P:=h
theorem Y8 (h:P:=by
 go_wp2;go_roundw;case rel=>exact⟨2,an,by go_num,by rw[hE.A];exact⟨rfl,rfl,rfl⟩,bN⟩
 case measure=>simp[intOf]
 ):P:=h
def Y9 (A0 A1:Option aX) (n0 c0 n1 c1:Nat) (s0 s1:List UInt8) (w:aB) (R:n0<=9223372036854775807) (D:n1<=9223372036854775807) (U:n0<=c0) (F:n1<=c1) (Q:c0<=9223372036854775807) (B:c1<=9223372036854775807) (cN:Bs w w.heap.size A0 n0 s0) (H:Bs w w.heap.size A1 n1 s1):aN aH 87 #[aY #[O A0 n0 c0,O A1 n1 c1]] w λe w'=>Rh w' w'.heap.size e (pC s0 s1)/\aS w.heap.size w w':=by
 have X:=E cN;clear cN;have L:=E H;clear H;have K:=aI.new w 37 #[O A0 n0 c0,O A1 n1 c1];have k0:(w.alloc (aD #[O A0 n0 c0,O A1 n1 c1] 37)).cell? (ab w.heap.size 0 M)=ad (O A0 n0 c0):=K.cell 0;have Y:(w.alloc (aD #[O A0 n0 c0,O A1 n1 c1] 37)).cell? (ab w.heap.size 1 M)=ad (O A1 n1 c1):=K.cell 1;clear K;have T:∀W,(mX 35 (aY #[O A0 n0 c0,O A1 n1 c1]) (J I 0)).run aH W= .ok (O A0 n0 c0) W:=λW=>by kernel_rfl
 have S:∀W,(mX 35 (aY #[O A0 n0 c0,O A1 n1 c1]) (J I 1)).run aH W= .ok (O A1 n1 c1) W:=λW=>by kernel_rfl
 go_enter func87,ntmps87;go_wp2;go_loopw [5,6,7,15] (λx y z i wr=>∃k:Nat,k<=2/\i=J I k/\ME wr wr.heap.size x y z (rB s0 s1 k)/\aS w.heap.size w wr) (λ_ _ _ i _=>2-(intOf i).toNat);case atStart=>exact⟨0,an,rfl,⟨rfl,rfl,rfl⟩,(bk _ _).alloc (aO _) _⟩
 case round=>
  obtain⟨k,Z,rfl,d,hB⟩:=hrel;by_cases aK:k<2
  ·rcases(show k=0\/k=1 by omega) with rfl|rfl
   ·obtain⟨rfl,rfl,rfl⟩:=d;go_wp2_with fail;refine(Ri A0 n0 c0 s0 _ R U Q (X.A.aL hB)).ah ?_;rintro e A⟨b,f⟩;have bN:=hB.trans (f.mono hB.size);cases a:iu s0 with
    |none=>
     have hE:=E (show rB s0 s1 1=M by show gI 0 s0=M;unfold gI;rw[a]);rw[a] at b;obtain rfl:=b;clear a;exact Y7
    |some l=>
     obtain⟨g,p⟩:=l;rw[a] at b;obtain⟨A9,n9,c9,rfl,j,h1,h2⟩:=b;have HP:=E (j.bt f.size);clear j;by_cases hg:g % 2=0
     ·have hE:=E (show rB s0 s1 1=ad (g,p) by show gI 0 s0=_;unfold gI;rw[a];simp[hg]);have o:((g:Int) % 2!=0)=false:=by have:(g:Int) % 2=0:=an;simp[this]
      have q:=E hg;clear a hg;go_wp2;go_roundw;case rel=>exact⟨1,an,by go_num,aq4,bN⟩
      case measure=>simp[intOf]
     ·have hE:=E (show rB s0 s1 1=M by show gI 0 s0=_;unfold gI;rw[a];simp[hg]);have o:((g:Int) % 2!=0)=true:=bne_iff_ne.2 an;have q:=E hg;clear a hg;exact Y7
   ·have C:rB s0 s1 1=gI 0 s0:=rfl;have G:rB s0 s1 2=later (gI 0 s0) (gI 1 s1):=rfl;rw[C] at d;have m:=E G;clear C G;cases ho:gI 0 s0 with
    |none=>
     rw[ho] at d;have c:=E ho;clear ho;obtain⟨rfl,rfl,rfl⟩:=d;go_wp2_with fail;refine(Ri A1 n1 c1 s1 _ D F B (L.A.aL hB)).ah ?_;rintro e A⟨b,f⟩;have bN:=hB.trans (f.mono hB.size);cases a:iu s1 with
     |none=>
      have hE:=E (show rB s0 s1 2=M by rw[m.A,c.A];show gI 1 s1=M;unfold gI;rw[a]);rw[a] at b;obtain rfl:=b;clear a;exact Y8
     |some l=>
      obtain⟨g,p⟩:=l;rw[a] at b;obtain⟨A9,n9,c9,rfl,j,h1,h2⟩:=b;have HP:=E (j.bt f.size);clear j;by_cases hg:g % 2=1
      ·have hE:=E (show rB s0 s1 2=ad (g,p) by rw[m.A,c.A];show gI 1 s1=_;unfold gI;rw[a];simp[hg]);have o:((g:Int) % 2!=1)=false:=by have:(g:Int) % 2=1:=an;simp[this]
       have q:=E hg;clear a hg;exact Y6
      ·have hE:=E (show rB s0 s1 2=M by rw[m.A,c.A];show gI 1 s1=_;unfold gI;rw[a];simp[hg]);have o:((g:Int) % 2!=1)=true:=bne_iff_ne.2 an;have q:=E hg;clear a hg;exact Y8
    |some u=>
     obtain⟨n,t⟩:=u;rw[ho] at d;have c:=E ho;clear ho;obtain⟨rfl,⟨A8,n8,kb,rfl,r,h8,nu⟩,rfl⟩:=d;go_wp2_with fail;refine(Ri A1 n1 c1 s1 _ D F B (L.A.aL hB)).ah ?_;rintro e A⟨b,f⟩;have bN:=hB.trans (f.mono hB.size);have HP8:=E ((r.al f).bt f.size);clear r;cases a:iu s1 with
     |none=>
      have hE:=E (show rB s0 s1 2=ad (n,t) by rw[m.A,c.A];have:gI 1 s1=M:=(by unfold gI;rw[a]);rw[this];rfl);rw[a] at b;obtain rfl:=b;clear a;exact Rk
     |some l=>
      obtain⟨g,p⟩:=l;rw[a] at b;obtain⟨A9,n9,c9,rfl,j,h1,h2⟩:=b;have HP:=E (j.bt f.size);clear j;by_cases hg:g % 2=1
      ·have N:=E (show gI 1 s1=ad (g,p) by unfold gI;rw[a];simp[hg]);have o:((g:Int) % 2!=1)=false:=by have:(g:Int) % 2=1:=an;simp[this]
       have q:=E hg;clear a hg;by_cases s:n<g
       ·have hE:=E (show rB s0 s1 2=ad (g,p) by rw[m.A,c.A,N.A];simp[later,s]);exact Y6
       ·have hE:=E (show rB s0 s1 2=ad (n,t) by rw[m.A,c.A,N.A];simp[later,s]);have V:decide (n<g)=false:=aa s;exact Rk
      ·have hE:=E (show rB s0 s1 2=ad (n,t) by rw[m.A,c.A];have:gI 1 s1=M:=(by unfold gI;rw[a];simp[hg]);rw[this];rfl);have o:((g:Int) % 2!=1)=true:=bne_iff_ne.2 an;have q:=E hg;clear a hg;exact Rk
  ·obtain rfl:k=2:=by omega
   have hs:rB s0 s1 2=pC s0 s1:=rfl;rw[hs] at d;clear hs;cases ho:pC s0 s1 with
   |none=>
    rw[ho] at d;obtain⟨rfl,rfl,rfl⟩:=d;have c:=E ho;clear ho;go_wp2;refine bF (v:=bn #[J I 0,O M 0 0,aG false]) (by simp[bz,results87,go_sem]) rfl ⟨?_,?_⟩
    ·rw[c.A];rfl
    ·exact hB
   |some l=>
    obtain⟨g,p⟩:=l;rw[ho] at d;obtain⟨rfl,⟨A8,n8,kb,rfl,r,h8,nu⟩,rfl⟩:=d;have c:=E ho;clear ho;have HP:=E r;clear r;go_wp2;refine bF (v:=bn #[J I (g:Int),O A8 n8 kb,aG true]) (by simp[bz,results87,go_sem]) rfl ⟨?_,?_⟩
    ·rw[c.A];exact⟨A8,n8,kb,rfl,HP.A,h8,nu⟩
    ·exact hB
def jw (s0 s1:List UInt8):Nat:=match pC s0 s1 with
 |none=>0
 |some (g,_)=>g+1
def aio {p:List UInt8} (h:pC s0 s1=ad (g,p)):g<=9007199254740992:=by
 have b:∀l g p,iu l=ad (g,p)->g<=9007199254740992:=by
  intro l g p h;unfold iu at h;split at h
  ·split at h
   ·split at h
    ·cases h;assumption
    ·cases h
   ·cases h
  ·cases h
 have ho:∀i l g p,gI i l=ad (g,p)->g<=9007199254740992:=by
  intro i l g p h;unfold gI at h;split at h
  ·rename_i g' c h';split at h
   ·cases h;exact b _ _ _ h'
   ·cases h
  ·cases h
 unfold pC later at h;split at h
 ·exact ho _ _ _ _ h
 ·rename_i a h2;cases h;exact ho _ _ _ _ a
 ·rename_i a h2;split at h
  ·cases h;exact ho _ _ _ _ h2
  ·cases h;exact ho _ _ _ _ a
def aip (A0 A1:Option aX) (n0 c0 n1 c1:Nat) (s0 s1:List UInt8) (w:aB) (j:n0<=9223372036854775807) (n:n1<=9223372036854775807) (m:n0<=c0) (o:n1<=c1) (i:c0<=9223372036854775807) (l:c1<=9223372036854775807) (cN:Bs w w.heap.size A0 n0 s0) (f:Bs w w.heap.size A1 n1 s1):aN aH 82 #[aY #[O A0 n0 c0,O A1 n1 c1]] w λe w'=>e=aQ (J I (jw s0 s1:Nat))/\aS w.heap.size w w':=by
 have c:aS w.heap.size w (w.alloc (aD #[O A0 n0 c0,O A1 n1 c1] 37)):=(bk _ _).alloc (aO _) _;have r:=E (cN.aL c);clear cN;have q:=E (f.aL c);clear f;have K:=aI.new w 37 #[O A0 n0 c0,O A1 n1 c1];have k0:(w.alloc (aD #[O A0 n0 c0,O A1 n1 c1] 37)).cell? (ab w.heap.size 0 M)=ad (O A0 n0 c0):=K.cell 0;have u:(w.alloc (aD #[O A0 n0 c0,O A1 n1 c1] 37)).cell? (ab w.heap.size 1 M)=ad (O A1 n1 c1):=K.cell 1;clear K;go_enter func82,ntmps82;go_wp2_with fail;refine(Y9 A0 A1 n0 c0 n1 c1 s0 s1 _ j n m o i l r.A q.A).ah ?_;rintro e s⟨b,Z⟩;have hB:=c.trans (Z.mono c.size);cases a:pC s0 s1 with
 |none=>
  have d:=E (show jw s0 s1=0 by unfold jw;rw[a]);rw[a] at b;obtain rfl:=b;clear a;go_wp2;go_ret;exact⟨by rw[d.A];rfl,hB⟩
 |some h=>
  obtain⟨g,p⟩:=h;have d:=E (show jw s0 s1=g+1 by unfold jw;rw[a]);have k:=aio a;rw[a] at b;obtain⟨x,t,v,rfl,-,-,-⟩:=b;clear a;go_wp2;go_ret;exact⟨by rw[d.A];rfl,hB⟩
end
section
open arA
def Za:∀(f n i aT k:Nat),n<128^(f+1)->k<(bu n).length->lN (f+1) i aT ((bu n).take k)= .error 3
 |f,n,i,aT,0,h,hk=>by simp[lN]
 |f,n,i,aT,k+1,h,hk=>by
  by_cases b:n<128
  ·rw[yC b] at hk;simp at hk
  ·rw[CZ b] at hk⊢;have c:∃a,f=a+1:=by
    cases f with
    |zero=>simp at h;omega
    |succ a=>exact⟨a,rfl⟩
   obtain⟨a,rfl⟩:=c;have d:=Nat.mod_lt n (show 0<128 by omega);have e:(fN (n % 128+128)).toNat=n % 128+128:=UInt8.toNat_ofNat_of_lt' ark;simp only[List.take_succ_cons,lN,e];rw[ag an];exact Za a (n/128) (i+1) _ k arv (am hk)
def aiq (h:n<=1152921504606846976) (a:k<(bu n).length):e9 ((bu n).take k)= .error 3:=Za 8 n 0 0 k (pj n h) a
def air (q:List UInt8) (b:q.length<=65536) (k:Nat) (d:k<(kK q).length):kL ((kK q).take k)= .error 3:=by
 unfold kL;have a:kK q=bu q.length++(q++ki (sum (gB q))):=by unfold kK;rw[mV]
 by_cases h:k<(bu q.length).length
 ·have e:(kK q).take k=(bu q.length).take k:=by rw[a,List.take_append_of_le_length an]
  rw[e,aiq an h]
 ·have e:(kK q).take k=bu q.length++(q++ki (sum (gB q))).take (k-(bu q.length).length):=by
   rw[a,List.take_append,List.take_of_length_le an]
  have c:(kK q).length=(bu q.length).length+q.length+4:=by rw[a];simp[Lo];omega
  rw[e,C0 _ _ an];simp only;rw[af an,ag (by rw[tH];omega)]
def Zb (g:Nat) (p:List UInt8) (hg:g<=9007199254740992) (a:(bu g++p).length<=65536):iu (kK (bu g++p))=ad (g,p):=by
 unfold iu;have:=afA (bu g++p) [] a;rw[List.append_nil] at this;rw[this];simp only;rw[C0 g p an];simp only;rw[ag hg]
def ais {l:List UInt8} {c:Nat} (h:kL l= .error c):iu l=M:=by unfold iu;rw[h]
end
variable {j:Nat}
def mH (c:Nat):Bool:=c==32||c==9||c==13||c==10
def zn (c:Nat):Bool:=(decide (97<=c)&&decide (c<=122))||(decide (65<=c)&&decide (c<=90))||c==95
def l0 (c:Nat):Bool:=decide (48<=c)&&decide (c<=57)
def Plain (s:ByteArray):Prop:=∀k,k<s.size->dp s k≠34/\dp s k≠35
structure ib (P:Nat->Bool) (s:ByteArray) (i j:Nat):Prop where
 le:i<=j
 hi:j<=s.size
 on:∀k,i<=k->k<j->P (dp s k)=true
 off:j<s.size->P (dp s j)=false
def ib.q9 {P:Nat->Bool} {s:ByteArray} (h:ib P s i j) (h2:ib P s i k):j=k:=by
 rcases Nat.lt_trichotomy j k with e|e|e
 ·have a:=h2.on j h.le e;rw[h.off (ai h2.hi)] at a;cases a
 ·exact e
 ·have a:=h.on k h2.le e;rw[h2.off (ai h.hi)] at a;cases a
def ib.refl {P:Nat->Bool} {s:ByteArray} (h:i<=s.size) (ho:i<s.size->P (dp s i)=false):ib P s i i:=⟨aO _,h,λk a h2=>by omega,ho⟩
def uu (c:Nat):Bool:=c==123||c==125||c==40||c==41||c==44||c==58||c==59||c==61||c==60||c==62
def eqs (c:Nat):Bool:=c==61||c==33||c==60||c==62
def gJ (c:Nat) (bt:Bool) (d:Nat):Int×Nat:=if zn c=true then(1,0) else if l0 c=true then(2,0) else if(c==45&&bt&&l0 d)=true then(2,0) else if c=34 then(3,0) else if(eqs c&&bt&&(d==61))=true then(4,2) else if uu c=true then(4,1) else(0,0)
def gW (s:ByteArray) (i:Nat):Int×Nat:=gJ (dp s i) (decide (i+1<s.size)) (dp s (i+1))
def rH (pt:Bool) (c:Nat):Bool:=zn c||l0 c||(pt&&c==46)
def One (s:ByteArray) (i:Nat) (k:Int) (n:Nat):Prop:=(gW s i).1=k/\((k=4/\n=(gW s i).2)\/((k=1\/k=2)/\ib (rH (decide (k=2))) s (i+1) (i+n)))
inductive mI (s:ByteArray):Nat->List Tok->Prop|start {j:Nat}:ib mH s 0 j->mI s j []|step {i j n:Nat} {k:Int} {t:List Tok}:mI s i t->i<s.size->One s i k n->ib mH s (i+n) j->mI s j (t++[⟨k,i,s.extract i (i+n)⟩])
def zo (P:Nat->Bool) (s:ByteArray):Nat->Nat->Nat
 |0,i=>i
 |n+1,i=>if i<s.size then if P (dp s i)=true then zo P s n (i+1) else i else i
def MO (P:Nat->Bool) (s:ByteArray):∀(n i:Nat),i<=s.size->s.size<=i+n->ib P s i (zo P s n i)
 |0,i,h1,h2=>ib.refl h1 (λh=>by omega)
 |n+1,i,h1,h2=>by
  unfold zo
  by_cases hi:i<s.size
  ·rw[ag hi];by_cases a:P (dp s i)=true
   ·rw[ag a];have:=MO P s n (i+1) hi an;refine⟨ai this.le,this.hi,λk b h4=>?_,this.off⟩;by_cases e:k=i
    ·rw[e];exact a
    ·exact this.on k an h4
   ·rw[af a];exact ib.refl h1 (λ_=>by simpa using a)
  ·rw[af hi];exact ib.refl h1 (λh=>ae h hi)
def FW (s:ByteArray) (st:Nat×List Tok):Option (Nat×List Tok):=if st.1<s.size then let b:=gW s st.1;if b.1=0 then M else if b.1=3 then M else let n:=if b.1=4 then b.2 else zo (rH (decide (b.1=2))) s s.size (st.1+1)-st.1;ad (zo mH s s.size (st.1+n),st.2++[⟨b.1,st.1,s.extract st.1 (st.1+n)⟩]) else M
def gK (s:ByteArray):Nat->Option (Nat×List Tok)
 |0=>ad (zo mH s s.size 0,[])
 |n+1=>(gK s n).bind (FW s)
def One.le {s:ByteArray} {k:Int} (hi:i<s.size) (h:One s i k n):i+n<=s.size/\1<=n:=by
 obtain⟨c,h2|h2⟩:=h
 ·rw[h2.2];have a:=c.trans h2.1;unfold gW gJ at a⊢;split at a
  ·simp at a
  split at a
  ·simp at a
  split at a
  ·simp at a
  split at a
  ·simp at a
  rename_i e j g f;rw[af e,af j,af g,af f];split at a
  ·rename_i b;simp at b;simp[b];omega
  ·rename_i b;split at a
   ·rename_i d;simp[b,d];omega
   ·simp at a
 ·exact⟨h2.2.hi,ai h2.2.le⟩
def ZH {s:ByteArray} {t:List Tok} (h:mI s i t):∃n,gK s n=ad (i,t):=by
 induction h with
 |start h=>exact⟨0,by rw[gK,h.q9 (MO mH s s.size 0 (bV _) an)]⟩
 |@step i j n k t h hi ho hu ih=>
  obtain⟨m,b⟩:=ih;refine⟨m+1,?_⟩;have d:=ho.le hi;obtain⟨c,h2⟩:=ho;rw[gK,b,Option.bind_some,FW,ag hi];simp only[c];have e:¬k=0:=by rcases h2 with h2|h2<;>omega
  have a:¬k=3:=by rcases h2 with h2|h2<;>omega
  rw[af e,af a];have hn:(if k=4 then(gW s i).2 else zo (rH (decide (k=2))) s s.size (i+1)-i)=n:=by
   rcases h2 with h2|h2
   ·rw[ag h2.1,h2.2]
   ·rw[af an,<-h2.2.q9 (MO _ s s.size (i+1) an an)];omega
  rw[hn,hu.q9 (MO mH s s.size (i+n) d.1 an)]
def ai0 {s:ByteArray} {m:Nat} {t:List Tok} (h:gK s m=ad (i,t)) (hi:s.size<=i):∀{n:Nat} {j:Nat} {u:List Tok},gK s n=ad (j,u)->s.size<=j->n=m:=by
 have stop:∀{a:Nat} {x:Nat} {v:List Tok},gK s a=ad (x,v)->s.size<=x->∀d,gK s (a+d+1)=M:=by
  intro a x v f c d;induction d with
  |zero=>rw[Nat.add_zero,gK,f,Option.bind_some,FW,af (am c)]
  |succ d b=>rw[show a+(d+1)+1=(a+d+1)+1 from rfl,gK,b];rfl
 intro n j u hn hj;rcases Nat.lt_trichotomy n m with e|e|e
 ·have:=stop hn hj (m-n-1);rw[show n+(m-n-1)+1=m by omega,h] at this;cases this
 ·exact e
 ·have:=stop h hi (n-m-1);rw[show m+(n-m-1)+1=n by omega,hn] at this;cases this
def ai1 {s:ByteArray} {m:Nat} {t u:List Tok} (h:gK s m=ad (i,t)) (hi:s.size<=i) (h2:mI s j u) (hj:s.size<=j):j=i/\u=t:=by
 obtain⟨n,hn⟩:=ZH h2;obtain rfl:=ai0 h hi hn hj;rw[h] at hn;cases hn;exact⟨rfl,rfl⟩
variable {v:aE}
section
open arA
structure Dk (w:aB) (v:aE) (s0 s1:List UInt8):Prop where
 A:∃A0 n0 c0 A1 n1 c1,v=aY #[O A0 n0 c0,O A1 n1 c1]/\Bs w w.heap.size A0 n0 s0/\Bs w w.heap.size A1 n1 s1/\(n0<=c0/\c0<=9223372036854775807/\n0<=9223372036854775807)/\(n1<=c1/\c1<=9223372036854775807/\n1<=9223372036854775807)
def Dk.aL (h:Dk w v s0 s1) (Z:aS w.heap.size w w'):Dk w' v s0 s1:=by
 obtain⟨A0,n0,c0,A1,n1,c1,rfl,h0,a,r⟩:=h.A;exact⟨A0,n0,c0,A1,n1,c1,rfl,h0.aL Z,a.aL Z,r⟩
def Dk.empty (w:aB):Dk w (aY #[O M 0 0,O M 0 0]) [] []:=⟨M,0,0,M,0,0,rfl,Bs.bh _ _ _,Bs.bh _ _ _,⟨an,an,an⟩,⟨an,an,an⟩⟩
noncomputable def zw (s0:List UInt8) (g:Nat) (p:List UInt8) (n:Int):List UInt8:=if g % 2=0 then(ky g p).take n.toNat else s0
noncomputable def zx (s1:List UInt8) (g:Nat) (p:List UInt8) (n:Int):List UInt8:=if g % 2=0 then s1 else(ky g p).take n.toNat
def aj4 {p:List UInt8} (ho:rz gen p):0<(ky gen p).length/\(ky gen p).length<=70000:=by
 rw[DW ho];have a:=ho.2;have h2:=Lm a;have b:=E1 (bu gen.toNat++p).length;unfold kK;simp only[b2,Lo] at*;omega
def aj5 (l:List UInt8) (n:Nat):l.take (min n l.length)=l.take n:=by
 rw[List.take_eq_take_iff];omega
def aj6 (v:aE) (s0 s1:List UInt8) (gen:Nat) (n:Int) (ao:Option aX) (m cap:Nat) (p:List UInt8) (w:aB) (i:Dk w v s0 s1) (hn:m<=70368744177664) (Z:Bs w w.heap.size ao m p) (ho:rz gen p):aN aH 85 #[v,J I (gen:Int),O ao m cap,J I n] w λe w'=>(∃d,e=aQ d/\Dk w' d (zw s0 gen p n) (zx s1 gen p n))/\aS w.heap.size w w':=by
 obtain⟨A0,n0,c0,A1,n1,c1,rfl,h0,j,g,r1⟩:=i.A;refine(aim A0 A1 n0 c0 n1 c1 gen n ao m cap p w hn Z ho).ah ?_;rintro e w'⟨⟨G,k,-,f,c,rfl⟩,hB⟩;refine⟨⟨_,rfl,?_⟩,hB⟩;have hs:=aj4 ho;rw[f,aj5] at c;rw[<-f] at c;have b:Bs w' w'.heap.size (ad (ab G 0 M)) k ((ky gen p).take n.toNat):=c;unfold zw zx;by_cases a:gen % 2=0
 ·rw[ag a,ag a,ag a];exact⟨_,_,_,_,_,_,rfl,b,j.aL hB,⟨an,an,an⟩,r1⟩
 ·rw[af a,af a,af a];exact⟨_,_,_,_,_,_,rfl,h0.aL hB,b,g,⟨an,an,an⟩⟩
def aj7 (v:aE) (s0 s1:List UInt8) (w:aB) (b:Dk w v s0 s1):aN aH 87 #[v] w λe w'=>Rh w' w'.heap.size e (pC s0 s1)/\aS w.heap.size w w':=by
 obtain⟨A0,n0,c0,A1,n1,c1,rfl,h0,c,a,r1⟩:=b.A;exact Y9 A0 A1 n0 c0 n1 c1 s0 s1 w a.2.2 r1.2.2 a.1 r1.1 a.2.1 r1.2.1 h0 c
def aj8 (v:aE) (s0 s1:List UInt8) (w:aB) (b:Dk w v s0 s1):aN aH 82 #[v] w λe w'=>e=aQ (J I (jw s0 s1:Nat))/\aS w.heap.size w w':=by
 obtain⟨A0,n0,c0,A1,n1,c1,rfl,h0,c,a,r1⟩:=b.A;exact aip A0 A1 n0 c0 n1 c1 s0 s1 w a.2.2 r1.2.2 a.1 r1.1 a.2.1 r1.2.1 h0 c
def aI.two (w:aB) (T:bf) (d c a b:aE):aI (((w.alloc (aD #[d,c] T)).setCell (ab w.heap.size 0 M) a).setCell (ab w.heap.size 1 M) b) w.heap.size T #[a,b]:=((aI.new w T #[d,c]).put 0 a).put 1 b
def aS.two (w:aB) (T:bf) (d c a b:aE):aS w.heap.size w (((w.alloc (aD #[d,c] T)).setCell (ab w.heap.size 0 M) a).setCell (ab w.heap.size 1 M) b):=(((bk _ _).alloc (aO _) _).setCell (aO _) _).setCell (aO _) _
end
variable {ao:Option aX} {wr:aB} {us:List aE}
def j9 (a b:ByteArray):(a.toList==b.toList)=decide (a=b):=by
 by_cases h:a=b
 ·subst h;simp
 ·have:a.toList≠b.toList:=λe=>h (Vo e);simp[h,this]
def WI (h:Rs bE w B L us):∀i,i<L.length->us[i*2]?=ad (ap (nm L i))/\us[i*2+1]?=ad (ap (vl L i))/\(nm L i).size<=9223372036854775807/\(vl L i).size<=9223372036854775807:=by
 intro i hi;obtain⟨vs,⟨rfl,b,h2⟩,a⟩:=h.get i hi;rw[yS hi,E7 hi];exact⟨a 0 _ rfl,a 1 _ rfl,b,h2⟩
def Rw.hN (h:Rw bE w B ao n L):fm w w.heap.size ao n L:=by
 obtain⟨us,a,d⟩:=h.A;have f:=h.len;refine⟨f,λhn=>?_,λi hi=>?_⟩
 ·obtain⟨b,off,e,Z,c⟩:=d.sink (by show 0<n*2;omega);refine⟨b,off,e,Z,λi hi=>?_⟩;obtain⟨j,h2,_⟩:=WI a i an;have k:us.length=L.length*2:=a.len;refine⟨(c (i*2) (by show _<n*2;omega)).trans ?_,?_⟩
  ·simp only[dd,j];rfl
  ·rw[Nat.add_assoc,c (i*2+1) (by show _<n*2;omega)];simp only[dd,h2];rfl
 ·obtain⟨_,_,g⟩:=WI a i an;exact g
def Rs.PO:∀(L:aZ),(∀p∈L,p.1.size<=9223372036854775807/\p.2.size<=9223372036854775807)->Rs bE w B L (L.flatMap λp=>[ap p.1,ap p.2])
 |[],_=>.nil
 |p::L,h=>.cons ⟨rfl,(h p av).1,(h p av).2⟩ (Rs.PO L λq a=>h q (by simp[a]))
def agm (L:aZ):∀i,i<L.length->(L.flatMap λp:ByteArray×ByteArray=>[ap p.1,ap p.2])[i*2]?=ad (ap (nm L i))/\(L.flatMap λp:ByteArray×ByteArray=>[ap p.1,ap p.2])[i*2+1]?=ad (ap (vl L i)):=by
 induction L with
 |nil=>intro i hi;simp at hi
 |cons p L a=>
  intro i hi;cases i with
  |zero=>exact⟨rfl,rfl⟩
  |succ i=>
   have:=a i (am hi);rw[show(i+1)*2=i*2+1+1 by omega];exact this
def fm.WJ (h:fm w B ao n L):Rw bE w B ao n L:=by
 have d:=h.len;refine⟨d,_,Rs.PO L λp c=>?_,TS.Lt λhn=>?_⟩
 ·obtain⟨i,hi,rfl⟩:=List.getElem_of_mem c;have:=h.sz i an;rwa[yS hi,E7 hi] at this
 ·have l:0<n*2:=hn;obtain⟨b,off,e,Z,f⟩:=h.q an;refine⟨b,off,e,Z,λi hi=>?_⟩;have k:i<n*2:=hi;obtain⟨j,h2⟩:=agm L (i/2) an;obtain⟨g,h4⟩:=f (i/2) an;rcases Nat.mod_two_eq_zero_or_one i with h0|h0
  ·have a:i=i/2*2:=by omega
   rw[a,g];simp only[dd,j];rfl
  ·have a:i=i/2*2+1:=by omega
   rw[a,<-Nat.add_assoc,h4];simp only[dd,h2];rfl
def Vs.hN (h:Vs bE w B v L):∃ao c,v=O ao L.length c/\fm w w.heap.size ao L.length L/\L.length<=c/\c<=9223372036854775807:=by
 obtain⟨ao,n,c,rfl,h,a,h2⟩:=h.A;obtain rfl:=h.len;exact⟨ao,c,rfl,h.hN,a,h2⟩
def Vs.len_ {α:Type} {D:Kr α} {l:List α} (h:Vs D w B v l):∃ao c,v=O ao l.length c/\l.length<=c/\c<=9223372036854775807:=by
 obtain⟨ao,n,c,rfl,h,a,h2⟩:=h.A;obtain rfl:=h.len;exact⟨ao,c,rfl,a,h2⟩
def WK (a b:ByteArray) (t:bf) (W:aB):(binOp .geq t (ap a) (ap b)).run aH W= .ok (aG (tS a b)) W:=by simp[binOp,Op.stringOp,tS]
def fm.cells {B:Nat} (h:fm w w.heap.size ao L.length L) (hB:aS w.heap.size w wr) {k:Nat} (c:k<L.length):∃b off,ao=ad (ab b off M)/\b<w.heap.size/\wr.cell? ⟨b,off+k*2,M⟩=ad (ap (nm L k))/\wr.cell? ⟨b,off+k*2+1,M⟩=ad (ap (vl L k)):=by
 obtain⟨b,off,rfl,a,d⟩:=h.q an;exact⟨b,off,rfl,a,(hB.cell (p:=⟨b,off+k*2,M⟩) a).trans (d k c).1,(hB.cell (p:=⟨b,off+k*2+1,M⟩) a).trans (d k c).2⟩
theorem WL (h:P:=by
 generalize vl L k=s1 at*;go_wp2_with fail;refine(mu _ _ jr).ah ?_;rintro e w1⟨rfl,rfl⟩;rw[c1];go_wp2_with fail;refine AY cm cm.refl cm.trans (cU 0 13 []) [] (cm.drew _) ?_;refine dY ?_;refine S4.bh ?_;rintro wq hq;refine dP ?_;go_wp2;go_roundw;case rel=>exact⟨k+1,an,by go_num,HN,bN.trans hq⟩
 case measure=>exact aA
 ):P:=h
theorem WM (h:P:=by
 generalize nm L k=s0 at*;generalize vl L k=s1 at*;go_wp2_with fail;refine(mu s0 _ jr).ah ?_;rintro e w1⟨rfl,rfl⟩;rw[c1];go_wp2;go_ret;exact⟨cc HS.A.symm,bN⟩;):P:=h
def LH (w:aB) (h:Vs bE w B v L):aN aH 19 #[v] w λe w'=>e=aQ (aG (bH L))/\cm w w':=by
 obtain⟨ao,cap,rfl,d,hn,_⟩:=h.hN;have u:=E d;clear h d;have d:=u;clear u;by_cases r:L.length<=16
 ·go_enter func19,ntmps19;go_wp2;go_loopw [10] (λi wr=>∃k:Nat,k<=L.length/\i=J I k/\a6 (yQ k L)/\cm w wr) (λi _=>L.length-(intOf i).toNat);case atStart=>exact⟨0,an,rfl,E (λi hi=>ae hi an),cm.refl _⟩
  case round=>
   obtain⟨k,G,rfl,s,hB⟩:=hrel;by_cases f:k<L.length
   ·obtain⟨b,off,rfl,T,H,O⟩:=d.A.cells (B:=0) hB.aC f;have g:=E (show bH L=true->pq (nm L k)/\(vl L k).size<=64/\(0<k->tS (nm L (k-1)) (nm L k)=false) fromλh=>(yR.1 h).2 k f);have l:=E (λa b c=>yQ.succ s.A a b c);have jr:=(d.A.sz k f).1;have K:=(d.A.sz k f).2;have bN:=hB.alloc (aD #[ap (nm L k),ap (vl L k)] 78);cases c1:db (nm L k)
    ·have HS:=E (show bH L=false by
      cases h:bH L
      ·rfl
      ·rw[nM.2 (g.A h).1] at c1;cases c1)
     exact WM
    have t:=E (nM.1 c1);by_cases c2:64<(vl L k).size
    ·have HS:=E (show bH L=false by
      cases h:bH L
      ·rfl
      ·have:=(g.A h).2.1;omega)
     exact WM
    have S:decide (64<(vl L k).size)=false:=aa c2;have q:=E (show(vl L k).size<=64 by omega);have R:decide ((64:Int)<((vl L k).size:Int))=false:=aa an;clear c2;by_cases c3:k=0
    ·have HN:=E (l.A t.A q.A (λh=>ae h an));have n:decide (0<k)=false:=aa an;clear c3;generalize nm L k=s0 at*;exact WL
    obtain⟨j,hj⟩:=aP (k-1);have n:0<k:=an;have y:j<L.length:=an;have N:I.wrap (j:Int)=(j:Int):=ay;have F:(k:Int)-1=(j:Int):=an;obtain⟨b',D,z,_,m,_⟩:=d.A.cells (B:=0) bN.aC y;cases z;have C:=λp:gT (wr.alloc (aD #[ap (nm L k),ap (vl L k)] 78))=>p.cell m;have A:∀p:gT (wr.alloc (aD #[ap (nm L k),ap (vl L k)] 78)),p.aL.cell? (ab wr.heap.size 0 M)=ad (ap (nm L k)):=gT.cells (aI.new wr _ _) 0;rw[hj] at g l;have U:=E hj;clear hj m;cases c4:tS (nm L j) (nm L k)
    ·have x:∀W,(binOp .geq 9 (ap (nm L j)) (ap (nm L k))).run aH W= .ok (aG false) W:=λW=>by rw[WK,c4]
     have HN:=E (l.A t.A q.A (λ_=>c4));generalize nm L k=s0 at*;generalize nm L j=s2 at*;exact WL
    ·have x:∀W,(binOp .geq 9 (ap (nm L j)) (ap (nm L k))).run aH W= .ok (aG true) W:=λW=>by rw[WK,c4]
     have HS:=E (show bH L=false by
      cases h:bH L
      ·rfl
      ·have o:=(g.A h).2.2 n;rw[c4] at o;cases o)
     generalize nm L k=s0 at*;generalize nm L j=s2 at*;generalize vl L k=s1 at*;go_wp2_with fail;refine(mu _ _ jr).ah ?_;rintro e w1⟨rfl,rfl⟩;rw[c1];go_wp2_with fail;refine AY cm cm.refl cm.trans (cU 0 13 []) [] (cm.drew _) ?_;refine dY ?_;refine S4.bh ?_;rintro wq hq;refine dP ?_;go_wp2;go_ret;exact⟨cc HS.A.symm,bN.trans hq⟩
   ·obtain rfl:k=L.length:=by omega
    have HS:=E (show bH L=true from yR.2 ⟨r,s.A⟩);go_wp2;go_ret;exact⟨cc HS.A.symm,hB⟩
 ·have HS:=E (show bH L=false from V7.2 (λh=>r h.1));go_enter func19,ntmps19;go_wp2;go_ret;exact⟨cc HS.A.symm,cm.refl _⟩
def Iy (w:aB) (h:Vs bE w B v L):aN aH 19 #[v] w λe w'=>e=aQ (aG (bH L))/\aS w.heap.size w w':=(LH w h).mono λ_ _ h=>⟨h.1,h.2.aC⟩
def PQ (w:aB) (h:Vs bE w B v L):aN aH 21 #[v] w λe w'=>(∃d,e=aQ d/\Vs bE w' B d (dG L))/\cm w w':=by
 obtain⟨ao,c,rfl,_⟩:=h.len_;have a:=E h;clear h;cases c1:bH L
 ·have b:=E (show dG L=[] by unfold dG;simp[c1]);go_enter func21,ntmps21;go_wp2_with fail;refine(LH _ a.A).ah ?_;rintro e f⟨rfl,Z⟩;rw[c1];go_wp2;go_ret;exact⟨⟨_,rfl,b.A▸Vs.bh _ _ _⟩,Z⟩
 ·have b:=E (show dG L=L by unfold dG;simp[c1]);go_enter func21,ntmps21;go_wp2_with fail;refine(LH _ a.A).ah ?_;rintro e f⟨rfl,Z⟩;rw[c1];go_wp2;go_ret;exact⟨⟨_,rfl,b.A.symm▸a.A.al Z.aC⟩,Z⟩
def LI (w:aB) (h:Vs bE w B v L):aN aH 21 #[v] w λe w'=>(∃a,e=aQ a/\Vs bE w' B a (dG L))/\aS w.heap.size w w':=(PQ w h).mono λ_ _ h=>⟨h.1,h.2.aC⟩
def agn (a:k<L.length) (s:ByteArray):lP (L.drop k) s=if decide (nm L k=s)=true then ad (vl L k) else lP (L.drop (k+1)) s:=by
 rw[yS a,E7 a];unfold lP;rw[pf a,List.find?_cons];split<;>simp_all
def Fi (s:ByteArray) (w:aB) (h:Vs bE w B v L):aN aH 9 #[v,ap s] w λe w'=>e=aQ (bn #[ap ((gD L s).getD ⟨#[]⟩),aG (gD L s).isSome])/\aS w.heap.size w w':=by
 have t:=E h;obtain⟨A0,c0,rfl,_⟩:=h.len_;clear h;have j:=E (show gD L s=lP (dG L) s from rfl);generalize gD L s=r at j⊢;obtain⟨aU,g⟩:=aP (dG L);rw[g] at j;go_enter func9,ntmps9;go_wp2_with fail;refine(LI _ t.A).ah ?_;rintro e l⟨⟨u,rfl,a⟩,Z⟩;rw[g] at a;have C:=E a;obtain⟨ao,c,rfl,h2,y⟩:=a.len_;have o:=E a.hN;clear a;clear g;go_wp2;go_loopw [11] (λi wr=>∃k:Nat,k<=aU.length/\i=J I k/\a6 (lP (aU.drop k) s=r)/\aS l.heap.size l wr) (λi _=>aU.length-(intOf i).toNat);case atStart=>exact⟨0,an,rfl,E j.A.symm,bk _ _⟩
 case round=>
  obtain⟨k,x,rfl,n,hB⟩:=hrel;by_cases aK:k<aU.length
  ·obtain⟨A',c',e,m,_⟩:=o.A;cases e;obtain⟨b,off,rfl,cw,hc⟩:=m.q an;obtain⟨s0,pu⟩:∃s,a6 (nm aU k=s):=⟨_,E rfl⟩;obtain⟨s1,qc⟩:∃s,a6 (vl aU k=s):=⟨_,E rfl⟩;have z:wr.cell? ⟨b,off+k*2,M⟩=ad (ap s0):=aqu;have A:wr.cell? ⟨b,off+k*2+1,M⟩=ad (ap s1):=aqt;clear hc m;have f:=E (agn aK s);rw[pu.A,qc.A,n.A] at f;by_cases c1:s0=s
   ·have q:(s0.toList==s.toList)=true:=by rw[j9];exact ac c1
    have d:=E (show r=ad s1 by rw[f.A,ac c1];rfl);clear c1 f;go_wp2;go_ret2;exact⟨by rw[d.A];rfl,Z.trans ((hB.alloc hB.size _).mono Z.size)⟩
   ·have q:(s0.toList==s.toList)=false:=by rw[j9];exact aa c1
    have d:=E (show lP (aU.drop (k+1)) s=r by rw[f.A,aa c1];rfl);clear c1 f;go_wp2;go_roundw;case rel=>exact⟨k+1,an,by go_num,d,hB.alloc hB.size _⟩
    case measure=>exact aA
  ·obtain rfl:k=aU.length:=by omega
   have d:=E (show r=M by rw[<-n.A,qT];rfl);go_wp2;go_ret2;exact⟨by rw[d.A];rfl,Z.trans (hB.mono Z.size)⟩
variable {u:aE} {B':Nat} {aU:aZ}
def yW {a b:Int} (h:a=b):aQ (J I a)=aQ (J I b):=by rw[h]
def WN (a b:ByteArray) (t:bf) (W:aB):(binOp .gtr t (ap a) (ap b)).run aH W= .ok (aG !(ii a.toList b.toList||a.toList==b.toList)) W:=by simp[binOp,Op.stringOp]
def ago (s:ByteArray) (w:aB):aN aH 92 #[ap s] w λe w'=>e=aQ (aG false)/\w'=w:=by
 have a:(s.toList==s.toList)=true:=av;go_enter func92,ntmps92;go_wp2;go_ret;exact⟨rfl,rfl⟩
theorem PR (h:P:=by
 go_enter func64,ntmps64;go_wp2_with (go_at_call 92;refine(ago _ _).ah ?_;rintro e w'⟨rfl,rfl⟩);go_ret;exact⟨rfl,rfl⟩;):P:=h
def PS (a b:ByteArray) (w:aB):aN aH 64 #[ap a,ap b] w λe w'=>e=aQ (J I (fO a b))/\w'=w:=by
 have c:∀r:Int,(ii a.toList b.toList=true/\r=-1)\/(ii a.toList b.toList=false/\(a.toList==b.toList)=true/\r=0)\/(ii a.toList b.toList=false/\(a.toList==b.toList)=false/\r=1)->aN aH 64 #[ap a,ap b] w λe w'=>e=aQ (J I r)/\w'=w:=by
  rintro r (⟨h,rfl⟩|⟨h,k,rfl⟩|⟨h,k,rfl⟩)
  ·skip;exact PR
  ·have hg:∀W,(binOp .gtr 9 (ap a) (ap b)).run aH W= .ok (aG false) W:=λW=>by rw[WN,h,k];rfl
   exact PR
  ·have hg:∀W,(binOp .gtr 9 (ap a) (ap b)).run aH W= .ok (aG true) W:=λW=>by rw[WN,h,k];rfl
   exact PR
 refine c _ ?_;unfold fO;rcases O1 a b with h|rfl|h
 ·exact .inl ⟨h,by rw[h];rfl⟩
 ·exact .inr (.inl ⟨E0 a,av,by simp[E0]⟩)
 ·have d:=La h;have h2:ii a.toList b.toList=false:=d;refine .inr (.inr ⟨h2,?_,by rw[d,h];rfl⟩);rw[j9];refine aa ?_;rintro rfl;rw[E0] at h;cases h
def Fj (x y:Int):Int:=if x=0 then y else x
def WO (g:Nat) (x y:Int) (w:aB) (h0:w.cell? (ab g 0 M)=ad (J I x)) (d:w.cell? (ab g 1 M)=ad (J I y)):aN aH 63 #[O (ad (ab g 0 M)) 2 2] w λe w'=>e=aQ (J I (Fj x y))/\w'=w:=by
 have c:=E (show Fj x y=if x=0 then y else x from rfl);generalize Fj x y=r at c⊢;have j:=E h0;have h:=E d;clear h0 d;go_enter func63,ntmps63;go_wp2;go_loopw [8] (λi wr=>((i=J I 0/\True)\/(i=J I 1/\a6 (x=0))\/(i=J I 2/\a6 (x=0/\y=0)))/\wr=w) (λi _=>2-(intOf i).toNat);case atStart=>exact⟨.inl ⟨rfl,trivial⟩,rfl⟩
 case round=>
  obtain⟨(⟨rfl,_⟩|⟨rfl,a⟩|⟨rfl,a⟩),rfl⟩:=hrel
  ·have h0:=j.A;by_cases a:x=0
   ·have hn:(x !=0)=false:=by simpa using a
    have HX:=E a;clear a;go_wp2;go_roundw;case rel=>exact⟨.inr (.inl ⟨rfl,HX⟩),trivial⟩
    case measure=>simp[intOf]
   ·have hn:(x !=0)=true:=by simpa using a
    go_wp2;go_ret;exact⟨yW (by rw[c.A,af a]),rfl⟩
  ·have d:=h.A;by_cases b:y=0
   ·have hn:(y !=0)=false:=by simpa using b
    have f:=E b;clear b;go_wp2;go_roundw;case rel=>exact⟨.inr (.inr ⟨rfl,E ⟨a.A,f.A⟩⟩),trivial⟩
    case measure=>simp[intOf]
   ·have hn:(y !=0)=true:=by simpa using b
    go_wp2;go_ret;exact⟨yW (by rw[c.A,ag a.A]),rfl⟩
  ·go_wp2;go_ret;exact⟨yW (by rw[c.A,ag a.A.1,a.A.2]),rfl⟩
theorem WP (h:P:=by
 go_wp2_with fail;refine AY cm cm.refl cm.trans (cU 0 10 (.c 10::(cU 11 2 []))) [] (cm.drew _) ?_;repeat (
  refine S4.step (λKK aJ=>?_);go_simp;first
   |(refine aJ _ ?_;clear aJ KK)
   |(apply lL;refine⟨λ_=>?_,aJ _ ?_⟩;(first|(with_reducible exact aN.Fc (C1.A _))|(with_reducible exact aN.Fc (C2.A _)));clear aJ KK))
 refine S4.dm ?_;rintro _⟨pt,rfl⟩ KK aJ;go_simp;refine aJ _ _ ((cm.refl _).alloc _) ?_;have PT:=gT.cells (aI.new pt.aL 3 #[J I x,J I y]) 0;have PU:=gT.cells (aI.new pt.aL 3 #[J I x,J I y]) 1;have PV:=E (λq:gT (pt.aL.alloc (aD #[J I x,J I y] 3))=>WO pt.aL.heap.size x y q.aL (PT q) (PU q));repeat (
  refine S4.step (λKK aJ=>?_);go_simp;first
   |(refine aJ _ ?_;clear aJ KK)
   |(apply lL;refine⟨λ_=>?_,aJ _ ?_⟩;(with_reducible exact aN.Fc (PV.A _));clear aJ KK))
 refine S4.bh ?_;rintro wq hq;refine dP ?_;go_wp2;go_ret;exact⟨yW HE.A.symm,(((((cm.refl w).alloc _).alloc _).trans pt.r).alloc _).trans hq⟩;):P:=h
def agp (d b a q1:ByteArray) (w:aB):aN aH 62 #[aY #[ap d,ap b],aY #[ap a,ap q1]] w λe w'=>e=aQ (J I (fU (d,b) (a,q1)))/\cm w w':=by
 have HE:=E (show fU (d,b) (a,q1)=Fj (fO d a) (fO b q1) from rfl);generalize fU (d,b) (a,q1)=r at HE⊢;have C1:=λW=>PS d a W;have C2:=λW=>PS b q1 W;generalize fO d a=x at HE C1;generalize fO b q1=y at HE C2;have C1:=E C1;have C2:=E C2;have a0:=(aI.new w 78 #[ap d,ap b]).alloc (aD #[ap a,ap q1] 78);have f:=aI.new (w.alloc (aD #[ap d,ap b] 78)) 78 #[ap a,ap q1];have l:=gT.cells a0 0;have j:=gT.cells a0 1;have i:=gT.cells f 0;have g:=gT.cells f 1;simp at l j i g;go_enter func62,ntmps62;exact WP
def agq (c:α->α->Int) {l m:List α} {k:Nat} (a:k<l.length) (h2:k<m.length):mh c (l.drop k) (m.drop k)=if c l[k] m[k]=0 then mh c (l.drop (k+1)) (m.drop (k+1)) else c l[k] m[k]:=by
 rw[pf a,pf h2];rfl
def sA (h:k<L.length):L[k]=(nm L k,vl L k):=by rw[yS h,E7 h]
def agr (w:aB) (t:Vs bE w B v L) (h2:Vs bE w B' u aU):aN aH 61 #[v,u,.func (.func 62) #[] #[]] w λe w'=>e=aQ (J I (fu L aU))/\cm w w':=by
 have y:=E (show fu L aU=mh fU L aU from rfl);generalize fu L aU=r at y⊢;obtain⟨A1,c1,rfl,q,_⟩:=t.hN;obtain⟨A2,c2,rfl,s,_⟩:=h2.hN;have K:=E q;have m:=E s;clear t h2 q s;go_enter func61,ntmps61;go_wp2;go_loopw [13] (λi wr=>∃k:Nat,k<=L.length/\i=J I k/\a6 (k<=aU.length/\mh fU (L.drop k) (aU.drop k)=r)/\cm w wr) (λi _=>L.length-(intOf i).toNat);case atStart=>exact⟨0,an,rfl,E ⟨bV _,y.A.symm⟩,cm.refl _⟩
 case round=>
  obtain⟨k,O,rfl,f,hB⟩:=hrel;have D:=f.A.1;by_cases l:k<L.length
  ·obtain⟨b,off,rfl,R,F,G⟩:=K.A.cells (B:=0) hB.aC l;have p:=E (sA l);generalize nm L k=s0 at F p;generalize vl L k=s1 at G p;by_cases h2:k<aU.length
   ·have d:=E (agq fU l h2);rw[f.A.2] at d;have Q:decide (aU.length<=k)=false:=aa an;obtain⟨b',N,rfl,H,C,M⟩:=m.A.cells (B:=0) (hB.alloc (aD #[ap s0,ap s1] 78)).aC h2;have o:=E (sA h2);generalize nm aU k=t0 at C o;generalize vl aU k=t1 at M o;rw[p.A,o.A] at d;have j:=E (λW=>agp s0 s1 t0 t1 W);by_cases a:fU (s0,s1) (t0,t1)=0
    ·rw[ag a] at d;have j:=E (λW=>a▸j.A W);clear a;go_wp2_with fail;refine(j.A _).ah ?_;rintro e z⟨rfl,n⟩;go_wp2;go_roundw;case rel=>exact⟨k+1,an,by go_num,E ⟨an,d.A.symm⟩,((hB.alloc _).alloc _).trans n⟩
     case measure=>exact aA
    ·rw[af a] at d;generalize fU (s0,s1) (t0,t1)=c at a d j;have hn:(c !=0)=true:=am a;clear a;go_wp2_with fail;refine(j.A _).ah ?_;rintro e z⟨rfl,n⟩;go_wp2;go_ret;exact⟨yW d.A.symm,((hB.alloc _).alloc _).trans n⟩
   ·obtain rfl:k=aU.length:=by omega
    have g:=E (show r=1 by rw[<-f.A.2,qT,pf l];rfl);go_wp2;go_ret;exact⟨yW g.A.symm,hB.alloc _⟩
  ·obtain rfl:k=L.length:=by omega
   by_cases h2:L.length<aU.length
   ·have g:=E (show r=-1 by rw[<-f.A.2,qT,pf h2];rfl);go_wp2;go_ret;exact⟨yW g.A.symm,hB⟩
   ·have g:=E (show r=0 by rw[<-f.A.2,qT,List.drop_eq_nil_of_le an];rfl);go_wp2;go_ret;exact⟨yW g.A.symm,hB⟩
def LJ (w:aB) (a:Vs bE w B v L) (h2:Vs bE w B' u aU):aN aH 45 #[v,u] w λe w'=>e=aQ (J I (cmpL L aU))/\cm w w':=by
 have k:=E a;have j:=E h2;obtain⟨A1,c1,rfl,_⟩:=a.len_;obtain⟨A2,c2,rfl,_⟩:=h2.len_;clear a h2;go_enter func45,ntmps45;go_wp2_with fail;refine(PQ _ k.A).ah ?_;rintro e n⟨⟨o,rfl,c⟩,f⟩;have i:=E c;clear c;go_wp2_with fail;refine(PQ _ (j.A.al f.aC)).ah ?_;rintro e m⟨⟨v2,rfl,b⟩,d⟩;have h:=E b;clear b;go_wp2_with fail;refine(agr _ (i.A.al d.aC) h.A).ah ?_;rintro e l⟨rfl,g⟩;go_wp2;go_ret;exact⟨rfl,(f.trans d).trans g⟩
def LK (w:aB) (a:Vs bE w B v L) (h2:Vs bE w B' u aU):aN aH 45 #[v,u] w λe w'=>e=aQ (J I (cmpL L aU))/\aS w.heap.size w w':=(LJ w a h2).mono λ_ _ h=>⟨h.1,h.2.aC⟩
variable {base:Nat}
def Sl.lit (w:aB) (t:bf) (us:List aE) (n:Nat) (hn:n=us.length):Sl (w.alloc (aD us.toArray t)) (w.heap.size+1) (ad (ab w.heap.size 0 M)) n (λi=>us.getD i (aG false)):=λ_=>by
 refine⟨w.heap.size,0,rfl,an,λi hi=>?_⟩;rw[ig,(aI.new w t us.toArray).cell];simp only[dd];rw[cR (by omega:i<us.length)];simp[hn▸hi]
def aF.grown {α:Type} {D:Kr α} {a:aB} {l:List α} (h:aF a w) (ho:Ow D w B base v l) (Z:a.heap.size<=base) (hg:w.grownBy w' v.ownBlock):aF a w':=aF.of (h.aC.grown hg h.aC.size λk b=>a8 Z (ho.row k b).1)
def WS {P:cp} (D:Kr α) (W:aB) (us:List aE) (q:o.guard=M) (s x:Operand) (t:bf) (ho:o.op= .call {callee:=.builtin .append,args:=#[s,x],argTypes:=#[t,t]}) (base b:Nat) (z:aE) (n:P.underlying t=ad (.slice D.e)) (hi:(P.info? D.e).map (λi=>(i.zero,i.size,i.bytes))=ad (ad z,D.k,b)) (k:z.cells.size=D.k) (B:Nat) (v:aE) (l:List α) (a0:α) (hs:a.eval s=v) (m:a.eval x=O (ad (ab W.heap.size 0 M)) 1 1) (u:Ow D W B base v l) (hrel:D.rel W B a0 us) (d:(l.length+1)*b<=140737488355328) (Z:0<b) (y:base<=W.heap.size) (hB:B<=base) (r:D.e∉D.bI) (h:∀c w',Ow D w' B base c (l++[a0])->(W.alloc (aD us.toArray D.e)).grownBy w' v.ownBlock->Kt B [D.e] W w'->(∀ao,aF ao W->ao.heap.size<=base->aF ao w')->wpList P ops Q rest (a.put o.dst c) w'):wpList P ops Q (o::rest) a (W.alloc (aD us.toArray D.e)):=by
 have e:aS W.heap.size W (W.alloc (aD us.toArray D.e)):=(bk _ _).alloc (aO _) _;have g:Rs D (W.alloc (aD us.toArray D.e)) B [a0] us:=Rs.single (D.al hrel e);have f:=u.alloc (aD us.toArray D.e);have w:l.length+1<=140737488355328:=a8 (Nat.le_mul_of_pos_right _ Z) d;refine mZ D q s x t ho base b z n hi k B v l hs f (ad (ab W.heap.size 0 M)) 1 1 [a0] us m g rfl (W.heap.size+1) (Sl.lit W D.e us (1*D.k) (by rw[D.len hrel,Nat.one_mul])) aqv d aw hB r ?_;intro c w' g1 g2 g3;refine h c w' g1 g2 ((Kt.lQ e an).trans g3) (λao p j=>?_);exact(p.alloc (aD us.toArray D.e)).grown f j g2
def Dn:(aH.info? 78).map (λi=>(i.zero,i.size,i.bytes))=ad (ad (aY #[ap ⟨#[]⟩,ap ⟨#[]⟩]),2,32):=ar
def Fk:bE.e∉bE.bI:=aq
def LL (L:aZ):(dG L).length<=16:=(nN.1 (Ik L)).1
def WT (L:aZ):∀p∈dG L,p.1.size<=64/\p.2.size<=64:=λp a=>⟨((nN.1 (Ik L)).2.1 p a).1.2.1,((nN.1 (Ik L)).2.1 p a).2⟩
def P0 (f:α->Bool) {l:List α} {k:Nat} (a:k<l.length) (aT:List α):aT++(l.drop k).filter f=(if f l[k]=true then aT++[l[k]] else aT)++(l.drop (k+1)).filter f:=by
 rw[pf a,List.filter_cons];split<;>simp
def WU (s:ByteArray) (w:aB) (hB:B<=w.heap.size) (h:Vs bE w B v L):aN aH 236 #[v,ap s] w λe w'=>(∃t,e=aQ t/\Ow bE w' B w.heap.size t (tU L s))/\aS w.heap.size w w':=by
 have V:=E h;obtain⟨A0,c0,rfl,_⟩:=h.len_;clear h;have F:=E (show tU L s=(dG L).filter (λp=>!decide (p.1=s)) from rfl);generalize tU L s=r at F⊢;have C:=LL L;have H:=E (WT L);obtain⟨aU,x⟩:=aP (dG L);rw[x] at F C H;go_enter func236,ntmps236;go_wp2_with fail;refine(LI _ V.A).ah ?_;rintro e f⟨⟨W,rfl,z⟩,Z⟩;rw[x] at z;obtain⟨ao,c,rfl,y,Y⟩:=z.hN;have y:=E y;clear z;clear x;have S:=Z.size;go_wp2;go_loopw [5,11] (λu i wr=>∃(k:Nat) (aT:aZ),k<=aU.length/\aT.length<=k/\i=J I k/\a6 (aT++(aU.drop k).filter (λp=>!decide (p.1=s))=r)/\aF w wr/\aS f.heap.size f wr/\Ow bE wr B f.heap.size u aT) (λ_ i _=>aU.length-(intOf i).toNat);case atStart=>exact⟨0,[],an,aO _,rfl,E F.A.symm,aF.of Z,bk _ _,Ow.bh _ _ _ _⟩
 case round=>
  obtain⟨k,aT,X,Iz,rfl,K,A,a,j⟩:=hrel;by_cases l:k<aU.length
  ·obtain⟨b,off,rfl,cw,N,Q⟩:=y.A.cells (B:=0) a l;have d:=E (P0 (λp:ByteArray×ByteArray=>!decide (p.1=s)) l aT);rw[K.A,sA l] at d;have m:=E (H.A _ (dl l));rw[sA l] at m;generalize nm aU k=s0 at N d m;generalize vl aU k=s1 at Q d m;by_cases c1:s0=s
   ·have O:(s0.toList==s.toList)=true:=by rw[j9];exact ac c1
    have o:=E (show aT++(aU.drop (k+1)).filter (λp=>!decide (p.1=s))=r by rw[d.A];simp[c1]);have n:=E (j.alloc (aD #[ap s0,ap s1] 78));clear j;clear c1 d;go_wp2;go_roundw;case rel=>exact⟨k+1,aT,an,an,by go_num,o,A.alloc _,a.alloc a.size _,n.A⟩
    case measure=>exact aA
   ·have O:(s0.toList==s.toList)=false:=by rw[j9];exact aa c1
    have o:=E (show(aT++[(s0,s1)])++(aU.drop (k+1)).filter (λp=>!decide (p.1=s))=r by rw[d.A];simp[c1]);have n:=E ((j.alloc (aD #[ap s0,ap s1] 78)).alloc (aD #[ap s0,ap s1] 78));clear j;have D:=E (iC ((A.alloc (aD #[ap s0,ap s1] 78)).alloc (aD #[ap s0,ap s1] 78)) ((a.alloc a.size (aD #[ap s0,ap s1] 78)).alloc (a.alloc a.size _).size (aD #[ap s0,ap s1] 78)));have bJ:=a.size;clear c1 d;have U:=E (show Sl ((wr.alloc (aD #[ap s0,ap s1] 78)).alloc (aD #[ap s0,ap s1] 78)) (wr.heap.size+2) (ad ⟨wr.heap.size+1,0,M⟩) (1*bE.k) (λi=>[ap s0,ap s1].getD i (aG false)) by
     have:=Sl.lit (wr.alloc (aD #[ap s0,ap s1] 78)) 78 [ap s0,ap s1] (1*bE.k) rfl;rw[eO] at this;exact this)
    have T:=E (show Rs bE ((wr.alloc (aD #[ap s0,ap s1] 78)).alloc (aD #[ap s0,ap s1] 78)) B [(s0,s1)] [ap s0,ap s1] from Rs.single ⟨rfl,a8 m.A.1 aq,a8 m.A.2 aq⟩);have q:=E (show aT.length+1<=bK/\(aT.length+1)*32<=140737488355328/\f.heap.size<=((wr.alloc (aD #[ap s0,ap s1] 78)).alloc (aD #[ap s0,ap s1] 78)).heap.size/\B<=f.heap.size from⟨aqv,an,aw,an⟩);go_wp2_with ((refine mZ bE au (.tmp 19) (.tmp 21) 49 au f.heap.size 32 _ ar Dn au B _ aT au n.A (ad ⟨wr.heap.size+1,0,M⟩) 1 1 [(s0,s1)] [ap s0,ap s1] au T.A rfl (wr.heap.size+2) U.A q.A.1 q.A.2.1 q.A.2.2.1 q.A.2.2.2 Fk ?_;intro t w' R G eZ));go_roundw;case rel=>exact⟨k+1,_,an,aw,by go_num,o,D.A.1.grown n.A an G,D.A.2.grown G D.A.2.size (λg hg=>(n.A.row g hg).1),R⟩
    case measure=>exact aA
  ·obtain rfl:k=aU.length:=by omega
   have o:=E (show r=aT by rw[<-K.A,qT];simp);go_wp2;go_ret;exact⟨⟨_,rfl,o.A▸j.less S⟩,A.aC⟩
def sB {α:Type} (D:Kr α) (w':aB) (B:Nat) (e:Ending):Option (List α)->Prop
 |some m=>∃v,e=aQ (bn #[v,J I 0])/\Vs D w' B v m
 |none=>∃v k,k≠0/\e=aQ (bn #[v,J I k])/\∃m,Vs D w' B v m
def sB.al {α:Type} {D:Kr α} {e:Ending} {r:Option (List α)} (h:sB D w B e r) (Z:aS w.heap.size w w'):sB D w' B e r:=by
 cases r with
 |none=>obtain⟨v,k,a,h2,m,b⟩:=h;exact⟨v,k,a,h2,m,b.al Z⟩
 |some m=>obtain⟨v,a,h2⟩:=h;exact⟨v,a,h2.al Z⟩
def sB.form {α:Type} {D:Kr α} {e:Ending} {r:Option (List α)} (h:sB D w B e r):∃v k,e=aQ (bn #[v,J I k])/\(sB D w B (aQ (bn #[v,J I k])) r)/\(∃m,Vs D w B v m)/\(k=0↔r.isSome=true):=by
 cases r with
 |none=>obtain⟨v,k,a,h2,m,b⟩:=h;exact⟨v,k,h2,⟨v,k,a,rfl,m,b⟩,⟨m,b⟩,by simp[a]⟩
 |some m=>obtain⟨v,a,h2⟩:=h;exact⟨v,0,a,⟨v,rfl,h2⟩,⟨m,h2⟩,av⟩
section
open Go.ChangeAt Go.ChangeShapes Go.WideShapes
def toList_inj {a b:ByteArray} (h:a.toList=b.toList):a=b:=by
 rw[ByteArray.toList_eq,ByteArray.toList_eq] at h;apply ByteArray.ext;exact Array.toList_inj.1 h
def DQ (h:i<L.length):(nm L i,vl L i)=L[i]:=by
 unfold nm vl;rw[dd,cR h];rfl
def ahH (ao:Option aX) (n cap:Nat) (L:aZ) (w:aB) (hn:n<=9223372036854775807) (Z:fm w w.heap.size ao n L):aN aH 28 #[O ao n cap] w λe w'=>(∃b,e=aQ (aG b)/\(b=true->n<=40))/\aS w.heap.size w w':=by
 have d:=E Z;clear Z;go_enter func28,ntmps28;go_wp2;go_loopw [3,4] (λs i wr=>∃(k:Nat) (z:Int),k<=n/\i=J I k/\s=J I z/\aS w.heap.size w wr) (λ_ i _=>n-(intOf i).toNat);case atStart=>exact⟨0,0,an,rfl,rfl,bk _ _⟩
 case round=>
  obtain⟨k,z,y,rfl,rfl,hB⟩:=hrel;by_cases a:k<n
  ·obtain⟨b,off,rfl,l,c⟩:=d.A.q an;obtain⟨s0,g⟩:∃s,a6 (nm L k=s):=⟨_,E rfl⟩;obtain⟨s1,f⟩:∃s,a6 (vl L k=s):=⟨_,E rfl⟩;have x:s0.size<=9223372036854775807:=by rw[<-g.A];exact(d.A.sz k a).1
   have B:s1.size<=9223372036854775807:=by rw[<-f.A];exact(d.A.sz k a).2
   have A:∀p:ba wr,p.aL.cell? ⟨b,off+k*2,M⟩=ad (ap s0):=λp=>by rw[<-g.A];exact p.cell aqU ((hB.cell (p:=⟨b,off+k*2,M⟩) l).trans (c k a).1)
   have C:∀p:ba wr,p.aL.cell? ⟨b,off+k*2+1,M⟩=ad (ap s1):=λp=>by rw[<-f.A];exact p.cell aqU ((hB.cell (p:=⟨b,off+k*2+1,M⟩) l).trans (c k a).2)
   clear c;go_wp2_with fail;refine pk ar ar ?_;repeat (
    refine WQ.step (λKK m=>?_);go_simp;refine m _ ?_;clear m KK)
   refine WQ.bh ?_;rintro r⟨⟨q,t⟩,j⟩;obtain rfl:q=r:=j.symm;clear j;go_wp2;go_roundw;case rel=>
    exact⟨k+1,_,an,by go_num,rfl,hB.trans (t.mono hB.size)⟩
   case measure=>exact aA
  ·obtain rfl:k=n:=by omega
   by_cases o:k<=40
   ·go_wp2;refine bF (v:=aG (decide (z<=3000))) (by simp[bz,results28,go_sem]) rfl ⟨⟨_,rfl,λ_=>o⟩,hB⟩
   ·have u:decide (k<=40)=false:=aa o;go_wp2;refine bF (v:=aG false) (by simp[bz,results28,go_sem]) rfl ⟨rfl,hB⟩
def uj:aE->ByteArray
 |ap s=>s
 |_=>⟨#[]⟩
def ahI (W:aB) (v:aE):Prop:=∃(ao:Option aX) (n c:Nat) (L:aZ),v=O ao n c/\fm W W.heap.size ao n L/\n<=c/\c<=9223372036854775807
section
variable {H:Type} {enc:bf×aE->H} {W:aB} {base:Nat} {v:aE} {d:DataW H} {p:List MemPlace}
theorem ahJ (h:P:=by
 obtain⟨c0,c1,t0,t1⟩:=mi i an;obtain⟨z,e0,-,b0⟩:=DataW.trod_string underlying9 t0;obtain⟨q,e1,-,cH⟩:=DataW.trod_string underlying9 t1;simp at e0 e1;rw[(iD i hi).1,(iD i hi).2,e0,e1];exact⟨b0,cH⟩;):P:=h
theorem ahK (h:P:=by
 refine⟨by simp only[(iD i hi).1];simp only[c0,e0,uj],?_⟩;simp only[(iD i hi).2];simp only[Nat.add_assoc,c1,e1,uj];):P:=h
end
end
def Rd (w:aB) (g B:Nat):Except Nat (List UInt8)->Prop
 |.ok l=>∃ao n c,aI w g 365 #[O ao n c,J I 0]/\Bs w B ao n l/\n<=c/\c<=9223372036854775807
 |.error c=>1<=c/\∃v,aI w g 365 #[v,J I (c:Int)]
def Rd.eP {st:Except Nat (List UInt8)} (h:Rd w g B st):∃v c,aI w g 365 #[v,J I (c:Int)]:=by
 cases st with
 |error c=>exact⟨_,_,h.2.choose_spec⟩
 |ok l=>obtain⟨ao,n,c,a,_⟩:=h;exact⟨_,0,a⟩
def Rd.lt {st:Except Nat (List UInt8)} (h:Rd w g B st):g<w.heap.size:=by
 obtain⟨v,c,h⟩:=h.eP;exact h.lt
def dc:Except Nat (List UInt8)->Nat×Except Nat (List UInt8)
 |.error c=>(0,.error c)
 |.ok l=>match e9 l with
  |.error c=>(0,.error c)
  |.ok (u,r)=>(u,.ok r)
def dZ:Except Nat (List UInt8)->List UInt8×Except Nat (List UInt8)
 |.error c=>([],.error c)
 |.ok l=>match kk l with
  |.error c=>([],.error c)
  |.ok (t,r)=>(t,.ok r)
def YF {l:List UInt8} {c:Nat} (h:kk l= .error c):1<=c:=by
 unfold kk at h;cases a:e9 l with
 |error c'=>rw[a] at h;have:=wN a;simp at h;omega
 |ok q=>
  rw[a] at h;obtain⟨n,r⟩:=q;simp only at h;by_cases b:65536<n
  ·rw[ag b] at h;simp at h;omega
  ·rw[af b] at h;by_cases h2:r.length<n
   ·rw[ag h2] at h;simp at h;omega
   ·rw[af h2] at h;cases h
def xl (h:aS w.heap.size w w') (row:Option Nat):w.grownBy w' row:=⟨h.os,h.tape,h.output,h.size,λk a _=>h.block k a⟩
def _root_.Go.World.grownBy.set (h:w.grownBy w' (ad g)) (i:Nat) (u:aE):w.grownBy (w'.setCell (ab g i M) u) (ad g):=⟨h.os,h.tape,h.output,by simp[eB];exact h.size,λk b a=>(yv _ _ _ k (λe=>a (by rw[e]))).trans (h.block k b a)⟩
def YG (g B:Nat) (st:Except Nat (List UInt8)) (w:aB) (eN:B<=g) (h:Rd w g B st):aN aH 248 #[bl (ad (ab g 0 M)),.func (.func 170) #[] #[]] w λe w'=>e=aQ (ap ⟨(dZ st).1.toArray⟩)/\Rd w' g B (dZ st).2/\w.grownBy w' (ad g):=by
 have hg:=h.lt;cases st with
 |error c=>
  obtain⟨u,v,Z⟩:=h;have d:((c:Int)==0)=false:=beq_eq_false_iff_ne.2 an;have C:=Z.cell;have m:=E Z;clear Z;go_enter func248,ntmps248;go_wp2;go_ret;exact⟨rfl,⟨u,v,m.A⟩,EZ _ _⟩
 |ok l=>
  obtain⟨ao,n,cap,Z,s,D,H⟩:=h;have C:=Z.cell;have m:=E Z;clear Z;have G:=E s;clear s;have y:n<=9223372036854775807:=an;go_enter func248,ntmps248;go_wp2_with fail;refine(VZ B ao n cap l _ an y D H G.A).ah ?_;rintro e K⟨f,j⟩;have b:=m.A.al j hg;have J:=b.lt;have⟨N,L⟩:=b.cf;cases a:kk l with
  |error c=>
   rw[a] at f;obtain rfl:=f;have u:=YF a;have k:=E (show dZ (.ok l)=([],.error c) by simp only[dZ,a]);clear a;have i:=E b;clear b;go_wp2;refine bF (v:=ap ⟨#[]⟩) (by simp[bz,results248,go_sem]) rfl ?_;rw[k.A];exact⟨rfl,⟨an,O M 0 0,(i.A.put 0 _).put 1 _⟩,(xl j _).set 0 _|>.set 1 _⟩
  |ok q=>
   obtain⟨t,r⟩:=q;rw[a] at f;obtain⟨A2,z,c2,rfl,p,F,I⟩:=f;have k:=E (show dZ (.ok l)=(t,.ok r) by simp only[dZ,a]);clear a;have i:=E b;have o:=E p;clear b p;generalize x:(⟨t.toArray⟩:ByteArray)=st;have A:=E x;clear x;go_wp2;refine bF (v:=ap st) (by simp[bz,results248,go_sem]) rfl ?_;rw[k.A];exact⟨by rw[A.A],⟨A2,z,c2,(i.A.put 0 _).put 1 _,⟨o.A.len,(o.A.sl.setCell arz _).setCell arz _⟩,F,I⟩,(xl j _).set 0 _|>.set 1 _⟩
def ahM (w':aB) (B:Nat) (e:Ending):Except Nat (Nat×List UInt8)->Prop
 |.ok (t,r)=>∃A2 n2 c2,e=aQ (bn #[J I (t:Int),O A2 n2 c2,J I 0])/\Bs w' B A2 n2 r/\n2<=c2/\c2<=9223372036854775807
 |.error c=>e=aQ (bn #[J I 0,O M 0 0,J I (c:Int)])
theorem YH (h:P:=by
 obtain⟨m,r⟩:=q;obtain⟨hl,VT⟩:=C3 hu;have j1:r.length+(bu m).length=n:=by have:=congrArg oz hl;rw[b2,Z.len] at this;omega
 refine⟨_,_,_,rfl,?_,an,an⟩;have:=(Z.al (aW.mono dI)).lo (k:=n-r.length) (cap:=cap) an cB;have e1:l.drop (n-r.length)=r:=aq0;have e2:n-(n-r.length)=r.length:=an;rw[e1,e2] at this;exact this;):P:=h
def YI (B:Nat) (ao:Option aX) (n cap:Nat) (l:List UInt8) (w:aB) (dI:B<=w.heap.size) (hn:n<=9223372036854775807) (cB:n<=cap) (a:cap<=9223372036854775807) (Z:Bs w B ao n l):aN aH 166 #[O ao n cap] w λe w'=>ahM w' B e (e9 l)/\aS w.heap.size w w':=by
 refine(H7 ao n cap l _ hn cB a (Z.bt dI)).ah ?_;rintro e b⟨rfl,aW⟩;refine⟨?_,aW⟩;cases hu:e9 l with
 |error c=>rfl
 |ok q=>
  exact YH
def ahN (g B:Nat) (st:Except Nat (List UInt8)) (w:aB) (eN:B<=g) (h:Rd w g B st):aN aH 247 #[bl (ad (ab g 0 M)),.func (.func 166) #[] #[]] w λe w'=>e=aQ (J I ((dc st).1:Int))/\Rd w' g B (dc st).2/\w.grownBy w' (ad g):=by
 have hg:=h.lt;cases st with
 |error c=>
  obtain⟨u,v,Z⟩:=h;have d:((c:Int)==0)=false:=beq_eq_false_iff_ne.2 an;have z:=Z.cell;have m:=E Z;clear Z;go_enter func247,ntmps247;go_wp2;go_ret;exact⟨rfl,⟨u,v,m.A⟩,EZ _ _⟩
 |ok l=>
  obtain⟨ao,n,cap,Z,s,A,F⟩:=h;have z:=Z.cell;have m:=E Z;clear Z;have D:=E s;clear s;have x:n<=9223372036854775807:=an;go_enter func247,ntmps247;go_wp2_with fail;refine(YI B ao n cap l _ an x A F D.A).ah ?_;rintro e K⟨f,j⟩;have b:=m.A.al j hg;have H:=b.lt;have⟨N,L⟩:=b.cf;cases a:e9 l with
  |error c=>
   rw[a] at f;obtain rfl:=f;have u:=wN a;have k:=E (show dc (.ok l)=(0,.error c) by simp only[dc,a]);clear a;have i:=E b;clear b;go_wp2;refine bF (v:=J I 0) (by simp[bz,results247,go_sem]) rfl ?_;rw[k.A];exact⟨rfl,⟨an,O M 0 0,(i.A.put 0 _).put 1 _⟩,(xl j _).set 0 _|>.set 1 _⟩
  |ok q=>
   obtain⟨t,r⟩:=q;rw[a] at f;obtain⟨A2,y,c2,rfl,p,C,G⟩:=f;have k:=E (show dc (.ok l)=(t,.ok r) by simp only[dc,a]);clear a;have i:=E b;have o:=E p;clear b p;go_wp2;refine bF (v:=J I (t:Int)) (by simp[bz,results247,go_sem]) rfl ?_;rw[k.A];exact⟨rfl,⟨A2,y,c2,(i.A.put 0 _).put 1 _,⟨o.A.len,(o.A.sl.setCell arz _).setCell arz _⟩,C,G⟩,(xl j _).set 0 _|>.set 1 _⟩
variable {w1:aB}
def rr (q:ByteArray×ByteArray):aE×aE:=(ap q.1,ap q.2)
def xm:Nat->List UInt8->aZ->Except Nat (aZ×List UInt8)
 |0,r,ps=>.ok (ps,r)
 |k+1,r,ps=>match kk r with
  |.error c=>.error c
  |.ok (a,r1)=>match kk r1 with
   |.error c=>.error c
   |.ok (b,r2)=>xm k r2 (ps++[(⟨a.toArray⟩,⟨b.toArray⟩)])
noncomputable def uk (l:List UInt8):Except Nat (aZ×List UInt8):=match e9 l with
 |.error c=>.error c
 |.ok (n,r)=>if 16<n then .error 4 else match xm n r [] with
  |.error c=>.error c
  |.ok (ps,r2)=>if bH ps=true then .ok (ps,r2) else .error 1
def Q3 (ps:aZ):Prop:=∀q∈ps,q.1.size<=65536/\q.2.size<=65536
def fl.hN {e:Nat} {ps:aZ} (h:fl w base e rr v ps) (hs:Q3 ps):∃ao n cap,v=O ao n cap/\n=ps.length/\fm w w.heap.size ao n ps/\n<=cap/\cap<=bK:=by
 obtain⟨ao,n,cap,rfl,hn,a,c,b⟩:=h.q2;refine⟨ao,n,cap,rfl,hn,⟨hn.symm,a.congr (λi hi=>?_) (λi hi=>?_),λi hi=>?_⟩,c,b⟩
 ·rw[cR an];have:=DQ (L:=ps) (i:=i) an;simp[rr,<-this]
 ·rw[cR an];have:=DQ (L:=ps) (i:=i) an;simp[rr,<-this]
 ·have:=DQ (L:=ps) (i:=i) an;have h2:=hs _ (dl (by omega:i<ps.length));rw[<-this] at h2;simp only at h2;omega
def YJ {l t r:List UInt8} (h:kk l= .ok (t,r)):t.length<=65536:=by
 unfold kk at h;cases a:e9 l with
 |error c'=>rw[a] at h;cases h
 |ok q=>
  rw[a] at h;obtain⟨n,c⟩:=q;simp only at h;by_cases b:65536<n
  ·rw[ag b] at h;cases h
  ·rw[af b] at h;by_cases h2:c.length<n
   ·rw[ag h2] at h;cases h
   ·rw[af h2] at h;simp at h;rw[<-h.1,tH];omega
def YK (st:Except Nat (List UInt8)):(⟨(dZ st).1.toArray⟩:ByteArray).size<=65536:=by
 show(dZ st).1.toArray.size<=65536;rw[lM];cases st with
 |error c=>simp[dZ]
 |ok l=>
  cases a:kk l with
  |error c=>simp[dZ,a]
  |ok q=>obtain⟨t,r⟩:=q;simp only[dZ,a];exact YJ a
def DR (N:Nat) (X:Except Nat (aZ×List UInt8)) (ps:aZ):Except Nat (List UInt8)->Prop
 |.error c=>X= .error c
 |.ok r=>ps.length<=N/\xm (N-ps.length) r ps=X
def DR.step {N:Nat} {X:Except Nat (aZ×List UInt8)} {ps:aZ} {r:List UInt8} (h:DR N X ps (.ok r)) (g:ps.length<N):DR N X (ps++[(⟨(dZ (.ok r)).1.toArray⟩,⟨(dZ (dZ (.ok r)).2).1.toArray⟩)]) (dZ (dZ (.ok r)).2).2:=by
 obtain⟨f,h2⟩:=h;obtain⟨k,e⟩:∃k,N-ps.length=k+1:=⟨N-ps.length-1,an⟩;rw[e] at h2;unfold xm at h2;cases d:kk r with
 |error c=>rw[d] at h2;simp only[dZ,d];exact h2.symm
 |ok q=>
  obtain⟨a,r1⟩:=q;rw[d] at h2;simp only at h2;simp only[dZ,d];cases Z:kk r1 with
  |error c=>rw[Z] at h2;exact h2.symm
  |ok q2=>
   obtain⟨b,r2⟩:=q2;rw[Z] at h2;simp only at h2;refine⟨aw,?_⟩;rw[b2,p8,show N-(ps.length+1)=k by omega];exact h2
noncomputable def YL:Except Nat (aZ×List UInt8)->Except Nat (aZ×List UInt8)
 |.error c=>.error c
 |.ok (ps,r2)=>if bH ps=true then .ok (ps,r2) else .error 1
noncomputable def Mq (l:List UInt8):Except Nat (aZ×List UInt8):=match e9 l with
 |.error c=>.error c
 |.ok (n,r)=>if 16<n then .error 4 else xm n r []
def ahO (l:List UInt8):uk l=YL (Mq l):=by
 unfold uk Mq;cases e9 l with
 |error c=>rfl
 |ok q=>
  obtain⟨n,r⟩:=q;simp only;by_cases h:16<n
  ·rw[ag h,ag h];rfl
  ·rw[af h,af h];cases xm n r [] with
   |error c=>rfl
   |ok q2=>rfl
def ahP (w':aB) (B:Nat) (e:Ending):Except Nat (aZ×List UInt8)->Prop
 |.ok (ps,r)=>∃A1 n1 c1 A2 n2 c2,e=aQ (bn #[O A1 n1 c1,O A2 n2 c2,J I 0])/\fm w' w'.heap.size A1 n1 ps/\n1<=c1/\c1<=9223372036854775807/\n1<=16/\Bs w' B A2 n2 r/\n2<=c2/\c2<=9223372036854775807/\(∃base,fl w' base 78 rr (O A1 n1 c1) ps)/\Q3 ps
 |.error c=>e=aQ (bn #[O M 0 0,O M 0 0,J I (c:Int)])/\1<=c
def Bs.Q4 {l:List UInt8} (h:Bs w B ao n l) (hB:B<=w.heap.size) (o:Obj):Bs (w.alloc o) B ao n l:=⟨h.len,h.sl.alloc hB o⟩
def sliceLen:aE->Nat
 |O _ n _=>n
 |_=>0
def fl.sliceLen {α:Type} {e:Nat} {f:α->aE×aE} {l:List α} (h:fl w base e f v l):Proofs.YtbeaddlblpgppaaGreatDoor.sliceLen v=l.length:=by
 rcases h.form with⟨rfl,rfl⟩|⟨g,cap,rfl,_⟩<;>rfl
def Rd.alloc {st:Except Nat (List UInt8)} (h:Rd w g B st) (hB:B<=w.heap.size) (o:Obj):Rd (w.alloc o) g B st:=by
 cases st with
 |error c=>exact⟨h.1,_,h.2.choose_spec.alloc o⟩
 |ok l=>obtain⟨ao,n,c,b,h2,a⟩:=h;exact⟨ao,n,c,b.alloc o,h2.Q4 hB o,a⟩
def Rd.grown {st:Except Nat (List UInt8)} {row:Option Nat} (h:Rd w g B st) (hg:w.grownBy w' row) (a:ad g≠row) (b:∀k,row=ad k->B<=k) (hB:B<=w.heap.size):Rd w' g B st:=by
 cases st with
 |error c=>exact⟨h.1,_,h.2.choose_spec.grown hg a⟩
 |ok l=>obtain⟨ao,n,c,e,h2,d⟩:=h;exact⟨ao,n,c,e.grown hg a,⟨h2.len,h2.sl.grown hg hB b⟩,d⟩
def Rd.al {st:Except Nat (List UInt8)} (h:Rd w g B st) (hB:B<=w.heap.size) (Z:aS w.heap.size w w'):Rd w' g B st:=h.grown (xl Z M) av (λk e=>by cases e) hB
def ahQ {a:aB} {row:Option Nat} (h:aS w.heap.size w w1) (hg:w1.grownBy a row) (b:∀k,row=ad k->w.heap.size<=k):aS w.heap.size w a:=h.grown hg h.size b
def ahR (B:Nat) (ao:Option aX) (n cap:Nat) (l:List UInt8) (w:aB) (U:B<=w.heap.size) (hn:n<=9223372036854775807) (cB:n<=cap) (ij:cap<=9223372036854775807) (Z:Bs w B ao n l):aN aH 214 #[O ao n cap] w λe w'=>ahP w' B e (uk l)/\aS w.heap.size w w':=by
 have HB:=E Z;clear Z;obtain⟨g,HG⟩:∃g,a6 (g=w.heap.size):=⟨_,E rfl⟩;have Q5:Bs (w.alloc (aD #[O ao n cap,J I 0] 365)) B ao n l:=HB.A.Q4 U _;have Q5:=E Q5;go_enter func214,ntmps214;go_wp2_with fail;refine(ahN w.heap.size B (.ok l) _ U ⟨ao,n,cap,?_,Q5.A,cB,ij⟩).ah ?_
 ·exact(aI.new w _ _)
 rintro e w1⟨rfl,j,V⟩;have bg:aS w.heap.size w w1:=(((bk w.heap.size w).alloc (aO _) _)).grown V av (λk e=>by cases e;exact aO _);obtain⟨N,HN⟩:∃N:Nat,a6 ((dc (.ok l)).1=N):=⟨_,E rfl⟩;rw[HN.A];obtain⟨X,mo⟩:∃X,a6 (Mq l=X):=⟨_,E rfl⟩;have HX:=E (show uk l=YL X by rw[<-mo.A];exact ahO l);obtain⟨i,YM⟩:∃st,a6 ((dc (.ok l)).2=st):=⟨_,E rfl⟩;rw[YM.A] at j;have Q6:=E (show(∃c,i= .error c/\1<=c/\N=0/\X= .error c)\/∃r,i= .ok r/\X=if 16<N then .error 4 else xm N r [] by
  rw[<-YM.A,<-mo.A,<-HN.A];unfold Mq;cases T:e9 l with
  |error c=>exact .inl ⟨c,by simp only[dc,T],ai (wN T),by simp only[dc,T],rfl⟩
  |ok q=>obtain⟨u,r⟩:=q;exact .inr ⟨r,by simp only[dc,T],by simp only[dc,T]⟩)
 have ru:=E j;clear j V;go_upto_region 3 with(fail);go_cut [19] from 13 (λs wr=>s=aG (decide (16<N))/\wr=w1);case first=>
  obtain⟨v0,c,f⟩:=ru.A.eP;have e0:=f.cell 1;by_cases fW:c=0
  ·obtain rfl:=fW;clear f;go_wp2;go_meet;case rel=>exact⟨aw,rfl⟩
  ·have d:((c:Int)==0)=false:=beq_eq_false_iff_ne.2 an;have G:decide (16<N)=false:=by
    rcases Q6.A with⟨c',-,-,rfl,-⟩|⟨r,rfl,-⟩
    ·rfl
    ·exfalso;obtain⟨A0,n0,c0,cN,-⟩:=ru.A;have:=f.cell 1;rw[cN.cell 1] at this;simp at this;omega
   clear f;go_wp2;go_meet;case rel=>exact⟨by rw[G],rfl⟩
 obtain⟨rfl,rfl⟩:=hcut;go_upto_if 19 with(fail);go_cut [] from 12 (λwr=>∃(st:Except Nat (List UInt8)),a6 (Rd wr w.heap.size B st)/\a6 (DR N X [] st)/\a6 (∀r,st= .ok r->N<=16)/\aS w.heap.size w wr);case first=>
  by_cases G:16<N
  ·obtain⟨v0,c,f⟩:=ru.A.eP;have nK:=E (show X= .error 4 by
    rcases Q6.A with⟨c',-,-,hN0,-⟩|⟨r,-,hX⟩
    ·omega
    ·rw[hX,ag G])
   have f0:=f.frozen 1;have Bu:=f.lt;have e0:=f.cell 1;have Mr:=E f;clear f;go_wp2;go_meet;case rel=>exact⟨.error 4,E ⟨an,_,Mr.A.put 1 _⟩,E nK.A,E (λr h=>by cases h),bg.setCell (by exact aO _) _⟩
  ·have bS:decide (16<N)=false:=aa G;have bj:=E (show DR N X [] i by
    rcases Q6.A with⟨c',rfl,-,-,hX⟩|⟨r,rfl,hX⟩
    ·exact hX
    ·rw[af G] at hX;exact⟨av,hX.symm⟩)
   go_wp2;go_meet;case rel=>exact⟨i,ru,bj,E (λr h=>by omega),bg⟩
 case rest=>
  obtain⟨aM,bi,a9,a5,kq⟩:=hcut;clear bg;go_wp2;go_loopw [7,8,9] (λv a b wr=>∃(ps:aZ) (st:Except Nat (List UInt8)),a6 (fl wr (w.heap.size+1) 78 rr v ps)/\a6 (Q3 ps)/\a6 (Rd wr w.heap.size B st)/\a6 (DR N X ps st)/\a6 (∀r,st= .ok r->N<=16)/\ps.length<=16/\aS w.heap.size w wr) (λv _ _ _=>N-sliceLen v);case atStart=>exact⟨[],aM,E (fl.bh _ _ _ _),E (λq o=>by cases o),bi,a9,a5,av,kq⟩
  case round=>
   obtain⟨ps,st,D,R,j,K,a4,G,hB⟩:=hrel;have bN:B<=w.heap.size:=U;have YN:w.heap.size<wr.heap.size:=j.A.lt;obtain⟨A1,n1,c1,rfl,ea,C,FJ,a3⟩:=D.A.hN R.A;have C:=E C;have z:=E ea;clear ea;have a2:c1<=9223372036854775807:=by unfold bK at a3;omega
   cases st with
   |error c=>
    obtain⟨cn,v0,f⟩:=j.A;have W:=E (show uk l= .error c by rw[HX.A,show X= .error c from K.A];rfl);have e0:=f.cell 1;have e1:∀p:ba wr,p.aL.cell? (ab w.heap.size 1 M)=ad (J I (c:Int)):=λp=>(p.eP f).cell 1;have d:((c:Int)==0)=false:=beq_eq_false_iff_ne.2 an;have d':((c:Int)!=0)=true:=bne_iff_ne.2 an;clear f D R j K C;go_wp2_with fail;refine pk ar ar ?_;repeat (
     refine WQ.step (λKK y=>?_);go_simp;refine y _ ?_;clear y KK)
    refine WQ.bh ?_;rintro S⟨⟨L,o⟩,t⟩;obtain rfl:L=S:=t.symm;clear t;go_wp2;refine bF (v:=bn #[O M 0 0,O M 0 0,J I (c:Int)]) arw rfl ?_;exact⟨by rw[W.A];exact⟨rfl,cn⟩,hB.trans (o.mono hB.size)⟩
   |ok r=>
    obtain⟨A2,n2,c2,f,ei,aW,bL⟩:=j.A;have e0:=f.cell;have f1:=f.frozen 1;by_cases aK:n1<N
    ·have bJ:N<=16:=a4.A _ rfl;have Q7:=E (K.A.step (ai z.A));have cM:=E (YK (.ok r));have bM:=E (YK (dZ (.ok r)).2);obtain⟨i,qn⟩:∃x,a6 ((dZ (.ok r)).2=x):=⟨_,E rfl⟩;obtain⟨s1,Bw⟩:∃x,a6 ((⟨(dZ (.ok r)).1.toArray⟩:ByteArray)=x):=⟨_,E rfl⟩;obtain⟨Q,qo⟩:∃x,a6 ((dZ i).2=x):=⟨_,E rfl⟩;obtain⟨F,vE⟩:∃x,a6 ((⟨(dZ i).1.toArray⟩:ByteArray)=x):=⟨_,E rfl⟩;have cM:=E (show s1.size<=65536 by rw[<-Bw.A];exact cM.A);have bM:=E (show F.size<=65536 by rw[<-vE.A,<-qn.A];exact bM.A);have Q7:=E (show DR N X (ps++[(s1,F)]) Q by have:=Q7.A;rw[qn.A,Bw.A,qo.A,vE.A] at this;exact this);clear f ei C;have zj:=z.A;have YO:ps.length<N:=an;clear zj;go_wp2_with fail;refine(YG w.heap.size B (.ok r) wr U j.A).ah ?_;rintro e DS⟨rfl,Q8,YP⟩;rw[Bw.A];rw[qn.A] at Q8;go_wp2_with fail;refine(YG w.heap.size B i DS U Q8).ah ?_;rintro e FK⟨rfl,Ms,YQ⟩;rw[vE.A];rw[qo.A] at Ms;have YR:=YP.trans YQ;have bq:(O A1 n1 c1).ownBlock≠ad w.heap.size:=λe=>by have:=D.A.nI _ e;omega
     have YS:fl FK (w.heap.size+1) 78 rr (O A1 n1 c1) ps:=D.A.kept YR (.inr bq);have ul:aS w.heap.size w FK:=ahQ hB YR (λk e=>by cases e;omega);have Ms:=E Ms;have bA:=E (aI.new FK 78 #[ap s1,ap F]);have Y:=E (YS.alloc (aD #[ap s1,ap F] 78));have iP:=ul.size;clear Q8 YP YQ YS D;obtain⟨vv,rv⟩:=aP (O A1 n1 c1);have iG:sliceLen vv=ps.length:=by rw[<-rv];exact z.A
     rw[rv] at Y bq⊢;clear rv;go_wp2_with ((refine afP au (.tmp 32) (.tmp 36) 49 au (w.heap.size+1) 78 (aY #[ap ⟨#[]⟩,ap ⟨#[]⟩]) 32 underlying49 Dn rfl rr _ ps au Y.A (s1,F) ⟨rfl,rfl⟩ FK.heap.size 1 78 au bA.A an an aw ?_;intro v' w' bC V iD));go_roundw;case rel=>
      refine⟨ps++[(s1,F)],Q,E bC,E ?_,E ?_,Q7,E (λ_ _=>bJ),aw,?_⟩
      ·intro q o;rcases kf.1 o with h|h
       ·exact R.A q h
       ·simp at h;subst h;exact⟨cM.A,bM.A⟩
      ·exact(Ms.A.alloc an _).grown V (λe=>bq e.symm) (λk e=>by have:=Y.A.nI k e;omega) aw
      ·exact(ul.alloc ul.size _).grown V aw (λk e=>by have:=Y.A.nI k e;omega)
     case measure=>rw[bC.sliceLen];have:=z.A;simp[sliceLen];omega
    ·have aR:ps.length=N:=by have:=K.A.1;have:=z.A;omega
     have cL:=E (show uk l=if bH ps=true then .ok (ps,r) else .error 1 by
      have h2:=K.A.2;rw[aR,Nat.sub_self] at h2;rw[HX.A,<-h2];rfl)
     have bR:decide (n1<N)=false:=aa aK;have dj:=E ei;have Mr:=E f;have bw:=E D.A;have bm:=E R.A;clear ei f D R j K;cases Mu:bH ps
     ·have W:=E (show uk l= .error 1 by rw[cL.A,Mu];rfl);go_wp2_with fail;refine(Ih A1 n1 c1 ps _ (ai z.A) C.A).ah ?_;rintro e w2⟨rfl,H⟩;rw[Mu];have m:=Mr.A.al H YN;have k1:=m.cell 1;have k2:=m.frozen 1;have k3:=m.lt;have xn:∀p:ba (w2.setCell (ab w.heap.size 1 M) (J I 1)),p.aL.cell? (ab w.heap.size 1 M)=ad (J I 1):=λp=>(p.eP (m.put 1 (J I 1))).cell 1;have Dd:aS w.heap.size w (w2.setCell (ab w.heap.size 1 M) (J I 1)):=(hB.trans (H.mono hB.size)).setCell (by exact aO _) _;clear m;go_wp2_with fail;refine pk ar ar ?_;repeat (
       refine WQ.step (λKK y=>?_);go_simp;refine y _ ?_;clear y KK)
      refine WQ.bh ?_;rintro S⟨⟨L,o⟩,t⟩;obtain rfl:L=S:=t.symm;clear t;go_wp2;refine bF (v:=bn #[O M 0 0,O M 0 0,J I 1]) arw rfl ?_;exact⟨by rw[W.A];exact⟨rfl,an⟩,Dd.trans (o.mono Dd.size)⟩
     ·have W:=E (show uk l= .ok (ps,r) by rw[cL.A,Mu];rfl);go_wp2_with fail;refine(Ih A1 n1 c1 ps _ (ai z.A) C.A).ah ?_;rintro e w2⟨rfl,H⟩;rw[Mu];have m:=Mr.A.al H YN;have k1:=m.cell 1;have nZ:∀p:ba w2,p.aL.cell? (ab w.heap.size 0 M)=ad (O A2 n2 c2):=λp=>(p.eP m).cell 0;clear m;go_wp2_with fail;refine pk ar ar ?_;repeat (
       refine WQ.step (λKK y=>?_);go_simp;refine y _ ?_;clear y KK)
      refine WQ.bh ?_;rintro S⟨⟨L,o⟩,t⟩;obtain rfl:L=S:=t.symm;clear t;go_wp2;refine bF (v:=bn #[O A1 n1 c1,O A2 n2 c2,J I 0]) arw rfl ?_;have FL:=H.trans (o.mono H.size);exact⟨by rw[W.A];exact⟨A1,n1,c1,A2,n2,c2,rfl,C.A.aL FL,FJ,a2,ai z.A,dj.A.al (FL.mono an),aW,bL,⟨_,bw.A.al FL⟩,bm.A⟩,hB.trans (FL.mono hB.size)⟩
structure Nt where
 ao:Option aX
 n:Nat
 c:Nat
 L:aZ
 f:Bool
 t:Int
 k:Int
 x:Int
instance:Inhabited Nt:=⟨⟨M,0,0,[],false,0,0,0⟩⟩
def Nt.cells (y:Nt):List aE:=[O y.ao y.n y.c,aG y.f,J I y.t,J I y.k,J I y.x]
def Nt.val (y:Nt):aE:=aY #[O y.ao y.n y.c,aG y.f,J I y.t,J I y.k,J I y.x]
def nt (ns:List Nt) (i:Nat):Nt:=ns.getD i default
def jx (ns:List Nt):List aE:=ns.flatMap Nt.cells
def Zo (ns:List Nt):(jx ns).length=ns.length*5:=by
 unfold jx;induction ns with
 |nil=>rfl
 |cons x l a=>rw[List.flatMap_cons,b2,a];simp[Nt.cells];omega
def aiE (l m:List Nt):jx (l++m)=jx l++jx m:=by unfold jx;rw[List.flatMap_append]
def Zp:∀(l:List Nt) (i:Nat),i<l.length->∀j,j<5->(jx l)[i*5+j]?=(nt l i).cells[j]?
 |x::l,0,_,j,hj=>by
  have e:jx (x::l)=x.cells++jx l:=rfl
  rw[e,Nat.zero_mul,ig,List.getElem?_append_left (by simpa[Nt.cells] using hj)]
  rfl
 |x::l,i+1,h,j,hj=>by
  have:=Zp l i (am h) j hj
  have e:jx (x::l)=x.cells++jx l:=rfl
  rw[e,List.getElem?_append_right (by simp[Nt.cells];omega),show(i+1)*5+j-x.cells.length=i*5+j by simp[Nt.cells];omega,this]
  rfl
structure Rn (w:aB) (B:Nat) (y:Nt):Prop where
 hN:fm w B y.ao y.n y.L
 cap:y.n<=y.c/\y.c<=9223372036854775807
structure ia (w:aB) (B:Nat) (ao:Option aX) (n:Nat) (ns:List Nt):Prop where
 len:ns.length=n
 sl:Sl w B ao (n*5) (λi=>(jx ns).getD i (aG false))
 rE:∀i,i<n->Rn w B (nt ns i)
section
variable {w w':aB} {B B' n:Nat} {ao:Option aX} {ns:List Nt} {y:Nt}
def Rn.al (h:Rn w B y) (Z:aS B w w'):Rn w' B y:=⟨h.hN.al Z,h.cap⟩
def Rn.bt (h:Rn w B y) (hB:B<=B'):Rn w B' y:=⟨h.hN.bt hB,h.cap⟩
def Rn.aL (h:Rn w w.heap.size y) (Z:aS w.heap.size w w'):Rn w' w'.heap.size y:=⟨h.hN.aL Z,h.cap⟩
def ia.bh (w:aB) (B:Nat) (ao:Option aX):ia w B ao 0 []:=⟨rfl,Sl.zero _ _ _ _,λi hi=>ae hi (Nat.not_lt_zero _)⟩
def ia.al (h:ia w B ao n ns) (Z:aS B w w'):ia w' B ao n ns:=⟨h.len,h.sl.al Z,λi hi=>(h.rE i hi).al Z⟩
def ia.bt (h:ia w B ao n ns) (hB:B<=B'):ia w B' ao n ns:=⟨h.len,h.sl.bt hB,λi hi=>(h.rE i hi).bt hB⟩
def ia.aL (h:ia w w.heap.size ao n ns) (Z:aS w.heap.size w w'):ia w' w'.heap.size ao n ns:=⟨h.len,h.sl.aL Z,λi hi=>(h.rE i hi).aL Z⟩
def ia.at_ (h:ia w B ao n ns) {k:Nat} (a:k<n):∃b off,ao=ad (ab b off M)/\b<B/\w.cell? ⟨b,off+k*5,M⟩=ad (O (nt ns k).ao (nt ns k).n (nt ns k).c)/\w.cell? ⟨b,off+k*5+1,M⟩=ad (aG (nt ns k).f)/\w.cell? ⟨b,off+k*5+2,M⟩=ad (J I (nt ns k).t)/\w.cell? ⟨b,off+k*5+3,M⟩=ad (J I (nt ns k).k)/\w.cell? ⟨b,off+k*5+4,M⟩=ad (J I (nt ns k).x):=by
 obtain⟨b,off,e,Z,d⟩:=h.sl an;have g:∀j v,j<5->(nt ns k).cells[j]?=ad v->w.cell? ⟨b,off+k*5+j,M⟩=ad v:=λj v hj hv=>by
  have i:=Zp ns k (by rw[h.len];exact a) j hj;rw[Nat.add_assoc,d (k*5+j) an];show ad ((jx ns).getD (k*5+j) (aG false))=ad v;rw[dd,i,hv];rfl
 exact⟨b,off,e,Z,g 0 _ an rfl,g 1 _ an rfl,g 2 _ an rfl,g 3 _ an rfl,g 4 _ an rfl⟩
end
def et (t:Int):Bool:=decide (0<=t)&&decide (t<=9007199254740992)
def sX {t:Int}:et t=true↔0<=t/\t<=9007199254740992:=by simp[et]
def ga (t:Int):Int:=min (max t 0) 9007199254740992
def MH (t:Int):0<=ga t/\ga t<=9007199254740992:=by unfold ga;omega
theorem Rt (h:P:=by
 rw[hT];go_enter func47,ntmps47;go_wp2;go_ret;exact⟨rfl,rfl⟩;):P:=h
def vJ (t:Int) (w:aB):aN aH 47 #[J I t] w λe w'=>e=aQ (aG (et t))/\w'=w:=by
 by_cases h0:0<=t
 ·by_cases a:t<=9007199254740992
  ·have hT:et t=true:=by simp[et,h0,a]
   exact Rt
  ·have hT:et t=false:=by simp[et,a]
   have d1:decide (t<=9007199254740992)=false:=aa a;exact Rt
 ·have hT:et t=false:=by simp[et,h0]
  have d1:decide (0<=t)=false:=aa h0;exact Rt
theorem Ru (h:P:=by
 rw[HN.A];go_enter func113,ntmps113;go_wp2;all_goals first
  |(exfalso;omega)
  |(go_ret;exact⟨rfl,rfl⟩)
 ):P:=h
def MI (t:Int) (w:aB):aN aH 113 #[J I t] w λe w'=>e=aQ (J I (ga t))/\w'=w:=by
 by_cases h0:t<0
 ·have HN:=E (show ga t=0 by unfold ga;omega);exact Ru
 ·by_cases a:9007199254740992<t
  ·have HN:=E (show ga t=9007199254740992 by unfold ga;omega);exact Ru
  ·have HN:=E (show ga t=t by unfold ga;omega);exact Ru
def kX:Nat->Nat
 |0=>1000
 |k+1=>min (2*kX k) 64000
def aiF (k:Nat):1000<=kX k/\kX k<=64000:=by
 induction k with
 |zero=>simp[kX]
 |succ k a=>simp only[kX];omega
def Rv (h:kX k=64000):∀j,kX (k+j)=64000
 |0=>h
 |j+1=>by have:=Rv h j;rw[<-Nat.add_assoc];simp only[kX];omega
def bk6 (j:Nat):kX (6+j)=64000:=Rv aq j
def Zq (h:kX k<64000):kX (k+1)=2*kX k/\2*kX k<=64000:=by
 by_cases h6:k<6
 ·have:k=0\/k=1\/k=2\/k=3\/k=4\/k=5:=by omega
  rcases this with rfl|rfl|rfl|rfl|rfl|rfl<;>decide
 ·have:=bk6 (k-6);rw[show 6+(k-6)=k by omega] at this;omega
def aiG (h:kX k=64000) (hn:k<=n):kX n=64000:=by
 have:=Rv h (n-k);rw[show k+(n-k)=n by omega] at this;exact this
def aiH (t:Int) (w:aB) (g:t<=9223372036854775807):aN aH 115 #[J I t] w λe w'=>e=aQ (J I (kX t.toNat:Nat))/\w'=w:=by
 go_enter func115,ntmps115;go_wp2;go_loopw [3,4] (λs i wr=>∃(b j:Nat),a6 (b=kX j)/\i=J I j/\s=J I b/\a6 (j<=t.toNat)/\b<=64000/\wr=w) (λ_ i _=>t.toNat-(intOf i).toNat);case atStart=>exact⟨1000,0,E rfl,rfl,rfl,E an,an,rfl⟩
 case round=>
  obtain⟨b,j,Z,rfl,rfl,hj,f,rfl⟩:=hrel;by_cases c:(j:Int)<t
  ·by_cases h2:(b:Int)<64000
   ·have HX:=E (show 2*b=kX (j+1) by have:=Zq (k:=j) (by rw[<-Z.A];omega);rw[this.1,Z.A]);have a:2*b<=64000:=by have:=Zq (k:=j) (by rw[<-Z.A];omega);rw[Z.A];exact this.2
    have m:j<=9223372036854775806:=ai hj.A;go_wp2;go_roundw;case rel=>exact⟨2*b,j+1,HX,by go_num,by go_num,E an,a,trivial⟩
    case measure=>exact aA
   ·have HX:=E (show kX t.toNat=b by rw[aiG (k:=j) (by rw[<-Z.A];omega) hj.A];omega);have d:b=64000:=an;subst d;have l:decide (((64000:Nat):Int)<64000)=false:=aq;go_wp2;go_ret;refine⟨?_,rfl⟩;rw[HX.A];rfl
  ·have HX:=E (show kX t.toNat=b by rw[Z.A,show t.toNat=j by have:=hj.A;omega]);have d1:decide ((j:Int)<t)=false:=aa c;go_wp2;all_goals first
    |(go_ret;exact⟨by rw[HX.A];rfl,rfl⟩)
    |(go_ret;exact⟨by rw[HX.A];congr 2;omega,rfl⟩)
    |(exfalso;omega)
variable {d:Int}
def BA (y:Nt):Prop:=bH y.L=true/\et y.t=true/\et y.x=true/\0<=y.k/\y.k<8
def BB (k:Nat) (ns:List Nt):Prop:=∀i,i<k->BA (nt ns i)
def BC (ns:List Nt) (d l:Int):Prop:=ns.length<=16/\et d=true/\et l=true/\BB ns.length ns
open Classical in
noncomputable def jQ (ns:List Nt) (d l:Int):Bool:=decide (BC ns d l)
def BD {ns:List Nt} {l:Int}:jQ ns d l=true↔BC ns d l:=by unfold jQ;simp
def Rx {ns:List Nt} {l:Int}:jQ ns d l=false↔¬BC ns d l:=by unfold jQ;simp
def BB.succ {ns:List Nt} (h:BB k ns) (a:BA (nt ns k)):BB (k+1) ns:=λi hi=>by
 rcases gy i k with h'|h'
 ·exact h i h'
 ·obtain rfl:i=k:=by omega
  exact a
theorem Ry (h:P:=by
 have uo:=E c2;clear c2;have HC3:=E c3;clear c3;go_wp2_with fail;refine(vJ yt _).ah ?_;rintro e w1⟨rfl,rfl⟩;rw[uo.A];go_wp2_with fail;refine(vJ yx _).ah ?_;rintro e w1⟨rfl,rfl⟩;rw[HC3.A];go_wp2;go_ret;exact⟨cc HS.A.symm,cP⟩;):P:=h
theorem Rz (h:P:=by
 go_wp2;go_ret;exact⟨cc HS.A.symm,(bk _ _).alloc (aO _) _⟩;):P:=h
def Zr (ao:Option aX) (n c:Nat) (d l:Int) (ns:List Nt) (w:aB) (hn:n<=9223372036854775807) (Z:ia w w.heap.size ao n ns):aN aH 26 #[aY #[O ao n c,J I d,J I l]] w λe w'=>e=aQ (aG (jQ ns d l))/\aS w.heap.size w w':=by
 have R:=E Z;clear Z;have A:=E R.A.len;by_cases S:n<=16;case neg=>
  have HS:=E (show jQ ns d l=false from Rx.2 λh=>S (by have:=h.1;rw[A.A] at this;exact this));go_enter func26,ntmps26;exact Rz
 have aJ:decide (16<n)=false:=aa an;have aM:decide (16<(n:Int))=false:=aa an;cases j:et d
 ·have HS:=E (show jQ ns d l=false from Rx.2 λh=>by rw[h.2.1] at j;cases j);have r:=E j;clear j;go_enter func26,ntmps26;go_wp2_with fail;refine(vJ d _).ah ?_;rintro e w1⟨rfl,rfl⟩;rw[r.A];exact Rz
 cases q:et l
 ·have HS:=E (show jQ ns d l=false from Rx.2 λh=>by rw[h.2.2.1] at q;cases q);have r:=E j;clear j;have z:=E q;clear q;go_enter func26,ntmps26;go_wp2_with fail;refine(vJ d _).ah ?_;rintro e w1⟨rfl,rfl⟩;rw[r.A];go_wp2_with fail;refine(vJ l _).ah ?_;rintro e w1⟨rfl,rfl⟩;rw[z.A];exact Rz
 have r:=E j;clear j;have z:=E q;clear q;go_enter func26,ntmps26;go_wp2_with fail;refine(vJ d _).ah ?_;rintro e w1⟨rfl,rfl⟩;rw[r.A];go_wp2_with fail;refine(vJ l _).ah ?_;rintro e w1⟨rfl,rfl⟩;rw[z.A];go_wp2;go_loopw [24] (λi wr=>∃k:Nat,k<=n/\i=J I k/\a6 (BB k ns)/\aS w.heap.size w wr) (λi _=>n-(intOf i).toNat);case atStart=>exact⟨0,an,rfl,E (λi hi=>ae hi an),(bk _ _).alloc (aO _) _⟩
 case round=>
  obtain⟨k,hk,rfl,T,hB⟩:=hrel;by_cases N:k<n
  ·obtain⟨b,off,rfl,s,H,K,L,F,D⟩:=R.A.at_ N;obtain⟨y,x⟩:∃y,a6 (nt ns k=y):=⟨_,E rfl⟩;rw[x.A] at H K L F D;have X:wr.cell? ⟨b,off+k*5,M⟩=ad (O y.ao y.n y.c):=(hB.cell (p:=(ab b _ M)) s).trans H;have dS:wr.cell? ⟨b,off+k*5+1,M⟩=ad (aG y.f):=(hB.cell (p:=(ab b _ M)) s).trans K;have Y:wr.cell? ⟨b,off+k*5+2,M⟩=ad (J I y.t):=(hB.cell (p:=(ab b _ M)) s).trans L;have V:wr.cell? ⟨b,off+k*5+3,M⟩=ad (J I y.k):=(hB.cell (p:=(ab b _ M)) s).trans F;have W:wr.cell? ⟨b,off+k*5+4,M⟩=ad (J I y.x):=(hB.cell (p:=(ab b _ M)) s).trans D;clear H K L F D;have U:=E (show Rn w w.heap.size y by rw[<-x.A];exact R.A.rE k N);have u:=E (show jQ ns d l=true->BA y fromλh=>by rw[<-x.A];exact(BD.1 h).2.2.2 k (by rw[A.A];exact N));have Q:=E (show BA y->BB (k+1) ns fromλh=>T.A.succ (by rw[x.A];exact h));obtain⟨g,f,m,B,o,yt,a,yx⟩:=y;dsimp only at X dS Y V W;have G:f<=9223372036854775807:=by have:=U.A.cap;simp at this;omega
   have v:=hB.alloc hB.size (aD #[O g f m,aG o,J I yt,J I a,J I yx] 117);have HP:=E (show fm (wr.alloc (aD #[O g f m,aG o,J I yt,J I a,J I yx] 117)) (wr.alloc (aD #[O g f m,aG o,J I yt,J I a,J I yx] 117)).heap.size g f B from U.A.hN.aL v);go_wp2_with fail;refine(Ih g f m B _ G HP.A).ah ?_;rintro e C⟨rfl,t⟩;have cP:=v.trans (t.mono v.size);have ef:C.cell? (ab wr.heap.size 2 M)=ad (J I yt):=((aI.new wr 117 #[O g f m,aG o,J I yt,J I a,J I yx]).al t av).cell 2;have cG:C.cell? (ab wr.heap.size 4 M)=ad (J I yx):=((aI.new wr 117 #[O g f m,aG o,J I yt,J I a,J I yx]).al t av).cell 4;have de:C.cell? (ab wr.heap.size 3 M)=ad (J I a):=((aI.new wr 117 #[O g f m,aG o,J I yt,J I a,J I yx]).al t av).cell 3;clear t v;cases c1:bH B
   ·have HS:=E (show jQ ns d l=false by
     cases h:jQ ns d l
     ·rfl
     ·have:=(u.A h).1;simp only at this;rw[c1] at this;cases this)
    go_wp2;go_ret;exact⟨cc HS.A.symm,cP⟩
   cases c2:et yt
   ·have HS:=E (show jQ ns d l=false by
     cases h:jQ ns d l
     ·rfl
     ·have:=(u.A h).2.1;simp only at this;rw[c2] at this;cases this)
    have uo:=E c2;clear c2;go_wp2_with fail;refine(vJ yt _).ah ?_;rintro e w1⟨rfl,rfl⟩;rw[uo.A];go_wp2;go_ret;exact⟨cc HS.A.symm,cP⟩
   cases c3:et yx
   ·have HS:=E (show jQ ns d l=false by
     cases h:jQ ns d l
     ·rfl
     ·have:=(u.A h).2.2.1;simp only at this;rw[c3] at this;cases this)
    exact Ry
   by_cases c4:a<0
   ·have HS:=E (show jQ ns d l=false by
     cases h:jQ ns d l
     ·rfl
     ·have:=(u.A h).2.2.2.1;simp only at this;omega)
    exact Ry
   have d4:decide (a<0)=false:=aa c4;by_cases c5:8<=a
   ·have HS:=E (show jQ ns d l=false by
     cases h:jQ ns d l
     ·rfl
     ·have:=(u.A h).2.2.2.2;simp only at this;omega)
    exact Ry
   have d5:decide (8<=a)=false:=aa c5;have Q:=E (Q.A ⟨c1,c2,c3,arf,arf⟩);have uo:=E c2;clear c2;have HC3:=E c3;clear c3;go_wp2_with fail;refine(vJ yt _).ah ?_;rintro e w1⟨rfl,rfl⟩;rw[uo.A];go_wp2_with fail;refine(vJ yx _).ah ?_;rintro e w1⟨rfl,rfl⟩;rw[HC3.A];go_wp2;go_roundw;case rel=>exact⟨k+1,an,by go_num,Q,cP⟩
   case measure=>exact aA
  ·obtain rfl:k=n:=by omega
   have HS:=E (show jQ ns d l=true from BD.2 ⟨by rw[A.A];exact S,r.A,z.A,by rw[A.A];exact T.A⟩);go_wp2;go_ret;exact⟨cc HS.A.symm,hB⟩
structure QV (w:aB) (B:Nat) (v:aE) (ns:List Nt) (d l:Int):Prop where
 A:∃ao n c,v=aY #[O ao n c,J I d,J I l]/\ia w B ao n ns/\n<=c/\c<=9223372036854775807
section
variable {w w':aB} {B B':Nat} {v:aE} {ns:List Nt} {d l:Int}
def QV.al (h:QV w B v ns d l) (Z:aS B w w'):QV w' B v ns d l:=by
 obtain⟨ao,n,c,e,a,h2⟩:=h.A;exact⟨ao,n,c,e,a.al Z,h2⟩
def QV.bt (h:QV w B v ns d l) (hB:B<=B'):QV w B' v ns d l:=by
 obtain⟨ao,n,c,e,a,h2⟩:=h.A;exact⟨ao,n,c,e,a.bt hB,h2⟩
def QV.aL (h:QV w w.heap.size v ns d l) (Z:aS w.heap.size w w'):QV w' w'.heap.size v ns d l:=(h.al Z).bt Z.size
def QV.bh (w:aB) (B:Nat):QV w B (aY #[O M 0 0,J I 0,J I 0]) [] 0 0:=⟨_,_,_,rfl,ia.bh _ _ _,aO _,an⟩
end
noncomputable def kB (ns:List Nt) (d l:Int):List Nt:=if jQ ns d l then ns else[]
noncomputable def ly (ns:List Nt) (d l x:Int):Int:=if jQ ns d l then x else 0
def aiI:jQ [] 0 0=true:=BD.2 ⟨av,aq,aq,λi hi=>ae hi av⟩
def Zs (ns:List Nt) (d l:Int):BC (kB ns d l) (ly ns d l d) (ly ns d l l):=by
 unfold kB ly;cases h:jQ ns d l
 ·simp only[tL,if_false];exact BD.1 aiI
 ·simp only[if_true];exact BD.1 h
def aiJ {ns:List Nt} {l:Int} (h:BC ns d l):kB ns d l=ns/\ly ns d l d=d/\ly ns d l l=l:=by
 have:=BD.2 h;simp[kB,ly,this]
def Zt (B:Nat) (v:aE) (d l:Int) (ns:List Nt) (w:aB) (p:B<=w.heap.size) (Z:QV w B v ns d l):aN aH 112 #[v] w λe w'=>(∃o,e=aQ o/\QV w' B o (kB ns d l) (ly ns d l d) (ly ns d l l))/\aS w.heap.size w w':=by
 obtain⟨ao,n,c,rfl,g,h2,y⟩:=Z.A;have q:=E g;have r:=E (g.bt p);clear g Z;have hn:n<=9223372036854775807:=an;go_enter func112,ntmps112;go_wp2_with fail;refine(Zr ao n c d l ns _ hn (r.A.aL ?cN)).ah ?_;case cN=>exact((bk _ _).alloc (aO _) _).alloc av _
 rintro e a⟨rfl,f⟩;have i:aS w.heap.size w a:=(((bk w.heap.size w).alloc (aO _) _).alloc av _).trans (f.mono aw);have b0:=((aI.new w 31 #[O ao n c,J I d,J I l]).alloc (aD #[O M 0 0,J I 0,J I 0] 31)).al f aw;have cH:=(aI.new (w.alloc (aD #[O ao n c,J I d,J I l] 31)) 31 #[O M 0 0,J I 0,J I 0]).al f av;simp only[eO] at cH;have x0:a.cell? (ab w.heap.size 0 M)=ad (O ao n c):=b0.cell 0;have x:a.cell? (ab w.heap.size 1 M)=ad (J I d):=b0.cell 1;have x2:a.cell? (ab w.heap.size 2 M)=ad (J I l):=b0.cell 2;have m:a.cell? ⟨w.heap.size+1,0,M⟩=ad (O M 0 0):=cH.cell 0;have k:a.cell? ⟨w.heap.size+1,1,M⟩=ad (J I 0):=cH.cell 1;have j:a.cell? ⟨w.heap.size+1,2,M⟩=ad (J I 0):=cH.cell 2;have u:a.frozen? ⟨w.heap.size+1,0,M⟩=false:=cH.frozen 0;have t:a.frozen? ⟨w.heap.size+1,1,M⟩=false:=cH.frozen 1;have s:a.frozen? ⟨w.heap.size+1,2,M⟩=false:=cH.frozen 2;clear f b0 cH;cases hs:jQ ns d l
 ·have b:=E (show kB ns d l=[]/\ly ns d l d=0/\ly ns d l l=0 by unfold kB ly;rw[hs];exact⟨rfl,rfl,rfl⟩);go_wp2;refine bF (v:=aY #[O M 0 0,J I 0,J I 0]) (by simp[bz,results112,go_sem,m,k,j]) rfl ?_;exact⟨⟨_,rfl,by rw[b.A.1,b.A.2.1,b.A.2.2];exact QV.bh _ _⟩,((i.setCell av _).setCell av _).setCell av _⟩
 ·have b:=E (show kB ns d l=ns/\ly ns d l d=d/\ly ns d l l=l by unfold kB ly;rw[hs];exact⟨rfl,rfl,rfl⟩);go_wp2;refine bF (v:=aY #[O ao n c,J I d,J I l]) (by simp[bz,results112,go_sem,m,k,j]) rfl ?_;refine⟨⟨_,rfl,?_⟩,?_⟩;rotate_left
  ·exact((i.setCell av _).setCell av _).setCell av _
  ·rw[b.A.1,b.A.2.1,b.A.2.2];exact⟨ao,n,c,rfl,q.A.al ((((i.setCell av _).setCell av _).setCell av _).mono p),an,an⟩
end Go.Proofs.YtbeaddlblpgppaaGreatDoor
