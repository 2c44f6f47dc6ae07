/- Part 2 of the proof of TopOrder (watchtowertop). Conditions: none. -/
import Derived.Test.YtbeaddlblpgppaaGreatDoorVa
import Derived.Deep.Cut
import Derived.Deep.RegionHeld3
import Derived.DeepKeys5
import Derived.Deep.Slices
import Derived.Lib.SmallJoins
import Derived.WalkLawsBesides
import Derived.BigQuiet
import Derived.Outline
set_option maxRecDepth 100000
set_option maxHeartbeats 8000000
set_option linter.unusedVariables false
set_option linter.unusedSimpArgs false
set_option linter.defProp false
open Go.Lib renaming hid->E
open Go.IntKind renaming i64->I,wrap_i64->b7
open Go.Value renaming int->J,slice->O,string->ap,bool->aG,agg->aY,pointer->bl,tuple->bn,ownBlock->qS
open Option renaming none->M,some->ad
open Go.Addr renaming mk->ab
open Go renaming World->aB,Value->aE,Calls->aN,Addr->aX,Act->bb,TypeId->bf,Oper->bv,results->bz,bodyPost_ret->bF,maxLen->bK,Program->cp,undef->cu,yielded->dR,heap_alloc_new->qR
open Go.Obj renaming cells->aD
open Go.Proofs.Tryz renaming prog->aH
open Nat renaming le_refl->aO,le_trans->a8,zero_le->bV,lt_of_lt_of_le->da,lt_or_ge->gy,zero_add->ig
open Go.Ending renaming returned->aQ
open Go.RowKit renaming Below->aS,Hid->a6
open Go.RowKit.Below renaming refl->bk,heap_setCell->yv
open List renaming length_append->b2,getElem?_eq_getElem->cR,getD_eq_getElem?_getD->dd,getElem_mem->dl,mem_append->kf,map_append->lK,size_toArray->lM,append_assoc->mV,mem_iff_getElem->qV,length->oz,drop_eq_getElem_cons->pf,length_cons->pY,length_map->p6,length_singleton->p8,drop_length->qT,eq_nil_of_length_eq_zero->sb,map_cons->sd,range->se,length_take->tH,mem_of_mem_drop->arC
open Bool renaming and_eq_true->b9,false_eq_true->tL
open Go.Region renaming wanted->dz,ready->iW
open Go.World renaming setCell->eB,size_alloc->eO
open UInt8 renaming ofNat->fN
open Go.Op renaming bytesLess->ii
open And renaming intro->iC
open Go.Instr renaming slice->iV,index->mX
open Exists renaming intro->lL
open Array renaming getElem?_eq_some_iff->lJ,getElem?_eq_none->tK,replicate->tN
open Go.DataW renaming trod->qW
open Go.World.ownsRow renaming lt->CX
open Go.World.grownBy renaming refl->EZ
open Go.Proofs.Tryz
namespace Go.Proofs.YtbeaddlblpgppaaGreatDoor
open Go.RowKit
variable {B g:Nat} {P:Prop} {w' cT:aB} {s0 s1:List UInt8}
open bw
section
open arA
def gI (i:Nat) (l:List UInt8):Option (Nat×List UInt8):=match iu l with
 |some (g,p)=>if g % 2=i then ad (g,p) else M
 |none=>M
def later (a b:Option (Nat×List UInt8)):Option (Nat×List UInt8):=match a,b with
 |none,b=>b
 |some x,M=>ad x
 |some x,ad y=>if x.1<y.1 then ad y else ad x
def pC (s0 s1:List UInt8):Option (Nat×List UInt8):=later (gI 0 s0) (gI 1 s1)
def ME (w':aB) (B:Nat) (x y z:aE):Option (Nat×List UInt8)->Prop
 |none=>x=J I 0/\y=O M 0 0/\z=aG false
 |some (g,p)=>x=J I (g:Int)/\(∃ao n c,y=O ao n c/\Bs w' B ao n p/\n<=c/\c<=9223372036854775807)/\z=aG true
def rB (s0 s1:List UInt8):Nat->Option (Nat×List UInt8)
 |0=>M
 |1=>gI 0 s0
 |_=>pC s0 s1
def ME.al {x y z:aE} {o:Option (Nat×List UInt8)} (h:ME w' B x y z o) (Z:aS B w' cT):ME cT B x y z o:=by
 cases o with
 |none=>exact h
 |some a=>
  obtain⟨g,p⟩:=a;obtain⟨e,⟨ao,n,c,h2,d,h4⟩,b⟩:=h;exact⟨e,⟨ao,n,c,h2,d.al Z,h4⟩,b⟩
theorem Rk (h:P:=by
 go_wp2;go_roundw;case rel=>exact⟨2,an,by go_num,by rw[hE.A];exact⟨rfl,⟨A8,n8,kb,rfl,HP8.A,h8,nu⟩,rfl⟩,bN⟩
 case measure=>simp[intOf]
 ):P:=h
theorem Y6 (h:P:=by
 go_wp2;go_roundw;case rel=>exact⟨2,an,by go_num,aq4,bN⟩
 case measure=>simp[intOf]
 ):P:=h
theorem Y7 (h:P:=by
 go_wp2;go_roundw;case rel=>exact⟨1,an,by go_num,by rw[hE.A];exact⟨rfl,rfl,rfl⟩,bN⟩
 case measure=>simp[intOf]
 ):P:=h
theorem Y8 (h:P:=by
 go_wp2;go_roundw;case rel=>exact⟨2,an,by go_num,by rw[hE.A];exact⟨rfl,rfl,rfl⟩,bN⟩
 case measure=>simp[intOf]
 ):P:=h
def Y9 (A0 A1:Option aX) (n0 c0 n1 c1:Nat) (s0 s1:List UInt8) (w:aB) (R:n0<=9223372036854775807) (D:n1<=9223372036854775807) (U:n0<=c0) (F:n1<=c1) (Q:c0<=9223372036854775807) (B:c1<=9223372036854775807) (cN:Bs w w.heap.size A0 n0 s0) (H:Bs w w.heap.size A1 n1 s1):aN aH 87 #[aY #[O A0 n0 c0,O A1 n1 c1]] w λe w'=>Rh w' w'.heap.size e (pC s0 s1)/\aS w.heap.size w w':=by
 have X:=E cN;clear cN;have L:=E H;clear H;have K:=aI.new w 37 #[O A0 n0 c0,O A1 n1 c1];have k0:(w.alloc (aD #[O A0 n0 c0,O A1 n1 c1] 37)).cell? (ab w.heap.size 0 M)=ad (O A0 n0 c0):=K.cell 0;have Y:(w.alloc (aD #[O A0 n0 c0,O A1 n1 c1] 37)).cell? (ab w.heap.size 1 M)=ad (O A1 n1 c1):=K.cell 1;clear K;have T:∀W,(mX 35 (aY #[O A0 n0 c0,O A1 n1 c1]) (J I 0)).run aH W= .ok (O A0 n0 c0) W:=λW=>by kernel_rfl
 have S:∀W,(mX 35 (aY #[O A0 n0 c0,O A1 n1 c1]) (J I 1)).run aH W= .ok (O A1 n1 c1) W:=λW=>by kernel_rfl
 go_enter func87,ntmps87;go_wp2;go_loopw [5,6,7,15] (λx y z i wr=>∃k:Nat,k<=2/\i=J I k/\ME wr wr.heap.size x y z (rB s0 s1 k)/\aS w.heap.size w wr) (λ_ _ _ i _=>2-(intOf i).toNat);case atStart=>exact⟨0,an,rfl,⟨rfl,rfl,rfl⟩,(bk _ _).alloc (aO _) _⟩
 case round=>
  obtain⟨k,Z,rfl,d,hB⟩:=hrel;by_cases aK:k<2
  ·rcases(show k=0\/k=1 by omega) with rfl|rfl
   ·obtain⟨rfl,rfl,rfl⟩:=d;go_wp2_with fail;refine(Ri A0 n0 c0 s0 _ R U Q (X.A.aL hB)).ah ?_;rintro e A⟨b,f⟩;have bN:=hB.trans (f.mono hB.size);cases a:iu s0 with
    |none=>
     have hE:=E (show rB s0 s1 1=M by show gI 0 s0=M;unfold gI;rw[a]);rw[a] at b;obtain rfl:=b;clear a;exact Y7
    |some l=>
     obtain⟨g,p⟩:=l;rw[a] at b;obtain⟨A9,n9,c9,rfl,j,h1,h2⟩:=b;have HP:=E (j.bt f.size);clear j;by_cases hg:g % 2=0
     ·have hE:=E (show rB s0 s1 1=ad (g,p) by show gI 0 s0=_;unfold gI;rw[a];simp[hg]);have o:((g:Int) % 2!=0)=false:=by have:(g:Int) % 2=0:=an;simp[this]
      have q:=E hg;clear a hg;go_wp2;go_roundw;case rel=>exact⟨1,an,by go_num,aq4,bN⟩
      case measure=>simp[intOf]
     ·have hE:=E (show rB s0 s1 1=M by show gI 0 s0=_;unfold gI;rw[a];simp[hg]);have o:((g:Int) % 2!=0)=true:=bne_iff_ne.2 an;have q:=E hg;clear a hg;exact Y7
   ·have C:rB s0 s1 1=gI 0 s0:=rfl;have G:rB s0 s1 2=later (gI 0 s0) (gI 1 s1):=rfl;rw[C] at d;have m:=E G;clear C G;cases ho:gI 0 s0 with
    |none=>
     rw[ho] at d;have c:=E ho;clear ho;obtain⟨rfl,rfl,rfl⟩:=d;go_wp2_with fail;refine(Ri A1 n1 c1 s1 _ D F B (L.A.aL hB)).ah ?_;rintro e A⟨b,f⟩;have bN:=hB.trans (f.mono hB.size);cases a:iu s1 with
     |none=>
      have hE:=E (show rB s0 s1 2=M by rw[m.A,c.A];show gI 1 s1=M;unfold gI;rw[a]);rw[a] at b;obtain rfl:=b;clear a;exact Y8
     |some l=>
      obtain⟨g,p⟩:=l;rw[a] at b;obtain⟨A9,n9,c9,rfl,j,h1,h2⟩:=b;have HP:=E (j.bt f.size);clear j;by_cases hg:g % 2=1
      ·have hE:=E (show rB s0 s1 2=ad (g,p) by rw[m.A,c.A];show gI 1 s1=_;unfold gI;rw[a];simp[hg]);have o:((g:Int) % 2!=1)=false:=by have:(g:Int) % 2=1:=an;simp[this]
       have q:=E hg;clear a hg;exact Y6
      ·have hE:=E (show rB s0 s1 2=M by rw[m.A,c.A];show gI 1 s1=_;unfold gI;rw[a];simp[hg]);have o:((g:Int) % 2!=1)=true:=bne_iff_ne.2 an;have q:=E hg;clear a hg;exact Y8
    |some u=>
     obtain⟨n,t⟩:=u;rw[ho] at d;have c:=E ho;clear ho;obtain⟨rfl,⟨A8,n8,kb,rfl,r,h8,nu⟩,rfl⟩:=d;go_wp2_with fail;refine(Ri A1 n1 c1 s1 _ D F B (L.A.aL hB)).ah ?_;rintro e A⟨b,f⟩;have bN:=hB.trans (f.mono hB.size);have HP8:=E ((r.al f).bt f.size);clear r;cases a:iu s1 with
     |none=>
      have hE:=E (show rB s0 s1 2=ad (n,t) by rw[m.A,c.A];have:gI 1 s1=M:=(by unfold gI;rw[a]);rw[this];rfl);rw[a] at b;obtain rfl:=b;clear a;exact Rk
     |some l=>
      obtain⟨g,p⟩:=l;rw[a] at b;obtain⟨A9,n9,c9,rfl,j,h1,h2⟩:=b;have HP:=E (j.bt f.size);clear j;by_cases hg:g % 2=1
      ·have N:=E (show gI 1 s1=ad (g,p) by unfold gI;rw[a];simp[hg]);have o:((g:Int) % 2!=1)=false:=by have:(g:Int) % 2=1:=an;simp[this]
       have q:=E hg;clear a hg;by_cases s:n<g
       ·have hE:=E (show rB s0 s1 2=ad (g,p) by rw[m.A,c.A,N.A];simp[later,s]);exact Y6
       ·have hE:=E (show rB s0 s1 2=ad (n,t) by rw[m.A,c.A,N.A];simp[later,s]);have V:decide (n<g)=false:=aa s;exact Rk
      ·have hE:=E (show rB s0 s1 2=ad (n,t) by rw[m.A,c.A];have:gI 1 s1=M:=(by unfold gI;rw[a];simp[hg]);rw[this];rfl);have o:((g:Int) % 2!=1)=true:=bne_iff_ne.2 an;have q:=E hg;clear a hg;exact Rk
  ·obtain rfl:k=2:=by omega
   have hs:rB s0 s1 2=pC s0 s1:=rfl;rw[hs] at d;clear hs;cases ho:pC s0 s1 with
   |none=>
    rw[ho] at d;obtain⟨rfl,rfl,rfl⟩:=d;have c:=E ho;clear ho;go_wp2;refine bF (v:=bn #[J I 0,O M 0 0,aG false]) (by simp[bz,results87,go_sem]) rfl ⟨?_,?_⟩
    ·rw[c.A];rfl
    ·exact hB
   |some l=>
    obtain⟨g,p⟩:=l;rw[ho] at d;obtain⟨rfl,⟨A8,n8,kb,rfl,r,h8,nu⟩,rfl⟩:=d;have c:=E ho;clear ho;have HP:=E r;clear r;go_wp2;refine bF (v:=bn #[J I (g:Int),O A8 n8 kb,aG true]) (by simp[bz,results87,go_sem]) rfl ⟨?_,?_⟩
    ·rw[c.A];exact⟨A8,n8,kb,rfl,HP.A,h8,nu⟩
    ·exact hB
def jw (s0 s1:List UInt8):Nat:=match pC s0 s1 with
 |none=>0
 |some (g,_)=>g+1
def aio {p:List UInt8} (h:pC s0 s1=ad (g,p)):g<=9007199254740992:=by
 have b:∀l g p,iu l=ad (g,p)->g<=9007199254740992:=by
  intro l g p h;unfold iu at h;split at h
  ·split at h
   ·split at h
    ·cases h;assumption
    ·cases h
   ·cases h
  ·cases h
 have ho:∀i l g p,gI i l=ad (g,p)->g<=9007199254740992:=by
  intro i l g p h;unfold gI at h;split at h
  ·rename_i g' c h';split at h
   ·cases h;exact b _ _ _ h'
   ·cases h
  ·cases h
 unfold pC later at h;split at h
 ·exact ho _ _ _ _ h
 ·rename_i a h2;cases h;exact ho _ _ _ _ a
 ·rename_i a h2;split at h
  ·cases h;exact ho _ _ _ _ h2
  ·cases h;exact ho _ _ _ _ a
def aip (A0 A1:Option aX) (n0 c0 n1 c1:Nat) (s0 s1:List UInt8) (w:aB) (j:n0<=9223372036854775807) (n:n1<=9223372036854775807) (m:n0<=c0) (o:n1<=c1) (i:c0<=9223372036854775807) (l:c1<=9223372036854775807) (cN:Bs w w.heap.size A0 n0 s0) (f:Bs w w.heap.size A1 n1 s1):aN aH 82 #[aY #[O A0 n0 c0,O A1 n1 c1]] w λe w'=>e=aQ (J I (jw s0 s1:Nat))/\aS w.heap.size w w':=by
 have c:aS w.heap.size w (w.alloc (aD #[O A0 n0 c0,O A1 n1 c1] 37)):=(bk _ _).alloc (aO _) _;have r:=E (cN.aL c);clear cN;have q:=E (f.aL c);clear f;have K:=aI.new w 37 #[O A0 n0 c0,O A1 n1 c1];have k0:(w.alloc (aD #[O A0 n0 c0,O A1 n1 c1] 37)).cell? (ab w.heap.size 0 M)=ad (O A0 n0 c0):=K.cell 0;have u:(w.alloc (aD #[O A0 n0 c0,O A1 n1 c1] 37)).cell? (ab w.heap.size 1 M)=ad (O A1 n1 c1):=K.cell 1;clear K;go_enter func82,ntmps82;go_wp2_with fail;refine(Y9 A0 A1 n0 c0 n1 c1 s0 s1 _ j n m o i l r.A q.A).ah ?_;rintro e s⟨b,Z⟩;have hB:=c.trans (Z.mono c.size);cases a:pC s0 s1 with
 |none=>
  have d:=E (show jw s0 s1=0 by unfold jw;rw[a]);rw[a] at b;obtain rfl:=b;clear a;go_wp2;go_ret;exact⟨by rw[d.A];rfl,hB⟩
 |some h=>
  obtain⟨g,p⟩:=h;have d:=E (show jw s0 s1=g+1 by unfold jw;rw[a]);have k:=aio a;rw[a] at b;obtain⟨x,t,v,rfl,-,-,-⟩:=b;clear a;go_wp2;go_ret;exact⟨by rw[d.A];rfl,hB⟩
end
variable {n k:Nat}
section
open arA
def Za:∀(f n i aT k:Nat),n<128^(f+1)->k<(bu n).length->lN (f+1) i aT ((bu n).take k)= .error 3
 |f,n,i,aT,0,h,hk=>by simp[lN]
 |f,n,i,aT,k+1,h,hk=>by
  by_cases b:n<128
  ·rw[yC b] at hk;simp at hk
  ·rw[CZ b] at hk⊢;have c:∃a,f=a+1:=by
    cases f with
    |zero=>simp at h;omega
    |succ a=>exact⟨a,rfl⟩
   obtain⟨a,rfl⟩:=c;have d:=Nat.mod_lt n (show 0<128 by omega);have e:(fN (n % 128+128)).toNat=n % 128+128:=UInt8.toNat_ofNat_of_lt' ark;simp only[List.take_succ_cons,lN,e];rw[ag an];exact Za a (n/128) (i+1) _ k arv (am hk)
def aiq (h:n<=1152921504606846976) (a:k<(bu n).length):e9 ((bu n).take k)= .error 3:=Za 8 n 0 0 k (pj n h) a
def air (q:List UInt8) (b:q.length<=65536) (k:Nat) (d:k<(kK q).length):kL ((kK q).take k)= .error 3:=by
 unfold kL;have a:kK q=bu q.length++(q++ki (sum (gB q))):=by unfold kK;rw[mV]
 by_cases h:k<(bu q.length).length
 ·have e:(kK q).take k=(bu q.length).take k:=by rw[a,List.take_append_of_le_length an]
  rw[e,aiq an h]
 ·have e:(kK q).take k=bu q.length++(q++ki (sum (gB q))).take (k-(bu q.length).length):=by
   rw[a,List.take_append,List.take_of_length_le an]
  have c:(kK q).length=(bu q.length).length+q.length+4:=by rw[a];simp[Lo];omega
  rw[e,C0 _ _ an];simp only;rw[af an,ag (by rw[tH];omega)]
def Zb (g:Nat) (p:List UInt8) (hg:g<=9007199254740992) (a:(bu g++p).length<=65536):iu (kK (bu g++p))=ad (g,p):=by
 unfold iu;have:=afA (bu g++p) [] a;rw[List.append_nil] at this;rw[this];simp only;rw[C0 g p an];simp only;rw[ag hg]
def ais {l:List UInt8} {c:Nat} (h:kL l= .error c):iu l=M:=by unfold iu;rw[h]
end
variable {w:aB} {v:aE} {gen:Int}
section
open arA
structure Dk (w:aB) (v:aE) (s0 s1:List UInt8):Prop where
 A:∃A0 n0 c0 A1 n1 c1,v=aY #[O A0 n0 c0,O A1 n1 c1]/\Bs w w.heap.size A0 n0 s0/\Bs w w.heap.size A1 n1 s1/\(n0<=c0/\c0<=9223372036854775807/\n0<=9223372036854775807)/\(n1<=c1/\c1<=9223372036854775807/\n1<=9223372036854775807)
def Dk.aL (h:Dk w v s0 s1) (Z:aS w.heap.size w w'):Dk w' v s0 s1:=by
 obtain⟨A0,n0,c0,A1,n1,c1,rfl,h0,a,r⟩:=h.A;exact⟨A0,n0,c0,A1,n1,c1,rfl,h0.aL Z,a.aL Z,r⟩
def Dk.empty (w:aB):Dk w (aY #[O M 0 0,O M 0 0]) [] []:=⟨M,0,0,M,0,0,rfl,Bs.bh _ _ _,Bs.bh _ _ _,⟨an,an,an⟩,⟨an,an,an⟩⟩
noncomputable def zw (s0:List UInt8) (g:Nat) (p:List UInt8) (n:Int):List UInt8:=if g % 2=0 then(ky g p).take n.toNat else s0
noncomputable def zx (s1:List UInt8) (g:Nat) (p:List UInt8) (n:Int):List UInt8:=if g % 2=0 then s1 else(ky g p).take n.toNat
def aj4 {p:List UInt8} (ho:rz gen p):0<(ky gen p).length/\(ky gen p).length<=70000:=by
 rw[DW ho];have a:=ho.2;have h2:=Lm a;have b:=E1 (bu gen.toNat++p).length;unfold kK;simp only[b2,Lo] at*;omega
def aj5 (l:List UInt8) (n:Nat):l.take (min n l.length)=l.take n:=by
 rw[List.take_eq_take_iff];omega
def aj6 (v:aE) (s0 s1:List UInt8) (gen:Nat) (n:Int) (ao:Option aX) (m cap:Nat) (p:List UInt8) (w:aB) (i:Dk w v s0 s1) (hn:m<=70368744177664) (Z:Bs w w.heap.size ao m p) (ho:rz gen p):aN aH 85 #[v,J I (gen:Int),O ao m cap,J I n] w λe w'=>(∃d,e=aQ d/\Dk w' d (zw s0 gen p n) (zx s1 gen p n))/\aS w.heap.size w w':=by
 obtain⟨A0,n0,c0,A1,n1,c1,rfl,h0,j,g,r1⟩:=i.A;refine(aim A0 A1 n0 c0 n1 c1 gen n ao m cap p w hn Z ho).ah ?_;rintro e w'⟨⟨G,k,-,f,c,rfl⟩,hB⟩;refine⟨⟨_,rfl,?_⟩,hB⟩;have hs:=aj4 ho;rw[f,aj5] at c;rw[<-f] at c;have b:Bs w' w'.heap.size (ad (ab G 0 M)) k ((ky gen p).take n.toNat):=c;unfold zw zx;by_cases a:gen % 2=0
 ·rw[ag a,ag a,ag a];exact⟨_,_,_,_,_,_,rfl,b,j.aL hB,⟨an,an,an⟩,r1⟩
 ·rw[af a,af a,af a];exact⟨_,_,_,_,_,_,rfl,h0.aL hB,b,g,⟨an,an,an⟩⟩
def aj7 (v:aE) (s0 s1:List UInt8) (w:aB) (b:Dk w v s0 s1):aN aH 87 #[v] w λe w'=>Rh w' w'.heap.size e (pC s0 s1)/\aS w.heap.size w w':=by
 obtain⟨A0,n0,c0,A1,n1,c1,rfl,h0,c,a,r1⟩:=b.A;exact Y9 A0 A1 n0 c0 n1 c1 s0 s1 w a.2.2 r1.2.2 a.1 r1.1 a.2.1 r1.2.1 h0 c
def aj8 (v:aE) (s0 s1:List UInt8) (w:aB) (b:Dk w v s0 s1):aN aH 82 #[v] w λe w'=>e=aQ (J I (jw s0 s1:Nat))/\aS w.heap.size w w':=by
 obtain⟨A0,n0,c0,A1,n1,c1,rfl,h0,c,a,r1⟩:=b.A;exact aip A0 A1 n0 c0 n1 c1 s0 s1 w a.2.2 r1.2.2 a.1 r1.1 a.2.1 r1.2.1 h0 c
def aI.two (w:aB) (T:bf) (d c a b:aE):aI (((w.alloc (aD #[d,c] T)).setCell (ab w.heap.size 0 M) a).setCell (ab w.heap.size 1 M) b) w.heap.size T #[a,b]:=((aI.new w T #[d,c]).put 0 a).put 1 b
def aS.two (w:aB) (T:bf) (d c a b:aE):aS w.heap.size w (((w.alloc (aD #[d,c] T)).setCell (ab w.heap.size 0 M) a).setCell (ab w.heap.size 1 M) b):=(((bk _ _).alloc (aO _) _).setCell (aO _) _).setCell (aO _) _
end
variable {i:Nat} {L:aZ}
section
open Go.ChangeAt Go.ChangeShapes Go.WideShapes
def toList_inj {a b:ByteArray} (h:a.toList=b.toList):a=b:=by
 rw[ByteArray.toList_eq,ByteArray.toList_eq] at h;apply ByteArray.ext;exact Array.toList_inj.1 h
def arT (a b c d:ByteArray) (w:aB):(Op.equalIn 10000 78 (aY #[ap a,ap b]) (aY #[ap c,ap d])).run aH w= .ok (a.toList==c.toList&&b.toList==d.toList) w:=by
 rw[run_equalIn_agg (P:=aH) w 9999 _ _ _ ar ar];have e:=underlying78;unfold Program.fieldsOf;rw[e];have f:=underlying9;go_simp;cases g:a.toList==c.toList<;>cases h2:b.toList==d.toList<;>simp_all
def DQ (h:i<L.length):(nm L i,vl L i)=L[i]:=by
 unfold nm vl;rw[dd,cR h];rfl
def ahH (ao:Option aX) (n cap:Nat) (L:aZ) (w:aB) (hn:n<=9223372036854775807) (Z:fm w w.heap.size ao n L):aN aH 28 #[O ao n cap] w λe w'=>(∃b,e=aQ (aG b)/\(b=true->n<=40))/\aS w.heap.size w w':=by
 have d:=E Z;clear Z;go_enter func28,ntmps28;go_wp2;go_loopw [3,4] (λs i wr=>∃(k:Nat) (z:Int),k<=n/\i=J I k/\s=J I z/\aS w.heap.size w wr) (λ_ i _=>n-(intOf i).toNat);case atStart=>exact⟨0,0,an,rfl,rfl,bk _ _⟩
 case round=>
  obtain⟨k,z,y,rfl,rfl,hB⟩:=hrel;by_cases a:k<n
  ·obtain⟨b,off,rfl,l,c⟩:=d.A.q an;obtain⟨s0,g⟩:∃s,a6 (nm L k=s):=⟨_,E rfl⟩;obtain⟨s1,f⟩:∃s,a6 (vl L k=s):=⟨_,E rfl⟩;have x:s0.size<=9223372036854775807:=by rw[<-g.A];exact(d.A.sz k a).1
   have B:s1.size<=9223372036854775807:=by rw[<-f.A];exact(d.A.sz k a).2
   have A:∀p:ba wr,p.aL.cell? ⟨b,off+k*2,M⟩=ad (ap s0):=λp=>by rw[<-g.A];exact p.cell aqU ((hB.cell (p:=⟨b,off+k*2,M⟩) l).trans (c k a).1)
   have C:∀p:ba wr,p.aL.cell? ⟨b,off+k*2+1,M⟩=ad (ap s1):=λp=>by rw[<-f.A];exact p.cell aqU ((hB.cell (p:=⟨b,off+k*2+1,M⟩) l).trans (c k a).2)
   clear c;go_wp2_with fail;refine pk ar ar ?_;repeat (
    refine WQ.step (λKK m=>?_);go_simp;refine m _ ?_;clear m KK)
   refine WQ.bh ?_;rintro r⟨⟨q,t⟩,j⟩;obtain rfl:q=r:=j.symm;clear j;go_wp2;go_roundw;case rel=>
    exact⟨k+1,_,an,by go_num,rfl,hB.trans (t.mono hB.size)⟩
   case measure=>exact aA
  ·obtain rfl:k=n:=by omega
   by_cases o:k<=40
   ·go_wp2;refine bF (v:=aG (decide (z<=3000))) (by simp[bz,results28,go_sem]) rfl ⟨⟨_,rfl,λ_=>o⟩,hB⟩
   ·have u:decide (k<=40)=false:=aa o;go_wp2;refine bF (v:=aG false) (by simp[bz,results28,go_sem]) rfl ⟨rfl,hB⟩
def ar6 (ao:Option aX) (n cap:Nat) (L:aZ) (A2:Option aX) (m c2:Nat) (aU:aZ) (w:aB) (hn:n<=9223372036854775807) (Q:m<=9223372036854775807) (Z:fm w w.heap.size ao n L) (F:fm w w.heap.size A2 m aU):aN aH 12 #[O ao n cap,O A2 m c2] w λe w'=>(∃b,e=aQ (aG b)/\(L=aU->b=true))/\aS w.heap.size w w':=by
 have H:=E Z;clear Z;have D:=E F;clear F;by_cases B:n=m
 ·obtain rfl:=B;go_enter func12,ntmps12;go_wp2;go_loopw [5] (λi wr=>∃(k:Nat),k<=n/\i=J I k/\aS w.heap.size w wr) (λi _=>n-(intOf i).toNat);case atStart=>exact⟨0,an,rfl,bk _ _⟩
  case round=>
   obtain⟨k,R,rfl,hB⟩:=hrel;by_cases o:k<n
   ·obtain⟨b,off,rfl,C,u⟩:=H.A.q an;obtain⟨gz,l,rfl,G,v⟩:=D.A.q an;obtain⟨s0,A⟩:∃s,a6 (nm L k=s):=⟨_,E rfl⟩;obtain⟨s1,z⟩:∃s,a6 (vl L k=s):=⟨_,E rfl⟩;obtain⟨c,j⟩:∃s,a6 (nm aU k=s):=⟨_,E rfl⟩;obtain⟨a,y⟩:∃s,a6 (vl aU k=s):=⟨_,E rfl⟩;have S:∀p:ba wr,p.aL.cell? ⟨b,off+k*2,M⟩=ad (ap s0):=λp=>by rw[<-A.A];exact p.cell aqU ((hB.cell (p:=⟨b,off+k*2,M⟩) C).trans (u k o).1)
    have T:∀p:ba wr,p.aL.cell? ⟨b,off+k*2+1,M⟩=ad (ap s1):=λp=>by rw[<-z.A];exact p.cell aqU ((hB.cell (p:=⟨b,off+k*2+1,M⟩) C).trans (u k o).2)
    have N:∀p:ba wr,p.aL.cell? ⟨gz,l+k*2,M⟩=ad (ap c):=λp=>by rw[<-j.A];exact p.cell (by have:=hB.size;show gz<_;omega) ((hB.cell (p:=⟨gz,l+k*2,M⟩) G).trans (v k o).1)
    have U:∀p:ba wr,p.aL.cell? ⟨gz,l+k*2+1,M⟩=ad (ap a):=λp=>by rw[<-y.A];exact p.cell (by have:=hB.size;show gz<_;omega) ((hB.cell (p:=⟨gz,l+k*2+1,M⟩) G).trans (v k o).2)
    clear u v;by_cases d:s0=c/\s1=a
    ·have K:∀W,(Op.equalIn 10000 78 (aY #[ap s0,ap s1]) (aY #[ap c,ap a])).run aH W= .ok true W:=λW=>by rw[arT,d.1,d.2];simp
     clear d;go_wp2_with fail;refine pk ar ar ?_;repeat (
      refine WQ.step (λKK g=>?_);go_simp;refine g _ ?_;clear g KK)
     refine WQ.bh ?_;rintro r⟨⟨q,t⟩,f⟩;obtain rfl:q=r:=f.symm;clear f;go_wp2;go_roundw;case rel=>exact⟨k+1,an,by go_num,hB.trans (t.mono hB.size)⟩
     case measure=>exact aA
    ·have K:∀W,(Op.equalIn 10000 78 (aY #[ap s0,ap s1]) (aY #[ap c,ap a])).run aH W= .ok false W:=λW=>by
      rw[arT];have:(s0.toList==c.toList&&s1.toList==a.toList)=false:=by
       cases h:(s0.toList==c.toList&&s1.toList==a.toList)
       ·rfl
       ·rw[b9,beq_iff_eq,beq_iff_eq] at h;exact ae ⟨toList_inj h.1,toList_inj h.2⟩ d
      rw[this]
     have x:=E (show L≠aU fromλh=>d ⟨by rw[<-A.A,<-j.A,h],by rw[<-z.A,<-y.A,h]⟩);clear d;go_wp2_with fail;refine pk ar ar ?_;repeat (
      refine WQ.step (λKK g=>?_);go_simp;refine g _ ?_;clear g KK)
     refine WQ.bh ?_;rintro r⟨⟨q,t⟩,f⟩;obtain rfl:q=r:=f.symm;clear f;go_wp2;go_ret;exact⟨⟨false,rfl,λh=>ae h x.A⟩,hB.trans (t.mono hB.size)⟩
   ·obtain rfl:k=n:=by omega
    go_wp2;go_ret;exact⟨⟨true,rfl,λ_=>rfl⟩,hB⟩
 ·have x:=E (show L≠aU fromλh=>B (by rw[<-H.A.len,<-D.A.len,h]));go_enter func12,ntmps12;go_wp2;go_ret;exact⟨⟨false,rfl,λh=>ae h x.A⟩,bk _ _⟩
def uj:aE->ByteArray
 |ap s=>s
 |_=>⟨#[]⟩
def ahI (W:aB) (v:aE):Prop:=∃(ao:Option aX) (n c:Nat) (L:aZ),v=O ao n c/\fm W W.heap.size ao n L/\n<=c/\c<=9223372036854775807
section
variable {H:Type} {enc:bf×aE->H} {W:aB} {base:Nat} {v:aE} {d:DataW H} {p:List MemPlace}
theorem ahJ (h:P:=by
 obtain⟨c0,c1,t0,t1⟩:=mi i an;obtain⟨z,e0,-,b0⟩:=DataW.trod_string underlying9 t0;obtain⟨q,e1,-,cH⟩:=DataW.trod_string underlying9 t1;simp at e0 e1;rw[(iD i hi).1,(iD i hi).2,e0,e1];exact⟨b0,cH⟩;):P:=h
theorem ahK (h:P:=by
 refine⟨by simp only[(iD i hi).1];simp only[c0,e0,uj],?_⟩;simp only[(iD i hi).2];simp only[Nat.add_assoc,c1,e1,uj];):P:=h
end
end
variable {ao:Option aX} {wr:aB} {us:List aE}
def j9 (a b:ByteArray):(a.toList==b.toList)=decide (a=b):=by
 by_cases h:a=b
 ·subst h;simp
 ·have:a.toList≠b.toList:=λe=>h (Vo e);simp[h,this]
def WI (h:Rs bE w B L us):∀i,i<L.length->us[i*2]?=ad (ap (nm L i))/\us[i*2+1]?=ad (ap (vl L i))/\(nm L i).size<=9223372036854775807/\(vl L i).size<=9223372036854775807:=by
 intro i hi;obtain⟨vs,⟨rfl,b,h2⟩,a⟩:=h.get i hi;rw[yS hi,E7 hi];exact⟨a 0 _ rfl,a 1 _ rfl,b,h2⟩
def Rw.hN (h:Rw bE w B ao n L):fm w w.heap.size ao n L:=by
 obtain⟨us,a,d⟩:=h.A;have f:=h.len;refine⟨f,λhn=>?_,λi hi=>?_⟩
 ·obtain⟨b,off,e,Z,c⟩:=d.sink (by show 0<n*2;omega);refine⟨b,off,e,Z,λi hi=>?_⟩;obtain⟨j,h2,_⟩:=WI a i an;have k:us.length=L.length*2:=a.len;refine⟨(c (i*2) (by show _<n*2;omega)).trans ?_,?_⟩
  ·simp only[dd,j];rfl
  ·rw[Nat.add_assoc,c (i*2+1) (by show _<n*2;omega)];simp only[dd,h2];rfl
 ·obtain⟨_,_,g⟩:=WI a i an;exact g
def Rs.PO:∀(L:aZ),(∀p∈L,p.1.size<=9223372036854775807/\p.2.size<=9223372036854775807)->Rs bE w B L (L.flatMap λp=>[ap p.1,ap p.2])
 |[],_=>.nil
 |p::L,h=>.cons ⟨rfl,(h p av).1,(h p av).2⟩ (Rs.PO L λq a=>h q (by simp[a]))
def agm (L:aZ):∀i,i<L.length->(L.flatMap λp:ByteArray×ByteArray=>[ap p.1,ap p.2])[i*2]?=ad (ap (nm L i))/\(L.flatMap λp:ByteArray×ByteArray=>[ap p.1,ap p.2])[i*2+1]?=ad (ap (vl L i)):=by
 induction L with
 |nil=>intro i hi;simp at hi
 |cons p L a=>
  intro i hi;cases i with
  |zero=>exact⟨rfl,rfl⟩
  |succ i=>
   have:=a i (am hi);rw[show(i+1)*2=i*2+1+1 by omega];exact this
def fm.WJ (h:fm w B ao n L):Rw bE w B ao n L:=by
 have d:=h.len;refine⟨d,_,Rs.PO L λp c=>?_,TS.Lt λhn=>?_⟩
 ·obtain⟨i,hi,rfl⟩:=List.getElem_of_mem c;have:=h.sz i an;rwa[yS hi,E7 hi] at this
 ·have l:0<n*2:=hn;obtain⟨b,off,e,Z,f⟩:=h.q an;refine⟨b,off,e,Z,λi hi=>?_⟩;have k:i<n*2:=hi;obtain⟨j,h2⟩:=agm L (i/2) an;obtain⟨g,h4⟩:=f (i/2) an;rcases Nat.mod_two_eq_zero_or_one i with h0|h0
  ·have a:i=i/2*2:=by omega
   rw[a,g];simp only[dd,j];rfl
  ·have a:i=i/2*2+1:=by omega
   rw[a,<-Nat.add_assoc,h4];simp only[dd,h2];rfl
def Vs.hN (h:Vs bE w B v L):∃ao c,v=O ao L.length c/\fm w w.heap.size ao L.length L/\L.length<=c/\c<=9223372036854775807:=by
 obtain⟨ao,n,c,rfl,h,a,h2⟩:=h.A;obtain rfl:=h.len;exact⟨ao,c,rfl,h.hN,a,h2⟩
def Vs.len_ {α:Type} {D:Kr α} {l:List α} (h:Vs D w B v l):∃ao c,v=O ao l.length c/\l.length<=c/\c<=9223372036854775807:=by
 obtain⟨ao,n,c,rfl,h,a,h2⟩:=h.A;obtain rfl:=h.len;exact⟨ao,c,rfl,a,h2⟩
def WK (a b:ByteArray) (t:bf) (W:aB):(binOp .geq t (ap a) (ap b)).run aH W= .ok (aG (tS a b)) W:=by simp[binOp,Op.stringOp,tS]
def fm.cells {B:Nat} (h:fm w w.heap.size ao L.length L) (hB:aS w.heap.size w wr) {k:Nat} (c:k<L.length):∃b off,ao=ad (ab b off M)/\b<w.heap.size/\wr.cell? ⟨b,off+k*2,M⟩=ad (ap (nm L k))/\wr.cell? ⟨b,off+k*2+1,M⟩=ad (ap (vl L k)):=by
 obtain⟨b,off,rfl,a,d⟩:=h.q an;exact⟨b,off,rfl,a,(hB.cell (p:=⟨b,off+k*2,M⟩) a).trans (d k c).1,(hB.cell (p:=⟨b,off+k*2+1,M⟩) a).trans (d k c).2⟩
theorem WL (h:P:=by
 generalize vl L k=s1 at*;go_wp2_with fail;refine(mu _ _ jr).ah ?_;rintro e w1⟨rfl,rfl⟩;rw[c1];go_wp2_with fail;refine AY cm cm.refl cm.trans (cU 0 13 []) [] (cm.drew _) ?_;refine dY ?_;refine S4.bh ?_;rintro wq hq;refine dP ?_;go_wp2;go_roundw;case rel=>exact⟨k+1,an,by go_num,HN,bN.trans hq⟩
 case measure=>exact aA
 ):P:=h
theorem WM (h:P:=by
 generalize nm L k=s0 at*;generalize vl L k=s1 at*;go_wp2_with fail;refine(mu s0 _ jr).ah ?_;rintro e w1⟨rfl,rfl⟩;rw[c1];go_wp2;go_ret;exact⟨cc HS.A.symm,bN⟩;):P:=h
def LH (w:aB) (h:Vs bE w B v L):aN aH 19 #[v] w λe w'=>e=aQ (aG (bH L))/\cm w w':=by
 obtain⟨ao,cap,rfl,d,hn,_⟩:=h.hN;have u:=E d;clear h d;have d:=u;clear u;by_cases r:L.length<=16
 ·go_enter func19,ntmps19;go_wp2;go_loopw [10] (λi wr=>∃k:Nat,k<=L.length/\i=J I k/\a6 (yQ k L)/\cm w wr) (λi _=>L.length-(intOf i).toNat);case atStart=>exact⟨0,an,rfl,E (λi hi=>ae hi an),cm.refl _⟩
  case round=>
   obtain⟨k,H,rfl,s,hB⟩:=hrel;by_cases f:k<L.length
   ·obtain⟨b,off,rfl,U,K,R⟩:=d.A.cells (B:=0) hB.aC f;have g:=E (show bH L=true->pq (nm L k)/\(vl L k).size<=64/\(0<k->tS (nm L (k-1)) (nm L k)=false) fromλh=>(yR.1 h).2 k f);have l:=E (λa b c=>yQ.succ s.A a b c);have jr:=(d.A.sz k f).1;have N:=(d.A.sz k f).2;have bN:=hB.alloc (aD #[ap (nm L k),ap (vl L k)] 78);cases c1:db (nm L k)
    ·have HS:=E (show bH L=false by
      cases h:bH L
      ·rfl
      ·rw[nM.2 (g.A h).1] at c1;cases c1)
     exact WM
    have t:=E (nM.1 c1);by_cases c2:64<(vl L k).size
    ·have HS:=E (show bH L=false by
      cases h:bH L
      ·rfl
      ·have:=(g.A h).2.1;omega)
     exact WM
    have T:decide (64<(vl L k).size)=false:=aa c2;have q:=E (show(vl L k).size<=64 by omega);have S:decide ((64:Int)<((vl L k).size:Int))=false:=aa an;clear c2;by_cases c3:k=0
    ·have HN:=E (l.A t.A q.A (λh=>ae h an));have n:decide (0<k)=false:=aa an;clear c3;generalize nm L k=s0 at*;exact WL
    obtain⟨j,hj⟩:=aP (k-1);have n:0<k:=an;have y:j<L.length:=an;have O:I.wrap (j:Int)=(j:Int):=ay;have G:(k:Int)-1=(j:Int):=an;obtain⟨b',F,z,_,m,_⟩:=d.A.cells (B:=0) bN.aC y;cases z;have D:=λp:gT (wr.alloc (aD #[ap (nm L k),ap (vl L k)] 78))=>p.cell m;have C:∀p:gT (wr.alloc (aD #[ap (nm L k),ap (vl L k)] 78)),p.aL.cell? (ab wr.heap.size 0 M)=ad (ap (nm L k)):=gT.cells (aI.new wr _ _) 0;rw[hj] at g l;have V:=E hj;clear hj m;cases c4:tS (nm L j) (nm L k)
    ·have x:∀W,(binOp .geq 9 (ap (nm L j)) (ap (nm L k))).run aH W= .ok (aG false) W:=λW=>by rw[WK,c4]
     have A:ii (nm L j).toList (nm L k).toList=true:=by simpa[tS] using c4
     have HN:=E (l.A t.A q.A (λ_=>c4));generalize nm L k=s0 at*;generalize nm L j=s2 at*;exact WL
    ·have x:∀W,(binOp .geq 9 (ap (nm L j)) (ap (nm L k))).run aH W= .ok (aG true) W:=λW=>by rw[WK,c4]
     have A:ii (nm L j).toList (nm L k).toList=false:=by simpa[tS] using c4
     have HS:=E (show bH L=false by
      cases h:bH L
      ·rfl
      ·have o:=(g.A h).2.2 n;rw[c4] at o;cases o)
     generalize nm L k=s0 at*;generalize nm L j=s2 at*;generalize vl L k=s1 at*;go_wp2_with fail;refine(mu _ _ jr).ah ?_;rintro e w1⟨rfl,rfl⟩;rw[c1];go_wp2_with fail;refine AY cm cm.refl cm.trans (cU 0 13 []) [] (cm.drew _) ?_;refine dY ?_;refine S4.bh ?_;rintro wq hq;refine dP ?_;go_wp2;go_ret;exact⟨cc HS.A.symm,bN.trans hq⟩
   ·obtain rfl:k=L.length:=by omega
    have HS:=E (show bH L=true from yR.2 ⟨r,s.A⟩);go_wp2;go_ret;exact⟨cc HS.A.symm,hB⟩
 ·have HS:=E (show bH L=false from V7.2 (λh=>r h.1));go_enter func19,ntmps19;go_wp2;go_ret;exact⟨cc HS.A.symm,cm.refl _⟩
def Iy (w:aB) (h:Vs bE w B v L):aN aH 19 #[v] w λe w'=>e=aQ (aG (bH L))/\aS w.heap.size w w':=(LH w h).mono λ_ _ h=>⟨h.1,h.2.aC⟩
def PQ (w:aB) (h:Vs bE w B v L):aN aH 21 #[v] w λe w'=>(∃d,e=aQ d/\Vs bE w' B d (dG L))/\cm w w':=by
 obtain⟨ao,c,rfl,_⟩:=h.len_;have a:=E h;clear h;cases c1:bH L
 ·have b:=E (show dG L=[] by unfold dG;simp[c1]);go_enter func21,ntmps21;go_wp2_with fail;refine(LH _ a.A).ah ?_;rintro e f⟨rfl,Z⟩;rw[c1];go_wp2;go_ret;exact⟨⟨_,rfl,b.A▸Vs.bh _ _ _⟩,Z⟩
 ·have b:=E (show dG L=L by unfold dG;simp[c1]);go_enter func21,ntmps21;go_wp2_with fail;refine(LH _ a.A).ah ?_;rintro e f⟨rfl,Z⟩;rw[c1];go_wp2;go_ret;exact⟨⟨_,rfl,b.A.symm▸a.A.al Z.aC⟩,Z⟩
def LI (w:aB) (h:Vs bE w B v L):aN aH 21 #[v] w λe w'=>(∃a,e=aQ a/\Vs bE w' B a (dG L))/\aS w.heap.size w w':=(PQ w h).mono λ_ _ h=>⟨h.1,h.2.aC⟩
def agn (a:k<L.length) (s:ByteArray):lP (L.drop k) s=if decide (nm L k=s)=true then ad (vl L k) else lP (L.drop (k+1)) s:=by
 rw[yS a,E7 a];unfold lP;rw[pf a,List.find?_cons];split<;>simp_all
def Fi (s:ByteArray) (w:aB) (h:Vs bE w B v L):aN aH 9 #[v,ap s] w λe w'=>e=aQ (bn #[ap ((gD L s).getD ⟨#[]⟩),aG (gD L s).isSome])/\aS w.heap.size w w':=by
 have q:=E h;obtain⟨A0,c0,rfl,_⟩:=h.len_;clear h;have g:=E (show gD L s=lP (dG L) s from rfl);generalize gD L s=r at g⊢;obtain⟨aU,f⟩:=aP (dG L);rw[f] at g;go_enter func9,ntmps9;go_wp2_with fail;refine(LI _ q.A).ah ?_;rintro e j⟨⟨t,rfl,a⟩,Z⟩;rw[f] at a;have A:=E a;obtain⟨ao,c,rfl,h2,x⟩:=a.len_;have n:=E a.hN;clear a;clear f;go_wp2;go_loopw [11] (λi wr=>∃k:Nat,k<=aU.length/\i=J I k/\a6 (lP (aU.drop k) s=r)/\aS j.heap.size j wr) (λi _=>aU.length-(intOf i).toNat);case atStart=>exact⟨0,an,rfl,E g.A.symm,bk _ _⟩
 case round=>
  obtain⟨k,u,rfl,m,hB⟩:=hrel;by_cases aK:k<aU.length
  ·obtain⟨A',c',e,l,_⟩:=n.A;cases e;obtain⟨b,off,rfl,cw,hc⟩:=l.q an;obtain⟨s0,pu⟩:∃s,a6 (nm aU k=s):=⟨_,E rfl⟩;obtain⟨s1,qc⟩:∃s,a6 (vl aU k=s):=⟨_,E rfl⟩;have y:wr.cell? ⟨b,off+k*2,M⟩=ad (ap s0):=aqu;have z:wr.cell? ⟨b,off+k*2+1,M⟩=ad (ap s1):=aqt;clear hc l;have d:=E (agn aK s);rw[pu.A,qc.A,m.A] at d;by_cases c1:s0=s
   ·have o:(s0.toList==s.toList)=true:=by rw[j9];exact ac c1
    have HE:=E (show r=ad s1 by rw[d.A,ac c1];rfl);clear c1 d;go_wp2;go_ret2;exact⟨CV,Z.trans ((hB.alloc hB.size _).mono Z.size)⟩
   ·have o:(s0.toList==s.toList)=false:=by rw[j9];exact aa c1
    have HE:=E (show lP (aU.drop (k+1)) s=r by rw[d.A,aa c1];rfl);clear c1 d;go_wp2;go_roundw;case rel=>exact⟨k+1,an,by go_num,HE,hB.alloc hB.size _⟩
    case measure=>exact aA
  ·obtain rfl:k=aU.length:=by omega
   have HE:=E (show r=M by rw[<-m.A,qT];rfl);go_wp2;go_ret2;exact⟨CV,Z.trans (hB.mono Z.size)⟩
variable {α:Type} {u:aE} {B':Nat} {aU:aZ}
def yW {a b:Int} (h:a=b):aQ (J I a)=aQ (J I b):=by rw[h]
def WN (a b:ByteArray) (t:bf) (W:aB):(binOp .gtr t (ap a) (ap b)).run aH W= .ok (aG !(ii a.toList b.toList||a.toList==b.toList)) W:=by simp[binOp,Op.stringOp]
def ago (s:ByteArray) (w:aB):aN aH 92 #[ap s] w λe w'=>e=aQ (aG false)/\w'=w:=by
 have a:(s.toList==s.toList)=true:=av;go_enter func92,ntmps92;go_wp2;go_ret;exact⟨rfl,rfl⟩
theorem PR (h:P:=by
 go_enter func64,ntmps64;go_wp2_with (go_at_call 92;refine(ago _ _).ah ?_;rintro e w'⟨rfl,rfl⟩);go_ret;exact⟨rfl,rfl⟩;):P:=h
def PS (a b:ByteArray) (w:aB):aN aH 64 #[ap a,ap b] w λe w'=>e=aQ (J I (fO a b))/\w'=w:=by
 have c:∀r:Int,(ii a.toList b.toList=true/\r=-1)\/(ii a.toList b.toList=false/\(a.toList==b.toList)=true/\r=0)\/(ii a.toList b.toList=false/\(a.toList==b.toList)=false/\r=1)->aN aH 64 #[ap a,ap b] w λe w'=>e=aQ (J I r)/\w'=w:=by
  rintro r (⟨h,rfl⟩|⟨h,k,rfl⟩|⟨h,k,rfl⟩)
  ·skip;exact PR
  ·have hg:∀W,(binOp .gtr 9 (ap a) (ap b)).run aH W= .ok (aG false) W:=λW=>by rw[WN,h,k];rfl
   exact PR
  ·have hg:∀W,(binOp .gtr 9 (ap a) (ap b)).run aH W= .ok (aG true) W:=λW=>by rw[WN,h,k];rfl
   exact PR
 refine c _ ?_;unfold fO;rcases O1 a b with h|rfl|h
 ·exact .inl ⟨h,by rw[h];rfl⟩
 ·exact .inr (.inl ⟨E0 a,av,by simp[E0]⟩)
 ·have d:=La h;have h2:ii a.toList b.toList=false:=d;refine .inr (.inr ⟨h2,?_,by rw[d,h];rfl⟩);rw[j9];refine aa ?_;rintro rfl;rw[E0] at h;cases h
def Fj (x y:Int):Int:=if x=0 then y else x
def WO (g:Nat) (x y:Int) (w:aB) (h0:w.cell? (ab g 0 M)=ad (J I x)) (d:w.cell? (ab g 1 M)=ad (J I y)):aN aH 63 #[O (ad (ab g 0 M)) 2 2] w λe w'=>e=aQ (J I (Fj x y))/\w'=w:=by
 have c:=E (show Fj x y=if x=0 then y else x from rfl);generalize Fj x y=r at c⊢;have j:=E h0;have h:=E d;clear h0 d;go_enter func63,ntmps63;go_wp2;go_loopw [8] (λi wr=>((i=J I 0/\True)\/(i=J I 1/\a6 (x=0))\/(i=J I 2/\a6 (x=0/\y=0)))/\wr=w) (λi _=>2-(intOf i).toNat);case atStart=>exact⟨.inl ⟨rfl,trivial⟩,rfl⟩
 case round=>
  obtain⟨(⟨rfl,_⟩|⟨rfl,a⟩|⟨rfl,a⟩),rfl⟩:=hrel
  ·have h0:=j.A;by_cases a:x=0
   ·have hn:(x !=0)=false:=by simpa using a
    have HX:=E a;clear a;go_wp2;go_roundw;case rel=>exact⟨.inr (.inl ⟨rfl,HX⟩),trivial⟩
    case measure=>simp[intOf]
   ·have hn:(x !=0)=true:=by simpa using a
    go_wp2;go_ret;exact⟨yW (by rw[c.A,af a]),rfl⟩
  ·have d:=h.A;by_cases b:y=0
   ·have hn:(y !=0)=false:=by simpa using b
    have f:=E b;clear b;go_wp2;go_roundw;case rel=>exact⟨.inr (.inr ⟨rfl,E ⟨a.A,f.A⟩⟩),trivial⟩
    case measure=>simp[intOf]
   ·have hn:(y !=0)=true:=by simpa using b
    go_wp2;go_ret;exact⟨yW (by rw[c.A,ag a.A]),rfl⟩
  ·go_wp2;go_ret;exact⟨yW (by rw[c.A,ag a.A.1,a.A.2]),rfl⟩
theorem WP (h:P:=by
 go_wp2_with fail;refine AY cm cm.refl cm.trans (cU 0 10 (.c 10::(cU 11 2 []))) [] (cm.drew _) ?_;repeat (
  refine S4.step (λKK aJ=>?_);go_simp;first
   |(refine aJ _ ?_;clear aJ KK)
   |(apply lL;refine⟨λ_=>?_,aJ _ ?_⟩;(first|(with_reducible exact aN.Fc (C1.A _))|(with_reducible exact aN.Fc (C2.A _)));clear aJ KK))
 refine S4.dm ?_;rintro _⟨pt,rfl⟩ KK aJ;go_simp;refine aJ _ _ ((cm.refl _).alloc _) ?_;have PT:=gT.cells (aI.new pt.aL 3 #[J I x,J I y]) 0;have PU:=gT.cells (aI.new pt.aL 3 #[J I x,J I y]) 1;have PV:=E (λq:gT (pt.aL.alloc (aD #[J I x,J I y] 3))=>WO pt.aL.heap.size x y q.aL (PT q) (PU q));repeat (
  refine S4.step (λKK aJ=>?_);go_simp;first
   |(refine aJ _ ?_;clear aJ KK)
   |(apply lL;refine⟨λ_=>?_,aJ _ ?_⟩;(with_reducible exact aN.Fc (PV.A _));clear aJ KK))
 refine S4.bh ?_;rintro wq hq;refine dP ?_;go_wp2;go_ret;exact⟨yW HE.A.symm,(((((cm.refl w).alloc _).alloc _).trans pt.r).alloc _).trans hq⟩;):P:=h
def agp (d b a q1:ByteArray) (w:aB):aN aH 62 #[aY #[ap d,ap b],aY #[ap a,ap q1]] w λe w'=>e=aQ (J I (fU (d,b) (a,q1)))/\cm w w':=by
 have HE:=E (show fU (d,b) (a,q1)=Fj (fO d a) (fO b q1) from rfl);generalize fU (d,b) (a,q1)=r at HE⊢;have C1:=λW=>PS d a W;have C2:=λW=>PS b q1 W;generalize fO d a=x at HE C1;generalize fO b q1=y at HE C2;have C1:=E C1;have C2:=E C2;have a0:=(aI.new w 78 #[ap d,ap b]).alloc (aD #[ap a,ap q1] 78);have f:=aI.new (w.alloc (aD #[ap d,ap b] 78)) 78 #[ap a,ap q1];have l:=gT.cells a0 0;have j:=gT.cells a0 1;have i:=gT.cells f 0;have g:=gT.cells f 1;simp at l j i g;go_enter func62,ntmps62;exact WP
def agq (c:α->α->Int) {l m:List α} {k:Nat} (a:k<l.length) (h2:k<m.length):mh c (l.drop k) (m.drop k)=if c l[k] m[k]=0 then mh c (l.drop (k+1)) (m.drop (k+1)) else c l[k] m[k]:=by
 rw[pf a,pf h2];rfl
def sA (h:k<L.length):L[k]=(nm L k,vl L k):=by rw[yS h,E7 h]
def agr (w:aB) (t:Vs bE w B v L) (h2:Vs bE w B' u aU):aN aH 61 #[v,u,.func (.func 62) #[] #[]] w λe w'=>e=aQ (J I (fu L aU))/\cm w w':=by
 have y:=E (show fu L aU=mh fU L aU from rfl);generalize fu L aU=r at y⊢;obtain⟨A1,c1,rfl,q,_⟩:=t.hN;obtain⟨A2,c2,rfl,s,_⟩:=h2.hN;have K:=E q;have m:=E s;clear t h2 q s;go_enter func61,ntmps61;go_wp2;go_loopw [13] (λi wr=>∃k:Nat,k<=L.length/\i=J I k/\a6 (k<=aU.length/\mh fU (L.drop k) (aU.drop k)=r)/\cm w wr) (λi _=>L.length-(intOf i).toNat);case atStart=>exact⟨0,an,rfl,E ⟨bV _,y.A.symm⟩,cm.refl _⟩
 case round=>
  obtain⟨k,O,rfl,f,hB⟩:=hrel;have D:=f.A.1;by_cases l:k<L.length
  ·obtain⟨b,off,rfl,R,F,G⟩:=K.A.cells (B:=0) hB.aC l;have p:=E (sA l);generalize nm L k=s0 at F p;generalize vl L k=s1 at G p;by_cases h2:k<aU.length
   ·have d:=E (agq fU l h2);rw[f.A.2] at d;have Q:decide (aU.length<=k)=false:=aa an;obtain⟨b',N,rfl,H,C,M⟩:=m.A.cells (B:=0) (hB.alloc (aD #[ap s0,ap s1] 78)).aC h2;have o:=E (sA h2);generalize nm aU k=t0 at C o;generalize vl aU k=t1 at M o;rw[p.A,o.A] at d;have j:=E (λW=>agp s0 s1 t0 t1 W);by_cases a:fU (s0,s1) (t0,t1)=0
    ·rw[ag a] at d;have j:=E (λW=>a▸j.A W);clear a;go_wp2_with fail;refine(j.A _).ah ?_;rintro e z⟨rfl,n⟩;go_wp2;go_roundw;case rel=>exact⟨k+1,an,by go_num,E ⟨an,d.A.symm⟩,((hB.alloc _).alloc _).trans n⟩
     case measure=>exact aA
    ·rw[af a] at d;generalize fU (s0,s1) (t0,t1)=c at a d j;have hn:(c !=0)=true:=am a;clear a;go_wp2_with fail;refine(j.A _).ah ?_;rintro e z⟨rfl,n⟩;go_wp2;go_ret;exact⟨yW d.A.symm,((hB.alloc _).alloc _).trans n⟩
   ·obtain rfl:k=aU.length:=by omega
    have g:=E (show r=1 by rw[<-f.A.2,qT,pf l];rfl);go_wp2;go_ret;exact⟨yW g.A.symm,hB.alloc _⟩
  ·obtain rfl:k=L.length:=by omega
   by_cases h2:L.length<aU.length
   ·have g:=E (show r=-1 by rw[<-f.A.2,qT,pf h2];rfl);go_wp2;go_ret;exact⟨yW g.A.symm,hB⟩
   ·have g:=E (show r=0 by rw[<-f.A.2,qT,List.drop_eq_nil_of_le an];rfl);go_wp2;go_ret;exact⟨yW g.A.symm,hB⟩
def LJ (w:aB) (a:Vs bE w B v L) (h2:Vs bE w B' u aU):aN aH 45 #[v,u] w λe w'=>e=aQ (J I (cmpL L aU))/\cm w w':=by
 have k:=E a;have j:=E h2;obtain⟨A1,c1,rfl,_⟩:=a.len_;obtain⟨A2,c2,rfl,_⟩:=h2.len_;clear a h2;go_enter func45,ntmps45;go_wp2_with fail;refine(PQ _ k.A).ah ?_;rintro e n⟨⟨o,rfl,c⟩,f⟩;have i:=E c;clear c;go_wp2_with fail;refine(PQ _ (j.A.al f.aC)).ah ?_;rintro e m⟨⟨v2,rfl,b⟩,d⟩;have h:=E b;clear b;go_wp2_with fail;refine(agr _ (i.A.al d.aC) h.A).ah ?_;rintro e l⟨rfl,g⟩;go_wp2;go_ret;exact⟨rfl,(f.trans d).trans g⟩
def LK (w:aB) (a:Vs bE w B v L) (h2:Vs bE w B' u aU):aN aH 45 #[v,u] w λe w'=>e=aQ (J I (cmpL L aU))/\aS w.heap.size w w':=(LJ w a h2).mono λ_ _ h=>⟨h.1,h.2.aC⟩
variable {a:bb} {o:bv} {Q:Exit->bb->aB->Prop} {ops:Array bv} {base:Nat} {rest:List bv}
def Sl.lit (w:aB) (t:bf) (us:List aE) (n:Nat) (hn:n=us.length):Sl (w.alloc (aD us.toArray t)) (w.heap.size+1) (ad (ab w.heap.size 0 M)) n (λi=>us.getD i (aG false)):=λ_=>by
 refine⟨w.heap.size,0,rfl,an,λi hi=>?_⟩;rw[ig,(aI.new w t us.toArray).cell];simp only[dd];rw[cR (by omega:i<us.length)];simp[hn▸hi]
def aF.grown {α:Type} {D:Kr α} {a:aB} {l:List α} (h:aF a w) (ho:Ow D w B base v l) (Z:a.heap.size<=base) (hg:w.grownBy w' v.ownBlock):aF a w':=aF.of (h.aC.grown hg h.aC.size λk b=>a8 Z (ho.row k b).1)
def WS {P:cp} (D:Kr α) (W:aB) (us:List aE) (q:o.guard=M) (s x:Operand) (t:bf) (ho:o.op= .call {callee:=.builtin .append,args:=#[s,x],argTypes:=#[t,t]}) (base b:Nat) (z:aE) (n:P.underlying t=ad (.slice D.e)) (hi:(P.info? D.e).map (λi=>(i.zero,i.size,i.bytes))=ad (ad z,D.k,b)) (k:z.cells.size=D.k) (B:Nat) (v:aE) (l:List α) (a0:α) (hs:a.eval s=v) (m:a.eval x=O (ad (ab W.heap.size 0 M)) 1 1) (u:Ow D W B base v l) (hrel:D.rel W B a0 us) (d:(l.length+1)*b<=140737488355328) (Z:0<b) (y:base<=W.heap.size) (hB:B<=base) (r:D.e∉D.bI) (h:∀c w',Ow D w' B base c (l++[a0])->(W.alloc (aD us.toArray D.e)).grownBy w' v.ownBlock->Kt B [D.e] W w'->(∀ao,aF ao W->ao.heap.size<=base->aF ao w')->wpList P ops Q rest (a.put o.dst c) w'):wpList P ops Q (o::rest) a (W.alloc (aD us.toArray D.e)):=by
 have e:aS W.heap.size W (W.alloc (aD us.toArray D.e)):=(bk _ _).alloc (aO _) _;have g:Rs D (W.alloc (aD us.toArray D.e)) B [a0] us:=Rs.single (D.al hrel e);have f:=u.alloc (aD us.toArray D.e);have w:l.length+1<=140737488355328:=a8 (Nat.le_mul_of_pos_right _ Z) d;refine mZ D q s x t ho base b z n hi k B v l hs f (ad (ab W.heap.size 0 M)) 1 1 [a0] us m g rfl (W.heap.size+1) (Sl.lit W D.e us (1*D.k) (by rw[D.len hrel,Nat.one_mul])) aqv d aw hB r ?_;intro c w' g1 g2 g3;refine h c w' g1 g2 ((Kt.lQ e an).trans g3) (λao p j=>?_);exact(p.alloc (aD us.toArray D.e)).grown f j g2
def Dn:(aH.info? 78).map (λi=>(i.zero,i.size,i.bytes))=ad (ad (aY #[ap ⟨#[]⟩,ap ⟨#[]⟩]),2,32):=ar
def Fk:bE.e∉bE.bI:=aq
def LL (L:aZ):(dG L).length<=16:=(nN.1 (Ik L)).1
def WT (L:aZ):∀p∈dG L,p.1.size<=64/\p.2.size<=64:=λp a=>⟨((nN.1 (Ik L)).2.1 p a).1.2.1,((nN.1 (Ik L)).2.1 p a).2⟩
def P0 (f:α->Bool) {l:List α} {k:Nat} (a:k<l.length) (aT:List α):aT++(l.drop k).filter f=(if f l[k]=true then aT++[l[k]] else aT)++(l.drop (k+1)).filter f:=by
 rw[pf a,List.filter_cons];split<;>simp
def WU (s:ByteArray) (w:aB) (hB:B<=w.heap.size) (h:Vs bE w B v L):aN aH 236 #[v,ap s] w λe w'=>(∃t,e=aQ t/\Ow bE w' B w.heap.size t (tU L s))/\aS w.heap.size w w':=by
 have V:=E h;obtain⟨A0,c0,rfl,_⟩:=h.len_;clear h;have F:=E (show tU L s=(dG L).filter (λp=>!decide (p.1=s)) from rfl);generalize tU L s=r at F⊢;have C:=LL L;have H:=E (WT L);obtain⟨aU,x⟩:=aP (dG L);rw[x] at F C H;go_enter func236,ntmps236;go_wp2_with fail;refine(LI _ V.A).ah ?_;rintro e f⟨⟨W,rfl,z⟩,Z⟩;rw[x] at z;obtain⟨ao,c,rfl,y,Y⟩:=z.hN;have y:=E y;clear z;clear x;have S:=Z.size;go_wp2;go_loopw [5,11] (λu i wr=>∃(k:Nat) (aT:aZ),k<=aU.length/\aT.length<=k/\i=J I k/\a6 (aT++(aU.drop k).filter (λp=>!decide (p.1=s))=r)/\aF w wr/\aS f.heap.size f wr/\Ow bE wr B f.heap.size u aT) (λ_ i _=>aU.length-(intOf i).toNat);case atStart=>exact⟨0,[],an,aO _,rfl,E F.A.symm,aF.of Z,bk _ _,Ow.bh _ _ _ _⟩
 case round=>
  obtain⟨k,aT,X,Iz,rfl,K,A,a,j⟩:=hrel;by_cases l:k<aU.length
  ·obtain⟨b,off,rfl,cw,N,Q⟩:=y.A.cells (B:=0) a l;have d:=E (P0 (λp:ByteArray×ByteArray=>!decide (p.1=s)) l aT);rw[K.A,sA l] at d;have m:=E (H.A _ (dl l));rw[sA l] at m;generalize nm aU k=s0 at N d m;generalize vl aU k=s1 at Q d m;by_cases c1:s0=s
   ·have O:(s0.toList==s.toList)=true:=by rw[j9];exact ac c1
    have o:=E (show aT++(aU.drop (k+1)).filter (λp=>!decide (p.1=s))=r by rw[d.A];simp[c1]);have n:=E (j.alloc (aD #[ap s0,ap s1] 78));clear j;clear c1 d;go_wp2;go_roundw;case rel=>exact⟨k+1,aT,an,an,by go_num,o,A.alloc _,a.alloc a.size _,n.A⟩
    case measure=>exact aA
   ·have O:(s0.toList==s.toList)=false:=by rw[j9];exact aa c1
    have o:=E (show(aT++[(s0,s1)])++(aU.drop (k+1)).filter (λp=>!decide (p.1=s))=r by rw[d.A];simp[c1]);have n:=E ((j.alloc (aD #[ap s0,ap s1] 78)).alloc (aD #[ap s0,ap s1] 78));clear j;have D:=E (iC ((A.alloc (aD #[ap s0,ap s1] 78)).alloc (aD #[ap s0,ap s1] 78)) ((a.alloc a.size (aD #[ap s0,ap s1] 78)).alloc (a.alloc a.size _).size (aD #[ap s0,ap s1] 78)));have bJ:=a.size;clear c1 d;have U:=E (show Sl ((wr.alloc (aD #[ap s0,ap s1] 78)).alloc (aD #[ap s0,ap s1] 78)) (wr.heap.size+2) (ad ⟨wr.heap.size+1,0,M⟩) (1*bE.k) (λi=>[ap s0,ap s1].getD i (aG false)) by
     have:=Sl.lit (wr.alloc (aD #[ap s0,ap s1] 78)) 78 [ap s0,ap s1] (1*bE.k) rfl;rw[eO] at this;exact this)
    have T:=E (show Rs bE ((wr.alloc (aD #[ap s0,ap s1] 78)).alloc (aD #[ap s0,ap s1] 78)) B [(s0,s1)] [ap s0,ap s1] from Rs.single ⟨rfl,a8 m.A.1 aq,a8 m.A.2 aq⟩);have q:=E (show aT.length+1<=bK/\(aT.length+1)*32<=140737488355328/\f.heap.size<=((wr.alloc (aD #[ap s0,ap s1] 78)).alloc (aD #[ap s0,ap s1] 78)).heap.size/\B<=f.heap.size from⟨aqv,an,aw,an⟩);go_wp2_with ((refine mZ bE au (.tmp 19) (.tmp 21) 49 au f.heap.size 32 _ ar Dn au B _ aT au n.A (ad ⟨wr.heap.size+1,0,M⟩) 1 1 [(s0,s1)] [ap s0,ap s1] au T.A rfl (wr.heap.size+2) U.A q.A.1 q.A.2.1 q.A.2.2.1 q.A.2.2.2 Fk ?_;intro t w' R G eZ));go_roundw;case rel=>exact⟨k+1,_,an,aw,by go_num,o,D.A.1.grown n.A an G,D.A.2.grown G D.A.2.size (λg hg=>(n.A.row g hg).1),R⟩
    case measure=>exact aA
  ·obtain rfl:k=aU.length:=by omega
   have o:=E (show r=aT by rw[<-K.A,qT];simp);go_wp2;go_ret;exact⟨⟨_,rfl,o.A▸j.less S⟩,A.aC⟩
def sB {α:Type} (D:Kr α) (w':aB) (B:Nat) (e:Ending):Option (List α)->Prop
 |some m=>∃v,e=aQ (bn #[v,J I 0])/\Vs D w' B v m
 |none=>∃v k,k≠0/\e=aQ (bn #[v,J I k])/\∃m,Vs D w' B v m
def sB.al {α:Type} {D:Kr α} {e:Ending} {r:Option (List α)} (h:sB D w B e r) (Z:aS w.heap.size w w'):sB D w' B e r:=by
 cases r with
 |none=>obtain⟨v,k,a,h2,m,b⟩:=h;exact⟨v,k,a,h2,m,b.al Z⟩
 |some m=>obtain⟨v,a,h2⟩:=h;exact⟨v,a,h2.al Z⟩
def sB.form {α:Type} {D:Kr α} {e:Ending} {r:Option (List α)} (h:sB D w B e r):∃v k,e=aQ (bn #[v,J I k])/\(sB D w B (aQ (bn #[v,J I k])) r)/\(∃m,Vs D w B v m)/\(k=0↔r.isSome=true):=by
 cases r with
 |none=>obtain⟨v,k,a,h2,m,b⟩:=h;exact⟨v,k,h2,⟨v,k,a,rfl,m,b⟩,⟨m,b⟩,by simp[a]⟩
 |some m=>obtain⟨v,a,h2⟩:=h;exact⟨v,0,a,⟨v,rfl,h2⟩,⟨m,h2⟩,av⟩
structure Nt where
 ao:Option aX
 n:Nat
 c:Nat
 L:aZ
 f:Bool
 t:Int
 k:Int
 x:Int
instance:Inhabited Nt:=⟨⟨M,0,0,[],false,0,0,0⟩⟩
def Nt.cells (y:Nt):List aE:=[O y.ao y.n y.c,aG y.f,J I y.t,J I y.k,J I y.x]
def Nt.val (y:Nt):aE:=aY #[O y.ao y.n y.c,aG y.f,J I y.t,J I y.k,J I y.x]
def nt (ns:List Nt) (i:Nat):Nt:=ns.getD i default
def jx (ns:List Nt):List aE:=ns.flatMap Nt.cells
def Zo (ns:List Nt):(jx ns).length=ns.length*5:=by
 unfold jx;induction ns with
 |nil=>rfl
 |cons x l a=>rw[List.flatMap_cons,b2,a];simp[Nt.cells];omega
def aiE (l m:List Nt):jx (l++m)=jx l++jx m:=by unfold jx;rw[List.flatMap_append]
def Zp:∀(l:List Nt) (i:Nat),i<l.length->∀j,j<5->(jx l)[i*5+j]?=(nt l i).cells[j]?
 |x::l,0,_,j,hj=>by
  have e:jx (x::l)=x.cells++jx l:=rfl
  rw[e,Nat.zero_mul,ig,List.getElem?_append_left (by simpa[Nt.cells] using hj)]
  rfl
 |x::l,i+1,h,j,hj=>by
  have:=Zp l i (am h) j hj
  have e:jx (x::l)=x.cells++jx l:=rfl
  rw[e,List.getElem?_append_right (by simp[Nt.cells];omega),show(i+1)*5+j-x.cells.length=i*5+j by simp[Nt.cells];omega,this]
  rfl
structure Rn (w:aB) (B:Nat) (y:Nt):Prop where
 hN:fm w B y.ao y.n y.L
 cap:y.n<=y.c/\y.c<=9223372036854775807
structure ia (w:aB) (B:Nat) (ao:Option aX) (n:Nat) (ns:List Nt):Prop where
 len:ns.length=n
 sl:Sl w B ao (n*5) (λi=>(jx ns).getD i (aG false))
 rE:∀i,i<n->Rn w B (nt ns i)
section
variable {w w':aB} {B B' n:Nat} {ao:Option aX} {ns:List Nt} {y:Nt}
def Rn.al (h:Rn w B y) (Z:aS B w w'):Rn w' B y:=⟨h.hN.al Z,h.cap⟩
def Rn.bt (h:Rn w B y) (hB:B<=B'):Rn w B' y:=⟨h.hN.bt hB,h.cap⟩
def Rn.aL (h:Rn w w.heap.size y) (Z:aS w.heap.size w w'):Rn w' w'.heap.size y:=⟨h.hN.aL Z,h.cap⟩
def ia.bh (w:aB) (B:Nat) (ao:Option aX):ia w B ao 0 []:=⟨rfl,Sl.zero _ _ _ _,λi hi=>ae hi (Nat.not_lt_zero _)⟩
def ia.al (h:ia w B ao n ns) (Z:aS B w w'):ia w' B ao n ns:=⟨h.len,h.sl.al Z,λi hi=>(h.rE i hi).al Z⟩
def ia.bt (h:ia w B ao n ns) (hB:B<=B'):ia w B' ao n ns:=⟨h.len,h.sl.bt hB,λi hi=>(h.rE i hi).bt hB⟩
def ia.aL (h:ia w w.heap.size ao n ns) (Z:aS w.heap.size w w'):ia w' w'.heap.size ao n ns:=⟨h.len,h.sl.aL Z,λi hi=>(h.rE i hi).aL Z⟩
def ia.at_ (h:ia w B ao n ns) {k:Nat} (a:k<n):∃b off,ao=ad (ab b off M)/\b<B/\w.cell? ⟨b,off+k*5,M⟩=ad (O (nt ns k).ao (nt ns k).n (nt ns k).c)/\w.cell? ⟨b,off+k*5+1,M⟩=ad (aG (nt ns k).f)/\w.cell? ⟨b,off+k*5+2,M⟩=ad (J I (nt ns k).t)/\w.cell? ⟨b,off+k*5+3,M⟩=ad (J I (nt ns k).k)/\w.cell? ⟨b,off+k*5+4,M⟩=ad (J I (nt ns k).x):=by
 obtain⟨b,off,e,Z,d⟩:=h.sl an;have g:∀j v,j<5->(nt ns k).cells[j]?=ad v->w.cell? ⟨b,off+k*5+j,M⟩=ad v:=λj v hj hv=>by
  have i:=Zp ns k (by rw[h.len];exact a) j hj;rw[Nat.add_assoc,d (k*5+j) an];show ad ((jx ns).getD (k*5+j) (aG false))=ad v;rw[dd,i,hv];rfl
 exact⟨b,off,e,Z,g 0 _ an rfl,g 1 _ an rfl,g 2 _ an rfl,g 3 _ an rfl,g 4 _ an rfl⟩
end
def et (t:Int):Bool:=decide (0<=t)&&decide (t<=9007199254740992)
def sX {t:Int}:et t=true↔0<=t/\t<=9007199254740992:=by simp[et]
def ga (t:Int):Int:=min (max t 0) 9007199254740992
def MH (t:Int):0<=ga t/\ga t<=9007199254740992:=by unfold ga;omega
theorem Rt (h:P:=by
 rw[hT];go_enter func47,ntmps47;go_wp2;go_ret;exact⟨rfl,rfl⟩;):P:=h
def vJ (t:Int) (w:aB):aN aH 47 #[J I t] w λe w'=>e=aQ (aG (et t))/\w'=w:=by
 by_cases h0:0<=t
 ·by_cases a:t<=9007199254740992
  ·have hT:et t=true:=by simp[et,h0,a]
   exact Rt
  ·have hT:et t=false:=by simp[et,a]
   have d1:decide (t<=9007199254740992)=false:=aa a;exact Rt
 ·have hT:et t=false:=by simp[et,h0]
  have d1:decide (0<=t)=false:=aa h0;exact Rt
theorem Ru (h:P:=by
 rw[HN.A];go_enter func113,ntmps113;go_wp2;all_goals first
  |(exfalso;omega)
  |(go_ret;exact⟨rfl,rfl⟩)
 ):P:=h
def MI (t:Int) (w:aB):aN aH 113 #[J I t] w λe w'=>e=aQ (J I (ga t))/\w'=w:=by
 by_cases h0:t<0
 ·have HN:=E (show ga t=0 by unfold ga;omega);exact Ru
 ·by_cases a:9007199254740992<t
  ·have HN:=E (show ga t=9007199254740992 by unfold ga;omega);exact Ru
  ·have HN:=E (show ga t=t by unfold ga;omega);exact Ru
def kX:Nat->Nat
 |0=>1000
 |k+1=>min (2*kX k) 64000
def aiF (k:Nat):1000<=kX k/\kX k<=64000:=by
 induction k with
 |zero=>simp[kX]
 |succ k a=>simp only[kX];omega
def Rv (h:kX k=64000):∀j,kX (k+j)=64000
 |0=>h
 |j+1=>by have:=Rv h j;rw[<-Nat.add_assoc];simp only[kX];omega
def bk6 (j:Nat):kX (6+j)=64000:=Rv aq j
def Zq (h:kX k<64000):kX (k+1)=2*kX k/\2*kX k<=64000:=by
 by_cases h6:k<6
 ·have:k=0\/k=1\/k=2\/k=3\/k=4\/k=5:=by omega
  rcases this with rfl|rfl|rfl|rfl|rfl|rfl<;>decide
 ·have:=bk6 (k-6);rw[show 6+(k-6)=k by omega] at this;omega
def aiG (h:kX k=64000) (hn:k<=n):kX n=64000:=by
 have:=Rv h (n-k);rw[show k+(n-k)=n by omega] at this;exact this
def aiH (t:Int) (w:aB) (g:t<=9223372036854775807):aN aH 115 #[J I t] w λe w'=>e=aQ (J I (kX t.toNat:Nat))/\w'=w:=by
 go_enter func115,ntmps115;go_wp2;go_loopw [3,4] (λs i wr=>∃(b j:Nat),a6 (b=kX j)/\i=J I j/\s=J I b/\a6 (j<=t.toNat)/\b<=64000/\wr=w) (λ_ i _=>t.toNat-(intOf i).toNat);case atStart=>exact⟨1000,0,E rfl,rfl,rfl,E an,an,rfl⟩
 case round=>
  obtain⟨b,j,Z,rfl,rfl,hj,f,rfl⟩:=hrel;by_cases c:(j:Int)<t
  ·by_cases h2:(b:Int)<64000
   ·have HX:=E (show 2*b=kX (j+1) by have:=Zq (k:=j) (by rw[<-Z.A];omega);rw[this.1,Z.A]);have a:2*b<=64000:=by have:=Zq (k:=j) (by rw[<-Z.A];omega);rw[Z.A];exact this.2
    have m:j<=9223372036854775806:=ai hj.A;go_wp2;go_roundw;case rel=>exact⟨2*b,j+1,HX,by go_num,by go_num,E an,a,trivial⟩
    case measure=>exact aA
   ·have HX:=E (show kX t.toNat=b by rw[aiG (k:=j) (by rw[<-Z.A];omega) hj.A];omega);have d:b=64000:=an;subst d;have l:decide (((64000:Nat):Int)<64000)=false:=aq;go_wp2;go_ret;refine⟨?_,rfl⟩;rw[HX.A];rfl
  ·have HX:=E (show kX t.toNat=b by rw[Z.A,show t.toNat=j by have:=hj.A;omega]);have d1:decide ((j:Int)<t)=false:=aa c;go_wp2;all_goals first
    |(go_ret;exact⟨by rw[HX.A];rfl,rfl⟩)
    |(go_ret;exact⟨by rw[HX.A];congr 2;omega,rfl⟩)
    |(exfalso;omega)
variable {d:Int}
def BA (y:Nt):Prop:=bH y.L=true/\et y.t=true/\et y.x=true/\0<=y.k/\y.k<8
def BB (k:Nat) (ns:List Nt):Prop:=∀i,i<k->BA (nt ns i)
def BC (ns:List Nt) (d l:Int):Prop:=ns.length<=16/\et d=true/\et l=true/\BB ns.length ns
open Classical in
noncomputable def jQ (ns:List Nt) (d l:Int):Bool:=decide (BC ns d l)
def BD {ns:List Nt} {l:Int}:jQ ns d l=true↔BC ns d l:=by unfold jQ;simp
def Rx {ns:List Nt} {l:Int}:jQ ns d l=false↔¬BC ns d l:=by unfold jQ;simp
def BB.succ {ns:List Nt} (h:BB k ns) (a:BA (nt ns k)):BB (k+1) ns:=λi hi=>by
 rcases gy i k with h'|h'
 ·exact h i h'
 ·obtain rfl:i=k:=by omega
  exact a
theorem Ry (h:P:=by
 have uo:=E c2;clear c2;have HC3:=E c3;clear c3;go_wp2_with fail;refine(vJ yt _).ah ?_;rintro e w1⟨rfl,rfl⟩;rw[uo.A];go_wp2_with fail;refine(vJ yx _).ah ?_;rintro e w1⟨rfl,rfl⟩;rw[HC3.A];go_wp2;go_ret;exact⟨cc HS.A.symm,cP⟩;):P:=h
theorem Rz (h:P:=by
 go_wp2;go_ret;exact⟨cc HS.A.symm,(bk _ _).alloc (aO _) _⟩;):P:=h
def Zr (ao:Option aX) (n c:Nat) (d l:Int) (ns:List Nt) (w:aB) (hn:n<=9223372036854775807) (Z:ia w w.heap.size ao n ns):aN aH 26 #[aY #[O ao n c,J I d,J I l]] w λe w'=>e=aQ (aG (jQ ns d l))/\aS w.heap.size w w':=by
 have R:=E Z;clear Z;have A:=E R.A.len;by_cases S:n<=16;case neg=>
  have HS:=E (show jQ ns d l=false from Rx.2 λh=>S (by have:=h.1;rw[A.A] at this;exact this));go_enter func26,ntmps26;exact Rz
 have aJ:decide (16<n)=false:=aa an;have aM:decide (16<(n:Int))=false:=aa an;cases j:et d
 ·have HS:=E (show jQ ns d l=false from Rx.2 λh=>by rw[h.2.1] at j;cases j);have r:=E j;clear j;go_enter func26,ntmps26;go_wp2_with fail;refine(vJ d _).ah ?_;rintro e w1⟨rfl,rfl⟩;rw[r.A];exact Rz
 cases q:et l
 ·have HS:=E (show jQ ns d l=false from Rx.2 λh=>by rw[h.2.2.1] at q;cases q);have r:=E j;clear j;have z:=E q;clear q;go_enter func26,ntmps26;go_wp2_with fail;refine(vJ d _).ah ?_;rintro e w1⟨rfl,rfl⟩;rw[r.A];go_wp2_with fail;refine(vJ l _).ah ?_;rintro e w1⟨rfl,rfl⟩;rw[z.A];exact Rz
 have r:=E j;clear j;have z:=E q;clear q;go_enter func26,ntmps26;go_wp2_with fail;refine(vJ d _).ah ?_;rintro e w1⟨rfl,rfl⟩;rw[r.A];go_wp2_with fail;refine(vJ l _).ah ?_;rintro e w1⟨rfl,rfl⟩;rw[z.A];go_wp2;go_loopw [24] (λi wr=>∃k:Nat,k<=n/\i=J I k/\a6 (BB k ns)/\aS w.heap.size w wr) (λi _=>n-(intOf i).toNat);case atStart=>exact⟨0,an,rfl,E (λi hi=>ae hi an),(bk _ _).alloc (aO _) _⟩
 case round=>
  obtain⟨k,hk,rfl,T,hB⟩:=hrel;by_cases N:k<n
  ·obtain⟨b,off,rfl,s,H,K,L,F,D⟩:=R.A.at_ N;obtain⟨y,x⟩:∃y,a6 (nt ns k=y):=⟨_,E rfl⟩;rw[x.A] at H K L F D;have X:wr.cell? ⟨b,off+k*5,M⟩=ad (O y.ao y.n y.c):=(hB.cell (p:=(ab b _ M)) s).trans H;have dS:wr.cell? ⟨b,off+k*5+1,M⟩=ad (aG y.f):=(hB.cell (p:=(ab b _ M)) s).trans K;have Y:wr.cell? ⟨b,off+k*5+2,M⟩=ad (J I y.t):=(hB.cell (p:=(ab b _ M)) s).trans L;have V:wr.cell? ⟨b,off+k*5+3,M⟩=ad (J I y.k):=(hB.cell (p:=(ab b _ M)) s).trans F;have W:wr.cell? ⟨b,off+k*5+4,M⟩=ad (J I y.x):=(hB.cell (p:=(ab b _ M)) s).trans D;clear H K L F D;have U:=E (show Rn w w.heap.size y by rw[<-x.A];exact R.A.rE k N);have u:=E (show jQ ns d l=true->BA y fromλh=>by rw[<-x.A];exact(BD.1 h).2.2.2 k (by rw[A.A];exact N));have Q:=E (show BA y->BB (k+1) ns fromλh=>T.A.succ (by rw[x.A];exact h));obtain⟨g,f,m,B,o,yt,a,yx⟩:=y;dsimp only at X dS Y V W;have G:f<=9223372036854775807:=by have:=U.A.cap;simp at this;omega
   have v:=hB.alloc hB.size (aD #[O g f m,aG o,J I yt,J I a,J I yx] 117);have HP:=E (show fm (wr.alloc (aD #[O g f m,aG o,J I yt,J I a,J I yx] 117)) (wr.alloc (aD #[O g f m,aG o,J I yt,J I a,J I yx] 117)).heap.size g f B from U.A.hN.aL v);go_wp2_with fail;refine(Ih g f m B _ G HP.A).ah ?_;rintro e C⟨rfl,t⟩;have cP:=v.trans (t.mono v.size);have ef:C.cell? (ab wr.heap.size 2 M)=ad (J I yt):=((aI.new wr 117 #[O g f m,aG o,J I yt,J I a,J I yx]).al t av).cell 2;have cG:C.cell? (ab wr.heap.size 4 M)=ad (J I yx):=((aI.new wr 117 #[O g f m,aG o,J I yt,J I a,J I yx]).al t av).cell 4;have de:C.cell? (ab wr.heap.size 3 M)=ad (J I a):=((aI.new wr 117 #[O g f m,aG o,J I yt,J I a,J I yx]).al t av).cell 3;clear t v;cases c1:bH B
   ·have HS:=E (show jQ ns d l=false by
     cases h:jQ ns d l
     ·rfl
     ·have:=(u.A h).1;simp only at this;rw[c1] at this;cases this)
    go_wp2;go_ret;exact⟨cc HS.A.symm,cP⟩
   cases c2:et yt
   ·have HS:=E (show jQ ns d l=false by
     cases h:jQ ns d l
     ·rfl
     ·have:=(u.A h).2.1;simp only at this;rw[c2] at this;cases this)
    have uo:=E c2;clear c2;go_wp2_with fail;refine(vJ yt _).ah ?_;rintro e w1⟨rfl,rfl⟩;rw[uo.A];go_wp2;go_ret;exact⟨cc HS.A.symm,cP⟩
   cases c3:et yx
   ·have HS:=E (show jQ ns d l=false by
     cases h:jQ ns d l
     ·rfl
     ·have:=(u.A h).2.2.1;simp only at this;rw[c3] at this;cases this)
    exact Ry
   by_cases c4:a<0
   ·have HS:=E (show jQ ns d l=false by
     cases h:jQ ns d l
     ·rfl
     ·have:=(u.A h).2.2.2.1;simp only at this;omega)
    exact Ry
   have d4:decide (a<0)=false:=aa c4;by_cases c5:8<=a
   ·have HS:=E (show jQ ns d l=false by
     cases h:jQ ns d l
     ·rfl
     ·have:=(u.A h).2.2.2.2;simp only at this;omega)
    exact Ry
   have d5:decide (8<=a)=false:=aa c5;have Q:=E (Q.A ⟨c1,c2,c3,arf,arf⟩);have uo:=E c2;clear c2;have HC3:=E c3;clear c3;go_wp2_with fail;refine(vJ yt _).ah ?_;rintro e w1⟨rfl,rfl⟩;rw[uo.A];go_wp2_with fail;refine(vJ yx _).ah ?_;rintro e w1⟨rfl,rfl⟩;rw[HC3.A];go_wp2;go_roundw;case rel=>exact⟨k+1,an,by go_num,Q,cP⟩
   case measure=>exact aA
  ·obtain rfl:k=n:=by omega
   have HS:=E (show jQ ns d l=true from BD.2 ⟨by rw[A.A];exact S,r.A,z.A,by rw[A.A];exact T.A⟩);go_wp2;go_ret;exact⟨cc HS.A.symm,hB⟩
structure QV (w:aB) (B:Nat) (v:aE) (ns:List Nt) (d l:Int):Prop where
 A:∃ao n c,v=aY #[O ao n c,J I d,J I l]/\ia w B ao n ns/\n<=c/\c<=9223372036854775807
section
variable {w w':aB} {B B':Nat} {v:aE} {ns:List Nt} {d l:Int}
def QV.al (h:QV w B v ns d l) (Z:aS B w w'):QV w' B v ns d l:=by
 obtain⟨ao,n,c,e,a,h2⟩:=h.A;exact⟨ao,n,c,e,a.al Z,h2⟩
def QV.bt (h:QV w B v ns d l) (hB:B<=B'):QV w B' v ns d l:=by
 obtain⟨ao,n,c,e,a,h2⟩:=h.A;exact⟨ao,n,c,e,a.bt hB,h2⟩
def QV.aL (h:QV w w.heap.size v ns d l) (Z:aS w.heap.size w w'):QV w' w'.heap.size v ns d l:=(h.al Z).bt Z.size
def QV.bh (w:aB) (B:Nat):QV w B (aY #[O M 0 0,J I 0,J I 0]) [] 0 0:=⟨_,_,_,rfl,ia.bh _ _ _,aO _,an⟩
end
noncomputable def kB (ns:List Nt) (d l:Int):List Nt:=if jQ ns d l then ns else[]
noncomputable def ly (ns:List Nt) (d l x:Int):Int:=if jQ ns d l then x else 0
def aiI:jQ [] 0 0=true:=BD.2 ⟨av,aq,aq,λi hi=>ae hi av⟩
def Zs (ns:List Nt) (d l:Int):BC (kB ns d l) (ly ns d l d) (ly ns d l l):=by
 unfold kB ly;cases h:jQ ns d l
 ·simp only[tL,if_false];exact BD.1 aiI
 ·simp only[if_true];exact BD.1 h
def aiJ {ns:List Nt} {l:Int} (h:BC ns d l):kB ns d l=ns/\ly ns d l d=d/\ly ns d l l=l:=by
 have:=BD.2 h;simp[kB,ly,this]
def Zt (B:Nat) (v:aE) (d l:Int) (ns:List Nt) (w:aB) (p:B<=w.heap.size) (Z:QV w B v ns d l):aN aH 112 #[v] w λe w'=>(∃o,e=aQ o/\QV w' B o (kB ns d l) (ly ns d l d) (ly ns d l l))/\aS w.heap.size w w':=by
 obtain⟨ao,n,c,rfl,g,h2,y⟩:=Z.A;have q:=E g;have r:=E (g.bt p);clear g Z;have hn:n<=9223372036854775807:=an;go_enter func112,ntmps112;go_wp2_with fail;refine(Zr ao n c d l ns _ hn (r.A.aL ?cN)).ah ?_;case cN=>exact((bk _ _).alloc (aO _) _).alloc av _
 rintro e a⟨rfl,f⟩;have i:aS w.heap.size w a:=(((bk w.heap.size w).alloc (aO _) _).alloc av _).trans (f.mono aw);have b0:=((aI.new w 31 #[O ao n c,J I d,J I l]).alloc (aD #[O M 0 0,J I 0,J I 0] 31)).al f aw;have cH:=(aI.new (w.alloc (aD #[O ao n c,J I d,J I l] 31)) 31 #[O M 0 0,J I 0,J I 0]).al f av;simp only[eO] at cH;have x0:a.cell? (ab w.heap.size 0 M)=ad (O ao n c):=b0.cell 0;have x:a.cell? (ab w.heap.size 1 M)=ad (J I d):=b0.cell 1;have x2:a.cell? (ab w.heap.size 2 M)=ad (J I l):=b0.cell 2;have m:a.cell? ⟨w.heap.size+1,0,M⟩=ad (O M 0 0):=cH.cell 0;have k:a.cell? ⟨w.heap.size+1,1,M⟩=ad (J I 0):=cH.cell 1;have j:a.cell? ⟨w.heap.size+1,2,M⟩=ad (J I 0):=cH.cell 2;have u:a.frozen? ⟨w.heap.size+1,0,M⟩=false:=cH.frozen 0;have t:a.frozen? ⟨w.heap.size+1,1,M⟩=false:=cH.frozen 1;have s:a.frozen? ⟨w.heap.size+1,2,M⟩=false:=cH.frozen 2;clear f b0 cH;cases hs:jQ ns d l
 ·have b:=E (show kB ns d l=[]/\ly ns d l d=0/\ly ns d l l=0 by unfold kB ly;rw[hs];exact⟨rfl,rfl,rfl⟩);go_wp2;refine bF (v:=aY #[O M 0 0,J I 0,J I 0]) (by simp[bz,results112,go_sem,m,k,j]) rfl ?_;exact⟨⟨_,rfl,by rw[b.A.1,b.A.2.1,b.A.2.2];exact QV.bh _ _⟩,((i.setCell av _).setCell av _).setCell av _⟩
 ·have b:=E (show kB ns d l=ns/\ly ns d l d=d/\ly ns d l l=l by unfold kB ly;rw[hs];exact⟨rfl,rfl,rfl⟩);go_wp2;refine bF (v:=aY #[O ao n c,J I d,J I l]) (by simp[bz,results112,go_sem,m,k,j]) rfl ?_;refine⟨⟨_,rfl,?_⟩,?_⟩;rotate_left
  ·exact((i.setCell av _).setCell av _).setCell av _
  ·rw[b.A.1,b.A.2.1,b.A.2.2];exact⟨ao,n,c,rfl,q.A.al ((((i.setCell av _).setCell av _).setCell av _).mono p),an,an⟩
theorem MP (h:P:=by
 go_enter func173,ntmps173;go_wp2;go_ret;exact⟨rfl,rfl⟩;):P:=h
def ai2 (c:Nat) (w:aB):aN aH 173 #[J .u8 (c:Int)] w λe w'=>e=aQ (aG (mH c))/\w'=w:=by
 by_cases b:c=32
 ·subst b;exact MP
 by_cases h2:c=9
 ·subst h2;exact MP
 by_cases a:c=13
 ·subst a;exact MP
 by_cases h4:c=10
 ·subst h4;exact MP
 have d:=E (show mH c=false by unfold mH;simp[b,h2,a,h4]);have j:((c:Int)==32)=false:=aw;have i:((c:Int)==9)=false:=aw;have g:((c:Int)==13)=false:=aw;have f:((c:Int)==10)=false:=aw;clear b h2 a h4;go_enter func173,ntmps173;go_wp2;go_ret;exact⟨cc d.A.symm,rfl⟩
def ZI (c:Nat) (w:aB):aN aH 174 #[J .u8 (c:Int)] w λe w'=>e=aQ (aG (zn c))/\w'=w:=by
 go_enter func174,ntmps174;go_wp2;all_goals go_ret
 all_goals refine⟨cc ?_,rfl⟩
 all_goals rw[Bool.eq_iff_iff]
 all_goals simp only[zn,Bool.or_eq_true,b9,decide_eq_true_eq,beq_iff_eq,true_iff,tL,false_iff]
 all_goals omega
def RG (c:Nat) (w:aB):aN aH 175 #[J .u8 (c:Int)] w λe w'=>e=aQ (aG (l0 c))/\w'=w:=by
 go_enter func175,ntmps175;go_wp2;all_goals go_ret
 all_goals refine⟨cc ?_,rfl⟩
 all_goals rw[Bool.eq_iff_iff]
 all_goals simp only[l0,Bool.or_eq_true,b9,decide_eq_true_eq,beq_iff_eq,true_iff,tL,false_iff]
 all_goals omega
def zp {s:ByteArray} (h:i<s.size):(s[i]'h).toNat=dp s i:=by unfold dp;rw[dif_pos h]
def ZJ (s:ByteArray) (i:Nat) (w:aB) (hs:s.size<=9223372036854775807) (hi:i<=s.size):aN aH 129 #[ap s,J I i] w λe w'=>(∃j:Nat,e=aQ (J I j)/\i<=j/\j<=s.size/\(Plain s->ib mH s i j))/\w'=w:=by
 have C:=E hs;go_enter func129,ntmps129;go_wp2;go_loopw [1] (λr wr=>∃k:Nat,i<=k/\k<=s.size/\r=J I k/\a6 (Plain s->∀j,i<=j->j<k->mH (dp s j)=true)/\wr=w) (λr _=>s.size-(intOf r).toNat);case atStart=>exact⟨i,an,an,rfl,E (λ_ j y h2=>by omega),rfl⟩
 case round=>
  obtain⟨k,l,m,rfl,p,rfl⟩:=hrel;by_cases z:k<s.size
  ·have K:=zp z;obtain⟨c,t⟩:=aP (dp s k);rw[t] at K;have g:=E t;clear t;have f:=ai2 c wr;cases Z:mH c with
   |true=>
    rw[Z] at f;go_wp2_with fail;refine f.ah ?_;rintro e n⟨rfl,rfl⟩;clear f;have G:=C.A;go_wp2;go_roundw;case rel=>exact⟨k+1,an,an,by go_num,E (λb j y h2=>by
     rcases gy j k with h|h
     ·exact p.A b j y h
     ·obtain rfl:j=k:=by omega
      rw[g.A];exact Z),trivial⟩
    case measure=>exact aA
   |false=>
    rw[Z] at f;by_cases A:c=35
    ·subst A;have B:=E (show¬Plain s fromλh=>(h k z).2 g.A);go_wp2_with fail;refine f.ah ?_;rintro e n⟨rfl,rfl⟩;clear f Z;go_wp2;go_loopw [1] (λq D=>∃a:Nat,k<=a/\a<=s.size/\q=J I a/\D=n) (λq _=>s.size-(intOf q).toNat);case atStart=>exact⟨k,an,an,rfl,rfl⟩
     case round=>
      obtain⟨a,M,L,rfl,rfl⟩:=hrel;have G:=C.A;by_cases F:a<s.size
      ·have v:=zp F;by_cases o:dp s a=10
       ·rw[o] at v;have N:k≠a:=λe=>by rw[e] at g;have:=g.A;omega
        go_wp2;go_roundw;case rel=>exact⟨a,an,an,rfl,E (λb=>ae b B.A),trivial⟩
        case measure=>exact aA
       ·obtain⟨d,x⟩:=aP (dp s a);rw[x] at v o;have H:((d:Int)!=10)=true:=aw;clear x o;go_wp2;go_roundw;case rel=>exact⟨a+1,an,an,by go_num,trivial⟩
        case measure=>exact aA
      ·obtain rfl:a=s.size:=by omega
       go_wp2;go_roundw;case rel=>exact⟨s.size,an,an,rfl,E (λb=>ae b B.A),trivial⟩
       case measure=>exact aA
    ·have H:((c:Int)==35)=false:=by simp;omega
     have u:=E (show Plain s->ib mH s i k fromλb=>⟨l,m,p.A b,λ_=>by rw[g.A];exact Z⟩);clear A;go_wp2_with fail;refine f.ah ?_;rintro e n⟨rfl,rfl⟩;clear f Z;go_wp2;go_ret;exact⟨⟨k,rfl,l,m,u.A⟩,rfl⟩
  ·obtain rfl:k=s.size:=by omega
   have u:=E (show Plain s->ib mH s i s.size fromλb=>⟨l,m,p.A b,λh=>ae h (Nat.lt_irrefl _)⟩);go_wp2;go_ret;exact⟨⟨s.size,rfl,l,m,u.A⟩,rfl⟩
def ib.of {P:Nat->Bool} {s:ByteArray} (b:i<=n) (h2:n<=s.size) (a:∀k,i<=k->k<n->P (dp s k)=true) (h4:n<s.size->P (dp s n)=false):ib P s i n:=⟨b,h2,a,h4⟩
def ZL {P:Nat->Bool} {s:ByteArray} (h:∀k,i<=k->k<n->P (dp s k)=true) (a:P (dp s n)=true):∀k,i<=k->k<n+1->P (dp s k)=true:=λk h2 b=>by
 rcases gy k n with h4|h4
 ·exact h k h2 h4
 ·obtain rfl:k=n:=by omega
  exact a
theorem ZM (h:P:=by
 have HE:=E (FX.A (by unfold rH;rw[Z,bd];rfl));go_wp2_with fail;refine hw.ah ?_;rintro e w1⟨rfl,rfl⟩;clear hw;go_wp2_with fail;refine hd.ah ?_;rintro e w1⟨rfl,rfl⟩;clear hd;go_wp2;go_roundw;case rel=>exact⟨k+1,an,an,by go_num,HE,trivial⟩
 case measure=>exact aA
 ):P:=h
theorem ZN (h:P:=by
 go_wp2_with fail;refine hw.ah ?_;rintro e w1⟨rfl,rfl⟩;clear hw;go_wp2_with fail;refine hd.ah ?_;rintro e w1⟨rfl,rfl⟩;clear hd;go_wp2;go_ret;exact⟨⟨k,rfl,HE.A⟩,rfl⟩;):P:=h
def ai3 (s:ByteArray) (a:Bool) (w:aB) (hs:s.size<=9223372036854775807) (r:1<=s.size):aN aH 132 #[ap s,aG a] w λe w'=>(∃n:Nat,e=aQ (J I n)/\ib (rH a) s 1 n)/\w'=w:=by
 have x:=E hs;go_enter func132,ntmps132;go_wp2;go_loopw [5] (λf wr=>∃k:Nat,1<=k/\k<=s.size/\f=J I k/\a6 (∀j,1<=j->j<k->rH a (dp s j)=true)/\wr=w) (λf _=>s.size-(intOf f).toNat);case atStart=>exact⟨1,an,an,rfl,E (λj r h2=>by omega),rfl⟩
 case round=>
  obtain⟨k,i,m,rfl,d,rfl⟩:=hrel;have y:=x.A;by_cases v:k<s.size
  ·have u:=zp v;obtain⟨c,g⟩:=aP (dp s k);rw[g] at u;have q:=E g;clear g;have hw:=ZI c wr;have hd:=RG c wr;have l:rH a c=true->∀j,1<=j->j<k+1->rH a (dp s j)=true:=λh=>ZL d.A (by rw[q.A];exact h);have p:rH a c=false->ib (rH a) s 1 k:=λh=>⟨i,m,d.A,λ_=>by rw[q.A];exact h⟩;have FX:=E l;have t:=E p;clear l p;cases Z:zn c with
   |true=>
    rw[Z] at hw;have HE:=E (FX.A (by unfold rH;rw[Z];rfl));clear hd;go_wp2_with fail;refine hw.ah ?_;rintro e w1⟨rfl,rfl⟩;clear hw;go_wp2;go_roundw;case rel=>exact⟨k+1,an,an,by go_num,HE,trivial⟩
    case measure=>exact aA
   |false=>
    rw[Z] at hw;cases bd:l0 c with
    |true=>
     rw[bd] at hd;exact ZM
    |false=>
     rw[bd] at hd;by_cases b:a=true/\c=46
     ·obtain⟨rfl,rfl⟩:=b;exact ZM
     ·have HE:=E (t.A (by
       unfold rH;rw[Z,bd];cases a with
       |false=>rfl
       |true=>simp;exactλh=>b ⟨rfl,h⟩))
      have o:a=true->((c:Int)==46)=false:=λh=>by
       have:c≠46:=λh2=>b ⟨h,h2⟩;simp;omega
      clear b;cases a with
      |false=>
       exact ZN
      |true=>
       have z:=o rfl;clear o;exact ZN
  ·obtain rfl:k=s.size:=by omega
   have HE:=E (show ib (rH a) s 1 s.size from⟨i,m,d.A,λh=>ae h (Nat.lt_irrefl _)⟩);go_wp2;go_ret;exact⟨⟨s.size,rfl,HE.A⟩,rfl⟩
variable {t:bf} {cs:Array aE} {a0 cZ a2:aE}
section
variable {w w':aB} {B B' n:Nat} {ao:Option aX} {ns:List Nt} {y:Nt}
def fm.setCell (h:fm w B ao n L) {p:aX} (hB:B<=p.block) (u:aE):fm (w.setCell p u) B ao n L:=⟨h.len,h.q.setCell hB u,h.sz⟩
def fm.alloc (h:fm w B ao n L) (hB:B<=w.heap.size) (o:Obj):fm (w.alloc o) B ao n L:=⟨h.len,h.q.alloc hB o,h.sz⟩
def fm.grown {row:Option Nat} (h:fm w B ao n L) (hg:w.grownBy w' row) (hB:B<=w.heap.size) (a:∀g,row=ad g->B<=g):fm w' B ao n L:=⟨h.len,h.q.grown hg hB a,h.sz⟩
def Rn.setCell (h:Rn w B y) {p:aX} (hB:B<=p.block) (u:aE):Rn (w.setCell p u) B y:=⟨h.hN.setCell hB u,h.cap⟩
def Rn.alloc (h:Rn w B y) (hB:B<=w.heap.size) (o:Obj):Rn (w.alloc o) B y:=⟨h.hN.alloc hB o,h.cap⟩
def Rn.grown {row:Option Nat} (h:Rn w B y) (hg:w.grownBy w' row) (hB:B<=w.heap.size) (a:∀g,row=ad g->B<=g):Rn w' B y:=⟨h.hN.grown hg hB a,h.cap⟩
def ia.setCell (h:ia w B ao n ns) {p:aX} (hB:B<=p.block) (u:aE):ia (w.setCell p u) B ao n ns:=⟨h.len,h.sl.setCell hB u,λi hi=>(h.rE i hi).setCell hB u⟩
def ia.alloc (h:ia w B ao n ns) (hB:B<=w.heap.size) (o:Obj):ia (w.alloc o) B ao n ns:=⟨h.len,h.sl.alloc hB o,λi hi=>(h.rE i hi).alloc hB o⟩
def ia.grown {row:Option Nat} (h:ia w B ao n ns) (hg:w.grownBy w' row) (hB:B<=w.heap.size) (a:∀g,row=ad g->B<=g):ia w' B ao n ns:=⟨h.len,h.sl.grown hg hB a,λi hi=>(h.rE i hi).grown hg hB a⟩
end
def aiK (g i:Nat):((ab g 0 M):aX).add i=⟨g,0+i,M⟩:=aqj
def jh (w:aB) (base e:Nat) (v:aE) (l:List Nt):Prop:=w.ownsRow base e 5 v l.length (jx l)
section
variable {w w':aB} {base e:Nat} {v:aE} {l:List Nt}
def jh.bh (w:aB) (base e:Nat):jh w base e (O M 0 0) []:=World.ownsRow_nil _ _ _ _
def jh.form (h:jh w base e v l):(v=O M 0 0/\l=[])\/∃g cap,v=O (ad (ab g 0 M)) l.length cap/\base<=g/\g<w.heap.size/\l.length<=cap/\cap<=bK:=by
 exact Ld
def jh.Jg (h:jh w base e v l) (hB:B<=w.heap.size) (a:∀i,i<l.length->Rn w B (nt l i)):∃ao n cap,v=O ao n cap/\ia w w.heap.size ao n l/\n<=cap/\cap<=9223372036854775807:=by
 rcases h.form with⟨rfl,rfl⟩|⟨g,cap,rfl,_,aK,hc,hm⟩
 ·exact⟨M,0,0,rfl,ia.bh _ _ _,aO _,an⟩
 ·refine⟨_,_,cap,rfl,⟨rfl,λ_=>⟨g,0,rfl,aK,λi hi=>?_⟩,λi hi=>(a i hi).bt hB⟩,hc,hm⟩;have b:(jx l)[i]?=ad ((jx l).getD i (aG false)):=by
   rw[dd,cR (by rw[Zo];exact hi)];rfl
  have:=World.ownsRow.cells h (g:=g) rfl i _ b;rw[aiK] at this;exact this
def jh.setCell (h:jh w base e v l) {a:aX} (b:a.block<base) (u:aE):jh (w.setCell a u) base e v l:=ownsRow_setCell_below h b u
def jh.alloc (h:jh w base e v l) (o:Obj):jh (w.alloc o) base e v l:=World.ownsRow.alloc h o
def jh.nI (h:jh w base e v l):∀k,v.ownBlock=ad k->base<=k:=λk a=>(CX h k a).1
def jh.AO (w:aB) (e:bf) (Z:base<=w.heap.size):jh (w.alloc (aD #[] e)) base e (O (ad (ab w.heap.size 0 M)) 0 0) []:=⟨rfl,.inr ⟨w.heap.size,0,#[],rfl,Z,qR w _,aO _,bV _,rfl,rfl⟩⟩
end
def jh.shape {e:Nat} {l:List Nt} (h:jh w base e v l):∃ao n cap,v=O ao n cap:=by
 rcases h.form with⟨rfl,rfl⟩|⟨g,cap,rfl,_⟩
 ·exact⟨_,_,_,rfl⟩
 ·exact⟨_,_,_,rfl⟩
def aiL (ns:List Nt):∀u∈jx ns,u.oneCell'=true:=by
 intro u b;obtain⟨y,_,a⟩:=List.mem_flatMap.1 b;simp[Nt.cells] at a;rcases a with rfl|rfl|rfl|rfl|rfl<;>rfl
def aiM:(aH.info? 117).map (λi=>(i.zero,i.size,i.bytes))=ad (ad (aY #[O M 0 0,aG false,J I 0,J I 0,J I 0]),5,56):=ar
section
variable {w:aB}
end
def aI.Zu (h:aI w g t #[a0,cZ,a2]) (u0 u1 u2:aE):aI (((w.setCell (ab g 0 M) u0).setCell (ab g 1 M) u1).setCell (ab g 2 M) u2) g t #[u0,u1,u2]:=((h.put 0 u0).put 1 u1).put 2 u2
def aI.MJ (h:aI w g t cs) {k:Nat} (a:g≠k) (u0 u1 u2:aE):aI (((w.setCell (ab k 0 M) u0).setCell (ab k 1 M) u1).setCell (ab k 2 M) u2) g t cs:=((h.bT a u0).bT a u1).bT a u2
def MK {a:aB} (h:aS B a w) {k:Nat} (b:B<=k) (u0 u1 u2:aE):aS B a (((w.setCell (ab k 0 M) u0).setCell (ab k 1 M) u1).setCell (ab k 2 M) u2):=((h.setCell b u0).setCell b u1).setCell b u2
def kC (ns:List Nt) (t:Int):Bool:=decide (0<ns.length)&&decide ((nt ns 0).x<=ga t)
def qt (ns:List Nt) (t:Int):Nt:=if kC ns t then nt ns 0 else default
def Zv {a:aB} (h:aS B a w) {k:Nat} (b:B<=k) (u0 u1 u2 u3 u4:aE):aS B a (((((w.setCell (ab k 0 M) u0).setCell (ab k 1 M) u1).setCell (ab k 2 M) u2).setCell (ab k 3 M) u3).setCell (ab k 4 M) u4):=((((h.setCell b u0).setCell b u1).setCell b u2).setCell b u3).setCell b u4
theorem Zw (h:P:=by
 refine WQ.bh ?_;rintro iE⟨⟨wq,hq⟩,dA⟩;obtain rfl:wq=iE:=dA.symm;clear dA;have k1:=g1.al hq g1.lt;have r0:=k1.cell 0;have r1:=k1.cell 1;have r2:=k1.cell 2;have wP:=k1.cell 3;have r4:=k1.cell 4;have z0:=k1.frozen 0;have z1:=k1.frozen 1;have z2:=k1.frozen 2;have z3:=k1.frozen 3;have z4:=k1.frozen 4;simp at r0 r1 r2 wP r4;have cP:=bN.trans (hq.mono bN.size);clear k1 hq;go_wp2;refine bF (v:=bn #[aY #[O M 0 0,aG false,J I 0,J I 0,J I 0],aG false]) (by simp[bz,results78,go_sem,r0,r1,r2,wP,r4]) rfl ?_;refine⟨?_,Zv cP an _ _ _ _ _⟩;rw[H1.A];unfold qt;rw[HE.A];rfl;):P:=h
def RA (v:aE) (d l:Int) (ns:List Nt) (t:Int) (w:aB) (Z:QV w w.heap.size v ns d l):aN aH 78 #[v,J I t] w λe w'=>e=aQ (bn #[(qt (kB ns d l) t).val,aG (kC (kB ns d l) t)])/\aS w.heap.size w w':=by
 have HB:=E Z;obtain⟨A0,n0,c0,rfl,Y,h2,h3⟩:=Z.A;clear Y Z;obtain⟨n,H1⟩:∃x,a6 (kB ns d l=x):=⟨_,E rfl⟩;obtain⟨d1,H2⟩:∃x,a6 (ly ns d l d=x):=⟨_,E rfl⟩;obtain⟨l1,H3⟩:∃x,a6 (ly ns d l l=x):=⟨_,E rfl⟩;go_enter func78,ntmps78;go_wp2_with fail;refine(Zt w.heap.size _ d l ns _ aw (HB.A.al ?cN)).ah ?_;case cN=>exact((bk _ _).alloc (aO _) _).alloc av _
 rintro e c⟨⟨v1,rfl,o⟩,aW⟩;rw[H1.A,H2.A,H3.A] at o;have bg:aS w.heap.size w c:=(((bk w.heap.size w).alloc (aO _) _).alloc av _).trans (aW.mono aw);have b0:=((aI.new w 31 #[O A0 n0 c0,J I d,J I l]).alloc (aD #[O M 0 0,aG false,J I 0,J I 0,J I 0] 117)).al aW aw;have cH:=(aI.new (w.alloc (aD #[O A0 n0 c0,J I d,J I l] 31)) 117 #[O M 0 0,aG false,J I 0,J I 0,J I 0]).al aW av;simp only[eO] at cH;obtain⟨A1,n1,c1,rfl,o,FJ,g⟩:=o.A;have G:n.length=n1:=o.len;have x0:c.frozen? (ab w.heap.size 0 M)=false:=b0.frozen 0;have x1:c.frozen? (ab w.heap.size 1 M)=false:=b0.frozen 1;have x2:c.frozen? (ab w.heap.size 2 M)=false:=b0.frozen 2;have ef:c.cell? (ab w.heap.size 0 M)=ad (O A0 n0 c0):=b0.cell 0;have cG:c.cell? (ab w.heap.size 1 M)=ad (J I d):=b0.cell 1;have de:c.cell? (ab w.heap.size 2 M)=ad (J I l):=b0.cell 2;have u:=b0.Zu (O A1 n1 c1) (J I d1) (J I l1);have g1:=cH.MJ (k:=w.heap.size) an (O A1 n1 c1) (J I d1) (J I l1);have bN:=MK bg (aO _) (O A1 n1 c1) (J I d1) (J I l1);have K:=E (((o.setCell (p:=(ab w.heap.size 0 M)) (aO _) (O A1 n1 c1)).setCell (p:=(ab w.heap.size 1 M)) (aO _) (J I d1)).setCell (p:=(ab w.heap.size 2 M)) (aO _) (J I l1));have vt:w.heap.size+1<c.heap.size:=aqz;obtain⟨W,s⟩:=aP (((c.setCell (ab w.heap.size 0 M) (O A1 n1 c1)).setCell (ab w.heap.size 1 M) (J I d1)).setCell (ab w.heap.size 2 M) (J I l1));have Qh:W.heap.size=c.heap.size:=by rw[<-s];simp
 rw[s] at u g1 K bN;have q0:∀p:ba W,p.aL.cell? (ab w.heap.size 0 M)=ad (O A1 n1 c1):=ba.cells u 0;have D:=E (show∀p:ba W,aN aH 113 #[J I t] p.aL λe cT=>e=aQ (J I (ga t))/\∃q:ba W,cT=q.aL fromλp=>aN.aeT ((MI t p.aL).mono λ_ _ h=>⟨h.1,h.2.symm⟩));have C:=E s;clear aW b0 cH o s;by_cases h0:n1=0
 ·subst h0;have HE:=E (show kC n t=false by unfold kC;rw[G];rfl);go_wp2_with fail;rw[C.A];refine pk ar ar ?_;repeat (
   refine WQ.step (λKK a=>?_);go_simp;refine a _ ?_;clear a KK)
  exact Zw
 ·obtain⟨b,off,rfl,cw,j,g,m,i,f⟩:=K.A.at_ (k:=0) an;obtain⟨y,B⟩:∃y,a6 (nt n 0=y):=⟨_,E rfl⟩;rw[B.A] at j g m i f;simp only[Nat.zero_mul,Nat.add_zero] at j g m i f;have z:=E (show kC n t=decide (y.x<=ga t) by unfold kC;rw[G,B.A];simp;omega);have Jh:=E (show kC n t=true->qt n t=y by intro h;unfold qt;rw[h,B.A];rfl);obtain⟨U,N,S,yL,R,L,Q,r⟩:=y;dsimp only at j g m i f z;have oN:∀p:ba W,p.aL.cell? ⟨b,off+4,M⟩=ad (J I r):=λp=>p.cell arc f;have e0:((n1:Int)==0)=false:=beq_false_of_ne an;have A:0<n1:=an;have aM:decide (0<n1)=true:=ac A;obtain⟨T,HT⟩:∃T,a6 (ga t=T):=⟨_,E rfl⟩;rw[HT.A] at D z;by_cases H:r<=T
  ·have HE:=E (show kC n t=true by rw[z.A];exact ac H);have Bh:decide (T<r)=false:=aa an;have aK:b<w.heap.size:=cw;have F:=E (⟨j,g,m,i,f⟩:(_/\_/\_/\_/\_));clear j g m i f;go_wp2_with fail;rw[C.A];refine pk ar ar ?_;repeat (
    refine WQ.step (λKK a=>?_);go_simp;first
     |(refine a _ ?_;clear a KK)
     |(apply lL;refine⟨λ_=>?_,a _ ?_⟩;((go_at_call 113;exact D.A _));clear a KK))
   refine WQ.bh ?_;rintro iE⟨⟨wq,hq⟩,dA⟩;obtain rfl:wq=iE:=dA.symm;clear dA;have k1:=g1.al hq g1.lt;have k0:=u.al hq u.lt;have r0:=k1.cell 0;have r1:=k1.cell 1;have r2:=k1.cell 2;have wP:=k1.cell 3;have r4:=k1.cell 4;have z0:=k1.frozen 0;have z1:=k1.frozen 1;have z2:=k1.frozen 2;have z3:=k1.frozen 3;have z4:=k1.frozen 4;have p0:=k0.cell 0;simp at r0 r1 r2 wP r4;obtain⟨j,g,m,i,f⟩:=F.A;have Zx:=(hq.cell (p:=(ab b off M)) arc).trans j;have X:=(hq.cell (p:=⟨b,off+1,M⟩) arc).trans g;have mE:=(hq.cell (p:=⟨b,off+2,M⟩) arc).trans m;have Zy:=(hq.cell (p:=⟨b,off+3,M⟩) arc).trans i;have V:=(hq.cell (p:=⟨b,off+4,M⟩) arc).trans f;have cP:=bN.trans (hq.mono bN.size);clear k1 hq j g m i f k0;go_wp2;refine bF (v:=bn #[aY #[O U N S,aG R,J I L,J I Q,J I r],aG true]) (by simp[bz,results78,go_sem,r0,r1,r2,wP,r4]) rfl ?_;refine⟨?_,Zv cP an _ _ _ _ _⟩;rw[H1.A,Jh.A HE.A,HE.A];rfl
  ·have HE:=E (show kC n t=false by rw[z.A];exact aa H);have Bh:decide (T<r)=true:=ac an;clear j g m i f;go_wp2_with fail;rw[C.A];refine pk ar ar ?_;repeat (
    refine WQ.step (λKK a=>?_);go_simp;first
     |(refine a _ ?_;clear a KK)
     |(apply lL;refine⟨λ_=>?_,a _ ?_⟩;((go_at_call 113;exact D.A _));clear a KK))
   exact Zw
def Rd (w:aB) (g B:Nat):Except Nat (List UInt8)->Prop
 |.ok l=>∃ao n c,aI w g 365 #[O ao n c,J I 0]/\Bs w B ao n l/\n<=c/\c<=9223372036854775807
 |.error c=>1<=c/\∃v,aI w g 365 #[v,J I (c:Int)]
def Rd.eP {st:Except Nat (List UInt8)} (h:Rd w g B st):∃v c,aI w g 365 #[v,J I (c:Int)]:=by
 cases st with
 |error c=>exact⟨_,_,h.2.choose_spec⟩
 |ok l=>obtain⟨ao,n,c,a,_⟩:=h;exact⟨_,0,a⟩
def Rd.lt {st:Except Nat (List UInt8)} (h:Rd w g B st):g<w.heap.size:=by
 obtain⟨v,c,h⟩:=h.eP;exact h.lt
def dc:Except Nat (List UInt8)->Nat×Except Nat (List UInt8)
 |.error c=>(0,.error c)
 |.ok l=>match e9 l with
  |.error c=>(0,.error c)
  |.ok (u,r)=>(u,.ok r)
def dZ:Except Nat (List UInt8)->List UInt8×Except Nat (List UInt8)
 |.error c=>([],.error c)
 |.ok l=>match kk l with
  |.error c=>([],.error c)
  |.ok (t,r)=>(t,.ok r)
def YF {l:List UInt8} {c:Nat} (h:kk l= .error c):1<=c:=by
 unfold kk at h;cases a:e9 l with
 |error c'=>rw[a] at h;have:=wN a;simp at h;omega
 |ok q=>
  rw[a] at h;obtain⟨n,r⟩:=q;simp only at h;by_cases b:65536<n
  ·rw[ag b] at h;simp at h;omega
  ·rw[af b] at h;by_cases h2:r.length<n
   ·rw[ag h2] at h;simp at h;omega
   ·rw[af h2] at h;cases h
def xl (h:aS w.heap.size w w') (row:Option Nat):w.grownBy w' row:=⟨h.os,h.tape,h.output,h.size,λk a _=>h.block k a⟩
def _root_.Go.World.grownBy.set (h:w.grownBy w' (ad g)) (i:Nat) (u:aE):w.grownBy (w'.setCell (ab g i M) u) (ad g):=⟨h.os,h.tape,h.output,by simp[eB];exact h.size,λk b a=>(yv _ _ _ k (λe=>a wH)).trans (h.block k b a)⟩
def YG (g B:Nat) (st:Except Nat (List UInt8)) (w:aB) (eN:B<=g) (h:Rd w g B st):aN aH 248 #[bl (ad (ab g 0 M)),.func (.func 170) #[] #[]] w λe w'=>e=aQ (ap ⟨(dZ st).1.toArray⟩)/\Rd w' g B (dZ st).2/\w.grownBy w' (ad g):=by
 have hg:=h.lt;cases st with
 |error c=>
  obtain⟨u,v,Z⟩:=h;have d:((c:Int)==0)=false:=beq_eq_false_iff_ne.2 an;have C:=Z.cell;have m:=E Z;clear Z;go_enter func248,ntmps248;go_wp2;go_ret;exact⟨rfl,⟨u,v,m.A⟩,EZ _ _⟩
 |ok l=>
  obtain⟨ao,n,cap,Z,s,D,H⟩:=h;have C:=Z.cell;have m:=E Z;clear Z;have G:=E s;clear s;have y:n<=9223372036854775807:=an;go_enter func248,ntmps248;go_wp2_with fail;refine(VZ B ao n cap l _ an y D H G.A).ah ?_;rintro e K⟨f,j⟩;have b:=m.A.al j hg;have J:=b.lt;have⟨N,L⟩:=b.cf;cases a:kk l with
  |error c=>
   rw[a] at f;obtain rfl:=f;have u:=YF a;have k:=E (show dZ (.ok l)=([],.error c) by simp only[dZ,a]);clear a;have i:=E b;clear b;go_wp2;refine bF (v:=ap ⟨#[]⟩) (by simp[bz,results248,go_sem]) rfl ?_;rw[k.A];exact⟨rfl,⟨an,O M 0 0,(i.A.put 0 _).put 1 _⟩,(xl j _).set 0 _|>.set 1 _⟩
  |ok q=>
   obtain⟨t,r⟩:=q;rw[a] at f;obtain⟨A2,z,c2,rfl,p,F,I⟩:=f;have k:=E (show dZ (.ok l)=(t,.ok r) by simp only[dZ,a]);clear a;have i:=E b;have o:=E p;clear b p;generalize x:(⟨t.toArray⟩:ByteArray)=st;have A:=E x;clear x;go_wp2;refine bF (v:=ap st) (by simp[bz,results248,go_sem]) rfl ?_;rw[k.A];exact⟨by rw[A.A],⟨A2,z,c2,(i.A.put 0 _).put 1 _,⟨o.A.len,(o.A.sl.setCell arz _).setCell arz _⟩,F,I⟩,(xl j _).set 0 _|>.set 1 _⟩
def ahM (w':aB) (B:Nat) (e:Ending):Except Nat (Nat×List UInt8)->Prop
 |.ok (t,r)=>∃A2 n2 c2,e=aQ (bn #[J I (t:Int),O A2 n2 c2,J I 0])/\Bs w' B A2 n2 r/\n2<=c2/\c2<=9223372036854775807
 |.error c=>e=aQ (bn #[J I 0,O M 0 0,J I (c:Int)])
theorem YH (h:P:=by
 obtain⟨m,r⟩:=q;obtain⟨hl,VT⟩:=C3 hu;have j1:r.length+(bu m).length=n:=by have:=congrArg oz hl;rw[b2,Z.len] at this;omega
 refine⟨_,_,_,rfl,?_,an,an⟩;have:=(Z.al (aW.mono dI)).lo (k:=n-r.length) (cap:=cap) an cB;have e1:l.drop (n-r.length)=r:=aq0;have e2:n-(n-r.length)=r.length:=an;rw[e1,e2] at this;exact this;):P:=h
def YI (B:Nat) (ao:Option aX) (n cap:Nat) (l:List UInt8) (w:aB) (dI:B<=w.heap.size) (hn:n<=9223372036854775807) (cB:n<=cap) (a:cap<=9223372036854775807) (Z:Bs w B ao n l):aN aH 166 #[O ao n cap] w λe w'=>ahM w' B e (e9 l)/\aS w.heap.size w w':=by
 refine(H7 ao n cap l _ hn cB a (Z.bt dI)).ah ?_;rintro e b⟨rfl,aW⟩;refine⟨?_,aW⟩;cases hu:e9 l with
 |error c=>rfl
 |ok q=>
  exact YH
def ahN (g B:Nat) (st:Except Nat (List UInt8)) (w:aB) (eN:B<=g) (h:Rd w g B st):aN aH 247 #[bl (ad (ab g 0 M)),.func (.func 166) #[] #[]] w λe w'=>e=aQ (J I ((dc st).1:Int))/\Rd w' g B (dc st).2/\w.grownBy w' (ad g):=by
 have hg:=h.lt;cases st with
 |error c=>
  obtain⟨u,v,Z⟩:=h;have d:((c:Int)==0)=false:=beq_eq_false_iff_ne.2 an;have z:=Z.cell;have m:=E Z;clear Z;go_enter func247,ntmps247;go_wp2;go_ret;exact⟨rfl,⟨u,v,m.A⟩,EZ _ _⟩
 |ok l=>
  obtain⟨ao,n,cap,Z,s,A,F⟩:=h;have z:=Z.cell;have m:=E Z;clear Z;have D:=E s;clear s;have x:n<=9223372036854775807:=an;go_enter func247,ntmps247;go_wp2_with fail;refine(YI B ao n cap l _ an x A F D.A).ah ?_;rintro e K⟨f,j⟩;have b:=m.A.al j hg;have H:=b.lt;have⟨N,L⟩:=b.cf;cases a:e9 l with
  |error c=>
   rw[a] at f;obtain rfl:=f;have u:=wN a;have k:=E (show dc (.ok l)=(0,.error c) by simp only[dc,a]);clear a;have i:=E b;clear b;go_wp2;refine bF (v:=J I 0) (by simp[bz,results247,go_sem]) rfl ?_;rw[k.A];exact⟨rfl,⟨an,O M 0 0,(i.A.put 0 _).put 1 _⟩,(xl j _).set 0 _|>.set 1 _⟩
  |ok q=>
   obtain⟨t,r⟩:=q;rw[a] at f;obtain⟨A2,y,c2,rfl,p,C,G⟩:=f;have k:=E (show dc (.ok l)=(t,.ok r) by simp only[dc,a]);clear a;have i:=E b;have o:=E p;clear b p;go_wp2;refine bF (v:=J I (t:Int)) (by simp[bz,results247,go_sem]) rfl ?_;rw[k.A];exact⟨rfl,⟨A2,y,c2,(i.A.put 0 _).put 1 _,⟨o.A.len,(o.A.sl.setCell arz _).setCell arz _⟩,C,G⟩,(xl j _).set 0 _|>.set 1 _⟩
variable {w1:aB}
def rr (q:ByteArray×ByteArray):aE×aE:=(ap q.1,ap q.2)
def xm:Nat->List UInt8->aZ->Except Nat (aZ×List UInt8)
 |0,r,ps=>.ok (ps,r)
 |k+1,r,ps=>match kk r with
  |.error c=>.error c
  |.ok (a,r1)=>match kk r1 with
   |.error c=>.error c
   |.ok (b,r2)=>xm k r2 (ps++[(⟨a.toArray⟩,⟨b.toArray⟩)])
noncomputable def uk (l:List UInt8):Except Nat (aZ×List UInt8):=match e9 l with
 |.error c=>.error c
 |.ok (n,r)=>if 16<n then .error 4 else match xm n r [] with
  |.error c=>.error c
  |.ok (ps,r2)=>if bH ps=true then .ok (ps,r2) else .error 1
def Q3 (ps:aZ):Prop:=∀q∈ps,q.1.size<=65536/\q.2.size<=65536
def fl.hN {e:Nat} {ps:aZ} (h:fl w base e rr v ps) (hs:Q3 ps):∃ao n cap,v=O ao n cap/\n=ps.length/\fm w w.heap.size ao n ps/\n<=cap/\cap<=bK:=by
 obtain⟨ao,n,cap,rfl,hn,a,c,b⟩:=h.q2;refine⟨ao,n,cap,rfl,hn,⟨hn.symm,a.congr (λi hi=>?_) (λi hi=>?_),λi hi=>?_⟩,c,b⟩
 ·rw[cR an];have:=DQ (L:=ps) (i:=i) an;simp[rr,<-this]
 ·rw[cR an];have:=DQ (L:=ps) (i:=i) an;simp[rr,<-this]
 ·have:=DQ (L:=ps) (i:=i) an;have h2:=hs _ (dl (by omega:i<ps.length));rw[<-this] at h2;simp only at h2;omega
def YJ {l t r:List UInt8} (h:kk l= .ok (t,r)):t.length<=65536:=by
 unfold kk at h;cases a:e9 l with
 |error c'=>rw[a] at h;cases h
 |ok q=>
  rw[a] at h;obtain⟨n,c⟩:=q;simp only at h;by_cases b:65536<n
  ·rw[ag b] at h;cases h
  ·rw[af b] at h;by_cases h2:c.length<n
   ·rw[ag h2] at h;cases h
   ·rw[af h2] at h;simp at h;rw[<-h.1,tH];omega
def YK (st:Except Nat (List UInt8)):(⟨(dZ st).1.toArray⟩:ByteArray).size<=65536:=by
 show(dZ st).1.toArray.size<=65536;rw[lM];cases st with
 |error c=>simp[dZ]
 |ok l=>
  cases a:kk l with
  |error c=>simp[dZ,a]
  |ok q=>obtain⟨t,r⟩:=q;simp only[dZ,a];exact YJ a
def DR (N:Nat) (X:Except Nat (aZ×List UInt8)) (ps:aZ):Except Nat (List UInt8)->Prop
 |.error c=>X= .error c
 |.ok r=>ps.length<=N/\xm (N-ps.length) r ps=X
def DR.step {N:Nat} {X:Except Nat (aZ×List UInt8)} {ps:aZ} {r:List UInt8} (h:DR N X ps (.ok r)) (g:ps.length<N):DR N X (ps++[(⟨(dZ (.ok r)).1.toArray⟩,⟨(dZ (dZ (.ok r)).2).1.toArray⟩)]) (dZ (dZ (.ok r)).2).2:=by
 obtain⟨f,h2⟩:=h;obtain⟨k,e⟩:∃k,N-ps.length=k+1:=⟨N-ps.length-1,an⟩;rw[e] at h2;unfold xm at h2;cases d:kk r with
 |error c=>rw[d] at h2;simp only[dZ,d];exact h2.symm
 |ok q=>
  obtain⟨a,r1⟩:=q;rw[d] at h2;simp only at h2;simp only[dZ,d];cases Z:kk r1 with
  |error c=>rw[Z] at h2;exact h2.symm
  |ok q2=>
   obtain⟨b,r2⟩:=q2;rw[Z] at h2;simp only at h2;refine⟨aw,?_⟩;rw[b2,p8,show N-(ps.length+1)=k by omega];exact h2
noncomputable def YL:Except Nat (aZ×List UInt8)->Except Nat (aZ×List UInt8)
 |.error c=>.error c
 |.ok (ps,r2)=>if bH ps=true then .ok (ps,r2) else .error 1
noncomputable def Mq (l:List UInt8):Except Nat (aZ×List UInt8):=match e9 l with
 |.error c=>.error c
 |.ok (n,r)=>if 16<n then .error 4 else xm n r []
def ahO (l:List UInt8):uk l=YL (Mq l):=by
 unfold uk Mq;cases e9 l with
 |error c=>rfl
 |ok q=>
  obtain⟨n,r⟩:=q;simp only;by_cases h:16<n
  ·rw[ag h,ag h];rfl
  ·rw[af h,af h];cases xm n r [] with
   |error c=>rfl
   |ok q2=>rfl
def ahP (w':aB) (B:Nat) (e:Ending):Except Nat (aZ×List UInt8)->Prop
 |.ok (ps,r)=>∃A1 n1 c1 A2 n2 c2,e=aQ (bn #[O A1 n1 c1,O A2 n2 c2,J I 0])/\fm w' w'.heap.size A1 n1 ps/\n1<=c1/\c1<=9223372036854775807/\n1<=16/\Bs w' B A2 n2 r/\n2<=c2/\c2<=9223372036854775807/\(∃base,fl w' base 78 rr (O A1 n1 c1) ps)/\Q3 ps
 |.error c=>e=aQ (bn #[O M 0 0,O M 0 0,J I (c:Int)])/\1<=c
def Bs.Q4 {l:List UInt8} (h:Bs w B ao n l) (hB:B<=w.heap.size) (o:Obj):Bs (w.alloc o) B ao n l:=⟨h.len,h.sl.alloc hB o⟩
def sliceLen:aE->Nat
 |O _ n _=>n
 |_=>0
def fl.sliceLen {α:Type} {e:Nat} {f:α->aE×aE} {l:List α} (h:fl w base e f v l):Proofs.YtbeaddlblpgppaaGreatDoor.sliceLen v=l.length:=by
 rcases h.form with⟨rfl,rfl⟩|⟨g,cap,rfl,_⟩<;>rfl
def Rd.alloc {st:Except Nat (List UInt8)} (h:Rd w g B st) (hB:B<=w.heap.size) (o:Obj):Rd (w.alloc o) g B st:=by
 cases st with
 |error c=>exact⟨h.1,_,h.2.choose_spec.alloc o⟩
 |ok l=>obtain⟨ao,n,c,b,h2,a⟩:=h;exact⟨ao,n,c,b.alloc o,h2.Q4 hB o,a⟩
def Rd.grown {st:Except Nat (List UInt8)} {row:Option Nat} (h:Rd w g B st) (hg:w.grownBy w' row) (a:ad g≠row) (b:∀k,row=ad k->B<=k) (hB:B<=w.heap.size):Rd w' g B st:=by
 cases st with
 |error c=>exact⟨h.1,_,h.2.choose_spec.grown hg a⟩
 |ok l=>obtain⟨ao,n,c,e,h2,d⟩:=h;exact⟨ao,n,c,e.grown hg a,⟨h2.len,h2.sl.grown hg hB b⟩,d⟩
def Rd.al {st:Except Nat (List UInt8)} (h:Rd w g B st) (hB:B<=w.heap.size) (Z:aS w.heap.size w w'):Rd w' g B st:=h.grown (xl Z M) av (λk e=>by cases e) hB
def ahQ {a:aB} {row:Option Nat} (h:aS w.heap.size w w1) (hg:w1.grownBy a row) (b:∀k,row=ad k->w.heap.size<=k):aS w.heap.size w a:=h.grown hg h.size b
def ahR (B:Nat) (ao:Option aX) (n cap:Nat) (l:List UInt8) (w:aB) (U:B<=w.heap.size) (hn:n<=9223372036854775807) (cB:n<=cap) (ij:cap<=9223372036854775807) (Z:Bs w B ao n l):aN aH 214 #[O ao n cap] w λe w'=>ahP w' B e (uk l)/\aS w.heap.size w w':=by
 have HB:=E Z;clear Z;obtain⟨g,HG⟩:∃g,a6 (g=w.heap.size):=⟨_,E rfl⟩;have Q5:Bs (w.alloc (aD #[O ao n cap,J I 0] 365)) B ao n l:=HB.A.Q4 U _;have Q5:=E Q5;go_enter func214,ntmps214;go_wp2_with fail;refine(ahN w.heap.size B (.ok l) _ U ⟨ao,n,cap,?_,Q5.A,cB,ij⟩).ah ?_
 ·exact(aI.new w _ _)
 rintro e w1⟨rfl,j,V⟩;have bg:aS w.heap.size w w1:=(((bk w.heap.size w).alloc (aO _) _)).grown V av (λk e=>by cases e;exact aO _);obtain⟨N,HN⟩:∃N:Nat,a6 ((dc (.ok l)).1=N):=⟨_,E rfl⟩;rw[HN.A];obtain⟨X,mo⟩:∃X,a6 (Mq l=X):=⟨_,E rfl⟩;have HX:=E (show uk l=YL X by rw[<-mo.A];exact ahO l);obtain⟨i,YM⟩:∃st,a6 ((dc (.ok l)).2=st):=⟨_,E rfl⟩;rw[YM.A] at j;have Q6:=E (show(∃c,i= .error c/\1<=c/\N=0/\X= .error c)\/∃r,i= .ok r/\X=if 16<N then .error 4 else xm N r [] by
  rw[<-YM.A,<-mo.A,<-HN.A];unfold Mq;cases T:e9 l with
  |error c=>exact .inl ⟨c,by simp only[dc,T],ai (wN T),by simp only[dc,T],rfl⟩
  |ok q=>obtain⟨u,r⟩:=q;exact .inr ⟨r,by simp only[dc,T],by simp only[dc,T]⟩)
 have ru:=E j;clear j V;go_upto_region 3 with(fail);go_cut [19] from 13 (λs wr=>s=aG (decide (16<N))/\wr=w1);case first=>
  obtain⟨v0,c,f⟩:=ru.A.eP;have e0:=f.cell 1;by_cases fW:c=0
  ·obtain rfl:=fW;clear f;go_wp2;go_meet;case rel=>exact⟨aw,rfl⟩
  ·have d:((c:Int)==0)=false:=beq_eq_false_iff_ne.2 an;have G:decide (16<N)=false:=by
    rcases Q6.A with⟨c',-,-,rfl,-⟩|⟨r,rfl,-⟩
    ·rfl
    ·exfalso;obtain⟨A0,n0,c0,cN,-⟩:=ru.A;have:=f.cell 1;rw[cN.cell 1] at this;simp at this;omega
   clear f;go_wp2;go_meet;case rel=>exact⟨by rw[G],rfl⟩
 obtain⟨rfl,rfl⟩:=hcut;go_upto_if 19 with(fail);go_cut [] from 12 (λwr=>∃(st:Except Nat (List UInt8)),a6 (Rd wr w.heap.size B st)/\a6 (DR N X [] st)/\a6 (∀r,st= .ok r->N<=16)/\aS w.heap.size w wr);case first=>
  by_cases G:16<N
  ·obtain⟨v0,c,f⟩:=ru.A.eP;have nK:=E (show X= .error 4 by
    rcases Q6.A with⟨c',-,-,hN0,-⟩|⟨r,-,hX⟩
    ·omega
    ·rw[hX,ag G])
   have f0:=f.frozen 1;have Bu:=f.lt;have e0:=f.cell 1;have Mr:=E f;clear f;go_wp2;go_meet;case rel=>exact⟨.error 4,E ⟨an,_,Mr.A.put 1 _⟩,E nK.A,E (λr h=>by cases h),bg.setCell (by exact aO _) _⟩
  ·have bS:decide (16<N)=false:=aa G;have bj:=E (show DR N X [] i by
    rcases Q6.A with⟨c',rfl,-,-,hX⟩|⟨r,rfl,hX⟩
    ·exact hX
    ·rw[af G] at hX;exact⟨av,hX.symm⟩)
   go_wp2;go_meet;case rel=>exact⟨i,ru,bj,E (λr h=>by omega),bg⟩
 case rest=>
  obtain⟨aM,bi,a9,a5,kq⟩:=hcut;clear bg;go_wp2;go_loopw [7,8,9] (λv a b wr=>∃(ps:aZ) (st:Except Nat (List UInt8)),a6 (fl wr (w.heap.size+1) 78 rr v ps)/\a6 (Q3 ps)/\a6 (Rd wr w.heap.size B st)/\a6 (DR N X ps st)/\a6 (∀r,st= .ok r->N<=16)/\ps.length<=16/\aS w.heap.size w wr) (λv _ _ _=>N-sliceLen v);case atStart=>exact⟨[],aM,E (fl.bh _ _ _ _),E (λq o=>by cases o),bi,a9,a5,av,kq⟩
  case round=>
   obtain⟨ps,st,D,R,j,K,a4,G,hB⟩:=hrel;have bN:B<=w.heap.size:=U;have YN:w.heap.size<wr.heap.size:=j.A.lt;obtain⟨A1,n1,c1,rfl,ea,C,FJ,a3⟩:=D.A.hN R.A;have C:=E C;have z:=E ea;clear ea;have a2:c1<=9223372036854775807:=by unfold bK at a3;omega
   cases st with
   |error c=>
    obtain⟨cn,v0,f⟩:=j.A;have W:=E (show uk l= .error c by rw[HX.A,show X= .error c from K.A];rfl);have e0:=f.cell 1;have e1:∀p:ba wr,p.aL.cell? (ab w.heap.size 1 M)=ad (J I (c:Int)):=λp=>(p.eP f).cell 1;have d:((c:Int)==0)=false:=beq_eq_false_iff_ne.2 an;have d':((c:Int)!=0)=true:=bne_iff_ne.2 an;clear f D R j K C;go_wp2_with fail;refine pk ar ar ?_;repeat (
     refine WQ.step (λKK y=>?_);go_simp;refine y _ ?_;clear y KK)
    refine WQ.bh ?_;rintro S⟨⟨L,o⟩,t⟩;obtain rfl:L=S:=t.symm;clear t;go_wp2;refine bF (v:=bn #[O M 0 0,O M 0 0,J I (c:Int)]) arw rfl ?_;exact⟨by rw[W.A];exact⟨rfl,cn⟩,hB.trans (o.mono hB.size)⟩
   |ok r=>
    obtain⟨A2,n2,c2,f,ei,aW,bL⟩:=j.A;have e0:=f.cell;have f1:=f.frozen 1;by_cases aK:n1<N
    ·have bJ:N<=16:=a4.A _ rfl;have Q7:=E (K.A.step (ai z.A));have cM:=E (YK (.ok r));have bM:=E (YK (dZ (.ok r)).2);obtain⟨i,qn⟩:∃x,a6 ((dZ (.ok r)).2=x):=⟨_,E rfl⟩;obtain⟨s1,Bw⟩:∃x,a6 ((⟨(dZ (.ok r)).1.toArray⟩:ByteArray)=x):=⟨_,E rfl⟩;obtain⟨Q,qo⟩:∃x,a6 ((dZ i).2=x):=⟨_,E rfl⟩;obtain⟨F,vE⟩:∃x,a6 ((⟨(dZ i).1.toArray⟩:ByteArray)=x):=⟨_,E rfl⟩;have cM:=E (show s1.size<=65536 by rw[<-Bw.A];exact cM.A);have bM:=E (show F.size<=65536 by rw[<-vE.A,<-qn.A];exact bM.A);have Q7:=E (show DR N X (ps++[(s1,F)]) Q by have:=Q7.A;rw[qn.A,Bw.A,qo.A,vE.A] at this;exact this);clear f ei C;have zj:=z.A;have YO:ps.length<N:=an;clear zj;go_wp2_with fail;refine(YG w.heap.size B (.ok r) wr U j.A).ah ?_;rintro e DS⟨rfl,Q8,YP⟩;rw[Bw.A];rw[qn.A] at Q8;go_wp2_with fail;refine(YG w.heap.size B i DS U Q8).ah ?_;rintro e FK⟨rfl,Ms,YQ⟩;rw[vE.A];rw[qo.A] at Ms;have YR:=YP.trans YQ;have bq:(O A1 n1 c1).ownBlock≠ad w.heap.size:=λe=>by have:=D.A.nI _ e;omega
     have YS:fl FK (w.heap.size+1) 78 rr (O A1 n1 c1) ps:=D.A.kept YR (.inr bq);have ul:aS w.heap.size w FK:=ahQ hB YR (λk e=>by cases e;omega);have Ms:=E Ms;have bA:=E (aI.new FK 78 #[ap s1,ap F]);have Y:=E (YS.alloc (aD #[ap s1,ap F] 78));have iP:=ul.size;clear Q8 YP YQ YS D;obtain⟨vv,rv⟩:=aP (O A1 n1 c1);have iG:sliceLen vv=ps.length:=by rw[<-rv];exact z.A
     rw[rv] at Y bq⊢;clear rv;go_wp2_with ((refine afP au (.tmp 32) (.tmp 36) 49 au (w.heap.size+1) 78 (aY #[ap ⟨#[]⟩,ap ⟨#[]⟩]) 32 underlying49 Dn rfl rr _ ps au Y.A (s1,F) ⟨rfl,rfl⟩ FK.heap.size 1 78 au bA.A an an aw ?_;intro v' w' bC V iD));go_roundw;case rel=>
      refine⟨ps++[(s1,F)],Q,E bC,E ?_,E ?_,Q7,E (λ_ _=>bJ),aw,?_⟩
      ·intro q o;rcases kf.1 o with h|h
       ·exact R.A q h
       ·simp at h;subst h;exact⟨cM.A,bM.A⟩
      ·exact(Ms.A.alloc an _).grown V (λe=>bq e.symm) (λk e=>by have:=Y.A.nI k e;omega) aw
      ·exact(ul.alloc ul.size _).grown V aw (λk e=>by have:=Y.A.nI k e;omega)
     case measure=>rw[bC.sliceLen];have:=z.A;simp[sliceLen];omega
    ·have aR:ps.length=N:=by have:=K.A.1;have:=z.A;omega
     have cL:=E (show uk l=if bH ps=true then .ok (ps,r) else .error 1 by
      have h2:=K.A.2;rw[aR,Nat.sub_self] at h2;rw[HX.A,<-h2];rfl)
     have bR:decide (n1<N)=false:=aa aK;have dj:=E ei;have Mr:=E f;have bw:=E D.A;have bm:=E R.A;clear ei f D R j K;cases Mu:bH ps
     ·have W:=E (show uk l= .error 1 by rw[cL.A,Mu];rfl);go_wp2_with fail;refine(Ih A1 n1 c1 ps _ (ai z.A) C.A).ah ?_;rintro e w2⟨rfl,H⟩;rw[Mu];have m:=Mr.A.al H YN;have k1:=m.cell 1;have k2:=m.frozen 1;have k3:=m.lt;have xn:∀p:ba (w2.setCell (ab w.heap.size 1 M) (J I 1)),p.aL.cell? (ab w.heap.size 1 M)=ad (J I 1):=λp=>(p.eP (m.put 1 (J I 1))).cell 1;have Dd:aS w.heap.size w (w2.setCell (ab w.heap.size 1 M) (J I 1)):=(hB.trans (H.mono hB.size)).setCell (by exact aO _) _;clear m;go_wp2_with fail;refine pk ar ar ?_;repeat (
       refine WQ.step (λKK y=>?_);go_simp;refine y _ ?_;clear y KK)
      refine WQ.bh ?_;rintro S⟨⟨L,o⟩,t⟩;obtain rfl:L=S:=t.symm;clear t;go_wp2;refine bF (v:=bn #[O M 0 0,O M 0 0,J I 1]) arw rfl ?_;exact⟨by rw[W.A];exact⟨rfl,an⟩,Dd.trans (o.mono Dd.size)⟩
     ·have W:=E (show uk l= .ok (ps,r) by rw[cL.A,Mu];rfl);go_wp2_with fail;refine(Ih A1 n1 c1 ps _ (ai z.A) C.A).ah ?_;rintro e w2⟨rfl,H⟩;rw[Mu];have m:=Mr.A.al H YN;have k1:=m.cell 1;have nZ:∀p:ba w2,p.aL.cell? (ab w.heap.size 0 M)=ad (O A2 n2 c2):=λp=>(p.eP m).cell 0;clear m;go_wp2_with fail;refine pk ar ar ?_;repeat (
       refine WQ.step (λKK y=>?_);go_simp;refine y _ ?_;clear y KK)
      refine WQ.bh ?_;rintro S⟨⟨L,o⟩,t⟩;obtain rfl:L=S:=t.symm;clear t;go_wp2;refine bF (v:=bn #[O A1 n1 c1,O A2 n2 c2,J I 0]) arw rfl ?_;have FL:=H.trans (o.mono H.size);exact⟨by rw[W.A];exact⟨A1,n1,c1,A2,n2,c2,rfl,C.A.aL FL,FJ,a2,ai z.A,dj.A.al (FL.mono an),aW,bL,⟨_,bw.A.al FL⟩,bm.A⟩,hB.trans (FL.mono hB.size)⟩
def aF.ZW {a:aB} {e:Nat} {l:List UInt8} (h:aF a w) (ho:bQ w base e v l) (Z:a.heap.size<=base) (hg:w.grownBy w' v.ownBlock):aF a w':=aF.of (h.aC.grown hg h.size (λg e=>a8 Z (ho.nI g e)))
def F0 (k:o.guard=M) (s x:Operand) (ho:o.op= .call {callee:=.builtin .append,args:=#[s,x],argTypes:=#[34,34]}) (base:Nat) (v:aE) (l:List UInt8) (hs:a.eval s=v) (W:aB) (c:Nat) (m:c<256) (d:bQ W base 5 v l) (e:a.eval x=O (ad (ab W.heap.size 0 M)) 1 1) (j:l.length+1<=140737488355328) (n:base<=W.heap.size) (h:∀b w',bQ w' base 5 b (l++[fN c])->(∀a0,aF a0 W->a0.heap.size<=base->aF a0 w')->wpList aH ops Q rest (a.put o.dst b) w'):wpList aH ops Q (o::rest) a (W.alloc (aD #[J .u8 (c:Int)] 5)):=by
 have i:=Bs.AH W 5 (J .u8 (c:Int)) (fN c) (by
  congr 1;simp;omega)
 refine yD k s x 34 ho base 5 underlying34 pm v l hs (d.alloc _) _ _ 1 1 _ e i j aw λb w' h2 g h4=>?_;exact h b w' h2 (λa0 f Z=>(f.alloc _).ZW (d.alloc _) Z g)
theorem RL (h:P:=by
 go_roundw;case rel=>exact⟨k+2,_,an,.inl an,by go_num,aw,aw,fA _ HB.A (aO _),bC⟩
 case measure=>exact aA
 ):P:=h
def ajo (s:ByteArray) (w:aB) (hs:s.size<=1000000):aN aH 131 #[ap s] w λe w'=>(∃(p:ByteArray) (n:Nat) (k:Int),e=aQ (bn #[ap p,J I n,J I k])/\p.size<=s.size/\n<=s.size/\(k=0->1<=n))/\aF w w':=by
 have H:=E hs;go_enter func131,ntmps131;go_wp2;go_loopw [5,6] (λb i wr=>∃(k:Nat) (aT:List UInt8),1<=k/\(k<=s.size\/k=1)/\i=J I k/\aT.length<=k/\(k<=s.size->aT.length+1<=k)/\aF w wr/\bQ wr w.heap.size 5 b aT) (λ_ i _=>s.size-(intOf i).toNat);case atStart=>exact⟨1,[],an,.inr rfl,rfl,av,av,aF.refl _,bQ.bh _ _ _⟩
 case round=>
  obtain⟨k,aT,L,M,rfl,Y,F,hB,q⟩:=hrel;have S:=H.A;have a:=hB.size;by_cases aK:k<s.size
  ·have A:=zp aK;obtain⟨c,hc⟩:=aP (dp s k);have K:c<256:=aq9;rw[hc] at A;clear hc;have HB:=E hB;have f:=E q;obtain⟨ao,n,cap,rfl,o,N,U⟩:=q.bs;have W:=o.len;have r:=Ps wr cap o;clear hB q o;by_cases j:c=34
   ·subst j;go_wp2;go_ret3;exact⟨⟨_,k+1,0,rfl,by show aT.toArray.size<=_;simp;omega,an,an⟩,HB.A⟩
   have X:((c:Int)==34)=false:=aw;by_cases l:c=10
   ·subst l;clear r;go_wp2;go_ret3;exact⟨⟨⟨#[]⟩,0,12,rfl,arb,an,an⟩,HB.A⟩
   have z:((c:Int)==10)=false:=aw;by_cases v:c=92;case neg=>
    have y:((c:Int)!=92)=true:=aw;clear r j l v;go_wp2_with ((refine F0 au (.tmp 31) (.tmp 33) au w.heap.size _ aT au wr c K f.A au an a ?_;intro g w' bC fA));go_roundw;case rel=>exact⟨k+1,_,an,.inl an,by go_num,aw,aw,fA _ HB.A (aO _),bC⟩
    case measure=>exact aA
   subst v;clear r j l;by_cases G:k+1=s.size
   ·go_wp2;go_ret3;exact⟨⟨⟨#[]⟩,0,12,rfl,arb,an,an⟩,HB.A⟩
   have u:k+1<s.size:=an;have x:=zp u;obtain⟨d,m⟩:=aP (dp s (k+1));have D:d<256:=by rw[<-m];unfold dp;rw[dif_pos u];exact UInt8.toNat_lt _
   rw[m] at x;clear m;have T:I.wrap ((k:Int)+1)=((k+1:Nat):Int):=ay;have C:((((k+1:Nat):Int))==(s.size:Int))=false:=aw;have B:((k:Int)+1==(s.size:Int))=false:=aw;clear G;by_cases q1:d=92
   ·subst q1;go_wp2_with ((refine F0 au (.tmp 56) (.tmp 60) au w.heap.size _ aT au wr 92 aq f.A au an a ?_;intro g w' bC fA));exact RL
   have R:((d:Int)==92)=false:=aw;by_cases q2:d=34
   ·subst q2;go_wp2_with ((refine F0 au (.tmp 56) (.tmp 60) au w.heap.size _ aT au wr 34 aq f.A au an a ?_;intro g w' bC fA));exact RL
   have Q:((d:Int)==34)=false:=aw;by_cases t:d=110
   ·subst t;go_wp2_with ((refine F0 au (.tmp 70) (.tmp 71) au w.heap.size _ aT au wr 10 aq f.A au an a ?_;intro g w' bC fA));exact RL
   have O:((d:Int)==110)=false:=aw;clear q1 q2 t;go_wp2;go_ret3;exact⟨⟨⟨#[]⟩,k,1,rfl,arb,an,an⟩,HB.A⟩
  ·have V:k=s.size\/s.size<k:=by omega
   go_wp2;go_ret3;exact⟨⟨⟨#[]⟩,0,12,rfl,arb,an,an⟩,hB⟩
def U7 (p:o.guard=M) (s x:Operand) (ho:o.op= .call {callee:=.builtin .append,args:=#[s,x],argTypes:=#[34,34]}) (base:Nat) (v:aE) (l:List UInt8) (hs:a.eval s=v) (W:aB) (c d:Nat) (r:c<256) (q:d<256) (f:bQ W base 5 v l) (g:a.eval x=O (ad (ab W.heap.size 0 M)) 2 2) (m:l.length+2<=140737488355328) (t:base<=W.heap.size) (h:∀b w',bQ w' base 5 b (l++[fN c,fN d])->(∀a0,aF a0 W->a0.heap.size<=base->aF a0 w')->wpList aH ops Q rest (a.put o.dst b) w'):wpList aH ops Q (o::rest) a (W.alloc (aD #[J .u8 (c:Int),J .u8 (d:Int)] 5)):=by
 have k:Bs (W.alloc (aD #[J .u8 (c:Int),J .u8 (d:Int)] 5)) (W.heap.size+1) (ad (ab W.heap.size 0 M)) 2 [fN c,fN d]:=by
  obtain⟨ao,n,cap,e,Z,_⟩:=(bQ.fresh (base:=W.heap.size) W 5 [fN c,fN d] #[J .u8 (c:Int),J .u8 (d:Int)] (by
   simp only[ca,sd,List.map_nil];congr 2
   ·simp;omega
   ·congr 2;simp;omega) 2 rfl (aO _) (by show(2:Nat)<=bK;decide)).bs
  cases e;rw[eO] at Z;exact Z
 refine yD p s x 34 ho base 5 underlying34 pm v l hs (f.alloc _) _ _ 2 2 _ g k m aw λb w' h2 j h4=>?_;exact h b w' h2 (λa0 i Z=>(i.alloc _).ZW (f.alloc _) Z j)
theorem OY (h:P:=by
 go_roundw;case rel=>exact⟨k+1,_,an,by go_num,aw,fA _ HB.A (aO _),bC⟩
 case measure=>exact aA
 ):P:=h
def aew (s:ByteArray) (w:aB) (hs:s.size<=1000000):aN aH 183 #[ap s] w λe w'=>(∃p:ByteArray,e=aQ (ap p)/\p.size<=2*s.size+2)/\aF w w':=by
 have A:=E hs;have z:=E (bQ.fresh (base:=w.heap.size) w 5 [34] #[J .u8 34] au 1 rfl (aO _) aq);have x:=E ((aF.refl w).alloc (aD #[J .u8 34] 5));go_enter func183,ntmps183;go_wp2;go_loopw [3,4] (λb i wr=>∃(k:Nat) (aT:List UInt8),k<=s.size/\i=J I k/\aT.length<=2*k+1/\aF w wr/\bQ wr w.heap.size 5 b aT) (λ_ i _=>s.size-(intOf i).toNat);case atStart=>exact⟨0,[34],an,rfl,av,x.A,z.A⟩
 case round=>
  obtain⟨k,aT,C,rfl,H,hB,m⟩:=hrel;have D:=A.A;have a:=hB.size;have HB:=E hB;have d:=E m;clear hB m;by_cases aK:k<s.size
  ·have y:=zp aK;obtain⟨c,hc⟩:=aP (dp s k);have B:c<256:=aq9;rw[hc] at y;clear hc;by_cases o:c=92
   ·subst o;go_wp2_with ((refine U7 au (.tmp 24) (.tmp 28) au w.heap.size _ aT au wr 92 92 aq aq d.A au an a ?_;intro f w' bC fA));exact OY
   have r:((c:Int)==92)=false:=aw;by_cases g:c=34
   ·subst g;go_wp2_with ((refine U7 au (.tmp 24) (.tmp 28) au w.heap.size _ aT au wr 92 34 aq aq d.A au an a ?_;intro f w' bC fA));exact OY
   have G:((c:Int)==34)=false:=aw;by_cases j:c=10
   ·subst j;go_wp2_with ((refine U7 au (.tmp 32) (.tmp 33) au w.heap.size _ aT au wr 92 110 aq aq d.A au an a ?_;intro f w' bC fA));exact OY
   have t:((c:Int)==10)=false:=aw;clear o g j;go_wp2_with ((refine F0 au (.tmp 15) (.tmp 19) au w.heap.size _ aT au wr c B d.A au an a ?_;intro f w' bC fA));exact OY
  ·obtain rfl:k=s.size:=by omega
   go_wp2_with ((refine F0 au (.tmp 35) (.tmp 36) au w.heap.size _ aT au wr 34 aq d.A au an a ?_;intro f w' bC fA;have v:=E (fA _ HB.A (aO _));obtain⟨ao,n,cap,rfl,l,q,u⟩:=bC.bs;have F:=Ps w' cap l;clear l fA bC q u));go_ret;exact⟨⟨_,rfl,by show(aT++_).toArray.size<=_;simp;omega⟩,v.A⟩
def lz (y:Nt) (ok:Bool) (aL:Int):List Nt:=if ok then[] else if 7<=y.k then[] else[{y with k:=y.k+1,x:=ga (aL+kX y.k.toNat)}]
def uq (y:Nt) (ok:Bool) (lost:Int):Int:=if ok then lost else if 7<=y.k then min (lost+1) 9007199254740992 else lost
def jh.aiO (w:aB) (e base:Nat) (y:Nt) (Z:base<=w.heap.size):jh (w.alloc (aD #[O y.ao y.n y.c,aG y.f,J I y.t,J I y.k,J I y.x] e)) base e (O (ad (ab w.heap.size 0 M)) 1 1) [y]:=⟨rfl,.inr ⟨w.heap.size,1,#[O y.ao y.n y.c,aG y.f,J I y.t,J I y.k,J I y.x],rfl,Z,qR w _,aO _,aqF,rfl,rfl⟩⟩
def Zz (h:aS w.heap.size w w') (r:Option Nat):w.grownBy w' r:=⟨h.os,h.tape,h.output,h.size,λk a _=>h.block k a⟩
theorem ZA (h:P:=by
 go_enter func114,ntmps114;go_wp2;go_ret;refine⟨⟨_,rfl,by rw[HE.A.1];exact jh.bh _ _ _⟩,?_,by rw[HE.A.2];exact(H2.A.put 0 _).alloc _⟩;exact⟨rfl,rfl,rfl,aqY,λk hk eV=>by
  rw[Below.heap_alloc _ _ _ (by simpa[eB] using hk),yv _ _ _ _ (by intro e;exact eV wH)]⟩
 ):P:=h
def aiP (y:Nt) (nv b1 m:Nat) (ok:Bool) (a aL:Int) (w:aB) (r:aI w nv 4 #[aG ok]) (h2:aI w b1 3 #[J I a]) (p:aI w m 3 #[J I aL]) (L:0<=a/\a<=9007199254740992) (z:0<=aL/\aL<=9007199254740992) (hk:0<=y.k/\y.k<8) (R:m≠b1):aN aH 114 #[y.val,bl (ad (ab nv 0 M)),bl (ad (ab b1 0 M)),bl (ad (ab m 0 M))] w λe w'=>(∃v,e=aQ v/\jh w' w.heap.size 117 v (lz y ok aL))/\w.grownBy w' (ad b1)/\aI w' b1 3 #[J I (uq y ok a)]:=by
 have H2:=E h2;have l1:=r.lt;have l2:=h2.lt;have Da:=p.lt;obtain⟨i,d,g,l,f,c,b,j⟩:=y;simp only at hk;unfold Nt.val;simp only;have g1:=r.alloc (aD #[O i d g,aG f,J I c,J I b,J I j] 117);have g2:=h2.alloc (aD #[O i d g,aG f,J I c,J I b,J I j] 117);have g3:=p.alloc (aD #[O i d g,aG f,J I c,J I b,J I j] 117);have g4:=aI.new w 117 #[O i d g,aG f,J I c,J I b,J I j];have hB:aS w.heap.size w (w.alloc (aD #[O i d g,aG f,J I c,J I b,J I j] 117)):=(bk _ _).alloc (aO _) _;have x0:(w.alloc (aD #[O i d g,aG f,J I c,J I b,J I j] 117)).cell? (ab nv 0 M)=ad (aG ok):=g1.cell 0;have K:(w.alloc (aD #[O i d g,aG f,J I c,J I b,J I j] 117)).cell? (ab b1 0 M)=ad (J I a):=g2.cell 0;have x2:(w.alloc (aD #[O i d g,aG f,J I c,J I b,J I j] 117)).cell? (ab m 0 M)=ad (J I aL):=g3.cell 0;have x3:(w.alloc (aD #[O i d g,aG f,J I c,J I b,J I j] 117)).cell? (ab w.heap.size 3 M)=ad (J I b):=g4.cell 3;have F:(w.alloc (aD #[O i d g,aG f,J I c,J I b,J I j] 117)).frozen? (ab b1 0 M)=false:=g2.frozen 0;have D:(w.alloc (aD #[O i d g,aG f,J I c,J I b,J I j] 117)).frozen? (ab w.heap.size 3 M)=false:=g4.frozen 3;have C:(w.alloc (aD #[O i d g,aG f,J I c,J I b,J I j] 117)).frozen? (ab w.heap.size 4 M)=false:=g4.frozen 4;have s:=E g2;have x:=E g4;have u:w.cell? (ab m 0 M)=ad (J I aL):=p.cell 0;clear r h2 p g1 g2 g3 g4;cases ok;case true=>
  have HE:=E (show lz ⟨i,d,g,l,f,c,b,j⟩ true aL=[]/\uq ⟨i,d,g,l,f,c,b,j⟩ true a=a by simp[lz,uq]);go_enter func114,ntmps114;go_wp2;go_ret;exact⟨⟨_,rfl,by rw[HE.A.1];exact jh.bh _ _ _⟩,Zz hB _,by rw[HE.A.2];exact s.A⟩
 case false=>
 by_cases o:7<=b
 ·by_cases N:9007199254740992<a+1
  ·have HE:=E (show lz ⟨i,d,g,l,f,c,b,j⟩ false aL=[]/\uq ⟨i,d,g,l,f,c,b,j⟩ false a=9007199254740992 by simp[lz,uq,o];omega);exact ZA
  ·have HE:=E (show lz ⟨i,d,g,l,f,c,b,j⟩ false aL=[]/\uq ⟨i,d,g,l,f,c,b,j⟩ false a=a+1 by simp[lz,uq,o];omega);exact ZA
 ·have HE:=E (show lz ⟨i,d,g,l,f,c,b,j⟩ false aL=[⟨i,d,g,l,f,c,b+1,ga (aL+kX b.toNat)⟩]/\uq ⟨i,d,g,l,f,c,b,j⟩ false a=a by simp[lz,uq,o]);have Q:decide (7<=b)=false:=aa o;obtain⟨n,q⟩:=aP (kX b.toNat);have B:=aiF b.toNat;rw[q] at B;have t:=E q;have G:I.wrap (aL+(n:Int))=aL+(n:Int):=ay;clear q;go_enter func114,ntmps114;go_wp2_with fail;go_region_held3 (λw'=>w'.cell? (ab m 0 M)=ad (J I aL)/\w'.cell? (ab w.heap.size 3 M)=ad (J I b)) (first|go_keep|(refine⟨?_,?_⟩<;>first|assumption|(go_simp;done)|(exact(World.cell?_alloc_lt w _ (ab m 0 M) Da).trans u))) (first|(go_at_call 115;refine(aiH b _ an).ah ?_;rintro e w'⟨rfl,rfl⟩;rw[t.A])|(go_at_call 113;refine(MI (aL+(n:Int)) _).ah ?_;rintro e w'⟨rfl,rfl⟩));have A:I.wrap (b+1)=b+1:=ay;go_wp2;go_ret;refine⟨⟨_,rfl,?_⟩,?_,?_⟩
  ·rw[HE.A.1,t.A];have H:=jh.aiO (w.alloc (aD #[O i d g,aG f,J I c,J I (b+1),J I (ga (aL+(n:Int)))] 117)) 117 w.heap.size ⟨i,d,g,l,f,c,b+1,ga (aL+(n:Int))⟩ av;simp only[eO] at H;exact H
  ·exact Zz ((((bk _ _).alloc (aO _) _).alloc av _).drew) _
  ·rw[HE.A.2];exact(H2.A.alloc _).alloc _
def ah6:Obj->Prop
 |aD _ t _=>t≠5
 |_=>True
structure Kp (w w':aB):Prop where
 size:w.heap.size<=w'.heap.size
 block:∀(k:Nat) (obj:Obj),w.heap[k]?=ad obj->ah6 obj->w'.heap[k]?=ad obj
def Kp.refl (w:aB):Kp w w:=⟨aO _,λ_ _ h _=>h⟩
def Kp.trans {a b c:aB} (h:Kp a b) (k:Kp b c):Kp a c:=⟨a8 h.size k.size,λi o d h2=>k.block i o (h.block i o d h2) h2⟩
def Kp.alloc {a b:aB} (h:Kp a b) (o:Obj):Kp a (b.alloc o):=h.trans ⟨av,λk obj c _=>(@heap_alloc_old b o _ (lJ.1 c).1).trans c⟩
def Kp.step {b c:aB} {v:aE} {base:Nat} {l:List UInt8} (h:b.grownBy c v.ownBlock) (ho:bQ b base 5 v l):Kp b c:=⟨h.size,λk obj a hn=>by
 refine(h.block k (lJ.1 a).1 (λe=>?_)).trans a;rcases ho.2 with⟨h1,h2⟩|⟨g,cap,cur,hv,hg,hh,-⟩
 ·rw[h1] at e;simp[qS] at e
 ·rw[hv] at e;simp[qS] at e;subst e;rw[a] at hh;cases hh;exact hn rfl⟩
def Kp.eP {a b:aB} (h:Kp a b) (Z:aI a g t cs) (c:t≠5):aI b g t cs:=h.block g _ Z c
def Kp.al {a b:aB} (h:aS a.heap.size a b):Kp a b:=⟨h.size,λk obj c _=>(h.block k (lJ.1 c).1).trans c⟩
def Kp.drew (a:aB):Kp a a.drew:=⟨aO _,λ_ _ h _=>h⟩
def ah7 (o:aE) (l:List UInt8) (n:Int) (w:aB) (base:Nat) (D:base<=w.heap.size) (B:l.length<=70368744177664) (hn:0<=n/\n<=1152921504606846976) (c:bQ w base 5 o l):aN aH 155 #[o,J I n] w λe w'=>(∃v,e=aQ v/\bQ w' base 5 v (l++bu n.toNat))/\aS base w w'/\Kp w w':=by
 obtain⟨n,rfl⟩:=Int.eq_ofNat_of_zero_le hn.1;have t:n<=1152921504606846976:=an;clear hn;have y:=E c;clear c;have s:=E (ph 8 n (pj n t));have d1:decide (1152921504606846976<n)=false:=aa an;go_enter func155,ntmps155;go_wp2;go_loopw [0,1] (λvo x wr=>∃(m:Nat) (l':List UInt8),m<=n/\x=J I m/\bQ wr base 5 vo l'/\a6 (l'++bu m=l++bu n)/\aS base w wr/\a6 (Kp w wr)) (λ_ x _=>(intOf x).toNat);case atStart=>exact⟨n,l,aO _,rfl,y.A,E rfl,bk _ _,E (Kp.refl _)⟩
 case round=>
  obtain⟨m,l',G,rfl,c,hE,hB,q⟩:=hrel;have d:=E c;clear c;have F:=hB.size;have p:=E (show l'.length<=l.length+9 by have:=congrArg oz hE.A;have h2:=s.A;have C:=E1 m;simp at this;omega);by_cases z:128<=m
  ·have k:=E (Bs.AH wr 5 (J .u8 ((m:Int) % 128+128)) (fN (m % 128+128)) (yE an _ an));have b:=E (d.A.alloc (aD #[J .u8 ((m:Int) % 128+128)] 5));go_wp2_with ((refine yD au (.tmp 14) (.tmp 19) 34 au base 5 underlying34 pm _ l' au b.A (wr.heap.size+1) (ad (ab wr.heap.size 0 M)) 1 1 [fN (m % 128+128)] au k.A (ai p.A) aw ?_;intro r w' bC a i));have j:aS base w w':=(hB.alloc an _).grown a aw (λg e=>d.A.nI g e);have f:=E ((q.A.alloc _).trans (Kp.step a b.A));have u:=E (show(l'++[fN (m % 128+128)])++bu (m/128)=l++bu n by rw[<-hE.A,CZ (n:=m) an];simp);clear a i;go_roundw;case rel=>exact⟨m/128,l'++[fN (m % 128+128)],an,by rw[Int.natCast_ediv];rfl,bC,u,j,f⟩
   case measure=>exact aA
  ·have k:=E (Bs.AH wr 5 (J .u8 (m:Int)) (fN m) (yE an _ an));have b:=E (d.A.alloc (aD #[J .u8 (m:Int)] 5));go_wp2_with ((refine yD au (.tmp 23) (.tmp 26) 34 au base 5 underlying34 pm _ l' au b.A (wr.heap.size+1) (ad (ab wr.heap.size 0 M)) 1 1 [fN m] au k.A (ai p.A) aw ?_;intro r w' bC a i));have j:aS base w w':=(hB.alloc an _).grown a aw (λg e=>d.A.nI g e);have f:=E ((q.A.alloc _).trans (Kp.step a b.A));clear a i;go_ret;refine⟨⟨_,rfl,?_⟩,j,f.A⟩;exact VE
def YU (c:aE) (l:List UInt8) (s:ByteArray) (w:aB) (base:Nat) (B:base<=w.heap.size) (u:l.length<=70368744177664) (hs:s.size<=65536) (m:bQ w base 5 c l):aN aH 157 #[c,ap s] w λe w'=>(∃v,e=aQ v/\bQ w' base 5 v (tR l s))/\aS base w w'/\Kp w w':=by
 have F:=E m;clear m;have D:=E (show tR l s=l++bu s.size++nL s from ag hs);have d:decide ((65536:Int)<(s.size:Int))=false:=aa an;have k:=E (ph 8 s.size (pj _ an));obtain⟨t,hi,y,A,z⟩:=info_parts pm;go_enter func157,ntmps157;go_wp2_with fail;refine(ah7 c l (s.size:Int) w base B u ⟨an,an⟩ F.A).ah ?_;rintro e b⟨⟨i,rfl,o⟩,n,j⟩;have f:a6 (b.ownsRow base 5 1 i (l++bu s.size).length ((l++bu s.size).map ca)):=E o;have q:=E j;have H:=n.size;clear o j;go_wp2_with ((refine Lib.wpList_append_own_string b au (.tmp 12) (.tmp 13) 34 9 au base 5 t underlying34 underlying9 hi y A z _ _ _ au f.A s au (by rw[b2];have:=k.A;unfold bK;omega) (by rw[b2];have:=k.A;omega) an ?_;intro v2 G p a r));have C:=n.grown a an (λg e=>(CX f.A g e).1);have x:=E (q.A.trans (Kp.step a (show bQ b base 5 i (l++bu s.size) from f.A)));clear a r;go_ret;refine⟨⟨_,rfl,?_⟩,C,x.A⟩;rw[D.A];unfold bQ;rw[b2,yO,lK];exact p
section
variable {P:cp} {QQ:Exit->bb->aB->Prop}
def YV (ops:Array bv) (is:List Nat) (i0 i1:Nat) (ks:List Nat):Bool:=Region.noSelect ops&&I9 .any ops is (tN ops.size false)&&(iW .any ops (DT is (tN ops.size false))==[i0])&&(iW .any ops ((DT is (tN ops.size false)).setIfInBounds i0 true)==[i1])&&I9 .any ops ks (((DT is (tN ops.size false)).setIfInBounds i0 true).setIfInBounds i1 true)&&(iW .any ops (DT ks (((DT is (tN ops.size false)).setIfInBounds i0 true).setIfInBounds i1 true))==[])&&(ks.length+1+1+is.length==ops.size)
def YW {G:Nat} {l:List bv} (C:aB->Prop) (J:C w.drew) (is:List Nat) (r q:Nat) (ks:List Nat) (p n:bv) (R:l.toArray[r]?=ad p) (V:l.toArray[q]?=ad n) (I:P.follows .mixedOrders=true) (hB:YV l.toArray is r q ks=true) (u:∀c a d v w,QQ (.panic c) (Act.put a d v) w->QQ (.panic c) a w) (h:TK P l.toArray C (λo=>∀K:bb->aB->Prop,(∀g f,C f->(∀m:bb->aB->Prop,(∀k b,C b->TK P l.toArray (λw'=>w'=b) (λO=>QQ .normal O b) ks k->m k b)->if dz n (dR l.toArray g.tmps)=true then Oper.wp P n g f m QQ else m (g.put n.dst cu) f)->K g f)->if dz p (dR l.toArray o.tmps)=true then Oper.wp P p o w.drew K QQ else K (o.put p.dst cu) w.drew) is a):(Code.region G l.toArray true).wp P QQ a w:=by
 simp only[YV,b9,beq_iff_eq] at hB;obtain⟨⟨⟨⟨⟨⟨hs,z⟩,h2⟩,D⟩,y⟩,h4⟩,M⟩:=hB;refine wp_region_held (S:=C) I ?_;generalize tN l.toArray.size false=L at z h2 D y h4⊢;rw[<-M];refine Mx (Q:=_) hs u J is _ a z h.A ?_;intro o F;refine wpAnyH_all h2 av λi hi=>?_;obtain rfl:i=r:=am hi;refine wpOp_step R (λT E=>?_);refine F T λg f N t=>E g f ⟨N,?_⟩;refine wpAnyH_all D av λj hj=>?_;obtain rfl:j=q:=am hj;refine wpOp_step V (λm s=>?_);refine t m λk b B H=>s k b ⟨B,?_⟩;refine YT (S':=λw'=>w'=b) (λw' e=>by rw[e];exact B) _ _ _ _ ?_;have:=Mx (P:=P) (md:=.any) (QQ:=QQ) (fuel:=0) hs u (C:=λw'=>w'=b) (w:=b) rfl ks _ k y H.A (λW U=>⟨h4,U⟩);simpa using this
end
def ah9 (ao:Option aX) (n:Nat) (l:List UInt8) (k:Nat) (w:aB) (hn:n<=70368744177664) (d:k<128) (f:ao=M/\n=0\/0<n) (Z:Bs w w.heap.size ao n l):aN aH 155 #[O ao n n,J I (k:Int)] w λe w'=>(∃v,e=aQ v/\bQ w' w.heap.size 5 v (l++bu k))/\aS w.heap.size w w':=by
 have i:=Z.len;rcases f with⟨rfl,rfl⟩|kw
 ·obtain rfl:=sb i;simpa using O8 (O M 0 0) [] (k:Int) w w.heap.size (aO _) av ⟨an,an⟩ (bQ.bh _ _ _)
 ·obtain⟨b,off,rfl,u,-⟩:=Z.at_ (k:=0) an;have r:=E Z;clear Z;have d1:decide (128<=k)=false:=aa an;have t:decide (1152921504606846976<k)=false:=aa an;have q:=E (Bs.AH w 5 (J .u8 (k:Int)) (fN k) (yE an _ an));have j:=E (r.A.Q4 (aO _) (aD #[J .u8 (k:Int)] 5));go_enter func155,ntmps155;go_wp2;go_loopw [0,1] (λvo x wr=>vo=O (ad (ab b off M)) n n/\x=J I (k:Int)/\wr=w) (λ_ _ _=>0);case atStart=>exact⟨rfl,rfl,rfl⟩
  case round=>
   obtain⟨rfl,rfl,rfl⟩:=hrel;generalize c:(O (ad (ab b off M)) n n)=vv;have a:=E c;clear c;go_wp2_with ((refine Pc au (.tmp 23) (.tmp 26) 34 au 5 underlying34 pm b off n l a.A.symm _ j.A _ _ 1 1 [fN k] au q.A an an ?_;intro s w' p o));have m:aS wr.heap.size wr w':=((bk wr.heap.size wr).alloc (aO _) _).grown o av (λg e=>by cases e);go_ret;exact⟨⟨_,rfl,by rw[yC (n:=k) d];exact bQ.less p av⟩,m⟩
structure MA (w:aB) where
 aL:aB
 MB:Kp w aL
instance (w:aB):Inhabited (MA w):=⟨⟨w,Kp.refl _⟩⟩
def nr (L:aZ):List UInt8:=L.flatMap λq=>bu q.1.size++nL q.1++(bu q.2.size++nL q.2)
def kx (L:aZ):List UInt8:=bu L.length++nr L
noncomputable def oR (L:aZ):aZ:=if bH L=true then L else[]
def YX (a:k<L.length):L.take (k+1)=L.take k++[(nm L k,vl L k)]:=by
 rw[List.take_add_one,cR a,DQ a];rfl
def aib (L:aZ) (a b:ByteArray) (c:a.size<=65536) (Z:b.size<=65536) (l:List UInt8):tR (tR (l++nr L) a) b=l++nr (L++[(a,b)]):=by
 unfold tR nr;rw[ag Z,ag c,List.flatMap_append];simp
def Rc (L:aZ) (h:∀i,i<L.length->(nm L i).size<=64/\(vl L i).size<=64):∀k,k<=L.length->(nr (L.take k)).length<=200*k
 |0,_=>by simp[nr]
 |k+1,hk=>by
  have a:=Rc L h k an
  rw[YX an]
  have e:nr (L.take k++[(nm L k,vl L k)])=nr (L.take k)++(bu (nm L k).size++nL (nm L k)++(bu (vl L k).size++nL (vl L k))):=by unfold nr;rw[List.flatMap_append];simp
  rw[e]
  obtain⟨b,h2⟩:=h k an
  have d:=ph 8 (nm L k).size (pj _ an)
  have c:=ph 8 (vl L k).size (pj _ an)
  simp only[b2,yO]
  omega
def Re (ao:Option aX) (n cap:Nat) (l:List UInt8) (A2:Option aX) (m c2:Nat) (L:aZ) (w:aB) (hn:n<=1099511627776) (fP:n<=cap) (hA:ao=M/\n=0/\cap=0\/0<n) (hm:m<=9223372036854775807) (Z:Bs w w.heap.size ao n l) (Y:fm w w.heap.size A2 m L):aN aH 116 #[O ao n cap,O A2 m c2] w λe w'=>(∃v,e=aQ v/\bQ w' w.heap.size 5 v (l++kx (oR L)))/\aS w.heap.size w w':=by
 have R:=E Z;clear Z;have z:=E Y;clear Y;have nJ:=R.A.len;have HM:=E z.A.len;have YY:∀W,aN aH 156 #[O ao n cap] W λe w'=>e=aQ (O ao n n)/\w'=W:=by
  intro W;rcases hA with⟨rfl,rfl,rfl⟩|h0
  ·go_enter func156,ntmps156;go_wp2;go_ret;exact⟨rfl,rfl⟩
  ·obtain⟨b,off,rfl,-,-⟩:=R.A.at_ h0;go_enter func156,ntmps156;go_wp2;go_ret;exact⟨rfl,rfl⟩
 have eM:=E YY;clear YY;have D:=hA;go_enter func116,ntmps116;go_wp2_with fail;refine(Ih A2 m c2 L _ hm z.A).ah ?_;rintro e w1⟨rfl,r⟩;go_upto_if 9 with(fail);go_cut [1] from 7 (λs wr=>(∃u a c3,s=O u a c3/\a6 (fm wr wr.heap.size u a (oR L)))/\wr=w1);case first=>
  cases hs:bH L
  ·have Q:=E (show oR L=[] by unfold oR;rw[hs];rfl);go_wp2;go_meet;case rel=>exact⟨⟨M,0,0,rfl,E (by rw[Q.A];exact fm.bh _ _ _)⟩,rfl⟩
  ·have Q:=E (show oR L=L by unfold oR;rw[hs];rfl);go_wp2;go_meet;case rel=>exact⟨⟨A2,m,c2,rfl,E (by rw[Q.A];exact z.A.aL r)⟩,rfl⟩
 case rest=>
  obtain⟨⟨u,a,c3,rfl,d⟩,rfl⟩:=hcut;have j:=E (show∀i,i<(oR L).length->(nm (oR L) i).size<=64/\(vl (oR L) i).size<=64 fromλi hi=>by
   unfold oR at hi⊢;cases hs:bH L
   ·rw[hs] at hi;simp at hi
   ·rw[hs] at hi;simp only[if_true] at hi⊢;obtain⟨o,h2,-⟩:=(yR.1 hs).2 i hi;exact⟨o.2.1,h2⟩)
  have cg:a<=16:=by
   rw[<-d.A.len];unfold oR;cases hs:bH L
   ·simp
   ·simp only[if_true];exact(yR.1 hs).1
  obtain⟨aU,t⟩:∃aU,a6 (oR L=aU):=⟨_,E rfl⟩;have d:=E (show fm wc wc.heap.size u a aU by rw[<-t.A];exact d.A);have j:=E (show∀i,i<a->(nm aU i).size<=64/\(vl aU i).size<=64 by rw[<-t.A];intro i hi;exact j.A i (by have:=d.A.len;rw[<-t.A] at this;omega));have g:=E d.A.len;go_wp2_with fail;refine(eM.A _).ah ?_;rintro e c⟨rfl,rfl⟩;go_wp2_with fail;refine(ah9 ao n l a _ an an (by rcases D with⟨o,h2,-⟩|h;exact .inl ⟨o,h2⟩;exact .inr h) (R.A.aL r)).ah ?_;rintro e w3⟨⟨v0,rfl,YZ⟩,bd⟩;have U:=r.size;have C:=E YZ;clear YZ;have kq:aS c.heap.size c w3:=bd;have PF:=E (ph 8 a (pj _ an));have b5:=E (Rc aU (λi hi=>j.A i (by rw[<-g.A];exact hi)));go_wp2;go_loopw [0,17] (λvo x wr=>∃k:Nat,k<=a/\x=J I (k:Int)/\a6 (bQ wr c.heap.size 5 vo (l++bu a++nr (aU.take k)))/\aS c.heap.size c wr) (λ_ x _=>a-(intOf x).toNat);case atStart=>exact⟨0,an,rfl,E (by have:=C.A;simpa[nr] using this),kq⟩
  case round=>
   obtain⟨k,hk,rfl,X,hB⟩:=hrel;have K:=hB.size;by_cases aK:k<a
   ·obtain⟨b,off,rfl,cw,hc⟩:=d.A.q an;obtain⟨s0,pu⟩:∃s,a6 (nm aU k=s):=⟨_,E rfl⟩;obtain⟨s1,qc⟩:∃s,a6 (vl aU k=s):=⟨_,E rfl⟩;have ft:wr.cell? ⟨b,off+k*2,M⟩=ad (ap s0):=aqu;have dS:wr.cell? ⟨b,off+k*2+1,M⟩=ad (ap s1):=aqt;clear hc;have ef:s0.size<=64:=by rw[<-pu.A];exact(j.A k aK).1
    have cG:s1.size<=64:=by rw[<-qc.A];exact(j.A k aK).2
    have cj:=E (show aU.take (k+1)=aU.take k++[(s0,s1)] by rw[YX (by rw[g.A];exact aK),pu.A,qc.A]);have gn:=E (aI.new wr 78 #[ap s0,ap s1]);have r0:∀p:MA (wr.alloc (aD #[ap s0,ap s1] 78)),p.aL.cell? (ab wr.heap.size 0 M)=ad (ap s0):=λp=>(p.MB.eP gn.A aq).cell 0;have r1:∀p:MA (wr.alloc (aD #[ap s0,ap s1] 78)),p.aL.cell? (ab wr.heap.size 1 M)=ad (ap s1):=λp=>(p.MB.eP gn.A aq).cell 1;have B:=E (X.A.alloc (aD #[ap s0,ap s1] 78)).drew;have S:=E (show(l++bu a++nr (aU.take k)).length<=1099511627776+9+200*16 by
     have o:=b5.A k (by rw[g.A];exact hk);have h2:=PF.A;simp only[b2];omega)
    have YO:=E (show(tR (l++bu a++nr (aU.take k)) s0).length<=70368744177664 by
     have o:=S.A;have h2:=ph 8 s0.size (pj _ an);unfold tR;rw[ag an];rw[b2,b2,yO];omega)
    have DV:=E (aib (aU.take k) s0 s1 an an (l++bu a));have Pn:=hB.alloc K (aD #[ap s0,ap s1] 78);go_wp2_with fail;refine YW (λw'=>∃p:MA (wr.alloc (aD #[ap s0,ap s1] 78)),w'=p.aL) ⟨⟨_,Kp.drew _⟩,rfl⟩ [0,1,2,4,5] 3 6 [7] _ _ au au ar ar (λ_ _ oI _ _ h=>by cases oI<;>exact h) ?_;repeat (
     refine TK.step au (λKK q=>?_);go_simp;refine q _ ?_;clear q KK)
    refine TK.bh ?_;intro N f;go_simp;go_at_call 157;refine(YU _ _ s0 _ c.heap.size aw (ai S.A) an B.A).ah ?_;rintro e w5⟨⟨v5,rfl,V⟩,F,y⟩;refine f _ _ ⟨⟨w5,(Kp.drew _).trans y⟩,rfl⟩ ?_;clear f N;have H:=E V;clear V;have mA:=F.size;intro N f;go_simp;go_at_call 157;refine(YU _ _ s1 _ c.heap.size (by simp at mA;omega) YO.A an H.A).ah ?_;rintro e T⟨⟨yZ,rfl,Ja⟩,e4,IH⟩;refine f _ _ ⟨⟨T,((Kp.drew _).trans y).trans IH⟩,rfl⟩ ?_;clear f N;have G:=E Ja;clear Ja;repeat (
     refine TK.step au (λKK q=>?_);go_simp;refine q _ ?_;clear q KK)
    refine TK.bh ?_;have zl:aS c.heap.size c T:=(Pn.drew.trans F).trans e4;clear F e4 y IH;go_wp2;go_roundw;case rel=>exact⟨k+1,an,by go_num,E (by rw[cj.A,<-DV.A];exact G.A),zl⟩
    case measure=>exact aA
   ·obtain rfl:k=a:=by omega
    have HF:=E (show l++bu k++nr (aU.take k)=l++kx aU by rw[List.take_of_length_le (by rw[g.A];omega)];unfold kx;rw[g.A];simp);go_wp2;go_ret;exact⟨⟨_,rfl,by rw[t.A,<-HF.A];exact bQ.less X.A U⟩,r.trans (hB.mono U)⟩
variable {cap:Nat} {K:bb->aB->Prop} {C6:Prop}
def ia.drop1 {ns:List Nt} (h:ia w B ao n ns) (hn:1<=n) (a:n<=cap):ia w B (cutAt ao cap 1 5) (n-1) (ns.drop 1):=by
 obtain⟨x,l,rfl⟩:∃x l,ns=x::l:=by
  cases ns with
  |nil=>have:=h.len;simp at this;omega
  |cons x l=>exact⟨x,l,rfl⟩
 refine⟨by have:=h.len;simp at this⊢;omega,?_,λi hi=>?_⟩
 ·refine(Sl.cut (size:=5) (k:=1) h.sl hn a).congr λi hi=>?_;show(jx (x::l)).getD (1*5+i) _=(jx l).getD i _;have e:jx (x::l)=x.cells++jx l:=rfl;rw[e,dd,dd,List.getElem?_append_right (by simp[Nt.cells])];simp[Nt.cells]
 ·have:=h.rE (i+1) an;exact this
def BF (ns:List Nt) (ok:Bool) (t:Int):List Nt:=if kC ns t then lz (nt ns 0) ok (ga t)++ns.drop 1 else ns
def BG (ns:List Nt) (ok:Bool) (t l:Int):Int:=if kC ns t then uq (nt ns 0) ok l else l
def aiS (t:Int):ga (ga t)=ga t:=by unfold ga;omega
def ZB (ns:List Nt) (t:Int):kC ns (ga t)=kC ns t:=by unfold kC;rw[aiS]
def aiT (ns:List Nt) (t:Int):qt ns (ga t)=qt ns t:=by unfold qt;rw[ZB]
structure Gw (w:aB) (r:Option Nat) where
 aL:aB
 gr:w.grownBy aL r
instance (w:aB) (r:Option Nat):Inhabited (Gw w r):=⟨⟨w,EZ _ _⟩⟩
def Gw.cells {r:Option Nat} (h:aI w g t cs) (a:ad g≠r) (i:Nat):∀p:Gw w r,p.aL.cell? (ab g i M)=cs[i]?:=λp=>(h.grown p.gr a).cell i
section
variable {w:aB}
def aiU (q:o.guard=M) (s x:Operand) (ho:o.op= .call {callee:=.builtin .append,args:=#[s,x],argTypes:=#[29,29]}) (base:Nat) (v:aE) (l:List Nt) (hs:a.eval s=v) (A:jh w base 117 v l) (B:Nat) (ao:Option aX) (m c:Nat) (l2:List Nt) (f:a.eval x=O ao m c) (d:l2.length=m) (k:Sl w B ao (m*5) (λi=>(jx l2).getD i (aG false))) (C:l.length+m<=1000000) (z:base<=w.heap.size) (h:∀b w',jh w' base 117 b (l++l2)->w.grownBy w' v.ownBlock->(b.ownBlock=v.ownBlock\/b.ownBlock=ad w.heap.size)->K (a.put o.dst b) w'):if dz o (dR ops a.tmps)=true then Oper.wp aH o a w K Q else C6:=by
 obtain⟨e,hi,r,y,t⟩:=info_parts aiM;refine aeR w q s x _ ho base _ e _ 5 56 underlying29 hi r y t rfl aq v l.length (jx l) hs A B ao m c _ (jx l2) f k (by rw[Zo,d]) (λj u g=>by
  show u=(jx l2).getD j _;rw[dd,g];rfl) (aiL l2) aqF an z ?_
 intro b w' p h2 n;refine h b w' ?_ h2 n;unfold jh;rw[b2,d,aiE];exact p
end
def ML {l:List Nt} (h:i<l.length):nt l i∈l:=by
 unfold nt;rw[dd,cR h];exact dl h
def MM {l:List Nt} {x:Nt} (h:x∈l):∃i,i<l.length/\nt l i=x:=by
 obtain⟨i,hi,rfl⟩:=qV.1 h;exact⟨i,hi,by unfold nt;rw[dd,cR hi];rfl⟩
def aiV {ns:List Nt} {ok:Bool} {T:Int} (h0:0<ns.length) (h:∀i,i<ns.length->Rn w B (nt ns i)) (i:Nat) (hi:i<(lz (nt ns 0) ok T++ns.drop 1).length):Rn w B (nt (lz (nt ns 0) ok T++ns.drop 1) i):=by
 have a:=ML hi;rcases kf.1 a with a|a
 ·have b:=h 0 h0;generalize nt (lz (nt ns 0) ok T++ns.drop 1) i=x at a;unfold lz at a;split at a
  ·simp at a
  ·split at a
   ·simp at a
   ·simp at a;subst a;exact⟨b.hN,b.cap⟩
 ·obtain⟨j,hj,e⟩:=MM (arC a);rw[<-e];exact h j hj
def aiW:(aH.info? 117).map (·.size)=ad 5:=ar
def aiX (v:aE) (d l:Int) (ns:List Nt) (t:Int) (ok:Bool) (w:aB) (Z:QV w w.heap.size v ns d l):aN aH 79 #[v,J I t,aG ok] w λe w'=>(∃v',e=aQ v'/\QV w' w'.heap.size v' (BF (kB ns d l) ok t) (ly ns d l d) (BG (kB ns d l) ok t (ly ns d l l)))/\aS w.heap.size w w':=by
 have HB:=E Z;obtain⟨A0,n0,c0,rfl,h1,h2,h3⟩:=Z.A;clear h1 Z;have Y:=Zs ns d l;obtain⟨f,H1⟩:∃x,a6 (kB ns d l=x):=⟨_,E rfl⟩;obtain⟨d1,H2⟩:∃x,a6 (ly ns d l d=x):=⟨_,E rfl⟩;obtain⟨l1,H3⟩:∃x,a6 (ly ns d l l=x):=⟨_,E rfl⟩;rw[H1.A,H2.A,H3.A] at Y;have a9:=Y.1;have jc:=sX.1 Y.2.2.1;have dv:=E Y.2.2.2;have MN:=E (aiJ Y);clear Y;go_enter func79,ntmps79;go_wp2_with fail;refine(Zt w.heap.size _ d l ns _ aw (HB.A.al ?cN)).ah ?_;case cN=>exact((((bk _ _).alloc (aO _) _).alloc av _).alloc aw _).alloc aw _
 rintro e u⟨⟨v1,rfl,R⟩,V⟩;rw[H1.A,H2.A,H3.A] at R;have bg:aS w.heap.size w u:=(((((bk w.heap.size w).alloc (aO _) _).alloc av _).alloc aw _).alloc aw _).trans (V.mono aw);have b0:=((((aI.new w 31 #[O A0 n0 c0,J I d,J I l]).alloc (aD #[J I t] 3)).alloc (aD #[aG ok] 4)).alloc (aD #[O M 0 0,J I 0,J I 0] 31)).al V aw;have cH:=(((aI.new (w.alloc (aD #[O A0 n0 c0,J I d,J I l] 31)) 3 #[J I t]).alloc (aD #[aG ok] 4)).alloc (aD #[O M 0 0,J I 0,J I 0] 31)).al V av;have gz:=((aI.new ((w.alloc (aD #[O A0 n0 c0,J I d,J I l] 31)).alloc (aD #[J I t] 3)) 4 #[aG ok]).alloc (aD #[O M 0 0,J I 0,J I 0] 31)).al V av;have ur:=(aI.new (((w.alloc (aD #[O A0 n0 c0,J I d,J I l] 31)).alloc (aD #[J I t] 3)).alloc (aD #[aG ok] 4)) 31 #[O M 0 0,J I 0,J I 0]).al V av;simp only[eO] at cH gz ur;have vt:w.heap.size+1+1+1<u.heap.size:=ur.lt;obtain⟨A1,n1,c1,rfl,R,FJ,cn⟩:=R.A;have zj:f.length=n1:=R.len;have x0:u.frozen? (ab w.heap.size 0 M)=false:=b0.frozen 0;have x1:u.frozen? (ab w.heap.size 1 M)=false:=b0.frozen 1;have x2:u.frozen? (ab w.heap.size 2 M)=false:=b0.frozen 2;have ef:u.cell? (ab w.heap.size 0 M)=ad (O A0 n0 c0):=b0.cell 0;have cG:u.cell? (ab w.heap.size 1 M)=ad (J I d):=b0.cell 1;have de:u.cell? (ab w.heap.size 2 M)=ad (J I l):=b0.cell 2;have sY:u.cell? ⟨w.heap.size+1,0,M⟩=ad (J I t):=cH.cell 0;have xw:u.frozen? ⟨w.heap.size+1,0,M⟩=false:=cH.frozen 0;have S:=b0.Zu (O A1 n1 c1) (J I d1) (J I l1);have g1:=cH.MJ (k:=w.heap.size) an (O A1 n1 c1) (J I d1) (J I l1);have g2:=gz.MJ (k:=w.heap.size) an (O A1 n1 c1) (J I d1) (J I l1);have g3:=ur.MJ (k:=w.heap.size) an (O A1 n1 c1) (J I d1) (J I l1);have bN:=MK bg (aO _) (O A1 n1 c1) (J I d1) (J I l1);have HQ:=E (((R.setCell (p:=(ab w.heap.size 0 M)) (aO _) (O A1 n1 c1)).setCell (p:=(ab w.heap.size 1 M)) (aO _) (J I d1)).setCell (p:=(ab w.heap.size 2 M)) (aO _) (J I l1));clear V b0 cH gz ur R;go_wp2_with fail;refine(MI t _).ah ?_;rintro e w2⟨rfl,rfl⟩;obtain⟨T,HT⟩:∃T,a6 (ga t=T):=⟨_,E rfl⟩;rw[HT.A];obtain⟨W,hW⟩:=aP (((u.setCell (ab w.heap.size 0 M) (O A1 n1 c1)).setCell (ab w.heap.size 1 M) (J I d1)).setCell (ab w.heap.size 2 M) (J I l1));have Qh:W.heap.size=u.heap.size:=by rw[<-hW];simp
 rw[hW] at S g1 g2 g3 bN HQ⊢;clear hW bg x0 x1 x2 ef cG de sY xw;have y0:W.cell? (ab w.heap.size 0 M)=ad (O A1 n1 c1):=S.cell 0;have y1:W.cell? (ab w.heap.size 1 M)=ad (J I d1):=S.cell 1;have y2:W.cell? (ab w.heap.size 2 M)=ad (J I l1):=S.cell 2;have y3:W.cell? ⟨w.heap.size+1,0,M⟩=ad (J I t):=g1.cell 0;have y4:W.frozen? ⟨w.heap.size+1,0,M⟩=false:=g1.frozen 0;go_wp2_with fail;have D:=S.bT (p:=⟨w.heap.size+1,0,M⟩) av (J I T);have K:aI (W.setCell ⟨w.heap.size+1,0,M⟩ (J I T)) (w.heap.size+1) 3 #[J I T]:=g1.put 0 (J I T);have H:=g2.bT (p:=⟨w.heap.size+1,0,M⟩) av (J I T);have G:=g3.bT (p:=⟨w.heap.size+1,0,M⟩) aw (J I T);have cP:=bN.setCell (p:=⟨w.heap.size+1,0,M⟩) av (J I T);have xx:=E (HQ.A.setCell (p:=⟨w.heap.size+1,0,M⟩) av (J I T));refine(RA _ d1 l1 f T _ ⟨A1,n1,c1,rfl,xx.A.bt aw,FJ,cn⟩).ah ?_;rintro e b⟨rfl,L⟩;have HR:=E (show qt f T=qt f t/\kC f T=kC f t by rw[<-HT.A];exact⟨aiT _ _,ZB _ _⟩);rw[MN.A.1,HR.A.1,HR.A.2];have k0:=D.al L D.lt;have k1:=K.al L K.lt;have k2:=H.al L H.lt;have C:=G.al L G.lt;have BH:=cP.trans (L.mono cP.size);have vK:=E (xx.A.al (L.mono cP.size));have RC:w.heap.size+1+1+1<b.heap.size:=C.lt;clear L D K H G cP xx S g1 g2 g3 bN HQ y0 y1 y2 y3 y4;obtain⟨⟨s,o,r,yL,q,n,j,m⟩,HY⟩:∃y,a6 (qt f t=y):=⟨_,E rfl⟩;rw[HY.A];simp only[Nt.val];have y0:b.cell? (ab w.heap.size 0 M)=ad (O A1 n1 c1):=k0.cell 0;have y1:b.cell? (ab w.heap.size 1 M)=ad (J I d1):=k0.cell 1;have y2:b.cell? (ab w.heap.size 2 M)=ad (J I l1):=k0.cell 2;have z0:b.cell? ⟨w.heap.size+1+1+1,0,M⟩=ad (O M 0 0):=C.cell 0;have z1:b.cell? ⟨w.heap.size+1+1+1,1,M⟩=ad (J I 0):=C.cell 1;have z2:b.cell? ⟨w.heap.size+1+1+1,2,M⟩=ad (J I 0):=C.cell 2;have f0:b.frozen? ⟨w.heap.size+1+1+1,0,M⟩=false:=C.frozen 0;have f1:b.frozen? ⟨w.heap.size+1+1+1,1,M⟩=false:=C.frozen 1;have f2:b.frozen? ⟨w.heap.size+1+1+1,2,M⟩=false:=C.frozen 2;have jr:w.heap.size<b.heap.size:=an;have fo:w.heap.size+1<b.heap.size:=an;have b6:w.heap.size+1+1<b.heap.size:=an;have qw:w.heap.size+1+1+1<b.heap.size:=RC;cases U:kC f t
 ·have HE:=E (show BF f ok t=f/\BG f ok t l1=l1 by unfold BF BG;rw[U];exact⟨rfl,rfl⟩);clear k0 k1 k2 C;go_wp2;refine bF (v:=aY #[O A1 n1 c1,J I d1,J I l1]) (by simp[bz,results79,go_sem,z0,z1,z2,qw]) rfl ?_;refine⟨⟨_,rfl,?_⟩,(MK BH an _ _ _).alloc aw _⟩;rw[H1.A,H2.A,H3.A,HE.A.1,HE.A.2];exact⟨A1,n1,c1,rfl,((((vK.A.setCell aw _).setCell aw _).setCell aw _).alloc aw _).bt aw,FJ,cn⟩
 ·have ru:=E U;have ZC:1<=n1:=by
   rw[<-zj];unfold kC at U;simp at U;omega
  have RD:=E (show nt f 0=⟨s,o,r,yL,q,n,j,m⟩ by rw[<-HY.A];unfold qt;rw[U];rfl);clear U;go_wp2_with fail;obtain⟨X,hX⟩:=aP ((b.alloc (aD #[O s o r,aG q,J I n,J I j,J I m] 117)).alloc (aD #[J I l1] 3));have D:=(k0.alloc (aD #[O s o r,aG q,J I n,J I j,J I m] 117)).alloc (aD #[J I l1] 3);have K:=(k1.alloc (aD #[O s o r,aG q,J I n,J I j,J I m] 117)).alloc (aD #[J I l1] 3);have H:=(k2.alloc (aD #[O s o r,aG q,J I n,J I j,J I m] 117)).alloc (aD #[J I l1] 3);have G:=(C.alloc (aD #[O s o r,aG q,J I n,J I j,J I m] 117)).alloc (aD #[J I l1] 3);have F:=(aI.new b 117 #[O s o r,aG q,J I n,J I j,J I m]).alloc (aD #[J I l1] 3);have m5:=aI.new (b.alloc (aD #[O s o r,aG q,J I n,J I j,J I m] 117)) 3 #[J I l1];have FB:aS w.heap.size b ((b.alloc (aD #[O s o r,aG q,J I n,J I j,J I m] 117)).alloc (aD #[J I l1] 3)):=((bk _ _).alloc an _).alloc aw _;simp only[eO] at m5;rw[hX] at D K H G F m5 FB⊢;have a5:X.heap.size=b.heap.size+1+1:=by rw[<-hX];simp
  clear hX k0 k1 k2 C y0 y1 y2 z0 z1 z2 f0 f1 f2;have q0:∀p:Gw X (ad (b.heap.size+1)),p.aL.cell? (ab w.heap.size 0 M)=ad (O A1 n1 c1):=Gw.cells D aw 0;have v0:∀p:Gw X (ad (b.heap.size+1)),p.aL.cell? (ab b.heap.size 0 M)=ad (O s o r):=Gw.cells F av 0;have v1:∀p:Gw X (ad (b.heap.size+1)),p.aL.cell? (ab b.heap.size 1 M)=ad (aG q):=Gw.cells F av 1;have v2:∀p:Gw X (ad (b.heap.size+1)),p.aL.cell? (ab b.heap.size 2 M)=ad (J I n):=Gw.cells F av 2;have v3:∀p:Gw X (ad (b.heap.size+1)),p.aL.cell? (ab b.heap.size 3 M)=ad (J I j):=Gw.cells F av 3;have v4:∀p:Gw X (ad (b.heap.size+1)),p.aL.cell? (ab b.heap.size 4 M)=ad (J I m):=Gw.cells F av 4;have s1:∀W,(iV 29 (O A1 n1 c1) (ad (J I 1)) M M).run aH W= .ok (O (cutAt A1 c1 1 5) (n1-1) (c1-1)) W:=oC underlying29 5 aiW A1 n1 c1 1 ZC;have a3:=E (show 0<=j/\j<8 from by
   have:=dv.A 0 an;rw[RD.A] at this;exact this.2.2.2)
  refine YW (λw'=>∃p:Gw X (ad (b.heap.size+1)),w'=p.aL) ⟨⟨X.drew,⟨rfl,rfl,rfl,aO _,λ_ _ _=>rfl⟩⟩,rfl⟩ [0,1,3,4,5] 2 6 [7] _ _ au au ar ar (λ_ _ oI _ _ h=>by cases oI<;>exact h) ?_;repeat (
   refine TK.step au (λKK aJ=>?_);go_simp;refine aJ _ ?_;clear aJ KK)
  refine TK.bh ?_;intro KM vG;go_simp;refine(aiP ⟨s,o,r,yL,q,n,j,m⟩ (w.heap.size+1+1) (b.heap.size+1) (w.heap.size+1) ok l1 T X.drew H.drew m5.drew K.drew jc (by rw[<-HT.A];exact MH t) a3.A an).ah ?_;rintro e w4⟨⟨vb,rfl,Q⟩,c,RE⟩;have c:X.grownBy w4 (ad (b.heap.size+1)):=⟨c.os,c.tape,c.output,c.size,c.block⟩;have Q:jh w4 X.heap.size 117 vb (lz ⟨s,o,r,yL,q,n,j,m⟩ ok T):=Q;refine vG _ _ ⟨⟨w4,c⟩,rfl⟩ ?_;clear vG KM v0 v1 v2 v3 v4 q0;have DY:aS w.heap.size b w4:=FB.grown c an (λg e=>by cases e;omega);have BI:=E ((vK.A.al DY).drop1 ZC FJ);have Yf:(lz ⟨s,o,r,yL,q,n,j,m⟩ ok T).length<=1:=by unfold lz;split;simp;split<;>simp
  have ut:=D.grown c aw;have j3:=G.grown c aw;have a2:=c.size;obtain⟨Ji,ZD⟩:∃x,a6 (uq ⟨s,o,r,yL,q,n,j,m⟩ ok l1=x):=⟨_,E rfl⟩;rw[ZD.A] at RE;intro KM vG;refine aiU au (.tmp 30) (.tmp 33) au X.heap.size vb _ au Q w.heap.size (cutAt A1 c1 1 5) (n1-1) (c1-1) (f.drop 1) au BI.A.len BI.A.sl an a2 ?_;intro v5 z ry A aR;have bq:∀k,k<X.heap.size->ad k≠vb.ownBlock:=λk hk e=>by have:=Q.nI _ e.symm;omega
  have h0:=ut.grown A (bq _ an);have N:=j3.grown A (bq _ an);have h5:=RE.grown A (bq _ an);have aK:aS w.heap.size b z:=DY.grown A an (λg e=>by have:=Q.nI g e;omega);have a4:=A.size;have ZE:X.grownBy z (ad (b.heap.size+1)):=⟨A.os.trans c.os,A.tape.trans c.tape,A.output.trans c.output,a8 c.size A.size,λk hk eV=>(A.block k an (bq k hk)).trans (c.block k hk eV)⟩;refine vG _ _ ⟨⟨z,ZE⟩,rfl⟩ ?_;clear vG KM;obtain⟨A5,n5,c5,rfl⟩:=ry.shape;repeat (
   refine TK.step au (λKK aJ=>?_);go_simp;refine aJ _ ?_;clear aJ KK)
  refine TK.bh ?_;have y1:z.cell? (ab w.heap.size 1 M)=ad (J I d1):=h0.cell 1;have y2:z.cell? ⟨b.heap.size+1,0,M⟩=ad (J I Ji):=h5.cell 0;have z0:z.cell? ⟨w.heap.size+1+1+1,0,M⟩=ad (O M 0 0):=N.cell 0;have z1:z.cell? ⟨w.heap.size+1+1+1,1,M⟩=ad (J I 0):=N.cell 1;have z2:z.cell? ⟨w.heap.size+1+1+1,2,M⟩=ad (J I 0):=N.cell 2;have f0:z.frozen? ⟨w.heap.size+1+1+1,0,M⟩=false:=N.frozen 0;have f1:z.frozen? ⟨w.heap.size+1+1+1,1,M⟩=false:=N.frozen 1;have f2:z.frozen? ⟨w.heap.size+1+1+1,2,M⟩=false:=N.frozen 2;have gH:=E ry;clear ut j3 h0 N h5 c A ZE aR Q ry RE D K H G F m5 FB DY;go_wp2;refine bF (v:=aY #[O A5 n5 c5,J I d1,J I Ji]) (by simp[bz,results79,go_sem,z0,z1,z2]) rfl ?_;have RF:=MK (k:=w.heap.size+1+1+1) aK an (O A5 n5 c5) (J I d1) (J I Ji);refine⟨⟨_,rfl,?_⟩,BH.trans RF⟩;have HE:=E (show BF f ok t=lz (nt f 0) ok T++f.drop 1/\BG f ok t l1=Ji by unfold BF BG;rw[ru.A,HT.A,RD.A,ZD.A];exact⟨rfl,rfl⟩);rw[H1.A,H2.A,H3.A,HE.A.1,HE.A.2];have ZF:=((gH.A.setCell (a:=⟨w.heap.size+1+1+1,0,M⟩) aw (O A5 n5 c5)).setCell (a:=⟨w.heap.size+1+1+1,1,M⟩) aw (J I d1)).setCell (a:=⟨w.heap.size+1+1+1,2,M⟩) aw (J I Ji);rw[<-RD.A] at ZF;obtain⟨A6,n6,kS,fT,aM,ZG⟩:=ZF.Jg (B:=w.heap.size) (by have:=RF.size;simp;omega) (aiV an (λi hi=>(vK.A.rE i an).al RF));injection fT with fT rl FU;subst fT rl FU;exact⟨_,_,_,rfl,aM,ZG.1,ZG.2⟩
def Rl (s:ByteArray) (t:List UInt8) (hs:s.size<=65536):kk (bu s.size++nL s++t)= .ok (nL s,t):=by
 unfold kk;rw[mV,C0 _ _ an];simp only;rw[af an,af (by rw[b2,yO];omega)];rw[<-yO s,List.take_left,List.drop_left]
def Zc:∀(aU:aZ) (t:List UInt8) (ps:aZ),(∀q∈aU,q.1.size<=65536/\q.2.size<=65536)->xm aU.length (nr aU++t) ps= .ok (ps++aU,t)
 |[],t,ps,_=>by simp[xm,nr]
 |q::aU,t,ps,h=>by
  obtain⟨a,b⟩:=q
  obtain⟨d,h2⟩:=h (a,b) av
  have e:nr ((a,b)::aU)++t=bu a.size++nL a++(bu b.size++nL b++(nr aU++t)):=by unfold nr;simp
  rw[e,pY,xm,Rl a _ d]
  simp only
  rw[Rl b _ h2]
  simp only
  rw[VX,VX,Zc aU t _ (λq c=>h q (by simp[c]))]
  simp
def ait (h:Df L):∀q∈L,q.1.size<=64/\q.2.size<=64:=by
 intro q a;obtain⟨i,hi,rfl⟩:=List.getElem_of_mem a;have:=h.2 i hi;have e:=DQ hi;rw[<-e];exact⟨this.1.2.1,this.2.1⟩
def aiu (L:aZ) (t:List UInt8) (h:bH L=true):uk (kx L++t)= .ok (L,t):=by
 have hs:=yR.1 h;unfold uk kx;rw[mV,C0 _ _ (ai hs.1)];simp only;rw[af (ai hs.1),Zc L t [] (λq a=>by have:=ait hs q a;omega)];simp only[List.nil_append];rw[ag h]
variable {β:Type}
section
open Go.ChangeMaps Go.MapKept
def alE:(67:bf)<aH.types.size:=of_decide_eq_true ar
def alF:(250:bf)<aH.types.size:=of_decide_eq_true ar
def alG:WideMaps.KeyLaw aH 67:=deep_law_laid laidOut (m:=2) an alE ar ar
def alH:WideMaps.KeyLaw aH 250:=deep_law_laid laidOut (m:=3) an alF ar ar
def abZ:∃n,aH.types.size=n+3:=⟨aH.types.size-3,by
 have:decide (3<=aH.types.size)=true:=ar;have:=of_decide_eq_true this;omega⟩
def NZ (d:Nat) (a:ByteArray) (b:a.size<=bK):aH.keyLits (d+1) 9 [.string a]=ad [.string a.data.toList]:=by
 unfold Program.keyLits;rw[underlying9];simp[b]
def ab0:aH.cellsOf 67=2:=ar
def ab1:aH.cellsOf 78=2:=ar
def ab2:aH.cellsOf 250=32:=ar
def ab3:aH.cellsOf 9=1:=ar
def alI (d:Nat) (a b:ByteArray) (c:a.size<=bK) (Z:b.size<=bK):∃l,aH.keyLits (d+2) 67 [.string a,.string b]=ad l:=by
 unfold Program.keyLits;rw[underlying67];simp[ab0,ab3,NZ d a c,NZ d b Z]
def alJ (d:Nat) (a b:ByteArray) (c:a.size<=bK) (Z:b.size<=bK):∃l,aH.keyLits (d+2) 78 [.string a,.string b]=ad l:=by
 unfold Program.keyLits;rw[underlying78];simp[ab1,ab3,NZ d a c,NZ d b Z]
def mapM_some (f:α->Option β):∀l:List α,(∀x∈l,∃y,f x=ad y)->∃a,l.mapM f=ad a
 |[],_=>⟨[],rfl⟩
 |x::l,h=>by
  obtain⟨y,c⟩:=h x av
  obtain⟨a,d⟩:=mapM_some f l (λz b=>h z (by simp[b]))
  exact⟨y::a,by rw[List.mapM_cons,c,d];rfl⟩
def alK (d:Nat) (cs:List ByteArray) (b:cs.length=32) (hs:∀s∈cs,s.size<=bK):∃l,aH.keyLits (d+3) 250 (cs.map .string)=ad l:=by
 unfold Program.keyLits;rw[underlying250];simp only;rw[ag (by rw[p6,b,ab2])];obtain⟨f,c⟩:=mapM_some (λi=>aH.keyLits (d+2) 78 (((cs.map ap).drop (i*aH.cellsOf 78)).take (aH.cellsOf 78))) (se 16) (λi hi=>by
  rw[List.mem_range] at hi;rw[ab1];have a:i*2<cs.length:=an;have h2:i*2+1<cs.length:=an;have e:((cs.map ap).drop (i*2)).take 2=[.string cs[i*2],.string cs[i*2+1]]:=by
   rw[pf (by rw[p6];exact a),pf (by rw[p6];exact h2)];simp
  rw[e];exact alJ d _ _ (hs _ (dl a)) (hs _ (dl h2)))
 rw[c];exact⟨_,rfl⟩
def qG:KK aH 67 Key where
 law:=Maps.Keyed.of_law alG
 kv a:=.agg #[.string a.1,.string a.2]
 ok a:=a.1.size<=bK/\a.2.size<=bK
 lit:=λa h=>by
  obtain⟨n,hn⟩:=abZ
  obtain⟨l,hl⟩:=alI (n+2) a.1 a.2 h.1 h.2
  have hk:aH.keyType 67=true:=by kernel_rfl
  have hf:(aY #[.string a.1,.string a.2]).formed aH 67=true:=by simp[Value.formed,underlying67,ab0]
  refine⟨.string (keyBytes l),?_⟩
  unfold keyOf
  rw[underlying67]
  simp only
  rw[ag (by rw[hk,hf];rfl),hn]
  show((aH.keyLits (n+2+2) 67 [.string a.1,.string a.2]).map λls=>Lit.string (keyBytes ls))=_
  rw[hl]
  rfl
 inj:=λa b _ _ h=>by
  injection h with h
  have h1:=congrArg Array.toList h
  simp at h1
  exact Prod.ext h1.1 h1.2
def Aa:KK aH 250 (List ByteArray) where
 law:=Maps.Keyed.of_law alH
 kv a:=.agg (a.map .string).toArray
 ok a:=a.length=32/\∀s∈a,s.size<=bK
 lit:=λa h=>by
  obtain⟨n,hn⟩:=abZ
  obtain⟨l,hl⟩:=alK (n+1) a h.1 h.2
  have hk:aH.keyType 250=true:=by kernel_rfl
  have hf:(aY (a.map ap).toArray).formed aH 250=true:=by simp[Value.formed,underlying250,ab2,h.1]
  refine⟨.string (keyBytes l),?_⟩
  unfold keyOf
  rw[underlying250]
  simp only
  rw[ag (by rw[hk,hf];rfl),hn]
  show((aH.keyLits (n+1+3) 250 (a.map ap).toArray.toList).map λls=>Lit.string (keyBytes ls))=_
  rw[List.toList_toArray,hl]
  rfl
 inj:=λa b _ _ h=>by
  injection h with h
  have h1:=congrArg Array.toList h
  simp only[List.toList_toArray] at h1
  exact(List.map_inj_right (λx y h=>by injection h)).1 h1
end
variable {b:Nat} {W:aB}
section
open Go.ChangeAt Go.ChangeShapes Go.Joins Go.WideShapes
structure Lbs (w:aB) (ao:Option aX) (n:Nat) (ls:List aZ):Prop where
 len:ls.length=n
 A:∃V:Nat->aE,Sl w w.heap.size ao n V/\∀i,i<n->∃A' n' c',V i=O A' n' c'/\fm w w.heap.size A' n' (ls.getD i [])/\n'<=c'/\c'<=9223372036854775807
def Lbs.aL {ls:List aZ} (h:Lbs w ao n ls) (Z:aS w.heap.size w w'):Lbs w' ao n ls:=by
 obtain⟨V,b,h2⟩:=h.A;refine⟨h.len,V,b.aL Z,λi hi=>?_⟩;obtain⟨A',n',c',e,a,r⟩:=h2 i hi;exact⟨A',n',c',e,a.aL Z,r⟩
def O0 (b off i:Nat):((ab b off M):aX).add i=⟨b,off+i,M⟩:=aqj
def aeG {o:Nat} (h:W.cell? (ab b o M)=ad v):b<W.heap.size:=by
 rcases gy b W.heap.size with h'|h'
 ·exact h'
 ·simp[World.cell?,tK h'] at h
section
variable {H:Type} {enc:bf×aE->H} {W:aB} {base:Nat} {v:aE} {d:DataW H} {p:List MemPlace}
def aow {fuel:Nat} {x:DataW H×List MemPlace} (c:qW enc aH W 0 (λ_=>true) true fuel 49 [v]=ad x):ahI W v:=by
 rcases Deep.open_slice_pairs underlying49 underlying78 ar rfl rfl ar ar c with⟨cS,_⟩|⟨x,l,c',m,k,V0,V1,Ga,ap9,aqa,WR,cS,_,hl,hm,rb,_,mi⟩
 ·simp at cS;subst cS;exact⟨M,0,0,[],rfl,fm.bh _ _ _,aO _,an⟩
 ·simp at cS;subst cS;simp at rb;subst rb;have iD:∀i,i<l->nm ((se l).map λi=>(uj (V0 i),uj (V1 i))) i=uj (V0 i)/\vl ((se l).map λi=>(uj (V0 i),uj (V1 i))) i=uj (V1 i):=λi hi=>by
   have:=DQ (L:=(se l).map λi=>(uj (V0 i),uj (V1 i))) (i:=i) (am hi);simp at this;exact this
  refine⟨_,l,m,(se l).map λi=>(uj (V0 i),uj (V1 i)),rfl,⟨av,λhn=>?_,λi hi=>?_⟩,hl,by unfold bK at hm;omega⟩
  ·obtain⟨b,off,a⟩:=x;have h0:=(mi 0 an).1;have d:a=M:=by simpa[Addr.add] using World.cell?_spot h0
   subst d;refine⟨b,off,rfl,?_,λi hi=>?_⟩
   ·rw[O0] at h0;exact aeG h0
   ·obtain⟨c0,c1,t0,t1⟩:=mi i an;obtain⟨z,e0,-⟩:=DataW.trod_string underlying9 t0;obtain⟨q,e1,-⟩:=DataW.trod_string underlying9 t1;simp at e0 e1;rw[O0] at c0 c1;exact ahK
  ·exact ahJ
end
end
section
open im
def hv (h:Hd):Array aE:=#[aG h.on,J I h.dB,aG h.hit,J I h.eW]
def Bn {a b:Bool} (h:a=b):aQ (aG a)=aQ (aG b):=by rw[h]
def I2 (t:Int) (w:aB):aN aH 93 #[J I t] w λe w'=>e=aQ (aG (dT t))/\w=w':=by
 by_cases a:0<=t
 ·by_cases h2:t<=9007199254740992
  ·go_enter func93,ntmps93;go_wp2;go_ret;exact⟨Bn (by simp[dT,a,h2]),rfl⟩
  ·go_enter func93,ntmps93;go_wp2;go_ret;exact⟨Bn (by simp[dT,a];omega),rfl⟩
 ·go_enter func93,ntmps93;go_wp2;go_ret;exact⟨Bn (by simp[dT];omega),rfl⟩
def QK (o:Bool) (s:Int) (i:Bool) (f:Int) (w:aB):aN aH 65 #[aY #[aG o,J I s,aG i,J I f]] w λe w'=>e=aQ (aG (fe ⟨o,s,i,f⟩))/\aS w.heap.size w w':=by
 have b:=E (show fe ⟨o,s,i,f⟩=(dT s&&dT f&&(o||s==0)&&(i||f==0)) from rfl);cases a:dT s
 ·go_enter func65,ntmps65;go_wp2_with fail;refine(I2 _ _).ah ?_;rintro e w'⟨rfl,rfl⟩;go_wp2;go_ret;exact⟨Bn (by rw[b.A,a];rfl),(bk _ _).alloc (aO _) _⟩
 ·cases h2:dT f
  ·go_enter func65,ntmps65;go_wp2_with fail;refine(I2 _ _).ah ?_;rintro e w'⟨rfl,rfl⟩;go_wp2_with fail;refine(I2 _ _).ah ?_;rintro e w'⟨rfl,rfl⟩;go_wp2;go_ret;exact⟨Bn (by rw[b.A,a,h2];rfl),(bk _ _).alloc (aO _) _⟩
  ·cases o<;>cases i;all_goals
    cases d:(s==0)<;>cases c:(f==0)
   all_goals
    go_enter func65,ntmps65;go_wp2_with fail;refine(I2 _ _).ah ?_;rintro e w'⟨rfl,rfl⟩;go_wp2_with fail;refine(I2 _ _).ah ?_;rintro e w'⟨rfl,rfl⟩;go_wp2;go_ret;exact⟨Bn (by rw[b.A,a,h2];simp_all),(bk _ _).alloc (aO _) _⟩
end
section
open im
def Bo (Z:aS W.heap.size W w1):(∀b o,b<W.heap.size->w1.cell? (ab b o M)=W.cell? (ab b o M))/\(∀b o,b<W.heap.size->w1.frozen? (ab b o M)=W.frozen? (ab b o M)):=⟨λb o h=>Z.cell (p:=(ab b o M)) h,λb o h=>Z.frozen (p:=(ab b o M)) h⟩
theorem Ye (h:P:=by
 exact((((((bk _ _).alloc (aO _) _).alloc av _).trans (Z.mono aw)).setCell av _).setCell av _|>.setCell av _).setCell av _;):P:=h
def QL (o:Bool) (s:Int) (i:Bool) (f:Int) (w:aB):aN aH 228 #[aY #[aG o,J I s,aG i,J I f]] w λe w'=>e=aQ (.agg (hv (lR ⟨o,s,i,f⟩)))/\aS w.heap.size w w':=by
 have g:=E (show lR ⟨o,s,i,f⟩=if fe ⟨o,s,i,f⟩=true then⟨o,s,i,f⟩ else none_ from rfl);cases d:fe ⟨o,s,i,f⟩
 ·have c:=E d;go_enter func228,ntmps228;go_wp2_with fail;refine(QK o s i f _).ah ?_;rintro e a⟨rfl,Z⟩;obtain⟨b,k⟩:=Bo Z;have j:w.heap.size+1<a.heap.size:=by have:=Z.size;simp at this;omega
  go_wp2;refine bF (v:=aY #[aG false,J I 0,aG false,J I 0]) (by simp[bz,results228,go_sem,b]) rfl ⟨by rw[g.A,c.A];rfl,?_⟩;exact Ye
 ·have c:=E d;go_enter func228,ntmps228;go_wp2_with fail;refine(QK o s i f _).ah ?_;rintro e a⟨rfl,Z⟩;obtain⟨b,k⟩:=Bo Z;have j:w.heap.size+1<a.heap.size:=by have:=Z.size;simp at this;omega
  go_wp2;refine bF (v:=aY #[aG o,J I s,aG i,J I f]) (by simp[bz,results228,go_sem,b]) rfl ⟨by rw[g.A,c.A];rfl,?_⟩;exact Ye
def uf (zs:List Int) (k:Nat):Array aE:=((se zs.length).map λj=>J I (if j<k then ey (zs.getD j 0) else 0)).toArray
def Md (zs:List Int) (k:Nat):(uf zs k).size=zs.length:=by simp[uf]
def zh (zs:List Int) (k j:Nat) (hj:j<zs.length):(uf zs k)[j]?=ad (J I (if j<k then ey (zs.getD j 0) else 0)):=by
 simp[uf,hj]
def aho (zs:List Int) (k:Nat) (a:k<zs.length) (v:Int) (hv:v=ey (zs.getD k 0)):(uf zs k).setIfInBounds k (J I v)=uf zs (k+1):=by
 subst hv;apply Array.ext_getElem?;intro j;rw[Array.getElem?_setIfInBounds,Md];by_cases hj:j<zs.length
 ·rw[zh zs k j hj,zh zs (k+1) j hj];by_cases e:k=j
  ·subst e;simp[a]
  ·rw[af e];congr 3;simp;omega
 ·rw[tK (by rw[Md];omega),tK (by rw[Md];omega),af an]
def ahp (zs:List Int):madeCells #[J I 0] zs.length=uf zs 0:=by
 apply Array.ext_getElem?;intro j;by_cases hj:j<zs.length
 ·rw[zh zs 0 j hj];simp[madeCells,hj,Nat.mod_one]
 ·rw[tK (by simp[madeCells];omega),tK (by rw[Md];omega)]
def ahq:(aH.info? 3).map (λi=>(i.zero,i.size,i.bytes))=ad (ad (J I 0),1,8):=ar
def ahr (z:Int):∃c b:Int,(∀(a:Array bf) (t:bf) (W:aB),(Builtin.max_ a t #[J I z,J I 0]).run aH W= .ok (J I c) W)/\(∀(a:Array bf) (t:bf) (W:aB),(Builtin.min_ a t #[J I c,J I 9007199254740992]).run aH W= .ok (J I b) W)/\b=ey z:=by
 refine⟨max z 0,ey z,λa t W=>?_,λa t W=>?_,rfl⟩
 ·simp[Builtin.max_,Builtin.max2];split<;>omega
 ·simp[Builtin.min_,Builtin.min2,ey];split<;>omega
def QM (b:Nat) (zs:List Int) (n:Nat) (hn:zs.length=n) (A:n<=3) (w:aB) (j:aI w b 3 (zs.map (J I)).toArray):aN aH 229 #[O (ad (ab b 0 M)) n n] w λe w'=>∃g,e=aQ (O (ad (ab g 0 M)) n n)/\aI w' g 3 (uf zs n)/\w.heap.size<=g/\aS w.heap.size w w':=by
 have q:=run_make_row' (P:=aH) 27 3 (J I 0) 8 underlying27 ahq rfl I I n an an;go_enter func229,ntmps229;go_wp2_with fail;have p:aI (w.alloc (aD (madeCells #[J I 0] n) 3)) w.heap.size 3 (uf zs 0):=by
  rw[<-ahp,hn];exact aI.new _ _ _
 have f:aS w.heap.size w (w.alloc (aD (madeCells #[J I 0] n) 3)):=(bk _ _).alloc (aO _) _;generalize w.alloc (aD (madeCells #[J I 0] n) 3)=w0 at p f⊢;clear q;have C:=E hn;have s:=j.lt;subst hn;go_loopw [4,5,11] (λ_ _ i wr=>∃k:Nat,k<=zs.length/\i=J I k/\aI wr w.heap.size 3 (uf zs k)/\aS w.heap.size w wr) (λ_ _ i _=>zs.length-(intOf i).toNat);case atStart=>exact⟨0,an,rfl,p,f⟩
 case round=>
  obtain⟨k,B,rfl,a,hB⟩:=hrel;by_cases c:k<zs.length
  ·have u:wr.cell? (ab b k M)=ad (J I (zs.getD k 0)):=by
    rw[(j.al hB s).cell k];simp[c]
   have D:=(a.cell k).trans (zh zs k k c);have r:=a.frozen k;obtain⟨y,d,t,x,m⟩:=ahr (zs.getD k 0);have o:=E m;clear m;generalize l:zs.getD k 0=z at u t o;have v:=E l;clear l;go_wp2;go_roundw;case rel=>
    refine⟨k+1,an,by go_num,?_,hB.setCell (aO _) _⟩;have:=a.put k (J I d);rwa[aho zs k c d (by rw[v.A,o.A])] at this
   case measure=>exact aA
  ·obtain rfl:k=zs.length:=by omega
   go_wp2;go_ret;exact⟨_,rfl,a,aO _,hB⟩
end
variable {cs':Array aE}
section
open im
def Yg {t k:Int} (h:aI w g 3 (uf [t,k] 2)):w.cell? (ab g 0 M)=ad (J I (ey t))/\w.cell? (ab g 1 M)=ad (J I (ey k)):=⟨(h.cell 0).trans (zh [t,k] 2 0 av),(h.cell 1).trans (zh [t,k] 2 1 av)⟩
def bd3 {t k m:Int} (h:aI w g 3 (uf [t,k,m] 3)):w.cell? (ab g 0 M)=ad (J I (ey t))/\w.cell? (ab g 1 M)=ad (J I (ey k))/\w.cell? (ab g 2 M)=ad (J I (ey m)):=⟨(h.cell 0).trans (zh [t,k,m] 3 0 av),(h.cell 1).trans (zh [t,k,m] 3 1 av),(h.cell 2).trans (zh [t,k,m] 3 2 av)⟩
def Me (hn:W.heap.size=n) (a:cs'=cs):aI (W.alloc (aD cs t)) n t cs':=by
 subst hn a;exact aI.new _ _ _
theorem Yh (h:P:=by
 refine Below.trans ?_ (bd.mono aw);exact(((((((bk _ _).alloc (aO _) _).trans (aW.mono av)).setCell av _).setCell av _).setCell av _).setCell av _).alloc aw _;):P:=h
def Yi (o:Bool) (s:Int) (i:Bool) (f:Int) (t k:Int) (w:aB):aN aH 230 #[aY #[aG o,J I s,aG i,J I f],J I t,J I k] w λe w'=>e=aQ (J I (aL ⟨o,s,i,f⟩ t k))/\aS w.heap.size w w':=by
 have j:=E (show aL ⟨o,s,i,f⟩ t k=E9 (lR ⟨o,s,i,f⟩) (ey t) (ey k) from rfl);have n:=Pw (Io ⟨o,s,i,f⟩);go_enter func230,ntmps230;go_wp2_with fail;refine(QL o s i f _).ah ?_;rintro e l⟨rfl,aW⟩;generalize lR ⟨o,s,i,f⟩=h at j n⊢;obtain⟨o',F,m,c⟩:=h;simp only at n;simp only[hv];obtain⟨u,r⟩:=Bo aW;have z:w.heap.size<l.heap.size:=aqz;go_wp2_with fail;refine(QM l.heap.size [t,k] 2 rfl an _ (Me av rfl)).ah ?_;rintro e b⟨g,rfl,a,D,bd⟩;obtain⟨p,q⟩:=Yg a;have v:=Dg t;have x:=Dg k;generalize ey t=T at j p v;generalize ey k=K at j q x;obtain⟨d,-⟩:=Bo bd;have H:b.cell? (ab w.heap.size 0 M)=ad (aG o'):=by rw[d _ _ aw];go_simp
 have q2:b.cell? (ab w.heap.size 2 M)=ad (aG m):=by rw[d _ _ aw];go_simp
 have G:b.cell? (ab w.heap.size 3 M)=ad (J I c):=by rw[d _ _ aw];go_simp
 have hB:aS w.heap.size w b:=by
  exact Yh
 clear a d bd u r aW D;go_wp2_with fail;go_quiet (fail);clear z;cases m<;>cases o';all_goals
  by_cases y:0<K<;>by_cases C:c<T<;>by_cases B:T-c<K<;>by_cases A:c=T
 all_goals
  first
   |(exfalso;omega)
   |(go_wp2;go_ret;refine⟨E5 (by rw[j.A];simp[E9,Wj,y,C,B,A]<;>omega),below_drewN hB _⟩)
end
section
open im
def ahs (o:Bool) (s:Int) (i:Bool) (f:Int) (t k:Int) (w:aB):aN aH 189 #[aY #[aG o,J I s,aG i,J I f],J I t,J I k] w λe w'=>e=aQ (aG (gone ⟨o,s,i,f⟩ t k))/\aS w.heap.size w w':=by
 have p:=E (show gone ⟨o,s,i,f⟩ t k=Fa (lR ⟨o,s,i,f⟩) (ey t) (ey k) from rfl);have j:=E (show aL (lR ⟨o,s,i,f⟩) (ey t) (ey k)=E9 (lR ⟨o,s,i,f⟩) (ey t) (ey k) from by unfold aL;rw[af2,Lv,Lv]);have D:=Pw (Io ⟨o,s,i,f⟩);go_enter func189,ntmps189;go_wp2_with fail;refine(QL o s i f _).ah ?_;rintro e y⟨rfl,aW⟩;generalize lR ⟨o,s,i,f⟩=h at p j D⊢;obtain⟨o',l,b,a⟩:=h;simp only at D;simp only[hv];obtain⟨H,G⟩:=Bo aW;have R:w.heap.size<y.heap.size:=aqz;go_wp2_with fail;refine(QM y.heap.size [t,k] 2 rfl an _ (Me av rfl)).ah ?_;rintro e d⟨g,rfl,c,U,bd⟩;obtain⟨z,C⟩:=Yg c;have L:=Dg t;have O:=Dg k;generalize ey t=T at p j z L;generalize ey k=K at p j C O;obtain⟨n,-⟩:=Bo bd;have B:d.cell? (ab w.heap.size 0 M)=ad (aG o'):=by rw[n _ _ aw];go_simp
 have q1:d.cell? (ab w.heap.size 1 M)=ad (J I l):=by rw[n _ _ aw];go_simp
 have q2:d.cell? (ab w.heap.size 2 M)=ad (aG b):=by rw[n _ _ aw];go_simp
 have A:d.cell? (ab w.heap.size 3 M)=ad (J I a):=by rw[n _ _ aw];go_simp
 have hB:aS w.heap.size w d:=by
  exact Yh
 have u:w.heap.size<d.heap.size:=by have:=bd.size;simp at this;omega
 clear c n bd H G aW U R;go_wp2_with fail;go_quiet (fail);go_wp2_with fail;refine(Yi o' l b a T K _).ah ?_;rintro e q⟨rfl,v⟩;obtain⟨r,-⟩:=Bo v;have u0:q.cell? (ab w.heap.size 0 M)=ad (aG o'):=(r _ _ u).trans B;have u2:q.cell? (ab w.heap.size 2 M)=ad (aG b):=(r _ _ u).trans q2;have u3:q.cell? (ab w.heap.size 3 M)=ad (J I a):=(r _ _ u).trans A;have F:aS w.heap.size w q:=(below_drewN hB _).trans (v.mono hB.size);clear r v hB B q1 q2 A z C u;generalize aL ⟨o',l,b,a⟩ T K=N at j⊢;by_cases m:N=0
 ·subst m;have x:=E (show Fa ⟨o',l,b,a⟩ T K=((0==0:Bool)&&!o'&&(!b||(decide (a<T)&&decide (K<=T-a)))) from by unfold Fa;rw[<-j.A];rfl);cases o'<;>cases b;all_goals
   by_cases Q:a<T<;>by_cases S:K<=T-a
  all_goals
   go_wp2;go_ret;refine⟨Bn (by rw[p.A,x.A];simp[Q,S]<;>omega),F⟩
 ·have d1:(N !=0)=true:=by simp[m]
  have x:=E (show Fa ⟨o',l,b,a⟩ T K=false from by unfold Fa;rw[<-j.A];simp[m]);have V:=E m;clear m;go_wp2;go_ret;refine⟨Bn (by rw[p.A,x.A]),F⟩
end
section
open im
def aht (h:Hd) (t k:Int):aL h (ey t) (ey k)=aL h t k:=by unfold aL;rw[Lv,Lv]
def HX (w W:aB) (cs:Array aE):Prop:=aI W w.heap.size 60 cs/\aI W (w.heap.size+1) 60 #[aG false,J I 0,aG false,J I 0]/\aS w.heap.size w W
def HX.set (h:HX w W cs) (i:Nat) (u:aE):HX w (W.setCell (ab w.heap.size i M) u) (cs.setIfInBounds i u):=⟨h.1.put i u,h.2.1.bT av u,h.2.2.setCell (aO _) u⟩
def DL (S:Hd) (w V:aB):Prop:=∃a0 cZ a2 a3,S=⟨a0,cZ,a2,a3⟩/\HX w V #[aG a0,J I cZ,aG a2,J I a3]
theorem FD (h:P:=by
 obtain⟨a0,cZ,a2,a3,hS,Yj,M2,Yk⟩:=aU;have CN:=E (λq:ba V=>Yi a0 cZ a2 a3 T K q.aL);have z:=ba.cells Yj;have H2:=E M2;have HB:=E Yk;have HS:=E hS;clear Yj M2 Yk hS p f X hT Yl hK;refine du (cU 0 4 (.c 4::[])) [5,6] ?_;refine dY ?_;refine S4.dm ?_;rintro _⟨pt,rfl⟩ KK aJ;go_simp;refine(CN.A pt).ah ?_;rintro e w9⟨rfl,Z⟩;replace H2:=E ((H2.A.al pt.aC H2.A.lt).al Z (da H2.A.lt pt.aC.size));replace HB:=E ((HB.A.trans (pt.aC.mono HB.A.size)).trans (Z.mono (a8 HB.A.size pt.aC.size)));refine aJ _ _ (aF.of Z) ?_;clear aJ KK Z CN z;refine S4.nb λwq hq=>?_;replace H2:=E (H2.A.al hq H2.A.lt);replace HB:=E (HB.A.trans (hq.mono HB.A.size));clear hq;have⟨k,g⟩:=H2.A.cf;refine dP ?_;go_wp2;refine bF (v:=bn #[aY #[aG a0,J I cZ,aG a2,J I a3],J I (aL ⟨a0,cZ,a2,a3⟩ T K)]) (by simp[bz,results188,go_sem,(((H2.A.put 0 (aG a0)).put 1 (J I cZ)).put 2 (aG a2)).put 3 (J I a3)|>.cell]) rfl ⟨?_,?_⟩
 ·have h:=HK.A;rw[<-HS.A,h,HS.A];rfl
 ·exact(((HB.A.setCell av _).setCell av _).setCell av _).setCell av _):P:=h
theorem Ym (h:P:=by
 generalize((((W.setCell (ab w.heap.size 1 M) (J I T)).setCell (ab w.heap.size 0 M) (aG true)).setCell (ab w.heap.size 2 M) (aG true)).setCell (ab w.heap.size 3 M) (J I T))=V at aU⊢;exact FD;):P:=h
def QO (o:Bool) (s:Int) (i:Bool) (f:Int) (c:Bool) (t wt k:Int) (w:aB):aN aH 188 #[aY #[aG o,J I s,aG i,J I f],aG c,J I t,J I wt,J I k] w λe w'=>e=aQ (bn #[.agg (hv (pv ⟨o,s,i,f⟩ c t wt)),J I (aL (pv ⟨o,s,i,f⟩ c t wt) t k)])/\aS w.heap.size w w':=by
 have b:=E (show pv ⟨o,s,i,f⟩ c t wt=wT (lR ⟨o,s,i,f⟩) c (ey t) (ey wt) from rfl);have HK:=E (aht (pv ⟨o,s,i,f⟩ c t wt) t k);generalize pv ⟨o,s,i,f⟩ c t wt=S at b HK⊢;have H:=Pw (Io ⟨o,s,i,f⟩);go_enter func188,ntmps188;go_wp2_with fail;refine(QL o s i f _).ah ?_;rintro e r⟨rfl,aW⟩;generalize lR ⟨o,s,i,f⟩=h at b H⊢;obtain⟨o',a,D,G⟩:=h;simp only at H;simp only[hv];have cG:w.heap.size+1<r.heap.size:=aqz;have Y:aI r w.heap.size 60 #[aG o,J I s,aG i,J I f]:=((aI.new w _ _).alloc _).al aW aw;have R:aI r (w.heap.size+1) 60 #[aG false,J I 0,aG false,J I 0]:=(Me av rfl).al aW av;obtain⟨hc,hf⟩:=Bo aW;go_wp2_with fail;refine(QM r.heap.size [t,wt,k] 3 rfl an _ (Me av rfl)).ah ?_;rintro e m⟨g,rfl,j,I4,n⟩;obtain⟨B,C,L⟩:=bd3 j;have hT:=Dg t;have Yl:=Dg wt;have hK:=Dg k;have O:aI m w.heap.size 60 #[aG o',J I a,aG D,J I G]:=by
  refine aI.al ?_ n aw;refine aI.alloc ?_ _;exact(((Y.put 0 (aG o')).put 1 (J I a)).put 2 (aG D)).put 3 (J I G)
 have N:aI m (w.heap.size+1) 60 #[aG false,J I 0,aG false,J I 0]:=by
  refine aI.al ?_ n aw;refine aI.alloc ?_ _;exact(((R.bT av _).bT av _).bT av _).bT av _
 have hB:aS w.heap.size w m:=by
  refine Below.trans ?_ (n.mono aw);exact((((((((bk _ _).alloc (aO _) _).alloc av _).trans (aW.mono aw)).setCell av _).setCell av _).setCell av _).setCell av _).alloc aw _
 have de:w.heap.size+1<m.heap.size:=by have:=n.size;simp at this;omega
 clear j n hc hf aW I4 Y R cG;generalize ey t=T at b HK B hT;generalize ey wt=U at b C Yl;generalize ey k=K at HK L hK;go_wp2_with fail;go_quiet (fail);have y:=below_drewN hB nq;have x:=O.drewN nq;have A:=N.drewN nq;clear B C L hB O N de;generalize m.drewN nq=W at y x A⊢;have X:HX w W _:=⟨x,A,y⟩;have⟨p,f⟩:=x.cf;clear y x A;cases c
 ·skip;go_wp2_with fail;have aU:DL S w _:=⟨_,_,_,_,b.A.trans au,((X.set 0 (aG false)).set 1 (J I 0))⟩;generalize((W.setCell (ab w.heap.size 0 M) (aG false)).setCell (ab w.heap.size 1 M) (J I 0))=V at aU⊢;exact FD
 ·by_cases l:o'=true/\a<=T
  ·obtain⟨rfl,F⟩:=l;by_cases u:U<=T-a
   ·skip;go_wp2_with fail;have aU:DL S w _:=⟨_,_,_,_,b.A.trans (by simp[wT,F,u]),(((X.set 0 (aG true)).set 2 (aG true)).set 3 (J I T))⟩;generalize(((W.setCell (ab w.heap.size 0 M) (aG true)).setCell (ab w.heap.size 2 M) (aG true)).setCell (ab w.heap.size 3 M) (J I T))=V at aU⊢;exact FD
   ·skip;go_wp2_with fail;have aU:DL S w _:=⟨_,_,_,_,b.A.trans (by simp[wT,F,show¬U<=T-a by omega]),(X.set 0 (aG true))⟩;generalize(W.setCell (ab w.heap.size 0 M) (aG true))=V at aU⊢;exact FD
  ·by_cases u:U<=0
   ·have d:¬(o'=true/\a<=T):=l;cases o'
    ·have HH:=E d;clear d l;go_wp2_with fail;have aU:DL S w _:=⟨_,_,_,_,b.A.trans (by simp[wT,u]),((((X.set 1 (J I T)).set 0 (aG true)).set 2 (aG true)).set 3 (J I T))⟩;exact Ym
    ·have mz:T<a:=by simp at d;omega
     clear d l;go_wp2_with fail;have aU:DL S w _:=⟨_,_,_,_,b.A.trans (by simp[wT,u,show¬a<=T by omega]),((((X.set 1 (J I T)).set 0 (aG true)).set 2 (aG true)).set 3 (J I T))⟩;exact Ym
   ·have d:¬(o'=true/\a<=T):=l;cases o'
    ·have HH:=E d;clear d l;go_wp2_with fail;have aU:DL S w _:=⟨_,_,_,_,b.A.trans (by simp[wT,show¬U<=0 by omega]),((X.set 1 (J I T)).set 0 (aG true))⟩;generalize((W.setCell (ab w.heap.size 1 M) (J I T)).setCell (ab w.heap.size 0 M) (aG true))=V at aU⊢;exact FD
    ·have mz:T<a:=by simp at d;omega
     clear d l;go_wp2_with fail;have aU:DL S w _:=⟨_,_,_,_,b.A.trans (by simp[wT,show¬U<=0 by omega,show¬a<=T by omega]),((X.set 1 (J I T)).set 0 (aG true))⟩;generalize((W.setCell (ab w.heap.size 1 M) (J I T)).setCell (ab w.heap.size 0 M) (aG true))=V at aU⊢;exact FD
end
end Go.Proofs.YtbeaddlblpgppaaGreatDoor
