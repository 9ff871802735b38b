/- Lemmas for the card. -/
import Derived.Test.YtnoegalemkbbbaaGreatDoorKt8
import Derived.Shelf.Spec.SlicesGrow
set_option linter.unusedVariables false
set_option linter.unusedSimpArgs false
set_option maxRecDepth 100000
namespace Go.Eng
open Go.RowKit
theorem KS{x:Int}(h0:0<=x)(h1:x<256):((UInt8.ofNat x.toNat).toNat:Int)=x:=by
 rw[show(UInt8.ofNat x.toNat).toNat=x.toNat%256 from rfl,Nat.mod_eq_of_lt Aa];omega
theorem AR1: ∀n:Fin 128,(E9 (n.val:Int)=[UInt8.ofNat n.val]/\32<=n.val/\n.val≠34/\n.val≠92)\/
 (A4 (E9 (n.val:Int)) 0=92/\BW (E9 (n.val:Int))=((n.val:Int),len (E9 (n.val:Int)))/\len (E9 (n.val:Int))≠0):=by decide+kernel
theorem pM{s T r:A0}: ∀(f:Nat) (p i:Int) (acc:List Int),0<=p->p<=len s->0<=i->GO s p=true->A5 T i=GR s p++34::r->(len T-i).toNat<=f->
  DS f T i acc=(toStr acc++A5 s p,i+len (GR s p)+1,0)
 |f,p,i,acc,h0,h1,hi,hu,hT,S=>by
  have y:A5 T i≠[]:=by rw[hT];simp
  have E:=YE hi U y
  have N:=LF.1 y
  have e:i<len T:=by omega
  rw[SA S e,SC T i hi,Q7 T i hi]
  by_cases hp:p<len s
  ·have hb:=M4 s p
   have hle:=rune_le s p hp
   rcases MJ h0 hp with⟨O,_⟩|⟨O,F,_,G,V,P⟩
   ·rw[TX s p h0 hp O]at hu;cases hu
   rw[<-N6 s p h0 hp Aa]at hu
   rw[dR h0 hp]at hT ⊢
   rw[F]at hT ⊢
   rw[List.append_assoc]at hT
   have n:=fC hi hT
   have W:=A6 (GR s (p+rune s p)++34::r)
   have Q:len T=i+(len (E9 (AX s p))+len (GR s (p+rune s p)++34::r)):=by rw[E,hT,AN]
   have k: ∀j,0<=j->j<len (E9 (AX s p))->A4 T (i+j)=A4 (E9 (AX s p)) j:=λ j a b=>by
    rw[<-OG T i j hi a,hT,IE a b]
   have q:toStr acc++A5 s p=toStr (acc++Lib.encodeRuneZ (AX s p))++A5 s (p+rune s p):=by
    rw[Y3,G,SL s p (p+rune s p) h0 Aa,List.append_assoc]
   have w:=λ(g:Nat) (hg:(len T-(i+len (E9 (AX s p)))).toNat<=g)=>pM (s:=s) (T:=T) (r:=r) g (p+rune s p) (i+len (E9 (AX s p))) (acc++Lib.encodeRuneZ (AX s p)) Aa hle (by have:=A6 (E9 (AX s p));omega) hu n hg
   rw[q,AN,show i+(len (E9 (AX s p))+len (GR s (p+rune s p)))+1=i+len (E9 (AX s p))+len (GR s (p+rune s p))+1 from by omega]
   by_cases hc:A4 s p<128
   ·obtain⟨X,h9⟩:=V hc
    have H:=LZ s p
    have tab:=AR1 ⟨(A4 s p).toNat,Aa⟩
    dsimp only at tab
    rw[show(((A4 s p).toNat:Nat):Int)=A4 s p from by omega]at tab
    rw[h9]at k hT w ⊢
    rcases tab with⟨D,z,J,q4⟩|⟨D,z,J⟩
    ·have K:len (E9 (A4 s p))=1:=by rw[D];rfl
     have h:A4 T i=A4 s p:=by
      have:=k 0 (Int.le_refl 0) Aa
      rw[Int.add_zero,D,G4]at this
      rw[this];exact KS H.1 Aa
     have A:=kM hi e Aa
     rw[A.1,A.2,h,if_neg Aa,if_neg Aa,if_neg Aa]
     rw[K]at w ⊢
     exact w _ Aa
    ·have hlp:=A6 (E9 (A4 s p))
     have h:A4 T i=92:=by
      have:=k 0 (Int.le_refl 0) Aa
      rw[Int.add_zero,D]at this;exact this
     have L:AX T i=92:=(JM hi e Aa).2 h
     have B:BW (A5 T i)=(A4 s p,len (E9 (A4 s p))):=by
      rw[<-z]
      refine oQ (by rw[z];exact J) (by rw[z,hT,AN];dsimp only;omega) (λ j a b=>?_)
      rw[z]at b
      rw[hT];exact IE a b
     rw[L,if_neg Aa,if_pos U,B,if_neg J]
     exact w _ Aa
   ·have R:=oL (P Aa)
    have C:len (E9 (AX s p))=rune s p:=by rw[R,G,FL h0 Aa hle];omega
    have l:=Y9 (s:=s) (s':=T) (i:=p) (i':=i) h0 hi Aa hp Aa (λ j a b=>by
     rw[k j a Aa,R,G,QB h0 a Aa hle])
    have X:=P Aa
    have M:=(Y4 hi e).2
    rw[l.2.1,l.2.2,F,if_neg Aa,if_neg Aa,if_neg (by
     rintro(x|x)
     ·omega
     ·have:=M (by rw[l.2.1,l.2.2,F];exact x)
      omega)]
    rw[C]at w ⊢
    exact w _ Aa
  ·rw[dS hp]at hT ⊢
   have h:A4 T i=34:=(YF hi hT).2
   rw[if_pos ((JM hi e Aa).2 h),Q2 s p Aa]
   simp[len_nil]
termination_by f p=>(len s-p).toNat
decreasing_by all_goals omega
theorem fI{s:A0}(h:CY s=true)(r:A0):B1 (E5 s++r)=(s,len (E5 s),0):=by
 have e:E5 s++r=34::(GR s 0++34::r):=by unfold E5;simp
 have hl:len (E5 s)=1+len (GR s 0)+1:=by unfold E5;rw[AN,AH];simp[len];omega
 rw[e,hl]
 unfold B1
 have hp:Lib.hasPrefix (34::(GR s 0++34::r)) [34]=true:=MP.2 ⟨by simp,rfl⟩
 rw[if_pos hp,pM (s:=s) (r:=r) _ 0 1 [] (Int.le_refl 0) (A6 s) Aa h U (by unfold len;simp;omega)]
 rfl
theorem pN{a b:A0}: ∀(j:Int),0<=j->GO b j=true->GO (a++b) (len a+j)=true
 |j,h0,h=>by
  have hl:=AN a b
  have l:=A6 a
  by_cases hj:j<len b
  ·by_cases hr:rune b j=0
   ·rw[TX b j h0 hj hr]at h;cases h
   have n:=M4 b j
   have hle:=rune_le b j hj
   rw[<-N6 b j h0 hj Aa]at h
   have e:=Y9 (s:=b) (s':=a++b) (i:=j) (i':=len a+j) h0 Aa Aa hj Aa (λ k x y=>by
    rw[show len a+j+k=len a+(j+k)from by omega,Y8 Aa])
   rw[<-N6 (a++b) (len a+j) Aa Aa (by rw[e.1];omega),e.1,Int.add_assoc]
   exact pN (j+rune b j) Aa h
  ·exact WE _ _ Aa
termination_by j=>(len b-j).toNat
theorem pO{a b:A0}(l:CY b=true): ∀(i:Int),0<=i->i<=len a->GO a i=true->GO (a++b) i=true
 |i,h0,h1,h=>by
  have hl:=AN a b
  have n:=A6 b
  by_cases hi:i<len a
  ·by_cases hr:rune a i=0
   ·rw[TX a i h0 hi hr]at h;cases h
   have q:=M4 a i
   have hle:=rune_le a i hi
   rw[<-N6 a i h0 hi Aa]at h
   have j:=Y9 (s:=a) (s':=a++b) (i:=i) (i':=i) h0 h0 Aa hi Aa (λ k x y=>IE Aa Aa)
   rw[<-N6 (a++b) i h0 Aa (by rw[j.1];omega),j.1]
   exact pO l (i+rune a i) Aa hle h
  ·have e:i=len a:=by omega
   subst e
   have:=pN (a:=a) (b:=b) 0 (Int.le_refl 0) l
   rwa [Int.add_zero]at this
termination_by i=>(len a-i).toNat
theorem YK{s:A0}(b:0<len s)(h:rune s 0=len s):CY s=true:=by
 unfold CY
 rw[<-N6 s 0 (Int.le_refl 0) b Aa]
 exact WE s (0+rune s 0) Aa
theorem AR2(r:Int):CY (toStr (Lib.encodeRuneZ r))=true:=by
 have b: ∀(x:UInt8) (l:A0),A4 (x::l) 0=(x.toNat:Int):=λ _ _=>rfl
 have e: ∀(x y:UInt8) (l:A0),A4 (x::y::l) (0+1)=(y.toNat:Int):=λ _ _ _=>rfl
 have h: ∀(x y z:UInt8) (l:A0),A4 (x::y::z::l) (0+2)=(z.toNat:Int):=λ _ _ _ _=>rfl
 have i: ∀(x y z u:UInt8) (l:A0),A4 (x::y::z::u::l) (0+3)=(u.toNat:Int):=λ _ _ _ _ _=>rfl
 have q: ∀(x:UInt8),len [x]=1:=λ _=>rfl
 have j: ∀(x y:UInt8),len [x,y]=2:=λ _ _=>rfl
 have k: ∀(x y z:UInt8),len [x,y,z]=3:=λ _ _ _=>rfl
 have n: ∀(x y z u:UInt8),len [x,y,z,u]=4:=λ _ _ _ _=>rfl
 unfold Lib.encodeRuneZ
 split
 ·refine YK (show(0:Int)<1 by decide) ?_
  show rune [UInt8.ofNat r.toNat] 0=1
  unfold rune
  rw[b,KS Aa Aa]
  dsimp only
  rw[if_pos Aa]
 split
 ·refine YK (show(0:Int)<2 by decide) ?_
  show rune [UInt8.ofNat (192+r/64).toNat,UInt8.ofNat (128+r%64).toNat] 0=2
  unfold rune cont
  rw[b,e,j,KS Aa Aa,KS Aa Aa]
  dsimp only
  simp only[Bool.and_eq_true,decide_eq_true_eq]
  rw[if_neg Aa,if_pos Aa]
 split
 ·refine YK (show(0:Int)<3 by decide) ?_
  show rune [UInt8.ofNat (224+r/4096).toNat,UInt8.ofNat (128+r/64%64).toNat,UInt8.ofNat (128+r%64).toNat] 0=3
  unfold rune cont
  rw[b,e,h,k,KS Aa Aa,KS Aa Aa,KS Aa Aa]
  dsimp only
  simp only[Bool.and_eq_true,Bool.or_eq_true,decide_eq_true_eq,beq_iff_eq]
  rw[if_neg Aa,if_neg Aa,if_pos Aa,if_neg Aa]
 split
 ·refine YK (show(0:Int)<4 by decide) ?_
  show rune [UInt8.ofNat (240+r/262144).toNat,UInt8.ofNat (128+r/4096%64).toNat,UInt8.ofNat (128+r/64%64).toNat,UInt8.ofNat (128+r%64).toNat] 0=4
  unfold rune cont
  rw[b,e,h,i,n,KS Aa Aa,KS Aa Aa,KS Aa Aa,KS Aa Aa]
  dsimp only
  simp only[Bool.and_eq_true,Bool.or_eq_true,decide_eq_true_eq,beq_iff_eq]
  rw[if_neg Aa,if_neg Aa,if_neg Aa,if_pos Aa,if_neg Aa]
 ·decide+kernel
theorem pP{acc:List Int}(h:CY (toStr acc)=true)(r:Int):CY (toStr (acc++Lib.encodeRuneZ r))=true:=by
 rw[Y3]
 exact pO (AR2 r) 0 (Int.le_refl 0) (A6 _) h
theorem SN:CY []=true:=by decide+kernel
theorem fJ{s:A0}: ∀(f:Nat) (i:Int) (acc:List Int),CY (toStr acc)=true->CY (DS f s i acc).1=true
 |0,_,_,_=>by unfold DS;exact SN
 |f+1,i,acc,h=>by
  unfold DS
  split
  ·split
   ·exact h
   ·split
    ·split
     ·exact SN
     ·exact fJ f _ _ (pP h _)
    ·split
     ·exact SN
     ·exact fJ f _ _ (pP h _)
  ·exact SN
theorem fK(s:A0):CY (B1 s).1=true:=by
 unfold B1
 split
 ·exact fJ _ _ _ SN
 ·exact SN
theorem pQ{s:A0}(h: ∀j:Int,0<=j->j<len s->A4 s j<128): ∀i:Int,0<=i->GO s i=true
 |i,h0=>by
  by_cases hi:i<len s
  ·have b:rune s i=1:=by unfold rune;dsimp only;rw[if_pos (h i h0 hi)]
   rw[<-N6 s i h0 hi Aa,b]
   exact pQ h (i+1) Aa
  ·exact WE _ _ hi
termination_by i=>(len s-i).toNat
theorem pR(s:A0): ∀j:Int,0<=j->j<len (B8 s)->CJ (A4 (B8 s) j) (j==0)=true:=λ j a b=>by
 have e:=MK (s:=s) (i:=0) (Int.le_refl 0) (A6 s)
 rw[ML]at b
 have:=(YA (s:=s) 0 (Int.le_refl 0)).1 j a b
 unfold B8
 rw[QB (Int.le_refl 0) a Aa e.2,Int.zero_add];exact this
theorem YL{s:A0}(h:B8 s≠[]):FZ (B8 s)=true:=V6.2 ⟨h,pR s⟩
theorem AR3{c:Int}{f:Bool}(h:CJ c f=true):c<128:=by
 rcases Int.lt_or_le c 128 with x|x
 ·exact x
 ·rw[zT x]at h;cases h
theorem pS(s:A0):CY (B8 s)=true:=pQ (λ j a b=>AR3 (pR s j a b)) 0 (Int.le_refl 0)
theorem AR4{s:A0}{t:Tk}{n:Int}(h:C0 s=(t,n,0)):HK t=true:=by
 have i:(B6=B6):=rfl
 unfold C0 at h
 split at h
 ·cases h;unfold HK;simp[pS]
 split at h
 ·simp only[Prod.mk.injEq]at h
  rw[<-h.1];unfold HK;simp[fK]
 split at h
 ·rename_i hm
  cases h
  rcases SD s with e|e
  ·exact absurd e hm
  ·unfold HK bK;simp[e.1]
 split at h
 ·rename_i hw
  cases h;unfold HK;simp[YL hw]
 split at h
 ·simp only[Prod.mk.injEq]at h
  rw[<-h.1];unfold HK;simp[fK]
 split at h
 ·split at h
  ·rename_i b
   simp only[Prod.mk.injEq]at h
   exact absurd h.2.2 b
  ·rename_i b
   cases h
   have:=(AQ1 (runN s)).1 (by simpa using b)
   unfold HK;simp[this]
 ·simp at h
def YM(r:A0):Prop:=r=[]\/ ∃q,r=32::q
theorem YM.stop {r:A0}(h:YM r)(v:A0):Stop v r:=by
 rcases h with rfl|⟨q,rfl⟩
 ·exact .inl U
 ·exact .inr (.inl ⟨by simp,rfl⟩)
theorem fL{s:A0}(h:FZ s=true){r:A0}(b:YM r):B8 (s++r)=s:=by
 have i:=V6.1 h
 have e:CX s 0=len s:=QE (Int.le_refl _) i.2 (λ x=>absurd x (Int.lt_irrefl _)) 0 (Int.le_refl 0) (A6 s)
 have e2:B8 (s++[])=s:=by rw[List.append_nil];unfold B8;rw[e];exact O5 s (len s) (Int.le_refl _)
 exact eW e2 (b.stop [])
theorem AR5{s:A0}(h:FZ s=true): ∃a q,s=a::q/\F7 (a.toNat:Int)=true:=by
 obtain⟨h1,b⟩:=V6.1 h
 cases s with
 |nil=>exact absurd U h1
 |cons a q=>
  have:=b 0 (Int.le_refl 0) (LF.1 h1)
  rw[G4]at this
  unfold CJ at this
  simp only[beq_self_eq_true,Bool.not_true,Bool.false_and,Bool.or_false]at this
  exact⟨a,q,rfl,this⟩
theorem AR6: ∀m∈GG,C0 (m++[])=(⟨1,m,B6,0⟩,len m,0):=by decide+kernel
theorem YN(s:A0): ∃q,E5 s=34::q:=⟨_,rfl⟩
theorem AR7{t:Tk}(h:HK t=true){r:A0}(B:YM r):C0 (SE t++r)=({ t with pos:=0},len (SE t),0)/\SE t≠[]:=by
 obtain⟨kind,s,c,pos⟩:=t
 unfold HK at h
 unfold SE
 dsimp only at h ⊢
 split at h
 ·rename_i i
  simp only[beq_iff_eq]at i
  simp only[Bool.and_eq_true,decide_eq_true_eq]at h
  subst i
  obtain⟨h1,rfl⟩:=h
  unfold bK at h1
  have hm:s∈GG:=by simpa using h1
  have k:s≠[]:=by
   have: ∀m∈GG,m≠[]:=by decide
   exact this s hm
  rw[if_neg Ab,if_neg Ab,if_neg Ab]
  exact⟨eZ k (AR6 s hm) (B.stop []),k⟩
 split at h
 ·rename_i i
  simp only[beq_iff_eq]at i
  simp only[Bool.and_eq_true,decide_eq_true_eq]at h
  subst i
  obtain⟨h1,rfl⟩:=h
  obtain⟨a,q,C,l⟩:=AR5 h1
  have hw:=fL h1 B
  have k:s≠[]:=by rw[C];simp
  rw[if_neg Ab,if_neg Ab,if_neg Ab]
  refine⟨?_,k⟩
  have n:A4 (s++r) 0=(a.toNat:Int):=by rw[C];rfl
  have j: ¬(a.toNat:Int)=46:=λ e=>by rw[e]at l;cases l
  have hm:EU (s++r)=[]:=by rw[C];exact QH (eX l)
  unfold C0
  rw[n,if_neg (λ x=>j x.1),if_neg (λ x=>j x.1),hm,if_neg (λ x=>x U),hw,if_pos k]
 split at h
 ·rename_i i
  simp only[Bool.or_eq_true,beq_iff_eq]at i
  simp only[Bool.and_eq_true,decide_eq_true_eq]at h
  obtain⟨h1,rfl⟩:=h
  obtain⟨q,y⟩:=YN s
  have hu:=fI h1 r
  rcases i with rfl|rfl
  ·rw[if_pos U]
   by_cases hw: ¬B8 s=s\/s=[]
   ·rw[if_pos hw]
    refine⟨?_,by simp⟩
    have w:B8 (E5 s++r)=[]:=by rw[y];exact LG U
    have hp:Lib.hasPrefix (E5 s++r) [34]=true:=by rw[y];exact MP.2 ⟨by simp,rfl⟩
    unfold C0
    rw[List.cons_append,G4,V8,w,if_neg (λ x=>x.2 U),if_pos ⟨rfl,hp⟩,hu,AH]
    simp only[Prod.mk.injEq,true_and,and_true];omega
   ·rw[if_neg hw]
    simp only[not_or,Classical.not_not]at hw
    refine⟨?_,by simp⟩
    have J:FZ s=true:=by rw[<-hw.1];exact YL (by rw[hw.1];exact hw.2)
    have D:=fL J B
    unfold C0
    rw[List.cons_append,G4,V8,D,if_pos ⟨rfl,hw.2⟩,AH]
    simp only[Prod.mk.injEq,true_and,and_true];omega
  ·rw[if_neg Ab,if_pos U]
   refine⟨?_,by rw[y];simp⟩
   have n:A4 (E5 s++r) 0=34:=by rw[y];rfl
   have w:B8 (E5 s++r)=[]:=LG (by rw[n];rfl)
   have E:EU (E5 s++r)=[]:=by rw[y];exact QH U
   unfold C0
   rw[n,if_neg (λ x=>absurd x.1 Ab),if_neg (λ x=>absurd x.1 Ab),E,if_neg (λ x=>x U),w,if_neg (λ x=>x U),if_pos U,hu]
 split at h
 ·rename_i i
  simp only[beq_iff_eq]at i
  simp only[Bool.and_eq_true,beq_iff_eq]at h
  subst i
  obtain⟨rfl,h1⟩:=h
  rw[if_neg Ab,if_neg Ab,if_pos U]
  obtain⟨p1,⟨g,q,hg,F⟩,p3⟩:=AP8 h1
  obtain⟨a,H,l,b⟩: ∃a H,IC c=a::H/\((a.toNat:Int)=45\/C1 (a.toNat:Int)=true):=by
   rw[hg]
   cases c.neg with
   |true=>exact⟨45,g::q,rfl,.inl U⟩
   |false=>exact⟨g,q,rfl,.inr F⟩
  have k:IC c≠[]:=by rw[l];simp
  refine⟨?_,k⟩
  have z:runN (IC c++r)=IC c:=by
   have e:runN (IC c++[])=IC c:=by
    rw[XO,List.append_nil];exact oP p3
   exact oV e (B.stop [])
  have n:A4 (IC c++r) 0=(a.toNat:Int):=by rw[l];rfl
  obtain⟨g1,g2⟩:=oW b
  have hm:EU (IC c++r)=[]:=by rw[l];exact QH g1
  have hw:B8 (IC c++r)=[]:=LG (by rw[n];exact g2)
  have A: ¬(a.toNat:Int)=46:=λ e=>by rw[e]at b;revert b;decide
  have G: ¬(a.toNat:Int)=34:=λ e=>by rw[e]at b;revert b;decide
  unfold C0
  rw[n,if_neg (λ x=>A x.1),if_neg (λ x=>A x.1),hm,if_neg (λ x=>x U),hw,if_neg (λ x=>x U),if_neg G,if_pos b,z,p1,if_neg (by simp)]
 ·cases h
theorem Lx.HK {s:A0}{i:Int}{l:List Tk}(h:Lx s i l): ∀t∈l,Eng.HK t=true:=by
 induction h with
 |done _ _=>intro t b;cases b
 | @step i n t l _ _ h _ ih=>
  intro e b
  rcases List.mem_cons.1 b with rfl|b
  ·have:Eng.HK t=true:=AR4 h
   exact this
  ·exact ih e b
theorem AR8(r:Int):len (Lib.encodeRuneZ r)<=4:=by
 unfold Lib.encodeRuneZ
 repeat' split
 all_goals (unfold len;simp)
theorem fM{s:A0}: ∀(f:Nat) (i:Int) (acc:List Int),0<=i->i<=len s->len (DS f s i acc).1<=len acc+4*(len s-i)
 |0,i,acc,h0,h1=>by unfold DS;have:=A6 acc;rw[len_nil];omega
 |f+1,i,acc,h0,h1=>by
  have h:=A6 acc
  have j:len ([]:A0)=0:=rfl
  have he:=AR8
  unfold DS
  split
  ·rename_i b
   have k:=ED s i h0 h1
   split
   ·have:len (toStr acc)=len acc:=by unfold toStr len;simp
    dsimp only;omega
   ·split
    ·have e:=XW (A5 s i)
     split
     ·dsimp only;omega
     ·have:=fM (s:=s) f (i+(BW (A5 s i)).2) (acc++Lib.encodeRuneZ (BW (A5 s i)).1) Aa Aa
      have:=he (BW (A5 s i)).1
      rw[AN]at*
      omega
    ·split
     ·dsimp only;omega
     ·have e:=eB h0 b
      rw[Q7 s i h0]
      have:=fM (s:=s) f (i+runeLen s i) (acc++Lib.encodeRuneZ (AX (A5 s i) 0)) Aa Aa
      have:=he (AX (A5 s i) 0)
      rw[AN]at*
      omega
  ·dsimp only;omega
theorem fN(s:A0):len (B1 s).1<=4*len s:=by
 have:=A6 s
 unfold B1
 split
 ·rename_i h
  have h1:(1:Int)<=len s:=XY h
  have:=fM (s:=s) s.length 1 [] Aa h1
  rw[len_nil]at this;omega
 ·show len ([]:A0)<=_
  rw[len_nil];omega
def EL(s:A0)(i:Int):A0:=((A5 s i).takeWhile CP).take 7
def H8(s:A0)(i:Int):Int×Int:=
 if EL s i=[]\/(A4 s i=48/\1<len (EL s i))\/1000000<CK (EL s i)then(-1,i)else(CK (EL s i),i+len (EL s i))
def OM:Sp:=⟨false,[],0⟩
def MQ(s:A0)(i j:Int):Sp×Int:=
 if len s<=j\/A4 s j≠91 then(OM,i)
 else if(H8 s (j+1)).1<0\/len s<=(H8 s (j+1)).2\/A4 s (H8 s (j+1)).2≠93 then(OM,i)
 else(⟨true,[],(H8 s (j+1)).1⟩,(H8 s (j+1)).2+1)
def D9(s:A0)(i:Int)(first:Bool):Sp×Int:=
 if i<len s/\A4 s i=46 then
  if B8 (A5 s (i+1))≠[]then(⟨false,B8 (A5 s (i+1)),0⟩,i+1+len (B8 (A5 s (i+1))))
  else if(B1 (A5 s (i+1))).2.2=0/\FZ (B1 (A5 s (i+1))).1=false/\NH (B1 (A5 s (i+1))).1=Eng.sub s (i+1) (i+1+(B1 (A5 s (i+1))).2.1)then(⟨false,(B1 (A5 s (i+1))).1,0⟩,i+1+(B1 (A5 s (i+1))).2.1)
  else if first=false then(OM,i)else MQ s i (i+1)
 else if first then(OM,i)else MQ s i i
def FN:Nat->A0->List Sp->Int->List Sp×Int
 |0,_,p,i=>(p,i)
 |f+1,s,p,i=>if(D9 s i (p.isEmpty)).2=i then(p,i)else FN f s (p++[(D9 s i (p.isEmpty)).1]) (D9 s i (p.isEmpty)).2
def EM(s:A0)(i:Int):List Sp×Int:=if(FN 20 s [] i).1=[]/\i<len s/\A4 s i=46 then([],i+1)else FN 20 s [] i
def CQ(s:A0):List Sp×Int×Int:=
 if s=[46]then((EM s 0).1,0,0)else if(EM s 0).1=[]then([],0,1)else if(EM s 0).2<len s then([],(EM s 0).2,1)else((EM s 0).1,0,0)
def KT(s:A0):Bool:=(CQ s).2.2==0
def Sp.B2 (x:Sp):Prop:=(x.part=true->x.name=[]/\0<=x.n/\x.n<=1000000)/\(x.part=false->x.n=0/\CY x.name=true)
def Sp.CR (x:Sp):A0:=if x.part then [91]++Lib.itoa x.n++[93]else [46]++F0 x.name
def DM(p:List Sp):A0:=(if p=[]\/(at' p 0).part=true then [46]else [])++(p.map Sp.CR).flatten
theorem AR9{s:A0}:FZ s=Q9 s:=by
 unfold Q9
 by_cases h:s=[]
 ·subst h;decide+kernel
 ·by_cases hw:FZ s=true
  ·rw[hw]
   have:=fL hw (r:=[]) (.inl U)
   rw[List.append_nil]at this
   rw[this];simp[h]
  ·rw[Bool.eq_false_iff.2 hw]
   symm
   rw[Bool.and_eq_false_iff];right
   rw[beq_eq_false_iff_ne]
   intro e
   exact hw (by rw[<-e];exact YL (by rw[e];exact h))
theorem QI(a:A0)(c:UInt8):CK (a++[c])=CK a*10+((c.toNat:Int)-48):=by unfold CK;rw[List.foldl_append];rfl
theorem fO{α:Type}{p:List α->Prop}(h0:p [])(hs: ∀a c,p a->p (a++[c]))(l:List α):p l:=by
 rw[<-List.reverse_reverse l]
 induction l.reverse with
 |nil=>exact h0
 |cons c a ih=>rw[List.reverse_cons];exact hs _ _ ih
theorem pT{g:A0}(h:CH g):0<=CK g:=by
 induction g using fO with
 |h0=>exact Int.le_refl _
 |hs a c i=>
  rw[QI]
  have:=i λ b j=>h b (by simp[j])
  have e:=h c (by simp)
  unfold CP C1 at e
  simp only[Bool.and_eq_true,decide_eq_true_eq]at e
  omega
theorem AS0{g:A0}(h:CH g)(s:g≠[])(w: ¬(A4 g 0=48/\1<len g)):Lib.itoa (CK g)=g:=by
 induction g using fO with
 |h0=>exact absurd U s
 |hs a c y=>
  have l:=h c (by simp)
  unfold CP C1 at l
  simp only[Bool.and_eq_true,decide_eq_true_eq]at l
  have n:CH a:=λ b z=>h b (by simp[z])
  have h0:=pT n
  rw[dY (by rw[QI];omega),QI]
  have j:toStr [48+(CK a*10+((c.toNat:Int)-48))%10]=[c]:=by
   have:48+(CK a*10+((c.toNat:Int)-48))%10=(c.toNat:Int):=by omega
   rw[this,dX _ c.toNat Aa,UInt8.ofNat_toNat]
  rw[j]
  congr 1
  by_cases he:a=[]
  ·subst he
   have:CK []=0:=rfl
   rw[if_neg Aa]
  ·have hl:=GM he
   have i: ¬A4 a 0=48:=λ e=>w ⟨by rw[IE (Int.le_refl 0) hl];exact e,by rw[AN];have:len [c]=1:=rfl;omega⟩
   have h1:=y n he (λ e=>i e.1)
   have q:0<CK a:=by
    rcases Int.lt_or_eq_of_le h0 with k|k
    ·exact k
    ·exfalso
     rw[<-k]at h1
     have:Lib.itoa 0=[48]:=by decide+kernel
     rw[this]at h1
     rw[<-h1]at i
     exact i U
   rw[if_pos Aa,show(CK a*10+((c.toNat:Int)-48))/10=CK a by omega,h1]
theorem AS1(s:A0)(i:Int):CH (EL s i):=λ b e=>by
 unfold EL at e
 have:=List.mem_of_mem_take e
 exact List.all_eq_true.1 List.all_takeWhile b this
theorem pU(s:A0)(i:Int): ∃r,A5 s i=EL s i++r:=by
 have h1:=List.takeWhile_prefix CP (l:=A5 s i)
 have b:=List.take_prefix 7 ((A5 s i).takeWhile CP)
 obtain⟨r,e⟩:=b.trans h1
 exact⟨r,e.symm⟩
theorem pV{s:A0}{i j:Int}{x:Sp}{zz:Int}(h0:0<=i)(K:i<=j)(h:MQ s i j=(x,zz))(D:zz≠i):x.B2/\x.part=true/\A5 s j=x.CR++A5 s zz/\j<zz/\zz<=len s:=by
 unfold MQ at h
 split at h
 ·simp only[Prod.mk.injEq]at h;omega
 ·rename_i h1
  split at h
  ·simp only[Prod.mk.injEq]at h;omega
  ·rename_i b
   simp only[Prod.mk.injEq]at h
   obtain⟨rfl,rfl⟩:=h
   have l: ¬(EL s (j+1)=[]\/(A4 s (j+1)=48/\1<len (EL s (j+1)))\/1000000<CK (EL s (j+1))):=by
    intro E
    unfold H8 at b
    rw[if_pos E]at b
    exact b (.inl (by show(-1:Int)<0;omega))
   unfold H8 at b ⊢
   rw[if_neg l]at b ⊢
   dsimp only at b ⊢
   have B:=AS1 s (j+1)
   obtain⟨r,n⟩:=pU s (j+1)
   have k:EL s (j+1)≠[]:=λ e=>l (.inl e)
   have q:=GM k
   have F:A4 (EL s (j+1)) 0=A4 s (j+1):=by
    have C:A4 (A5 s (j+1)) 0=A4 s (j+1+0):=OG s (j+1) 0 Aa (Int.le_refl 0)
    rw[n,IE (Int.le_refl 0) q,Int.add_zero]at C;exact C
   have hi:=AS0 B k (λ e=>l (.inr (.inl ⟨by rw[<-F];exact e.1,e.2⟩)))
   have hd:=pT B
   have w:j+1+len (EL s (j+1))<len s:=by omega
   refine⟨⟨λ _=>⟨rfl,hd,by show CK _<=_;omega⟩,(λ e=>by cases e)⟩,rfl,?_,Aa,Aa⟩
   show _=[91]++Lib.itoa (CK (EL s (j+1)))++[93]++_
   rw[hi]
   obtain⟨G,H,e2⟩:=KL s j Aa Aa
   obtain⟨J,e3,e4⟩:=KL s (j+1+len (EL s (j+1))) Aa w
   have y:G=91:=UInt8.toNat_inj.1 (by have:(91:UInt8).toNat=91:=rfl;omega)
   have z:J=93:=UInt8.toNat_inj.1 (by have:(93:UInt8).toNat=93:=rfl;omega)
   have A:r=A5 s (j+1+len (EL s (j+1))):=by
    rw[<-KO s (j+1) _ Aa Aa,n,QD]
   rw[H,y,n,A,e3,z]
   simp
theorem AS2(s:A0):s=B8 s++A5 s (len (B8 s)):=by
 have b:=UW s
 have:=eT (s:=s) (n:=len (B8 s)) b.1 b.2
 have e:Eng.sub s 0 (len (B8 s))=B8 s:=by rw[ML];rfl
 rw[e]at this;exact this.1
theorem pW{s:A0}{i:Int}{first:Bool}{x:Sp}{zz:Int}(h0:0<=i)(h:D9 s i first=(x,zz))(j:zz≠i):
  x.B2/\A5 s i=(if first&&x.part then [46]else [])++(x.CR++A5 s zz)/\i<zz/\zz<=len s:=by
 unfold D9 at h
 split at h
 ·rename_i h1
  obtain⟨z,l,e2⟩:=KL s i h0 h1.1
  have n:z=46:=UInt8.toNat_inj.1 (by have:(46:UInt8).toNat=46:=rfl;omega)
  subst n
  have hl:=ED s (i+1) Aa Aa
  split at h
  ·rename_i y
   simp only[Prod.mk.injEq]at h
   obtain⟨rfl,rfl⟩:=h
   have q:=UW (A5 s (i+1))
   refine⟨⟨(λ e=>by cases e),λ _=>⟨rfl,pS _⟩⟩,?_,Aa,Aa⟩
   show _=(if first&&false then [46]else [])++(([46]++F0 (B8 (A5 s (i+1))))++_)
   rw[Bool.and_false,if_neg Ab]
   unfold F0
   rw[if_pos (YL y),l,<-KO s (i+1) _ Aa q.1]
   conv=>lhs;rw[AS2 (A5 s (i+1))]
   simp
  ·split at h
   ·rename_i w
    simp only[Prod.mk.injEq]at h
    obtain⟨rfl,rfl⟩:=h
    have q:=OH (A5 s (i+1))
    have y:=q.2.2.1 w.1
    refine⟨⟨(λ e=>by cases e),λ _=>⟨rfl,fK _⟩⟩,?_,Aa,Aa⟩
    show _=(if first&&false then [46]else [])++(([46]++F0 (B1 (A5 s (i+1))).1)++_)
    rw[Bool.and_false,if_neg Ab]
    unfold F0
    rw[w.2.1,if_neg Ab,w.2.2,l]
    have k:=SL s (i+1) (i+1+(B1 (A5 s (i+1))).2.1) Aa Aa
    generalize (B1 (A5 s (i+1))).2.1=m at k ⊢
    conv=>lhs;rw[k]
    simp
   ·split at h
    ·simp only[Prod.mk.injEq]at h;omega
    ·rename_i b
     have b:first=true:=by simpa using b
     subst b
     obtain⟨g1,g2,g3,g4,g5⟩:=pV h0 Aa h j
     refine⟨g1,?_,Aa,g5⟩
     rw[g2,l,g3];rfl
 ·split at h
  ·simp only[Prod.mk.injEq]at h;omega
  ·rename_i b
   obtain⟨g1,g2,g3,g4,g5⟩:=pV h0 (Int.le_refl i) h j
   refine⟨g1,?_,g4,g5⟩
   rw[g3]
   have b:first=false:=by simpa using b
   rw[b];rfl
theorem AS3(p:List Sp)(x:Sp):DM (p++[x])=if p=[]then(if x.part then [46]else [])++x.CR else DM p++x.CR:=by
 unfold DM
 cases p with
 |nil=>simp[at']
 |cons a p=>simp[at']
theorem pX{s:A0}: ∀(f:Nat) (p:List Sp) (i:Int) (p2:List Sp) (i2:Int),0<=i->i<=len s->FN f s p i=(p2,i2)->(∀x∈p,x.B2)->(p≠[]->s=DM p++A5 s i)->(p=[]->i=0)->
  (∀x∈p2,x.B2)/\p2.length<=p.length+f/\0<=i2/\i2<=len s/\(p2≠[]->s=DM p2++A5 s i2)/\(p2=[]->i2=0)
 |0,p,i,p2,i2,h0,h1,h,hp,b,hi=>by
  rw[FN]at h
  simp only[Prod.mk.injEq]at h;obtain⟨rfl,rfl⟩:=h
  exact⟨hp,Aa,h0,h1,b,hi⟩
 |f+1,p,i,p2,i2,h0,h1,h,hp,b,hi=>by
  rw[FN]at h
  split at h
  ·simp only[Prod.mk.injEq]at h;obtain⟨rfl,rfl⟩:=h
   exact⟨hp,Aa,h0,h1,b,hi⟩
  ·rename_i j
   obtain⟨g1,g2,g3,g4⟩:=pW h0 (x:=(D9 s i p.isEmpty).1) (zz:=(D9 s i p.isEmpty).2) rfl j
   have:=pX f _ _ p2 i2 Aa g4 h (λ x hx=>by
    rcases List.mem_append.1 hx with hx|hx
    ·exact hp x hx
    ·rw[List.mem_singleton.1 hx];exact g1) (λ _=>by
     rw[AS3]
     by_cases hpe:p=[]
     ·subst hpe
      have:=hi U
      subst this
      rw[if_pos U,List.append_assoc]
      exact g2
     ·rw[if_neg hpe,List.append_assoc]
      have he:p.isEmpty=false:=by cases p with|nil=>exact absurd rfl hpe|cons a p=>rfl
      rw[he]at g2 ⊢
      have:=b hpe
      rw[g2]at this
      exact this) (λ e=>by simp at e)
   refine⟨this.1,?_,this.2.2⟩
   have k:=this.2.1
   rw[List.length_append,List.length_singleton]at k;omega
theorem pY{s:A0}(h:KT s=true): ∃p:List Sp,p.length<=20/\(∀x∈p,x.B2)/\s=DM p/\(CQ s).1=p:=by
 unfold KT CQ at h
 unfold CQ
 obtain⟨g1,g2,g3,g4,g5,g6⟩:=pX (s:=s) 20 [] 0 (FN 20 s [] 0).1 (FN 20 s [] 0).2 (Int.le_refl 0) (A6 s) rfl (λ x hx=>by cases hx) (λ e=>absurd rfl e) (λ _=>rfl)
 have hp:(EM s 0).1=(FN 20 s [] 0).1:=by
  unfold EM
  split
  ·rename_i h1;exact h1.1.symm
  ·rfl
 split at h
 ·rename_i h1
  subst h1
  rw[if_pos U]
  exact⟨[],Ab,(λ x hx=>by cases hx),Ab,Ac⟩
 ·rename_i h1
  rw[if_neg h1]
  split at h
  ·exact absurd h (show ¬((1:Int)==0)=true by decide)
  ·rename_i b
   rw[if_neg b]
   split at h
   ·exact absurd h (show ¬((1:Int)==0)=true by decide)
   ·rename_i i
    rw[if_neg i]
    rw[hp]at b ⊢
    have j:EM s 0=FN 20 s [] 0:=by
     unfold EM
     rw[if_neg (λ e=>b e.1)]
    rw[j]at i
    refine⟨_,by simpa using g2,g1,?_,rfl⟩
    have:=g5 b
    rw[Q2 _ _ Aa,List.append_nil]at this
    exact this
def EE(t:Tm):Bool:=decide (16<=t.op)&&decide (t.op<=19)
def EV(t:Tm):Tm:=⟨t.op,t.many,t.name,[],0,B6⟩
def KU(n:Nd):Nd:= { n with name:=[]}
def DT(n:Nd):Bool:=
 if n.kind=0\/n.kind=1\/n.kind=2 then decide (KU n=⟨n.kind,0,[],[],false,0⟩)
 else if n.kind=3 then JC (KU n)
 else if n.kind=4 then CY n.s&&decide (KU n=⟨n.kind,0,[],n.s,false,0⟩)
 else if n.kind=5\/n.kind=6 then decide (0<=n.many)&&decide (KU n=⟨n.kind,n.many,[],[],false,0⟩)
 else false
def MR(c:Nd):Bool:=decide (c.kind<5)&&(decide (c.name=[])&&decide (c.many=0)&&DT c)
def DN(t:Tm):Bool:=
 if t.op=0\/t.op=10\/t.op=11\/t.op=14 then decide (t=EV t)&&decide (t.many=0)
 else if t.op=1 then decide (t= { EV t with s:=t.s})&&decide (t.many=0)&&CY t.s
 else if t.op=2\/t.op=3 then decide (t= { EV t with n:=t.n})&&decide (t.many=0)&&decide (0<=t.n)&&decide (t.n<=1000000)
 else if t.op=4\/t.op=17\/t.op=18 then decide (t=EV t)&&decide (t.many=2)
 else if t.op=5\/t.op=6\/t.op=7\/t.op=19 then decide (t=EV t)&&decide (t.many=1)
 else if t.op=8\/t.op=9 then decide (t=EV t)&&decide (0<=t.many)
 else if t.op=12\/t.op=13\/t.op=15 then decide (t= { EV t with s:=t.s})&&decide (t.many=0)&&KT t.s
 else if t.op=16 then decide (t= { EV t with s:=t.s,n:=t.n,c:=t.c})&&decide (t.many=0)&&KT t.s&&decide (0<=t.n)&&decide (t.n<=5)&&MR t.c
 else false
def LI(t:Tm)(dn:List Tf)(x:Tf):Bool:=
 if(EE x.t != (EE t||t.op==7))||(t.op==4&&dn.isEmpty&&x.t.op==4)then false
 else if(t.op≠8/\x.t.name≠[])\/(t.op=8/\(CY x.t.name=false\/x.t.name∈dn.map (·.t.name)))then false
 else true
def GB(t:Tm):List Tf->List Tf->Bool
 |_,[]=>true
 |dn,x::r=>LI t dn x&&GB t (dn++[x]) r
mutual
def Tf.JN:Tf->Bool
 | .mk t ps=>DN { t with many:=len ps}&&GB t [] ps&&HU ps
def HU:List Tf->Bool
 |[]=>true
 |x::l=>x.JN&&HU l
end
theorem AS4(a b:List Tf):HU (a++b)=(HU a&&HU b):=by
 induction a with
 |nil=>simp[HU]
 |cons x a e=>rw[List.cons_append,HU,HU,e,Bool.and_assoc]
theorem AS5{l:List Tf}(h:HU l=true): ∀x∈l,x.JN=true:=by
 induction l with
 |nil=>intro x hx;cases hx
 |cons y l b=>
  rw[HU,Bool.and_eq_true]at h
  intro x hx
  rcases List.mem_cons.1 hx with rfl|hx
  ·exact h.1
  ·exact b h.2 x hx
structure Tf.B2 (x:Tf):Prop where
 zm:x.zm
 ok:x.JN=true
theorem Tf.B2.kids {x:Tf}(h:x.B2): ∀y∈x.ps,y.B2:=by
 obtain⟨t,ps⟩:=x
 obtain⟨h1,b⟩:=h
 rw[Tf.zm]at h1
 rw[Tf.JN,Bool.and_eq_true]at b
 exact λ y e=>⟨Y2.1 h1.2 y e,AS5 b.2 y e⟩
theorem pZ{t:Tm}: ∀ {r dn:List Tf},GB t dn r=true-> ∀(a:List Tf) (x:Tf) (b:List Tf),r=a++x::b->LI t (dn++a) x=true
 |[],dn,_,a,x,b,e=>by cases a<;>cases e
 |y::r,dn,h,a,x,b,e=>by
  rw[GB,Bool.and_eq_true]at h
  cases a with
  |nil=>obtain⟨rfl,rfl⟩:=List.cons.inj e;rw[List.append_nil];exact h.1
  |cons z a=>
   obtain⟨rfl,e2⟩:=List.cons.inj e
   have:=pZ h.2 a x b e2
   rwa [List.append_assoc]at this
structure qA (t:Tm) (dn:List Tf) (x:Tf):Prop where
 c:EE x.t=(EE t||t.op==7)
 p:t.op=4->dn=[]->x.t.op≠4
 n:t.op≠8->x.t.name=[]
 u:t.op=8->CY x.t.name=true
 d:t.op=8->x.t.name ∉ dn.map (·.t.name)
theorem AS6{t:Tm}{dn:List Tf}{x:Tf}(h:LI t dn x=true):qA t dn x:=by
 unfold LI at h
 split at h
 ·cases h
 ·rename_i h1
  split at h
  ·cases h
  ·rename_i b
   simp only[Bool.or_eq_true,bne_iff_ne,ne_eq,Bool.and_eq_true,beq_iff_eq,not_or,Decidable.not_not,not_and]at h1
   refine⟨?_,λ i e2 e3=>h1.2 ⟨i,by rw[e2];rfl⟩ e3,λ e=>?_,λ e=>?_,λ e hm=>b (.inr ⟨e,.inr hm⟩)⟩
   ·rw[h1.1]
   ·by_cases hn:x.t.name=[]
    ·exact hn
    ·exact absurd (.inl ⟨e,hn⟩) b
   ·cases hu:CY x.t.name with
    |true=>rfl
    |false=>exact absurd (.inr ⟨e,.inl hu⟩) b
theorem Tf.B2.HV {x:Tf}(h:x.B2)(a:List Tf)(y:Tf)(b:List Tf)(e:x.ps=a++y::b):qA x.t a y:=by
 obtain⟨t,ps⟩:=x
 have i:=h.ok
 rw[Tf.JN,Bool.and_eq_true,Bool.and_eq_true]at i
 have:=pZ i.1.2 a y b e
 exact AS6 this
theorem Tf.B2.plain {x:Tf}(h:x.B2):DN x.node=true:=by
 obtain⟨t,ps⟩:=x
 have b:=h.ok
 rw[Tf.JN,Bool.and_eq_true,Bool.and_eq_true]at b
 exact b.1.1
def AS7(v:Fl):Prop:= ∃x:Tf,x.zm/\v=x.flat/\x.t.name=[]/\x.JN=true
open Classical in
noncomputable def LK (v:Fl):Bool:=decide (AS7 v)
noncomputable def fP (v:Fl):Bool:=LK v&& !EE (at' v 0)
def ON(t:Tm):Bool:=decide (len t.s<=100)&&decide (len t.name<=100)&&decide (len t.c.s<=100)
noncomputable def QJ (v:Fl) (m:Int):Bool:=decide (len v<=m)&&v.all ON&&fP v
open Classical in
theorem AS8{x:Tf}(b:x.zm)(i:x.t.name=[]):LK x.flat=x.JN:=by
 unfold LK
 cases h:x.JN with
 |true=>exact decide_eq_true ⟨x,b,rfl,i,h⟩
 |false=>
  refine decide_eq_false ?_
  rintro⟨y,h1,j,k,e⟩
  rw[<-Tf.AM3 b h1 j,h]at e;cases e
open Classical in
theorem qB{v:Fl}(h:v=[]\/(at' v 0).name≠[]\/G2 v 0≠len v):LK v=false:=by
 unfold LK
 refine decide_eq_false ?_
 rintro⟨x,h1,rfl,b,e⟩
 rcases h with h|h|h
 ·exact x.SH h
 ·rw[x.BA]at h;exact h b
 ·exact h (o9 x)
theorem AS9{v:Fl}{m:Int}(h:QJ v m=true): ∃x:Tf,x.B2/\v=x.flat/\x.t.name=[]/\EE x.t=false/\len v<=m/\ ∀t∈v,len t.s<=100/\len t.name<=100/\len t.c.s<=100:=by
 unfold QJ fP LK at h
 simp only[Bool.and_eq_true,decide_eq_true_eq,Bool.not_eq_true',List.all_eq_true]at h
 obtain⟨⟨h1,e⟩,⟨x,i,rfl,j,k⟩,b⟩:=h
 refine⟨x,⟨i,k⟩,rfl,j,?_,h1,λ t l=>?_⟩
 ·rw[x.BA]at b;exact b
 ·have:=e t l
  unfold ON at this
  simp only[Bool.and_eq_true,decide_eq_true_eq]at this
  exact⟨this.1.1,this.1.2,this.2⟩
def BM6(c:Nd):A0:=if c.kind=0 then V1 else if c.kind=1 then UZ else if c.kind=2 then UY else if c.kind=3 then IC c else NH c.s
abbrev Vl:=List Nd
def YO(n:A0)(v:Vl):Vl:=match v with
 |[]=>[]
 |x::r=> { x with name:=n}::r
inductive Tr where
 |mk (n:Nd) (ps:List Tr)
mutual
def Tr.flat:Tr->List Nd
 | .mk n ps=>n::F1 ps
def F1:List Tr->List Nd
 |[]=>[]
 |t::ts=>t.flat++F1 ts
end
def Tr.node:Tr->Nd| .mk n _=>n
def Tr.parts:Tr->List Tr| .mk _ ps=>ps
mutual
def Tr.size:Tr->Nat
 | .mk _ ps=>1+C3 ps
def C3:List Tr->Nat
 |[]=>0
 |t::ts=>t.size+C3 ts
end
mutual
theorem Tr.BR:(t:Tr)->t.flat.length=t.size
 | .mk n ps=>by rw[Tr.flat,Tr.size,List.length_cons,YP ps];omega
theorem YP:(l:List Tr)->(F1 l).length=C3 l
 |[]=>rfl
 |t::ts=>by rw[F1,C3,List.length_append,Tr.BR t,YP ts]
end
theorem fQ(a b:List Tr):C3 (a++b)=C3 a+C3 b:=by
 induction a with
 |nil=>simp[C3]
 |cons x a e=>rw[List.cons_append,C3,C3,e];omega
theorem Tr.size_pos (t:Tr):1<=t.size:=by cases t;rw[Tr.size];omega
theorem IX(l:List Tr):len l<=C3 l:=by
 induction l with
 |nil=>exact Int.le_refl _
 |cons t l b=>rw[AH,C3];have:=t.size_pos;omega
def EN(v:List Nd)(i:Int)(t:Tr):Prop:=0<=i/\ ∃pre post,v=pre++(t.flat++post)/\len pre=i
def DU(v:List Nd)(i:Int)(l:List Tr):Prop:=0<=i/\ ∃pre post,v=pre++(F1 l++post)/\len pre=i
theorem EN.head {v:List Nd}{i:Int}{n:Nd}{ps:List Tr}(h:EN v i (.mk n ps)):0<=i/\i<len v/\at' v i=n:=by
 obtain⟨h0,pre,post,rfl,rfl⟩:=h
 refine⟨h0,?_,?_⟩
 ·rw[Tr.flat];unfold len;simp only[List.length_append,List.length_cons];omega
 ·rw[Tr.flat];unfold at';unfold len;simp
theorem EN.kids {v:List Nd}{i:Int}{n:Nd}{ps:List Tr}(h:EN v i (.mk n ps)):DU v (i+1) ps:=by
 obtain⟨h0,pre,post,rfl,rfl⟩:=h
 exact⟨Aa,pre++[n],post,by rw[Tr.flat];simp,by unfold len;simp⟩
theorem DU.first {v:List Nd}{i:Int}{t:Tr}{ts:List Tr}(h:DU v i (t::ts)):EN v i t:=by
 obtain⟨h0,pre,post,rfl,rfl⟩:=h
 exact⟨h0,pre,F1 ts++post,by rw[F1];simp,rfl⟩
theorem DU.rest {v:List Nd}{i:Int}{t:Tr}{ts:List Tr}(h:DU v i (t::ts)):DU v (i+t.size) ts:=by
 obtain⟨h0,pre,post,rfl,rfl⟩:=h
 exact⟨Aa,pre++t.flat,post,by rw[F1];simp,by unfold len;rw[List.length_append,Tr.BR];omega⟩
theorem EN.top (t:Tr):EN t.flat 0 t:=⟨Int.le_refl _,[],[],by simp,rfl⟩
theorem EN.node {v:List Nd}{i:Int}{t:Tr}(h:EN v i t):0<=i/\i<len v/\at' v i=t.node:=by cases t;exact h.head
theorem EN.size_le {v:List Nd}{i:Int}{t:Tr}(h:EN v i t):i+t.size<=len v:=by
 obtain⟨h0,pre,post,rfl,rfl⟩:=h
 unfold len;simp only[List.length_append,Tr.BR];omega
def K3:Nat->Vl->Int->Int->Int
 |0,_,_,_=> -1
 |f+1,v,op,i=>if op<=0 then i else if len v<=i\/(at' v i).many<0\/len v<(at' v i).many then-1 else K3 f v (op-1+(at' v i).many) (i+1)
def IY(v:Vl)(i:Int):Int:=K3 (v.length+2) v 1 i
def QK:Nat->Vl->Int->Int->Int->Bool
 |0,_,_,_,_=>true
 |f+1,v,a,k,i=>
  if((at' v a).kind=5/\(at' v i).name≠[])\/CY (at' v i).name=false then false
  else if(at' v a).kind=6/\k+1<(at' v a).many/\Op.bytesLess (at' v i).name (at' v (IY v i)).name=false then false
  else QK f v a (k+1) (IY v i)
def LM(v:Vl)(a:Int):Bool:=QK (at' v a).many.toNat v a 0 (a+1)
def QL:Nat->Vl->Int->Bool
 |0,_,_=>true
 |f+1,v,i=>if len v<=i then true else if DT (at' v i)=false\/LM v i=false then false else QL f v (i+1)
def OO(v:Vl):Bool:=if v=[]\/(at' v 0).name≠[]\/IY v 0≠len v then false else QL (v.length+1) v 0
mutual
def Tr.wf:Tr->Prop
 | .mk n ps=>n.many=len ps/\EW ps
def EW:List Tr->Prop
 |[]=>True
 |t::ts=>t.wf/\EW ts
end
theorem YQ{a b:List Tr}:EW (a++b)↔EW a/\EW b:=by
 induction a with
 |nil=>simp[EW]
 |cons x a e=>rw[List.cons_append,EW,EW,e,and_assoc]
theorem qC(a b:List Tr):F1 (a++b)=F1 a++F1 b:=by
 induction a with
 |nil=>simp[F1]
 |cons x a e=>rw[List.cons_append,F1,F1,e,List.append_assoc]
theorem DU.le {v:List Nd}{i:Int}{l:List Tr}(h:DU v i l):i+C3 l<=len v:=by
 obtain⟨h0,pre,post,rfl,rfl⟩:=h
 unfold len;simp only[List.length_append,YP];omega
theorem DU.kids {v:List Nd}{i:Int}{n:Nd}{ps ts:List Tr}(h:DU v i (.mk n ps::ts)):DU v (i+1) (ps++ts):=by
 obtain⟨h0,pre,post,rfl,rfl⟩:=h
 exact⟨Aa,pre++[n],post,by rw[F1,Tr.flat,qC];simp,by unfold len;simp⟩
theorem DU.one {v:List Nd}{i:Int}{t:Tr}(h:EN v i t):DU v i [t]:=by
 obtain⟨h0,pre,post,rfl,rfl⟩:=h
 exact⟨h0,pre,post,by simp[F1],rfl⟩
theorem qD{f:Nat}{v:Vl}{op i:Int}(h:op<=0):K3 (f+1) v op i=i:=by rw[K3,if_pos h]
theorem AT0{v:Vl}: ∀(n:Nat) (ts:List Tr) (f:Nat) (op i:Int),C3 ts=n->EW ts->DU v i ts->0<=op->K3 (f+n) v (op+len ts) i=K3 f v op (i+n):=by
 intro n
 induction n with
 |zero=>
  intro ts f op i b hw e ho
  cases ts with
  |nil=>simp[len]
  |cons t ts=>rw[C3]at b;have:=t.size_pos;omega
 |succ n h=>
  intro ts f op i b hw e ho
  cases ts with
  |nil=>rw[C3]at b;omega
  |cons t ts=>
   obtain⟨q,ps⟩:=t
   have h1:=e.first.head
   have hle:=e.le
   rw[EW,Tr.wf]at hw
   have j:=IX ps
   have k:=A6 ps
   have l:=e.kids
   rw[C3,Tr.size]at b hle
   rw[show f+(n+1)=(f+n)+1 by omega,K3,if_neg (by rw[AH];have:=A6 ts;omega),h1.2.2,if_neg Aa,hw.1.1]
   have:=h (ps++ts) f op (i+1) (by rw[fQ];omega) (YQ.2 ⟨hw.1.2,hw.2⟩) l ho
   rw[AN]at this
   rw[AH,show op+(len ts+1)-1+len ps=op+(len ps+len ts) by omega,this]
   congr 1;omega
theorem fR{v:Vl}{i:Int}{t:Tr}(h:EN v i t)(hw:t.wf):IY v i=i+t.size:=by
 have e:=DU.one h
 have hle:=e.le
 have:=h.1
 have b:C3 [t]=t.size:=by simp[C3]
 obtain⟨f,j⟩: ∃f,v.length+2=(f+1)+t.size:=⟨v.length+1-t.size,by unfold len at hle;omega⟩
 unfold IY
 rw[j]
 have:=AT0 t.size [t] (f+1) 0 i b ⟨hw,trivial⟩ e Aa
 rw[show(0:Int)+len [t]=1 from rfl]at this
 rw[this,qD Aa]
theorem qE{v:Vl}: ∀(f:Nat) (op i j:Int),K3 f v op i=j->j≠ -1->0<=i->i<=len v->0<=op-> ∃ts,len ts=op/\EW ts/\DU v i ts/\j=i+C3 ts
 |0,op,i,j,h,l,_,_,_=>by rw[K3]at h;omega
 |f+1,op,i,j,h,l,h0,h1,ho=>by
  rw[K3]at h
  split at h
  ·refine⟨[],by rw[len_nil];omega,trivial,⟨h0,v.take i.toNat,v.drop i.toNat,by simp[F1],by unfold len at*;rw[List.length_take];omega⟩,by simp[C3];omega⟩
  ·split at h
   ·omega
   ·rename_i w
    have e:i<len v:=by omega
    obtain⟨ts,n,e2,e3,e4⟩:=qE f _ _ j h l Aa Aa Aa
    have q:(at' v i).many.toNat<=ts.length:=by unfold len at n;omega
    refine⟨.mk (at' v i) (ts.take (at' v i).many.toNat)::ts.drop (at' v i).many.toNat,?_,?_,?_,?_⟩
    ·rw[AH];unfold len at*;rw[List.length_drop];omega
    ·have:=List.take_append_drop (at' v i).many.toNat ts
     rw[<-this,YQ]at e2
     rw[EW,Tr.wf]
     exact⟨⟨by unfold len;rw[List.length_take];omega,e2.1⟩,e2.2⟩
    ·obtain⟨_,pre,post,k,hp⟩:=e3
     refine⟨h0,v.take i.toNat,post,?_,by unfold len at*;rw[List.length_take];omega⟩
     rw[F1,Tr.flat,List.cons_append,<-qC,List.take_append_drop]
     have b:pre=v.take (i.toNat+1):=by
      have:pre=v.take pre.length:=by rw[k];simp
      rw[this];congr 1;unfold len at hp;omega
     have hi:i.toNat<v.length:=by unfold len at e;omega
     have s:v.take (i.toNat+1)=v.take i.toNat++[at' v i]:=by
      rw[List.take_add_one,List.getElem?_eq_getElem hi];simp[at',List.getD_eq_getElem?_getD,hi]
     rw[b,s]at k
     calc v=(v.take i.toNat++[at' v i])++(F1 ts++post):=k
      _=_:=by simp
    ·rw[e4,C3,Tr.size]
     have:=fQ (ts.take (at' v i).many.toNat) (ts.drop (at' v i).many.toNat)
     rw[List.take_append_drop]at this
     omega
theorem qF{v:Vl}(h:IY v 0=len v)(i:v≠[]): ∃t:Tr,t.wf/\v=t.flat:=by
 have hl:=A6 v
 obtain⟨ts,b,e2,e3,e4⟩:=qE _ _ _ _ h Aa (Int.le_refl _) hl Aa
 cases ts with
 |nil=>rw[len_nil]at b;omega
 |cons t ts=>
  cases ts with
  |cons u us=>rw[AH,AH]at b;have:=A6 us;omega
  |nil=>
   refine⟨t,e2.1,?_⟩
   obtain⟨_,pre,post,e,hp⟩:=e3
   have h1:pre=[]:=List.eq_nil_of_length_eq_zero (by unfold len at hp;omega)
   have j:post=[]:=by
    refine List.eq_nil_of_length_eq_zero ?_
    have:=congrArg List.length e
    simp only[List.length_append,YP]at this
    unfold len at e4;omega
   rw[e,h1,j];simp[F1]
theorem AT1{v:Vl}: ∀(n:Nat) (ts:List Tr) (i0 i:Int),C3 ts=n->EW ts->DU v i0 ts->i0<=i->i<i0+n-> ∃t,EN v i t/\t.wf:=by
 intro n
 induction n with
 |zero=>intro ts i0 i b _ _ h1 h;omega
 |succ n j=>
  intro ts i0 i b hw e h1 h
  cases ts with
  |nil=>rw[C3]at b;omega
  |cons t ts=>
   rcases Int.lt_or_eq_of_le h1 with k|rfl
   ·obtain⟨l,ps⟩:=t
    rw[EW,Tr.wf]at hw
    rw[C3,Tr.size]at b
    exact j (ps++ts) (i0+1) i (by rw[fQ];omega) (YQ.2 ⟨hw.1.2,hw.2⟩) e.kids Aa Aa
   ·exact⟨t,e.first,hw.1⟩
theorem AT2{v:Vl}{a:Int}{t:Tr}(b:EN v a t)(hw:t.wf):(∃us,len us=(at' v a).many-0/\EW us/\DU v (a+1) us)/\0<=(at' v a).many/\(at' v a).many<=len v:=by
 obtain⟨e,ps⟩:=t
 rw[Tr.wf]at hw
 have h:=b.kids.le
 have:=IX ps
 have:=A6 ps
 have h0:=b.1
 rw[b.head.2.2]
 exact⟨⟨ps,Aa,hw.2,b.kids⟩,Aa,Aa⟩
theorem AT3{v:Vl}{i:Int}{us:List Tr}(b:DU v i us)(h:0<len us):0<=i/\i<len v:=by
 cases us with
 |nil=>rw[len_nil]at h;omega
 |cons u us=>have:=b.first.node;exact⟨this.1,this.2.1⟩
theorem Tr.YR {t:Tr}(hw:t.wf){i:Int}(h0:0<=i)(h1:i<len t.flat): ∃u,EN t.flat i u/\u.wf:=
 Eng.AT1 t.size [t] 0 i (by simp[C3]) ⟨hw,trivial⟩ (DU.one (EN.top t)) h0 (by unfold len at h1;rw[Tr.BR]at h1;omega)
theorem qG{α:Type}{v:List α}:len v=0↔v=[]:=by
 cases v with
 |nil=>simp[len]
 |cons a v=>
  rw[AH];have:=A6 v;constructor;· intro h;omega
  ·intro h;cases h
def Tr.named (x:A0):Tr->Tr| .mk n ps=>.mk { n with name:=x} ps
theorem Tr.AT4 (x:A0)(t:Tr):(t.named x).flat=YO x t.flat:=by cases t;rfl
theorem Tr.fS {x:A0}{t:Tr}(h:t.wf):(t.named x).wf:=by cases t;exact h
theorem Tr.LD (x:A0)(t:Tr):(t.named x).size=t.size:=by cases t;rfl
def JO(t:Tr):List Vl:=t.parts.map λ u=>(u.named []).flat
def F2(t:Tr):List A0:=if t.node.kind=6 then t.parts.map (·.node.name)else []
theorem qH{v:Vl}{i:Int}{t:Tr}(h:EN v i t):Eng.sub v i (i+t.size)=t.flat:=by
 obtain⟨h0,pre,post,rfl,rfl⟩:=h
 unfold Eng.sub len
 have:(Int.toNat ((pre.length:Int)+t.size))-(Int.toNat (pre.length:Int))=t.flat.length:=by rw[Tr.BR];omega
 simp only[Int.toNat_natCast]at*
 rw[List.drop_left,this,List.take_left]
theorem Tr.qI {t:Tr}:DU t.flat 1 t.parts:=by
 obtain⟨n,ps⟩:=t
 exact(EN.top (.mk n ps)).kids
theorem Tr.BA (t:Tr):at' t.flat 0=t.node:=(EN.top t).node.2.2
theorem Tr.fT {t:Tr}(h:t.wf):t.node.many=len t.parts:=by cases t;exact h.1
theorem Tr.YS {t:Tr}(h:t.wf):EW t.parts:=by cases t;exact h.2
theorem Tr.size_eq (t:Tr):t.size=1+C3 t.parts:=by cases t;rfl
def OP(t:Tr)(k:Int):List Vl:=(JO t).take k.toNat
theorem AT5{t:Tr}{k:Int}(h1:len t.parts<=k):OP t k=JO t:=by
 unfold OP;rw[List.take_of_length_le];unfold JO;rw[List.length_map];unfold len at h1;omega
theorem AT6{l:List Tr}(h:EW l)(n:Nat):EW (l.drop n):=by
 have:=List.take_append_drop n l
 rw[<-this,YQ]at h;exact h.2
theorem qJ{t:Tr}(hw:t.wf){k i:Int}(h0:0<=k)(h1:k<len t.parts)(h:DU t.flat i (t.parts.drop k.toNat)):
  ∃u,u.wf/\EN t.flat i u/\IY t.flat i=i+u.size/\DU t.flat (i+u.size) (t.parts.drop (k+1).toNat)/\OP t (k+1)=OP t k++[YO [] (Eng.sub t.flat i (IY t.flat i))]/\YO [] (Eng.sub t.flat i (IY t.flat i))=(u.named []).flat/\u∈t.parts/\t.parts[k.toNat]? =some u:=by
 have j:k.toNat<t.parts.length:=by unfold len at h1;omega
 have e:t.parts.drop k.toNat=t.parts[k.toNat]::t.parts.drop (k+1).toNat:=by
  rw[show(k+1).toNat=k.toNat+1 by omega];exact List.drop_eq_getElem_cons j
 have b:=AT6 (Tr.YS hw) k.toNat
 rw[e]at h b
 have l:=fR h.first b.1
 have he:YO [] (Eng.sub t.flat i (IY t.flat i))=((t.parts[k.toNat]).named []).flat:=by rw[l,qH h.first,Tr.AT4]
 refine⟨t.parts[k.toNat],b.1,h.first,l,h.rest,?_,he,List.getElem_mem j,List.getElem?_eq_getElem j⟩
 rw[he]
 unfold OP JO
 rw[show(k+1).toNat=k.toNat+1 by omega,List.take_add_one,List.getElem?_map,List.getElem?_eq_getElem j];rfl
def K4(t:Tr)(k:Int):List A0:=(t.parts.map (·.node.name)).take k.toNat
theorem AT7{t:Tr}{k:Int}{u:Tr}(h0:0<=k)(h:t.parts[k.toNat]? =some u):K4 t (k+1)=K4 t k++[u.node.name]:=by
 unfold K4
 rw[show(k+1).toNat=k.toNat+1 by omega,List.take_add_one,List.getElem?_map,h];rfl
theorem AT8{t:Tr}{k:Int}(h1:len t.parts<=k)(b:t.node.kind=6):K4 t k=F2 t:=by
 unfold K4 F2;rw[if_pos b,List.take_of_length_le];rw[List.length_map];unfold len at h1;omega
theorem AT9{t:Tr}{k:Int}(h0:0<=k)(h1:k<=len t.parts):len (K4 t k)=k:=by
 unfold K4 len;rw[List.length_take,List.length_map];unfold len at h1;omega
theorem AU0{t:Tr}{k:Int}(h1:k=0)(b: ¬t.node.kind=6):K4 t k=F2 t:=by
 subst h1;unfold K4 F2;rw[if_neg b];rfl
theorem YT{u:Tr}: ∀ {l:List Tr},u∈l->u.size<=C3 l
 |t::l,h=>by
  rw[C3]
  rcases List.mem_cons.1 h with rfl|h
  ·omega
  ·have:=YT h;omega
def qK(k:Int)(x:A0):Prop:=(k=5->x=[])/\CY x=true
def SO(k:Int):List Tr->Prop
 |[]=>True
 |t::ts=>qK k t.node.name/\(∀u us,ts=u::us->k=6->Op.bytesLess t.node.name u.node.name=true)/\SO k ts
mutual
def Tr.B2:Tr->Prop
 | .mk n ps=>DT n=true/\n.many=len ps/\SO n.kind ps/\OQ ps
def OQ:List Tr->Prop
 |[]=>True
 |t::ts=>t.B2/\OQ ts
end
mutual
theorem Tr.fU: {t:Tr}->t.B2->t.wf
 | .mk n ps,h=>by rw[Tr.B2]at h;rw[Tr.wf];exact⟨h.2.1,qL h.2.2.2⟩
theorem qL: {l:List Tr}->OQ l->EW l
 |[],_=>trivial
 |t::ts,h=>by rw[OQ]at h;rw[EW];exact⟨Tr.fU h.1,qL h.2⟩
end
theorem qM{v:Vl}{a:Int}: ∀(us:List Tr) (k i:Int),DU v i us->EW us->len us=(at' v a).many-k->0<=k->(QK us.length v a k i=true↔SO (at' v a).kind us)
 |[],k,i,_,_,_,_=>by simp[QK,SO]
 |u::us,k,i,b,hw,hl,h0=>by
  have h1:=b.first.node.2.2
  have q:=fR b.first hw.1
  rw[AH]at hl
  have s:=qM (v:=v) (a:=a) us (k+1) (i+u.size) b.rest hw.2 Aa Aa
  rw[List.length_cons,QK,SO,h1,q]
  by_cases hA:((at' v a).kind=5/\u.node.name≠[])\/CY u.node.name=false
  ·rw[if_pos hA]
   refine⟨λ h=>(by cases h),λ h=>?_⟩
   rcases hA with⟨j,l⟩|j
   ·exact absurd (h.1.1 j) l
   ·rw[h.1.2]at j;cases j
  ·rw[if_neg hA]
   have n:qK (at' v a).kind u.node.name:=by
    refine⟨λ h=>?_,?_⟩
    ·by_cases hx:u.node.name=[]
     ·exact hx
     ·exact absurd (.inl ⟨h,hx⟩) hA
    ·cases hu:CY u.node.name with
     |true=>rfl
     |false=>exact absurd (.inr hu) hA
   by_cases hB:(at' v a).kind=6/\k+1<(at' v a).many/\Op.bytesLess u.node.name (at' v (i+u.size)).name=false
   ·rw[if_pos hB]
    refine⟨λ h=>(by cases h),λ h=>?_⟩
    cases us with
    |nil=>rw[len_nil]at hl;omega
    |cons w ws=>
     have l:=h.2.1 w ws U hB.1
     rw[b.rest.first.node.2.2,l]at hB;cases hB.2.2
   ·rw[if_neg hB,s]
    refine⟨λ h=>⟨n,λ w ws e y=>?_,h⟩,λ h=>h.2.2⟩
    subst e
    have z:=b.rest.first.node.2.2
    cases hc:Op.bytesLess u.node.name w.node.name with
    |true=>rfl
    |false=>
     refine absurd ⟨y,?_,?_⟩ hB
     ·rw[AH]at hl;have:=A6 ws;omega
     ·rw[z];exact hc
theorem qN{v:Vl}{a:Int}{t:Tr}(b:EN v a t)(hw:t.wf):LM v a=true↔SO t.node.kind t.parts:=by
 obtain⟨n,ps⟩:=t
 have e:=b.head
 rw[Tr.wf]at hw
 have hp:=A6 ps
 have:=qM (v:=v) (a:=a) ps 0 (a+1) b.kids hw.2 (by rw[e.2.2];omega) Aa
 unfold LM
 rw[e.2.2]at this ⊢
 rw[show n.many.toNat=ps.length by unfold len at hw;omega]
 exact this
theorem qO{v:Vl}: ∀(f:Nat) (i:Int),len v+1<=f+i->(QL f v i=true↔ ∀j,i<=j->j<len v->DT (at' v j)=true/\LM v j=true)
 |0,i,l=>by
  refine⟨λ _ j h1 b=>by omega,λ _=>rfl⟩
 |f+1,i,l=>by
  rw[QL]
  by_cases h1:len v<=i
  ·rw[if_pos h1];exact⟨λ _ j b e=>by omega,λ _=>rfl⟩
  ·rw[if_neg h1]
   have n:=qO (v:=v) f (i+1) Aa
   by_cases b:DT (at' v i)=false\/LM v i=false
   ·rw[if_pos b]
    refine⟨λ h=>(by cases h),λ h=>?_⟩
    have:=h i (Int.le_refl _) Aa
    rcases b with b|b
    ·rw[this.1]at b;cases b
    ·rw[this.2]at b;cases b
   ·rw[if_neg b,n]
    refine⟨λ h j e k=>?_,λ h j e k=>h j Aa k⟩
    rcases Int.lt_or_eq_of_le e with q|rfl
    ·exact h j Aa k
    ·constructor
     ·cases hx:DT (at' v i)with
      |true=>rfl
      |false=>exact absurd (.inl hx) b
     ·cases hx:LM v i with
      |true=>rfl
      |false=>exact absurd (.inr hx) b
theorem AU1{v:Vl}(l: ∀j,0<=j->j<len v->DT (at' v j)=true/\LM v j=true): ∀(n:Nat) (ts:List Tr) (i:Int),C3 ts=n->EW ts->DU v i ts->OQ ts:=by
 intro n
 induction n using Nat.strongRecOn with
 |_ n k=>
  intro ts i q hw b
  cases ts with
  |nil=>trivial
  |cons t ts=>
   obtain⟨w,ps⟩:=t
   have e:=b.first.head
   rw[EW]at hw
   have h:=l i e.1 e.2.1
   rw[e.2.2]at h
   have s:=(qN b.first hw.1).1 h.2
   rw[C3,Tr.size]at q
   rw[Tr.wf]at hw
   rw[OQ,Tr.B2]
   exact⟨⟨h.1,hw.1.1,s,k (C3 ps) Aa ps (i+1) U hw.1.2 b.first.kids⟩,k (C3 ts) Aa ts _ U hw.2 b.rest⟩
theorem AU2{v:Vl}: ∀(n:Nat) (ts:List Tr) (i:Int),C3 ts=n->OQ ts->DU v i ts-> ∀j,i<=j->j<i+n->DT (at' v j)=true/\LM v j=true:=by
 intro n
 induction n using Nat.strongRecOn with
 |_ n h=>
  intro ts i k hg e j h1 w
  cases ts with
  |nil=>rw[C3]at k;omega
  |cons t ts=>
   obtain⟨y,ps⟩:=t
   have l:=e.first.head
   have q:=hg
   rw[OQ]at hg
   have hw:=Tr.fU hg.1
   have b:=hg.1
   rw[Tr.B2]at b
   rw[C3,Tr.size]at k
   rcases Int.lt_or_eq_of_le h1 with z|rfl
   ·rcases Int.lt_or_le j (i+1+C3 ps)with s|s
    ·exact h (C3 ps) Aa ps (i+1) U b.2.2.2 e.first.kids j Aa Aa
    ·exact h (C3 ts) Aa ts _ U hg.2 e.rest j (by rw[Tr.size];omega) (by rw[Tr.size];omega)
   ·rw[l.2.2]
    exact⟨b.1,(qN e.first hw).2 b.2.2.1⟩
theorem AU3{v:Vl}(h:OO v=true): ∃t:Tr,v=t.flat/\t.B2/\t.node.name=[]:=by
 unfold OO at h
 split at h
 ·cases h
 ·rename_i b
  have h1:v≠[]:=λ e=>b (.inl e)
  have i:(at' v 0).name=[]:=by
   by_cases hx:(at' v 0).name=[]
   ·exact hx
   ·exact absurd (.inr (.inl hx)) b
  have k:IY v 0=len v:=by
   by_cases hx:IY v 0=len v
   ·exact hx
   ·exact absurd (.inr (.inr hx)) b
  obtain⟨t,hw,rfl⟩:=qF k h1
  have l:=(qO (v:=t.flat) _ 0 (by unfold len;omega)).1 h
  have:=AU1 (λ j n q=>l j n q) _ [t] 0 U ⟨hw,trivial⟩ (DU.one (EN.top t))
  exact⟨t,rfl,this.1,by rw[<-Tr.BA];exact i⟩
def AU4(q:Int)(v:Vl):Prop:= ∀n∈v,len n.s<=q/\len n.name<=q
end Go.Eng
set_option maxRecDepth 100000
namespace Go.Proofs.YtnoegalemkbbbaaGreatDoor
open Go.Proofs.Tryz
open Go.Eng
theorem BI:prog.follows .mixedOrders=true:=by kernel_rfl
end Go.Proofs.YtnoegalemkbbbaaGreatDoor
namespace Go.Eng
open Go.RowKit
theorem St.AU5 {w0 w:World}{M0 M:Mem}{Hs:List HO}(h:St w0 M0 w M Hs)(e:TypeId)(sz cap:Nat)(cur:Array Value)(k:cur.size=cap*sz)(hm:cap<=maxLen):
  St w0 M0 (w.alloc (.cells cur e)) M (.priv e sz (.slice (some ⟨w.heap.size,0,none⟩) 0 cap) 0 []::Hs):=by
 have h1:=h.ext (Ext.alloc w (.cells cur e))
 refine⟨h1.low,h1.sat,h1.old,λ x hx=>?_,List.pairwise_cons.2 ⟨λ y l b i=>?_,h.apart⟩⟩
 ·rcases List.mem_cons.1 hx with rfl|hx
  ·refine⟨⟨by simp,.inr ⟨w.heap.size,cap,cur,rfl,h.size,heap_alloc_new _ _,Nat.zero_le _,hm,k,by simp⟩⟩,λ b i o=>?_⟩
   simp only[Value.ownBlock,Option.some.injEq]at i;subst i
   exact h.PJ (Nat.le_refl _) o
  ·exact h1.ok x hx
 ·simp only[HO.FJ,Value.ownBlock,Option.some.injEq]at i;subst i
  intro j
  have:=(HO.ok.lt (h.ok y l) j).2
  omega
end Go.Eng
namespace Go.Proofs.YtnoegalemkbbbaaGreatDoor
open Go.Proofs.Tryz
open Go.Eng Go.RowKit
end Go.Proofs.YtnoegalemkbbbaaGreatDoor
namespace Go.Eng
open Go.RowKit
structure AJ where
 a:Option Addr
 n:Nat
 c:Nat
deriving Inhabited
def CA(h:AJ):List Value:=[.slice h.a h.n h.c]
theorem DJ(h:AJ):(CA h).length=1:=rfl
theorem QM(h:AJ): ∀u∈CA h,u.oneCell'=true:=by intro u hu;simp[CA]at hu;subst hu;rfl
abbrev AJ.v (h:AJ):Value:=.slice h.a h.n h.c
def CB{α:Type}(M:Mem)(sz:Nat)(f:α->List Value):List AJ->List (List α)->Prop
 |[],[]=>True
 |h::hs,x::xs=>Sl M sz x.length h.v (x.flatMap f)/\CB M sz f hs xs
 |_,_=>False
section
variable {α:Type} {M M':Mem} {sz:Nat} {f:α->List Value}
theorem CB.mono (hm:M.le M'): ∀ {b:List AJ} {xs:List (List α)},CB M sz f b xs->CB M' sz f b xs
 |[],[],_=>trivial
 |_::_,_::_,h=>⟨h.1.mono hm,CB.mono hm h.2⟩
 |[],_::_,h=>h.elim
 |_::_,[],h=>h.elim
theorem CB.snoc {h:AJ}{x:List α}(hx:Sl M sz x.length h.v (x.flatMap f)): ∀ {b:List AJ} {xs:List (List α)},CB M sz f b xs->CB M sz f (b++[h]) (xs++[x])
 |[],[],_=>⟨hx,trivial⟩
 |_::_,_::_,h=>⟨h.1,CB.snoc hx h.2⟩
 |[],_::_,h=>h.elim
 |_::_,[],h=>h.elim
theorem CB.len: ∀ {b:List AJ} {xs:List (List α)},CB M sz f b xs->b.length=xs.length
 |[],[],_=>rfl
 |_::_,_::_,h=>by simp[CB.len h.2]
 |[],_::_,h=>h.elim
 |_::_,[],h=>h.elim
theorem CB.get: ∀ {b:List AJ} {xs:List (List α)} (k:Nat),CB M sz f b xs->k<b.length->Sl M sz (xs.getD k []).length (b.getD k default).v ((xs.getD k []).flatMap f)
 |[],_,_,_,h=>absurd h (Nat.not_lt_zero _)
 |_::_,[],_,h,_=>h.elim
 |_::_,_::_,0,h,_=>h.1
 |_::_,_::_,k+1,h,e=>by simpa using CB.get k h.2 (by simpa using e)
end
theorem CB.at {α:Type}{M:Mem}{sz:Nat}{f:α->List Value}{b:List AJ}{xs:List (List α)}{k:Int}(h:CB M sz f b xs)(h0:0<=k)(h1:k<Eng.len b):Sl M sz (at' xs k).length (at' b k).v ((at' xs k).flatMap f):=
 by
 have:=CB.get k.toNat h (by unfold Eng.len at h1;omega)
 exact this
theorem Sl.shape {M:Mem}{sz n:Nat}{v:Value}{cs:List Value}(h:Sl M sz n v cs): ∃a c,v= .slice a n c:=by
 obtain⟨p,cap,b,_⟩:=h.val;exact⟨p,cap,b⟩
theorem PV.qP {P:Program}{C:World->Prop}{L:Env}{W:Bool}{d:Option Tmp}{ty:TypeId}{ps:String}{af:Array Edge}{gd:Option (Nat×Bool)}{t j e:TypeId}{x:Operand}{M:Mem}{sz n h i:Nat}{v:Value}{cs:List Value}(hS:Sl M sz n v cs)(k:0<n)(hx:AD L W x v)(l:P.underlying t=some (.slice e)):
  PV P C L W ⟨d,.binOp .eql t x (.const (.slice none h i)) j,ty,ps,af,gd⟩ (.bool false):=
 .bin hx .c λ _ w _=>by
  obtain⟨p,cap,rfl,_,_,hp⟩:=hS.val
  obtain⟨b,o,rfl,_⟩:=hp k
  have:=Lib.run_eql_slice_nil (P:=P) w t e (some ⟨b,o,none⟩) n cap h i l
  simp[go_sem,this,eqGuard]
end Go.Eng
namespace Go.Proofs.YtnoegalemkbbbaaGreatDoor
open Go.Proofs.Tryz
open Go.Eng
theorem Tm.cells_one (x:Tm): ∀u∈x.cells,u.oneCell'=true:=by intro u hu;simp[Tm.cells]at hu;rcases hu with rfl|rfl|rfl|rfl|rfl|rfl|rfl|rfl|rfl|rfl|rfl<;>rfl
abbrev CS(u:Value)(hs:List AJ)(xs:List Fl):Kn:=⟨u,1,hs,CA,λ M=>CB M 11 Tm.cells hs xs,λ _ _ hm h=>CB.mono hm h⟩
abbrev qQ(u:Value)(x:Fl):HO:=.priv 48 11 u x.length (x.flatMap Tm.cells)
abbrev YU(u:Value)(x:Fl):HX:=.pv 48 (kn u 11 x Tm.cells) Tm.AO
abbrev A7(u:Value)(x:Fl):Kn:=kn u 11 x Tm.cells
theorem EF{M:Mem}{u:Value}{b:List AJ}{xs:List Fl}(h:(CS u b xs).ok M){k:Int}(h0:0<=k)(h1:k<len b):(A7 (at' b k).v (at' xs k)).ok M:=⟨CB.at h.more h0 h1,Tm.AO,trivial⟩
theorem fV{M:Mem}{u:Value}{b:List AJ}{xs:List Fl}(h:(CS u b xs).ok M):len b=len xs:=by have:=CB.len (f:=Tm.cells) h.more;unfold len;omega
abbrev fW(w0:World)(M0 M:Mem)(Rs:List HO)(x:Fl):Ending->World->Prop:=BY w0 M0 M Rs (λ h:AJ=>h.v) (λ _=>True) (λ _=>[]) λ h=>[qQ h.v x]
theorem qR{w0 w:World}{M0 M:Mem}{Rs:List HO}{x:Fl}{e:Ending}(h:BY w0 M0 M Rs (λ u:Value=>u) (λ _=>True) (λ _=>[]) (λ u=>[qQ u x]) e w):fW w0 M0 M Rs x e w:=by
 obtain⟨u,M',h1,q,l,b,s⟩:=h
 have n:=b.told (k:=0) U
 obtain⟨a,c,j,_⟩:=(n.sl (i:=0) rfl).val
 exact⟨⟨a,x.length,c⟩,M',by rw[h1,j],trivial,l,by rw[j]at b;exact b,A3⟩
theorem AU6{w0 h:World}{M0 M:Mem}{Rs:List HO}(v:Value)(x:Fl)(hS:St w0 M0 h M Rs)(hx:(A7 v x).ok M)(h0:x≠[])(j:len x<=1099511627776):
  Calls prog 166 [v].toArray h (fW w0 M0 M Rs x):=by
 refine AE (Hr:=Rs) A8 func166 U ntmps166 [(0,A7 v x)] [] [.sl 0 v] U hS (AA hx A3) (λ B i=>AU (.v (.bool false)) U U (λ w M e=>.qP (e.sl 0 U) (List.length_pos_iff.2 h0) (AF (v:=.sl 0 v) (E:=[]) U) underlying23) <|A1 U (λ b=>?_) (λ b=>?_)) U
 ·cases b
 exact IB 2 ([]:List Tm) Tm.cells 11 48 Tm.AO U U Ah U λ u=>IT 120 U U U underlying23 type48 U U Tm.cells_one (by rw[len_nil];omega) λ v'=>A2 i U U U λ w M' e=>qR ⟨v',M',rfl,trivial,e.le,e.st,A3⟩
end Go.Proofs.YtnoegalemkbbbaaGreatDoor
namespace Go.Eng
open Go.RowKit
section pv
variable {P:Program} {C:World->Prop} {L:Env} {W:Bool} {d:Option Tmp} {ty:TypeId} {ps:String} {af:Array Edge} {gd:Option (Nat×Bool)}
theorem PV.qS {t h:TypeId}{x y:Operand}{k i:IntKind}{a b r:Int}(hx:AD L W x (.int k a))(j:AD L W y (.int i b))(l:W=true->0<=b)(n:W=true->a.fdiv (2^min b.toNat k.bits)=r):PV P C L W ⟨d,.binOp .shr t x y h,ty,ps,af,gd⟩ (.int k r):=
 .bin hx j λ e w _=>by rw[<-n e];simp[go_sem,binOp,Op.shift,Sem.run,pure,bind,Sem.bind,show ¬b<0 from by have:=l e;omega]
theorem PV.qT {t h:TypeId}{x y:Operand}{k i:IntKind}{a b r:Int}(hx:AD L W x (.int k a))(j:AD L W y (.int i b))(l:W=true->0<=b)(n:W=true->k.wrap (a*2^min b.toNat k.bits)=r):PV P C L W ⟨d,.binOp .shl t x y h,ty,ps,af,gd⟩ (.int k r):=
 .bin hx j λ e w _=>by rw[<-n e];simp[go_sem,binOp,Op.shift,Sem.run,pure,bind,Sem.bind,show ¬b<0 from by have:=l e;omega]
theorem PV.fX {t e:TypeId}{x y:Operand}{k:IntKind}{a b r:Int}(hx:AD L W x (.int k a))(h:AD L W y (.int k b))(i:W=true->k.wrap (BitVec.ofInt k.bits a&&& BitVec.ofInt k.bits b).toNat=r):PV P C L W ⟨d,.binOp .and t x y e,ty,ps,af,gd⟩ (.int k r):=
 .bin hx h λ j w _=>by rw[<-i j];simp[go_sem,binOp,Op.intBits,Sem.run,pure,bind,Sem.bind]
theorem PV.orK {t e:TypeId}{x y:Operand}{k:IntKind}{a b r:Int}(hx:AD L W x (.int k a))(h:AD L W y (.int k b))(i:W=true->k.wrap (BitVec.ofInt k.bits a|||BitVec.ofInt k.bits b).toNat=r):PV P C L W ⟨d,.binOp .or t x y e,ty,ps,af,gd⟩ (.int k r):=
 .bin hx h λ j w _=>by rw[<-i j];simp[go_sem,binOp,Op.intBits,Sem.run,pure,bind,Sem.bind]
end pv
end Go.Eng
