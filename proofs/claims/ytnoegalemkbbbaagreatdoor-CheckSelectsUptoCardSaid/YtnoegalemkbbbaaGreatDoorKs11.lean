/- Lemmas for the card. -/
import Derived.Test.YtnoegalemkbbbaaGreatDoorKs10
set_option linter.unusedVariables false
set_option linter.unusedSimpArgs false
set_option maxRecDepth 100000
namespace Go.Eng
open Go.RowKit
theorem K8{x:Int}(h0:0<=x)(h1:x<256):((UInt8.ofNat x.toNat).toNat:Int)=x:=by
 rw[show(UInt8.ofNat x.toNat).toNat=x.toNat%256 from rfl,Nat.mod_eq_of_lt Aa];omega
theorem AR7: ∀n:Fin 128,(E9 (n.val:Int)=[UInt8.ofNat n.val]/\32<=n.val/\n.val≠34/\n.val≠92)\/
 (A4 (E9 (n.val:Int)) 0=92/\BW (E9 (n.val:Int))=((n.val:Int),len (E9 (n.val:Int)))/\len (E9 (n.val:Int))≠0):=by decide+kernel
theorem oO{s T r:A0}: ∀(f:Nat) (p i:Int) (acc:List Int),0<=p->p<=len s->0<=i->GO s p=true->A5 T i=GR s p++34::r->(len T-i).toNat<=f->
  DQ f T i acc=(toStr acc++A5 s p,i+len (GR s p)+1,0)
 |f,p,i,acc,h0,h1,hi,hu,hT,S=>by
  have y:A5 T i≠[]:=by rw[hT];simp
  have E:=YE hi U y
  have N:=KO.1 y
  have e:i<len T:=by omega
  rw[RN S e,RP T i hi,PM T i hi]
  by_cases hp:p<len s
  ·have hb:=L9 s p
   have hle:=rune_le s p hp
   rcases LP h0 hp with⟨O,_⟩|⟨O,F,_,G,V,P⟩
   ·rw[TJ s p h0 hp O]at hu;cases hu
   rw[<-MK s p h0 hp Aa]at hu
   rw[cL h0 hp]at hT ⊢
   rw[F]at hT ⊢
   rw[List.append_assoc]at hT
   have n:=eJ hi hT
   have W:=A8 (GR s (p+rune s p)++34::r)
   have Q:len T=i+(len (E9 (B2 s p))+len (GR s (p+rune s p)++34::r)):=by rw[E,hT,AO]
   have k: ∀j,0<=j->j<len (E9 (B2 s p))->A4 T (i+j)=A4 (E9 (B2 s p)) j:=λ j a b=>by
    rw[<-O0 T i j hi a,hT,I5 a b]
   have q:toStr acc++A5 s p=toStr (acc++Lib.encodeRuneZ (B2 s p))++A5 s (p+rune s p):=by
    rw[XZ,G,S6 s p (p+rune s p) h0 Aa,List.append_assoc]
   have w:=λ(g:Nat) (hg:(len T-(i+len (E9 (B2 s p)))).toNat<=g)=>oO (s:=s) (T:=T) (r:=r) g (p+rune s p) (i+len (E9 (B2 s p))) (acc++Lib.encodeRuneZ (B2 s p)) Aa hle (by have:=A8 (E9 (B2 s p));omega) hu n hg
   rw[q,AO,show i+(len (E9 (B2 s p))+len (GR s (p+rune s p)))+1=i+len (E9 (B2 s p))+len (GR s (p+rune s p))+1 from by omega]
   by_cases hc:A4 s p<128
   ·obtain⟨X,h9⟩:=V hc
    have H:=L7 s p
    have tab:=AR7 ⟨(A4 s p).toNat,Aa⟩
    dsimp only at tab
    rw[show(((A4 s p).toNat:Nat):Int)=A4 s p from by omega]at tab
    rw[h9]at k hT w ⊢
    rcases tab with⟨D,z,J,q4⟩|⟨D,z,J⟩
    ·have K:len (E9 (A4 s p))=1:=by rw[D];rfl
     have h:A4 T i=A4 s p:=by
      have:=k 0 (Int.le_refl 0) Aa
      rw[Int.add_zero,D,FT]at this
      rw[this];exact K8 H.1 Aa
     have A:=iX hi e Aa
     rw[A.1,A.2,h,if_neg Aa,if_neg Aa,if_neg Aa]
     rw[K]at w ⊢
     exact w _ Aa
    ·have hlp:=A8 (E9 (A4 s p))
     have h:A4 T i=92:=by
      have:=k 0 (Int.le_refl 0) Aa
      rw[Int.add_zero,D]at this;exact this
     have L:B2 T i=92:=(J9 hi e Aa).2 h
     have B:BW (A5 T i)=(A4 s p,len (E9 (A4 s p))):=by
      rw[<-z]
      refine o3 (by rw[z];exact J) (by rw[z,hT,AO];dsimp only;omega) (λ j a b=>?_)
      rw[z]at b
      rw[hT];exact I5 a b
     rw[L,if_neg Aa,if_pos U,B,if_neg J]
     exact w _ Aa
   ·have R:=nA (P Aa)
    have C:len (E9 (B2 s p))=rune s p:=by rw[R,G,FF h0 Aa hle];omega
    have l:=Y9 (s:=s) (s':=T) (i:=p) (i':=i) h0 hi Aa hp Aa (λ j a b=>by
     rw[k j a Aa,R,G,PW h0 a Aa hle])
    have X:=P Aa
    have M:=(Y0 hi e).2
    rw[l.2.1,l.2.2,F,if_neg Aa,if_neg Aa,if_neg (by
     rintro(x|x)
     ·omega
     ·have:=M (by rw[l.2.1,l.2.2,F];exact x)
      omega)]
    rw[C]at w ⊢
    exact w _ Aa
  ·rw[cM hp]at hT ⊢
   have h:A4 T i=34:=(YF hi hT).2
   rw[if_pos ((J9 hi e Aa).2 h),PH s p Aa]
   simp[len_nil]
termination_by f p=>(len s-p).toNat
decreasing_by all_goals omega
theorem eQ{s:A0}(h:DJ s=true)(r:A0):B4 (DZ s++r)=(s,len (DZ s),0):=by
 have e:DZ s++r=34::(GR s 0++34::r):=by unfold DZ;simp
 have hl:len (DZ s)=1+len (GR s 0)+1:=by unfold DZ;rw[AO,AL];simp[len];omega
 rw[e,hl]
 unfold B4
 have hp:Lib.hasPrefix (34::(GR s 0++34::r)) [34]=true:=LX.2 ⟨by simp,rfl⟩
 rw[if_pos hp,oO (s:=s) (r:=r) _ 0 1 [] (Int.le_refl 0) (A8 s) Aa h U (by unfold len;simp;omega)]
 rfl
theorem oP{a b:A0}: ∀(j:Int),0<=j->GO b j=true->GO (a++b) (len a+j)=true
 |j,h0,h=>by
  have hl:=AO a b
  have l:=A8 a
  by_cases hj:j<len b
  ·by_cases hr:rune b j=0
   ·rw[TJ b j h0 hj hr]at h;cases h
   have n:=L9 b j
   have hle:=rune_le b j hj
   rw[<-MK b j h0 hj Aa]at h
   have e:=Y9 (s:=b) (s':=a++b) (i:=j) (i':=len a+j) h0 Aa Aa hj Aa (λ k x y=>by
    rw[show len a+j+k=len a+(j+k)from by omega,Y8 Aa])
   rw[<-MK (a++b) (len a+j) Aa Aa (by rw[e.1];omega),e.1,Int.add_assoc]
   exact oP (j+rune b j) Aa h
  ·exact W4 _ _ Aa
termination_by j=>(len b-j).toNat
theorem oQ{a b:A0}(l:DJ b=true): ∀(i:Int),0<=i->i<=len a->GO a i=true->GO (a++b) i=true
 |i,h0,h1,h=>by
  have hl:=AO a b
  have n:=A8 b
  by_cases hi:i<len a
  ·by_cases hr:rune a i=0
   ·rw[TJ a i h0 hi hr]at h;cases h
   have q:=L9 a i
   have hle:=rune_le a i hi
   rw[<-MK a i h0 hi Aa]at h
   have j:=Y9 (s:=a) (s':=a++b) (i:=i) (i':=i) h0 h0 Aa hi Aa (λ k x y=>I5 Aa Aa)
   rw[<-MK (a++b) i h0 Aa (by rw[j.1];omega),j.1]
   exact oQ l (i+rune a i) Aa hle h
  ·have e:i=len a:=by omega
   subst e
   have:=oP (a:=a) (b:=b) 0 (Int.le_refl 0) l
   rwa [Int.add_zero]at this
termination_by i=>(len a-i).toNat
theorem YJ{s:A0}(b:0<len s)(h:rune s 0=len s):DJ s=true:=by
 unfold DJ
 rw[<-MK s 0 (Int.le_refl 0) b Aa]
 exact W4 s (0+rune s 0) Aa
theorem AR8(r:Int):DJ (toStr (Lib.encodeRuneZ r))=true:=by
 have b: ∀(x:UInt8) (l:A0),A4 (x::l) 0=(x.toNat:Int):=λ _ _=>rfl
 have e: ∀(x y:UInt8) (l:A0),A4 (x::y::l) (0+1)=(y.toNat:Int):=λ _ _ _=>rfl
 have h: ∀(x y z:UInt8) (l:A0),A4 (x::y::z::l) (0+2)=(z.toNat:Int):=λ _ _ _ _=>rfl
 have i: ∀(x y z u:UInt8) (l:A0),A4 (x::y::z::u::l) (0+3)=(u.toNat:Int):=λ _ _ _ _ _=>rfl
 have q: ∀(x:UInt8),len [x]=1:=λ _=>rfl
 have j: ∀(x y:UInt8),len [x,y]=2:=λ _ _=>rfl
 have k: ∀(x y z:UInt8),len [x,y,z]=3:=λ _ _ _=>rfl
 have n: ∀(x y z u:UInt8),len [x,y,z,u]=4:=λ _ _ _ _=>rfl
 unfold Lib.encodeRuneZ
 split
 ·refine YJ (show(0:Int)<1 by decide) ?_
  show rune [UInt8.ofNat r.toNat] 0=1
  unfold rune
  rw[b,K8 Aa Aa]
  dsimp only
  rw[if_pos Aa]
 split
 ·refine YJ (show(0:Int)<2 by decide) ?_
  show rune [UInt8.ofNat (192+r/64).toNat,UInt8.ofNat (128+r%64).toNat] 0=2
  unfold rune cont
  rw[b,e,j,K8 Aa Aa,K8 Aa Aa]
  dsimp only
  simp only[Bool.and_eq_true,decide_eq_true_eq]
  rw[if_neg Aa,if_pos Aa]
 split
 ·refine YJ (show(0:Int)<3 by decide) ?_
  show rune [UInt8.ofNat (224+r/4096).toNat,UInt8.ofNat (128+r/64%64).toNat,UInt8.ofNat (128+r%64).toNat] 0=3
  unfold rune cont
  rw[b,e,h,k,K8 Aa Aa,K8 Aa Aa,K8 Aa Aa]
  dsimp only
  simp only[Bool.and_eq_true,Bool.or_eq_true,decide_eq_true_eq,beq_iff_eq]
  rw[if_neg Aa,if_neg Aa,if_pos Aa,if_neg Aa]
 split
 ·refine YJ (show(0:Int)<4 by decide) ?_
  show rune [UInt8.ofNat (240+r/262144).toNat,UInt8.ofNat (128+r/4096%64).toNat,UInt8.ofNat (128+r/64%64).toNat,UInt8.ofNat (128+r%64).toNat] 0=4
  unfold rune cont
  rw[b,e,h,i,n,K8 Aa Aa,K8 Aa Aa,K8 Aa Aa,K8 Aa Aa]
  dsimp only
  simp only[Bool.and_eq_true,Bool.or_eq_true,decide_eq_true_eq,beq_iff_eq]
  rw[if_neg Aa,if_neg Aa,if_neg Aa,if_pos Aa,if_neg Aa]
 ·decide+kernel
theorem oR{acc:List Int}(h:DJ (toStr acc)=true)(r:Int):DJ (toStr (acc++Lib.encodeRuneZ r))=true:=by
 rw[XZ]
 exact oQ (AR8 r) 0 (Int.le_refl 0) (A8 _) h
theorem SA:DJ []=true:=by decide+kernel
theorem eR{s:A0}: ∀(f:Nat) (i:Int) (acc:List Int),DJ (toStr acc)=true->DJ (DQ f s i acc).1=true
 |0,_,_,_=>by unfold DQ;exact SA
 |f+1,i,acc,h=>by
  unfold DQ
  split
  ·split
   ·exact h
   ·split
    ·split
     ·exact SA
     ·exact eR f _ _ (oR h _)
    ·split
     ·exact SA
     ·exact eR f _ _ (oR h _)
  ·exact SA
theorem eT(s:A0):DJ (B4 s).1=true:=by
 unfold B4
 split
 ·exact eR _ _ _ SA
 ·exact SA
theorem oS{s:A0}(h: ∀j:Int,0<=j->j<len s->A4 s j<128): ∀i:Int,0<=i->GO s i=true
 |i,h0=>by
  by_cases hi:i<len s
  ·have b:rune s i=1:=by unfold rune;dsimp only;rw[if_pos (h i h0 hi)]
   rw[<-MK s i h0 hi Aa,b]
   exact oS h (i+1) Aa
  ·exact W4 _ _ hi
termination_by i=>(len s-i).toNat
theorem oT(s:A0): ∀j:Int,0<=j->j<len (BD s)->CF (A4 (BD s) j) (j==0)=true:=λ j a b=>by
 have e:=LQ (s:=s) (i:=0) (Int.le_refl 0) (A8 s)
 rw[LR]at b
 have:=(YA (s:=s) 0 (Int.le_refl 0)).1 j a b
 unfold BD
 rw[PW (Int.le_refl 0) a Aa e.2,Int.zero_add];exact this
theorem YK{s:A0}(h:BD s≠[]):FK (BD s)=true:=UW.2 ⟨h,oT s⟩
theorem AR9{c:Int}{f:Bool}(h:CF c f=true):c<128:=by
 rcases Int.lt_or_le c 128 with x|x
 ·exact x
 ·rw[xI x]at h;cases h
theorem oU(s:A0):DJ (BD s)=true:=oS (λ j a b=>AR9 (oT s j a b)) 0 (Int.le_refl 0)
theorem AS0{s:A0}{t:Tk}{n:Int}(h:C1 s=(t,n,0)):HH t=true:=by
 have i:(C3=C3):=rfl
 unfold C1 at h
 split at h
 ·cases h;unfold HH;simp[oU]
 split at h
 ·simp only[Prod.mk.injEq]at h
  rw[<-h.1];unfold HH;simp[eT]
 split at h
 ·rename_i hm
  cases h
  rcases RT s with e|e
  ·exact absurd e hm
  ·unfold HH aC;simp[e.1]
 split at h
 ·rename_i hw
  cases h;unfold HH;simp[YK hw]
 split at h
 ·simp only[Prod.mk.injEq]at h
  rw[<-h.1];unfold HH;simp[eT]
 split at h
 ·split at h
  ·rename_i b
   simp only[Prod.mk.injEq]at h
   exact absurd h.2.2 b
  ·rename_i b
   cases h
   have:=(AR4 (runN s)).1 (by simpa using b)
   unfold HH;simp[this]
 ·simp at h
def YL(r:A0):Prop:=r=[]\/ ∃q,r=32::q
theorem YL.stop {r:A0}(h:YL r)(v:A0):Stop v r:=by
 rcases h with rfl|⟨q,rfl⟩
 ·exact .inl U
 ·exact .inr (.inl ⟨by simp,rfl⟩)
theorem eU{s:A0}(h:FK s=true){r:A0}(b:YL r):BD (s++r)=s:=by
 have i:=UW.1 h
 have e:CP s 0=len s:=Q0 (Int.le_refl _) i.2 (λ x=>absurd x (Int.lt_irrefl _)) 0 (Int.le_refl 0) (A8 s)
 have e2:BD (s++[])=s:=by rw[List.append_nil];unfold BD;rw[e];exact NP s (len s) (Int.le_refl _)
 exact eD e2 (b.stop [])
theorem AS1{s:A0}(h:FK s=true): ∃a q,s=a::q/\F2 (a.toNat:Int)=true:=by
 obtain⟨h1,b⟩:=UW.1 h
 cases s with
 |nil=>exact absurd U h1
 |cons a q=>
  have:=b 0 (Int.le_refl 0) (KO.1 h1)
  rw[FT]at this
  unfold CF at this
  simp only[beq_self_eq_true,Bool.not_true,Bool.false_and,Bool.or_false]at this
  exact⟨a,q,rfl,this⟩
theorem AS2: ∀m∈G7,C1 (m++[])=(⟨1,m,C3,0⟩,len m,0):=by decide+kernel
theorem YM(s:A0): ∃q,DZ s=34::q:=⟨_,rfl⟩
theorem AS3{t:Tk}(h:HH t=true){r:A0}(B:YL r):C1 (RU t++r)=({ t with pos:=0},len (RU t),0)/\RU t≠[]:=by
 obtain⟨kind,s,c,pos⟩:=t
 unfold HH at h
 unfold RU
 dsimp only at h ⊢
 split at h
 ·rename_i i
  simp only[beq_iff_eq]at i
  simp only[Bool.and_eq_true,decide_eq_true_eq]at h
  subst i
  obtain⟨h1,rfl⟩:=h
  unfold aC at h1
  have hm:s∈G7:=by simpa using h1
  have k:s≠[]:=by
   have: ∀m∈G7,m≠[]:=by decide
   exact this s hm
  rw[if_neg Ab,if_neg Ab,if_neg Ab]
  exact⟨eG k (AS2 s hm) (B.stop []),k⟩
 split at h
 ·rename_i i
  simp only[beq_iff_eq]at i
  simp only[Bool.and_eq_true,decide_eq_true_eq]at h
  subst i
  obtain⟨h1,rfl⟩:=h
  obtain⟨a,q,hs,l⟩:=AS1 h1
  have hw:=eU h1 B
  have k:s≠[]:=by rw[hs];simp
  rw[if_neg Ab,if_neg Ab,if_neg Ab]
  refine⟨?_,k⟩
  have n:A4 (s++r) 0=(a.toNat:Int):=by rw[hs];rfl
  have j: ¬(a.toNat:Int)=46:=λ e=>by rw[e]at l;cases l
  have hm:EM (s++r)=[]:=by rw[hs];exact Q2 (eE l)
  unfold C1
  rw[n,if_neg (λ x=>j x.1),if_neg (λ x=>j x.1),hm,if_neg (λ x=>x U),hw,if_pos k]
 split at h
 ·rename_i i
  simp only[Bool.or_eq_true,beq_iff_eq]at i
  simp only[Bool.and_eq_true,decide_eq_true_eq]at h
  obtain⟨h1,rfl⟩:=h
  obtain⟨q,y⟩:=YM s
  have hu:=eQ h1 r
  rcases i with rfl|rfl
  ·rw[if_pos U]
   by_cases hw: ¬BD s=s\/s=[]
   ·rw[if_pos hw]
    refine⟨?_,by simp⟩
    have w:BD (DZ s++r)=[]:=by rw[y];exact KP U
    have hp:Lib.hasPrefix (DZ s++r) [34]=true:=by rw[y];exact LX.2 ⟨by simp,rfl⟩
    unfold C1
    rw[List.cons_append,FT,UZ,w,if_neg (λ x=>x.2 U),if_pos ⟨rfl,hp⟩,hu,AL]
    simp only[Prod.mk.injEq,true_and,and_true];omega
   ·rw[if_neg hw]
    simp only[not_or,Classical.not_not]at hw
    refine⟨?_,by simp⟩
    have H:FK s=true:=by rw[<-hw.1];exact YK (by rw[hw.1];exact hw.2)
    have C:=eU H B
    unfold C1
    rw[List.cons_append,FT,UZ,C,if_pos ⟨rfl,hw.2⟩,AL]
    simp only[Prod.mk.injEq,true_and,and_true];omega
  ·rw[if_neg Ab,if_pos U]
   refine⟨?_,by rw[y];simp⟩
   have n:A4 (DZ s++r) 0=34:=by rw[y];rfl
   have w:BD (DZ s++r)=[]:=KP (by rw[n];rfl)
   have D:EM (DZ s++r)=[]:=by rw[y];exact Q2 U
   unfold C1
   rw[n,if_neg (λ x=>absurd x.1 Ab),if_neg (λ x=>absurd x.1 Ab),D,if_neg (λ x=>x U),w,if_neg (λ x=>x U),if_pos U,hu]
 split at h
 ·rename_i i
  simp only[beq_iff_eq]at i
  simp only[Bool.and_eq_true,beq_iff_eq]at h
  subst i
  obtain⟨rfl,h1⟩:=h
  rw[if_neg Ab,if_neg Ab,if_pos U]
  obtain⟨p1,⟨g,q,hg,E⟩,p3⟩:=AR1 h1
  obtain⟨a,G,l,b⟩: ∃a G,I3 c=a::G/\((a.toNat:Int)=45\/C5 (a.toNat:Int)=true):=by
   rw[hg]
   cases c.neg with
   |true=>exact⟨45,g::q,rfl,.inl U⟩
   |false=>exact⟨g,q,rfl,.inr E⟩
  have k:I3 c≠[]:=by rw[l];simp
  refine⟨?_,k⟩
  have z:runN (I3 c++r)=I3 c:=by
   have e:runN (I3 c++[])=I3 c:=by
    rw[XA,List.append_nil];exact nZ p3
   exact o8 e (B.stop [])
  have n:A4 (I3 c++r) 0=(a.toNat:Int):=by rw[l];rfl
  obtain⟨g1,g2⟩:=o9 b
  have hm:EM (I3 c++r)=[]:=by rw[l];exact Q2 g1
  have hw:BD (I3 c++r)=[]:=KP (by rw[n];exact g2)
  have A: ¬(a.toNat:Int)=46:=λ e=>by rw[e]at b;revert b;decide
  have F: ¬(a.toNat:Int)=34:=λ e=>by rw[e]at b;revert b;decide
  unfold C1
  rw[n,if_neg (λ x=>A x.1),if_neg (λ x=>A x.1),hm,if_neg (λ x=>x U),hw,if_neg (λ x=>x U),if_neg F,if_pos b,z,p1,if_neg (by simp)]
 ·cases h
theorem Lx.HH {s:A0}{i:Int}{l:List Tk}(h:Lx s i l): ∀t∈l,Eng.HH t=true:=by
 induction h with
 |done _ _=>intro t b;cases b
 | @step i n t l _ _ h _ ih=>
  intro e b
  rcases List.mem_cons.1 b with rfl|b
  ·have:Eng.HH t=true:=AS0 h
   exact this
  ·exact ih e b
theorem AS4(r:Int):len (Lib.encodeRuneZ r)<=4:=by
 unfold Lib.encodeRuneZ
 repeat' split
 all_goals (unfold len;simp)
theorem eV{s:A0}: ∀(f:Nat) (i:Int) (acc:List Int),0<=i->i<=len s->len (DQ f s i acc).1<=len acc+4*(len s-i)
 |0,i,acc,h0,h1=>by unfold DQ;have:=A8 acc;rw[len_nil];omega
 |f+1,i,acc,h0,h1=>by
  have h:=A8 acc
  have j:len ([]:A0)=0:=rfl
  have he:=AS4
  unfold DQ
  split
  ·rename_i b
   have k:=EB s i h0 h1
   split
   ·have:len (toStr acc)=len acc:=by unfold toStr len;simp
    dsimp only;omega
   ·split
    ·have e:=XD (A5 s i)
     split
     ·dsimp only;omega
     ·have:=eV (s:=s) f (i+(BW (A5 s i)).2) (acc++Lib.encodeRuneZ (BW (A5 s i)).1) Aa Aa
      have:=he (BW (A5 s i)).1
      rw[AO]at*
      omega
    ·split
     ·dsimp only;omega
     ·have e:=cW h0 b
      rw[PM s i h0]
      have:=eV (s:=s) f (i+runeLen s i) (acc++Lib.encodeRuneZ (B2 (A5 s i) 0)) Aa Aa
      have:=he (B2 (A5 s i) 0)
      rw[AO]at*
      omega
  ·dsimp only;omega
theorem eW(s:A0):len (B4 s).1<=4*len s:=by
 have:=A8 s
 unfold B4
 split
 ·rename_i h
  have h1:(1:Int)<=len s:=XI h
  have:=eV (s:=s) s.length 1 [] Aa h1
  rw[len_nil]at this;omega
 ·show len ([]:A0)<=_
  rw[len_nil];omega
def EH(s:A0)(i:Int):A0:=((A5 s i).takeWhile CS).take 7
def I6(s:A0)(i:Int):Int×Int:=
 if EH s i=[]\/(A4 s i=48/\1<len (EH s i))\/1000000<CG (EH s i)then(-1,i)else(CG (EH s i),i+len (EH s i))
def OB:Sp:=⟨false,[],0⟩
def OC(s:A0)(i j:Int):Sp×Int:=
 if len s<=j\/A4 s j≠91 then(OB,i)
 else if(I6 s (j+1)).1<0\/len s<=(I6 s (j+1)).2\/A4 s (I6 s (j+1)).2≠93 then(OB,i)
 else(⟨true,[],(I6 s (j+1)).1⟩,(I6 s (j+1)).2+1)
def DF(s:A0)(i:Int)(first:Bool):Sp×Int:=
 if i<len s/\A4 s i=46 then
  if BD (A5 s (i+1))≠[]then(⟨false,BD (A5 s (i+1)),0⟩,i+1+len (BD (A5 s (i+1))))
  else if(B4 (A5 s (i+1))).2.2=0/\FK (B4 (A5 s (i+1))).1=false/\MW (B4 (A5 s (i+1))).1=Eng.sub s (i+1) (i+1+(B4 (A5 s (i+1))).2.1)then(⟨false,(B4 (A5 s (i+1))).1,0⟩,i+1+(B4 (A5 s (i+1))).2.1)
  else if first=false then(OB,i)else OC s i (i+1)
 else if first then(OB,i)else OC s i i
def GH:Nat->A0->List Sp->Int->List Sp×Int
 |0,_,p,i=>(p,i)
 |f+1,s,p,i=>if(DF s i (p.isEmpty)).2=i then(p,i)else GH f s (p++[(DF s i (p.isEmpty)).1]) (DF s i (p.isEmpty)).2
def EX(s:A0)(i:Int):List Sp×Int:=if(GH 20 s [] i).1=[]/\i<len s/\A4 s i=46 then([],i+1)else GH 20 s [] i
def D0(s:A0):List Sp×Int×Int:=
 if s=[46]then((EX s 0).1,0,0)else if(EX s 0).1=[]then([],0,1)else if(EX s 0).2<len s then([],(EX s 0).2,1)else((EX s 0).1,0,0)
def OD(s:A0):Bool:=(D0 s).2.2==0
def Sp.B3 (x:Sp):Prop:=(x.part=true->x.name=[]/\0<=x.n/\x.n<=1000000)/\(x.part=false->x.n=0/\DJ x.name=true)
def Sp.CM (x:Sp):A0:=if x.part then [91]++Lib.itoa x.n++[93]else [46]++EV x.name
def DM(p:List Sp):A0:=(if p=[]\/(at' p 0).part=true then [46]else [])++(p.map Sp.CM).flatten
theorem AS5{s:A0}:FK s=PO s:=by
 unfold PO
 by_cases h:s=[]
 ·subst h;decide+kernel
 ·by_cases hw:FK s=true
  ·rw[hw]
   have:=eU hw (r:=[]) (.inl U)
   rw[List.append_nil]at this
   rw[this];simp[h]
  ·rw[Bool.eq_false_iff.2 hw]
   symm
   rw[Bool.and_eq_false_iff];right
   rw[beq_eq_false_iff_ne]
   intro e
   exact hw (by rw[<-e];exact YK (by rw[e];exact h))
theorem Q3(a:A0)(c:UInt8):CG (a++[c])=CG a*10+((c.toNat:Int)-48):=by unfold CG;rw[List.foldl_append];rfl
theorem eX{α:Type}{p:List α->Prop}(h0:p [])(hs: ∀a c,p a->p (a++[c]))(l:List α):p l:=by
 rw[<-List.reverse_reverse l]
 induction l.reverse with
 |nil=>exact h0
 |cons c a b=>rw[List.reverse_cons];exact hs _ _ b
theorem oV{g:A0}(h:CD g):0<=CG g:=by
 induction g using eX with
 |h0=>exact Int.le_refl _
 |hs a c i=>
  rw[Q3]
  have:=i λ b j=>h b (by simp[j])
  have e:=h c (by simp)
  unfold CS C5 at e
  simp only[Bool.and_eq_true,decide_eq_true_eq]at e
  omega
theorem AS6{g:A0}(h:CD g)(s:g≠[])(w: ¬(A4 g 0=48/\1<len g)):Lib.itoa (CG g)=g:=by
 induction g using eX with
 |h0=>exact absurd U s
 |hs a c y=>
  have l:=h c (by simp)
  unfold CS C5 at l
  simp only[Bool.and_eq_true,decide_eq_true_eq]at l
  have n:CD a:=λ b z=>h b (by simp[z])
  have h0:=oV n
  rw[cQ (by rw[Q3];omega),Q3]
  have j:toStr [48+(CG a*10+((c.toNat:Int)-48))%10]=[c]:=by
   have:48+(CG a*10+((c.toNat:Int)-48))%10=(c.toNat:Int):=by omega
   rw[this,cP _ c.toNat Aa,UInt8.ofNat_toNat]
  rw[j]
  congr 1
  by_cases he:a=[]
  ·subst he
   have:CG []=0:=rfl
   rw[if_neg Aa]
  ·have hl:=GL he
   have i: ¬A4 a 0=48:=λ e=>w ⟨by rw[I5 (Int.le_refl 0) hl];exact e,by rw[AO];have:len [c]=1:=rfl;omega⟩
   have h1:=y n he (λ e=>i e.1)
   have q:0<CG a:=by
    rcases Int.lt_or_eq_of_le h0 with k|k
    ·exact k
    ·exfalso
     rw[<-k]at h1
     have:Lib.itoa 0=[48]:=by decide+kernel
     rw[this]at h1
     rw[<-h1]at i
     exact i U
   rw[if_pos Aa,show(CG a*10+((c.toNat:Int)-48))/10=CG a by omega,h1]
theorem AS7(s:A0)(i:Int):CD (EH s i):=λ b e=>by
 unfold EH at e
 have:=List.mem_of_mem_take e
 exact List.all_eq_true.1 List.all_takeWhile b this
theorem oW(s:A0)(i:Int): ∃r,A5 s i=EH s i++r:=by
 have h1:=List.takeWhile_prefix CS (l:=A5 s i)
 have b:=List.take_prefix 7 ((A5 s i).takeWhile CS)
 obtain⟨r,e⟩:=b.trans h1
 exact⟨r,e.symm⟩
theorem oX{s:A0}{i j:Int}{x:Sp}{zz:Int}(h0:0<=i)(K:i<=j)(h:OC s i j=(x,zz))(D:zz≠i):x.B3/\x.part=true/\A5 s j=x.CM++A5 s zz/\j<zz/\zz<=len s:=by
 unfold OC at h
 split at h
 ·simp only[Prod.mk.injEq]at h;omega
 ·rename_i h1
  split at h
  ·simp only[Prod.mk.injEq]at h;omega
  ·rename_i b
   simp only[Prod.mk.injEq]at h
   obtain⟨rfl,rfl⟩:=h
   have l: ¬(EH s (j+1)=[]\/(A4 s (j+1)=48/\1<len (EH s (j+1)))\/1000000<CG (EH s (j+1))):=by
    intro E
    unfold I6 at b
    rw[if_pos E]at b
    exact b (.inl (by show(-1:Int)<0;omega))
   unfold I6 at b ⊢
   rw[if_neg l]at b ⊢
   dsimp only at b ⊢
   have B:=AS7 s (j+1)
   obtain⟨r,n⟩:=oW s (j+1)
   have k:EH s (j+1)≠[]:=λ e=>l (.inl e)
   have q:=GL k
   have F:A4 (EH s (j+1)) 0=A4 s (j+1):=by
    have C:A4 (A5 s (j+1)) 0=A4 s (j+1+0):=O0 s (j+1) 0 Aa (Int.le_refl 0)
    rw[n,I5 (Int.le_refl 0) q,Int.add_zero]at C;exact C
   have hi:=AS6 B k (λ e=>l (.inr (.inl ⟨by rw[<-F];exact e.1,e.2⟩)))
   have hd:=oV B
   have w:j+1+len (EH s (j+1))<len s:=by omega
   refine⟨⟨λ _=>⟨rfl,hd,by show CG _<=_;omega⟩,(λ e=>by cases e)⟩,rfl,?_,Aa,Aa⟩
   show _=[91]++Lib.itoa (CG (EH s (j+1)))++[93]++_
   rw[hi]
   obtain⟨G,H,e2⟩:=K1 s j Aa Aa
   obtain⟨J,e3,e4⟩:=K1 s (j+1+len (EH s (j+1))) Aa w
   have y:G=91:=UInt8.toNat_inj.1 (by have:(91:UInt8).toNat=91:=rfl;omega)
   have z:J=93:=UInt8.toNat_inj.1 (by have:(93:UInt8).toNat=93:=rfl;omega)
   have A:r=A5 s (j+1+len (EH s (j+1))):=by
    rw[<-K4 s (j+1) _ Aa Aa,n,PZ]
   rw[H,y,n,A,e3,z]
   simp
theorem AS8(s:A0):s=BD s++A5 s (len (BD s)):=by
 have b:=UL s
 have:=eA (s:=s) (n:=len (BD s)) b.1 b.2
 have e:Eng.sub s 0 (len (BD s))=BD s:=by rw[LR];rfl
 rw[e]at this;exact this.1
theorem oY{s:A0}{i:Int}{first:Bool}{x:Sp}{zz:Int}(h0:0<=i)(h:DF s i first=(x,zz))(j:zz≠i):
  x.B3/\A5 s i=(if first&&x.part then [46]else [])++(x.CM++A5 s zz)/\i<zz/\zz<=len s:=by
 unfold DF at h
 split at h
 ·rename_i h1
  obtain⟨z,l,e2⟩:=K1 s i h0 h1.1
  have n:z=46:=UInt8.toNat_inj.1 (by have:(46:UInt8).toNat=46:=rfl;omega)
  subst n
  have hl:=EB s (i+1) Aa Aa
  split at h
  ·rename_i y
   simp only[Prod.mk.injEq]at h
   obtain⟨rfl,rfl⟩:=h
   have q:=UL (A5 s (i+1))
   refine⟨⟨(λ e=>by cases e),λ _=>⟨rfl,oU _⟩⟩,?_,Aa,Aa⟩
   show _=(if first&&false then [46]else [])++(([46]++EV (BD (A5 s (i+1))))++_)
   rw[Bool.and_false,if_neg Ab]
   unfold EV
   rw[if_pos (YK y),l,<-K4 s (i+1) _ Aa q.1]
   conv=>lhs;rw[AS8 (A5 s (i+1))]
   simp
  ·split at h
   ·rename_i w
    simp only[Prod.mk.injEq]at h
    obtain⟨rfl,rfl⟩:=h
    have q:=O1 (A5 s (i+1))
    have y:=q.2.2.1 w.1
    refine⟨⟨(λ e=>by cases e),λ _=>⟨rfl,eT _⟩⟩,?_,Aa,Aa⟩
    show _=(if first&&false then [46]else [])++(([46]++EV (B4 (A5 s (i+1))).1)++_)
    rw[Bool.and_false,if_neg Ab]
    unfold EV
    rw[w.2.1,if_neg Ab,w.2.2,l]
    have k:=S6 s (i+1) (i+1+(B4 (A5 s (i+1))).2.1) Aa Aa
    generalize (B4 (A5 s (i+1))).2.1=m at k ⊢
    conv=>lhs;rw[k]
    simp
   ·split at h
    ·simp only[Prod.mk.injEq]at h;omega
    ·rename_i b
     have b:first=true:=by simpa using b
     subst b
     obtain⟨g1,g2,g3,g4,g5⟩:=oX h0 Aa h j
     refine⟨g1,?_,Aa,g5⟩
     rw[g2,l,g3];rfl
 ·split at h
  ·simp only[Prod.mk.injEq]at h;omega
  ·rename_i b
   obtain⟨g1,g2,g3,g4,g5⟩:=oX h0 (Int.le_refl i) h j
   refine⟨g1,?_,g4,g5⟩
   rw[g3]
   have b:first=false:=by simpa using b
   rw[b];rfl
theorem AS9(p:List Sp)(x:Sp):DM (p++[x])=if p=[]then(if x.part then [46]else [])++x.CM else DM p++x.CM:=by
 unfold DM
 cases p with
 |nil=>simp[at']
 |cons a p=>simp[at']
theorem oZ{s:A0}: ∀(f:Nat) (p:List Sp) (i:Int) (p2:List Sp) (i2:Int),0<=i->i<=len s->GH f s p i=(p2,i2)->(∀x∈p,x.B3)->(p≠[]->s=DM p++A5 s i)->(p=[]->i=0)->
  (∀x∈p2,x.B3)/\p2.length<=p.length+f/\0<=i2/\i2<=len s/\(p2≠[]->s=DM p2++A5 s i2)/\(p2=[]->i2=0)
 |0,p,i,p2,i2,h0,h1,h,hp,hs,hi=>by
  rw[GH]at h
  simp only[Prod.mk.injEq]at h;obtain⟨rfl,rfl⟩:=h
  exact⟨hp,Aa,h0,h1,hs,hi⟩
 |f+1,p,i,p2,i2,h0,h1,h,hp,hs,hi=>by
  rw[GH]at h
  split at h
  ·simp only[Prod.mk.injEq]at h;obtain⟨rfl,rfl⟩:=h
   exact⟨hp,Aa,h0,h1,hs,hi⟩
  ·rename_i b
   obtain⟨g1,g2,g3,g4⟩:=oY h0 (x:=(DF s i p.isEmpty).1) (zz:=(DF s i p.isEmpty).2) rfl b
   have:=oZ f _ _ p2 i2 Aa g4 h (λ x hx=>by
    rcases List.mem_append.1 hx with hx|hx
    ·exact hp x hx
    ·rw[List.mem_singleton.1 hx];exact g1) (λ _=>by
     rw[AS9]
     by_cases hpe:p=[]
     ·subst hpe
      have:=hi U
      subst this
      rw[if_pos U,List.append_assoc]
      exact g2
     ·rw[if_neg hpe,List.append_assoc]
      have he:p.isEmpty=false:=by cases p with|nil=>exact absurd rfl hpe|cons a p=>rfl
      rw[he]at g2 ⊢
      have:=hs hpe
      rw[g2]at this
      exact this) (λ e=>by simp at e)
   refine⟨this.1,?_,this.2.2⟩
   have j:=this.2.1
   rw[List.length_append,List.length_singleton]at j;omega
theorem pA{s:A0}(h:OD s=true): ∃p:List Sp,p.length<=20/\(∀x∈p,x.B3)/\s=DM p/\(D0 s).1=p:=by
 unfold OD D0 at h
 unfold D0
 obtain⟨g1,g2,g3,g4,g5,g6⟩:=oZ (s:=s) 20 [] 0 (GH 20 s [] 0).1 (GH 20 s [] 0).2 (Int.le_refl 0) (A8 s) rfl (λ x hx=>by cases hx) (λ e=>absurd rfl e) (λ _=>rfl)
 have hp:(EX s 0).1=(GH 20 s [] 0).1:=by
  unfold EX
  split
  ·rename_i h1;exact h1.1.symm
  ·rfl
 split at h
 ·rename_i h1
  subst h1
  rw[if_pos U]
  exact⟨[],Ab,(λ x hx=>by cases hx),Ab,Ac⟩
 ·rename_i h1
  rw[if_neg h1]
  split at h
  ·exact absurd h (show ¬((1:Int)==0)=true by decide)
  ·rename_i b
   rw[if_neg b]
   split at h
   ·exact absurd h (show ¬((1:Int)==0)=true by decide)
   ·rename_i i
    rw[if_neg i]
    rw[hp]at b ⊢
    have j:EX s 0=GH 20 s [] 0:=by
     unfold EX
     rw[if_neg (λ e=>b e.1)]
    rw[j]at i
    refine⟨_,by simpa using g2,g1,?_,rfl⟩
    have:=g5 b
    rw[PH _ _ Aa,List.append_nil]at this
    exact this
end Go.Eng
set_option maxRecDepth 100000
namespace Go.Proofs.YtnoegalemkbbbaaGreatDoor
open Go.Proofs.Tryz
open Go.Eng Go.RowKit
theorem pB(n:Int)(w:World)(h:0<=n/\n<=15):Calls prog 261 [i64 n].toArray w λ e w'=>e= .returned (str (MU n))/\Ext w w':=AH AF func261 U ntmps261 [] [] [I n] U (BE w) A3 (λ B b=>A2 b U U U (λ w M i=>⟨rfl,i.st.low⟩) (hO:=by and_intros<;>first|omega|(show _<=(16:Int);omega)|trivial)) U
theorem pC(n:Int):0<=len (MU n)/\len (MU n)<=1:=by unfold MU Eng.sub len;simp;omega
theorem AT0(x:Int)(w:World)(h:0<=x/\x<=255):Calls prog 237 [.int .u8 x].toArray w λ e w'=>e= .returned (str (MV x))/\Ext w w':=by
 have k:=pC (x/16)
 have l:=pC (x%16)
 have b:=MV.eq_1 x
 refine AH AF func237 U ntmps237 [] [] [.v (.int .u8 x)] U (BE w) A3 (λ B j=>?_) U
 refine A1 U (λ h1=>?_) (λ h1=>?_)<;>simp only[zb]at h1
 ·rw[if_pos h1]at b
  exact A2 j U U U (λ w M i=>⟨by rw[b];rfl,i.st.low⟩)
 rw[if_neg h1]at b
 refine A1 U (λ h1=>?_) (λ h1=>?_)<;>simp only[zb]at h1
 ·rw[if_pos h1]at b
  exact A2 j U U U (λ w M i=>⟨by rw[b];rfl,i.st.low⟩)
 rw[if_neg h1]at b
 refine A1 U (λ h1=>?_) (λ h1=>?_)<;>simp only[zb]at h1
 ·rw[if_pos h1]at b
  exact A2 j U U U (λ w M i=>⟨by rw[b];rfl,i.st.low⟩)
 rw[if_neg h1]at b
 refine A1 U (λ h1=>?_) (λ h1=>?_)<;>simp only[zb]at h1
 ·rw[if_pos h1]at b
  exact A2 j U U U (λ w M i=>⟨by rw[b];rfl,i.st.low⟩)
 rw[if_neg h1]at b
 refine A1 U (λ h1=>?_) (λ h1=>?_)<;>simp only[zb]at h1
 ·rw[if_pos h1]at b
  exact A2 j U U U (λ w M i=>⟨by rw[b];rfl,i.st.low⟩)
 rw[if_neg h1]at b
 refine A1 U (λ h1=>?_) (λ h1=>?_)<;>simp only[zb]at h1
 ·rw[if_pos h1]at b
  exact A2 j U U U (λ w M i=>⟨by rw[b];rfl,i.st.low⟩)
 rw[if_neg h1]at b
 refine A1 U (λ h1=>?_) (λ h1=>?_)<;>simp only[zb]at h1
 ·rw[if_pos h1]at b
  exact A2 j U U U (λ w M i=>⟨by rw[b];rfl,i.st.low⟩)
 rw[if_neg h1]at b
 refine A1 U (λ h1=>?_) (λ h1=>?_)<;>simp only[zb]at h1
 ·rw[if_pos h1]at b
  refine AJ U call261 U U (λ _ w M i=>pB (x/16) w Aa) U <|AJ U call261 U U (λ _ w M i=>pB (x%16) w Aa) U ?_ (hO:=by simp only[AL,len_nil];and_intros<;>first|omega|trivial)
  exact A2 j U U U (λ w M i=>⟨by rw[b];rfl,i.st.low⟩) (hO:=by simp only[AO,AL,len_nil];and_intros<;>first|omega|trivial)
 rw[if_neg h1]at b
 exact BH 3 [x] BV 1 5 FW U U Ah U (λ v3=>AR (.v (str (toStr [x]))) U U (λ w M i=>PV.TM i.st GZ (i.sl 3 U) (A7 (v:=.sl 3 v3) (E:=[]) U) underlying216 underlying5 underlying9) <|A2 j U U U (λ w M i=>⟨by rw[b];rfl,i.st.low⟩))
theorem AT1(s:A0)(w:World)(A:len s<=1099511627776):Calls prog 203 [str s].toArray w λ e w'=>e= .returned (str (MW s))/\Ext w w':=by
 have l:=A8 s
 refine AH AF func203 U ntmps203 [] [] [.v (str s)] U (BE w) A3 (λ B n=>B7 (σ:=Int×A0) (λ(k,o)=>⟨[],[],[Z 0 (.v (str s)),Z 3 (.v (str o)),Z 4 (I k)]⟩) (λ(k,o)=>0<=k/\k<=len s/\o=34::(Eng.sub s 0 k).flatMap KJ/\len o<=6*k+1) (λ(k,_)=>(len s-k).toNat) (0,[34]) U U ⟨Aa,Aa,rfl,Ab⟩ ?_) U
 rintro⟨k,o⟩ ⟨i,q,b,hlen⟩
 have y:=AC5 (A4 s k)
 have z:=L7 s k
 have ho:=A8 o
 refine A1 U (λ h=>?_) (λ h=>?_)<;>simp only[zb]at h
 ·exact AJ U call237 U U (λ _ w M j=>AT0 _ w Aa) U <|AX (k+1,o++MV (A4 s k)) U U ⟨Aa,Aa,AC6 i h b,by rw[AO];omega⟩ Ag
 exact A2 n U U U (λ w M j=>⟨by unfold MW;rw[show k=len s by omega,NP _ _ (Int.le_refl _)]at b;rw[<-b];rfl,j.st.low⟩) (hO:=by simp only[AL,len_nil];and_intros<;>first|omega|trivial)
theorem pD(n:Int)(w:World)(h:0<=n/\n<=1114111)(hs:n<55296\/57343<n):Calls prog 284 [i64 n].toArray w λ e w'=>e= .returned (str (toStr (Lib.encodeRuneZ n)))/\Ext w w':=by
 refine AH AF func284 U ntmps284 [] [] [I n] U (BE w) A3 (λ B i=>?_) U
 refine A1 U (λ h1=>?_) (λ h1=>?_)<;>simp only[zb]at h1
 ·rw[Lib.encodeRuneZ_one Aa Aa]at i
  exact BH 3 [n] BV 1 5 FW U U Ah U (λ v3=>AR (.v (str (toStr [n]))) U U (λ w M b=>PV.TM b.st GZ (b.sl 3 U) (A7 (v:=.sl 3 v3) (E:=[]) U) underlying216 underlying5 underlying9) <|A2 i U U U (λ w M b=>⟨rfl,b.st.low⟩))
 refine A1 U (λ h1=>?_) (λ h1=>?_)<;>simp only[zb]at h1
 ·rw[Lib.encodeRuneZ_two Aa Aa]at i
  exact BH 3 [192+n/64,128+n%64] BV 1 5 FW U U Ah U (λ v3=>AR (.v (str (toStr [192+n/64,128+n%64]))) U U (λ w M b=>PV.TM b.st GZ (b.sl 3 U) (A7 (v:=.sl 3 v3) (E:=[]) U) underlying216 underlying5 underlying9) <|A2 i U U U (λ w M b=>⟨rfl,b.st.low⟩))
 refine A1 U (λ h1=>?_) (λ h1=>?_)<;>simp only[zb]at h1
 ·rw[Lib.encodeRuneZ_three Aa]at i
  exact BH 3 [224+n/4096,128+n/64%64,128+n%64] BV 1 5 FW U U Ah U (λ v3=>AR (.v (str (toStr [224+n/4096,128+n/64%64,128+n%64]))) U U (λ w M b=>PV.TM b.st GZ (b.sl 3 U) (A7 (v:=.sl 3 v3) (E:=[]) U) underlying216 underlying5 underlying9) <|A2 i U U U (λ w M b=>⟨rfl,b.st.low⟩))
 rw[Lib.encodeRuneZ_four Aa Aa]at i
 exact BH 3 [240+n/262144,128+n/4096%64,128+n/64%64,128+n%64] BV 1 5 FW U U Ah U (λ v3=>AR (.v (str (toStr [240+n/262144,128+n/4096%64,128+n/64%64,128+n%64]))) U U (λ w M b=>PV.TM b.st GZ (b.sl 3 U) (A7 (v:=.sl 3 v3) (E:=[]) U) underlying216 underlying5 underlying9) <|A2 i U U U (λ w M b=>⟨rfl,b.st.low⟩))
theorem pE(s:A0)(i:Int)(w:World)(h0:0<=i)(h1:i<=len s)(S:len s<=1099511627776):Calls prog 283 [str s,i64 i].toArray w λ e w'=>e= .returned (i64 (C0 (A5 s i)))/\Ext w w':=by
 have N:=A8 s
 refine AH AF func283 U ntmps283 [] [] [.v (str s),I i] U (BE w) A3 (λ B G=>?_) U
 refine A1 U (λ K=>?_) (λ K=>?_)<;>simp only[zb]at K
 ·exact A2 G U U U (λ w M C=>⟨by rw[n8 h0 Aa];rfl,C.st.low⟩)
 have b:i+6<=len s/\A4 s i=92/\A4 s (i+1)=117:=by omega
 have D:=(S4 (s:=s) (i:=i+2) (j:=i+2) Aa (Int.le_refl _) Aa).2 U
 refine B7 (σ:=Int×Int) (λ(n,k)=>⟨[],[],[Z 0 (.v (str s)),Z 1 (I i),Z 5 (I n),Z 6 (I k)]⟩) (λ(n,k)=>i+2<=k/\k<=i+6/\EF (Eng.sub s (i+2) k)=true/\n=F7 (Eng.sub s (i+2) k)) (λ(_,k)=>(i+6-k).toNat) (0,i+2) U U ⟨Aa,Aa,by rw[D];rfl,by rw[D];rfl⟩ ?_
 rintro⟨n,k⟩ ⟨h,O,l,H⟩
 refine A1 U (λ E=>?_) (λ E=>?_)<;>simp only[zb]at E
 ·have P:=L7 s k
  have Q:=FF (s:=s) (i:=i+2) (j:=k) Aa h Aa
  have J:=AI4 l Aa
  rw[<-H]at J
  have hx:=GF.eq_1 (A4 s k)
  refine CQ 2 (λ st=> ∃y,(y=n*16+GF (A4 s k)/\0<=GF (A4 s k))/\st=⟨[],[],[Z 0 (.v (str s)),Z 1 (I i),Z 5 (I y),Z 6 (I k)]⟩) U U (λ q=>?_) (λ q=>?_) ?_<;>try simp only[zb]at q
  ·rw[if_pos q]at hx
   exact AT _ U U ⟨_,Aa,rfl⟩
  ·rw[if_neg Aa]at hx
   refine A1 U (λ z=>?_) (λ z=>?_)<;>simp only[zb]at z
   ·rw[if_pos z]at hx
    exact AT _ U U ⟨_,Aa,rfl⟩
   rw[if_neg Aa]at hx
   refine A1 U (λ A=>?_) (λ A=>?_)<;>simp only[zb]at A
   ·rw[if_pos A]at hx
    exact AT _ U U ⟨_,Aa,rfl⟩
   rw[if_neg Aa]at hx
   exact A2 G U U U (λ w M C=>⟨by rw[Y1 h0 b.1 b.2.1 b.2.2,n7 (s:=s) (i:=i+2) (k:=k) (j:=i+6) Aa h Aa b.1 Aa];rfl,C.st.low⟩)
  rintro _ ⟨y,L,rfl⟩
  have F:=n5 (s:=s) (i:=i+2) (k:=k) Aa h Aa l L.2
  exact AX (y,k+1) U U ⟨Aa,Aa,F.1,by rw[F.2,L.1,H]⟩ Ag
 have R:k=i+6:=by omega
 subst R
 exact A2 G U U U (λ w M C=>⟨by rw[Y1 h0 b.1 b.2.1 b.2.2,if_pos l,<-H];rfl,C.st.low⟩)
theorem AT2(s:A0)(i:Int)(w:World)(h0:0<=i)(h1:i<len s)(F:len s<=1099511627776):Calls prog 260 [str s,i64 i].toArray w λ e w'=>e= .returned (.tuple #[str (PX (BW (A5 s i))).1,i64 (PX (BW (A5 s i))).2])/\Ext w w':=by
 have J:=A8 s
 have hl:=EB s i h0 Aa
 have n:=O0 s i 1 h0 Aa
 have hu:=NY (A5 s i)
 have K:=NY (A5 s (i+6))
 have C:=K4 s i 6 h0 Aa
 have O:len JK=8:=rfl
 have L:len dP=8:=rfl
 have he:=BW.eq_1 (A5 s i)
 rw[C]at he
 refine AH AF func260 U ntmps260 [] [] [.v (str s),I i] U (BE w) A3 (λ B z=>?_) U
 refine A1 U (λ D=>?_) (λ D=>?_)<;>simp only[zb]at D
 ·rw[if_pos Aa]at he
  exact A2 z U U U (λ w M l=>⟨by rw[he];rfl,l.st.low⟩)
 rw[if_neg Aa]at he
 refine B7 (σ:=Int) (λ k=>⟨[],[],[Z 0 (.v (str s)),Z 1 (I i),Z 6 (.v (str JK)),Z 7 (.v (str dP)),Z 8 (I k)]⟩) (λ k=>0<=k/\k<=8/\S5 (A4 s (i+1)) k) (λ k=>(8-k).toNat) 0 U U ⟨Aa,Aa,λ j D P=>by omega⟩ ?_
 rintro k ⟨E,N,G⟩
 refine A1 U (λ A=>?_) (λ A=>?_)<;>simp only[zb]at A
 ·refine D7 [] 1 (λ _ _ _ _ _ h=>h) U Ai U <|BL U U U ?_
  refine A1 U (λ b=>?_) (λ b=>?_)<;>simp only[zb]at b
  ·have H:=AI2 (c:=A4 s (i+1)) E Aa b
   exact A2 z U U U (λ w M l=>⟨by rw[AI3 Aa (by rw[n];exact H.1),n,H.2];rfl,l.st.low⟩)
  ·exact AX (k+1) U U ⟨Aa,Aa,G.step b⟩ Aa
 rw[if_neg (by rw[n,G.dO Aa];simp)]at he
 refine AJ U call283 U U (λ _ w M l=>pE s i w h0 Aa F) U ?_
 refine A1 U (λ b=>?_) (λ b=>?_)<;>simp only[zb]at b
 ·rw[if_pos b]at he
  exact A2 z U U U (λ w M l=>⟨by rw[he];rfl,l.st.low⟩)
 rw[if_neg Aa]at he
 refine A1 U (λ q=>?_) (λ q=>?_)<;>simp only[zb]at q
 ·rw[if_pos q]at he
  exact AJ U call284 U U (λ _ w M l=>pD _ w Aa Aa) U <|A2 z U U U (λ w M l=>⟨by rw[he];rfl,l.st.low⟩)
 rw[if_neg Aa]at he
 refine AJ U call283 U U (λ _ w M l=>pE s (i+6) w Aa Aa F) U ?_
 refine A1 U (λ y=>?_) (λ y=>?_)<;>simp only[zb]at y
 ·rw[if_pos y]at he
  exact A2 z U U U (λ w M l=>⟨by rw[he];rfl,l.st.low⟩)
 rw[if_neg Aa]at he
 exact AJ U call284 U U (λ _ w M l=>pD _ w Aa Aa) U <|A2 z U U U (λ w M l=>⟨by rw[he,Int.mul_comm];rfl,l.st.low⟩)
theorem AT3(s:A0)(i:Int)(w:World)(h0:0<=i)(h1:i<len s)(l:len s<=1099511627776):Calls prog 236 [str s,i64 i].toArray w λ e w'=>e= .returned (.tuple #[str (HK s i).1,i64 (HK s i).2])/\Ext w w':=by
 have n:=A8 s
 have y:=L9 s i
 have q:=rune_le s i h1
 have h:=HK.eq_1 s i
 refine AH AF func236 U ntmps236 [] [] [.v (str s),I i] U (BE w) A3 (λ B k=>?_) U
 refine A1 U (λ j=>?_) (λ j=>?_)<;>simp only[zb]at j
 ·rw[if_pos j]at h
  exact AJ U call260 U U (λ _ w M b=>AT2 s i w h0 h1 l) U <|A2 k U U U (λ w M b=>⟨by rw[h];rfl,b.st.low⟩)
 rw[if_neg j]at h
 exact AJ U call159 U U (λ _ w M b=>kX s i w h0 h1 Aa) U <|A2 k U U U (λ w M b=>⟨by rw[h];rfl,b.st.low⟩)
theorem AT4(s:A0)(w:World)(F:len s<=1099511627776):Calls prog 202 [str s].toArray w λ e w'=>e= .returned (.tuple #[str (B4 s).1,i64 (B4 s).2.1,i64 (B4 s).2.2])/\Ext w w':=by
 have G:=A8 s
 have q:= @GL _ s
 refine AH AF func202 U ntmps202 [] [] [.v (str s)] U (BE w) A3 (λ B y=>?_) U
 refine A1 rfl (λ j=>?_) (λ j=>?_) (hO:=by and_intros<;>first|omega|trivial|(rcases Decidable.em (s=[])with A|A;exact .inl (by rw[A];rfl);exact .inr ⟨Aa,q A⟩))<;>simp only[zb]at j
 ·exact A2 y rfl rfl rfl (λ w M l=>⟨by unfold B4;rw[if_neg (by rw[LX];rintro⟨h1,H⟩;rcases j with h|h;exact h1 h;exact h H)];rfl,l.st.low⟩)
 have J:=q j.1
 refine B7 (σ:=Nat×Int×A0) (λ(f,i,o)=>⟨[],[],[Z 0 (.v (str s)),Z 5 (.v (str o)),Z 6 (I i)]⟩) (λ(f,i,o)=>1<=i/\i<=len s/\LW f s i o/\(len s-i).toNat<=f/\len o<=4*i) (λ(_,i,_)=>(len s-i).toNat) (s.length,1,[]) U U ⟨Int.le_refl _,Aa,⟨[],rfl,by unfold B4;rw[if_pos (LX.2 ⟨j.1,by simpa using j.2⟩)]⟩,by unfold len;omega,Ab⟩ ?_
 rintro⟨f,i,o⟩ ⟨h0,h1,z,C,hlen⟩
 have K:=A8 o
 refine A1 U (λ b=>?_) (λ b=>?_)<;>simp only[zb]at b
 ·have L:=AI1 (s:=s) (i:=i) Aa b
  have E:=A8 (HK s i).1
  refine A1 U (λ k=>?_) (λ k=>?_)<;>simp only[zb]at k
  ·exact A2 y U U U (λ w M l=>⟨by rw[z.quote C Aa b k];rfl,l.st.low⟩)
  refine AJ U call236 U U (λ _ w M l=>AT3 s i w Aa b F) U ?_
  refine A1 U (λ n=>?_) (λ n=>?_)<;>simp only[zb]at n
  ·exact A2 y U U U (λ w M l=>⟨by rw[z.bad C Aa b k n];rfl,l.st.low⟩)
  have D:=z.step C Aa b k Aa
  exact AX (f-1,i+(HK s i).2,o++(HK s i).1) U U ⟨Aa,Aa,D,Aa,by rw[AO];omega⟩ Ag
 exact A2 y U U U (λ w M l=>⟨by rw[z.dO b];rfl,l.st.low⟩)
theorem AT5(neg:Bool)(s:A0)(x:Int)(w:World)(Q:len s<=1099511627776):Calls prog 186 [.bool neg,str s,i64 x].toArray w λ e w'=>e= .returned (.tuple #[ES (CH neg s x).1,i64 (CH neg s x).2])/\Ext w w':=by
 have F:=A8 s
 have hm:=CH.eq_1 neg s x
 refine AH AF func186 U ntmps186 [] [] [.v (.bool neg),.v (str s),I x] U (BE w) A3 (λ B C=>B9 6 U zeroValue46 U λ b=>AJ U call174 U U (λ _ w M l=>kZ s w Aa) U ?_) U
 refine A1 U (λ h1=>?_) (λ h1=>?_)<;>simp only[zb]at h1
 ·rw[if_neg (by rw[h1];simp)]at hm
  exact A2 C U U U (λ w M l=>⟨by rw[hm];rfl,l.st.low⟩)
 rw[if_pos h1]at hm
 refine B7 (σ:=A0) (λ t=>⟨[],[(6,.box b [I 0,I 0,.v (str []),.v (str []),.v (.bool false),I 0] 46)],[Z 0 (.v (.bool neg)),Z 1 (.v (str t)),Z 2 (I x),Z 6 (.bx 6 b 0),Z 7 (I 0)]⟩) (λ t=>AW t=AW s/\len t<=len s) (λ t=>t.length) s U U ⟨rfl,Aa⟩ ?_
 rintro t ⟨hF,hl⟩
 have G:=L7 t 0
 have H:=A8 t
 have J:=lF t 1
 refine A1 U (λ n=>?_) (λ n=>?_)<;>simp only[zb]at n
 ·exact AX (A5 t 1) U U ⟨by rw[AC7 n,hF],Aa⟩ (by show List.length _<List.length _;have:=EB t 1 Aa Aa;unfold len at*;omega)
 have K:t=AW s:=by rw[<-hF,lQ Aa]
 subst K
 refine A1 U (λ h=>?_) (λ h=>?_)
 ·rw[if_pos h]at hm
  exact A2 C U U U (λ w M l=>⟨by rw[hm];rfl,l.st.low⟩)
 rw[if_neg (ne_true_of_eq_false h)]at hm
 refine A1 U (λ q=>?_) (λ q=>?_)<;>rw[q]at hm
 ·exact A2 C U U U (λ w M l=>⟨by rw[hm];rfl,l.st.low⟩)
 simp only[zb]at q
 have L:=cJ s (by simpa using h)
 refine B7 (σ:=A0×Int) (λ(u,y)=>⟨[],[(6,.box b [I 0,I 0,.v (str []),.v (str []),.v (.bool false),I 0] 46)],[Z 0 (.v (.bool neg)),Z 1 (.v (str u)),Z 2 (I y),Z 6 (.bx 6 b 0),Z 7 (I 0)]⟩) (λ(u,y)=>BG u=BG (AW s)/\len u<=len (AW s)/\y+len u=x+len (AW s)) (λ(u,_)=>u.length) (AW s,x) U U ⟨rfl,Aa,rfl⟩ ?_
 rintro⟨u,y⟩ ⟨hu,N,R⟩
 have O:=L7 u (len u-1)
 have D:=lG u
 rw[hu]at D
 refine A1 U (λ k=>?_) (λ k=>?_)<;>simp only[zb]at k
 ·have P:=FF (s:=u) (i:=0) (j:=len u-1) Aa Aa Aa
  exact AX (Eng.sub u 0 (len u-1),y+1) U U ⟨by rw[AC8 Aa k,hu],Aa,Aa⟩ (by show List.length _<List.length _;unfold len at*;omega)
 have z:u=BG (AW s):=by rw[<-hu,AC9 Aa k]
 have E:y=x+(len (AW s)-len (BG (AW s))):=by rw[<-z];omega
 rw[<-E,<-z]at hm
 refine A1 U (λ A=>?_) (λ A=>?_)<;>rw[A]at hm<;>exact A2 C U U U (λ w M l=>⟨by rw[hm];rfl,l.st.low⟩)
open Go.Eng
theorem V3{P:Program}{f:FuncId}{args:Array Value}{w:World}{u:Value}(h:Calls P f args w λ e w'=>e= .returned u/\w'=w):Calls P f args w λ e w'=>e= .returned u/\Ext w w':=h.mono λ e w' ⟨h1,b⟩=>⟨h1,by rw[b];exact .refl _⟩
theorem pF{p:UInt8->Bool}: ∀ {a r:A0},(∀b∈a,p b=true)->(a++r).takeWhile p=a++r.takeWhile p
 |[],r,_=>rfl
 |x::a,r,h=>by rw[List.cons_append,List.takeWhile_cons,if_pos (h x List.mem_cons_self),pF (λ b e=>h b (List.mem_cons_of_mem _ e))];rfl
theorem AT6{s:A0}{j i:Int}(h0:0<=j)(h1:j<=i)(e:i<=len s)(l:i-j<=7)(h:CD (Eng.sub s j i))(hs:i-j=7\/len s<=i\/C5 (A4 s i)=false):EH s j=Eng.sub s j i:=by
 have hl:=FF (s:=s) h0 h1 e
 unfold EH
 rw[S6 s j i h0 h1,pF h]
 rcases hs with hs|hs|hs
 ·rw[List.take_append_of_le_length (by unfold len at hl;omega),List.take_of_length_le (by unfold len at hl;omega)]
 ·rw[PH s i hs,List.takeWhile_nil,List.append_nil,List.take_of_length_le (by unfold len at hl;omega)]
 ·by_cases hlt:i<len s
  ·obtain⟨b,k,e2⟩:=K1 s i Aa hlt
   rw[k,List.takeWhile_cons,if_neg (by unfold CS;rw[<-e2,hs];decide),List.append_nil,List.take_of_length_le (by unfold len at hl;omega)]
  ·rw[PH s i Aa,List.takeWhile_nil,List.append_nil,List.take_of_length_le (by unfold len at hl;omega)]
theorem pG{t:A0}(h:CD t)(hl:len t<=6):0<=CG t/\CG t<1000000:=by
 have:=AH8 h hl (len t)
 rwa [NP t _ (Int.le_refl _)]at this
theorem AT7{t:A0}(h:CD t)(hl:len t<=7):0<=CG t/\CG t<10000000:=by
 induction t using eX with
 |h0=>decide
 |hs a c _=>
  rw[AO,show len [c]=1 from rfl]at hl
  have:=pG (t:=a) (λ b i=>h b (by simp[i])) Aa
  have e:=h c (by simp)
  unfold CS C5 at e
  simp only[zb]at e
  rw[Q3];omega
theorem AT8(s:A0)(j:Int)(w:World)(h0:0<=j)(h1:j<=len s)(F:len s<=1099511627776):
  Calls prog 204 [str s,i64 j].toArray w λ e w'=>e= .returned (.tuple #[i64 (I6 s j).1,i64 (I6 s j).2])/\Ext w w':=by
 refine AH AF func204 U ntmps204 [] [] [.v (str s),I j] U (BE w) A3 (λ B G=>B7 (σ:=Int) (λ i=>⟨[],[],[Z 0 (.v (str s)),Z 1 (I i),Z 6 (I (CG (Eng.sub s j i))),Z 7 (I j)]⟩) (λ i=>j<=i/\i<=len s/\i-j<=7/\CD (Eng.sub s j i)) (λ i=>(len s-i).toNat) j rfl (by rw[show Eng.sub s j j=[]from(S4 h0 (Int.le_refl _) h1).2 rfl];rfl) ⟨Int.le_refl _,h1,Aa,by rw[show Eng.sub s j j=[]from(S4 h0 (Int.le_refl _) h1).2 rfl];intro b F;cases F⟩ ?_) U
 rintro i ⟨h,l,z,k⟩
 have A:=FF (s:=s) h0 h l
 refine A1 U (λ n=>?_) (λ n=>?_)<;>simp only[zb]at n
 ·have K:=pG k Aa
  obtain⟨b,H,e2⟩:=mZ (s:=s) h0 h (by omega:i<len s)
  refine AX (i+1) U ?_ ⟨Aa,Aa,Aa,?_⟩ Ag
  ·rw[H,Q3,e2];rfl
  ·rw[H];exact k.app λ x hx=>by rw[List.mem_singleton.1 hx];unfold CS C5;rw[e2];simp only[zb];omega
 ·have C:i-j=7\/len s<=i\/C5 (A4 s i)=false:=by
   by_cases J:i-j=7
   ·exact .inl J
   ·by_cases hl:len s<=i
    ·exact .inr (.inl hl)
    ·refine .inr (.inr ?_)
     rw[<-Bool.not_eq_true]
     unfold C5
     simp only[zb]
     omega
  have hg:=AT6 h0 h l z k C
  have J:=AT7 k Aa
  have q:(EH s j=[])↔i=j:=by rw[hg];exact S4 h0 h l
  refine A1 U (λ y=>?_) (λ y=>?_)<;>simp only[zb]at y
  ·have D:EH s j=[]\/(A4 s j=48/\1<len (EH s j))\/1000000<CG (EH s j):=by
    rw[q,hg];omega
   refine A2 G U U U λ w M E=>⟨?_,E.st.low⟩
   unfold I6;rw[if_pos D];rfl
  ·have D: ¬(EH s j=[]\/(A4 s j=48/\1<len (EH s j))\/1000000<CG (EH s j)):=by
    rw[q,hg];omega
   refine A2 G U U U λ w M E=>⟨?_,E.st.low⟩
   unfold I6;rw[if_neg D,hg,A,show j+(i-j)=i by omega];rfl
end Go.Proofs.YtnoegalemkbbbaaGreatDoor
namespace Go.Eng
def HM:Sp:=⟨false,[],0⟩
def EY(s:A0):Sp×Int:=
 if Lib.hasPrefix s [46]=false then(HM,0)
 else if 0<CP (A5 s 1) 0 then(⟨false,Eng.sub s 1 (CP (A5 s 1) 0+1),0⟩,CP (A5 s 1) 0+1)
 else if(B4 (A5 s 1)).2.2≠0\/PO (B4 (A5 s 1)).1=true\/DZ (B4 (A5 s 1)).1≠Eng.sub s 1 (1+(B4 (A5 s 1)).2.1)then(HM,0)
 else(⟨false,(B4 (A5 s 1)).1,0⟩,(B4 (A5 s 1)).2.1+1)
def F8(s:A0):Sp×Int:=
 if Lib.hasPrefix s [91]=false\/Lib.indexByte s 93<2\/8<Lib.indexByte s 93 then(HM,0)
 else match Lib.atoi (Eng.sub s 1 (Lib.indexByte s 93))with
  |none=>(HM,0)
  |some n=>if 1000000<n\/Lib.itoa n≠Eng.sub s 1 (Lib.indexByte s 93)\/n<0 then(HM,0)else(⟨true,[],n⟩,Lib.indexByte s 93+1)
def GU(s:A0)(i:Int):Int:=if i=0/\Lib.hasPrefix s [46]=true then 1 else 0
def EI(s:A0)(i:Int):Sp×Int:=
 if(EY (A5 s i)).2≠0 then EY (A5 s i)
 else if 0<i\/0<GU s i then
  if(F8 (A5 s (i+GU s i))).2=0 then(HM,0)else((F8 (A5 s (i+GU s i))).1,(F8 (A5 s (i+GU s i))).2+GU s i)
 else(HM,0)
def FI:Nat->A0->List Sp->Int->List Sp×Int
 |0,_,p,i=>(p,i)
 |f+1,s,p,i=>if i<len s then if(EI s i).2=0 then(p,i)else FI f s (p++[(EI s i).1]) (i+(EI s i).2)else(p,i)
def BZ(s:A0):List Sp×Int×Int:=
 if s=[46]then([],0,0)
 else if(FI 20 s [] 0).2<len s\/(FI 20 s [] 0).1=[]then([],(FI 20 s [] 0).2,1)else((FI 20 s [] 0).1,0,0)
def H9(s:A0):List Sp×Bool:=((BZ s).1,decide ((BZ s).2.2=0)&& !((BZ s).1.any λ x=>x.part))
theorem YN{s:A0}{c:UInt8}(h:Lib.hasPrefix s [c]=true):1<=len s:=XI h
theorem pH(s:A0)(c:UInt8):Lib.indexByte s c<len s:=by
 induction s with
 |nil=>show(-1:Int)<0;decide
 |cons a s b=>
  unfold Lib.indexByte
  have:=A8 s
  rw[AL]
  split
  ·omega
  ·split<;>omega
theorem pI(s:A0):0<=(EY s).2/\(EY s).2<=len s/\len (EY s).1.name<=4*len s/\(EY s).1.part=false/\(EY s).1.n=0:=by
 have hl:=A8 s
 unfold EY
 split
 ·exact⟨Aa,hl,by show(0:Int)<=_;omega,rfl,rfl⟩
 ·rename_i hp
  have h1:=YN (by simpa using hp)
  have b:len (A5 s 1)=len s-1:=EB _ _ Aa h1
  have hw:=LQ (s:=A5 s 1) (i:=0) Aa Aa
  have hu:=O1 (A5 s 1)
  have e:=eW (A5 s 1)
  split
  ·refine⟨Aa,Aa,?_,rfl,rfl⟩
   show len (Eng.sub s 1 _)<=_
   have:len (Eng.sub s 1 (CP (A5 s 1) 0+1))<=len s:=by unfold Eng.sub len;rw[List.length_take,List.length_drop];unfold len at*;omega
   omega
  ·split
   ·exact⟨Aa,hl,by show(0:Int)<=_;omega,rfl,rfl⟩
   ·exact⟨Aa,Aa,by show len (B4 (A5 s 1)).1<=_;omega,rfl,rfl⟩
theorem pJ(s:A0):0<=(F8 s).2/\(F8 s).2<=len s/\len (F8 s).1.name<=0/\((F8 s).1.part=true->0<=(F8 s).1.n/\(F8 s).1.n<=1000000):=by
 have hl:=A8 s
 have hi:=pH s 93
 have b:len HM.name<=0:=by decide
 unfold F8
 split
 ·exact⟨Aa,hl,b,λ h=>by cases h⟩
 ·rename_i e
  split
  ·exact⟨Aa,hl,b,λ h=>by cases h⟩
  ·split
   ·exact⟨Aa,hl,b,λ h=>by cases h⟩
   ·rename_i n _ hd
    exact⟨Aa,Aa,b,λ _=>⟨show(0:Int)<=n by omega,show n<=(1000000:Int) by omega⟩⟩
end Go.Eng
namespace Go.Proofs.YtnoegalemkbbbaaGreatDoor
open Go.Proofs.Tryz
open Go.Eng
theorem AT9(s:A0)(w:World)(hg:Gl w)(C:len s<=200000000000):
    Calls prog 170 [str s].toArray w λ e w'=>e= .returned (.tuple #[.agg (EY s).1.cells.toArray,i64 (EY s).2])/\Ext w w':=by
 have y:=A8 s
 refine AH AF func170 U ntmps170 [] [] [.v (str s)] U (BE w) A3 (λ B l=>B9 2 U zeroValue105 U λ D=>AJ U call171 U U (λ _ w M h=>V3 (UI s [46] w)) U ?_) U
 refine A1 U (λ b=>?_) (λ b=>?_)<;>simp only[zb]at b
 ·exact A2 l U U U λ w M h=>⟨by unfold EY;rw[if_pos b];rfl,h.st.low⟩
 have h1:=YN b
 have z:len (A5 s 1)=len s-1:=EB _ _ Aa h1
 have hw:=LQ (s:=A5 s 1) (i:=0) Aa Aa
 have hu:=O1 (A5 s 1)
 have A:=eW (A5 s 1)
 refine AJ U call193 U U (λ _ w M h=>nU (A5 s 1) w Aa) U ?_
 refine A1 U (λ k=>?_) (λ k=>?_)<;>simp only[zb]at k
 ·exact A2 l U U U λ w M h=>⟨by unfold EY;rw[if_neg (by rw[b];decide),if_pos k];rfl,h.st.low⟩
 refine AJ U call194 U U (λ _ w M h=>AO0 (A5 s 1) w (hg.low h.st.low) Aa) U <|FX U BK Ac <|H4 U call195 U U (λ _ w M h=>AO4 (B4 (A5 s 1)).1 w Aa) U <|H4 U call196 U U (λ _ w M h=>AM1 (B4 (A5 s 1)).1 w (hg.low h.st.low) Aa) U <|FY U ?_
 refine A1 U (λ j=>?_) (λ j=>?_)<;>simp only[zb]at j
 ·exact A2 l U U U λ w M h=>⟨by unfold EY;rw[if_neg (by rw[b];decide),if_neg Aa,if_pos (by simpa only[or_assoc]using j)];rfl,h.st.low⟩
 ·have n: ¬((B4 (A5 s 1)).2.2≠0\/PO (B4 (A5 s 1)).1=true\/DZ (B4 (A5 s 1)).1≠Eng.sub s 1 (1+(B4 (A5 s 1)).2.1)):=by
   rintro(q|q|q)
   · exact q j.1.1
   · rw[j.1.2]at q;cases q
   · exact q j.2
  exact A2 l U U U λ w M h=>⟨by unfold EY;rw[if_neg (by rw[b];decide),if_neg Aa,if_neg n];rfl,h.st.low⟩
theorem AU0{w0 h:World}{M0 M:Mem}{Rs:List HO}(s:A0)(hS:St w0 M0 h M Rs)(hg:Gl w0)(l:len s<=18):
   Calls prog 199 [str s].toArray h (BF w0 M0 M Rs (λ u:Int×Value=>.tuple #[i64 u.1,u.2]) (λ u=>(∃n,Lib.atoi s=some n/\u=(n,.nilIface)/\ -9223372036854775808<=n/\n<=9223372036854775807)\/(Lib.atoi s=none/\u.1=0/\ ∃t p,u.2= .iface t p)) (λ _=>[]) λ _=>[]):=by
 have i:=hg.low hS.low
 have j:s.length<=18:=by unfold len at l;omega
 have b:=Lib.atoiAll_short s j
 cases ha:Lib.atoi s with
 |some n=>
  rw[ha]at b
  have k:=Lib.atoiAll_bounds b
  exact(zT s n h Aa b).mono λ e w' ⟨he,hx⟩=>⟨(n,.nilIface),M,he,.inl ⟨n,rfl,rfl,k⟩,Mem.le.refl _,hS.ext hx,A3⟩
 |none=>
  rw[ha]at b
  obtain⟨ev,h1,q⟩:=i.err
  exact(Any.strconv_Atoi_syntax Tryz.iD ⟨⟨s⟩⟩ (by show s.length<=_;omega) b ev h h1 q).mono λ e w' ⟨N,he,_,_,hx⟩=>⟨(0,_),M,he,.inr ⟨rfl,rfl,_,_,rfl⟩,Mem.le.refl _,hS.ext hx,A3⟩
theorem AU1(s:A0)(w:World):Calls prog 198 [str s,.int .u8 93].toArray w λ e w'=>e= .returned (i64 (Lib.indexByte s 93))/\Ext w w':=V3 (cG s 93 w)
theorem AU2(s:A0)(w:World)(hg:Gl w)(N:len s<=200000000000):
    Calls prog 172 [str s].toArray w λ e w'=>e= .returned (.tuple #[.agg (F8 s).1.cells.toArray,i64 (F8 s).2])/\Ext w w':=by
 have K:=A8 s
 have L:=pH s 93
 have J:=Lib.indexByte_ge s 93
 refine AH AF func172 U ntmps172 [] [] [.v (str s)] U (BE w) A3 (λ B y=>B9 2 U zeroValue105 U λ O=>AJ U call198 U U (λ _ w M b=>AU1 s w) U <|AJ U call171 U U (λ _ w M b=>V3 (UI s [91] w)) U ?_) U
 refine A1 U (λ i=>?_) (λ i=>?_)<;>simp only[zb]at i
 ·exact A2 y U U U λ w M b=>⟨by unfold F8;rw[if_pos (by simpa only[or_assoc]using i)];rfl,b.st.low⟩
 have k: ¬(Lib.hasPrefix s [91]=false\/Lib.indexByte s 93<2\/8<Lib.indexByte s 93):=by
  rintro(q|q|q)
  · rw[q]at i;cases i.1.1
  · omega
  · omega
 obtain⟨z,P⟩: ∃z,z=Lib.indexByte s 93:=⟨_,rfl⟩
 have l:len (Eng.sub s 1 (Lib.indexByte s 93))<=18:=by
  unfold Eng.sub len;rw[List.length_take,List.length_drop];omega
 refine AP [] (λ u:Int×Value=>.tu [I u.1,.v u.2]) [] (λ _=>[]) (Fg:=λ _=>[]) U U call199 U U (λ w M hS hF=>AU0 (Eng.sub s 1 (Lib.indexByte s 93)) hS hg l) λ u hu=>?_
 rcases u with⟨j,Q⟩
 rcases hu with⟨n,A,hu,C,D⟩|⟨A,F,t,p,G⟩
 ·cases hu
  refine FX U BK Ac <|Y7 (.v (.bool false)) U U (λ w M b=>PV.TP (A7 (v:=.v .nilIface) (E:=[]) U) (.inl U) underlying223) <|H4 U call200 U U (λ _ w M b=>l8 j w (hg.low b.st.low) C D) U <|FY U ?_
  have e:F8 s=if 1000000<j\/Lib.itoa j≠Eng.sub s 1 (Lib.indexByte s 93)\/j<0 then(HM,0)else(⟨true,[],j⟩,Lib.indexByte s 93+1):=by
   unfold F8;rw[if_neg k,A]
  refine A1 U (λ h=>?_) (λ h=>?_)<;>simp only[zb]at h
  ·exact A2 y U U U λ w M b=>⟨by rw[e,if_pos (by simpa[or_assoc]using h)];rfl,b.st.low⟩
  ·have H: ¬(1000000<j\/Lib.itoa j≠Eng.sub s 1 (Lib.indexByte s 93)\/j<0):=by
    rintro(q|q|q)
    · omega
    · exact q h.1.2
    · omega
   exact A2 y U U U λ w M b=>⟨by rw[e,if_neg H];rfl,b.st.low⟩
 ·cases F;cases G
  have e:F8 s=(HM,0):=by unfold F8;rw[if_neg k,A]
  refine FX U BK Ac <|Y7 (.v (.bool true)) U U (λ w M b=>PV.TP (A7 (v:=.v (.iface t p)) (E:=[]) U) (.inr ⟨t,p,rfl⟩) underlying223) <|H4 U call200 U U (λ _ w M b=>l8 0 w (hg.low b.st.low) Aa Aa) U <|FY U <|A1 U (λ h=>?_) (λ h=>?_)
  ·exact A2 y U U U λ w M b=>⟨by rw[e];rfl,b.st.low⟩
  ·cases h
theorem AU3(s:A0)(i:Int)(h0:0<=i)(h1:i<=len s):0<=(EI s i).2/\i+(EI s i).2<=len s/\len (EI s i).1.name<=4*len s/\((EI s i).1.part=true->0<=(EI s i).1.n/\(EI s i).1.n<=1000000):=by
 have hl:=A8 s
 have q:=EB s i h0 h1
 have e:=pI (A5 s i)
 have j:len HM.name<=0:=by decide
 unfold EI
 split
 ·exact⟨e.1,Aa,Aa,λ h=>by rw[e.2.2.2.1]at h;cases h⟩
 ·split
  ·rename_i hd
   have b:0<=GU s i/\i+GU s i<=len s:=by
    unfold GU at*
    split at hd
    ·rename_i hp;rw[if_pos hp];have:=YN hp.2;omega
    ·rename_i hp;rw[if_neg hp];omega
   have k:=EB s (i+GU s i) Aa b.2
   have l:=pJ (A5 s (i+GU s i))
   split
   ·exact⟨Aa,Aa,show len HM.name<=_ by omega,λ h=>by cases h⟩
   ·exact⟨Aa,Aa,show len (F8 (A5 s (i+GU s i))).1.name<=_ by omega,l.2.2.2⟩
  ·exact⟨Aa,Aa,show len HM.name<=_ by omega,λ h=>by cases h⟩
theorem pK{w0 P:World}{M0 M:Mem}{Rs:List HO}(s:A0)(hS:St w0 M0 P M Rs)(hg:Gl w0)(hb:len s<=200000000000):
    Calls prog 137 [str s].toArray P (BF w0 M0 M Rs (λ u:Value=>.tuple #[u,i64 (BZ s).2.1,i64 (BZ s).2.2]) (λ _=>True) (λ u=>[(1,kn u 3 (BZ s).1 Sp.cells)]) λ _=>[]):=by
 have K:=A8 s
 refine AH (Hr:=Rs) AF func137 U ntmps137 [] [] [.v (str s)] U hS A3 (λ B F=>?_) U
 unfold BZ at F
 refine A1 U (λ G=>?_) (λ G=>?_)<;>simp only[zb]at G
 ·rw[if_pos G]at F
  exact A2 F U U U λ w M' C=>⟨.slice none 0 0,M',rfl,trivial,C.le,C.B6 [] U,AD ⟨Sl.nil M' 3,Sp.AS,trivial⟩ A3⟩
 rw[if_neg G]at F
 refine AO5 (λ Q a w h=>wp_label h) U ?_
 generalize hR:FI 20 s [] 0=R at F
 refine U6 1 5 105 3 Sp.cells Sp.AS U ?_
 refine AO6 (σ:=Int×Value×List Sp×Nat) 1 (λ s'=> ∃(i:Int) (u:Value) (xs:List Sp),0<=i/\i<=len s/\len xs<=20/\R=(xs,i)/\s'=⟨[(1,kn u 3 xs Sp.cells)],[(1,.ho (Y6 u xs))],[Z 0 (.v (str s)),Z 5 (.sl 1 u),Z 6 (I i)]⟩)
   (λ(i,u,xs,f)=>⟨[(1,kn u 3 xs Sp.cells)],[(1,.ho (Y6 u xs))],[Z 0 (.v (str s)),Z 5 (.sl 1 u),Z 6 (I i)]⟩)
   (λ(i,u,xs,f)=>0<=i/\i<=len s/\len xs+f=20/\FI f s xs i=R) (λ(i,u,xs,f)=>f) (0,.slice none 0 0,[],20) U U U ⟨Aa,K,rfl,hR⟩ ?_ ?_
 ·rintro⟨i,u,xs,f⟩ ⟨D,E,T,l⟩
  have L:=A8 xs
  refine A1 U (λ e=>?_) (λ e=>?_)<;>simp only[zb]at e
  ·cases f with
   |zero=>exfalso;omega
   |succ f=>
   rw[FI,if_pos e.1]at l
   have hf:=EB s i D E
   have V:=pI (A5 s i)
   have W:=AU3 s i D E
   refine AJ U call170 U U (λ _ w M C=>AT9 (A5 s i) w (hg.low C.st.low) Aa) U <|B9 7 U zeroValue105 U λ J=>CQ 0 (λ s'=> ∃x:Sp,x=(EI s i).1/\(EI s i).2≠0/\s'=⟨[(1,kn u 3 xs Sp.cells)],[(7,.box J [.v (.bool x.part),.v (str x.name),I x.n] 105),(1,.ho (Y6 u xs))],[Z 0 (.v (str s)),Z 5 (.sl 1 u),Z 6 (I i),Z 7 (.bx 7 J 0),Z 8 (I ((EI s i).2))]⟩) U U (λ A=>?_) (λ A=>?_) ?_
   ·simp only[zb]at A
    refine AJ U call171 U U (λ _ w M C=>V3 (UI s [46] w)) U <|CQ 0 (λ s'=> ∃z:Int,z=GU s i/\s'=⟨[(1,kn u 3 xs Sp.cells)],[(7,.box J [.v (.bool (EY (A5 s i)).1.part),.v (str (EY (A5 s i)).1.name),I (EY (A5 s i)).1.n] 105),(1,.ho (Y6 u xs))],[Z 0 (.v (str s)),Z 5 (.sl 1 u),Z 6 (I i),Z 7 (.bx 7 J 0),Z 8 (I ((EY (A5 s i)).2)),Z 9 (I z)]⟩) U U (λ j=>?_) (λ j=>?_) ?_
    ·exact AT _ U U ⟨1,by simp only[zb]at j;unfold GU;rw[if_pos j],rfl⟩
    ·exact AT _ U U ⟨0,(by
      simp only[zb]at j;unfold GU;rw[if_neg]
      rintro⟨X,q2⟩
      rcases j with h|h
      · exact h X
      · rw[q2]at h;cases h),rfl⟩
    rintro s' ⟨z,H,rfl⟩
    have N:0<=z/\z<=1/\i+z<=len s:=by
     rw[H];unfold GU
     split
     · rename_i hp;have:=YN hp.2;omega
     · omega
    have hf2:=EB s (i+z) Aa N.2.2
    have hpb:=pJ (A5 s (i+z))
    have b:EI s i=if 0<i\/0<z then if(F8 (A5 s (i+z))).2=0 then(HM,0)else((F8 (A5 s (i+z))).1,(F8 (A5 s (i+z))).2+z)else(HM,0):=by
     unfold EI;rw[if_neg (λ q=>q A),<-H]
    refine A1 U (λ j=>?_) (λ j=>?_)<;>simp only[zb]at j
    ·rw[if_pos j]at b
     refine AJ U call172 U U (λ _ w M C=>AU2 (A5 s (i+z)) w (hg.low C.st.low) Aa) U ?_
     refine A1 U (λ y=>?_) (λ y=>?_)<;>simp only[zb]at y
     ·rw[if_pos y]at b
      rw[b,if_pos U]at l
      exact AT _ U U ⟨i,u,xs,D,E,Aa,l.symm,rfl⟩
     ·rw[if_neg y]at b
      exact AT _ U (by rw[b];rfl) ⟨_,rfl,by rw[b];show(F8 (A5 s (i+z))).2+z≠0;omega,rfl⟩
    ·rw[if_neg Aa]at b
     refine A1 U (λ y=>?_) (λ y=>?_)<;>simp only[zb]at y
     ·rw[b,if_pos U]at l
      exact AT _ U U ⟨i,u,xs,D,E,Aa,l.symm,rfl⟩
     ·exact absurd A y
   ·simp only[zb]at A
    have b:EI s i=EY (A5 s i):=by unfold EI;rw[if_pos A]
    exact AT _ U (by rw[b];rfl) ⟨_,rfl,by rw[b];exact A,rfl⟩
   rintro s' ⟨x,hx,O,rfl⟩
   rw[if_neg O,<-hx]at l
   exact BH 6 [x] Sp.cells 3 105 Sp.AS U U Ah U λ v6=>F4 32 U U U underlying61 type105 U U Sp.cells_one (by simp only[AL,len_nil];omega) λ v'=>AX (i+(EI s i).2,v',xs++[x],f) U U ⟨Aa,Aa,by rw[AO];show len xs+1+_=20;omega,l⟩ (by show f<f+1;omega)
  ·refine AT _ U U ⟨i,u,xs,D,E,Aa,?_,rfl⟩
   rw[<-l]
   cases f with
   |zero=>rfl
   |succ f=>rw[FI,if_neg Aa]
 rintro s' ⟨i,u,xs,D,E,S,rfl,rfl⟩
 have L:=A8 xs
 refine A1 U (λ e=>?_) (λ e=>?_)<;>simp only[zb]at e
 ·rw[if_pos (e.imp id λ h=>Decidable.byContradiction λ q=>by have:0<len xs:=GL q;omega)]at F
  exact A2 F U U U λ w M' C=>⟨.slice none 0 0,M',rfl,trivial,C.le,C.B6 [] U,AD ⟨Sl.nil M' 3,Sp.AS,trivial⟩ A3⟩
 ·rw[if_neg (by
                 rintro(q|q);· omega
                 · dsimp only at q;rw[q]at e;exact e.2 U)]at F
  exact A2 F U U U λ w M' C=>⟨u,M',rfl,trivial,C.le,C.B6 [] U,AD (C.f.get (k:=1) U) A3⟩
theorem AU4(r:Int)(w:World):
  Calls prog 326 [(.int .i32 r)].toArray w λ e w'=>e= .returned (.bool (C5 r))/\w'=w:=by
 refine CW.NQ func326 U ntmps326 (Nat.le_of_ble_eq_true U) λ Q hE=>CW.weaken [0] (L':=[Y 0 (.int .i32 r)]) ?_ U
 refine CW.sr (RL.u (.assign .c) U (RL.nil (CW.id (CW.sr ?_))))
 refine RL.m U U (RL.u (.geq (.t U) .c) U (RL.m U U (RL.v (.pos U U) (.move (.t U)) U (RL.v (.pos U U) (.leq (.g U (λ h=>h)) .c) U (RL.u (.and (.t U) (.g U (λ h=>h))) U ?_)))))
 refine RL.a U U (RL.nil (CW.id ?_))
 refine CW.ret (hE.r1 U U ?_)
 exact⟨rfl,rfl⟩
theorem YO{cut:A0}(h: ∀b∈cut,b.toNat<128): ∀(j:Nat) (b:UInt8),cut[j]? =some b->b.toNat<128:=λ _ b e=>h b (List.mem_of_getElem? e)
theorem eY(n:Int)(w:World)(h0:0<=n)(h1:n<=140737488355328):Calls prog 291 [str [48],i64 n].toArray w λ e w'=>e= .returned (str (BC n))/\Ext w w':=l7 48 n w h0 h1
theorem pL(s:A0)(w:World)(hg:Gl w)(i:len s<=9223372036854775807):
  Calls prog 302 [(str s)].toArray w λ e w'=>e= .returned (.bool (IY s))/\Ext w w':=by
 refine CW.NQ func302 U ntmps302 (Nat.le_of_ble_eq_true U) λ Q hE=>?_
 have hS:St w nM w nM []:=Aj ⟨λ _ _ _ h=>by cases h⟩
 refine CW.weaken [0] (L':=[Y 0 (str s)]) ?_ U
 refine CW.sr (RL.u (.assign .c) U (RL.nil (CW.id (CW.sr ?_))))
 refine RL.m U U <|RL.ZU hS .none call325 (.cons (.t U) (.cons .f .nil)) (λ _=>(zU 326 D4 s _ (hg.low hS.low) call326 Aa (λ x w _=>AU4 x w))) U (λ w1 b=>RL.u (.ZS (.t U) .c) U (RL.a U U ?_))
 refine RL.nil (CW.at [Y 2 (.bool (((Lib.trimF D4 ⟨⟨s⟩⟩).data.toList)==[]))] U (CW.ret (hE.r1 U U ?_)))
 exact⟨by rw[AQ2],b.low⟩
theorem pM(n x:Int)(w:World)(h:0<=n/\n<=1099511627776):
  Calls prog 305 [(i64 n),(i64 x)].toArray w λ e w'=>e= .returned (.bool (decide (-1000<=x)&&decide (x<=1000)&&decide (n+x<=1000)))/\w'=w:=by
 refine CW.NQ func305 U ntmps305 (Nat.le_of_ble_eq_true U) λ Q hE=>CW.weaken [0,1] (L':=[Y 0 (i64 n),Y 1 (i64 x)]) ?_ U
 refine CW.sr (RL.u (.assign .c) U (RL.nil (CW.id (CW.sr ?_))))
 refine RL.m U U (RL.u (.geq (.t U) .c) U (RL.m U U (RL.v (.pos U U) (.move (.t U)) U (RL.v (.pos U U) (.leq (.g U (λ h=>h)) .c) U (RL.u (.and (.t U) (.g U (λ h=>h))) U ?_)))))
 refine RL.m U U (RL.v (.pos U U) (.move (.t U)) U (RL.v (.pos U U) (.move (.t U)) U (RL.v (.pos U U) (.add (.g U (λ h=>h)) (.g U (λ h=>h)) (λ b=>by simp only[zb]at b;omega)) U (RL.v (.pos U U) (.leq (.g U (λ h=>h)) .c) U (RL.u (.and (.t U) (.g U (λ h=>h))) U ?_)))))
 refine RL.a U U (RL.nil (CW.id ?_))
 refine CW.ret (hE.r1 U U ?_)
 exact⟨by first|rfl|simp[Bool.and_assoc],rfl⟩
end Go.Proofs.YtnoegalemkbbbaaGreatDoor
