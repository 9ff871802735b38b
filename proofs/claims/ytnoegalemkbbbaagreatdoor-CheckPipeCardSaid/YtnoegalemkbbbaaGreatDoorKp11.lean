/- Lemmas for the card. -/
import Derived.Test.YtnoegalemkbbbaaGreatDoorKp10
set_option linter.unusedVariables false
set_option linter.unusedSimpArgs false
set_option maxRecDepth 100000
namespace Go.Eng
open Go.RowKit
theorem L3{x:Int}(h0:0<=x)(h1:x<256):((UInt8.ofNat x.toNat).toNat:Int)=x:=by
 rw[show(UInt8.ofNat x.toNat).toNat=x.toNat%256 from rfl,Nat.mod_eq_of_lt Aa];omega
theorem AU9: ∀n:Fin 128,(EB (n.val:Int)=[UInt8.ofNat n.val]/\32<=n.val/\n.val≠34/\n.val≠92)\/
 (A3 (EB (n.val:Int)) 0=92/\BZ (EB (n.val:Int))=((n.val:Int),len (EB (n.val:Int)))/\len (EB (n.val:Int))≠0):=by decide+kernel
theorem pQ{s T r:A0}: ∀(f:Nat) (p i:Int) (acc:List Int),0<=p->p<=len s->0<=i->GU s p=true->A5 T i=GX s p++34::r->(len T-i).toNat<=f->
  DT f T i acc=(toStr acc++A5 s p,i+len (GX s p)+1,0)
 |f,p,i,acc,h0,h1,hi,hu,hT,S=>by
  have y:A5 T i≠[]:=by rw[hT];simp
  have E:=YS hi U y
  have N:=L0.1 y
  have e:i<len T:=by omega
  rw[RX S e,RZ T i hi,Q2 T i hi]
  by_cases hp:p<len s
  ·have hb:=LQ s p
   have hle:=rune_le s p hp
   rcases MA h0 hp with⟨O,_⟩|⟨O,F,_,G,V,P⟩
   ·rw[TY s p h0 hp O]at hu;cases hu
   rw[<-N1 s p h0 hp Aa]at hu
   rw[dN h0 hp]at hT ⊢
   rw[F]at hT ⊢
   rw[List.append_assoc]at hT
   have n:=fG hi hT
   have W:=A9 (GX s (p+rune s p)++34::r)
   have Q:len T=i+(len (EB (B2 s p))+len (GX s (p+rune s p)++34::r)):=by rw[E,hT,AQ]
   have k: ∀j,0<=j->j<len (EB (B2 s p))->A3 T (i+j)=A3 (EB (B2 s p)) j:=λ j a b=>by
    rw[<-OG T i j hi a,hT,IU a b]
   have q:toStr acc++A5 s p=toStr (acc++Lib.encodeRuneZ (B2 s p))++A5 s (p+rune s p):=by
    rw[YD,G,SF s p (p+rune s p) h0 Aa,List.append_assoc]
   have w:=λ(g:Nat) (hg:(len T-(i+len (EB (B2 s p)))).toNat<=g)=>pQ (s:=s) (T:=T) (r:=r) g (p+rune s p) (i+len (EB (B2 s p))) (acc++Lib.encodeRuneZ (B2 s p)) Aa hle (by have:=A9 (EB (B2 s p));omega) hu n hg
   rw[q,AQ,show i+(len (EB (B2 s p))+len (GX s (p+rune s p)))+1=i+len (EB (B2 s p))+len (GX s (p+rune s p))+1 from by omega]
   by_cases hc:A3 s p<128
   ·obtain⟨X,h9⟩:=V hc
    have H:=LO s p
    have tab:=AU9 ⟨(A3 s p).toNat,Aa⟩
    dsimp only at tab
    rw[show(((A3 s p).toNat:Nat):Int)=A3 s p from by omega]at tab
    rw[h9]at k hT w ⊢
    rcases tab with⟨D,z,J,q4⟩|⟨D,z,J⟩
    ·have K:len (EB (A3 s p))=1:=by rw[D];rfl
     have h:A3 T i=A3 s p:=by
      have:=k 0 (Int.le_refl 0) Aa
      rw[Int.add_zero,D,G8]at this
      rw[this];exact L3 H.1 Aa
     have A:=jL hi e Aa
     rw[A.1,A.2,h,if_neg Aa,if_neg Aa,if_neg Aa]
     rw[K]at w ⊢
     exact w _ Aa
    ·have hlp:=A9 (EB (A3 s p))
     have h:A3 T i=92:=by
      have:=k 0 (Int.le_refl 0) Aa
      rw[Int.add_zero,D]at this;exact this
     have L:B2 T i=92:=(JK hi e Aa).2 h
     have B:BZ (A5 T i)=(A3 s p,len (EB (A3 s p))):=by
      rw[<-z]
      refine oV (by rw[z];exact J) (by rw[z,hT,AQ];dsimp only;omega) (λ j a b=>?_)
      rw[z]at b
      rw[hT];exact IU a b
     rw[L,if_neg Aa,if_pos U,B,if_neg J]
     exact w _ Aa
   ·have R:=o7 (P Aa)
    have C:len (EB (B2 s p))=rune s p:=by rw[R,G,FG h0 Aa hle];omega
    have l:=YN (s:=s) (s':=T) (i:=p) (i':=i) h0 hi Aa hp Aa (λ j a b=>by
     rw[k j a Aa,R,G,Q8 h0 a Aa hle])
    have X:=P Aa
    have M:=(YE hi e).2
    rw[l.2.1,l.2.2,F,if_neg Aa,if_neg Aa,if_neg (by
     rintro(x|x)
     ·omega
     ·have:=M (by rw[l.2.1,l.2.2,F];exact x)
      omega)]
    rw[C]at w ⊢
    exact w _ Aa
  ·rw[dO hp]at hT ⊢
   have h:A3 T i=34:=(YT hi hT).2
   rw[if_pos ((JK hi e Aa).2 h),PX s p Aa]
   simp[len_nil]
termination_by f p=>(len s-p).toNat
decreasing_by all_goals omega
theorem fM{s:A0}(h:DO s=true)(r:A0):B4 (E5 s++r)=(s,len (E5 s),0):=by
 have e:E5 s++r=34::(GX s 0++34::r):=by unfold E5;simp
 have hl:len (E5 s)=1+len (GX s 0)+1:=by unfold E5;rw[AQ,AM];simp[len];omega
 rw[e,hl]
 unfold B4
 have hp:Lib.hasPrefix (34::(GX s 0++34::r)) [34]=true:=MG.2 ⟨by simp,rfl⟩
 rw[if_pos hp,pQ (s:=s) (r:=r) _ 0 1 [] (Int.le_refl 0) (A9 s) Aa h U (by unfold len;simp;omega)]
 rfl
theorem pR{a b:A0}: ∀(j:Int),0<=j->GU b j=true->GU (a++b) (len a+j)=true
 |j,h0,h=>by
  have hl:=AQ a b
  have l:=A9 a
  by_cases hj:j<len b
  ·by_cases hr:rune b j=0
   ·rw[TY b j h0 hj hr]at h;cases h
   have n:=LQ b j
   have hle:=rune_le b j hj
   rw[<-N1 b j h0 hj Aa]at h
   have e:=YN (s:=b) (s':=a++b) (i:=j) (i':=len a+j) h0 Aa Aa hj Aa (λ k x y=>by
    rw[show len a+j+k=len a+(j+k)from by omega,YM Aa])
   rw[<-N1 (a++b) (len a+j) Aa Aa (by rw[e.1];omega),e.1,Int.add_assoc]
   exact pR (j+rune b j) Aa h
  ·exact WJ _ _ Aa
termination_by j=>(len b-j).toNat
theorem pS{a b:A0}(l:DO b=true): ∀(i:Int),0<=i->i<=len a->GU a i=true->GU (a++b) i=true
 |i,h0,h1,h=>by
  have hl:=AQ a b
  have n:=A9 b
  by_cases hi:i<len a
  ·by_cases hr:rune a i=0
   ·rw[TY a i h0 hi hr]at h;cases h
   have q:=LQ a i
   have hle:=rune_le a i hi
   rw[<-N1 a i h0 hi Aa]at h
   have j:=YN (s:=a) (s':=a++b) (i:=i) (i':=i) h0 h0 Aa hi Aa (λ k x y=>IU Aa Aa)
   rw[<-N1 (a++b) i h0 Aa (by rw[j.1];omega),j.1]
   exact pS l (i+rune a i) Aa hle h
  ·have e:i=len a:=by omega
   subst e
   have:=pR (a:=a) (b:=b) 0 (Int.le_refl 0) l
   rwa [Int.add_zero]at this
termination_by i=>(len a-i).toNat
theorem YX{s:A0}(b:0<len s)(h:rune s 0=len s):DO s=true:=by
 unfold DO
 rw[<-N1 s 0 (Int.le_refl 0) b Aa]
 exact WJ s (0+rune s 0) Aa
theorem AV0(r:Int):DO (toStr (Lib.encodeRuneZ r))=true:=by
 have b: ∀(x:UInt8) (l:A0),A3 (x::l) 0=(x.toNat:Int):=λ _ _=>rfl
 have e: ∀(x y:UInt8) (l:A0),A3 (x::y::l) (0+1)=(y.toNat:Int):=λ _ _ _=>rfl
 have h: ∀(x y z:UInt8) (l:A0),A3 (x::y::z::l) (0+2)=(z.toNat:Int):=λ _ _ _ _=>rfl
 have i: ∀(x y z u:UInt8) (l:A0),A3 (x::y::z::u::l) (0+3)=(u.toNat:Int):=λ _ _ _ _ _=>rfl
 have q: ∀(x:UInt8),len [x]=1:=λ _=>rfl
 have j: ∀(x y:UInt8),len [x,y]=2:=λ _ _=>rfl
 have k: ∀(x y z:UInt8),len [x,y,z]=3:=λ _ _ _=>rfl
 have n: ∀(x y z u:UInt8),len [x,y,z,u]=4:=λ _ _ _ _=>rfl
 unfold Lib.encodeRuneZ
 split
 ·refine YX (show(0:Int)<1 by decide) ?_
  show rune [UInt8.ofNat r.toNat] 0=1
  unfold rune
  rw[b,L3 Aa Aa]
  dsimp only
  rw[if_pos Aa]
 split
 ·refine YX (show(0:Int)<2 by decide) ?_
  show rune [UInt8.ofNat (192+r/64).toNat,UInt8.ofNat (128+r%64).toNat] 0=2
  unfold rune cont
  rw[b,e,j,L3 Aa Aa,L3 Aa Aa]
  dsimp only
  simp only[Bool.and_eq_true,decide_eq_true_eq]
  rw[if_neg Aa,if_pos Aa]
 split
 ·refine YX (show(0:Int)<3 by decide) ?_
  show rune [UInt8.ofNat (224+r/4096).toNat,UInt8.ofNat (128+r/64%64).toNat,UInt8.ofNat (128+r%64).toNat] 0=3
  unfold rune cont
  rw[b,e,h,k,L3 Aa Aa,L3 Aa Aa,L3 Aa Aa]
  dsimp only
  simp only[Bool.and_eq_true,Bool.or_eq_true,decide_eq_true_eq,beq_iff_eq]
  rw[if_neg Aa,if_neg Aa,if_pos Aa,if_neg Aa]
 split
 ·refine YX (show(0:Int)<4 by decide) ?_
  show rune [UInt8.ofNat (240+r/262144).toNat,UInt8.ofNat (128+r/4096%64).toNat,UInt8.ofNat (128+r/64%64).toNat,UInt8.ofNat (128+r%64).toNat] 0=4
  unfold rune cont
  rw[b,e,h,i,n,L3 Aa Aa,L3 Aa Aa,L3 Aa Aa,L3 Aa Aa]
  dsimp only
  simp only[Bool.and_eq_true,Bool.or_eq_true,decide_eq_true_eq,beq_iff_eq]
  rw[if_neg Aa,if_neg Aa,if_neg Aa,if_pos Aa,if_neg Aa]
 ·decide+kernel
theorem pT{acc:List Int}(h:DO (toStr acc)=true)(r:Int):DO (toStr (acc++Lib.encodeRuneZ r))=true:=by
 rw[YD]
 exact pS (AV0 r) 0 (Int.le_refl 0) (A9 _) h
theorem SK:DO []=true:=by decide+kernel
theorem fN{s:A0}: ∀(f:Nat) (i:Int) (acc:List Int),DO (toStr acc)=true->DO (DT f s i acc).1=true
 |0,_,_,_=>by unfold DT;exact SK
 |f+1,i,acc,h=>by
  unfold DT
  split
  ·split
   ·exact h
   ·split
    ·split
     ·exact SK
     ·exact fN f _ _ (pT h _)
    ·split
     ·exact SK
     ·exact fN f _ _ (pT h _)
  ·exact SK
theorem fO(s:A0):DO (B4 s).1=true:=by
 unfold B4
 split
 ·exact fN _ _ _ SK
 ·exact SK
theorem pU{s:A0}(h: ∀j:Int,0<=j->j<len s->A3 s j<128): ∀i:Int,0<=i->GU s i=true
 |i,h0=>by
  by_cases hi:i<len s
  ·have b:rune s i=1:=by unfold rune;dsimp only;rw[if_pos (h i h0 hi)]
   rw[<-N1 s i h0 hi Aa,b]
   exact pU h (i+1) Aa
  ·exact WJ _ _ hi
termination_by i=>(len s-i).toNat
theorem pV(s:A0): ∀j:Int,0<=j->j<len (BC s)->CK (A3 (BC s) j) (j==0)=true:=λ j a b=>by
 have e:=MB (s:=s) (i:=0) (Int.le_refl 0) (A9 s)
 rw[MC]at b
 have:=(YO (s:=s) 0 (Int.le_refl 0)).1 j a b
 unfold BC
 rw[Q8 (Int.le_refl 0) a Aa e.2,Int.zero_add];exact this
theorem YY{s:A0}(h:BC s≠[]):FM (BC s)=true:=V9.2 ⟨h,pV s⟩
theorem AV1{c:Int}{f:Bool}(h:CK c f=true):c<128:=by
 rcases Int.lt_or_le c 128 with x|x
 ·exact x
 ·rw[yK x]at h;cases h
theorem pW(s:A0):DO (BC s)=true:=pU (λ j a b=>AV1 (pV s j a b)) 0 (Int.le_refl 0)
theorem AV2{s:A0}{t:Tk}{n:Int}(h:C4 s=(t,n,0)):HR t=true:=by
 have i:(C0=C0):=rfl
 unfold C4 at h
 split at h
 ·cases h;unfold HR;simp[pW]
 split at h
 ·simp only[Prod.mk.injEq]at h
  rw[<-h.1];unfold HR;simp[fO]
 split at h
 ·rename_i hm
  cases h
  rcases S0 s with e|e
  ·exact absurd e hm
  ·unfold HR bC;simp[e.1]
 split at h
 ·rename_i hw
  cases h;unfold HR;simp[YY hw]
 split at h
 ·simp only[Prod.mk.injEq]at h
  rw[<-h.1];unfold HR;simp[fO]
 split at h
 ·split at h
  ·rename_i b
   simp only[Prod.mk.injEq]at h
   exact absurd h.2.2 b
  ·rename_i b
   cases h
   have:=(AU6 (runN s)).1 (by simpa using b)
   unfold HR;simp[this]
 ·simp at h
def YZ(r:A0):Prop:=r=[]\/ ∃q,r=32::q
theorem YZ.stop {r:A0}(h:YZ r)(v:A0):Stop v r:=by
 rcases h with rfl|⟨q,rfl⟩
 ·exact .inl U
 ·exact .inr (.inl ⟨by simp,rfl⟩)
theorem fP{s:A0}(h:FM s=true){r:A0}(b:YZ r):BC (s++r)=s:=by
 have i:=V9.1 h
 have e:CZ s 0=len s:=SJ (Int.le_refl _) i.2 (λ x=>absurd x (Int.lt_irrefl _)) 0 (Int.le_refl 0) (A9 s)
 have e2:BC (s++[])=s:=by rw[List.append_nil];unfold BC;rw[e];exact O6 s (len s) (Int.le_refl _)
 exact fA e2 (b.stop [])
theorem AV3{s:A0}(h:FM s=true): ∃a q,s=a::q/\F3 (a.toNat:Int)=true:=by
 obtain⟨h1,b⟩:=V9.1 h
 cases s with
 |nil=>exact absurd U h1
 |cons a q=>
  have:=b 0 (Int.le_refl 0) (L0.1 h1)
  rw[G8]at this
  unfold CK at this
  simp only[beq_self_eq_true,Bool.not_true,Bool.false_and,Bool.or_false]at this
  exact⟨a,q,rfl,this⟩
theorem AV4: ∀m∈GG,C4 (m++[])=(⟨1,m,C0,0⟩,len m,0):=by decide+kernel
theorem Z0(s:A0): ∃q,E5 s=34::q:=⟨_,rfl⟩
theorem AV5{t:Tk}(h:HR t=true){r:A0}(B:YZ r):C4 (S1 t++r)=({ t with pos:=0},len (S1 t),0)/\S1 t≠[]:=by
 obtain⟨kind,s,c,pos⟩:=t
 unfold HR at h
 unfold S1
 dsimp only at h ⊢
 split at h
 ·rename_i i
  simp only[beq_iff_eq]at i
  simp only[Bool.and_eq_true,decide_eq_true_eq]at h
  subst i
  obtain⟨h1,rfl⟩:=h
  unfold bC at h1
  have hm:s∈GG:=by simpa using h1
  have k:s≠[]:=by
   have: ∀m∈GG,m≠[]:=by decide
   exact this s hm
  rw[if_neg Ab,if_neg Ab,if_neg Ab]
  exact⟨fD k (AV4 s hm) (B.stop []),k⟩
 split at h
 ·rename_i i
  simp only[beq_iff_eq]at i
  simp only[Bool.and_eq_true,decide_eq_true_eq]at h
  subst i
  obtain⟨h1,rfl⟩:=h
  obtain⟨a,q,hs,l⟩:=AV3 h1
  have hw:=fP h1 B
  have k:s≠[]:=by rw[hs];simp
  rw[if_neg Ab,if_neg Ab,if_neg Ab]
  refine⟨?_,k⟩
  have n:A3 (s++r) 0=(a.toNat:Int):=by rw[hs];rfl
  have j: ¬(a.toNat:Int)=46:=λ e=>by rw[e]at l;cases l
  have hm:EP (s++r)=[]:=by rw[hs];exact QD (fB l)
  unfold C4
  rw[n,if_neg (λ x=>j x.1),if_neg (λ x=>j x.1),hm,if_neg (λ x=>x U),hw,if_pos k]
 split at h
 ·rename_i i
  simp only[Bool.or_eq_true,beq_iff_eq]at i
  simp only[Bool.and_eq_true,decide_eq_true_eq]at h
  obtain⟨h1,rfl⟩:=h
  obtain⟨q,y⟩:=Z0 s
  have hu:=fM h1 r
  rcases i with rfl|rfl
  ·rw[if_pos U]
   by_cases hw: ¬BC s=s\/s=[]
   ·rw[if_pos hw]
    refine⟨?_,by simp⟩
    have w:BC (E5 s++r)=[]:=by rw[y];exact L1 U
    have hp:Lib.hasPrefix (E5 s++r) [34]=true:=by rw[y];exact MG.2 ⟨by simp,rfl⟩
    unfold C4
    rw[List.cons_append,G8,VD,w,if_neg (λ x=>x.2 U),if_pos ⟨rfl,hp⟩,hu,AM]
    simp only[Prod.mk.injEq,true_and,and_true];omega
   ·rw[if_neg hw]
    simp only[not_or,Classical.not_not]at hw
    refine⟨?_,by simp⟩
    have H:FM s=true:=by rw[<-hw.1];exact YY (by rw[hw.1];exact hw.2)
    have C:=fP H B
    unfold C4
    rw[List.cons_append,G8,VD,C,if_pos ⟨rfl,hw.2⟩,AM]
    simp only[Prod.mk.injEq,true_and,and_true];omega
  ·rw[if_neg Ab,if_pos U]
   refine⟨?_,by rw[y];simp⟩
   have n:A3 (E5 s++r) 0=34:=by rw[y];rfl
   have w:BC (E5 s++r)=[]:=L1 (by rw[n];rfl)
   have D:EP (E5 s++r)=[]:=by rw[y];exact QD U
   unfold C4
   rw[n,if_neg (λ x=>absurd x.1 Ab),if_neg (λ x=>absurd x.1 Ab),D,if_neg (λ x=>x U),w,if_neg (λ x=>x U),if_pos U,hu]
 split at h
 ·rename_i i
  simp only[beq_iff_eq]at i
  simp only[Bool.and_eq_true,beq_iff_eq]at h
  subst i
  obtain⟨rfl,h1⟩:=h
  rw[if_neg Ab,if_neg Ab,if_pos U]
  obtain⟨p1,⟨g,q,hg,E⟩,p3⟩:=AU3 h1
  obtain⟨a,G,l,b⟩: ∃a G,IC c=a::G/\((a.toNat:Int)=45\/CA (a.toNat:Int)=true):=by
   rw[hg]
   cases c.neg with
   |true=>exact⟨45,g::q,rfl,.inl U⟩
   |false=>exact⟨g,q,rfl,.inr E⟩
  have k:IC c≠[]:=by rw[l];simp
  refine⟨?_,k⟩
  have z:runN (IC c++r)=IC c:=by
   have e:runN (IC c++[])=IC c:=by
    rw[XW,List.append_nil];exact oU p3
   exact pA e (B.stop [])
  have n:A3 (IC c++r) 0=(a.toNat:Int):=by rw[l];rfl
  obtain⟨g1,g2⟩:=pB b
  have hm:EP (IC c++r)=[]:=by rw[l];exact QD g1
  have hw:BC (IC c++r)=[]:=L1 (by rw[n];exact g2)
  have A: ¬(a.toNat:Int)=46:=λ e=>by rw[e]at b;revert b;decide
  have F: ¬(a.toNat:Int)=34:=λ e=>by rw[e]at b;revert b;decide
  unfold C4
  rw[n,if_neg (λ x=>A x.1),if_neg (λ x=>A x.1),hm,if_neg (λ x=>x U),hw,if_neg (λ x=>x U),if_neg F,if_pos b,z,p1,if_neg (by simp)]
 ·cases h
theorem Lx.HR {s:A0}{i:Int}{l:List Tk}(h:Lx s i l): ∀t∈l,Eng.HR t=true:=by
 induction h with
 |done _ _=>intro t b;cases b
 | @step i n t l _ _ h _ ih=>
  intro e b
  rcases List.mem_cons.1 b with rfl|b
  ·have:Eng.HR t=true:=AV2 h
   exact this
  ·exact ih e b
theorem AV6(r:Int):len (Lib.encodeRuneZ r)<=4:=by
 unfold Lib.encodeRuneZ
 repeat' split
 all_goals (unfold len;simp)
theorem fQ{s:A0}: ∀(f:Nat) (i:Int) (acc:List Int),0<=i->i<=len s->len (DT f s i acc).1<=len acc+4*(len s-i)
 |0,i,acc,h0,h1=>by unfold DT;have:=A9 acc;rw[len_nil];omega
 |f+1,i,acc,h0,h1=>by
  have h:=A9 acc
  have j:len ([]:A0)=0:=rfl
  have he:=AV6
  unfold DT
  split
  ·rename_i b
   have k:=ED s i h0 h1
   split
   ·have:len (toStr acc)=len acc:=by unfold toStr len;simp
    dsimp only;omega
   ·split
    ·have e:=XZ (A5 s i)
     split
     ·dsimp only;omega
     ·have:=fQ (s:=s) f (i+(BZ (A5 s i)).2) (acc++Lib.encodeRuneZ (BZ (A5 s i)).1) Aa Aa
      have:=he (BZ (A5 s i)).1
      rw[AQ]at*
      omega
    ·split
     ·dsimp only;omega
     ·have e:=dX h0 b
      rw[Q2 s i h0]
      have:=fQ (s:=s) f (i+runeLen s i) (acc++Lib.encodeRuneZ (B2 (A5 s i) 0)) Aa Aa
      have:=he (B2 (A5 s i) 0)
      rw[AQ]at*
      omega
  ·dsimp only;omega
theorem fR(s:A0):len (B4 s).1<=4*len s:=by
 have:=A9 s
 unfold B4
 split
 ·rename_i h
  have h1:(1:Int)<=len s:=Y1 h
  have:=fQ (s:=s) s.length 1 [] Aa h1
  rw[len_nil]at this;omega
 ·show len ([]:A0)<=_
  rw[len_nil];omega
def EL(s:A0)(i:Int):A0:=((A5 s i).takeWhile DJ).take 7
def IE(s:A0)(i:Int):Int×Int:=
 if EL s i=[]\/(A3 s i=48/\1<len (EL s i))\/1000000<D2 (EL s i)then(-1,i)else(D2 (EL s i),i+len (EL s i))
def OR:Sp:=⟨false,[],0⟩
def OS(s:A0)(i j:Int):Sp×Int:=
 if len s<=j\/A3 s j≠91 then(OR,i)
 else if(IE s (j+1)).1<0\/len s<=(IE s (j+1)).2\/A3 s (IE s (j+1)).2≠93 then(OR,i)
 else(⟨true,[],(IE s (j+1)).1⟩,(IE s (j+1)).2+1)
def DL(s:A0)(i:Int)(first:Bool):Sp×Int:=
 if i<len s/\A3 s i=46 then
  if BC (A5 s (i+1))≠[]then(⟨false,BC (A5 s (i+1)),0⟩,i+1+len (BC (A5 s (i+1))))
  else if(B4 (A5 s (i+1))).2.2=0/\FM (B4 (A5 s (i+1))).1=false/\NC (B4 (A5 s (i+1))).1=Eng.sub s (i+1) (i+1+(B4 (A5 s (i+1))).2.1)then(⟨false,(B4 (A5 s (i+1))).1,0⟩,i+1+(B4 (A5 s (i+1))).2.1)
  else if first=false then(OR,i)else OS s i (i+1)
 else if first then(OR,i)else OS s i i
def GM:Nat->A0->List Sp->Int->List Sp×Int
 |0,_,p,i=>(p,i)
 |f+1,s,p,i=>if(DL s i (p.isEmpty)).2=i then(p,i)else GM f s (p++[(DL s i (p.isEmpty)).1]) (DL s i (p.isEmpty)).2
def EZ(s:A0)(i:Int):List Sp×Int:=if(GM 20 s [] i).1=[]/\i<len s/\A3 s i=46 then([],i+1)else GM 20 s [] i
def ER(s:A0):List Sp×Int×Int:=
 if s=[46]then((EZ s 0).1,0,0)else if(EZ s 0).1=[]then([],0,1)else if(EZ s 0).2<len s then([],(EZ s 0).2,1)else((EZ s 0).1,0,0)
def SL(s:A0):Bool:=(ER s).2.2==0
def Sp.AR (x:Sp):Prop:=(x.part=true->x.name=[]/\0<=x.n/\x.n<=1000000)/\(x.part=false->x.n=0/\DO x.name=true)
def Sp.KH (x:Sp):A0:=if x.part then [91]++Lib.itoa x.n++[93]else [46]++FH x.name
def JU(p:List Sp):A0:=(if p=[]\/(at' p 0).part=true then [46]else [])++(p.map Sp.KH).flatten
theorem AV7{s:A0}:FM s=Q4 s:=by
 unfold Q4
 by_cases h:s=[]
 ·subst h;decide+kernel
 ·by_cases hw:FM s=true
  ·rw[hw]
   have:=fP hw (r:=[]) (.inl U)
   rw[List.append_nil]at this
   rw[this];simp[h]
  ·rw[Bool.eq_false_iff.2 hw]
   symm
   rw[Bool.and_eq_false_iff];right
   rw[beq_eq_false_iff_ne]
   intro e
   exact hw (by rw[<-e];exact YY (by rw[e];exact h))
theorem VG(a:A0)(c:UInt8):D2 (a++[c])=D2 a*10+((c.toNat:Int)-48):=by unfold D2;rw[List.foldl_append];rfl
theorem fS{α:Type}{p:List α->Prop}(h0:p [])(hs: ∀a c,p a->p (a++[c]))(l:List α):p l:=by
 rw[<-List.reverse_reverse l]
 induction l.reverse with
 |nil=>exact h0
 |cons c a b=>rw[List.reverse_cons];exact hs _ _ b
theorem pX{g:A0}(h:CS g):0<=D2 g:=by
 induction g using fS with
 |h0=>exact Int.le_refl _
 |hs a c i=>
  rw[VG]
  have:=i λ b j=>h b (by simp[j])
  have e:=h c (by simp)
  unfold DJ CA at e
  simp only[Bool.and_eq_true,decide_eq_true_eq]at e
  omega
theorem AV8{g:A0}(h:CS g)(s:g≠[])(w: ¬(A3 g 0=48/\1<len g)):Lib.itoa (D2 g)=g:=by
 induction g using fS with
 |h0=>exact absurd U s
 |hs a c y=>
  have l:=h c (by simp)
  unfold DJ CA at l
  simp only[Bool.and_eq_true,decide_eq_true_eq]at l
  have n:CS a:=λ b z=>h b (by simp[z])
  have h0:=pX n
  rw[AG2 (by rw[VG];omega),VG]
  have j:toStr [48+(D2 a*10+((c.toNat:Int)-48))%10]=[c]:=by
   have:48+(D2 a*10+((c.toNat:Int)-48))%10=(c.toNat:Int):=by omega
   rw[this,mQ _ c.toNat Aa,UInt8.ofNat_toNat]
  rw[j]
  congr 1
  by_cases he:a=[]
  ·subst he
   have:D2 []=0:=rfl
   rw[if_neg Aa]
  ·have hl:=HQ he
   have i: ¬A3 a 0=48:=λ e=>w ⟨by rw[IU (Int.le_refl 0) hl];exact e,by rw[AQ];have:len [c]=1:=rfl;omega⟩
   have h1:=y n he (λ e=>i e.1)
   have q:0<D2 a:=by
    rcases Int.lt_or_eq_of_le h0 with k|k
    ·exact k
    ·exfalso
     rw[<-k]at h1
     have:Lib.itoa 0=[48]:=by decide+kernel
     rw[this]at h1
     rw[<-h1]at i
     exact i U
   rw[if_pos Aa,show(D2 a*10+((c.toNat:Int)-48))/10=D2 a by omega,h1]
theorem AV9(s:A0)(i:Int):CS (EL s i):=λ b e=>by
 unfold EL at e
 have:=List.mem_of_mem_take e
 exact List.all_eq_true.1 List.all_takeWhile b this
theorem pY(s:A0)(i:Int): ∃r,A5 s i=EL s i++r:=by
 have h1:=List.takeWhile_prefix DJ (l:=A5 s i)
 have b:=List.take_prefix 7 ((A5 s i).takeWhile DJ)
 obtain⟨r,e⟩:=b.trans h1
 exact⟨r,e.symm⟩
theorem pZ{s:A0}{i j:Int}{x:Sp}{zz:Int}(h0:0<=i)(K:i<=j)(h:OS s i j=(x,zz))(D:zz≠i):x.AR/\x.part=true/\A5 s j=x.KH++A5 s zz/\j<zz/\zz<=len s:=by
 unfold OS at h
 split at h
 ·simp only[Prod.mk.injEq]at h;omega
 ·rename_i h1
  split at h
  ·simp only[Prod.mk.injEq]at h;omega
  ·rename_i b
   simp only[Prod.mk.injEq]at h
   obtain⟨rfl,rfl⟩:=h
   have l: ¬(EL s (j+1)=[]\/(A3 s (j+1)=48/\1<len (EL s (j+1)))\/1000000<D2 (EL s (j+1))):=by
    intro E
    unfold IE at b
    rw[if_pos E]at b
    exact b (.inl (by show(-1:Int)<0;omega))
   unfold IE at b ⊢
   rw[if_neg l]at b ⊢
   dsimp only at b ⊢
   have B:=AV9 s (j+1)
   obtain⟨r,n⟩:=pY s (j+1)
   have k:EL s (j+1)≠[]:=λ e=>l (.inl e)
   have q:=HQ k
   have F:A3 (EL s (j+1)) 0=A3 s (j+1):=by
    have C:A3 (A5 s (j+1)) 0=A3 s (j+1+0):=OG s (j+1) 0 Aa (Int.le_refl 0)
    rw[n,IU (Int.le_refl 0) q,Int.add_zero]at C;exact C
   have hi:=AV8 B k (λ e=>l (.inr (.inl ⟨by rw[<-F];exact e.1,e.2⟩)))
   have hd:=pX B
   have w:j+1+len (EL s (j+1))<len s:=by omega
   refine⟨⟨λ _=>⟨rfl,hd,by show D2 _<=_;omega⟩,(λ e=>by cases e)⟩,rfl,?_,Aa,Aa⟩
   show _=[91]++Lib.itoa (D2 (EL s (j+1)))++[93]++_
   rw[hi]
   obtain⟨G,H,e2⟩:=KB s j Aa Aa
   obtain⟨J,e3,e4⟩:=KB s (j+1+len (EL s (j+1))) Aa w
   have y:G=91:=UInt8.toNat_inj.1 (by have:(91:UInt8).toNat=91:=rfl;omega)
   have z:J=93:=UInt8.toNat_inj.1 (by have:(93:UInt8).toNat=93:=rfl;omega)
   have A:r=A5 s (j+1+len (EL s (j+1))):=by
    rw[<-KE s (j+1) _ Aa Aa,n,VB]
   rw[H,y,n,A,e3,z]
   simp
theorem AW0(s:A0):s=BC s++A5 s (len (BC s)):=by
 have b:=UZ s
 have:=eX (s:=s) (n:=len (BC s)) b.1 b.2
 have e:Eng.sub s 0 (len (BC s))=BC s:=by rw[MC];rfl
 rw[e]at this;exact this.1
theorem qA{s:A0}{i:Int}{first:Bool}{x:Sp}{zz:Int}(h0:0<=i)(h:DL s i first=(x,zz))(j:zz≠i):
  x.AR/\A5 s i=(if first&&x.part then [46]else [])++(x.KH++A5 s zz)/\i<zz/\zz<=len s:=by
 unfold DL at h
 split at h
 ·rename_i h1
  obtain⟨z,l,e2⟩:=KB s i h0 h1.1
  have n:z=46:=UInt8.toNat_inj.1 (by have:(46:UInt8).toNat=46:=rfl;omega)
  subst n
  have hl:=ED s (i+1) Aa Aa
  split at h
  ·rename_i y
   simp only[Prod.mk.injEq]at h
   obtain⟨rfl,rfl⟩:=h
   have q:=UZ (A5 s (i+1))
   refine⟨⟨(λ e=>by cases e),λ _=>⟨rfl,pW _⟩⟩,?_,Aa,Aa⟩
   show _=(if first&&false then [46]else [])++(([46]++FH (BC (A5 s (i+1))))++_)
   rw[Bool.and_false,if_neg Ab]
   unfold FH
   rw[if_pos (YY y),l,<-KE s (i+1) _ Aa q.1]
   conv=>lhs;rw[AW0 (A5 s (i+1))]
   simp
  ·split at h
   ·rename_i w
    simp only[Prod.mk.injEq]at h
    obtain⟨rfl,rfl⟩:=h
    have q:=OH (A5 s (i+1))
    have y:=q.2.2.1 w.1
    refine⟨⟨(λ e=>by cases e),λ _=>⟨rfl,fO _⟩⟩,?_,Aa,Aa⟩
    show _=(if first&&false then [46]else [])++(([46]++FH (B4 (A5 s (i+1))).1)++_)
    rw[Bool.and_false,if_neg Ab]
    unfold FH
    rw[w.2.1,if_neg Ab,w.2.2,l]
    have k:=SF s (i+1) (i+1+(B4 (A5 s (i+1))).2.1) Aa Aa
    generalize (B4 (A5 s (i+1))).2.1=m at k ⊢
    conv=>lhs;rw[k]
    simp
   ·split at h
    ·simp only[Prod.mk.injEq]at h;omega
    ·rename_i b
     have b:first=true:=by simpa using b
     subst b
     obtain⟨g1,g2,g3,g4,g5⟩:=pZ h0 Aa h j
     refine⟨g1,?_,Aa,g5⟩
     rw[g2,l,g3];rfl
 ·split at h
  ·simp only[Prod.mk.injEq]at h;omega
  ·rename_i b
   obtain⟨g1,g2,g3,g4,g5⟩:=pZ h0 (Int.le_refl i) h j
   refine⟨g1,?_,g4,g5⟩
   rw[g3]
   have b:first=false:=by simpa using b
   rw[b];rfl
theorem AW1(p:List Sp)(x:Sp):JU (p++[x])=if p=[]then(if x.part then [46]else [])++x.KH else JU p++x.KH:=by
 unfold JU
 cases p with
 |nil=>simp[at']
 |cons a p=>simp[at']
theorem qB{s:A0}: ∀(f:Nat) (p:List Sp) (i:Int) (p2:List Sp) (i2:Int),0<=i->i<=len s->GM f s p i=(p2,i2)->(∀x∈p,x.AR)->(p≠[]->s=JU p++A5 s i)->(p=[]->i=0)->
  (∀x∈p2,x.AR)/\p2.length<=p.length+f/\0<=i2/\i2<=len s/\(p2≠[]->s=JU p2++A5 s i2)/\(p2=[]->i2=0)
 |0,p,i,p2,i2,h0,h1,h,hp,hs,hi=>by
  rw[GM]at h
  simp only[Prod.mk.injEq]at h;obtain⟨rfl,rfl⟩:=h
  exact⟨hp,Aa,h0,h1,hs,hi⟩
 |f+1,p,i,p2,i2,h0,h1,h,hp,hs,hi=>by
  rw[GM]at h
  split at h
  ·simp only[Prod.mk.injEq]at h;obtain⟨rfl,rfl⟩:=h
   exact⟨hp,Aa,h0,h1,hs,hi⟩
  ·rename_i b
   obtain⟨g1,g2,g3,g4⟩:=qA h0 (x:=(DL s i p.isEmpty).1) (zz:=(DL s i p.isEmpty).2) rfl b
   have:=qB f _ _ p2 i2 Aa g4 h (λ x hx=>by
    rcases List.mem_append.1 hx with hx|hx
    ·exact hp x hx
    ·rw[List.mem_singleton.1 hx];exact g1) (λ _=>by
     rw[AW1]
     by_cases hpe:p=[]
     ·subst hpe
      have:=hi U
      subst this
      rw[if_pos U,List.append_assoc]
      exact g2
     ·rw[if_neg hpe,List.append_assoc]
      have he:p.isEmpty=false:=by cases p with|nil=>exact absurd rfl hpe|cons a p=>rfl
      rw[he]at g2 ⊢
      have:=hs hpe
      rw[g2]at this
      exact this) (λ e=>by simp at e)
   refine⟨this.1,?_,this.2.2⟩
   have j:=this.2.1
   rw[List.length_append,List.length_singleton]at j;omega
theorem AW2{s:A0}(h:SL s=true): ∃p:List Sp,p.length<=20/\(∀x∈p,x.AR)/\s=JU p/\(ER s).1=p:=by
 unfold SL ER at h
 unfold ER
 obtain⟨g1,g2,g3,g4,g5,g6⟩:=qB (s:=s) 20 [] 0 (GM 20 s [] 0).1 (GM 20 s [] 0).2 (Int.le_refl 0) (A9 s) rfl (λ x hx=>by cases hx) (λ e=>absurd rfl e) (λ _=>rfl)
 have hp:(EZ s 0).1=(GM 20 s [] 0).1:=by
  unfold EZ
  split
  ·rename_i h1;exact h1.1.symm
  ·rfl
 split at h
 ·rename_i h1
  subst h1
  rw[if_pos U]
  exact⟨[],Ab,(λ x hx=>by cases hx),Ab,Ac⟩
 ·rename_i h1
  rw[if_neg h1]
  split at h
  ·exact absurd h (show ¬((1:Int)==0)=true by decide)
  ·rename_i b
   rw[if_neg b]
   split at h
   ·exact absurd h (show ¬((1:Int)==0)=true by decide)
   ·rename_i i
    rw[if_neg i]
    rw[hp]at b ⊢
    have j:EZ s 0=GM 20 s [] 0:=by
     unfold EZ
     rw[if_neg (λ e=>b e.1)]
    rw[j]at i
    refine⟨_,by simpa using g2,g1,?_,rfl⟩
    have:=g5 b
    rw[PX _ _ Aa,List.append_nil]at this
    exact this
end Go.Eng
set_option maxRecDepth 100000
namespace Go.Proofs.YtnoegalemkbbbaaGreatDoor
open Go.Proofs.Tryz
open Go.Eng Go.RowKit
theorem qC(n:Int)(w:World)(h:0<=n/\n<=15):Calls prog 261 [i64 n].toArray w λ e w'=>e= .returned (str (NA n))/\Ext w w':=AH AF func261 U ntmps261 [] [] [I n] U (BD w) A4 (λ B b=>A2 b U U U (λ w M i=>⟨rfl,i.st.low⟩) (hO:=by and_intros<;>first|omega|(show _<=(16:Int);omega)|trivial)) U
theorem qD(n:Int):0<=len (NA n)/\len (NA n)<=1:=by unfold NA Eng.sub len;simp;omega
theorem AW3(x:Int)(w:World)(h:0<=x/\x<=255):Calls prog 237 [.int .u8 x].toArray w λ e w'=>e= .returned (str (NB x))/\Ext w w':=by
 have k:=qD (x/16)
 have l:=qD (x%16)
 have b:=NB.eq_1 x
 refine AH AF func237 U ntmps237 [] [] [.v (.int .u8 x)] U (BD w) A4 (λ B j=>?_) U
 refine A1 U (λ h1=>?_) (λ h1=>?_)<;>simp only[zb]at h1
 ·rw[if_pos h1]at b
  exact A2 j U U U (λ w M i=>⟨by rw[b];rfl,i.st.low⟩)
 rw[if_neg h1]at b
 refine A1 U (λ h1=>?_) (λ h1=>?_)<;>simp only[zb]at h1
 ·rw[if_pos h1]at b
  exact A2 j U U U (λ w M i=>⟨by rw[b];rfl,i.st.low⟩)
 rw[if_neg h1]at b
 refine A1 U (λ h1=>?_) (λ h1=>?_)<;>simp only[zb]at h1
 ·rw[if_pos h1]at b
  exact A2 j U U U (λ w M i=>⟨by rw[b];rfl,i.st.low⟩)
 rw[if_neg h1]at b
 refine A1 U (λ h1=>?_) (λ h1=>?_)<;>simp only[zb]at h1
 ·rw[if_pos h1]at b
  exact A2 j U U U (λ w M i=>⟨by rw[b];rfl,i.st.low⟩)
 rw[if_neg h1]at b
 refine A1 U (λ h1=>?_) (λ h1=>?_)<;>simp only[zb]at h1
 ·rw[if_pos h1]at b
  exact A2 j U U U (λ w M i=>⟨by rw[b];rfl,i.st.low⟩)
 rw[if_neg h1]at b
 refine A1 U (λ h1=>?_) (λ h1=>?_)<;>simp only[zb]at h1
 ·rw[if_pos h1]at b
  exact A2 j U U U (λ w M i=>⟨by rw[b];rfl,i.st.low⟩)
 rw[if_neg h1]at b
 refine A1 U (λ h1=>?_) (λ h1=>?_)<;>simp only[zb]at h1
 ·rw[if_pos h1]at b
  exact A2 j U U U (λ w M i=>⟨by rw[b];rfl,i.st.low⟩)
 rw[if_neg h1]at b
 refine A1 U (λ h1=>?_) (λ h1=>?_)<;>simp only[zb]at h1
 ·rw[if_pos h1]at b
  refine AJ U call261 U U (λ _ w M i=>qC (x/16) w Aa) U <|AJ U call261 U U (λ _ w M i=>qC (x%16) w Aa) U ?_ (hO:=by simp only[AM,len_nil];and_intros<;>first|omega|trivial)
  exact A2 j U U U (λ w M i=>⟨by rw[b];rfl,i.st.low⟩) (hO:=by simp only[AQ,AM,len_nil];and_intros<;>first|omega|trivial)
 rw[if_neg h1]at b
 exact BF 3 [x] BY 1 5 G3 U U Ah U (λ v3=>AU (.v (str (toStr [x]))) U U (λ w M i=>PV.U0 i.st H8 (i.sl 3 U) (A8 (v:=.sl 3 v3) (E:=[]) U) underlying216 underlying5 underlying9) <|A2 j U U U (λ w M i=>⟨by rw[b];rfl,i.st.low⟩))
theorem AW4(s:A0)(w:World)(A:len s<=1099511627776):Calls prog 203 [str s].toArray w λ e w'=>e= .returned (str (NC s))/\Ext w w':=by
 have l:=A9 s
 refine AH AF func203 U ntmps203 [] [] [.v (str s)] U (BD w) A4 (λ B n=>B5 (σ:=Int×A0) (λ(k,o)=>⟨[],[],[Z 0 (.v (str s)),Z 3 (.v (str o)),Z 4 (I k)]⟩) (λ(k,o)=>0<=k/\k<=len s/\o=34::(Eng.sub s 0 k).flatMap KT/\len o<=6*k+1) (λ(k,_)=>(len s-k).toNat) (0,[34]) U U ⟨Aa,Aa,rfl,Ab⟩ ?_) U
 rintro⟨k,o⟩ ⟨i,q,b,hlen⟩
 have y:=AF7 (A3 s k)
 have z:=LO s k
 have ho:=A9 o
 refine A1 U (λ h=>?_) (λ h=>?_)<;>simp only[zb]at h
 ·exact AJ U call237 U U (λ _ w M j=>AW3 _ w Aa) U <|AX (k+1,o++NB (A3 s k)) U U ⟨Aa,Aa,AF8 i h b,by rw[AQ];omega⟩ Ag
 exact A2 n U U U (λ w M j=>⟨by unfold NC;rw[show k=len s by omega,O6 _ _ (Int.le_refl _)]at b;rw[<-b];rfl,j.st.low⟩) (hO:=by simp only[AM,len_nil];and_intros<;>first|omega|trivial)
theorem qE(n:Int)(w:World)(h:0<=n/\n<=1114111)(hs:n<55296\/57343<n):Calls prog 284 [i64 n].toArray w λ e w'=>e= .returned (str (toStr (Lib.encodeRuneZ n)))/\Ext w w':=by
 refine AH AF func284 U ntmps284 [] [] [I n] U (BD w) A4 (λ B i=>?_) U
 refine A1 U (λ h1=>?_) (λ h1=>?_)<;>simp only[zb]at h1
 ·rw[Lib.encodeRuneZ_one Aa Aa]at i
  exact BF 3 [n] BY 1 5 G3 U U Ah U (λ v3=>AU (.v (str (toStr [n]))) U U (λ w M b=>PV.U0 b.st H8 (b.sl 3 U) (A8 (v:=.sl 3 v3) (E:=[]) U) underlying216 underlying5 underlying9) <|A2 i U U U (λ w M b=>⟨rfl,b.st.low⟩))
 refine A1 U (λ h1=>?_) (λ h1=>?_)<;>simp only[zb]at h1
 ·rw[Lib.encodeRuneZ_two Aa Aa]at i
  exact BF 3 [192+n/64,128+n%64] BY 1 5 G3 U U Ah U (λ v3=>AU (.v (str (toStr [192+n/64,128+n%64]))) U U (λ w M b=>PV.U0 b.st H8 (b.sl 3 U) (A8 (v:=.sl 3 v3) (E:=[]) U) underlying216 underlying5 underlying9) <|A2 i U U U (λ w M b=>⟨rfl,b.st.low⟩))
 refine A1 U (λ h1=>?_) (λ h1=>?_)<;>simp only[zb]at h1
 ·rw[Lib.encodeRuneZ_three Aa]at i
  exact BF 3 [224+n/4096,128+n/64%64,128+n%64] BY 1 5 G3 U U Ah U (λ v3=>AU (.v (str (toStr [224+n/4096,128+n/64%64,128+n%64]))) U U (λ w M b=>PV.U0 b.st H8 (b.sl 3 U) (A8 (v:=.sl 3 v3) (E:=[]) U) underlying216 underlying5 underlying9) <|A2 i U U U (λ w M b=>⟨rfl,b.st.low⟩))
 rw[Lib.encodeRuneZ_four Aa Aa]at i
 exact BF 3 [240+n/262144,128+n/4096%64,128+n/64%64,128+n%64] BY 1 5 G3 U U Ah U (λ v3=>AU (.v (str (toStr [240+n/262144,128+n/4096%64,128+n/64%64,128+n%64]))) U U (λ w M b=>PV.U0 b.st H8 (b.sl 3 U) (A8 (v:=.sl 3 v3) (E:=[]) U) underlying216 underlying5 underlying9) <|A2 i U U U (λ w M b=>⟨rfl,b.st.low⟩))
theorem qF(s:A0)(i:Int)(w:World)(h0:0<=i)(h1:i<=len s)(S:len s<=1099511627776):Calls prog 283 [str s,i64 i].toArray w λ e w'=>e= .returned (i64 (C3 (A5 s i)))/\Ext w w':=by
 have N:=A9 s
 refine AH AF func283 U ntmps283 [] [] [.v (str s),I i] U (BD w) A4 (λ B G=>?_) U
 refine A1 U (λ K=>?_) (λ K=>?_)<;>simp only[zb]at K
 ·exact A2 G U U U (λ w M C=>⟨by rw[o5 h0 Aa];rfl,C.st.low⟩)
 have b:i+6<=len s/\A3 s i=92/\A3 s (i+1)=117:=by omega
 have D:=(SD (s:=s) (i:=i+2) (j:=i+2) Aa (Int.le_refl _) Aa).2 U
 refine B5 (σ:=Int×Int) (λ(n,k)=>⟨[],[],[Z 0 (.v (str s)),Z 1 (I i),Z 5 (I n),Z 6 (I k)]⟩) (λ(n,k)=>i+2<=k/\k<=i+6/\EI (Eng.sub s (i+2) k)=true/\n=F8 (Eng.sub s (i+2) k)) (λ(_,k)=>(i+6-k).toNat) (0,i+2) U U ⟨Aa,Aa,by rw[D];rfl,by rw[D];rfl⟩ ?_
 rintro⟨n,k⟩ ⟨h,O,l,H⟩
 refine A1 U (λ E=>?_) (λ E=>?_)<;>simp only[zb]at E
 ·have P:=LO s k
  have Q:=FG (s:=s) (i:=i+2) (j:=k) Aa h Aa
  have J:=AL6 l Aa
  rw[<-H]at J
  have hx:=GK.eq_1 (A3 s k)
  refine CP 2 (λ st=> ∃y,(y=n*16+GK (A3 s k)/\0<=GK (A3 s k))/\st=⟨[],[],[Z 0 (.v (str s)),Z 1 (I i),Z 5 (I y),Z 6 (I k)]⟩) U U (λ q=>?_) (λ q=>?_) ?_<;>try simp only[zb]at q
  ·rw[if_pos q]at hx
   exact AW _ U U ⟨_,Aa,rfl⟩
  ·rw[if_neg Aa]at hx
   refine A1 U (λ z=>?_) (λ z=>?_)<;>simp only[zb]at z
   ·rw[if_pos z]at hx
    exact AW _ U U ⟨_,Aa,rfl⟩
   rw[if_neg Aa]at hx
   refine A1 U (λ A=>?_) (λ A=>?_)<;>simp only[zb]at A
   ·rw[if_pos A]at hx
    exact AW _ U U ⟨_,Aa,rfl⟩
   rw[if_neg Aa]at hx
   exact A2 G U U U (λ w M C=>⟨by rw[YF h0 b.1 b.2.1 b.2.2,o4 (s:=s) (i:=i+2) (k:=k) (j:=i+6) Aa h Aa b.1 Aa];rfl,C.st.low⟩)
  rintro _ ⟨y,L,rfl⟩
  have F:=o3 (s:=s) (i:=i+2) (k:=k) Aa h Aa l L.2
  exact AX (y,k+1) U U ⟨Aa,Aa,F.1,by rw[F.2,L.1,H]⟩ Ag
 have R:k=i+6:=by omega
 subst R
 exact A2 G U U U (λ w M C=>⟨by rw[YF h0 b.1 b.2.1 b.2.2,if_pos l,<-H];rfl,C.st.low⟩)
theorem AW5(s:A0)(i:Int)(w:World)(h0:0<=i)(h1:i<len s)(F:len s<=1099511627776):Calls prog 260 [str s,i64 i].toArray w λ e w'=>e= .returned (.tuple #[str (Q9 (BZ (A5 s i))).1,i64 (Q9 (BZ (A5 s i))).2])/\Ext w w':=by
 have J:=A9 s
 have hl:=ED s i h0 Aa
 have n:=OG s i 1 h0 Aa
 have hu:=OE (A5 s i)
 have K:=OE (A5 s (i+6))
 have C:=KE s i 6 h0 Aa
 have O:len JT=8:=rfl
 have L:len eK=8:=rfl
 have he:=BZ.eq_1 (A5 s i)
 rw[C]at he
 refine AH AF func260 U ntmps260 [] [] [.v (str s),I i] U (BD w) A4 (λ B z=>?_) U
 refine A1 U (λ D=>?_) (λ D=>?_)<;>simp only[zb]at D
 ·rw[if_pos Aa]at he
  exact A2 z U U U (λ w M l=>⟨by rw[he];rfl,l.st.low⟩)
 rw[if_neg Aa]at he
 refine B5 (σ:=Int) (λ k=>⟨[],[],[Z 0 (.v (str s)),Z 1 (I i),Z 6 (.v (str JT)),Z 7 (.v (str eK)),Z 8 (I k)]⟩) (λ k=>0<=k/\k<=8/\SE (A3 s (i+1)) k) (λ k=>(8-k).toNat) 0 U U ⟨Aa,Aa,λ j D P=>by omega⟩ ?_
 rintro k ⟨E,N,G⟩
 refine A1 U (λ A=>?_) (λ A=>?_)<;>simp only[zb]at A
 ·refine DI [] 1 (λ _ _ _ _ _ h=>h) U Ai U <|BN U U U ?_
  refine A1 U (λ b=>?_) (λ b=>?_)<;>simp only[zb]at b
  ·have H:=AL4 (c:=A3 s (i+1)) E Aa b
   exact A2 z U U U (λ w M l=>⟨by rw[AL5 Aa (by rw[n];exact H.1),n,H.2];rfl,l.st.low⟩)
  ·exact AX (k+1) U U ⟨Aa,Aa,G.step b⟩ Aa
 rw[if_neg (by rw[n,G.eJ Aa];simp)]at he
 refine AJ U call283 U U (λ _ w M l=>qF s i w h0 Aa F) U ?_
 refine A1 U (λ b=>?_) (λ b=>?_)<;>simp only[zb]at b
 ·rw[if_pos b]at he
  exact A2 z U U U (λ w M l=>⟨by rw[he];rfl,l.st.low⟩)
 rw[if_neg Aa]at he
 refine A1 U (λ q=>?_) (λ q=>?_)<;>simp only[zb]at q
 ·rw[if_pos q]at he
  exact AJ U call284 U U (λ _ w M l=>qE _ w Aa Aa) U <|A2 z U U U (λ w M l=>⟨by rw[he];rfl,l.st.low⟩)
 rw[if_neg Aa]at he
 refine AJ U call283 U U (λ _ w M l=>qF s (i+6) w Aa Aa F) U ?_
 refine A1 U (λ y=>?_) (λ y=>?_)<;>simp only[zb]at y
 ·rw[if_pos y]at he
  exact A2 z U U U (λ w M l=>⟨by rw[he];rfl,l.st.low⟩)
 rw[if_neg Aa]at he
 exact AJ U call284 U U (λ _ w M l=>qE _ w Aa Aa) U <|A2 z U U U (λ w M l=>⟨by rw[he,Int.mul_comm];rfl,l.st.low⟩)
theorem AW6(s:A0)(i:Int)(w:World)(h0:0<=i)(h1:i<len s)(l:len s<=1099511627776):Calls prog 236 [str s,i64 i].toArray w λ e w'=>e= .returned (.tuple #[str (HY s i).1,i64 (HY s i).2])/\Ext w w':=by
 have n:=A9 s
 have y:=LQ s i
 have q:=rune_le s i h1
 have h:=HY.eq_1 s i
 refine AH AF func236 U ntmps236 [] [] [.v (str s),I i] U (BD w) A4 (λ B k=>?_) U
 refine A1 U (λ j=>?_) (λ j=>?_)<;>simp only[zb]at j
 ·rw[if_pos j]at h
  exact AJ U call260 U U (λ _ w M b=>AW5 s i w h0 h1 l) U <|A2 k U U U (λ w M b=>⟨by rw[h];rfl,b.st.low⟩)
 rw[if_neg j]at h
 exact AJ U call159 U U (λ _ w M b=>lR s i w h0 h1 Aa) U <|A2 k U U U (λ w M b=>⟨by rw[h];rfl,b.st.low⟩)
theorem AW7(s:A0)(w:World)(F:len s<=1099511627776):Calls prog 202 [str s].toArray w λ e w'=>e= .returned (.tuple #[str (B4 s).1,i64 (B4 s).2.1,i64 (B4 s).2.2])/\Ext w w':=by
 have G:=A9 s
 have q:= @HQ _ s
 refine AH AF func202 U ntmps202 [] [] [.v (str s)] U (BD w) A4 (λ B y=>?_) U
 refine A1 rfl (λ j=>?_) (λ j=>?_) (hO:=by and_intros<;>first|omega|trivial|(rcases Decidable.em (s=[])with A|A;exact .inl (by rw[A];rfl);exact .inr ⟨Aa,q A⟩))<;>simp only[zb]at j
 ·exact A2 y rfl rfl rfl (λ w M l=>⟨by unfold B4;rw[if_neg (by rw[MG];rintro⟨h1,H⟩;rcases j with h|h;exact h1 h;exact h H)];rfl,l.st.low⟩)
 have J:=q j.1
 refine B5 (σ:=Nat×Int×A0) (λ(f,i,o)=>⟨[],[],[Z 0 (.v (str s)),Z 5 (.v (str o)),Z 6 (I i)]⟩) (λ(f,i,o)=>1<=i/\i<=len s/\MF f s i o/\(len s-i).toNat<=f/\len o<=4*i) (λ(_,i,_)=>(len s-i).toNat) (s.length,1,[]) U U ⟨Int.le_refl _,Aa,⟨[],rfl,by unfold B4;rw[if_pos (MG.2 ⟨j.1,by simpa using j.2⟩)]⟩,by unfold len;omega,Ab⟩ ?_
 rintro⟨f,i,o⟩ ⟨h0,h1,z,C,hlen⟩
 have K:=A9 o
 refine A1 U (λ b=>?_) (λ b=>?_)<;>simp only[zb]at b
 ·have L:=AL3 (s:=s) (i:=i) Aa b
  have E:=A9 (HY s i).1
  refine A1 U (λ k=>?_) (λ k=>?_)<;>simp only[zb]at k
  ·exact A2 y U U U (λ w M l=>⟨by rw[z.quote C Aa b k];rfl,l.st.low⟩)
  refine AJ U call236 U U (λ _ w M l=>AW6 s i w Aa b F) U ?_
  refine A1 U (λ n=>?_) (λ n=>?_)<;>simp only[zb]at n
  ·exact A2 y U U U (λ w M l=>⟨by rw[z.bad C Aa b k n];rfl,l.st.low⟩)
  have D:=z.step C Aa b k Aa
  exact AX (f-1,i+(HY s i).2,o++(HY s i).1) U U ⟨Aa,Aa,D,Aa,by rw[AQ];omega⟩ Ag
 exact A2 y U U U (λ w M l=>⟨by rw[z.eJ b];rfl,l.st.low⟩)
theorem AW8(neg:Bool)(s:A0)(x:Int)(w:World)(Q:len s<=1099511627776):Calls prog 186 [.bool neg,str s,i64 x].toArray w λ e w'=>e= .returned (.tuple #[EV (CI neg s x).1,i64 (CI neg s x).2])/\Ext w w':=by
 have F:=A9 s
 have hm:=CI.eq_1 neg s x
 refine AH AF func186 U ntmps186 [] [] [.v (.bool neg),.v (str s),I x] U (BD w) A4 (λ B C=>BA 6 U zeroValue46 U λ b=>AJ U call174 U U (λ _ w M l=>lT s w Aa) U ?_) U
 refine A1 U (λ h1=>?_) (λ h1=>?_)<;>simp only[zb]at h1
 ·rw[if_neg (by rw[h1];simp)]at hm
  exact A2 C U U U (λ w M l=>⟨by rw[hm];rfl,l.st.low⟩)
 rw[if_pos h1]at hm
 refine B5 (σ:=A0) (λ t=>⟨[],[(6,.box b [I 0,I 0,.v (str []),.v (str []),.v (.bool false),I 0] 46)],[Z 0 (.v (.bool neg)),Z 1 (.v (str t)),Z 2 (I x),Z 6 (.bx 6 b 0),Z 7 (I 0)]⟩) (λ t=>AY t=AY s/\len t<=len s) (λ t=>t.length) s U U ⟨rfl,Aa⟩ ?_
 rintro t ⟨hF,hl⟩
 have G:=LO t 0
 have H:=A9 t
 have J:=mE t 1
 refine A1 U (λ n=>?_) (λ n=>?_)<;>simp only[zb]at n
 ·exact AX (A5 t 1) U U ⟨by rw[AF9 n,hF],Aa⟩ (by show List.length _<List.length _;have:=ED t 1 Aa Aa;unfold len at*;omega)
 have K:t=AY s:=by rw[<-hF,mP Aa]
 subst K
 refine A1 U (λ h=>?_) (λ h=>?_)
 ·rw[if_pos h]at hm
  exact A2 C U U U (λ w M l=>⟨by rw[hm];rfl,l.st.low⟩)
 rw[if_neg (ne_true_of_eq_false h)]at hm
 refine A1 U (λ q=>?_) (λ q=>?_)<;>rw[q]at hm
 ·exact A2 C U U U (λ w M l=>⟨by rw[hm];rfl,l.st.low⟩)
 simp only[zb]at q
 have L:=dL s (by simpa using h)
 refine B5 (σ:=A0×Int) (λ(u,y)=>⟨[],[(6,.box b [I 0,I 0,.v (str []),.v (str []),.v (.bool false),I 0] 46)],[Z 0 (.v (.bool neg)),Z 1 (.v (str u)),Z 2 (I y),Z 6 (.bx 6 b 0),Z 7 (I 0)]⟩) (λ(u,y)=>BE u=BE (AY s)/\len u<=len (AY s)/\y+len u=x+len (AY s)) (λ(u,_)=>u.length) (AY s,x) U U ⟨rfl,Aa,rfl⟩ ?_
 rintro⟨u,y⟩ ⟨hu,N,R⟩
 have O:=LO u (len u-1)
 have D:=mF u
 rw[hu]at D
 refine A1 U (λ k=>?_) (λ k=>?_)<;>simp only[zb]at k
 ·have P:=FG (s:=u) (i:=0) (j:=len u-1) Aa Aa Aa
  exact AX (Eng.sub u 0 (len u-1),y+1) U U ⟨by rw[AG0 Aa k,hu],Aa,Aa⟩ (by show List.length _<List.length _;unfold len at*;omega)
 have z:u=BE (AY s):=by rw[<-hu,AG1 Aa k]
 have E:y=x+(len (AY s)-len (BE (AY s))):=by rw[<-z];omega
 rw[<-E,<-z]at hm
 refine A1 U (λ A=>?_) (λ A=>?_)<;>rw[A]at hm<;>exact A2 C U U U (λ w M l=>⟨by rw[hm];rfl,l.st.low⟩)
open Go.Eng
theorem VH{P:Program}{f:FuncId}{args:Array Value}{w:World}{u:Value}(h:Calls P f args w λ e w'=>e= .returned u/\w'=w):Calls P f args w λ e w'=>e= .returned u/\Ext w w':=h.mono λ e w' ⟨h1,b⟩=>⟨h1,by rw[b];exact .refl _⟩
theorem qG{p:UInt8->Bool}: ∀ {a r:A0},(∀b∈a,p b=true)->(a++r).takeWhile p=a++r.takeWhile p
 |[],r,_=>rfl
 |x::a,r,h=>by rw[List.cons_append,List.takeWhile_cons,if_pos (h x List.mem_cons_self),qG (λ b e=>h b (List.mem_cons_of_mem _ e))];rfl
theorem AW9{s:A0}{j i:Int}(h0:0<=j)(h1:j<=i)(e:i<=len s)(l:i-j<=7)(h:CS (Eng.sub s j i))(hs:i-j=7\/len s<=i\/CA (A3 s i)=false):EL s j=Eng.sub s j i:=by
 have hl:=FG (s:=s) h0 h1 e
 unfold EL
 rw[SF s j i h0 h1,qG h]
 rcases hs with hs|hs|hs
 ·rw[List.take_append_of_le_length (by unfold len at hl;omega),List.take_of_length_le (by unfold len at hl;omega)]
 ·rw[PX s i hs,List.takeWhile_nil,List.append_nil,List.take_of_length_le (by unfold len at hl;omega)]
 ·by_cases hlt:i<len s
  ·obtain⟨b,k,e2⟩:=KB s i Aa hlt
   rw[k,List.takeWhile_cons,if_neg (by unfold DJ;rw[<-e2,hs];decide),List.append_nil,List.take_of_length_le (by unfold len at hl;omega)]
  ·rw[PX s i Aa,List.takeWhile_nil,List.append_nil,List.take_of_length_le (by unfold len at hl;omega)]
theorem qH{t:A0}(h:CS t)(hl:len t<=6):0<=D2 t/\D2 t<1000000:=by
 have:=AL0 h hl (len t)
 rwa [O6 t _ (Int.le_refl _)]at this
theorem AX0{t:A0}(h:CS t)(hl:len t<=7):0<=D2 t/\D2 t<10000000:=by
 induction t using fS with
 |h0=>decide
 |hs a c _=>
  rw[AQ,show len [c]=1 from rfl]at hl
  have:=qH (t:=a) (λ b i=>h b (by simp[i])) Aa
  have e:=h c (by simp)
  unfold DJ CA at e
  simp only[zb]at e
  rw[VG];omega
theorem AX1(s:A0)(j:Int)(w:World)(h0:0<=j)(h1:j<=len s)(F:len s<=1099511627776):
  Calls prog 204 [str s,i64 j].toArray w λ e w'=>e= .returned (.tuple #[i64 (IE s j).1,i64 (IE s j).2])/\Ext w w':=by
 refine AH AF func204 U ntmps204 [] [] [.v (str s),I j] U (BD w) A4 (λ B G=>B5 (σ:=Int) (λ i=>⟨[],[],[Z 0 (.v (str s)),Z 1 (I i),Z 6 (I (D2 (Eng.sub s j i))),Z 7 (I j)]⟩) (λ i=>j<=i/\i<=len s/\i-j<=7/\CS (Eng.sub s j i)) (λ i=>(len s-i).toNat) j rfl (by rw[show Eng.sub s j j=[]from(SD h0 (Int.le_refl _) h1).2 rfl];rfl) ⟨Int.le_refl _,h1,Aa,by rw[show Eng.sub s j j=[]from(SD h0 (Int.le_refl _) h1).2 rfl];intro b F;cases F⟩ ?_) U
 rintro i ⟨h,l,z,k⟩
 have A:=FG (s:=s) h0 h l
 refine A1 U (λ n=>?_) (λ n=>?_)<;>simp only[zb]at n
 ·have K:=qH k Aa
  obtain⟨b,H,e2⟩:=nZ (s:=s) h0 h (by omega:i<len s)
  refine AX (i+1) U ?_ ⟨Aa,Aa,Aa,?_⟩ Ag
  ·rw[H,VG,e2];rfl
  ·rw[H];exact k.app λ x hx=>by rw[List.mem_singleton.1 hx];unfold DJ CA;rw[e2];simp only[zb];omega
 ·have C:i-j=7\/len s<=i\/CA (A3 s i)=false:=by
   by_cases J:i-j=7
   ·exact .inl J
   ·by_cases hl:len s<=i
    ·exact .inr (.inl hl)
    ·refine .inr (.inr ?_)
     rw[<-Bool.not_eq_true]
     unfold CA
     simp only[zb]
     omega
  have hg:=AW9 h0 h l z k C
  have J:=AX0 k Aa
  have q:(EL s j=[])↔i=j:=by rw[hg];exact SD h0 h l
  refine A1 U (λ y=>?_) (λ y=>?_)<;>simp only[zb]at y
  ·have D:EL s j=[]\/(A3 s j=48/\1<len (EL s j))\/1000000<D2 (EL s j):=by
    rw[q,hg];omega
   refine A2 G U U U λ w M E=>⟨?_,E.st.low⟩
   unfold IE;rw[if_pos D];rfl
  ·have D: ¬(EL s j=[]\/(A3 s j=48/\1<len (EL s j))\/1000000<D2 (EL s j)):=by
    rw[q,hg];omega
   refine A2 G U U U λ w M E=>⟨?_,E.st.low⟩
   unfold IE;rw[if_neg D,hg,A,show j+(i-j)=i by omega];rfl
end Go.Proofs.YtnoegalemkbbbaaGreatDoor
namespace Go.Eng
def IV:Sp:=⟨false,[],0⟩
def G9(s:A0):Sp×Int:=
 if Lib.hasPrefix s [46]=false then(IV,0)
 else if 0<CZ (A5 s 1) 0 then(⟨false,Eng.sub s 1 (CZ (A5 s 1) 0+1),0⟩,CZ (A5 s 1) 0+1)
 else if(B4 (A5 s 1)).2.2≠0\/Q4 (B4 (A5 s 1)).1=true\/E5 (B4 (A5 s 1)).1≠Eng.sub s 1 (1+(B4 (A5 s 1)).2.1)then(IV,0)
 else(⟨false,(B4 (A5 s 1)).1,0⟩,(B4 (A5 s 1)).2.1+1)
def FW(s:A0):Sp×Int:=
 if Lib.hasPrefix s [91]=false\/Lib.indexByte s 93<2\/8<Lib.indexByte s 93 then(IV,0)
 else match Lib.atoi (Eng.sub s 1 (Lib.indexByte s 93))with
  |none=>(IV,0)
  |some n=>if 1000000<n\/Lib.itoa n≠Eng.sub s 1 (Lib.indexByte s 93)\/n<0 then(IV,0)else(⟨true,[],n⟩,Lib.indexByte s 93+1)
def IW(s:A0)(i:Int):Int:=if i=0/\Lib.hasPrefix s [46]=true then 1 else 0
def FX(s:A0)(i:Int):Sp×Int:=
 if(G9 (A5 s i)).2≠0 then G9 (A5 s i)
 else if 0<i\/0<IW s i then
  if(FW (A5 s (i+IW s i))).2=0 then(IV,0)else((FW (A5 s (i+IW s i))).1,(FW (A5 s (i+IW s i))).2+IW s i)
 else(IV,0)
def IF:Nat->A0->List Sp->Int->List Sp×Int
 |0,_,p,i=>(p,i)
 |f+1,s,p,i=>if i<len s then if(FX s i).2=0 then(p,i)else IF f s (p++[(FX s i).1]) (i+(FX s i).2)else(p,i)
def C8(s:A0):List Sp×Int×Int:=
 if s=[46]then([],0,0)
 else if(IF 20 s [] 0).2<len s\/(IF 20 s [] 0).1=[]then([],(IF 20 s [] 0).2,1)else((IF 20 s [] 0).1,0,0)
def HH(s:A0):List Sp×Bool:=((C8 s).1,decide ((C8 s).2.2=0)&& !((C8 s).1.any λ x=>x.part))
theorem Z1{s:A0}{c:UInt8}(h:Lib.hasPrefix s [c]=true):1<=len s:=Y1 h
theorem qI(s:A0)(c:UInt8):Lib.indexByte s c<len s:=by
 induction s with
 |nil=>show(-1:Int)<0;decide
 |cons a s b=>
  unfold Lib.indexByte
  have:=A9 s
  rw[AM]
  split
  ·omega
  ·split<;>omega
theorem qJ(s:A0):0<=(G9 s).2/\(G9 s).2<=len s/\len (G9 s).1.name<=4*len s/\(G9 s).1.part=false/\(G9 s).1.n=0:=by
 have hl:=A9 s
 unfold G9
 split
 ·exact⟨Aa,hl,by show(0:Int)<=_;omega,rfl,rfl⟩
 ·rename_i hp
  have h1:=Z1 (by simpa using hp)
  have b:len (A5 s 1)=len s-1:=ED _ _ Aa h1
  have hw:=MB (s:=A5 s 1) (i:=0) Aa Aa
  have hu:=OH (A5 s 1)
  have e:=fR (A5 s 1)
  split
  ·refine⟨Aa,Aa,?_,rfl,rfl⟩
   show len (Eng.sub s 1 _)<=_
   have:len (Eng.sub s 1 (CZ (A5 s 1) 0+1))<=len s:=by unfold Eng.sub len;rw[List.length_take,List.length_drop];unfold len at*;omega
   omega
  ·split
   ·exact⟨Aa,hl,by show(0:Int)<=_;omega,rfl,rfl⟩
   ·exact⟨Aa,Aa,by show len (B4 (A5 s 1)).1<=_;omega,rfl,rfl⟩
theorem qK(s:A0):0<=(FW s).2/\(FW s).2<=len s/\len (FW s).1.name<=0/\((FW s).1.part=true->0<=(FW s).1.n/\(FW s).1.n<=1000000):=by
 have hl:=A9 s
 have hi:=qI s 93
 have b:len IV.name<=0:=by decide
 unfold FW
 split
 ·exact⟨Aa,hl,b,λ h=>by cases h⟩
 ·rename_i e
  split
  ·exact⟨Aa,hl,b,λ h=>by cases h⟩
  ·split
   ·exact⟨Aa,hl,b,λ h=>by cases h⟩
   ·rename_i n _ hd
    exact⟨Aa,Aa,b,λ _=>⟨show(0:Int)<=n by omega,show n<=(1000000:Int) by omega⟩⟩
end Go.Eng
namespace Go.Proofs.YtnoegalemkbbbaaGreatDoor
open Go.Proofs.Tryz
open Go.Eng
theorem AX2(s:A0)(w:World)(hg:Gl w)(C:len s<=200000000000):
    Calls prog 170 [str s].toArray w λ e w'=>e= .returned (.tuple #[.agg (G9 s).1.cells.toArray,i64 (G9 s).2])/\Ext w w':=by
 have y:=A9 s
 refine AH AF func170 U ntmps170 [] [] [.v (str s)] U (BD w) A4 (λ B l=>BA 2 U zeroValue105 U λ D=>AJ U call171 U U (λ _ w M h=>VH (UW s [46] w)) U ?_) U
 refine A1 U (λ b=>?_) (λ b=>?_)<;>simp only[zb]at b
 ·exact A2 l U U U λ w M h=>⟨by unfold G9;rw[if_pos b];rfl,h.st.low⟩
 have h1:=Z1 b
 have z:len (A5 s 1)=len s-1:=ED _ _ Aa h1
 have hw:=MB (s:=A5 s 1) (i:=0) Aa Aa
 have hu:=OH (A5 s 1)
 have A:=fR (A5 s 1)
 refine AJ U call193 U U (λ _ w M h=>oP (A5 s 1) w Aa) U ?_
 refine A1 U (λ k=>?_) (λ k=>?_)<;>simp only[zb]at k
 ·exact A2 l U U U λ w M h=>⟨by unfold G9;rw[if_neg (by rw[b];decide),if_pos k];rfl,h.st.low⟩
 refine AJ U call194 U U (λ _ w M h=>AR2 (A5 s 1) w (hg.low h.st.low) Aa) U <|G4 U BM Ac <|HB U call195 U U (λ _ w M h=>AR6 (B4 (A5 s 1)).1 w Aa) U <|HB U call196 U U (λ _ w M h=>AP3 (B4 (A5 s 1)).1 w (hg.low h.st.low) Aa) U <|G5 U ?_
 refine A1 U (λ j=>?_) (λ j=>?_)<;>simp only[zb]at j
 ·exact A2 l U U U λ w M h=>⟨by unfold G9;rw[if_neg (by rw[b];decide),if_neg Aa,if_pos (by simpa only[or_assoc]using j)];rfl,h.st.low⟩
 ·have n: ¬((B4 (A5 s 1)).2.2≠0\/Q4 (B4 (A5 s 1)).1=true\/E5 (B4 (A5 s 1)).1≠Eng.sub s 1 (1+(B4 (A5 s 1)).2.1)):=by
   rintro(q|q|q)
   · exact q j.1.1
   · rw[j.1.2]at q;cases q
   · exact q j.2
  exact A2 l U U U λ w M h=>⟨by unfold G9;rw[if_neg (by rw[b];decide),if_neg Aa,if_neg n];rfl,h.st.low⟩
theorem AX3{w0 h:World}{M0 M:Mem}{Rs:List HO}(s:A0)(hS:St w0 M0 h M Rs)(hg:Gl w0)(l:len s<=18):
   Calls prog 199 [str s].toArray h (BJ w0 M0 M Rs (λ u:Int×Value=>.tuple #[i64 u.1,u.2]) (λ u=>(∃n,Lib.atoi s=some n/\u=(n,.nilIface)/\ -9223372036854775808<=n/\n<=9223372036854775807)\/(Lib.atoi s=none/\u.1=0/\ ∃t p,u.2= .iface t p)) (λ _=>[]) λ _=>[]):=by
 have i:=hg.low hS.low
 have j:s.length<=18:=by unfold len at l;omega
 have b:=Lib.atoiAll_short s j
 cases ha:Lib.atoi s with
 |some n=>
  rw[ha]at b
  have k:=Lib.atoiAll_bounds b
  exact(AC5 s n h Aa b).mono λ e w' ⟨he,hx⟩=>⟨(n,.nilIface),M,he,.inl ⟨n,rfl,rfl,k⟩,Mem.le.refl _,hS.ext hx,A4⟩
 |none=>
  rw[ha]at b
  obtain⟨ev,h1,q⟩:=i.err
  exact(Any.strconv_Atoi_syntax Tryz.iY ⟨⟨s⟩⟩ (by show s.length<=_;omega) b ev h h1 q).mono λ e w' ⟨N,he,_,_,hx⟩=>⟨(0,_),M,he,.inr ⟨rfl,rfl,_,_,rfl⟩,Mem.le.refl _,hS.ext hx,A4⟩
theorem AX4(s:A0)(w:World):Calls prog 198 [str s,.int .u8 93].toArray w λ e w'=>e= .returned (i64 (Lib.indexByte s 93))/\Ext w w':=VH (dI s 93 w)
theorem AX5(s:A0)(w:World)(hg:Gl w)(N:len s<=200000000000):
    Calls prog 172 [str s].toArray w λ e w'=>e= .returned (.tuple #[.agg (FW s).1.cells.toArray,i64 (FW s).2])/\Ext w w':=by
 have K:=A9 s
 have L:=qI s 93
 have J:=Lib.indexByte_ge s 93
 refine AH AF func172 U ntmps172 [] [] [.v (str s)] U (BD w) A4 (λ B y=>BA 2 U zeroValue105 U λ O=>AJ U call198 U U (λ _ w M b=>AX4 s w) U <|AJ U call171 U U (λ _ w M b=>VH (UW s [91] w)) U ?_) U
 refine A1 U (λ i=>?_) (λ i=>?_)<;>simp only[zb]at i
 ·exact A2 y U U U λ w M b=>⟨by unfold FW;rw[if_pos (by simpa only[or_assoc]using i)];rfl,b.st.low⟩
 have k: ¬(Lib.hasPrefix s [91]=false\/Lib.indexByte s 93<2\/8<Lib.indexByte s 93):=by
  rintro(q|q|q)
  · rw[q]at i;cases i.1.1
  · omega
  · omega
 obtain⟨z,P⟩: ∃z,z=Lib.indexByte s 93:=⟨_,rfl⟩
 have l:len (Eng.sub s 1 (Lib.indexByte s 93))<=18:=by
  unfold Eng.sub len;rw[List.length_take,List.length_drop];omega
 refine AS [] (λ u:Int×Value=>.tu [I u.1,.v u.2]) [] (λ _=>[]) (Fg:=λ _=>[]) U U call199 U U (λ w M hS hF=>AX3 (Eng.sub s 1 (Lib.indexByte s 93)) hS hg l) λ u hu=>?_
 rcases u with⟨j,Q⟩
 rcases hu with⟨n,A,hu,C,D⟩|⟨A,F,t,p,G⟩
 ·cases hu
  refine G4 U BM Ac <|YL (.v (.bool false)) U U (λ w M b=>PV.U3 (A8 (v:=.v .nilIface) (E:=[]) U) (.inl U) underlying223) <|HB U call200 U U (λ _ w M b=>lX j w (hg.low b.st.low) C D) U <|G5 U ?_
  have e:FW s=if 1000000<j\/Lib.itoa j≠Eng.sub s 1 (Lib.indexByte s 93)\/j<0 then(IV,0)else(⟨true,[],j⟩,Lib.indexByte s 93+1):=by
   unfold FW;rw[if_neg k,A]
  refine A1 U (λ h=>?_) (λ h=>?_)<;>simp only[zb]at h
  ·exact A2 y U U U λ w M b=>⟨by rw[e,if_pos (by simpa[or_assoc]using h)];rfl,b.st.low⟩
  ·have H: ¬(1000000<j\/Lib.itoa j≠Eng.sub s 1 (Lib.indexByte s 93)\/j<0):=by
    rintro(q|q|q)
    · omega
    · exact q h.1.2
    · omega
   exact A2 y U U U λ w M b=>⟨by rw[e,if_neg H];rfl,b.st.low⟩
 ·cases F;cases G
  have e:FW s=(IV,0):=by unfold FW;rw[if_neg k,A]
  refine G4 U BM Ac <|YL (.v (.bool true)) U U (λ w M b=>PV.U3 (A8 (v:=.v (.iface t p)) (E:=[]) U) (.inr ⟨t,p,rfl⟩) underlying223) <|HB U call200 U U (λ _ w M b=>lX 0 w (hg.low b.st.low) Aa Aa) U <|G5 U <|A1 U (λ h=>?_) (λ h=>?_)
  ·exact A2 y U U U λ w M b=>⟨by rw[e];rfl,b.st.low⟩
  ·cases h
theorem AX6(s:A0)(i:Int)(h0:0<=i)(h1:i<=len s):0<=(FX s i).2/\i+(FX s i).2<=len s/\len (FX s i).1.name<=4*len s/\((FX s i).1.part=true->0<=(FX s i).1.n/\(FX s i).1.n<=1000000):=by
 have hl:=A9 s
 have q:=ED s i h0 h1
 have e:=qJ (A5 s i)
 have j:len IV.name<=0:=by decide
 unfold FX
 split
 ·exact⟨e.1,Aa,Aa,λ h=>by rw[e.2.2.2.1]at h;cases h⟩
 ·split
  ·rename_i hd
   have b:0<=IW s i/\i+IW s i<=len s:=by
    unfold IW at*
    split at hd
    ·rename_i hp;rw[if_pos hp];have:=Z1 hp.2;omega
    ·rename_i hp;rw[if_neg hp];omega
   have k:=ED s (i+IW s i) Aa b.2
   have l:=qK (A5 s (i+IW s i))
   split
   ·exact⟨Aa,Aa,show len IV.name<=_ by omega,λ h=>by cases h⟩
   ·exact⟨Aa,Aa,show len (FW (A5 s (i+IW s i))).1.name<=_ by omega,l.2.2.2⟩
  ·exact⟨Aa,Aa,show len IV.name<=_ by omega,λ h=>by cases h⟩
theorem qL{w0 P:World}{M0 M:Mem}{Rs:List HO}(s:A0)(hS:St w0 M0 P M Rs)(hg:Gl w0)(hb:len s<=200000000000):
    Calls prog 137 [str s].toArray P (BJ w0 M0 M Rs (λ u:Value=>.tuple #[u,i64 (C8 s).2.1,i64 (C8 s).2.2]) (λ _=>True) (λ u=>[(1,kn u 3 (C8 s).1 Sp.cells)]) λ _=>[]):=by
 have K:=A9 s
 refine AH (Hr:=Rs) AF func137 U ntmps137 [] [] [.v (str s)] U hS A4 (λ B F=>?_) U
 unfold C8 at F
 refine A1 U (λ G=>?_) (λ G=>?_)<;>simp only[zb]at G
 ·rw[if_pos G]at F
  exact A2 F U U U λ w M' C=>⟨.slice none 0 0,M',rfl,trivial,C.le,C.B9 [] U,AG ⟨Sl.nil M' 3,Sp.AV,trivial⟩ A4⟩
 rw[if_neg G]at F
 refine AR7 (λ Q a w h=>wp_label h) U ?_
 generalize hR:IF 20 s [] 0=R at F
 refine UI 1 5 105 3 Sp.cells Sp.AV U ?_
 refine AR8 (σ:=Int×Value×List Sp×Nat) 1 (λ s'=> ∃(i:Int) (u:Value) (xs:List Sp),0<=i/\i<=len s/\len xs<=20/\R=(xs,i)/\s'=⟨[(1,kn u 3 xs Sp.cells)],[(1,.ho (YK u xs))],[Z 0 (.v (str s)),Z 5 (.sl 1 u),Z 6 (I i)]⟩)
   (λ(i,u,xs,f)=>⟨[(1,kn u 3 xs Sp.cells)],[(1,.ho (YK u xs))],[Z 0 (.v (str s)),Z 5 (.sl 1 u),Z 6 (I i)]⟩)
   (λ(i,u,xs,f)=>0<=i/\i<=len s/\len xs+f=20/\IF f s xs i=R) (λ(i,u,xs,f)=>f) (0,.slice none 0 0,[],20) U U U ⟨Aa,K,rfl,hR⟩ ?_ ?_
 ·rintro⟨i,u,xs,f⟩ ⟨D,E,T,l⟩
  have L:=A9 xs
  refine A1 U (λ e=>?_) (λ e=>?_)<;>simp only[zb]at e
  ·cases f with
   |zero=>exfalso;omega
   |succ f=>
   rw[IF,if_pos e.1]at l
   have hf:=ED s i D E
   have V:=qJ (A5 s i)
   have W:=AX6 s i D E
   refine AJ U call170 U U (λ _ w M C=>AX2 (A5 s i) w (hg.low C.st.low) Aa) U <|BA 7 U zeroValue105 U λ J=>CP 0 (λ s'=> ∃x:Sp,x=(FX s i).1/\(FX s i).2≠0/\s'=⟨[(1,kn u 3 xs Sp.cells)],[(7,.box J [.v (.bool x.part),.v (str x.name),I x.n] 105),(1,.ho (YK u xs))],[Z 0 (.v (str s)),Z 5 (.sl 1 u),Z 6 (I i),Z 7 (.bx 7 J 0),Z 8 (I ((FX s i).2))]⟩) U U (λ A=>?_) (λ A=>?_) ?_
   ·simp only[zb]at A
    refine AJ U call171 U U (λ _ w M C=>VH (UW s [46] w)) U <|CP 0 (λ s'=> ∃z:Int,z=IW s i/\s'=⟨[(1,kn u 3 xs Sp.cells)],[(7,.box J [.v (.bool (G9 (A5 s i)).1.part),.v (str (G9 (A5 s i)).1.name),I (G9 (A5 s i)).1.n] 105),(1,.ho (YK u xs))],[Z 0 (.v (str s)),Z 5 (.sl 1 u),Z 6 (I i),Z 7 (.bx 7 J 0),Z 8 (I ((G9 (A5 s i)).2)),Z 9 (I z)]⟩) U U (λ j=>?_) (λ j=>?_) ?_
    ·exact AW _ U U ⟨1,by simp only[zb]at j;unfold IW;rw[if_pos j],rfl⟩
    ·exact AW _ U U ⟨0,(by
      simp only[zb]at j;unfold IW;rw[if_neg]
      rintro⟨X,q2⟩
      rcases j with h|h
      · exact h X
      · rw[q2]at h;cases h),rfl⟩
    rintro s' ⟨z,H,rfl⟩
    have N:0<=z/\z<=1/\i+z<=len s:=by
     rw[H];unfold IW
     split
     · rename_i hp;have:=Z1 hp.2;omega
     · omega
    have hf2:=ED s (i+z) Aa N.2.2
    have hpb:=qK (A5 s (i+z))
    have b:FX s i=if 0<i\/0<z then if(FW (A5 s (i+z))).2=0 then(IV,0)else((FW (A5 s (i+z))).1,(FW (A5 s (i+z))).2+z)else(IV,0):=by
     unfold FX;rw[if_neg (λ q=>q A),<-H]
    refine A1 U (λ j=>?_) (λ j=>?_)<;>simp only[zb]at j
    ·rw[if_pos j]at b
     refine AJ U call172 U U (λ _ w M C=>AX5 (A5 s (i+z)) w (hg.low C.st.low) Aa) U ?_
     refine A1 U (λ y=>?_) (λ y=>?_)<;>simp only[zb]at y
     ·rw[if_pos y]at b
      rw[b,if_pos U]at l
      exact AW _ U U ⟨i,u,xs,D,E,Aa,l.symm,rfl⟩
     ·rw[if_neg y]at b
      exact AW _ U (by rw[b];rfl) ⟨_,rfl,by rw[b];show(FW (A5 s (i+z))).2+z≠0;omega,rfl⟩
    ·rw[if_neg Aa]at b
     refine A1 U (λ y=>?_) (λ y=>?_)<;>simp only[zb]at y
     ·rw[b,if_pos U]at l
      exact AW _ U U ⟨i,u,xs,D,E,Aa,l.symm,rfl⟩
     ·exact absurd A y
   ·simp only[zb]at A
    have b:FX s i=G9 (A5 s i):=by unfold FX;rw[if_pos A]
    exact AW _ U (by rw[b];rfl) ⟨_,rfl,by rw[b];exact A,rfl⟩
   rintro s' ⟨x,hx,O,rfl⟩
   rw[if_neg O,<-hx]at l
   exact BF 6 [x] Sp.cells 3 105 Sp.AV U U Ah U λ v6=>F5 32 U U U underlying61 type105 U U Sp.cells_one (by simp only[AM,len_nil];omega) λ v'=>AX (i+(FX s i).2,v',xs++[x],f) U U ⟨Aa,Aa,by rw[AQ];show len xs+1+_=20;omega,l⟩ (by show f<f+1;omega)
  ·refine AW _ U U ⟨i,u,xs,D,E,Aa,?_,rfl⟩
   rw[<-l]
   cases f with
   |zero=>rfl
   |succ f=>rw[IF,if_neg Aa]
 rintro s' ⟨i,u,xs,D,E,S,rfl,rfl⟩
 have L:=A9 xs
 refine A1 U (λ e=>?_) (λ e=>?_)<;>simp only[zb]at e
 ·rw[if_pos (e.imp id λ h=>Decidable.byContradiction λ q=>by have:0<len xs:=HQ q;omega)]at F
  exact A2 F U U U λ w M' C=>⟨.slice none 0 0,M',rfl,trivial,C.le,C.B9 [] U,AG ⟨Sl.nil M' 3,Sp.AV,trivial⟩ A4⟩
 ·rw[if_neg (by
                 rintro(q|q);· omega
                 · dsimp only at q;rw[q]at e;exact e.2 U)]at F
  exact A2 F U U U λ w M' C=>⟨u,M',rfl,trivial,C.le,C.B9 [] U,AG (C.f.get (k:=1) U) A4⟩
theorem AX7(r:Int)(w:World):
  Calls prog 326 [(.int .i32 r)].toArray w λ e w'=>e= .returned (.bool (CA r))/\w'=w:=by
 refine CW.O7 func326 U ntmps326 (Nat.le_of_ble_eq_true U) λ Q hE=>CW.weaken [0] (L':=[Y 0 (.int .i32 r)]) ?_ U
 refine CW.sr (RL.u (.assign .c) U (RL.nil (CW.id (CW.sr ?_))))
 refine RL.m U U (RL.u (.geq (.t U) .c) U (RL.m U U (RL.v (.pos U U) (.move (.t U)) U (RL.v (.pos U U) (.leq (.g U (λ h=>h)) .c) U (RL.u (.and (.t U) (.g U (λ h=>h))) U ?_)))))
 refine RL.a U U (RL.nil (CW.id ?_))
 refine CW.ret (hE.r1 U U ?_)
 exact⟨rfl,rfl⟩
theorem Z2{cut:A0}(h: ∀b∈cut,b.toNat<128): ∀(j:Nat) (b:UInt8),cut[j]? =some b->b.toNat<128:=λ _ b e=>h b (List.mem_of_getElem? e)
theorem fT(n:Int)(w:World)(h0:0<=n)(h1:n<=140737488355328):Calls prog 291 [str [48],i64 n].toArray w λ e w'=>e= .returned (str (BB n))/\Ext w w':=lW 48 n w h0 h1
theorem qM(s:A0)(w:World)(hg:Gl w)(i:len s<=9223372036854775807):
  Calls prog 302 [(str s)].toArray w λ e w'=>e= .returned (.bool (JA s))/\Ext w w':=by
 refine CW.O7 func302 U ntmps302 (Nat.le_of_ble_eq_true U) λ Q hE=>?_
 have hS:St w nM w nM []:=Aj ⟨λ _ _ _ h=>by cases h⟩
 refine CW.weaken [0] (L':=[Y 0 (str s)]) ?_ U
 refine CW.sr (RL.u (.assign .c) U (RL.nil (CW.id (CW.sr ?_))))
 refine RL.m U U <|RL.aR hS .none call325 (.cons (.t U) (.cons .f .nil)) (λ _=>(AC6 326 D6 s _ (hg.low hS.low) call326 Aa (λ x w _=>AX7 x w))) U (λ w1 b=>RL.u (.aP (.t U) .c) U (RL.a U U ?_))
 refine RL.nil (CW.at [Y 2 (.bool (((Lib.trimF D6 ⟨⟨s⟩⟩).data.toList)==[]))] U (CW.ret (hE.r1 U U ?_)))
 exact⟨by rw[AT4],b.low⟩
theorem qN(n x:Int)(w:World)(h:0<=n/\n<=1099511627776):
  Calls prog 305 [(i64 n),(i64 x)].toArray w λ e w'=>e= .returned (.bool (decide (-1000<=x)&&decide (x<=1000)&&decide (n+x<=1000)))/\w'=w:=by
 refine CW.O7 func305 U ntmps305 (Nat.le_of_ble_eq_true U) λ Q hE=>CW.weaken [0,1] (L':=[Y 0 (i64 n),Y 1 (i64 x)]) ?_ U
 refine CW.sr (RL.u (.assign .c) U (RL.nil (CW.id (CW.sr ?_))))
 refine RL.m U U (RL.u (.geq (.t U) .c) U (RL.m U U (RL.v (.pos U U) (.move (.t U)) U (RL.v (.pos U U) (.leq (.g U (λ h=>h)) .c) U (RL.u (.and (.t U) (.g U (λ h=>h))) U ?_)))))
 refine RL.m U U (RL.v (.pos U U) (.move (.t U)) U (RL.v (.pos U U) (.move (.t U)) U (RL.v (.pos U U) (.add (.g U (λ h=>h)) (.g U (λ h=>h)) (λ b=>by simp only[zb]at b;omega)) U (RL.v (.pos U U) (.leq (.g U (λ h=>h)) .c) U (RL.u (.and (.t U) (.g U (λ h=>h))) U ?_)))))
 refine RL.a U U (RL.nil (CW.id ?_))
 refine CW.ret (hE.r1 U U ?_)
 exact⟨by first|rfl|simp[Bool.and_assoc],rfl⟩
end Go.Proofs.YtnoegalemkbbbaaGreatDoor
