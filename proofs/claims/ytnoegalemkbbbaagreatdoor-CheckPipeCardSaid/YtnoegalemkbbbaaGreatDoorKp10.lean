/- Lemmas for the card. -/
import Derived.Test.YtnoegalemkbbbaaGreatDoorKp9
set_option linter.unusedVariables false
set_option linter.unusedSimpArgs false
set_option maxRecDepth 100000
set_option maxRecDepth 100000
namespace Go.Proofs.YtnoegalemkbbbaaGreatDoor
open Go.Proofs.Tryz
open Go.Eng Go.RowKit
abbrev SI(g n c:Nat)(xs:List Value):HO:=.priv 52 11 (.slice (some ⟨g,0,none⟩) n c) n xs
abbrev FJ(g o n c:Nat):Value:=.slice (some ⟨g,o,none⟩) n c
theorem oQ{L cs:List Value}{o:Nat}(h:o+cs.length<=L.length):(C1 L o cs).length=L.length:=by
 unfold C1;simp;omega
theorem AS1{A Z Y D:List Value}{a b:Nat}(e:A.length=a)(h:b=a+Y.length)(i:Z.length=Y.length+D.length):C1 (C1 (A++Z) a Y) b D=A++(Y++D):=by
 subst e;subst h
 unfold C1
 rw[List.take_left,List.drop_append,List.drop_eq_nil_of_le (by omega:A.length<=A.length+Y.length),List.nil_append,Nat.add_sub_cancel_left,<-List.append_assoc A,List.take_append_of_le_length (by simp),List.take_of_length_le (by simp),List.drop_eq_nil_of_le (by simp;omega)]
 simp
theorem AS2{A Z Y D:List Value}{a b:Nat}(e:A.length=a)(h:b=a+Y.length)(l:Z.length=Y.length):C1 (C1 (A++D++Z) b D) a Y=A++(Y++D):=by
 subst e;subst h
 unfold C1
 have h1:(A++D++Z).drop (A.length+Y.length+D.length)=[]:=List.drop_eq_nil_of_le (by simp;omega)
 have i:(A++D++Z).take (A.length+Y.length)=A++(D++Z).take Y.length:=by
  rw[List.append_assoc,List.take_append,List.take_of_length_le (by omega:A.length<=A.length+Y.length),Nat.add_sub_cancel_left]
 rw[h1,i,List.append_nil]
 have j:((D++Z).take Y.length).length=Y.length:=by simp;omega
 have k:(A++(D++Z).take Y.length).length=A.length+Y.length:=by rw[List.length_append,j]
 rw[List.append_assoc A ((D++Z).take Y.length) D,List.take_left,<-List.append_assoc A ((D++Z).take Y.length) D,<-k,List.drop_left,List.append_assoc]
theorem AS3{w0 wv:World}{M0 M:Mem}{Rs:List HO}{g n c y s:Nat}{xs ys:List Value}{i:Nat}(hS:St w0 M0 wv M (SI g n c xs::SI y 1 s ys::Rs))(hi:i<=n)(hb:n<=1099511627)(F: ∀u∈xs,u.oneCell'=true)(z: ∀u∈ys,u.oneCell'=true):
    Calls prog 136 [FJ g 0 n c,.int .i64 i,FJ y 0 1 s].toArray wv (BJ w0 M0 M Rs (λ v:Value=>v) (λ _=>True) (λ _=>[]) λ v=>[.priv 52 11 v (n+1) (xs.take (i*11)++(ys++xs.drop (i*11)))]):=by
 obtain⟨_,_,l,hnc,hcm⟩:=hS.rowAt (i:=0) rfl
 obtain⟨_,_,G,hvc,_⟩:=hS.rowAt (i:=1) rfl
 have hml:maxLen=9223372036854775807:=rfl
 refine AH (Hr:=Rs) AF func136 U ntmps136 [] [(0,.ho (SI g n c xs)),(1,.ho (SI y 1 s ys))] [.v (FJ g 0 n c),.v (.int .i64 i),.v (FJ y 0 1 s)] U hS A4 (λ B Q=>AU (W:=.t) (.v (OK g n c 11 i)) U U (λ w M k=>EC i U U underlying25 sizeOf52 hi U U) <|AU (W:=.t) (I 1) U U (λ w M k=>OL (n:=1) U underlying24) ?_) U
 refine A1 U (λ H=>?_) (λ H=>?_)<;>simp only[zb]at H
 ·omega
 refine AU (W:=.t) (I n) U U (λ w M k=>OL U underlying25) ?_
 refine A1 U (λ J=>?_) (λ J=>?_)<;>simp only[zb]at J
 ·have R:i=n:=by omega
  subst R
  refine AJ3 0 1 U U U U underlying25 sizeOf52 underlying24 type52 U U z Aa (by show(i+1)*120<=_;omega) λ v'=>A2 Q U U U λ w M' k=>⟨v',M',rfl,trivial,k.le,?_,A4⟩
  rw[<-l,List.take_length,List.drop_length,List.append_nil]
  exact k.st.drop _ (((List.Sublist.refl _).cons _).cons_cons _)
 refine AU (W:=.t) (I c) U U (λ w M k=>AJ0 U underlying25) ?_
 refine A1 U (λ K=>?_) (λ K=>?_)<;>simp only[zb]at K
 ·refine AU (W:=.t) (.v (FJ g 0 i c)) U U (λ w M k=>Y3 i U U underlying25 sizeOf52 Aa U) <|AJ2 0 2 (q:=n+1-i) U U Aa U underlying25 underlying3 type52 U U hi Aa Aa Aa (by show(i+(n+1-i))*120<=_;omega) λ O P zs hz hc'=>?_
  have S:(xs.drop (i*11)).length=(n-i)*11:=by rw[List.length_drop,l];omega
  have T:(xs.take (i*11)).length=i*11:=by rw[List.length_take,l];omega
  have C:Nat.min 1 (i+(n+1-i)-i)=1:=Nat.min_eq_left Aa
  have E:Nat.min (n-i) (i+(n+1-i)-(i+1))=n-i:=Nat.min_eq_left Aa
  refine AU (W:=.t) (.v (FJ O (i*11) (i+(n+1-i)-i) (P-i))) U U (λ w M k=>EC i U U underlying25 sizeOf52 Aa U (Q5 Aa).symm) <|Y4 2 (i*11) (cs:=ys) U U U underlying25 sizeOf52 (by rw[C];exact G) (λ w M k j u hu=>S4 k (kk:=1) (o:=0) U hu) (by rw[List.length_append];omega) z <|Y5 8 U BM Ac <|OM (W:=.t) (.v (FJ O ((i+1)*11) (i+(n+1-i)-(i+1)) (P-(i+1)))) U U (λ w M k=>EC (i+1) U U underlying25 sizeOf52 Aa Aa (Q5 Aa).symm) <|OM (W:=.t) (.v (FJ g (i*11) (n-i) (c-i))) U U (λ w M k=>EC i U U underlying25 sizeOf52 hi U (Q5 Aa).symm) <|Y6 (λ _ _ _ _ _ h=>h) U <|Y4 2 ((i+1)*11) (cs:=xs.drop (i*11)) U U U underlying25 sizeOf52 (by rw[E];exact S) (λ w M k j u hu=>S4 k (kk:=0) (o:=i*11) U hu) (by rw[oQ (by rw[List.length_append];omega),List.length_append];omega) (λ u hu=>F u (List.mem_of_mem_drop hu)) <|A2 Q U U U λ w M' k=>⟨FJ O 0 (i+(n+1-i)) P,M',rfl,trivial,k.le,?_,A4⟩
  have e1:i+(n+1-i)=n+1:=by omega
  have L:St w0 M0 w M' ([.priv 52 11 (FJ O 0 (i+(n+1-i)) P) (i+(n+1-i)) (C1 (C1 (xs.take (i*11)++zs) (i*11) ys) ((i+1)*11) (xs.drop (i*11)))]++Rs):=k.st.drop _ ((((List.Sublist.refl _).cons _).cons _).cons_cons _)
  rw[AS1 T Aa Aa]at L
  simpa only[e1]using L
 ·refine AJ1 0 1 U Aa λ zs hz=>AU (W:=.t) (.v (FJ g 0 (n+1) c)) U U (λ w M k=>Y3 (n+1) U U underlying25 sizeOf52 Aa Aa) <|AU (W:=.t) (.v (FJ g ((i+1)*11) (n+1-(i+1)) (c-(i+1)))) U U (λ w M k=>EC (i+1) U U underlying25 sizeOf52 Aa Aa (Q5 Aa).symm) ?_
  have S:(xs.drop (i*11)).length=(n-i)*11:=by rw[List.length_drop,l];omega
  have T:(xs.take (i*11)).length=i*11:=by rw[List.length_take,l];omega
  have C:Nat.min 1 (n+1-i)=1:=Nat.min_eq_left Aa
  have E:Nat.min (n+1-i) (n+1-(i+1))=n-i:=(Nat.min_eq_right Aa).trans Aa
  have V: ∀(j:Nat) (u:Value),(xs.drop (i*11))[j]? =some u->((xs++zs).drop (i*11))[j]? =some u:=λ j u hu=>by
   rw[List.drop_append_of_le_length Aa,List.getElem?_append_left (List.getElem?_eq_some_iff.1 hu).1];exact hu
  have X: ∀w M,St w0 M0 w M (SI g (n+1) c (xs++zs)::SI y 1 s ys::Rs)->(callFunc 168 [FJ y 0 1 s,FJ g ((i+1)*11) (n+1-(i+1)) (c-(i+1))].toArray).run prog w= .ok (.value (.bool false)) w:=λ w M k=>by
   rw[run_callFunc_extern func168 Ai Ai Ai (e:=Extern.SlicesOverlaps.overlaps #[24,24] #[4]) Ai]
   have h1:=k.AI9 (i:=0) (j:=1) (tR:=4) (o2:=0) (o:=(i+1)*11) (la:=1) (ca:=s) (lb:=n+1-(i+1)) (cb:=c-(i+1)) U U Aa Aa underlying24 sizeOf52
   rw[show([FJ y 0 1 s,FJ g ((i+1)*11) (n+1-(i+1)) (c-(i+1))].toArray)= #[FJ y 0 1 s,FJ g ((i+1)*11) (n+1-(i+1)) (c-(i+1))]from rfl,h1];rfl
  refine AU (W:=.t) (.v (.bool false)) rfl rfl (λ w M k=>PV.ext (LZ rfl (AE rfl)) (λ _ w' hw=>by cases hw;exact X _ M k.st)) <|A1 U (λ N=>?_) (λ N=>?_)
  ·refine Y5 8 U BM Ac <|OM (W:=.t) (.v (FJ g ((i+1)*11) (n+1-(i+1)) (c-(i+1)))) U U (λ w M k=>EC (i+1) U U underlying25 sizeOf52 Aa Aa (Q5 Aa).symm) <|OM (W:=.t) (.v (FJ g (i*11) (n+1-i) (c-i))) U U (λ w M k=>EC i U U underlying25 sizeOf52 Aa U (Q5 Aa).symm) <|Y6 (λ _ _ _ _ _ h=>h) U <|Y4 0 ((i+1)*11) (cs:=xs.drop (i*11)) U U U underlying25 sizeOf52 (by rw[E];exact S) (λ w M k j u hu=>S4 k (kk:=0) (o:=i*11) U (V j u hu)) (by rw[List.length_append];omega) (λ u hu=>F u (List.mem_of_mem_drop hu)) <|AU (W:=.t) (.v (FJ g (i*11) (n+1-i) (c-i))) U U (λ w M k=>EC i U U underlying25 sizeOf52 Aa U (Q5 Aa).symm) <|Y4 0 (i*11) (cs:=ys) U U U underlying25 sizeOf52 (by rw[C];exact G) (λ w M k j u hu=>S4 k (kk:=1) (o:=0) U hu) (by rw[oQ (by rw[List.length_append];omega),List.length_append];omega) z <|A2 Q U U U λ w M' k=>⟨FJ g 0 (n+1) c,M',rfl,trivial,k.le,?_,A4⟩
   have L:St w0 M0 w M' ([.priv 52 11 (FJ g 0 (n+1) c) (n+1) (C1 (C1 (xs++zs) ((i+1)*11) (xs.drop (i*11))) (i*11) ys)]++Rs):=k.st.drop _ (((List.Sublist.refl _).cons _).cons_cons _)
   have h3:=AS2 (A:=xs.take (i*11)) (D:=xs.drop (i*11)) (Z:=zs) (Y:=ys) (b:=(i+1)*11) T Aa Aa
   rw[List.take_append_drop]at h3
   rw[h3]at L
   exact L
  ·cases N
theorem oR: ∀(l:Fl) (i:Nat),(l.flatMap Tm.cells).take (i*11)=(l.take i).flatMap Tm.cells
 |[],i=>by simp
 |x::l,0=>by simp
 |x::l,i+1=>by
  rw[List.take_succ_cons,List.flatMap_cons,List.flatMap_cons,<-oR l i,List.take_append,Tm.AV,List.take_of_length_le (by rw[Tm.AV];omega),show(i+1)*11-11=i*11 by omega]
theorem oS: ∀(l:Fl) (i:Nat),(l.flatMap Tm.cells).drop (i*11)=(l.drop i).flatMap Tm.cells
 |[],i=>by simp
 |x::l,0=>by simp
 |x::l,i+1=>by
  rw[List.drop_succ_cons,List.flatMap_cons,<-oS l i,List.drop_append,Tm.AV,List.drop_eq_nil_of_le (by rw[Tm.AV];omega),List.nil_append,show(i+1)*11-11=i*11 by omega]
theorem AS4{w0 j:World}{M0 M:Mem}{Rs:List HO}{v n:Value}{l:Fl}{y:Tm}{i:Int}(hS:St w0 M0 j M (IT v l::IT n [y]::Rs))(h0:l≠[])(hi:0<=i/\i<=len l)(q:len l<=1099511627):
   Calls prog 136 [v,i64 i,n].toArray j (BJ w0 M0 M Rs (λ v:Value=>v) (λ _=>True) (λ _=>[]) λ v=>[IT v (l.take i.toNat++y::l.drop i.toNat)]):=by
 have h1:=(hS.obj (i:=0) U).1.2
 have b:=(hS.obj (i:=1) U).1.2
 have hp:=List.length_pos_iff.2 h0
 unfold len at hi q
 rcases h1 with⟨_,h1⟩|⟨g,c,_,rfl,_⟩
 ·omega
 rcases b with⟨_,b⟩|⟨w,z,_,rfl,_⟩
 ·cases b
 obtain⟨k,rfl⟩: ∃k:Nat,i=k:=⟨i.toNat,Aa⟩
 have:=AS3 (i:=k) hS Aa Aa (λ u hu=>by obtain⟨x,_,hx⟩:=List.mem_flatMap.1 hu;exact Tm.cells_one x u hx) (λ u hu=>by obtain⟨x,_,hx⟩:=List.mem_flatMap.1 hu;exact Tm.cells_one x u hx)
 refine this.mono λ e w' h=>?_
 rw[oR,oS]at h
 have s:(l.take k).flatMap Tm.cells++([y].flatMap Tm.cells++(l.drop k).flatMap Tm.cells)=(l.take k++y::l.drop k).flatMap Tm.cells:=by simp
 have e2:l.length+1=(l.take k++y::l.drop k).length:=by simp;omega
 rw[s]at h
 rw[Int.toNat_natCast]
 simpa only[IT,e2]using h
end Go.Proofs.YtnoegalemkbbbaaGreatDoor
namespace Go.Eng
open Go.RowKit
theorem IU{u v:A0}{j:Int}(h0:0<=j)(h:j<len u):A3 (u++v) j=A3 u j:=by
 unfold len at h
 unfold A3
 rw[List.getD_eq_getElem?_getD,List.getD_eq_getElem?_getD,List.getElem?_append_left Aa]
theorem YM{u v:A0}{k:Int}(h0:0<=k):A3 (u++v) (len u+k)=A3 v k:=by
 unfold A3 len
 rw[List.getD_eq_getElem?_getD,List.getD_eq_getElem?_getD,List.getElem?_append_right Aa,show((u.length:Int)+k).toNat-u.length=k.toNat from by omega]
theorem oT{u v:A0}{k:Int}(h0:len u<=k):A3 (u++v) k=A3 v (k-len u):=by
 have:=YM (u:=u) (v:=v) (k:=k-len u) Aa
 rw[<-this];congr 1;omega
theorem G8(a:UInt8)(l:A0):A3 (a::l) 0=(a.toNat:Int):=rfl
theorem VB{u v:A0}:A5 (u++v) (len u)=v:=by unfold A5 len;simp
theorem AS5{u v:A0}{k:Int}(h0:0<=k)(h:k<=len u):A5 (u++v) k=A5 u k++v:=by
 unfold A5 len at*
 rw[List.drop_append_of_le_length Aa]
theorem QB{α:Type}(s:List α):A5 s 0=s:=rfl
theorem VC{u v:A0}:Eng.sub (u++v) 0 (len u)=u:=by unfold Eng.sub len;simp
theorem eX{s:A0}{n:Int}(h0:0<=n)(h1:n<=len s):s=Eng.sub s 0 n++A5 s n/\len (Eng.sub s 0 n)=n:=by
 refine⟨?_,by rw[FG Aa h0 h1];omega⟩
 have:=SF s 0 n Aa h0
 rw[QB]at this;exact this
theorem AS6{a b:A0}(hl:len a=len b)(h: ∀j:Int,0<=j->j<len a->A3 a j=A3 b j):a=b:=by
 unfold len at hl
 refine List.ext_getElem Aa λ i h1 e=>?_
 have:=h (i:Int) Aa (by unfold len;omega)
 simp only[A3,Int.toNat_natCast,List.getD_eq_getElem?_getD,List.getElem?_eq_getElem h1,List.getElem?_eq_getElem e,Option.getD_some]at this
 exact UInt8.toNat_inj.1 Aa
theorem AS7{s s':A0}{i i' k:Int}(h0:0<=i)(e:0<=i')(n:0<=k)(h1:i+k<=len s)(l:i'+k<=len s')(h: ∀j,0<=j->j<k->A3 s' (i'+j)=A3 s (i+j)):Eng.sub s' i' (i'+k)=Eng.sub s i (i+k):=by
 have q:=FG (s:=s) (i:=i) (j:=i+k) h0 Aa h1
 have w:=FG (s:=s') (i:=i') (j:=i'+k) e Aa l
 refine AS6 Aa λ j a b=>?_
 rw[Q8 e a Aa l,Q8 h0 a Aa h1]
 exact h j a Aa
theorem oU{p:UInt8->Bool}: ∀ {l:A0},(∀b∈l,p b=true)->l.takeWhile p=l
 |[],_=>rfl
 |a::l,h=>by rw[List.takeWhile_cons,if_pos (h a (by simp)),oU (λ b e=>h b (by simp[e]))]
theorem YN{s s':A0}{i i':Int}(h0:0<=i)(b:0<=i')(h1:1<=rune s i)(hl:i<len s)(M:i'+rune s i<=len s')(h: ∀j,0<=j->j<rune s i->A3 s' (i'+j)=A3 s (i+j)):
  rune s' i'=rune s i/\B2 s' i'=B2 s i/\runeLen s' i'=runeLen s i:=by
 have Q:=LQ s i
 have hle:=rune_le s i hl
 have a0:A3 s' i'=A3 s i:=by have:=h 0 Aa Aa;rwa [Int.add_zero,Int.add_zero]at this
 have z:2<=rune s i->A3 s' (i'+1)=A3 s (i+1):=λ x=>h 1 Aa Aa
 have a2:3<=rune s i->A3 s' (i'+2)=A3 s (i+2):=λ x=>h 2 Aa Aa
 have a3:4<=rune s i->A3 s' (i'+3)=A3 s (i+3):=λ x=>h 3 Aa Aa
 have er:rune s' i'=rune s i:=by
  clear h
  generalize hk:rune s i=k at*
  unfold rune cont at hk ⊢
  dsimp only at hk ⊢
  rw[a0]
  simp only[Bool.and_eq_true,Bool.or_eq_true,decide_eq_true_eq,beq_iff_eq]at hk ⊢
  split at hk
  ·rw[if_pos (by assumption)];exact hk
  rename_i c0
  rw[if_neg c0]
  split at hk
  ·rename_i N
   subst hk
   have:=z Aa
   rw[if_pos Aa]
  rename_i N
  split at hk
  ·rename_i c2
   have O:k=3:=by split at hk<;>omega
   have A:=z Aa
   have e2:=a2 Aa
   rw[if_neg Aa,if_pos Aa,A]
   exact hk
  rename_i c2
  split at hk
  ·rename_i c3
   have P:k=4:=by split at hk<;>omega
   have A:=z Aa
   have e2:=a2 Aa
   have e3:=a3 Aa
   rw[if_neg Aa,if_neg Aa,if_pos Aa,A]
   exact hk
  ·omega
 refine⟨er,?_⟩
 have B:i'<len s':=by omega
 have D:=dS (s.length-i.toNat) (s.getD i.toNat 0).toNat (s.getD (i.toNat+1) 0).toNat (s.getD (i.toNat+2) 0).toNat (s.getD (i.toNat+3) 0).toNat (by unfold len at*;omega) (UInt8.toNat_lt _) (UInt8.toNat_lt _) (UInt8.toNat_lt _) (UInt8.toNat_lt _)
 have e:=dS (s'.length-i'.toNat) (s'.getD i'.toNat 0).toNat (s'.getD (i'.toNat+1) 0).toNat (s'.getD (i'.toNat+2) 0).toNat (s'.getD (i'.toNat+3) 0).toNat (by unfold len at*;omega) (UInt8.toNat_lt _) (UInt8.toNat_lt _) (UInt8.toNat_lt _) (UInt8.toNat_lt _)
 have r1:=dU h0 hl
 have R:=dU b B
 have q: ∀(t:A0) (x:Int),0<=x->B2 t x=((Lib.decodeN (t.length-x.toNat) (t.getD x.toNat 0).toNat (t.getD (x.toNat+1) 0).toNat (t.getD (x.toNat+2) 0).toNat (t.getD (x.toNat+3) 0).toNat).1:Nat)/\runeLen t x=((Lib.decodeN (t.length-x.toNat) (t.getD x.toNat 0).toNat (t.getD (x.toNat+1) 0).toNat (t.getD (x.toNat+2) 0).toNat (t.getD (x.toNat+3) 0).toNat).2:Nat):=λ t x hx=>by
  unfold B2 runeLen;rw[RY t x hx,XR t x hx];exact⟨rfl,rfl⟩
 obtain⟨E,F⟩:=q s i h0
 obtain⟨G,H⟩:=q s' i' b
 rw[E,F,G,H]
 have C: ∀(t:A0) (x:Int),0<=x->A3 t x=((t.getD x.toNat 0).toNat:Int):=λ t x hx=>rfl
 have l:=λ(t:A0) (x:Int) (hx:0<=x) (j:Nat)=>XO t x hx j
 rw[C s i h0,C s' i' b]at a0
 have J:A3 s (i+1)=_:=l s i h0 1
 have K:A3 s (i+2)=_:=l s i h0 2
 have L:A3 s (i+3)=_:=l s i h0 3
 have n:A3 s' (i'+1)=_:=l s' i' b 1
 have w:A3 s' (i'+2)=_:=l s' i' b 2
 have y:A3 s' (i'+3)=_:=l s' i' b 3
 rw[J,n]at z
 rw[K,w]at a2
 rw[L,y]at a3
 unfold dR at D e
 generalize (s.getD i.toNat 0).toNat=x0 at*
 generalize (s.getD (i.toNat+1) 0).toNat=x1 at*
 generalize (s.getD (i.toNat+2) 0).toNat=x2 at*
 generalize (s.getD (i.toNat+3) 0).toNat=x3 at*
 generalize (s'.getD i'.toNat 0).toNat=y0 at*
 generalize (s'.getD (i'.toNat+1) 0).toNat=y1 at*
 generalize (s'.getD (i'.toNat+2) 0).toNat=y2 at*
 generalize (s'.getD (i'.toNat+3) 0).toNat=y3 at*
 generalize Q1 (s.length-i.toNat) x0 x1 x2 x3=k at*
 generalize Q1 (s'.length-i'.toNat) y0 y1 y2 y3=k' at*
 generalize Lib.decodeN (s.length-i.toNat) x0 x1 x2 x3=d at*
 generalize Lib.decodeN (s'.length-i'.toNat) y0 y1 y2 y3=d' at*
 obtain⟨d1,d2⟩:=d
 obtain⟨A,e2⟩:=d'
 clear E F G H q C l J K L n w y h
 dsimp only at*
 rcases D with D|D|D|D|D<;>rcases e with e|e|e|e|e<;>first|(exfalso;omega)|(constructor<;>omega)
theorem eY{s s':A0}(hl:6<=len s')(h: ∀j,0<=j->j<6->A3 s' j=A3 s j)(h0:0<=C3 s):C3 s'=C3 s:=by
 by_cases hs:len s<6\/ ¬A3 s 0=92\/ ¬A3 s (0+1)=117
 ·have:=o5 (s:=s) (i:=0) Aa Aa
  rw[QB]at this;omega
 ·have e:=YF (s:=s) (i:=0) Aa Aa Aa Aa
  have e2:=YF (s:=s') (i:=0) Aa Aa (by rw[h 0 Aa Aa];omega) (by rw[h (0+1) Aa Aa];omega)
  rw[QB]at e e2
  have e3:Eng.sub s' (0+2) (0+6)=Eng.sub s (0+2) (0+6):=AS7 (k:=4) Aa Aa Aa Aa Aa (λ j a b=>h _ Aa Aa)
  rw[e,e2,e3]
theorem oV{s s':A0}(h0:(BZ s).2≠0)(hl:(BZ s).2<=len s')(h: ∀j,0<=j->j<(BZ s).2->A3 s' j=A3 s j):BZ s'=BZ s:=by
 generalize hk:(BZ s).2=k at*
 unfold BZ at hk ⊢
 by_cases c1:len s<2
 ·rw[if_pos c1]at hk;exact absurd hk.symm h0
 rw[if_neg c1]at hk ⊢
 by_cases c2:KS (A3 s 1)=true
 ·rw[if_pos c2]at hk ⊢
  have i:k=2:=hk.symm
  rw[if_neg Aa,h 1 Aa Aa,if_pos c2]
 rw[if_neg c2]at hk ⊢
 by_cases c3:C3 s<0\/(56320<=C3 s/\C3 s<57344)
 ·rw[if_pos c3]at hk;exact absurd hk.symm h0
 rw[if_neg c3]at hk ⊢
 by_cases c4:C3 s<55296\/57344<=C3 s
 ·rw[if_pos c4]at hk ⊢
  have i:k=6:=hk.symm
  have e:=eY (s:=s) (s':=s') Aa (λ j a b=>h j a Aa) Aa
  rw[if_neg Aa,h 1 Aa Aa,if_neg c2,e,if_neg c3,if_pos c4]
 rw[if_neg c4]at hk ⊢
 by_cases c5:C3 (A5 s 6)<56320\/57344<=C3 (A5 s 6)
 ·rw[if_pos c5]at hk;exact absurd hk.symm h0
 rw[if_neg c5]at hk ⊢
 have i:k=12:=hk.symm
 have e:=eY (s:=s) (s':=s') Aa (λ j a b=>h j a Aa) Aa
 have e2:=eY (s:=A5 s 6) (s':=A5 s' 6) (by rw[ED s' 6 Aa Aa];omega) (λ j a b=>by rw[OG _ _ _ Aa a,OG _ _ _ Aa a];exact h _ Aa Aa) Aa
 rw[if_neg Aa,h 1 Aa Aa,if_neg c2,e,if_neg c3,if_neg c4,e2,if_neg c5]
theorem eZ{s s':A0}{n:Int}(l:n<=len s')(q: ∀j,0<=j->j<n->A3 s' j=A3 s j): ∀(f w:Nat) (i:Int) (acc:List Int) (x:A0),0<=i->i<=len s->DT f s i acc=(x,n,0)->(len s'-i).toNat<=w->DT w s' i acc=(x,n,0)
 |0,_,_,_,_,_,_,h,_=>by unfold DT at h;simp at h
 |f+1,w,i,acc,x,h0,hi,h,E=>by
  have z:=Y0 (f:=f+1) (s:=s) (i:=i) (acc:=acc) h0 hi
  rw[h]at z
  dsimp only at z
  have A:i<n:=z.2.2.1 U
  have hl:i<len s:=by omega
  have y:i<len s':=by omega
  rw[RX E y]
  unfold DT at h
  rw[if_pos hl]at h
  have B:A3 s' i=A3 s i:=q i h0 A
  rw[RZ s i h0,Q2 s i h0]at h
  rw[RZ s' i h0,Q2 s' i h0]
  have low: ∀c:Int,c<128->(B2 s' i=c↔B2 s i=c):=λ c C=>by rw[JK h0 hl C,JK h0 y C,B]
  by_cases c1:B2 s i=34
  ·rw[if_pos c1]at h;rw[if_pos ((low 34 Aa).2 c1)];exact h
  rw[if_neg c1]at h
  rw[if_neg (λ e=>c1 ((low 34 Aa).1 e))]
  by_cases c2:B2 s i=92
  ·rw[if_pos c2]at h;rw[if_pos ((low 92 Aa).2 c2)]
   by_cases c3:(BZ (A5 s i)).2=0
   ·rw[if_pos c3]at h;simp at h
   rw[if_neg c3]at h
   have F:=ED s i h0 hi
   have D:=ED s' i h0 Aa
   have he:=XZ (A5 s i)
   have k:=Y0 (f:=f) (s:=s) (i:=i+(BZ (A5 s i)).2) (acc:=acc++Lib.encodeRuneZ (BZ (A5 s i)).1) Aa Aa
   rw[h]at k
   dsimp only at k
   have:=k.2.2.1 U
   have e:BZ (A5 s' i)=BZ (A5 s i):=oV c3 Aa (λ j a b=>by rw[OG _ _ _ h0 a,OG _ _ _ h0 a];exact q _ Aa Aa)
   rw[e,if_neg c3]
   exact eZ l q f (w-1) _ _ x Aa Aa h Aa
  ·rw[if_neg c2]at h
   rw[if_neg (λ e=>c2 ((low 92 Aa).1 e))]
   by_cases c3:B2 s i<32\/(B2 s i=65533/\runeLen s i=1)
   ·rw[if_pos c3]at h;simp at h
   rw[if_neg c3]at h
   have J:=dX h0 hl
   have K:rune s i≠0:=λ e=>c3 (.inr ((YE h0 hl).1 e))
   have G:=LQ s i
   have H:runeLen s i=rune s i:=by rcases MA h0 hl with d|d<;>omega
   have k:=Y0 (f:=f) (s:=s) (i:=i+runeLen s i) (acc:=acc++Lib.encodeRuneZ (B2 s i)) Aa Aa
   rw[h]at k
   dsimp only at k
   have:=k.2.2.1 U
   obtain⟨_,e2,e3⟩:=YN (s:=s) (s':=s') (i:=i) (i':=i) h0 h0 Aa hl Aa (λ j a b=>q _ Aa Aa)
   rw[e2,e3,if_neg c3]
   exact eZ l q f (w-1) _ _ x Aa Aa h Aa
theorem oW{u v v':A0}{x:A0}(h:B4 (u++v)=(x,len u,0)):B4 (u++v')=(x,len u,0):=by
 have i:=OH (u++v)
 rw[h]at i
 dsimp only at i
 have s:2<=len u:=i.2.2.1 U
 have l: ∀j,0<=j->j<len u->A3 (u++v') j=A3 (u++v) j:=λ j a b=>by rw[IU a b,IU a b]
 have y:=AQ u v
 have q:=AQ u v'
 have p1:=A9 v
 have p2:=A9 v'
 have k: ∀w:A0,¬u++w=[]:=λ w e=>by have:=congrArg len e;rw[AQ,len_nil]at this;have:=A9 w;omega
 unfold B4 at h ⊢
 by_cases c:Lib.hasPrefix (u++v) [34]=true
 ·rw[if_pos c]at h
  rw[if_pos (MG.2 ⟨k v',by rw[l 0 Aa Aa];exact(MG.1 c).2⟩)]
  exact eZ (n:=len u) Aa l _ _ 1 [] x Aa Aa h (by unfold len;omega)
 ·rw[if_neg c]at h;simp at h
def KG(c:Int):Bool:=O5 c||c==40||c==41||c==44||c==58||c==91||c==93||c==125
def Stop(v v':A0):Prop:=v'=[]\/(v'≠[]/\KG (A3 v' 0)=true)\/(v≠[]/\v'≠[]/\A3 v' 0=A3 v 0)
theorem L0{α:Type}{l:List α}:l≠[]↔0<len l:=⟨λ h=>HQ h,λ h e=>by rw[e,len_nil]at h;omega⟩
theorem SJ{s:A0}{n:Int}(k:n<=len s)(b: ∀j:Int,0<=j->j<n->CK (A3 s j) (j==0)=true)(hs:n<len s->CK (A3 s n) (n==0)=false)(i:Int)(h0:0<=i)(hi:i<=n):CZ s i=n:=by
 by_cases h:i<n
 ·rw[<-TU h0 Aa (b i h0 h)]
  exact SJ k b hs (i+1) Aa Aa
 ·have e:i=n:=by omega
  subst e
  by_cases hl:i<len s
  ·exact TV h0 hl (hs hl)
  ·exact TW hl
termination_by (n-i).toNat
theorem YO{s:A0}: ∀(i:Int),0<=i->(∀j:Int,i<=j->j<CZ s i->CK (A3 s j) (j==0)=true)/\(i<=len s->CZ s i<len s->CK (A3 s (CZ s i)) (CZ s i==0)=false):=by
 intro i h0
 by_cases hlt:i<len s
 ·cases hw:CK (A3 s i) (i==0)with
  |true=>
   have:=YO (s:=s) (i+1) Aa
   rw[TU h0 hlt hw]at this
   refine⟨λ j a b=>?_,λ a b=>this.2 Aa b⟩
   by_cases e:j=i
   ·subst e;exact hw
   ·exact this.1 j Aa b
  |false=>rw[TV h0 hlt hw];exact⟨λ j a b=>by omega,λ _ _=>hw⟩
 ·rw[TW hlt];exact⟨λ j a b=>by omega,λ a b=>by omega⟩
termination_by i=>(len s-i).toNat
theorem oX{c:Int}{f:Bool}(h:KG c=true):CK c f=false:=by
 unfold KG O5 at h
 unfold CK F3 CA
 simp only[Bool.or_eq_true,beq_iff_eq]at h
 rw[<-Bool.not_eq_true]
 simp only[Bool.or_eq_true,Bool.and_eq_true,decide_eq_true_eq,beq_iff_eq]
 omega
theorem fA{u v v':A0}(h:BC (u++v)=u)(l:Stop v v'):BC (u++v')=u:=by
 have hl:CZ (u++v) 0=len u:=by rw[<-MC,h]
 have ho:=YO (s:=u++v) 0 Aa
 rw[hl]at ho
 have z:=AQ u v
 have y:=AQ u v'
 have p1:=A9 u
 have p2:=A9 v'
 have A:=MB (s:=u++v) (i:=0) Aa (A9 _)
 have e:CZ (u++v') 0=len u:=by
  refine SJ Aa (λ j a b=>?_) (λ a=>?_) 0 Aa Aa
  ·rw[IU a b,<-IU (v:=v) a b];exact ho.1 j a b
  ·have e0: ∀w:A0,A3 (u++w) (len u)=A3 w 0:=λ w=>by have:=YM (u:=u) (v:=w) (k:=0) Aa;rwa [Int.add_zero]at this
   rw[e0]
   rcases l with l|⟨_,l⟩|⟨n,_,q⟩
   ·subst l;rw[len_nil]at y;omega
   ·exact oX l
   ·rw[q,<-e0 v];exact ho.2 Aa (by have:=L0.1 n;omega)
 unfold BC;rw[e,VC]
theorem L1{s:A0}(h:F3 (A3 s 0)=false):BC s=[]:=by
 have e:CZ s 0=0:=by
  by_cases hl:0<len s
  ·exact TV Aa hl (by unfold CK;rw[h];rfl)
  ·exact TW hl
 unfold BC;rw[e];rfl
theorem AS8{s:A0}(h0:0<len s)(h:F3 (A3 s 0)=true):BC s≠[]:=by
 have e:=TU (s:=s) (i:=0) Aa h0 (by unfold CK;rw[h];rfl)
 have b:=MB (s:=s) (i:=0+1) Aa Aa
 rw[L0,MC];omega
theorem oY{p:UInt8->Bool}{v v':A0}(e:v'=[]\/(∃b r,v'=b::r/\p b=false)): ∀ {u:A0},(u++v).takeWhile p=u->(u++v').takeWhile p=u
 |[],_=>by
  rcases e with rfl|⟨b,r,rfl,i⟩
  ·rfl
  ·simp[List.takeWhile_cons,i]
 |a::u,h=>by
  rw[List.cons_append,List.takeWhile_cons]at h ⊢
  split at h
  ·rename_i j
   rw[if_pos j,oY e (List.cons.inj h).2]
  ·cases h
theorem AS9{b:UInt8}(h:KG (b.toNat:Int)=true):IQ b=false:=by
 cases hn:IQ b with
 |false=>rfl
 |true=>
  rw[eN]at hn
  unfold KG O5 at h
  simp only[Bool.or_eq_true,beq_iff_eq]at h
  omega
theorem AT0{p:UInt8->Bool}(hp: ∀b:UInt8,KG (b.toNat:Int)=true->p b=false){v v':A0}(e:Stop v v')(h:v=[]\/ ∃b r,v=b::r/\p b=false):v'=[]\/ ∃b r,v'=b::r/\p b=false:=by
 cases v' with
 |nil=>exact .inl U
 |cons b r=>
  refine .inr ⟨b,r,rfl,?_⟩
  rcases e with e|⟨_,e⟩|⟨i,_,j⟩
  ·cases e
  ·exact hp b e
  ·rcases h with h|⟨c,q,h,k⟩
   ·exact absurd h i
   ·subst h
    have:b=c:=UInt8.toNat_inj.1 (by rw[G8,G8]at j;omega)
    rw[this];exact k
theorem oZ{p:UInt8->Bool}{v:A0}: ∀ {u:A0},(u++v).takeWhile p=u->v=[]\/ ∃b r,v=b::r/\p b=false
 |[],h=>by
  cases v with
  |nil=>exact .inl U
  |cons b r=>
   refine .inr ⟨b,r,rfl,?_⟩
   rw[List.nil_append,List.takeWhile_cons]at h
   split at h
   ·cases h
   ·rename_i e;simpa using e
 |a::u,h=>by
  rw[List.cons_append,List.takeWhile_cons]at h
  split at h
  ·exact oZ (List.cons.inj h).2
  ·cases h
theorem pA{u v v':A0}(h:runN (u++v)=u)(e:Stop v v'):runN (u++v')=u:=by
 rw[XW]at h ⊢
 exact oY (AT0 (λ b=>AS9) e (oZ h)) h
def QC(b:UInt8):Bool:=([61,33,60,62,46,124,44,58,40,41,91,93,123,125,63]:A0).contains b
theorem QD{a:UInt8}{s:A0}(h:QC a=false):EP (a::s)=[]:=by
 have i: ∀m∈GG,Lib.hasPrefix (a::s) m=false:=by
  intro m hm
  cases hp:Lib.hasPrefix (a::s) m with
  |false=>rfl
  |true=>
   exfalso
   have j: ∀m∈GG,m≠[]/\QC (m.headD 0)=true:=by decide+kernel
   obtain⟨k,e⟩:=j m hm
   cases m with
   |nil=>exact k U
   |cons b r=>
   have e:QC b=true:=e
   have:=List.isPrefixOf_iff_prefix.1 hp
   rw[List.cons_prefix_cons]at this
   rw[<-this.1,e]at h;cases h
 unfold EP
 rw[List.find?_eq_none.2 (λ m hm=>by rw[i m hm];simp)]
 rfl
theorem AT1{u v v':A0}(hu:u≠[])(h:EP (u++v)=u)(i:Stop v v'):EP (u++v')=u:=by
  have hm:u∈GG:=by
                             rcases S0 (u++v)with e|e
                             · exact absurd (h.symm.trans e) hu
                             · rw[h]at e;exact e.1
  have two: ∀m∈GG,(∃a,m=[a,61])\/ ∃a,m=[a]:=by
    have s: ∀m∈GG,m=[m.headD 0,61]\/m=[m.headD 0]:=by decide+kernel
    intro m hm
    rcases s m hm with e|e
    · exact .inl ⟨_,e⟩
    · exact .inr ⟨_,e⟩
  have one: ∀m∈GG,∀w:A0,w=[]\/A3 w 0≠61\/(∃a,m=[a,61])\/(m≠[60]/\m≠[62])->EP (m++w)=m:=by
    intro m hm w hw
    simp only[GG,List.mem_cons,List.not_mem_nil,or_false]at hm
    cases w with
    |nil=>rcases hm with rfl|rfl|rfl|rfl|rfl|rfl|rfl|rfl|rfl|rfl|rfl|rfl|rfl|rfl|rfl|rfl|rfl<;>rfl
    |cons b r=>
      have j:b=61\/ ¬(61:UInt8)=b:=by by_cases e:b=61;exact .inl e;exact .inr (λ x=>e x.symm)
      have k:A3 (b::r) 0≠61-> ¬(61:UInt8)=b:=λ x e=>x (by rw[<-e];rfl)
      rcases hm with rfl|rfl|rfl|rfl|rfl|rfl|rfl|rfl|rfl|rfl|rfl|rfl|rfl|rfl|rfl|rfl|rfl<;>
        first
          |rfl
          |(
             have l: ¬(61:UInt8)=b:=by
               rcases hw with hw|hw|⟨a,hw⟩|hw
               · cases hw
               · exact k hw
               · simp at hw
               · simp at hw
             simp[EP,GG,List.find?,Lib.hasPrefix,List.isPrefixOf,(beq_eq_false_iff_ne.2 l)])
          |(
             rcases j with rfl|l
             · rfl
             · simp[EP,GG,List.find?,Lib.hasPrefix,List.isPrefixOf,(beq_eq_false_iff_ne.2 l)])
  refine one u hm v' ?_
  rcases two u hm with e|⟨a,e⟩
  ·exact .inr (.inr (.inl e))
  ·rcases i with i|⟨_,i⟩|⟨n,_,q⟩
   ·exact .inl i
   ·refine .inr (.inl λ x=>?_);rw[x]at i;exact absurd i Ab
   ·by_cases e2:u≠[60]/\u≠[62]
    ·exact .inr (.inr (.inr e2))
    ·refine .inr (.inl λ x=>?_)
     rw[q]at x
     cases v with
     |nil=>exact n U
     |cons b r=>
          have j:b=61:=UInt8.toNat_inj.1 (by rw[G8]at x;exact Int.ofNat_inj.1 x)
          subst j
          have:u=[60]\/u=[62]:=by
            by_cases e3:u=[60]
            · exact .inl e3
            · exact .inr (Classical.byContradiction λ e4=>e2 ⟨e3,e4⟩)
          rcases this with rfl|rfl
          · exact absurd h (show ¬([60,61]:A0)=[60] by decide)
          · exact absurd h (show ¬([62,61]:A0)=[62] by decide)
theorem fB{a:UInt8}(h:F3 (a.toNat:Int)=true):QC a=false:=by
 have: ∀n:Fin 256,F3 (n.val:Int)=true->QC (UInt8.ofNat n.val)=false:=by decide+kernel
 have:=this ⟨a.toNat,a.toNat_lt⟩ h
 simpa using this
theorem pB{a:UInt8}(h:(a.toNat:Int)=45\/CA (a.toNat:Int)=true):QC a=false/\F3 (a.toNat:Int)=false:=by
 have: ∀n:Fin 256,((n.val:Int)=45\/CA (n.val:Int)=true)->QC (UInt8.ofNat n.val)=false/\F3 (n.val:Int)=false:=by decide+kernel
 have:=this ⟨a.toNat,a.toNat_lt⟩ h
 simpa using this
theorem fC{c:Int}(h:KG c=true):F3 c=false/\c≠34:=by
 unfold KG O5 at h
 simp only[Bool.or_eq_true,beq_iff_eq]at h
 unfold F3
 rw[<-Bool.not_eq_true]
 simp only[Bool.or_eq_true,Bool.and_eq_true,decide_eq_true_eq,beq_iff_eq]
 omega
theorem VD(a:UInt8)(l:A0):A5 (a::l) 1=l:=rfl
theorem fD{u v v':A0}{t:Tk}(hu:u≠[])(h:C4 (u++v)=(t,len u,0))(i:Stop v v'):C4 (u++v')=(t,len u,0):=by
 cases u with
 |nil=>exact absurd U hu
 |cons a u=>
 have hp:=A9 u
 rw[AM]at h ⊢
 rw[List.cons_append]at h ⊢
 have j: ∀ {l m:A0},m≠[]->EP l=m-> ∃r,m++r=l:=λ{l m} hm e=>by
  rcases S0 l with e2|e2
  ·exact absurd (e.symm.trans e2) hm
  ·rw[e]at e2;exact List.isPrefixOf_iff_prefix.1 e2.2
 have cut: ∀ {l x:A0},x++[]++(A5 l (len x))=l->True:=λ _=>trivial
 unfold C4 at h ⊢
 rw[G8,VD]at h ⊢
 by_cases c1:(a.toNat:Int)=46/\BC (u++v)≠[]
 ·rw[if_pos c1]at h
  simp only[Prod.mk.injEq]at h
  obtain⟨h1,q,_⟩:=h
  have hl:len (BC (u++v))=len u:=by omega
  have hw:BC (u++v)=u:=by
   have:BC (u++v)=Eng.sub (u++v) 0 (CZ (u++v) 0):=rfl
   rw[this,<-MC,hl,VC]
  have w:=fA hw i
  rw[hw]at c1 h1
  rw[w,if_pos c1,h1,Int.add_comm]
 rw[if_neg c1]at h
 by_cases c2:(a.toNat:Int)=46/\Lib.hasPrefix (u++v) [34]=true
 ·rw[if_pos c2]at h
  simp only[Prod.mk.injEq]at h
  obtain⟨h1,q,K⟩:=h
  have L:B4 (u++v)=((B4 (u++v)).1,len u,0):=by
   rw[show(B4 (u++v))=((B4 (u++v)).1,(B4 (u++v)).2.1,(B4 (u++v)).2.2)from rfl,K,show(B4 (u++v)).2.1=len u from by omega]
  have y:=oW (v':=v') L
  have O:=OH (u++v)
  rw[K,show(B4 (u++v)).2.1=len u from by omega]at O
  have P:=O.2.2.1 U
  have k:=(MG.1 c2.2).2
  rw[IU Aa Aa]at k
  have z:A3 (u++v') 0=34:=by rw[IU Aa Aa];exact k
  have B:BC (u++v')=[]:=L1 (by rw[z];rfl)
  rw[if_neg (λ x=>x.2 B),if_pos ⟨c2.1,MG.2 ⟨λ e=>by have:=congrArg len e;rw[AQ,len_nil]at this;have:=A9 v';omega,z⟩⟩,y,<-h1]
  simp only[Prod.mk.injEq,true_and,and_true]
  omega
 rw[if_neg c2]at h
 by_cases c3:EP (a::(u++v))≠[]
 ·rw[if_pos c3]at h
  simp only[Prod.mk.injEq]at h
  obtain⟨h1,q,_⟩:=h
  obtain⟨r,A⟩:=j c3 rfl
  have hm:EP ((a::u)++v)=a::u:=by
   rw[List.cons_append]
   have hl:(EP (a::(u++v))).length=(a::u).length:=by rw[List.length_cons];unfold len at q;omega
   rw[<-List.cons_append]at A
   exact(List.append_inj A hl).1
  have G:=AT1 (by simp) hm i
  rw[List.cons_append]at hm G
  have Q: ¬((a.toNat:Int)=46/\BC (u++v')≠[]):=by
   rintro⟨H,hw⟩
   have C:u=[]:=by
    have D:a::u∈GG:=by
     rcases S0 (a::(u++v))with e|e
     ·exact absurd e c3
     ·rw[hm]at e;exact e.1
    have: ∀m∈GG,A3 m 0=46->A5 m 1=[]:=by decide+kernel
    exact this _ D H
   subst C
   rw[List.nil_append]at hw c1
   have M:BC v=[]:=Classical.byContradiction λ e=>c1 ⟨H,e⟩
   apply hw
   rcases i with i|⟨_,i⟩|⟨E,_,F⟩
   ·rw[i];exact L1 U
   ·exact L1 (fC i).1
   ·refine L1 ?_
    rw[F]
    cases hh:F3 (A3 v 0)with
    |false=>rfl
    |true=>exact absurd M (AS8 (L0.1 E) hh)
  have R: ¬((a.toNat:Int)=46/\Lib.hasPrefix (u++v') [34]=true):=by
   rintro⟨H,hw⟩
   have C:u=[]:=by
    have D:a::u∈GG:=by
     rcases S0 (a::(u++v))with e|e
     ·exact absurd e c3
     ·rw[hm]at e;exact e.1
    have: ∀m∈GG,A3 m 0=46->A5 m 1=[]:=by decide+kernel
    exact this _ D H
   subst C
   rw[List.nil_append]at hw c2
   have k:=MG.1 hw
   rcases i with i|⟨_,i⟩|⟨E,_,F⟩
   ·exact k.1 i
   ·exact(fC i).2 k.2
   ·exact c2 ⟨H,MG.2 ⟨E,by rw[<-F];exact k.2⟩⟩
  rw[if_neg Q,if_neg R,G,if_pos (by simp),<-h1,hm,AM]
 rw[if_neg c3]at h
 have S:EP (a::(u++v))=[]:=Classical.byContradiction c3
 by_cases c4:BC (a::(u++v))≠[]
 ·rw[if_pos c4]at h
  simp only[Prod.mk.injEq]at h
  obtain⟨h1,q,_⟩:=h
  have hw:BC ((a::u)++v)=a::u:=by
   have:BC ((a::u)++v)=Eng.sub ((a::u)++v) 0 (CZ ((a::u)++v) 0):=rfl
   rw[this,<-MC,List.cons_append,q,<-AM a,<-List.cons_append,VC]
  have w:=fA hw i
  rw[List.cons_append]at hw w
  have n:F3 (a.toNat:Int)=true:=by
   cases hh:F3 (a.toNat:Int)with
   |true=>rfl
   |false=>exact absurd (L1 (s:=a::(u++v)) hh) c4
  have b: ¬(a.toNat:Int)=46:=λ e=>by rw[e]at n;cases n
  rw[if_neg (λ x=>b x.1),if_neg (λ x=>b x.1),QD (fB n),if_neg (λ x=>x U),w,if_pos (by simp),<-h1,hw,AM]
 rw[if_neg c4]at h
 have T:BC (a::(u++v))=[]:=Classical.byContradiction c4
 by_cases c5:(a.toNat:Int)=34
 ·rw[if_pos c5]at h
  simp only[Prod.mk.injEq]at h
  obtain⟨h1,q,K⟩:=h
  have V:a=34:=UInt8.toNat_inj.1 (by show a.toNat=34;omega)
  subst V
  have L:B4 ((34::u)++v)=((B4 (34::(u++v))).1,len ((34:UInt8)::u),0):=by
   rw[List.cons_append,show(B4 (34::(u++v)))=((B4 (34::(u++v))).1,(B4 (34::(u++v))).2.1,(B4 (34::(u++v))).2.2)from rfl,K,q,AM]
  have y:=oW (v':=v') L
  rw[List.cons_append]at y
  have B:BC (34::(u++v'))=[]:=L1 U
  have N:EP (34::(u++v'))=[]:=QD U
  rw[if_neg (λ x=>absurd x.1 Ab),if_neg (λ x=>absurd x.1 Ab),N,if_neg (λ x=>x U),B,if_neg (λ x=>x U),if_pos c5,y,<-h1,AM]
 rw[if_neg c5]at h
 by_cases c6:(a.toNat:Int)=45\/CA (a.toNat:Int)=true
 ·rw[if_pos c6]at h
  by_cases c7:(GJ (runN (a::(u++v)))).2.2≠0
  ·rw[if_pos c7]at h
   simp only[Prod.mk.injEq]at h
   exact absurd h.2.2 c7
  ·rw[if_neg c7]at h
   simp only[Prod.mk.injEq]at h
   obtain⟨h1,q,_⟩:=h
   have A:runN ((a::u)++v)=a::u:=by
    have j:=List.takeWhile_prefix IQ (l:=(a::u)++v)
    rw[<-XW]at j
    obtain⟨r,A⟩:=j
    have hl:(runN ((a::u)++v)).length=(a::u).length:=by rw[List.length_cons,List.cons_append];unfold len at q;omega
    exact(List.append_inj A hl).1
   have J:=pA A i
   rw[List.cons_append]at A J
   obtain⟨g1,g2⟩:=pB c6
   have b: ¬(a.toNat:Int)=46:=λ e=>by rw[e]at c6;revert c6;decide
   rw[A]at c7 h1
   rw[if_neg (λ x=>b x.1),if_neg (λ x=>b x.1),QD g1,if_neg (λ x=>x U),L1 (s:=a::(u++v')) g2,if_neg (λ x=>x U),if_neg c5,if_pos c6,J,if_neg c7,<-h1,AM]
 ·rw[if_neg c6]at h
  simp only[Prod.mk.injEq]at h
  exact absurd h.2.2 Ab
def D6(x:Nat):Bool:=CA (x:Int)
theorem YP(x:Nat):D6 x=true↔48<=x/\x<=57:=by unfold D6 CA;simp;omega
theorem AT2(x:Nat):D6 x=false↔ ¬(48<=x/\x<=57):=by rw[<-YP];simp
theorem pC{s:A0}{i:Nat}(h:i<s.length)(b:D6 (s[i]).toNat=true):Utf8.decode ⟨⟨s⟩⟩ i=((s[i]).toNat,1):=by
 have:=decode_ascii ⟨⟨s⟩⟩ i h (by have:=(YP _).1 b;show(s[i]).toNat<128;omega)
 exact this
theorem AT3{s:A0}{i:Nat}(h:i<s.length)(b:D6 (s[i]).toNat=false):D6 (Utf8.decode ⟨⟨s⟩⟩ i).1=false:=by
 rcases Nat.lt_or_ge (s[i]).toNat 128 with hl|hl
 ·have:=decode_ascii ⟨⟨s⟩⟩ i h hl
  rw[this];exact b
 ·have:=decode_high ⟨⟨s⟩⟩ i h hl
  rw[AT2];omega
theorem pD(s:A0): ∀(f pos:Nat),s.length<=pos+f->(∀(j:Nat) (h:j<s.length),pos<=j->D6 (s[j]).toNat=true)->Lib.idxFuncFrom D6 false ⟨⟨s⟩⟩ f pos= -1
 |0,_,_,_=>rfl
 |f+1,pos,hl,b=>by
  unfold Lib.idxFuncFrom
  by_cases h:pos<s.length
  ·rw[if_pos (show pos<(ByteArray.mk ⟨s⟩).size from h),pC h (b pos h (Nat.le_refl _)),if_neg (by rw[b pos h (Nat.le_refl _)];simp)]
   exact pD s f (pos+1) Aa (λ j e hp=>b j e Aa)
  ·rw[if_neg (show ¬pos<(ByteArray.mk ⟨s⟩).size from h)]
theorem pE(s:A0): ∀(f pos:Nat),s.length<=pos+f->(∃(j:Nat) (h:j<s.length),pos<=j/\D6 (s[j]).toNat=false)-> ∃(i:Nat) (h:i<s.length),Lib.idxFuncFrom D6 false ⟨⟨s⟩⟩ f pos=(i:Int)/\D6 (s[i]).toNat=false
 |0,pos,hl,⟨j,k,hp,_⟩=>by omega
 |f+1,pos,hl,⟨j,k,hp,b⟩=>by
  unfold Lib.idxFuncFrom
  have h:pos<s.length:=by omega
  rw[if_pos (show pos<(ByteArray.mk ⟨s⟩).size from h)]
  cases hf:D6 (s[pos]).toNat with
  |true=>
   rw[pC h hf,if_neg (by rw[hf];simp)]
   have l:pos≠j:=by intro e;subst e;rw[hf]at b;cases b
   exact pE s f (pos+1) Aa ⟨j,k,Aa,b⟩
  |false=>
   rw[if_pos (AT3 h hf)]
   exact⟨pos,h,rfl,hf⟩
theorem pF(t:A0)(h0: ∃h:0<t.length,D6 (t[0]).toNat=false): ∀(f i:Nat),0<i->i<=t.length->i<=f->0<=Lib.lastIdxFuncFrom D6 false ⟨⟨t⟩⟩ f i
 |0,i,hi,_,y=>by omega
 |f+1,i,hi,hl,y=>by
  obtain⟨z,w⟩:=h0
  unfold Lib.lastIdxFuncFrom
  rw[if_pos hi]
  show 0<=if D6 (Lib.decodeLastL (t.take i)).1=false then _ else _
  split
  ·omega
  ·rename_i hp
   have j:D6 (Lib.decodeLastL (t.take i)).1=true:=by simpa using hp
   have k:=(YP _).1 j
   have hlen:(t.take i).length=i:=by rw[List.length_take];omega
   have hw:Lib.decodeLastL (t.take i)=((t[i-1]'Aa).toNat,1):=by
    have s: ¬t.take i=[]:=by intro e;rw[e]at hlen;simp at hlen;omega
    have hg:(t.take i).getD ((t.take i).length-1) 0=t[i-1]'Aa:=by
     rw[hlen,List.getD_eq_getElem?_getD,List.getElem?_take,if_pos Aa]
     simp[show i-1<t.length from by omega]
    unfold Lib.decodeLastL at k ⊢
    rw[if_neg s,hg]at k ⊢
    by_cases hc:(t[i-1]'Aa).toNat<128
    ·rw[if_pos hc]
    ·exfalso
     rw[if_neg hc]at k
     dsimp only at k
     split at k
     ·rename_i l
      have A:Lib.lastStart (t.take i)<(t.take i).length:=by
       rcases Nat.lt_or_ge (Lib.lastStart (t.take i)) (t.take i).length with h|h
       ·exact h
       ·exfalso
        have e0:(t.take i).drop (Lib.lastStart (t.take i))=[]:=by rw[List.drop_eq_nil_iff];exact h
        rw[e0]at k
        have:(Lib.decodeL []).1=0:=by decide
        omega
      have hd:Utf8.decode ⟨⟨(t.take i).drop (Lib.lastStart (t.take i))⟩⟩ 0=Lib.decodeL ((t.take i).drop (Lib.lastStart (t.take i))):=rfl
      have n:0<((t.take i).drop (Lib.lastStart (t.take i))).length:=by rw[List.length_drop];omega
      have b:(((t.take i).drop (Lib.lastStart (t.take i)))[0]).toNat<128:=by
       rcases Nat.lt_or_ge (((t.take i).drop (Lib.lastStart (t.take i)))[0]).toNat 128 with h|h
       ·exact h
       ·have:=decode_high ⟨⟨(t.take i).drop (Lib.lastStart (t.take i))⟩⟩ 0 n h
        rw[hd]at this;omega
      have q:=decode_ascii ⟨⟨(t.take i).drop (Lib.lastStart (t.take i))⟩⟩ 0 n b
      rw[hd]at q
      rw[q]at l
      have B:Lib.lastStart (t.take i)=i-1:=by rw[hlen]at l;simp only at l;omega
      apply hc
      have e2:((t.take i).drop (Lib.lastStart (t.take i)))[0]=t[i-1]'Aa:=by
       rw[List.getElem_drop,List.getElem_take];first|done|congr 1|(congr 1;omega)
      rw[<-e2];exact b
     ·have:Utf8.runeError=65533:=rfl
      simp only[this]at k;omega
   rw[hw]
   by_cases hi1:i=1
   ·exfalso
    subst hi1
    rw[hw]at j
    have:D6 (t[0]).toNat=true:=j
    rw[w]at this;cases this
   ·exact pF t ⟨z,w⟩ f (i-1) Aa Aa Aa
theorem YQ{s:A0}:JA s=true↔ ∀(j:Nat) (h:j<s.length),D6 (s[j]).toNat=true:=by
 have key: ∀(k:Nat) (i:Int),0<=i->(len s-i).toNat<=k->(KP s i=true↔ ∀(j:Nat) (h:j<s.length),i<=(j:Int)->D6 (s[j]).toNat=true):=by
  intro k
  induction k with
  |zero=>
   intro i h0 n
   rw[bB s i Aa]
   exact⟨λ _ j h b=>by unfold len at n;omega,λ _=>rfl⟩
  |succ k q=>
   intro i h0 n
   by_cases hlt:i<len s
   ·obtain⟨w,he⟩:=yI h0 hlt
    by_cases hf:CA (A3 s i)=true
    ·rw[<-jQ s i h0 hlt hf,q (i+1) Aa Aa]
     constructor
     ·intro h j b l
      by_cases e:(j:Int)=i
      ·have y:j=i.toNat:=by omega
       subst y
       unfold D6;rw[<-he];exact hf
      ·exact h j b Aa
     ·intro h j b l;exact h j b Aa
    ·rw[jR s i h0 hlt hf]
     constructor
     ·intro h;cases h
     ·intro h
      have:=h i.toNat w Aa
      unfold D6 at this
      rw[<-he]at this
      exact absurd this hf
   ·rw[bB s i hlt]
    exact⟨λ _ j h b=>by unfold len at hlt;omega,λ _=>rfl⟩
 have:=key (len s-0).toNat 0 (Int.le_refl 0) (Nat.le_refl _)
 unfold JA
 rw[this]
 exact⟨λ h j b=>h j b Aa,λ h j b _=>h j b⟩
theorem YR(l:A0)(i j:Nat):(ByteArray.mk ⟨l⟩).extract i j=ByteArray.mk ⟨(l.drop i).take (j-i)⟩:=by
 have:=ByteArray.extract_mk l i j
 rw[this]
theorem AT4(s:A0):((Lib.trimF D6 ⟨⟨s⟩⟩).data.toList==[])=JA s:=by
 rw[Bool.eq_iff_iff,beq_iff_eq]
 have w:(ByteArray.mk ⟨s⟩).size=s.length:=rfl
 by_cases ha: ∀(j:Nat) (h:j<s.length),D6 (s[j]).toNat=true
 ·refine⟨λ _=>YQ.2 ha,λ _=>?_⟩
  have hi:Lib.idxFunc D6 false ⟨⟨s⟩⟩= -1:=pD s s.length 0 Aa (λ j h _=>ha j h)
  unfold Lib.trimF Lib.trimLeftF
  rw[if_pos hi]
  unfold Lib.trimRightF
  rw[YR []];simp
 ·have hex: ∃(j:Nat) (h:j<s.length),0<=j/\D6 (s[j]).toNat=false:=by
   apply Classical.byContradiction
   intro A
   apply ha
   intro j h
   cases hf:D6 (s[j]).toNat with
   |true=>rfl
   |false=>exact absurd ⟨j,h,Nat.zero_le _,hf⟩ A
  obtain⟨i,hi,he,B⟩:=pE s s.length 0 Aa hex
  refine⟨λ h=>?_,λ h=>absurd (YQ.1 h) ha⟩
  exfalso
  have y:Lib.idxFunc D6 false ⟨⟨s⟩⟩=(i:Int):=he
  have C:Lib.trimLeftF D6 ⟨⟨s⟩⟩=⟨⟨s.drop i⟩⟩:=by
   unfold Lib.trimLeftF
   rw[y,if_neg Aa,w,Int.toNat_natCast,YR,List.take_of_length_le (by rw[List.length_drop];omega)]
  unfold Lib.trimF at h
  rw[C]at h
  have b:0<(s.drop i).length:=by rw[List.length_drop];omega
  have h0: ∃h:0<(s.drop i).length,D6 ((s.drop i)[0]).toNat=false:=⟨b,by rw[List.getElem_drop];exact B⟩
  have k:0<=Lib.lastIdxFunc D6 false ⟨⟨s.drop i⟩⟩:=pF (s.drop i) h0 (s.drop i).length (s.drop i).length b (Nat.le_refl _) (Nat.le_refl _)
  have z:1<=Lib.rightEndF D6 ⟨⟨s.drop i⟩⟩:=by
   unfold Lib.rightEndF
   rw[if_pos k]
   by_cases hz:(Lib.lastIdxFunc D6 false ⟨⟨s.drop i⟩⟩).toNat=0
   ·rw[hz]
    have e:(ByteArray.mk ⟨s.drop i⟩).extract 0 (ByteArray.mk ⟨s.drop i⟩).size=⟨⟨s.drop i⟩⟩:=by
     rw[YR]
     have:List.take ((s.drop i).length-0) (List.drop 0 (s.drop i))=s.drop i:=by rw[List.drop_zero,Nat.sub_zero,List.take_length]
     exact congrArg (λ l=>(⟨⟨l⟩⟩:ByteArray)) this
    rw[e]
    unfold Lib.decodeGoB
    have n:(ByteArray.mk ⟨s.drop i⟩).size=(s.drop i).length:=rfl
    rw[if_neg (by rw[n];omega)]
    have:=Lib.decode_width_pos ⟨⟨s.drop i⟩⟩ 0 (by rw[n];exact b)
    omega
   ·omega
  unfold Lib.trimRightF at h
  rw[YR]at h
  have q:(List.take (Lib.rightEndF D6 ⟨⟨s.drop i⟩⟩-0) (List.drop 0 (s.drop i)))=[]:=h
  rw[List.drop_zero,Nat.sub_zero,List.take_eq_nil_iff]at q
  rcases q with q|q
  ·omega
  ·rw[q]at b;simp at b
def CS(l:A0):Prop:= ∀b∈l,DJ b=true
theorem VE{s:A0}:JA s=true↔CS s:=by
 rw[YQ]
 constructor
 ·intro h b k
  obtain⟨j,i,e⟩:=List.getElem_of_mem k
  have:=h j i
  rw[e]at this;exact this
 ·intro h j i;exact h _ (List.getElem_mem i)
theorem CS.app {a b:A0}(h:CS a)(k:CS b):CS (a++b):=λ x hx=>by
 rcases List.mem_append.1 hx with hx|hx
 ·exact h x hx
 ·exact k x hx
theorem pG{k:Int}: ∀b∈BB k,b=48:=λ b e=>(List.mem_replicate.1 e).2
theorem CS.BB (k:Int):CS (BB k):=λ b e=>by rw[pG b e];rfl
def pH(r:A0):Prop:=r=[]\/ ∃b q,r=b::q/\DJ b=false
theorem fE{s g r:A0}{i:Int}(h:A5 s i=g++r)(hg:CS g)(e:pH r):AZ s i=i+len g:=by
 have:(g++r).takeWhile DJ=g:=by
  rw[List.takeWhile_append_of_pos hg]
  rcases e with rfl|⟨b,q,rfl,j⟩
  ·simp
  ·rw[List.takeWhile_cons,j];simp
 unfold AZ;rw[h,this]
theorem fF{s g r:A0}{i:Int}(h0:0<=i)(h:A5 s i=g++r):Eng.sub s i (i+len g)=g:=by
 rw[<-YH s i (len g) h0 (A9 _),h,VC]
theorem fG{s g r:A0}{i:Int}(h0:0<=i)(h:A5 s i=g++r):A5 s (i+len g)=r:=by
 rw[<-KE s i (len g) h0 (A9 _),h,VB]
theorem YS{s g:A0}{i:Int}(h0:0<=i)(h:A5 s i=g)(hg:g≠[]):len s=i+len g:=by
 have hp:=L0.1 hg
 have:=XY s i h0
 rw[h]at this
 split at this<;>omega
theorem YT{s q:A0}{b:UInt8}{i:Int}(h0:0<=i)(h:A5 s i=b::q):i<len s/\A3 s i=(b.toNat:Int):=by
 have hl:=YS h0 h (by simp)
 rw[AM]at hl
 have e:=A9 q
 refine⟨Aa,?_⟩
 have:=OG s i 0 h0 (Int.le_refl 0)
 rw[h,Int.add_zero]at this
 rw[<-this];rfl
theorem fH{s q:A0}{b:UInt8}{i:Int}(h0:0<=i)(h:A5 s i=b::q):D5 s [b] i=true/\BL s [b] i=i+1:=by
 have:=YT h0 h
 have e:D5 s [b] i=true:=SC.2 this
 exact⟨e,RU e⟩
theorem YU{s q:A0}{b c:UInt8}{i:Int}(h0:0<=i)(h:A5 s i=b::q)(j:b≠c):D5 s [c] i=false/\BL s [c] i=i:=by
 have k:=YT h0 h
 have e:D5 s [c] i=false:=by
  cases hh:D5 s [c] i with
  |false=>rfl
  |true=>exact absurd (UInt8.toNat_inj.1 (by have:=(SC.1 hh).2;omega)) j
 exact⟨e,RW e⟩
theorem pI{s:A0}{c:A0}{i:Int}(h:len s<=i):D5 s c i=false/\BL s c i=i:=by
 have e:D5 s c i=false:=by
  cases hh:D5 s c i with
  |false=>rfl
  |true=>have:=mG hh;omega
 exact⟨e,RW e⟩
def HG(neg:Bool):A0:=if neg then [45]else []
theorem pJ{b:UInt8}(h:DJ b=true):b≠45/\b≠43/\b≠46/\b≠101/\b≠69:=by
 refine⟨?_,?_,?_,?_,?_⟩<;>(intro e;subst e;revert h;decide)
theorem fI{s w r:A0}{neg:Bool}(h:s=HG neg++(w++r))(hw:CS w)(n:w≠[])(z:pH r)(A: ¬(1<len w/\A3 w 0=48)):
  ∃e,0<=e/\A5 s e=r/\GJ s=if D5 s [46] e then
   if Eng.sub s (BL s [46] e) (AZ s (BL s [46] e))=[]then(C0,AZ s (BL s [46] e),1)
   else IP s neg (w++Eng.sub s (BL s [46] e) (AZ s (BL s [46] e))) (-(len (Eng.sub s (BL s [46] e) (AZ s (BL s [46] e))))) (AZ s (BL s [46] e))
  else IP s neg w 0 (BL s [46] e):=by
 have y:D5 s [45] 0=neg/\BL s [45] 0=len (HG neg):=by
  cases neg with
  |true=>exact fH (q:=w++r) (Int.le_refl 0) (by rw[h];rfl)
  |false=>
   cases w with
   |nil=>exact absurd U n
   |cons b w=>exact YU (q:=w++r) (Int.le_refl 0) (by rw[h];rfl) (pJ (hw b (by simp))).1
 have i:=A9 (HG neg)
 have l:A5 s (len (HG neg))=w++r:=by rw[h,VB]
 have j:=fE l hw z
 have k:=fF i l
 refine⟨len (HG neg)+len w,by have:=A9 w;omega,fG i l,?_⟩
 rw[nW y.2,j,k,if_neg A,if_neg n,y.1]
theorem pK{s e:A0}{neg:Bool}{x b:Int}(h:len s<=b):IP s neg e x b=JI neg e x [] 1:=by
 obtain⟨i,e2⟩:=pI (c:=[101,69]) h
 unfold IP;rw[i,e2,if_neg (by simp),if_neg Aa]
theorem AT5{s w:A0}{neg:Bool}(h:s=HG neg++w)(hw:CS w)(i:w≠[])(j: ¬(1<len w/\A3 w 0=48)):GJ s=JI neg w 0 [] 1:=by
 obtain⟨b,h0,h1,k⟩:=fI (neg:=neg) (w:=w) (r:=[]) (by simpa using h) hw i (.inl rfl) j
 have e:len s<=b:=by
  have:=XY s b h0
  rw[h1,len_nil]at this
  split at this<;>omega
 obtain⟨l,e2⟩:=pI (c:=[46]) e
 rw[k,l,e2,if_neg (by simp),pK e]
theorem AT6{s w p:A0}{neg:Bool}(h:s=HG neg++(w++46::p))(hw:CS w)(l:w≠[])(n: ¬(1<len w/\A3 w 0=48))(hp:CS p)(j:p≠[]):GJ s=JI neg (w++p) (-(len p)) [] 1:=by
 obtain⟨b,h0,h1,q⟩:=fI h hw l (.inr ⟨46,p,rfl,Ab⟩) n
 obtain⟨y,e2⟩:=fH h0 h1
 have k:A5 s (b+1)=p++[]:=by rw[<-KE s b 1 h0 Aa,h1];simp[A5]
 have e:=fE k hp (.inl U)
 have i:=fF Aa k
 have hl:=YS h0 h1 (by simp)
 rw[AM]at hl
 rw[q,y,e2,if_pos U,e,i,if_neg j,pK Aa]
theorem AT7{s w p:A0}{neg neg2:Bool}(h:s=HG neg++(w++101::(HG neg2++p)))(hw:CS w)(A:w≠[])(B: ¬(1<len w/\A3 w 0=48))(hp:CS p)(e:p≠[]):GJ s=JI neg w 0 p (if neg2 then-1 else 1):=by
 obtain⟨b,h0,h1,C⟩:=fI h hw A (.inr ⟨101,_,rfl,Ab⟩) B
 obtain⟨D,e2⟩:=YU (c:=46) h0 h1 Ab
 have k:=YT h0 h1
 have e3:D5 s [101,69] b=true:=nU.2 ⟨k.1,.inl k.2⟩
 have z:A5 s (b+1)=HG neg2++p:=by rw[<-KE s b 1 h0 Aa,h1];rfl
 have l:D5 s [45] (b+1)=neg2/\(if neg2 then BL s [45] (b+1)else BL s [43] (BL s [45] (b+1)))=b+1+len (HG neg2):=by
  cases neg2 with
  |true=>exact fH (q:=p) Aa z
  |false=>
   cases p with
   |nil=>exact absurd U e
   |cons c p=>
    have l:=pJ (hp c (by simp))
    obtain⟨g1,g2⟩:=YU (c:=45) (i:=b+1) Aa z l.1
    obtain⟨g3,g4⟩:=YU (c:=43) (i:=b+1) Aa z l.2.1
    refine⟨g1,?_⟩
    rw[if_neg (by simp),g2,g4]
    show b+1=b+1+0
    omega
 have hg:=A9 (HG neg2)
 have j:A5 s (b+1+len (HG neg2))=p++[]:=by rw[List.append_nil];exact fG Aa z
 have n:=fE j hp (.inl U)
 have y:=fF Aa j
 have hl:=YS Aa j (by simpa using e)
 rw[List.append_nil]at hl
 rw[C,D,e2,if_neg (by simp)]
 unfold IP
 rw[e3,if_pos U,RU e3]
 unfold XM
 dsimp only
 rw[l.1,l.2,n,y,if_neg (by rw[not_or];exact⟨e,Aa⟩)]
theorem fJ{s:A0}(h:A3 s 0≠48):AY s=s:=mP (λ x=>h x.2)
theorem AT8{s:A0}(h:A3 s 0≠48)(k:Int):AY (BB k++s)=s:=by
 have: ∀n:Nat,AY (List.replicate n 48++s)=s:=by
  intro n
  induction n with
  |zero=>exact fJ h
  |succ n b=>rw[List.replicate_succ,List.cons_append,AG3 Ab,b]
 exact this k.toNat
theorem AT9{s:A0}(n:s≠[])(h:A3 s (len s-1)≠48)(k:Int):BE (s++BB k)=s:=by
 have:=Lib.trimRightS_take (s++BB k) [48] s.length (by simp) (λ j b l i=>by
  rw[List.getElem?_append_right l]at i
  rw[pG b (List.mem_of_getElem? i)];rfl) (λ b h0 i=>by
  rw[List.getElem?_append_left Aa]at i
  have e:A3 s (len s-1)=(b.toNat:Int):=by
   unfold A3 len
   rw[show((s.length:Int)-1).toNat=s.length-1 from by omega,List.getD_eq_getElem?_getD,i];rfl
  cases hc:([48]:A0).contains b with
  |false=>rfl
  |true=>rw[Q0]at hc;omega)
 unfold BE;rw[this];simp
theorem fK{b s:A0}{neg:Bool}{e0 e k:Int}(l:CS b)(hd:AY b=s++BB k)(n:0<=k)(h:s≠[])(hl:A3 s (len s-1)≠48)(he:e0+k=e)(h1:len s<=100)(y: -1000<=e)(z:len s+e<=1000)(q:k<=2000):
  CI neg b e0=(⟨3,0,[],s,neg,e⟩,0):=by
 have hp:=L0.1 h
 have i:=OD k n
 have j:len (AY b)=len s+k:=by rw[hd,AQ,i]
 have w:BE (AY b)=s:=by rw[hd,AT9 h hl]
 unfold CI
 rw[if_pos (VE.2 l),w,j,if_neg (by rw[hd];simp[h])]
 rw[if_neg (by simp only[Bool.or_eq_true,decide_eq_true_eq];omega),if_neg (by simp only[Bool.or_eq_true,decide_eq_true_eq];omega)]
 rw[show e0+(len s+k-len s)=e from by omega]
theorem AU0{n:Nd}(h:JB n=true):n=⟨3,0,[],n.s,n.neg,n.e⟩/\CS n.s/\len n.s<=100/\ -1000<=n.e/\n.e<=1000/\len n.s+n.e<=1000/\((n.s=[]/\n.neg=false/\n.e=0)\/(n.s≠[]/\A3 n.s 0≠48/\A3 n.s (len n.s-1)≠48)):=by
 obtain⟨kind,many,name,s,neg,e⟩:=n
 unfold JB at h
 dsimp only at h ⊢
 split at h
 ·cases h
 rename_i b
 simp only[Bool.or_eq_true,decide_eq_true_eq,bne_iff_ne,Bool.not_eq_true',beq_eq_false_iff_ne,not_or,ne_eq,Classical.not_not]at b
 obtain⟨⟨⟨⟨⟨⟨⟨i,c2⟩,c3⟩,c4⟩,c5⟩,j⟩,k⟩,l⟩:=b
 subst i;subst c2;subst c3
 refine⟨rfl,VE.1 (by simpa using c4),Aa,Aa,Aa,Aa,?_⟩
 split at h
 ·rename_i hs
  simp only[Bool.and_eq_true,Bool.not_eq_true',beq_iff_eq]at h hs
  exact .inl ⟨hs,h.1,h.2⟩
 ·rename_i hs
  simp only[Bool.and_eq_true,bne_iff_ne,beq_iff_eq]at h hs
  exact .inr ⟨hs,h.1,h.2⟩
theorem AU1: ∀n:Fin 2001,(Lib.itoa ((n.val:Int)-1000)==HG (decide ((n.val:Int)-1000<0))++Lib.decDigits ((n.val:Int)-1000).natAbs)=true/\
 (Lib.decDigits ((n.val:Int)-1000).natAbs).all DJ=true/\Lib.decDigits ((n.val:Int)-1000).natAbs≠[]/\len (AY (Lib.decDigits ((n.val:Int)-1000).natAbs))<=6/\
 D2 (AY (Lib.decDigits ((n.val:Int)-1000).natAbs))=(((n.val:Int)-1000).natAbs:Int):=by decide+kernel
theorem AU2{e:Int}(h0: -1000<=e)(h1:e<=1000): ∃p,Lib.itoa e=HG (decide (e<0))++p/\CS p/\p≠[]/\len (AY p)<=6/\(if decide (e<0)then(-1:Int)else 1)*D2 (AY p)=e:=by
 have:=AU1 ⟨(e+1000).toNat,Aa⟩
 dsimp only at this
 rw[show(((e+1000).toNat:Nat):Int)-1000=e from by omega]at this
 obtain⟨g1,g2,g3,g4,g5⟩:=this
 refine⟨_,by simpa using g1,λ b i=>List.all_eq_true.1 g2 b i,g3,g4,?_⟩
 rw[g5]
 by_cases h:e<0
 ·rw[if_pos (by simpa using h)];omega
 ·rw[if_neg (by simpa using h)];omega
theorem pL{neg:Bool}{b:A0}{x:Int}:JI neg b x [] 1=((CI neg b x).1,0,(CI neg b x).2):=by
 unfold JI
 rw[show AY []=[]from rfl,if_neg Ab,show x+1*D2 []=x from by show x+1*0=x;omega]
theorem AU3{n:Nd}(h:JB n=true):GJ (IC n)=(n,0,0)/\(∃g r,IC n=HG n.neg++(g::r)/\DJ g=true)/\ ∀b∈IC n,IQ b=true:=by
 obtain⟨he,B,h1,h2,h3,h4,T⟩:=AU0 h
 generalize hs:n.s=s at*
 generalize hneg:n.neg=neg at*
 generalize hee:n.e=e at*
 subst he
 have j: ∀b,DJ b=true->IQ b=true:=λ b i=>by
  rw[eN];left
  unfold DJ CA at i
  simp only[Bool.and_eq_true,decide_eq_true_eq]at i
  omega
 have l: ∀g:Bool,∀b∈HG g,IQ b=true:=by decide
 rcases T with⟨V,e2,e3⟩|⟨D,i,hl⟩
 ·subst V;subst e2;subst e3
  exact⟨Ac,⟨48,[],Ab,Ab⟩,Ab⟩
 obtain⟨g,q,C⟩: ∃g q,s=g::q:=by cases s with
  |nil=>exact absurd U D
  |cons g q=>exact⟨g,q,rfl⟩
 have hp:=L0.1 D
 unfold IC
 dsimp only
 rw[if_neg (by simpa using D),show(if neg then([45]:A0)else [])=HG neg from rfl]
 by_cases c1:(decide (0<=e)&&decide (len s+e<=20))=true
 ·rw[if_pos c1]
  simp only[Bool.and_eq_true,decide_eq_true_eq]at c1
  have y:A3 (s++BB e) 0≠48:=by rw[IU (Int.le_refl 0) hp];exact i
  refine⟨?_,⟨g,q++BB e,by rw[C];simp,B g (by rw[C];simp)⟩,λ b i=>?_⟩
  ·rw[AT5 (w:=s++BB e) (neg:=neg) (by simp) (B.app (CS.BB e)) (by simp[D]) (λ x=>y x.2),pL,fK (s:=s) (k:=e) (e:=e) (B.app (CS.BB e)) (fJ y) c1.1 D hl Aa Aa Aa Aa Aa]
  ·simp only[List.mem_append]at i
   rcases i with(i|i)|i
   ·exact l _ b i
   ·exact j b (B b i)
   ·exact j b (CS.BB e b i)
 rw[if_neg c1]
 by_cases c2:(decide (e<0)&&decide (-20<=e))=true
 ·rw[if_pos c2]
  simp only[Bool.and_eq_true,decide_eq_true_eq]at c2
  have hz:=mD (1-e-len s)
  have K:0<=1-e-len s->len (BB (1-e-len s))=1-e-len s:=λ x=>OD _ x
  have L:1-e-len s<=0->BB (1-e-len s)=[]:=λ x=>XL x
  have F:CS (BB (1-e-len s)++s):=(CS.BB _).app B
  have W:len (BB (1-e-len s)++s)=len (BB (1-e-len s))+len s:=AQ _ _
  have M:AY (BB (1-e-len s)++s)=s:=AT8 i _
  have N:1-e-len s<=0->A3 (BB (1-e-len s)++s) 0≠48:=λ x=>by rw[L x];exact i
  generalize BB (1-e-len s)++s=S at*
  obtain⟨z,P⟩:=eX (s:=S) (n:=len S+e) Aa Aa
  have X:=ED S (len S+e) Aa Aa
  have G:CS (Eng.sub S 0 (len S+e)):=λ b i=>F b (by rw[z];simp[i])
  have A:CS (A5 S (len S+e)):=λ b i=>F b (by rw[z];simp[i])
  have J:Eng.sub S 0 (len S+e)≠[]:=L0.2 Aa
  have H:A5 S (len S+e)≠[]:=L0.2 Aa
  have O: ¬(1<len (Eng.sub S 0 (len S+e))/\A3 (Eng.sub S 0 (len S+e)) 0=48):=by
   rintro⟨x1,Q⟩
   by_cases hpd:0<=1-e-len s
   ·have:=K hpd;omega
   ·refine N Aa ?_
    rw[Q8 (Int.le_refl 0) (Int.le_refl 0) Aa Aa]at Q
    exact Q
  obtain⟨R,q',E⟩: ∃g q,Eng.sub S 0 (len S+e)=g::q:=by
   cases hh:Eng.sub S 0 (len S+e)with
   |nil=>exact absurd hh J
   |cons g q=>exact⟨g,q,rfl⟩
  refine⟨?_,⟨R,q'++46::A5 S (len S+e),by rw[E];simp,G R (by rw[E];simp)⟩,λ b i=>?_⟩
  ·rw[AT6 (w:=Eng.sub S 0 (len S+e)) (p:=A5 S (len S+e)) (neg:=neg) (by simp) G J O A H,<-z,pL,
    fK (s:=s) (k:=0) (e:=e) F (by rw[M,XL (Int.le_refl 0)];simp) (Int.le_refl 0) D hl Aa Aa Aa Aa Aa]
  ·simp only[List.mem_append,List.mem_cons,List.not_mem_nil,or_false]at i
   rcases i with((i|i)|i)|i
   ·exact l _ b i
   ·exact j b (G b i)
   ·subst i;decide
   ·exact j b (A b i)
 rw[if_neg c2]
 obtain⟨p,hi,A,H,hl6,hv⟩:=AU2 (e:=e) Aa Aa
 have y:A3 s 0≠48:=i
 refine⟨?_,⟨g,q++101::Lib.itoa e,by rw[C];simp,B g (by rw[C];simp)⟩,λ b i=>?_⟩
 ·rw[hi,AT7 (w:=s) (p:=p) (neg:=neg) (neg2:=decide (e<0)) (by simp) B D (λ x=>y x.2) A H]
  unfold JI
  rw[if_neg Aa,hv,Int.zero_add,
   fK (s:=s) (k:=0) (e:=e) B (by rw[fJ y,XL (Int.le_refl 0)];simp) (Int.le_refl 0) D hl Aa Aa Aa Aa Aa]
 ·rw[hi]at i
  simp only[List.mem_append,List.mem_cons,List.not_mem_nil,or_false]at i
  rcases i with((i|i)|i)|i|i
  ·exact l _ b i
  ·exact j b (B b i)
  ·subst i;decide
  ·exact l _ b i
  ·exact j b (A b i)
theorem AU4{neg:Bool}{s:A0}{e:Int}(h:(CI neg s e).2=0):JB (CI neg s e).1=true:=by
 unfold CI at h ⊢
 by_cases c1:JA s=true
 ·rw[if_pos c1]at h ⊢
  by_cases c2:(AY s==[])=true
  ·rw[if_pos c2];decide+kernel
  rw[if_neg c2]at h ⊢
  split at h
  ·cases h
  rename_i c3
  rw[if_neg c3]
  split at h
  ·cases h
  rename_i c4
  rw[if_neg c4]
  simp only[Bool.or_eq_true,decide_eq_true_eq]at c4
  have k: ¬AY s=[]:=by simpa using c2
  have hp:=dL s k
  have w:BE (AY s)≠[]:=L0.2 hp
  have n: ∃r,BE (AY s)++r=AY s:=by
   unfold BE Lib.trimRightS
   have:=List.dropWhile_suffix (([48]:A0).contains ·) (l:=(AY s).reverse)
   obtain⟨r,q⟩:=this
   refine⟨r.reverse,?_⟩
   rw[<-List.reverse_append,q,List.reverse_reverse]
  obtain⟨r,q⟩:=n
  have hF:CS (BE (AY s)):=λ b y=>(AD9 (VE.1 c1)) b (by rw[<-q];simp[y])
  have i:A3 (BE (AY s)) 0≠48:=by
   rw[<-IU (v:=r) (Int.le_refl 0) hp,q]
   cases hd:AY s with
   |nil=>exact absurd hd k
   |cons b l=>
    have:=dK hd
    intro e;rw[G8]at e;rw[Q0.2 e]at this;cases this
  have j:A3 (BE (AY s)) (len (BE (AY s))-1)≠48:=by
   obtain⟨b,z,e2⟩:=dQ hp
   rw[<-e2]
   intro e3
   have y:([48]:A0).contains b=true:=Q0.2 e3
   have:BE (AY s)=((AY s).reverse.dropWhile (([48]:A0).contains ·)).reverse:=rfl
   rw[this]at z
   have A:=congrArg List.reverse z
   rw[List.reverse_reverse,List.reverse_append,List.reverse_cons,List.reverse_nil,List.nil_append,List.singleton_append]at A
   have:=dK (s:=(AY s).reverse) (b:=b) (l:=(Eng.sub (BE (AY s)) 0 (len (BE (AY s))-1)).reverse) A
   rw[y]at this;cases this
  unfold JB
  dsimp only
  rw[if_neg (by
   simp only[Bool.or_eq_true,decide_eq_true_eq,bne_iff_ne,Bool.not_eq_true',beq_eq_false_iff_ne,VE.2 hF]
   simp only[not_or]
   refine⟨⟨⟨⟨⟨⟨⟨by simp,by simp⟩,by simp⟩,by simp⟩,Aa⟩,Aa⟩,Aa⟩,Aa⟩),if_neg (by simpa using w)]
  simp[i,j]
 ·rw[if_neg c1]at h;exact absurd h Ab
theorem AU5{neg:Bool}{s:A0}{e:Int}(h:CS s):(CI neg s e).2=0\/(CI neg s e).2=2:=by
 unfold CI
 rw[if_pos (VE.2 h)]
 split
 ·exact .inl U
 ·split
  ·exact .inr U
  ·split
   ·exact .inr U
   ·exact .inl U
def YV(r:Nd×Int×Int):Prop:=(r.2.2=0->JB r.1=true)/\(r.2.2=0\/r.2.2=1\/r.2.2=2)
theorem pM{neg:Bool}{b:A0}{x:Int}{i:A0}{side:Int}(h:CS b):YV (JI neg b x i side):=by
 unfold JI
 split
 ·exact⟨λ e=>absurd e Ab,.inr (.inr U)⟩
 ·refine⟨λ e=>AU4 e,?_⟩
  rcases AU5 (neg:=neg) (e:=x+side*D2 (AY i)) h with e|e
  ·exact .inl e
  ·exact .inr (.inr e)
theorem VF(n:Nd)(p:Int):YV (n,p,1):=⟨λ e=>absurd e (show ¬(1:Int)=0 by decide),.inr (.inl U)⟩
theorem pN{s e:A0}{neg:Bool}{x b:Int}(h:CS e):YV (IP s neg e x b):=by
 unfold IP
 split
 ·unfold XM
  dsimp only
  repeat' split
  all_goals first|exact VF _ _|exact pM h
 ·split
  ·exact VF _ _
  ·exact pM h
theorem AU6(s:A0):YV (GJ s):=by
 have h0:=dM s [45] 0 (A9 s)
 have b:=PY s (BL s [45] 0) Aa h0.2
 have h1:=dM s [46] (AZ s (BL s [45] 0)) b.2
 unfold GJ
 dsimp only
 have hF:CS (Eng.sub s (BL s [45] 0) (AZ s (BL s [45] 0))):=XN h0.1
 split
 ·exact VF _ _
 ·split
  ·exact VF _ _
  ·split
   ·split
    ·exact VF _ _
    ·exact pN (hF.app (XN Aa))
   ·exact pN hF
inductive Lx (s:A0):Int->List Tk->Prop
 |done {i:Int}:0<=i-> ¬i<len s->Lx s i []
 |step {i n:Int} {t:Tk} {l:List Tk}:0<=i->i<len s->C4 (A5 s i)=(t,n,0)->Lx s (E6 s (i+n)) l->Lx s i ({ t with pos:=i}::l)
theorem YW{s:A0}{i n e:Int}{t:Tk}(h0:0<=i)(h1:i<len s)(h:C4 (A5 s i)=(t,n,e)):0<=n/\i+n<=len s/\(e=0->1<=n)/\(e=0\/e=1\/e=2\/e=4):=by
 have hl:=ED s i h0 Aa
 have:=AM4 (s:=A5 s i) Aa
 rw[h]at this
 dsimp only at this
 omega
theorem Lx.go {s:A0}{i:Int}{l:List Tk}(h:Lx s i l): ∀(f:Nat) (acc:List Tk),(len s-i).toNat<=f->Q3 f s i acc=(acc++l++[XX s],0,0):=by
 induction h with
 |done _ h1=>intro f acc _;rw[AG5 h1];simp
 | @step i n t l h0 h1 h _ ih=>
  intro f acc b
  have e:=YW h0 h1 h
  have j:=mN s (i+n) Aa e.2.1
  rw[AG4 b h1,h]
  dsimp only
  rw[if_neg (by simp),ih _ _ Aa]
  simp
theorem Lx.size {s:A0}{i:Int}{l:List Tk}(h:Lx s i l):i<=len s->len l<=len s-i:=by
 induction h with
 |done _ _=>intro x;rw[len_nil];omega
 | @step i n t l h0 h1 h _ ih=>
  intro x
  have e:=YW h0 h1 h
  have b:=mN s (i+n) Aa e.2.1
  have:=ih b.2
  rw[AM];omega
theorem fL{s:A0}{i:Int}(h0:0<=i):E6 s i=i+E6 (A5 s i) 0:=by
 unfold E6;rw[QB];omega
theorem AU7:E6 [] 0=0:=rfl
theorem pO{b:UInt8}{r:A0}(h:O5 (b.toNat:Int)=true):E6 (b::r) 0=1+E6 r 0:=by
 unfold E6
 rw[QB,QB,List.takeWhile_cons,show M9 b=true from h]
 simp[len];omega
theorem pP{b:UInt8}{r:A0}(h:O5 (b.toNat:Int)=false):E6 (b::r) 0=0:=by
 unfold E6
 rw[QB,List.takeWhile_cons,show M9 b=false from h]
 simp[len]
theorem AU8{s:A0}{i n:Int}{t:Tk}(h0:0<=i)(h1:i<len s)(h:C4 (A5 s i)=(t,n,0)):
  ∃u v,A5 s i=u++v/\len u=n/\u≠[]/\v=A5 s (i+n)/\u=Eng.sub s i (i+n)/\C4 (u++v)=(t,len u,0):=by
 have j:=YW h0 h1 h
 have hl:=ED s i h0 Aa
 have b:=eX (s:=A5 s i) (n:=n) Aa Aa
 rw[KE s i n h0 Aa,YH s i n h0 Aa]at b
 exact⟨_,_,b.1,b.2,λ e=>by rw[e,len_nil]at b;omega,rfl,rfl,by rw[<-b.1,b.2];exact h⟩
end Go.Eng
