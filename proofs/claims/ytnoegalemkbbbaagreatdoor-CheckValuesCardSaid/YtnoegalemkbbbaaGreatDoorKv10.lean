/- Lemmas for the card. -/
import Derived.Test.YtnoegalemkbbbaaGreatDoorKv9
set_option linter.unusedVariables false
set_option linter.unusedSimpArgs false
set_option maxRecDepth 100000
set_option maxRecDepth 100000
namespace Go.Proofs.YtnoegalemkbbbaaGreatDoor
open Go.Proofs.Tryz
open Go.Eng Go.RowKit
abbrev SN(g n c:Nat)(xs:List Value):HO:=.priv 52 11 (.slice (some ⟨g,0,none⟩) n c) n xs
abbrev FK(g o n c:Nat):Value:=.slice (some ⟨g,o,none⟩) n c
theorem oU{L cs:List Value}{o:Nat}(h:o+cs.length<=L.length):(C3 L o cs).length=L.length:=by
 unfold C3;simp;omega
theorem AT5{A Z Y D:List Value}{a b:Nat}(e:A.length=a)(h:b=a+Y.length)(i:Z.length=Y.length+D.length):C3 (C3 (A++Z) a Y) b D=A++(Y++D):=by
 subst e;subst h
 unfold C3
 rw[List.take_left,List.drop_append,List.drop_eq_nil_of_le (by omega:A.length<=A.length+Y.length),List.nil_append,Nat.add_sub_cancel_left,<-List.append_assoc A,List.take_append_of_le_length (by simp),List.take_of_length_le (by simp),List.drop_eq_nil_of_le (by simp;omega)]
 simp
theorem AT6{A Z Y D:List Value}{a b:Nat}(e:A.length=a)(h:b=a+Y.length)(l:Z.length=Y.length):C3 (C3 (A++D++Z) b D) a Y=A++(Y++D):=by
 subst e;subst h
 unfold C3
 have h1:(A++D++Z).drop (A.length+Y.length+D.length)=[]:=List.drop_eq_nil_of_le (by simp;omega)
 have i:(A++D++Z).take (A.length+Y.length)=A++(D++Z).take Y.length:=by
  rw[List.append_assoc,List.take_append,List.take_of_length_le (by omega:A.length<=A.length+Y.length),Nat.add_sub_cancel_left]
 rw[h1,i,List.append_nil]
 have j:((D++Z).take Y.length).length=Y.length:=by simp;omega
 have k:(A++(D++Z).take Y.length).length=A.length+Y.length:=by rw[List.length_append,j]
 rw[List.append_assoc A ((D++Z).take Y.length) D,List.take_left,<-List.append_assoc A ((D++Z).take Y.length) D,<-k,List.drop_left,List.append_assoc]
theorem AT7{w0 wv:World}{M0 M:Mem}{Rs:List HO}{g n c y s:Nat}{xs ys:List Value}{i:Nat}(hS:St w0 M0 wv M (SN g n c xs::SN y 1 s ys::Rs))(hi:i<=n)(hb:n<=1099511627)(F: ∀u∈xs,u.oneCell'=true)(z: ∀u∈ys,u.oneCell'=true):
    Calls prog 136 [FK g 0 n c,.int .i64 i,FK y 0 1 s].toArray wv (BJ w0 M0 M Rs (λ v:Value=>v) (λ _=>True) (λ _=>[]) λ v=>[.priv 52 11 v (n+1) (xs.take (i*11)++(ys++xs.drop (i*11)))]):=by
 obtain⟨_,_,l,hnc,hcm⟩:=hS.rowAt (i:=0) rfl
 obtain⟨_,_,G,hvc,_⟩:=hS.rowAt (i:=1) rfl
 have hml:maxLen=9223372036854775807:=rfl
 refine AJ (Hr:=Rs) AG func136 U ntmps136 [] [(0,.ho (SN g n c xs)),(1,.ho (SN y 1 s ys))] [.v (FK g 0 n c),.v (.int .i64 i),.v (FK y 0 1 s)] U hS A4 (λ B Q=>AU (W:=.t) (.v (OO g n c 11 i)) U U (λ w M k=>EG i U U underlying25 sizeOf52 hi U U) <|AU (W:=.t) (I 1) U U (λ w M k=>OP (n:=1) U underlying24) ?_) U
 refine A1 U (λ H=>?_) (λ H=>?_)<;>simp only[zb]at H
 ·omega
 refine AU (W:=.t) (I n) U U (λ w M k=>OP U underlying25) ?_
 refine A1 U (λ J=>?_) (λ J=>?_)<;>simp only[zb]at J
 ·have R:i=n:=by omega
  subst R
  refine AK7 0 1 U U U U underlying25 sizeOf52 underlying24 type52 U U z Aa (by show(i+1)*120<=_;omega) λ v'=>A2 Q U U U λ w M' k=>⟨v',M',rfl,trivial,k.le,?_,A4⟩
  rw[<-l,List.take_length,List.drop_length,List.append_nil]
  exact k.st.drop _ (((List.Sublist.refl _).cons _).cons_cons _)
 refine AU (W:=.t) (I c) U U (λ w M k=>AK4 U underlying25) ?_
 refine A1 U (λ K=>?_) (λ K=>?_)<;>simp only[zb]at K
 ·refine AU (W:=.t) (.v (FK g 0 i c)) U U (λ w M k=>Y6 i U U underlying25 sizeOf52 Aa U) <|AK6 0 2 (q:=n+1-i) U U Aa U underlying25 underlying3 type52 U U hi Aa Aa Aa (by show(i+(n+1-i))*120<=_;omega) λ O P zs hz hc'=>?_
  have S:(xs.drop (i*11)).length=(n-i)*11:=by rw[List.length_drop,l];omega
  have T:(xs.take (i*11)).length=i*11:=by rw[List.length_take,l];omega
  have C:Nat.min 1 (i+(n+1-i)-i)=1:=Nat.min_eq_left Aa
  have E:Nat.min (n-i) (i+(n+1-i)-(i+1))=n-i:=Nat.min_eq_left Aa
  refine AU (W:=.t) (.v (FK O (i*11) (i+(n+1-i)-i) (P-i))) U U (λ w M k=>EG i U U underlying25 sizeOf52 Aa U (QA Aa).symm) <|Y7 2 (i*11) (cs:=ys) U U U underlying25 sizeOf52 (by rw[C];exact G) (λ w M k j u hu=>SA k (kk:=1) (o:=0) U hu) (by rw[List.length_append];omega) z <|Y8 8 U BM Ac <|OQ (W:=.t) (.v (FK O ((i+1)*11) (i+(n+1-i)-(i+1)) (P-(i+1)))) U U (λ w M k=>EG (i+1) U U underlying25 sizeOf52 Aa Aa (QA Aa).symm) <|OQ (W:=.t) (.v (FK g (i*11) (n-i) (c-i))) U U (λ w M k=>EG i U U underlying25 sizeOf52 hi U (QA Aa).symm) <|Y9 (λ _ _ _ _ _ h=>h) U <|Y7 2 ((i+1)*11) (cs:=xs.drop (i*11)) U U U underlying25 sizeOf52 (by rw[E];exact S) (λ w M k j u hu=>SA k (kk:=0) (o:=i*11) U hu) (by rw[oU (by rw[List.length_append];omega),List.length_append];omega) (λ u hu=>F u (List.mem_of_mem_drop hu)) <|A2 Q U U U λ w M' k=>⟨FK O 0 (i+(n+1-i)) P,M',rfl,trivial,k.le,?_,A4⟩
  have e1:i+(n+1-i)=n+1:=by omega
  have L:St w0 M0 w M' ([.priv 52 11 (FK O 0 (i+(n+1-i)) P) (i+(n+1-i)) (C3 (C3 (xs.take (i*11)++zs) (i*11) ys) ((i+1)*11) (xs.drop (i*11)))]++Rs):=k.st.drop _ ((((List.Sublist.refl _).cons _).cons _).cons_cons _)
  rw[AT5 T Aa Aa]at L
  simpa only[e1]using L
 ·refine AK5 0 1 U Aa λ zs hz=>AU (W:=.t) (.v (FK g 0 (n+1) c)) U U (λ w M k=>Y6 (n+1) U U underlying25 sizeOf52 Aa Aa) <|AU (W:=.t) (.v (FK g ((i+1)*11) (n+1-(i+1)) (c-(i+1)))) U U (λ w M k=>EG (i+1) U U underlying25 sizeOf52 Aa Aa (QA Aa).symm) ?_
  have S:(xs.drop (i*11)).length=(n-i)*11:=by rw[List.length_drop,l];omega
  have T:(xs.take (i*11)).length=i*11:=by rw[List.length_take,l];omega
  have C:Nat.min 1 (n+1-i)=1:=Nat.min_eq_left Aa
  have E:Nat.min (n+1-i) (n+1-(i+1))=n-i:=(Nat.min_eq_right Aa).trans Aa
  have V: ∀(j:Nat) (u:Value),(xs.drop (i*11))[j]? =some u->((xs++zs).drop (i*11))[j]? =some u:=λ j u hu=>by
   rw[List.drop_append_of_le_length Aa,List.getElem?_append_left (List.getElem?_eq_some_iff.1 hu).1];exact hu
  have X: ∀w M,St w0 M0 w M (SN g (n+1) c (xs++zs)::SN y 1 s ys::Rs)->(callFunc 168 [FK y 0 1 s,FK g ((i+1)*11) (n+1-(i+1)) (c-(i+1))].toArray).run prog w= .ok (.value (.bool false)) w:=λ w M k=>by
   rw[run_callFunc_extern func168 Ai Ai Ai (e:=Extern.SlicesOverlaps.overlaps #[24,24] #[4]) Ai]
   have h1:=k.AK3 (i:=0) (j:=1) (tR:=4) (o2:=0) (o:=(i+1)*11) (la:=1) (ca:=s) (lb:=n+1-(i+1)) (cb:=c-(i+1)) U U Aa Aa underlying24 sizeOf52
   rw[show([FK y 0 1 s,FK g ((i+1)*11) (n+1-(i+1)) (c-(i+1))].toArray)= #[FK y 0 1 s,FK g ((i+1)*11) (n+1-(i+1)) (c-(i+1))]from rfl,h1];rfl
  refine AU (W:=.t) (.v (.bool false)) rfl rfl (λ w M k=>PV.ext (M8 rfl (AF rfl)) (λ _ w' hw=>by cases hw;exact X _ M k.st)) <|A1 U (λ N=>?_) (λ N=>?_)
  ·refine Y8 8 U BM Ac <|OQ (W:=.t) (.v (FK g ((i+1)*11) (n+1-(i+1)) (c-(i+1)))) U U (λ w M k=>EG (i+1) U U underlying25 sizeOf52 Aa Aa (QA Aa).symm) <|OQ (W:=.t) (.v (FK g (i*11) (n+1-i) (c-i))) U U (λ w M k=>EG i U U underlying25 sizeOf52 Aa U (QA Aa).symm) <|Y9 (λ _ _ _ _ _ h=>h) U <|Y7 0 ((i+1)*11) (cs:=xs.drop (i*11)) U U U underlying25 sizeOf52 (by rw[E];exact S) (λ w M k j u hu=>SA k (kk:=0) (o:=i*11) U (V j u hu)) (by rw[List.length_append];omega) (λ u hu=>F u (List.mem_of_mem_drop hu)) <|AU (W:=.t) (.v (FK g (i*11) (n+1-i) (c-i))) U U (λ w M k=>EG i U U underlying25 sizeOf52 Aa U (QA Aa).symm) <|Y7 0 (i*11) (cs:=ys) U U U underlying25 sizeOf52 (by rw[C];exact G) (λ w M k j u hu=>SA k (kk:=1) (o:=0) U hu) (by rw[oU (by rw[List.length_append];omega),List.length_append];omega) z <|A2 Q U U U λ w M' k=>⟨FK g 0 (n+1) c,M',rfl,trivial,k.le,?_,A4⟩
   have L:St w0 M0 w M' ([.priv 52 11 (FK g 0 (n+1) c) (n+1) (C3 (C3 (xs++zs) ((i+1)*11) (xs.drop (i*11))) (i*11) ys)]++Rs):=k.st.drop _ (((List.Sublist.refl _).cons _).cons_cons _)
   have h3:=AT6 (A:=xs.take (i*11)) (D:=xs.drop (i*11)) (Z:=zs) (Y:=ys) (b:=(i+1)*11) T Aa Aa
   rw[List.take_append_drop]at h3
   rw[h3]at L
   exact L
  ·cases N
theorem oV: ∀(l:Fl) (i:Nat),(l.flatMap Tm.cells).take (i*11)=(l.take i).flatMap Tm.cells
 |[],i=>by simp
 |x::l,0=>by simp
 |x::l,i+1=>by
  rw[List.take_succ_cons,List.flatMap_cons,List.flatMap_cons,<-oV l i,List.take_append,Tm.AT,List.take_of_length_le (by rw[Tm.AT];omega),show(i+1)*11-11=i*11 by omega]
theorem oW: ∀(l:Fl) (i:Nat),(l.flatMap Tm.cells).drop (i*11)=(l.drop i).flatMap Tm.cells
 |[],i=>by simp
 |x::l,0=>by simp
 |x::l,i+1=>by
  rw[List.drop_succ_cons,List.flatMap_cons,<-oW l i,List.drop_append,Tm.AT,List.drop_eq_nil_of_le (by rw[Tm.AT];omega),List.nil_append,show(i+1)*11-11=i*11 by omega]
theorem AT8{w0 j:World}{M0 M:Mem}{Rs:List HO}{v n:Value}{l:Fl}{y:Tm}{i:Int}(hS:St w0 M0 j M (IU v l::IU n [y]::Rs))(h0:l≠[])(hi:0<=i/\i<=len l)(q:len l<=1099511627):
   Calls prog 136 [v,i64 i,n].toArray j (BJ w0 M0 M Rs (λ v:Value=>v) (λ _=>True) (λ _=>[]) λ v=>[IU v (l.take i.toNat++y::l.drop i.toNat)]):=by
 have h1:=(hS.obj (i:=0) U).1.2
 have b:=(hS.obj (i:=1) U).1.2
 have hp:=List.length_pos_iff.2 h0
 unfold len at hi q
 rcases h1 with⟨_,h1⟩|⟨g,c,_,rfl,_⟩
 ·omega
 rcases b with⟨_,b⟩|⟨w,z,_,rfl,_⟩
 ·cases b
 obtain⟨k,rfl⟩: ∃k:Nat,i=k:=⟨i.toNat,Aa⟩
 have:=AT7 (i:=k) hS Aa Aa (λ u hu=>by obtain⟨x,_,hx⟩:=List.mem_flatMap.1 hu;exact Tm.cells_one x u hx) (λ u hu=>by obtain⟨x,_,hx⟩:=List.mem_flatMap.1 hu;exact Tm.cells_one x u hx)
 refine this.mono λ e w' h=>?_
 rw[oV,oW]at h
 have s:(l.take k).flatMap Tm.cells++([y].flatMap Tm.cells++(l.drop k).flatMap Tm.cells)=(l.take k++y::l.drop k).flatMap Tm.cells:=by simp
 have e2:l.length+1=(l.take k++y::l.drop k).length:=by simp;omega
 rw[s]at h
 rw[Int.toNat_natCast]
 simpa only[IU,e2]using h
end Go.Proofs.YtnoegalemkbbbaaGreatDoor
namespace Go.Eng
open Go.RowKit
theorem IV{u v:A0}{j:Int}(h0:0<=j)(h:j<len u):A3 (u++v) j=A3 u j:=by
 unfold len at h
 unfold A3
 rw[List.getD_eq_getElem?_getD,List.getD_eq_getElem?_getD,List.getElem?_append_left Aa]
theorem YO{u v:A0}{k:Int}(h0:0<=k):A3 (u++v) (len u+k)=A3 v k:=by
 unfold A3 len
 rw[List.getD_eq_getElem?_getD,List.getD_eq_getElem?_getD,List.getElem?_append_right Aa,show((u.length:Int)+k).toNat-u.length=k.toNat from by omega]
theorem oX{u v:A0}{k:Int}(h0:len u<=k):A3 (u++v) k=A3 v (k-len u):=by
 have:=YO (u:=u) (v:=v) (k:=k-len u) Aa
 rw[<-this];congr 1;omega
theorem G7(a:UInt8)(l:A0):A3 (a::l) 0=(a.toNat:Int):=rfl
theorem VD{u v:A0}:A5 (u++v) (len u)=v:=by unfold A5 len;simp
theorem AT9{u v:A0}{k:Int}(h0:0<=k)(h:k<=len u):A5 (u++v) k=A5 u k++v:=by
 unfold A5 len at*
 rw[List.drop_append_of_le_length Aa]
theorem QF{α:Type}(s:List α):A5 s 0=s:=rfl
theorem VE{u v:A0}:Eng.sub (u++v) 0 (len u)=u:=by unfold Eng.sub len;simp
theorem eY{s:A0}{n:Int}(h0:0<=n)(h1:n<=len s):s=Eng.sub s 0 n++A5 s n/\len (Eng.sub s 0 n)=n:=by
 refine⟨?_,by rw[FG Aa h0 h1];omega⟩
 have:=SK s 0 n Aa h0
 rw[QF]at this;exact this
theorem AU0{a b:A0}(hl:len a=len b)(h: ∀j:Int,0<=j->j<len a->A3 a j=A3 b j):a=b:=by
 unfold len at hl
 refine List.ext_getElem Aa λ i h1 e=>?_
 have:=h (i:Int) Aa (by unfold len;omega)
 simp only[A3,Int.toNat_natCast,List.getD_eq_getElem?_getD,List.getElem?_eq_getElem h1,List.getElem?_eq_getElem e,Option.getD_some]at this
 exact UInt8.toNat_inj.1 Aa
theorem AU1{s s':A0}{i i' k:Int}(h0:0<=i)(e:0<=i')(n:0<=k)(h1:i+k<=len s)(l:i'+k<=len s')(h: ∀j,0<=j->j<k->A3 s' (i'+j)=A3 s (i+j)):Eng.sub s' i' (i'+k)=Eng.sub s i (i+k):=by
 have q:=FG (s:=s) (i:=i) (j:=i+k) h0 Aa h1
 have w:=FG (s:=s') (i:=i') (j:=i'+k) e Aa l
 refine AU0 Aa λ j a b=>?_
 rw[QC e a Aa l,QC h0 a Aa h1]
 exact h j a Aa
theorem oY{p:UInt8->Bool}: ∀ {l:A0},(∀b∈l,p b=true)->l.takeWhile p=l
 |[],_=>rfl
 |a::l,h=>by rw[List.takeWhile_cons,if_pos (h a (by simp)),oY (λ b e=>h b (by simp[e]))]
theorem YP{s s':A0}{i i':Int}(h0:0<=i)(b:0<=i')(h1:1<=rune s i)(hl:i<len s)(M:i'+rune s i<=len s')(h: ∀j,0<=j->j<rune s i->A3 s' (i'+j)=A3 s (i+j)):
  rune s' i'=rune s i/\B2 s' i'=B2 s i/\runeLen s' i'=runeLen s i:=by
 have Q:=LX s i
 have hle:=rune_le s i hl
 have a0:A3 s' i'=A3 s i:=by have:=h 0 Aa Aa;rwa [Int.add_zero,Int.add_zero]at this
 have z:2<=rune s i->A3 s' (i'+1)=A3 s (i+1):=λ x=>h 1 Aa Aa
 have a2:3<=rune s i->A3 s' (i'+2)=A3 s (i+2):=λ x=>h 2 Aa Aa
 have a3:4<=rune s i->A3 s' (i'+3)=A3 s (i+3):=λ x=>h 3 Aa Aa
 have er:rune s' i'=rune s i:=by
  clear h
  generalize hk:rune s i=k at*
  unfold rune cont at hk ⊢
  dsimp only at hk ⊢
  rw[a0]
  simp only[Bool.and_eq_true,Bool.or_eq_true,decide_eq_true_eq,beq_iff_eq]at hk ⊢
  split at hk
  ·rw[if_pos (by assumption)];exact hk
  rename_i c0
  rw[if_neg c0]
  split at hk
  ·rename_i N
   subst hk
   have:=z Aa
   rw[if_pos Aa]
  rename_i N
  split at hk
  ·rename_i c2
   have O:k=3:=by split at hk<;>omega
   have A:=z Aa
   have e2:=a2 Aa
   rw[if_neg Aa,if_pos Aa,A]
   exact hk
  rename_i c2
  split at hk
  ·rename_i c3
   have P:k=4:=by split at hk<;>omega
   have A:=z Aa
   have e2:=a2 Aa
   have e3:=a3 Aa
   rw[if_neg Aa,if_neg Aa,if_pos Aa,A]
   exact hk
  ·omega
 refine⟨er,?_⟩
 have B:i'<len s':=by omega
 have D:=dS (s.length-i.toNat) (s.getD i.toNat 0).toNat (s.getD (i.toNat+1) 0).toNat (s.getD (i.toNat+2) 0).toNat (s.getD (i.toNat+3) 0).toNat (by unfold len at*;omega) (UInt8.toNat_lt _) (UInt8.toNat_lt _) (UInt8.toNat_lt _) (UInt8.toNat_lt _)
 have e:=dS (s'.length-i'.toNat) (s'.getD i'.toNat 0).toNat (s'.getD (i'.toNat+1) 0).toNat (s'.getD (i'.toNat+2) 0).toNat (s'.getD (i'.toNat+3) 0).toNat (by unfold len at*;omega) (UInt8.toNat_lt _) (UInt8.toNat_lt _) (UInt8.toNat_lt _) (UInt8.toNat_lt _)
 have r1:=dU h0 hl
 have R:=dU b B
 have q: ∀(t:A0) (x:Int),0<=x->B2 t x=((Lib.decodeN (t.length-x.toNat) (t.getD x.toNat 0).toNat (t.getD (x.toNat+1) 0).toNat (t.getD (x.toNat+2) 0).toNat (t.getD (x.toNat+3) 0).toNat).1:Nat)/\runeLen t x=((Lib.decodeN (t.length-x.toNat) (t.getD x.toNat 0).toNat (t.getD (x.toNat+1) 0).toNat (t.getD (x.toNat+2) 0).toNat (t.getD (x.toNat+3) 0).toNat).2:Nat):=λ t x hx=>by
  unfold B2 runeLen;rw[S4 t x hx,XX t x hx];exact⟨rfl,rfl⟩
 obtain⟨E,F⟩:=q s i h0
 obtain⟨G,H⟩:=q s' i' b
 rw[E,F,G,H]
 have C: ∀(t:A0) (x:Int),0<=x->A3 t x=((t.getD x.toNat 0).toNat:Int):=λ t x hx=>rfl
 have l:=λ(t:A0) (x:Int) (hx:0<=x) (j:Nat)=>XW t x hx j
 rw[C s i h0,C s' i' b]at a0
 have J:A3 s (i+1)=_:=l s i h0 1
 have K:A3 s (i+2)=_:=l s i h0 2
 have L:A3 s (i+3)=_:=l s i h0 3
 have n:A3 s' (i'+1)=_:=l s' i' b 1
 have w:A3 s' (i'+2)=_:=l s' i' b 2
 have y:A3 s' (i'+3)=_:=l s' i' b 3
 rw[J,n]at z
 rw[K,w]at a2
 rw[L,y]at a3
 unfold dR at D e
 generalize (s.getD i.toNat 0).toNat=x0 at*
 generalize (s.getD (i.toNat+1) 0).toNat=x1 at*
 generalize (s.getD (i.toNat+2) 0).toNat=x2 at*
 generalize (s.getD (i.toNat+3) 0).toNat=x3 at*
 generalize (s'.getD i'.toNat 0).toNat=y0 at*
 generalize (s'.getD (i'.toNat+1) 0).toNat=y1 at*
 generalize (s'.getD (i'.toNat+2) 0).toNat=y2 at*
 generalize (s'.getD (i'.toNat+3) 0).toNat=y3 at*
 generalize Q6 (s.length-i.toNat) x0 x1 x2 x3=k at*
 generalize Q6 (s'.length-i'.toNat) y0 y1 y2 y3=k' at*
 generalize Lib.decodeN (s.length-i.toNat) x0 x1 x2 x3=d at*
 generalize Lib.decodeN (s'.length-i'.toNat) y0 y1 y2 y3=d' at*
 obtain⟨d1,d2⟩:=d
 obtain⟨A,e2⟩:=d'
 clear E F G H q C l J K L n w y h
 dsimp only at*
 rcases D with D|D|D|D|D<;>rcases e with e|e|e|e|e<;>first|(exfalso;omega)|(constructor<;>omega)
theorem eZ{s s':A0}(hl:6<=len s')(h: ∀j,0<=j->j<6->A3 s' j=A3 s j)(h0:0<=C4 s):C4 s'=C4 s:=by
 by_cases hs:len s<6\/ ¬A3 s 0=92\/ ¬A3 s (0+1)=117
 ·have:=o8 (s:=s) (i:=0) Aa Aa
  rw[QF]at this;omega
 ·have e:=YH (s:=s) (i:=0) Aa Aa Aa Aa
  have e2:=YH (s:=s') (i:=0) Aa Aa (by rw[h 0 Aa Aa];omega) (by rw[h (0+1) Aa Aa];omega)
  rw[QF]at e e2
  have e3:Eng.sub s' (0+2) (0+6)=Eng.sub s (0+2) (0+6):=AU1 (k:=4) Aa Aa Aa Aa Aa (λ j a b=>h _ Aa Aa)
  rw[e,e2,e3]
theorem oZ{s s':A0}(h0:(C0 s).2≠0)(hl:(C0 s).2<=len s')(h: ∀j,0<=j->j<(C0 s).2->A3 s' j=A3 s j):C0 s'=C0 s:=by
 generalize hk:(C0 s).2=k at*
 unfold C0 at hk ⊢
 by_cases c1:len s<2
 ·rw[if_pos c1]at hk;exact absurd hk.symm h0
 rw[if_neg c1]at hk ⊢
 by_cases c2:KY (A3 s 1)=true
 ·rw[if_pos c2]at hk ⊢
  have i:k=2:=hk.symm
  rw[if_neg Aa,h 1 Aa Aa,if_pos c2]
 rw[if_neg c2]at hk ⊢
 by_cases c3:C4 s<0\/(56320<=C4 s/\C4 s<57344)
 ·rw[if_pos c3]at hk;exact absurd hk.symm h0
 rw[if_neg c3]at hk ⊢
 by_cases c4:C4 s<55296\/57344<=C4 s
 ·rw[if_pos c4]at hk ⊢
  have i:k=6:=hk.symm
  have e:=eZ (s:=s) (s':=s') Aa (λ j a b=>h j a Aa) Aa
  rw[if_neg Aa,h 1 Aa Aa,if_neg c2,e,if_neg c3,if_pos c4]
 rw[if_neg c4]at hk ⊢
 by_cases c5:C4 (A5 s 6)<56320\/57344<=C4 (A5 s 6)
 ·rw[if_pos c5]at hk;exact absurd hk.symm h0
 rw[if_neg c5]at hk ⊢
 have i:k=12:=hk.symm
 have e:=eZ (s:=s) (s':=s') Aa (λ j a b=>h j a Aa) Aa
 have e2:=eZ (s:=A5 s 6) (s':=A5 s' 6) (by rw[EH s' 6 Aa Aa];omega) (λ j a b=>by rw[OK _ _ _ Aa a,OK _ _ _ Aa a];exact h _ Aa Aa) Aa
 rw[if_neg Aa,h 1 Aa Aa,if_neg c2,e,if_neg c3,if_neg c4,e2,if_neg c5]
theorem fA{s s':A0}{n:Int}(l:n<=len s')(q: ∀j,0<=j->j<n->A3 s' j=A3 s j): ∀(f w:Nat) (i:Int) (acc:List Int) (x:A0),0<=i->i<=len s->DV f s i acc=(x,n,0)->(len s'-i).toNat<=w->DV w s' i acc=(x,n,0)
 |0,_,_,_,_,_,_,h,_=>by unfold DV at h;simp at h
 |f+1,w,i,acc,x,h0,hi,h,E=>by
  have z:=Y3 (f:=f+1) (s:=s) (i:=i) (acc:=acc) h0 hi
  rw[h]at z
  dsimp only at z
  have A:i<n:=z.2.2.1 U
  have hl:i<len s:=by omega
  have y:i<len s':=by omega
  rw[S3 E y]
  unfold DV at h
  rw[if_pos hl]at h
  have B:A3 s' i=A3 s i:=q i h0 A
  rw[S5 s i h0,Q7 s i h0]at h
  rw[S5 s' i h0,Q7 s' i h0]
  have low: ∀c:Int,c<128->(B2 s' i=c↔B2 s i=c):=λ c C=>by rw[JK h0 hl C,JK h0 y C,B]
  by_cases c1:B2 s i=34
  ·rw[if_pos c1]at h;rw[if_pos ((low 34 Aa).2 c1)];exact h
  rw[if_neg c1]at h
  rw[if_neg (λ e=>c1 ((low 34 Aa).1 e))]
  by_cases c2:B2 s i=92
  ·rw[if_pos c2]at h;rw[if_pos ((low 92 Aa).2 c2)]
   by_cases c3:(C0 (A5 s i)).2=0
   ·rw[if_pos c3]at h;simp at h
   rw[if_neg c3]at h
   have F:=EH s i h0 hi
   have D:=EH s' i h0 Aa
   have he:=Y2 (A5 s i)
   have k:=Y3 (f:=f) (s:=s) (i:=i+(C0 (A5 s i)).2) (acc:=acc++Lib.encodeRuneZ (C0 (A5 s i)).1) Aa Aa
   rw[h]at k
   dsimp only at k
   have:=k.2.2.1 U
   have e:C0 (A5 s' i)=C0 (A5 s i):=oZ c3 Aa (λ j a b=>by rw[OK _ _ _ h0 a,OK _ _ _ h0 a];exact q _ Aa Aa)
   rw[e,if_neg c3]
   exact fA l q f (w-1) _ _ x Aa Aa h Aa
  ·rw[if_neg c2]at h
   rw[if_neg (λ e=>c2 ((low 92 Aa).1 e))]
   by_cases c3:B2 s i<32\/(B2 s i=65533/\runeLen s i=1)
   ·rw[if_pos c3]at h;simp at h
   rw[if_neg c3]at h
   have J:=dX h0 hl
   have K:rune s i≠0:=λ e=>c3 (.inr ((YG h0 hl).1 e))
   have G:=LX s i
   have H:runeLen s i=rune s i:=by rcases ME h0 hl with d|d<;>omega
   have k:=Y3 (f:=f) (s:=s) (i:=i+runeLen s i) (acc:=acc++Lib.encodeRuneZ (B2 s i)) Aa Aa
   rw[h]at k
   dsimp only at k
   have:=k.2.2.1 U
   obtain⟨_,e2,e3⟩:=YP (s:=s) (s':=s') (i:=i) (i':=i) h0 h0 Aa hl Aa (λ j a b=>q _ Aa Aa)
   rw[e2,e3,if_neg c3]
   exact fA l q f (w-1) _ _ x Aa Aa h Aa
theorem pA{u v v':A0}{x:A0}(h:B4 (u++v)=(x,len u,0)):B4 (u++v')=(x,len u,0):=by
 have i:=OL (u++v)
 rw[h]at i
 dsimp only at i
 have s:2<=len u:=i.2.2.1 U
 have l: ∀j,0<=j->j<len u->A3 (u++v') j=A3 (u++v) j:=λ j a b=>by rw[IV a b,IV a b]
 have y:=AQ u v
 have q:=AQ u v'
 have p1:=A9 v
 have p2:=A9 v'
 have k: ∀w:A0,¬u++w=[]:=λ w e=>by have:=congrArg len e;rw[AQ,len_nil]at this;have:=A9 w;omega
 unfold B4 at h ⊢
 by_cases c:Lib.hasPrefix (u++v) [34]=true
 ·rw[if_pos c]at h
  rw[if_pos (MK.2 ⟨k v',by rw[l 0 Aa Aa];exact(MK.1 c).2⟩)]
  exact fA (n:=len u) Aa l _ _ 1 [] x Aa Aa h (by unfold len;omega)
 ·rw[if_neg c]at h;simp at h
def KJ(c:Int):Bool:=O8 c||c==40||c==41||c==44||c==58||c==91||c==93||c==125
def Stop(v v':A0):Prop:=v'=[]\/(v'≠[]/\KJ (A3 v' 0)=true)\/(v≠[]/\v'≠[]/\A3 v' 0=A3 v 0)
theorem L6{α:Type}{l:List α}:l≠[]↔0<len l:=⟨λ h=>HS h,λ h e=>by rw[e,len_nil]at h;omega⟩
theorem SO{s:A0}{n:Int}(k:n<=len s)(b: ∀j:Int,0<=j->j<n->CP (A3 s j) (j==0)=true)(hs:n<len s->CP (A3 s n) (n==0)=false)(i:Int)(h0:0<=i)(hi:i<=n):D4 s i=n:=by
 by_cases h:i<n
 ·rw[<-TW h0 Aa (b i h0 h)]
  exact SO k b hs (i+1) Aa Aa
 ·have e:i=n:=by omega
  subst e
  by_cases hl:i<len s
  ·exact TX h0 hl (hs hl)
  ·exact TY hl
termination_by (n-i).toNat
theorem YQ{s:A0}: ∀(i:Int),0<=i->(∀j:Int,i<=j->j<D4 s i->CP (A3 s j) (j==0)=true)/\(i<=len s->D4 s i<len s->CP (A3 s (D4 s i)) (D4 s i==0)=false):=by
 intro i h0
 by_cases hlt:i<len s
 ·cases hw:CP (A3 s i) (i==0)with
  |true=>
   have:=YQ (s:=s) (i+1) Aa
   rw[TW h0 hlt hw]at this
   refine⟨λ j a b=>?_,λ a b=>this.2 Aa b⟩
   by_cases e:j=i
   ·subst e;exact hw
   ·exact this.1 j Aa b
  |false=>rw[TX h0 hlt hw];exact⟨λ j a b=>by omega,λ _ _=>hw⟩
 ·rw[TY hlt];exact⟨λ j a b=>by omega,λ a b=>by omega⟩
termination_by i=>(len s-i).toNat
theorem pB{c:Int}{f:Bool}(h:KJ c=true):CP c f=false:=by
 unfold KJ O8 at h
 unfold CP F3 CD
 simp only[Bool.or_eq_true,beq_iff_eq]at h
 rw[<-Bool.not_eq_true]
 simp only[Bool.or_eq_true,Bool.and_eq_true,decide_eq_true_eq,beq_iff_eq]
 omega
theorem fB{u v v':A0}(h:BE (u++v)=u)(l:Stop v v'):BE (u++v')=u:=by
 have hl:D4 (u++v) 0=len u:=by rw[<-MG,h]
 have ho:=YQ (s:=u++v) 0 Aa
 rw[hl]at ho
 have z:=AQ u v
 have y:=AQ u v'
 have p1:=A9 u
 have p2:=A9 v'
 have A:=MF (s:=u++v) (i:=0) Aa (A9 _)
 have e:D4 (u++v') 0=len u:=by
  refine SO Aa (λ j a b=>?_) (λ a=>?_) 0 Aa Aa
  ·rw[IV a b,<-IV (v:=v) a b];exact ho.1 j a b
  ·have e0: ∀w:A0,A3 (u++w) (len u)=A3 w 0:=λ w=>by have:=YO (u:=u) (v:=w) (k:=0) Aa;rwa [Int.add_zero]at this
   rw[e0]
   rcases l with l|⟨_,l⟩|⟨n,_,q⟩
   ·subst l;rw[len_nil]at y;omega
   ·exact pB l
   ·rw[q,<-e0 v];exact ho.2 Aa (by have:=L6.1 n;omega)
 unfold BE;rw[e,VE]
theorem L7{s:A0}(h:F3 (A3 s 0)=false):BE s=[]:=by
 have e:D4 s 0=0:=by
  by_cases hl:0<len s
  ·exact TX Aa hl (by unfold CP;rw[h];rfl)
  ·exact TY hl
 unfold BE;rw[e];rfl
theorem AU2{s:A0}(h0:0<len s)(h:F3 (A3 s 0)=true):BE s≠[]:=by
 have e:=TW (s:=s) (i:=0) Aa h0 (by unfold CP;rw[h];rfl)
 have b:=MF (s:=s) (i:=0+1) Aa Aa
 rw[L6,MG];omega
theorem pC{p:UInt8->Bool}{v v':A0}(e:v'=[]\/(∃b r,v'=b::r/\p b=false)): ∀ {u:A0},(u++v).takeWhile p=u->(u++v').takeWhile p=u
 |[],_=>by
  rcases e with rfl|⟨b,r,rfl,i⟩
  ·rfl
  ·simp[List.takeWhile_cons,i]
 |a::u,h=>by
  rw[List.cons_append,List.takeWhile_cons]at h ⊢
  split at h
  ·rename_i j
   rw[if_pos j,pC e (List.cons.inj h).2]
  ·cases h
theorem AU3{b:UInt8}(h:KJ (b.toNat:Int)=true):IS b=false:=by
 cases hn:IS b with
 |false=>rfl
 |true=>
  rw[eO]at hn
  unfold KJ O8 at h
  simp only[Bool.or_eq_true,beq_iff_eq]at h
  omega
theorem AU4{p:UInt8->Bool}(hp: ∀b:UInt8,KJ (b.toNat:Int)=true->p b=false){v v':A0}(e:Stop v v')(h:v=[]\/ ∃b r,v=b::r/\p b=false):v'=[]\/ ∃b r,v'=b::r/\p b=false:=by
 cases v' with
 |nil=>exact .inl U
 |cons b r=>
  refine .inr ⟨b,r,rfl,?_⟩
  rcases e with e|⟨_,e⟩|⟨i,_,j⟩
  ·cases e
  ·exact hp b e
  ·rcases h with h|⟨c,q,h,k⟩
   ·exact absurd h i
   ·subst h
    have:b=c:=UInt8.toNat_inj.1 (by rw[G7,G7]at j;omega)
    rw[this];exact k
theorem pD{p:UInt8->Bool}{v:A0}: ∀ {u:A0},(u++v).takeWhile p=u->v=[]\/ ∃b r,v=b::r/\p b=false
 |[],h=>by
  cases v with
  |nil=>exact .inl U
  |cons b r=>
   refine .inr ⟨b,r,rfl,?_⟩
   rw[List.nil_append,List.takeWhile_cons]at h
   split at h
   ·cases h
   ·rename_i e;simpa using e
 |a::u,h=>by
  rw[List.cons_append,List.takeWhile_cons]at h
  split at h
  ·exact pD (List.cons.inj h).2
  ·cases h
theorem pE{u v v':A0}(h:runN (u++v)=u)(e:Stop v v'):runN (u++v')=u:=by
 rw[XZ]at h ⊢
 exact pC (AU4 (λ b=>AU3) e (pD h)) h
def QH(b:UInt8):Bool:=([61,33,60,62,46,124,44,58,40,41,91,93,123,125,63]:A0).contains b
theorem QI{a:UInt8}{s:A0}(h:QH a=false):EP (a::s)=[]:=by
 have i: ∀m∈GG,Lib.hasPrefix (a::s) m=false:=by
  intro m hm
  cases hp:Lib.hasPrefix (a::s) m with
  |false=>rfl
  |true=>
   exfalso
   have j: ∀m∈GG,m≠[]/\QH (m.headD 0)=true:=by decide+kernel
   obtain⟨k,e⟩:=j m hm
   cases m with
   |nil=>exact k U
   |cons b r=>
   have e:QH b=true:=e
   have:=List.isPrefixOf_iff_prefix.1 hp
   rw[List.cons_prefix_cons]at this
   rw[<-this.1,e]at h;cases h
 unfold EP
 rw[List.find?_eq_none.2 (λ m hm=>by rw[i m hm];simp)]
 rfl
theorem AU5{u v v':A0}(hu:u≠[])(h:EP (u++v)=u)(i:Stop v v'):EP (u++v')=u:=by
  have hm:u∈GG:=by
                             rcases S6 (u++v)with e|e
                             · exact absurd (h.symm.trans e) hu
                             · rw[h]at e;exact e.1
  have two: ∀m∈GG,(∃a,m=[a,61])\/ ∃a,m=[a]:=by
    have s: ∀m∈GG,m=[m.headD 0,61]\/m=[m.headD 0]:=by decide+kernel
    intro m hm
    rcases s m hm with e|e
    · exact .inl ⟨_,e⟩
    · exact .inr ⟨_,e⟩
  have one: ∀m∈GG,∀w:A0,w=[]\/A3 w 0≠61\/(∃a,m=[a,61])\/(m≠[60]/\m≠[62])->EP (m++w)=m:=by
    intro m hm w hw
    simp only[GG,List.mem_cons,List.not_mem_nil,or_false]at hm
    cases w with
    |nil=>rcases hm with rfl|rfl|rfl|rfl|rfl|rfl|rfl|rfl|rfl|rfl|rfl|rfl|rfl|rfl|rfl|rfl|rfl<;>rfl
    |cons b r=>
      have j:b=61\/ ¬(61:UInt8)=b:=by by_cases e:b=61;exact .inl e;exact .inr (λ x=>e x.symm)
      have k:A3 (b::r) 0≠61-> ¬(61:UInt8)=b:=λ x e=>x (by rw[<-e];rfl)
      rcases hm with rfl|rfl|rfl|rfl|rfl|rfl|rfl|rfl|rfl|rfl|rfl|rfl|rfl|rfl|rfl|rfl|rfl<;>
        first
          |rfl
          |(
             have l: ¬(61:UInt8)=b:=by
               rcases hw with hw|hw|⟨a,hw⟩|hw
               · cases hw
               · exact k hw
               · simp at hw
               · simp at hw
             simp[EP,GG,List.find?,Lib.hasPrefix,List.isPrefixOf,(beq_eq_false_iff_ne.2 l)])
          |(
             rcases j with rfl|l
             · rfl
             · simp[EP,GG,List.find?,Lib.hasPrefix,List.isPrefixOf,(beq_eq_false_iff_ne.2 l)])
  refine one u hm v' ?_
  rcases two u hm with e|⟨a,e⟩
  ·exact .inr (.inr (.inl e))
  ·rcases i with i|⟨_,i⟩|⟨n,_,q⟩
   ·exact .inl i
   ·refine .inr (.inl λ x=>?_);rw[x]at i;exact absurd i Ab
   ·by_cases e2:u≠[60]/\u≠[62]
    ·exact .inr (.inr (.inr e2))
    ·refine .inr (.inl λ x=>?_)
     rw[q]at x
     cases v with
     |nil=>exact n U
     |cons b r=>
          have j:b=61:=UInt8.toNat_inj.1 (by rw[G7]at x;exact Int.ofNat_inj.1 x)
          subst j
          have:u=[60]\/u=[62]:=by
            by_cases e3:u=[60]
            · exact .inl e3
            · exact .inr (Classical.byContradiction λ e4=>e2 ⟨e3,e4⟩)
          rcases this with rfl|rfl
          · exact absurd h (show ¬([60,61]:A0)=[60] by decide)
          · exact absurd h (show ¬([62,61]:A0)=[62] by decide)
theorem fC{a:UInt8}(h:F3 (a.toNat:Int)=true):QH a=false:=by
 have: ∀n:Fin 256,F3 (n.val:Int)=true->QH (UInt8.ofNat n.val)=false:=by decide+kernel
 have:=this ⟨a.toNat,a.toNat_lt⟩ h
 simpa using this
theorem pF{a:UInt8}(h:(a.toNat:Int)=45\/CD (a.toNat:Int)=true):QH a=false/\F3 (a.toNat:Int)=false:=by
 have: ∀n:Fin 256,((n.val:Int)=45\/CD (n.val:Int)=true)->QH (UInt8.ofNat n.val)=false/\F3 (n.val:Int)=false:=by decide+kernel
 have:=this ⟨a.toNat,a.toNat_lt⟩ h
 simpa using this
theorem fD{c:Int}(h:KJ c=true):F3 c=false/\c≠34:=by
 unfold KJ O8 at h
 simp only[Bool.or_eq_true,beq_iff_eq]at h
 unfold F3
 rw[<-Bool.not_eq_true]
 simp only[Bool.or_eq_true,Bool.and_eq_true,decide_eq_true_eq,beq_iff_eq]
 omega
theorem VF(a:UInt8)(l:A0):A5 (a::l) 1=l:=rfl
theorem fE{u v v':A0}{t:Tk}(hu:u≠[])(h:C5 (u++v)=(t,len u,0))(i:Stop v v'):C5 (u++v')=(t,len u,0):=by
 cases u with
 |nil=>exact absurd U hu
 |cons a u=>
 have hp:=A9 u
 rw[AM]at h ⊢
 rw[List.cons_append]at h ⊢
 have j: ∀ {l m:A0},m≠[]->EP l=m-> ∃r,m++r=l:=λ{l m} hm e=>by
  rcases S6 l with e2|e2
  ·exact absurd (e.symm.trans e2) hm
  ·rw[e]at e2;exact List.isPrefixOf_iff_prefix.1 e2.2
 have cut: ∀ {l x:A0},x++[]++(A5 l (len x))=l->True:=λ _=>trivial
 unfold C5 at h ⊢
 rw[G7,VF]at h ⊢
 by_cases c1:(a.toNat:Int)=46/\BE (u++v)≠[]
 ·rw[if_pos c1]at h
  simp only[Prod.mk.injEq]at h
  obtain⟨h1,q,_⟩:=h
  have hl:len (BE (u++v))=len u:=by omega
  have hw:BE (u++v)=u:=by
   have:BE (u++v)=Eng.sub (u++v) 0 (D4 (u++v) 0):=rfl
   rw[this,<-MG,hl,VE]
  have w:=fB hw i
  rw[hw]at c1 h1
  rw[w,if_pos c1,h1,Int.add_comm]
 rw[if_neg c1]at h
 by_cases c2:(a.toNat:Int)=46/\Lib.hasPrefix (u++v) [34]=true
 ·rw[if_pos c2]at h
  simp only[Prod.mk.injEq]at h
  obtain⟨h1,q,K⟩:=h
  have L:B4 (u++v)=((B4 (u++v)).1,len u,0):=by
   rw[show(B4 (u++v))=((B4 (u++v)).1,(B4 (u++v)).2.1,(B4 (u++v)).2.2)from rfl,K,show(B4 (u++v)).2.1=len u from by omega]
  have y:=pA (v':=v') L
  have O:=OL (u++v)
  rw[K,show(B4 (u++v)).2.1=len u from by omega]at O
  have P:=O.2.2.1 U
  have k:=(MK.1 c2.2).2
  rw[IV Aa Aa]at k
  have z:A3 (u++v') 0=34:=by rw[IV Aa Aa];exact k
  have B:BE (u++v')=[]:=L7 (by rw[z];rfl)
  rw[if_neg (λ x=>x.2 B),if_pos ⟨c2.1,MK.2 ⟨λ e=>by have:=congrArg len e;rw[AQ,len_nil]at this;have:=A9 v';omega,z⟩⟩,y,<-h1]
  simp only[Prod.mk.injEq,true_and,and_true]
  omega
 rw[if_neg c2]at h
 by_cases c3:EP (a::(u++v))≠[]
 ·rw[if_pos c3]at h
  simp only[Prod.mk.injEq]at h
  obtain⟨h1,q,_⟩:=h
  obtain⟨r,A⟩:=j c3 rfl
  have hm:EP ((a::u)++v)=a::u:=by
   rw[List.cons_append]
   have hl:(EP (a::(u++v))).length=(a::u).length:=by rw[List.length_cons];unfold len at q;omega
   rw[<-List.cons_append]at A
   exact(List.append_inj A hl).1
  have G:=AU5 (by simp) hm i
  rw[List.cons_append]at hm G
  have Q: ¬((a.toNat:Int)=46/\BE (u++v')≠[]):=by
   rintro⟨H,hw⟩
   have C:u=[]:=by
    have D:a::u∈GG:=by
     rcases S6 (a::(u++v))with e|e
     ·exact absurd e c3
     ·rw[hm]at e;exact e.1
    have: ∀m∈GG,A3 m 0=46->A5 m 1=[]:=by decide+kernel
    exact this _ D H
   subst C
   rw[List.nil_append]at hw c1
   have M:BE v=[]:=Classical.byContradiction λ e=>c1 ⟨H,e⟩
   apply hw
   rcases i with i|⟨_,i⟩|⟨E,_,F⟩
   ·rw[i];exact L7 U
   ·exact L7 (fD i).1
   ·refine L7 ?_
    rw[F]
    cases hh:F3 (A3 v 0)with
    |false=>rfl
    |true=>exact absurd M (AU2 (L6.1 E) hh)
  have R: ¬((a.toNat:Int)=46/\Lib.hasPrefix (u++v') [34]=true):=by
   rintro⟨H,hw⟩
   have C:u=[]:=by
    have D:a::u∈GG:=by
     rcases S6 (a::(u++v))with e|e
     ·exact absurd e c3
     ·rw[hm]at e;exact e.1
    have: ∀m∈GG,A3 m 0=46->A5 m 1=[]:=by decide+kernel
    exact this _ D H
   subst C
   rw[List.nil_append]at hw c2
   have k:=MK.1 hw
   rcases i with i|⟨_,i⟩|⟨E,_,F⟩
   ·exact k.1 i
   ·exact(fD i).2 k.2
   ·exact c2 ⟨H,MK.2 ⟨E,by rw[<-F];exact k.2⟩⟩
  rw[if_neg Q,if_neg R,G,if_pos (by simp),<-h1,hm,AM]
 rw[if_neg c3]at h
 have S:EP (a::(u++v))=[]:=Classical.byContradiction c3
 by_cases c4:BE (a::(u++v))≠[]
 ·rw[if_pos c4]at h
  simp only[Prod.mk.injEq]at h
  obtain⟨h1,q,_⟩:=h
  have hw:BE ((a::u)++v)=a::u:=by
   have:BE ((a::u)++v)=Eng.sub ((a::u)++v) 0 (D4 ((a::u)++v) 0):=rfl
   rw[this,<-MG,List.cons_append,q,<-AM a,<-List.cons_append,VE]
  have w:=fB hw i
  rw[List.cons_append]at hw w
  have n:F3 (a.toNat:Int)=true:=by
   cases hh:F3 (a.toNat:Int)with
   |true=>rfl
   |false=>exact absurd (L7 (s:=a::(u++v)) hh) c4
  have b: ¬(a.toNat:Int)=46:=λ e=>by rw[e]at n;cases n
  rw[if_neg (λ x=>b x.1),if_neg (λ x=>b x.1),QI (fC n),if_neg (λ x=>x U),w,if_pos (by simp),<-h1,hw,AM]
 rw[if_neg c4]at h
 have T:BE (a::(u++v))=[]:=Classical.byContradiction c4
 by_cases c5:(a.toNat:Int)=34
 ·rw[if_pos c5]at h
  simp only[Prod.mk.injEq]at h
  obtain⟨h1,q,K⟩:=h
  have V:a=34:=UInt8.toNat_inj.1 (by show a.toNat=34;omega)
  subst V
  have L:B4 ((34::u)++v)=((B4 (34::(u++v))).1,len ((34:UInt8)::u),0):=by
   rw[List.cons_append,show(B4 (34::(u++v)))=((B4 (34::(u++v))).1,(B4 (34::(u++v))).2.1,(B4 (34::(u++v))).2.2)from rfl,K,q,AM]
  have y:=pA (v':=v') L
  rw[List.cons_append]at y
  have B:BE (34::(u++v'))=[]:=L7 U
  have N:EP (34::(u++v'))=[]:=QI U
  rw[if_neg (λ x=>absurd x.1 Ab),if_neg (λ x=>absurd x.1 Ab),N,if_neg (λ x=>x U),B,if_neg (λ x=>x U),if_pos c5,y,<-h1,AM]
 rw[if_neg c5]at h
 by_cases c6:(a.toNat:Int)=45\/CD (a.toNat:Int)=true
 ·rw[if_pos c6]at h
  by_cases c7:(GK (runN (a::(u++v)))).2.2≠0
  ·rw[if_pos c7]at h
   simp only[Prod.mk.injEq]at h
   exact absurd h.2.2 c7
  ·rw[if_neg c7]at h
   simp only[Prod.mk.injEq]at h
   obtain⟨h1,q,_⟩:=h
   have A:runN ((a::u)++v)=a::u:=by
    have j:=List.takeWhile_prefix IS (l:=(a::u)++v)
    rw[<-XZ]at j
    obtain⟨r,A⟩:=j
    have hl:(runN ((a::u)++v)).length=(a::u).length:=by rw[List.length_cons,List.cons_append];unfold len at q;omega
    exact(List.append_inj A hl).1
   have J:=pE A i
   rw[List.cons_append]at A J
   obtain⟨g1,g2⟩:=pF c6
   have b: ¬(a.toNat:Int)=46:=λ e=>by rw[e]at c6;revert c6;decide
   rw[A]at c7 h1
   rw[if_neg (λ x=>b x.1),if_neg (λ x=>b x.1),QI g1,if_neg (λ x=>x U),L7 (s:=a::(u++v')) g2,if_neg (λ x=>x U),if_neg c5,if_pos c6,J,if_neg c7,<-h1,AM]
 ·rw[if_neg c6]at h
  simp only[Prod.mk.injEq]at h
  exact absurd h.2.2 Ab
def DB(x:Nat):Bool:=CD (x:Int)
theorem YR(x:Nat):DB x=true↔48<=x/\x<=57:=by unfold DB CD;simp;omega
theorem AU6(x:Nat):DB x=false↔ ¬(48<=x/\x<=57):=by rw[<-YR];simp
theorem pG{s:A0}{i:Nat}(h:i<s.length)(b:DB (s[i]).toNat=true):Utf8.decode ⟨⟨s⟩⟩ i=((s[i]).toNat,1):=by
 have:=decode_ascii ⟨⟨s⟩⟩ i h (by have:=(YR _).1 b;show(s[i]).toNat<128;omega)
 exact this
theorem AU7{s:A0}{i:Nat}(h:i<s.length)(b:DB (s[i]).toNat=false):DB (Utf8.decode ⟨⟨s⟩⟩ i).1=false:=by
 rcases Nat.lt_or_ge (s[i]).toNat 128 with hl|hl
 ·have:=decode_ascii ⟨⟨s⟩⟩ i h hl
  rw[this];exact b
 ·have:=decode_high ⟨⟨s⟩⟩ i h hl
  rw[AU6];omega
theorem pH(s:A0): ∀(f pos:Nat),s.length<=pos+f->(∀(j:Nat) (h:j<s.length),pos<=j->DB (s[j]).toNat=true)->Lib.idxFuncFrom DB false ⟨⟨s⟩⟩ f pos= -1
 |0,_,_,_=>rfl
 |f+1,pos,hl,b=>by
  unfold Lib.idxFuncFrom
  by_cases h:pos<s.length
  ·rw[if_pos (show pos<(ByteArray.mk ⟨s⟩).size from h),pG h (b pos h (Nat.le_refl _)),if_neg (by rw[b pos h (Nat.le_refl _)];simp)]
   exact pH s f (pos+1) Aa (λ j e hp=>b j e Aa)
  ·rw[if_neg (show ¬pos<(ByteArray.mk ⟨s⟩).size from h)]
theorem pI(s:A0): ∀(f pos:Nat),s.length<=pos+f->(∃(j:Nat) (h:j<s.length),pos<=j/\DB (s[j]).toNat=false)-> ∃(i:Nat) (h:i<s.length),Lib.idxFuncFrom DB false ⟨⟨s⟩⟩ f pos=(i:Int)/\DB (s[i]).toNat=false
 |0,pos,hl,⟨j,k,hp,_⟩=>by omega
 |f+1,pos,hl,⟨j,k,hp,b⟩=>by
  unfold Lib.idxFuncFrom
  have h:pos<s.length:=by omega
  rw[if_pos (show pos<(ByteArray.mk ⟨s⟩).size from h)]
  cases hf:DB (s[pos]).toNat with
  |true=>
   rw[pG h hf,if_neg (by rw[hf];simp)]
   have l:pos≠j:=by intro e;subst e;rw[hf]at b;cases b
   exact pI s f (pos+1) Aa ⟨j,k,Aa,b⟩
  |false=>
   rw[if_pos (AU7 h hf)]
   exact⟨pos,h,rfl,hf⟩
theorem pJ(t:A0)(h0: ∃h:0<t.length,DB (t[0]).toNat=false): ∀(f i:Nat),0<i->i<=t.length->i<=f->0<=Lib.lastIdxFuncFrom DB false ⟨⟨t⟩⟩ f i
 |0,i,hi,_,y=>by omega
 |f+1,i,hi,hl,y=>by
  obtain⟨z,w⟩:=h0
  unfold Lib.lastIdxFuncFrom
  rw[if_pos hi]
  show 0<=if DB (Lib.decodeLastL (t.take i)).1=false then _ else _
  split
  ·omega
  ·rename_i hp
   have j:DB (Lib.decodeLastL (t.take i)).1=true:=by simpa using hp
   have k:=(YR _).1 j
   have hlen:(t.take i).length=i:=by rw[List.length_take];omega
   have hw:Lib.decodeLastL (t.take i)=((t[i-1]'Aa).toNat,1):=by
    have s: ¬t.take i=[]:=by intro e;rw[e]at hlen;simp at hlen;omega
    have hg:(t.take i).getD ((t.take i).length-1) 0=t[i-1]'Aa:=by
     rw[hlen,List.getD_eq_getElem?_getD,List.getElem?_take,if_pos Aa]
     simp[show i-1<t.length from by omega]
    unfold Lib.decodeLastL at k ⊢
    rw[if_neg s,hg]at k ⊢
    by_cases hc:(t[i-1]'Aa).toNat<128
    ·rw[if_pos hc]
    ·exfalso
     rw[if_neg hc]at k
     dsimp only at k
     split at k
     ·rename_i l
      have A:Lib.lastStart (t.take i)<(t.take i).length:=by
       rcases Nat.lt_or_ge (Lib.lastStart (t.take i)) (t.take i).length with h|h
       ·exact h
       ·exfalso
        have e0:(t.take i).drop (Lib.lastStart (t.take i))=[]:=by rw[List.drop_eq_nil_iff];exact h
        rw[e0]at k
        have:(Lib.decodeL []).1=0:=by decide
        omega
      have hd:Utf8.decode ⟨⟨(t.take i).drop (Lib.lastStart (t.take i))⟩⟩ 0=Lib.decodeL ((t.take i).drop (Lib.lastStart (t.take i))):=rfl
      have n:0<((t.take i).drop (Lib.lastStart (t.take i))).length:=by rw[List.length_drop];omega
      have b:(((t.take i).drop (Lib.lastStart (t.take i)))[0]).toNat<128:=by
       rcases Nat.lt_or_ge (((t.take i).drop (Lib.lastStart (t.take i)))[0]).toNat 128 with h|h
       ·exact h
       ·have:=decode_high ⟨⟨(t.take i).drop (Lib.lastStart (t.take i))⟩⟩ 0 n h
        rw[hd]at this;omega
      have q:=decode_ascii ⟨⟨(t.take i).drop (Lib.lastStart (t.take i))⟩⟩ 0 n b
      rw[hd]at q
      rw[q]at l
      have B:Lib.lastStart (t.take i)=i-1:=by rw[hlen]at l;simp only at l;omega
      apply hc
      have e2:((t.take i).drop (Lib.lastStart (t.take i)))[0]=t[i-1]'Aa:=by
       rw[List.getElem_drop,List.getElem_take];first|done|congr 1|(congr 1;omega)
      rw[<-e2];exact b
     ·have:Utf8.runeError=65533:=rfl
      simp only[this]at k;omega
   rw[hw]
   by_cases hi1:i=1
   ·exfalso
    subst hi1
    rw[hw]at j
    have:DB (t[0]).toNat=true:=j
    rw[w]at this;cases this
   ·exact pJ t ⟨z,w⟩ f (i-1) Aa Aa Aa
theorem YS{s:A0}:JA s=true↔ ∀(j:Nat) (h:j<s.length),DB (s[j]).toNat=true:=by
 have key: ∀(k:Nat) (i:Int),0<=i->(len s-i).toNat<=k->(KU s i=true↔ ∀(j:Nat) (h:j<s.length),i<=(j:Int)->DB (s[j]).toNat=true):=by
  intro k
  induction k with
  |zero=>
   intro i h0 n
   rw[bB s i Aa]
   exact⟨λ _ j h b=>by unfold len at n;omega,λ _=>rfl⟩
  |succ k q=>
   intro i h0 n
   by_cases hlt:i<len s
   ·obtain⟨w,he⟩:=yV h0 hlt
    by_cases hf:CD (A3 s i)=true
    ·rw[<-jY s i h0 hlt hf,q (i+1) Aa Aa]
     constructor
     ·intro h j b l
      by_cases e:(j:Int)=i
      ·have y:j=i.toNat:=by omega
       subst y
       unfold DB;rw[<-he];exact hf
      ·exact h j b Aa
     ·intro h j b l;exact h j b Aa
    ·rw[jZ s i h0 hlt hf]
     constructor
     ·intro h;cases h
     ·intro h
      have:=h i.toNat w Aa
      unfold DB at this
      rw[<-he]at this
      exact absurd this hf
   ·rw[bB s i hlt]
    exact⟨λ _ j h b=>by unfold len at hlt;omega,λ _=>rfl⟩
 have:=key (len s-0).toNat 0 (Int.le_refl 0) (Nat.le_refl _)
 unfold JA
 rw[this]
 exact⟨λ h j b=>h j b Aa,λ h j b _=>h j b⟩
theorem YT(l:A0)(i j:Nat):(ByteArray.mk ⟨l⟩).extract i j=ByteArray.mk ⟨(l.drop i).take (j-i)⟩:=by
 have:=ByteArray.extract_mk l i j
 rw[this]
theorem AU8(s:A0):((Lib.trimF DB ⟨⟨s⟩⟩).data.toList==[])=JA s:=by
 rw[Bool.eq_iff_iff,beq_iff_eq]
 have w:(ByteArray.mk ⟨s⟩).size=s.length:=rfl
 by_cases ha: ∀(j:Nat) (h:j<s.length),DB (s[j]).toNat=true
 ·refine⟨λ _=>YS.2 ha,λ _=>?_⟩
  have hi:Lib.idxFunc DB false ⟨⟨s⟩⟩= -1:=pH s s.length 0 Aa (λ j h _=>ha j h)
  unfold Lib.trimF Lib.trimLeftF
  rw[if_pos hi]
  unfold Lib.trimRightF
  rw[YT []];simp
 ·have hex: ∃(j:Nat) (h:j<s.length),0<=j/\DB (s[j]).toNat=false:=by
   apply Classical.byContradiction
   intro A
   apply ha
   intro j h
   cases hf:DB (s[j]).toNat with
   |true=>rfl
   |false=>exact absurd ⟨j,h,Nat.zero_le _,hf⟩ A
  obtain⟨i,hi,he,B⟩:=pI s s.length 0 Aa hex
  refine⟨λ h=>?_,λ h=>absurd (YS.1 h) ha⟩
  exfalso
  have y:Lib.idxFunc DB false ⟨⟨s⟩⟩=(i:Int):=he
  have C:Lib.trimLeftF DB ⟨⟨s⟩⟩=⟨⟨s.drop i⟩⟩:=by
   unfold Lib.trimLeftF
   rw[y,if_neg Aa,w,Int.toNat_natCast,YT,List.take_of_length_le (by rw[List.length_drop];omega)]
  unfold Lib.trimF at h
  rw[C]at h
  have b:0<(s.drop i).length:=by rw[List.length_drop];omega
  have h0: ∃h:0<(s.drop i).length,DB ((s.drop i)[0]).toNat=false:=⟨b,by rw[List.getElem_drop];exact B⟩
  have k:0<=Lib.lastIdxFunc DB false ⟨⟨s.drop i⟩⟩:=pJ (s.drop i) h0 (s.drop i).length (s.drop i).length b (Nat.le_refl _) (Nat.le_refl _)
  have z:1<=Lib.rightEndF DB ⟨⟨s.drop i⟩⟩:=by
   unfold Lib.rightEndF
   rw[if_pos k]
   by_cases hz:(Lib.lastIdxFunc DB false ⟨⟨s.drop i⟩⟩).toNat=0
   ·rw[hz]
    have e:(ByteArray.mk ⟨s.drop i⟩).extract 0 (ByteArray.mk ⟨s.drop i⟩).size=⟨⟨s.drop i⟩⟩:=by
     rw[YT]
     have:List.take ((s.drop i).length-0) (List.drop 0 (s.drop i))=s.drop i:=by rw[List.drop_zero,Nat.sub_zero,List.take_length]
     exact congrArg (λ l=>(⟨⟨l⟩⟩:ByteArray)) this
    rw[e]
    unfold Lib.decodeGoB
    have n:(ByteArray.mk ⟨s.drop i⟩).size=(s.drop i).length:=rfl
    rw[if_neg (by rw[n];omega)]
    have:=Lib.decode_width_pos ⟨⟨s.drop i⟩⟩ 0 (by rw[n];exact b)
    omega
   ·omega
  unfold Lib.trimRightF at h
  rw[YT]at h
  have q:(List.take (Lib.rightEndF DB ⟨⟨s.drop i⟩⟩-0) (List.drop 0 (s.drop i)))=[]:=h
  rw[List.drop_zero,Nat.sub_zero,List.take_eq_nil_iff]at q
  rcases q with q|q
  ·omega
  ·rw[q]at b;simp at b
def D0(l:A0):Prop:= ∀b∈l,DO b=true
theorem VG{s:A0}:JA s=true↔D0 s:=by
 rw[YS]
 constructor
 ·intro h b k
  obtain⟨j,i,e⟩:=List.getElem_of_mem k
  have:=h j i
  rw[e]at this;exact this
 ·intro h j i;exact h _ (List.getElem_mem i)
theorem D0.app {a b:A0}(h:D0 a)(k:D0 b):D0 (a++b):=λ x hx=>by
 rcases List.mem_append.1 hx with hx|hx
 ·exact h x hx
 ·exact k x hx
theorem pK{k:Int}: ∀b∈BD k,b=48:=λ b e=>(List.mem_replicate.1 e).2
theorem D0.BD (k:Int):D0 (BD k):=λ b e=>by rw[pK b e];rfl
def pL(r:A0):Prop:=r=[]\/ ∃b q,r=b::q/\DO b=false
theorem fF{s g r:A0}{i:Int}(h:A5 s i=g++r)(hg:D0 g)(e:pL r):AZ s i=i+len g:=by
 have:(g++r).takeWhile DO=g:=by
  rw[List.takeWhile_append_of_pos hg]
  rcases e with rfl|⟨b,q,rfl,j⟩
  ·simp
  ·rw[List.takeWhile_cons,j];simp
 unfold AZ;rw[h,this]
theorem fG{s g r:A0}{i:Int}(h0:0<=i)(h:A5 s i=g++r):Eng.sub s i (i+len g)=g:=by
 rw[<-YJ s i (len g) h0 (A9 _),h,VE]
theorem fH{s g r:A0}{i:Int}(h0:0<=i)(h:A5 s i=g++r):A5 s (i+len g)=r:=by
 rw[<-KG s i (len g) h0 (A9 _),h,VD]
theorem YU{s g:A0}{i:Int}(h0:0<=i)(h:A5 s i=g)(hg:g≠[]):len s=i+len g:=by
 have hp:=L6.1 hg
 have:=Y1 s i h0
 rw[h]at this
 split at this<;>omega
theorem YV{s q:A0}{b:UInt8}{i:Int}(h0:0<=i)(h:A5 s i=b::q):i<len s/\A3 s i=(b.toNat:Int):=by
 have hl:=YU h0 h (by simp)
 rw[AM]at hl
 have e:=A9 q
 refine⟨Aa,?_⟩
 have:=OK s i 0 h0 (Int.le_refl 0)
 rw[h,Int.add_zero]at this
 rw[<-this];rfl
theorem fI{s q:A0}{b:UInt8}{i:Int}(h0:0<=i)(h:A5 s i=b::q):DA s [b] i=true/\BL s [b] i=i+1:=by
 have:=YV h0 h
 have e:DA s [b] i=true:=SH.2 this
 exact⟨e,S1 e⟩
theorem YW{s q:A0}{b c:UInt8}{i:Int}(h0:0<=i)(h:A5 s i=b::q)(j:b≠c):DA s [c] i=false/\BL s [c] i=i:=by
 have k:=YV h0 h
 have e:DA s [c] i=false:=by
  cases hh:DA s [c] i with
  |false=>rfl
  |true=>exact absurd (UInt8.toNat_inj.1 (by have:=(SH.1 hh).2;omega)) j
 exact⟨e,S2 e⟩
theorem pM{s:A0}{c:A0}{i:Int}(h:len s<=i):DA s c i=false/\BL s c i=i:=by
 have e:DA s c i=false:=by
  cases hh:DA s c i with
  |false=>rfl
  |true=>have:=mL hh;omega
 exact⟨e,S2 e⟩
def HG(neg:Bool):A0:=if neg then [45]else []
theorem pN{b:UInt8}(h:DO b=true):b≠45/\b≠43/\b≠46/\b≠101/\b≠69:=by
 refine⟨?_,?_,?_,?_,?_⟩<;>(intro e;subst e;revert h;decide)
theorem fJ{s w r:A0}{neg:Bool}(h:s=HG neg++(w++r))(hw:D0 w)(n:w≠[])(z:pL r)(A: ¬(1<len w/\A3 w 0=48)):
  ∃e,0<=e/\A5 s e=r/\GK s=if DA s [46] e then
   if Eng.sub s (BL s [46] e) (AZ s (BL s [46] e))=[]then(BY,AZ s (BL s [46] e),1)
   else IQ s neg (w++Eng.sub s (BL s [46] e) (AZ s (BL s [46] e))) (-(len (Eng.sub s (BL s [46] e) (AZ s (BL s [46] e))))) (AZ s (BL s [46] e))
  else IQ s neg w 0 (BL s [46] e):=by
 have y:DA s [45] 0=neg/\BL s [45] 0=len (HG neg):=by
  cases neg with
  |true=>exact fI (q:=w++r) (Int.le_refl 0) (by rw[h];rfl)
  |false=>
   cases w with
   |nil=>exact absurd U n
   |cons b w=>exact YW (q:=w++r) (Int.le_refl 0) (by rw[h];rfl) (pN (hw b (by simp))).1
 have i:=A9 (HG neg)
 have l:A5 s (len (HG neg))=w++r:=by rw[h,VD]
 have j:=fF l hw z
 have k:=fG i l
 refine⟨len (HG neg)+len w,by have:=A9 w;omega,fH i l,?_⟩
 rw[nZ y.2,j,k,if_neg A,if_neg n,y.1]
theorem pO{s e:A0}{neg:Bool}{x b:Int}(h:len s<=b):IQ s neg e x b=JI neg e x [] 1:=by
 obtain⟨i,e2⟩:=pM (c:=[101,69]) h
 unfold IQ;rw[i,e2,if_neg (by simp),if_neg Aa]
theorem AU9{s w:A0}{neg:Bool}(h:s=HG neg++w)(hw:D0 w)(i:w≠[])(j: ¬(1<len w/\A3 w 0=48)):GK s=JI neg w 0 [] 1:=by
 obtain⟨b,h0,h1,k⟩:=fJ (neg:=neg) (w:=w) (r:=[]) (by simpa using h) hw i (.inl rfl) j
 have e:len s<=b:=by
  have:=Y1 s b h0
  rw[h1,len_nil]at this
  split at this<;>omega
 obtain⟨l,e2⟩:=pM (c:=[46]) e
 rw[k,l,e2,if_neg (by simp),pO e]
theorem AV0{s w p:A0}{neg:Bool}(h:s=HG neg++(w++46::p))(hw:D0 w)(l:w≠[])(n: ¬(1<len w/\A3 w 0=48))(hp:D0 p)(j:p≠[]):GK s=JI neg (w++p) (-(len p)) [] 1:=by
 obtain⟨b,h0,h1,q⟩:=fJ h hw l (.inr ⟨46,p,rfl,Ab⟩) n
 obtain⟨y,e2⟩:=fI h0 h1
 have k:A5 s (b+1)=p++[]:=by rw[<-KG s b 1 h0 Aa,h1];simp[A5]
 have e:=fF k hp (.inl U)
 have i:=fG Aa k
 have hl:=YU h0 h1 (by simp)
 rw[AM]at hl
 rw[q,y,e2,if_pos U,e,i,if_neg j,pO Aa]
theorem AV1{s w p:A0}{neg neg2:Bool}(h:s=HG neg++(w++101::(HG neg2++p)))(hw:D0 w)(A:w≠[])(B: ¬(1<len w/\A3 w 0=48))(hp:D0 p)(e:p≠[]):GK s=JI neg w 0 p (if neg2 then-1 else 1):=by
 obtain⟨b,h0,h1,C⟩:=fJ h hw A (.inr ⟨101,_,rfl,Ab⟩) B
 obtain⟨D,e2⟩:=YW (c:=46) h0 h1 Ab
 have k:=YV h0 h1
 have e3:DA s [101,69] b=true:=nX.2 ⟨k.1,.inl k.2⟩
 have z:A5 s (b+1)=HG neg2++p:=by rw[<-KG s b 1 h0 Aa,h1];rfl
 have l:DA s [45] (b+1)=neg2/\(if neg2 then BL s [45] (b+1)else BL s [43] (BL s [45] (b+1)))=b+1+len (HG neg2):=by
  cases neg2 with
  |true=>exact fI (q:=p) Aa z
  |false=>
   cases p with
   |nil=>exact absurd U e
   |cons c p=>
    have l:=pN (hp c (by simp))
    obtain⟨g1,g2⟩:=YW (c:=45) (i:=b+1) Aa z l.1
    obtain⟨g3,g4⟩:=YW (c:=43) (i:=b+1) Aa z l.2.1
    refine⟨g1,?_⟩
    rw[if_neg (by simp),g2,g4]
    show b+1=b+1+0
    omega
 have hg:=A9 (HG neg2)
 have j:A5 s (b+1+len (HG neg2))=p++[]:=by rw[List.append_nil];exact fH Aa z
 have n:=fF j hp (.inl U)
 have y:=fG Aa j
 have hl:=YU Aa j (by simpa using e)
 rw[List.append_nil]at hl
 rw[C,D,e2,if_neg (by simp)]
 unfold IQ
 rw[e3,if_pos U,S1 e3]
 unfold XR
 dsimp only
 rw[l.1,l.2,n,y,if_neg (by rw[not_or];exact⟨e,Aa⟩)]
theorem fK{s:A0}(h:A3 s 0≠48):AY s=s:=mU (λ x=>h x.2)
theorem AV2{s:A0}(h:A3 s 0≠48)(k:Int):AY (BD k++s)=s:=by
 have: ∀n:Nat,AY (List.replicate n 48++s)=s:=by
  intro n
  induction n with
  |zero=>exact fK h
  |succ n b=>rw[List.replicate_succ,List.cons_append,AH6 Ab,b]
 exact this k.toNat
theorem AV3{s:A0}(n:s≠[])(h:A3 s (len s-1)≠48)(k:Int):BG (s++BD k)=s:=by
 have:=Lib.trimRightS_take (s++BD k) [48] s.length (by simp) (λ j b l i=>by
  rw[List.getElem?_append_right l]at i
  rw[pK b (List.mem_of_getElem? i)];rfl) (λ b h0 i=>by
  rw[List.getElem?_append_left Aa]at i
  have e:A3 s (len s-1)=(b.toNat:Int):=by
   unfold A3 len
   rw[show((s.length:Int)-1).toNat=s.length-1 from by omega,List.getD_eq_getElem?_getD,i];rfl
  cases hc:([48]:A0).contains b with
  |false=>rfl
  |true=>rw[Q5]at hc;omega)
 unfold BG;rw[this];simp
theorem fL{b s:A0}{neg:Bool}{e0 e k:Int}(l:D0 b)(hd:AY b=s++BD k)(n:0<=k)(h:s≠[])(hl:A3 s (len s-1)≠48)(he:e0+k=e)(h1:len s<=100)(y: -1000<=e)(z:len s+e<=1000)(q:k<=2000):
  CL neg b e0=(⟨3,0,[],s,neg,e⟩,0):=by
 have hp:=L6.1 h
 have i:=OH k n
 have j:len (AY b)=len s+k:=by rw[hd,AQ,i]
 have w:BG (AY b)=s:=by rw[hd,AV3 h hl]
 unfold CL
 rw[if_pos (VG.2 l),w,j,if_neg (by rw[hd];simp[h])]
 rw[if_neg (by simp only[Bool.or_eq_true,decide_eq_true_eq];omega),if_neg (by simp only[Bool.or_eq_true,decide_eq_true_eq];omega)]
 rw[show e0+(len s+k-len s)=e from by omega]
theorem AV4{n:Nd}(h:JB n=true):n=⟨3,0,[],n.s,n.neg,n.e⟩/\D0 n.s/\len n.s<=100/\ -1000<=n.e/\n.e<=1000/\len n.s+n.e<=1000/\((n.s=[]/\n.neg=false/\n.e=0)\/(n.s≠[]/\A3 n.s 0≠48/\A3 n.s (len n.s-1)≠48)):=by
 obtain⟨kind,many,name,s,neg,e⟩:=n
 unfold JB at h
 dsimp only at h ⊢
 split at h
 ·cases h
 rename_i b
 simp only[Bool.or_eq_true,decide_eq_true_eq,bne_iff_ne,Bool.not_eq_true',beq_eq_false_iff_ne,not_or,ne_eq,Classical.not_not]at b
 obtain⟨⟨⟨⟨⟨⟨⟨i,c2⟩,c3⟩,c4⟩,c5⟩,j⟩,k⟩,l⟩:=b
 subst i;subst c2;subst c3
 refine⟨rfl,VG.1 (by simpa using c4),Aa,Aa,Aa,Aa,?_⟩
 split at h
 ·rename_i hs
  simp only[Bool.and_eq_true,Bool.not_eq_true',beq_iff_eq]at h hs
  exact .inl ⟨hs,h.1,h.2⟩
 ·rename_i hs
  simp only[Bool.and_eq_true,bne_iff_ne,beq_iff_eq]at h hs
  exact .inr ⟨hs,h.1,h.2⟩
theorem AV5: ∀n:Fin 2001,(Lib.itoa ((n.val:Int)-1000)==HG (decide ((n.val:Int)-1000<0))++Lib.decDigits ((n.val:Int)-1000).natAbs)=true/\
 (Lib.decDigits ((n.val:Int)-1000).natAbs).all DO=true/\Lib.decDigits ((n.val:Int)-1000).natAbs≠[]/\len (AY (Lib.decDigits ((n.val:Int)-1000).natAbs))<=6/\
 D7 (AY (Lib.decDigits ((n.val:Int)-1000).natAbs))=(((n.val:Int)-1000).natAbs:Int):=by decide+kernel
theorem AV6{e:Int}(h0: -1000<=e)(h1:e<=1000): ∃p,Lib.itoa e=HG (decide (e<0))++p/\D0 p/\p≠[]/\len (AY p)<=6/\(if decide (e<0)then(-1:Int)else 1)*D7 (AY p)=e:=by
 have:=AV5 ⟨(e+1000).toNat,Aa⟩
 dsimp only at this
 rw[show(((e+1000).toNat:Nat):Int)-1000=e from by omega]at this
 obtain⟨g1,g2,g3,g4,g5⟩:=this
 refine⟨_,by simpa using g1,λ b i=>List.all_eq_true.1 g2 b i,g3,g4,?_⟩
 rw[g5]
 by_cases h:e<0
 ·rw[if_pos (by simpa using h)];omega
 ·rw[if_neg (by simpa using h)];omega
theorem pP{neg:Bool}{b:A0}{x:Int}:JI neg b x [] 1=((CL neg b x).1,0,(CL neg b x).2):=by
 unfold JI
 rw[show AY []=[]from rfl,if_neg Ab,show x+1*D7 []=x from by show x+1*0=x;omega]
theorem AV7{n:Nd}(h:JB n=true):GK (ID n)=(n,0,0)/\(∃g r,ID n=HG n.neg++(g::r)/\DO g=true)/\ ∀b∈ID n,IS b=true:=by
 obtain⟨he,B,h1,h2,h3,h4,T⟩:=AV4 h
 generalize hs:n.s=s at*
 generalize hneg:n.neg=neg at*
 generalize hee:n.e=e at*
 subst he
 have j: ∀b,DO b=true->IS b=true:=λ b i=>by
  rw[eO];left
  unfold DO CD at i
  simp only[Bool.and_eq_true,decide_eq_true_eq]at i
  omega
 have l: ∀g:Bool,∀b∈HG g,IS b=true:=by decide
 rcases T with⟨V,e2,e3⟩|⟨D,i,hl⟩
 ·subst V;subst e2;subst e3
  exact⟨Ac,⟨48,[],Ab,Ab⟩,Ab⟩
 obtain⟨g,q,C⟩: ∃g q,s=g::q:=by cases s with
  |nil=>exact absurd U D
  |cons g q=>exact⟨g,q,rfl⟩
 have hp:=L6.1 D
 unfold ID
 dsimp only
 rw[if_neg (by simpa using D),show(if neg then([45]:A0)else [])=HG neg from rfl]
 by_cases c1:(decide (0<=e)&&decide (len s+e<=20))=true
 ·rw[if_pos c1]
  simp only[Bool.and_eq_true,decide_eq_true_eq]at c1
  have y:A3 (s++BD e) 0≠48:=by rw[IV (Int.le_refl 0) hp];exact i
  refine⟨?_,⟨g,q++BD e,by rw[C];simp,B g (by rw[C];simp)⟩,λ b i=>?_⟩
  ·rw[AU9 (w:=s++BD e) (neg:=neg) (by simp) (B.app (D0.BD e)) (by simp[D]) (λ x=>y x.2),pP,fL (s:=s) (k:=e) (e:=e) (B.app (D0.BD e)) (fK y) c1.1 D hl Aa Aa Aa Aa Aa]
  ·simp only[List.mem_append]at i
   rcases i with(i|i)|i
   ·exact l _ b i
   ·exact j b (B b i)
   ·exact j b (D0.BD e b i)
 rw[if_neg c1]
 by_cases c2:(decide (e<0)&&decide (-20<=e))=true
 ·rw[if_pos c2]
  simp only[Bool.and_eq_true,decide_eq_true_eq]at c2
  have hz:=mI (1-e-len s)
  have K:0<=1-e-len s->len (BD (1-e-len s))=1-e-len s:=λ x=>OH _ x
  have L:1-e-len s<=0->BD (1-e-len s)=[]:=λ x=>XO x
  have F:D0 (BD (1-e-len s)++s):=(D0.BD _).app B
  have W:len (BD (1-e-len s)++s)=len (BD (1-e-len s))+len s:=AQ _ _
  have M:AY (BD (1-e-len s)++s)=s:=AV2 i _
  have N:1-e-len s<=0->A3 (BD (1-e-len s)++s) 0≠48:=λ x=>by rw[L x];exact i
  generalize BD (1-e-len s)++s=S at*
  obtain⟨z,P⟩:=eY (s:=S) (n:=len S+e) Aa Aa
  have X:=EH S (len S+e) Aa Aa
  have G:D0 (Eng.sub S 0 (len S+e)):=λ b i=>F b (by rw[z];simp[i])
  have A:D0 (A5 S (len S+e)):=λ b i=>F b (by rw[z];simp[i])
  have J:Eng.sub S 0 (len S+e)≠[]:=L6.2 Aa
  have H:A5 S (len S+e)≠[]:=L6.2 Aa
  have O: ¬(1<len (Eng.sub S 0 (len S+e))/\A3 (Eng.sub S 0 (len S+e)) 0=48):=by
   rintro⟨x1,Q⟩
   by_cases hpd:0<=1-e-len s
   ·have:=K hpd;omega
   ·refine N Aa ?_
    rw[QC (Int.le_refl 0) (Int.le_refl 0) Aa Aa]at Q
    exact Q
  obtain⟨R,q',E⟩: ∃g q,Eng.sub S 0 (len S+e)=g::q:=by
   cases hh:Eng.sub S 0 (len S+e)with
   |nil=>exact absurd hh J
   |cons g q=>exact⟨g,q,rfl⟩
  refine⟨?_,⟨R,q'++46::A5 S (len S+e),by rw[E];simp,G R (by rw[E];simp)⟩,λ b i=>?_⟩
  ·rw[AV0 (w:=Eng.sub S 0 (len S+e)) (p:=A5 S (len S+e)) (neg:=neg) (by simp) G J O A H,<-z,pP,
    fL (s:=s) (k:=0) (e:=e) F (by rw[M,XO (Int.le_refl 0)];simp) (Int.le_refl 0) D hl Aa Aa Aa Aa Aa]
  ·simp only[List.mem_append,List.mem_cons,List.not_mem_nil,or_false]at i
   rcases i with((i|i)|i)|i
   ·exact l _ b i
   ·exact j b (G b i)
   ·subst i;decide
   ·exact j b (A b i)
 rw[if_neg c2]
 obtain⟨p,hi,A,H,hl6,hv⟩:=AV6 (e:=e) Aa Aa
 have y:A3 s 0≠48:=i
 refine⟨?_,⟨g,q++101::Lib.itoa e,by rw[C];simp,B g (by rw[C];simp)⟩,λ b i=>?_⟩
 ·rw[hi,AV1 (w:=s) (p:=p) (neg:=neg) (neg2:=decide (e<0)) (by simp) B D (λ x=>y x.2) A H]
  unfold JI
  rw[if_neg Aa,hv,Int.zero_add,
   fL (s:=s) (k:=0) (e:=e) B (by rw[fK y,XO (Int.le_refl 0)];simp) (Int.le_refl 0) D hl Aa Aa Aa Aa Aa]
 ·rw[hi]at i
  simp only[List.mem_append,List.mem_cons,List.not_mem_nil,or_false]at i
  rcases i with((i|i)|i)|i|i
  ·exact l _ b i
  ·exact j b (B b i)
  ·subst i;decide
  ·exact l _ b i
  ·exact j b (A b i)
theorem AV8{neg:Bool}{s:A0}{e:Int}(h:(CL neg s e).2=0):JB (CL neg s e).1=true:=by
 unfold CL at h ⊢
 by_cases c1:JA s=true
 ·rw[if_pos c1]at h ⊢
  by_cases c2:(AY s==[])=true
  ·rw[if_pos c2];decide+kernel
  rw[if_neg c2]at h ⊢
  split at h
  ·cases h
  rename_i c3
  rw[if_neg c3]
  split at h
  ·cases h
  rename_i c4
  rw[if_neg c4]
  simp only[Bool.or_eq_true,decide_eq_true_eq]at c4
  have k: ¬AY s=[]:=by simpa using c2
  have hp:=dL s k
  have w:BG (AY s)≠[]:=L6.2 hp
  have n: ∃r,BG (AY s)++r=AY s:=by
   unfold BG Lib.trimRightS
   have:=List.dropWhile_suffix (([48]:A0).contains ·) (l:=(AY s).reverse)
   obtain⟨r,q⟩:=this
   refine⟨r.reverse,?_⟩
   rw[<-List.reverse_append,q,List.reverse_reverse]
  obtain⟨r,q⟩:=n
  have hF:D0 (BG (AY s)):=λ b y=>(AF2 (VG.1 c1)) b (by rw[<-q];simp[y])
  have i:A3 (BG (AY s)) 0≠48:=by
   rw[<-IV (v:=r) (Int.le_refl 0) hp,q]
   cases hd:AY s with
   |nil=>exact absurd hd k
   |cons b l=>
    have:=dK hd
    intro e;rw[G7]at e;rw[Q5.2 e]at this;cases this
  have j:A3 (BG (AY s)) (len (BG (AY s))-1)≠48:=by
   obtain⟨b,z,e2⟩:=dQ hp
   rw[<-e2]
   intro e3
   have y:([48]:A0).contains b=true:=Q5.2 e3
   have:BG (AY s)=((AY s).reverse.dropWhile (([48]:A0).contains ·)).reverse:=rfl
   rw[this]at z
   have A:=congrArg List.reverse z
   rw[List.reverse_reverse,List.reverse_append,List.reverse_cons,List.reverse_nil,List.nil_append,List.singleton_append]at A
   have:=dK (s:=(AY s).reverse) (b:=b) (l:=(Eng.sub (BG (AY s)) 0 (len (BG (AY s))-1)).reverse) A
   rw[y]at this;cases this
  unfold JB
  dsimp only
  rw[if_neg (by
   simp only[Bool.or_eq_true,decide_eq_true_eq,bne_iff_ne,Bool.not_eq_true',beq_eq_false_iff_ne,VG.2 hF]
   simp only[not_or]
   refine⟨⟨⟨⟨⟨⟨⟨by simp,by simp⟩,by simp⟩,by simp⟩,Aa⟩,Aa⟩,Aa⟩,Aa⟩),if_neg (by simpa using w)]
  simp[i,j]
 ·rw[if_neg c1]at h;exact absurd h Ab
theorem AV9{neg:Bool}{s:A0}{e:Int}(h:D0 s):(CL neg s e).2=0\/(CL neg s e).2=2:=by
 unfold CL
 rw[if_pos (VG.2 h)]
 split
 ·exact .inl U
 ·split
  ·exact .inr U
  ·split
   ·exact .inr U
   ·exact .inl U
def YX(r:Nd×Int×Int):Prop:=(r.2.2=0->JB r.1=true)/\(r.2.2=0\/r.2.2=1\/r.2.2=2)
theorem pQ{neg:Bool}{b:A0}{x:Int}{i:A0}{side:Int}(h:D0 b):YX (JI neg b x i side):=by
 unfold JI
 split
 ·exact⟨λ e=>absurd e Ab,.inr (.inr U)⟩
 ·refine⟨λ e=>AV8 e,?_⟩
  rcases AV9 (neg:=neg) (e:=x+side*D7 (AY i)) h with e|e
  ·exact .inl e
  ·exact .inr (.inr e)
theorem VH(n:Nd)(p:Int):YX (n,p,1):=⟨λ e=>absurd e (show ¬(1:Int)=0 by decide),.inr (.inl U)⟩
theorem pR{s e:A0}{neg:Bool}{x b:Int}(h:D0 e):YX (IQ s neg e x b):=by
 unfold IQ
 split
 ·unfold XR
  dsimp only
  repeat' split
  all_goals first|exact VH _ _|exact pQ h
 ·split
  ·exact VH _ _
  ·exact pQ h
theorem AW0(s:A0):YX (GK s):=by
 have h0:=dM s [45] 0 (A9 s)
 have b:=Q3 s (BL s [45] 0) Aa h0.2
 have h1:=dM s [46] (AZ s (BL s [45] 0)) b.2
 unfold GK
 dsimp only
 have hF:D0 (Eng.sub s (BL s [45] 0) (AZ s (BL s [45] 0))):=XU h0.1
 split
 ·exact VH _ _
 ·split
  ·exact VH _ _
  ·split
   ·split
    ·exact VH _ _
    ·exact pR (hF.app (XU Aa))
   ·exact pR hF
inductive Lx (s:A0):Int->List Tk->Prop
 |done {i:Int}:0<=i-> ¬i<len s->Lx s i []
 |step {i n:Int} {t:Tk} {l:List Tk}:0<=i->i<len s->C5 (A5 s i)=(t,n,0)->Lx s (E9 s (i+n)) l->Lx s i ({ t with pos:=i}::l)
theorem YY{s:A0}{i n e:Int}{t:Tk}(h0:0<=i)(h1:i<len s)(h:C5 (A5 s i)=(t,n,e)):0<=n/\i+n<=len s/\(e=0->1<=n)/\(e=0\/e=1\/e=2\/e=4):=by
 have hl:=EH s i h0 Aa
 have:=AN8 (s:=A5 s i) Aa
 rw[h]at this
 dsimp only at this
 omega
theorem Lx.go {s:A0}{i:Int}{l:List Tk}(h:Lx s i l): ∀(f:Nat) (acc:List Tk),(len s-i).toNat<=f->Q8 f s i acc=(acc++l++[Y0 s],0,0):=by
 induction h with
 |done _ h1=>intro f acc _;rw[AH8 h1];simp
 | @step i n t l h0 h1 h _ ih=>
  intro f acc b
  have e:=YY h0 h1 h
  have j:=mS s (i+n) Aa e.2.1
  rw[AH7 b h1,h]
  dsimp only
  rw[if_neg (by simp),ih _ _ Aa]
  simp
theorem Lx.size {s:A0}{i:Int}{l:List Tk}(h:Lx s i l):i<=len s->len l<=len s-i:=by
 induction h with
 |done _ _=>intro x;rw[len_nil];omega
 | @step i n t l h0 h1 h _ ih=>
  intro x
  have e:=YY h0 h1 h
  have b:=mS s (i+n) Aa e.2.1
  have:=ih b.2
  rw[AM];omega
theorem fM{s:A0}{i:Int}(h0:0<=i):E9 s i=i+E9 (A5 s i) 0:=by
 unfold E9;rw[QF];omega
theorem AW1:E9 [] 0=0:=rfl
theorem pS{b:UInt8}{r:A0}(h:O8 (b.toNat:Int)=true):E9 (b::r) 0=1+E9 r 0:=by
 unfold E9
 rw[QF,QF,List.takeWhile_cons,show MD b=true from h]
 simp[len];omega
theorem pT{b:UInt8}{r:A0}(h:O8 (b.toNat:Int)=false):E9 (b::r) 0=0:=by
 unfold E9
 rw[QF,List.takeWhile_cons,show MD b=false from h]
 simp[len]
theorem AW2{s:A0}{i n:Int}{t:Tk}(h0:0<=i)(h1:i<len s)(h:C5 (A5 s i)=(t,n,0)):
  ∃u v,A5 s i=u++v/\len u=n/\u≠[]/\v=A5 s (i+n)/\u=Eng.sub s i (i+n)/\C5 (u++v)=(t,len u,0):=by
 have j:=YY h0 h1 h
 have hl:=EH s i h0 Aa
 have b:=eY (s:=A5 s i) (n:=n) Aa Aa
 rw[KG s i n h0 Aa,YJ s i n h0 Aa]at b
 exact⟨_,_,b.1,b.2,λ e=>by rw[e,len_nil]at b;omega,rfl,rfl,by rw[<-b.1,b.2];exact h⟩
end Go.Eng
