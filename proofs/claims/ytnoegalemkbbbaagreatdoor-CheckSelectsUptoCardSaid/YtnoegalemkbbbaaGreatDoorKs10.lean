/- Lemmas for the card. -/
import Derived.Test.YtnoegalemkbbbaaGreatDoorKs9
set_option linter.unusedVariables false
set_option linter.unusedSimpArgs false
set_option maxRecDepth 100000
set_option maxRecDepth 100000
namespace Go.Proofs.YtnoegalemkbbbaaGreatDoor
open Go.Proofs.Tryz
open Go.Eng Go.RowKit
abbrev S9(g n c:Nat)(xs:List Value):HO:=.priv 52 11 (.slice (some ⟨g,0,none⟩) n c) n xs
abbrev FH(g o n c:Nat):Value:=.slice (some ⟨g,o,none⟩) n c
theorem nV{L cs:List Value}{o:Nat}(h:o+cs.length<=L.length):(BY L o cs).length=L.length:=by
 unfold BY;simp;omega
theorem AO9{A Z Y D:List Value}{a b:Nat}(e:A.length=a)(h:b=a+Y.length)(i:Z.length=Y.length+D.length):BY (BY (A++Z) a Y) b D=A++(Y++D):=by
 subst e;subst h
 unfold BY
 rw[List.take_left,List.drop_append,List.drop_eq_nil_of_le (by omega:A.length<=A.length+Y.length),List.nil_append,Nat.add_sub_cancel_left,<-List.append_assoc A,List.take_append_of_le_length (by simp),List.take_of_length_le (by simp),List.drop_eq_nil_of_le (by simp;omega)]
 simp
theorem AP0{A Z Y D:List Value}{a b:Nat}(e:A.length=a)(h:b=a+Y.length)(l:Z.length=Y.length):BY (BY (A++D++Z) b D) a Y=A++(Y++D):=by
 subst e;subst h
 unfold BY
 have h1:(A++D++Z).drop (A.length+Y.length+D.length)=[]:=List.drop_eq_nil_of_le (by simp;omega)
 have i:(A++D++Z).take (A.length+Y.length)=A++(D++Z).take Y.length:=by
  rw[List.append_assoc,List.take_append,List.take_of_length_le (by omega:A.length<=A.length+Y.length),Nat.add_sub_cancel_left]
 rw[h1,i,List.append_nil]
 have j:((D++Z).take Y.length).length=Y.length:=by simp;omega
 have k:(A++(D++Z).take Y.length).length=A.length+Y.length:=by rw[List.length_append,j]
 rw[List.append_assoc A ((D++Z).take Y.length) D,List.take_left,<-List.append_assoc A ((D++Z).take Y.length) D,<-k,List.drop_left,List.append_assoc]
theorem AP1{w0 wv:World}{M0 M:Mem}{Rs:List HO}{g n c y s:Nat}{xs ys:List Value}{i:Nat}(hS:St w0 M0 wv M (S9 g n c xs::S9 y 1 s ys::Rs))(hi:i<=n)(hb:n<=1099511627)(F: ∀u∈xs,u.oneCell'=true)(z: ∀u∈ys,u.oneCell'=true):
    Calls prog 136 [FH g 0 n c,.int .i64 i,FH y 0 1 s].toArray wv (BF w0 M0 M Rs (λ v:Value=>v) (λ _=>True) (λ _=>[]) λ v=>[.priv 52 11 v (n+1) (xs.take (i*11)++(ys++xs.drop (i*11)))]):=by
 obtain⟨_,_,l,hnc,hcm⟩:=hS.rowAt (i:=0) rfl
 obtain⟨_,_,G,hvc,_⟩:=hS.rowAt (i:=1) rfl
 have hml:maxLen=9223372036854775807:=rfl
 refine AH (Hr:=Rs) AF func136 U ntmps136 [] [(0,.ho (S9 g n c xs)),(1,.ho (S9 y 1 s ys))] [.v (FH g 0 n c),.v (.int .i64 i),.v (FH y 0 1 s)] U hS A3 (λ B Q=>AR (W:=.t) (.v (O4 g n c 11 i)) U U (λ w M k=>EA i U U underlying25 sizeOf52 hi U U) <|AR (W:=.t) (I 1) U U (λ w M k=>O5 (n:=1) U underlying24) ?_) U
 refine A1 U (λ H=>?_) (λ H=>?_)<;>simp only[zb]at H
 ·omega
 refine AR (W:=.t) (I n) U U (λ w M k=>O5 U underlying25) ?_
 refine A1 U (λ J=>?_) (λ J=>?_)<;>simp only[zb]at J
 ·have R:i=n:=by omega
  subst R
  refine AG1 0 1 U U U U underlying25 sizeOf52 underlying24 type52 U U z Aa (by show(i+1)*120<=_;omega) λ v'=>A2 Q U U U λ w M' k=>⟨v',M',rfl,trivial,k.le,?_,A3⟩
  rw[<-l,List.take_length,List.drop_length,List.append_nil]
  exact k.st.drop _ (((List.Sublist.refl _).cons _).cons_cons _)
 refine AR (W:=.t) (I c) U U (λ w M k=>AF8 U underlying25) ?_
 refine A1 U (λ K=>?_) (λ K=>?_)<;>simp only[zb]at K
 ·refine AR (W:=.t) (.v (FH g 0 i c)) U U (λ w M k=>XK i U U underlying25 sizeOf52 Aa U) <|AG0 0 2 (q:=n+1-i) U U Aa U underlying25 underlying3 type52 U U hi Aa Aa Aa (by show(i+(n+1-i))*120<=_;omega) λ O P zs hz hc'=>?_
  have S:(xs.drop (i*11)).length=(n-i)*11:=by rw[List.length_drop,l];omega
  have T:(xs.take (i*11)).length=i*11:=by rw[List.length_take,l];omega
  have C:Nat.min 1 (i+(n+1-i)-i)=1:=Nat.min_eq_left Aa
  have E:Nat.min (n-i) (i+(n+1-i)-(i+1))=n-i:=Nat.min_eq_left Aa
  refine AR (W:=.t) (.v (FH O (i*11) (i+(n+1-i)-i) (P-i))) U U (λ w M k=>EA i U U underlying25 sizeOf52 Aa U (PS Aa).symm) <|XL 2 (i*11) (cs:=ys) U U U underlying25 sizeOf52 (by rw[C];exact G) (λ w M k j u hu=>RX k (kk:=1) (o:=0) U hu) (by rw[List.length_append];omega) z <|XM 8 U BK Ac <|O6 (W:=.t) (.v (FH O ((i+1)*11) (i+(n+1-i)-(i+1)) (P-(i+1)))) U U (λ w M k=>EA (i+1) U U underlying25 sizeOf52 Aa Aa (PS Aa).symm) <|O6 (W:=.t) (.v (FH g (i*11) (n-i) (c-i))) U U (λ w M k=>EA i U U underlying25 sizeOf52 hi U (PS Aa).symm) <|XN (λ _ _ _ _ _ h=>h) U <|XL 2 ((i+1)*11) (cs:=xs.drop (i*11)) U U U underlying25 sizeOf52 (by rw[E];exact S) (λ w M k j u hu=>RX k (kk:=0) (o:=i*11) U hu) (by rw[nV (by rw[List.length_append];omega),List.length_append];omega) (λ u hu=>F u (List.mem_of_mem_drop hu)) <|A2 Q U U U λ w M' k=>⟨FH O 0 (i+(n+1-i)) P,M',rfl,trivial,k.le,?_,A3⟩
  have e1:i+(n+1-i)=n+1:=by omega
  have L:St w0 M0 w M' ([.priv 52 11 (FH O 0 (i+(n+1-i)) P) (i+(n+1-i)) (BY (BY (xs.take (i*11)++zs) (i*11) ys) ((i+1)*11) (xs.drop (i*11)))]++Rs):=k.st.drop _ ((((List.Sublist.refl _).cons _).cons _).cons_cons _)
  rw[AO9 T Aa Aa]at L
  simpa only[e1]using L
 ·refine AF9 0 1 U Aa λ zs hz=>AR (W:=.t) (.v (FH g 0 (n+1) c)) U U (λ w M k=>XK (n+1) U U underlying25 sizeOf52 Aa Aa) <|AR (W:=.t) (.v (FH g ((i+1)*11) (n+1-(i+1)) (c-(i+1)))) U U (λ w M k=>EA (i+1) U U underlying25 sizeOf52 Aa Aa (PS Aa).symm) ?_
  have S:(xs.drop (i*11)).length=(n-i)*11:=by rw[List.length_drop,l];omega
  have T:(xs.take (i*11)).length=i*11:=by rw[List.length_take,l];omega
  have C:Nat.min 1 (n+1-i)=1:=Nat.min_eq_left Aa
  have E:Nat.min (n+1-i) (n+1-(i+1))=n-i:=(Nat.min_eq_right Aa).trans Aa
  have V: ∀(j:Nat) (u:Value),(xs.drop (i*11))[j]? =some u->((xs++zs).drop (i*11))[j]? =some u:=λ j u hu=>by
   rw[List.drop_append_of_le_length Aa,List.getElem?_append_left (List.getElem?_eq_some_iff.1 hu).1];exact hu
  have X: ∀w M,St w0 M0 w M (S9 g (n+1) c (xs++zs)::S9 y 1 s ys::Rs)->(callFunc 168 [FH y 0 1 s,FH g ((i+1)*11) (n+1-(i+1)) (c-(i+1))].toArray).run prog w= .ok (.value (.bool false)) w:=λ w M k=>by
   rw[run_callFunc_extern func168 Ai Ai Ai (e:=Extern.SlicesOverlaps.overlaps #[24,24] #[4]) Ai]
   have h1:=k.AF7 (i:=0) (j:=1) (tR:=4) (o2:=0) (o:=(i+1)*11) (la:=1) (ca:=s) (lb:=n+1-(i+1)) (cb:=c-(i+1)) U U Aa Aa underlying24 sizeOf52
   rw[show([FH y 0 1 s,FH g ((i+1)*11) (n+1-(i+1)) (c-(i+1))].toArray)= #[FH y 0 1 s,FH g ((i+1)*11) (n+1-(i+1)) (c-(i+1))]from rfl,h1];rfl
  refine AR (W:=.t) (.v (.bool false)) rfl rfl (λ w M k=>PV.ext (LH rfl (AG rfl)) (λ _ w' hw=>by cases hw;exact X _ M k.st)) <|A1 U (λ N=>?_) (λ N=>?_)
  ·refine XM 8 U BK Ac <|O6 (W:=.t) (.v (FH g ((i+1)*11) (n+1-(i+1)) (c-(i+1)))) U U (λ w M k=>EA (i+1) U U underlying25 sizeOf52 Aa Aa (PS Aa).symm) <|O6 (W:=.t) (.v (FH g (i*11) (n+1-i) (c-i))) U U (λ w M k=>EA i U U underlying25 sizeOf52 Aa U (PS Aa).symm) <|XN (λ _ _ _ _ _ h=>h) U <|XL 0 ((i+1)*11) (cs:=xs.drop (i*11)) U U U underlying25 sizeOf52 (by rw[E];exact S) (λ w M k j u hu=>RX k (kk:=0) (o:=i*11) U (V j u hu)) (by rw[List.length_append];omega) (λ u hu=>F u (List.mem_of_mem_drop hu)) <|AR (W:=.t) (.v (FH g (i*11) (n+1-i) (c-i))) U U (λ w M k=>EA i U U underlying25 sizeOf52 Aa U (PS Aa).symm) <|XL 0 (i*11) (cs:=ys) U U U underlying25 sizeOf52 (by rw[C];exact G) (λ w M k j u hu=>RX k (kk:=1) (o:=0) U hu) (by rw[nV (by rw[List.length_append];omega),List.length_append];omega) z <|A2 Q U U U λ w M' k=>⟨FH g 0 (n+1) c,M',rfl,trivial,k.le,?_,A3⟩
   have L:St w0 M0 w M' ([.priv 52 11 (FH g 0 (n+1) c) (n+1) (BY (BY (xs++zs) ((i+1)*11) (xs.drop (i*11))) (i*11) ys)]++Rs):=k.st.drop _ (((List.Sublist.refl _).cons _).cons_cons _)
   have h3:=AP0 (A:=xs.take (i*11)) (D:=xs.drop (i*11)) (Z:=zs) (Y:=ys) (b:=(i+1)*11) T Aa Aa
   rw[List.take_append_drop]at h3
   rw[h3]at L
   exact L
  ·cases N
theorem nW: ∀(l:Fl) (i:Nat),(l.flatMap Tm.cells).take (i*11)=(l.take i).flatMap Tm.cells
 |[],i=>by simp
 |x::l,0=>by simp
 |x::l,i+1=>by
  rw[List.take_succ_cons,List.flatMap_cons,List.flatMap_cons,<-nW l i,List.take_append,Tm.AS,List.take_of_length_le (by rw[Tm.AS];omega),show(i+1)*11-11=i*11 by omega]
theorem nX: ∀(l:Fl) (i:Nat),(l.flatMap Tm.cells).drop (i*11)=(l.drop i).flatMap Tm.cells
 |[],i=>by simp
 |x::l,0=>by simp
 |x::l,i+1=>by
  rw[List.drop_succ_cons,List.flatMap_cons,<-nX l i,List.drop_append,Tm.AS,List.drop_eq_nil_of_le (by rw[Tm.AS];omega),List.nil_append,show(i+1)*11-11=i*11 by omega]
theorem AP2{w0 j:World}{M0 M:Mem}{Rs:List HO}{v n:Value}{l:Fl}{y:Tm}{i:Int}(hS:St w0 M0 j M (HL v l::HL n [y]::Rs))(h0:l≠[])(hi:0<=i/\i<=len l)(q:len l<=1099511627):
   Calls prog 136 [v,i64 i,n].toArray j (BF w0 M0 M Rs (λ v:Value=>v) (λ _=>True) (λ _=>[]) λ v=>[HL v (l.take i.toNat++y::l.drop i.toNat)]):=by
 have h1:=(hS.obj (i:=0) U).1.2
 have b:=(hS.obj (i:=1) U).1.2
 have hp:=List.length_pos_iff.2 h0
 unfold len at hi q
 rcases h1 with⟨_,h1⟩|⟨g,c,_,rfl,_⟩
 ·omega
 rcases b with⟨_,b⟩|⟨w,z,_,rfl,_⟩
 ·cases b
 obtain⟨k,rfl⟩: ∃k:Nat,i=k:=⟨i.toNat,Aa⟩
 have:=AP1 (i:=k) hS Aa Aa (λ u hu=>by obtain⟨x,_,hx⟩:=List.mem_flatMap.1 hu;exact Tm.cells_one x u hx) (λ u hu=>by obtain⟨x,_,hx⟩:=List.mem_flatMap.1 hu;exact Tm.cells_one x u hx)
 refine this.mono λ e w' h=>?_
 rw[nW,nX]at h
 have s:(l.take k).flatMap Tm.cells++([y].flatMap Tm.cells++(l.drop k).flatMap Tm.cells)=(l.take k++y::l.drop k).flatMap Tm.cells:=by simp
 have e2:l.length+1=(l.take k++y::l.drop k).length:=by simp;omega
 rw[s]at h
 rw[Int.toNat_natCast]
 simpa only[HL,e2]using h
end Go.Proofs.YtnoegalemkbbbaaGreatDoor
namespace Go.Eng
open Go.RowKit
theorem I5{u v:A0}{j:Int}(h0:0<=j)(h:j<len u):A4 (u++v) j=A4 u j:=by
 unfold len at h
 unfold A4
 rw[List.getD_eq_getElem?_getD,List.getD_eq_getElem?_getD,List.getElem?_append_left Aa]
theorem Y8{u v:A0}{k:Int}(h0:0<=k):A4 (u++v) (len u+k)=A4 v k:=by
 unfold A4 len
 rw[List.getD_eq_getElem?_getD,List.getD_eq_getElem?_getD,List.getElem?_append_right Aa,show((u.length:Int)+k).toNat-u.length=k.toNat from by omega]
theorem nY{u v:A0}{k:Int}(h0:len u<=k):A4 (u++v) k=A4 v (k-len u):=by
 have:=Y8 (u:=u) (v:=v) (k:=k-len u) Aa
 rw[<-this];congr 1;omega
theorem FT(a:UInt8)(l:A0):A4 (a::l) 0=(a.toNat:Int):=rfl
theorem PZ{u v:A0}:A5 (u++v) (len u)=v:=by unfold A5 len;simp
theorem AP3{u v:A0}{k:Int}(h0:0<=k)(h:k<=len u):A5 (u++v) k=A5 u k++v:=by
 unfold A5 len at*
 rw[List.drop_append_of_le_length Aa]
theorem OA{α:Type}(s:List α):A5 s 0=s:=rfl
theorem UY{u v:A0}:Eng.sub (u++v) 0 (len u)=u:=by unfold Eng.sub len;simp
theorem eA{s:A0}{n:Int}(h0:0<=n)(h1:n<=len s):s=Eng.sub s 0 n++A5 s n/\len (Eng.sub s 0 n)=n:=by
 refine⟨?_,by rw[FF Aa h0 h1];omega⟩
 have:=S6 s 0 n Aa h0
 rw[OA]at this;exact this
theorem AP4{a b:A0}(hl:len a=len b)(h: ∀j:Int,0<=j->j<len a->A4 a j=A4 b j):a=b:=by
 unfold len at hl
 refine List.ext_getElem Aa λ i h1 e=>?_
 have:=h (i:Int) Aa (by unfold len;omega)
 simp only[A4,Int.toNat_natCast,List.getD_eq_getElem?_getD,List.getElem?_eq_getElem h1,List.getElem?_eq_getElem e,Option.getD_some]at this
 exact UInt8.toNat_inj.1 Aa
theorem AP5{s s':A0}{i i' k:Int}(h0:0<=i)(e:0<=i')(n:0<=k)(h1:i+k<=len s)(l:i'+k<=len s')(h: ∀j,0<=j->j<k->A4 s' (i'+j)=A4 s (i+j)):Eng.sub s' i' (i'+k)=Eng.sub s i (i+k):=by
 have q:=FF (s:=s) (i:=i) (j:=i+k) h0 Aa h1
 have w:=FF (s:=s') (i:=i') (j:=i'+k) e Aa l
 refine AP4 Aa λ j a b=>?_
 rw[PW e a Aa l,PW h0 a Aa h1]
 exact h j a Aa
theorem nZ{p:UInt8->Bool}: ∀ {l:A0},(∀b∈l,p b=true)->l.takeWhile p=l
 |[],_=>rfl
 |a::l,h=>by rw[List.takeWhile_cons,if_pos (h a (by simp)),nZ (λ b e=>h b (by simp[e]))]
theorem Y9{s s':A0}{i i':Int}(h0:0<=i)(b:0<=i')(h1:1<=rune s i)(hl:i<len s)(M:i'+rune s i<=len s')(h: ∀j,0<=j->j<rune s i->A4 s' (i'+j)=A4 s (i+j)):
  rune s' i'=rune s i/\B2 s' i'=B2 s i/\runeLen s' i'=runeLen s i:=by
 have Q:=L9 s i
 have hle:=rune_le s i hl
 have a0:A4 s' i'=A4 s i:=by have:=h 0 Aa Aa;rwa [Int.add_zero,Int.add_zero]at this
 have z:2<=rune s i->A4 s' (i'+1)=A4 s (i+1):=λ x=>h 1 Aa Aa
 have a2:3<=rune s i->A4 s' (i'+2)=A4 s (i+2):=λ x=>h 2 Aa Aa
 have a3:4<=rune s i->A4 s' (i'+3)=A4 s (i+3):=λ x=>h 3 Aa Aa
 have er:rune s' i'=rune s i:=by
  clear h
  generalize hk:rune s i=k at*
  unfold rune cont at hk ⊢
  dsimp only at hk ⊢
  rw[a0]
  simp only[Bool.and_eq_true,Bool.or_eq_true,decide_eq_true_eq,beq_iff_eq]at hk ⊢
  split at hk
  ·rw[if_pos (by assumption)];exact hk
  rename_i c0
  rw[if_neg c0]
  split at hk
  ·rename_i N
   subst hk
   have:=z Aa
   rw[if_pos Aa]
  rename_i N
  split at hk
  ·rename_i c2
   have O:k=3:=by split at hk<;>omega
   have A:=z Aa
   have e2:=a2 Aa
   rw[if_neg Aa,if_pos Aa,A]
   exact hk
  rename_i c2
  split at hk
  ·rename_i c3
   have P:k=4:=by split at hk<;>omega
   have A:=z Aa
   have e2:=a2 Aa
   have e3:=a3 Aa
   rw[if_neg Aa,if_neg Aa,if_pos Aa,A]
   exact hk
  ·omega
 refine⟨er,?_⟩
 have B:i'<len s':=by omega
 have D:=cT (s.length-i.toNat) (s.getD i.toNat 0).toNat (s.getD (i.toNat+1) 0).toNat (s.getD (i.toNat+2) 0).toNat (s.getD (i.toNat+3) 0).toNat (by unfold len at*;omega) (UInt8.toNat_lt _) (UInt8.toNat_lt _) (UInt8.toNat_lt _) (UInt8.toNat_lt _)
 have e:=cT (s'.length-i'.toNat) (s'.getD i'.toNat 0).toNat (s'.getD (i'.toNat+1) 0).toNat (s'.getD (i'.toNat+2) 0).toNat (s'.getD (i'.toNat+3) 0).toNat (by unfold len at*;omega) (UInt8.toNat_lt _) (UInt8.toNat_lt _) (UInt8.toNat_lt _) (UInt8.toNat_lt _)
 have r1:=cU h0 hl
 have R:=cU b B
 have q: ∀(t:A0) (x:Int),0<=x->B2 t x=((Lib.decodeN (t.length-x.toNat) (t.getD x.toNat 0).toNat (t.getD (x.toNat+1) 0).toNat (t.getD (x.toNat+2) 0).toNat (t.getD (x.toNat+3) 0).toNat).1:Nat)/\runeLen t x=((Lib.decodeN (t.length-x.toNat) (t.getD x.toNat 0).toNat (t.getD (x.toNat+1) 0).toNat (t.getD (x.toNat+2) 0).toNat (t.getD (x.toNat+3) 0).toNat).2:Nat):=λ t x hx=>by
  unfold B2 runeLen;rw[RO t x hx,X8 t x hx];exact⟨rfl,rfl⟩
 obtain⟨E,F⟩:=q s i h0
 obtain⟨G,H⟩:=q s' i' b
 rw[E,F,G,H]
 have C: ∀(t:A0) (x:Int),0<=x->A4 t x=((t.getD x.toNat 0).toNat:Int):=λ t x hx=>rfl
 have l:=λ(t:A0) (x:Int) (hx:0<=x) (j:Nat)=>X7 t x hx j
 rw[C s i h0,C s' i' b]at a0
 have J:A4 s (i+1)=_:=l s i h0 1
 have K:A4 s (i+2)=_:=l s i h0 2
 have L:A4 s (i+3)=_:=l s i h0 3
 have n:A4 s' (i'+1)=_:=l s' i' b 1
 have w:A4 s' (i'+2)=_:=l s' i' b 2
 have y:A4 s' (i'+3)=_:=l s' i' b 3
 rw[J,n]at z
 rw[K,w]at a2
 rw[L,y]at a3
 unfold cS at D e
 generalize (s.getD i.toNat 0).toNat=x0 at*
 generalize (s.getD (i.toNat+1) 0).toNat=x1 at*
 generalize (s.getD (i.toNat+2) 0).toNat=x2 at*
 generalize (s.getD (i.toNat+3) 0).toNat=x3 at*
 generalize (s'.getD i'.toNat 0).toNat=y0 at*
 generalize (s'.getD (i'.toNat+1) 0).toNat=y1 at*
 generalize (s'.getD (i'.toNat+2) 0).toNat=y2 at*
 generalize (s'.getD (i'.toNat+3) 0).toNat=y3 at*
 generalize PL (s.length-i.toNat) x0 x1 x2 x3=k at*
 generalize PL (s'.length-i'.toNat) y0 y1 y2 y3=k' at*
 generalize Lib.decodeN (s.length-i.toNat) x0 x1 x2 x3=d at*
 generalize Lib.decodeN (s'.length-i'.toNat) y0 y1 y2 y3=d' at*
 obtain⟨d1,d2⟩:=d
 obtain⟨A,e2⟩:=d'
 clear E F G H q C l J K L n w y h
 dsimp only at*
 rcases D with D|D|D|D|D<;>rcases e with e|e|e|e|e<;>first|(exfalso;omega)|(constructor<;>omega)
theorem eB{s s':A0}(hl:6<=len s')(h: ∀j,0<=j->j<6->A4 s' j=A4 s j)(h0:0<=C0 s):C0 s'=C0 s:=by
 by_cases hs:len s<6\/ ¬A4 s 0=92\/ ¬A4 s (0+1)=117
 ·have:=n8 (s:=s) (i:=0) Aa Aa
  rw[OA]at this;omega
 ·have e:=Y1 (s:=s) (i:=0) Aa Aa Aa Aa
  have e2:=Y1 (s:=s') (i:=0) Aa Aa (by rw[h 0 Aa Aa];omega) (by rw[h (0+1) Aa Aa];omega)
  rw[OA]at e e2
  have e3:Eng.sub s' (0+2) (0+6)=Eng.sub s (0+2) (0+6):=AP5 (k:=4) Aa Aa Aa Aa Aa (λ j a b=>h _ Aa Aa)
  rw[e,e2,e3]
theorem o3{s s':A0}(h0:(BW s).2≠0)(hl:(BW s).2<=len s')(h: ∀j,0<=j->j<(BW s).2->A4 s' j=A4 s j):BW s'=BW s:=by
 generalize hk:(BW s).2=k at*
 unfold BW at hk ⊢
 by_cases c1:len s<2
 ·rw[if_pos c1]at hk;exact absurd hk.symm h0
 rw[if_neg c1]at hk ⊢
 by_cases c2:KI (A4 s 1)=true
 ·rw[if_pos c2]at hk ⊢
  have i:k=2:=hk.symm
  rw[if_neg Aa,h 1 Aa Aa,if_pos c2]
 rw[if_neg c2]at hk ⊢
 by_cases c3:C0 s<0\/(56320<=C0 s/\C0 s<57344)
 ·rw[if_pos c3]at hk;exact absurd hk.symm h0
 rw[if_neg c3]at hk ⊢
 by_cases c4:C0 s<55296\/57344<=C0 s
 ·rw[if_pos c4]at hk ⊢
  have i:k=6:=hk.symm
  have e:=eB (s:=s) (s':=s') Aa (λ j a b=>h j a Aa) Aa
  rw[if_neg Aa,h 1 Aa Aa,if_neg c2,e,if_neg c3,if_pos c4]
 rw[if_neg c4]at hk ⊢
 by_cases c5:C0 (A5 s 6)<56320\/57344<=C0 (A5 s 6)
 ·rw[if_pos c5]at hk;exact absurd hk.symm h0
 rw[if_neg c5]at hk ⊢
 have i:k=12:=hk.symm
 have e:=eB (s:=s) (s':=s') Aa (λ j a b=>h j a Aa) Aa
 have e2:=eB (s:=A5 s 6) (s':=A5 s' 6) (by rw[EB s' 6 Aa Aa];omega) (λ j a b=>by rw[O0 _ _ _ Aa a,O0 _ _ _ Aa a];exact h _ Aa Aa) Aa
 rw[if_neg Aa,h 1 Aa Aa,if_neg c2,e,if_neg c3,if_neg c4,e2,if_neg c5]
theorem eC{s s':A0}{n:Int}(l:n<=len s')(q: ∀j,0<=j->j<n->A4 s' j=A4 s j): ∀(f w:Nat) (i:Int) (acc:List Int) (x:A0),0<=i->i<=len s->DQ f s i acc=(x,n,0)->(len s'-i).toNat<=w->DQ w s' i acc=(x,n,0)
 |0,_,_,_,_,_,_,h,_=>by unfold DQ at h;simp at h
 |f+1,w,i,acc,x,h0,hi,h,E=>by
  have z:=XH (f:=f+1) (s:=s) (i:=i) (acc:=acc) h0 hi
  rw[h]at z
  dsimp only at z
  have A:i<n:=z.2.2.1 U
  have hl:i<len s:=by omega
  have y:i<len s':=by omega
  rw[RN E y]
  unfold DQ at h
  rw[if_pos hl]at h
  have B:A4 s' i=A4 s i:=q i h0 A
  rw[RP s i h0,PM s i h0]at h
  rw[RP s' i h0,PM s' i h0]
  have low: ∀c:Int,c<128->(B2 s' i=c↔B2 s i=c):=λ c C=>by rw[J9 h0 hl C,J9 h0 y C,B]
  by_cases c1:B2 s i=34
  ·rw[if_pos c1]at h;rw[if_pos ((low 34 Aa).2 c1)];exact h
  rw[if_neg c1]at h
  rw[if_neg (λ e=>c1 ((low 34 Aa).1 e))]
  by_cases c2:B2 s i=92
  ·rw[if_pos c2]at h;rw[if_pos ((low 92 Aa).2 c2)]
   by_cases c3:(BW (A5 s i)).2=0
   ·rw[if_pos c3]at h;simp at h
   rw[if_neg c3]at h
   have F:=EB s i h0 hi
   have D:=EB s' i h0 Aa
   have he:=XD (A5 s i)
   have k:=XH (f:=f) (s:=s) (i:=i+(BW (A5 s i)).2) (acc:=acc++Lib.encodeRuneZ (BW (A5 s i)).1) Aa Aa
   rw[h]at k
   dsimp only at k
   have:=k.2.2.1 U
   have e:BW (A5 s' i)=BW (A5 s i):=o3 c3 Aa (λ j a b=>by rw[O0 _ _ _ h0 a,O0 _ _ _ h0 a];exact q _ Aa Aa)
   rw[e,if_neg c3]
   exact eC l q f (w-1) _ _ x Aa Aa h Aa
  ·rw[if_neg c2]at h
   rw[if_neg (λ e=>c2 ((low 92 Aa).1 e))]
   by_cases c3:B2 s i<32\/(B2 s i=65533/\runeLen s i=1)
   ·rw[if_pos c3]at h;simp at h
   rw[if_neg c3]at h
   have J:=cW h0 hl
   have K:rune s i≠0:=λ e=>c3 (.inr ((Y0 h0 hl).1 e))
   have G:=L9 s i
   have H:runeLen s i=rune s i:=by rcases LP h0 hl with d|d<;>omega
   have k:=XH (f:=f) (s:=s) (i:=i+runeLen s i) (acc:=acc++Lib.encodeRuneZ (B2 s i)) Aa Aa
   rw[h]at k
   dsimp only at k
   have:=k.2.2.1 U
   obtain⟨_,e2,e3⟩:=Y9 (s:=s) (s':=s') (i:=i) (i':=i) h0 h0 Aa hl Aa (λ j a b=>q _ Aa Aa)
   rw[e2,e3,if_neg c3]
   exact eC l q f (w-1) _ _ x Aa Aa h Aa
theorem o4{u v v':A0}{x:A0}(h:B4 (u++v)=(x,len u,0)):B4 (u++v')=(x,len u,0):=by
 have i:=O1 (u++v)
 rw[h]at i
 dsimp only at i
 have s:2<=len u:=i.2.2.1 U
 have l: ∀j,0<=j->j<len u->A4 (u++v') j=A4 (u++v) j:=λ j a b=>by rw[I5 a b,I5 a b]
 have y:=AO u v
 have q:=AO u v'
 have p1:=A8 v
 have p2:=A8 v'
 have k: ∀w:A0,¬u++w=[]:=λ w e=>by have:=congrArg len e;rw[AO,len_nil]at this;have:=A8 w;omega
 unfold B4 at h ⊢
 by_cases c:Lib.hasPrefix (u++v) [34]=true
 ·rw[if_pos c]at h
  rw[if_pos (LX.2 ⟨k v',by rw[l 0 Aa Aa];exact(LX.1 c).2⟩)]
  exact eC (n:=len u) Aa l _ _ 1 [] x Aa Aa h (by unfold len;omega)
 ·rw[if_neg c]at h;simp at h
def K7(c:Int):Bool:=NO c||c==40||c==41||c==44||c==58||c==91||c==93||c==125
def Stop(v v':A0):Prop:=v'=[]\/(v'≠[]/\K7 (A4 v' 0)=true)\/(v≠[]/\v'≠[]/\A4 v' 0=A4 v 0)
theorem KO{α:Type}{l:List α}:l≠[]↔0<len l:=⟨λ h=>GL h,λ h e=>by rw[e,len_nil]at h;omega⟩
theorem Q0{s:A0}{n:Int}(k:n<=len s)(b: ∀j:Int,0<=j->j<n->CF (A4 s j) (j==0)=true)(hs:n<len s->CF (A4 s n) (n==0)=false)(i:Int)(h0:0<=i)(hi:i<=n):CP s i=n:=by
 by_cases h:i<n
 ·rw[<-TF h0 Aa (b i h0 h)]
  exact Q0 k b hs (i+1) Aa Aa
 ·have e:i=n:=by omega
  subst e
  by_cases hl:i<len s
  ·exact TG h0 hl (hs hl)
  ·exact TH hl
termination_by (n-i).toNat
theorem YA{s:A0}: ∀(i:Int),0<=i->(∀j:Int,i<=j->j<CP s i->CF (A4 s j) (j==0)=true)/\(i<=len s->CP s i<len s->CF (A4 s (CP s i)) (CP s i==0)=false):=by
 intro i h0
 by_cases hlt:i<len s
 ·cases hw:CF (A4 s i) (i==0)with
  |true=>
   have:=YA (s:=s) (i+1) Aa
   rw[TF h0 hlt hw]at this
   refine⟨λ j a b=>?_,λ a b=>this.2 Aa b⟩
   by_cases e:j=i
   ·subst e;exact hw
   ·exact this.1 j Aa b
  |false=>rw[TG h0 hlt hw];exact⟨λ j a b=>by omega,λ _ _=>hw⟩
 ·rw[TH hlt];exact⟨λ j a b=>by omega,λ a b=>by omega⟩
termination_by i=>(len s-i).toNat
theorem o5{c:Int}{f:Bool}(h:K7 c=true):CF c f=false:=by
 unfold K7 NO at h
 unfold CF F2 C5
 simp only[Bool.or_eq_true,beq_iff_eq]at h
 rw[<-Bool.not_eq_true]
 simp only[Bool.or_eq_true,Bool.and_eq_true,decide_eq_true_eq,beq_iff_eq]
 omega
theorem eD{u v v':A0}(h:BD (u++v)=u)(l:Stop v v'):BD (u++v')=u:=by
 have hl:CP (u++v) 0=len u:=by rw[<-LR,h]
 have ho:=YA (s:=u++v) 0 Aa
 rw[hl]at ho
 have z:=AO u v
 have y:=AO u v'
 have p1:=A8 u
 have p2:=A8 v'
 have A:=LQ (s:=u++v) (i:=0) Aa (A8 _)
 have e:CP (u++v') 0=len u:=by
  refine Q0 Aa (λ j a b=>?_) (λ a=>?_) 0 Aa Aa
  ·rw[I5 a b,<-I5 (v:=v) a b];exact ho.1 j a b
  ·have e0: ∀w:A0,A4 (u++w) (len u)=A4 w 0:=λ w=>by have:=Y8 (u:=u) (v:=w) (k:=0) Aa;rwa [Int.add_zero]at this
   rw[e0]
   rcases l with l|⟨_,l⟩|⟨n,_,q⟩
   ·subst l;rw[len_nil]at y;omega
   ·exact o5 l
   ·rw[q,<-e0 v];exact ho.2 Aa (by have:=KO.1 n;omega)
 unfold BD;rw[e,UY]
theorem KP{s:A0}(h:F2 (A4 s 0)=false):BD s=[]:=by
 have e:CP s 0=0:=by
  by_cases hl:0<len s
  ·exact TG Aa hl (by unfold CF;rw[h];rfl)
  ·exact TH hl
 unfold BD;rw[e];rfl
theorem AP6{s:A0}(h0:0<len s)(h:F2 (A4 s 0)=true):BD s≠[]:=by
 have e:=TF (s:=s) (i:=0) Aa h0 (by unfold CF;rw[h];rfl)
 have b:=LQ (s:=s) (i:=0+1) Aa Aa
 rw[KO,LR];omega
theorem o6{p:UInt8->Bool}{v v':A0}(e:v'=[]\/(∃b r,v'=b::r/\p b=false)): ∀ {u:A0},(u++v).takeWhile p=u->(u++v').takeWhile p=u
 |[],_=>by
  rcases e with rfl|⟨b,r,rfl,i⟩
  ·rfl
  ·simp[List.takeWhile_cons,i]
 |a::u,h=>by
  rw[List.cons_append,List.takeWhile_cons]at h ⊢
  split at h
  ·rename_i j
   rw[if_pos j,o6 e (List.cons.inj h).2]
  ·cases h
theorem AP7{b:UInt8}(h:K7 (b.toNat:Int)=true):IJ b=false:=by
 cases hn:IJ b with
 |false=>rfl
 |true=>
  rw[dR]at hn
  unfold K7 NO at h
  simp only[Bool.or_eq_true,beq_iff_eq]at h
  omega
theorem AP8{p:UInt8->Bool}(hp: ∀b:UInt8,K7 (b.toNat:Int)=true->p b=false){v v':A0}(e:Stop v v')(h:v=[]\/ ∃b r,v=b::r/\p b=false):v'=[]\/ ∃b r,v'=b::r/\p b=false:=by
 cases v' with
 |nil=>exact .inl U
 |cons b r=>
  refine .inr ⟨b,r,rfl,?_⟩
  rcases e with e|⟨_,e⟩|⟨i,_,j⟩
  ·cases e
  ·exact hp b e
  ·rcases h with h|⟨c,q,h,k⟩
   ·exact absurd h i
   ·subst h
    have:b=c:=UInt8.toNat_inj.1 (by rw[FT,FT]at j;omega)
    rw[this];exact k
theorem o7{p:UInt8->Bool}{v:A0}: ∀ {u:A0},(u++v).takeWhile p=u->v=[]\/ ∃b r,v=b::r/\p b=false
 |[],h=>by
  cases v with
  |nil=>exact .inl U
  |cons b r=>
   refine .inr ⟨b,r,rfl,?_⟩
   rw[List.nil_append,List.takeWhile_cons]at h
   split at h
   ·cases h
   ·rename_i e;simpa using e
 |a::u,h=>by
  rw[List.cons_append,List.takeWhile_cons]at h
  split at h
  ·exact o7 (List.cons.inj h).2
  ·cases h
theorem o8{u v v':A0}(h:runN (u++v)=u)(e:Stop v v'):runN (u++v')=u:=by
 rw[XA]at h ⊢
 exact o6 (AP8 (λ b=>AP7) e (o7 h)) h
def Q1(b:UInt8):Bool:=([61,33,60,62,46,124,44,58,40,41,91,93,123,125,63]:A0).contains b
theorem Q2{a:UInt8}{s:A0}(h:Q1 a=false):EM (a::s)=[]:=by
 have i: ∀m∈G7,Lib.hasPrefix (a::s) m=false:=by
  intro m hm
  cases hp:Lib.hasPrefix (a::s) m with
  |false=>rfl
  |true=>
   exfalso
   have j: ∀m∈G7,m≠[]/\Q1 (m.headD 0)=true:=by decide+kernel
   obtain⟨k,e⟩:=j m hm
   cases m with
   |nil=>exact k U
   |cons b r=>
   have e:Q1 b=true:=e
   have:=List.isPrefixOf_iff_prefix.1 hp
   rw[List.cons_prefix_cons]at this
   rw[<-this.1,e]at h;cases h
 unfold EM
 rw[List.find?_eq_none.2 (λ m hm=>by rw[i m hm];simp)]
 rfl
theorem AP9{u v v':A0}(hu:u≠[])(h:EM (u++v)=u)(i:Stop v v'):EM (u++v')=u:=by
  have hm:u∈G7:=by
                             rcases RT (u++v)with e|e
                             · exact absurd (h.symm.trans e) hu
                             · rw[h]at e;exact e.1
  have two: ∀m∈G7,(∃a,m=[a,61])\/ ∃a,m=[a]:=by
    have s: ∀m∈G7,m=[m.headD 0,61]\/m=[m.headD 0]:=by decide+kernel
    intro m hm
    rcases s m hm with e|e
    · exact .inl ⟨_,e⟩
    · exact .inr ⟨_,e⟩
  have one: ∀m∈G7,∀w:A0,w=[]\/A4 w 0≠61\/(∃a,m=[a,61])\/(m≠[60]/\m≠[62])->EM (m++w)=m:=by
    intro m hm w hw
    simp only[G7,List.mem_cons,List.not_mem_nil,or_false]at hm
    cases w with
    |nil=>rcases hm with rfl|rfl|rfl|rfl|rfl|rfl|rfl|rfl|rfl|rfl|rfl|rfl|rfl|rfl|rfl|rfl|rfl<;>rfl
    |cons b r=>
      have j:b=61\/ ¬(61:UInt8)=b:=by by_cases e:b=61;exact .inl e;exact .inr (λ x=>e x.symm)
      have k:A4 (b::r) 0≠61-> ¬(61:UInt8)=b:=λ x e=>x (by rw[<-e];rfl)
      rcases hm with rfl|rfl|rfl|rfl|rfl|rfl|rfl|rfl|rfl|rfl|rfl|rfl|rfl|rfl|rfl|rfl|rfl<;>
        first
          |rfl
          |(
             have l: ¬(61:UInt8)=b:=by
               rcases hw with hw|hw|⟨a,hw⟩|hw
               · cases hw
               · exact k hw
               · simp at hw
               · simp at hw
             simp[EM,G7,List.find?,Lib.hasPrefix,List.isPrefixOf,(beq_eq_false_iff_ne.2 l)])
          |(
             rcases j with rfl|l
             · rfl
             · simp[EM,G7,List.find?,Lib.hasPrefix,List.isPrefixOf,(beq_eq_false_iff_ne.2 l)])
  refine one u hm v' ?_
  rcases two u hm with e|⟨a,e⟩
  ·exact .inr (.inr (.inl e))
  ·rcases i with i|⟨_,i⟩|⟨n,_,q⟩
   ·exact .inl i
   ·refine .inr (.inl λ x=>?_);rw[x]at i;exact absurd i Ab
   ·by_cases e2:u≠[60]/\u≠[62]
    ·exact .inr (.inr (.inr e2))
    ·refine .inr (.inl λ x=>?_)
     rw[q]at x
     cases v with
     |nil=>exact n U
     |cons b r=>
          have j:b=61:=UInt8.toNat_inj.1 (by rw[FT]at x;exact Int.ofNat_inj.1 x)
          subst j
          have:u=[60]\/u=[62]:=by
            by_cases e3:u=[60]
            · exact .inl e3
            · exact .inr (Classical.byContradiction λ e4=>e2 ⟨e3,e4⟩)
          rcases this with rfl|rfl
          · exact absurd h (show ¬([60,61]:A0)=[60] by decide)
          · exact absurd h (show ¬([62,61]:A0)=[62] by decide)
theorem eE{a:UInt8}(h:F2 (a.toNat:Int)=true):Q1 a=false:=by
 have: ∀n:Fin 256,F2 (n.val:Int)=true->Q1 (UInt8.ofNat n.val)=false:=by decide+kernel
 have:=this ⟨a.toNat,a.toNat_lt⟩ h
 simpa using this
theorem o9{a:UInt8}(h:(a.toNat:Int)=45\/C5 (a.toNat:Int)=true):Q1 a=false/\F2 (a.toNat:Int)=false:=by
 have: ∀n:Fin 256,((n.val:Int)=45\/C5 (n.val:Int)=true)->Q1 (UInt8.ofNat n.val)=false/\F2 (n.val:Int)=false:=by decide+kernel
 have:=this ⟨a.toNat,a.toNat_lt⟩ h
 simpa using this
theorem eF{c:Int}(h:K7 c=true):F2 c=false/\c≠34:=by
 unfold K7 NO at h
 simp only[Bool.or_eq_true,beq_iff_eq]at h
 unfold F2
 rw[<-Bool.not_eq_true]
 simp only[Bool.or_eq_true,Bool.and_eq_true,decide_eq_true_eq,beq_iff_eq]
 omega
theorem UZ(a:UInt8)(l:A0):A5 (a::l) 1=l:=rfl
theorem eG{u v v':A0}{t:Tk}(hu:u≠[])(h:C1 (u++v)=(t,len u,0))(i:Stop v v'):C1 (u++v')=(t,len u,0):=by
 cases u with
 |nil=>exact absurd U hu
 |cons a u=>
 have hp:=A8 u
 rw[AL]at h ⊢
 rw[List.cons_append]at h ⊢
 have j: ∀ {l m:A0},m≠[]->EM l=m-> ∃r,m++r=l:=λ{l m} hm e=>by
  rcases RT l with e2|e2
  ·exact absurd (e.symm.trans e2) hm
  ·rw[e]at e2;exact List.isPrefixOf_iff_prefix.1 e2.2
 have cut: ∀ {l x:A0},x++[]++(A5 l (len x))=l->True:=λ _=>trivial
 unfold C1 at h ⊢
 rw[FT,UZ]at h ⊢
 by_cases c1:(a.toNat:Int)=46/\BD (u++v)≠[]
 ·rw[if_pos c1]at h
  simp only[Prod.mk.injEq]at h
  obtain⟨h1,q,_⟩:=h
  have hl:len (BD (u++v))=len u:=by omega
  have hw:BD (u++v)=u:=by
   have:BD (u++v)=Eng.sub (u++v) 0 (CP (u++v) 0):=rfl
   rw[this,<-LR,hl,UY]
  have w:=eD hw i
  rw[hw]at c1 h1
  rw[w,if_pos c1,h1,Int.add_comm]
 rw[if_neg c1]at h
 by_cases c2:(a.toNat:Int)=46/\Lib.hasPrefix (u++v) [34]=true
 ·rw[if_pos c2]at h
  simp only[Prod.mk.injEq]at h
  obtain⟨h1,q,K⟩:=h
  have L:B4 (u++v)=((B4 (u++v)).1,len u,0):=by
   rw[show(B4 (u++v))=((B4 (u++v)).1,(B4 (u++v)).2.1,(B4 (u++v)).2.2)from rfl,K,show(B4 (u++v)).2.1=len u from by omega]
  have y:=o4 (v':=v') L
  have O:=O1 (u++v)
  rw[K,show(B4 (u++v)).2.1=len u from by omega]at O
  have P:=O.2.2.1 U
  have k:=(LX.1 c2.2).2
  rw[I5 Aa Aa]at k
  have z:A4 (u++v') 0=34:=by rw[I5 Aa Aa];exact k
  have B:BD (u++v')=[]:=KP (by rw[z];rfl)
  rw[if_neg (λ x=>x.2 B),if_pos ⟨c2.1,LX.2 ⟨λ e=>by have:=congrArg len e;rw[AO,len_nil]at this;have:=A8 v';omega,z⟩⟩,y,<-h1]
  simp only[Prod.mk.injEq,true_and,and_true]
  omega
 rw[if_neg c2]at h
 by_cases c3:EM (a::(u++v))≠[]
 ·rw[if_pos c3]at h
  simp only[Prod.mk.injEq]at h
  obtain⟨h1,q,_⟩:=h
  obtain⟨r,A⟩:=j c3 rfl
  have hm:EM ((a::u)++v)=a::u:=by
   rw[List.cons_append]
   have hl:(EM (a::(u++v))).length=(a::u).length:=by rw[List.length_cons];unfold len at q;omega
   rw[<-List.cons_append]at A
   exact(List.append_inj A hl).1
  have G:=AP9 (by simp) hm i
  rw[List.cons_append]at hm G
  have Q: ¬((a.toNat:Int)=46/\BD (u++v')≠[]):=by
   rintro⟨H,hw⟩
   have C:u=[]:=by
    have D:a::u∈G7:=by
     rcases RT (a::(u++v))with e|e
     ·exact absurd e c3
     ·rw[hm]at e;exact e.1
    have: ∀m∈G7,A4 m 0=46->A5 m 1=[]:=by decide+kernel
    exact this _ D H
   subst C
   rw[List.nil_append]at hw c1
   have M:BD v=[]:=Classical.byContradiction λ e=>c1 ⟨H,e⟩
   apply hw
   rcases i with i|⟨_,i⟩|⟨E,_,F⟩
   ·rw[i];exact KP U
   ·exact KP (eF i).1
   ·refine KP ?_
    rw[F]
    cases hh:F2 (A4 v 0)with
    |false=>rfl
    |true=>exact absurd M (AP6 (KO.1 E) hh)
  have R: ¬((a.toNat:Int)=46/\Lib.hasPrefix (u++v') [34]=true):=by
   rintro⟨H,hw⟩
   have C:u=[]:=by
    have D:a::u∈G7:=by
     rcases RT (a::(u++v))with e|e
     ·exact absurd e c3
     ·rw[hm]at e;exact e.1
    have: ∀m∈G7,A4 m 0=46->A5 m 1=[]:=by decide+kernel
    exact this _ D H
   subst C
   rw[List.nil_append]at hw c2
   have k:=LX.1 hw
   rcases i with i|⟨_,i⟩|⟨E,_,F⟩
   ·exact k.1 i
   ·exact(eF i).2 k.2
   ·exact c2 ⟨H,LX.2 ⟨E,by rw[<-F];exact k.2⟩⟩
  rw[if_neg Q,if_neg R,G,if_pos (by simp),<-h1,hm,AL]
 rw[if_neg c3]at h
 have S:EM (a::(u++v))=[]:=Classical.byContradiction c3
 by_cases c4:BD (a::(u++v))≠[]
 ·rw[if_pos c4]at h
  simp only[Prod.mk.injEq]at h
  obtain⟨h1,q,_⟩:=h
  have hw:BD ((a::u)++v)=a::u:=by
   have:BD ((a::u)++v)=Eng.sub ((a::u)++v) 0 (CP ((a::u)++v) 0):=rfl
   rw[this,<-LR,List.cons_append,q,<-AL a,<-List.cons_append,UY]
  have w:=eD hw i
  rw[List.cons_append]at hw w
  have n:F2 (a.toNat:Int)=true:=by
   cases hh:F2 (a.toNat:Int)with
   |true=>rfl
   |false=>exact absurd (KP (s:=a::(u++v)) hh) c4
  have b: ¬(a.toNat:Int)=46:=λ e=>by rw[e]at n;cases n
  rw[if_neg (λ x=>b x.1),if_neg (λ x=>b x.1),Q2 (eE n),if_neg (λ x=>x U),w,if_pos (by simp),<-h1,hw,AL]
 rw[if_neg c4]at h
 have T:BD (a::(u++v))=[]:=Classical.byContradiction c4
 by_cases c5:(a.toNat:Int)=34
 ·rw[if_pos c5]at h
  simp only[Prod.mk.injEq]at h
  obtain⟨h1,q,K⟩:=h
  have V:a=34:=UInt8.toNat_inj.1 (by show a.toNat=34;omega)
  subst V
  have L:B4 ((34::u)++v)=((B4 (34::(u++v))).1,len ((34:UInt8)::u),0):=by
   rw[List.cons_append,show(B4 (34::(u++v)))=((B4 (34::(u++v))).1,(B4 (34::(u++v))).2.1,(B4 (34::(u++v))).2.2)from rfl,K,q,AL]
  have y:=o4 (v':=v') L
  rw[List.cons_append]at y
  have B:BD (34::(u++v'))=[]:=KP U
  have N:EM (34::(u++v'))=[]:=Q2 U
  rw[if_neg (λ x=>absurd x.1 Ab),if_neg (λ x=>absurd x.1 Ab),N,if_neg (λ x=>x U),B,if_neg (λ x=>x U),if_pos c5,y,<-h1,AL]
 rw[if_neg c5]at h
 by_cases c6:(a.toNat:Int)=45\/C5 (a.toNat:Int)=true
 ·rw[if_pos c6]at h
  by_cases c7:(GC (runN (a::(u++v)))).2.2≠0
  ·rw[if_pos c7]at h
   simp only[Prod.mk.injEq]at h
   exact absurd h.2.2 c7
  ·rw[if_neg c7]at h
   simp only[Prod.mk.injEq]at h
   obtain⟨h1,q,_⟩:=h
   have A:runN ((a::u)++v)=a::u:=by
    have j:=List.takeWhile_prefix IJ (l:=(a::u)++v)
    rw[<-XA]at j
    obtain⟨r,A⟩:=j
    have hl:(runN ((a::u)++v)).length=(a::u).length:=by rw[List.length_cons,List.cons_append];unfold len at q;omega
    exact(List.append_inj A hl).1
   have J:=o8 A i
   rw[List.cons_append]at A J
   obtain⟨g1,g2⟩:=o9 c6
   have b: ¬(a.toNat:Int)=46:=λ e=>by rw[e]at c6;revert c6;decide
   rw[A]at c7 h1
   rw[if_neg (λ x=>b x.1),if_neg (λ x=>b x.1),Q2 g1,if_neg (λ x=>x U),KP (s:=a::(u++v')) g2,if_neg (λ x=>x U),if_neg c5,if_pos c6,J,if_neg c7,<-h1,AL]
 ·rw[if_neg c6]at h
  simp only[Prod.mk.injEq]at h
  exact absurd h.2.2 Ab
def D4(x:Nat):Bool:=C5 (x:Int)
theorem YB(x:Nat):D4 x=true↔48<=x/\x<=57:=by unfold D4 C5;simp;omega
theorem AQ0(x:Nat):D4 x=false↔ ¬(48<=x/\x<=57):=by rw[<-YB];simp
theorem oA{s:A0}{i:Nat}(h:i<s.length)(b:D4 (s[i]).toNat=true):Utf8.decode ⟨⟨s⟩⟩ i=((s[i]).toNat,1):=by
 have:=decode_ascii ⟨⟨s⟩⟩ i h (by have:=(YB _).1 b;show(s[i]).toNat<128;omega)
 exact this
theorem AQ1{s:A0}{i:Nat}(h:i<s.length)(b:D4 (s[i]).toNat=false):D4 (Utf8.decode ⟨⟨s⟩⟩ i).1=false:=by
 rcases Nat.lt_or_ge (s[i]).toNat 128 with hl|hl
 ·have:=decode_ascii ⟨⟨s⟩⟩ i h hl
  rw[this];exact b
 ·have:=decode_high ⟨⟨s⟩⟩ i h hl
  rw[AQ0];omega
theorem oB(s:A0): ∀(f pos:Nat),s.length<=pos+f->(∀(j:Nat) (h:j<s.length),pos<=j->D4 (s[j]).toNat=true)->Lib.idxFuncFrom D4 false ⟨⟨s⟩⟩ f pos= -1
 |0,_,_,_=>rfl
 |f+1,pos,hl,b=>by
  unfold Lib.idxFuncFrom
  by_cases h:pos<s.length
  ·rw[if_pos (show pos<(ByteArray.mk ⟨s⟩).size from h),oA h (b pos h (Nat.le_refl _)),if_neg (by rw[b pos h (Nat.le_refl _)];simp)]
   exact oB s f (pos+1) Aa (λ j e hp=>b j e Aa)
  ·rw[if_neg (show ¬pos<(ByteArray.mk ⟨s⟩).size from h)]
theorem oC(s:A0): ∀(f pos:Nat),s.length<=pos+f->(∃(j:Nat) (h:j<s.length),pos<=j/\D4 (s[j]).toNat=false)-> ∃(i:Nat) (h:i<s.length),Lib.idxFuncFrom D4 false ⟨⟨s⟩⟩ f pos=(i:Int)/\D4 (s[i]).toNat=false
 |0,pos,hl,⟨j,k,hp,_⟩=>by omega
 |f+1,pos,hl,⟨j,k,hp,b⟩=>by
  unfold Lib.idxFuncFrom
  have h:pos<s.length:=by omega
  rw[if_pos (show pos<(ByteArray.mk ⟨s⟩).size from h)]
  cases hf:D4 (s[pos]).toNat with
  |true=>
   rw[oA h hf,if_neg (by rw[hf];simp)]
   have l:pos≠j:=by intro e;subst e;rw[hf]at b;cases b
   exact oC s f (pos+1) Aa ⟨j,k,Aa,b⟩
  |false=>
   rw[if_pos (AQ1 h hf)]
   exact⟨pos,h,rfl,hf⟩
theorem oD(t:A0)(h0: ∃h:0<t.length,D4 (t[0]).toNat=false): ∀(f i:Nat),0<i->i<=t.length->i<=f->0<=Lib.lastIdxFuncFrom D4 false ⟨⟨t⟩⟩ f i
 |0,i,hi,_,y=>by omega
 |f+1,i,hi,hl,y=>by
  obtain⟨z,w⟩:=h0
  unfold Lib.lastIdxFuncFrom
  rw[if_pos hi]
  show 0<=if D4 (Lib.decodeLastL (t.take i)).1=false then _ else _
  split
  ·omega
  ·rename_i hp
   have j:D4 (Lib.decodeLastL (t.take i)).1=true:=by simpa using hp
   have k:=(YB _).1 j
   have hlen:(t.take i).length=i:=by rw[List.length_take];omega
   have hw:Lib.decodeLastL (t.take i)=((t[i-1]'Aa).toNat,1):=by
    have s: ¬t.take i=[]:=by intro e;rw[e]at hlen;simp at hlen;omega
    have hg:(t.take i).getD ((t.take i).length-1) 0=t[i-1]'Aa:=by
     rw[hlen,List.getD_eq_getElem?_getD,List.getElem?_take,if_pos Aa]
     simp[show i-1<t.length from by omega]
    unfold Lib.decodeLastL at k ⊢
    rw[if_neg s,hg]at k ⊢
    by_cases hc:(t[i-1]'Aa).toNat<128
    ·rw[if_pos hc]
    ·exfalso
     rw[if_neg hc]at k
     dsimp only at k
     split at k
     ·rename_i l
      have A:Lib.lastStart (t.take i)<(t.take i).length:=by
       rcases Nat.lt_or_ge (Lib.lastStart (t.take i)) (t.take i).length with h|h
       ·exact h
       ·exfalso
        have e0:(t.take i).drop (Lib.lastStart (t.take i))=[]:=by rw[List.drop_eq_nil_iff];exact h
        rw[e0]at k
        have:(Lib.decodeL []).1=0:=by decide
        omega
      have hd:Utf8.decode ⟨⟨(t.take i).drop (Lib.lastStart (t.take i))⟩⟩ 0=Lib.decodeL ((t.take i).drop (Lib.lastStart (t.take i))):=rfl
      have n:0<((t.take i).drop (Lib.lastStart (t.take i))).length:=by rw[List.length_drop];omega
      have b:(((t.take i).drop (Lib.lastStart (t.take i)))[0]).toNat<128:=by
       rcases Nat.lt_or_ge (((t.take i).drop (Lib.lastStart (t.take i)))[0]).toNat 128 with h|h
       ·exact h
       ·have:=decode_high ⟨⟨(t.take i).drop (Lib.lastStart (t.take i))⟩⟩ 0 n h
        rw[hd]at this;omega
      have q:=decode_ascii ⟨⟨(t.take i).drop (Lib.lastStart (t.take i))⟩⟩ 0 n b
      rw[hd]at q
      rw[q]at l
      have B:Lib.lastStart (t.take i)=i-1:=by rw[hlen]at l;simp only at l;omega
      apply hc
      have e2:((t.take i).drop (Lib.lastStart (t.take i)))[0]=t[i-1]'Aa:=by
       rw[List.getElem_drop,List.getElem_take];first|done|congr 1|(congr 1;omega)
      rw[<-e2];exact b
     ·have:Utf8.runeError=65533:=rfl
      simp only[this]at k;omega
   rw[hw]
   by_cases hi1:i=1
   ·exfalso
    subst hi1
    rw[hw]at j
    have:D4 (t[0]).toNat=true:=j
    rw[w]at this;cases this
   ·exact oD t ⟨z,w⟩ f (i-1) Aa Aa Aa
theorem YC{s:A0}:IY s=true↔ ∀(j:Nat) (h:j<s.length),D4 (s[j]).toNat=true:=by
 have key: ∀(k:Nat) (i:Int),0<=i->(len s-i).toNat<=k->(KG s i=true↔ ∀(j:Nat) (h:j<s.length),i<=(j:Int)->D4 (s[j]).toNat=true):=by
  intro k
  induction k with
  |zero=>
   intro i h0 n
   rw[aB s i Aa]
   exact⟨λ _ j h b=>by unfold len at n;omega,λ _=>rfl⟩
  |succ k q=>
   intro i h0 n
   by_cases hlt:i<len s
   ·obtain⟨w,he⟩:=xG h0 hlt
    by_cases hf:C5 (A4 s i)=true
    ·rw[<-j4 s i h0 hlt hf,q (i+1) Aa Aa]
     constructor
     ·intro h j b l
      by_cases e:(j:Int)=i
      ·have y:j=i.toNat:=by omega
       subst y
       unfold D4;rw[<-he];exact hf
      ·exact h j b Aa
     ·intro h j b l;exact h j b Aa
    ·rw[j5 s i h0 hlt hf]
     constructor
     ·intro h;cases h
     ·intro h
      have:=h i.toNat w Aa
      unfold D4 at this
      rw[<-he]at this
      exact absurd this hf
   ·rw[aB s i hlt]
    exact⟨λ _ j h b=>by unfold len at hlt;omega,λ _=>rfl⟩
 have:=key (len s-0).toNat 0 (Int.le_refl 0) (Nat.le_refl _)
 unfold IY
 rw[this]
 exact⟨λ h j b=>h j b Aa,λ h j b _=>h j b⟩
theorem YD(l:A0)(i j:Nat):(ByteArray.mk ⟨l⟩).extract i j=ByteArray.mk ⟨(l.drop i).take (j-i)⟩:=by
 have:=ByteArray.extract_mk l i j
 rw[this]
theorem AQ2(s:A0):((Lib.trimF D4 ⟨⟨s⟩⟩).data.toList==[])=IY s:=by
 rw[Bool.eq_iff_iff,beq_iff_eq]
 have w:(ByteArray.mk ⟨s⟩).size=s.length:=rfl
 by_cases ha: ∀(j:Nat) (h:j<s.length),D4 (s[j]).toNat=true
 ·refine⟨λ _=>YC.2 ha,λ _=>?_⟩
  have hi:Lib.idxFunc D4 false ⟨⟨s⟩⟩= -1:=oB s s.length 0 Aa (λ j h _=>ha j h)
  unfold Lib.trimF Lib.trimLeftF
  rw[if_pos hi]
  unfold Lib.trimRightF
  rw[YD []];simp
 ·have hex: ∃(j:Nat) (h:j<s.length),0<=j/\D4 (s[j]).toNat=false:=by
   apply Classical.byContradiction
   intro A
   apply ha
   intro j h
   cases hf:D4 (s[j]).toNat with
   |true=>rfl
   |false=>exact absurd ⟨j,h,Nat.zero_le _,hf⟩ A
  obtain⟨i,hi,he,B⟩:=oC s s.length 0 Aa hex
  refine⟨λ h=>?_,λ h=>absurd (YC.1 h) ha⟩
  exfalso
  have y:Lib.idxFunc D4 false ⟨⟨s⟩⟩=(i:Int):=he
  have C:Lib.trimLeftF D4 ⟨⟨s⟩⟩=⟨⟨s.drop i⟩⟩:=by
   unfold Lib.trimLeftF
   rw[y,if_neg Aa,w,Int.toNat_natCast,YD,List.take_of_length_le (by rw[List.length_drop];omega)]
  unfold Lib.trimF at h
  rw[C]at h
  have b:0<(s.drop i).length:=by rw[List.length_drop];omega
  have h0: ∃h:0<(s.drop i).length,D4 ((s.drop i)[0]).toNat=false:=⟨b,by rw[List.getElem_drop];exact B⟩
  have k:0<=Lib.lastIdxFunc D4 false ⟨⟨s.drop i⟩⟩:=oD (s.drop i) h0 (s.drop i).length (s.drop i).length b (Nat.le_refl _) (Nat.le_refl _)
  have z:1<=Lib.rightEndF D4 ⟨⟨s.drop i⟩⟩:=by
   unfold Lib.rightEndF
   rw[if_pos k]
   by_cases hz:(Lib.lastIdxFunc D4 false ⟨⟨s.drop i⟩⟩).toNat=0
   ·rw[hz]
    have e:(ByteArray.mk ⟨s.drop i⟩).extract 0 (ByteArray.mk ⟨s.drop i⟩).size=⟨⟨s.drop i⟩⟩:=by
     rw[YD]
     have:List.take ((s.drop i).length-0) (List.drop 0 (s.drop i))=s.drop i:=by rw[List.drop_zero,Nat.sub_zero,List.take_length]
     exact congrArg (λ l=>(⟨⟨l⟩⟩:ByteArray)) this
    rw[e]
    unfold Lib.decodeGoB
    have n:(ByteArray.mk ⟨s.drop i⟩).size=(s.drop i).length:=rfl
    rw[if_neg (by rw[n];omega)]
    have:=Lib.decode_width_pos ⟨⟨s.drop i⟩⟩ 0 (by rw[n];exact b)
    omega
   ·omega
  unfold Lib.trimRightF at h
  rw[YD]at h
  have q:(List.take (Lib.rightEndF D4 ⟨⟨s.drop i⟩⟩-0) (List.drop 0 (s.drop i)))=[]:=h
  rw[List.drop_zero,Nat.sub_zero,List.take_eq_nil_iff]at q
  rcases q with q|q
  ·omega
  ·rw[q]at b;simp at b
def CD(l:A0):Prop:= ∀b∈l,CS b=true
theorem V1{s:A0}:IY s=true↔CD s:=by
 rw[YC]
 constructor
 ·intro h b k
  obtain⟨j,i,e⟩:=List.getElem_of_mem k
  have:=h j i
  rw[e]at this;exact this
 ·intro h j i;exact h _ (List.getElem_mem i)
theorem CD.app {a b:A0}(h:CD a)(k:CD b):CD (a++b):=λ x hx=>by
 rcases List.mem_append.1 hx with hx|hx
 ·exact h x hx
 ·exact k x hx
theorem oE{k:Int}: ∀b∈BC k,b=48:=λ b e=>(List.mem_replicate.1 e).2
theorem CD.BC (k:Int):CD (BC k):=λ b e=>by rw[oE b e];rfl
def oF(r:A0):Prop:=r=[]\/ ∃b q,r=b::q/\CS b=false
theorem eH{s g r:A0}{i:Int}(h:A5 s i=g++r)(hg:CD g)(e:oF r):AY s i=i+len g:=by
 have:(g++r).takeWhile CS=g:=by
  rw[List.takeWhile_append_of_pos hg]
  rcases e with rfl|⟨b,q,rfl,j⟩
  ·simp
  ·rw[List.takeWhile_cons,j];simp
 unfold AY;rw[h,this]
theorem eI{s g r:A0}{i:Int}(h0:0<=i)(h:A5 s i=g++r):Eng.sub s i (i+len g)=g:=by
 rw[<-Y3 s i (len g) h0 (A8 _),h,UY]
theorem eJ{s g r:A0}{i:Int}(h0:0<=i)(h:A5 s i=g++r):A5 s (i+len g)=r:=by
 rw[<-K4 s i (len g) h0 (A8 _),h,PZ]
theorem YE{s g:A0}{i:Int}(h0:0<=i)(h:A5 s i=g)(hg:g≠[]):len s=i+len g:=by
 have hp:=KO.1 hg
 have:=XC s i h0
 rw[h]at this
 split at this<;>omega
theorem YF{s q:A0}{b:UInt8}{i:Int}(h0:0<=i)(h:A5 s i=b::q):i<len s/\A4 s i=(b.toNat:Int):=by
 have hl:=YE h0 h (by simp)
 rw[AL]at hl
 have e:=A8 q
 refine⟨Aa,?_⟩
 have:=O0 s i 0 h0 (Int.le_refl 0)
 rw[h,Int.add_zero]at this
 rw[<-this];rfl
theorem eK{s q:A0}{b:UInt8}{i:Int}(h0:0<=i)(h:A5 s i=b::q):D3 s [b] i=true/\BJ s [b] i=i+1:=by
 have:=YF h0 h
 have e:D3 s [b] i=true:=S3.2 this
 exact⟨e,RJ e⟩
theorem YG{s q:A0}{b c:UInt8}{i:Int}(h0:0<=i)(h:A5 s i=b::q)(j:b≠c):D3 s [c] i=false/\BJ s [c] i=i:=by
 have k:=YF h0 h
 have e:D3 s [c] i=false:=by
  cases hh:D3 s [c] i with
  |false=>rfl
  |true=>exact absurd (UInt8.toNat_inj.1 (by have:=(S3.1 hh).2;omega)) j
 exact⟨e,RM e⟩
theorem oG{s:A0}{c:A0}{i:Int}(h:len s<=i):D3 s c i=false/\BJ s c i=i:=by
 have e:D3 s c i=false:=by
  cases hh:D3 s c i with
  |false=>rfl
  |true=>have:=lH hh;omega
 exact⟨e,RM e⟩
def H8(neg:Bool):A0:=if neg then [45]else []
theorem oH{b:UInt8}(h:CS b=true):b≠45/\b≠43/\b≠46/\b≠101/\b≠69:=by
 refine⟨?_,?_,?_,?_,?_⟩<;>(intro e;subst e;revert h;decide)
theorem eM{s w r:A0}{neg:Bool}(h:s=H8 neg++(w++r))(hw:CD w)(n:w≠[])(z:oF r)(A: ¬(1<len w/\A4 w 0=48)):
  ∃e,0<=e/\A5 s e=r/\GC s=if D3 s [46] e then
   if Eng.sub s (BJ s [46] e) (AY s (BJ s [46] e))=[]then(C3,AY s (BJ s [46] e),1)
   else II s neg (w++Eng.sub s (BJ s [46] e) (AY s (BJ s [46] e))) (-(len (Eng.sub s (BJ s [46] e) (AY s (BJ s [46] e))))) (AY s (BJ s [46] e))
  else II s neg w 0 (BJ s [46] e):=by
 have y:D3 s [45] 0=neg/\BJ s [45] 0=len (H8 neg):=by
  cases neg with
  |true=>exact eK (q:=w++r) (Int.le_refl 0) (by rw[h];rfl)
  |false=>
   cases w with
   |nil=>exact absurd U n
   |cons b w=>exact YG (q:=w++r) (Int.le_refl 0) (by rw[h];rfl) (oH (hw b (by simp))).1
 have i:=A8 (H8 neg)
 have l:A5 s (len (H8 neg))=w++r:=by rw[h,PZ]
 have j:=eH l hw z
 have k:=eI i l
 refine⟨len (H8 neg)+len w,by have:=A8 w;omega,eJ i l,?_⟩
 rw[mW y.2,j,k,if_neg A,if_neg n,y.1]
theorem oI{s e:A0}{neg:Bool}{x b:Int}(h:len s<=b):II s neg e x b=J6 neg e x [] 1:=by
 obtain⟨i,e2⟩:=oG (c:=[101,69]) h
 unfold II;rw[i,e2,if_neg (by simp),if_neg Aa]
theorem AQ3{s w:A0}{neg:Bool}(h:s=H8 neg++w)(hw:CD w)(i:w≠[])(j: ¬(1<len w/\A4 w 0=48)):GC s=J6 neg w 0 [] 1:=by
 obtain⟨b,h0,h1,k⟩:=eM (neg:=neg) (w:=w) (r:=[]) (by simpa using h) hw i (.inl rfl) j
 have e:len s<=b:=by
  have:=XC s b h0
  rw[h1,len_nil]at this
  split at this<;>omega
 obtain⟨l,e2⟩:=oG (c:=[46]) e
 rw[k,l,e2,if_neg (by simp),oI e]
theorem AQ4{s w p:A0}{neg:Bool}(h:s=H8 neg++(w++46::p))(hw:CD w)(l:w≠[])(n: ¬(1<len w/\A4 w 0=48))(hp:CD p)(j:p≠[]):GC s=J6 neg (w++p) (-(len p)) [] 1:=by
 obtain⟨b,h0,h1,q⟩:=eM h hw l (.inr ⟨46,p,rfl,Ab⟩) n
 obtain⟨y,e2⟩:=eK h0 h1
 have k:A5 s (b+1)=p++[]:=by rw[<-K4 s b 1 h0 Aa,h1];simp[A5]
 have e:=eH k hp (.inl U)
 have i:=eI Aa k
 have hl:=YE h0 h1 (by simp)
 rw[AL]at hl
 rw[q,y,e2,if_pos U,e,i,if_neg j,oI Aa]
theorem AQ5{s w p:A0}{neg neg2:Bool}(h:s=H8 neg++(w++101::(H8 neg2++p)))(hw:CD w)(A:w≠[])(B: ¬(1<len w/\A4 w 0=48))(hp:CD p)(e:p≠[]):GC s=J6 neg w 0 p (if neg2 then-1 else 1):=by
 obtain⟨b,h0,h1,C⟩:=eM h hw A (.inr ⟨101,_,rfl,Ab⟩) B
 obtain⟨D,e2⟩:=YG (c:=46) h0 h1 Ab
 have k:=YF h0 h1
 have e3:D3 s [101,69] b=true:=mU.2 ⟨k.1,.inl k.2⟩
 have z:A5 s (b+1)=H8 neg2++p:=by rw[<-K4 s b 1 h0 Aa,h1];rfl
 have l:D3 s [45] (b+1)=neg2/\(if neg2 then BJ s [45] (b+1)else BJ s [43] (BJ s [45] (b+1)))=b+1+len (H8 neg2):=by
  cases neg2 with
  |true=>exact eK (q:=p) Aa z
  |false=>
   cases p with
   |nil=>exact absurd U e
   |cons c p=>
    have l:=oH (hp c (by simp))
    obtain⟨g1,g2⟩:=YG (c:=45) (i:=b+1) Aa z l.1
    obtain⟨g3,g4⟩:=YG (c:=43) (i:=b+1) Aa z l.2.1
    refine⟨g1,?_⟩
    rw[if_neg (by simp),g2,g4]
    show b+1=b+1+0
    omega
 have hg:=A8 (H8 neg2)
 have j:A5 s (b+1+len (H8 neg2))=p++[]:=by rw[List.append_nil];exact eJ Aa z
 have n:=eH j hp (.inl U)
 have y:=eI Aa j
 have hl:=YE Aa j (by simpa using e)
 rw[List.append_nil]at hl
 rw[C,D,e2,if_neg (by simp)]
 unfold II
 rw[e3,if_pos U,RJ e3]
 unfold X5
 dsimp only
 rw[l.1,l.2,n,y,if_neg (by rw[not_or];exact⟨e,Aa⟩)]
theorem eN{s:A0}(h:A4 s 0≠48):AW s=s:=lQ (λ x=>h x.2)
theorem AQ6{s:A0}(h:A4 s 0≠48)(k:Int):AW (BC k++s)=s:=by
 have: ∀n:Nat,AW (List.replicate n 48++s)=s:=by
  intro n
  induction n with
  |zero=>exact eN h
  |succ n b=>rw[List.replicate_succ,List.cons_append,AD0 Ab,b]
 exact this k.toNat
theorem AQ7{s:A0}(n:s≠[])(h:A4 s (len s-1)≠48)(k:Int):BG (s++BC k)=s:=by
 have:=Lib.trimRightS_take (s++BC k) [48] s.length (by simp) (λ j b l i=>by
  rw[List.getElem?_append_right l]at i
  rw[oE b (List.mem_of_getElem? i)];rfl) (λ b h0 i=>by
  rw[List.getElem?_append_left Aa]at i
  have e:A4 s (len s-1)=(b.toNat:Int):=by
   unfold A4 len
   rw[show((s.length:Int)-1).toNat=s.length-1 from by omega,List.getD_eq_getElem?_getD,i];rfl
  cases hc:([48]:A0).contains b with
  |false=>rfl
  |true=>rw[PK]at hc;omega)
 unfold BG;rw[this];simp
theorem eO{b s:A0}{neg:Bool}{e0 e k:Int}(l:CD b)(hd:AW b=s++BC k)(n:0<=k)(h:s≠[])(hl:A4 s (len s-1)≠48)(he:e0+k=e)(h1:len s<=100)(y: -1000<=e)(z:len s+e<=1000)(q:k<=2000):
  CH neg b e0=(⟨3,0,[],s,neg,e⟩,0):=by
 have hp:=KO.1 h
 have i:=NX k n
 have j:len (AW b)=len s+k:=by rw[hd,AO,i]
 have w:BG (AW b)=s:=by rw[hd,AQ7 h hl]
 unfold CH
 rw[if_pos (V1.2 l),w,j,if_neg (by rw[hd];simp[h])]
 rw[if_neg (by simp only[Bool.or_eq_true,decide_eq_true_eq];omega),if_neg (by simp only[Bool.or_eq_true,decide_eq_true_eq];omega)]
 rw[show e0+(len s+k-len s)=e from by omega]
theorem AQ8{n:Nd}(h:IZ n=true):n=⟨3,0,[],n.s,n.neg,n.e⟩/\CD n.s/\len n.s<=100/\ -1000<=n.e/\n.e<=1000/\len n.s+n.e<=1000/\((n.s=[]/\n.neg=false/\n.e=0)\/(n.s≠[]/\A4 n.s 0≠48/\A4 n.s (len n.s-1)≠48)):=by
 obtain⟨kind,many,name,s,neg,e⟩:=n
 unfold IZ at h
 dsimp only at h ⊢
 split at h
 ·cases h
 rename_i b
 simp only[Bool.or_eq_true,decide_eq_true_eq,bne_iff_ne,Bool.not_eq_true',beq_eq_false_iff_ne,not_or,ne_eq,Classical.not_not]at b
 obtain⟨⟨⟨⟨⟨⟨⟨i,c2⟩,c3⟩,c4⟩,c5⟩,j⟩,k⟩,l⟩:=b
 subst i;subst c2;subst c3
 refine⟨rfl,V1.1 (by simpa using c4),Aa,Aa,Aa,Aa,?_⟩
 split at h
 ·rename_i hs
  simp only[Bool.and_eq_true,Bool.not_eq_true',beq_iff_eq]at h hs
  exact .inl ⟨hs,h.1,h.2⟩
 ·rename_i hs
  simp only[Bool.and_eq_true,bne_iff_ne,beq_iff_eq]at h hs
  exact .inr ⟨hs,h.1,h.2⟩
theorem AQ9: ∀n:Fin 2001,(Lib.itoa ((n.val:Int)-1000)==H8 (decide ((n.val:Int)-1000<0))++Lib.decDigits ((n.val:Int)-1000).natAbs)=true/\
 (Lib.decDigits ((n.val:Int)-1000).natAbs).all CS=true/\Lib.decDigits ((n.val:Int)-1000).natAbs≠[]/\len (AW (Lib.decDigits ((n.val:Int)-1000).natAbs))<=6/\
 CG (AW (Lib.decDigits ((n.val:Int)-1000).natAbs))=(((n.val:Int)-1000).natAbs:Int):=by decide+kernel
theorem AR0{e:Int}(h0: -1000<=e)(h1:e<=1000): ∃p,Lib.itoa e=H8 (decide (e<0))++p/\CD p/\p≠[]/\len (AW p)<=6/\(if decide (e<0)then(-1:Int)else 1)*CG (AW p)=e:=by
 have:=AQ9 ⟨(e+1000).toNat,Aa⟩
 dsimp only at this
 rw[show(((e+1000).toNat:Nat):Int)-1000=e from by omega]at this
 obtain⟨g1,g2,g3,g4,g5⟩:=this
 refine⟨_,by simpa using g1,λ b i=>List.all_eq_true.1 g2 b i,g3,g4,?_⟩
 rw[g5]
 by_cases h:e<0
 ·rw[if_pos (by simpa using h)];omega
 ·rw[if_neg (by simpa using h)];omega
theorem oJ{neg:Bool}{b:A0}{x:Int}:J6 neg b x [] 1=((CH neg b x).1,0,(CH neg b x).2):=by
 unfold J6
 rw[show AW []=[]from rfl,if_neg Ab,show x+1*CG []=x from by show x+1*0=x;omega]
theorem AR1{n:Nd}(h:IZ n=true):GC (I3 n)=(n,0,0)/\(∃g r,I3 n=H8 n.neg++(g::r)/\CS g=true)/\ ∀b∈I3 n,IJ b=true:=by
 obtain⟨he,B,h1,h2,h3,h4,T⟩:=AQ8 h
 generalize hs:n.s=s at*
 generalize hneg:n.neg=neg at*
 generalize hee:n.e=e at*
 subst he
 have j: ∀b,CS b=true->IJ b=true:=λ b i=>by
  rw[dR];left
  unfold CS C5 at i
  simp only[Bool.and_eq_true,decide_eq_true_eq]at i
  omega
 have l: ∀g:Bool,∀b∈H8 g,IJ b=true:=by decide
 rcases T with⟨V,e2,e3⟩|⟨D,i,hl⟩
 ·subst V;subst e2;subst e3
  exact⟨Ac,⟨48,[],Ab,Ab⟩,Ab⟩
 obtain⟨g,q,C⟩: ∃g q,s=g::q:=by cases s with
  |nil=>exact absurd U D
  |cons g q=>exact⟨g,q,rfl⟩
 have hp:=KO.1 D
 unfold I3
 dsimp only
 rw[if_neg (by simpa using D),show(if neg then([45]:A0)else [])=H8 neg from rfl]
 by_cases c1:(decide (0<=e)&&decide (len s+e<=20))=true
 ·rw[if_pos c1]
  simp only[Bool.and_eq_true,decide_eq_true_eq]at c1
  have y:A4 (s++BC e) 0≠48:=by rw[I5 (Int.le_refl 0) hp];exact i
  refine⟨?_,⟨g,q++BC e,by rw[C];simp,B g (by rw[C];simp)⟩,λ b i=>?_⟩
  ·rw[AQ3 (w:=s++BC e) (neg:=neg) (by simp) (B.app (CD.BC e)) (by simp[D]) (λ x=>y x.2),oJ,eO (s:=s) (k:=e) (e:=e) (B.app (CD.BC e)) (eN y) c1.1 D hl Aa Aa Aa Aa Aa]
  ·simp only[List.mem_append]at i
   rcases i with(i|i)|i
   ·exact l _ b i
   ·exact j b (B b i)
   ·exact j b (CD.BC e b i)
 rw[if_neg c1]
 by_cases c2:(decide (e<0)&&decide (-20<=e))=true
 ·rw[if_pos c2]
  simp only[Bool.and_eq_true,decide_eq_true_eq]at c2
  have hz:=lE (1-e-len s)
  have K:0<=1-e-len s->len (BC (1-e-len s))=1-e-len s:=λ x=>NX _ x
  have L:1-e-len s<=0->BC (1-e-len s)=[]:=λ x=>X4 x
  have F:CD (BC (1-e-len s)++s):=(CD.BC _).app B
  have W:len (BC (1-e-len s)++s)=len (BC (1-e-len s))+len s:=AO _ _
  have M:AW (BC (1-e-len s)++s)=s:=AQ6 i _
  have N:1-e-len s<=0->A4 (BC (1-e-len s)++s) 0≠48:=λ x=>by rw[L x];exact i
  generalize BC (1-e-len s)++s=S at*
  obtain⟨z,P⟩:=eA (s:=S) (n:=len S+e) Aa Aa
  have X:=EB S (len S+e) Aa Aa
  have G:CD (Eng.sub S 0 (len S+e)):=λ b i=>F b (by rw[z];simp[i])
  have A:CD (A5 S (len S+e)):=λ b i=>F b (by rw[z];simp[i])
  have J:Eng.sub S 0 (len S+e)≠[]:=KO.2 Aa
  have H:A5 S (len S+e)≠[]:=KO.2 Aa
  have O: ¬(1<len (Eng.sub S 0 (len S+e))/\A4 (Eng.sub S 0 (len S+e)) 0=48):=by
   rintro⟨x1,Q⟩
   by_cases hpd:0<=1-e-len s
   ·have:=K hpd;omega
   ·refine N Aa ?_
    rw[PW (Int.le_refl 0) (Int.le_refl 0) Aa Aa]at Q
    exact Q
  obtain⟨R,q',E⟩: ∃g q,Eng.sub S 0 (len S+e)=g::q:=by
   cases hh:Eng.sub S 0 (len S+e)with
   |nil=>exact absurd hh J
   |cons g q=>exact⟨g,q,rfl⟩
  refine⟨?_,⟨R,q'++46::A5 S (len S+e),by rw[E];simp,G R (by rw[E];simp)⟩,λ b i=>?_⟩
  ·rw[AQ4 (w:=Eng.sub S 0 (len S+e)) (p:=A5 S (len S+e)) (neg:=neg) (by simp) G J O A H,<-z,oJ,
    eO (s:=s) (k:=0) (e:=e) F (by rw[M,X4 (Int.le_refl 0)];simp) (Int.le_refl 0) D hl Aa Aa Aa Aa Aa]
  ·simp only[List.mem_append,List.mem_cons,List.not_mem_nil,or_false]at i
   rcases i with((i|i)|i)|i
   ·exact l _ b i
   ·exact j b (G b i)
   ·subst i;decide
   ·exact j b (A b i)
 rw[if_neg c2]
 obtain⟨p,hi,A,H,hl6,hv⟩:=AR0 (e:=e) Aa Aa
 have y:A4 s 0≠48:=i
 refine⟨?_,⟨g,q++101::Lib.itoa e,by rw[C];simp,B g (by rw[C];simp)⟩,λ b i=>?_⟩
 ·rw[hi,AQ5 (w:=s) (p:=p) (neg:=neg) (neg2:=decide (e<0)) (by simp) B D (λ x=>y x.2) A H]
  unfold J6
  rw[if_neg Aa,hv,Int.zero_add,
   eO (s:=s) (k:=0) (e:=e) B (by rw[eN y,X4 (Int.le_refl 0)];simp) (Int.le_refl 0) D hl Aa Aa Aa Aa Aa]
 ·rw[hi]at i
  simp only[List.mem_append,List.mem_cons,List.not_mem_nil,or_false]at i
  rcases i with((i|i)|i)|i|i
  ·exact l _ b i
  ·exact j b (B b i)
  ·subst i;decide
  ·exact l _ b i
  ·exact j b (A b i)
theorem AR2{neg:Bool}{s:A0}{e:Int}(h:(CH neg s e).2=0):IZ (CH neg s e).1=true:=by
 unfold CH at h ⊢
 by_cases c1:IY s=true
 ·rw[if_pos c1]at h ⊢
  by_cases c2:(AW s==[])=true
  ·rw[if_pos c2];decide+kernel
  rw[if_neg c2]at h ⊢
  split at h
  ·cases h
  rename_i c3
  rw[if_neg c3]
  split at h
  ·cases h
  rename_i c4
  rw[if_neg c4]
  simp only[Bool.or_eq_true,decide_eq_true_eq]at c4
  have k: ¬AW s=[]:=by simpa using c2
  have hp:=cJ s k
  have w:BG (AW s)≠[]:=KO.2 hp
  have n: ∃r,BG (AW s)++r=AW s:=by
   unfold BG Lib.trimRightS
   have:=List.dropWhile_suffix (([48]:A0).contains ·) (l:=(AW s).reverse)
   obtain⟨r,q⟩:=this
   refine⟨r.reverse,?_⟩
   rw[<-List.reverse_append,q,List.reverse_reverse]
  obtain⟨r,q⟩:=n
  have hF:CD (BG (AW s)):=λ b y=>(AA7 (V1.1 c1)) b (by rw[<-q];simp[y])
  have i:A4 (BG (AW s)) 0≠48:=by
   rw[<-I5 (v:=r) (Int.le_refl 0) hp,q]
   cases hd:AW s with
   |nil=>exact absurd hd k
   |cons b l=>
    have:=cI hd
    intro e;rw[FT]at e;rw[PK.2 e]at this;cases this
  have j:A4 (BG (AW s)) (len (BG (AW s))-1)≠48:=by
   obtain⟨b,z,e2⟩:=cO hp
   rw[<-e2]
   intro e3
   have y:([48]:A0).contains b=true:=PK.2 e3
   have:BG (AW s)=((AW s).reverse.dropWhile (([48]:A0).contains ·)).reverse:=rfl
   rw[this]at z
   have A:=congrArg List.reverse z
   rw[List.reverse_reverse,List.reverse_append,List.reverse_cons,List.reverse_nil,List.nil_append,List.singleton_append]at A
   have:=cI (s:=(AW s).reverse) (b:=b) (l:=(Eng.sub (BG (AW s)) 0 (len (BG (AW s))-1)).reverse) A
   rw[y]at this;cases this
  unfold IZ
  dsimp only
  rw[if_neg (by
   simp only[Bool.or_eq_true,decide_eq_true_eq,bne_iff_ne,Bool.not_eq_true',beq_eq_false_iff_ne,V1.2 hF]
   simp only[not_or]
   refine⟨⟨⟨⟨⟨⟨⟨by simp,by simp⟩,by simp⟩,by simp⟩,Aa⟩,Aa⟩,Aa⟩,Aa⟩),if_neg (by simpa using w)]
  simp[i,j]
 ·rw[if_neg c1]at h;exact absurd h Ab
theorem AR3{neg:Bool}{s:A0}{e:Int}(h:CD s):(CH neg s e).2=0\/(CH neg s e).2=2:=by
 unfold CH
 rw[if_pos (V1.2 h)]
 split
 ·exact .inl U
 ·split
  ·exact .inr U
  ·split
   ·exact .inr U
   ·exact .inl U
def YH(r:Nd×Int×Int):Prop:=(r.2.2=0->IZ r.1=true)/\(r.2.2=0\/r.2.2=1\/r.2.2=2)
theorem oK{neg:Bool}{b:A0}{x:Int}{i:A0}{side:Int}(h:CD b):YH (J6 neg b x i side):=by
 unfold J6
 split
 ·exact⟨λ e=>absurd e Ab,.inr (.inr U)⟩
 ·refine⟨λ e=>AR2 e,?_⟩
  rcases AR3 (neg:=neg) (e:=x+side*CG (AW i)) h with e|e
  ·exact .inl e
  ·exact .inr (.inr e)
theorem V2(n:Nd)(p:Int):YH (n,p,1):=⟨λ e=>absurd e (show ¬(1:Int)=0 by decide),.inr (.inl U)⟩
theorem oL{s e:A0}{neg:Bool}{x b:Int}(h:CD e):YH (II s neg e x b):=by
 unfold II
 split
 ·unfold X5
  dsimp only
  repeat' split
  all_goals first|exact V2 _ _|exact oK h
 ·split
  ·exact V2 _ _
  ·exact oK h
theorem AR4(s:A0):YH (GC s):=by
 have h0:=cK s [45] 0 (A8 s)
 have b:=PI s (BJ s [45] 0) Aa h0.2
 have h1:=cK s [46] (AY s (BJ s [45] 0)) b.2
 unfold GC
 dsimp only
 have hF:CD (Eng.sub s (BJ s [45] 0) (AY s (BJ s [45] 0))):=X6 h0.1
 split
 ·exact V2 _ _
 ·split
  ·exact V2 _ _
  ·split
   ·split
    ·exact V2 _ _
    ·exact oL (hF.app (X6 Aa))
   ·exact oL hF
inductive Lx (s:A0):Int->List Tk->Prop
 |done {i:Int}:0<=i-> ¬i<len s->Lx s i []
 |step {i n:Int} {t:Tk} {l:List Tk}:0<=i->i<len s->C1 (A5 s i)=(t,n,0)->Lx s (E4 s (i+n)) l->Lx s i ({ t with pos:=i}::l)
theorem YI{s:A0}{i n e:Int}{t:Tk}(h0:0<=i)(h1:i<len s)(h:C1 (A5 s i)=(t,n,e)):0<=n/\i+n<=len s/\(e=0->1<=n)/\(e=0\/e=1\/e=2\/e=4):=by
 have hl:=EB s i h0 Aa
 have:=AJ2 (s:=A5 s i) Aa
 rw[h]at this
 dsimp only at this
 omega
theorem Lx.go {s:A0}{i:Int}{l:List Tk}(h:Lx s i l): ∀(f:Nat) (acc:List Tk),(len s-i).toNat<=f->PN f s i acc=(acc++l++[XB s],0,0):=by
 induction h with
 |done _ h1=>intro f acc _;rw[AD2 h1];simp
 | @step i n t l h0 h1 h _ ih=>
  intro f acc b
  have e:=YI h0 h1 h
  have j:=lO s (i+n) Aa e.2.1
  rw[AD1 b h1,h]
  dsimp only
  rw[if_neg (by simp),ih _ _ Aa]
  simp
theorem Lx.size {s:A0}{i:Int}{l:List Tk}(h:Lx s i l):i<=len s->len l<=len s-i:=by
 induction h with
 |done _ _=>intro x;rw[len_nil];omega
 | @step i n t l h0 h1 h _ ih=>
  intro x
  have e:=YI h0 h1 h
  have b:=lO s (i+n) Aa e.2.1
  have:=ih b.2
  rw[AL];omega
theorem eP{s:A0}{i:Int}(h0:0<=i):E4 s i=i+E4 (A5 s i) 0:=by
 unfold E4;rw[OA];omega
theorem AR5:E4 [] 0=0:=rfl
theorem oM{b:UInt8}{r:A0}(h:NO (b.toNat:Int)=true):E4 (b::r) 0=1+E4 r 0:=by
 unfold E4
 rw[OA,OA,List.takeWhile_cons,show LO b=true from h]
 simp[len];omega
theorem oN{b:UInt8}{r:A0}(h:NO (b.toNat:Int)=false):E4 (b::r) 0=0:=by
 unfold E4
 rw[OA,List.takeWhile_cons,show LO b=false from h]
 simp[len]
theorem AR6{s:A0}{i n:Int}{t:Tk}(h0:0<=i)(h1:i<len s)(h:C1 (A5 s i)=(t,n,0)):
  ∃u v,A5 s i=u++v/\len u=n/\u≠[]/\v=A5 s (i+n)/\u=Eng.sub s i (i+n)/\C1 (u++v)=(t,len u,0):=by
 have j:=YI h0 h1 h
 have hl:=EB s i h0 Aa
 have b:=eA (s:=A5 s i) (n:=n) Aa Aa
 rw[K4 s i n h0 Aa,Y3 s i n h0 Aa]at b
 exact⟨_,_,b.1,b.2,λ e=>by rw[e,len_nil]at b;omega,rfl,rfl,by rw[<-b.1,b.2];exact h⟩
end Go.Eng
