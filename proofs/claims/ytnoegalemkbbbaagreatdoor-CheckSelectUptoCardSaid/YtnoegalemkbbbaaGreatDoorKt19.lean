/- Lemmas for the card. -/
import Derived.Test.YtnoegalemkbbbaaGreatDoorKt18
set_option linter.unusedVariables false
set_option linter.unusedSimpArgs false
set_option maxRecDepth 100000
set_option maxRecDepth 100000
namespace Go.Proofs.YtnoegalemkbbbaaGreatDoor
open Go.Proofs.Tryz
open Go.Eng Go.RowKit
abbrev TE(g n c:Nat)(xs:List Value):HO:=.priv 52 11 (.slice (some ⟨g,0,none⟩) n c) n xs
abbrev FW(g o n c:Nat):Value:=.slice (some ⟨g,o,none⟩) n c
theorem w8{L cs:List Value}{o:Nat}(h:o+cs.length<=L.length):(DF L o cs).length=L.length:=by
 unfold DF;simp;omega
theorem Ax2{A Z Y D:List Value}{a b:Nat}(e:A.length=a)(h:b=a+Y.length)(i:Z.length=Y.length+D.length):DF (DF (A++Z) a Y) b D=A++(Y++D):=by
 subst e;subst h
 unfold DF
 rw[List.take_left,List.drop_append,List.drop_eq_nil_of_le (by omega:A.length<=A.length+Y.length),List.nil_append,Nat.add_sub_cancel_left,<-List.append_assoc A,List.take_append_of_le_length (by simp),List.take_of_length_le (by simp),List.drop_eq_nil_of_le (by simp;omega)]
 simp
theorem Ax3{A Z Y D:List Value}{a b:Nat}(e:A.length=a)(h:b=a+Y.length)(l:Z.length=Y.length):DF (DF (A++D++Z) b D) a Y=A++(Y++D):=by
 subst e;subst h
 unfold DF
 have h1:(A++D++Z).drop (A.length+Y.length+D.length)=[]:=List.drop_eq_nil_of_le (by simp;omega)
 have i:(A++D++Z).take (A.length+Y.length)=A++(D++Z).take Y.length:=by
  rw[List.append_assoc,List.take_append,List.take_of_length_le (by omega:A.length<=A.length+Y.length),Nat.add_sub_cancel_left]
 rw[h1,i,List.append_nil]
 have j:((D++Z).take Y.length).length=Y.length:=by simp;omega
 have k:(A++(D++Z).take Y.length).length=A.length+Y.length:=by rw[List.length_append,j]
 rw[List.append_assoc A ((D++Z).take Y.length) D,List.take_left,<-List.append_assoc A ((D++Z).take Y.length) D,<-k,List.drop_left,List.append_assoc]
theorem Ax4{w0 wv:World}{M0 M:Mem}{Rs:List HO}{g n c y s:Nat}{xs ys:List Value}{i:Nat}(hS:St w0 M0 wv M (TE g n c xs::TE y 1 s ys::Rs))(hi:i<=n)(hb:n<=1099511627)(F: ∀u∈xs,u.oneCell'=true)(z: ∀u∈ys,u.oneCell'=true):
    Calls prog 136 [FW g 0 n c,.int .i64 i,FW y 0 1 s].toArray wv (BY w0 M0 M Rs (λ v:Value=>v) (λ _=>True) (λ _=>[]) λ v=>[.priv 52 11 v (n+1) (xs.take (i*11)++(ys++xs.drop (i*11)))]):=by
 obtain⟨_,_,l,hnc,hcm⟩:=hS.rowAt (i:=0) rfl
 obtain⟨_,_,G,hvc,_⟩:=hS.rowAt (i:=1) rfl
 have hml:maxLen=9223372036854775807:=rfl
 refine AE (Hr:=Rs) A8 func136 U ntmps136 [] [(0,.ho (TE g n c xs)),(1,.ho (TE y 1 s ys))] [.v (FW g 0 n c),.v (.int .i64 i),.v (FW y 0 1 s)] U hS A3 (λ B Q=>AU (W:=.t) (.v (ZV g n c 11 i)) U U (λ w M k=>IP i U U underlying25 sizeOf52 hi U U) <|AU (W:=.t) (I 1) U U (λ w M k=>vZ (n:=1) U underlying24) ?_) U
 refine A1 U (λ H=>?_) (λ H=>?_)<;>simp only[zb]at H
 ·omega
 refine AU (W:=.t) (I n) U U (λ w M k=>vZ U underlying25) ?_
 refine A1 U (λ J=>?_) (λ J=>?_)<;>simp only[zb]at J
 ·have R:i=n:=by omega
  subst R
  refine Ax1 0 1 U U U U underlying25 sizeOf52 underlying24 type52 U U z Aa (by show(i+1)*120<=_;omega) λ v'=>A2 Q U U U λ w M' k=>⟨v',M',rfl,trivial,k.le,?_,A3⟩
  rw[<-l,List.take_length,List.drop_length,List.append_nil]
  exact k.st.drop _ (((List.Sublist.refl _).cons _).cons_cons _)
 refine AU (W:=.t) (I c) U U (λ w M k=>Aw8 U underlying25) ?_
 refine A1 U (λ K=>?_) (λ K=>?_)<;>simp only[zb]at K
 ·refine AU (W:=.t) (.v (FW g 0 i c)) U U (λ w M k=>vY i U U underlying25 sizeOf52 Aa U) <|Ax0 0 2 (q:=n+1-i) U U Aa U underlying25 underlying3 type52 U U hi Aa Aa Aa (by show(i+(n+1-i))*120<=_;omega) λ O P zs hz hc'=>?_
  have S:(xs.drop (i*11)).length=(n-i)*11:=by rw[List.length_drop,l];omega
  have T:(xs.take (i*11)).length=i*11:=by rw[List.length_take,l];omega
  have C:Nat.min 1 (i+(n+1-i)-i)=1:=Nat.min_eq_left Aa
  have E:Nat.min (n-i) (i+(n+1-i)-(i+1))=n-i:=Nat.min_eq_left Aa
  refine AU (W:=.t) (.v (FW O (i*11) (i+(n+1-i)-i) (P-i))) U U (λ w M k=>IP i U U underlying25 sizeOf52 Aa U (R4 Aa).symm) <|ZW 2 (i*11) (cs:=ys) U U U underlying25 sizeOf52 (by rw[C];exact G) (λ w M k j u hu=>ZU k (kk:=1) (o:=0) U hu) (by rw[List.length_append];omega) z <|w4 8 U BI Ac <|ZX (W:=.t) (.v (FW O ((i+1)*11) (i+(n+1-i)-(i+1)) (P-(i+1)))) U U (λ w M k=>IP (i+1) U U underlying25 sizeOf52 Aa Aa (R4 Aa).symm) <|ZX (W:=.t) (.v (FW g (i*11) (n-i) (c-i))) U U (λ w M k=>IP i U U underlying25 sizeOf52 hi U (R4 Aa).symm) <|w6 (λ _ _ _ _ _ h=>h) U <|ZW 2 ((i+1)*11) (cs:=xs.drop (i*11)) U U U underlying25 sizeOf52 (by rw[E];exact S) (λ w M k j u hu=>ZU k (kk:=0) (o:=i*11) U hu) (by rw[w8 (by rw[List.length_append];omega),List.length_append];omega) (λ u hu=>F u (List.mem_of_mem_drop hu)) <|A2 Q U U U λ w M' k=>⟨FW O 0 (i+(n+1-i)) P,M',rfl,trivial,k.le,?_,A3⟩
  have e1:i+(n+1-i)=n+1:=by omega
  have L:St w0 M0 w M' ([.priv 52 11 (FW O 0 (i+(n+1-i)) P) (i+(n+1-i)) (DF (DF (xs.take (i*11)++zs) (i*11) ys) ((i+1)*11) (xs.drop (i*11)))]++Rs):=k.st.drop _ ((((List.Sublist.refl _).cons _).cons _).cons_cons _)
  rw[Ax2 T Aa Aa]at L
  simpa only[e1]using L
 ·refine Aw9 0 1 U Aa λ zs hz=>AU (W:=.t) (.v (FW g 0 (n+1) c)) U U (λ w M k=>vY (n+1) U U underlying25 sizeOf52 Aa Aa) <|AU (W:=.t) (.v (FW g ((i+1)*11) (n+1-(i+1)) (c-(i+1)))) U U (λ w M k=>IP (i+1) U U underlying25 sizeOf52 Aa Aa (R4 Aa).symm) ?_
  have S:(xs.drop (i*11)).length=(n-i)*11:=by rw[List.length_drop,l];omega
  have T:(xs.take (i*11)).length=i*11:=by rw[List.length_take,l];omega
  have C:Nat.min 1 (n+1-i)=1:=Nat.min_eq_left Aa
  have E:Nat.min (n+1-i) (n+1-(i+1))=n-i:=(Nat.min_eq_right Aa).trans Aa
  have V: ∀(j:Nat) (u:Value),(xs.drop (i*11))[j]? =some u->((xs++zs).drop (i*11))[j]? =some u:=λ j u hu=>by
   rw[List.drop_append_of_le_length Aa,List.getElem?_append_left (List.getElem?_eq_some_iff.1 hu).1];exact hu
  have X: ∀w M,St w0 M0 w M (TE g (n+1) c (xs++zs)::TE y 1 s ys::Rs)->(callFunc 168 [FW y 0 1 s,FW g ((i+1)*11) (n+1-(i+1)) (c-(i+1))].toArray).run prog w= .ok (.value (.bool false)) w:=λ w M k=>by
   rw[run_callFunc_extern func168 Ai Ai Ai (e:=Extern.SlicesOverlaps.overlaps #[24,24] #[4]) Ai]
   have h1:=k.Aw7 (i:=0) (j:=1) (tR:=4) (o2:=0) (o:=(i+1)*11) (la:=1) (ca:=s) (lb:=n+1-(i+1)) (cb:=c-(i+1)) U U Aa Aa underlying24 sizeOf52
   rw[show([FW y 0 1 s,FW g ((i+1)*11) (n+1-(i+1)) (c-(i+1))].toArray)= #[FW y 0 1 s,FW g ((i+1)*11) (n+1-(i+1)) (c-(i+1))]from rfl,h1];rfl
  refine AU (W:=.t) (.v (.bool false)) rfl rfl (λ w M k=>PV.ext (MB rfl (AG rfl)) (λ _ w' hw=>by cases hw;exact X _ M k.st)) <|A1 U (λ N=>?_) (λ N=>?_)
  ·refine w4 8 U BI Ac <|ZX (W:=.t) (.v (FW g ((i+1)*11) (n+1-(i+1)) (c-(i+1)))) U U (λ w M k=>IP (i+1) U U underlying25 sizeOf52 Aa Aa (R4 Aa).symm) <|ZX (W:=.t) (.v (FW g (i*11) (n+1-i) (c-i))) U U (λ w M k=>IP i U U underlying25 sizeOf52 Aa U (R4 Aa).symm) <|w6 (λ _ _ _ _ _ h=>h) U <|ZW 0 ((i+1)*11) (cs:=xs.drop (i*11)) U U U underlying25 sizeOf52 (by rw[E];exact S) (λ w M k j u hu=>ZU k (kk:=0) (o:=i*11) U (V j u hu)) (by rw[List.length_append];omega) (λ u hu=>F u (List.mem_of_mem_drop hu)) <|AU (W:=.t) (.v (FW g (i*11) (n+1-i) (c-i))) U U (λ w M k=>IP i U U underlying25 sizeOf52 Aa U (R4 Aa).symm) <|ZW 0 (i*11) (cs:=ys) U U U underlying25 sizeOf52 (by rw[C];exact G) (λ w M k j u hu=>ZU k (kk:=1) (o:=0) U hu) (by rw[w8 (by rw[List.length_append];omega),List.length_append];omega) z <|A2 Q U U U λ w M' k=>⟨FW g 0 (n+1) c,M',rfl,trivial,k.le,?_,A3⟩
   have L:St w0 M0 w M' ([.priv 52 11 (FW g 0 (n+1) c) (n+1) (DF (DF (xs++zs) ((i+1)*11) (xs.drop (i*11))) (i*11) ys)]++Rs):=k.st.drop _ (((List.Sublist.refl _).cons _).cons_cons _)
   have h3:=Ax3 (A:=xs.take (i*11)) (D:=xs.drop (i*11)) (Z:=zs) (Y:=ys) (b:=(i+1)*11) T Aa Aa
   rw[List.take_append_drop]at h3
   rw[h3]at L
   exact L
  ·cases N
theorem wA: ∀(l:Fl) (i:Nat),(l.flatMap Tm.cells).take (i*11)=(l.take i).flatMap Tm.cells
 |[],i=>by simp
 |x::l,0=>by simp
 |x::l,i+1=>by
  rw[List.take_succ_cons,List.flatMap_cons,List.flatMap_cons,<-wA l i,List.take_append,Tm.AO,List.take_of_length_le (by rw[Tm.AO];omega),show(i+1)*11-11=i*11 by omega]
theorem wB: ∀(l:Fl) (i:Nat),(l.flatMap Tm.cells).drop (i*11)=(l.drop i).flatMap Tm.cells
 |[],i=>by simp
 |x::l,0=>by simp
 |x::l,i+1=>by
  rw[List.drop_succ_cons,List.flatMap_cons,<-wB l i,List.drop_append,Tm.AO,List.drop_eq_nil_of_le (by rw[Tm.AO];omega),List.nil_append,show(i+1)*11-11=i*11 by omega]
theorem Ax5{w0 j:World}{M0 M:Mem}{Rs:List HO}{v n:Value}{l:Fl}{y:Tm}{i:Int}(hS:St w0 M0 j M (J0 v l::J0 n [y]::Rs))(h0:l≠[])(hi:0<=i/\i<=len l)(q:len l<=1099511627):
   Calls prog 136 [v,i64 i,n].toArray j (BY w0 M0 M Rs (λ v:Value=>v) (λ _=>True) (λ _=>[]) λ v=>[J0 v (l.take i.toNat++y::l.drop i.toNat)]):=by
 have h1:=(hS.obj (i:=0) U).1.2
 have b:=(hS.obj (i:=1) U).1.2
 have hp:=List.length_pos_iff.2 h0
 unfold len at hi q
 rcases h1 with⟨_,h1⟩|⟨g,c,_,rfl,_⟩
 ·omega
 rcases b with⟨_,b⟩|⟨w,z,_,rfl,_⟩
 ·cases b
 obtain⟨k,rfl⟩: ∃k:Nat,i=k:=⟨i.toNat,Aa⟩
 have:=Ax4 (i:=k) hS Aa Aa (λ u hu=>by obtain⟨x,_,hx⟩:=List.mem_flatMap.1 hu;exact Tm.cells_one x u hx) (λ u hu=>by obtain⟨x,_,hx⟩:=List.mem_flatMap.1 hu;exact Tm.cells_one x u hx)
 refine this.mono λ e w' h=>?_
 rw[wA,wB]at h
 have s:(l.take k).flatMap Tm.cells++([y].flatMap Tm.cells++(l.drop k).flatMap Tm.cells)=(l.take k++y::l.drop k).flatMap Tm.cells:=by simp
 have e2:l.length+1=(l.take k++y::l.drop k).length:=by simp;omega
 rw[s]at h
 rw[Int.toNat_natCast]
 simpa only[J0,e2]using h
end Go.Proofs.YtnoegalemkbbbaaGreatDoor
namespace Go.Eng
open Go.RowKit
def JV(l:Fl)(i:Int):Fl:=l.set i.toNat { at' l i with many:=(at' l i).many+1}
def GC(l:Fl)(i:Int)(a:Tm):Fl:=(JV l i).take (i+(at' l i).many+1).toNat++({ BK 9 with n:=a.n,c:=a.c}:Tm)::(JV l i).drop (i+(at' l i).many+1).toNat
end Go.Eng
namespace Go.Proofs.YtnoegalemkbbbaaGreatDoor
open Go.Proofs.Tryz
open Go.Eng Go.RowKit
theorem Ax6{w0 i:World}{M0 M:Mem}{Rs:List HO}{v u:Value}{t:Tf}{p:List Sp}{a:Tm}(hS:St w0 M0 i M Rs)(hl:(A7 v t.flat).ok M)(hu:(kn u 3 p Sp.cells).ok M)(q:len t.flat<=1099511627)(e:len p<=1099511627776)(h:(BF p t).2=false):
   Calls prog 79 [v,u,VQ a].toArray i (BY w0 M0 M Rs (λ _:Unit=>.tuple #[.slice none 0 0,i64 6]) (λ _=>True) (λ _=>[]) λ _=>[]):=by
 refine AE (Hr:=Rs) A8 func79 U ntmps79 [(0,A7 v t.flat),(1,kn u 3 p Sp.cells)] [] [.sl 0 v,.sl 1 u,.ag (I a.n::G9 a.c.cells)] U hS (AA hl (AA hu A3)) (λ B l=>BO 5 U U U λ s=>AY [] (λ _:Unit=>.tu [I (BF p t).1,.v (.bool (BF p t).2)]) [] (λ _=>[]) (Fg:=λ _=>[]) (pu:=λ _=>True) U U call134 U U (λ w M hS hF=>gS p v u t hS (hF.get (k:=0) U) (hF.get (k:=1) U) Aa e) λ _ _=>?_) U
 rw[h]
 refine A1 U (λ b=>?_) (λ b=>?_)
 ·exact A2 l U U U λ w M' j=>⟨(),M',rfl,trivial,j.le,j.st.drop _ (List.sublist_cons_self _ _),A3⟩
 ·cases b
theorem Ax7{w0 D:World}{M0 M:Mem}{Rs:List HO}{v u:Value}{t:Tf}{p:List Sp}{a:Tm}{i:Int}(hS:St w0 M0 D M Rs)(hl:(A7 v t.flat).ok M)(hu:(kn u 3 p Sp.cells).ok M)(K:len t.flat<=1099511627)(A:len p<=1099511627776)(h:BF p t=(i,true))(hm:0<=(at' t.flat i).many/\i+(at' t.flat i).many+1<=len t.flat):
    Calls prog 79 [v,u,VQ a].toArray D (BY w0 M0 M Rs (λ g:Value=>.tuple #[g,i64 0]) (λ _=>True) (λ _=>[]) λ g=>[J0 g (GC t.flat i a)]):=by
 have hi:=Z8 p t
 rw[h]at hi
 refine AE (Hr:=Rs) A8 func79 U ntmps79 [(0,A7 v t.flat),(1,kn u 3 p Sp.cells)] [] [.sl 0 v,.sl 1 u,.ag (I a.n::G9 a.c.cells)] U hS (AA hl (AA hu A3)) (λ B y=>BO 5 U U U λ L=>AY [] (λ _:Unit=>.tu [I (BF p t).1,.v (.bool (BF p t).2)]) [] (λ _=>[]) (Fg:=λ _=>[]) (pu:=λ _=>True) U U call134 U U (λ w M hS hF=>gS p v u t hS (hF.get (k:=0) U) (hF.get (k:=1) U) Aa A) λ _ _=>?_) U
 rw[h]
 refine A1 U (λ s=>?_) (λ s=>?_)
 ·cases s
 refine AY [] (λ u:AJ=>.sl 11 u.v) [] (λ u=>[(11,IG u.v t.flat)]) U U call135 U U (λ w M hS hF=>gK v t.flat hS (hF.get (k:=0) U) (Tf.SH _) Aa) λ E _=>L6 { at' t.flat i with many:=(at' t.flat i).many+1} rfl U U sizeOf3 U U U Aa λ z F=>?_
 have l:z=JV t.flat i:=F
 have C:len z=len t.flat:=by rw[l];unfold JV len;rw[List.length_set]
 have q:at' z i= { at' t.flat i with many:=(at' t.flat i).many+1}:=by
  obtain⟨h1,G⟩:=DB z (i:=i) Aa Aa
  rw[G];simp[l,JV]
 have H:(at' z i).many=(at' t.flat i).many+1:=by rw[q]
 have b: ∀(w:World) (M':Mem) (v v12:Value) (Rs:List HO),St w0 M0 w M' (J0 v z::J0 v12 [({ BK 9 with n:=a.n,c:=a.c}:Tm)]::Rs)->Calls prog 136 [v,i64 (i+(at' z i).many),v12].toArray w (BY w0 M0 M' Rs (λ v:Value=>v) (λ _=>True) (λ _=>[]) λ g=>[J0 g (GC t.flat i a)]):=λ w M' v v12 Rs hS=>by
  have:=Ax5 (i:=i+(at' z i).many) hS (by rw[l];intro e;have:=congrArg List.length e;simp[JV]at this;exact Tf.SH _ this) (by rw[q,C];simp only[];omega) Aa
  have J:z.take (i+(at' z i).many).toNat++({ BK 9 with n:=a.n,c:=a.c}:Tm)::z.drop (i+(at' z i).many).toNat=GC t.flat i a:=by
   rw[q,l];unfold GC;simp only[<-Int.add_assoc]
  rw[J]at this
  exact this
 refine EJ [4,5,6,13,14,15,16] 8 (λ _ _ _ _ _ h=>h) U BI U <|H3 4 13 U U U ?_ ?_
 ·refine AI U <|H3 5 13 U U U ?_ ?_
  ·refine AI U <|H3 6 13 U U U ?_ ?_
   ·exact AI U <|AL 13 U U U <|IB 12 [({ BK 9 with n:=a.n,c:=a.c}:Tm)] Tm.cells 11 52 Tm.AO U U Ah U λ v12=>AI U <|AL 14 U U U <|AY [11,12] (λ u:Value=>.sl 13 u) [] (λ u=>[(13,IG u (GC t.flat i a))]) (Fg:=λ _=>[]) (pu:=λ _=>True) (Hg:=λ g=>[J0 g (GC t.flat i a)]) U U call136 U U (λ w M hS hF=>b w M _ _ _ hS) λ g _=>AI U <|AL 15 U U U <|AI U <|AL 16 U U U <|AI U <|BV U U U <|A2 y U U U λ w M' j=>⟨g,M',rfl,trivial,j.le,j.st.drop _ ((List.sublist_cons_self _ _).cons_cons _),A3⟩
   ·exact IB 12 [({ BK 9 with n:=a.n,c:=a.c}:Tm)] Tm.cells 11 52 Tm.AO U U Ah U λ v12=>AI U <|AL 6 U U U <|AI U <|AL 14 U U U <|AY [11,12] (λ u:Value=>.sl 13 u) [] (λ u=>[(13,IG u (GC t.flat i a))]) (Fg:=λ _=>[]) (pu:=λ _=>True) (Hg:=λ g=>[J0 g (GC t.flat i a)]) U U call136 U U (λ w M hS hF=>b w M _ _ _ hS) λ g _=>AI U <|AL 15 U U U <|AI U <|AL 16 U U U <|AI U <|BV U U U <|A2 y U U U λ w M' j=>⟨g,M',rfl,trivial,j.le,j.st.drop _ ((List.sublist_cons_self _ _).cons_cons _),A3⟩
  ·exact IB 12 [({ BK 9 with n:=a.n,c:=a.c}:Tm)] Tm.cells 11 52 Tm.AO U U Ah U λ v12=>AI U <|AL 5 U U U <|AI U <|AL 6 U U U <|AI U <|AL 14 U U U <|AY [11,12] (λ u:Value=>.sl 13 u) [] (λ u=>[(13,IG u (GC t.flat i a))]) (Fg:=λ _=>[]) (pu:=λ _=>True) (Hg:=λ g=>[J0 g (GC t.flat i a)]) U U call136 U U (λ w M hS hF=>b w M _ _ _ hS) λ g _=>AI U <|AL 15 U U U <|AI U <|AL 16 U U U <|AI U <|BV U U U <|A2 y U U U λ w M' j=>⟨g,M',rfl,trivial,j.le,j.st.drop _ ((List.sublist_cons_self _ _).cons_cons _),A3⟩
 ·exact IB 12 [({ BK 9 with n:=a.n,c:=a.c}:Tm)] Tm.cells 11 52 Tm.AO U U Ah U λ v12=>AI U <|AL 4 U U U <|AI U <|AL 5 U U U <|AI U <|AL 6 U U U <|AI U <|AL 14 U U U <|AY [11,12] (λ u:Value=>.sl 13 u) [] (λ u=>[(13,IG u (GC t.flat i a))]) (Fg:=λ _=>[]) (pu:=λ _=>True) (Hg:=λ g=>[J0 g (GC t.flat i a)]) U U call136 U U (λ w M hS hF=>b w M _ _ _ hS) λ g _=>AI U <|AL 15 U U U <|AI U <|AL 16 U U U <|AI U <|BV U U U <|A2 y U U U λ w M' j=>⟨g,M',rfl,trivial,j.le,j.st.drop _ ((List.sublist_cons_self _ _).cons_cons _),A3⟩
end Go.Proofs.YtnoegalemkbbbaaGreatDoor
namespace Go.Eng
open Go.RowKit
section
variable {c:Cx} {B:Exit->Act->World->Prop} {k k':List Fr} {m:Md} {s s':XS} {O:Prop} {E:List Ck} {all:Array Oper} {rest:List Oper} {d:Nat} {ty:TypeId} {ps:String} {af:Array Edge}
theorem Ax8(kk:Nat){t:TypeId}(h:run c.T c.N k m s=⟨k',.ops all (⟨some d,.makeMap t none,ty,ps,af,none⟩::rest),s',O,E⟩)
  (i: ∀b,XG c B k' (.ops all rest) ⟨s'.F,(kk,.ho (.raw b (BN .i64 [] 0)))::s'.H,(d,.t,.v (.map (some b)))::s'.L⟩) (hE:A9 E:=by exact Ad) (hO:O:=by exact Af) (hd:Nat.blt d c.N=true:=by exact rfl):XG c B k m s:=
 E7 h (hE:=hE) (hO:=hO) λ w M e=>RL.makeMap .i64 e.st hd λ w' b hS=>E8 (i b) ⟨hS,e.f,e.le⟩ U
theorem TF(kk:Nat)(j:Nat)(l':List KV){t kt e:TypeId}{y x z:Operand}{b cl:Nat}{l:List KV}{n:Int}{v:Value}{E1 E2 E3:List Ck}(h:run c.T c.N k m s=⟨k',.ops all (⟨none,.insert t y x z,ty,ps,af,none⟩::rest),s',O,E⟩)
  (D:B5 s'.L .t y=some (.v (.map (some b)),E1)) (hx:B5 s'.L .t x=some (.v (.int .i64 n),E2)) (G:B5 s'.L .t z=some (.v v,E3)) (J:DO s'.H kk=some (.ho (.raw b (BN .i64 l cl)))) (K:c.P.underlying t=some (.map kt e)) (A:c.P.underlying kt=some (.int .i64))
  (hl:M6 l cl n v=l') (Q:PM l cl n v=j) (R:XG c B k' (.ops all rest) ⟨s'.F,D4 s'.H kk (.ho (.raw b (BN .i64 l' j))),s'.L⟩) (hE:A9 E:=by exact Ad) (hO:O:=by exact Af) (h1:A9 E1:=by exact Ad) (S:A9 E2:=by exact Ad) (V:A9 E3:=by exact Ad):XG c B k m s:=by
 refine E7 h (hE:=hE) (hO:=hO) λ w M C=>?_
 obtain⟨q,W,i⟩:=EI (Hr:=c.Hr) J
 exact RL.mapUpdate (c:=cl) true C.st W (AF D (hE:=h1)) (AF hx (hE:=S)) (AF G (hE:=V)) K A hl Q (Hs':=HD (D4 s'.H kk (.ho (.raw b (BN .i64 l' j))))++c.Hr) (i (.ho (.raw b (BN .i64 l' j)))).symm λ w' hS=>E8 R ⟨hS,C.f,C.le⟩ U
theorem Ax9(kk:Nat)(u:Value){t kt e:TypeId}{x y:Operand}{b cl:Nat}{l:List KV}{n:Int}{z:Value}{E1 E2:List Ck}(h:run c.T c.N k m s=⟨k',.ops all (⟨some d,.lookup t x y false,ty,ps,af,none⟩::rest),s',O,E⟩)
  (hx:B5 s'.L .t x=some (.v (.map (some b)),E1)) (j:B5 s'.L .t y=some (.v (.int .i64 n),E2)) (A:DO s'.H kk=some (.ho (.raw b (BN .i64 l cl)))) (C:c.P.underlying t=some (.map kt e)) (i:c.P.underlying kt=some (.int .i64)) (D: ∀w,(zeroValue e).run c.P w= .ok z w) (hu:(C2 l n).getD z=u)
  (G:XG c B k' (.ops all rest) ⟨s'.F,s'.H,(d,.t,.v u)::s'.L⟩) (hE:A9 E:=by exact Ad) (hO:O:=by exact Af) (h1:A9 E1:=by exact Ad) (J:A9 E2:=by exact Ad) (hd:Nat.blt d c.N=true:=by exact rfl):XG c B k m s:=by
 refine AU (.v u) h (hE:=hE) (hO:=hO) (W:=.t) (by rw[hd];rfl) (λ w M K=>?_) G
 obtain⟨q,Q,_⟩:=EI (Hr:=c.Hr) A
 exact PV.lookup K.st HJ Q (AF hx (hE:=h1)) (AF j (hE:=J)) C i D hu
end
end Go.Eng
namespace Go.Proofs.YtnoegalemkbbbaaGreatDoor
open Go.Proofs.Tryz
open Go.Eng Go.RowKit
theorem Ay0{w0 e:World}{M0 M:Mem}{Rs:List HO}(n:Int)(hS:St w0 M0 e M Rs):
   Calls prog 78 [i64 n].toArray e (BY w0 M0 M Rs (λ _:Unit=>i64 (IJ n)) (λ _=>True) (λ _=>[]) λ _=>[]):=by
 refine AE (Hr:=Rs) A8 func78 U ntmps78 [] [] [I n] U hS A3 (λ B i=>Ax8 1 U λ b=>TF 1 1 [⟨0,i64 1,0⟩] U U U U U underlying168 underlying3 U U <|TF 1 2 [⟨0,i64 1,0⟩,⟨1,i64 0,1⟩] U U U U U underlying168 underlying3 U U <|TF 1 3 [⟨0,i64 1,0⟩,⟨1,i64 0,1⟩,⟨2,i64 5,2⟩] U U U U U underlying168 underlying3 U U <|TF 1 4 [⟨0,i64 1,0⟩,⟨1,i64 0,1⟩,⟨2,i64 5,2⟩,⟨5,i64 2,3⟩] U U U U U underlying168 underlying3 U U <|TF 1 5 [⟨0,i64 1,0⟩,⟨1,i64 0,1⟩,⟨2,i64 5,2⟩,⟨5,i64 2,3⟩,⟨3,i64 4,4⟩] U U U U U underlying168 underlying3 U U <|TF 1 6 [⟨0,i64 1,0⟩,⟨1,i64 0,1⟩,⟨2,i64 5,2⟩,⟨5,i64 2,3⟩,⟨3,i64 4,4⟩,⟨4,i64 3,5⟩] U U U U U underlying168 underlying3 U U <|Ax9 1 (i64 (IJ n)) U U U U underlying168 underlying3 zeroValue3 ?_ ?_) U
 ·unfold IJ
  simp only[C2,beq_iff_eq]
  repeat' split
  all_goals first|rfl|omega
 exact A2 i U U U λ w M' h=>⟨(),M',rfl,trivial,h.le,h.st.drop _ (List.sublist_cons_self _ _),A3⟩
end Go.Proofs.YtnoegalemkbbbaaGreatDoor
namespace Go.Eng
open Go.RowKit
def BD(t:Tf):List Tf:=if t.t.op=1 then []else t.ps.map (Tf.named [])
theorem wC{t:Tf}(h:t.t.op≠1):BD t=t.ps.map (Tf.named []):=by unfold BD;rw[if_neg h]
theorem Ay1{t:Tf}(h:t.t.op=1):BD t=[]:=by unfold BD;rw[if_pos h]
theorem wD(t:Tf):(BD t).length<=t.ps.length:=by unfold BD;split<;>simp
theorem ZY{t:Tf}{k:Nat}(h:k<(BD t).length):t.t.op≠1/\k<t.ps.length:=by
 unfold BD at h
 split at h
 ·simp at h
 ·rename_i ho;exact⟨ho,by simpa using h⟩
theorem wE{t:Tf}{k:Nat}(h:k<(BD t).length):at' (BD t) (k:Int)=(at' t.ps (k:Int)).named []:=by
 obtain⟨ho,j⟩:=ZY h
 obtain⟨h1,b⟩:=DB t.ps (i:=(k:Int)) Aa (by unfold len;omega)
 obtain⟨l,e⟩:=DB (BD t) (i:=(k:Int)) Aa (by unfold len;omega)
 rw[b,e]
 simp[BD,ho]
theorem wF(x:Tf)(n:A0):x.flat.set 0 { at' x.flat 0 with name:=n}=(x.named n).flat:=by cases x;rfl
theorem Ay2{α:Type}[Inhabited α]{l:List α}{k:Nat}(h:k<l.length):l.take (k+1)=l.take k++[at' l (k:Int)]:=by
 obtain⟨h1,b⟩:=DB l (i:=(k:Int)) Aa (by unfold len;omega)
 rw[b,List.take_add_one];simp[h]
end Go.Eng
namespace Go.Proofs.YtnoegalemkbbbaaGreatDoor
open Go.Proofs.Tryz
open Go.Eng
theorem Ay3{w0 w:World}{M0 M:Mem}{s:HO}{Rs:List HO}{b:Nat}{v:Value}{t:Tf}(hl:(A7 v t.flat).ok M)(Q:len t.flat<=1099511627776)(y:t.t.op=1):
    SS prog 190 [.pointer (some ⟨b,0,none⟩)] 0 w0 M0 (s:: .box b [v] 25::Rs)
     (λ k (_:Unit)=>[I (CC t k),I (CC t (k+1))]) (λ _ _=>True) (λ _ _=>[]) w M:=by
 intro γ ub I' J Hy L l g0 ⟨z,A,C,D,E,hx⟩ hS hF R hy
 have H:St w0 M0 w M (.box b [v] 25::z g0::A g0::C g0::D g0::E g0::(s::Rs)):=by
  rw[hx]at hS
  exact hS.perm (List.perm_middle (l₁:=[z g0,A g0,C g0,D g0,E g0,s])).symm
 have N:=t.Y1
 have O:=t.D7
 have S:=KP t.ps
 have T:len t.flat=1+len (AM t.ps):=by rw[Tf.FM,AH];omega
 have V:len t.ps=(t.ps.length:Int):=rfl
 have F:(at' t.flat 0).op=t.t.op:=by rw[Tf.SG]
 refine YZ (Hr:=s::Rs) A8 func190 rfl ntmps190 rfl (λ w h=>by obtain⟨g,M',h,_⟩:=h;cases h) [(0,A7 v t.flat),(9,IF (L g0))] [(0,.box b [.sl 0 v] 25),(1,.ho (z g0)),(2,.ho (A g0)),(3,.ho (C g0)),(4,.ho (D g0)),(5,.ho (E g0))] [.v (.func (.yield l) #[] #[]),.bx 0 b 0] rfl H (AA hl (AA ⟨Sl.nil M 1,FY,hF⟩ A3)) (λ B W=>AT (σ:=Int×Nat) (λ(i,k)=>⟨[(0,A7 v t.flat),(9,IF (L g0))],[(0,.box b [.sl 0 v] 25),(1,.ho (z g0)),(2,.ho (A g0)),(3,.ho (C g0)),(4,.ho (D g0)),(5,.ho (E g0))],[Z 0 (.v (.func (.yield l) #[] #[])),Z 1 (.bx 0 b 0),Z 3 (I i),Z 8 (I (at' t.flat 0).many),Z 9 (I k)]⟩) (λ(i,k)=>i=CC t k/\k<=t.ps.length) (λ(i,k)=>t.ps.length-k) (1,0) U U ⟨rfl,Nat.zero_le _⟩ ?_) rfl
 rintro⟨i,k⟩ ⟨hi,hk⟩
 have X:=LN t k
 refine A1 U (λ G=>?_) (λ G=>?_)<;>simp only[zb]at G
 ·have e:k<t.ps.length:=by omega
  have P:=LN t (k+1)
  have K:=SW e
  subst hi
  refine AB U call191 U U (λ _ w M q=>sL v t.flat (CC t k) _ _ q.st.sat (q.f.get (k:=0) U) ((SU t k).next e) Aa Q) U ?_
  rw[<-K]
  refine F9 (.v (.bool true)) U U (λ j=>?_) (λ j=>?_)
  ·rw[F,y]at j;simp at j
  ·refine A1 U (λ n=>?_) (λ n=>?_)
   ·rw[F,y]at n;simp at n
   ·exact AR (CC t (k+1),k+1) U U ⟨rfl,e⟩ (by show t.ps.length-(k+1)<t.ps.length-k;omega)
 ·refine WW W U U λ w' M' q=>⟨g0,M',rfl,.inl R,q.le,q.st.perm ?_,(q.f.get (k:=9) U).more⟩
  rw[hx]
  exact List.perm_middle (l₁:=[z g0,A g0,C g0,D g0,E g0,s])
theorem Ay4{w0 w:World}{M0 M:Mem}{h:HO}{Rs:List HO}{b:Nat}{v:Value}{t:Tf}(hl:(A7 v t.flat).ok M)(e:len t.flat<=1099511627776):
   SS prog 190 [.pointer (some ⟨b,0,none⟩)] (BD t).length w0 M0 (h:: .box b [v] 25::Rs)
    (λ k (_:Unit)=>[I (CC t k),I (CC t (k+1))]) (λ _ _=>True) (λ _ _=>[]) w M:=by
 by_cases ho:t.t.op=1
 ·rw[Ay1 ho];exact Ay3 hl e ho
 ·rw[wC ho,List.length_map];exact sM hl e ho
abbrev IP(v:Value)(hs:List AJ):HX:=.pv 25 (kn v 1 hs CA) DJ
abbrev Ay5(v:Value)(hs:List AJ):HO:=.priv 25 1 v hs.length (hs.flatMap CA)
theorem iZ{w0 K:World}{M0 M:Mem}{Rs:List HO}{v:Value}{t:Tf}(hS:St w0 M0 K M Rs)(hl:(A7 v t.flat).ok M)(P:len t.flat<=1099511627776):
    Calls prog 143 [v].toArray K (BY w0 M0 M Rs (λ g:Value×List AJ=>g.1) (λ g=>g.2.length=(BD t).length) (λ g=>[(0,MT g.2 ((BD t).map Tf.flat))]) λ g=>[Ay5 g.1 g.2]):=by
 have Q:=KP t.ps
 have R:len t.flat=1+len (AM t.ps):=by rw[Tf.FM,AH];omega
 have S:len t.ps=(t.ps.length:Int):=rfl
 have T:=wD t
 refine UK (Hr:=Rs) A8 func143 U ntmps143 [(0,A7 v t.flat)] [] [.sl 0 v] U hS (AA hl A3) (λ B V=>BO 7 U U U λ n=>AZ 1 U zeroValue53 U λ q=>AY [] (λ b:Nat=>.v (.func (.func 190) #[] #[.pointer (some ⟨b,0,none⟩)])) [] (λ b=>[(2,.box b [.sl 0 v] 25)]) U U call167 U U (λ w M hS hF=>sN hS (hF.get (k:=0) U)) λ b2 _=>X8 [2] U U <|AF7 6 25 1 CA DJ <|XB 8 25 1 CA DJ <|ES 9 (MT [] []) (λ w M j=>⟨Sl.nil M 1,FY,trivial⟩) <|mS ⟨_,[(8,.ho (.own 25 1 (.slice none 0 0) ([]:List AJ).length (([]:List AJ).flatMap CA))),(6,IP (.slice none 0 0) []),(1,.box q [.sl 6 (.slice none 0 0)] 53),(7,.box n [.sl 0 v] 25)],_⟩ U U U ?_) U
 refine gQ (σ:=Value×List AJ×List Fl) (τ:=Unit) (λ g=>⟨[(0,A7 v t.flat),(9,MT g.2.1 g.2.2)],[(7,.box n [.sl 0 v] 25),(1,.box q [.sl 6 g.1] 53),(6,IP g.1 g.2.1),(8,.ho (.own 25 1 (.slice none 0 0) ([]:List AJ).length (([]:List AJ).flatMap CA)))],[Z 1 (.bx 7 n 0),Z 3 (.bx 1 q 0)]⟩)
  (λ k g=>g.2.2=((BD t).map Tf.flat).take k/\g.2.1.length=k) (λ _=>False) (.slice none 0 0,[],[])
  (λ k g y L=>L=⟨[(0,A7 v t.flat),(9,MT g.2.1 g.2.2)],[(7,.box n [.sl 0 v] 25),(1,.box q [.sl 6 g.1] 53),(6,IP g.1 g.2.1),(8,.ho (.own 25 1 (.slice none 0 0) ([]:List AJ).length (([]:List AJ).flatMap CA)))],[Z 4 (I (CC t k)),Z 5 (I (CC t (k+1))),Z 1 (.bx 7 n 0),Z 3 (.bx 1 q 0)]⟩)
  (λ _ _ _ _ h=>h) U U call190 U ⟨rfl,rfl⟩ (λ _=>rfl) ⟨_,_,_,_,λ _=>rfl⟩ (λ w M D w' j=>Ay4 (j.f.get (k:=0) U) P) (λ _ _=>rfl)
  (λ k g y l D r M G H hp=>?_) U (λ k g y l D r M G H hp L W=>?_) U (λ D g a w H=>?_) (λ D g a w X=>X.elim)
 ·exact AQ _ U U U
 ·subst W
  obtain⟨J,C,xs⟩:=g
  obtain⟨e,i⟩:=H
  dsimp only at e i
  obtain⟨hop,E⟩:=ZY G
  have hpk:=LN t k
  have N:=LN t (k+1)
  have hst:=SW E
  have hcp:=(at' t.ps (k:Int)).D7
  have F:=sJ E
  refine HP (gd:=none) 10 (CC t k) (CC t (k+1)) U U U ⟨.i64,_,rfl,AG U⟩ ⟨.i64,_,rfl,AG U⟩ underlying25 sizeOf52 Aa U λ v10=>?_
  rw[F]
  refine AY [] (λ u:AJ=>.sl 11 u.v) [] (λ u=>[(11,IG u.v (at' t.ps (k:Int)).flat)]) U U call135 U U (λ w M hS hF=>gK v10 (at' t.ps (k:Int)).flat hS (hF.get (k:=10) U) (Tf.SH _) Aa) λ A _=>L6 { at' (at' t.ps (k:Int)).flat 0 with name:=[]} rfl U U sizeOf9 U U U Aa λ z O=>?_
  rw[show(0:Int).toNat=0 from rfl,wF,<-wE G]at O
  refine C5 U Ad Aa <|H0 11 U <|B9 12 [A] CA 1 25 DJ U U Ah U λ v12=>IT 24 U U U underlying53 type25 U U QM (by simp only[AH,len_nil];unfold len at*;omega) λ v'=>ES 9 (MT (C++[A]) (xs++[z])) (λ w M j=>⟨Sl.nil M 1,FY,CB.snoc (j.sl 11 U) (j.f.get (k:=9) U).more⟩) ?_
  exact AQ _ U U ⟨(v',C++[A],xs++[z]),rfl,by
   dsimp only
   rw[e,O,<-List.map_take,<-List.map_take,Ay2 G,List.map_append];rfl,by dsimp only;rw[List.length_append,i];rfl⟩
 ·obtain⟨J,C,xs⟩:=g
  obtain⟨e,i⟩:=H
  dsimp only at e i
  rw[List.take_of_length_le (by simp)]at e
  subst e
  refine X5 8 (λ _ _ _ _ h=>h) U (s:=⟨[(0,A7 v t.flat),(9,MT C ((BD t).map Tf.flat))],[(7,.box n [.sl 0 v] 25),(1,.box q [.sl 6 J] 53),(6,IP J C),(8,.ho (.own 25 1 (.slice none 0 0) ([]:List AJ).length (([]:List AJ).flatMap CA)))],[Z 1 (.bx 7 n 0),Z 3 (.bx 1 q 0)]⟩) ?_ a w
  refine A2 (V.E4 U D) U U U λ w M j=>?_
  obtain⟨h1,h2⟩:=j.shut
  exact⟨by simp,h1,(J,C),M,rfl,i,j.le,h2.drop _ (((((List.Sublist.refl _).cons _).cons _).cons_cons _).cons _|>.cons _),AA (j.f.get (k:=9) U) A3⟩
open Go.Eng Go.RowKit
theorem Ay6{w0 e:World}{M0 M:Mem}{Rs:List HO}(s:A0)(hS:St w0 M0 e M Rs)(hg:Gl w0)(h:len s<=200000000000):
  Calls prog 80 [str s].toArray e (BY w0 M0 M Rs (λ u:Value=>u) (λ _=>True) (λ u=>[(1,kn u 3 (CI s).1 Sp.cells)]) λ _=>[]):=AE (Hr:=Rs) A8 func80 U ntmps80 [] [] [.v (str s)] U hS A3 (λ B i=>AY [] (λ u:Value=>.tu [.sl 1 u,I (CI s).2.1,I (CI s).2.2]) [1] (λ _=>[]) (Fg:=λ u=>[(1,kn u 3 (CI s).1 Sp.cells)]) (pu:=λ _=>True) U U call137 U U (λ w M hS hF=>s8 s hS hg h) λ u _=>A2 i U U U λ w M' b=>⟨u,M',rfl,trivial,b.le,b.st,AA (b.f.get (k:=1) U) A3⟩) U
abbrev NoC(w0:World)(M0 M:Mem)(Rs:List HO)(i why:Int):Ending->World->Prop:=λ e w'=> ∃M',e= .panicked [PW 110 i why]/\St w0 M0 w' M' Rs/\M.le M'
theorem TG{w0 e:World}{M0 M:Mem}{Rs:List HO}(i why:Int)(hS:St w0 M0 e M Rs):
  Calls prog 81 [i64 i,i64 why].toArray e (NoC w0 M0 M Rs i why):=AE (Hr:=Rs) A8 func81 U ntmps81 [] [] [I i,I why] U hS A3 (λ B h=>AU (.v (.iface 110 (.agg #[i64 i,i64 why]))) U U (λ w M b=>PV.iface (v:=.agg #[i64 i,i64 why]) (AF (v:=.ag [I i,I why]) (E:=[]) U) underlying110 U) <|AF5 U U U λ a w M j b=>K0 [] (h.p ⟨M,rfl,b.st,b.le⟩ a j)) U
theorem Ay8{w0 b:World}{M0 M:Mem}{Rs:List HO}(h:AJ)(x:Tf)(hS:St w0 M0 b M Rs)(hl:(A7 h.v x.flat).ok M)(j:len x.flat<=1099511627):
  Calls prog 141 [h.v].toArray b (QP w0 M0 M Rs (Tf.mk (BK 5) [x]).flat):=AE (Hr:=Rs) A8 func141 U ntmps141 [(0,A7 h.v x.flat)] [] [.sl 0 h.v] U hS (AA hl A3) (λ B i=>B9 1 [h] CA 1 25 DJ U U Ah U λ v1=>AY [] (λ u:AJ=>.sl 2 u.v) [] (λ u=>[(2,IG u.v (Tf.mk (BK 5) [x]).flat)]) U U call146 U U (λ w M hS hF=>Ad0 (BK 5) v1 h x hS (hF.get (k:=1) U).sl (hF.get (k:=0) U).sl Aa) λ u _=>A2 i U U U λ w M' e=>⟨u,M',rfl,trivial,e.le,e.st.drop _ ((List.sublist_cons_self _ _).cons_cons _),A3⟩) U
end Go.Proofs.YtnoegalemkbbbaaGreatDoor
namespace Go.Eng
open Go.RowKit
def EY(t:Tf):List A0:=if t.t.op=1 then []else t.ps.map λ x=>x.t.name
theorem Ay9{t:Tf}{k:Nat}(h:k<(BD t).length):len (at' (BD t) (k:Int)).flat=len (at' t.ps (k:Int)).flat:=by
 rw[wE h,<-wF];unfold len;rw[List.length_set]
theorem j3(t:Tf):(EY t).length=(BD t).length:=by unfold EY BD;split<;>simp
theorem Az0{t:Tf}{k:Nat}(h:k<(BD t).length):(EY t).take (k+1)=(EY t).take k++[(at' t.ps (k:Int)).t.name]:=by
 obtain⟨ho,b⟩:=ZY h
 have e:EY t=t.ps.map λ x=>x.t.name:=by unfold EY;rw[if_neg ho]
 obtain⟨h1,j⟩:=DB t.ps (i:=(k:Int)) Aa (by unfold len;omega)
 rw[e,j,List.take_add_one];simp[b]
end Go.Eng
namespace Go.Proofs.YtnoegalemkbbbaaGreatDoor
open Go.Proofs.Tryz
open Go.Eng Go.RowKit
abbrev Az1(u:Value)(l:List A0):HO:=.priv 9 1 u l.length (l.flatMap CO)
abbrev wG(u:Value)(l:List A0):HX:=.pv 9 (kn u 1 l CO) FY
theorem Az2{w0 A:World}{M0 M:Mem}{Rs:List HO}{v:Value}{t:Tf}(hS:St w0 M0 A M Rs)(hl:(A7 v t.flat).ok M)(S:len t.flat<=1099511627):
    Calls prog 147 [v].toArray A (BY w0 M0 M Rs (λ u:Value=>u) (λ _=>True) (λ _=>[]) λ u=>[Az1 u (EY t)]):=by
 have E:=KP t.ps
 have F:len t.flat=1+len (AM t.ps):=by rw[Tf.FM,AH];omega
 have G:len t.ps=(t.ps.length:Int):=rfl
 have H:=wD t
 refine AE (Hr:=Rs) A8 func147 U ntmps147 [(0,A7 v t.flat)] [] [.sl 0 v] U hS (AA hl A3) (λ B J=>AY [] (λ g:Value×List AJ=>.sl 8 g.1) [9] (λ g=>[(8,IP g.1 g.2)]) U U call143 U U (λ w M hS hF=>iZ hS (hF.get (k:=0) U) Aa) λ g hg=>?_) U
 obtain⟨u,l⟩:=g
 dsimp only at hg
 refine H0 8 U <|ES 8 (CS u l ((BD t).map Tf.flat)) (λ w M h=>⟨(h.f.get (k:=8) U).sl,DJ,(h.f.get (k:=9) U).more⟩) <|AF0 3 3 9 1 CO FY U ?_
 refine AT (σ:=Nat×Value) (λ(k,o)=>⟨[(0,A7 v t.flat),(8,CS u l ((BD t).map Tf.flat))],[(3,wG o ((EY t).take k))],[Z 0 (.sl 0 v),Z 3 (.sl 3 o),Z 4 (I (CC t k)),Z 8 (.sl 8 u),Z 9 (I (len l)),Z 10 (I k)]⟩)
   (λ(k,o)=>k<=(BD t).length) (λ(k,o)=>(BD t).length-k) (0,.slice none 0 0) U U Aa ?_
 rintro⟨k,o⟩ T
 refine A1 U (λ b=>?_) (λ b=>?_)<;>simp only[zb]at b
 ·have j:k<(BD t).length:=by unfold len at b;omega
  obtain⟨K,n⟩:=ZY j
  have L:=LN t k
  have C:=LN t (k+1)
  have y:=SW n
  have N:=(at' t.ps (k:Int)).D7
  have q:=Ay9 j
  have O:len ((BD t).map Tf.flat)=len l:=by unfold len;rw[List.length_map,hg]
  have s:at' ((BD t).map Tf.flat) (k:Int)=(at' (BD t) (k:Int)).flat:=by
   obtain⟨V,P⟩:=DB (BD t) (i:=(k:Int)) Aa (by unfold len;omega)
   obtain⟨W,Q⟩:=DB ((BD t).map Tf.flat) (i:=(k:Int)) Aa (by unfold len;rw[List.length_map];omega)
   rw[P,Q,List.getElem_map]
  have z:(at' t.flat (CC t k)).name=(at' t.ps (k:Int)).t.name:=by rw[((SU t k).next n).step.2.1]
  have D:len (at' ((BD t).map Tf.flat) (k:Int))=len (at' t.ps (k:Int)).flat:=by rw[s,q]
  have R:len ((EY t).take k)<=1099511627:=by unfold len at*;rw[List.length_take];omega
  refine B9 12 [(at' t.flat (CC t k)).name] CO 1 9 FY U U Ah U λ v12=>IT 16 U U U underlying103 type9 U U bI (by simp only[AH,len_nil];omega) λ v'=>ES 2 (A7 (at' l (k:Int)).v (at' ((BD t).map Tf.flat) (k:Int))) (λ w M h=>EF (h.f.get (k:=8) U) Aa Aa) (ME 6 2 U ?_)
  exact AR (k+1,v') U (by dsimp only;rw[Az0 j,y,<-q,<-s,<-z];rfl) Aa (by show(BD t).length-(k+1)<(BD t).length-k;omega)
 ·refine A2 J U U U λ w M' h=>⟨o,M',rfl,trivial,h.le,?_,A3⟩
  have e:(EY t).take k=EY t:=List.take_of_length_le (by rw[j3];unfold len at b;omega)
  have:=h.st
  rw[e]at this
  exact this
end Go.Proofs.YtnoegalemkbbbaaGreatDoor
namespace Go.Eng
open Go.RowKit
def L0(t:Tm):Sp:=⟨decide (t.op=2),t.s,t.n⟩
end Go.Eng
namespace Go.Proofs.YtnoegalemkbbbaaGreatDoor
open Go.Proofs.Tryz
open Go.Eng Go.RowKit
theorem wH{w0 b:World}{M0 M:Mem}{Rs:List HO}(t:Tm)(hS:St w0 M0 b M Rs):
  Calls prog 73 [.agg t.cells.toArray].toArray b (BY w0 M0 M Rs (λ _:Unit=>.tuple #[.agg (L0 t).cells.toArray,.bool (decide (t.op=1)||decide (t.op=2))]) (λ _=>True) (λ _=>[]) λ _=>[]):=AE (Hr:=Rs) A8 func73 U ntmps73 [] [] [.ag (G9 t.cells)] U hS A3 (λ B i=>BO 1 U U U λ j=>AZ 2 U zeroValue105 U λ k=>EJ [16,17] 3 (λ _ _ _ _ _ h=>h) U BI U <|AL 16 U U U <|AI U <|AL 17 U U U <|AI U <|BV U U U <|A2 i U U U λ w M' e=>⟨(),M',rfl,trivial,e.le,e.st.drop _ ((List.sublist_cons_self _ _).cons _),A3⟩) U
end Go.Proofs.YtnoegalemkbbbaaGreatDoor
namespace Go.Eng
open Go.RowKit
def NZ(t:Tm):Bool:=decide (t.op=1)||decide (t.op=2)
def GD:Fl->List Sp
 |[]=>[]
 |[x]=>if NZ x then [L0 x]else []
 |x::y::r=>if NZ x then [L0 x]else if x.op=4/\NZ y=true then L0 y::GD r else []
theorem wI: ∀f:Fl,len (GD f)<=len f
 |[]=>by show len ([]:List Sp)<=len ([]:Fl);simp[len]
 |[x]=>by unfold GD;split<;>simp[len]
 |x::y::r=>by
  have h:=wI r
  have h0:=A6 r
  unfold GD
  split
  ·simp only[AH,len_nil];omega
  ·split
   ·simp only[AH];omega
   ·simp only[AH,len_nil];omega
def VZ:Fl->Bool
 |[]=>false
 |[x]=>x.op != 4
 |x::y::r=>NZ x||x.op != 4|| !NZ y||VZ r
end Go.Eng
namespace Go.Proofs.YtnoegalemkbbbaaGreatDoor
open Go.Proofs.Tryz
open Go.Eng Go.RowKit
theorem Az3: ∀(n:Nat) (f:Fl) {w0 F:World} {M0 M:Mem} {Rs:List HO} {v:Value},f.length<=n->VZ f=true->St w0 M0 F M Rs->(A7 v f).ok M->len f<=1099511627->
    Calls prog 28 [v].toArray F (BY w0 M0 M Rs (λ u:Value=>u) (λ _=>True) (λ u=>[(0,kn u 3 (GD f) Sp.cells)]) λ _=>[]):=by
 intro n
 induction n with
 |zero=>intro f _ _ _ _ _ _ D j;cases f with
  |nil=>cases j
  |cons=>simp at D
 |succ n G=>
  intro f w0 F M0 M Rs v D j hS hl O
  obtain⟨x,r,rfl⟩: ∃x r,f=x::r:=by cases f with
   |nil=>cases j
   |cons x r=>exact⟨x,r,rfl⟩
  have hp:0<len (x::r):=GM (by simp)
  have h0:at' (x::r) 0=x:=rfl
  refine AE (Hr:=Rs) A8 func28 U ntmps28 [(0,A7 v (x::r))] [] [.sl 0 v] U hS (AA hl A3) (λ B C=>?_) U
  refine AY [] (λ _:Unit=>.tu [.ag (G9 (L0 x).cells),.v (.bool (NZ x))]) [] (λ _=>[]) (Fg:=λ _=>[]) (pu:=λ _=>True) U U call73 U U (λ w M hS hF=>wH x hS) λ _ _=>?_
  refine AZ 3 U zeroValue105 U λ P=>?_
  refine A1 U (λ i=>?_) (λ i=>?_)
  ·refine B9 4 [L0 x] Sp.cells 3 105 (λ _=>rfl) U U Ah U λ v4=>?_
   refine A2 C U U U λ w M' b=>⟨v4,M',rfl,trivial,b.le,b.st.drop _ (((List.Sublist.refl _).cons _).cons _),?_⟩
   have e:GD (x::r)=[L0 x]:=by cases r<;>simp[GD,i]
   rw[e]
   exact AA (b.f.get (k:=4) U) A3
  refine A1 U (λ l=>?_) (λ l=>?_)<;>simp only[zb]at l
  ·rw[h0]at l
   refine A2 C U U U λ w M' b=>⟨.slice none 0 0,M',rfl,trivial,b.le,b.st.drop _ ((List.Sublist.refl _).cons _),?_⟩
   have e:GD (x::r)=[]:=by cases r<;>simp[GD,i,l]
   rw[e]
   exact AA ⟨Sl.nil M' 3,λ _=>rfl,trivial⟩ A3
  rw[h0]at l
  have z:x.op=4:=by omega
  obtain⟨y,r,rfl⟩: ∃y r',r=y::r':=by cases r with
   |nil=>simp[VZ,z]at j
   |cons y r=>exact⟨y,r,rfl⟩
  have K:=A6 r
  have H:len (x::y::r)=len r+2:=by simp only[AH];omega
  have h1:at' (x::y::r) 1=y:=rfl
  refine AY [] (λ _:Unit=>.tu [.ag (G9 (L0 y).cells),.v (.bool (NZ y))]) [] (λ _=>[]) (Fg:=λ _=>[]) (pu:=λ _=>True) U U call73 U U (λ w M hS hF=>wH y hS) λ _ _=>?_
  refine AZ 5 U zeroValue105 U λ Q=>?_
  refine A1 U (λ A=>?_) (λ A=>?_)
  ·have E:NZ y=false:=by simpa using A
   refine A2 C U U U λ w M' b=>⟨.slice none 0 0,M',rfl,trivial,b.le,b.st.drop _ (((List.Sublist.refl _).cons _).cons _),?_⟩
   have e:GD (x::y::r)=[]:=by simp[GD,i,E]
   rw[e]
   exact AA ⟨Sl.nil M' 3,λ _=>rfl,trivial⟩ A3
  have E:NZ y=true:=by simpa using A
  have q:VZ r=true:=by simpa[VZ,i,z,E]using j
  have s:Eng.sub (x::y::r) 2 (len (x::y::r))=r:=by unfold Eng.sub;rw[H];simp only[List.drop_succ_cons,List.drop_zero,show(2:Int).toNat=2 from rfl];exact List.take_of_length_le (by unfold len;omega)
  have e:GD (x::y::r)=[L0 y]++GD r:=by simp[GD,i,z,E]
  have L:len (GD r)<=1099511627:=by have:=wI r;omega
  refine EJ [1,3,4,5,6] 6 (λ _ _ _ _ _ h=>h) U BI U ?_
  refine H3 1 3 U U U ?_ ?_
  ·refine IB 6 [L0 y] Sp.cells 3 105 (λ _=>rfl) U U Ah U λ v6=>?_
   refine AI U ?_
   refine AL 3 U U U ?_
   refine HP (gd:=none) 7 2 (len (x::y::r)) U U U ⟨.i64,_,rfl,AG U⟩ U underlying23 sizeOf48 Aa U λ N=>?_
   rw[s]
   refine AI U ?_
   refine AL 4 U U U ?_
   refine AY [] (λ u:Value=>.sl 8 u) [8] (λ _=>[]) (Fg:=λ u=>[(0,kn u 3 (GD r) Sp.cells)]) (pu:=λ _=>True) U U call28 U U (λ w M hS hF=>G r (by simp at D;omega) q hS (hF.get (k:=7) U) Aa) λ J _=>?_
   refine AI U ?_
   refine AL 5 U U U ?_
   refine IT 32 rfl rfl rfl underlying61 type105 rfl rfl (λ x u hu=>by simp[Sp.cells]at hu;rcases hu with rfl|rfl|rfl<;>rfl) (by simp only[AH,len_nil];omega) λ v'=>?_
   refine AI U ?_
   refine AL 6 U U U ?_
   refine AI U ?_
   refine BV U U U ?_
   refine H0 6 U ?_
   exact A2 C U U U λ w M' b=>⟨v',M',rfl,trivial,b.le,b.st.drop _ ((List.Sublist.refl _).cons _|>.cons _),AA (by rw[e];exact b.f.get (k:=6) U) A3⟩
  ·refine HP (gd:=none) 7 2 (len (x::y::r)) U U U ⟨.i64,_,rfl,AG U⟩ U underlying23 sizeOf48 Aa U λ N=>?_
   rw[s]
   refine AI U ?_
   refine H3 1 4 U U U ?_ ?_
   ·refine IB 6 [L0 y] Sp.cells 3 105 (λ _=>rfl) U U Ah U λ v6=>?_
    refine AI U ?_
    refine AL 4 U U U ?_
    refine AY [] (λ u:Value=>.sl 8 u) [8] (λ _=>[]) (Fg:=λ u=>[(0,kn u 3 (GD r) Sp.cells)]) (pu:=λ _=>True) U U call28 U U (λ w M hS hF=>G r (by simp at D;omega) q hS (hF.get (k:=7) U) Aa) λ J _=>?_
    refine AI U ?_
    refine AL 5 U U U ?_
    refine IT 32 rfl rfl rfl underlying61 type105 rfl rfl (λ x u hu=>by simp[Sp.cells]at hu;rcases hu with rfl|rfl|rfl<;>rfl) (by simp only[AH,len_nil];omega) λ v'=>?_
    refine AI U ?_
    refine AL 6 U U U ?_
    refine AI U ?_
    refine BV U U U ?_
    refine H0 6 U ?_
    exact A2 C U U U λ w M' b=>⟨v',M',rfl,trivial,b.le,b.st.drop _ ((List.Sublist.refl _).cons _|>.cons _),AA (by rw[e];exact b.f.get (k:=6) U) A3⟩
   ·refine AY [] (λ u:Value=>.sl 8 u) [8] (λ _=>[]) (Fg:=λ u=>[(0,kn u 3 (GD r) Sp.cells)]) (pu:=λ _=>True) U U call28 U U (λ w M hS hF=>G r (by simp at D;omega) q hS (hF.get (k:=7) U) Aa) λ J _=>?_
    refine AI U ?_
    refine AL 1 U U U ?_
    refine IB 6 [L0 y] Sp.cells 3 105 (λ _=>rfl) U U Ah U λ v6=>?_
    refine AI U ?_
    refine AL 5 U U U ?_
    refine IT 32 rfl rfl rfl underlying61 type105 rfl rfl (λ x u hu=>by simp[Sp.cells]at hu;rcases hu with rfl|rfl|rfl<;>rfl) (by simp only[AH,len_nil];omega) λ v'=>?_
    refine AI U ?_
    refine AL 6 U U U ?_
    refine AI U ?_
    refine BV U U U ?_
    refine H0 6 U ?_
    exact A2 C U U U λ w M' b=>⟨v',M',rfl,trivial,b.le,b.st.drop _ ((List.Sublist.refl _).cons _|>.cons _),AA (by rw[e];exact b.f.get (k:=6) U) A3⟩
end Go.Proofs.YtnoegalemkbbbaaGreatDoor
namespace Go.Eng
open Go.RowKit
def BE(f:Tf):List Tf:=f.ps.map (Tf.named [])
def JW(n:Int)(c:Nd):Tf:=.mk { BK 9 with n:=n,c:=c} []
def J9(n:A0)(g:Tf->Tf):List Tf->List Tf
 |[]=>[]
 |y::l=>if y.t.name=n then g y::l else y::J9 n g l
def CV(a:Tf):List Sp->Tf->Tf
 |[],x=>.mk x.t (x.ps++[a])
 |s::p,x=>.mk x.t (J9 s.name (CV a p) x.ps)
def DX:Tf->Int->Tf->Bool->PR Tf
 | .mk x [],i,t,h=>if(BF (CI x.s).1 t).2=true then .ok (CV (JW (if h=true then x.n else IJ x.n) x.c) (CI x.s).1 t) 0 else .er i 5
 | .mk x [a],i,t,h=>DX a (i+1) t (!h)
 | .mk x (a::b::_),i,t,h=>if decide (x.op=17)≠h then .er i 4 else(DX a (i+1) t h).bind λ y _=>DX b (i+1+a.size) y h
def wJ(g:Tf->PR Tf):List Tf->PR (List Tf)
 |[]=>.ok [] 0
 |x::l=>(g x).bind λ y _=>(wJ g l).bind λ r _=>.ok (y::r) 0
def j4:List A0->List Tf->List Tf
 |n::ns,x::l=>x.named n::j4 ns l
 |_,l=>l
def Az4(t:Tm)(ns:List A0)(l:List Tf):Tf:=.mk t (j4 ns l)
def ZZ(im:Tf->Int->Tf->PR Tf)(g:Tf)(i:Int)(t:Tf):PR Tf:=(wJ (λ x=>im g i x) (BD t)).bind λ l _=>.ok (Az4 { BK t.t.op with n:=t.t.n} (EY t) l) 0
def a6:Tf:=.mk (BK 0) []
def Az5(s:A0):Tf:=.mk { BK 1 with s:=s} []
def C4(g:Tf)(i:Int):Tf×Tf×Int:=if g.t.op=4 then(at' (BE g) 0,at' (BE g) 1,i+1)else(g,a6,i)
def TH(im:Tf->Int->Tf->PR Tf)(g:Tf)(i:Int)(t:Tf):PR Tf:=
 (DX (at' (BE (C4 g i).1) 0) ((C4 g i).2.2+1) t true).bind λ u _=>if LQ u=true then im (C4 g i).2.1 ((C4 g i).2.2+(C4 g i).1.size) u else .er (C4 g i).2.2 6
abbrev a8:A0:=[107,101,121]
abbrev aA:A0:=[118,97,108,117,101]
def aB(v:Tf)(s:A0):Bool:=decide ((v.named []).flat=(Az5 s).flat)
def wK(v:Tf)(i:Int):Tf×Int:=
 if aB v aA=true then(a6,i)
 else if v.t.op=4/\aB (at' v.ps 0) aA=true then(at' (BE v) 1,i+2)else(default,-1)
def j5(g:Tf):Tf×Int:=
 if g.t.op≠8\/len g.ps≠2 then(default,-1)
 else if(at' g.ps 0).t.name=a8/\(at' g.ps 1).t.name=aA then(if aB (at' g.ps 0) a8=true then wK (at' g.ps 1) (1+(at' g.ps 0).size)else(default,-1))
 else if(at' g.ps 0).t.name=aA/\(at' g.ps 1).t.name=a8 then(if aB (at' g.ps 1) a8=true then wK (at' g.ps 0) 1 else(default,-1))
 else(default,-1)
def MZ(g:Tf):Bool:=decide (g.t.op=7)||(decide (g.t.op=4)&&decide ((at' g.ps 0).t.op=7))
def R5(im:Tf->Int->Tf->PR Tf)(g:Tf)(i:Int)(t:Tf):PR Tf:=
 if t.t.op=5 then(if MZ g=true then(TH im g (i+1) (at' (BD t) 0)).bind λ y _=>.ok (.mk (BK 5) [y]) 0 else ZZ im g (i+1) t)
 else if t.t.op=4 then ZZ im g (i+1) t
 else if t.t.op=6 then(if 0<=(j5 g).2 then ZZ im (j5 g).1 (i+1+(j5 g).2) t else .er i 1)
 else .er i 1
def Az6(p q:List Sp):Bool:=decide (p.take q.length≠q.take p.length)
def wL(im:Tf->Int->Tf->PR Tf)(t:Tf):List Tf->Int->List (List Sp)->PR (List Tf)
 |[],_,_=>.ok [] 0
 |x::r,i,seen=>(im (x.named []) i t).bind λ y _=>if seen.any (λ q=> !Az6 (GD x.flat) q)then .er i 3 else(wL im t r (i+x.size) (seen++[GD x.flat])).bind λ ys _=>.ok (y::ys) 0
def Az7(im:Tf->Int->Tf->PR Tf)(f:Tf)(i:Int)(t:Tf):PR Tf:=
 (wL im t f.ps (i+1) []).bind λ l _=>.ok (if f.t.op=9 then .mk (BK 4) l else .mk (BK 2) (rQ (j4 (f.ps.map λ x=>x.t.name) l))) 0
def TI(ns:List A0)(n:A0):Int:=if n∈ns then JP ns n else-1
def wM(i:Int):List Sp->Tf->PR Tf
 |[],t=>.er i 1
 |s::p,t=>if t.t.op≠2 then .er i 1 else if s.name ∉ EY t then .er i 2
  else if p=[]then(if t.t.n≠0 then .er i 1 else .ok (.mk t.t (t.ps.eraseIdx (JP (EY t) s.name).toNat)) 0)
  else(wM i p (at' (BD t) (JP (EY t) s.name))).bind λ y _=>.ok (.mk t.t (t.ps.set (JP (EY t) s.name).toNat (y.named s.name))) 0
def Az8(x:Tm)(i:Int)(t:Tf):PR Tf:=
 if t.t.op≠5 then .er i 1 else if(BF (CI x.s).1 (at' (BD t) 0)).2=true then .ok (.mk { BK (if x.op=12 then 8 else 7)with s:=x.s} (BD t)) 0 else .er i 5
def Az9(x:Tm)(i:Int)(l:List Tf):PR Tf:=
 if(x.op=2/\len l<=x.n)\/(x.op=3/\len l<x.n)then .er i 2
 else if x.op=2 then .ok (at' l x.n) 0
 else .ok (.mk (BK 4) (if x.op=3 then l.drop x.n.toNat else l.reverse)) 0
def PG(x:Tm)(i:Int)(t:Tf):PR Tf:=
 if x.op=1 then(if t.t.op=2 then(if x.s∈EY t then .ok (at' (BD t) (JP (EY t) x.s)) 0 else .er i 2)else .er i 1)
 else if x.op=2\/x.op=3\/x.op=14 then(if t.t.op=4 then Az9 x i (BD t)else if t.t.op=5/\x.op≠2 then .ok t 0 else .er i 1)
 else if x.op=10 then(if t.t.op=3 then .ok (.mk (BK 6) (BD t)) 0 else .er i 1)
 else if x.op=11 then(if t.t.op=6 then .ok (.mk (BK 3) (BD t)) 0 else .er i 1)
 else .er i 1
def R6(im:Tf->Int->Tf->PR Tf)(f:Tf)(i:Int)(t:Tf):PR Tf:=
 if f.t.op=0 then .ok t 0
 else if f.t.op=4 then(im (at' (BE f) 0) (i+1) t).bind λ y _=>im (at' (BE f) 1) (i+1+(at' (BE f) 0).size) y
 else if f.t.op=5 then R5 im (at' (BE f) 0) i t
 else if f.t.op=6 then(if t.t.n=0/\(t.t.op=5\/t.t.op=3\/t.t.op=4\/t.t.op=2)then ZZ im (at' (BE f) 0) (i+1) t else .er i 1)
 else if f.t.op=7 then .er i 4
 else if f.t.op=8\/f.t.op=9 then Az7 im f i t
 else if f.t.op=12\/f.t.op=13 then Az8 f.t i t
 else if f.t.op=15 then(if(CI f.t.s).1=[]\/(CI f.t.s).1.any Sp.part=true then .er i 5 else wM i (CI f.t.s).1 t)
 else PG f.t i t
def FX:Nat->Tf->Int->Tf->PR Tf
 |0,_,i,_=>.er i 0
 |n+1,f,i,t=>R6 (FX n) f i t
mutual
def hF:Tf->Nat
 | .mk t ps=>if t.op=4 then hP ps else if t.op=7 then 1+AK ps else 1+hS ps
def hP:List Tf->Nat
 |[]=>1
 |x::l=>hF x*hP l
def hS:List Tf->Nat
 |[]=>0
 |x::l=>hF x+hS l
end
theorem BA0{t:Tm}(h:DN t=true)(ho:t.op=4\/t.op=17\/t.op=18):t.many=2:=by
 unfold DN at h
 rw[if_neg Aa,if_neg Aa,if_neg Aa,if_pos ho]at h
 simpa using(Bool.and_eq_true_iff.1 h).2
theorem BA1{t:Tm}(h:DN t=true)(ho:t.op=5\/t.op=6\/t.op=7\/t.op=19):t.many=1:=by
 unfold DN at h
 rw[if_neg Aa,if_neg Aa,if_neg Aa,if_neg Aa,if_pos ho]at h
 simpa using(Bool.and_eq_true_iff.1 h).2
theorem aC{t:Tm}(h:DN t=true)(ho:t.op=16):t.many=0/\KT t.s=true/\(0<=t.n/\t.n<=5)/\MR t.c=true:=by
 unfold DN at h
 rw[if_neg Aa,if_neg Aa,if_neg Aa,if_neg Aa,if_neg Aa,if_neg Aa,if_neg Aa,if_pos ho]at h
 simp only[Bool.and_eq_true,decide_eq_true_eq]at h
 exact⟨h.1.1.1.1.2,h.1.1.1.2,⟨h.1.1.2,h.1.2⟩,h.2⟩
theorem BA2{l:List Tf}(h:len l=2): ∃a b,l=[a,b]:=by
 match l,h with
 |[a,b],_=>exact⟨a,b,rfl⟩
 |[],h=>simp[len]at h
 |[a],h=>simp[len]at h
 |_::_::_::_,h=>simp[len]at h;omega
theorem j6{l:List Tf}(h:len l=1): ∃a,l=[a]:=by
 match l,h with
 |[a],_=>exact⟨a,rfl⟩
 |[],h=>simp[len]at h
 |_::_::_,h=>simp[len]at h;omega
theorem Tf.B2.two {f:Tf}(h:f.B2)(ho:f.t.op=4\/f.t.op=17\/f.t.op=18): ∃a b,f.ps=[a,b]:=BA2 (BA0 h.plain ho)
theorem Tf.B2.one {f:Tf}(h:f.B2)(ho:f.t.op=5\/f.t.op=6\/f.t.op=7\/f.t.op=19): ∃a,f.ps=[a]:=j6 (BA1 h.plain ho)
theorem TJ(f:Tf):hF f=if f.t.op=4 then hP f.ps else if f.t.op=7 then 1+AK f.ps else 1+hS f.ps:=by cases f;rw[hF];rfl
theorem W0(f:Tf)(h:f.B2):1<=hF f:=by
 have: ∀(n:Nat) (f:Tf),f.size<=n->f.B2->1<=hF f:=by
  intro n
  induction n with
  |zero=>intro f h;have:=f.size_pos;omega
  |succ n i=>
   intro f l hg
   have j:=f.size_eq
   rw[TJ]
   split
   ·rename_i ho
    obtain⟨a,b,e⟩:=hg.two (.inl ho)
    rw[e]at j ⊢
    rw[AK,AK,AK]at j
    have h1:=i a Aa (hg.kids a (by rw[e];simp))
    have k:=i b Aa (hg.kids b (by rw[e];simp))
    rw[hP,hP,hP,Nat.mul_one]
    exact Nat.mul_le_mul h1 k
   ·split<;>omega
 exact this f.size f (Nat.le_refl _) h
def R7(t:Tm)(ps:List Tf):Bool:=(!decide (t.op=1)||ps.all (λ x=>x.ps.isEmpty))&&(!(decide (t.op=3)||decide (5<=t.op/\t.op<=8))||decide (len ps=1))
mutual
def BS:Tf->Bool
 | .mk t ps=>R7 t ps&&TL ps
def TL:List Tf->Bool
 |[]=>true
 |x::l=>BS x&&TL l
end
theorem W3: ∀ {l:List Tf},TL l=true↔ ∀x∈l,BS x=true
 |[]=>by simp[TL]
 |x::l=>by rw[TL,Bool.and_eq_true,W3];simp
theorem aD(t:Tf):BS t=(R7 t.t t.ps&&TL t.ps):=by cases t;rw[BS];rfl
theorem BS.kids {t:Tf}(h:BS t=true): ∀x∈t.ps,BS x=true:=by
 rw[aD,Bool.and_eq_true]at h;exact W3.1 h.2
theorem BS.one {t:Tf}(h:BS t=true)(ho:t.t.op=3\/(5<=t.t.op/\t.t.op<=8)): ∃a,t.ps=[a]:=by
 rw[aD,Bool.and_eq_true]at h
 have h1:=h.1
 unfold R7 at h1
 simp only[Bool.and_eq_true,Bool.or_eq_true,Bool.not_eq_true',decide_eq_true_eq,decide_eq_false_iff_not,Bool.or_eq_false_iff]at h1
 rcases h1.2 with b|b
 ·omega
 ·exact j6 b
theorem BS.leaf {t:Tf}(h:BS t=true)(ho:t.t.op=1): ∀x∈t.ps,x.ps=[]:=by
 rw[aD,Bool.and_eq_true]at h
 have h1:=h.1
 unfold R7 at h1
 simp only[Bool.and_eq_true,Bool.or_eq_true,Bool.not_eq_true',decide_eq_false_iff_not,List.all_eq_true,List.isEmpty_iff]at h1
 exact h1.1.resolve_left (λ h=>h ho)
theorem BA3(n:A0)(x:Tf):BS (x.named n)=BS x:=by cases x;unfold Tf.named;rw[BS,BS];rfl
theorem wN{t:Tm}{ps:List Tf}(h1:t.op≠1)(b:(t.op=3\/(5<=t.op/\t.op<=8))->len ps=1)(h: ∀x∈ps,BS x=true):BS (.mk t ps)=true:=by
 rw[BS,Bool.and_eq_true,W3]
 refine⟨?_,h⟩
 unfold R7
 simp only[Bool.and_eq_true,Bool.or_eq_true,Bool.not_eq_true',decide_eq_true_eq,decide_eq_false_iff_not,Bool.or_eq_false_iff]
 refine⟨.inl h1,?_⟩
 by_cases h3:t.op=3\/(5<=t.op/\t.op<=8)
 ·exact .inr (b h3)
 ·exact .inl ⟨Aa,Aa⟩
def JA(x:Fl):Prop:= ∀t∈x,len t.name<=100/\len t.s<=100/\len t.c.s<=100
def B4(x:Tf):Prop:=JA x.flat
theorem JA.app {a b:Fl}(e:JA a)(h:JA b):JA (a++b):=λ t i=>(List.mem_append.1 i).elim (e t) (h t)
theorem R8(x:Tf):B4 x↔(len x.t.name<=100/\len x.t.s<=100/\len x.t.c.s<=100)/\ ∀y∈x.ps,B4 y:=by
 have j: ∀l:List Tf,JA (AM l)↔ ∀y∈l,B4 y:=by
  intro l
  induction l with
  |nil=>exact⟨λ _ y e=>absurd e (by simp),λ _ t b=>absurd b (by simp[AM])⟩
  |cons x l k=>
   constructor
   ·intro h y e
    have h1:JA x.flat:=λ t b=>h t (List.mem_append_left _ b)
    have i:JA (AM l):=λ t b=>h t (List.mem_append_right _ b)
    rcases List.mem_cons.1 e with rfl|e
    ·exact h1
    ·exact k.1 i y e
   ·intro h
    exact JA.app (h x (.head _)) (k.2 λ y e=>h y (.tail _ e))
 constructor
 ·intro h
  unfold B4 at h
  rw[Tf.FM]at h
  have h0:=h _ (.head _)
  exact⟨h0,(j _).1 λ t b=>h t (.tail _ b)⟩
 ·rintro⟨h1,i⟩
  unfold B4
  rw[Tf.FM]
  intro t b
  rcases List.mem_cons.1 b with rfl|b
  ·exact h1
  ·exact(j _).2 i t b
theorem Tf.j7 (n:A0)(x:Tf):(x.named n).t= { x.t with name:=n}:=by cases x;rfl
theorem B4.root {x:Tf}(h:B4 x):len x.t.name<=100/\len x.t.s<=100/\len x.t.c.s<=100:=((R8 x).1 h).1
theorem B4.kids {x:Tf}(h:B4 x): ∀y∈x.ps,B4 y:=((R8 x).1 h).2
theorem B4.named {x:Tf}(h:B4 x){n:A0}(b:len n<=100):B4 (x.named n):=by
 refine(R8 _).2 ⟨⟨by rw[Tf.j7];exact b,by rw[Tf.j7];exact h.root.2⟩,by rw[Tf.oA];exact h.kids⟩
theorem PR.gF {α β:Type}{r:PR α}{k:α->Int->PR β}{y:β}{j:Int}(h:r.bind k= .ok y j): ∃x i,r= .ok x i/\k x i= .ok y j:=by
 cases r with
 |er e p=>cases h
 |ok x i=>exact⟨x,i,rfl,h⟩
theorem PR.wO {α:Type}{x y:α}{i j:Int}(h:(PR.ok x i:PR α)= .ok y j):x=y:=by cases h;rfl
theorem BA4(n:A0)(l:List Tf):AK (l.map (Tf.named n))=AK l:=by
 induction l with
 |nil=>rfl
 |cons x l b=>rw[List.map_cons,AK,AK,b,Tf.LD]
structure Im (y:Tf) (n:Nat):Prop where
 size:y.size<=n
 ar:BS y=true
 sh:B4 y
theorem j8{t:Tf}(e:BS t=true)(h:B4 t):AK (BD t)<=AK t.ps/\ ∀x∈BD t,BS x=true/\B4 x:=by
 unfold BD
 split
 ·exact⟨Nat.zero_le _,λ x hx=>by cases hx⟩
 ·refine⟨by rw[BA4];exact Nat.le_refl _,λ x hx=>?_⟩
  obtain⟨z,b,rfl⟩:=List.mem_map.1 hx
  exact⟨by rw[BA3];exact(BS.kids e) z b,(h.kids z b).named (by show len ([]:A0)<=_;decide)⟩
theorem wP(n:A0)(g:Tf->Tf): ∀l:List Tf,(J9 n g l).length=l.length
 |[]=>rfl
 |y::l=>by unfold J9;split<;>simp[wP n g l]
theorem wQ{n:A0}{g:Tf->Tf}{k:Nat}(hg: ∀x,(g x).size<=x.size+k): ∀l:List Tf,AK (J9 n g l)<=AK l+k
 |[]=>Nat.zero_le _
 |y::l=>by
  unfold J9
  have h1:=hg y
  have b:=wQ (n:=n) hg l
  split<;>rw[AK,AK]<;>omega
theorem wR(a:Tf): ∀(p:List Sp) (t:Tf),(CV a p t).size<=t.size+a.size
 |[],t=>by unfold CV;rw[Tf.size_eq,t.size_eq];show 1+AK (t.ps++[a])<=_;rw[HR,AK,AK];omega
 |s::p,t=>by
  unfold CV
  rw[Tf.size_eq,t.size_eq]
  show 1+AK (J9 s.name (CV a p) t.ps)<=_
  have:=wQ (n:=s.name) (wR a p) t.ps
  omega
theorem j9{s:Sp}{p:List Sp}{t:Tf}(h:(BF (s::p) t).2=true):t.t.op=2/\s.part=false/\BF (s::p) t=FP t.ps 1 s.name (BF p):=by
 unfold BF at h
 split at h
 ·cases h
 ·rename_i h1
  have b:s.part=false:=by cases hs:s.part with|false=>rfl|true=>exact absurd (.inr hs) h1
  have e:t.t.op=2:=Decidable.byContradiction λ i=>h1 (.inl i)
  exact⟨e,b,by rw[BF,if_neg h1]⟩
theorem jA{n:A0}{g:Tf->Tf}{F:Tf->Int×Bool}{P:Tf->Prop}(hg: ∀x,(F x).2=true->P x->P (g x)): ∀ {l:List Tf} {o:Int},(FP l o n F).2=true->(∀x∈l,P x)-> ∀y∈J9 n g l,P y
 |[],_,h,_,y,b=>by cases b
 |x::l,o,h,hP,y,b=>by
  unfold FP at h
  unfold J9 at b
  split at h<;>rename_i e
  ·rw[if_pos e]at b
   split at h<;>rename_i i
   ·rcases List.mem_cons.1 b with rfl|b
    ·exact hg x i (hP x (.head _))
    ·exact hP y (.tail _ b)
   ·cases h
  ·rw[if_neg e]at b
   rcases List.mem_cons.1 b with rfl|b
   ·exact hP _ (.head _)
   ·exact jA hg h (λ z j=>hP z (.tail _ j)) y b
theorem wS{a:Tf}(h0:a.ps=[])(e:BS a=true): ∀(p:List Sp) (t:Tf),(BF p t).2=true->BS t=true->BS (CV a p t)=true
 |[],t,h,b=>by
  have ho:t.t.op=1:=of_decide_eq_true h
  unfold CV
  rw[BS,Bool.and_eq_true,W3]
  refine⟨?_,λ x hx=>?_⟩
  ·unfold R7
   simp only[Bool.and_eq_true,Bool.or_eq_true,Bool.not_eq_true',decide_eq_false_iff_not,List.all_eq_true,List.isEmpty_iff,Bool.or_eq_false_iff]
   refine⟨.inr λ x hx=>?_,.inl ⟨Aa,Aa⟩⟩
   rcases List.mem_append.1 hx with hx|hx
   ·exact(BS.leaf b) ho x hx
   ·rw[List.mem_singleton.1 hx];exact h0
  ·rcases List.mem_append.1 hx with hx|hx
   ·exact(BS.kids b) x hx
   ·rw[List.mem_singleton.1 hx];exact e
 |s::p,t,h,b=>by
  obtain⟨h1,j,i⟩:=j9 h
  rw[i]at h
  unfold CV
  exact wN Aa Aa (jA (P:=λ x=>BS x=true) (λ x hx hP=>wS h0 e p x hx hP) h (BS.kids b))
theorem wT{a:Tf}(e:B4 a): ∀(p:List Sp) (t:Tf),(BF p t).2=true->B4 t->B4 (CV a p t)
 |[],t,h,b=>by
  unfold CV
  refine(R8 _).2 ⟨b.root,λ x hx=>?_⟩
  rcases List.mem_append.1 hx with hx|hx
  ·exact b.kids x hx
  ·rw[List.mem_singleton.1 hx];exact e
 |s::p,t,h,b=>by
  obtain⟨h1,j,i⟩:=j9 h
  rw[i]at h
  unfold CV
  exact(R8 _).2 ⟨b.root,jA (P:=B4) (λ x hx hP=>wT e p x hx hP) h b.kids⟩
theorem BA5(a:Tf)(p:List Sp)(t:Tf):(CV a p t).t=t.t:=by cases p<;>rfl
theorem BA6{n:Int}{c:Nd}(h:len c.s<=100):(JW n c).size=1/\BS (JW n c)=true/\B4 (JW n c):=by
 refine⟨rfl,wN (by show ¬(9:Int)=1;decide) (λ h=>absurd h (by show ¬((9:Int)=3\/(5<=(9:Int)/\(9:Int)<=8));omega)) (λ x hx=>by cases hx),(R8 _).2 ⟨⟨?_,?_,h⟩,λ x hx=>by cases hx⟩⟩<;>(show len ([]:A0)<=_;decide)
theorem PH: ∀(p:Tf) {i:Int} {t:Tf} {h:Bool} {y:Tf} {j:Int},DX p i t h= .ok y j->B4 p->BS t=true->B4 t->Im y (t.size+p.size)/\y.t=t.t
 | .mk x [],i,t,h,y,j,he,hp,e,q=>by
  unfold DX at he
  split at he
  ·rename_i hl
   have:=PR.wO he
   subst this
   obtain⟨h1,w,z⟩:=BA6 (n:=if h=true then x.n else IJ x.n) hp.root.2.2
   refine⟨⟨?_,wS U w _ t hl e,wT z _ t hl q⟩,BA5 _ _ _⟩
   have:=wR (JW (if h=true then x.n else IJ x.n) x.c) (CI x.s).1 t
   exact Nat.le_trans this (Nat.le_of_eq (congrArg (t.size+ ·) h1))
  ·cases he
 | .mk x [a],i,t,h,y,j,he,hp,e,q=>by
  unfold DX at he
  obtain⟨h1,w⟩:=PH a he (hp.kids a (.head _)) e q
  exact⟨⟨by have:=h1.size;rw[Tf.size,AK,AK];omega,h1.ar,h1.sh⟩,w⟩
 | .mk x (a::b::l),i,t,h,y,j,he,hp,e,q=>by
  unfold DX at he
  split at he
  ·cases he
  ·obtain⟨u,k,h1,w⟩:=PR.gF he
   obtain⟨z,B⟩:=PH a h1 (hp.kids a (.head _)) e q
   obtain⟨A,C⟩:=PH b w (hp.kids b (.tail _ (.head _))) z.ar z.sh
   refine⟨⟨?_,A.ar,A.sh⟩,C.trans B⟩
   have:=z.size
   have:=A.size
   rw[Tf.size,AK,AK];omega
abbrev aE(im:Tf->Int->Tf->PR Tf)(g:Tf):Prop:= ∀i t y j,im g i t= .ok y j->BS t=true->B4 t->Im y (t.size*hF g)
theorem Im.mono {y:Tf}{n m:Nat}(h:Im y n)(hm:n<=m):Im y m:=⟨Nat.le_trans h.size hm,h.ar,h.sh⟩
theorem BA7(o:Int):len (BK o).name<=100/\len (BK o).s<=100/\len (BK o).c.s<=100:=by refine⟨?_,?_,?_⟩<;>(show len ([]:A0)<=_;decide)
theorem aF{l:List Tf}{k:Nat}(h:k<l.length):at' l (k:Int)∈l:=by
 obtain⟨_,b⟩:=DB l (i:=(k:Int)) Aa (by unfold len;omega)
 rw[b];exact List.getElem_mem _
theorem aG(f:Tf):(BE f).length=f.ps.length:=List.length_map _
theorem wU{f x:Tf}(h:x∈BE f): ∃z∈f.ps,x=z.named []:=by
 obtain⟨z,b,rfl⟩:=List.mem_map.1 h
 exact⟨z,b,rfl⟩
theorem wV(n:A0)(f:Tf):hF (f.named n)=hF f:=by cases f;rfl
theorem Tf.B2.JX {f x:Tf}(h:f.B2)(hx:x∈BE f):x.B2/\x.size<f.size:=by
 obtain⟨z,b,rfl⟩:=wU hx
 refine⟨(h.kids z b).named [],?_⟩
 rw[Tf.LD,f.size_eq]
 have:=MN b
 omega
theorem B4.JX {f x:Tf}(h:B4 f)(hx:x∈BE f):B4 x:=by
 obtain⟨z,b,rfl⟩:=wU hx
 exact(h.kids z b).named (by show len ([]:A0)<=_;decide)
theorem BA8:a6.B2:=⟨⟨rfl,trivial⟩,Ac⟩
theorem jB{g:Tf}{i:Int}(hg:g.B2)(l:B4 g)(h:MZ g=true):
  (C4 g i).1.B2/\(C4 g i).1.t.op=7/\(C4 g i).2.1.B2/\B4 (C4 g i).1/\B4 (C4 g i).2.1/\(C4 g i).1.size<g.size+1/\(C4 g i).2.1.size<=g.size/\(1+(C4 g i).1.size-1)*hF (C4 g i).2.1<=hF g/\(g.t.op=4->(C4 g i).2.1.size<g.size):=by
 unfold C4
 by_cases h4:g.t.op=4
 ·rw[if_pos h4]
  obtain⟨a,b,e⟩:=hg.two (.inl h4)
  have n:a.named []∈BE g:=by unfold BE;rw[e];simp
  have k:b.named []∈BE g:=by unfold BE;rw[e];simp
  have e0:at' (BE g) 0=a.named []:=by unfold BE;rw[e];rfl
  have q:at' (BE g) 1=b.named []:=by unfold BE;rw[e];rfl
  unfold MZ at h
  have j:a.t.op=7:=by
   rw[e]at h
   simp only[h4,Bool.or_eq_true,decide_eq_true_eq,Bool.and_eq_true]at h
   rcases h with h|h
   ·omega
   ·exact h.2
  show(at' (BE g) 0).B2/\_
  simp only[e0,q]
  refine⟨(hg.JX n).1,by rw[Tf.j7];exact j,(hg.JX k).1,l.JX n,l.JX k,by have:=(hg.JX n).2;omega,by have:=(hg.JX k).2;omega,?_,λ _=>(hg.JX k).2⟩
  rw[wV,Tf.LD,TJ g,if_pos h4,e,hP,hP,hP,Nat.mul_one,TJ a,if_neg Aa,if_pos j,a.size_eq,Nat.add_sub_cancel_left]
  exact Nat.le_refl _
 ·rw[if_neg h4]
  have j:g.t.op=7:=by
   unfold MZ at h
   simp only[h4,decide_false,Bool.false_and,Bool.or_false,decide_eq_true_eq]at h
   exact h
  refine⟨hg,j,BA8,l,(R8 _).2 ⟨BA7 0,λ x hx=>by cases hx⟩,by show g.size<_;omega,by show 1<=g.size;exact g.size_pos,?_,λ h=>absurd h h4⟩
  show(1+g.size-1)*1<=_
  rw[TJ g,if_neg h4,if_pos j,g.size_eq];omega
theorem wW{g:Tf}{i:Int}{t:Tf}(hg:g.B2)(h:B4 g)(l:MZ g=true):
  ∃a,(C4 g i).1.ps=[a]/\at' (BE (C4 g i).1) 0=a.named []/\t.size+a.size<=t.size*hF g/\ ∀m,m<=t.size+a.size->m*hF (C4 g i).2.1<=t.size*hF g:=by
 obtain⟨p1,p2,p3,p4,p5,p6,p7,j,_⟩:=jB (i:=i) hg h l
 obtain⟨a,e⟩:=p1.one (.inr (.inr (.inl p2)))
 have n:=t.size_pos
 have q:=(C4 g i).1.size_eq
 rw[e,AK,AK]at q
 have hp:=W0 _ p3
 have k:t.size+a.size<=t.size*(C4 g i).1.size:=by
  rw[show(C4 g i).1.size=a.size+1 by omega,Nat.mul_add,Nat.mul_one]
  have:=Nat.mul_le_mul_right a.size n
  omega
 rw[show 1+(C4 g i).1.size-1=(C4 g i).1.size by omega]at j
 have b:t.size*(C4 g i).1.size*hF (C4 g i).2.1<=t.size*hF g:=by rw[Nat.mul_assoc];exact Nat.mul_le_mul_left _ j
 refine⟨a,e,by unfold BE;rw[e];rfl,?_,λ m hm=>Nat.le_trans (Nat.mul_le_mul_right _ (Nat.le_trans hm k)) b⟩
 exact Nat.le_trans (Nat.le_trans k (Nat.le_mul_of_pos_right _ hp)) b
theorem BA9{n:Tf->Int->Tf->PR Tf}{g:Tf}{i:Int}{t y:Tf}{j:Int}(hg:g.B2)(b:B4 g)(q:MZ g=true)(hi:aE n (C4 g i).2.1)(he:TH n g i t= .ok y j)(w:BS t=true)(z:B4 t):Im y (t.size*hF g):=by
 obtain⟨p1,p2,p3,p4,p5,p6,p7,B,_⟩:=jB (i:=i) hg b q
 unfold TH at he
 obtain⟨u,k,h1,h⟩:=PR.gF he
 obtain⟨a,e,e2,C,A⟩:=wW (i:=i) (t:=t) hg b q
 rw[e2]at h1
 obtain⟨l,_⟩:=PH _ h1 ((p4.kids a (by rw[e];simp)).named (by show len ([]:A0)<=_;decide)) w z
 have s:=l.size
 rw[Tf.LD]at s
 split at h
 ·exact(hi _ _ _ _ h l.ar l.sh).mono (A _ s)
 ·cases h
theorem wX{b:List A0}{n:A0}(h:n∈b):(JP b n).toNat<b.length/\JP b n=((JP b n).toNat:Int):=by
 have:=Ac6 h
 unfold len at this
 exact⟨Aa,Aa⟩
theorem wY{α:Type}[Inhabited α](pre x post:List α){j:Int}(h0:0<=j)(h1:j<len x):at' (pre++(x++post)) (len pre+j)=at' x j:=by
 have hp:=A6 post
 have l:=A6 pre
 obtain⟨n,b⟩:=DB (pre++(x++post)) (i:=len pre+j) Aa (by rw[AN,AN];omega)
 obtain⟨h,k⟩:=DB x (i:=j) h0 h1
 rw[b,k]
 have e:(len pre+j).toNat=pre.length+j.toNat:=by unfold len at*;omega
 simp only[e]
 rw[List.getElem_append_right Aa]
 simp only[Nat.add_sub_cancel_left]
 rw[List.getElem_append_left h]
theorem BB0(pre x post:Fl){j:Int}{a:Tm}(h0:0<=j)(h1:j<len x)(hm:0<=(at' x j).many)(b:j+(at' x j).many+1<=len x):GC (pre++(x++post)) (len pre+j) a=pre++(GC x j a++post):=by
 have h:=wY pre x post h0 h1
 obtain⟨m,e⟩: ∃m:Nat,(at' x j).many=m:=⟨(at' x j).many.toNat,Aa⟩
 obtain⟨k,rfl⟩: ∃k:Nat,j=k:=⟨j.toNat,Aa⟩
 have i:k+m+1<=x.length:=by unfold len at b;omega
 have l:JV (pre++(x++post)) (len pre+k)=pre++(JV x k++post):=by
  unfold JV
  rw[h,show(len pre+(k:Int)).toNat=pre.length+k by unfold len;omega,List.set_append_right _ _ Aa,Nat.add_sub_cancel_left,List.set_append_left _ _ Aa]
  rfl
 have n:(JV x (k:Int)).length=x.length:=by unfold JV;rw[List.length_set]
 unfold GC
 rw[l,h,e]
 have e2:(len pre+(k:Int)+m+1).toNat=pre.length+(k+m+1):=by unfold len;omega
 have e3:((k:Int)+m+1).toNat=k+m+1:=by omega
 rw[e2,e3,List.take_length_add_append,List.drop_length_add_append,List.take_append_of_le_length Aa,List.drop_append_of_le_length Aa]
 simp only[List.append_assoc,List.cons_append]
theorem gH{l:List Tf}(h: ∀x∈l,x.ps=[]):len (AM l)=len l:=by rw[iD h];unfold len;rw[List.length_map]
theorem wZ{p:List Sp}{a:Tm}{n:A0}(q: ∀(t:Tf) (i:Int),BF p t=(i,true)->BS t=true->GC t.flat i a=(CV (JW a.n a.c) p t).flat/\0<=(at' t.flat i).many/\i+(at' t.flat i).many+1<=len t.flat):
  ∀(l:List Tf) (pre:Fl) (i:Int),FP l (len pre) n (BF p)=(i,true)->(∀x∈l,BS x=true)->GC (pre++AM l) i a=pre++AM (J9 n (CV (JW a.n a.c) p) l)/\0<=(at' (pre++AM l) i).many/\i+(at' (pre++AM l) i).many+1<=len (pre++AM l)
 |[],pre,i,h,_=>by cases h
 |x::l,pre,i,h,s=>by
  unfold FP at h
  unfold J9
  split at h<;>rename_i w
  ·rw[if_pos w]
   split at h<;>rename_i z
   ·obtain⟨j,k⟩: ∃j,j=(BF p x).1:=⟨_,rfl⟩
    rw[<-k]at h
    have hi:i=len pre+j:=by have:=congrArg Prod.fst h;exact this.symm
    obtain⟨g1,g2,g3⟩:=q x j (by rw[k,<-z]) (s x (.head _))
    have b:=Z8 p x
    rw[<-k]at b
    subst hi
    show GC (pre++(x.flat++AM l)) _ a=pre++((CV _ p x).flat++AM l)/\0<=(at' (pre++(x.flat++AM l)) _).many/\_+(at' (pre++(x.flat++AM l)) _).many+1<=len (pre++(x.flat++AM l))
    rw[BB0 pre x.flat (AM l) b.1 b.2 g2 g3,g1,wY pre x.flat (AM l) b.1 b.2,AN,AN]
    have:=A6 (AM l)
    exact⟨rfl,g2,Aa⟩
   ·cases h
  ·rw[if_neg w]
   have e:len pre+len x.flat=len (pre++x.flat):=(AN _ _).symm
   rw[e]at h
   have:=wZ q l (pre++x.flat) i h λ y A=>s y (.tail _ A)
   show GC (pre++(x.flat++AM l)) _ a=pre++(x.flat++AM (J9 n _ l))/\0<=(at' (pre++(x.flat++AM l)) _).many/\_+(at' (pre++(x.flat++AM l)) _).many+1<=len (pre++(x.flat++AM l))
   rw[<-List.append_assoc,<-List.append_assoc]
   exact this
theorem x6{a:Tm}: ∀(p:List Sp) (t:Tf) (i:Int),BF p t=(i,true)->BS t=true->GC t.flat i a=(CV (JW a.n a.c) p t).flat/\0<=(at' t.flat i).many/\i+(at' t.flat i).many+1<=len t.flat
 |[],t,i,h,b=>by
  have ho:t.t.op=1:=by
   have:=congrArg Prod.snd h
   exact of_decide_eq_true this
  have hi:i=0:=(congrArg Prod.fst h).symm
  subst hi
  have hl:=gH (BS.leaf b ho)
  have hm:(at' t.flat 0).many=len t.ps:=t.Y1
  have k:len t.flat=1+len t.ps:=by rw[Tf.FM,AH,hl];omega
  have j:=A6 t.ps
  refine⟨?_,by rw[hm];exact j,by rw[hm];omega⟩
  unfold GC
  have e:(0+(at' t.flat 0).many+1).toNat=(JV t.flat 0).length:=by
   unfold JV
   rw[List.length_set,hm];unfold len at k j ⊢;omega
  rw[e,List.take_length,List.drop_length]
  unfold JV CV
  rw[hm,t.SG]
  conv=>lhs;rw[Tf.FM]
  rw[Tf.FM]
  show({ t.t with many:=len t.ps+1}::AM t.ps)++_= { t.t with many:=len (t.ps++[JW a.n a.c])}::AM (t.ps++[JW a.n a.c])
  rw[JK,AN]
  rfl
 |s::p,t,i,h,b=>by
  obtain⟨h1,w,q⟩:=j9 (by rw[h])
  rw[q]at h
  have:=wZ (a:=a) (λ t i=>x6 p t i) t.ps [{ t.t with many:=len t.ps}] i h (BS.kids b)
  unfold CV
  have e: ∀l:List Tf,len l=len t.ps->(Tf.mk t.t l).flat=[{ t.t with many:=len t.ps}]++AM l:=λ l hl=>by rw[Tf.FM];show{ t.t with many:=len l}::AM l=_;rw[hl];rfl
  rw[e _ (by unfold len;rw[wP]),show t.flat=[{ t.t with many:=len t.ps}]++AM t.ps by rw[Tf.FM];rfl]
  exact this
end Go.Eng
