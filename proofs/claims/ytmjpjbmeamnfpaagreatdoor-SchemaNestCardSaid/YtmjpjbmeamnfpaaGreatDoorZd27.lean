/-
  Parts Iw Plc Nst Nsp Sb Sc, put together and made short by wip/py/merge.py (mini.py).
-/
import Derived.Test.YtmjpjbmeamnfpaaGreatDoorZd26
import Derived.Test.YtmjpjbmeamnfpaaGreatDoorZd21
import Derived.Test.YtmjpjbmeamnfpaaGreatDoorZd10
import Derived.Test.YtmjpjbmeamnfpaaGreatDoorZd23
import Derived.Test.YtmjpjbmeamnfpaaGreatDoorZd0
set_option linter.unusedVariables false
set_option linter.unusedSimpArgs false
set_option maxRecDepth 100000
namespace Go.Eng
def TO(t:Tm):List Tf->Bool
 |[x]=>if t.op=7\/t.op=8 then(DB (HC t.s).1 x).2 else true
 |_=>if t.op=7\/t.op=8 then false else true
def QB(o:Int)(n:A1):List Tf->Bool
 |[]=>true
 |y::_=> !(decide (o=2)&&decide (y.t.name<=n))
mutual
def DO:Tf->Bool
 | .mk t ps=>MI { t with many:=len ps}&&F0 t.op ps&&TO t ps
def F0(o:Int):List Tf->Bool
 |[]=>true
 |x::l=>(decide (x.t.op=9)==decide (o=1))&&(decide (o=2)||decide (x.t.name=[]))&&Lib.validD x.t.name&&DO x&&QB o x.t.name l&&F0 o l
end
def EO(t:Tf):Bool:=DO t&&decide (t.t.name=[])&&decide (t.t.op≠9)
theorem y5(u:Tf):DO u=(MI { u.t with many:=len u.ps}&&F0 u.t.op u.ps&&TO u.t u.ps):=by cases u;rw[DO];rfl
theorem D9.skip {f:Fl}{i:Int}{u:Tf}{us:List Tf}{R:Fl}(h:D9 f i (u::us) R):D9 f (i+len u.flat) us R:=by
 have h0:=h.1
 have hl:=AA u.flat
 refine⟨by omega,?_⟩
 rw[show(i+len u.flat).toNat=i.toNat+u.flat.length by unfold len at*;omega,<-List.drop_drop,h.2]
 show(u.flat++AF us++R).drop _=_
 rw[List.append_assoc,List.drop_left]
theorem D9.y7 {f:Fl}{i:Int}{u:Tf}{us:List Tf}{R:Fl}(h:D9 f i (u::us) R):Eng.sub f i (i+len u.flat)=u.flat:=by
 have h0:=h.1
 have hl:=AA u.flat
 unfold Eng.sub
 rw[h.2,show(i+len u.flat).toNat-i.toNat=u.flat.length by unfold len at*;omega]
 show(u.flat++AF us++R).take _=_
 rw[List.append_assoc,List.take_left]
theorem drop_cons{us:List Tf}{k:Nat}(hk:k<us.length):us.drop k=at' us (k:Int)::us.drop (k+1):=by
 obtain⟨h1,h2⟩:=FP us (i:=(k:Int)) (by omega) (by unfold len;omega)
 rw[h2,List.drop_eq_getElem_cons hk];simp
theorem y8{a b:A1}(h:Op.bytesLess a b=true\/a=b):a<=b:=by
 rcases h with h|h
 ·rw[Go.Proofs.bytesLess_eq,decide_eq_true_eq]at h;exact List.le_of_lt h
 ·rw[h];exact List.le_refl _
theorem y9{a b:A1}(h1:Op.bytesLess a b=false)(h2: ¬a=b): ¬a<=b:=λ h=>by
 rw[Go.Proofs.bytesLess_eq,decide_eq_false_iff_not]at h1
 exact h2 (List.le_antisymm h (List.not_lt.1 h1))
theorem yA{t:Tm}(h:MI t=true)(ho:t.op=7\/t.op=8):t.many=1:=by
 unfold MI I0 at h
 rw[if_neg (by omega),if_neg (by omega),if_neg (by omega),if_neg (by omega),if_neg (by omega),if_neg (by omega),if_pos ho]at h
 simp only[Bool.and_eq_true,beq_iff_eq]at h
 exact h.1.2
theorem yB{o:Int}{x:Tf}{l:List Tf}(h: ¬(x.t.op==9)=(o==1)):F0 o (x::l)=false:=by
 rw[F0]
 have e:(decide (x.t.op=9)==decide (o=1))=false:=by
  rw[beq_eq_false_iff_ne];intro q;exact h q
 rw[e];rfl
theorem yC{o:Int}{x:Tf}{l:List Tf}(h:(¬o=2/\ ¬x.t.name=[])\/Lib.validD x.t.name=false):F0 o (x::l)=false:=by
 rw[F0]
 rcases h with⟨h1,h2⟩|h
 ·have e1:decide (o=2)=false:=by simpa using h1
  have e2:decide (x.t.name=[])=false:=by simpa using h2
  rw[e1,e2];simp
 ·rw[h];simp
theorem yD{o:Int}{x:Tf}{l:List Tf}(h:DO x=false):F0 o (x::l)=false:=by rw[F0,h];simp
theorem yE{o:Int}{x y:Tf}{l:List Tf}(h:o=2)(h2:y.t.name<=x.t.name):F0 o (x::y::l)=false:=by
 rw[F0]
 have e:QB o x.t.name (y::l)=false:=by unfold QB;simp[h,h2]
 rw[e];simp
theorem yF{o:Int}{x:Tf}{l:List Tf}(h1:(x.t.op==9)=(o==1))(h2:o=2\/x.t.name=[])(h3:Lib.validD x.t.name=true)(h4:DO x=true)(h5:QB o x.t.name l=true):F0 o (x::l)=F0 o l:=by
 conv=>lhs;rw[F0]
 have e1:(decide (x.t.op=9)==decide (o=1))=true:=by rw[beq_iff_eq];exact h1
 have e2:(decide (o=2)||decide (x.t.name=[]))=true:=by simpa using h2
 rw[e1,e2,h3,h4,h5];simp
end Go.Eng
namespace Go.Proofs.YtmjpjbmeamnfpaaGreatDoor
open Go.Eng
theorem yG: ∀(n:Nat) (u:Tf),u.flat.length<=n-> ∀ {w0 wv:World} {M0 M:Mem} {Rs:List HO} (v:Value) (f:Fl) (i:Int) (us:List Tf) (R:Fl),St w0 M0 wv M Rs->Gl w0->(CJ v f).ok M->D9 f i (u::us) R->i<=len f->DX f->len f<=1099511627776->
    Calls Tryz.prog 225 [v,i64 i].toArray wv (CM w0 M0 M Rs (λ _:Unit=>.tuple #[i64 (if DO u=true then i+len u.flat else 0),.bool (DO u)]) (λ _=>True) (λ _=>[]) λ _=>[]):=by
 intro n
 induction n with
 |zero=>intro u hu;have:=u.FM;unfold len at this;omega
 |succ n ih=>
 intro u hun w0 wv M0 M Rs v f i us R hS hg hl hat hif hsm hb
 obtain⟨hi1,hq,hat1⟩:=hat.step
 have hi0:=hat.1
 have hln:len u.ps=(u.ps.length:Int):=rfl
 have hule:=hat.KZ hif
 have hfu:AF (u::us)=u.flat++AF us:=rfl
 rw[hfu,AJ]at hule
 have hR0:=AA R
 have hus0:=AA (AF us)
 have hpg:=SL u.ps
 have hul:len u.flat=1+len (AF u.ps):=by rw[Tf.HS,AL];omega
 have hqm:(at' f i).many=len u.ps:=by rw[hq]
 have hqo:(at' f i).op=u.t.op:=by rw[hq]
 have hqs:(at' f i).s=u.t.s:=by rw[hq]
 have hsq:(at' f i).small:=hsm _ (QX hi0 hi1)
 have hwt:DO u=(MI (at' f i)&&F0 u.t.op u.ps&&TO u.t u.ps):=by rw[hq,y5]
 refine AX (Hr:=Rs) AT Tryz.func225 U Tryz.ntmps225 [(0,CJ v f)] [] [.sl 0 v,I i] U hS (BW hl A7) (λ B hB=>?_) U
 refine BG U (A0 U) (by omega) Tryz.call256 U U (A0 U) (λ _ w M hX=>xZ (at' f i) w M hX.st.sat (hg.low hX.st.low) hsq) U ?_
 refine A8 U (A0 U) (by simp only[zb]<;>omega) (λ hb1=>?_) (λ hb1=>?_)<;>simp only[zb]at hb1
 ·refine AE hB U U (A0 U) (by omega) U (A0 U) λ w M' hX=>⟨(),M',?_,trivial,hX.le,hX.BX [] U,A7⟩
  have e:DO u=false:=by
   rw[hwt]
   rcases hb1 with(h|h)|h
   · omega
   · rw[h];rfl
   · omega
  rw[e];rfl
 have hpl:=hb1.1.2
 rw[hpl,Bool.true_and]at hwt
 refine CI 6 U (A0 U) (by omega) Tryz.zeroValue48 U λ b6=>?_
 refine E4 (σ:=Int×Nat) (λ(j,k)=>⟨[(0,CJ v f)],[(6,.box b6 (MJ (at' f i)) 48)],[Z 0 (.sl 0 v),Z 1 (I j),Z 6 (.bx 6 b6 0),Z 7 (I i),Z 46 (I (at' f i).many),Z 47 (I k)]⟩) (λ(j,k)=>D9 f j (u.ps.drop k++us) R/\k<=u.ps.length/\j<=len f/\F0 u.t.op u.ps=F0 u.t.op (u.ps.drop k)) (λ(j,k)=>u.ps.length-k) (i+1,0) U (A0 U) (by simp only[zb]<;>omega) U ⟨hat1,Nat.zero_le _,by omega,rfl⟩ ?_
 rintro⟨j,k⟩ ⟨hj,hk,hjl,hkk⟩
 have hj0:=hj.1
 refine A8 U (A0 U) (by simp only[zb]<;>omega) (λ hb2=>?_) (λ hb2=>?_)<;>simp only[zb]at hb2
 ·have hk2:k<u.ps.length:=by omega
  have hdc:=drop_cons hk2
  rw[hdc]at hj hkk
  obtain⟨x,hx⟩: ∃x,x=at' u.ps (k:Int):=⟨_,rfl⟩
  rw[<-hx]at hj hkk hdc
  have hj':D9 f j (x::(u.ps.drop (k+1)++us)) R:=hj
  obtain⟨hj1,hjq,_⟩:=hj'.step
  have hjn:(at' f j).name=x.t.name:=by rw[hjq]
  have hjo:(at' f j).op=x.t.op:=by rw[hjq]
  have hsx:(at' f j).small:=hsm _ (QX hj0 hj1)
  refine KL U (A0 U) (by omega) EU (by decide+kernel) ?_
  refine KM U (A0 U) (by simp only[zb]<;>omega) ?_
  refine A8 U (A0 U) (by simp only[zb]<;>omega) (λ hb3=>?_) (λ hb3=>?_)<;>simp only[zb]at hb3
  ·refine AE hB U U (A0 U) (by omega) U (A0 U) λ w M' hX=>⟨(),M',?_,trivial,hX.le,hX.st.drop _ (List.sublist_append_right [_] _),A7⟩
   have e:DO u=false:=by
    rw[hwt,hkk,yB (by rw[hjo,hqo]at hb3;exact hb3.resolve_left (by omega))];rfl
   rw[e];rfl
  have h1:=hb3.2
  rw[hjo,hqo]at h1
  refine BG U (A0 U) (by omega) Tryz.call257 U U (A0 U) (λ _ w M hX=>iC (at' f j).name w (hg.low hX.st.low) (by have:=hsx.name;omega)) U ?_
  refine A8 U (A0 U) (by omega) (λ hb4=>?_) (λ hb4=>?_)<;>simp only[zb]at hb4
  ·refine AE hB U U (A0 U) (by omega) U (A0 U) λ w M' hX=>⟨(),M',?_,trivial,hX.le,hX.st.drop _ (List.sublist_append_right [_] _),A7⟩
   have e:DO u=false:=by
    rw[hwt,hkk,yC (by rw[hjn,hqo]at hb4;exact hb4)];rfl
   rw[e];rfl
  rw[hjn,hqo]at hb4
  have hxm:x∈u.ps:=by rw[hx];exact QX (by omega) (by omega)
  have hxl:=cC hxm
  have hxp:=x.FM
  obtain⟨z,hz⟩: ∃z,z=if DO x=true then j+len x.flat else 0:=⟨_,rfl⟩
  have hz0:0<=z:=by rw[hz];split<;>omega
  refine B6 [] (λ _:Unit=>.tu [I z,.v (.bool (DO x))]) [] (λ _=>[]) (Fg:=λ _=>[]) (pu:=λ _=>True) U (A0 U) (by omega) U Tryz.call225 U U (A0 U) U (λ w M hS hF=>by rw[hz];exact ih x (by unfold len at*;omega) v f j (u.ps.drop (k+1)++us) R hS hg (hF.get (k:=0) U) hj' (by omega) hsm hb) (λ _=>rfl) (λ _=>rfl) λ _ _=>?_
  have hjs:=hj'.skip
  have hjs2:=hj'.KZ (by omega)
  have hfx:AF (x::(u.ps.drop (k+1)++us))=x.flat++AF (u.ps.drop (k+1)++us):=rfl
  rw[hfx,AJ]at hjs2
  have hfn:=AA (AF (u.ps.drop (k+1)++us))
  refine A8 U (A0 U) (by simp only[zb]<;>omega) (λ hb5=>?_) (λ hb5=>?_)<;>simp only[zb]at hb5
  ·refine AE hB U U (A0 U) (by simp only[zb]<;>omega) U (A0 U) λ w M' hX=>⟨(),M',?_,trivial,hX.le,hX.st.drop _ (List.sublist_append_right [_] _),A7⟩
   have e:DO u=false:=by
    cases hwx:DO x with
    |false=>rw[hwt,hkk,yD hwx];rfl
    |true=>
     rw[hwx,if_pos U]at hz
     rcases hb5 with h|⟨⟨h2,h3⟩,h4⟩
     · rw[hwx]at h;cases h
     · have hk3:k+1<u.ps.length:=by omega
       have hd2:=drop_cons hk3
       rw[hd2]at hjs
       have hs3:=hjs.step
       rw[<-hz]at hs3
       have hle:(at' u.ps ((k+1:Nat):Int)).t.name<=x.t.name:=by
        rcases h4 with h|h
        · omega
        · rw[hs3.2.1,hjn]at h;exact y8 h
       rw[hwt,hkk,hd2,yE (by rw[<-hqo];exact h2) hle];rfl
   rw[e];rfl
  ·have hwx:DO x=true:=hb5.1
   rw[hwx,if_pos U]at hz
   refine DJ (z,k+1) U (A0 U) (by simp only[zb]<;>omega) U ⟨by rw[hz];exact hjs,hk2,by omega,?_⟩ (by show u.ps.length-(k+1)<u.ps.length-k;omega)
   rw[hkk]
   refine yF h1 (by rcases Decidable.em (u.t.op=2)with h|h;exact .inl h;exact .inr (Decidable.byContradiction λ q=>(hb4.1.resolve_left h)|>λ r=>q r)) hb4.2 hwx ?_
   cases hd:u.ps.drop (k+1)with
   |nil=>rfl
   |cons y l=>
    have hk3:k+1<u.ps.length:=by
     rcases Nat.lt_or_ge (k+1) u.ps.length with h|h
     · exact h
     · rw[List.drop_of_length_le h]at hd;cases hd
    rw[hd]at hjs
    have hs3:=hjs.step
    rw[<-hz]at hs3
    have hy:y=at' u.ps ((k+1:Nat):Int):=by rw[drop_cons hk3]at hd;exact(List.cons.inj hd).1.symm
    unfold QB
    rcases hb5.2 with h|⟨_,h4,h5⟩
    · rcases h with h|h
      · rw[hqo]at h;simp[h]
      · omega
    · rw[hs3.2.1,hjn]at h4 h5
      have:=y9 h4 h5
      simp only[Bool.not_eq_true',Bool.and_eq_false_iff,decide_eq_false_iff_not]
      exact .inr this
 ·have hke:k=u.ps.length:=by omega
  subst hke
  rw[List.drop_length]at hj hkk
  have hj3:D9 f j us R:=hj
  have hjl2:=hj3.KZ hjl
  have hje:j=i+len u.flat:=by omega
  have hkt:F0 u.t.op u.ps=true:=by rw[hkk];rfl
  rw[hkt,Bool.true_and]at hwt
  refine A8 U (A0 U) (by simp only[zb]<;>omega) (λ hb6=>?_) (λ hb6=>?_)<;>simp only[zb]at hb6
  ·rw[hqo]at hb6
   have hm1:=yA hpl (by rw[hqo];exact hb6)
   obtain⟨x,hx⟩: ∃x,u.ps=[x]:=by
    match hps:u.ps,hqm with
    |[],h=>rw[h]at hm1;cases hm1
    |[x],_=>exact⟨x,rfl⟩
    |_::_::l,h=>rw[h]at hm1;simp only[AL]at hm1;have:=AA l;omega
   have hul2:len u.flat=1+len x.flat:=by rw[hul,hx];show 1+len (x.flat++AF [])=_;simp[AF]
   rw[hx]at hat1
   have hat2:D9 f (i+1) (x::us) R:=hat1
   have hsub:=hat2.y7
   rw[show i+1+len x.flat=j by omega]at hsub
   have hxl:=AA x.flat
   have hrl:=iE (at' f i).s
   refine B6 [] (λ u:Value=>.tu [.sl 9 u,.v (.bool (HC (at' f i).s).2)]) [9] (λ _=>[]) (Fg:=λ u=>[(1,kn u 3 (HC (at' f i).s).1 Sp.cells)]) U (A0 U) (by omega) U Tryz.call258 U U (A0 U) U (λ w M hS hF=>iF (at' f i).s hS hg (by have:=hsq.s;omega)) (λ _=>rfl) (λ _=>rfl) λ u9 _=>?_
   refine OY (gd:=none) 8 (i+1) j U (A0 U) (by omega) U (A0 U) U ⟨.i64,_,rfl,A0 U⟩ ⟨.i64,_,rfl,A0 U⟩ Tryz.underlying36 Tryz.sizeOf48 (by omega) U U λ v8=>?_
   rw[hsub]
   refine B6 [] (λ _:Unit=>.tu [I (DB (HC (at' f i).s).1 x).1,.v (.bool (DB (HC (at' f i).s).1 x).2)]) [] (λ _=>[]) (Fg:=λ _=>[]) (pu:=λ _=>True) U (A0 U) (by omega) U Tryz.call259 U U (A0 U) U (λ w M hS hF=>xX (HC (at' f i).s).1 v8 u9 x hS (hF.get (k:=8) U) (hF.get (k:=9) U) (by omega) (by show len (GW (at' f i).s).1<=_;omega)) (λ _=>rfl) (λ _=>rfl) λ _ _=>?_
   have hwl:DO u=(DB (HC (at' f i).s).1 x).2:=by
    rw[hwt,hx,hqs]
    show(if u.t.op=7\/u.t.op=8 then(DB (HC u.t.s).1 x).2 else true)=_
    rw[if_pos hb6]
   refine A8 U (A0 U) (by omega) (λ hb7=>?_) (λ hb7=>?_)<;>simp only[zb]at hb7
   ·refine AE hB U U (A0 U) (by omega) U (A0 U) λ w M' hX=>⟨(),M',?_,trivial,hX.le,hX.st.drop _ (List.sublist_append_right [_] _),A7⟩
    rw[hwl,hb7];rfl
   ·refine AE hB U U (A0 U) (by omega) U (A0 U) λ w M' hX=>⟨(),M',?_,trivial,hX.le,hX.st.drop _ (List.sublist_append_right [_] _),A7⟩
    rw[hwl,hb7,if_pos U,<-hje];rfl
  ·refine AE hB U U (A0 U) (by omega) U (A0 U) λ w M' hX=>⟨(),M',?_,trivial,hX.le,hX.st.drop _ (List.sublist_append_right [_] _),A7⟩
   have e:DO u=true:=by
    rw[hwt]
    rw[hqo]at hb6
    unfold TO
    split
    · rw[if_neg (by omega)]
    · rw[if_neg (by omega)]
   rw[e,if_pos U,<-hje];rfl
theorem yH{w:World}{M:Mem}(v:Value)(x:Tf)(hM:Sat w M)(hg:Gl w)(hl:Sl M 11 x.flat.length v (x.flat.flatMap Tm.cells))(hb:len x.flat<=1048577)(hsm:DX x.flat):
   Calls Tryz.prog 176 [v].toArray w λ e w'=>e= .returned (.bool (EO x))/\Ext w w':=by
 have hpos:=x.FM
 have hat:D9 x.flat 0 [x] []:=⟨by omega,by show x.flat=(x.flat++AF [])++[];simp[AF]⟩
 have hq:=x.SK
 refine AX (Hr:=[]) AT Tryz.func176 U Tryz.ntmps176 [(0,CJ v x.flat)] [] [.sl 0 v] U (St.start hM) (BW ⟨hl,Tm.C1,trivial⟩ A7) (λ B hB=>?_) U
 refine B6 [] (λ _:Unit=>.tu [I (if DO x=true then 0+len x.flat else 0),.v (.bool (DO x))]) [] (λ _=>[]) (Fg:=λ _=>[]) (pu:=λ _=>True) U (A0 U) (by omega) U Tryz.call225 U U (A0 U) U (λ w M hS hF=>yG _ x (Nat.le_refl _) v x.flat 0 [] [] hS hg (hF.get (k:=0) U) hat (by omega) hsm (by omega)) (λ _=>rfl) (λ _=>rfl) λ _ _=>?_
 refine AE hB U U (A0 U) (by simp only[zb]<;>omega) U (A0 U) λ w M hX=>⟨?_,hX.st.low⟩
 suffices e:EO x=(DO x&&(if DO x=true then 0+len x.flat else 0)==len x.flat&&(at' x.flat 0).name==[]&&(at' x.flat 0).op != 9) by rw[e];rfl
 unfold EO
 rw[hq]
 cases h:DO x with
 |false=>rfl
 |true=>
  rw[if_pos U,Int.zero_add]
  simp only[Bool.true_and,beq_self_eq_true]
  congr 1
  ·rw[Bool.eq_iff_iff,beq_iff_eq];simp
  ·rw[Bool.eq_iff_iff,bne_iff_ne];simp
theorem QC:K3 EO:=λ v x hM hg hl hb hsm=>yH v x hM hg hl hb hsm
end Go.Proofs.YtmjpjbmeamnfpaaGreatDoor
namespace Go.Eng
open Go.RowKit
def At(s:A1)(i:Int)(u:A1):Prop:=0<=i/\i<=len s/\A3 s i=u
theorem At.add {s:A1}{i:Int}{u r:A1}(h:At s i (u++r)):At s (i+len u) r:=by
 obtain⟨h0,h1,h2⟩:=h
 have hl:=DK s i h0 h1
 rw[h2,AJ]at hl
 have h3:=AA u;have h4:=AA r
 refine⟨by omega,by omega,?_⟩
 rw[<-S7 s i (len u) h0 h3,h2]
 unfold A3 len;simp
theorem At.one {s:A1}{i:Int}{c:UInt8}{r:A1}(h:At s i (c::r)):At s (i+1) r:=At.add (u:=[c]) h
theorem At.lt {s:A1}{i:Int}{c:UInt8}{r:A1}(h:At s i (c::r)):i<len s:=by
 have hl:=DK s i h.1 h.2.1
 rw[h.2.2,AL]at hl
 have:=AA r;omega
theorem At.byte {s:A1}{i:Int}{c:UInt8}{r:A1}(h:At s i (c::r)):A2 s i=(c.toNat:Int):=by
 obtain⟨b,h1,h2⟩:=VJ s i h.1 h.lt
 rw[h.2.2]at h1
 rw[h2,(List.cons.inj h1).1]
def JH(r:A1):Prop:= ∀c r',r=c::r'->GL c=false
theorem At.blank {s:A1}{i:Int}{b r:A1}(h:At s i (b++r))(hb: ∀c∈b,GL c=true)(hr:JH r):DF s i=i+len b:=by
 unfold DF
 rw[h.2.2]
 have:(b++r).takeWhile GL=b:=by
  induction b with
  |nil=>
   cases r with
   |nil=>rfl
   |cons c r=>rw[List.nil_append,List.takeWhile_cons,hr c r U];rfl
  |cons a b ih=>
   rw[List.cons_append,List.takeWhile_cons,hb a List.mem_cons_self]
   show a::_=_
   have key: ∀(b r:A1),(∀c∈b,GL c=true)->JH r->(b++r).takeWhile GL=b:=by
    intro b
    induction b with
    |nil=>intro r _ hr;cases r with|nil=>rfl|cons c r=>rw[List.nil_append,List.takeWhile_cons,hr c r rfl];rfl
    |cons a b ih2=>intro r hb2 hr;rw[List.cons_append,List.takeWhile_cons,hb2 a List.mem_cons_self,if_pos rfl,ih2 r (λ c hc=>hb2 c (List.mem_cons_of_mem _ hc)) hr]
   rw[key b r (λ c hc=>hb c (List.mem_cons_of_mem _ hc)) hr]
 rw[this]
theorem At.Y9 {s:A1}{i:Int}{r:A1}(h:At s i r)(hr:JH r):DF s i=i:=by
 have:=At.blank (b:=[]) h (λ c hc=>by cases hc) hr
 rw[len_nil]at this;omega
end Go.Eng
namespace Go.Eng
open Go.RowKit
def BY(m:A1)(i:Int):Tk:=⟨1,m,B2,i⟩
def EP(m:A1)(i:Int):Tk:=⟨2,m,B2,i⟩
def O7(r:A1):Prop:= ∀c r',r=c::r'->GL c=false/\BN (c.toNat:Int) false=false/\c≠34
theorem O7.stop {r:A1}(h:O7 r):JH r:=λ c r' e=>(h c r' e).1
theorem yI{c:UInt8}(hc:c∈([40,41,91,93,123,125,58,44,124]:A1))(u:A1):A6 (c::u)=(⟨1,[c],B2,0⟩,1,0):=by
 have key: ∀c∈([40,41,91,93,123,125,58,44,124]:A1),(c.toNat:Int)≠46/\C3 (c::u)=[c]:=by
  intro c hc
  simp only[List.mem_cons,List.not_mem_nil,or_false]at hc
  rcases hc with rfl|rfl|rfl|rfl|rfl|rfl|rfl|rfl|rfl<;>exact⟨by decide,rfl⟩
 obtain⟨h1,h2⟩:=key c hc
 unfold A6
 rw[L4,if_neg (λ h=>h1 h.1),if_neg (λ h=>h1 h.1),h2,if_pos (by simp)]
 rfl
theorem yJ{u:A1}(h: ∀c r,u=c::r->GD (c.toNat:Int)=false):B9 u=[]:=by
 cases u with
 |nil=>exact gJ (by rw[vO];decide)
 |cons c r=>exact gJ (by rw[L4];exact h c r U)
theorem yK{u:A1}(hu:O7 u):A6 (46::u)=(⟨1,[46],B2,0⟩,1,0):=by
 have hw:B9 u=[]:=yJ λ c r e=>by
  have:=(hu c r e).2.1
  unfold BN at this
  simp only[Bool.or_eq_false_iff]at this;exact this.1
 have hq:Lib.hasPrefix u [34]=false:=by
  cases u with
  |nil=>rfl
  |cons c r=>
   have:=(hu c r U).2.2
   unfold Lib.hasPrefix
   simp[List.isPrefixOf,Ne.symm this]
 have hm:C3 (46::u)=[46]:=rfl
 unfold A6
 rw[L4,vU,if_neg (λ h=>h.2 hw),if_neg (λ h=>by rw[hq]at h;exact absurd h.2 (by decide)),hm,if_pos (by simp)]
 rfl
theorem yL{w u:A1}(hw:w≠[])(h0: ∀j:Int,0<=j->j<len w->BN (A2 w j) (j==0)=true)(hu: ∀c r,u=c::r->BN (c.toNat:Int) false=false):B9 (w++u)=w:=by
 have hl:=JI hw
 have hlu:=AA u
 have e:CG (w++u) 0=len w:=by
  refine gH (n:=len w) (by rw[AJ];omega) (λ j h1 h2=>by rw[XU h1 h2];exact h0 j h1 h2) (λ h=>?_) 0 (Int.le_refl _) (by omega)
  rw[vN (Int.le_refl _),Int.sub_self]
  cases u with
  |nil=>rw[AJ,len_nil]at h;omega
  |cons c r=>rw[L4];rw[show(len w==0)=false from by simpa using(by omega:len w≠0)];exact hu c r U
 unfold B9
 rw[e,vP]
theorem yM{c:UInt8}{w u:A1}(h0: ∀j:Int,0<=j->j<len (c::w)->BN (A2 (c::w) j) (j==0)=true)(hu: ∀c r,u=c::r->BN (c.toNat:Int) false=false):A6 (c::w++u)=(⟨2,c::w,B2,0⟩,len (c::w),0):=by
 have hw:=yL (u:=u) (List.cons_ne_nil c w) h0 hu
 have hl:GD (c.toNat:Int)=true:=by
  have:=h0 0 (Int.le_refl _) (by rw[AL];have:=AA w;omega)
  rw[L4]at this
  unfold BN at this;simpa using this
 have hb:=vT hl
 have hm:C3 (c::(w++u))=[]:=vS hb
 have h46: ¬(c.toNat:Int)=46:=by
  intro e
  have:c=46:=UInt8.toNat_inj.1 (by rw[show(46:UInt8).toNat=46 from rfl];omega)
  subst this;exact absurd hb (by decide)
 unfold A6
 rw[List.cons_append,L4,if_neg (λ h=>h46 h.1),if_neg (λ h=>h46 h.1),hm,if_neg (by simp)]
 rw[<-List.cons_append,hw,if_pos (by simp)]
theorem Lx.at {s:A1}{i:Int}{u r:A1}{t:Tk}{l:List Tk}(h:At s i (u++r))(hu:u≠[])(ht:A6 (u++r)=(t,len u,0))(hl:Lx s (DF s (i+len u)) l):Lx s i ({ t with pos:=i}::l):=by
 have h1:=(At.add h).2.1
 have h2:=JI hu
 have h3:=h.1
 refine .step (n:=len u) h3 (by omega) ?_ hl
 rw[h.2.2];exact ht
theorem Lx.mark {s:A1}{i:Int}{c:UInt8}{b r:A1}{l:List Tk}(h:At s i (c::(b++r)))(hc:c∈([40,41,91,93,123,125,58,44,124]:A1))(hb: ∀c∈b,GL c=true)(hr:JH r)(hl:Lx s (i+1+len b) l):Lx s i (BY [c] i::l):=by
 have:=Lx.at (u:=[c]) (t:=⟨1,[c],B2,0⟩) h (by simp) (yI hc _) (by rw[show len [c]=1 from rfl,At.blank (At.one h) hb hr];exact hl)
 exact this
theorem Lx.word {s:A1}{i:Int}{c:UInt8}{w b r:A1}{l:List Tk}(h:At s i (c::w++(b++r)))(h0: ∀j:Int,0<=j->j<len (c::w)->BN (A2 (c::w) j) (j==0)=true)(hu: ∀c r',b++r=c::r'->BN (c.toNat:Int) false=false)(hb: ∀c∈b,GL c=true)(hr:JH r)(hl:Lx s (i+len (c::w)+len b) l):Lx s i (EP (c::w) i::l):=by
 have:=Lx.at (t:=⟨2,c::w,B2,0⟩) h (by simp) (yM h0 hu) (by rw[At.blank (At.add h) hb hr];exact hl)
 exact this
theorem Lx.dot {s:A1}{i:Int}{r:A1}{l:List Tk}(h:At s i (46::r))(hr:O7 r)(hl:Lx s (i+1) l):Lx s i (BY [46] i::l):=by
 have:=Lx.at (u:=[46]) (t:=⟨1,[46],B2,0⟩) h (by simp) (yK hr) (by rw[show len [(46:UInt8)]=1 from rfl,At.Y9 (At.one h) hr.stop];exact hl)
 exact this
theorem yN: ∀j:Int,0<=j->j<len ([97]:A1)->BN (A2 [97] j) (j==0)=true:=by
 intro j h0 h1
 have h1:j<1:=h1
 have:j=0:=by omega
 subst this;rfl
end Go.Eng
namespace Go.Eng
open Go.RowKit
def TA(l:List Tk)(j:Int)(u:List Tk):Prop:=0<=j/\A3 l j=u
theorem TA.add {l:List Tk}{j:Int}{u r:List Tk}(h:TA l j (u++r)):TA l (j+len u) r:=by
 obtain⟨h0,h2⟩:=h
 have h3:=AA u
 refine⟨by omega,?_⟩
 rw[<-S7 l j (len u) h0 h3,h2]
 unfold A3 len;simp
theorem TA.one {l:List Tk}{j:Int}{t:Tk}{r:List Tk}(h:TA l j (t::r)):TA l (j+1) r:=TA.add (u:=[t]) h
theorem TA.at {l:List Tk}{j:Int}{t:Tk}{r:List Tk}(h:TA l j (t::r)):at' l j=t:=by
 obtain⟨h0,h1⟩:=h
 unfold at'
 have h2:(l.drop j.toNat)[0]? =some t:=by
  have:A3 l j=l.drop j.toNat:=rfl
  rw[<-this,h1];rfl
 rw[List.getElem?_drop,Nat.add_zero]at h2
 rw[List.getD_eq_getElem?_getD,h2];rfl
theorem TA.AN {l:List Tk}{j:Int}{t:Tk}{r:List Tk}(h:TA l j (t::r))(m:A1):AN l j m=(t.kind==1&&t.s==m):=by unfold Eng.AN;rw[h.at]
theorem TA.NO {l:List Tk}{j:Int}{t:Tk}{r:List Tk}(h:TA l j (t::r))(m:A1):NO l j m=(t.kind==2&&t.s==m):=by unfold Eng.NO;rw[h.at]
theorem TA.pos {l:List Tk}{j:Int}{t:Tk}{r:List Tk}(h:TA l j (t::r)):(at' l j).pos=t.pos:=by rw[h.at]
theorem TA.lt {l:List Tk}{j:Int}{t:Tk}{r:List Tk}(h:TA l j (t::r)):j<len l:=by
 obtain⟨h0,h1⟩:=h
 rcases Int.lt_or_le j (len l)with h|h
 ·exact h
 ·exfalso
  have:A3 l j=l.drop j.toNat:=rfl
  rw[this,List.drop_eq_nil_of_le (by unfold len at h;omega)]at h1;cases h1
def iM(t:Tk):Prop:=t.kind=6\/t.kind=1/\(t.s=[41]\/t.s=[93]\/t.s=[125])
theorem iM.no {t:Tk}(h:iM t):t.kind≠3/\(t.kind==1&&t.s==[91])=false/\(t.kind==1&&t.s==[124])=false:=by
 rcases h with h|⟨h,h2⟩
 ·rw[h];exact⟨by decide,rfl,rfl⟩
 ·rw[h]
  rcases h2 with h2|h2|h2<;>rw[h2]<;>exact⟨by decide,rfl,rfl⟩
theorem QD{l:List Tk}{d i:Int}{t:Tk}{u:List Tk}{m:A1}(h:TA l i (t::u))(hk:t.kind=1)(hs:t.s=m):CV l d i m=if 64<=d then .er 3 t.pos else .ok () (i+1):=by
 have hm:AN l i m=true:=by rw[h.AN,hk,hs];simp
 unfold CV AV
 rw[hm]
 by_cases hd:64<=d
 ·rw[if_pos (by simp[hd]),if_pos hd]
  unfold B7;rw[h.pos]
 ·rw[if_neg (by simp;omega),if_neg hd,if_pos U]
end Go.Eng
namespace Go.Eng
open Go.RowKit
theorem yO(u:A1):A6 (63::u)=(⟨1,[63],B2,0⟩,1,0):=by
 have h1:(((63:UInt8).toNat:Nat):Int)≠46:=by decide
 have h2:C3 (63::u)=[63]:=rfl
 unfold A6
 rw[L4,if_neg (λ h=>h1 h.1),if_neg (λ h=>h1 h.1),h2,if_pos (by simp)]
 rfl
theorem Lx.yP {s:A1}{i:Int}{r:A1}{l:List Tk}(h:At s i (63::r))(hr:JH r)(hl:Lx s (i+1) l):Lx s i (BY [63] i::l):=by
 have:=Lx.at (u:=[63]) (t:=⟨1,[63],B2,0⟩) h (by simp) (yO _) (by rw[show len [(63:UInt8)]=1 from rfl,At.Y9 (At.one h) hr];exact hl)
 exact this
def BL(kd:Int):A1:=if kd=0 then [91]else if kd=1 then [123,63,58,32]else if kd=2 then [123,97,58,32]else if kd=3 then [116,117,112,40]else [101,110,116,114,105,101,115,40]
def G8(kd:Int):A1:=if kd=0 then [93]else if kd=1 then [125]else if kd=2 then [125]else [41]
def BU(kd:Int):Nat->A1
 |0=>EV
 |k+1=>BL kd++BU kd k++G8 kd
def G9(kd i:Int):List Tk:=if kd=0 then [BY [91] i]else if kd=1 then [BY [123] i,BY [63] (i+1),BY [58] (i+2)]else if kd=2 then [BY [123] i,EP [97] (i+1),BY [58] (i+2)]else if kd=3 then [EP GN i,BY [40] (i+3)]else [EP GO i,BY [40] (i+7)]
def DI(kd:Int):Nat->Int->List Tk
 |0,i=>[EP EV i]
 |k+1,i=>G9 kd i++(DI kd k (i+len (BL kd))++[BY (G8 kd) (i+len (BL kd)+len (BU kd k))])
theorem iN(kd:Int)(k:Nat)(r:A1):JH (BU kd k++r):=by
 have: ∃c q,BU kd k++r=c::q/\GL c=false:=by
  cases k with
  |zero=>exact⟨97,_,rfl,rfl⟩
  |succ k=>
   unfold BU BL
   split
   ·exact⟨_,_,rfl,rfl⟩
   split
   ·exact⟨_,_,rfl,rfl⟩
   split
   ·exact⟨_,_,rfl,rfl⟩
   split
   ·exact⟨_,_,rfl,rfl⟩
   ·exact⟨_,_,rfl,rfl⟩
 obtain⟨c,q,h,hb⟩:=this
 intro x y e;rw[h]at e;rw[<-(List.cons.inj e).1];exact hb
theorem yQ(kd:Int)(r:A1):O7 (G8 kd++r):=by
 unfold G8
 intro c q e
 split at e
 ·rw[<-(List.cons.inj e).1];decide
 split at e
 ·rw[<-(List.cons.inj e).1];decide
 split at e
 ·rw[<-(List.cons.inj e).1];decide
 ·rw[<-(List.cons.inj e).1];decide
theorem YA(kd:Int):len (G8 kd)=1:=by
 unfold G8
 split
 ·rfl
 split
 ·rfl
 split
 ·rfl
 ·rfl
theorem yR{kd:Int}{s:A1}{i:Int}{r:A1}{l:List Tk}(h:At s i (BL kd++r))(hr:JH r)(hl:Lx s (i+len (BL kd)) l):Lx s i (G9 kd i++l):=by
 unfold BL at h hl
 unfold G9
 split
 ·rename_i e;rw[if_pos e]at h hl
  exact Lx.mark (b:=[]) h (by decide) (λ c hc=>by cases hc) hr (by rw[len_nil,Int.add_zero];exact hl)
 rename_i e0;rw[if_neg e0]at h hl
 split
 ·rename_i e;rw[if_pos e]at h hl
  have h2:=At.one h
  have h3:=At.one h2
  refine Lx.mark (b:=[]) h (by decide) (λ c hc=>by cases hc) (λ x y e=>by rw[<-(List.cons.inj e).1];rfl) ?_
  rw[len_nil,Int.add_zero]
  refine Lx.yP h2 (λ x y e=>by rw[<-(List.cons.inj e).1];rfl) ?_
  have:=Lx.mark (c:=58) (b:=[32]) (l:=l) h3 (by decide) (by decide) hr (by rw[show i+1+1+1+len [(32:UInt8)]=i+4 from by rw[show len [(32:UInt8)]=1 from rfl];omega];exact hl)
  rw[show i+1+1=i+2 by omega]at this ⊢;exact this
 rename_i e1;rw[if_neg e1]at h hl
 split
 ·rename_i e;rw[if_pos e]at h hl
  have h2:=At.one h
  have h3:=At.one h2
  refine Lx.mark (b:=[]) h (by decide) (λ c hc=>by cases hc) (λ x y e=>by rw[<-(List.cons.inj e).1];rfl) ?_
  rw[len_nil,Int.add_zero]
  refine Lx.word (c:=97) (w:=[]) (b:=[]) h2 yN (λ x y e=>by rw[<-(List.cons.inj e).1];rfl) (λ c hc=>by cases hc) (λ x y e=>by rw[<-(List.cons.inj e).1];rfl) ?_
  rw[len_nil,Int.add_zero,show len [(97:UInt8)]=1 from rfl]
  have:=Lx.mark (c:=58) (b:=[32]) (l:=l) h3 (by decide) (by decide) hr (by rw[show i+1+1+1+len [(32:UInt8)]=i+4 from by rw[show len [(32:UInt8)]=1 from rfl];omega];exact hl)
  rw[show i+1+1=i+2 by omega]at this ⊢;exact this
 rename_i e2;rw[if_neg e2]at h hl
 split
 ·rename_i e;rw[if_pos e]at h hl
  have h3:At s (i+3) (40::r):=At.add (u:=[116,117,112]) h
  refine Lx.word (c:=116) (w:=[117,112]) (b:=[]) h (λ j h0 h1=>?_) (λ x y e=>by rw[<-(List.cons.inj e).1];rfl) (λ c hc=>by cases hc) (λ x y e=>by rw[<-(List.cons.inj e).1];rfl) ?_
  ·have h1:j<3:=h1
   rcases(by omega:j=0\/j=1\/j=2)with rfl|rfl|rfl<;>rfl
  ·rw[len_nil,Int.add_zero,show len [(116:UInt8),117,112]=3 from rfl]
   exact Lx.mark (b:=[]) h3 (by decide) (λ c hc=>by cases hc) hr (by rw[len_nil];rw[show i+3+1+0=i+4 by omega];exact hl)
 ·rename_i e;rw[if_neg e]at h hl
  have h3:At s (i+7) (40::r):=At.add (u:=[101,110,116,114,105,101,115]) h
  refine Lx.word (c:=101) (w:=[110,116,114,105,101,115]) (b:=[]) h (λ j h0 h1=>?_) (λ x y e=>by rw[<-(List.cons.inj e).1];rfl) (λ c hc=>by cases hc) (λ x y e=>by rw[<-(List.cons.inj e).1];rfl) ?_
  ·have h1:j<7:=h1
   rcases(by omega:j=0\/j=1\/j=2\/j=3\/j=4\/j=5\/j=6)with rfl|rfl|rfl|rfl|rfl|rfl|rfl<;>rfl
  ·rw[len_nil,Int.add_zero,show len [(101:UInt8),110,116,114,105,101,115]=7 from rfl]
   exact Lx.mark (b:=[]) h3 (by decide) (λ c hc=>by cases hc) hr (by rw[len_nil];rw[show i+7+1+0=i+8 by omega];exact hl)
theorem yS{kd:Int}{s:A1}{i:Int}{r:A1}{l:List Tk}(h:At s i (G8 kd++r))(hr:JH r)(hl:Lx s (i+1) l):Lx s i (BY (G8 kd) i::l):=by
 unfold G8 at h ⊢
 split
 ·rename_i e;rw[if_pos e]at h;exact Lx.mark (b:=[]) h (by decide) (λ c hc=>by cases hc) hr (by rw[len_nil,Int.add_zero];exact hl)
 rename_i e0;rw[if_neg e0]at h
 split
 ·rename_i e;rw[if_pos e]at h;exact Lx.mark (b:=[]) h (by decide) (λ c hc=>by cases hc) hr (by rw[len_nil,Int.add_zero];exact hl)
 rename_i e1;rw[if_neg e1]at h
 split
 ·rename_i e;rw[if_pos e]at h;exact Lx.mark (b:=[]) h (by decide) (λ c hc=>by cases hc) hr (by rw[len_nil,Int.add_zero];exact hl)
 ·rename_i e;rw[if_neg e]at h;exact Lx.mark (b:=[]) h (by decide) (λ c hc=>by cases hc) hr (by rw[len_nil,Int.add_zero];exact hl)
theorem iO{kd:Int}{s:A1}: ∀(k:Nat) {i:Int} {r:A1} {l:List Tk},At s i (BU kd k++r)->O7 r->Lx s (i+len (BU kd k)) l->Lx s i (DI kd k i++l)
 |0,i,r,l,h,hr,hl=>by
  refine Lx.word (c:=97) (w:=[110,121]) (b:=[]) h (λ j h0 h1=>?_) (λ x y e=>(hr x y e).2.1) (λ c hc=>by cases hc) hr.stop ?_
  ·have h1:j<3:=h1
   rcases(by omega:j=0\/j=1\/j=2)with rfl|rfl|rfl<;>rfl
  ·rw[len_nil,Int.add_zero];exact hl
 |k+1,i,r,l,h,hr,hl=>by
  unfold BU at h hl
  rw[List.append_assoc,List.append_assoc]at h
  have h2:=At.add h
  have h3:=At.add h2
  unfold DI
  rw[List.append_assoc,List.append_assoc]
  refine yR h (iN kd k _) (iO k h2 (yQ kd r) ?_)
  refine yS h3 hr.stop ?_
  rw[AJ,AJ,YA]at hl
  rw[show i+len (BL kd)+len (BU kd k)+1=i+(len (BL kd)+len (BU kd k)+1) by omega];exact hl
theorem yT(kd:Int)(k:Nat):BF (BU kd k)=(DI kd k 0++[F8 (BU kd k)],0,0):=by
 have h0:At (BU kd k) 0 (BU kd k++[]):=⟨Int.le_refl 0,AA _,by rw[List.append_nil];rfl⟩
 have hb:=At.Y9 h0 (iN kd k [])
 have:=iO k (l:=[]) h0 (λ c r e=>by cases e) (.done (by have:=AA (BU kd k);omega) (by omega))
 rw[List.append_nil]at this
 exact Lx.lex (by rw[hb];exact this)
end Go.Eng
namespace Go.Eng
open Go.RowKit
def FD(kd:Int):Nat->Tf
 |0=>.mk (AR 0) []
 |k+1=>if kd=0 then .mk (AR 5) [FD kd k]else if kd=1 then .mk (AR 3) [FD kd k]else if kd=2 then .mk { AR 2 with n:=0} [(FD kd k).named [97]]else if kd=3 then .mk (AR 4) [FD kd k]else .mk (AR 6) [FD kd k]
def IU(kd:Int):Int:=if kd=3 then 3 else if kd=4 then 7 else 0
theorem yU(kd:Int): ∀(k:Nat) (i:Int),len (DI kd k i)=if k=0 then 1 else len (G9 kd i)+len (DI kd (k-1) (i+len (BL kd)))+1
 |0,i=>rfl
 |k+1,i=>by rw[if_neg (by omega)];show len (G9 kd i++(_++[_]))=_;rw[AJ,AJ];simp only[AL,len_nil,Nat.add_sub_cancel];omega
theorem yV(kd:Int)(k:Nat)(i:Int)(t:Tk)(r:List Tk): ∃t' u,DI kd k i++t::r=t'::u/\(t'.kind=1/\(t'.s=[91]\/t'.s=[123])\/t'.kind=2):=by
 cases k with
 |zero=>exact⟨_,_,rfl,.inr U⟩
 |succ k=>
  unfold DI G9
  split
  ·exact⟨_,_,rfl,.inl ⟨rfl,.inl U⟩⟩
  split
  ·exact⟨_,_,rfl,.inl ⟨rfl,.inr U⟩⟩
  split
  ·exact⟨_,_,rfl,.inl ⟨rfl,.inr U⟩⟩
  split
  ·exact⟨_,_,rfl,.inr U⟩
  ·exact⟨_,_,rfl,.inr U⟩
theorem QE{l:List Tk}{i p:Int}{m:A1}{u:List Tk}(h:TA l i (BY m p::u)):AV l i m= .ok () (i+1):=by
 unfold AV;rw[if_pos (by rw[h.AN];simp[BY])]
theorem iP{q:A1->A1}{rt:Tf->Bool}{l:List Tk}{kd:Int}(hkd:kd=0\/kd=1\/kd=2\/kd=3\/kd=4): ∀(k f:Nat) (d j p:Int) (t:Tk) (r:List Tk),0<=d->d<=64->TA l j (DI kd k p++t::r)->4*k+3<=f->
  (d+k<=64->AY q rt f l d j= .ok (FD kd k) (j+len (DI kd k p)))/\(64<d+k->AY q rt f l d j= .er 3 (p+len (BL kd)*(64-d)+IU kd))
 |0,f,d,j,p,t,r,h0,h1,ha,hf=>by
  obtain⟨f,rfl⟩: ∃g,f=g+2:=⟨f-2,by omega⟩
  refine⟨λ _=>?_,λ h=>by omega⟩
  have ha:TA l j (EP EV p::t::r):=ha
  rw[AY,ha.at,if_pos (show(EP EV p).kind=2 from rfl),JX,ha.at,if_pos (show(EP EV p).s=EV from rfl)];rfl
 |k+1,f,d,j,p,t,r,h0,h1,ha,hf=>by
  obtain⟨f,rfl⟩: ∃g,f=g+4:=⟨f-4,by omega⟩
  unfold DI at ha
  rw[List.append_assoc,List.append_assoc]at ha
  have ha2:=TA.add ha
  have ha3:=TA.add ha2
  have ih:=λ(g:Nat) (hg:4*k+3<=g) (hd:d<64)=>iP (q:=q) (rt:=rt) hkd k g (d+1) (j+len (G9 kd p)) (p+len (BL kd)) (BY (G8 kd) (p+len (BL kd)+len (BU kd k))) (t::r) (by omega) (by omega) ha2 hg
  have hln:len (DI kd (k+1) p)=len (G9 kd p)+len (DI kd k (p+len (BL kd)))+1:=by rw[yU,if_neg (by omega)];rfl
  obtain⟨t1,u1,hu1,ht1⟩:=yV kd k (p+len (BL kd)) (BY (G8 kd) (p+len (BL kd)+len (BU kd k))) (t::r)
  have ha2':=ha2
  rw[show([BY (G8 kd) (p+len (BL kd)+len (BU kd k))]++t::r)=BY (G8 kd) (p+len (BL kd)+len (BU kd k))::t::r from rfl,hu1]at ha2'
  have ha4:TA l (j+len (G9 kd p)+len (DI kd k (p+len (BL kd)))) (BY (G8 kd) (p+len (BL kd)+len (BU kd k))::t::r):=ha3
  rw[hln]
  suffices h:(d=64->AY q rt (f+4) l d j= .er 3 (p+IU kd))/\
     (d<64->(d+1+k<=64->AY q rt (f+4) l d j= .ok (FD kd (k+1)) (j+(len (G9 kd p)+len (DI kd k (p+len (BL kd)))+1)))/\
      (64<d+1+k->AY q rt (f+4) l d j= .er 3 (p+len (BL kd)+len (BL kd)*(64-(d+1))+IU kd))) by
    refine⟨λ hd=>(h.2 (by omega)).1 (by omega),λ hd=>?_⟩
    rcases(by omega:d=64\/d<64)with e|e
    ·rw[h.1 e,e];congr 1;rw[Int.sub_self,Int.mul_zero,Int.add_zero]
    ·rw[(h.2 e).2 (by omega)]
     congr 1
     have:len (BL kd)*(64-d)=len (BL kd)+len (BL kd)*(64-(d+1)):=by
      rw[show(64-d:Int)=1+(64-(d+1)) by omega,Int.mul_add,Int.mul_one]
     omega
  rcases hkd with rfl|rfl|rfl|rfl|rfl
  ·
    have hl1:len (G9 0 p)=1:=rfl
    have hl2:len (BL 0)=1:=rfl
    have ho0:IU 0=0:=rfl
    rw[hl1,hl2]at ha4
    rw[hl1,hl2,ho0]
    have ih:=ih (f+3) (by omega)
    rw[hl1,hl2,ho0]at ih
    have hA:TA l j (BY [91] p::(DI 0 k (p+1)++(BY [93] (p+1+len (BU 0 k))::t::r))):=ha
    have e:AY q rt (f+4) l d j=(CV l d j [91]).bind λ _ j=>(AY q rt (f+3) l (d+1) j).bind λ x k=>(AV l k [93]).bind λ _ m=>.ok (.mk (AR 5) [x]) m:=by
     rw[AY,hA.at,if_neg (show ¬(BY [91] p).kind=2 from(by decide: ¬(1:Int)=2)),hA.AN];rfl
    have ho:=QD (d:=d) (m:=[91]) hA U U
    rw[e]
    refine⟨λ hd=>?_,λ hd=>?_⟩
    ·rw[ho,if_pos (by omega)];show PR.er 3 p=_;congr 1;exact(Int.add_zero p).symm
    ·rw[ho,if_neg (by omega)]
     show(_->(AY q rt (f+3) l (d+1) (j+1)).bind _=_)/\(_->(AY q rt (f+3) l (d+1) (j+1)).bind _=_)
     refine⟨λ hk=>?_,λ hk=>?_⟩
     ·rw[(ih hd).1 hk]
      show(AV l _ [93]).bind _=_
      rw[QE (m:=[93]) ha4]
      show PR.ok _ _=PR.ok _ _
      congr 1;omega
     ·rw[(ih hd).2 hk];rfl
  ·
    have hl1:len (G9 1 p)=3:=rfl
    have hl2:len (BL 1)=4:=rfl
    have ho0:IU 1=0:=rfl
    rw[hl1,hl2]at ha4
    rw[hl1,hl2,ho0]
    have ih:=ih (f+2) (by omega)
    rw[hl1,hl2,ho0]at ih
    have hA:TA l j (BY [123] p::BY [63] (p+1)::BY [58] (p+2)::(DI 1 k (p+4)++(BY [125] (p+4+len (BU 1 k))::t::r))):=ha
    have hA1:=hA.one
    have hA2:=hA1.one
    have e:AY q rt (f+4) l d j=(CV l d j [123]).bind λ _ j=>DL q rt (f+3) l (d+1) [] j:=by
     rw[AY,hA.at,if_neg (show ¬(BY [123] p).kind=2 from(by decide: ¬(1:Int)=2)),hA.AN];rfl
    have ho:=QD (d:=d) (m:=[123]) hA U U
    rw[e]
    refine⟨λ hd=>?_,λ hd=>?_⟩
    ·rw[ho,if_pos (by omega)];show PR.er 3 p=_;congr 1;exact(Int.add_zero p).symm
    ·rw[ho,if_neg (by omega)]
     show(_->DL q rt (f+3) l (d+1) [] (j+1)=_)/\(_->DL q rt (f+3) l (d+1) [] (j+1)=_)
     have e2:DL q rt (f+3) l (d+1) [] (j+1)=(AY q rt (f+2) l (d+1) (j+3)).bind λ x k=>(AV l k [125]).bind λ _ m=>.ok (.mk (AR 3) [x]) m:=by
      rw[DL,if_neg (by rw[hA1.AN];exact Bool.false_ne_true)]
      show(if AN l (j+1) [63]=true then _ else _)=_
      rw[if_pos (by rw[hA1.AN];rfl),if_pos (by rw[hA2.AN];rfl),show j+1+2=j+3 by omega]
     rw[e2]
     refine⟨λ hk=>?_,λ hk=>?_⟩
     ·rw[(ih hd).1 hk]
      show(AV l _ [125]).bind _=_
      rw[QE (m:=[125]) ha4]
      show PR.ok _ _=PR.ok _ _
      congr 1;omega
     ·rw[(ih hd).2 hk];rfl
  ·
    have hl1:len (G9 2 p)=3:=rfl
    have hl2:len (BL 2)=4:=rfl
    have ho0:IU 2=0:=rfl
    rw[hl1,hl2]at ha4
    rw[hl1,hl2,ho0]
    have ih:=ih (f+2) (by omega)
    rw[hl1,hl2,ho0]at ih
    have hA:TA l j (BY [123] p::EP [97] (p+1)::BY [58] (p+2)::(DI 2 k (p+4)++(BY [125] (p+4+len (BU 2 k))::t::r))):=ha
    have hA1:=hA.one
    have hA2:=hA1.one
    have e:AY q rt (f+4) l d j=(CV l d j [123]).bind λ _ j=>DL q rt (f+3) l (d+1) [] j:=by
     rw[AY,hA.at,if_neg (show ¬(BY [123] p).kind=2 from(by decide: ¬(1:Int)=2)),hA.AN];rfl
    have ho:=QD (d:=d) (m:=[123]) hA U U
    rw[e]
    refine⟨λ hd=>?_,λ hd=>?_⟩
    ·rw[ho,if_pos (by omega)];show PR.er 3 p=_;congr 1;exact(Int.add_zero p).symm
    ·rw[ho,if_neg (by omega)]
     show(_->DL q rt (f+3) l (d+1) [] (j+1)=_)/\(_->DL q rt (f+3) l (d+1) [] (j+1)=_)
     have e2:DL q rt (f+3) l (d+1) [] (j+1)=(AY q rt (f+2) l (d+1) (j+3)).bind λ x m=>DL q rt (f+2) l (d+1) [x.named [97]] m:=by
      rw[DL,if_neg (by rw[hA1.AN];exact Bool.false_ne_true)]
      show(if AN l (j+1) [63]=true then _ else _)=_
      rw[if_neg (by rw[hA1.AN];exact Bool.false_ne_true),hA1.at,if_neg (by simp[EP])]
      show(AV l (j+1+1) [58]).bind _=_
      rw[QE (m:=[58]) hA2,show j+1+1+1=j+3 by omega];rfl
     rw[e2]
     refine⟨λ hk=>?_,λ hk=>?_⟩
     ·rw[(ih hd).1 hk]
      show DL q rt (f+2) l (d+1) [(FD 2 k).named [97]] _=_
      rw[DL,if_pos (by rw[ha4.AN];rfl)]
      show PR.ok (HN 0 [(FD 2 k).named [97]]) _=PR.ok (Tf.mk { AR 2 with n:=0} [(FD 2 k).named [97]]) _
      rw[show HN 0 [(FD 2 k).named [97]]=Tf.mk { AR 2 with n:=0} [(FD 2 k).named [97]]from rfl]
      congr 1;omega
     ·rw[(ih hd).2 hk];rfl
  ·
    have hl1:len (G9 3 p)=2:=rfl
    have hl2:len (BL 3)=4:=rfl
    have ho0:IU 3=3:=rfl
    rw[hl1,hl2]at ha4
    rw[hl1,hl2,ho0]
    have ih:=ih (f+1) (by omega)
    rw[hl1,hl2,ho0]at ih
    rw[hl1]at ha2'
    have hA:TA l j (EP GN p::BY [40] (p+3)::(DI 3 k (p+4)++(BY [41] (p+4+len (BU 3 k))::t::r))):=ha
    have hA1:=hA.one
    have e:AY q rt (f+4) l d j=(CV l d (j+1) [40]).bind λ _ j=>(EG q rt (f+2) l (d+1) [] j).bind λ x k=>(AV l k [41]).bind λ _ m=>.ok x m:=by
     rw[AY,hA.at,if_pos (show(EP GN p).kind=2 from rfl),JX,hA.at,if_neg (show ¬(EP GN p).s=EV from(by decide: ¬GN=EV)),if_pos (show(EP GN p).s=GN from rfl)]
    have ho:=QD (d:=d) (m:=[40]) hA1 U U
    rw[e]
    refine⟨λ hd=>?_,λ hd=>?_⟩
    ·rw[ho,if_pos (by omega)];rfl
    ·rw[ho,if_neg (by omega)]
     show(_->(EG q rt (f+2) l (d+1) [] (j+1+1)).bind _=_)/\(_->(EG q rt (f+2) l (d+1) [] (j+1+1)).bind _=_)
     rw[show j+1+1=j+2 by omega]
     have hno: ¬AN l (j+2) [41]=true:=by
      rw[ha2'.AN]
      rcases ht1 with⟨h1,h2|h2⟩|h1<;>rw[h1]<;>try rw[h2]
      all_goals simp
     have e2:EG q rt (f+2) l (d+1) [] (j+2)=(AY q rt (f+1) l (d+1) (j+2)).bind λ x m=>EG q rt (f+1) l (d+1) [x] m:=by
      rw[EG,if_neg hno];rfl
     rw[e2]
     refine⟨λ hk=>?_,λ hk=>?_⟩
     ·rw[(ih hd).1 hk]
      show(EG q rt (f+1) l (d+1) [FD 3 k] _).bind _=_
      rw[EG,if_pos (by rw[ha4.AN];rfl)]
      show(AV l _ [41]).bind _=_
      rw[QE (m:=[41]) ha4]
      show PR.ok _ _=PR.ok _ _
      congr 1;omega
     ·rw[(ih hd).2 hk];rfl
  ·
    have hl1:len (G9 4 p)=2:=rfl
    have hl2:len (BL 4)=8:=rfl
    have ho0:IU 4=7:=rfl
    rw[hl1,hl2]at ha4
    rw[hl1,hl2,ho0]
    have ih:=ih (f+2) (by omega)
    rw[hl1,hl2,ho0]at ih
    have hA:TA l j (EP GO p::BY [40] (p+7)::(DI 4 k (p+8)++(BY [41] (p+8+len (BU 4 k))::t::r))):=ha
    have hA1:=hA.one
    have e:AY q rt (f+4) l d j=(CV l d (j+1) [40]).bind λ _ j=>(AY q rt (f+2) l (d+1) j).bind λ x k=>(AV l k [41]).bind λ _ m=>.ok (.mk (AR 6) [x]) m:=by
     rw[AY,hA.at,if_pos (show(EP GO p).kind=2 from rfl),JX,hA.at,if_neg (show ¬(EP GO p).s=EV from(by decide: ¬GO=EV)),if_neg (show ¬(EP GO p).s=GN from(by decide: ¬GO=GN)),if_pos (show(EP GO p).s=GO from rfl)]
    have ho:=QD (d:=d) (m:=[40]) hA1 U U
    rw[e]
    refine⟨λ hd=>?_,λ hd=>?_⟩
    ·rw[ho,if_pos (by omega)];rfl
    ·rw[ho,if_neg (by omega)]
     show(_->(AY q rt (f+2) l (d+1) (j+1+1)).bind _=_)/\(_->(AY q rt (f+2) l (d+1) (j+1+1)).bind _=_)
     rw[show j+1+1=j+2 by omega]
     refine⟨λ hk=>?_,λ hk=>?_⟩
     ·rw[(ih hd).1 hk]
      show(AV l _ [41]).bind _=_
      rw[QE (m:=[41]) ha4]
      show PR.ok _ _=PR.ok _ _
      congr 1;omega
     ·rw[(ih hd).2 hk];rfl
theorem iQ(kd:Int): ∀k:Nat,len (FD kd k).flat=(k:Int)+1
 |0=>rfl
 |k+1=>by
  have ih:=iQ kd k
  have hn: ∀(x:Tf) (n:A1),len (x.named n).flat=len x.flat:=λ x n=>by obtain⟨t,ps⟩:=x;rw[Tf.named,Tf.flat,Tf.flat,AL,AL]
  rw[FD]
  split
  ·rw[Tf.flat,AF,AF,List.append_nil,AL,ih];omega
  split
  ·rw[Tf.flat,AF,AF,List.append_nil,AL,ih];omega
  split
  ·rw[Tf.flat,AF,AF,List.append_nil,AL,hn,ih];omega
  split
  ·rw[Tf.flat,AF,AF,List.append_nil,AL,ih];omega
  ·rw[Tf.flat,AF,AF,List.append_nil,AL,ih];omega
theorem yW(q:A1->A1)(rt:Tf->Bool){kd:Int}(hkd:kd=0\/kd=1\/kd=2\/kd=3\/kd=4)(k:Nat):
  ((k:Int)<=64->DT q rt (BU kd k)=((FD kd k).flat,0,0))/\(64<(k:Int)->DT q rt (BU kd k)=([],len (BL kd)*64+IU kd,3)):=by
 have hl:=yT kd k
 have ha:TA (DI kd k 0++[F8 (BU kd k)]) 0 (DI kd k 0++F8 (BU kd k)::[]):=⟨Int.le_refl 0,rfl⟩
 have ha2:=TA.add ha
 have hlen: ∀k p,k+1<=(DI kd k p).length:=by
  intro k
  induction k with
  |zero=>intro p;exact Nat.le_refl _
  |succ k ih=>
   intro p
   have h1:=ih (p+len (BL kd))
   unfold DI
   rw[List.length_append,List.length_append]
   simp only[List.length_cons,List.length_nil]
   omega
 have hl1:=hlen k 0
 have hfd:=iP (q:=q) (rt:=rt) hkd k (4*(DI kd k 0++[F8 (BU kd k)]).length+4) 0 0 0 (F8 (BU kd k)) [] (Int.le_refl 0) (by omega) ha (by rw[List.length_append];simp only[List.length_cons,List.length_nil];omega)
 unfold DT SF
 rw[hl]
 simp only
 rw[if_neg (by simp)]
 refine⟨λ h=>?_,λ h=>?_⟩
 ·rw[hfd.1 (by omega)]
  simp only
  rw[ha2.at,if_pos (show(F8 (BU kd k)).kind=6 from rfl)]
 ·rw[hfd.2 (by omega)]
  simp only
  rw[Int.zero_add,Int.sub_zero]
end Go.Eng
