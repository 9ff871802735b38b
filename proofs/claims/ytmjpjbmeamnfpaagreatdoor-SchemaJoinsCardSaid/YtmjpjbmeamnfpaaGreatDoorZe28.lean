/-
  Parts Ir Iv Iw Plc Nst Nsp Sb Sc, put together and made short by wip/py/merge.py (mini.py).
-/
import Derived.Test.YtmjpjbmeamnfpaaGreatDoorZe26
import Derived.Test.YtmjpjbmeamnfpaaGreatDoorZe27
import Derived.Test.YtmjpjbmeamnfpaaGreatDoorZe12
import Derived.Test.YtmjpjbmeamnfpaaGreatDoorZe22
import Derived.Test.YtmjpjbmeamnfpaaGreatDoorZe10
import Derived.Test.YtmjpjbmeamnfpaaGreatDoorZe25
import Derived.Test.YtmjpjbmeamnfpaaGreatDoorZe0
set_option linter.unusedVariables false
set_option linter.unusedSimpArgs false
set_option maxRecDepth 100000
namespace Go.Eng
def D3(t:Tf)(k:Nat):Int:=1+len (AL (t.ps.take k))
theorem VE(t:Tf)(k:Nat):DK t.flat (D3 t k) (t.ps.drop k) []:=by
 have h0:=A8 (AL (t.ps.take k))
 refine⟨by unfold D3;omega,?_⟩
 rw[Tf.IA,show(D3 t k).toNat=(AL (t.ps.take k)).length+1 by unfold D3 len;omega,List.drop_succ_cons]
 conv=>lhs;rw[<-List.take_append_drop k t.ps,HR]
 simp
theorem aC{t:Tf}{k:Nat}(hk:k<t.ps.length):D3 t (k+1)=D3 t k+len (at' t.ps (k:Int)).flat:=by
 obtain⟨h1,h2⟩:=G7 t.ps (i:=(k:Int)) (by omega) (by unfold len;omega)
 unfold D3
 rw[List.take_add_one,HR,AG,h2]
 simp[hk,AL]
 omega
theorem S1(t:Tf)(k:Nat):1<=D3 t k/\D3 t k<=len t.flat:=by
 have h0:=A8 (AL (t.ps.take k))
 have h1:=A8 (AL (t.ps.drop k))
 have h2:len t.flat=1+(len (AL (t.ps.take k))+len (AL (t.ps.drop k))):=by
  rw[Tf.IA,AK,<-AG,<-HR,List.take_append_drop];omega
 unfold D3;omega
theorem AC9{t:Tf}{k:Nat}(hk:k<t.ps.length):Eng.sub t.flat (D3 t k) (D3 t (k+1))=(at' t.ps (k:Int)).flat:=by
 have h:=(VE t k).next hk
 have h2:=VE t (k+1)
 have h3:DK t.flat (D3 t (k+1)) [] (AL (t.ps.drop (k+1))):=⟨h2.1,by rw[h2.2];simp[AL]⟩
 refine h.part h3 ?_ (S1 t (k+1)).2
 rw[aC hk];have:=(at' t.ps (k:Int)).G3;omega
theorem AD0{t:Tf}{k:Nat}(hk:k<t.ps.length):at' t.flat (D3 t k)= { (at' t.ps (k:Int)).t with many:=len (at' t.ps (k:Int)).ps}/\D3 t k<len t.flat:=
 let h:=((VE t k).next hk).step;⟨h.2.1,h.1⟩
theorem VF{b:Bool}(hb:b=true){E:List Ck}(h: ∀c∈E,c= .b true b):A6 E:=λ c hc=>by rw[h c hc];exact λ _=>hb
def H9:List Tf->Int->A1->(Tf->Int×Bool)->Int×Bool
 |[],_,_,_=>(0,false)
 |x::l,o,n,F=>if x.t.name=n then(if(F x).2=true then(o+(F x).1,true)else(0,false))else H9 l (o+len x.flat) n F
def DM:List Sp->Tf->Int×Bool
 |[],t=>(0,decide (t.t.op=1))
 |s::p,t=>if t.t.op≠2\/s.part=true then(0,false)else H9 t.ps 1 s.name (DM p)
theorem kZ{F:Tf->Int×Bool}{n:A1}: ∀ {l:List Tf} {o:Int},(∀x∈l,0<=(F x).1/\(F x).1<len x.flat)->0<o->0<=(H9 l o n F).1/\(H9 l o n F).1<o+len (AL l)
 |[],o,_,h0=>⟨by show(0:Int)<=0;omega,by have:=A8 (AL []);show(0:Int)<_;omega⟩
 |x::l,o,h,h0=>by
  have hx:=h x (.head _)
  have hl:=A8 (AL l)
  have hxf:=A8 x.flat
  have ih:=kZ (F:=F) (n:=n) (l:=l) (o:=o+len x.flat) (λ y hy=>h y (.tail _ hy)) (by omega)
  have e:len (AL (x::l))=len x.flat+len (AL l):=by show len (x.flat++AL l)=_;rw[AG]
  rw[e]
  unfold H9
  split
  ·split
   ·exact⟨by show 0<=o+(F x).1;omega,by show o+(F x).1<_;omega⟩
   ·exact⟨by show(0:Int)<=0;omega,by show(0:Int)<_;omega⟩
  ·exact⟨ih.1,by omega⟩
theorem l0: ∀(p:List Sp) (t:Tf),0<=(DM p t).1/\(DM p t).1<len t.flat
 |[],t=>⟨Int.le_refl _,t.G3⟩
 |s::p,t=>by
  unfold DM
  split
  ·exact⟨Int.le_refl _,t.G3⟩
  ·have h:=kZ (F:=DM p) (n:=s.name) (l:=t.ps) (o:=1) (λ x _=>l0 p x) (by omega)
   refine⟨h.1,?_⟩
   rw[Tf.IA,AK];omega
theorem aD{F:Tf->Int×Bool}{n:A1}: ∀ {k:Nat} {l:List Tf} {o:Int},(∀x∈l.take k,x.t.name≠n)->H9 l o n F=H9 (l.drop k) (o+len (AL (l.take k))) n F
 |0,l,o,_=>by simp[AL,len]
 |k+1,[],o,_=>rfl
 |k+1,x::l,o,h=>by
  have h1:x.t.name≠n:=h x (by simp)
  have ih:=aD (F:=F) (n:=n) (k:=k) (l:=l) (o:=o+len x.flat) λ y hy=>h y (by simp[hy])
  rw[H9,if_neg h1,ih]
  show _=H9 (l.drop k) (o+len (x.flat++AL (l.take k))) n F
  rw[AG,Int.add_assoc]
theorem AD1{t:Tf}{k:Nat}{n:A1}{F:Tf->Int×Bool}(hk:k<t.ps.length)(hno: ∀x∈t.ps.take k,x.t.name≠n)(hn:(at' t.ps (k:Int)).t.name=n):
  H9 t.ps 1 n F=if(F (at' t.ps (k:Int))).2=true then(D3 t k+(F (at' t.ps (k:Int))).1,true)else(0,false):=by
 obtain⟨h1,h2⟩:=G7 t.ps (i:=(k:Int)) (by omega) (by unfold len;omega)
 have e:t.ps.drop k=at' t.ps (k:Int)::t.ps.drop (k+1):=by
  rw[h2,List.drop_eq_getElem_cons hk];simp
 rw[aD hno,e,H9,if_pos hn];rfl
theorem AD2{t:Tf}{n:A1}{F:Tf->Int×Bool}(hno: ∀x∈t.ps.take t.ps.length,x.t.name≠n):H9 t.ps 1 n F=(0,false):=by
 rw[aD hno,List.drop_length];rfl
theorem l5{α:Type}(s:α)(p:List α):Eng.sub (s::p) 1 (len (s::p))=p:=by
 unfold Eng.sub len
 rw[show((1:Int).toNat)=1 from rfl,List.drop_succ_cons,List.drop_zero]
 exact List.take_of_length_le (by simp)
theorem AD3{t:Tf}{k:Nat}{n:A1}(hk:k<t.ps.length)(hno: ∀x∈t.ps.take k,x.t.name≠n)(h:(at' t.ps (k:Int)).t.name≠n): ∀x∈t.ps.take (k+1),x.t.name≠n:=by
 obtain⟨h1,h2⟩:=G7 t.ps (i:=(k:Int)) (by omega) (by unfold len;omega)
 rw[h2]at h
 intro x hx
 rw[List.take_add_one]at hx
 rcases List.mem_append.1 hx with hx|hx
 ·exact hno x hx
 ·simp[hk]at hx;subst hx;simpa using h
end Go.Eng
namespace Go.Proofs.YtmjpjbmeamnfpaaGreatDoor
open Go.Eng
theorem AD4(v:Value)(f:Fl)(i:Int)(u:Tf)(R:Fl){w:World}{M:Mem}(hM:Sat w M)(hl:(BS v f).ok M)(h:DK f i [u] R)(hi:i<=len f)(hb:len f<=1099511627776):
    Calls Tryz.prog 306 [v,i64 i].toArray w λ e w'=>e= .returned (i64 (i+len u.flat))/\Ext w w':=by
 have hi0:=h.1
 have hul:=u.G3
 have hul2:=h.LQ hi
 have e1:AL [u]=u.flat:=by show u.flat++AL []=_;simp[AL]
 rw[e1]at hul2
 have hR0:=A8 R
 refine B3 (Hr:=[]) AX Tryz.func306 U Tryz.ntmps306 [(0,BS v f)] [] [.sl 0 v,I i] U (St.start hM) (C0 hl AA) (λ B hB=>?_) U
 refine EA (σ:=Int×Int×List Tf) (λ(tz,lf,st)=>⟨[(0,BS v f)],[],[Z 0 (.sl 0 v),Z 1 (I tz),Z 4 (I 0),Z 5 (I lf)]⟩) (λ(tz,lf,st)=>DK f tz st R/\lf=len st/\i<=tz/\tz<=len f) (λ(tz,lf,st)=>(len f-tz).toNat) (i,1,[u]) U (A0 U) (by omega) U ⟨h,rfl,by omega,by omega⟩ ?_
 rintro⟨tz,lf,st⟩ ⟨hto,hlf,hit,htl⟩
 have q6:=A8 R
 refine AB U (A0 U) (by omega) (λ hb2=>?_) (λ hb2=>?_)<;>simp only[zb]at hb2
 ·cases st with
   |nil=>rw[len_nil]at hlf;omega
   |cons u st=>
    obtain⟨q1,q2,q3⟩:=hto.step
    have q4:=q3.LQ (by omega)
    have q5:=UE (u.ps++st)
    have q7:(at' f tz).many=len u.ps:=by rw[q2]
    rw[AG]at q5
    rw[AK]at hlf
    have q8:=A8 u.ps
    have q9:=A8 st
    have q0:=hto.1
    exact DO (tz+1,lf+((at' f tz).many-1),u.ps++st) U (A0 U) (by simp only[zb]<;>omega) U ⟨q3,by rw[AG];omega,by omega,by omega⟩ (by show Int.toNat _<Int.toNat _;omega)
 have hse:st=[]:=by
  have:=A8 st
  cases st with
  |nil=>rfl
  |cons u st=>have:=A8 st;rw[AK]at hlf;omega
 subst hse
 have q4:=hto.LQ htl
 have e2:len (AL [])=0:=rfl
 have hte:tz=i+len u.flat:=by omega
 subst hte
 exact AH hB U U (A0 U) (by omega) U (A0 U) λ w M hX=>⟨rfl,hX.st.low⟩
theorem AD5{w0 w:World}{M0 M:Mem}{y1:HO}{Rs:List HO}{b:Nat}{v:Value}{t:Tf}(hl:(BS v t.flat).ok M)(hb:len t.flat<=1099511627776)(hk1:t.t.op≠1):
    kY Tryz.prog 305 [.pointer (some ⟨b,0,none⟩)] t.ps.length w0 M0 (y1:: .box b [v] 36::Rs)
      (λ k (_:Unit)=>[I (D3 t k),I (D3 t (k+1))]) (λ _ _=>True) (λ _ _=>[]) w M:=by
 intro γ ub I' J Hy Fy l g0 ⟨x1,x2,x3,x4,x5,hx⟩ hS hF hI hy
 have hS2:St w0 M0 w M (.box b [v] 36::x1 g0::x2 g0::x3 g0::x4 g0::x5 g0::(y1::Rs)):=by
  rw[hx]at hS
  exact hS.perm (List.perm_middle (l₁:=[x1 g0,x2 g0,x3 g0,x4 g0,x5 g0,y1])).symm
 have hmny:=t.sT
 have hpos:=t.G3
 have hps:=UE t.ps
 have hpl:len t.flat=1+len (AL t.ps):=by rw[Tf.IA,AK];omega
 have hln:len t.ps=(t.ps.length:Int):=rfl
 have hop:(at' t.flat 0).op=t.t.op:=by rw[Tf.UD]
 refine sL (Hr:=y1::Rs) AX Tryz.func305 rfl Tryz.ntmps305 rfl (λ w h=>by obtain⟨g,M',h,_⟩:=h;cases h) [(0,BS v t.flat),(9,Y5 (Fy g0))] [(0,.box b [.sl 0 v] 36),(1,.ho (x1 g0)),(2,.ho (x2 g0)),(3,.ho (x3 g0)),(4,.ho (x4 g0)),(5,.ho (x5 g0))] [.v (.func (.yield l) #[] #[]),.bx 0 b 0] rfl hS2 (C0 hl (C0 ⟨Sl.nil M 1,DN,hF⟩ AA)) (λ B hB=>?_) rfl
 refine EA (σ:=Int×Nat×γ) (λ(i,k,g)=>⟨[(0,BS v t.flat),(9,Y5 (Fy g))],[(0,.box b [.sl 0 v] 36),(1,.ho (x1 g)),(2,.ho (x2 g)),(3,.ho (x3 g)),(4,.ho (x4 g)),(5,.ho (x5 g))],[Z 0 (.v (.func (.yield l) #[] #[])),Z 1 (.bx 0 b 0),Z 3 (I i),Z 8 (I (at' t.flat 0).many),Z 9 (I k)]⟩) (λ(i,k,g)=>i=D3 t k/\k<=t.ps.length/\I' k g) (λ(i,k,g)=>t.ps.length-k) (1,0,g0) U (A0 U) (by simp only[zb]<;>omega) U ⟨rfl,Nat.zero_le _,hI⟩ ?_
 rintro⟨i,k,g⟩ ⟨hi,hk,hIk⟩
 have hpk:=S1 t k
 refine AB U (A0 U) (by simp only[zb]<;>omega) (λ hb1=>?_) (λ hb1=>?_)<;>simp only[zb]at hb1
 ·have hk2:k<t.ps.length:=by omega
  have hpk2:=S1 t (k+1)
  have hst:=aC hk2
  subst hi
  refine BE U (A0 U) (by omega) Tryz.call306 U U (A0 U) (λ _ w M hX=>AD4 v t.flat (D3 t k) _ _ hX.st.sat (hX.f.get (k:=0) U) ((VE t k).next hk2) (by omega) hb) U ?_
  rw[<-hst]
  refine IX (.v (.bool true)) U (A0 U) (by omega) U (λ hb2=>?_) (λ hb2=>?_)
  ·refine AC7 (λ g'=>[(1,.ho (x1 g')),(2,.ho (x2 g')),(3,.ho (x3 g')),(4,.ho (x4 g')),(5,.ho (x5 g'))]) ub [1,2,3,4,5] (γ:=γ) (pu:=λ g=>if ub g=true then I' (k+1) g else J g) (Fg:=λ g'=>[(9,Y5 (Fy g'))]) (Hg:=Hy) [9] U (A0 U) (by simp only[zb]<;>omega) U (OE hb2 U) U U (VF hb2 (by simp)) U (λ w' M' hS' hF' hle=>?_) (λ g'=>by rw[hx];rfl) λ g' hg'=>?_
   ·have hp:(Hy g++(y1:: .box b [v] 36::Rs)).Perm (x1 g::x2 g::x3 g::x4 g::x5 g:: .box b [v] 36::y1::Rs):=by
     rw[hx]
     exact((((((List.Perm.swap _ _ _).cons _).cons _).cons _).cons _).cons _)
    obtain⟨fn,tt',asg,bd,e1,e2⟩:=hy k g () w' M' hk2 hIk trivial (hS'.perm hp) hle (λ x h=>by cases h) (hF'.get (k:=9) rfl).more
    refine⟨fn,tt',asg,bd,e1,e2.mono λ e w2 h=>?_⟩
    obtain⟨g',M2,r1,r2,r3,r4,r5⟩:=h
    refine⟨g',M2,r1,r2,r3,?_,C0 ⟨Sl.nil M2 1,DN,r5⟩ AA⟩
    exact r4.perm (List.Perm.append_left _ (List.Perm.swap _ _ _))
   ·refine AB U (VF hb2 (by simp[hop,hk1])) (by omega) (λ hb3=>?_) (λ hb3=>?_)<;>simp only[zb]at hb3
    ·rw[if_neg (by rw[hb3.2];decide)]at hg'
     refine AH hB U U (VF hb2 (by simp[hop,hk1])) (by omega) U (A0 U) λ w' M' hX=>⟨g',M',rfl,.inr hg',hX.le,?_,(hX.f.get (k:=9) U).more⟩
     refine hX.st.perm ?_
     rw[hx]
     exact List.Perm.append_left [x1 g',x2 g',x3 g',x4 g',x5 g'] (List.Perm.swap _ _ _)
    ·rw[if_pos (hb3.resolve_left (by rw[hop];exact hk1))]at hg'
     exact DO (D3 t (k+1),k+1,g') U (VF hb2 (by simp[hop,hk1])) (by simp only[zb]<;>omega) U ⟨rfl,hk2,hg'⟩ (by show t.ps.length-(k+1)<t.ps.length-k;omega)
  ·rw[hop]at hb2;simp[hk1]at hb2
 ·have hk3:k=t.ps.length:=by omega
  refine QI hB U U (A0 U) (by omega) λ w' M' hX=>⟨g,M',rfl,.inl (by rw[<-hk3];exact hIk),hX.le,?_,(hX.f.get (k:=9) U).more⟩
  refine hX.st.perm ?_
  rw[hx]
  exact List.perm_middle (l₁:=[x1 g,x2 g,x3 g,x4 g,x5 g,y1])
theorem AD6{w0 wv:World}{M0 M:Mem}{Rs:List HO}{v:Value}{t:Tf}(hS:St w0 M0 wv M Rs)(hl:(BS v t.flat).ok M):
  Calls Tryz.prog 289 [v].toArray wv (CX w0 M0 M Rs (λ b:Nat=>.func (.func 305) #[] #[.pointer (some ⟨b,0,none⟩)]) (λ _=>True) (λ _=>[]) λ b=>[.box b [v] 36]):=by
 refine B3 (Hr:=Rs) AX Tryz.func289 U Tryz.ntmps289 [(0,BS v t.flat)] [] [.sl 0 v] U hS (C0 hl AA) (λ B hB=>?_) U
 refine F6 1 U (A0 U) (by omega) U U (A0 U) λ b=>?_
 refine DT (.v (.func (.func 305) #[] #[.pointer (some ⟨b,0,none⟩)])) U (A0 U) (by omega) U (λ w M hX=>PV.makeFunc (xs:=[]) (ys:=[.tmp 1]) (vs:=[]) (us:=[.pointer (some ⟨b,0,none⟩)]) trivial ⟨AT (v:=.bx 1 b 0) (E:=[]) U (A0 U),trivial⟩) ?_
 exact AH hB rfl rfl (A0 rfl) (by omega) rfl (A0 rfl) λ w' M' hX=>⟨b,M',rfl,trivial,hX.le,hX.st,λ x h=>by cases h⟩
theorem AD7: ∀(p:List Sp) {w0 wv:World} {M0 M:Mem} {Rs:List HO} (v u:Value) (t:Tf),St w0 M0 wv M Rs->(BS v t.flat).ok M->(kn u 3 p Sp.cells).ok M->len t.flat<=1099511627776->len p<=1099511627776->
    Calls Tryz.prog 259 [v,u].toArray wv (CX w0 M0 M Rs (λ _:Unit=>.tuple #[i64 (DM p t).1,.bool (DM p t).2]) (λ _=>True) (λ _=>[]) λ _=>[]):=by
 intro p
 induction p with
 |nil=>
  intro w0 wv M0 M Rs v u t hS hl hu hb hbp
  have hpos:=t.G3
  refine dU (Hr:=Rs) AX Tryz.func259 U Tryz.ntmps259 [(0,BS v t.flat),(1,kn u 3 [] Sp.cells)] [] [.sl 0 v,.sl 1 u] U hS (C0 hl (C0 hu AA)) (λ B hB=>?_) U
  refine F6 2 U (A0 U) (by omega) U U (A0 U) λ b2=>?_
  refine F6 3 U (A0 U) (by omega) U U (A0 U) λ b3=>?_
  refine CL 4 U (A0 U) (by omega) Tryz.zeroValue3 U λ b4=>?_
  refine CL 5 U (A0 U) (by omega) Tryz.zeroValue4 U λ b5=>?_
  refine AB U (A0 U) (by omega) (λ hb1=>?_) (λ hb1=>?_)<;>simp only[zb]at hb1
  ·refine KN [5,6] 3 (λ _ _ _ _ _ h=>h) U (A0 U) (by omega) EV (by decide+kernel) ?_
   refine CS 5 U (A0 U) (by omega) U U ?_
   refine CE U (A0 U) (by omega) ?_
   refine CS 6 U (A0 U) (by omega) U U ?_
   refine CE U (A0 U) (by omega) ?_
   refine HQ U (A0 U) (by omega) U U ?_
   exact AH hB.ends U U (A0 U) (by omega) U (A0 U) λ w M' hX=>⟨(),M',by rw[Tf.UD];rfl,trivial,hX.le,hX.st.drop _ fE,AA⟩
  ·exfalso;exact hb1 U
 |cons s p ih=>
  intro w0 wv M0 M Rs v u t hS hl hu hb hbp
  have hpos:=t.G3
  have hp0:=A8 p
  rw[AK]at hbp
  have hsp:at' (s::p) 0=s:=rfl
  refine dU (Hr:=Rs) AX Tryz.func259 U Tryz.ntmps259 [(0,BS v t.flat),(1,kn u 3 (s::p) Sp.cells)] [] [.sl 0 v,.sl 1 u] U hS (C0 hl (C0 hu AA)) (λ B hB=>?_) U
  refine F6 2 U (A0 U) (by omega) U U (A0 U) λ b2=>?_
  refine F6 3 U (A0 U) (by omega) U U (A0 U) λ b3=>?_
  refine CL 4 U (A0 U) (by omega) Tryz.zeroValue3 U λ b4=>?_
  refine CL 5 U (A0 U) (by omega) Tryz.zeroValue4 U λ b5=>?_
  have hlc:len (s::p)=len p+1:=AK s p
  refine AB U (A0 U) (by omega) (λ hb1=>?_) (λ hb1=>?_)<;>simp only[zb]at hb1
  ·exfalso;omega
  refine AB U (A0 U) (by omega) (λ hb2=>?_) (λ hb2=>?_)<;>simp only[zb]at hb2<;>rw[Tf.UD,hsp]at hb2
  ·have e:DM (s::p) t=(0,false):=by unfold DM;rw[if_pos hb2]
   exact AH hB.ends U U (A0 U) (by omega) U (A0 U) λ w M' hX=>⟨(),M',by rw[e];rfl,trivial,hX.le,hX.st.drop _ fE,AA⟩
  have hop:t.t.op=2:=hb2.1
  have eL:DM (s::p) t=H9 t.ps 1 s.name (DM p):=by rw[DM,if_neg (by rintro(q|q);exact q hb2.1;rw[hb2.2]at q;cases q)]
  refine B9 [] (λ b:Nat=>.v (.func (.func 305) #[] #[.pointer (some ⟨b,0,none⟩)])) [] (λ b=>[(6,.box b [.sl 0 v] 36)]) U (A0 U) (by omega) U Tryz.call289 U U (A0 U) U (λ w M hS hF=>AD6 hS (hF.get (k:=0) U)) (λ _=>rfl) (λ _=>rfl) λ b6 _=>?_
  refine TU [6] U U ?_
  obtain⟨Sf,hSf⟩: ∃Sf:Int×Bool->XS,Sf=λ g=>⟨[(0,BS v t.flat),(1,kn u 3 (s::p) Sp.cells)],[(2,.box b2 [.sl 0 v] 36),(3,.box b3 [.sl 1 u] 70),(4,.box b4 [I g.1] 3),(5,.box b5 [.v (.bool g.2)] 4)],[Z 2 (.bx 2 b2 0),Z 3 (.bx 3 b3 0),Z 4 (.bx 4 b4 0),Z 5 (.bx 5 b5 0)]⟩:=⟨_,rfl⟩
  refine AC6 (σ:=Int×Bool) (τ:=Unit) (λ g=>⟨[(0,BS v t.flat),(1,kn u 3 (s::p) Sp.cells)],[(2,.box b2 [.sl 0 v] 36),(3,.box b3 [.sl 1 u] 70),(4,.box b4 [I g.1] 3),(5,.box b5 [.v (.bool g.2)] 4)],[Z 2 (.bx 2 b2 0),Z 3 (.bx 3 b3 0),Z 4 (.bx 4 b4 0),Z 5 (.bx 5 b5 0)]⟩)
    (λ k g=>g=(0,false)/\ ∀x∈t.ps.take k,x.t.name≠s.name) (λ g=>g=H9 t.ps 1 s.name (DM p)) (0,false)
    (λ k g y=>⟨[(0,BS v t.flat),(1,kn u 3 (s::p) Sp.cells)],[(2,.box b2 [.sl 0 v] 36),(3,.box b3 [.sl 1 u] 70),(4,.box b4 [I g.1] 3),(5,.box b5 [.v (.bool g.2)] 4)],[Z 6 (I (D3 t k)),Z 7 (I (D3 t (k+1))),Z 2 (.bx 2 b2 0),Z 3 (.bx 3 b3 0),Z 4 (.bx 4 b4 0),Z 5 (.bx 5 b5 0)]⟩)
    (λ _ _ _ _ h=>h) U (A0 U) (by omega) U (A0 U) Tryz.call305 U ⟨rfl,λ x hx=>by simp at hx⟩ (λ _=>rfl) ⟨_,_,_,_,λ _=>rfl⟩ (λ w M D w' hX=>AD5 (hX.f.get (k:=0) U) hb (by rw[hop];decide)) (λ _ _=>rfl)
    (λ k g y l D r M hk hI hp=>?_) U (λ k g y l D r M hk hI hp=>?_) U (λ D g a w hI=>?_) (λ D g a w hJ=>?_)
  ·exact BF _ U (A0 U) (by omega) U U
  ·obtain⟨rfl,hno⟩:=hI
   have hpk:=S1 t k
   have hpk2:=S1 t (k+1)
   have hst:=aC hk
   have hcp:=(at' t.ps (k:Int)).G3
   obtain⟨hrt,hrl⟩:=AD0 hk
   refine kX [] 1 U (A0 U) (by omega) EV (by decide+kernel) ?_
   refine HQ U (A0 U) (by omega) U U ?_
   refine aA ?_
   refine AB U (A0 U) (by omega) (λ hb3=>?_) (λ hb3=>?_)<;>simp only[zb]at hb3<;>rw[hrt,hsp]at hb3
   ·have hsub:=AC9 hk
    have hcb:=l0 p (at' t.ps (k:Int))
    have hla:=AD1 (F:=DM p) hk hno hb3
    refine kX [3,5,6,10,11] 6 U (A0 U) (by omega) EV (by decide+kernel) ?_
    refine eY 3 5 U (A0 U) (by omega) U U ?_ ?_
    ·refine MK (gd:=none) 8 (D3 t k) (D3 t (k+1)) U (A0 U) (by omega) U (A0 U) U ⟨.i64,_,rfl,A0 U⟩ ⟨.i64,_,rfl,A0 U⟩ Tryz.underlying36 Tryz.sizeOf48 (by omega) U U λ v8=>?_
     rw[hsub]
     refine CE U (A0 U) (by omega) ?_
     refine CS 5 U (A0 U) (by omega) U U ?_
     refine MK (gd:=none) 9 1 (len (s::p)) U (A0 U) (by omega) U (A0 U) U ⟨.i64,_,rfl,A0 U⟩ U Tryz.underlying70 Tryz.sizeOf68 (by omega) U U λ v9=>?_
     rw[l5]
     refine CE U (A0 U) (by omega) ?_
     refine CS 6 U (A0 U) (by omega) U U ?_
     refine B9 [] (λ _:Unit=>.tu [I (DM p (at' t.ps (k:Int))).1,.v (.bool (DM p (at' t.ps (k:Int))).2)]) [] (λ _=>[]) (Fg:=λ _=>[]) U (A0 U) (by omega) U Tryz.call259 U U (A0 U) U (λ w M hS hF=>ih v8 v9 (at' t.ps (k:Int)) hS (hF.get (k:=8) U) (hF.get (k:=9) U) (by omega) (by omega)) (λ _=>rfl) (λ _=>rfl) λ _ _=>?_
     refine CE U (A0 U) (by omega) ?_
     refine CS 10 U (A0 U) (by omega) U U ?_
     refine CE U (A0 U) (by omega) ?_
     refine CS 11 U (A0 U) (by omega) U U ?_
     refine CE U (A0 U) (by omega) ?_
     refine HQ U (A0 U) (by omega) U U ?_
     refine aA ?_
     refine AB U (A0 U) (by omega) (λ hb4=>?_) (λ hb4=>?_)<;>simp only[zb]at hb4
     ·rw[if_neg (by rw[hb4];decide)]at hla
      exact VD _ U (A0 U) (by omega) U ⟨(0,false),rfl,hla.symm⟩
     ·rw[if_pos hb4]at hla
      exact VD _ U (A0 U) (by omega) U ⟨(D3 t k+(DM p (at' t.ps (k:Int))).1,true),rfl,hla.symm⟩
    ·refine MK (gd:=none) 9 1 (len (s::p)) U (A0 U) (by omega) U (A0 U) U ⟨.i64,_,rfl,A0 U⟩ U Tryz.underlying70 Tryz.sizeOf68 (by omega) U U λ v9=>?_
     rw[l5]
     refine CE U (A0 U) (by omega) ?_
     refine CS 3 U (A0 U) (by omega) U U ?_
     refine MK (gd:=none) 8 (D3 t k) (D3 t (k+1)) U (A0 U) (by omega) U (A0 U) U ⟨.i64,_,rfl,A0 U⟩ ⟨.i64,_,rfl,A0 U⟩ Tryz.underlying36 Tryz.sizeOf48 (by omega) U U λ v8=>?_
     rw[hsub]
     refine CE U (A0 U) (by omega) ?_
     refine CS 6 U (A0 U) (by omega) U U ?_
     refine B9 [] (λ _:Unit=>.tu [I (DM p (at' t.ps (k:Int))).1,.v (.bool (DM p (at' t.ps (k:Int))).2)]) [] (λ _=>[]) (Fg:=λ _=>[]) U (A0 U) (by omega) U Tryz.call259 U U (A0 U) U (λ w M hS hF=>ih v8 v9 (at' t.ps (k:Int)) hS (hF.get (k:=8) U) (hF.get (k:=9) U) (by omega) (by omega)) (λ _=>rfl) (λ _=>rfl) λ _ _=>?_
     refine CE U (A0 U) (by omega) ?_
     refine CS 10 U (A0 U) (by omega) U U ?_
     refine CE U (A0 U) (by omega) ?_
     refine CS 11 U (A0 U) (by omega) U U ?_
     refine CE U (A0 U) (by omega) ?_
     refine HQ U (A0 U) (by omega) U U ?_
     refine aA ?_
     refine AB U (A0 U) (by omega) (λ hb4=>?_) (λ hb4=>?_)<;>simp only[zb]at hb4
     ·rw[if_neg (by rw[hb4];decide)]at hla
      exact VD _ U (A0 U) (by omega) U ⟨(0,false),rfl,hla.symm⟩
     ·rw[if_pos hb4]at hla
      exact VD _ U (A0 U) (by omega) U ⟨(D3 t k+(DM p (at' t.ps (k:Int))).1,true),rfl,hla.symm⟩
   ·exact BF _ U (A0 U) (by omega) U ⟨(0,false),rfl,rfl,AD3 hk hno hb3⟩
  ·obtain⟨rfl,hno⟩:=hI
   have e:=AD2 (F:=DM p) hno
   refine qS 8 (λ _ _ _ _ h=>h) U (s:=⟨[(0,BS v t.flat),(1,kn u 3 (s::p) Sp.cells)],[(2,.box b2 [.sl 0 v] 36),(3,.box b3 [.sl 1 u] 70),(4,.box b4 [I 0] 3),(5,.box b5 [.v (.bool false)] 4)],[Z 2 (.bx 2 b2 0),Z 3 (.bx 3 b3 0),Z 4 (.bx 4 b4 0),Z 5 (.bx 5 b5 0)]⟩) ?_ a w
   refine AC8 hB U U (A0 U) (by omega) U U (A0 U) λ w' M' hS' hF' hle=>⟨(),M',by rw[eL,e];rfl,trivial,hle,hS'.drop _ (List.sublist_append_right [_,_,_,_,_] _),AA⟩
  ·rintro hs ⟨M',h1,h2,h3⟩
   subst hJ
   show B .ret (CM (GZ D) a) w
   refine hB.leave AX h1 hs U U (A0 U) λ w' h=>⟨(),M',by rw[eL];rfl,trivial,h3,h.drop _ (List.sublist_append_right [_,_,_,_,_] _),AA⟩
end Go.Proofs.YtmjpjbmeamnfpaaGreatDoor
set_option maxRecDepth 100000
namespace Go.Eng
def FC(t:Tm):Tm:=⟨t.op,t.many,t.name,[],0,AY⟩
def IJ(t:Tm):Bool×Tm:=
 if t.op=0 then(t.many==0,FC t)
 else if t.op=1 then(decide (0<=t.many)&&decide (0<t.n)&&decide (t.n<=31),{ FC t with n:=t.n})
 else if t.op=9 then(t.many==0&&a8 t.n t.c,{ FC t with n:=t.n,c:=t.c})
 else if t.op=2 then(decide (0<=t.many)&&decide (0<=t.n)&&decide (t.n<=1),{ FC t with n:=t.n})
 else if t.op=4 then(decide (0<=t.many),FC t)
 else if t.op=3\/t.op=5\/t.op=6 then(t.many==1,FC t)
 else if t.op=7\/t.op=8 then((HY t.s).2&&t.many==1,{ FC t with s:=t.s})
 else(false,FC t)
def NA(t:Tm):Bool:=(IJ t).1&&decide (t=(IJ t).2)
end Go.Eng
namespace Go.Proofs.YtmjpjbmeamnfpaaGreatDoor
open Go.Eng
abbrev NB(t:Tm):List XV:=[I t.op,I t.many,.v (str t.name),.v (str t.s),I t.n,I t.c.kind,I t.c.many,.v (str t.c.name),.v (str t.c.s),.v (.bool t.c.neg),I t.c.e]
abbrev tyV(t:Tm):Value:=.agg #[i64 t.op,i64 t.many,str t.name,str t.s,i64 t.n,i64 t.c.kind,i64 t.c.many,str t.c.name,str t.c.s,.bool t.c.neg,i64 t.c.e]
abbrev S2(t:Tm):XV:=.ag [I t.op,I t.many,.v (str t.name),.v (str t.s),I t.n,I t.c.kind,I t.c.many,.v (str t.c.name),.v (str t.c.s),.v (.bool t.c.neg),I t.c.e]
theorem AD9(t:Tm)(w:World)(M:Mem)(hM:Sat w M)(hg:Gl w)(ht:t.small):Calls Tryz.prog 256 [tyV t].toArray w λ e w'=>e= .returned (.bool (NA t))/\Ext w w':=by
 obtain⟨hn1,hs1,hc1⟩:=ht
 refine B3 (Hr:=[]) AX Tryz.func256 U Tryz.ntmps256 [] [] [S2 t] U (St.start hM) AA (λ B hB=>?_) U
 refine F6 1 U (A0 U) (by omega) U U (A0 U) λ b1=>?_
 refine CL 3 U (A0 U) (by omega) Tryz.zeroValue48 U λ b3=>?_
 refine HH 1 (λ s=> ∃(ok:Bool) (y:Tm),IJ t=(ok,y)/\s=⟨[],[(1,.box b1 (NB t) 48),(3,.box b3 (NB y) 48)],[Z 1 (.bx 1 b1 0),Z 3 (.bx 3 b3 0),Z 4 (.v (.bool ok))]⟩) U (A0 U) (by omega) U (λ h0=>?_) (λ h0=>?_) ?_
 ·simp only[zb]at h0
  exact BF _ U (A0 U) (by omega) U ⟨_,FC t,by unfold IJ;rw[if_pos h0],rfl⟩
 ·simp only[zb]at h0
  refine AB U (A0 U) (by omega) (λ h1=>?_) (λ h1=>?_)<;>simp only[zb]at h1
  ·exact BF _ U (A0 U) (by omega) U ⟨_,{ FC t with n:=t.n},by unfold IJ;rw[if_neg h0,if_pos h1],rfl⟩
  refine AB U (A0 U) (by omega) (λ h9=>?_) (λ h9=>?_)<;>simp only[zb]at h9
  ·refine KN [5,7] 3 (λ _ _ _ _ _ h=>h) U (A0 U) (by omega) EV (by decide+kernel) ?_
   refine CS 5 U (A0 U) (by omega) U U ?_
   refine CE U (A0 U) (by omega) ?_
   refine CS 7 U (A0 U) (by omega) U U ?_
   refine CE U (A0 U) (by omega) ?_
   refine HQ U (A0 U) (by omega) U U ?_
   refine BE U (A0 U) (by omega) Tryz.call284 U U (A0 U) (λ _ w M hX=>AC2 t.n t.c w M hX.st.sat (hg.low hX.st.low) hc1) U ?_
   exact BF _ U (A0 U) (by omega) U ⟨_,{ FC t with n:=t.n,c:=t.c},by unfold IJ;rw[if_neg h0,if_neg h1,if_pos h9],rfl⟩
  refine AB U (A0 U) (by omega) (λ h2=>?_) (λ h2=>?_)<;>simp only[zb]at h2
  ·exact BF _ U (A0 U) (by omega) U ⟨_,{ FC t with n:=t.n},by unfold IJ;rw[if_neg h0,if_neg h1,if_neg h9,if_pos h2],rfl⟩
  refine AB U (A0 U) (by omega) (λ h4=>?_) (λ h4=>?_)<;>simp only[zb]at h4
  ·exact BF _ U (A0 U) (by omega) U ⟨_,FC t,by unfold IJ;rw[if_neg h0,if_neg h1,if_neg h9,if_neg h2,if_pos h4],rfl⟩
  refine HH 0 (λ s=> ∃b:Bool,(b=true↔(t.op=3\/t.op=5\/t.op=6))/\s=⟨[],[(1,.box b1 (NB t) 48),(3,.box b3 (NB (FC t)) 48)],[Z 1 (.bx 1 b1 0),Z 3 (.bx 3 b3 0),Z 4 (.v (.bool false)),Z 15 (I t.op),Z 81 (.v (.bool b))]⟩) U (A0 U) (by omega) U (λ h3=>?_) (λ h3=>?_) ?_
  ·exact BF _ U (A0 U) (by omega) U ⟨_,by simp only[zb]at h3 ⊢;omega,rfl⟩
  ·refine AB U (A0 U) (by omega) (λ h5=>?_) (λ h5=>?_)
   ·exact BF _ U (A0 U) (by omega) U ⟨_,by simp only[zb]at h5 ⊢;omega,rfl⟩
   ·exact BF _ U (A0 U) (by omega) U ⟨_,by simp only[zb]at h3 h5 ⊢;omega,rfl⟩
  rintro _ ⟨b,hbk,rfl⟩
  refine AB U (A0 U) (by omega) (λ hf=>?_) (λ hf=>?_)
  ·exact BF _ U (A0 U) (by omega) U ⟨_,FC t,by unfold IJ;rw[if_neg h0,if_neg h1,if_neg h9,if_neg h2,if_neg h4,if_pos (hbk.1 hf)],rfl⟩
  have h356: ¬(t.op=3\/t.op=5\/t.op=6):=λ e=>by have:=hbk.2 e;rw[hf]at this;cases this
  clear hbk hf
  refine HH 0 (λ s=> ∃b:Bool,(b=true↔(t.op=7\/t.op=8))/\s=⟨[],[(1,.box b1 (NB t) 48),(3,.box b3 (NB (FC t)) 48)],[Z 1 (.bx 1 b1 0),Z 3 (.bx 3 b3 0),Z 4 (.v (.bool false)),Z 88 (.v (.bool b))]⟩) U (A0 U) (by omega) U (λ h3=>?_) (λ h3=>?_) ?_
  ·exact BF _ U (A0 U) (by omega) U ⟨_,by simp only[zb]at h3 ⊢;omega,rfl⟩
  ·exact BF _ U (A0 U) (by omega) U ⟨_,by simp only[zb]at h3 ⊢;omega,rfl⟩
  rintro _ ⟨b,hbk,rfl⟩
  refine AB U (A0 U) (by omega) (λ hf=>?_) (λ hf=>?_)
  ·refine B9 [] (λ u:Value=>.tu [.sl 6 u,.v (.bool (HY t.s).2)]) [6] (λ _=>[]) (Fg:=λ u=>[(1,kn u 3 (HY t.s).1 Sp.cells)]) U (A0 U) (by omega) U Tryz.call258 U U (A0 U) U (λ w M hS hF=>kV t.s hS hg (by omega)) (λ _=>rfl) (λ _=>rfl) λ u _=>?_
   exact BF _ U (A0 U) (by omega) U ⟨_,{ FC t with s:=t.s},by unfold IJ;rw[if_neg h0,if_neg h1,if_neg h9,if_neg h2,if_neg h4,if_neg h356,if_pos (hbk.1 hf)],rfl⟩
  have h78: ¬(t.op=7\/t.op=8):=λ e=>by have:=hbk.2 e;rw[hf]at this;cases this
  exact BF _ U (A0 U) (by omega) U ⟨_,FC t,by unfold IJ;rw[if_neg h0,if_neg h1,if_neg h9,if_neg h2,if_neg h4,if_neg h356,if_neg h78],rfl⟩
 rintro _ ⟨ok,y,hok,rfl⟩
 refine DT (.v (.bool (decide (t=y)))) U (A0 U) (by omega) U (λ w M hX=>PV.bin (AT (v:=S2 t) U (A0 U)) (AT (v:=S2 y) U (A0 U)) (λ _ w _=>AA3 _ _ _ _ w)) ?_
 refine AH hB U U (A0 U) (by omega) U (A0 U) λ w M hX=>⟨?_,hX.st.low⟩
 unfold NA;rw[hok];rfl
end Go.Proofs.YtmjpjbmeamnfpaaGreatDoor
set_option maxRecDepth 100000
namespace Go.Eng
def VG(t:Tm):List Tf->Bool
 |[x]=>if t.op=7\/t.op=8 then(DM (HY t.s).1 x).2 else true
 |_=>if t.op=7\/t.op=8 then false else true
def S3(o:Int)(n:A1):List Tf->Bool
 |[]=>true
 |y::_=> !(decide (o=2)&&decide (y.t.name<=n))
mutual
def DY:Tf->Bool
 | .mk t ps=>NA { t with many:=len ps}&&FD t.op ps&&VG t ps
def FD(o:Int):List Tf->Bool
 |[]=>true
 |x::l=>(decide (x.t.op=9)==decide (o=1))&&(decide (o=2)||decide (x.t.name=[]))&&Lib.validD x.t.name&&DY x&&S3 o x.t.name l&&FD o l
end
def DC(t:Tf):Bool:=DY t&&decide (t.t.name=[])&&decide (t.t.op≠9)
theorem AE0(u:Tf):DY u=(NA { u.t with many:=len u.ps}&&FD u.t.op u.ps&&VG u.t u.ps):=by cases u;rw[DY];rfl
theorem DK.skip {f:Fl}{i:Int}{u:Tf}{us:List Tf}{R:Fl}(h:DK f i (u::us) R):DK f (i+len u.flat) us R:=by
 have h0:=h.1
 have hl:=A8 u.flat
 refine⟨by omega,?_⟩
 rw[show(i+len u.flat).toNat=i.toNat+u.flat.length by unfold len at*;omega,<-List.drop_drop,h.2]
 show(u.flat++AL us++R).drop _=_
 rw[List.append_assoc,List.drop_left]
theorem DK.AE1 {f:Fl}{i:Int}{u:Tf}{us:List Tf}{R:Fl}(h:DK f i (u::us) R):Eng.sub f i (i+len u.flat)=u.flat:=by
 have h0:=h.1
 have hl:=A8 u.flat
 unfold Eng.sub
 rw[h.2,show(i+len u.flat).toNat-i.toNat=u.flat.length by unfold len at*;omega]
 show(u.flat++AL us++R).take _=_
 rw[List.append_assoc,List.take_left]
theorem drop_cons{us:List Tf}{k:Nat}(hk:k<us.length):us.drop k=at' us (k:Int)::us.drop (k+1):=by
 obtain⟨h1,h2⟩:=G7 us (i:=(k:Int)) (by omega) (by unfold len;omega)
 rw[h2,List.drop_eq_getElem_cons hk];simp
theorem leS{a b:A1}(h:Op.bytesLess a b=true\/a=b):a<=b:=by
 rcases h with h|h
 ·rw[Go.Proofs.bytesLess_eq,decide_eq_true_eq]at h;exact List.le_of_lt h
 ·rw[h];exact List.le_refl _
theorem AE3{a b:A1}(h1:Op.bytesLess a b=false)(h2: ¬a=b): ¬a<=b:=λ h=>by
 rw[Go.Proofs.bytesLess_eq,decide_eq_false_iff_not]at h1
 exact h2 (List.le_antisymm h (List.not_lt.1 h1))
theorem AE4{t:Tm}(h:NA t=true)(ho:t.op=7\/t.op=8):t.many=1:=by
 unfold NA IJ at h
 rw[if_neg (by omega),if_neg (by omega),if_neg (by omega),if_neg (by omega),if_neg (by omega),if_neg (by omega),if_pos ho]at h
 simp only[Bool.and_eq_true,beq_iff_eq]at h
 exact h.1.2
theorem AE5{o:Int}{x:Tf}{l:List Tf}(h: ¬(x.t.op==9)=(o==1)):FD o (x::l)=false:=by
 rw[FD]
 have e:(decide (x.t.op=9)==decide (o=1))=false:=by
  rw[beq_eq_false_iff_ne];intro q;exact h q
 rw[e];rfl
theorem AE6{o:Int}{x:Tf}{l:List Tf}(h:(¬o=2/\ ¬x.t.name=[])\/Lib.validD x.t.name=false):FD o (x::l)=false:=by
 rw[FD]
 rcases h with⟨h1,h2⟩|h
 ·have e1:decide (o=2)=false:=by simpa using h1
  have e2:decide (x.t.name=[])=false:=by simpa using h2
  rw[e1,e2];simp
 ·rw[h];simp
theorem AE7{o:Int}{x:Tf}{l:List Tf}(h:DY x=false):FD o (x::l)=false:=by rw[FD,h];simp
theorem AE8{o:Int}{x y:Tf}{l:List Tf}(h:o=2)(h2:y.t.name<=x.t.name):FD o (x::y::l)=false:=by
 rw[FD]
 have e:S3 o x.t.name (y::l)=false:=by unfold S3;simp[h,h2]
 rw[e];simp
theorem AE9{o:Int}{x:Tf}{l:List Tf}(h1:(x.t.op==9)=(o==1))(h2:o=2\/x.t.name=[])(h3:Lib.validD x.t.name=true)(h4:DY x=true)(h5:S3 o x.t.name l=true):FD o (x::l)=FD o l:=by
 conv=>lhs;rw[FD]
 have e1:(decide (x.t.op=9)==decide (o=1))=true:=by rw[beq_iff_eq];exact h1
 have e2:(decide (o=2)||decide (x.t.name=[]))=true:=by simpa using h2
 rw[e1,e2,h3,h4,h5];simp
end Go.Eng
namespace Go.Proofs.YtmjpjbmeamnfpaaGreatDoor
open Go.Eng
theorem AF0: ∀(n:Nat) (u:Tf),u.flat.length<=n-> ∀ {w0 wv:World} {M0 M:Mem} {Rs:List HO} (v:Value) (f:Fl) (i:Int) (us:List Tf) (R:Fl),St w0 M0 wv M Rs->Gl w0->(BS v f).ok M->DK f i (u::us) R->i<=len f->ED f->len f<=1099511627776->
    Calls Tryz.prog 225 [v,i64 i].toArray wv (CX w0 M0 M Rs (λ _:Unit=>.tuple #[i64 (if DY u=true then i+len u.flat else 0),.bool (DY u)]) (λ _=>True) (λ _=>[]) λ _=>[]):=by
 intro n
 induction n with
 |zero=>intro u hu;have:=u.G3;unfold len at this;omega
 |succ n ih=>
 intro u hun w0 wv M0 M Rs v f i us R hS hg hl hat hif hsm hb
 obtain⟨hi1,hq,hat1⟩:=hat.step
 have hi0:=hat.1
 have hln:len u.ps=(u.ps.length:Int):=rfl
 have hule:=hat.LQ hif
 have hfu:AL (u::us)=u.flat++AL us:=rfl
 rw[hfu,AG]at hule
 have hR0:=A8 R
 have hus0:=A8 (AL us)
 have hpg:=UE u.ps
 have hul:len u.flat=1+len (AL u.ps):=by rw[Tf.IA,AK];omega
 have hqm:(at' f i).many=len u.ps:=by rw[hq]
 have hqo:(at' f i).op=u.t.op:=by rw[hq]
 have hqs:(at' f i).s=u.t.s:=by rw[hq]
 have hsq:(at' f i).small:=hsm _ (SU hi0 hi1)
 have hwt:DY u=(NA (at' f i)&&FD u.t.op u.ps&&VG u.t u.ps):=by rw[hq,AE0]
 refine B3 (Hr:=Rs) AX Tryz.func225 U Tryz.ntmps225 [(0,BS v f)] [] [.sl 0 v,I i] U hS (C0 hl AA) (λ B hB=>?_) U
 refine BE U (A0 U) (by omega) Tryz.call256 U U (A0 U) (λ _ w M hX=>AD9 (at' f i) w M hX.st.sat (hg.low hX.st.low) hsq) U ?_
 refine AB U (A0 U) (by simp only[zb]<;>omega) (λ hb1=>?_) (λ hb1=>?_)<;>simp only[zb]at hb1
 ·refine AH hB U U (A0 U) (by omega) U (A0 U) λ w M' hX=>⟨(),M',?_,trivial,hX.le,hX.C5 [] U,AA⟩
  have e:DY u=false:=by
   rw[hwt]
   rcases hb1 with(h|h)|h
   · omega
   · rw[h];rfl
   · omega
  rw[e];rfl
 have hpl:=hb1.1.2
 rw[hpl,Bool.true_and]at hwt
 refine CL 6 U (A0 U) (by omega) Tryz.zeroValue48 U λ b6=>?_
 refine EA (σ:=Int×Nat) (λ(j,k)=>⟨[(0,BS v f)],[(6,.box b6 (NB (at' f i)) 48)],[Z 0 (.sl 0 v),Z 1 (I j),Z 6 (.bx 6 b6 0),Z 7 (I i),Z 46 (I (at' f i).many),Z 47 (I k)]⟩) (λ(j,k)=>DK f j (u.ps.drop k++us) R/\k<=u.ps.length/\j<=len f/\FD u.t.op u.ps=FD u.t.op (u.ps.drop k)) (λ(j,k)=>u.ps.length-k) (i+1,0) U (A0 U) (by simp only[zb]<;>omega) U ⟨hat1,Nat.zero_le _,by omega,rfl⟩ ?_
 rintro⟨j,k⟩ ⟨hj,hk,hjl,hkk⟩
 have hj0:=hj.1
 refine AB U (A0 U) (by simp only[zb]<;>omega) (λ hb2=>?_) (λ hb2=>?_)<;>simp only[zb]at hb2
 ·have hk2:k<u.ps.length:=by omega
  have hdc:=drop_cons hk2
  rw[hdc]at hj hkk
  obtain⟨x,hx⟩: ∃x,x=at' u.ps (k:Int):=⟨_,rfl⟩
  rw[<-hx]at hj hkk hdc
  have hj':DK f j (x::(u.ps.drop (k+1)++us)) R:=hj
  obtain⟨hj1,hjq,_⟩:=hj'.step
  have hjn:(at' f j).name=x.t.name:=by rw[hjq]
  have hjo:(at' f j).op=x.t.op:=by rw[hjq]
  have hsx:(at' f j).small:=hsm _ (SU hj0 hj1)
  refine LC U (A0 U) (by omega) EV (by decide+kernel) ?_
  refine LD U (A0 U) (by simp only[zb]<;>omega) ?_
  refine AB U (A0 U) (by simp only[zb]<;>omega) (λ hb3=>?_) (λ hb3=>?_)<;>simp only[zb]at hb3
  ·refine AH hB U U (A0 U) (by omega) U (A0 U) λ w M' hX=>⟨(),M',?_,trivial,hX.le,hX.st.drop _ (List.sublist_append_right [_] _),AA⟩
   have e:DY u=false:=by
    rw[hwt,hkk,AE5 (by rw[hjo,hqo]at hb3;exact hb3.resolve_left (by omega))];rfl
   rw[e];rfl
  have h1:=hb3.2
  rw[hjo,hqo]at h1
  refine BE U (A0 U) (by omega) Tryz.call257 U U (A0 U) (λ _ w M hX=>kS (at' f j).name w (hg.low hX.st.low) (by have:=hsx.name;omega)) U ?_
  refine AB U (A0 U) (by omega) (λ hb4=>?_) (λ hb4=>?_)<;>simp only[zb]at hb4
  ·refine AH hB U U (A0 U) (by omega) U (A0 U) λ w M' hX=>⟨(),M',?_,trivial,hX.le,hX.st.drop _ (List.sublist_append_right [_] _),AA⟩
   have e:DY u=false:=by
    rw[hwt,hkk,AE6 (by rw[hjn,hqo]at hb4;exact hb4)];rfl
   rw[e];rfl
  rw[hjn,hqo]at hb4
  have hxm:x∈u.ps:=by rw[hx];exact SU (by omega) (by omega)
  have hxl:=fA hxm
  have hxp:=x.G3
  obtain⟨z,hz⟩: ∃z,z=if DY x=true then j+len x.flat else 0:=⟨_,rfl⟩
  have hz0:0<=z:=by rw[hz];split<;>omega
  refine B9 [] (λ _:Unit=>.tu [I z,.v (.bool (DY x))]) [] (λ _=>[]) (Fg:=λ _=>[]) (pu:=λ _=>True) U (A0 U) (by omega) U Tryz.call225 U U (A0 U) U (λ w M hS hF=>by rw[hz];exact ih x (by unfold len at*;omega) v f j (u.ps.drop (k+1)++us) R hS hg (hF.get (k:=0) U) hj' (by omega) hsm hb) (λ _=>rfl) (λ _=>rfl) λ _ _=>?_
  have hjs:=hj'.skip
  have hjs2:=hj'.LQ (by omega)
  have hfx:AL (x::(u.ps.drop (k+1)++us))=x.flat++AL (u.ps.drop (k+1)++us):=rfl
  rw[hfx,AG]at hjs2
  have hfn:=A8 (AL (u.ps.drop (k+1)++us))
  refine AB U (A0 U) (by simp only[zb]<;>omega) (λ hb5=>?_) (λ hb5=>?_)<;>simp only[zb]at hb5
  ·refine AH hB U U (A0 U) (by simp only[zb]<;>omega) U (A0 U) λ w M' hX=>⟨(),M',?_,trivial,hX.le,hX.st.drop _ (List.sublist_append_right [_] _),AA⟩
   have e:DY u=false:=by
    cases hwx:DY x with
    |false=>rw[hwt,hkk,AE7 hwx];rfl
    |true=>
     rw[hwx,if_pos U]at hz
     rcases hb5 with h|⟨⟨h2,h3⟩,h4⟩
     · rw[hwx]at h;cases h
     · have hk3:k+1<u.ps.length:=by omega
       have hd2:=drop_cons hk3
       rw[hd2]at hjs
       have hs3:=hjs.step
       rw[<-hz]at hs3
       have hle:(at' u.ps ((k+1:Nat):Int)).t.name<=x.t.name:=by
        rcases h4 with h|h
        · omega
        · rw[hs3.2.1,hjn]at h;exact leS h
       rw[hwt,hkk,hd2,AE8 (by rw[<-hqo];exact h2) hle];rfl
   rw[e];rfl
  ·have hwx:DY x=true:=hb5.1
   rw[hwx,if_pos U]at hz
   refine DO (z,k+1) U (A0 U) (by simp only[zb]<;>omega) U ⟨by rw[hz];exact hjs,hk2,by omega,?_⟩ (by show u.ps.length-(k+1)<u.ps.length-k;omega)
   rw[hkk]
   refine AE9 h1 (by rcases Decidable.em (u.t.op=2)with h|h;exact .inl h;exact .inr (Decidable.byContradiction λ q=>(hb4.1.resolve_left h)|>λ r=>q r)) hb4.2 hwx ?_
   cases hd:u.ps.drop (k+1)with
   |nil=>rfl
   |cons y l=>
    have hk3:k+1<u.ps.length:=by
     rcases Nat.lt_or_ge (k+1) u.ps.length with h|h
     · exact h
     · rw[List.drop_of_length_le h]at hd;cases hd
    rw[hd]at hjs
    have hs3:=hjs.step
    rw[<-hz]at hs3
    have hy:y=at' u.ps ((k+1:Nat):Int):=by rw[drop_cons hk3]at hd;exact(List.cons.inj hd).1.symm
    unfold S3
    rcases hb5.2 with h|⟨_,h4,h5⟩
    · rcases h with h|h
      · rw[hqo]at h;simp[h]
      · omega
    · rw[hs3.2.1,hjn]at h4 h5
      have:=AE3 h4 h5
      simp only[Bool.not_eq_true',Bool.and_eq_false_iff,decide_eq_false_iff_not]
      exact .inr this
 ·have hke:k=u.ps.length:=by omega
  subst hke
  rw[List.drop_length]at hj hkk
  have hj3:DK f j us R:=hj
  have hjl2:=hj3.LQ hjl
  have hje:j=i+len u.flat:=by omega
  have hkt:FD u.t.op u.ps=true:=by rw[hkk];rfl
  rw[hkt,Bool.true_and]at hwt
  refine AB U (A0 U) (by simp only[zb]<;>omega) (λ hb6=>?_) (λ hb6=>?_)<;>simp only[zb]at hb6
  ·rw[hqo]at hb6
   have hm1:=AE4 hpl (by rw[hqo];exact hb6)
   obtain⟨x,hx⟩: ∃x,u.ps=[x]:=by
    match hps:u.ps,hqm with
    |[],h=>rw[h]at hm1;cases hm1
    |[x],_=>exact⟨x,rfl⟩
    |_::_::l,h=>rw[h]at hm1;simp only[AK]at hm1;have:=A8 l;omega
   have hul2:len u.flat=1+len x.flat:=by rw[hul,hx];show 1+len (x.flat++AL [])=_;simp[AL]
   rw[hx]at hat1
   have hat2:DK f (i+1) (x::us) R:=hat1
   have hsub:=hat2.AE1
   rw[show i+1+len x.flat=j by omega]at hsub
   have hxl:=A8 x.flat
   have hrl:=kU (at' f i).s
   refine B9 [] (λ u:Value=>.tu [.sl 9 u,.v (.bool (HY (at' f i).s).2)]) [9] (λ _=>[]) (Fg:=λ u=>[(1,kn u 3 (HY (at' f i).s).1 Sp.cells)]) U (A0 U) (by omega) U Tryz.call258 U U (A0 U) U (λ w M hS hF=>kV (at' f i).s hS hg (by have:=hsq.s;omega)) (λ _=>rfl) (λ _=>rfl) λ u9 _=>?_
   refine MK (gd:=none) 8 (i+1) j U (A0 U) (by omega) U (A0 U) U ⟨.i64,_,rfl,A0 U⟩ ⟨.i64,_,rfl,A0 U⟩ Tryz.underlying36 Tryz.sizeOf48 (by omega) U U λ v8=>?_
   rw[hsub]
   refine B9 [] (λ _:Unit=>.tu [I (DM (HY (at' f i).s).1 x).1,.v (.bool (DM (HY (at' f i).s).1 x).2)]) [] (λ _=>[]) (Fg:=λ _=>[]) (pu:=λ _=>True) U (A0 U) (by omega) U Tryz.call259 U U (A0 U) U (λ w M hS hF=>AD7 (HY (at' f i).s).1 v8 u9 x hS (hF.get (k:=8) U) (hF.get (k:=9) U) (by omega) (by show len (H8 (at' f i).s).1<=_;omega)) (λ _=>rfl) (λ _=>rfl) λ _ _=>?_
   have hwl:DY u=(DM (HY (at' f i).s).1 x).2:=by
    rw[hwt,hx,hqs]
    show(if u.t.op=7\/u.t.op=8 then(DM (HY u.t.s).1 x).2 else true)=_
    rw[if_pos hb6]
   refine AB U (A0 U) (by omega) (λ hb7=>?_) (λ hb7=>?_)<;>simp only[zb]at hb7
   ·refine AH hB U U (A0 U) (by omega) U (A0 U) λ w M' hX=>⟨(),M',?_,trivial,hX.le,hX.st.drop _ (List.sublist_append_right [_] _),AA⟩
    rw[hwl,hb7];rfl
   ·refine AH hB U U (A0 U) (by omega) U (A0 U) λ w M' hX=>⟨(),M',?_,trivial,hX.le,hX.st.drop _ (List.sublist_append_right [_] _),AA⟩
    rw[hwl,hb7,if_pos U,<-hje];rfl
  ·refine AH hB U U (A0 U) (by omega) U (A0 U) λ w M' hX=>⟨(),M',?_,trivial,hX.le,hX.st.drop _ (List.sublist_append_right [_] _),AA⟩
   have e:DY u=true:=by
    rw[hwt]
    rw[hqo]at hb6
    unfold VG
    split
    · rw[if_neg (by omega)]
    · rw[if_neg (by omega)]
   rw[e,if_pos U,<-hje];rfl
theorem AF1{w:World}{M:Mem}(v:Value)(x:Tf)(hM:Sat w M)(hg:Gl w)(hl:Sl M 11 x.flat.length v (x.flat.flatMap Tm.cells))(hb:len x.flat<=1048577)(hsm:ED x.flat):
   Calls Tryz.prog 176 [v].toArray w λ e w'=>e= .returned (.bool (DC x))/\Ext w w':=by
 have hpos:=x.G3
 have hat:DK x.flat 0 [x] []:=⟨by omega,by show x.flat=(x.flat++AL [])++[];simp[AL]⟩
 have hq:=x.UD
 refine B3 (Hr:=[]) AX Tryz.func176 U Tryz.ntmps176 [(0,BS v x.flat)] [] [.sl 0 v] U (St.start hM) (C0 ⟨hl,Tm.BZ,trivial⟩ AA) (λ B hB=>?_) U
 refine B9 [] (λ _:Unit=>.tu [I (if DY x=true then 0+len x.flat else 0),.v (.bool (DY x))]) [] (λ _=>[]) (Fg:=λ _=>[]) (pu:=λ _=>True) U (A0 U) (by omega) U Tryz.call225 U U (A0 U) U (λ w M hS hF=>AF0 _ x (Nat.le_refl _) v x.flat 0 [] [] hS hg (hF.get (k:=0) U) hat (by omega) hsm (by omega)) (λ _=>rfl) (λ _=>rfl) λ _ _=>?_
 refine AH hB U U (A0 U) (by simp only[zb]<;>omega) U (A0 U) λ w M hX=>⟨?_,hX.st.low⟩
 suffices e:DC x=(DY x&&(if DY x=true then 0+len x.flat else 0)==len x.flat&&(at' x.flat 0).name==[]&&(at' x.flat 0).op != 9) by rw[e];rfl
 unfold DC
 rw[hq]
 cases h:DY x with
 |false=>rfl
 |true=>
  rw[if_pos U,Int.zero_add]
  simp only[Bool.true_and,beq_self_eq_true]
  congr 1
  ·rw[Bool.eq_iff_iff,beq_iff_eq];simp
  ·rw[Bool.eq_iff_iff,bne_iff_ne];simp
theorem IK:KR DC:=λ v x hM hg hl hb hsm=>AF1 v x hM hg hl hb hsm
end Go.Proofs.YtmjpjbmeamnfpaaGreatDoor
namespace Go.Eng
open Go.RowKit
def At(s:A1)(i:Int)(u:A1):Prop:=0<=i/\i<=len s/\A3 s i=u
theorem At.add {s:A1}{i:Int}{u r:A1}(h:At s i (u++r)):At s (i+len u) r:=by
 obtain⟨h0,h1,h2⟩:=h
 have hl:=CN s i h0 h1
 rw[h2,AG]at hl
 have h3:=A8 u;have h4:=A8 r
 refine⟨by omega,by omega,?_⟩
 rw[<-MT s i (len u) h0 h3,h2]
 unfold A3 len;simp
theorem At.one {s:A1}{i:Int}{c:UInt8}{r:A1}(h:At s i (c::r)):At s (i+1) r:=At.add (u:=[c]) h
theorem At.lt {s:A1}{i:Int}{c:UInt8}{r:A1}(h:At s i (c::r)):i<len s:=by
 have hl:=CN s i h.1 h.2.1
 rw[h.2.2,AK]at hl
 have:=A8 r;omega
theorem At.byte {s:A1}{i:Int}{c:UInt8}{r:A1}(h:At s i (c::r)):A2 s i=(c.toNat:Int):=by
 obtain⟨b,h1,h2⟩:=MO s i h.1 h.lt
 rw[h.2.2]at h1
 rw[h2,(List.cons.inj h1).1]
def S4(r:A1):Prop:= ∀c r',r=c::r'->FY c=false
theorem At.blank {s:A1}{i:Int}{b r:A1}(h:At s i (b++r))(hb: ∀c∈b,FY c=true)(hr:S4 r):AV s i=i+len b:=by
 unfold AV
 rw[h.2.2]
 have:(b++r).takeWhile FY=b:=by
  induction b with
  |nil=>
   cases r with
   |nil=>rfl
   |cons c r=>rw[List.nil_append,List.takeWhile_cons,hr c r U];rfl
  |cons a b ih=>
   rw[List.cons_append,List.takeWhile_cons,hb a List.mem_cons_self]
   show a::_=_
   have key: ∀(b r:A1),(∀c∈b,FY c=true)->S4 r->(b++r).takeWhile FY=b:=by
    intro b
    induction b with
    |nil=>intro r _ hr;cases r with|nil=>rfl|cons c r=>rw[List.nil_append,List.takeWhile_cons,hr c r rfl];rfl
    |cons a b ih2=>intro r hb2 hr;rw[List.cons_append,List.takeWhile_cons,hb2 a List.mem_cons_self,if_pos rfl,ih2 r (λ c hc=>hb2 c (List.mem_cons_of_mem _ hc)) hr]
   rw[key b r (λ c hc=>hb c (List.mem_cons_of_mem _ hc)) hr]
 rw[this]
theorem At.l6 {s:A1}{i:Int}{r:A1}(h:At s i r)(hr:S4 r):AV s i=i:=by
 have:=At.blank (b:=[]) h (λ c hc=>by cases hc) hr
 rw[len_nil]at this;omega
end Go.Eng
namespace Go.Eng
open Go.RowKit
def AE(m:A1)(i:Int):Tk:=⟨1,m,AY,i⟩
def EK(m:A1)(i:Int):Tk:=⟨2,m,AY,i⟩
def VH(r:A1):Prop:= ∀c r',r=c::r'->FY c=false/\BN (c.toNat:Int) false=false/\c≠34
theorem VH.stop {r:A1}(h:VH r):S4 r:=λ c r' e=>(h c r' e).1
theorem IL{c:UInt8}(hc:c∈([40,41,91,93,123,125,58,44,124]:A1))(u:A1):A7 (c::u)=(⟨1,[c],AY,0⟩,1,0):=by
 have key: ∀c∈([40,41,91,93,123,125,58,44,124]:A1),(c.toNat:Int)≠46/\BK (c::u)=[c]:=by
  intro c hc
  simp only[List.mem_cons,List.not_mem_nil,or_false]at hc
  rcases hc with rfl|rfl|rfl|rfl|rfl|rfl|rfl|rfl|rfl<;>exact⟨by decide,rfl⟩
 obtain⟨h1,h2⟩:=key c hc
 unfold A7
 rw[FN,if_neg (λ h=>h1 h.1),if_neg (λ h=>h1 h.1),h2,if_pos (by simp)]
 rfl
theorem AF2{u:A1}(h: ∀c r,u=c::r->E4 (c.toNat:Int)=false):B1 u=[]:=by
 cases u with
 |nil=>exact KU (by rw[yW];decide)
 |cons c r=>exact KU (by rw[FN];exact h c r U)
theorem AF3{u:A1}(hu:VH u):A7 (46::u)=(⟨1,[46],AY,0⟩,1,0):=by
 have hw:B1 u=[]:=AF2 λ c r e=>by
  have:=(hu c r e).2.1
  unfold BN at this
  simp only[Bool.or_eq_false_iff]at this;exact this.1
 have hq:Lib.hasPrefix u [34]=false:=by
  cases u with
  |nil=>rfl
  |cons c r=>
   have:=(hu c r U).2.2
   unfold Lib.hasPrefix
   simp[List.isPrefixOf,Ne.symm this]
 have hm:BK (46::u)=[46]:=rfl
 unfold A7
 rw[FN,jW,if_neg (λ h=>h.2 hw),if_neg (λ h=>by rw[hq]at h;exact absurd h.2 (by decide)),hm,if_pos (by simp)]
 rfl
theorem AF4{w u:A1}(hw:w≠[])(h0: ∀j:Int,0<=j->j<len w->BN (A2 w j) (j==0)=true)(hu: ∀c r,u=c::r->BN (c.toNat:Int) false=false):B1 (w++u)=w:=by
 have hl:=JG hw
 have hlu:=A8 u
 have e:CC (w++u) 0=len w:=by
  refine ZR (n:=len w) (by rw[AG];omega) (λ j h1 h2=>by rw[KT h1 h2];exact h0 j h1 h2) (λ h=>?_) 0 (Int.le_refl _) (by omega)
  rw[yV (Int.le_refl _),Int.sub_self]
  cases u with
  |nil=>rw[AG,len_nil]at h;omega
  |cons c r=>rw[FN];rw[show(len w==0)=false from by simpa using(by omega:len w≠0)];exact hu c r U
 unfold B1
 rw[e,UZ]
theorem aE{c:UInt8}{w u:A1}(h0: ∀j:Int,0<=j->j<len (c::w)->BN (A2 (c::w) j) (j==0)=true)(hu: ∀c r,u=c::r->BN (c.toNat:Int) false=false):A7 (c::w++u)=(⟨2,c::w,AY,0⟩,len (c::w),0):=by
 have hw:=AF4 (u:=u) (List.cons_ne_nil c w) h0 hu
 have hl:E4 (c.toNat:Int)=true:=by
  have:=h0 0 (Int.le_refl _) (by rw[AK];have:=A8 w;omega)
  rw[FN]at this
  unfold BN at this;simpa using this
 have hb:=jU hl
 have hm:BK (c::(w++u))=[]:=V2 hb
 have h46: ¬(c.toNat:Int)=46:=by
  intro e
  have:c=46:=UInt8.toNat_inj.1 (by rw[show(46:UInt8).toNat=46 from rfl];omega)
  subst this;exact absurd hb (by decide)
 unfold A7
 rw[List.cons_append,FN,if_neg (λ h=>h46 h.1),if_neg (λ h=>h46 h.1),hm,if_neg (by simp)]
 rw[<-List.cons_append,hw,if_pos (by simp)]
theorem Lx.at {s:A1}{i:Int}{u r:A1}{t:Tk}{l:List Tk}(h:At s i (u++r))(hu:u≠[])(ht:A7 (u++r)=(t,len u,0))(hl:Lx s (AV s (i+len u)) l):Lx s i ({ t with pos:=i}::l):=by
 have h1:=(At.add h).2.1
 have h2:=JG hu
 have h3:=h.1
 refine .step (n:=len u) h3 (by omega) ?_ hl
 rw[h.2.2];exact ht
theorem Lx.mark {s:A1}{i:Int}{c:UInt8}{b r:A1}{l:List Tk}(h:At s i (c::(b++r)))(hc:c∈([40,41,91,93,123,125,58,44,124]:A1))(hb: ∀c∈b,FY c=true)(hr:S4 r)(hl:Lx s (i+1+len b) l):Lx s i (AE [c] i::l):=by
 have:=Lx.at (u:=[c]) (t:=⟨1,[c],AY,0⟩) h (by simp) (IL hc _) (by rw[show len [c]=1 from rfl,At.blank (At.one h) hb hr];exact hl)
 exact this
theorem Lx.dot {s:A1}{i:Int}{r:A1}{l:List Tk}(h:At s i (46::r))(hr:VH r)(hl:Lx s (i+1) l):Lx s i (AE [46] i::l):=by
 have:=Lx.at (u:=[46]) (t:=⟨1,[46],AY,0⟩) h (by simp) (AF3 hr) (by rw[show len [(46:UInt8)]=1 from rfl,At.l6 (At.one h) hr.stop];exact hl)
 exact this
end Go.Eng
namespace Go.Eng
open Go.RowKit
def TA(l:List Tk)(j:Int)(u:List Tk):Prop:=0<=j/\A3 l j=u
theorem TA.add {l:List Tk}{j:Int}{u r:List Tk}(h:TA l j (u++r)):TA l (j+len u) r:=by
 obtain⟨h0,h2⟩:=h
 have h3:=A8 u
 refine⟨by omega,?_⟩
 rw[<-MT l j (len u) h0 h3,h2]
 unfold A3 len;simp
theorem TA.one {l:List Tk}{j:Int}{t:Tk}{r:List Tk}(h:TA l j (t::r)):TA l (j+1) r:=TA.add (u:=[t]) h
theorem TA.at {l:List Tk}{j:Int}{t:Tk}{r:List Tk}(h:TA l j (t::r)):at' l j=t:=by
 obtain⟨h0,h1⟩:=h
 unfold at'
 have h2:(l.drop j.toNat)[0]? =some t:=by
  have:A3 l j=l.drop j.toNat:=rfl
  rw[<-this,h1];rfl
 rw[List.getElem?_drop,Nat.add_zero]at h2
 rw[List.getD_eq_getElem?_getD,h2];rfl
theorem TA.A9 {l:List Tk}{j:Int}{t:Tk}{r:List Tk}(h:TA l j (t::r))(m:A1):A9 l j m=(t.kind==1&&t.s==m):=by unfold Eng.A9;rw[h.at]
theorem TA.OM {l:List Tk}{j:Int}{t:Tk}{r:List Tk}(h:TA l j (t::r))(m:A1):OM l j m=(t.kind==2&&t.s==m):=by unfold Eng.OM;rw[h.at]
theorem TA.pos {l:List Tk}{j:Int}{t:Tk}{r:List Tk}(h:TA l j (t::r)):(at' l j).pos=t.pos:=by rw[h.at]
theorem TA.lt {l:List Tk}{j:Int}{t:Tk}{r:List Tk}(h:TA l j (t::r)):j<len l:=by
 obtain⟨h0,h1⟩:=h
 rcases Int.lt_or_le j (len l)with h|h
 ·exact h
 ·exfalso
  have:A3 l j=l.drop j.toNat:=rfl
  rw[this,List.drop_eq_nil_of_le (by unfold len at h;omega)]at h1;cases h1
def l7(t:Tk):Prop:=t.kind=6\/t.kind=1/\(t.s=[41]\/t.s=[93]\/t.s=[125])
theorem l7.no {t:Tk}(h:l7 t):t.kind≠3/\(t.kind==1&&t.s==[91])=false/\(t.kind==1&&t.s==[124])=false:=by
 rcases h with h|⟨h,h2⟩
 ·rw[h];exact⟨by decide,rfl,rfl⟩
 ·rw[h]
  rcases h2 with h2|h2|h2<;>rw[h2]<;>exact⟨by decide,rfl,rfl⟩
theorem VI{l:List Tk}{d i:Int}{t:Tk}{u:List Tk}{m:A1}(h:TA l i (t::u))(hk:t.kind=1)(hs:t.s=m):C9 l d i m=if 64<=d then .er 3 t.pos else .ok () (i+1):=by
 have hm:A9 l i m=true:=by rw[h.A9,hk,hs];simp
 unfold C9 AR
 rw[hm]
 by_cases hd:64<=d
 ·rw[if_pos (by simp[hd]),if_pos hd]
  unfold B8;rw[h.pos]
 ·rw[if_neg (by simp;omega),if_neg hd,if_pos U]
end Go.Eng
namespace Go.Eng
open Go.RowKit
theorem AF5(u:A1):A7 (63::u)=(⟨1,[63],AY,0⟩,1,0):=by
 have h1:(((63:UInt8).toNat:Nat):Int)≠46:=by decide
 have h2:BK (63::u)=[63]:=rfl
 unfold A7
 rw[FN,if_neg (λ h=>h1 h.1),if_neg (λ h=>h1 h.1),h2,if_pos (by simp)]
 rfl
end Go.Eng
namespace Go.Eng
open Go.RowKit
theorem NC{l:List Tk}{i p:Int}{m:A1}{u:List Tk}(h:TA l i (AE m p::u)):AR l i m= .ok () (i+1):=by
 unfold AR;rw[if_pos (by rw[h.A9];simp[AE])]
end Go.Eng
