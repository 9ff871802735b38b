/- Lemmas for the card. -/
import Derived.Test.YtnoegalemkbbbaaGreatDoorKt13
set_option linter.unusedVariables false
set_option linter.unusedSimpArgs false
set_option maxRecDepth 100000
namespace Go.Eng
open Go.RowKit
def At(s:A0)(i:Int)(u:A0):Prop:=0<=i/\i<=len s/\A5 s i=u
theorem At.add {s:A0}{i:Int}{u r:A0}(h:At s i (u++r)):At s (i+len u) r:=by
 obtain⟨h0,h1,b⟩:=h
 have hl:=ED s i h0 h1
 rw[b,AN]at hl
 have e:=A6 u;have j:=A6 r
 refine⟨Aa,Aa,?_⟩
 rw[<-KO s i (len u) h0 e,b]
 unfold A5 len;simp
theorem At.one {s:A0}{i:Int}{c:UInt8}{r:A0}(h:At s i (c::r)):At s (i+1) r:=At.add (u:=[c]) h
theorem At.lt {s:A0}{i:Int}{c:UInt8}{r:A0}(h:At s i (c::r)):i<len s:=by
 have hl:=ED s i h.1 h.2.1
 rw[h.2.2,AH]at hl
 have:=A6 r;omega
theorem At.byte {s:A0}{i:Int}{c:UInt8}{r:A0}(h:At s i (c::r)):A4 s i=(c.toNat:Int):=by
 obtain⟨b,h1,e⟩:=KL s i h.1 h.lt
 rw[h.2.2]at h1
 rw[e,(List.cons.inj h1).1]
def gU(r:A0):Prop:= ∀c r',r=c::r'->MI c=false
theorem At.blank {s:A0}{i:Int}{b r:A0}(h:At s i (b++r))(n: ∀c∈b,MI c=true)(e:gU r):E6 s i=i+len b:=by
 unfold E6
 rw[h.2.2]
 have:(b++r).takeWhile MI=b:=by
  induction b with
  |nil=>
   cases r with
   |nil=>rfl
   |cons c r=>rw[List.nil_append,List.takeWhile_cons,e c r U];rfl
  |cons a b q=>
   rw[List.cons_append,List.takeWhile_cons,n a List.mem_cons_self]
   show a::_=_
   have key: ∀(b r:A0),(∀c∈b,MI c=true)->gU r->(b++r).takeWhile MI=b:=by
    intro b
    induction b with
    |nil=>intro r _ e;cases r with|nil=>rfl|cons c r=>rw[List.nil_append,List.takeWhile_cons,e c r rfl];rfl
    |cons a b k=>intro r j e;rw[List.cons_append,List.takeWhile_cons,j a List.mem_cons_self,if_pos rfl,k r (λ c l=>j c (List.mem_cons_of_mem _ l)) e]
   rw[key b r (λ c l=>n c (List.mem_cons_of_mem _ l)) e]
 rw[this]
theorem At.BN0 {s:A0}{i:Int}{r:A0}(h:At s i r)(e:gU r):E6 s i=i:=by
 have:=At.blank (b:=[]) h (λ c j=>by cases j) e
 rw[len_nil]at this;omega
def VJ(m:A0)(i:Int):Tk:=⟨1,m,B6,i⟩
def VK(m:A0)(i:Int):Tk:=⟨2,m,B6,i⟩
theorem Ai1{c:UInt8}(b:c∈([40,41,91,93,123,125,58,44,124]:A0))(u:A0):C0 (c::u)=(⟨1,[c],B6,0⟩,1,0):=by
 have key: ∀c∈([40,41,91,93,123,125,58,44,124]:A0),(c.toNat:Int)≠46/\EU (c::u)=[c]:=by
  intro c b
  simp only[List.mem_cons,List.not_mem_nil,or_false]at b
  rcases b with rfl|rfl|rfl|rfl|rfl|rfl|rfl|rfl|rfl<;>exact⟨Ab,rfl⟩
 obtain⟨h1,e⟩:=key c b
 unfold C0
 rw[G4,if_neg (λ h=>h1 h.1),if_neg (λ h=>h1 h.1),e,if_pos (by simp)]
 rfl
theorem sR{w u:A0}(hw:w≠[])(h0: ∀j:Int,0<=j->j<len w->CJ (A4 w j) (j==0)=true)(hu: ∀c r,u=c::r->CJ (c.toNat:Int) false=false):B8 (w++u)=w:=by
 have hl:=GM hw
 have i:=A6 u
 have e:CX (w++u) 0=len w:=by
  refine QE (n:=len w) (by rw[AN];omega) (λ j h1 b=>by rw[IE h1 b];exact h0 j h1 b) (λ h=>?_) 0 (Int.le_refl _) Aa
  rw[oO (Int.le_refl _),Int.sub_self]
  cases u with
  |nil=>rw[AN,len_nil]at h;omega
  |cons c r=>rw[G4];rw[show(len w==0)=false from by simpa using(by omega:len w≠0)];exact hu c r U
 unfold B8
 rw[e,V7]
theorem Ai2{c:UInt8}{w u:A0}(h0: ∀j:Int,0<=j->j<len (c::w)->CJ (A4 (c::w) j) (j==0)=true)(hu: ∀c r,u=c::r->CJ (c.toNat:Int) false=false):C0 (c::w++u)=(⟨2,c::w,B6,0⟩,len (c::w),0):=by
 have hw:=sR (u:=u) (List.cons_ne_nil c w) h0 hu
 have hl:F7 (c.toNat:Int)=true:=by
  have:=h0 0 (Int.le_refl _) (by rw[AH];have:=A6 w;omega)
  rw[G4]at this
  unfold CJ at this;simpa using this
 have i:=eX hl
 have hm:EU (c::(w++u))=[]:=QH i
 have b: ¬(c.toNat:Int)=46:=by
  intro e
  have:c=46:=UInt8.toNat_inj.1 (by rw[show(46:UInt8).toNat=46 from rfl];omega)
  subst this;exact absurd i Ab
 unfold C0
 rw[List.cons_append,G4,if_neg (λ h=>b h.1),if_neg (λ h=>b h.1),hm,if_neg (by simp)]
 rw[<-List.cons_append,hw,if_pos (by simp)]
theorem Lx.at {s:A0}{i:Int}{u r:A0}{t:Tk}{l:List Tk}(h:At s i (u++r))(hu:u≠[])(b:C0 (u++r)=(t,len u,0))(hl:Lx s (E6 s (i+len u)) l):Lx s i ({ t with pos:=i}::l):=by
 have h1:=(At.add h).2.1
 have j:=GM hu
 have e:=h.1
 refine .step (n:=len u) e Aa ?_ hl
 rw[h.2.2];exact b
def TA(l:List Tk)(j:Int)(u:List Tk):Prop:=0<=j/\A5 l j=u
theorem TA.add {l:List Tk}{j:Int}{u r:List Tk}(h:TA l j (u++r)):TA l (j+len u) r:=by
 obtain⟨h0,b⟩:=h
 have e:=A6 u
 refine⟨Aa,?_⟩
 rw[<-KO l j (len u) h0 e,b]
 unfold A5 len;simp
theorem TA.at {l:List Tk}{j:Int}{t:Tk}{r:List Tk}(h:TA l j (t::r)):at' l j=t:=by
 obtain⟨h0,h1⟩:=h
 unfold at'
 have b:(l.drop j.toNat)[0]? =some t:=by
  have:A5 l j=l.drop j.toNat:=rfl
  rw[<-this,h1];rfl
 rw[List.getElem?_drop,Nat.add_zero]at b
 rw[List.getD_eq_getElem?_getD,b];rfl
theorem TA.CM {l:List Tk}{j:Int}{t:Tk}{r:List Tk}(h:TA l j (t::r))(m:A0):CM l j m=(t.kind==1&&t.s==m):=by unfold Eng.CM;rw[h.at]
end Go.Eng
set_option maxRecDepth 100000
namespace Go.Proofs.YtnoegalemkbbbaaGreatDoor
open Go.Proofs.Tryz
open Go.Eng
end Go.Proofs.YtnoegalemkbbbaaGreatDoor
namespace Go.Eng
def Sm{α:Type}(b:Bool)(o:Int)(r r':PR α):Prop:=
 (∀x j,r= .ok x j->r'= .ok x (j+o)\/(b=true/\ ∃p,r'= .er 3 p))/\(b=false-> ∀p,r= .er 3 p-> ∃p',r'= .er 3 p')
theorem Sm.ok {α:Type}{b:Bool}{o:Int}{x:α}{j i:Int}(h:i=j+o):Sm b o (.ok x j) (.ok x i):=
 ⟨λ y k e=>(by cases e;subst h;exact .inl rfl),λ _ p e=>(by cases e)⟩
theorem Sm.fail {α:Type}{b:Bool}{o:Int}{l:List Tk}{i:Int}{r':PR α}:Sm b o (K1 l i 1) r':=
 ⟨λ y k e=>(by cases e),λ _ p e=>(by cases e)⟩
theorem Sm.bind {α β:Type}{b:Bool}{o:Int}{r r':PR α}{k k':α->Int->PR β}(h:Sm b o r r')(q: ∀x j,r= .ok x j->Sm b o (k x j) (k' x (j+o))):Sm b o (r.bind k) (r'.bind k'):=by
 cases r with
 |er c p=>
  refine⟨λ y m e=>(by cases e),λ n p2 e=>?_⟩
  have e2:PR.er (α:=α) c p= .er 3 p2:=by cases e;rfl
  obtain⟨s,i⟩:=h.2 n p2 e2
  exact⟨s,by rw[i];rfl⟩
 |ok x j=>
  rcases h.1 x j rfl with i|⟨n,p,i⟩
  ·rw[i];exact q x j U
  ·rw[i];exact⟨λ y m e=>.inr ⟨n,p,rfl⟩,λ l=>by rw[n]at l;cases l⟩
structure Vw (l l':List Tk) (o:Int):Prop where
 eq: ∀i,0<=i->i<len l->(at' l i).kind≠6->(at' l' (i+o)).kind=(at' l i).kind/\(at' l' (i+o)).s=(at' l i).s/\(at' l' (i+o)).c=(at' l i).c
 en: ∀i,0<=i->i<len l->(at' l i).kind=6->(at' l' (i+o)).kind=6\/((at' l' (i+o)).kind=1/\(at' l' (i+o)).s=[41])
 few:l.length<=l'.length
section
variable {l l':List Tk} {o:Int} (hl:SP l) (v:Vw l l' o) {b:Bool} {i:Int} (h0:0<=i) (h1:i<len l)
include v h0 h1
theorem Vw.CM {m:A0}(hm:m≠[41]):CM l' (i+o) m=CM l i m:=by
 unfold Go.Eng.CM
 by_cases h:(at' l i).kind=6
 ·have j:((at' l i).kind==1)=false:=by rw[h];rfl
  rw[j,Bool.false_and]
  rcases v.en i h0 h1 h with b|⟨b,k⟩
  ·have:((at' l' (i+o)).kind==1)=false:=by rw[b];rfl
   rw[this,Bool.false_and]
  ·have:((at' l' (i+o)).s==m)=false:=by rw[k,beq_eq_false_iff_ne];exact λ e=>hm e.symm
   rw[this,Bool.and_false]
 ·obtain⟨j,b,_⟩:=v.eq i h0 h1 h
  rw[j,b]
theorem Vw.VL {m:A0}(hm:Go.Eng.CM l i m=true):Go.Eng.CM l' (i+o) m=true:=by
 have h:(at' l i).kind≠6:=λ e=>by unfold Go.Eng.CM at hm;rw[e]at hm;simp at hm
 obtain⟨b,j,_⟩:=v.eq i h0 h1 h
 unfold Go.Eng.CM at hm ⊢
 rw[b,j];exact hm
theorem Vw.kind {k:Int}(j:k≠1/\k≠6):((at' l' (i+o)).kind=k)=((at' l i).kind=k):=by
 by_cases h:(at' l i).kind=6
 ·rw[h]
  rcases v.en i h0 h1 h with b|⟨b,_⟩
  ·rw[b]
  ·rw[b];exact propext ⟨λ e=>(j.1 e.symm).elim,λ e=>(j.2 e.symm).elim⟩
 ·rw[(v.eq i h0 h1 h).1]
theorem Vw.tok {k:Int}(b:k≠6)(h:(at' l i).kind=k):(at' l' (i+o)).kind=k/\(at' l' (i+o)).s=(at' l i).s/\(at' l' (i+o)).c=(at' l i).c:=by
 have:=v.eq i h0 h1 (by rw[h];exact b)
 rw[h]at this;exact this
theorem Sm.QW {m:A0}:Sm b o (H4 l i m) (H4 l' (i+o) m):=by
 unfold H4
 by_cases h:Go.Eng.CM l i m=true
 ·rw[if_pos h,if_pos (v.VL h0 h1 h)];exact .ok Aa
 ·rw[if_neg h];exact .fail
theorem Sm.op {m:A0}{d k:Int}(hd:b=false->d=k):Sm b o (LB l d i m) (LB l' k (i+o) m):=by
 unfold LB
 by_cases h:Go.Eng.CM l i m=true
 ·have q:=v.VL h0 h1 h
  rw[h,q,Bool.true_and,Bool.true_and]
  by_cases h6:64<=d
  ·rw[if_pos (decide_eq_true h6)]
   refine⟨λ x j e=>(by cases e),λ n p e=>?_⟩
   rw[<-hd n,if_pos (decide_eq_true h6)];exact⟨_,rfl⟩
  ·rw[if_neg (by simpa using h6)]
   by_cases h7:64<=k
   ·rw[if_pos (decide_eq_true h7)]
    cases b with
    |true=>exact⟨λ x j e=>.inr ⟨rfl,_,rfl⟩,λ n=>(by cases n)⟩
    |false=>exact(h6 (by rw[hd U];exact h7)).elim
   ·rw[if_neg (by simpa using h7)];exact Sm.QW v h0 h1
 ·have s:Go.Eng.CM l i m=false:=by simpa using h
  rw[s,Bool.false_and,if_neg (by simp)]
  unfold H4;rw[if_neg h];exact .fail
theorem Sm.whole:Sm b o (NI l i) (NI l' (i+o)):=by
 by_cases h:(at' l i).kind=5
 ·obtain⟨k,_,j⟩:=v.tok h0 h1 Ab h
  have e:UX (at' l' (i+o))=UX (at' l i):=by unfold UX;rw[j]
  unfold NI
  rw[k,h,j,e]
  split
  ·exact .fail
  ·split
   ·exact .fail
   ·exact .ok Aa
 ·unfold NI;rw[if_pos (.inl h)];exact .fail
include hl
end
section
variable {l l':List Tk} {o:Int} (hl:SP l) (v:Vw l l' o) (b:Bool) (q:A0->A0)
end
abbrev sS:List A0:=[[41],[93],[125],[44]]
structure Vy (l l':List Tk) (o:Int):Prop where
 eq: ∀i,0<=i->i<len l->(at' l i).kind≠6->(at' l' (i+o)).kind=(at' l i).kind/\(at' l' (i+o)).s=(at' l i).s/\(at' l' (i+o)).c=(at' l i).c
 en: ∀i,0<=i->i<len l->(at' l i).kind=6->(at' l' (i+o)).kind=6\/((at' l' (i+o)).kind=1/\(at' l' (i+o)).s∈sS)
 few:l.length<=l'.length
section
variable {l l':List Tk} {o:Int} (hl:SP l) (v:Vy l l' o) {b:Bool} {i:Int} (h0:0<=i) (h1:i<len l)
include v h0 h1
theorem Vy.CM {m:A0}(hm:m ∉ sS):CM l' (i+o) m=CM l i m:=by
 unfold Go.Eng.CM
 by_cases h:(at' l i).kind=6
 ·have j:((at' l i).kind==1)=false:=by rw[h];rfl
  rw[j,Bool.false_and]
  rcases v.en i h0 h1 h with b|⟨b,k⟩
  ·have:((at' l' (i+o)).kind==1)=false:=by rw[b];rfl
   rw[this,Bool.false_and]
  ·have:((at' l' (i+o)).s==m)=false:=by rw[beq_eq_false_iff_ne];exact λ e=>hm (e▸k)
   rw[this,Bool.and_false]
 ·obtain⟨j,b,_⟩:=v.eq i h0 h1 h
  rw[j,b]
theorem Vy.VL {m:A0}(hm:Go.Eng.CM l i m=true):Go.Eng.CM l' (i+o) m=true:=by
 have h:(at' l i).kind≠6:=λ e=>by unfold Go.Eng.CM at hm;rw[e]at hm;simp at hm
 obtain⟨b,j,_⟩:=v.eq i h0 h1 h
 unfold Go.Eng.CM at hm ⊢
 rw[b,j];exact hm
theorem Vy.kind {k:Int}(j:k≠1/\k≠6):((at' l' (i+o)).kind=k)=((at' l i).kind=k):=by
 by_cases h:(at' l i).kind=6
 ·rw[h]
  rcases v.en i h0 h1 h with b|⟨b,_⟩
  ·rw[b]
  ·rw[b];exact propext ⟨λ e=>(j.1 e.symm).elim,λ e=>(j.2 e.symm).elim⟩
 ·rw[(v.eq i h0 h1 h).1]
theorem Vy.tok {k:Int}(b:k≠6)(h:(at' l i).kind=k):(at' l' (i+o)).kind=k/\(at' l' (i+o)).s=(at' l i).s/\(at' l' (i+o)).c=(at' l i).c:=by
 have:=v.eq i h0 h1 (by rw[h];exact b)
 rw[h]at this;exact this
theorem Sy.QW {m:A0}:Sm b o (H4 l i m) (H4 l' (i+o) m):=by
 unfold H4
 by_cases h:Go.Eng.CM l i m=true
 ·rw[if_pos h,if_pos (v.VL h0 h1 h)];exact .ok Aa
 ·rw[if_neg h];exact .fail
theorem Sy.op {m:A0}{d k:Int}(hd:b=false->d=k):Sm b o (LB l d i m) (LB l' k (i+o) m):=by
 unfold LB
 by_cases h:Go.Eng.CM l i m=true
 ·have q:=v.VL h0 h1 h
  rw[h,q,Bool.true_and,Bool.true_and]
  by_cases h6:64<=d
  ·rw[if_pos (decide_eq_true h6)]
   refine⟨λ x j e=>(by cases e),λ n p e=>?_⟩
   rw[<-hd n,if_pos (decide_eq_true h6)];exact⟨_,rfl⟩
  ·rw[if_neg (by simpa using h6)]
   by_cases h7:64<=k
   ·rw[if_pos (decide_eq_true h7)]
    cases b with
    |true=>exact⟨λ x j e=>.inr ⟨rfl,_,rfl⟩,λ n=>(by cases n)⟩
    |false=>exact(h6 (by rw[hd U];exact h7)).elim
   ·rw[if_neg (by simpa using h7)];exact Sy.QW v h0 h1
 ·have s:Go.Eng.CM l i m=false:=by simpa using h
  rw[s,Bool.false_and,if_neg (by simp)]
  unfold H4;rw[if_neg h];exact .fail
end
section
variable {l l':List Tk} {o:Int} (hl:SP l) (v:Vy l l' o) {b:Bool}
include hl v
omit hl in
theorem Sy.kind {m i:Int}(h0:0<=i)(h1:i<len l):Sm b o (QO l m i) (QO l' m (i+o)):=by
 unfold QO
 by_cases h:(at' l i).kind=2
 ·obtain⟨e,j,_⟩:=v.tok h0 h1 Ab h
  rw[e,j,h]
  split
  ·exact .ok Aa
  ·exact .fail
 ·rw[if_neg (λ q=>h q.1)];exact .fail
end
open Go.RowKit
section jV
variable {a b:A0}
theorem sU(v:A0): ∀u:A0,E6 (u++v) 0=if E6 u 0<len u then E6 u 0 else len u+E6 v 0
 |[]=>by rw[AQ2,len_nil];simp
 |x::u=>by
  rw[List.cons_append]
  have hl:=A6 u
  cases hx:O4 (x.toNat:Int)with
  |true=>
   have:=sU v u
   rw[pJ hx,pJ hx,this,AH]
   by_cases h:E6 u 0<len u
   ·rw[if_pos h,if_pos Aa]
   ·rw[if_neg h,if_neg Aa];omega
  |false=>rw[pK hx,pK hx,if_pos (by rw[AH];omega)]
def Ai3(k:Int)(t:Tk):Tk:= { t with pos:=k+t.pos}
end jV
section bN
variable {p s q:A0}
abbrev QX(p s q:A0):A0:=p++(s++q)
theorem Ai4:len (QX p s q)=len p+len s+len q:=by rw[AN,AN];omega
theorem gV{i:Int}(h0:0<=i)(h1:i<=len s):A5 (QX p s q) (len p+i)=A5 s i++q:=by
 rw[<-KO _ (len p) i (A6 p) h0,QD,AO1 h0 h1]
abbrev VM(p s q:A0):Int:=E6 (QX p s q) (len p+len s)
theorem Ai5:VM p s q=len p+len s+E6 q 0:=by
 have hp:=A6 p;have b:=A6 s
 unfold VM
 rw[fH Aa,gV b (Int.le_refl _),show A5 s (len s)=[]from Q2 s _ (Int.le_refl _),List.nil_append]
theorem Ai6{k:Int}(h0:0<=k)(h1:k<=len s):E6 (QX p s q) (len p+k)=if E6 s k<len s then len p+E6 s k else VM p s q:=by
 have hp:=A6 p
 have hl:=ED s k h0 h1
 rw[Ai5,fH Aa,gV h0 h1,sU,fH (s:=s) h0,hl]
 by_cases h:E6 (A5 s k) 0<len s-k
 ·rw[if_pos h,if_pos Aa];omega
 ·rw[if_neg h,if_neg Aa];omega
theorem Ai7(b:q=[]\/KR (A4 q 0)=true){i n:Int}{t:Tk}(h0:0<=i)(h1:i<len s)(h:C0 (A5 s i)=(t,n,0)):C0 (A5 (QX p s q) (len p+i))=(t,n,0):=by
 obtain⟨u,v,e,j,hu,_,_,k⟩:=AQ3 h0 h1 h
 rw[gV h0 Aa,e,List.append_assoc,<-j]
 refine eZ hu k ?_
 cases v with
 |nil=>
  rcases b with rfl|b
  ·exact .inl U
  ·cases q with
   |nil=>exact .inl U
   |cons c r=>exact .inr (.inl ⟨by simp,b⟩)
 |cons c r=>exact .inr (.inr ⟨by simp,by simp,rfl⟩)
theorem Lx.bN (b:q=[]\/KR (A4 q 0)=true){m:List Tk}(hm:Lx (QX p s q) (VM p s q) m){i:Int}{l:List Tk}(h:Lx s i l):Lx (QX p s q) (if i<len s then len p+i else VM p s q) (l.map (Ai3 (len p))++m):=by
 have hp:=A6 p
 induction h with
 |done h0 h1=>rw[if_neg h1];exact hm
 | @step i n t l h0 h1 h _ ih=>
  have e:=YI h0 h1 h
  rw[if_pos h1]
  refine Lx.step (t:=t) (n:=n) Aa (by rw[Ai4];have:=A6 q;omega) (Ai7 b h0 h1 h) ?_
  rw[show len p+i+n=len p+(i+n)from by omega,Ai6 Aa e.2.1];exact ih
end bN
def Er{α:Type}(r:PR α):Prop:= ∀c p,r= .er c p->c≠0
theorem Er.ok {α:Type}{x:α}{j:Int}:Er (.ok x j):=λ c p e=>by cases e
theorem Er.fail {α:Type}{l:List Tk}{i e:Int}(he:e≠0):Er (K1 l i e:PR α):=λ c p h=>by cases h;exact he
theorem Er.bind {α β:Type}{r:PR α}{k:α->Int->PR β}(h:Er r)(b: ∀x j,Er (k x j)):Er (r.bind k):=by
 cases r with
 |er c p=>exact λ i l e=>by cases e;exact h c p rfl
 |ok x j=>exact b x j
theorem Er.QW {l:List Tk}{i:Int}{m:A0}:Er (H4 l i m):=by unfold H4;split;exact .ok;exact .fail Ab
theorem Er.op {l:List Tk}{d i:Int}{m:A0}:Er (LB l d i m):=by unfold LB;split;exact .fail Ab;exact .QW
theorem Er.whole {l:List Tk}{i:Int}:Er (NI l i):=by unfold NI;split;exact .fail Ab;split;exact .fail Ab;exact .ok
theorem Er.lit {l:List Tk}{i:Int}:Er (eC l i):=by
 unfold eC;split
 ·exact .ok
 ·split
  ·exact .ok
  ·split
   ·exact .ok
   ·exact .fail Ab
theorem Ai8{s:A0}{t:Tk}{n:Int}(h:C0 s=(t,n,0)):t.kind≠6:=by
 unfold C0 at h
 repeat' split at h
 all_goals simp only[Prod.mk.injEq]at h
 all_goals obtain⟨h1,b,e⟩:=h
 all_goals subst h1
 all_goals first|(simp;done)|(simp[eA];done)
theorem Lx.kind {s:A0}{i:Int}{l:List Tk}(h:Lx s i l): ∀t∈l,t.kind≠6:=by
 induction h with
 |done=>intro t b;cases b
 |step _ _ b _ e=>
  intro t hm
  rcases List.mem_cons.1 hm with rfl|hm
  ·have j:=Ai8 b;exact j
  ·exact e t hm
theorem sV{α:Type}[Inhabited α](A B:List α){i:Int}(h0:0<=i):at' (A++B) (i+len A)=at' B i:=by
 have b:(i+len A).toNat=i.toNat+A.length:=by unfold len;omega
 unfold at'
 rw[List.getD_eq_getElem?_getD,List.getD_eq_getElem?_getD,b,List.getElem?_append_right Aa,Nat.add_sub_cancel]
theorem Er.kind {l:List Tk}{m i:Int}:Er (QO l m i):=by unfold QO;split;exact .ok;exact .fail Ab
theorem Er.kinds {l:List Tk}: ∀(f:Nat) (m i:Int),Er (YX f l m i)
 |0,_,_=>.fail Ab
 |f+1,m,i=>by
  unfold YX;split
  ·exact Er.kind.bind λ _ _=>Er.kinds f _ _
  ·exact .ok
theorem Er.atom {l:List Tk}{i:Int}:Er (YY l i):=by
 unfold YY;split
 ·exact Er.lit.bind λ _ _=>.ok
 ·exact .fail Ab
section
variable {rt:Tf->Bool} {L B:List Tk} {n m:Int} {e:Tk} {p0 p1 p2 p3 p4 p5 p6 p7:Int}
end
section
variable {rt:Tf->Bool}
theorem TA.part (A l r:List Tk):TA (A++(l++r)) (len A+len l) r:=by
 have h1:TA (A++(l++r)) 0 (A++(l++r)):=⟨Int.le_refl 0,rfl⟩
 have b:=(TA.add h1).add
 rw[Int.zero_add]at b;exact b
end
theorem Ai9{α:Type}(y x:List α)(z:α):(y++x).set (len y).toNat z=y++x.set 0 z:=by
 rw[show(len y).toNat=y.length+0 by unfold len;omega,List.set_append_right _ _ Aa];simp
theorem Aj0{α:Type}[Inhabited α](y x:List α):at' (y++x) (len y)=at' x 0:=by
 have:=sV y x (i:=0) (Int.le_refl 0)
 rw[Int.zero_add]at this;exact this
end Go.Eng
namespace Go.Proofs.YtnoegalemkbbbaaGreatDoor
open Go.Proofs.Tryz
open Go.Eng
theorem sW{α:Type}[Inhabited α](a:List α){k:Int}(h0:0<=k)(h1:k<len a):Eng.sub a 0 (k+1)=Eng.sub a 0 k++[at' a k]:=sub_succ a k h0 h1
end Go.Proofs.YtnoegalemkbbbaaGreatDoor
namespace Go.Eng
def DA(s:A0):List Sp×Bool:=((CQ s).1,(CQ s).2.2==0&& !((CQ s).1.any λ x=>x.part))
def OW(n:Int)(c:Nd):Bool:=decide (0<=n)&&decide (n<=5)&&(decide (c.kind<5)&&(decide (c.name=[])&&decide (c.many=0)&&DT c))
def II(t:Tm):Bool×Tm:=
 if t.op=0 then(t.many==0,C6 t)
 else if t.op=1 then(decide (0<=t.many)&&decide (1<=t.n)&&decide (t.n<=31),{ C6 t with n:=t.n})
 else if t.op=9 then(t.many==0&&OW t.n t.c,{ C6 t with n:=t.n,c:=t.c})
 else if t.op=2 then(decide (0<=t.many)&&(t.n==0||t.n==1),{ C6 t with n:=t.n})
 else if t.op=4 then(decide (0<=t.many),C6 t)
 else if t.op=3\/t.op=5\/t.op=6 then(t.many==1,C6 t)
 else if t.op=7\/t.op=8 then(t.many==1&&(DA t.s).2,{ C6 t with s:=t.s})
 else(false,C6 t)
def DL(t:Tm):Bool:=decide (t=(II t).2)&&(II t).1
def NQ(m:Int)(f:Fl):Bool:=decide (len f<=m)&&f.all λ t=>decide (len t.s<=100)&&decide (len t.name<=100)&&decide (len t.c.s<=100)
end Go.Eng
namespace Go.Proofs.YtnoegalemkbbbaaGreatDoor
open Go.Proofs.Tryz
open Go.Eng
theorem SY(f:Fl)(v:Value)(i:Int)(M:Mem)(w:World)(n:Sat w M)(s:Sl M 11 f.length v (f.flatMap Tm.cells))(E:len f<=1048576)(h0:0<=i)(h1:i<=1048576):
    Calls prog 64 [v,i64 i].toArray w λ e w'=>e= .returned (i64 (G2 f i))/\Ext w w':=by
 have y:=A6 f
 refine AE (Hr:=[]) A8 func64 U ntmps64 [(0,A7 v f)] [] [.sl 0 v,I i] U (Aj n) (fc 0 s Tm.AO A3) (λ B h=>AT (σ:=Nat×Int×Int) (λ(g,o,j)=>⟨[(0,A7 v f)],[],[Z 0 (.sl 0 v),Z 1 (I j),Z 5 (I o)]⟩) (λ(g,o,j)=>HS g f o j=G2 f i/\len f+2<=g+j/\i<=j/\(o=1/\j=i\/j<=len f)/\o<=1+(j-i)*1048576/\0<=o) (λ(g,o,j)=>(len f-j).toNat) (f.length+2,1,i) U U ⟨rfl,by unfold len;omega,Aa,.inl ⟨rfl,rfl⟩,Aa,Aa⟩ ?_) U
 rintro⟨g,o,j⟩ ⟨hg,z,F,A,ho,C⟩
 refine A1 U (λ k=>?_) (λ k=>?_)<;>simp only[zb]at k
 ·refine A1 U (λ l=>?_) (λ l=>?_)<;>simp only[zb]at l
  ·have D:G2 f i= -1:=by
    rw[<-hg]
    cases g with
    |zero=>rfl
    |succ g=>rw[HS,if_neg Aa,if_pos Aa]
   refine A2 h U U U λ w M b=>⟨?_,b.st.low⟩
   rw[D];rfl
  ·obtain⟨g,rfl⟩: ∃q,g=q+1:=⟨g-1,Aa⟩
   rw[HS,if_neg Aa,if_neg Aa]at hg
   exact AR (g,o-1+(at' f j).many,j+1) U U ⟨hg,Aa,Aa,.inr Aa,Aa,Aa⟩ Ag
 ·obtain⟨g,rfl⟩: ∃q,g=q+1:=⟨g-1,Aa⟩
  rw[eG Aa]at hg
  refine A2 h U U U λ w M b=>⟨?_,b.st.low⟩
  rw[<-hg];rfl
theorem Aj1(l:List Sp)(v:Value)(M:Mem)(w:World)(q:Sat w M)(hl:Sl M 3 l.length v (l.flatMap Sp.cells))(y:len l<=1099511627776):
    Calls prog 126 [v].toArray w λ e w'=>e= .returned (.bool (!(l.any λ x=>x.part)))/\Ext w w':=by
 have s:=A6 l
 refine AE (Hr:=[]) A8 func126 U ntmps126 [(0,kn v 3 l Sp.cells)] [] [.sl 0 v] U (Aj q) (fc 0 hl Sp.AO A3) (λ B n=>AT (σ:=Int) (λ k=>⟨[(0,kn v 3 l Sp.cells)],[],[Z 0 (.sl 0 v),Z 3 (I k)]⟩) (λ k=>0<=k/\k<=len l/\ ∀x∈Eng.sub l 0 k,x.part≠true) (λ k=>(len l-k).toNat) 0 rfl rfl ⟨Aa,Aa,λ x hx=>by cases hx⟩ ?_) U
 intro k ⟨h0,h1,h⟩
 refine A1 U (λ b=>?_) (λ b=>?_)<;>simp only[zb]at b
 ·refine A1 U (λ i=>?_) (λ i=>?_)
  ·refine A2 n U U U λ w M j=>⟨?_,j.st.low⟩
   rw[List.any_eq_true.2 ⟨at' l k,at_mem h0 b,i⟩];rfl
  ·exact AR (k+1) U U ⟨Aa,Aa,λ x hx=>by
    rw[HQ h0 b]at hx
    rcases List.mem_append.1 hx with hx|hx
    ·exact h x hx
    ·rw[List.mem_singleton.1 hx,i];decide⟩ Aa
 ·rw[ID Aa]at h
  refine A2 n U U U λ w M j=>⟨?_,j.st.low⟩
  have e:(l.any λ x=>x.part)=false:=by
   rw[List.any_eq_false];intro x hx;exact h x hx
  rw[e];rfl
theorem sX: ∀(f:Nat) (s:A0) (p:List Sp) (i:Int),len (FN f s p i).1<=len p+f
 |0,s,p,i=>by rw[FN];show len p<=_;omega
 |f+1,s,p,i=>by
  rw[FN]
  split
  ·show len p<=_;omega
  ·have:=sX f s (p++[(D9 s i p.isEmpty).1]) (D9 s i p.isEmpty).2
   rw[AN,AH,len_nil]at this
   push_cast;omega
theorem VN(s:A0):len (CQ s).1<=20:=by
 have h:=sX 20 s [] 0
 rw[len_nil]at h
 have b:len (EM s 0).1<=20:=by
  unfold EM
  split
  ·show len ([]:List Sp)<=20;decide
  ·omega
 unfold CQ
 split
 ·exact b
 split
 ·show len ([]:List Sp)<=20;decide
 split
 ·show len ([]:List Sp)<=20;decide
 ·exact b
theorem ZA{e:World}{M:Mem}(s:A0)(hS:Sat e M)(h:len s<=1048576):
  Calls prog 67 [str s].toArray e (ET e M (λ v:Value=>.tuple #[v,.bool (DA s).2]) (λ _=>True) (λ v=>[(0,kn v 3 (DA s).1 Sp.cells)])):=by
 have hl:=VN s
 exact AE A8 func67 U ntmps67 [] [] [.v (str s)] U (Aj hS) A3 (λ B i=>B3 (λ v:Value=>.tu [.sl 1 v,I (CQ s).2.1,I (CQ s).2.2]) [1] U U call82 U (λ w M b=>gI s b.st.sat h) λ v _=>AB U call126 U U (λ _ w M b=>Aj1 (CQ s).1 v M w b.st.sat (b.sl 1 U) Aa) U <|A2 i U U U λ w M b=>⟨v,M,rfl,trivial,b.st.done,fc 0 (b.sl 1 U) Sp.AO A3⟩) U
theorem sY(c:Nd)(w:World)(M:Mem)(k:Sat w M)(l:len c.s<=1048576):
   Calls prog 99 [EH c].toArray w λ e w'=>e= .returned (.bool (decide (c.kind<5)&&(decide (c.name=[])&&decide (c.many=0)&&DT c)))/\Ext w w':=AE (Hr:=[]) A8 func99 U ntmps99 [] [] [CU c] U (Aj k) A3 (λ B j=>BO 1 U U U λ n=>F9 (.v (.slice none 0 0)) U U (λ b=>B9 2 [c] Nd.cells 6 46 Nd.AO U U (hE1:=L7 b U) Ah U λ v2=>AB U call37 U U (λ _ w M i=>rM c v2 M w i.st.sat (i.sl 2 U) Aa) U <|A2 j U U U λ w M i=>⟨rfl,i.st.low⟩) (λ b=>F9 (.v (.bool false)) U U (λ h=>absurd (b.symm.trans h) Ab) (λ _=>A2 j U U U λ w M i=>⟨by rw[b];rfl,i.st.low⟩))) U
theorem Aj2(n:Int)(c:Nd)(w:World)(M:Mem)(h:Sat w M)(i:len c.s<=1048576):
  Calls prog 124 [.agg (i64 n::c.cells).toArray].toArray w λ e w'=>e= .returned (.bool (OW n c))/\Ext w w':=AE (Hr:=[]) A8 func124 U ntmps124 [] [] [.ag [I n,I c.kind,I c.many,.v (str c.name),.v (str c.s),.v (.bool c.neg),I c.e]] U (Aj h) A3 (λ B j=>BO 1 U U U λ k=>AB U call99 U U (λ _ w M b=>sY c w M b.st.sat i) U <|A2 j U U U λ w M b=>⟨rfl,b.st.low⟩) U
theorem sZ(t:Tm)(w:World)(M:Mem)(J:Sat w M)(E:len t.s<=1048576)(F:len t.c.s<=1048576):Calls prog 65 [sO t].toArray w λ e w'=>e= .returned (.bool (DL t))/\Ext w w':=by
 refine AE (Hr:=[]) A8 func65 U ntmps65 [] [] [HB t] U (Aj J) A3 (λ B j=>BO 1 U U U λ C=>AZ 3 U zeroValue52 U λ D=>?_) U
 refine A1 U (λ h0=>?_) (λ h0=>?_)<;>simp only[zb]at h0
 ·refine AU (.v (.bool (decide (t=C6 t)))) U U (λ w M h=>PV.bin (AF (v:=HB t) U) (AF (v:=HB (C6 t)) U) (λ _ w _=>OJ _ _ _ _ w)) <|A2 j U U U λ w M h=>⟨?_,h.st.low⟩
  unfold DL II;rw[if_pos h0];rfl
 refine A1 U (λ h1=>?_) (λ h1=>?_)<;>simp only[zb]at h1
 ·refine AU (.v (.bool (decide (t= { C6 t with n:=t.n})))) U U (λ w M h=>PV.bin (AF (v:=HB t) U) (AF (v:=HB { C6 t with n:=t.n}) U) (λ _ w _=>OJ _ _ _ _ w)) <|A2 j U U U λ w M h=>⟨?_,h.st.low⟩
  unfold DL II;rw[if_neg h0,if_pos h1];simp only[<-Bool.and_assoc];rfl
 refine A1 U (λ k=>?_) (λ k=>?_)<;>simp only[zb]at k
 ·refine AU (.v (.bool (decide (t= { C6 t with n:=t.n,c:=t.c})))) U U (λ w M h=>PV.bin (AF (v:=HB t) U) (AF (v:=HB { C6 t with n:=t.n,c:=t.c}) U) (λ _ w _=>OJ _ _ _ _ w)) <|AB U call124 U U (λ _ w M h=>Aj2 t.n t.c w M h.st.sat F) U <|A2 j U U U λ w M h=>⟨?_,h.st.low⟩
  unfold DL II;rw[if_neg h0,if_neg h1,if_pos k];simp only[<-Bool.and_assoc];rfl
 refine A1 U (λ y=>?_) (λ y=>?_)<;>simp only[zb]at y
 ·refine AU (.v (.bool (decide (t= { C6 t with n:=t.n})))) U U (λ w M h=>PV.bin (AF (v:=HB t) U) (AF (v:=HB { C6 t with n:=t.n}) U) (λ _ w _=>OJ _ _ _ _ w)) <|A2 j U U U λ w M h=>⟨?_,h.st.low⟩
  unfold DL II;rw[if_neg h0,if_neg h1,if_neg k,if_pos y];simp only[<-Bool.and_assoc];rfl
 refine A1 U (λ A=>?_) (λ A=>?_)<;>simp only[zb]at A
 ·refine AU (.v (.bool (decide (t=C6 t)))) U U (λ w M h=>PV.bin (AF (v:=HB t) U) (AF (v:=HB (C6 t)) U) (λ _ w _=>OJ _ _ _ _ w)) <|A2 j U U U λ w M h=>⟨?_,h.st.low⟩
  unfold DL II;rw[if_neg h0,if_neg h1,if_neg k,if_neg y,if_pos A];rfl
 refine CZ 0 (λ s=> ∃b:Bool,(b=true↔(t.op=3\/t.op=5\/t.op=6))/\s=⟨[],[(1,.box C (LO t) 52),(3,.box D (LO (C6 t)) 52)],[Z 1 (.bx 1 C 0),Z 3 (.bx 3 D 0),Z 14 (I t.op),Z 105 (.v (.bool b))]⟩) U U (λ z=>?_) (λ z=>?_) ?_
 ·exact AQ _ U U ⟨_,by simp only[zb]at z ⊢;omega,rfl⟩
 ·exact A1 U (λ G=>AQ _ U U ⟨_,by simp only[zb]at G ⊢;omega,rfl⟩) (λ G=>AQ _ U U ⟨_,by simp only[zb]at z G ⊢;omega,rfl⟩)
 rintro _ ⟨b,i,rfl⟩
 refine A1 U (λ l=>?_) (λ l=>?_)
 ·refine AU (.v (.bool (decide (t=C6 t)))) U U (λ w M h=>PV.bin (AF (v:=HB t) U) (AF (v:=HB (C6 t)) U) (λ _ w _=>OJ _ _ _ _ w)) <|A2 j U U U λ w M h=>⟨?_,h.st.low⟩
  unfold DL II;rw[if_neg h0,if_neg h1,if_neg k,if_neg y,if_neg A,if_pos (i.1 l)];rfl
 have q: ¬(t.op=3\/t.op=5\/t.op=6):=λ e=>by have:=i.2 e;rw[l]at this;cases this
 clear i l
 refine CZ 0 (λ s=> ∃b:Bool,(b=true↔(t.op=7\/t.op=8))/\s=⟨[],[(1,.box C (LO t) 52),(3,.box D (LO (C6 t)) 52)],[Z 1 (.bx 1 C 0),Z 3 (.bx 3 D 0),Z 117 (.v (.bool b))]⟩) U U (λ z=>?_) (λ z=>?_) ?_
 ·exact AQ _ U U ⟨_,by simp only[zb]at z ⊢;omega,rfl⟩
 ·exact AQ _ U U ⟨_,by simp only[zb]at z ⊢;omega,rfl⟩
 rintro _ ⟨b,i,rfl⟩
 refine A1 U (λ l=>?_) (λ l=>?_)
 ·refine B3 (λ v:Value=>.tu [.sl 6 v,.v (.bool (DA t.s).2)]) [6] U U call67 U (λ w M h=>ZA t.s h.st.sat E) λ v _=>AU (.v (.bool (decide (t= { C6 t with s:=t.s})))) U U (λ w M h=>PV.bin (AF (v:=HB t) U) (AF (v:=HB { C6 t with s:=t.s}) U) (λ _ w _=>OJ _ _ _ _ w)) <|A2 j U U U λ w M h=>⟨?_,h.st.low⟩
  unfold DL II;rw[if_neg h0,if_neg h1,if_neg k,if_neg y,if_neg A,if_neg q,if_pos (i.1 l)];simp only[<-Bool.and_assoc];rfl
 have H: ¬(t.op=7\/t.op=8):=λ e=>by have:=i.2 e;rw[l]at this;cases this
 refine A2 j U U U λ w M h=>⟨?_,h.st.low⟩
 have e:DL t=false:=by unfold DL II;rw[if_neg h0,if_neg h1,if_neg k,if_neg y,if_neg A,if_neg q,if_neg H,Bool.and_false]
 rw[e];rfl
theorem Aj3(f:Fl)(v:Value)(m:Int)(M:Mem)(w:World)(y:Sat w M)(n:Sl M 11 f.length v (f.flatMap Tm.cells))(hm:0<=m/\m<=1048576):
    Calls prog 75 [v,i64 m].toArray w λ e w'=>e= .returned (.bool (NQ m f))/\Ext w w':=by
 have z:=A6 f
 have hle:len f<=9223372036854775807:=n.le
 refine AE (Hr:=[]) A8 func75 U ntmps75 [(0,A7 v f)] [] [.sl 0 v,I m] U (Aj y) (fc 0 n Tm.AO A3) (λ B q=>AT (σ:=Int) (λ k=>⟨[(0,A7 v f)],[],[Z 0 (.sl 0 v),Z 1 (I m),Z 5 (I k)]⟩) (λ k=>0<=k/\k<=len f/\k<=m/\ ∀t∈Eng.sub f 0 k,len t.s<=100/\len t.name<=100/\len t.c.s<=100) (λ k=>(len f-k).toNat) 0 rfl rfl ⟨Aa,Aa,Aa,λ x hx=>by cases hx⟩ ?_) U
 intro k ⟨h0,h1,A,b⟩
 refine A1 U (λ h=>?_) (λ h=>?_)<;>simp only[zb]at h
 ·refine A1 U (λ i=>?_) (λ i=>?_)<;>simp only[zb]at i
  ·refine A2 q U U U λ w M j=>⟨?_,j.st.low⟩
   have e:NQ m f=false:=by
    unfold NQ
    rw[Bool.and_eq_false_iff]
    by_cases hm2:m<=k
    ·left;simp;omega
    ·right
     rw[List.all_eq_false]
     refine⟨at' f k,at_mem h0 h,?_⟩
     simp only[Bool.and_eq_true,decide_eq_true_eq]
     rintro⟨⟨C,D⟩,E⟩
     omega
   rw[e];rfl
  ·exact AR (k+1) U U ⟨Aa,Aa,Aa,λ x hx=>by
    rw[HQ h0 h]at hx
    rcases List.mem_append.1 hx with hx|hx
    ·exact b x hx
    ·rw[List.mem_singleton.1 hx];omega⟩ Aa
 ·rw[ID Aa]at b
  refine A2 q U U U λ w M j=>⟨?_,j.st.low⟩
  have e:NQ m f=true:=by
   unfold NQ
   rw[Bool.and_eq_true]
   refine⟨by simp;omega,List.all_eq_true.2 λ t l=>?_⟩
   simp only[Bool.and_eq_true,decide_eq_true_eq]
   exact⟨⟨(b t l).1,(b t l).2.1⟩,(b t l).2.2⟩
  rw[e];rfl
end Go.Proofs.YtnoegalemkbbbaaGreatDoor
namespace Go.Eng
def C7(o:Int):Option A0->List Tf->Bool
 |_,[]=>true
 |L,x::l=>(decide (x.t.op=9)==decide (o=1))&&(decide (o=2)||decide (x.t.name=[]))&&(!decide (o=2)||(CY x.t.name&&(L.all λ n=> !decide (x.t.name<=n))))&&C7 o (some x.t.name) l
def K6:List Tf->Int->A0->(Tf->Option Int)->Option Int
 |[],_,_,_=>none
 |x::l,o,n,F=>if x.t.name=n then(F x).map (o+ ·)else K6 l (o+x.size) n F
def EX:List Sp->Tf->Option Int
 |[],_=>some 0
 |s::p,x=>if x.t.op≠2\/s.part=true then none else K6 x.ps 1 s.name (EX p)
def OX(a:Int):Option Int->Int
 |some o=>a+o
 |none=> -1
theorem Aj4(a o:Int)(r:Option Int):OX a (r.map (o+ ·))=OX (a+o) r:=by
 cases r with
 |none=>rfl
 |some k=>show a+(o+k)=a+o+k;omega
theorem tA{F:Tf->Option Int}{n:A0}: ∀ {l:List Tf} {o k:Int},(∀x∈l,∀j,F x=some j->0<=j/\j<x.size)->K6 l o n F=some k->o<=k/\k<o+AK l
 |[],o,k,_,h=>by cases h
 |x::l,o,k,hF,h=>by
  unfold K6 at h
  rw[AK]
  split at h
  ·cases hx:F x with
   |none=>rw[hx]at h;cases h
   |some j=>
    rw[hx]at h
    have:=hF x (.head _) j hx
    have h:o+j=k:=Option.some.inj h
    omega
  ·have:=tA (λ y b=>hF y (.tail _ b)) h
   omega
theorem ZB: ∀(p:List Sp) (x:Tf) (k:Int),EX p x=some k->0<=k/\k<x.size
 |[],x,k,h=>by cases h;have:=x.size_pos;omega
 |s::p,x,k,h=>by
  unfold EX at h
  split at h
  ·cases h
  ·have:=tA (λ y _ j b=>ZB p y j b) h
   rw[Tf.size_eq];omega
def JQ(p:List Sp)(x:Tf):Bool:=match EX p x with
 |some o=>(at' x.flat o).op==1
 |none=>false
def HZ(t:Tm):List Tf->Bool
 |[x]=>if t.op=7\/t.op=8 then JQ (DA t.s).1 x else true
 |_=>if t.op=7\/t.op=8 then false else true
mutual
def DV:Tf->Bool
 | .mk t ps=>DL { t with many:=len ps}&&C7 t.op none ps&&HZ t ps&&EA ps
def EA:List Tf->Bool
 |[]=>true
 |x::l=>DV x&&EA l
end
theorem VO(a b:List Tf):EA (a++b)=(EA a&&EA b):=by
 induction a with
 |nil=>simp[EA]
 |cons x a e=>rw[List.cons_append,EA,EA,e,Bool.and_assoc]
theorem NR(x:Tf):DV x=(DL x.node&&C7 x.t.op none x.ps&&HZ x.t x.ps&&EA x.ps):=by cases x;rw[DV];rfl
theorem Aj5{o:Int}{L:Option A0}{x:Tf}{l:List Tf}(h1:(x.t.op==9)=(o==1))(b:o=2\/x.t.name=[])(e:o=2->CY x.t.name=true/\ ∀n,L=some n-> ¬x.t.name<=n):C7 o L (x::l)=C7 o (some x.t.name) l:=by
 conv=>lhs;rw[C7]
 have h:(decide (x.t.op=9)==decide (o=1))=true:=by rw[beq_iff_eq];exact h1
 have e2:(decide (o=2)||decide (x.t.name=[]))=true:=by simpa using b
 have e3:(!decide (o=2)||(CY x.t.name&&(L.all λ n=> !decide (x.t.name<=n))))=true:=by
  by_cases ho:o=2
  ·obtain⟨i,j⟩:=e ho
   rw[i]
   cases L with
   |none=>simp
   |some n=>have:=j n U;simp[this]
  ·simp[ho]
 rw[h,e2,e3];simp
theorem Aj6{o:Int}{L:Option A0}{x:Tf}{l:List Tf}(h: ¬(x.t.op==9)=(o==1)):C7 o L (x::l)=false:=by
 rw[C7]
 have e:(decide (x.t.op=9)==decide (o=1))=false:=by
  rw[beq_eq_false_iff_ne];intro q;exact h q
 rw[e];rfl
theorem Aj7{o:Int}{L:Option A0}{x:Tf}{l:List Tf}(h1: ¬o=2)(b: ¬x.t.name=[]):C7 o L (x::l)=false:=by rw[C7];simp[h1,b]
theorem Aj8{o:Int}{L:Option A0}{x:Tf}{l:List Tf}(h1:o=2)(b:CY x.t.name=false):C7 o L (x::l)=false:=by rw[C7];simp[h1,b]
theorem Aj9{o:Int}{n:A0}{x:Tf}{l:List Tf}(h1:o=2)(b:x.t.name<=n):C7 o (some n) (x::l)=false:=by rw[C7];simp[h1,b]
end Go.Eng
namespace Go.Proofs.YtnoegalemkbbbaaGreatDoor
open Go.Proofs.Tryz
open Go.Eng
theorem tC(f:Fl)(v:Value)(a:Int)(x:Tf)(z:List Tf)(M:Mem)(w:World)(hM:Sat w M)(hv:Sl M 11 f.length v (f.flatMap Tm.cells))(hb:len f<=1048576)(N:BL f a (x::z))(O: ∀t∈f,len t.name<=1048576):
    Calls prog 66 [v,i64 a].toArray w λ e w'=>e= .returned (.bool (C7 x.t.op none x.ps))/\Ext w w':=by
 have hx:=N.node
 have hk:=N.QA
 have hle:=N.le
 rw[AK,Tf.size_eq]at hle
 have F:(at' f a).op=x.t.op:=by rw[hx.2.2];rfl
 have hxm:(at' f a).many=len x.ps:=by rw[hx.2.2];rfl
 have hlp:=A6 x.ps
 have hls:=MM x.ps
 refine AE (Hr:=[]) A8 func66 U ntmps66 [(0,A7 v f)] [] [.sl 0 v,I a] U (Aj hM) (fc 0 hv Tm.AO A3) (λ B P=>AT (σ:=List Tf×List Tf×Int×Option A0×Int) (λ(p,q,i,L,k)=>⟨[(0,A7 v f)],[],[Z 0 (.sl 0 v),Z 1 (I a),Z 5 (I i),Z 6 (.v (str (L.getD []))),Z 7 (I k)]⟩) (λ(p,q,i,L,k)=>k=len p/\x.ps=p++q/\i=a+1+AK p/\C7 x.t.op none x.ps=C7 x.t.op L q/\(L=none↔len p=0)) (λ(p,q,i,L,k)=>q.length) ([],x.ps,a+1,none,0) U U ⟨rfl,rfl,by simp[AK],rfl,⟨λ _=>rfl,λ _=>rfl⟩⟩ ?_) U
 rintro⟨p,q,i,L,k⟩ ⟨Q,b,hi,j,X⟩
 have G:=congrArg AK b
 rw[HR]at G
 have C:=congrArg len b
 rw[AN]at C
 have hl0:=A6 p
 have hq0:=A6 q
 have l:BL f i (q++z):=by
  have:=hk
  rw[b,List.append_assoc]at this
  rw[hi];exact this.skip
 refine A1 U (λ h2=>?_) (λ h2=>?_)<;>simp only[zb]at h2
 ·cases q with
  |nil=>rw[len_nil]at C;omega
  |cons y q=>
   have l:BL f i (y::(q++z)):=l
   have J:=l.node
   have D:(at' f i).name=y.t.name:=by rw[J.2.2];rfl
   have R:(at' f i).op=y.t.op:=by rw[J.2.2];rfl
   have hnl:=O _ (at_mem J.1 J.2.1)
   have S:=OK l
   have hys:=y.size_pos
   rw[AK]at G
   refine AZ 8 U zeroValue52 U λ b8=>?_
   refine DQ U BI Ac (DR U ?_)
   refine A1 U (λ E=>?_) (λ E=>?_)<;>simp only[zb]at E<;>rw[R,F,D]at E
   ·refine A2 P U U U λ w M s=>⟨?_,s.st.low⟩
    have e:C7 x.t.op none x.ps=false:=by
     rw[j]
     rcases E with h|h
     · exact Aj6 h
     · exact Aj7 h.1 h.2
    rw[e];rfl
   ·refine AB U call125 U U (λ _ w M s=>UQ (at' f i).name w Aa) U ?_
    refine A1 U (λ A=>?_) (λ A=>?_)<;>simp only[zb]at A<;>rw[F,D]at A
    ·refine A2 P U U U λ w M s=>⟨?_,s.st.low⟩
     have e:C7 x.t.op none x.ps=false:=by
      rw[j]
      obtain⟨q1,K⟩:=A
      rcases K with K|⟨K,q3⟩
      · exact Aj8 q1 K
      · cases L with
        |none=>have:=X.1 U;omega
        |some n=>exact Aj9 q1 (sP q3)
     rw[e];rfl
    ·refine AB U call64 U U (λ _ w M s=>SY f v i M w s.st.sat (s.sl 0 U) hb Aa Aa) U ?_
     have H:C7 x.t.op none x.ps=C7 x.t.op (some y.t.name) q:=by
      rw[j]
      refine Aj5 E.1 (by rcases Decidable.em (x.t.op=2)with h|h;exact .inl h;exact .inr (E.2.resolve_left h)) λ ho=>?_
      rcases A with A|⟨A,h5⟩
      · exact absurd ho A
      · refine⟨A,λ n hn=>?_⟩
        subst hn
        have hp1: ¬len p=0:=λ e=>by have:=X.2 e;cases this
        have h6:=h5.resolve_left Aa
        exact sQ h6.1 h6.2
     have T:(some y.t.name=none↔len (p++[y])=0):=by
      refine⟨(λ e=>nomatch e),λ e=>?_⟩
      rw[AN]at e
      have e2:len p+1=0:=e
      omega
     have V:G2 f i=a+1+AK (p++[y]):=by rw[S,hi,HR,AK,AK];omega
     have W:k+1=len (p++[y]):=by rw[AN,Q];rfl
     refine AR (p++[y],q,G2 f i,some y.t.name,k+1) U (by rw[D];rfl) ⟨W,by rw[b];simp,V,H,T⟩ (by show q.length<(y::q).length;simp)
 ·have hq:q=[]:=by
   cases q with
   |nil=>rfl
   |cons y q=>rw[AH]at C;have:=A6 q;omega
  subst hq
  refine A2 P U U U λ w M s=>⟨?_,s.st.low⟩
  rw[j];cases L<;>rfl
theorem tD: ∀(p:List Sp) (f:Fl) (v u:Value) (a:Int) (x:Tf) (z:List Tf) (M:Mem) (w:World),Sat w M->Sl M 11 f.length v (f.flatMap Tm.cells)->Sl M 3 p.length u (p.flatMap Sp.cells)->len f<=1048576->len p<=1048576->BL f a (x::z)->
    Calls prog 68 [v,i64 a,u].toArray w λ e w'=>e= .returned (i64 (OX a (EX p x)))/\Ext w w':=by
 intro p
 induction p with
 |nil=>
  intro f v u a x z M w K L hu N O J
  refine AE (Hr:=[]) A8 func68 U ntmps68 [(0,A7 v f),(1,kn u 3 [] Sp.cells)] [] [.sl 0 v,I a,.sl 1 u] U (Aj K) (fc 0 L Tm.AO (fc 1 hu Sp.AO A3)) (λ B D=>?_) U
  refine A1 U (λ h=>?_) (λ h=>?_)<;>simp only[zb]at h
  ·exact A2 D U U U λ w M b=>⟨by show Ending.returned (i64 a)= .returned (i64 (a+0));rw[Int.add_zero],b.st.low⟩
  ·exfalso;exact h U
 |cons s p X=>
  intro f v u a x z M w K L hu N O J
  have hx:=J.node
  have hk:=J.QA
  have hle:=J.le
  rw[AK,Tf.size_eq]at hle
  have P:(at' f a).op=x.t.op:=by rw[hx.2.2];rfl
  have hxm:(at' f a).many=len x.ps:=by rw[hx.2.2];rfl
  have hlp:=A6 x.ps
  have hls:=MM x.ps
  have hp0:=A6 p
  have hlc:len (s::p)=len p+1:=AH s p
  have E:at' (s::p) 0=s:=rfl
  refine AE (Hr:=[]) A8 func68 U ntmps68 [(0,A7 v f),(1,kn u 3 (s::p) Sp.cells)] [] [.sl 0 v,I a,.sl 1 u] U (Aj K) (fc 0 L Tm.AO (fc 1 hu Sp.AO A3)) (λ B D=>?_) U
  refine A1 U (λ h=>?_) (λ h=>?_)<;>simp only[zb]at h
  ·exfalso;omega
  refine A1 U (λ j=>?_) (λ j=>?_)<;>simp only[zb]at j<;>rw[P,E]at j
  ·have e:EX (s::p) x=none:=by unfold EX;rw[if_pos j]
   exact A2 D U U U λ w M b=>⟨by rw[e];rfl,b.st.low⟩
  have eL:EX (s::p) x=K6 x.ps 1 s.name (EX p):=by rw[EX,if_neg (by rintro(q|q);exact q j.1;rw[j.2]at q;cases q)]
  refine AT (σ:=List Tf×List Tf×Int×Int) (λ(d,q,i,k)=>⟨[(0,A7 v f),(1,kn u 3 (s::p) Sp.cells)],[],[Z 0 (.sl 0 v),Z 1 (I a),Z 2 (.sl 1 u),Z 7 (I i),Z 8 (I k)]⟩) (λ(d,q,i,k)=>k=len d/\x.ps=d++q/\i=a+(1+AK d)/\EX (s::p) x=K6 q (1+AK d) s.name (EX p)) (λ(d,q,i,k)=>q.length) ([],x.ps,a+1,0) U U ⟨rfl,rfl,by simp[AK],by rw[eL];simp[AK]⟩ ?_
  rintro⟨d,q,i,k⟩ ⟨Q,n,hi,A⟩
  have F:=congrArg AK n
  rw[HR]at F
  have C:=congrArg len n
  rw[AN]at C
  have hl0:=A6 d
  have hq0:=A6 q
  have l:BL f i (q++z):=by
   have:=hk
   rw[n,List.append_assoc]at this
   rw[hi,<-Int.add_assoc];exact this.skip
  refine A1 U (λ W=>?_) (λ W=>?_)<;>simp only[zb]at W
  ·cases q with
   |nil=>rw[len_nil]at C;omega
   |cons y q=>
    have l:BL f i (y::(q++z)):=l
    have hy:=l.node
    have R:(at' f i).name=y.t.name:=by rw[hy.2.2];rfl
    have S:=OK l
    have hys:=y.size_pos
    rw[AK]at F
    refine DQ U BI Ac (DR U ?_)
    refine A1 U (λ G=>?_) (λ G=>?_)<;>simp only[zb]at G<;>rw[R,E]at G
    ·refine HP (gd:=none) 9 1 (len (s::p)) U U U ⟨.i64,_,rfl,AG U⟩ U underlying61 sizeOf105 Aa U λ v9=>?_
     rw[Z9]
     refine AB U call68 U U (λ _ w M b=>X f v v9 i y (q++z) M w b.st.sat (b.sl 0 U) (b.sl 9 U) N Aa l) U ?_
     refine A2 D U U U λ w M b=>⟨?_,b.st.low⟩
     have e:OX a (EX (s::p) x)=OX i (EX p y):=by rw[A,K6,if_pos G,Aj4,hi]
     rw[e];rfl
    ·refine AB U call64 U U (λ _ w M b=>SY f v i M w b.st.sat (b.sl 0 U) N Aa Aa) U ?_
     have T:G2 f i=a+(1+AK (d++[y])):=by rw[S,hi,HR,AK,AK];omega
     have V:k+1=len (d++[y]):=by rw[AN,Q];rfl
     have H:EX (s::p) x=K6 q (1+AK (d++[y])) s.name (EX p):=by
      rw[A,K6,if_neg G,HR,AK,AK];congr 1;omega
     exact AR (d++[y],q,G2 f i,k+1) U U ⟨V,by rw[n];simp,T,H⟩ (by show q.length<(y::q).length;simp)
  ·have hq:q=[]:=by
    cases q with
    |nil=>rfl
    |cons y q=>rw[AH]at C;have:=A6 q;omega
   subst hq
   refine A2 D U U U λ w M b=>⟨?_,b.st.low⟩
   rw[A];rfl
end Go.Proofs.YtnoegalemkbbbaaGreatDoor
namespace Go.Eng
theorem YR{f:Fl}{i o:Int}{y:Tf}{z:List Tf}(h:BL f i (y::z))(h0:0<=o)(h1:o<y.size):at' f (i+o)=at' y.flat o:=by
 obtain⟨hi,pre,post,rfl,rfl⟩:=h
 have hl:len y.flat=y.size:=by unfold len;rw[Tf.BR]
 rw[show len pre+o=o+len pre by omega,sV _ _ h0,AM,List.append_assoc,o5 _ _ h0 Aa]
theorem tE{t:Tm}(h:DL t=true)(ho:t.op=7\/t.op=8):t.many=1:=by
 unfold DL II at h
 rw[if_neg Aa,if_neg Aa,if_neg Aa,if_neg Aa,if_neg Aa,if_neg Aa,if_pos ho]at h
 simp only[Bool.and_eq_true,beq_iff_eq]at h
 exact h.2.1
theorem tF(s:A0):len (DA s).1<=20:=Go.Proofs.YtnoegalemkbbbaaGreatDoor.VN s
theorem Ak0{u:Tf}{us:List Tf}(h1:DL u.node=true)(b:C7 u.t.op none u.ps=true)(e:HZ u.t u.ps=true):EA (u::us)=EA (u.ps++us):=by
 rw[EA,NR,h1,b,e,VO];simp
structure Tf.VP (x:Tf):Prop where
 zm:x.zm
 name:x.t.name=[]
 op:x.t.op≠9
 all:DV x=true
end Go.Eng
namespace Go.Proofs.YtnoegalemkbbbaaGreatDoor
open Go.Proofs.Tryz
open Go.Eng
theorem Ak1(f:Fl)(v:Value)(M:Mem)(w:World)(hM:Sat w M)(hv:Sl M 11 f.length v (f.flatMap Tm.cells))(V:len f<=1048576)(D: ∀t∈f,len t.name<=1048576/\len t.s<=1048576/\len t.c.s<=1048576):
    Calls prog 20 [v].toArray w λ e w'=>(∃b:Bool,e= .returned (.bool b)/\(b=true-> ∃x:Tf,f=x.flat/\x.VP))/\Ext w w':=by
 have hl0:=A6 f
 refine AE (Hr:=[]) A8 func20 U ntmps20 [(0,A7 v f)] [] [.sl 0 v] U (Aj hM) (fc 0 hv Tm.AO A3) (λ B T=>AB U call64 U U (λ _ w M k=>SY f v 0 M w k.st.sat (k.sl 0 U) V Aa Aa) U ?_) U
 refine A1 U (λ n=>?_) (λ n=>?_)<;>simp only[zb]at n
 ·exact A2 T rfl rfl rfl λ w M k=>⟨⟨false,rfl,λ h=>by cases h⟩,k.st.low⟩
 have W:f≠[]:=λ e=>by subst e;exact n.1.1.1 rfl
 obtain⟨x,hz,A⟩:=o8 n.2 W
 have X:x.t.name=[]:=by have:=n.1.1.2;rw[A,Tf.BA]at this;exact this
 have hop:x.t.op≠9:=by have:=n.1.2;rw[A,Tf.BA]at this;exact this
 have hsx:BL f 0 [x]:=by rw[A];exact BL.top x
 have hlx:len f=x.size:=by rw[A];unfold len;rw[Tf.BR]
 refine AT (σ:=Int×List Tf) (λ(i,ts)=>⟨[(0,A7 v f)],[],[Z 0 (.sl 0 v),Z 3 (I i)]⟩) (λ(i,ts)=>BL f i ts/\i+AK ts=len f/\DV x=EA ts) (λ(i,ts)=>AK ts) (0,[x]) U U ⟨hsx,by rw[hlx];simp[AK],by simp[EA]⟩ ?_
 rintro⟨i,ts⟩ ⟨E,K,L⟩
 have hi0:=E.1
 refine A1 U (λ N=>?_) (λ N=>?_)<;>simp only[zb]at N
 ·cases ts with
  |nil=>rw[show AK []=0 from rfl]at K;omega
  |cons u us=>
   have hu:=E.node
   have C:=at_mem hu.1 hu.2.1
   have O:(at' f i).op=u.t.op:=by rw[hu.2.2];rfl
   have hus:(at' f i).s=u.t.s:=by rw[hu.2.2];rfl
   have hum:(at' f i).many=len u.ps:=by rw[hu.2.2];rfl
   have j:=E.QA
   have hsz:=u.size_pos
   have J:=HR u.ps us
   have hse:=u.size_eq
   rw[AK]at K
   refine AB U call65 U U (λ _ w M k=>sZ (at' f i) w M k.st.sat (D _ C).2.1 (D _ C).2.2) U ?_
   refine AB U call66 U U (λ _ w M k=>tC f v i u us M w k.st.sat (k.sl 0 U) V E λ t ht=>(D t ht).1) U ?_
   refine A1 U (λ F=>?_) (λ F=>?_)<;>simp only[zb]at F
   ·exact A2 T rfl rfl rfl λ w M k=>⟨⟨false,rfl,λ h=>by cases h⟩,k.st.low⟩
   have P:=F.1
   refine CZ 1 (λ s=>HZ u.t u.ps=true/\s=⟨[(0,A7 v f)],[],[Z 0 (.sl 0 v),Z 3 (I i)]⟩) U U (λ z=>?_) (λ z=>?_) ?_
   ·simp only[zb]at z
    have G:=tE P z
    obtain⟨y,hy⟩: ∃y,u.ps=[y]:=by
     match hps:u.ps,hum with
     |[],h=>rw[h]at G;cases G
     |[y],_=>exact⟨y,rfl⟩
     |_::_::l,h=>rw[h]at G;simp only[AH]at G;have:=A6 l;omega
    rw[hy]at j
    have j:BL f (i+1) (y::us):=j
    have hky:=j.le
    rw[AK]at hky
    have hus1:=A6 (DA (at' f i).s).1
    have hpl2:=tF (at' f i).s
    have Q:HZ u.t u.ps=JQ (DA u.t.s).1 y:=by
     rw[hy]
     show(if u.t.op=7\/u.t.op=8 then JQ (DA u.t.s).1 y else true)=_
     rw[if_pos (by rw[<-O];exact z)]
    obtain⟨r,hr⟩: ∃r,r=EX (DA (at' f i).s).1 y:=⟨_,rfl⟩
    have R: ∀o,r=some o->0<=o/\o<y.size:=λ o h=>ZB _ y o (by rw[<-hr];exact h)
    have hlv:OX (i+1) r<len f:=by
     cases r with
     |none=>show(-1:Int)<_;omega
     |some o=>have:=R o U;show i+1+o<_;omega
    refine B3 (λ v:Value=>.tu [.sl 6 v,.v (.bool (DA (at' f i).s).2)]) [6] (Fg:=λ v=>[(0,kn v 3 (DA (at' f i).s).1 Sp.cells)]) (pu:=λ _=>True) U U call67 U (λ w M k=>ZA (at' f i).s k.st.sat (D _ C).2.1) λ v6 _=>?_
    refine AB U call68 U U (λ _ w M k=>(by have q:=tD (DA (at' f i).s).1 f v v6 (i+1) y us M w k.st.sat (k.sl 0 U) (k.sl 6 U) V Aa j;rw[<-hr]at q;exact q:Calls prog 68 [v,i64 (i+1),v6].toArray w λ e w'=>e= .returned (i64 (OX (i+1) r))/\Ext w w')) U ?_
    refine A1 U (λ H=>?_) (λ H=>?_)<;>simp only[zb]at H
    ·exact A2 T rfl rfl rfl λ w M k=>⟨⟨false,rfl,λ h=>by cases h⟩,k.st.low⟩
    ·refine AQ _ U U ⟨?_,rfl⟩
     rw[Q]
     unfold JQ
     rw[<-hus,<-hr]
     cases r with
     |none=>exact absurd H.1 (by show ¬ ¬((-1:Int)<0);omega)
     |some o=>
      have S:=R o U
      have h5:=H.2
      rw[show OX (i+1) (some o)=i+1+o from rfl,YR j S.1 S.2]at h5
      show((at' y.flat o).op==1)=true
      rw[beq_iff_eq];exact h5
   ·simp only[zb]at z
    refine AQ _ U U ⟨?_,rfl⟩
    rw[O]at z
    unfold HZ
    split
    · rw[if_neg Aa]
    · rw[if_neg Aa]
   rintro s ⟨hld,rfl⟩
   refine AR (i+1,u.ps++us) U U ⟨j,by rw[J];omega,?_⟩ (by show AK (u.ps++us)<AK (u::us);rw[J,AK];omega)
   rw[L]
   exact Ak0 (by rw[<-hu.2.2];exact P) F.2 hld
 ·have hts:ts=[]:=by
   cases ts with
   |nil=>rfl
   |cons u us=>rw[AK]at K;have:=u.size_pos;omega
  subst hts
  exact A2 T U U U λ w M k=>⟨⟨true,rfl,λ _=>⟨x,A,hz,X,hop,by rw[L];rfl⟩⟩,k.st.low⟩
abbrev Ak2(v:Value)(hs:List AJ):HO:=.own 25 1 v hs.length (hs.flatMap CA)
theorem Ak3{α:Type}[Inhabited α]{l:List α}{k:Nat}(h:k<l.length):l.drop k=at' l (k:Int)::l.drop (k+1):=by
 obtain⟨h1,b⟩:=DB l (i:=(k:Int)) Aa (by unfold len;omega)
 rw[b,List.drop_eq_getElem_cons h];simp
theorem tG{x:Tf}{k:Nat}{i:Int}(b:k<x.ps.length)(e:BL x.flat i (x.ps.drop k)):BL x.flat i (at' x.ps (k:Int)::x.ps.drop (k+1)):=by rw[<-Ak3 b];exact e
theorem OY(x:Tf)(J:x.t.op≠1)(v:Value)(w:World)(M:Mem)(K:Sat w M)(L:Sl M 11 x.flat.length v (x.flat.flatMap Tm.cells))(N:len x.flat<=1048576):
   Calls prog 45 [v].toArray w (ET w M (λ g:Value×List AJ=>g.1) (λ g=>len g.2=len x.ps) (λ g=>[(0,CS g.1 g.2 (D3 x))])):=by
 have O:(at' x.flat 0).many=len x.ps:=by rw[x.BA];rfl
 have F:=Tf.D7 x
 have G:(at' x.flat 0).op=x.t.op:=by rw[x.BA];rfl
 have P:len x.ps=(x.ps.length:Int):=rfl
 have Q:=MM x.ps
 have R:len x.flat=1+AK x.ps:=by unfold len;rw[Tf.BR,Tf.size_eq];omega
 refine AE (Hr:=[]) A8 func45 U ntmps45 [(0,A7 v x.flat)] [] [.sl 0 v] U (Aj K) (fc 0 L Tm.AO A3) (λ B S=>B9 1 [] CA 1 25 DJ U U Ah U λ u=>C5 U Ad Aa (ES 6 (CS u [] ((D3 x).take 0)) (λ w M e=>⟨e.sl 1 U,DJ,trivial⟩) ?_)) U
 refine AT (σ:=Nat×Int×Value×List AJ) (λ(k,i,u,h)=>⟨[(0,A7 v x.flat),(1,kn u 1 h CA),(6,CS u h ((D3 x).take k))],[(1,.ho (Ak2 u h))],[Z 0 (.sl 0 v),Z 3 (.sl 1 u),Z 4 (I i),Z 5 (I k)]⟩) (λ(k,i,u,h)=>k<=x.ps.length/\BL x.flat i (x.ps.drop k)/\len h=k) (λ(k,i,u,h)=>x.ps.length-k) (0,1,u,[]) U U ⟨Aa,x.eF,rfl⟩ ?_
 rintro⟨k,i,u,h⟩ ⟨X,A,C⟩
 refine A1 U (λ h1=>?_) (λ h1=>?_)<;>simp only[zb]at h1
 ·have l:k<x.ps.length:=by omega
  have b:=tG l A
  obtain⟨y,H⟩: ∃y,y=at' x.ps (k:Int):=⟨_,rfl⟩
  rw[<-H]at b
  have n:=OK b
  have hle:=b.le
  have D:=b.node
  have T:=y.size_pos
  rw[AK]at hle
  have j:=o6 b
  rw[<-n]at j
  have V:len y.flat=y.size:=by unfold len;rw[Tf.BR]
  refine AB U call64 U U (λ _ w M e=>SY x.flat v i M w e.st.sat (e.sl 0 U) N Aa Aa) U <|IB 3 ([]:List Tm) Tm.cells 11 52 Tm.AO U U Ah U λ v3=>HP (gd:=none) 4 i (G2 x.flat i) U U U ⟨.i64,_,rfl,AG U⟩ ⟨.i64,_,rfl,AG U⟩ underlying25 sizeOf52 Aa U λ v4=>?_
  rw[j]
  refine IT 120 U U U underlying25 type52 U U Tm.cells_one (by rw[len_nil];omega) λ v5=>?_
  rw[List.nil_append]
  refine AZ 5 U zeroValue52 U λ b5=>L6 { at' y.flat 0 with name:=[]} rfl U U sizeOf52 U U U Aa λ x5 s=>?_
  rw[show((0:Int).toNat)=0 from rfl,Tf.eE]at s
  subst s
  refine H0 3 U <|XC 3 U λ a q W=>?_
  obtain⟨z,E⟩: ∃z:AJ,v5=z.v:=⟨⟨a,_,q⟩,W⟩
  subst E
  refine B9 7 [z] CA 1 25 DJ U U Ah U λ v7=>EC 24 U U U underlying53 type25 U U QM (by simp only[AH,len_nil];omega) λ v'=>C5 U Ad Aa (ES 6 (CS v' (h++[z]) ((D3 x).take (k+1))) (λ w M e=>⟨e.sl 1 U,DJ,by rw[gJ l,<-H];exact CB.snoc (e.sl 3 U) (e.f.get (k:=6) U).more⟩) ?_)
  exact AR (k+1,G2 x.flat i,v',h++[z]) U U ⟨Aa,by rw[n];exact b.rest,by rw[AN,C];rfl⟩ (by show x.ps.length-(k+1)<x.ps.length-k;omega)
 ·refine A2 S U U U λ w M e=>⟨(u,h),M,rfl,by show len h=_;omega,e.st.done,AA ?_ A3⟩
  have:=e.f.get (k:=6) U
  rw[List.take_of_length_le (by simp[D3];omega)]at this
  exact this
abbrev KY(x:Tf):List A0:=x.ps.map λ y=>y.t.name
def K7(x:Tf):List A0:=if x.t.op=2 then KY x else []
theorem Ak4{x:Tf}{k:Nat}(b:k<x.ps.length):(KY x).take (k+1)=(KY x).take k++[(at' x.ps (k:Int)).t.name]:=by
 obtain⟨h1,e⟩:=DB x.ps (i:=(k:Int)) Aa (by unfold len;omega)
 rw[e,List.take_add_one]
 simp[KY,b]
theorem Ak5(x:Tf)(v:Value)(w:World)(M:Mem)(F:Sat w M)(G:Sl M 11 x.flat.length v (x.flat.flatMap Tm.cells))(H:len x.flat<=1048576):
    Calls prog 103 [v].toArray w (ET w M (λ u:Value=>u) (λ _=>True) (λ u=>[(0,kn u 1 (K7 x) CO)])):=by
 have J:(at' x.flat 0).many=len x.ps:=by rw[x.BA];rfl
 have D:=Tf.D7 x
 have l:(at' x.flat 0).op=x.t.op:=by rw[x.BA];rfl
 have K:len x.ps=(x.ps.length:Int):=rfl
 have L:=MM x.ps
 have N:len x.flat=1+AK x.ps:=by unfold len;rw[Tf.BR,Tf.size_eq];omega
 refine AE (Hr:=[]) A8 func103 U ntmps103 [(0,A7 v x.flat)] [] [.sl 0 v] U (Aj F) (fc 0 G Tm.AO A3) (λ B O=>B9 1 [] CO 1 9 FY U U Ah U λ u=>AT (σ:=Nat×Int×Value) (λ(k,i,u)=>⟨[(0,A7 v x.flat),(1,kn u 1 ((KY x).take k) CO)],[(1,.ho (.own 9 1 u ((KY x).take k).length (((KY x).take k).flatMap CO)))],[Z 0 (.sl 0 v),Z 3 (.sl 1 u),Z 4 (I i),Z 5 (I k)]⟩) (λ(k,i,u)=>k<=x.ps.length/\BL x.flat i (x.ps.drop k)/\(x.t.op≠2->k=0)) (λ(k,i,u)=>x.ps.length-k) (0,1,u) U U ⟨Aa,x.eF,λ _=>rfl⟩ ?_) U
 rintro⟨k,i,u⟩ ⟨R,s,z⟩
 refine A1 U (λ h1=>?_) (λ h1=>?_)<;>simp only[zb]at h1
 ·have n:k<x.ps.length:=by omega
  have b:=tG n s
  obtain⟨y,E⟩: ∃y,y=at' x.ps (k:Int):=⟨_,rfl⟩
  rw[<-E]at b
  have A:=OK b
  have hle:=b.le
  have j:=b.node
  have P:=y.size_pos
  rw[AK]at hle
  have C:(at' x.flat i).name=y.t.name:=by rw[j.2.2];rfl
  have Q:len ((KY x).take k)<=1048576:=by unfold len at*;rw[List.length_take];omega
  exact B9 3 [(at' x.flat i).name] CO 1 9 FY U U Ah U λ v3=>EC 16 U U U underlying103 type9 U U bI (by simp only[AH,len_nil];omega) λ v'=>AB U call64 U U (λ _ w M q=>SY x.flat v i M w q.st.sat (q.sl 0 U) H Aa Aa) U <|AR (k+1,G2 x.flat i,v') U (by dsimp only;rw[Ak4 n,<-E,<-C];rfl) ⟨Aa,by rw[A];exact b.rest,λ h=>absurd (l▸h1.2) h⟩ (by show x.ps.length-(k+1)<x.ps.length-k;omega)
 ·refine A2 O U U U λ w M q=>⟨u,M,rfl,trivial,q.st.done,?_⟩
  have:=q.sl 1 U
  have e:(KY x).take k=K7 x:=by
   unfold K7
   by_cases h2:x.t.op=2
   · rw[if_pos h2,List.take_of_length_le (by simp[KY];omega)]
   · rw[if_neg h2,z h2,List.take_zero]
  rw[e]at this
  exact fc 0 this FY A3
abbrev CN(u:Value)(hs:List AJ)(xs:List Vl):Kn:=⟨u,1,hs,CA,λ M=>CB M 6 Nd.cells hs xs,λ _ _ hm h=>CB.mono hm h⟩
theorem Ak6(f:Vl)(v:Value)(i:Int)(u:Tr)(w:World)(M:Mem)(n:Sat w M)(s:Sl M 6 f.length v (f.flatMap Nd.cells))(E:len f<=1048576)(e:EN f i u):
  Calls prog 102 [v,i64 i,i64 (i+u.size)].toArray w (ET w M (λ h:AJ=>h.v) (λ _=>True) (λ h=>[(0,kn h.v 6 (u.named []).flat Nd.cells)])):=by
 have F:=e.node
 have hle:=e.size_le
 have y:=u.size_pos
 have z:len u.flat=u.size:=by unfold len;rw[Tr.BR]
 refine AE (Hr:=[]) A8 func102 U ntmps102 [(0,kn v 6 f Nd.cells)] [] [.sl 0 v,I i,I (i+u.size)] U (Aj n) (fc 0 s Nd.AO A3) (λ B A=>IB 3 ([]:List Nd) Nd.cells 6 46 Nd.AO U U Ah U λ v3=>HP (gd:=none) 4 i (i+u.size) U U U ⟨.i64,_,rfl,AG U⟩ ⟨.i64,_,rfl,AG U⟩ underlying33 sizeOf46 Aa U λ v4=>?_) U
 rw[qH e]
 refine IT 64 U U U underlying33 type46 U U Nd.cells_one (by rw[len_nil];omega) λ v5=>?_
 rw[List.nil_append]
 refine AZ 5 U zeroValue46 U λ G=>L6 { at' u.flat 0 with name:=[]} rfl U U sizeOf46 U U U Aa λ C b=>?_
 have b:C=(u.named []).flat:=by rw[b];cases u;rfl
 subst b
 refine H0 3 U <|XC 3 U λ a q D=>?_
 obtain⟨j,k⟩: ∃j:AJ,v5=j.v:=⟨⟨a,_,q⟩,D⟩
 subst k
 exact A2 A U U U λ w M l=>⟨j,M,rfl,trivial,l.st.done,fc 0 (l.sl 3 U) Nd.AO A3⟩
abbrev tH(v:Value)(hs:List AJ):HO:=.own 33 1 v hs.length (hs.flatMap CA)
theorem I0(x:Tr)(hw:x.wf)(v:Value)(w:World)(M:Mem)(F:Sat w M)(G:Sl M 6 x.flat.length v (x.flat.flatMap Nd.cells))(E:len x.flat<=1048576):
   Calls prog 44 [v].toArray w (ET w M (λ g:Value×List AJ=>g.1) (λ g=>len g.2=len x.parts) (λ g=>[(0,CN g.1 g.2 (JO x))])):=by
 have H:(at' x.flat 0).many=len x.parts:=by rw[x.BA,Tr.fT hw]
 have J:=A6 x.parts
 have K:=IX x.parts
 have L:len x.flat=1+C3 x.parts:=by unfold len;rw[Tr.BR,Tr.size_eq];omega
 refine AE (Hr:=[]) A8 func44 U ntmps44 [(0,kn v 6 x.flat Nd.cells)] [] [.sl 0 v] U (Aj F) (fc 0 G Nd.AO A3) (λ B N=>B9 1 [] CA 1 33 DJ U U Ah U λ u=>C5 U Ad Aa (ES 6 (CN u [] (OP x 0)) (λ w M b=>⟨b.sl 1 U,DJ,trivial⟩) ?_)) U
 refine AT (σ:=Int×Int×Value×List AJ) (λ(k,i,u,e)=>⟨[(0,kn v 6 x.flat Nd.cells),(1,kn u 1 e CA),(6,CN u e (OP x k))],[(1,.ho (tH u e))],[Z 0 (.sl 0 v),Z 3 (.sl 1 u),Z 4 (I i),Z 5 (I k)]⟩) (λ(k,i,u,e)=>0<=k/\k<=len x.parts/\DU x.flat i (x.parts.drop k.toNat)/\len e=k) (λ(k,i,u,e)=>(len x.parts-k).toNat) (0,1,u,[]) U U ⟨Aa,Aa,x.qI,rfl⟩ ?_
 rintro⟨k,i,u,e⟩ ⟨n,Q,q,s⟩
 refine A1 U (λ h1=>?_) (λ h1=>?_)<;>simp only[zb]at h1
 ·obtain⟨y,O,z,A,j,C,l,_,_⟩:=qJ hw n Aa q
  have hle:=z.size_le
  have R:=z.node
  have P:=y.size_pos
  refine AB U call86 U U (λ _ w M b=>YW x.flat v i M w b.st.sat (b.sl 0 U) E Aa Aa) U ?_
  rw[A]
  refine B3 (λ h:AJ=>.sl 3 h.v) [3] U U call102 U (λ w M b=>Ak6 x.flat v i y w M b.st.sat (b.sl 0 U) E z) λ D _=>B9 7 [D] CA 1 33 DJ U U Ah U λ S=>EC 24 U U U underlying59 type33 U U QM (by simp only[AH,len_nil];omega) λ v'=>C5 U Ad Aa (ES 6 (CN v' (e++[D]) (OP x (k+1))) (λ w M b=>⟨b.sl 1 U,DJ,by rw[C,l];exact CB.snoc (b.sl 3 U) (b.f.get (k:=6) U).more⟩) ?_)
  exact AR (k+1,i+y.size,v',e++[D]) U U ⟨Aa,Aa,j,by rw[AN,s];rfl⟩ Ag
 ·refine A2 N U U U λ w M b=>⟨(u,e),M,rfl,by show len e=_;omega,b.st.done,AA ?_ A3⟩
  have:=b.f.get (k:=6) U
  rw[AT5 Aa]at this
  exact this
theorem gW(x:Tr)(hw:x.wf)(v:Value)(w:World)(M:Mem)(E:Sat w M)(F:Sl M 6 x.flat.length v (x.flat.flatMap Nd.cells))(G:len x.flat<=1048576):
    Calls prog 110 [v].toArray w (ET w M (λ u:Value=>u) (λ _=>True) (λ u=>[(0,kn u 1 (F2 x) CO)])):=by
 have H:(at' x.flat 0).many=len x.parts:=by rw[x.BA,Tr.fT hw]
 have J:=A6 x.parts
 have K:=IX x.parts
 have l:(at' x.flat 0).kind=x.node.kind:=by rw[x.BA]
 have L:len x.flat=1+C3 x.parts:=by unfold len;rw[Tr.BR,Tr.size_eq];omega
 refine AE (Hr:=[]) A8 func110 U ntmps110 [(0,kn v 6 x.flat Nd.cells)] [] [.sl 0 v] U (Aj E) (fc 0 F Nd.AO A3) (λ B N=>B9 1 [] CO 1 9 FY U U Ah U λ u=>AT (σ:=Int×Int×Value) (λ(k,i,u)=>⟨[(0,kn v 6 x.flat Nd.cells),(1,kn u 1 (K4 x k) CO)],[(1,.ho (.own 9 1 u (K4 x k).length ((K4 x k).flatMap CO)))],[Z 0 (.sl 0 v),Z 3 (.sl 1 u),Z 4 (I i),Z 5 (I k)]⟩) (λ(k,i,u)=>0<=k/\k<=len x.parts/\DU x.flat i (x.parts.drop k.toNat)/\(x.node.kind≠6->k=0)) (λ(k,i,u)=>(len x.parts-k).toNat) (0,1,u) U U ⟨Aa,Aa,x.qI,λ _=>rfl⟩ ?_) U
 rintro⟨k,i,u⟩ ⟨b,O,q,s⟩
 refine A1 U (λ h1=>?_) (λ h1=>?_)<;>simp only[zb]at h1
 ·obtain⟨y,P,D,z,j,_,_,_,A⟩:=qJ hw b Aa q
  have hle:=D.size_le
  have Q:=D.node
  have R:=y.size_pos
  have C:(at' x.flat i).name=y.node.name:=by rw[Q.2.2]
  have S:=AT9 b O
  refine B9 3 [(at' x.flat i).name] CO 1 9 FY U U Ah U λ v3=>EC 16 U U U underlying103 type9 U U bI (by simp only[AH,len_nil];omega) λ v'=>AB U call86 U U (λ _ w M n=>YW x.flat v i M w n.st.sat (n.sl 0 U) G Aa Aa) U ?_
  rw[z]
  exact AR (k+1,i+y.size,v') U (by dsimp only;rw[AT7 b A,<-C];rfl) ⟨Aa,Aa,j,λ h=>absurd (l▸h1.2) h⟩ Ag
 ·refine A2 N U U U λ w M n=>⟨u,M,rfl,trivial,n.st.done,?_⟩
  have:=n.sl 1 U
  have e:K4 x k=F2 x:=by
   by_cases h2:x.node.kind=6
   · exact AT8 Aa h2
   · exact AU0 (s h2) h2
  rw[e]at this
  exact fc 0 this FY A3
end Go.Proofs.YtnoegalemkbbbaaGreatDoor
namespace Go.Eng
def OZ(n:A0):List Tr->Option Tr
 |[]=>none
 |t::l=>if t.node.name=n then some (t.named [])else OZ n l
def BX(n:A0)(x:Tr):Option Tr:=if x.node.kind=6 then OZ n x.parts else none
def P0:Option Tr->Vl
 |some t=>t.flat
 |none=>[]
theorem gX{n:A0}: ∀ {a b:List Tr},(∀y∈a,y.node.name≠n)->OZ n (a++b)=OZ n b
 |[],b,_=>rfl
 |y::a,b,h=>by rw[List.cons_append,OZ,if_neg (h y (.head _)),gX λ z e=>h z (.tail _ e)]
theorem Ak7{t:Tr}(e:t.node.kind=6){k:Int}(h0:0<=k)(h1:k<len t.parts): ∃y,t.parts=t.parts.take k.toNat++y::t.parts.drop (k.toNat+1)/\at' (F2 t) k=y.node.name/\at' (JO t) k=(y.named []).flat/\y∈t.parts:=by
 have b:k.toNat<t.parts.length:=by unfold len at h1;omega
 refine⟨t.parts[k.toNat],?_,?_,?_,List.getElem_mem b⟩
 ·rw[<-List.drop_eq_getElem_cons b,List.take_append_drop]
 ·unfold F2 at';rw[if_pos e,List.getD_eq_getElem?_getD,List.getElem?_map,List.getElem?_eq_getElem b];rfl
 ·unfold JO at';rw[List.getD_eq_getElem?_getD,List.getElem?_map,List.getElem?_eq_getElem b];rfl
theorem gY{t:Tr}(b:t.node.kind=6):len (F2 t)=len t.parts:=by unfold F2;rw[if_pos b];unfold len;rw[List.length_map]
end Go.Eng
namespace Go.Proofs.YtnoegalemkbbbaaGreatDoor
open Go.Proofs.Tryz
open Go.Eng
theorem I1{M:Mem}{u:Value}{b:List AJ}{xs:List Vl}(h:(CN u b xs).ok M){k:Int}(h0:0<=k)(h1:k<len b):(kn (at' b k).v 6 (at' xs k) Nd.cells).ok M:=⟨CB.at h.more h0 h1,Nd.AO,trivial⟩
theorem SZ(x:Tr)(hw:x.wf)(n:A0)(v:Value)(w:World)(M:Mem)(Q:Sat w M)(R:Sl M 6 x.flat.length v (x.flat.flatMap Nd.cells))(L:len x.flat<=1048576):
    Calls prog 104 [v,str n].toArray w (ET w M (λ h:AJ=>.tuple #[h.v,.bool (BX n x).isSome]) (λ _=>True) (λ h=>[(0,kn h.v 6 (P0 (BX n x)) Nd.cells)])):=by
 have S:=A6 x.parts
 have T:=IX x.parts
 have V:len x.flat=1+C3 x.parts:=by unfold len;rw[Tr.BR,Tr.size_eq];omega
 refine AE (Hr:=[]) A8 func104 U ntmps104 [(0,kn v 6 x.flat Nd.cells)] [] [.sl 0 v,.v (str n)] U (Aj Q) (fc 0 R Nd.AO A3) (λ B N=>B3 (λ u:Value=>.sl 1 u) [1] U U call110 U (λ w M i=>gW x hw v w M i.st.sat (i.sl 0 U) L) λ u _=>AT (σ:=Int) (λ k=>⟨[(0,kn v 6 x.flat Nd.cells),(1,kn u 1 (F2 x) CO)],[],[Z 0 (.sl 0 v),Z 1 (.v (str n)),Z 6 (.sl 1 u),Z 7 (I k)]⟩) (λ k=>0<=k/\k<=len (F2 x)/\ ∀y∈x.parts.take k.toNat,y.node.name≠n) (λ k=>(len (F2 x)-k).toNat) 0 rfl rfl ⟨Aa,A6 _,λ y G=>by cases G⟩ ?_) U
 rintro k ⟨s,W,j⟩
 have J: ¬x.node.kind=6->len (F2 x)=0:=λ h=>by unfold F2;rw[if_neg h];rfl
 refine A1 U (λ h1=>?_) (λ h1=>?_)<;>simp only[zb]at h1
 ·have l:x.node.kind=6:=Classical.byContradiction λ h=>by have:=J h;omega
  have A:=gY l
  obtain⟨y,G,C,K,X⟩:=Ak7 l s Aa
  refine A1 U (λ H=>?_) (λ H=>?_)<;>simp only[zb]at H
  ·refine B3 (λ g:Value×List AJ=>.sl 8 g.1) [8] U U call44 U (λ w M i=>I0 x hw v w M i.st.sat (i.sl 0 U) L) λ g D=>?_
   obtain⟨pv,O⟩:=g
   have D:len O=len x.parts:=D
   have E:BX n x=some (y.named []):=by
    unfold BX
    rw[if_pos l,G,gX j,OZ,if_pos (by rw[<-C];exact H)]
   refine A2 N U U U λ w M i=>⟨at' O k,M,by rw[E];rfl,trivial,i.st.done,AA ?_ A3⟩
   have:=I1 (i.f.get (k:=8) U) s Aa
   rw[K]at this
   rw[E];exact this
  ·refine AR (k+1) U U ⟨Aa,Aa,λ z q=>?_⟩ Ag
   rw[show(k+1).toNat=k.toNat+1 by omega,List.take_add_one]at q
   rcases List.mem_append.1 q with q|q
   ·exact j z q
   ·have F:k.toNat<x.parts.length:=by unfold len at A;have:=gY l;unfold len at this h1;omega
    have e:x.parts[k.toNat]? =some y:=by
      have h3:=List.drop_eq_getElem_cons F
      rw[List.getElem?_eq_getElem F]
      have P:=List.take_append_drop k.toNat x.parts
      rw[h3]at P
      have h5:=P.trans G
      exact congrArg some (List.cons.inj (List.append_cancel_left h5)).1
    rw[e]at q
    rw[List.mem_singleton.1 q,<-C];exact H
 ·have E:BX n x=none:=by
   unfold BX
   by_cases l:x.node.kind=6
   · have A:=gY l
     have e:x.parts.take k.toNat=x.parts:=List.take_of_length_le (by unfold len at*;omega)
     rw[e]at j
     rw[if_pos l]
     have:=gX (b:=[]) j
     rw[List.append_nil]at this
     rw[this];rfl
   · exact if_neg l
  refine A2 N U U U λ w M i=>⟨⟨none,0,0⟩,M,by rw[E];rfl,trivial,i.st.done,?_⟩
  rw[E];exact fc 0 (Sl.nil M 6) Nd.AO A3
end Go.Proofs.YtnoegalemkbbbaaGreatDoor
namespace Go.Eng
def J2(n:Int)(k:Nat):Bool:=n.toNat/2^k%2==1
abbrev BP(u:Tm):List Value:=[i64 u.n,i64 u.c.kind,i64 u.c.many,str u.c.name,str u.c.s,.bool u.c.neg,i64 u.c.e]
theorem P1(u:Tm):(BP u).length=7:=rfl
theorem gZ(x:Tm): ∀u∈BP x,u.oneCell'=true:=by intro u hu;simp[BP]at hu;rcases hu with rfl|rfl|rfl|rfl|rfl|rfl|rfl<;>rfl
end Go.Eng
namespace Go.Proofs.YtnoegalemkbbbaaGreatDoor
open Go.Proofs.Tryz
open Go.Eng
theorem Ak8(n:Int)(k:Nat)(w:World)(h0:0<=n)(h1:n<=1048576)(s:k<=5):Calls prog 100 [i64 n,i64 k].toArray w λ e w'=>e= .returned (.bool (J2 n k))/\Ext w w':=by
 refine AE A8 func100 U ntmps100 [] [] [I n,I k] U (BB w) A3 (λ B h=>AT (σ:=Nat×Int) (λ(j,m)=>⟨[],[],[Z 0 (I m),Z 1 (I k),Z 5 (I j)]⟩) (λ(j,m)=>j<=k/\m=((n.toNat/2^j:Nat):Int)/\0<=m/\m<=1048576) (λ(j,m)=>k-j) (0,n) U U ⟨Aa,by simp;omega,h0,h1⟩ ?_) U
 rintro⟨j,m⟩ ⟨y,hm,i,l⟩
 refine A1 U (λ b=>?_) (λ b=>?_)<;>simp only[zb]at b
 ·refine AR (j+1,m/2) U U ⟨Aa,?_,Aa,Aa⟩ (by show k-(j+1)<k-j;omega)
  rw[hm,Nat.pow_succ,<-Nat.div_div_eq_div_mul];simp
 ·have e:j=k:=by omega
  subst e
  refine A2 h U U U λ w M q=>⟨?_,q.st.low⟩
  have e2:J2 n j=(m%2==1):=by
   unfold J2;rw[hm,Bool.eq_iff_iff,beq_iff_eq,beq_iff_eq];omega
  rw[e2];rfl
theorem Ak9(q:Tm)(b:Fl)(v:Value)(w:World)(M:Mem)(A:Sat w M)(C:Sl M 11 (q::b).length v ((q::b).flatMap Tm.cells))(G:len b<=1048576)(H:q.many=len b)(ho:q.op=1):
    Calls prog 41 [v,i64 0].toArray w (ET w M (λ u:Value=>u) (λ _=>True) (λ u=>[(0,kn u 7 b BP)])):=by
 have D:=A6 b
 have E:len (q::b)=len b+1:=AH q b
 have i:at' (q::b) 0=q:=rfl
 refine AE (Hr:=[]) A8 func41 U ntmps41 [(0,A7 v (q::b))] [] [.sl 0 v,I 0] U (Aj A) (fc 0 C Tm.AO A3) (λ B F=>B9 1 ([]:List Tm) BP 7 113 P1 U U Ah U λ u=>AT (σ:=Int×Value×Fl) (λ(k,u,y)=>⟨[(0,A7 v (q::b)),(1,kn u 7 y BP)],[(1,.ho (.own 113 7 u y.length (y.flatMap BP)))],[Z 0 (.sl 0 v),Z 1 (I 0),Z 5 (.sl 1 u),Z 6 (I (k+1))]⟩) (λ(k,u,y)=>0<=k/\k<=len b/\y=Eng.sub b 0 k/\len y=k) (λ(k,u,y)=>(len b-k).toNat) (0,u,[]) U U ⟨Aa,Aa,rfl,rfl⟩ ?_) U
 rintro⟨k,u,y⟩ ⟨h0,h1,j,l⟩
 refine A1 U (hO:=by rw[i];simp only[zb]<;>omega) (λ e=>?_) (λ e=>?_)<;>rw[i]at e<;>simp only[zb]at e
 ·have n:k<len b:=by omega
  have s:at' (q::b) (k+1)=at' b k:=by
   unfold at';rw[show(k+1).toNat=k.toNat+1 by omega];rfl
  exact EJ [12,13,14] 4 (λ _ _ _ _ _ h=>h) U BI Ac <|AL 12 U U U <|B9 3 [at' (q::b) (k+1)] BP 7 113 P1 U U Ah U λ v3=>AI U <|AL 13 U U U <|EC 72 U U U underlying79 type113 U U gZ (by simp only[AH,len_nil];omega) λ v'=>AI U <|AL 14 U U U <|AI U <|BV U U U <|AR (k+1,v',y++[at' (q::b) (k+1)]) U U ⟨Aa,Aa,by rw[s,j,HQ h0 n],by rw[AN,l];rfl⟩ Ag
 ·rw[ID Aa]at j
  subst j
  exact A2 F U U U λ w M z=>⟨u,M,rfl,trivial,z.st.done,fc 0 (z.sl 1 U) P1 A3⟩
theorem Al0(q:Tm)(b:Fl)(v:Value)(w:World)(M:Mem)(h:Sat w M)(i:Sl M 11 (q::b).length v ((q::b).flatMap Tm.cells))(j:len b<=1048576)(k:q.many=len b)(ho:q.op=1):
  Calls prog 43 [v].toArray w (ET w M (λ u:Value=>u) (λ _=>True) (λ u=>[(0,kn u 7 b BP)])):=AE (Hr:=[]) A8 func43 U ntmps43 [(0,A7 v (q::b))] [] [.sl 0 v] U (Aj h) (fc 0 i Tm.AO A3) (λ B l=>B3 (λ u:Value=>.sl 5 u) [5] U U call41 U (λ w M e=>Ak9 q b v w M e.st.sat (e.sl 0 U) j k ho) λ u _=>A2 l U U U λ w M e=>⟨u,M,rfl,trivial,e.st.done,fc 0 (e.sl 5 U) P1 A3⟩) U
end Go.Proofs.YtnoegalemkbbbaaGreatDoor
