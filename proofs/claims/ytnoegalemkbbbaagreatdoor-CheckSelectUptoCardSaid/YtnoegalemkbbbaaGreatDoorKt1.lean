/- Lemmas for the card. -/
import Derived.Test.YtnoegalemkbbbaaGreatDoorKt0
import Derived.StillTail
set_option linter.unusedVariables false
set_option linter.unusedSimpArgs false
set_option maxRecDepth 100000
namespace Go.Eng
open Go.RowKit
abbrev Mem:=Nat->Nat->Option Value
abbrev nM:Mem:=λ _ _=>none
abbrev Ext(w w':World):Prop:=Below w.heap.size w w'
theorem Ext.refl (w:World):Ext w w:=Below.refl _ _
theorem Ext.trans {a b c:World}(h:Ext a b)(k:Ext b c):Ext a c:=Below.trans h (Below.mono k h.size)
theorem Ext.alloc (w:World)(o:Obj):Ext w (w.alloc o):=(Below.refl _ _).alloc (Nat.le_refl _) o
theorem Ext.drew (w:World):Ext w w.drew:=(Below.refl _ _).drew
theorem lt_of_cell{w:World}{b o:Nat}{v:Value}(h:w.cell? ⟨b,o,none⟩=some v):b<w.heap.size:=by
 rcases Nat.lt_or_ge b w.heap.size with e|e
 ·exact e
 ·simp[World.cell?,e]at h
structure Sat (w:World) (M:Mem):Prop where
 cell: ∀b o v,M b o=some v->w.cell? ⟨b,o,none⟩=some v
theorem Sat.lt {w:World}{M:Mem}(h:Sat w M){b o:Nat}{v:Value}(e:M b o=some v):b<w.heap.size:=lt_of_cell (h.cell b o v e)
theorem Sat.ext {w w':World}{M:Mem}(h:Sat w M)(e:Ext w w'):Sat w' M:=
 ⟨λ b o v i=>(e.cell (p:=⟨b,o,none⟩) (h.lt i)).trans (h.cell b o v i)⟩
structure Grow (w:World) (M:Mem) (w':World) (M':Mem):Prop where
 ext:Ext w w'
 sat:Sat w' M'
 old: ∀b o,b<w.heap.size->M' b o=M b o
def Mem.le (M M':Mem):Prop:= ∀b o v,M b o=some v->M' b o=some v
theorem Mem.le.refl (M:Mem):M.le M:=λ _ _ _ h=>h
theorem Mem.le.trans {M N K:Mem}(h:M.le N)(k:N.le K):M.le K:=λ b o v e=>k b o v (h b o v e)
theorem Grow.le {w w':World}{M M':Mem}(g:Grow w M w' M')(e:Sat w M):M.le M':=λ b o v h=>(g.old b o (e.lt h)).trans h
theorem Grow.TP {w w':World}{M:Mem}(b:Sat w M)(e:Ext w w'):Grow w M w' M:=⟨e,b.ext e,λ _ _ _=>rfl⟩
inductive HO where
 |box (b:Nat) (cs:List Value) (t:TypeId)
 |own (e:TypeId) (sz:Nat) (v:Value) (n:Nat) (xs:List Value)
 |raw (b:Nat) (o:Obj)
 |priv (e:TypeId) (sz:Nat) (v:Value) (n:Nat) (xs:List Value)
def HO.FJ:HO->Option Nat
 | .box b _ _=>some b
 | .own _ _ v _ _=>v.ownBlock
 | .raw b _=>some b
 | .priv _ _ v _ _=>v.ownBlock
def HO.ok (base:Nat)(w:World)(M:Mem):HO->Prop
 | .box b cs t=>base<=b/\w.heap[b]? =some (.cells cs.toArray t (0,0))/\ ∀o,M b o=none
 | .own e sz v n xs=>w.ownsRow base e sz v n xs/\ ∀b,v.ownBlock=some b->(∀o,o<xs.length->M b o=xs[o]?)/\(∀o,xs.length<=o->M b o=none)
 | .raw b o=>base<=b/\w.heap[b]? =some o/\ ∀o',M b o'=none
 | .priv e sz v n xs=>w.ownsRow base e sz v n xs/\ ∀b,v.ownBlock=some b-> ∀o,M b o=none
structure St (w0:World) (M0:Mem) (w:World) (M:Mem) (Hs:List HO):Prop where
 low:Below w0.heap.size w0 w
 sat:Sat w M
 old: ∀b o,b<w0.heap.size->M b o=M0 b o
 ok: ∀x∈Hs,x.ok w0.heap.size w M
 apart:Hs.Pairwise (λ x y=> ∀b,x.FJ=some b->y.FJ≠some b)
theorem kC{w w':World}{base:Nat}{e:TypeId}{sz n:Nat}{v:Value}{xs:List Value}(h:w.ownsRow base e sz v n xs)(k: ∀b,v.ownBlock=some b->w'.heap[b]? =w.heap[b]?):w'.ownsRow base e sz v n xs:=by
 obtain⟨h1,i⟩:=h
 refine⟨h1,?_⟩
 rcases i with i|⟨g,cap,cur,j,hg,l,r⟩
 ·exact .inl i
 ·exact .inr ⟨g,cap,cur,j,hg,by rw[k g (by rw[j];rfl)];exact l,r⟩
theorem HO.WA {base:Nat}{w w':World}{M M':Mem}{x:HO}(h:x.ok base w M)(j: ∀b,x.FJ=some b->w'.heap[b]? =w.heap[b]?)(hm: ∀b,x.FJ=some b-> ∀o,M' b o=M b o):x.ok base w' M':=by
 cases x with
 |box b cs t=>exact⟨h.1,(j b U).trans h.2.1,λ o=>(hm b U o).trans (h.2.2 o)⟩
 |own e sz v n xs=>exact⟨kC h.1 j,λ b i=>⟨λ o ho=>(hm b i o).trans ((h.2 b i).1 o ho),λ o ho=>(hm b i o).trans ((h.2 b i).2 o ho)⟩⟩
 |raw b o=>exact⟨h.1,(j b U).trans h.2.1,λ o=>(hm b U o).trans (h.2.2 o)⟩
 |priv e sz v n xs=>exact⟨kC h.1 j,λ b i o=>(hm b i o).trans (h.2 b i o)⟩
theorem HO.ok.lt {base:Nat}{w:World}{M:Mem}{x:HO}(h:x.ok base w M){b:Nat}(j:x.FJ=some b):base<=b/\b<w.heap.size:=by
 cases x with
 |box k cs t=>
  simp only[HO.FJ,Option.some.injEq]at j;subst j
  refine⟨h.1,?_⟩
  rcases Nat.lt_or_ge k w.heap.size with i|i
  ·exact i
  ·have:=h.2.1;simp[i]at this
 |own e sz v n xs=>exact World.ownsRow.lt h.1 b j
 |priv e sz v n xs=>exact World.ownsRow.lt h.1 b j
 |raw k o=>
  simp only[HO.FJ,Option.some.injEq]at j;subst j
  refine⟨h.1,?_⟩
  rcases Nat.lt_or_ge k w.heap.size with i|i
  ·exact i
  ·have:=h.2.1;simp[i]at this
section st
variable {w0 w w':World} {M0 M M':Mem} {Hs:List HO}
theorem St.start (b:Sat w M):St w M w M []:=⟨Below.refl _ _,b,λ _ _ _=>rfl,λ _ h=>(List.not_mem_nil h).elim,.nil⟩
theorem Aj (b:Sat w M):St w M w M []:=⟨Below.refl _ _,b,λ _ _ _=>rfl,λ _ h=>(List.not_mem_nil h).elim,.nil⟩
theorem St.size (h:St w0 M0 w M Hs):w0.heap.size<=w.heap.size:=h.low.size
theorem St.ext (h:St w0 M0 w M Hs)(e:Ext w w'):St w0 M0 w' M Hs:=
 ⟨h.low.trans (e.mono h.size),h.sat.ext e,h.old,λ x hx=>HO.WA (h.ok x hx) (λ _ b=>e.block _ (HO.ok.lt (h.ok x hx) b).2) (λ _ _ _=>rfl),h.apart⟩
theorem St.grow (h:St w0 M0 w M Hs)(g:Grow w M w' M'):St w0 M0 w' M' Hs:=
 ⟨h.low.trans (g.ext.mono h.size),g.sat,λ b o e=>(g.old b o (Nat.lt_of_lt_of_le e h.size)).trans (h.old b o e),λ x hx=>HO.WA (h.ok x hx) (λ _ e=>g.ext.block _ (HO.ok.lt (h.ok x hx) e).2) (λ _ e o=>g.old _ o (HO.ok.lt (h.ok x hx) e).2),h.apart⟩
theorem St.done (h:St w0 M0 w M Hs):Grow w0 M0 w M:=⟨h.low,h.sat,h.old⟩
theorem St.obj (h:St w0 M0 w M Hs){i:Nat}{x:HO}(hi:Hs[i]? =some x):x.ok w0.heap.size w M:=h.ok x (List.mem_of_getElem? hi)
theorem St.PJ (h:St w0 M0 w M Hs){b:Nat}(i:w.heap.size<=b)(o:Nat):M b o=none:=by
 cases e:M b o with
 |none=>rfl
 |some v=>have:=h.sat.lt e;omega
theorem heap_alloc_new(w:World)(o:Obj):(w.alloc o).heap[w.heap.size]? =some o:=by
 show(w.heap.push o)[w.heap.size]? =some o
 simp
theorem St.kD (h:St w0 M0 w M Hs)(cs:List Value)(t:TypeId):St w0 M0 (w.alloc (.cells cs.toArray t)) M (.box w.heap.size cs t::Hs):=by
 have h1:=h.ext (Ext.alloc w (.cells cs.toArray t))
 refine⟨h1.low,h1.sat,h1.old,λ x hx=>?_,List.pairwise_cons.2 ⟨λ y j b i=>?_,h.apart⟩⟩
 ·rcases List.mem_cons.1 hx with rfl|hx
  ·exact⟨h.size,heap_alloc_new _ _,λ o=>h.PJ (Nat.le_refl _) o⟩
  ·exact h1.ok x hx
 ·simp only[HO.FJ,Option.some.injEq]at i;subst i
  intro e
  have:=(HO.ok.lt (h.ok y j) e).2
  omega
theorem RD(w:World)(g:Nat)(cs old:Array Value)(t:TypeId)(b:Nat×Nat)(h:w.heap[g]? =some (.cells old t b)):(w.setRow g cs).heap[g]? =some (.cells cs t b):=by
 simp[World.setRow,Array.getElem?_modify,h]
theorem PK(w:World)(g k:Nat)(cs:Array Value)(h:k≠g):(w.setRow g cs).heap[k]? =w.heap[k]?:=by
 simp only[World.setRow,Array.getElem?_modify]
 rw[if_neg Aa]
theorem size_setRow(w:World)(g:Nat)(cs:Array Value):(w.setRow g cs).heap.size=w.heap.size:=by simp[World.setRow]
theorem WB{B:Nat}{w:World}{g:Nat}(cs:Array Value)(hg:B<=g):Below B w (w.setRow g cs):=
 ⟨rfl,rfl,rfl,by rw[size_setRow];exact Nat.le_refl _,λ k b=>PK _ _ _ _ Aa⟩
theorem TQ{Hs:List HO}(h:Hs.Pairwise (λ x y=> ∀b,x.FJ=some b->y.FJ≠some b)){i j:Nat}{x y:HO}(hi:Hs[i]? =some x)(A:Hs[j]? =some y)(k:i≠j): ∀b,x.FJ=some b->y.FJ≠some b:=by
 rw[List.pairwise_iff_getElem]at h
 have l:=List.getElem?_eq_some_iff.1 hi
 have n:=List.getElem?_eq_some_iff.1 A
 obtain⟨li,s⟩:=l
 obtain⟨w,z⟩:=n
 rcases Nat.lt_or_gt_of_ne k with e|e
 ·have:=h i j li w e;rw[s,z]at this;exact this
 ·have:=h j i w li e;rw[s,z]at this
  intro b B q;exact this b q B
theorem St.write (h:St w0 M0 w M Hs){i:Nat}{x l:HO}(hi:Hs[i]? =some x)(hw:Below w0.heap.size w w')(E:Sat w' M')(hold: ∀b o,b<w0.heap.size->M' b o=M b o)
  (B: ∀b,b<w.heap.size->x.FJ≠some b->w'.heap[b]? =w.heap[b]?) (F: ∀b,b<w.heap.size->x.FJ≠some b-> ∀o,M' b o=M b o)
  (N:l.ok w0.heap.size w' M') (z: ∀b,l.FJ=some b->x.FJ=some b\/w.heap.size<=b):St w0 M0 w' M' (Hs.set i l):=by
 have O:i<Hs.length:=(List.getElem?_eq_some_iff.1 hi).1
 have e: ∀j y,(Hs.set i l)[j]? =some y->j≠i->Hs[j]? =some y:=λ j y G P=>by
  rwa [List.getElem?_set_ne (Ne.symm P)]at G
 have C:(Hs.set i l)[i]? =some l:=by simp[O]
 refine⟨h.low.trans hw,E,λ b o A=>(hold b o A).trans (h.old b o A),λ y T=>?_,?_⟩
 ·obtain⟨j,G⟩:=List.getElem?_of_mem T
  by_cases hji:j=i
  ·subst hji;rw[C]at G;cases G;exact N
  ·have H:=e j y G hji
   have J:=TQ h.apart H hi hji
   have n:=h.obj H
   exact HO.WA n (λ b A=>B b (HO.ok.lt n A).2 (λ hx=>J b A hx)) (λ b A o=>F b (HO.ok.lt n A).2 (λ hx=>J b A hx) o)
 ·rw[List.pairwise_iff_getElem]
  intro j k V W X b q s
  have ej:(Hs.set i l)[j]? =some (Hs.set i l)[j]:=List.getElem?_eq_getElem V
  have R:(Hs.set i l)[k]? =some (Hs.set i l)[k]:=List.getElem?_eq_getElem W
  by_cases h1:j=i
  ·subst h1
   have K:=e k _ R Aa
   have Q:(Hs.set j l)[j]=l:=by simp
   rw[Q]at q
   rcases z b q with L|L
   ·exact TQ h.apart hi K Aa b L s
   ·have:=(HO.ok.lt (h.obj K) s).2;omega
  ·have D:=e j _ ej h1
   by_cases L:k=i
   ·subst L
    have Q:(Hs.set k l)[k]=l:=by simp
    rw[Q]at s
    rcases z b s with S|S
    ·exact TQ h.apart D hi h1 b q S
    ·have:=(HO.ok.lt (h.obj D) q).2;omega
   ·exact TQ h.apart D (e k _ R L) Aa b q s
theorem St.kE (h:St w0 M0 w M Hs){i b:Nat}{cs:List Value}{t:TypeId}(hi:Hs[i]? =some (.box b cs t))(cs':List Value):St w0 M0 (w.setRow b cs'.toArray) M (Hs.set i (.box b cs' t)):=by
 obtain⟨h1,s,n⟩:=h.obj hi
 have y:=(HO.ok.lt (h.obj hi) U).2
 refine h.write hi (WB _ h1) ⟨λ q o v j=>?_⟩ (λ _ _ _=>rfl) (λ k _ z=>PK _ _ _ _ (λ e=>z (by rw[e];rfl))) (λ _ _ _ _=>rfl) ⟨h1,RD _ _ _ _ _ _ s,n⟩ (λ _ A=>.inl A)
 have l:q≠b:=λ e=>by rw[e,n o]at j;cases j
 have:=h.sat.cell q o v j
 simp only[World.cell?,PK _ _ _ _ l]at this ⊢
 exact this
theorem St.drop (h:St w0 M0 w M Hs)(Hs':List HO)(b:Hs'.Sublist Hs):St w0 M0 w M Hs':=⟨h.low,h.sat,h.old,λ x hx=>h.ok x (b.subset hx),h.apart.sublist b⟩
theorem St.PL (h:St w0 M0 w M Hs)(o:Obj):St w0 M0 (w.alloc o) M (.raw w.heap.size o::Hs):=by
 have h1:=h.ext (Ext.alloc w o)
 refine⟨h1.low,h1.sat,h1.old,λ x hx=>?_,List.pairwise_cons.2 ⟨λ y j b i=>?_,h.apart⟩⟩
 ·rcases List.mem_cons.1 hx with rfl|hx
  ·exact⟨h.size,heap_alloc_new _ _,λ o=>h.PJ (Nat.le_refl _) o⟩
  ·exact h1.ok x hx
 ·simp only[HO.FJ,Option.some.injEq]at i;subst i
  intro e
  have:=(HO.ok.lt (h.ok y j) e).2
  omega
def IQ(w:World)(b:Nat)(o:Obj):World:= { w with heap:=w.heap.setIfInBounds b o}
theorem St.WC (h:St w0 M0 w M Hs){i b:Nat}{o:Obj}(hi:Hs[i]? =some (.raw b o))(n:Obj):St w0 M0 (IQ w b n) M (Hs.set i (.raw b n)):=by
 obtain⟨h1,B,A⟩:=h.obj hi
 have q:=(HO.ok.lt (h.obj hi) U).2
 have j: ∀k,k≠b->(IQ w b n).heap[k]? =w.heap[k]?:=λ k l=>by simp[IQ,Array.getElem?_setIfInBounds_ne (Ne.symm l)]
 refine h.write hi ⟨rfl,rfl,rfl,by simp[IQ],λ k l=>j k Aa⟩ ⟨λ s o v y=>?_⟩ (λ _ _ _=>rfl) (λ k _ l=>j k (λ e=>l (by rw[e];rfl))) (λ _ _ _ _=>rfl) ⟨h1,by simp[IQ,q],A⟩ (λ _ z=>.inl z)
 have z:s≠b:=λ e=>by rw[e,A o]at y;cases y
 have:=h.sat.cell s o v y
 simp only[World.cell?,j s z]at this ⊢
 exact this
theorem St.perm (h:St w0 M0 w M Hs){Hs':List HO}(hp:Hs'.Perm Hs):St w0 M0 w M Hs':=
 ⟨h.low,h.sat,h.old,λ x hx=>h.ok x (hp.mem_iff.1 hx),(hp.pairwise_iff (λ{x y} e b j i=>e b i j)).2 h.apart⟩
theorem St.erase (h:St w0 M0 w M Hs)(i:Nat){Hs':List HO}(he:Hs.eraseIdx i=Hs'):St w0 M0 w M Hs':=h.drop Hs' (he▸List.eraseIdx_sublist _ _)
end st
theorem F6(b o n:Nat):(⟨b,o,none⟩:Addr).add n=⟨b,o+n,none⟩:=by
 unfold Addr.add
 split
 ·rename_i h;subst h;rfl
 ·rfl
theorem HJ{w:World}: ∀w',w'=w->Ext w w':=λ _ h=>h▸Ext.refl w
def sb:Value->Nat
 | .slice (some a) _ _=>a.block
 |_=>0
def so:Value->Nat
 | .slice (some a) _ _=>a.off
 |_=>0
structure Sl (M:Mem) (sz n:Nat) (v:Value) (cs:List Value):Prop where
 len:cs.length=n*sz
 val: ∃p cap,v= .slice p n cap/\n<=cap/\cap<=maxLen/\(0<n-> ∃b o,p=some ⟨b,o,none⟩/\ ∀j,j<cs.length->M b (o+j)=cs[j]?)
theorem Sl.mono {M M':Mem}{sz n:Nat}{v:Value}{cs:List Value}(h:Sl M sz n v cs)(hm:M.le M'):Sl M' sz n v cs:=by
 obtain⟨p,cap,i,h1,k,l⟩:=h.val
 refine⟨h.len,p,cap,i,h1,k,λ q=>?_⟩
 obtain⟨b,o,hp,s⟩:=l q
 refine⟨b,o,hp,λ j e=>?_⟩
 have:=s j e
 rw[List.getElem?_eq_getElem e]at this ⊢
 exact hm _ _ _ this
theorem Sl.at {M:Mem}{sz n:Nat}{v:Value}{cs:List Value}(h:Sl M sz n v cs)(e:0<n):
  ∃cap,v= .slice (some ⟨sb v,so v,none⟩) n cap/\n<=cap/\cap<=maxLen/\ ∀j,j<cs.length->M (sb v) (so v+j)=cs[j]?:=by
 obtain⟨p,cap,i,h1,k,l⟩:=h.val
 obtain⟨b,o,hp,q⟩:=l e
 subst i;subst hp
 exact⟨cap,rfl,h1,k,q⟩
theorem Sl.le {M:Mem}{sz n:Nat}{v:Value}{cs:List Value}(h:Sl M sz n v cs):(n:Int)<=9223372036854775807:=by
 obtain⟨p,cap,_,h1,b,_⟩:=h.val
 simp only[maxLen]at b;omega
theorem Sl.nil (M:Mem)(sz:Nat):Sl M sz 0 (.slice none 0 0) []:=⟨by simp,none,0,rfl,Nat.le_refl _,Nat.zero_le _,λ h=>absurd h (Nat.lt_irrefl _)⟩
def at'{α:Type}[Inhabited α](l:List α)(i:Int):α:=l.getD i.toNat default
theorem DB{α:Type}[Inhabited α](l:List α){i:Int}(h0:0<=i)(h1:i<len l): ∃h:i.toNat<l.length,at' l i=l[i.toNat]:=by
 have h:i.toNat<l.length:=by unfold len at h1;omega
 exact⟨h,by simp[at',h]⟩
theorem RE{α:Type}(f:α->List Value)(sz:Nat)(b: ∀x,(f x).length=sz): ∀(l:List α) (i j:Nat) (h:i<l.length),j<sz->(l.flatMap f)[i*sz+j]? =(f l[i])[j]?
 |[],_,_,h,_=>by simp at h
 |x::l,0,j,_,e=>by
  simp only[List.flatMap_cons,Nat.zero_mul,Nat.zero_add,List.getElem_cons_zero]
  rw[List.getElem?_append_left (by rw[b];exact e)]
 |x::l,i+1,j,h,e=>by
  simp only[List.flatMap_cons,List.getElem_cons_succ]
  rw[List.getElem?_append_right (by rw[b,Nat.add_mul];omega),b,show(i+1)*sz+j-sz=i*sz+j from by rw[Nat.add_mul];omega]
  exact RE f sz b l i j (by simpa using h) e
theorem BR{α:Type}(f:α->List Value)(sz:Nat)(b: ∀x,(f x).length=sz): ∀l:List α,(l.flatMap f).length=l.length*sz
 |[]=>by simp
 |x::l=>by simp only[List.flatMap_cons,List.length_append,List.length_cons,BR f sz b l,b,Nat.add_mul];omega
section pv
variable {P:Program} {C:World->Prop} {L:Env} {W:Bool} {d:Option Tmp} {ty:TypeId} {ps:String} {af:Array Edge} {gd:Option (Nat×Bool)} {w0 w:World} {M0 M:Mem} {Hs:List HO}
theorem zC{t:TypeId}{p:Addr}{v:Value}{w':World}(b:(isAgg t).run P w'= .ok false w')(e:w'.cell? p=some v):(Instr.loadAt t (.pointer (some p))).run P w'= .ok v w':=by
 simp only[Instr.loadAt,Instr.sureAddr,loadVar,Sem.run_bind,Sem.run_pure,Result.andThen_ok,b,Bool.false_eq_true,if_false]
 simp only[load,Sem.run,e]
theorem zD{t:TypeId}{p:Addr}{cs:List Value}{w':World}(b:(isAgg t).run P w'= .ok true w')(e:(sizeOf t).run P w'= .ok cs.length w')(h: ∀j v,cs[j]? =some v->w'.cell? (p.add j)=some v):(Instr.loadAt t (.pointer (some p))).run P w'= .ok (.agg cs.toArray) w':=by
 simp only[Instr.loadAt,Instr.sureAddr,loadVar,Sem.run_bind,Sem.run_pure,Result.andThen_ok,b,if_true,e,run_loadCells_list w' p cs h]
theorem PV.WD {t:TypeId}{x:Operand}{p:Addr}{v:Value}(hx:AD L W x (.pointer (some p)))(b: ∀w,(isAgg t).run P w= .ok false w)(e:W=true-> ∀w,C w->w.cell? p=some v):PV P C L W ⟨d,.load t x,ty,ps,af,gd⟩ v:=
 .un (f:=Instr.loadAt t) (λ _=>rfl) hx λ h w' hw=>zC (b w') (e h w' hw)
theorem PV.kF {t:TypeId}{x:Operand}{p:Addr}{cs:List Value}(hx:AD L W x (.pointer (some p)))(b: ∀w,(isAgg t).run P w= .ok true w)(e: ∀w,(sizeOf t).run P w= .ok cs.length w)
  (h:W=true-> ∀w,C w-> ∀j v,cs[j]? =some v->w.cell? (p.add j)=some v):PV P C L W ⟨d,.load t x,ty,ps,af,gd⟩ (.agg cs.toArray):=
 .un (f:=Instr.loadAt t) (λ _=>rfl) hx λ i w' hw=>zD (b w') (e w') (h i w' hw)
theorem St.cell {w':World}(h:St w0 M0 w M Hs)(e:Ext w w'){i b:Nat}{cs:List Value}{t:TypeId}(hi:Hs[i]? =some (.box b cs t)){o:Nat}{v:Value}(j:cs[o]? =some v):w'.cell? ⟨b,o,none⟩=some v:=by
 have h1:=(h.ext e).obj hi
 simp only[World.cell?,h1.2.1]
 simpa using j
theorem PV.zE {t e:TypeId}{x:Operand}{i b o:Nat}{cs:List Value}{v:Value}(hS:St w0 M0 w M Hs)(hC: ∀w',C w'->Ext w w')(hi:Hs[i]? =some (.box b cs e))(hx:AD L W x (.pointer (some ⟨b,o,none⟩)))(h: ∀w,(isAgg t).run P w= .ok false w)
  (j:cs[o]? =some v):PV P C L W ⟨d,.load t x,ty,ps,af,gd⟩ v:=
 .WD hx h λ _ w' hw=>hS.cell (hC w' hw) hi j
theorem PV.zF {t h:TypeId}{x:Operand}{i b o n:Nat}{cs vs:List Value}(hS:St w0 M0 w M Hs)(hC: ∀w',C w'->Ext w w')(hi:Hs[i]? =some (.box b cs h))(hx:AD L W x (.pointer (some ⟨b,o,none⟩)))(k: ∀w,(isAgg t).run P w= .ok true w)(l: ∀w,(sizeOf t).run P w= .ok n w)
  (q:vs.length=n) (s:(cs.drop o).take n=vs):PV P C L W ⟨d,.load t x,ty,ps,af,gd⟩ (.agg vs.toArray):=by
 subst q
 refine .kF hx k l λ _ w' hw j v e=>?_
 rw[F6]
 refine hS.cell (hC w' hw) hi ?_
 rw[<-s,List.getElem?_take]at e
 split at e
 ·rw[List.getElem?_drop]at e;exact e
 ·cases e
theorem PV.zG {t:TypeId}{x:Operand}{sz n:Nat}{v:Value}{cs:List Value}(h:Sl M sz n v cs)(hx:AD L W x v)(b: ∃e,P.underlying t=some (.slice e)):PV P C L W ⟨d,.call ⟨.builtin .len,#[x],#[t]⟩,ty,ps,af,gd⟩ (i64 n):=by
 intro ac N i j w' _
 obtain⟨e,b⟩:=b
 obtain⟨p,cap,k,_⟩:=h.val
 subst k
 have key:(Builtin.len_ #[t] ty #[.slice p n cap]).run P w'= .ok (i64 n) w':=by
  simp[Builtin.len_,run_underlying b,goInt]
 simp only[execOp,resolve,invoke,builtin,List.map_toArray,List.map_cons,List.map_nil,hx ac N i j,Sem.run_bind,Sem.run_pure,Result.andThen_ok,key]
theorem PV.zH {t e:TypeId}{x y:Operand}{sz n:Nat}{v:Value}{cs:List Value}{k:IntKind}{i:Int}(h:Sl M sz n v cs)(hx:AD L W x v)(l:AD L W y (.int k i))(q:P.underlying t=some (.slice e))(s: ∀w,(sizeOf e).run P w= .ok sz w)
  (z:W=true->0<=i/\i<(n:Int)):PV P C L W ⟨d,.indexAddr t x y,ty,ps,af,gd⟩ (.pointer (some ⟨sb v,so v+i.toNat*sz,none⟩)):=by
 intro ac N b j w' _
 obtain⟨h0,h1⟩:=z j
 obtain⟨cap,A,_⟩:=h.at Aa
 have key:(Instr.indexAt t v (.int k i)).run P w'= .ok (.pointer (some ⟨sb v,so v+i.toNat*sz,none⟩)) w':=by
  rw[A]
  simp[Instr.indexAt,run_underlying q,asIntOf,h0,h1,s,F6,sb,so]
 simp only[execOp,hx ac N b j,l ac N b j]
 rw[Sem.run_bind,key]
 rfl
theorem PV.kG {t:TypeId}{x:Operand}{f:Nat}{p q:Addr}(hx:AD L W x (.pointer (some p)))(b: ∀w,(Instr.fieldAt t (.pointer (some p)) f).run P w= .ok (.pointer (some q)) w):PV P C L W ⟨d,.fieldAddr t x f,ty,ps,af,gd⟩ (.pointer (some q)):=
 .un (f:=λ v=>Instr.fieldAt t v f) (λ _=>rfl) hx λ _ w' _=>b w'
theorem PV.zI {α:Type}[Inhabited α]{f:α->List Value}{t:TypeId}{x:Operand}{sz j:Nat}{v u:Value}{l:List α}{i:Int}(hS:St w0 M0 w M Hs)(hC: ∀w',C w'->Ext w w')(h:Sl M sz l.length v (l.flatMap f))(q: ∀x,(f x).length=sz)
  (hx:AD L W x (.pointer (some ⟨sb v,so v+i.toNat*sz+j,none⟩))) (z: ∀w,(isAgg t).run P w= .ok false w) (A:W=true->0<=i/\i<len l) (B:Nat.blt j sz=true) (hu:(f (at' l i))[j]? =some u):PV P C L W ⟨d,.load t x,ty,ps,af,gd⟩ u:=by
 refine .WD hx z λ D w' hw=>?_
 obtain⟨h0,h1⟩:=A D
 have n:j<sz:=by simpa[Nat.blt_eq]using B
 obtain⟨b,e⟩:=DB l h0 h1
 obtain⟨cap,F,_,_,E⟩:=h.at Aa
 have s:=RE f sz q l i.toNat j b n
 rw[<-e,hu]at s
 have k:i.toNat*sz+j<(l.flatMap f).length:=by
  rw[BR f sz q]
  have:=Nat.mul_le_mul_right sz (show i.toNat+1<=l.length from b)
  rw[Nat.add_mul]at this;omega
 have y:=E _ k
 rw[s]at y
 rw[Nat.add_assoc]
 exact(hS.sat.ext (hC w' hw)).cell _ _ _ y
theorem PV.field {t:TypeId}{x:Operand}{f:Nat}{vx v:Value}(hx:AD L W x vx)(b: ∀w,(Instr.field t vx f).run P w= .ok v w):PV P C L W ⟨d,.field t x f,ty,ps,af,gd⟩ v:=
 .un (f:=λ v=>Instr.field t v f) (λ _=>rfl) hx λ _ w' _=>b w'
def GN(L:Env)(W:Bool):List (Nat×Operand)->List (Nat×Value)->Prop
 |[],[]=>True
 |(i,x)::xs,(j,v)::vs=>i=j/\AD L W x v/\GN L W xs vs
 |_,_=>False
theorem GN.nil:GN L W [] []:=trivial
theorem GN.cons {i:Nat}{x:Operand}{v:Value}{xs:List (Nat×Operand)}{vs:List (Nat×Value)}(h:AD L W x v)(k:GN L W xs vs):GN L W ((i,x)::xs) ((i,v)::vs):=⟨rfl,h,k⟩
theorem GN.map {a:Act}{N:Nat}(b:AW a N L)(e:W=true): ∀(xs:List (Nat×Operand)) (vs:List (Nat×Value)),GN L W xs vs->xs.map (λ p=>(p.1,a.eval p.2))=vs
 |[],[],_=>rfl
 |[],_::_,h=>h.elim
 |_::_,[],h=>h.elim
 |(i,x)::xs,(j,v)::vs,h=>by
  obtain⟨rfl,h1,k⟩:=h
  rw[List.map_cons,h1 a N b e,GN.map b e xs vs k]
theorem PV.build {t:TypeId}{xs:List (Nat×Operand)}{vs:List (Nat×Value)}{v:Value}(hx:GN L W xs vs)(b: ∀w,(Instr.build t vs.toArray).run P w= .ok v w):PV P C L W ⟨d,.build t xs.toArray,ty,ps,af,gd⟩ v:=by
 intro ac N h i w' _
 have e:xs.toArray.map (λ p=>(p.1,ac.eval p.2))=vs.toArray:=by rw[List.map_toArray,GN.map h i xs vs hx]
 simp only[execOp,e]
 rw[Sem.run_bind,b w']
 rfl
end pv
section rl
variable {P:Program} {ops:Array Oper} {Q:Exit->Act->World->Prop} {N:Nat} {rest:List Oper} {L:Env} {w0 w:World} {M0 M:Mem} {Hs:List HO} {d:Nat} {ty:TypeId} {ps:String} {af:Array Edge}
theorem RL.alloc {t:TypeId}{z:Value}(hS:St w0 M0 w M Hs)(i: ∀w,(zeroValue t).run P w= .ok z w)(hd:Nat.blt d N=true)
  (h: ∀w' b,St w0 M0 w' M (.box b z.cells.toList t::Hs)->RL P ops Q N rest ((d,true,.pointer (some ⟨b,0,none⟩))::L) w'):RL P ops Q N (⟨some d,.alloc t,ty,ps,af,none⟩::rest) L w:=by
 intro a j
 refine wpList_plain U λ K k=>?_
 have key:(Instr.alloc t true (.tuple #[])).run P w= .ok (.pointer (some ⟨w.heap.size,0,none⟩)) (w.alloc (.cells z.cells.toList.toArray t)):=by
  simp only[Instr.alloc,Sem.run_bind,i,Result.andThen_ok,newVar,newRow,newObj,Sem.run,Array.toArray_toList]
  rfl
 have e:(execOp a.eval ⟨some d,.alloc t,ty,ps,af,none⟩).run P w= .ok (.value (.pointer (some ⟨w.heap.size,0,none⟩))) (w.alloc (.cells z.cells.toList.toArray t)):=by
  simp only[execOp];rw[Sem.run_bind,key];rfl
 simp only[Oper.wp,e,Oper.upon_value]
 exact k _ _ (h _ _ (hS.kD _ t) _ (j.put hd true _))
theorem RL.box {t:TypeId}{x:Operand}{v:Value}(hS:St w0 M0 w M Hs)(hx:AD L true x v)(hd:Nat.blt d N=true)
  (h: ∀w' b,St w0 M0 w' M (.box b v.cells.toList t::Hs)->RL P ops Q N rest ((d,true,.pointer (some ⟨b,0,none⟩))::L) w'):RL P ops Q N (⟨some d,.box t x,ty,ps,af,none⟩::rest) L w:=by
 intro a i
 refine wpList_plain U λ K j=>?_
 have key:(Instr.box t v).run P w= .ok (.pointer (some ⟨w.heap.size,0,none⟩)) (w.alloc (.cells v.cells.toList.toArray t)):=by
  simp only[Instr.box,Sem.run_bind,Result.andThen_ok,newVar,newRow,newObj,Sem.run,Array.toArray_toList]
  rfl
 have e:(execOp a.eval ⟨some d,.box t x,ty,ps,af,none⟩).run P w= .ok (.value (.pointer (some ⟨w.heap.size,0,none⟩))) (w.alloc (.cells v.cells.toList.toArray t)):=by
  simp only[execOp,hx a N i U];rw[Sem.run_bind,key];rfl
 simp only[Oper.wp,e,Oper.upon_value]
 exact j _ _ (h _ _ (hS.kD _ t) _ (i.put hd true _))
def DF(cs:List Value)(o:Nat)(vs:List Value):List Value:=cs.take o++vs++cs.drop (o+vs.length)
theorem RL.kH {t s:TypeId}{x y:Operand}{i b o n:Nat}{cs cs':List Value}{v:Value}(hS:St w0 M0 w M Hs)(hi:Hs[i]? =some (.box b cs s))(hx:AD L true x (.pointer (some ⟨b,o,none⟩)))(D:AD L true y v)(E: ∀w,(sizeOf t).run P w= .ok n w)
  (F:v.cells.toList.length=n) (k:Nat.ble (o+n) cs.length=true) (h1:(v.cells.toList.all (·.oneCell'))=true) (z:DF cs o v.cells.toList=cs') {Hs':List HO} (A:Hs.set i (.box b cs' s)=Hs')
  (h: ∀w',St w0 M0 w' M Hs'->RL P ops Q N rest L w'):RL P ops Q N (⟨none,.store t x y,ty,ps,af,none⟩::rest) L w:=by
 intro a j
 refine wpList_plain U λ K G=>?_
 obtain⟨_,H,_⟩:=hS.obj hi
 have B:o+n<=cs.length:=Nat.le_of_ble_eq_true k
 have l:=run_storeCells_at P b o s v.cells.toList 0 cs.toArray w H (by simp only[List.size_toArray];omega) (List.all_eq_true.1 h1)
 have e:(cs.toArray.toList.take (o+0)++v.cells.toList++cs.toArray.toList.drop (o+0+v.cells.toList.length))=cs':=by rw[<-z];rfl
 rw[e]at l
 have C:v.cells.size=n:=by rw[<-F];simp
 have key:(Instr.storeAt t (.pointer (some ⟨b,o,none⟩)) v).run P w= .ok () (w.setRow b cs'.toArray):=by
  simp only[Instr.storeAt,Instr.sureAddr,storeVar,Sem.run_bind,Sem.run_pure,Result.andThen_ok,E,C,ne_eq,not_true_eq_false,if_false,l]
 have q:(execOp a.eval ⟨none,.store t x y,ty,ps,af,none⟩).run P w= .ok .skip (w.setRow b cs'.toArray):=by
  simp only[execOp,hx a N j U,D a N j U];rw[Sem.run_bind,key];rfl
 simp only[Oper.wp,q,Oper.upon_skip]
 exact G _ _ (h _ (A▸hS.kE hi cs') _ j)
theorem RL.aW {f:FuncId}{xs:List Operand}{vs:List Value}{v:Value}{tys:Array TypeId}{gd:Option (Nat×Bool)}{W:Bool}(hS:St w0 M0 w M Hs)(hw:DZ ops L gd W)
  (l: ∀args w,(callFunc f args).run P w= .ok (.enter f args) w) (hx:EG L W xs vs) (n:W=true->Calls P f vs.toArray w (λ e w'=>e= .returned v/\Ext w w')) (hd:Nat.blt d N=true)
  (h: ∀w',St w0 M0 w' M Hs->RL P ops Q N rest ((d,W,v)::L) w'):RL P ops Q N (⟨some d,.call ⟨.value (.func f),xs.toArray,tys⟩,ty,ps,af,gd⟩::rest) L w:=by
 intro a i
 refine wpList_step λ K k=>?_
 rw[DZ.wanted (o:=⟨some d,.call ⟨.value (.func f),xs.toArray,tys⟩,ty,ps,af,gd⟩) hw i]
 have b:=i.put hd W v
 cases W
 ·exact k _ _ (h _ hS _ b)
 ·simp only[if_true,Oper.wp,RC l hx i U,Oper.upon_enter]
  refine(n U).mono λ e w' ⟨he,j⟩=>?_
  subst he
  exact k _ _ (h _ (hS.ext j) _ b)
end rl
def RV(P:Program)(L:Env)(w:World):ResultVar->Value->Prop
 | .tmp t,v=>look L t=some (true,v)
 | .cell t ty,v=> ∃p,look L t=some (true,.pointer (some p))/\(loadVar ty p).run P w= .ok v w
def KH(tmps:Array Value):ResultVar->Sem Value
 | .tmp t=>pure (tmps.getD t undef)
 | .cell a t=>do loadVar t (<-asAddr (tmps.getD a undef))
theorem kI(fn:Func)(tmps:Array Value):results fn tmps=(do let vs <-fn.results.mapM (KH tmps);pure (if h:vs.size=1 then vs[0]else .tuple vs)):=by
 have e:(λ r=>match r with| .tmp t=>(pure (tmps.getD t undef):Sem Value)| .cell a t=>do loadVar t (<-asAddr (tmps.getD a undef)))=KH tmps:=by
  funext r;cases r<;>rfl
 rw[<-e];rfl
theorem RV.run {P:Program}{L:Env}{w:World}{r:ResultVar}{v:Value}{a:Act}{N:Nat}(h:RV P L w r v)(b:AW a N L):(KH a.tmps r).run P w= .ok v w:=by
 cases r with
 |tmp t=>simp only[KH,b.get h];rfl
 |cell t ty=>
  obtain⟨p,h1,e⟩:=h
  simp only[KH,b.get h1,asAddr,Sem.run_bind,Sem.run_pure,Result.andThen_ok,e]
theorem GY{P:Program}{w:World}{d:Nat}{xs ys:Array Value}{f:Field}{rest:List Field}{e h:Value}{r:Bool}(i:(f.name=="_")=false)(j:(part f.type xs f.offset).run P w= .ok e w)(k:(part f.type ys f.offset).run P w= .ok h w)
  (he:(Op.equalIn d f.type e h).run P w= .ok r w):(Op.eqFields d xs ys (f::rest)).run P w=if r=true then(Op.eqFields d xs ys rest).run P w else .ok false w:=by
 have b:f.name≠"_":=by simpa using i
 conv=>lhs;unfold Op.eqFields
 simp only[b,ne_eq,not_false_eq_true,if_true,Sem.run_bind,j,k,he,Result.andThen_ok]
 cases r<;>simp
theorem aX{P:Program}{w:World}{d:Nat}{xs ys:Array Value}:(Op.eqFields d xs ys []).run P w= .ok true w:=rfl
theorem aY(p q:Prop)[Decidable p][Decidable q](w:World):(if decide p=true then(.ok (decide q) w:Result Bool)else .ok false w)= .ok (decide (p/\q)) w:=by
 by_cases h:p<;>by_cases h':q<;>simp[h,h']
theorem zJ(a b:Int):(a==b)=decide (a=b):=by by_cases h:a=b<;>simp[h]
theorem zK(a b:A0):(a==b)=decide (a=b):=by by_cases h:a=b<;>simp[h]
theorem aZ(a b:Bool):(a==b)=decide (a=b):=by cases a<;>cases b<;>rfl
theorem N5{P:Program}{t:TypeId}{k:IntKind}(h:P.underlying t=some (.int k))(w:World)(d:Nat)(a b:Int):(Op.equalIn (d+1) t (.int k a) (.int k b)).run P w= .ok (decide (a=b)) w:=by
 rw[run_equalIn_int w d t k k a b h,zJ]
theorem RF{P:Program}{t:TypeId}(h:P.underlying t=some .string)(w:World)(d:Nat)(a b:A0):(Op.equalIn (d+1) t (str a) (str b)).run P w= .ok (decide (a=b)) w:=by
 rw[run_equalIn_string w d t _ _ h,O2,O2,zK]
theorem bA{P:Program}{t:TypeId}(h:P.underlying t=some .bool)(w:World)(d:Nat)(a b:Bool):(Op.equalIn (d+1) t (.bool a) (.bool b)).run P w= .ok (decide (a=b)) w:=by
 rw[run_equalIn_bool' w d t _ _ h,aZ]
theorem bB{P:Program}{t:TypeId}{xs ys:Array Value}{r:Bool}(x y:Operand)(w:World)(hg:P.eqGuardType P.depth t=false)(he:(Op.equalIn 10000 t (.agg xs) (.agg ys)).run P w= .ok r w):(do eqGuard .eql t x y (.agg xs) (.agg ys);binOp .eql t (.agg xs) (.agg ys):Sem Value).run P w= .ok (.bool r) w:=by
 rw[Sem.run_bind,run_eqGuard_agg w _ _ _ _ _ _ hg]
 simp only[Result.andThen_ok,run_eql_struct,he]
theorem zL{P:Program}{t:TypeId}{xs ys:Array Value}{r:Bool}(x y:Operand)(w:World)(hg:P.eqGuardType P.depth t=false)(he:(Op.equalIn 10000 t (.agg xs) (.agg ys)).run P w= .ok r w):(do eqGuard .neq t x y (.agg xs) (.agg ys);binOp .neq t (.agg xs) (.agg ys):Sem Value).run P w= .ok (.bool (!r)) w:=by
 rw[Sem.run_bind,run_eqGuard_agg w _ _ _ _ _ _ hg]
 simp only[Result.andThen_ok,run_neq_struct,he]
section st
variable {w0 w:World} {M0 M:Mem} {Hs:List HO}
theorem St.kJ (h:St w0 M0 w M Hs)(e:TypeId)(sz:Nat):St w0 M0 w M (.own e sz (.slice none 0 0) 0 []::Hs):=
 ⟨h.low,h.sat,h.old,λ x hx=>by
  rcases List.mem_cons.1 hx with rfl|hx
  ·exact⟨World.ownsRow_nil w _ e sz,λ b i=>(by cases i)⟩
  ·exact h.ok x hx,List.pairwise_cons.2 ⟨λ _ _ b i=>(by cases i),h.apart⟩⟩
theorem St.sl (h:St w0 M0 w M Hs){i:Nat}{e:TypeId}{sz n:Nat}{v:Value}{xs:List Value}(hi:Hs[i]? =some (.own e sz v n xs)):Sl M sz n v xs:=by
 obtain⟨⟨h1,b⟩,k⟩:=h.obj hi
 refine⟨h1,?_⟩
 rcases b with⟨rfl,rfl⟩|⟨g,cap,cur,rfl,_,_,l,q,_,_⟩
 ·exact⟨none,0,rfl,Nat.le_refl _,Nat.zero_le _,λ h=>absurd h (Nat.lt_irrefl _)⟩
 ·exact⟨_,cap,rfl,l,q,λ _=>⟨g,0,rfl,λ j s=>by rw[Nat.zero_add];exact(k g U).1 j s⟩⟩
def JY(M:Mem)(b:Nat)(xs:List Value):Mem:=λ b' o=>if b'=b then xs[o]? else M b' o
theorem St.newRow (h:St w0 M0 w M Hs)(e:TypeId)(sz n:Nat)(xs:List Value)(hl:xs.length=n*sz)(hm:n<=maxLen):
  St w0 M0 (w.alloc (.cells xs.toArray e)) (JY M w.heap.size xs) (.own e sz (.slice (some ⟨w.heap.size,0,none⟩) n n) n xs::Hs)/\M.le (JY M w.heap.size xs):=by
 have h1:=h.ext (Ext.alloc w (.cells xs.toArray e))
 have hle:M.le (JY M w.heap.size xs):=λ b o v j=>by
  have:=h.sat.lt j
  unfold JY;rw[if_neg Aa];exact j
 refine⟨⟨h1.low,⟨λ b o v j=>?_⟩,λ b o i=>(by unfold JY;rw[if_neg (by have:=h.size;omega)];exact h.old b o i),λ x hx=>?_,List.pairwise_cons.2 ⟨λ y l b i=>?_,h.apart⟩⟩,hle⟩
 ·unfold JY at j
  split at j
  ·rename_i i;subst i
   simp only[World.cell?,heap_alloc_new]
   simpa using j
  ·exact h1.sat.cell b o v j
 ·rcases List.mem_cons.1 hx with rfl|hx
  ·refine⟨⟨hl,.inr ⟨w.heap.size,n,xs.toArray,rfl,h.size,heap_alloc_new _ _,Nat.le_refl _,hm,by simpa using hl,by rw[<-hl];simp⟩⟩,λ b i=>?_⟩
   simp only[Value.ownBlock,Option.some.injEq]at i;subst i
   exact⟨λ o _=>by simp[JY],λ o ho=>by simp[JY,ho]⟩
  ·exact HO.WA (h1.ok x hx) (λ _ _=>rfl) (λ b i o=>by
    have:=(HO.ok.lt (h.ok x hx) i).2
    unfold JY;rw[if_neg Aa])
 ·simp only[HO.FJ,Value.ownBlock,Option.some.injEq]at i;subst i
  intro k
  have:=(HO.ok.lt (h.ok y l) k).2
  omega
end st
theorem kK{P:Program}(w:World)(base:Nat)(t ty e:TypeId)(i:TypeInfo)(z:Value)(size:Nat)(F:P.underlying t=some (.slice e))(hi:P.info? e=some i)(W:i.zero=some z)
  (B:i.size=size) (R:z.cells.size=size)
  (v:Value) (n:Nat) (xs:List Value) (h:w.ownsRow base e size v n xs)
  (x:Value) (m:Nat) (news:List Value) (hl:news.length=m*size) (hx: ∃p c,x= .slice p m c/\(0<m-> ∃a,p=some a/\ ∀j u,news[j]? =some u->w.cell? (a.add j)=some u)) (h1: ∀u∈news,u.oneCell'=true)
  (G:n+m<=maxLen) (s:(n+m)*i.bytes<=140737488355328) (y:base<=w.heap.size):
  ∃v' w',(Builtin.append_ #[t,t] ty #[v,x]).run P w= .ok v' w'/\w'.ownsRow base e size v' (n+m) (xs++news)/\Below base w w'/\
   (∀k,k<w.heap.size->v.ownBlock≠some k->w'.heap[k]? =w.heap[k]?)/\(∀g,v.ownBlock=some g-> ∀o,o<xs.length->w'.cell? ⟨g,o,none⟩=w.cell? ⟨g,o,none⟩)/\
   (v'.ownBlock=v.ownBlock\/ ∃b,v'.ownBlock=some b/\w.heap.size<=b):=by
 subst B
 have O:n+m<=9223372036854775807:=by simp only[maxLen]at G;omega
 have hlen:(xs++news).length=(n+m)*i.size:=by rw[List.length_append,h.1,hl,Nat.add_mul]
 obtain⟨p,c,rfl,hp⟩:=hx
 have grown: ∀(old:Nat),
   (w.drew.alloc (.cells (xs.toArray++news.toArray++Builtin.zeroCells z.cells (grownCap w (n+m) old e-(n+m))) e)).ownsRow base e i.size
    (.slice (some ⟨w.heap.size,0,none⟩) (n+m) (grownCap w (n+m) old e)) (n+m) (xs++news):=by
  intro old
  have S:=grownCap_ge w (n+m) old e
  have C:grownCap w (n+m) old e<=maxLen:=grownCap_le_maxLen w (n+m) old e G
  refine⟨hlen,.inr ⟨w.heap.size,_,_,rfl,y,heap_alloc_new w.drew _,S,C,?_,?_⟩⟩
  ·simp only[Array.size_append,List.size_toArray,size_zeroCells,R,h.1,hl,<-Nat.add_mul]
   congr 1
   omega
  ·simp only[Array.toList_append,List.append_assoc]
   rw[<-List.append_assoc,<-hlen]
   exact List.take_left
 have l: ∀o:Obj,Below base w (w.drew.alloc o)/\(∀k,k<w.heap.size->(w.drew.alloc o).heap[k]? =w.heap[k]?):=λ o=>
  ⟨((Below.refl base w).drew).alloc y o,λ k D=>Below.heap_alloc w.drew o k D⟩
 by_cases hm:m=0
 ·subst hm
  have X:news=[]:=List.eq_nil_of_length_eq_zero (by simpa using hl)
  subst X
  refine⟨v,w,?_,by simpa using h,Below.refl _ _,λ _ _ _=>rfl,λ _ _ _ _=>rfl,.inl U⟩
  rcases h.2 with⟨rfl,rfl⟩|⟨g,cap,cur,rfl,_,_,E,_⟩
  ·cases p<;>simp[Builtin.append_,run_underlying F,sizeOf,typeInfo,hi,Builtin.lenOf,Builtin.firstCells,loadCells,loadCellsFrom]
  ·cases p<;>simp[Builtin.append_,run_underlying F,sizeOf,typeInfo,hi,Builtin.lenOf,Builtin.firstCells,E,storeCells,loadCells,loadCellsFrom]
 ·obtain⟨a,rfl,q⟩:=hp Aa
  rcases h.2 with⟨rfl,rfl⟩|⟨g,cap,cur,rfl,H,hg,E,C,J,MA⟩
  ·have hx:xs=[]:=List.eq_nil_of_length_eq_zero (by simpa using h.1)
   subst hx
   have K:=run_append_nil (P:=P) w t ty e i z F hi W a m c news hl q Aa Aa (by have hb:=s;simp only[Nat.zero_add]at hb;omega)
   have L:=grown 0
   simp only[Nat.zero_add,List.nil_append,Array.empty_append]at L ⊢
   exact⟨_,_,K,L,(l _).1,λ k D _=>(l _).2 k D,λ g hg=>(by cases hg),.inr ⟨_,rfl,Nat.le_refl _⟩⟩
  ·by_cases hroom:n+m<=cap
   ·have M:n*i.size+news.length<=cur.size:=by rw[hl,J,<-Nat.add_mul];exact Nat.mul_le_mul_right _ hroom
    have K:=run_append_room (P:=P) w t ty e i F hi g n cap cur hg a m c news hl q h1 hroom M
    refine⟨_,_,K,⟨hlen,.inr ⟨g,cap,_,rfl,H,RD w g _ cur e _ hg,hroom,C,?_,?_⟩⟩,WB _ H,λ k _ D=>PK w g k _ (λ e=>D (by simp[Value.ownBlock,e])),λ Q A o ho=>?_,.inl U⟩
    ·simp only[List.size_toArray,List.length_append,List.length_take,List.length_drop,Array.length_toList]
     omega
    ·rw[MA,<-hlen]
     exact List.take_left
    ·simp only[Value.ownBlock,Option.some.injEq]at A;subst A
     simp only[World.cell?,RD w g _ cur e _ hg,hg]
     have N:o<n*i.size:=by rw[h.1]at ho;exact ho
     have T:o<cur.size:=by rw[J];exact Nat.lt_of_lt_of_le N (Nat.mul_le_mul_right _ E)
     rw[List.append_assoc]
     simp only[List.getElem?_toArray]
     rw[List.getElem?_append_left (by simp;omega),List.getElem?_take]
     simp[N,T]
   ·have holds: ∀j u,xs[j]? =some u->w.cell? ((⟨g,0,none⟩:Addr).add j)=some u:=h.cells (g:=g) U
    have K:=run_append_grow (P:=P) w t ty e i z F hi W ⟨g,0,none⟩ n cap xs h.1 holds a m c news hl q Aa Aa (growslice_fits Aa s)
    refine⟨_,_,K,grown cap,(l _).1,λ k D _=>(l _).2 k D,λ Q A o _=>?_,.inr ⟨_,rfl,Nat.le_refl _⟩⟩
    have V:Q<w.heap.size:=(World.ownsRow.lt h Q A).2
    simp only[World.cell?,(l _).2 Q V]
section st
variable {w0 w:World} {M0 M:Mem} {Hs:List HO}
theorem St.kL (h:St w0 M0 w M Hs){k:Nat}{e:TypeId}{sz n m:Nat}{v v':Value}{w':World}{xs news:List Value}(N:Hs[k]? =some (.own e sz v n xs))(q:w'.ownsRow w0.heap.size e sz v' (n+m) (xs++news))(G:Below w0.heap.size w w')
  (z: ∀k,k<w.heap.size->v.ownBlock≠some k->w'.heap[k]? =w.heap[k]?) (H: ∀g,v.ownBlock=some g-> ∀o,o<xs.length->w'.cell? ⟨g,o,none⟩=w.cell? ⟨g,o,none⟩)
  (A:v'.ownBlock=v.ownBlock\/ ∃b,v'.ownBlock=some b/\w.heap.size<=b): ∃M',St w0 M0 w' M' (Hs.set k (.own e sz v' (n+m) (xs++news)))/\M.le M':=by
 obtain⟨O,B⟩:=h.obj N
 let M':Mem:=λ b o=>match v'.ownBlock with
  |some g=>if b=g then(if o<(xs++news).length then(xs++news)[o]? else none)else M b o
  |none=>M b o
 have i: ∀b,v'.ownBlock≠some b-> ∀o,M' b o=M b o:=λ b l o=>by
  show(match v'.ownBlock with|some g=>_|none=>_)=_
  cases hv:v'.ownBlock with
  |none=>rfl
  |some g=>simp only;rw[if_neg (λ e=>l (by rw[hv,e]))]
 have j: ∀g,v'.ownBlock=some g-> ∀o,M' g o=(xs++news)[o]?:=λ g hg o=>by
  show(match v'.ownBlock with|some g=>_|none=>_)=_
  rw[hg];simp only[if_true]
  split
  ·rfl
  ·rename_i ho;rw[List.getElem?_eq_none Aa]
 have hle:M.le M':=λ b o u hu=>by
  by_cases l:v'.ownBlock=some b
  ·rcases A with s|⟨P,s,J⟩
   ·have y:v.ownBlock=some b:=by rw[<-s];exact l
    have C:o<xs.length:=by
     rcases Nat.lt_or_ge o xs.length with D|D
     ·exact D
     ·rw[(B b y).2 o D]at hu;cases hu
    rw[j b l,List.getElem?_append_left C,<-(B b y).1 o C,hu]
   ·rw[l]at s;cases s
    have:=h.sat.lt hu;omega
  ·rw[i b l,hu]
 have E:Sat w' M':=⟨λ b o u hu=>by
  by_cases l:v'.ownBlock=some b
  ·rw[j b l]at hu
   have:=q.cells l o u hu
   rwa [F6,Nat.zero_add]at this
  ·rw[i b l]at hu
   have K:=h.sat.lt hu
   by_cases y:v.ownBlock=some b
   ·have C:o<xs.length:=by
     rcases Nat.lt_or_ge o xs.length with D|D
     ·exact D
     ·rw[(B b y).2 o D]at hu;cases hu
    rw[H b y o C];exact h.sat.cell b o u hu
   ·have:=h.sat.cell b o u hu
    simp only[World.cell?,z b K y]at this ⊢;exact this⟩
 refine⟨M',?_,hle⟩
 refine h.write N G E (λ b o l=>i b (λ e=>by have:=(World.ownsRow.lt q b e).1;omega) o) (λ b l F=>z b l F) (λ b l F o=>i b (λ e=>?_) o) ⟨q,λ g hg=>⟨λ o ho=>j g hg o,λ o ho=>by rw[j g hg];exact List.getElem?_eq_none ho⟩⟩ (λ b l=>?_)
 ·rcases A with s|⟨P,s,J⟩
  ·exact F (by rw[<-e,s];rfl)
  ·rw[e]at s;cases s;omega
 ·rcases A with s|⟨P,s,J⟩
  ·exact .inl (by show v.ownBlock=some b;rw[<-s];exact l)
  ·have L:v'.ownBlock=some b:=l
   rw[L]at s;cases s;exact .inr J
theorem St.append {P:Program}(h:St w0 M0 w M Hs){k:Nat}{t ty e:TypeId}{i:TypeInfo}{z:Value}{sz n m:Nat}{v x:Value}{xs news:List Value}(L:Hs[k]? =some (.own e sz v n xs))(hx:Sl M sz m x news)
  (Q:P.underlying t=some (.slice e)) (hi:P.info? e=some i) (R:i.zero=some z) (q:i.size=sz) (E:z.cells.size=sz) (h1: ∀u∈news,u.oneCell'=true)
  (F:n+m<=maxLen) (l:(n+m)*i.bytes<=140737488355328):
  ∃v' w' M',(Builtin.append_ #[t,t] ty #[v,x]).run P w= .ok v' w'/\St w0 M0 w' M' (Hs.set k (.own e sz v' (n+m) (xs++news)))/\M.le M':=by
 obtain⟨A,N⟩:=h.obj L
 obtain⟨p,cap,rfl,S,_,hp⟩:=hx.val
 have G: ∃O c,(Value.slice p m cap)= .slice O m c/\(0<m-> ∃a,O=some a/\ ∀j u,news[j]? =some u->w.cell? (a.add j)=some u):=by
  refine⟨p,cap,rfl,λ hm=>?_⟩
  obtain⟨b,o,H,T⟩:=hp hm
  refine⟨_,H,λ j u hu=>?_⟩
  rw[F6]
  refine h.sat.cell _ _ _ ?_
  rw[T j (List.getElem?_eq_some_iff.1 hu).1,hu]
 obtain⟨v',w',V,s,B,y,C,D⟩:=kK (P:=P) w w0.heap.size t ty e i z sz Q hi R q E v n xs A _ m news hx.len G h1 F l h.size
 obtain⟨M',J,K⟩:=h.kL L s B y C D
 exact⟨v',w',M',V,J,K⟩
end st
section rl
variable {P:Program} {ops:Array Oper} {Q:Exit->Act->World->Prop} {N:Nat} {rest:List Oper} {L:Env} {w0 w:World} {M0 M:Mem} {Hs:List HO} {d:Nat} {ty:TypeId} {ps:String} {af:Array Edge}
theorem RL.buildSlice {t e:TypeId}{n sz:Nat}{xs:List (Nat×Operand)}{vs:List (Nat×Value)}{cs:List Value}(hS:St w0 M0 w M Hs)(hx:GN L true xs vs)(hl:cs.length=n*sz)(hm:Nat.ble n 9223372036854775807=true)
  (i: ∀w,(Instr.buildSlice t n vs.toArray).run P w= .ok (.slice (some ⟨w.heap.size,0,none⟩) n n) (w.alloc (.cells cs.toArray e))) (hd:Nat.blt d N=true)
  (h: ∀v w' M',St w0 M0 w' M' (.own e sz v n cs::Hs)->M.le M'->RL P ops Q N rest ((d,true,v)::L) w'):RL P ops Q N (⟨some d,.buildSlice t n xs.toArray,ty,ps,af,none⟩::rest) L w:=by
 intro a b
 refine wpList_plain U λ K j=>?_
 have k:xs.toArray.map (λ p=>(p.1,a.eval p.2))=vs.toArray:=by rw[List.map_toArray,GN.map b U xs vs hx]
 have key:(execOp a.eval ⟨some d,.buildSlice t n xs.toArray,ty,ps,af,none⟩).run P w= .ok (.value (.slice (some ⟨w.heap.size,0,none⟩) n n)) (w.alloc (.cells cs.toArray e)):=by
  simp only[execOp,k];rw[Sem.run_bind,i w];rfl
 simp only[Oper.wp,key,Oper.upon_value]
 obtain⟨h1,l⟩:=hS.newRow e sz n cs hl (by have:=Nat.le_of_ble_eq_true hm;simp only[maxLen];omega)
 exact j _ _ (h _ _ _ h1 l _ (b.put hd true _))
theorem RL.append {t e:TypeId}{s x:Operand}{i:TypeInfo}{z:Value}{k sz n m:Nat}{v vx:Value}{xs news:List Value}(hS:St w0 M0 w M Hs)(D:Hs[k]? =some (.own e sz v n xs))(E:AD L true s v)(hx:AD L true x vx)(l:Sl M sz m vx news)
  (F:P.underlying t=some (.slice e)) (hi:P.info? e=some i) (G:i.zero=some z) (j:i.size=sz) (y:z.cells.size=sz) (h1:(∀u∈news,u.oneCell'=true))
  (H:(n:Int)+m<=9223372036854775807/\((n:Int)+m)*i.bytes<=140737488355328) (hd:Nat.blt d N=true)
  (h: ∀v' w' M',St w0 M0 w' M' (Hs.set k (.own e sz v' (n+m) (xs++news)))->M.le M'->RL P ops Q N rest ((d,true,v')::L) w'):RL P ops Q N (⟨some d,.call ⟨.builtin .append,#[s,x],#[t,t]⟩,ty,ps,af,none⟩::rest) L w:=by
 intro a b
 refine wpList_plain U λ K J=>?_
 have A:(n+m)*i.bytes<=140737488355328:=by
  have C:=H.2
  rw[<-Int.natCast_add,<-Int.natCast_mul]at C
  generalize (n+m)*i.bytes=q at C ⊢
  omega
 obtain⟨v',w',M',O,B,hle⟩:=hS.append (P:=P) (ty:=ty) D l F hi G j y h1 (by simp only[maxLen];omega) A
 have key:(execOp a.eval ⟨some d,.call ⟨.builtin .append,#[s,x],#[t,t]⟩,ty,ps,af,none⟩).run P w= .ok (.value v') w':=by
  simp only[execOp,resolve,invoke,builtin,Sem.run_bind,Sem.run_pure,Result.andThen_ok,List.map_toArray,List.map_cons,List.map_nil,E a N b U,hx a N b U,O]
 simp only[Oper.wp,key,Oper.upon_value]
 exact J _ _ (h _ _ _ B hle _ (b.put hd true _))
end rl
section typed
variable {P:Program} {C:World->Prop} {L:Env} {W:Bool} {d:Option Tmp} {ty:TypeId} {ps:String} {af:Array Edge} {gd:Option (Nat×Bool)} {M:Mem}
theorem PV.bC {α:Type}{l:List α}{t:TypeId}{x:Operand}{sz:Nat}{v:Value}{cs:List Value}(h:Sl M sz l.length v cs)(hx:AD L W x v)(b: ∃e,P.underlying t=some (.slice e)):PV P C L W ⟨d,.call ⟨.builtin .len,#[x],#[t]⟩,ty,ps,af,gd⟩ (i64 (len l)):=PV.zG h hx b
theorem PV.zM {α:Type}{l:List α}{t e:TypeId}{x y:Operand}{sz:Nat}{v:Value}{cs:List Value}{k:IntKind}{i:Int}(h:Sl M sz l.length v cs)(hx:AD L W x v)(b:AD L W y (.int k i))(j:P.underlying t=some (.slice e))(n: ∀w,(sizeOf e).run P w= .ok sz w)
 (q:W=true->0<=i/\i<len l):PV P C L W ⟨d,.indexAddr t x y,ty,ps,af,gd⟩ (.pointer (some ⟨sb v,so v+i.toNat*sz,none⟩)):=PV.zH h hx b j n q
end typed
section rl
variable {P:Program} {ops:Array Oper} {Q:Exit->Act->World->Prop} {N:Nat} {rest:List Oper} {L:Env} {w0 w:World} {M0 M:Mem} {Hs:List HO} {d:Nat} {ty:TypeId} {ps:String} {af:Array Edge}
theorem RL.zN {α:Type}{f:α->List Value}{l m:List α}{t e:TypeId}{s x:Operand}{i:TypeInfo}{z:Value}{k sz by':Nat}{v vx:Value}(hS:St w0 M0 w M Hs)(E:Hs[k]? =some (.own e sz v l.length (l.flatMap f)))(F:AD L true s v)(hx:AD L true x vx)(j:Sl M sz m.length vx (m.flatMap f))
  (G:P.underlying t=some (.slice e)) (hi:P.info? e=some i) (H:i.zero=some z) (b:i.size=sz) (n:z.cells.size=sz) (h1: ∀x,∀u∈f x,u.oneCell'=true) (q:i.bytes=by') (A:Nat.blt 0 by'=true)
  (C:(len l+len m)*by'<=140737488355328) (hd:Nat.blt d N=true) {Hs':Value->List HO} (B: ∀v',Hs.set k (.own e sz v' (l++m).length ((l++m).flatMap f))=Hs' v')
  (h: ∀v' w' M',St w0 M0 w' M' (Hs' v')->M.le M'->RL P ops Q N rest ((d,true,v')::L) w'):RL P ops Q N (⟨some d,.call ⟨.builtin .append,#[s,x],#[t,t]⟩,ty,ps,af,none⟩::rest) L w:=by
 subst q
 have D:0<i.bytes:=by simpa[Nat.blt_eq]using A
 unfold len at C
 refine RL.append hS E F hx j G hi H b n (λ u hu=>?_) ⟨?_,C⟩ hd λ v' w' M' J K=>h v' w' M' ?_ K
 ·obtain⟨y,_,O⟩:=List.mem_flatMap.1 hu
  exact h1 y u O
 ·have:((l.length:Int)+m.length)*1<=((l.length:Int)+m.length)*i.bytes:=Int.mul_le_mul_of_nonneg_left Aa Aa
  omega
 ·rw[<-B v',List.length_append,List.flatMap_append];exact J
end rl
section rq
variable {P:Program} {ops:Array Oper} {C:World->Prop} {post:Act->Prop} {N:Nat} {rest:List Oper} {L:Env} {d:Nat} {op:Op} {ty:TypeId} {ps:String} {af:Array Edge} {gd:Option (Nat×Bool)} {W:Bool} {u:Value}
def RQ(P:Program)(ops:Array Oper)(C:World->Prop)(N:Nat)(post:Act->Prop)(l:List Oper)(L:Env):Prop:= ∀a,AW a N L->wpQuiet P ops C post l a
theorem RQ.v (hw:DZ ops L gd W)(hp:PV P C L W ⟨some d,op,ty,ps,af,gd⟩ u)(hd:Nat.blt d N=true)(h:RQ P ops C N post rest ((d,W,u)::L)):RQ P ops C N post (⟨some d,op,ty,ps,af,gd⟩::rest) L:=by
 intro a e
 unfold wpQuiet
 rw[DZ.wanted (o:=⟨some d,op,ty,ps,af,gd⟩) hw e]
 have b:=e.put hd W u
 cases W
 ·exact h _ b
 ·refine⟨u,λ w i=>?_,h _ b⟩
  simp only[Oper.quietAt,hp a N e U w i,Oper.quietUpon,and_self]
theorem RQ.call {f:FuncId}{xs:List Operand}{vs:List Value}{tys:Array TypeId}(hw:DZ ops L gd W)(k: ∀args w,(callFunc f args).run P w= .ok (.enter f args) w)(hx:EG L W xs vs)
  (l:W=true-> ∀w,C w->Calls P f vs.toArray w (λ e w'=>e= .returned u/\C w')) (hd:Nat.blt d N=true) (h:RQ P ops C N post rest ((d,W,u)::L)):RQ P ops C N post (⟨some d,.call ⟨.value (.func f),xs.toArray,tys⟩,ty,ps,af,gd⟩::rest) L:=by
 intro a i
 unfold wpQuiet
 rw[DZ.wanted (o:=⟨some d,.call ⟨.value (.func f),xs.toArray,tys⟩,ty,ps,af,gd⟩) hw i]
 have b:=i.put hd W u
 cases W
 ·exact h _ b
 ·refine⟨u,λ w j=>?_,h _ b⟩
  simp only[Oper.quietAt,RC k hx i U,Oper.quietUpon,true_and]
  exact l U w j
theorem RQ.nil (h: ∀a,AW a N L->post a):RQ P ops C N post [] L:=λ a b=>wpQuiet_nil (h a b)
theorem CW.bE {Q:Exit->Act->World->Prop}{w0 w:World}{M0 M:Mem}{Hs:List HO}{id:Nat}{l:List Oper}(hS:St w0 M0 w M Hs)(hm:P.follows .mixedOrders=true)(n:Region.lexB .any l.toArray=true)
  (h:RQ P l.toArray (λ w'=>Ext w w') N (λ a=> ∀w',St w0 M0 w' M Hs->Q .normal a w') l L):CW P (.region id l.toArray true) Q N L w:=by
 intro a s
 refine wp_region_quiet (C:=λ w'=>Ext w w') hm n (Ext.drew w) ?_
 have h1:=h a s
 have e: ∀(l:List Oper) (ops:Array Oper) (a:Act) (p q:Act->Prop),(∀a,p a->q a)->wpQuiet P ops (λ w'=>Ext w w') p l a->wpQuiet P ops (λ w'=>Ext w w') q l a:=by
  intro l ops
  induction l with
  |nil=>intro a p q b hp;exact b a hp
  |cons o l k=>
   intro a p q b hp
   unfold wpQuiet at hp ⊢
   split
   ·rename_i hw
    rw[if_pos hw]at hp
    obtain⟨v,i,j⟩:=hp
    exact⟨v,i,k _ p q b j⟩
   ·rename_i hw
    rw[if_neg hw]at hp
    exact k _ p q b hp
 exact e l l.toArray a _ _ (λ a' y w' he=>y w' (hS.ext he)) h1
end rq
section rs
variable {P:Program} {ops:Array Oper} {w1:World} {post:Act->Prop} {N:Nat} {rest:List Oper} {L:Env} {d:Nat} {op:Op} {ty:TypeId} {ps:String} {af:Array Edge} {gd:Option (Nat×Bool)} {W:Bool} {u:Value}
def RS(P:Program)(ops:Array Oper)(w1:World)(N:Nat)(post:Act->Prop)(l:List Oper)(L:Env):Prop:= ∀a,AW a N L->wpStill P ops w1 post l a
theorem RS.v (hw:DZ ops L gd W)(hp:PV P (· =w1) L W ⟨some d,op,ty,ps,af,gd⟩ u)(hd:Nat.blt d N=true)(h:RS P ops w1 N post rest ((d,W,u)::L)):RS P ops w1 N post (⟨some d,op,ty,ps,af,gd⟩::rest) L:=by
 intro a e
 unfold wpStill
 rw[DZ.wanted (o:=⟨some d,op,ty,ps,af,gd⟩) hw e]
 have b:=e.put hd W u
 cases W
 ·exact h _ b
 ·simp only[if_true,Oper.still,hp a N e U w1 U,Oper.stillUpon_value]
  exact h _ b
theorem RS.nil {Q:Exit->Act->World->Prop}{l:List Oper}(h:RL P ops Q N l L w1):RS P ops w1 N (λ a'=>wpList P ops Q l a' w1) [] L:=λ a b=>wpStill_nil (h a b)
theorem CW.zO {Q:Exit->Act->World->Prop}{w0 w:World}{M0 M:Mem}{Hs:List HO}{id:Nat}{l:List Oper}(n:Nat)(hS:St w0 M0 w M Hs)(hm:P.follows .mixedOrders=true)(b:Region.lexTailB .any l.toArray n=true)
  (h: ∀w1,St w0 M0 w1 M Hs->RS P l.toArray w1 N (λ a'=>wpList P l.toArray Q (l.drop n) a' w1) (l.take n) L):CW P (.region id l.toArray true) Q N L w:=
 λ a e=>wp_region_still_tail n hm b (h _ (hS.ext (Ext.drew w)) a e)
end rs
def AX(s:A0)(i:Int):Int:=((Utf8.decode ⟨⟨s⟩⟩ i.toNat).1:Nat)
def runeLen(s:A0)(i:Int):Int:=((Utf8.decode ⟨⟨s⟩⟩ i.toNat).2:Nat)
section rl
variable {P:Program} {ops:Array Oper} {Q:Exit->Act->World->Prop} {N:Nat} {rest:List Oper} {L:Env} {w0 w:World} {M0 M:Mem} {Hs:List HO} {d:Nat} {ty:TypeId} {ps:String} {af:Array Edge}
theorem RL.bF {t:TypeId}{x:Operand}{s:A0}(hS:St w0 M0 w M Hs)(hx:AD L true x (str s))(i:P.underlying t=some .string)(hd:Nat.blt d N=true)
  (h: ∀w' b,St w0 M0 w' M (.raw b (.stringIter ⟨⟨s⟩⟩ (0:Int).toNat)::Hs)->RL P ops Q N rest ((d,true,.pointer (some ⟨b,0,none⟩))::L) w'):RL P ops Q N (⟨some d,.range t x,ty,ps,af,none⟩::rest) L w:=by
 intro a e
 refine wpList_plain U λ K j=>?_
 have key:(execOp a.eval ⟨some d,.range t x,ty,ps,af,none⟩).run P w= .ok (.value (.pointer (some ⟨w.heap.size,0,none⟩))) (w.alloc (.stringIter ⟨⟨s⟩⟩ 0)):=by
  simp only[execOp,hx a N e U];rw[Sem.run_bind,run_range_string w t _ i];rfl
 simp only[Oper.wp,key,Oper.upon_value]
 exact j _ _ (h _ _ (hS.PL _) _ (e.put hd true _))
theorem RL.bG {x:Operand}{s:A0}{i b:Nat}{p:Int}(hS:St w0 M0 w M Hs)(hi:Hs[i]? =some (.raw b (.stringIter ⟨⟨s⟩⟩ p.toNat)))(hx:AD L true x (.pointer (some ⟨b,0,none⟩)))(hp:0<=p)(hd:Nat.blt d N=true)
  (h1:p<len s-> ∀w',St w0 M0 w' M (Hs.set i (.raw b (.stringIter ⟨⟨s⟩⟩ (p+runeLen s p).toNat)))->RL P ops Q N rest ((d,true,.tuple #[.bool true,i64 p,.int .i32 (AX s p)])::L) w')
  (n: ¬p<len s->RL P ops Q N rest ((d,true,.tuple #[.bool false])::L) w):RL P ops Q N (⟨some d,.next x true,ty,ps,af,none⟩::rest) L w:=by
 intro a j
 refine wpList_plain U λ K l=>?_
 have k:=(hS.obj hi).2.1
 by_cases hlt:p<len s
 ·have e:p.toNat<(ByteArray.mk ⟨s⟩).size:=by show p.toNat<s.length;unfold len at hlt;omega
  have q:(p+runeLen s p).toNat=p.toNat+(Utf8.decode ⟨⟨s⟩⟩ p.toNat).2:=by unfold runeLen;omega
  have key:(Instr.next (.pointer (some ⟨b,0,none⟩)) true ty).run P w= .ok (.tuple #[.bool true,i64 p,.int .i32 (AX s p)]) (IQ w b (.stringIter ⟨⟨s⟩⟩ (p+runeLen s p).toNat)):=by
   rw[q]
   simp only[Instr.next,getObj,setObj,Sem.run_bind,Sem.run,k,Result.andThen,e,if_true,IQ,AX,goInt,i64]
   simp[Int.toNat_of_nonneg hp,Sem.run,k]
  have h:(execOp a.eval ⟨some d,.next x true,ty,ps,af,none⟩).run P w= .ok (.value (.tuple #[.bool true,i64 p,.int .i32 (AX s p)])) (IQ w b (.stringIter ⟨⟨s⟩⟩ (p+runeLen s p).toNat)):=by
   simp only[execOp,hx a N j U];rw[Sem.run_bind,key];rfl
  simp only[Oper.wp,h,Oper.upon_value]
  exact l _ _ (h1 hlt _ (hS.WC hi _) _ (j.put hd true _))
 ·have e: ¬p.toNat<(ByteArray.mk ⟨s⟩).size:=by show ¬p.toNat<s.length;unfold len at hlt;omega
  have key:(Instr.next (.pointer (some ⟨b,0,none⟩)) true ty).run P w= .ok (.tuple #[.bool false]) w:=by
   simp[Instr.next,getObj,Sem.run,k,e]
  have h:(execOp a.eval ⟨some d,.next x true,ty,ps,af,none⟩).run P w= .ok (.value (.tuple #[.bool false])) w:=by
   simp only[execOp,hx a N j U];rw[Sem.run_bind,key];rfl
  simp only[Oper.wp,h,Oper.upon_value]
  exact l _ _ (n hlt _ (j.put hd true _))
theorem bH{f:FuncId}(i: ∀args w,(callFunc f args).run P w= .ok (.enter f args) w){W:Bool}{x:Operand}{xs:List Operand}{vs fs cs:List Value}(j:AD L W x (.func (.func f) fs.toArray cs.toArray))(hx:EG L W xs vs){a:Act}{N:Nat}(b:AW a N L)(h:W=true){d:Option Tmp}{tys:Array TypeId}{ty:TypeId}{ps:String}{af:Array Edge}{gd:Option (Nat×Bool)}:
  (execOp a.eval ⟨d,.call ⟨.value x,xs.toArray,tys⟩,ty,ps,af,gd⟩).run P w= .ok (.enter f (fs++vs++cs).toArray) w:=by
 have e:xs.toArray.map a.eval=vs.toArray:=by rw[List.map_toArray,EG.map b h xs vs hx]
 simp only[execOp,resolve,e,j a N b h,Deferred.ofValue,invoke,Sem.run_bind,Sem.run_pure,Result.andThen_ok]
 simpa using i (fs++vs++cs).toArray w
end rl
theorem PV.makeFunc {P:Program}{C:World->Prop}{L:Env}{W:Bool}{d:Option Tmp}{ty:TypeId}{ps:String}{af:Array Edge}{gd:Option (Nat×Bool)}{fn:Fn}{xs ys:List Operand}{vs us:List Value}(hx:EG L W xs vs)(h:EG L W ys us):PV P C L W ⟨d,.makeFunc fn xs.toArray ys.toArray,ty,ps,af,gd⟩ (.func fn vs.toArray us.toArray):=by
 intro a N b e w _
 have i:xs.toArray.map a.eval=vs.toArray:=by rw[List.map_toArray,EG.map b e xs vs hx]
 have e2:ys.toArray.map a.eval=us.toArray:=by rw[List.map_toArray,EG.map b e ys us h]
 simp only[execOp,i,e2,Instr.makeFunc,Sem.run_bind,Sem.run_pure,Result.andThen_ok]
theorem PV.zP {P:Program}{C:World->Prop}{L:Env}{W:Bool}{d:Option Tmp}{ty:TypeId}{ps:String}{af:Array Edge}{gd:Option (Nat×Bool)}{x:Operand}{p:Addr}(hx:AD L W x (.pointer (some p))):PV P C L W ⟨d,.nilCheck x,ty,ps,af,gd⟩ (.pointer (some p)):=by
 intro a N b e w _
 simp only[execOp,hx a N b e]
 rfl
theorem zQ{P:Program}{fn:Func}{R:Ending->World->Prop}{N:Nat}{L:Env}{w:World}(b:fn.results= #[])(h:R (.returned (.tuple #[])) w): ∀a,AW a N L->bodyPost P fn R .normal a w:=
 λ a e=>bodyPost_end (results_none b _ _ _) e.E4 h
structure Nd where
 kind:Int
 many:Int
 name:A0
 s:A0
 neg:Bool
 e:Int
 deriving DecidableEq,Inhabited
structure Tk where
 kind:Int
 s:A0
 c:Nd
 pos:Int
 deriving DecidableEq,Inhabited
def Nd.cells (n:Nd):List Value:=[i64 n.kind,i64 n.many,str n.name,str n.s,.bool n.neg,i64 n.e]
def Tk.cells (t:Tk):List Value:=[i64 t.kind,str t.s,i64 t.c.kind,i64 t.c.many,str t.c.name,str t.c.s,.bool t.c.neg,i64 t.c.e,i64 t.pos]
abbrev EH(n:Nd):Value:=.agg #[i64 n.kind,i64 n.many,str n.name,str n.s,.bool n.neg,i64 n.e]
theorem Nd.AO (n:Nd):(Nd.cells n).length=6:=rfl
theorem Nd.cells_one (n:Nd): ∀u∈Nd.cells n,u.oneCell'=true:=by intro u hu;simp[Nd.cells]at hu;rcases hu with rfl|rfl|rfl|rfl|rfl|rfl<;>rfl
def B6:Nd:=⟨0,0,[],[],false,0⟩
def CO(s:A0):List Value:=[str s]
theorem FY(s:A0):(CO s).length=1:=rfl
theorem bI(s:A0): ∀u∈CO s,u.oneCell'=true:=by intro u hu;simp[CO]at hu;subst hu;rfl
theorem zR{s:A0}{i:Int}(h0:0<=i)(h1:i<len s): ∃h:i.toNat<s.length,A4 s i=((s[i.toNat].toNat:Nat):Int):=by
 have h:i.toNat<s.length:=by unfold len at h1;omega
 exact⟨h,by simp[A4,h]⟩
def F7(c:Int):Bool:=decide (97<=c)&&decide (c<=122)||decide (65<=c)&&decide (c<=90)||c==95
def C1(c:Int):Bool:=decide (48<=c)&&decide (c<=57)
def O4(c:Int):Bool:=c==32||c==9||c==10||c==13
theorem zS{s:A0}{i:Int}(h0:0<=i)(h1:i<len s): ∃h:i.toNat<(ByteArray.mk ⟨s⟩).size,(((ByteArray.mk ⟨s⟩)[i.toNat]'h).toNat:Int)=A4 s i:=by
 have h:i.toNat<s.length:=by unfold len at h1;omega
 exact⟨h,by simp[A4,h];rfl⟩
theorem kM{s:A0}{i:Int}(h0:0<=i)(h1:i<len s)(b:A4 s i<128):AX s i=A4 s i/\runeLen s i=1:=by
 obtain⟨h,e⟩:=zS h0 h1
 have:=decode_ascii ⟨⟨s⟩⟩ i.toNat h Aa
 unfold AX runeLen;rw[this];exact⟨e,rfl⟩
def CJ(r:Int)(first:Bool):Bool:=F7 r||(!first&&C1 r)
theorem zT{r:Int}{f:Bool}(h:128<=r):CJ r f=false:=by
 have b:F7 r=false:=by
  unfold F7;simp only[Bool.or_eq_false_iff,Bool.and_eq_false_iff,decide_eq_false_iff_not,beq_eq_false_iff_ne];omega
 have e2:C1 r=false:=by
  unfold C1;simp only[Bool.and_eq_false_iff,decide_eq_false_iff_not];omega
 simp[CJ,b,e2]
def CX(s:A0)(i:Int):Int:=
 if h:0<=i/\i<len s then if CJ (A4 s i) (i==0)then CX s (i+1)else i else i
termination_by (len s-i).toNat
decreasing_by omega
theorem TR{s:A0}{i:Int}(h0:0<=i)(h1:i<len s)(b:CJ (A4 s i) (i==0)=true):CX s (i+1)=CX s i:=by
 conv=>rhs;rw[CX]
 rw[dif_pos ⟨h0,h1⟩,if_pos b]
theorem TU{s:A0}{i:Int}(h0:0<=i)(h1:i<len s)(b:CJ (A4 s i) (i==0)=false):CX s i=i:=by
 rw[CX,dif_pos ⟨h0,h1⟩,b];rfl
theorem TV{s:A0}{i:Int}(h1: ¬i<len s):CX s i=i:=by
 rw[CX,dif_neg Aa]
def B8(s:A0):A0:=Eng.sub s 0 (CX s 0)
def cont(s:A0)(i:Int):Bool:=decide (i<len s)&&decide (128<=A4 s i)&&decide (A4 s i<192)
def rune(s:A0)(i:Int):Int:=
 let c:=A4 s i
 if c<128 then 1
 else if decide (194<=c)&&decide (c<224)&&cont s (i+1)then 2
 else if decide (224<=c)&&decide (c<240)&&cont s (i+1)&&cont s (i+2)then
  if c==224&&decide (A4 s (i+1)<160)||c==237&&decide (160<=A4 s (i+1))then 0 else 3
 else if decide (240<=c)&&decide (c<245)&&cont s (i+1)&&cont s (i+2)&&cont s (i+3)then
  if c==240&&decide (A4 s (i+1)<144)||c==244&&decide (144<=A4 s (i+1))then 0 else 4
 else 0
def GO(s:A0)(i:Int):Bool:=
 if h:0<=i/\i<len s then
  if h2:0<rune s i then GO s (i+rune s i)else false
 else true
termination_by (len s-i).toNat
decreasing_by omega
def CY(s:A0):Bool:=GO s 0
theorem M4(s:A0)(i:Int):0<=rune s i/\rune s i<=4:=by
 unfold rune;dsimp only;repeat' split
 all_goals omega
theorem TW{s:A0}{i:Int}(h:cont s i=true):i<len s:=by
 unfold cont at h;simp only[Bool.and_eq_true,decide_eq_true_eq]at h;exact h.1.1
theorem rune_le(s:A0)(i:Int)(h1:i<len s):i+rune s i<=len s:=by
 have b:cont s (i+1)=true->i+1<len s:=TW
 have c2:cont s (i+2)=true->i+2<len s:=TW
 have c3:cont s (i+3)=true->i+3<len s:=TW
 unfold rune;dsimp only;repeat' split
 all_goals first|omega|(simp_all;done)|(simp_all;omega)
theorem N6(s:A0)(i:Int)(h0:0<=i)(h1:i<len s)(b:0<rune s i):GO s (i+rune s i)=GO s i:=by
 conv=>rhs;rw[GO]
 rw[dif_pos ⟨h0,h1⟩,dif_pos b]
theorem TX(s:A0)(i:Int)(h0:0<=i)(h1:i<len s)(b:rune s i=0):GO s i=false:=by
 rw[GO,dif_pos ⟨h0,h1⟩,dif_neg Aa]
theorem WE(s:A0)(i:Int)(h1: ¬i<len s):GO s i=true:=by
 rw[GO,dif_neg Aa]
def L3(s:A0)(i:Int):Bool:=
 if h:0<=i/\i<len s then
  if F7 (A4 s i)||i != 0&&C1 (A4 s i)then L3 s (i+1)else false
 else s != []
termination_by (len s-i).toNat
decreasing_by omega
def FZ(s:A0):Bool:=L3 s 0
theorem kN(s:A0)(i:Int)(h0:0<=i)(h1:i<len s)(b:(F7 (A4 s i)||i != 0&&C1 (A4 s i))=true):L3 s (i+1)=L3 s i:=by
 conv=>rhs;rw[L3]
 rw[dif_pos ⟨h0,h1⟩,if_pos b]
theorem kO(s:A0)(i:Int)(h0:0<=i)(h1:i<len s)(b: ¬(F7 (A4 s i)||i != 0&&C1 (A4 s i))=true):L3 s i=false:=by
 rw[L3,dif_pos ⟨h0,h1⟩,if_neg b]
theorem kP(s:A0)(i:Int)(h1: ¬i<len s):L3 s i=(s != []):=by
 rw[L3,dif_neg Aa]
def L4(s:A0)(i:Int):Bool:=
 if h:0<=i/\i<len s then
  if C1 (A4 s i)then L4 s (i+1)else false
 else true
termination_by (len s-i).toNat
decreasing_by omega
def JB(s:A0):Bool:=L4 s 0
theorem kQ(s:A0)(i:Int)(h0:0<=i)(h1:i<len s)(b:C1 (A4 s i)=true):L4 s (i+1)=L4 s i:=by
 conv=>rhs;rw[L4]
 rw[dif_pos ⟨h0,h1⟩,if_pos b]
theorem kR(s:A0)(i:Int)(h0:0<=i)(h1:i<len s)(b: ¬C1 (A4 s i)=true):L4 s i=false:=by
 rw[L4,dif_pos ⟨h0,h1⟩,if_neg b]
theorem bJ(s:A0)(i:Int)(h1: ¬i<len s):L4 s i=true:=by
 rw[L4,dif_neg Aa]
def JC(n:Nd):Bool:=
 if n.kind != 3||n.many != 0|| !(n.name==[])|| !(JB n.s)||decide (100<len n.s)||decide (n.e< -1000)||decide (1000<n.e)||decide (1000<len n.s+n.e)then false
 else if n.s==[]then !n.neg&&n.e==0
 else A4 n.s 0 != 48&&A4 n.s (len n.s-1) != 48
theorem sub_succ{α:Type}[Inhabited α](a:List α)(k:Int)(h0:0<=k)(h1:k<len a):Eng.sub a 0 (k+1)=Eng.sub a 0 k++[a.getD k.toNat default]:=by
 have b:k.toNat<a.length:=by unfold len at h1;omega
 unfold Eng.sub
 rw[show(k+1).toNat=k.toNat+1 from by omega]
 simp only[Int.toNat_zero,List.drop_zero,Nat.sub_zero]
 rw[List.take_succ_eq_append_getElem b]
 simp[b]
theorem O5{α:Type}(a:List α)(k:Int)(h:len a<=k):Eng.sub a 0 k=a:=by
 unfold Eng.sub;unfold len at h
 simp only[Int.toNat_zero,List.drop_zero,Nat.sub_zero]
 exact List.take_of_length_le Aa
def GG:List A0:=[[61,61],[33,61],[60,61],[62,61],[46],[124],[44],[58],[40],[41],[91],[93],[123],[125],[60],[62],[63]]
def bK(s:A0):Bool:=GG.contains s
def HK(t:Tk):Bool:=
 if t.kind==1 then bK t.s&&decide (t.c=B6)
 else if t.kind==2 then FZ t.s&&decide (t.c=B6)
 else if t.kind==3||t.kind==4 then CY t.s&&decide (t.c=B6)
 else if t.kind==5 then t.s==[]&&JC t.c
 else false
theorem RG{α:Type}[Inhabited α]{l:List α}{k:Int}(h0:0<=k)(h1:k<len l):l.getD k.toNat default∈l:=by
 have b:k.toNat<l.length:=by unfold len at h1;omega
 simp[b]
def strip(p:Bool)(t:Tk):Tk:=if p then t else{ t with pos:=0}
end Go.Eng
