/- Lemmas for the card. -/
import Derived.Test.YtmjpjbmeamnfpaaGreatDoorZf0
import Derived.StillTail
set_option linter.unusedVariables false
set_option linter.unusedSimpArgs false
namespace Go.Eng
open Go.RowKit
abbrev Mem:=Nat->Nat->Option Value
abbrev nM:Mem:=λ _ _=>none
abbrev Ext(w w':World):Prop:=Below w.heap.size w w'
theorem Ext.refl (w:World):Ext w w:=Below.refl _ _
theorem Ext.trans {a b c:World}(h:Ext a b)(k:Ext b c):Ext a c:=Below.trans h (Below.mono k h.size)
theorem Ext.alloc (w:World)(o:Obj):Ext w (w.alloc o):=(Below.refl _ _).alloc (Nat.le_refl _) o
theorem Ext.drew (w:World):Ext w w.drew:=(Below.refl _ _).drew
theorem lt_of_cell{w:World}{b o:Nat}{v:Value}(h:w.cell? ⟨b,o,none⟩=some v):b<w.heap.size:=by
 rcases Nat.lt_or_ge b w.heap.size with h'|h'
 ·exact h'
 ·simp[World.cell?,h']at h
structure Sat (w:World) (M:Mem):Prop where
 cell: ∀b o v,M b o=some v->w.cell? ⟨b,o,none⟩=some v
theorem Sat.lt {w:World}{M:Mem}(h:Sat w M){b o:Nat}{v:Value}(hv:M b o=some v):b<w.heap.size:=lt_of_cell (h.cell b o v hv)
theorem Sat.ext {w w':World}{M:Mem}(h:Sat w M)(e:Ext w w'):Sat w' M:=
 ⟨λ b o v hv=>(e.cell (p:=⟨b,o,none⟩) (h.lt hv)).trans (h.cell b o v hv)⟩
structure Grow (w:World) (M:Mem) (w':World) (M':Mem):Prop where
 ext:Ext w w'
 sat:Sat w' M'
 old: ∀b o,b<w.heap.size->M' b o=M b o
def Mem.le (M M':Mem):Prop:= ∀b o v,M b o=some v->M' b o=some v
theorem Mem.le.refl (M:Mem):M.le M:=λ _ _ _ h=>h
theorem Mem.le.trans {M N K:Mem}(h:M.le N)(k:N.le K):M.le K:=λ b o v hv=>k b o v (h b o v hv)
theorem Grow.le {w w':World}{M M':Mem}(g:Grow w M w' M')(hs:Sat w M):M.le M':=λ b o v h=>(g.old b o (hs.lt h)).trans h
theorem Grow.sJ {w w':World}{M:Mem}(hs:Sat w M)(e:Ext w w'):Grow w M w' M:=⟨e,hs.ext e,λ _ _ _=>rfl⟩
inductive HO where
 |box (b:Nat) (cs:List Value) (t:TypeId)
 |own (e:TypeId) (sz:Nat) (v:Value) (n:Nat) (xs:List Value)
 |raw (b:Nat) (o:Obj)
 |priv (e:TypeId) (sz:Nat) (v:Value) (n:Nat) (xs:List Value)
def HO.EF:HO->Option Nat
 | .box b _ _=>some b
 | .own _ _ v _ _=>v.ownBlock
 | .raw b _=>some b
 | .priv _ _ v _ _=>v.ownBlock
def HO.ok (base:Nat)(w:World)(M:Mem):HO->Prop
 | .box b cs t=>base<=b/\w.heap[b]? =some (.cells cs.toArray t (0,0))/\ ∀o,M b o=none
 | .own e sz v n xs=>w.ownsRow base e sz v n xs/\ ∀b,v.ownBlock=some b->(∀o,o<xs.length->M b o=xs[o]?)/\(∀o,xs.length<=o->M b o=none)
 | .raw b o=>base<=b/\w.heap[b]? =some o/\ ∀o',M b o'=none
 | .priv e sz v n xs=>w.ownsRow base e sz v n xs/\ ∀b,v.ownBlock=some b-> ∀o,M b o=none
structure St (w0:World) (M0:Mem) (w:World) (M:Mem) (Hs:List HO):Prop where
 low:Below w0.heap.size w0 w
 sat:Sat w M
 old: ∀b o,b<w0.heap.size->M b o=M0 b o
 ok: ∀x∈Hs,x.ok w0.heap.size w M
 apart:Hs.Pairwise (λ x y=> ∀b,x.EF=some b->y.EF≠some b)
theorem eU{w w':World}{base:Nat}{e:TypeId}{sz n:Nat}{v:Value}{xs:List Value}(h:w.ownsRow base e sz v n xs)(hb: ∀b,v.ownBlock=some b->w'.heap[b]? =w.heap[b]?):w'.ownsRow base e sz v n xs:=by
 obtain⟨h1,h2⟩:=h
 refine⟨h1,?_⟩
 rcases h2 with h2|⟨g,cap,cur,hv,hg,hh,r⟩
 ·exact .inl h2
 ·exact .inr ⟨g,cap,cur,hv,hg,by rw[hb g (by rw[hv];rfl)];exact hh,r⟩
theorem HO.UN {base:Nat}{w w':World}{M M':Mem}{x:HO}(h:x.ok base w M)(hb: ∀b,x.EF=some b->w'.heap[b]? =w.heap[b]?)(hm: ∀b,x.EF=some b-> ∀o,M' b o=M b o):x.ok base w' M':=by
 cases x with
 |box b cs t=>exact⟨h.1,(hb b U).trans h.2.1,λ o=>(hm b U o).trans (h.2.2 o)⟩
 |own e sz v n xs=>exact⟨eU h.1 hb,λ b hv=>⟨λ o ho=>(hm b hv o).trans ((h.2 b hv).1 o ho),λ o ho=>(hm b hv o).trans ((h.2 b hv).2 o ho)⟩⟩
 |raw b o=>exact⟨h.1,(hb b U).trans h.2.1,λ o=>(hm b U o).trans (h.2.2 o)⟩
 |priv e sz v n xs=>exact⟨eU h.1 hb,λ b hv o=>(hm b hv o).trans (h.2 b hv o)⟩
theorem HO.ok.lt {base:Nat}{w:World}{M:Mem}{x:HO}(h:x.ok base w M){b:Nat}(hb:x.EF=some b):base<=b/\b<w.heap.size:=by
 cases x with
 |box b' cs t=>
  simp only[HO.EF,Option.some.injEq]at hb;subst hb
  refine⟨h.1,?_⟩
  rcases Nat.lt_or_ge b' w.heap.size with h'|h'
  ·exact h'
  ·have:=h.2.1;simp[h']at this
 |own e sz v n xs=>exact World.ownsRow.lt h.1 b hb
 |priv e sz v n xs=>exact World.ownsRow.lt h.1 b hb
 |raw b' o=>
  simp only[HO.EF,Option.some.injEq]at hb;subst hb
  refine⟨h.1,?_⟩
  rcases Nat.lt_or_ge b' w.heap.size with h'|h'
  ·exact h'
  ·have:=h.2.1;simp[h']at this
theorem eV{α:Type}: ∀(l:List α) (i:Nat) (h:i<l.length),(l[i]::l.eraseIdx i).Perm l
 |[],_,h=>by simp at h
 |x::l,0,_=>by simp
 |x::l,i+1,h=>by
  simp only[List.getElem_cons_succ,List.eraseIdx_cons_succ]
  exact(List.Perm.swap x _ _).trans ((eV l i (by simpa using h)).cons x)
section st
variable {w0 w w':World} {M0 M M':Mem} {Hs:List HO}
theorem St.start (hs:Sat w M):St w M w M []:=⟨Below.refl _ _,hs,λ _ _ _=>rfl,λ _ h=>(List.not_mem_nil h).elim,.nil⟩
theorem Ak (hs:Sat w M):St w M w M []:=⟨Below.refl _ _,hs,λ _ _ _=>rfl,λ _ h=>(List.not_mem_nil h).elim,.nil⟩
theorem St.size (h:St w0 M0 w M Hs):w0.heap.size<=w.heap.size:=h.low.size
theorem St.ext (h:St w0 M0 w M Hs)(e:Ext w w'):St w0 M0 w' M Hs:=
 ⟨h.low.trans (e.mono h.size),h.sat.ext e,h.old,λ x hx=>HO.UN (h.ok x hx) (λ _ hb=>e.block _ (HO.ok.lt (h.ok x hx) hb).2) (λ _ _ _=>rfl),h.apart⟩
theorem St.grow (h:St w0 M0 w M Hs)(g:Grow w M w' M'):St w0 M0 w' M' Hs:=
 ⟨h.low.trans (g.ext.mono h.size),g.sat,λ b o hb=>(g.old b o (Nat.lt_of_lt_of_le hb h.size)).trans (h.old b o hb),λ x hx=>HO.UN (h.ok x hx) (λ _ hb=>g.ext.block _ (HO.ok.lt (h.ok x hx) hb).2) (λ _ hb o=>g.old _ o (HO.ok.lt (h.ok x hx) hb).2),h.apart⟩
theorem St.done (h:St w0 M0 w M Hs):Grow w0 M0 w M:=⟨h.low,h.sat,h.old⟩
theorem St.obj (h:St w0 M0 w M Hs){i:Nat}{x:HO}(hi:Hs[i]? =some x):x.ok w0.heap.size w M:=h.ok x (List.mem_of_getElem? hi)
theorem St.SF (h:St w0 M0 w M Hs){b:Nat}(hb:w.heap.size<=b)(o:Nat):M b o=none:=by
 cases e:M b o with
 |none=>rfl
 |some v=>have:=h.sat.lt e;omega
theorem heap_alloc_new(w:World)(o:Obj):(w.alloc o).heap[w.heap.size]? =some o:=by
 show(w.heap.push o)[w.heap.size]? =some o
 simp
theorem St.eW (h:St w0 M0 w M Hs)(cs:List Value)(t:TypeId):St w0 M0 (w.alloc (.cells cs.toArray t)) M (.box w.heap.size cs t::Hs):=by
 have h1:=h.ext (Ext.alloc w (.cells cs.toArray t))
 refine⟨h1.low,h1.sat,h1.old,λ x hx=>?_,List.pairwise_cons.2 ⟨λ y hy b hb=>?_,h.apart⟩⟩
 ·rcases List.mem_cons.1 hx with rfl|hx
  ·exact⟨h.size,heap_alloc_new _ _,λ o=>h.SF (Nat.le_refl _) o⟩
  ·exact h1.ok x hx
 ·simp only[HO.EF,Option.some.injEq]at hb;subst hb
  intro hy'
  have:=(HO.ok.lt (h.ok y hy) hy').2
  omega
theorem QJ(w:World)(g:Nat)(cs old:Array Value)(t:TypeId)(fz:Nat×Nat)(h:w.heap[g]? =some (.cells old t fz)):(w.setRow g cs).heap[g]? =some (.cells cs t fz):=by
 simp[World.setRow,Array.getElem?_modify,h]
theorem P3(w:World)(g k:Nat)(cs:Array Value)(h:k≠g):(w.setRow g cs).heap[k]? =w.heap[k]?:=by
 simp only[World.setRow,Array.getElem?_modify]
 rw[if_neg (by omega)]
theorem size_setRow(w:World)(g:Nat)(cs:Array Value):(w.setRow g cs).heap.size=w.heap.size:=by simp[World.setRow]
theorem UO{B:Nat}{w:World}{g:Nat}(cs:Array Value)(hg:B<=g):Below B w (w.setRow g cs):=
 ⟨rfl,rfl,rfl,by rw[size_setRow];exact Nat.le_refl _,λ k hk=>P3 _ _ _ _ (by omega)⟩
theorem UP{Hs:List HO}(h:Hs.Pairwise (λ x y=> ∀b,x.EF=some b->y.EF≠some b)){i j:Nat}{x y:HO}(hi:Hs[i]? =some x)(hj:Hs[j]? =some y)(hij:i≠j): ∀b,x.EF=some b->y.EF≠some b:=by
 rw[List.pairwise_iff_getElem]at h
 have hi':=List.getElem?_eq_some_iff.1 hi
 have hj':=List.getElem?_eq_some_iff.1 hj
 obtain⟨li,ei⟩:=hi'
 obtain⟨lj,ej⟩:=hj'
 rcases Nat.lt_or_gt_of_ne hij with hlt|hlt
 ·have:=h i j li lj hlt;rw[ei,ej]at this;exact this
 ·have:=h j i lj li hlt;rw[ei,ej]at this
  intro b hb hb';exact this b hb' hb
theorem St.write (h:St w0 M0 w M Hs){i:Nat}{x x':HO}(hi:Hs[i]? =some x)(hw:Below w0.heap.size w w')(hsat:Sat w' M')(hold: ∀b o,b<w0.heap.size->M' b o=M b o)
  (hheap: ∀b,b<w.heap.size->x.EF≠some b->w'.heap[b]? =w.heap[b]?) (hmem: ∀b,b<w.heap.size->x.EF≠some b-> ∀o,M' b o=M b o)
  (hx':x'.ok w0.heap.size w' M') (hblk: ∀b,x'.EF=some b->x.EF=some b\/w.heap.size<=b):St w0 M0 w' M' (Hs.set i x'):=by
 have hlt:i<Hs.length:=(List.getElem?_eq_some_iff.1 hi).1
 have hother: ∀j y,(Hs.set i x')[j]? =some y->j≠i->Hs[j]? =some y:=λ j y hj hne=>by
  rwa [List.getElem?_set_ne (Ne.symm hne)]at hj
 have hself:(Hs.set i x')[i]? =some x':=by simp[hlt]
 refine⟨h.low.trans hw,hsat,λ b o hb=>(hold b o hb).trans (h.old b o hb),λ y hy=>?_,?_⟩
 ·obtain⟨j,hj⟩:=List.getElem?_of_mem hy
  by_cases hji:j=i
  ·subst hji;rw[hself]at hj;cases hj;exact hx'
  ·have hj':=hother j y hj hji
   have hap:=UP h.apart hj' hi hji
   have hyok:=h.obj hj'
   exact HO.UN hyok (λ b hb=>hheap b (HO.ok.lt hyok hb).2 (λ hx=>hap b hb hx)) (λ b hb o=>hmem b (HO.ok.lt hyok hb).2 (λ hx=>hap b hb hx) o)
 ·rw[List.pairwise_iff_getElem]
  intro j k lj lk hjk b hbj hbk
  have ej:(Hs.set i x')[j]? =some (Hs.set i x')[j]:=List.getElem?_eq_getElem lj
  have ek:(Hs.set i x')[k]? =some (Hs.set i x')[k]:=List.getElem?_eq_getElem lk
  by_cases h1:j=i
  ·subst h1
   have ek':=hother k _ ek (by omega)
   have e1:(Hs.set j x')[j]=x':=by simp
   rw[e1]at hbj
   rcases hblk b hbj with h2|h2
   ·exact UP h.apart hi ek' (by omega) b h2 hbk
   ·have:=(HO.ok.lt (h.obj ek') hbk).2;omega
  ·have ej':=hother j _ ej h1
   by_cases h2:k=i
   ·subst h2
    have e1:(Hs.set k x')[k]=x':=by simp
    rw[e1]at hbk
    rcases hblk b hbk with h3|h3
    ·exact UP h.apart ej' hi h1 b hbj h3
    ·have:=(HO.ok.lt (h.obj ej') hbj).2;omega
   ·exact UP h.apart ej' (hother k _ ek h2) (by omega) b hbj hbk
theorem St.SG (h:St w0 M0 w M Hs){i b:Nat}{cs:List Value}{t:TypeId}(hi:Hs[i]? =some (.box b cs t))(cs':List Value):St w0 M0 (w.setRow b cs'.toArray) M (Hs.set i (.box b cs' t)):=by
 obtain⟨h1,h2,h3⟩:=h.obj hi
 have hlt:=(HO.ok.lt (h.obj hi) U).2
 refine h.write hi (UO _ h1) ⟨λ b' o v hv=>?_⟩ (λ _ _ _=>rfl) (λ k _ hk=>P3 _ _ _ _ (λ e=>hk (by rw[e];rfl))) (λ _ _ _ _=>rfl) ⟨h1,QJ _ _ _ _ _ _ h2,h3⟩ (λ _ hb=>.inl hb)
 have hne:b'≠b:=λ e=>by rw[e,h3 o]at hv;cases hv
 have:=h.sat.cell b' o v hv
 simp only[World.cell?,P3 _ _ _ _ hne]at this ⊢
 exact this
theorem St.drop (h:St w0 M0 w M Hs)(Hs':List HO)(hsub:Hs'.Sublist Hs):St w0 M0 w M Hs':=⟨h.low,h.sat,h.old,λ x hx=>h.ok x (hsub.subset hx),h.apart.sublist hsub⟩
theorem St.P4 (h:St w0 M0 w M Hs)(o:Obj):St w0 M0 (w.alloc o) M (.raw w.heap.size o::Hs):=by
 have h1:=h.ext (Ext.alloc w o)
 refine⟨h1.low,h1.sat,h1.old,λ x hx=>?_,List.pairwise_cons.2 ⟨λ y hy b hb=>?_,h.apart⟩⟩
 ·rcases List.mem_cons.1 hx with rfl|hx
  ·exact⟨h.size,heap_alloc_new _ _,λ o=>h.SF (Nat.le_refl _) o⟩
  ·exact h1.ok x hx
 ·simp only[HO.EF,Option.some.injEq]at hb;subst hb
  intro hy'
  have:=(HO.ok.lt (h.ok y hy) hy').2
  omega
def FL(w:World)(b:Nat)(o:Obj):World:= { w with heap:=w.heap.setIfInBounds b o}
theorem St.QK (h:St w0 M0 w M Hs){i b:Nat}{o:Obj}(hi:Hs[i]? =some (.raw b o))(o':Obj):St w0 M0 (FL w b o') M (Hs.set i (.raw b o')):=by
 obtain⟨h1,h2,h3⟩:=h.obj hi
 have hlt:=(HO.ok.lt (h.obj hi) U).2
 have hne: ∀k,k≠b->(FL w b o').heap[k]? =w.heap[k]?:=λ k hk=>by simp[FL,Array.getElem?_setIfInBounds_ne (Ne.symm hk)]
 refine h.write hi ⟨rfl,rfl,rfl,by simp[FL],λ k hk=>hne k (by omega)⟩ ⟨λ b' o v hv=>?_⟩ (λ _ _ _=>rfl) (λ k _ hk=>hne k (λ e=>hk (by rw[e];rfl))) (λ _ _ _ _=>rfl) ⟨h1,by simp[FL,hlt],h3⟩ (λ _ hb=>.inl hb)
 have hb:b'≠b:=λ e=>by rw[e,h3 o]at hv;cases hv
 have:=h.sat.cell b' o v hv
 simp only[World.cell?,hne b' hb]at this ⊢
 exact this
theorem St.perm (h:St w0 M0 w M Hs){Hs':List HO}(hp:Hs'.Perm Hs):St w0 M0 w M Hs':=
 ⟨h.low,h.sat,h.old,λ x hx=>h.ok x (hp.mem_iff.1 hx),(hp.pairwise_iff (λ{x y} hxy b hb hb'=>hxy b hb' hb)).2 h.apart⟩
theorem St.front (h:St w0 M0 w M Hs)(i:Nat){x:HO}{Hs':List HO}(hi:Hs[i]? =some x)(he:x::Hs.eraseIdx i=Hs'):St w0 M0 w M Hs':=by
 subst he
 obtain⟨hl,e⟩:=List.getElem?_eq_some_iff.1 hi
 subst e
 exact h.perm (eV Hs i hl)
theorem St.erase (h:St w0 M0 w M Hs)(i:Nat){Hs':List HO}(he:Hs.eraseIdx i=Hs'):St w0 M0 w M Hs':=h.drop Hs' (he▸List.eraseIdx_sublist _ _)
end st
theorem H8(b o n:Nat):(⟨b,o,none⟩:Addr).add n=⟨b,o+n,none⟩:=by
 unfold Addr.add
 split
 ·rename_i h;subst h;rfl
 ·rfl
theorem AR{w:World}: ∀w',w'=w->Ext w w':=λ _ h=>h▸Ext.refl w
def sb:Value->Nat
 | .slice (some a) _ _=>a.block
 |_=>0
def so:Value->Nat
 | .slice (some a) _ _=>a.off
 |_=>0
structure Sl (M:Mem) (sz n:Nat) (v:Value) (cs:List Value):Prop where
 len:cs.length=n*sz
 val: ∃p cap,v= .slice p n cap/\n<=cap/\cap<=maxLen/\(0<n-> ∃b o,p=some ⟨b,o,none⟩/\ ∀j,j<cs.length->M b (o+j)=cs[j]?)
theorem Sl.mono {M M':Mem}{sz n:Nat}{v:Value}{cs:List Value}(h:Sl M sz n v cs)(hm:M.le M'):Sl M' sz n v cs:=by
 obtain⟨p,cap,hv,h1,h2,h3⟩:=h.val
 refine⟨h.len,p,cap,hv,h1,h2,λ hn=>?_⟩
 obtain⟨b,o,hp,hc⟩:=h3 hn
 refine⟨b,o,hp,λ j hj=>?_⟩
 have:=hc j hj
 rw[List.getElem?_eq_getElem hj]at this ⊢
 exact hm _ _ _ this
theorem Sl.at {M:Mem}{sz n:Nat}{v:Value}{cs:List Value}(h:Sl M sz n v cs)(hn:0<n):
  ∃cap,v= .slice (some ⟨sb v,so v,none⟩) n cap/\n<=cap/\cap<=maxLen/\ ∀j,j<cs.length->M (sb v) (so v+j)=cs[j]?:=by
 obtain⟨p,cap,hv,h1,h2,h3⟩:=h.val
 obtain⟨b,o,hp,hc⟩:=h3 hn
 subst hv;subst hp
 exact⟨cap,rfl,h1,h2,hc⟩
theorem Sl.le {M:Mem}{sz n:Nat}{v:Value}{cs:List Value}(h:Sl M sz n v cs):(n:Int)<=9223372036854775807:=by
 obtain⟨p,cap,_,h1,h2,_⟩:=h.val
 simp only[maxLen]at h2;omega
theorem Sl.nil (M:Mem)(sz:Nat):Sl M sz 0 (.slice none 0 0) []:=⟨by simp,none,0,rfl,Nat.le_refl _,Nat.zero_le _,λ h=>absurd h (Nat.lt_irrefl _)⟩
def at'{α:Type}[Inhabited α](l:List α)(i:Int):α:=l.getD i.toNat default
theorem EU{α:Type}[Inhabited α](l:List α){i:Int}(h0:0<=i)(h1:i<len l): ∃h:i.toNat<l.length,at' l i=l[i.toNat]:=by
 have h:i.toNat<l.length:=by unfold len at h1;omega
 exact⟨h,by simp[at',h]⟩
theorem UQ{α:Type}(f:α->List Value)(sz:Nat)(hf: ∀x,(f x).length=sz): ∀(l:List α) (i j:Nat) (h:i<l.length),j<sz->(l.flatMap f)[i*sz+j]? =(f l[i])[j]?
 |[],_,_,h,_=>by simp at h
 |x::l,0,j,_,hj=>by
  simp only[List.flatMap_cons,Nat.zero_mul,Nat.zero_add,List.getElem_cons_zero]
  rw[List.getElem?_append_left (by rw[hf];exact hj)]
 |x::l,i+1,j,h,hj=>by
  simp only[List.flatMap_cons,List.getElem_cons_succ]
  rw[List.getElem?_append_right (by rw[hf,Nat.add_mul];omega),hf,show(i+1)*sz+j-sz=i*sz+j from by rw[Nat.add_mul];omega]
  exact UQ f sz hf l i j (by simpa using h) hj
theorem DQ{α:Type}(f:α->List Value)(sz:Nat)(hf: ∀x,(f x).length=sz): ∀l:List α,(l.flatMap f).length=l.length*sz
 |[]=>by simp
 |x::l=>by simp only[List.flatMap_cons,List.length_append,List.length_cons,DQ f sz hf l,hf,Nat.add_mul];omega
section pv
variable {P:Program} {C:World->Prop} {L:Env} {W:Bool} {d:Option Tmp} {ty:TypeId} {ps:String} {af:Array Edge} {gd:Option (Nat×Bool)} {w0 w:World} {M0 M:Mem} {Hs:List HO}
theorem sK{t:TypeId}{p:Addr}{v:Value}{w':World}(ha:(isAgg t).run P w'= .ok false w')(hv:w'.cell? p=some v):(Instr.loadAt t (.pointer (some p))).run P w'= .ok v w':=by
 simp only[Instr.loadAt,Instr.sureAddr,loadVar,Sem.run_bind,Sem.run_pure,Result.andThen_ok,ha,Bool.false_eq_true,if_false]
 simp only[load,Sem.run,hv]
theorem eX{t:TypeId}{p:Addr}{cs:List Value}{w':World}(ha:(isAgg t).run P w'= .ok true w')(hs:(sizeOf t).run P w'= .ok cs.length w')(hv: ∀j v,cs[j]? =some v->w'.cell? (p.add j)=some v):(Instr.loadAt t (.pointer (some p))).run P w'= .ok (.agg cs.toArray) w':=by
 simp only[Instr.loadAt,Instr.sureAddr,loadVar,Sem.run_bind,Sem.run_pure,Result.andThen_ok,ha,if_true,hs,run_loadCells_list w' p cs hv]
theorem PV.YJ {t:TypeId}{x:Operand}{p:Addr}{v:Value}(hx:A8 L W x (.pointer (some p)))(ha: ∀w,(isAgg t).run P w= .ok false w)(hv:W=true-> ∀w,C w->w.cell? p=some v):PV P C L W ⟨d,.load t x,ty,ps,af,gd⟩ v:=
 .un (f:=Instr.loadAt t) (λ _=>rfl) hx λ hW w' hw=>sK (ha w') (hv hW w' hw)
theorem PV.eY {t:TypeId}{x:Operand}{p:Addr}{cs:List Value}(hx:A8 L W x (.pointer (some p)))(ha: ∀w,(isAgg t).run P w= .ok true w)(hs: ∀w,(sizeOf t).run P w= .ok cs.length w)
  (hv:W=true-> ∀w,C w-> ∀j v,cs[j]? =some v->w.cell? (p.add j)=some v):PV P C L W ⟨d,.load t x,ty,ps,af,gd⟩ (.agg cs.toArray):=
 .un (f:=Instr.loadAt t) (λ _=>rfl) hx λ hW w' hw=>eX (ha w') (hs w') (hv hW w' hw)
theorem St.cell {w':World}(h:St w0 M0 w M Hs)(e:Ext w w'){i b:Nat}{cs:List Value}{t:TypeId}(hi:Hs[i]? =some (.box b cs t)){o:Nat}{v:Value}(hv:cs[o]? =some v):w'.cell? ⟨b,o,none⟩=some v:=by
 have h1:=(h.ext e).obj hi
 simp only[World.cell?,h1.2.1]
 simpa using hv
theorem PV.B8 {t t':TypeId}{x:Operand}{i b o:Nat}{cs:List Value}{v:Value}(hS:St w0 M0 w M Hs)(hC: ∀w',C w'->Ext w w')(hi:Hs[i]? =some (.box b cs t'))(hx:A8 L W x (.pointer (some ⟨b,o,none⟩)))(ha: ∀w,(isAgg t).run P w= .ok false w)
  (hv:cs[o]? =some v):PV P C L W ⟨d,.load t x,ty,ps,af,gd⟩ v:=
 .YJ hx ha λ _ w' hw=>hS.cell (hC w' hw) hi hv
theorem PV.UR {t t':TypeId}{x:Operand}{i b o n:Nat}{cs vs:List Value}(hS:St w0 M0 w M Hs)(hC: ∀w',C w'->Ext w w')(hi:Hs[i]? =some (.box b cs t'))(hx:A8 L W x (.pointer (some ⟨b,o,none⟩)))(ha: ∀w,(isAgg t).run P w= .ok true w)(hs: ∀w,(sizeOf t).run P w= .ok n w)
  (hn:vs.length=n) (hv:(cs.drop o).take n=vs):PV P C L W ⟨d,.load t x,ty,ps,af,gd⟩ (.agg vs.toArray):=by
 subst hn
 refine .eY hx ha hs λ _ w' hw j v hj=>?_
 rw[H8]
 refine hS.cell (hC w' hw) hi ?_
 rw[<-hv,List.getElem?_take]at hj
 split at hj
 ·rw[List.getElem?_drop]at hj;exact hj
 ·cases hj
theorem PV.sL {t:TypeId}{x:Operand}{sz n:Nat}{v:Value}{cs:List Value}(h:Sl M sz n v cs)(hx:A8 L W x v)(ht: ∃e,P.underlying t=some (.slice e)):PV P C L W ⟨d,.call ⟨.builtin .len,#[x],#[t]⟩,ty,ps,af,gd⟩ (i64 n):=by
 intro ac N hs hW w' _
 obtain⟨e,ht⟩:=ht
 obtain⟨p,cap,hv,_⟩:=h.val
 subst hv
 have key:(Builtin.len_ #[t] ty #[.slice p n cap]).run P w'= .ok (i64 n) w':=by
  simp[Builtin.len_,run_underlying ht,goInt]
 simp only[execOp,resolve,invoke,builtin,List.map_toArray,List.map_cons,List.map_nil,hx ac N hs hW,Sem.run_bind,Sem.run_pure,Result.andThen_ok,key]
theorem PV.sM {t e:TypeId}{x y:Operand}{sz n:Nat}{v:Value}{cs:List Value}{k:IntKind}{i:Int}(h:Sl M sz n v cs)(hx:A8 L W x v)(hy:A8 L W y (.int k i))(ht:P.underlying t=some (.slice e))(hs: ∀w,(sizeOf e).run P w= .ok sz w)
  (hr:W=true->0<=i/\i<(n:Int)):PV P C L W ⟨d,.indexAddr t x y,ty,ps,af,gd⟩ (.pointer (some ⟨sb v,so v+i.toNat*sz,none⟩)):=by
 intro ac N hsl hW w' _
 obtain⟨h0,h1⟩:=hr hW
 obtain⟨cap,hv,_⟩:=h.at (by omega)
 have key:(Instr.indexAt t v (.int k i)).run P w'= .ok (.pointer (some ⟨sb v,so v+i.toNat*sz,none⟩)) w':=by
  rw[hv]
  simp[Instr.indexAt,run_underlying ht,asIntOf,h0,h1,hs,H8,sb,so]
 simp only[execOp,hx ac N hsl hW,hy ac N hsl hW]
 rw[Sem.run_bind,key]
 rfl
theorem PV.BI {t:TypeId}{x:Operand}{f:Nat}{p q:Addr}(hx:A8 L W x (.pointer (some p)))(hr: ∀w,(Instr.fieldAt t (.pointer (some p)) f).run P w= .ok (.pointer (some q)) w):PV P C L W ⟨d,.fieldAddr t x f,ty,ps,af,gd⟩ (.pointer (some q)):=
 .un (f:=λ v=>Instr.fieldAt t v f) (λ _=>rfl) hx λ _ w' _=>hr w'
theorem PV.US {α:Type}[Inhabited α]{f:α->List Value}{t:TypeId}{x:Operand}{sz j:Nat}{v u:Value}{l:List α}{i:Int}(hS:St w0 M0 w M Hs)(hC: ∀w',C w'->Ext w w')(h:Sl M sz l.length v (l.flatMap f))(hf: ∀x,(f x).length=sz)
  (hx:A8 L W x (.pointer (some ⟨sb v,so v+i.toNat*sz+j,none⟩))) (ha: ∀w,(isAgg t).run P w= .ok false w) (hr:W=true->0<=i/\i<len l) (hj:Nat.blt j sz=true) (hu:(f (at' l i))[j]? =some u):PV P C L W ⟨d,.load t x,ty,ps,af,gd⟩ u:=by
 refine .YJ hx ha λ hW w' hw=>?_
 obtain⟨h0,h1⟩:=hr hW
 have hj':j<sz:=by simpa[Nat.blt_eq]using hj
 obtain⟨hlt,e⟩:=EU l h0 h1
 obtain⟨cap,hv,_,_,hc⟩:=h.at (by omega)
 have h2:=UQ f sz hf l i.toNat j hlt hj'
 rw[<-e,hu]at h2
 have hlt2:i.toNat*sz+j<(l.flatMap f).length:=by
  rw[DQ f sz hf]
  have:=Nat.mul_le_mul_right sz (show i.toNat+1<=l.length from hlt)
  rw[Nat.add_mul]at this;omega
 have h3:=hc _ hlt2
 rw[h2]at h3
 rw[Nat.add_assoc]
 exact(hS.sat.ext (hC w' hw)).cell _ _ _ h3
theorem PV.field {t:TypeId}{x:Operand}{f:Nat}{vx v:Value}(hx:A8 L W x vx)(hr: ∀w,(Instr.field t vx f).run P w= .ok v w):PV P C L W ⟨d,.field t x f,ty,ps,af,gd⟩ v:=
 .un (f:=λ v=>Instr.field t v f) (λ _=>rfl) hx λ _ w' _=>hr w'
def G3(L:Env)(W:Bool):List (Nat×Operand)->List (Nat×Value)->Prop
 |[],[]=>True
 |(i,x)::xs,(j,v)::vs=>i=j/\A8 L W x v/\G3 L W xs vs
 |_,_=>False
theorem G3.nil:G3 L W [] []:=trivial
theorem G3.cons {i:Nat}{x:Operand}{v:Value}{xs:List (Nat×Operand)}{vs:List (Nat×Value)}(h:A8 L W x v)(k:G3 L W xs vs):G3 L W ((i,x)::xs) ((i,v)::vs):=⟨rfl,h,k⟩
theorem G3.map {a:Act}{N:Nat}(hs:AJ a N L)(hW:W=true): ∀(xs:List (Nat×Operand)) (vs:List (Nat×Value)),G3 L W xs vs->xs.map (λ p=>(p.1,a.eval p.2))=vs
 |[],[],_=>rfl
 |[],_::_,h=>h.elim
 |_::_,[],h=>h.elim
 |(i,x)::xs,(j,v)::vs,h=>by
  obtain⟨rfl,h1,h2⟩:=h
  rw[List.map_cons,h1 a N hs hW,G3.map hs hW xs vs h2]
theorem PV.build {t:TypeId}{xs:List (Nat×Operand)}{vs:List (Nat×Value)}{v:Value}(hx:G3 L W xs vs)(hr: ∀w,(Instr.build t vs.toArray).run P w= .ok v w):PV P C L W ⟨d,.build t xs.toArray,ty,ps,af,gd⟩ v:=by
 intro ac N hs hW w' _
 have e:xs.toArray.map (λ p=>(p.1,ac.eval p.2))=vs.toArray:=by rw[List.map_toArray,G3.map hs hW xs vs hx]
 simp only[execOp,e]
 rw[Sem.run_bind,hr w']
 rfl
end pv
section rl
variable {P:Program} {ops:Array Oper} {Q:Exit->Act->World->Prop} {N:Nat} {rest:List Oper} {L:Env} {w0 w:World} {M0 M:Mem} {Hs:List HO} {d:Nat} {ty:TypeId} {ps:String} {af:Array Edge}
theorem RL.alloc {t:TypeId}{z:Value}(hS:St w0 M0 w M Hs)(hz: ∀w,(zeroValue t).run P w= .ok z w)(hd:Nat.blt d N=true)
  (h: ∀w' b,St w0 M0 w' M (.box b z.cells.toList t::Hs)->RL P ops Q N rest ((d,true,.pointer (some ⟨b,0,none⟩))::L) w'):RL P ops Q N (⟨some d,.alloc t,ty,ps,af,none⟩::rest) L w:=by
 intro a hs
 refine wpList_plain U λ K hK=>?_
 have key:(Instr.alloc t true (.tuple #[])).run P w= .ok (.pointer (some ⟨w.heap.size,0,none⟩)) (w.alloc (.cells z.cells.toList.toArray t)):=by
  simp only[Instr.alloc,Sem.run_bind,hz,Result.andThen_ok,newVar,newRow,newObj,Sem.run,Array.toArray_toList]
  rfl
 have key2:(execOp a.eval ⟨some d,.alloc t,ty,ps,af,none⟩).run P w= .ok (.value (.pointer (some ⟨w.heap.size,0,none⟩))) (w.alloc (.cells z.cells.toList.toArray t)):=by
  simp only[execOp];rw[Sem.run_bind,key];rfl
 simp only[Oper.wp,key2,Oper.upon_value]
 exact hK _ _ (h _ _ (hS.eW _ t) _ (hs.put hd true _))
theorem RL.box {t:TypeId}{x:Operand}{v:Value}(hS:St w0 M0 w M Hs)(hx:A8 L true x v)(hd:Nat.blt d N=true)
  (h: ∀w' b,St w0 M0 w' M (.box b v.cells.toList t::Hs)->RL P ops Q N rest ((d,true,.pointer (some ⟨b,0,none⟩))::L) w'):RL P ops Q N (⟨some d,.box t x,ty,ps,af,none⟩::rest) L w:=by
 intro a hs
 refine wpList_plain U λ K hK=>?_
 have key:(Instr.box t v).run P w= .ok (.pointer (some ⟨w.heap.size,0,none⟩)) (w.alloc (.cells v.cells.toList.toArray t)):=by
  simp only[Instr.box,Sem.run_bind,Result.andThen_ok,newVar,newRow,newObj,Sem.run,Array.toArray_toList]
  rfl
 have key2:(execOp a.eval ⟨some d,.box t x,ty,ps,af,none⟩).run P w= .ok (.value (.pointer (some ⟨w.heap.size,0,none⟩))) (w.alloc (.cells v.cells.toList.toArray t)):=by
  simp only[execOp,hx a N hs U];rw[Sem.run_bind,key];rfl
 simp only[Oper.wp,key2,Oper.upon_value]
 exact hK _ _ (h _ _ (hS.eW _ t) _ (hs.put hd true _))
def GH(cs:List Value)(o:Nat)(vs:List Value):List Value:=cs.take o++vs++cs.drop (o+vs.length)
theorem RL.YK {t t':TypeId}{x y:Operand}{i b o n:Nat}{cs cs':List Value}{v:Value}(hS:St w0 M0 w M Hs)(hi:Hs[i]? =some (.box b cs t'))(hx:A8 L true x (.pointer (some ⟨b,o,none⟩)))(hy:A8 L true y v)(hs: ∀w,(sizeOf t).run P w= .ok n w)
  (hn:v.cells.toList.length=n) (hfit:Nat.ble (o+n) cs.length=true) (h1:(v.cells.toList.all (·.oneCell'))=true) (hcs:GH cs o v.cells.toList=cs') {Hs':List HO} (hHs:Hs.set i (.box b cs' t')=Hs')
  (h: ∀w',St w0 M0 w' M Hs'->RL P ops Q N rest L w'):RL P ops Q N (⟨none,.store t x y,ty,ps,af,none⟩::rest) L w:=by
 intro a hsl
 refine wpList_plain U λ K hK=>?_
 obtain⟨_,hb,_⟩:=hS.obj hi
 have hfit':o+n<=cs.length:=Nat.le_of_ble_eq_true hfit
 have hst:=run_storeCells_at P b o t' v.cells.toList 0 cs.toArray w hb (by simp only[List.size_toArray];omega) (List.all_eq_true.1 h1)
 have e:(cs.toArray.toList.take (o+0)++v.cells.toList++cs.toArray.toList.drop (o+0+v.cells.toList.length))=cs':=by rw[<-hcs];rfl
 rw[e]at hst
 have hn':v.cells.size=n:=by rw[<-hn];simp
 have key:(Instr.storeAt t (.pointer (some ⟨b,o,none⟩)) v).run P w= .ok () (w.setRow b cs'.toArray):=by
  simp only[Instr.storeAt,Instr.sureAddr,storeVar,Sem.run_bind,Sem.run_pure,Result.andThen_ok,hs,hn',ne_eq,not_true_eq_false,if_false,hst]
 have key2:(execOp a.eval ⟨none,.store t x y,ty,ps,af,none⟩).run P w= .ok .skip (w.setRow b cs'.toArray):=by
  simp only[execOp,hx a N hsl U,hy a N hsl U];rw[Sem.run_bind,key];rfl
 simp only[Oper.wp,key2,Oper.upon_skip]
 exact hK _ _ (h _ (hHs▸hS.SG hi cs') _ hsl)
theorem RL.D6 {f:FuncId}{xs:List Operand}{vs:List Value}{v:Value}{tys:Array TypeId}{gd:Option (Nat×Bool)}{W:Bool}(hS:St w0 M0 w M Hs)(hw:DB ops L gd W)
  (ct: ∀args w,(callFunc f args).run P w= .ok (.enter f args) w) (hx:EE L W xs vs) (hc:W=true->Calls P f vs.toArray w (λ e w'=>e= .returned v/\Ext w w')) (hd:Nat.blt d N=true)
  (h: ∀w',St w0 M0 w' M Hs->RL P ops Q N rest ((d,W,v)::L) w'):RL P ops Q N (⟨some d,.call ⟨.value (.func f),xs.toArray,tys⟩,ty,ps,af,gd⟩::rest) L w:=by
 intro a hs
 refine wpList_step λ K hK=>?_
 rw[DB.wanted (o:=⟨some d,.call ⟨.value (.func f),xs.toArray,tys⟩,ty,ps,af,gd⟩) hw hs]
 have hput:=hs.put hd W v
 cases W
 ·exact hK _ _ (h _ hS _ hput)
 ·simp only[if_true,Oper.wp,O3 ct hx hs U,Oper.upon_enter]
  refine(hc U).mono λ e w' ⟨he,hw'⟩=>?_
  subst he
  exact hK _ _ (h _ (hS.ext hw') _ hput)
theorem RL.sN {f:FuncId}{xs:List Operand}{vs:List Value}{tys:Array TypeId}{Post:Value->Mem->Prop}(hS:St w0 M0 w M Hs)
  (ct: ∀args w,(callFunc f args).run P w= .ok (.enter f args) w) (hx:EE L true xs vs) (hc:Calls P f vs.toArray w (λ e w'=> ∃v M',e= .returned v/\Post v M'/\Grow w M w' M')) (hd:Nat.blt d N=true)
  (h: ∀v w' M',St w0 M0 w' M' Hs->M.le M'->Post v M'->RL P ops Q N rest ((d,true,v)::L) w'):RL P ops Q N (⟨some d,.call ⟨.value (.func f),xs.toArray,tys⟩,ty,ps,af,none⟩::rest) L w:=by
 intro a hs
 refine wpList_plain U λ K hK=>?_
 simp only[Oper.wp,O3 ct hx hs U,Oper.upon_enter]
 refine hc.mono λ e w' ⟨v,M',he,hp,hg⟩=>?_
 subst he
 exact hK _ _ (h v w' M' (hS.grow hg) (hg.le hS.sat) hp _ (hs.put hd true v))
end rl
def RV(P:Program)(L:Env)(w:World):ResultVar->Value->Prop
 | .tmp t,v=>look L t=some (true,v)
 | .cell t ty,v=> ∃p,look L t=some (true,.pointer (some p))/\(loadVar ty p).run P w= .ok v w
theorem RV.IA {P:Program}{L:Env}{w0 w:World}{M0 M:Mem}{Hs:List HO}{t ty t':TypeId}{i b:Nat}{cs:List Value}(hS:St w0 M0 w M Hs)(hi:Hs[i]? =some (.box b cs t'))(hl:look L t=some (true,.pointer (some ⟨b,0,none⟩)))(ha: ∀w,(isAgg ty).run P w= .ok true w)(hs: ∀w,(sizeOf ty).run P w= .ok cs.length w):RV P L w (.cell t ty) (.agg cs.toArray):=
 ⟨_,hl,eX (ha w) (hs w) (λ j v hj=>by rw[H8,Nat.zero_add];exact hS.cell (Ext.refl w) hi hj)⟩
def JT(tmps:Array Value):ResultVar->Sem Value
 | .tmp t=>pure (tmps.getD t undef)
 | .cell a t=>do loadVar t (<-asAddr (tmps.getD a undef))
theorem YL(fn:Func)(tmps:Array Value):results fn tmps=(do let vs <-fn.results.mapM (JT tmps);pure (if h:vs.size=1 then vs[0]else .tuple vs)):=by
 have e:(λ r=>match r with| .tmp t=>(pure (tmps.getD t undef):Sem Value)| .cell a t=>do loadVar t (<-asAddr (tmps.getD a undef)))=JT tmps:=by
  funext r;cases r<;>rfl
 rw[<-e];rfl
theorem RV.run {P:Program}{L:Env}{w:World}{r:ResultVar}{v:Value}{a:Act}{N:Nat}(h:RV P L w r v)(hs:AJ a N L):(JT a.tmps r).run P w= .ok v w:=by
 cases r with
 |tmp t=>simp only[JT,hs.get h];rfl
 |cell t ty=>
  obtain⟨p,h1,h2⟩:=h
  simp only[JT,hs.get h1,asAddr,Sem.run_bind,Sem.run_pure,Result.andThen_ok,h2]
theorem sO{P:Program}{fn:Func}{R:Ending->World->Prop}{N:Nat}{L:Env}{w:World}{r s t:ResultVar}{v u x:Value}(hr:fn.results= #[r,s,t])(h1:RV P L w r v)(h2:RV P L w s u)(h3:RV P L w t x)(h:R (.returned (.tuple #[v,u,x])) w): ∀a,AJ a N L->bodyPost P fn R .ret a w:=
 λ a hs=>bodyPost_ret (v:=.tuple #[v,u,x]) (by
  rw[YL,hr]
  simp[List.mapM_cons,Sem.run_bind,h1.run hs,h2.run hs,h3.run hs]) hs.DE h
theorem JU{P:Program}{w:World}{d:Nat}{xs ys:Array Value}{f:Field}{rest:List Field}{va vb:Value}{r:Bool}(hn:(f.name=="_")=false)(ha:(part f.type xs f.offset).run P w= .ok va w)(hb:(part f.type ys f.offset).run P w= .ok vb w)
  (he:(Op.equalIn d f.type va vb).run P w= .ok r w):(Op.eqFields d xs ys (f::rest)).run P w=if r=true then(Op.eqFields d xs ys rest).run P w else .ok false w:=by
 have hn':f.name≠"_":=by simpa using hn
 conv=>lhs;unfold Op.eqFields
 simp only[hn',ne_eq,not_false_eq_true,if_true,Sem.run_bind,ha,hb,he,Result.andThen_ok]
 cases r<;>simp
theorem eZ{P:Program}{w:World}{d:Nat}{xs ys:Array Value}:(Op.eqFields d xs ys []).run P w= .ok true w:=rfl
theorem fA(p q:Prop)[Decidable p][Decidable q](w:World):(if decide p=true then(.ok (decide q) w:Result Bool)else .ok false w)= .ok (decide (p/\q)) w:=by
 by_cases h:p<;>by_cases h':q<;>simp[h,h']
theorem sP(a b:Int):(a==b)=decide (a=b):=by by_cases h:a=b<;>simp[h]
theorem sQ(a b:A1):(a==b)=decide (a=b):=by by_cases h:a=b<;>simp[h]
theorem YM(a b:Bool):(a==b)=decide (a=b):=by cases a<;>cases b<;>rfl
theorem QL{P:Program}{t:TypeId}{k:IntKind}(h:P.underlying t=some (.int k))(w:World)(d:Nat)(a b:Int):(Op.equalIn (d+1) t (.int k a) (.int k b)).run P w= .ok (decide (a=b)) w:=by
 rw[run_equalIn_int w d t k k a b h,sP]
theorem UT{P:Program}{t:TypeId}(h:P.underlying t=some .string)(w:World)(d:Nat)(a b:A1):(Op.equalIn (d+1) t (str a) (str b)).run P w= .ok (decide (a=b)) w:=by
 rw[run_equalIn_string w d t _ _ h,O0,O0,sQ]
theorem YN{P:Program}{t:TypeId}(h:P.underlying t=some .bool)(w:World)(d:Nat)(a b:Bool):(Op.equalIn (d+1) t (.bool a) (.bool b)).run P w= .ok (decide (a=b)) w:=by
 rw[run_equalIn_bool' w d t _ _ h,YM]
theorem fB{P:Program}{t:TypeId}{xs ys:Array Value}{r:Bool}(x y:Operand)(w:World)(hg:P.eqGuardType P.depth t=false)(he:(Op.equalIn 10000 t (.agg xs) (.agg ys)).run P w= .ok r w):(do eqGuard .eql t x y (.agg xs) (.agg ys);binOp .eql t (.agg xs) (.agg ys):Sem Value).run P w= .ok (.bool r) w:=by
 rw[Sem.run_bind,run_eqGuard_agg w _ _ _ _ _ _ hg]
 simp only[Result.andThen_ok,run_eql_struct,he]
theorem sR{P:Program}{t:TypeId}{xs ys:Array Value}{r:Bool}(x y:Operand)(w:World)(hg:P.eqGuardType P.depth t=false)(he:(Op.equalIn 10000 t (.agg xs) (.agg ys)).run P w= .ok r w):(do eqGuard .neq t x y (.agg xs) (.agg ys);binOp .neq t (.agg xs) (.agg ys):Sem Value).run P w= .ok (.bool (!r)) w:=by
 rw[Sem.run_bind,run_eqGuard_agg w _ _ _ _ _ _ hg]
 simp only[Result.andThen_ok,run_neq_struct,he]
section st
variable {w0 w:World} {M0 M:Mem} {Hs:List HO}
theorem St.KN (h:St w0 M0 w M Hs)(e:TypeId)(sz:Nat):St w0 M0 w M (.own e sz (.slice none 0 0) 0 []::Hs):=
 ⟨h.low,h.sat,h.old,λ x hx=>by
  rcases List.mem_cons.1 hx with rfl|hx
  ·exact⟨World.ownsRow_nil w _ e sz,λ b hb=>(by cases hb)⟩
  ·exact h.ok x hx,List.pairwise_cons.2 ⟨λ _ _ b hb=>(by cases hb),h.apart⟩⟩
theorem St.sl (h:St w0 M0 w M Hs){i:Nat}{e:TypeId}{sz n:Nat}{v:Value}{xs:List Value}(hi:Hs[i]? =some (.own e sz v n xs)):Sl M sz n v xs:=by
 obtain⟨⟨h1,h2⟩,h3⟩:=h.obj hi
 refine⟨h1,?_⟩
 rcases h2 with⟨rfl,rfl⟩|⟨g,cap,cur,rfl,_,_,hn,hc,_,_⟩
 ·exact⟨none,0,rfl,Nat.le_refl _,Nat.zero_le _,λ h=>absurd h (Nat.lt_irrefl _)⟩
 ·exact⟨_,cap,rfl,hn,hc,λ _=>⟨g,0,rfl,λ j hj=>by rw[Nat.zero_add];exact(h3 g U).1 j hj⟩⟩
def J0(M:Mem)(b:Nat)(xs:List Value):Mem:=λ b' o=>if b'=b then xs[o]? else M b' o
theorem St.newRow (h:St w0 M0 w M Hs)(e:TypeId)(sz n:Nat)(xs:List Value)(hl:xs.length=n*sz)(hm:n<=maxLen):
  St w0 M0 (w.alloc (.cells xs.toArray e)) (J0 M w.heap.size xs) (.own e sz (.slice (some ⟨w.heap.size,0,none⟩) n n) n xs::Hs)/\M.le (J0 M w.heap.size xs):=by
 have h1:=h.ext (Ext.alloc w (.cells xs.toArray e))
 have hle:M.le (J0 M w.heap.size xs):=λ b o v hv=>by
  have:=h.sat.lt hv
  unfold J0;rw[if_neg (by omega)];exact hv
 refine⟨⟨h1.low,⟨λ b o v hv=>?_⟩,λ b o hb=>(by unfold J0;rw[if_neg (by have:=h.size;omega)];exact h.old b o hb),λ x hx=>?_,List.pairwise_cons.2 ⟨λ y hy b hb=>?_,h.apart⟩⟩,hle⟩
 ·unfold J0 at hv
  split at hv
  ·rename_i hb;subst hb
   simp only[World.cell?,heap_alloc_new]
   simpa using hv
  ·exact h1.sat.cell b o v hv
 ·rcases List.mem_cons.1 hx with rfl|hx
  ·refine⟨⟨hl,.inr ⟨w.heap.size,n,xs.toArray,rfl,h.size,heap_alloc_new _ _,Nat.le_refl _,hm,by simpa using hl,by rw[<-hl];simp⟩⟩,λ b hb=>?_⟩
   simp only[Value.ownBlock,Option.some.injEq]at hb;subst hb
   exact⟨λ o _=>by simp[J0],λ o ho=>by simp[J0,ho]⟩
  ·exact HO.UN (h1.ok x hx) (λ _ _=>rfl) (λ b hb o=>by
    have:=(HO.ok.lt (h.ok x hx) hb).2
    unfold J0;rw[if_neg (by omega)])
 ·simp only[HO.EF,Value.ownBlock,Option.some.injEq]at hb;subst hb
  intro hy'
  have:=(HO.ok.lt (h.ok y hy) hy').2
  omega
end st
theorem fC{P:Program}(w:World)(base:Nat)(t ty e:TypeId)(i:TypeInfo)(z:Value)(size:Nat)(ht:P.underlying t=some (.slice e))(hi:P.info? e=some i)(hz:i.zero=some z)
  (hsize:i.size=size) (hzs:z.cells.size=size)
  (v:Value) (n:Nat) (xs:List Value) (hown:w.ownsRow base e size v n xs)
  (x:Value) (m:Nat) (news:List Value) (hl:news.length=m*size) (hx: ∃p c,x= .slice p m c/\(0<m-> ∃a,p=some a/\ ∀j u,news[j]? =some u->w.cell? (a.add j)=some u)) (h1: ∀u∈news,u.oneCell'=true)
  (h63:n+m<=maxLen) (hbytes:(n+m)*i.bytes<=140737488355328) (hbase:base<=w.heap.size):
  ∃v' w',(Builtin.append_ #[t,t] ty #[v,x]).run P w= .ok v' w'/\w'.ownsRow base e size v' (n+m) (xs++news)/\Below base w w'/\
   (∀k,k<w.heap.size->v.ownBlock≠some k->w'.heap[k]? =w.heap[k]?)/\(∀g,v.ownBlock=some g-> ∀o,o<xs.length->w'.cell? ⟨g,o,none⟩=w.cell? ⟨g,o,none⟩)/\
   (v'.ownBlock=v.ownBlock\/ ∃b,v'.ownBlock=some b/\w.heap.size<=b):=by
 subst hsize
 have hsmall:n+m<=9223372036854775807:=by simp only[maxLen]at h63;omega
 have hlen:(xs++news).length=(n+m)*i.size:=by rw[List.length_append,hown.1,hl,Nat.add_mul]
 obtain⟨p,c,rfl,hp⟩:=hx
 have grown: ∀(old:Nat),
   (w.drew.alloc (.cells (xs.toArray++news.toArray++Builtin.zeroCells z.cells (grownCap w (n+m) old e-(n+m))) e)).ownsRow base e i.size
    (.slice (some ⟨w.heap.size,0,none⟩) (n+m) (grownCap w (n+m) old e)) (n+m) (xs++news):=by
  intro old
  have hge:=grownCap_ge w (n+m) old e
  have hcm:grownCap w (n+m) old e<=maxLen:=grownCap_le_maxLen w (n+m) old e h63
  refine⟨hlen,.inr ⟨w.heap.size,_,_,rfl,hbase,heap_alloc_new w.drew _,hge,hcm,?_,?_⟩⟩
  ·simp only[Array.size_append,List.size_toArray,size_zeroCells,hzs,hown.1,hl,<-Nat.add_mul]
   congr 1
   omega
  ·simp only[Array.toList_append,List.append_assoc]
   rw[<-List.append_assoc,<-hlen]
   exact List.take_left
 have newB: ∀o:Obj,Below base w (w.drew.alloc o)/\(∀k,k<w.heap.size->(w.drew.alloc o).heap[k]? =w.heap[k]?):=λ o=>
  ⟨((Below.refl base w).drew).alloc hbase o,λ k hk=>Below.heap_alloc w.drew o k hk⟩
 by_cases hm:m=0
 ·subst hm
  have hn:news=[]:=List.eq_nil_of_length_eq_zero (by simpa using hl)
  subst hn
  refine⟨v,w,?_,by simpa using hown,Below.refl _ _,λ _ _ _=>rfl,λ _ _ _ _=>rfl,.inl U⟩
  rcases hown.2 with⟨rfl,rfl⟩|⟨g,cap,cur,rfl,_,_,hnc,_⟩
  ·cases p<;>simp[Builtin.append_,run_underlying ht,sizeOf,typeInfo,hi,Builtin.lenOf,Builtin.firstCells,loadCells,loadCellsFrom]
  ·cases p<;>simp[Builtin.append_,run_underlying ht,sizeOf,typeInfo,hi,Builtin.lenOf,Builtin.firstCells,hnc,storeCells,loadCells,loadCellsFrom]
 ·obtain⟨a,rfl,hnews⟩:=hp (by omega)
  rcases hown.2 with⟨rfl,rfl⟩|⟨g,cap,cur,rfl,hbg,hg,hnc,hcm,hcs,MD⟩
  ·have hx:xs=[]:=List.eq_nil_of_length_eq_zero (by simpa using hown.1)
   subst hx
   have hr:=run_append_nil (P:=P) w t ty e i z ht hi hz a m c news hl hnews (by omega) (by omega) (by have hb:=hbytes;simp only[Nat.zero_add]at hb;omega)
   have hgr:=grown 0
   simp only[Nat.zero_add,List.nil_append,Array.empty_append]at hgr ⊢
   exact⟨_,_,hr,hgr,(newB _).1,λ k hk _=>(newB _).2 k hk,λ g hg=>(by cases hg),.inr ⟨_,rfl,Nat.le_refl _⟩⟩
  ·by_cases hroom:n+m<=cap
   ·have hfit:n*i.size+news.length<=cur.size:=by rw[hl,hcs,<-Nat.add_mul];exact Nat.mul_le_mul_right _ hroom
    have hr:=run_append_room (P:=P) w t ty e i ht hi g n cap cur hg a m c news hl hnews h1 hroom hfit
    refine⟨_,_,hr,⟨hlen,.inr ⟨g,cap,_,rfl,hbg,QJ w g _ cur e _ hg,hroom,hcm,?_,?_⟩⟩,UO _ hbg,λ k _ hk=>P3 w g k _ (λ e=>hk (by simp[Value.ownBlock,e])),λ g' hg' o ho=>?_,.inl U⟩
    ·simp only[List.size_toArray,List.length_append,List.length_take,List.length_drop,Array.length_toList]
     omega
    ·rw[MD,<-hlen]
     exact List.take_left
    ·simp only[Value.ownBlock,Option.some.injEq]at hg';subst hg'
     simp only[World.cell?,QJ w g _ cur e _ hg,hg]
     have hlo:o<n*i.size:=by rw[hown.1]at ho;exact ho
     have hoc:o<cur.size:=by rw[hcs];exact Nat.lt_of_lt_of_le hlo (Nat.mul_le_mul_right _ hnc)
     rw[List.append_assoc]
     simp only[List.getElem?_toArray]
     rw[List.getElem?_append_left (by simp;omega),List.getElem?_take]
     simp[hlo,hoc]
   ·have holds: ∀j u,xs[j]? =some u->w.cell? ((⟨g,0,none⟩:Addr).add j)=some u:=hown.cells (g:=g) U
    have hr:=run_append_grow (P:=P) w t ty e i z ht hi hz ⟨g,0,none⟩ n cap xs hown.1 holds a m c news hl hnews (by omega) (by omega) (growslice_fits (by omega) hbytes)
    refine⟨_,_,hr,grown cap,(newB _).1,λ k hk _=>(newB _).2 k hk,λ g' hg' o _=>?_,.inr ⟨_,rfl,Nat.le_refl _⟩⟩
    have hlt:g'<w.heap.size:=(World.ownsRow.lt hown g' hg').2
    simp only[World.cell?,(newB _).2 g' hlt]
section st
variable {w0 w:World} {M0 M:Mem} {Hs:List HO}
theorem St.fD (h:St w0 M0 w M Hs){k:Nat}{e:TypeId}{sz n m:Nat}{v v':Value}{w':World}{xs news:List Value}(hk:Hs[k]? =some (.own e sz v n xs))(hown':w'.ownsRow w0.heap.size e sz v' (n+m) (xs++news))(hlow:Below w0.heap.size w w')
  (hheap: ∀k,k<w.heap.size->v.ownBlock≠some k->w'.heap[k]? =w.heap[k]?) (hpre: ∀g,v.ownBlock=some g-> ∀o,o<xs.length->w'.cell? ⟨g,o,none⟩=w.cell? ⟨g,o,none⟩)
  (hblk:v'.ownBlock=v.ownBlock\/ ∃b,v'.ownBlock=some b/\w.heap.size<=b): ∃M',St w0 M0 w' M' (Hs.set k (.own e sz v' (n+m) (xs++news)))/\M.le M':=by
 obtain⟨hown,hmem⟩:=h.obj hk
 let M':Mem:=λ b o=>match v'.ownBlock with
  |some g=>if b=g then(if o<(xs++news).length then(xs++news)[o]? else none)else M b o
  |none=>M b o
 have hM'ne: ∀b,v'.ownBlock≠some b-> ∀o,M' b o=M b o:=λ b hb o=>by
  show(match v'.ownBlock with|some g=>_|none=>_)=_
  cases hv:v'.ownBlock with
  |none=>rfl
  |some g=>simp only;rw[if_neg (λ e=>hb (by rw[hv,e]))]
 have hM'eq: ∀g,v'.ownBlock=some g-> ∀o,M' g o=(xs++news)[o]?:=λ g hg o=>by
  show(match v'.ownBlock with|some g=>_|none=>_)=_
  rw[hg];simp only[if_true]
  split
  ·rfl
  ·rename_i ho;rw[List.getElem?_eq_none (by omega)]
 have hle:M.le M':=λ b o u hu=>by
  by_cases hb:v'.ownBlock=some b
  ·rcases hblk with h2|⟨b',h2,h3⟩
   ·have hvb:v.ownBlock=some b:=by rw[<-h2];exact hb
    have hlo:o<xs.length:=by
     rcases Nat.lt_or_ge o xs.length with h4|h4
     ·exact h4
     ·rw[(hmem b hvb).2 o h4]at hu;cases hu
    rw[hM'eq b hb,List.getElem?_append_left hlo,<-(hmem b hvb).1 o hlo,hu]
   ·rw[hb]at h2;cases h2
    have:=h.sat.lt hu;omega
  ·rw[hM'ne b hb,hu]
 have hsat':Sat w' M':=⟨λ b o u hu=>by
  by_cases hb:v'.ownBlock=some b
  ·rw[hM'eq b hb]at hu
   have:=hown'.cells hb o u hu
   rwa [H8,Nat.zero_add]at this
  ·rw[hM'ne b hb]at hu
   have hlt:=h.sat.lt hu
   by_cases hvb:v.ownBlock=some b
   ·have hlo:o<xs.length:=by
     rcases Nat.lt_or_ge o xs.length with h4|h4
     ·exact h4
     ·rw[(hmem b hvb).2 o h4]at hu;cases hu
    rw[hpre b hvb o hlo];exact h.sat.cell b o u hu
   ·have:=h.sat.cell b o u hu
    simp only[World.cell?,hheap b hlt hvb]at this ⊢;exact this⟩
 refine⟨M',?_,hle⟩
 refine h.write hk hlow hsat' (λ b o hb=>hM'ne b (λ e=>by have:=(World.ownsRow.lt hown' b e).1;omega) o) (λ b hb hne=>hheap b hb hne) (λ b hb hne o=>hM'ne b (λ e=>?_) o) ⟨hown',λ g hg=>⟨λ o ho=>hM'eq g hg o,λ o ho=>by rw[hM'eq g hg];exact List.getElem?_eq_none ho⟩⟩ (λ b hb=>?_)
 ·rcases hblk with h2|⟨b',h2,h3⟩
  ·exact hne (by rw[<-e,h2];rfl)
  ·rw[e]at h2;cases h2;omega
 ·rcases hblk with h2|⟨b',h2,h3⟩
  ·exact .inl (by show v.ownBlock=some b;rw[<-h2];exact hb)
  ·have hb':v'.ownBlock=some b:=hb
   rw[hb']at h2;cases h2;exact .inr h3
theorem St.append {P:Program}(h:St w0 M0 w M Hs){k:Nat}{t ty e:TypeId}{i:TypeInfo}{z:Value}{sz n m:Nat}{v x:Value}{xs news:List Value}(hk:Hs[k]? =some (.own e sz v n xs))(hx:Sl M sz m x news)
  (ht:P.underlying t=some (.slice e)) (hi:P.info? e=some i) (hz:i.zero=some z) (hsize:i.size=sz) (hzs:z.cells.size=sz) (h1: ∀u∈news,u.oneCell'=true)
  (h63:n+m<=maxLen) (hbytes:(n+m)*i.bytes<=140737488355328):
  ∃v' w' M',(Builtin.append_ #[t,t] ty #[v,x]).run P w= .ok v' w'/\St w0 M0 w' M' (Hs.set k (.own e sz v' (n+m) (xs++news)))/\M.le M':=by
 obtain⟨hown,hmem⟩:=h.obj hk
 obtain⟨p,cap,rfl,hnc,_,hp⟩:=hx.val
 have hx': ∃p' c,(Value.slice p m cap)= .slice p' m c/\(0<m-> ∃a,p'=some a/\ ∀j u,news[j]? =some u->w.cell? (a.add j)=some u):=by
  refine⟨p,cap,rfl,λ hm=>?_⟩
  obtain⟨b,o,hp',hc⟩:=hp hm
  refine⟨_,hp',λ j u hu=>?_⟩
  rw[H8]
  refine h.sat.cell _ _ _ ?_
  rw[hc j (List.getElem?_eq_some_iff.1 hu).1,hu]
 obtain⟨v',w',hr,hown',hlow,hheap,hpre,hblk⟩:=fC (P:=P) w w0.heap.size t ty e i z sz ht hi hz hsize hzs v n xs hown _ m news hx.len hx' h1 h63 hbytes h.size
 obtain⟨M',h1',h2'⟩:=h.fD hk hown' hlow hheap hpre hblk
 exact⟨v',w',M',hr,h1',h2'⟩
end st
section rl
variable {P:Program} {ops:Array Oper} {Q:Exit->Act->World->Prop} {N:Nat} {rest:List Oper} {L:Env} {w0 w:World} {M0 M:Mem} {Hs:List HO} {d:Nat} {ty:TypeId} {ps:String} {af:Array Edge}
theorem RL.buildSlice {t e:TypeId}{n sz:Nat}{xs:List (Nat×Operand)}{vs:List (Nat×Value)}{cs:List Value}(hS:St w0 M0 w M Hs)(hx:G3 L true xs vs)(hl:cs.length=n*sz)(hm:Nat.ble n 9223372036854775807=true)
  (hr: ∀w,(Instr.buildSlice t n vs.toArray).run P w= .ok (.slice (some ⟨w.heap.size,0,none⟩) n n) (w.alloc (.cells cs.toArray e))) (hd:Nat.blt d N=true)
  (h: ∀v w' M',St w0 M0 w' M' (.own e sz v n cs::Hs)->M.le M'->RL P ops Q N rest ((d,true,v)::L) w'):RL P ops Q N (⟨some d,.buildSlice t n xs.toArray,ty,ps,af,none⟩::rest) L w:=by
 intro a hs
 refine wpList_plain U λ K hK=>?_
 have e1:xs.toArray.map (λ p=>(p.1,a.eval p.2))=vs.toArray:=by rw[List.map_toArray,G3.map hs U xs vs hx]
 have key:(execOp a.eval ⟨some d,.buildSlice t n xs.toArray,ty,ps,af,none⟩).run P w= .ok (.value (.slice (some ⟨w.heap.size,0,none⟩) n n)) (w.alloc (.cells cs.toArray e)):=by
  simp only[execOp,e1];rw[Sem.run_bind,hr w];rfl
 simp only[Oper.wp,key,Oper.upon_value]
 obtain⟨h1,h2⟩:=hS.newRow e sz n cs hl (by have:=Nat.le_of_ble_eq_true hm;simp only[maxLen];omega)
 exact hK _ _ (h _ _ _ h1 h2 _ (hs.put hd true _))
theorem RL.append {t e:TypeId}{s x:Operand}{i:TypeInfo}{z:Value}{k sz n m:Nat}{v vx:Value}{xs news:List Value}(hS:St w0 M0 w M Hs)(hk:Hs[k]? =some (.own e sz v n xs))(hs:A8 L true s v)(hx:A8 L true x vx)(hsl:Sl M sz m vx news)
  (ht:P.underlying t=some (.slice e)) (hi:P.info? e=some i) (hz:i.zero=some z) (hsize:i.size=sz) (hzs:z.cells.size=sz) (h1:(∀u∈news,u.oneCell'=true))
  (hb:(n:Int)+m<=9223372036854775807/\((n:Int)+m)*i.bytes<=140737488355328) (hd:Nat.blt d N=true)
  (h: ∀v' w' M',St w0 M0 w' M' (Hs.set k (.own e sz v' (n+m) (xs++news)))->M.le M'->RL P ops Q N rest ((d,true,v')::L) w'):RL P ops Q N (⟨some d,.call ⟨.builtin .append,#[s,x],#[t,t]⟩,ty,ps,af,none⟩::rest) L w:=by
 intro a hsl'
 refine wpList_plain U λ K hK=>?_
 have hb2:(n+m)*i.bytes<=140737488355328:=by
  have h2:=hb.2
  rw[<-Int.natCast_add,<-Int.natCast_mul]at h2
  generalize (n+m)*i.bytes=q at h2 ⊢
  omega
 obtain⟨v',w',M',hr,hS',hle⟩:=hS.append (P:=P) (ty:=ty) hk hsl ht hi hz hsize hzs h1 (by simp only[maxLen];omega) hb2
 have key:(execOp a.eval ⟨some d,.call ⟨.builtin .append,#[s,x],#[t,t]⟩,ty,ps,af,none⟩).run P w= .ok (.value v') w':=by
  simp only[execOp,resolve,invoke,builtin,Sem.run_bind,Sem.run_pure,Result.andThen_ok,List.map_toArray,List.map_cons,List.map_nil,hs a N hsl' U,hx a N hsl' U,hr]
 simp only[Oper.wp,key,Oper.upon_value]
 exact hK _ _ (h _ _ _ hS' hle _ (hsl'.put hd true _))
end rl
section typed
variable {P:Program} {C:World->Prop} {L:Env} {W:Bool} {d:Option Tmp} {ty:TypeId} {ps:String} {af:Array Edge} {gd:Option (Nat×Bool)} {M:Mem}
theorem PV.QM {α:Type}{l:List α}{t:TypeId}{x:Operand}{sz:Nat}{v:Value}{cs:List Value}(h:Sl M sz l.length v cs)(hx:A8 L W x v)(ht: ∃e,P.underlying t=some (.slice e)):PV P C L W ⟨d,.call ⟨.builtin .len,#[x],#[t]⟩,ty,ps,af,gd⟩ (i64 (len l)):=PV.sL h hx ht
theorem PV.UU {α:Type}{l:List α}{t e:TypeId}{x y:Operand}{sz:Nat}{v:Value}{cs:List Value}{k:IntKind}{i:Int}(h:Sl M sz l.length v cs)(hx:A8 L W x v)(hy:A8 L W y (.int k i))(ht:P.underlying t=some (.slice e))(hs: ∀w,(sizeOf e).run P w= .ok sz w)
 (hr:W=true->0<=i/\i<len l):PV P C L W ⟨d,.indexAddr t x y,ty,ps,af,gd⟩ (.pointer (some ⟨sb v,so v+i.toNat*sz,none⟩)):=PV.sM h hx hy ht hs hr
end typed
section rl
variable {P:Program} {ops:Array Oper} {Q:Exit->Act->World->Prop} {N:Nat} {rest:List Oper} {L:Env} {w0 w:World} {M0 M:Mem} {Hs:List HO} {d:Nat} {ty:TypeId} {ps:String} {af:Array Edge}
theorem RL.N2 {α:Type}{f:α->List Value}{l m:List α}{t e:TypeId}{s x:Operand}{i:TypeInfo}{z:Value}{k sz by':Nat}{v vx:Value}(hS:St w0 M0 w M Hs)(hk:Hs[k]? =some (.own e sz v l.length (l.flatMap f)))(hs:A8 L true s v)(hx:A8 L true x vx)(hsl:Sl M sz m.length vx (m.flatMap f))
  (ht:P.underlying t=some (.slice e)) (hi:P.info? e=some i) (hz:i.zero=some z) (hsize:i.size=sz) (hzs:z.cells.size=sz) (h1: ∀x,∀u∈f x,u.oneCell'=true) (hby:i.bytes=by') (hb0:Nat.blt 0 by'=true)
  (hb:(len l+len m)*by'<=140737488355328) (hd:Nat.blt d N=true) {Hs':Value->List HO} (hHs: ∀v',Hs.set k (.own e sz v' (l++m).length ((l++m).flatMap f))=Hs' v')
  (h: ∀v' w' M',St w0 M0 w' M' (Hs' v')->M.le M'->RL P ops Q N rest ((d,true,v')::L) w'):RL P ops Q N (⟨some d,.call ⟨.builtin .append,#[s,x],#[t,t]⟩,ty,ps,af,none⟩::rest) L w:=by
 subst hby
 have hb0':0<i.bytes:=by simpa[Nat.blt_eq]using hb0
 unfold len at hb
 refine RL.append hS hk hs hx hsl ht hi hz hsize hzs (λ u hu=>?_) ⟨?_,hb⟩ hd λ v' w' M' h2 h3=>h v' w' M' ?_ h3
 ·obtain⟨y,_,hy⟩:=List.mem_flatMap.1 hu
  exact h1 y u hy
 ·have:((l.length:Int)+m.length)*1<=((l.length:Int)+m.length)*i.bytes:=Int.mul_le_mul_of_nonneg_left (by omega) (by omega)
  omega
 ·rw[<-hHs v',List.length_append,List.flatMap_append];exact h2
theorem RL.SH {α:Type}{f:α->List Value}{l:List α}{y:α}{t e:TypeId}{s x:Operand}{i:TypeInfo}{z:Value}{k sz by':Nat}{v vx:Value}(hS:St w0 M0 w M Hs)(hk:Hs[k]? =some (.own e sz v l.length (l.flatMap f)))(hs:A8 L true s v)(hx:A8 L true x vx)(hsl:Sl M sz 1 vx (f y))
  (ht:P.underlying t=some (.slice e)) (hi:P.info? e=some i) (hz:i.zero=some z) (hsize:i.size=sz) (hzs:z.cells.size=sz) (h1: ∀x,∀u∈f x,u.oneCell'=true) (hby:i.bytes=by') (hb0:Nat.blt 0 by'=true)
  (hb:(len l+1)*by'<=140737488355328) (hd:Nat.blt d N=true) {Hs':Value->List HO} (hHs: ∀v',Hs.set k (.own e sz v' (l++[y]).length ((l++[y]).flatMap f))=Hs' v')
  (h: ∀v' w' M',St w0 M0 w' M' (Hs' v')->M.le M'->RL P ops Q N rest ((d,true,v')::L) w'):RL P ops Q N (⟨some d,.call ⟨.builtin .append,#[s,x],#[t,t]⟩,ty,ps,af,none⟩::rest) L w:=
 RL.N2 (m:=[y]) hS hk hs hx (by simpa using hsl) ht hi hz hsize hzs h1 hby hb0 hb hd hHs h
end rl
section rq
variable {P:Program} {ops:Array Oper} {C:World->Prop} {post:Act->Prop} {N:Nat} {rest:List Oper} {L:Env} {d:Nat} {op:Op} {ty:TypeId} {ps:String} {af:Array Edge} {gd:Option (Nat×Bool)} {W:Bool} {u:Value}
def RQ(P:Program)(ops:Array Oper)(C:World->Prop)(N:Nat)(post:Act->Prop)(l:List Oper)(L:Env):Prop:= ∀a,AJ a N L->wpQuiet P ops C post l a
theorem RQ.v (hw:DB ops L gd W)(hp:PV P C L W ⟨some d,op,ty,ps,af,gd⟩ u)(hd:Nat.blt d N=true)(h:RQ P ops C N post rest ((d,W,u)::L)):RQ P ops C N post (⟨some d,op,ty,ps,af,gd⟩::rest) L:=by
 intro a hs
 unfold wpQuiet
 rw[DB.wanted (o:=⟨some d,op,ty,ps,af,gd⟩) hw hs]
 have hput:=hs.put hd W u
 cases W
 ·exact h _ hput
 ·refine⟨u,λ w hw'=>?_,h _ hput⟩
  simp only[Oper.quietAt,hp a N hs U w hw',Oper.quietUpon,and_self]
theorem RQ.call {f:FuncId}{xs:List Operand}{vs:List Value}{tys:Array TypeId}(hw:DB ops L gd W)(ct: ∀args w,(callFunc f args).run P w= .ok (.enter f args) w)(hx:EE L W xs vs)
  (hc:W=true-> ∀w,C w->Calls P f vs.toArray w (λ e w'=>e= .returned u/\C w')) (hd:Nat.blt d N=true) (h:RQ P ops C N post rest ((d,W,u)::L)):RQ P ops C N post (⟨some d,.call ⟨.value (.func f),xs.toArray,tys⟩,ty,ps,af,gd⟩::rest) L:=by
 intro a hs
 unfold wpQuiet
 rw[DB.wanted (o:=⟨some d,.call ⟨.value (.func f),xs.toArray,tys⟩,ty,ps,af,gd⟩) hw hs]
 have hput:=hs.put hd W u
 cases W
 ·exact h _ hput
 ·refine⟨u,λ w hw'=>?_,h _ hput⟩
  simp only[Oper.quietAt,O3 ct hx hs U,Oper.quietUpon,true_and]
  exact hc U w hw'
theorem RQ.nil (h: ∀a,AJ a N L->post a):RQ P ops C N post [] L:=λ a hs=>wpQuiet_nil (h a hs)
theorem CW.P5 {Q:Exit->Act->World->Prop}{w0 w:World}{M0 M:Mem}{Hs:List HO}{id:Nat}{l:List Oper}(hS:St w0 M0 w M Hs)(hm:P.follows .mixedOrders=true)(hB:Region.lexB .any l.toArray=true)
  (h:RQ P l.toArray (λ w'=>Ext w w') N (λ a=> ∀w',St w0 M0 w' M Hs->Q .normal a w') l L):CW P (.region id l.toArray true) Q N L w:=by
 intro a hs
 refine wp_region_quiet (C:=λ w'=>Ext w w') hm hB (Ext.drew w) ?_
 have h1:=h a hs
 have mono': ∀(l:List Oper) (ops:Array Oper) (a:Act) (p q:Act->Prop),(∀a,p a->q a)->wpQuiet P ops (λ w'=>Ext w w') p l a->wpQuiet P ops (λ w'=>Ext w w') q l a:=by
  intro l ops
  induction l with
  |nil=>intro a p q hpq hp;exact hpq a hp
  |cons o l ih=>
   intro a p q hpq hp
   unfold wpQuiet at hp ⊢
   split
   ·rename_i hw
    rw[if_pos hw]at hp
    obtain⟨v,hv1,hv2⟩:=hp
    exact⟨v,hv1,ih _ p q hpq hv2⟩
   ·rename_i hw
    rw[if_neg hw]at hp
    exact ih _ p q hpq hp
 exact mono' l l.toArray a _ _ (λ a' h2 w' he=>h2 w' (hS.ext he)) h1
end rq
section rs
variable {P:Program} {ops:Array Oper} {w1:World} {post:Act->Prop} {N:Nat} {rest:List Oper} {L:Env} {d:Nat} {op:Op} {ty:TypeId} {ps:String} {af:Array Edge} {gd:Option (Nat×Bool)} {W:Bool} {u:Value}
def RS(P:Program)(ops:Array Oper)(w1:World)(N:Nat)(post:Act->Prop)(l:List Oper)(L:Env):Prop:= ∀a,AJ a N L->wpStill P ops w1 post l a
theorem RS.v (hw:DB ops L gd W)(hp:PV P (· =w1) L W ⟨some d,op,ty,ps,af,gd⟩ u)(hd:Nat.blt d N=true)(h:RS P ops w1 N post rest ((d,W,u)::L)):RS P ops w1 N post (⟨some d,op,ty,ps,af,gd⟩::rest) L:=by
 intro a hs
 unfold wpStill
 rw[DB.wanted (o:=⟨some d,op,ty,ps,af,gd⟩) hw hs]
 have hput:=hs.put hd W u
 cases W
 ·exact h _ hput
 ·simp only[if_true,Oper.still,hp a N hs U w1 U,Oper.stillUpon_value]
  exact h _ hput
theorem RS.nil {Q:Exit->Act->World->Prop}{l:List Oper}(h:RL P ops Q N l L w1):RS P ops w1 N (λ a'=>wpList P ops Q l a' w1) [] L:=λ a hs=>wpStill_nil (h a hs)
theorem CW.sS {Q:Exit->Act->World->Prop}{w0 w:World}{M0 M:Mem}{Hs:List HO}{id:Nat}{l:List Oper}(n:Nat)(hS:St w0 M0 w M Hs)(hm:P.follows .mixedOrders=true)(hB:Region.lexTailB .any l.toArray n=true)
  (h: ∀w1,St w0 M0 w1 M Hs->RS P l.toArray w1 N (λ a'=>wpList P l.toArray Q (l.drop n) a' w1) (l.take n) L):CW P (.region id l.toArray true) Q N L w:=
 λ a hs=>wp_region_still_tail n hm hB (h _ (hS.ext (Ext.drew w)) a hs)
end rs
def AO(s:A1)(i:Int):Int:=((Utf8.decode ⟨⟨s⟩⟩ i.toNat).1:Nat)
def runeLen(s:A1)(i:Int):Int:=((Utf8.decode ⟨⟨s⟩⟩ i.toNat).2:Nat)
section rl
variable {P:Program} {ops:Array Oper} {Q:Exit->Act->World->Prop} {N:Nat} {rest:List Oper} {L:Env} {w0 w:World} {M0 M:Mem} {Hs:List HO} {d:Nat} {ty:TypeId} {ps:String} {af:Array Edge}
theorem RL.UW {t:TypeId}{x:Operand}{s:A1}(hS:St w0 M0 w M Hs)(hx:A8 L true x (str s))(ht:P.underlying t=some .string)(hd:Nat.blt d N=true)
  (h: ∀w' b,St w0 M0 w' M (.raw b (.stringIter ⟨⟨s⟩⟩ (0:Int).toNat)::Hs)->RL P ops Q N rest ((d,true,.pointer (some ⟨b,0,none⟩))::L) w'):RL P ops Q N (⟨some d,.range t x,ty,ps,af,none⟩::rest) L w:=by
 intro a hs
 refine wpList_plain U λ K hK=>?_
 have key:(execOp a.eval ⟨some d,.range t x,ty,ps,af,none⟩).run P w= .ok (.value (.pointer (some ⟨w.heap.size,0,none⟩))) (w.alloc (.stringIter ⟨⟨s⟩⟩ 0)):=by
  simp only[execOp,hx a N hs U];rw[Sem.run_bind,run_range_string w t _ ht];rfl
 simp only[Oper.wp,key,Oper.upon_value]
 exact hK _ _ (h _ _ (hS.P4 _) _ (hs.put hd true _))
theorem RL.UX {x:Operand}{s:A1}{i b:Nat}{p:Int}(hS:St w0 M0 w M Hs)(hi:Hs[i]? =some (.raw b (.stringIter ⟨⟨s⟩⟩ p.toNat)))(hx:A8 L true x (.pointer (some ⟨b,0,none⟩)))(hp:0<=p)(hd:Nat.blt d N=true)
  (h1:p<len s-> ∀w',St w0 M0 w' M (Hs.set i (.raw b (.stringIter ⟨⟨s⟩⟩ (p+runeLen s p).toNat)))->RL P ops Q N rest ((d,true,.tuple #[.bool true,i64 p,.int .i32 (AO s p)])::L) w')
  (h2: ¬p<len s->RL P ops Q N rest ((d,true,.tuple #[.bool false])::L) w):RL P ops Q N (⟨some d,.next x true,ty,ps,af,none⟩::rest) L w:=by
 intro a hs
 refine wpList_plain U λ K hK=>?_
 have hh:=(hS.obj hi).2.1
 by_cases hlt:p<len s
 ·have hlt':p.toNat<(ByteArray.mk ⟨s⟩).size:=by show p.toNat<s.length;unfold len at hlt;omega
  have e1:(p+runeLen s p).toNat=p.toNat+(Utf8.decode ⟨⟨s⟩⟩ p.toNat).2:=by unfold runeLen;omega
  have key:(Instr.next (.pointer (some ⟨b,0,none⟩)) true ty).run P w= .ok (.tuple #[.bool true,i64 p,.int .i32 (AO s p)]) (FL w b (.stringIter ⟨⟨s⟩⟩ (p+runeLen s p).toNat)):=by
   rw[e1]
   simp only[Instr.next,getObj,setObj,Sem.run_bind,Sem.run,hh,Result.andThen,hlt',if_true,FL,AO,goInt,i64]
   simp[Int.toNat_of_nonneg hp,Sem.run,hh]
  have key2:(execOp a.eval ⟨some d,.next x true,ty,ps,af,none⟩).run P w= .ok (.value (.tuple #[.bool true,i64 p,.int .i32 (AO s p)])) (FL w b (.stringIter ⟨⟨s⟩⟩ (p+runeLen s p).toNat)):=by
   simp only[execOp,hx a N hs U];rw[Sem.run_bind,key];rfl
  simp only[Oper.wp,key2,Oper.upon_value]
  exact hK _ _ (h1 hlt _ (hS.QK hi _) _ (hs.put hd true _))
 ·have hlt': ¬p.toNat<(ByteArray.mk ⟨s⟩).size:=by show ¬p.toNat<s.length;unfold len at hlt;omega
  have key:(Instr.next (.pointer (some ⟨b,0,none⟩)) true ty).run P w= .ok (.tuple #[.bool false]) w:=by
   simp[Instr.next,getObj,Sem.run,hh,hlt']
  have key2:(execOp a.eval ⟨some d,.next x true,ty,ps,af,none⟩).run P w= .ok (.value (.tuple #[.bool false])) w:=by
   simp only[execOp,hx a N hs U];rw[Sem.run_bind,key];rfl
  simp only[Oper.wp,key2,Oper.upon_value]
  exact hK _ _ (h2 hlt _ (hs.put hd true _))
theorem YO{f:FuncId}(ct: ∀args w,(callFunc f args).run P w= .ok (.enter f args) w){W:Bool}{x:Operand}{xs:List Operand}{vs fs cs:List Value}(hf:A8 L W x (.func (.func f) fs.toArray cs.toArray))(hx:EE L W xs vs){a:Act}{N:Nat}(hs:AJ a N L)(hW:W=true){d:Option Tmp}{tys:Array TypeId}{ty:TypeId}{ps:String}{af:Array Edge}{gd:Option (Nat×Bool)}:
  (execOp a.eval ⟨d,.call ⟨.value x,xs.toArray,tys⟩,ty,ps,af,gd⟩).run P w= .ok (.enter f (fs++vs++cs).toArray) w:=by
 have e:xs.toArray.map a.eval=vs.toArray:=by rw[List.map_toArray,EE.map hs hW xs vs hx]
 simp only[execOp,resolve,e,hf a N hs hW,Deferred.ofValue,invoke,Sem.run_bind,Sem.run_pure,Result.andThen_ok]
 simpa using ct (fs++vs++cs).toArray w
end rl
theorem PV.makeFunc {P:Program}{C:World->Prop}{L:Env}{W:Bool}{d:Option Tmp}{ty:TypeId}{ps:String}{af:Array Edge}{gd:Option (Nat×Bool)}{fn:Fn}{xs ys:List Operand}{vs us:List Value}(hx:EE L W xs vs)(hy:EE L W ys us):PV P C L W ⟨d,.makeFunc fn xs.toArray ys.toArray,ty,ps,af,gd⟩ (.func fn vs.toArray us.toArray):=by
 intro a N hs hW w _
 have e1:xs.toArray.map a.eval=vs.toArray:=by rw[List.map_toArray,EE.map hs hW xs vs hx]
 have e2:ys.toArray.map a.eval=us.toArray:=by rw[List.map_toArray,EE.map hs hW ys us hy]
 simp only[execOp,e1,e2,Instr.makeFunc,Sem.run_bind,Sem.run_pure,Result.andThen_ok]
theorem PV.IB {P:Program}{C:World->Prop}{L:Env}{W:Bool}{d:Option Tmp}{ty:TypeId}{ps:String}{af:Array Edge}{gd:Option (Nat×Bool)}{x:Operand}{p:Addr}(hx:A8 L W x (.pointer (some p))):PV P C L W ⟨d,.nilCheck x,ty,ps,af,gd⟩ (.pointer (some p)):=by
 intro a N hs hW w _
 simp only[execOp,hx a N hs hW]
 rfl
theorem sT{P:Program}{fn:Func}{R:Ending->World->Prop}{N:Nat}{L:Env}{w:World}(hr:fn.results= #[])(h:R (.returned (.tuple #[])) w): ∀a,AJ a N L->bodyPost P fn R .normal a w:=
 λ a hs=>bodyPost_end (results_none hr _ _ _) hs.DE h
structure Nd where
 kind:Int
 many:Int
 name:A1
 s:A1
 neg:Bool
 e:Int
 deriving DecidableEq,Inhabited
structure Tk where
 kind:Int
 s:A1
 c:Nd
 pos:Int
 deriving DecidableEq,Inhabited
def Nd.cells (n:Nd):List Value:=[i64 n.kind,i64 n.many,str n.name,str n.s,.bool n.neg,i64 n.e]
def Tk.cells (t:Tk):List Value:=[i64 t.kind,str t.s,i64 t.c.kind,i64 t.c.many,str t.c.name,str t.c.s,.bool t.c.neg,i64 t.c.e,i64 t.pos]
abbrev H9(n:Nd):Value:=.agg #[i64 n.kind,i64 n.many,str n.name,str n.s,.bool n.neg,i64 n.e]
abbrev fE(t:Tk):Value:=.agg #[i64 t.kind,str t.s,i64 t.c.kind,i64 t.c.many,str t.c.name,str t.c.s,.bool t.c.neg,i64 t.c.e,i64 t.pos]
abbrev JV(n:Nd)(r:List Value):List Value:=i64 n.kind::i64 n.many::str n.name::str n.s:: .bool n.neg::i64 n.e::r
abbrev sU(t:Tk)(r:List Value):List Value:=i64 t.kind::str t.s::i64 t.c.kind::i64 t.c.many::str t.c.name::str t.c.s:: .bool t.c.neg::i64 t.c.e::i64 t.pos::r
theorem Nd.B4 (n:Nd):(Nd.cells n).length=6:=rfl
theorem Tk.cells_one (t:Tk): ∀u∈Tk.cells t,u.oneCell'=true:=by intro u hu;simp[Tk.cells]at hu;rcases hu with rfl|rfl|rfl|rfl|rfl|rfl|rfl|rfl|rfl<;>rfl
def B2:Nd:=⟨0,0,[],[],false,0⟩
def AZ(s:A1):List Value:=[str s]
theorem DZ(s:A1):(AZ s).length=1:=rfl
theorem YP(s:A1): ∀u∈AZ s,u.oneCell'=true:=by intro u hu;simp[AZ]at hu;subst hu;rfl
theorem sV{s:A1}{i:Int}(h0:0<=i)(h1:i<len s): ∃h:i.toNat<s.length,A2 s i=((s[i.toNat].toNat:Nat):Int):=by
 have h:i.toNat<s.length:=by unfold len at h1;omega
 exact⟨h,by simp[A2,h]⟩
def E9(c:Int):Bool:=decide (97<=c)&&decide (c<=122)||decide (65<=c)&&decide (c<=90)||c==95
def BG(c:Int):Bool:=decide (48<=c)&&decide (c<=57)
def J1(c:Int):Bool:=c==32||c==9||c==10||c==13
theorem fF{s:A1}{i:Int}(h0:0<=i)(h1:i<len s): ∃h:i.toNat<(ByteArray.mk ⟨s⟩).size,(((ByteArray.mk ⟨s⟩)[i.toNat]'h).toNat:Int)=A2 s i:=by
 have h:i.toNat<s.length:=by unfold len at h1;omega
 exact⟨h,by simp[A2,h];rfl⟩
theorem YQ{s:A1}{i:Int}(h0:0<=i)(h1:i<len s)(h2:A2 s i<128):AO s i=A2 s i/\runeLen s i=1:=by
 obtain⟨h,e⟩:=fF h0 h1
 have:=decode_ascii ⟨⟨s⟩⟩ i.toNat h (by omega)
 unfold AO runeLen;rw[this];exact⟨e,rfl⟩
theorem sW{s:A1}{i:Int}(h0:0<=i)(h1:i<len s)(h2:128<=A2 s i):128<=AO s i/\1<=runeLen s i:=by
 obtain⟨h,e⟩:=fF h0 h1
 have:=decode_high ⟨⟨s⟩⟩ i.toNat h (by omega)
 unfold AO runeLen;omega
def BS(r:Int)(first:Bool):Bool:=E9 r||(!first&&BG r)
theorem YR{r:Int}{f:Bool}(h:128<=r):BS r f=false:=by
 have e1:E9 r=false:=by
  unfold E9;simp only[Bool.or_eq_false_iff,Bool.and_eq_false_iff,decide_eq_false_iff_not,beq_eq_false_iff_ne];omega
 have e2:BG r=false:=by
  unfold BG;simp only[Bool.and_eq_false_iff,decide_eq_false_iff_not];omega
 simp[BS,e1,e2]
theorem fG{s:A1}{i:Int}{f:Bool}(h0:0<=i)(h1:i<len s):BS (AO s i) f=BS (A2 s i) f/\(BS (A2 s i) f=true->runeLen s i=1):=by
 rcases Int.lt_or_le (A2 s i) 128 with h|h
 ·obtain⟨e1,e2⟩:=YQ h0 h1 h;rw[e1];exact⟨rfl,λ _=>e2⟩
 ·obtain⟨e1,e2⟩:=sW h0 h1 h
  rw[YR h,YR e1];exact⟨rfl,λ h=>by cases h⟩
def CE(s:A1)(i:Int):Int:=
 if h:0<=i/\i<len s then if BS (A2 s i) (i==0)then CE s (i+1)else i else i
termination_by (len s-i).toNat
decreasing_by omega
theorem QN{s:A1}{i:Int}(h0:0<=i)(h1:i<len s)(h2:BS (A2 s i) (i==0)=true):CE s (i+1)=CE s i:=by
 conv=>rhs;rw[CE]
 rw[dif_pos ⟨h0,h1⟩,if_pos h2]
theorem QO{s:A1}{i:Int}(h0:0<=i)(h1:i<len s)(h2:BS (A2 s i) (i==0)=false):CE s i=i:=by
 rw[CE,dif_pos ⟨h0,h1⟩,h2];rfl
theorem QP{s:A1}{i:Int}(h1: ¬i<len s):CE s i=i:=by
 rw[CE,dif_neg (by omega)]
def AS(s:A1):A1:=Eng.sub s 0 (CE s 0)
def cont(s:A1)(i:Int):Bool:=decide (i<len s)&&decide (128<=A2 s i)&&decide (A2 s i<192)
def rune(s:A1)(i:Int):Int:=
 let c:=A2 s i
 if c<128 then 1
 else if decide (194<=c)&&decide (c<224)&&cont s (i+1)then 2
 else if decide (224<=c)&&decide (c<240)&&cont s (i+1)&&cont s (i+2)then
  if c==224&&decide (A2 s (i+1)<160)||c==237&&decide (160<=A2 s (i+1))then 0 else 3
 else if decide (240<=c)&&decide (c<245)&&cont s (i+1)&&cont s (i+2)&&cont s (i+3)then
  if c==240&&decide (A2 s (i+1)<144)||c==244&&decide (144<=A2 s (i+1))then 0 else 4
 else 0
def G4(s:A1)(i:Int):Bool:=
 if h:0<=i/\i<len s then
  if h2:0<rune s i then G4 s (i+rune s i)else false
 else true
termination_by (len s-i).toNat
decreasing_by omega
def CR(s:A1):Bool:=G4 s 0
theorem LR(s:A1)(i:Int):0<=rune s i/\rune s i<=4:=by
 unfold rune;dsimp only;repeat' split
 all_goals omega
theorem YS{s:A1}{i:Int}(h:cont s i=true):i<len s:=by
 unfold cont at h;simp only[Bool.and_eq_true,decide_eq_true_eq]at h;exact h.1.1
theorem rune_le(s:A1)(i:Int)(h1:i<len s):i+rune s i<=len s:=by
 have c1:cont s (i+1)=true->i+1<len s:=YS
 have c2:cont s (i+2)=true->i+2<len s:=YS
 have c3:cont s (i+3)=true->i+3<len s:=YS
 unfold rune;dsimp only;repeat' split
 all_goals first|omega|(simp_all;done)|(simp_all;omega)
theorem N3(s:A1)(i:Int)(h0:0<=i)(h1:i<len s)(h2:0<rune s i):G4 s (i+rune s i)=G4 s i:=by
 conv=>rhs;rw[G4]
 rw[dif_pos ⟨h0,h1⟩,dif_pos h2]
theorem SI(s:A1)(i:Int)(h0:0<=i)(h1:i<len s)(h2:rune s i=0):G4 s i=false:=by
 rw[G4,dif_pos ⟨h0,h1⟩,dif_neg (by omega)]
theorem UY(s:A1)(i:Int)(h1: ¬i<len s):G4 s i=true:=by
 rw[G4,dif_neg (by omega)]
def KO(s:A1)(i:Int):Bool:=
 if h:0<=i/\i<len s then
  if E9 (A2 s i)||i != 0&&BG (A2 s i)then KO s (i+1)else false
 else s != []
termination_by (len s-i).toNat
decreasing_by omega
def CF(s:A1):Bool:=KO s 0
theorem fH(s:A1)(i:Int)(h0:0<=i)(h1:i<len s)(h2:(E9 (A2 s i)||i != 0&&BG (A2 s i))=true):KO s (i+1)=KO s i:=by
 conv=>rhs;rw[KO]
 rw[dif_pos ⟨h0,h1⟩,if_pos h2]
theorem fI(s:A1)(i:Int)(h0:0<=i)(h1:i<len s)(h2: ¬(E9 (A2 s i)||i != 0&&BG (A2 s i))=true):KO s i=false:=by
 rw[KO,dif_pos ⟨h0,h1⟩,if_neg h2]
theorem fJ(s:A1)(i:Int)(h1: ¬i<len s):KO s i=(s != []):=by
 rw[KO,dif_neg (by omega)]
def KP(s:A1)(i:Int):Bool:=
 if h:0<=i/\i<len s then
  if BG (A2 s i)then KP s (i+1)else false
 else true
termination_by (len s-i).toNat
decreasing_by omega
def HA(s:A1):Bool:=KP s 0
theorem fK(s:A1)(i:Int)(h0:0<=i)(h1:i<len s)(h2:BG (A2 s i)=true):KP s (i+1)=KP s i:=by
 conv=>rhs;rw[KP]
 rw[dif_pos ⟨h0,h1⟩,if_pos h2]
theorem fL(s:A1)(i:Int)(h0:0<=i)(h1:i<len s)(h2: ¬BG (A2 s i)=true):KP s i=false:=by
 rw[KP,dif_pos ⟨h0,h1⟩,if_neg h2]
theorem YT(s:A1)(i:Int)(h1: ¬i<len s):KP s i=true:=by
 rw[KP,dif_neg (by omega)]
def G5(n:Nd):Bool:=
 if n.kind != 3||n.many != 0|| !(n.name==[])|| !(HA n.s)||decide (100<len n.s)||decide (n.e< -1000)||decide (1000<n.e)||decide (1000<len n.s+n.e)then false
 else if n.s==[]then !n.neg&&n.e==0
 else A2 n.s 0 != 48&&A2 n.s (len n.s-1) != 48
theorem sub_succ{α:Type}[Inhabited α](a:List α)(k:Int)(h0:0<=k)(h1:k<len a):Eng.sub a 0 (k+1)=Eng.sub a 0 k++[a.getD k.toNat default]:=by
 have hk:k.toNat<a.length:=by unfold len at h1;omega
 unfold Eng.sub
 rw[show(k+1).toNat=k.toNat+1 from by omega]
 simp only[Int.toNat_zero,List.drop_zero,Nat.sub_zero]
 rw[List.take_succ_eq_append_getElem hk]
 simp[hk]
theorem JW{α:Type}(a:List α)(k:Int)(h:len a<=k):Eng.sub a 0 k=a:=by
 unfold Eng.sub;unfold len at h
 simp only[Int.toNat_zero,List.drop_zero,Nat.sub_zero]
 exact List.take_of_length_le (by omega)
def AL:List A1:=[[61,61],[33,61],[60,61],[62,61],[46],[124],[44],[58],[40],[41],[91],[93],[123],[125],[60],[62],[63]]
def YU(s:A1):Bool:=AL.contains s
def EY(t:Tk):Bool:=
 if t.kind==1 then YU t.s&&decide (t.c=B2)
 else if t.kind==2 then CF t.s&&decide (t.c=B2)
 else if t.kind==3||t.kind==4 then CR t.s&&decide (t.c=B2)
 else if t.kind==5 then t.s==[]&&G5 t.c
 else false
theorem UZ{α:Type}[Inhabited α]{l:List α}{k:Int}(h0:0<=k)(h1:k<len l):l.getD k.toNat default∈l:=by
 have hk:k.toNat<l.length:=by unfold len at h1;omega
 simp[hk]
def strip(p:Bool)(t:Tk):Tk:=if p then t else{ t with pos:=0}
end Go.Eng
