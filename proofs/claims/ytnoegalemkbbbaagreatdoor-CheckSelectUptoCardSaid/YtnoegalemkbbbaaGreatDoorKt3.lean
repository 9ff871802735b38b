/- Lemmas for the card. -/
import Derived.Test.YtnoegalemkbbbaaGreatDoorKt2
set_option linter.unusedVariables false
set_option linter.unusedSimpArgs false
set_option maxRecDepth 100000
namespace Go.Eng
open Go.RowKit
section st
variable {w0 w:World} {M0 M:Mem} {Hs:List HO}
theorem St.AB5 (h:St w0 M0 w M Hs)(e:TypeId)(sz n:Nat)(xs:List Value)(hl:xs.length=n*sz)(hm:n<=maxLen):
  St w0 M0 (w.alloc (.cells xs.toArray e)) M (.priv e sz (.slice (some ⟨w.heap.size,0,none⟩) n n) n xs::Hs):=by
 have h1:=h.ext (Ext.alloc w (.cells xs.toArray e))
 refine⟨h1.low,h1.sat,h1.old,λ x hx=>?_,List.pairwise_cons.2 ⟨λ y k b i=>?_,h.apart⟩⟩
 ·rcases List.mem_cons.1 hx with rfl|hx
  ·refine⟨⟨hl,.inr ⟨w.heap.size,n,xs.toArray,rfl,h.size,heap_alloc_new _ _,Nat.le_refl _,hm,by simpa using hl,by rw[<-hl];simp⟩⟩,λ b i o=>?_⟩
   simp only[Value.ownBlock,Option.some.injEq]at i;subst i
   exact h.PJ (Nat.le_refl _) o
  ·exact h1.ok x hx
 ·simp only[HO.FJ,Value.ownBlock,Option.some.injEq]at i;subst i
  intro j
  have:=(HO.ok.lt (h.ok y k) j).2
  omega
theorem St.cC (h:St w0 M0 w M Hs)(e:TypeId)(sz:Nat):St w0 M0 w M (.priv e sz (.slice none 0 0) 0 []::Hs):=
 ⟨h.low,h.sat,h.old,λ x hx=>by
  rcases List.mem_cons.1 hx with rfl|hx
  ·exact⟨World.ownsRow_nil w _ e sz,λ b i=>(by cases i)⟩
  ·exact h.ok x hx,List.pairwise_cons.2 ⟨λ y j b i=>(by cases i),h.apart⟩⟩
theorem St.show (h:St w0 M0 w M Hs){k:Nat}{e:TypeId}{sz n:Nat}{v:Value}{xs:List Value}(s:Hs[k]? =some (.priv e sz v n xs)):
  ∃M',St w0 M0 w M' (Hs.set k (.own e sz v n xs))/\M.le M':=by
 obtain⟨j,q⟩:=h.obj s
 let M':Mem:=λ b o=>if v.ownBlock=some b then xs[o]? else M b o
 have l: ∀b,v.ownBlock≠some b-> ∀o,M' b o=M b o:=λ b i o=>if_neg i
 have heq: ∀b,v.ownBlock=some b-> ∀o,M' b o=xs[o]?:=λ b i o=>if_pos i
 refine⟨M',?_,λ b o u hu=>?_⟩
 ·refine h.write s (Below.refl _ _) ⟨λ b o u hu=>?_⟩ (λ b o i=>l b (λ e=>by have:=(World.ownsRow.lt j b e).1;omega) o) (λ _ _ _=>rfl) (λ b _ i o=>l b i o) ⟨j,λ b i=>⟨λ o _=>heq b i o,λ o ho=>by rw[heq b i o];exact List.getElem?_eq_none ho⟩⟩ (λ _ i=>.inl i)
  by_cases i:v.ownBlock=some b
  ·rw[heq b i]at hu
   have:=j.cells i o u hu
   rwa [F6,Nat.zero_add]at this
  ·rw[l b i]at hu;exact h.sat.cell b o u hu
 ·by_cases i:v.ownBlock=some b
  ·rw[q b i o]at hu;cases hu
  ·rw[l b i,hu]
theorem St.told (h:St w0 M0 w M Hs){k:Nat}{e:TypeId}{sz n:Nat}{v:Value}{xs:List Value}(b:Hs[k]? =some (.priv e sz v n xs)):St w0 M0 w (h.show b).choose (Hs.set k (.own e sz v n xs)):=(h.show b).choose_spec.1
theorem St.lD {P:Program}(h:St w0 M0 w M Hs){k:Nat}{t ty e:TypeId}{i:TypeInfo}{z:Value}{sz n m:Nat}{v x:Value}{xs news:List Value}(S:Hs[k]? =some (.priv e sz v n xs))(hx:Sl M sz m x news)
  (W:P.underlying t=some (.slice e)) (hi:P.info? e=some i) (X:i.zero=some z) (B:i.size=sz) (J:z.cells.size=sz) (h1: ∀u∈news,u.oneCell'=true)
  (K:n+m<=maxLen) (q:(n+m)*i.bytes<=140737488355328):
  ∃v' w',(Builtin.append_ #[t,t] ty #[v,x]).run P w= .ok v' w'/\St w0 M0 w' M (Hs.set k (.priv e sz v' (n+m) (xs++news))):=by
 obtain⟨G,y⟩:=h.obj S
 obtain⟨p,cap,rfl,hnc,_,hp⟩:=hx.val
 have L: ∃T c,(Value.slice p m cap)= .slice T m c/\(0<m-> ∃a,T=some a/\ ∀j u,news[j]? =some u->w.cell? (a.add j)=some u):=by
  refine⟨p,cap,rfl,λ hm=>?_⟩
  obtain⟨b,o,N,hc⟩:=hp hm
  refine⟨_,N,λ j u hu=>?_⟩
  rw[F6]
  refine h.sat.cell _ _ _ ?_
  rw[hc j (List.getElem?_eq_some_iff.1 hu).1,hu]
 obtain⟨v',w',hr,C,H,l,V,A⟩:=kK (P:=P) w w0.heap.size t ty e i z sz W hi X B J v n xs G _ m news hx.len L h1 K q h.size
 have D: ∀b,v'.ownBlock=some b-> ∀o,M b o=none:=λ b E o=>by
  rcases A with s|⟨b',s,O⟩
  ·exact y b (by rw[<-s];exact E) o
  ·rw[E]at s;cases s;exact h.PJ O o
 refine⟨v',w',hr,h.write S H ⟨λ b o u hu=>?_⟩ (λ _ _ _=>rfl) (λ b E F=>l b E F) (λ _ _ _ _=>rfl) ⟨C,D⟩ (λ b E=>?_)⟩
 ·have Q:=h.sat.lt hu
  have F:v.ownBlock≠some b:=λ e=>by rw[y b e o]at hu;cases hu
  have:=h.sat.cell b o u hu
  simp only[World.cell?,l b Q F]at this ⊢;exact this
 ·rcases A with s|⟨b',s,O⟩
  ·exact .inl (by show v.ownBlock=some b;rw[<-s];exact E)
  ·have R:v'.ownBlock=some b:=E
   rw[R]at s;cases s;exact .inr O
theorem St.lE {P:Program}(h:St w0 M0 w M Hs){k:Nat}{e:TypeId}{sz n:Nat}{v:Value}{xs us:List Value}{o:Nat}(G:Hs[k]? =some (.priv e sz v n xs))(ho:o+us.length<=xs.length)(hu:0<us.length)(h1: ∀u∈us,u.oneCell'=true):
  ∃w',(storeCells ⟨sb v,so v+o,none⟩ us 0).run P w= .ok () w'/\St w0 M0 w' M (Hs.set k (.priv e sz v n (DF xs o us))):=by
 obtain⟨⟨hl,H⟩,i⟩:=h.obj G
 rcases H with⟨rfl,rfl⟩|⟨g,cap,cur,rfl,hg,z,A,B,J,q⟩
 ·rw[Nat.zero_mul]at hl;omega
 ·have K:xs.length<=cur.size:=by rw[<-q,List.length_take];simp;omega
  have C:=run_storeCells_at P g o e us 0 cur w z Aa h1
  refine⟨_,by simpa[sb,so]using C,?_⟩
  have L:g<w.heap.size:=by
   rcases Nat.lt_or_ge g w.heap.size with D|D
   ·exact D
   ·simp[Array.getElem?_eq_none D]at z
  refine h.write G (WB _ hg) ⟨λ E y u j=>?_⟩ (λ _ _ _=>rfl) (λ b _ s=>PK _ _ _ _ (λ e=>s (by rw[e];rfl))) (λ _ _ _ _=>rfl) ⟨⟨?_,.inr ⟨g,cap,_,rfl,hg,RD _ _ _ _ _ _ z,A,B,?_,?_⟩⟩,λ b s y=>i b s y⟩ (λ _ s=>.inl s)
  ·have F:E≠g:=λ e=>by subst e;rw[i E rfl y]at j;cases j
   have:=h.sat.cell E y u j
   simp only[World.cell?,PK _ _ _ _ F]at this ⊢
   exact this
  ·unfold DF;simp only[List.length_append,List.length_take,List.length_drop];omega
  ·simp only[List.size_toArray,List.length_append,List.length_take,List.length_drop,Array.length_toList];omega
  ·unfold DF
   simp only[Nat.add_zero]
   have N:(List.take o cur.toList).length=o:=by rw[List.length_take,Array.length_toList];omega
   rw[<-q,List.take_take,List.drop_take,Nat.min_eq_left (by omega:o<=n*sz)]
   simp only[List.append_assoc]
   rw[List.take_append,List.take_append,N,List.take_take,Nat.min_eq_right (by omega:o<=n*sz),List.take_of_length_le (l:=us) Aa,Nat.sub_sub]
end st
section rl
variable {P:Program} {ops:Array Oper} {Q:Exit->Act->World->Prop} {N:Nat} {rest:List Oper} {L:Env} {w0 w:World} {M0 M:Mem} {Hs:List HO} {d:Nat} {ty:TypeId} {ps:String} {af:Array Edge}
theorem RL.AB6 {t e:TypeId}{n sz:Nat}{xs:List (Nat×Operand)}{vs:List (Nat×Value)}{cs:List Value}(hS:St w0 M0 w M Hs)(hx:GN L true xs vs)(hl:cs.length=n*sz)(hm:Nat.ble n 9223372036854775807=true)
  (i: ∀w,(Instr.buildSlice t n vs.toArray).run P w= .ok (.slice (some ⟨w.heap.size,0,none⟩) n n) (w.alloc (.cells cs.toArray e))) (hd:Nat.blt d N=true)
  (h: ∀v w',St w0 M0 w' M (.priv e sz v n cs::Hs)->RL P ops Q N rest ((d,true,v)::L) w'):RL P ops Q N (⟨some d,.buildSlice t n xs.toArray,ty,ps,af,none⟩::rest) L w:=by
 intro a b
 refine wpList_plain U λ K j=>?_
 have k:xs.toArray.map (λ p=>(p.1,a.eval p.2))=vs.toArray:=by rw[List.map_toArray,GN.map b U xs vs hx]
 have key:(execOp a.eval ⟨some d,.buildSlice t n xs.toArray,ty,ps,af,none⟩).run P w= .ok (.value (.slice (some ⟨w.heap.size,0,none⟩) n n)) (w.alloc (.cells cs.toArray e)):=by
  simp only[execOp,k];rw[Sem.run_bind,i w];rfl
 simp only[Oper.wp,key,Oper.upon_value]
 exact j _ _ (h _ _ (hS.AB5 e sz n cs hl (by have:=Nat.le_of_ble_eq_true hm;simp only[maxLen];omega)) _ (b.put hd true _))
theorem RL.AB7 {α:Type}{f:α->List Value}{l m:List α}{t e:TypeId}{s x:Operand}{i:TypeInfo}{z:Value}{k sz by':Nat}{v vx:Value}(hS:St w0 M0 w M Hs)(J:Hs[k]? =some (.priv e sz v l.length (l.flatMap f)))(O:AD L true s v)(hx:AD L true x vx)(A:Sl M sz m.length vx (m.flatMap f))
  (R:P.underlying t=some (.slice e)) (hi:P.info? e=some i) (S:i.zero=some z) (j:i.size=sz) (B:z.cells.size=sz) (h1: ∀x,∀u∈f x,u.oneCell'=true) (C:i.bytes=by') (D:Nat.blt 0 by'=true)
  (E:(len l+len m)*by'<=140737488355328) (hd:Nat.blt d N=true) {Hs':Value->List HO} (F: ∀v',Hs.set k (.priv e sz v' (l++m).length ((l++m).flatMap f))=Hs' v')
  (h: ∀v' w',St w0 M0 w' M (Hs' v')->RL P ops Q N rest ((d,true,v')::L) w'):RL P ops Q N (⟨some d,.call ⟨.builtin .append,#[s,x],#[t,t]⟩,ty,ps,af,none⟩::rest) L w:=by
 subst C
 have n:0<i.bytes:=by simpa[Nat.blt_eq]using D
 unfold len at E
 intro a b
 refine wpList_plain U λ K T=>?_
 have G:(l.length+m.length)*i.bytes<=140737488355328:=by
  rw[<-Int.natCast_add,<-Int.natCast_mul]at E
  generalize (l.length+m.length)*i.bytes=q at E ⊢
  omega
 have hle:(l.length+m.length)*1<=(l.length+m.length)*i.bytes:=Nat.mul_le_mul_left _ n
 obtain⟨v',w',V,H⟩:=hS.lD (P:=P) (ty:=ty) J A R hi S j B (λ u hu=>by obtain⟨y,_,W⟩:=List.mem_flatMap.1 hu;exact h1 y u W) (by simp only[maxLen];omega) G
 have key:(execOp a.eval ⟨some d,.call ⟨.builtin .append,#[s,x],#[t,t]⟩,ty,ps,af,none⟩).run P w= .ok (.value v') w':=by
  simp only[execOp,resolve,invoke,builtin,Sem.run_bind,Sem.run_pure,Result.andThen_ok,List.map_toArray,List.map_cons,List.map_nil,O a N b U,hx a N b U,V]
 simp only[Oper.wp,key,Oper.upon_value]
 exact T _ _ (h _ _ (by rw[<-F v',List.length_append,List.flatMap_append];exact H) _ (b.put hd true _))
theorem RL.AB8 {t e:TypeId}{x y:Operand}{k sz n m o:Nat}{v u:Value}{xs xs':List Value}(hS:St w0 M0 w M Hs)(D:Hs[k]? =some (.priv e sz v n xs))(hx:AD L true x (.pointer (some ⟨sb v,so v+o,none⟩)))(E:AD L true y u)(F: ∀w,(sizeOf t).run P w= .ok m w)
  (B:u.cells.toList.length=m) (j:Nat.blt 0 m=true) (C:o+m<=xs.length) (h1:(u.cells.toList.all (·.oneCell'))=true) (l:DF xs o u.cells.toList=xs') {Hs':List HO} (q:Hs.set k (.priv e sz v n xs')=Hs')
  (h: ∀w',St w0 M0 w' M Hs'->RL P ops Q N rest L w'):RL P ops Q N (⟨none,.store t x y,ty,ps,af,none⟩::rest) L w:=by
 intro a b
 refine wpList_plain U λ K G=>?_
 obtain⟨w',s,z⟩:=hS.lE (P:=P) (us:=u.cells.toList) (o:=o) D Aa (by rw[B];simpa[Nat.blt_eq]using j) (List.all_eq_true.1 h1)
 have A:u.cells.size=m:=by rw[<-B];simp
 have key:(Instr.storeAt t (.pointer (some ⟨sb v,so v+o,none⟩)) u).run P w= .ok () w':=by
  simp only[Instr.storeAt,Instr.sureAddr,storeVar,Sem.run_bind,Sem.run_pure,Result.andThen_ok,F,A,ne_eq,not_true_eq_false,if_false,s]
 have i:(execOp a.eval ⟨none,.store t x y,ty,ps,af,none⟩).run P w= .ok .skip w':=by
  simp only[execOp,hx a N b U,E a N b U];rw[Sem.run_bind,key];rfl
 simp only[Oper.wp,i,Oper.upon_skip]
 exact G _ _ (h _ (by rw[<-q,<-l];exact z) _ b)
end rl
theorem AB9{α:Type}[Inhabited α]{f:α->List Value}{sz:Nat}(e: ∀x,(f x).length=sz)(l:List α)(i:Nat)(y:α)(off:Nat)(us:List Value)(hi:i<l.length)(h:DF (f (l.getD i default)) off us=f y)(j:off+us.length<=sz):
  DF (l.flatMap f) (i*sz+off) us=(l.set i y).flatMap f:=by
 induction l generalizing i with
 |nil=>simp at hi
 |cons x l k=>
  cases i with
  |zero=>
   have b:DF (f x) off us=f y:=by simpa using h
   have hx:=e x
   simp only[List.set_cons_zero,List.flatMap_cons,Nat.zero_mul,Nat.zero_add]
   rw[<-b]
   unfold DF
   rw[List.take_append_of_le_length Aa,List.drop_append_of_le_length Aa]
   simp
  |succ i=>
   have n:=k i (by simpa using hi) (by simpa using h)
   have hx:=e x
   simp only[List.set_cons_succ,List.flatMap_cons]
   rw[<-n]
   unfold DF
   have q:(i+1)*sz+off=(f x).length+(i*sz+off):=by rw[hx,Nat.succ_mul];omega
   rw[q,List.take_append,List.drop_append,List.take_of_length_le Aa,show(f x).length+(i*sz+off)-(f x).length=i*sz+off from by omega,List.drop_eq_nil_of_le Aa,show(f x).length+(i*sz+off)+us.length-(f x).length=i*sz+off+us.length from by omega]
   simp
theorem PS: ∀ {L:XE} {k:Nat} {g:Bool} {v:Value},look L.d k=some (g,v)-> ∃b v',BM L k=some (b,v')/\g=b.d/\v=v'.d
 |[],_,_,_,h=>by cases h
 |(t,b,v')::L,k,g,v,h=>by
  have i:look ((t,b.d,v'.d)::XE.d L) k=some (g,v):=h
  unfold look at i
  unfold BM
  split at i<;>rename_i e<;>rw[e]
  ·cases i;exact⟨_,_,rfl,rfl,rfl⟩
  ·exact PS i
abbrev DP(P:Program)(T:TT):Prop:= ∀t td,G0 T t=some td->td.ok P t
abbrev BH(M:Mem)(F:List (Nat×Kn)):Prop:= ∀x∈F,x.2.ok M
theorem A3{M:Mem}:BH M []:=λ x hx=>by cases hx
theorem AA{M:Mem}{F:List (Nat×Kn)}{k:Nat}{K:Kn}(h:K.ok M)(hF:BH M F):BH M ((k,K)::F):=λ x hx=>by
 rcases List.mem_cons.1 hx with rfl|hx
 ·exact h
 ·exact hF x hx
theorem fc{α:Type}[Inhabited α]{M:Mem}{F:List (Nat×Kn)}(k:Nat){v:Value}{sz:Nat}{l:List α}{f:α->List Value}(h:Sl M sz l.length v (l.flatMap f))(b: ∀x,(f x).length=sz)(hF:BH M F):BH M ((k,kn v sz l f)::F):=AA ⟨h,b,trivial⟩ hF
theorem BH.get {M:Mem}{F:List (Nat×Kn)}(h:BH M F){k:Nat}{K:Kn}(b:KI F k=some K):K.ok M:=by
 obtain⟨i,hi⟩:=l8 b;exact h _ hi
theorem EI{H:List (Nat×HX)}{Hr:List HO}{k:Nat}{x:HX}(e:DO H k=some x): ∃i:Nat,(HD H++Hr)[i]? =some x.d/\ ∀y,HD (D4 H k y)++Hr=(HD H++Hr).set i y.d:=by
 obtain⟨i,h1,h⟩:=l9 e
 have b:i<(HD H).length:=(List.getElem?_eq_some_iff.1 h1).1
 exact⟨i,by rw[List.getElem?_append_left b];exact h1,λ y=>by rw[h y,List.set_append_left _ _ b]⟩
theorem RO{F:List (Nat×Kn)}{H:List (Nat×HX)}{Hr:List HO}{w0 w:World}{M0 M:Mem}{k:Nat}{K:Kn}(hF:BH M F)(hS:St w0 M0 w M (HD H++Hr))(h:O7 F H k=some K): ∃M' Hs',St w0 M0 w M' Hs'/\K.ok M':=by
 unfold O7 at h
 split at h
 ·rename_i h1;cases h;exact⟨M,_,hS,hF.get h1⟩
 ·split at h
  ·rename_i e α inh v sz l f q n hl h1
   cases h
   obtain⟨i,hi,_⟩:=EI (Hr:=Hr) h1
   have b:(HD H++Hr)[i]? =some (.priv e sz v l.length (l.flatMap f)):=hi
   have j:=hS.told b
   refine⟨_,_,j,⟨j.sl (i:=i) (by rw[List.getElem?_set_self (List.getElem?_eq_some_iff.1 b).1]),hl,trivial⟩⟩
  ·cases h
theorem lF{c:XV}(h:bV c=true):c.d0=c.d:=by cases c<;>first|rfl|(exact absurd h Ab)|cases h
section
variable {P:Program} {C:World->Prop} {L:XE} {W:Gd} {d:Option Tmp} {ty:TypeId} {ps:String} {af:Array Edge} {gd:Option (Nat×Bool)} {T:TT} {F:List (Nat×Kn)} {H:List (Nat×HX)} {Hr:List HO} {w0 w:World} {M0 M:Mem}
theorem _root_.Go.Eng.PV.AC0 {L:Env}{W:Bool}{α:Type}[Inhabited α]{f:α->List Value}{t:TypeId}{x:Operand}{sz j n:Nat}{v:Value}{l:List α}{i:Int}{Hs:List HO}(hS:St w0 M0 w M Hs)(hC: ∀w',C w'->Ext w w')(h:Sl M sz l.length v (l.flatMap f))(s: ∀x,(f x).length=sz)
  (hx:AD L W x (.pointer (some ⟨sb v,so v+i.toNat*sz+j,none⟩))) (A: ∀w,(isAgg t).run P w= .ok true w) (B: ∀w,(sizeOf t).run P w= .ok n w) (D:W=true->0<=i/\i<len l) (H:j+n<=sz):PV P C L W ⟨d,.load t x,ty,ps,af,gd⟩ (.agg (((f (at' l i)).drop j).take n).toArray):=by
 have hl:(((f (at' l i)).drop j).take n).length=n:=by rw[List.length_take,List.length_drop,s];omega
 refine .kF hx A (λ w=>by rw[hl];exact B w) λ E w' hw q u hu=>?_
 obtain⟨h0,h1⟩:=D E
 have F:q<n:=by have:=(List.getElem?_eq_some_iff.1 hu).1;omega
 rw[List.getElem?_take,if_pos F,List.getElem?_drop]at hu
 obtain⟨b,e⟩:=DB l h0 h1
 obtain⟨cap,J,_,_,G⟩:=h.at Aa
 have y:=RE f sz s l i.toNat (j+q) b Aa
 rw[<-e,hu]at y
 have k:i.toNat*sz+(j+q)<(l.flatMap f).length:=by
  rw[BR f sz s]
  have:=Nat.mul_le_mul_right sz (show i.toNat+1<=l.length from b)
  rw[Nat.add_mul]at this;omega
 have z:=G _ k
 rw[y]at z
 rw[F6,show so v+i.toNat*sz+j+q=so v+(i.toNat*sz+(j+q))from by omega]
 exact(hS.sat.ext (hC w' hw)).cell _ _ _ z
theorem AC1{c x y:Operand}{v:XV}{p:List Prop}{E:List Ck}(h:bP L W c x y=some (v,p,E))(hE:A9 E):PV P C L.d W.d ⟨d,.pick c x y,ty,ps,af,gd⟩ v.d:=by
 unfold bP at h
 split at h
 ·rename_i j E1 h1
  split at h
  ·rename_i k i
   have:=O8 i;subst this
   split at h
   ·split at h
    ·rename_i vx E2 b
     split at h
     ·rename_i q e
      have:=O8 e;subst this
      simp only[Option.some.injEq,Prod.mk.injEq]at h;obtain⟨rfl,rfl,rfl⟩:=h
      refine .and (AF h1 (hE:=hE.app.1)) ?_
      have:=AF b (hE:=hE.app.2)
      rw[Gd.lC]at this;exact this
     ·cases h
    ·cases h
   ·split at h
    ·split at h
     ·rename_i vx E2 b
      split at h
      ·rename_i q e
       have:=O8 e;subst this
       simp only[Option.some.injEq,Prod.mk.injEq]at h;obtain⟨rfl,rfl,rfl⟩:=h
       refine .or (AF h1 (hE:=hE.app.1)) ?_
       have:=AF b (hE:=hE.app.2)
       rw[Gd.lC]at this;exact this
      ·cases h
     ·cases h
    ·cases h
  ·cases h
 ·cases h
theorem AC2{s t:TypeId}{x:Operand}{a v:XV}{p:List Prop}(hT:DP P T)(h:bQ T s t a=some (v,p))(hx:AD L.d W.d x a.d)(hp:W.d=true->IS p):PV P C L.d W.d ⟨d,.convert s t x,ty,ps,af,gd⟩ v.d:=by
 unfold bQ at h
 split at h
 ·rename_i k n h1
  have:=PQ h1;subst this
  split at h
  ·rename_i l _ _ b
   split at h
   ·rename_i q _ _ e
    split at h
    ·rename_i i
     have:=WJ i;subst this
     simp only[Option.some.injEq,Prod.mk.injEq]at h;obtain⟨rfl,rfl⟩:=h
     exact .aS hx (hT _ _ b).kind (hT _ _ e).kind λ j=>U4 (hp j)
    ·cases h
   ·cases h
  ·cases h
 ·cases h
theorem AC3{t:TypeId}{x:Operand}{a v:XV}{E:List Ck}(hT:DP P T)(hF:BH M F)(hS:St w0 M0 w M (HD H++Hr))(h:bS T F H t a=some (v,E))(hE:A9 E)(hx:AD L.d W.d x a.d):PV P C L.d W.d ⟨d,.call ⟨.builtin .len,#[x],#[t]⟩,ty,ps,af,gd⟩ v.d:=by
 unfold bS at h
 split at h
 ·rename_i h1
  split at h
  ·rename_i l b
   have:=bR b;subst this
   simp only[Option.some.injEq,Prod.mk.injEq]at h;obtain⟨rfl,rfl⟩:=h
   exact .TN hx (hT _ _ h1).kind
  ·cases h
 ·rename_i e esz _ _ h1
  split at h
  ·rename_i k i
   split at h
   ·rename_i α inh j sz l f A n b
    simp only[Option.some.injEq,Prod.mk.injEq]at h;obtain⟨rfl,rfl⟩:=h
    have q:i=j:=hE _ (.head _)
    subst q
    obtain⟨M2,s,y,z⟩:=RO hF hS b
    exact .bC z.sl hx ⟨_,(hT _ _ h1).kind.1⟩
   ·cases h
  ·cases h
 ·cases h
theorem AC4{t:TypeId}{x y:Operand}{a b v:XV}{p:List Prop}{E:List Ck}(hT:DP P T)(hF:BH M F)(hS:St w0 M0 w M (HD H++Hr))(h:bT T F H t a b=some (v,p,E))(hE:A9 E)(hx:AD L.d W.d x a.d)(j:AD L.d W.d y b.d)(hp:W.d=true->IS p):PV P C L.d W.d ⟨d,.indexAddr t x y,ty,ps,af,gd⟩ v.d:=by
 unfold bT at h
 split at h
 ·rename_i k n
  split at h
  ·rename_i e esz _ _ h1
   split at h
   ·rename_i kk i q
    have:=PQ q;subst this
    split at h
    ·rename_i α inh s sz l f O z A
     simp only[Option.some.injEq,Prod.mk.injEq]at h;obtain⟨rfl,rfl,rfl⟩:=h
     have B:n=s:=hE _ (.head _)
     have D:esz=sz:=hE _ (.tail _ (.head _))
     subst B;subst D
     obtain⟨M2,G,J,K⟩:=RO hF hS A
     exact .zM K.sl hx j (hT _ _ h1).kind.1 (hT _ _ h1).kind.2 λ N=>(hp N).1
    ·cases h
   ·cases h
  ·cases h
 ·cases h
theorem AC5{t:TypeId}{x:Operand}{a v:XV}{f:Nat}(hT:DP P T)(h:bU T t a f=some v)(hx:AD L.d W.d x a.d):PV P C L.d W.d ⟨d,.fieldAddr t x f,ty,ps,af,gd⟩ v.d:=by
 unfold bU at h
 split at h
 ·rename_i fs _ _ _ h1
  split at h
  ·rename_i off n g b
   rw[I9]at b
   have e:=((hT _ _ h1).kind.2 f off n g b).1
   split at h
   ·cases h;exact .kG hx λ w=>by rw[e];rw[Nat.add_assoc]
   ·cases h;exact .kG hx λ w=>e _ _ w
   ·cases h
  ·cases h
 ·cases h
theorem AC6{t:TypeId}{x:Operand}{a v:XV}{f:Nat}(hT:DP P T)(h:bW T t a f=some v)(hx:AD L.d W.d x a.d):PV P C L.d W.d ⟨d,.field t x f,ty,ps,af,gd⟩ v.d:=by
 unfold bW at h
 split at h
 ·rename_i fs _ sz _ h1
  split at h
  ·rename_i off n g e
   rw[I9]at e
   have i:=((hT _ _ h1).kind.2 f off n g e).2
   split at h
   ·rename_i cs
    split at h
    ·rename_i hl
     have b:(cs.map XV.d0).length=sz:=by rw[List.length_map];exact Nat.eq_of_beq_eq_true hl
     split at h
     ·split at h
      ·rename_i r k
       cases h
       obtain⟨l,e2,e3⟩:=U3 _ _ _ _ k
       refine .field hx λ w=>?_
       show(Instr.field t (.agg (cs.map XV.d0).toArray) f).run P w=_
       rw[((i _ w b).2)]
       subst l
       simp[XV.d,XV.d1,List.map_take,List.map_drop]
      ·cases h
     ·split at h
      ·rename_i c j
       split at h
       ·rename_i hi
        cases h
        rw[I9]at j
        refine .field hx λ w=>?_
        show(Instr.field t (.agg (cs.map XV.d0).toArray) f).run P w=_
        rw[((i _ w b).2)]
        simp[List.getD,j,lF hi]
       ·cases h
      ·cases h
    ·cases h
   ·cases h
  ·cases h
 ·cases h
theorem lG{t:TypeId}{x:Operand}{a v:XV}{p:List Prop}{E:List Ck}(hT:DP P T)(hF:BH M F)(hS:St w0 M0 w M (HD H++Hr))(hC: ∀w',C w'->Ext w w')(h:WK T F H t a=some (v,p,E))(hE:A9 E)(hx:AD L.d W.d x a.d)(hp:W.d=true->IS p):PV P C L.d W.d ⟨d,.load t x,ty,ps,af,gd⟩ v.d:=by
 unfold WK at h
 split at h
 ·rename_i tk n g h1
  have z:=(hT _ _ h1).agg
  have D:=(hT _ _ h1).size
  dsimp only at z D
  split at h
  ·rename_i k V sz i j
   split at h
   ·rename_i α inh G e l f g' hg' J
    obtain⟨M2,Hs2,A,X⟩:=RO hF hS J
    have B:Sl M2 e l.length G (l.flatMap f):=X.sl
    have q: ∀x,(f x).length=e:=X.sz
    split at h
    ·split at h
     ·rename_i c y
      simp only[Option.some.injEq,Prod.mk.injEq]at h;obtain⟨rfl,rfl,rfl⟩:=h
      have K:V=G:=hE _ (.head _)
      have N:sz=e:=hE _ (.tail _ (.head _))
      subst K;subst N
      rw[I9]at y
      have hj:j<sz:=by
       have:=(List.getElem?_eq_some_iff.1 y).1
       rwa [q]at this
      exact .zI (f:=f) (i:=i) (j:=j) A hC B q hx z (λ O=>(hp O).1) (by simpa[Nat.blt_eq]using hj) y
     ·cases h
    ·split at h
     ·rename_i r Q
      split at h
      ·rename_i r' R
       simp only[Option.some.injEq,Prod.mk.injEq]at h;obtain⟨rfl,rfl,rfl⟩:=h
       have K:V=G:=hE _ (.head _)
       have N:sz=e:=hE _ (.tail _ (.head _))
       subst K;subst N
       have e1:=WI _ _ R
       obtain⟨e2,e3,e4⟩:=U3 _ _ _ _ Q
       show PV P C L.d W.d _ (.agg (r'.map XV.d0).toArray)
       rw[e1,e2]
       refine .AC0 (f:=f) (i:=i) (j:=j) (n:=n) A hC B q hx z D (λ O=>(hp O).1) (by rw[q]at e4;exact e4)
      ·cases h
     ·cases h
   ·cases h
  ·rename_i k b o
   split at h
   ·rename_i b' cs t' J
    obtain⟨i,hi,_⟩:=EI (Hr:=Hr) J
    split at h
    ·split at h
     ·rename_i c y
      split at h
      ·rename_i s
       simp only[Option.some.injEq,Prod.mk.injEq]at h;obtain⟨rfl,rfl,rfl⟩:=h
       have S:b=b':=hE _ (.head _)
       subst S
       rw[I9]at y
       rw[<-lF s]
       exact .zE hS hC hi hx z (by simp[y])
      ·cases h
     ·cases h
    ·split at h
     ·rename_i r Q
      simp only[Option.some.injEq,Prod.mk.injEq]at h;obtain⟨rfl,rfl,rfl⟩:=h
      have S:b=b':=hE _ (.head _)
      subst S
      obtain⟨e2,e3,e4⟩:=U3 _ _ _ _ Q
      exact .zF hS hC hi hx z D (by rw[List.length_map];exact e3) (by rw[e2];simp[List.map_take,List.map_drop])
     ·cases h
   ·cases h
  ·cases h
 ·cases h
theorem AC7{t:TypeId}{x:Operand}{lo hi:Option Operand}{v:XV}{p:List Prop}{E:List Ck}(hT:DP P T)(h:TO T L W t x lo hi=some (v,p,E))(hE:A9 E)(hp:W.d=true->IS p):PV P C L.d W.d ⟨d,.slice t x lo hi none,ty,ps,af,gd⟩ v.d:=by
 unfold TO at h
 split at h
 ·rename_i h0
  have n:=(hT _ _ h0).kind
  split at h
  ·rename_i vx B h1
   split at h
   ·rename_i a s
    have:=bR s;subst this
    split at h
    ·rename_i y z
     split at h
     ·rename_i q E1 b
      split at h
      ·rename_i D E2 w
       split at h
       ·rename_i k i e
        split at h
        ·rename_i k' j A
         have:=PQ e;subst this
         have:=PQ A;subst this
         simp only[Option.some.injEq,Prod.mk.injEq]at h;obtain⟨rfl,rfl,rfl⟩:=h
         exact .TO (AF h1 (hE:=hE.app.1)) (AF b (hE:=hE.app.2.app.1)) (AF w (hE:=hE.app.2.app.2)) n λ l=>(hp l).1
        ·cases h
       ·cases h
      ·cases h
     ·cases h
    ·rename_i y
     split at h
     ·rename_i q E1 b
      split at h
      ·rename_i k i e
       have:=PQ e;subst this
       simp only[Option.some.injEq,Prod.mk.injEq]at h;obtain⟨rfl,rfl,rfl⟩:=h
       exact .kB (AF h1 (hE:=hE.app.1)) (AF b (hE:=hE.app.2)) n λ l=>(hp l).1
      ·cases h
     ·cases h
    ·rename_i z
     split at h
     ·rename_i q E1 b
      split at h
      ·rename_i k i e
       have:=PQ e;subst this
       simp only[Option.some.injEq,Prod.mk.injEq]at h;obtain⟨rfl,rfl,rfl⟩:=h
       exact .z8 (AF h1 (hE:=hE.app.1)) (AF b (hE:=hE.app.2)) n λ l=>(hp l).1
      ·cases h
     ·cases h
    ·cases h
   ·cases h
  ·cases h
 ·cases h
theorem AC8{op:BinOp}{t j:TypeId}{x y:Operand}{a b v:XV}(hT:DP P T)(h:bZ T op t a b=some v)(hx:AD L.d W.d x a.d)(e:AD L.d W.d y b.d):PV P C L.d W.d ⟨d,.binOp op t x y j,ty,ps,af,gd⟩ v.d:=by
 unfold bZ at h
 split at h
 ·rename_i p h1
  split at h
  ·rename_i q k
   have:=O8 h1;subst this
   have:=O8 k;subst this
   split at h
   ·rename_i i
    split at h
    ·cases h;exact .zU (hT _ _ i).kind hx e
    ·cases h;exact .zV (hT _ _ i).kind hx e
    ·cases h
   ·cases h
  ·cases h
 ·cases h
theorem AC9{t:TypeId}{x y:Operand}{a b v:XV}{p:List Prop}(hT:DP P T)(h:O3 T t a b=some (v,p))(hx:AD L.d W.d x a.d)(e:AD L.d W.d y b.d)(hp:W.d=true->IS p):PV P C L.d W.d ⟨d,.index t x y,ty,ps,af,gd⟩ v.d:=by
 unfold O3 at h
 split at h
 ·rename_i h0
  split at h
  ·rename_i s h1
   have:=bR h1;subst this
   split at h
   ·rename_i k i j
    have:=PQ j;subst this
    simp only[Option.some.injEq,Prod.mk.injEq]at h;obtain⟨rfl,rfl⟩:=h
    exact .O3 hx e (hT _ _ h0).kind λ l=>(hp l).1
   ·cases h
  ·cases h
 ·cases h
theorem lH{M:Mem}{K:Kn}(h:K.ok M):K.v.oneCell'=true:=by
 obtain⟨p,cap,b,_⟩:=h.sl.val
 rw[b];rfl
theorem WM{v:Value}(h:v.oneCell'=true):v.cells.toList=[v]:=by cases v<;>first|rfl|(cases h)
theorem AD0{w0 w:World}{M0 M:Mem}{F:List (Nat×Kn)}{H:List (Nat×HX)}{Hr:List HO}(hF:BH M F)(hS:St w0 M0 w M (HD H++Hr)){v:XV}{E:List Ck}(h:WL F H v=some E)(hE:A9 E):v.d=v.d0/\v.d.cells.toList=[v.d0]:=by
 cases v with
 |v u=>
  simp only[WL]at h
  split at h
  ·rename_i h1;exact⟨rfl,WM h1⟩
  ·cases h
 |sl k u=>
  simp only[WL]at h
  split at h
  ·rename_i α inh e sz l f z n h1
   simp only[Option.some.injEq]at h;subst h
   have:u=e:=hE _ (.head _)
   refine⟨rfl,WM ?_⟩
   show u.oneCell'=true
   obtain⟨M2,q,s,y⟩:=RO hF hS h1
   rw[this];exact lH y
  ·cases h
 |el k x sz i j=>exact⟨rfl,rfl⟩
 |bx k b o=>exact⟨rfl,rfl⟩
 |ag cs=>cases h
 |tu vs=>cases h
theorem cE{w0 w:World}{M0 M:Mem}{F:List (Nat×Kn)}{H:List (Nat×HX)}{Hr:List HO}{L:XE}{W:Gd}{fs:List (Nat×Nat×Bool)}(hF:BH M F)(hS:St w0 M0 w M (HD H++Hr)): ∀ {ps:List (Nat×Operand)} {cs r:List XV} {E:List Ck},RM F H L W fs cs ps=some (r,E)->A9 E-> ∃vs,GN L.d W.d ps vs/\M7 fs (cs.map XV.d0) vs=some (r.map XV.d0)
 |[],cs,r,E,h,hE=>by simp only[RM,Option.some.injEq,Prod.mk.injEq]at h;obtain⟨rfl,rfl⟩:=h;exact⟨[],.nil,rfl⟩
 |(i,x)::ps,cs,r,E,h,hE=>by
  unfold RM at h
  have go: ∀ {off n:Nat} {g:Bool} {v:XV} {vs cs':List XV} {k:List Ck},nth fs i=some (off,n,g)->B5 L W x=some (v,k)->A9 k->v.d.cells.toList=vs.map XV.d0->vs.length=n->KK cs off vs=some cs'->
    (∃us,GN L.d W.d ps us/\M7 fs (cs'.map XV.d0) us=some (r.map XV.d0))-> ∃us,GN L.d W.d ((i,x)::ps) us/\M7 fs (cs.map XV.d0) us=some (r.map XV.d0):=by
   intro off n g v vs cs' k h1 l q s y b ⟨us,j,z⟩
   obtain⟨e,hle⟩:=put_eq _ _ _ _ b
   refine⟨(i,v.d)::us,.cons (AF l (hE:=q)) j,?_⟩
   rw[I9]at h1
   simp only[M7,h1,s,List.length_map,y,true_and]
   rw[if_pos Aa]
   rw[<-z,e]
   congr 1
   unfold DF
   simp[List.map_take,List.map_drop]
  split at h
  ·rename_i off n g h1
   split at h
   ·rename_i v k l
    split at h
    ·split at h
     ·rename_i vs
      split at h
      ·rename_i hl
       split at h
       ·rename_i cs' b
        split at h
        ·rename_i r' A j
         simp only[Option.some.injEq,Prod.mk.injEq]at h;obtain⟨rfl,rfl⟩:=h
         exact go h1 l hE.app.1 (by simp[XV.d,XV.d1,Value.cells]) (Nat.eq_of_beq_eq_true hl) b (cE hF hS j hE.app.2)
        ·cases h
       ·cases h
      ·cases h
     ·cases h
    ·split at h
     ·rename_i E1 s
      split at h
      ·rename_i hl
       split at h
       ·rename_i cs' b
        split at h
        ·rename_i r' A j
         simp only[Option.some.injEq,Prod.mk.injEq]at h;obtain⟨rfl,rfl⟩:=h
         exact go h1 l hE.app.2.app.1 (vs:=[v]) (by rw[(AD0 hF hS s hE.app.1).2];rfl) (Nat.eq_of_beq_eq_true hl) b (cE hF hS j hE.app.2.app.2)
        ·cases h
       ·cases h
      ·cases h
     ·cases h
   ·cases h
  ·cases h
theorem AD1{P:Program}{C:World->Prop}{L:XE}{W:Gd}{d:Option Tmp}{ty:TypeId}{ps:String}{af:Array Edge}{gd:Option (Nat×Bool)}{T:TT}{F:List (Nat×Kn)}{H:List (Nat×HX)}{Hr:List HO}{w0 w:World}{M0 M:Mem}{t:TypeId}{xs:Array (Nat×Operand)}{v:XV}{p:List Prop}{E:List Ck}(hT:DP P T)(hF:BH M F)(hS:St w0 M0 w M (HD H++Hr))(h:cA T F H L W t xs=some (v,p,E))(hE:A9 E):
  PV P C L.d W.d ⟨d,.build t xs,ty,ps,af,gd⟩ v.d:=by
 unfold cA at h
 split at h
 ·rename_i fs zs _ _ h1
  split at h
  rename_i l
  split at h
  ·rename_i cs e
   split at h
   ·rename_i r k i
    simp only[Option.some.injEq,Prod.mk.injEq]at h;obtain⟨rfl,rfl,rfl⟩:=h
    obtain⟨vs,j,b⟩:=cE hF hS i hE
    rw[WI _ _ e]at b
    exact PV.build j λ w=>(hT _ _ h1).kind.1 vs _ w b
   ·cases h
  ·cases h
 ·cases h
theorem AD2{x:Operand}{a v:XV}{i:Nat}(h:cB a i=some v)(hx:AD L.d W.d x a.d):PV P C L.d W.d ⟨d,.extract x i,ty,ps,af,gd⟩ v.d:=by
 unfold cB at h
 split at h
 ·rename_i vs
  split at h
  ·cases h
  ·rename_i r b
   rw[I9]at h
   have e:v.d=v.d1:=by
    cases v with
    |tu l=>exact absurd (by rw[I9];exact h) (b l)
    |_=>rfl
   refine .ex (vs:=(vs.map XV.d1).toArray) hx ?_
   simp[h,e]
 ·cases h
theorem AD3{t:TypeId}{x:Operand}{a v:XV}(h:bX a=some v)(hx:AD L.d W.d x a.d):PV P C L.d W.d ⟨d,.unOp .not t x,ty,ps,af,gd⟩ v.d:=by
 unfold bX at h
 split at h
 ·cases h;exact .not hx
 ·cases h
theorem AD4{t:TypeId}{x:Operand}{a v:XV}{p:List Prop}(h:bY a=some (v,p))(hx:AD L.d W.d x a.d)(hp:W.d=true->IS p):PV P C L.d W.d ⟨d,.unOp .neg t x,ty,ps,af,gd⟩ v.d:=by
 unfold bY at h
 split at h
 ·simp only[Option.some.injEq,Prod.mk.injEq]at h;obtain⟨rfl,rfl⟩:=h
  exact .kA hx λ b=>U4 (hp b)
 ·cases h
theorem U7{op:Op}{v:XV}{p:List Prop}{E:List Ck}(hT:DP P T)(hF:BH M F)(hS:St w0 M0 w M (HD H++Hr))(hC: ∀w',C w'->Ext w w')(h:RN T F H L W op=some (v,p,E))(hE:A9 E)(hp:W.d=true->IS p):
  PV P C L.d W.d ⟨d,op,ty,ps,af,gd⟩ v.d:=by
 unfold RN at h
 split at h
 ·split at h
  ·rename_i h1;simp only[Option.some.injEq,Prod.mk.injEq]at h;obtain⟨rfl,rfl,rfl⟩:=h;exact .move (AF h1 (hE:=hE))
  ·cases h
 ·split at h
  ·rename_i h1;simp only[Option.some.injEq,Prod.mk.injEq]at h;obtain⟨rfl,rfl,rfl⟩:=h;exact .assign (AF h1 (hE:=hE))
  ·cases h
 ·exact AC1 h hE
 ·split at h
  ·rename_i a b E1 h1
   split at h
   ·rename_i e
    simp only[Option.some.injEq,Prod.mk.injEq]at h;obtain⟨rfl,rfl,rfl⟩:=h
    have i:=GA h1 hE
    exact AB3 e i.1 i.2 hp
   ·split at h
    ·rename_i e
     simp only[Option.some.injEq,Prod.mk.injEq]at h;obtain⟨rfl,rfl,rfl⟩:=h
     have i:=GA h1 hE
     exact AC8 hT e i.1 i.2
    ·cases h
  ·cases h
 ·split at h
  ·rename_i a E1 h1
   split at h
   ·split at h
    ·rename_i e
     simp only[Option.some.injEq,Prod.mk.injEq]at h;obtain⟨rfl,rfl,rfl⟩:=h
     exact AD3 e (AF h1 (hE:=hE))
    ·cases h
   ·split at h
    ·rename_i e
     simp only[Option.some.injEq,Prod.mk.injEq]at h;obtain⟨rfl,rfl,rfl⟩:=h
     exact AD4 e (AF h1 (hE:=hE)) hp
    ·cases h
   ·cases h
  ·cases h
 ·split at h
  ·rename_i a E1 h1
   split at h
   ·rename_i e
    simp only[Option.some.injEq,Prod.mk.injEq]at h;obtain⟨rfl,rfl,rfl⟩:=h
    exact AC2 hT e (AF h1 (hE:=hE)) hp
   ·cases h
  ·cases h
 ·exact AC7 hT h hE hp
 ·split at h
  ·rename_i a E1 h1
   split at h
   ·rename_i e
    simp only[Option.some.injEq,Prod.mk.injEq]at h;obtain⟨rfl,rfl,rfl⟩:=h
    exact AC5 hT e (AF h1 (hE:=hE))
   ·cases h
  ·cases h
 ·split at h
  ·rename_i a E1 h1
   split at h
   ·rename_i e
    simp only[Option.some.injEq,Prod.mk.injEq]at h;obtain⟨rfl,rfl,rfl⟩:=h
    exact AC6 hT e (AF h1 (hE:=hE))
   ·cases h
  ·cases h
 ·split at h
  ·rename_i a b E1 h1
   split at h
   ·rename_i e
    simp only[Option.some.injEq,Prod.mk.injEq]at h;obtain⟨rfl,rfl,rfl⟩:=h
    have i:=GA h1 hE.app.1
    exact AC4 hT hF hS e hE.app.2 i.1 i.2 hp
   ·cases h
  ·cases h
 ·split at h
  ·rename_i a b E1 h1
   split at h
   ·rename_i e
    simp only[Option.some.injEq,Prod.mk.injEq]at h;obtain⟨rfl,rfl,rfl⟩:=h
    have i:=GA h1 hE
    exact AC9 hT e i.1 i.2 hp
   ·cases h
  ·cases h
 ·split at h
  ·rename_i a E1 h1
   split at h
   ·rename_i e
    simp only[Option.some.injEq,Prod.mk.injEq]at h;obtain⟨rfl,rfl,rfl⟩:=h
    exact lG hT hF hS hC e hE.app.2 (AF h1 (hE:=hE.app.1)) hp
   ·cases h
  ·cases h
 ·exact AD1 hT hF hS h hE
 ·split at h
  ·rename_i a E1 h1
   split at h
   ·rename_i e
    simp only[Option.some.injEq,Prod.mk.injEq]at h;obtain⟨rfl,rfl,rfl⟩:=h
    exact AD2 e (AF h1 (hE:=hE))
   ·cases h
  ·cases h
 ·split at h
  ·rename_i a E1 h1
   split at h
   ·rename_i e
    simp only[Option.some.injEq,Prod.mk.injEq]at h;obtain⟨rfl,rfl,rfl⟩:=h
    exact AC3 hT hF hS e hE.app.2 (AF h1 (hE:=hE.app.1))
   ·cases h
  ·cases h
 ·split at h
  ·rename_i a E1 h1
   split at h
   ·rename_i e
    simp only[Option.some.injEq,Prod.mk.injEq]at h;obtain⟨rfl,rfl,rfl⟩:=h
    have i:=AF h1 (hE:=hE)
    cases a<;>first|exact PV.zP i|cases e
   ·cases h
  ·cases h
 ·cases h
end
def U8(P:Program)(t:TypeId):Option Bool:=
 match P.underlying t with
 |some (.struct _)=>some true
 |some (.array _ _)=>some true
 |some _=>some false
 |none=>none
def RP(P:Program)(t:TypeId):Option Nat:=
 match P.info? t with
 |some i=>some i.size
 |none=>none
def AD5:Bool->Bool->Bool
 |true,true=>true
 |false,false=>true
 |_,_=>false
def U9(x:Option Nat)(n:Nat):Bool:=match x with|some m=>Nat.beq m n|none=>false
def WN(x:Option Bool)(n:Bool):Bool:=match x with|some m=>AD5 m n|none=>false
theorem WO{x:Option Nat}{n:Nat}(h:U9 x n=true):x=some n:=by
 unfold U9 at h;split at h
 ·rw[Nat.eq_of_beq_eq_true h]
 ·cases h
theorem lI{x:Option Bool}{n:Bool}(h:WN x n=true):x=some n:=by
 unfold WN at h;split at h
 ·rename_i m;cases m<;>cases n<;>first|rfl|cases h
 ·cases h
def L5(P:Program)(sz:Nat):List Field->List (Nat×Nat×Bool)->Bool
 |f::fl,(off,n,g)::fs=>Nat.beq f.offset off&&U9 (RP P f.type) n&&WN (U8 P f.type) g&&Nat.blt 0 n&&Nat.ble (off+n) sz&&L5 P sz fl fs
 |[],[]=>true
 |_,_=>false
def cF:Value->Value->Bool
 | .bool false,.bool false=>true
 | .int k a,.int k' b=>match U5 k k',a,b with
  |true,.ofNat 0,.ofNat 0=>true
  |_,_,_=>false
 | .string ⟨⟨[]⟩⟩,.string ⟨⟨[]⟩⟩=>true
 | .slice none 0 0,.slice none 0 0=>true
 | .pointer none,.pointer none=>true
 | .map none,.map none=>true
 | .nilFunc,.nilFunc=>true
 | .nilIface,.nilIface=>true
 |_,_=>false
theorem AD6{a b:Value}(h:cF a b=true):a=b:=by
 unfold cF at h
 split at h<;>first|rfl|(cases h)|skip
 split at h
 ·rename_i e;rw[WJ e]
 ·cases h
def RT:List Value->List Value->Bool
 |[],[]=>true
 |a::x,b::y=>cF a b&&RT x y
 |_,_=>false
theorem lJ: ∀ {x y:List Value},RT x y=true->x=y
 |[],[],_=>rfl
 |a::x,b::y,h=>by simp only[RT,Bool.and_eq_true]at h;rw[AD6 h.1,lJ h.2]
 |[],_::_,h=>by simp[RT]at h
 |_::_,[],h=>by simp[RT]at h
def cG(P:Program)(t:TypeId)(zs:List Value):Bool:=
 match P.info? t with
 |some i=>match i.zero with
  |some z=>RT z.cells.toList zs
  |none=>false
 |none=>false
def cH(P:Program)(t:TypeId)(d:TD):Bool:=
 U9 (RP P t) d.sz&&WN (U8 P t) d.agg&&match d.k with
  | .str=>match P.underlying t with|some .string=>true|_=>false
  | .bool=>match P.underlying t with|some .bool=>true|_=>false
  | .int k=>match P.underlying t with|some (.int k')=>U5 k' k|_=>false
  | .row e esz=>match P.underlying t with|some (.slice e')=>Nat.beq e' e&&U9 (RP P e) esz|_=>false
  | .st fs zs=>match P.underlying t with|some (.struct fl)=>L5 P d.sz fl.toList fs&&Nat.beq zs.length d.sz&&cG P t zs|_=>false
  | .any=>true
def cI(P:Program):TT->Bool
 |[]=>true
 |(t,d)::T=>cH P t d&&cI P T
theorem UA{P:Program}{t:TypeId}{n:Nat}(h:RP P t=some n)(w:World):(sizeOf t).run P w= .ok n w:=by
 unfold RP at h
 split at h
 ·rename_i i hi
  cases h
  simp[sizeOf,typeInfo,hi]
 ·cases h
theorem cJ{P:Program}{t:TypeId}{g:Bool}(h:U8 P t=some g)(w:World):(isAgg t).run P w= .ok g w:=by
 unfold U8 at h
 split at h
 ·rename_i hu;cases h;simp[isAgg,run_underlying hu]
 ·rename_i hu;cases h;simp[isAgg,run_underlying hu]
 ·rename_i d h1 b hu
  cases h
  simp only[isAgg,Sem.run_bind,run_underlying hu,Result.andThen_ok]
  cases d<;>first|rfl|(exact absurd rfl (h1 _))|(exact absurd rfl (b _ _))
 ·cases h
theorem lK{P:Program}{sz:Nat}: ∀ {b:List Field} {fs:List (Nat×Nat×Bool)},L5 P sz b fs=true-> ∀(i off n:Nat) (g:Bool),fs[i]? =some (off,n,g)-> ∃f:Field,b[i]? =some f/\f.offset=off/\RP P f.type=some n/\U8 P f.type=some g/\0<n/\off+n<=sz
 |[],[],_,i,off,n,g,hi=>by simp at hi
 |f::b,(e,w,y)::fs,h,i,off,n,g,hi=>by
  simp only[L5,Bool.and_eq_true]at h
  obtain⟨⟨⟨⟨⟨h1,j⟩,k⟩,l⟩,q⟩,s⟩:=h
  cases i with
  |zero=>
   simp only[List.getElem?_cons_zero,Option.some.injEq,Prod.mk.injEq]at hi
   obtain⟨rfl,rfl,rfl⟩:=hi
   exact⟨f,rfl,Nat.eq_of_beq_eq_true h1,WO j,lI k,by simpa[Nat.blt_eq]using l,Nat.le_of_ble_eq_true q⟩
  |succ i=>
   simp only[List.getElem?_cons_succ]at hi ⊢
   exact lK s i off n g hi
 |[],_::_,h,_,_,_,_,_=>by simp[L5]at h
 |_::_,[],h,_,_,_,_,_=>by simp[L5]at h
theorem lL{P:Program}{sz:Nat}(w:World): ∀ {b:List Field} {fs:List (Nat×Nat×Bool)},L5 P sz b fs=true->(b.mapM λ f=>(do pure (f.offset,<-sizeOf f.type):Sem (Nat×Nat))).run P w= .ok (fs.map λ x=>(x.1,x.2.1)) w
 |[],[],_=>rfl
 |f::b,(e,l,n)::fs,h=>by
  simp only[L5,Bool.and_eq_true]at h
  obtain⟨⟨⟨⟨⟨h1,i⟩,q⟩,s⟩,y⟩,j⟩:=h
  have k:=lL w j
  have:=Nat.eq_of_beq_eq_true h1;subst this
  simp only[List.mapM_cons,Sem.run_bind,UA (WO i),Result.andThen_ok,Sem.run_pure,k,List.map_cons]
 |[],_::_,h=>by simp[L5]at h
 |_::_,[],h=>by simp[L5]at h
theorem lM: ∀(vs:List Value) (j off:Nat) (cs:Array Value),off+j+vs.length<=cs.size->((vs.zipIdx j).foldl (λ cs x=>cs.setIfInBounds (off+x.2) x.1) cs).toList=cs.toList.take (off+j)++vs++cs.toList.drop (off+j+vs.length)
 |[],j,off,cs,_=>by simp
 |v::vs,j,off,cs,h=>by
  rw[List.zipIdx_cons,List.foldl_cons,lM vs (j+1) off _ (by simp at h ⊢;omega)]
  simp only[List.length_cons]at h ⊢
  have hl:off+j<cs.toList.length:=by simp;omega
  have b:(cs.toList.take (off+j)).length=off+j:=by simp;omega
  simp only[Array.toList_setIfInBounds]
  rw[List.set_eq_take_append_cons_drop,if_pos hl]
  have t1:((cs.toList.take (off+j))++v::cs.toList.drop (off+j+1)).take (off+(j+1))=cs.toList.take (off+j)++[v]:=by
   rw[List.take_append,b,List.take_of_length_le Aa,show off+(j+1)-(off+j)=1 by omega];rfl
  have t2:((cs.toList.take (off+j))++v::cs.toList.drop (off+j+1)).drop (off+(j+1)+vs.length)=cs.toList.drop (off+j+(vs.length+1)):=by
   rw[List.drop_append,b,List.drop_of_length_le Aa,show off+(j+1)+vs.length-(off+j)=vs.length+1 by omega,List.drop_succ_cons,List.drop_drop,List.nil_append]
   congr 1;omega
  rw[t1,t2];simp
theorem lN{fs:List (Nat×Nat×Bool)}: ∀ {ps:List (Nat×Value)} {cs r:List Value},M7 fs cs ps=some r->Instr.fill ((fs.map λ x=>(x.1,x.2.1)).toArray[·]?) cs.toArray ps=some r.toArray
 |[],cs,r,h=>by simp only[M7,Option.some.injEq]at h;subst h;rfl
 |(i,v)::ps,cs,r,h=>by
  unfold M7 at h
  split at h
  ·rename_i off n g hi
   split at h
   ·rename_i k
    have l:=lN h
    unfold Instr.fill
    have hp:(fs.map λ x=>(x.1,x.2.1)).toArray[i]? =some (off,n):=by simp[hi]
    have b:v.cells.size=n:=by rw[<-k.1];simp
    simp only[hp,b,ne_eq,not_true_eq_false,decide_false,Bool.false_or,List.size_toArray]
    have j:(decide (n≠n)||decide (off+n>cs.length))=true↔False:=by simp;omega
    have e:(v.cells.zipIdx.foldl (λ cs x=>cs.setIfInBounds (off+x.2) x.1) cs.toArray)=(DF cs off v.cells.toList).toArray:=by
     have:=lM v.cells.toList 0 off cs.toArray (by rw[k.1];simp;omega)
     apply Array.ext'
     rw[<-Array.foldl_toList,Array.toList_zipIdx,this]
     simp[DF]
    have hle: ¬off+n>cs.length:=by omega
    simp only[hle,if_false]
    rw[<-l,<-e]
    simp
   ·cases h
  ·cases h
theorem AD7{P:Program}{t:TypeId}{k:Array Field}{fs:List (Nat×Nat×Bool)}{zs:List Value}{sz:Nat}(hu:P.underlying t=some (.struct k))(h:L5 P sz k.toList fs=true)(s:zs.length=sz)(j:cG P t zs=true)(ps:List (Nat×Value))(cs:List Value)(w:World)(y:M7 fs zs ps=some cs):
  (Instr.build t ps.toArray).run P w= .ok (.agg cs.toArray) w:=by
 unfold cG at j
 split at j
 ·rename_i i hi
  split at j
  ·rename_i z l
   have n:=lJ j
   have q:(zeroValue t).run P w= .ok z w:=by simp[zeroValue,typeInfo,hi,l]
   have hm:(k.mapM λ f=>(do pure (f.offset,<-sizeOf f.type):Sem (Nat×Nat))).run P w= .ok (fs.map λ x=>(x.1,x.2.1)).toArray w:=by
    have:=lL w h
    rw[Array.mapM_eq_mapM_toList]
    refine(Sem.run_bind' P _ _ w).trans ?_
    rw[this];rfl
   have b:z.cells=zs.toArray:=by rw[<-n]
   have e:=lN y
   simp only[Instr.build,Sem.run_bind,q,Result.andThen_ok,run_underlying hu,hm,b,e,Sem.run_pure]
  ·cases j
 ·cases j
theorem AD8{P:Program}{t:TypeId}{d:TD}(h:cH P t d=true):d.ok P t:=by
 simp only[cH,Bool.and_eq_true]at h
 obtain⟨⟨h1,A⟩,j⟩:=h
 refine⟨cJ (lI A),UA (WO h1),?_⟩
 cases hk:d.k with
 |str=>rw[hk]at j;simp only at j;split at j<;>first|assumption|cases j
 |bool=>rw[hk]at j;simp only at j;split at j<;>first|assumption|cases j
 |int k=>
  rw[hk]at j;simp only at j
  split at j
  ·rename_i k' hu;have:=WJ j;subst this;exact hu
  ·cases j
 |row e esz=>
  rw[hk]at j;simp only at j
  split at j
  ·rename_i F hu
   simp only[Bool.and_eq_true]at j
   have:=Nat.eq_of_beq_eq_true j.1;subst this
   exact⟨hu,UA (WO j.2)⟩
  ·cases j
 |st fs zs=>
  rw[hk]at j;simp only at j
  split at j
  ·rename_i B hu
   simp only[Bool.and_eq_true]at j
   obtain⟨⟨j,q⟩,C⟩:=j
   refine⟨AD7 hu j (Nat.eq_of_beq_eq_true q) C,?_⟩
   intro i off n g hi
   obtain⟨f,D,rfl,y,z,h0,hle⟩:=lK j i off n g hi
   have l:B[i]? =some f:=by simpa using D
   refine⟨λ b o w=>?_,λ cs w hl=>⟨hle,?_⟩⟩
   ·have E:n≠0:=by omega
    simp[Instr.fieldAt,run_underlying hu,l,Instr.sureAddr,fieldPlace,UA y,E,F6]
   ·cases g with
    |true=>simp[Instr.field,run_underlying hu,l,asAgg,part,cJ z,UA y]
    |false=>
     have s:f.offset<cs.length:=by omega
     simp[Instr.field,run_underlying hu,l,asAgg,part,cJ z,s]
  ·cases j
 |any=>trivial
theorem lO{P:Program}: ∀ {T:TT},cI P T=true->DP P T
 |[],_=>λ t i h=>by cases h
 |(t,d)::T,h=>by
  simp only[cI,Bool.and_eq_true]at h
  intro j i b
  unfold G0 at b
  split at b
  ·rename_i e;cases b;have:=Nat.eq_of_beq_eq_true e;subst this;exact AD8 h.1
  ·exact lO h.2 j i b
theorem lP{P:Program}{σ:Type}{x:Code}{Q:Exit->Act->World->Prop}{a:Act}{w:World}(J:σ->Act->World->Prop)(μ:σ->Nat)(s₀:σ)(C:J s₀ a w)
  (round: ∀s a w,J s a w->x.wp P (Exit.then (λ a' w'=> ∃s',J s' a' w'/\μ s'<μ s) Q) a w):(Code.loop x).wp P Q a w:=by
 intro b k cs
 have key: ∀n s a w,μ s=n->J s a w->
   ∃e a' w',Q e a' w'/\Arrives P (lone (b.at a (.code x:: .inLoop x::k)) cs w) b k cs e a' w':=by
  intro n
  induction n using Nat.strongRecOn with
  |_ n D=>
   intro s a w E F
   obtain⟨e,q,y,i,h⟩:=round s a w F b (.inLoop x::k) cs
   cases e with
   |normal=>
    obtain⟨s',z,A⟩:=i
    obtain⟨G,H,K,B,j⟩:=D (μ s') (E▸A) s' q y rfl z
    exact⟨G,H,K,B,.of_steps (Steps.trans h (.one step_inLoop)) j⟩
   |exit id=>exact⟨_,q,y,i,.pass (x:=.inLoop x) U (λ _ _=>.inl (by simp)) h⟩
   |goto l=>exact⟨_,q,y,i,.pass (x:=.inLoop x) U (λ _ _=>.inl (by simp)) h⟩
   |ret=>exact⟨_,q,y,i,.pass (x:=.inLoop x) U (λ _ _=>.inl (by simp)) h⟩
   |panic L=>exact⟨_,q,y,i,.pass (x:=.inLoop x) U (λ _ _=>.inl (by simp)) h⟩
   |outgrown=>exact⟨_,q,y,i,.pass (x:=.inLoop x) U (λ _ _=>.inl (by simp)) h⟩
 obtain⟨e,a',w',i,h⟩:=key _ s₀ a w rfl C
 exact⟨e,a',w',i,.of_steps (.one step_loop) h⟩
theorem UB{P:Program}{o:Oper}{a:Act}{w:World}{K b:Act->World->Prop}{Q:Exit->Act->World->Prop}(h:o.wp P a w b (Exit.then K Q)):o.wp P a w b Q:=by
 unfold Oper.wp at*
 generalize (execOp a.eval o).run P w=r at*
 cases r with
 |ok n w'=>cases n<;>first|exact h|(simp only[Oper.upon]at h ⊢;exact h)
 |halt s w'=>cases s<;>first|exact h|(simp only[Oper.upon]at h ⊢;exact h)
def DC:Code->Bool
 | .skip=>true
 | .seq x y=>DC x&&DC y
 | .cond _ x y=>DC x&&DC y
 | .loop x=>DC x
 | .block _ x=>DC x
 | .region _ ops _=>ops.toList.all λ o=>match o.op with
  | .defer _=>false
  |_=>true
 | .exit _=>true
 | .ret=>true
 |_=>false
structure Wk (P:Program)where
 wp:Code->(Exit->Act->World->Prop)->Act->World->Prop
 list:Array Oper->(Exit->Act->World->Prop)->List Oper->Act->World->Prop
 mono: ∀ {x:Code} {Q Q':Exit->Act->World->Prop} {a:Act} {w:World},wp x Q a w->(∀e a w,Q e a w->Q' e a w)->wp x Q' a w
 skip: ∀ {Q:Exit->Act->World->Prop} {a:Act} {w:World},Q .normal a w->wp .skip Q a w
 seq: ∀ {x y:Code} {Q:Exit->Act->World->Prop} {a:Act} {w:World},wp x (Exit.then (wp y Q) Q) a w->wp (.seq x y) Q a w
 region: ∀ {id:Nat} {ops:Array Oper} {Q:Exit->Act->World->Prop} {a:Act} {w:World},list ops Q ops.toList a w->wp (.region id ops false) Q a w
 plain:Prop
 draw:plain-> ∀ {id:Nat} {ops:Array Oper} {Q:Exit->Act->World->Prop} {a:Act} {w:World},(Code.region id ops true).wp P Q a w->wp (.region id ops true) Q a w
 drawS: ∀ {id:Nat} {ops:Array Oper} {Q:Exit->Act->World->Prop} {a:Act} {w:World},(∀t,wpOps P ops Q (Region.schedule (P.follows .mixedOrders) ops t) a { w with drawn:=w.drawn+1})->wp (.region id ops true) Q a w
 block: ∀ {id:Nat} {x:Code} {Q:Exit->Act->World->Prop} {a:Act} {w:World},wp x (Exit.inBlock id Q) a w->wp (.block id x) Q a w
 scope: ∀ {x:Code} {Q:Exit->Act->World->Prop} {a:Act} {w:World},wp x (Exit.noGoto Q) a w->wp (.scope x) Q a w
 exit: ∀ {id:Nat} {Q:Exit->Act->World->Prop} {a:Act} {w:World},Q (.exit id) a w->wp (.exit id) Q a w
 ret: ∀ {Q:Exit->Act->World->Prop} {a:Act} {w:World},Q .ret a w->wp .ret Q a w
 cond: ∀ {o:Operand} {x y:Code} {t:Bool} {Q:Exit->Act->World->Prop} {a:Act} {w:World},a.eval o= .bool t->wp (if t=true then x else y) Q a w->wp (.cond o x y) Q a w
 loop: ∀ {σ:Type} {x:Code} {Q:Exit->Act->World->Prop} {a:Act} {w:World} (J:σ->Act->World->Prop) (μ:σ->Nat) (s₀:σ),J s₀ a w->
  (∀s a w,J s a w->wp x (Exit.then (λ a' w'=> ∃s',J s' a' w'/\μ s'<μ s) Q) a w)->wp (.loop x) Q a w
 nil: ∀ {ops:Array Oper} {Q:Exit->Act->World->Prop} {a:Act} {w:World},Q .normal a w->list ops Q [] a w
 one: ∀ {ops:Array Oper} {Q:Exit->Act->World->Prop} {o:Oper} {rest:List Oper} {a:Act} {w:World},wpList P ops (Exit.then (list ops Q rest) Q) [o] a w->list ops Q (o::rest) a w
 want: ∀ {ops:Array Oper} {Q:Exit->Act->World->Prop} {d:Option Tmp} {op:Op} {ty:TypeId} {ps:String} {af:Array Edge} {gd:Option (Nat×Bool)} {rest:List Oper} {a:Act} {w:World},
  Region.wanted ⟨d,op,ty,ps,af,gd⟩ (yielded ops a.tmps)=true->list ops Q (⟨d,op,ty,ps,af,none⟩::rest) a w->list ops Q (⟨d,op,ty,ps,af,gd⟩::rest) a w
def Wk.wide (P:Program):Wk P where
 wp:=λ x Q a w=>x.wp P Q a w
 list:=λ ops Q l a w=>wpList P ops Q l a w
 mono:=wp_mono
 skip:=wp_skip
 seq:=wp_seq
 region:=wp_region_list
 plain:=True
 draw:=λ _=>id
 drawS:=wp_region_draw
 block:=wp_block
 scope:=wp_scope_straight
 exit:=wp_exit
 ret:=wp_ret
 cond:=wp_cond
 loop:=lP
 nil:=wpList_nil
 one:=λ{ops Q o rest a w} h=>by
  unfold wpList at h ⊢
  split at h
  ·rename_i hw;rw[if_pos hw]
   rcases h with h|⟨h1,a',w',h2⟩
   ·exact .inl (UB h)
   ·exact .inr ⟨h1,a',w',h2⟩
  ·rename_i hw;rw[if_neg hw];exact h
 want:=λ{ops Q d op ty ps af gd rest a w} hw h=>by
  unfold wpList at h ⊢
  rw[hw,if_pos U]
  rw[show Region.wanted ⟨d,op,ty,ps,af,none⟩ (yielded ops a.tmps)=true from rfl,if_pos U]at h
  exact h
theorem Wk.back {P:Program}(W:Wk P){ops:Array Oper}{Q:Exit->Act->World->Prop}{rest:List Oper}{a:Act}{w:World}(h:W.list ops Q rest a w):wpList P ops (Exit.then (W.list ops Q rest) Q) [] a w:=h
universe u
structure XS:Type 1 where
 F:List (Nat×Kn)
 H:List (Nat×HX)
 L:XE
structure Cx where
 P:Program
 N:Nat
 w0:World
 M0:Mem
 M1:Mem
 Hr:List HO
 T:TT
 hT:DP P T
 W:Wk P
structure D5 (c:Cx) (F:List (Nat×Kn)) (H:List (Nat×HX)) (w:World) (M:Mem):Prop where
 st:St c.w0 c.M0 w M (HD H++c.Hr)
 f:BH M F
 le:c.M1.le M
def HM(c:Cx)(s:XS)(a:Act)(w:World):Prop:=AW a c.N s.L.d/\ ∃M,D5 c s.F s.H w M
inductive Fr:Type 1 where
 |seq (y:Code)
 |block (id:Nat)
 |scope
 |loop (J:XS->Prop)
def post(c:Cx)(B:Exit->Act->World->Prop):List Fr->(Exit->Act->World->Prop)
 |[]=>B
 | .seq y::k=>Exit.then (c.W.wp y (post c B k)) (post c B k)
 | .block id::k=>Exit.inBlock id (post c B k)
 | .scope::k=>Exit.noGoto (post c B k)
 | .loop J::k=>Exit.then (λ a w=> ∃s,J s/\HM c s a w) (post c B k)
inductive Md where
 |code (c:Code)
 |ops (all:Array Oper) (l:List Oper)
 |br (b:Bool) (x y:Code)
 |next
 |exit (id:Nat)
 |ret
def XG(c:Cx)(B:Exit->Act->World->Prop)(k:List Fr)(m:Md)(s:XS):Prop:= ∀a w,HM c s a w->match m with
 | .code x=>c.W.wp x (post c B k) a w
 | .ops all l=>c.W.list all (post c B k) l a w
 | .br b x y=>c.W.wp (if b=true then x else y) (post c B k) a w
 | .next=>post c B k .normal a w
 | .exit id=>post c B k (.exit id) a w
 | .ret=>post c B k .ret a w
structure UC:Type 1 where
 k:List Fr
 m:Md
 s:XS
 O:Prop
 E:List Ck
def HN(
     all:Array Oper) (L:XE) (gd:Option (Nat×Bool)):Option Gd:=
 match gd with
 |none=>some .t
 |some (
     j,want)=>match nth all.toList j with
  |some o=>match o.dst with
   |some d=>match BM L d with
    |some (g,v)=>match M8 v with
     |some b=>match want with
      |true=>match g with
       | .t=>some (.g b)
       | .g a=>some (.g (a&&b))
      |false=>match g with
       | .t=>some (.g (!b))
       | .g a=>some (.g (a&& !b))
     |none=>none
    |none=>none
   |none=>none
  |none=>none
def imp(W:Gd):List Prop->Prop->(Prop->UC)->UC
 |[],O,K=>K O
 |p::ps,O,K=>match W with
  | .t=>imp W ps (p/\O) K
  | .g b=>imp W ps ((b=false\/p)/\O) K
def UD(F:List (Nat×Kn))(H:List (Nat×HX)):List XV->Option (List Ck)
 |[]=>some []
 |x::l=>match UD F H l with
  |some E=>match x with
   | .v u=>match u.oneCell' with
    |true=>some E
    |false=>none
   | .sl k u=>match O7 F H k with
    |some (@Kn.mk α inh kv sz l f g' hg')=>some (.v u kv::E)
    |none=>none
   | .el _ _ _ _ _=>some E
   | .bx _ _ _=>some E
   |_=>none
  |none=>none
def cK(T:TT)(F:List (Nat×Kn))(H:List (Nat×HX))(L:XE)(t:TypeId)(x y:Operand):Option (List (Nat×HX)×List Ck):=
 match IA L .t x y with
 |some (
     a,v,E)=>match a with
  | .bx k b o=>match DO H k with
   |some (
       .box b' cs t')=>match G0 T t with
    |some ⟨_,n,_⟩=>match cellsOf v with
     |some vs=>match Nat.beq vs.length n with
      |true=>match UD F H vs with
       |some E1=>match KK cs o vs with
        |some cs'=>some (D4 H k (.box b' cs' t'),.n b b'::(E1++E))
        |none=>none
       |none=>none
      |false=>none
     |none=>none
    |none=>none
   |_=>none
  |_=>none
 |none=>none
def exec(
     T:TT) (N:Nat):Nat->List Fr->Md->List (Nat×Kn)->List (Nat×HX)->XE->Prop->List Ck->UC
 |0,k,m,F,H,L,O,E=>⟨k,m,⟨F,H,L⟩,O,E⟩
 |n+1,k,m,F,H,L,O,E=>match m with
  | .code c=>match c with
   | .skip=>exec T N n k .next F H L O E
   | .seq x y=>exec T N n (.seq y::k) (.code x) F H L O E
   | .region id all draw=>match draw with
    |false=>exec T N n k (.ops all all.toList) F H L O E
    |true=>⟨k,m,⟨F,H,L⟩,O,E⟩
   | .block id x=>exec T N n (.block id::k) (.code x) F H L O E
   | .scope x=>exec T N n (.scope::k) (.code x) F H L O E
   | .exit id=>exec T N n k (.exit id) F H L O E
   | .ret=>⟨[],.ret,⟨F,H,L⟩,O,E⟩
   | .cond x a b=>match B5 L .t x with
    |some (v,E')=>match M8 v with
     |some p=>⟨k,.br p a b,⟨F,H,L⟩,O,E'++E⟩
     |none=>⟨k,m,⟨F,H,L⟩,O,E⟩
    |none=>⟨k,m,⟨F,H,L⟩,O,E⟩
   |_=>⟨k,m,⟨F,H,L⟩,O,E⟩
  | .next=>match k with
   | .seq y::k'=>exec T N n k' (.code y) F H L O E
   | .block _::k'=>exec T N n k' .next F H L O E
   | .scope::k'=>exec T N n k' .next F H L O E
   |_=>⟨k,m,⟨F,H,L⟩,O,E⟩
  | .exit id=>match k with
   | .block id'::k'=>match Nat.beq id id' with
    |true=>exec T N n k' .next F H L O E
    |false=>exec T N n k' (.exit id) F H L O E
   | .seq _::k'=>exec T N n k' (.exit id) F H L O E
   | .scope::k'=>exec T N n k' (.exit id) F H L O E
   | .loop _::k'=>exec T N n k' (.exit id) F H L O E
   |[]=>⟨k,m,⟨F,H,L⟩,O,E⟩
  | .ops all l=>match l with
   |[]=>exec T N n k .next F H L O E
   |⟨dst,op,ty,ps,af,gd⟩::rest=>match dst with
    |some d=>match HN all L gd with
     |some W=>match RN T F H L W op with
      |some (v,p,E')=>match Nat.blt d N with
       |true=>imp W p O λ O'=>exec T N n k (.ops all rest) F H ((d,W,v)::L) O' (E'++E)
       |false=>⟨k,m,⟨F,H,L⟩,O,E⟩
      |none=>⟨k,m,⟨F,H,L⟩,O,E⟩
     |none=>⟨k,m,⟨F,H,L⟩,O,E⟩
    |none=>match gd with
     |none=>match op with
      | .store t x y=>match cK T F H L t x y with
       |some (H',E')=>exec T N n k (.ops all rest) F H' L O (E'++E)
       |none=>⟨k,m,⟨F,H,L⟩,O,E⟩
      |_=>⟨k,m,⟨F,H,L⟩,O,E⟩
     |some _=>⟨k,m,⟨F,H,L⟩,O,E⟩
  |_=>⟨k,m,⟨F,H,L⟩,O,E⟩
def UE{α:Type u}:List (Nat×α)->Option (List (Nat×α))
 |[]=>some []
 |(k,x)::L=>match UE L with
  |some L'=>some ((k,x)::L')
  |none=>none
theorem cL{α:Type u}: ∀ {L L':List (Nat×α)},UE L=some L'->L'=L
 |[],_,h=>by cases h;rfl
 |(k,x)::L,L',h=>by
  unfold UE at h
  split at h
  ·rename_i e b;cases h;rw[cL b]
  ·cases h
def WQ:XE->Option XE
 |[]=>some []
 |(k,g,v)::L=>match WQ L with
  |some L'=>some ((k,g,v)::L')
  |none=>none
theorem lQ: ∀ {L L':XE},WQ L=some L'->L'=L
 |[],_,h=>by cases h;rfl
 |(k,g,v)::L,L',h=>by
  unfold WQ at h
  split at h
  ·rename_i e b;cases h;rw[lQ b]
  ·cases h
def run(T:TT)(N:Nat)(k:List Fr)(m:Md)(s:XS):UC:=
 match s with
 |⟨F,H,L⟩=>match UE F with
  |some F'=>match UE H with
   |some H'=>match WQ L with
    |some L'=>exec T N 10000 k m F' H' L' ((0:Int)=0) []
    |none=>exec T N 10000 k m F H L ((0:Int)=0) []
   |none=>exec T N 10000 k m F H L ((0:Int)=0) []
  |none=>exec T N 10000 k m F H L ((0:Int)=0) []
theorem cM{W:Gd}{K:Prop->UC}: ∀ {ps:List Prop} {O:Prop},∃i,imp W ps O K=K i/\(i->(W.d=true->IS ps)/\O)
 |[],O=>⟨O,rfl,λ h=>⟨λ _=>trivial,h⟩⟩
 |p::ps,O=>by
  unfold imp
  cases W with
  |t=>
   obtain⟨i,h1,e⟩:=cM (W:=.t) (K:=K) (ps:=ps) (O:=p/\O)
   exact⟨i,h1,λ h=>⟨λ j=>⟨(e h).2.1,(e h).1 j⟩,(e h).2.2⟩⟩
  |g b=>
   obtain⟨i,h1,e⟩:=cM (W:=.g b) (K:=K) (ps:=ps) (O:=(b=false\/p)/\O)
   exact⟨i,h1,λ h=>⟨λ j=>⟨(e h).2.1.resolve_left (by rw[show b=true from j];decide),(e h).1 j⟩,(e h).2.2⟩⟩
section
variable {c:Cx} {B:Exit->Act->World->Prop} {k:List Fr} {s:XS}
theorem UF(a:Act)(w:World)(h:B .ret a w): ∀k:List Fr,post c B k .ret a w
 |[]=>h
 | .seq _::k=>UF a w h k
 | .block _::k=>UF a w h k
 | .scope::k=>UF a w h k
 | .loop _::k=>UF a w h k
theorem M9{all:Array Oper}{L:XE}{gd:Option (Nat×Bool)}{W:Gd}(h:HN all L gd=some W):DZ all L.d gd W.d:=by
 unfold HN at h
 split at h
 ·cases h;exact .none
 ·rename_i j want
  split at h
  ·rename_i o ho
   split at h
   ·rename_i d hd
    split at h
    ·rename_i g v hl
     split at h
     ·rename_i b k
      have:=O8 k;subst this
      have e:=I8 hl
      have i:(all[j]?).bind (·.dst)=some d:=by
       rw[I9]at ho
       simp only[Array.getElem?_toList]at ho
       rw[ho];exact hd
      split at h
      ·split at h<;>cases h
       ·exact .pos i e
       ·exact .k6 i e
      ·split at h<;>cases h
       ·exact .neg i e
       ·exact .k7 i e
     ·cases h
    ·cases h
   ·cases h
  ·cases h
theorem RU{w0 w:World}{M0 M:Mem}{F:List (Nat×Kn)}{H:List (Nat×HX)}{Hr:List HO}(hF:BH M F)(hS:St w0 M0 w M (HD H++Hr)): ∀ {vs:List XV} {E:List Ck},UD F H vs=some E->A9 E-> ∀u∈vs.map XV.d0,u.oneCell'=true
 |[],_,_,_=>λ u hu=>by cases hu
 |x::l,E,h,hE=>by
  unfold UD at h
  split at h
  ·rename_i z h1
   split at h
   ·split at h
    ·rename_i hx
     cases h
     intro u hu
     rcases List.mem_cons.1 hu with rfl|hu
     ·exact hx
     ·exact RU hF hS h1 hE u hu
    ·cases h
   ·rename_i k u
    split at h
    ·rename_i α inh e sz l f A i j
     simp only[Option.some.injEq]at h;subst h
     intro B hu
     rcases List.mem_cons.1 hu with rfl|hu
     ·have n:_=e:=hE _ (.head _)
      obtain⟨M2,q,s,b⟩:=RO hF hS j
      exact n▸lH b
     ·exact RU hF hS h1 (λ c y=>hE c (.tail _ y)) _ hu
    ·cases h
   ·cases h
    intro u hu
    rcases List.mem_cons.1 hu with rfl|hu
    ·rfl
    ·exact RU hF hS h1 hE u hu
   ·cases h
    intro u hu
    rcases List.mem_cons.1 hu with rfl|hu
    ·rfl
    ·exact RU hF hS h1 hE u hu
   ·cases h
  ·cases h
theorem lR{v:XV}{vs:List XV}(h:cellsOf v=some vs):v.d.cells.toList=vs.map XV.d0\/ ∃u,vs=[u]/\v=u/\(∀cs,u≠ .ag cs)/\(∀cs,u≠ .tu cs):=by
 unfold cellsOf at h
 split at h
 ·cases h;left;simp[XV.d,XV.d1,Value.cells]
 ·cases h
 ·rename_i h1 b
  cases h;right
  exact⟨_,rfl,rfl,h1,b⟩
theorem AD9{G:List (Nat×HX)}{E:List Ck}{t:TypeId}{x y:Operand}{all:Array Oper}{Q:Exit->Act->World->Prop}{rest:List Oper}{ty:TypeId}{ps:String}{af:Array Edge}(h:cK c.T s.F s.H s.L t x y=some (G,E))(hE:A9 E){w:World}{M:Mem}(l:D5 c s.F s.H w M)
  (K: ∀a w,HM c ⟨s.F,G,s.L⟩ a w->wpList c.P all Q rest a w) (a:Act) (w':World) (A:AW a c.N s.L.d) (hw:w'=w:=by rfl):wpList c.P all Q (⟨none,.store t x y,ty,ps,af,none⟩::rest) a w':=by
 subst hw
 unfold cK at h
 split at h
 ·rename_i va v O h1
  split at h
  ·rename_i k b o
   split at h
   ·rename_i R cs J S
    split at h
    ·rename_i _ n _ V
     split at h
     ·rename_i vs W
      split at h
      ·rename_i hl
       have B:vs.length=n:=Nat.eq_of_beq_eq_true hl
       split at h
       ·rename_i E1 X
        split at h
        ·rename_i cs' h6
         simp only[Option.some.injEq,Prod.mk.injEq]at h;obtain⟨rfl,rfl⟩:=h
         have hb:b=R:=hE _ (.head _)
         subst hb
         have hE2:A9 (E1++O):=λ c hc=>hE c (.tail _ hc)
         obtain⟨hx,hy⟩:=GA h1 hE2.app.2
         have q:=RU l.f l.st X hE2.app.1
         have j:v.d.cells.toList=vs.map XV.d0:=by
          rcases lR W with h7|⟨u,rfl,rfl,h8,h9⟩
          ·exact h7
          ·have e:v.d=v.d0:=by cases v<;>first|rfl|(exact absurd rfl (h8 _))|(exact absurd rfl (h9 _))
           rw[e,WM (q _ (by simp))];rfl
         obtain⟨i,hi,z⟩:=EI (Hr:=c.Hr) S
         obtain⟨e6,hf6⟩:=put_eq _ _ _ _ h6
         refine RL.kH (P:=c.P) (N:=c.N) (ops:=all) (Q:=Q) (rest:=rest) (L:=s.L.d) (cs':=cs'.map XV.d0) (Hs':=HD (D4 s.H k (.box b cs' J))++c.Hr) l.st hi hx hy (c.hT _ _ V).size (by rw[j,List.length_map];exact B) (Nat.ble_eq_true_of_le (by rw[List.length_map];show o+n<=cs.length;omega)) (by rw[j];exact List.all_eq_true.2 q) ?_ ?_ ?_ a A
         ·unfold DF;rw[j,e6];simp[List.map_take,List.map_drop]
         ·exact(z (.box b cs' J)).symm
         ·intro w2 C a2 D
          exact K a2 w2 ⟨D,M,C,l.f,l.le⟩
        ·cases h
       ·cases h
      ·cases h
     ·cases h
    ·cases h
   ·cases h
  ·cases h
 ·cases h
theorem GP: ∀(n:Nat) (k:List Fr) (m:Md) (F:List (Nat×Kn)) (H:List (Nat×HX)) (L:XE) (O:Prop) (E:List Ck),let t:=exec c.T c.N n k m F H L O E;t.O->A9 t.E->XG c B t.k t.m t.s->O/\A9 E/\XG c B k m ⟨F,H,L⟩
 |0,k,m,F,H,L,O,E=>λ h1 b h=>⟨h1,b,h⟩
 |n+1,k,m,F,H,L,O,E=>by
  intro t h1 b h
  have i:t=exec c.T c.N (n+1) k m F H L O E:=rfl
  unfold exec at i
  split at i
  ·rename_i x
   split at i
   ·rw[i]at h1 b h
    obtain⟨r1,q,z⟩:=GP n _ _ _ _ _ _ _ h1 b h
    exact⟨r1,q,λ a w j=>c.W.skip (z a w j)⟩
   ·rw[i]at h1 b h
    obtain⟨r1,q,z⟩:=GP n _ _ _ _ _ _ _ h1 b h
    exact⟨r1,q,λ a w j=>c.W.seq (z a w j)⟩
   ·split at i
    ·rw[i]at h1 b h
     obtain⟨r1,q,z⟩:=GP n _ _ _ _ _ _ _ h1 b h
     exact⟨r1,q,λ a w j=>c.W.region (z a w j)⟩
    ·rw[i]at h1 b h;exact⟨h1,b,h⟩
   ·rw[i]at h1 b h
    obtain⟨r1,q,z⟩:=GP n _ _ _ _ _ _ _ h1 b h
    exact⟨r1,q,λ a w j=>c.W.block (z a w j)⟩
   ·rw[i]at h1 b h
    obtain⟨r1,q,z⟩:=GP n _ _ _ _ _ _ _ h1 b h
    exact⟨r1,q,λ a w j=>c.W.scope (z a w j)⟩
   ·rw[i]at h1 b h
    obtain⟨r1,q,z⟩:=GP n _ _ _ _ _ _ _ h1 b h
    exact⟨r1,q,λ a w j=>c.W.exit (z a w j)⟩
   ·rw[i]at h1 b h
    exact⟨h1,b,λ a w j=>c.W.ret (UF a w (h a w j) k)⟩
   ·split at i
    ·rename_i v J ho
     split at i
     ·rename_i p hp
      have:=O8 hp;subst this
      rw[i]at h1 b h
      refine⟨h1,(A9.app b).2,λ a w j=>c.W.cond (AF ho (hE:=(A9.app b).1) a c.N j.1 U) (h a w j)⟩
     ·rw[i]at h1 b h;exact⟨h1,b,h⟩
    ·rw[i]at h1 b h;exact⟨h1,b,h⟩
   ·rw[i]at h1 b h;exact⟨h1,b,h⟩
  ·split at i
   ·rw[i]at h1 b h
    obtain⟨r1,q,z⟩:=GP n _ _ _ _ _ _ _ h1 b h
    exact⟨r1,q,λ a w j=>z a w j⟩
   ·rw[i]at h1 b h
    obtain⟨r1,q,z⟩:=GP n _ _ _ _ _ _ _ h1 b h
    exact⟨r1,q,λ a w j=>z a w j⟩
   ·rw[i]at h1 b h
    obtain⟨r1,q,z⟩:=GP n _ _ _ _ _ _ _ h1 b h
    exact⟨r1,q,λ a w j=>z a w j⟩
   ·rw[i]at h1 b h;exact⟨h1,b,h⟩
  ·rename_i id
   split at i
   ·rename_i D k'
    split at i
    ·rename_i hid
     have:=Nat.eq_of_beq_eq_true hid;subst this
     rw[i]at h1 b h
     obtain⟨r1,q,z⟩:=GP n _ _ _ _ _ _ _ h1 b h
     refine⟨r1,q,λ a w j=>?_⟩
     show(if id=id then _ else _)
     rw[if_pos U];exact z a w j
    ·rename_i hid
     have:id≠D:=λ e=>by subst e;rw[Nat.beq_refl]at hid;cases hid
     rw[i]at h1 b h
     obtain⟨r1,q,z⟩:=GP n _ _ _ _ _ _ _ h1 b h
     refine⟨r1,q,λ a w j=>?_⟩
     show(if id=D then _ else _)
     rw[if_neg this];exact z a w j
   ·rw[i]at h1 b h
    obtain⟨r1,q,z⟩:=GP n _ _ _ _ _ _ _ h1 b h
    exact⟨r1,q,λ a w j=>z a w j⟩
   ·rw[i]at h1 b h
    obtain⟨r1,q,z⟩:=GP n _ _ _ _ _ _ _ h1 b h
    exact⟨r1,q,λ a w j=>z a w j⟩
   ·rw[i]at h1 b h
    obtain⟨r1,q,z⟩:=GP n _ _ _ _ _ _ _ h1 b h
    exact⟨r1,q,λ a w j=>z a w j⟩
   ·rw[i]at h1 b h;exact⟨h1,b,h⟩
  ·rename_i all l
   split at i
   ·rw[i]at h1 b h
    obtain⟨r1,q,z⟩:=GP n _ _ _ _ _ _ _ h1 b h
    exact⟨r1,q,λ a w j=>c.W.nil (z a w j)⟩
   ·rename_i dst op ty ps af gd rest
    split at i
    ·rename_i d
     split at i
     ·rename_i W X
      split at i
      ·rename_i v p J hv
       split at i
       ·rename_i hd
        obtain⟨V,hi,Q⟩:=cM (W:=W) (K:=λ V=>exec c.T c.N n k (.ops all rest) F H ((d,W,v)::L) V (J++E)) (ps:=p) (O:=O)
        rw[i,hi]at h1 b h
        obtain⟨r1,q,z⟩:=GP n _ _ _ _ _ _ _ h1 b h
        obtain⟨hp,hO⟩:=Q r1
        refine⟨hO,(A9.app q).2,λ a w j=>?_⟩
        obtain⟨A,M,G⟩:=j
        have R:PV c.P (· =w) L.d W.d ⟨some d,op,ty,ps,af,gd⟩ v.d:=U7 c.hT G.f G.st HJ hv (A9.app q).1 hp
        exact c.W.one (RL.v (M9 X) R hd (λ a' C=>c.W.back (z a' w ⟨C,M,G⟩)) a A)
       ·rw[i]at h1 b h;exact⟨h1,b,h⟩
      ·rw[i]at h1 b h;exact⟨h1,b,h⟩
     ·rw[i]at h1 b h;exact⟨h1,b,h⟩
    ·split at i
     ·split at i
      ·rename_i tt x y
       split at i
       ·rename_i H' J S
        rw[i]at h1 b h
        obtain⟨r1,q,z⟩:=GP n _ _ _ _ _ _ _ h1 b h
        refine⟨r1,(A9.app q).2,λ a w j=>?_⟩
        obtain⟨A,M,G⟩:=j
        exact c.W.one (AD9 S (A9.app q).1 G (λ a' w' C=>c.W.back (z a' w' C)) a w A)
       ·rw[i]at h1 b h;exact⟨h1,b,h⟩
      ·rw[i]at h1 b h;exact⟨h1,b,h⟩
     ·rw[i]at h1 b h;exact⟨h1,b,h⟩
  ·rw[i]at h1 b h;exact⟨h1,b,h⟩
theorem C5{m:Md}{k':List Fr}{i:Md}{s':XS}{j:Prop}{l:List Ck}(h:run c.T c.N k m s=⟨k',i,s',j,l⟩)(hE:A9 l)(hO:j)(n:XG c B k' i s'):XG c B k m s:=by
 unfold run at h
 split at h
 rename_i F H L
 have key: ∀b e L',b=F->e=H->L'=L->exec c.T c.N 10000 k m b e L' ((0:Int)=0) []=⟨k',i,s',j,l⟩->XG c B k m ⟨F,H,L⟩:=by
  rintro b e L' rfl rfl rfl h
  have:=GP (c:=c) (B:=B) 10000 k m b e L' ((0:Int)=0) []
  rw[h]at this
  exact(this hO hE n).2.2
 split at h
 ·rename_i b hF
  split at h
  ·rename_i e hH
   split at h
   ·rename_i L' q
    exact key b e L' (cL hF) (cL hH) (lQ q) h
   ·exact key F H L U U U h
  ·exact key F H L U U U h
 ·exact key F H L U U U h
end
end Go.Eng
