/-
  Parts EngR Xg, put together and made short by wip/py/merge.py (mini.py).
-/
import Derived.Test.YtmjpjbmeamnfpaaGreatDoorZc4
import Derived.Test.YtmjpjbmeamnfpaaGreatDoorZc7
import Derived.Test.YtmjpjbmeamnfpaaGreatDoorZc0
set_option linter.unusedVariables false
set_option linter.unusedSimpArgs false
namespace Go.Eng
open Go.RowKit
section st
variable {w0 w:World} {M0 M:Mem} {Hs:List HO}
theorem St.tC (h:St w0 M0 w M Hs)(e:TypeId)(sz n:Nat)(xs:List Value)(hl:xs.length=n*sz)(hm:n<=maxLen):
  St w0 M0 (w.alloc (.cells xs.toArray e)) M (.priv e sz (.slice (some ⟨w.heap.size,0,none⟩) n n) n xs::Hs):=by
 have h1:=h.ext (Ext.alloc w (.cells xs.toArray e))
 refine⟨h1.low,h1.sat,h1.old,λ x hx=>?_,List.pairwise_cons.2 ⟨λ y hy b hb=>?_,h.apart⟩⟩
 ·rcases List.mem_cons.1 hx with rfl|hx
  ·refine⟨⟨hl,.inr ⟨w.heap.size,n,xs.toArray,rfl,h.size,heap_alloc_new _ _,Nat.le_refl _,hm,by simpa using hl,by rw[<-hl];simp⟩⟩,λ b hb o=>?_⟩
   simp only[Value.ownBlock,Option.some.injEq]at hb;subst hb
   exact h.R9 (Nat.le_refl _) o
  ·exact h1.ok x hx
 ·simp only[HO.FF,Value.ownBlock,Option.some.injEq]at hb;subst hb
  intro hy'
  have:=(HO.ok.lt (h.ok y hy) hy').2
  omega
theorem St.fX (h:St w0 M0 w M Hs)(e:TypeId)(sz:Nat):St w0 M0 w M (.priv e sz (.slice none 0 0) 0 []::Hs):=
 ⟨h.low,h.sat,h.old,λ x hx=>by
  rcases List.mem_cons.1 hx with rfl|hx
  ·exact⟨World.ownsRow_nil w _ e sz,λ b hb=>(by cases hb)⟩
  ·exact h.ok x hx,List.pairwise_cons.2 ⟨λ y hy b hb=>(by cases hb),h.apart⟩⟩
theorem St.show (h:St w0 M0 w M Hs){k:Nat}{e:TypeId}{sz n:Nat}{v:Value}{xs:List Value}(hk:Hs[k]? =some (.priv e sz v n xs)):
  ∃M',St w0 M0 w M' (Hs.set k (.own e sz v n xs))/\M.le M':=by
 obtain⟨hown,hmem⟩:=h.obj hk
 let M':Mem:=λ b o=>if v.ownBlock=some b then xs[o]? else M b o
 have hne: ∀b,v.ownBlock≠some b-> ∀o,M' b o=M b o:=λ b hb o=>if_neg hb
 have heq: ∀b,v.ownBlock=some b-> ∀o,M' b o=xs[o]?:=λ b hb o=>if_pos hb
 refine⟨M',?_,λ b o u hu=>?_⟩
 ·refine h.write hk (Below.refl _ _) ⟨λ b o u hu=>?_⟩ (λ b o hb=>hne b (λ e=>by have:=(World.ownsRow.lt hown b e).1;omega) o) (λ _ _ _=>rfl) (λ b _ hb o=>hne b hb o) ⟨hown,λ b hb=>⟨λ o _=>heq b hb o,λ o ho=>by rw[heq b hb o];exact List.getElem?_eq_none ho⟩⟩ (λ _ hb=>.inl hb)
  by_cases hb:v.ownBlock=some b
  ·rw[heq b hb]at hu
   have:=hown.cells hb o u hu
   rwa [GU,Nat.zero_add]at this
  ·rw[hne b hb]at hu;exact h.sat.cell b o u hu
 ·by_cases hb:v.ownBlock=some b
  ·rw[hmem b hb o]at hu;cases hu
  ·rw[hne b hb,hu]
theorem St.told (h:St w0 M0 w M Hs){k:Nat}{e:TypeId}{sz n:Nat}{v:Value}{xs:List Value}(hk:Hs[k]? =some (.priv e sz v n xs)):St w0 M0 w (h.show hk).choose (Hs.set k (.own e sz v n xs)):=(h.show hk).choose_spec.1
theorem St.tD {P:Program}(h:St w0 M0 w M Hs){k:Nat}{t ty e:TypeId}{i:TypeInfo}{z:Value}{sz n m:Nat}{v x:Value}{xs news:List Value}(hk:Hs[k]? =some (.priv e sz v n xs))(hx:Sl M sz m x news)
  (ht:P.underlying t=some (.slice e)) (hi:P.info? e=some i) (hz:i.zero=some z) (hsize:i.size=sz) (hzs:z.cells.size=sz) (h1: ∀u∈news,u.oneCell'=true)
  (h63:n+m<=maxLen) (hbytes:(n+m)*i.bytes<=140737488355328):
  ∃v' w',(Builtin.append_ #[t,t] ty #[v,x]).run P w= .ok v' w'/\St w0 M0 w' M (Hs.set k (.priv e sz v' (n+m) (xs++news))):=by
 obtain⟨hown,hmem⟩:=h.obj hk
 obtain⟨p,cap,rfl,hnc,_,hp⟩:=hx.val
 have hx': ∃p' c,(Value.slice p m cap)= .slice p' m c/\(0<m-> ∃a,p'=some a/\ ∀j u,news[j]? =some u->w.cell? (a.add j)=some u):=by
  refine⟨p,cap,rfl,λ hm=>?_⟩
  obtain⟨b,o,hp',hc⟩:=hp hm
  refine⟨_,hp',λ j u hu=>?_⟩
  rw[GU]
  refine h.sat.cell _ _ _ ?_
  rw[hc j (List.getElem?_eq_some_iff.1 hu).1,hu]
 obtain⟨v',w',hr,hown',hlow,hheap,hpre,hblk⟩:=dQ (P:=P) w w0.heap.size t ty e i z sz ht hi hz hsize hzs v n xs hown _ m news hx.len hx' h1 h63 hbytes h.size
 have hnone: ∀b,v'.ownBlock=some b-> ∀o,M b o=none:=λ b hb o=>by
  rcases hblk with h2|⟨b',h2,h3⟩
  ·exact hmem b (by rw[<-h2];exact hb) o
  ·rw[hb]at h2;cases h2;exact h.R9 h3 o
 refine⟨v',w',hr,h.write hk hlow ⟨λ b o u hu=>?_⟩ (λ _ _ _=>rfl) (λ b hb hne=>hheap b hb hne) (λ _ _ _ _=>rfl) ⟨hown',hnone⟩ (λ b hb=>?_)⟩
 ·have hlt:=h.sat.lt hu
  have hne:v.ownBlock≠some b:=λ e=>by rw[hmem b e o]at hu;cases hu
  have:=h.sat.cell b o u hu
  simp only[World.cell?,hheap b hlt hne]at this ⊢;exact this
 ·rcases hblk with h2|⟨b',h2,h3⟩
  ·exact .inl (by show v.ownBlock=some b;rw[<-h2];exact hb)
  ·have hb':v'.ownBlock=some b:=hb
   rw[hb']at h2;cases h2;exact .inr h3
theorem St.tE {P:Program}(h:St w0 M0 w M Hs){k:Nat}{e:TypeId}{sz n:Nat}{v:Value}{xs us:List Value}{o:Nat}(hk:Hs[k]? =some (.priv e sz v n xs))(ho:o+us.length<=xs.length)(hu:0<us.length)(h1: ∀u∈us,u.oneCell'=true):
  ∃w',(storeCells ⟨sb v,so v+o,none⟩ us 0).run P w= .ok () w'/\St w0 M0 w' M (Hs.set k (.priv e sz v n (G0 xs o us))):=by
 obtain⟨⟨hl,hv⟩,hmem⟩:=h.obj hk
 rcases hv with⟨rfl,rfl⟩|⟨g,cap,cur,rfl,hg,hh,hnc,hcm,hcs,htk⟩
 ·rw[Nat.zero_mul]at hl;omega
 ·have hxl:xs.length<=cur.size:=by rw[<-htk,List.length_take];simp;omega
  have hst:=run_storeCells_at P g o e us 0 cur w hh (by omega) h1
  refine⟨_,by simpa[sb,so]using hst,?_⟩
  have hlt:g<w.heap.size:=by
   rcases Nat.lt_or_ge g w.heap.size with h'|h'
   ·exact h'
   ·simp[Array.getElem?_eq_none h']at hh
  refine h.write hk (U2 _ hg) ⟨λ b' o' u hu'=>?_⟩ (λ _ _ _=>rfl) (λ b _ hb=>OF _ _ _ _ (λ e=>hb (by rw[e];rfl))) (λ _ _ _ _=>rfl) ⟨⟨?_,.inr ⟨g,cap,_,rfl,hg,PE _ _ _ _ _ _ hh,hnc,hcm,?_,?_⟩⟩,λ b hb o'=>hmem b hb o'⟩ (λ _ hb=>.inl hb)
  ·have hne:b'≠g:=λ e=>by subst e;rw[hmem b' rfl o']at hu';cases hu'
   have:=h.sat.cell b' o' u hu'
   simp only[World.cell?,OF _ _ _ _ hne]at this ⊢
   exact this
  ·unfold G0;simp only[List.length_append,List.length_take,List.length_drop];omega
  ·simp only[List.size_toArray,List.length_append,List.length_take,List.length_drop,Array.length_toList];omega
  ·unfold G0
   simp only[Nat.add_zero]
   have hA:(List.take o cur.toList).length=o:=by rw[List.length_take,Array.length_toList];omega
   rw[<-htk,List.take_take,List.drop_take,Nat.min_eq_left (by omega:o<=n*sz)]
   simp only[List.append_assoc]
   rw[List.take_append,List.take_append,hA,List.take_take,Nat.min_eq_right (by omega:o<=n*sz),List.take_of_length_le (l:=us) (by omega),Nat.sub_sub]
end st
section rl
variable {P:Program} {ops:Array Oper} {Q:Exit->Act->World->Prop} {N:Nat} {rest:List Oper} {L:Env} {w0 w:World} {M0 M:Mem} {Hs:List HO} {d:Nat} {ty:TypeId} {ps:String} {af:Array Edge}
theorem RL.tF {t e:TypeId}{n sz:Nat}{xs:List (Nat×Operand)}{vs:List (Nat×Value)}{cs:List Value}(hS:St w0 M0 w M Hs)(hx:FQ L true xs vs)(hl:cs.length=n*sz)(hm:Nat.ble n 9223372036854775807=true)
  (hr: ∀w,(Instr.buildSlice t n vs.toArray).run P w= .ok (.slice (some ⟨w.heap.size,0,none⟩) n n) (w.alloc (.cells cs.toArray e))) (hd:Nat.blt d N=true)
  (h: ∀v w',St w0 M0 w' M (.priv e sz v n cs::Hs)->RL P ops Q N rest ((d,true,v)::L) w'):RL P ops Q N (⟨some d,.buildSlice t n xs.toArray,ty,ps,af,none⟩::rest) L w:=by
 intro a hs
 refine wpList_plain U λ K hK=>?_
 have e1:xs.toArray.map (λ p=>(p.1,a.eval p.2))=vs.toArray:=by rw[List.map_toArray,FQ.map hs U xs vs hx]
 have key:(execOp a.eval ⟨some d,.buildSlice t n xs.toArray,ty,ps,af,none⟩).run P w= .ok (.value (.slice (some ⟨w.heap.size,0,none⟩) n n)) (w.alloc (.cells cs.toArray e)):=by
  simp only[execOp,e1];rw[Sem.run_bind,hr w];rfl
 simp only[Oper.wp,key,Oper.upon_value]
 exact hK _ _ (h _ _ (hS.tC e sz n cs hl (by have:=Nat.le_of_ble_eq_true hm;simp only[maxLen];omega)) _ (hs.put hd true _))
theorem RL.tG {α:Type}{f:α->List Value}{l m:List α}{t e:TypeId}{s x:Operand}{i:TypeInfo}{z:Value}{k sz by':Nat}{v vx:Value}(hS:St w0 M0 w M Hs)(hk:Hs[k]? =some (.priv e sz v l.length (l.flatMap f)))(hs:A8 L true s v)(hx:A8 L true x vx)(hsl:Sl M sz m.length vx (m.flatMap f))
  (ht:P.underlying t=some (.slice e)) (hi:P.info? e=some i) (hz:i.zero=some z) (hsize:i.size=sz) (hzs:z.cells.size=sz) (h1: ∀x,∀u∈f x,u.oneCell'=true) (hby:i.bytes=by') (hb0:Nat.blt 0 by'=true)
  (hb:(len l+len m)*by'<=140737488355328) (hd:Nat.blt d N=true) {Hs':Value->List HO} (hHs: ∀v',Hs.set k (.priv e sz v' (l++m).length ((l++m).flatMap f))=Hs' v')
  (h: ∀v' w',St w0 M0 w' M (Hs' v')->RL P ops Q N rest ((d,true,v')::L) w'):RL P ops Q N (⟨some d,.call ⟨.builtin .append,#[s,x],#[t,t]⟩,ty,ps,af,none⟩::rest) L w:=by
 subst hby
 have hb0':0<i.bytes:=by simpa[Nat.blt_eq]using hb0
 unfold len at hb
 intro a hsl'
 refine wpList_plain U λ K hK=>?_
 have hb2:(l.length+m.length)*i.bytes<=140737488355328:=by
  rw[<-Int.natCast_add,<-Int.natCast_mul]at hb
  generalize (l.length+m.length)*i.bytes=q at hb ⊢
  omega
 have hle:(l.length+m.length)*1<=(l.length+m.length)*i.bytes:=Nat.mul_le_mul_left _ hb0'
 obtain⟨v',w',hr,hS'⟩:=hS.tD (P:=P) (ty:=ty) hk hsl ht hi hz hsize hzs (λ u hu=>by obtain⟨y,_,hy⟩:=List.mem_flatMap.1 hu;exact h1 y u hy) (by simp only[maxLen];omega) hb2
 have key:(execOp a.eval ⟨some d,.call ⟨.builtin .append,#[s,x],#[t,t]⟩,ty,ps,af,none⟩).run P w= .ok (.value v') w':=by
  simp only[execOp,resolve,invoke,builtin,Sem.run_bind,Sem.run_pure,Result.andThen_ok,List.map_toArray,List.map_cons,List.map_nil,hs a N hsl' U,hx a N hsl' U,hr]
 simp only[Oper.wp,key,Oper.upon_value]
 exact hK _ _ (h _ _ (by rw[<-hHs v',List.length_append,List.flatMap_append];exact hS') _ (hsl'.put hd true _))
theorem RL.tH {t e:TypeId}{x y:Operand}{k sz n m o:Nat}{v u:Value}{xs xs':List Value}(hS:St w0 M0 w M Hs)(hk:Hs[k]? =some (.priv e sz v n xs))(hx:A8 L true x (.pointer (some ⟨sb v,so v+o,none⟩)))(hy:A8 L true y u)(hs: ∀w,(sizeOf t).run P w= .ok m w)
  (hn:u.cells.toList.length=m) (hm0:Nat.blt 0 m=true) (hfit:o+m<=xs.length) (h1:(u.cells.toList.all (·.oneCell'))=true) (hxs:G0 xs o u.cells.toList=xs') {Hs':List HO} (hHs:Hs.set k (.priv e sz v n xs')=Hs')
  (h: ∀w',St w0 M0 w' M Hs'->RL P ops Q N rest L w'):RL P ops Q N (⟨none,.store t x y,ty,ps,af,none⟩::rest) L w:=by
 intro a hsl
 refine wpList_plain U λ K hK=>?_
 obtain⟨w',hst,hS'⟩:=hS.tE (P:=P) (us:=u.cells.toList) (o:=o) hk (by omega) (by rw[hn];simpa[Nat.blt_eq]using hm0) (List.all_eq_true.1 h1)
 have hn':u.cells.size=m:=by rw[<-hn];simp
 have key:(Instr.storeAt t (.pointer (some ⟨sb v,so v+o,none⟩)) u).run P w= .ok () w':=by
  simp only[Instr.storeAt,Instr.sureAddr,storeVar,Sem.run_bind,Sem.run_pure,Result.andThen_ok,hs,hn',ne_eq,not_true_eq_false,if_false,hst]
 have key2:(execOp a.eval ⟨none,.store t x y,ty,ps,af,none⟩).run P w= .ok .skip w':=by
  simp only[execOp,hx a N hsl U,hy a N hsl U];rw[Sem.run_bind,key];rfl
 simp only[Oper.wp,key2,Oper.upon_skip]
 exact hK _ _ (h _ (by rw[<-hHs,<-hxs];exact hS') _ hsl)
end rl
theorem tI{α:Type}[Inhabited α]{f:α->List Value}{sz:Nat}(hf: ∀x,(f x).length=sz)(l:List α)(i:Nat)(y:α)(off:Nat)(us:List Value)(hi:i<l.length)(hy:G0 (f (l.getD i default)) off us=f y)(hoff:off+us.length<=sz):
  G0 (l.flatMap f) (i*sz+off) us=(l.set i y).flatMap f:=by
 induction l generalizing i with
 |nil=>simp at hi
 |cons x l ih=>
  cases i with
  |zero=>
   have hy':G0 (f x) off us=f y:=by simpa using hy
   have hx:=hf x
   simp only[List.set_cons_zero,List.flatMap_cons,Nat.zero_mul,Nat.zero_add]
   rw[<-hy']
   unfold G0
   rw[List.take_append_of_le_length (by omega),List.drop_append_of_le_length (by omega)]
   simp
  |succ i=>
   have h2:=ih i (by simpa using hi) (by simpa using hy)
   have hx:=hf x
   simp only[List.set_cons_succ,List.flatMap_cons]
   rw[<-h2]
   unfold G0
   have e1:(i+1)*sz+off=(f x).length+(i*sz+off):=by rw[hx,Nat.succ_mul];omega
   rw[e1,List.take_append,List.drop_append,List.take_of_length_le (by omega),show(f x).length+(i*sz+off)-(f x).length=i*sz+off from by omega,List.drop_eq_nil_of_le (by omega),show(f x).length+(i*sz+off)+us.length-(f x).length=i*sz+off+us.length from by omega]
   simp
end Go.Eng
namespace Go.Eng
open Go.RowKit
theorem OS: ∀ {L:XE} {k:Nat} {g:Bool} {v:Value},look L.d k=some (g,v)-> ∃g' v',BL L k=some (g',v')/\g=g'.d/\v=v'.d
 |[],_,_,_,h=>by cases h
 |(t,g',v')::L,k,g,v,h=>by
  have h':look ((t,g'.d,v'.d)::XE.d L) k=some (g,v):=h
  unfold look at h'
  unfold BL
  split at h'<;>rename_i e<;>rw[e]
  ·cases h';exact⟨_,_,rfl,rfl,rfl⟩
  ·exact OS h'
abbrev EN(P:Program)(T:TT):Prop:= ∀t td,HP T t=some td->td.ok P t
abbrev BJ(M:Mem)(F:List (Nat×Kn)):Prop:= ∀x∈F,x.2.ok M
theorem AF{M:Mem}:BJ M []:=λ x hx=>by cases hx
theorem CA{M:Mem}{F:List (Nat×Kn)}{k:Nat}{K:Kn}(h:K.ok M)(hF:BJ M F):BJ M ((k,K)::F):=λ x hx=>by
 rcases List.mem_cons.1 hx with rfl|hx
 ·exact h
 ·exact hF x hx
theorem fc{α:Type}[Inhabited α]{M:Mem}{F:List (Nat×Kn)}(k:Nat){v:Value}{sz:Nat}{l:List α}{f:α->List Value}(h:Sl M sz l.length v (l.flatMap f))(hf: ∀x,(f x).length=sz)(hF:BJ M F):BJ M ((k,kn v sz l f)::F):=CA ⟨h,hf,trivial⟩ hF
theorem BJ.get {M:Mem}{F:List (Nat×Kn)}(h:BJ M F){k:Nat}{K:Kn}(hk:KK F k=some K):K.ok M:=by
 obtain⟨i,hi⟩:=fS hk;exact h _ hi
theorem MS{H:List (Nat×HX)}{Hr:List HO}{k:Nat}{x:HX}(hk:J3 H k=some x): ∃i:Nat,(HD H++Hr)[i]? =some x.d/\ ∀y,HD (ES H k y)++Hr=(HD H++Hr).set i y.d:=by
 obtain⟨i,h1,h2⟩:=fT hk
 have hlt:i<(HD H).length:=(List.getElem?_eq_some_iff.1 h1).1
 exact⟨i,by rw[List.getElem?_append_left hlt];exact h1,λ y=>by rw[h2 y,List.set_append_left _ _ hlt]⟩
theorem Q3{F:List (Nat×Kn)}{H:List (Nat×HX)}{Hr:List HO}{w0 w:World}{M0 M:Mem}{k:Nat}{K:Kn}(hF:BJ M F)(hS:St w0 M0 w M (HD H++Hr))(h:NU F H k=some K): ∃M' Hs',St w0 M0 w M' Hs'/\K.ok M':=by
 unfold NU at h
 split at h
 ·rename_i h1;cases h;exact⟨M,_,hS,hF.get h1⟩
 ·split at h
  ·rename_i e α inh v sz l f g' hg' hl h1
   cases h
   obtain⟨i,hi,_⟩:=MS (Hr:=Hr) h1
   have hi':(HD H++Hr)[i]? =some (.priv e sz v l.length (l.flatMap f)):=hi
   have ht:=hS.told hi'
   refine⟨_,_,ht,⟨ht.sl (i:=i) (by rw[List.getElem?_set_self (List.getElem?_eq_some_iff.1 hi').1]),hl,trivial⟩⟩
  ·cases h
theorem fY{c:XV}(h:YN c=true):c.d0=c.d:=by cases c<;>first|rfl|(exact absurd h (by decide))|cases h
section
variable {P:Program} {C:World->Prop} {L:XE} {W:Gd} {d:Option Tmp} {ty:TypeId} {ps:String} {af:Array Edge} {gd:Option (Nat×Bool)} {T:TT} {F:List (Nat×Kn)} {H:List (Nat×HX)} {Hr:List HO} {w0 w:World} {M0 M:Mem}
theorem _root_.Go.Eng.PV.tJ {L:Env}{W:Bool}{α:Type}[Inhabited α]{f:α->List Value}{t:TypeId}{x:Operand}{sz j n:Nat}{v:Value}{l:List α}{i:Int}{Hs:List HO}(hS:St w0 M0 w M Hs)(hC: ∀w',C w'->Ext w w')(h:Sl M sz l.length v (l.flatMap f))(hf: ∀x,(f x).length=sz)
  (hx:A8 L W x (.pointer (some ⟨sb v,so v+i.toNat*sz+j,none⟩))) (ha: ∀w,(isAgg t).run P w= .ok true w) (hs: ∀w,(sizeOf t).run P w= .ok n w) (hr:W=true->0<=i/\i<len l) (hj:j+n<=sz):PV P C L W ⟨d,.load t x,ty,ps,af,gd⟩ (.agg (((f (A2 l i)).drop j).take n).toArray):=by
 have hl:(((f (A2 l i)).drop j).take n).length=n:=by rw[List.length_take,List.length_drop,hf];omega
 refine .dM hx ha (λ w=>by rw[hl];exact hs w) λ hW w' hw q u hu=>?_
 obtain⟨h0,h1⟩:=hr hW
 have hq:q<n:=by have:=(List.getElem?_eq_some_iff.1 hu).1;omega
 rw[List.getElem?_take,if_pos hq,List.getElem?_drop]at hu
 obtain⟨hlt,e⟩:=FG l h0 h1
 obtain⟨cap,hv,_,_,hc⟩:=h.at (by omega)
 have h2:=U4 f sz hf l i.toNat (j+q) hlt (by omega)
 rw[<-e,hu]at h2
 have hlt2:i.toNat*sz+(j+q)<(l.flatMap f).length:=by
  rw[E5 f sz hf]
  have:=Nat.mul_le_mul_right sz (show i.toNat+1<=l.length from hlt)
  rw[Nat.add_mul]at this;omega
 have h3:=hc _ hlt2
 rw[h2]at h3
 rw[GU,show so v+i.toNat*sz+j+q=so v+(i.toNat*sz+(j+q))from by omega]
 exact(hS.sat.ext (hC w' hw)).cell _ _ _ h3
theorem tK{c x y:Operand}{v:XV}{p:List Prop}{E:List Ck}(h:YH L W c x y=some (v,p,E))(hE:AG E):PV P C L.d W.d ⟨d,.pick c x y,ty,ps,af,gd⟩ v.d:=by
 unfold YH at h
 split at h
 ·rename_i vc E1 h1
  split at h
  ·rename_i pc h2
   have:=NV h2;subst this
   split at h
   ·split at h
    ·rename_i vx E2 h3
     split at h
     ·rename_i q h4
      have:=NV h4;subst this
      simp only[Option.some.injEq,Prod.mk.injEq]at h;obtain⟨rfl,rfl,rfl⟩:=h
      refine .and (AT h1 hE.app.1) ?_
      have:=AT h3 hE.app.2
      rw[Gd.fW]at this;exact this
     ·cases h
    ·cases h
   ·split at h
    ·split at h
     ·rename_i vx E2 h3
      split at h
      ·rename_i q h4
       have:=NV h4;subst this
       simp only[Option.some.injEq,Prod.mk.injEq]at h;obtain⟨rfl,rfl,rfl⟩:=h
       refine .or (AT h1 hE.app.1) ?_
       have:=AT h3 hE.app.2
       rw[Gd.fW]at this;exact this
      ·cases h
     ·cases h
    ·cases h
  ·cases h
 ·cases h
theorem tL{s t:TypeId}{x:Operand}{a v:XV}{p:List Prop}(hT:EN P T)(h:YI T s t a=some (v,p))(hx:A8 L.d W.d x a.d)(hp:W.d=true->HQ p):PV P C L.d W.d ⟨d,.convert s t x,ty,ps,af,gd⟩ v.d:=by
 unfold YI at h
 split at h
 ·rename_i k n h1
  have:=OR h1;subst this
  split at h
  ·rename_i k1 _ _ h2
   split at h
   ·rename_i k2 _ _ h3
    split at h
    ·rename_i h4
     have:=V1 h4;subst this
     simp only[Option.some.injEq,Prod.mk.injEq]at h;obtain⟨rfl,rfl⟩:=h
     exact .BH hx (hT _ _ h2).kind (hT _ _ h3).kind λ hW=>S1 (hp hW)
    ·cases h
   ·cases h
  ·cases h
 ·cases h
theorem tM{t:TypeId}{x:Operand}{a v:XV}{E:List Ck}(hT:EN P T)(hF:BJ M F)(hS:St w0 M0 w M (HD H++Hr))(h:YK T F H t a=some (v,E))(hE:AG E)(hx:A8 L.d W.d x a.d):PV P C L.d W.d ⟨d,.call ⟨.builtin .len,#[x],#[t]⟩,ty,ps,af,gd⟩ v.d:=by
 unfold YK at h
 split at h
 ·rename_i h1
  split at h
  ·rename_i l h2
   have:=YJ h2;subst this
   simp only[Option.some.injEq,Prod.mk.injEq]at h;obtain⟨rfl,rfl⟩:=h
   exact .BZ hx (hT _ _ h1).kind
  ·cases h
 ·rename_i e esz _ _ h1
  split at h
  ·rename_i k x'
   split at h
   ·rename_i α inh kv sz l f g' hg' h2
    simp only[Option.some.injEq,Prod.mk.injEq]at h;obtain⟨rfl,rfl⟩:=h
    have hv:x'=kv:=hE _ (.head _)
    subst hv
    obtain⟨M2,Hs2,hS2,hK⟩:=Q3 hF hS h2
    exact .PH hK.sl hx ⟨_,(hT _ _ h1).kind.1⟩
   ·cases h
  ·cases h
 ·cases h
theorem tN{t:TypeId}{x y:Operand}{a b v:XV}{p:List Prop}{E:List Ck}(hT:EN P T)(hF:BJ M F)(hS:St w0 M0 w M (HD H++Hr))(h:YL T F H t a b=some (v,p,E))(hE:AG E)(hx:A8 L.d W.d x a.d)(hy:A8 L.d W.d y b.d)(hp:W.d=true->HQ p):PV P C L.d W.d ⟨d,.indexAddr t x y,ty,ps,af,gd⟩ v.d:=by
 unfold YL at h
 split at h
 ·rename_i k x'
  split at h
  ·rename_i e esz _ _ h1
   split at h
   ·rename_i kk i h2
    have:=OR h2;subst this
    split at h
    ·rename_i α inh kv sz l f g' hg' h3
     simp only[Option.some.injEq,Prod.mk.injEq]at h;obtain⟨rfl,rfl,rfl⟩:=h
     have hv:x'=kv:=hE _ (.head _)
     have hz:esz=sz:=hE _ (.tail _ (.head _))
     subst hv;subst hz
     obtain⟨M2,Hs2,hS2,hK⟩:=Q3 hF hS h3
     exact .U8 hK.sl hx hy (hT _ _ h1).kind.1 (hT _ _ h1).kind.2 λ hW=>(hp hW).1
    ·cases h
   ·cases h
  ·cases h
 ·cases h
theorem tO{t:TypeId}{x:Operand}{a v:XV}{f:Nat}(hT:EN P T)(h:YM T t a f=some v)(hx:A8 L.d W.d x a.d):PV P C L.d W.d ⟨d,.fieldAddr t x f,ty,ps,af,gd⟩ v.d:=by
 unfold YM at h
 split at h
 ·rename_i fs _ _ _ h1
  split at h
  ·rename_i off n g h2
   rw[H0]at h2
   have h3:=((hT _ _ h1).kind.2 f off n g h2).1
   split at h
   ·cases h;exact .BR hx λ w=>by rw[h3];rw[Nat.add_assoc]
   ·cases h;exact .BR hx λ w=>h3 _ _ w
   ·cases h
  ·cases h
 ·cases h
theorem tP{t:TypeId}{x:Operand}{a v:XV}{f:Nat}(hT:EN P T)(h:YO T t a f=some v)(hx:A8 L.d W.d x a.d):PV P C L.d W.d ⟨d,.field t x f,ty,ps,af,gd⟩ v.d:=by
 unfold YO at h
 split at h
 ·rename_i fs _ sz _ h1
  split at h
  ·rename_i off n g h2
   rw[H0]at h2
   have h3:=((hT _ _ h1).kind.2 f off n g h2).2
   split at h
   ·rename_i cs
    split at h
    ·rename_i hl
     have hl':(cs.map XV.d0).length=sz:=by rw[List.length_map];exact Nat.eq_of_beq_eq_true hl
     split at h
     ·split at h
      ·rename_i r hr
       cases h
       obtain⟨e1,e2,e3⟩:=S0 _ _ _ _ hr
       refine .field hx λ w=>?_
       show(Instr.field t (.agg (cs.map XV.d0).toArray) f).run P w=_
       rw[((h3 _ w hl').2)]
       subst e1
       simp[XV.d,XV.d1,List.map_take,List.map_drop]
      ·cases h
     ·split at h
      ·rename_i c hc
       split at h
       ·rename_i hi
        cases h
        rw[H0]at hc
        refine .field hx λ w=>?_
        show(Instr.field t (.agg (cs.map XV.d0).toArray) f).run P w=_
        rw[((h3 _ w hl').2)]
        simp[List.getD,hc,fY hi]
       ·cases h
      ·cases h
    ·cases h
   ·cases h
  ·cases h
 ·cases h
theorem fZ{t:TypeId}{x:Operand}{a v:XV}{p:List Prop}{E:List Ck}(hT:EN P T)(hF:BJ M F)(hS:St w0 M0 w M (HD H++Hr))(hC: ∀w',C w'->Ext w w')(h:V2 T F H t a=some (v,p,E))(hE:AG E)(hx:A8 L.d W.d x a.d)(hp:W.d=true->HQ p):PV P C L.d W.d ⟨d,.load t x,ty,ps,af,gd⟩ v.d:=by
 unfold V2 at h
 split at h
 ·rename_i tk n g h1
  have ha:=(hT _ _ h1).agg
  have hs:=(hT _ _ h1).size
  dsimp only at ha hs
  split at h
  ·rename_i k x' sz i j
   split at h
   ·rename_i α inh kv ksz l f g' hg' h2
    obtain⟨M2,Hs2,hS2,hK⟩:=Q3 hF hS h2
    have hK1:Sl M2 ksz l.length kv (l.flatMap f):=hK.sl
    have hK2: ∀x,(f x).length=ksz:=hK.sz
    split at h
    ·split at h
     ·rename_i c hc
      simp only[Option.some.injEq,Prod.mk.injEq]at h;obtain⟨rfl,rfl,rfl⟩:=h
      have hv:x'=kv:=hE _ (.head _)
      have hz:sz=ksz:=hE _ (.tail _ (.head _))
      subst hv;subst hz
      rw[H0]at hc
      have hj:j<sz:=by
       have:=(List.getElem?_eq_some_iff.1 hc).1
       rwa [hK2]at this
      exact .U6 (f:=f) (i:=i) (j:=j) hS2 hC hK1 hK2 hx ha (λ hW=>(hp hW).1) (by simpa[Nat.blt_eq]using hj) hc
     ·cases h
    ·split at h
     ·rename_i r hr
      split at h
      ·rename_i r' hr'
       simp only[Option.some.injEq,Prod.mk.injEq]at h;obtain⟨rfl,rfl,rfl⟩:=h
       have hv:x'=kv:=hE _ (.head _)
       have hz:sz=ksz:=hE _ (.tail _ (.head _))
       subst hv;subst hz
       have e1:=UZ _ _ hr'
       obtain⟨e2,e3,e4⟩:=S0 _ _ _ _ hr
       show PV P C L.d W.d _ (.agg (r'.map XV.d0).toArray)
       rw[e1,e2]
       refine .tJ (f:=f) (i:=i) (j:=j) (n:=n) hS2 hC hK1 hK2 hx ha hs (λ hW=>(hp hW).1) (by rw[hK2]at e4;exact e4)
      ·cases h
     ·cases h
   ·cases h
  ·rename_i k b o
   split at h
   ·rename_i b' cs t' h2
    obtain⟨i,hi,_⟩:=MS (Hr:=Hr) h2
    split at h
    ·split at h
     ·rename_i c hc
      split at h
      ·rename_i hcell
       simp only[Option.some.injEq,Prod.mk.injEq]at h;obtain⟨rfl,rfl,rfl⟩:=h
       have hb:b=b':=hE _ (.head _)
       subst hb
       rw[H0]at hc
       rw[<-fY hcell]
       exact .BA hS hC hi hx ha (by simp[hc])
      ·cases h
     ·cases h
    ·split at h
     ·rename_i r hr
      simp only[Option.some.injEq,Prod.mk.injEq]at h;obtain⟨rfl,rfl,rfl⟩:=h
      have hb:b=b':=hE _ (.head _)
      subst hb
      obtain⟨e2,e3,e4⟩:=S0 _ _ _ _ hr
      exact .U5 hS hC hi hx ha hs (by rw[List.length_map];exact e3) (by rw[e2];simp[List.map_take,List.map_drop])
     ·cases h
   ·cases h
  ·cases h
 ·cases h
theorem tQ{t:TypeId}{x:Operand}{lo hi:Option Operand}{v:XV}{p:List Prop}{E:List Ck}(hT:EN P T)(h:K7 T L W t x lo hi=some (v,p,E))(hE:AG E)(hp:W.d=true->HQ p):PV P C L.d W.d ⟨d,.slice t x lo hi none,ty,ps,af,gd⟩ v.d:=by
 unfold K7 at h
 split at h
 ·rename_i h0
  have ht:=(hT _ _ h0).kind
  split at h
  ·rename_i vx E0 h1
   split at h
   ·rename_i a h2
    have:=YJ h2;subst this
    split at h
    ·rename_i y z
     split at h
     ·rename_i vy E1 h3
      split at h
      ·rename_i vz E2 h4
       split at h
       ·rename_i k i h5
        split at h
        ·rename_i k' j h6
         have:=OR h5;subst this
         have:=OR h6;subst this
         simp only[Option.some.injEq,Prod.mk.injEq]at h;obtain⟨rfl,rfl,rfl⟩:=h
         exact .K7 (AT h1 hE.app.1) (AT h3 hE.app.2.app.1) (AT h4 hE.app.2.app.2) ht λ hW=>(hp hW).1
        ·cases h
       ·cases h
      ·cases h
     ·cases h
    ·rename_i y
     split at h
     ·rename_i vy E1 h3
      split at h
      ·rename_i k i h5
       have:=OR h5;subst this
       simp only[Option.some.injEq,Prod.mk.injEq]at h;obtain⟨rfl,rfl,rfl⟩:=h
       exact .JC (AT h1 hE.app.1) (AT h3 hE.app.2) ht λ hW=>(hp hW).1
      ·cases h
     ·cases h
    ·rename_i z
     split at h
     ·rename_i vy E1 h3
      split at h
      ·rename_i k i h5
       have:=OR h5;subst this
       simp only[Option.some.injEq,Prod.mk.injEq]at h;obtain⟨rfl,rfl,rfl⟩:=h
       exact .PD (AT h1 hE.app.1) (AT h3 hE.app.2) ht λ hW=>(hp hW).1
      ·cases h
     ·cases h
    ·cases h
   ·cases h
  ·cases h
 ·cases h
theorem tR{op:BinOp}{t t':TypeId}{x y:Operand}{a b v:XV}(hT:EN P T)(h:YR T op t a b=some v)(hx:A8 L.d W.d x a.d)(hy:A8 L.d W.d y b.d):PV P C L.d W.d ⟨d,.binOp op t x y t',ty,ps,af,gd⟩ v.d:=by
 unfold YR at h
 split at h
 ·rename_i p h1
  split at h
  ·rename_i q h2
   have:=NV h1;subst this
   have:=NV h2;subst this
   split at h
   ·rename_i h3
    split at h
    ·cases h;exact .qG (hT _ _ h3).kind hx hy
    ·cases h;exact .qH (hT _ _ h3).kind hx hy
    ·cases h
   ·cases h
  ·cases h
 ·cases h
theorem tS{t:TypeId}{x y:Operand}{a b v:XV}{p:List Prop}(hT:EN P T)(h:C4 T t a b=some (v,p))(hx:A8 L.d W.d x a.d)(hy:A8 L.d W.d y b.d)(hp:W.d=true->HQ p):PV P C L.d W.d ⟨d,.index t x y,ty,ps,af,gd⟩ v.d:=by
 unfold C4 at h
 split at h
 ·rename_i h0
  split at h
  ·rename_i s h1
   have:=YJ h1;subst this
   split at h
   ·rename_i k i h2
    have:=OR h2;subst this
    simp only[Option.some.injEq,Prod.mk.injEq]at h;obtain⟨rfl,rfl⟩:=h
    exact .C4 hx hy (hT _ _ h0).kind λ hW=>(hp hW).1
   ·cases h
  ·cases h
 ·cases h
theorem gA{M:Mem}{K:Kn}(h:K.ok M):K.v.oneCell'=true:=by
 obtain⟨p,cap,hv,_⟩:=h.sl.val
 rw[hv];rfl
theorem V4{v:Value}(h:v.oneCell'=true):v.cells.toList=[v]:=by cases v<;>first|rfl|(cases h)
theorem tT{w0 w:World}{M0 M:Mem}{F:List (Nat×Kn)}{H:List (Nat×HX)}{Hr:List HO}(hF:BJ M F)(hS:St w0 M0 w M (HD H++Hr)){v:XV}{E:List Ck}(h:V3 F H v=some E)(hE:AG E):v.d=v.d0/\v.d.cells.toList=[v.d0]:=by
 cases v with
 |v u=>
  simp only[V3]at h
  split at h
  ·rename_i h1;exact⟨rfl,V4 h1⟩
  ·cases h
 |sl k u=>
  simp only[V3]at h
  split at h
  ·rename_i α inh kv sz l f g' hg' h1
   simp only[Option.some.injEq]at h;subst h
   have:u=kv:=hE _ (.head _)
   refine⟨rfl,V4 ?_⟩
   show u.oneCell'=true
   obtain⟨M2,Hs2,hS2,hK⟩:=Q3 hF hS h1
   rw[this];exact gA hK
  ·cases h
 |el k x sz i j=>exact⟨rfl,rfl⟩
 |bx k b o=>exact⟨rfl,rfl⟩
 |ag cs=>cases h
 |tu vs=>cases h
theorem YU{w0 w:World}{M0 M:Mem}{F:List (Nat×Kn)}{H:List (Nat×HX)}{Hr:List HO}{L:XE}{W:Gd}{fs:List (Nat×Nat×Bool)}(hF:BJ M F)(hS:St w0 M0 w M (HD H++Hr)): ∀ {ps:List (Nat×Operand)} {cs r:List XV} {E:List Ck},Q1 F H L W fs cs ps=some (r,E)->AG E-> ∃vs,FQ L.d W.d ps vs/\LI fs (cs.map XV.d0) vs=some (r.map XV.d0)
 |[],cs,r,E,h,hE=>by simp only[Q1,Option.some.injEq,Prod.mk.injEq]at h;obtain⟨rfl,rfl⟩:=h;exact⟨[],.nil,rfl⟩
 |(i,x)::ps,cs,r,E,h,hE=>by
  unfold Q1 at h
  have go: ∀ {off n:Nat} {g:Bool} {v:XV} {vs cs':List XV} {E0:List Ck},nth fs i=some (off,n,g)->C9 L W x=some (v,E0)->AG E0->v.d.cells.toList=vs.map XV.d0->vs.length=n->JQ cs off vs=some cs'->
    (∃us,FQ L.d W.d ps us/\LI fs (cs'.map XV.d0) us=some (r.map XV.d0))-> ∃us,FQ L.d W.d ((i,x)::ps) us/\LI fs (cs.map XV.d0) us=some (r.map XV.d0):=by
   intro off n g v vs cs' E0 h1 h2 hE0 h3 h4 h5 ⟨us,h6,h7⟩
   obtain⟨e,hle⟩:=put_eq _ _ _ _ h5
   refine⟨(i,v.d)::us,.cons (AT h2 hE0) h6,?_⟩
   rw[H0]at h1
   simp only[LI,h1,h3,List.length_map,h4,true_and]
   rw[if_pos (by omega)]
   rw[<-h7,e]
   congr 1
   unfold G0
   simp[List.map_take,List.map_drop]
  split at h
  ·rename_i off n g h1
   split at h
   ·rename_i v E0 h2
    split at h
    ·split at h
     ·rename_i vs
      split at h
      ·rename_i hl
       split at h
       ·rename_i cs' h5
        split at h
        ·rename_i r' E' h6
         simp only[Option.some.injEq,Prod.mk.injEq]at h;obtain⟨rfl,rfl⟩:=h
         exact go h1 h2 hE.app.1 (by simp[XV.d,XV.d1,Value.cells]) (Nat.eq_of_beq_eq_true hl) h5 (YU hF hS h6 hE.app.2)
        ·cases h
       ·cases h
      ·cases h
     ·cases h
    ·split at h
     ·rename_i E1 h3
      split at h
      ·rename_i hl
       split at h
       ·rename_i cs' h5
        split at h
        ·rename_i r' E' h6
         simp only[Option.some.injEq,Prod.mk.injEq]at h;obtain⟨rfl,rfl⟩:=h
         exact go h1 h2 hE.app.2.app.1 (vs:=[v]) (by rw[(tT hF hS h3 hE.app.1).2];rfl) (Nat.eq_of_beq_eq_true hl) h5 (YU hF hS h6 hE.app.2.app.2)
        ·cases h
       ·cases h
      ·cases h
     ·cases h
   ·cases h
  ·cases h
theorem tU{P:Program}{C:World->Prop}{L:XE}{W:Gd}{d:Option Tmp}{ty:TypeId}{ps:String}{af:Array Edge}{gd:Option (Nat×Bool)}{T:TT}{F:List (Nat×Kn)}{H:List (Nat×HX)}{Hr:List HO}{w0 w:World}{M0 M:Mem}{t:TypeId}{xs:Array (Nat×Operand)}{v:XV}{p:List Prop}{E:List Ck}(hT:EN P T)(hF:BJ M F)(hS:St w0 M0 w M (HD H++Hr))(h:YS T F H L W t xs=some (v,p,E))(hE:AG E):
  PV P C L.d W.d ⟨d,.build t xs,ty,ps,af,gd⟩ v.d:=by
 unfold YS at h
 split at h
 ·rename_i fs zs _ _ h1
  split at h
  rename_i l
  split at h
  ·rename_i cs h2
   split at h
   ·rename_i r E' h3
    simp only[Option.some.injEq,Prod.mk.injEq]at h;obtain⟨rfl,rfl,rfl⟩:=h
    obtain⟨vs,h4,h5⟩:=YU hF hS h3 hE
    rw[UZ _ _ h2]at h5
    exact PV.build h4 λ w=>(hT _ _ h1).kind.1 vs _ w h5
   ·cases h
  ·cases h
 ·cases h
theorem tV{x:Operand}{a v:XV}{i:Nat}(h:YT a i=some v)(hx:A8 L.d W.d x a.d):PV P C L.d W.d ⟨d,.extract x i,ty,ps,af,gd⟩ v.d:=by
 unfold YT at h
 split at h
 ·rename_i vs
  split at h
  ·cases h
  ·rename_i r hn
   rw[H0]at h
   have hv:v.d=v.d1:=by
    cases v with
    |tu l=>exact absurd (by rw[H0];exact h) (hn l)
    |_=>rfl
   refine .ex (vs:=(vs.map XV.d1).toArray) hx ?_
   simp[h,hv]
 ·cases h
theorem tW{t:TypeId}{x:Operand}{a v:XV}(h:YP a=some v)(hx:A8 L.d W.d x a.d):PV P C L.d W.d ⟨d,.unOp .not t x,ty,ps,af,gd⟩ v.d:=by
 unfold YP at h
 split at h
 ·cases h;exact .not hx
 ·cases h
theorem tX{t:TypeId}{x:Operand}{a v:XV}{p:List Prop}(h:YQ a=some (v,p))(hx:A8 L.d W.d x a.d)(hp:W.d=true->HQ p):PV P C L.d W.d ⟨d,.unOp .neg t x,ty,ps,af,gd⟩ v.d:=by
 unfold YQ at h
 split at h
 ·simp only[Option.some.injEq,Prod.mk.injEq]at h;obtain⟨rfl,rfl⟩:=h
  exact .dH hx λ hW=>S1 (hp hW)
 ·cases h
theorem S4{op:Op}{v:XV}{p:List Prop}{E:List Ck}(hT:EN P T)(hF:BJ M F)(hS:St w0 M0 w M (HD H++Hr))(hC: ∀w',C w'->Ext w w')(h:Q2 T F H L W op=some (v,p,E))(hE:AG E)(hp:W.d=true->HQ p):
  PV P C L.d W.d ⟨d,op,ty,ps,af,gd⟩ v.d:=by
 unfold Q2 at h
 split at h
 ·split at h
  ·rename_i h1;simp only[Option.some.injEq,Prod.mk.injEq]at h;obtain⟨rfl,rfl,rfl⟩:=h;exact .move (AT h1 hE)
  ·cases h
 ·split at h
  ·rename_i h1;simp only[Option.some.injEq,Prod.mk.injEq]at h;obtain⟨rfl,rfl,rfl⟩:=h;exact .assign (AT h1 hE)
  ·cases h
 ·exact tK h hE
 ·split at h
  ·rename_i a b E1 h1
   split at h
   ·rename_i h2
    simp only[Option.some.injEq,Prod.mk.injEq]at h;obtain⟨rfl,rfl,rfl⟩:=h
    have h3:=LK h1 hE
    exact sZ h2 h3.1 h3.2 hp
   ·split at h
    ·rename_i h2
     simp only[Option.some.injEq,Prod.mk.injEq]at h;obtain⟨rfl,rfl,rfl⟩:=h
     have h3:=LK h1 hE
     exact tR hT h2 h3.1 h3.2
    ·cases h
  ·cases h
 ·split at h
  ·rename_i a E1 h1
   split at h
   ·split at h
    ·rename_i h2
     simp only[Option.some.injEq,Prod.mk.injEq]at h;obtain⟨rfl,rfl,rfl⟩:=h
     exact tW h2 (AT h1 hE)
    ·cases h
   ·split at h
    ·rename_i h2
     simp only[Option.some.injEq,Prod.mk.injEq]at h;obtain⟨rfl,rfl,rfl⟩:=h
     exact tX h2 (AT h1 hE) hp
    ·cases h
   ·cases h
  ·cases h
 ·split at h
  ·rename_i a E1 h1
   split at h
   ·rename_i h2
    simp only[Option.some.injEq,Prod.mk.injEq]at h;obtain⟨rfl,rfl,rfl⟩:=h
    exact tL hT h2 (AT h1 hE) hp
   ·cases h
  ·cases h
 ·exact tQ hT h hE hp
 ·split at h
  ·rename_i a E1 h1
   split at h
   ·rename_i h2
    simp only[Option.some.injEq,Prod.mk.injEq]at h;obtain⟨rfl,rfl,rfl⟩:=h
    exact tO hT h2 (AT h1 hE)
   ·cases h
  ·cases h
 ·split at h
  ·rename_i a E1 h1
   split at h
   ·rename_i h2
    simp only[Option.some.injEq,Prod.mk.injEq]at h;obtain⟨rfl,rfl,rfl⟩:=h
    exact tP hT h2 (AT h1 hE)
   ·cases h
  ·cases h
 ·split at h
  ·rename_i a b E1 h1
   split at h
   ·rename_i h2
    simp only[Option.some.injEq,Prod.mk.injEq]at h;obtain⟨rfl,rfl,rfl⟩:=h
    have h3:=LK h1 hE.app.1
    exact tN hT hF hS h2 hE.app.2 h3.1 h3.2 hp
   ·cases h
  ·cases h
 ·split at h
  ·rename_i a b E1 h1
   split at h
   ·rename_i h2
    simp only[Option.some.injEq,Prod.mk.injEq]at h;obtain⟨rfl,rfl,rfl⟩:=h
    have h3:=LK h1 hE
    exact tS hT h2 h3.1 h3.2 hp
   ·cases h
  ·cases h
 ·split at h
  ·rename_i a E1 h1
   split at h
   ·rename_i h2
    simp only[Option.some.injEq,Prod.mk.injEq]at h;obtain⟨rfl,rfl,rfl⟩:=h
    exact fZ hT hF hS hC h2 hE.app.2 (AT h1 hE.app.1) hp
   ·cases h
  ·cases h
 ·exact tU hT hF hS h hE
 ·split at h
  ·rename_i a E1 h1
   split at h
   ·rename_i h2
    simp only[Option.some.injEq,Prod.mk.injEq]at h;obtain⟨rfl,rfl,rfl⟩:=h
    exact tV h2 (AT h1 hE)
   ·cases h
  ·cases h
 ·split at h
  ·rename_i a E1 h1
   split at h
   ·rename_i h2
    simp only[Option.some.injEq,Prod.mk.injEq]at h;obtain⟨rfl,rfl,rfl⟩:=h
    exact tM hT hF hS h2 hE.app.2 (AT h1 hE.app.1)
   ·cases h
  ·cases h
 ·split at h
  ·rename_i a E1 h1
   split at h
   ·rename_i h2
    simp only[Option.some.injEq,Prod.mk.injEq]at h;obtain⟨rfl,rfl,rfl⟩:=h
    have h3:=AT h1 hE
    cases a<;>first|exact PV.I2 h3|cases h2
   ·cases h
  ·cases h
 ·cases h
end
def S5(P:Program)(t:TypeId):Option Bool:=
 match P.underlying t with
 |some (.struct _)=>some true
 |some (.array _ _)=>some true
 |some _=>some false
 |none=>none
def Q4(P:Program)(t:TypeId):Option Nat:=
 match P.info? t with
 |some i=>some i.size
 |none=>none
def tY:Bool->Bool->Bool
 |true,true=>true
 |false,false=>true
 |_,_=>false
def S6(x:Option Nat)(n:Nat):Bool:=match x with|some m=>Nat.beq m n|none=>false
def V5(x:Option Bool)(n:Bool):Bool:=match x with|some m=>tY m n|none=>false
theorem V6{x:Option Nat}{n:Nat}(h:S6 x n=true):x=some n:=by
 unfold S6 at h;split at h
 ·rw[Nat.eq_of_beq_eq_true h]
 ·cases h
theorem gB{x:Option Bool}{n:Bool}(h:V5 x n=true):x=some n:=by
 unfold V5 at h;split at h
 ·rename_i m;cases m<;>cases n<;>first|rfl|cases h
 ·cases h
def KM(P:Program)(sz:Nat):List Field->List (Nat×Nat×Bool)->Bool
 |f::fl,(off,n,g)::fs=>Nat.beq f.offset off&&S6 (Q4 P f.type) n&&V5 (S5 P f.type) g&&Nat.blt 0 n&&Nat.ble (off+n) sz&&KM P sz fl fs
 |[],[]=>true
 |_,_=>false
def YV:Value->Value->Bool
 | .bool false,.bool false=>true
 | .int k a,.int k' b=>match S2 k k',a,b with
  |true,.ofNat 0,.ofNat 0=>true
  |_,_,_=>false
 | .string ⟨⟨[]⟩⟩,.string ⟨⟨[]⟩⟩=>true
 | .slice none 0 0,.slice none 0 0=>true
 | .pointer none,.pointer none=>true
 | .map none,.map none=>true
 | .nilFunc,.nilFunc=>true
 | .nilIface,.nilIface=>true
 |_,_=>false
theorem tZ{a b:Value}(h:YV a b=true):a=b:=by
 unfold YV at h
 split at h<;>first|rfl|(cases h)|skip
 split at h
 ·rename_i hk;rw[V1 hk]
 ·cases h
def Q5:List Value->List Value->Bool
 |[],[]=>true
 |a::x,b::y=>YV a b&&Q5 x y
 |_,_=>false
theorem gC: ∀ {x y:List Value},Q5 x y=true->x=y
 |[],[],_=>rfl
 |a::x,b::y,h=>by simp only[Q5,Bool.and_eq_true]at h;rw[tZ h.1,gC h.2]
 |[],_::_,h=>by simp[Q5]at h
 |_::_,[],h=>by simp[Q5]at h
def YW(P:Program)(t:TypeId)(zs:List Value):Bool:=
 match P.info? t with
 |some i=>match i.zero with
  |some z=>Q5 z.cells.toList zs
  |none=>false
 |none=>false
def YX(P:Program)(t:TypeId)(d:TD):Bool:=
 S6 (Q4 P t) d.sz&&V5 (S5 P t) d.agg&&match d.k with
  | .str=>match P.underlying t with|some .string=>true|_=>false
  | .bool=>match P.underlying t with|some .bool=>true|_=>false
  | .int k=>match P.underlying t with|some (.int k')=>S2 k' k|_=>false
  | .row e esz=>match P.underlying t with|some (.slice e')=>Nat.beq e' e&&S6 (Q4 P e) esz|_=>false
  | .st fs zs=>match P.underlying t with|some (.struct fl)=>KM P d.sz fl.toList fs&&Nat.beq zs.length d.sz&&YW P t zs|_=>false
  | .any=>true
def YY(P:Program):TT->Bool
 |[]=>true
 |(t,d)::T=>YX P t d&&YY P T
theorem S7{P:Program}{t:TypeId}{n:Nat}(h:Q4 P t=some n)(w:World):(sizeOf t).run P w= .ok n w:=by
 unfold Q4 at h
 split at h
 ·rename_i i hi
  cases h
  simp[sizeOf,typeInfo,hi]
 ·cases h
theorem YZ{P:Program}{t:TypeId}{g:Bool}(h:S5 P t=some g)(w:World):(isAgg t).run P w= .ok g w:=by
 unfold S5 at h
 split at h
 ·rename_i hu;cases h;simp[isAgg,run_underlying hu]
 ·rename_i hu;cases h;simp[isAgg,run_underlying hu]
 ·rename_i d h1 h2 hu
  cases h
  simp only[isAgg,Sem.run_bind,run_underlying hu,Result.andThen_ok]
  cases d<;>first|rfl|(exact absurd rfl (h1 _))|(exact absurd rfl (h2 _ _))
 ·cases h
theorem gD{P:Program}{sz:Nat}: ∀ {fl:List Field} {fs:List (Nat×Nat×Bool)},KM P sz fl fs=true-> ∀(i off n:Nat) (g:Bool),fs[i]? =some (off,n,g)-> ∃f:Field,fl[i]? =some f/\f.offset=off/\Q4 P f.type=some n/\S5 P f.type=some g/\0<n/\off+n<=sz
 |[],[],_,i,off,n,g,hi=>by simp at hi
 |f::fl,(off',n',g')::fs,h,i,off,n,g,hi=>by
  simp only[KM,Bool.and_eq_true]at h
  obtain⟨⟨⟨⟨⟨h1,h2⟩,h3⟩,h4⟩,h5⟩,h6⟩:=h
  cases i with
  |zero=>
   simp only[List.getElem?_cons_zero,Option.some.injEq,Prod.mk.injEq]at hi
   obtain⟨rfl,rfl,rfl⟩:=hi
   exact⟨f,rfl,Nat.eq_of_beq_eq_true h1,V6 h2,gB h3,by simpa[Nat.blt_eq]using h4,Nat.le_of_ble_eq_true h5⟩
  |succ i=>
   simp only[List.getElem?_cons_succ]at hi ⊢
   exact gD h6 i off n g hi
 |[],_::_,h,_,_,_,_,_=>by simp[KM]at h
 |_::_,[],h,_,_,_,_,_=>by simp[KM]at h
theorem gE{P:Program}{sz:Nat}(w:World): ∀ {fl:List Field} {fs:List (Nat×Nat×Bool)},KM P sz fl fs=true->(fl.mapM λ f=>(do pure (f.offset,<-sizeOf f.type):Sem (Nat×Nat))).run P w= .ok (fs.map λ x=>(x.1,x.2.1)) w
 |[],[],_=>rfl
 |f::fl,(off',n',g')::fs,h=>by
  simp only[KM,Bool.and_eq_true]at h
  obtain⟨⟨⟨⟨⟨h1,h2⟩,h3⟩,h4⟩,h5⟩,h6⟩:=h
  have ih:=gE w h6
  have:=Nat.eq_of_beq_eq_true h1;subst this
  simp only[List.mapM_cons,Sem.run_bind,S7 (V6 h2),Result.andThen_ok,Sem.run_pure,ih,List.map_cons]
 |[],_::_,h=>by simp[KM]at h
 |_::_,[],h=>by simp[KM]at h
theorem gF: ∀(vs:List Value) (j off:Nat) (cs:Array Value),off+j+vs.length<=cs.size->((vs.zipIdx j).foldl (λ cs x=>cs.setIfInBounds (off+x.2) x.1) cs).toList=cs.toList.take (off+j)++vs++cs.toList.drop (off+j+vs.length)
 |[],j,off,cs,_=>by simp
 |v::vs,j,off,cs,h=>by
  rw[List.zipIdx_cons,List.foldl_cons,gF vs (j+1) off _ (by simp at h ⊢;omega)]
  simp only[List.length_cons]at h ⊢
  have hl:off+j<cs.toList.length:=by simp;omega
  have hA:(cs.toList.take (off+j)).length=off+j:=by simp;omega
  simp only[Array.toList_setIfInBounds]
  rw[List.set_eq_take_append_cons_drop,if_pos hl]
  have t1:((cs.toList.take (off+j))++v::cs.toList.drop (off+j+1)).take (off+(j+1))=cs.toList.take (off+j)++[v]:=by
   rw[List.take_append,hA,List.take_of_length_le (by omega),show off+(j+1)-(off+j)=1 by omega];rfl
  have t2:((cs.toList.take (off+j))++v::cs.toList.drop (off+j+1)).drop (off+(j+1)+vs.length)=cs.toList.drop (off+j+(vs.length+1)):=by
   rw[List.drop_append,hA,List.drop_of_length_le (by omega),show off+(j+1)+vs.length-(off+j)=vs.length+1 by omega,List.drop_succ_cons,List.drop_drop,List.nil_append]
   congr 1;omega
  rw[t1,t2];simp
theorem gG{fs:List (Nat×Nat×Bool)}: ∀ {ps:List (Nat×Value)} {cs r:List Value},LI fs cs ps=some r->Instr.fill ((fs.map λ x=>(x.1,x.2.1)).toArray[·]?) cs.toArray ps=some r.toArray
 |[],cs,r,h=>by simp only[LI,Option.some.injEq]at h;subst h;rfl
 |(i,v)::ps,cs,r,h=>by
  unfold LI at h
  split at h
  ·rename_i off n g hi
   split at h
   ·rename_i hc
    have ih:=gG h
    unfold Instr.fill
    have hp:(fs.map λ x=>(x.1,x.2.1)).toArray[i]? =some (off,n):=by simp[hi]
    have hsz:v.cells.size=n:=by rw[<-hc.1];simp
    simp only[hp,hsz,ne_eq,not_true_eq_false,decide_false,Bool.false_or,List.size_toArray]
    have hcond:(decide (n≠n)||decide (off+n>cs.length))=true↔False:=by simp;omega
    have e:(v.cells.zipIdx.foldl (λ cs x=>cs.setIfInBounds (off+x.2) x.1) cs.toArray)=(G0 cs off v.cells.toList).toArray:=by
     have:=gF v.cells.toList 0 off cs.toArray (by rw[hc.1];simp;omega)
     apply Array.ext'
     rw[<-Array.foldl_toList,Array.toList_zipIdx,this]
     simp[G0]
    have hle: ¬off+n>cs.length:=by omega
    simp only[hle,if_false]
    rw[<-ih,<-e]
    simp
   ·cases h
  ·cases h
theorem u3{P:Program}{t:TypeId}{fl:Array Field}{fs:List (Nat×Nat×Bool)}{zs:List Value}{sz:Nat}(hu:P.underlying t=some (.struct fl))(h:KM P sz fl.toList fs=true)(hzl:zs.length=sz)(hz:YW P t zs=true)(ps:List (Nat×Value))(cs:List Value)(w:World)(hf:LI fs zs ps=some cs):
  (Instr.build t ps.toArray).run P w= .ok (.agg cs.toArray) w:=by
 unfold YW at hz
 split at hz
 ·rename_i i hi
  split at hz
  ·rename_i z hz2
   have hzc:=gC hz
   have hzv:(zeroValue t).run P w= .ok z w:=by simp[zeroValue,typeInfo,hi,hz2]
   have hm:(fl.mapM λ f=>(do pure (f.offset,<-sizeOf f.type):Sem (Nat×Nat))).run P w= .ok (fs.map λ x=>(x.1,x.2.1)).toArray w:=by
    have:=gE w h
    rw[Array.mapM_eq_mapM_toList]
    refine(Sem.run_bind' P _ _ w).trans ?_
    rw[this];rfl
   have hcells:z.cells=zs.toArray:=by rw[<-hzc]
   have hfill:=gG hf
   simp only[Instr.build,Sem.run_bind,hzv,Result.andThen_ok,run_underlying hu,hm,hcells,hfill,Sem.run_pure]
  ·cases hz
 ·cases hz
theorem u4{P:Program}{t:TypeId}{d:TD}(h:YX P t d=true):d.ok P t:=by
 simp only[YX,Bool.and_eq_true]at h
 obtain⟨⟨h1,h2⟩,h3⟩:=h
 refine⟨YZ (gB h2),S7 (V6 h1),?_⟩
 cases hk:d.k with
 |str=>rw[hk]at h3;simp only at h3;split at h3<;>first|assumption|cases h3
 |bool=>rw[hk]at h3;simp only at h3;split at h3<;>first|assumption|cases h3
 |int k=>
  rw[hk]at h3;simp only at h3
  split at h3
  ·rename_i k' hu;have:=V1 h3;subst this;exact hu
  ·cases h3
 |row e esz=>
  rw[hk]at h3;simp only at h3
  split at h3
  ·rename_i e' hu
   simp only[Bool.and_eq_true]at h3
   have:=Nat.eq_of_beq_eq_true h3.1;subst this
   exact⟨hu,S7 (V6 h3.2)⟩
  ·cases h3
 |st fs zs=>
  rw[hk]at h3;simp only at h3
  split at h3
  ·rename_i fl hu
   simp only[Bool.and_eq_true]at h3
   obtain⟨⟨h3,hzl⟩,hz⟩:=h3
   refine⟨u3 hu h3 (Nat.eq_of_beq_eq_true hzl) hz,?_⟩
   intro i off n g hi
   obtain⟨f,hf,rfl,hs,ha,h0,hle⟩:=gD h3 i off n g hi
   have hf':fl[i]? =some f:=by simpa using hf
   refine⟨λ b o w=>?_,λ cs w hl=>⟨hle,?_⟩⟩
   ·have hn:n≠0:=by omega
    simp[Instr.fieldAt,run_underlying hu,hf',Instr.sureAddr,fieldPlace,S7 hs,hn,GU]
   ·cases g with
    |true=>simp[Instr.field,run_underlying hu,hf',asAgg,part,YZ ha,S7 hs]
    |false=>
     have hlt:f.offset<cs.length:=by omega
     simp[Instr.field,run_underlying hu,hf',asAgg,part,YZ ha,hlt]
  ·cases h3
 |any=>trivial
theorem gH{P:Program}: ∀ {T:TT},YY P T=true->EN P T
 |[],_=>λ t td h=>by cases h
 |(t,d)::T,h=>by
  simp only[YY,Bool.and_eq_true]at h
  intro t' td ht
  unfold HP at ht
  split at ht
  ·rename_i e;cases ht;have:=Nat.eq_of_beq_eq_true e;subst this;exact u4 h.1
  ·exact gH h.2 t' td ht
end Go.Eng
