/-
  Parts Mark L1 L2 L3 Trim, put together and made short by wip/py/merge.py (mini.py).
-/
import Derived.Test.YtmjpjbmeamnfpaaGreatDoorZd4
import Derived.Test.YtmjpjbmeamnfpaaGreatDoorZd13
import Derived.Laws.BitsLemmas
import Derived.Test.YtmjpjbmeamnfpaaGreatDoorZd3
import Derived.Test.YtmjpjbmeamnfpaaGreatDoorProg
import Derived.Test.YtmjpjbmeamnfpaaGreatDoorZd9
import Derived.Test.YtmjpjbmeamnfpaaGreatDoorZd10
import Derived.Shelf.GgClosure.StringsTrimFunc
import Derived.Test.YtmjpjbmeamnfpaaGreatDoorZd0
set_option linter.unusedVariables false
set_option linter.unusedSimpArgs false
namespace Go.Eng
open Go.RowKit
def marksOf(c:Int):List A1:=AB.filter (λ m=>A2 m 0==c)
def K0(M:Mem)(l:List KV):Prop:= ∀c:Int,∃v,(B5 l c).getD (.slice none 0 0)=v/\Sl M 1 (marksOf c).length v ((marksOf c).flatMap AS)
abbrev MG:=List (KV×List A1)
def dB(e:TypeId)(p:KV×List A1):HO:=.own e 1 p.1.val p.2.length (p.2.flatMap AS)
def IJ(e:TypeId)(G:MG):List HO:=G.map (dB e)
def rowOf:MG->Int->List A1
 |[],_=>[]
 |p::G,c=>if c=p.1.key then p.2 else rowOf G c
def L0(k:Int)(G:MG):Prop:= ∀c,rowOf G c=(Eng.sub AB 0 k).filter (λ m=>A2 m 0==c)
theorem L0.start:L0 0 []:=λ _=>rfl
def WQ(e:TypeId)(G:MG)(c:Int)(v:Value)(xs:List A1)(R:List HO):Prop:=
 (∃G1 p G2,G=G1++p::G2/\p.1.key=c/\(∀q∈G1,q.1.key≠c)/\v=p.1.val/\xs=p.2/\R=IJ e (G1++G2))\/
 ((∀q∈G,q.1.key≠c)/\v= .slice none 0 0/\xs=[]/\R=IJ e G)
theorem WR(c:Int): ∀G:MG,(∃G1 p G2,G=G1++p::G2/\p.1.key=c/\(∀q∈G1,q.1.key≠c))\/(∀q∈G,q.1.key≠c)
 |[]=>.inr λ _ h=>by cases h
 |p::G=>by
  by_cases h:p.1.key=c
  ·exact .inl ⟨[],p,G,rfl,h,λ _ h=>by cases h⟩
  ·rcases WR c G with⟨G1,q,G2,h1,h2,h3⟩|h1
   ·refine .inl ⟨p::G1,q,G2,by rw[h1];rfl,h2,λ r hr=>?_⟩
    rcases List.mem_cons.1 hr with rfl|hr
    ·exact h
    ·exact h3 r hr
   ·refine .inr λ r hr=>?_
    rcases List.mem_cons.1 hr with rfl|hr
    ·exact h
    ·exact h1 r hr
theorem WS{c:Int}: ∀(G1:MG) (p:KV×List A1) (G2:MG),p.1.key=c->(∀q∈G1,q.1.key≠c)->B5 ((G1++p::G2).map Prod.fst) c=some p.1.val
 |[],p,G2,h,_=>by simp[B5,h]
 |q::G1,p,G2,h,h2=>by
  have: ¬c=q.1.key:=λ e=>h2 q (by simp) e.symm
  simp only[List.cons_append,List.map_cons,B5,beq_iff_eq,this,if_false]
  exact WS G1 p G2 h (λ r hr=>h2 r (by simp[hr]))
theorem WT{c:Int}: ∀G:MG,(∀q∈G,q.1.key≠c)->B5 (G.map Prod.fst) c=none
 |[],_=>rfl
 |q::G,h=>by
  have: ¬c=q.1.key:=λ e=>h q (by simp) e.symm
  simp only[List.map_cons,B5,beq_iff_eq,this,if_false]
  exact WT G (λ r hr=>h r (by simp[hr]))
theorem dC{c:Int}(v:Value): ∀(G1:MG) (p:KV×List A1) (G2:MG),p.1.key=c->(∀q∈G1,q.1.key≠c)->FU ((G1++p::G2).map Prod.fst) c v=some ((G1.map Prod.fst)++⟨c,v,p.1.born⟩::G2.map Prod.fst)
 |[],p,G2,h,_=>by simp[FU,h]
 |q::G1,p,G2,h,h2=>by
  have: ¬c=q.1.key:=λ e=>h2 q (by simp) e.symm
  simp only[List.cons_append,List.map_cons,FU,beq_iff_eq,this,if_false]
  have ih:=dC v G1 p G2 h (λ r hr=>h2 r (by simp[hr]))
  rw[ih];rfl
theorem dD{c:Int}(v:Value): ∀G:MG,(∀q∈G,q.1.key≠c)->FU (G.map Prod.fst) c v=none
 |[],_=>rfl
 |q::G,h=>by
  have: ¬c=q.1.key:=λ e=>h q (by simp) e.symm
  simp only[List.map_cons,FU,beq_iff_eq,this,if_false]
  rw[dD v G (λ r hr=>h r (by simp[hr]))];rfl
theorem NZ{c:Int}: ∀(G1:MG) (p:KV×List A1) (G2:MG),(∀q∈G1,q.1.key≠p.1.key)->rowOf (G1++p::G2) c=if c=p.1.key then p.2 else rowOf (G1++G2) c
 |[],p,G2,_=>rfl
 |q::G1,p,G2,h=>by
  have ih:=NZ (c:=c) G1 p G2 (λ r hr=>h r (by simp[hr]))
  have hq:=h q (by simp)
  simp only[List.cons_append,rowOf]
  by_cases e:c=q.1.key
  ·rw[if_pos e,if_neg (λ e2=>hq (by rw[<-e,e2])),if_pos e]
  ·rw[if_neg e,ih,if_neg e]
theorem qT{c:Int}: ∀(G:MG) (p:KV×List A1),(∀q∈G,q.1.key≠p.1.key)->rowOf (G++[p]) c=if c=p.1.key then p.2 else rowOf G c:=by
 intro G p h
 have:=NZ (c:=c) G p [] h
 rw[List.append_nil]at this;exact this
theorem WU{c:Int}: ∀G:MG,(∀q∈G,q.1.key≠c)->rowOf G c=[]
 |[],_=>rfl
 |q::G,h=>by
  rw[rowOf,if_neg (λ e=>h q (by simp) e.symm)]
  exact WU G (λ r hr=>h r (by simp[hr]))
theorem qU{e:TypeId}{G:MG}{c k:Int}{v:Value}{xs:List A1}{R:List HO}(h:WQ e G c v xs R)(hG:L0 k G)(h0:0<=k):len xs<=17:=by
 rcases h with⟨G1,p,G2,rfl,h2,h3,rfl,rfl,rfl⟩|⟨_,_,rfl,_⟩
 ·have:=hG c
  rw[NZ G1 p G2 (by rw[h2];exact h3),if_pos h2.symm]at this
  rw[this]
  have h4:=List.length_filter_le (λ m=>A2 m 0==c) (Eng.sub AB 0 k)
  have h5:=(P3 AB 0 k).2
  have h6:len AB=17:=rfl
  unfold len at*;omega
 ·decide
section
variable {w0 w:World} {M0 M:Mem} {A B C:HO} {e:TypeId} {Rs:List HO}
theorem qV{G:MG}(c:Int)(hS:St w0 M0 w M (A::B::C::(IJ e G++Rs))): ∃v xs R,WQ e G c v xs R/\(B5 (G.map Prod.fst) c).getD (.slice none 0 0)=v/\St w0 M0 w M (A::B::C:: .own e 1 v xs.length (xs.flatMap AS)::(R++Rs)):=by
 rcases WR c G with⟨G1,p,G2,h1,h2,h3⟩|h1
 ·refine⟨_,_,_,.inl ⟨G1,p,G2,h1,h2,h3,rfl,rfl,rfl⟩,by rw[h1,WS G1 p G2 h2 h3];rfl,?_⟩
  refine hS.perm ?_
  refine .cons _ (.cons _ (.cons _ ?_))
  subst h1
  unfold IJ
  rw[List.map_append,List.map_append,List.map_cons,List.append_assoc,List.append_assoc,List.cons_append]
  exact List.perm_middle.symm
 ·refine⟨_,_,_,.inr ⟨h1,rfl,rfl,rfl⟩,by rw[WT G h1];rfl,?_⟩
  have:=hS.I1 e 1
  refine this.perm ?_
  exact List.perm_middle (l₁:=[A,B,C])
theorem qW{G:MG}{c:Int}{v:Value}{xs:List A1}{R:List HO}(clk:Nat)(h:WQ e G c v xs R)(x:A1)(v':Value): ∃G',E8 (G.map Prod.fst) clk c v'=G'.map Prod.fst/\
  (∀ {w:World} {M:Mem},St w0 M0 w M (A::B::C:: .own e 1 v' (xs++[x]).length ((xs++[x]).flatMap AS)::(R++Rs))->St w0 M0 w M (A::B::C::(IJ e G'++Rs)))/\
  ∀ {k:Int},0<=k->k<17->x=at' AB k->c=A2 x 0->L0 k G->L0 (k+1) G':=by
 have hf: ∀ {k:Int},0<=k->k<17->x=at' AB k-> ∀c',(Eng.sub AB 0 (k+1)).filter (λ m=>A2 m 0==c')=(Eng.sub AB 0 k).filter (λ m=>A2 m 0==c')++if A2 x 0=c' then [x]else []:=by
  intro k h0 h1 hx c'
  rw[sub_succ AB k h0 h1,List.filter_append,show AB.getD k.toNat default=x from hx.symm]
  congr 1
  by_cases e:A2 x 0=c'<;>simp[e]
 rcases h with⟨G1,p,G2,rfl,h2,h3,rfl,rfl,rfl⟩|⟨h1,rfl,rfl,rfl⟩
 ·refine⟨G1++(⟨c,v',p.1.born⟩,p.2++[x])::G2,?_,λ hS=>?_,λ h0 hk hx hc hG c'=>?_⟩
  ·unfold E8;rw[dC v' G1 p G2 h2 h3];simp
  ·refine hS.perm (.cons _ (.cons _ (.cons _ ?_)))
   unfold IJ
   rw[List.map_append,List.map_append,List.map_cons,List.append_assoc,List.append_assoc,List.cons_append]
   exact List.perm_middle
  ·have:=hG c'
   rw[NZ G1 p G2 (by rw[h2];exact h3)]at this
   rw[NZ G1 (⟨c,v',p.1.born⟩,p.2++[x]) G2 h3,hf h0 hk hx,<-this,h2]
   dsimp only
   rw[<-hc]
   by_cases e:c'=c
   ·rw[if_pos e,if_pos e,if_pos e.symm]
   ·rw[if_neg e,if_neg e,if_neg (λ e2=>e e2.symm),List.append_nil]
 ·refine⟨G++[(⟨c,v',clk⟩,[x])],?_,λ hS=>?_,λ h0 hk hx hc hG c'=>?_⟩
  ·unfold E8;rw[dD v' G h1];simp
  ·refine hS.perm (.cons _ (.cons _ (.cons _ ?_)))
   unfold IJ
   rw[List.map_append,List.append_assoc]
   exact List.perm_middle
  ·have:=hG c'
   rw[qT G _ h1,hf h0 hk hx,<-this]
   dsimp only
   rw[<-hc]
   by_cases e:c'=c
   ·rw[if_pos e,if_pos e.symm,e,WU G h1];rfl
   ·rw[if_neg e,if_neg (λ e2=>e e2.symm),List.append_nil]
theorem qX{G:MG}(hS:St w0 M0 w M (A::B::C::(IJ e G++Rs)))(hG:L0 17 G):K0 M (G.map Prod.fst)/\St w0 M0 w M (A::B::C::Rs):=by
 refine⟨λ c=>?_,hS.drop _ (.cons_cons _ (.cons_cons _ (.cons_cons _ (List.sublist_append_right _ _))))⟩
 have hc:=hG c
 rw[KD AB 17 (Int.le_refl _)]at hc
 have hm:marksOf c=rowOf G c:=hc.symm
 rw[hm]
 rcases WR c G with⟨G1,p,G2,h1,h2,h3⟩|h1
 ·refine⟨_,by rw[h1,WS G1 p G2 h2 h3],?_⟩
  rw[h1,NZ G1 p G2 (by rw[h2];exact h3),if_pos h2.symm]
  have hmem:dB e p∈(A::B::C::(IJ e G++Rs)):=by
   rw[h1];unfold IJ;simp
  obtain⟨i,hi⟩:=List.getElem?_of_mem hmem
  exact hS.sl (i:=i) hi
 ·refine⟨_,by rw[WT G h1],?_⟩
  rw[WU G h1];exact Sl.nil _ 1
end
theorem find_congr{α:Type}{p q:α->Bool}: ∀ {l:List α},(∀x∈l,p x=q x)->l.find? p=l.find? q
 |[],_=>rfl
 |a::l,h=>by
  rw[List.find?_cons,List.find?_cons,h a (by simp),find_congr (λ x hx=>h x (by simp[hx]))]
theorem qY{m:A1}(hm:m∈AB): ¬m=[]:=by
 simp only[AB,List.mem_cons,List.not_mem_nil,or_false]at hm
 rcases hm with rfl|rfl|rfl|rfl|rfl|rfl|rfl|rfl|rfl|rfl|rfl|rfl|rfl|rfl|rfl|rfl|rfl<;>simp
theorem qZ{s m:A1}(h:Lib.hasPrefix s m=true)(hm: ¬m=[]):A2 m 0=A2 s 0:=by
 cases m with
 |nil=>exact absurd U hm
 |cons a m=>
  cases s with
  |nil=>simp[Lib.hasPrefix]at h
  |cons b s=>
   simp only[Lib.hasPrefix,List.isPrefixOf,Bool.and_eq_true,beq_iff_eq]at h
   rw[h.1];rfl
theorem dF(s:A1):C3 s=((marksOf (A2 s 0)).find? (λ m=>Lib.hasPrefix s m)).getD []:=by
 unfold C3 marksOf
 rw[List.find?_filter]
 congr 1
 refine find_congr λ m hm=>?_
 cases hp:Lib.hasPrefix s m with
 |false=>simp
 |true=>simp[qZ hp (qY hm)]
def IK(s:A1)(L:List A1)(k:Int):Prop:=(Eng.sub L 0 k).find? (λ m=>Lib.hasPrefix s m)=none
theorem IK.step {s:A1}{L:List A1}{k:Int}(h:IK s L k)(h0:0<=k)(h1:k<len L)(h2:Lib.hasPrefix s (at' L k)=false):IK s L (k+1):=by
 unfold IK at*
 rw[sub_succ L k h0 h1,List.find?_append,h,Option.none_or,List.find?_cons,show L.getD k.toNat default=at' L k from rfl,h2];rfl
theorem IK.found {s:A1}{L:List A1}{k:Int}(h:IK s L k)(h0:0<=k)(h1:k<len L)(h2:Lib.hasPrefix s (at' L k)=true):(L.find? (λ m=>Lib.hasPrefix s m)).getD []=at' L k:=by
 unfold IK at h
 have e:L=Eng.sub L 0 k++A3 L k:=cU L 0 k (Int.le_refl _) h0
 have hk:k.toNat<L.length:=by unfold len at h1;omega
 have e2:A3 L k=at' L k::A3 L (k+1):=by
  unfold A3 at'
  rw[show(k+1).toNat=k.toNat+1 from by omega,List.drop_eq_getElem_cons hk]
  simp[hk]
 have e3:L.find? (λ m=>Lib.hasPrefix s m)=some (at' L k):=by
  conv=>lhs;rw[e]
  rw[List.find?_append,h,e2,List.find?_cons,h2];rfl
 rw[e3];rfl
theorem IK.SP {s:A1}{L:List A1}{k:Int}(h:IK s L k)(hk:len L<=k):(L.find? (λ m=>Lib.hasPrefix s m)).getD []=[]:=by
 unfold IK at h
 rw[KD L k hk]at h;rw[h];rfl
end Go.Eng
set_option maxRecDepth 100000
namespace Go.Proofs.YtmjpjbmeamnfpaaGreatDoor
open Go.Eng
theorem dG:Lib.fields [61,61,32,33,61,32,60,61,32,62,61,32,46,32,124,32,44,32,58,32,40,32,41,32,91,32,93,32,123,32,125,32,60,32,62,32,63]=AB:=by decide+kernel
theorem r0(M:Mem)(w:World)(hM:Sat w M)(hg:Gl w):Calls Tryz.prog 115 [str [61,61,32,33,61,32,60,61,32,62,61,32,46,32,124,32,44,32,58,32,40,32,41,32,91,32,93,32,123,32,125,32,60,32,62,32,63]].toArray w λ e w'=> ∃v M',e= .returned v/\Sl M' 1 AB.length v (AB.flatMap AS)/\Grow w M w' M':=by
 have:=lM M [61,61,32,33,61,32,60,61,32,62,61,32,46,32,124,32,44,32,58,32,40,32,41,32,91,32,93,32,123,32,125,32,60,32,62,32,63] w hM hg (by decide) (lL (by decide)) (by rw[dG];decide)
 rw[dG]at this
 exact this
theorem r7{w wv:World}{M0 M:Mem}{Rs:List HO}(pb b:Nat)(hS:St w M0 wv M (.box pb [(.pointer (some ⟨b,0,none⟩))] 131:: .box b [(.int .u32 0),(.int .i32 1),(.int .u32 0),(.map none)] 104::Rs))(hg:Gl w):
  Calls Tryz.prog 114 [(.pointer (some ⟨pb,0,none⟩))].toArray wv λ e w'=> ∃v,e= .returned v/\ ∃mb l c M',v= .tuple #[]/\K0 M' l/\St w M0 w' M' (.raw mb (AD .u8 l c):: .box pb [.pointer (some ⟨b,0,none⟩)] 131:: .box b [.int .u32 0,.int .i32 1,.int .u32 0,.map (some mb)] 104::Rs)/\M.le M':=by
 refine CW.BV Tryz.func114 U Tryz.ntmps114 (Nat.le_of_ble_eq_true U) λ Q hE=>?_
 have hm17:len AB=17:=rfl
 refine CW.weaken [0] (L':=[Y 0 (.pointer (some ⟨pb,0,none⟩))]) ?_ U
 refine CW.sr (RL.u (.CY (v:=(.pointer (some ⟨b,0,none⟩))) hS B8 (i:=0) U (.t U) Tryz.isAgg131 U) U ?_)
 refine RL.makeMap .u8 hS U (λ w1 b2 hS3=>?_)
 replace hS3:St w M0 w1 M (.raw b2 (AD .u8 [] 0):: .box pb [(.pointer (some ⟨b,0,none⟩))] 131:: .box b [(.int .u32 0),(.int .i32 1),(.int .u32 0),(.map none)] 104::Rs):=hS3
 refine RL.u (.GC (.t U)) U (RL.u (.FF (q:=⟨b,3,none⟩) (.t U) (λ w=>by kernel_rfl)) U ?_)
 refine RL.st hS3 (i:=2) U (.t U) (.t U) Tryz.sizeOf102 U U U U U (λ w4 hS5=>(RL.nil (CW.id ?_)))
 refine CW.sr ?_
 refine RL.k0 hS5 Tryz.call115 (.cons .c .nil) ((r0 M _ hS5.sat (hg.low hS5.low))) U ?_
 rintro v6 w7 M8 hS9 hle10 hsl_v6
 refine RL.u (.MP hsl_v6 (.t U) ⟨_,Tryz.underlying32⟩) U (RL.u (.move .c) U ?_)
 refine RL.nil (CW.at [Y 0 (.pointer (some ⟨pb,0,none⟩)),Y 7 v6,Y 8 (i64 (len AB)),Y 9 (i64 0)] U (CW.block ?_))
 refine CW.loop (σ:=Int×MG×Nat×Mem) (λ(k,G,clk,Ml)=>[Y 0 (.pointer (some ⟨pb,0,none⟩)),Y 7 v6,Y 8 (i64 (len AB)),Y 9 (i64 k)]) (λ(k,G,clk,Ml) wl=>St w M0 wl Ml (.raw b2 (AD .u8 (G.map Prod.fst) clk):: .box pb [(.pointer (some ⟨b,0,none⟩))] 131:: .box b [(.int .u32 0),(.int .i32 1),(.int .u32 0),(.map (some b2))] 104::(IJ 9 G++Rs))/\Sl Ml 1 AB.length v6 (AB.flatMap AS)/\0<=k/\k<=17/\L0 k G/\M.le Ml) (λ(k,G,clk,Ml)=>(17-k).toNat) ((0,[],0,M8)) [0,7,8,9] U ?_ ?_
 ·refine⟨hS9,hsl_v6,?_⟩;exact⟨by omega,by omega,L0.start,hle10⟩
 ·rintro⟨k,G,clk,Ml⟩ wl ⟨hS12,hsl_v6,h0,h1,hG,hMl⟩
  have hml:=λ h=>qQ h0 (k:=k) h
  refine CW.sr (RL.u (.lss (.t U) (.t U)) U (RL.nil (CW.id (CW.seq ?_))))
  refine CW.cond rfl ?_ ?_<;>intro hb1<;>try simp only[zb]at hb1
  ·refine CW.skip (CW.id (CW.seq (CW.block (CW.sr ?_))))
   refine RL.u (.QT hsl_v6 (.t U) (.t U) Tryz.underlying32 Tryz.sizeOf9 (λ _=>by first|omega)) U (RL.u (.QP (f:=AS) (i:=k) (j:=0) (u:=(str (at' AB k))) hS12 B8 hsl_v6 DC (.t U) Tryz.isAgg9 (λ _=>by first|omega) U U) U (RL.a U U (RL.nil (CW.id ?_))))
   obtain⟨vx13,xs14,R15,hO16,hget17,hS18⟩:=qV (A2 (at' AB k) 0) hS12
   replace hS18:St w M0 wl Ml (.raw b2 (AD .u8 (G.map Prod.fst) clk):: .box pb [(.pointer (some ⟨b,0,none⟩))] 131:: .box b [(.int .u32 0),(.int .i32 1),(.int .u32 0),(.map (some b2))] 104:: .own 9 1 vx13 xs14.length (xs14.flatMap AS)::(R15++Rs)):=hS18
   have hxl:=qU hO16 hG h0
   refine CW.weaken [0,2,7,8,9] (L':=[Y 0 (.pointer (some ⟨pb,0,none⟩)),Y 2 (str (at' AB k)),Y 7 v6,Y 8 (i64 (len AB)),Y 9 (i64 k)]) ?_ U
   replace hS18:St w M0 wl Ml (.box pb [(.pointer (some ⟨b,0,none⟩))] 131:: .box b [(.int .u32 0),(.int .i32 1),(.int .u32 0),(.map (some b2))] 104:: .raw b2 (AD .u8 (G.map Prod.fst) clk):: .own 9 1 vx13 xs14.length (xs14.flatMap AS)::(R15++Rs)):=(hS18.front 2 U U).front 2 U U
   replace hS18:St w M0 wl Ml (.raw b2 (AD .u8 (G.map Prod.fst) clk):: .box pb [(.pointer (some ⟨b,0,none⟩))] 131:: .box b [(.int .u32 0),(.int .i32 1),(.int .u32 0),(.map (some b2))] 104:: .own 9 1 vx13 xs14.length (xs14.flatMap AS)::(R15++Rs)):=hS18.front 2 U U
   refine CW.l6 (HsQ:=[.raw b2 (AD .u8 (G.map Prod.fst) clk),.box pb [(.pointer (some ⟨b,0,none⟩))] 131,.box b [(.int .u32 0),(.int .i32 1),(.int .u32 0),(.map (some b2))] 104]) 16 [.is true (.pointer (some ⟨b,0,none⟩)),.is true (.pointer (some ⟨b,0,none⟩)),.is true (.pointer (some ⟨b,3,none⟩)),.is true (.map (some b2)),.is true (str (at' AB k)),.is true (.int .u8 (A2 (at' AB k) 0)),.is true (.pointer (some ⟨b,0,none⟩)),.is true (.pointer (some ⟨b,0,none⟩)),.is true (.pointer (some ⟨b,3,none⟩)),.is true (.map (some b2)),.is true (str (at' AB k)),.is true (.int .u8 (A2 (at' AB k) 0)),.is true vx13,.is true (str (at' AB k)),.any,.any,.any] [(27,.eq λ vz=>(.own 9 1 vz (([at' AB k]:List A1)).length ((([at' AB k]:List A1)).flatMap AS):: .own 9 1 vx13 xs14.length (xs14.flatMap AS)::(R15++Rs))),(28,.eq λ vz=>(.own 9 1 vz (xs14++[at' AB k]).length ((xs14++[at' AB k]).flatMap AS)::(R15++Rs)))] (.own 9 1 vx13 xs14.length (xs14.flatMap AS)::(R15++Rs)) [none,none,none,none,none,none,none,none,none,none,none,none,none,none,some 0,some 1] hS18 OF [0,2,7,8,9] U (by decide+kernel) (by decide+kernel) U U (by decide+kernel) (by decide+kernel) [27,28] U (by decide+kernel) (.cons ?_ (.cons ?_ (.cons ?_ (.cons ?_ (.cons ?_ (.cons ?_ (.cons ?_ (.cons ?_ (.cons ?_ (.cons ?_ (.cons ?_ (.cons ?_ (.cons ?_ (.cons ?_ (.cons ?_ (.cons ?_ (.cons ?_ (.nil))))))))))))))))))
   ·intro LL w19 M20 X hle22 hS21 hK hD
    replace hsl_v6:=hsl_v6.mono hle22
    replace hS21:St w M0 w19 M20 (.raw b2 (AD .u8 (G.map Prod.fst) clk):: .box pb [(.pointer (some ⟨b,0,none⟩))] 131:: .box b [(.int .u32 0),(.int .i32 1),(.int .u32 0),(.map (some b2))] 104::X):=hS21
    refine RL.u (.CY (v:=(.pointer (some ⟨b,0,none⟩))) hS21 B8 (i:=1) U (.t (hK _ _ U)) Tryz.isAgg131 U) U ?_
    exact RL.nil (RA.next λ a hs=>⟨_,_,Mem.le.refl _,hS21,hs,_,_,rfl,rfl,rfl⟩)
   ·intro LL w23 M24 X hle26 hS25 hK hD
    replace hsl_v6:=hsl_v6.mono hle26
    replace hS25:St w M0 w23 M24 (.raw b2 (AD .u8 (G.map Prod.fst) clk):: .box pb [(.pointer (some ⟨b,0,none⟩))] 131:: .box b [(.int .u32 0),(.int .i32 1),(.int .u32 0),(.map (some b2))] 104::X):=hS25
    obtain⟨g13,v13,hl13,rfl,rfl⟩:=hD 0 (by decide+kernel)
    refine RL.u (.GC (.t hl13)) U ?_
    exact RL.nil (RA.next λ a hs=>⟨_,_,Mem.le.refl _,hS25,hs,_,_,rfl,rfl,rfl⟩)
   ·intro LL w27 M28 X hle30 hS29 hK hD
    replace hsl_v6:=hsl_v6.mono hle30
    replace hS29:St w M0 w27 M28 (.raw b2 (AD .u8 (G.map Prod.fst) clk):: .box pb [(.pointer (some ⟨b,0,none⟩))] 131:: .box b [(.int .u32 0),(.int .i32 1),(.int .u32 0),(.map (some b2))] 104::X):=hS29
    obtain⟨g14,v14,hl14,rfl,rfl⟩:=hD 1 (by decide+kernel)
    refine RL.u (.FF (q:=⟨b,3,none⟩) (.t hl14) (λ w=>by kernel_rfl)) U ?_
    exact RL.nil (RA.next λ a hs=>⟨_,_,Mem.le.refl _,hS29,hs,_,_,rfl,rfl,rfl⟩)
   ·intro LL w31 M32 X hle34 hS33 hK hD
    replace hsl_v6:=hsl_v6.mono hle34
    replace hS33:St w M0 w31 M32 (.raw b2 (AD .u8 (G.map Prod.fst) clk):: .box pb [(.pointer (some ⟨b,0,none⟩))] 131:: .box b [(.int .u32 0),(.int .i32 1),(.int .u32 0),(.map (some b2))] 104::X):=hS33
    obtain⟨g15,v15,hl15,rfl,rfl⟩:=hD 2 (by decide+kernel)
    refine RL.u (.CY (v:=(.map (some b2))) hS33 B8 (i:=2) U (.t hl15) Tryz.isAgg102 U) U ?_
    exact RL.nil (RA.next λ a hs=>⟨_,_,Mem.le.refl _,hS33,hs,_,_,rfl,rfl,rfl⟩)
   ·intro LL w35 M36 X hle38 hS37 hK hD
    replace hsl_v6:=hsl_v6.mono hle38
    replace hS37:St w M0 w35 M36 (.raw b2 (AD .u8 (G.map Prod.fst) clk):: .box pb [(.pointer (some ⟨b,0,none⟩))] 131:: .box b [(.int .u32 0),(.int .i32 1),(.int .u32 0),(.map (some b2))] 104::X):=hS37
    refine RL.u (.move (.t (hK _ _ U))) U ?_
    exact RL.nil (RA.next λ a hs=>⟨_,_,Mem.le.refl _,hS37,hs,_,_,rfl,rfl,rfl⟩)
   ·intro LL w39 M40 X hle42 hS41 hK hD
    replace hsl_v6:=hsl_v6.mono hle42
    replace hS41:St w M0 w39 M40 (.raw b2 (AD .u8 (G.map Prod.fst) clk):: .box pb [(.pointer (some ⟨b,0,none⟩))] 131:: .box b [(.int .u32 0),(.int .i32 1),(.int .u32 0),(.map (some b2))] 104::X):=hS41
    obtain⟨g17,v17,hl17,rfl,rfl⟩:=hD 4 (by decide+kernel)
    refine RL.u (.DS (.t hl17) .c Tryz.underlying9 (λ _=>by first|omega)) U ?_
    exact RL.nil (RA.next λ a hs=>⟨_,_,Mem.le.refl _,hS41,hs,_,_,rfl,rfl,rfl⟩)
   ·intro LL w43 M44 X hle46 hS45 hK hD
    replace hsl_v6:=hsl_v6.mono hle46
    replace hS45:St w M0 w43 M44 (.raw b2 (AD .u8 (G.map Prod.fst) clk):: .box pb [(.pointer (some ⟨b,0,none⟩))] 131:: .box b [(.int .u32 0),(.int .i32 1),(.int .u32 0),(.map (some b2))] 104::X):=hS45
    refine RL.u (.CY (v:=(.pointer (some ⟨b,0,none⟩))) hS45 B8 (i:=1) U (.t (hK _ _ U)) Tryz.isAgg131 U) U ?_
    exact RL.nil (RA.next λ a hs=>⟨_,_,Mem.le.refl _,hS45,hs,_,_,rfl,rfl,rfl⟩)
   ·intro LL w47 M48 X hle50 hS49 hK hD
    replace hsl_v6:=hsl_v6.mono hle50
    replace hS49:St w M0 w47 M48 (.raw b2 (AD .u8 (G.map Prod.fst) clk):: .box pb [(.pointer (some ⟨b,0,none⟩))] 131:: .box b [(.int .u32 0),(.int .i32 1),(.int .u32 0),(.map (some b2))] 104::X):=hS49
    obtain⟨g19,v19,hl19,rfl,rfl⟩:=hD 6 (by decide+kernel)
    refine RL.u (.GC (.t hl19)) U ?_
    exact RL.nil (RA.next λ a hs=>⟨_,_,Mem.le.refl _,hS49,hs,_,_,rfl,rfl,rfl⟩)
   ·intro LL w51 M52 X hle54 hS53 hK hD
    replace hsl_v6:=hsl_v6.mono hle54
    replace hS53:St w M0 w51 M52 (.raw b2 (AD .u8 (G.map Prod.fst) clk):: .box pb [(.pointer (some ⟨b,0,none⟩))] 131:: .box b [(.int .u32 0),(.int .i32 1),(.int .u32 0),(.map (some b2))] 104::X):=hS53
    obtain⟨g20,v20,hl20,rfl,rfl⟩:=hD 7 (by decide+kernel)
    refine RL.u (.FF (q:=⟨b,3,none⟩) (.t hl20) (λ w=>by kernel_rfl)) U ?_
    exact RL.nil (RA.next λ a hs=>⟨_,_,Mem.le.refl _,hS53,hs,_,_,rfl,rfl,rfl⟩)
   ·intro LL w55 M56 X hle58 hS57 hK hD
    replace hsl_v6:=hsl_v6.mono hle58
    replace hS57:St w M0 w55 M56 (.raw b2 (AD .u8 (G.map Prod.fst) clk):: .box pb [(.pointer (some ⟨b,0,none⟩))] 131:: .box b [(.int .u32 0),(.int .i32 1),(.int .u32 0),(.map (some b2))] 104::X):=hS57
    obtain⟨g21,v21,hl21,rfl,rfl⟩:=hD 8 (by decide+kernel)
    refine RL.u (.CY (v:=(.map (some b2))) hS57 B8 (i:=2) U (.t hl21) Tryz.isAgg102 U) U ?_
    exact RL.nil (RA.next λ a hs=>⟨_,_,Mem.le.refl _,hS57,hs,_,_,rfl,rfl,rfl⟩)
   ·intro LL w59 M60 X hle62 hS61 hK hD
    replace hsl_v6:=hsl_v6.mono hle62
    replace hS61:St w M0 w59 M60 (.raw b2 (AD .u8 (G.map Prod.fst) clk):: .box pb [(.pointer (some ⟨b,0,none⟩))] 131:: .box b [(.int .u32 0),(.int .i32 1),(.int .u32 0),(.map (some b2))] 104::X):=hS61
    refine RL.u (.move (.t (hK _ _ U))) U ?_
    exact RL.nil (RA.next λ a hs=>⟨_,_,Mem.le.refl _,hS61,hs,_,_,rfl,rfl,rfl⟩)
   ·intro LL w63 M64 X hle66 hS65 hK hD
    replace hsl_v6:=hsl_v6.mono hle66
    replace hS65:St w M0 w63 M64 (.raw b2 (AD .u8 (G.map Prod.fst) clk):: .box pb [(.pointer (some ⟨b,0,none⟩))] 131:: .box b [(.int .u32 0),(.int .i32 1),(.int .u32 0),(.map (some b2))] 104::X):=hS65
    obtain⟨g23,v23,hl23,rfl,rfl⟩:=hD 10 (by decide+kernel)
    refine RL.u (.DS (.t hl23) .c Tryz.underlying9 (λ _=>by first|omega)) U ?_
    exact RL.nil (RA.next λ a hs=>⟨_,_,Mem.le.refl _,hS65,hs,_,_,rfl,rfl,rfl⟩)
   ·intro LL w67 M68 X hle70 hS69 hK hD
    replace hsl_v6:=hsl_v6.mono hle70
    replace hS69:St w M0 w67 M68 (.raw b2 (AD .u8 (G.map Prod.fst) clk):: .box pb [(.pointer (some ⟨b,0,none⟩))] 131:: .box b [(.int .u32 0),(.int .i32 1),(.int .u32 0),(.map (some b2))] 104::X):=hS69
    obtain⟨g22,v22,hl22,rfl,rfl⟩:=hD 9 (by decide+kernel)
    obtain⟨g24,v24,hl24,rfl,rfl⟩:=hD 11 (by decide+kernel)
    refine RL.u (.lookup (k:=.u8) (v:=vx13) hS69 B8 (i:=0) U (.t hl22) (.t hl24) Tryz.underlying102 Tryz.underlying5 Tryz.zeroValue32 hget17) U ?_
    exact RL.nil (RA.next λ a hs=>⟨_,_,Mem.le.refl _,hS69,hs,_,_,rfl,rfl,rfl⟩)
   ·intro LL w71 M72 X hle74 hS73 hK hD
    replace hsl_v6:=hsl_v6.mono hle74
    replace hS73:St w M0 w71 M72 (.raw b2 (AD .u8 (G.map Prod.fst) clk):: .box pb [(.pointer (some ⟨b,0,none⟩))] 131:: .box b [(.int .u32 0),(.int .i32 1),(.int .u32 0),(.map (some b2))] 104::X):=hS73
    refine RL.u (.move (.t (hK _ _ U))) U ?_
    exact RL.nil (RA.next λ a hs=>⟨_,_,Mem.le.refl _,hS73,hs,_,_,rfl,rfl,rfl⟩)
   ·intro LL w75 M76 X hle78 hS77 hK hD hX
    replace hsl_v6:=hsl_v6.mono hle78
    obtain rfl:(.own 9 1 vx13 xs14.length (xs14.flatMap AS)::(R15++Rs))=X:=Eq.symm hX
    replace hS77:St w M0 w75 M76 (.raw b2 (AD .u8 (G.map Prod.fst) clk):: .box pb [(.pointer (some ⟨b,0,none⟩))] 131:: .box b [(.int .u32 0),(.int .i32 1),(.int .u32 0),(.map (some b2))] 104:: .own 9 1 vx13 xs14.length (xs14.flatMap AS)::(R15++Rs)):=hS77
    obtain⟨g26,v26,hl26,rfl,rfl⟩:=hD 13 (by decide+kernel)
    refine RL.buildSlice (n:=1) (sz:=1) (e:=9) (vs:=[(0,(str (at' AB k)))]) (cs:=[(str (at' AB k))]) hS77 (.cons (.t hl26) .nil) U U (λ w=>by kernel_rfl) U (λ v79 w80 M81 hS82 hle83=>?_)
    replace hS82:St w M0 w80 M81 (.own 9 1 v79 (([at' AB k]:List A1)).length ((([at' AB k]:List A1)).flatMap AS):: .raw b2 (AD .u8 (G.map Prod.fst) clk):: .box pb [(.pointer (some ⟨b,0,none⟩))] 131:: .box b [(.int .u32 0),(.int .i32 1),(.int .u32 0),(.map (some b2))] 104:: .own 9 1 vx13 xs14.length (xs14.flatMap AS)::(R15++Rs)):=hS82
    replace hsl_v6:=hsl_v6.mono hle83
    replace hS82:St w M0 w80 M81 (.box pb [(.pointer (some ⟨b,0,none⟩))] 131:: .box b [(.int .u32 0),(.int .i32 1),(.int .u32 0),(.map (some b2))] 104:: .own 9 1 v79 (([at' AB k]:List A1)).length ((([at' AB k]:List A1)).flatMap AS):: .raw b2 (AD .u8 (G.map Prod.fst) clk):: .own 9 1 vx13 xs14.length (xs14.flatMap AS)::(R15++Rs)):=(hS82.front 3 U U).front 3 U U
    replace hS82:St w M0 w80 M81 (.raw b2 (AD .u8 (G.map Prod.fst) clk):: .box pb [(.pointer (some ⟨b,0,none⟩))] 131:: .box b [(.int .u32 0),(.int .i32 1),(.int .u32 0),(.map (some b2))] 104:: .own 9 1 v79 (([at' AB k]:List A1)).length ((([at' AB k]:List A1)).flatMap AS):: .own 9 1 vx13 xs14.length (xs14.flatMap AS)::(R15++Rs)):=hS82.front 3 U U
    exact RL.nil (RA.next λ a hs=>⟨_,_,(.own 9 1 v79 (([at' AB k]:List A1)).length ((([at' AB k]:List A1)).flatMap AS):: .own 9 1 vx13 xs14.length (xs14.flatMap AS)::(R15++Rs)),hle83,hS82,hs,⟨_,_,rfl,trivial⟩,⟨_,rfl,rfl⟩⟩)
   ·intro LL w84 M85 X hle87 hS86 hK hD hX
    replace hsl_v6:=hsl_v6.mono hle87
    obtain⟨vx88,hl27,rfl⟩:=hX
    replace hS86:St w M0 w84 M85 (.raw b2 (AD .u8 (G.map Prod.fst) clk):: .box pb [(.pointer (some ⟨b,0,none⟩))] 131:: .box b [(.int .u32 0),(.int .i32 1),(.int .u32 0),(.map (some b2))] 104:: .own 9 1 vx88 (([at' AB k]:List A1)).length ((([at' AB k]:List A1)).flatMap AS):: .own 9 1 vx13 xs14.length (xs14.flatMap AS)::(R15++Rs)):=hS86
    obtain⟨g25,v25,hl25,rfl,hv25⟩:=hD 12 (by decide+kernel)
    subst v25
    refine RL.OC (f:=AS) (l:=xs14) (y:=at' AB k) hS86 (k:=4) U (.t hl25) (.t hl27) (hS86.sl (i:=3) U) Tryz.underlying32 Tryz.type9 U U U YU (by':=16) U U (by first|omega) U (Hs':=λ v'=>(.raw b2 (AD .u8 (G.map Prod.fst) clk):: .box pb [(.pointer (some ⟨b,0,none⟩))] 131:: .box b [(.int .u32 0),(.int .i32 1),(.int .u32 0),(.map (some b2))] 104:: .own 9 1 vx88 (([at' AB k]:List A1)).length ((([at' AB k]:List A1)).flatMap AS):: .own 9 1 v' (xs14++[at' AB k]).length ((xs14++[at' AB k]).flatMap AS)::(R15++Rs))) (λ _=>rfl) (λ v89 w90 M91 hS92 hle93=>?_)
    replace hS92:=hS92.erase 3 U
    replace hsl_v6:=hsl_v6.mono hle93
    replace hS92:St w M0 w90 M91 (.box pb [(.pointer (some ⟨b,0,none⟩))] 131:: .box b [(.int .u32 0),(.int .i32 1),(.int .u32 0),(.map (some b2))] 104:: .raw b2 (AD .u8 (G.map Prod.fst) clk):: .own 9 1 v89 (xs14++[at' AB k]).length ((xs14++[at' AB k]).flatMap AS)::(R15++Rs)):=(hS92.front 2 U U).front 2 U U
    replace hS92:St w M0 w90 M91 (.raw b2 (AD .u8 (G.map Prod.fst) clk):: .box pb [(.pointer (some ⟨b,0,none⟩))] 131:: .box b [(.int .u32 0),(.int .i32 1),(.int .u32 0),(.map (some b2))] 104:: .own 9 1 v89 (xs14++[at' AB k]).length ((xs14++[at' AB k]).flatMap AS)::(R15++Rs)):=hS92.front 2 U U
    exact RL.nil (RA.next λ a hs=>⟨_,_,(.own 9 1 v89 (xs14++[at' AB k]).length ((xs14++[at' AB k]).flatMap AS)::(R15++Rs)),hle93,hS92,hs,⟨_,_,rfl,trivial⟩,⟨_,rfl,rfl⟩⟩)
   ·intro LL w94 M95 X hle97 hS96 hK hD hX
    replace hsl_v6:=hsl_v6.mono hle97
    obtain⟨vx98,hl28,rfl⟩:=hX
    replace hS96:St w M0 w94 M95 (.raw b2 (AD .u8 (G.map Prod.fst) clk):: .box pb [(.pointer (some ⟨b,0,none⟩))] 131:: .box b [(.int .u32 0),(.int .i32 1),(.int .u32 0),(.map (some b2))] 104:: .own 9 1 vx98 (xs14++[at' AB k]).length ((xs14++[at' AB k]).flatMap AS)::(R15++Rs)):=hS96
    obtain⟨g16,v16,hl16,rfl,rfl⟩:=hD 3 (by decide)
    obtain⟨g18,v18,hl18,rfl,rfl⟩:=hD 5 (by decide)
    refine RL.Z9 (v:=vx98) hS96 (i:=0) U (.t hl16) (.t hl18) (.t hl28) Tryz.underlying102 Tryz.underlying5 (l':=(E8 (G.map Prod.fst) clk (A2 (at' AB k) 0) vx98)) U (c':=(FV (G.map Prod.fst) clk (A2 (at' AB k) 0) vx98)) U (Hs':=(.raw b2 (AD .u8 (E8 (G.map Prod.fst) clk (A2 (at' AB k) 0) vx98) (FV (G.map Prod.fst) clk (A2 (at' AB k) 0) vx98)):: .box pb [(.pointer (some ⟨b,0,none⟩))] 131:: .box b [(.int .u32 0),(.int .i32 1),(.int .u32 0),(.map (some b2))] 104:: .own 9 1 vx98 (xs14++[at' AB k]).length ((xs14++[at' AB k]).flatMap AS)::(R15++Rs))) U (λ w99 hS100=>?_)
    refine RL.nil (kW (E:=[Y 0 (.pointer (some ⟨pb,0,none⟩)),Y 2 (str (at' AB k)),Y 7 v6,Y 8 (i64 (len AB)),Y 9 (i64 k)]) (.cons (hK _ _ U) (.cons (hK _ _ U) (.cons (hK _ _ U) (.cons (hK _ _ U) (.cons (hK _ _ U) .nil))))) ?_)
    refine(CW.at [Y 0 (.pointer (some ⟨pb,0,none⟩)),Y 7 v6,Y 8 (i64 (len AB)),Y 9 (i64 k)] U ?_)
    refine CW.region (RL.u (.add (.t U) .c (λ _=>by first|omega)) U (RL.m U U ?_))
    replace hS100:St w M0 w99 M95 (.box pb [(.pointer (some ⟨b,0,none⟩))] 131:: .box b [(.int .u32 0),(.int .i32 1),(.int .u32 0),(.map (some b2))] 104:: .raw b2 (AD .u8 (E8 (G.map Prod.fst) clk (A2 (at' AB k) 0) vx98) (FV (G.map Prod.fst) clk (A2 (at' AB k) 0) vx98)):: .own 9 1 vx98 (xs14++[at' AB k]).length ((xs14++[at' AB k]).flatMap AS)::(R15++Rs)):=(hS100.front 2 U U).front 2 U U
    replace hS100:St w M0 w99 M95 (.raw b2 (AD .u8 (E8 (G.map Prod.fst) clk (A2 (at' AB k) 0) vx98) (FV (G.map Prod.fst) clk (A2 (at' AB k) 0) vx98)):: .box pb [(.pointer (some ⟨b,0,none⟩))] 131:: .box b [(.int .u32 0),(.int .i32 1),(.int .u32 0),(.map (some b2))] 104:: .own 9 1 vx98 (xs14++[at' AB k]).length ((xs14++[at' AB k]).flatMap AS)::(R15++Rs)):=hS100.front 2 U U
    obtain⟨G102,hG1,hG2,hG3⟩:=qW (w0:=w) (M0:=M0) (A:=.raw b2 (AD .u8 (E8 (G.map Prod.fst) clk (A2 (at' AB k) 0) vx98) (FV (G.map Prod.fst) clk (A2 (at' AB k) 0) vx98))) (B:=.box pb [(.pointer (some ⟨b,0,none⟩))] 131) (C:=.box b [(.int .u32 0),(.int .i32 1),(.int .u32 0),(.map (some b2))] 104) (Rs:=Rs) clk hO16 (at' AB k) vx98
    have hS101:=hG2 hS100
    rw[hG1]at hS101
    refine RL.nil λ a hs=>Exists.intro ((k+1,G102,(FV (G.map Prod.fst) clk (A2 (at' AB k) 0) vx98),M95)) ⟨hs.BC [0,7,8,9],?_,?_⟩
    ·refine⟨hS101,hsl_v6,?_⟩
     exact⟨by omega,by omega,hG3 h0 (by omega) U U hG,(hMl.trans hle97)⟩
    ·show Int.toNat _<Int.toNat _;omega
  ·obtain⟨hMM,hS103⟩:=qX hS12 (by rw[show(17:Int)=k from by omega];exact hG)
   replace hS103:St w M0 wl Ml (.box pb [(.pointer (some ⟨b,0,none⟩))] 131:: .box b [(.int .u32 0),(.int .i32 1),(.int .u32 0),(.map (some b2))] 104:: .raw b2 (AD .u8 (G.map Prod.fst) clk)::Rs):=(hS103.front 2 U U).front 2 U U
   replace hS103:St w M0 wl Ml (.raw b2 (AD .u8 (G.map Prod.fst) clk):: .box pb [(.pointer (some ⟨b,0,none⟩))] 131:: .box b [(.int .u32 0),(.int .i32 1),(.int .u32 0),(.map (some b2))] 104::Rs):=hS103.front 2 U U
   refine CW.exit (hE.e0 U ?_)
   exact⟨_,rfl,_,_,_,Ml,rfl,hMM,hS103,hMl⟩
end Go.Proofs.YtmjpjbmeamnfpaaGreatDoor
set_option maxRecDepth 100000
namespace Go.Proofs.YtmjpjbmeamnfpaaGreatDoor
open Go.Eng
theorem WV{w:World}{b:Nat}{cs:List Value}{t:TypeId}(i:Nat)(x:Value)(h:w.heap[b]? =some (.cells cs.toArray t (0,0))):w.setCell ⟨b,i,none⟩ x=w.setRow b (cs.set i x).toArray:=by
 unfold World.setCell World.setRow
 congr 1
 apply Array.ext_getElem?
 intro k
 by_cases hk:b=k
 ·subst hk;simp[Array.getElem?_modify,h]
 ·simp[Array.getElem?_modify,hk]
theorem PN{w:World}{b:Nat}{cs:List Value}{t:TypeId}(h:w.heap[b]? =some (.cells cs.toArray t (0,0)))(i:Nat):w.cell? ⟨b,i,none⟩=cs[i]?:=by simp[World.cell?,h]
theorem WW{w:World}{b:Nat}{cs:List Value}{t:TypeId}(h:w.heap[b]? =some (.cells cs.toArray t (0,0)))(i:Nat):w.frozen? ⟨b,i,none⟩=false:=by simp[World.frozen?,h]
def JB(M:Mem)(cs:List Value)(X:HO):Prop:=
 (cs=[.int .u32 0,.int .i32 0,.int .u32 0,.map none]/\X= .own 9 1 (.slice none 0 0) 0 [])\/
 ∃mb l c,cs=[.int .u32 1,.int .i32 0,.int .u32 0,.map (some mb)]/\X= .raw mb (AD .u8 l c)/\K0 M l
theorem K0.mono {M M':Mem}{l:List KV}(h:K0 M l)(hm:M.le M'):K0 M' l:=λ c=>by obtain⟨v,h1,h2⟩:=h c;exact⟨v,h1,h2.mono hm⟩
theorem JB.mono {M M':Mem}{cs:List Value}{X:HO}(h:JB M cs X)(hm:M.le M'):JB M' cs X:=h.imp id λ⟨mb,l,c,h1,h2,h3⟩=>⟨mb,l,c,h1,h2,K0.mono h3 hm⟩
theorem r8{w wv:World}{M0 M:Mem}{Rs:List HO}(pb b:Nat)(cs:List Value)(X:HO)(hS:St w M0 wv M (.box pb [.pointer (some ⟨b,0,none⟩)] 131:: .box b cs 104::X::Rs))(hm:JB M cs X)(hg:Gl w):
  Calls Tryz.prog 113 [.pointer (some ⟨b,0,none⟩),.func (.func 114) #[] #[.pointer (some ⟨pb,0,none⟩)]].toArray wv λ e w'=> ∃v,e= .returned v/\ ∃mb l c M',v= .tuple #[]/\K0 M' l/\St w M0 w' M' (.box pb [.pointer (some ⟨b,0,none⟩)] 131:: .box b [.int .u32 1,.int .i32 0,.int .u32 0,.map (some mb)] 104:: .raw mb (AD .u8 l c)::Rs)/\M.le M':=by
 rcases hm with⟨rfl,rfl⟩|⟨mb,l,c,rfl,rfl,hM⟩
 ·have hb:=(hS.obj (i:=1) U).2.1
  have hS1:St w M0 (wv.setCell ⟨b,1,none⟩ (.int .i32 1)) M (.box pb [.pointer (some ⟨b,0,none⟩)] 131:: .box b [.int .u32 0,.int .i32 1,.int .u32 0,.map none] 104:: .own 9 1 (.slice none 0 0) 0 []::Rs):=by
   rw[WV 1 _ hb];exact hS.OB (i:=1) U _
  have hS2:=hS1.erase 2 (Hs':=.box pb [.pointer (some ⟨b,0,none⟩)] 131:: .box b [.int .u32 0,.int .i32 1,.int .u32 0,.map none] 104::Rs) U
  refine(qC 114 #[.pointer (some ⟨pb,0,none⟩)] b wv (λ w1=> ∃mb l c M',K0 M' l/\St w M0 w1 M' (.raw mb (AD .u8 l c):: .box pb [.pointer (some ⟨b,0,none⟩)] 131:: .box b [.int .u32 0,.int .i32 1,.int .u32 0,.map (some mb)] 104::Rs)/\M.le M') Tryz.call114 (by rw[PN hb];rfl) (by rw[PN hb];rfl) (WW hb 1) ?_).mono ?_
  ·refine(r7 pb b hS2 hg).mono ?_
   rintro e w' ⟨v,rfl,mb,l,c,M',rfl,h1,h2,h3⟩
   have hb':=(h2.obj (i:=2) U).2.1
   exact⟨rfl,by rw[PN hb'];rfl,WW hb' 0,by rw[PN hb'];rfl,WW hb' 1,mb,l,c,M',h1,h2,h3⟩
  ·rintro e w' ⟨rfl,w1,⟨mb,l,c,M',h1,h2,h3⟩,_,_,_,_,rfl⟩
   refine⟨_,rfl,mb,l,c,M',rfl,h1,?_,h3⟩
   have h4:=h2.ext (Ext.drew w1)
   have hb4:=(h4.obj (i:=2) U).2.1
   rw[WV 0 _ hb4]
   have h5:St w M0 (w1.drew.setRow b [.int .u32 1,.int .i32 1,.int .u32 0,.map (some mb)].toArray) M' (.raw mb (AD .u8 l c):: .box pb [.pointer (some ⟨b,0,none⟩)] 131:: .box b [.int .u32 1,.int .i32 1,.int .u32 0,.map (some mb)] 104::Rs):=h4.OB (i:=2) U _
   have hb5:=(h5.obj (i:=2) U).2.1
   show St w M0 ((w1.drew.setRow b [.int .u32 1,.int .i32 1,.int .u32 0,.map (some mb)].toArray).setCell ⟨b,1,none⟩ (.int .i32 0)) M' _
   rw[WV 1 _ hb5]
   have h6:St w M0 ((w1.drew.setRow b [.int .u32 1,.int .i32 1,.int .u32 0,.map (some mb)].toArray).setRow b [.int .u32 1,.int .i32 0,.int .u32 0,.map (some mb)].toArray) M' (.raw mb (AD .u8 l c):: .box pb [.pointer (some ⟨b,0,none⟩)] 131:: .box b [.int .u32 1,.int .i32 0,.int .u32 0,.map (some mb)] 104::Rs):=h5.OB (i:=2) U _
   exact(h6.front 1 U U).front 2 U U|>.front 1 U U
 ·have hb:=(hS.obj (i:=1) U).2.1
  refine(qD ⟨b,0,none⟩ 1 (by decide) _ wv (by rw[PN hb];rfl)).mono ?_
  rintro e w' ⟨rfl,rfl⟩
  exact⟨_,rfl,mb,l,c,M,rfl,hM,hS,Mem.le.refl _⟩
end Go.Proofs.YtmjpjbmeamnfpaaGreatDoor
set_option maxRecDepth 100000
namespace Go.Proofs.YtmjpjbmeamnfpaaGreatDoor
open Go.Eng
theorem dH{w wv:World}{M0 M:Mem}{Rs:List HO}(b:Nat)(cs:List Value)(X:HO)(s:A1)(hS:St w M0 wv M (.box b cs 104::X::Rs))(hm:JB M cs X)(hg:Gl w)(h0:0<len s)(hb:len s<=1099511627776):
  Calls Tryz.prog 79 [(.pointer (some ⟨b,0,none⟩)),(str s)].toArray wv λ e w'=> ∃v,e= .returned v/\ ∃cs' X' M',v=str (C3 s)/\JB M' cs' X'/\St w M0 w' M' (.box b cs' 104::X'::Rs)/\M.le M':=by
 refine CW.BV Tryz.func79 U Tryz.ntmps79 (Nat.le_of_ble_eq_true U) λ Q hE=>?_
 refine CW.weaken [0,1] (L':=[Y 0 (.pointer (some ⟨b,0,none⟩)),Y 1 (str s)]) ?_ U
 refine CW.sr ?_
 refine RL.box (v:=(.pointer (some ⟨b,0,none⟩))) hS (.t U) U (λ w1 b2 hS3=>?_)
 refine RL.u (.assign .c) U (RL.nil (CW.id ?_))
 refine CW.sr (RL.u (.CY (v:=(.pointer (some ⟨b,0,none⟩))) hS3 B8 (i:=0) U (.t U) Tryz.isAgg131 U) U (RL.u (.GC (.t U)) U (RL.u (.FF (q:=⟨b,0,none⟩) (.t U) (λ w=>by kernel_rfl)) U (RL.u (.makeFunc .nil (.cons (.t U) .nil)) U ?_))))
 replace hS3:St w M0 w1 M (.box b cs 104::X:: .box b2 [(.pointer (some ⟨b,0,none⟩))] 131::Rs):=(hS3.front 2 U U).front 2 U U
 replace hS3:St w M0 w1 M (.box b2 [(.pointer (some ⟨b,0,none⟩))] 131:: .box b cs 104::X::Rs):=hS3.front 2 U U
 refine RL.CK Tryz.call113 (.cons (.t U) (.cons (.t U) .nil)) (r8 (Rs:=Rs) b2 b cs X hS3 (by assumption) hg) U ?_
 rintro v7 w8 ⟨mb4,ml5,mc6,M9,rfl,hMM_mb4,hS10,hle11⟩
 replace hS10:St w M0 w8 M9 (.box b2 [(.pointer (some ⟨b,0,none⟩))] 131:: .box b [(.int .u32 1),(.int .i32 0),(.int .u32 0),(.map (some mb4))] 104:: .raw mb4 (AD .u8 ml5 mc6)::Rs):=hS10
 refine RL.nil (CW.at [Y 1 (str s),Y 2 (.pointer (some ⟨b2,0,none⟩))] U (CW.seq (CW.seq ?_)))
 refine CW.QU hS10 OF (by decide+kernel) ?_
 refine RQ.v .none (.CY (v:=(.pointer (some ⟨b,0,none⟩))) hS10 (λ _ h=>h) (i:=0) U (.t U) Tryz.isAgg131 U) U ?_
 refine RQ.v .none (.GC (.t U)) U ?_
 refine RQ.v .none (.FF (q:=⟨b,3,none⟩) (.t U) (λ w=>by kernel_rfl)) U ?_
 refine RQ.v .none (.CY (v:=(.map (some mb4))) hS10 (λ _ h=>h) (i:=1) U (.t U) Tryz.isAgg102 U) U ?_
 refine RQ.v .none (.move (.t U)) U ?_
 refine RQ.v .none (.DS (.t U) .c Tryz.underlying9 (λ _=>by omega)) U ?_
 obtain⟨mv,hmv,hmsl⟩:=hMM_mb4 (A2 s 0)
 refine RQ.v .none (.lookup (k:=.u8) (v:=mv) hS10 (λ _ h=>h) (i:=2) U (.t U) (.t U) Tryz.underlying102 Tryz.underlying5 Tryz.zeroValue32 hmv) U ?_
 refine RQ.v .none (.MP hmsl (.t U) ⟨_,Tryz.underlying32⟩) U ?_
 refine RQ.v .none (.move .c) U ?_
 refine RQ.nil (λ a hs w12 hS13=>CW.at [Y 1 (str s),Y 18 mv,Y 19 (i64 (len (marksOf (A2 s 0)))),Y 20 (i64 0)] U ?_ a hs)
 refine CW.block ?_
 refine CW.loop (σ:=Int) (λ k=>[Y 1 (str s),Y 18 mv,Y 19 (i64 (len (marksOf (A2 s 0)))),Y 20 (i64 k)]) (λ k wl=>St w M0 wl M9 (.box b2 [(.pointer (some ⟨b,0,none⟩))] 131:: .box b [(.int .u32 1),(.int .i32 0),(.int .u32 0),(.map (some mb4))] 104:: .raw mb4 (AD .u8 ml5 mc6)::Rs)/\0<=k/\k<=len (marksOf (A2 s 0))/\IK s (marksOf (A2 s 0)) k) (λ k=>(len (marksOf (A2 s 0))-k).toNat) 0 [1,18,19,20] U ?_ ?_
 ·refine⟨hS13,?_⟩;exact⟨by omega,AA _,rfl⟩
 ·rintro k wl ⟨hS14,hk0,hk1,hN⟩
  have hll:=hmsl.le
  change len (marksOf (A2 s 0))<=9223372036854775807 at hll
  refine CW.sr (RL.u (.lss (.t U) (.t U)) U (RL.nil (CW.id (CW.seq ?_))))
  refine CW.cond rfl ?_ ?_<;>intro hb1<;>try simp only[zb]at hb1
  ·refine CW.skip (CW.id (CW.seq (CW.block (CW.sr ?_))))
   refine RL.u (.QT hmsl (.t U) (.t U) Tryz.underlying32 Tryz.sizeOf9 (λ _=>by omega)) U (RL.u (.QP (f:=AS) (i:=k) (j:=0) (u:=(str (at' (marksOf (A2 s 0)) k))) hS14 B8 hmsl DC (.t U) Tryz.isAgg9 (λ _=>by omega) U U) U (RL.a U U (RL.nil (CW.id ?_))))
   refine CW.sr (RL.m U U (RL.m U U ?_))
   refine RL.F1 .none Tryz.call77 (.cons (.t U) (.cons (.t U) .nil)) (λ _=>(LC s (at' (marksOf (A2 s 0)) k) _)) U ?_
   refine RL.nil (CW.at [Y 1 (str s),Y 6 (str (at' (marksOf (A2 s 0)) k)),Y 18 mv,Y 19 (i64 (len (marksOf (A2 s 0)))),Y 20 (i64 k),Y 26 (.bool (Lib.hasPrefix s (at' (marksOf (A2 s 0)) k)))] U ?_)
   refine CW.cond rfl ?_ ?_<;>intro hb2<;>try simp only[zb]at hb2
   ·refine CW.sr (RL.m U U (RL.a U U (RL.nil (CW.id (CW.ret (hE.r1 U U ?_))))))
    replace hS14:St w M0 wl M9 (.raw mb4 (AD .u8 ml5 mc6):: .box b [(.int .u32 1),(.int .i32 0),(.int .u32 0),(.map (some mb4))] 104::Rs):=(hS14.erase 0 U).front 1 U U
    replace hS14:St w M0 wl M9 (.box b [(.int .u32 1),(.int .i32 0),(.int .u32 0),(.map (some mb4))] 104:: .raw mb4 (AD .u8 ml5 mc6)::Rs):=hS14.front 1 U U
    have hq:C3 s=at' (marksOf (A2 s 0)) k:=by rw[dF,hN.found hk0 hb1 hb2]
    exact⟨_,rfl,_,_,_,by rw[hq],.inr ⟨_,_,_,rfl,rfl,hMM_mb4⟩,hS14,hle11⟩
   ·refine CW.skip (CW.id ?_)
    refine CW.region (RL.u (.add (.t U) .c (λ _=>by omega)) U (RL.m U U ?_))
    refine RL.nil λ a hs=>Exists.intro (k+1) ⟨hs.BC [1,18,19,20],?_,?_⟩
    ·refine⟨hS14,?_⟩
     exact⟨by omega,by omega,hN.step hk0 hb1 (by simpa using hb2)⟩
    ·show Int.toNat _<Int.toNat _;omega
  ·refine CW.exit (CW.at [] U ?_)
   refine CW.sr (RL.u (.assign .c) U (RL.nil (CW.id (CW.ret (hE.r1 U U ?_)))))
   replace hS14:St w M0 wl M9 (.raw mb4 (AD .u8 ml5 mc6):: .box b [(.int .u32 1),(.int .i32 0),(.int .u32 0),(.map (some mb4))] 104::Rs):=(hS14.erase 0 U).front 1 U U
   replace hS14:St w M0 wl M9 (.box b [(.int .u32 1),(.int .i32 0),(.int .u32 0),(.map (some mb4))] 104:: .raw mb4 (AD .u8 ml5 mc6)::Rs):=hS14.front 1 U U
   have hq:C3 s=[]:=by rw[dF,hN.SP (by omega)]
   exact⟨_,rfl,_,_,_,by rw[hq],.inr ⟨_,_,_,rfl,rfl,hMM_mb4⟩,hS14,hle11⟩
end Go.Proofs.YtmjpjbmeamnfpaaGreatDoor
namespace Go.Eng
open Go.RowKit
def C0(x:Nat):Bool:=C9 (x:Int)
theorem WX(x:Nat):C0 x=true↔48<=x/\x<=57:=by unfold C0 C9;simp;omega
theorem r9(x:Nat):C0 x=false↔ ¬(48<=x/\x<=57):=by rw[<-WX];simp
theorem dI{s:A1}{i:Nat}(h:i<s.length)(hf:C0 (s[i]).toNat=true):Utf8.decode ⟨⟨s⟩⟩ i=((s[i]).toNat,1):=by
 have:=decode_ascii ⟨⟨s⟩⟩ i h (by have:=(WX _).1 hf;show(s[i]).toNat<128;omega)
 exact this
theorem rA{s:A1}{i:Nat}(h:i<s.length)(hf:C0 (s[i]).toNat=false):C0 (Utf8.decode ⟨⟨s⟩⟩ i).1=false:=by
 rcases Nat.lt_or_ge (s[i]).toNat 128 with hl|hl
 ·have:=decode_ascii ⟨⟨s⟩⟩ i h hl
  rw[this];exact hf
 ·have:=decode_high ⟨⟨s⟩⟩ i h hl
  rw[r9];omega
theorem dJ(s:A1): ∀(f pos:Nat),s.length<=pos+f->(∀(j:Nat) (h:j<s.length),pos<=j->C0 (s[j]).toNat=true)->Lib.idxFuncFrom C0 false ⟨⟨s⟩⟩ f pos= -1
 |0,_,_,_=>rfl
 |f+1,pos,hl,ha=>by
  unfold Lib.idxFuncFrom
  by_cases h:pos<s.length
  ·rw[if_pos (show pos<(ByteArray.mk ⟨s⟩).size from h),dI h (ha pos h (Nat.le_refl _)),if_neg (by rw[ha pos h (Nat.le_refl _)];simp)]
   exact dJ s f (pos+1) (by omega) (λ j hj hp=>ha j hj (by omega))
  ·rw[if_neg (show ¬pos<(ByteArray.mk ⟨s⟩).size from h)]
theorem dK(s:A1): ∀(f pos:Nat),s.length<=pos+f->(∃(j:Nat) (h:j<s.length),pos<=j/\C0 (s[j]).toNat=false)-> ∃(i:Nat) (h:i<s.length),Lib.idxFuncFrom C0 false ⟨⟨s⟩⟩ f pos=(i:Int)/\C0 (s[i]).toNat=false
 |0,pos,hl,⟨j,hj,hp,_⟩=>by omega
 |f+1,pos,hl,⟨j,hj,hp,hn⟩=>by
  unfold Lib.idxFuncFrom
  have h:pos<s.length:=by omega
  rw[if_pos (show pos<(ByteArray.mk ⟨s⟩).size from h)]
  cases hf:C0 (s[pos]).toNat with
  |true=>
   rw[dI h hf,if_neg (by rw[hf];simp)]
   have hne:pos≠j:=by intro e;subst e;rw[hf]at hn;cases hn
   exact dK s f (pos+1) (by omega) ⟨j,hj,by omega,hn⟩
  |false=>
   rw[if_pos (rA h hf)]
   exact⟨pos,h,rfl,hf⟩
theorem dL(t:A1)(h0: ∃h:0<t.length,C0 (t[0]).toNat=false): ∀(f i:Nat),0<i->i<=t.length->i<=f->0<=Lib.lastIdxFuncFrom C0 false ⟨⟨t⟩⟩ f i
 |0,i,hi,_,hf=>by omega
 |f+1,i,hi,hl,hf=>by
  obtain⟨hz,hn⟩:=h0
  unfold Lib.lastIdxFuncFrom
  rw[if_pos hi]
  show 0<=if C0 (Lib.decodeLastL (t.take i)).1=false then _ else _
  split
  ·omega
  ·rename_i hp
   have hp':C0 (Lib.decodeLastL (t.take i)).1=true:=by simpa using hp
   have hb:=(WX _).1 hp'
   have hlen:(t.take i).length=i:=by rw[List.length_take];omega
   have hw:Lib.decodeLastL (t.take i)=((t[i-1]'(by omega)).toNat,1):=by
    have hne: ¬t.take i=[]:=by intro e;rw[e]at hlen;simp at hlen;omega
    have hg:(t.take i).getD ((t.take i).length-1) 0=t[i-1]'(by omega):=by
     rw[hlen,List.getD_eq_getElem?_getD,List.getElem?_take,if_pos (by omega)]
     simp[show i-1<t.length from by omega]
    unfold Lib.decodeLastL at hb ⊢
    rw[if_neg hne,hg]at hb ⊢
    by_cases hc:(t[i-1]'(by omega)).toNat<128
    ·rw[if_pos hc]
    ·exfalso
     rw[if_neg hc]at hb
     dsimp only at hb
     split at hb
     ·rename_i hls
      have hsl:Lib.lastStart (t.take i)<(t.take i).length:=by
       rcases Nat.lt_or_ge (Lib.lastStart (t.take i)) (t.take i).length with h|h
       ·exact h
       ·exfalso
        have e0:(t.take i).drop (Lib.lastStart (t.take i))=[]:=by rw[List.drop_eq_nil_iff];exact h
        rw[e0]at hb
        have:(Lib.decodeL []).1=0:=by decide
        omega
      have hd:Utf8.decode ⟨⟨(t.take i).drop (Lib.lastStart (t.take i))⟩⟩ 0=Lib.decodeL ((t.take i).drop (Lib.lastStart (t.take i))):=rfl
      have hdl:0<((t.take i).drop (Lib.lastStart (t.take i))).length:=by rw[List.length_drop];omega
      have hlow:(((t.take i).drop (Lib.lastStart (t.take i)))[0]).toNat<128:=by
       rcases Nat.lt_or_ge (((t.take i).drop (Lib.lastStart (t.take i)))[0]).toNat 128 with h|h
       ·exact h
       ·have:=decode_high ⟨⟨(t.take i).drop (Lib.lastStart (t.take i))⟩⟩ 0 hdl h
        rw[hd]at this;omega
      have hda:=decode_ascii ⟨⟨(t.take i).drop (Lib.lastStart (t.take i))⟩⟩ 0 hdl hlow
      rw[hd]at hda
      rw[hda]at hls
      have e1:Lib.lastStart (t.take i)=i-1:=by rw[hlen]at hls;simp only at hls;omega
      apply hc
      have e2:((t.take i).drop (Lib.lastStart (t.take i)))[0]=t[i-1]'(by omega):=by
       rw[List.getElem_drop,List.getElem_take];first|done|congr 1|(congr 1;omega)
      rw[<-e2];exact hlow
     ·have:Utf8.runeError=65533:=rfl
      simp only[this]at hb;omega
   rw[hw]
   by_cases hi1:i=1
   ·exfalso
    subst hi1
    rw[hw]at hp'
    have:C0 (t[0]).toNat=true:=hp'
    rw[hn]at this;cases this
   ·exact dL t ⟨hz,hn⟩ f (i-1) (by omega) (by omega) (by omega)
theorem WY{s:A1}:H0 s=true↔ ∀(j:Nat) (h:j<s.length),C0 (s[j]).toNat=true:=by
 have key: ∀(k:Nat) (i:Int),0<=i->(len s-i).toNat<=k->(IZ s i=true↔ ∀(j:Nat) (h:j<s.length),i<=(j:Int)->C0 (s[j]).toNat=true):=by
  intro k
  induction k with
  |zero=>
   intro i h0 hk
   rw[YZ s i (by omega)]
   exact⟨λ _ j h hj=>by unfold len at hk;omega,λ _=>rfl⟩
  |succ k ih=>
   intro i h0 hk
   by_cases hlt:i<len s
   ·obtain⟨hh,he⟩:=kD h0 hlt
    by_cases hf:C9 (A2 s i)=true
    ·rw[<-kI s i h0 hlt hf,ih (i+1) (by omega) (by omega)]
     constructor
     ·intro h j hj hij
      by_cases e:(j:Int)=i
      ·have e':j=i.toNat:=by omega
       subst e'
       unfold C0;rw[<-he];exact hf
      ·exact h j hj (by omega)
     ·intro h j hj hij;exact h j hj (by omega)
    ·rw[kJ s i h0 hlt hf]
     constructor
     ·intro h;cases h
     ·intro h
      have:=h i.toNat hh (by omega)
      unfold C0 at this
      rw[<-he]at this
      exact absurd this hf
   ·rw[YZ s i hlt]
    exact⟨λ _ j h hj=>by unfold len at hlt;omega,λ _=>rfl⟩
 have:=key (len s-0).toNat 0 (Int.le_refl 0) (Nat.le_refl _)
 unfold H0
 rw[this]
 exact⟨λ h j hj=>h j hj (by omega),λ h j hj _=>h j hj⟩
theorem SQ(l:A1)(i j:Nat):(ByteArray.mk ⟨l⟩).extract i j=ByteArray.mk ⟨(l.drop i).take (j-i)⟩:=by
 have:=ByteArray.extract_mk l i j
 rw[this]
theorem rB(s:A1):((Lib.trimF C0 ⟨⟨s⟩⟩).data.toList==[])=H0 s:=by
 rw[Bool.eq_iff_iff,beq_iff_eq]
 have hsz:(ByteArray.mk ⟨s⟩).size=s.length:=rfl
 by_cases ha: ∀(j:Nat) (h:j<s.length),C0 (s[j]).toNat=true
 ·refine⟨λ _=>WY.2 ha,λ _=>?_⟩
  have hi:Lib.idxFunc C0 false ⟨⟨s⟩⟩= -1:=dJ s s.length 0 (by omega) (λ j h _=>ha j h)
  unfold Lib.trimF Lib.trimLeftF
  rw[if_pos hi]
  unfold Lib.trimRightF
  rw[SQ []];simp
 ·have hex: ∃(j:Nat) (h:j<s.length),0<=j/\C0 (s[j]).toNat=false:=by
   apply Classical.byContradiction
   intro hc
   apply ha
   intro j h
   cases hf:C0 (s[j]).toNat with
   |true=>rfl
   |false=>exact absurd ⟨j,h,Nat.zero_le _,hf⟩ hc
  obtain⟨i,hi,he,hn⟩:=dK s s.length 0 (by omega) hex
  refine⟨λ h=>?_,λ h=>absurd (WY.1 h) ha⟩
  exfalso
  have hi':Lib.idxFunc C0 false ⟨⟨s⟩⟩=(i:Int):=he
  have ht:Lib.trimLeftF C0 ⟨⟨s⟩⟩=⟨⟨s.drop i⟩⟩:=by
   unfold Lib.trimLeftF
   rw[hi',if_neg (by omega),hsz,Int.toNat_natCast,SQ,List.take_of_length_le (by rw[List.length_drop];omega)]
  unfold Lib.trimF at h
  rw[ht]at h
  have hpos:0<(s.drop i).length:=by rw[List.length_drop];omega
  have h0: ∃h:0<(s.drop i).length,C0 ((s.drop i)[0]).toNat=false:=⟨hpos,by rw[List.getElem_drop];exact hn⟩
  have hlast:0<=Lib.lastIdxFunc C0 false ⟨⟨s.drop i⟩⟩:=dL (s.drop i) h0 (s.drop i).length (s.drop i).length hpos (Nat.le_refl _) (Nat.le_refl _)
  have hend:1<=Lib.rightEndF C0 ⟨⟨s.drop i⟩⟩:=by
   unfold Lib.rightEndF
   rw[if_pos hlast]
   by_cases hz:(Lib.lastIdxFunc C0 false ⟨⟨s.drop i⟩⟩).toNat=0
   ·rw[hz]
    have e:(ByteArray.mk ⟨s.drop i⟩).extract 0 (ByteArray.mk ⟨s.drop i⟩).size=⟨⟨s.drop i⟩⟩:=by
     rw[SQ]
     have:List.take ((s.drop i).length-0) (List.drop 0 (s.drop i))=s.drop i:=by rw[List.drop_zero,Nat.sub_zero,List.take_length]
     exact congrArg (λ l=>(⟨⟨l⟩⟩:ByteArray)) this
    rw[e]
    unfold Lib.decodeGoB
    have hs2:(ByteArray.mk ⟨s.drop i⟩).size=(s.drop i).length:=rfl
    rw[if_neg (by rw[hs2];omega)]
    have:=Lib.decode_width_pos ⟨⟨s.drop i⟩⟩ 0 (by rw[hs2];exact hpos)
    omega
   ·omega
  unfold Lib.trimRightF at h
  rw[SQ]at h
  have h2:(List.take (Lib.rightEndF C0 ⟨⟨s.drop i⟩⟩-0) (List.drop 0 (s.drop i)))=[]:=h
  rw[List.drop_zero,Nat.sub_zero,List.take_eq_nil_iff]at h2
  rcases h2 with h2|h2
  ·omega
  ·rw[h2]at hpos;simp at hpos
end Go.Eng
