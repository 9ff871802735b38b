/- Lemmas for the card. -/
import Derived.Test.YtnoegalemkbbbaaGreatDoorKt9
set_option linter.unusedVariables false
set_option linter.unusedSimpArgs false
set_option maxRecDepth 100000
namespace Go.Eng
open Go.RowKit
section
variable {c:Cx} {B:Exit->Act->World->Prop} {k k':List Fr} {m:Md} {s s':XS} {O:Prop} {E:List Ck} {all:Array Oper} {rest:List Oper} {d:Nat} {ty:TypeId} {ps:String} {af:Array Edge} {E1 E2 E3:List Ck} {t kt e:TypeId} {x y z:Operand} {b r cl:Nat} {l:List KV} {ik:IntKind} {n:Int}
theorem AU8(kk:Nat){q:A0}(h:run c.T c.N k m s=⟨k',.ops all (⟨some d,.range t x,ty,ps,af,none⟩::rest),s',O,E⟩)(hx:B5 s'.L .t x=some (.v (str q),E1))(e:c.P.underlying t=some .string)
  (i: ∀r,XG c B k' (.ops all rest) ⟨s'.F,(kk,.ho (.raw r (.stringIter ⟨⟨q⟩⟩ (0:Int).toNat)))::s'.H,(d,.t,.v (.pointer (some ⟨r,0,none⟩)))::s'.L⟩)
  (hE:A9 E:=by exact Ad) (hO:O:=by exact Af) (hE1:A9 E1:=by exact Ad) (hd:Nat.blt d c.N=true:=by exact rfl):XG c B k m s:=
 E7 h (hE:=hE) (hO:=hO) λ w M b=>RL.bF b.st (AF hx (hE:=hE1)) e hd λ w' r hS=>E8 (i r) ⟨hS,b.f,b.le⟩ U
theorem AU9(kk:Nat){q:A0}{p:Int}(h:run c.T c.N k m s=⟨k',.ops all (⟨some d,.next x true,ty,ps,af,none⟩::rest),s',O,E⟩)(hx:B5 s'.L .t x=some (.v (.pointer (some ⟨r,0,none⟩)),E1))(y:DO s'.H kk=some (.ho (.raw r (.stringIter ⟨⟨q⟩⟩ p.toNat))))(hp:0<=p)
  (h1:p<len q->XG c B k' (.ops all rest) ⟨s'.F,D4 s'.H kk (.ho (.raw r (.stringIter ⟨⟨q⟩⟩ (p+runeLen q p).toNat))),(d,.t,.tu [.v (.bool true),.v (i64 p),.v (.int .i32 (AX q p))])::s'.L⟩)
  (z: ¬p<len q->XG c B k' (.ops all rest) ⟨s'.F,s'.H,(d,.t,.tu [.v (.bool false)])::s'.L⟩)
  (hE:A9 E:=by exact Ad) (hO:O:=by exact Af) (hE1:A9 E1:=by exact Ad) (hd:Nat.blt d c.N=true:=by exact rfl):XG c B k m s:=by
 refine E7 h (hE:=hE) (hO:=hO) λ w M j=>?_
 obtain⟨i,hi,b⟩:=EI (Hr:=c.Hr) y
 refine RL.bG j.st hi (AF hx (hE:=hE1)) hp hd (λ l w' hS=>E8 (h1 l) ⟨?_,j.f,j.le⟩ U) λ n=>E8 (z n) j U
 have e:=b (.ho (.raw r (.stringIter ⟨⟨q⟩⟩ (p+runeLen q p).toNat)))
 show St c.w0 c.M0 w' M (HD (D4 s'.H kk (.ho (.raw r (.stringIter ⟨⟨q⟩⟩ (p+runeLen q p).toNat))))++c.Hr)
 rw[e];exact hS
theorem qU(kk:Nat)(ik:IntKind)(h:run c.T c.N k m s=⟨k',.ops all (⟨some d,.makeMap t none,ty,ps,af,none⟩::rest),s',O,E⟩)
  (i: ∀b,XG c B k' (.ops all rest) ⟨s'.F,(kk,.ho (.raw b (BN ik [] 0)))::s'.H,(d,.t,.v (.map (some b)))::s'.L⟩)
  (hE:A9 E:=by exact Ad) (hO:O:=by exact Af) (hd:Nat.blt d c.N=true:=by exact rfl):XG c B k m s:=
 E7 h (hE:=hE) (hO:=hO) λ w M e=>RL.makeMap ik e.st hd λ w' b hS=>E8 (i b) ⟨hS,e.f,e.le⟩ U
theorem NL(ins:Bool)(kk j:Nat)(l':List KV){v:Value}(h:run c.T c.N k m s=⟨k',.ops all (⟨none,if ins then .insert t y x z else .mapUpdate t y x z,ty,ps,af,none⟩::rest),s',O,E⟩)
  (D:B5 s'.L .t y=some (.v (.map (some b)),E1)) (hx:B5 s'.L .t x=some (.v (.int ik n),E2)) (G:B5 s'.L .t z=some (.v v,E3)) (J:DO s'.H kk=some (.ho (.raw b (BN ik l cl)))) (K:c.P.underlying t=some (.map kt e)) (A:c.P.underlying kt=some (.int ik))
  (hl:M6 l cl n v=l') (Q:PM l cl n v=j) (R:XG c B k' (.ops all rest) ⟨s'.F,D4 s'.H kk (.ho (.raw b (BN ik l' j))),s'.L⟩)
  (hE:A9 E:=by exact Ad) (hO:O:=by exact Af) (h1:A9 E1:=by exact Ad) (S:A9 E2:=by exact Ad) (V:A9 E3:=by exact Ad):XG c B k m s:=by
 refine E7 h (hE:=hE) (hO:=hO) λ w M C=>?_
 obtain⟨q,W,i⟩:=EI (Hr:=c.Hr) J
 exact RL.mapUpdate ins C.st W (AF D h1) (AF hx S) (AF G V) K A hl Q (Hs':=HD (D4 s'.H kk (.ho (.raw b (BN ik l' j))))++c.Hr) (i (.ho (.raw b (BN ik l' j)))).symm λ w' hS=>E8 R ⟨hS,C.f,C.le⟩ U
theorem AV0(kk:Nat)(l':List KV){u:TypeId}(h:run c.T c.N k m s=⟨k',.ops all (⟨none,.call ⟨.builtin .delete,#[y,x],#[t,u]⟩,ty,ps,af,none⟩::rest),s',O,E⟩)
  (A:B5 s'.L .t y=some (.v (.map (some b)),E1)) (hx:B5 s'.L .t x=some (.v (.int ik n),E2)) (C:DO s'.H kk=some (.ho (.raw b (BN ik l cl)))) (D:c.P.underlying t=some (.map kt e)) (j:c.P.underlying kt=some (.int ik))
  (hl:I7 l n=l') (G:XG c B k' (.ops all rest) ⟨s'.F,D4 s'.H kk (.ho (.raw b (BN ik l' cl))),s'.L⟩)
  (hE:A9 E:=by exact Ad) (hO:O:=by exact Af) (h1:A9 E1:=by exact Ad) (J:A9 E2:=by exact Ad):XG c B k m s:=by
 refine E7 h (hE:=hE) (hO:=hO) λ w M z=>?_
 obtain⟨q,K,i⟩:=EI (Hr:=c.Hr) C
 exact RL.delete z.st K (AF A h1) (AF hx J) D j hl (Hs':=HD (D4 s'.H kk (.ho (.raw b (BN ik l' cl))))++c.Hr) (i (.ho (.raw b (BN ik l' cl)))).symm λ w' hS=>E8 G ⟨hS,z.f,z.le⟩ U
theorem qV(kk:Nat)(u:Value)(q:Bool){v:Value}{gd:Option (Nat×Bool)}{W:Gd}(h:run c.T c.N k m s=⟨k',.ops all (⟨some d,.lookup t x y true,ty,ps,af,gd⟩::rest),s',O,E⟩)(hg:(HN all s'.L gd,Nat.blt d c.N)=(some W,true))
  (hx:B5 s'.L W x=some (.v (.map (some b)),E1)) (z:B5 s'.L W y=some (.v (.int ik n),E2)) (A:DO s'.H kk=some (.ho (.raw b (BN ik l cl)))) (C:c.P.underlying t=some (.map kt e)) (j:c.P.underlying kt=some (.int ik)) (D: ∀w,(zeroValue e).run c.P w= .ok v w) (hu:(C2 l n).getD v=u/\(C2 l n).isSome=q)
  (G:XG c B k' (.ops all rest) ⟨s'.F,s'.H,(d,W,.tu [.v u,.v (.bool q)])::s'.L⟩)
  (hE:A9 E:=by exact Ad) (hO:O:=by exact Af) (h1:A9 E1:=by exact Ad) (J:A9 E2:=by exact Ad):XG c B k m s:=by
 refine AU (.tu [.v u,.v (.bool q)]) h hg (λ w M K=>?_) G (hE:=hE) (hO:=hO)
 obtain⟨i,hi,_⟩:=EI (Hr:=c.Hr) A
 exact PV.AA2 K.st HJ hi (AF hx h1) (AF z J) C j D hu.1 hu.2
theorem AV1(kk n:Nat)(h:run c.T c.N k m s=⟨k',.ops all (⟨some d,.range t x,ty,ps,af,none⟩::rest),s',O,E⟩)
  (hx:B5 s'.L .t x=some (.v (.map (some b)),E1)) (q:DO s'.H kk=some (.ho (.raw b (BN ik l cl)))) (y:c.P.underlying t=some (.map kt e))
  (z: ∀r,XG c B k' (.ops all rest) ⟨s'.F,(n,.ho (.raw r (.mapIter (some b) cl #[] cl)))::s'.H,(d,.t,.v (.pointer (some ⟨r,0,none⟩)))::s'.L⟩)
  (hE:A9 E:=by exact Ad) (hO:O:=by exact Af) (hE1:A9 E1:=by exact Ad) (hd:Nat.blt d c.N=true:=by exact rfl):XG c B k m s:=by
 refine E7 h (hE:=hE) (hO:=hO) λ w M j=>?_
 obtain⟨i,hi,_⟩:=EI (Hr:=c.Hr) q
 exact RL.AA0 j.st hi (AF hx hE1) y hd λ w' r hS=>E8 (z r) ⟨hS,j.f,j.le⟩ U
theorem AV2(kk z:Nat){since c0:Nat}{seen:Array Nat}(h:run c.T c.N k m s=⟨k',.ops all (⟨some d,.next x false,ty,ps,af,none⟩::rest),s',O,E⟩)
  (hx:B5 s'.L .t x=some (.v (.pointer (some ⟨r,0,none⟩)),E1)) (G:DO s'.H kk=some (.ho (.raw b (BN ik l cl)))) (J:DO s'.H z=some (.ho (.raw r (.mapIter (some b) since seen c0))))
  (hold: ∀p∈l,p.born<since) (A:since<=c0)
  (h1: ∀p∈l,¬seen.contains p.born=true->XG c B k' (.ops all rest) ⟨s'.F,D4 s'.H z (.ho (.raw r (.mapIter (some b) since (seen.push p.born) cl))),(d,.t,.tu [.v (.bool true),.v (.int ik p.key),.v p.val])::s'.L⟩)
  (K:(∀p∈l,seen.contains p.born=true)->XG c B k' (.ops all rest) ⟨s'.F,s'.H,(d,.t,.tu [.v (.bool false)])::s'.L⟩)
  (hE:A9 E:=by exact Ad) (hO:O:=by exact Af) (hE1:A9 E1:=by exact Ad) (hd:Nat.blt d c.N=true:=by exact rfl):XG c B k m s:=by
 refine E7 h (hE:=hE) (hO:=hO) λ w M y=>?_
 obtain⟨i,hi,_⟩:=EI (Hr:=c.Hr) G
 obtain⟨j,C,n⟩:=EI (Hr:=c.Hr) J
 refine RL.AA1 y.st hi C (AF hx hE1) hold A hd (λ p hp D w' hS=>E8 (h1 p hp D) ⟨?_,y.f,y.le⟩ U) (λ q=>E8 (K q) y U)
 have e:=n (.ho (.raw r (.mapIter (some b) since (seen.push p.born) cl)))
 show St c.w0 c.M0 w' M (HD (D4 s'.H z (.ho (.raw r (.mapIter (some b) since (seen.push p.born) cl))))++c.Hr)
 rw[e];exact hS
theorem AV3(kk q:Nat)(p:KV)(u:Value){since:Nat}{seen:Array Nat}{gd:Option (Nat×Bool)}{W:Gd}(h:run c.T c.N k m s=⟨k',.ops all (⟨some d,.entry x,ty,ps,af,gd⟩::rest),s',O,E⟩)(hg:(HN all s'.L gd,Nat.blt d c.N)=(some W,true))
  (hx:B5 s'.L W x=some (.v (.pointer (some ⟨r,0,none⟩)),E1)) (y:DO s'.H kk=some (.ho (.raw b (BN ik l cl)))) (z:DO s'.H q=some (.ho (.raw r (.mapIter (some b) since (seen.push p.born) cl))))
  (hp:p∈l) (e:(l.map (·.born)).Nodup) (hu:p.val=u) (A:XG c B k' (.ops all rest) ⟨s'.F,s'.H,(d,W,.tu [.v (.int ik p.key),.v u])::s'.L⟩)
  (hE:A9 E:=by exact Ad) (hO:O:=by exact Af) (hE1:A9 E1:=by exact Ad):XG c B k m s:=
 AU (.tu [.v (.int ik p.key),.v u]) h hg (λ w M C=>by
  obtain⟨i,hi,_⟩:=EI (Hr:=c.Hr) y
  obtain⟨j,n,_⟩:=EI (Hr:=c.Hr) z
  exact .AA7 C.st HJ hi n (AF hx hE1) hp e hu) A (hE:=hE) (hO:=hO)
theorem AV4{q:A0}{j:List Int}{D:TypeId}{i:TypeInfo}{v:Value}{kk:Nat}{g1:Mem->Prop}{A: ∀M M',M.le M'->g1 M->g1 M'}{inh:Inhabited Int}(h:run c.T c.N k m s=⟨k',.ops all (⟨some d,.call ⟨.builtin .append,#[x,y],#[t,D]⟩,ty,ps,af,none⟩::rest),s',O,E⟩)
  (hx:IA s'.L .t x y=some (.sl kk v,.v (str q),E1)) (G:(KI s'.F kk,DO s'.H kk)=(some (@Kn.mk Int inh v 1 j BU g1 A),some (.ho (.own e 1 v j.length (j.flatMap BU))))) (J:c.P.underlying t=some (.slice e)) (hu:c.P.underlying D=some .string) (hi:c.P.info? e=some i) (K:i.zero=some (.int .u8 0)) (z:(i.size,i.bytes,Nat.blt d c.N)=(1,1,true))
  (Q:len j+len q<=140737488355328) (R: ∀v',XG c B k' (.ops all rest) ⟨(kk,kn v' 1 (j++ints q) BU)::s'.F,D4 s'.H kk (.ho (.own e 1 v' (j++ints q).length ((j++ints q).flatMap BU))),(d,.t,.sl kk v')::s'.L⟩)
  (hE:A9 E:=by exact Ad) (hO:O:=by exact Af) (hE1:A9 E1:=by exact Ad):XG c B k m s:=by
 simp only[Prod.mk.injEq]at G z
 refine E7 h (hE:=hE) (hO:=hO) λ w M C=>?_
 obtain⟨n,l,b⟩:=EI (Hr:=c.Hr) G.2
 refine RL.AA8 C.st l (GA hx hE1).1 (GA hx hE1).2 J hu hi K z.1 z.2.1 Q z.2.2 (Hs':=λ v'=>HD (D4 s'.H kk (.ho (.own e 1 v' (j++ints q).length ((j++ints q).flatMap BU))))++c.Hr) (λ v'=>(b (.ho (.own e 1 v' (j++ints q).length ((j++ints q).flatMap BU)))).symm) λ v' w' M' hS hle=>E8 (R v') ⟨hS,AA ⟨?_,G8,trivial⟩ (C.f.mono hle),C.le.trans hle⟩ U
 have S:=b (.ho (.own e 1 v' (j++ints q).length ((j++ints q).flatMap BU)))
 rw[S]at hS
 exact hS.sl (i:=n) (by rw[List.getElem?_set_self (List.getElem?_eq_some_iff.1 l).1];rfl)
theorem AV5(kk:Nat){q:A0}(h:run c.T c.N k m s=⟨k',.ops all (⟨some d,.convert t kt x,ty,ps,af,none⟩::rest),s',O,E⟩)(hx:B5 s'.L .t x=some (.v (str q),E1))(j:c.P.underlying t=some .string)(l:c.P.underlying kt=some (.slice e))(he:c.P.underlying e=some (.int .u8))(hl:len q<=140737488355328)
  (n: ∀v,XG c B k' (.ops all rest) ⟨(kk,kn v 1 (ints q) BU)::s'.F,s'.H,(d,.t,.sl kk v)::s'.L⟩)
  (hE:A9 E:=by exact Ad) (hO:O:=by exact Af) (hE1:A9 E1:=by exact Ad) (hd:Nat.blt d c.N=true:=by exact rfl):XG c B k m s:=
 E7 h (hE:=hE) (hO:=hO) λ w M b=>RL.bytes b.st (AF hx hE1) j l he hl hd λ v w' M' hS hle i=>E8 (n v) ⟨hS,AA ⟨i,G8,trivial⟩ (b.f.mono hle),b.le.trans hle⟩ U
theorem NM(q:Int){e:TypeId}{i:IntKind}{a:Int}{gd:Option (Nat×Bool)}{W:Gd}(h:run c.T c.N k m s=⟨k',.ops all (⟨some d,.binOp .shr t x y e,ty,ps,af,gd⟩::rest),s',O,E⟩)(hg:(HN all s'.L gd,Nat.blt d c.N)=(some W,true))
  (hx:IA s'.L W x y=some (.v (.int ik a),.v (.int i n),E1)) (b:((0:Int)<=n/\n<=ik.bits)/\(2:Int)^n.toNat=q) (j:XG c B k' (.ops all rest) ⟨s'.F,s'.H,(d,W,.v (.int ik (a/q)))::s'.L⟩)
  (hE:A9 E:=by exact Ad) (hO:O:=by exact Af) (hE1:A9 E1:=by exact Ad):XG c B k m s:=
 AU _ h hg (λ w M l=>.qS (GA hx hE1).1 (GA hx hE1).2 (λ _=>b.1.1) λ _=>by
  rw[show min n.toNat ik.bits=n.toNat from by have:=b.1.2;omega,b.2]
  exact Int.fdiv_eq_ediv_of_nonneg _ (by rw[<-b.2];exact Int.pow_nonneg Ab)) j (hE:=hE) (hO:=hO)
theorem fY(j:Nat){i:Int}{l:Nat}{gd:Option (Nat×Bool)}{W:Gd}(h:run c.T c.N k m s=⟨k',.ops all (⟨some d,.indexAddr t x y,ty,ps,af,gd⟩::rest),s',O,E⟩)(hg:(HN all s'.L gd,Nat.blt d c.N)=(some W,true))
  (hx:IA s'.L W x y=some (.bx l b 0,.v (.int ik i),E1)) (n:c.P.underlying t=some (.array cl e)) (q: ∀w,(sizeOf e).run c.P w= .ok 1 w) (z:Nat.blt j cl=true) (hi:W.d=true->i=(j:Int)) (A:XG c B k' (.ops all rest) ⟨s'.F,s'.H,(d,W,.bx l b j)::s'.L⟩)
  (hE:A9 E:=by exact Ad) (hO:O:=by exact Af) (hE1:A9 E1:=by exact Ad):XG c B k m s:=
 AU _ h hg (λ w M D=>by
  have:=PV.l7 (P:=c.P) (C:=(· =w)) (d:=some d) (ty:=ty) (ps:=ps) (af:=af) (gd:=gd) j (GA hx hE1).1 (GA hx hE1).2 n q hi z
  simpa[XV.d,XV.d1,XV.d0]using this) A (hE:=hE) (hO:=hO)
theorem GU(r:Int){b:BinOp}{i:TypeId}{a:Int}{gd:Option (Nat×Bool)}{W:Gd}(h:run c.T c.N k m s=⟨k',.ops all (⟨some d,.binOp b t x y i,ty,ps,af,gd⟩::rest),s',O,E⟩)(hg:(HN all s'.L gd,Nat.blt d c.N)=(some W,true))
  (hx:IA s'.L W x y=some (.v (.int ik a),.v (.int ik n),E1)) (e:W.d=true->bits b ik a n=r) (j:XG c B k' (.ops all rest) ⟨s'.F,s'.H,(d,W,.v (.int ik r))::s'.L⟩)
  (l:b= .and\/b= .or:=by simp) (hE:A9 E:=by exact Ad) (hO:O:=by exact Af) (hE1:A9 E1:=by exact Ad):XG c B k m s:=
 AU _ h hg (λ w M q=>by
  rcases l with rfl|rfl
  ·exact .fX (GA hx hE1).1 (GA hx hE1).2 e
  ·exact .orK (GA hx hE1).1 (GA hx hE1).2 e) j (hE:=hE) (hO:=hO)
theorem NN(r:Int){b:IntKind}{a:Int}{gd:Option (Nat×Bool)}{W:Gd}(h:run c.T c.N k m s=⟨k',.ops all (⟨some d,.convert t kt x,ty,ps,af,gd⟩::rest),s',O,E⟩)(hg:(HN all s'.L gd,Nat.blt d c.N)=(some W,true))
  (hx:B5 s'.L W x=some (.v (.int ik a),E1)) (e:c.P.underlying t=some (.int ik)) (i:c.P.underlying kt=some (.int b)) (j:W.d=true->b.wrap a=r) (l:XG c B k' (.ops all rest) ⟨s'.F,s'.H,(d,W,.v (.int b r))::s'.L⟩)
  (hE:A9 E:=by exact Ad) (hO:O:=by exact Af) (hE1:A9 E1:=by exact Ad):XG c B k m s:=
 AU _ h hg (λ w M n=>.aS (AF hx hE1) e i j) l (hE:=hE) (hO:=hO)
end
def NO(n:Nat):TT->TT
 |[]=>[]
 |(t,d)::T=>match Nat.beq t n with
  |true=>NO n T
  |false=>(t,d)::NO n T
theorem fZ(n:Nat): ∀T:TT,G0 (NO n T) n=none
 |[]=>rfl
 |(t,d)::T=>by
  unfold NO
  split
  ·exact fZ n T
  ·rename_i e
   unfold G0
   rw[e];exact fZ n T
theorem gA{n t:Nat}{b:TD}: ∀ {T:TT},G0 (NO n T) t=some b->G0 T t=some b
 |[],h=>h
 |(u,d)::T,h=>by
  unfold NO at h
  unfold G0
  cases e2:Nat.beq u t with
  |true=>
   cases e:Nat.beq u n with
   |true=>
    rw[e]at h
    have:=fZ n T
    rw[<-Nat.eq_of_beq_eq_true e,Nat.eq_of_beq_eq_true e2,show NO t T=NO n T from by rw[<-Nat.eq_of_beq_eq_true e,Nat.eq_of_beq_eq_true e2]]at this
    rw[h]at this;cases this
   |false=>rw[e]at h;unfold G0 at h;rw[e2]at h;exact h
  |false=>
   cases e:Nat.beq u n with
   |true=>rw[e]at h;exact gA h
   |false=>rw[e]at h;unfold G0 at h;rw[e2]at h;exact gA h
theorem DP.AV6 (n:Nat){P:Program}{T:TT}(h:DP P T):DP P (NO n T):=λ t b e=>h t b (gA e)
end Go.Eng
namespace Go.Proofs.YtnoegalemkbbbaaGreatDoor
open Go.Proofs.Tryz
open Go.Eng Go.RowKit
abbrev tB:=244
set_option maxHeartbeats 1000000 in
set_option maxRecDepth 100000 in
theorem AV7(b:Nat)(w:World)(h0:w.cell? ⟨b,0,none⟩=some (.pointer (some ⟨b,0,none⟩))):
  Calls prog 251 #[.pointer (some ⟨b,0,none⟩)] w λ e w'=>e= .returned (.tuple #[])/\w'=w:=by
 obtain⟨j,h,_⟩:=Option.map_eq_some_iff.1 (show(prog.info? 244).map (·.size)=some 2 by kernel_rfl)
 have mixed:prog.follows .mixedOrders=true:=by kernel_rfl
 have i:=λ w=>run_underlying (P:=prog) (w:=w) underlying242
 go_enter func251,ntmps251
 go_wp2
 rw[Lib.run_neq_ptr_same w _ underlying242 h]
 go_wp2
 go_end0
 exact⟨rfl,rfl⟩
set_option maxHeartbeats 1000000 in
set_option maxRecDepth 100000 in
theorem AV8(b:Nat)(w:World)(h0:w.cell? ⟨b,0,none⟩=some (.pointer none))(h:w.shape? b=some (244,2))(l:w.frozen? ⟨b,0,none⟩=false):
  Calls prog 251 #[.pointer (some ⟨b,0,none⟩)] w λ e w'=>e= .returned (.tuple #[])/\w'=w.setCell ⟨b,0,none⟩ (.pointer (some ⟨b,0,none⟩)):=by
 obtain⟨j,k,i⟩:=Option.map_eq_some_iff.1 (show(prog.info? 244).map (·.size)=some 2 by kernel_rfl)
 have mixed:prog.follows .mixedOrders=true:=by kernel_rfl
 have n:=λ w=>run_underlying (P:=prog) (w:=w) underlying242
 go_enter func251,ntmps251
 go_wp2
 rw[Lib.run_to_unsafe w ⟨b,0,none⟩ underlying242 underlying289 k (by rw[i];decide) h (Nat.zero_lt_succ 1)]
 simp only[Result.andThen]
 rw[Oper.upon_value]
 go_wp2
 rw[run_callFunc_extern func274 Ai Ai Ai (e:=Extern.AbiNoEscape.same) Ai]
 rw[Lib.run_noEscape]
 simp only[Result.andThen]
 rw[Oper.upon_value]
 go_wp2
 rw[Lib.run_from_unsafe w ⟨b,0,none⟩ underlying289 underlying242 k h Ai]
 simp only[Result.andThen]
 rw[Oper.upon_value]
 go_wp2
 go_end0
 exact⟨rfl,rfl⟩
set_option maxRecDepth 100000
open Go.Eng
abbrev DK(r:Int):List Int:=Lib.encodeRuneZ r
abbrev IZ(v:Value)(l:List Int):HO:=.own 5 1 v l.length (l.flatMap BU)
theorem AV9{w0 q:World}{M0 M:Mem}{Rs:List HO}(l:List Int)(r:Int)(v:Value)(hS:St w0 M0 q M (IZ v l::Rs))(hl:len l<=70368744177664)(D:128<=r/\r<=1114111):
    Calls prog 275 [v,.int .i32 r].toArray q (BY w0 M0 M Rs (λ u:Value=>u) (λ _=>True) (λ u=>[(0,kn u 1 (l++DK r) BU)]) λ u=>[IZ u (l++DK r)]):=by
 have A:=A6 l
 refine AE (Hr:=Rs) (DP.AV6 5 A8) func275 U ntmps275 [(0,kn v 1 l BU)] [(0,.ho (IZ v l))] [.sl 0 v,.v (.int .i32 r)] U hS (AA ⟨hS.sl (i:=0) U,G8,trivial⟩ A3) (λ B j=>?_) U
 refine A1 U (λ h1=>?_) (λ h1=>?_)<;>simp only[zb]at h1
 ·refine NM 64 U U U Ab <|NN (r/64) U U U underlying21 underlying5 (λ _=>by rw[IntKind.wrap_u8];omega) <|GU (192+r/64) U U U (λ _=>u8_or192 _ Aa Aa) <|NN (r%256) U U U underlying21 underlying5 (λ _=>IntKind.wrap_u8 _) <|GU (r%64) U U U (λ _=>by rw[u8_and63 _ Aa Aa];omega) <|GU (128+r%64) U U U (λ _=>u8_or128 _ Aa Aa) ?_
  rw[show DK r=[192+r/64,128+r%64]from Lib.encodeRuneZ_two Aa Aa]at j
  exact B9 1 [192+r/64,128+r%64] BU 1 5 G8 U U Ah U λ v1=>EC 1 U U U underlying216 type5 U U RH (by simp only[AH,len_nil];omega) λ v'=>A2 j U U U λ w M' e=>⟨v',M',rfl,trivial,e.le,e.C8 [0] U,AA (e.f.get (k:=0) U) A3⟩
 ·refine CZ 0 (λ st=> ∃b:Bool,(b=true↔r<55296\/57343<r/\r<=65535)/\st=⟨[(0,kn v 1 l BU)],[(0,.ho (IZ v l))],[Z 0 (.sl 0 v),Z 1 (.v (.int .i32 r)),Z 5 (.v (.int .u32 r)),Z 25 (.v (.bool b))]⟩) U U (λ s=>?_) (λ s=>?_) ?_<;>try simp only[zb]at s
  ·exact AQ _ U U ⟨_,by simp only[zb];omega,rfl⟩
  ·exact AQ _ U U ⟨_,by simp only[zb];omega,rfl⟩
  rintro _ ⟨b,y,rfl⟩
  refine A1 U (λ n=>?_) (λ n=>?_)
  ·have C:=y.1 n
   refine NM 4096 U U U Ab <|NN (r/4096) U U U underlying21 underlying5 (λ _=>by rw[IntKind.wrap_u8];omega) <|GU (224+r/4096) U U U (λ _=>u8_or224 _ Aa Aa) <|NM 64 U U U Ab <|NN (r/64%256) U U U underlying21 underlying5 (λ _=>IntKind.wrap_u8 _) <|GU (r/64%64) U U U (λ _=>by rw[u8_and63 _ Aa Aa];omega) <|GU (128+r/64%64) U U U (λ _=>u8_or128 _ Aa Aa) <|NN (r%256) U U U underlying21 underlying5 (λ _=>IntKind.wrap_u8 _) <|GU (r%64) U U U (λ _=>by rw[u8_and63 _ Aa Aa];omega) <|GU (128+r%64) U U U (λ _=>u8_or128 _ Aa Aa) ?_
   rw[show DK r=[224+r/4096,128+r/64%64,128+r%64]from Lib.encodeRuneZ_three Aa]at j
   exact B9 1 [224+r/4096,128+r/64%64,128+r%64] BU 1 5 G8 U U Ah U λ v1=>EC 1 U U U underlying216 type5 U U RH (by simp only[AH,len_nil];omega) λ v'=>A2 j U U U λ w M' e=>⟨v',M',rfl,trivial,e.le,e.C8 [0] U,AA (e.f.get (k:=0) U) A3⟩
  ·have C: ¬(r<55296\/57343<r/\r<=65535):=λ h=>by rw[y.2 h]at n;cases n
   refine A1 U (λ z=>?_) (λ z=>?_)<;>simp only[zb]at z
   ·refine NM 262144 U U U Ab <|NN (r/262144) U U U underlying21 underlying5 (λ _=>by rw[IntKind.wrap_u8];omega) <|GU (240+r/262144) U U U (λ _=>u8_or240 _ Aa Aa) <|NM 4096 U U U Ab <|NN (r/4096%256) U U U underlying21 underlying5 (λ _=>IntKind.wrap_u8 _) <|GU (r/4096%64) U U U (λ _=>by rw[u8_and63 _ Aa Aa];omega) <|GU (128+r/4096%64) U U U (λ _=>u8_or128 _ Aa Aa) <|NM 64 U U U Ab <|NN (r/64%256) U U U underlying21 underlying5 (λ _=>IntKind.wrap_u8 _) <|GU (r/64%64) U U U (λ _=>by rw[u8_and63 _ Aa Aa];omega) <|GU (128+r/64%64) U U U (λ _=>u8_or128 _ Aa Aa) <|NN (r%256) U U U underlying21 underlying5 (λ _=>IntKind.wrap_u8 _) <|GU (r%64) U U U (λ _=>by rw[u8_and63 _ Aa Aa];omega) <|GU (128+r%64) U U U (λ _=>u8_or128 _ Aa Aa) ?_
    rw[show DK r=[240+r/262144,128+r/4096%64,128+r/64%64,128+r%64]from Lib.encodeRuneZ_four Aa Aa]at j
    exact B9 1 [240+r/262144,128+r/4096%64,128+r/64%64,128+r%64] BU 1 5 G8 U U Ah U λ v1=>EC 1 U U U underlying216 type5 U U RH (by simp only[AH,len_nil];omega) λ v'=>A2 j U U U λ w M' e=>⟨v',M',rfl,trivial,e.le,e.C8 [0] U,AA (e.f.get (k:=0) U) A3⟩
   ·rw[show DK r=[239,191,189]from Lib.encodeRuneZ_bad Aa]at j
    exact B9 1 [239,191,189] BU 1 5 G8 U U Ah U λ v1=>EC 1 U U U underlying216 type5 U U RH (by simp only[AH,len_nil];omega) λ v'=>A2 j U U U λ w M' e=>⟨v',M',rfl,trivial,e.le,e.C8 [0] U,AA (e.f.get (k:=0) U) A3⟩
theorem AW0{w0 h:World}{M0 M:Mem}{Rs:List HO}(l:List Int)(r:Int)(v:Value)(hS:St w0 M0 h M (IZ v l::Rs))(hl:len l<=70368744177664)(n:0<=r/\r<=1114111):
   Calls prog 252 [v,.int .i32 r].toArray h (BY w0 M0 M Rs (λ u:Value=>u) (λ _=>True) (λ u=>[(0,kn u 1 (l++DK r) BU)]) λ u=>[IZ u (l++DK r)]):=by
 have j:=A6 l
 refine AE (Hr:=Rs) A8 func252 U ntmps252 [(0,kn v 1 l BU)] [(0,.ho (IZ v l))] [.sl 0 v,.v (.int .i32 r)] U hS (AA ⟨hS.sl (i:=0) U,G8,trivial⟩ A3) (λ B e=>?_) U
 refine A1 U (λ h1=>?_) (λ h1=>?_)<;>simp only[zb]at h1
 ·rw[show DK r=[r]from Lib.encodeRuneZ_one Aa Aa]at e
  exact B9 1 [r] BU 1 5 G8 U U Ah U λ v1=>EC 1 U U U underlying216 type5 U U RH (by simp only[AH,len_nil];omega) λ v'=>A2 e U U U λ w M' b=>⟨v',M',rfl,trivial,b.le,b.C8 [0] U,AA (b.f.get (k:=0) U) A3⟩
 ·exact AY [0] (λ u:Value=>.sl 0 u) [0] (λ u=>[(0,.ho (IZ u (l++DK r)))]) U U call275 U U (λ w M hS hF=>AV9 l r v hS hl Aa) λ u _=>A2 e U U U λ w M' b=>⟨u,M',rfl,trivial,b.le,b.C8 [0] U,AA (b.f.get (k:=0) U) A3⟩
abbrev EO(b:Nat):Value:=.pointer (some ⟨b,0,none⟩)
abbrev VB(b:Nat)(a u:Value)(l:List Int):List HO:=[.box b [a,u] 244,IZ u l]
abbrev MS(b:Nat)(a u:Value)(l:List Int):List (Nat×HX):=[(1,.box b [.v a,.sl 2 u] 244),(2,.ho (IZ u l))]
abbrev gB(w0:World)(M0 M:Mem)(Rs:List HO)(b:Nat)(l:List Int)(u:Value):Ending->World->Prop:=BY w0 M0 M Rs (λ _:Value=>u) (λ _=>True) (λ _=>[]) λ v=>VB b (EO b) v l
theorem AW1{w:World}{b:Nat}{a v x:Value}{t:TypeId}(h:w.heap[b]? =some (.cells #[a,v] t (0,0))):w.setCell ⟨b,0,none⟩ x=w.setRow b #[x,v]:=by
 unfold World.setCell World.setRow
 congr 1
 apply Array.ext_getElem?
 intro i
 by_cases hi:b=i
 ·subst hi;simp[Array.getElem?_modify,h]
 ·simp[Array.getElem?_modify,hi]
theorem gC{w0 k:World}{M0 M:Mem}{Rs:List HO}(b:Nat)(a v:Value)(hS:St w0 M0 k M (.box b [a,v] tB::Rs))(l:a= .pointer none\/a=EO b):
  Calls prog 251 [EO b].toArray k (BY w0 M0 M Rs (λ u:Value=>u) (λ _=>True) (λ _=>[]) λ _=>[.box b [EO b,v] tB]):=by
 have j:=(hS.obj (i:=0) U).2.1
 rcases l with rfl|rfl
 ·refine(AV8 b k (by simp[World.cell?,j]) (by simp[World.shape?,j]) (by simp[World.frozen?,j])).mono λ e w' ⟨he,hw⟩=>⟨_,M,he,trivial,λ _ _ _ h=>h,?_,A3⟩
  rw[hw,AW1 j]
  exact hS.kE (i:=0) U [EO b,v]
 ·exact(AV7 b k (by simp[World.cell?,j])).mono λ e w' ⟨he,hw⟩=>⟨_,M,he,trivial,λ _ _ _ h=>h,hw▸hS,A3⟩
theorem YV{w0 e:World}{M0 M:Mem}{Rs:List HO}(b:Nat)(a u:Value)(l:List Int)(x:Int)(hS:St w0 M0 e M (VB b a u l++Rs))(j:a= .pointer none\/a=EO b)(hl:len l<=35184372088832):
  Calls prog 229 [EO b,.int .u8 x].toArray e (gB w0 M0 M Rs b (l++[x]) .nilIface):=AE (Hr:=Rs) A8 func229 U ntmps229 [(2,kn u 1 l BU)] (MS b a u l) [.bx 1 b 0,.v (.int .u8 x)] U hS (AA ⟨hS.sl (i:=1) U,G8,trivial⟩ A3) (λ B k=>AY [1] (λ u:Value=>.v u) [] (λ _=>[(1,.box b [.v (EO b),.sl 2 u] tB)]) U U call251 U U (λ w M hS hF=>gC b a u hS j) λ _ _=>B9 3 [x] BU 1 5 G8 U U Ah U λ v3=>EC 1 U U U underlying216 type5 U U RH (by simp only[AH,len_nil];omega) λ v'=>A2 k U U U λ w M' h=>⟨v',M',rfl,trivial,h.le,h.C8 [1,2] U,A3⟩) U
theorem qW{w0 e:World}{M0 M:Mem}{Rs:List HO}(b:Nat)(a u:Value)(l:List Int)(x:A0)(hS:St w0 M0 e M (VB b a u l++Rs))(j:a= .pointer none\/a=EO b)(hl:len l<=35184372088832)(hx:len x<=35184372088832):
  Calls prog 230 [EO b,str x].toArray e (gB w0 M0 M Rs b (l++ints x) (.tuple #[i64 (len x),.nilIface])):=AE (Hr:=Rs) A8 func230 U ntmps230 [(2,kn u 1 l BU)] (MS b a u l) [.bx 1 b 0,.v (str x)] U hS (AA ⟨hS.sl (i:=1) U,G8,trivial⟩ A3) (λ B k=>AY [1] (λ u:Value=>.v u) [] (λ _=>[(1,.box b [.v (EO b),.sl 2 u] tB)]) U U call251 U U (λ w M hS hF=>gC b a u hS j) λ _ _=>AV4 U U U underlying216 underlying9 type5 U U Aa λ v'=>A2 k U U U λ w M' h=>⟨v',M',rfl,trivial,h.le,h.C8 [1,2] U,A3⟩) U
theorem gD(r:Int):1<=len (DK r)/\len (DK r)<=4:=by have:=Lib.encodeRuneZ_length r;unfold len DK;omega
theorem qX{w0 e:World}{M0 M:Mem}{Rs:List HO}(b:Nat)(a u:Value)(l:List Int)(r:Int)(hS:St w0 M0 e M (VB b a u l++Rs))(j:a= .pointer none\/a=EO b)(hl:len l<=35184372088832)(k:0<=r/\r<=1114111):
  Calls prog 227 [EO b,.int .i32 r].toArray e (gB w0 M0 M Rs b (l++DK r) (.tuple #[i64 (len (DK r)),.nilIface])):=by
 have s:=gD r
 have n:=A6 l
 exact AE (Hr:=Rs) A8 func227 U ntmps227 [(2,kn u 1 l BU)] (MS b a u l) [.bx 1 b 0,.v (.int .i32 r)] U hS (AA ⟨hS.sl (i:=1) U,G8,trivial⟩ A3) (λ B q=>AY [1] (λ u:Value=>.v u) [] (λ _=>[(1,.box b [.v (EO b),.sl 2 u] tB)]) U U call251 U U (λ w M hS hF=>gC b a u hS j) λ _ _=>AY [2] (λ v:Value=>.sl 2 v) [2] (λ v=>[(2,.ho (IZ v (l++DK r)))]) U U call252 U U (λ w M hS hF=>AW0 l r u hS Aa k) λ v _=>A2 q U U U (λ w M' h=>⟨v,M',by rw[AN,show len l+len (DK r)-len l=len (DK r)from by omega];rfl,trivial,h.le,h.C8 [1,2] U,A3⟩) (hO:=by simp only[AN];and_intros<;>first|omega|trivial)) U
def GK(c:Int):Int:=((c.toNat|||32:Nat):Int)
theorem AW2{c:Int}(h0:0<=c)(h1:c<=255):bits .or .u8 c 32=GK c:=u8_or c 32 h0 Aa Ab Ab
def qY(c:Int):Bool:=
 decide (GK c<=255)&&(decide (48<=c/\c<=57)||(if 97<=GK c/\GK c<=122 then(if GK c<=102 then decide (GJ c=GK c-87)else decide (GJ c= -1))else decide (GJ c= -1)))
theorem AW3:(List.range 256).all (λ n=>qY (n:Int))=true:=by decide+kernel
theorem AW4{c:Int}(h0:0<=c)(h1:c<=255):(0<=GK c/\GK c<=255)/\(97<=GK c->GK c<=122-> ¬(48<=c/\c<=57)->(GK c<=102->GJ c=GK c-87)/\(102<GK c->GJ c= -1))/\
  (¬(97<=GK c/\GK c<=122)-> ¬(48<=c/\c<=57)->GJ c= -1):=by
 have h:=List.all_eq_true.1 AW3 c.toNat (List.mem_range.2 Aa)
 rw[show((c.toNat:Nat):Int)=c from by omega]at h
 have k:0<=GK c:=by unfold GK;omega
 unfold qY at h
 simp only[Bool.and_eq_true,Bool.or_eq_true,decide_eq_true_eq]at h
 generalize GK c=y at*
 generalize GJ c=z at*
 refine⟨⟨k,h.1⟩,λ e l i=>?_,λ e i=>?_⟩
 ·rcases h.2 with b|b
  ·exact absurd b i
  ·rw[if_pos ⟨e,l⟩]at b
   constructor
   ·intro j;rw[if_pos j]at b;simpa using b
   ·intro j;rw[if_neg Aa]at b;simpa using b
 ·rcases h.2 with b|b
  ·exact absurd b i
  ·rw[if_neg e]at b;simpa using b
theorem AW5{c:Int}(h:48<=c/\c<=57):GJ c=c-48:=by unfold GJ;rw[if_pos h]
theorem ints_at{s:A0}{k:Int}(h0:0<=k)(h1:k<len s):at' (ints s) k=A4 s k:=by
 have h:k.toNat<s.length:=by unfold len at h1;omega
 simp[at',ints,A4,h]
abbrev QN:A0:=[48,49,50,51,52,53,54,55,56,57,97,98,99,100,101,102,103,104,105,106,107,108,109,110,111,112,113,114,115,116,117,118,119,120,121,122]
theorem AW6: ∀n:Nat,n<16->A4 QN (n:Int)=OF (n:Int):=by decide+kernel
theorem qZ{n:Int}(h0:0<=n)(h1:n<16):A4 QN n=OF n:=by
 have:=AW6 n.toNat Aa
 rwa [show((n.toNat:Nat):Int)=n from by omega]at this
theorem r0(x:Int)(h0:0<=x)(h1:x<18446744073709551616):bits .and .u64 x 15=x%16:=by
 rw[u64_and x 15 h0 h1 Ab Ab]
 have h:x.toNat&&& 15=x.toNat%16:=Nat.and_two_pow_sub_one_eq_mod x.toNat 4
 show((x.toNat&&& (15:Nat):Nat):Int)=_
 rw[h];omega
theorem AW7{l:A0}{k:Int}(hl:len l=4)(h0:0<=k)(h1:k<4)(h:EK (Eng.sub l 0 k)=true):0<=FD (Eng.sub l 0 k)/\FD (Eng.sub l 0 k)<=4095:=
 AN3 h (by rw[FL Aa Aa Aa];omega)
theorem r6{P:Program}{f:FuncId}{args:Array Value}{w:World}{u:Value}(h:Calls P f args w λ e w'=>e= .returned u/\w'=w):Calls P f args w λ e w'=>e= .returned u/\Ext w w':=h.mono λ e w' ⟨h1,b⟩=>⟨h1,by rw[b];exact .refl _⟩
theorem r7{w0 e:World}{M0 M:Mem}{Rs:List HO}(hS:St w0 M0 e M Rs):
  Calls prog 249 [].toArray e (BY w0 M0 M Rs (λ b:Nat=>.map (some b)) (λ _=>True) (λ _=>[]) λ b=>[.raw b (BN .u8 C9 8)]):=AE (Hr:=Rs) A8 func249 U ntmps249 [] [] [] U hS A3 (λ B i=>qU 1 .u8 U λ b=>NL true 1 1 (C9.take 1) U U U U U underlying271 underlying5 U U <|NL true 1 2 (C9.take 2) U U U U U underlying271 underlying5 U U <|NL true 1 3 (C9.take 3) U U U U U underlying271 underlying5 U U <|NL true 1 4 (C9.take 4) U U U U U underlying271 underlying5 U U <|NL true 1 5 (C9.take 5) U U U U U underlying271 underlying5 U U <|NL true 1 6 (C9.take 6) U U U U U underlying271 underlying5 U U <|NL true 1 7 (C9.take 7) U U U U U underlying271 underlying5 U U <|NL true 1 8 (C9.take 8) U U U U U underlying271 underlying5 U U <|A2 i U U U λ w M' h=>⟨b,M',rfl,trivial,h.le,h.C8 [1] U,A3⟩) U
theorem AW8{w0 k:World}{M0 M:Mem}{Rs:List HO}(hS:St w0 M0 k M Rs):
    Calls prog 228 [].toArray k (BY w0 M0 M Rs (λ g:Nat×List KV×Nat=>.map (some g.1)) (λ g=> ∀r,(C2 g.2.1 r).getD (.int .u8 0)= .int .u8 (KN r)/\(C2 g.2.1 r).isSome=KM r) (λ _=>[]) λ g=>[.raw g.1 (BN .i32 g.2.1 g.2.2)]):=by
 refine AE (Hr:=Rs) A8 func228 U ntmps228 [] [] [] U hS A3 (λ B z=>qU 1 .i32 U λ b=>AY [] (λ b:Nat=>.v (.map (some b))) [] (λ b=>[(5,.ho (.raw b (BN .u8 C9 8)))]) U U call249 U U (λ w M hS hF=>r7 hS) λ n _=>AV1 5 6 U U U underlying271 λ r=>?_) U
 refine AT (σ:=Array Nat×Nat×List KV×Nat) (λ(h,c0,l,cl)=>⟨[],[(1,.ho (.raw b (BN .i32 l cl))),(5,.ho (.raw n (BN .u8 C9 8))),(6,.ho (.raw r (.mapIter (some n) 8 h c0)))],[Z 1 (.v (.map (some b))),Z 6 (.v (.pointer (some ⟨r,0,none⟩)))]⟩)
   (λ(h,c0,l,_)=>8<=c0/\Lets h l) (λ(h,_)=>(C9.filter (λ q=> !h.contains q.born)).length) (#[],8,[],0) U U ⟨Nat.le_refl _,AJ3⟩ ?_
 rintro⟨h,c0,l,cl⟩ ⟨A,s⟩
 refine AV2 5 6 U U U U AI2 A (λ p hp i=>?_) (λ j=>?_)
 ·exact A1 rfl (λ e=>AV3 5 6 p (.int .i32 (FC p)) U U U U U hp nJ (AI1 p hp) <|NL false 1 _ _ U U U U U underlying249 underlying21 U U <|AR (h.push p.born,8,M6 l cl (FC p) (.int .u8 p.key),PM l cl (FC p) (.int .u8 p.key)) U U ⟨Nat.le_refl _,s.step hp i⟩ (AI9 hp i)) (λ e=>by cases e)
 exact A1 rfl (λ e=>by cases e) (λ _=>AV0 1 (I7 l 47) U U U U underlying249 underlying21 U <|A2 z U U U λ w M' y=>⟨(b,I7 l 47,cl),M',rfl,AI8 s j,y.le,y.C8 [1] U,A3⟩)
theorem AW9(w:World):Calls prog 298 [i64 16].toArray w λ e w'=>e= .returned (.bool true)/\Ext w w':=AE A8 func298 U ntmps298 [] [] [I 16] U (BB w) A3 (λ B b=>GU 0 U U U (λ _=>by decide) <|A2 b U U U λ w M h=>⟨rfl,h.st.low⟩) U
theorem AX0(w:World)(hg:Gl w):Calls prog 324 [.int .u64 16].toArray w λ e w'=>e= .returned (i64 4)/\Ext w w':=AE A8 func324 U ntmps324 [] [] [.sl 9 (.int .u64 16)] U (BB w) A3 (λ B h=>AU (.v (.bool false)) U U (λ w M b=>.eql (AF (v:=.sl 9 (.int .u64 16)) (E:=[]) U) (AF (v:=.v (.int .u64 0)) (E:=[]) U)) <|A1 rfl (λ i=>by cases i) (λ _=>AU (.v (.int .u64 18446744073709551600)) U U (λ w M b=>.kA (AF (v:=.sl 9 (.int .u64 16)) (E:=[]) U) (λ _=>by decide)) <|AU (.v (.int .u64 16)) U U (λ w M b=>.fX (AF (v:=.sl 9 (.int .u64 16)) (E:=[]) U) (AF (v:=.v (.int .u64 18446744073709551600)) (E:=[]) U) (λ _=>by decide)) <|NM 288230376151711744 U U U Ab <|AU (.v (.pointer (some ⟨7,15,none⟩))) U U (λ w M b=>PV.l7 15 (AF (v:=.v (.pointer (some ⟨7,0,none⟩))) (E:=[]) U) (AF (v:=.v (.int .u64 (16*285870213051353865/288230376151711744))) (E:=[]) U) underlying342 sizeOf5 (λ _=>rfl) U) <|AU (.v (.int .u8 4)) U U (λ w M b=>.WD (AF (v:=.v (.pointer (some ⟨7,15,none⟩))) (E:=[]) U) isAgg5 (λ _ w0 h0=>h0▸(hg.low b.st.low).deb)) <|A2 h U U U λ w M b=>⟨rfl,b.st.low⟩)) U
theorem AX1(w:World)(hg:Gl w):Calls prog 299 [.int .u64 16].toArray w λ e w'=>e= .returned (i64 4)/\Ext w w':=AE A8 func299 U ntmps299 [] [] [.v (.int .u64 16)] U (BB w) A3 (λ B h=>A1 rfl (λ i=>by cases i) (λ _=>AB U call324 U U (λ _ w M b=>AX0 w (hg.low b.st.low)) U <|A2 h U U U λ w M b=>⟨rfl,b.st.low⟩)) U
def OR(r:Int):A0:=[49,(OF (r/16)).toNat.toUInt8,(OF (r%16)).toNat.toUInt8]
theorem AX2(r:Int)(q:Bool)(w:World)(hg:Gl w)(h:0<=r/\r<32)(y:q=false):Calls prog 279 [.slice none 0 0,.int .u64 (r+256),i64 16,.bool q,.bool false].toArray w λ e w'=>e= .returned (.tuple #[.slice none 0 0,str (OR r)])/\Ext w w':=by
 subst y
 refine AE A8 func279 U ntmps279 [] [] [.v (.slice none 0 0),.v (.int .u64 (r+256)),I 16,.v (.bool false),.v (.bool false)] U (BB w) A3 (λ B z=>?_) U
 have hd:=qZ (n:=(r+256)%16) Aa Aa
 have l:=qZ (n:=(r+256)/16%16) Aa Aa
 refine A1 U (λ j=>absurd j Ab) (λ _=>AZ 12 U zeroValue304 U λ b=>A1 rfl (λ j=>by cases j) (λ _=>AB U call298 U U (λ _ w M k=>AW9 w) U <|A1 rfl (λ _=>AB U call299 U U (λ _ w M k=>AX1 w (hg.low k.st.low)) U ?_) (λ j=>by cases j)))
 let c0:XV:=.v (.int .u8 (A4 QN ((r+256)%16)))
 let s:XV:=.v (.int .u8 (A4 QN ((r+256)/16%16)))
 refine AT (σ:=List XV×Int×Int) (λ(cs,u,p)=>⟨[],[(12,.box b cs 304)],[Z 1 (.v (.int .u64 u)),Z 3 (.v (.bool false)),Z 4 (.v (.bool false)),Z 10 (.v (.slice none 0 0)),Z 12 (.bx 12 b 0),Z 13 (I p),Z 14 (.v (.int .u64 4)),Z 15 (.v (.int .u64 16)),Z 16 (.v (.int .u64 15))]⟩)
   (λ g=>g=(List.replicate 65 (.v (.int .u8 0)),r+256,65)\/g=(List.replicate 64 (.v (.int .u8 0))++[c0],(r+256)/16,65-1)\/g=(List.replicate 63 (.v (.int .u8 0))++[s,c0],(r+256)/16/16,65-1-1)) (λ g=>g.2.2.toNat) (List.replicate 65 (.v (.int .u8 0)),r+256,65) U U (.inl U) ?_
 rintro _ (rfl|rfl|rfl)
 ·refine A1 U (λ _=>GU ((r+256)%16) U U U (λ _=>r0 _ Aa Aa) <|fY 64 U U U underlying304 sizeOf5 U (λ _=>rfl) ?_ (hO:=⟨⟨Aa,by show _<(36:Int);omega⟩,Ab⟩)) (λ j=>by simp only[zb]at j;omega)
  exact NM 16 U U U Ab <|AR (List.replicate 64 (.v (.int .u8 0))++[c0],(r+256)/16,65-1) U U (.inr (.inl U)) (by exact(by decide:(64:Int).toNat<(65:Int).toNat))
 ·refine A1 U (λ _=>GU (((r+256)/16)%16) U U U (λ _=>r0 _ Aa Aa) <|fY 63 U U U underlying304 sizeOf5 U (λ _=>rfl) ?_ (hO:=⟨⟨Aa,by show _<(36:Int);omega⟩,Ab⟩)) (λ j=>by simp only[zb]at j;omega)
  exact NM 16 U U U Ab <|AR (List.replicate 63 (.v (.int .u8 0))++[s,c0],(r+256)/16/16,65-1-1) U U (.inr (.inr U)) (by exact(by decide:(63:Int).toNat<(64:Int).toNat))
 refine A1 U (λ j=>by simp only[zb]at j;omega) (λ _=>fY 62 U U U underlying304 sizeOf5 U (λ _=>rfl) ?_ (hO:=⟨⟨Aa,by show _<(36:Int);omega⟩,Ab⟩))
 refine A1 rfl (λ j=>by cases j) (λ _=>A1 rfl (λ j=>by cases j) (λ _=>AU (.v (.slice (some ⟨b,62,none⟩) 3 3)) U U (λ w M k=>PV.slA 62 3 (AF (v:=.bx 12 b 0) (E:=[]) U) (AF (v:=I (65-1-1-1)) (E:=[]) U) underlying304 sizeOf5 (λ _=>rfl) U U) <|AU (.v (str (toStr [A4 QN ((r+256)/16/16),A4 QN ((r+256)/16%16),A4 QN ((r+256)%16)]))) U U (λ w M k=>PV.AB2 k.st HJ (i:=0) U (AF (v:=.v (.slice (some ⟨b,62,none⟩) 3 3)) (E:=[]) U) U U underlying216 underlying5 underlying9) <|A2 z U U U λ w M k=>⟨?_,k.st.low⟩))
 rw[hd,l,show(r+256)/16/16=1 from by omega,show(r+256)%16=r%16 from by omega,show(r+256)/16%16=r/16 from by omega];rfl
theorem AX3(r:Int)(w:World)(hg:Gl w)(h:0<=r/\r<32):Calls prog 253 [i64 (r+256),i64 16].toArray w λ e w'=>e= .returned (str (OR r))/\Ext w w':=AE A8 func253 U ntmps253 [] [] [I (r+256),I 16] U (BB w) A3 (λ B i=>A1 rfl (λ j=>by cases j) (λ _=>AB U call279 U U (λ _ w M b=>AX2 r _ w (hg.low b.st.low) h (by simp;omega)) U <|A2 i U U U λ w M b=>⟨rfl,b.st.low⟩)) U
theorem AX4(r:Int)(w:World)(hg:Gl w)(h:0<=r/\r<32):Calls prog 231 [i64 (r+256),i64 16].toArray w λ e w'=>e= .returned (str (OR r))/\Ext w w':=AE A8 func231 U ntmps231 [] [] [I (r+256),I 16] U (BB w) A3 (λ B i=>AB U call253 U U (λ _ w M b=>AX3 r w (hg.low b.st.low) h) U <|A2 i U U U λ w M b=>⟨rfl,b.st.low⟩) U
theorem r8{w0 j:World}{M0 M:Mem}{Rs:List HO}(b:Nat)(a v:Value)(bs:A0)(l:List Int)(hS:St w0 M0 j M (VB b a v l++Rs))(w:a= .pointer none\/a=EO b)(hl:l=ints bs):
  Calls prog 225 [EO b].toArray j λ e w'=>e= .returned (str bs)/\Ext w0 w':=by
 subst hl
 have n:=hS.obj (i:=0) U
 have ho:=(hS.obj (i:=1) U).1
 have k:v.ownBlock≠some b:=by
  have:=hS.apart
  rw[List.cons_append,List.pairwise_cons]at this
  exact this.1 (HO.own 5 1 v (ints bs).length ((ints bs).flatMap BU)) (by simp) b U
 have q:(ints bs).flatMap BU=Lib.byteCells bs:=by rw[TY];unfold ints;rw[List.map_map];rfl
 have e2:(ints bs).length=(Lib.byteCells bs).length:=by rw[<-q,BR BU 1 G8,Nat.mul_one]
 rw[q,e2]at ho
 have s: ∀a',a=a'->Lib.BuilderAt tB 5 w0.heap.size b a' (Lib.byteCells bs) j:=λ a' h=>⟨n.1,v,h▸n.2.1,ho,k⟩
 refine(Tryz.Builder_String_any w0.heap.size b bs j ?_ hS.size).mono λ e w' ⟨he,hw⟩=>⟨he,hS.low.trans hw⟩
 rcases w with h|h
 ·exact .inl (s _ h)
 ·exact .inr (s _ h)
theorem AX5(s:A0)(w:World)(hg:Gl w)(q:len s<=1099511627776):Calls prog 196 [str s].toArray w λ e w'=>e= .returned (str (E5 s))/\Ext w w':=by
 have F:=A6 s
 refine AE A8 func196 U ntmps196 [] [] [.v (str s)] U (BB w) A3 (λ B G=>AZ 1 U zeroValue244 U λ b=>AY [] (λ g:Nat×List KV×Nat=>.v (.map (some g.1))) [] (λ g=>[(4,.ho (.raw g.1 (BN .i32 g.2.1 g.2.2)))]) U U call228 U U (λ w M hS hF=>AW8 hS) λ g k=>?_) U
 obtain⟨E,H,J⟩:=g
 refine XB 2 5 1 BU G8 <|AY [1,2] (λ _:Value=>.v .nilIface) [] (λ v=>MS b (EO b) v (([]:List Int)++[34])) U U call229 U U (λ w M hS hF=>YV b _ _ (([]:List Int)) (34) hS (.inl U) (by first|omega|(simp only[AN,AH,len_nil];omega))) λ K _=>AU8 12 U U underlying9 λ r=>?_
 refine AT (σ:=Int×Value×List Int) (λ(p,u,l)=>⟨[],[(1,.box b [.v (EO b),.sl 2 u] tB),(2,.ho (IZ u l)),(4,.ho (.raw E (BN .i32 H J))),(12,.ho (.raw r (.stringIter ⟨⟨s⟩⟩ p.toNat)))],[Z 3 (.bx 1 b 0),Z 4 (.v (.map (some E))),Z 12 (.v (.pointer (some ⟨r,0,none⟩)))]⟩)
   (λ(p,u,l)=>0<=p/\p<=len s/\l++ints (GR s p)=ints (34::GR s 0)/\len l<=6*p+1) (λ(p,_)=>(len s-p).toNat) (0,K,[34]) U U ⟨Aa,Aa,rfl,Ab⟩ ?_
 rintro⟨p,u,l⟩ ⟨h0,h1,hF,hlen⟩
 have L:=UU s p h0
 have h:=dU s p
 have N:=A6 l
 have O:=gD (AX s p)
 refine AU9 12 U U U h0 (λ A=>?_) (λ C=>?_)
 ·have i:=dR h0 A
  refine A1 rfl (λ _=>qV 4 (.int .u8 (KN (AX s p))) (KM (AX s p)) U U U U U underlying249 underlying21 zeroValue5 (k _) <|A1 U (λ y=>?_) (λ y=>?_)) (λ q=>by cases q)
  ·exact AY [1,2] (λ _:Value=>.v .nilIface) [] (λ v=>MS b (EO b) v (l++[92])) U U call229 U U (λ w M hS hF=>YV b _ u (l) (92) hS (.inr U) (by first|omega|(simp only[AN,AH,len_nil];omega))) λ j _=>AY [1,2] (λ _:Value=>.v .nilIface) [] (λ v=>MS b (EO b) v ((l++[92])++[KN (AX s p)])) U U call229 U U (λ w M hS hF=>YV b _ j ((l++[92])) (KN (AX s p)) hS (.inr U) (by first|omega|(simp only[AN,AH,len_nil];omega))) λ D _=>AR (p+runeLen s p,D,l++[92]++[KN (AX s p)]) U U ⟨Aa,Aa,by rw[<-hF,i,U0,AJ5 y];simp[List.append_assoc],by simp only[AN,AH,len_nil];omega⟩ Ag
  refine A1 U (λ z=>?_) (λ z=>?_)<;>simp only[zb]at z
  ·exact AY [1,2] (λ _:Value=>.tu [I (len [92,117,48,48]),.v .nilIface]) [] (λ v=>MS b (EO b) v (l++ints [92,117,48,48])) U U call230 U U (λ w M hS hF=>qW b _ u (l) [92,117,48,48] hS (.inr U) (by first|omega|(rw[AN];show len l+4<=_;omega)) Ab) λ j _=>AB U call231 U U (λ _ w M n=>AX4 (AX s p) w (hg.low n.st.low) ⟨h.1,z⟩) U <|AY [1,2] (λ _:Value=>.tu [I (len (A5 (OR (AX s p)) 1)),.v .nilIface]) [] (λ v=>MS b (EO b) v ((l++ints [92,117,48,48])++ints (A5 (OR (AX s p)) 1))) U U call230 U U (λ w M hS hF=>qW b _ j ((l++ints [92,117,48,48])) (A5 (OR (AX s p)) 1) hS (.inr U) (by first|omega|(rw[AN];show len l+4<=_;omega)) (by show(2:Int)<=_;decide)) (hO:=by and_intros<;>first|omega|(show(1:Int)<=3;decide)|trivial) λ D _=>AR (p+runeLen s p,D,l++ints [92,117,48,48]++ints (A5 (OR (AX s p)) 1)) U U ⟨Aa,Aa,by rw[<-hF,i,U0,AJ6 y z h.1];simp[List.append_assoc,OR],by simp only[AN,l5];show len l+4+2<=_;omega⟩ Ag
  ·exact AY [1,2] (λ _:Value=>.tu [I (len (DK (AX s p))),.v .nilIface]) [] (λ v=>MS b (EO b) v (l++DK (AX s p))) U U call227 U U (λ w M hS hF=>qX b _ u l _ hS (.inr U) Aa h) λ j _=>AR (p+runeLen s p,j,l++DK (AX s p)) U U ⟨Aa,Aa,by rw[<-hF,i,U0,AJ7 y Aa];simp[List.append_assoc],by rw[AN];omega⟩ Ag
 exact A1 rfl (λ q=>by cases q) (λ _=>AY [1,2] (λ _:Value=>.v .nilIface) [] (λ v=>MS b (EO b) v (l++[34])) U U call229 U U (λ w M hS hF=>YV b _ u (l) (34) hS (.inr U) (by first|omega|(simp only[AN,AH,len_nil];omega))) λ j _=>mT (BB w).sat U U U call225 U (λ w M n=>r8 b _ j (E5 s) (l++[34]) (n.C8 [1,2] U) (.inr U) (by unfold E5;rw[U0,<-hF,dS C];simp[ints])) U <|A2 G U U U λ w M n=>⟨rfl,n.st.low⟩)
theorem AX6{s:A0}{p:Int}(h0:0<=p)(h1:p<len s)(h:A4 s p<128):AX s p=A4 s p:=(kM h0 h1 h).1
theorem AX7(r:Int)(w:World):Calls prog 341 [.int .i32 r].toArray w λ e w'=>e= .returned (.bool (Lib.validRune r))/\w'=w:=Tryz.utf8_ValidRune r w
theorem AX8(r:Int)(w:World)(W:0<=r/\r<=1114111/\(r<55296\/57343<r)):
  Calls prog 319 [(str [43,45,95]),(.int .i32 r)].toArray w λ e w'=>e= .returned (i64 (LH r))/\Ext w w':=by
 refine CW.O6 func319 U ntmps319 (Nat.le_of_ble_eq_true U) λ Q hE=>?_
 have A:len ([43,45,95]:A0)=3:=rfl
 have hx:128<=r->LH r= -1:=λ h=>by unfold LH;rw[if_neg Aa,if_neg Aa,if_neg Aa]
 have B:Utf8.valid r=true:=by unfold Utf8.valid;simp;omega
 have k:=λ h=>AA9 B (r:=r) h
 have C:=LZ (DI r) (len (DI r)-1)
 have hS:St w nM w nM []:=Aj ⟨λ _ _ _ h=>by cases h⟩
 refine CW.weaken [0,1] (L':=[Y 0 (str [43,45,95]),Y 1 (.int .i32 r)]) ?_ U
 refine CW.sr (RL.u (.assign .c) U (RL.nil (CW.id (CW.block ?_))))
 refine CW.sr (RL.m U U (RL.u (.leq .c (.t U)) U (RL.m U U (RL.v (.pos U U) (.move (.t U)) U (RL.v (.pos U U) (.lss (.g U (λ h=>h)) .c) U (RL.u (.and (.t U) (.g U (λ h=>h))) U (RL.a U U (RL.nil (CW.id ?_)))))))))
 refine CW.cond rfl ?_ ?_<;>intro D<;>try simp only[zb]at D
 ·refine CW.sr (RL.m U U (RL.m U U (RL.u (.aS (r:=r) (.t U) underlying21 underlying5 (λ _=>by exact Eng.wrap_u8 Aa)) U ?_)))
  refine RL.aV .none call198 (.cons (.t U) (.cons (.t U) .nil)) (λ _=>(dM [43,45,95] r _)) U <|RL.a U U <|RL.nil (CW.at [Y 4 (i64 (Lib.indexByte [43,45,95] r.toNat.toUInt8))] U (CW.ret (hE.r1 U U ?_)))
  exact⟨by rw[ixb Aa Aa],hS.low⟩
 ·refine CW.sr (RL.m U U (RL.u (.eql (.t U) .c) U (RL.a U U (RL.nil (CW.id ?_)))))
  refine CW.cond rfl ?_ ?_<;>intro E<;>try simp only[zb]at E
  ·refine CW.seq (CW.sr (RL.m U U ?_))
   refine RL.bF (s:=[43,45,95]) hS (.t U) underlying9 U (λ w1 F G=>RL.nil (CW.id (CW.block ?_)))
   refine CW.loop (σ:=Int) (λ p=>[Y 175 (.pointer (some ⟨F,0,none⟩))]) (λ p wl=>St w nM wl nM [.raw F (.stringIter ⟨⟨[43,45,95]⟩⟩ ((p:Int)).toNat)]/\0<=p/\p<=3) (λ p=>(3-p).toNat) 0 [175] U ?_ ?_
   ·refine⟨G,?_⟩;exact⟨Aa,Aa⟩
   ·rintro p wl ⟨l,h0,h1⟩
    have R:=UU ([43,45,95]:A0) p h0
    refine CW.sr <|RL.bG (s:=[43,45,95]) (p:=p) l (i:=0) U (.t U) Aa U (λ H S b=>?_) (λ T=>?_)
    ·replace b:St w nM S nM [.raw F (.stringIter ⟨⟨[43,45,95]⟩⟩ ((p+runeLen [43,45,95] p:Int)).toNat)]:=b
     refine RL.u (.ex (.t U) U) U (RL.nil (CW.id ?_))
     refine CW.seq (CW.cond rfl (λ _=>CW.skip (CW.id (CW.block (CW.sr (RL.u (.ex (.t U) U) U (RL.u (.ex (.t U) U) U (RL.a U U (RL.a U U (RL.nil (CW.id ?_)))))))))) (λ h=>by cases h))
     refine CW.sr (RL.m U U (RL.u (.eql (.t U) .c) U (RL.nil (CW.id ?_))))
     refine CW.cond rfl ?_ ?_<;>intro J<;>try simp only[zb]at J
     ·refine CW.sr (RL.m U U (RL.a U U (RL.nil (CW.id (CW.ret (hE.r1 U U ?_))))))
      exfalso;have n:=pL p;have V:=AX6 (s:=[43,45,95]) h0 H n;omega
     ·refine CW.skip λ a q=>Exists.intro (p+runeLen [43,45,95] p) ⟨q.GF [175],?_,?_⟩
      ·refine⟨b,?_⟩
       exact⟨Aa,Aa⟩
      ·show Int.toNat _<Int.toNat _;omega
    ·refine RL.u (.ex (.t U) U) U (RL.nil (CW.id ?_))
     refine CW.seq (CW.cond rfl (λ h=>by cases h) (λ _=>(CW.exit (CW.at [] rfl (CW.sr ?_)))))
     refine RL.u (.assign .c) U (RL.nil (CW.id ?_))
     refine CW.ret (hE.r1 U U ?_)
     exact⟨by rw[hx Aa],l.low⟩
  ·refine CW.sr (RL.m U U ?_)
   refine RL.aV .none call341 (.cons (.t U) .nil) (λ _=>(AX7 r _)) U <|RL.u (.not (.t U)) U (RL.a U U ?_)
   refine RL.nil (CW.at [Y 0 (str [43,45,95]),Y 1 (.int .i32 r),Y 4 (i64 0),Y 183 (.bool (!(Lib.validRune r)))] U ?_)
   refine CW.cond rfl ?_ ?_<;>intro j<;>try simp only[zb]at j
   ·refine CW.sr (RL.u (.assign .c) U (RL.nil (CW.id (CW.ret (hE.r1 U U ?_)))))
    exfalso;unfold Lib.validRune at j;simp at j;omega
   ·refine CW.scope (CW.sr (RL.m U U (RL.u (.bM (.t U) underlying21 underlying9) U (RL.a U U (RL.nil (CW.id ?_))))))
    refine CW.sr (RL.m U U (RL.u (.TN (.t U) underlying9) U (RL.u (.sub (.t U) .c (λ _=>by omega)) U (RL.a U U (RL.nil (CW.id (CW.sr ?_)))))))
    refine RL.m U U (RL.a U U (RL.nil (CW.id ?_)))
    refine CW.sr (RL.u (.assign .c) U (RL.nil (CW.id (CW.seq ?_))))
    refine CW.block <|CW.AA6 1 <|CW.seq (CW.sr (RL.m U U (RL.m U U (RL.u (.TN (.t U) underlying9) U (RL.u (.lss (.t U) (.t U)) U (RL.nil (CW.id ?_)))))))
    refine CW.cond rfl ?_ ?_<;>intro K<;>try simp only[zb]at K
    ·refine CW.skip (CW.id (CW.block (CW.scope (CW.seq ?_))))
     refine CW.seq <|CW.bE hS mX Ac <|RQ.v .none (.move (.t U)) U <|RQ.v .none (.move (.t U)) U <|RQ.v .none (.O3 (.t U) (.t U) underlying9 (λ _=>by omega)) U <|RQ.v .none (.move (.t U)) U <|RQ.v .none (.move (.t U)) U <|RQ.v .none (.O3 (.t U) (.t U) underlying9 (λ _=>by omega)) U <|RQ.v .none (.neq (.t U) (.t U)) U <|RQ.nil (λ a q X L=>CW.at [Y 0 (str [43,45,95]),Y 1 (.int .i32 r),Y 4 (i64 0),Y 7 (str (DI r)),Y 8 (i64 ((len (DI r))-1)),Y 9 (i64 ((len (DI r))-1)),Y 10 (i64 0),Y 33 (.bool ((A4 [43,45,95] ((len (DI r))-1)) != (A4 (DI r) ((len (DI r))-1))))] U ?_ a q)
     refine CW.cond rfl ?_ ?_<;>intro M<;>try simp only[zb]at M
     ·refine CW.seq <|CW.bE L mX Ac <|RQ.v .none (.move (.t U)) U <|RQ.v .none (.move (.t U)) U <|RQ.v .none (.add (.t U) .c (λ _=>by omega)) U <|RQ.v .none (.kB (.t U) (.t U) underlying9 (λ _=>by omega)) U <|RQ.v .none (.move (.t U)) U <|RQ.v .none (.move (.t U)) U <|RQ.v .none (.O3 (.t U) (.t U) underlying9 (λ _=>by omega)) U <|RQ.call .none call198 (.cons (.t U) (.cons (.t U) .nil)) (λ _=>(λ w2 N=>((dM (Eng.A5 [43,45,95] (((len (DI r))-1)+1)) (A4 (DI r) ((len (DI r))-1)) _)).mono (λ e w3 A=>⟨A.1,A.2▸N⟩))) U <|RQ.v .none (.assign (.t U)) U <|RQ.nil (λ a q w9 y=>CW.at [Y 0 (str [43,45,95]),Y 1 (.int .i32 r),Y 4 (i64 0),Y 7 (str (DI r)),Y 8 (i64 ((len (DI r))-1)),Y 9 (i64 ((len (DI r))-1)),Y 10 (i64 0),Y 11 (i64 (Lib.indexByte (Eng.A5 [43,45,95] (((len (DI r))-1)+1)) (A4 (DI r) ((len (DI r))-1)).toNat.toUInt8))] U ?_ a q)
      refine CW.seq (CW.sr (RL.m U U (RL.u (.lss (.t U) .c) U (RL.nil (CW.id ?_)))))
      refine CW.cond rfl ?_ ?_<;>intro O<;>try simp only[zb]at O
      ·refine CW.sr (RL.u (.assign .c) U (RL.nil (CW.id (CW.ret (hE.r1 U U ?_)))))
       exact⟨by rw[hx Aa],y.low⟩
      ·exfalso;have z:=(k Aa).2.2;have P:=AQ6 (AQ7 (len (DI r)-1+1)) z C.2;omega
     ·exfalso;have P:=pL (len (DI r)-1);have z:=(k Aa).2.2;omega
    ·refine CW.exit (CW.at [] U ?_)
     refine CW.seq (CW.sr (RL.u (.assign .c) U (RL.nil (CW.id ?_))))
     refine CW.ret (hE.r1 U U ?_)
     exact⟨by rw[hx Aa],hS.low⟩
theorem AX9(n:Int)(w:World):
  Calls prog 320 [(i64 n)].toArray w λ e w'=>e= .returned (.bool (decide (8<n)))/\w'=w:=by
 refine CW.O6 func320 U ntmps320 (Nat.le_of_ble_eq_true U) λ Q hE=>CW.weaken [0] (L':=[Y 0 (i64 n)]) ?_ U
 refine CW.sr (RL.u (.assign .c) U (RL.nil (CW.id (CW.sr ?_))))
 refine RL.m U U (RL.u (.gtr (.t U) .c) U (RL.a U U (RL.nil (CW.id ?_))))
 refine CW.ret (hE.r1 U U ?_)
 exact⟨rfl,rfl⟩
theorem AY0(l:A0)(w:World)(hl:len l<=8):
  Calls prog 295 [(str l),(str [43,45,95])].toArray w λ e w'=> ∃v,e= .returned v/\ ∃x,(0<=x↔l.any (λ b=>([43,45,95]:A0).contains b)=true)/\v=i64 x/\Ext w w':=by
 refine CW.O6 func295 U ntmps295 (Nat.le_of_ble_eq_true U) λ Q hE=>?_
 have O:len ([43,45,95]:A0)=3:=rfl
 have:=A6 l
 have hS:St w nM w nM []:=Aj ⟨λ _ _ _ h=>by cases h⟩
 refine CW.weaken [0,1] (L':=[Y 0 (str l),Y 1 (str [43,45,95])]) ?_ U
 refine CW.sr (RL.u (.assign .c) U (RL.nil (CW.id (CW.seq ?_))))
 refine CW.sr (RL.m U U (RL.u (.aU (.t U) .c) U (RL.nil (CW.id ?_))))
 refine CW.cond rfl ?_ ?_<;>intro n<;>try simp only[zb]at n
 ·exfalso;simp at n
 ·refine CW.skip (CW.id (CW.seq (CW.sr (RL.m U U (RL.u (.TN (.t U) underlying9) U (RL.u (.eql (.t U) .c) U (RL.nil (CW.id ?_))))))))
  refine CW.cond rfl ?_ ?_<;>intro B<;>try simp only[zb]at B
  ·exfalso;omega
  ·refine CW.skip (CW.id (CW.seq (CW.sr (RL.m U U (RL.u (.TN (.t U) underlying9) U ?_)))))
   refine RL.aV .none call320 (.cons (.t U) .nil) (λ _=>(AX9 (len l) _)) U <|RL.nil (CW.at [Y 0 (str l),Y 1 (str [43,45,95]),Y 26 (.bool (decide (8<(len l))))] U ?_)
   refine CW.cond rfl ?_ ?_<;>intro C<;>try simp only[zb]at C
   ·exfalso;omega
   ·refine CW.skip (CW.id (CW.seq (CW.sr (RL.m U U ?_))))
    refine RL.bF (s:=l) hS (.t U) underlying9 U (λ w1 A D=>RL.nil (CW.id (CW.block ?_)))
    refine CW.loop (σ:=Int) (λ p=>[Y 1 (str [43,45,95]),Y 45 (.pointer (some ⟨A,0,none⟩))]) (λ p wl=>St w nM wl nM [.raw A (.stringIter ⟨⟨l⟩⟩ ((p:Int)).toNat)]/\0<=p/\p<=len l/\SM l p) (λ p=>(len l-p).toNat) 0 [1,45] U ?_ ?_
    ·refine⟨D,?_⟩;exact⟨Aa,Aa,λ j h0 h1=>by omega⟩
    ·rintro p wl ⟨q,h0,h1,G⟩
     have H:=UU l p h0
     have J:=dU l p
     have K:=AR0 l p
     refine CW.sr <|RL.bG (s:=l) (p:=p) q (i:=0) U (.t U) Aa U (λ y L k=>?_) (λ M=>?_)
     ·replace k:St w nM L nM [.raw A (.stringIter ⟨⟨l⟩⟩ ((p+runeLen l p:Int)).toNat)]:=k
      refine RL.u (.ex (.t U) U) U (RL.nil (CW.id ?_))
      refine CW.seq (CW.cond rfl (λ _=>CW.skip (CW.id (CW.block (CW.sr (RL.u (.ex (.t U) U) U (RL.u (.ex (.t U) U) U (RL.a U U (RL.a U U (RL.nil (CW.id ?_)))))))))) (λ h=>by cases h))
      refine CW.sr (RL.m U U (RL.m U U ?_))
      refine RL.aW k .none call319 (.cons (.t U) (.cons (.t U) .nil)) (λ _=>(AX8 (AX l p) _ (by first|assumption|omega))) U (λ P z=>RL.u (.geq (.t U) .c) U <|RL.nil (CW.at [Y 1 (str [43,45,95]),Y 9 (i64 p),Y 45 (.pointer (some ⟨A,0,none⟩)),Y 53 (.bool (decide (0<=(LH (AX l p)))))] U ?_))
      refine CW.cond rfl ?_ ?_<;>intro E<;>try simp only[zb]at E
      ·refine CW.sr (RL.m U U (RL.a U U (RL.nil (CW.id (CW.ret (hE.r1 U U ?_))))))
       have F:=AQ9 h0 y Aa
       exact⟨_,rfl,_,⟨λ _=>F,λ _=>h0⟩,rfl,z.low⟩
      ·refine CW.skip λ a N=>Exists.intro (p+runeLen l p) ⟨N.GF [1,45],?_,?_⟩
       ·refine⟨z,?_⟩
        exact⟨Aa,Aa,G.step h0 y Aa⟩
       ·show Int.toNat _<Int.toNat _;omega
     ·refine RL.u (.ex (.t U) U) U (RL.nil (CW.id ?_))
      refine CW.seq (CW.cond rfl (λ h=>by cases h) (λ _=>(CW.exit (CW.at [] rfl (CW.sr ?_)))))
      refine RL.u (.assign .c) U (RL.nil (CW.id ?_))
      refine CW.ret (hE.r1 U U ?_)
      have F:=G.AQ8 Aa
      exact⟨_,rfl,_,⟨λ h=>absurd h Ab,λ h=>by rw[F]at h;cases h⟩,rfl,q.low⟩
theorem AY1(l:A0)(w:World)(hl:len l=4):
  Calls prog 272 [(str l),(str [43,45,95])].toArray w λ e w'=>e= .returned (.bool (l.any (λ b=>([43,45,95]:A0).contains b)))/\Ext w w':=by
 refine CW.O6 func272 U ntmps272 (Nat.le_of_ble_eq_true U) λ Q hE=>?_
 have hS:St w nM w nM []:=Aj ⟨λ _ _ _ h=>by cases h⟩
 refine CW.weaken [0,1] (L':=[Y 0 (str l),Y 1 (str [43,45,95])]) ?_ U
 refine CW.sr (RL.u (.assign .c) U (RL.nil (CW.id (CW.sr ?_))))
 refine RL.m U U (RL.m U U ?_)
 refine RL.zA call295 (.cons (.t U) (.cons (.t U) .nil)) (AY0 l _ Aa) U ?_
 rintro v2 s ⟨j,k,rfl,i⟩
 have n:=hS.ext i
 refine RL.u (.geq (.t U) .c) U (RL.a U U ?_)
 refine RL.nil (CW.at [Y 4 (.bool (decide (0<=j)))] U (CW.ret (hE.r1 U U ?_)))
 have q:decide (0<=j)=l.any (λ b=>([43,45,95]:A0).contains b):=by rw[Bool.eq_iff_iff,decide_eq_true_eq];exact k
 rw[<-q];exact⟨rfl,n.low⟩
theorem gE(x:Int)(w:World)(h0:0<=x)(h1:x<=255):Calls prog 300 [.int .u8 x].toArray w λ e w'=>e= .returned (.int .u8 (GK x))/\Ext w w':=AE A8 func300 U ntmps300 [] [] [.v (.int .u8 x)] U (BB w) A3 (λ B b=>GU (GK x) U U U (λ _=>AW2 h0 h1) <|A2 b U U U λ w M h=>⟨rfl,h.st.low⟩) U
def OS(l:A0):Value:=if EK l then .tuple #[.int .u64 (FD l),.nilIface]else .tuple #[.int .u64 0,.iface 274 (i64 2)]
theorem r9(l:A0)(w:World)(hl:len l=4):Calls prog 280 [str l,i64 16,i64 16].toArray w λ e w'=>e= .returned (OS l)/\Ext w w':=by
 have T:len (ints l)=4:=by rw[l5];exact hl
 refine AE A8 func280 U ntmps280 [] [] [.v (str l),I 16,I 16] U (BB w) A3 (λ B K=>A1 U (λ b=>?_) (λ _=>?_)) U
 ·rw[eq_of_beq b]at hl;exact absurd hl Ab
 refine A1 rfl (λ _=>A1 rfl (λ b=>by cases b) (λ _=>A1 rfl (λ b=>by cases b) (λ _=>A1 rfl (λ b=>by cases b) (λ _=>A1 rfl (λ _=>AU (.v (.int .u64 65536)) U U (λ w M y=>.qT (AF (v:=.v (.int .u64 1)) (E:=[]) U) (AF (v:=.v (.int .u64 16)) (E:=[]) U) (λ _=>by decide) (λ _=>by decide)) <|AV5 9 U U underlying9 underlying216 underlying5 Aa λ v=>?_) (λ b=>by cases b))))) (λ b=>by cases b)
 refine AT (σ:=Int×Int) (λ(k,n)=>⟨[(9,kn v 1 (ints l) BU)],[],[Z 1 (I 16),Z 8 (.v (.bool false)),Z 9 (.v (str l)),Z 10 (.v (.int .u64 1152921504606846976)),Z 11 (.v (.int .u64 (65536-1))),Z 12 (.v (.bool false)),Z 13 (.v (.int .u64 n)),Z 99 (.sl 9 v),Z 100 (I (len (ints l))),Z 101 (I k)]⟩)
   (λ(k,n)=>0<=k/\k<=4/\EK (Eng.sub l 0 k)=true/\n=FD (Eng.sub l 0 k)) (λ(k,_)=>(4-k).toNat) (0,0) U U ⟨Aa,Aa,rfl,rfl⟩ ?_
 rintro⟨k,n⟩ ⟨D,V,A,L⟩
 refine A1 U (λ G=>?_) (λ G=>?_)<;>simp only[zb]at G
 ·have F:at' (ints l) k=A4 l k:=ints_at D Aa
  have W:=LZ l k
  have H:=AW4 (c:=A4 l k) Aa Aa
  have X:=AW7 hl D Aa A
  have C:GJ (A4 l k)<0->OS l= .tuple #[.int .u64 0,.iface 274 (i64 2)]:=λ hh=>by
   have R:=oI (s:=l) (i:=0) (k:=k) (j:=4) Aa Aa Aa Aa hh
   rw[O5 l 4 Aa]at R
   unfold OS;rw[R];rfl
  refine CZ 1 (λ st=> ∃x:Int,(0<=x/\x<=35)/\(x<16->GJ (A4 l k)=x)/\(16<=x->GJ (A4 l k)<0)/\st=⟨[(9,kn v 1 (ints l) BU)],[],[Z 1 (I 16),Z 8 (.v (.bool false)),Z 9 (.v (str l)),Z 10 (.v (.int .u64 1152921504606846976)),Z 11 (.v (.int .u64 (65536-1))),Z 12 (.v (.bool false)),Z 13 (.v (.int .u64 n)),Z 16 (.v (.int .u8 x)),Z 99 (.sl 9 v),Z 100 (I (len (ints l))),Z 101 (I k)]⟩) U U (λ N=>by simp at N) (λ _=>?_) ?_
  ·refine A1 U (λ q=>?_) (λ q=>?_)<;>simp only[zb]at q<;>rw[F]at q
   ·exact AQ _ U U ⟨_,Aa,λ _=>by rw[F];exact AW5 q,λ h=>by omega,rfl⟩
   ·refine AB U call300 U U (λ _ w M y=>gE _ w Aa Aa) U <|AB U call300 U U (λ _ w M y=>gE _ w Aa Aa) U ?_
    refine A1 U (λ z=>?_) (λ z=>?_)<;>simp only[zb]at z<;>rw[F]at z
    ·refine AB U call300 U U (λ _ w M y=>gE _ w Aa Aa) U ?_
     have J:=H.2.1 z.1 z.2 Aa
     exact AQ _ U U (hO:=by rw[F];omega) ⟨_,by rw[F];omega,λ h=>by rw[F]at h ⊢;have:=J.1 Aa;omega,λ h=>by rw[F]at h;have:=J.2 Aa;omega,rfl⟩
    ·exact AU (.v (.iface 274 (i64 2))) U U (λ w M y=>.iface (AF (v:=I 2) (E:=[]) U) underlying274 U) <|A2 K U U U λ w M y=>⟨by rw[C (by have:=H.2.2 Aa Aa;omega)];rfl,y.st.low⟩
  rintro _ ⟨x,hx,O,P,rfl⟩
  refine A1 U (λ q=>?_) (λ q=>?_)<;>simp only[zb]at q
  ·exact AU (.v (.iface 274 (i64 2))) U U (λ w M y=>.iface (AF (v:=I 2) (E:=[]) U) underlying274 U) <|A2 K U U U λ w M y=>⟨by rw[C (P q)];rfl,y.st.low⟩
  have Q:=O Aa
  refine A1 U (λ b=>by simp only[zb]at b;omega) (λ _=>A1 U (λ b=>by simp only[zb]at b;omega) (λ _=>?_))
  have S:=oH (s:=l) (i:=0) Aa D Aa A Aa
  exact AR (k+1,n*16+x) U U ⟨Aa,Aa,S.1,by rw[S.2,Q,<-L]⟩ Ag
 have hk:k=4:=by omega
 rw[hk,O5 l 4 Aa]at A L
 exact AB (u:=.bool false) rfl call301 rfl rfl (λ hW=>by cases hW) rfl <|A1 rfl (λ b=>by cases b) (λ _=>A2 K U U U λ w M y=>⟨by unfold OS;rw[A,<-L];rfl,y.st.low⟩)
theorem AY2{w0 k:World}{M0 M:Mem}{Rs:List HO}(l:A0)(hS:St w0 M0 k M Rs)(hg:Gl w0)(hl:len l=4):
    Calls prog 273 [str l,i64 16,i64 16].toArray k (BY w0 M0 M Rs (λ er:Value=>.tuple #[.int .u64 (if EK l then FD l else 0),er]) (λ er=>U1 er=EK l/\(er= .nilIface\/ ∃u p,er= .iface u p)) (λ _=>[]) λ _=>[]):=by
 refine AE (Hr:=Rs) A8 func273 U ntmps273 [] [] [.v (str l),I 16,I 16] U hS A3 (λ B j=>?_) U
 cases hk:EK l with
 |true=>
  rw[hk]at j
  refine AB (u:=.tuple #[.int .u64 (FD l),.nilIface]) U call280 U U (λ _ w M b=>by have:=r9 l w hl;rwa [show OS l=_ from by unfold OS;rw[hk]]at this) U ?_
  refine AU (.v (.bool false)) U U (λ w M b=>.U2 (AF (v:=.v .nilIface) (E:=[]) U) (.inl U) Ai) ?_
  refine A1 rfl (λ i=>by cases i) (λ _=>?_)
  exact A2 j U U U λ w M' b=>⟨.nilIface,M',rfl,⟨rfl,.inl U⟩,b.le,b.C8 [] U,A3⟩
 |false=>
  rw[hk]at j
  refine AB (u:=.tuple #[.int .u64 0,.iface 274 (i64 2)]) U call280 U U (λ _ w M b=>by have:=r9 l w hl;rwa [show OS l=_ from by unfold OS;rw[hk]]at this) U ?_
  refine AU (.v (.bool true)) U U (λ w M b=>.U2 (AF (v:=.v (.iface 274 (i64 2))) (E:=[]) U) (.inr ⟨_,_,rfl⟩) Ai) ?_
  refine A1 rfl (λ _=>?_) (λ i=>by cases i)
  refine AY [] (λ n:Nat=>.v (.iface 277 (.pointer (some ⟨n,0,none⟩)))) [] (λ _=>[]) (pu:=λ _=>True) (Fg:=λ _=>[]) U U call234 U U (hu:=λ _=>rfl) (hH:=λ _=>rfl) (λ w M hS hF=>by
   obtain⟨ev,h1,q⟩:=(hg.low hS.low).err
   exact(Tryz.strconv_toError_syntax ⟨⟨[80,97,114,115,101,85,105,110,116]⟩⟩ ⟨⟨l⟩⟩ 16 16 ev w (by show l.length<=_;unfold len at hl;omega) h1 q).mono λ e w' ⟨n,h,_,_,i⟩=>⟨n,M,h,trivial,λ _ _ _ h=>h,hS.ext i,A3⟩) λ n _=>?_
  exact A2 j U U U λ w M' b=>⟨_,M',rfl,⟨rfl,.inr ⟨_,_,rfl⟩⟩,b.le,b.C8 [] U,A3⟩
theorem AY3{l:A0}(h:l.any (λ b=>[43,45,95].contains b)=true):EK l=false:=by
 rw[List.any_eq_true]at h
 obtain⟨b,i,e⟩:=h
 unfold EK
 rw[List.all_eq_false]
 refine⟨b,i,?_⟩
 simp only[List.contains_cons,List.contains_nil,Bool.or_false,Bool.or_eq_true,beq_iff_eq]at e
 rcases e with rfl|rfl|rfl<;>decide
theorem rA(s:A0)(w:World)(hg:Gl w)(G:len s<=1099511627776):Calls prog 250 [str s].toArray w λ e w'=>e= .returned (i64 (BZ s))/\Ext w w':=by
 have z:=A6 s
 refine AE A8 func250 U ntmps250 [] [] [.v (str s)] U (BB w) A3 (λ B y=>AB U call171 U U (λ _ w M j=>r6 (US s _ w)) U <|AB U call272 U U (λ A w M j=>AY1 (Eng.sub s 2 6) w (by rw[FL Aa Aa (by simp only[Gd.d,zb]at A;omega)];rfl)) U ?_) U
 refine A1 U (λ b=>?_) (λ b=>?_)<;>simp only[zb]at b
 ·have l:BZ s= -1:=by
   unfold BZ
   split
   ·rfl
   ·rename_i C;split
    ·rfl
    ·rename_i D;split
     ·rename_i n3;exfalso;rcases b with(h|h)|h
      ·exact C h
      ·exact D h
      ·rw[AY3 h]at n3;cases n3
     ·rfl
  exact A2 y U U U λ w M j=>⟨by rw[l];rfl,j.st.low⟩
 have n:len (Eng.sub s 2 6)=4:=by rw[FL Aa Aa Aa];rfl
 have l:BZ s=if EK (Eng.sub s 2 6)then FD (Eng.sub s 2 6)else-1:=by unfold BZ;rw[if_neg Aa,if_neg (by rw[b.1.2];simp)]
 refine AY [] (λ er:Value=>.tu [.v (.int .u64 (if EK (Eng.sub s 2 6)then FD (Eng.sub s 2 6)else 0)),.sl 99 er]) [] (λ _=>[]) U U call273 U U (λ w M hS hF=>AY2 (Eng.sub s 2 6) hS hg n) λ er q=>AU (.v (.bool (!U1 er))) U U (λ w M j=>.U2 (AF (v:=.sl 99 er) (E:=[]) U) q.2 Ai) ?_
 refine A1 U (λ i=>?_) (λ i=>?_)<;>rw[q.1]at i
 ·have k:EK (Eng.sub s 2 6)=false:=by simpa using i
  exact A2 y U U U λ w M j=>⟨by rw[l,k];rfl,j.st.low⟩
 have k:EK (Eng.sub s 2 6)=true:=by simpa using i
 have F:=AJ1 n k
 rw[if_pos k]at l
 exact A2 y U U U (λ w M j=>⟨by rw[l,k];rfl,j.st.low⟩) (hO:=by rw[if_pos k];omega)
theorem AY4(s:A0)(w:World)(hg:Gl w)(z:len s<=1099511627776):Calls prog 226 [str s].toArray w λ e w'=>e= .returned (.tuple #[.int .i32 (BW s).1,i64 (BW s).2])/\Ext w w':=by
 have h1:=OE s
 have D:=OE (A5 s 6)
 have F:=LZ s 1
 have A:=A6 s
 have C:=(nE s 6).2
 refine AE A8 func226 U ntmps226 [] [] [.v (str s)] U (BB w) A3 (λ B y=>?_) U
 refine A1 U (λ j=>?_) (λ j=>?_)<;>simp only[zb]at j
 ·exact A2 y U U U λ w M i=>⟨by unfold BW;rw[if_pos j];rfl,i.st.low⟩
 refine EJ [0,3] 3 (λ _ _ _ _ _ h=>h) U Ai U <|AL 0 U U U <|AY [] (λ b:Nat=>.v (.map (some b))) [] (λ b=>[(12,.ho (.raw b (BN .u8 C9 8)))]) U U call249 U U (λ w M hS hF=>r7 hS) λ b _=>AI U <|AL 3 U U U <|qV 12 (.int .i32 (ND (A4 s 1))) (L8 (A4 s 1)) U U U U U underlying271 underlying5 zeroValue21 (AI4 _) <|AI U <|BV U U U <|A1 U (λ k=>?_) (λ k=>?_)
 ·exact A2 y U U U λ w M i=>⟨by unfold BW;rw[if_neg j,if_pos k];rfl,i.st.low⟩
 have he:BW s=if BZ s<0\/(56320<=BZ s/\BZ s<57344)then(0,0)else if BZ s<55296\/57344<=BZ s then(BZ s,6)else if BZ (A5 s 6)<56320\/57344<=BZ (A5 s 6)then(0,0)else(65536+(BZ s-55296)*1024+BZ (A5 s 6)-56320,12):=by unfold BW;rw[if_neg j,if_neg (by rw[k];simp)]
 refine AB U call250 U U (λ _ w M i=>rA s w (hg.low i.st.low) z) U ?_
 refine A1 U (λ l=>?_) (λ l=>?_)<;>simp only[zb]at l
 ·exact A2 y U U U λ w M i=>⟨by rw[he,if_pos l];rfl,i.st.low⟩
 rw[if_neg Aa]at he
 refine A1 U (λ n=>?_) (λ n=>?_)<;>simp only[zb]at n
 ·exact A2 y U U U λ w M i=>⟨by rw[he,if_pos n];rfl,i.st.low⟩
 rw[if_neg Aa]at he
 refine AB U call250 U U (λ _ w M i=>rA (A5 s 6) w (hg.low i.st.low) Aa) U ?_
 refine A1 U (λ q=>?_) (λ q=>?_)<;>simp only[zb]at q
 ·exact A2 y U U U λ w M i=>⟨by rw[he,if_pos q];rfl,i.st.low⟩
 rw[if_neg Aa]at he
 exact AU (.v (i64 ((BZ s-55296)*1024))) U U (λ w M i=>.qT (AF (v:=I (BZ s-55296)) (E:=[]) U) (AF (v:=.v (.int .u64 10)) (E:=[]) U) (λ _=>by decide) (λ _=>(wrap_i64 Aa:IntKind.i64.wrap ((BZ s-55296)*1024)=_))) <|A2 y U U U λ w M i=>⟨by rw[he];rfl,i.st.low⟩
theorem AY5{l:List Int}{r i n:Int}(h:len l<=4*i)(b:1<=n):len (l++DK r)<=4*(i+n):=by have:=gD r;rw[AN];omega
theorem AY6{l:List Int}(r:Int)(h:ints (toStr l)=l):ints (toStr (l++DK r))=l++DK r:=by
 have b:ints (toStr (DK r))=DK r:=by
  unfold ints toStr
  rw[List.map_map]
  conv=>rhs;rw[<-List.map_id (DK r)]
  apply List.map_congr_left
  intro x hx
  have:=Lib.encodeRuneZ_byte r x hx
  simp;omega
 rw[show toStr (l++DK r)=toStr l++toStr (DK r)from List.map_append,U0,h,b]
theorem AY7(s:A0)(w:World)(hg:Gl w)(W:len s<=1099511627776):Calls prog 194 [str s].toArray w λ e w'=>e= .returned (.tuple #[str (B1 s).1,i64 (B1 s).2.1,i64 (B1 s).2.2])/\Ext w w':=by
 have K:=A6 s
 refine AE A8 func194 U ntmps194 [] [] [.v (str s)] U (BB w) A3 (λ B H=>AB U call171 U U (λ _ w M q=>r6 (US s _ w)) U ?_) U
 refine A1 U (λ y=>?_) (λ y=>?_)<;>simp only[zb]at y
 ·exact A2 H U U U λ w M q=>⟨by unfold B1;rw[if_neg (by rw[y];simp)];rfl,q.st.low⟩
 refine AZ 1 U zeroValue244 U λ b=>XB 2 5 1 BU G8 ?_
 refine AT (σ:=Nat×Int×Value×Value×List Int) (λ(f,i,a,u,l)=>⟨[],[(1,.box b [.v a,.v u] tB),(2,.ho (IZ u l))],[Z 0 (.v (str s)),Z 5 (.bx 1 b 0),Z 6 (I i)]⟩)
   (λ(f,i,a,u,l)=>1<=i/\(a= .pointer none\/a=EO b)/\DS f s i l=B1 s/\len l<=4*i/\(len s-i).toNat<=f/\ints (toStr l)=l) (λ(_,i,_)=>(len s-i).toNat) (s.length,1,.pointer none,.slice none 0 0,[]) U U ⟨Aa,.inl U,by unfold B1;rw[if_pos y],Ab,by unfold len;omega,rfl⟩ ?_
 rintro⟨f,i,a,u,l⟩ ⟨h0,J,hF,hlen,L,E⟩
 have N:=A6 l
 refine A1 U (λ z=>?_) (λ z=>?_)<;>simp only[zb]at z
 ·have O:=ED s i Aa Aa
  have P:=UU (A5 s i) 0 Aa Aa
  have Q:=dU (A5 s i) 0
  have R:=AJ2 (A5 s i)
  have j:=SA (acc:=l) L z
  rw[hF]at j
  refine AB U call224 U U (λ _ w M q=>AG3 (A5 s i) w (hg.low q.st.low) Aa) U ?_
  refine CZ 1 (λ st=> ∃(bad:Bool) (r n:Int),(bad=true->B1 s=([],i,1))/\(bad=false->(0<=r/\r<=1114111)/\(1<=n/\n<=1099511627776)/\B1 s=DS (f-1) s (i+n) (l++DK r))/\st=⟨[],[(1,.box b [.v a,.v u] tB),(2,.ho (IZ u l))],[Z 0 (.v (str s)),Z 5 (.bx 1 b 0),Z 6 (I i),Z 7 (.v (.int .i32 r)),Z 8 (I n),Z 9 (.v (.bool bad))]⟩) U U (λ k=>?_) (λ k=>?_) ?_<;>try simp only[zb]at k
  ·exact mT (BB w).sat U U U call225 U (λ w M q=>r8 b a u (toStr l) l (q.C8 [1,2] U) J E.symm) U <|A2 H U U U λ w M q=>⟨by rw[j,if_pos k];rfl,q.st.low⟩
  ·rw[if_neg k]at j
   refine A1 U (λ A=>?_) (λ A=>?_)<;>simp only[zb]at A
   ·rw[if_pos A]at j
    exact AB U call226 U U (λ _ w M q=>AY4 (A5 s i) w (hg.low q.st.low) Aa) U <|AQ _ U U ⟨_,_,_,λ h=>by rw[j,if_pos (eq_of_beq h)],λ h=>⟨Aa,by have:=ne_of_beq_false h;omega,by rw[j,if_neg (ne_of_beq_false h)]⟩,rfl⟩
   ·rw[if_neg A]at j
    refine A1 U (λ C=>?_) (λ C=>?_)<;>simp only[zb]at C
    ·exact AQ _ rfl rfl ⟨true,_,_,λ _=>by rw[j,if_pos (.inl C)],λ h=>(by cases h),rfl⟩
    ·exact AQ _ U U ⟨_,_,_,λ h=>by simp only[zb]at h;rw[j,if_pos (.inr h)],λ h=>⟨Aa,Aa,by rw[j,if_neg (by simp only[zb]at h;omega)]⟩,rfl⟩
  rintro _ ⟨bad,r,n,F,D,rfl⟩
  refine A1 U (λ k=>?_) (λ k=>?_)
  ·exact A2 H U U U λ w M q=>⟨by rw[F k];rfl,q.st.low⟩
  obtain⟨S,T,G⟩:=D k
  exact AY [1,2] (λ _:Value=>.tu [I (len (DK r)),.v .nilIface]) [] (λ v=>[(1,.box b [.v (EO b),.v v] tB),(2,.ho (IZ v (l++DK r)))]) U U call227 U U (λ w M hS hF=>qX b a u l r hS J Aa S) λ V _=>AR (f-1,i+n,EO b,V,l++DK r) U U ⟨Aa,.inr U,G.symm,AY5 hlen T.1,Aa,AY6 r E⟩ Ag
 exact A2 H U U U λ w M q=>⟨by rw[<-hF,nN z];rfl,q.st.low⟩
end Go.Proofs.YtnoegalemkbbbaaGreatDoor
