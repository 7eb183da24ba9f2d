/- Part of the proof of UniformExact, UniformAccepted: layer. -/
import Derived.Laws.Build
import Derived.Laws.StructEq
import Derived.Laws.BytesArg
import Derived.Test.YtijednbpbbddbaaGreatDoorL1
set_option linter.all false
namespace Go.ns
open Go
def mN(sz:Nat)(l:List AV):Bool:=
 match l with
 |[]=>true|x::_=>x.cells.length==sz
def vq{sz a:Nat}{l:List AV}(h:mN sz l=true)(hs:∀x∈l,x.cells.length=a):∀x∈l,x.cells.length=sz:=by
 cases l with
 |nil=>simp|cons x l=>
  have b:x.cells.length=sz:=by simpa[mN] using h
  have c:=hs x aaB;intro y hy;rw[hs y hy,<-c,b]
def Om:Option AV->Option (Option Nat)
 |none=>some none|some (.sc (.int _ n))=>if 0<=n then some (some n.toNat)else none|_=>none
def sq(P:Program)(t:TypeId)(x:AV)(lo hi a:Option AV):Option AV:=
 match Om lo,Om hi,Om a with
 |some lo,some hi,some a=>
  match P.underlying t,x with
  |some (.slice e),.slice _ l=>
   match fw P e with
   |none=>none|some (_,sz)=>
    if hi.getD l.length<=l.length/\lo.getD 0<=hi.getD l.length/\mN sz l then
     match a with
     |none=>some (.slice .jU ((l.take (hi.getD l.length)).drop (lo.getD 0)))|some m=>if hi.isSome/\hi.getD l.length<=m/\m<=l.length then some (.slice (if m=hi.getD l.length then .full else .jU) ((l.take (hi.getD l.length)).drop (lo.getD 0)))else none
    else none
  |some .string,.sc (.string s)=>
   if a.isNone/\hi.getD s.size<=s.size/\lo.getD 0<=hi.getD s.size then some (.sc (.string (s.extract (lo.getD 0) (hi.getD s.size))))else none
  |_,_=>none
 |_,_,_=>none
def EJ(F:nc)(ρ:Maps):Option AV->Option Value->Prop
 |none,none=>True|some x,some v=>h_ F ρ x v|_,_=>False
section
variable{P:Program} {F:nc} {ρ:Maps}
def LC{x:Option AV}{v:Option Value}{r:Option Nat}(h:Om x=some r)(a:EJ F ρ x v):(r=none/\v=none)\/∃k n,v=some (.int k n)/\0<=n/\r=some n.toNat:=by
 unfold Om at h
 split at h
 ·cases v with
  |none=>injection h with h;exact .inl ⟨h.symm,rfl⟩|some v=>exact a.elim
 ·rename_i k n
  split at h
  ·injection h with h;cases v with
   |none=>exact a.elim|some v=>
    cases gK a;exact .inr ⟨k,n,rfl,by assumption,h.symm⟩
  ·cases h
 ·cases h
def uw(w:World)(k:IntKind)(n:Int)(y:Nat)(c:BoundsCode)(a:0<=n)(b:n.toNat<=y):(Instr.sliceBound (.int k n) y c).run P w=.ok n.toNat w:=by
 unfold Instr.sliceBound;simp only[asIntOf,jn,sN,lL];rw[cK ⟨a,VW⟩];rfl
def NH(w:World)(f:Bool){lo hi j:Option AV}{l o p:Option Value}{a h m:Option Nat}{len cap:Nat}
  (q:Om lo=some a) (r:Om hi=some h) (s:Om j=some m) (t:EJ F ρ lo l) (u:EJ F ρ hi o) (v:EJ F ρ j p)
  (hm:m.getD cap<=cap) (d:h.getD len<=m.getD cap) (e:a.getD 0<=h.getD len) (g:m.isSome=true->h.isSome=true):(Instr.sliceBounds f len cap l o p).run P w=.ok (a.getD 0,h.getD len,m.getD cap) w:=by
 rcases LC s v with⟨rfl,rfl⟩|⟨k,n,rfl,hn,rfl⟩<;>rcases LC r u with⟨rfl,rfl⟩|⟨k2,n2,rfl,b,rfl⟩<;>
  rcases LC q t with⟨rfl,rfl⟩|⟨i,n1,rfl,c,rfl⟩<;>simp only[Option.getD_none,Option.getD_some] at hm d e|-<;>
  (first
   |(simp at g;done)
   |(simp only[Instr.sliceBounds,jn,sN,lL];done)
   |(simp only[Instr.sliceBounds,jn,sN,lL,uw (P:=P) w i n1 _ _ c e];done)
   |(simp only[Instr.sliceBounds,jn,sN,lL,uw (P:=P) w k2 n2 _ _ b d];done)
   |(simp only[Instr.sliceBounds,jn,sN,lL,uw (P:=P) w k2 n2 _ _ b d,uw (P:=P) w i n1 _ _ c e];done)
   |(simp only[Instr.sliceBounds,jn,sN,lL,uw (P:=P) w k n _ _ hn hm,uw (P:=P) w k2 n2 _ _ b d];done)
   |(simp only[Instr.sliceBounds,jn,sN,lL,uw (P:=P) w k n _ _ hn hm,uw (P:=P) w k2 n2 _ _ b d,uw (P:=P) w i n1 _ _ c e];done))
def UZ(w:World){t:TypeId}{x r:AV}{u:Value}{lo hi R:Option AV}{C D A:Option Value}(h:sq P t x lo hi R=some r)(n:h_ F ρ x u)
  (S:EJ F ρ lo C) (T:EJ F ρ hi D) (E:EJ F ρ R A):∃v,(Instr.sliceAt t u C D A).run P w=.ok v w/\h_ F ρ r v:=by
 unfold sq at h
 split at h
 ·rename_i a f m U V G
  split at h
  ·rename_i e tag l hu
   split at h
   ·cases h
   ·rename_i ag sz X
    split at h
    ·rename_i H;obtain⟨I,i,j⟩:=H;obtain⟨base,cap,b,o,Y,vs,rfl,hs,_,_⟩:=qM n;have k:=vq j hs.sz
     have step:∀(g:Nat),g=m.getD cap->g<=cap->f.getD l.length<=g->(m.isSome=true->f.isSome=true)->∀B,(B=Tag.jU\/B=Tag.full/\g=f.getD l.length)->∃v,(Instr.sliceAt t (.slice base l.length cap) C D A).run P w=.ok v w/\h_ F ρ (.slice B ((l.take (f.getD l.length)).drop (a.getD 0))) v:=by
      intro g J Z aa K B L;have M:=NH (P:=P) (F:=F) (ρ:=ρ) w true (len:=l.length) (cap:=cap) U V G S T E VW VW i K
      refine⟨.slice (if g=a.getD 0 then base else base.map (·.add (a.getD 0*sz))) (f.getD l.length-a.getD 0) (g-a.getD 0),?_,?_⟩
      ·unfold Instr.sliceAt;rw[jn,run_underlying hu];simp only[lL];unfold Instr.slice;rw[jn,run_underlying hu];simp only[lL,jn,M,m_ X,sN,<-J]
      ·have hlen:((l.take (f.getD l.length)).drop (a.getD 0)).length=f.getD l.length-a.getD 0:=by
        rw[Tf,Dr];omega
       rw[<-hlen]
       have d:((l.take (f.getD l.length)).drop (a.getD 0)).flatMap AV.cells=((l.flatMap AV.cells).take (f.getD l.length*sz)).drop (a.getD 0*sz):=by
        rw[CQ (sz:=sz) (λx n=>k x (Hi n)),HR k]
       refine .p (.slice (b:=b) (o:=o+a.getD 0*sz) (sz:=sz) (vs:=(vs.take (f.getD l.length*sz)).drop (a.getD 0*sz)) ?_ ?_ ?_ ?_ ?_ ?_ ?_ ?_)
       ·rw[d];exact(hs.cells.take _).drop _
       ·exact(hs.has.take _).drop _
       ·intro q;have W:0<((l.take (f.getD l.length)).drop (a.getD 0)).length:=T7.2 q
        have N:l≠[]:=by rintro rfl;simp at q
        rw[cI VW,hs.base N];simp[Addr.add_lit]
       ·exactλx n=>k x (Hi (Nl n))
       ·intro c y;rw[d] at y;exact hs.wm c (Hi (Nl y))
       ·omega
       ·have:=hs.Gy;omega
       ·rcases L with h|⟨h,h'⟩
        ·exact .inl h
        ·exact .inr ⟨h,VW⟩
     split at h
     ·cases h;exact step cap rfl (ig _) (by have:=hs.Gc;omega) aaB .jU (.inl rfl)
     ·rename_i g
      split at h
      ·rename_i z;cases h;have ab:=hs.Gc;refine step g rfl VW z.2.1 (λ_=>z.1) _ ?_
       by_cases he:g=f.getD l.length
       ·rw[cK he];exact .inr ⟨rfl,he⟩
       ·rw[cI he];exact .inl rfl
      ·cases h
    ·cases h
  ·rename_i s hu
   split at h
   ·rename_i H;obtain⟨I,i,j⟩:=H;cases h;cases gK n
    have O:m=none:=by cases m<;>simp_all
    subst O
    have Q:A=none:=by
     rcases LC G E with⟨_,h⟩|⟨_,_,_,_,h⟩
     ·exact h
     ·cases h
    subst Q;have M:=NH (P:=P) (F:=F) (ρ:=ρ) w false (len:=s.size) (cap:=s.size) U V G S T E aaB (by simpa using i) j aaB;refine⟨_,?_,.p (.sc rfl)⟩;unfold Instr.sliceAt;rw[jn,run_underlying hu];simp only[lL];unfold Instr.slice;rw[jn,run_underlying hu];simp only[lL,Option.isSome_none,lU,jC,jn,sN,M]
   ·cases h
  ·cases h
 ·cases h
end
def placesOf(P:Program)(t:TypeId):Option (List (Nat×Nat)):=
 match P.underlying t with
 |some (.struct a)=>a.toList.mapM λf=>(P.info? f.type).map λi=>(f.offset,i.size)|_=>none
def fJ(P:Program)(t i:Nat):Option (Nat×Nat):=
 match placesOf P t with
 |some ps=>ps[i]?|none=>match Rv P t with
  |some (_,e)=>(P.info? e).map λf=>(i*f.size,f.size)|none=>none
def e9:AV->Bool
 |.tuple _=>false|_=>true
def KN(P:Program)(t:TypeId):List AV->List (Nat×AV)->Option (List AV)
 |cs,[]=>some cs|cs,(i,x)::rest=>
  match fJ P t i with
  |some (off,size)=>if x.cells.length=size/\off+size<=cs.length/\e9 x then KN P t (setCells cs off x.cells) rest else none|none=>none
def re(P:Program)(t:TypeId):Option (List AV):=
 match zeroOf P t with
 |some (.agg z)=>if z.all (·.oneCell')=true/\((placesOf P t).isSome\/((Rv P t).bind λp=>P.info? p.2).isSome)then some (z.toList.map uO)else none|_=>none
def GU(P:Program)(t:TypeId)(parts:List (Nat×AV)):Option AV:=
 match re P t with
 |some z=>(KN P t z parts).map .agg|none=>none
def foldl_set(new:List Value):∀(k off:Nat) (vs:Array Value),off+k+new.length<=vs.size->((new.zipIdx k).foldl (λcs (x:Value×Nat)=>cs.setIfInBounds (off+x.2) x.1) vs).toList=vs.toList.take (off+k)++new++vs.toList.drop (off+k+new.length):=by
 induction new with
 |nil=>intro k off vs h;simp|cons v new b=>
  intro k off vs h;simp only[List.zipIdx_cons,List.foldl_cons,hW] at h|-;rw[b (k+1) off _ aaP]
  have a:off+k<vs.toList.length:=aaP
  simp only[adQ]
  have c:(vs.toList.set (off+k) v).take (off+(k+1))=vs.toList.take (off+k)++[v]:=by
    rw[<-Nf,List.take_succ_eq_append_getElem (by simpa using a),List.take_set]
    congr 1
    ·apply List.set_eq_of_length_le;simp[Dr];omega
    ·simp
  have d:(vs.toList.set (off+k) v).drop (off+(k+1)+new.length)=vs.toList.drop (off+k+(new.length+1)):=by
    rw[List.drop_set_of_lt VW]
    congr 1
    omega
  rw[c,d];simp
section
variable{P:Program} {F:nc} {ρ:Maps}
def iU.setCells{R:AV->Value->Prop}{cs new:List AV}{vs nv:List Value}(h:iU R cs vs)(a:iU R new nv)(off:Nat):iU R (setCells cs off new) (vs.take off++nv++vs.drop (off+new.length)):=by
 unfold ns.setCells;exact((h.take off).append a).append (h.drop _)
def kE{x:AV}(h:e9 x=true):∀vs,x≠ .tuple vs:=by
 rintro vs rfl;simp[e9] at h
def Rk{t:TypeId}(place:Nat->Option (Nat×Nat))(A:∀i y,fJ P t i=some y->place i=some y):∀(parts:List (Nat×AV)) (pv:List (Nat×Value)) (cs r:List AV) (vs:Array Value),KN P t cs parts=some r->iU (lH F ρ) cs vs.toList->(∀c∈cs,c.gw=true)->iU (λ(x:Nat×AV) (y:Nat×Value)=>x.1=y.1/\h_ F ρ x.2 y.2) parts pv->∃ws:Array Value,Instr.fill place vs pv=some ws/\iU (lH F ρ) r ws.toList/\∀c∈r,c.gw=true:=by
 intro parts
 induction parts with
 |nil=>
  intro pv cs r vs h f a d;cases d;simp[KN] at h;subst h;exact⟨vs,rfl,f,a⟩
 |cons p parts B=>
  intro pv cs r vs h f a d;obtain⟨i,x⟩:=p;cases d with
  |cons C g=>
   rename_i q pv;obtain⟨j,v⟩:=q;obtain⟨l,o⟩:=C;simp only at l o;subst l;simp only[KN] at h
   split at h
   ·rename_i off size s
    split at h
    ·rename_i D;obtain⟨E,G,m⟩:=D;have b:=o.cells (kE m);have hlen:=b.length
     have H:vs.size=cs.length:=by simpa using f.length.symm
     have I:v.cells.toList.length=v.cells.size:=aaB
     have e:=foldl_set v.cells.toList 0 off vs (by simp only[FW];omega);have fH:=f.setCells b off;rw[hlen] at fH;simp only[FW] at e;rw[<-e] at fH
     obtain⟨ws,u,w,z⟩:=B pv _ _ _ h fH (by
      intro c n;simp only[ns.setCells,rS] at n;rcases n with(hm|hm)|hm
      ·exact a c (Hi hm)
      ·exact o.wm (kE m) c hm
      ·exact a c (Nl hm)) g
     refine⟨ws,?_,w,z⟩;unfold Instr.fill;rw[A _ _ s]
     have k:(v.cells.size≠size||decide (off+v.cells.size>vs.size))=false:=by
      simp only[Bool.or_eq_false_iff,UU,ne_eq,Decidable.not_not];constructor<;>omega
     show(if(decide (v.cells.size≠size)||decide (off+v.cells.size>vs.size)) then none else Instr.fill place (v.cells.zipIdx.foldl (λcs (x:Value×Nat)=>cs.setIfInBounds (off+x.2) x.1) vs) pv)=some ws;rw[cI (by rw[k];simp),<-adP,aei];exact u
    ·cases h
   ·cases h
def Lw(w:World):∀(a:List Field) (ps:List (Nat×Nat)),(a.mapM λf=>(P.info? f.type).map λi=>(f.offset,i.size))=some ps->(a.mapM λf=>(do pure (f.offset,<-sizeOf f.type):Sem (Nat×Nat))).run P w=.ok ps w:=by
 intro a
 induction a with
 |nil=>intro ps h;simp at h;subst h;rfl
 |cons f a e=>
  intro ps h;simp only[Y4,Option.bind_eq_bind,Yd] at h;obtain⟨p,b,c,d,h⟩:=h;cases hi:P.info? f.type with
  |none=>rw[hi] at b;cases b
  |some i=>
   rw[hi] at b;simp at b h;subst b;subst h;simp only[Y4,jn,sizeOf,typeInfo,program,Sem.run,hi,lL,sN];have:=e c d;simp only[jn,sizeOf,typeInfo,program] at this;rw[this];rfl
def run_map{α β:Type}(w:World)(f:α->β)(x:Sem α):(Functor.map f x).run P w=(x.run P w).andThen λa w'=>.ok (f a) w':=by
 show(x>>=λa=>pure (f a)).run P w=_;rw[jn];rfl
def run_build(w:World){t:TypeId}{parts:List (Nat×AV)}{r:AV}{pv:List (Nat×Value)}(h:GU P t parts=some r)
  (k:iU (λ(x:Nat×AV) (y:Nat×Value)=>x.1=y.1/\h_ F ρ x.2 y.2) parts pv):∃v,(Instr.build t pv.toArray).run P w=.ok v w/\h_ F ρ r v:=by
 have h:∃z:Array Value,zeroOf P t=some (.agg z)/\(z.all (·.oneCell')=true/\((placesOf P t).isSome\/((Rv P t).bind λp=>P.info? p.2).isSome))/\(KN P t (z.toList.map uO) parts).map .agg=some r:=by
  unfold GU re at h
  split at h
  ·rename_i z0 d
   split at d
   ·rename_i z l
    split at d
    ·rename_i u;injection d with d;subst d;exact⟨z,l,u,h⟩
    ·cases d
   ·cases d
  ·cases h
 obtain⟨z,l,u,h⟩:=h
 ·--L literal
  ·obtain⟨A,j⟩:=u;cases H:KN P t (z.toList.map uO) parts with
   |none=>rw[H] at h;cases h
   |some cs=>
    rw[H] at h;cases h
    have B:(zeroValue t).run P w=.ok (.agg z) w:=by
     unfold zeroOf at l;cases hi:P.info? t with
     |none=>rw[hi] at l;cases l
     |some i=>
      rw[hi] at l;simp at l;simp[zeroValue,typeInfo,hi,l]
    have m:∀v∈z.toList,v.oneCell'=true:=λv M=>OF.1 A v (Bn.1 M);have C:iU (lH F ρ) (z.toList.map uO) z.toList:=(uT F ρ.G ρ.n _ m).yS.mono λ_ _ _ h=>.p h
    have D:∀c∈z.toList.map uO,c.gw=true:=by
     intro c u;obtain⟨a,_,rfl⟩:=nU.1 u;exact CY a
    cases b:placesOf P t with
    |some ps=>
     have I:∃E,P.underlying t=some (.struct E)/\(E.toList.mapM λf=>(P.info? f.type).map λi=>(f.offset,i.size))=some ps:=by
      unfold placesOf at b
      split at b
      ·exact⟨_,by assumption,b⟩
      ·cases b
     obtain⟨E,hu,hm⟩:=I
     obtain⟨ws,o,q,s⟩:=Rk (P:=P) (F:=F) (ρ:=ρ) (t:=t) (ps.toArray[·]?) (by
      intro i y hy;unfold fJ at hy;rw[b] at hy
      simpa using hy) parts pv _ _ z H C D k
     refine⟨.agg ws,?_,by simpa using h_.agg (vs:=ws.toList) q s⟩;unfold Instr.build;simp only[jn,B,lL,run_underlying hu];have J:=Lw (P:=P) w E.toList ps hm;rw[<-TH (xs:=E),adl,run_map,J];simp only[sN,lL,Value.cells,o]
    |none=>
     cases g:Rv P t with
     |none=>simp[b,g] at j
     |some ne=>
      obtain⟨n,e⟩:=ne
      have hu:P.underlying t=some (.array n e):=by
       unfold Rv at g
       split at g
       ·rename_i hu;cases g;exact hu
       ·cases g
      cases hi:P.info? e with
      |none=>simp[b,g,hi] at j
      |some K=>
       obtain⟨ws,o,q,s⟩:=Rk (P:=P) (F:=F) (ρ:=ρ) (t:=t) (λi=>some (i*K.size,K.size)) (by
        intro i y hy;unfold fJ at hy;rw[b] at hy;simp[g,hi] at hy
        simp[hy]) parts pv _ _ z H C D k
       refine⟨.agg ws,?_,by simpa using h_.agg (vs:=ws.toList) q s⟩;unfold Instr.build;simp only[jn,B,lL,run_underlying hu,sizeOf,typeInfo,program,Sem.run,hi,sN,Value.cells,o]
end
end Go.ns
namespace Go.ns
open Go
def Bz(P:Program):List Field->List AV->List AV->Option Bool
 |[],_,_=>some true|f::fs,xs,ys=>
  if f.name= "_" then Bz P fs xs ys else
  match P.underlying f.type,p0 P f.type xs f.offset,p0 P f.type ys f.offset with
  |some (.int _),some (.sc (.int k a)),some (.sc (.int k' b))=>if k=k' then(Bz P fs xs ys).map λr=>(a==b)&&r else none|some .string,some (.sc (.string a)),some (.sc (.string b))=>(Bz P fs xs ys).map λr=>(a.toList==b.toList)&&r|some .bool,some (.sc (.bool a)),some (.sc (.bool b))=>(Bz P fs xs ys).map λr=>(a==b)&&r|_,_,_=>none
def aeY(P:Program)(t:TypeId):Bool:=!P.eqGuardType P.depth t&&!P.stoodInHeld t
def O4(P:Program)(t:TypeId)(xs a:List AV):Option Bool:=
 match P.underlying t with
 |some (.struct b)=>if aeY P t then Bz P b.toList xs a else none|_=>none
def p9(P:Program)(op:BinOp)(t:TypeId)(x y:AV):Option AV:=
 match op,x,y with
 |.eql,.agg xs,.agg a=>(O4 P t xs a).map λb=>.sc (.bool b)|.neq,.agg xs,.agg a=>(O4 P t xs a).map λb=>.sc (.bool (!b))|op,x,y=>vO P op t x y
def Km(P:Program)(op:BinOp)(t:TypeId):Operand->AV->AV->Option AV
 |.const .nilIface,.sc .nilIface,_=>match op,P.underlying t with
  |.eql,some (.interface _)=>some (.sc (.bool true))|.neq,some (.interface _)=>some (.sc (.bool false))|_,_=>none
 |_,u,v=>p9 P op t u v
def L1:List AV->Option (List Int)
 |[]=>some []|.sc (.int .u8 n)::l=>(L1 l).map (n:: ·)|_::_=>none
def Zo(P:Program)(s d:TypeId)(l:List AV):Option AV:=
 match P.underlying s,P.underlying d with
 |some (.slice e),some .string=>match P.underlying e,L1 l with
  |some (.int .u8),some a=>some (.sc (.string (strOfNums a)))|_,_=>none
 |_,_=>none
def Wp(P:Program)(s d:TypeId)(x:AV):Option AV:=
 match P.underlying s,P.underlying d,x with
 |some _,some (.int k),.sc (.int _ n)=>some (.sc (.int k (k.wrap n)))|some _,some .string,.sc (.string b)=>some (.sc (.string b))|_,_,_=>none
def ON(P:Program)(s d:TypeId)(x:AV):Option AV:=
 match x with
 |.slice _ l=>Zo P s d l|x=>Wp P s d x
def Lm(P:Program)(t:TypeId)(x:AV):Option AV:=
 match P.underlying t,x with
 |some (.slice _),.slice _ l=>some (.sc (.int .i64 l.length))|some (.slice _),.A3 _ _ len _=>some (.sc (.int .i64 len))|some (.slice _),.KD=>some (.sc (.int .i64 0))|some (.slice _),.xx _ _ len _=>some (.sc (.int .i64 len))|some .string,.sc (.string s)=>some (.sc (.int .i64 s.size))|some (.array n _),_=>some (.sc (.int .i64 n))|_,_=>none
def Uy:AV->AV->Option AV
 |.sc (.int k a),.sc (.int _ b)=>some (.sc (.int k (if b>a then b else a)))|_,_=>none
def Wk:AV->AV->Option AV
 |.sc (.int k a),.sc (.int _ b)=>some (.sc (.int k (if b<a then b else a)))|_,_=>none
def O9(f:AV->AV->Option AV):AV->List AV->Option AV
 |x,[]=>some x|x,y::l=>(f x y).bind λz=>O9 f z l
def xa(P:Program)(T:ec)(fr:Fr)(c:Call):Option AV:=
 match c.callee with
 |.builtin .len=>match c.argTypes[0]?,c.args[0]?with
  |some t,some x=>Lm P t (ev T fr x)|_,_=>none
 |.builtin .max=>match c.args.toList with
  |x::l=>O9 Uy (ev T fr x) (l.map (ev T fr))|[]=>none
 |.builtin .min=>match c.args.toList with
  |x::l=>O9 Wk (ev T fr x) (l.map (ev T fr))|[]=>none
 |_=>none
def LH(P:Program)(t:TypeId)(x:AV):Option AV:=
 match x with
 |.iface a v=>match P.underlying t with
  |some (.interface _)=>none|some _=>if a=t then some (.tuple [v,.sc (.bool true)])else match zeroOf P t with
   |some z=>if Dz z then some (.tuple [ofValue z,.sc (.bool false)])else none|none=>none
  |none=>none
 |_=>none
def zs(P:Program)(T:ec)(fr:Fr)(o:Oper):Option AV:=
 match o.op with
 |.typeAssert x _ t true=>LH P t (ev T fr x)|.move x=>some (ev T fr x)|.assign x=>some (ev T fr x)|.pick c a b=>match ev T fr c with
  |.sc (.bool t)=>some (if t then ev T fr a else ev T fr b)|_=>none
 |.build t ps=>GU P t (ps.toList.map λp=>(p.1,ev T fr p.2))|.binOp op t x y _=>Km P op t y (ev T fr x) (ev T fr y)|.unOp op _ x=>unA op (ev T fr x)|.convert s d x=>ON P s d (ev T fr x)|.makeFunc fn f c=>some (.func fn (f.toList.map λx=>(ev T fr x).norm) (c.toList.map λx=>(ev T fr x).norm))|.fieldAddr t x i=>vw P t (ev T fr x) i|.field t x i=>DM P t (ev T fr x) i|.indexAddr t x i=>gO P t (ev T fr x) (ev T fr i)|.index t x i=>JE P t (ev T fr x) (ev T fr i)|.slice t x lo hi e=>sq P t (ev T fr x) (lo.map (ev T fr)) (hi.map (ev T fr)) (e.map (ev T fr))|.extract x i=>match ev T fr x with
  |.tuple vs=>vs[i]?|_=>none
 |.nilCheck x=>match ev T fr x with
  |.func (.func f) a b=>some (.func (.func f) a b)|x=>if I' x then some x else none
 |.makeInterface t x=>if P.concrete t then some (.iface t (ev T fr x).norm)else none|.call c=>xa P T fr c|_=>none
section
variable{P:Program} {T:ec} {F:nc} {ρ:Maps} {fr:Fr} {a:Act}
def Q8(w:World){t j:TypeId}{x r:AV}{u:Value}(h:LH P t x=some r)(l:h_ F ρ x u):∃v,(Instr.typeAssert u j t true).run P w=.ok v w/\h_ F ρ r v:=by
 unfold LH at h
 split at h
 ·rename_i c v
  obtain⟨b,rfl,m⟩:∃b,u=.iface c b/\ic F ρ.G ρ.n v b:=by
   cases l with
   |cell h=>cases h with
    |p h=>cases h with|iface h=>exact⟨_,rfl,h⟩
  split at h
  ·cases h
  ·rename_i ty d hu
   have k:(Instr.typeAssert (.iface c b) j t true).run P w=(if c=t then(pure (.tuple #[b,.bool true]):Sem Value)else do pure (.tuple #[<-zeroValue t,.bool false])).run P w:=by
    unfold Instr.typeAssert;simp only[jn,run_underlying hu,lL]
    cases ty<;>first|rfl|exact absurd rfl (d _)
   split at h
   ·rename_i e;subst e;cases h;refine⟨_,by rw[k,cK rfl];rfl,.p ?_⟩;exact .tuple (vs:=[b,.bool true]) (.cons m (.cons (.sc rfl) .nil))
   ·rename_i f
    split at h
    ·rename_i z a
     split at h
     ·rename_i o;cases h;refine⟨.tuple #[z,.bool false],?_,.p ?_⟩
      ·rw[k,cI f]
       have g:(zeroValue t).run P w=.ok z w:=by
        unfold zeroOf at a;cases hi:P.info? t with
        |none=>rw[hi] at a;cases a
        |some i=>
         rw[hi] at a;have a:i.zero=some z:=a;simp[zeroValue,typeInfo,hi,a]
       simp only[jn,g,lL];rfl
      ·exact .tuple (vs:=[z,.bool false]) (.cons (Dw _ _ _ z o) (.cons (.sc rfl) .nil))
     ·cases h
    ·cases h
  ·cases h
 ·cases h
def LG(he:xQ F ρ fr a)(b:CM T F ρ):∀(xs:List Operand),(∀x∈xs,lG x=true)->iU (h_ F ρ) (xs.map (ev T fr)) (xs.map a.eval)
 |[],_=>.nil|x::xs,h=>.cons (hV he b x (h x aaB)) (LG he b xs λy hy=>h y (by simp[hy]))
def MH(he:xQ F ρ fr a)(b:CM T F ρ)(xs:List Operand)(h:∀x∈xs,lG x=true):iI F ρ.G ρ.n (xs.map λx=>(ev T fr x).norm) (xs.map a.eval):=by
 have:=(LG he b xs h).Az AV.norm λ_ _ _ h=>h_.norm h;rw[Q6] at this;exact .so this
def ND(he:xQ F ρ fr a)(b:CM T F ρ):∀(ps:List (Nat×Operand)),(∀p∈ps,lG p.2=true)->iU (λ(x:Nat×AV) (y:Nat×Value)=>x.1=y.1/\h_ F ρ x.2 y.2) (ps.map λp=>(p.1,ev T fr p.2)) (ps.map λp=>(p.1,a.eval p.2))
 |[],_=>.nil|p::ps,h=>.cons ⟨rfl,hV he b p.2 (h p aaB)⟩ (ND he b ps λq c=>h q (by simp[c]))
def T3(he:xQ F ρ fr a)(b:CM T F ρ)(x:Option Operand)(h:∀y,x=some y->lG y=true):EJ F ρ (x.map (ev T fr)) (x.map a.eval):=by
 cases x with
 |none=>trivial|some y=>exact hV he b y (h y rfl)
def Rq{v:Value}(h:h_ F ρ .KD v):∃base,v=.slice base 0 0:=by
 cases h with
 |cell h=>cases h with
  |p h=>cases h with|KD=>exact⟨_,rfl⟩
def WO(w:World){t ty:TypeId}{x r:AV}{u:Value}(h:Lm P t x=some r)(a:h_ F ρ x u){ts:Array TypeId}{us:Array Value}(c:ts[0]?=some t)(d:us[0]?=some u):∃v,(Builtin.len_ ts ty us).run P w=.ok v w/\h_ F ρ r v:=by
 unfold Lm at h;unfold Builtin.len_;simp only[c,d]
 split at h
 ·rename_i e tag l hu;cases h;obtain⟨base,cap,b,o,sz,vs,rfl,hs,_,_⟩:=qM a;exact⟨_,by simp only[jn,run_underlying hu,lL];rfl,.p (.sc rfl)⟩
 ·rename_i e b g len cap hu;cases h;obtain⟨rfl,_,_,_⟩:=E8 a;exact⟨_,by simp only[jn,run_underlying hu,lL];rfl,.p (.sc rfl)⟩
 ·rename_i e hu;cases h;obtain⟨base,rfl⟩:=Rq a;exact⟨_,by simp only[jn,run_underlying hu,lL];rfl,.p (.sc rfl)⟩
 ·rename_i e b len cap hu;cases h;obtain⟨rfl,_,_,_⟩:=HZ a;exact⟨_,by simp only[jn,run_underlying hu,lL];rfl,.p (.sc rfl)⟩
 ·rename_i s hu;cases h;cases gK a;exact⟨_,by simp only[jn,run_underlying hu,lL];rfl,.p (.sc rfl)⟩
 ·rename_i n e hu;cases h;exact⟨_,by simp only[jn,run_underlying hu,lL];rfl,.p (.sc rfl)⟩
 ·cases h
def O2(w:World){f:AV->AV->Option AV}{g:Value->Value->Sem Value}(j:∀x y r u v,f x y=some r->h_ F ρ x u->h_ F ρ y v->∃z,(g u v).run P w=.ok z w/\h_ F ρ r z):∀(l:List AV) (x r:AV) (u:Value) (us:List Value),O9 f x l=some r->h_ F ρ x u->iU (h_ F ρ) l us->∃z,(us.foldlM g u).run P w=.ok z w/\h_ F ρ r z:=by
 intro l
 induction l with
 |nil=>
  intro x r u us h a b;cases b;cases h;exact⟨u,rfl,a⟩
 |cons y l k=>
  intro x r u us h a b;cases b with
  |cons m n=>
   simp only[O9,Yd] at h;obtain⟨z,o,h⟩:=h;obtain⟨q,c,d⟩:=j _ _ _ _ _ o a m;obtain⟨p,e,i⟩:=k _ _ _ _ h d n;exact⟨p,by simp only[List.foldlM_cons,jn,c,lL,e],i⟩
def Wm(w:World)(x y r:AV)(u v:Value)(h:Uy x y=some r)(a:h_ F ρ x u)(hy:h_ F ρ y v):∃z,(Builtin.max2 u v).run P w=.ok z w/\h_ F ρ r z:=by
 unfold Uy at h
 split at h
 ·cases gK a;cases gK hy;cases h;exact⟨_,rfl,.p (.sc rfl)⟩
 ·cases h
def WA(w:World)(x y r:AV)(u v:Value)(h:Wk x y=some r)(a:h_ F ρ x u)(hy:h_ F ρ y v):∃z,(Builtin.min2 u v).run P w=.ok z w/\h_ F ρ r z:=by
 unfold Wk at h
 split at h
 ·cases gK a;cases gK hy;cases h;exact⟨_,rfl,.p (.sc rfl)⟩
 ·cases h
def Tq(w:World){xs i:List AV}{us vs:List Value}(n:iU (lH F ρ) xs us)(o1:∀c∈xs,c.gw=true)(o:iU (lH F ρ) i vs)(o2:∀c∈i,c.gw=true):∀(d:List Field) (b:Bool),Bz P d xs i=some b->(Op.eqFields 9999 us.toArray vs.toArray d).run P w=.ok b w:=by
 intro d
 induction d with
 |nil=>intro b h;simp[Bz] at h;subst h;rfl
 |cons f d m=>
  intro b h;unfold Bz at h;unfold Op.eqFields
  split at h
  ·rename_i hn;rw[cI (by simpa using hn)];exact m b h
  ·rename_i hn;rw[cK (by simpa using hn)]
   have step:∀{x y:Value} {r:Bool},p0 P f.type xs f.offset=some (.sc x)->p0 P f.type i f.offset=some (.sc y)->(Op.equalIn 9999 f.type x y).run P w=.ok r w->(Bz P d xs i).map (λq=>r&&q)=some b->(do
      let a<-part f.type us.toArray f.offset
      let b<-part f.type vs.toArray f.offset
      let r<-Op.equalIn 9999 f.type a b
      if(!r) then pure false else Op.eqFields 9999 us.toArray vs.toArray d:Sem Bool).run P w=.ok b w:=by
    intro x y r g hy p e;obtain⟨B,s,t⟩:=IX (P:=P) w n o1 g;obtain⟨C,u,v⟩:=IX (P:=P) w o o2 hy;obtain rfl:=gK t;obtain rfl:=gK v;simp only[jn,s,u,p,lL];cases l:Bz P d xs i with
    |none=>rw[l] at e;cases e
    |some q=>
     rw[l] at e;simp only[UW,wh] at e;cases r
     ·simp at e;subst e;rfl
     ·simp at e;subst e;simpa using m q l
   split at h
   ·rename_i k z a k2 j hu g hy
    split at h
    ·rename_i A;subst A;exact step g hy (run_equalIn_int w 9998 f.type z k a j hu) h
    ·cases h
   ·rename_i a j hu g hy;exact step g hy (run_equalIn_string w 9998 f.type a j hu) h
   ·rename_i a j hu g hy;exact step g hy (run_equalIn_bool' w 9998 f.type a j hu) h
   ·cases h
def Up(P:Program)(w:World){t:TypeId}{ms:Array (String×TypeId)}(hu:P.underlying t=some (.interface ms)):(binOp .eql t .nilIface .nilIface).run P w=.ok (.bool true) w/\(binOp .neq t .nilIface .nilIface).run P w=.ok (.bool false) w:=by
 have h:∀d,(Op.equalIn (d+1) t .nilIface .nilIface).run P w=.ok true w:=λd=>by simp[Op.equalIn,run_underlying hu]
 have a:binOp .eql t .nilIface .nilIface=(do pure (.bool (<-Op.equalIn (9999+1) t .nilIface .nilIface))):=rfl;have b:binOp .neq t .nilIface .nilIface=(do pure (.bool (!(<-Op.equalIn (9999+1) t .nilIface .nilIface)))):=rfl;rw[a,b,jn,jn,h 9999];exact⟨rfl,rfl⟩
def Xp(w:World){op:BinOp}{t:TypeId}{x y r:AV}{u v:Value}(h:p9 P op t x y=some r)(e:h_ F ρ x u)(hy:h_ F ρ y v):∃z,(binOp op t u v).run P w=.ok z w/\r=.sc z/\BD z=true/\∀a b,(eqGuard op t a b u v).run P w=.ok () w:=by
 have agg:∀{xs i:List AV} {b:Bool},O4 P t xs i=some b->h_ F ρ (.agg xs) u->h_ F ρ (.agg i) v->∃us vs:List Value,u=.agg us.toArray/\v=.agg vs.toArray/\(Op.equalIn (9999+1) t u v).run P w=.ok b w/\P.eqGuardType P.depth t=false:=by
  intro xs i b c e hy;obtain⟨us,rfl,u1,u2⟩:=Ip e;obtain⟨vs,rfl,v1,v2⟩:=Ip hy;unfold O4 at c
  split at c
  ·rename_i l hu
   split at c
   ·rename_i d;simp only[aeY,ez,UK] at d
    have k:P.fieldsOf t=l:=by simp[Program.fieldsOf,hu]
    refine⟨us,vs,rfl,rfl,?_,d.1⟩;rw[run_equalIn_struct w 9999 t us.toArray vs.toArray (by rw[k];exact hu) d.2,k];exact Tq w u1 u2 v1 v2 _ _ c
   ·cases c
  ·cases c
 unfold p9 at h
 split at h
 ·cases c:O4 P t _ _ with
  |none=>rw[c] at h;cases h
  |some b=>
   rw[c] at h;cases h;obtain⟨us,vs,rfl,rfl,f,g⟩:=agg c e hy;refine⟨.bool b,?_,rfl,rfl,λa b=>?_⟩
   ·have j:binOp .eql t (.agg us.toArray) (.agg vs.toArray)=(do pure (.bool (<-Op.equalIn (9999+1) t (.agg us.toArray) (.agg vs.toArray)))):=rfl;rw[j,jn,f];rfl
   ·simp[eqGuard,g,Result.andThen]
 ·cases c:O4 P t _ _ with
  |none=>rw[c] at h;cases h
  |some b=>
   rw[c] at h;cases h;obtain⟨us,vs,rfl,rfl,f,g⟩:=agg c e hy;refine⟨.bool !b,?_,rfl,rfl,λa b=>?_⟩
   ·have j:binOp .neq t (.agg us.toArray) (.agg vs.toArray)=(do pure (.bool (!(<-Op.equalIn (9999+1) t (.agg us.toArray) (.agg vs.toArray))))):=rfl;rw[j,jn,f];rfl
   ·simp[eqGuard,g,Result.andThen]
 ·obtain⟨z,f,g,m,n⟩:=UG P w h e hy;exact⟨z,f,g,m,λa b=>RS P w op t a b n⟩
def KK{G:Nat->Nat}{n:Nat}:∀{a:List Int} {vs:List Value},iI F G n (a.map (λn=>AV.sc (.int .u8 n))) vs->vs=a.map (Value.int .u8)
 |[],_,.nil=>rfl|n::a,_,.cons b c=>by
  cases b;rw[KK c];rfl
def IV:∀{l:List AV} {a:List Int},L1 l=some a->l.flatMap AV.cells=a.map (λn=>AV.sc (.int .u8 n))/\l.length=a.length
 |[],a,h=>by simp[L1] at h;subst h;exact⟨rfl,rfl⟩
 |x::l,a,h=>by
  unfold L1 at h
  split at h
  ·rename_i e;cases e
  ·rename_i n f e;injection e with b c;subst b;subst c;simp only[YQ] at h;obtain⟨ms,d,rfl⟩:=h;obtain⟨i1,i2⟩:=IV d;exact⟨by simp[AV.cells,i1],by simp[i2]⟩
  ·cases h
def HK(w:World)(H:∀b o v,F b o=some v->w.cell? ⟨b,o,none⟩=some v)(he:xQ F ρ fr a)(k:CM T F ρ){o:Oper}{r:AV}(I:o.op.operands.all lG=true)(h:zs P T fr o=some r):∃v,(execOp a.eval o).run P w=.ok (.value v) w/\h_ F ρ r v:=by
 obtain⟨dst,op,type,pos,after,guard⟩:=o;have g:∀x∈op.operands,lG x=true:=λx j=>OF.1 I x j;clear I
 have lift:∀{s:Sem Value},(∃v,s.run P w=.ok v w/\h_ F ρ r v)->∃v,((do pure (.value (<-s))):Sem Next).run P w=.ok (.value v) w/\h_ F ρ r v:=by
  rintro s ⟨v,A,C⟩;exact⟨v,by rw[jn,A];rfl,C⟩
 cases op<;>simp only[zs] at h<;>simp only[Op.operands] at g<;>simp only[execOp]
 case move x=>cases h;exact⟨_,rfl,hV he k x (g x aaB)⟩
 case assign x=>cases h;exact⟨_,rfl,hV he k x (g x aaB)⟩
 case pick c x y=>
  split at h
  ·rename_i t n;cases h;have J:=hV he k c (g c aaB);rw[n] at J;have L:=gK J;refine⟨if t then a.eval x else a.eval y,?_,?_⟩
   ·rw[L];rfl
   ·cases t
    ·exact hV he k y (g y aaB)
    ·exact hV he k x (g x aaB)
  ·cases h
 case build t ps=>
  refine lift ?_;have B:=ND he k ps.toList λp B=>g p.2 (by simp;exact⟨p.1,by simpa using B⟩);have:=run_build (P:=P) w h B
  have e:(ps.toList.map λp=>(p.1,a.eval p.2)).toArray=ps.map λp=>(p.1,a.eval p.2):=by rw[<-Rp,TH]
  rw[e] at this;exact this
 case binOp op t x y Z=>
  obtain⟨z,q,D,M,N⟩:∃z,(binOp op t (a.eval x) (a.eval y)).run P w=.ok z w/\r=.sc z/\BD z=true/\(eqGuard op t x y (a.eval x) (a.eval y)).run P w=.ok () w:=by
   have j:=hV he k x (g x aaB);have hy:=hV he k y (g y aaB);change Km P op t y (ev T fr x) (ev T fr y)=some r at h;generalize ev T fr x=u at h j;generalize ev T fr y=v at h hy;unfold Km at h
   split at h
   ·have j:=gK j;rw[j]
    split at h
    ·rename_i hu;cases h;exact⟨.bool true,(Up P w hu).1,rfl,rfl,by simp[eqGuard,Act.eval]⟩
    ·rename_i hu;cases h;exact⟨.bool false,(Up P w hu).2,rfl,rfl,by simp[eqGuard,Act.eval]⟩
    ·cases h
   ·obtain⟨z,q,D,M,N⟩:=Xp (P:=P) w h j hy;exact⟨z,q,D,M,N _ _⟩
  subst D;refine⟨z,?_,.p (.sc M)⟩;simp only[jn,N,lL,q];rfl
 case unOp op t x=>
  refine lift ?_;have j:=hV he k x (g x aaB);generalize a.eval x=u at j|-;unfold unA at h
  split at h
  ·rename_i n;rw[n] at j;cases gK j;cases h;exact⟨_,by simp[Op.unary,Op.intArith],.p (.sc rfl)⟩
  ·rename_i n;rw[n] at j;cases gK j;cases h;exact⟨_,by simp[Op.unary],.p (.sc rfl)⟩
  ·cases h
 case convert s d x=>
  refine lift ?_;have j:=hV he k x (g x aaB);generalize a.eval x=u at j|-;unfold ON at h
  split at h
  ·rename_i tag l n;unfold Zo at h
   split at h
   ·rename_i e hs E
    split at h
    ·rename_i K hu O;cases h;rw[n] at j;obtain⟨S,hlen⟩:=IV O;obtain⟨base,cap,b,o,sz,vs,rfl,G,_,_⟩:=qM j;refine⟨.string (strOfNums K),?_,.p (.sc rfl)⟩
     have Q:vs=K.map (Value.int .u8):=by
      have B:=G.cells;rw[S] at B;exact KK B
     by_cases hn:l=[]
     ·subst hn;have R:K=[]:=Dq (by simpa using hlen.symm);subst R;cases base with
      |none=>exact run_convert_bytes_nil w s e hs hu 0 cap d E|some U=>
       obtain⟨V,W,X⟩:=U;show(convert s d (.slice (some ⟨V,W,X⟩) 0 cap)).run P w=_;rw[run_convert_bytes_string w s d e _ 0 cap hs hu E,run_bytesToString w _ 0 cap [] (by simp[loadCells,loadCellsFrom])];rfl
     ·rw[G.base hn];refine run_convert_bytes_arg w s e hs hu b o l.length cap K hlen.symm (λi hi=>?_) d E;refine H b (o+i) _ (G.has i _ ?_);rw[Q,xr,nw VW];simp[List.getD,nw (show i<K.length by omega)]
    ·cases h
   ·cases h
  ·unfold Wp at h
   split at h
   ·rename_i hs E n;rw[n] at j;cases gK j;cases h;refine⟨_,?_,.p (.sc rfl)⟩;unfold convert;simp only[jn,run_underlying hs,run_underlying E,lL];rfl
   ·rename_i hs E n;rw[n] at j;cases gK j;cases h;refine⟨_,?_,.p (.sc rfl)⟩;unfold convert;simp only[jn,run_underlying hs,run_underlying E,lL];rfl
   ·cases h
 case makeFunc fn f c=>
  cases h;refine lift ⟨.func fn (f.map a.eval) (c.map a.eval),rfl,?_⟩;have q:=MH he k f.toList λx j=>g x (by simp[Bn.1 j]);have D:=MH he k c.toList λx j=>g x (by simp[Bn.1 j]);have:=ic.func (fn:=fn) q D
  have e:∀l:Array Operand,(l.toList.map a.eval).toArray=l.map a.eval:=λl=>by rw[<-Rp,TH]
  rw[e,e] at this;exact .p this
 case fieldAddr t x i=>exact lift (N5 w h (hV he k x (g x aaB)))
 case field t x i=>exact lift (U0 w h (hV he k x (g x aaB)))
 case indexAddr t x i=>exact lift (Ob w h (hV he k x (g x aaB)) (hV he k i (g i aaB)))
 case index t x i=>exact lift (Vn w h (hV he k x (g x aaB)) (hV he k i (g i aaB)))
 case slice t x lo hi Y=>
  exact lift (UZ w h (hV he k x (g x aaB)) (T3 he k lo λy hy=>g y (by simp[hy])) (T3 he k hi λy hy=>g y (by simp[hy]))
   (T3 he k Y λy hy=>g y (by simp[hy])))
 case extract x i=>
  refine lift ?_;have j:=hV he k x (g x aaB)
  split at h
  ·rename_i vs n;rw[n] at j;obtain⟨us,hu,C⟩:=TO j;obtain⟨v,A,B⟩:=C.get h;refine⟨v,?_,.p B⟩;rw[hu];simp[Instr.extract,A]
  ·cases h
 case nilCheck x=>
  have j:=hV he k x (g x aaB)
  split at h
  ·rename_i f b c n;cases h;rw[n] at j;obtain⟨vf,vc,A,_,_⟩:=FO j;refine⟨a.eval x,?_,j⟩;rw[A];rfl
  ·rename_i n
   split at h
   ·rename_i B;cases h;obtain⟨b,O⟩:=Jd B j;refine⟨a.eval x,?_,j⟩;rw[O];rfl
   ·cases h
 case makeInterface t x=>
  refine lift ?_
  split at h
  ·rename_i n;cases h;exact⟨_,run_makeInterface w t _ n,.p (.iface (hV he k x (g x aaB)).norm)⟩
  ·cases h
 case typeAssert x xt t ok=>
  cases ok with
  |true=>exact lift (Q8 w h (hV he k x (g x aaB)))|false=>cases h
 case call c=>
  obtain⟨callee,args,argTypes⟩:=c;have m:∀x∈args.toList,lG x=true:=λx j=>g x (by simp[Call.operands,Bn.1 j]);simp only[xa] at h
  split at h
  ·split at h
   ·rename_i t x q D;simp only[resolve,invoke,builtin,jn,sN,lL];have j:x∈args:=UO D;obtain⟨v,A,C⟩:=WO (P:=P) (ty:=type) w h (hV he k x (m x (Bn.2 j))) q (us:=args.map a.eval) (by simp[D]);exact⟨v,by rw[A];rfl,C⟩
   ·cases h
  ·split at h
   ·rename_i x l q;simp only[resolve,invoke,builtin,jn,sN,lL];obtain⟨v,A,C⟩:=O2 w (Wm (P:=P) w) _ _ _ _ _ h (hV he k x (m x (by simp[q]))) (LG he k l λy hy=>m y (by simp[q,hy]));refine⟨v,?_,C⟩
    have e:(args.map a.eval).toList=a.eval x::l.map a.eval:=by simp[q]
    simp only[Builtin.max_,e,A,lL]
   ·cases h
  ·split at h
   ·rename_i x l q;simp only[resolve,invoke,builtin,jn,sN,lL];obtain⟨v,A,C⟩:=O2 w (WA (P:=P) w) _ _ _ _ _ h (hV he k x (m x (by simp[q]))) (LG he k l λy hy=>m y (by simp[q,hy]));refine⟨v,?_,C⟩
    have e:(args.map a.eval).toList=a.eval x::l.map a.eval:=by simp[q]
    simp only[Builtin.min_,e,A,lL]
   ·cases h
  ·cases h
 all_goals cases h
end
end Go.ns
namespace Go.ns
open Go
def S9(a:Nat×Nat)(n:Nat):Prop:=a=(0,0)\/n<=a.1
inductive oK (F:nc) (G:Nat->Nat) (n:Nat):List AV->Obj->Prop
 |cells {cs vs ty fz}:S9 fz vs.size->iU (ic F G n) cs vs.toList->(∀c∈cs,c.gw=true)->oK F G n cs (.cells vs ty fz)|map {ks xs es clock}:es.toList.map (·.key)=ks->iU (ic F G n) xs (es.toList.map (·.val))->es.toList.map (·.born)=List.range ks.length->clock=ks.length->ks.Nodup->oK F G n [.yM ks xs] (.map es clock)|iter {o since seen}:o<n->oK F G n [.p_ o since seen] (.mapIter (some (G o)) since seen.toArray since)|dead {ob}:oK F G n [] ob
def oK.grow{F F':nc}{G G':Nat->Nat}{n n':Nat}(hg:Kk F F' G G' n n'){cs c}(h:oK F G n cs c):oK F' G' n' cs c:=by
 cases h with
 |cells d a b=>exact .cells d (a.mono λ_ _ _ h=>h.grow hg) b|map a b e f g=>exact .map a (b.mono λ_ _ _ h=>h.grow hg) e f g|iter h=>rw[<-hg.mG _ h];exact .iter (Th h hg.mn)|dead=>exact .dead
def w6:List AV->Bool
 |[]=>false|c::_=>c.gw
def oK.H6{F:nc}{G:Nat->Nat}{n:Nat}{cs b}(h:oK F G n cs b)(a:w6 cs=true):∃vs ty d,b=.cells vs ty d/\S9 d vs.size/\iU (ic F G n) cs vs.toList/\∀c∈cs,c.gw=true:=by
 cases h with
 |cells e f g=>exact⟨_,_,_,rfl,e,f,g⟩|map=>simp[w6,AV.gw] at a
 |iter=>simp[w6,AV.gw] at a
 |dead=>simp[w6] at a
def NO(vs:Array Value):Prop:=∀u∈vs.toList,u.oneCell'=true
structure GW (T:ec) (G:Nat->Nat) (F:nc) (H:dd) (w:World):Prop where
 JO:∀b o v,F b o=some v->w.cell? ⟨b,o,none⟩=some v
 oB:∀o cs,H[o]?=some cs->∃ob,w.heap[G o]?=some ob/\oK F G H.length cs ob
 inj:∀o o',o<H.length->o'<H.length->G o=G o'->o=o'
 gF:∀o j,o<H.length->H[o]?≠some []->F (G o) j=none
 fresh:∀b j,w.heap.size<=b->F b j=none
 F9:∀g x,T g=some x->ic F G H.length (.nt x) (.pointer (some ⟨g,0,none⟩))
 row:(∀g,T g=none)->∀b o v,F b o=some v->∃vs ty fz,w.heap[b]?=some (.cells vs ty fz)/\S9 fz vs.size/\NO vs
structure Ext (B:Nat) (G:Nat->Nat) (F:nc) (n:Nat) (w:World) (G':Nat->Nat) (F':nc) (n':Nat) (w':World):Prop where
 os:w'.os=w.os
 tape:w'.tape=w.tape
 output:w'.output=w.output
 size:w.heap.size<=w'.heap.size
 len:n<=n'
 hG:∀o,o<n->G' o=G o
 QE:∀o,n<=o->o<n'->B<=G' o
 hF:∀b j,b<B->(∀o,o<n->G o≠b)->F' b j=F b j
 mF:∀b j v,b<B->F b j=some v->F' b j=some v
 heap:∀b,b<B->(∀o,o<n->G o≠b)->w'.heap[b]?=w.heap[b]?
section
variable{B B':Nat} {G G' G'':Nat->Nat} {F F' F'':nc} {n n' n'':Nat} {w w' w'':World}
def Ext.refl:Ext B G F n w G F n w:=⟨rfl,rfl,rfl,ig _,ig _,λ_ _=>rfl,λ_ h a=>absurd a VW,λ_ _ _ _=>rfl,λ_ _ _ _ h=>h,λ_ _ _=>rfl⟩
def Ext.trans(h:Ext B G F n w G' F' n' w')(k:Ext B G' F' n' w' G'' F'' n'' w''):Ext B G F n w G'' F'' n'' w'' where
 os:=k.os.trans h.os
 tape:=k.tape.trans h.tape
 output:=k.output.trans h.output
 size:=CJ h.size k.size
 len:=CJ h.len k.len
 hG o c:=(k.hG o (Th c h.len)).trans (h.hG o c)
 QE o d e:=by
  rcases tv o n' with h3|h3
  ·rw[k.hG o h3];exact h.QE o d h3
  ·exact k.QE o h3 e
 hF b j a hg:=by
  refine(k.hF b j a λo c=>?_).trans (h.hF b j a hg);rcases tv o n with h3|h3
  ·rw[h.hG o h3];exact hg o h3
  ·have:=h.QE o h3 c;omega
 mF b j v a f:=k.mF b j v a (h.mF b j v a f)
 heap b a hg:=by
  refine(k.heap b a λo c=>?_).trans (h.heap b a hg);rcases tv o n with h3|h3
  ·rw[h.hG o h3];exact hg o h3
  ·have:=h.QE o h3 c;omega
def Ext.mono(h:Ext B G F n w G' F' n' w')(c:B'<=B):Ext B' G F n w G' F' n' w':=
 ⟨h.os,h.tape,h.output,h.size,h.len,h.hG,λo d e=>CJ c (h.QE o d e),λb j a=>h.hF b j VW,λb j v a=>h.mF b j v VW,λb a hg=>h.heap b VW hg⟩
end
inductive si where
 |free|box (d:Nat)|oB|arr (k:Nat)
 deriving DecidableEq
structure WR (T:ec) (n B0:Nat) (ρ:Maps) (F:nc) (R:Nat->si) (fr:Fr) (H:dd) (a:Act) (w:World):Prop where
 g:GW T ρ.G F H w
 size:a.tmps.size=n
 defers:a.defers=[]
 env:xQ F ρ fr a
 hn:ρ.n=H.length
 lg:∀d,ρ.lg d=fr.gen d
 ag:∀k,ρ.ag k=fr.fu k
 box:∀d cs,fr.box d=some cs->B0<=ρ.L d (fr.gen d)/\R (ρ.L d (fr.gen d))=.box d/\(∀c∈cs,c.gw=true)/\∃vs ty,w.heap[ρ.L d (fr.gen d)]?=some (.cells vs ty (0,0))/\iU (lH F ρ) cs vs.toList
 tok:∀k m,fr.yB k=some m->∀b c sz,ρ.A k (fr.fu k)=some (b,c,sz)->B0<=b/\R b=.arr k/\(0<m/\m<=c)/\c<=maxLen/\(∃vs ty,w.heap[b]?=some (.cells vs ty (0,0))/\vs.size=c*sz/\NO vs)/\∀j,m*sz<=j->F b j=none
 s5:∀b j v,F b j=some v->∀d,R b≠ .box d
 qa:∀o,o<H.length->R (ρ.G o)=.oB
 ny:∀b,w.heap.size<=b->R b=.free
 tU:B0<=w.heap.size
section
variable{T:ec} {n B0:Nat} {ρ ρ':Maps} {F F':nc} {R:Nat->si} {fr:Fr} {H:dd} {a:Act} {w w':World}
def WR.jQ(h:WR T n B0 ρ F R fr H a w):CM T F ρ:=λg x b=>by rw[h.hn];exact h.g.F9 g x b
def WR.adn(h:WR T n B0 ρ F R fr H a w){b j:Nat}{v:Value}(c:F b j=some v):b<w.heap.size:=by
 rcases tv b w.heap.size with h'|h'
 ·exact h'
 ·rw[h.g.fresh b j h'] at c;cases c
def Fr.yl(fr:Fr)(d:Option Nat)(x:AV)(t:Nat):(fr.put d x).env t=if d=some t then x else fr.env t:=by
 cases d with
 |none=>simp[Fr.put]|some d=>
  simp only[Fr.put,ia,wh]
  by_cases h:t=d
  ·subst h;simp
  ·rw[cI h,cI (λa=>h a.symm)]
def Fr.B1(fr:Fr)(d:Option Nat)(x:AV):(fr.put d x).box=fr.box/\(fr.put d x).gen=fr.gen/\(fr.put d x).yB=fr.yB/\(fr.put d x).fu=fr.fu:=by
 cases d<;>exact⟨rfl,rfl,rfl,rfl⟩
def RP(a:Act)(d:Option Nat)(v:Value)(t:Nat)(c:∀b,d=some b->b<a.tmps.size):(a.put d v).tmps.getD t undef=if d=some t then v else a.tmps.getD t undef:=by
 cases d with
 |none=>simp[Act.put]|some d=>
  have:=c d rfl;simp only[Act.put,wh,PC,Array.getElem?_setIfInBounds]
  by_cases h:d=t
  ·subst h;simp[this]
  ·simp[h]
def xQ.put(he:xQ F ρ fr a){d:Option Nat}(c:∀b,d=some b->b<a.tmps.size){x:AV}{v:Value}(e:h_ F ρ x v):xQ F ρ (fr.put d x) (a.put d v):=by
 intro t;rw[Fr.yl,RP a d v t c]
 split
 ·exact e
 ·exact he t
def I1(a:Act)(d:Option Nat)(v:Value):(a.put d v).tmps.size=a.tmps.size:=by cases d<;>simp[Act.put]
def put_defers(a:Act)(d:Option Nat)(v:Value):(a.put d v).defers=a.defers:=by cases d<;>rfl
def WR.put(h:WR T n B0 ρ F R fr H a w){d:Option Nat}(f:∀b,d=some b->b<n){x:AV}{v:Value}(i:h_ F ρ x v):WR T n B0 ρ F R (fr.put d x) H (a.put d v) w:=by
 obtain⟨j,c,k,e⟩:=Fr.B1 fr d x;refine⟨h.g,by rw[I1];exact h.size,by rw[put_defers];exact h.defers,h.env.put (by rw[h.size];exact f) i,h.hn,?_,?_,?_,?_,h.s5,h.qa,h.ny,h.tU⟩
 ·rw[c];exact h.lg
 ·rw[e];exact h.ag
 ·rw[j,c];exact h.box
 ·rw[k,e];exact h.tok
def WR.drew(h:WR T n B0 ρ F R fr H a w):WR T n B0 ρ F R fr H a w.drew:=
 ⟨⟨h.g.JO,h.g.oB,h.g.inj,h.g.gF,h.g.fresh,h.g.F9,h.g.row⟩,h.size,h.defers,h.env,h.hn,h.lg,h.ag,h.box,h.tok,h.s5,h.qa,h.ny,h.tU⟩
def s8{w:World}{b:Nat}{o:Obj}(h:w.heap[b]?=some o):b<w.heap.size:=(QW.1 h).1
def WR.alloc(h:WR T n B0 ρ F R fr H a w)(o:Obj):WR T n B0 ρ F R fr H a (w.alloc o):=by
 have hs:(w.alloc o).heap.size=w.heap.size+1:=World.size_alloc w o;refine⟨⟨?_,?_,h.g.inj,h.g.gF,?_,h.g.F9,?_⟩,h.size,h.defers,h.env,h.hn,h.lg,h.ag,?_,?_,h.s5,h.qa,?_,by have:=h.tU;omega⟩
 ·intro b j v l;rw[World.cell?_alloc_lt w o ⟨b,j,none⟩ (h.adn l)];exact h.g.JO b j v l
 ·intro t cs u;obtain⟨p,e,f⟩:=h.g.oB t cs u;exact⟨p,(heap_alloc_old w o (s8 e)).trans e,f⟩
 ·intro b j x;exact h.g.fresh b j VW
 ·intro y b j v l;obtain⟨vs,ty,z,e,f⟩:=h.g.row y b j v l;exact⟨vs,ty,z,(heap_alloc_old w o (s8 e)).trans e,f⟩
 ·intro d cs A;obtain⟨e,f,q,vs,ty,i,r⟩:=h.box d cs A;exact⟨e,f,q,vs,ty,(heap_alloc_old w o (s8 i)).trans i,r⟩
 ·intro k m B b c sz C;obtain⟨e,f,q,s,⟨vs,ty,i,r⟩,D⟩:=h.tok k m B b c sz C;exact⟨e,f,q,s,⟨vs,ty,(heap_alloc_old w o (s8 i)).trans i,r⟩,D⟩
 ·intro b x;exact h.ny b VW
def xQ.grow(he:xQ F ρ fr a)(hg:zc F F' ρ ρ'):xQ F' ρ' fr a:=λt=>(he t).grow hg
def wI{α:Type}(f:Nat->Nat->α)(i j:Nat)(x:α):Nat->Nat->α:=λa b=>if a=i/\b=j then x else f a b
def WR.ZG(h:WR T n B0 ρ F R fr H a w){b:Nat}{vs:Array Value}{ty:TypeId}{cs:List AV}(K:B0<=b)(q:R b=.free)(hF:∀j,F b j=none)
  (J:w.heap[b]?=some (.cells vs ty (0,0))) (A:iU (lH F ρ) cs vs.toList) (u:∀c∈cs,c.gw=true) {d:Nat} (M:d<n):∃ρ' y,ρ'.G=ρ.G/\WR T n B0 ρ' F y {fr with env:=ia fr.env d (.jo d (fr.gen d+1) 0),box:=ia fr.box d (some cs),gen:=ia fr.gen d (fr.gen d+1)} H
   (a.put (some d) (.pointer (some ⟨b,0,none⟩))) w:=by
 let ρ':Maps:={ρ with L:=wI ρ.L d (fr.gen d+1) b,lg:=ia ρ.lg d (fr.gen d+1)}
 let y:Nat->si:=ia R b (.box d)
 have r:zc F F ρ ρ':=by
  refine⟨.refl,λf=>?_,λf g hg=>?_,λ_=>ig _,λ_ _ _=>rfl⟩
  ·show ρ.lg f<=ia ρ.lg d (fr.gen d+1) f;unfold ia
   split
   ·rename_i N;subst N;rw[h.lg];omega
   ·exact ig _
  ·show wI ρ.L d (fr.gen d+1) b f g=ρ.L f g;unfold wI;rw[cI];rintro⟨rfl,rfl⟩;rw[h.lg] at hg;omega
 have l:∀i,R i≠ .free->y i=R i:=by
  intro i s;show ia R b (.box d) i=R i;unfold ia;rw[cI];rintro rfl;exact s q
 refine⟨ρ',y,rfl,?_⟩;refine⟨⟨h.g.JO,h.g.oB,h.g.inj,h.g.gF,h.g.fresh,h.g.F9,h.g.row⟩,by rw[I1];exact h.size,by rw[put_defers];exact h.defers,?_,h.hn,?_,h.ag,?_,?_,?_,?_,?_,h.tU⟩
 ·have O:=(h.env.grow r).put (d:=some d) (by intro f he;injection he with he;subst he;rw[h.size];exact M) (x:=.jo d (fr.gen d+1) 0) (v:=.pointer (some ⟨b,0,none⟩))
   (by
    have:=lH.jo (F:=F) (ρ:=ρ') (b:=d) (g:=fr.gen d+1) (off:=0) (by show _<=ia ρ.lg d (fr.gen d+1) d;simp[ia])
    have e:ρ'.L d (fr.gen d+1)=b:=by show wI ρ.L d (fr.gen d+1) b d (fr.gen d+1)=b;simp[wI]
    rw[e] at this
    exact .cell this)
  exact O
 ·intro f;show ia ρ.lg d (fr.gen d+1) f=ia fr.gen d (fr.gen d+1) f;unfold ia
  split
  ·rfl
  ·exact h.lg f
 ·intro f B p;simp only[ia] at p|-
  by_cases he:f=d
  ·subst he;simp only[if_true] at p|-;cases p
   have e:ρ'.L f (fr.gen f+1)=b:=by show wI ρ.L f (fr.gen f+1) b f (fr.gen f+1)=b;simp[wI]
   rw[e];refine⟨K,?_,u,vs,ty,J,A.mono λ_ _ _ h=>h.grow r⟩;show ia R b (.box f) b=.box f;simp[ia]
  ·simp only[cI he] at p|-;obtain⟨C,z,D,vs',E,P,Q⟩:=h.box f B p
   have e:ρ'.L f (fr.gen f)=ρ.L f (fr.gen f):=by show wI ρ.L d (fr.gen d+1) b f (fr.gen f)=_;simp[wI,he]
   rw[e];exact⟨C,by rw[l _ (by rw[z];simp)];exact z,D,vs',E,P,Q.mono λ_ _ _ h=>h.grow r⟩
 ·intro k m S i c sz U;obtain⟨C,z,D⟩:=h.tok k m S i c sz U;exact⟨C,by rw[l _ (by rw[z];simp)];exact z,D⟩
 ·intro i j v I
  have t:i≠b:=by rintro rfl;rw[hF j] at I;cases I
  have e:y i=R i:=by show ia R b (.box d) i=R i;simp[ia,t]
  rw[e];exact h.s5 i j v I
 ·intro o V;have:=h.qa o V;rw[l _ (by show R (ρ.G o)≠_;rw[this];simp)];exact this
 ·intro i s
  have t:i≠b:=by rintro rfl;have:=s8 J;omega
  show ia R b (.box d) i=.free;simp only[ia,cI t];exact h.ny i s
def WR.Qk(h:WR T n B0 ρ F R fr H a w){b:Nat}{C:Obj}{cs:List AV}(l:R b=.free)(hF:∀j,F b j=none)
  (P:w.heap[b]?=some C) (D:oK F ρ.G ρ.n cs C):∃ρ' y,(∀o,o<H.length->ρ'.G o=ρ.G o)/\ρ'.G H.length=b/\ρ'.n=H.length+1/\WR T n B0 ρ' F y fr (H++[cs]) a w:=by
 let ρ':Maps:={ρ with G:=ia ρ.G H.length b,n:=H.length+1}
 let y:Nat->si:=ia R b .oB
 have hG:∀o,o<H.length->ρ'.G o=ρ.G o:=by
  intro o f;show ia ρ.G H.length b o=ρ.G o;simp only[ia];rw[cI VW]
 have r:Kk F F ρ.G ρ'.G ρ.n ρ'.n:=⟨λ_ _ _ h=>h,by show ρ.n<=H.length+1;rw[h.hn];omega,λo f=>hG o (by rw[h.hn] at f;exact f)⟩;have z:zc F F ρ ρ':=⟨r,λ_=>ig _,λ_ _ _=>rfl,λ_=>ig _,λ_ _ _=>rfl⟩
 have q:Kk F F ρ.G ρ'.G H.length (H++[cs]).length:=by
  have:=r;rw[h.hn] at this;simpa using this
 have p:∀d,R d≠ .free->y d=R d:=by
  intro d s;show ia R b .oB d=R d;unfold ia;rw[cI];rintro rfl;exact s l
 have i:ρ'.G H.length=b:=by show ia ρ.G H.length b H.length=b;simp[ia]
 refine⟨ρ',y,hG,i,rfl,?_⟩;refine⟨⟨h.g.JO,?_,?_,?_,h.g.fresh,λg x Q=>(h.g.F9 g x Q).grow q,h.g.row⟩,h.size,h.defers,h.env.grow z,by show H.length+1=_;simp,h.lg,h.ag,?_,?_,?_,?_,?_,h.tU⟩
 ·intro o t f;rcases tv o H.length with A|hge
  ·rw[s_ A] at f;obtain⟨E,h1,h2⟩:=h.g.oB o t f;rw[hG o A];exact⟨E,h1,h2.grow q⟩
  ·have:o=H.length:=by
    have:=(qb.1 f).1;simp at this;omega
   subst this;simp at f;subst f;rw[i];exact⟨C,P,(by have:=D.grow r;simpa using this)⟩
 ·intro o o' f I he;simp at f I
  have key:∀o,o<H.length->ρ'.G o≠b:=by
   intro o f he;rw[hG o f] at he;have:=h.qa o f;rw[he,l] at this;cases this
  rcases tv o H.length with h1|h1
  ·rcases tv o' H.length with h2|h2
   ·rw[hG o h1,hG o' h2] at he;exact h.g.inj o o' h1 h2 he
   ·have e:o'=H.length:=VW
    subst e;rw[i] at he;exact absurd he (key o h1)
  ·have e:o=H.length:=VW
   subst e;rcases tv o' H.length with h2|h2
   ·rw[i] at he;exact absurd he.symm (key o' h2)
   ·omega
 ·intro o j f B;simp at f;rcases tv o H.length with h1|h1
  ·rw[hG o h1];exact h.g.gF o j h1 (by rw[s_ h1] at B;exact B)
  ·have e:o=H.length:=VW
   subst e;rw[i];exact hF j
 ·intro J t K;obtain⟨h1,h2,M,vs',N,S,U⟩:=h.box J t K;exact⟨h1,by rw[p _ (by show R (ρ.L J (fr.gen J))≠_;rw[h2];simp)];exact h2,M,vs',N,S,U.mono λ_ _ _ h=>h.grow z⟩
 ·intro k m V d c sz W;obtain⟨h1,h2,M⟩:=h.tok k m V d c sz W;exact⟨h1,by rw[p _ (by rw[h2];simp)];exact h2,M⟩
 ·intro d j v O
  have u:d≠b:=by rintro rfl;rw[hF j] at O;cases O
  have e:y d=R d:=by show ia R b .oB d=R d;simp[ia,u]
  rw[e];exact h.s5 d j v O
 ·intro o f;simp at f;rcases tv o H.length with h1|h1
  ·have:=h.qa o h1;rw[hG o h1,p _ (by rw[this];simp)];exact this
  ·have e:o=H.length:=VW
   subst e;rw[i];show ia R b .oB b=.oB;simp[ia]
 ·intro d s
  have u:d≠b:=by rintro rfl;have:=s8 P;omega
  show ia R b .oB d=.free;simp only[ia,cI u];exact h.ny d s
def WR.abh(h:WR T n B0 ρ F R fr H a w){b:Nat}{vs:Array Value}{ty:TypeId}{cs:List AV}(e:R b=.free)(hF:∀j,F b j=none)
  (m:w.heap[b]?=some (.cells vs ty (0,0))) (i:iU (ic F ρ.G ρ.n) cs vs.toList) (f:∀c∈cs,c.gw=true) {d:Nat} (q:d<n):∃ρ' k,(∀o,o<H.length->ρ'.G o=ρ.G o)/\ρ'.G H.length=b/\WR T n B0 ρ' F k {fr with env:=ia fr.env d (.eS H.length 0)} (H++[cs])
   (a.put (some d) (.pointer (some ⟨b,0,none⟩))) w:=by
 obtain⟨ρ',k,hG,g,l,hw⟩:=h.Qk e hF m (.cells (.inl rfl) i f);refine⟨ρ',k,hG,g,hw.put (d:=some d) (by intro r he;injection he with he;subst he;exact q) (x:=.eS H.length 0) ?_⟩;have:=ic.eS (F:=F) (G:=ρ'.G) (n:=ρ'.n) (o:=H.length) (off:=0) (by rw[l];omega);rw[g] at this;exact .p this
end
def cell_setRow_other(w:World)(g:Nat)(cs:Array Value)(b o:Nat)(h:b≠g):(w.setRow g cs).cell? ⟨b,o,none⟩=w.cell? ⟨b,o,none⟩:=
 World.cell?_of_block (w:=w) (a:=⟨b,o,none⟩) (setRow_other w g b cs h)
def size_setRow(w:World)(g:Nat)(cs:Array Value):(w.setRow g cs).heap.size=w.heap.size:=by simp[World.setRow]
section
variable{T:ec} {n B0:Nat} {ρ:Maps} {F:nc} {R:Nat->si} {fr:Fr} {H:dd} {a:Act} {w:World}
def WR.V5(h:WR T n B0 ρ F R fr H a w){d:Nat}{cs q:List AV}{vs':Array Value}(N:fr.box d=some cs)(z:iU (lH F ρ) q vs'.toList)(t:∀c∈q,c.gw=true):WR T n B0 ρ F R {fr with box:=ia fr.box d (some q)} H a (w.setRow (ρ.L d (fr.gen d)) vs'):=by
 obtain⟨O,J,W,vs,ty,P,X⟩:=h.box d cs N
 have e:∀b,R b≠ .box d->b≠ρ.L d (fr.gen d):=by
  rintro b r rfl;exact r J
 refine⟨⟨?_,?_,h.g.inj,h.g.gF,?_,h.g.F9,?_⟩,h.size,h.defers,h.env,h.hn,h.lg,h.ag,?_,?_,h.s5,h.qa,?_,by rw[size_setRow];exact h.tU⟩
 ·intro b o v u;rw[cell_setRow_other]
  ·exact h.g.JO b o v u
  ·exact e b (h.s5 b o v u d)
 ·intro o f K;obtain⟨x,y,s⟩:=h.g.oB o f K;refine⟨x,?_,s⟩;rw[setRow_other]
  ·exact y
  ·refine e _ ?_;rw[h.qa o (qb.1 K).1];simp
 ·intro b j r;rw[size_setRow] at r;exact h.g.fresh b j r
 ·intro Q b j v u;obtain⟨A,B,C,g1,g2⟩:=h.g.row Q b j v u;exact⟨A,B,C,by rw[setRow_other _ _ _ _ (e b (h.s5 b j v u d))];exact g1,g2⟩
 ·intro M f i;simp only[ia] at i
  by_cases he:M=d
  ·subst he;simp only[if_true] at i;cases i;exact⟨O,J,t,vs',ty,setRow_heap w _ vs vs' ty (0,0) P,z⟩
  ·simp only[cI he] at i;obtain⟨y,s,D,l,p,E,G⟩:=h.box M f i;refine⟨y,s,D,l,p,?_,G⟩;rw[setRow_other]
   ·exact E
   ·refine e _ ?_;rw[s];simp[he]
 ·intro k m S b c sz U;obtain⟨y,s,D,I,⟨l,p,E,G⟩,V⟩:=h.tok k m S b c sz U;refine⟨y,s,D,I,⟨l,p,?_,G⟩,V⟩;rw[setRow_other]
  ·exact E
  ·refine e _ ?_;rw[s];simp
 ·intro b r;rw[size_setRow] at r;exact h.ny b r
def WR.Nw(h:WR T n B0 ρ F R fr H a w){o:Nat}{cs s:List AV}{w':World}{t:Obj}(K:H[o]?=some cs)(u:cs≠[])(x:w'.heap.size=w.heap.size)(C:w'.heap[ρ.G o]?=some t)
  (d:∀b,b≠ρ.G o->w'.heap[b]?=w.heap[b]?) (L:oK F ρ.G ρ.n s t):WR T n B0 ρ F R fr (H.set o s) a w':=by
 have f:=(qb.1 K).1;have M:=h.qa o f
 have D:∀b,R b≠ .oB->b≠ρ.G o:=by
  rintro b q rfl;exact q M
 have B:(H.set o s).length=H.length:=aaB
 refine⟨⟨?_,?_,?_,?_,?_,?_,?_⟩,h.size,h.defers,h.env,by rw[B];exact h.hn,h.lg,h.ag,?_,?_,h.s5,?_,?_,by rw[x];exact h.tU⟩
 ·intro b o' v y
  have q:b≠ρ.G o:=by
   rintro rfl;rw[h.g.gF o o' f (by rw[K];exactλe=>u (gB e))] at y;cases y
  have e:w'.cell? ⟨b,o',none⟩=w.cell? ⟨b,o',none⟩:=by simp[World.cell?,d b q]
  rw[e];exact h.g.JO b o' v y
 ·intro o' i E;rw[B]
  by_cases he:o=o'
  ·subst he;simp only[Yi f] at E;cases E;refine⟨t,C,?_⟩;rw[<-h.hn];exact L
  ·rw[Lx he] at E;obtain⟨I,J,z⟩:=h.g.oB o' i E;refine⟨I,?_,z⟩;rw[d]
   ·exact J
   ·exactλe=>he (h.g.inj o' o (qb.1 E).1 f e).symm
 ·rw[B];exact h.g.inj
 ·intro o' j A r;rw[B] at A
  by_cases he:o=o'
  ·subst he;exact h.g.gF o j A (by rw[K];exactλe=>u (gB e))
  ·rw[Lx he] at r;exact h.g.gF o' j A r
 ·intro b j q;rw[x] at q;exact h.g.fresh b j q
 ·rw[B];exact h.g.F9
 ·intro X b j v y;obtain⟨N,O,P,g1,g2⟩:=h.g.row X b j v y;refine⟨N,O,P,?_,g2⟩;rw[d]
  ·exact g1
  ·rintro rfl;rw[h.g.gF o j f (by rw[K];exactλe=>u (gB e))] at y;cases y
 ·intro Y i Q;obtain⟨J,z,S,l,p,U,V⟩:=h.box Y i Q;refine⟨J,z,S,l,p,?_,V⟩;rw[d]
  ·exact U
  ·refine D _ ?_;rw[z];simp
 ·intro k m Z b c sz hA;obtain⟨J,z,S,W,⟨l,p,U,V⟩,e6⟩:=h.tok k m Z b c sz hA;refine⟨J,z,S,W,⟨l,p,?_,V⟩,e6⟩;rw[d]
  ·exact U
  ·refine D _ ?_;rw[z];simp
 ·rw[B];exact h.qa
 ·intro b q;rw[x] at q;exact h.ny b q
def WR.Um(h:WR T n B0 ρ F R fr H a w){o:Nat}{cs d:List AV}{vs':Array Value}(m:H[o]?=some cs)(e:w6 cs=true)(f:iU (ic F ρ.G ρ.n) d vs'.toList)(hlen:d.length=cs.length)(i:∀c∈d,c.gw=true):WR T n B0 ρ F R fr (H.set o d) a (w.setRow (ρ.G o) vs'):=by
 obtain⟨v,p,q⟩:=h.g.oB o cs m;obtain⟨vs,ty,r,rfl,j,k,_⟩:=q.H6 e
 have l:vs'.size=vs.size:=by
  have s:=f.length;have t:=k.length;simp only[Ua] at s t;omega
 exact h.Nw m (by rintro rfl;simp[w6] at e) (size_setRow w _ _) (setRow_heap w _ vs vs' ty r p) (λb u=>setRow_other w _ b _ u) (.cells (by rw[l];exact j) f i)
end
end Go.ns
