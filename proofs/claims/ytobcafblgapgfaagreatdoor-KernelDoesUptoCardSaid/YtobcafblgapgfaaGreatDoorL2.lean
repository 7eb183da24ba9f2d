/- Part of the proof of KernelAccepts, KernelDoes: layer. -/
import Derived.Laws.Build
import Derived.Laws.StructEq
import Derived.Laws.BytesArg
import Derived.Test.YtobcafblgapgfaaGreatDoorL1
set_option linter.all false
namespace Go.ke
open Go
def jq(sz:Nat)(l:List AV):Bool:=
 match l with
 |[]=>true|x::_=>x.cells.length==sz
def qN{sz a:Nat}{l:List AV}(h:jq sz l=true)(hs:∀x∈l,x.cells.length=a):∀x∈l,x.cells.length=sz:=by
 cases l with
 |nil=>simp|cons x l=>
  have h1:x.cells.length=sz:=by simpa[jq] using h
  have b:=hs x aa4;intro y hy;rw[hs y hy,<-b,h1]
def Mh:Option AV->Option (Option Nat)
 |none=>some none|some (.sc (.int _ n))=>if 0<=n then some (some n.toNat)else none|_=>none
def o8(P:Program)(t:TypeId)(x:AV)(lo hi a:Option AV):Option AV:=
 match Mh lo,Mh hi,Mh a with
 |some lo,some hi,some a=>
  match P.underlying t,x with
  |some (.slice e),.slice _ l=>
   match eO P e with
   |none=>none|some (_,sz)=>
    if hi.getD l.length<=l.length/\lo.getD 0<=hi.getD l.length/\jq sz l then
     match a with
     |none=>some (.slice .hY ((l.take (hi.getD l.length)).drop (lo.getD 0)))|some m=>if hi.isSome/\hi.getD l.length<=m/\m<=l.length then some (.slice (if m=hi.getD l.length then .full else .hY) ((l.take (hi.getD l.length)).drop (lo.getD 0)))else none
    else none
  |some .string,.sc (.string s)=>
   if a.isNone/\hi.getD s.size<=s.size/\lo.getD 0<=hi.getD s.size then some (.sc (.string (s.extract (lo.getD 0) (hi.getD s.size))))else none
  |_,_=>none
 |_,_,_=>none
def yV(F:jY)(ρ:Maps):Option AV->Option Value->Prop
 |none,none=>True|some x,some v=>fG F ρ x v|_,_=>False
section
variable{P:Program} {F:jY} {ρ:Maps}
def Fj{x:Option AV}{v:Option Value}{r:Option Nat}(h:Mh x=some r)(a:yV F ρ x v):(r=none/\v=none)\/∃k n,v=some (.int k n)/\0<=n/\r=some n.toNat:=by
 unfold Mh at h
 split at h
 ·cases v with
  |none=>injection h with h;exact .inl ⟨h.symm,rfl⟩|some v=>exact a.elim
 ·rename_i k n
  split at h
  ·injection h with h;cases v with
   |none=>exact a.elim|some v=>
    cases fh a;exact .inr ⟨k,n,rfl,by assumption,h.symm⟩
  ·cases h
 ·cases h
def pV(w:World)(k:IntKind)(n:Int)(y:Nat)(c:BoundsCode)(a:0<=n)(h1:n.toNat<=y):(Instr.sliceBound (.int k n) y c).run P w=.ok n.toNat w:=by
 unfold Instr.sliceBound;simp only[asIntOf,gb,ou,iS];rw[cO ⟨a,VW⟩];rfl
def GY(w:World)(f:Bool){lo hi j:Option AV}{l o p:Option Value}{a h m:Option Nat}{len cap:Nat}
  (h1:Mh lo=some a) (q:Mh hi=some h) (r:Mh j=some m) (s:yV F ρ lo l) (t:yV F ρ hi o) (u:yV F ρ j p)
  (hm:m.getD cap<=cap) (d:h.getD len<=m.getD cap) (e:a.getD 0<=h.getD len) (g:m.isSome=true->h.isSome=true):(Instr.sliceBounds f len cap l o p).run P w=.ok (a.getD 0,h.getD len,m.getD cap) w:=by
 rcases Fj r u with⟨rfl,rfl⟩|⟨k,n,rfl,hn,rfl⟩<;>rcases Fj q t with⟨rfl,rfl⟩|⟨k2,n2,rfl,b,rfl⟩<;>
  rcases Fj h1 s with⟨rfl,rfl⟩|⟨i,n1,rfl,c,rfl⟩<;>simp only[Option.getD_none,Option.getD_some] at hm d e|-<;>
  (first
   |(simp at g;done)
   |(simp only[Instr.sliceBounds,gb,ou,iS];done)
   |(simp only[Instr.sliceBounds,gb,ou,iS,pV (P:=P) w i n1 _ _ c e];done)
   |(simp only[Instr.sliceBounds,gb,ou,iS,pV (P:=P) w k2 n2 _ _ b d];done)
   |(simp only[Instr.sliceBounds,gb,ou,iS,pV (P:=P) w k2 n2 _ _ b d,pV (P:=P) w i n1 _ _ c e];done)
   |(simp only[Instr.sliceBounds,gb,ou,iS,pV (P:=P) w k n _ _ hn hm,pV (P:=P) w k2 n2 _ _ b d];done)
   |(simp only[Instr.sliceBounds,gb,ou,iS,pV (P:=P) w k n _ _ hn hm,pV (P:=P) w k2 n2 _ _ b d,pV (P:=P) w i n1 _ _ c e];done))
def PI(w:World){t:TypeId}{x r:AV}{u:Value}{lo hi R:Option AV}{C D A:Option Value}(h:o8 P t x lo hi R=some r)(n:fG F ρ x u)
  (S:yV F ρ lo C) (T:yV F ρ hi D) (E:yV F ρ R A):∃v,(Instr.sliceAt t u C D A).run P w=.ok v w/\fG F ρ r v:=by
 unfold o8 at h
 split at h
 ·rename_i a f m U V G
  split at h
  ·rename_i e tag l hu
   split at h
   ·cases h
   ·rename_i ag sz X
    split at h
    ·rename_i H;obtain⟨I,i,j⟩:=H;obtain⟨base,cap,b,o,Y,vs,rfl,hs,_,_⟩:=m4 n;have k:=qN j hs.sz
     have step:∀(g:Nat),g=m.getD cap->g<=cap->f.getD l.length<=g->(m.isSome=true->f.isSome=true)->∀B,(B=Tag.hY\/B=Tag.full/\g=f.getD l.length)->∃v,(Instr.sliceAt t (.slice base l.length cap) C D A).run P w=.ok v w/\fG F ρ (.slice B ((l.take (f.getD l.length)).drop (a.getD 0))) v:=by
      intro g J Z aa K B L;have M:=GY (P:=P) (F:=F) (ρ:=ρ) w true (len:=l.length) (cap:=cap) U V G S T E VW VW i K
      refine⟨.slice (if g=a.getD 0 then base else base.map (·.add (a.getD 0*sz))) (f.getD l.length-a.getD 0) (g-a.getD 0),?_,?_⟩
      ·unfold Instr.sliceAt;rw[gb,run_underlying hu];simp only[iS];unfold Instr.slice;rw[gb,run_underlying hu];simp only[iS,gb,M,jW X,ou,<-J]
      ·have hlen:((l.take (f.getD l.length)).drop (a.getD 0)).length=f.getD l.length-a.getD 0:=by
        rw[My,xZ];omega
       rw[<-hlen]
       have d:((l.take (f.getD l.length)).drop (a.getD 0)).flatMap AV.cells=((l.flatMap AV.cells).take (f.getD l.length*sz)).drop (a.getD 0*sz):=by
        rw[xC (sz:=sz) (λx n=>k x (Ab n)),CH k]
       refine .p (.slice (b:=b) (o:=o+a.getD 0*sz) (sz:=sz) (vs:=(vs.take (f.getD l.length*sz)).drop (a.getD 0*sz)) ?_ ?_ ?_ ?_ ?_ ?_ ?_ ?_)
       ·rw[d];exact(hs.cells.take _).drop _
       ·exact(hs.has.take _).drop _
       ·intro q;have W:0<((l.take (f.getD l.length)).drop (a.getD 0)).length:=EX.2 q
        have N:l≠[]:=by rintro rfl;simp at q
        rw[cK VW,hs.base N];simp[Addr.add_lit]
       ·exactλx n=>k x (Ab (EL n))
       ·intro c y;rw[d] at y;exact hs.qS c (Ab (EL y))
       ·omega
       ·have:=hs.CV;omega
       ·rcases L with h|⟨h,h'⟩
        ·exact .inl h
        ·exact .inr ⟨h,VW⟩
     split at h
     ·cases h;exact step cap rfl (gu _) (by have:=hs.xt;omega) aa4 .hY (.inl rfl)
     ·rename_i g
      split at h
      ·rename_i z;cases h;have ab:=hs.xt;refine step g rfl VW z.2.1 (λ_=>z.1) _ ?_
       by_cases he:g=f.getD l.length
       ·rw[cO he];exact .inr ⟨rfl,he⟩
       ·rw[cK he];exact .inl rfl
      ·cases h
    ·cases h
  ·rename_i s hu
   split at h
   ·rename_i H;obtain⟨I,i,j⟩:=H;cases h;cases fh n
    have O:m=none:=by cases m<;>simp_all
    subst O
    have Q:A=none:=by
     rcases Fj G E with⟨_,h⟩|⟨_,_,_,_,h⟩
     ·exact h
     ·cases h
    subst Q;have M:=GY (P:=P) (F:=F) (ρ:=ρ) w false (len:=s.size) (cap:=s.size) U V G S T E aa4 (by simpa using i) j aa4;refine⟨_,?_,.p (.sc rfl)⟩;unfold Instr.sliceAt;rw[gb,run_underlying hu];simp only[iS];unfold Instr.slice;rw[gb,run_underlying hu];simp only[iS,Option.isSome_none,oZ,kY,gb,ou,M]
   ·cases h
  ·cases h
 ·cases h
end
def placesOf(P:Program)(t:TypeId):Option (List (Nat×Nat)):=
 match P.underlying t with
 |some (.struct a)=>a.toList.mapM λf=>(P.info? f.type).map λi=>(f.offset,i.size)|_=>none
def fM(P:Program)(t i:Nat):Option (Nat×Nat):=
 match placesOf P t with
 |some ps=>ps[i]?|none=>match KQ P t with
  |some (_,e)=>(P.info? e).map λf=>(i*f.size,f.size)|none=>none
def dY:AV->Bool
 |.tuple _=>false|_=>true
def Ee(P:Program)(t:TypeId):List AV->List (Nat×AV)->Option (List AV)
 |cs,[]=>some cs|cs,(i,x)::rest=>
  match fM P t i with
  |some (off,size)=>if x.cells.length=size/\off+size<=cs.length/\dY x then Ee P t (setCells cs off x.cells) rest else none|none=>none
def qE(P:Program)(t:TypeId):Option (List AV):=
 match zeroOf P t with
 |some (.agg z)=>if z.all (·.oneCell')=true/\((placesOf P t).isSome\/((KQ P t).bind λp=>P.info? p.2).isSome)then some (z.toList.map qb)else none|_=>none
def Dh(P:Program)(t:TypeId)(parts:List (Nat×AV)):Option AV:=
 match qE P t with
 |some z=>(Ee P t z parts).map .agg|none=>none
def foldl_set(new:List Value):∀(k off:Nat) (vs:Array Value),off+k+new.length<=vs.size->((new.zipIdx k).foldl (λcs (x:Value×Nat)=>cs.setIfInBounds (off+x.2) x.1) vs).toList=vs.toList.take (off+k)++new++vs.toList.drop (off+k+new.length):=by
 induction new with
 |nil=>intro k off vs h;simp|cons v new b=>
  intro k off vs h;simp only[List.zipIdx_cons,List.foldl_cons,kN] at h|-;rw[b (k+1) off _ aa_]
  have a:off+k<vs.toList.length:=aa_
  simp only[Zh]
  have h1:(vs.toList.set (off+k) v).take (off+(k+1))=vs.toList.take (off+k)++[v]:=by
    rw[<-MX,List.take_succ_eq_append_getElem (by simpa using a),List.take_set]
    congr 1
    ·apply List.set_eq_of_length_le;simp[xZ];omega
    ·simp
  have c:(vs.toList.set (off+k) v).drop (off+(k+1)+new.length)=vs.toList.drop (off+k+(new.length+1)):=by
    rw[List.drop_set_of_lt VW]
    congr 1
    omega
  rw[h1,c];simp
section
variable{P:Program} {F:jY} {ρ:Maps}
def f_.setCells{R:AV->Value->Prop}{cs new:List AV}{vs nv:List Value}(h:f_ R cs vs)(a:f_ R new nv)(off:Nat):f_ R (setCells cs off new) (vs.take off++nv++vs.drop (off+new.length)):=by
 unfold ke.setCells;exact((h.take off).append a).append (h.drop _)
def gP{x:AV}(h:dY x=true):∀vs,x≠ .tuple vs:=by
 rintro vs rfl;simp[dY] at h
def Lk{t:TypeId}(place:Nat->Option (Nat×Nat))(A:∀i y,fM P t i=some y->place i=some y):∀(parts:List (Nat×AV)) (pv:List (Nat×Value)) (cs r:List AV) (vs:Array Value),Ee P t cs parts=some r->f_ (iL F ρ) cs vs.toList->(∀c∈cs,c.eD=true)->f_ (λ(x:Nat×AV) (y:Nat×Value)=>x.1=y.1/\fG F ρ x.2 y.2) parts pv->∃ws:Array Value,Instr.fill place vs pv=some ws/\f_ (iL F ρ) r ws.toList/\∀c∈r,c.eD=true:=by
 intro parts
 induction parts with
 |nil=>
  intro pv cs r vs h f a d;cases d;simp[Ee] at h;subst h;exact⟨vs,rfl,f,a⟩
 |cons p parts B=>
  intro pv cs r vs h f a d;obtain⟨i,x⟩:=p;cases d with
  |cons h1 g=>
   rename_i q pv;obtain⟨j,v⟩:=q;obtain⟨l,o⟩:=h1;simp only at l o;subst l;simp only[Ee] at h
   split at h
   ·rename_i off size s
    split at h
    ·rename_i C;obtain⟨D,E,m⟩:=C;have b:=o.cells (gP m);have hlen:=b.length
     have G:vs.size=cs.length:=by simpa using f.length.symm
     have H:v.cells.toList.length=v.cells.size:=aa4
     have e:=foldl_set v.cells.toList 0 off vs (by simp only[ER];omega);have dH:=f.setCells b off;rw[hlen] at dH;simp only[ER] at e;rw[<-e] at dH
     obtain⟨ws,u,w,z⟩:=B pv _ _ _ h dH (by
      intro c n;simp only[ke.setCells,qA] at n;rcases n with(hm|hm)|hm
      ·exact a c (Ab hm)
      ·exact o.qS (gP m) c hm
      ·exact a c (EL hm)) g
     refine⟨ws,?_,w,z⟩;unfold Instr.fill;rw[A _ _ s]
     have k:(v.cells.size≠size||decide (off+v.cells.size>vs.size))=false:=by
      simp only[Bool.or_eq_false_iff,UC,ne_eq,Decidable.not_not];constructor<;>omega
     show(if(decide (v.cells.size≠size)||decide (off+v.cells.size>vs.size)) then none else Instr.fill place (v.cells.zipIdx.foldl (λcs (x:Value×Nat)=>cs.setIfInBounds (off+x.2) x.1) vs) pv)=some ws;rw[cK (by rw[k];simp),<-Zx,ZF];exact u
    ·cases h
   ·cases h
def Ez(w:World):∀(a:List Field) (ps:List (Nat×Nat)),(a.mapM λf=>(P.info? f.type).map λi=>(f.offset,i.size))=some ps->(a.mapM λf=>(do pure (f.offset,<-sizeOf f.type):Sem (Nat×Nat))).run P w=.ok ps w:=by
 intro a
 induction a with
 |nil=>intro ps h;simp at h;subst h;rfl
 |cons f a e=>
  intro ps h;simp only[Tn,Option.bind_eq_bind,Uw] at h;obtain⟨p,b,c,d,h⟩:=h;cases hi:P.info? f.type with
  |none=>rw[hi] at b;cases b
  |some i=>
   rw[hi] at b;simp at b h;subst b;subst h;simp only[Tn,gb,sizeOf,typeInfo,program,Sem.run,hi,iS,ou];have:=e c d;simp only[gb,sizeOf,typeInfo,program] at this;rw[this];rfl
def run_map{α β:Type}(w:World)(f:α->β)(x:Sem α):(Functor.map f x).run P w=(x.run P w).andThen λa w'=>.ok (f a) w':=by
 show(x>>=λa=>pure (f a)).run P w=_;rw[gb];rfl
def run_build(w:World){t:TypeId}{parts:List (Nat×AV)}{r:AV}{pv:List (Nat×Value)}(h:Dh P t parts=some r)
  (k:f_ (λ(x:Nat×AV) (y:Nat×Value)=>x.1=y.1/\fG F ρ x.2 y.2) parts pv):∃v,(Instr.build t pv.toArray).run P w=.ok v w/\fG F ρ r v:=by
 have h:∃z:Array Value,zeroOf P t=some (.agg z)/\(z.all (·.oneCell')=true/\((placesOf P t).isSome\/((KQ P t).bind λp=>P.info? p.2).isSome))/\(Ee P t (z.toList.map qb) parts).map .agg=some r:=by
  unfold Dh qE at h
  split at h
  ·rename_i z0 d
   split at d
   ·rename_i z l
    split at d
    ·rename_i u;injection d with d;subst d;exact⟨z,l,u,h⟩
    ·cases d
   ·cases d
  ·cases h
 obtain⟨z,l,u,h⟩:=h
 ·--L literal
  ·obtain⟨A,j⟩:=u;cases H:Ee P t (z.toList.map qb) parts with
   |none=>rw[H] at h;cases h
   |some cs=>
    rw[H] at h;cases h
    have B:(zeroValue t).run P w=.ok (.agg z) w:=by
     unfold zeroOf at l;cases hi:P.info? t with
     |none=>rw[hi] at l;cases l
     |some i=>
      rw[hi] at l;simp at l;simp[zeroValue,typeInfo,hi,l]
    have m:∀v∈z.toList,v.oneCell'=true:=λv M=>HJ.1 A v (wS.1 M);have C:f_ (iL F ρ) (z.toList.map qb) z.toList:=(qC F ρ.G ρ.n _ m).sF.mono λ_ _ _ h=>.p h
    have D:∀c∈z.toList.map qb,c.eD=true:=by
     intro c u;obtain⟨a,_,rfl⟩:=l8.1 u;exact xV a
    cases b:placesOf P t with
    |some ps=>
     have I:∃E,P.underlying t=some (.struct E)/\(E.toList.mapM λf=>(P.info? f.type).map λi=>(f.offset,i.size))=some ps:=by
      unfold placesOf at b
      split at b
      ·exact⟨_,by assumption,b⟩
      ·cases b
     obtain⟨E,hu,hm⟩:=I
     obtain⟨ws,o,q,s⟩:=Lk (P:=P) (F:=F) (ρ:=ρ) (t:=t) (ps.toArray[·]?) (by
      intro i y hy;unfold fM at hy;rw[b] at hy
      simpa using hy) parts pv _ _ z H C D k
     refine⟨.agg ws,?_,by simpa using fG.agg (vs:=ws.toList) q s⟩;unfold Instr.build;simp only[gb,B,iS,run_underlying hu];have J:=Ez (P:=P) w E.toList ps hm;rw[<-MO (xs:=E),Za,run_map,J];simp only[ou,iS,Value.cells,o]
    |none=>
     cases g:KQ P t with
     |none=>simp[b,g] at j
     |some ne=>
      obtain⟨n,e⟩:=ne
      have hu:P.underlying t=some (.array n e):=by
       unfold KQ at g
       split at g
       ·rename_i hu;cases g;exact hu
       ·cases g
      cases hi:P.info? e with
      |none=>simp[b,g,hi] at j
      |some K=>
       obtain⟨ws,o,q,s⟩:=Lk (P:=P) (F:=F) (ρ:=ρ) (t:=t) (λi=>some (i*K.size,K.size)) (by
        intro i y hy;unfold fM at hy;rw[b] at hy;simp[g,hi] at hy
        simp[hy]) parts pv _ _ z H C D k
       refine⟨.agg ws,?_,by simpa using fG.agg (vs:=ws.toList) q s⟩;unfold Instr.build;simp only[gb,B,iS,run_underlying hu,sizeOf,typeInfo,program,Sem.run,hi,ou,Value.cells,o]
end
end Go.ke
namespace Go.ke
open Go
def v8(P:Program):List Field->List AV->List AV->Option Bool
 |[],_,_=>some true|f::fs,xs,ys=>
  if f.name= "_" then v8 P fs xs ys else
  match P.underlying f.type,lH P f.type xs f.offset,lH P f.type ys f.offset with
  |some (.int _),some (.sc (.int k a)),some (.sc (.int k' b))=>if k=k' then(v8 P fs xs ys).map λr=>(a==b)&&r else none|some .string,some (.sc (.string a)),some (.sc (.string b))=>(v8 P fs xs ys).map λr=>(a.toList==b.toList)&&r|some .bool,some (.sc (.bool a)),some (.sc (.bool b))=>(v8 P fs xs ys).map λr=>(a==b)&&r|_,_,_=>none
def Z6(P:Program)(t:TypeId):Bool:=!P.eqGuardType P.depth t&&!P.stoodInHeld t
def IX(P:Program)(t:TypeId)(xs a:List AV):Option Bool:=
 match P.underlying t with
 |some (.struct b)=>if Z6 P t then v8 P b.toList xs a else none|_=>none
def nH(P:Program)(op:BinOp)(t:TypeId)(x y:AV):Option AV:=
 match op,x,y with
 |.eql,.agg xs,.agg a=>(IX P t xs a).map λb=>.sc (.bool b)|.neq,.agg xs,.agg a=>(IX P t xs a).map λb=>.sc (.bool (!b))|op,x,y=>rJ P op t x y
def Jm(P:Program)(op:BinOp)(t:TypeId):Operand->AV->AV->Option AV
 |.const .nilIface,.sc .nilIface,_=>match op,P.underlying t with
  |.eql,some (.interface _)=>some (.sc (.bool true))|.neq,some (.interface _)=>some (.sc (.bool false))|_,_=>none
 |_,u,v=>nH P op t u v
def FK:List AV->Option (List Int)
 |[]=>some []|.sc (.int .u8 n)::l=>(FK l).map (n:: ·)|_::_=>none
def Vz(P:Program)(s d:TypeId)(l:List AV):Option AV:=
 match P.underlying s,P.underlying d with
 |some (.slice e),some .string=>match P.underlying e,FK l with
  |some (.int .u8),some a=>some (.sc (.string (strOfNums a)))|_,_=>none
 |_,_=>none
def RH(P:Program)(s d:TypeId)(x:AV):Option AV:=
 match P.underlying s,P.underlying d,x with
 |some _,some (.int k),.sc (.int _ n)=>some (.sc (.int k (k.wrap n)))|some _,some .string,.sc (.string b)=>some (.sc (.string b))|_,_,_=>none
def R6(P:Program)(s d:TypeId)(x:AV):Option AV:=
 match x with
 |.slice _ l=>Vz P s d l|x=>RH P s d x
def Cz(P:Program)(t:TypeId)(x:AV):Option AV:=
 match P.underlying t,x with
 |some (.slice _),.slice _ l=>some (.sc (.int .i64 l.length))|some (.slice _),.vM _ _ len _=>some (.sc (.int .i64 len))|some (.slice _),.HK=>some (.sc (.int .i64 0))|some (.slice _),.pQ _ _ len _=>some (.sc (.int .i64 len))|some .string,.sc (.string s)=>some (.sc (.int .i64 s.size))|some (.array n _),_=>some (.sc (.int .i64 n))|_,_=>none
def OG:AV->AV->Option AV
 |.sc (.int k a),.sc (.int _ b)=>some (.sc (.int k (if b>a then b else a)))|_,_=>none
def QV:AV->AV->Option AV
 |.sc (.int k a),.sc (.int _ b)=>some (.sc (.int k (if b<a then b else a)))|_,_=>none
def Iv(f:AV->AV->Option AV):AV->List AV->Option AV
 |x,[]=>some x|x,y::l=>(f x y).bind λz=>Iv f z l
def vL(P:Program)(T:dx)(fr:Fr)(c:Call):Option AV:=
 match c.callee with
 |.builtin .len=>match c.argTypes[0]?,c.args[0]?with
  |some t,some x=>Cz P t (ev T fr x)|_,_=>none
 |.builtin .max=>match c.args.toList with
  |x::l=>Iv OG (ev T fr x) (l.map (ev T fr))|[]=>none
 |.builtin .min=>match c.args.toList with
  |x::l=>Iv QV (ev T fr x) (l.map (ev T fr))|[]=>none
 |_=>none
def xL(P:Program)(T:dx)(fr:Fr)(o:Oper):Option AV:=
 match o.op with
 |.move x=>some (ev T fr x)|.assign x=>some (ev T fr x)|.pick c a b=>match ev T fr c with
  |.sc (.bool t)=>some (if t then ev T fr a else ev T fr b)|_=>none
 |.build t ps=>Dh P t (ps.toList.map λp=>(p.1,ev T fr p.2))|.binOp op t x y _=>Jm P op t y (ev T fr x) (ev T fr y)|.unOp op _ x=>Yv op (ev T fr x)|.convert s d x=>R6 P s d (ev T fr x)|.makeFunc fn f c=>some (.func fn (f.toList.map λx=>(ev T fr x).norm) (c.toList.map λx=>(ev T fr x).norm))|.fieldAddr t x i=>qR P t (ev T fr x) i|.field t x i=>Bc P t (ev T fr x) i|.indexAddr t x i=>fl P t (ev T fr x) (ev T fr i)|.index t x i=>NN P t (ev T fr x) (ev T fr i)|.slice t x lo hi e=>o8 P t (ev T fr x) (lo.map (ev T fr)) (hi.map (ev T fr)) (e.map (ev T fr))|.extract x i=>match ev T fr x with
  |.tuple vs=>vs[i]?|_=>none
 |.nilCheck x=>match ev T fr x with
  |.func (.func f) a b=>some (.func (.func f) a b)|x=>if B6 x then some x else none
 |.makeInterface t x=>if P.concrete t then some (.iface t (ev T fr x).norm)else none|.call c=>vL P T fr c|_=>none
section
variable{P:Program} {T:dx} {F:jY} {ρ:Maps} {fr:Fr} {a:Act}
def Fg(he:so F ρ fr a)(b:xW T F ρ):∀(xs:List Operand),(∀x∈xs,iD x=true)->f_ (fG F ρ) (xs.map (ev T fr)) (xs.map a.eval)
 |[],_=>.nil|x::xs,h=>.cons (fI he b x (h x aa4)) (Fg he b xs λy hy=>h y (by simp[hy]))
def Gt(he:so F ρ fr a)(b:xW T F ρ)(xs:List Operand)(h:∀x∈xs,iD x=true):fq F ρ.G ρ.n (xs.map λx=>(ev T fr x).norm) (xs.map a.eval):=by
 have:=(Fg he b xs h).wQ AV.norm λ_ _ _ h=>fG.norm h;rw[RE] at this;exact .m6 this
def Fu(he:so F ρ fr a)(b:xW T F ρ):∀(ps:List (Nat×Operand)),(∀p∈ps,iD p.2=true)->f_ (λ(x:Nat×AV) (y:Nat×Value)=>x.1=y.1/\fG F ρ x.2 y.2) (ps.map λp=>(p.1,ev T fr p.2)) (ps.map λp=>(p.1,a.eval p.2))
 |[],_=>.nil|p::ps,h=>.cons ⟨rfl,fI he b p.2 (h p aa4)⟩ (Fu he b ps λq c=>h q (by simp[c]))
def NI(he:so F ρ fr a)(b:xW T F ρ)(x:Option Operand)(h:∀y,x=some y->iD y=true):yV F ρ (x.map (ev T fr)) (x.map a.eval):=by
 cases x with
 |none=>trivial|some y=>exact fI he b y (h y rfl)
def Lb{v:Value}(h:fG F ρ .HK v):∃base,v=.slice base 0 0:=by
 cases h with
 |cell h=>cases h with
  |p h=>cases h with|HK=>exact⟨_,rfl⟩
def Q9(w:World){t ty:TypeId}{x r:AV}{u:Value}(h:Cz P t x=some r)(a:fG F ρ x u){ts:Array TypeId}{us:Array Value}(h1:ts[0]?=some t)(c:us[0]?=some u):∃v,(Builtin.len_ ts ty us).run P w=.ok v w/\fG F ρ r v:=by
 unfold Cz at h;unfold Builtin.len_;simp only[h1,c]
 split at h
 ·rename_i e tag l hu;cases h;obtain⟨base,cap,b,o,sz,vs,rfl,hs,_,_⟩:=m4 a;exact⟨_,by simp only[gb,run_underlying hu,iS];rfl,.p (.sc rfl)⟩
 ·rename_i e b g len cap hu;cases h;obtain⟨rfl,_,_,_⟩:=zt a;exact⟨_,by simp only[gb,run_underlying hu,iS];rfl,.p (.sc rfl)⟩
 ·rename_i e hu;cases h;obtain⟨base,rfl⟩:=Lb a;exact⟨_,by simp only[gb,run_underlying hu,iS];rfl,.p (.sc rfl)⟩
 ·rename_i e b len cap hu;cases h;obtain⟨rfl,_,_,_⟩:=CG a;exact⟨_,by simp only[gb,run_underlying hu,iS];rfl,.p (.sc rfl)⟩
 ·rename_i s hu;cases h;cases fh a;exact⟨_,by simp only[gb,run_underlying hu,iS];rfl,.p (.sc rfl)⟩
 ·rename_i n e hu;cases h;exact⟨_,by simp only[gb,run_underlying hu,iS];rfl,.p (.sc rfl)⟩
 ·cases h
def Ix(w:World){f:AV->AV->Option AV}{g:Value->Value->Sem Value}(j:∀x y r u v,f x y=some r->fG F ρ x u->fG F ρ y v->∃z,(g u v).run P w=.ok z w/\fG F ρ r z):∀(l:List AV) (x r:AV) (u:Value) (us:List Value),Iv f x l=some r->fG F ρ x u->f_ (fG F ρ) l us->∃z,(us.foldlM g u).run P w=.ok z w/\fG F ρ r z:=by
 intro l
 induction l with
 |nil=>
  intro x r u us h a b;cases b;cases h;exact⟨u,rfl,a⟩
 |cons y l k=>
  intro x r u us h a b;cases b with
  |cons h1 m=>
   simp only[Iv,Uw] at h;obtain⟨z,n,h⟩:=h;obtain⟨p,c,d⟩:=j _ _ _ _ _ n a h1;obtain⟨o,e,i⟩:=k _ _ _ _ h d m;exact⟨o,by simp only[List.foldlM_cons,gb,c,iS,e],i⟩
def RQ(w:World)(x y r:AV)(u v:Value)(h:OG x y=some r)(a:fG F ρ x u)(hy:fG F ρ y v):∃z,(Builtin.max2 u v).run P w=.ok z w/\fG F ρ r z:=by
 unfold OG at h
 split at h
 ·cases fh a;cases fh hy;cases h;exact⟨_,rfl,.p (.sc rfl)⟩
 ·cases h
def QS(w:World)(x y r:AV)(u v:Value)(h:QV x y=some r)(a:fG F ρ x u)(hy:fG F ρ y v):∃z,(Builtin.min2 u v).run P w=.ok z w/\fG F ρ r z:=by
 unfold QV at h
 split at h
 ·cases fh a;cases fh hy;cases h;exact⟨_,rfl,.p (.sc rfl)⟩
 ·cases h
def NF(w:World){xs i:List AV}{us vs:List Value}(h1:f_ (iL F ρ) xs us)(o1:∀c∈xs,c.eD=true)(n:f_ (iL F ρ) i vs)(o2:∀c∈i,c.eD=true):∀(d:List Field) (b:Bool),v8 P d xs i=some b->(Op.eqFields 9999 us.toArray vs.toArray d).run P w=.ok b w:=by
 intro d
 induction d with
 |nil=>intro b h;simp[v8] at h;subst h;rfl
 |cons f d m=>
  intro b h;unfold v8 at h;unfold Op.eqFields
  split at h
  ·rename_i hn;rw[cK (by simpa using hn)];exact m b h
  ·rename_i hn;rw[cO (by simpa using hn)]
   have step:∀{x y:Value} {r:Bool},lH P f.type xs f.offset=some (.sc x)->lH P f.type i f.offset=some (.sc y)->(Op.equalIn 9999 f.type x y).run P w=.ok r w->(v8 P d xs i).map (λq=>r&&q)=some b->(do
      let a<-part f.type us.toArray f.offset
      let b<-part f.type vs.toArray f.offset
      let r<-Op.equalIn 9999 f.type a b
      if(!r) then pure false else Op.eqFields 9999 us.toArray vs.toArray d:Sem Bool).run P w=.ok b w:=by
    intro x y r g hy o e;obtain⟨A,p,s⟩:=BG (P:=P) w h1 o1 g;obtain⟨B,t,u⟩:=BG (P:=P) w n o2 hy;obtain rfl:=fh s;obtain rfl:=fh u;simp only[gb,p,t,o,iS];cases l:v8 P d xs i with
    |none=>rw[l] at e;cases e
    |some q=>
     rw[l] at e;simp only[Px,sy] at e;cases r
     ·simp at e;subst e;rfl
     ·simp at e;subst e;simpa using m q l
   split at h
   ·rename_i k v a k2 j hu g hy
    split at h
    ·rename_i z;subst z;exact step g hy (run_equalIn_int w 9998 f.type v k a j hu) h
    ·cases h
   ·rename_i a j hu g hy;exact step g hy (run_equalIn_string w 9998 f.type a j hu) h
   ·rename_i a j hu g hy;exact step g hy (run_equalIn_bool' w 9998 f.type a j hu) h
   ·cases h
def OB(P:Program)(w:World){t:TypeId}{ms:Array (String×TypeId)}(hu:P.underlying t=some (.interface ms)):(binOp .eql t .nilIface .nilIface).run P w=.ok (.bool true) w/\(binOp .neq t .nilIface .nilIface).run P w=.ok (.bool false) w:=by
 have h:∀d,(Op.equalIn (d+1) t .nilIface .nilIface).run P w=.ok true w:=λd=>by simp[Op.equalIn,run_underlying hu]
 have a:binOp .eql t .nilIface .nilIface=(do pure (.bool (<-Op.equalIn (9999+1) t .nilIface .nilIface))):=rfl;have b:binOp .neq t .nilIface .nilIface=(do pure (.bool (!(<-Op.equalIn (9999+1) t .nilIface .nilIface)))):=rfl;rw[a,b,gb,gb,h 9999];exact⟨rfl,rfl⟩
def SL(w:World){op:BinOp}{t:TypeId}{x y r:AV}{u v:Value}(h:nH P op t x y=some r)(e:fG F ρ x u)(hy:fG F ρ y v):∃z,(binOp op t u v).run P w=.ok z w/\r=.sc z/\z7 z=true/\∀a b,(eqGuard op t a b u v).run P w=.ok () w:=by
 have agg:∀{xs g:List AV} {b:Bool},IX P t xs g=some b->fG F ρ (.agg xs) u->fG F ρ (.agg g) v->∃us vs:List Value,u=.agg us.toArray/\v=.agg vs.toArray/\(Op.equalIn (9999+1) t u v).run P w=.ok b w/\P.eqGuardType P.depth t=false:=by
  intro xs g b c e hy;obtain⟨us,rfl,u1,u2⟩:=BH e;obtain⟨vs,rfl,v1,v2⟩:=BH hy;unfold IX at c
  split at c
  ·rename_i k hu
   split at c
   ·rename_i d;simp only[Z6,ft,U1] at d
    have j:P.fieldsOf t=k:=by simp[Program.fieldsOf,hu]
    refine⟨us,vs,rfl,rfl,?_,d.1⟩;rw[run_equalIn_struct w 9999 t us.toArray vs.toArray (by rw[j];exact hu) d.2,j];exact NF w u1 u2 v1 v2 _ _ c
   ·cases c
  ·cases c
 unfold nH at h
 split at h
 ·cases c:IX P t _ _ with
  |none=>rw[c] at h;cases h
  |some b=>
   rw[c] at h;cases h;obtain⟨us,vs,rfl,rfl,h1,f⟩:=agg c e hy;refine⟨.bool b,?_,rfl,rfl,λa b=>?_⟩
   ·have i:binOp .eql t (.agg us.toArray) (.agg vs.toArray)=(do pure (.bool (<-Op.equalIn (9999+1) t (.agg us.toArray) (.agg vs.toArray)))):=rfl;rw[i,gb,h1];rfl
   ·simp[eqGuard,f,Result.andThen]
 ·cases c:IX P t _ _ with
  |none=>rw[c] at h;cases h
  |some b=>
   rw[c] at h;cases h;obtain⟨us,vs,rfl,rfl,h1,f⟩:=agg c e hy;refine⟨.bool !b,?_,rfl,rfl,λa b=>?_⟩
   ·have i:binOp .neq t (.agg us.toArray) (.agg vs.toArray)=(do pure (.bool (!(<-Op.equalIn (9999+1) t (.agg us.toArray) (.agg vs.toArray))))):=rfl;rw[i,gb,h1];rfl
   ·simp[eqGuard,f,Result.andThen]
 ·obtain⟨z,h1,f,l,m⟩:=O_ P w h e hy;exact⟨z,h1,f,l,λa b=>LF P w op t a b m⟩
def Eu{G:Nat->Nat}{n:Nat}:∀{a:List Int} {vs:List Value},fq F G n (a.map (λn=>AV.sc (.int .u8 n))) vs->vs=a.map (Value.int .u8)
 |[],_,.nil=>rfl|n::a,_,.cons h1 b=>by
  cases h1;rw[Eu b];rfl
def BE:∀{l:List AV} {a:List Int},FK l=some a->l.flatMap AV.cells=a.map (λn=>AV.sc (.int .u8 n))/\l.length=a.length
 |[],a,h=>by simp[FK] at h;subst h;exact⟨rfl,rfl⟩
 |x::l,a,h=>by
  unfold FK at h
  split at h
  ·rename_i e;cases e
  ·rename_i n d e;injection e with b c;subst b;subst c;simp only[Um] at h;obtain⟨ms,h1,rfl⟩:=h;obtain⟨i1,i2⟩:=BE h1;exact⟨by simp[AV.cells,i1],by simp[i2]⟩
  ·cases h
def AJ(w:World)(E:∀b o v,F b o=some v->w.cell? ⟨b,o,none⟩=some v)(he:so F ρ fr a)(k:xW T F ρ){o:Oper}{r:AV}(G:o.op.operands.all iD=true)(h:xL P T fr o=some r):∃v,(execOp a.eval o).run P w=.ok (.value v) w/\fG F ρ r v:=by
 obtain⟨dst,op,type,pos,after,guard⟩:=o;have g:∀x∈op.operands,iD x=true:=λx j=>HJ.1 G x j;clear G
 have lift:∀{s:Sem Value},(∃v,s.run P w=.ok v w/\fG F ρ r v)->∃v,((do pure (.value (<-s))):Sem Next).run P w=.ok (.value v) w/\fG F ρ r v:=by
  rintro s ⟨v,q,B⟩;exact⟨v,by rw[gb,q];rfl,B⟩
 cases op<;>simp only[xL] at h<;>simp only[Op.operands] at g<;>simp only[execOp]
 case move x=>cases h;exact⟨_,rfl,fI he k x (g x aa4)⟩
 case assign x=>cases h;exact⟨_,rfl,fI he k x (g x aa4)⟩
 case pick c x y=>
  split at h
  ·rename_i t n;cases h;have H:=fI he k c (g c aa4);rw[n] at H;have J:=fh H;refine⟨if t then a.eval x else a.eval y,?_,?_⟩
   ·rw[J];rfl
   ·cases t
    ·exact fI he k y (g y aa4)
    ·exact fI he k x (g x aa4)
  ·cases h
 case build t ps=>
  refine lift ?_;have A:=Fu he k ps.toList λp A=>g p.2 (by simp;exact⟨p.1,by simpa using A⟩);have:=run_build (P:=P) w h A
  have e:(ps.toList.map λp=>(p.1,a.eval p.2)).toArray=ps.map λp=>(p.1,a.eval p.2):=by rw[<-LA,MO]
  rw[e] at this;exact this
 case binOp op t x y W=>
  obtain⟨z,h1,C,K,L⟩:∃z,(binOp op t (a.eval x) (a.eval y)).run P w=.ok z w/\r=.sc z/\z7 z=true/\(eqGuard op t x y (a.eval x) (a.eval y)).run P w=.ok () w:=by
   have j:=fI he k x (g x aa4);have hy:=fI he k y (g y aa4);change Jm P op t y (ev T fr x) (ev T fr y)=some r at h;generalize ev T fr x=u at h j;generalize ev T fr y=v at h hy;unfold Jm at h
   split at h
   ·have j:=fh j;rw[j]
    split at h
    ·rename_i hu;cases h;exact⟨.bool true,(OB P w hu).1,rfl,rfl,by simp[eqGuard,Act.eval]⟩
    ·rename_i hu;cases h;exact⟨.bool false,(OB P w hu).2,rfl,rfl,by simp[eqGuard,Act.eval]⟩
    ·cases h
   ·obtain⟨z,h1,C,K,L⟩:=SL (P:=P) w h j hy;exact⟨z,h1,C,K,L _ _⟩
  subst C;refine⟨z,?_,.p (.sc K)⟩;simp only[gb,L,iS,h1];rfl
 case unOp op t x=>
  refine lift ?_;have j:=fI he k x (g x aa4);generalize a.eval x=u at j|-;unfold Yv at h
  split at h
  ·rename_i n;rw[n] at j;cases fh j;cases h;exact⟨_,by simp[Op.unary,Op.intArith],.p (.sc rfl)⟩
  ·rename_i n;rw[n] at j;cases fh j;cases h;exact⟨_,by simp[Op.unary],.p (.sc rfl)⟩
  ·cases h
 case convert s d x=>
  refine lift ?_;have j:=fI he k x (g x aa4);generalize a.eval x=u at j|-;unfold R6 at h
  split at h
  ·rename_i tag l n;unfold Vz at h
   split at h
   ·rename_i e hs hd
    split at h
    ·rename_i I hu M;cases h;rw[n] at j;obtain⟨Q,hlen⟩:=BE M;obtain⟨base,cap,b,o,sz,vs,rfl,D,_,_⟩:=m4 j;refine⟨.string (strOfNums I),?_,.p (.sc rfl)⟩
     have N:vs=I.map (Value.int .u8):=by
      have A:=D.cells;rw[Q] at A;exact Eu A
     by_cases hn:l=[]
     ·subst hn;have O:I=[]:=Aa (by simpa using hlen.symm);subst O;cases base with
      |none=>exact run_convert_bytes_nil w s e hs hu 0 cap d hd|some R=>
       obtain⟨S,ao,U⟩:=R;show(convert s d (.slice (some ⟨S,ao,U⟩) 0 cap)).run P w=_;rw[run_convert_bytes_string w s d e _ 0 cap hs hu hd,run_bytesToString w _ 0 cap [] (by simp[loadCells,loadCellsFrom])];rfl
     ·rw[D.base hn];refine run_convert_bytes_arg w s e hs hu b o l.length cap I hlen.symm (λi hi=>?_) d hd;refine E b (o+i) _ (D.has i _ ?_);rw[N,tM,oO VW];simp[List.getD,oO (show i<I.length by omega)]
    ·cases h
   ·cases h
  ·unfold RH at h
   split at h
   ·rename_i hs hd n;rw[n] at j;cases fh j;cases h;refine⟨_,?_,.p (.sc rfl)⟩;unfold convert;simp only[gb,run_underlying hs,run_underlying hd,iS];rfl
   ·rename_i hs hd n;rw[n] at j;cases fh j;cases h;refine⟨_,?_,.p (.sc rfl)⟩;unfold convert;simp only[gb,run_underlying hs,run_underlying hd,iS];rfl
   ·cases h
 case makeFunc fn f c=>
  cases h;refine lift ⟨.func fn (f.map a.eval) (c.map a.eval),rfl,?_⟩;have h1:=Gt he k f.toList λx j=>g x (by simp[wS.1 j]);have C:=Gt he k c.toList λx j=>g x (by simp[wS.1 j]);have:=fF.func (fn:=fn) h1 C
  have e:∀l:Array Operand,(l.toList.map a.eval).toArray=l.map a.eval:=λl=>by rw[<-LA,MO]
  rw[e,e] at this;exact .p this
 case fieldAddr t x i=>exact lift (Hk w h (fI he k x (g x aa4)))
 case field t x i=>exact lift (PS w h (fI he k x (g x aa4)))
 case indexAddr t x i=>exact lift (HM w h (fI he k x (g x aa4)) (fI he k i (g i aa4)))
 case index t x i=>exact lift (PA w h (fI he k x (g x aa4)) (fI he k i (g i aa4)))
 case slice t x lo hi V=>
  exact lift (PI w h (fI he k x (g x aa4)) (NI he k lo λy hy=>g y (by simp[hy])) (NI he k hi λy hy=>g y (by simp[hy]))
   (NI he k V λy hy=>g y (by simp[hy])))
 case extract x i=>
  refine lift ?_;have j:=fI he k x (g x aa4)
  split at h
  ·rename_i vs n;rw[n] at j;obtain⟨us,hu,B⟩:=M_ j;obtain⟨v,q,A⟩:=B.get h;refine⟨v,?_,.p A⟩;rw[hu];simp[Instr.extract,q]
  ·cases h
 case nilCheck x=>
  have j:=fI he k x (g x aa4)
  split at h
  ·rename_i f b c n;cases h;rw[n] at j;obtain⟨vf,vc,q,_,_⟩:=zN j;refine⟨a.eval x,?_,j⟩;rw[q];rfl
  ·rename_i n
   split at h
   ·rename_i A;cases h;obtain⟨b,M⟩:=DP A j;refine⟨a.eval x,?_,j⟩;rw[M];rfl
   ·cases h
 case makeInterface t x=>
  refine lift ?_
  split at h
  ·rename_i n;cases h;exact⟨_,run_makeInterface w t _ n,.p (.iface (fI he k x (g x aa4)).norm)⟩
  ·cases h
 case call c=>
  obtain⟨callee,args,argTypes⟩:=c;have m:∀x∈args.toList,iD x=true:=λx j=>g x (by simp[Call.operands,wS.1 j]);simp only[vL] at h
  split at h
  ·split at h
   ·rename_i t x h1 C;simp only[resolve,invoke,builtin,gb,ou,iS];have j:x∈args:=Sx C;obtain⟨v,q,B⟩:=Q9 (P:=P) (ty:=type) w h (fI he k x (m x (wS.2 j))) h1 (us:=args.map a.eval) (by simp[C]);exact⟨v,by rw[q];rfl,B⟩
   ·cases h
  ·split at h
   ·rename_i x l h1;simp only[resolve,invoke,builtin,gb,ou,iS];obtain⟨v,q,B⟩:=Ix w (RQ (P:=P) w) _ _ _ _ _ h (fI he k x (m x (by simp[h1]))) (Fg he k l λy hy=>m y (by simp[h1,hy]));refine⟨v,?_,B⟩
    have e:(args.map a.eval).toList=a.eval x::l.map a.eval:=by simp[h1]
    simp only[Builtin.max_,e,q,iS]
   ·cases h
  ·split at h
   ·rename_i x l h1;simp only[resolve,invoke,builtin,gb,ou,iS];obtain⟨v,q,B⟩:=Ix w (QS (P:=P) w) _ _ _ _ _ h (fI he k x (m x (by simp[h1]))) (Fg he k l λy hy=>m y (by simp[h1,hy]));refine⟨v,?_,B⟩
    have e:(args.map a.eval).toList=a.eval x::l.map a.eval:=by simp[h1]
    simp only[Builtin.min_,e,q,iS]
   ·cases h
  ·cases h
 all_goals cases h
end
end Go.ke
namespace Go.ke
open Go
def Nl(a:Nat×Nat)(n:Nat):Prop:=a=(0,0)\/n<=a.1
inductive kQ (F:jY) (G:Nat->Nat) (n:Nat):List AV->Obj->Prop
 |cells {cs vs ty fz}:Nl fz vs.size->f_ (fF F G n) cs vs.toList->(∀c∈cs,c.eD=true)->kQ F G n cs (.cells vs ty fz)|map {ks xs es clock}:es.toList.map (·.key)=ks->f_ (fF F G n) xs (es.toList.map (·.val))->es.toList.map (·.born)=List.range ks.length->clock=ks.length->ks.Nodup->kQ F G n [.td ks xs] (.map es clock)|iter {o since seen}:o<n->kQ F G n [.l_ o since seen] (.mapIter (some (G o)) since seen.toArray since)|dead {ob}:kQ F G n [] ob
def kQ.grow{F F':jY}{G G':Nat->Nat}{n n':Nat}(hg:Cc F F' G G' n n'){cs b}(h:kQ F G n cs b):kQ F' G' n' cs b:=by
 cases h with
 |cells c h1 a=>exact .cells c (h1.mono λ_ _ _ h=>h.grow hg) a|map h1 a d e f=>exact .map h1 (a.mono λ_ _ _ h=>h.grow hg) d e f|iter h=>rw[<-hg.mG _ h];exact .iter (FE h hg.mn)|dead=>exact .dead
def lj:List AV->Bool
 |[]=>false|c::_=>c.eD
def kQ.xi{F:jY}{G:Nat->Nat}{n:Nat}{cs b}(h:kQ F G n cs b)(a:lj cs=true):∃vs ty d,b=.cells vs ty d/\Nl d vs.size/\f_ (fF F G n) cs vs.toList/\∀c∈cs,c.eD=true:=by
 cases h with
 |cells e h1 f=>exact⟨_,_,_,rfl,e,h1,f⟩|map=>simp[lj,AV.eD] at a
 |iter=>simp[lj,AV.eD] at a
 |dead=>simp[lj] at a
def FJ(vs:Array Value):Prop:=∀u∈vs.toList,u.oneCell'=true
structure GW (T:dx) (G:Nat->Nat) (F:jY) (H:cW) (w:World):Prop where
 BF:∀b o v,F b o=some v->w.cell? ⟨b,o,none⟩=some v
 jX:∀o cs,H[o]?=some cs->∃ob,w.heap[G o]?=some ob/\kQ F G H.length cs ob
 inj:∀o o',o<H.length->o'<H.length->G o=G o'->o=o'
 gF:∀o j,o<H.length->H[o]?≠some []->F (G o) j=none
 fresh:∀b j,w.heap.size<=b->F b j=none
 yI:∀g x,T g=some x->fF F G H.length (.lG x) (.pointer (some ⟨g,0,none⟩))
 row:(∀g,T g=none)->∀b o v,F b o=some v->∃vs ty fz,w.heap[b]?=some (.cells vs ty fz)/\Nl fz vs.size/\FJ vs
structure Ext (B:Nat) (G:Nat->Nat) (F:jY) (n:Nat) (w:World) (G':Nat->Nat) (F':jY) (n':Nat) (w':World):Prop where
 os:w'.os=w.os
 tape:w'.tape=w.tape
 output:w'.output=w.output
 size:w.heap.size<=w'.heap.size
 len:n<=n'
 hG:∀o,o<n->G' o=G o
 G9:∀o,n<=o->o<n'->B<=G' o
 hF:∀b j,b<B->(∀o,o<n->G o≠b)->F' b j=F b j
 mF:∀b j v,b<B->F b j=some v->F' b j=some v
 heap:∀b,b<B->(∀o,o<n->G o≠b)->w'.heap[b]?=w.heap[b]?
section
variable{B B':Nat} {G G' G'':Nat->Nat} {F F' F'':jY} {n n' n'':Nat} {w w' w'':World}
def Ext.refl:Ext B G F n w G F n w:=⟨rfl,rfl,rfl,gu _,gu _,λ_ _=>rfl,λ_ h a=>absurd a VW,λ_ _ _ _=>rfl,λ_ _ _ _ h=>h,λ_ _ _=>rfl⟩
def Ext.trans(h:Ext B G F n w G' F' n' w')(k:Ext B G' F' n' w' G'' F'' n'' w''):Ext B G F n w G'' F'' n'' w'' where
 os:=k.os.trans h.os
 tape:=k.tape.trans h.tape
 output:=k.output.trans h.output
 size:=uJ h.size k.size
 len:=uJ h.len k.len
 hG o c:=(k.hG o (FE c h.len)).trans (h.hG o c)
 G9 o h1 d:=by
  rcases qu o n' with h3|h3
  ·rw[k.hG o h3];exact h.G9 o h1 h3
  ·exact k.G9 o h3 d
 hF b j a hg:=by
  refine(k.hF b j a λo c=>?_).trans (h.hF b j a hg);rcases qu o n with h3|h3
  ·rw[h.hG o h3];exact hg o h3
  ·have:=h.G9 o h3 c;omega
 mF b j v a e:=k.mF b j v a (h.mF b j v a e)
 heap b a hg:=by
  refine(k.heap b a λo c=>?_).trans (h.heap b a hg);rcases qu o n with h3|h3
  ·rw[h.hG o h3];exact hg o h3
  ·have:=h.G9 o h3 c;omega
def Ext.mono(h:Ext B G F n w G' F' n' w')(c:B'<=B):Ext B' G F n w G' F' n' w':=
 ⟨h.os,h.tape,h.output,h.size,h.len,h.hG,λo h1 d=>uJ c (h.G9 o h1 d),λb j a=>h.hF b j VW,λb j v a=>h.mF b j v VW,λb a hg=>h.heap b VW hg⟩
end
inductive oM where
 |free|box (d:Nat)|jX|arr (k:Nat)
 deriving DecidableEq
structure WR (T:dx) (n B0:Nat) (ρ:Maps) (F:jY) (R:Nat->oM) (fr:Fr) (H:cW) (a:Act) (w:World):Prop where
 g:GW T ρ.G F H w
 size:a.tmps.size=n
 defers:a.defers=[]
 env:so F ρ fr a
 hn:ρ.n=H.length
 lg:∀d,ρ.lg d=fr.gen d
 ag:∀k,ρ.ag k=fr.ei k
 box:∀d cs,fr.box d=some cs->B0<=ρ.L d (fr.gen d)/\R (ρ.L d (fr.gen d))=.box d/\(∀c∈cs,c.eD=true)/\∃vs ty,w.heap[ρ.L d (fr.gen d)]?=some (.cells vs ty (0,0))/\f_ (iL F ρ) cs vs.toList
 tok:∀k m,fr.tm k=some m->∀b c sz,ρ.A k (fr.ei k)=some (b,c,sz)->B0<=b/\R b=.arr k/\(0<m/\m<=c)/\c<=maxLen/\(∃vs ty,w.heap[b]?=some (.cells vs ty (0,0))/\vs.size=c*sz/\FJ vs)/\∀j,m*sz<=j->F b j=none
 rf:∀b j v,F b j=some v->∀d,R b≠ .box d
 nE:∀o,o<H.length->R (ρ.G o)=.jX
 lb:∀b,w.heap.size<=b->R b=.free
 qT:B0<=w.heap.size
section
variable{T:dx} {n B0:Nat} {ρ ρ':Maps} {F F':jY} {R:Nat->oM} {fr:Fr} {H:cW} {a:Act} {w w':World}
def WR.gH(h:WR T n B0 ρ F R fr H a w):xW T F ρ:=λg x b=>by rw[h.hn];exact h.g.yI g x b
def WR.aaN(h:WR T n B0 ρ F R fr H a w){b j:Nat}{v:Value}(c:F b j=some v):b<w.heap.size:=by
 rcases qu b w.heap.size with h'|h'
 ·exact h'
 ·rw[h.g.fresh b j h'] at c;cases c
def Fr.tR(fr:Fr)(d:Option Nat)(x:AV)(t:Nat):(fr.put d x).env t=if d=some t then x else fr.env t:=by
 cases d with
 |none=>simp[Fr.put]|some d=>
  simp only[Fr.put,fN,sy]
  by_cases h:t=d
  ·subst h;simp
  ·rw[cK h,cK (λa=>h a.symm)]
def Fr.xb(fr:Fr)(d:Option Nat)(x:AV):(fr.put d x).box=fr.box/\(fr.put d x).gen=fr.gen/\(fr.put d x).tm=fr.tm/\(fr.put d x).ei=fr.ei:=by
 cases d<;>exact⟨rfl,rfl,rfl,rfl⟩
def LW(a:Act)(d:Option Nat)(v:Value)(t:Nat)(hd:∀b,d=some b->b<a.tmps.size):(a.put d v).tmps.getD t undef=if d=some t then v else a.tmps.getD t undef:=by
 cases d with
 |none=>simp[Act.put]|some d=>
  have:=hd d rfl;simp only[Act.put,sy,Jj,Array.getElem?_setIfInBounds]
  by_cases h:d=t
  ·subst h;simp[this]
  ·simp[h]
def so.put(he:so F ρ fr a){d:Option Nat}(hd:∀b,d=some b->b<a.tmps.size){x:AV}{v:Value}(c:fG F ρ x v):so F ρ (fr.put d x) (a.put d v):=by
 intro t;rw[Fr.tR,LW a d v t hd]
 split
 ·exact c
 ·exact he t
def CB(a:Act)(d:Option Nat)(v:Value):(a.put d v).tmps.size=a.tmps.size:=by cases d<;>simp[Act.put]
def put_defers(a:Act)(d:Option Nat)(v:Value):(a.put d v).defers=a.defers:=by cases d<;>rfl
def WR.put(h:WR T n B0 ρ F R fr H a w){d:Option Nat}(hd:∀b,d=some b->b<n){x:AV}{v:Value}(f:fG F ρ x v):WR T n B0 ρ F R (fr.put d x) H (a.put d v) w:=by
 obtain⟨i,c,j,e⟩:=Fr.xb fr d x;refine⟨h.g,by rw[CB];exact h.size,by rw[put_defers];exact h.defers,h.env.put (by rw[h.size];exact hd) f,h.hn,?_,?_,?_,?_,h.rf,h.nE,h.lb,h.qT⟩
 ·rw[c];exact h.lg
 ·rw[e];exact h.ag
 ·rw[i,c];exact h.box
 ·rw[j,e];exact h.tok
def WR.drew(h:WR T n B0 ρ F R fr H a w):WR T n B0 ρ F R fr H a w.drew:=
 ⟨⟨h.g.BF,h.g.jX,h.g.inj,h.g.gF,h.g.fresh,h.g.yI,h.g.row⟩,h.size,h.defers,h.env,h.hn,h.lg,h.ag,h.box,h.tok,h.rf,h.nE,h.lb,h.qT⟩
def nY{w:World}{b:Nat}{o:Obj}(h:w.heap[b]?=some o):b<w.heap.size:=(MC.1 h).1
def WR.alloc(h:WR T n B0 ρ F R fr H a w)(o:Obj):WR T n B0 ρ F R fr H a (w.alloc o):=by
 have hs:(w.alloc o).heap.size=w.heap.size+1:=World.size_alloc w o;refine⟨⟨?_,?_,h.g.inj,h.g.gF,?_,h.g.yI,?_⟩,h.size,h.defers,h.env,h.hn,h.lg,h.ag,?_,?_,h.rf,h.nE,?_,by have:=h.qT;omega⟩
 ·intro b j v i;rw[World.cell?_alloc_lt w o ⟨b,j,none⟩ (h.aaN i)];exact h.g.BF b j v i
 ·intro s cs t;obtain⟨l,h1,e⟩:=h.g.jX s cs t;exact⟨l,(heap_alloc_old w o (nY h1)).trans h1,e⟩
 ·intro b j u;exact h.g.fresh b j VW
 ·intro x b j v i;obtain⟨vs,ty,y,h1,e⟩:=h.g.row x b j v i;exact⟨vs,ty,y,(heap_alloc_old w o (nY h1)).trans h1,e⟩
 ·intro d cs hd;obtain⟨h1,e,p,vs,ty,f,q⟩:=h.box d cs hd;exact⟨h1,e,p,vs,ty,(heap_alloc_old w o (nY f)).trans f,q⟩
 ·intro k m z b c sz A;obtain⟨h1,e,p,r,⟨vs,ty,f,q⟩,B⟩:=h.tok k m z b c sz A;exact⟨h1,e,p,r,⟨vs,ty,(heap_alloc_old w o (nY f)).trans f,q⟩,B⟩
 ·intro b u;exact h.lb b VW
def so.grow(he:so F ρ fr a)(hg:tI F F' ρ ρ'):so F' ρ' fr a:=λt=>(he t).grow hg
def rT{α:Type}(f:Nat->Nat->α)(i j:Nat)(x:α):Nat->Nat->α:=λa b=>if a=i/\b=j then x else f a b
def WR.VQ(h:WR T n B0 ρ F R fr H a w){b:Nat}{vs:Array Value}{ty:TypeId}{cs:List AV}(J:B0<=b)(q:R b=.free)(hF:∀j,F b j=none)
  (I:w.heap[b]?=some (.cells vs ty (0,0))) (A:f_ (iL F ρ) cs vs.toList) (u:∀c∈cs,c.eD=true) {d:Nat} (hd:d<n):∃ρ' y,ρ'.G=ρ.G/\WR T n B0 ρ' F y {fr with env:=fN fr.env d (.fC d (fr.gen d+1) 0),box:=fN fr.box d (some cs),gen:=fN fr.gen d (fr.gen d+1)} H
   (a.put (some d) (.pointer (some ⟨b,0,none⟩))) w:=by
 let ρ':Maps:={ρ with L:=rT ρ.L d (fr.gen d+1) b,lg:=fN ρ.lg d (fr.gen d+1)}
 let y:Nat->oM:=fN R b (.box d)
 have r:tI F F ρ ρ':=by
  refine⟨.refl,λf=>?_,λf g hg=>?_,λ_=>gu _,λ_ _ _=>rfl⟩
  ·show ρ.lg f<=fN ρ.lg d (fr.gen d+1) f;unfold fN
   split
   ·rename_i K;subst K;rw[h.lg];omega
   ·exact gu _
  ·show rT ρ.L d (fr.gen d+1) b f g=ρ.L f g;unfold rT;rw[cK];rintro⟨rfl,rfl⟩;rw[h.lg] at hg;omega
 have l:∀i,R i≠ .free->y i=R i:=by
  intro i s;show fN R b (.box d) i=R i;unfold fN;rw[cK];rintro rfl;exact s q
 refine⟨ρ',y,rfl,?_⟩;refine⟨⟨h.g.BF,h.g.jX,h.g.inj,h.g.gF,h.g.fresh,h.g.yI,h.g.row⟩,by rw[CB];exact h.size,by rw[put_defers];exact h.defers,?_,h.hn,?_,h.ag,?_,?_,?_,?_,?_,h.qT⟩
 ·have M:=(h.env.grow r).put (d:=some d) (by intro f he;injection he with he;subst he;rw[h.size];exact hd) (x:=.fC d (fr.gen d+1) 0) (v:=.pointer (some ⟨b,0,none⟩))
   (by
    have:=iL.fC (F:=F) (ρ:=ρ') (b:=d) (g:=fr.gen d+1) (off:=0) (by show _<=fN ρ.lg d (fr.gen d+1) d;simp[fN])
    have e:ρ'.L d (fr.gen d+1)=b:=by show rT ρ.L d (fr.gen d+1) b d (fr.gen d+1)=b;simp[rT]
    rw[e] at this
    exact .cell this)
  exact M
 ·intro f;show fN ρ.lg d (fr.gen d+1) f=fN fr.gen d (fr.gen d+1) f;unfold fN
  split
  ·rfl
  ·exact h.lg f
 ·intro f B p;simp only[fN] at p|-
  by_cases he:f=d
  ·subst he;simp only[if_true] at p|-;cases p
   have e:ρ'.L f (fr.gen f+1)=b:=by show rT ρ.L f (fr.gen f+1) b f (fr.gen f+1)=b;simp[rT]
   rw[e];refine⟨J,?_,u,vs,ty,I,A.mono λ_ _ _ h=>h.grow r⟩;show fN R b (.box f) b=.box f;simp[fN]
  ·simp only[cK he] at p|-;obtain⟨h1,z,C,vs',D,N,O⟩:=h.box f B p
   have e:ρ'.L f (fr.gen f)=ρ.L f (fr.gen f):=by show rT ρ.L d (fr.gen d+1) b f (fr.gen f)=_;simp[rT,he]
   rw[e];exact⟨h1,by rw[l _ (by rw[z];simp)];exact z,C,vs',D,N,O.mono λ_ _ _ h=>h.grow r⟩
 ·intro k m P i c sz Q;obtain⟨h1,z,C⟩:=h.tok k m P i c sz Q;exact⟨h1,by rw[l _ (by rw[z];simp)];exact z,C⟩
 ·intro i j v E
  have t:i≠b:=by rintro rfl;rw[hF j] at E;cases E
  have e:y i=R i:=by show fN R b (.box d) i=R i;simp[fN,t]
  rw[e];exact h.rf i j v E
 ·intro o S;have:=h.nE o S;rw[l _ (by show R (ρ.G o)≠_;rw[this];simp)];exact this
 ·intro i s
  have t:i≠b:=by rintro rfl;have:=nY I;omega
  show fN R b (.box d) i=.free;simp only[fN,cK t];exact h.lb i s
def WR.Oz(h:WR T n B0 ρ F R fr H a w){b:Nat}{C:Obj}{cs:List AV}(l:R b=.free)(hF:∀j,F b j=none)
  (P:w.heap[b]?=some C) (D:kQ F ρ.G ρ.n cs C):∃ρ' y,(∀o,o<H.length->ρ'.G o=ρ.G o)/\ρ'.G H.length=b/\ρ'.n=H.length+1/\WR T n B0 ρ' F y fr (H++[cs]) a w:=by
 let ρ':Maps:={ρ with G:=fN ρ.G H.length b,n:=H.length+1}
 let y:Nat->oM:=fN R b .jX
 have hG:∀o,o<H.length->ρ'.G o=ρ.G o:=by
  intro o f;show fN ρ.G H.length b o=ρ.G o;simp only[fN];rw[cK VW]
 have r:Cc F F ρ.G ρ'.G ρ.n ρ'.n:=⟨λ_ _ _ h=>h,by show ρ.n<=H.length+1;rw[h.hn];omega,λo f=>hG o (by rw[h.hn] at f;exact f)⟩;have z:tI F F ρ ρ':=⟨r,λ_=>gu _,λ_ _ _=>rfl,λ_=>gu _,λ_ _ _=>rfl⟩
 have q:Cc F F ρ.G ρ'.G H.length (H++[cs]).length:=by
  have:=r;rw[h.hn] at this;simpa using this
 have p:∀d,R d≠ .free->y d=R d:=by
  intro d s;show fN R b .jX d=R d;unfold fN;rw[cK];rintro rfl;exact s l
 have i:ρ'.G H.length=b:=by show fN ρ.G H.length b H.length=b;simp[fN]
 refine⟨ρ',y,hG,i,rfl,?_⟩;refine⟨⟨h.g.BF,?_,?_,?_,h.g.fresh,λg x Q=>(h.g.yI g x Q).grow q,h.g.row⟩,h.size,h.defers,h.env.grow z,by show H.length+1=_;simp,h.lg,h.ag,?_,?_,?_,?_,?_,h.qT⟩
 ·intro o t f;rcases qu o H.length with A|hge
  ·rw[p4 A] at f;obtain⟨E,h1,h2⟩:=h.g.jX o t f;rw[hG o A];exact⟨E,h1,h2.grow q⟩
  ·have:o=H.length:=by
    have:=(kj.1 f).1;simp at this;omega
   subst this;simp at f;subst f;rw[i];exact⟨C,P,(by have:=D.grow r;simpa using this)⟩
 ·intro o o' f I he;simp at f I
  have key:∀o,o<H.length->ρ'.G o≠b:=by
   intro o f he;rw[hG o f] at he;have:=h.nE o f;rw[he,l] at this;cases this
  rcases qu o H.length with h1|h1
  ·rcases qu o' H.length with h2|h2
   ·rw[hG o h1,hG o' h2] at he;exact h.g.inj o o' h1 h2 he
   ·have e:o'=H.length:=VW
    subst e;rw[i] at he;exact absurd he (key o h1)
  ·have e:o=H.length:=VW
   subst e;rcases qu o' H.length with h2|h2
   ·rw[i] at he;exact absurd he.symm (key o' h2)
   ·omega
 ·intro o j f B;simp at f;rcases qu o H.length with h1|h1
  ·rw[hG o h1];exact h.g.gF o j h1 (by rw[p4 h1] at B;exact B)
  ·have e:o=H.length:=VW
   subst e;rw[i];exact hF j
 ·intro J t K;obtain⟨h1,h2,M,vs',N,S,U⟩:=h.box J t K;exact⟨h1,by rw[p _ (by show R (ρ.L J (fr.gen J))≠_;rw[h2];simp)];exact h2,M,vs',N,S,U.mono λ_ _ _ h=>h.grow z⟩
 ·intro k m V d c sz W;obtain⟨h1,h2,M⟩:=h.tok k m V d c sz W;exact⟨h1,by rw[p _ (by rw[h2];simp)];exact h2,M⟩
 ·intro d j v O
  have u:d≠b:=by rintro rfl;rw[hF j] at O;cases O
  have e:y d=R d:=by show fN R b .jX d=R d;simp[fN,u]
  rw[e];exact h.rf d j v O
 ·intro o f;simp at f;rcases qu o H.length with h1|h1
  ·have:=h.nE o h1;rw[hG o h1,p _ (by rw[this];simp)];exact this
  ·have e:o=H.length:=VW
   subst e;rw[i];show fN R b .jX b=.jX;simp[fN]
 ·intro d s
  have u:d≠b:=by rintro rfl;have:=nY P;omega
  show fN R b .jX d=.free;simp only[fN,cK u];exact h.lb d s
def WR.X4(h:WR T n B0 ρ F R fr H a w){b:Nat}{vs:Array Value}{ty:TypeId}{cs:List AV}(e:R b=.free)(hF:∀j,F b j=none)
  (m:w.heap[b]?=some (.cells vs ty (0,0))) (i:f_ (fF F ρ.G ρ.n) cs vs.toList) (f:∀c∈cs,c.eD=true) {d:Nat} (hd:d<n):∃ρ' k,(∀o,o<H.length->ρ'.G o=ρ.G o)/\ρ'.G H.length=b/\WR T n B0 ρ' F k {fr with env:=fN fr.env d (.dM H.length 0)} (H++[cs])
   (a.put (some d) (.pointer (some ⟨b,0,none⟩))) w:=by
 obtain⟨ρ',k,hG,g,l,hw⟩:=h.Oz e hF m (.cells (.inl rfl) i f);refine⟨ρ',k,hG,g,hw.put (d:=some d) (by intro q he;injection he with he;subst he;exact hd) (x:=.dM H.length 0) ?_⟩;have:=fF.dM (F:=F) (G:=ρ'.G) (n:=ρ'.n) (o:=H.length) (off:=0) (by rw[l];omega);rw[g] at this;exact .p this
end
def cell_setRow_other(w:World)(g:Nat)(cs:Array Value)(b o:Nat)(h:b≠g):(w.setRow g cs).cell? ⟨b,o,none⟩=w.cell? ⟨b,o,none⟩:=
 World.cell?_of_block (w:=w) (a:=⟨b,o,none⟩) (setRow_other w g b cs h)
def size_setRow(w:World)(g:Nat)(cs:Array Value):(w.setRow g cs).heap.size=w.heap.size:=by simp[World.setRow]
section
variable{T:dx} {n B0:Nat} {ρ:Maps} {F:jY} {R:Nat->oM} {fr:Fr} {H:cW} {a:Act} {w:World}
def WR.S0(h:WR T n B0 ρ F R fr H a w){d:Nat}{cs q:List AV}{vs':Array Value}(hd:fr.box d=some cs)(z:f_ (iL F ρ) q vs'.toList)(t:∀c∈q,c.eD=true):WR T n B0 ρ F R {fr with box:=fN fr.box d (some q)} H a (w.setRow (ρ.L d (fr.gen d)) vs'):=by
 obtain⟨h1,J,U,vs,ty,N,V⟩:=h.box d cs hd
 have e:∀b,R b≠ .box d->b≠ρ.L d (fr.gen d):=by
  rintro b r rfl;exact r J
 refine⟨⟨?_,?_,h.g.inj,h.g.gF,?_,h.g.yI,?_⟩,h.size,h.defers,h.env,h.hn,h.lg,h.ag,?_,?_,h.rf,h.nE,?_,by rw[size_setRow];exact h.qT⟩
 ·intro b o v u;rw[cell_setRow_other]
  ·exact h.g.BF b o v u
  ·exact e b (h.rf b o v u d)
 ·intro o f K;obtain⟨x,y,s⟩:=h.g.jX o f K;refine⟨x,?_,s⟩;rw[setRow_other]
  ·exact y
  ·refine e _ ?_;rw[h.nE o (kj.1 K).1];simp
 ·intro b j r;rw[size_setRow] at r;exact h.g.fresh b j r
 ·intro O b j v u;obtain⟨A,B,C,g1,g2⟩:=h.g.row O b j v u;exact⟨A,B,C,by rw[setRow_other _ _ _ _ (e b (h.rf b j v u d))];exact g1,g2⟩
 ·intro M f i;simp only[fN] at i
  by_cases he:M=d
  ·subst he;simp only[if_true] at i;cases i;exact⟨h1,J,t,vs',ty,setRow_heap w _ vs vs' ty (0,0) N,z⟩
  ·simp only[cK he] at i;obtain⟨y,s,D,l,p,E,G⟩:=h.box M f i;refine⟨y,s,D,l,p,?_,G⟩;rw[setRow_other]
   ·exact E
   ·refine e _ ?_;rw[s];simp[he]
 ·intro k m P b c sz Q;obtain⟨y,s,D,I,⟨l,p,E,G⟩,S⟩:=h.tok k m P b c sz Q;refine⟨y,s,D,I,⟨l,p,?_,G⟩,S⟩;rw[setRow_other]
  ·exact E
  ·refine e _ ?_;rw[s];simp
 ·intro b r;rw[size_setRow] at r;exact h.lb b r
def WR.GM(h:WR T n B0 ρ F R fr H a w){o:Nat}{cs s:List AV}{w':World}{t:Obj}(hd:H[o]?=some cs)(u:cs≠[])(x:w'.heap.size=w.heap.size)(C:w'.heap[ρ.G o]?=some t)
  (d:∀b,b≠ρ.G o->w'.heap[b]?=w.heap[b]?) (K:kQ F ρ.G ρ.n s t):WR T n B0 ρ F R fr (H.set o s) a w':=by
 have f:=(kj.1 hd).1;have L:=h.nE o f
 have D:∀b,R b≠ .jX->b≠ρ.G o:=by
  rintro b q rfl;exact q L
 have B:(H.set o s).length=H.length:=aa4
 refine⟨⟨?_,?_,?_,?_,?_,?_,?_⟩,h.size,h.defers,h.env,by rw[B];exact h.hn,h.lg,h.ag,?_,?_,h.rf,?_,?_,by rw[x];exact h.qT⟩
 ·intro b o' v y
  have q:b≠ρ.G o:=by
   rintro rfl;rw[h.g.gF o o' f (by rw[hd];exactλe=>u (gh e))] at y;cases y
  have e:w'.cell? ⟨b,o',none⟩=w.cell? ⟨b,o',none⟩:=by simp[World.cell?,d b q]
  rw[e];exact h.g.BF b o' v y
 ·intro o' i E;rw[B]
  by_cases he:o=o'
  ·subst he;simp only[JY f] at E;cases E;refine⟨t,C,?_⟩;rw[<-h.hn];exact K
  ·rw[Dm he] at E;obtain⟨I,J,z⟩:=h.g.jX o' i E;refine⟨I,?_,z⟩;rw[d]
   ·exact J
   ·exactλe=>he (h.g.inj o' o (kj.1 E).1 f e).symm
 ·rw[B];exact h.g.inj
 ·intro o' j A r;rw[B] at A
  by_cases he:o=o'
  ·subst he;exact h.g.gF o j A (by rw[hd];exactλe=>u (gh e))
  ·rw[Dm he] at r;exact h.g.gF o' j A r
 ·intro b j q;rw[x] at q;exact h.g.fresh b j q
 ·rw[B];exact h.g.yI
 ·intro W b j v y;obtain⟨M,N,O,g1,g2⟩:=h.g.row W b j v y;refine⟨M,N,O,?_,g2⟩;rw[d]
  ·exact g1
  ·rintro rfl;rw[h.g.gF o j f (by rw[hd];exactλe=>u (gh e))] at y;cases y
 ·intro X i P;obtain⟨J,z,Q,l,p,S,U⟩:=h.box X i P;refine⟨J,z,Q,l,p,?_,U⟩;rw[d]
  ·exact S
  ·refine D _ ?_;rw[z];simp
 ·intro k m Y b c sz Z;obtain⟨J,z,Q,V,⟨l,p,S,U⟩,e6⟩:=h.tok k m Y b c sz Z;refine⟨J,z,Q,V,⟨l,p,?_,U⟩,e6⟩;rw[d]
  ·exact S
  ·refine D _ ?_;rw[z];simp
 ·rw[B];exact h.nE
 ·intro b q;rw[x] at q;exact h.lb b q
def WR.OZ(h:WR T n B0 ρ F R fr H a w){o:Nat}{cs d:List AV}{vs':Array Value}(hd:H[o]?=some cs)(e:lj cs=true)(f:f_ (fF F ρ.G ρ.n) d vs'.toList)(hlen:d.length=cs.length)(i:∀c∈d,c.eD=true):WR T n B0 ρ F R fr (H.set o d) a (w.setRow (ρ.G o) vs'):=by
 obtain⟨t,m,p⟩:=h.g.jX o cs hd;obtain⟨vs,ty,q,rfl,j,k,_⟩:=p.xi e
 have l:vs'.size=vs.size:=by
  have h1:=f.length;have r:=k.length;simp only[Oi] at h1 r;omega
 exact h.GM hd (by rintro rfl;simp[lj] at e) (size_setRow w _ _) (setRow_heap w _ vs vs' ty q m) (λb s=>setRow_other w _ b _ s) (.cells (by rw[l];exact j) f i)
end
end Go.ke
