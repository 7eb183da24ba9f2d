/- Part of the proof of TheoryBegins: layer. -/
import Derived.Laws.Build
import Derived.Laws.StructEq
import Derived.Laws.BytesArg
import Derived.Test.YtjgjcpnoaeljkaaGreatDoorAL2
set_option linter.all false
namespace Go.kQ
open Go
def kJ(sz:Nat)(l:List AV):Bool:=
 match l with
 |[]=>true|x::_=>x.cells.length==sz
def qv{sz a:Nat}{l:List AV}(h:kJ sz l=true)(hs:∀x∈l,x.cells.length=a):∀x∈l,x.cells.length=sz:=by
 cases l with
 |nil=>simp|cons x l=>grind[kJ]
def Ft:Option AV->Option (Option Nat)
 |none=>some none|some (.sc (.int _ n))=>if 0<=n then some (some n.toNat)else none|_=>none
def la(P:Program)(t:TypeId)(x:AV)(lo hi a:Option AV):Option AV:=
 match Ft lo,Ft hi,Ft a with
 |some lo,some hi,some a=>
  match P.underlying t,x with
  |some (.slice e),.slice _ l=>
   match eA P e with
   |none=>none|some (_,sz)=>
    if hi.getD l.length<=l.length/\lo.getD 0<=hi.getD l.length/\kJ sz l then
     match a with
     |none=>some (.slice .iB ((l.take (hi.getD l.length)).drop (lo.getD 0)))|some m=>if hi.isSome/\hi.getD l.length<=m/\m<=l.length then some (.slice (if m=hi.getD l.length then .full else .iB) ((l.take (hi.getD l.length)).drop (lo.getD 0)))else none
    else none
  |some .string,.sc (.string s)=>
   if a.isNone/\hi.getD s.size<=s.size/\lo.getD 0<=hi.getD s.size then some (.sc (.string (s.extract (lo.getD 0) (hi.getD s.size))))else none
  |_,_=>none
 |_,_,_=>none
def yk(F:jo)(ρ:Maps):Option AV->Option Value->Prop
 |none,none=>True|some x,some v=>fx F ρ x v|_,_=>False
section
variable{P:Program} {F:jo} {ρ:Maps}
def Fs{x:Option AV}{v:Option Value}{r:Option Nat}(h:Ft x=some r)(a:yk F ρ x v):(r=none/\v=none)\/∃k n,v=some (.int k n)/\0<=n/\r=some n.toNat:=by
 unfold Ft at h
 split at h
 .cases v with
  |none=>injection h with h;exact .inl ⟨h.symm,rfl⟩|some v=>exact a.elim
 .rename_i k n
  split at h
  .injection h with h;cases v with
   |none=>exact a.elim|some v=>
    cases e_ a
    grind
  .cases h
 .cases h
def wP(w:World)(k:IntKind)(n:Int)(y:Nat)(c:BoundsCode)(a:0<=n)(b:n.toNat<=y):(Instr.sliceBound (.int k n) y c).run P w=.ok n.toNat w:=by
 unfold Instr.sliceBound;simp only[asIntOf,gl,oI,jr];rw[cS ⟨a,VW⟩];rfl
def Hw(w:World)(d:Bool){lo hi l:Option AV}{o q r:Option Value}{a h m:Option Nat}{len cap:Nat}
  (t:Ft lo=some a) (u:Ft hi=some h) (v:Ft l=some m) (x:yk F ρ lo o) (y:yk F ρ hi q) (A:yk F ρ l r)
  (hm:m.getD cap<=cap) (f:h.getD len<=m.getD cap) (i:a.getD 0<=h.getD len) (j:m.isSome=true->h.isSome=true):(Instr.sliceBounds d len cap o q r).run P w=.ok (a.getD 0,h.getD len,m.getD cap) w:=by
 rcases Fs v A with⟨rfl,rfl⟩|⟨k,n,rfl,hn,rfl⟩<;>rcases Fs u y with⟨rfl,rfl⟩|⟨k2,n2,rfl,b,rfl⟩<;>
  rcases Fs t x with⟨rfl,rfl⟩|⟨s,n1,rfl,c,rfl⟩<;>simp only[Option.getD_none,abQ] at hm f i|-<;>
  (first
   |(simp at j;done)
   |(simp only[Instr.sliceBounds,gl,oI,jr];done)
   |(simp only[Instr.sliceBounds,gl,oI,jr,wP (P:=P) w s n1 _ _ c i];done)
   |(simp only[Instr.sliceBounds,gl,oI,jr,wP (P:=P) w k2 n2 _ _ b f];done)
   |(simp only[Instr.sliceBounds,gl,oI,jr,wP (P:=P) w k n _ _ hn hm,wP (P:=P) w k2 n2 _ _ b f,wP (P:=P) w s n1 _ _ c i];done))
def RX(w:World){t:TypeId}{x r:AV}{u:Value}{lo hi U:Option AV}{G H C:Option Value}(h:la P t x lo hi U=some r)(q:fx F ρ x u)
  (V:yk F ρ lo G) (W:yk F ρ hi H) (I:yk F ρ U C):∃v,(Instr.sliceAt t u G H C).run P w=.ok v w/\fx F ρ r v:=by
 unfold la at h
 split at h
 .rename_i a f m X Y J
  split at h
  .rename_i e tag l hu
   split at h
   .cases h
   .rename_i ag sz hl
    split at h
    .rename_i K;obtain⟨L,j,k⟩:=K;obtain⟨base,cap,b,o,ad,vs,rfl,hs,_,_⟩:=mJ q;have n:=qv k hs.sz
     have step:∀(i:Nat),i=m.getD cap->i<=cap->f.getD l.length<=i->(m.isSome=true->f.isSome=true)->∀D,(D=Tag.iB\/D=Tag.full/\i=f.getD l.length)->∃v,(Instr.sliceAt t (.slice base l.length cap) G H C).run P w=.ok v w/\fx F ρ (.slice D ((l.take (f.getD l.length)).drop (a.getD 0))) v:=by
      intro i M ae af N D O;have Q:=Hw (P:=P) (F:=F) (ρ:=ρ) w true (len:=l.length) (cap:=cap) X Y J V W I VW VW j N
      refine⟨.slice (if i=a.getD 0 then base else base.map (·.add (a.getD 0*sz))) (f.getD l.length-a.getD 0) (i-a.getD 0),?_,?_⟩
      .unfold Instr.sliceAt;rw[gl,run_underlying hu];simp only[jr];unfold Instr.slice;rw[gl,run_underlying hu];simp only[jr,gl,Q,jT hl,oI,<-M]
      .have hlen:((l.take (f.getD l.length)).drop (a.getD 0)).length=f.getD l.length-a.getD 0:=by
        rw[V9,yg];omega
       rw[<-hlen]
       have d:((l.take (f.getD l.length)).drop (a.getD 0)).flatMap AV.cells=((l.flatMap AV.cells).take (f.getD l.length*sz)).drop (a.getD 0*sz):=by
        rw[xa (sz:=sz) (λx q=>n x (z8 q)),Cv n]
       refine .p (.slice (b:=b) (o:=o+a.getD 0*sz) (sz:=sz) (vs:=(vs.take (f.getD l.length*sz)).drop (a.getD 0*sz)) ?_ ?_ ?_ ?_ ?_ ?_ ?_ ?_)
       .rw[d];exact(hs.cells.take _).drop _
       .exact(hs.has.take _).drop _
       .intro y;have Z:0<((l.take (f.getD l.length)).drop (a.getD 0)).length:=Sd.2 y
        have R:l≠[]:=by rintro rfl;simp at y
        rw[cO VW,hs.base R];simp[Addr.add_lit]
       .exactλx q=>n x (z8 (FT q))
       .intro c A;rw[d] at A;exact hs.r' c (z8 (FT A))
       .omega
       .have:=hs.w6;omega
       .rcases O with h|⟨h,h'⟩
        .exact .inl h
        .exact .inr ⟨h,VW⟩
     split at h
     .cases h;exact step cap rfl (gV _) (by have:=hs.Af;omega) acZ .iB (.inl rfl)
     .rename_i i
      split at h
      .rename_i B;cases h;have ah:=hs.Af;refine step i rfl VW B.2.1 (λ_=>B.1) _ ?_
       by_cases he:i=f.getD l.length
       .rw[cS he];exact .inr ⟨rfl,he⟩
       .rw[cO he];exact .inl rfl
      .cases h
    .cases h
  .rename_i s hu
   split at h
   .rename_i K;obtain⟨L,j,k⟩:=K;cases h;cases e_ q
    have S:m=none:=by cases m<;>simp_all
    subst S
    have T:C=none:=by
     rcases Fs J I with⟨_,h⟩|⟨_,_,_,_,h⟩
     .exact h
     .cases h
    subst T;have Q:=Hw (P:=P) (F:=F) (ρ:=ρ) w false (len:=s.size) (cap:=s.size) X Y J V W I acZ (by simpa using j) k acZ;refine⟨_,?_,.p (.sc rfl)⟩;unfold Instr.sliceAt;rw[gl,run_underlying hu];simp only[jr];unfold Instr.slice;rw[gl,run_underlying hu];simp only[jr,Option.isSome_none,oo,lS,gl,oI,Q]
   .cases h
  .cases h
 .cases h
end
def placesOf(P:Program)(t:TypeId):Option (List (Nat×Nat)):=
 match P.underlying t with
 |some (.struct a)=>a.toList.mapM λf=>(P.info? f.type).map λi=>(f.offset,i.size)|_=>none
def fA(P:Program)(t i:Nat):Option (Nat×Nat):=
 match placesOf P t with
 |some ps=>ps[i]?|none=>match Nt P t with
  |some (_,e)=>(P.info? e).map λf=>(i*f.size,f.size)|none=>none
def er:AV->Bool
 |.tuple _=>false|_=>true
def Ec(P:Program)(t:TypeId):List AV->List (Nat×AV)->Option (List AV)
 |cs,[]=>some cs|cs,(i,x)::rest=>
  match fA P t i with
  |some (off,size)=>if x.cells.length=size/\off+size<=cs.length/\er x then Ec P t (setCells cs off x.cells) rest else none|none=>none
def n_(P:Program)(t:TypeId):Option (List AV):=
 match zeroOf P t with
 |some (.agg z)=>if z.all (·.oneCell')=true/\((placesOf P t).isSome\/((Nt P t).bind λp=>P.info? p.2).isSome)then some (z.toList.map pS)else none|_=>none
def Dj(P:Program)(t:TypeId)(parts:List (Nat×AV)):Option AV:=
 match n_ P t with
 |some z=>(Ec P t z parts).map .agg|none=>none
def foldl_set(new:List Value):∀(k off:Nat) (vs:Array Value),off+k+new.length<=vs.size->((new.zipIdx k).foldl (λcs (x:Value×Nat)=>cs.setIfInBounds (off+x.2) x.1) vs).toList=vs.toList.take (off+k)++new++vs.toList.drop (off+k+new.length):=by
 induction new with
 |nil=>intro k off vs h;simp|cons v new ih=>
  intro k off vs h;simp only[List.zipIdx_cons,List.foldl_cons,kL] at h|-;rw[ih (k+1) off _ ado]
  have a:off+k<vs.toList.length:=ado
  simp only[agb]
  have b:(vs.toList.set (off+k) v).take (off+(k+1))=vs.toList.take (off+k)++[v]:=by
    rw[<-VR,List.take_succ_eq_append_getElem (by simpa using a),List.take_set]
    congr 1
    .apply List.set_eq_of_length_le;simp[yg];omega
    .simp
  have c:(vs.toList.set (off+k) v).drop (off+(k+1)+new.length)=vs.toList.drop (off+k+(new.length+1)):=by
    rw[List.drop_set_of_lt VW]
    congr 1
    omega
  rw[b,c];simp
section
variable{P:Program} {F:jo} {ρ:Maps}
def fV.setCells{R:AV->Value->Prop}{cs new:List AV}{vs nv:List Value}(h:fV R cs vs)(a:fV R new nv)(off:Nat):fV R (setCells cs off new) (vs.take off++nv++vs.drop (off+new.length)):=by
 exact((h.take off).append a).append (h.drop _)
def gU{x:AV}(h:er x=true):∀vs,x≠ .tuple vs:=by grind[er]
def MD{t:TypeId}(place:Nat->Option (Nat×Nat))(G:∀i y,fA P t i=some y->place i=some y):∀(parts:List (Nat×AV)) (pv:List (Nat×Value)) (cs r:List AV) (vs:Array Value),Ec P t cs parts=some r->fV (iF F ρ) cs vs.toList->(∀c∈cs,c.fL=true)->fV (λ(x:Nat×AV) (y:Nat×Value)=>x.1=y.1/\fx F ρ x.2 y.2) parts pv->∃ws:Array Value,Instr.fill place vs pv=some ws/\fV (iF F ρ) r ws.toList/\∀c∈r,c.fL=true:=by
 intro parts
 induction parts with
 |nil=>
  intro pv cs r vs h k a d;cases d;simp[Ec] at h;subst h;exact⟨vs,rfl,k,a⟩
 |cons p parts ih=>
  intro pv cs r vs h k a d;obtain⟨i,x⟩:=p;cases d with
  |cons H l=>
   rename_i q pv;obtain⟨j,v⟩:=q;obtain⟨o,w⟩:=H;simp only at o w;subst o;simp only[Ec] at h
   split at h
   .rename_i off size A
    split at h
    .rename_i I;obtain⟨J,K,s⟩:=I;have b:=w.cells (gU s);have hlen:=b.length
     have L:vs.size=cs.length:=by simpa using k.length.symm
     have M:v.cells.toList.length=v.cells.size:=acZ
     have f:=foldl_set v.cells.toList 0 off vs (by simp only[I1];omega);have eR:=k.setCells b off;rw[hlen] at eR;simp only[I1] at f;rw[<-f] at eR
     obtain⟨ws,B,C,D⟩:=ih pv _ _ _ h eR (by
      intro c u;simp only[kQ.setCells,rl] at u;rcases u with(hm|hm)|hm
      .exact a c (z8 hm)
      .exact w.r' (gU s) c hm
      .exact a c (FT hm)) l
     refine⟨ws,?_,C,D⟩;unfold Instr.fill;rw[G _ _ A]
     have n:(v.cells.size≠size||decide (off+v.cells.size>vs.size))=false:=by
      simp only[Bool.or_eq_false_iff,aby,ne_eq,Decidable.not_not];constructor<;>omega
     show(if(decide (v.cells.size≠size)||decide (off+v.cells.size>vs.size)) then none else Instr.fill place (v.cells.zipIdx.foldl (λcs (x:Value×Nat)=>cs.setIfInBounds (off+x.2) x.1) vs) pv)=some ws;rw[cO (by rw[n];simp),<-afg,aeF];exact B
    .cases h
   .cases h
def EX(w:World):∀(a:List Field) (ps:List (Nat×Nat)),(a.mapM λf=>(P.info? f.type).map λi=>(f.offset,i.size))=some ps->(a.mapM λf=>(do pure (f.offset,<-sizeOf f.type):Sem (Nat×Nat))).run P w=.ok ps w:=by
 intro a
 induction a with
 |nil=>intro ps h;simp at h;subst h;rfl
 |cons f a ih=>
  intro ps h;simp only[YQ,Option.bind_eq_bind,ab2] at h;obtain⟨p,b,c,d,h⟩:=h;cases hi:P.info? f.type with
  |none=>rw[hi] at b;cases b
  |some i=>
   rw[hi] at b;simp at b h;subst b;subst h;simp only[YQ,gl,sizeOf,typeInfo,program,Sem.run,hi,jr,oI];have:=ih c d;simp only[gl,sizeOf,typeInfo,program] at this;rw[this];rfl
def run_map{α β:Type}(w:World)(f:α->β)(x:Sem α):(Functor.map f x).run P w=(x.run P w).andThen λa w'=>.ok (f a) w':=by
 show(x>>=λa=>pure (f a)).run P w=_;rw[gl];rfl
def run_build(w:World){t:TypeId}{parts:List (Nat×AV)}{r:AV}{pv:List (Nat×Value)}(h:Dj P t parts=some r)
  (l:fV (λ(x:Nat×AV) (y:Nat×Value)=>x.1=y.1/\fx F ρ x.2 y.2) parts pv):∃v,(Instr.build t pv.toArray).run P w=.ok v w/\fx F ρ r v:=by
 have h:∃z:Array Value,zeroOf P t=some (.agg z)/\(z.all (·.oneCell')=true/\((placesOf P t).isSome\/((Nt P t).bind λp=>P.info? p.2).isSome))/\(Ec P t (z.toList.map pS) parts).map .agg=some r:=by
  unfold Dj n_ at h
  split at h
  .rename_i z0 d
   split at d
   .rename_i z o
    split at d
    .rename_i B;injection d with d;subst d;exact⟨z,o,B,h⟩
    .cases d
   .cases d
  .cases h
 obtain⟨z,o,B,h⟩:=h
 .--O literal
  .obtain⟨C,k⟩:=B;cases K:Ec P t (z.toList.map pS) parts with
   |none=>rw[K] at h;cases h
   |some cs=>
    rw[K] at h;cases h
    have D:(zeroValue t).run P w=.ok (.agg z) w:=by
     unfold zeroOf at o;cases hi:P.info? t with
     |none=>rw[hi] at o;cases o
     |some i=>
      rw[hi] at o;simp at o;simp[zeroValue,typeInfo,hi,o]
    have q:∀v∈z.toList,v.oneCell'=true:=λv Q=>I3.1 C v (wD.1 Q);have H:fV (iF F ρ) (z.toList.map pS) z.toList:=(p6 F ρ.G ρ.n _ q).sY.mono λ_ _ _ h=>.p h
    have I:∀c∈z.toList.map pS,c.fL=true:=by
     intro c B;obtain⟨a,_,rfl⟩:=nj.1 B;exact xw a
    cases b:placesOf P t with
    |some ps=>
     have L:∃J,P.underlying t=some (.struct J)/\(J.toList.mapM λf=>(P.info? f.type).map λi=>(f.offset,i.size))=some ps:=by
      unfold placesOf at b
      split at b
      .exact⟨_,by assumption,b⟩
      .cases b
     obtain⟨J,hu,hm⟩:=L
     obtain⟨ws,s,u,A⟩:=MD (P:=P) (F:=F) (ρ:=ρ) (t:=t) (ps.toArray[·]?) (by
      intro i y hy;unfold fA at hy;rw[b] at hy
      simpa using hy) parts pv _ _ z K H I l
     refine⟨.agg ws,?_,by simpa using fx.agg (vs:=ws.toList) u A⟩;unfold Instr.build;simp only[gl,D,jr,run_underlying hu];have M:=EX (P:=P) w J.toList ps hm;rw[<-S0 (xs:=J),aeW,run_map,M];simp only[oI,jr,Value.cells,s]
    |none=>
     cases j:Nt P t with
     |none=>simp[b,j] at k
     |some ne=>
      obtain⟨n,e⟩:=ne
      have hu:P.underlying t=some (.array n e):=by
       unfold Nt at j
       split at j
       .rename_i hu;cases j;exact hu
       .cases j
      cases hi:P.info? e with
      |none=>simp[b,j,hi] at k
      |some N=>
       obtain⟨ws,s,u,A⟩:=MD (P:=P) (F:=F) (ρ:=ρ) (t:=t) (λi=>some (i*N.size,N.size)) (by
        intro i y hy;unfold fA at hy;rw[b] at hy;simp[j,hi] at hy
        simp[hy]) parts pv _ _ z K H I l
       refine⟨.agg ws,?_,by simpa using fx.agg (vs:=ws.toList) u A⟩;unfold Instr.build;simp only[gl,D,jr,run_underlying hu,sizeOf,typeInfo,program,Sem.run,hi,oI,Value.cells,s]
end
end Go.kQ
namespace Go.kQ
open Go
def vF(P:Program):List Field->List AV->List AV->Option Bool
 |[],_,_=>some true|f::fs,xs,ys=>
  if f.name= "_" then vF P fs xs ys else
  match P.underlying f.type,lH P f.type xs f.offset,lH P f.type ys f.offset with
  |some (.int _),some (.sc (.int k a)),some (.sc (.int k' b))=>if k=k' then(vF P fs xs ys).map λr=>(a==b)&&r else none|some .string,some (.sc (.string a)),some (.sc (.string b))=>(vF P fs xs ys).map λr=>(a.toList==b.toList)&&r|some .bool,some (.sc (.bool a)),some (.sc (.bool b))=>(vF P fs xs ys).map λr=>(a==b)&&r|_,_,_=>none
def aeE(P:Program)(t:TypeId):Bool:=!P.eqGuardType P.depth t&&!P.stoodInHeld t
def Ju(P:Program)(t:TypeId)(xs a:List AV):Option Bool:=
 match P.underlying t with
 |some (.struct b)=>if aeE P t then vF P b.toList xs a else none|_=>none
def kK(P:Program)(op:BinOp)(t:TypeId)(x y:AV):Option AV:=
 match op,x,y with
 |.eql,.agg xs,.agg a=>(Ju P t xs a).map λb=>.sc (.bool b)|.neq,.agg xs,.agg a=>(Ju P t xs a).map λb=>.sc (.bool (!b))|op,x,y=>ot P op t x y
def FL(P:Program)(op:BinOp)(t:TypeId):Operand->AV->AV->Option AV
 |.const .nilIface,.sc .nilIface,_=>match op,P.underlying t with
  |.eql,some (.interface _)=>some (.sc (.bool true))|.neq,some (.interface _)=>some (.sc (.bool false))|_,_=>none
 |_,u,v=>kK P op t u v
def A8:List AV->Option (List Int)
 |[]=>some []|.sc (.int .u8 n)::l=>(A8 l).map (n:: ·)|_::_=>none
def UI(P:Program)(s d:TypeId)(l:List AV):Option AV:=
 match P.underlying s,P.underlying d with
 |some (.slice e),some .string=>match P.underlying e,A8 l with
  |some (.int .u8),some a=>some (.sc (.string (strOfNums a)))|_,_=>none
 |_,_=>none
def Qh(P:Program)(s d:TypeId)(x:AV):Option AV:=
 match P.underlying s,P.underlying d,x with
 |some _,some (.int k),.sc (.int _ n)=>some (.sc (.int k (k.wrap n)))|some _,some .string,.sc (.string b)=>some (.sc (.string b))|_,_,_=>none
def BH(P:Program)(s d:TypeId)(x:AV):Option AV:=
 match x with
 |.slice _ l=>UI P s d l|x=>Qh P s d x
def B1(P:Program)(t:TypeId)(x:AV):Option AV:=
 match P.underlying t,x with
 |some (.slice _),.slice _ l=>some (.sc (.int .i64 l.length))|some (.slice _),.vM _ _ len _=>some (.sc (.int .i64 len))|some (.slice _),.Oi=>some (.sc (.int .i64 0))|some (.slice _),.qY _ _ len _=>some (.sc (.int .i64 len))|some .string,.sc (.string s)=>some (.sc (.int .i64 s.size))|some (.array n _),_=>some (.sc (.int .i64 n))|_,_=>none
def QO:AV->AV->Option AV
 |.sc (.int k a),.sc (.int _ b)=>some (.sc (.int k (if b>a then b else a)))|_,_=>none
def WM:AV->AV->Option AV
 |.sc (.int k a),.sc (.int _ b)=>some (.sc (.int k (if b<a then b else a)))|_,_=>none
def JB(f:AV->AV->Option AV):AV->List AV->Option AV
 |x,[]=>some x|x,y::l=>(f x y).bind λz=>JB f z l
def vw(P:Program)(T:dt)(fr:Fr)(c:Call):Option AV:=
 match c.callee with
 |.builtin .len=>match c.argTypes[0]?,c.args[0]?with
  |some t,some x=>B1 P t (ev T fr x)|_,_=>none
 |.builtin .max=>match c.args.toList with
  |x::l=>JB QO (ev T fr x) (l.map (ev T fr))|[]=>none
 |.builtin .min=>match c.args.toList with
  |x::l=>JB WM (ev T fr x) (l.map (ev T fr))|[]=>none
 |_=>none
def Kx(P:Program)(t:TypeId)(x:AV):Option AV:=
 match x with
 |.iface a v=>match P.underlying t with
  |some (.interface _)=>none|some _=>if a=t then some (.tuple [v,.sc (.bool true)])else match zeroOf P t with
   |some z=>if xk z then some (.tuple [ofValue z,.sc (.bool false)])else none|none=>none
  |none=>none
 |_=>none
def xq(P:Program)(T:dt)(fr:Fr)(o:Oper):Option AV:=
 match o.op with
 |.typeAssert x _ t true=>Kx P t (ev T fr x)|.move x=>some (ev T fr x)|.assign x=>some (ev T fr x)|.pick c a b=>match ev T fr c with
  |.sc (.bool t)=>some (if t then ev T fr a else ev T fr b)|_=>none
 |.build t ps=>Dj P t (ps.toList.map λp=>(p.1,ev T fr p.2))|.binOp op t x y _=>FL P op t y (ev T fr x) (ev T fr y)|.unOp op _ x=>unA op (ev T fr x)|.convert s d x=>BH P s d (ev T fr x)|.makeFunc fn f c=>some (.func fn (f.toList.map λx=>(ev T fr x).norm) (c.toList.map λx=>(ev T fr x).norm))|.fieldAddr t x i=>qt P t (ev T fr x) i|.field t x i=>Be P t (ev T fr x) i|.indexAddr t x i=>ft P t (ev T fr x) (ev T fr i)|.index t x i=>P9 P t (ev T fr x) (ev T fr i)|.slice t x lo hi h=>la P t (ev T fr x) (lo.map (ev T fr)) (hi.map (ev T fr)) (h.map (ev T fr))|.extract x i=>match ev T fr x with
  |.tuple vs=>vs[i]?|_=>none
 |.nilCheck x=>match ev T fr x with
  |.func (.func f) a b=>some (.func (.func f) a b)|x=>if BS x then some x else none
 |.makeInterface t x=>if P.concrete t then some (.iface t (ev T fr x).norm)else none|.call c=>vw P T fr c|_=>none
section
variable{P:Program} {T:dt} {F:jo} {ρ:Maps} {fr:Fr} {a:Act}
def NO(w:World){t k:TypeId}{x r:AV}{u:Value}(h:Kx P t x=some r)(o:fx F ρ x u):∃v,(Instr.typeAssert u k t true).run P w=.ok v w/\fx F ρ r v:=by
 unfold Kx at h
 split at h
 .rename_i c v
  obtain⟨b,rfl,q⟩:∃b,u=.iface c b/\fD F ρ.G ρ.n v b:=by
   cases o with
   |cell h=>cases h with
    |p h=>cases h with|iface h=>exact⟨_,rfl,h⟩
  split at h
  .cases h
  .rename_i ty d hu
   have l:(Instr.typeAssert (.iface c b) k t true).run P w=(if c=t then(pure (.tuple #[b,.bool true]):Sem Value)else do pure (.tuple #[<-zeroValue t,.bool false])).run P w:=by
    unfold Instr.typeAssert;simp only[gl,run_underlying hu,jr]
    cases ty<;>first|rfl|exact absurd rfl (d _)
   split at h
   .rename_i e;subst e;cases h;refine⟨_,by rw[l,cS rfl];rfl,.p ?_⟩;exact .tuple (vs:=[b,.bool true]) (.cons q (.cons (.sc rfl) .nil))
   .rename_i f
    split at h
    .rename_i z a
     split at h
     .rename_i s;cases h;refine⟨.tuple #[z,.bool false],?_,.p ?_⟩
      .rw[l,cO f]
       have j:(zeroValue t).run P w=.ok z w:=by
        unfold zeroOf at a;cases hi:P.info? t with
        |none=>rw[hi] at a;cases a
        |some i=>
         rw[hi] at a;have a:i.zero=some z:=a;simp[zeroValue,typeInfo,hi,a]
       simp only[gl,j,jr];rfl
      .exact .tuple (vs:=[z,.bool false]) (.cons (xH _ _ _ z s) (.cons (.sc rfl) .nil))
     .cases h
    .cases h
  .cases h
 .cases h
def Fj(he:rX F ρ fr a)(b:xc T F ρ):∀(xs:List Operand),(∀x∈xs,iz x=true)->fV (fx F ρ) (xs.map (ev T fr)) (xs.map a.eval)
 |[],_=>.nil|x::xs,h=>.cons (fG he b x (h x acZ)) (Fj he b xs λy hy=>h y (by simp[hy]))
def FP(he:rX F ρ fr a)(b:xc T F ρ)(xs:List Operand)(h:∀x∈xs,iz x=true):fI F ρ.G ρ.n (xs.map λx=>(ev T fr x).norm) (xs.map a.eval):=by
 have:=(Fj he b xs h).vX AV.norm λ_ _ _ h=>fx.norm h;rw[Qy] at this;exact .oC this
def Gs(he:rX F ρ fr a)(b:xc T F ρ):∀(ps:List (Nat×Operand)),(∀p∈ps,iz p.2=true)->fV (λ(x:Nat×AV) (y:Nat×Value)=>x.1=y.1/\fx F ρ x.2 y.2) (ps.map λp=>(p.1,ev T fr p.2)) (ps.map λp=>(p.1,a.eval p.2))
 |[],_=>.nil|p::ps,h=>.cons ⟨rfl,fG he b p.2 (h p acZ)⟩ (Gs he b ps λq c=>h q (by simp[c]))
def Qu(he:rX F ρ fr a)(b:xc T F ρ)(x:Option Operand)(h:∀y,x=some y->iz y=true):yk F ρ (x.map (ev T fr)) (x.map a.eval):=by
 cases x with
 |none=>trivial|some y=>exact fG he b y (h y rfl)
def Mf{v:Value}(h:fx F ρ .Oi v):∃base,v=.slice base 0 0:=by
 cases h with
 |cell h=>cases h with
  |p h=>cases h with|Oi=>exact⟨_,rfl⟩
def T0(w:World){t ty:TypeId}{x r:AV}{u:Value}(h:B1 P t x=some r)(a:fx F ρ x u){ts:Array TypeId}{us:Array Value}(c:ts[0]?=some t)(d:us[0]?=some u):∃v,(Builtin.len_ ts ty us).run P w=.ok v w/\fx F ρ r v:=by
 unfold B1 at h;unfold Builtin.len_;simp only[c,d]
 split at h
 .rename_i e tag l hu;cases h;obtain⟨base,cap,b,o,sz,vs,rfl,hs,_,_⟩:=mJ a;exact⟨_,by simp only[gl,run_underlying hu,jr];rfl,.p (.sc rfl)⟩
 .rename_i e b g len cap hu;cases h;obtain⟨rfl,_,_,_⟩:=yx a;exact⟨_,by simp only[gl,run_underlying hu,jr];rfl,.p (.sc rfl)⟩
 .rename_i e hu;cases h;obtain⟨base,rfl⟩:=Mf a;exact⟨_,by simp only[gl,run_underlying hu,jr];rfl,.p (.sc rfl)⟩
 .rename_i e b len cap hu;cases h;obtain⟨rfl,_,_,_⟩:=CJ a;exact⟨_,by simp only[gl,run_underlying hu,jr];rfl,.p (.sc rfl)⟩
 .rename_i s hu;cases h;cases e_ a;exact⟨_,by simp only[gl,run_underlying hu,jr];rfl,.p (.sc rfl)⟩
 .rename_i n e hu;cases h;exact⟨_,by simp only[gl,run_underlying hu,jr];rfl,.p (.sc rfl)⟩
 .cases h
def JV(w:World){f:AV->AV->Option AV}{g:Value->Value->Sem Value}(d:∀x y r u v,f x y=some r->fx F ρ x u->fx F ρ y v->∃z,(g u v).run P w=.ok z w/\fx F ρ r z):∀(l:List AV) (x r:AV) (u:Value) (us:List Value),JB f x l=some r->fx F ρ x u->fV (fx F ρ) l us->∃z,(us.foldlM g u).run P w=.ok z w/\fx F ρ r z:=by
 intro l
 induction l with
 |nil=>
  intro x r u us h a b;cases b;cases h;exact⟨u,rfl,a⟩
 |cons y l ih=>
  intro x r u us h a b;cases b with
  |cons i j=>
   simp only[JB,ab2] at h;obtain⟨z,k,h⟩:=h;obtain⟨s,n,c⟩:=d _ _ _ _ _ k a i;obtain⟨t,o,q⟩:=ih _ _ _ _ h c j
   simp_all
def UX(w:World)(x y r:AV)(u v:Value)(h:QO x y=some r)(a:fx F ρ x u)(hy:fx F ρ y v):∃z,(Builtin.max2 u v).run P w=.ok z w/\fx F ρ r z:=by
 unfold QO at h
 split at h
 .cases e_ a;cases e_ hy;cases h;exact⟨_,rfl,.p (.sc rfl)⟩
 .cases h
def Wu(w:World)(x y r:AV)(u v:Value)(h:WM x y=some r)(a:fx F ρ x u)(hy:fx F ρ y v):∃z,(Builtin.min2 u v).run P w=.ok z w/\fx F ρ r z:=by
 unfold WM at h
 split at h
 .cases e_ a;cases e_ hy;cases h;exact⟨_,rfl,.p (.sc rfl)⟩
 .cases h
def Qv(w:World){xs j:List AV}{us vs:List Value}(s:fV (iF F ρ) xs us)(o1:∀c∈xs,c.fL=true)(t:fV (iF F ρ) j vs)(o2:∀c∈j,c.fL=true):∀(d:List Field) (b:Bool),vF P d xs j=some b->(Op.eqFields 9999 us.toArray vs.toArray d).run P w=.ok b w:=by
 intro d
 induction d with
 |nil=>intro b h;simp[vF] at h;subst h;rfl
 |cons f d ih=>
  intro b h;unfold vF at h;unfold Op.eqFields
  split at h
  .rename_i hn;rw[cO (by simpa using hn)];exact ih b h
  .rename_i hn;rw[cS (by simpa using hn)]
   have step:∀{x y:Value} {r:Bool},lH P f.type xs f.offset=some (.sc x)->lH P f.type j f.offset=some (.sc y)->(Op.equalIn 9999 f.type x y).run P w=.ok r w->(vF P d xs j).map (λq=>r&&q)=some b->(do
      let a<-part f.type us.toArray f.offset
      let b<-part f.type vs.toArray f.offset
      let r<-Op.equalIn 9999 f.type a b
      if(!r) then pure false else Op.eqFields 9999 us.toArray vs.toArray d:Sem Bool).run P w=.ok b w:=by
    intro x y r i hy u n;obtain⟨H,v,A⟩:=B6 (P:=P) w s o1 i;obtain⟨I,B,C⟩:=B6 (P:=P) w t o2 hy;obtain rfl:=e_ A;obtain rfl:=e_ C;simp only[gl,v,B,u,jr];cases o:vF P d xs j with
    |none=>rw[o] at n;cases n
    |some q=>
     rw[o] at n;simp only[Ym,u9] at n;cases r
     all_goals simp_all
   split at h
   .rename_i k D a k2 l hu i hy
    split at h
    .rename_i G;subst G;exact step i hy (run_equalIn_int w 9998 f.type D k a l hu) h
    .cases h
   .rename_i a l hu i hy;exact step i hy (run_equalIn_string w 9998 f.type a l hu) h
   .rename_i a l hu i hy;exact step i hy (run_equalIn_bool' w 9998 f.type a l hu) h
   .cases h
def Rv(P:Program)(w:World){t:TypeId}{ms:Array (String×TypeId)}(hu:P.underlying t=some (.interface ms)):(binOp .eql t .nilIface .nilIface).run P w=.ok (.bool true) w/\(binOp .neq t .nilIface .nilIface).run P w=.ok (.bool false) w:=by
 have h:∀d,(Op.equalIn (d+1) t .nilIface .nilIface).run P w=.ok true w:=λd=>by simp[Op.equalIn,run_underlying hu]
 have a:binOp .eql t .nilIface .nilIface=(do pure (.bool (<-Op.equalIn (9999+1) t .nilIface .nilIface))):=rfl;have b:binOp .neq t .nilIface .nilIface=(do pure (.bool (!(<-Op.equalIn (9999+1) t .nilIface .nilIface)))):=rfl;rw[a,b,gl,gl,h 9999];exact⟨rfl,rfl⟩
def V5(w:World){op:BinOp}{t:TypeId}{x y r:AV}{u v:Value}(h:kK P op t x y=some r)(f:fx F ρ x u)(hy:fx F ρ y v):∃z,(binOp op t u v).run P w=.ok z w/\r=.sc z/\vU z=true/\∀a b,(eqGuard op t a b u v).run P w=.ok () w:=by
 have agg:∀{xs k:List AV} {b:Bool},Ju P t xs k=some b->fx F ρ (.agg xs) u->fx F ρ (.agg k) v->∃us vs:List Value,u=.agg us.toArray/\v=.agg vs.toArray/\(Op.equalIn (9999+1) t u v).run P w=.ok b w/\P.eqGuardType P.depth t=false:=by
  intro xs k b c f hy;obtain⟨us,rfl,u1,u2⟩:=B7 f;obtain⟨vs,rfl,v1,v2⟩:=B7 hy;unfold Ju at c
  split at c
  .rename_i o hu
   split at c
   .rename_i d;simp only[aeE,fK,Yy] at d
    have n:P.fieldsOf t=o:=by simp[Program.fieldsOf,hu]
    refine⟨us,vs,rfl,rfl,?_,d.1⟩;rw[run_equalIn_struct w 9999 t us.toArray vs.toArray (by rw[n];exact hu) d.2,n];exact Qv w u1 u2 v1 v2 _ _ c
   .cases c
  .cases c
 unfold kK at h
 split at h
 .cases c:Ju P t _ _ with
  |none=>rw[c] at h;cases h
  |some b=>
   rw[c] at h;cases h;obtain⟨us,vs,rfl,rfl,i,j⟩:=agg c f hy;refine⟨.bool b,?_,rfl,rfl,λa b=>?_⟩
   .have l:binOp .eql t (.agg us.toArray) (.agg vs.toArray)=(do pure (.bool (<-Op.equalIn (9999+1) t (.agg us.toArray) (.agg vs.toArray)))):=rfl;rw[l,gl,i];rfl
   .simp[eqGuard,j,Result.andThen]
 .cases c:Ju P t _ _ with
  |none=>rw[c] at h;cases h
  |some b=>
   rw[c] at h;cases h;obtain⟨us,vs,rfl,rfl,i,j⟩:=agg c f hy;refine⟨.bool !b,?_,rfl,rfl,λa b=>?_⟩
   .have l:binOp .neq t (.agg us.toArray) (.agg vs.toArray)=(do pure (.bool (!(<-Op.equalIn (9999+1) t (.agg us.toArray) (.agg vs.toArray))))):=rfl;rw[l,gl,i];rfl
   .simp[eqGuard,j,Result.andThen]
 .obtain⟨z,i,j,q,s⟩:=SZ P w h f hy;exact⟨z,i,j,q,λa b=>L8 P w op t a b s⟩
def Ej{G:Nat->Nat}{n:Nat}:∀{a:List Int} {vs:List Value},fI F G n (a.map (λn=>AV.sc (.int .u8 n))) vs->vs=a.map (Value.int .u8)
 |[],_,.nil=>rfl|n::a,_,.cons b c=>by
  cases b;rw[Ej c];rfl
def Cq:∀{l:List AV} {a:List Int},A8 l=some a->l.flatMap AV.cells=a.map (λn=>AV.sc (.int .u8 n))/\l.length=a.length
 |[],a,h=>by grind[A8]|x::l,a,h=>by
  unfold A8 at h
  split at h
  .rename_i e;cases e
  .simp only[Y7] at h;obtain⟨ms,b,rfl⟩:=h;obtain⟨i1,i2⟩:=Cq b
   grind[AV.cells]
  .cases h
def Ba(w:World)(K:∀b o v,F b o=some v->w.cell? ⟨b,o,none⟩=some v)(he:rX F ρ fr a)(n:xc T F ρ){o:Oper}{r:AV}(L:o.op.operands.all iz=true)(h:xq P T fr o=some r):∃v,(execOp a.eval o).run P w=.ok (.value v) w/\fx F ρ r v:=by
 obtain⟨dst,op,type,pos,after,guard⟩:=o;have j:∀x∈op.operands,iz x=true:=λx k=>I3.1 L x k;clear L
 have lift:∀{s:Sem Value},(∃v,s.run P w=.ok v w/\fx F ρ r v)->∃v,((do pure (.value (<-s))):Sem Next).run P w=.ok (.value v) w/\fx F ρ r v:=by
  rintro s ⟨v,C,G⟩;exact⟨v,by rw[gl,C];rfl,G⟩
 cases op<;>simp only[xq] at h<;>simp only[Op.operands] at j<;>simp only[execOp]
 case move x=>cases h;exact⟨_,rfl,fG he n x (j x acZ)⟩
 case assign x=>cases h;exact⟨_,rfl,fG he n x (j x acZ)⟩
 case pick c x y=>
  split at h
  .rename_i t A;cases h;have M:=fG he n c (j c acZ);rw[A] at M;have O:=e_ M;refine⟨if t then a.eval x else a.eval y,?_,?_⟩
   .rw[O];rfl
   .cases t
    .exact fG he n y (j y acZ)
    .exact fG he n x (j x acZ)
  .cases h
 case build t ps=>
  refine lift ?_;have D:=Gs he n ps.toList λp D=>j p.2 (by simp;exact⟨p.1,by simpa using D⟩);have:=run_build (P:=P) w h D
  have e:(ps.toList.map λp=>(p.1,a.eval p.2)).toArray=ps.map λp=>(p.1,a.eval p.2):=by rw[<-Mu,S0]
  rw[e] at this;exact this
 case binOp op t x y t'=>
  obtain⟨z,B,H,Q,R⟩:∃z,(binOp op t (a.eval x) (a.eval y)).run P w=.ok z w/\r=.sc z/\vU z=true/\(eqGuard op t x y (a.eval x) (a.eval y)).run P w=.ok () w:=by
   have k:=fG he n x (j x acZ);have hy:=fG he n y (j y acZ);change FL P op t y (ev T fr x) (ev T fr y)=some r at h;generalize ev T fr x=u at h k;generalize ev T fr y=v at h hy;unfold FL at h
   split at h
   .have k:=e_ k;rw[k]
    split at h
    .rename_i hu;cases h;exact⟨.bool true,(Rv P w hu).1,rfl,rfl,by simp[eqGuard,Act.eval]⟩
    .rename_i hu;cases h;exact⟨.bool false,(Rv P w hu).2,rfl,rfl,by simp[eqGuard,Act.eval]⟩
    .cases h
   .obtain⟨z,B,H,Q,R⟩:=V5 (P:=P) w h k hy;exact⟨z,B,H,Q,R _ _⟩
  subst H;refine⟨z,?_,.p (.sc Q)⟩;simp only[gl,R,jr,B];rfl
 case unOp op t x=>
  refine lift ?_;have k:=fG he n x (j x acZ);generalize a.eval x=u at k|-;unfold unA at h
  split at h
  .rename_i A;rw[A] at k;cases e_ k;cases h;exact⟨_,by simp[Op.unary,Op.intArith],.p (.sc rfl)⟩
  .rename_i A;rw[A] at k;cases e_ k;cases h;exact⟨_,by simp[Op.unary],.p (.sc rfl)⟩
  .cases h
 case convert s d x=>
  refine lift ?_;have k:=fG he n x (j x acZ);generalize a.eval x=u at k|-;unfold BH at h
  split at h
  .rename_i tag l A;unfold UI at h
   split at h
   .rename_i e hs I
    split at h
    .rename_i N hu S;cases h;rw[A] at k;obtain⟨W,hlen⟩:=Cq S;obtain⟨base,cap,b,o,sz,vs,rfl,J,_,_⟩:=mJ k;refine⟨.string (strOfNums N),?_,.p (.sc rfl)⟩
     have U:vs=N.map (Value.int .u8):=by
      have D:=J.cells;rw[W] at D;exact Ej D
     by_cases hn:l=[]
     .subst hn;have V:N=[]:=Ar (by simpa using hlen.symm);subst V;cases base with
      |none=>exact run_convert_bytes_nil w s e hs hu 0 cap d I|some X=>
       obtain⟨ab,Y,Z⟩:=X;show(convert s d (.slice (some ⟨ab,Y,Z⟩) 0 cap)).run P w=_;rw[run_convert_bytes_string w s d e _ 0 cap hs hu I,run_bytesToString w _ 0 cap [] (by simp[loadCells,loadCellsFrom])];rfl
     .rw[J.base hn];refine run_convert_bytes_arg w s e hs hu b o l.length cap N hlen.symm (λi hi=>?_) d I;refine K b (o+i) _ (J.has i _ ?_);rw[U,yA,l9 VW];simp[List.getD,l9 (show i<N.length by omega)]
    .cases h
   .cases h
  .unfold Qh at h
   split at h
   .rename_i hs I A;rw[A] at k;cases e_ k;cases h;refine⟨_,?_,.p (.sc rfl)⟩;unfold convert;simp only[gl,run_underlying hs,run_underlying I,jr];rfl
   .rename_i hs I A;rw[A] at k;cases e_ k;cases h;refine⟨_,?_,.p (.sc rfl)⟩;unfold convert;simp only[gl,run_underlying hs,run_underlying I,jr];rfl
   .cases h
 case makeFunc fn f c=>
  cases h;refine lift ⟨.func fn (f.map a.eval) (c.map a.eval),rfl,?_⟩;have B:=FP he n f.toList λx k=>j x (by simp[wD.1 k]);have H:=FP he n c.toList λx k=>j x (by simp[wD.1 k]);have:=fD.func (fn:=fn) B H
  have e:∀l:Array Operand,(l.toList.map a.eval).toArray=l.map a.eval:=λl=>by rw[<-Mu,S0]
  rw[e,e] at this;exact .p this
 case fieldAddr t x i=>exact lift (HK w h (fG he n x (j x acZ)))
 case field t x i=>exact lift (Tg w h (fG he n x (j x acZ)))
 case indexAddr t x i=>exact lift (HZ w h (fG he n x (j x acZ)) (fG he n i (j i acZ)))
 case index t x i=>exact lift (Ss w h (fG he n x (j x acZ)) (fG he n i (j i acZ)))
 case slice t x lo hi mx=>
  exact lift (RX w h (fG he n x (j x acZ)) (Qu he n lo λy hy=>j y (by simp[hy])) (Qu he n hi λy hy=>j y (by simp[hy]))
   (Qu he n mx λy hy=>j y (by simp[hy])))
 case extract x i=>
  refine lift ?_;have k:=fG he n x (j x acZ)
  split at h
  .rename_i vs A;rw[A] at k;obtain⟨us,hu,G⟩:=P8 k;obtain⟨v,C,D⟩:=G.get h;refine⟨v,?_,.p D⟩;rw[hu];simp[Instr.extract,C]
  .cases h
 case nilCheck x=>
  have k:=fG he n x (j x acZ)
  split at h
  .rename_i f b c A;cases h;rw[A] at k;obtain⟨vf,vc,C,_,_⟩:=zN k;refine⟨a.eval x,?_,k⟩;rw[C];rfl
  .rename_i A
   split at h
   .rename_i D;cases h;obtain⟨b,S⟩:=DJ D k;refine⟨a.eval x,?_,k⟩;rw[S];rfl
   .cases h
 case makeInterface t x=>
  refine lift ?_
  split at h
  .rename_i A;cases h;exact⟨_,run_makeInterface w t _ A,.p (.iface (fG he n x (j x acZ)).norm)⟩
  .cases h
 case typeAssert x xt t ok=>
  cases ok with
  |true=>exact lift (NO w h (fG he n x (j x acZ)))|false=>cases h
 case call c=>
  obtain⟨callee,args,argTypes⟩:=c;have q:∀x∈args.toList,iz x=true:=λx k=>j x (by simp[Call.operands,wD.1 k]);simp only[vw] at h
  split at h
  .split at h
   .rename_i t x B H;simp only[resolve,invoke,builtin,gl,oI,jr];have k:x∈args:=Yu H;obtain⟨v,C,G⟩:=T0 (P:=P) (ty:=type) w h (fG he n x (q x (wD.2 k))) B (us:=args.map a.eval) (by simp[H]);exact⟨v,by rw[C];rfl,G⟩
   .cases h
  .split at h
   .rename_i x l B;simp only[resolve,invoke,builtin,gl,oI,jr];obtain⟨v,C,G⟩:=JV w (UX (P:=P) w) _ _ _ _ _ h (fG he n x (q x (by simp[B]))) (Fj he n l λy hy=>q y (by simp[B,hy]));refine⟨v,?_,G⟩
    have e:(args.map a.eval).toList=a.eval x::l.map a.eval:=by simp[B]
    simp only[Builtin.max_,e,C,jr]
   .cases h
  .split at h
   .rename_i x l B;simp only[resolve,invoke,builtin,gl,oI,jr];obtain⟨v,C,G⟩:=JV w (Wu (P:=P) w) _ _ _ _ _ h (fG he n x (q x (by simp[B]))) (Fj he n l λy hy=>q y (by simp[B,hy]));refine⟨v,?_,G⟩
    have e:(args.map a.eval).toList=a.eval x::l.map a.eval:=by simp[B]
    simp only[Builtin.min_,e,C,jr]
   .cases h
  .cases h
 all_goals cases h
end
end Go.kQ
namespace Go.kQ
open Go
def O2(a:Nat×Nat)(n:Nat):Prop:=a=(0,0)\/n<=a.1
inductive kD (F:jo) (G:Nat->Nat) (n:Nat):List AV->Obj->Prop
 |cells {cs vs ty fz}:O2 fz vs.size->fV (fD F G n) cs vs.toList->(∀c∈cs,c.fL=true)->kD F G n cs (.cells vs ty fz)|map {ks xs es clock}:es.toList.map (·.key)=ks->fV (fD F G n) xs (es.toList.map (·.val))->es.toList.map (·.born)=List.range ks.length->clock=ks.length->ks.Nodup->kD F G n [.sW ks xs] (.map es clock)|iter {o since seen}:o<n->kD F G n [.lU o since seen] (.mapIter (some (G o)) since seen.toArray since)|dead {ob}:kD F G n [] ob
def kD.grow{F F':jo}{G G':Nat->Nat}{n n':Nat}(hg:Grow F F' G G' n n'){cs ob}(h:kD F G n cs ob):kD F' G' n' cs ob:=by
 cases h with
 |cells c a b=>exact .cells c (a.mono λ_ _ _ h=>h.grow hg) b|map a b d f i=>exact .map a (b.mono λ_ _ _ h=>h.grow hg) d f i|iter h=>rw[<-hg.mG _ h];exact .iter (R0 h hg.mn)|dead=>exact .dead
def qF:List AV->Bool
 |[]=>false|c::_=>c.fL
def kD.Cz{F:jo}{G:Nat->Nat}{n:Nat}{cs ob}(h:kD F G n cs ob)(b:qF cs=true):∃vs ty a,ob=.cells vs ty a/\O2 a vs.size/\fV (fD F G n) cs vs.toList/\∀c∈cs,c.fL=true:=by
 cases h with
 |cells d f i=>grind|map=>grind[qF,AV.fL]|iter=>grind[qF,AV.fL]|dead=>grind[qF]
def GV(vs:Array Value):Prop:=∀u∈vs.toList,u.oneCell'=true
structure GW (T:dt) (G:Nat->Nat) (F:jo) (H:cZ) (w:World):Prop where
 BQ:∀b o v,F b o=some v->w.cell? ⟨b,o,none⟩=some v
 j2:∀o cs,H[o]?=some cs->∃ob,w.heap[G o]?=some ob/\kD F G H.length cs ob
 inj:∀o o',o<H.length->o'<H.length->G o=G o'->o=o'
 gF:∀o j,o<H.length->H[o]?≠some []->F (G o) j=none
 fresh:∀b j,w.heap.size<=b->F b j=none
 x':∀g x,T g=some x->fD F G H.length (.lD x) (.pointer (some ⟨g,0,none⟩))
 row:(∀g,T g=none)->∀b o v,F b o=some v->∃vs ty fz,w.heap[b]?=some (.cells vs ty fz)/\O2 fz vs.size/\GV vs
structure Ext (B:Nat) (G:Nat->Nat) (F:jo) (n:Nat) (w:World) (G':Nat->Nat) (F':jo) (n':Nat) (w':World):Prop where
 os:w'.os=w.os
 tape:w'.tape=w.tape
 output:w'.output=w.output
 size:w.heap.size<=w'.heap.size
 len:n<=n'
 hG:∀o,o<n->G' o=G o
 Ih:∀o,n<=o->o<n'->B<=G' o
 hF:∀b j,b<B->(∀o,o<n->G o≠b)->F' b j=F b j
 mF:∀b j v,b<B->F b j=some v->F' b j=some v
 heap:∀b,b<B->(∀o,o<n->G o≠b)->w'.heap[b]?=w.heap[b]?
section
variable{B B':Nat} {G G' G'':Nat->Nat} {F F' F'':jo} {n n' n'':Nat} {w w' w'':World}
theorem Ext.refl:Ext B G F n w G F n w:=⟨rfl,rfl,rfl,gV _,gV _,λ_ _=>rfl,λ_ h a=>absurd a VW,λ_ _ _ _=>rfl,λ_ _ _ _ h=>h,λ_ _ _=>rfl⟩
def Ext.trans(h:Ext B G F n w G' F' n' w')(k:Ext B G' F' n' w' G'' F'' n'' w''):Ext B G F n w G'' F'' n'' w'' where
 os:=k.os.trans h.os
 tape:=k.tape.trans h.tape
 output:=k.output.trans h.output
 size:=AK h.size k.size
 len:=AK h.len k.len
 hG o c:=(k.hG o (R0 c h.len)).trans (h.hG o c)
 Ih o d f:=by
  rcases s8 o n' with h3|h3
  .rw[k.hG o h3];exact h.Ih o d h3
  .exact k.Ih o h3 f
 hF b j a hg:=by
  refine(k.hF b j a λo c=>?_).trans (h.hF b j a hg);rcases s8 o n with h3|h3
  .rw[h.hG o h3];exact hg o h3
  .have:=h.Ih o h3 c;omega
 mF b j v a i:=k.mF b j v a (h.mF b j v a i)
 heap b a hg:=by
  refine(k.heap b a λo c=>?_).trans (h.heap b a hg);rcases s8 o n with h3|h3
  .rw[h.hG o h3];exact hg o h3
  .have:=h.Ih o h3 c;omega
theorem Ext.mono(h:Ext B G F n w G' F' n' w')(c:B'<=B):Ext B' G F n w G' F' n' w':=
 ⟨h.os,h.tape,h.output,h.size,h.len,h.hG,λo d f=>AK c (h.Ih o d f),λb j a=>h.hF b j VW,λb j v a=>h.mF b j v VW,λb a hg=>h.heap b VW hg⟩
end
inductive np where
 |free|box (d:Nat)|j2|arr (k:Nat)
 deriving DecidableEq
structure WR (T:dt) (n B0:Nat) (ρ:Maps) (F:jo) (R:Nat->np) (fr:Fr) (H:cZ) (a:Act) (w:World):Prop where
 g:GW T ρ.G F H w
 size:a.tmps.size=n
 defers:a.defers=[]
 env:rX F ρ fr a
 hn:ρ.n=H.length
 lg:∀d,ρ.lg d=fr.gen d
 ag:∀k,ρ.ag k=fr.ef k
 box:∀d cs,fr.box d=some cs->B0<=ρ.L d (fr.gen d)/\R (ρ.L d (fr.gen d))=.box d/\(∀c∈cs,c.fL=true)/\∃vs ty,w.heap[ρ.L d (fr.gen d)]?=some (.cells vs ty (0,0))/\fV (iF F ρ) cs vs.toList
 tok:∀k m,fr.qn k=some m->∀b c sz,ρ.A k (fr.ef k)=some (b,c,sz)->B0<=b/\R b=.arr k/\(0<m/\m<=c)/\c<=maxLen/\(∃vs ty,w.heap[b]?=some (.cells vs ty (0,0))/\vs.size=c*sz/\GV vs)/\∀j,m*sz<=j->F b j=none
 qN:∀b j v,F b j=some v->∀d,R b≠ .box d
 ni:∀o,o<H.length->R (ρ.G o)=.j2
 k9:∀b,w.heap.size<=b->R b=.free
 qq:B0<=w.heap.size
section
variable{T:dt} {n B0:Nat} {ρ ρ':Maps} {F F':jo} {R:Nat->np} {fr:Fr} {H:cZ} {a:Act} {w w':World}
def WR.gy(h:WR T n B0 ρ F R fr H a w):xc T F ρ:=λg x b=>by rw[h.hn];exact h.g.x' g x b
def WR.aeH(h:WR T n B0 ρ F R fr H a w){b j:Nat}{v:Value}(c:F b j=some v):b<w.heap.size:=by
 rcases s8 b w.heap.size with h'|h'
 .exact h'
 .rw[h.g.fresh b j h'] at c;cases c
theorem Fr.sj(fr:Fr)(d:Option Nat)(x:AV)(t:Nat):(fr.put d x).env t=if d=some t then x else fr.env t:=by
 cases d with
 |none=>simp[Fr.put]|some d=>
  simp only[Fr.put,fP]
  grind
theorem Fr.vV(fr:Fr)(d:Option Nat)(x:AV):(fr.put d x).box=fr.box/\(fr.put d x).gen=fr.gen/\(fr.put d x).qn=fr.qn/\(fr.put d x).ef=fr.ef:=by
 cases d<;>exact⟨rfl,rfl,rfl,rfl⟩
def MY(a:Act)(d:Option Nat)(v:Value)(t:Nat)(c:∀b,d=some b->b<a.tmps.size):(a.put d v).tmps.getD t undef=if d=some t then v else a.tmps.getD t undef:=by
 cases d with
 |none=>simp[Act.put]|some d=>
  simp only[Act.put,M7]
  grind
theorem rX.put(he:rX F ρ fr a){d:Option Nat}(c:∀b,d=some b->b<a.tmps.size){x:AV}{v:Value}(f:fx F ρ x v):rX F ρ (fr.put d x) (a.put d v):=by
 intro t;rw[Fr.sj,MY a d v t c]
 split
 .exact f
 .exact he t
def CI(a:Act)(d:Option Nat)(v:Value):(a.put d v).tmps.size=a.tmps.size:=by cases d<;>simp[Act.put]
def put_defers(a:Act)(d:Option Nat)(v:Value):(a.put d v).defers=a.defers:=by cases d<;>rfl
theorem WR.put(h:WR T n B0 ρ F R fr H a w){d:Option Nat}(i:∀b,d=some b->b<n){x:AV}{v:Value}(j:fx F ρ x v):WR T n B0 ρ F R (fr.put d x) H (a.put d v) w:=by
 obtain⟨k,c,l,f⟩:=Fr.vV fr d x;refine⟨h.g,by rw[CI];exact h.size,by rw[put_defers];exact h.defers,h.env.put (by rw[h.size];exact i) j,h.hn,?_,?_,?_,?_,h.qN,h.ni,h.k9,h.qq⟩
 .rw[c];exact h.lg
 .rw[f];exact h.ag
 .rw[k,c];exact h.box
 .rw[l,f];exact h.tok
def WR.drew(h:WR T n B0 ρ F R fr H a w):WR T n B0 ρ F R fr H a w.drew:=
 ⟨⟨h.g.BQ,h.g.j2,h.g.inj,h.g.gF,h.g.fresh,h.g.x',h.g.row⟩,h.size,h.defers,h.env,h.hn,h.lg,h.ag,h.box,h.tok,h.qN,h.ni,h.k9,h.qq⟩
def ou{w:World}{b:Nat}{o:Obj}(h:w.heap[b]?=some o):b<w.heap.size:=(MT.1 h).1
def WR.alloc(h:WR T n B0 ρ F R fr H a w)(o:Obj):WR T n B0 ρ F R fr H a (w.alloc o):=by
 have hs:(w.alloc o).heap.size=w.heap.size+1:=World.size_alloc w o;refine⟨⟨?_,?_,h.g.inj,h.g.gF,?_,h.g.x',?_⟩,h.size,h.defers,h.env,h.hn,h.lg,h.ag,?_,?_,h.qN,h.ni,?_,by have:=h.qq;omega⟩
 .intro b j v q;rw[World.cell?_alloc_lt w o ⟨b,j,none⟩ (h.aeH q)];exact h.g.BQ b j v q
 .intro ob cs x;obtain⟨r,f,i⟩:=h.g.j2 ob cs x;exact⟨r,(heap_alloc_old w o (ou f)).trans f,i⟩
 .intro b j y;exact h.g.fresh b j VW
 .intro A b j v q;obtain⟨vs,ty,B,f,i⟩:=h.g.row A b j v q;exact⟨vs,ty,B,(heap_alloc_old w o (ou f)).trans f,i⟩
 .intro d cs C;obtain⟨f,i,s,vs,ty,l,t⟩:=h.box d cs C;exact⟨f,i,s,vs,ty,(heap_alloc_old w o (ou l)).trans l,t⟩
 .intro k m D b c sz G;obtain⟨f,i,s,u,⟨vs,ty,l,t⟩,I⟩:=h.tok k m D b c sz G;exact⟨f,i,s,u,⟨vs,ty,(heap_alloc_old w o (ou l)).trans l,t⟩,I⟩
 .intro b y;exact h.k9 b VW
def rX.grow(he:rX F ρ fr a)(hg:tp F F' ρ ρ'):rX F' ρ' fr a:=λt=>(he t).grow hg
def rH{α:Type}(f:Nat->Nat->α)(i j:Nat)(x:α):Nat->Nat->α:=λa b=>if a=i/\b=j then x else f a b
def WR.Z2(h:WR T n B0 ρ F R fr H a w){b:Nat}{vs:Array Value}{ty:TypeId}{cs:List AV}(O:B0<=b)(r:R b=.free)(hF:∀j,F b j=none)
  (N:w.heap[b]?=some (.cells vs ty (0,0))) (C:fV (iF F ρ) cs vs.toList) (y:∀c∈cs,c.fL=true) {d:Nat} (P:d<n):∃ρ' A,ρ'.G=ρ.G/\WR T n B0 ρ' F A {fr with env:=fP fr.env d (.gv d (fr.gen d+1) 0),box:=fP fr.box d (some cs),gen:=fP fr.gen d (fr.gen d+1)} H
   (a.put (some d) (.pointer (some ⟨b,0,none⟩))) w:=by
 let ρ':Maps:={ρ with L:=rH ρ.L d (fr.gen d+1) b,lg:=fP ρ.lg d (fr.gen d+1)}
 let A:Nat->np:=fP R b (.box d)
 have s:tp F F ρ ρ':=by
  refine⟨.refl,λf=>?_,λf g hg=>?_,λ_=>gV _,λ_ _ _=>rfl⟩
  .show ρ.lg f<=fP ρ.lg d (fr.gen d+1) f;unfold fP
   split
   .rename_i Q;subst Q;rw[h.lg];omega
   .exact gV _
  .show rH ρ.L d (fr.gen d+1) b f g=ρ.L f g;unfold rH;rw[cO];rintro⟨rfl,rfl⟩;rw[h.lg] at hg;omega
 have l:∀i,R i≠ .free->A i=R i:=by
  intro i t;show fP R b (.box d) i=R i;unfold fP;rw[cO];rintro rfl;exact t r
 refine⟨ρ',A,rfl,?_⟩;refine⟨⟨h.g.BQ,h.g.j2,h.g.inj,h.g.gF,h.g.fresh,h.g.x',h.g.row⟩,by rw[CI];exact h.size,by rw[put_defers];exact h.defers,?_,h.hn,?_,h.ag,?_,?_,?_,?_,?_,h.qq⟩
 .have S:=(h.env.grow s).put (d:=some d) (by intro f he;injection he with he;subst he;rw[h.size];exact P) (x:=.gv d (fr.gen d+1) 0) (v:=.pointer (some ⟨b,0,none⟩))
   (by
    have:=iF.gv (F:=F) (ρ:=ρ') (b:=d) (g:=fr.gen d+1) (off:=0) (by show _<=fP ρ.lg d (fr.gen d+1) d;simp[fP])
    have e:ρ'.L d (fr.gen d+1)=b:=by show rH ρ.L d (fr.gen d+1) b d (fr.gen d+1)=b;simp[rH]
    rw[e] at this
    exact .cell this)
  exact S
 .intro f;show fP ρ.lg d (fr.gen d+1) f=fP fr.gen d (fr.gen d+1) f;unfold fP
  split
  .rfl
  .exact h.lg f
 .intro f D q;simp only[fP] at q|-
  by_cases he:f=d
  .subst he;simp only[if_true] at q|-;cases q
   have e:ρ'.L f (fr.gen f+1)=b:=by show rH ρ.L f (fr.gen f+1) b f (fr.gen f+1)=b;simp[rH]
   rw[e];refine⟨O,?_,y,vs,ty,N,C.mono λ_ _ _ h=>h.grow s⟩;show fP R b (.box f) b=.box f;simp[fP]
  .simp only[cO he] at q|-;obtain⟨I,B,J,vs',K,U,V⟩:=h.box f D q
   have e:ρ'.L f (fr.gen f)=ρ.L f (fr.gen f):=by show rH ρ.L d (fr.gen d+1) b f (fr.gen f)=_;simp[rH,he]
   rw[e];exact⟨I,by rw[l _ (by rw[B];simp)];exact B,J,vs',K,U,V.mono λ_ _ _ h=>h.grow s⟩
 .intro k m W i c sz X;obtain⟨I,B,J⟩:=h.tok k m W i c sz X;exact⟨I,by rw[l _ (by rw[B];simp)];exact B,J⟩
 .intro i j v M
  have u:i≠b:=by rintro rfl;rw[hF j] at M;cases M
  have e:A i=R i:=by show fP R b (.box d) i=R i;simp[fP,u]
  rw[e];exact h.qN i j v M
 .intro o Y;have:=h.ni o Y;rw[l _ (by show R (ρ.G o)≠_;rw[this];simp)];exact this
 .intro i t
  have u:i≠b:=by rintro rfl;have:=ou N;omega
  show fP R b (.box d) i=.free;simp only[fP,cO u];exact h.k9 i t
def WR.QL(h:WR T n B0 ρ F R fr H a w){b:Nat}{ob:Obj}{cs:List AV}(i:R b=.free)(hF:∀j,F b j=none)
  (S:w.heap[b]?=some ob) (I:kD F ρ.G ρ.n cs ob):∃ρ' A,(∀o,o<H.length->ρ'.G o=ρ.G o)/\ρ'.G H.length=b/\ρ'.n=H.length+1/\WR T n B0 ρ' F A fr (H++[cs]) a w:=by
 let ρ':Maps:={ρ with G:=fP ρ.G H.length b,n:=H.length+1}
 let A:Nat->np:=fP R b .j2
 have hG:∀o,o<H.length->ρ'.G o=ρ.G o:=by
  intro o f;show fP ρ.G H.length b o=ρ.G o;simp only[fP];rw[cO VW]
 have s:Grow F F ρ.G ρ'.G ρ.n ρ'.n:=⟨λ_ _ _ h=>h,by show ρ.n<=H.length+1;rw[h.hn];omega,λo f=>hG o (by rw[h.hn] at f;exact f)⟩;have B:tp F F ρ ρ':=⟨s,λ_=>gV _,λ_ _ _=>rfl,λ_=>gV _,λ_ _ _=>rfl⟩
 have r:Grow F F ρ.G ρ'.G H.length (H++[cs]).length:=by
  have:=s;rw[h.hn] at this;simpa using this
 have l:∀d,R d≠ .free->A d=R d:=by
  intro d t;show fP R b .j2 d=R d;unfold fP;rw[cO];rintro rfl;exact t i
 have q:ρ'.G H.length=b:=by show fP ρ.G H.length b H.length=b;simp[fP]
 refine⟨ρ',A,hG,q,rfl,?_⟩;refine⟨⟨h.g.BQ,?_,?_,?_,h.g.fresh,λg x U=>(h.g.x' g x U).grow r,h.g.row⟩,h.size,h.defers,h.env.grow B,by show H.length+1=_;simp,h.lg,h.ag,?_,?_,?_,?_,?_,h.qq⟩
 .intro o u f;rcases s8 o H.length with C|hge
  .rw[tJ C] at f;obtain⟨J,h1,h2⟩:=h.g.j2 o u f;rw[hG o C];exact⟨J,h1,h2.grow r⟩
  .have:o=H.length:=by
    have:=(mH.1 f).1;simp at this;omega
   subst this;simp at f;subst f;rw[q];exact⟨ob,S,(by have:=I.grow s;simpa using this)⟩
 .intro o o' f K he;simp at f K
  have key:∀o,o<H.length->ρ'.G o≠b:=by
   intro o f he;rw[hG o f] at he;have:=h.ni o f;rw[he,i] at this;cases this
  rcases s8 o H.length with h1|h1
  .rcases s8 o' H.length with h2|h2
   .rw[hG o h1,hG o' h2] at he;exact h.g.inj o o' h1 h2 he
   .have e:o'=H.length:=VW
    subst e;rw[q] at he;exact absurd he (key o h1)
  .grind
 .intro o j f D;simp at f;rcases s8 o H.length with h1|h1
  .rw[hG o h1];exact h.g.gF o j h1 (by rw[tJ h1] at D;exact D)
  .have e:o=H.length:=VW
   subst e;rw[q];exact hF j
 .intro M u N;obtain⟨h1,h2,O,vs',P,V,W⟩:=h.box M u N;exact⟨h1,by rw[l _ (by show R (ρ.L M (fr.gen M))≠_;rw[h2];simp)];exact h2,O,vs',P,V,W.mono λ_ _ _ h=>h.grow B⟩
 .intro k m X d c sz Y;obtain⟨h1,h2,O⟩:=h.tok k m X d c sz Y;exact⟨h1,by rw[l _ (by rw[h2];simp)];exact h2,O⟩
 .intro d j v Q
  have y:d≠b:=by rintro rfl;rw[hF j] at Q;cases Q
  have e:A d=R d:=by show fP R b .j2 d=R d;simp[fP,y]
  rw[e];exact h.qN d j v Q
 .intro o f;simp at f;rcases s8 o H.length with h1|h1
  .have:=h.ni o h1;rw[hG o h1,l _ (by rw[this];simp)];exact this
  .have e:o=H.length:=VW
   subst e;rw[q];show fP R b .j2 b=.j2;simp[fP]
 .intro d t
  have y:d≠b:=by rintro rfl;have:=ou S;omega
  show fP R b .j2 d=.free;simp only[fP,cO y];exact h.k9 d t
def WR.abZ(h:WR T n B0 ρ F R fr H a w){b:Nat}{vs:Array Value}{ty:TypeId}{cs:List AV}(f:R b=.free)(hF:∀j,F b j=none)
  (r:w.heap[b]?=some (.cells vs ty (0,0))) (l:fV (fD F ρ.G ρ.n) cs vs.toList) (i:∀c∈cs,c.fL=true) {d:Nat} (s:d<n):∃ρ' q,(∀o,o<H.length->ρ'.G o=ρ.G o)/\ρ'.G H.length=b/\WR T n B0 ρ' F q {fr with env:=fP fr.env d (.eb H.length 0)} (H++[cs])
   (a.put (some d) (.pointer (some ⟨b,0,none⟩))) w:=by
 obtain⟨ρ',q,hG,k,t,hw⟩:=h.QL f hF r (.cells (.inl rfl) l i);refine⟨ρ',q,hG,k,hw.put (d:=some d) (by intro u he;injection he with he;subst he;exact s) (x:=.eb H.length 0) ?_⟩;have:=fD.eb (F:=F) (G:=ρ'.G) (n:=ρ'.n) (o:=H.length) (off:=0) (by grind);rw[k] at this;exact .p this
end
def cell_setRow_other(w:World)(g:Nat)(cs:Array Value)(b o:Nat)(h:b≠g):(w.setRow g cs).cell? ⟨b,o,none⟩=w.cell? ⟨b,o,none⟩:=
 World.cell?_of_block (w:=w) (a:=⟨b,o,none⟩) (setRow_other w g b cs h)
def size_setRow(w:World)(g:Nat)(cs:Array Value):(w.setRow g cs).heap.size=w.heap.size:=by simp_all
section
variable{T:dt} {n B0:Nat} {ρ:Maps} {F:jo} {R:Nat->np} {fr:Fr} {H:cZ} {a:Act} {w:World}
def WR.VG(h:WR T n B0 ρ F R fr H a w){d:Nat}{cs s:List AV}{vs':Array Value}(S:fr.box d=some cs)(C:fV (iF F ρ) s vs'.toList)(x:∀c∈s,c.fL=true):WR T n B0 ρ F R {fr with box:=fP fr.box d (some s)} H a (w.setRow (ρ.L d (fr.gen d)) vs'):=by
 obtain⟨U,O,h3,vs,ty,V,h5⟩:=h.box d cs S
 have f:∀b,R b≠ .box d->b≠ρ.L d (fr.gen d):=by
  rintro b t rfl;exact t O
 refine⟨⟨?_,?_,h.g.inj,h.g.gF,?_,h.g.x',?_⟩,h.size,h.defers,h.env,h.hn,h.lg,h.ag,?_,?_,h.qN,h.ni,?_,by rw[size_setRow];exact h.qq⟩
 .intro b o v y;rw[cell_setRow_other]
  .exact h.g.BQ b o v y
  .exact f b (h.qN b o v y d)
 .intro o i P;obtain⟨A,B,u⟩:=h.g.j2 o i P;refine⟨A,?_,u⟩;rw[setRow_other]
  .exact B
  .refine f _ ?_;rw[h.ni o (mH.1 P).1];simp
 .intro b j t;rw[size_setRow] at t;exact h.g.fresh b j t
 .intro W b j v y;obtain⟨D,G,I,g1,g2⟩:=h.g.row W b j v y;exact⟨D,G,I,by rw[setRow_other _ _ _ _ (f b (h.qN b j v y d))];exact g1,g2⟩
 .intro Q i l;simp only[fP] at l
  by_cases he:Q=d
  .subst he;simp only[if_true] at l;cases l;exact⟨U,O,x,vs',ty,setRow_heap w _ vs vs' ty (0,0) V,C⟩
  .simp only[cO he] at l;obtain⟨B,u,J,q,r,K,M⟩:=h.box Q i l;refine⟨B,u,J,q,r,?_,M⟩;rw[setRow_other]
   .exact K
   .refine f _ ?_;rw[u];simp[he]
 .intro k m X b c sz Y;obtain⟨B,u,J,N,⟨q,r,K,M⟩,Z⟩:=h.tok k m X b c sz Y;refine⟨B,u,J,N,⟨q,r,?_,M⟩,Z⟩;rw[setRow_other]
  .exact K
  .refine f _ ?_;rw[u];simp
 .intro b t;rw[size_setRow] at t;exact h.k9 b t
def WR.GZ(h:WR T n B0 ρ F R fr H a w){o:Nat}{cs t:List AV}{w':World}{u:Obj}(L:H[o]?=some cs)(x:cs≠[])(y:w'.heap.size=w.heap.size)(D:w'.heap[ρ.G o]?=some u)
  (d:∀b,b≠ρ.G o->w'.heap[b]?=w.heap[b]?) (N:kD F ρ.G ρ.n t u):WR T n B0 ρ F R fr (H.set o t) a w':=by
 have f:=(mH.1 L).1;have O:=h.ni o f
 have P:∀b,R b≠ .j2->b≠ρ.G o:=by
  rintro b l rfl;exact l O
 have C:(H.set o t).length=H.length:=acZ
 refine⟨⟨?_,?_,?_,?_,?_,?_,?_⟩,h.size,h.defers,h.env,by rw[C];exact h.hn,h.lg,h.ag,?_,?_,h.qN,?_,?_,by rw[y];exact h.qq⟩
 .intro b o' v A
  have l:b≠ρ.G o:=by
   rintro rfl;rw[h.g.gF o o' f (by rw[L];exactλe=>x (fU e))] at A;cases A
  have e:w'.cell? ⟨b,o',none⟩=w.cell? ⟨b,o',none⟩:=by simp[World.cell?,d b l]
  rw[e];exact h.g.BQ b o' v A
 .intro o' i I;rw[C]
  by_cases he:o=o'
  .subst he;simp only[aa6 f] at I;cases I;refine⟨u,D,?_⟩;rw[<-h.hn];exact N
  .rw[Kz he] at I;obtain⟨J,M,K⟩:=h.g.j2 o' i I;refine⟨J,?_,K⟩;rw[d]
   .exact M
   .exactλe=>he (h.g.inj o' o (mH.1 I).1 f e).symm
 .rw[C];exact h.g.inj
 .intro o' j B q;rw[C] at B
  by_cases he:o=o'
  .subst he;exact h.g.gF o j B (by rw[L];exactλe=>x (fU e))
  .rw[Kz he] at q;exact h.g.gF o' j B q
 .intro b j l;rw[y] at l;exact h.g.fresh b j l
 .rw[C];exact h.g.x'
 .intro Z b j v A;obtain⟨Q,S,U,g1,g2⟩:=h.g.row Z b j v A;refine⟨Q,S,U,?_,g2⟩;rw[d]
  .exact g1
  .rintro rfl;rw[h.g.gF o j f (by rw[L];exactλe=>x (fU e))] at A;cases A
 .intro d' i V;obtain⟨M,K,W,r,s,X,Y⟩:=h.box d' i V;refine⟨M,K,W,r,s,?_,Y⟩;rw[d]
  .exact X
  .refine P _ ?_;rw[K];simp
 .intro k m hk b c sz hA;obtain⟨M,K,W,ad,⟨r,s,X,Y⟩,e6⟩:=h.tok k m hk b c sz hA
  grind
 .rw[C];exact h.ni
 .intro b l;rw[y] at l;exact h.k9 b l
def WR.QP(h:WR T n B0 ρ F R fr H a w){o:Nat}{cs d:List AV}{vs':Array Value}(r:H[o]?=some cs)(f:qF cs=true)(i:fV (fD F ρ.G ρ.n) d vs'.toList)(hlen:d.length=cs.length)(j:∀c∈d,c.fL=true):WR T n B0 ρ F R fr (H.set o d) a (w.setRow (ρ.G o) vs'):=by
 obtain⟨ob,s,t⟩:=h.g.j2 o cs r;obtain⟨vs,ty,u,rfl,k,l,_⟩:=t.Cz f
 have q:vs'.size=vs.size:=by
  have x:=i.length;have y:=l.length
  grind
 exact h.GZ r (by rintro rfl;simp[qF] at f) (size_setRow w _ _) (setRow_heap w _ vs vs' ty u s) (λb v=>setRow_other w _ b _ v) (.cells (by rw[q];exact k) i j)
end
end Go.kQ
