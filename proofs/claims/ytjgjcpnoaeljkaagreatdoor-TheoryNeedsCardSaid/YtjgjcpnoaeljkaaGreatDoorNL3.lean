/- Part of the proof of TheoryNeeds: layer. -/
import Derived.Laws.Build
import Derived.Laws.StructEq
import Derived.Laws.BytesArg
import Derived.Test.YtjgjcpnoaeljkaaGreatDoorNL2
set_option linter.all false
namespace Go.kC
open Go
def kA(sz:Nat)(l:List AV):Bool:=
 match l with
 |[]=>true|x::_=>x.cells.length==sz
def qf{sz a:Nat}{l:List AV}(h:kA sz l=true)(hs:∀x∈l,x.cells.length=a):∀x∈l,x.cells.length=sz:=by
 cases l with
 |nil=>simp|cons x l=>grind[kA]
def Fc:Option AV->Option (Option Nat)
 |none=>some none|some (.sc (.int _ n))=>if 0<=n then some (some n.toNat)else none|_=>none
def k0(P:Program)(t:TypeId)(x:AV)(lo hi a:Option AV):Option AV:=
 match Fc lo,Fc hi,Fc a with
 |some lo,some hi,some a=>
  match P.underlying t,x with
  |some (.slice e),.slice _ l=>
   match ew P e with
   |none=>none|some (_,sz)=>
    if hi.getD l.length<=l.length/\lo.getD 0<=hi.getD l.length/\kA sz l then
     match a with
     |none=>some (.slice .iw ((l.take (hi.getD l.length)).drop (lo.getD 0)))|some m=>if hi.isSome/\hi.getD l.length<=m/\m<=l.length then some (.slice (if m=hi.getD l.length then .full else .iw) ((l.take (hi.getD l.length)).drop (lo.getD 0)))else none
    else none
  |some .string,.sc (.string s)=>
   if a.isNone/\hi.getD s.size<=s.size/\lo.getD 0<=hi.getD s.size then some (.sc (.string (s.extract (lo.getD 0) (hi.getD s.size))))else none
  |_,_=>none
 |_,_,_=>none
def yV(F:jo)(ρ:Maps):Option AV->Option Value->Prop
 |none,none=>True|some x,some v=>fv F ρ x v|_,_=>False
section
variable{P:Program} {F:jo} {ρ:Maps}
def EY{x:Option AV}{v:Option Value}{r:Option Nat}(h:Fc x=some r)(a:yV F ρ x v):(r=none/\v=none)\/∃k n,v=some (.int k n)/\0<=n/\r=some n.toNat:=by
 unfold Fc at h
 split at h
 .cases v with
  |none=>injection h with h;exact .inl ⟨h.symm,rfl⟩|some v=>exact a.elim
 .rename_i k n
  split at h
  .injection h with h;cases v with
   |none=>exact a.elim|some v=>
    cases e9 a
    grind
  .cases h
 .cases h
def wR(w:World)(k:IntKind)(n:Int)(y:Nat)(c:BoundsCode)(a:0<=n)(b:n.toNat<=y):(Instr.sliceBound (.int k n) y c).run P w=.ok n.toNat w:=by
 unfold Instr.sliceBound;simp only[asIntOf,gk,oA,jj];rw[cS ⟨a,VW⟩];rfl
def Gv(w:World)(d:Bool){lo hi l:Option AV}{o q r:Option Value}{a h m:Option Nat}{len cap:Nat}
  (t:Fc lo=some a) (u:Fc hi=some h) (v:Fc l=some m) (x:yV F ρ lo o) (y:yV F ρ hi q) (A:yV F ρ l r)
  (hm:m.getD cap<=cap) (f:h.getD len<=m.getD cap) (i:a.getD 0<=h.getD len) (j:m.isSome=true->h.isSome=true):(Instr.sliceBounds d len cap o q r).run P w=.ok (a.getD 0,h.getD len,m.getD cap) w:=by
 rcases EY v A with⟨rfl,rfl⟩|⟨k,n,rfl,hn,rfl⟩<;>rcases EY u y with⟨rfl,rfl⟩|⟨k2,n2,rfl,b,rfl⟩<;>
  rcases EY t x with⟨rfl,rfl⟩|⟨s,n1,rfl,c,rfl⟩<;>simp only[Option.getD_none,Option.getD_some] at hm f i|-<;>
  (first
   |(simp at j;done)
   |(simp only[Instr.sliceBounds,gk,oA,jj];done)
   |(simp only[Instr.sliceBounds,gk,oA,jj,wR (P:=P) w s n1 _ _ c i];done)
   |(simp only[Instr.sliceBounds,gk,oA,jj,wR (P:=P) w k2 n2 _ _ b f];done)
   |(simp only[Instr.sliceBounds,gk,oA,jj,wR (P:=P) w k n _ _ hn hm,wR (P:=P) w k2 n2 _ _ b f,wR (P:=P) w s n1 _ _ c i];done))
def S8(w:World){t:TypeId}{x r:AV}{u:Value}{lo hi U:Option AV}{G H C:Option Value}(h:k0 P t x lo hi U=some r)(q:fv F ρ x u)
  (V:yV F ρ lo G) (W:yV F ρ hi H) (I:yV F ρ U C):∃v,(Instr.sliceAt t u G H C).run P w=.ok v w/\fv F ρ r v:=by
 unfold k0 at h
 split at h
 .rename_i a f m X Y J
  split at h
  .rename_i e tag l hu
   split at h
   .cases h
   .rename_i ag sz hl
    split at h
    .rename_i K;obtain⟨L,j,k⟩:=K;obtain⟨base,cap,b,o,ad,vs,rfl,hs,_,_⟩:=mz q;have n:=qf k hs.sz
     have step:∀(i:Nat),i=m.getD cap->i<=cap->f.getD l.length<=i->(m.isSome=true->f.isSome=true)->∀D,(D=Tag.iw\/D=Tag.full/\i=f.getD l.length)->∃v,(Instr.sliceAt t (.slice base l.length cap) G H C).run P w=.ok v w/\fv F ρ (.slice D ((l.take (f.getD l.length)).drop (a.getD 0))) v:=by
      intro i M ae af N D O;have Q:=Gv (P:=P) (F:=F) (ρ:=ρ) w true (len:=l.length) (cap:=cap) X Y J V W I VW VW j N
      refine⟨.slice (if i=a.getD 0 then base else base.map (·.add (a.getD 0*sz))) (f.getD l.length-a.getD 0) (i-a.getD 0),?_,?_⟩
      .unfold Instr.sliceAt;rw[gk,run_underlying hu];simp only[jj];unfold Instr.slice;rw[gk,run_underlying hu];simp only[jj,gk,Q,jR hl,oA,<-M]
      .have hlen:((l.take (f.getD l.length)).drop (a.getD 0)).length=f.getD l.length-a.getD 0:=by
        rw[Wq,xS];omega
       rw[<-hlen]
       have d:((l.take (f.getD l.length)).drop (a.getD 0)).flatMap AV.cells=((l.flatMap AV.cells).take (f.getD l.length*sz)).drop (a.getD 0*sz):=by
        rw[xm (sz:=sz) (λx q=>n x (AF q)),Ce n]
       refine .p (.slice (b:=b) (o:=o+a.getD 0*sz) (sz:=sz) (vs:=(vs.take (f.getD l.length*sz)).drop (a.getD 0*sz)) ?_ ?_ ?_ ?_ ?_ ?_ ?_ ?_)
       .rw[d];exact(hs.cells.take _).drop _
       .exact(hs.has.take _).drop _
       .intro y;have Z:0<((l.take (f.getD l.length)).drop (a.getD 0)).length:=R0.2 y
        have R:l≠[]:=by rintro rfl;simp at y
        rw[cO VW,hs.base R];simp[Addr.add_lit]
       .exactλx q=>n x (AF (Hc q))
       .intro c A;rw[d] at A;exact hs.r7 c (AF (Hc A))
       .omega
       .have:=hs.xI;omega
       .rcases O with h|⟨h,h'⟩
        .exact .inl h
        .exact .inr ⟨h,VW⟩
     split at h
     .cases h;exact step cap rfl (gO _) (by have:=hs.zO;omega) aaL .iw (.inl rfl)
     .rename_i i
      split at h
      .rename_i B;cases h;have ah:=hs.zO;refine step i rfl VW B.2.1 (λ_=>B.1) _ ?_
       by_cases he:i=f.getD l.length
       .rw[cS he];exact .inr ⟨rfl,he⟩
       .rw[cO he];exact .inl rfl
      .cases h
    .cases h
  .rename_i s hu
   split at h
   .rename_i K;obtain⟨L,j,k⟩:=K;cases h;cases e9 q
    have S:m=none:=by cases m<;>simp_all
    subst S
    have T:C=none:=by
     rcases EY J I with⟨_,h⟩|⟨_,_,_,_,h⟩
     .exact h
     .cases h
    subst T;have Q:=Gv (P:=P) (F:=F) (ρ:=ρ) w false (len:=s.size) (cap:=s.size) X Y J V W I aaL (by simpa using j) k aaL;refine⟨_,?_,.p (.sc rfl)⟩;unfold Instr.sliceAt;rw[gk,run_underlying hu];simp only[jj];unfold Instr.slice;rw[gk,run_underlying hu];simp only[jj,Option.isSome_none,pc,lL,gk,oA,Q]
   .cases h
  .cases h
 .cases h
end
def placesOf(P:Program)(t:TypeId):Option (List (Nat×Nat)):=
 match P.underlying t with
 |some (.struct a)=>a.toList.mapM λf=>(P.info? f.type).map λi=>(f.offset,i.size)|_=>none
def fy(P:Program)(t i:Nat):Option (Nat×Nat):=
 match placesOf P t with
 |some ps=>ps[i]?|none=>match Mj P t with
  |some (_,e)=>(P.info? e).map λf=>(i*f.size,f.size)|none=>none
def eo:AV->Bool
 |.tuple _=>false|_=>true
def DX(P:Program)(t:TypeId):List AV->List (Nat×AV)->Option (List AV)
 |cs,[]=>some cs|cs,(i,x)::rest=>
  match fy P t i with
  |some (off,size)=>if x.cells.length=size/\off+size<=cs.length/\eo x then DX P t (setCells cs off x.cells) rest else none|none=>none
def nR(P:Program)(t:TypeId):Option (List AV):=
 match zeroOf P t with
 |some (.agg z)=>if z.all (·.oneCell')=true/\((placesOf P t).isSome\/((Mj P t).bind λp=>P.info? p.2).isSome)then some (z.toList.map pN)else none|_=>none
def De(P:Program)(t:TypeId)(parts:List (Nat×AV)):Option AV:=
 match nR P t with
 |some z=>(DX P t z parts).map .agg|none=>none
def foldl_set(new:List Value):∀(k off:Nat) (vs:Array Value),off+k+new.length<=vs.size->((new.zipIdx k).foldl (λcs (x:Value×Nat)=>cs.setIfInBounds (off+x.2) x.1) vs).toList=vs.toList.take (off+k)++new++vs.toList.drop (off+k+new.length):=by
 induction new with
 |nil=>intro k off vs h;simp|cons v new ih=>
  intro k off vs h;simp only[List.zipIdx_cons,List.foldl_cons,kY] at h|-;rw[ih (k+1) off _ acz]
  have a:off+k<vs.toList.length:=acz
  simp only[afj]
  have b:(vs.toList.set (off+k) v).take (off+(k+1))=vs.toList.take (off+k)++[v]:=by
    rw[<-Vc,List.take_succ_eq_append_getElem (by simpa using a),List.take_set]
    congr 1
    .apply List.set_eq_of_length_le;simp[xS];omega
    .simp
  have c:(vs.toList.set (off+k) v).drop (off+(k+1)+new.length)=vs.toList.drop (off+k+(new.length+1)):=by
    rw[List.drop_set_of_lt VW]
    congr 1
    omega
  rw[b,c];simp
section
variable{P:Program} {F:jo} {ρ:Maps}
def fU.setCells{R:AV->Value->Prop}{cs new:List AV}{vs nv:List Value}(h:fU R cs vs)(a:fU R new nv)(off:Nat):fU R (setCells cs off new) (vs.take off++nv++vs.drop (off+new.length)):=by
 exact((h.take off).append a).append (h.drop _)
def gT{x:AV}(h:eo x=true):∀vs,x≠ .tuple vs:=by grind[eo]
def MS{t:TypeId}(place:Nat->Option (Nat×Nat))(G:∀i y,fy P t i=some y->place i=some y):∀(parts:List (Nat×AV)) (pv:List (Nat×Value)) (cs r:List AV) (vs:Array Value),DX P t cs parts=some r->fU (iF F ρ) cs vs.toList->(∀c∈cs,c.fJ=true)->fU (λ(x:Nat×AV) (y:Nat×Value)=>x.1=y.1/\fv F ρ x.2 y.2) parts pv->∃ws:Array Value,Instr.fill place vs pv=some ws/\fU (iF F ρ) r ws.toList/\∀c∈r,c.fJ=true:=by
 intro parts
 induction parts with
 |nil=>
  intro pv cs r vs h k a d;cases d;simp[DX] at h;subst h;exact⟨vs,rfl,k,a⟩
 |cons p parts ih=>
  intro pv cs r vs h k a d;obtain⟨i,x⟩:=p;cases d with
  |cons H l=>
   rename_i q pv;obtain⟨j,v⟩:=q;obtain⟨o,w⟩:=H;simp only at o w;subst o;simp only[DX] at h
   split at h
   .rename_i off size A
    split at h
    .rename_i I;obtain⟨J,K,s⟩:=I;have b:=w.cells (gT s);have hlen:=b.length
     have L:vs.size=cs.length:=by simpa using k.length.symm
     have M:v.cells.toList.length=v.cells.size:=aaL
     have f:=foldl_set v.cells.toList 0 off vs (by simp only[HA];omega);have eO:=k.setCells b off;rw[hlen] at eO;simp only[HA] at f;rw[<-f] at eO
     obtain⟨ws,B,C,D⟩:=ih pv _ _ _ h eO (by
      intro c u;simp only[kC.setCells,rA] at u;rcases u with(hm|hm)|hm
      .exact a c (AF hm)
      .exact w.r7 (gT s) c hm
      .exact a c (Hc hm)) l
     refine⟨ws,?_,C,D⟩;unfold Instr.fill;rw[G _ _ A]
     have n:(v.cells.size≠size||decide (off+v.cells.size>vs.size))=false:=by
      simp only[Bool.or_eq_false_iff,ab9,ne_eq,Decidable.not_not];constructor<;>omega
     show(if(decide (v.cells.size≠size)||decide (off+v.cells.size>vs.size)) then none else Instr.fill place (v.cells.zipIdx.foldl (λcs (x:Value×Nat)=>cs.setIfInBounds (off+x.2) x.1) vs) pv)=some ws;rw[cO (by rw[n];simp),<-ae8,af5];exact B
    .cases h
   .cases h
def Eg(w:World):∀(a:List Field) (ps:List (Nat×Nat)),(a.mapM λf=>(P.info? f.type).map λi=>(f.offset,i.size))=some ps->(a.mapM λf=>(do pure (f.offset,<-sizeOf f.type):Sem (Nat×Nat))).run P w=.ok ps w:=by
 intro a
 induction a with
 |nil=>intro ps h;simp at h;subst h;rfl
 |cons f a ih=>
  intro ps h;simp only[YE,Option.bind_eq_bind,acK] at h;obtain⟨p,b,c,d,h⟩:=h;cases hi:P.info? f.type with
  |none=>rw[hi] at b;cases b
  |some i=>
   rw[hi] at b;simp at b h;subst b;subst h;simp only[YE,gk,sizeOf,typeInfo,program,Sem.run,hi,jj,oA];have:=ih c d;simp only[gk,sizeOf,typeInfo,program] at this;rw[this];rfl
def run_map{α β:Type}(w:World)(f:α->β)(x:Sem α):(Functor.map f x).run P w=(x.run P w).andThen λa w'=>.ok (f a) w':=by
 show(x>>=λa=>pure (f a)).run P w=_;rw[gk];rfl
def run_build(w:World){t:TypeId}{parts:List (Nat×AV)}{r:AV}{pv:List (Nat×Value)}(h:De P t parts=some r)
  (l:fU (λ(x:Nat×AV) (y:Nat×Value)=>x.1=y.1/\fv F ρ x.2 y.2) parts pv):∃v,(Instr.build t pv.toArray).run P w=.ok v w/\fv F ρ r v:=by
 have h:∃z:Array Value,zeroOf P t=some (.agg z)/\(z.all (·.oneCell')=true/\((placesOf P t).isSome\/((Mj P t).bind λp=>P.info? p.2).isSome))/\(DX P t (z.toList.map pN) parts).map .agg=some r:=by
  unfold De nR at h
  split at h
  .rename_i z0 d
   split at d
   .rename_i z o
    split at d
    .rename_i B;injection d with d;subst d;exact⟨z,o,B,h⟩
    .cases d
   .cases d
  .cases h
 obtain⟨z,o,B,h⟩:=h
 .--O literal
  .obtain⟨C,k⟩:=B;cases K:DX P t (z.toList.map pN) parts with
   |none=>rw[K] at h;cases h
   |some cs=>
    rw[K] at h;cases h
    have D:(zeroValue t).run P w=.ok (.agg z) w:=by
     unfold zeroOf at o;cases hi:P.info? t with
     |none=>rw[hi] at o;cases o
     |some i=>
      rw[hi] at o;simp at o;simp[zeroValue,typeInfo,hi,o]
    have q:∀v∈z.toList,v.oneCell'=true:=λv Q=>Fs.1 C v (wU.1 Q);have H:fU (iF F ρ) (z.toList.map pN) z.toList:=(pW F ρ.G ρ.n _ q).sW.mono λ_ _ _ h=>.p h
    have I:∀c∈z.toList.map pN,c.fJ=true:=by
     intro c B;obtain⟨a,_,rfl⟩:=nw.1 B;exact xB a
    cases b:placesOf P t with
    |some ps=>
     have L:∃J,P.underlying t=some (.struct J)/\(J.toList.mapM λf=>(P.info? f.type).map λi=>(f.offset,i.size))=some ps:=by
      unfold placesOf at b
      split at b
      .exact⟨_,by assumption,b⟩
      .cases b
     obtain⟨J,hu,hm⟩:=L
     obtain⟨ws,s,u,A⟩:=MS (P:=P) (F:=F) (ρ:=ρ) (t:=t) (ps.toArray[·]?) (by
      intro i y hy;unfold fy at hy;rw[b] at hy
      simpa using hy) parts pv _ _ z K H I l
     refine⟨.agg ws,?_,by simpa using fv.agg (vs:=ws.toList) u A⟩;unfold Instr.build;simp only[gk,D,jj,run_underlying hu];have M:=Eg (P:=P) w J.toList ps hm;rw[<-St (xs:=J),ad9,run_map,M];simp only[oA,jj,Value.cells,s]
    |none=>
     cases j:Mj P t with
     |none=>simp[b,j] at k
     |some ne=>
      obtain⟨n,e⟩:=ne
      have hu:P.underlying t=some (.array n e):=by
       unfold Mj at j
       split at j
       .rename_i hu;cases j;exact hu
       .cases j
      cases hi:P.info? e with
      |none=>simp[b,j,hi] at k
      |some N=>
       obtain⟨ws,s,u,A⟩:=MS (P:=P) (F:=F) (ρ:=ρ) (t:=t) (λi=>some (i*N.size,N.size)) (by
        intro i y hy;unfold fy at hy;rw[b] at hy;simp[j,hi] at hy
        simp[hy]) parts pv _ _ z K H I l
       refine⟨.agg ws,?_,by simpa using fv.agg (vs:=ws.toList) u A⟩;unfold Instr.build;simp only[gk,D,jj,run_underlying hu,sizeOf,typeInfo,program,Sem.run,hi,oA,Value.cells,s]
end
end Go.kC
namespace Go.kC
open Go
def vG(P:Program):List Field->List AV->List AV->Option Bool
 |[],_,_=>some true|f::fs,xs,ys=>
  if f.name= "_" then vG P fs xs ys else
  match P.underlying f.type,lB P f.type xs f.offset,lB P f.type ys f.offset with
  |some (.int _),some (.sc (.int k a)),some (.sc (.int k' b))=>if k=k' then(vG P fs xs ys).map λr=>(a==b)&&r else none|some .string,some (.sc (.string a)),some (.sc (.string b))=>(vG P fs xs ys).map λr=>(a.toList==b.toList)&&r|some .bool,some (.sc (.bool a)),some (.sc (.bool b))=>(vG P fs xs ys).map λr=>(a==b)&&r|_,_,_=>none
def aev(P:Program)(t:TypeId):Bool:=!P.eqGuardType P.depth t&&!P.stoodInHeld t
def JC(P:Program)(t:TypeId)(xs a:List AV):Option Bool:=
 match P.underlying t with
 |some (.struct b)=>if aev P t then vG P b.toList xs a else none|_=>none
def kX(P:Program)(op:BinOp)(t:TypeId)(x y:AV):Option AV:=
 match op,x,y with
 |.eql,.agg xs,.agg a=>(JC P t xs a).map λb=>.sc (.bool b)|.neq,.agg xs,.agg a=>(JC P t xs a).map λb=>.sc (.bool (!b))|op,x,y=>oD P op t x y
def Fv(P:Program)(op:BinOp)(t:TypeId):Operand->AV->AV->Option AV
 |.const .nilIface,.sc .nilIface,_=>match op,P.underlying t with
  |.eql,some (.interface _)=>some (.sc (.bool true))|.neq,some (.interface _)=>some (.sc (.bool false))|_,_=>none
 |_,u,v=>kX P op t u v
def A8:List AV->Option (List Int)
 |[]=>some []|.sc (.int .u8 n)::l=>(A8 l).map (n:: ·)|_::_=>none
def Vr(P:Program)(s d:TypeId)(l:List AV):Option AV:=
 match P.underlying s,P.underlying d with
 |some (.slice e),some .string=>match P.underlying e,A8 l with
  |some (.int .u8),some a=>some (.sc (.string (strOfNums a)))|_,_=>none
 |_,_=>none
def PS(P:Program)(s d:TypeId)(x:AV):Option AV:=
 match P.underlying s,P.underlying d,x with
 |some _,some (.int k),.sc (.int _ n)=>some (.sc (.int k (k.wrap n)))|some _,some .string,.sc (.string b)=>some (.sc (.string b))|_,_,_=>none
def Bn(P:Program)(s d:TypeId)(x:AV):Option AV:=
 match x with
 |.slice _ l=>Vr P s d l|x=>PS P s d x
def Cd(P:Program)(t:TypeId)(x:AV):Option AV:=
 match P.underlying t,x with
 |some (.slice _),.slice _ l=>some (.sc (.int .i64 l.length))|some (.slice _),.vH _ _ len _=>some (.sc (.int .i64 len))|some (.slice _),.N'=>some (.sc (.int .i64 0))|some (.slice _),.qU _ _ len _=>some (.sc (.int .i64 len))|some .string,.sc (.string s)=>some (.sc (.int .i64 s.size))|some (.array n _),_=>some (.sc (.int .i64 n))|_,_=>none
def QV:AV->AV->Option AV
 |.sc (.int k a),.sc (.int _ b)=>some (.sc (.int k (if b>a then b else a)))|_,_=>none
def VO:AV->AV->Option AV
 |.sc (.int k a),.sc (.int _ b)=>some (.sc (.int k (if b<a then b else a)))|_,_=>none
def Jv(f:AV->AV->Option AV):AV->List AV->Option AV
 |x,[]=>some x|x,y::l=>(f x y).bind λz=>Jv f z l
def vo(P:Program)(T:dt)(fr:Fr)(c:Call):Option AV:=
 match c.callee with
 |.builtin .len=>match c.argTypes[0]?,c.args[0]?with
  |some t,some x=>Cd P t (ev T fr x)|_,_=>none
 |.builtin .max=>match c.args.toList with
  |x::l=>Jv QV (ev T fr x) (l.map (ev T fr))|[]=>none
 |.builtin .min=>match c.args.toList with
  |x::l=>Jv VO (ev T fr x) (l.map (ev T fr))|[]=>none
 |_=>none
def Kv(P:Program)(t:TypeId)(x:AV):Option AV:=
 match x with
 |.iface a v=>match P.underlying t with
  |some (.interface _)=>none|some _=>if a=t then some (.tuple [v,.sc (.bool true)])else match zeroOf P t with
   |some z=>if xA z then some (.tuple [ofValue z,.sc (.bool false)])else none|none=>none
  |none=>none
 |_=>none
def wh(P:Program)(T:dt)(fr:Fr)(o:Oper):Option AV:=
 match o.op with
 |.typeAssert x _ t true=>Kv P t (ev T fr x)|.move x=>some (ev T fr x)|.assign x=>some (ev T fr x)|.pick c a b=>match ev T fr c with
  |.sc (.bool t)=>some (if t then ev T fr a else ev T fr b)|_=>none
 |.build t ps=>De P t (ps.toList.map λp=>(p.1,ev T fr p.2))|.binOp op t x y _=>Fv P op t y (ev T fr x) (ev T fr y)|.unOp op _ x=>unA op (ev T fr x)|.convert s d x=>Bn P s d (ev T fr x)|.makeFunc fn f c=>some (.func fn (f.toList.map λx=>(ev T fr x).norm) (c.toList.map λx=>(ev T fr x).norm))|.fieldAddr t x i=>qt P t (ev T fr x) i|.field t x i=>A_ P t (ev T fr x) i|.indexAddr t x i=>fp P t (ev T fr x) (ev T fr i)|.index t x i=>PV P t (ev T fr x) (ev T fr i)|.slice t x lo hi h=>k0 P t (ev T fr x) (lo.map (ev T fr)) (hi.map (ev T fr)) (h.map (ev T fr))|.extract x i=>match ev T fr x with
  |.tuple vs=>vs[i]?|_=>none
 |.nilCheck x=>match ev T fr x with
  |.func (.func f) a b=>some (.func (.func f) a b)|x=>if Bs x then some x else none
 |.makeInterface t x=>if P.concrete t then some (.iface t (ev T fr x).norm)else none|.call c=>vo P T fr c|_=>none
section
variable{P:Program} {T:dt} {F:jo} {ρ:Maps} {fr:Fr} {a:Act}
def L8(w:World){t k:TypeId}{x r:AV}{u:Value}(h:Kv P t x=some r)(o:fv F ρ x u):∃v,(Instr.typeAssert u k t true).run P w=.ok v w/\fv F ρ r v:=by
 unfold Kv at h
 split at h
 .rename_i c v
  obtain⟨b,rfl,q⟩:∃b,u=.iface c b/\fE F ρ.G ρ.n v b:=by
   cases o with
   |cell h=>cases h with
    |p h=>cases h with|iface h=>exact⟨_,rfl,h⟩
  split at h
  .cases h
  .rename_i ty d hu
   have l:(Instr.typeAssert (.iface c b) k t true).run P w=(if c=t then(pure (.tuple #[b,.bool true]):Sem Value)else do pure (.tuple #[<-zeroValue t,.bool false])).run P w:=by
    unfold Instr.typeAssert;simp only[gk,run_underlying hu,jj]
    cases ty<;>first|rfl|exact absurd rfl (d _)
   split at h
   .rename_i e;subst e;cases h;refine⟨_,by rw[l,cS rfl];rfl,.p ?_⟩;exact .tuple (vs:=[b,.bool true]) (.cons q (.cons (.sc rfl) .nil))
   .rename_i f
    split at h
    .rename_i z a
     split at h
     .rename_i s;cases h;refine⟨.tuple #[z,.bool false],?_,.p ?_⟩
      .rw[l,cO f]
       have j:(zeroValue t).run P w=.ok z w:=by
        unfold zeroOf at a;cases hi:P.info? t with
        |none=>rw[hi] at a;cases a
        |some i=>
         rw[hi] at a;have a:i.zero=some z:=a;simp[zeroValue,typeInfo,hi,a]
       simp only[gk,j,jj];rfl
      .exact .tuple (vs:=[z,.bool false]) (.cons (xi _ _ _ z s) (.cons (.sc rfl) .nil))
     .cases h
    .cases h
  .cases h
 .cases h
def Fa(he:r8 F ρ fr a)(b:xe T F ρ):∀(xs:List Operand),(∀x∈xs,iv x=true)->fU (fv F ρ) (xs.map (ev T fr)) (xs.map a.eval)
 |[],_=>.nil|x::xs,h=>.cons (fA he b x (h x aaL)) (Fa he b xs λy hy=>h y (by simp[hy]))
def FB(he:r8 F ρ fr a)(b:xe T F ρ)(xs:List Operand)(h:∀x∈xs,iv x=true):fG F ρ.G ρ.n (xs.map λx=>(ev T fr x).norm) (xs.map a.eval):=by
 have:=(Fa he b xs h).wI AV.norm λ_ _ _ h=>fv.norm h;rw[PX] at this;exact .ox this
def Ge(he:r8 F ρ fr a)(b:xe T F ρ):∀(ps:List (Nat×Operand)),(∀p∈ps,iv p.2=true)->fU (λ(x:Nat×AV) (y:Nat×Value)=>x.1=y.1/\fv F ρ x.2 y.2) (ps.map λp=>(p.1,ev T fr p.2)) (ps.map λp=>(p.1,a.eval p.2))
 |[],_=>.nil|p::ps,h=>.cons ⟨rfl,fA he b p.2 (h p aaL)⟩ (Ge he b ps λq c=>h q (by simp[c]))
def OG(he:r8 F ρ fr a)(b:xe T F ρ)(x:Option Operand)(h:∀y,x=some y->iv y=true):yV F ρ (x.map (ev T fr)) (x.map a.eval):=by
 cases x with
 |none=>trivial|some y=>exact fA he b y (h y rfl)
def NN{v:Value}(h:fv F ρ .N' v):∃base,v=.slice base 0 0:=by
 cases h with
 |cell h=>cases h with
  |p h=>cases h with|N'=>exact⟨_,rfl⟩
def Vk(w:World){t ty:TypeId}{x r:AV}{u:Value}(h:Cd P t x=some r)(a:fv F ρ x u){ts:Array TypeId}{us:Array Value}(c:ts[0]?=some t)(d:us[0]?=some u):∃v,(Builtin.len_ ts ty us).run P w=.ok v w/\fv F ρ r v:=by
 unfold Cd at h;unfold Builtin.len_;simp only[c,d]
 split at h
 .rename_i e tag l hu;cases h;obtain⟨base,cap,b,o,sz,vs,rfl,hs,_,_⟩:=mz a;exact⟨_,by simp only[gk,run_underlying hu,jj];rfl,.p (.sc rfl)⟩
 .rename_i e b g len cap hu;cases h;obtain⟨rfl,_,_,_⟩:=yF a;exact⟨_,by simp only[gk,run_underlying hu,jj];rfl,.p (.sc rfl)⟩
 .rename_i e hu;cases h;obtain⟨base,rfl⟩:=NN a;exact⟨_,by simp only[gk,run_underlying hu,jj];rfl,.p (.sc rfl)⟩
 .rename_i e b len cap hu;cases h;obtain⟨rfl,_,_,_⟩:=BY a;exact⟨_,by simp only[gk,run_underlying hu,jj];rfl,.p (.sc rfl)⟩
 .rename_i s hu;cases h;cases e9 a;exact⟨_,by simp only[gk,run_underlying hu,jj];rfl,.p (.sc rfl)⟩
 .rename_i n e hu;cases h;exact⟨_,by simp only[gk,run_underlying hu,jj];rfl,.p (.sc rfl)⟩
 .cases h
def Jz(w:World){f:AV->AV->Option AV}{g:Value->Value->Sem Value}(d:∀x y r u v,f x y=some r->fv F ρ x u->fv F ρ y v->∃z,(g u v).run P w=.ok z w/\fv F ρ r z):∀(l:List AV) (x r:AV) (u:Value) (us:List Value),Jv f x l=some r->fv F ρ x u->fU (fv F ρ) l us->∃z,(us.foldlM g u).run P w=.ok z w/\fv F ρ r z:=by
 intro l
 induction l with
 |nil=>
  intro x r u us h a b;cases b;cases h;exact⟨u,rfl,a⟩
 |cons y l ih=>
  intro x r u us h a b;cases b with
  |cons i j=>
   simp only[Jv,acK] at h;obtain⟨z,k,h⟩:=h;obtain⟨s,n,c⟩:=d _ _ _ _ _ k a i;obtain⟨t,o,q⟩:=ih _ _ _ _ h c j
   simp_all
def Vn(w:World)(x y r:AV)(u v:Value)(h:QV x y=some r)(a:fv F ρ x u)(hy:fv F ρ y v):∃z,(Builtin.max2 u v).run P w=.ok z w/\fv F ρ r z:=by
 unfold QV at h
 split at h
 .cases e9 a;cases e9 hy;cases h;exact⟨_,rfl,.p (.sc rfl)⟩
 .cases h
def Ur(w:World)(x y r:AV)(u v:Value)(h:VO x y=some r)(a:fv F ρ x u)(hy:fv F ρ y v):∃z,(Builtin.min2 u v).run P w=.ok z w/\fv F ρ r z:=by
 unfold VO at h
 split at h
 .cases e9 a;cases e9 hy;cases h;exact⟨_,rfl,.p (.sc rfl)⟩
 .cases h
def P4(w:World){xs j:List AV}{us vs:List Value}(s:fU (iF F ρ) xs us)(o1:∀c∈xs,c.fJ=true)(t:fU (iF F ρ) j vs)(o2:∀c∈j,c.fJ=true):∀(d:List Field) (b:Bool),vG P d xs j=some b->(Op.eqFields 9999 us.toArray vs.toArray d).run P w=.ok b w:=by
 intro d
 induction d with
 |nil=>intro b h;simp[vG] at h;subst h;rfl
 |cons f d ih=>
  intro b h;unfold vG at h;unfold Op.eqFields
  split at h
  .rename_i hn;rw[cO (by simpa using hn)];exact ih b h
  .rename_i hn;rw[cS (by simpa using hn)]
   have step:∀{x y:Value} {r:Bool},lB P f.type xs f.offset=some (.sc x)->lB P f.type j f.offset=some (.sc y)->(Op.equalIn 9999 f.type x y).run P w=.ok r w->(vG P d xs j).map (λq=>r&&q)=some b->(do
      let a<-part f.type us.toArray f.offset
      let b<-part f.type vs.toArray f.offset
      let r<-Op.equalIn 9999 f.type a b
      if(!r) then pure false else Op.eqFields 9999 us.toArray vs.toArray d:Sem Bool).run P w=.ok b w:=by
    intro x y r i hy u n;obtain⟨H,v,A⟩:=Bm (P:=P) w s o1 i;obtain⟨I,B,C⟩:=Bm (P:=P) w t o2 hy;obtain rfl:=e9 A;obtain rfl:=e9 C;simp only[gk,v,B,u,jj];cases o:vG P d xs j with
    |none=>rw[o] at n;cases n
    |some q=>
     rw[o] at n;simp only[X3,uV] at n;cases r
     all_goals simp_all
   split at h
   .rename_i k D a k2 l hu i hy
    split at h
    .rename_i G;subst G;exact step i hy (run_equalIn_int w 9998 f.type D k a l hu) h
    .cases h
   .rename_i a l hu i hy;exact step i hy (run_equalIn_string w 9998 f.type a l hu) h
   .rename_i a l hu i hy;exact step i hy (run_equalIn_bool' w 9998 f.type a l hu) h
   .cases h
def QO(P:Program)(w:World){t:TypeId}{ms:Array (String×TypeId)}(hu:P.underlying t=some (.interface ms)):(binOp .eql t .nilIface .nilIface).run P w=.ok (.bool true) w/\(binOp .neq t .nilIface .nilIface).run P w=.ok (.bool false) w:=by
 have h:∀d,(Op.equalIn (d+1) t .nilIface .nilIface).run P w=.ok true w:=λd=>by simp[Op.equalIn,run_underlying hu]
 have a:binOp .eql t .nilIface .nilIface=(do pure (.bool (<-Op.equalIn (9999+1) t .nilIface .nilIface))):=rfl;have b:binOp .neq t .nilIface .nilIface=(do pure (.bool (!(<-Op.equalIn (9999+1) t .nilIface .nilIface)))):=rfl;rw[a,b,gk,gk,h 9999];exact⟨rfl,rfl⟩
def Wo(w:World){op:BinOp}{t:TypeId}{x y r:AV}{u v:Value}(h:kX P op t x y=some r)(f:fv F ρ x u)(hy:fv F ρ y v):∃z,(binOp op t u v).run P w=.ok z w/\r=.sc z/\vK z=true/\∀a b,(eqGuard op t a b u v).run P w=.ok () w:=by
 have agg:∀{xs k:List AV} {b:Bool},JC P t xs k=some b->fv F ρ (.agg xs) u->fv F ρ (.agg k) v->∃us vs:List Value,u=.agg us.toArray/\v=.agg vs.toArray/\(Op.equalIn (9999+1) t u v).run P w=.ok b w/\P.eqGuardType P.depth t=false:=by
  intro xs k b c f hy;obtain⟨us,rfl,u1,u2⟩:=B3 f;obtain⟨vs,rfl,v1,v2⟩:=B3 hy;unfold JC at c
  split at c
  .rename_i o hu
   split at c
   .rename_i d;simp only[aev,fI,XC] at d
    have n:P.fieldsOf t=o:=by simp[Program.fieldsOf,hu]
    refine⟨us,vs,rfl,rfl,?_,d.1⟩;rw[run_equalIn_struct w 9999 t us.toArray vs.toArray (by rw[n];exact hu) d.2,n];exact P4 w u1 u2 v1 v2 _ _ c
   .cases c
  .cases c
 unfold kX at h
 split at h
 .cases c:JC P t _ _ with
  |none=>rw[c] at h;cases h
  |some b=>
   rw[c] at h;cases h;obtain⟨us,vs,rfl,rfl,i,j⟩:=agg c f hy;refine⟨.bool b,?_,rfl,rfl,λa b=>?_⟩
   .have l:binOp .eql t (.agg us.toArray) (.agg vs.toArray)=(do pure (.bool (<-Op.equalIn (9999+1) t (.agg us.toArray) (.agg vs.toArray)))):=rfl;rw[l,gk,i];rfl
   .simp[eqGuard,j,Result.andThen]
 .cases c:JC P t _ _ with
  |none=>rw[c] at h;cases h
  |some b=>
   rw[c] at h;cases h;obtain⟨us,vs,rfl,rfl,i,j⟩:=agg c f hy;refine⟨.bool !b,?_,rfl,rfl,λa b=>?_⟩
   .have l:binOp .neq t (.agg us.toArray) (.agg vs.toArray)=(do pure (.bool (!(<-Op.equalIn (9999+1) t (.agg us.toArray) (.agg vs.toArray))))):=rfl;rw[l,gk,i];rfl
   .simp[eqGuard,j,Result.andThen]
 .obtain⟨z,i,j,q,s⟩:=RG P w h f hy;exact⟨z,i,j,q,λa b=>LG P w op t a b s⟩
def DW{G:Nat->Nat}{n:Nat}:∀{a:List Int} {vs:List Value},fG F G n (a.map (λn=>AV.sc (.int .u8 n))) vs->vs=a.map (Value.int .u8)
 |[],_,.nil=>rfl|n::a,_,.cons b c=>by
  cases b;rw[DW c];rfl
def Cu:∀{l:List AV} {a:List Int},A8 l=some a->l.flatMap AV.cells=a.map (λn=>AV.sc (.int .u8 n))/\l.length=a.length
 |[],a,h=>by grind[A8]|x::l,a,h=>by
  unfold A8 at h
  split at h
  .rename_i e;cases e
  .simp only[Y1] at h;obtain⟨ms,b,rfl⟩:=h;obtain⟨i1,i2⟩:=Cu b
   grind[AV.cells]
  .cases h
def AL(w:World)(K:∀b o v,F b o=some v->w.cell? ⟨b,o,none⟩=some v)(he:r8 F ρ fr a)(n:xe T F ρ){o:Oper}{r:AV}(L:o.op.operands.all iv=true)(h:wh P T fr o=some r):∃v,(execOp a.eval o).run P w=.ok (.value v) w/\fv F ρ r v:=by
 obtain⟨dst,op,type,pos,after,guard⟩:=o;have j:∀x∈op.operands,iv x=true:=λx k=>Fs.1 L x k;clear L
 have lift:∀{s:Sem Value},(∃v,s.run P w=.ok v w/\fv F ρ r v)->∃v,((do pure (.value (<-s))):Sem Next).run P w=.ok (.value v) w/\fv F ρ r v:=by
  rintro s ⟨v,C,G⟩;exact⟨v,by rw[gk,C];rfl,G⟩
 cases op<;>simp only[wh] at h<;>simp only[Op.operands] at j<;>simp only[execOp]
 case move x=>cases h;exact⟨_,rfl,fA he n x (j x aaL)⟩
 case assign x=>cases h;exact⟨_,rfl,fA he n x (j x aaL)⟩
 case pick c x y=>
  split at h
  .rename_i t A;cases h;have M:=fA he n c (j c aaL);rw[A] at M;have O:=e9 M;refine⟨if t then a.eval x else a.eval y,?_,?_⟩
   .rw[O];rfl
   .cases t
    .exact fA he n y (j y aaL)
    .exact fA he n x (j x aaL)
  .cases h
 case build t ps=>
  refine lift ?_;have D:=Ge he n ps.toList λp D=>j p.2 (by simp;exact⟨p.1,by simpa using D⟩);have:=run_build (P:=P) w h D
  have e:(ps.toList.map λp=>(p.1,a.eval p.2)).toArray=ps.map λp=>(p.1,a.eval p.2):=by rw[<-NP,St]
  rw[e] at this;exact this
 case binOp op t x y t'=>
  obtain⟨z,B,H,Q,R⟩:∃z,(binOp op t (a.eval x) (a.eval y)).run P w=.ok z w/\r=.sc z/\vK z=true/\(eqGuard op t x y (a.eval x) (a.eval y)).run P w=.ok () w:=by
   have k:=fA he n x (j x aaL);have hy:=fA he n y (j y aaL);change Fv P op t y (ev T fr x) (ev T fr y)=some r at h;generalize ev T fr x=u at h k;generalize ev T fr y=v at h hy;unfold Fv at h
   split at h
   .have k:=e9 k;rw[k]
    split at h
    .rename_i hu;cases h;exact⟨.bool true,(QO P w hu).1,rfl,rfl,by simp[eqGuard,Act.eval]⟩
    .rename_i hu;cases h;exact⟨.bool false,(QO P w hu).2,rfl,rfl,by simp[eqGuard,Act.eval]⟩
    .cases h
   .obtain⟨z,B,H,Q,R⟩:=Wo (P:=P) w h k hy;exact⟨z,B,H,Q,R _ _⟩
  subst H;refine⟨z,?_,.p (.sc Q)⟩;simp only[gk,R,jj,B];rfl
 case unOp op t x=>
  refine lift ?_;have k:=fA he n x (j x aaL);generalize a.eval x=u at k|-;unfold unA at h
  split at h
  .rename_i A;rw[A] at k;cases e9 k;cases h;exact⟨_,by simp[Op.unary,Op.intArith],.p (.sc rfl)⟩
  .rename_i A;rw[A] at k;cases e9 k;cases h;exact⟨_,by simp[Op.unary],.p (.sc rfl)⟩
  .cases h
 case convert s d x=>
  refine lift ?_;have k:=fA he n x (j x aaL);generalize a.eval x=u at k|-;unfold Bn at h
  split at h
  .rename_i tag l A;unfold Vr at h
   split at h
   .rename_i e hs I
    split at h
    .rename_i N hu S;cases h;rw[A] at k;obtain⟨W,hlen⟩:=Cu S;obtain⟨base,cap,b,o,sz,vs,rfl,J,_,_⟩:=mz k;refine⟨.string (strOfNums N),?_,.p (.sc rfl)⟩
     have U:vs=N.map (Value.int .u8):=by
      have D:=J.cells;rw[W] at D;exact DW D
     by_cases hn:l=[]
     .subst hn;have V:N=[]:=z8 (by simpa using hlen.symm);subst V;cases base with
      |none=>exact run_convert_bytes_nil w s e hs hu 0 cap d I|some X=>
       obtain⟨ab,Y,Z⟩:=X;show(convert s d (.slice (some ⟨ab,Y,Z⟩) 0 cap)).run P w=_;rw[run_convert_bytes_string w s d e _ 0 cap hs hu I,run_bytesToString w _ 0 cap [] (by simp[loadCells,loadCellsFrom])];rfl
     .rw[J.base hn];refine run_convert_bytes_arg w s e hs hu b o l.length cap N hlen.symm (λi hi=>?_) d I;refine K b (o+i) _ (J.has i _ ?_);rw[U,yq,l5 VW];simp[List.getD,l5 (show i<N.length by omega)]
    .cases h
   .cases h
  .unfold PS at h
   split at h
   .rename_i hs I A;rw[A] at k;cases e9 k;cases h;refine⟨_,?_,.p (.sc rfl)⟩;unfold convert;simp only[gk,run_underlying hs,run_underlying I,jj];rfl
   .rename_i hs I A;rw[A] at k;cases e9 k;cases h;refine⟨_,?_,.p (.sc rfl)⟩;unfold convert;simp only[gk,run_underlying hs,run_underlying I,jj];rfl
   .cases h
 case makeFunc fn f c=>
  cases h;refine lift ⟨.func fn (f.map a.eval) (c.map a.eval),rfl,?_⟩;have B:=FB he n f.toList λx k=>j x (by simp[wU.1 k]);have H:=FB he n c.toList λx k=>j x (by simp[wU.1 k]);have:=fE.func (fn:=fn) B H
  have e:∀l:Array Operand,(l.toList.map a.eval).toArray=l.map a.eval:=λl=>by rw[<-NP,St]
  rw[e,e] at this;exact .p this
 case fieldAddr t x i=>exact lift (Ix w h (fA he n x (j x aaL)))
 case field t x i=>exact lift (RP w h (fA he n x (j x aaL)))
 case indexAddr t x i=>exact lift (H5 w h (fA he n x (j x aaL)) (fA he n i (j i aaL)))
 case index t x i=>exact lift (R9 w h (fA he n x (j x aaL)) (fA he n i (j i aaL)))
 case slice t x lo hi mx=>
  exact lift (S8 w h (fA he n x (j x aaL)) (OG he n lo λy hy=>j y (by simp[hy])) (OG he n hi λy hy=>j y (by simp[hy]))
   (OG he n mx λy hy=>j y (by simp[hy])))
 case extract x i=>
  refine lift ?_;have k:=fA he n x (j x aaL)
  split at h
  .rename_i vs A;rw[A] at k;obtain⟨us,hu,G⟩:=Qd k;obtain⟨v,C,D⟩:=G.get h;refine⟨v,?_,.p D⟩;rw[hu];simp[Instr.extract,C]
  .cases h
 case nilCheck x=>
  have k:=fA he n x (j x aaL)
  split at h
  .rename_i f b c A;cases h;rw[A] at k;obtain⟨vf,vc,C,_,_⟩:=zu k;refine⟨a.eval x,?_,k⟩;rw[C];rfl
  .rename_i A
   split at h
   .rename_i D;cases h;obtain⟨b,S⟩:=Ds D k;refine⟨a.eval x,?_,k⟩;rw[S];rfl
   .cases h
 case makeInterface t x=>
  refine lift ?_
  split at h
  .rename_i A;cases h;exact⟨_,run_makeInterface w t _ A,.p (.iface (fA he n x (j x aaL)).norm)⟩
  .cases h
 case typeAssert x xt t ok=>
  cases ok with
  |true=>exact lift (L8 w h (fA he n x (j x aaL)))|false=>cases h
 case call c=>
  obtain⟨callee,args,argTypes⟩:=c;have q:∀x∈args.toList,iv x=true:=λx k=>j x (by simp[Call.operands,wU.1 k]);simp only[vo] at h
  split at h
  .split at h
   .rename_i t x B H;simp only[resolve,invoke,builtin,gk,oA,jj];have k:x∈args:=Uq H;obtain⟨v,C,G⟩:=Vk (P:=P) (ty:=type) w h (fA he n x (q x (wU.2 k))) B (us:=args.map a.eval) (by simp[H]);exact⟨v,by rw[C];rfl,G⟩
   .cases h
  .split at h
   .rename_i x l B;simp only[resolve,invoke,builtin,gk,oA,jj];obtain⟨v,C,G⟩:=Jz w (Vn (P:=P) w) _ _ _ _ _ h (fA he n x (q x (by simp[B]))) (Fa he n l λy hy=>q y (by simp[B,hy]));refine⟨v,?_,G⟩
    have e:(args.map a.eval).toList=a.eval x::l.map a.eval:=by simp[B]
    simp only[Builtin.max_,e,C,jj]
   .cases h
  .split at h
   .rename_i x l B;simp only[resolve,invoke,builtin,gk,oA,jj];obtain⟨v,C,G⟩:=Jz w (Ur (P:=P) w) _ _ _ _ _ h (fA he n x (q x (by simp[B]))) (Fa he n l λy hy=>q y (by simp[B,hy]));refine⟨v,?_,G⟩
    have e:(args.map a.eval).toList=a.eval x::l.map a.eval:=by simp[B]
    simp only[Builtin.min_,e,C,jj]
   .cases h
  .cases h
 all_goals cases h
end
end Go.kC
namespace Go.kC
open Go
def Pn(a:Nat×Nat)(n:Nat):Prop:=a=(0,0)\/n<=a.1
inductive kB (F:jo) (G:Nat->Nat) (n:Nat):List AV->Obj->Prop
 |cells {cs vs ty fz}:Pn fz vs.size->fU (fE F G n) cs vs.toList->(∀c∈cs,c.fJ=true)->kB F G n cs (.cells vs ty fz)|map {ks xs es clock}:es.toList.map (·.key)=ks->fU (fE F G n) xs (es.toList.map (·.val))->es.toList.map (·.born)=List.range ks.length->clock=ks.length->ks.Nodup->kB F G n [.rG ks xs] (.map es clock)|iter {o since seen}:o<n->kB F G n [.lM o since seen] (.mapIter (some (G o)) since seen.toArray since)|dead {ob}:kB F G n [] ob
def kB.grow{F F':jo}{G G':Nat->Nat}{n n':Nat}(hg:Grow F F' G G' n n'){cs ob}(h:kB F G n cs ob):kB F' G' n' cs ob:=by
 cases h with
 |cells c a b=>exact .cells c (a.mono λ_ _ _ h=>h.grow hg) b|map a b d f i=>exact .map a (b.mono λ_ _ _ h=>h.grow hg) d f i|iter h=>rw[<-hg.mG _ h];exact .iter (SX h hg.mn)|dead=>exact .dead
def qK:List AV->Bool
 |[]=>false|c::_=>c.fJ
def kB.BZ{F:jo}{G:Nat->Nat}{n:Nat}{cs ob}(h:kB F G n cs ob)(b:qK cs=true):∃vs ty a,ob=.cells vs ty a/\Pn a vs.size/\fU (fE F G n) cs vs.toList/\∀c∈cs,c.fJ=true:=by
 cases h with
 |cells d f i=>grind|map=>grind[qK,AV.fJ]|iter=>grind[qK,AV.fJ]|dead=>grind[qK]
def Ft(vs:Array Value):Prop:=∀u∈vs.toList,u.oneCell'=true
structure GW (T:dt) (G:Nat->Nat) (F:jo) (H:cZ) (w:World):Prop where
 Cp:∀b o v,F b o=some v->w.cell? ⟨b,o,none⟩=some v
 jU:∀o cs,H[o]?=some cs->∃ob,w.heap[G o]?=some ob/\kB F G H.length cs ob
 inj:∀o o',o<H.length->o'<H.length->G o=G o'->o=o'
 gF:∀o j,o<H.length->H[o]?≠some []->F (G o) j=none
 fresh:∀b j,w.heap.size<=b->F b j=none
 xX:∀g x,T g=some x->fE F G H.length (.lx x) (.pointer (some ⟨g,0,none⟩))
 row:(∀g,T g=none)->∀b o v,F b o=some v->∃vs ty fz,w.heap[b]?=some (.cells vs ty fz)/\Pn fz vs.size/\Ft vs
structure Ext (B:Nat) (G:Nat->Nat) (F:jo) (n:Nat) (w:World) (G':Nat->Nat) (F':jo) (n':Nat) (w':World):Prop where
 os:w'.os=w.os
 tape:w'.tape=w.tape
 output:w'.output=w.output
 size:w.heap.size<=w'.heap.size
 len:n<=n'
 hG:∀o,o<n->G' o=G o
 HV:∀o,n<=o->o<n'->B<=G' o
 hF:∀b j,b<B->(∀o,o<n->G o≠b)->F' b j=F b j
 mF:∀b j v,b<B->F b j=some v->F' b j=some v
 heap:∀b,b<B->(∀o,o<n->G o≠b)->w'.heap[b]?=w.heap[b]?
section
variable{B B':Nat} {G G' G'':Nat->Nat} {F F' F'':jo} {n n' n'':Nat} {w w' w'':World}
theorem Ext.refl:Ext B G F n w G F n w:=⟨rfl,rfl,rfl,gO _,gO _,λ_ _=>rfl,λ_ h a=>absurd a VW,λ_ _ _ _=>rfl,λ_ _ _ _ h=>h,λ_ _ _=>rfl⟩
def Ext.trans(h:Ext B G F n w G' F' n' w')(k:Ext B G' F' n' w' G'' F'' n'' w''):Ext B G F n w G'' F'' n'' w'' where
 os:=k.os.trans h.os
 tape:=k.tape.trans h.tape
 output:=k.output.trans h.output
 size:=zS h.size k.size
 len:=zS h.len k.len
 hG o c:=(k.hG o (SX c h.len)).trans (h.hG o c)
 HV o d f:=by
  rcases sH o n' with h3|h3
  .rw[k.hG o h3];exact h.HV o d h3
  .exact k.HV o h3 f
 hF b j a hg:=by
  refine(k.hF b j a λo c=>?_).trans (h.hF b j a hg);rcases sH o n with h3|h3
  .rw[h.hG o h3];exact hg o h3
  .have:=h.HV o h3 c;omega
 mF b j v a i:=k.mF b j v a (h.mF b j v a i)
 heap b a hg:=by
  refine(k.heap b a λo c=>?_).trans (h.heap b a hg);rcases sH o n with h3|h3
  .rw[h.hG o h3];exact hg o h3
  .have:=h.HV o h3 c;omega
theorem Ext.mono(h:Ext B G F n w G' F' n' w')(c:B'<=B):Ext B' G F n w G' F' n' w':=
 ⟨h.os,h.tape,h.output,h.size,h.len,h.hG,λo d f=>zS c (h.HV o d f),λb j a=>h.hF b j VW,λb j v a=>h.mF b j v VW,λb a hg=>h.heap b VW hg⟩
end
inductive nb where
 |free|box (d:Nat)|jU|arr (k:Nat)
 deriving DecidableEq
structure WR (T:dt) (n B0:Nat) (ρ:Maps) (F:jo) (R:Nat->nb) (fr:Fr) (H:cZ) (a:Act) (w:World):Prop where
 g:GW T ρ.G F H w
 size:a.tmps.size=n
 defers:a.defers=[]
 env:r8 F ρ fr a
 hn:ρ.n=H.length
 lg:∀d,ρ.lg d=fr.gen d
 ag:∀k,ρ.ag k=fr.eg k
 box:∀d cs,fr.box d=some cs->B0<=ρ.L d (fr.gen d)/\R (ρ.L d (fr.gen d))=.box d/\(∀c∈cs,c.fJ=true)/\∃vs ty,w.heap[ρ.L d (fr.gen d)]?=some (.cells vs ty (0,0))/\fU (iF F ρ) cs vs.toList
 tok:∀k m,fr.qd k=some m->∀b c sz,ρ.A k (fr.eg k)=some (b,c,sz)->B0<=b/\R b=.arr k/\(0<m/\m<=c)/\c<=maxLen/\(∃vs ty,w.heap[b]?=some (.cells vs ty (0,0))/\vs.size=c*sz/\Ft vs)/\∀j,m*sz<=j->F b j=none
 qF:∀b j v,F b j=some v->∀d,R b≠ .box d
 na:∀o,o<H.length->R (ρ.G o)=.jU
 k4:∀b,w.heap.size<=b->R b=.free
 qi:B0<=w.heap.size
section
variable{T:dt} {n B0:Nat} {ρ ρ':Maps} {F F':jo} {R:Nat->nb} {fr:Fr} {H:cZ} {a:Act} {w w':World}
def WR.gv(h:WR T n B0 ρ F R fr H a w):xe T F ρ:=λg x b=>by rw[h.hn];exact h.g.xX g x b
def WR.ae9(h:WR T n B0 ρ F R fr H a w){b j:Nat}{v:Value}(c:F b j=some v):b<w.heap.size:=by
 rcases sH b w.heap.size with h'|h'
 .exact h'
 .rw[h.g.fresh b j h'] at c;cases c
theorem Fr.sj(fr:Fr)(d:Option Nat)(x:AV)(t:Nat):(fr.put d x).env t=if d=some t then x else fr.env t:=by
 cases d with
 |none=>simp[Fr.put]|some d=>
  simp only[Fr.put,fO]
  grind
theorem Fr.wb(fr:Fr)(d:Option Nat)(x:AV):(fr.put d x).box=fr.box/\(fr.put d x).gen=fr.gen/\(fr.put d x).qd=fr.qd/\(fr.put d x).eg=fr.eg:=by
 cases d<;>exact⟨rfl,rfl,rfl,rfl⟩
def MW(a:Act)(d:Option Nat)(v:Value)(t:Nat)(c:∀b,d=some b->b<a.tmps.size):(a.put d v).tmps.getD t undef=if d=some t then v else a.tmps.getD t undef:=by
 cases d with
 |none=>simp[Act.put]|some d=>
  simp only[Act.put,NA]
  grind
theorem r8.put(he:r8 F ρ fr a){d:Option Nat}(c:∀b,d=some b->b<a.tmps.size){x:AV}{v:Value}(f:fv F ρ x v):r8 F ρ (fr.put d x) (a.put d v):=by
 intro t;rw[Fr.sj,MW a d v t c]
 split
 .exact f
 .exact he t
def Cz(a:Act)(d:Option Nat)(v:Value):(a.put d v).tmps.size=a.tmps.size:=by cases d<;>simp[Act.put]
def put_defers(a:Act)(d:Option Nat)(v:Value):(a.put d v).defers=a.defers:=by cases d<;>rfl
theorem WR.put(h:WR T n B0 ρ F R fr H a w){d:Option Nat}(i:∀b,d=some b->b<n){x:AV}{v:Value}(j:fv F ρ x v):WR T n B0 ρ F R (fr.put d x) H (a.put d v) w:=by
 obtain⟨k,c,l,f⟩:=Fr.wb fr d x;refine⟨h.g,by rw[Cz];exact h.size,by rw[put_defers];exact h.defers,h.env.put (by rw[h.size];exact i) j,h.hn,?_,?_,?_,?_,h.qF,h.na,h.k4,h.qi⟩
 .rw[c];exact h.lg
 .rw[f];exact h.ag
 .rw[k,c];exact h.box
 .rw[l,f];exact h.tok
def WR.drew(h:WR T n B0 ρ F R fr H a w):WR T n B0 ρ F R fr H a w.drew:=
 ⟨⟨h.g.Cp,h.g.jU,h.g.inj,h.g.gF,h.g.fresh,h.g.xX,h.g.row⟩,h.size,h.defers,h.env,h.hn,h.lg,h.ag,h.box,h.tok,h.qF,h.na,h.k4,h.qi⟩
def oz{w:World}{b:Nat}{o:Obj}(h:w.heap[b]?=some o):b<w.heap.size:=(Mt.1 h).1
def WR.alloc(h:WR T n B0 ρ F R fr H a w)(o:Obj):WR T n B0 ρ F R fr H a (w.alloc o):=by
 have hs:(w.alloc o).heap.size=w.heap.size+1:=World.size_alloc w o;refine⟨⟨?_,?_,h.g.inj,h.g.gF,?_,h.g.xX,?_⟩,h.size,h.defers,h.env,h.hn,h.lg,h.ag,?_,?_,h.qF,h.na,?_,by have:=h.qi;omega⟩
 .intro b j v q;rw[World.cell?_alloc_lt w o ⟨b,j,none⟩ (h.ae9 q)];exact h.g.Cp b j v q
 .intro ob cs x;obtain⟨r,f,i⟩:=h.g.jU ob cs x;exact⟨r,(heap_alloc_old w o (oz f)).trans f,i⟩
 .intro b j y;exact h.g.fresh b j VW
 .intro A b j v q;obtain⟨vs,ty,B,f,i⟩:=h.g.row A b j v q;exact⟨vs,ty,B,(heap_alloc_old w o (oz f)).trans f,i⟩
 .intro d cs C;obtain⟨f,i,s,vs,ty,l,t⟩:=h.box d cs C;exact⟨f,i,s,vs,ty,(heap_alloc_old w o (oz l)).trans l,t⟩
 .intro k m D b c sz G;obtain⟨f,i,s,u,⟨vs,ty,l,t⟩,I⟩:=h.tok k m D b c sz G;exact⟨f,i,s,u,⟨vs,ty,(heap_alloc_old w o (oz l)).trans l,t⟩,I⟩
 .intro b y;exact h.k4 b VW
def r8.grow(he:r8 F ρ fr a)(hg:tk F F' ρ ρ'):r8 F' ρ' fr a:=λt=>(he t).grow hg
def rH{α:Type}(f:Nat->Nat->α)(i j:Nat)(x:α):Nat->Nat->α:=λa b=>if a=i/\b=j then x else f a b
def WR.aas(h:WR T n B0 ρ F R fr H a w){b:Nat}{vs:Array Value}{ty:TypeId}{cs:List AV}(O:B0<=b)(r:R b=.free)(hF:∀j,F b j=none)
  (N:w.heap[b]?=some (.cells vs ty (0,0))) (C:fU (iF F ρ) cs vs.toList) (y:∀c∈cs,c.fJ=true) {d:Nat} (P:d<n):∃ρ' A,ρ'.G=ρ.G/\WR T n B0 ρ' F A {fr with env:=fO fr.env d (.gx d (fr.gen d+1) 0),box:=fO fr.box d (some cs),gen:=fO fr.gen d (fr.gen d+1)} H
   (a.put (some d) (.pointer (some ⟨b,0,none⟩))) w:=by
 let ρ':Maps:={ρ with L:=rH ρ.L d (fr.gen d+1) b,lg:=fO ρ.lg d (fr.gen d+1)}
 let A:Nat->nb:=fO R b (.box d)
 have s:tk F F ρ ρ':=by
  refine⟨.refl,λf=>?_,λf g hg=>?_,λ_=>gO _,λ_ _ _=>rfl⟩
  .show ρ.lg f<=fO ρ.lg d (fr.gen d+1) f;unfold fO
   split
   .rename_i Q;subst Q;rw[h.lg];omega
   .exact gO _
  .show rH ρ.L d (fr.gen d+1) b f g=ρ.L f g;unfold rH;rw[cO];rintro⟨rfl,rfl⟩;rw[h.lg] at hg;omega
 have l:∀i,R i≠ .free->A i=R i:=by
  intro i t;show fO R b (.box d) i=R i;unfold fO;rw[cO];rintro rfl;exact t r
 refine⟨ρ',A,rfl,?_⟩;refine⟨⟨h.g.Cp,h.g.jU,h.g.inj,h.g.gF,h.g.fresh,h.g.xX,h.g.row⟩,by rw[Cz];exact h.size,by rw[put_defers];exact h.defers,?_,h.hn,?_,h.ag,?_,?_,?_,?_,?_,h.qi⟩
 .have S:=(h.env.grow s).put (d:=some d) (by intro f he;injection he with he;subst he;rw[h.size];exact P) (x:=.gx d (fr.gen d+1) 0) (v:=.pointer (some ⟨b,0,none⟩))
   (by
    have:=iF.gx (F:=F) (ρ:=ρ') (b:=d) (g:=fr.gen d+1) (off:=0) (by show _<=fO ρ.lg d (fr.gen d+1) d;simp[fO])
    have e:ρ'.L d (fr.gen d+1)=b:=by show rH ρ.L d (fr.gen d+1) b d (fr.gen d+1)=b;simp[rH]
    rw[e] at this
    exact .cell this)
  exact S
 .intro f;show fO ρ.lg d (fr.gen d+1) f=fO fr.gen d (fr.gen d+1) f;unfold fO
  split
  .rfl
  .exact h.lg f
 .intro f D q;simp only[fO] at q|-
  by_cases he:f=d
  .subst he;simp only[if_true] at q|-;cases q
   have e:ρ'.L f (fr.gen f+1)=b:=by show rH ρ.L f (fr.gen f+1) b f (fr.gen f+1)=b;simp[rH]
   rw[e];refine⟨O,?_,y,vs,ty,N,C.mono λ_ _ _ h=>h.grow s⟩;show fO R b (.box f) b=.box f;simp[fO]
  .simp only[cO he] at q|-;obtain⟨I,B,J,vs',K,U,V⟩:=h.box f D q
   have e:ρ'.L f (fr.gen f)=ρ.L f (fr.gen f):=by show rH ρ.L d (fr.gen d+1) b f (fr.gen f)=_;simp[rH,he]
   rw[e];exact⟨I,by rw[l _ (by rw[B];simp)];exact B,J,vs',K,U,V.mono λ_ _ _ h=>h.grow s⟩
 .intro k m W i c sz X;obtain⟨I,B,J⟩:=h.tok k m W i c sz X;exact⟨I,by rw[l _ (by rw[B];simp)];exact B,J⟩
 .intro i j v M
  have u:i≠b:=by rintro rfl;rw[hF j] at M;cases M
  have e:A i=R i:=by show fO R b (.box d) i=R i;simp[fO,u]
  rw[e];exact h.qF i j v M
 .intro o Y;have:=h.na o Y;rw[l _ (by show R (ρ.G o)≠_;rw[this];simp)];exact this
 .intro i t
  have u:i≠b:=by rintro rfl;have:=oz N;omega
  show fO R b (.box d) i=.free;simp only[fO,cO u];exact h.k4 i t
def WR.Rg(h:WR T n B0 ρ F R fr H a w){b:Nat}{ob:Obj}{cs:List AV}(i:R b=.free)(hF:∀j,F b j=none)
  (S:w.heap[b]?=some ob) (I:kB F ρ.G ρ.n cs ob):∃ρ' A,(∀o,o<H.length->ρ'.G o=ρ.G o)/\ρ'.G H.length=b/\ρ'.n=H.length+1/\WR T n B0 ρ' F A fr (H++[cs]) a w:=by
 let ρ':Maps:={ρ with G:=fO ρ.G H.length b,n:=H.length+1}
 let A:Nat->nb:=fO R b .jU
 have hG:∀o,o<H.length->ρ'.G o=ρ.G o:=by
  intro o f;show fO ρ.G H.length b o=ρ.G o;simp only[fO];rw[cO VW]
 have s:Grow F F ρ.G ρ'.G ρ.n ρ'.n:=⟨λ_ _ _ h=>h,by show ρ.n<=H.length+1;rw[h.hn];omega,λo f=>hG o (by rw[h.hn] at f;exact f)⟩;have B:tk F F ρ ρ':=⟨s,λ_=>gO _,λ_ _ _=>rfl,λ_=>gO _,λ_ _ _=>rfl⟩
 have r:Grow F F ρ.G ρ'.G H.length (H++[cs]).length:=by
  have:=s;rw[h.hn] at this;simpa using this
 have l:∀d,R d≠ .free->A d=R d:=by
  intro d t;show fO R b .jU d=R d;unfold fO;rw[cO];rintro rfl;exact t i
 have q:ρ'.G H.length=b:=by show fO ρ.G H.length b H.length=b;simp[fO]
 refine⟨ρ',A,hG,q,rfl,?_⟩;refine⟨⟨h.g.Cp,?_,?_,?_,h.g.fresh,λg x U=>(h.g.xX g x U).grow r,h.g.row⟩,h.size,h.defers,h.env.grow B,by show H.length+1=_;simp,h.lg,h.ag,?_,?_,?_,?_,?_,h.qi⟩
 .intro o u f;rcases sH o H.length with C|hge
  .rw[tz C] at f;obtain⟨J,h1,h2⟩:=h.g.jU o u f;rw[hG o C];exact⟨J,h1,h2.grow r⟩
  .have:o=H.length:=by
    have:=(mI.1 f).1;simp at this;omega
   subst this;simp at f;subst f;rw[q];exact⟨ob,S,(by have:=I.grow s;simpa using this)⟩
 .intro o o' f K he;simp at f K
  have key:∀o,o<H.length->ρ'.G o≠b:=by
   intro o f he;rw[hG o f] at he;have:=h.na o f;rw[he,i] at this;cases this
  rcases sH o H.length with h1|h1
  .rcases sH o' H.length with h2|h2
   .rw[hG o h1,hG o' h2] at he;exact h.g.inj o o' h1 h2 he
   .have e:o'=H.length:=VW
    subst e;rw[q] at he;exact absurd he (key o h1)
  .grind
 .intro o j f D;simp at f;rcases sH o H.length with h1|h1
  .rw[hG o h1];exact h.g.gF o j h1 (by rw[tz h1] at D;exact D)
  .have e:o=H.length:=VW
   subst e;rw[q];exact hF j
 .intro M u N;obtain⟨h1,h2,O,vs',P,V,W⟩:=h.box M u N;exact⟨h1,by rw[l _ (by show R (ρ.L M (fr.gen M))≠_;rw[h2];simp)];exact h2,O,vs',P,V,W.mono λ_ _ _ h=>h.grow B⟩
 .intro k m X d c sz Y;obtain⟨h1,h2,O⟩:=h.tok k m X d c sz Y;exact⟨h1,by rw[l _ (by rw[h2];simp)];exact h2,O⟩
 .intro d j v Q
  have y:d≠b:=by rintro rfl;rw[hF j] at Q;cases Q
  have e:A d=R d:=by show fO R b .jU d=R d;simp[fO,y]
  rw[e];exact h.qF d j v Q
 .intro o f;simp at f;rcases sH o H.length with h1|h1
  .have:=h.na o h1;rw[hG o h1,l _ (by rw[this];simp)];exact this
  .have e:o=H.length:=VW
   subst e;rw[q];show fO R b .jU b=.jU;simp[fO]
 .intro d t
  have y:d≠b:=by rintro rfl;have:=oz S;omega
  show fO R b .jU d=.free;simp only[fO,cO y];exact h.k4 d t
def WR.abB(h:WR T n B0 ρ F R fr H a w){b:Nat}{vs:Array Value}{ty:TypeId}{cs:List AV}(f:R b=.free)(hF:∀j,F b j=none)
  (r:w.heap[b]?=some (.cells vs ty (0,0))) (l:fU (fE F ρ.G ρ.n) cs vs.toList) (i:∀c∈cs,c.fJ=true) {d:Nat} (s:d<n):∃ρ' q,(∀o,o<H.length->ρ'.G o=ρ.G o)/\ρ'.G H.length=b/\WR T n B0 ρ' F q {fr with env:=fO fr.env d (.eb H.length 0)} (H++[cs])
   (a.put (some d) (.pointer (some ⟨b,0,none⟩))) w:=by
 obtain⟨ρ',q,hG,k,t,hw⟩:=h.Rg f hF r (.cells (.inl rfl) l i);refine⟨ρ',q,hG,k,hw.put (d:=some d) (by intro u he;injection he with he;subst he;exact s) (x:=.eb H.length 0) ?_⟩;have:=fE.eb (F:=F) (G:=ρ'.G) (n:=ρ'.n) (o:=H.length) (off:=0) (by grind);rw[k] at this;exact .p this
end
def cell_setRow_other(w:World)(g:Nat)(cs:Array Value)(b o:Nat)(h:b≠g):(w.setRow g cs).cell? ⟨b,o,none⟩=w.cell? ⟨b,o,none⟩:=
 World.cell?_of_block (w:=w) (a:=⟨b,o,none⟩) (setRow_other w g b cs h)
def size_setRow(w:World)(g:Nat)(cs:Array Value):(w.setRow g cs).heap.size=w.heap.size:=by simp_all
section
variable{T:dt} {n B0:Nat} {ρ:Maps} {F:jo} {R:Nat->nb} {fr:Fr} {H:cZ} {a:Act} {w:World}
def WR.VR(h:WR T n B0 ρ F R fr H a w){d:Nat}{cs s:List AV}{vs':Array Value}(S:fr.box d=some cs)(C:fU (iF F ρ) s vs'.toList)(x:∀c∈s,c.fJ=true):WR T n B0 ρ F R {fr with box:=fO fr.box d (some s)} H a (w.setRow (ρ.L d (fr.gen d)) vs'):=by
 obtain⟨U,O,h3,vs,ty,V,h5⟩:=h.box d cs S
 have f:∀b,R b≠ .box d->b≠ρ.L d (fr.gen d):=by
  rintro b t rfl;exact t O
 refine⟨⟨?_,?_,h.g.inj,h.g.gF,?_,h.g.xX,?_⟩,h.size,h.defers,h.env,h.hn,h.lg,h.ag,?_,?_,h.qF,h.na,?_,by rw[size_setRow];exact h.qi⟩
 .intro b o v y;rw[cell_setRow_other]
  .exact h.g.Cp b o v y
  .exact f b (h.qF b o v y d)
 .intro o i P;obtain⟨A,B,u⟩:=h.g.jU o i P;refine⟨A,?_,u⟩;rw[setRow_other]
  .exact B
  .refine f _ ?_;rw[h.na o (mI.1 P).1];simp
 .intro b j t;rw[size_setRow] at t;exact h.g.fresh b j t
 .intro W b j v y;obtain⟨D,G,I,g1,g2⟩:=h.g.row W b j v y;exact⟨D,G,I,by rw[setRow_other _ _ _ _ (f b (h.qF b j v y d))];exact g1,g2⟩
 .intro Q i l;simp only[fO] at l
  by_cases he:Q=d
  .subst he;simp only[if_true] at l;cases l;exact⟨U,O,x,vs',ty,setRow_heap w _ vs vs' ty (0,0) V,C⟩
  .simp only[cO he] at l;obtain⟨B,u,J,q,r,K,M⟩:=h.box Q i l;refine⟨B,u,J,q,r,?_,M⟩;rw[setRow_other]
   .exact K
   .refine f _ ?_;rw[u];simp[he]
 .intro k m X b c sz Y;obtain⟨B,u,J,N,⟨q,r,K,M⟩,Z⟩:=h.tok k m X b c sz Y;refine⟨B,u,J,N,⟨q,r,?_,M⟩,Z⟩;rw[setRow_other]
  .exact K
  .refine f _ ?_;rw[u];simp
 .intro b t;rw[size_setRow] at t;exact h.k4 b t
def WR.Gq(h:WR T n B0 ρ F R fr H a w){o:Nat}{cs t:List AV}{w':World}{u:Obj}(L:H[o]?=some cs)(x:cs≠[])(y:w'.heap.size=w.heap.size)(D:w'.heap[ρ.G o]?=some u)
  (d:∀b,b≠ρ.G o->w'.heap[b]?=w.heap[b]?) (N:kB F ρ.G ρ.n t u):WR T n B0 ρ F R fr (H.set o t) a w':=by
 have f:=(mI.1 L).1;have O:=h.na o f
 have P:∀b,R b≠ .jU->b≠ρ.G o:=by
  rintro b l rfl;exact l O
 have C:(H.set o t).length=H.length:=aaL
 refine⟨⟨?_,?_,?_,?_,?_,?_,?_⟩,h.size,h.defers,h.env,by rw[C];exact h.hn,h.lg,h.ag,?_,?_,h.qF,?_,?_,by rw[y];exact h.qi⟩
 .intro b o' v A
  have l:b≠ρ.G o:=by
   rintro rfl;rw[h.g.gF o o' f (by rw[L];exactλe=>x (fQ e))] at A;cases A
  have e:w'.cell? ⟨b,o',none⟩=w.cell? ⟨b,o',none⟩:=by simp[World.cell?,d b l]
  rw[e];exact h.g.Cp b o' v A
 .intro o' i I;rw[C]
  by_cases he:o=o'
  .subst he;simp only[acT f] at I;cases I;refine⟨u,D,?_⟩;rw[<-h.hn];exact N
  .rw[J0 he] at I;obtain⟨J,M,K⟩:=h.g.jU o' i I;refine⟨J,?_,K⟩;rw[d]
   .exact M
   .exactλe=>he (h.g.inj o' o (mI.1 I).1 f e).symm
 .rw[C];exact h.g.inj
 .intro o' j B q;rw[C] at B
  by_cases he:o=o'
  .subst he;exact h.g.gF o j B (by rw[L];exactλe=>x (fQ e))
  .rw[J0 he] at q;exact h.g.gF o' j B q
 .intro b j l;rw[y] at l;exact h.g.fresh b j l
 .rw[C];exact h.g.xX
 .intro Z b j v A;obtain⟨Q,S,U,g1,g2⟩:=h.g.row Z b j v A;refine⟨Q,S,U,?_,g2⟩;rw[d]
  .exact g1
  .rintro rfl;rw[h.g.gF o j f (by rw[L];exactλe=>x (fQ e))] at A;cases A
 .intro d' i V;obtain⟨M,K,W,r,s,X,Y⟩:=h.box d' i V;refine⟨M,K,W,r,s,?_,Y⟩;rw[d]
  .exact X
  .refine P _ ?_;rw[K];simp
 .intro k m hk b c sz hA;obtain⟨M,K,W,ad,⟨r,s,X,Y⟩,e6⟩:=h.tok k m hk b c sz hA
  grind
 .rw[C];exact h.na
 .intro b l;rw[y] at l;exact h.k4 b l
def WR.Qs(h:WR T n B0 ρ F R fr H a w){o:Nat}{cs d:List AV}{vs':Array Value}(r:H[o]?=some cs)(f:qK cs=true)(i:fU (fE F ρ.G ρ.n) d vs'.toList)(hlen:d.length=cs.length)(j:∀c∈d,c.fJ=true):WR T n B0 ρ F R fr (H.set o d) a (w.setRow (ρ.G o) vs'):=by
 obtain⟨ob,s,t⟩:=h.g.jU o cs r;obtain⟨vs,ty,u,rfl,k,l,_⟩:=t.BZ f
 have q:vs'.size=vs.size:=by
  have x:=i.length;have y:=l.length
  grind
 exact h.Gq r (by rintro rfl;simp[qK] at f) (size_setRow w _ _) (setRow_heap w _ vs vs' ty u s) (λb v=>setRow_other w _ b _ v) (.cells (by rw[q];exact k) i j)
end
end Go.kC
