/- Part of the proof of SchemeComputes: layer. -/
import Derived.Laws.Build
import Derived.Laws.StructEq
import Derived.Laws.BytesArg
import Derived.Test.YtpgdkkomegalnaaGreatDoorCL2
set_option linter.all false
namespace Go.ld
open Go
def lp(sz:Nat)(l:List AV):Bool:=
 match l with
 |[]=>true|x::_=>x.cells.length==sz
def ru{sz a:Nat}{l:List AV}(h:lp sz l=true)(hs:∀x∈l,x.cells.length=a):∀x∈l,x.cells.length=sz:=by
 cases l with
 |nil=>simp|cons x l=>grind[lp]
def MD:Option AV->Option (Option Nat)
 |none=>some none|some (.sc (.int _ n))=>if 0<=n then some (some n.toNat)else none|_=>none
def o3(P:Program)(t:TypeId)(x:AV)(lo hi a:Option AV):Option AV:=
 match MD lo,MD hi,MD a with
 |some lo,some hi,some a=>
  match P.underlying t,x with
  |some (.slice e),.slice _ l=>
   match gb P e with
   |none=>none|some (_,sz)=>
    if hi.getD l.length<=l.length/\lo.getD 0<=hi.getD l.length/\lp sz l then
     match a with
     |none=>some (.slice .gK ((l.take (hi.getD l.length)).drop (lo.getD 0)))|some m=>if hi.isSome/\hi.getD l.length<=m/\m<=l.length then some (.slice (if m=hi.getD l.length then .full else .gK) ((l.take (hi.getD l.length)).drop (lo.getD 0)))else none
    else none
  |some .string,.sc (.string s)=>
   if a.isNone/\hi.getD s.size<=s.size/\lo.getD 0<=hi.getD s.size then some (.sc (.string (s.extract (lo.getD 0) (hi.getD s.size))))else none
  |_,_=>none
 |_,_,_=>none
def AQ(F:kT)(ρ:Maps):Option AV->Option Value->Prop
 |none,none=>True|some x,some v=>gI F ρ x v|_,_=>False
section
variable{P:Program} {F:kT} {ρ:Maps}
def ID{x:Option AV}{v:Option Value}{r:Option Nat}(h:MD x=some r)(a:AQ F ρ x v):(r=none/\v=none)\/∃k n,v=some (.int k n)/\0<=n/\r=some n.toNat:=by
 unfold MD at h
 split at h
 ·cases v with
  |none=>injection h with h;exact .inl ⟨h.symm,rfl⟩|some v=>exact a.elim
 ·rename_i k n
  split at h
  ·injection h with h;cases v with
   |none=>exact a.elim|some v=>
    cases gl a
    grind
  ·cases h
 ·cases h
def yq(w:World)(k:IntKind)(n:Int)(y:Nat)(c:BoundsCode)(a:0<=n)(b:n.toNat<=y):(Instr.sliceBound (.int k n) y c).run P w=.ok n.toNat w:=by
 unfold Instr.sliceBound;simp only[asIntOf,ia,pH,kl];rw[dR ⟨a,VW⟩];rfl
def IW(w:World)(d:Bool){lo hi l:Option AV}{o q r:Option Value}{a h m:Option Nat}{len cap:Nat}
  (t:MD lo=some a) (u:MD hi=some h) (v:MD l=some m) (x:AQ F ρ lo o) (y:AQ F ρ hi q) (A:AQ F ρ l r)
  (hm:m.getD cap<=cap) (f:h.getD len<=m.getD cap) (i:a.getD 0<=h.getD len) (j:m.isSome=true->h.isSome=true):(Instr.sliceBounds d len cap o q r).run P w=.ok (a.getD 0,h.getD len,m.getD cap) w:=by
 rcases ID v A with⟨rfl,rfl⟩|⟨k,n,rfl,hn,rfl⟩<;>rcases ID u y with⟨rfl,rfl⟩|⟨k2,n2,rfl,b,rfl⟩<;>
  rcases ID t x with⟨rfl,rfl⟩|⟨s,n1,rfl,c,rfl⟩<;>simp only[Option.getD_none,ae_] at hm f i|-<;>
  (first
   |(simp at j;done)
   |(simp only[Instr.sliceBounds,ia,pH,kl];done)
   |(simp only[Instr.sliceBounds,ia,pH,kl,yq (P:=P) w s n1 _ _ c i];done)
   |(simp only[Instr.sliceBounds,ia,pH,kl,yq (P:=P) w k2 n2 _ _ b f];done)
   |(simp only[Instr.sliceBounds,ia,pH,kl,yq (P:=P) w k n _ _ hn hm,yq (P:=P) w k2 n2 _ _ b f,yq (P:=P) w s n1 _ _ c i];done))
def U9(w:World){t:TypeId}{x r:AV}{u:Value}{lo hi U:Option AV}{G H C:Option Value}(h:o3 P t x lo hi U=some r)(q:gI F ρ x u)
  (V:AQ F ρ lo G) (W:AQ F ρ hi H) (I:AQ F ρ U C):∃v,(Instr.sliceAt t u G H C).run P w=.ok v w/\gI F ρ r v:=by
 unfold o3 at h
 split at h
 ·rename_i a f m X Y J
  split at h
  ·rename_i e tag l hu
   split at h
   ·cases h
   ·rename_i ag sz hl
    split at h
    ·rename_i K;obtain⟨L,j,k⟩:=K;obtain⟨base,cap,b,o,ad,vs,rfl,hs,_,_⟩:=ny q;have n:=ru k hs.sz
     have step:∀(i:Nat),i=m.getD cap->i<=cap->f.getD l.length<=i->(m.isSome=true->f.isSome=true)->∀D,(D=Tag.gK\/D=Tag.full/\i=f.getD l.length)->∃v,(Instr.sliceAt t (.slice base l.length cap) G H C).run P w=.ok v w/\gI F ρ (.slice D ((l.take (f.getD l.length)).drop (a.getD 0))) v:=by
      intro i M ae af N D O;have Q:=IW (P:=P) (F:=F) (ρ:=ρ) w true (len:=l.length) (cap:=cap) X Y J V W I VW VW j N
      refine⟨.slice (if i=a.getD 0 then base else base.map (·.add (a.getD 0*sz))) (f.getD l.length-a.getD 0) (i-a.getD 0),?_,?_⟩
      ·unfold Instr.sliceAt;rw[ia,run_underlying hu];simp only[kl];unfold Instr.slice;rw[ia,run_underlying hu];simp only[kl,ia,Q,kN hl,pH,<-M]
      ·have hlen:((l.take (f.getD l.length)).drop (a.getD 0)).length=f.getD l.length-a.getD 0:=by
        rw[T6,Dl];omega
       rw[<-hlen]
       have d:((l.take (f.getD l.length)).drop (a.getD 0)).flatMap AV.cells=((l.flatMap AV.cells).take (f.getD l.length*sz)).drop (a.getD 0*sz):=by
        rw[y9 (sz:=sz) (λx q=>n x (DE q)),Fa n]
       refine .p (.slice (b:=b) (o:=o+a.getD 0*sz) (sz:=sz) (vs:=(vs.take (f.getD l.length*sz)).drop (a.getD 0*sz)) ?_ ?_ ?_ ?_ ?_ ?_ ?_ ?_)
       ·rw[d];exact(hs.cells.take _).drop _
       ·exact(hs.has.take _).drop _
       ·intro y;have Z:0<((l.take (f.getD l.length)).drop (a.getD 0)).length:=UP.2 y
        have R:l≠[]:=by rintro rfl;simp at y
        rw[dK VW,hs.base R];simp[Addr.add_lit]
       ·exactλx q=>n x (DE (Ib q))
       ·intro c A;rw[d] at A;exact hs.so c (DE (Ib A))
       ·omega
       ·have:=hs.EC;omega
       ·rcases O with h|⟨h,h'⟩
        ·exact .inl h
        ·exact .inr ⟨h,VW⟩
     split at h
     ·cases h;exact step cap rfl (g_ _) (by have:=hs.Cu;omega) aaA .gK (.inl rfl)
     ·rename_i i
      split at h
      ·rename_i B;cases h;have ah:=hs.Cu;refine step i rfl VW B.2.1 (λ_=>B.1) _ ?_
       by_cases he:i=f.getD l.length
       ·rw[dR he];exact .inr ⟨rfl,he⟩
       ·rw[dK he];exact .inl rfl
      ·cases h
    ·cases h
  ·rename_i s hu
   split at h
   ·rename_i K;obtain⟨L,j,k⟩:=K;cases h;cases gl q
    have S:m=none:=by cases m<;>simp_all
    subst S
    have T:C=none:=by
     rcases ID J I with⟨_,h⟩|⟨_,_,_,_,h⟩
     ·exact h
     ·cases h
    subst T;have Q:=IW (P:=P) (F:=F) (ρ:=ρ) w false (len:=s.size) (cap:=s.size) X Y J V W I aaA (by simpa using j) k aaA;refine⟨_,?_,.p (.sc rfl)⟩;unfold Instr.sliceAt;rw[ia,run_underlying hu];simp only[kl];unfold Instr.slice;rw[ia,run_underlying hu];simp only[kl,Option.isSome_none,ox,jb,ia,pH,Q]
   ·cases h
  ·cases h
 ·cases h
end
def placesOf(P:Program)(t:TypeId):Option (List (Nat×Nat)):=
 match P.underlying t with
 |some (.struct fs)=>fs.toList.mapM λf=>(P.info? f.type).map λi=>(f.offset,i.size)|_=>none
def gw(P:Program)(t i:Nat):Option (Nat×Nat):=
 match placesOf P t with
 |some a=>a[i]?|none=>match Pv P t with
  |some (_,e)=>(P.info? e).map λf=>(i*f.size,f.size)|none=>none
def fC:AV->Bool
 |.tuple _=>false|_=>true
def Hv(P:Program)(t:TypeId):List AV->List (Nat×AV)->Option (List AV)
 |cs,[]=>some cs|cs,(i,x)::rest=>
  match gw P t i with
  |some (off,size)=>if x.cells.length=size/\off+size<=cs.length/\fC x then Hv P t (setCells cs off x.cells) rest else none|none=>none
def pV(P:Program)(t:TypeId):Option (List AV):=
 match zeroOf P t with
 |some (.agg z)=>if z.all (·.oneCell')=true/\((placesOf P t).isSome\/((Pv P t).bind λp=>P.info? p.2).isSome)then some (z.toList.map qx)else none|_=>none
def Gh(P:Program)(t:TypeId)(parts:List (Nat×AV)):Option AV:=
 match pV P t with
 |some z=>(Hv P t z parts).map .agg|none=>none
def foldl_set(new:List Value):∀(k off:Nat) (vs:Array Value),off+k+new.length<=vs.size->((new.zipIdx k).foldl (λcs (x:Value×Nat)=>cs.setIfInBounds (off+x.2) x.1) vs).toList=vs.toList.take (off+k)++new++vs.toList.drop (off+k+new.length):=by
 induction new with
 |nil=>intro k off vs h;simp|cons v new ih=>
  intro k off vs h;simp only[List.zipIdx_cons,List.foldl_cons,mN] at h|-;rw[ih (k+1) off _ abu]
  have a:off+k<vs.toList.length:=abu
  simp only[aiy]
  have b:(vs.toList.set (off+k) v).take (off+(k+1))=vs.toList.take (off+k)++[v]:=by
    rw[<-afo,List.take_succ_eq_append_getElem (by simpa using a),List.take_set]
    congr 1
    ·apply List.set_eq_of_length_le;simp[Dl];omega
    ·simp
  have c:(vs.toList.set (off+k) v).drop (off+(k+1)+new.length)=vs.toList.drop (off+k+(new.length+1)):=by
    rw[List.drop_set_of_lt VW]
    congr 1
    omega
  rw[b,c];simp
section
variable{P:Program} {F:kT} {ρ:Maps}
def hQ.setCells{R:AV->Value->Prop}{cs new:List AV}{vs nv:List Value}(h:hQ R cs vs)(a:hQ R new nv)(off:Nat):hQ R (setCells cs off new) (vs.take off++nv++vs.drop (off+new.length)):=by
 exact((h.take off).append a).append (h.drop _)
def iS{x:AV}(h:fC x=true):∀vs,x≠ .tuple vs:=by grind[fC]
def Pp{t:TypeId}(place:Nat->Option (Nat×Nat))(G:∀i y,gw P t i=some y->place i=some y):∀(parts:List (Nat×AV)) (pv:List (Nat×Value)) (cs r:List AV) (vs:Array Value),Hv P t cs parts=some r->hQ (jZ F ρ) cs vs.toList->(∀c∈cs,c.gO=true)->hQ (λ(x:Nat×AV) (y:Nat×Value)=>x.1=y.1/\gI F ρ x.2 y.2) parts pv->∃ws:Array Value,Instr.fill place vs pv=some ws/\hQ (jZ F ρ) r ws.toList/\∀c∈r,c.gO=true:=by
 intro parts
 induction parts with
 |nil=>
  intro pv cs r vs h k a d;cases d;simp[Hv] at h;subst h;exact⟨vs,rfl,k,a⟩
 |cons p parts ih=>
  intro pv cs r vs h k a d;obtain⟨i,x⟩:=p;cases d with
  |cons H l=>
   rename_i q pv;obtain⟨j,v⟩:=q;obtain⟨o,w⟩:=H;simp only at o w;subst o;simp only[Hv] at h
   split at h
   ·rename_i off size A
    split at h
    ·rename_i I;obtain⟨J,K,s⟩:=I;have b:=w.cells (iS s);have hlen:=b.length
     have L:vs.size=cs.length:=by simpa using k.length.symm
     have M:v.cells.toList.length=v.cells.size:=aaA
     have f:=foldl_set v.cells.toList 0 off vs (by simp only[GL];omega);have gx:=k.setCells b off;rw[hlen] at gx;simp only[GL] at f;rw[<-f] at gx
     obtain⟨ws,B,C,D⟩:=ih pv _ _ _ h gx (by
      intro c u;simp only[ld.setCells,tO] at u;rcases u with(hm|hm)|hm
      ·exact a c (DE hm)
      ·exact w.so (iS s) c hm
      ·exact a c (Ib hm)) l
     refine⟨ws,?_,C,D⟩;unfold Instr.fill;rw[G _ _ A]
     have n:(v.cells.size≠size||decide (off+v.cells.size>vs.size))=false:=by
      simp only[Bool.or_eq_false_iff,ai3,ne_eq,Decidable.not_not];constructor<;>omega
     show(if(decide (v.cells.size≠size)||decide (off+v.cells.size>vs.size)) then none else Instr.fill place (v.cells.zipIdx.foldl (λcs (x:Value×Nat)=>cs.setIfInBounds (off+x.2) x.1) vs) pv)=some ws;rw[dK (by rw[n];simp),<-aix,aiM];exact B
    ·cases h
   ·cases h
def HX(w:World):∀(fs:List Field) (b:List (Nat×Nat)),(fs.mapM λf=>(P.info? f.type).map λi=>(f.offset,i.size))=some b->(fs.mapM λf=>(do pure (f.offset,<-sizeOf f.type):Sem (Nat×Nat))).run P w=.ok b w:=by
 intro fs
 induction fs with
 |nil=>intro b h;simp at h;subst h;rfl
 |cons f fs ih=>
  intro b h;simp only[abv,Option.bind_eq_bind,adS] at h;obtain⟨p,a,c,d,h⟩:=h;cases hi:P.info? f.type with
  |none=>rw[hi] at a;cases a
  |some i=>
   rw[hi] at a;simp at a h;subst a;subst h;simp only[abv,ia,sizeOf,typeInfo,program,Sem.run,hi,kl,pH];have:=ih c d;simp only[ia,sizeOf,typeInfo,program] at this;rw[this];rfl
def run_map{α β:Type}(w:World)(f:α->β)(x:Sem α):(Functor.map f x).run P w=(x.run P w).andThen λa w'=>.ok (f a) w':=by
 show(x>>=λa=>pure (f a)).run P w=_;rw[ia];rfl
def run_build(w:World){t:TypeId}{parts:List (Nat×AV)}{r:AV}{pv:List (Nat×Value)}(h:Gh P t parts=some r)
  (l:hQ (λ(x:Nat×AV) (y:Nat×Value)=>x.1=y.1/\gI F ρ x.2 y.2) parts pv):∃v,(Instr.build t pv.toArray).run P w=.ok v w/\gI F ρ r v:=by
 have h:∃z:Array Value,zeroOf P t=some (.agg z)/\(z.all (·.oneCell')=true/\((placesOf P t).isSome\/((Pv P t).bind λp=>P.info? p.2).isSome))/\(Hv P t (z.toList.map qx) parts).map .agg=some r:=by
  unfold Gh pV at h
  split at h
  ·rename_i z0 d
   split at d
   ·rename_i z o
    split at d
    ·rename_i C;injection d with d;subst d;exact⟨z,o,C,h⟩
    ·cases d
   ·cases d
  ·cases h
 obtain⟨z,o,C,h⟩:=h
 ·--Q literal
  ·obtain⟨D,k⟩:=C;cases K:Hv P t (z.toList.map qx) parts with
   |none=>rw[K] at h;cases h
   |some cs=>
    rw[K] at h;cases h
    have H:(zeroValue t).run P w=.ok (.agg z) w:=by
     unfold zeroOf at o;cases hi:P.info? t with
     |none=>rw[hi] at o;cases o
     |some i=>
      rw[hi] at o;simp at o;simp[zeroValue,typeInfo,hi,o]
    have s:∀v∈z.toList,v.oneCell'=true:=λv R=>Lq.1 D v (yp.1 R);have I:hQ (jZ F ρ) (z.toList.map qx) z.toList:=(qM F ρ.G ρ.n _ s).qF.mono λ_ _ _ h=>.p h
    have J:∀c∈z.toList.map qx,c.gO=true:=by
     intro c C;obtain⟨a,_,rfl⟩:=qz.1 C;exact zU a
    cases b:placesOf P t with
    |some L=>
     have M:∃fs,P.underlying t=some (.struct fs)/\(fs.toList.mapM λf=>(P.info? f.type).map λi=>(f.offset,i.size))=some L:=by
      unfold placesOf at b
      split at b
      ·exact⟨_,by assumption,b⟩
      ·cases b
     obtain⟨fs,hu,hm⟩:=M
     obtain⟨ws,u,A,B⟩:=Pp (P:=P) (F:=F) (ρ:=ρ) (t:=t) (L.toArray[·]?) (by
      intro i y q;unfold gw at q;rw[b] at q
      simpa using q) parts pv _ _ z K I J l
     refine⟨.agg ws,?_,by simpa using gI.agg (vs:=ws.toList) A B⟩;unfold Instr.build;simp only[ia,H,kl,run_underlying hu];have N:=HX (P:=P) w fs.toList L hm;rw[<-Va (xs:=fs),aiJ,run_map,N];simp only[pH,kl,Value.cells,u]
    |none=>
     cases j:Pv P t with
     |none=>simp[b,j] at k
     |some ne=>
      obtain⟨n,e⟩:=ne
      have hu:P.underlying t=some (.array n e):=by
       unfold Pv at j
       split at j
       ·rename_i hu;cases j;exact hu
       ·cases j
      cases hi:P.info? e with
      |none=>simp[b,j,hi] at k
      |some O=>
       obtain⟨ws,u,A,B⟩:=Pp (P:=P) (F:=F) (ρ:=ρ) (t:=t) (λi=>some (i*O.size,O.size)) (by
        intro i y q;unfold gw at q;rw[b] at q;simp[j,hi] at q
        simp[q]) parts pv _ _ z K I J l
       refine⟨.agg ws,?_,by simpa using gI.agg (vs:=ws.toList) A B⟩;unfold Instr.build;simp only[ia,H,kl,run_underlying hu,sizeOf,typeInfo,program,Sem.run,hi,pH,Value.cells,u]
end
end Go.ld
namespace Go.ld
open Go
def xU(P:Program):List Field->List AV->List AV->Option Bool
 |[],_,_=>some true|f::fs,xs,ys=>
  if f.name= "_" then xU P fs xs ys else
  match P.underlying f.type,mB P f.type xs f.offset,mB P f.type ys f.offset with
  |some (.int _),some (.sc (.int k a)),some (.sc (.int k' b))=>if k=k' then(xU P fs xs ys).map λr=>(a==b)&&r else none|some .string,some (.sc (.string a)),some (.sc (.string b))=>(xU P fs xs ys).map λr=>(a.toList==b.toList)&&r|some .bool,some (.sc (.bool a)),some (.sc (.bool b))=>(xU P fs xs ys).map λr=>(a==b)&&r|_,_,_=>none
def aiB(P:Program)(t:TypeId):Bool:=!P.eqGuardType P.depth t&&!P.stoodInHeld t
def Mp(P:Program)(t:TypeId)(xs a:List AV):Option Bool:=
 match P.underlying t with
 |some (.struct fs)=>if aiB P t then xU P fs.toList xs a else none|_=>none
def qC(P:Program)(op:BinOp)(t:TypeId)(x y:AV):Option AV:=
 match op,x,y with
 |.eql,.agg xs,.agg a=>(Mp P t xs a).map λb=>.sc (.bool b)|.neq,.agg xs,.agg a=>(Mp P t xs a).map λb=>.sc (.bool (!b))|op,x,y=>uN P op t x y
def RL(P:Program)(op:BinOp)(t:TypeId):Operand->AV->AV->Option AV
 |.const .nilIface,.sc .nilIface,_=>match op,P.underlying t with
  |.eql,some (.interface _)=>some (.sc (.bool true))|.neq,some (.interface _)=>some (.sc (.bool false))|_,_=>none
 |_,u,v=>qC P op t u v
def Ji:List AV->Option (List Int)
 |[]=>some []|.sc (.int .u8 n)::l=>(Ji l).map (n:: ·)|_::_=>none
def acu(P:Program)(s d:TypeId)(l:List AV):Option AV:=
 match P.underlying s,P.underlying d with
 |some (.slice e),some .string=>match P.underlying e,Ji l with
  |some (.int .u8),some a=>some (.sc (.string (strOfNums a)))|_,_=>none
 |_,_=>none
def Xj(P:Program)(s d:TypeId)(x:AV):Option AV:=
 match P.underlying s,P.underlying d,x with
 |some _,some (.int k),.sc (.int _ n)=>some (.sc (.int k (k.wrap n)))|some _,some .string,.sc (.string b)=>some (.sc (.string b))|_,_,_=>none
def VY(P:Program)(s d:TypeId)(x:AV):Option AV:=
 match x with
 |.slice _ l=>acu P s d l|x=>Xj P s d x
def HY(P:Program)(t:TypeId)(x:AV):Option AV:=
 match P.underlying t,x with
 |some (.slice _),.slice _ l=>some (.sc (.int .i64 l.length))|some (.slice _),.xX _ _ len _=>some (.sc (.int .i64 len))|some (.slice _),.NX=>some (.sc (.int .i64 0))|some (.slice _),.z' _ _ len _=>some (.sc (.int .i64 len))|some .string,.sc (.string s)=>some (.sc (.int .i64 s.size))|some (.array n _),_=>some (.sc (.int .i64 n))|_,_=>none
def S8:AV->AV->Option AV
 |.sc (.int k a),.sc (.int _ b)=>some (.sc (.int k (if b>a then b else a)))|_,_=>none
def Yv:AV->AV->Option AV
 |.sc (.int k a),.sc (.int _ b)=>some (.sc (.int k (if b<a then b else a)))|_,_=>none
def Mk(f:AV->AV->Option AV):AV->List AV->Option AV
 |x,[]=>some x|x,y::l=>(f x y).bind λz=>Mk f z l
def yC(P:Program)(T:eO)(fr:Fr)(c:Call):Option AV:=
 match c.callee with
 |.builtin .len=>match c.argTypes[0]?,c.args[0]?with
  |some t,some x=>HY P t (ev T fr x)|_,_=>none
 |.builtin .max=>match c.args.toList with
  |x::l=>Mk S8 (ev T fr x) (l.map (ev T fr))|[]=>none
 |.builtin .min=>match c.args.toList with
  |x::l=>Mk Yv (ev T fr x) (l.map (ev T fr))|[]=>none
 |_=>none
def NC(P:Program)(t:TypeId)(x:AV):Option AV:=
 match x with
 |.iface a v=>match P.underlying t with
  |some (.interface _)=>none|some _=>if a=t then some (.tuple [v,.sc (.bool true)])else match zeroOf P t with
   |some z=>if zB z then some (.tuple [ofValue z,.sc (.bool false)])else none|none=>none
  |none=>none
 |_=>none
def AG(P:Program)(T:eO)(fr:Fr)(o:Oper):Option AV:=
 match o.op with
 |.typeAssert x _ t true=>NC P t (ev T fr x)|.move x=>some (ev T fr x)|.assign x=>some (ev T fr x)|.pick c a b=>match ev T fr c with
  |.sc (.bool t)=>some (if t then ev T fr a else ev T fr b)|_=>none
 |.build t h=>Gh P t (h.toList.map λp=>(p.1,ev T fr p.2))|.binOp op t x y _=>RL P op t y (ev T fr x) (ev T fr y)|.unOp op _ x=>unA op (ev T fr x)|.convert s d x=>VY P s d (ev T fr x)|.makeFunc fn f c=>some (.func fn (f.toList.map λx=>(ev T fr x).norm) (c.toList.map λx=>(ev T fr x).norm))|.fieldAddr t x i=>tF P t (ev T fr x) i|.field t x i=>DJ P t (ev T fr x) i|.indexAddr t x i=>gJ P t (ev T fr x) (ev T fr i)|.index t x i=>Sf P t (ev T fr x) (ev T fr i)|.slice t x lo hi j=>o3 P t (ev T fr x) (lo.map (ev T fr)) (hi.map (ev T fr)) (j.map (ev T fr))|.extract x i=>match ev T fr x with
  |.tuple vs=>vs[i]?|_=>none
 |.nilCheck x=>match ev T fr x with
  |.func (.func f) a b=>some (.func (.func f) a b)|x=>if E' x then some x else none
 |.makeInterface t x=>if P.concrete t then some (.iface t (ev T fr x).norm)else none|.call c=>yC P T fr c|_=>none
section
variable{P:Program} {T:eO} {F:kT} {ρ:Maps} {fr:Fr} {a:Act}
def OC(w:World){t k:TypeId}{x r:AV}{u:Value}(h:NC P t x=some r)(o:gI F ρ x u):∃v,(Instr.typeAssert u k t true).run P w=.ok v w/\gI F ρ r v:=by
 unfold NC at h
 split at h
 ·rename_i c v
  obtain⟨b,rfl,q⟩:∃b,u=.iface c b/\gR F ρ.G ρ.n v b:=by
   cases o with
   |cell h=>cases h with
    |p h=>cases h with|iface h=>exact⟨_,rfl,h⟩
  split at h
  ·cases h
  ·rename_i ty d hu
   have l:(Instr.typeAssert (.iface c b) k t true).run P w=(if c=t then(pure (.tuple #[b,.bool true]):Sem Value)else do pure (.tuple #[<-zeroValue t,.bool false])).run P w:=by
    unfold Instr.typeAssert;simp only[ia,run_underlying hu,kl]
    cases ty<;>first|rfl|exact absurd rfl (d _)
   split at h
   ·rename_i e;subst e;cases h;refine⟨_,by rw[l,dR rfl];rfl,.p ?_⟩;exact .tuple (vs:=[b,.bool true]) (.cons q (.cons (.sc rfl) .nil))
   ·rename_i f
    split at h
    ·rename_i z a
     split at h
     ·rename_i s;cases h;refine⟨.tuple #[z,.bool false],?_,.p ?_⟩
      ·rw[l,dK f]
       have j:(zeroValue t).run P w=.ok z w:=by
        unfold zeroOf at a;cases hi:P.info? t with
        |none=>rw[hi] at a;cases a
        |some i=>
         rw[hi] at a;have a:i.zero=some z:=a;simp[zeroValue,typeInfo,hi,a]
       simp only[ia,j,kl];rfl
      ·exact .tuple (vs:=[z,.bool false]) (.cons (zk _ _ _ z s) (.cons (.sc rfl) .nil))
     ·cases h
    ·cases h
  ·cases h
 ·cases h
def Iu(he:tJ F ρ fr a)(b:zm T F ρ):∀(xs:List Operand),(∀x∈xs,jq x=true)->hQ (gI F ρ) (xs.map (ev T fr)) (xs.map a.eval)
 |[],_=>.nil|x::xs,h=>.cons (gH he b x (h x aaA)) (Iu he b xs λy c=>h y (by simp[c]))
def Jw(he:tJ F ρ fr a)(b:zm T F ρ)(xs:List Operand)(h:∀x∈xs,jq x=true):hO F ρ.G ρ.n (xs.map λx=>(ev T fr x).norm) (xs.map a.eval):=by
 have:=(Iu he b xs h).wk AV.norm λ_ _ _ h=>gI.norm h;rw[Bq] at this;exact .pc this
def Kh(he:tJ F ρ fr a)(c:zm T F ρ):∀(b:List (Nat×Operand)),(∀p∈b,jq p.2=true)->hQ (λ(x:Nat×AV) (y:Nat×Value)=>x.1=y.1/\gI F ρ x.2 y.2) (b.map λp=>(p.1,ev T fr p.2)) (b.map λp=>(p.1,a.eval p.2))
 |[],_=>.nil|p::b,h=>.cons ⟨rfl,gH he c p.2 (h p aaA)⟩ (Kh he c b λq d=>h q (by simp[d]))
def RQ(he:tJ F ρ fr a)(b:zm T F ρ)(x:Option Operand)(h:∀y,x=some y->jq y=true):AQ F ρ (x.map (ev T fr)) (x.map a.eval):=by
 cases x with
 |none=>trivial|some y=>exact gH he b y (h y rfl)
def OX{v:Value}(h:gI F ρ .NX v):∃base,v=.slice base 0 0:=by
 cases h with
 |cell h=>cases h with
  |p h=>cases h with|NX=>exact⟨_,rfl⟩
def Yt(w:World){t ty:TypeId}{x r:AV}{u:Value}(h:HY P t x=some r)(a:gI F ρ x u){ts:Array TypeId}{us:Array Value}(c:ts[0]?=some t)(d:us[0]?=some u):∃v,(Builtin.len_ ts ty us).run P w=.ok v w/\gI F ρ r v:=by
 unfold HY at h;unfold Builtin.len_;simp only[c,d]
 split at h
 ·rename_i e tag l hu;cases h;obtain⟨base,cap,b,o,sz,vs,rfl,hs,_,_⟩:=ny a;exact⟨_,by simp only[ia,run_underlying hu,kl];rfl,.p (.sc rfl)⟩
 ·rename_i e b g len cap hu;cases h;obtain⟨rfl,_,_,_⟩:=Bs a;exact⟨_,by simp only[ia,run_underlying hu,kl];rfl,.p (.sc rfl)⟩
 ·rename_i e hu;cases h;obtain⟨base,rfl⟩:=OX a;exact⟨_,by simp only[ia,run_underlying hu,kl];rfl,.p (.sc rfl)⟩
 ·rename_i e b len cap hu;cases h;obtain⟨rfl,_,_,_⟩:=J9 a;exact⟨_,by simp only[ia,run_underlying hu,kl];rfl,.p (.sc rfl)⟩
 ·rename_i s hu;cases h;cases gl a;exact⟨_,by simp only[ia,run_underlying hu,kl];rfl,.p (.sc rfl)⟩
 ·rename_i n e hu;cases h;exact⟨_,by simp only[ia,run_underlying hu,kl];rfl,.p (.sc rfl)⟩
 ·cases h
def L6(w:World){f:AV->AV->Option AV}{g:Value->Value->Sem Value}(d:∀x y r u v,f x y=some r->gI F ρ x u->gI F ρ y v->∃z,(g u v).run P w=.ok z w/\gI F ρ r z):∀(l:List AV) (x r:AV) (u:Value) (us:List Value),Mk f x l=some r->gI F ρ x u->hQ (gI F ρ) l us->∃z,(us.foldlM g u).run P w=.ok z w/\gI F ρ r z:=by
 intro l
 induction l with
 |nil=>
  intro x r u us h a b;cases b;cases h;exact⟨u,rfl,a⟩
 |cons y l ih=>
  intro x r u us h a b;cases b with
  |cons i j=>
   simp only[Mk,adS] at h;obtain⟨z,k,h⟩:=h;obtain⟨s,n,c⟩:=d _ _ _ _ _ k a i;obtain⟨t,o,q⟩:=ih _ _ _ _ h c j
   simp_all
def WX(w:World)(x y r:AV)(u v:Value)(h:S8 x y=some r)(a:gI F ρ x u)(b:gI F ρ y v):∃z,(Builtin.max2 u v).run P w=.ok z w/\gI F ρ r z:=by
 unfold S8 at h
 split at h
 ·cases gl a;cases gl b;cases h;exact⟨_,rfl,.p (.sc rfl)⟩
 ·cases h
def YN(w:World)(x y r:AV)(u v:Value)(h:Yv x y=some r)(a:gI F ρ x u)(b:gI F ρ y v):∃z,(Builtin.min2 u v).run P w=.ok z w/\gI F ρ r z:=by
 unfold Yv at h
 split at h
 ·cases gl a;cases gl b;cases h;exact⟨_,rfl,.p (.sc rfl)⟩
 ·cases h
def RB(w:World){xs j:List AV}{us vs:List Value}(s:hQ (jZ F ρ) xs us)(o1:∀c∈xs,c.gO=true)(t:hQ (jZ F ρ) j vs)(o2:∀c∈j,c.gO=true):∀(fs:List Field) (b:Bool),xU P fs xs j=some b->(Op.eqFields 9999 us.toArray vs.toArray fs).run P w=.ok b w:=by
 intro fs
 induction fs with
 |nil=>intro b h;simp[xU] at h;subst h;rfl
 |cons f fs ih=>
  intro b h;unfold xU at h;unfold Op.eqFields
  split at h
  ·rename_i hn;rw[dK (by simpa using hn)];exact ih b h
  ·rename_i hn;rw[dR (by simpa using hn)]
   have step:∀{x y:Value} {r:Bool},mB P f.type xs f.offset=some (.sc x)->mB P f.type j f.offset=some (.sc y)->(Op.equalIn 9999 f.type x y).run P w=.ok r w->(xU P fs xs j).map (λq=>r&&q)=some b->(do
      let a<-part f.type us.toArray f.offset
      let b<-part f.type vs.toArray f.offset
      let r<-Op.equalIn 9999 f.type a b
      if(!r) then pure false else Op.eqFields 9999 us.toArray vs.toArray fs:Sem Bool).run P w=.ok b w:=by
    intro x y r d i u n;obtain⟨H,v,A⟩:=Fs (P:=P) w s o1 d;obtain⟨I,B,C⟩:=Fs (P:=P) w t o2 i;obtain rfl:=gl A;obtain rfl:=gl C;simp only[ia,v,B,u,kl];cases o:xU P fs xs j with
    |none=>rw[o] at n;cases n
    |some q=>
     rw[o] at n;simp only[abj,CA] at n;cases r
     all_goals simp_all
   split at h
   ·rename_i k D a k2 l hu d i
    split at h
    ·rename_i G;subst G;exact step d i (run_equalIn_int w 9998 f.type D k a l hu) h
    ·cases h
   ·rename_i a l hu d i;exact step d i (run_equalIn_string w 9998 f.type a l hu) h
   ·rename_i a l hu d i;exact step d i (run_equalIn_bool' w 9998 f.type a l hu) h
   ·cases h
def Tv(P:Program)(w:World){t:TypeId}{ms:Array (String×TypeId)}(hu:P.underlying t=some (.interface ms)):(binOp .eql t .nilIface .nilIface).run P w=.ok (.bool true) w/\(binOp .neq t .nilIface .nilIface).run P w=.ok (.bool false) w:=by
 have h:∀d,(Op.equalIn (d+1) t .nilIface .nilIface).run P w=.ok true w:=λd=>by simp[Op.equalIn,run_underlying hu]
 have a:binOp .eql t .nilIface .nilIface=(do pure (.bool (<-Op.equalIn (9999+1) t .nilIface .nilIface))):=rfl;have b:binOp .neq t .nilIface .nilIface=(do pure (.bool (!(<-Op.equalIn (9999+1) t .nilIface .nilIface)))):=rfl;rw[a,b,ia,ia,h 9999];exact⟨rfl,rfl⟩
def XW(w:World){op:BinOp}{t:TypeId}{x y r:AV}{u v:Value}(h:qC P op t x y=some r)(f:gI F ρ x u)(i:gI F ρ y v):∃z,(binOp op t u v).run P w=.ok z w/\r=.sc z/\zs z=true/\∀a b,(eqGuard op t a b u v).run P w=.ok () w:=by
 have agg:∀{xs l:List AV} {b:Bool},Mp P t xs l=some b->gI F ρ (.agg xs) u->gI F ρ (.agg l) v->∃us vs:List Value,u=.agg us.toArray/\v=.agg vs.toArray/\(Op.equalIn (9999+1) t u v).run P w=.ok b w/\P.eqGuardType P.depth t=false:=by
  intro xs l b c f i;obtain⟨us,rfl,u1,u2⟩:=Fv f;obtain⟨vs,rfl,v1,v2⟩:=Fv i;unfold Mp at c
  split at c
  ·rename_i fs hu
   split at c
   ·rename_i d;simp only[aiB,hE,af6] at d
    have o:P.fieldsOf t=fs:=by simp[Program.fieldsOf,hu]
    refine⟨us,vs,rfl,rfl,?_,d.1⟩;rw[run_equalIn_struct w 9999 t us.toArray vs.toArray (by rw[o];exact hu) d.2,o];exact RB w u1 u2 v1 v2 _ _ c
   ·cases c
  ·cases c
 unfold qC at h
 split at h
 ·cases c:Mp P t _ _ with
  |none=>rw[c] at h;cases h
  |some b=>
   rw[c] at h;cases h;obtain⟨us,vs,rfl,rfl,j,k⟩:=agg c f i;refine⟨.bool b,?_,rfl,rfl,λa b=>?_⟩
   ·have n:binOp .eql t (.agg us.toArray) (.agg vs.toArray)=(do pure (.bool (<-Op.equalIn (9999+1) t (.agg us.toArray) (.agg vs.toArray)))):=rfl;rw[n,ia,j];rfl
   ·simp[eqGuard,k,Result.andThen]
 ·cases c:Mp P t _ _ with
  |none=>rw[c] at h;cases h
  |some b=>
   rw[c] at h;cases h;obtain⟨us,vs,rfl,rfl,j,k⟩:=agg c f i;refine⟨.bool !b,?_,rfl,rfl,λa b=>?_⟩
   ·have n:binOp .neq t (.agg us.toArray) (.agg vs.toArray)=(do pure (.bool (!(<-Op.equalIn (9999+1) t (.agg us.toArray) (.agg vs.toArray))))):=rfl;rw[n,ia,j];rfl
   ·simp[eqGuard,k,Result.andThen]
 ·obtain⟨z,j,k,q,s⟩:=UO P w h f i;exact⟨z,j,k,q,λa b=>Pn P w op t a b s⟩
def Hz{G:Nat->Nat}{n:Nat}:∀{a:List Int} {vs:List Value},hO F G n (a.map (λn=>AV.sc (.int .u8 n))) vs->vs=a.map (Value.int .u8)
 |[],_,.nil=>rfl|n::a,_,.cons b c=>by
  cases b;rw[Hz c];rfl
def Ei:∀{l:List AV} {a:List Int},Ji l=some a->l.flatMap AV.cells=a.map (λn=>AV.sc (.int .u8 n))/\l.length=a.length
 |[],a,h=>by grind[Ji]|x::l,a,h=>by
  unfold Ji at h
  split at h
  ·rename_i e;cases e
  ·simp only[abK] at h;obtain⟨ms,b,rfl⟩:=h;obtain⟨i1,i2⟩:=Ei b
   grind[AV.cells]
  ·cases h
def Ds(w:World)(L:∀b o v,F b o=some v->w.cell? ⟨b,o,none⟩=some v)(he:tJ F ρ fr a)(n:zm T F ρ){o:Oper}{r:AV}(M:o.op.operands.all jq=true)(h:AG P T fr o=some r):∃v,(execOp a.eval o).run P w=.ok (.value v) w/\gI F ρ r v:=by
 obtain⟨dst,op,type,pos,after,guard⟩:=o;have j:∀x∈op.operands,jq x=true:=λx k=>Lq.1 M x k;clear M
 have lift:∀{s:Sem Value},(∃v,s.run P w=.ok v w/\gI F ρ r v)->∃v,((do pure (.value (<-s))):Sem Next).run P w=.ok (.value v) w/\gI F ρ r v:=by
  rintro s ⟨v,D,H⟩;exact⟨v,by rw[ia,D];rfl,H⟩
 cases op<;>simp only[AG] at h<;>simp only[Op.operands] at j<;>simp only[execOp]
 case move x=>cases h;exact⟨_,rfl,gH he n x (j x aaA)⟩
 case assign x=>cases h;exact⟨_,rfl,gH he n x (j x aaA)⟩
 case pick c x y=>
  split at h
  ·rename_i t A;cases h;have N:=gH he n c (j c aaA);rw[A] at N;have Q:=gl N;refine⟨if t then a.eval x else a.eval y,?_,?_⟩
   ·rw[Q];rfl
   ·cases t
    ·exact gH he n y (j y aaA)
    ·exact gH he n x (j x aaA)
  ·cases h
 case build t R=>
  refine lift ?_;have G:=Kh he n R.toList λp G=>j p.2 (by simp;exact⟨p.1,by simpa using G⟩);have:=run_build (P:=P) w h G
  have e:(R.toList.map λp=>(p.1,a.eval p.2)).toArray=R.map λp=>(p.1,a.eval p.2):=by rw[<-PZ,Va]
  rw[e] at this;exact this
 case binOp op t x y t'=>
  obtain⟨z,B,I,S,U⟩:∃z,(binOp op t (a.eval x) (a.eval y)).run P w=.ok z w/\r=.sc z/\zs z=true/\(eqGuard op t x y (a.eval x) (a.eval y)).run P w=.ok () w:=by
   have k:=gH he n x (j x aaA);have C:=gH he n y (j y aaA);change RL P op t y (ev T fr x) (ev T fr y)=some r at h;generalize ev T fr x=u at h k;generalize ev T fr y=v at h C;unfold RL at h
   split at h
   ·have k:=gl k;rw[k]
    split at h
    ·rename_i hu;cases h;exact⟨.bool true,(Tv P w hu).1,rfl,rfl,by simp[eqGuard,Act.eval]⟩
    ·rename_i hu;cases h;exact⟨.bool false,(Tv P w hu).2,rfl,rfl,by simp[eqGuard,Act.eval]⟩
    ·cases h
   ·obtain⟨z,B,I,S,U⟩:=XW (P:=P) w h k C;exact⟨z,B,I,S,U _ _⟩
  subst I;refine⟨z,?_,.p (.sc S)⟩;simp only[ia,U,kl,B];rfl
 case unOp op t x=>
  refine lift ?_;have k:=gH he n x (j x aaA);generalize a.eval x=u at k|-;unfold unA at h
  split at h
  ·rename_i A;rw[A] at k;cases gl k;cases h;exact⟨_,by simp[Op.unary,Op.intArith],.p (.sc rfl)⟩
  ·rename_i A;rw[A] at k;cases gl k;cases h;exact⟨_,by simp[Op.unary],.p (.sc rfl)⟩
  ·cases h
 case convert s d x=>
  refine lift ?_;have k:=gH he n x (j x aaA);generalize a.eval x=u at k|-;unfold VY at h
  split at h
  ·rename_i tag l A;unfold acu at h
   split at h
   ·rename_i e hs J
    split at h
    ·rename_i O hu V;cases h;rw[A] at k;obtain⟨Y,hlen⟩:=Ei V;obtain⟨base,cap,b,o,sz,vs,rfl,K,_,_⟩:=ny k;refine⟨.string (strOfNums O),?_,.p (.sc rfl)⟩
     have W:vs=O.map (Value.int .u8):=by
      have G:=K.cells;rw[Y] at G;exact Hz G
     by_cases hn:l=[]
     ·subst hn;have X:O=[]:=Cw (by simpa using hlen.symm);subst X;cases base with
      |none=>exact run_convert_bytes_nil w s e hs hu 0 cap d J|some Z=>
       obtain⟨ab,ao,an⟩:=Z;show(convert s d (.slice (some ⟨ab,ao,an⟩) 0 cap)).run P w=_;rw[run_convert_bytes_string w s d e _ 0 cap hs hu J,run_bytesToString w _ 0 cap [] (by simp[loadCells,loadCellsFrom])];rfl
     ·rw[K.base hn];refine run_convert_bytes_arg w s e hs hu b o l.length cap O hlen.symm (λi hi=>?_) d J;refine L b (o+i) _ (K.has i _ ?_);rw[W,zl,po VW];simp[List.getD,po (show i<O.length by omega)]
    ·cases h
   ·cases h
  ·unfold Xj at h
   split at h
   ·rename_i hs J A;rw[A] at k;cases gl k;cases h;refine⟨_,?_,.p (.sc rfl)⟩;unfold convert;simp only[ia,run_underlying hs,run_underlying J,kl];rfl
   ·rename_i hs J A;rw[A] at k;cases gl k;cases h;refine⟨_,?_,.p (.sc rfl)⟩;unfold convert;simp only[ia,run_underlying hs,run_underlying J,kl];rfl
   ·cases h
 case makeFunc fn f c=>
  cases h;refine lift ⟨.func fn (f.map a.eval) (c.map a.eval),rfl,?_⟩;have B:=Jw he n f.toList λx k=>j x (by simp[yp.1 k]);have I:=Jw he n c.toList λx k=>j x (by simp[yp.1 k]);have:=gR.func (fn:=fn) B I
  have e:∀l:Array Operand,(l.toList.map a.eval).toArray=l.map a.eval:=λl=>by rw[<-PZ,Va]
  rw[e,e] at this;exact .p this
 case fieldAddr t x i=>exact lift (Ly w h (gH he n x (j x aaA)))
 case field t x i=>exact lift (Uw w h (gH he n x (j x aaA)))
 case indexAddr t x i=>exact lift (Ll w h (gH he n x (j x aaA)) (gH he n i (j i aaA)))
 case index t x i=>exact lift (Uu w h (gH he n x (j x aaA)) (gH he n i (j i aaA)))
 case slice t x lo hi mx=>
  exact lift (U9 w h (gH he n x (j x aaA)) (RQ he n lo λy C=>j y (by simp[C])) (RQ he n hi λy C=>j y (by simp[C]))
   (RQ he n mx λy C=>j y (by simp[C])))
 case extract x i=>
  refine lift ?_;have k:=gH he n x (j x aaA)
  split at h
  ·rename_i vs A;rw[A] at k;obtain⟨us,hu,H⟩:=Rm k;obtain⟨v,D,G⟩:=H.get h;refine⟨v,?_,.p G⟩;rw[hu];simp[Instr.extract,D]
  ·cases h
 case nilCheck x=>
  have k:=gH he n x (j x aaA)
  split at h
  ·rename_i f b c A;cases h;rw[A] at k;obtain⟨vf,vc,D,_,_⟩:=Cp k;refine⟨a.eval x,?_,k⟩;rw[D];rfl
  ·rename_i A
   split at h
   ·rename_i G;cases h;obtain⟨b,V⟩:=Gd G k;refine⟨a.eval x,?_,k⟩;rw[V];rfl
   ·cases h
 case makeInterface t x=>
  refine lift ?_
  split at h
  ·rename_i A;cases h;exact⟨_,run_makeInterface w t _ A,.p (.iface (gH he n x (j x aaA)).norm)⟩
  ·cases h
 case typeAssert x xt t ok=>
  cases ok with
  |true=>exact lift (OC w h (gH he n x (j x aaA)))|false=>cases h
 case call c=>
  obtain⟨callee,args,argTypes⟩:=c;have q:∀x∈args.toList,jq x=true:=λx k=>j x (by simp[Call.operands,yp.1 k]);simp only[yC] at h
  split at h
  ·split at h
   ·rename_i t x B I;simp only[resolve,invoke,builtin,ia,pH,kl];have k:x∈args:=aac I;obtain⟨v,D,H⟩:=Yt (P:=P) (ty:=type) w h (gH he n x (q x (yp.2 k))) B (us:=args.map a.eval) (by simp[I]);exact⟨v,by rw[D];rfl,H⟩
   ·cases h
  ·split at h
   ·rename_i x l B;simp only[resolve,invoke,builtin,ia,pH,kl];obtain⟨v,D,H⟩:=L6 w (WX (P:=P) w) _ _ _ _ _ h (gH he n x (q x (by simp[B]))) (Iu he n l λy C=>q y (by simp[B,C]));refine⟨v,?_,H⟩
    have e:(args.map a.eval).toList=a.eval x::l.map a.eval:=by simp[B]
    simp only[Builtin.max_,e,D,kl]
   ·cases h
  ·split at h
   ·rename_i x l B;simp only[resolve,invoke,builtin,ia,pH,kl];obtain⟨v,D,H⟩:=L6 w (YN (P:=P) w) _ _ _ _ _ h (gH he n x (q x (by simp[B]))) (Iu he n l λy C=>q y (by simp[B,C]));refine⟨v,?_,H⟩
    have e:(args.map a.eval).toList=a.eval x::l.map a.eval:=by simp[B]
    simp only[Builtin.min_,e,D,kl]
   ·cases h
  ·cases h
 all_goals cases h
end
end Go.ld
namespace Go.ld
open Go
def QD(a:Nat×Nat)(n:Nat):Prop:=a=(0,0)\/n<=a.1
inductive lM (F:kT) (G:Nat->Nat) (n:Nat):List AV->Obj->Prop
 |cells {cs vs ty fz}:QD fz vs.size->hQ (gR F G n) cs vs.toList->(∀c∈cs,c.gO=true)->lM F G n cs (.cells vs ty fz)|map {ks xs es clock}:es.toList.map (·.key)=ks->hQ (gR F G n) xs (es.toList.map (·.val))->es.toList.map (·.born)=List.range ks.length->clock=ks.length->ks.Nodup->lM F G n [.uS ks xs] (.map es clock)|iter {o since seen}:o<n->lM F G n [.mL o since seen] (.mapIter (some (G o)) since seen.toArray since)|dead {ob}:lM F G n [] ob
def lM.grow{F F':kT}{G G':Nat->Nat}{n n':Nat}(hg:H_ F F' G G' n n'){cs c}(h:lM F G n cs c):lM F' G' n' cs c:=by
 cases h with
 |cells d a b=>exact .cells d (a.mono λ_ _ _ h=>h.grow hg) b|map a b f i j=>exact .map a (b.mono λ_ _ _ h=>h.grow hg) f i j|iter h=>rw[<-hg.mG _ h];exact .iter (Ua h hg.mn)|dead=>exact .dead
def vu:List AV->Bool
 |[]=>false|c::_=>c.gO
def lM.Iz{F:kT}{G:Nat->Nat}{n:Nat}{cs a}(h:lM F G n cs a)(d:vu cs=true):∃vs ty b,a=.cells vs ty b/\QD b vs.size/\hQ (gR F G n) cs vs.toList/\∀c∈cs,c.gO=true:=by
 cases h with
 |cells f i j=>grind|map=>grind[vu,AV.gO]|iter=>grind[vu,AV.gO]|dead=>grind[vu]
def Ke(vs:Array Value):Prop:=∀u∈vs.toList,u.oneCell'=true
structure GW (T:eO) (G:Nat->Nat) (F:kT) (H:dZ) (w:World):Prop where
 G5:∀b o v,F b o=some v->w.cell? ⟨b,o,none⟩=some v
 lW:∀o cs,H[o]?=some cs->∃ob,w.heap[G o]?=some ob/\lM F G H.length cs ob
 inj:∀o o',o<H.length->o'<H.length->G o=G o'->o=o'
 gF:∀o j,o<H.length->H[o]?≠some []->F (G o) j=none
 fresh:∀b j,w.heap.size<=b->F b j=none
 DQ:∀g x,T g=some x->gR F G H.length (.mA x) (.pointer (some ⟨g,0,none⟩))
 row:(∀g,T g=none)->∀b o v,F b o=some v->∃vs ty fz,w.heap[b]?=some (.cells vs ty fz)/\QD fz vs.size/\Ke vs
structure Ext (B:Nat) (G:Nat->Nat) (F:kT) (n:Nat) (w:World) (G':Nat->Nat) (F':kT) (n':Nat) (w':World):Prop where
 os:w'.os=w.os
 tape:w'.tape=w.tape
 output:w'.output=w.output
 size:w.heap.size<=w'.heap.size
 len:n<=n'
 hG:∀o,o<n->G' o=G o
 MQ:∀o,n<=o->o<n'->B<=G' o
 hF:∀b j,b<B->(∀o,o<n->G o≠b)->F' b j=F b j
 mF:∀b j v,b<B->F b j=some v->F' b j=some v
 heap:∀b,b<B->(∀o,o<n->G o≠b)->w'.heap[b]?=w.heap[b]?
section
variable{B B':Nat} {G G' G'':Nat->Nat} {F F' F'':kT} {n n' n'':Nat} {w w' w'':World}
theorem Ext.refl:Ext B G F n w G F n w:=⟨rfl,rfl,rfl,g_ _,g_ _,λ_ _=>rfl,λ_ h a=>absurd a VW,λ_ _ _ _=>rfl,λ_ _ _ _ h=>h,λ_ _ _=>rfl⟩
def Ext.trans(h:Ext B G F n w G' F' n' w')(k:Ext B G' F' n' w' G'' F'' n'' w''):Ext B G F n w G'' F'' n'' w'' where
 os:=k.os.trans h.os
 tape:=k.tape.trans h.tape
 output:=k.output.trans h.output
 size:=A5 h.size k.size
 len:=A5 h.len k.len
 hG o c:=(k.hG o (Ua c h.len)).trans (h.hG o c)
 MQ o d f:=by
  rcases vb o n' with h3|h3
  ·rw[k.hG o h3];exact h.MQ o d h3
  ·exact k.MQ o h3 f
 hF b j a hg:=by
  refine(k.hF b j a λo c=>?_).trans (h.hF b j a hg);rcases vb o n with h3|h3
  ·rw[h.hG o h3];exact hg o h3
  ·have:=h.MQ o h3 c;omega
 mF b j v a i:=k.mF b j v a (h.mF b j v a i)
 heap b a hg:=by
  refine(k.heap b a λo c=>?_).trans (h.heap b a hg);rcases vb o n with h3|h3
  ·rw[h.hG o h3];exact hg o h3
  ·have:=h.MQ o h3 c;omega
theorem Ext.mono(h:Ext B G F n w G' F' n' w')(c:B'<=B):Ext B' G F n w G' F' n' w':=
 ⟨h.os,h.tape,h.output,h.size,h.len,h.hG,λo d f=>A5 c (h.MQ o d f),λb j a=>h.hF b j VW,λb j v a=>h.mF b j v VW,λb a hg=>h.heap b VW hg⟩
end
inductive oz where
 |free|box (d:Nat)|lW|arr (k:Nat)
 deriving DecidableEq
structure WR (T:eO) (n B0:Nat) (ρ:Maps) (F:kT) (R:Nat->oz) (fr:Fr) (H:dZ) (a:Act) (w:World):Prop where
 g:GW T ρ.G F H w
 size:a.tmps.size=n
 defers:a.defers=[]
 env:tJ F ρ fr a
 hn:ρ.n=H.length
 lg:∀d,ρ.lg d=fr.gen d
 ag:∀k,ρ.ag k=fr.fo k
 box:∀d cs,fr.box d=some cs->B0<=ρ.L d (fr.gen d)/\R (ρ.L d (fr.gen d))=.box d/\(∀c∈cs,c.gO=true)/\∃vs ty,w.heap[ρ.L d (fr.gen d)]?=some (.cells vs ty (0,0))/\hQ (jZ F ρ) cs vs.toList
 tok:∀k m,fr.qs k=some m->∀b c sz,ρ.A k (fr.fo k)=some (b,c,sz)->B0<=b/\R b=.arr k/\(0<m/\m<=c)/\c<=maxLen/\(∃vs ty,w.heap[b]?=some (.cells vs ty (0,0))/\vs.size=c*sz/\Ke vs)/\∀j,m*sz<=j->F b j=none
 qt:∀b j v,F b j=some v->∀d,R b≠ .box d
 ou:∀o,o<H.length->R (ρ.G o)=.lW
 lL:∀b,w.heap.size<=b->R b=.free
 qw:B0<=w.heap.size
section
variable{T:eO} {n B0:Nat} {ρ ρ':Maps} {F F':kT} {R:Nat->oz} {fr:Fr} {H:dZ} {a:Act} {w w':World}
def WR.iy(h:WR T n B0 ρ F R fr H a w):zm T F ρ:=λg x b=>by rw[h.hn];exact h.g.DQ g x b
def WR.aiu(h:WR T n B0 ρ F R fr H a w){b j:Nat}{v:Value}(c:F b j=some v):b<w.heap.size:=by
 rcases vb b w.heap.size with h'|h'
 ·exact h'
 ·rw[h.g.fresh b j h'] at c;cases c
theorem Fr.uo(fr:Fr)(d:Option Nat)(x:AV)(t:Nat):(fr.put d x).env t=if d=some t then x else fr.env t:=by
 cases d with
 |none=>simp[Fr.put]|some d=>
  simp only[Fr.put,gL]
  grind
theorem Fr.yB(fr:Fr)(d:Option Nat)(x:AV):(fr.put d x).box=fr.box/\(fr.put d x).gen=fr.gen/\(fr.put d x).qs=fr.qs/\(fr.put d x).fo=fr.fo:=by
 cases d<;>exact⟨rfl,rfl,rfl,rfl⟩
def OR(a:Act)(d:Option Nat)(v:Value)(t:Nat)(c:∀b,d=some b->b<a.tmps.size):(a.put d v).tmps.getD t undef=if d=some t then v else a.tmps.getD t undef:=by
 cases d with
 |none=>simp[Act.put]|some d=>
  simp only[Act.put,OY]
  grind
theorem tJ.put(he:tJ F ρ fr a){d:Option Nat}(c:∀b,d=some b->b<a.tmps.size){x:AV}{v:Value}(f:gI F ρ x v):tJ F ρ (fr.put d x) (a.put d v):=by
 intro t;rw[Fr.uo,OR a d v t c]
 split
 ·exact f
 ·exact he t
def Eu(a:Act)(d:Option Nat)(v:Value):(a.put d v).tmps.size=a.tmps.size:=by cases d<;>simp[Act.put]
def put_defers(a:Act)(d:Option Nat)(v:Value):(a.put d v).defers=a.defers:=by cases d<;>rfl
theorem WR.put(h:WR T n B0 ρ F R fr H a w){d:Option Nat}(i:∀b,d=some b->b<n){x:AV}{v:Value}(j:gI F ρ x v):WR T n B0 ρ F R (fr.put d x) H (a.put d v) w:=by
 obtain⟨k,c,l,f⟩:=Fr.yB fr d x;refine⟨h.g,by rw[Eu];exact h.size,by rw[put_defers];exact h.defers,h.env.put (by rw[h.size];exact i) j,h.hn,?_,?_,?_,?_,h.qt,h.ou,h.lL,h.qw⟩
 ·rw[c];exact h.lg
 ·rw[f];exact h.ag
 ·rw[k,c];exact h.box
 ·rw[l,f];exact h.tok
def WR.drew(h:WR T n B0 ρ F R fr H a w):WR T n B0 ρ F R fr H a w.drew:=
 ⟨⟨h.g.G5,h.g.lW,h.g.inj,h.g.gF,h.g.fresh,h.g.DQ,h.g.row⟩,h.size,h.defers,h.env,h.hn,h.lg,h.ag,h.box,h.tok,h.qt,h.ou,h.lL,h.qw⟩
def qp{w:World}{b:Nat}{o:Obj}(h:w.heap[b]?=some o):b<w.heap.size:=(Vc.1 h).1
def WR.alloc(h:WR T n B0 ρ F R fr H a w)(o:Obj):WR T n B0 ρ F R fr H a (w.alloc o):=by
 have hs:(w.alloc o).heap.size=w.heap.size+1:=World.size_alloc w o;refine⟨⟨?_,?_,h.g.inj,h.g.gF,?_,h.g.DQ,?_⟩,h.size,h.defers,h.env,h.hn,h.lg,h.ag,?_,?_,h.qt,h.ou,?_,by have:=h.qw;omega⟩
 ·intro b j v q;rw[World.cell?_alloc_lt w o ⟨b,j,none⟩ (h.aiu q)];exact h.g.G5 b j v q
 ·intro x cs y;obtain⟨r,f,i⟩:=h.g.lW x cs y;exact⟨r,(heap_alloc_old w o (qp f)).trans f,i⟩
 ·intro b j A;exact h.g.fresh b j VW
 ·intro B b j v q;obtain⟨vs,ty,C,f,i⟩:=h.g.row B b j v q;exact⟨vs,ty,C,(heap_alloc_old w o (qp f)).trans f,i⟩
 ·intro d cs D;obtain⟨f,i,s,vs,ty,l,t⟩:=h.box d cs D;exact⟨f,i,s,vs,ty,(heap_alloc_old w o (qp l)).trans l,t⟩
 ·intro k m G b c sz I;obtain⟨f,i,s,u,⟨vs,ty,l,t⟩,J⟩:=h.tok k m G b c sz I;exact⟨f,i,s,u,⟨vs,ty,(heap_alloc_old w o (qp l)).trans l,t⟩,J⟩
 ·intro b A;exact h.lL b VW
def tJ.grow(he:tJ F ρ fr a)(hg:xD F F' ρ ρ'):tJ F' ρ' fr a:=λt=>(he t).grow hg
def tc{α:Type}(f:Nat->Nat->α)(i j:Nat)(x:α):Nat->Nat->α:=λa b=>if a=i/\b=j then x else f a b
def WR.ado(h:WR T n B0 ρ F R fr H a w){b:Nat}{vs:Array Value}{ty:TypeId}{cs:List AV}(O:B0<=b)(r:R b=.free)(hF:∀j,F b j=none)
  (N:w.heap[b]?=some (.cells vs ty (0,0))) (C:hQ (jZ F ρ) cs vs.toList) (y:∀c∈cs,c.gO=true) {d:Nat} (P:d<n):∃ρ' A,ρ'.G=ρ.G/\WR T n B0 ρ' F A {fr with env:=gL fr.env d (.ie d (fr.gen d+1) 0),box:=gL fr.box d (some cs),gen:=gL fr.gen d (fr.gen d+1)} H
   (a.put (some d) (.pointer (some ⟨b,0,none⟩))) w:=by
 let ρ':Maps:={ρ with L:=tc ρ.L d (fr.gen d+1) b,lg:=gL ρ.lg d (fr.gen d+1)}
 let A:Nat->oz:=gL R b (.box d)
 have s:xD F F ρ ρ':=by
  refine⟨.refl,λf=>?_,λf g hg=>?_,λ_=>g_ _,λ_ _ _=>rfl⟩
  ·show ρ.lg f<=gL ρ.lg d (fr.gen d+1) f;unfold gL
   split
   ·rename_i Q;subst Q;rw[h.lg];omega
   ·exact g_ _
  ·show tc ρ.L d (fr.gen d+1) b f g=ρ.L f g;unfold tc;rw[dK];rintro⟨rfl,rfl⟩;rw[h.lg] at hg;omega
 have l:∀i,R i≠ .free->A i=R i:=by
  intro i t;show gL R b (.box d) i=R i;unfold gL;rw[dK];rintro rfl;exact t r
 refine⟨ρ',A,rfl,?_⟩;refine⟨⟨h.g.G5,h.g.lW,h.g.inj,h.g.gF,h.g.fresh,h.g.DQ,h.g.row⟩,by rw[Eu];exact h.size,by rw[put_defers];exact h.defers,?_,h.hn,?_,h.ag,?_,?_,?_,?_,?_,h.qw⟩
 ·have S:=(h.env.grow s).put (d:=some d) (by intro f he;injection he with he;subst he;rw[h.size];exact P) (x:=.ie d (fr.gen d+1) 0) (v:=.pointer (some ⟨b,0,none⟩))
   (by
    have:=jZ.ie (F:=F) (ρ:=ρ') (b:=d) (g:=fr.gen d+1) (off:=0) (by show _<=gL ρ.lg d (fr.gen d+1) d;simp[gL])
    have e:ρ'.L d (fr.gen d+1)=b:=by show tc ρ.L d (fr.gen d+1) b d (fr.gen d+1)=b;simp[tc]
    rw[e] at this
    exact .cell this)
  exact S
 ·intro f;show gL ρ.lg d (fr.gen d+1) f=gL fr.gen d (fr.gen d+1) f;unfold gL
  split
  ·rfl
  ·exact h.lg f
 ·intro f D q;simp only[gL] at q|-
  by_cases he:f=d
  ·subst he;simp only[if_true] at q|-;cases q
   have e:ρ'.L f (fr.gen f+1)=b:=by show tc ρ.L f (fr.gen f+1) b f (fr.gen f+1)=b;simp[tc]
   rw[e];refine⟨O,?_,y,vs,ty,N,C.mono λ_ _ _ h=>h.grow s⟩;show gL R b (.box f) b=.box f;simp[gL]
  ·simp only[dK he] at q|-;obtain⟨I,B,J,vs',K,U,V⟩:=h.box f D q
   have e:ρ'.L f (fr.gen f)=ρ.L f (fr.gen f):=by show tc ρ.L d (fr.gen d+1) b f (fr.gen f)=_;simp[tc,he]
   rw[e];exact⟨I,by rw[l _ (by rw[B];simp)];exact B,J,vs',K,U,V.mono λ_ _ _ h=>h.grow s⟩
 ·intro k m W i c sz X;obtain⟨I,B,J⟩:=h.tok k m W i c sz X;exact⟨I,by rw[l _ (by rw[B];simp)];exact B,J⟩
 ·intro i j v M
  have u:i≠b:=by rintro rfl;rw[hF j] at M;cases M
  have e:A i=R i:=by show gL R b (.box d) i=R i;simp[gL,u]
  rw[e];exact h.qt i j v M
 ·intro o Y;have:=h.ou o Y;rw[l _ (by show R (ρ.G o)≠_;rw[this];simp)];exact this
 ·intro i t
  have u:i≠b:=by rintro rfl;have:=qp N;omega
  show gL R b (.box d) i=.free;simp only[gL,dK u];exact h.lL i t
def WR.M6(h:WR T n B0 ρ F R fr H a w){b:Nat}{I:Obj}{cs:List AV}(i:R b=.free)(hF:∀j,F b j=none)
  (U:w.heap[b]?=some I) (J:lM F ρ.G ρ.n cs I):∃ρ' A,(∀o,o<H.length->ρ'.G o=ρ.G o)/\ρ'.G H.length=b/\ρ'.n=H.length+1/\WR T n B0 ρ' F A fr (H++[cs]) a w:=by
 let ρ':Maps:={ρ with G:=gL ρ.G H.length b,n:=H.length+1}
 let A:Nat->oz:=gL R b .lW
 have hG:∀o,o<H.length->ρ'.G o=ρ.G o:=by
  intro o f;show gL ρ.G H.length b o=ρ.G o;simp only[gL];rw[dK VW]
 have s:H_ F F ρ.G ρ'.G ρ.n ρ'.n:=⟨λ_ _ _ h=>h,by show ρ.n<=H.length+1;rw[h.hn];omega,λo f=>hG o (by rw[h.hn] at f;exact f)⟩;have B:xD F F ρ ρ':=⟨s,λ_=>g_ _,λ_ _ _=>rfl,λ_=>g_ _,λ_ _ _=>rfl⟩
 have r:H_ F F ρ.G ρ'.G H.length (H++[cs]).length:=by
  have:=s;rw[h.hn] at this;simpa using this
 have l:∀d,R d≠ .free->A d=R d:=by
  intro d t;show gL R b .lW d=R d;unfold gL;rw[dK];rintro rfl;exact t i
 have q:ρ'.G H.length=b:=by show gL ρ.G H.length b H.length=b;simp[gL]
 refine⟨ρ',A,hG,q,rfl,?_⟩;refine⟨⟨h.g.G5,?_,?_,?_,h.g.fresh,λg x V=>(h.g.DQ g x V).grow r,h.g.row⟩,h.size,h.defers,h.env.grow B,by show H.length+1=_;simp,h.lg,h.ag,?_,?_,?_,?_,?_,h.qw⟩
 ·intro o u f;rcases vb o H.length with C|hge
  ·rw[vV C] at f;obtain⟨K,h1,h2⟩:=h.g.lW o u f;rw[hG o C];exact⟨K,h1,h2.grow r⟩
  ·have:o=H.length:=by
    have:=(s7.1 f).1;simp at this;omega
   subst this;simp at f;subst f;rw[q];exact⟨I,U,(by have:=J.grow s;simpa using this)⟩
 ·intro o o' f M he;simp at f M
  have key:∀o,o<H.length->ρ'.G o≠b:=by
   intro o f he;rw[hG o f] at he;have:=h.ou o f;rw[he,i] at this;cases this
  rcases vb o H.length with h1|h1
  ·rcases vb o' H.length with h2|h2
   ·rw[hG o h1,hG o' h2] at he;exact h.g.inj o o' h1 h2 he
   ·have e:o'=H.length:=VW
    subst e;rw[q] at he;exact absurd he (key o h1)
  ·grind
 ·intro o j f D;simp at f;rcases vb o H.length with h1|h1
  ·rw[hG o h1];exact h.g.gF o j h1 (by rw[vV h1] at D;exact D)
  ·have e:o=H.length:=VW
   subst e;rw[q];exact hF j
 ·intro N u O;obtain⟨h1,h2,P,vs',Q,W,X⟩:=h.box N u O;exact⟨h1,by rw[l _ (by show R (ρ.L N (fr.gen N))≠_;rw[h2];simp)];exact h2,P,vs',Q,W,X.mono λ_ _ _ h=>h.grow B⟩
 ·intro k m Y d c sz Z;obtain⟨h1,h2,P⟩:=h.tok k m Y d c sz Z;exact⟨h1,by rw[l _ (by rw[h2];simp)];exact h2,P⟩
 ·intro d j v S
  have y:d≠b:=by rintro rfl;rw[hF j] at S;cases S
  have e:A d=R d:=by show gL R b .lW d=R d;simp[gL,y]
  rw[e];exact h.qt d j v S
 ·intro o f;simp at f;rcases vb o H.length with h1|h1
  ·have:=h.ou o h1;rw[hG o h1,l _ (by rw[this];simp)];exact this
  ·have e:o=H.length:=VW
   subst e;rw[q];show gL R b .lW b=.lW;simp[gL]
 ·intro d t
  have y:d≠b:=by rintro rfl;have:=qp U;omega
  show gL R b .lW d=.free;simp only[gL,dK y];exact h.lL d t
def WR.aed(h:WR T n B0 ρ F R fr H a w){b:Nat}{vs:Array Value}{ty:TypeId}{cs:List AV}(f:R b=.free)(hF:∀j,F b j=none)
  (r:w.heap[b]?=some (.cells vs ty (0,0))) (l:hQ (gR F ρ.G ρ.n) cs vs.toList) (i:∀c∈cs,c.gO=true) {d:Nat} (s:d<n):∃ρ' q,(∀o,o<H.length->ρ'.G o=ρ.G o)/\ρ'.G H.length=b/\WR T n B0 ρ' F q {fr with env:=gL fr.env d (.fh H.length 0)} (H++[cs])
   (a.put (some d) (.pointer (some ⟨b,0,none⟩))) w:=by
 obtain⟨ρ',q,hG,k,t,hw⟩:=h.M6 f hF r (.cells (.inl rfl) l i);refine⟨ρ',q,hG,k,hw.put (d:=some d) (by intro u he;injection he with he;subst he;exact s) (x:=.fh H.length 0) ?_⟩;have:=gR.fh (F:=F) (G:=ρ'.G) (n:=ρ'.n) (o:=H.length) (off:=0) (by grind);rw[k] at this;exact .p this
end
def cell_setRow_other(w:World)(g:Nat)(cs:Array Value)(b o:Nat)(h:b≠g):(w.setRow g cs).cell? ⟨b,o,none⟩=w.cell? ⟨b,o,none⟩:=
 World.cell?_of_block (w:=w) (a:=⟨b,o,none⟩) (setRow_other w g b cs h)
def size_setRow(w:World)(g:Nat)(cs:Array Value):(w.setRow g cs).heap.size=w.heap.size:=by simp_all
section
variable{T:eO} {n B0:Nat} {ρ:Maps} {F:kT} {R:Nat->oz} {fr:Fr} {H:dZ} {a:Act} {w:World}
def WR.WQ(h:WR T n B0 ρ F R fr H a w){d:Nat}{cs s:List AV}{vs':Array Value}(S:fr.box d=some cs)(C:hQ (jZ F ρ) s vs'.toList)(x:∀c∈s,c.gO=true):WR T n B0 ρ F R {fr with box:=gL fr.box d (some s)} H a (w.setRow (ρ.L d (fr.gen d)) vs'):=by
 obtain⟨U,O,h3,vs,ty,V,h5⟩:=h.box d cs S
 have f:∀b,R b≠ .box d->b≠ρ.L d (fr.gen d):=by
  rintro b t rfl;exact t O
 refine⟨⟨?_,?_,h.g.inj,h.g.gF,?_,h.g.DQ,?_⟩,h.size,h.defers,h.env,h.hn,h.lg,h.ag,?_,?_,h.qt,h.ou,?_,by rw[size_setRow];exact h.qw⟩
 ·intro b o v y;rw[cell_setRow_other]
  ·exact h.g.G5 b o v y
  ·exact f b (h.qt b o v y d)
 ·intro o i P;obtain⟨A,B,u⟩:=h.g.lW o i P;refine⟨A,?_,u⟩;rw[setRow_other]
  ·exact B
  ·refine f _ ?_;rw[h.ou o (s7.1 P).1];simp
 ·intro b j t;rw[size_setRow] at t;exact h.g.fresh b j t
 ·intro W b j v y;obtain⟨D,G,I,g1,g2⟩:=h.g.row W b j v y;exact⟨D,G,I,by rw[setRow_other _ _ _ _ (f b (h.qt b j v y d))];exact g1,g2⟩
 ·intro Q i l;simp only[gL] at l
  by_cases he:Q=d
  ·subst he;simp only[if_true] at l;cases l;exact⟨U,O,x,vs',ty,setRow_heap w _ vs vs' ty (0,0) V,C⟩
  ·simp only[dK he] at l;obtain⟨B,u,J,q,r,K,M⟩:=h.box Q i l;refine⟨B,u,J,q,r,?_,M⟩;rw[setRow_other]
   ·exact K
   ·refine f _ ?_;rw[u];simp[he]
 ·intro k m X b c sz Y;obtain⟨B,u,J,N,⟨q,r,K,M⟩,Z⟩:=h.tok k m X b c sz Y;refine⟨B,u,J,N,⟨q,r,?_,M⟩,Z⟩;rw[setRow_other]
  ·exact K
  ·refine f _ ?_;rw[u];simp
 ·intro b t;rw[size_setRow] at t;exact h.lL b t
def WR.I1(h:WR T n B0 ρ F R fr H a w){o:Nat}{cs t:List AV}{w':World}{u:Obj}(L:H[o]?=some cs)(x:cs≠[])(y:w'.heap.size=w.heap.size)(D:w'.heap[ρ.G o]?=some u)
  (d:∀b,b≠ρ.G o->w'.heap[b]?=w.heap[b]?) (N:lM F ρ.G ρ.n t u):WR T n B0 ρ F R fr (H.set o t) a w':=by
 have f:=(s7.1 L).1;have O:=h.ou o f
 have P:∀b,R b≠ .lW->b≠ρ.G o:=by
  rintro b l rfl;exact l O
 have C:(H.set o t).length=H.length:=aaA
 refine⟨⟨?_,?_,?_,?_,?_,?_,?_⟩,h.size,h.defers,h.env,by rw[C];exact h.hn,h.lg,h.ag,?_,?_,h.qt,?_,?_,by rw[y];exact h.qw⟩
 ·intro b o' v A
  have l:b≠ρ.G o:=by
   rintro rfl;rw[h.g.gF o o' f (by rw[L];exactλe=>x (kX e))] at A;cases A
  have e:w'.cell? ⟨b,o',none⟩=w.cell? ⟨b,o',none⟩:=by simp[World.cell?,d b l]
  rw[e];exact h.g.G5 b o' v A
 ·intro o' i I;rw[C]
  by_cases he:o=o'
  ·subst he;simp only[List.getElem?_set_self f] at I;cases I;refine⟨u,D,?_⟩;rw[<-h.hn];exact N
  ·rw[XD he] at I;obtain⟨J,M,K⟩:=h.g.lW o' i I;refine⟨J,?_,K⟩;rw[d]
   ·exact M
   ·exactλe=>he (h.g.inj o' o (s7.1 I).1 f e).symm
 ·rw[C];exact h.g.inj
 ·intro o' j B q;rw[C] at B
  by_cases he:o=o'
  ·subst he;exact h.g.gF o j B (by rw[L];exactλe=>x (kX e))
  ·rw[XD he] at q;exact h.g.gF o' j B q
 ·intro b j l;rw[y] at l;exact h.g.fresh b j l
 ·rw[C];exact h.g.DQ
 ·intro Z b j v A;obtain⟨Q,S,U,g1,g2⟩:=h.g.row Z b j v A;refine⟨Q,S,U,?_,g2⟩;rw[d]
  ·exact g1
  ·rintro rfl;rw[h.g.gF o j f (by rw[L];exactλe=>x (kX e))] at A;cases A
 ·intro d' i V;obtain⟨M,K,W,r,s,X,Y⟩:=h.box d' i V;refine⟨M,K,W,r,s,?_,Y⟩;rw[d]
  ·exact X
  ·refine P _ ?_;rw[K];simp
 ·intro k m hk b c sz hA;obtain⟨M,K,W,ad,⟨r,s,X,Y⟩,e6⟩:=h.tok k m hk b c sz hA
  grind
 ·rw[C];exact h.ou
 ·intro b l;rw[y] at l;exact h.lL b l
def WR.S_(h:WR T n B0 ρ F R fr H a w){o:Nat}{cs d:List AV}{vs':Array Value}(r:H[o]?=some cs)(f:vu cs=true)(i:hQ (gR F ρ.G ρ.n) d vs'.toList)(hlen:d.length=cs.length)(j:∀c∈d,c.gO=true):WR T n B0 ρ F R fr (H.set o d) a (w.setRow (ρ.G o) vs'):=by
 obtain⟨x,s,t⟩:=h.g.lW o cs r;obtain⟨vs,ty,u,rfl,k,l,_⟩:=t.Iz f
 have q:vs'.size=vs.size:=by
  have y:=i.length;have A:=l.length
  grind
 exact h.I1 r (by rintro rfl;simp[vu] at f) (size_setRow w _ _) (setRow_heap w _ vs vs' ty u s) (λb v=>setRow_other w _ b _ v) (.cells (by rw[q];exact k) i j)
end
end Go.ld
