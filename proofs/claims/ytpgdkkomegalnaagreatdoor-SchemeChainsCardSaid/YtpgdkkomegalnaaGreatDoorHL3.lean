/- Part of the proof of SchemeChains: layer. -/
import Derived.Laws.Build
import Derived.Laws.StructEq
import Derived.Laws.BytesArg
import Derived.Test.YtpgdkkomegalnaaGreatDoorHL2
set_option linter.all false
namespace Go.lD
open Go
def lG(sz:Nat)(l:List AV):Bool:=
 match l with
 |[]=>true|x::_=>x.cells.length==sz
def rU{sz a:Nat}{l:List AV}(h:lG sz l=true)(hs:∀x∈l,x.cells.length=a):∀x∈l,x.cells.length=sz:=by
 cases l with
 |nil=>simp|cons x l=>grind[lG]
def O1:Option AV->Option (Option Nat)
 |none=>some none|some (.sc (.int _ n))=>if 0<=n then some (some n.toNat)else none|_=>none
def pL(P:Program)(t:TypeId)(x:AV)(lo hi a:Option AV):Option AV:=
 match O1 lo,O1 hi,O1 a with
 |some lo,some hi,some a=>
  match P.underlying t,x with
  |some (.slice e),.slice _ l=>
   match f' P e with
   |none=>none|some (_,sz)=>
    if hi.getD l.length<=l.length/\lo.getD 0<=hi.getD l.length/\lG sz l then
     match a with
     |none=>some (.slice .gK ((l.take (hi.getD l.length)).drop (lo.getD 0)))|some m=>if hi.isSome/\hi.getD l.length<=m/\m<=l.length then some (.slice (if m=hi.getD l.length then .full else .gK) ((l.take (hi.getD l.length)).drop (lo.getD 0)))else none
    else none
  |some .string,.sc (.string s)=>
   if a.isNone/\hi.getD s.size<=s.size/\lo.getD 0<=hi.getD s.size then some (.sc (.string (s.extract (lo.getD 0) (hi.getD s.size))))else none
  |_,_=>none
 |_,_,_=>none
def Aa(F:la)(ρ:Maps):Option AV->Option Value->Prop
 |none,none=>True|some x,some v=>gI F ρ x v|_,_=>False
section
variable{P:Program} {F:la} {ρ:Maps}
def HV{x:Option AV}{v:Option Value}{r:Option Nat}(h:O1 x=some r)(a:Aa F ρ x v):(r=none/\v=none)\/∃k n,v=some (.int k n)/\0<=n/\r=some n.toNat:=by
 unfold O1 at h
 split at h
 .cases v with
  |none=>injection h with h;exact .inl ⟨h.symm,rfl⟩|some v=>exact a.elim
 .rename_i k n
  split at h
  .injection h with h;cases v with
   |none=>exact a.elim|some v=>
    cases gr a
    grind
  .cases h
 .cases h
def yh(w:World)(k:IntKind)(n:Int)(y:Nat)(c:BoundsCode)(a:0<=n)(b:n.toNat<=y):(Instr.sliceBound (.int k n) y c).run P w=.ok n.toNat w:=by
 unfold Instr.sliceBound;simp only[asIntOf,h8,qb,kD];rw[dO ⟨a,VW⟩];rfl
def JO(w:World)(d:Bool){lo hi l:Option AV}{o q r:Option Value}{a h m:Option Nat}{len cap:Nat}
  (t:O1 lo=some a) (u:O1 hi=some h) (v:O1 l=some m) (x:Aa F ρ lo o) (y:Aa F ρ hi q) (A:Aa F ρ l r)
  (hm:m.getD cap<=cap) (f:h.getD len<=m.getD cap) (i:a.getD 0<=h.getD len) (j:m.isSome=true->h.isSome=true):(Instr.sliceBounds d len cap o q r).run P w=.ok (a.getD 0,h.getD len,m.getD cap) w:=by
 rcases HV v A with⟨rfl,rfl⟩|⟨k,n,rfl,hn,rfl⟩<;>rcases HV u y with⟨rfl,rfl⟩|⟨k2,n2,rfl,b,rfl⟩<;>
  rcases HV t x with⟨rfl,rfl⟩|⟨s,n1,rfl,c,rfl⟩<;>simp only[Option.getD_none,Option.getD_some] at hm f i|-<;>
  (first
   |(simp at j;done)
   |(simp only[Instr.sliceBounds,h8,qb,kD];done)
   |(simp only[Instr.sliceBounds,h8,qb,kD,yh (P:=P) w s n1 _ _ c i];done)
   |(simp only[Instr.sliceBounds,h8,qb,kD,yh (P:=P) w k2 n2 _ _ b f];done)
   |(simp only[Instr.sliceBounds,h8,qb,kD,yh (P:=P) w k n _ _ hn hm,yh (P:=P) w k2 n2 _ _ b f,yh (P:=P) w s n1 _ _ c i];done))
def W_(w:World){t:TypeId}{x r:AV}{u:Value}{lo hi U:Option AV}{G H C:Option Value}(h:pL P t x lo hi U=some r)(q:gI F ρ x u)
  (V:Aa F ρ lo G) (W:Aa F ρ hi H) (I:Aa F ρ U C):∃v,(Instr.sliceAt t u G H C).run P w=.ok v w/\gI F ρ r v:=by
 unfold pL at h
 split at h
 .rename_i a f m X Y J
  split at h
  .rename_i e tag l hu
   split at h
   .cases h
   .rename_i ag sz hl
    split at h
    .rename_i K;obtain⟨L,j,k⟩:=K;obtain⟨base,cap,b,o,ad,vs,rfl,hs,_,_⟩:=n7 q;have n:=rU k hs.sz
     have step:∀(i:Nat),i=m.getD cap->i<=cap->f.getD l.length<=i->(m.isSome=true->f.isSome=true)->∀D,(D=Tag.gK\/D=Tag.full/\i=f.getD l.length)->∃v,(Instr.sliceAt t (.slice base l.length cap) G H C).run P w=.ok v w/\gI F ρ (.slice D ((l.take (f.getD l.length)).drop (a.getD 0))) v:=by
      intro i M ae af N D O;have Q:=JO (P:=P) (F:=F) (ρ:=ρ) w true (len:=l.length) (cap:=cap) X Y J V W I VW VW j N
      refine⟨.slice (if i=a.getD 0 then base else base.map (·.add (a.getD 0*sz))) (f.getD l.length-a.getD 0) (i-a.getD 0),?_,?_⟩
      .unfold Instr.sliceAt;rw[h8,run_underlying hu];simp only[kD];unfold Instr.slice;rw[h8,run_underlying hu];simp only[kD,h8,Q,k6 hl,qb,<-M]
      .have hlen:((l.take (f.getD l.length)).drop (a.getD 0)).length=f.getD l.length-a.getD 0:=by
        rw[WL,Dy];omega
       rw[<-hlen]
       have d:((l.take (f.getD l.length)).drop (a.getD 0)).flatMap AV.cells=((l.flatMap AV.cells).take (f.getD l.length*sz)).drop (a.getD 0*sz):=by
        rw[zi (sz:=sz) (λx q=>n x (C' q)),D4 n]
       refine .p (.slice (b:=b) (o:=o+a.getD 0*sz) (sz:=sz) (vs:=(vs.take (f.getD l.length*sz)).drop (a.getD 0*sz)) ?_ ?_ ?_ ?_ ?_ ?_ ?_ ?_)
       .rw[d];exact(hs.cells.take _).drop _
       .exact(hs.has.take _).drop _
       .intro y;have Z:0<((l.take (f.getD l.length)).drop (a.getD 0)).length:=Xy.2 y
        have R:l≠[]:=by rintro rfl;simp at y
        rw[dK VW,hs.base R];simp[Addr.add_lit]
       .exactλx q=>n x (C' (Hp q))
       .intro c A;rw[d] at A;exact hs.s7 c (C' (Hp A))
       .omega
       .have:=hs.EH;omega
       .rcases O with h|⟨h,h'⟩
        .exact .inl h
        .exact .inr ⟨h,VW⟩
     split at h
     .cases h;exact step cap rfl (gY _) (by have:=hs.BT;omega) abm .gK (.inl rfl)
     .rename_i i
      split at h
      .rename_i B;cases h;have ah:=hs.BT;refine step i rfl VW B.2.1 (λ_=>B.1) _ ?_
       by_cases he:i=f.getD l.length
       .rw[dO he];exact .inr ⟨rfl,he⟩
       .rw[dK he];exact .inl rfl
      .cases h
    .cases h
  .rename_i s hu
   split at h
   .rename_i K;obtain⟨L,j,k⟩:=K;cases h;cases gr q
    have S:m=none:=by cases m<;>simp_all
    subst S
    have T:C=none:=by
     rcases HV J I with⟨_,h⟩|⟨_,_,_,_,h⟩
     .exact h
     .cases h
    subst T;have Q:=JO (P:=P) (F:=F) (ρ:=ρ) w false (len:=s.size) (cap:=s.size) X Y J V W I abm (by simpa using j) k abm;refine⟨_,?_,.p (.sc rfl)⟩;unfold Instr.sliceAt;rw[h8,run_underlying hu];simp only[kD];unfold Instr.slice;rw[h8,run_underlying hu];simp only[kD,Option.isSome_none,pA,jt,h8,qb,Q]
   .cases h
  .cases h
 .cases h
end
def placesOf(P:Program)(t:TypeId):Option (List (Nat×Nat)):=
 match P.underlying t with
 |some (.struct fs)=>fs.toList.mapM λf=>(P.info? f.type).map λi=>(f.offset,i.size)|_=>none
def gm(P:Program)(t i:Nat):Option (Nat×Nat):=
 match placesOf P t with
 |some ps=>ps[i]?|none=>match Rc P t with
  |some (_,e)=>(P.info? e).map λf=>(i*f.size,f.size)|none=>none
def fG:AV->Bool
 |.tuple _=>false|_=>true
def Gy(P:Program)(t:TypeId):List AV->List (Nat×AV)->Option (List AV)
 |cs,[]=>some cs|cs,(i,x)::rest=>
  match gm P t i with
  |some (off,size)=>if x.cells.length=size/\off+size<=cs.length/\fG x then Gy P t (setCells cs off x.cells) rest else none|none=>none
def pB(P:Program)(t:TypeId):Option (List AV):=
 match zeroOf P t with
 |some (.agg z)=>if z.all (·.oneCell')=true/\((placesOf P t).isSome\/((Rc P t).bind λp=>P.info? p.2).isSome)then some (z.toList.map q4)else none|_=>none
def FW(P:Program)(t:TypeId)(parts:List (Nat×AV)):Option AV:=
 match pB P t with
 |some z=>(Gy P t z parts).map .agg|none=>none
def foldl_set(new:List Value):∀(k off:Nat) (vs:Array Value),off+k+new.length<=vs.size->((new.zipIdx k).foldl (λcs (x:Value×Nat)=>cs.setIfInBounds (off+x.2) x.1) vs).toList=vs.toList.take (off+k)++new++vs.toList.drop (off+k+new.length):=by
 induction new with
 |nil=>intro k off vs h;simp|cons v new ih=>
  intro k off vs h;simp only[List.zipIdx_cons,List.foldl_cons,kY] at h|-;rw[ih (k+1) off _ abv]
  have a:off+k<vs.toList.length:=abv
  simp only[akn]
  have b:(vs.toList.set (off+k) v).take (off+(k+1))=vs.toList.take (off+k)++[v]:=by
    rw[<-aaX,List.take_succ_eq_append_getElem (by simpa using a),List.take_set]
    congr 1
    .apply List.set_eq_of_length_le;simp[Dy];omega
    .simp
  have c:(vs.toList.set (off+k) v).drop (off+(k+1)+new.length)=vs.toList.drop (off+k+(new.length+1)):=by
    rw[List.drop_set_of_lt VW]
    congr 1
    omega
  rw[b,c];simp
section
variable{P:Program} {F:la} {ρ:Maps}
def hS.setCells{R:AV->Value->Prop}{cs new:List AV}{vs nv:List Value}(h:hS R cs vs)(a:hS R new nv)(off:Nat):hS R (setCells cs off new) (vs.take off++nv++vs.drop (off+new.length)):=by
 exact((h.take off).append a).append (h.drop _)
def iU{x:AV}(h:fG x=true):∀vs,x≠ .tuple vs:=by grind[fG]
def Ry{t:TypeId}(place:Nat->Option (Nat×Nat))(G:∀i y,gm P t i=some y->place i=some y):∀(parts:List (Nat×AV)) (pv:List (Nat×Value)) (cs r:List AV) (vs:Array Value),Gy P t cs parts=some r->hS (j5 F ρ) cs vs.toList->(∀c∈cs,c.gO=true)->hS (λ(x:Nat×AV) (y:Nat×Value)=>x.1=y.1/\gI F ρ x.2 y.2) parts pv->∃ws:Array Value,Instr.fill place vs pv=some ws/\hS (j5 F ρ) r ws.toList/\∀c∈r,c.gO=true:=by
 intro parts
 induction parts with
 |nil=>
  intro pv cs r vs h k a d;cases d;simp[Gy] at h;subst h;exact⟨vs,rfl,k,a⟩
 |cons p parts ih=>
  intro pv cs r vs h k a d;obtain⟨i,x⟩:=p;cases d with
  |cons H l=>
   rename_i q pv;obtain⟨j,v⟩:=q;obtain⟨o,w⟩:=H;simp only at o w;subst o;simp only[Gy] at h
   split at h
   .rename_i off size A
    split at h
    .rename_i I;obtain⟨J,K,s⟩:=I;have b:=w.cells (iU s);have hlen:=b.length
     have L:vs.size=cs.length:=by simpa using k.length.symm
     have M:v.cells.toList.length=v.cells.size:=abm
     have f:=foldl_set v.cells.toList 0 off vs (by simp only[Gg];omega);have gk:=k.setCells b off;rw[hlen] at gk;simp only[Gg] at f;rw[<-f] at gk
     obtain⟨ws,B,C,D⟩:=ih pv _ _ _ h gk (by
      intro c u;simp only[lD.setCells,tl] at u;rcases u with(hm|hm)|hm
      .exact a c (C' hm)
      .exact w.s7 (iU s) c hm
      .exact a c (Hp hm)) l
     refine⟨ws,?_,C,D⟩;unfold Instr.fill;rw[G _ _ A]
     have n:(v.cells.size≠size||decide (off+v.cells.size>vs.size))=false:=by
      simp only[Bool.or_eq_false_iff,aj',ne_eq,Decidable.not_not];constructor<;>omega
     show(if(decide (v.cells.size≠size)||decide (off+v.cells.size>vs.size)) then none else Instr.fill place (v.cells.zipIdx.foldl (λcs (x:Value×Nat)=>cs.setIfInBounds (off+x.2) x.1) vs) pv)=some ws;rw[dK (by rw[n];simp),<-aj2,alo];exact B
    .cases h
   .cases h
def G8(w:World):∀(fs:List Field) (ps:List (Nat×Nat)),(fs.mapM λf=>(P.info? f.type).map λi=>(f.offset,i.size))=some ps->(fs.mapM λf=>(do pure (f.offset,<-sizeOf f.type):Sem (Nat×Nat))).run P w=.ok ps w:=by
 intro fs
 induction fs with
 |nil=>intro ps h;simp at h;subst h;rfl
 |cons f fs ih=>
  intro ps h;simp only[acL,Option.bind_eq_bind,ahs] at h;obtain⟨p,a,b,c,h⟩:=h;cases hi:P.info? f.type with
  |none=>rw[hi] at a;cases a
  |some i=>
   rw[hi] at a;simp at a h;subst a;subst h;simp only[acL,h8,sizeOf,typeInfo,program,Sem.run,hi,kD,qb];have:=ih b c;simp only[h8,sizeOf,typeInfo,program] at this;rw[this];rfl
def run_map{α β:Type}(w:World)(f:α->β)(x:Sem α):(Functor.map f x).run P w=(x.run P w).andThen λa w'=>.ok (f a) w':=by
 show(x>>=λa=>pure (f a)).run P w=_;rw[h8];rfl
def run_build(w:World){t:TypeId}{parts:List (Nat×AV)}{r:AV}{pv:List (Nat×Value)}(h:FW P t parts=some r)
  (l:hS (λ(x:Nat×AV) (y:Nat×Value)=>x.1=y.1/\gI F ρ x.2 y.2) parts pv):∃v,(Instr.build t pv.toArray).run P w=.ok v w/\gI F ρ r v:=by
 have h:∃z:Array Value,zeroOf P t=some (.agg z)/\(z.all (·.oneCell')=true/\((placesOf P t).isSome\/((Rc P t).bind λp=>P.info? p.2).isSome))/\(Gy P t (z.toList.map q4) parts).map .agg=some r:=by
  unfold FW pB at h
  split at h
  .rename_i z0 d
   split at d
   .rename_i z o
    split at d
    .rename_i B;injection d with d;subst d;exact⟨z,o,B,h⟩
    .cases d
   .cases d
  .cases h
 obtain⟨z,o,B,h⟩:=h
 .--N literal
  .obtain⟨C,k⟩:=B;cases J:Gy P t (z.toList.map q4) parts with
   |none=>rw[J] at h;cases h
   |some cs=>
    rw[J] at h;cases h
    have D:(zeroValue t).run P w=.ok (.agg z) w:=by
     unfold zeroOf at o;cases hi:P.info? t with
     |none=>rw[hi] at o;cases o
     |some i=>
      rw[hi] at o;simp at o;simp[zeroValue,typeInfo,hi,o]
    have q:∀v∈z.toList,v.oneCell'=true:=λv O=>Lu.1 C v (yd.1 O);have H:hS (j5 F ρ) (z.toList.map q4) z.toList:=(rG F ρ.G ρ.n _ q).rV.mono λ_ _ _ h=>.p h
    have I:∀c∈z.toList.map q4,c.gO=true:=by
     intro c B;obtain⟨a,_,rfl⟩:=ql.1 B;exact za a
    cases b:placesOf P t with
    |some ps=>
     have K:∃fs,P.underlying t=some (.struct fs)/\(fs.toList.mapM λf=>(P.info? f.type).map λi=>(f.offset,i.size))=some ps:=by
      unfold placesOf at b
      split at b
      .exact⟨_,by assumption,b⟩
      .cases b
     obtain⟨fs,hu,hm⟩:=K
     obtain⟨ws,s,u,A⟩:=Ry (P:=P) (F:=F) (ρ:=ρ) (t:=t) (ps.toArray[·]?) (by
      intro i y hy;unfold gm at hy;rw[b] at hy
      simpa using hy) parts pv _ _ z J H I l
     refine⟨.agg ws,?_,by simpa using gI.agg (vs:=ws.toList) u A⟩;unfold Instr.build;simp only[h8,D,kD,run_underlying hu];have L:=G8 (P:=P) w fs.toList ps hm;rw[<-Xr (xs:=fs),alc,run_map,L];simp only[qb,kD,Value.cells,s]
    |none=>
     cases j:Rc P t with
     |none=>simp[b,j] at k
     |some ne=>
      obtain⟨n,e⟩:=ne
      have hu:P.underlying t=some (.array n e):=by
       unfold Rc at j
       split at j
       .rename_i hu;cases j;exact hu
       .cases j
      cases hi:P.info? e with
      |none=>simp[b,j,hi] at k
      |some M=>
       obtain⟨ws,s,u,A⟩:=Ry (P:=P) (F:=F) (ρ:=ρ) (t:=t) (λi=>some (i*M.size,M.size)) (by
        intro i y hy;unfold gm at hy;rw[b] at hy;simp[j,hi] at hy
        simp[hy]) parts pv _ _ z J H I l
       refine⟨.agg ws,?_,by simpa using gI.agg (vs:=ws.toList) u A⟩;unfold Instr.build;simp only[h8,D,kD,run_underlying hu,sizeOf,typeInfo,program,Sem.run,hi,qb,Value.cells,s]
end
end Go.lD
namespace Go.lD
open Go
def xM(P:Program):List Field->List AV->List AV->Option Bool
 |[],_,_=>some true|f::fs,xs,ys=>
  if f.name= "_" then xM P fs xs ys else
  match P.underlying f.type,mR P f.type xs f.offset,mR P f.type ys f.offset with
  |some (.int _),some (.sc (.int k a)),some (.sc (.int k' b))=>if k=k' then(xM P fs xs ys).map λr=>(a==b)&&r else none|some .string,some (.sc (.string a)),some (.sc (.string b))=>(xM P fs xs ys).map λr=>(a.toList==b.toList)&&r|some .bool,some (.sc (.bool a)),some (.sc (.bool b))=>(xM P fs xs ys).map λr=>(a==b)&&r|_,_,_=>none
def ajj(P:Program)(t:TypeId):Bool:=!P.eqGuardType P.depth t&&!P.stoodInHeld t
def Ml(P:Program)(t:TypeId)(xs a:List AV):Option Bool:=
 match P.underlying t with
 |some (.struct fs)=>if ajj P t then xM P fs.toList xs a else none|_=>none
def oB(P:Program)(op:BinOp)(t:TypeId)(x y:AV):Option AV:=
 match op,x,y with
 |.eql,.agg xs,.agg a=>(Ml P t xs a).map λb=>.sc (.bool b)|.neq,.agg xs,.agg a=>(Ml P t xs a).map λb=>.sc (.bool (!b))|op,x,y=>sH P op t x y
def Nh(P:Program)(op:BinOp)(t:TypeId):Operand->AV->AV->Option AV
 |.const .nilIface,.sc .nilIface,_=>match op,P.underlying t with
  |.eql,some (.interface _)=>some (.sc (.bool true))|.neq,some (.interface _)=>some (.sc (.bool false))|_,_=>none
 |_,u,v=>oB P op t u v
def JF:List AV->Option (List Int)
 |[]=>some []|.sc (.int .u8 n)::l=>(JF l).map (n:: ·)|_::_=>none
def aeF(P:Program)(s d:TypeId)(l:List AV):Option AV:=
 match P.underlying s,P.underlying d with
 |some (.slice e),some .string=>match P.underlying e,JF l with
  |some (.int .u8),some a=>some (.sc (.string (strOfNums a)))|_,_=>none
 |_,_=>none
def YT(P:Program)(s d:TypeId)(x:AV):Option AV:=
 match P.underlying s,P.underlying d,x with
 |some _,some (.int k),.sc (.int _ n)=>some (.sc (.int k (k.wrap n)))|some _,some .string,.sc (.string b)=>some (.sc (.string b))|_,_,_=>none
def aaF(P:Program)(s d:TypeId)(x:AV):Option AV:=
 match x with
 |.slice _ l=>aeF P s d l|x=>YT P s d x
def HK(P:Program)(t:TypeId)(x:AV):Option AV:=
 match P.underlying t,x with
 |some (.slice _),.slice _ l=>some (.sc (.int .i64 l.length))|some (.slice _),.xQ _ _ len _=>some (.sc (.int .i64 len))|some (.slice _),.Ps=>some (.sc (.int .i64 0))|some (.slice _),.zF _ _ len _=>some (.sc (.int .i64 len))|some .string,.sc (.string s)=>some (.sc (.int .i64 s.size))|some (.array n _),_=>some (.sc (.int .i64 n))|_,_=>none
def UZ:AV->AV->Option AV
 |.sc (.int k a),.sc (.int _ b)=>some (.sc (.int k (if b>a then b else a)))|_,_=>none
def aaI:AV->AV->Option AV
 |.sc (.int k a),.sc (.int _ b)=>some (.sc (.int k (if b<a then b else a)))|_,_=>none
def Mj(f:AV->AV->Option AV):AV->List AV->Option AV
 |x,[]=>some x|x,y::l=>(f x y).bind λz=>Mj f z l
def xx(P:Program)(T:eK)(fr:Fr)(c:Call):Option AV:=
 match c.callee with
 |.builtin .len=>match c.argTypes[0]?,c.args[0]?with
  |some t,some x=>HK P t (ev T fr x)|_,_=>none
 |.builtin .max=>match c.args.toList with
  |x::l=>Mj UZ (ev T fr x) (l.map (ev T fr))|[]=>none
 |.builtin .min=>match c.args.toList with
  |x::l=>Mj aaI (ev T fr x) (l.map (ev T fr))|[]=>none
 |_=>none
def OU(P:Program)(t:TypeId)(x:AV):Option AV:=
 match x with
 |.iface a v=>match P.underlying t with
  |some (.interface _)=>none|some _=>if a=t then some (.tuple [v,.sc (.bool true)])else match zeroOf P t with
   |some z=>if zr z then some (.tuple [ofValue z,.sc (.bool false)])else none|none=>none
  |none=>none
 |_=>none
def zx(P:Program)(T:eK)(fr:Fr)(o:Oper):Option AV:=
 match o.op with
 |.typeAssert x _ t true=>OU P t (ev T fr x)|.move x=>some (ev T fr x)|.assign x=>some (ev T fr x)|.pick c a b=>match ev T fr c with
  |.sc (.bool t)=>some (if t then ev T fr a else ev T fr b)|_=>none
 |.build t ps=>FW P t (ps.toList.map λp=>(p.1,ev T fr p.2))|.binOp op t x y _=>Nh P op t y (ev T fr x) (ev T fr y)|.unOp op _ x=>unA op (ev T fr x)|.convert s d x=>aaF P s d (ev T fr x)|.makeFunc fn f c=>some (.func fn (f.toList.map λx=>(ev T fr x).norm) (c.toList.map λx=>(ev T fr x).norm))|.fieldAddr t x i=>rO P t (ev T fr x) i|.field t x i=>CG P t (ev T fr x) i|.indexAddr t x i=>gL P t (ev T fr x) (ev T fr i)|.index t x i=>Su P t (ev T fr x) (ev T fr i)|.slice t x lo hi h=>pL P t (ev T fr x) (lo.map (ev T fr)) (hi.map (ev T fr)) (h.map (ev T fr))|.extract x i=>match ev T fr x with
  |.tuple vs=>vs[i]?|_=>none
 |.nilCheck x=>match ev T fr x with
  |.func (.func f) a b=>some (.func (.func f) a b)|x=>if EX x then some x else none
 |.makeInterface t x=>if P.concrete t then some (.iface t (ev T fr x).norm)else none|.call c=>xx P T fr c|_=>none
section
variable{P:Program} {T:eK} {F:la} {ρ:Maps} {fr:Fr} {a:Act}
def R4(w:World){t k:TypeId}{x r:AV}{u:Value}(h:OU P t x=some r)(o:gI F ρ x u):∃v,(Instr.typeAssert u k t true).run P w=.ok v w/\gI F ρ r v:=by
 unfold OU at h
 split at h
 .rename_i c v
  obtain⟨b,rfl,q⟩:∃b,u=.iface c b/\gT F ρ.G ρ.n v b:=by
   cases o with
   |cell h=>cases h with
    |p h=>cases h with|iface h=>exact⟨_,rfl,h⟩
  split at h
  .cases h
  .rename_i ty d hu
   have l:(Instr.typeAssert (.iface c b) k t true).run P w=(if c=t then(pure (.tuple #[b,.bool true]):Sem Value)else do pure (.tuple #[<-zeroValue t,.bool false])).run P w:=by
    unfold Instr.typeAssert;simp only[h8,run_underlying hu,kD]
    cases ty<;>first|rfl|exact absurd rfl (d _)
   split at h
   .rename_i e;subst e;cases h;refine⟨_,by rw[l,dO rfl];rfl,.p ?_⟩;exact .tuple (vs:=[b,.bool true]) (.cons q (.cons (.sc rfl) .nil))
   .rename_i f
    split at h
    .rename_i z a
     split at h
     .rename_i s;cases h;refine⟨.tuple #[z,.bool false],?_,.p ?_⟩
      .rw[l,dK f]
       have j:(zeroValue t).run P w=.ok z w:=by
        unfold zeroOf at a;cases hi:P.info? t with
        |none=>rw[hi] at a;cases a
        |some i=>
         rw[hi] at a;have a:i.zero=some z:=a;simp[zeroValue,typeInfo,hi,a]
       simp only[h8,j,kD];rfl
      .exact .tuple (vs:=[z,.bool false]) (.cons (zz _ _ _ z s) (.cons (.sc rfl) .nil))
     .cases h
    .cases h
  .cases h
 .cases h
def H0(he:tR F ρ fr a)(b:yN T F ρ):∀(xs:List Operand),(∀x∈xs,jw x=true)->hS (gI F ρ) (xs.map (ev T fr)) (xs.map a.eval)
 |[],_=>.nil|x::xs,h=>.cons (gG he b x (h x abm)) (H0 he b xs λy hy=>h y (by simp[hy]))
def Jm(he:tR F ρ fr a)(b:yN T F ρ)(xs:List Operand)(h:∀x∈xs,jw x=true):hO F ρ.G ρ.n (xs.map λx=>(ev T fr x).norm) (xs.map a.eval):=by
 have:=(H0 he b xs h).wH AV.norm λ_ _ _ h=>gI.norm h;rw[F6] at this;exact .pV this
def I_(he:tR F ρ fr a)(b:yN T F ρ):∀(ps:List (Nat×Operand)),(∀p∈ps,jw p.2=true)->hS (λ(x:Nat×AV) (y:Nat×Value)=>x.1=y.1/\gI F ρ x.2 y.2) (ps.map λp=>(p.1,ev T fr p.2)) (ps.map λp=>(p.1,a.eval p.2))
 |[],_=>.nil|p::ps,h=>.cons ⟨rfl,gG he b p.2 (h p abm)⟩ (I_ he b ps λq c=>h q (by simp[c]))
def Ui(he:tR F ρ fr a)(b:yN T F ρ)(x:Option Operand)(h:∀y,x=some y->jw y=true):Aa F ρ (x.map (ev T fr)) (x.map a.eval):=by
 cases x with
 |none=>trivial|some y=>exact gG he b y (h y rfl)
def QN{v:Value}(h:gI F ρ .Ps v):∃base,v=.slice base 0 0:=by
 cases h with
 |cell h=>cases h with
  |p h=>cases h with|Ps=>exact⟨_,rfl⟩
def aa0(w:World){t ty:TypeId}{x r:AV}{u:Value}(h:HK P t x=some r)(a:gI F ρ x u){ts:Array TypeId}{us:Array Value}(c:ts[0]?=some t)(d:us[0]?=some u):∃v,(Builtin.len_ ts ty us).run P w=.ok v w/\gI F ρ r v:=by
 unfold HK at h;unfold Builtin.len_;simp only[c,d]
 split at h
 .rename_i e tag l hu;cases h;obtain⟨base,cap,b,o,sz,vs,rfl,hs,_,_⟩:=n7 a;exact⟨_,by simp only[h8,run_underlying hu,kD];rfl,.p (.sc rfl)⟩
 .rename_i e b g len cap hu;cases h;obtain⟨rfl,_,_,_⟩:=AA a;exact⟨_,by simp only[h8,run_underlying hu,kD];rfl,.p (.sc rfl)⟩
 .rename_i e hu;cases h;obtain⟨base,rfl⟩:=QN a;exact⟨_,by simp only[h8,run_underlying hu,kD];rfl,.p (.sc rfl)⟩
 .rename_i e b len cap hu;cases h;obtain⟨rfl,_,_,_⟩:=JY a;exact⟨_,by simp only[h8,run_underlying hu,kD];rfl,.p (.sc rfl)⟩
 .rename_i s hu;cases h;cases gr a;exact⟨_,by simp only[h8,run_underlying hu,kD];rfl,.p (.sc rfl)⟩
 .rename_i n e hu;cases h;exact⟨_,by simp only[h8,run_underlying hu,kD];rfl,.p (.sc rfl)⟩
 .cases h
def ML(w:World){f:AV->AV->Option AV}{g:Value->Value->Sem Value}(d:∀x y r u v,f x y=some r->gI F ρ x u->gI F ρ y v->∃z,(g u v).run P w=.ok z w/\gI F ρ r z):∀(l:List AV) (x r:AV) (u:Value) (us:List Value),Mj f x l=some r->gI F ρ x u->hS (gI F ρ) l us->∃z,(us.foldlM g u).run P w=.ok z w/\gI F ρ r z:=by
 intro l
 induction l with
 |nil=>
  intro x r u us h a b;cases b;cases h;exact⟨u,rfl,a⟩
 |cons y l ih=>
  intro x r u us h a b;cases b with
  |cons i j=>
   simp only[Mj,ahs] at h;obtain⟨z,k,h⟩:=h;obtain⟨s,n,c⟩:=d _ _ _ _ _ k a i;obtain⟨t,o,q⟩:=ih _ _ _ _ h c j
   simp_all
def aaB(w:World)(x y r:AV)(u v:Value)(h:UZ x y=some r)(a:gI F ρ x u)(hy:gI F ρ y v):∃z,(Builtin.max2 u v).run P w=.ok z w/\gI F ρ r z:=by
 unfold UZ at h
 split at h
 .cases gr a;cases gr hy;cases h;exact⟨_,rfl,.p (.sc rfl)⟩
 .cases h
def Zc(w:World)(x y r:AV)(u v:Value)(h:aaI x y=some r)(a:gI F ρ x u)(hy:gI F ρ y v):∃z,(Builtin.min2 u v).run P w=.ok z w/\gI F ρ r z:=by
 unfold aaI at h
 split at h
 .cases gr a;cases gr hy;cases h;exact⟨_,rfl,.p (.sc rfl)⟩
 .cases h
def S5(w:World){xs i:List AV}{us vs:List Value}(o:hS (j5 F ρ) xs us)(o1:∀c∈xs,c.gO=true)(s:hS (j5 F ρ) i vs)(o2:∀c∈i,c.gO=true):∀(fs:List Field) (b:Bool),xM P fs xs i=some b->(Op.eqFields 9999 us.toArray vs.toArray fs).run P w=.ok b w:=by
 intro fs
 induction fs with
 |nil=>intro b h;simp[xM] at h;subst h;rfl
 |cons f fs ih=>
  intro b h;unfold xM at h;unfold Op.eqFields
  split at h
  .rename_i hn;rw[dK (by simpa using hn)];exact ih b h
  .rename_i hn;rw[dO (by simpa using hn)]
   have step:∀{x y:Value} {r:Bool},mR P f.type xs f.offset=some (.sc x)->mR P f.type i f.offset=some (.sc y)->(Op.equalIn 9999 f.type x y).run P w=.ok r w->(xM P fs xs i).map (λq=>r&&q)=some b->(do
      let a<-part f.type us.toArray f.offset
      let b<-part f.type vs.toArray f.offset
      let r<-Op.equalIn 9999 f.type a b
      if(!r) then pure false else Op.eqFields 9999 us.toArray vs.toArray fs:Sem Bool).run P w=.ok b w:=by
    intro x y r d hy t l;obtain⟨G,u,v⟩:=Eu (P:=P) w o o1 d;obtain⟨H,A,B⟩:=Eu (P:=P) w s o2 hy;obtain rfl:=gr v;obtain rfl:=gr B;simp only[h8,u,A,t,kD];cases n:xM P fs xs i with
    |none=>rw[n] at l;cases l
    |some q=>
     rw[n] at l;simp only[ac5,w5] at l;cases r
     all_goals simp_all
   split at h
   .rename_i k C a k2 j hu d hy
    split at h
    .rename_i D;subst D;exact step d hy (run_equalIn_int w 9998 f.type C k a j hu) h
    .cases h
   .rename_i a j hu d hy;exact step d hy (run_equalIn_string w 9998 f.type a j hu) h
   .rename_i a j hu d hy;exact step d hy (run_equalIn_bool' w 9998 f.type a j hu) h
   .cases h
def UA(P:Program)(w:World){t:TypeId}{ms:Array (String×TypeId)}(hu:P.underlying t=some (.interface ms)):(binOp .eql t .nilIface .nilIface).run P w=.ok (.bool true) w/\(binOp .neq t .nilIface .nilIface).run P w=.ok (.bool false) w:=by
 have h:∀d,(Op.equalIn (d+1) t .nilIface .nilIface).run P w=.ok true w:=λd=>by simp[Op.equalIn,run_underlying hu]
 have a:binOp .eql t .nilIface .nilIface=(do pure (.bool (<-Op.equalIn (9999+1) t .nilIface .nilIface))):=rfl;have b:binOp .neq t .nilIface .nilIface=(do pure (.bool (!(<-Op.equalIn (9999+1) t .nilIface .nilIface)))):=rfl;rw[a,b,h8,h8,h 9999];exact⟨rfl,rfl⟩
def YN(w:World){op:BinOp}{t:TypeId}{x y r:AV}{u v:Value}(h:oB P op t x y=some r)(f:gI F ρ x u)(hy:gI F ρ y v):∃z,(binOp op t u v).run P w=.ok z w/\r=.sc z/\yP z=true/\∀a b,(eqGuard op t a b u v).run P w=.ok () w:=by
 have agg:∀{xs k:List AV} {b:Bool},Ml P t xs k=some b->gI F ρ (.agg xs) u->gI F ρ (.agg k) v->∃us vs:List Value,u=.agg us.toArray/\v=.agg vs.toArray/\(Op.equalIn (9999+1) t u v).run P w=.ok b w/\P.eqGuardType P.depth t=false:=by
  intro xs k b c f hy;obtain⟨us,rfl,u1,u2⟩:=Ep f;obtain⟨vs,rfl,v1,v2⟩:=Ep hy;unfold Ml at c
  split at c
  .rename_i fs hu
   split at c
   .rename_i d;simp only[ajj,gJ,afY] at d
    have n:P.fieldsOf t=fs:=by simp[Program.fieldsOf,hu]
    refine⟨us,vs,rfl,rfl,?_,d.1⟩;rw[run_equalIn_struct w 9999 t us.toArray vs.toArray (by rw[n];exact hu) d.2,n];exact S5 w u1 u2 v1 v2 _ _ c
   .cases c
  .cases c
 unfold oB at h
 split at h
 .cases c:Ml P t _ _ with
  |none=>rw[c] at h;cases h
  |some b=>
   rw[c] at h;cases h;obtain⟨us,vs,rfl,rfl,i,j⟩:=agg c f hy;refine⟨.bool b,?_,rfl,rfl,λa b=>?_⟩
   .have l:binOp .eql t (.agg us.toArray) (.agg vs.toArray)=(do pure (.bool (<-Op.equalIn (9999+1) t (.agg us.toArray) (.agg vs.toArray)))):=rfl;rw[l,h8,i];rfl
   .simp[eqGuard,j,Result.andThen]
 .cases c:Ml P t _ _ with
  |none=>rw[c] at h;cases h
  |some b=>
   rw[c] at h;cases h;obtain⟨us,vs,rfl,rfl,i,j⟩:=agg c f hy;refine⟨.bool !b,?_,rfl,rfl,λa b=>?_⟩
   .have l:binOp .neq t (.agg us.toArray) (.agg vs.toArray)=(do pure (.bool (!(<-Op.equalIn (9999+1) t (.agg us.toArray) (.agg vs.toArray))))):=rfl;rw[l,h8,i];rfl
   .simp[eqGuard,j,Result.andThen]
 .obtain⟨z,i,j,o,q⟩:=Wh P w h f hy;exact⟨z,i,j,o,λa b=>RY P w op t a b q⟩
def Gi{G:Nat->Nat}{n:Nat}:∀{a:List Int} {vs:List Value},hO F G n (a.map (λn=>AV.sc (.int .u8 n))) vs->vs=a.map (Value.int .u8)
 |[],_,.nil=>rfl|n::a,_,.cons b c=>by
  cases b;rw[Gi c];rfl
def Eh:∀{l:List AV} {a:List Int},JF l=some a->l.flatMap AV.cells=a.map (λn=>AV.sc (.int .u8 n))/\l.length=a.length
 |[],a,h=>by grind[JF]|x::l,a,h=>by
  unfold JF at h
  split at h
  .rename_i e;cases e
  .simp only[adV] at h;obtain⟨ms,b,rfl⟩:=h;obtain⟨i1,i2⟩:=Eh b
   grind[AV.cells]
  .cases h
def CQ(w:World)(K:∀b o v,F b o=some v->w.cell? ⟨b,o,none⟩=some v)(he:tR F ρ fr a)(n:yN T F ρ){o:Oper}{r:AV}(L:o.op.operands.all jw=true)(h:zx P T fr o=some r):∃v,(execOp a.eval o).run P w=.ok (.value v) w/\gI F ρ r v:=by
 obtain⟨dst,op,type,pos,after,guard⟩:=o;have j:∀x∈op.operands,jw x=true:=λx k=>Lu.1 L x k;clear L
 have lift:∀{s:Sem Value},(∃v,s.run P w=.ok v w/\gI F ρ r v)->∃v,((do pure (.value (<-s))):Sem Next).run P w=.ok (.value v) w/\gI F ρ r v:=by
  rintro s ⟨v,C,G⟩;exact⟨v,by rw[h8,C];rfl,G⟩
 cases op<;>simp only[zx] at h<;>simp only[Op.operands] at j<;>simp only[execOp]
 case move x=>cases h;exact⟨_,rfl,gG he n x (j x abm)⟩
 case assign x=>cases h;exact⟨_,rfl,gG he n x (j x abm)⟩
 case pick c x y=>
  split at h
  .rename_i t A;cases h;have M:=gG he n c (j c abm);rw[A] at M;have O:=gr M;refine⟨if t then a.eval x else a.eval y,?_,?_⟩
   .rw[O];rfl
   .cases t
    .exact gG he n y (j y abm)
    .exact gG he n x (j x abm)
  .cases h
 case build t ps=>
  refine lift ?_;have D:=I_ he n ps.toList λp D=>j p.2 (by simp;exact⟨p.1,by simpa using D⟩);have:=run_build (P:=P) w h D
  have e:(ps.toList.map λp=>(p.1,a.eval p.2)).toArray=ps.map λp=>(p.1,a.eval p.2):=by rw[<-PK,Xr]
  rw[e] at this;exact this
 case binOp op t x y t'=>
  obtain⟨z,B,H,Q,R⟩:∃z,(binOp op t (a.eval x) (a.eval y)).run P w=.ok z w/\r=.sc z/\yP z=true/\(eqGuard op t x y (a.eval x) (a.eval y)).run P w=.ok () w:=by
   have k:=gG he n x (j x abm);have hy:=gG he n y (j y abm);change Nh P op t y (ev T fr x) (ev T fr y)=some r at h;generalize ev T fr x=u at h k;generalize ev T fr y=v at h hy;unfold Nh at h
   split at h
   .have k:=gr k;rw[k]
    split at h
    .rename_i hu;cases h;exact⟨.bool true,(UA P w hu).1,rfl,rfl,by simp[eqGuard,Act.eval]⟩
    .rename_i hu;cases h;exact⟨.bool false,(UA P w hu).2,rfl,rfl,by simp[eqGuard,Act.eval]⟩
    .cases h
   .obtain⟨z,B,H,Q,R⟩:=YN (P:=P) w h k hy;exact⟨z,B,H,Q,R _ _⟩
  subst H;refine⟨z,?_,.p (.sc Q)⟩;simp only[h8,R,kD,B];rfl
 case unOp op t x=>
  refine lift ?_;have k:=gG he n x (j x abm);generalize a.eval x=u at k|-;unfold unA at h
  split at h
  .rename_i A;rw[A] at k;cases gr k;cases h;exact⟨_,by simp[Op.unary,Op.intArith],.p (.sc rfl)⟩
  .rename_i A;rw[A] at k;cases gr k;cases h;exact⟨_,by simp[Op.unary],.p (.sc rfl)⟩
  .cases h
 case convert s d x=>
  refine lift ?_;have k:=gG he n x (j x abm);generalize a.eval x=u at k|-;unfold aaF at h
  split at h
  .rename_i tag l A;unfold aeF at h
   split at h
   .rename_i e hs I
    split at h
    .rename_i N hu S;cases h;rw[A] at k;obtain⟨W,hlen⟩:=Eh S;obtain⟨base,cap,b,o,sz,vs,rfl,J,_,_⟩:=n7 k;refine⟨.string (strOfNums N),?_,.p (.sc rfl)⟩
     have U:vs=N.map (Value.int .u8):=by
      have D:=J.cells;rw[W] at D;exact Gi D
     by_cases hn:l=[]
     .subst hn;have V:N=[]:=Cd (by simpa using hlen.symm);subst V;cases base with
      |none=>exact run_convert_bytes_nil w s e hs hu 0 cap d I|some X=>
       obtain⟨ab,Y,Z⟩:=X;show(convert s d (.slice (some ⟨ab,Y,Z⟩) 0 cap)).run P w=_;rw[run_convert_bytes_string w s d e _ 0 cap hs hu I,run_bytesToString w _ 0 cap [] (by simp[loadCells,loadCellsFrom])];rfl
     .rw[J.base hn];refine run_convert_bytes_arg w s e hs hu b o l.length cap N hlen.symm (λi hi=>?_) d I;refine K b (o+i) _ (J.has i _ ?_);rw[U,y',pE VW];simp[List.getD,pE (show i<N.length by omega)]
    .cases h
   .cases h
  .unfold YT at h
   split at h
   .rename_i hs I A;rw[A] at k;cases gr k;cases h;refine⟨_,?_,.p (.sc rfl)⟩;unfold convert;simp only[h8,run_underlying hs,run_underlying I,kD];rfl
   .rename_i hs I A;rw[A] at k;cases gr k;cases h;refine⟨_,?_,.p (.sc rfl)⟩;unfold convert;simp only[h8,run_underlying hs,run_underlying I,kD];rfl
   .cases h
 case makeFunc fn f c=>
  cases h;refine lift ⟨.func fn (f.map a.eval) (c.map a.eval),rfl,?_⟩;have B:=Jm he n f.toList λx k=>j x (by simp[yd.1 k]);have H:=Jm he n c.toList λx k=>j x (by simp[yd.1 k]);have:=gT.func (fn:=fn) B H
  have e:∀l:Array Operand,(l.toList.map a.eval).toArray=l.map a.eval:=λl=>by rw[<-PK,Xr]
  rw[e,e] at this;exact .p this
 case fieldAddr t x i=>exact lift (LK w h (gG he n x (j x abm)))
 case field t x i=>exact lift (Xm w h (gG he n x (j x abm)))
 case indexAddr t x i=>exact lift (Ll w h (gG he n x (j x abm)) (gG he n i (j i abm)))
 case index t x i=>exact lift (WD w h (gG he n x (j x abm)) (gG he n i (j i abm)))
 case slice t x lo hi mx=>
  exact lift (W_ w h (gG he n x (j x abm)) (Ui he n lo λy hy=>j y (by simp[hy])) (Ui he n hi λy hy=>j y (by simp[hy]))
   (Ui he n mx λy hy=>j y (by simp[hy])))
 case extract x i=>
  refine lift ?_;have k:=gG he n x (j x abm)
  split at h
  .rename_i vs A;rw[A] at k;obtain⟨us,hu,G⟩:=Sp k;obtain⟨v,C,D⟩:=G.get h;refine⟨v,?_,.p D⟩;rw[hu];simp[Instr.extract,C]
  .cases h
 case nilCheck x=>
  have k:=gG he n x (j x abm)
  split at h
  .rename_i f b c A;cases h;rw[A] at k;obtain⟨vf,vc,C,_,_⟩:=BQ k;refine⟨a.eval x,?_,k⟩;rw[C];rfl
  .rename_i A
   split at h
   .rename_i D;cases h;obtain⟨b,S⟩:=Fy D k;refine⟨a.eval x,?_,k⟩;rw[S];rfl
   .cases h
 case makeInterface t x=>
  refine lift ?_
  split at h
  .rename_i A;cases h;exact⟨_,run_makeInterface w t _ A,.p (.iface (gG he n x (j x abm)).norm)⟩
  .cases h
 case typeAssert x xt t ok=>
  cases ok with
  |true=>exact lift (R4 w h (gG he n x (j x abm)))|false=>cases h
 case call c=>
  obtain⟨callee,args,argTypes⟩:=c;have q:∀x∈args.toList,jw x=true:=λx k=>j x (by simp[Call.operands,yd.1 k]);simp only[xx] at h
  split at h
  .split at h
   .rename_i t x B H;simp only[resolve,invoke,builtin,h8,qb,kD];have k:x∈args:=aeu H;obtain⟨v,C,G⟩:=aa0 (P:=P) (ty:=type) w h (gG he n x (q x (yd.2 k))) B (us:=args.map a.eval) (by simp[H]);exact⟨v,by rw[C];rfl,G⟩
   .cases h
  .split at h
   .rename_i x l B;simp only[resolve,invoke,builtin,h8,qb,kD];obtain⟨v,C,G⟩:=ML w (aaB (P:=P) w) _ _ _ _ _ h (gG he n x (q x (by simp[B]))) (H0 he n l λy hy=>q y (by simp[B,hy]));refine⟨v,?_,G⟩
    have e:(args.map a.eval).toList=a.eval x::l.map a.eval:=by simp[B]
    simp only[Builtin.max_,e,C,kD]
   .cases h
  .split at h
   .rename_i x l B;simp only[resolve,invoke,builtin,h8,qb,kD];obtain⟨v,C,G⟩:=ML w (Zc (P:=P) w) _ _ _ _ _ h (gG he n x (q x (by simp[B]))) (H0 he n l λy hy=>q y (by simp[B,hy]));refine⟨v,?_,G⟩
    have e:(args.map a.eval).toList=a.eval x::l.map a.eval:=by simp[B]
    simp only[Builtin.min_,e,C,kD]
   .cases h
  .cases h
 all_goals cases h
end
end Go.lD
namespace Go.lD
open Go
def Uo(a:Nat×Nat)(n:Nat):Prop:=a=(0,0)\/n<=a.1
inductive lV (F:la) (G:Nat->Nat) (n:Nat):List AV->Obj->Prop
 |cells {cs vs ty fz}:Uo fz vs.size->hS (gT F G n) cs vs.toList->(∀c∈cs,c.gO=true)->lV F G n cs (.cells vs ty fz)|map {ks xs es clock}:es.toList.map (·.key)=ks->hS (gT F G n) xs (es.toList.map (·.val))->es.toList.map (·.born)=List.range ks.length->clock=ks.length->ks.Nodup->lV F G n [.uv ks xs] (.map es clock)|iter {o since seen}:o<n->lV F G n [.mV o since seen] (.mapIter (some (G o)) since seen.toArray since)|dead {ob}:lV F G n [] ob
def lV.grow{F F':la}{G G':Nat->Nat}{n n':Nat}(hg:Ha F F' G G' n n'){cs c}(h:lV F G n cs c):lV F' G' n' cs c:=by
 cases h with
 |cells d a b=>exact .cells d (a.mono λ_ _ _ h=>h.grow hg) b|map a b f i j=>exact .map a (b.mono λ_ _ _ h=>h.grow hg) f i j|iter h=>rw[<-hg.mG _ h];exact .iter (WQ h hg.mn)|dead=>exact .dead
def uZ:List AV->Bool
 |[]=>false|c::_=>c.gO
def lV.HR{F:la}{G:Nat->Nat}{n:Nat}{cs a}(h:lV F G n cs a)(d:uZ cs=true):∃vs ty b,a=.cells vs ty b/\Uo b vs.size/\hS (gT F G n) cs vs.toList/\∀c∈cs,c.gO=true:=by
 cases h with
 |cells f i j=>grind|map=>grind[uZ,AV.gO]|iter=>grind[uZ,AV.gO]|dead=>grind[uZ]
def JX(vs:Array Value):Prop:=∀u∈vs.toList,u.oneCell'=true
structure GW (T:eK) (G:Nat->Nat) (F:la) (H:dV) (w:World):Prop where
 GL:∀b o v,F b o=some v->w.cell? ⟨b,o,none⟩=some v
 ma:∀o cs,H[o]?=some cs->∃ob,w.heap[G o]?=some ob/\lV F G H.length cs ob
 inj:∀o o',o<H.length->o'<H.length->G o=G o'->o=o'
 gF:∀o j,o<H.length->H[o]?≠some []->F (G o) j=none
 fresh:∀b j,w.heap.size<=b->F b j=none
 CO:∀g x,T g=some x->gT F G H.length (.mQ x) (.pointer (some ⟨g,0,none⟩))
 row:(∀g,T g=none)->∀b o v,F b o=some v->∃vs ty fz,w.heap[b]?=some (.cells vs ty fz)/\Uo fz vs.size/\JX vs
structure Ext (B:Nat) (G:Nat->Nat) (F:la) (n:Nat) (w:World) (G':Nat->Nat) (F':la) (n':Nat) (w':World):Prop where
 os:w'.os=w.os
 tape:w'.tape=w.tape
 output:w'.output=w.output
 size:w.heap.size<=w'.heap.size
 len:n<=n'
 hG:∀o,o<n->G' o=G o
 NP:∀o,n<=o->o<n'->B<=G' o
 hF:∀b j,b<B->(∀o,o<n->G o≠b)->F' b j=F b j
 mF:∀b j v,b<B->F b j=some v->F' b j=some v
 heap:∀b,b<B->(∀o,o<n->G o≠b)->w'.heap[b]?=w.heap[b]?
section
variable{B B':Nat} {G G' G'':Nat->Nat} {F F' F'':la} {n n' n'':Nat} {w w' w'':World}
theorem Ext.refl:Ext B G F n w G F n w:=⟨rfl,rfl,rfl,gY _,gY _,λ_ _=>rfl,λ_ h a=>absurd a VW,λ_ _ _ _=>rfl,λ_ _ _ _ h=>h,λ_ _ _=>rfl⟩
def Ext.trans(h:Ext B G F n w G' F' n' w')(k:Ext B G' F' n' w' G'' F'' n'' w''):Ext B G F n w G'' F'' n'' w'' where
 os:=k.os.trans h.os
 tape:=k.tape.trans h.tape
 output:=k.output.trans h.output
 size:=z8 h.size k.size
 len:=z8 h.len k.len
 hG o c:=(k.hG o (WQ c h.len)).trans (h.hG o c)
 NP o d f:=by
  rcases uC o n' with h3|h3
  .rw[k.hG o h3];exact h.NP o d h3
  .exact k.NP o h3 f
 hF b j a hg:=by
  refine(k.hF b j a λo c=>?_).trans (h.hF b j a hg);rcases uC o n with h3|h3
  .rw[h.hG o h3];exact hg o h3
  .have:=h.NP o h3 c;omega
 mF b j v a i:=k.mF b j v a (h.mF b j v a i)
 heap b a hg:=by
  refine(k.heap b a λo c=>?_).trans (h.heap b a hg);rcases uC o n with h3|h3
  .rw[h.hG o h3];exact hg o h3
  .have:=h.NP o h3 c;omega
theorem Ext.mono(h:Ext B G F n w G' F' n' w')(c:B'<=B):Ext B' G F n w G' F' n' w':=
 ⟨h.os,h.tape,h.output,h.size,h.len,h.hG,λo d f=>z8 c (h.NP o d f),λb j a=>h.hF b j VW,λb j v a=>h.mF b j v VW,λb a hg=>h.heap b VW hg⟩
end
inductive oY where
 |free|box (d:Nat)|ma|arr (k:Nat)
 deriving DecidableEq
structure WR (T:eK) (n B0:Nat) (ρ:Maps) (F:la) (R:Nat->oY) (fr:Fr) (H:dV) (a:Act) (w:World):Prop where
 g:GW T ρ.G F H w
 size:a.tmps.size=n
 defers:a.defers=[]
 env:tR F ρ fr a
 hn:ρ.n=H.length
 lg:∀d,ρ.lg d=fr.gen d
 ag:∀k,ρ.ag k=fr.fy k
 box:∀d cs,fr.box d=some cs->B0<=ρ.L d (fr.gen d)/\R (ρ.L d (fr.gen d))=.box d/\(∀c∈cs,c.gO=true)/\∃vs ty,w.heap[ρ.L d (fr.gen d)]?=some (.cells vs ty (0,0))/\hS (j5 F ρ) cs vs.toList
 tok:∀k m,fr.qU k=some m->∀b c sz,ρ.A k (fr.fy k)=some (b,c,sz)->B0<=b/\R b=.arr k/\(0<m/\m<=c)/\c<=maxLen/\(∃vs ty,w.heap[b]?=some (.cells vs ty (0,0))/\vs.size=c*sz/\JX vs)/\∀j,m*sz<=j->F b j=none
 qV:∀b j v,F b j=some v->∀d,R b≠ .box d
 oM:∀o,o<H.length->R (ρ.G o)=.ma
 lZ:∀b,w.heap.size<=b->R b=.free
 q8:B0<=w.heap.size
section
variable{T:eK} {n B0:Nat} {ρ ρ':Maps} {F F':la} {R:Nat->oY} {fr:Fr} {H:dV} {a:Act} {w w':World}
def WR.iu(h:WR T n B0 ρ F R fr H a w):yN T F ρ:=λg x b=>by rw[h.hn];exact h.g.CO g x b
def WR.aj8(h:WR T n B0 ρ F R fr H a w){b j:Nat}{v:Value}(c:F b j=some v):b<w.heap.size:=by
 rcases uC b w.heap.size with h'|h'
 .exact h'
 .rw[h.g.fresh b j h'] at c;cases c
theorem Fr.ub(fr:Fr)(d:Option Nat)(x:AV)(t:Nat):(fr.put d x).env t=if d=some t then x else fr.env t:=by
 cases d with
 |none=>simp[Fr.put]|some d=>
  simp only[Fr.put,gN]
  grind
theorem Fr.yy(fr:Fr)(d:Option Nat)(x:AV):(fr.put d x).box=fr.box/\(fr.put d x).gen=fr.gen/\(fr.put d x).qU=fr.qU/\(fr.put d x).fy=fr.fy:=by
 cases d<;>exact⟨rfl,rfl,rfl,rfl⟩
def Qg(a:Act)(d:Option Nat)(v:Value)(t:Nat)(c:∀b,d=some b->b<a.tmps.size):(a.put d v).tmps.getD t undef=if d=some t then v else a.tmps.getD t undef:=by
 cases d with
 |none=>simp[Act.put]|some d=>
  simp only[Act.put,P0]
  grind
theorem tR.put(he:tR F ρ fr a){d:Option Nat}(c:∀b,d=some b->b<a.tmps.size){x:AV}{v:Value}(f:gI F ρ x v):tR F ρ (fr.put d x) (a.put d v):=by
 intro t;rw[Fr.ub,Qg a d v t c]
 split
 .exact f
 .exact he t
def EB(a:Act)(d:Option Nat)(v:Value):(a.put d v).tmps.size=a.tmps.size:=by cases d<;>simp[Act.put]
def put_defers(a:Act)(d:Option Nat)(v:Value):(a.put d v).defers=a.defers:=by cases d<;>rfl
theorem WR.put(h:WR T n B0 ρ F R fr H a w){d:Option Nat}(i:∀b,d=some b->b<n){x:AV}{v:Value}(j:gI F ρ x v):WR T n B0 ρ F R (fr.put d x) H (a.put d v) w:=by
 obtain⟨k,c,l,f⟩:=Fr.yy fr d x;refine⟨h.g,by rw[EB];exact h.size,by rw[put_defers];exact h.defers,h.env.put (by rw[h.size];exact i) j,h.hn,?_,?_,?_,?_,h.qV,h.oM,h.lZ,h.q8⟩
 .rw[c];exact h.lg
 .rw[f];exact h.ag
 .rw[k,c];exact h.box
 .rw[l,f];exact h.tok
def WR.drew(h:WR T n B0 ρ F R fr H a w):WR T n B0 ρ F R fr H a w.drew:=
 ⟨⟨h.g.GL,h.g.ma,h.g.inj,h.g.gF,h.g.fresh,h.g.CO,h.g.row⟩,h.size,h.defers,h.env,h.hn,h.lg,h.ag,h.box,h.tok,h.qV,h.oM,h.lZ,h.q8⟩
def qH{w:World}{b:Nat}{o:Obj}(h:w.heap[b]?=some o):b<w.heap.size:=(Xi.1 h).1
def WR.alloc(h:WR T n B0 ρ F R fr H a w)(o:Obj):WR T n B0 ρ F R fr H a (w.alloc o):=by
 have hs:(w.alloc o).heap.size=w.heap.size+1:=World.size_alloc w o;refine⟨⟨?_,?_,h.g.inj,h.g.gF,?_,h.g.CO,?_⟩,h.size,h.defers,h.env,h.hn,h.lg,h.ag,?_,?_,h.qV,h.oM,?_,by have:=h.q8;omega⟩
 .intro b j v q;rw[World.cell?_alloc_lt w o ⟨b,j,none⟩ (h.aj8 q)];exact h.g.GL b j v q
 .intro x cs y;obtain⟨r,f,i⟩:=h.g.ma x cs y;exact⟨r,(heap_alloc_old w o (qH f)).trans f,i⟩
 .intro b j A;exact h.g.fresh b j VW
 .intro B b j v q;obtain⟨vs,ty,C,f,i⟩:=h.g.row B b j v q;exact⟨vs,ty,C,(heap_alloc_old w o (qH f)).trans f,i⟩
 .intro d cs D;obtain⟨f,i,s,vs,ty,l,t⟩:=h.box d cs D;exact⟨f,i,s,vs,ty,(heap_alloc_old w o (qH l)).trans l,t⟩
 .intro k m G b c sz I;obtain⟨f,i,s,u,⟨vs,ty,l,t⟩,J⟩:=h.tok k m G b c sz I;exact⟨f,i,s,u,⟨vs,ty,(heap_alloc_old w o (qH l)).trans l,t⟩,J⟩
 .intro b A;exact h.lZ b VW
def tR.grow(he:tR F ρ fr a)(hg:w6 F F' ρ ρ'):tR F' ρ' fr a:=λt=>(he t).grow hg
def tm{α:Type}(f:Nat->Nat->α)(i j:Nat)(x:α):Nat->Nat->α:=λa b=>if a=i/\b=j then x else f a b
def WR.afP(h:WR T n B0 ρ F R fr H a w){b:Nat}{vs:Array Value}{ty:TypeId}{cs:List AV}(O:B0<=b)(r:R b=.free)(hF:∀j,F b j=none)
  (N:w.heap[b]?=some (.cells vs ty (0,0))) (C:hS (j5 F ρ) cs vs.toList) (y:∀c∈cs,c.gO=true) {d:Nat} (P:d<n):∃ρ' A,ρ'.G=ρ.G/\WR T n B0 ρ' F A {fr with env:=gN fr.env d (.h9 d (fr.gen d+1) 0),box:=gN fr.box d (some cs),gen:=gN fr.gen d (fr.gen d+1)} H
   (a.put (some d) (.pointer (some ⟨b,0,none⟩))) w:=by
 let ρ':Maps:={ρ with L:=tm ρ.L d (fr.gen d+1) b,lg:=gN ρ.lg d (fr.gen d+1)}
 let A:Nat->oY:=gN R b (.box d)
 have s:w6 F F ρ ρ':=by
  refine⟨.refl,λf=>?_,λf g hg=>?_,λ_=>gY _,λ_ _ _=>rfl⟩
  .show ρ.lg f<=gN ρ.lg d (fr.gen d+1) f;unfold gN
   split
   .rename_i Q;subst Q;rw[h.lg];omega
   .exact gY _
  .show tm ρ.L d (fr.gen d+1) b f g=ρ.L f g;unfold tm;rw[dK];rintro⟨rfl,rfl⟩;rw[h.lg] at hg;omega
 have l:∀i,R i≠ .free->A i=R i:=by
  intro i t;show gN R b (.box d) i=R i;unfold gN;rw[dK];rintro rfl;exact t r
 refine⟨ρ',A,rfl,?_⟩;refine⟨⟨h.g.GL,h.g.ma,h.g.inj,h.g.gF,h.g.fresh,h.g.CO,h.g.row⟩,by rw[EB];exact h.size,by rw[put_defers];exact h.defers,?_,h.hn,?_,h.ag,?_,?_,?_,?_,?_,h.q8⟩
 .have S:=(h.env.grow s).put (d:=some d) (by intro f he;injection he with he;subst he;rw[h.size];exact P) (x:=.h9 d (fr.gen d+1) 0) (v:=.pointer (some ⟨b,0,none⟩))
   (by
    have:=j5.h9 (F:=F) (ρ:=ρ') (b:=d) (g:=fr.gen d+1) (off:=0) (by show _<=gN ρ.lg d (fr.gen d+1) d;simp[gN])
    have e:ρ'.L d (fr.gen d+1)=b:=by show tm ρ.L d (fr.gen d+1) b d (fr.gen d+1)=b;simp[tm]
    rw[e] at this
    exact .cell this)
  exact S
 .intro f;show gN ρ.lg d (fr.gen d+1) f=gN fr.gen d (fr.gen d+1) f;unfold gN
  split
  .rfl
  .exact h.lg f
 .intro f D q;simp only[gN] at q|-
  by_cases he:f=d
  .subst he;simp only[if_true] at q|-;cases q
   have e:ρ'.L f (fr.gen f+1)=b:=by show tm ρ.L f (fr.gen f+1) b f (fr.gen f+1)=b;simp[tm]
   rw[e];refine⟨O,?_,y,vs,ty,N,C.mono λ_ _ _ h=>h.grow s⟩;show gN R b (.box f) b=.box f;simp[gN]
  .simp only[dK he] at q|-;obtain⟨I,B,J,vs',K,U,V⟩:=h.box f D q
   have e:ρ'.L f (fr.gen f)=ρ.L f (fr.gen f):=by show tm ρ.L d (fr.gen d+1) b f (fr.gen f)=_;simp[tm,he]
   rw[e];exact⟨I,by rw[l _ (by rw[B];simp)];exact B,J,vs',K,U,V.mono λ_ _ _ h=>h.grow s⟩
 .intro k m W i c sz X;obtain⟨I,B,J⟩:=h.tok k m W i c sz X;exact⟨I,by rw[l _ (by rw[B];simp)];exact B,J⟩
 .intro i j v M
  have u:i≠b:=by rintro rfl;rw[hF j] at M;cases M
  have e:A i=R i:=by show gN R b (.box d) i=R i;simp[gN,u]
  rw[e];exact h.qV i j v M
 .intro o Y;have:=h.oM o Y;rw[l _ (by show R (ρ.G o)≠_;rw[this];simp)];exact this
 .intro i t
  have u:i≠b:=by rintro rfl;have:=qH N;omega
  show gN R b (.box d) i=.free;simp only[gN,dK u];exact h.lZ i t
def WR.N6(h:WR T n B0 ρ F R fr H a w){b:Nat}{I:Obj}{cs:List AV}(i:R b=.free)(hF:∀j,F b j=none)
  (U:w.heap[b]?=some I) (J:lV F ρ.G ρ.n cs I):∃ρ' A,(∀o,o<H.length->ρ'.G o=ρ.G o)/\ρ'.G H.length=b/\ρ'.n=H.length+1/\WR T n B0 ρ' F A fr (H++[cs]) a w:=by
 let ρ':Maps:={ρ with G:=gN ρ.G H.length b,n:=H.length+1}
 let A:Nat->oY:=gN R b .ma
 have hG:∀o,o<H.length->ρ'.G o=ρ.G o:=by
  intro o f;show gN ρ.G H.length b o=ρ.G o;simp only[gN];rw[dK VW]
 have s:Ha F F ρ.G ρ'.G ρ.n ρ'.n:=⟨λ_ _ _ h=>h,by show ρ.n<=H.length+1;rw[h.hn];omega,λo f=>hG o (by rw[h.hn] at f;exact f)⟩;have B:w6 F F ρ ρ':=⟨s,λ_=>gY _,λ_ _ _=>rfl,λ_=>gY _,λ_ _ _=>rfl⟩
 have r:Ha F F ρ.G ρ'.G H.length (H++[cs]).length:=by
  have:=s;rw[h.hn] at this;simpa using this
 have l:∀d,R d≠ .free->A d=R d:=by
  intro d t;show gN R b .ma d=R d;unfold gN;rw[dK];rintro rfl;exact t i
 have q:ρ'.G H.length=b:=by show gN ρ.G H.length b H.length=b;simp[gN]
 refine⟨ρ',A,hG,q,rfl,?_⟩;refine⟨⟨h.g.GL,?_,?_,?_,h.g.fresh,λg x V=>(h.g.CO g x V).grow r,h.g.row⟩,h.size,h.defers,h.env.grow B,by show H.length+1=_;simp,h.lg,h.ag,?_,?_,?_,?_,?_,h.q8⟩
 .intro o u f;rcases uC o H.length with C|hge
  .rw[uJ C] at f;obtain⟨K,h1,h2⟩:=h.g.ma o u f;rw[hG o C];exact⟨K,h1,h2.grow r⟩
  .have:o=H.length:=by
    have:=(ru.1 f).1;simp at this;omega
   subst this;simp at f;subst f;rw[q];exact⟨I,U,(by have:=J.grow s;simpa using this)⟩
 .intro o o' f M he;simp at f M
  have key:∀o,o<H.length->ρ'.G o≠b:=by
   intro o f he;rw[hG o f] at he;have:=h.oM o f;rw[he,i] at this;cases this
  rcases uC o H.length with h1|h1
  .rcases uC o' H.length with h2|h2
   .rw[hG o h1,hG o' h2] at he;exact h.g.inj o o' h1 h2 he
   .have e:o'=H.length:=VW
    subst e;rw[q] at he;exact absurd he (key o h1)
  .grind
 .intro o j f D;simp at f;rcases uC o H.length with h1|h1
  .rw[hG o h1];exact h.g.gF o j h1 (by rw[uJ h1] at D;exact D)
  .have e:o=H.length:=VW
   subst e;rw[q];exact hF j
 .intro N u O;obtain⟨h1,h2,P,vs',Q,W,X⟩:=h.box N u O;exact⟨h1,by rw[l _ (by show R (ρ.L N (fr.gen N))≠_;rw[h2];simp)];exact h2,P,vs',Q,W,X.mono λ_ _ _ h=>h.grow B⟩
 .intro k m Y d c sz Z;obtain⟨h1,h2,P⟩:=h.tok k m Y d c sz Z;exact⟨h1,by rw[l _ (by rw[h2];simp)];exact h2,P⟩
 .intro d j v S
  have y:d≠b:=by rintro rfl;rw[hF j] at S;cases S
  have e:A d=R d:=by show gN R b .ma d=R d;simp[gN,y]
  rw[e];exact h.qV d j v S
 .intro o f;simp at f;rcases uC o H.length with h1|h1
  .have:=h.oM o h1;rw[hG o h1,l _ (by rw[this];simp)];exact this
  .have e:o=H.length:=VW
   subst e;rw[q];show gN R b .ma b=.ma;simp[gN]
 .intro d t
  have y:d≠b:=by rintro rfl;have:=qH U;omega
  show gN R b .ma d=.free;simp only[gN,dK y];exact h.lZ d t
def WR.af4(h:WR T n B0 ρ F R fr H a w){b:Nat}{vs:Array Value}{ty:TypeId}{cs:List AV}(f:R b=.free)(hF:∀j,F b j=none)
  (r:w.heap[b]?=some (.cells vs ty (0,0))) (l:hS (gT F ρ.G ρ.n) cs vs.toList) (i:∀c∈cs,c.gO=true) {d:Nat} (s:d<n):∃ρ' q,(∀o,o<H.length->ρ'.G o=ρ.G o)/\ρ'.G H.length=b/\WR T n B0 ρ' F q {fr with env:=gN fr.env d (.fg H.length 0)} (H++[cs])
   (a.put (some d) (.pointer (some ⟨b,0,none⟩))) w:=by
 obtain⟨ρ',q,hG,k,t,hw⟩:=h.N6 f hF r (.cells (.inl rfl) l i);refine⟨ρ',q,hG,k,hw.put (d:=some d) (by intro u he;injection he with he;subst he;exact s) (x:=.fg H.length 0) ?_⟩;have:=gT.fg (F:=F) (G:=ρ'.G) (n:=ρ'.n) (o:=H.length) (off:=0) (by grind);rw[k] at this;exact .p this
end
def cell_setRow_other(w:World)(g:Nat)(cs:Array Value)(b o:Nat)(h:b≠g):(w.setRow g cs).cell? ⟨b,o,none⟩=w.cell? ⟨b,o,none⟩:=
 World.cell?_of_block (w:=w) (a:=⟨b,o,none⟩) (setRow_other w g b cs h)
def size_setRow(w:World)(g:Nat)(cs:Array Value):(w.setRow g cs).heap.size=w.heap.size:=by simp_all
section
variable{T:eK} {n B0:Nat} {ρ:Maps} {F:la} {R:Nat->oY} {fr:Fr} {H:dV} {a:Act} {w:World}
def WR.Zp(h:WR T n B0 ρ F R fr H a w){d:Nat}{cs s:List AV}{vs':Array Value}(S:fr.box d=some cs)(C:hS (j5 F ρ) s vs'.toList)(x:∀c∈s,c.gO=true):WR T n B0 ρ F R {fr with box:=gN fr.box d (some s)} H a (w.setRow (ρ.L d (fr.gen d)) vs'):=by
 obtain⟨U,O,h3,vs,ty,V,h5⟩:=h.box d cs S
 have f:∀b,R b≠ .box d->b≠ρ.L d (fr.gen d):=by
  rintro b t rfl;exact t O
 refine⟨⟨?_,?_,h.g.inj,h.g.gF,?_,h.g.CO,?_⟩,h.size,h.defers,h.env,h.hn,h.lg,h.ag,?_,?_,h.qV,h.oM,?_,by rw[size_setRow];exact h.q8⟩
 .intro b o v y;rw[cell_setRow_other]
  .exact h.g.GL b o v y
  .exact f b (h.qV b o v y d)
 .intro o i P;obtain⟨A,B,u⟩:=h.g.ma o i P;refine⟨A,?_,u⟩;rw[setRow_other]
  .exact B
  .refine f _ ?_;rw[h.oM o (ru.1 P).1];simp
 .intro b j t;rw[size_setRow] at t;exact h.g.fresh b j t
 .intro W b j v y;obtain⟨D,G,I,g1,g2⟩:=h.g.row W b j v y;exact⟨D,G,I,by rw[setRow_other _ _ _ _ (f b (h.qV b j v y d))];exact g1,g2⟩
 .intro Q i l;simp only[gN] at l
  by_cases he:Q=d
  .subst he;simp only[if_true] at l;cases l;exact⟨U,O,x,vs',ty,setRow_heap w _ vs vs' ty (0,0) V,C⟩
  .simp only[dK he] at l;obtain⟨B,u,J,q,r,K,M⟩:=h.box Q i l;refine⟨B,u,J,q,r,?_,M⟩;rw[setRow_other]
   .exact K
   .refine f _ ?_;rw[u];simp[he]
 .intro k m X b c sz Y;obtain⟨B,u,J,N,⟨q,r,K,M⟩,Z⟩:=h.tok k m X b c sz Y;refine⟨B,u,J,N,⟨q,r,?_,M⟩,Z⟩;rw[setRow_other]
  .exact K
  .refine f _ ?_;rw[u];simp
 .intro b t;rw[size_setRow] at t;exact h.lZ b t
def WR.Iw(h:WR T n B0 ρ F R fr H a w){o:Nat}{cs t:List AV}{w':World}{u:Obj}(L:H[o]?=some cs)(x:cs≠[])(y:w'.heap.size=w.heap.size)(D:w'.heap[ρ.G o]?=some u)
  (d:∀b,b≠ρ.G o->w'.heap[b]?=w.heap[b]?) (N:lV F ρ.G ρ.n t u):WR T n B0 ρ F R fr (H.set o t) a w':=by
 have f:=(ru.1 L).1;have O:=h.oM o f
 have P:∀b,R b≠ .ma->b≠ρ.G o:=by
  rintro b l rfl;exact l O
 have C:(H.set o t).length=H.length:=abm
 refine⟨⟨?_,?_,?_,?_,?_,?_,?_⟩,h.size,h.defers,h.env,by rw[C];exact h.hn,h.lg,h.ag,?_,?_,h.qV,?_,?_,by rw[y];exact h.q8⟩
 .intro b o' v A
  have l:b≠ρ.G o:=by
   rintro rfl;rw[h.g.gF o o' f (by rw[L];exactλe=>x (hU e))] at A;cases A
  have e:w'.cell? ⟨b,o',none⟩=w.cell? ⟨b,o',none⟩:=by simp[World.cell?,d b l]
  rw[e];exact h.g.GL b o' v A
 .intro o' i I;rw[C]
  by_cases he:o=o'
  .subst he;simp only[List.getElem?_set_self f] at I;cases I;refine⟨u,D,?_⟩;rw[<-h.hn];exact N
  .rw[Tv he] at I;obtain⟨J,M,K⟩:=h.g.ma o' i I;refine⟨J,?_,K⟩;rw[d]
   .exact M
   .exactλe=>he (h.g.inj o' o (ru.1 I).1 f e).symm
 .rw[C];exact h.g.inj
 .intro o' j B q;rw[C] at B
  by_cases he:o=o'
  .subst he;exact h.g.gF o j B (by rw[L];exactλe=>x (hU e))
  .rw[Tv he] at q;exact h.g.gF o' j B q
 .intro b j l;rw[y] at l;exact h.g.fresh b j l
 .rw[C];exact h.g.CO
 .intro Z b j v A;obtain⟨Q,S,U,g1,g2⟩:=h.g.row Z b j v A;refine⟨Q,S,U,?_,g2⟩;rw[d]
  .exact g1
  .rintro rfl;rw[h.g.gF o j f (by rw[L];exactλe=>x (hU e))] at A;cases A
 .intro d' i V;obtain⟨M,K,W,r,s,X,Y⟩:=h.box d' i V;refine⟨M,K,W,r,s,?_,Y⟩;rw[d]
  .exact X
  .refine P _ ?_;rw[K];simp
 .intro k m hk b c sz hA;obtain⟨M,K,W,ad,⟨r,s,X,Y⟩,e6⟩:=h.tok k m hk b c sz hA
  grind
 .rw[C];exact h.oM
 .intro b l;rw[y] at l;exact h.lZ b l
def WR.UN(h:WR T n B0 ρ F R fr H a w){o:Nat}{cs d:List AV}{vs':Array Value}(r:H[o]?=some cs)(f:uZ cs=true)(i:hS (gT F ρ.G ρ.n) d vs'.toList)(hlen:d.length=cs.length)(j:∀c∈d,c.gO=true):WR T n B0 ρ F R fr (H.set o d) a (w.setRow (ρ.G o) vs'):=by
 obtain⟨x,s,t⟩:=h.g.ma o cs r;obtain⟨vs,ty,u,rfl,k,l,_⟩:=t.HR f
 have q:vs'.size=vs.size:=by
  have y:=i.length;have A:=l.length
  grind
 exact h.Iw r (by rintro rfl;simp[uZ] at f) (size_setRow w _ _) (setRow_heap w _ vs vs' ty u s) (λb v=>setRow_other w _ b _ v) (.cells (by rw[q];exact k) i j)
end
end Go.lD
