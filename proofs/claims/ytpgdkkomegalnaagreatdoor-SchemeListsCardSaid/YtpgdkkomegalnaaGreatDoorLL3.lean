/- Part of the proof of SchemeLists: layer. -/
import Derived.Laws.Build
import Derived.Laws.StructEq
import Derived.Laws.BytesArg
import Derived.Test.YtpgdkkomegalnaaGreatDoorLL2
set_option linter.all false
namespace Go.kY
open Go
def la(sz:Nat)(l:List AV):Bool:=
 match l with
 |[]=>true|x::_=>x.cells.length==sz
def re{sz a:Nat}{l:List AV}(h:la sz l=true)(hs:∀x∈l,x.cells.length=a):∀x∈l,x.cells.length=sz:=by
 cases l with
 |nil=>simp|cons x l=>grind[la]
def M0:Option AV->Option (Option Nat)
 |none=>some none|some (.sc (.int _ n))=>if 0<=n then some (some n.toNat)else none|_=>none
def oS(P:Program)(t:TypeId)(x:AV)(lo hi a:Option AV):Option AV:=
 match M0 lo,M0 hi,M0 a with
 |some lo,some hi,some a=>
  match P.underlying t,x with
  |some (.slice e),.slice _ l=>
   match fY P e with
   |none=>none|some (_,sz)=>
    if hi.getD l.length<=l.length/\lo.getD 0<=hi.getD l.length/\la sz l then
     match a with
     |none=>some (.slice .gI ((l.take (hi.getD l.length)).drop (lo.getD 0)))|some m=>if hi.isSome/\hi.getD l.length<=m/\m<=l.length then some (.slice (if m=hi.getD l.length then .full else .gI) ((l.take (hi.getD l.length)).drop (lo.getD 0)))else none
    else none
  |some .string,.sc (.string s)=>
   if a.isNone/\hi.getD s.size<=s.size/\lo.getD 0<=hi.getD s.size then some (.sc (.string (s.extract (lo.getD 0) (hi.getD s.size))))else none
  |_,_=>none
 |_,_,_=>none
def AH(F:kM)(ρ:Maps):Option AV->Option Value->Prop
 |none,none=>True|some x,some v=>gG F ρ x v|_,_=>False
section
variable{P:Program} {F:kM} {ρ:Maps}
def HT{x:Option AV}{v:Option Value}{r:Option Nat}(h:M0 x=some r)(a:AH F ρ x v):(r=none/\v=none)\/∃k n,v=some (.int k n)/\0<=n/\r=some n.toNat:=by
 unfold M0 at h
 split at h
 ·cases v with
  |none=>injection h with h;exact .inl ⟨h.symm,rfl⟩|some v=>exact a.elim
 ·rename_i k n
  split at h
  ·injection h with h;cases v with
   |none=>exact a.elim|some v=>
    cases gi a
    grind
  ·cases h
 ·cases h
def yu(w:World)(k:IntKind)(n:Int)(y:Nat)(c:BoundsCode)(a:0<=n)(b:n.toNat<=y):(Instr.sliceBound (.int k n) y c).run P w=.ok n.toNat w:=by
 unfold Instr.sliceBound;simp only[asIntOf,h7,pP,j8];rw[dR ⟨a,VW⟩];rfl
def Iz(w:World)(d:Bool){lo hi l:Option AV}{o q r:Option Value}{a h m:Option Nat}{len cap:Nat}
  (t:M0 lo=some a) (u:M0 hi=some h) (v:M0 l=some m) (x:AH F ρ lo o) (y:AH F ρ hi q) (A:AH F ρ l r)
  (hm:m.getD cap<=cap) (f:h.getD len<=m.getD cap) (i:a.getD 0<=h.getD len) (j:m.isSome=true->h.isSome=true):(Instr.sliceBounds d len cap o q r).run P w=.ok (a.getD 0,h.getD len,m.getD cap) w:=by
 rcases HT v A with⟨rfl,rfl⟩|⟨k,n,rfl,hn,rfl⟩<;>rcases HT u y with⟨rfl,rfl⟩|⟨k2,n2,rfl,b,rfl⟩<;>
  rcases HT t x with⟨rfl,rfl⟩|⟨s,n1,rfl,c,rfl⟩<;>simp only[Option.getD_none,ad3] at hm f i|-<;>
  (first
   |(simp at j;done)
   |(simp only[Instr.sliceBounds,h7,pP,j8];done)
   |(simp only[Instr.sliceBounds,h7,pP,j8,yu (P:=P) w s n1 _ _ c i];done)
   |(simp only[Instr.sliceBounds,h7,pP,j8,yu (P:=P) w k2 n2 _ _ b f];done)
   |(simp only[Instr.sliceBounds,h7,pP,j8,yu (P:=P) w k n _ _ hn hm,yu (P:=P) w k2 n2 _ _ b f,yu (P:=P) w s n1 _ _ c i];done))
def SN(w:World){t:TypeId}{x r:AV}{u:Value}{lo hi U:Option AV}{G H C:Option Value}(h:oS P t x lo hi U=some r)(q:gG F ρ x u)
  (V:AH F ρ lo G) (W:AH F ρ hi H) (I:AH F ρ U C):∃v,(Instr.sliceAt t u G H C).run P w=.ok v w/\gG F ρ r v:=by
 unfold oS at h
 split at h
 ·rename_i a f m X Y J
  split at h
  ·rename_i e tag l hu
   split at h
   ·cases h
   ·rename_i ag sz hl
    split at h
    ·rename_i K;obtain⟨L,j,k⟩:=K;obtain⟨base,cap,b,o,ad,vs,rfl,hs,_,_⟩:=nk q;have n:=re k hs.sz
     have step:∀(i:Nat),i=m.getD cap->i<=cap->f.getD l.length<=i->(m.isSome=true->f.isSome=true)->∀D,(D=Tag.gI\/D=Tag.full/\i=f.getD l.length)->∃v,(Instr.sliceAt t (.slice base l.length cap) G H C).run P w=.ok v w/\gG F ρ (.slice D ((l.take (f.getD l.length)).drop (a.getD 0))) v:=by
      intro i M ae af N D O;have Q:=Iz (P:=P) (F:=F) (ρ:=ρ) w true (len:=l.length) (cap:=cap) X Y J V W I VW VW j N
      refine⟨.slice (if i=a.getD 0 then base else base.map (·.add (a.getD 0*sz))) (f.getD l.length-a.getD 0) (i-a.getD 0),?_,?_⟩
      ·unfold Instr.sliceAt;rw[h7,run_underlying hu];simp only[j8];unfold Instr.slice;rw[h7,run_underlying hu];simp only[j8,h7,Q,kI hl,pP,<-M]
      ·have hlen:((l.take (f.getD l.length)).drop (a.getD 0)).length=f.getD l.length-a.getD 0:=by
        rw[ON,Dj];omega
       rw[<-hlen]
       have d:((l.take (f.getD l.length)).drop (a.getD 0)).flatMap AV.cells=((l.flatMap AV.cells).take (f.getD l.length*sz)).drop (a.getD 0*sz):=by
        rw[zd (sz:=sz) (λx q=>n x (Db q)),Ec n]
       refine .p (.slice (b:=b) (o:=o+a.getD 0*sz) (sz:=sz) (vs:=(vs.take (f.getD l.length*sz)).drop (a.getD 0*sz)) ?_ ?_ ?_ ?_ ?_ ?_ ?_ ?_)
       ·rw[d];exact(hs.cells.take _).drop _
       ·exact(hs.has.take _).drop _
       ·intro y;have Z:0<((l.take (f.getD l.length)).drop (a.getD 0)).length:=S6.2 y
        have R:l≠[]:=by rintro rfl;simp at y
        rw[dK VW,hs.base R];simp[Addr.add_lit]
       ·exactλx q=>n x (Db (Fj q))
       ·intro c A;rw[d] at A;exact hs.sy c (Db (Fj A))
       ·omega
       ·have:=hs.DW;omega
       ·rcases O with h|⟨h,h'⟩
        ·exact .inl h
        ·exact .inr ⟨h,VW⟩
     split at h
     ·cases h;exact step cap rfl (gY _) (by have:=hs.Ca;omega) aa2 .gI (.inl rfl)
     ·rename_i i
      split at h
      ·rename_i B;cases h;have ah:=hs.Ca;refine step i rfl VW B.2.1 (λ_=>B.1) _ ?_
       by_cases he:i=f.getD l.length
       ·rw[dR he];exact .inr ⟨rfl,he⟩
       ·rw[dK he];exact .inl rfl
      ·cases h
    ·cases h
  ·rename_i s hu
   split at h
   ·rename_i K;obtain⟨L,j,k⟩:=K;cases h;cases gi q
    have S:m=none:=by cases m<;>simp_all
    subst S
    have T:C=none:=by
     rcases HT J I with⟨_,h⟩|⟨_,_,_,_,h⟩
     ·exact h
     ·cases h
    subst T;have Q:=Iz (P:=P) (F:=F) (ρ:=ρ) w false (len:=s.size) (cap:=s.size) X Y J V W I aa2 (by simpa using j) k aa2;refine⟨_,?_,.p (.sc rfl)⟩;unfold Instr.sliceAt;rw[h7,run_underlying hu];simp only[j8];unfold Instr.slice;rw[h7,run_underlying hu];simp only[j8,Option.isSome_none,oz,iU,h7,pP,Q]
   ·cases h
  ·cases h
 ·cases h
end
def placesOf(P:Program)(t:TypeId):Option (List (Nat×Nat)):=
 match P.underlying t with
 |some (.struct fs)=>fs.toList.mapM λf=>(P.info? f.type).map λi=>(f.offset,i.size)|_=>none
def gr(P:Program)(t i:Nat):Option (Nat×Nat):=
 match placesOf P t with
 |some a=>a[i]?|none=>match N7 P t with
  |some (_,e)=>(P.info? e).map λf=>(i*f.size,f.size)|none=>none
def fw:AV->Bool
 |.tuple _=>false|_=>true
def Gt(P:Program)(t:TypeId):List AV->List (Nat×AV)->Option (List AV)
 |cs,[]=>some cs|cs,(i,x)::rest=>
  match gr P t i with
  |some (off,size)=>if x.cells.length=size/\off+size<=cs.length/\fw x then Gt P t (setCells cs off x.cells) rest else none|none=>none
def ph(P:Program)(t:TypeId):Option (List AV):=
 match zeroOf P t with
 |some (.agg z)=>if z.all (·.oneCell')=true/\((placesOf P t).isSome\/((N7 P t).bind λp=>P.info? p.2).isSome)then some (z.toList.map qs)else none|_=>none
def Fg(P:Program)(t:TypeId)(parts:List (Nat×AV)):Option AV:=
 match ph P t with
 |some z=>(Gt P t z parts).map .agg|none=>none
def foldl_set(new:List Value):∀(k off:Nat) (vs:Array Value),off+k+new.length<=vs.size->((new.zipIdx k).foldl (λcs (x:Value×Nat)=>cs.setIfInBounds (off+x.2) x.1) vs).toList=vs.toList.take (off+k)++new++vs.toList.drop (off+k+new.length):=by
 induction new with
 |nil=>intro k off vs h;simp|cons v new ih=>
  intro k off vs h;simp only[List.zipIdx_cons,List.foldl_cons,mz] at h|-;rw[ih (k+1) off _ acx]
  have a:off+k<vs.toList.length:=acx
  simp only[ahM]
  have b:(vs.toList.set (off+k) v).take (off+(k+1))=vs.toList.take (off+k)++[v]:=by
    rw[<-ad8,List.take_succ_eq_append_getElem (by simpa using a),List.take_set]
    congr 1
    ·apply List.set_eq_of_length_le;simp[Dj];omega
    ·simp
  have c:(vs.toList.set (off+k) v).drop (off+(k+1)+new.length)=vs.toList.drop (off+k+(new.length+1)):=by
    rw[List.drop_set_of_lt VW]
    congr 1
    omega
  rw[b,c];simp
section
variable{P:Program} {F:kM} {ρ:Maps}
def hQ.setCells{R:AV->Value->Prop}{cs new:List AV}{vs nv:List Value}(h:hQ R cs vs)(a:hQ R new nv)(off:Nat):hQ R (setCells cs off new) (vs.take off++nv++vs.drop (off+new.length)):=by
 exact((h.take off).append a).append (h.drop _)
def iI{x:AV}(h:fw x=true):∀vs,x≠ .tuple vs:=by grind[fw]
def N6{t:TypeId}(place:Nat->Option (Nat×Nat))(G:∀i y,gr P t i=some y->place i=some y):∀(parts:List (Nat×AV)) (pv:List (Nat×Value)) (cs r:List AV) (vs:Array Value),Gt P t cs parts=some r->hQ (jN F ρ) cs vs.toList->(∀c∈cs,c.gL=true)->hQ (λ(x:Nat×AV) (y:Nat×Value)=>x.1=y.1/\gG F ρ x.2 y.2) parts pv->∃ws:Array Value,Instr.fill place vs pv=some ws/\hQ (jN F ρ) r ws.toList/\∀c∈r,c.gL=true:=by
 intro parts
 induction parts with
 |nil=>
  intro pv cs r vs h k a d;cases d;simp[Gt] at h;subst h;exact⟨vs,rfl,k,a⟩
 |cons p parts ih=>
  intro pv cs r vs h k a d;obtain⟨i,x⟩:=p;cases d with
  |cons H l=>
   rename_i q pv;obtain⟨j,v⟩:=q;obtain⟨o,w⟩:=H;simp only at o w;subst o;simp only[Gt] at h
   split at h
   ·rename_i off size A
    split at h
    ·rename_i I;obtain⟨J,K,s⟩:=I;have b:=w.cells (iI s);have hlen:=b.length
     have L:vs.size=cs.length:=by simpa using k.length.symm
     have M:v.cells.toList.length=v.cells.size:=aa2
     have f:=foldl_set v.cells.toList 0 off vs (by simp only[F2];omega);have gk:=k.setCells b off;rw[hlen] at gk;simp only[F2] at f;rw[<-f] at gk
     obtain⟨ws,B,C,D⟩:=ih pv _ _ _ h gk (by
      intro c u;simp only[kY.setCells,sU] at u;rcases u with(hm|hm)|hm
      ·exact a c (Db hm)
      ·exact w.sy (iI s) c hm
      ·exact a c (Fj hm)) l
     refine⟨ws,?_,C,D⟩;unfold Instr.fill;rw[G _ _ A]
     have n:(v.cells.size≠size||decide (off+v.cells.size>vs.size))=false:=by
      simp only[Bool.or_eq_false_iff,agL,ne_eq,Decidable.not_not];constructor<;>omega
     show(if(decide (v.cells.size≠size)||decide (off+v.cells.size>vs.size)) then none else Instr.fill place (v.cells.zipIdx.foldl (λcs (x:Value×Nat)=>cs.setIfInBounds (off+x.2) x.1) vs) pv)=some ws;rw[dK (by rw[n];simp),<-ag8,ahF];exact B
    ·cases h
   ·cases h
def Hx(w:World):∀(fs:List Field) (b:List (Nat×Nat)),(fs.mapM λf=>(P.info? f.type).map λi=>(f.offset,i.size))=some b->(fs.mapM λf=>(do pure (f.offset,<-sizeOf f.type):Sem (Nat×Nat))).run P w=.ok b w:=by
 intro fs
 induction fs with
 |nil=>intro b h;simp at h;subst h;rfl
 |cons f fs ih=>
  intro b h;simp only[aaQ,Option.bind_eq_bind,acM] at h;obtain⟨p,a,c,d,h⟩:=h;cases hi:P.info? f.type with
  |none=>rw[hi] at a;cases a
  |some i=>
   rw[hi] at a;simp at a h;subst a;subst h;simp only[aaQ,h7,sizeOf,typeInfo,program,Sem.run,hi,j8,pP];have:=ih c d;simp only[h7,sizeOf,typeInfo,program] at this;rw[this];rfl
def run_map{α β:Type}(w:World)(f:α->β)(x:Sem α):(Functor.map f x).run P w=(x.run P w).andThen λa w'=>.ok (f a) w':=by
 show(x>>=λa=>pure (f a)).run P w=_;rw[h7];rfl
def run_build(w:World){t:TypeId}{parts:List (Nat×AV)}{r:AV}{pv:List (Nat×Value)}(h:Fg P t parts=some r)
  (l:hQ (λ(x:Nat×AV) (y:Nat×Value)=>x.1=y.1/\gG F ρ x.2 y.2) parts pv):∃v,(Instr.build t pv.toArray).run P w=.ok v w/\gG F ρ r v:=by
 have h:∃z:Array Value,zeroOf P t=some (.agg z)/\(z.all (·.oneCell')=true/\((placesOf P t).isSome\/((N7 P t).bind λp=>P.info? p.2).isSome))/\(Gt P t (z.toList.map qs) parts).map .agg=some r:=by
  unfold Fg ph at h
  split at h
  ·rename_i z0 d
   split at d
   ·rename_i z o
    split at d
    ·rename_i C;injection d with d;subst d;exact⟨z,o,C,h⟩
    ·cases d
   ·cases d
  ·cases h
 obtain⟨z,o,C,h⟩:=h
 ·--Q literal
  ·obtain⟨D,k⟩:=C;cases K:Gt P t (z.toList.map qs) parts with
   |none=>rw[K] at h;cases h
   |some cs=>
    rw[K] at h;cases h
    have H:(zeroValue t).run P w=.ok (.agg z) w:=by
     unfold zeroOf at o;cases hi:P.info? t with
     |none=>rw[hi] at o;cases o
     |some i=>
      rw[hi] at o;simp at o;simp[zeroValue,typeInfo,hi,o]
    have s:∀v∈z.toList,v.oneCell'=true:=λv R=>KE.1 D v (ye.1 R);have I:hQ (jN F ρ) (z.toList.map qs) z.toList:=(qK F ρ.G ρ.n _ s).qw.mono λ_ _ _ h=>.p h
    have J:∀c∈z.toList.map qs,c.gL=true:=by
     intro c C;obtain⟨a,_,rfl⟩:=qp.1 C;exact yY a
    cases b:placesOf P t with
    |some L=>
     have M:∃fs,P.underlying t=some (.struct fs)/\(fs.toList.mapM λf=>(P.info? f.type).map λi=>(f.offset,i.size))=some L:=by
      unfold placesOf at b
      split at b
      ·exact⟨_,by assumption,b⟩
      ·cases b
     obtain⟨fs,hu,hm⟩:=M
     obtain⟨ws,u,A,B⟩:=N6 (P:=P) (F:=F) (ρ:=ρ) (t:=t) (L.toArray[·]?) (by
      intro i y q;unfold gr at q;rw[b] at q
      simpa using q) parts pv _ _ z K I J l
     refine⟨.agg ws,?_,by simpa using gG.agg (vs:=ws.toList) A B⟩;unfold Instr.build;simp only[h7,H,j8,run_underlying hu];have N:=Hx (P:=P) w fs.toList L hm;rw[<-Ua (xs:=fs),ahG,run_map,N];simp only[pP,j8,Value.cells,u]
    |none=>
     cases j:N7 P t with
     |none=>simp[b,j] at k
     |some ne=>
      obtain⟨n,e⟩:=ne
      have hu:P.underlying t=some (.array n e):=by
       unfold N7 at j
       split at j
       ·rename_i hu;cases j;exact hu
       ·cases j
      cases hi:P.info? e with
      |none=>simp[b,j,hi] at k
      |some O=>
       obtain⟨ws,u,A,B⟩:=N6 (P:=P) (F:=F) (ρ:=ρ) (t:=t) (λi=>some (i*O.size,O.size)) (by
        intro i y q;unfold gr at q;rw[b] at q;simp[j,hi] at q
        simp[q]) parts pv _ _ z K I J l
       refine⟨.agg ws,?_,by simpa using gG.agg (vs:=ws.toList) A B⟩;unfold Instr.build;simp only[h7,H,j8,run_underlying hu,sizeOf,typeInfo,program,Sem.run,hi,pP,Value.cells,u]
end
end Go.kY
namespace Go.kY
open Go
def xS(P:Program):List Field->List AV->List AV->Option Bool
 |[],_,_=>some true|f::fs,xs,ys=>
  if f.name= "_" then xS P fs xs ys else
  match P.underlying f.type,mq P f.type xs f.offset,mq P f.type ys f.offset with
  |some (.int _),some (.sc (.int k a)),some (.sc (.int k' b))=>if k=k' then(xS P fs xs ys).map λr=>(a==b)&&r else none|some .string,some (.sc (.string a)),some (.sc (.string b))=>(xS P fs xs ys).map λr=>(a.toList==b.toList)&&r|some .bool,some (.sc (.bool a)),some (.sc (.bool b))=>(xS P fs xs ys).map λr=>(a==b)&&r|_,_,_=>none
def agn(P:Program)(t:TypeId):Bool:=!P.eqGuardType P.depth t&&!P.stoodInHeld t
def KV(P:Program)(t:TypeId)(xs a:List AV):Option Bool:=
 match P.underlying t with
 |some (.struct fs)=>if agn P t then xS P fs.toList xs a else none|_=>none
def qn(P:Program)(op:BinOp)(t:TypeId)(x y:AV):Option AV:=
 match op,x,y with
 |.eql,.agg xs,.agg a=>(KV P t xs a).map λb=>.sc (.bool b)|.neq,.agg xs,.agg a=>(KV P t xs a).map λb=>.sc (.bool (!b))|op,x,y=>uB P op t x y
def Rq(P:Program)(op:BinOp)(t:TypeId):Operand->AV->AV->Option AV
 |.const .nilIface,.sc .nilIface,_=>match op,P.underlying t with
  |.eql,some (.interface _)=>some (.sc (.bool true))|.neq,some (.interface _)=>some (.sc (.bool false))|_,_=>none
 |_,u,v=>qn P op t u v
def I2:List AV->Option (List Int)
 |[]=>some []|.sc (.int .u8 n)::l=>(I2 l).map (n:: ·)|_::_=>none
def abY(P:Program)(s d:TypeId)(l:List AV):Option AV:=
 match P.underlying s,P.underlying d with
 |some (.slice e),some .string=>match P.underlying e,I2 l with
  |some (.int .u8),some a=>some (.sc (.string (strOfNums a)))|_,_=>none
 |_,_=>none
def Xw(P:Program)(s d:TypeId)(x:AV):Option AV:=
 match P.underlying s,P.underlying d,x with
 |some _,some (.int k),.sc (.int _ n)=>some (.sc (.int k (k.wrap n)))|some _,some .string,.sc (.string b)=>some (.sc (.string b))|_,_,_=>none
def U8(P:Program)(s d:TypeId)(x:AV):Option AV:=
 match x with
 |.slice _ l=>abY P s d l|x=>Xw P s d x
def Hu(P:Program)(t:TypeId)(x:AV):Option AV:=
 match P.underlying t,x with
 |some (.slice _),.slice _ l=>some (.sc (.int .i64 l.length))|some (.slice _),.xO _ _ len _=>some (.sc (.int .i64 len))|some (.slice _),.M9=>some (.sc (.int .i64 0))|some (.slice _),.zF _ _ len _=>some (.sc (.int .i64 len))|some .string,.sc (.string s)=>some (.sc (.int .i64 s.size))|some (.array n _),_=>some (.sc (.int .i64 n))|_,_=>none
def Sy:AV->AV->Option AV
 |.sc (.int k a),.sc (.int _ b)=>some (.sc (.int k (if b>a then b else a)))|_,_=>none
def W9:AV->AV->Option AV
 |.sc (.int k a),.sc (.int _ b)=>some (.sc (.int k (if b<a then b else a)))|_,_=>none
def LM(f:AV->AV->Option AV):AV->List AV->Option AV
 |x,[]=>some x|x,y::l=>(f x y).bind λz=>LM f z l
def ym(P:Program)(T:eN)(fr:Fr)(c:Call):Option AV:=
 match c.callee with
 |.builtin .len=>match c.argTypes[0]?,c.args[0]?with
  |some t,some x=>Hu P t (ev T fr x)|_,_=>none
 |.builtin .max=>match c.args.toList with
  |x::l=>LM Sy (ev T fr x) (l.map (ev T fr))|[]=>none
 |.builtin .min=>match c.args.toList with
  |x::l=>LM W9 (ev T fr x) (l.map (ev T fr))|[]=>none
 |_=>none
def L8(P:Program)(t:TypeId)(x:AV):Option AV:=
 match x with
 |.iface a v=>match P.underlying t with
  |some (.interface _)=>none|some _=>if a=t then some (.tuple [v,.sc (.bool true)])else match zeroOf P t with
   |some z=>if zh z then some (.tuple [ofValue z,.sc (.bool false)])else none|none=>none
  |none=>none
 |_=>none
def Ab(P:Program)(T:eN)(fr:Fr)(o:Oper):Option AV:=
 match o.op with
 |.typeAssert x _ t true=>L8 P t (ev T fr x)|.move x=>some (ev T fr x)|.assign x=>some (ev T fr x)|.pick c a b=>match ev T fr c with
  |.sc (.bool t)=>some (if t then ev T fr a else ev T fr b)|_=>none
 |.build t h=>Fg P t (h.toList.map λp=>(p.1,ev T fr p.2))|.binOp op t x y _=>Rq P op t y (ev T fr x) (ev T fr y)|.unOp op _ x=>unA op (ev T fr x)|.convert s d x=>U8 P s d (ev T fr x)|.makeFunc fn f c=>some (.func fn (f.toList.map λx=>(ev T fr x).norm) (c.toList.map λx=>(ev T fr x).norm))|.fieldAddr t x i=>tK P t (ev T fr x) i|.field t x i=>Di P t (ev T fr x) i|.indexAddr t x i=>gH P t (ev T fr x) (ev T fr i)|.index t x i=>PY P t (ev T fr x) (ev T fr i)|.slice t x lo hi j=>oS P t (ev T fr x) (lo.map (ev T fr)) (hi.map (ev T fr)) (j.map (ev T fr))|.extract x i=>match ev T fr x with
  |.tuple vs=>vs[i]?|_=>none
 |.nilCheck x=>match ev T fr x with
  |.func (.func f) a b=>some (.func (.func f) a b)|x=>if DY x then some x else none
 |.makeInterface t x=>if P.concrete t then some (.iface t (ev T fr x).norm)else none|.call c=>ym P T fr c|_=>none
section
variable{P:Program} {T:eN} {F:kM} {ρ:Maps} {fr:Fr} {a:Act}
def Nu(w:World){t k:TypeId}{x r:AV}{u:Value}(h:L8 P t x=some r)(o:gG F ρ x u):∃v,(Instr.typeAssert u k t true).run P w=.ok v w/\gG F ρ r v:=by
 unfold L8 at h
 split at h
 ·rename_i c v
  obtain⟨b,rfl,q⟩:∃b,u=.iface c b/\gQ F ρ.G ρ.n v b:=by
   cases o with
   |cell h=>cases h with
    |p h=>cases h with|iface h=>exact⟨_,rfl,h⟩
  split at h
  ·cases h
  ·rename_i ty d hu
   have l:(Instr.typeAssert (.iface c b) k t true).run P w=(if c=t then(pure (.tuple #[b,.bool true]):Sem Value)else do pure (.tuple #[<-zeroValue t,.bool false])).run P w:=by
    unfold Instr.typeAssert;simp only[h7,run_underlying hu,j8]
    cases ty<;>first|rfl|exact absurd rfl (d _)
   split at h
   ·rename_i e;subst e;cases h;refine⟨_,by rw[l,dR rfl];rfl,.p ?_⟩;exact .tuple (vs:=[b,.bool true]) (.cons q (.cons (.sc rfl) .nil))
   ·rename_i f
    split at h
    ·rename_i z a
     split at h
     ·rename_i s;cases h;refine⟨.tuple #[z,.bool false],?_,.p ?_⟩
      ·rw[l,dK f]
       have j:(zeroValue t).run P w=.ok z w:=by
        unfold zeroOf at a;cases hi:P.info? t with
        |none=>rw[hi] at a;cases a
        |some i=>
         rw[hi] at a;have a:i.zero=some z:=a;simp[zeroValue,typeInfo,hi,a]
       simp only[h7,j,j8];rfl
      ·exact .tuple (vs:=[z,.bool false]) (.cons (zx _ _ _ z s) (.cons (.sc rfl) .nil))
     ·cases h
    ·cases h
  ·cases h
 ·cases h
def HZ(he:ti F ρ fr a)(b:yC T F ρ):∀(xs:List Operand),(∀x∈xs,jg x=true)->hQ (gG F ρ) (xs.map (ev T fr)) (xs.map a.eval)
 |[],_=>.nil|x::xs,h=>.cons (gD he b x (h x aa2)) (HZ he b xs λy c=>h y (by simp[c]))
def Ix(he:ti F ρ fr a)(b:yC T F ρ)(xs:List Operand)(h:∀x∈xs,jg x=true):hO F ρ.G ρ.n (xs.map λx=>(ev T fr x).norm) (xs.map a.eval):=by
 have:=(HZ he b xs h).wM AV.norm λ_ _ _ h=>gG.norm h;rw[Bp] at this;exact .oU this
def JN(he:ti F ρ fr a)(c:yC T F ρ):∀(b:List (Nat×Operand)),(∀p∈b,jg p.2=true)->hQ (λ(x:Nat×AV) (y:Nat×Value)=>x.1=y.1/\gG F ρ x.2 y.2) (b.map λp=>(p.1,ev T fr p.2)) (b.map λp=>(p.1,a.eval p.2))
 |[],_=>.nil|p::b,h=>.cons ⟨rfl,gD he c p.2 (h p aa2)⟩ (JN he c b λq d=>h q (by simp[d]))
def P3(he:ti F ρ fr a)(b:yC T F ρ)(x:Option Operand)(h:∀y,x=some y->jg y=true):AH F ρ (x.map (ev T fr)) (x.map a.eval):=by
 cases x with
 |none=>trivial|some y=>exact gD he b y (h y rfl)
def Ng{v:Value}(h:gG F ρ .M9 v):∃base,v=.slice base 0 0:=by
 cases h with
 |cell h=>cases h with
  |p h=>cases h with|M9=>exact⟨_,rfl⟩
def Ve(w:World){t ty:TypeId}{x r:AV}{u:Value}(h:Hu P t x=some r)(a:gG F ρ x u){ts:Array TypeId}{us:Array Value}(c:ts[0]?=some t)(d:us[0]?=some u):∃v,(Builtin.len_ ts ty us).run P w=.ok v w/\gG F ρ r v:=by
 unfold Hu at h;unfold Builtin.len_;simp only[c,d]
 split at h
 ·rename_i e tag l hu;cases h;obtain⟨base,cap,b,o,sz,vs,rfl,hs,_,_⟩:=nk a;exact⟨_,by simp only[h7,run_underlying hu,j8];rfl,.p (.sc rfl)⟩
 ·rename_i e b g len cap hu;cases h;obtain⟨rfl,_,_,_⟩:=AM a;exact⟨_,by simp only[h7,run_underlying hu,j8];rfl,.p (.sc rfl)⟩
 ·rename_i e hu;cases h;obtain⟨base,rfl⟩:=Ng a;exact⟨_,by simp only[h7,run_underlying hu,j8];rfl,.p (.sc rfl)⟩
 ·rename_i e b len cap hu;cases h;obtain⟨rfl,_,_,_⟩:=JL a;exact⟨_,by simp only[h7,run_underlying hu,j8];rfl,.p (.sc rfl)⟩
 ·rename_i s hu;cases h;cases gi a;exact⟨_,by simp only[h7,run_underlying hu,j8];rfl,.p (.sc rfl)⟩
 ·rename_i n e hu;cases h;exact⟨_,by simp only[h7,run_underlying hu,j8];rfl,.p (.sc rfl)⟩
 ·cases h
def LH(w:World){f:AV->AV->Option AV}{g:Value->Value->Sem Value}(d:∀x y r u v,f x y=some r->gG F ρ x u->gG F ρ y v->∃z,(g u v).run P w=.ok z w/\gG F ρ r z):∀(l:List AV) (x r:AV) (u:Value) (us:List Value),LM f x l=some r->gG F ρ x u->hQ (gG F ρ) l us->∃z,(us.foldlM g u).run P w=.ok z w/\gG F ρ r z:=by
 intro l
 induction l with
 |nil=>
  intro x r u us h a b;cases b;cases h;exact⟨u,rfl,a⟩
 |cons y l ih=>
  intro x r u us h a b;cases b with
  |cons i j=>
   simp only[LM,acM] at h;obtain⟨z,k,h⟩:=h;obtain⟨s,n,c⟩:=d _ _ _ _ _ k a i;obtain⟨t,o,q⟩:=ih _ _ _ _ h c j
   simp_all
def W5(w:World)(x y r:AV)(u v:Value)(h:Sy x y=some r)(a:gG F ρ x u)(b:gG F ρ y v):∃z,(Builtin.max2 u v).run P w=.ok z w/\gG F ρ r z:=by
 unfold Sy at h
 split at h
 ·cases gi a;cases gi b;cases h;exact⟨_,rfl,.p (.sc rfl)⟩
 ·cases h
def VZ(w:World)(x y r:AV)(u v:Value)(h:W9 x y=some r)(a:gG F ρ x u)(b:gG F ρ y v):∃z,(Builtin.min2 u v).run P w=.ok z w/\gG F ρ r z:=by
 unfold W9 at h
 split at h
 ·cases gi a;cases gi b;cases h;exact⟨_,rfl,.p (.sc rfl)⟩
 ·cases h
def Q7(w:World){xs j:List AV}{us vs:List Value}(s:hQ (jN F ρ) xs us)(o1:∀c∈xs,c.gL=true)(t:hQ (jN F ρ) j vs)(o2:∀c∈j,c.gL=true):∀(fs:List Field) (b:Bool),xS P fs xs j=some b->(Op.eqFields 9999 us.toArray vs.toArray fs).run P w=.ok b w:=by
 intro fs
 induction fs with
 |nil=>intro b h;simp[xS] at h;subst h;rfl
 |cons f fs ih=>
  intro b h;unfold xS at h;unfold Op.eqFields
  split at h
  ·rename_i hn;rw[dK (by simpa using hn)];exact ih b h
  ·rename_i hn;rw[dR (by simpa using hn)]
   have step:∀{x y:Value} {r:Bool},mq P f.type xs f.offset=some (.sc x)->mq P f.type j f.offset=some (.sc y)->(Op.equalIn 9999 f.type x y).run P w=.ok r w->(xS P fs xs j).map (λq=>r&&q)=some b->(do
      let a<-part f.type us.toArray f.offset
      let b<-part f.type vs.toArray f.offset
      let r<-Op.equalIn 9999 f.type a b
      if(!r) then pure false else Op.eqFields 9999 us.toArray vs.toArray fs:Sem Bool).run P w=.ok b w:=by
    intro x y r d i u n;obtain⟨H,v,A⟩:=DX (P:=P) w s o1 d;obtain⟨I,B,C⟩:=DX (P:=P) w t o2 i;obtain rfl:=gi A;obtain rfl:=gi C;simp only[h7,v,B,u,j8];cases o:xS P fs xs j with
    |none=>rw[o] at n;cases n
    |some q=>
     rw[o] at n;simp only[aaD,B9] at n;cases r
     all_goals simp_all
   split at h
   ·rename_i k D a k2 l hu d i
    split at h
    ·rename_i G;subst G;exact step d i (run_equalIn_int w 9998 f.type D k a l hu) h
    ·cases h
   ·rename_i a l hu d i;exact step d i (run_equalIn_string w 9998 f.type a l hu) h
   ·rename_i a l hu d i;exact step d i (run_equalIn_bool' w 9998 f.type a l hu) h
   ·cases h
def RQ(P:Program)(w:World){t:TypeId}{ms:Array (String×TypeId)}(hu:P.underlying t=some (.interface ms)):(binOp .eql t .nilIface .nilIface).run P w=.ok (.bool true) w/\(binOp .neq t .nilIface .nilIface).run P w=.ok (.bool false) w:=by
 have h:∀d,(Op.equalIn (d+1) t .nilIface .nilIface).run P w=.ok true w:=λd=>by simp[Op.equalIn,run_underlying hu]
 have a:binOp .eql t .nilIface .nilIface=(do pure (.bool (<-Op.equalIn (9999+1) t .nilIface .nilIface))):=rfl;have b:binOp .neq t .nilIface .nilIface=(do pure (.bool (!(<-Op.equalIn (9999+1) t .nilIface .nilIface)))):=rfl;rw[a,b,h7,h7,h 9999];exact⟨rfl,rfl⟩
def Wz(w:World){op:BinOp}{t:TypeId}{x y r:AV}{u v:Value}(h:qn P op t x y=some r)(f:gG F ρ x u)(i:gG F ρ y v):∃z,(binOp op t u v).run P w=.ok z w/\r=.sc z/\y0 z=true/\∀a b,(eqGuard op t a b u v).run P w=.ok () w:=by
 have agg:∀{xs l:List AV} {b:Bool},KV P t xs l=some b->gG F ρ (.agg xs) u->gG F ρ (.agg l) v->∃us vs:List Value,u=.agg us.toArray/\v=.agg vs.toArray/\(Op.equalIn (9999+1) t u v).run P w=.ok b w/\P.eqGuardType P.depth t=false:=by
  intro xs l b c f i;obtain⟨us,rfl,u1,u2⟩:=EN f;obtain⟨vs,rfl,v1,v2⟩:=EN i;unfold KV at c
  split at c
  ·rename_i fs hu
   split at c
   ·rename_i d;simp only[agn,hD,ac2] at d
    have o:P.fieldsOf t=fs:=by simp[Program.fieldsOf,hu]
    refine⟨us,vs,rfl,rfl,?_,d.1⟩;rw[run_equalIn_struct w 9999 t us.toArray vs.toArray (by rw[o];exact hu) d.2,o];exact Q7 w u1 u2 v1 v2 _ _ c
   ·cases c
  ·cases c
 unfold qn at h
 split at h
 ·cases c:KV P t _ _ with
  |none=>rw[c] at h;cases h
  |some b=>
   rw[c] at h;cases h;obtain⟨us,vs,rfl,rfl,j,k⟩:=agg c f i;refine⟨.bool b,?_,rfl,rfl,λa b=>?_⟩
   ·have n:binOp .eql t (.agg us.toArray) (.agg vs.toArray)=(do pure (.bool (<-Op.equalIn (9999+1) t (.agg us.toArray) (.agg vs.toArray)))):=rfl;rw[n,h7,j];rfl
   ·simp[eqGuard,k,Result.andThen]
 ·cases c:KV P t _ _ with
  |none=>rw[c] at h;cases h
  |some b=>
   rw[c] at h;cases h;obtain⟨us,vs,rfl,rfl,j,k⟩:=agg c f i;refine⟨.bool !b,?_,rfl,rfl,λa b=>?_⟩
   ·have n:binOp .neq t (.agg us.toArray) (.agg vs.toArray)=(do pure (.bool (!(<-Op.equalIn (9999+1) t (.agg us.toArray) (.agg vs.toArray))))):=rfl;rw[n,h7,j];rfl
   ·simp[eqGuard,k,Result.andThen]
 ·obtain⟨z,j,k,q,s⟩:=Tz P w h f i;exact⟨z,j,k,q,λa b=>NG P w op t a b s⟩
def G7{G:Nat->Nat}{n:Nat}:∀{a:List Int} {vs:List Value},hO F G n (a.map (λn=>AV.sc (.int .u8 n))) vs->vs=a.map (Value.int .u8)
 |[],_,.nil=>rfl|n::a,_,.cons b c=>by
  cases b;rw[G7 c];rfl
def E1:∀{l:List AV} {a:List Int},I2 l=some a->l.flatMap AV.cells=a.map (λn=>AV.sc (.int .u8 n))/\l.length=a.length
 |[],a,h=>by grind[I2]|x::l,a,h=>by
  unfold I2 at h
  split at h
  ·rename_i e;cases e
  ·simp only[Zn] at h;obtain⟨ms,b,rfl⟩:=h;obtain⟨i1,i2⟩:=E1 b
   grind[AV.cells]
  ·cases h
def Dr(w:World)(L:∀b o v,F b o=some v->w.cell? ⟨b,o,none⟩=some v)(he:ti F ρ fr a)(n:yC T F ρ){o:Oper}{r:AV}(M:o.op.operands.all jg=true)(h:Ab P T fr o=some r):∃v,(execOp a.eval o).run P w=.ok (.value v) w/\gG F ρ r v:=by
 obtain⟨dst,op,type,pos,after,guard⟩:=o;have j:∀x∈op.operands,jg x=true:=λx k=>KE.1 M x k;clear M
 have lift:∀{s:Sem Value},(∃v,s.run P w=.ok v w/\gG F ρ r v)->∃v,((do pure (.value (<-s))):Sem Next).run P w=.ok (.value v) w/\gG F ρ r v:=by
  rintro s ⟨v,D,H⟩;exact⟨v,by rw[h7,D];rfl,H⟩
 cases op<;>simp only[Ab] at h<;>simp only[Op.operands] at j<;>simp only[execOp]
 case move x=>cases h;exact⟨_,rfl,gD he n x (j x aa2)⟩
 case assign x=>cases h;exact⟨_,rfl,gD he n x (j x aa2)⟩
 case pick c x y=>
  split at h
  ·rename_i t A;cases h;have N:=gD he n c (j c aa2);rw[A] at N;have Q:=gi N;refine⟨if t then a.eval x else a.eval y,?_,?_⟩
   ·rw[Q];rfl
   ·cases t
    ·exact gD he n y (j y aa2)
    ·exact gD he n x (j x aa2)
  ·cases h
 case build t R=>
  refine lift ?_;have G:=JN he n R.toList λp G=>j p.2 (by simp;exact⟨p.1,by simpa using G⟩);have:=run_build (P:=P) w h G
  have e:(R.toList.map λp=>(p.1,a.eval p.2)).toArray=R.map λp=>(p.1,a.eval p.2):=by rw[<-Pp,Ua]
  rw[e] at this;exact this
 case binOp op t x y t'=>
  obtain⟨z,B,I,S,U⟩:∃z,(binOp op t (a.eval x) (a.eval y)).run P w=.ok z w/\r=.sc z/\y0 z=true/\(eqGuard op t x y (a.eval x) (a.eval y)).run P w=.ok () w:=by
   have k:=gD he n x (j x aa2);have C:=gD he n y (j y aa2);change Rq P op t y (ev T fr x) (ev T fr y)=some r at h;generalize ev T fr x=u at h k;generalize ev T fr y=v at h C;unfold Rq at h
   split at h
   ·have k:=gi k;rw[k]
    split at h
    ·rename_i hu;cases h;exact⟨.bool true,(RQ P w hu).1,rfl,rfl,by simp[eqGuard,Act.eval]⟩
    ·rename_i hu;cases h;exact⟨.bool false,(RQ P w hu).2,rfl,rfl,by simp[eqGuard,Act.eval]⟩
    ·cases h
   ·obtain⟨z,B,I,S,U⟩:=Wz (P:=P) w h k C;exact⟨z,B,I,S,U _ _⟩
  subst I;refine⟨z,?_,.p (.sc S)⟩;simp only[h7,U,j8,B];rfl
 case unOp op t x=>
  refine lift ?_;have k:=gD he n x (j x aa2);generalize a.eval x=u at k|-;unfold unA at h
  split at h
  ·rename_i A;rw[A] at k;cases gi k;cases h;exact⟨_,by simp[Op.unary,Op.intArith],.p (.sc rfl)⟩
  ·rename_i A;rw[A] at k;cases gi k;cases h;exact⟨_,by simp[Op.unary],.p (.sc rfl)⟩
  ·cases h
 case convert s d x=>
  refine lift ?_;have k:=gD he n x (j x aa2);generalize a.eval x=u at k|-;unfold U8 at h
  split at h
  ·rename_i tag l A;unfold abY at h
   split at h
   ·rename_i e hs J
    split at h
    ·rename_i O hu V;cases h;rw[A] at k;obtain⟨Y,hlen⟩:=E1 V;obtain⟨base,cap,b,o,sz,vs,rfl,K,_,_⟩:=nk k;refine⟨.string (strOfNums O),?_,.p (.sc rfl)⟩
     have W:vs=O.map (Value.int .u8):=by
      have G:=K.cells;rw[Y] at G;exact G7 G
     by_cases hn:l=[]
     ·subst hn;have X:O=[]:=B_ (by simpa using hlen.symm);subst X;cases base with
      |none=>exact run_convert_bytes_nil w s e hs hu 0 cap d J|some Z=>
       obtain⟨ab,ao,an⟩:=Z;show(convert s d (.slice (some ⟨ab,ao,an⟩) 0 cap)).run P w=_;rw[run_convert_bytes_string w s d e _ 0 cap hs hu J,run_bytesToString w _ 0 cap [] (by simp[loadCells,loadCellsFrom])];rfl
     ·rw[K.base hn];refine run_convert_bytes_arg w s e hs hu b o l.length cap O hlen.symm (λi hi=>?_) d J;refine L b (o+i) _ (K.has i _ ?_);rw[W,yZ,o9 VW];simp[List.getD,o9 (show i<O.length by omega)]
    ·cases h
   ·cases h
  ·unfold Xw at h
   split at h
   ·rename_i hs J A;rw[A] at k;cases gi k;cases h;refine⟨_,?_,.p (.sc rfl)⟩;unfold convert;simp only[h7,run_underlying hs,run_underlying J,j8];rfl
   ·rename_i hs J A;rw[A] at k;cases gi k;cases h;refine⟨_,?_,.p (.sc rfl)⟩;unfold convert;simp only[h7,run_underlying hs,run_underlying J,j8];rfl
   ·cases h
 case makeFunc fn f c=>
  cases h;refine lift ⟨.func fn (f.map a.eval) (c.map a.eval),rfl,?_⟩;have B:=Ix he n f.toList λx k=>j x (by simp[ye.1 k]);have I:=Ix he n c.toList λx k=>j x (by simp[ye.1 k]);have:=gQ.func (fn:=fn) B I
  have e:∀l:Array Operand,(l.toList.map a.eval).toArray=l.map a.eval:=λl=>by rw[<-Pp,Ua]
  rw[e,e] at this;exact .p this
 case fieldAddr t x i=>exact lift (Kr w h (gD he n x (j x aa2)))
 case field t x i=>exact lift (S5 w h (gD he n x (j x aa2)))
 case indexAddr t x i=>exact lift (J2 w h (gD he n x (j x aa2)) (gD he n i (j i aa2)))
 case index t x i=>exact lift (Uc w h (gD he n x (j x aa2)) (gD he n i (j i aa2)))
 case slice t x lo hi mx=>
  exact lift (SN w h (gD he n x (j x aa2)) (P3 he n lo λy C=>j y (by simp[C])) (P3 he n hi λy C=>j y (by simp[C]))
   (P3 he n mx λy C=>j y (by simp[C])))
 case extract x i=>
  refine lift ?_;have k:=gD he n x (j x aa2)
  split at h
  ·rename_i vs A;rw[A] at k;obtain⟨us,hu,H⟩:=Qr k;obtain⟨v,D,G⟩:=H.get h;refine⟨v,?_,.p G⟩;rw[hu];simp[Instr.extract,D]
  ·cases h
 case nilCheck x=>
  have k:=gD he n x (j x aa2)
  split at h
  ·rename_i f b c A;cases h;rw[A] at k;obtain⟨vf,vc,D,_,_⟩:=BC k;refine⟨a.eval x,?_,k⟩;rw[D];rfl
  ·rename_i A
   split at h
   ·rename_i G;cases h;obtain⟨b,V⟩:=Fw G k;refine⟨a.eval x,?_,k⟩;rw[V];rfl
   ·cases h
 case makeInterface t x=>
  refine lift ?_
  split at h
  ·rename_i A;cases h;exact⟨_,run_makeInterface w t _ A,.p (.iface (gD he n x (j x aa2)).norm)⟩
  ·cases h
 case typeAssert x xt t ok=>
  cases ok with
  |true=>exact lift (Nu w h (gD he n x (j x aa2)))|false=>cases h
 case call c=>
  obtain⟨callee,args,argTypes⟩:=c;have q:∀x∈args.toList,jg x=true:=λx k=>j x (by simp[Call.operands,ye.1 k]);simp only[ym] at h
  split at h
  ·split at h
   ·rename_i t x B I;simp only[resolve,invoke,builtin,h7,pP,j8];have k:x∈args:=ZS I;obtain⟨v,D,H⟩:=Ve (P:=P) (ty:=type) w h (gD he n x (q x (ye.2 k))) B (us:=args.map a.eval) (by simp[I]);exact⟨v,by rw[D];rfl,H⟩
   ·cases h
  ·split at h
   ·rename_i x l B;simp only[resolve,invoke,builtin,h7,pP,j8];obtain⟨v,D,H⟩:=LH w (W5 (P:=P) w) _ _ _ _ _ h (gD he n x (q x (by simp[B]))) (HZ he n l λy C=>q y (by simp[B,C]));refine⟨v,?_,H⟩
    have e:(args.map a.eval).toList=a.eval x::l.map a.eval:=by simp[B]
    simp only[Builtin.max_,e,D,j8]
   ·cases h
  ·split at h
   ·rename_i x l B;simp only[resolve,invoke,builtin,h7,pP,j8];obtain⟨v,D,H⟩:=LH w (VZ (P:=P) w) _ _ _ _ _ h (gD he n x (q x (by simp[B]))) (HZ he n l λy C=>q y (by simp[B,C]));refine⟨v,?_,H⟩
    have e:(args.map a.eval).toList=a.eval x::l.map a.eval:=by simp[B]
    simp only[Builtin.min_,e,D,j8]
   ·cases h
  ·cases h
 all_goals cases h
end
end Go.kY
namespace Go.kY
open Go
def Rk(a:Nat×Nat)(n:Nat):Prop:=a=(0,0)\/n<=a.1
inductive lB (F:kM) (G:Nat->Nat) (n:Nat):List AV->Obj->Prop
 |cells {cs vs ty fz}:Rk fz vs.size->hQ (gQ F G n) cs vs.toList->(∀c∈cs,c.gL=true)->lB F G n cs (.cells vs ty fz)|map {ks xs es clock}:es.toList.map (·.key)=ks->hQ (gQ F G n) xs (es.toList.map (·.val))->es.toList.map (·.born)=List.range ks.length->clock=ks.length->ks.Nodup->lB F G n [.uH ks xs] (.map es clock)|iter {o since seen}:o<n->lB F G n [.mw o since seen] (.mapIter (some (G o)) since seen.toArray since)|dead {ob}:lB F G n [] ob
def lB.grow{F F':kM}{G G':Nat->Nat}{n n':Nat}(hg:Hh F F' G G' n n'){cs c}(h:lB F G n cs c):lB F' G' n' cs c:=by
 cases h with
 |cells d a b=>exact .cells d (a.mono λ_ _ _ h=>h.grow hg) b|map a b f i j=>exact .map a (b.mono λ_ _ _ h=>h.grow hg) f i j|iter h=>rw[<-hg.mG _ h];exact .iter (T9 h hg.mn)|dead=>exact .dead
def vj:List AV->Bool
 |[]=>false|c::_=>c.gL
def lB.HV{F:kM}{G:Nat->Nat}{n:Nat}{cs a}(h:lB F G n cs a)(d:vj cs=true):∃vs ty b,a=.cells vs ty b/\Rk b vs.size/\hQ (gQ F G n) cs vs.toList/\∀c∈cs,c.gL=true:=by
 cases h with
 |cells f i j=>grind|map=>grind[vj,AV.gL]|iter=>grind[vj,AV.gL]|dead=>grind[vj]
def JG(vs:Array Value):Prop:=∀u∈vs.toList,u.oneCell'=true
structure GW (T:eN) (G:Nat->Nat) (F:kM) (H:dY) (w:World):Prop where
 GK:∀b o v,F b o=some v->w.cell? ⟨b,o,none⟩=some v
 lK:∀o cs,H[o]?=some cs->∃ob,w.heap[G o]?=some ob/\lB F G H.length cs ob
 inj:∀o o',o<H.length->o'<H.length->G o=G o'->o=o'
 gF:∀o j,o<H.length->H[o]?≠some []->F (G o) j=none
 fresh:∀b j,w.heap.size<=b->F b j=none
 Dn:∀g x,T g=some x->gQ F G H.length (.mj x) (.pointer (some ⟨g,0,none⟩))
 row:(∀g,T g=none)->∀b o v,F b o=some v->∃vs ty fz,w.heap[b]?=some (.cells vs ty fz)/\Rk fz vs.size/\JG vs
structure Ext (B:Nat) (G:Nat->Nat) (F:kM) (n:Nat) (w:World) (G':Nat->Nat) (F':kM) (n':Nat) (w':World):Prop where
 os:w'.os=w.os
 tape:w'.tape=w.tape
 output:w'.output=w.output
 size:w.heap.size<=w'.heap.size
 len:n<=n'
 hG:∀o,o<n->G' o=G o
 LV:∀o,n<=o->o<n'->B<=G' o
 hF:∀b j,b<B->(∀o,o<n->G o≠b)->F' b j=F b j
 mF:∀b j v,b<B->F b j=some v->F' b j=some v
 heap:∀b,b<B->(∀o,o<n->G o≠b)->w'.heap[b]?=w.heap[b]?
section
variable{B B':Nat} {G G' G'':Nat->Nat} {F F' F'':kM} {n n' n'':Nat} {w w' w'':World}
theorem Ext.refl:Ext B G F n w G F n w:=⟨rfl,rfl,rfl,gY _,gY _,λ_ _=>rfl,λ_ h a=>absurd a VW,λ_ _ _ _=>rfl,λ_ _ _ _ h=>h,λ_ _ _=>rfl⟩
def Ext.trans(h:Ext B G F n w G' F' n' w')(k:Ext B G' F' n' w' G'' F'' n'' w''):Ext B G F n w G'' F'' n'' w'' where
 os:=k.os.trans h.os
 tape:=k.tape.trans h.tape
 output:=k.output.trans h.output
 size:=AL h.size k.size
 len:=AL h.len k.len
 hG o c:=(k.hG o (T9 c h.len)).trans (h.hG o c)
 LV o d f:=by
  rcases vh o n' with h3|h3
  ·rw[k.hG o h3];exact h.LV o d h3
  ·exact k.LV o h3 f
 hF b j a hg:=by
  refine(k.hF b j a λo c=>?_).trans (h.hF b j a hg);rcases vh o n with h3|h3
  ·rw[h.hG o h3];exact hg o h3
  ·have:=h.LV o h3 c;omega
 mF b j v a i:=k.mF b j v a (h.mF b j v a i)
 heap b a hg:=by
  refine(k.heap b a λo c=>?_).trans (h.heap b a hg);rcases vh o n with h3|h3
  ·rw[h.hG o h3];exact hg o h3
  ·have:=h.LV o h3 c;omega
theorem Ext.mono(h:Ext B G F n w G' F' n' w')(c:B'<=B):Ext B' G F n w G' F' n' w':=
 ⟨h.os,h.tape,h.output,h.size,h.len,h.hG,λo d f=>AL c (h.LV o d f),λb j a=>h.hF b j VW,λb j v a=>h.mF b j v VW,λb a hg=>h.heap b VW hg⟩
end
inductive ou where
 |free|box (d:Nat)|lK|arr (k:Nat)
 deriving DecidableEq
structure WR (T:eN) (n B0:Nat) (ρ:Maps) (F:kM) (R:Nat->ou) (fr:Fr) (H:dY) (a:Act) (w:World):Prop where
 g:GW T ρ.G F H w
 size:a.tmps.size=n
 defers:a.defers=[]
 env:ti F ρ fr a
 hn:ρ.n=H.length
 lg:∀d,ρ.lg d=fr.gen d
 ag:∀k,ρ.ag k=fr.fi k
 box:∀d cs,fr.box d=some cs->B0<=ρ.L d (fr.gen d)/\R (ρ.L d (fr.gen d))=.box d/\(∀c∈cs,c.gL=true)/\∃vs ty,w.heap[ρ.L d (fr.gen d)]?=some (.cells vs ty (0,0))/\hQ (jN F ρ) cs vs.toList
 tok:∀k m,fr.qh k=some m->∀b c sz,ρ.A k (fr.fi k)=some (b,c,sz)->B0<=b/\R b=.arr k/\(0<m/\m<=c)/\c<=maxLen/\(∃vs ty,w.heap[b]?=some (.cells vs ty (0,0))/\vs.size=c*sz/\JG vs)/\∀j,m*sz<=j->F b j=none
 qi:∀b j v,F b j=some v->∀d,R b≠ .box d
 n_:∀o,o<H.length->R (ρ.G o)=.lK
 lz:∀b,w.heap.size<=b->R b=.free
 qq:B0<=w.heap.size
section
variable{T:eN} {n B0:Nat} {ρ ρ':Maps} {F F':kM} {R:Nat->ou} {fr:Fr} {H:dY} {a:Act} {w w':World}
def WR.iq(h:WR T n B0 ρ F R fr H a w):yC T F ρ:=λg x b=>by rw[h.hn];exact h.g.Dn g x b
def WR.ahw(h:WR T n B0 ρ F R fr H a w){b j:Nat}{v:Value}(c:F b j=some v):b<w.heap.size:=by
 rcases vh b w.heap.size with h'|h'
 ·exact h'
 ·rw[h.g.fresh b j h'] at c;cases c
theorem Fr.tV(fr:Fr)(d:Option Nat)(x:AV)(t:Nat):(fr.put d x).env t=if d=some t then x else fr.env t:=by
 cases d with
 |none=>simp[Fr.put]|some d=>
  simp only[Fr.put,gK]
  grind
theorem Fr.x_(fr:Fr)(d:Option Nat)(x:AV):(fr.put d x).box=fr.box/\(fr.put d x).gen=fr.gen/\(fr.put d x).qh=fr.qh/\(fr.put d x).fi=fr.fi:=by
 cases d<;>exact⟨rfl,rfl,rfl,rfl⟩
def OE(a:Act)(d:Option Nat)(v:Value)(t:Nat)(c:∀b,d=some b->b<a.tmps.size):(a.put d v).tmps.getD t undef=if d=some t then v else a.tmps.getD t undef:=by
 cases d with
 |none=>simp[Act.put]|some d=>
  simp only[Act.put,Np]
  grind
theorem ti.put(he:ti F ρ fr a){d:Option Nat}(c:∀b,d=some b->b<a.tmps.size){x:AV}{v:Value}(f:gG F ρ x v):ti F ρ (fr.put d x) (a.put d v):=by
 intro t;rw[Fr.tV,OE a d v t c]
 split
 ·exact f
 ·exact he t
def EZ(a:Act)(d:Option Nat)(v:Value):(a.put d v).tmps.size=a.tmps.size:=by cases d<;>simp[Act.put]
def put_defers(a:Act)(d:Option Nat)(v:Value):(a.put d v).defers=a.defers:=by cases d<;>rfl
theorem WR.put(h:WR T n B0 ρ F R fr H a w){d:Option Nat}(i:∀b,d=some b->b<n){x:AV}{v:Value}(j:gG F ρ x v):WR T n B0 ρ F R (fr.put d x) H (a.put d v) w:=by
 obtain⟨k,c,l,f⟩:=Fr.x_ fr d x;refine⟨h.g,by rw[EZ];exact h.size,by rw[put_defers];exact h.defers,h.env.put (by rw[h.size];exact i) j,h.hn,?_,?_,?_,?_,h.qi,h.n_,h.lz,h.qq⟩
 ·rw[c];exact h.lg
 ·rw[f];exact h.ag
 ·rw[k,c];exact h.box
 ·rw[l,f];exact h.tok
def WR.drew(h:WR T n B0 ρ F R fr H a w):WR T n B0 ρ F R fr H a w.drew:=
 ⟨⟨h.g.GK,h.g.lK,h.g.inj,h.g.gF,h.g.fresh,h.g.Dn,h.g.row⟩,h.size,h.defers,h.env,h.hn,h.lg,h.ag,h.box,h.tok,h.qi,h.n_,h.lz,h.qq⟩
def p1{w:World}{b:Nat}{o:Obj}(h:w.heap[b]?=some o):b<w.heap.size:=(Uv.1 h).1
def WR.alloc(h:WR T n B0 ρ F R fr H a w)(o:Obj):WR T n B0 ρ F R fr H a (w.alloc o):=by
 have hs:(w.alloc o).heap.size=w.heap.size+1:=World.size_alloc w o;refine⟨⟨?_,?_,h.g.inj,h.g.gF,?_,h.g.Dn,?_⟩,h.size,h.defers,h.env,h.hn,h.lg,h.ag,?_,?_,h.qi,h.n_,?_,by have:=h.qq;omega⟩
 ·intro b j v q;rw[World.cell?_alloc_lt w o ⟨b,j,none⟩ (h.ahw q)];exact h.g.GK b j v q
 ·intro x cs y;obtain⟨r,f,i⟩:=h.g.lK x cs y;exact⟨r,(heap_alloc_old w o (p1 f)).trans f,i⟩
 ·intro b j A;exact h.g.fresh b j VW
 ·intro B b j v q;obtain⟨vs,ty,C,f,i⟩:=h.g.row B b j v q;exact⟨vs,ty,C,(heap_alloc_old w o (p1 f)).trans f,i⟩
 ·intro d cs D;obtain⟨f,i,s,vs,ty,l,t⟩:=h.box d cs D;exact⟨f,i,s,vs,ty,(heap_alloc_old w o (p1 l)).trans l,t⟩
 ·intro k m G b c sz I;obtain⟨f,i,s,u,⟨vs,ty,l,t⟩,J⟩:=h.tok k m G b c sz I;exact⟨f,i,s,u,⟨vs,ty,(heap_alloc_old w o (p1 l)).trans l,t⟩,J⟩
 ·intro b A;exact h.lz b VW
def ti.grow(he:ti F ρ fr a)(hg:xu F F' ρ ρ'):ti F' ρ' fr a:=λt=>(he t).grow hg
def sX{α:Type}(f:Nat->Nat->α)(i j:Nat)(x:α):Nat->Nat->α:=λa b=>if a=i/\b=j then x else f a b
def WR.acy(h:WR T n B0 ρ F R fr H a w){b:Nat}{vs:Array Value}{ty:TypeId}{cs:List AV}(O:B0<=b)(r:R b=.free)(hF:∀j,F b j=none)
  (N:w.heap[b]?=some (.cells vs ty (0,0))) (C:hQ (jN F ρ) cs vs.toList) (y:∀c∈cs,c.gL=true) {d:Nat} (P:d<n):∃ρ' A,ρ'.G=ρ.G/\WR T n B0 ρ' F A {fr with env:=gK fr.env d (.h9 d (fr.gen d+1) 0),box:=gK fr.box d (some cs),gen:=gK fr.gen d (fr.gen d+1)} H
   (a.put (some d) (.pointer (some ⟨b,0,none⟩))) w:=by
 let ρ':Maps:={ρ with L:=sX ρ.L d (fr.gen d+1) b,lg:=gK ρ.lg d (fr.gen d+1)}
 let A:Nat->ou:=gK R b (.box d)
 have s:xu F F ρ ρ':=by
  refine⟨.refl,λf=>?_,λf g hg=>?_,λ_=>gY _,λ_ _ _=>rfl⟩
  ·show ρ.lg f<=gK ρ.lg d (fr.gen d+1) f;unfold gK
   split
   ·rename_i Q;subst Q;rw[h.lg];omega
   ·exact gY _
  ·show sX ρ.L d (fr.gen d+1) b f g=ρ.L f g;unfold sX;rw[dK];rintro⟨rfl,rfl⟩;rw[h.lg] at hg;omega
 have l:∀i,R i≠ .free->A i=R i:=by
  intro i t;show gK R b (.box d) i=R i;unfold gK;rw[dK];rintro rfl;exact t r
 refine⟨ρ',A,rfl,?_⟩;refine⟨⟨h.g.GK,h.g.lK,h.g.inj,h.g.gF,h.g.fresh,h.g.Dn,h.g.row⟩,by rw[EZ];exact h.size,by rw[put_defers];exact h.defers,?_,h.hn,?_,h.ag,?_,?_,?_,?_,?_,h.qq⟩
 ·have S:=(h.env.grow s).put (d:=some d) (by intro f he;injection he with he;subst he;rw[h.size];exact P) (x:=.h9 d (fr.gen d+1) 0) (v:=.pointer (some ⟨b,0,none⟩))
   (by
    have:=jN.h9 (F:=F) (ρ:=ρ') (b:=d) (g:=fr.gen d+1) (off:=0) (by show _<=gK ρ.lg d (fr.gen d+1) d;simp[gK])
    have e:ρ'.L d (fr.gen d+1)=b:=by show sX ρ.L d (fr.gen d+1) b d (fr.gen d+1)=b;simp[sX]
    rw[e] at this
    exact .cell this)
  exact S
 ·intro f;show gK ρ.lg d (fr.gen d+1) f=gK fr.gen d (fr.gen d+1) f;unfold gK
  split
  ·rfl
  ·exact h.lg f
 ·intro f D q;simp only[gK] at q|-
  by_cases he:f=d
  ·subst he;simp only[if_true] at q|-;cases q
   have e:ρ'.L f (fr.gen f+1)=b:=by show sX ρ.L f (fr.gen f+1) b f (fr.gen f+1)=b;simp[sX]
   rw[e];refine⟨O,?_,y,vs,ty,N,C.mono λ_ _ _ h=>h.grow s⟩;show gK R b (.box f) b=.box f;simp[gK]
  ·simp only[dK he] at q|-;obtain⟨I,B,J,vs',K,U,V⟩:=h.box f D q
   have e:ρ'.L f (fr.gen f)=ρ.L f (fr.gen f):=by show sX ρ.L d (fr.gen d+1) b f (fr.gen f)=_;simp[sX,he]
   rw[e];exact⟨I,by rw[l _ (by rw[B];simp)];exact B,J,vs',K,U,V.mono λ_ _ _ h=>h.grow s⟩
 ·intro k m W i c sz X;obtain⟨I,B,J⟩:=h.tok k m W i c sz X;exact⟨I,by rw[l _ (by rw[B];simp)];exact B,J⟩
 ·intro i j v M
  have u:i≠b:=by rintro rfl;rw[hF j] at M;cases M
  have e:A i=R i:=by show gK R b (.box d) i=R i;simp[gK,u]
  rw[e];exact h.qi i j v M
 ·intro o Y;have:=h.n_ o Y;rw[l _ (by show R (ρ.G o)≠_;rw[this];simp)];exact this
 ·intro i t
  have u:i≠b:=by rintro rfl;have:=p1 N;omega
  show gK R b (.box d) i=.free;simp only[gK,dK u];exact h.lz i t
def WR.Mg(h:WR T n B0 ρ F R fr H a w){b:Nat}{I:Obj}{cs:List AV}(i:R b=.free)(hF:∀j,F b j=none)
  (U:w.heap[b]?=some I) (J:lB F ρ.G ρ.n cs I):∃ρ' A,(∀o,o<H.length->ρ'.G o=ρ.G o)/\ρ'.G H.length=b/\ρ'.n=H.length+1/\WR T n B0 ρ' F A fr (H++[cs]) a w:=by
 let ρ':Maps:={ρ with G:=gK ρ.G H.length b,n:=H.length+1}
 let A:Nat->ou:=gK R b .lK
 have hG:∀o,o<H.length->ρ'.G o=ρ.G o:=by
  intro o f;show gK ρ.G H.length b o=ρ.G o;simp only[gK];rw[dK VW]
 have s:Hh F F ρ.G ρ'.G ρ.n ρ'.n:=⟨λ_ _ _ h=>h,by show ρ.n<=H.length+1;rw[h.hn];omega,λo f=>hG o (by rw[h.hn] at f;exact f)⟩;have B:xu F F ρ ρ':=⟨s,λ_=>gY _,λ_ _ _=>rfl,λ_=>gY _,λ_ _ _=>rfl⟩
 have r:Hh F F ρ.G ρ'.G H.length (H++[cs]).length:=by
  have:=s;rw[h.hn] at this;simpa using this
 have l:∀d,R d≠ .free->A d=R d:=by
  intro d t;show gK R b .lK d=R d;unfold gK;rw[dK];rintro rfl;exact t i
 have q:ρ'.G H.length=b:=by show gK ρ.G H.length b H.length=b;simp[gK]
 refine⟨ρ',A,hG,q,rfl,?_⟩;refine⟨⟨h.g.GK,?_,?_,?_,h.g.fresh,λg x V=>(h.g.Dn g x V).grow r,h.g.row⟩,h.size,h.defers,h.env.grow B,by show H.length+1=_;simp,h.lg,h.ag,?_,?_,?_,?_,?_,h.qq⟩
 ·intro o u f;rcases vh o H.length with C|hge
  ·rw[vE C] at f;obtain⟨K,h1,h2⟩:=h.g.lK o u f;rw[hG o C];exact⟨K,h1,h2.grow r⟩
  ·have:o=H.length:=by
    have:=(sY.1 f).1;simp at this;omega
   subst this;simp at f;subst f;rw[q];exact⟨I,U,(by have:=J.grow s;simpa using this)⟩
 ·intro o o' f M he;simp at f M
  have key:∀o,o<H.length->ρ'.G o≠b:=by
   intro o f he;rw[hG o f] at he;have:=h.n_ o f;rw[he,i] at this;cases this
  rcases vh o H.length with h1|h1
  ·rcases vh o' H.length with h2|h2
   ·rw[hG o h1,hG o' h2] at he;exact h.g.inj o o' h1 h2 he
   ·have e:o'=H.length:=VW
    subst e;rw[q] at he;exact absurd he (key o h1)
  ·grind
 ·intro o j f D;simp at f;rcases vh o H.length with h1|h1
  ·rw[hG o h1];exact h.g.gF o j h1 (by rw[vE h1] at D;exact D)
  ·have e:o=H.length:=VW
   subst e;rw[q];exact hF j
 ·intro N u O;obtain⟨h1,h2,P,vs',Q,W,X⟩:=h.box N u O;exact⟨h1,by rw[l _ (by show R (ρ.L N (fr.gen N))≠_;rw[h2];simp)];exact h2,P,vs',Q,W,X.mono λ_ _ _ h=>h.grow B⟩
 ·intro k m Y d c sz Z;obtain⟨h1,h2,P⟩:=h.tok k m Y d c sz Z;exact⟨h1,by rw[l _ (by rw[h2];simp)];exact h2,P⟩
 ·intro d j v S
  have y:d≠b:=by rintro rfl;rw[hF j] at S;cases S
  have e:A d=R d:=by show gK R b .lK d=R d;simp[gK,y]
  rw[e];exact h.qi d j v S
 ·intro o f;simp at f;rcases vh o H.length with h1|h1
  ·have:=h.n_ o h1;rw[hG o h1,l _ (by rw[this];simp)];exact this
  ·have e:o=H.length:=VW
   subst e;rw[q];show gK R b .lK b=.lK;simp[gK]
 ·intro d t
  have y:d≠b:=by rintro rfl;have:=p1 U;omega
  show gK R b .lK d=.free;simp only[gK,dK y];exact h.lz d t
def WR.acR(h:WR T n B0 ρ F R fr H a w){b:Nat}{vs:Array Value}{ty:TypeId}{cs:List AV}(f:R b=.free)(hF:∀j,F b j=none)
  (r:w.heap[b]?=some (.cells vs ty (0,0))) (l:hQ (gQ F ρ.G ρ.n) cs vs.toList) (i:∀c∈cs,c.gL=true) {d:Nat} (s:d<n):∃ρ' q,(∀o,o<H.length->ρ'.G o=ρ.G o)/\ρ'.G H.length=b/\WR T n B0 ρ' F q {fr with env:=gK fr.env d (.fb H.length 0)} (H++[cs])
   (a.put (some d) (.pointer (some ⟨b,0,none⟩))) w:=by
 obtain⟨ρ',q,hG,k,t,hw⟩:=h.Mg f hF r (.cells (.inl rfl) l i);refine⟨ρ',q,hG,k,hw.put (d:=some d) (by intro u he;injection he with he;subst he;exact s) (x:=.fb H.length 0) ?_⟩;have:=gQ.fb (F:=F) (G:=ρ'.G) (n:=ρ'.n) (o:=H.length) (off:=0) (by grind);rw[k] at this;exact .p this
end
def cell_setRow_other(w:World)(g:Nat)(cs:Array Value)(b o:Nat)(h:b≠g):(w.setRow g cs).cell? ⟨b,o,none⟩=w.cell? ⟨b,o,none⟩:=
 World.cell?_of_block (w:=w) (a:=⟨b,o,none⟩) (setRow_other w g b cs h)
def size_setRow(w:World)(g:Nat)(cs:Array Value):(w.setRow g cs).heap.size=w.heap.size:=by simp_all
section
variable{T:eN} {n B0:Nat} {ρ:Maps} {F:kM} {R:Nat->ou} {fr:Fr} {H:dY} {a:Act} {w:World}
def WR.Vr(h:WR T n B0 ρ F R fr H a w){d:Nat}{cs s:List AV}{vs':Array Value}(S:fr.box d=some cs)(C:hQ (jN F ρ) s vs'.toList)(x:∀c∈s,c.gL=true):WR T n B0 ρ F R {fr with box:=gK fr.box d (some s)} H a (w.setRow (ρ.L d (fr.gen d)) vs'):=by
 obtain⟨U,O,h3,vs,ty,V,h5⟩:=h.box d cs S
 have f:∀b,R b≠ .box d->b≠ρ.L d (fr.gen d):=by
  rintro b t rfl;exact t O
 refine⟨⟨?_,?_,h.g.inj,h.g.gF,?_,h.g.Dn,?_⟩,h.size,h.defers,h.env,h.hn,h.lg,h.ag,?_,?_,h.qi,h.n_,?_,by rw[size_setRow];exact h.qq⟩
 ·intro b o v y;rw[cell_setRow_other]
  ·exact h.g.GK b o v y
  ·exact f b (h.qi b o v y d)
 ·intro o i P;obtain⟨A,B,u⟩:=h.g.lK o i P;refine⟨A,?_,u⟩;rw[setRow_other]
  ·exact B
  ·refine f _ ?_;rw[h.n_ o (sY.1 P).1];simp
 ·intro b j t;rw[size_setRow] at t;exact h.g.fresh b j t
 ·intro W b j v y;obtain⟨D,G,I,g1,g2⟩:=h.g.row W b j v y;exact⟨D,G,I,by rw[setRow_other _ _ _ _ (f b (h.qi b j v y d))];exact g1,g2⟩
 ·intro Q i l;simp only[gK] at l
  by_cases he:Q=d
  ·subst he;simp only[if_true] at l;cases l;exact⟨U,O,x,vs',ty,setRow_heap w _ vs vs' ty (0,0) V,C⟩
  ·simp only[dK he] at l;obtain⟨B,u,J,q,r,K,M⟩:=h.box Q i l;refine⟨B,u,J,q,r,?_,M⟩;rw[setRow_other]
   ·exact K
   ·refine f _ ?_;rw[u];simp[he]
 ·intro k m X b c sz Y;obtain⟨B,u,J,N,⟨q,r,K,M⟩,Z⟩:=h.tok k m X b c sz Y;refine⟨B,u,J,N,⟨q,r,?_,M⟩,Z⟩;rw[setRow_other]
  ·exact K
  ·refine f _ ?_;rw[u];simp
 ·intro b t;rw[size_setRow] at t;exact h.lz b t
def WR.JX(h:WR T n B0 ρ F R fr H a w){o:Nat}{cs t:List AV}{w':World}{u:Obj}(L:H[o]?=some cs)(x:cs≠[])(y:w'.heap.size=w.heap.size)(D:w'.heap[ρ.G o]?=some u)
  (d:∀b,b≠ρ.G o->w'.heap[b]?=w.heap[b]?) (N:lB F ρ.G ρ.n t u):WR T n B0 ρ F R fr (H.set o t) a w':=by
 have f:=(sY.1 L).1;have O:=h.n_ o f
 have P:∀b,R b≠ .lK->b≠ρ.G o:=by
  rintro b l rfl;exact l O
 have C:(H.set o t).length=H.length:=aa2
 refine⟨⟨?_,?_,?_,?_,?_,?_,?_⟩,h.size,h.defers,h.env,by rw[C];exact h.hn,h.lg,h.ag,?_,?_,h.qi,?_,?_,by rw[y];exact h.qq⟩
 ·intro b o' v A
  have l:b≠ρ.G o:=by
   rintro rfl;rw[h.g.gF o o' f (by rw[L];exactλe=>x (kR e))] at A;cases A
  have e:w'.cell? ⟨b,o',none⟩=w.cell? ⟨b,o',none⟩:=by simp[World.cell?,d b l]
  rw[e];exact h.g.GK b o' v A
 ·intro o' i I;rw[C]
  by_cases he:o=o'
  ·subst he;simp only[List.getElem?_set_self f] at I;cases I;refine⟨u,D,?_⟩;rw[<-h.hn];exact N
  ·rw[Wq he] at I;obtain⟨J,M,K⟩:=h.g.lK o' i I;refine⟨J,?_,K⟩;rw[d]
   ·exact M
   ·exactλe=>he (h.g.inj o' o (sY.1 I).1 f e).symm
 ·rw[C];exact h.g.inj
 ·intro o' j B q;rw[C] at B
  by_cases he:o=o'
  ·subst he;exact h.g.gF o j B (by rw[L];exactλe=>x (kR e))
  ·rw[Wq he] at q;exact h.g.gF o' j B q
 ·intro b j l;rw[y] at l;exact h.g.fresh b j l
 ·rw[C];exact h.g.Dn
 ·intro Z b j v A;obtain⟨Q,S,U,g1,g2⟩:=h.g.row Z b j v A;refine⟨Q,S,U,?_,g2⟩;rw[d]
  ·exact g1
  ·rintro rfl;rw[h.g.gF o j f (by rw[L];exactλe=>x (kR e))] at A;cases A
 ·intro d' i V;obtain⟨M,K,W,r,s,X,Y⟩:=h.box d' i V;refine⟨M,K,W,r,s,?_,Y⟩;rw[d]
  ·exact X
  ·refine P _ ?_;rw[K];simp
 ·intro k m hk b c sz hA;obtain⟨M,K,W,ad,⟨r,s,X,Y⟩,e6⟩:=h.tok k m hk b c sz hA
  grind
 ·rw[C];exact h.n_
 ·intro b l;rw[y] at l;exact h.lz b l
def WR.SJ(h:WR T n B0 ρ F R fr H a w){o:Nat}{cs d:List AV}{vs':Array Value}(r:H[o]?=some cs)(f:vj cs=true)(i:hQ (gQ F ρ.G ρ.n) d vs'.toList)(hlen:d.length=cs.length)(j:∀c∈d,c.gL=true):WR T n B0 ρ F R fr (H.set o d) a (w.setRow (ρ.G o) vs'):=by
 obtain⟨x,s,t⟩:=h.g.lK o cs r;obtain⟨vs,ty,u,rfl,k,l,_⟩:=t.HV f
 have q:vs'.size=vs.size:=by
  have y:=i.length;have A:=l.length
  grind
 exact h.JX r (by rintro rfl;simp[vj] at f) (size_setRow w _ _) (setRow_heap w _ vs vs' ty u s) (λb v=>setRow_other w _ b _ v) (.cells (by rw[q];exact k) i j)
end
end Go.kY
