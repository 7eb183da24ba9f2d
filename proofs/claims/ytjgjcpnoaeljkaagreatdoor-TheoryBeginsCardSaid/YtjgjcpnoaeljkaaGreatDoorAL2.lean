/- Part of the proof of TheoryBegins: layer. -/
import Derived.Orders
import Derived.Below
import Derived.Laws.AppendOwn
import Derived.Laws.Cells
import Derived.Laws.CopyRow
import Derived.Laws.Small
import Derived.Laws.Pointers
import Derived.WalkSpells
import Derived.Test.YtjgjcpnoaeljkaaGreatDoorAL1
set_option linter.all false
namespace Go.kQ
open Go
inductive Tag where
 |iB|full|loc (k g:Nat)
inductive AV where
 |undef|sc (v:Value)|lD (x:AV)|gv (b g off:Nat)|eb (o off:Nat)|slice (tag:Tag) (l:List AV)|agg (cs:List AV)|tuple (vs:List AV)|func (fn:Fn) (first cap:List AV)
 |iface (t:TypeId) (x:AV)|vM (b g len cap:Nat)|kT (o:Nat)|sW (ks:List Value) (xs:List AV)|lU (o since:Nat) (seen:List Nat)|qY (o off len cap:Nat)|Oi
instance:Inhabited AV:=⟨.undef⟩
def AV.cells:AV->List AV
 |.agg cs=>cs|x=>[x]
def AV.fL:AV->Bool
 |.agg _=>false|.tuple _=>false|.sW _ _=>false|.lU _ _ _=>false|_=>true
def vU:Value->Bool
 |.bool _=>true|.int _ _=>true|.float _ _=>true|.string _=>true|.pointer none=>true|.map none=>true|.nilFunc=>true|.nilIface=>true|_=>false
inductive fV {α β:Type} (R:α->β->Prop):List α->List β->Prop
 |nil:fV R [] []|cons {a b as bs}:R a b->fV R as bs->fV R (a::as) (b::bs)
def fV.length{α β:Type}{R:α->β->Prop}{as:List α}{bs:List β}(h:fV R as bs):as.length=bs.length:=by
 induction h with
 |nil=>rfl|cons _ _ ih=>simp[ih]
theorem fV.mono{α β:Type}{R S:α->β->Prop}{as:List α}{bs:List β}(h:fV R as bs)(hs:∀a b,a∈as->R a b->S a b):fV S as bs:=by
 induction h with
 |nil=>exact .nil|cons c _ ih=>exact .cons (hs _ _ acZ c) (ih λa b d=>hs a b (by simp[d]))
def fV.append{α β:Type}{R:α->β->Prop}{as a:List α}{bs b:List β}(h:fV R as bs)(c:fV R a b):fV R (as++a) (bs++b):=by
 induction h with
 |nil=>exact c|cons d _ ih=>exact .cons d ih
def fV.take{α β:Type}{R:α->β->Prop}{as:List α}{bs:List β}(h:fV R as bs)(n:Nat):fV R (as.take n) (bs.take n):=by
 induction h generalizing n with
 |nil=>simp;exact .nil|cons a _ ih=>cases n with
  |zero=>exact .nil|succ n=>exact .cons a (ih n)
def fV.drop{α β:Type}{R:α->β->Prop}{as:List α}{bs:List β}(h:fV R as bs)(n:Nat):fV R (as.drop n) (bs.drop n):=by
 induction h generalizing n with
 |nil=>simp;exact .nil|cons a b ih=>cases n with
  |zero=>exact .cons a b|succ n=>exact ih n
def fV.get{α β:Type}{R:α->β->Prop}{as:List α}{bs:List β}(h:fV R as bs){i:Nat}{a:α}(c:as[i]?=some a):∃b,bs[i]?=some b/\R a b:=by
 induction h generalizing i with
 |nil=>simp at c
 |cons d _ ih=>grind
def fV.mem{α β:Type}{R:α->β->Prop}{as:List α}{bs:List β}(h:fV R as bs){b:β}(c:b∈bs):∃a∈as,R a b:=by
 induction h with
 |nil=>simp at c
 |cons d _ ih=>grind
def fV.vX{α α' β:Type}{R:α->β->Prop}{S:α'->β->Prop}{as:List α}{bs:List β}(f:α->α')(h:fV R as bs)(hs:∀a b,a∈as->R a b->S (f a) b):fV S (as.map f) bs:=by
 induction h with
 |nil=>exact .nil|cons c _ ih=>exact .cons (hs _ _ acZ c) (ih λa b d=>hs a b (by simp[d]))
abbrev jo:=Nat->Nat->Option Value
def jo.has(F:jo)(b o:Nat)(vs:List Value):Prop:=∀i v,vs[i]?=some v->F b (o+i)=some v
mutual
inductive fD (F:jo) (G:Nat->Nat) (n:Nat):AV->Value->Prop
 |undef {v}:v.oneCell'=true->fD F G n .undef v|sc {v}:vU v=true->fD F G n (.sc v) v|lD {x b o vs}:fI F G n x.cells vs->F.has b o vs->(∀c∈x.cells,c.fL=true)->fD F G n (.lD x) (.pointer (some ⟨b,o,none⟩))|eb {o off}:o<n->fD F G n (.eb o off) (.pointer (some ⟨G o,off,none⟩))|kT {o}:o<n->fD F G n (.kT o) (.map (some (G o)))|qY {o off len cap}:o<n->len<=cap->cap<=maxLen->fD F G n (.qY o off len cap) (.slice (some ⟨G o,off,none⟩) len cap)|slice {tag l vs b o base cap sz}:fI F G n (l.flatMap AV.cells) vs->F.has b o vs->(l≠[]->base=some ⟨b,o,none⟩)->(∀x∈l,x.cells.length=sz)->(∀c∈l.flatMap AV.cells,c.fL=true)->l.length<=cap->cap<=maxLen->tag=.iB\/tag=.full/\cap=l.length->fD F G n (.slice tag l) (.slice base l.length cap)|Oi {base}:fD F G n .Oi (.slice base 0 0)|agg {cs vs}:fI F G n cs vs->(∀c∈cs,c.fL=true)->fD F G n (.agg cs) (.agg vs.toArray)|tuple {cs vs}:fI F G n cs vs->fD F G n (.tuple cs) (.tuple vs.toArray)|func {fn f c vf vc}:fI F G n f vf->fI F G n c vc->fD F G n (.func fn f c) (.func fn vf.toArray vc.toArray)|iface {t x v}:fD F G n x v->fD F G n (.iface t x) (.iface t v)
inductive fI (F:jo) (G:Nat->Nat) (n:Nat):List AV->List Value->Prop
 |nil:fI F G n [] []|cons {x v xs vs}:fD F G n x v->fI F G n xs vs->fI F G n (x::xs) (v::vs)
end
section
variable{F F':jo} {G G':Nat->Nat} {n n':Nat}
def fI.sY{xs vs}(h:fI F G n xs vs):fV (fD F G n) xs vs:=by
 induction xs generalizing vs with
 |nil=>cases h;exact .nil
 |cons x xs ih=>cases h with|cons a b=>exact .cons a (ih b)
def fI.oC{xs vs}(h:fV (fD F G n) xs vs):fI F G n xs vs:=by
 induction h with
 |nil=>exact .nil|cons a _ ih=>exact .cons a ih
structure Grow (F F':jo) (G G':Nat->Nat) (n n':Nat):Prop where
 mF:∀b o v,F b o=some v->F' b o=some v
 mn:n<=n'
 mG:∀o,o<n->G' o=G o
theorem Grow.refl:Grow F F G G n n:=⟨λ_ _ _ h=>h,gV _,λ_ _=>rfl⟩
def jo.has.grow{b o vs}(h:F.has b o vs)(hg:Grow F F' G G' n n'):F'.has b o vs:=λi v a=>hg.mF _ _ _ (h i v a)
mutual
def fD.grow(hg:Grow F F' G G' n n'):∀{x v},fD F G n x v->fD F' G' n' x v
 |_,_,.undef h=>.undef h|_,_,.sc h=>.sc h|_,_,.lD a b c=>.lD (a.grow hg) (b.grow hg) c|_,_,.eb (o:=o) (off:=off) h=>by
  rw[<-hg.mG o h];exact .eb (R0 h hg.mn)
 |_,_,.kT (o:=o) h=>by
  rw[<-hg.mG o h];exact .kT (R0 h hg.mn)
 |_,_,.qY (o:=o) h b c=>by
  rw[<-hg.mG o h];exact .qY (R0 h hg.mn) b c
 |_,_,.slice a b c d f i j k=>.slice (a.grow hg) (b.grow hg) c d f i j k|_,_,.Oi=>.Oi|_,_,.agg a b=>.agg (a.grow hg) b|_,_,.tuple a=>.tuple (a.grow hg)|_,_,.func a b=>.func (a.grow hg) (b.grow hg)|_,_,.iface a=>.iface (a.grow hg)
def fI.grow(hg:Grow F F' G G' n n'):∀{xs vs},fI F G n xs vs->fI F' G' n' xs vs
 |_,_,.nil=>.nil|_,_,.cons a b=>.cons (a.grow hg) (b.grow hg)
end
def fD.Lh{x v}(h:fD F G n x v)(b:x.fL=true):v.oneCell'=true:=by
 cases h with
 |undef h=>exact h|sc h=>revert h;cases v<;>simp[vU,Value.oneCell']
 |agg a c=>grind[AV.fL]|tuple a=>grind[AV.fL]|_=>rfl
theorem fD.cells{x v}(h:fD F G n x v)(l:∀vs,x≠ .tuple vs):fI F G n x.cells v.cells.toList:=by
 cases h with
 |undef h=>cases v<;>first|exact .cons (.undef h) .nil|(simp[Value.oneCell'] at h;done)
 |sc h=>cases v<;>first|exact .cons (.sc h) .nil|(simp[vU] at h;done)
 |lD a b c=>exact .cons (.lD a b c) .nil|eb a=>exact .cons (.eb a) .nil|kT a=>exact .cons (.kT a) .nil|qY a b c=>exact .cons (.qY a b c) .nil|slice a b c d f i j k=>exact .cons (.slice a b c d f i j k) .nil|Oi=>exact .cons .Oi .nil|agg a b=>exact a|tuple a=>grind|func a b=>exact .cons (.func a b) .nil|iface a=>exact .cons (.iface a) .nil
end
structure Maps where
 G:Nat->Nat
 n:Nat
 L:Nat->Nat->Nat
 lg:Nat->Nat
 A:Nat->Nat->Option (Nat×Nat×Nat)
 ag:Nat->Nat
def tk(ρ:Maps)(k g:Nat)(l:List AV)(base:Option Addr)(cap:Nat):Prop:=
 match ρ.A k g with
 |none=>cap=l.length|some (b,c,sz)=>base=some ⟨b,0,none⟩/\cap=c/\∀x∈l,x.cells.length=sz
inductive iF (F:jo) (ρ:Maps):AV->Value->Prop
 |p {x v}:fD F ρ.G ρ.n x v->iF F ρ x v|gv {b g off}:g<=ρ.lg b->iF F ρ (.gv b g off) (.pointer (some ⟨ρ.L b g,off,none⟩))|loc {k g l base cap}:fD F ρ.G ρ.n (.slice .iB l) (.slice base l.length cap)->g<=ρ.ag k->tk ρ k g l base cap->iF F ρ (.slice (.loc k g) l) (.slice base l.length cap)|vM {b g len cap}:g<=ρ.lg b->len<=cap->cap<=maxLen->iF F ρ (.vM b g len cap) (.slice (some ⟨ρ.L b g,0,none⟩) len cap)
inductive fx (F:jo) (ρ:Maps):AV->Value->Prop
 |cell {x v}:iF F ρ x v->fx F ρ x v|agg {cs vs}:fV (iF F ρ) cs vs->(∀c∈cs,c.fL=true)->fx F ρ (.agg cs) (.agg vs.toArray)
structure tp (F F':jo) (ρ ρ':Maps):Prop where
 g:Grow F F' ρ.G ρ'.G ρ.n ρ'.n
 lg:∀b,ρ.lg b<=ρ'.lg b
 L:∀b g,g<=ρ.lg b->ρ'.L b g=ρ.L b g
 ag:∀k,ρ.ag k<=ρ'.ag k
 A:∀k g,g<=ρ.ag k->ρ'.A k g=ρ.A k g
section
variable{F F':jo} {ρ ρ':Maps}
def iF.grow(hg:tp F F' ρ ρ'){x v}(h:iF F ρ x v):iF F' ρ' x v:=by
 cases h with
 |p h=>exact .p (h.grow hg.g)|gv h=>
  rename_i b g off;rw[<-hg.L b g h];exact .gv (AK h (hg.lg b))
 |loc d a c=>
  refine .loc (d.grow hg.g) (AK a (hg.ag _)) ?_;unfold tk;rw[hg.A _ _ a];exact c
 |vM h a c=>
  rename_i b g len cap;rw[<-hg.L b g h];exact .vM (AK h (hg.lg b)) a c
def fx.grow(hg:tp F F' ρ ρ'){x v}(h:fx F ρ x v):fx F' ρ' x v:=by
 cases h with
 |cell h=>exact .cell (h.grow hg)|agg a b=>exact .agg (a.mono λ_ _ _ h=>h.grow hg) b
def fx.p{x v}(h:fD F ρ.G ρ.n x v):fx F ρ x v:=.cell (.p h)
end
def AV.kj:AV->AV
 |.slice _ l=>.slice .iB l|.gv _ _ _=>.undef|.vM _ _ _ _=>.undef|x=>x
def AV.norm:AV->AV
 |.agg cs=>.agg (cs.map AV.kj)|x=>x.kj
section
variable{F F':jo} {ρ ρ':Maps}
def fD.iB{G:Nat->Nat}{n:Nat}{tag l v}(h:fD F G n (.slice tag l) v):fD F G n (.slice .iB l) v:=by
 cases h with
 |slice a b c d f i j k=>exact .slice a b c d f i j (.inl rfl)
def fD.kj{G:Nat->Nat}{n:Nat}{x v}(h:fD F G n x v):fD F G n x.kj v:=by
 cases x with
 |slice tag l=>exact h.iB|gv b g off=>cases h
 |vM b g len cap=>cases h
 |_=>exact h
def iF.kj{x v}(h:iF F ρ x v):fD F ρ.G ρ.n x.kj v:=by
 cases h with
 |p h=>exact h.kj|gv h=>exact .undef rfl|loc a b c=>exact a|vM a b c=>exact .undef rfl
theorem AV.D8(x:AV):x.kj.fL=x.fL:=by cases x<;>rfl
def fx.norm{x v}(h:fx F ρ x v):fD F ρ.G ρ.n x.norm v:=by
 have d:∀{cs:List AV} {vs:List Value},fV (iF F ρ) cs vs->(∀c∈cs,c.fL=true)->fD F ρ.G ρ.n (AV.agg cs).norm (.agg vs.toArray):=by
  intro cs vs f i;refine .agg (fI.oC (f.vX AV.kj λa b _ h=>h.kj)) ?_
  grind[AV.D8]
 cases h with
 |agg f i=>grind|cell h=>
  cases x with
  |agg cs=>
   cases h with
   |p h=>
    cases h with
    |agg f i=>exact d (f.sY.mono λ_ _ _ h=>.p h) i
  |_=>exact h.kj
theorem fx.cells{x v}(h:fx F ρ x v)(d:∀vs,x≠ .tuple vs):fV (iF F ρ) x.cells v.cells.toList:=by
 cases h with
 |agg a b=>exact a|cell h=>
  cases h with
  |p h=>exact(h.cells d).sY.mono λ_ _ _ h=>.p h|gv h=>exact .cons (.gv h) .nil|loc a b c=>exact .cons (.loc a b c) .nil|vM a b c=>exact .cons (.vM a b c) .nil
def iF.Lh{x v}(h:iF F ρ x v)(a:x.fL=true):v.oneCell'=true:=by
 cases h with
 |p h=>exact h.Lh a|gv h=>rfl|loc b c d=>rfl|vM b c d=>rfl
def fx.r'{x v}(h:fx F ρ x v)(f:∀vs,x≠ .tuple vs):∀c∈x.cells,c.fL=true:=by
 cases h with
 |agg b a=>exact a|cell h=>
  cases h with
  |p h=>
   cases h with
   |agg b a=>exact a|tuple b=>grind|_=>simp[AV.cells,AV.fL]
  |gv h=>simp[AV.cells,AV.fL]|loc b a d=>simp[AV.cells,AV.fL]|vM b a d=>simp[AV.cells,AV.fL]
end
end Go.kQ
namespace Go.kQ
open Go
abbrev cZ:=List (List AV)
abbrev dt:=Nat->Option AV
structure Fr where
 env:Nat->AV
 box:Nat->Option (List AV)
 gen:Nat->Nat
 qn:Nat->Option Nat
 ef:Nat->Nat
def fP{α:Type}(f:Nat->α)(i:Nat)(x:α):Nat->α:=λj=>if j=i then x else f j
def Fr.put(fr:Fr)(d:Option Nat)(x:AV):Fr:=
 match d with
 |some d=>{fr with env:=fP fr.env d x}|none=>fr
section
variable(P:Program)
def eA(t:TypeId):Option (Bool×Nat):=
 match P.underlying t,P.info? t with
 |some d,some i=>some (match d with|.struct _|.array _ _=>true|_=>false,i.size)
 |_,_=>none
def zeroOf(t:TypeId):Option Value:=(P.info? t).bind (·.zero)
def dO(t i:Nat):Option (Nat×TypeId):=
 match P.underlying t with
 |some (.struct a)=>(a[i]?).map λf=>(f.offset,f.type)|_=>none
def Nt(t:TypeId):Option (Nat×TypeId):=
 match P.underlying t with
 |some (.array n e)=>some (n,e)|_=>none
def lH(t:TypeId)(cs:List AV)(off:Nat):Option AV:=
 match eA P t with
 |some (true,n)=>if off+n<=cs.length then some (.agg ((cs.drop off).take n))else none|some (false,_)=>cs[off]?|none=>none
def qH(t:TypeId)(x:AV):Bool:=
 match eA P t,x with
 |some (true,n),.agg cs=>cs.length==n|some (false,_),.agg _=>false|some (false,_),.tuple _=>false|some (false,_),.sW _ _=>false|some (false,_),.lU _ _ _=>false|some (false,_),_=>true|_,_=>false
end
def setCells(cs:List AV)(off:Nat)(new:List AV):List AV:=cs.take off++new++cs.drop (off+new.length)
def pS:Value->AV
 |.slice none 0 0=>.slice .full []|.func fn f c=>if f.size=0/\c.size=0 then .func fn [] [] else .undef|.agg _=>.undef|.tuple _=>.undef|v=>if vU v then .sc v else .undef
def ofValue:Value->AV
 |.agg cs=>.agg (cs.toList.map pS)|.tuple cs=>.tuple (cs.toList.map pS)|v=>pS v
def xk:Value->Bool
 |.agg cs=>cs.all (·.oneCell')|.tuple cs=>cs.all (·.oneCell')|_=>true
def xw(v:Value):(pS v).fL=true:=by
 unfold pS
 split<;>first|rfl|(split<;>rfl)
def Eo(F:jo)(G:Nat->Nat)(n:Nat)(v:Value)(h:v.oneCell'=true):fD F G n (pS v) v:=by
 unfold pS
 split
 .exact .slice (l:=[]) (vs:=[]) (b:=0) (o:=0) (sz:=0) .nil (λ_ _ h=>by simp at h) acZ acZ acZ acZ (by simp[maxLen]) (.inr ⟨rfl,rfl⟩)
 .rename_i fn f c
  split
  .rename_i hs;obtain⟨a,d⟩:=hs;have i:f=#[]:=acL a;have j:c=#[]:=acL d;subst i;subst j;exact .func (vf:=[]) (vc:=[]) .nil .nil
  .exact .undef rfl
 .simp[Value.oneCell'] at h
 .simp[Value.oneCell'] at h
 .split
  .exact .sc (by assumption)
  .exact .undef h
def p6(F:jo)(G:Nat->Nat)(n:Nat):∀(vs:List Value),(∀v∈vs,v.oneCell'=true)->fI F G n (vs.map pS) vs
 |[],_=>.nil|v::vs,h=>.cons (Eo F G n v (h v acZ)) (p6 F G n vs λu hu=>h u (by simp[hu]))
def D0{v:Value}(h:v.oneCell'=true):ofValue v=pS v:=by
 cases v<;>first|rfl|(simp[Value.oneCell'] at h)
def xH(F:jo)(G:Nat->Nat)(n:Nat)(v:Value)(h:xk v=true):fD F G n (ofValue v) v:=by
 cases v with
 |agg cs=>
  have b:∀v∈cs.toList,v.oneCell'=true:=λv d=>by
   have f:cs.all (·.oneCell')=true:=h
   exact I3.1 f v (wD.1 d)
  exact .agg (vs:=cs.toList) (p6 F G n cs.toList b) (by
   intro c i;obtain⟨a,_,rfl⟩:=nj.1 i
   exact xw a)
 |tuple cs=>
  have b:∀v∈cs.toList,v.oneCell'=true:=λv d=>by
   have f:cs.all (·.oneCell')=true:=h
   exact I3.1 f v (wD.1 d)
  exact .tuple (vs:=cs.toList) (p6 F G n cs.toList b)
 |_=>(rw[D0 rfl];exact Eo F G n _ rfl)
section
variable(T:dt) (fr:Fr)
def ev:Operand->AV
 |.tmp t=>fr.env t|.const v=>ofValue v|.global g=>match T g with|some x=>.lD x|none=>.undef
 |.func f=>.func (.func f) [] []
def iz:Operand->Bool
 |.const v=>xk v|_=>true
end
def rX(F:jo)(ρ:Maps)(fr:Fr)(a:Act):Prop:=∀t,fx F ρ (fr.env t) (a.tmps.getD t undef)
def xc(T:dt)(F:jo)(ρ:Maps):Prop:=∀g x,T g=some x->fD F ρ.G ρ.n (.lD x) (.pointer (some ⟨g,0,none⟩))
def fG{T:dt}{fr:Fr}{F:jo}{ρ:Maps}{a:Act}(he:rX F ρ fr a)(b:xc T F ρ)(x:Operand)(c:iz x=true):fx F ρ (ev T fr x) (a.eval x):=by
 cases x with
 |tmp t=>exact he t|const v=>exact .p (xH _ _ _ v c)|global g=>
  show fx F ρ (match T g with|some x=>.lD x|none=>.undef) _;cases h:T g with
  |none=>exact .p (.undef rfl)|some x=>exact .p (b g x h)
 |func f=>exact .p (.func (vf:=[]) (vc:=[]) .nil .nil)
def pU(op:BinOp)(k:IntKind)(a b:Int):Option Value:=
 match op with
 |.add=>some (.int k (k.wrap (a+b)))|.sub=>some (.int k (k.wrap (a-b)))|.mul=>some (.int k (k.wrap (a*b)))|.quo=>if b=0 then none else some (.int k (k.wrap (a.tdiv b)))|.rem=>if b=0 then none else some (.int k (a.tmod b))|.and=>some (.int k (k.wrap (BitVec.ofInt k.bits a&&&BitVec.ofInt k.bits b).toNat))|.or=>some (.int k (k.wrap (BitVec.ofInt k.bits a|||BitVec.ofInt k.bits b).toNat))|.xor=>some (.int k (k.wrap (BitVec.ofInt k.bits a^^^BitVec.ofInt k.bits b).toNat))|.andNot=>some (.int k (k.wrap (BitVec.ofInt k.bits a&&&~~~BitVec.ofInt k.bits b).toNat))|.eql=>some (.bool (a==b))|.neq=>some (.bool (a !=b))|.lss=>some (.bool (a<b))|.leq=>some (.bool (a<=b))|.gtr=>some (.bool (a>b))|.geq=>some (.bool (a>=b))|_=>none
def He(op:BinOp)(x y:ByteArray):Option Value:=
 match op with
 |.add=>if((x.size+y.size:Nat):Int)>IntKind.i64.max then none else some (.string (x++y))|.eql=>some (.bool (x.toList==y.toList))|.neq=>some (.bool !(x.toList==y.toList))|.lss=>some (.bool (Op.bytesLess x.toList y.toList))|.leq=>some (.bool (Op.bytesLess x.toList y.toList||x.toList==y.toList))|.gtr=>some (.bool !(Op.bytesLess x.toList y.toList||x.toList==y.toList))|.geq=>some (.bool !(Op.bytesLess x.toList y.toList))|_=>none
def BS:AV->Bool
 |.lD _|.gv _ _ _|.eb _ _=>true|_=>false
def ot(P:Program)(op:BinOp)(t:TypeId)(x y:AV):Option AV:=
 match op,x,y with
 |.shl,.sc (.int k a),.sc (.int _ b)=>if b<0 then none else some (.sc (.int k (k.wrap (a*2^min b.toNat k.bits))))|.shr,.sc (.int k a),.sc (.int _ b)=>if b<0 then none else some (.sc (.int k (a.fdiv (2^min b.toNat k.bits))))|op,.sc (.int k a),.sc (.int k' b)=>if k=k' then(pU op k a b).map .sc else none|op,.sc (.string a),.sc (.string b)=>(He op a b).map .sc|.eql,.sc (.bool a),.sc (.bool b)=>match P.underlying t with|some .bool=>some (.sc (.bool (a==b)))|_=>none
 |.neq,.sc (.bool a),.sc (.bool b)=>match P.underlying t with|some .bool=>some (.sc (.bool (!(a==b))))|_=>none
 |.eql,x,.sc (.pointer none)=>match P.underlying t with
  |some (.pointer _)=>if BS x then some (.sc (.bool false))else(match x with|.sc (.pointer none)=>some (.sc (.bool true))|_=>none)
  |_=>none
 |.neq,x,.sc (.pointer none)=>match P.underlying t with
  |some (.pointer _)=>if BS x then some (.sc (.bool true))else(match x with|.sc (.pointer none)=>some (.sc (.bool false))|_=>none)
  |_=>none
 |.eql,.func _ _ _,.sc .nilFunc=>match P.underlying t with|some (.func ..)=>some (.sc (.bool false))|_=>none
 |.neq,.func _ _ _,.sc .nilFunc=>match P.underlying t with|some (.func ..)=>some (.sc (.bool true))|_=>none
 |.eql,.sc .nilFunc,.sc .nilFunc=>match P.underlying t with|some (.func ..)=>some (.sc (.bool true))|_=>none
 |.neq,.sc .nilFunc,.sc .nilFunc=>match P.underlying t with|some (.func ..)=>some (.sc (.bool false))|_=>none
 |_,_,_=>none
def unA(op:UnOp)(x:AV):Option AV:=
 match op,x with
 |.neg,.sc (.int k n)=>some (.sc (.int k (k.wrap (0-n))))|.not,.sc (.bool b)=>some (.sc (.bool !b))|_,_=>none
def e_{F:jo}{ρ:Maps}{u v:Value}(h:fx F ρ (.sc u) v):v=u:=by
 cases h with
 |cell h=>cases h with|p h=>cases h;rfl
def GN(P:Program)(w:World){op:BinOp}{k:IntKind}{a b:Int}{v:Value}(t:TypeId)(h:pU op k a b=some v):(binOp op t (.int k a) (.int k b)).run P w=.ok v w/\vU v=true:=by
 cases op<;>simp only[pU] at h<;>(try(split at h))<;>
  (first
   |(cases h;refine⟨?_,rfl⟩;simp[binOp,Op.intArith,Op.intBits,Op.intCmp,Op.intDiv, *])
   |cases h)
def F3(P:Program)(w:World){op:BinOp}{a b:ByteArray}{v:Value}(t:TypeId)(h:He op a b=some v):(binOp op t (.string a) (.string b)).run P w=.ok v w/\vU v=true:=by
 cases op<;>simp only[He] at h<;>(try(split at h))<;>
  (first
   |(cases h;refine⟨?_,rfl⟩;simp_all [binOp,Op.stringOp])
   |cases h)
def DJ{F:jo}{ρ:Maps}{x:AV}{v:Value}(b:BS x=true)(h:fx F ρ x v):∃a,v=.pointer (some a):=by
 cases h with
 |agg c d=>grind[BS]|cell h=>
  cases h with
  |gv h=>grind|loc c d f=>simp[BS] at b
  |vM c d f=>simp[BS] at b
  |p h=>cases h<;>first|(simp[BS] at b;done)|exact⟨_,rfl⟩
def xz{P:Program}{t e:TypeId}(h:P.underlying t=some (.pointer e)):P.underlying t=some (.pointer (P.pointee t)):=by
 simp[Program.pointee,h]
def zN{F:jo}{ρ:Maps}{fn:Fn}{f c:List AV}{v:Value}(h:fx F ρ (.func fn f c) v):∃vf vc:List Value,v=.func fn vf.toArray vc.toArray/\fV (fD F ρ.G ρ.n) f vf/\fV (fD F ρ.G ρ.n) c vc:=by
 cases h with
 |cell h=>cases h with
  |p h=>cases h with|func a b=>exact⟨_,_,rfl,a.sY,b.sY⟩
def QW(P:Program)(w:World){t:TypeId}{ps rs:Array TypeId}{b:Bool}(hu:P.underlying t=some (.func ps rs b))(fn:Fn)(f c:Array Value):(binOp .eql t (.func fn f c) .nilFunc).run P w=.ok (.bool false) w/\(binOp .neq t (.func fn f c) .nilFunc).run P w=.ok (.bool true) w:=by
 have h:∀d,(Op.equalIn (d+1) t (.func fn f c) .nilFunc).run P w=.ok false w:=λd=>by simp[Op.equalIn,run_underlying hu]
 have a:binOp .eql t (.func fn f c) .nilFunc=(do pure (.bool (<-Op.equalIn (9999+1) t (.func fn f c) .nilFunc))):=rfl;have i:binOp .neq t (.func fn f c) .nilFunc=(do pure (.bool (!(<-Op.equalIn (9999+1) t (.func fn f c) .nilFunc)))):=rfl;rw[a,i,gl,gl,h 9999];exact⟨rfl,rfl⟩
def Rj(P:Program)(w:World){t:TypeId}{ps rs:Array TypeId}{b:Bool}(hu:P.underlying t=some (.func ps rs b)):(binOp .eql t .nilFunc .nilFunc).run P w=.ok (.bool true) w/\(binOp .neq t .nilFunc .nilFunc).run P w=.ok (.bool false) w:=by
 have h:∀d,(Op.equalIn (d+1) t .nilFunc .nilFunc).run P w=.ok true w:=λd=>by simp[Op.equalIn,run_underlying hu]
 have a:binOp .eql t .nilFunc .nilFunc=(do pure (.bool (<-Op.equalIn (9999+1) t .nilFunc .nilFunc))):=rfl;have c:binOp .neq t .nilFunc .nilFunc=(do pure (.bool (!(<-Op.equalIn (9999+1) t .nilFunc .nilFunc)))):=rfl;rw[a,c,gl,gl,h 9999];exact⟨rfl,rfl⟩
def Ka:Value->Bool
 |.nilIface=>false|.agg _=>false|_=>true
def L8(P:Program)(w:World)(op:BinOp)(t:TypeId)(x y:Operand){u v:Value}(h:Ka u=true):(eqGuard op t x y u v).run P w=.ok () w:=by
 cases u<;>first|(simp[Ka] at h;done)|(cases op<;>rfl)
def SZ(P:Program)(w:World){F:jo}{ρ:Maps}{op:BinOp}{t:TypeId}{x y r:AV}{u v:Value}(h:ot P op t x y=some r)
  (b:fx F ρ x u) (hy:fx F ρ y v):∃z,(binOp op t u v).run P w=.ok z w/\r=.sc z/\vU z=true/\Ka u=true:=by
 unfold ot at h
 split at h
 .cases e_ b;cases e_ hy
  split at h
  .cases h
  .rename_i c;cases h;exact⟨_,by simp[binOp,Op.shift,c],rfl,rfl,rfl⟩
 .cases e_ b;cases e_ hy
  split at h
  .cases h
  .rename_i c;cases h;exact⟨_,by simp[binOp,Op.shift,c],rfl,rfl,rfl⟩
 .cases e_ b;cases e_ hy
  split at h
  .rename_i f;subst f;cases hi:pU op _ _ _ with
   |none=>rw[hi] at h;cases h
   |some z=>
    rw[hi] at h;cases h;exact⟨z,(GN P w t hi).1,rfl,(GN P w t hi).2,rfl⟩
  .cases h
 .cases e_ b;cases e_ hy;cases hi:He op _ _ with
  |none=>rw[hi] at h;cases h
  |some z=>
   rw[hi] at h;cases h;exact⟨z,(F3 P w t hi).1,rfl,(F3 P w t hi).2,rfl⟩
 .cases e_ b;cases e_ hy
  split at h
  .rename_i hu;cases h;exact⟨_,run_eql_bool w t _ _ hu,rfl,rfl,rfl⟩
  .cases h
 .cases e_ b;cases e_ hy
  split at h
  .rename_i hu;cases h;exact⟨_,run_neq_bool w t _ _ hu,rfl,rfl,rfl⟩
  .cases h
 .cases e_ hy
  split at h
  .rename_i hu
   split at h
   .rename_i d;obtain⟨a,rfl⟩:=DJ d b;cases h;exact⟨_,run_eql_pointer_nil w t _ (xz hu),acZ,rfl,rfl⟩
   .split at h
    .cases e_ b;cases h;exact⟨_,run_eql_pointer_nil w t _ (xz hu),acZ,rfl,rfl⟩
    .cases h
  .cases h
 .cases e_ hy
  split at h
  .rename_i hu
   split at h
   .rename_i d;obtain⟨a,rfl⟩:=DJ d b;cases h;exact⟨_,run_neq_pointer_nil w t _ (xz hu),acZ,rfl,rfl⟩
   .split at h
    .cases e_ b;cases h;exact⟨_,run_neq_pointer_nil w t _ (xz hu),acZ,rfl,rfl⟩
    .cases h
  .cases h
 .cases e_ hy;obtain⟨vf,vc,rfl,_,_⟩:=zN b
  split at h
  .rename_i hu;cases h;exact⟨.bool false,(QW P w hu _ _ _).1,rfl,rfl,rfl⟩
  .cases h
 .cases e_ hy;obtain⟨vf,vc,rfl,_,_⟩:=zN b
  split at h
  .rename_i hu;cases h;exact⟨.bool true,(QW P w hu _ _ _).2,rfl,rfl,rfl⟩
  .cases h
 .cases e_ b;cases e_ hy
  split at h
  .rename_i hu;cases h;exact⟨.bool true,(Rj P w hu).1,rfl,rfl,rfl⟩
  .cases h
 .cases e_ b;cases e_ hy
  split at h
  .rename_i hu;cases h;exact⟨.bool false,(Rj P w hu).2,rfl,rfl,rfl⟩
  .cases h
 .cases h
end Go.kQ
namespace Go.kQ
open Go
def ns{l:List AV}{sz:Nat}(h:∀x∈l,x.cells.length=sz):(l.flatMap AV.cells).length=l.length*sz:=by
 induction l with
 |nil=>simp|cons x l ih=>grind
def Cv{l:List AV}{sz:Nat}(h:∀x∈l,x.cells.length=sz)(n:Nat):(l.take n).flatMap AV.cells=(l.flatMap AV.cells).take (n*sz):=by
 induction l generalizing n with
 |nil=>simp|cons x l ih=>
  cases n with
  |zero=>simp|succ n=>
   have a:=h x acZ
   rw[List.take_succ_cons,GA,GA,ih (λy hy=>h y (by simp[hy])),AQ,Zf,List.take_append,a,List.take_of_length_le (l:=x.cells) VW,ab8]
def xa{l:List AV}{sz:Nat}(h:∀x∈l,x.cells.length=sz)(n:Nat):(l.drop n).flatMap AV.cells=(l.flatMap AV.cells).drop (n*sz):=by
 induction l generalizing n with
 |nil=>simp|cons x l ih=>
  cases n with
  |zero=>simp|succ n=>
   have a:=h x acZ
   rw[List.drop_succ_cons,GA,ih (λy hy=>h y (by simp[hy])),AQ,Zf,acs,a,IB (as:=x.cells) VW,ab8,oE]
def Mj{l:List AV}{sz:Nat}(h:∀x∈l,x.cells.length=sz){i:Nat}{x:AV}(hi:l[i]?=some x):((l.flatMap AV.cells).drop (i*sz)).take sz=x.cells:=by
 have b:=xa h i;have a:i<l.length:=(mH.1 hi).1
 have c:l.drop i=x::l.drop (i+1):=by
  have:=KR a
  grind
 grind
def jo.has.drop{F:jo}{b o:Nat}{vs:List Value}(h:F.has b o vs)(n:Nat):F.has b (o+n) (vs.drop n):=by
 intro i v a;rw[St] at a;have:=h _ v a
 grind
def jo.has.take{F:jo}{b o:Nat}{vs:List Value}(h:F.has b o vs)(n:Nat):F.has b o (vs.take n):=by
 intro i v a;rw[NB] at a
 split at a
 .exact h i v a
 .cases a
section
variable{F:jo} {G:Nat->Nat} {n:Nat}
def fI.drop{xs vs}(h:fI F G n xs vs)(k:Nat):fI F G n (xs.drop k) (vs.drop k):=.oC (h.sY.drop k)
def fI.take{xs vs}(h:fI F G n xs vs)(k:Nat):fI F G n (xs.take k) (vs.take k):=.oC (h.sY.take k)
def fI.get{xs vs}(h:fI F G n xs vs){i:Nat}{x:AV}(a:xs[i]?=some x):∃v,vs[i]?=some v/\fD F G n x v:=h.sY.get a
def fI.length{xs vs}(h:fI F G n xs vs):xs.length=vs.length:=h.sY.length
def fI.append{xs vs a vs'}(h:fI F G n xs vs)(b:fI F G n a vs'):fI F G n (xs++a) (vs++vs'):=.oC (h.sY.append b.sY)
end
def AV.cells_one{x:AV}(h:x.fL=true):x.cells=[x]:=by cases x<;>first|rfl|(simp[AV.fL] at h)
section
variable{P:Program}
def Ef{t:TypeId}{b:Bool}{n:Nat}(h:eA P t=some (b,n)):∃d i,P.underlying t=some d/\P.info? t=some i/\i.size=n/\(match d with|.struct _|.array _ _=>true|_=>false)=b:=by grind[eA]
def jT{t:TypeId}{b:Bool}{n:Nat}(h:eA P t=some (b,n))(w:World):(sizeOf t).run P w=.ok n w:=by
 obtain⟨d,i,a,hi,hn,_⟩:=Ef h;simp[sizeOf,typeInfo,hi,hn]
def xD{t:TypeId}{b:Bool}{n:Nat}(h:eA P t=some (b,n))(w:World):(isAgg t).run P w=.ok b w:=by
 obtain⟨d,i,a,hi,hn,c⟩:=Ef h;subst c;unfold isAgg;rw[gl,run_underlying a];cases d<;>rfl
def yq{t:TypeId}{cs:List AV}{off:Nat}{z:AV}(h:lH P t cs off=some z):(∃k,eA P t=some (true,k)/\off+k<=cs.length/\z=.agg ((cs.drop off).take k))\/(∃k,eA P t=some (false,k)/\cs[off]?=some z):=by grind[lH]
def x_{t:TypeId}{k:Nat}(h:eA P t=some (true,k))(w:World)(a:Addr)(vs:List Value)(b:vs.length=k)
  (c:∀j v,vs[j]?=some v->w.cell? (a.add j)=some v):(loadVar t a).run P w=.ok (.agg vs.toArray) w:=by
 unfold loadVar;rw[gl,xD h];simp only[jr,if_true];rw[gl,jT h,jr,gl,<-b,run_loadCells_list w a vs c];rfl
def xU{t:TypeId}{k:Nat}(h:eA P t=some (false,k))(w:World)(a:Addr)(v:Value)(b:w.cell? a=some v):(loadVar t a).run P w=.ok v w:=by
 unfold loadVar;rw[gl,xD h]
 simp_all
end
def qt(P:Program)(t:TypeId)(x:AV)(i:Nat):Option AV:=
 match dO P t i with
 |none=>none|some (off,a)=>
  match eA P a with
  |none=>none|some (_,n)=>
   if n=0 then none else
   match x with
   |.gv b g o=>some (.gv b g (o+off))|.eb o f=>some (.eb o (f+off))|.lD y=>(lH P a y.cells off).map .lD|_=>none
def Be(P:Program)(t:TypeId)(x:AV)(i:Nat):Option AV:=
 match dO P t i,x with
 |some (off,a),.agg cs=>lH P a cs off|_,_=>none
def ft(P:Program)(t:TypeId)(x i:AV):Option AV:=
 match i with
 |.sc (.int _ n)=>
  match P.underlying t,x with
  |some (.slice e),.slice _ l=>
   if 0<=n then
    match l[n.toNat]?,eA P e with
    |some y,some (_,sz)=>if y.cells.length=sz then some (.lD y)else none|_,_=>none
   else none
  |some (.slice e),.vM b g len _=>
   match eA P e with
   |some (_,sz)=>if 0<=n/\n<len then some (.gv b g (n.toNat*sz))else none|none=>none
  |some (.slice e),.qY b off len _=>
   match eA P e with
   |some (_,sz)=>if 0<=n/\n<len then some (.eb b (off+n.toNat*sz))else none|none=>none
  |some (.array len e),.gv b g o=>
   match eA P e with
   |some (_,sz)=>if 0<=n/\n<len then some (.gv b g (o+n.toNat*sz))else none|none=>none
  |some (.array len e),.eb ob o=>
   match eA P e with
   |some (_,sz)=>if 0<=n/\n<len then some (.eb ob (o+n.toNat*sz))else none|none=>none
  |some (.array len e),.lD y=>
   match eA P e with
   |some (_,sz)=>if 0<=n/\n<len then(lH P e y.cells (n.toNat*sz)).map .lD else none|none=>none
  |_,_=>none
 |_=>none
def P9(P:Program)(t:TypeId)(x i:AV):Option AV:=
 match i with
 |.sc (.int _ n)=>
  match P.underlying t,x with
  |some .string,.sc (.string s)=>if 0<=n then(s[n.toNat]?).map λb=>.sc (.int .u8 b.toNat)else none|some (.array len e),.agg cs=>
   match eA P e with
   |some (_,sz)=>if 0<=n/\n<len then lH P e cs (n.toNat*sz)else none|none=>none
  |_,_=>none
 |_=>none
section
variable{P:Program} {F:jo} {ρ:Maps}
def B7{cs:List AV}{v:Value}(h:fx F ρ (.agg cs) v):∃vs:List Value,v=.agg vs.toArray/\fV (iF F ρ) cs vs/\∀c∈cs,c.fL=true:=by
 cases h with
 |agg a b=>grind|cell h=>cases h with
  |p h=>cases h with|agg a b=>exact⟨_,rfl,a.sY.mono λ_ _ _ h=>.p h,b⟩
def P8{cs:List AV}{v:Value}(h:fx F ρ (.tuple cs) v):∃vs:List Value,v=.tuple vs.toArray/\fV (fD F ρ.G ρ.n) cs vs:=by
 cases h with
 |cell h=>cases h with
  |p h=>cases h with|tuple a=>exact⟨_,rfl,a.sY⟩
def v8{b g off:Nat}{v:Value}(h:fx F ρ (.gv b g off) v):v=.pointer (some ⟨ρ.L b g,off,none⟩)/\g<=ρ.lg b:=by
 cases h with
 |cell h=>cases h with
  |p h=>cases h
  |gv h=>grind
def tQ{o off:Nat}{v:Value}(h:fx F ρ (.eb o off) v):v=.pointer (some ⟨ρ.G o,off,none⟩)/\o<ρ.n:=by
 cases h with
 |cell h=>cases h with
  |p h=>cases h with|eb h=>exact⟨rfl,h⟩
def DS{x:AV}{v:Value}(h:fx F ρ (.lD x) v):∃b o vs,v=.pointer (some ⟨b,o,none⟩)/\fI F ρ.G ρ.n x.cells vs/\F.has b o vs/\∀c∈x.cells,c.fL=true:=by
 cases h with
 |cell h=>cases h with
  |p h=>cases h with|lD a d f=>exact⟨_,_,_,rfl,a,d,f⟩
def yx{b g len cap:Nat}{v:Value}(h:fx F ρ (.vM b g len cap) v):v=.slice (some ⟨ρ.L b g,0,none⟩) len cap/\g<=ρ.lg b/\len<=cap/\cap<=maxLen:=by
 cases h with
 |cell h=>cases h with
  |p h=>cases h
  |vM a c d=>grind
def CJ{o off len cap:Nat}{v:Value}(h:fx F ρ (.qY o off len cap) v):v=.slice (some ⟨ρ.G o,off,none⟩) len cap/\o<ρ.n/\len<=cap/\cap<=maxLen:=by
 cases h with
 |cell h=>cases h with
  |p h=>cases h with|qY a b c=>exact⟨rfl,a,b,c⟩
structure XQ (F:jo) (ρ:Maps) (l:List AV) (base:Option Addr) (cap b o sz:Nat) (vs:List Value):Prop where
 cells:fI F ρ.G ρ.n (l.flatMap AV.cells) vs
 has:F.has b o vs
 base:l≠[]->base=some ⟨b,o,none⟩
 sz:∀x∈l,x.cells.length=sz
 r':∀c∈l.flatMap AV.cells,c.fL=true
 Af:l.length<=cap
 w6:cap<=maxLen
def fD.Jz{G:Nat->Nat}{n:Nat}{tag:Tag}{l:List AV}{v:Value}(h:fD F G n (.slice tag l) v):∃base cap b o sz vs,v=.slice base l.length cap/\fI F G n (l.flatMap AV.cells) vs/\F.has b o vs/\(l≠[]->base=some ⟨b,o,none⟩)/\(∀x∈l,x.cells.length=sz)/\(∀c∈l.flatMap AV.cells,c.fL=true)/\l.length<=cap/\cap<=maxLen/\(tag=.iB\/tag=.full/\cap=l.length):=by
 cases h with|slice a d f i j k q r=>exact⟨_,_,_,_,_,_,rfl,a,d,f,i,j,k,q,r⟩
def mJ{tag:Tag}{l:List AV}{v:Value}(h:fx F ρ (.slice tag l) v):∃base cap b o sz vs,v=.slice base l.length cap/\XQ F ρ l base cap b o sz vs/\(tag=.full->cap=l.length)/\(∀k g,tag=.loc k g->g<=ρ.ag k/\tk ρ k g l base cap):=by
 cases h with
 |cell h=>cases h with
  |p h=>
   obtain⟨base,cap,b,o,sz,vs,rfl,a,q,r,c,d,f,i,s⟩:=h.Jz;refine⟨base,cap,b,o,sz,vs,rfl,⟨a,q,r,c,d,f,i⟩,?_,?_⟩
   all_goals grind
  |loc a q r=>
   obtain⟨base,cap,b,o,sz,vs,he,a,j,n,c,d,f,i,s⟩:=a.Jz;injection he with t w u;subst t;subst u;refine⟨_,_,b,o,sz,vs,rfl,⟨a,j,n,c,d,f,i⟩,(by intro h;cases h),?_⟩
   grind
def Jn{G:Nat->Nat}{n:Nat}{cs:List AV}{vs:List Value}{b o:Nat}{t:TypeId}{off:Nat}{z:AV}(f:fI F G n cs vs)(h:F.has b o vs)(j:∀c∈cs,c.fL=true)
  (l:lH P t cs off=some z):fD F G n (.lD z) (.pointer (some ⟨b,o+off,none⟩)):=by
 rcases yq l with⟨k,q,hle,rfl⟩|⟨k,q,d⟩
 .exact .lD ((f.drop off).take k) ((h.drop off).take k) (λc d=>j c (FT (z8 d)))
 .obtain⟨v,r,s⟩:=f.get d;have a:=j z (Gt d);refine .lD (vs:=[v]) (by rw[AV.cells_one a];exact .cons s .nil) ?_ (by rw[AV.cells_one a];simpa using a);intro i u hu;cases i with
  |zero=>simp at hu;subst hu;exact h off _ r
  |succ i=>simp at hu
def HK(w:World){t:TypeId}{x r:AV}{u:Value}{i:Nat}(h:qt P t x i=some r)(c:fx F ρ x u):∃v,(Instr.fieldAt t u i).run P w=.ok v w/\fx F ρ r v:=by
 unfold qt at h
 split at h
 .cases h
 .rename_i off l C
  split at h
  .cases h
  .rename_i agg n q
   split at h
   .cases h
   .rename_i hn
    have a:∃d f,P.underlying t=some (.struct d)/\d[i]?=some f/\f.offset=off/\f.type=l:=by grind[dO]
    obtain⟨d,f,hu,j,rfl,rfl⟩:=a
    have key:∀b o:Nat,(Instr.fieldAt t (.pointer (some ⟨b,o,none⟩)) i).run P w=.ok (.pointer (some ⟨b,o+f.offset,none⟩)) w:=by
     intro b o;unfold Instr.fieldAt;rw[gl,run_underlying hu,jr];simp only[j,Instr.sureAddr,gl,oI,jr,fieldPlace,jT q,hn,lS,Addr.add_lit]
    split at h
    .rename_i b g o;cases h;obtain⟨rfl,hg⟩:=v8 c;exact⟨_,key _ _,.cell (.gv hg)⟩
    .rename_i o D;cases h;obtain⟨rfl,hg⟩:=tQ c;exact⟨_,key _ _,.p (.eb hg)⟩
    .rename_i y;obtain⟨b,o,vs,rfl,s,A,B⟩:=DS c;cases k:lH P f.type y.cells f.offset with
     |none=>rw[k] at h;cases h
     |some z=>
      rw[k] at h;cases h;exact⟨_,key _ _,.p (Jn s A B k)⟩
    .cases h
def B6(w:World){t:TypeId}{cs:List AV}{vs:List Value}{off:Nat}{z:AV}(d:fV (iF F ρ) cs vs)(f:∀c∈cs,c.fL=true)(h:lH P t cs off=some z):∃v,(part t vs.toArray off).run P w=.ok v w/\fx F ρ z v:=by
 rcases yq h with⟨k,a,hle,rfl⟩|⟨k,a,b⟩
 .refine⟨.agg ((vs.drop off).take k).toArray,?_,.agg ((d.drop off).take k) (λc b=>f c (FT (z8 b)))⟩;unfold part;rw[gl,xD a];simp only[jr,if_true,gl,jT a,oI]
  grind
 .obtain⟨v,i,j⟩:=d.get b;refine⟨v,?_,.cell j⟩;unfold part;rw[gl,xD a];simp[i]
def Tg(w:World){t:TypeId}{x r:AV}{u:Value}{i:Nat}(h:Be P t x i=some r)(d:fx F ρ x u):∃v,(Instr.field t u i).run P w=.ok v w/\fx F ρ r v:=by
 unfold Be at h
 split at h
 .rename_i off j cs q;obtain⟨vs,rfl,k,l⟩:=B7 d
  have a:∃b f,P.underlying t=some (.struct b)/\b[i]?=some f/\f.offset=off/\f.type=j:=by grind[dO]
  obtain⟨b,f,hu,c,rfl,rfl⟩:=a;obtain⟨v,n,o⟩:=B6 w k l h;refine⟨v,?_,o⟩;unfold Instr.field;rw[gl,run_underlying hu];simp only[c,asAgg,gl,oI,jr,n]
 .cases h
def HZ(w:World){t:TypeId}{x i r:AV}{u j:Value}(h:ft P t x i=some r)(q:fx F ρ x u)(hi:fx F ρ i j):∃v,(Instr.indexAt t u j).run P w=.ok v w/\fx F ρ r v:=by
 unfold ft at h
 split at h
 .rename_i k n;cases e_ hi
  split at h
  .rename_i e tag l hu
   split at h
   .rename_i hn
    split at h
    .rename_i y agg sz hy a
     split at h
     .rename_i A;cases h;obtain⟨base,cap,b,o,d,vs,rfl,hs,_,_⟩:=mJ q;have B:n.toNat<l.length:=(mH.1 hy).1
      have C:l≠[]:=by rintro rfl;simp at B
      have f:=Gt hy
      have s:d=sz:=by rw[<-hs.sz y f,A]
      subst s;rw[hs.base C];refine⟨.pointer (some ⟨b,o+n.toNat*d,none⟩),?_,.p (.lD (vs:=(vs.drop (n.toNat*d)).take d) ?_ ?_ ?_)⟩
      .unfold Instr.indexAt;simp only[asIntOf,gl,oI,jr,run_underlying hu];rw[cS ⟨hn,VW⟩];simp only[gl,oI,jr,jT a,Addr.add_lit]
      .rw[<-Mj hs.sz hy];exact(hs.cells.drop _).take _
      .exact(hs.has.drop _).take _
      .intro c H;exact hs.r' c (UK.2 ⟨y,f,H⟩)
     .cases h
    .cases h
   .cases h
  .rename_i e b g len cap hu
   split at h
   .rename_i agg sz a
    split at h
    .rename_i hn;cases h;obtain⟨rfl,hg,_,_⟩:=yx q;refine⟨.pointer (some ⟨ρ.L b g,n.toNat*sz,none⟩),?_,.cell (.gv hg)⟩;unfold Instr.indexAt;simp only[asIntOf,gl,oI,jr,run_underlying hu];rw[cS ⟨hn.1,VW⟩];simp only[gl,oI,jr,jT a,Addr.add_lit,tg]
    .cases h
   .cases h
  .rename_i e b off len cap hu
   split at h
   .rename_i agg sz a
    split at h
    .rename_i hn;cases h;obtain⟨rfl,hg,_,_⟩:=CJ q;refine⟨.pointer (some ⟨ρ.G b,off+n.toNat*sz,none⟩),?_,.p (.eb hg)⟩;unfold Instr.indexAt;simp only[asIntOf,gl,oI,jr,run_underlying hu];rw[cS ⟨hn.1,VW⟩];simp only[gl,oI,jr,jT a,Addr.add_lit]
    .cases h
   .cases h
  .rename_i len e b g o hu
   split at h
   .rename_i agg sz a
    split at h
    .rename_i hn;cases h;obtain⟨rfl,hg⟩:=v8 q;refine⟨.pointer (some ⟨ρ.L b g,o+n.toNat*sz,none⟩),?_,.cell (.gv hg)⟩;unfold Instr.indexAt;simp only[asIntOf,Instr.sureAddr,gl,oI,jr,run_underlying hu];rw[cS hn];simp only[gl,oI,jr,jT a,Addr.add_lit]
    .cases h
   .cases h
  .rename_i len e ob o hu
   split at h
   .rename_i agg sz a
    split at h
    .rename_i hn;cases h;obtain⟨rfl,hg⟩:=tQ q;refine⟨.pointer (some ⟨ρ.G ob,o+n.toNat*sz,none⟩),?_,.p (.eb hg)⟩;unfold Instr.indexAt;simp only[asIntOf,Instr.sureAddr,gl,oI,jr,run_underlying hu];rw[cS hn];simp only[gl,oI,jr,jT a,Addr.add_lit]
    .cases h
   .cases h
  .rename_i len e y hu
   split at h
   .rename_i agg sz a
    split at h
    .rename_i hn;obtain⟨b,o,vs,rfl,I,J,K⟩:=DS q;cases D:lH P e y.cells (n.toNat*sz)with
     |none=>rw[D] at h;cases h
     |some z=>
      rw[D] at h;cases h;refine⟨.pointer (some ⟨b,o+n.toNat*sz,none⟩),?_,.p (Jn I J K D)⟩;unfold Instr.indexAt;simp only[asIntOf,Instr.sureAddr,gl,oI,jr,run_underlying hu];rw[cS hn];simp only[gl,oI,jr,jT a,Addr.add_lit]
    .cases h
   .cases h
  .cases h
 .cases h
def Ss(w:World){t:TypeId}{x i r:AV}{u j:Value}(h:P9 P t x i=some r)(c:fx F ρ x u)(hi:fx F ρ i j):∃v,(Instr.index t u j).run P w=.ok v w/\fx F ρ r v:=by
 unfold P9 at h
 split at h
 .rename_i k n;cases e_ hi
  split at h
  .rename_i s hu;cases e_ c
   split at h
   .rename_i hn;cases a:s[n.toNat]?with
    |none=>rw[a] at h;cases h
    |some b=>
     rw[a] at h;cases h;refine⟨.int .u8 b.toNat,?_,.p (.sc rfl)⟩;unfold Instr.index;simp[asIntOf,run_underlying hu,hn,a]
   .cases h
  .rename_i len e cs hu
   split at h
   .rename_i agg sz d
    split at h
    .rename_i hn;obtain⟨vs,rfl,f,l⟩:=B7 c;obtain⟨v,o,q⟩:=B6 w f l h;refine⟨v,?_,q⟩;unfold Instr.index;simp only[asIntOf,gl,oI,jr,run_underlying hu];rw[cS hn];simp only[gl,jT d,jr,o]
    .cases h
   .cases h
  .cases h
 .cases h
end
end Go.kQ
