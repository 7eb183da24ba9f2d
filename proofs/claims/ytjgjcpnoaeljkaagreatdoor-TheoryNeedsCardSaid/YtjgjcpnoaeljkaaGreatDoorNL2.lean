/- Part of the proof of TheoryNeeds: layer. -/
import Derived.Orders
import Derived.Below
import Derived.Laws.AppendOwn
import Derived.Laws.Cells
import Derived.Laws.CopyRow
import Derived.Laws.Small
import Derived.Laws.Pointers
import Derived.WalkSpells
import Derived.Test.YtjgjcpnoaeljkaaGreatDoorNL1
set_option linter.all false
namespace Go.kC
open Go
inductive Tag where
 |iw|full|loc (k g:Nat)
inductive AV where
 |undef|sc (v:Value)|lx (x:AV)|gx (b g off:Nat)|eb (o off:Nat)|slice (tag:Tag) (l:List AV)|agg (cs:List AV)|tuple (vs:List AV)|func (fn:Fn) (first cap:List AV)
 |iface (t:TypeId) (x:AV)|vH (b g len cap:Nat)|iR (o:Nat)|rG (ks:List Value) (xs:List AV)|lM (o since:Nat) (seen:List Nat)|qU (o off len cap:Nat)|N'
instance:Inhabited AV:=⟨.undef⟩
def AV.cells:AV->List AV
 |.agg cs=>cs|x=>[x]
def AV.fJ:AV->Bool
 |.agg _=>false|.tuple _=>false|.rG _ _=>false|.lM _ _ _=>false|_=>true
def vK:Value->Bool
 |.bool _=>true|.int _ _=>true|.float _ _=>true|.string _=>true|.pointer none=>true|.map none=>true|.nilFunc=>true|.nilIface=>true|_=>false
inductive fU {α β:Type} (R:α->β->Prop):List α->List β->Prop
 |nil:fU R [] []|cons {a b as bs}:R a b->fU R as bs->fU R (a::as) (b::bs)
def fU.length{α β:Type}{R:α->β->Prop}{as:List α}{bs:List β}(h:fU R as bs):as.length=bs.length:=by
 induction h with
 |nil=>rfl|cons _ _ ih=>simp[ih]
theorem fU.mono{α β:Type}{R S:α->β->Prop}{as:List α}{bs:List β}(h:fU R as bs)(hs:∀a b,a∈as->R a b->S a b):fU S as bs:=by
 induction h with
 |nil=>exact .nil|cons c _ ih=>exact .cons (hs _ _ aaL c) (ih λa b d=>hs a b (by simp[d]))
def fU.append{α β:Type}{R:α->β->Prop}{as a:List α}{bs b:List β}(h:fU R as bs)(c:fU R a b):fU R (as++a) (bs++b):=by
 induction h with
 |nil=>exact c|cons d _ ih=>exact .cons d ih
def fU.take{α β:Type}{R:α->β->Prop}{as:List α}{bs:List β}(h:fU R as bs)(n:Nat):fU R (as.take n) (bs.take n):=by
 induction h generalizing n with
 |nil=>simp;exact .nil|cons a _ ih=>cases n with
  |zero=>exact .nil|succ n=>exact .cons a (ih n)
def fU.drop{α β:Type}{R:α->β->Prop}{as:List α}{bs:List β}(h:fU R as bs)(n:Nat):fU R (as.drop n) (bs.drop n):=by
 induction h generalizing n with
 |nil=>simp;exact .nil|cons a b ih=>cases n with
  |zero=>exact .cons a b|succ n=>exact ih n
def fU.get{α β:Type}{R:α->β->Prop}{as:List α}{bs:List β}(h:fU R as bs){i:Nat}{a:α}(c:as[i]?=some a):∃b,bs[i]?=some b/\R a b:=by
 induction h generalizing i with
 |nil=>simp at c
 |cons d _ ih=>grind
def fU.mem{α β:Type}{R:α->β->Prop}{as:List α}{bs:List β}(h:fU R as bs){b:β}(c:b∈bs):∃a∈as,R a b:=by
 induction h with
 |nil=>simp at c
 |cons d _ ih=>grind
def fU.wI{α α' β:Type}{R:α->β->Prop}{S:α'->β->Prop}{as:List α}{bs:List β}(f:α->α')(h:fU R as bs)(hs:∀a b,a∈as->R a b->S (f a) b):fU S (as.map f) bs:=by
 induction h with
 |nil=>exact .nil|cons c _ ih=>exact .cons (hs _ _ aaL c) (ih λa b d=>hs a b (by simp[d]))
abbrev jo:=Nat->Nat->Option Value
def jo.has(F:jo)(b o:Nat)(vs:List Value):Prop:=∀i v,vs[i]?=some v->F b (o+i)=some v
mutual
inductive fE (F:jo) (G:Nat->Nat) (n:Nat):AV->Value->Prop
 |undef {v}:v.oneCell'=true->fE F G n .undef v|sc {v}:vK v=true->fE F G n (.sc v) v|lx {x b o vs}:fG F G n x.cells vs->F.has b o vs->(∀c∈x.cells,c.fJ=true)->fE F G n (.lx x) (.pointer (some ⟨b,o,none⟩))|eb {o off}:o<n->fE F G n (.eb o off) (.pointer (some ⟨G o,off,none⟩))|iR {o}:o<n->fE F G n (.iR o) (.map (some (G o)))|qU {o off len cap}:o<n->len<=cap->cap<=maxLen->fE F G n (.qU o off len cap) (.slice (some ⟨G o,off,none⟩) len cap)|slice {tag l vs b o base cap sz}:fG F G n (l.flatMap AV.cells) vs->F.has b o vs->(l≠[]->base=some ⟨b,o,none⟩)->(∀x∈l,x.cells.length=sz)->(∀c∈l.flatMap AV.cells,c.fJ=true)->l.length<=cap->cap<=maxLen->tag=.iw\/tag=.full/\cap=l.length->fE F G n (.slice tag l) (.slice base l.length cap)|N' {base}:fE F G n .N' (.slice base 0 0)|agg {cs vs}:fG F G n cs vs->(∀c∈cs,c.fJ=true)->fE F G n (.agg cs) (.agg vs.toArray)|tuple {cs vs}:fG F G n cs vs->fE F G n (.tuple cs) (.tuple vs.toArray)|func {fn f c vf vc}:fG F G n f vf->fG F G n c vc->fE F G n (.func fn f c) (.func fn vf.toArray vc.toArray)|iface {t x v}:fE F G n x v->fE F G n (.iface t x) (.iface t v)
inductive fG (F:jo) (G:Nat->Nat) (n:Nat):List AV->List Value->Prop
 |nil:fG F G n [] []|cons {x v xs vs}:fE F G n x v->fG F G n xs vs->fG F G n (x::xs) (v::vs)
end
section
variable{F F':jo} {G G':Nat->Nat} {n n':Nat}
def fG.sW{xs vs}(h:fG F G n xs vs):fU (fE F G n) xs vs:=by
 induction xs generalizing vs with
 |nil=>cases h;exact .nil
 |cons x xs ih=>cases h with|cons a b=>exact .cons a (ih b)
def fG.ox{xs vs}(h:fU (fE F G n) xs vs):fG F G n xs vs:=by
 induction h with
 |nil=>exact .nil|cons a _ ih=>exact .cons a ih
structure Grow (F F':jo) (G G':Nat->Nat) (n n':Nat):Prop where
 mF:∀b o v,F b o=some v->F' b o=some v
 mn:n<=n'
 mG:∀o,o<n->G' o=G o
theorem Grow.refl:Grow F F G G n n:=⟨λ_ _ _ h=>h,gO _,λ_ _=>rfl⟩
def jo.has.grow{b o vs}(h:F.has b o vs)(hg:Grow F F' G G' n n'):F'.has b o vs:=λi v a=>hg.mF _ _ _ (h i v a)
mutual
def fE.grow(hg:Grow F F' G G' n n'):∀{x v},fE F G n x v->fE F' G' n' x v
 |_,_,.undef h=>.undef h|_,_,.sc h=>.sc h|_,_,.lx a b c=>.lx (a.grow hg) (b.grow hg) c|_,_,.eb (o:=o) (off:=off) h=>by
  rw[<-hg.mG o h];exact .eb (SX h hg.mn)
 |_,_,.iR (o:=o) h=>by
  rw[<-hg.mG o h];exact .iR (SX h hg.mn)
 |_,_,.qU (o:=o) h b c=>by
  rw[<-hg.mG o h];exact .qU (SX h hg.mn) b c
 |_,_,.slice a b c d f i j k=>.slice (a.grow hg) (b.grow hg) c d f i j k|_,_,.N'=>.N'|_,_,.agg a b=>.agg (a.grow hg) b|_,_,.tuple a=>.tuple (a.grow hg)|_,_,.func a b=>.func (a.grow hg) (b.grow hg)|_,_,.iface a=>.iface (a.grow hg)
def fG.grow(hg:Grow F F' G G' n n'):∀{xs vs},fG F G n xs vs->fG F' G' n' xs vs
 |_,_,.nil=>.nil|_,_,.cons a b=>.cons (a.grow hg) (b.grow hg)
end
def fE.Ki{x v}(h:fE F G n x v)(b:x.fJ=true):v.oneCell'=true:=by
 cases h with
 |undef h=>exact h|sc h=>revert h;cases v<;>simp[vK,Value.oneCell']
 |agg a c=>grind[AV.fJ]|tuple a=>grind[AV.fJ]|_=>rfl
theorem fE.cells{x v}(h:fE F G n x v)(l:∀vs,x≠ .tuple vs):fG F G n x.cells v.cells.toList:=by
 cases h with
 |undef h=>cases v<;>first|exact .cons (.undef h) .nil|(simp[Value.oneCell'] at h;done)
 |sc h=>cases v<;>first|exact .cons (.sc h) .nil|(simp[vK] at h;done)
 |lx a b c=>exact .cons (.lx a b c) .nil|eb a=>exact .cons (.eb a) .nil|iR a=>exact .cons (.iR a) .nil|qU a b c=>exact .cons (.qU a b c) .nil|slice a b c d f i j k=>exact .cons (.slice a b c d f i j k) .nil|N'=>exact .cons .N' .nil|agg a b=>exact a|tuple a=>grind|func a b=>exact .cons (.func a b) .nil|iface a=>exact .cons (.iface a) .nil
end
structure Maps where
 G:Nat->Nat
 n:Nat
 L:Nat->Nat->Nat
 lg:Nat->Nat
 A:Nat->Nat->Option (Nat×Nat×Nat)
 ag:Nat->Nat
def th(ρ:Maps)(k g:Nat)(l:List AV)(base:Option Addr)(cap:Nat):Prop:=
 match ρ.A k g with
 |none=>cap=l.length|some (b,c,sz)=>base=some ⟨b,0,none⟩/\cap=c/\∀x∈l,x.cells.length=sz
inductive iF (F:jo) (ρ:Maps):AV->Value->Prop
 |p {x v}:fE F ρ.G ρ.n x v->iF F ρ x v|gx {b g off}:g<=ρ.lg b->iF F ρ (.gx b g off) (.pointer (some ⟨ρ.L b g,off,none⟩))|loc {k g l base cap}:fE F ρ.G ρ.n (.slice .iw l) (.slice base l.length cap)->g<=ρ.ag k->th ρ k g l base cap->iF F ρ (.slice (.loc k g) l) (.slice base l.length cap)|vH {b g len cap}:g<=ρ.lg b->len<=cap->cap<=maxLen->iF F ρ (.vH b g len cap) (.slice (some ⟨ρ.L b g,0,none⟩) len cap)
inductive fv (F:jo) (ρ:Maps):AV->Value->Prop
 |cell {x v}:iF F ρ x v->fv F ρ x v|agg {cs vs}:fU (iF F ρ) cs vs->(∀c∈cs,c.fJ=true)->fv F ρ (.agg cs) (.agg vs.toArray)
structure tk (F F':jo) (ρ ρ':Maps):Prop where
 g:Grow F F' ρ.G ρ'.G ρ.n ρ'.n
 lg:∀b,ρ.lg b<=ρ'.lg b
 L:∀b g,g<=ρ.lg b->ρ'.L b g=ρ.L b g
 ag:∀k,ρ.ag k<=ρ'.ag k
 A:∀k g,g<=ρ.ag k->ρ'.A k g=ρ.A k g
section
variable{F F':jo} {ρ ρ':Maps}
def iF.grow(hg:tk F F' ρ ρ'){x v}(h:iF F ρ x v):iF F' ρ' x v:=by
 cases h with
 |p h=>exact .p (h.grow hg.g)|gx h=>
  rename_i b g off;rw[<-hg.L b g h];exact .gx (zS h (hg.lg b))
 |loc d a c=>
  refine .loc (d.grow hg.g) (zS a (hg.ag _)) ?_;unfold th;rw[hg.A _ _ a];exact c
 |vH h a c=>
  rename_i b g len cap;rw[<-hg.L b g h];exact .vH (zS h (hg.lg b)) a c
def fv.grow(hg:tk F F' ρ ρ'){x v}(h:fv F ρ x v):fv F' ρ' x v:=by
 cases h with
 |cell h=>exact .cell (h.grow hg)|agg a b=>exact .agg (a.mono λ_ _ _ h=>h.grow hg) b
def fv.p{x v}(h:fE F ρ.G ρ.n x v):fv F ρ x v:=.cell (.p h)
end
def AV.ke:AV->AV
 |.slice _ l=>.slice .iw l|.gx _ _ _=>.undef|.vH _ _ _ _=>.undef|x=>x
def AV.norm:AV->AV
 |.agg cs=>.agg (cs.map AV.ke)|x=>x.ke
section
variable{F F':jo} {ρ ρ':Maps}
def fE.iw{G:Nat->Nat}{n:Nat}{tag l v}(h:fE F G n (.slice tag l) v):fE F G n (.slice .iw l) v:=by
 cases h with
 |slice a b c d f i j k=>exact .slice a b c d f i j (.inl rfl)
def fE.ke{G:Nat->Nat}{n:Nat}{x v}(h:fE F G n x v):fE F G n x.ke v:=by
 cases x with
 |slice tag l=>exact h.iw|gx b g off=>cases h
 |vH b g len cap=>cases h
 |_=>exact h
def iF.ke{x v}(h:iF F ρ x v):fE F ρ.G ρ.n x.ke v:=by
 cases h with
 |p h=>exact h.ke|gx h=>exact .undef rfl|loc a b c=>exact a|vH a b c=>exact .undef rfl
theorem AV.Ed(x:AV):x.ke.fJ=x.fJ:=by cases x<;>rfl
def fv.norm{x v}(h:fv F ρ x v):fE F ρ.G ρ.n x.norm v:=by
 have d:∀{cs:List AV} {vs:List Value},fU (iF F ρ) cs vs->(∀c∈cs,c.fJ=true)->fE F ρ.G ρ.n (AV.agg cs).norm (.agg vs.toArray):=by
  intro cs vs f i;refine .agg (fG.ox (f.wI AV.ke λa b _ h=>h.ke)) ?_
  grind[AV.Ed]
 cases h with
 |agg f i=>grind|cell h=>
  cases x with
  |agg cs=>
   cases h with
   |p h=>
    cases h with
    |agg f i=>exact d (f.sW.mono λ_ _ _ h=>.p h) i
  |_=>exact h.ke
theorem fv.cells{x v}(h:fv F ρ x v)(d:∀vs,x≠ .tuple vs):fU (iF F ρ) x.cells v.cells.toList:=by
 cases h with
 |agg a b=>exact a|cell h=>
  cases h with
  |p h=>exact(h.cells d).sW.mono λ_ _ _ h=>.p h|gx h=>exact .cons (.gx h) .nil|loc a b c=>exact .cons (.loc a b c) .nil|vH a b c=>exact .cons (.vH a b c) .nil
def iF.Ki{x v}(h:iF F ρ x v)(a:x.fJ=true):v.oneCell'=true:=by
 cases h with
 |p h=>exact h.Ki a|gx h=>rfl|loc b c d=>rfl|vH b c d=>rfl
def fv.r7{x v}(h:fv F ρ x v)(f:∀vs,x≠ .tuple vs):∀c∈x.cells,c.fJ=true:=by
 cases h with
 |agg b a=>exact a|cell h=>
  cases h with
  |p h=>
   cases h with
   |agg b a=>exact a|tuple b=>grind|_=>simp[AV.cells,AV.fJ]
  |gx h=>simp[AV.cells,AV.fJ]|loc b a d=>simp[AV.cells,AV.fJ]|vH b a d=>simp[AV.cells,AV.fJ]
end
end Go.kC
namespace Go.kC
open Go
abbrev cZ:=List (List AV)
abbrev dt:=Nat->Option AV
structure Fr where
 env:Nat->AV
 box:Nat->Option (List AV)
 gen:Nat->Nat
 qd:Nat->Option Nat
 eg:Nat->Nat
def fO{α:Type}(f:Nat->α)(i:Nat)(x:α):Nat->α:=λj=>if j=i then x else f j
def Fr.put(fr:Fr)(d:Option Nat)(x:AV):Fr:=
 match d with
 |some d=>{fr with env:=fO fr.env d x}|none=>fr
section
variable(P:Program)
def ew(t:TypeId):Option (Bool×Nat):=
 match P.underlying t,P.info? t with
 |some d,some i=>some (match d with|.struct _|.array _ _=>true|_=>false,i.size)
 |_,_=>none
def zeroOf(t:TypeId):Option Value:=(P.info? t).bind (·.zero)
def dN(t i:Nat):Option (Nat×TypeId):=
 match P.underlying t with
 |some (.struct a)=>(a[i]?).map λf=>(f.offset,f.type)|_=>none
def Mj(t:TypeId):Option (Nat×TypeId):=
 match P.underlying t with
 |some (.array n e)=>some (n,e)|_=>none
def lB(t:TypeId)(cs:List AV)(off:Nat):Option AV:=
 match ew P t with
 |some (true,n)=>if off+n<=cs.length then some (.agg ((cs.drop off).take n))else none|some (false,_)=>cs[off]?|none=>none
def qG(t:TypeId)(x:AV):Bool:=
 match ew P t,x with
 |some (true,n),.agg cs=>cs.length==n|some (false,_),.agg _=>false|some (false,_),.tuple _=>false|some (false,_),.rG _ _=>false|some (false,_),.lM _ _ _=>false|some (false,_),_=>true|_,_=>false
end
def setCells(cs:List AV)(off:Nat)(new:List AV):List AV:=cs.take off++new++cs.drop (off+new.length)
def pN:Value->AV
 |.slice none 0 0=>.slice .full []|.func fn f c=>if f.size=0/\c.size=0 then .func fn [] [] else .undef|.agg _=>.undef|.tuple _=>.undef|v=>if vK v then .sc v else .undef
def ofValue:Value->AV
 |.agg cs=>.agg (cs.toList.map pN)|.tuple cs=>.tuple (cs.toList.map pN)|v=>pN v
def xA:Value->Bool
 |.agg cs=>cs.all (·.oneCell')|.tuple cs=>cs.all (·.oneCell')|_=>true
def xB(v:Value):(pN v).fJ=true:=by
 unfold pN
 split<;>first|rfl|(split<;>rfl)
def Ee(F:jo)(G:Nat->Nat)(n:Nat)(v:Value)(h:v.oneCell'=true):fE F G n (pN v) v:=by
 unfold pN
 split
 .exact .slice (l:=[]) (vs:=[]) (b:=0) (o:=0) (sz:=0) .nil (λ_ _ h=>by simp at h) aaL aaL aaL aaL (by simp[maxLen]) (.inr ⟨rfl,rfl⟩)
 .rename_i fn f c
  split
  .rename_i hs;obtain⟨a,d⟩:=hs;have i:f=#[]:=acB a;have j:c=#[]:=acB d;subst i;subst j;exact .func (vf:=[]) (vc:=[]) .nil .nil
  .exact .undef rfl
 .simp[Value.oneCell'] at h
 .simp[Value.oneCell'] at h
 .split
  .exact .sc (by assumption)
  .exact .undef h
def pW(F:jo)(G:Nat->Nat)(n:Nat):∀(vs:List Value),(∀v∈vs,v.oneCell'=true)->fG F G n (vs.map pN) vs
 |[],_=>.nil|v::vs,h=>.cons (Ee F G n v (h v aaL)) (pW F G n vs λu hu=>h u (by simp[hu]))
def D9{v:Value}(h:v.oneCell'=true):ofValue v=pN v:=by
 cases v<;>first|rfl|(simp[Value.oneCell'] at h)
def xi(F:jo)(G:Nat->Nat)(n:Nat)(v:Value)(h:xA v=true):fE F G n (ofValue v) v:=by
 cases v with
 |agg cs=>
  have b:∀v∈cs.toList,v.oneCell'=true:=λv d=>by
   have f:cs.all (·.oneCell')=true:=h
   exact Fs.1 f v (wU.1 d)
  exact .agg (vs:=cs.toList) (pW F G n cs.toList b) (by
   intro c i;obtain⟨a,_,rfl⟩:=nw.1 i
   exact xB a)
 |tuple cs=>
  have b:∀v∈cs.toList,v.oneCell'=true:=λv d=>by
   have f:cs.all (·.oneCell')=true:=h
   exact Fs.1 f v (wU.1 d)
  exact .tuple (vs:=cs.toList) (pW F G n cs.toList b)
 |_=>(rw[D9 rfl];exact Ee F G n _ rfl)
section
variable(T:dt) (fr:Fr)
def ev:Operand->AV
 |.tmp t=>fr.env t|.const v=>ofValue v|.global g=>match T g with|some x=>.lx x|none=>.undef
 |.func f=>.func (.func f) [] []
def iv:Operand->Bool
 |.const v=>xA v|_=>true
end
def r8(F:jo)(ρ:Maps)(fr:Fr)(a:Act):Prop:=∀t,fv F ρ (fr.env t) (a.tmps.getD t undef)
def xe(T:dt)(F:jo)(ρ:Maps):Prop:=∀g x,T g=some x->fE F ρ.G ρ.n (.lx x) (.pointer (some ⟨g,0,none⟩))
def fA{T:dt}{fr:Fr}{F:jo}{ρ:Maps}{a:Act}(he:r8 F ρ fr a)(b:xe T F ρ)(x:Operand)(c:iv x=true):fv F ρ (ev T fr x) (a.eval x):=by
 cases x with
 |tmp t=>exact he t|const v=>exact .p (xi _ _ _ v c)|global g=>
  show fv F ρ (match T g with|some x=>.lx x|none=>.undef) _;cases h:T g with
  |none=>exact .p (.undef rfl)|some x=>exact .p (b g x h)
 |func f=>exact .p (.func (vf:=[]) (vc:=[]) .nil .nil)
def pP(op:BinOp)(k:IntKind)(a b:Int):Option Value:=
 match op with
 |.add=>some (.int k (k.wrap (a+b)))|.sub=>some (.int k (k.wrap (a-b)))|.mul=>some (.int k (k.wrap (a*b)))|.quo=>if b=0 then none else some (.int k (k.wrap (a.tdiv b)))|.rem=>if b=0 then none else some (.int k (a.tmod b))|.and=>some (.int k (k.wrap (BitVec.ofInt k.bits a&&&BitVec.ofInt k.bits b).toNat))|.or=>some (.int k (k.wrap (BitVec.ofInt k.bits a|||BitVec.ofInt k.bits b).toNat))|.xor=>some (.int k (k.wrap (BitVec.ofInt k.bits a^^^BitVec.ofInt k.bits b).toNat))|.andNot=>some (.int k (k.wrap (BitVec.ofInt k.bits a&&&~~~BitVec.ofInt k.bits b).toNat))|.eql=>some (.bool (a==b))|.neq=>some (.bool (a !=b))|.lss=>some (.bool (a<b))|.leq=>some (.bool (a<=b))|.gtr=>some (.bool (a>b))|.geq=>some (.bool (a>=b))|_=>none
def Fw(op:BinOp)(x y:ByteArray):Option Value:=
 match op with
 |.add=>if((x.size+y.size:Nat):Int)>IntKind.i64.max then none else some (.string (x++y))|.eql=>some (.bool (x.toList==y.toList))|.neq=>some (.bool !(x.toList==y.toList))|.lss=>some (.bool (Op.bytesLess x.toList y.toList))|.leq=>some (.bool (Op.bytesLess x.toList y.toList||x.toList==y.toList))|.gtr=>some (.bool !(Op.bytesLess x.toList y.toList||x.toList==y.toList))|.geq=>some (.bool !(Op.bytesLess x.toList y.toList))|_=>none
def Bs:AV->Bool
 |.lx _|.gx _ _ _|.eb _ _=>true|_=>false
def oD(P:Program)(op:BinOp)(t:TypeId)(x y:AV):Option AV:=
 match op,x,y with
 |.shl,.sc (.int k a),.sc (.int _ b)=>if b<0 then none else some (.sc (.int k (k.wrap (a*2^min b.toNat k.bits))))|.shr,.sc (.int k a),.sc (.int _ b)=>if b<0 then none else some (.sc (.int k (a.fdiv (2^min b.toNat k.bits))))|op,.sc (.int k a),.sc (.int k' b)=>if k=k' then(pP op k a b).map .sc else none|op,.sc (.string a),.sc (.string b)=>(Fw op a b).map .sc|.eql,.sc (.bool a),.sc (.bool b)=>match P.underlying t with|some .bool=>some (.sc (.bool (a==b)))|_=>none
 |.neq,.sc (.bool a),.sc (.bool b)=>match P.underlying t with|some .bool=>some (.sc (.bool (!(a==b))))|_=>none
 |.eql,x,.sc (.pointer none)=>match P.underlying t with
  |some (.pointer _)=>if Bs x then some (.sc (.bool false))else(match x with|.sc (.pointer none)=>some (.sc (.bool true))|_=>none)
  |_=>none
 |.neq,x,.sc (.pointer none)=>match P.underlying t with
  |some (.pointer _)=>if Bs x then some (.sc (.bool true))else(match x with|.sc (.pointer none)=>some (.sc (.bool false))|_=>none)
  |_=>none
 |.eql,.func _ _ _,.sc .nilFunc=>match P.underlying t with|some (.func ..)=>some (.sc (.bool false))|_=>none
 |.neq,.func _ _ _,.sc .nilFunc=>match P.underlying t with|some (.func ..)=>some (.sc (.bool true))|_=>none
 |.eql,.sc .nilFunc,.sc .nilFunc=>match P.underlying t with|some (.func ..)=>some (.sc (.bool true))|_=>none
 |.neq,.sc .nilFunc,.sc .nilFunc=>match P.underlying t with|some (.func ..)=>some (.sc (.bool false))|_=>none
 |_,_,_=>none
def unA(op:UnOp)(x:AV):Option AV:=
 match op,x with
 |.neg,.sc (.int k n)=>some (.sc (.int k (k.wrap (0-n))))|.not,.sc (.bool b)=>some (.sc (.bool !b))|_,_=>none
def e9{F:jo}{ρ:Maps}{u v:Value}(h:fv F ρ (.sc u) v):v=u:=by
 cases h with
 |cell h=>cases h with|p h=>cases h;rfl
def FN(P:Program)(w:World){op:BinOp}{k:IntKind}{a b:Int}{v:Value}(t:TypeId)(h:pP op k a b=some v):(binOp op t (.int k a) (.int k b)).run P w=.ok v w/\vK v=true:=by
 cases op<;>simp only[pP] at h<;>(try(split at h))<;>
  (first
   |(cases h;refine⟨?_,rfl⟩;simp[binOp,Op.intArith,Op.intBits,Op.intCmp,Op.intDiv, *])
   |cases h)
def F5(P:Program)(w:World){op:BinOp}{a b:ByteArray}{v:Value}(t:TypeId)(h:Fw op a b=some v):(binOp op t (.string a) (.string b)).run P w=.ok v w/\vK v=true:=by
 cases op<;>simp only[Fw] at h<;>(try(split at h))<;>
  (first
   |(cases h;refine⟨?_,rfl⟩;simp_all [binOp,Op.stringOp])
   |cases h)
def Ds{F:jo}{ρ:Maps}{x:AV}{v:Value}(b:Bs x=true)(h:fv F ρ x v):∃a,v=.pointer (some a):=by
 cases h with
 |agg c d=>grind[Bs]|cell h=>
  cases h with
  |gx h=>grind|loc c d f=>simp[Bs] at b
  |vH c d f=>simp[Bs] at b
  |p h=>cases h<;>first|(simp[Bs] at b;done)|exact⟨_,rfl⟩
def xH{P:Program}{t e:TypeId}(h:P.underlying t=some (.pointer e)):P.underlying t=some (.pointer (P.pointee t)):=by
 simp[Program.pointee,h]
def zu{F:jo}{ρ:Maps}{fn:Fn}{f c:List AV}{v:Value}(h:fv F ρ (.func fn f c) v):∃vf vc:List Value,v=.func fn vf.toArray vc.toArray/\fU (fE F ρ.G ρ.n) f vf/\fU (fE F ρ.G ρ.n) c vc:=by
 cases h with
 |cell h=>cases h with
  |p h=>cases h with|func a b=>exact⟨_,_,rfl,a.sW,b.sW⟩
def Qo(P:Program)(w:World){t:TypeId}{ps rs:Array TypeId}{b:Bool}(hu:P.underlying t=some (.func ps rs b))(fn:Fn)(f c:Array Value):(binOp .eql t (.func fn f c) .nilFunc).run P w=.ok (.bool false) w/\(binOp .neq t (.func fn f c) .nilFunc).run P w=.ok (.bool true) w:=by
 have h:∀d,(Op.equalIn (d+1) t (.func fn f c) .nilFunc).run P w=.ok false w:=λd=>by simp[Op.equalIn,run_underlying hu]
 have a:binOp .eql t (.func fn f c) .nilFunc=(do pure (.bool (<-Op.equalIn (9999+1) t (.func fn f c) .nilFunc))):=rfl;have i:binOp .neq t (.func fn f c) .nilFunc=(do pure (.bool (!(<-Op.equalIn (9999+1) t (.func fn f c) .nilFunc)))):=rfl;rw[a,i,gk,gk,h 9999];exact⟨rfl,rfl⟩
def Qx(P:Program)(w:World){t:TypeId}{ps rs:Array TypeId}{b:Bool}(hu:P.underlying t=some (.func ps rs b)):(binOp .eql t .nilFunc .nilFunc).run P w=.ok (.bool true) w/\(binOp .neq t .nilFunc .nilFunc).run P w=.ok (.bool false) w:=by
 have h:∀d,(Op.equalIn (d+1) t .nilFunc .nilFunc).run P w=.ok true w:=λd=>by simp[Op.equalIn,run_underlying hu]
 have a:binOp .eql t .nilFunc .nilFunc=(do pure (.bool (<-Op.equalIn (9999+1) t .nilFunc .nilFunc))):=rfl;have c:binOp .neq t .nilFunc .nilFunc=(do pure (.bool (!(<-Op.equalIn (9999+1) t .nilFunc .nilFunc)))):=rfl;rw[a,c,gk,gk,h 9999];exact⟨rfl,rfl⟩
def La:Value->Bool
 |.nilIface=>false|.agg _=>false|_=>true
def LG(P:Program)(w:World)(op:BinOp)(t:TypeId)(x y:Operand){u v:Value}(h:La u=true):(eqGuard op t x y u v).run P w=.ok () w:=by
 cases u<;>first|(simp[La] at h;done)|(cases op<;>rfl)
def RG(P:Program)(w:World){F:jo}{ρ:Maps}{op:BinOp}{t:TypeId}{x y r:AV}{u v:Value}(h:oD P op t x y=some r)
  (b:fv F ρ x u) (hy:fv F ρ y v):∃z,(binOp op t u v).run P w=.ok z w/\r=.sc z/\vK z=true/\La u=true:=by
 unfold oD at h
 split at h
 .cases e9 b;cases e9 hy
  split at h
  .cases h
  .rename_i c;cases h;exact⟨_,by simp[binOp,Op.shift,c],rfl,rfl,rfl⟩
 .cases e9 b;cases e9 hy
  split at h
  .cases h
  .rename_i c;cases h;exact⟨_,by simp[binOp,Op.shift,c],rfl,rfl,rfl⟩
 .cases e9 b;cases e9 hy
  split at h
  .rename_i f;subst f;cases hi:pP op _ _ _ with
   |none=>rw[hi] at h;cases h
   |some z=>
    rw[hi] at h;cases h;exact⟨z,(FN P w t hi).1,rfl,(FN P w t hi).2,rfl⟩
  .cases h
 .cases e9 b;cases e9 hy;cases hi:Fw op _ _ with
  |none=>rw[hi] at h;cases h
  |some z=>
   rw[hi] at h;cases h;exact⟨z,(F5 P w t hi).1,rfl,(F5 P w t hi).2,rfl⟩
 .cases e9 b;cases e9 hy
  split at h
  .rename_i hu;cases h;exact⟨_,run_eql_bool w t _ _ hu,rfl,rfl,rfl⟩
  .cases h
 .cases e9 b;cases e9 hy
  split at h
  .rename_i hu;cases h;exact⟨_,run_neq_bool w t _ _ hu,rfl,rfl,rfl⟩
  .cases h
 .cases e9 hy
  split at h
  .rename_i hu
   split at h
   .rename_i d;obtain⟨a,rfl⟩:=Ds d b;cases h;exact⟨_,run_eql_pointer_nil w t _ (xH hu),aaL,rfl,rfl⟩
   .split at h
    .cases e9 b;cases h;exact⟨_,run_eql_pointer_nil w t _ (xH hu),aaL,rfl,rfl⟩
    .cases h
  .cases h
 .cases e9 hy
  split at h
  .rename_i hu
   split at h
   .rename_i d;obtain⟨a,rfl⟩:=Ds d b;cases h;exact⟨_,run_neq_pointer_nil w t _ (xH hu),aaL,rfl,rfl⟩
   .split at h
    .cases e9 b;cases h;exact⟨_,run_neq_pointer_nil w t _ (xH hu),aaL,rfl,rfl⟩
    .cases h
  .cases h
 .cases e9 hy;obtain⟨vf,vc,rfl,_,_⟩:=zu b
  split at h
  .rename_i hu;cases h;exact⟨.bool false,(Qo P w hu _ _ _).1,rfl,rfl,rfl⟩
  .cases h
 .cases e9 hy;obtain⟨vf,vc,rfl,_,_⟩:=zu b
  split at h
  .rename_i hu;cases h;exact⟨.bool true,(Qo P w hu _ _ _).2,rfl,rfl,rfl⟩
  .cases h
 .cases e9 b;cases e9 hy
  split at h
  .rename_i hu;cases h;exact⟨.bool true,(Qx P w hu).1,rfl,rfl,rfl⟩
  .cases h
 .cases e9 b;cases e9 hy
  split at h
  .rename_i hu;cases h;exact⟨.bool false,(Qx P w hu).2,rfl,rfl,rfl⟩
  .cases h
 .cases h
end Go.kC
namespace Go.kC
open Go
def ni{l:List AV}{sz:Nat}(h:∀x∈l,x.cells.length=sz):(l.flatMap AV.cells).length=l.length*sz:=by
 induction l with
 |nil=>simp|cons x l ih=>grind
def Ce{l:List AV}{sz:Nat}(h:∀x∈l,x.cells.length=sz)(n:Nat):(l.take n).flatMap AV.cells=(l.flatMap AV.cells).take (n*sz):=by
 induction l generalizing n with
 |nil=>simp|cons x l ih=>
  cases n with
  |zero=>simp|succ n=>
   have a:=h x aaL
   rw[List.take_succ_cons,Fp,Fp,ih (λy hy=>h y (by simp[hy])),AO,Yq,List.take_append,a,List.take_of_length_le (l:=x.cells) VW,acM]
def xm{l:List AV}{sz:Nat}(h:∀x∈l,x.cells.length=sz)(n:Nat):(l.drop n).flatMap AV.cells=(l.flatMap AV.cells).drop (n*sz):=by
 induction l generalizing n with
 |nil=>simp|cons x l ih=>
  cases n with
  |zero=>simp|succ n=>
   have a:=h x aaL
   rw[List.drop_succ_cons,Fp,ih (λy hy=>h y (by simp[hy])),AO,Yq,abC,a,HE (as:=x.cells) VW,acM,od]
def ME{l:List AV}{sz:Nat}(h:∀x∈l,x.cells.length=sz){i:Nat}{x:AV}(hi:l[i]?=some x):((l.flatMap AV.cells).drop (i*sz)).take sz=x.cells:=by
 have b:=xm h i;have a:i<l.length:=(mI.1 hi).1
 have c:l.drop i=x::l.drop (i+1):=by
  have:=Ko a
  grind
 grind
def jo.has.drop{F:jo}{b o:Nat}{vs:List Value}(h:F.has b o vs)(n:Nat):F.has b (o+n) (vs.drop n):=by
 intro i v a;rw[Sx] at a;have:=h _ v a
 grind
def jo.has.take{F:jo}{b o:Nat}{vs:List Value}(h:F.has b o vs)(n:Nat):F.has b o (vs.take n):=by
 intro i v a;rw[Nu] at a
 split at a
 .exact h i v a
 .cases a
section
variable{F:jo} {G:Nat->Nat} {n:Nat}
def fG.drop{xs vs}(h:fG F G n xs vs)(k:Nat):fG F G n (xs.drop k) (vs.drop k):=.ox (h.sW.drop k)
def fG.take{xs vs}(h:fG F G n xs vs)(k:Nat):fG F G n (xs.take k) (vs.take k):=.ox (h.sW.take k)
def fG.get{xs vs}(h:fG F G n xs vs){i:Nat}{x:AV}(a:xs[i]?=some x):∃v,vs[i]?=some v/\fE F G n x v:=h.sW.get a
def fG.length{xs vs}(h:fG F G n xs vs):xs.length=vs.length:=h.sW.length
def fG.append{xs vs a vs'}(h:fG F G n xs vs)(b:fG F G n a vs'):fG F G n (xs++a) (vs++vs'):=.ox (h.sW.append b.sW)
end
def AV.cells_one{x:AV}(h:x.fJ=true):x.cells=[x]:=by cases x<;>first|rfl|(simp[AV.fJ] at h)
section
variable{P:Program}
def DZ{t:TypeId}{b:Bool}{n:Nat}(h:ew P t=some (b,n)):∃d i,P.underlying t=some d/\P.info? t=some i/\i.size=n/\(match d with|.struct _|.array _ _=>true|_=>false)=b:=by grind[ew]
def jR{t:TypeId}{b:Bool}{n:Nat}(h:ew P t=some (b,n))(w:World):(sizeOf t).run P w=.ok n w:=by
 obtain⟨d,i,a,hi,hn,_⟩:=DZ h;simp[sizeOf,typeInfo,hi,hn]
def xd{t:TypeId}{b:Bool}{n:Nat}(h:ew P t=some (b,n))(w:World):(isAgg t).run P w=.ok b w:=by
 obtain⟨d,i,a,hi,hn,c⟩:=DZ h;subst c;unfold isAgg;rw[gk,run_underlying a];cases d<;>rfl
def yk{t:TypeId}{cs:List AV}{off:Nat}{z:AV}(h:lB P t cs off=some z):(∃k,ew P t=some (true,k)/\off+k<=cs.length/\z=.agg ((cs.drop off).take k))\/(∃k,ew P t=some (false,k)/\cs[off]?=some z):=by grind[lB]
def xJ{t:TypeId}{k:Nat}(h:ew P t=some (true,k))(w:World)(a:Addr)(vs:List Value)(b:vs.length=k)
  (c:∀j v,vs[j]?=some v->w.cell? (a.add j)=some v):(loadVar t a).run P w=.ok (.agg vs.toArray) w:=by
 unfold loadVar;rw[gk,xd h];simp only[jj,if_true];rw[gk,jR h,jj,gk,<-b,run_loadCells_list w a vs c];rfl
def xM{t:TypeId}{k:Nat}(h:ew P t=some (false,k))(w:World)(a:Addr)(v:Value)(b:w.cell? a=some v):(loadVar t a).run P w=.ok v w:=by
 unfold loadVar;rw[gk,xd h]
 simp_all
end
def qt(P:Program)(t:TypeId)(x:AV)(i:Nat):Option AV:=
 match dN P t i with
 |none=>none|some (off,a)=>
  match ew P a with
  |none=>none|some (_,n)=>
   if n=0 then none else
   match x with
   |.gx b g o=>some (.gx b g (o+off))|.eb o f=>some (.eb o (f+off))|.lx y=>(lB P a y.cells off).map .lx|_=>none
def A_(P:Program)(t:TypeId)(x:AV)(i:Nat):Option AV:=
 match dN P t i,x with
 |some (off,a),.agg cs=>lB P a cs off|_,_=>none
def fp(P:Program)(t:TypeId)(x i:AV):Option AV:=
 match i with
 |.sc (.int _ n)=>
  match P.underlying t,x with
  |some (.slice e),.slice _ l=>
   if 0<=n then
    match l[n.toNat]?,ew P e with
    |some y,some (_,sz)=>if y.cells.length=sz then some (.lx y)else none|_,_=>none
   else none
  |some (.slice e),.vH b g len _=>
   match ew P e with
   |some (_,sz)=>if 0<=n/\n<len then some (.gx b g (n.toNat*sz))else none|none=>none
  |some (.slice e),.qU b off len _=>
   match ew P e with
   |some (_,sz)=>if 0<=n/\n<len then some (.eb b (off+n.toNat*sz))else none|none=>none
  |some (.array len e),.gx b g o=>
   match ew P e with
   |some (_,sz)=>if 0<=n/\n<len then some (.gx b g (o+n.toNat*sz))else none|none=>none
  |some (.array len e),.eb ob o=>
   match ew P e with
   |some (_,sz)=>if 0<=n/\n<len then some (.eb ob (o+n.toNat*sz))else none|none=>none
  |some (.array len e),.lx y=>
   match ew P e with
   |some (_,sz)=>if 0<=n/\n<len then(lB P e y.cells (n.toNat*sz)).map .lx else none|none=>none
  |_,_=>none
 |_=>none
def PV(P:Program)(t:TypeId)(x i:AV):Option AV:=
 match i with
 |.sc (.int _ n)=>
  match P.underlying t,x with
  |some .string,.sc (.string s)=>if 0<=n then(s[n.toNat]?).map λb=>.sc (.int .u8 b.toNat)else none|some (.array len e),.agg cs=>
   match ew P e with
   |some (_,sz)=>if 0<=n/\n<len then lB P e cs (n.toNat*sz)else none|none=>none
  |_,_=>none
 |_=>none
section
variable{P:Program} {F:jo} {ρ:Maps}
def B3{cs:List AV}{v:Value}(h:fv F ρ (.agg cs) v):∃vs:List Value,v=.agg vs.toArray/\fU (iF F ρ) cs vs/\∀c∈cs,c.fJ=true:=by
 cases h with
 |agg a b=>grind|cell h=>cases h with
  |p h=>cases h with|agg a b=>exact⟨_,rfl,a.sW.mono λ_ _ _ h=>.p h,b⟩
def Qd{cs:List AV}{v:Value}(h:fv F ρ (.tuple cs) v):∃vs:List Value,v=.tuple vs.toArray/\fU (fE F ρ.G ρ.n) cs vs:=by
 cases h with
 |cell h=>cases h with
  |p h=>cases h with|tuple a=>exact⟨_,rfl,a.sW⟩
def wq{b g off:Nat}{v:Value}(h:fv F ρ (.gx b g off) v):v=.pointer (some ⟨ρ.L b g,off,none⟩)/\g<=ρ.lg b:=by
 cases h with
 |cell h=>cases h with
  |p h=>cases h
  |gx h=>grind
def tN{o off:Nat}{v:Value}(h:fv F ρ (.eb o off) v):v=.pointer (some ⟨ρ.G o,off,none⟩)/\o<ρ.n:=by
 cases h with
 |cell h=>cases h with
  |p h=>cases h with|eb h=>exact⟨rfl,h⟩
def Dj{x:AV}{v:Value}(h:fv F ρ (.lx x) v):∃b o vs,v=.pointer (some ⟨b,o,none⟩)/\fG F ρ.G ρ.n x.cells vs/\F.has b o vs/\∀c∈x.cells,c.fJ=true:=by
 cases h with
 |cell h=>cases h with
  |p h=>cases h with|lx a d f=>exact⟨_,_,_,rfl,a,d,f⟩
def yF{b g len cap:Nat}{v:Value}(h:fv F ρ (.vH b g len cap) v):v=.slice (some ⟨ρ.L b g,0,none⟩) len cap/\g<=ρ.lg b/\len<=cap/\cap<=maxLen:=by
 cases h with
 |cell h=>cases h with
  |p h=>cases h
  |vH a c d=>grind
def BY{o off len cap:Nat}{v:Value}(h:fv F ρ (.qU o off len cap) v):v=.slice (some ⟨ρ.G o,off,none⟩) len cap/\o<ρ.n/\len<=cap/\cap<=maxLen:=by
 cases h with
 |cell h=>cases h with
  |p h=>cases h with|qU a b c=>exact⟨rfl,a,b,c⟩
structure Y2 (F:jo) (ρ:Maps) (l:List AV) (base:Option Addr) (cap b o sz:Nat) (vs:List Value):Prop where
 cells:fG F ρ.G ρ.n (l.flatMap AV.cells) vs
 has:F.has b o vs
 base:l≠[]->base=some ⟨b,o,none⟩
 sz:∀x∈l,x.cells.length=sz
 r7:∀c∈l.flatMap AV.cells,c.fJ=true
 zO:l.length<=cap
 xI:cap<=maxLen
def fE.JK{G:Nat->Nat}{n:Nat}{tag:Tag}{l:List AV}{v:Value}(h:fE F G n (.slice tag l) v):∃base cap b o sz vs,v=.slice base l.length cap/\fG F G n (l.flatMap AV.cells) vs/\F.has b o vs/\(l≠[]->base=some ⟨b,o,none⟩)/\(∀x∈l,x.cells.length=sz)/\(∀c∈l.flatMap AV.cells,c.fJ=true)/\l.length<=cap/\cap<=maxLen/\(tag=.iw\/tag=.full/\cap=l.length):=by
 cases h with|slice a d f i j k q r=>exact⟨_,_,_,_,_,_,rfl,a,d,f,i,j,k,q,r⟩
def mz{tag:Tag}{l:List AV}{v:Value}(h:fv F ρ (.slice tag l) v):∃base cap b o sz vs,v=.slice base l.length cap/\Y2 F ρ l base cap b o sz vs/\(tag=.full->cap=l.length)/\(∀k g,tag=.loc k g->g<=ρ.ag k/\th ρ k g l base cap):=by
 cases h with
 |cell h=>cases h with
  |p h=>
   obtain⟨base,cap,b,o,sz,vs,rfl,a,q,r,c,d,f,i,s⟩:=h.JK;refine⟨base,cap,b,o,sz,vs,rfl,⟨a,q,r,c,d,f,i⟩,?_,?_⟩
   all_goals grind
  |loc a q r=>
   obtain⟨base,cap,b,o,sz,vs,he,a,j,n,c,d,f,i,s⟩:=a.JK;injection he with t w u;subst t;subst u;refine⟨_,_,b,o,sz,vs,rfl,⟨a,j,n,c,d,f,i⟩,(by intro h;cases h),?_⟩
   grind
def JN{G:Nat->Nat}{n:Nat}{cs:List AV}{vs:List Value}{b o:Nat}{t:TypeId}{off:Nat}{z:AV}(f:fG F G n cs vs)(h:F.has b o vs)(j:∀c∈cs,c.fJ=true)
  (l:lB P t cs off=some z):fE F G n (.lx z) (.pointer (some ⟨b,o+off,none⟩)):=by
 rcases yk l with⟨k,q,hle,rfl⟩|⟨k,q,d⟩
 .exact .lx ((f.drop off).take k) ((h.drop off).take k) (λc d=>j c (Hc (AF d)))
 .obtain⟨v,r,s⟩:=f.get d;have a:=j z (CO d);refine .lx (vs:=[v]) (by rw[AV.cells_one a];exact .cons s .nil) ?_ (by rw[AV.cells_one a];simpa using a);intro i u hu;cases i with
  |zero=>simp at hu;subst hu;exact h off _ r
  |succ i=>simp at hu
def Ix(w:World){t:TypeId}{x r:AV}{u:Value}{i:Nat}(h:qt P t x i=some r)(c:fv F ρ x u):∃v,(Instr.fieldAt t u i).run P w=.ok v w/\fv F ρ r v:=by
 unfold qt at h
 split at h
 .cases h
 .rename_i off l C
  split at h
  .cases h
  .rename_i agg n q
   split at h
   .cases h
   .rename_i hn
    have a:∃d f,P.underlying t=some (.struct d)/\d[i]?=some f/\f.offset=off/\f.type=l:=by grind[dN]
    obtain⟨d,f,hu,j,rfl,rfl⟩:=a
    have key:∀b o:Nat,(Instr.fieldAt t (.pointer (some ⟨b,o,none⟩)) i).run P w=.ok (.pointer (some ⟨b,o+f.offset,none⟩)) w:=by
     intro b o;unfold Instr.fieldAt;rw[gk,run_underlying hu,jj];simp only[j,Instr.sureAddr,gk,oA,jj,fieldPlace,jR q,hn,lL,Addr.add_lit]
    split at h
    .rename_i b g o;cases h;obtain⟨rfl,hg⟩:=wq c;exact⟨_,key _ _,.cell (.gx hg)⟩
    .rename_i o D;cases h;obtain⟨rfl,hg⟩:=tN c;exact⟨_,key _ _,.p (.eb hg)⟩
    .rename_i y;obtain⟨b,o,vs,rfl,s,A,B⟩:=Dj c;cases k:lB P f.type y.cells f.offset with
     |none=>rw[k] at h;cases h
     |some z=>
      rw[k] at h;cases h;exact⟨_,key _ _,.p (JN s A B k)⟩
    .cases h
def Bm(w:World){t:TypeId}{cs:List AV}{vs:List Value}{off:Nat}{z:AV}(d:fU (iF F ρ) cs vs)(f:∀c∈cs,c.fJ=true)(h:lB P t cs off=some z):∃v,(part t vs.toArray off).run P w=.ok v w/\fv F ρ z v:=by
 rcases yk h with⟨k,a,hle,rfl⟩|⟨k,a,b⟩
 .refine⟨.agg ((vs.drop off).take k).toArray,?_,.agg ((d.drop off).take k) (λc b=>f c (Hc (AF b)))⟩;unfold part;rw[gk,xd a];simp only[jj,if_true,gk,jR a,oA]
  grind
 .obtain⟨v,i,j⟩:=d.get b;refine⟨v,?_,.cell j⟩;unfold part;rw[gk,xd a];simp[i]
def RP(w:World){t:TypeId}{x r:AV}{u:Value}{i:Nat}(h:A_ P t x i=some r)(d:fv F ρ x u):∃v,(Instr.field t u i).run P w=.ok v w/\fv F ρ r v:=by
 unfold A_ at h
 split at h
 .rename_i off j cs q;obtain⟨vs,rfl,k,l⟩:=B3 d
  have a:∃b f,P.underlying t=some (.struct b)/\b[i]?=some f/\f.offset=off/\f.type=j:=by grind[dN]
  obtain⟨b,f,hu,c,rfl,rfl⟩:=a;obtain⟨v,n,o⟩:=Bm w k l h;refine⟨v,?_,o⟩;unfold Instr.field;rw[gk,run_underlying hu];simp only[c,asAgg,gk,oA,jj,n]
 .cases h
def H5(w:World){t:TypeId}{x i r:AV}{u j:Value}(h:fp P t x i=some r)(q:fv F ρ x u)(hi:fv F ρ i j):∃v,(Instr.indexAt t u j).run P w=.ok v w/\fv F ρ r v:=by
 unfold fp at h
 split at h
 .rename_i k n;cases e9 hi
  split at h
  .rename_i e tag l hu
   split at h
   .rename_i hn
    split at h
    .rename_i y agg sz hy a
     split at h
     .rename_i A;cases h;obtain⟨base,cap,b,o,d,vs,rfl,hs,_,_⟩:=mz q;have B:n.toNat<l.length:=(mI.1 hy).1
      have C:l≠[]:=by rintro rfl;simp at B
      have f:=CO hy
      have s:d=sz:=by rw[<-hs.sz y f,A]
      subst s;rw[hs.base C];refine⟨.pointer (some ⟨b,o+n.toNat*d,none⟩),?_,.p (.lx (vs:=(vs.drop (n.toNat*d)).take d) ?_ ?_ ?_)⟩
      .unfold Instr.indexAt;simp only[asIntOf,gk,oA,jj,run_underlying hu];rw[cS ⟨hn,VW⟩];simp only[gk,oA,jj,jR a,Addr.add_lit]
      .rw[<-ME hs.sz hy];exact(hs.cells.drop _).take _
      .exact(hs.has.drop _).take _
      .intro c H;exact hs.r7 c (Wk.2 ⟨y,f,H⟩)
     .cases h
    .cases h
   .cases h
  .rename_i e b g len cap hu
   split at h
   .rename_i agg sz a
    split at h
    .rename_i hn;cases h;obtain⟨rfl,hg,_,_⟩:=yF q;refine⟨.pointer (some ⟨ρ.L b g,n.toNat*sz,none⟩),?_,.cell (.gx hg)⟩;unfold Instr.indexAt;simp only[asIntOf,gk,oA,jj,run_underlying hu];rw[cS ⟨hn.1,VW⟩];simp only[gk,oA,jj,jR a,Addr.add_lit,tH]
    .cases h
   .cases h
  .rename_i e b off len cap hu
   split at h
   .rename_i agg sz a
    split at h
    .rename_i hn;cases h;obtain⟨rfl,hg,_,_⟩:=BY q;refine⟨.pointer (some ⟨ρ.G b,off+n.toNat*sz,none⟩),?_,.p (.eb hg)⟩;unfold Instr.indexAt;simp only[asIntOf,gk,oA,jj,run_underlying hu];rw[cS ⟨hn.1,VW⟩];simp only[gk,oA,jj,jR a,Addr.add_lit]
    .cases h
   .cases h
  .rename_i len e b g o hu
   split at h
   .rename_i agg sz a
    split at h
    .rename_i hn;cases h;obtain⟨rfl,hg⟩:=wq q;refine⟨.pointer (some ⟨ρ.L b g,o+n.toNat*sz,none⟩),?_,.cell (.gx hg)⟩;unfold Instr.indexAt;simp only[asIntOf,Instr.sureAddr,gk,oA,jj,run_underlying hu];rw[cS hn];simp only[gk,oA,jj,jR a,Addr.add_lit]
    .cases h
   .cases h
  .rename_i len e ob o hu
   split at h
   .rename_i agg sz a
    split at h
    .rename_i hn;cases h;obtain⟨rfl,hg⟩:=tN q;refine⟨.pointer (some ⟨ρ.G ob,o+n.toNat*sz,none⟩),?_,.p (.eb hg)⟩;unfold Instr.indexAt;simp only[asIntOf,Instr.sureAddr,gk,oA,jj,run_underlying hu];rw[cS hn];simp only[gk,oA,jj,jR a,Addr.add_lit]
    .cases h
   .cases h
  .rename_i len e y hu
   split at h
   .rename_i agg sz a
    split at h
    .rename_i hn;obtain⟨b,o,vs,rfl,I,J,K⟩:=Dj q;cases D:lB P e y.cells (n.toNat*sz)with
     |none=>rw[D] at h;cases h
     |some z=>
      rw[D] at h;cases h;refine⟨.pointer (some ⟨b,o+n.toNat*sz,none⟩),?_,.p (JN I J K D)⟩;unfold Instr.indexAt;simp only[asIntOf,Instr.sureAddr,gk,oA,jj,run_underlying hu];rw[cS hn];simp only[gk,oA,jj,jR a,Addr.add_lit]
    .cases h
   .cases h
  .cases h
 .cases h
def R9(w:World){t:TypeId}{x i r:AV}{u j:Value}(h:PV P t x i=some r)(c:fv F ρ x u)(hi:fv F ρ i j):∃v,(Instr.index t u j).run P w=.ok v w/\fv F ρ r v:=by
 unfold PV at h
 split at h
 .rename_i k n;cases e9 hi
  split at h
  .rename_i s hu;cases e9 c
   split at h
   .rename_i hn;cases a:s[n.toNat]?with
    |none=>rw[a] at h;cases h
    |some b=>
     rw[a] at h;cases h;refine⟨.int .u8 b.toNat,?_,.p (.sc rfl)⟩;unfold Instr.index;simp[asIntOf,run_underlying hu,hn,a]
   .cases h
  .rename_i len e cs hu
   split at h
   .rename_i agg sz d
    split at h
    .rename_i hn;obtain⟨vs,rfl,f,l⟩:=B3 c;obtain⟨v,o,q⟩:=Bm w f l h;refine⟨v,?_,q⟩;unfold Instr.index;simp only[asIntOf,gk,oA,jj,run_underlying hu];rw[cS hn];simp only[gk,jR d,jj,o]
    .cases h
   .cases h
  .cases h
 .cases h
end
end Go.kC
