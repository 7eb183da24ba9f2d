/- Part of the proof of SchemeChains: layer. -/
import Derived.Orders
import Derived.Below
import Derived.Laws.AppendOwn
import Derived.Laws.Cells
import Derived.Laws.CopyRow
import Derived.Laws.Small
import Derived.Laws.Pointers
import Derived.WalkSpells
import Derived.Test.YtpgdkkomegalnaaGreatDoorHL1
set_option linter.all false
namespace Go.lD
open Go
variable{G:Nat->Nat}{i n:Nat}{α β:Type}{R:α->β->Prop}{as:List α}{bs:List β}
inductive Tag where
 |gK|full|loc (k g:Nat)
inductive AV where
 |undef|sc (v:Value)|mQ (x:AV)|h9 (b g off:Nat)|fg (o off:Nat)|slice (tag:Tag) (l:List AV)|agg (cs:List AV)|tuple (vs:List AV)|func (fn:Fn) (first cap:List AV)
 |iface (t:TypeId) (x:AV)|xQ (b g len cap:Nat)|n_ (o:Nat)|uv (ks:List Value) (xs:List AV)|mV (o since:Nat) (seen:List Nat)|zF (o off len cap:Nat)|Ps
instance:Inhabited AV:=⟨.undef⟩
def AV.cells:AV->List AV
 |.agg cs=>cs|x=>[x]
def AV.gO:AV->Bool
 |.agg _=>false|.tuple _=>false|.uv _ _=>false|.mV _ _ _=>false|_=>true
def yP:Value->Bool
 |.bool _=>true|.int _ _=>true|.float _ _=>true|.string _=>true|.pointer none=>true|.map none=>true|.nilFunc=>true|.nilIface=>true|_=>false
inductive hS {α β:Type} (R:α->β->Prop):List α->List β->Prop
 |nil:hS R [] []|cons {a b as bs}:R a b->hS R as bs->hS R (a::as) (b::bs)
def hS.length{α β:Type}{R:α->β->Prop}{as:List α}{bs:List β}(h:hS R as bs):as.length=bs.length:=by
 induction h with
 |nil=>rfl|cons _ _ ih=>simp[ih]
theorem hS.mono{S:α->β->Prop}(h:hS R as bs)(hs:∀a b,a∈as->R a b->S a b):hS S as bs:=by
 induction h with
 |nil=>exact .nil|cons c _ ih=>exact .cons (hs _ _ abm c) (ih λa b d=>hs a b (by simp[d]))
def hS.append{a:List α}{b:List β}(h:hS R as bs)(c:hS R a b):hS R (as++a) (bs++b):=by
 induction h with
 |nil=>exact c|cons d _ ih=>exact .cons d ih
def hS.take{α β:Type}{R:α->β->Prop}{as:List α}{bs:List β}(h:hS R as bs)(n:Nat):hS R (as.take n) (bs.take n):=by
 induction h generalizing n with
 |nil=>simp;exact .nil|cons a _ ih=>cases n with
  |zero=>exact .nil|succ n=>exact .cons a (ih n)
def hS.drop{α β:Type}{R:α->β->Prop}{as:List α}{bs:List β}(h:hS R as bs)(n:Nat):hS R (as.drop n) (bs.drop n):=by
 induction h generalizing n with
 |nil=>simp;exact .nil|cons a b ih=>cases n with
  |zero=>exact .cons a b|succ n=>exact ih n
theorem hS.get{α β:Type}{R:α->β->Prop}{as:List α}{bs:List β}(h:hS R as bs){i:Nat}{a:α}(c:as[i]?=some a):∃b,bs[i]?=some b/\R a b:=by
 induction h generalizing i with
 |nil=>simp at c
 |cons d _ ih=>grind
theorem hS.mem{α β:Type}{R:α->β->Prop}{as:List α}{bs:List β}(h:hS R as bs){b:β}(c:b∈bs):∃a∈as,R a b:=by
 induction h with
 |nil=>simp at c
 |cons d _ ih=>grind
def hS.wH{α':Type}{S:α'->β->Prop}(f:α->α')(h:hS R as bs)(hs:∀a b,a∈as->R a b->S (f a) b):hS S (as.map f) bs:=by
 induction h with
 |nil=>exact .nil|cons c _ ih=>exact .cons (hs _ _ abm c) (ih λa b d=>hs a b (by simp[d]))
abbrev la:=Nat->Nat->Option Value
def la.has(F:la)(b o:Nat)(vs:List Value):Prop:=∀i v,vs[i]?=some v->F b (o+i)=some v
mutual
inductive gT (F:la) (G:Nat->Nat) (n:Nat):AV->Value->Prop
 |undef {v}:v.oneCell'=true->gT F G n .undef v|sc {v}:yP v=true->gT F G n (.sc v) v|mQ {x b o vs}:hO F G n x.cells vs->F.has b o vs->(∀c∈x.cells,c.gO=true)->gT F G n (.mQ x) (.pointer (some ⟨b,o,none⟩))|fg {o off}:o<n->gT F G n (.fg o off) (.pointer (some ⟨G o,off,none⟩))|n_ {o}:o<n->gT F G n (.n_ o) (.map (some (G o)))|zF {o off len cap}:o<n->len<=cap->cap<=maxLen->gT F G n (.zF o off len cap) (.slice (some ⟨G o,off,none⟩) len cap)|slice {tag l vs b o base cap sz}:hO F G n (l.flatMap AV.cells) vs->F.has b o vs->(l≠[]->base=some ⟨b,o,none⟩)->(∀x∈l,x.cells.length=sz)->(∀c∈l.flatMap AV.cells,c.gO=true)->l.length<=cap->cap<=maxLen->tag=.gK\/tag=.full/\cap=l.length->gT F G n (.slice tag l) (.slice base l.length cap)|Ps {base}:gT F G n .Ps (.slice base 0 0)|agg {cs vs}:hO F G n cs vs->(∀c∈cs,c.gO=true)->gT F G n (.agg cs) (.agg vs.toArray)|tuple {cs vs}:hO F G n cs vs->gT F G n (.tuple cs) (.tuple vs.toArray)|func {fn f c vf vc}:hO F G n f vf->hO F G n c vc->gT F G n (.func fn f c) (.func fn vf.toArray vc.toArray)|iface {t x v}:gT F G n x v->gT F G n (.iface t x) (.iface t v)
inductive hO (F:la) (G:Nat->Nat) (n:Nat):List AV->List Value->Prop
 |nil:hO F G n [] []|cons {x v xs vs}:gT F G n x v->hO F G n xs vs->hO F G n (x::xs) (v::vs)
end
section
variable{F F':la} {G G':Nat->Nat} {n n':Nat}
def hO.rV{xs vs}(h:hO F G n xs vs):hS (gT F G n) xs vs:=by
 induction xs generalizing vs with
 |nil=>cases h;exact .nil
 |cons x xs ih=>cases h with|cons a b=>exact .cons a (ih b)
def hO.pV{xs vs}(h:hS (gT F G n) xs vs):hO F G n xs vs:=by
 induction h with
 |nil=>exact .nil|cons a _ ih=>exact .cons a ih
structure Ha (F F':la) (G G':Nat->Nat) (n n':Nat):Prop where
 mF:∀b o v,F b o=some v->F' b o=some v
 mn:n<=n'
 mG:∀o,o<n->G' o=G o
theorem Ha.refl:Ha F F G G n n:=⟨λ_ _ _ h=>h,gY _,λ_ _=>rfl⟩
def la.has.grow{b o vs}(h:F.has b o vs)(hg:Ha F F' G G' n n'):F'.has b o vs:=λi v a=>hg.mF _ _ _ (h i v a)
mutual
def gT.grow(hg:Ha F F' G G' n n'):∀{x v},gT F G n x v->gT F' G' n' x v
 |_,_,.undef h=>.undef h|_,_,.sc h=>.sc h|_,_,.mQ a b c=>.mQ (a.grow hg) (b.grow hg) c|_,_,.fg (o:=o) (off:=off) h=>by
  rw[<-hg.mG o h];exact .fg (WQ h hg.mn)
 |_,_,.n_ (o:=o) h=>by
  rw[<-hg.mG o h];exact .n_ (WQ h hg.mn)
 |_,_,.zF (o:=o) h b c=>by
  rw[<-hg.mG o h];exact .zF (WQ h hg.mn) b c
 |_,_,.slice a b c d f i j k=>.slice (a.grow hg) (b.grow hg) c d f i j k|_,_,.Ps=>.Ps|_,_,.agg a b=>.agg (a.grow hg) b|_,_,.tuple a=>.tuple (a.grow hg)|_,_,.func a b=>.func (a.grow hg) (b.grow hg)|_,_,.iface a=>.iface (a.grow hg)
def hO.grow(hg:Ha F F' G G' n n'):∀{xs vs},hO F G n xs vs->hO F' G' n' xs vs
 |_,_,.nil=>.nil|_,_,.cons a b=>.cons (a.grow hg) (b.grow hg)
end
theorem gT.Nk{x v}(h:gT F G n x v)(b:x.gO=true):v.oneCell'=true:=by
 cases h with
 |undef h=>exact h|sc h=>revert h;cases v<;>simp[yP,Value.oneCell']
 |agg a c=>grind[AV.gO]|tuple a=>grind[AV.gO]|_=>rfl
theorem gT.cells{x v}(h:gT F G n x v)(l:∀vs,x≠ .tuple vs):hO F G n x.cells v.cells.toList:=by
 cases h with
 |undef h=>cases v<;>first|exact .cons (.undef h) .nil|(simp[Value.oneCell'] at h;done)
 |sc h=>cases v<;>first|exact .cons (.sc h) .nil|(simp[yP] at h;done)
 |mQ a b c=>exact .cons (.mQ a b c) .nil|fg a=>exact .cons (.fg a) .nil|n_ a=>exact .cons (.n_ a) .nil|zF a b c=>exact .cons (.zF a b c) .nil|slice a b c d f i j k=>exact .cons (.slice a b c d f i j k) .nil|Ps=>exact .cons .Ps .nil|agg a b=>exact a|tuple a=>grind|func a b=>exact .cons (.func a b) .nil|iface a=>exact .cons (.iface a) .nil
end
structure Maps where
 G:Nat->Nat
 n:Nat
 L:Nat->Nat->Nat
 lg:Nat->Nat
 A:Nat->Nat->Option (Nat×Nat×Nat)
 ag:Nat->Nat
def uW(ρ:Maps)(k g:Nat)(l:List AV)(base:Option Addr)(cap:Nat):Prop:=
 match ρ.A k g with
 |none=>cap=l.length|some (b,c,sz)=>base=some ⟨b,0,none⟩/\cap=c/\∀x∈l,x.cells.length=sz
inductive j5 (F:la) (ρ:Maps):AV->Value->Prop
 |p {x v}:gT F ρ.G ρ.n x v->j5 F ρ x v|h9 {b g off}:g<=ρ.lg b->j5 F ρ (.h9 b g off) (.pointer (some ⟨ρ.L b g,off,none⟩))|loc {k g l base cap}:gT F ρ.G ρ.n (.slice .gK l) (.slice base l.length cap)->g<=ρ.ag k->uW ρ k g l base cap->j5 F ρ (.slice (.loc k g) l) (.slice base l.length cap)|xQ {b g len cap}:g<=ρ.lg b->len<=cap->cap<=maxLen->j5 F ρ (.xQ b g len cap) (.slice (some ⟨ρ.L b g,0,none⟩) len cap)
inductive gI (F:la) (ρ:Maps):AV->Value->Prop
 |cell {x v}:j5 F ρ x v->gI F ρ x v|agg {cs vs}:hS (j5 F ρ) cs vs->(∀c∈cs,c.gO=true)->gI F ρ (.agg cs) (.agg vs.toArray)
structure w6 (F F':la) (ρ ρ':Maps):Prop where
 g:Ha F F' ρ.G ρ'.G ρ.n ρ'.n
 lg:∀b,ρ.lg b<=ρ'.lg b
 L:∀b g,g<=ρ.lg b->ρ'.L b g=ρ.L b g
 ag:∀k,ρ.ag k<=ρ'.ag k
 A:∀k g,g<=ρ.ag k->ρ'.A k g=ρ.A k g
section
variable{F F':la} {ρ ρ':Maps}
def j5.grow(hg:w6 F F' ρ ρ'){x v}(h:j5 F ρ x v):j5 F' ρ' x v:=by
 cases h with
 |p h=>exact .p (h.grow hg.g)|h9 h=>
  rename_i b g off;rw[<-hg.L b g h];exact .h9 (z8 h (hg.lg b))
 |loc d a c=>
  refine .loc (d.grow hg.g) (z8 a (hg.ag _)) ?_;unfold uW;rw[hg.A _ _ a];exact c
 |xQ h a c=>
  rename_i b g len cap;rw[<-hg.L b g h];exact .xQ (z8 h (hg.lg b)) a c
def gI.grow(hg:w6 F F' ρ ρ'){x v}(h:gI F ρ x v):gI F' ρ' x v:=by
 cases h with
 |cell h=>exact .cell (h.grow hg)|agg a b=>exact .agg (a.mono λ_ _ _ h=>h.grow hg) b
def gI.p{x v}(h:gT F ρ.G ρ.n x v):gI F ρ x v:=.cell (.p h)
end
def AV.kA:AV->AV
 |.slice _ l=>.slice .gK l|.h9 _ _ _=>.undef|.xQ _ _ _ _=>.undef|x=>x
def AV.norm:AV->AV
 |.agg cs=>.agg (cs.map AV.kA)|x=>x.kA
section
variable{F F':la} {ρ ρ':Maps}
def gT.gK{tag l v}(h:gT F G n (.slice tag l) v):gT F G n (.slice .gK l) v:=by
 cases h with
 |slice a b c d f i j k=>exact .slice a b c d f i j (.inl rfl)
def gT.kA{x v}(h:gT F G n x v):gT F G n x.kA v:=by
 cases x with
 |slice tag l=>exact h.gK|h9 b g off=>cases h
 |xQ b g len cap=>cases h
 |_=>exact h
def j5.kA{x v}(h:j5 F ρ x v):gT F ρ.G ρ.n x.kA v:=by
 cases h with
 |p h=>exact h.kA|h9 h=>exact .undef rfl|loc a b c=>exact a|xQ a b c=>exact .undef rfl
theorem AV.Gu(x:AV):x.kA.gO=x.gO:=by cases x<;>rfl
theorem gI.norm{x v}(h:gI F ρ x v):gT F ρ.G ρ.n x.norm v:=by
 have d:∀{cs:List AV} {vs:List Value},hS (j5 F ρ) cs vs->(∀c∈cs,c.gO=true)->gT F ρ.G ρ.n (AV.agg cs).norm (.agg vs.toArray):=by
  intro cs vs f i;refine .agg (hO.pV (f.wH AV.kA λa b _ h=>h.kA)) ?_
  grind[AV.Gu]
 cases h with
 |agg f i=>grind|cell h=>
  cases x with
  |agg cs=>
   cases h with
   |p h=>
    cases h with
    |agg f i=>exact d (f.rV.mono λ_ _ _ h=>.p h) i
  |_=>exact h.kA
theorem gI.cells{x v}(h:gI F ρ x v)(d:∀vs,x≠ .tuple vs):hS (j5 F ρ) x.cells v.cells.toList:=by
 cases h with
 |agg a b=>exact a|cell h=>
  cases h with
  |p h=>exact(h.cells d).rV.mono λ_ _ _ h=>.p h|h9 h=>exact .cons (.h9 h) .nil|loc a b c=>exact .cons (.loc a b c) .nil|xQ a b c=>exact .cons (.xQ a b c) .nil
def j5.Nk{x v}(h:j5 F ρ x v)(a:x.gO=true):v.oneCell'=true:=by
 cases h with
 |p h=>exact h.Nk a|h9 h=>rfl|loc b c d=>rfl|xQ b c d=>rfl
theorem gI.s7{x v}(h:gI F ρ x v)(f:∀vs,x≠ .tuple vs):∀c∈x.cells,c.gO=true:=by
 cases h with
 |agg b a=>exact a|cell h=>
  cases h with
  |p h=>
   cases h with
   |agg b a=>exact a|tuple b=>grind|_=>simp[AV.cells,AV.gO]
  |h9 h=>simp[AV.cells,AV.gO]|loc b a d=>simp[AV.cells,AV.gO]|xQ b a d=>simp[AV.cells,AV.gO]
end
end Go.lD
namespace Go.lD
open Go
variable{F:la}{P:Program}{a:ByteArray}{c f:List AV}{k:IntKind}{op:BinOp}{ps rs:Array TypeId}{t:TypeId}{u v:Value}{x:AV}{α:Type}{ρ:Maps}
abbrev dV:=List (List AV)
abbrev eK:=Nat->Option AV
structure Fr where
 env:Nat->AV
 box:Nat->Option (List AV)
 gen:Nat->Nat
 qU:Nat->Option Nat
 fy:Nat->Nat
def gN(f:Nat->α)(i:Nat)(x:α):Nat->α:=λj=>if j=i then x else f j
def Fr.put(fr:Fr)(d:Option Nat)(x:AV):Fr:=
 match d with
 |some d=>{fr with env:=gN fr.env d x}|none=>fr
section
variable(P:Program)
def f'(t:TypeId):Option (Bool×Nat):=
 match P.underlying t,P.info? t with
 |some d,some i=>some (match d with|.struct _|.array _ _=>true|_=>false,i.size)
 |_,_=>none
def zeroOf(t:TypeId):Option Value:=(P.info? t).bind (·.zero)
def eY(t i:Nat):Option (Nat×TypeId):=
 match P.underlying t with
 |some (.struct fs)=>(fs[i]?).map λf=>(f.offset,f.type)|_=>none
def Rc(t:TypeId):Option (Nat×TypeId):=
 match P.underlying t with
 |some (.array n e)=>some (n,e)|_=>none
def mR(t:TypeId)(cs:List AV)(off:Nat):Option AV:=
 match f' P t with
 |some (true,n)=>if off+n<=cs.length then some (.agg ((cs.drop off).take n))else none|some (false,_)=>cs[off]?|none=>none
def rn(t:TypeId)(x:AV):Bool:=
 match f' P t,x with
 |some (true,n),.agg cs=>cs.length==n|some (false,_),.agg _=>false|some (false,_),.tuple _=>false|some (false,_),.uv _ _=>false|some (false,_),.mV _ _ _=>false|some (false,_),_=>true|_,_=>false
end
def setCells(cs:List AV)(off:Nat)(new:List AV):List AV:=cs.take off++new++cs.drop (off+new.length)
def q4:Value->AV
 |.slice none 0 0=>.slice .full []|.func fn f c=>if f.size=0/\c.size=0 then .func fn [] [] else .undef|.agg _=>.undef|.tuple _=>.undef|v=>if yP v then .sc v else .undef
def ofValue:Value->AV
 |.agg cs=>.agg (cs.toList.map q4)|.tuple cs=>.tuple (cs.toList.map q4)|v=>q4 v
def zr:Value->Bool
 |.agg cs=>cs.all (·.oneCell')|.tuple cs=>cs.all (·.oneCell')|_=>true
def za(v:Value):(q4 v).gO=true:=by
 unfold q4
 split<;>first|rfl|(split<;>rfl)
def GC(F:la)(G:Nat->Nat)(n:Nat)(v:Value)(h:v.oneCell'=true):gT F G n (q4 v) v:=by
 unfold q4
 split
 .exact .slice (l:=[]) (vs:=[]) (b:=0) (o:=0) (sz:=0) .nil (λ_ _ h=>by simp at h) abm abm abm abm (by simp[maxLen]) (.inr ⟨rfl,rfl⟩)
 .rename_i fn f c
  split
  .rename_i hs;obtain⟨a,d⟩:=hs;have i:f=#[]:=ahu a;have j:c=#[]:=ahu d;subst i;subst j;exact .func (vf:=[]) (vc:=[]) .nil .nil
  .exact .undef rfl
 .simp[Value.oneCell'] at h
 .simp[Value.oneCell'] at h
 .split
  .exact .sc (by assumption)
  .exact .undef h
def rG(F:la)(G:Nat->Nat)(n:Nat):∀(vs:List Value),(∀v∈vs,v.oneCell'=true)->hO F G n (vs.map q4) vs
 |[],_=>.nil|v::vs,h=>.cons (GC F G n v (h v abm)) (rG F G n vs λu hu=>h u (by simp[hu]))
def Gp(h:v.oneCell'=true):ofValue v=q4 v:=by
 cases v<;>first|rfl|(simp[Value.oneCell'] at h)
def zz(F:la)(G:Nat->Nat)(n:Nat)(v:Value)(h:zr v=true):gT F G n (ofValue v) v:=by
 cases v with
 |agg cs=>
  have b:∀v∈cs.toList,v.oneCell'=true:=λv d=>by
   have f:cs.all (·.oneCell')=true:=h
   exact Lu.1 f v (yd.1 d)
  exact .agg (vs:=cs.toList) (rG F G n cs.toList b) (by
   intro c i;obtain⟨a,_,rfl⟩:=ql.1 i
   exact za a)
 |tuple cs=>
  have b:∀v∈cs.toList,v.oneCell'=true:=λv d=>by
   have f:cs.all (·.oneCell')=true:=h
   exact Lu.1 f v (yd.1 d)
  exact .tuple (vs:=cs.toList) (rG F G n cs.toList b)
 |_=>(rw[Gp rfl];exact GC F G n _ rfl)
section
variable(T:eK) (fr:Fr)
def ev:Operand->AV
 |.tmp t=>fr.env t|.const v=>ofValue v|.global g=>match T g with|some x=>.mQ x|none=>.undef
 |.func f=>.func (.func f) [] []
def jw:Operand->Bool
 |.const v=>zr v|_=>true
end
def tR(F:la)(ρ:Maps)(fr:Fr)(a:Act):Prop:=∀t,gI F ρ (fr.env t) (a.tmps.getD t undef)
def yN(T:eK)(F:la)(ρ:Maps):Prop:=∀g x,T g=some x->gT F ρ.G ρ.n (.mQ x) (.pointer (some ⟨g,0,none⟩))
def gG{T:eK}{fr:Fr}{a:Act}(he:tR F ρ fr a)(b:yN T F ρ)(x:Operand)(c:jw x=true):gI F ρ (ev T fr x) (a.eval x):=by
 cases x with
 |tmp t=>exact he t|const v=>exact .p (zz _ _ _ v c)|global g=>
  show gI F ρ (match T g with|some x=>.mQ x|none=>.undef) _;cases h:T g with
  |none=>exact .p (.undef rfl)|some x=>exact .p (b g x h)
 |func f=>exact .p (.func (vf:=[]) (vc:=[]) .nil .nil)
def qY(op:BinOp)(k:IntKind)(a b:Int):Option Value:=
 match op with
 |.add=>some (.int k (k.wrap (a+b)))|.sub=>some (.int k (k.wrap (a-b)))|.mul=>some (.int k (k.wrap (a*b)))|.quo=>if b=0 then none else some (.int k (k.wrap (a.tdiv b)))|.rem=>if b=0 then none else some (.int k (a.tmod b))|.and=>some (.int k (k.wrap (BitVec.ofInt k.bits a&&&BitVec.ofInt k.bits b).toNat))|.or=>some (.int k (k.wrap (BitVec.ofInt k.bits a|||BitVec.ofInt k.bits b).toNat))|.xor=>some (.int k (k.wrap (BitVec.ofInt k.bits a^^^BitVec.ofInt k.bits b).toNat))|.andNot=>some (.int k (k.wrap (BitVec.ofInt k.bits a&&&~~~BitVec.ofInt k.bits b).toNat))|.eql=>some (.bool (a==b))|.neq=>some (.bool (a !=b))|.lss=>some (.bool (a<b))|.leq=>some (.bool (a<=b))|.gtr=>some (.bool (a>b))|.geq=>some (.bool (a>=b))|_=>none
def Ny(op:BinOp)(x y:ByteArray):Option Value:=
 match op with
 |.add=>if((x.size+y.size:Nat):Int)>IntKind.i64.max then none else some (.string (x++y))|.eql=>some (.bool (x.toList==y.toList))|.neq=>some (.bool !(x.toList==y.toList))|.lss=>some (.bool (Op.bytesLess x.toList y.toList))|.leq=>some (.bool (Op.bytesLess x.toList y.toList||x.toList==y.toList))|.gtr=>some (.bool !(Op.bytesLess x.toList y.toList||x.toList==y.toList))|.geq=>some (.bool !(Op.bytesLess x.toList y.toList))|_=>none
def EX:AV->Bool
 |.mQ _|.h9 _ _ _|.fg _ _=>true|_=>false
def sH(P:Program)(op:BinOp)(t:TypeId)(x y:AV):Option AV:=
 match op,x,y with
 |.shl,.sc (.int k a),.sc (.int _ b)=>if b<0 then none else some (.sc (.int k (k.wrap (a*2^min b.toNat k.bits))))|.shr,.sc (.int k a),.sc (.int _ b)=>if b<0 then none else some (.sc (.int k (a.fdiv (2^min b.toNat k.bits))))|op,.sc (.int k a),.sc (.int k' b)=>if k=k' then(qY op k a b).map .sc else none|op,.sc (.string a),.sc (.string b)=>(Ny op a b).map .sc|.eql,.sc (.bool a),.sc (.bool b)=>match P.underlying t with|some .bool=>some (.sc (.bool (a==b)))|_=>none
 |.neq,.sc (.bool a),.sc (.bool b)=>match P.underlying t with|some .bool=>some (.sc (.bool (!(a==b))))|_=>none
 |.eql,x,.sc (.pointer none)=>match P.underlying t with
  |some (.pointer _)=>if EX x then some (.sc (.bool false))else(match x with|.sc (.pointer none)=>some (.sc (.bool true))|_=>none)
  |_=>none
 |.neq,x,.sc (.pointer none)=>match P.underlying t with
  |some (.pointer _)=>if EX x then some (.sc (.bool true))else(match x with|.sc (.pointer none)=>some (.sc (.bool false))|_=>none)
  |_=>none
 |.eql,.func _ _ _,.sc .nilFunc=>match P.underlying t with|some (.func ..)=>some (.sc (.bool false))|_=>none
 |.neq,.func _ _ _,.sc .nilFunc=>match P.underlying t with|some (.func ..)=>some (.sc (.bool true))|_=>none
 |.eql,.sc .nilFunc,.sc .nilFunc=>match P.underlying t with|some (.func ..)=>some (.sc (.bool true))|_=>none
 |.neq,.sc .nilFunc,.sc .nilFunc=>match P.underlying t with|some (.func ..)=>some (.sc (.bool false))|_=>none
 |_,_,_=>none
def unA(op:UnOp)(x:AV):Option AV:=
 match op,x with
 |.neg,.sc (.int k n)=>some (.sc (.int k (k.wrap (0-n))))|.not,.sc (.bool b)=>some (.sc (.bool !b))|_,_=>none
def gr(h:gI F ρ (.sc u) v):v=u:=by
 cases h with
 |cell h=>cases h with|p h=>cases h;rfl
def Jb(P:Program)(w:World){a b:Int}(t:TypeId)(h:qY op k a b=some v):(binOp op t (.int k a) (.int k b)).run P w=.ok v w/\yP v=true:=by
 cases op<;>simp only[qY] at h<;>(try(split at h))<;>
  (first
   |(cases h;refine⟨?_,rfl⟩;simp[binOp,Op.intArith,Op.intBits,Op.intCmp,Op.intDiv, *])
   |cases h)
theorem JM(P:Program)(w:World){b:ByteArray}(t:TypeId)(h:Ny op a b=some v):(binOp op t (.string a) (.string b)).run P w=.ok v w/\yP v=true:=by
 cases op<;>simp only[Ny] at h<;>(try(split at h))<;>
  (first
   |(cases h;refine⟨?_,rfl⟩;simp_all [binOp,Op.stringOp])
   |cases h)
theorem Fy(b:EX x=true)(h:gI F ρ x v):∃a,v=.pointer (some a):=by
 cases h with
 |agg c d=>grind[EX]|cell h=>
  cases h with
  |h9 h=>grind|loc c d f=>simp[EX] at b
  |xQ c d f=>simp[EX] at b
  |p h=>cases h<;>first|(simp[EX] at b;done)|exact⟨_,rfl⟩
def yO{e:TypeId}(h:P.underlying t=some (.pointer e)):P.underlying t=some (.pointer (P.pointee t)):=by
 simp[Program.pointee,h]
def BQ{fn:Fn}(h:gI F ρ (.func fn f c) v):∃vf vc:List Value,v=.func fn vf.toArray vc.toArray/\hS (gT F ρ.G ρ.n) f vf/\hS (gT F ρ.G ρ.n) c vc:=by
 cases h with
 |cell h=>cases h with
  |p h=>cases h with|func a b=>exact⟨_,_,rfl,a.rV,b.rV⟩
def UR(P:Program)(w:World){b:Bool}(hu:P.underlying t=some (.func ps rs b))(fn:Fn)(f c:Array Value):(binOp .eql t (.func fn f c) .nilFunc).run P w=.ok (.bool false) w/\(binOp .neq t (.func fn f c) .nilFunc).run P w=.ok (.bool true) w:=by
 have h:∀d,(Op.equalIn (d+1) t (.func fn f c) .nilFunc).run P w=.ok false w:=λd=>by simp[Op.equalIn,run_underlying hu]
 have a:binOp .eql t (.func fn f c) .nilFunc=(do pure (.bool (<-Op.equalIn (9999+1) t (.func fn f c) .nilFunc))):=rfl;have i:binOp .neq t (.func fn f c) .nilFunc=(do pure (.bool (!(<-Op.equalIn (9999+1) t (.func fn f c) .nilFunc)))):=rfl;rw[a,i,h8,h8,h 9999];exact⟨rfl,rfl⟩
def U_(P:Program)(w:World){b:Bool}(hu:P.underlying t=some (.func ps rs b)):(binOp .eql t .nilFunc .nilFunc).run P w=.ok (.bool true) w/\(binOp .neq t .nilFunc .nilFunc).run P w=.ok (.bool false) w:=by
 have h:∀d,(Op.equalIn (d+1) t .nilFunc .nilFunc).run P w=.ok true w:=λd=>by simp[Op.equalIn,run_underlying hu]
 have a:binOp .eql t .nilFunc .nilFunc=(do pure (.bool (<-Op.equalIn (9999+1) t .nilFunc .nilFunc))):=rfl;have c:binOp .neq t .nilFunc .nilFunc=(do pure (.bool (!(<-Op.equalIn (9999+1) t .nilFunc .nilFunc)))):=rfl;rw[a,c,h8,h8,h 9999];exact⟨rfl,rfl⟩
def Nx:Value->Bool
 |.nilIface=>false|.agg _=>false|_=>true
def RY(P:Program)(w:World)(op:BinOp)(t:TypeId)(x y:Operand)(h:Nx u=true):(eqGuard op t x y u v).run P w=.ok () w:=by
 cases u<;>first|(simp[Nx] at h;done)|(cases op<;>rfl)
def Wh(P:Program)(w:World){y r:AV}(h:sH P op t x y=some r)
  (b:gI F ρ x u) (hy:gI F ρ y v):∃z,(binOp op t u v).run P w=.ok z w/\r=.sc z/\yP z=true/\Nx u=true:=by
 unfold sH at h
 split at h
 .cases gr b;cases gr hy
  split at h
  .cases h
  .rename_i c;cases h;exact⟨_,by simp[binOp,Op.shift,c],rfl,rfl,rfl⟩
 .cases gr b;cases gr hy
  split at h
  .cases h
  .rename_i c;cases h;exact⟨_,by simp[binOp,Op.shift,c],rfl,rfl,rfl⟩
 .cases gr b;cases gr hy
  split at h
  .rename_i f;subst f;cases hi:qY op _ _ _ with
   |none=>rw[hi] at h;cases h
   |some z=>
    rw[hi] at h;cases h;exact⟨z,(Jb P w t hi).1,rfl,(Jb P w t hi).2,rfl⟩
  .cases h
 .cases gr b;cases gr hy;cases hi:Ny op _ _ with
  |none=>rw[hi] at h;cases h
  |some z=>
   rw[hi] at h;cases h;exact⟨z,(JM P w t hi).1,rfl,(JM P w t hi).2,rfl⟩
 .cases gr b;cases gr hy
  split at h
  .rename_i hu;cases h;exact⟨_,run_eql_bool w t _ _ hu,rfl,rfl,rfl⟩
  .cases h
 .cases gr b;cases gr hy
  split at h
  .rename_i hu;cases h;exact⟨_,run_neq_bool w t _ _ hu,rfl,rfl,rfl⟩
  .cases h
 .cases gr hy
  split at h
  .rename_i hu
   split at h
   .rename_i d;obtain⟨a,rfl⟩:=Fy d b;cases h;exact⟨_,run_eql_pointer_nil w t _ (yO hu),abm,rfl,rfl⟩
   .split at h
    .cases gr b;cases h;exact⟨_,run_eql_pointer_nil w t _ (yO hu),abm,rfl,rfl⟩
    .cases h
  .cases h
 .cases gr hy
  split at h
  .rename_i hu
   split at h
   .rename_i d;obtain⟨a,rfl⟩:=Fy d b;cases h;exact⟨_,run_neq_pointer_nil w t _ (yO hu),abm,rfl,rfl⟩
   .split at h
    .cases gr b;cases h;exact⟨_,run_neq_pointer_nil w t _ (yO hu),abm,rfl,rfl⟩
    .cases h
  .cases h
 .cases gr hy;obtain⟨vf,vc,rfl,_,_⟩:=BQ b
  split at h
  .rename_i hu;cases h;exact⟨.bool false,(UR P w hu _ _ _).1,rfl,rfl,rfl⟩
  .cases h
 .cases gr hy;obtain⟨vf,vc,rfl,_,_⟩:=BQ b
  split at h
  .rename_i hu;cases h;exact⟨.bool true,(UR P w hu _ _ _).2,rfl,rfl,rfl⟩
  .cases h
 .cases gr b;cases gr hy
  split at h
  .rename_i hu;cases h;exact⟨.bool true,(U_ P w hu).1,rfl,rfl,rfl⟩
  .cases h
 .cases gr b;cases gr hy
  split at h
  .rename_i hu;cases h;exact⟨.bool false,(U_ P w hu).2,rfl,rfl,rfl⟩
  .cases h
 .cases h
end Go.lD
namespace Go.lD
open Go
variable{G:Nat->Nat}{cap g i k n o off sz:Nat}{j u v:Value}{t:TypeId}{tag:Tag}{vs:List Value}
theorem oL{l:List AV}(h:∀x∈l,x.cells.length=sz):(l.flatMap AV.cells).length=l.length*sz:=by
 induction l with
 |nil=>simp|cons x l ih=>grind
def D4{l:List AV}(h:∀x∈l,x.cells.length=sz)(n:Nat):(l.take n).flatMap AV.cells=(l.flatMap AV.cells).take (n*sz):=by
 induction l generalizing n with
 |nil=>simp|cons x l ih=>
  cases n with
  |zero=>simp|succ n=>
   have a:=h x abm
   rw[List.take_succ_cons,I3,I3,ih (λy hy=>h y (by simp[hy])),Ce,ac0,List.take_append,a,akq (l:=x.cells) VW,agU]
def zi{l:List AV}(h:∀x∈l,x.cells.length=sz)(n:Nat):(l.drop n).flatMap AV.cells=(l.flatMap AV.cells).drop (n*sz):=by
 induction l generalizing n with
 |nil=>simp|cons x l ih=>
  cases n with
  |zero=>simp|succ n=>
   have a:=h x abm
   rw[List.drop_succ_cons,I3,ih (λy hy=>h y (by simp[hy])),Ce,ac0,af5,a,LI (as:=x.cells) VW,agU,n9]
theorem Ri{l:List AV}(h:∀x∈l,x.cells.length=sz){x:AV}(hi:l[i]?=some x):((l.flatMap AV.cells).drop (i*sz)).take sz=x.cells:=by
 have b:=zi h i;have a:i<l.length:=(ru.1 hi).1
 have c:l.drop i=x::l.drop (i+1):=by
  have:=K0 a
  grind
 grind
theorem la.has.drop{F:la}{b:Nat}(h:F.has b o vs)(n:Nat):F.has b (o+n) (vs.drop n):=by
 intro i v a;rw[Yy] at a;have:=h _ v a
 grind
def la.has.take{F:la}{b:Nat}(h:F.has b o vs)(n:Nat):F.has b o (vs.take n):=by
 intro i v a;rw[TC] at a
 split at a
 .exact h i v a
 .cases a
section
variable{F:la} {G:Nat->Nat} {n:Nat}
def hO.drop{xs vs}(h:hO F G n xs vs)(k:Nat):hO F G n (xs.drop k) (vs.drop k):=.pV (h.rV.drop k)
def hO.take{xs vs}(h:hO F G n xs vs)(k:Nat):hO F G n (xs.take k) (vs.take k):=.pV (h.rV.take k)
def hO.get{xs vs}(h:hO F G n xs vs){x:AV}(a:xs[i]?=some x):∃v,vs[i]?=some v/\gT F G n x v:=h.rV.get a
def hO.length{xs vs}(h:hO F G n xs vs):xs.length=vs.length:=h.rV.length
def hO.append{xs vs a vs'}(h:hO F G n xs vs)(b:hO F G n a vs'):hO F G n (xs++a) (vs++vs'):=.pV (h.rV.append b.rV)
end
def AV.BK{x:AV}(h:x.gO=true):x.cells=[x]:=by cases x<;>first|rfl|(simp[AV.gO] at h)
section
variable{P:Program}
theorem GI{b:Bool}(h:f' P t=some (b,n)):∃d i,P.underlying t=some d/\P.info? t=some i/\i.size=n/\(match d with|.struct _|.array _ _=>true|_=>false)=b:=by grind[f']
def k6{b:Bool}(h:f' P t=some (b,n))(w:World):(sizeOf t).run P w=.ok n w:=by
 obtain⟨d,i,a,hi,hn,_⟩:=GI h;simp[sizeOf,typeInfo,hi,hn]
def zo{b:Bool}(h:f' P t=some (b,n))(w:World):(isAgg t).run P w=.ok b w:=by
 obtain⟨d,i,a,hi,hn,c⟩:=GI h;subst c;unfold isAgg;rw[h8,run_underlying a];cases d<;>rfl
theorem Av{cs:List AV}{z:AV}(h:mR P t cs off=some z):(∃k,f' P t=some (true,k)/\off+k<=cs.length/\z=.agg ((cs.drop off).take k))\/(∃k,f' P t=some (false,k)/\cs[off]?=some z):=by grind[mR]
def zG(h:f' P t=some (true,k))(w:World)(a:Addr)(vs:List Value)(b:vs.length=k)
  (c:∀j v,vs[j]?=some v->w.cell? (a.add j)=some v):(loadVar t a).run P w=.ok (.agg vs.toArray) w:=by
 unfold loadVar;rw[h8,zo h];simp only[kD,if_true];rw[h8,k6 h,kD,h8,<-b,run_loadCells_list w a vs c];rfl
theorem zE(h:f' P t=some (false,k))(w:World)(a:Addr)(v:Value)(b:w.cell? a=some v):(loadVar t a).run P w=.ok v w:=by
 unfold loadVar;rw[h8,zo h]
 simp_all
end
def rO(P:Program)(t:TypeId)(x:AV)(i:Nat):Option AV:=
 match eY P t i with
 |none=>none|some (off,a)=>
  match f' P a with
  |none=>none|some (_,n)=>
   if n=0 then none else
   match x with
   |.h9 b g o=>some (.h9 b g (o+off))|.fg o f=>some (.fg o (f+off))|.mQ y=>(mR P a y.cells off).map .mQ|_=>none
def CG(P:Program)(t:TypeId)(x:AV)(i:Nat):Option AV:=
 match eY P t i,x with
 |some (off,a),.agg cs=>mR P a cs off|_,_=>none
def gL(P:Program)(t:TypeId)(x i:AV):Option AV:=
 match i with
 |.sc (.int _ n)=>
  match P.underlying t,x with
  |some (.slice e),.slice _ l=>
   if 0<=n then
    match l[n.toNat]?,f' P e with
    |some y,some (_,sz)=>if y.cells.length=sz then some (.mQ y)else none|_,_=>none
   else none
  |some (.slice e),.xQ b g len _=>
   match f' P e with
   |some (_,sz)=>if 0<=n/\n<len then some (.h9 b g (n.toNat*sz))else none|none=>none
  |some (.slice e),.zF b off len _=>
   match f' P e with
   |some (_,sz)=>if 0<=n/\n<len then some (.fg b (off+n.toNat*sz))else none|none=>none
  |some (.array len e),.h9 b g o=>
   match f' P e with
   |some (_,sz)=>if 0<=n/\n<len then some (.h9 b g (o+n.toNat*sz))else none|none=>none
  |some (.array len e),.fg a o=>
   match f' P e with
   |some (_,sz)=>if 0<=n/\n<len then some (.fg a (o+n.toNat*sz))else none|none=>none
  |some (.array len e),.mQ y=>
   match f' P e with
   |some (_,sz)=>if 0<=n/\n<len then(mR P e y.cells (n.toNat*sz)).map .mQ else none|none=>none
  |_,_=>none
 |_=>none
def Su(P:Program)(t:TypeId)(x i:AV):Option AV:=
 match i with
 |.sc (.int _ n)=>
  match P.underlying t,x with
  |some .string,.sc (.string s)=>if 0<=n then(s[n.toNat]?).map λb=>.sc (.int .u8 b.toNat)else none|some (.array len e),.agg cs=>
   match f' P e with
   |some (_,sz)=>if 0<=n/\n<len then mR P e cs (n.toNat*sz)else none|none=>none
  |_,_=>none
 |_=>none
section
variable{P:Program} {F:la} {ρ:Maps}
theorem Ep{cs:List AV}(h:gI F ρ (.agg cs) v):∃vs:List Value,v=.agg vs.toArray/\hS (j5 F ρ) cs vs/\∀c∈cs,c.gO=true:=by
 cases h with
 |agg a b=>grind|cell h=>cases h with
  |p h=>cases h with|agg a b=>exact⟨_,rfl,a.rV.mono λ_ _ _ h=>.p h,b⟩
def Sp{cs:List AV}(h:gI F ρ (.tuple cs) v):∃vs:List Value,v=.tuple vs.toArray/\hS (gT F ρ.G ρ.n) cs vs:=by
 cases h with
 |cell h=>cases h with
  |p h=>cases h with|tuple a=>exact⟨_,rfl,a.rV⟩
theorem vD{b:Nat}(h:gI F ρ (.h9 b g off) v):v=.pointer (some ⟨ρ.L b g,off,none⟩)/\g<=ρ.lg b:=by
 cases h with
 |cell h=>cases h with
  |p h=>cases h
  |h9 h=>grind
def vF(h:gI F ρ (.fg o off) v):v=.pointer (some ⟨ρ.G o,off,none⟩)/\o<ρ.n:=by
 cases h with
 |cell h=>cases h with
  |p h=>cases h with|fg h=>exact⟨rfl,h⟩
def Fw{x:AV}(h:gI F ρ (.mQ x) v):∃b o vs,v=.pointer (some ⟨b,o,none⟩)/\hO F ρ.G ρ.n x.cells vs/\F.has b o vs/\∀c∈x.cells,c.gO=true:=by
 cases h with
 |cell h=>cases h with
  |p h=>cases h with|mQ a d f=>exact⟨_,_,_,rfl,a,d,f⟩
theorem AA{b len:Nat}(h:gI F ρ (.xQ b g len cap) v):v=.slice (some ⟨ρ.L b g,0,none⟩) len cap/\g<=ρ.lg b/\len<=cap/\cap<=maxLen:=by
 cases h with
 |cell h=>cases h with
  |p h=>cases h
  |xQ a c d=>grind
def JY{len:Nat}(h:gI F ρ (.zF o off len cap) v):v=.slice (some ⟨ρ.G o,off,none⟩) len cap/\o<ρ.n/\len<=cap/\cap<=maxLen:=by
 cases h with
 |cell h=>cases h with
  |p h=>cases h with|zF a b c=>exact⟨rfl,a,b,c⟩
structure adw (F:la) (ρ:Maps) (l:List AV) (base:Option Addr) (cap b o sz:Nat) (vs:List Value):Prop where
 cells:hO F ρ.G ρ.n (l.flatMap AV.cells) vs
 has:F.has b o vs
 base:l≠[]->base=some ⟨b,o,none⟩
 sz:∀x∈l,x.cells.length=sz
 s7:∀c∈l.flatMap AV.cells,c.gO=true
 BT:l.length<=cap
 EH:cap<=maxLen
def gT.M8{l:List AV}(h:gT F G n (.slice tag l) v):∃base cap b o sz vs,v=.slice base l.length cap/\hO F G n (l.flatMap AV.cells) vs/\F.has b o vs/\(l≠[]->base=some ⟨b,o,none⟩)/\(∀x∈l,x.cells.length=sz)/\(∀c∈l.flatMap AV.cells,c.gO=true)/\l.length<=cap/\cap<=maxLen/\(tag=.gK\/tag=.full/\cap=l.length):=by
 cases h with|slice a d f i j k q r=>exact⟨_,_,_,_,_,_,rfl,a,d,f,i,j,k,q,r⟩
theorem n7{l:List AV}(h:gI F ρ (.slice tag l) v):∃base cap b o sz vs,v=.slice base l.length cap/\adw F ρ l base cap b o sz vs/\(tag=.full->cap=l.length)/\(∀k g,tag=.loc k g->g<=ρ.ag k/\uW ρ k g l base cap):=by
 cases h with
 |cell h=>cases h with
  |p h=>
   obtain⟨base,cap,b,o,sz,vs,rfl,a,q,r,c,d,f,i,s⟩:=h.M8;refine⟨base,cap,b,o,sz,vs,rfl,⟨a,q,r,c,d,f,i⟩,?_,?_⟩
   all_goals grind
  |loc a q r=>
   obtain⟨base,cap,b,o,sz,vs,he,a,j,n,c,d,f,i,s⟩:=a.M8;injection he with t w u;subst t;subst u;refine⟨_,_,b,o,sz,vs,rfl,⟨a,j,n,c,d,f,i⟩,(by intro h;cases h),?_⟩
   grind
def Mw{cs:List AV}{b:Nat}{z:AV}(f:hO F G n cs vs)(h:F.has b o vs)(j:∀c∈cs,c.gO=true)
  (l:mR P t cs off=some z):gT F G n (.mQ z) (.pointer (some ⟨b,o+off,none⟩)):=by
 rcases Av l with⟨k,q,hle,rfl⟩|⟨k,q,d⟩
 .exact .mQ ((f.drop off).take k) ((h.drop off).take k) (λc d=>j c (Hp (C' d)))
 .obtain⟨v,r,s⟩:=f.get d;have a:=j z (HP d);refine .mQ (vs:=[v]) (by rw[AV.BK a];exact .cons s .nil) ?_ (by rw[AV.BK a];simpa using a);intro i u hu;cases i with
  |zero=>simp at hu;subst hu;exact h off _ r
  |succ i=>simp at hu
theorem LK(w:World){x r:AV}(h:rO P t x i=some r)(c:gI F ρ x u):∃v,(Instr.fieldAt t u i).run P w=.ok v w/\gI F ρ r v:=by
 unfold rO at h
 split at h
 .cases h
 .rename_i off k B
  split at h
  .cases h
  .rename_i agg n l
   split at h
   .cases h
   .rename_i hn
    have a:∃fs f,P.underlying t=some (.struct fs)/\fs[i]?=some f/\f.offset=off/\f.type=k:=by grind[eY]
    obtain⟨fs,f,hu,d,rfl,rfl⟩:=a
    have key:∀b o:Nat,(Instr.fieldAt t (.pointer (some ⟨b,o,none⟩)) i).run P w=.ok (.pointer (some ⟨b,o+f.offset,none⟩)) w:=by
     intro b o;unfold Instr.fieldAt;rw[h8,run_underlying hu,kD];simp only[d,Instr.sureAddr,h8,qb,kD,fieldPlace,k6 l,hn,jt,Addr.add_lit]
    split at h
    .rename_i b g o;cases h;obtain⟨rfl,hg⟩:=vD c;exact⟨_,key _ _,.cell (.h9 hg)⟩
    .rename_i o C;cases h;obtain⟨rfl,hg⟩:=vF c;exact⟨_,key _ _,.p (.fg hg)⟩
    .rename_i y;obtain⟨b,o,vs,rfl,q,s,A⟩:=Fw c;cases j:mR P f.type y.cells f.offset with
     |none=>rw[j] at h;cases h
     |some z=>
      rw[j] at h;cases h;exact⟨_,key _ _,.p (Mw q s A j)⟩
    .cases h
theorem Eu(w:World){cs:List AV}{z:AV}(d:hS (j5 F ρ) cs vs)(f:∀c∈cs,c.gO=true)(h:mR P t cs off=some z):∃v,(part t vs.toArray off).run P w=.ok v w/\gI F ρ z v:=by
 rcases Av h with⟨k,a,hle,rfl⟩|⟨k,a,b⟩
 .refine⟨.agg ((vs.drop off).take k).toArray,?_,.agg ((d.drop off).take k) (λc b=>f c (Hp (C' b)))⟩;unfold part;rw[h8,zo a];simp only[kD,if_true,h8,k6 a,qb]
  grind
 .obtain⟨v,i,j⟩:=d.get b;refine⟨v,?_,.cell j⟩;unfold part;rw[h8,zo a];simp[i]
theorem Xm(w:World){x r:AV}(h:CG P t x i=some r)(c:gI F ρ x u):∃v,(Instr.field t u i).run P w=.ok v w/\gI F ρ r v:=by
 unfold CG at h
 split at h
 .rename_i off d cs o;obtain⟨vs,rfl,j,k⟩:=Ep c
  have a:∃fs f,P.underlying t=some (.struct fs)/\fs[i]?=some f/\f.offset=off/\f.type=d:=by grind[eY]
  obtain⟨fs,f,hu,b,rfl,rfl⟩:=a;obtain⟨v,l,n⟩:=Eu w j k h;refine⟨v,?_,n⟩;unfold Instr.field;rw[h8,run_underlying hu];simp only[b,asAgg,h8,qb,kD,l]
 .cases h
def Ll(w:World){x i r:AV}(h:gL P t x i=some r)(q:gI F ρ x u)(hi:gI F ρ i j):∃v,(Instr.indexAt t u j).run P w=.ok v w/\gI F ρ r v:=by
 unfold gL at h
 split at h
 .rename_i k n;cases gr hi
  split at h
  .rename_i e tag l hu
   split at h
   .rename_i hn
    split at h
    .rename_i y agg sz hy a
     split at h
     .rename_i A;cases h;obtain⟨base,cap,b,o,d,vs,rfl,hs,_,_⟩:=n7 q;have B:n.toNat<l.length:=(ru.1 hy).1
      have C:l≠[]:=by rintro rfl;simp at B
      have f:=HP hy
      have s:d=sz:=by rw[<-hs.sz y f,A]
      subst s;rw[hs.base C];refine⟨.pointer (some ⟨b,o+n.toNat*d,none⟩),?_,.p (.mQ (vs:=(vs.drop (n.toNat*d)).take d) ?_ ?_ ?_)⟩
      .unfold Instr.indexAt;simp only[asIntOf,h8,qb,kD,run_underlying hu];rw[dO ⟨hn,VW⟩];simp only[h8,qb,kD,k6 a,Addr.add_lit]
      .rw[<-Ri hs.sz hy];exact(hs.cells.drop _).take _
      .exact(hs.has.drop _).take _
      .intro c H;exact hs.s7 c (adA.2 ⟨y,f,H⟩)
     .cases h
    .cases h
   .cases h
  .rename_i e b g len cap hu
   split at h
   .rename_i agg sz a
    split at h
    .rename_i hn;cases h;obtain⟨rfl,hg,_,_⟩:=AA q;refine⟨.pointer (some ⟨ρ.L b g,n.toNat*sz,none⟩),?_,.cell (.h9 hg)⟩;unfold Instr.indexAt;simp only[asIntOf,h8,qb,kD,run_underlying hu];rw[dO ⟨hn.1,VW⟩];simp only[h8,qb,kD,k6 a,Addr.add_lit,vo]
    .cases h
   .cases h
  .rename_i e b off len cap hu
   split at h
   .rename_i agg sz a
    split at h
    .rename_i hn;cases h;obtain⟨rfl,hg,_,_⟩:=JY q;refine⟨.pointer (some ⟨ρ.G b,off+n.toNat*sz,none⟩),?_,.p (.fg hg)⟩;unfold Instr.indexAt;simp only[asIntOf,h8,qb,kD,run_underlying hu];rw[dO ⟨hn.1,VW⟩];simp only[h8,qb,kD,k6 a,Addr.add_lit]
    .cases h
   .cases h
  .rename_i len e b g o hu
   split at h
   .rename_i agg sz a
    split at h
    .rename_i hn;cases h;obtain⟨rfl,hg⟩:=vD q;refine⟨.pointer (some ⟨ρ.L b g,o+n.toNat*sz,none⟩),?_,.cell (.h9 hg)⟩;unfold Instr.indexAt;simp only[asIntOf,Instr.sureAddr,h8,qb,kD,run_underlying hu];rw[dO hn];simp only[h8,qb,kD,k6 a,Addr.add_lit]
    .cases h
   .cases h
  .rename_i len e I o hu
   split at h
   .rename_i agg sz a
    split at h
    .rename_i hn;cases h;obtain⟨rfl,hg⟩:=vF q;refine⟨.pointer (some ⟨ρ.G I,o+n.toNat*sz,none⟩),?_,.p (.fg hg)⟩;unfold Instr.indexAt;simp only[asIntOf,Instr.sureAddr,h8,qb,kD,run_underlying hu];rw[dO hn];simp only[h8,qb,kD,k6 a,Addr.add_lit]
    .cases h
   .cases h
  .rename_i len e y hu
   split at h
   .rename_i agg sz a
    split at h
    .rename_i hn;obtain⟨b,o,vs,rfl,J,K,M⟩:=Fw q;cases D:mR P e y.cells (n.toNat*sz)with
     |none=>rw[D] at h;cases h
     |some z=>
      rw[D] at h;cases h;refine⟨.pointer (some ⟨b,o+n.toNat*sz,none⟩),?_,.p (Mw J K M D)⟩;unfold Instr.indexAt;simp only[asIntOf,Instr.sureAddr,h8,qb,kD,run_underlying hu];rw[dO hn];simp only[h8,qb,kD,k6 a,Addr.add_lit]
    .cases h
   .cases h
  .cases h
 .cases h
def WD(w:World){x i r:AV}(h:Su P t x i=some r)(c:gI F ρ x u)(hi:gI F ρ i j):∃v,(Instr.index t u j).run P w=.ok v w/\gI F ρ r v:=by
 unfold Su at h
 split at h
 .rename_i k n;cases gr hi
  split at h
  .rename_i s hu;cases gr c
   split at h
   .rename_i hn;cases a:s[n.toNat]?with
    |none=>rw[a] at h;cases h
    |some b=>
     rw[a] at h;cases h;refine⟨.int .u8 b.toNat,?_,.p (.sc rfl)⟩;unfold Instr.index;simp[asIntOf,run_underlying hu,hn,a]
   .cases h
  .rename_i len e cs hu
   split at h
   .rename_i agg sz d
    split at h
    .rename_i hn;obtain⟨vs,rfl,f,l⟩:=Ep c;obtain⟨v,o,q⟩:=Eu w f l h;refine⟨v,?_,q⟩;unfold Instr.index;simp only[asIntOf,h8,qb,kD,run_underlying hu];rw[dO hn];simp only[h8,k6 d,kD,o]
    .cases h
   .cases h
  .cases h
 .cases h
end
end Go.lD
