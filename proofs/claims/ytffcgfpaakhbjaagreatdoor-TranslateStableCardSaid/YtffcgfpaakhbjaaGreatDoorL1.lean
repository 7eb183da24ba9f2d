/- Part of the proof of TranslateStable: layer. -/
import Derived.Orders
import Derived.Below
import Derived.Laws.AppendOwn
import Derived.Laws.Cells
import Derived.Laws.CopyRow
import Derived.Laws.Small
import Derived.Laws.Pointers
import Derived.WalkSpells
import Derived.Test.YtffcgfpaakhbjaaGreatDoorB1
set_option linter.all false
namespace Go.jN
open Go
inductive Tag where
 |gY|full|loc (k g:Nat)
inductive AV where
 |undef|sc (v:Value)|ju (x:AV)|gx (b g off:Nat)|di (o off:Nat)|slice (tag:Tag) (l:List AV)|agg (cs:List AV)|tuple (vs:List AV)|func (fn:Fn) (first cap:List AV)
 |iface (t:TypeId) (x:AV)|um (b g len cap:Nat)|nR (o:Nat)|vp (ks:List Value) (xs:List AV)|lb (o since:Nat) (seen:List Nat)|oZ (o off len cap:Nat)|DI
instance:Inhabited AV:=⟨.undef⟩
def AV.cells:AV->List AV
 |.agg cs=>cs|x=>[x]
def AV.ej:AV->Bool
 |.agg _=>false|.tuple _=>false|.vp _ _=>false|.lb _ _ _=>false|_=>true
def xi:Value->Bool
 |.bool _=>true|.int _ _=>true|.float _ _=>true|.string _=>true|.pointer none=>true|.map none=>true|.nilFunc=>true|.nilIface=>true|_=>false
inductive fi {α β:Type} (R:α->β->Prop):List α->List β->Prop
 |nil:fi R [] []|cons {a b as bs}:R a b->fi R as bs->fi R (a::as) (b::bs)
def fi.length{α β:Type}{R:α->β->Prop}{as:List α}{bs:List β}(h:fi R as bs):as.length=bs.length:=by
 induction h with
 |nil=>rfl|cons _ _ a=>simp[a]
def fi.mono{α β:Type}{R S:α->β->Prop}{as:List α}{bs:List β}(h:fi R as bs)(hs:∀a b,a∈as->R a b->S a b):fi S as bs:=by
 induction h with
 |nil=>exact .nil|cons c _ d=>exact .cons (hs _ _ aas c) (d λa b e=>hs a b aau)
def fi.append{α β:Type}{R:α->β->Prop}{as a:List α}{bs b:List β}(h:fi R as bs)(c:fi R a b):fi R (as++a) (bs++b):=by
 induction h with
 |nil=>exact c|cons d _ e=>exact .cons d e
def fi.take{α β:Type}{R:α->β->Prop}{as:List α}{bs:List β}(h:fi R as bs)(n:Nat):fi R (as.take n) (bs.take n):=by
 induction h generalizing n with
 |nil=>simp;exact .nil|cons a _ b=>cases n with
  |zero=>exact .nil|succ n=>exact .cons a (b n)
def fi.drop{α β:Type}{R:α->β->Prop}{as:List α}{bs:List β}(h:fi R as bs)(n:Nat):fi R (as.drop n) (bs.drop n):=by
 induction h generalizing n with
 |nil=>simp;exact .nil|cons a b c=>cases n with
  |zero=>exact .cons a b|succ n=>exact c n
def fi.get{α β:Type}{R:α->β->Prop}{as:List α}{bs:List β}(h:fi R as bs){i:Nat}{a:α}(c:as[i]?=some a):∃b,bs[i]?=some b/\R a b:=by
 induction h generalizing i with
 |nil=>simp at c
 |cons d _ e=>cases i with
  |zero=>simp at c;subst c;exact⟨_,rfl,d⟩
  |succ i=>simp at c;simpa using e c
def fi.mem{α β:Type}{R:α->β->Prop}{as:List α}{bs:List β}(h:fi R as bs){b:β}(hb:b∈bs):∃a∈as,R a b:=by
 induction h with
 |nil=>simp at hb
 |cons c _ d=>
  rcases jW.1 hb with rfl|hb
  ·exact⟨_,aas,c⟩
  ·obtain⟨a,e,f⟩:=d hb;exact⟨a,aau,f⟩
def fi.tE{α α' β:Type}{R:α->β->Prop}{S:α'->β->Prop}{as:List α}{bs:List β}(f:α->α')(h:fi R as bs)(hs:∀a b,a∈as->R a b->S (f a) b):fi S (as.map f) bs:=by
 induction h with
 |nil=>exact .nil|cons c _ d=>exact .cons (hs _ _ aas c) (d λa b e=>hs a b aau)
abbrev js:=Nat->Nat->Option Value
def js.has(F:js)(b o:Nat)(vs:List Value):Prop:=∀i v,vs[i]?=some v->F b (o+i)=some v
mutual
inductive eZ (F:js) (G:Nat->Nat) (n:Nat):AV->Value->Prop
 |undef {v}:v.oneCell'=true->eZ F G n .undef v|sc {v}:xi v=true->eZ F G n (.sc v) v|ju {x b o vs}:ft F G n x.cells vs->F.has b o vs->(∀c∈x.cells,c.ej=true)->eZ F G n (.ju x) (.pointer (some ⟨b,o,none⟩))|di {o off}:o<n->eZ F G n (.di o off) (.pointer (some ⟨G o,off,none⟩))|nR {o}:o<n->eZ F G n (.nR o) (.map (some (G o)))|oZ {o off len cap}:o<n->len<=cap->cap<=maxLen->eZ F G n (.oZ o off len cap) (.slice (some ⟨G o,off,none⟩) len cap)|slice {tag l vs b o base cap sz}:ft F G n (l.flatMap AV.cells) vs->F.has b o vs->(l≠[]->base=some ⟨b,o,none⟩)->(∀x∈l,x.cells.length=sz)->(∀c∈l.flatMap AV.cells,c.ej=true)->l.length<=cap->cap<=maxLen->tag=.gY\/tag=.full/\cap=l.length->eZ F G n (.slice tag l) (.slice base l.length cap)|DI {base}:eZ F G n .DI (.slice base 0 0)|agg {cs vs}:ft F G n cs vs->(∀c∈cs,c.ej=true)->eZ F G n (.agg cs) (.agg vs.toArray)|tuple {cs vs}:ft F G n cs vs->eZ F G n (.tuple cs) (.tuple vs.toArray)|func {fn f c vf vc}:ft F G n f vf->ft F G n c vc->eZ F G n (.func fn f c) (.func fn vf.toArray vc.toArray)|iface {t x v}:eZ F G n x v->eZ F G n (.iface t x) (.iface t v)
inductive ft (F:js) (G:Nat->Nat) (n:Nat):List AV->List Value->Prop
 |nil:ft F G n [] []|cons {x v xs vs}:eZ F G n x v->ft F G n xs vs->ft F G n (x::xs) (v::vs)
end
section
variable{F F':js} {G G':Nat->Nat} {n n':Nat}
def ft.sy{xs vs}(h:ft F G n xs vs):fi (eZ F G n) xs vs:=by
 induction xs generalizing vs with
 |nil=>cases h;exact .nil
 |cons x xs a=>cases h with|cons b c=>exact .cons b (a c)
def ft.nK{xs vs}(h:fi (eZ F G n) xs vs):ft F G n xs vs:=by
 induction h with
 |nil=>exact .nil|cons a _ b=>exact .cons a b
structure Et (F F':js) (G G':Nat->Nat) (n n':Nat):Prop where
 mF:∀b o v,F b o=some v->F' b o=some v
 mn:n<=n'
 mG:∀o,o<n->G' o=G o
def Et.refl:Et F F G G n n:=⟨λ_ _ _ h=>h,fT _,λ_ _=>rfl⟩
def js.has.grow{b o vs}(h:F.has b o vs)(hg:Et F F' G G' n n'):F'.has b o vs:=λi v a=>hg.mF _ _ _ (h i v a)
mutual
def eZ.grow(hg:Et F F' G G' n n'):∀{x v},eZ F G n x v->eZ F' G' n' x v
 |_,_,.undef h=>.undef h|_,_,.sc h=>.sc h|_,_,.ju a b c=>.ju (a.grow hg) (b.grow hg) c|_,_,.di (o:=o) (off:=off) h=>by
  rw[<-hg.mG o h];exact .di (O6 h hg.mn)
 |_,_,.nR (o:=o) h=>by
  rw[<-hg.mG o h];exact .nR (O6 h hg.mn)
 |_,_,.oZ (o:=o) h b c=>by
  rw[<-hg.mG o h];exact .oZ (O6 h hg.mn) b c
 |_,_,.slice a b c d e f g i=>.slice (a.grow hg) (b.grow hg) c d e f g i|_,_,.DI=>.DI|_,_,.agg a b=>.agg (a.grow hg) b|_,_,.tuple a=>.tuple (a.grow hg)|_,_,.func a b=>.func (a.grow hg) (b.grow hg)|_,_,.iface a=>.iface (a.grow hg)
def ft.grow(hg:Et F F' G G' n n'):∀{xs vs},ft F G n xs vs->ft F' G' n' xs vs
 |_,_,.nil=>.nil|_,_,.cons a b=>.cons (a.grow hg) (b.grow hg)
end
def eZ.J3{x v}(h:eZ F G n x v)(a:x.ej=true):v.oneCell'=true:=by
 cases h with
 |undef h=>exact h|sc h=>revert h;cases v<;>simp[xi,Value.oneCell']
 |agg b c=>simp[AV.ej] at a
 |tuple b=>simp[AV.ej] at a
 |_=>rfl
def eZ.cells{x v}(h:eZ F G n x v)(d:∀vs,x≠ .tuple vs):ft F G n x.cells v.cells.toList:=by
 cases h with
 |undef h=>cases v<;>first|exact .cons (.undef h) .nil|(simp[Value.oneCell'] at h;done)
 |sc h=>cases v<;>first|exact .cons (.sc h) .nil|(simp[xi] at h;done)
 |ju a b c=>exact .cons (.ju a b c) .nil|di a=>exact .cons (.di a) .nil|nR a=>exact .cons (.nR a) .nil|oZ a b c=>exact .cons (.oZ a b c) .nil|slice a b c e f g i j=>exact .cons (.slice a b c e f g i j) .nil|DI=>exact .cons .DI .nil|agg a b=>exact a|tuple a=>exact absurd rfl (d _)|func a b=>exact .cons (.func a b) .nil|iface a=>exact .cons (.iface a) .nil
end
structure Maps where
 G:Nat->Nat
 n:Nat
 L:Nat->Nat->Nat
 lg:Nat->Nat
 A:Nat->Nat->Option (Nat×Nat×Nat)
 ag:Nat->Nat
def ry(ρ:Maps)(k g:Nat)(l:List AV)(base:Option Addr)(cap:Nat):Prop:=
 match ρ.A k g with
 |none=>cap=l.length|some (b,c,sz)=>base=some ⟨b,0,none⟩/\cap=c/\∀x∈l,x.cells.length=sz
inductive ir (F:js) (ρ:Maps):AV->Value->Prop
 |p {x v}:eZ F ρ.G ρ.n x v->ir F ρ x v|gx {b g off}:g<=ρ.lg b->ir F ρ (.gx b g off) (.pointer (some ⟨ρ.L b g,off,none⟩))|loc {k g l base cap}:eZ F ρ.G ρ.n (.slice .gY l) (.slice base l.length cap)->g<=ρ.ag k->ry ρ k g l base cap->ir F ρ (.slice (.loc k g) l) (.slice base l.length cap)|um {b g len cap}:g<=ρ.lg b->len<=cap->cap<=maxLen->ir F ρ (.um b g len cap) (.slice (some ⟨ρ.L b g,0,none⟩) len cap)
inductive eJ (F:js) (ρ:Maps):AV->Value->Prop
 |cell {x v}:ir F ρ x v->eJ F ρ x v|agg {cs vs}:fi (ir F ρ) cs vs->(∀c∈cs,c.ej=true)->eJ F ρ (.agg cs) (.agg vs.toArray)
structure uT (F F':js) (ρ ρ':Maps):Prop where
 g:Et F F' ρ.G ρ'.G ρ.n ρ'.n
 lg:∀b,ρ.lg b<=ρ'.lg b
 L:∀b g,g<=ρ.lg b->ρ'.L b g=ρ.L b g
 ag:∀k,ρ.ag k<=ρ'.ag k
 A:∀k g,g<=ρ.ag k->ρ'.A k g=ρ.A k g
section
variable{F F':js} {ρ ρ':Maps}
def ir.grow(hg:uT F F' ρ ρ'){x v}(h:ir F ρ x v):ir F' ρ' x v:=by
 cases h with
 |p h=>exact .p (h.grow hg.g)|gx h=>
  rename_i b g off;rw[<-hg.L b g h];exact .gx (Ei h (hg.lg b))
 |loc d a c=>
  refine .loc (d.grow hg.g) (Ei a (hg.ag _)) ?_;unfold ry;rw[hg.A _ _ a];exact c
 |um h a c=>
  rename_i b g len cap;rw[<-hg.L b g h];exact .um (Ei h (hg.lg b)) a c
def eJ.grow(hg:uT F F' ρ ρ'){x v}(h:eJ F ρ x v):eJ F' ρ' x v:=by
 cases h with
 |cell h=>exact .cell (h.grow hg)|agg a b=>exact .agg (a.mono λ_ _ _ h=>h.grow hg) b
def eJ.p{x v}(h:eZ F ρ.G ρ.n x v):eJ F ρ x v:=.cell (.p h)
end
def AV.gA:AV->AV
 |.slice _ l=>.slice .gY l|.gx _ _ _=>.undef|.um _ _ _ _=>.undef|x=>x
def AV.norm:AV->AV
 |.agg cs=>.agg (cs.map AV.gA)|x=>x.gA
section
variable{F F':js} {ρ ρ':Maps}
def eZ.gY{G:Nat->Nat}{n:Nat}{tag l v}(h:eZ F G n (.slice tag l) v):eZ F G n (.slice .gY l) v:=by
 cases h with
 |slice a b c d e f g i=>exact .slice a b c d e f g (.inl rfl)
def eZ.gA{G:Nat->Nat}{n:Nat}{x v}(h:eZ F G n x v):eZ F G n x.gA v:=by
 cases x with
 |slice tag l=>exact h.gY|gx b g off=>cases h
 |um b g len cap=>cases h
 |_=>exact h
def ir.gA{x v}(h:ir F ρ x v):eZ F ρ.G ρ.n x.gA v:=by
 cases h with
 |p h=>exact h.gA|gx h=>exact .undef rfl|loc a b c=>exact a|um a b c=>exact .undef rfl
def AV.Dh(x:AV):x.gA.ej=x.ej:=by cases x<;>rfl
def eJ.norm{x v}(h:eJ F ρ x v):eZ F ρ.G ρ.n x.norm v:=by
 have d:∀{cs:List AV} {vs:List Value},fi (ir F ρ) cs vs->(∀c∈cs,c.ej=true)->eZ F ρ.G ρ.n (AV.agg cs).norm (.agg vs.toArray):=by
  intro cs vs e f;refine .agg (ft.nK (e.tE AV.gA λa b _ h=>h.gA)) ?_;intro c g;obtain⟨a,i,rfl⟩:=ll.1 g;rw[AV.Dh];exact f a i
 cases h with
 |agg e f=>exact d e f|cell h=>
  cases x with
  |agg cs=>
   cases h with
   |p h=>
    cases h with
    |agg e f=>exact d (e.sy.mono λ_ _ _ h=>.p h) f
  |_=>exact h.gA
def eJ.cells{x v}(h:eJ F ρ x v)(d:∀vs,x≠ .tuple vs):fi (ir F ρ) x.cells v.cells.toList:=by
 cases h with
 |agg a b=>exact a|cell h=>
  cases h with
  |p h=>exact(h.cells d).sy.mono λ_ _ _ h=>.p h|gx h=>exact .cons (.gx h) .nil|loc a b c=>exact .cons (.loc a b c) .nil|um a b c=>exact .cons (.um a b c) .nil
def ir.J3{x v}(h:ir F ρ x v)(a:x.ej=true):v.oneCell'=true:=by
 cases h with
 |p h=>exact h.J3 a|gx h=>rfl|loc b c d=>rfl|um b c d=>rfl
def eJ.qu{x v}(h:eJ F ρ x v)(d:∀vs,x≠ .tuple vs):∀c∈x.cells,c.ej=true:=by
 cases h with
 |agg b a=>exact a|cell h=>
  cases h with
  |p h=>
   cases h with
   |agg b a=>exact a|tuple b=>exact absurd rfl (d _)|_=>simp[AV.cells,AV.ej]
  |gx h=>simp[AV.cells,AV.ej]|loc b a e=>simp[AV.cells,AV.ej]|um b a e=>simp[AV.cells,AV.ej]
end
end Go.jN
namespace Go.jN
open Go
abbrev cc:=List (List AV)
abbrev cV:=Nat->Option AV
structure Fr where
 env:Nat->AV
 box:Nat->Option (List AV)
 gen:Nat->Nat
 r_:Nat->Option Nat
 dv:Nat->Nat
def eO{α:Type}(f:Nat->α)(i:Nat)(x:α):Nat->α:=λj=>if j=i then x else f j
def Fr.put(fr:Fr)(d:Option Nat)(x:AV):Fr:=
 match d with
 |some d=>{fr with env:=eO fr.env d x}|none=>fr
section
variable(P:Program)
def dE(t:TypeId):Option (Bool×Nat):=
 match P.underlying t,P.info? t with
 |some d,some i=>some (match d with|.struct _|.array _ _=>true|_=>false,i.size)
 |_,_=>none
def zeroOf(t:TypeId):Option Value:=(P.info? t).bind (·.zero)
def dD(t i:Nat):Option (Nat×TypeId):=
 match P.underlying t with
 |some (.struct fs)=>(fs[i]?).map λf=>(f.offset,f.type)|_=>none
def Md(t:TypeId):Option (Nat×TypeId):=
 match P.underlying t with
 |some (.array n e)=>some (n,e)|_=>none
def k0(t:TypeId)(cs:List AV)(off:Nat):Option AV:=
 match dE P t with
 |some (true,n)=>if off+n<=cs.length then some (.agg ((cs.drop off).take n))else none|some (false,_)=>cs[off]?|none=>none
def sG(t:TypeId)(x:AV):Bool:=
 match dE P t,x with
 |some (true,n),.agg cs=>cs.length==n|some (false,_),.agg _=>false|some (false,_),.tuple _=>false|some (false,_),.vp _ _=>false|some (false,_),.lb _ _ _=>false|some (false,_),_=>true|_,_=>false
end
def setCells(cs:List AV)(off:Nat)(new:List AV):List AV:=cs.take off++new++cs.drop (off+new.length)
def oX:Value->AV
 |.slice none 0 0=>.slice .full []|.func fn f c=>if f.size=0/\c.size=0 then .func fn [] [] else .undef|.agg _=>.undef|.tuple _=>.undef|v=>if xi v then .sc v else .undef
def ofValue:Value->AV
 |.agg cs=>.agg (cs.toList.map oX)|.tuple cs=>.tuple (cs.toList.map oX)|v=>oX v
def rL:Value->Bool
 |.agg cs=>cs.all (·.oneCell')|.tuple cs=>cs.all (·.oneCell')|_=>true
def wY(v:Value):(oX v).ej=true:=by
 unfold oX
 split<;>first|rfl|(split<;>rfl)
def Dr(F:js)(G:Nat->Nat)(n:Nat)(v:Value)(h:v.oneCell'=true):eZ F G n (oX v) v:=by
 unfold oX
 split
 ·exact .slice (l:=[]) (vs:=[]) (b:=0) (o:=0) (sz:=0) .nil (λ_ _ h=>by simp at h) aas aas aas aas (by simp[maxLen]) (.inr ⟨rfl,rfl⟩)
 ·rename_i fn f c
  split
  ·rename_i hs;obtain⟨a,d⟩:=hs;have e:f=#[]:=Uo a;have g:c=#[]:=Uo d;subst e;subst g;exact .func (vf:=[]) (vc:=[]) .nil .nil
  ·exact .undef rfl
 ·simp[Value.oneCell'] at h
 ·simp[Value.oneCell'] at h
 ·split
  ·exact .sc (by assumption)
  ·exact .undef h
def pd(F:js)(G:Nat->Nat)(n:Nat):∀(vs:List Value),(∀v∈vs,v.oneCell'=true)->ft F G n (vs.map oX) vs
 |[],_=>.nil|v::vs,h=>.cons (Dr F G n v (h v aas)) (pd F G n vs λu hu=>h u (by simp[hu]))
def DM{v:Value}(h:v.oneCell'=true):ofValue v=oX v:=by
 cases v<;>first|rfl|(simp[Value.oneCell'] at h)
def wM(F:js)(G:Nat->Nat)(n:Nat)(v:Value)(h:rL v=true):eZ F G n (ofValue v) v:=by
 cases v with
 |agg cs=>
  have b:∀v∈cs.toList,v.oneCell'=true:=λv d=>by
   have e:cs.all (·.oneCell')=true:=h
   exact HI.1 e v (uX.1 d)
  exact .agg (vs:=cs.toList) (pd F G n cs.toList b) (by
   intro c f;obtain⟨a,_,rfl⟩:=ll.1 f
   exact wY a)
 |tuple cs=>
  have b:∀v∈cs.toList,v.oneCell'=true:=λv d=>by
   have e:cs.all (·.oneCell')=true:=h
   exact HI.1 e v (uX.1 d)
  exact .tuple (vs:=cs.toList) (pd F G n cs.toList b)
 |_=>(rw[DM rfl];exact Dr F G n _ rfl)
section
variable(T:cV) (fr:Fr)
def ev:Operand->AV
 |.tmp t=>fr.env t|.const v=>ofValue v|.global g=>match T g with|some x=>.ju x|none=>.undef
 |.func f=>.func (.func f) [] []
def gW:Operand->Bool
 |.const v=>rL v|_=>true
end
def q4(F:js)(ρ:Maps)(fr:Fr)(a:Act):Prop:=∀t,eJ F ρ (fr.env t) (a.tmps.getD t undef)
def wO(T:cV)(F:js)(ρ:Maps):Prop:=∀g x,T g=some x->eZ F ρ.G ρ.n (.ju x) (.pointer (some ⟨g,0,none⟩))
def eF{T:cV}{fr:Fr}{F:js}{ρ:Maps}{a:Act}(he:q4 F ρ fr a)(b:wO T F ρ)(x:Operand)(c:gW x=true):eJ F ρ (ev T fr x) (a.eval x):=by
 cases x with
 |tmp t=>exact he t|const v=>exact .p (wM _ _ _ v c)|global g=>
  show eJ F ρ (match T g with|some x=>.ju x|none=>.undef) _;cases h:T g with
  |none=>exact .p (.undef rfl)|some x=>exact .p (b g x h)
 |func f=>exact .p (.func (vf:=[]) (vc:=[]) .nil .nil)
def qF(op:BinOp)(k:IntKind)(a b:Int):Option Value:=
 match op with
 |.add=>some (.int k (k.wrap (a+b)))|.sub=>some (.int k (k.wrap (a-b)))|.mul=>some (.int k (k.wrap (a*b)))|.quo=>if b=0 then none else some (.int k (k.wrap (a.tdiv b)))|.rem=>if b=0 then none else some (.int k (a.tmod b))|.and=>some (.int k (k.wrap (BitVec.ofInt k.bits a&&&BitVec.ofInt k.bits b).toNat))|.or=>some (.int k (k.wrap (BitVec.ofInt k.bits a|||BitVec.ofInt k.bits b).toNat))|.xor=>some (.int k (k.wrap (BitVec.ofInt k.bits a^^^BitVec.ofInt k.bits b).toNat))|.andNot=>some (.int k (k.wrap (BitVec.ofInt k.bits a&&&~~~BitVec.ofInt k.bits b).toNat))|.eql=>some (.bool (a==b))|.neq=>some (.bool (a !=b))|.lss=>some (.bool (a<b))|.leq=>some (.bool (a<=b))|.gtr=>some (.bool (a>b))|.geq=>some (.bool (a>=b))|_=>none
def I2(op:BinOp)(x y:ByteArray):Option Value:=
 match op with
 |.add=>if((x.size+y.size:Nat):Int)>IntKind.i64.max then none else some (.string (x++y))|.eql=>some (.bool (x.toList==y.toList))|.neq=>some (.bool !(x.toList==y.toList))|.lss=>some (.bool (Op.bytesLess x.toList y.toList))|.leq=>some (.bool (Op.bytesLess x.toList y.toList||x.toList==y.toList))|.gtr=>some (.bool !(Op.bytesLess x.toList y.toList||x.toList==y.toList))|.geq=>some (.bool !(Op.bytesLess x.toList y.toList))|_=>none
def Br:AV->Bool
 |.ju _|.gx _ _ _|.di _ _=>true|_=>false
def vx(P:Program)(op:BinOp)(t:TypeId)(x y:AV):Option AV:=
 match op,x,y with
 |.shl,.sc (.int k a),.sc (.int _ b)=>if b<0 then none else some (.sc (.int k (k.wrap (a*2^min b.toNat k.bits))))|.shr,.sc (.int k a),.sc (.int _ b)=>if b<0 then none else some (.sc (.int k (a.fdiv (2^min b.toNat k.bits))))|op,.sc (.int k a),.sc (.int k' b)=>if k=k' then(qF op k a b).map .sc else none|op,.sc (.string a),.sc (.string b)=>(I2 op a b).map .sc|.eql,.sc (.bool a),.sc (.bool b)=>match P.underlying t with|some .bool=>some (.sc (.bool (a==b)))|_=>none
 |.neq,.sc (.bool a),.sc (.bool b)=>match P.underlying t with|some .bool=>some (.sc (.bool (!(a==b))))|_=>none
 |.eql,x,.sc (.pointer none)=>match P.underlying t with
  |some (.pointer _)=>if Br x then some (.sc (.bool false))else(match x with|.sc (.pointer none)=>some (.sc (.bool true))|_=>none)
  |_=>none
 |.neq,x,.sc (.pointer none)=>match P.underlying t with
  |some (.pointer _)=>if Br x then some (.sc (.bool true))else(match x with|.sc (.pointer none)=>some (.sc (.bool false))|_=>none)
  |_=>none
 |.eql,.func _ _ _,.sc .nilFunc=>match P.underlying t with|some (.func ..)=>some (.sc (.bool false))|_=>none
 |.neq,.func _ _ _,.sc .nilFunc=>match P.underlying t with|some (.func ..)=>some (.sc (.bool true))|_=>none
 |.eql,.sc .nilFunc,.sc .nilFunc=>match P.underlying t with|some (.func ..)=>some (.sc (.bool true))|_=>none
 |.neq,.sc .nilFunc,.sc .nilFunc=>match P.underlying t with|some (.func ..)=>some (.sc (.bool false))|_=>none
 |_,_,_=>none
def YI(op:UnOp)(x:AV):Option AV:=
 match op,x with
 |.neg,.sc (.int k n)=>some (.sc (.int k (k.wrap (0-n))))|.not,.sc (.bool b)=>some (.sc (.bool !b))|_,_=>none
def eb{F:js}{ρ:Maps}{u v:Value}(h:eJ F ρ (.sc u) v):v=u:=by
 cases h with
 |cell h=>cases h with|p h=>cases h;rfl
def Fw(P:Program)(w:World){op:BinOp}{k:IntKind}{a b:Int}{v:Value}(t:TypeId)(h:qF op k a b=some v):(binOp op t (.int k a) (.int k b)).run P w=.ok v w/\xi v=true:=by
 cases op<;>simp only[qF,uq,reduceCtorEq] at h<;>(try(split at h))<;>
  (first
   |(subst h;refine⟨?_,rfl⟩;simp[binOp,Op.intArith,Op.intBits,Op.intCmp,Op.intDiv, *])
   |(cases h;refine⟨?_,rfl⟩;simp[binOp,Op.intArith,Op.intBits,Op.intCmp,Op.intDiv, *])
   |cases h)
def Gq(P:Program)(w:World){op:BinOp}{a b:ByteArray}{v:Value}(t:TypeId)(h:I2 op a b=some v):(binOp op t (.string a) (.string b)).run P w=.ok v w/\xi v=true:=by
 cases op<;>simp only[I2,uq,reduceCtorEq] at h<;>(try(split at h))<;>
  (first
   |(subst h;refine⟨?_,rfl⟩;simp[binOp,Op.stringOp, *])
   |(cases h;refine⟨?_,rfl⟩;simp_all [binOp,Op.stringOp])
   |cases h)
def C6{F:js}{ρ:Maps}{x:AV}{v:Value}(b:Br x=true)(h:eJ F ρ x v):∃a,v=.pointer (some a):=by
 cases h with
 |agg c d=>simp[Br] at b
 |cell h=>
  cases h with
  |gx h=>exact⟨_,rfl⟩|loc c d e=>simp[Br] at b
  |um c d e=>simp[Br] at b
  |p h=>cases h<;>first|(simp[Br] at b;done)|exact⟨_,rfl⟩
def wQ{P:Program}{t e:TypeId}(h:P.underlying t=some (.pointer e)):P.underlying t=some (.pointer (P.pointee t)):=by
 simp[Program.pointee,h]
def zq{F:js}{ρ:Maps}{fn:Fn}{f c:List AV}{v:Value}(h:eJ F ρ (.func fn f c) v):∃vf vc:List Value,v=.func fn vf.toArray vc.toArray/\fi (eZ F ρ.G ρ.n) f vf/\fi (eZ F ρ.G ρ.n) c vc:=by
 cases h with
 |cell h=>cases h with
  |p h=>cases h with|func a b=>exact⟨_,_,rfl,a.sy,b.sy⟩
def OS(P:Program)(w:World){t:TypeId}{ps rs:Array TypeId}{b:Bool}(hu:P.underlying t=some (.func ps rs b))(fn:Fn)(f c:Array Value):(binOp .eql t (.func fn f c) .nilFunc).run P w=.ok (.bool false) w/\(binOp .neq t (.func fn f c) .nilFunc).run P w=.ok (.bool true) w:=by
 have h:∀d,(Op.equalIn (d+1) t (.func fn f c) .nilFunc).run P w=.ok false w:=λd=>by simp[Op.equalIn,run_underlying hu]
 have a:binOp .eql t (.func fn f c) .nilFunc=(do pure (.bool (<-Op.equalIn (9999+1) t (.func fn f c) .nilFunc))):=rfl;have e:binOp .neq t (.func fn f c) .nilFunc=(do pure (.bool (!(<-Op.equalIn (9999+1) t (.func fn f c) .nilFunc)))):=rfl;rw[a,e,fq,fq,h 9999];exact⟨rfl,rfl⟩
def Oo(P:Program)(w:World){t:TypeId}{ps rs:Array TypeId}{b:Bool}(hu:P.underlying t=some (.func ps rs b)):(binOp .eql t .nilFunc .nilFunc).run P w=.ok (.bool true) w/\(binOp .neq t .nilFunc .nilFunc).run P w=.ok (.bool false) w:=by
 have h:∀d,(Op.equalIn (d+1) t .nilFunc .nilFunc).run P w=.ok true w:=λd=>by simp[Op.equalIn,run_underlying hu]
 have a:binOp .eql t .nilFunc .nilFunc=(do pure (.bool (<-Op.equalIn (9999+1) t .nilFunc .nilFunc))):=rfl;have c:binOp .neq t .nilFunc .nilFunc=(do pure (.bool (!(<-Op.equalIn (9999+1) t .nilFunc .nilFunc)))):=rfl;rw[a,c,fq,fq,h 9999];exact⟨rfl,rfl⟩
def Jj:Value->Bool
 |.nilIface=>false|.agg _=>false|_=>true
def Me(P:Program)(w:World)(op:BinOp)(t:TypeId)(x y:Operand){u v:Value}(h:Jj u=true):(eqGuard op t x y u v).run P w=.ok () w:=by
 unfold eqGuard
 cases u<;>first|(simp[Jj] at h;done)|(cases op<;>rfl)
def O9(P:Program)(w:World){F:js}{ρ:Maps}{op:BinOp}{t:TypeId}{x y r:AV}{u v:Value}(h:vx P op t x y=some r)
  (b:eJ F ρ x u) (hy:eJ F ρ y v):∃z,(binOp op t u v).run P w=.ok z w/\r=.sc z/\xi z=true/\Jj u=true:=by
 unfold vx at h
 split at h
 ·cases eb b;cases eb hy
  split at h
  ·cases h
  ·rename_i c;cases h;exact⟨_,by simp[binOp,Op.shift,c],rfl,rfl,rfl⟩
 ·cases eb b;cases eb hy
  split at h
  ·cases h
  ·rename_i c;cases h;exact⟨_,by simp[binOp,Op.shift,c],rfl,rfl,rfl⟩
 ·cases eb b;cases eb hy
  split at h
  ·rename_i e;subst e;cases hi:qF op _ _ _ with
   |none=>rw[hi] at h;cases h
   |some z=>
    rw[hi] at h;cases h;exact⟨z,(Fw P w t hi).1,rfl,(Fw P w t hi).2,rfl⟩
  ·cases h
 ·cases eb b;cases eb hy;cases hi:I2 op _ _ with
  |none=>rw[hi] at h;cases h
  |some z=>
   rw[hi] at h;cases h;exact⟨z,(Gq P w t hi).1,rfl,(Gq P w t hi).2,rfl⟩
 ·cases eb b;cases eb hy
  split at h
  ·rename_i hu;cases h;exact⟨_,run_eql_bool w t _ _ hu,rfl,rfl,rfl⟩
  ·cases h
 ·cases eb b;cases eb hy
  split at h
  ·rename_i hu;cases h;exact⟨_,run_neq_bool w t _ _ hu,rfl,rfl,rfl⟩
  ·cases h
 ·cases eb hy
  split at h
  ·rename_i hu
   split at h
   ·rename_i d;obtain⟨a,rfl⟩:=C6 d b;cases h;exact⟨_,run_eql_pointer_nil w t _ (wQ hu),aas,rfl,rfl⟩
   ·split at h
    ·cases eb b;cases h;exact⟨_,run_eql_pointer_nil w t _ (wQ hu),aas,rfl,rfl⟩
    ·cases h
  ·cases h
 ·cases eb hy
  split at h
  ·rename_i hu
   split at h
   ·rename_i d;obtain⟨a,rfl⟩:=C6 d b;cases h;exact⟨_,run_neq_pointer_nil w t _ (wQ hu),aas,rfl,rfl⟩
   ·split at h
    ·cases eb b;cases h;exact⟨_,run_neq_pointer_nil w t _ (wQ hu),aas,rfl,rfl⟩
    ·cases h
  ·cases h
 ·cases eb hy;obtain⟨vf,vc,rfl,_,_⟩:=zq b
  split at h
  ·rename_i hu;cases h;exact⟨.bool false,(OS P w hu _ _ _).1,rfl,rfl,rfl⟩
  ·cases h
 ·cases eb hy;obtain⟨vf,vc,rfl,_,_⟩:=zq b
  split at h
  ·rename_i hu;cases h;exact⟨.bool true,(OS P w hu _ _ _).2,rfl,rfl,rfl⟩
  ·cases h
 ·cases eb b;cases eb hy
  split at h
  ·rename_i hu;cases h;exact⟨.bool true,(Oo P w hu).1,rfl,rfl,rfl⟩
  ·cases h
 ·cases eb b;cases eb hy
  split at h
  ·rename_i hu;cases h;exact⟨.bool false,(Oo P w hu).2,rfl,rfl,rfl⟩
  ·cases h
 ·cases h
end Go.jN
namespace Go.jN
open Go
def mI{l:List AV}{sz:Nat}(h:∀x∈l,x.cells.length=sz):(l.flatMap AV.cells).length=l.length*sz:=by
 induction l with
 |nil=>simp|cons x l a=>
  rw[xS,ni,a λy hy=>h y (by simp[hy]),h x aas,j0,yj,Rs,V8]
def Bk{l:List AV}{sz:Nat}(h:∀x∈l,x.cells.length=sz)(n:Nat):(l.take n).flatMap AV.cells=(l.flatMap AV.cells).take (n*sz):=by
 induction l generalizing n with
 |nil=>simp|cons x l a=>
  cases n with
  |zero=>simp|succ n=>
   have b:=h x aas
   rw[List.take_succ_cons,xS,xS,a (λy hy=>h y (by simp[hy])),yj,Rs,List.take_append,b,LO (l:=x.cells) VW,TP]
def xh{l:List AV}{sz:Nat}(h:∀x∈l,x.cells.length=sz)(n:Nat):(l.drop n).flatMap AV.cells=(l.flatMap AV.cells).drop (n*sz):=by
 induction l generalizing n with
 |nil=>simp|cons x l a=>
  cases n with
  |zero=>simp|succ n=>
   have b:=h x aas
   rw[List.drop_succ_cons,xS,a (λy hy=>h y (by simp[hy])),yj,Rs,PE,b,F_ (as:=x.cells) VW,TP,m6]
def Dd{l:List AV}{sz:Nat}(h:∀x∈l,x.cells.length=sz){i:Nat}{x:AV}(hi:l[i]?=some x):((l.flatMap AV.cells).drop (i*sz)).take sz=x.cells:=by
 have b:=xh h i;have a:i<l.length:=(jj.1 hi).1
 have c:l.drop i=x::l.drop (i+1):=by
  have:=Ma a;rw[this]
  congr 1
  exact(jj.1 hi).2
 rw[<-b,c,xS,List.take_append,LO (by have:=h x (Bh hi);omega)];simp[h x (Bh hi)]
def js.has.drop{F:js}{b o:Nat}{vs:List Value}(h:F.has b o vs)(n:Nat):F.has b (o+n) (vs.drop n):=by
 intro i v a;rw[Px] at a;have:=h _ v a
 rwa [<-Pp] at this
def js.has.take{F:js}{b o:Nat}{vs:List Value}(h:F.has b o vs)(n:Nat):F.has b o (vs.take n):=by
 intro i v a;rw[E6] at a
 split at a
 ·exact h i v a
 ·cases a
section
variable{F:js} {G:Nat->Nat} {n:Nat}
def ft.drop{xs vs}(h:ft F G n xs vs)(k:Nat):ft F G n (xs.drop k) (vs.drop k):=.nK (h.sy.drop k)
def ft.take{xs vs}(h:ft F G n xs vs)(k:Nat):ft F G n (xs.take k) (vs.take k):=.nK (h.sy.take k)
def ft.get{xs vs}(h:ft F G n xs vs){i:Nat}{x:AV}(a:xs[i]?=some x):∃v,vs[i]?=some v/\eZ F G n x v:=h.sy.get a
def ft.length{xs vs}(h:ft F G n xs vs):xs.length=vs.length:=h.sy.length
def ft.append{xs vs a vs'}(h:ft F G n xs vs)(b:ft F G n a vs'):ft F G n (xs++a) (vs++vs'):=.nK (h.sy.append b.sy)
end
def AV.zi{x:AV}(h:x.ej=true):x.cells=[x]:=by cases x<;>first|rfl|(simp[AV.ej] at h)
section
variable{P:Program}
def DF{t:TypeId}{b:Bool}{n:Nat}(h:dE P t=some (b,n)):∃d i,P.underlying t=some d/\P.info? t=some i/\i.size=n/\(match d with|.struct _|.array _ _=>true|_=>false)=b:=by
 unfold dE at h
 split at h
 ·rename_i d i a hi;injection h with h;injection h with c e;exact⟨d,i,a,hi,e,c⟩
 ·cases h
def jh{t:TypeId}{b:Bool}{n:Nat}(h:dE P t=some (b,n))(w:World):(sizeOf t).run P w=.ok n w:=by
 obtain⟨d,i,a,hi,hn,_⟩:=DF h;simp[sizeOf,typeInfo,hi,hn]
def wD{t:TypeId}{b:Bool}{n:Nat}(h:dE P t=some (b,n))(w:World):(isAgg t).run P w=.ok b w:=by
 obtain⟨d,i,a,hi,hn,c⟩:=DF h;subst c;unfold isAgg;rw[fq,run_underlying a];cases d<;>rfl
def x_{t:TypeId}{cs:List AV}{off:Nat}{z:AV}(h:k0 P t cs off=some z):(∃k,dE P t=some (true,k)/\off+k<=cs.length/\z=.agg ((cs.drop off).take k))\/(∃k,dE P t=some (false,k)/\cs[off]?=some z):=by
 unfold k0 at h
 split at h
 ·split at h
  ·rename_i k a hle;injection h with h;exact .inl ⟨k,a,hle,h.symm⟩
  ·cases h
 ·rename_i k a;exact .inr ⟨k,a,h⟩
 ·cases h
def xA{t:TypeId}{k:Nat}(h:dE P t=some (true,k))(w:World)(a:Addr)(vs:List Value)(b:vs.length=k)
  (c:∀j v,vs[j]?=some v->w.cell? (a.add j)=some v):(loadVar t a).run P w=.ok (.agg vs.toArray) w:=by
 unfold loadVar;rw[fq,wD h];simp only[hJ,if_true];rw[fq,jh h,hJ,fq,<-b,run_loadCells_list w a vs c];rfl
def xI{t:TypeId}{k:Nat}(h:dE P t=some (false,k))(w:World)(a:Addr)(v:Value)(b:w.cell? a=some v):(loadVar t a).run P w=.ok v w:=by
 unfold loadVar;rw[fq,wD h];simp[load,Sem.run,b]
end
def re(P:Program)(t:TypeId)(x:AV)(i:Nat):Option AV:=
 match dD P t i with
 |none=>none|some (off,a)=>
  match dE P a with
  |none=>none|some (_,n)=>
   if n=0 then none else
   match x with
   |.gx b g o=>some (.gx b g (o+off))|.di o f=>some (.di o (f+off))|.ju y=>(k0 P a y.cells off).map .ju|_=>none
def CR(P:Program)(t:TypeId)(x:AV)(i:Nat):Option AV:=
 match dD P t i,x with
 |some (off,a),.agg cs=>k0 P a cs off|_,_=>none
def f_(P:Program)(t:TypeId)(x i:AV):Option AV:=
 match i with
 |.sc (.int _ n)=>
  match P.underlying t,x with
  |some (.slice e),.slice _ l=>
   if 0<=n then
    match l[n.toNat]?,dE P e with
    |some y,some (_,sz)=>if y.cells.length=sz then some (.ju y)else none|_,_=>none
   else none
  |some (.slice e),.um b g len _=>
   match dE P e with
   |some (_,sz)=>if 0<=n/\n<len then some (.gx b g (n.toNat*sz))else none|none=>none
  |some (.slice e),.oZ b off len _=>
   match dE P e with
   |some (_,sz)=>if 0<=n/\n<len then some (.di b (off+n.toNat*sz))else none|none=>none
  |some (.array len e),.gx b g o=>
   match dE P e with
   |some (_,sz)=>if 0<=n/\n<len then some (.gx b g (o+n.toNat*sz))else none|none=>none
  |some (.array len e),.di a o=>
   match dE P e with
   |some (_,sz)=>if 0<=n/\n<len then some (.di a (o+n.toNat*sz))else none|none=>none
  |some (.array len e),.ju y=>
   match dE P e with
   |some (_,sz)=>if 0<=n/\n<len then(k0 P e y.cells (n.toNat*sz)).map .ju else none|none=>none
  |_,_=>none
 |_=>none
def Gb(P:Program)(t:TypeId)(x i:AV):Option AV:=
 match i with
 |.sc (.int _ n)=>
  match P.underlying t,x with
  |some .string,.sc (.string s)=>if 0<=n then(s[n.toNat]?).map λb=>.sc (.int .u8 b.toNat)else none|some (.array len e),.agg cs=>
   match dE P e with
   |some (_,sz)=>if 0<=n/\n<len then k0 P e cs (n.toNat*sz)else none|none=>none
  |_,_=>none
 |_=>none
section
variable{P:Program} {F:js} {ρ:Maps}
def BO{cs:List AV}{v:Value}(h:eJ F ρ (.agg cs) v):∃vs:List Value,v=.agg vs.toArray/\fi (ir F ρ) cs vs/\∀c∈cs,c.ej=true:=by
 cases h with
 |agg a b=>exact⟨_,rfl,a,b⟩|cell h=>cases h with
  |p h=>cases h with|agg a b=>exact⟨_,rfl,a.sy.mono λ_ _ _ h=>.p h,b⟩
def Nu{cs:List AV}{v:Value}(h:eJ F ρ (.tuple cs) v):∃vs:List Value,v=.tuple vs.toArray/\fi (eZ F ρ.G ρ.n) cs vs:=by
 cases h with
 |cell h=>cases h with
  |p h=>cases h with|tuple a=>exact⟨_,rfl,a.sy⟩
def sY{b g off:Nat}{v:Value}(h:eJ F ρ (.gx b g off) v):v=.pointer (some ⟨ρ.L b g,off,none⟩)/\g<=ρ.lg b:=by
 cases h with
 |cell h=>cases h with
  |p h=>cases h
  |gx h=>exact⟨rfl,h⟩
def s_{o off:Nat}{v:Value}(h:eJ F ρ (.di o off) v):v=.pointer (some ⟨ρ.G o,off,none⟩)/\o<ρ.n:=by
 cases h with
 |cell h=>cases h with
  |p h=>cases h with|di h=>exact⟨rfl,h⟩
def Cm{x:AV}{v:Value}(h:eJ F ρ (.ju x) v):∃b o vs,v=.pointer (some ⟨b,o,none⟩)/\ft F ρ.G ρ.n x.cells vs/\F.has b o vs/\∀c∈x.cells,c.ej=true:=by
 cases h with
 |cell h=>cases h with
  |p h=>cases h with|ju a d e=>exact⟨_,_,_,rfl,a,d,e⟩
def xY{b g len cap:Nat}{v:Value}(h:eJ F ρ (.um b g len cap) v):v=.slice (some ⟨ρ.L b g,0,none⟩) len cap/\g<=ρ.lg b/\len<=cap/\cap<=maxLen:=by
 cases h with
 |cell h=>cases h with
  |p h=>cases h
  |um a c d=>exact⟨rfl,a,c,d⟩
def FM{o off len cap:Nat}{v:Value}(h:eJ F ρ (.oZ o off len cap) v):v=.slice (some ⟨ρ.G o,off,none⟩) len cap/\o<ρ.n/\len<=cap/\cap<=maxLen:=by
 cases h with
 |cell h=>cases h with
  |p h=>cases h with|oZ a b c=>exact⟨rfl,a,b,c⟩
structure TU (F:js) (ρ:Maps) (l:List AV) (base:Option Addr) (cap b o sz:Nat) (vs:List Value):Prop where
 cells:ft F ρ.G ρ.n (l.flatMap AV.cells) vs
 has:F.has b o vs
 base:l≠[]->base=some ⟨b,o,none⟩
 sz:∀x∈l,x.cells.length=sz
 qu:∀c∈l.flatMap AV.cells,c.ej=true
 yd:l.length<=cap
 Ak:cap<=maxLen
def eZ.Ii{G:Nat->Nat}{n:Nat}{tag:Tag}{l:List AV}{v:Value}(h:eZ F G n (.slice tag l) v):∃base cap b o sz vs,v=.slice base l.length cap/\ft F G n (l.flatMap AV.cells) vs/\F.has b o vs/\(l≠[]->base=some ⟨b,o,none⟩)/\(∀x∈l,x.cells.length=sz)/\(∀c∈l.flatMap AV.cells,c.ej=true)/\l.length<=cap/\cap<=maxLen/\(tag=.gY\/tag=.full/\cap=l.length):=by
 cases h with|slice a d e f g i j k=>exact⟨_,_,_,_,_,_,rfl,a,d,e,f,g,i,j,k⟩
def lX{tag:Tag}{l:List AV}{v:Value}(h:eJ F ρ (.slice tag l) v):∃base cap b o sz vs,v=.slice base l.length cap/\TU F ρ l base cap b o sz vs/\(tag=.full->cap=l.length)/\(∀k g,tag=.loc k g->g<=ρ.ag k/\ry ρ k g l base cap):=by
 cases h with
 |cell h=>cases h with
  |p h=>
   obtain⟨base,cap,b,o,sz,vs,rfl,a,c,d,e,f,i,j,h8⟩:=h.Ii;refine⟨base,cap,b,o,sz,vs,rfl,⟨a,c,d,e,f,i,j⟩,?_,?_⟩
   ·rintro rfl;rcases h8 with h8|h8
    ·cases h8
    ·exact h8.2
   ·rintro k g rfl;rcases h8 with h8|h8
    ·cases h8
    ·cases h8.1
  |loc a c d=>
   obtain⟨base,cap,b,o,sz,vs,he,a,m,n,e,f,i,j,h8⟩:=a.Ii;injection he with q r s;subst q;subst s;refine⟨_,_,b,o,sz,vs,rfl,⟨a,m,n,e,f,i,j⟩,(by intro h;cases h),?_⟩;rintro k g he;injection he with q r;subst q;subst r;exact⟨c,d⟩
def Ik{G:Nat->Nat}{n:Nat}{cs:List AV}{vs:List Value}{b o:Nat}{t:TypeId}{off:Nat}{z:AV}(e:ft F G n cs vs)(f:F.has b o vs)(g:∀c∈cs,c.ej=true)
  (h:k0 P t cs off=some z):eZ F G n (.ju z) (.pointer (some ⟨b,o+off,none⟩)):=by
 rcases x_ h with⟨k,j,hle,rfl⟩|⟨k,j,d⟩
 ·exact .ju ((e.drop off).take k) ((f.drop off).take k) (λc d=>g c (Gt (AF d)))
 ·obtain⟨v,l,m⟩:=e.get d;have a:=g z (Bh d);refine .ju (vs:=[v]) (by rw[AV.zi a];exact .cons m .nil) ?_ (by rw[AV.zi a];simpa using a);intro i u hu;cases i with
  |zero=>simp at hu;subst hu;exact f off _ l
  |succ i=>simp at hu
def G9(w:World){t:TypeId}{x r:AV}{u:Value}{i:Nat}(h:re P t x i=some r)(e:eJ F ρ x u):∃v,(Instr.fieldAt t u i).run P w=.ok v w/\eJ F ρ r v:=by
 unfold re at h
 split at h
 ·cases h
 ·rename_i off k c
  split at h
  ·cases h
  ·rename_i agg n l
   split at h
   ·cases h
   ·rename_i hn
    have d:∃fs f,P.underlying t=some (.struct fs)/\fs[i]?=some f/\f.offset=off/\f.type=k:=by
     unfold dD at c
     split at c
     ·rename_i fs hu;cases a:fs[i]?with
      |none=>rw[a] at c;cases c
      |some f=>
       rw[a] at c;simp at c;exact⟨fs,f,hu,a,c.1,c.2⟩
     ·cases c
    obtain⟨fs,f,hu,a,rfl,rfl⟩:=d
    have key:∀b o:Nat,(Instr.fieldAt t (.pointer (some ⟨b,o,none⟩)) i).run P w=.ok (.pointer (some ⟨b,o+f.offset,none⟩)) w:=by
     intro b o;unfold Instr.fieldAt;rw[fq,run_underlying hu,hJ];simp only[a,Instr.sureAddr,fq,m8,hJ,fieldPlace,jh l,hn,fL,Addr.add_lit]
    split at h
    ·rename_i b g o;cases h;obtain⟨rfl,hg⟩:=sY e;exact⟨_,key _ _,.cell (.gx hg)⟩
    ·rename_i o A;cases h;obtain⟨rfl,hg⟩:=s_ e;exact⟨_,key _ _,.p (.di hg)⟩
    ·rename_i y;obtain⟨b,o,vs,rfl,m,q,s⟩:=Cm e;cases j:k0 P f.type y.cells f.offset with
     |none=>rw[j] at h;cases h
     |some z=>
      rw[j] at h;cases h;exact⟨_,key _ _,.p (Ik m q s j)⟩
    ·cases h
def A0(w:World){t:TypeId}{cs:List AV}{vs:List Value}{off:Nat}{z:AV}(d:fi (ir F ρ) cs vs)(e:∀c∈cs,c.ej=true)(f:k0 P t cs off=some z):∃v,(part t vs.toArray off).run P w=.ok v w/\eJ F ρ z v:=by
 rcases x_ f with⟨k,a,hle,rfl⟩|⟨k,a,b⟩
 ·refine⟨.agg ((vs.drop off).take k).toArray,?_,.agg ((d.drop off).take k) (λc b=>e c (Gt (AF b)))⟩;unfold part;rw[fq,wD a];simp only[hJ,if_true,fq,jh a,m8]
  congr 3
  simp[List.drop_take]
 ·obtain⟨v,g,h⟩:=d.get b;refine⟨v,?_,.cell h⟩;unfold part;rw[fq,wD a];simp[g]
def Pa(w:World){t:TypeId}{x r:AV}{u:Value}{i:Nat}(h:CR P t x i=some r)(d:eJ F ρ x u):∃v,(Instr.field t u i).run P w=.ok v w/\eJ F ρ r v:=by
 unfold CR at h
 split at h
 ·rename_i off e cs b;obtain⟨vs,rfl,g,j⟩:=BO d
  have c:∃fs f,P.underlying t=some (.struct fs)/\fs[i]?=some f/\f.offset=off/\f.type=e:=by
   unfold dD at b
   split at b
   ·rename_i fs hu;cases a:fs[i]?with
    |none=>rw[a] at b;cases b
    |some f=>
     rw[a] at b;simp at b;exact⟨fs,f,hu,a,b.1,b.2⟩
   ·cases b
  obtain⟨fs,f,hu,a,rfl,rfl⟩:=c;obtain⟨v,k,l⟩:=A0 w g j h;refine⟨v,?_,l⟩;unfold Instr.field;rw[fq,run_underlying hu,hJ];simp only[a,asAgg,fq,m8,hJ,k]
 ·cases h
def HD(w:World){t:TypeId}{x i r:AV}{u j:Value}(h:f_ P t x i=some r)(m:eJ F ρ x u)(hi:eJ F ρ i j):∃v,(Instr.indexAt t u j).run P w=.ok v w/\eJ F ρ r v:=by
 unfold f_ at h
 split at h
 ·rename_i k n;cases eb hi
  split at h
  ·rename_i e tag l hu
   split at h
   ·rename_i hn
    split at h
    ·rename_i y agg sz hy a
     split at h
     ·rename_i s;cases h;obtain⟨base,cap,b,o,d,vs,rfl,hs,_,_⟩:=lX m;have A:n.toNat<l.length:=(jj.1 hy).1
      have B:l≠[]:=by rintro rfl;simp at A
      have f:=Bh hy
      have q:d=sz:=by rw[<-hs.sz y f,s]
      subst q;rw[hs.base B];refine⟨.pointer (some ⟨b,o+n.toNat*d,none⟩),?_,.p (.ju (vs:=(vs.drop (n.toNat*d)).take d) ?_ ?_ ?_)⟩
      ·unfold Instr.indexAt;simp only[asIntOf,fq,m8,hJ,run_underlying hu];rw[bX ⟨hn,VW⟩];simp only[fq,m8,hJ,jh a,Addr.add_lit]
      ·rw[<-Dd hs.sz hy];exact(hs.cells.drop _).take _
      ·exact(hs.has.drop _).take _
      ·intro c D;exact hs.qu c (TB.2 ⟨y,f,D⟩)
     ·cases h
    ·cases h
   ·cases h
  ·rename_i e b g len cap hu
   split at h
   ·rename_i agg sz a
    split at h
    ·rename_i hn;cases h;obtain⟨rfl,hg,_,_⟩:=xY m;refine⟨.pointer (some ⟨ρ.L b g,n.toNat*sz,none⟩),?_,.cell (.gx hg)⟩;unfold Instr.indexAt;simp only[asIntOf,fq,m8,hJ,run_underlying hu];rw[bX ⟨hn.1,VW⟩];simp only[fq,m8,hJ,jh a,Addr.add_lit,tu]
    ·cases h
   ·cases h
  ·rename_i e b off len cap hu
   split at h
   ·rename_i agg sz a
    split at h
    ·rename_i hn;cases h;obtain⟨rfl,hg,_,_⟩:=FM m;refine⟨.pointer (some ⟨ρ.G b,off+n.toNat*sz,none⟩),?_,.p (.di hg)⟩;unfold Instr.indexAt;simp only[asIntOf,fq,m8,hJ,run_underlying hu];rw[bX ⟨hn.1,VW⟩];simp only[fq,m8,hJ,jh a,Addr.add_lit]
    ·cases h
   ·cases h
  ·rename_i len e b g o hu
   split at h
   ·rename_i agg sz a
    split at h
    ·rename_i hn;cases h;obtain⟨rfl,hg⟩:=sY m;refine⟨.pointer (some ⟨ρ.L b g,o+n.toNat*sz,none⟩),?_,.cell (.gx hg)⟩;unfold Instr.indexAt;simp only[asIntOf,Instr.sureAddr,fq,m8,hJ,run_underlying hu];rw[bX hn];simp only[fq,m8,hJ,jh a,Addr.add_lit]
    ·cases h
   ·cases h
  ·rename_i len e E o hu
   split at h
   ·rename_i agg sz a
    split at h
    ·rename_i hn;cases h;obtain⟨rfl,hg⟩:=s_ m;refine⟨.pointer (some ⟨ρ.G E,o+n.toNat*sz,none⟩),?_,.p (.di hg)⟩;unfold Instr.indexAt;simp only[asIntOf,Instr.sureAddr,fq,m8,hJ,run_underlying hu];rw[bX hn];simp only[fq,m8,hJ,jh a,Addr.add_lit]
    ·cases h
   ·cases h
  ·rename_i len e y hu
   split at h
   ·rename_i agg sz a
    split at h
    ·rename_i hn;obtain⟨b,o,vs,rfl,H,I,J⟩:=Cm m;cases C:k0 P e y.cells (n.toNat*sz)with
     |none=>rw[C] at h;cases h
     |some z=>
      rw[C] at h;cases h;refine⟨.pointer (some ⟨b,o+n.toNat*sz,none⟩),?_,.p (Ik H I J C)⟩;unfold Instr.indexAt;simp only[asIntOf,Instr.sureAddr,fq,m8,hJ,run_underlying hu];rw[bX hn];simp only[fq,m8,hJ,jh a,Addr.add_lit]
    ·cases h
   ·cases h
  ·cases h
 ·cases h
def PA(w:World){t:TypeId}{x i r:AV}{u j:Value}(h:Gb P t x i=some r)(c:eJ F ρ x u)(hi:eJ F ρ i j):∃v,(Instr.index t u j).run P w=.ok v w/\eJ F ρ r v:=by
 unfold Gb at h
 split at h
 ·rename_i k n;cases eb hi
  split at h
  ·rename_i s hu;cases eb c
   split at h
   ·rename_i hn;cases a:s[n.toNat]?with
    |none=>rw[a] at h;cases h
    |some b=>
     rw[a] at h;cases h;refine⟨.int .u8 b.toNat,?_,.p (.sc rfl)⟩;unfold Instr.index;simp[asIntOf,run_underlying hu,hn,a]
   ·cases h
  ·rename_i len e cs hu
   split at h
   ·rename_i agg sz d
    split at h
    ·rename_i hn;obtain⟨vs,rfl,f,g⟩:=BO c;obtain⟨v,l,m⟩:=A0 w f g h;refine⟨v,?_,m⟩;unfold Instr.index;simp only[asIntOf,fq,m8,hJ,run_underlying hu];rw[bX hn];simp only[fq,jh d,hJ,l]
    ·cases h
   ·cases h
  ·cases h
 ·cases h
end
end Go.jN
