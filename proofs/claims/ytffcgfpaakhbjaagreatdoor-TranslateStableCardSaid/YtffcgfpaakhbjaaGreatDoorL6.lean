/- Part of the proof of TranslateStable: layer. -/
import Derived.Test.YtffcgfpaakhbjaaGreatDoorL5
set_option linter.all false
namespace Go.jN
open Go
def rootOf(ops:List Oper):Nat->Nat->Option Nat
 |0,_=>none|f+1,t=>
  match ops.find? (λo=>o.dst==some t)with
  |none=>some t|some o=>match o.op with
   |.fieldAddr _ (.tmp y) _=>rootOf ops f y|.indexAddr _ (.tmp y) _=>rootOf ops f y|.nilCheck (.tmp y)=>rootOf ops f y|.move (.tmp y)=>rootOf ops f y|.alloc _=>some t|.box _ _=>some t|_=>none
def CK(ops:List Oper):Operand->Option Nat
 |.tmp t=>rootOf ops (ops.length+1) t|_=>none
def pF(ops:List Oper)(x:Operand)(v:AV):Bool:=
 match v with
 |.gx b _ _=>CK ops x==some b|_=>true
def isG:AV->Bool
 |.di _ _=>true|_=>false
def isL:AV->Bool
 |.gx _ _ _=>true|_=>false
inductive Th where
 |val|load (r:Option Nat)|alloc (d:Option Nat)|zB|app|J8 (r:Option Nat)
 deriving DecidableEq
def dA(E:List Nat)(ops:List Oper)(o:Oper):Th:=
 match o.op with
 |.load _ x=>.load (CK ops x)|.lookup _ _ _ _=>.load none|.alloc _=>match o.dst with|some d=>if E.contains d then .zB else .alloc (some d)|none=>.zB
 |.box _ _=>match o.dst with|some d=>if E.contains d then .zB else .alloc (some d)|none=>.zB
 |.store _ x _=>.J8 (CK ops x)|.call c=>match c.callee with|.builtin .append=>.app|.builtin _=>.val|_=>.zB
 |_=>.val
def uL:Th->Th->Bool
 |.val,_=>true|_,.val=>true|.load _,.load _=>true|.load r,.alloc d=>r !=d|.alloc d,.load r=>r !=d|.load _,.app=>true|.app,.load _=>true|.load _,.zB=>true|.zB,.load _=>true|.load r,.J8 a=>r !=a|.J8 a,.load r=>r !=a|.alloc _,.alloc _=>true|.alloc _,.app=>true|.app,.alloc _=>true|.alloc _,.zB=>true|.zB,.alloc _=>true|.app,.zB=>true|.zB,.app=>true|_,_=>false
structure Qt where
 all:Bool
 st:Nat->Bool
 cl:Nat->Nat:=λ_=>0
instance:Coe Bool Qt:=⟨λb=>⟨b,λ_=>false,λ_=>0⟩⟩
def Qt.ok(q:Qt):AV->Bool
 |.di o _=>q.all||q.st o|_=>true
def QK(q:Qt)(H H':cc):Prop:=(q.all=true->H'=H)/\∀o,q.st o=true->H'[o]?=H[o]?
@[simp] theorem Qt.abU(q:Qt)(o f:Nat):q.ok (.di o f)=(q.all||q.st o):=rfl
@[simp] theorem Qt.abZ(q:Qt)(b g f:Nat):q.ok (.gx b g f)=true:=rfl
@[simp] theorem Qt.abG(q:Qt)(x:AV):q.ok (.ju x)=true:=rfl
@[simp] theorem ac7(a:Bool)(st:Nat->Bool)(cl:Nat->Nat)(H H':cc):QK ⟨a,st,cl⟩ H H'=((a=true->H'=H)/\∀o,st o=true->H'[o]?=H[o]?):=rfl
def QK.refl{q:Qt}{H:cc}:QK q H H:=⟨λ_=>rfl,λ_ _=>rfl⟩
def la(P:Program)(T:cV)(E:List Nat)(ops:List Oper)(q:Qt)(soft:Bool)(fr:Fr)(H:cc)(o:Oper):Option AV:=
 match o.op with
 |.load t x=>if pF ops x (ev T fr x)&&(!soft||q.ok (ev T fr x))then sD P fr H t (ev T fr x)else none|.lookup t x i ok=>if !soft||q.all then EL P H t (ev T fr x) (ev T fr i) ok else none|.buildSlice t n ps=>if o.dst.any E.contains then none else lv P t n (ps.toList.map λp=>(p.1,ev T fr p.2))|.makeSlice t l c=>wC P t (ev T fr l) (ev T fr c)|.alloc _=>none|.box _ _=>none|.store _ _ _=>none|.call c=>match c.callee with
  |.builtin .append=>none|.builtin _=>sJ P T fr c|_=>none
 |_=>vZ P T fr o
def vw(P:Program)(T:cV)(b:AV)(args:List AV)(H:cc)(r:AV)(H':cc):Prop:=kA P T b args H λc a=>c=r/\a=H'
def fk(P:Program)(T:cV)(E:List Nat)(ops:List Oper)(q:Qt)(soft:Bool)(o:Oper)(K:Fr->cc->Prop)(fr:Fr)(H:cc):Prop:=
 match o.op with
 |.alloc t=>match fY P t with
  |some z=>(soft=true->o.dst.any E.contains=false)/\jl E o.dst z K fr H|none=>False
 |.box _ x=>dn (ev T fr x)=true/\(soft=true->o.dst.any E.contains=false)/\jl E o.dst (ev T fr x).cells K fr H|.store t x y=>o.dst=none/\pF ops x (ev T fr x)=true/\(soft=true->isL (ev T fr x)=true)/\ky P t (ev T fr x) (ev T fr y) K fr H|.call c=>match c.callee with
  |.builtin .append=>lD P T c o.dst K fr H|.builtin _=>match la P T E ops q soft fr H o with
   |some v=>K (fr.put o.dst v) H|none=>False
  |.value f=>∃r H',vw P T (ev T fr f) (c.args.toList.map λx=>(ev T fr x).norm) H r H'/\(soft=true->QK q H H')/\K (fr.put o.dst r) H'|.invoke _ _=>False
 |_=>match la P T E ops q soft fr H o with
  |some v=>K (fr.put o.dst v) H|none=>False
section
variable{P:Program} {T:cV} {E:List Nat} {ops:List Oper} {q:Qt} {soft:Bool} {o:Oper} {K K':Fr->cc->Prop} {fr:Fr} {H:cc}
def DL{dst:Option Nat}{cs:List AV}(b:∀fr H,K fr H->K' fr H)(h:jl E dst cs K fr H):jl E dst cs K' fr H:=by
 unfold jl at*
 split at h
 ·split at h
  ·rename_i a;rw[bX a];exact b _ _ h
  ·rename_i a;rw[bV a];exact b _ _ h
 ·exact h.elim
def KZ{t:TypeId}{x v:AV}(a:∀fr H,K fr H->K' fr H)(h:ky P t x v K fr H):ky P t x v K' fr H:=by
 unfold ky at*
 split at h
 ·exact h.elim
 ·split at h
  ·split at h
   ·exact⟨h.1,h.2.1,h.2.2.1,h.2.2.2.1,a _ _ h.2.2.2.2⟩
   ·exact h.elim
  ·split at h
   ·exact⟨h.1,h.2.1,h.2.2.1,h.2.2.2.1,a _ _ h.2.2.2.2⟩
   ·exact h.elim
  ·exact h.elim
def J7{c:Call}{dst:Option Nat}(d:∀fr H,K fr H->K' fr H)(h:lD P T c dst K fr H):lD P T c dst K' fr H:=by
 unfold lD at*
 split at h
 ·split at h
  ·obtain⟨e,f,g,i,a⟩:=h;refine⟨e,f,g,i,?_⟩
   split at a
   ·rename_i b;rw[bX b];exact d _ _ a
   ·rename_i b;rw[bV b];exact⟨a.1,d _ _ a.2⟩
  ·exact h.elim
 ·exact h.elim
def mB(P:Program)(T:cV)(E:List Nat)(ops:List Oper)(q:Qt)(soft:Bool)(o:Oper)(fr:Fr)(H:cc)(fr':Fr)(H':cc):Prop:=fk P T E ops q soft o (λf h=>f=fr'/\h=H') fr H
def FX{dst:Option Nat}{cs:List AV}(h:jl E dst cs K fr H):∃fr' H',jl E dst cs (λf h=>f=fr'/\h=H') fr H/\K fr' H':=by
 unfold jl at*
 split at h
 ·split at h
  ·rename_i a;exact⟨_,_,by rw[bX a];exact⟨rfl,rfl⟩,h⟩
  ·rename_i a;exact⟨_,_,by rw[bV a];exact⟨rfl,rfl⟩,h⟩
 ·exact h.elim
def N9{t:TypeId}{x v:AV}(h:ky P t x v K fr H):∃fr' H',ky P t x v (λf h=>f=fr'/\h=H') fr H/\K fr' H':=by
 unfold ky at*
 split at h
 ·exact h.elim
 ·split at h
  ·split at h
   ·exact⟨_,_,⟨h.1,h.2.1,h.2.2.1,h.2.2.2.1,rfl,rfl⟩,h.2.2.2.2⟩
   ·exact h.elim
  ·split at h
   ·exact⟨_,_,⟨h.1,h.2.1,h.2.2.1,h.2.2.2.1,rfl,rfl⟩,h.2.2.2.2⟩
   ·exact h.elim
  ·exact h.elim
def LG{c:Call}{dst:Option Nat}(h:lD P T c dst K fr H):∃fr' H',lD P T c dst (λf h=>f=fr'/\h=H') fr H/\K fr' H':=by
 unfold lD at*
 split at h
 ·split at h
  ·obtain⟨d,e,g,i,a⟩:=h
   split at a
   ·rename_i b;exact⟨_,_,⟨d,e,g,i,by rw[bX b];exact⟨rfl,rfl⟩⟩,a⟩
   ·rename_i b;exact⟨_,_,⟨d,e,g,i,by rw[bV b];exact⟨a.1,rfl,rfl⟩⟩,a.2⟩
  ·exact h.elim
 ·exact h.elim
def ri(h:fk P T E ops q soft o K fr H):∃fr' H',mB P T E ops q soft o fr H fr' H'/\K fr' H':=by
 unfold mB fk at*
 split at h
 ·split at h
  ·obtain⟨fr',H',a,b⟩:=FX h.2;exact⟨fr',H',⟨h.1,a⟩,b⟩
  ·exact h.elim
 ·obtain⟨fr',H',a,b⟩:=FX h.2.2;exact⟨fr',H',⟨h.1,h.2.1,a⟩,b⟩
 ·obtain⟨fr',H',a,b⟩:=N9 h.2.2.2;exact⟨fr',H',⟨h.1,h.2.1,h.2.2.1,a⟩,b⟩
 ·split at h
  ·exact LG h
  ·split at h
   ·exact⟨_,_,⟨rfl,rfl⟩,h⟩
   ·exact h.elim
  ·obtain⟨r,H',a,b,c⟩:=h;exact⟨_,_,⟨r,H',a,b,rfl,rfl⟩,c⟩
  ·exact h.elim
 ·split at h
  ·exact⟨_,_,⟨rfl,rfl⟩,h⟩
  ·exact h.elim
def FZ(a:∀fr H,K fr H->K' fr H)(h:fk P T E ops q soft o K fr H):fk P T E ops q soft o K' fr H:=by
 unfold fk at*
 split at h
 ·split at h
  ·exact⟨h.1,DL a h.2⟩
  ·exact h.elim
 ·exact⟨h.1,h.2.1,DL a h.2.2⟩
 ·exact⟨h.1,h.2.1,h.2.2.1,KZ a h.2.2.2⟩
 ·split at h
  ·exact J7 a h
  ·split at h
   ·exact a _ _ h
   ·exact h.elim
  ·obtain⟨r,H',b,c,d⟩:=h;exact⟨r,H',b,c,a _ _ d⟩
  ·exact h.elim
 ·split at h
  ·exact a _ _ h
  ·exact h.elim
def tO{fr':Fr}{H':cc}(h:mB P T E ops q soft o fr H fr' H')(a:K fr' H'):fk P T E ops q soft o K fr H:=
 FZ (λf h ⟨b,c⟩=>by subst b;subst c;exact a) h
def Ky(h:fk P T E ops q soft o K fr H):p8 P T E o K fr H:=by
 obtain⟨dst,op,type,pos,after,guard⟩:=o;cases op with
 |alloc t=>
  simp only[fk,p8] at h|-
  split at h
  ·rename_i z g;rw[g];exact h.2
  ·exact h.elim
 |box t x=>
  simp only[fk,p8] at h|-;exact⟨h.1,h.2.2⟩
 |store t x y=>
  simp only[fk,p8] at h|-;exact⟨h.1,h.2.2.2⟩
 |load t x=>
  simp only[fk,p8,la] at h|-
  split at h
  ·rename_i v a
   split at a
   ·rw[a];exact h
   ·cases a
  ·exact h.elim
 |buildSlice t n ps=>
  simp only[fk,p8,la] at h|-
  split at h
  ·rename_i v a
   split at a
   ·cases a
   ·rename_i j;rw[a];simp only[FF];rw[bV j];exact h
  ·exact h.elim
 |lookup t x i ok=>
  simp only[fk,p8,la] at h|-
  split at h
  ·rename_i v a
   split at a
   ·rw[a];exact h
   ·cases a
  ·exact h.elim
 |convert s d x=>
  simp only[fk,p8,la,vZ,Ls] at h|-
  split at h
  ·rename_i v a;rw[a];exact h
  ·exact h.elim
 |call c=>
  obtain⟨callee,args,N4⟩:=c;cases callee with
  |builtin b=>cases b<;>simp only[fk,p8,la] at h|-<;>first|exact .inl (.inl h)|exact h
  |value f=>
   simp only[fk,p8] at h|-;obtain⟨r,H',e,w,k⟩:=h;unfold vw kA at e;unfold kA
   split at e
   ·exact e.mono λA l ⟨p,u⟩=>by subst p;subst u;exact k
   ·exact e
  |invoke r m=>simp only[fk] at h
 |_=>
  simp only[fk,p8,la] at h|-
  first
   |exact h
   |(simp only[vZ] at h)
end
section
variable{P:Program} {T:cV} {fr fr':Fr}
def Bu{x:Operand}(h:∀t,x=.tmp t->fr.env t=fr'.env t):ev T fr x=ev T fr' x:=by
 cases x with
 |tmp t=>exact h t rfl|_=>rfl
def Iw{xs:List Operand}(h:∀x∈xs,ev T fr x=ev T fr' x):xs.map (ev T fr)=xs.map (ev T fr'):=qf h
def Dp{c:Call}(h:∀x∈c.args.toList,ev T fr x=ev T fr' x):sJ P T fr c=sJ P T fr' c:=by
 unfold sJ
 split
 ·split
  ·rename_i t x d b;rw[h x (uX.2 (R4 b))]
  ·rfl
 ·split
  ·rename_i x l a;rw[a] at h;rw[h x aas,Iw λy hy=>h y (by simp[hy])]
  ·rfl
 ·split
  ·rename_i x l a;rw[a] at h;rw[h x aas,Iw λy hy=>h y (by simp[hy])]
  ·rfl
 ·rfl
def Ng{o:Oper}(h:∀x∈o.op.operands,ev T fr x=ev T fr' x):vZ P T fr o=vZ P T fr' o:=by
 obtain⟨dst,op,type,pos,after,guard⟩:=o
 have opt:∀(x:Option Operand),(∀y,x=some y->ev T fr y=ev T fr' y)->x.map (ev T fr)=x.map (ev T fr'):=by
  intro x a;cases x with
  |none=>rfl|some y=>simp[a y rfl]
 cases op<;>simp only[Op.operands] at h<;>simp only[vZ]
 case move x=>rw[h x aas]
 case assign x=>rw[h x aas]
 case pick c x y=>rw[h c aas,h x aas,h y aas]
 case build t ps=>
  have:(ps.toList.map λp=>(p.1,ev T fr p.2))=ps.toList.map λp=>(p.1,ev T fr' p.2):=
   qf λp b=>by rw[h p.2 (by simp;exact⟨p.1,by simpa using b⟩)]
  rw[this]
 case binOp op t x y k=>rw[h x aas,h y aas]
 case unOp op t x=>rw[h x aas]
 case convert s d x=>rw[h x aas]
 case makeFunc fn f c=>
  have e:(f.toList.map λx=>(ev T fr x).norm)=f.toList.map λx=>(ev T fr' x).norm:=qf λx a=>by rw[h x (by simp[uX.1 a])]
  have g:(c.toList.map λx=>(ev T fr x).norm)=c.toList.map λx=>(ev T fr' x).norm:=qf λx a=>by rw[h x (by simp[uX.1 a])]
  rw[e,g]
 case fieldAddr t x i=>rw[h x aas]
 case field t x i=>rw[h x aas]
 case indexAddr t x i=>rw[h x aas,h i aas]
 case index t x i=>rw[h x aas,h i aas]
 case slice t x lo hi j=>rw[h x aas,opt lo λy hy=>h y (by simp[hy]),opt hi λy hy=>h y (by simp[hy]),opt j λy hy=>h y (by simp[hy])]
 case extract x i=>rw[h x aas]
 case nilCheck x=>rw[h x aas]
 case makeInterface t x=>rw[h x aas]
 case typeAssert x l t ok=>cases ok<;>simp only[h x aas]
 case call c=>exact Dp λx a=>h x (by simp[Call.operands,uX.1 a])
def Lr{H H':cc}{t:TypeId}{x:AV}(a:∀b g off,x=.gx b g off->fr.box b=fr'.box b/\fr.gen b=fr'.gen b)(c:∀o off,x=.di o off->H[o]?=H'[o]?):sD P fr H t x=sD P fr' H' t x:=by
 cases x with
 |gx b g off=>
  obtain⟨d,e⟩:=a b g off rfl;simp only[sD,d,e]
 |di o off=>simp only[sD,c o off rfl]|_=>rfl
def xb{E:List Nat}{ops:List Oper}{q:Qt}{soft:Bool}{H H':cc}{o:Oper}(h:∀x∈o.op.operands,ev T fr x=ev T fr' x)
  (d:∀t x,o.op=.load t x->(∀b g off,ev T fr x=.gx b g off->fr.box b=fr'.box b/\fr.gen b=fr'.gen b)/\(∀o off,ev T fr x=.di o off->H[o]?=H'[o]?)) (e:∀t x i ok,o.op=.lookup t x i ok->H=H'):la P T E ops q soft fr H o=la P T E ops q soft fr' H' o:=by
 obtain⟨dst,op,type,pos,after,guard⟩:=o;cases op with
 |load t x=>
  have a:=h x (by simp[Op.operands]);obtain⟨f,j⟩:=d t x rfl;simp only[la];rw[Lr f j,a]
 |lookup t x i ok=>
  simp only[la];rw[e t x i ok rfl,h x (by simp[Op.operands]),h i (by simp[Op.operands])]
 |buildSlice t n ps=>
  simp only[la]
  have:(ps.toList.map λp=>(p.1,ev T fr p.2))=ps.toList.map λp=>(p.1,ev T fr' p.2):=
   qf λp k=>by rw[h p.2 (by simp[Op.operands];exact⟨p.1,by simpa using k⟩)]
  rw[this]
 |makeSlice t l c=>
  simp only[la];rw[h l (by simp[Op.operands]),h c (by simp[Op.operands])]
 |call c=>
  obtain⟨callee,args,N4⟩:=c
  have m:sJ P T fr {callee:=callee,args:=args,argTypes:=N4}=sJ P T fr' {callee:=callee,args:=args,argTypes:=N4}:=
   Dp λx a=>h x (by simp[Op.operands,Call.operands,uX.1 a])
  cases callee with
  |builtin b=>cases b<;>simp only[la]<;>first|rfl|exact m
  |_=>rfl
 |alloc t=>rfl|box t x=>rfl|store t x y=>rfl|_=>exact Ng (P:=P) h
end
def lK(fr:Fr){d a:Nat}(h:d≠a)(x y:AV):(fr.put (some d) x).put (some a) y=(fr.put (some a) y).put (some d) x:=by
 simp only[Fr.put]
 congr 1
 funext j
 simp only[eO]
 by_cases c:j=a
 ·subst c;rw[bX rfl,bV (λe=>h e.symm),bX rfl]
 ·rw[bV c]
  by_cases b:j=d
  ·rw[bX b,bX b]
  ·rw[bV b,bV b,bV c]
section
variable{P:Program} {T:cV} {E:List Nat} {ops:List Oper} {opsA:Array Oper} {q:Qt} {soft:Bool} {o:Oper} {K:Fr->cc->Prop} {fr:Fr} {H:cc}
def IC{d:Nat}{v:AV}(G:d∉o.looksAt opsA)(w:o.dst≠some d)(h:fk P T E ops q soft o K (fr.put (some d) v) H):fk P T E ops q soft o (λf h=>K (f.put (some d) v) h) fr H:=by
 have j:∀x∈o.op.operands,ev T (fr.put (some d) v) x=ev T fr x:=by
  intro x B;refine Bu λt N=>?_;subst N;rw[Fr.rX,bV];rintro he;injection he with he;subst he;exact G (Ub _ (ZU.2 ⟨.tmp d,by simpa using B,rfl⟩))
 have C:la P T E ops q soft (fr.put (some d) v) H o=la P T E ops q soft fr H o:=xb j (λt x _=>⟨λb g off _=>⟨rfl,rfl⟩,λ_ _ _=>rfl⟩) λ_ _ _ _ _=>rfl;clear G;obtain⟨dst,op,type,pos,after,guard⟩:=o;simp only at w
 have a:∀x:AV,((fr.put (some d) v).put dst x)=((fr.put dst x).put (some d) v):=by
  intro x;cases dst with
  |none=>rfl|some p=>exact lK fr (λe=>w (by rw[e])) v x
 have n:∀cs,jl E dst cs K (fr.put (some d) v) H->jl E dst cs (λf h=>K (f.put (some d) v) h) fr H:=by
  intro cs u;unfold jl at*
  split at u
  ·rename_i p;have A:p≠d:=λe=>w (by rw[e])
   have z:∀y:AV,eO (eO fr.env d v) p y=eO (eO fr.env p y) d v:=by
    intro y;have:=congrArg Fr.env (lK fr A.symm v y);exact this
   split at u
   ·rename_i D;rw[bX D];simp only[Fr.put] at u|-;rw[<-z];exact u
   ·rename_i D;rw[bV D];simp only[Fr.put] at u|-;rw[<-z];exact u
  ·exact u.elim
 cases op with
 |alloc t=>
  simp only[fk] at h|-
  split at h
  ·exact⟨h.1,n _ h.2⟩
  ·exact h.elim
 |box t x=>
  simp only[fk] at h|-;rw[j x (by simp[Op.operands])] at h;exact⟨h.1,h.2.1,n _ h.2.2⟩
 |store t x y=>
  simp only[fk] at h|-;rw[j x (by simp[Op.operands]),j y (by simp[Op.operands])] at h;refine⟨h.1,h.2.1,h.2.2.1,?_⟩;have O:=h.2.2.2;unfold ky at*;exact O
 |call c=>
  obtain⟨callee,args,N4⟩:=c;cases callee with
  |builtin b=>
   have i:∀x∈args.toList,ev T (fr.put (some d) v) x=ev T fr x:=λx B=>j x (by simp[Op.operands,Call.operands,uX.1 B])
   cases b<;>first
    |(simp only[fk] at h|-
      rw[C] at h
      split at h
      ·rw[<-a];exact h
      ·exact h.elim)
    |(simp only[fk] at h|-
      unfold lD at*
      split at h
      ·rename_i p s x t Q k I;have A:p≠d:=λe=>w (by rw[e]);simp only at k;rw[i s (by rw[k];simp),i x (by rw[k];simp)] at h
       split at h
       ·rename_i e sz tag l tag' m J L M;obtain⟨g1,g2,g3,g4,g5⟩:=h;refine⟨g1,g2,g3,g4,?_⟩;have F:nO (fr.put (some d) v) tag l=nO fr tag l:=rfl;rw[F] at g5
        split at g5
        ·rename_i u;rw[bX u]
         have:grown (fr.put (some d) v) p tag l m=(grown fr p tag l m).put (some d) v:=by
          have:=congrArg Fr.env (lK fr A.symm v (.slice (.loc p (fr.dv p+1)) (l++m)));simp only[grown,Fr.put] at this|-;rw[this]
         show K ((grown fr p tag l m).put (some d) v) H;rw[<-this];exact g5
        ·rename_i u;rw[bV u];refine⟨g5.1,?_⟩;show K ((fr.put (some p) (.slice .gY l)).put (some d) v) H;rw[<-a];exact g5.2
       ·exact h.elim
      ·exact h.elim)
  |value f=>
   simp only[fk] at h|-
   have i:(args.toList.map λx=>(ev T (fr.put (some d) v) x).norm)=args.toList.map λx=>(ev T fr x).norm:=
    qf λx B=>by rw[j x (by simp[Op.operands,Call.operands,uX.1 B])]
   rw[i,j f (by simp[Op.operands,Call.operands])] at h;obtain⟨r,H',J,L,M⟩:=h;refine⟨r,H',J,L,?_⟩;rw[<-a];exact M
  |invoke r m=>exact h
 |_=>
  simp only[fk] at h|-;rw[C] at h
  split at h
  ·rw[<-a];exact h
  ·exact h.elim
end
end Go.jN
