/- Part of the proof of KernelAccepts, KernelDoes: layer. -/
import Derived.Test.YtobcafblgapgfaaGreatDoorL5
set_option linter.all false
namespace Go.ke
open Go
def rootOf(ops:List Oper):Nat->Nat->Option Nat
 |0,_=>none|f+1,t=>
  match ops.find? (λo=>o.dst==some t)with
  |none=>some t|some o=>match o.op with
   |.fieldAddr _ (.tmp y) _=>rootOf ops f y|.indexAddr _ (.tmp y) _=>rootOf ops f y|.nilCheck (.tmp y)=>rootOf ops f y|.move (.tmp y)=>rootOf ops f y|.alloc _=>some t|.box _ _=>some t|_=>none
def DD(ops:List Oper):Operand->Option Nat
 |.tmp t=>rootOf ops (ops.length+1) t|_=>none
def pT(ops:List Oper)(x:Operand)(v:AV):Bool:=
 match v with
 |.fC b _ _=>DD ops x==some b|_=>true
def isG:AV->Bool
 |.dM _ _=>true|_=>false
def Y_:AV->Bool
 |.fC _ _ _=>true|_=>false
inductive Ti where
 |val|load (r:Option Nat)|alloc (d:Option Nat)|z8|app|Kl (r:Option Nat)
 deriving DecidableEq
def eE(E:List Nat)(ops:List Oper)(o:Oper):Ti:=
 match o.op with
 |.load _ x=>.load (DD ops x)|.lookup _ _ _ _=>.load none|.alloc _=>match o.dst with|some d=>if E.contains d then .z8 else .alloc (some d)|none=>.z8
 |.box _ _=>match o.dst with|some d=>if E.contains d then .z8 else .alloc (some d)|none=>.z8
 |.store _ x _=>.Kl (DD ops x)|.call c=>match c.callee with|.builtin .append=>.app|.builtin _=>.val|_=>.z8
 |_=>.val
def vy:Ti->Ti->Bool
 |.val,_=>true|_,.val=>true|.load _,.load _=>true|.load r,.alloc d=>r !=d|.alloc d,.load r=>r !=d|.load _,.app=>true|.app,.load _=>true|.load _,.z8=>true|.z8,.load _=>true|.load r,.Kl a=>r !=a|.Kl a,.load r=>r !=a|.alloc _,.alloc _=>true|.alloc _,.app=>true|.app,.alloc _=>true|.alloc _,.z8=>true|.z8,.alloc _=>true|.app,.z8=>true|.z8,.app=>true|_,_=>false
structure Qt where
 all:Bool
 st:Nat->Bool
 cl:Nat->Nat:=λ_=>0
instance:Coe Bool Qt:=⟨λb=>⟨b,λ_=>false,λ_=>0⟩⟩
def Qt.ok(q:Qt):AV->Bool
 |.dM o _=>q.all||q.st o|_=>true
def QK(q:Qt)(H H':cW):Prop:=(q.all=true->H'=H)/\∀o,q.st o=true->H'[o]?=H[o]?
@[simp] theorem Qt.abf(q:Qt)(o f:Nat):q.ok (.dM o f)=(q.all||q.st o):=rfl
@[simp] theorem Qt.aa6(q:Qt)(b g f:Nat):q.ok (.fC b g f)=true:=rfl
@[simp] theorem Qt.aa7(q:Qt)(x:AV):q.ok (.lG x)=true:=rfl
@[simp] theorem acj(a:Bool)(st:Nat->Bool)(cl:Nat->Nat)(H H':cW):QK ⟨a,st,cl⟩ H H'=((a=true->H'=H)/\∀o,st o=true->H'[o]?=H[o]?):=rfl
def QK.refl{q:Qt}{H:cW}:QK q H H:=⟨λ_=>rfl,λ_ _=>rfl⟩
def lI(P:Program)(T:dx)(E:List Nat)(ops:List Oper)(q:Qt)(soft:Bool)(fr:Fr)(H:cW)(o:Oper):Option AV:=
 match o.op with
 |.load t x=>if pT ops x (ev T fr x)&&(!soft||q.ok (ev T fr x))then sY P fr H t (ev T fr x)else none|.lookup t x i ok=>if !soft||q.all then tT P H t (ev T fr x) (ev T fr i) ok else none|.buildSlice t n ps=>if o.dst.any E.contains then none else mH P t n (ps.toList.map λp=>(p.1,ev T fr p.2))|.alloc _=>none|.box _ _=>none|.store _ _ _=>none|.call c=>match c.callee with
  |.builtin .append=>none|.builtin _=>vL P T fr c|_=>none
 |_=>xL P T fr o
def mI(P:Program)(T:dx)(b:AV)(args:List AV)(H:cW)(r:AV)(H':cW):Prop:=k0 P T b args H λc a=>c=r/\a=H'
def fO(P:Program)(T:dx)(E:List Nat)(ops:List Oper)(q:Qt)(soft:Bool)(o:Oper)(K:Fr->cW->Prop)(fr:Fr)(H:cW):Prop:=
 match o.op with
 |.alloc t=>match js P t with
  |some z=>(soft=true->o.dst.any E.contains=false)/\j_ E o.dst z K fr H|none=>False
 |.box _ x=>dY (ev T fr x)=true/\(soft=true->o.dst.any E.contains=false)/\j_ E o.dst (ev T fr x).cells K fr H|.store t x y=>o.dst=none/\pT ops x (ev T fr x)=true/\(soft=true->Y_ (ev T fr x)=true)/\ld P t (ev T fr x) (ev T fr y) K fr H|.call c=>match c.callee with
  |.builtin .append=>mO P T c o.dst K fr H|.builtin _=>match lI P T E ops q soft fr H o with
   |some v=>K (fr.put o.dst v) H|none=>False
  |.value f=>∃r H',mI P T (ev T fr f) (c.args.toList.map λx=>(ev T fr x).norm) H r H'/\(soft=true->QK q H H')/\K (fr.put o.dst r) H'|.invoke _ _=>False
 |_=>match lI P T E ops q soft fr H o with
  |some v=>K (fr.put o.dst v) H|none=>False
section
variable{P:Program} {T:dx} {E:List Nat} {ops:List Oper} {q:Qt} {soft:Bool} {o:Oper} {K K':Fr->cW->Prop} {fr:Fr} {H:cW}
def D5{dst:Option Nat}{cs:List AV}(b:∀fr H,K fr H->K' fr H)(h:j_ E dst cs K fr H):j_ E dst cs K' fr H:=by
 unfold j_ at*
 split at h
 ·split at h
  ·rename_i a;rw[cO a];exact b _ _ h
  ·rename_i a;rw[cK a];exact b _ _ h
 ·exact h.elim
def Mo{t:TypeId}{x v:AV}(a:∀fr H,K fr H->K' fr H)(h:ld P t x v K fr H):ld P t x v K' fr H:=by
 unfold ld at*
 split at h
 ·exact h.elim
 ·split at h
  ·split at h
   ·exact⟨h.1,h.2.1,h.2.2.1,h.2.2.2.1,a _ _ h.2.2.2.2⟩
   ·exact h.elim
  ·split at h
   ·exact⟨h.1,h.2.1,h.2.2.1,h.2.2.2.1,a _ _ h.2.2.2.2⟩
   ·exact h.elim
  ·exact h.elim
def Jz{c:Call}{dst:Option Nat}(d:∀fr H,K fr H->K' fr H)(h:mO P T c dst K fr H):mO P T c dst K' fr H:=by
 unfold mO at*
 split at h
 ·split at h
  ·obtain⟨h1,e,f,g,a⟩:=h;refine⟨h1,e,f,g,?_⟩
   split at a
   ·rename_i b;rw[cO b];exact d _ _ a
   ·rename_i b;rw[cK b];exact⟨a.1,d _ _ a.2⟩
  ·exact h.elim
 ·exact h.elim
def nG(P:Program)(T:dx)(E:List Nat)(ops:List Oper)(q:Qt)(soft:Bool)(o:Oper)(fr:Fr)(H:cW)(fr':Fr)(H':cW):Prop:=fO P T E ops q soft o (λf h=>f=fr'/\h=H') fr H
def FM{dst:Option Nat}{cs:List AV}(h:j_ E dst cs K fr H):∃fr' H',j_ E dst cs (λf h=>f=fr'/\h=H') fr H/\K fr' H':=by
 unfold j_ at*
 split at h
 ·split at h
  ·rename_i a;exact⟨_,_,by rw[cO a];exact⟨rfl,rfl⟩,h⟩
  ·rename_i a;exact⟨_,_,by rw[cK a];exact⟨rfl,rfl⟩,h⟩
 ·exact h.elim
def NB{t:TypeId}{x v:AV}(h:ld P t x v K fr H):∃fr' H',ld P t x v (λf h=>f=fr'/\h=H') fr H/\K fr' H':=by
 unfold ld at*
 split at h
 ·exact h.elim
 ·split at h
  ·split at h
   ·exact⟨_,_,⟨h.1,h.2.1,h.2.2.1,h.2.2.2.1,rfl,rfl⟩,h.2.2.2.2⟩
   ·exact h.elim
  ·split at h
   ·exact⟨_,_,⟨h.1,h.2.1,h.2.2.1,h.2.2.2.1,rfl,rfl⟩,h.2.2.2.2⟩
   ·exact h.elim
  ·exact h.elim
def La{c:Call}{dst:Option Nat}(h:mO P T c dst K fr H):∃fr' H',mO P T c dst (λf h=>f=fr'/\h=H') fr H/\K fr' H':=by
 unfold mO at*
 split at h
 ·split at h
  ·obtain⟨h1,d,e,g,a⟩:=h
   split at a
   ·rename_i b;exact⟨_,_,⟨h1,d,e,g,by rw[cO b];exact⟨rfl,rfl⟩⟩,a⟩
   ·rename_i b;exact⟨_,_,⟨h1,d,e,g,by rw[cK b];exact⟨a.1,rfl,rfl⟩⟩,a.2⟩
  ·exact h.elim
 ·exact h.elim
def sk(h:fO P T E ops q soft o K fr H):∃fr' H',nG P T E ops q soft o fr H fr' H'/\K fr' H':=by
 unfold nG fO at*
 split at h
 ·split at h
  ·obtain⟨fr',H',h1,a⟩:=FM h.2;exact⟨fr',H',⟨h.1,h1⟩,a⟩
  ·exact h.elim
 ·obtain⟨fr',H',h1,a⟩:=FM h.2.2;exact⟨fr',H',⟨h.1,h.2.1,h1⟩,a⟩
 ·obtain⟨fr',H',h1,a⟩:=NB h.2.2.2;exact⟨fr',H',⟨h.1,h.2.1,h.2.2.1,h1⟩,a⟩
 ·split at h
  ·exact La h
  ·split at h
   ·exact⟨_,_,⟨rfl,rfl⟩,h⟩
   ·exact h.elim
  ·obtain⟨r,H',h1,a,b⟩:=h;exact⟨_,_,⟨r,H',h1,a,rfl,rfl⟩,b⟩
  ·exact h.elim
 ·split at h
  ·exact⟨_,_,⟨rfl,rfl⟩,h⟩
  ·exact h.elim
def Fl(a:∀fr H,K fr H->K' fr H)(h:fO P T E ops q soft o K fr H):fO P T E ops q soft o K' fr H:=by
 unfold fO at*
 split at h
 ·split at h
  ·exact⟨h.1,D5 a h.2⟩
  ·exact h.elim
 ·exact⟨h.1,h.2.1,D5 a h.2.2⟩
 ·exact⟨h.1,h.2.1,h.2.2.1,Mo a h.2.2.2⟩
 ·split at h
  ·exact Jz a h
  ·split at h
   ·exact a _ _ h
   ·exact h.elim
  ·obtain⟨r,H',h1,b,c⟩:=h;exact⟨r,H',h1,b,a _ _ c⟩
  ·exact h.elim
 ·split at h
  ·exact a _ _ h
  ·exact h.elim
def vk{fr':Fr}{H':cW}(h:nG P T E ops q soft o fr H fr' H')(a:K fr' H'):fO P T E ops q soft o K fr H:=
 Fl (λf h ⟨b,c⟩=>by subst b;subst c;exact a) h
def Md(h:fO P T E ops q soft o K fr H):qi P T E o K fr H:=by
 obtain⟨dst,op,type,pos,after,guard⟩:=o;cases op with
 |alloc t=>
  simp only[fO,qi] at h|-
  split at h
  ·rename_i z e;rw[e];exact h.2
  ·exact h.elim
 |box t x=>
  simp only[fO,qi] at h|-;exact⟨h.1,h.2.2⟩
 |store t x y=>
  simp only[fO,qi] at h|-;exact⟨h.1,h.2.2.2⟩
 |load t x=>
  simp only[fO,qi,lI] at h|-
  split at h
  ·rename_i v a
   split at a
   ·rw[a];exact h
   ·cases a
  ·exact h.elim
 |buildSlice t n ps=>
  simp only[fO,qi,lI] at h|-
  split at h
  ·rename_i v a
   split at a
   ·cases a
   ·rename_i g;rw[a];simp only[FH];rw[cK g];exact h
  ·exact h.elim
 |lookup t x i ok=>
  simp only[fO,qi,lI] at h|-
  split at h
  ·rename_i v a
   split at a
   ·rw[a];exact h
   ·cases a
  ·exact h.elim
 |convert s d x=>
  simp only[fO,qi,lI,xL,Ro] at h|-
  split at h
  ·rename_i v a;rw[a];exact h
  ·exact h.elim
 |call c=>
  obtain⟨callee,args,Mn⟩:=c;cases callee with
  |builtin b=>cases b<;>simp only[fO,qi,lI] at h|-<;>first|exact .inl (.inl h)|exact h
  |value f=>
   simp only[fO,qi] at h|-;obtain⟨r,H',h1,u,j⟩:=h;unfold mI k0 at h1;unfold k0
   split at h1
   ·exact h1.mono λw k ⟨l,p⟩=>by subst l;subst p;exact j
   ·exact h1
  |invoke r m=>simp only[fO] at h
 |_=>
  simp only[fO,qi,lI] at h|-
  first
   |exact h
   |(simp only[xL] at h)
end
section
variable{P:Program} {T:dx} {fr fr':Fr}
def FI{x:Operand}(h:∀t,x=.tmp t->fr.env t=fr'.env t):ev T fr x=ev T fr' x:=by
 cases x with
 |tmp t=>exact h t rfl|_=>rfl
def I9{xs:List Operand}(h:∀x∈xs,ev T fr x=ev T fr' x):xs.map (ev T fr)=xs.map (ev T fr'):=vW h
def Ev{c:Call}(h:∀x∈c.args.toList,ev T fr x=ev T fr' x):vL P T fr c=vL P T fr' c:=by
 unfold vL
 split
 ·split
  ·rename_i t x h1 b;rw[h x (wS.2 (Sx b))]
  ·rfl
 ·split
  ·rename_i x l a;rw[a] at h;rw[h x aa4,I9 λy hy=>h y (by simp[hy])]
  ·rfl
 ·split
  ·rename_i x l a;rw[a] at h;rw[h x aa4,I9 λy hy=>h y (by simp[hy])]
  ·rfl
 ·rfl
def NZ{o:Oper}(h:∀x∈o.op.operands,ev T fr x=ev T fr' x):xL P T fr o=xL P T fr' o:=by
 obtain⟨dst,op,type,pos,after,guard⟩:=o
 have opt:∀(x:Option Operand),(∀y,x=some y->ev T fr y=ev T fr' y)->x.map (ev T fr)=x.map (ev T fr'):=by
  intro x a;cases x with
  |none=>rfl|some y=>simp[a y rfl]
 cases op<;>simp only[Op.operands] at h<;>simp only[xL]
 case move x=>rw[h x aa4]
 case assign x=>rw[h x aa4]
 case pick c x y=>rw[h c aa4,h x aa4,h y aa4]
 case build t ps=>
  have:(ps.toList.map λp=>(p.1,ev T fr p.2))=ps.toList.map λp=>(p.1,ev T fr' p.2):=
   vW λp b=>by rw[h p.2 (by simp;exact⟨p.1,by simpa using b⟩)]
  rw[this]
 case binOp op t x y k=>rw[h x aa4,h y aa4]
 case unOp op t x=>rw[h x aa4]
 case convert s d x=>rw[h x aa4]
 case makeFunc fn f c=>
  have e:(f.toList.map λx=>(ev T fr x).norm)=f.toList.map λx=>(ev T fr' x).norm:=vW λx a=>by rw[h x (by simp[wS.1 a])]
  have g:(c.toList.map λx=>(ev T fr x).norm)=c.toList.map λx=>(ev T fr' x).norm:=vW λx a=>by rw[h x (by simp[wS.1 a])]
  rw[e,g]
 case fieldAddr t x i=>rw[h x aa4]
 case field t x i=>rw[h x aa4]
 case indexAddr t x i=>rw[h x aa4,h i aa4]
 case index t x i=>rw[h x aa4,h i aa4]
 case slice t x lo hi j=>rw[h x aa4,opt lo λy hy=>h y (by simp[hy]),opt hi λy hy=>h y (by simp[hy]),opt j λy hy=>h y (by simp[hy])]
 case extract x i=>rw[h x aa4]
 case nilCheck x=>rw[h x aa4]
 case makeInterface t x=>rw[h x aa4]
 case call c=>exact Ev λx a=>h x (by simp[Call.operands,wS.1 a])
def Mm{H H':cW}{t:TypeId}{x:AV}(h1:∀b g off,x=.fC b g off->fr.box b=fr'.box b/\fr.gen b=fr'.gen b)(a:∀o off,x=.dM o off->H[o]?=H'[o]?):sY P fr H t x=sY P fr' H' t x:=by
 cases x with
 |fC b g off=>
  obtain⟨c,d⟩:=h1 b g off rfl;simp only[sY,c,d]
 |dM o off=>simp only[sY,a o off rfl]|_=>rfl
def xh{E:List Nat}{ops:List Oper}{q:Qt}{soft:Bool}{H H':cW}{o:Oper}(h:∀x∈o.op.operands,ev T fr x=ev T fr' x)
  (d:∀t x,o.op=.load t x->(∀b g off,ev T fr x=.fC b g off->fr.box b=fr'.box b/\fr.gen b=fr'.gen b)/\(∀o off,ev T fr x=.dM o off->H[o]?=H'[o]?)) (e:∀t x i ok,o.op=.lookup t x i ok->H=H'):lI P T E ops q soft fr H o=lI P T E ops q soft fr' H' o:=by
 obtain⟨dst,op,type,pos,after,guard⟩:=o;cases op with
 |load t x=>
  have a:=h x (by simp[Op.operands]);obtain⟨h1,f⟩:=d t x rfl;simp only[lI];rw[Mm h1 f,a]
 |lookup t x i ok=>
  simp only[lI];rw[e t x i ok rfl,h x (by simp[Op.operands]),h i (by simp[Op.operands])]
 |buildSlice t n ps=>
  simp only[lI]
  have:(ps.toList.map λp=>(p.1,ev T fr p.2))=ps.toList.map λp=>(p.1,ev T fr' p.2):=
   vW λp j=>by rw[h p.2 (by simp[Op.operands];exact⟨p.1,by simpa using j⟩)]
  rw[this]
 |call c=>
  obtain⟨callee,args,Mn⟩:=c
  have k:vL P T fr {callee:=callee,args:=args,argTypes:=Mn}=vL P T fr' {callee:=callee,args:=args,argTypes:=Mn}:=
   Ev λx a=>h x (by simp[Op.operands,Call.operands,wS.1 a])
  cases callee with
  |builtin b=>cases b<;>simp only[lI]<;>first|rfl|exact k
  |_=>rfl
 |alloc t=>rfl|box t x=>rfl|store t x y=>rfl|_=>exact NZ (P:=P) h
end
def mA(fr:Fr){d a:Nat}(h:d≠a)(x y:AV):(fr.put (some d) x).put (some a) y=(fr.put (some a) y).put (some d) x:=by
 simp only[Fr.put]
 congr 1
 funext j
 simp only[fN]
 by_cases h1:j=a
 ·subst h1;rw[cO rfl,cK (λe=>h e.symm),cO rfl]
 ·rw[cK h1]
  by_cases b:j=d
  ·rw[cO b,cO b]
  ·rw[cK b,cK b,cK h1]
section
variable{P:Program} {T:dx} {E:List Nat} {ops:List Oper} {opsA:Array Oper} {q:Qt} {soft:Bool} {o:Oper} {K:Fr->cW->Prop} {fr:Fr} {H:cW}
def I7{d:Nat}{v:AV}(hd:d∉o.looksAt opsA)(w:o.dst≠some d)(h:fO P T E ops q soft o K (fr.put (some d) v) H):fO P T E ops q soft o (λf h=>K (f.put (some d) v) h) fr H:=by
 have j:∀x∈o.op.operands,ev T (fr.put (some d) v) x=ev T fr x:=by
  intro x B;refine FI λt M=>?_;subst M;rw[Fr.tR,cK];rintro he;injection he with he;subst he;exact hd (Zf _ (XB.2 ⟨.tmp d,by simpa using B,rfl⟩))
 have C:lI P T E ops q soft (fr.put (some d) v) H o=lI P T E ops q soft fr H o:=xh j (λt x _=>⟨λb g off _=>⟨rfl,rfl⟩,λ_ _ _=>rfl⟩) λ_ _ _ _ _=>rfl;clear hd;obtain⟨dst,op,type,pos,after,guard⟩:=o;simp only at w
 have a:∀x:AV,((fr.put (some d) v).put dst x)=((fr.put dst x).put (some d) v):=by
  intro x;cases dst with
  |none=>rfl|some p=>exact mA fr (λe=>w (by rw[e])) v x
 have n:∀cs,j_ E dst cs K (fr.put (some d) v) H->j_ E dst cs (λf h=>K (f.put (some d) v) h) fr H:=by
  intro cs u;unfold j_ at*
  split at u
  ·rename_i p;have A:p≠d:=λe=>w (by rw[e])
   have z:∀y:AV,fN (fN fr.env d v) p y=fN (fN fr.env p y) d v:=by
    intro y;have:=congrArg Fr.env (mA fr A.symm v y);exact this
   split at u
   ·rename_i D;rw[cO D];simp only[Fr.put] at u|-;rw[<-z];exact u
   ·rename_i D;rw[cK D];simp only[Fr.put] at u|-;rw[<-z];exact u
  ·exact u.elim
 cases op with
 |alloc t=>
  simp only[fO] at h|-
  split at h
  ·exact⟨h.1,n _ h.2⟩
  ·exact h.elim
 |box t x=>
  simp only[fO] at h|-;rw[j x (by simp[Op.operands])] at h;exact⟨h.1,h.2.1,n _ h.2.2⟩
 |store t x y=>
  simp only[fO] at h|-;rw[j x (by simp[Op.operands]),j y (by simp[Op.operands])] at h;refine⟨h.1,h.2.1,h.2.2.1,?_⟩;have N:=h.2.2.2;unfold ld at*;exact N
 |call c=>
  obtain⟨callee,args,Mn⟩:=c;cases callee with
  |builtin b=>
   have i:∀x∈args.toList,ev T (fr.put (some d) v) x=ev T fr x:=λx B=>j x (by simp[Op.operands,Call.operands,wS.1 B])
   cases b<;>first
    |(simp only[fO] at h|-
      rw[C] at h
      split at h
      ·rw[<-a];exact h
      ·exact h.elim)
    |(simp only[fO] at h|-
      unfold mO at*
      split at h
      ·rename_i p s x t O k G;have A:p≠d:=λe=>w (by rw[e]);simp only at k;rw[i s (by rw[k];simp),i x (by rw[k];simp)] at h
       split at h
       ·rename_i e sz tag l I m h1 J L;obtain⟨g1,g2,g3,g4,g5⟩:=h;refine⟨g1,g2,g3,g4,?_⟩;have F:oV (fr.put (some d) v) tag l=oV fr tag l:=rfl;rw[F] at g5
        split at g5
        ·rename_i u;rw[cO u]
         have:grown (fr.put (some d) v) p tag l m=(grown fr p tag l m).put (some d) v:=by
          have:=congrArg Fr.env (mA fr A.symm v (.slice (.loc p (fr.ei p+1)) (l++m)));simp only[grown,Fr.put] at this|-;rw[this]
         show K ((grown fr p tag l m).put (some d) v) H;rw[<-this];exact g5
        ·rename_i u;rw[cK u];refine⟨g5.1,?_⟩;show K ((fr.put (some p) (.slice .hY l)).put (some d) v) H;rw[<-a];exact g5.2
       ·exact h.elim
      ·exact h.elim)
  |value f=>
   simp only[fO] at h|-
   have i:(args.toList.map λx=>(ev T (fr.put (some d) v) x).norm)=args.toList.map λx=>(ev T fr x).norm:=
    vW λx B=>by rw[j x (by simp[Op.operands,Call.operands,wS.1 B])]
   rw[i,j f (by simp[Op.operands,Call.operands])] at h;obtain⟨r,H',h1,J,L⟩:=h;refine⟨r,H',h1,J,?_⟩;rw[<-a];exact L
  |invoke r m=>exact h
 |_=>
  simp only[fO] at h|-;rw[C] at h
  split at h
  ·rw[<-a];exact h
  ·exact h.elim
end
end Go.ke
