/- Part of the proof of UniformExact, UniformAccepted: layer. -/
import Derived.Test.YtijednbpbbddbaaGreatDoorL5
set_option linter.all false
namespace Go.ns
open Go
def rootOf(ops:List Oper):Nat->Nat->Option Nat
 |0,_=>none|f+1,t=>
  match ops.find? (λo=>o.dst==some t)with
  |none=>some t|some o=>match o.op with
   |.fieldAddr _ (.tmp y) _=>rootOf ops f y|.indexAddr _ (.tmp y) _=>rootOf ops f y|.nilCheck (.tmp y)=>rootOf ops f y|.move (.tmp y)=>rootOf ops f y|.alloc _=>some t|.box _ _=>some t|_=>none
def Kr(ops:List Oper):Operand->Option Nat
 |.tmp t=>rootOf ops (ops.length+1) t|_=>none
def uB(ops:List Oper)(x:Operand)(v:AV):Bool:=
 match v with
 |.jo b _ _=>Kr ops x==some b|_=>true
def isG:AV->Bool
 |.eS _ _=>true|_=>false
def isL:AV->Bool
 |.jo _ _ _=>true|_=>false
inductive XJ where
 |val|load (r:Option Nat)|alloc (d:Option Nat)|FX|app|Pm (r:Option Nat)
 deriving DecidableEq
def fZ(E:List Nat)(ops:List Oper)(o:Oper):XJ:=
 match o.op with
 |.load _ x=>.load (Kr ops x)|.lookup _ _ _ _=>.load none|.alloc _=>match o.dst with|some d=>if E.contains d then .FX else .alloc (some d)|none=>.FX
 |.box _ _=>match o.dst with|some d=>if E.contains d then .FX else .alloc (some d)|none=>.FX
 |.store _ x _=>.Pm (Kr ops x)|.call c=>match c.callee with|.builtin .append=>.app|.builtin _=>.val|_=>.FX
 |_=>.val
def Bj:XJ->XJ->Bool
 |.val,_=>true|_,.val=>true|.load _,.load _=>true|.load r,.alloc d=>r !=d|.alloc d,.load r=>r !=d|.load _,.app=>true|.app,.load _=>true|.load _,.FX=>true|.FX,.load _=>true|.load r,.Pm a=>r !=a|.Pm a,.load r=>r !=a|.alloc _,.alloc _=>true|.alloc _,.app=>true|.app,.alloc _=>true|.alloc _,.FX=>true|.FX,.alloc _=>true|.app,.FX=>true|.FX,.app=>true|_,_=>false
structure Qt where
 all:Bool
 st:Nat->Bool
 cl:Nat->Nat:=λ_=>0
instance:Coe Bool Qt:=⟨λb=>⟨b,λ_=>false,λ_=>0⟩⟩
def Qt.ok(q:Qt):AV->Bool
 |.eS o _=>q.all||q.st o|_=>true
def QK(q:Qt)(H H':dd):Prop:=(q.all=true->H'=H)/\∀o,q.st o=true->H'[o]?=H[o]?
@[simp] theorem Qt.afe(q:Qt)(o f:Nat):q.ok (.eS o f)=(q.all||q.st o):=rfl
@[simp] theorem Qt.ae1(q:Qt)(b g f:Nat):q.ok (.jo b g f)=true:=rfl
@[simp] theorem Qt.afc(q:Qt)(x:AV):q.ok (.nt x)=true:=rfl
@[simp] theorem af8(a:Bool)(st:Nat->Bool)(cl:Nat->Nat)(H H':dd):QK ⟨a,st,cl⟩ H H'=((a=true->H'=H)/\∀o,st o=true->H'[o]?=H[o]?):=rfl
def QK.refl{q:Qt}{H:dd}:QK q H H:=⟨λ_=>rfl,λ_ _=>rfl⟩
def oZ(P:Program)(T:ec)(E:List Nat)(ops:List Oper)(q:Qt)(soft:Bool)(fr:Fr)(H:dd)(o:Oper):Option AV:=
 match o.op with
 |.load t x=>if uB ops x (ev T fr x)&&(!soft||q.ok (ev T fr x))then yp P fr H t (ev T fr x)else none|.lookup t x i ok=>if !soft||q.all then zo P H t (ev T fr x) (ev T fr i) ok else none|.buildSlice t n ps=>if o.dst.any E.contains then none else qx P t n (ps.toList.map λp=>(p.1,ev T fr p.2))|.makeSlice t l c=>uc P t (ev T fr l) (ev T fr c)|.alloc _=>none|.box _ _=>none|.store _ _ _=>none|.call c=>match c.callee with
  |.builtin .append=>none|.builtin _=>xa P T fr c|_=>none
 |_=>zs P T fr o
def qC(P:Program)(T:ec)(b:AV)(args:List AV)(H:dd)(r:AV)(H':dd):Prop:=qs P T b args H λc a=>c=r/\a=H'
def iB(P:Program)(T:ec)(E:List Nat)(ops:List Oper)(q:Qt)(soft:Bool)(o:Oper)(K:Fr->dd->Prop)(fr:Fr)(H:dd):Prop:=
 match o.op with
 |.alloc t=>match hE P t with
  |some z=>(soft=true->o.dst.any E.contains=false)/\nq E o.dst z K fr H|none=>False
 |.box _ x=>e9 (ev T fr x)=true/\(soft=true->o.dst.any E.contains=false)/\nq E o.dst (ev T fr x).cells K fr H|.store t x y=>o.dst=none/\uB ops x (ev T fr x)=true/\(soft=true->isL (ev T fr x)=true)/\o6 P t (ev T fr x) (ev T fr y) K fr H|.call c=>match c.callee with
  |.builtin .append=>qG P T c o.dst K fr H|.builtin _=>match oZ P T E ops q soft fr H o with
   |some v=>K (fr.put o.dst v) H|none=>False
  |.value f=>∃r H',qC P T (ev T fr f) (c.args.toList.map λx=>(ev T fr x).norm) H r H'/\(soft=true->QK q H H')/\K (fr.put o.dst r) H'|.invoke _ _=>False
 |_=>match oZ P T E ops q soft fr H o with
  |some v=>K (fr.put o.dst v) H|none=>False
section
variable{P:Program} {T:ec} {E:List Nat} {ops:List Oper} {q:Qt} {soft:Bool} {o:Oper} {K K':Fr->dd->Prop} {fr:Fr} {H:dd}
def Kw{dst:Option Nat}{cs:List AV}(b:∀fr H,K fr H->K' fr H)(h:nq E dst cs K fr H):nq E dst cs K' fr H:=by
 unfold nq at*
 split at h
 ·split at h
  ·rename_i a;rw[cK a];exact b _ _ h
  ·rename_i a;rw[cI a];exact b _ _ h
 ·exact h.elim
def Rm{t:TypeId}{x v:AV}(a:∀fr H,K fr H->K' fr H)(h:o6 P t x v K fr H):o6 P t x v K' fr H:=by
 unfold o6 at*
 split at h
 ·exact h.elim
 ·split at h
  ·split at h
   ·exact⟨h.1,h.2.1,h.2.2.1,h.2.2.2.1,a _ _ h.2.2.2.2⟩
   ·exact h.elim
  ·split at h
   ·exact⟨h.1,h.2.1,h.2.2.1,h.2.2.2.1,a _ _ h.2.2.2.2⟩
   ·exact h.elim
  ·exact h.elim
def QJ{c:Call}{dst:Option Nat}(d:∀fr H,K fr H->K' fr H)(h:qG P T c dst K fr H):qG P T c dst K' fr H:=by
 unfold qG at*
 split at h
 ·split at h
  ·obtain⟨e,f,g,i,a⟩:=h;refine⟨e,f,g,i,?_⟩
   split at a
   ·rename_i b;rw[cK b];exact d _ _ a
   ·rename_i b;rw[cI b];exact⟨a.1,d _ _ a.2⟩
  ·exact h.elim
 ·exact h.elim
def rT(P:Program)(T:ec)(E:List Nat)(ops:List Oper)(q:Qt)(soft:Bool)(o:Oper)(fr:Fr)(H:dd)(fr':Fr)(H':dd):Prop:=iB P T E ops q soft o (λf h=>f=fr'/\h=H') fr H
def M6{dst:Option Nat}{cs:List AV}(h:nq E dst cs K fr H):∃fr' H',nq E dst cs (λf h=>f=fr'/\h=H') fr H/\K fr' H':=by
 unfold nq at*
 split at h
 ·split at h
  ·rename_i a;exact⟨_,_,by rw[cK a];exact⟨rfl,rfl⟩,h⟩
  ·rename_i a;exact⟨_,_,by rw[cI a];exact⟨rfl,rfl⟩,h⟩
 ·exact h.elim
def Sy{t:TypeId}{x v:AV}(h:o6 P t x v K fr H):∃fr' H',o6 P t x v (λf h=>f=fr'/\h=H') fr H/\K fr' H':=by
 unfold o6 at*
 split at h
 ·exact h.elim
 ·split at h
  ·split at h
   ·exact⟨_,_,⟨h.1,h.2.1,h.2.2.1,h.2.2.2.1,rfl,rfl⟩,h.2.2.2.2⟩
   ·exact h.elim
  ·split at h
   ·exact⟨_,_,⟨h.1,h.2.1,h.2.2.1,h.2.2.2.1,rfl,rfl⟩,h.2.2.2.2⟩
   ·exact h.elim
  ·exact h.elim
def RT{c:Call}{dst:Option Nat}(h:qG P T c dst K fr H):∃fr' H',qG P T c dst (λf h=>f=fr'/\h=H') fr H/\K fr' H':=by
 unfold qG at*
 split at h
 ·split at h
  ·obtain⟨d,e,g,i,a⟩:=h
   split at a
   ·rename_i b;exact⟨_,_,⟨d,e,g,i,by rw[cK b];exact⟨rfl,rfl⟩⟩,a⟩
   ·rename_i b;exact⟨_,_,⟨d,e,g,i,by rw[cI b];exact⟨a.1,rfl,rfl⟩⟩,a.2⟩
  ·exact h.elim
 ·exact h.elim
def xO(h:iB P T E ops q soft o K fr H):∃fr' H',rT P T E ops q soft o fr H fr' H'/\K fr' H':=by
 unfold rT iB at*
 split at h
 ·split at h
  ·obtain⟨fr',H',a,b⟩:=M6 h.2;exact⟨fr',H',⟨h.1,a⟩,b⟩
  ·exact h.elim
 ·obtain⟨fr',H',a,b⟩:=M6 h.2.2;exact⟨fr',H',⟨h.1,h.2.1,a⟩,b⟩
 ·obtain⟨fr',H',a,b⟩:=Sy h.2.2.2;exact⟨fr',H',⟨h.1,h.2.1,h.2.2.1,a⟩,b⟩
 ·split at h
  ·exact RT h
  ·split at h
   ·exact⟨_,_,⟨rfl,rfl⟩,h⟩
   ·exact h.elim
  ·obtain⟨r,H',a,b,c⟩:=h;exact⟨_,_,⟨r,H',a,b,rfl,rfl⟩,c⟩
  ·exact h.elim
 ·split at h
  ·exact⟨_,_,⟨rfl,rfl⟩,h⟩
  ·exact h.elim
def Mo(a:∀fr H,K fr H->K' fr H)(h:iB P T E ops q soft o K fr H):iB P T E ops q soft o K' fr H:=by
 unfold iB at*
 split at h
 ·split at h
  ·exact⟨h.1,Kw a h.2⟩
  ·exact h.elim
 ·exact⟨h.1,h.2.1,Kw a h.2.2⟩
 ·exact⟨h.1,h.2.1,h.2.2.1,Rm a h.2.2.2⟩
 ·split at h
  ·exact QJ a h
  ·split at h
   ·exact a _ _ h
   ·exact h.elim
  ·obtain⟨r,H',b,c,d⟩:=h;exact⟨r,H',b,c,a _ _ d⟩
  ·exact h.elim
 ·split at h
  ·exact a _ _ h
  ·exact h.elim
def Ac{fr':Fr}{H':dd}(h:rT P T E ops q soft o fr H fr' H')(a:K fr' H'):iB P T E ops q soft o K fr H:=
 Mo (λf h ⟨b,c⟩=>by subst b;subst c;exact a) h
def R3(h:iB P T E ops q soft o K fr H):uZ P T E o K fr H:=by
 obtain⟨dst,op,type,pos,after,guard⟩:=o;cases op with
 |alloc t=>
  simp only[iB,uZ] at h|-
  split at h
  ·rename_i z g;rw[g];exact h.2
  ·exact h.elim
 |box t x=>
  simp only[iB,uZ] at h|-;exact⟨h.1,h.2.2⟩
 |store t x y=>
  simp only[iB,uZ] at h|-;exact⟨h.1,h.2.2.2⟩
 |load t x=>
  simp only[iB,uZ,oZ] at h|-
  split at h
  ·rename_i v a
   split at a
   ·rw[a];exact h
   ·cases a
  ·exact h.elim
 |buildSlice t n ps=>
  simp only[iB,uZ,oZ] at h|-
  split at h
  ·rename_i v a
   split at a
   ·cases a
   ·rename_i j;rw[a];simp only[Nb];rw[cI j];exact h
  ·exact h.elim
 |lookup t x i ok=>
  simp only[iB,uZ,oZ] at h|-
  split at h
  ·rename_i v a
   split at a
   ·rw[a];exact h
   ·cases a
  ·exact h.elim
 |convert s d x=>
  simp only[iB,uZ,oZ,zs,Ri] at h|-
  split at h
  ·rename_i v a;rw[a];exact h
  ·exact h.elim
 |call c=>
  obtain⟨callee,args,OU⟩:=c;cases callee with
  |builtin b=>cases b<;>simp only[iB,uZ,oZ] at h|-<;>first|exact .inl (.inl h)|exact h
  |value f=>
   simp only[iB,uZ] at h|-;obtain⟨r,H',e,w,k⟩:=h;unfold qC qs at e;unfold qs
   split at e
   ·exact e.mono λA l ⟨p,u⟩=>by subst p;subst u;exact k
   ·exact e
  |invoke r m=>simp only[iB] at h
 |_=>
  simp only[iB,uZ,oZ] at h|-
  first
   |exact h
   |(simp only[zs] at h)
end
section
variable{P:Program} {T:ec} {fr fr':Fr}
def I0{x:Operand}(h:∀t,x=.tmp t->fr.env t=fr'.env t):ev T fr x=ev T fr' x:=by
 cases x with
 |tmp t=>exact h t rfl|_=>rfl
def OJ{xs:List Operand}(h:∀x∈xs,ev T fr x=ev T fr' x):xs.map (ev T fr)=xs.map (ev T fr'):=tg h
def KA{c:Call}(h:∀x∈c.args.toList,ev T fr x=ev T fr' x):xa P T fr c=xa P T fr' c:=by
 unfold xa
 split
 ·split
  ·rename_i t x d b;rw[h x (Bn.2 (UO b))]
  ·rfl
 ·split
  ·rename_i x l a;rw[a] at h;rw[h x aaB,OJ λy hy=>h y (by simp[hy])]
  ·rfl
 ·split
  ·rename_i x l a;rw[a] at h;rw[h x aaB,OJ λy hy=>h y (by simp[hy])]
  ·rfl
 ·rfl
def Td{o:Oper}(h:∀x∈o.op.operands,ev T fr x=ev T fr' x):zs P T fr o=zs P T fr' o:=by
 obtain⟨dst,op,type,pos,after,guard⟩:=o
 have opt:∀(x:Option Operand),(∀y,x=some y->ev T fr y=ev T fr' y)->x.map (ev T fr)=x.map (ev T fr'):=by
  intro x a;cases x with
  |none=>rfl|some y=>simp[a y rfl]
 cases op<;>simp only[Op.operands] at h<;>simp only[zs]
 case move x=>rw[h x aaB]
 case assign x=>rw[h x aaB]
 case pick c x y=>rw[h c aaB,h x aaB,h y aaB]
 case build t ps=>
  have:(ps.toList.map λp=>(p.1,ev T fr p.2))=ps.toList.map λp=>(p.1,ev T fr' p.2):=
   tg λp b=>by rw[h p.2 (by simp;exact⟨p.1,by simpa using b⟩)]
  rw[this]
 case binOp op t x y k=>rw[h x aaB,h y aaB]
 case unOp op t x=>rw[h x aaB]
 case convert s d x=>rw[h x aaB]
 case makeFunc fn f c=>
  have e:(f.toList.map λx=>(ev T fr x).norm)=f.toList.map λx=>(ev T fr' x).norm:=tg λx a=>by rw[h x (by simp[Bn.1 a])]
  have g:(c.toList.map λx=>(ev T fr x).norm)=c.toList.map λx=>(ev T fr' x).norm:=tg λx a=>by rw[h x (by simp[Bn.1 a])]
  rw[e,g]
 case fieldAddr t x i=>rw[h x aaB]
 case field t x i=>rw[h x aaB]
 case indexAddr t x i=>rw[h x aaB,h i aaB]
 case index t x i=>rw[h x aaB,h i aaB]
 case slice t x lo hi j=>rw[h x aaB,opt lo λy hy=>h y (by simp[hy]),opt hi λy hy=>h y (by simp[hy]),opt j λy hy=>h y (by simp[hy])]
 case extract x i=>rw[h x aaB]
 case nilCheck x=>rw[h x aaB]
 case makeInterface t x=>rw[h x aaB]
 case typeAssert x l t ok=>cases ok<;>simp only[h x aaB]
 case call c=>exact KA λx a=>h x (by simp[Call.operands,Bn.1 a])
def Q5{H H':dd}{t:TypeId}{x:AV}(a:∀b g off,x=.jo b g off->fr.box b=fr'.box b/\fr.gen b=fr'.gen b)(c:∀o off,x=.eS o off->H[o]?=H'[o]?):yp P fr H t x=yp P fr' H' t x:=by
 cases x with
 |jo b g off=>
  obtain⟨d,e⟩:=a b g off rfl;simp only[yp,d,e]
 |eS o off=>simp only[yp,c o off rfl]|_=>rfl
def CS{E:List Nat}{ops:List Oper}{q:Qt}{soft:Bool}{H H':dd}{o:Oper}(h:∀x∈o.op.operands,ev T fr x=ev T fr' x)
  (d:∀t x,o.op=.load t x->(∀b g off,ev T fr x=.jo b g off->fr.box b=fr'.box b/\fr.gen b=fr'.gen b)/\(∀o off,ev T fr x=.eS o off->H[o]?=H'[o]?)) (e:∀t x i ok,o.op=.lookup t x i ok->H=H'):oZ P T E ops q soft fr H o=oZ P T E ops q soft fr' H' o:=by
 obtain⟨dst,op,type,pos,after,guard⟩:=o;cases op with
 |load t x=>
  have a:=h x (by simp[Op.operands]);obtain⟨f,j⟩:=d t x rfl;simp only[oZ];rw[Q5 f j,a]
 |lookup t x i ok=>
  simp only[oZ];rw[e t x i ok rfl,h x (by simp[Op.operands]),h i (by simp[Op.operands])]
 |buildSlice t n ps=>
  simp only[oZ]
  have:(ps.toList.map λp=>(p.1,ev T fr p.2))=ps.toList.map λp=>(p.1,ev T fr' p.2):=
   tg λp k=>by rw[h p.2 (by simp[Op.operands];exact⟨p.1,by simpa using k⟩)]
  rw[this]
 |makeSlice t l c=>
  simp only[oZ];rw[h l (by simp[Op.operands]),h c (by simp[Op.operands])]
 |call c=>
  obtain⟨callee,args,OU⟩:=c
  have m:xa P T fr {callee:=callee,args:=args,argTypes:=OU}=xa P T fr' {callee:=callee,args:=args,argTypes:=OU}:=
   KA λx a=>h x (by simp[Op.operands,Call.operands,Bn.1 a])
  cases callee with
  |builtin b=>cases b<;>simp only[oZ]<;>first|rfl|exact m
  |_=>rfl
 |alloc t=>rfl|box t x=>rfl|store t x y=>rfl|_=>exact Td (P:=P) h
end
def qp(fr:Fr){d a:Nat}(h:d≠a)(x y:AV):(fr.put (some d) x).put (some a) y=(fr.put (some a) y).put (some d) x:=by
 simp only[Fr.put]
 congr 1
 funext j
 simp only[ia]
 by_cases c:j=a
 ·subst c;rw[cK rfl,cI (λe=>h e.symm),cK rfl]
 ·rw[cI c]
  by_cases b:j=d
  ·rw[cK b,cK b]
  ·rw[cI b,cI b,cI c]
section
variable{P:Program} {T:ec} {E:List Nat} {ops:List Oper} {opsA:Array Oper} {q:Qt} {soft:Bool} {o:Oper} {K:Fr->dd->Prop} {fr:Fr} {H:dd}
def O7{d:Nat}{v:AV}(G:d∉o.looksAt opsA)(w:o.dst≠some d)(h:iB P T E ops q soft o K (fr.put (some d) v) H):iB P T E ops q soft o (λf h=>K (f.put (some d) v) h) fr H:=by
 have j:∀x∈o.op.operands,ev T (fr.put (some d) v) x=ev T fr x:=by
  intro x B;refine I0 λt O=>?_;subst O;rw[Fr.yl,cI];rintro he;injection he with he;subst he;exact G (Zc _ (ac'.2 ⟨.tmp d,by simpa using B,rfl⟩))
 have C:oZ P T E ops q soft (fr.put (some d) v) H o=oZ P T E ops q soft fr H o:=CS j (λt x _=>⟨λb g off _=>⟨rfl,rfl⟩,λ_ _ _=>rfl⟩) λ_ _ _ _ _=>rfl;clear G;obtain⟨dst,op,type,pos,after,guard⟩:=o;simp only at w
 have a:∀x:AV,((fr.put (some d) v).put dst x)=((fr.put dst x).put (some d) v):=by
  intro x;cases dst with
  |none=>rfl|some p=>exact qp fr (λe=>w (by rw[e])) v x
 have n:∀cs,nq E dst cs K (fr.put (some d) v) H->nq E dst cs (λf h=>K (f.put (some d) v) h) fr H:=by
  intro cs u;unfold nq at*
  split at u
  ·rename_i p;have A:p≠d:=λe=>w (by rw[e])
   have z:∀y:AV,ia (ia fr.env d v) p y=ia (ia fr.env p y) d v:=by
    intro y;have:=congrArg Fr.env (qp fr A.symm v y);exact this
   split at u
   ·rename_i D;rw[cK D];simp only[Fr.put] at u|-;rw[<-z];exact u
   ·rename_i D;rw[cI D];simp only[Fr.put] at u|-;rw[<-z];exact u
  ·exact u.elim
 cases op with
 |alloc t=>
  simp only[iB] at h|-
  split at h
  ·exact⟨h.1,n _ h.2⟩
  ·exact h.elim
 |box t x=>
  simp only[iB] at h|-;rw[j x (by simp[Op.operands])] at h;exact⟨h.1,h.2.1,n _ h.2.2⟩
 |store t x y=>
  simp only[iB] at h|-;rw[j x (by simp[Op.operands]),j y (by simp[Op.operands])] at h;refine⟨h.1,h.2.1,h.2.2.1,?_⟩;have Q:=h.2.2.2;unfold o6 at*;exact Q
 |call c=>
  obtain⟨callee,args,OU⟩:=c;cases callee with
  |builtin b=>
   have i:∀x∈args.toList,ev T (fr.put (some d) v) x=ev T fr x:=λx B=>j x (by simp[Op.operands,Call.operands,Bn.1 B])
   cases b<;>first
    |(simp only[iB] at h|-
      rw[C] at h
      split at h
      ·rw[<-a];exact h
      ·exact h.elim)
    |(simp only[iB] at h|-
      unfold qG at*
      split at h
      ·rename_i p s x t R k I;have A:p≠d:=λe=>w (by rw[e]);simp only at k;rw[i s (by rw[k];simp),i x (by rw[k];simp)] at h
       split at h
       ·rename_i e sz tag l J m L M N;obtain⟨g1,g2,g3,g4,g5⟩:=h;refine⟨g1,g2,g3,g4,?_⟩;have F:sX (fr.put (some d) v) tag l=sX fr tag l:=rfl;rw[F] at g5
        split at g5
        ·rename_i u;rw[cK u]
         have:grown (fr.put (some d) v) p tag l m=(grown fr p tag l m).put (some d) v:=by
          have:=congrArg Fr.env (qp fr A.symm v (.slice (.loc p (fr.fu p+1)) (l++m)));simp only[grown,Fr.put] at this|-;rw[this]
         show K ((grown fr p tag l m).put (some d) v) H;rw[<-this];exact g5
        ·rename_i u;rw[cI u];refine⟨g5.1,?_⟩;show K ((fr.put (some p) (.slice .jU l)).put (some d) v) H;rw[<-a];exact g5.2
       ·exact h.elim
      ·exact h.elim)
  |value f=>
   simp only[iB] at h|-
   have i:(args.toList.map λx=>(ev T (fr.put (some d) v) x).norm)=args.toList.map λx=>(ev T fr x).norm:=
    tg λx B=>by rw[j x (by simp[Op.operands,Call.operands,Bn.1 B])]
   rw[i,j f (by simp[Op.operands,Call.operands])] at h;obtain⟨r,H',L,M,N⟩:=h;refine⟨r,H',L,M,?_⟩;rw[<-a];exact N
  |invoke r m=>exact h
 |_=>
  simp only[iB] at h|-;rw[C] at h
  split at h
  ·rw[<-a];exact h
  ·exact h.elim
end
end Go.ns
