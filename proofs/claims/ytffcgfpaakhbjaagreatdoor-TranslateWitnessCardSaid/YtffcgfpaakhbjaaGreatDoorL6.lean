/- Part of the proof of TranslateWitness: layer. -/
import Derived.Test.YtffcgfpaakhbjaaGreatDoorL5
set_option linter.all false
namespace Go.jX
open Go
def rootOf(ops:List Oper):Nat->Nat->Option Nat
 |0,_=>none|f+1,t=>
  match ops.find? (λo=>o.dst==some t)with
  |none=>some t|some o=>match o.op with
   |.fieldAddr _ (.tmp y) _=>rootOf ops f y|.indexAddr _ (.tmp y) _=>rootOf ops f y|.nilCheck (.tmp y)=>rootOf ops f y|.move (.tmp y)=>rootOf ops f y|.alloc _=>some t|.box _ _=>some t|_=>none
def BT(ops:List Oper):Operand->Option Nat
 |.tmp t=>rootOf ops (ops.length+1) t|_=>none
def oP(ops:List Oper)(x:Operand)(v:AV):Bool:=
 match v with
 |.gJ b _ _=>BT ops x==some b|_=>true
def isG:AV->Bool
 |.de _ _=>true|_=>false
def Zl:AV->Bool
 |.gJ _ _ _=>true|_=>false
inductive RW where
 |val|load (r:Option Nat)|alloc (d:Option Nat)|yy|app|Ie (r:Option Nat)
 deriving DecidableEq
def dx(E:List Nat)(ops:List Oper)(o:Oper):RW:=
 match o.op with
 |.load _ x=>.load (BT ops x)|.lookup _ _ _ _=>.load none|.alloc _=>match o.dst with|some d=>if E.contains d then .yy else .alloc (some d)|none=>.yy
 |.box _ _=>match o.dst with|some d=>if E.contains d then .yy else .alloc (some d)|none=>.yy
 |.store _ x _=>.Ie (BT ops x)|.call c=>match c.callee with|.builtin .append=>.app|.builtin _=>.val|_=>.yy
 |_=>.val
def tR:RW->RW->Bool
 |.val,_=>true|_,.val=>true|.load _,.load _=>true|.load r,.alloc d=>r !=d|.alloc d,.load r=>r !=d|.load _,.app=>true|.app,.load _=>true|.load _,.yy=>true|.yy,.load _=>true|.load r,.Ie a=>r !=a|.Ie a,.load r=>r !=a|.alloc _,.alloc _=>true|.alloc _,.app=>true|.app,.alloc _=>true|.alloc _,.yy=>true|.yy,.alloc _=>true|.app,.yy=>true|.yy,.app=>true|_,_=>false
structure Qt where
 all:Bool
 st:Nat->Bool
 cl:Nat->Nat:=λ_=>0
instance:Coe Bool Qt:=⟨λb=>⟨b,λ_=>false,λ_=>0⟩⟩
def Qt.ok(q:Qt):AV->Bool
 |.de o _=>q.all||q.st o|_=>true
def QK(q:Qt)(H H':cd):Prop:=(q.all=true->H'=H)/\∀o,q.st o=true->H'[o]?=H[o]?
@[simp] theorem Qt.Z_(q:Qt)(o f:Nat):q.ok (.de o f)=(q.all||q.st o):=rfl
@[simp] theorem Qt.aaw(q:Qt)(b g f:Nat):q.ok (.gJ b g f)=true:=rfl
@[simp] theorem Qt.aan(q:Qt)(x:AV):q.ok (.ji x)=true:=rfl
@[simp] theorem ab1(a:Bool)(st:Nat->Bool)(cl:Nat->Nat)(H H':cd):QK ⟨a,st,cl⟩ H H'=((a=true->H'=H)/\∀o,st o=true->H'[o]?=H[o]?):=rfl
def QK.refl{q:Qt}{H:cd}:QK q H H:=⟨λ_=>rfl,λ_ _=>rfl⟩
def kF(P:Program)(T:cW)(E:List Nat)(ops:List Oper)(q:Qt)(soft:Bool)(fr:Fr)(H:cd)(o:Oper):Option AV:=
 match o.op with
 |.load t x=>if oP ops x (ev T fr x)&&(!soft||q.ok (ev T fr x))then rN P fr H t (ev T fr x)else none|.lookup t x i ok=>if !soft||q.all then DG P H t (ev T fr x) (ev T fr i) ok else none|.buildSlice t n ps=>if o.dst.any E.contains then none else k8 P t n (ps.toList.map λp=>(p.1,ev T fr p.2))|.makeSlice t l c=>vJ P t (ev T fr l) (ev T fr c)|.alloc _=>none|.box _ _=>none|.store _ _ _=>none|.call c=>match c.callee with
  |.builtin .append=>none|.builtin _=>rO P T fr c|_=>none
 |_=>vb P T fr o
def uY(P:Program)(T:cW)(b:AV)(args:List AV)(H:cd)(r:AV)(H':cd):Prop:=jo P T b args H λc a=>c=r/\a=H'
def eN(P:Program)(T:cW)(E:List Nat)(ops:List Oper)(q:Qt)(soft:Bool)(o:Oper)(K:Fr->cd->Prop)(fr:Fr)(H:cd):Prop:=
 match o.op with
 |.alloc t=>match fV P t with
  |some z=>(soft=true->o.dst.any E.contains=false)/\iS E o.dst z K fr H|none=>False
 |.box _ x=>dj (ev T fr x)=true/\(soft=true->o.dst.any E.contains=false)/\iS E o.dst (ev T fr x).cells K fr H|.store t x y=>o.dst=none/\oP ops x (ev T fr x)=true/\(soft=true->Zl (ev T fr x)=true)/\j0 P t (ev T fr x) (ev T fr y) K fr H|.call c=>match c.callee with
  |.builtin .append=>ld P T c o.dst K fr H|.builtin _=>match kF P T E ops q soft fr H o with
   |some v=>K (fr.put o.dst v) H|none=>False
  |.value f=>∃r H',uY P T (ev T fr f) (c.args.toList.map λx=>(ev T fr x).norm) H r H'/\(soft=true->QK q H H')/\K (fr.put o.dst r) H'|.invoke _ _=>False
 |_=>match kF P T E ops q soft fr H o with
  |some v=>K (fr.put o.dst v) H|none=>False
section
variable{P:Program} {T:cW} {E:List Nat} {ops:List Oper} {q:Qt} {soft:Bool} {o:Oper} {K K':Fr->cd->Prop} {fr:Fr} {H:cd}
def B2{dst:Option Nat}{cs:List AV}(b:∀fr H,K fr H->K' fr H)(h:iS E dst cs K fr H):iS E dst cs K' fr H:=by
 unfold iS at*
 split at h
 ·split at h
  ·rename_i a;rw[bX a];exact b _ _ h
  ·rename_i a;rw[bV a];exact b _ _ h
 ·exact h.elim
def JH{t:TypeId}{x v:AV}(a:∀fr H,K fr H->K' fr H)(h:j0 P t x v K fr H):j0 P t x v K' fr H:=by
 unfold j0 at*
 split at h
 ·exact h.elim
 ·split at h
  ·split at h
   ·exact⟨h.1,h.2.1,h.2.2.1,h.2.2.2.1,a _ _ h.2.2.2.2⟩
   ·exact h.elim
  ·split at h
   ·exact⟨h.1,h.2.1,h.2.2.1,h.2.2.2.1,a _ _ h.2.2.2.2⟩
   ·exact h.elim
  ·exact h.elim
def HB{c:Call}{dst:Option Nat}(d:∀fr H,K fr H->K' fr H)(h:ld P T c dst K fr H):ld P T c dst K' fr H:=by
 unfold ld at*
 split at h
 ·split at h
  ·obtain⟨e,f,g,i,a⟩:=h;refine⟨e,f,g,i,?_⟩
   split at a
   ·rename_i b;rw[bX b];exact d _ _ a
   ·rename_i b;rw[bV b];exact⟨a.1,d _ _ a.2⟩
  ·exact h.elim
 ·exact h.elim
def lW(P:Program)(T:cW)(E:List Nat)(ops:List Oper)(q:Qt)(soft:Bool)(o:Oper)(fr:Fr)(H:cd)(fr':Fr)(H':cd):Prop:=eN P T E ops q soft o (λf h=>f=fr'/\h=H') fr H
def ED{dst:Option Nat}{cs:List AV}(h:iS E dst cs K fr H):∃fr' H',iS E dst cs (λf h=>f=fr'/\h=H') fr H/\K fr' H':=by
 unfold iS at*
 split at h
 ·split at h
  ·rename_i a;exact⟨_,_,by rw[bX a];exact⟨rfl,rfl⟩,h⟩
  ·rename_i a;exact⟨_,_,by rw[bV a];exact⟨rfl,rfl⟩,h⟩
 ·exact h.elim
def LA{t:TypeId}{x v:AV}(h:j0 P t x v K fr H):∃fr' H',j0 P t x v (λf h=>f=fr'/\h=H') fr H/\K fr' H':=by
 unfold j0 at*
 split at h
 ·exact h.elim
 ·split at h
  ·split at h
   ·exact⟨_,_,⟨h.1,h.2.1,h.2.2.1,h.2.2.2.1,rfl,rfl⟩,h.2.2.2.2⟩
   ·exact h.elim
  ·split at h
   ·exact⟨_,_,⟨h.1,h.2.1,h.2.2.1,h.2.2.2.1,rfl,rfl⟩,h.2.2.2.2⟩
   ·exact h.elim
  ·exact h.elim
def J1{c:Call}{dst:Option Nat}(h:ld P T c dst K fr H):∃fr' H',ld P T c dst (λf h=>f=fr'/\h=H') fr H/\K fr' H':=by
 unfold ld at*
 split at h
 ·split at h
  ·obtain⟨d,e,g,i,a⟩:=h
   split at a
   ·rename_i b;exact⟨_,_,⟨d,e,g,i,by rw[bX b];exact⟨rfl,rfl⟩⟩,a⟩
   ·rename_i b;exact⟨_,_,⟨d,e,g,i,by rw[bV b];exact⟨a.1,rfl,rfl⟩⟩,a.2⟩
  ·exact h.elim
 ·exact h.elim
def qG(h:eN P T E ops q soft o K fr H):∃fr' H',lW P T E ops q soft o fr H fr' H'/\K fr' H':=by
 unfold lW eN at*
 split at h
 ·split at h
  ·obtain⟨fr',H',a,b⟩:=ED h.2;exact⟨fr',H',⟨h.1,a⟩,b⟩
  ·exact h.elim
 ·obtain⟨fr',H',a,b⟩:=ED h.2.2;exact⟨fr',H',⟨h.1,h.2.1,a⟩,b⟩
 ·obtain⟨fr',H',a,b⟩:=LA h.2.2.2;exact⟨fr',H',⟨h.1,h.2.1,h.2.2.1,a⟩,b⟩
 ·split at h
  ·exact J1 h
  ·split at h
   ·exact⟨_,_,⟨rfl,rfl⟩,h⟩
   ·exact h.elim
  ·obtain⟨r,H',a,b,c⟩:=h;exact⟨_,_,⟨r,H',a,b,rfl,rfl⟩,c⟩
  ·exact h.elim
 ·split at h
  ·exact⟨_,_,⟨rfl,rfl⟩,h⟩
  ·exact h.elim
def EM(a:∀fr H,K fr H->K' fr H)(h:eN P T E ops q soft o K fr H):eN P T E ops q soft o K' fr H:=by
 unfold eN at*
 split at h
 ·split at h
  ·exact⟨h.1,B2 a h.2⟩
  ·exact h.elim
 ·exact⟨h.1,h.2.1,B2 a h.2.2⟩
 ·exact⟨h.1,h.2.1,h.2.2.1,JH a h.2.2.2⟩
 ·split at h
  ·exact HB a h
  ·split at h
   ·exact a _ _ h
   ·exact h.elim
  ·obtain⟨r,H',b,c,d⟩:=h;exact⟨r,H',b,c,a _ _ d⟩
  ·exact h.elim
 ·split at h
  ·exact a _ _ h
  ·exact h.elim
def s9{fr':Fr}{H':cd}(h:lW P T E ops q soft o fr H fr' H')(a:K fr' H'):eN P T E ops q soft o K fr H:=
 EM (λf h ⟨b,c⟩=>by subst b;subst c;exact a) h
def Kr(h:eN P T E ops q soft o K fr H):o_ P T E o K fr H:=by
 obtain⟨dst,op,type,pos,after,guard⟩:=o;cases op with
 |alloc t=>
  simp only[eN,o_] at h|-
  split at h
  ·rename_i z g;rw[g];exact h.2
  ·exact h.elim
 |box t x=>
  simp only[eN,o_] at h|-;exact⟨h.1,h.2.2⟩
 |store t x y=>
  simp only[eN,o_] at h|-;exact⟨h.1,h.2.2.2⟩
 |load t x=>
  simp only[eN,o_,kF] at h|-
  split at h
  ·rename_i v a
   split at a
   ·rw[a];exact h
   ·cases a
  ·exact h.elim
 |buildSlice t n ps=>
  simp only[eN,o_,kF] at h|-
  split at h
  ·rename_i v a
   split at a
   ·cases a
   ·rename_i j;rw[a];simp only[Ed];rw[bV j];exact h
  ·exact h.elim
 |lookup t x i ok=>
  simp only[eN,o_,kF] at h|-
  split at h
  ·rename_i v a
   split at a
   ·rw[a];exact h
   ·cases a
  ·exact h.elim
 |convert s d x=>
  simp only[eN,o_,kF,vb,IW] at h|-
  split at h
  ·rename_i v a;rw[a];exact h
  ·exact h.elim
 |call c=>
  obtain⟨callee,args,Mn⟩:=c;cases callee with
  |builtin b=>cases b<;>simp only[eN,o_,kF] at h|-<;>first|exact .inl (.inl h)|exact h
  |value f=>
   simp only[eN,o_] at h|-;obtain⟨r,H',e,w,k⟩:=h;unfold uY jo at e;unfold jo
   split at e
   ·exact e.mono λA l ⟨p,u⟩=>by subst p;subst u;exact k
   ·exact e
  |invoke r m=>simp only[eN] at h
 |_=>
  simp only[eN,o_,kF] at h|-
  first
   |exact h
   |(simp only[vb] at h)
end
section
variable{P:Program} {T:cW} {fr fr':Fr}
def D9{x:Operand}(h:∀t,x=.tmp t->fr.env t=fr'.env t):ev T fr x=ev T fr' x:=by
 cases x with
 |tmp t=>exact h t rfl|_=>rfl
def GR{xs:List Operand}(h:∀x∈xs,ev T fr x=ev T fr' x):xs.map (ev T fr)=xs.map (ev T fr'):=qg h
def B7{c:Call}(h:∀x∈c.args.toList,ev T fr x=ev T fr' x):rO P T fr c=rO P T fr' c:=by
 unfold rO
 split
 ·split
  ·rename_i t x d b;rw[h x (uS.2 (QI b))]
  ·rfl
 ·split
  ·rename_i x l a;rw[a] at h;rw[h x th,GR λy hy=>h y (by simp[hy])]
  ·rfl
 ·split
  ·rename_i x l a;rw[a] at h;rw[h x th,GR λy hy=>h y (by simp[hy])]
  ·rfl
 ·rfl
def LG{o:Oper}(h:∀x∈o.op.operands,ev T fr x=ev T fr' x):vb P T fr o=vb P T fr' o:=by
 obtain⟨dst,op,type,pos,after,guard⟩:=o
 have opt:∀(x:Option Operand),(∀y,x=some y->ev T fr y=ev T fr' y)->x.map (ev T fr)=x.map (ev T fr'):=by
  intro x a;cases x with
  |none=>rfl|some y=>simp[a y rfl]
 cases op<;>simp only[Op.operands] at h<;>simp only[vb]
 case move x=>rw[h x th]
 case assign x=>rw[h x th]
 case pick c x y=>rw[h c th,h x th,h y th]
 case build t ps=>
  have:(ps.toList.map λp=>(p.1,ev T fr p.2))=ps.toList.map λp=>(p.1,ev T fr' p.2):=
   qg λp b=>by rw[h p.2 (by simp;exact⟨p.1,by simpa using b⟩)]
  rw[this]
 case binOp op t x y k=>rw[h x th,h y th]
 case unOp op t x=>rw[h x th]
 case convert s d x=>rw[h x th]
 case makeFunc fn f c=>
  have e:(f.toList.map λx=>(ev T fr x).norm)=f.toList.map λx=>(ev T fr' x).norm:=qg λx a=>by rw[h x (by simp[uS.1 a])]
  have g:(c.toList.map λx=>(ev T fr x).norm)=c.toList.map λx=>(ev T fr' x).norm:=qg λx a=>by rw[h x (by simp[uS.1 a])]
  rw[e,g]
 case fieldAddr t x i=>rw[h x th]
 case field t x i=>rw[h x th]
 case indexAddr t x i=>rw[h x th,h i th]
 case index t x i=>rw[h x th,h i th]
 case slice t x lo hi j=>rw[h x th,opt lo λy hy=>h y (by simp[hy]),opt hi λy hy=>h y (by simp[hy]),opt j λy hy=>h y (by simp[hy])]
 case extract x i=>rw[h x th]
 case nilCheck x=>rw[h x th]
 case makeInterface t x=>rw[h x th]
 case typeAssert x l t ok=>cases ok<;>simp only[h x th]
 case call c=>exact B7 λx a=>h x (by simp[Call.operands,uS.1 a])
def JM{H H':cd}{t:TypeId}{x:AV}(a:∀b g off,x=.gJ b g off->fr.box b=fr'.box b/\fr.gen b=fr'.gen b)(c:∀o off,x=.de o off->H[o]?=H'[o]?):rN P fr H t x=rN P fr' H' t x:=by
 cases x with
 |gJ b g off=>
  obtain⟨d,e⟩:=a b g off rfl;simp only[rN,d,e]
 |de o off=>simp only[rN,c o off rfl]|_=>rfl
def vK{E:List Nat}{ops:List Oper}{q:Qt}{soft:Bool}{H H':cd}{o:Oper}(h:∀x∈o.op.operands,ev T fr x=ev T fr' x)
  (d:∀t x,o.op=.load t x->(∀b g off,ev T fr x=.gJ b g off->fr.box b=fr'.box b/\fr.gen b=fr'.gen b)/\(∀o off,ev T fr x=.de o off->H[o]?=H'[o]?)) (e:∀t x i ok,o.op=.lookup t x i ok->H=H'):kF P T E ops q soft fr H o=kF P T E ops q soft fr' H' o:=by
 obtain⟨dst,op,type,pos,after,guard⟩:=o;cases op with
 |load t x=>
  have a:=h x (by simp[Op.operands]);obtain⟨f,j⟩:=d t x rfl;simp only[kF];rw[JM f j,a]
 |lookup t x i ok=>
  simp only[kF];rw[e t x i ok rfl,h x (by simp[Op.operands]),h i (by simp[Op.operands])]
 |buildSlice t n ps=>
  simp only[kF]
  have:(ps.toList.map λp=>(p.1,ev T fr p.2))=ps.toList.map λp=>(p.1,ev T fr' p.2):=
   qg λp k=>by rw[h p.2 (by simp[Op.operands];exact⟨p.1,by simpa using k⟩)]
  rw[this]
 |makeSlice t l c=>
  simp only[kF];rw[h l (by simp[Op.operands]),h c (by simp[Op.operands])]
 |call c=>
  obtain⟨callee,args,Mn⟩:=c
  have m:rO P T fr {callee:=callee,args:=args,argTypes:=Mn}=rO P T fr' {callee:=callee,args:=args,argTypes:=Mn}:=
   B7 λx a=>h x (by simp[Op.operands,Call.operands,uS.1 a])
  cases callee with
  |builtin b=>cases b<;>simp only[kF]<;>first|rfl|exact m
  |_=>rfl
 |alloc t=>rfl|box t x=>rfl|store t x y=>rfl|_=>exact LG (P:=P) h
end
def kN(fr:Fr){d a:Nat}(h:d≠a)(x y:AV):(fr.put (some d) x).put (some a) y=(fr.put (some a) y).put (some d) x:=by
 simp only[Fr.put]
 congr 1
 funext j
 simp only[eH]
 by_cases c:j=a
 ·subst c;rw[bX rfl,bV (λe=>h e.symm),bX rfl]
 ·rw[bV c]
  by_cases b:j=d
  ·rw[bX b,bX b]
  ·rw[bV b,bV b,bV c]
section
variable{P:Program} {T:cW} {E:List Nat} {ops:List Oper} {opsA:Array Oper} {q:Qt} {soft:Bool} {o:Oper} {K:Fr->cd->Prop} {fr:Fr} {H:cd}
def G1{d:Nat}{v:AV}(G:d∉o.looksAt opsA)(w:o.dst≠some d)(h:eN P T E ops q soft o K (fr.put (some d) v) H):eN P T E ops q soft o (λf h=>K (f.put (some d) v) h) fr H:=by
 have j:∀x∈o.op.operands,ev T (fr.put (some d) v) x=ev T fr x:=by
  intro x B;refine D9 λt N=>?_;subst N;rw[Fr.r5,bV];rintro he;injection he with he;subst he;exact G (Tj _ (Yj.2 ⟨.tmp d,by simpa using B,rfl⟩))
 have C:kF P T E ops q soft (fr.put (some d) v) H o=kF P T E ops q soft fr H o:=vK j (λt x _=>⟨λb g off _=>⟨rfl,rfl⟩,λ_ _ _=>rfl⟩) λ_ _ _ _ _=>rfl;clear G;obtain⟨dst,op,type,pos,after,guard⟩:=o;simp only at w
 have a:∀x:AV,((fr.put (some d) v).put dst x)=((fr.put dst x).put (some d) v):=by
  intro x;cases dst with
  |none=>rfl|some p=>exact kN fr (λe=>w (by rw[e])) v x
 have n:∀cs,iS E dst cs K (fr.put (some d) v) H->iS E dst cs (λf h=>K (f.put (some d) v) h) fr H:=by
  intro cs u;unfold iS at*
  split at u
  ·rename_i p;have A:p≠d:=λe=>w (by rw[e])
   have z:∀y:AV,eH (eH fr.env d v) p y=eH (eH fr.env p y) d v:=by
    intro y;have:=congrArg Fr.env (kN fr A.symm v y);exact this
   split at u
   ·rename_i D;rw[bX D];simp only[Fr.put] at u|-;rw[<-z];exact u
   ·rename_i D;rw[bV D];simp only[Fr.put] at u|-;rw[<-z];exact u
  ·exact u.elim
 cases op with
 |alloc t=>
  simp only[eN] at h|-
  split at h
  ·exact⟨h.1,n _ h.2⟩
  ·exact h.elim
 |box t x=>
  simp only[eN] at h|-;rw[j x (by simp[Op.operands])] at h;exact⟨h.1,h.2.1,n _ h.2.2⟩
 |store t x y=>
  simp only[eN] at h|-;rw[j x (by simp[Op.operands]),j y (by simp[Op.operands])] at h;refine⟨h.1,h.2.1,h.2.2.1,?_⟩;have O:=h.2.2.2;unfold j0 at*;exact O
 |call c=>
  obtain⟨callee,args,Mn⟩:=c;cases callee with
  |builtin b=>
   have i:∀x∈args.toList,ev T (fr.put (some d) v) x=ev T fr x:=λx B=>j x (by simp[Op.operands,Call.operands,uS.1 B])
   cases b<;>first
    |(simp only[eN] at h|-
      rw[C] at h
      split at h
      ·rw[<-a];exact h
      ·exact h.elim)
    |(simp only[eN] at h|-
      unfold ld at*
      split at h
      ·rename_i p s x t Q k I;have A:p≠d:=λe=>w (by rw[e]);simp only at k;rw[i s (by rw[k];simp),i x (by rw[k];simp)] at h
       split at h
       ·rename_i e sz tag l tag' m J L M;obtain⟨g1,g2,g3,g4,g5⟩:=h;refine⟨g1,g2,g3,g4,?_⟩;have F:m_ (fr.put (some d) v) tag l=m_ fr tag l:=rfl;rw[F] at g5
        split at g5
        ·rename_i u;rw[bX u]
         have:grown (fr.put (some d) v) p tag l m=(grown fr p tag l m).put (some d) v:=by
          have:=congrArg Fr.env (kN fr A.symm v (.slice (.loc p (fr.ds p+1)) (l++m)));simp only[grown,Fr.put] at this|-;rw[this]
         show K ((grown fr p tag l m).put (some d) v) H;rw[<-this];exact g5
        ·rename_i u;rw[bV u];refine⟨g5.1,?_⟩;show K ((fr.put (some p) (.slice .ja l)).put (some d) v) H;rw[<-a];exact g5.2
       ·exact h.elim
      ·exact h.elim)
  |value f=>
   simp only[eN] at h|-
   have i:(args.toList.map λx=>(ev T (fr.put (some d) v) x).norm)=args.toList.map λx=>(ev T fr x).norm:=
    qg λx B=>by rw[j x (by simp[Op.operands,Call.operands,uS.1 B])]
   rw[i,j f (by simp[Op.operands,Call.operands])] at h;obtain⟨r,H',J,L,M⟩:=h;refine⟨r,H',J,L,?_⟩;rw[<-a];exact M
  |invoke r m=>exact h
 |_=>
  simp only[eN] at h|-;rw[C] at h
  split at h
  ·rw[<-a];exact h
  ·exact h.elim
end
end Go.jX
