/- Part of the proof of KernelChoice: layer. -/
import Derived.Test.YtobcafblgapgfaaGreatDoorL4
set_option linter.all false
namespace Go.ky
open Go
def rootOf(ops:List Oper):Nat->Nat->Option Nat
 |0,_=>none|f+1,t=>
  match ops.find? (λo=>o.dst==some t)with
  |none=>some t|some o=>match o.op with
   |.fieldAddr _ (.tmp y) _=>rootOf ops f y|.indexAddr _ (.tmp y) _=>rootOf ops f y|.nilCheck (.tmp y)=>rootOf ops f y|.move (.tmp y)=>rootOf ops f y|.alloc _=>some t|.box _ _=>some t|_=>none
def AJ(ops:List Oper):Operand->Option Nat
 |.tmp t=>rootOf ops (ops.length+1) t|_=>none
def oK(ops:List Oper)(x:Operand)(v:AV):Bool:=
 match v with
 |.dc b _ _=>AJ ops x==some b|_=>true
def Rg:AV->Bool
 |.ei _ _=>true|_=>false
def Yt:AV->Bool
 |.dc _ _ _=>true|_=>false
inductive PB where
 |val|load (r:Option Nat)|alloc (d:Option Nat)|xJ|app|HA (r:Option Nat)
 deriving DecidableEq
def eY(E:List Nat)(ops:List Oper)(o:Oper):PB:=
 match o.op with
 |.load _ x=>.load (AJ ops x)|.lookup _ _ _ _=>.load none|.alloc _=>match o.dst with|some d=>if E.contains d then .xJ else .alloc (some d)|none=>.xJ
 |.box _ _=>match o.dst with|some d=>if E.contains d then .xJ else .alloc (some d)|none=>.xJ
 |.store _ x _=>.HA (AJ ops x)|.call c=>match c.callee with|.builtin .append=>.app|.builtin _=>.val|_=>.xJ
 |_=>.val
def sS:PB->PB->Bool
 |.val,_=>true|_,.val=>true|.load _,.load _=>true|.load r,.alloc d=>r !=d|.alloc d,.load r=>r !=d|.load _,.app=>true|.app,.load _=>true|.load _,.xJ=>true|.xJ,.load _=>true|.load r,.HA a=>r !=a|.HA a,.load r=>r !=a|.alloc _,.alloc _=>true|.alloc _,.app=>true|.app,.alloc _=>true|.alloc _,.xJ=>true|.xJ,.alloc _=>true|.app,.xJ=>true|.xJ,.app=>true|_,_=>false
def mN(P:Program)(T:dA)(E:List Nat)(ops:List Oper)(q soft:Bool)(fr:Fr)(H:cV)(o:Oper):Option AV:=
 match o.op with
 |.load t x=>if oK ops x (ev T fr x)&&(!soft||q||!Rg (ev T fr x))then tZ P fr H t (ev T fr x)else none|.lookup t x i ok=>if !soft||q then re P H t (ev T fr x) (ev T fr i) ok else none|.buildSlice t n ps=>if o.dst.any E.contains=true then none else k1 P t n (ps.toList.map λp=>(p.1,ev T fr p.2))|.alloc _=>none|.box _ _=>none|.store _ _ _=>none|.call c=>match c.callee with
  |.builtin .append=>none|.builtin _=>sN P T fr c|_=>none
 |_=>uH P T fr o
def nj(P:Program)(T:dA)(b:AV)(args:List AV)(H:cV)(r:AV)(H':cV):Prop:=oF P T b args H λc a=>c=r/\a=H'
def fD(P:Program)(T:dA)(E:List Nat)(ops:List Oper)(q soft:Bool)(o:Oper)(K:Fr->cV->Prop)(fr:Fr)(H:cV):Prop:=
 match o.op with
 |.alloc t=>match jM P t with
  |some z=>(soft=true->o.dst.any E.contains=false)/\jx E o.dst z K fr H|none=>False
 |.box _ x=>ek (ev T fr x)=true/\(soft=true->o.dst.any E.contains=false)/\jx E o.dst (ev T fr x).cells K fr H|.store t x y=>o.dst=none/\oK ops x (ev T fr x)=true/\(soft=true->Yt (ev T fr x)=true)/\lA P t (ev T fr x) (ev T fr y) K fr H|.call c=>match c.callee with
  |.builtin .append=>lk P T c o.dst K fr H|.builtin _=>match mN P T E ops q soft fr H o with
   |some v=>K (fr.put o.dst v) H|none=>False
  |.value f=>∃r H',nj P T (ev T fr f) (c.args.toList.map λx=>(ev T fr x).norm) H r H'/\(soft=true->q=true->H'=H)/\K (fr.put o.dst r) H'|.invoke _ _=>False
 |_=>match mN P T E ops q soft fr H o with
  |some v=>K (fr.put o.dst v) H|none=>False
section
variable{P:Program} {T:dA} {E:List Nat} {ops:List Oper} {q soft:Bool} {o:Oper} {K K':Fr->cV->Prop} {fr:Fr} {H:cV}
def Bj{dst:Option Nat}{cs:List AV}(b:∀fr H,K fr H->K' fr H)(h:jx E dst cs K fr H):jx E dst cs K' fr H:=by
 unfold jx at*
 split at h
 ·split at h
  ·rename_i a;rw[cG a];exact b _ _ h
  ·rename_i a;rw[cB a];exact b _ _ h
 ·exact h.elim
def H5{t:TypeId}{x v:AV}(a:∀fr H,K fr H->K' fr H)(h:lA P t x v K fr H):lA P t x v K' fr H:=by
 unfold lA at*
 split at h
 ·exact h.elim
 ·split at h
  ·split at h
   ·exact⟨h.1,h.2.1,h.2.2.1,h.2.2.2.1,a _ _ h.2.2.2.2⟩
   ·exact h.elim
  ·split at h
   ·exact⟨h.1,h.2.1,h.2.2.1,h.2.2.2.1,a _ _ h.2.2.2.2⟩
   ·exact h.elim
  ·exact h.elim
def G4{c:Call}{dst:Option Nat}(d:∀fr H,K fr H->K' fr H)(h:lk P T c dst K fr H):lk P T c dst K' fr H:=by
 unfold lk at*
 split at h
 ·split at h
  ·obtain⟨e,f,g,i,a⟩:=h;refine⟨e,f,g,i,?_⟩
   split at a
   ·rename_i b;rw[cG b];exact d _ _ a
   ·rename_i b;rw[cB b];exact⟨a.1,d _ _ a.2⟩
  ·exact h.elim
 ·exact h.elim
def lW(P:Program)(T:dA)(E:List Nat)(ops:List Oper)(q soft:Bool)(o:Oper)(fr:Fr)(H:cV)(fr':Fr)(H':cV):Prop:=fD P T E ops q soft o (λf h=>f=fr'/\h=H') fr H
def DX{dst:Option Nat}{cs:List AV}(h:jx E dst cs K fr H):∃fr' H',jx E dst cs (λf h=>f=fr'/\h=H') fr H/\K fr' H':=by
 unfold jx at*
 split at h
 ·split at h
  ·rename_i a;exact⟨_,_,by rw[cG a];exact⟨rfl,rfl⟩,h⟩
  ·rename_i a;exact⟨_,_,by rw[cB a];exact⟨rfl,rfl⟩,h⟩
 ·exact h.elim
def Km{t:TypeId}{x v:AV}(h:lA P t x v K fr H):∃fr' H',lA P t x v (λf h=>f=fr'/\h=H') fr H/\K fr' H':=by
 unfold lA at*
 split at h
 ·exact h.elim
 ·split at h
  ·split at h
   ·exact⟨_,_,⟨h.1,h.2.1,h.2.2.1,h.2.2.2.1,rfl,rfl⟩,h.2.2.2.2⟩
   ·exact h.elim
  ·split at h
   ·exact⟨_,_,⟨h.1,h.2.1,h.2.2.1,h.2.2.2.1,rfl,rfl⟩,h.2.2.2.2⟩
   ·exact h.elim
  ·exact h.elim
def H9{c:Call}{dst:Option Nat}(h:lk P T c dst K fr H):∃fr' H',lk P T c dst (λf h=>f=fr'/\h=H') fr H/\K fr' H':=by
 unfold lk at*
 split at h
 ·split at h
  ·obtain⟨d,e,g,i,a⟩:=h
   split at a
   ·rename_i b;exact⟨_,_,⟨d,e,g,i,by rw[cG b];exact⟨rfl,rfl⟩⟩,a⟩
   ·rename_i b;exact⟨_,_,⟨d,e,g,i,by rw[cB b];exact⟨a.1,rfl,rfl⟩⟩,a.2⟩
  ·exact h.elim
 ·exact h.elim
def ua(h:fD P T E ops q soft o K fr H):∃fr' H',lW P T E ops q soft o fr H fr' H'/\K fr' H':=by
 unfold lW fD at*
 split at h
 ·split at h
  ·obtain⟨fr',H',a,b⟩:=DX h.2;exact⟨fr',H',⟨h.1,a⟩,b⟩
  ·exact h.elim
 ·obtain⟨fr',H',a,b⟩:=DX h.2.2;exact⟨fr',H',⟨h.1,h.2.1,a⟩,b⟩
 ·obtain⟨fr',H',a,b⟩:=Km h.2.2.2;exact⟨fr',H',⟨h.1,h.2.1,h.2.2.1,a⟩,b⟩
 ·split at h
  ·exact H9 h
  ·split at h
   ·exact⟨_,_,⟨rfl,rfl⟩,h⟩
   ·exact h.elim
  ·obtain⟨r,H',a,b,c⟩:=h;exact⟨_,_,⟨r,H',a,b,rfl,rfl⟩,c⟩
  ·exact h.elim
 ·split at h
  ·exact⟨_,_,⟨rfl,rfl⟩,h⟩
  ·exact h.elim
def CR(a:∀fr H,K fr H->K' fr H)(h:fD P T E ops q soft o K fr H):fD P T E ops q soft o K' fr H:=by
 unfold fD at*
 split at h
 ·split at h
  ·exact⟨h.1,Bj a h.2⟩
  ·exact h.elim
 ·exact⟨h.1,h.2.1,Bj a h.2.2⟩
 ·exact⟨h.1,h.2.1,h.2.2.1,H5 a h.2.2.2⟩
 ·split at h
  ·exact G4 a h
  ·split at h
   ·exact a _ _ h
   ·exact h.elim
  ·obtain⟨r,H',b,c,d⟩:=h;exact⟨r,H',b,c,a _ _ d⟩
  ·exact h.elim
 ·split at h
  ·exact a _ _ h
  ·exact h.elim
def wA{fr':Fr}{H':cV}(h:lW P T E ops q soft o fr H fr' H')(a:K fr' H'):fD P T E ops q soft o K fr H:=
 CR (λf h ⟨b,c⟩=>by subst b;subst c;exact a) h
def BE(h:fD P T E ops q soft o K fr H):p7 P T E o K fr H:=by
 obtain⟨dst,op,type,pos,after,guard⟩:=o;cases op with
 |alloc t=>
  simp only[fD,p7] at h|-
  split at h
  ·rename_i z g;rw[g];exact h.2
  ·exact h.elim
 |box t x=>
  simp only[fD,p7] at h|-;exact⟨h.1,h.2.2⟩
 |store t x y=>
  simp only[fD,p7] at h|-;exact⟨h.1,h.2.2.2⟩
 |load t x=>
  simp only[fD,p7,mN] at h|-
  split at h
  ·rename_i v a
   split at a
   ·rw[a];exact h
   ·cases a
  ·exact h.elim
 |buildSlice t n ps=>
  simp only[fD,p7,mN] at h|-
  split at h
  ·rename_i v a
   split at a
   ·cases a
   ·rename_i j;rw[a];simp only[CJ];rw[cB j];exact h
  ·exact h.elim
 |lookup t x i ok=>
  simp only[fD,p7,mN] at h|-
  split at h
  ·rename_i v a
   split at a
   ·rw[a];exact h
   ·cases a
  ·exact h.elim
 |convert s d x=>
  simp only[fD,p7,mN,uH,Le] at h|-
  split at h
  ·rename_i v a;rw[a];exact h
  ·exact h.elim
 |call c=>
  obtain⟨callee,args,JY⟩:=c;cases callee with
  |builtin b=>cases b<;>simp only[fD,p7,mN] at h|-<;>first|exact .inl (.inl h)|exact h
  |value f=>
   simp only[fD,p7] at h|-;obtain⟨r,H',e,w,k⟩:=h;unfold nj oF at e;unfold oF
   split at e
   ·exact e.mono λA l ⟨p,u⟩=>by subst p;subst u;exact k
   ·exact e
  |invoke r m=>simp only[fD] at h
 |_=>
  simp only[fD,p7,mN] at h|-
  first
   |exact h
   |(simp only[uH] at h)
end
section
variable{P:Program} {T:dA} {fr fr':Fr}
def IA{x:Operand}(h:∀t,x=.tmp t->fr.env t=fr'.env t):ev T fr x=ev T fr' x:=by
 cases x with
 |tmp t=>exact h t rfl|_=>rfl
def FM{xs:List Operand}(h:∀x∈xs,ev T fr x=ev T fr' x):xs.map (ev T fr)=xs.map (ev T fr'):=qo h
def Bx{c:Call}(h:∀x∈c.args.toList,ev T fr x=ev T fr' x):sN P T fr c=sN P T fr' c:=by
 unfold sN
 split
 ·split
  ·rename_i t x d b;rw[h x (uX.2 (P4 b))]
  ·rfl
 ·split
  ·rename_i x l a;rw[a] at h;rw[h x (by simp),FM λy hy=>h y (by simp[hy])]
  ·rfl
 ·split
  ·rename_i x l a;rw[a] at h;rw[h x (by simp),FM λy hy=>h y (by simp[hy])]
  ·rfl
 ·rfl
def Jn{o:Oper}(h:∀x∈o.op.operands,ev T fr x=ev T fr' x):uH P T fr o=uH P T fr' o:=by
 obtain⟨dst,op,type,pos,after,guard⟩:=o
 have opt:∀(x:Option Operand),(∀y,x=some y->ev T fr y=ev T fr' y)->x.map (ev T fr)=x.map (ev T fr'):=by
  intro x a;cases x with
  |none=>rfl|some y=>simp[a y rfl]
 cases op<;>simp only[Op.operands] at h<;>simp only[uH]
 case move x=>rw[h x (by simp)]
 case assign x=>rw[h x (by simp)]
 case pick c x y=>rw[h c (by simp),h x (by simp),h y (by simp)]
 case build t ps=>
  have:(ps.toList.map λp=>(p.1,ev T fr p.2))=ps.toList.map λp=>(p.1,ev T fr' p.2):=
   qo λp b=>by rw[h p.2 (by simp;exact⟨p.1,by simpa using b⟩)]
  rw[this]
 case binOp op t x y k=>rw[h x (by simp),h y (by simp)]
 case unOp op t x=>rw[h x (by simp)]
 case convert s d x=>rw[h x (by simp)]
 case makeFunc fn f c=>
  have e:(f.toList.map λx=>(ev T fr x).norm)=f.toList.map λx=>(ev T fr' x).norm:=qo λx a=>by rw[h x (by simp[uX.1 a])]
  have g:(c.toList.map λx=>(ev T fr x).norm)=c.toList.map λx=>(ev T fr' x).norm:=qo λx a=>by rw[h x (by simp[uX.1 a])]
  rw[e,g]
 case fieldAddr t x i=>rw[h x (by simp)]
 case field t x i=>rw[h x (by simp)]
 case indexAddr t x i=>rw[h x (by simp),h i (by simp)]
 case index t x i=>rw[h x (by simp),h i (by simp)]
 case slice t x lo hi j=>rw[h x (by simp),opt lo λy hy=>h y (by simp[hy]),opt hi λy hy=>h y (by simp[hy]),opt j λy hy=>h y (by simp[hy])]
 case extract x i=>rw[h x (by simp)]
 case nilCheck x=>rw[h x (by simp)]
 case makeInterface t x=>rw[h x (by simp)]
 case call c=>exact Bx λx a=>h x (by simp[Call.operands,uX.1 a])
def Ir{H H':cV}{t:TypeId}{x:AV}(a:∀b g off,x=.dc b g off->fr.box b=fr'.box b/\fr.gen b=fr'.gen b)(c:Rg x=true->H=H'):tZ P fr H t x=tZ P fr' H' t x:=by
 cases x with
 |dc b g off=>
  obtain⟨d,e⟩:=a b g off rfl;simp only[tZ,d,e]
 |ei o off=>rw[c rfl];rfl|_=>rfl
def yi{E:List Nat}{ops:List Oper}{q soft:Bool}{H H':cV}{o:Oper}(h:∀x∈o.op.operands,ev T fr x=ev T fr' x)
  (d:∀t x,o.op=.load t x->(∀b g off,ev T fr x=.dc b g off->fr.box b=fr'.box b/\fr.gen b=fr'.gen b)/\(Rg (ev T fr x)=true->H=H')) (e:∀t x i ok,o.op=.lookup t x i ok->H=H'):mN P T E ops q soft fr H o=mN P T E ops q soft fr' H' o:=by
 obtain⟨dst,op,type,pos,after,guard⟩:=o;cases op with
 |load t x=>
  have a:=h x (by simp[Op.operands]);obtain⟨f,j⟩:=d t x rfl;simp only[mN];rw[Ir f j,a]
 |lookup t x i ok=>
  simp only[mN];rw[e t x i ok rfl,h x (by simp[Op.operands]),h i (by simp[Op.operands])]
 |buildSlice t n ps=>
  simp only[mN]
  have:(ps.toList.map λp=>(p.1,ev T fr p.2))=ps.toList.map λp=>(p.1,ev T fr' p.2):=
   qo λp k=>by rw[h p.2 (by simp[Op.operands];exact⟨p.1,by simpa using k⟩)]
  rw[this]
 |call c=>
  obtain⟨callee,args,JY⟩:=c
  have l:sN P T fr {callee:=callee,args:=args,argTypes:=JY}=sN P T fr' {callee:=callee,args:=args,argTypes:=JY}:=
   Bx λx a=>h x (by simp[Op.operands,Call.operands,uX.1 a])
  cases callee with
  |builtin b=>cases b<;>simp only[mN]<;>first|rfl|exact l
  |_=>rfl
 |alloc t=>rfl|box t x=>rfl|store t x y=>rfl|_=>exact Jn (P:=P) h
end
def pD(fr:Fr){d a:Nat}(h:d≠a)(x y:AV):(fr.put (some d) x).put (some a) y=(fr.put (some a) y).put (some d) x:=by
 simp only[Fr.put]
 congr 1
 funext j
 simp only[fF]
 by_cases c:j=a
 ·subst c;rw[cG rfl,cB (λe=>h e.symm),cG rfl]
 ·rw[cB c]
  by_cases b:j=d
  ·rw[cG b,cG b]
  ·rw[cB b,cB b,cB c]
section
variable{P:Program} {T:dA} {E:List Nat} {ops:List Oper} {opsA:Array Oper} {q soft:Bool} {o:Oper} {K:Fr->cV->Prop} {fr:Fr} {H:cV}
def FP{d:Nat}{v:AV}(G:d∉o.looksAt opsA)(w:o.dst≠some d)(h:fD P T E ops q soft o K (fr.put (some d) v) H):fD P T E ops q soft o (λf h=>K (f.put (some d) v) h) fr H:=by
 have j:∀x∈o.op.operands,ev T (fr.put (some d) v) x=ev T fr x:=by
  intro x B;refine IA λt O=>?_;subst O;rw[Fr.za,cB];rintro he;injection he with he;subst he;exact G (ND _ (O8.2 ⟨.tmp d,by simpa using B,rfl⟩))
 have C:mN P T E ops q soft (fr.put (some d) v) H o=mN P T E ops q soft fr H o:=yi j (λt x _=>⟨λb g off _=>⟨rfl,rfl⟩,λ_=>rfl⟩) λ_ _ _ _ _=>rfl;clear G;obtain⟨dst,op,type,pos,after,guard⟩:=o;simp only at w
 have a:∀x:AV,((fr.put (some d) v).put dst x)=((fr.put dst x).put (some d) v):=by
  intro x;cases dst with
  |none=>rfl|some p=>exact pD fr (λe=>w (by rw[e])) v x
 have n:∀cs,jx E dst cs K (fr.put (some d) v) H->jx E dst cs (λf h=>K (f.put (some d) v) h) fr H:=by
  intro cs u;unfold jx at*
  split at u
  ·rename_i p;have A:p≠d:=λe=>w (by rw[e])
   have z:∀y:AV,fF (fF fr.env d v) p y=fF (fF fr.env p y) d v:=by
    intro y;have:=congrArg Fr.env (pD fr A.symm v y);exact this
   split at u
   ·rename_i D;rw[cG D];simp only[Fr.put] at u|-;rw[<-z];exact u
   ·rename_i D;rw[cB D];simp only[Fr.put] at u|-;rw[<-z];exact u
  ·exact u.elim
 cases op with
 |alloc t=>
  simp only[fD] at h|-
  split at h
  ·exact⟨h.1,n _ h.2⟩
  ·exact h.elim
 |box t x=>
  simp only[fD] at h|-;rw[j x (by simp[Op.operands])] at h;exact⟨h.1,h.2.1,n _ h.2.2⟩
 |store t x y=>
  simp only[fD] at h|-;rw[j x (by simp[Op.operands]),j y (by simp[Op.operands])] at h;refine⟨h.1,h.2.1,h.2.2.1,?_⟩;have Q:=h.2.2.2;unfold lA at*;exact Q
 |call c=>
  obtain⟨callee,args,JY⟩:=c;cases callee with
  |builtin b=>
   have i:∀x∈args.toList,ev T (fr.put (some d) v) x=ev T fr x:=λx B=>j x (by simp[Op.operands,Call.operands,uX.1 B])
   cases b<;>first
    |(simp only[fD] at h|-
      rw[C] at h
      split at h
      ·rw[<-a];exact h
      ·exact h.elim)
    |(simp only[fD] at h|-
      unfold lk at*
      split at h
      ·rename_i p s x t R k I;have A:p≠d:=λe=>w (by rw[e]);simp only at k;rw[i s (by rw[k];simp),i x (by rw[k];simp)] at h
       split at h
       ·rename_i e sz tag l J m L M N;obtain⟨g1,g2,g3,g4,g5⟩:=h;refine⟨g1,g2,g3,g4,?_⟩;have F:mj (fr.put (some d) v) tag l=mj fr tag l:=rfl;rw[F] at g5
        split at g5
        ·rename_i u;rw[cG u]
         have:grown (fr.put (some d) v) p tag l m=(grown fr p tag l m).put (some d) v:=by
          have:=congrArg Fr.env (pD fr A.symm v (.slice (.loc p (fr.ea p+1)) (l++m)));simp only[grown,Fr.put] at this|-;rw[this]
         show K ((grown fr p tag l m).put (some d) v) H;rw[<-this];exact g5
        ·rename_i u;rw[cB u];refine⟨g5.1,?_⟩;show K ((fr.put (some p) (.slice .eh l)).put (some d) v) H;rw[<-a];exact g5.2
       ·exact h.elim
      ·exact h.elim)
  |value f=>
   simp only[fD] at h|-
   have i:(args.toList.map λx=>(ev T (fr.put (some d) v) x).norm)=args.toList.map λx=>(ev T fr x).norm:=
    qo λx B=>by rw[j x (by simp[Op.operands,Call.operands,uX.1 B])]
   rw[i,j f (by simp[Op.operands,Call.operands])] at h;obtain⟨r,H',L,M,N⟩:=h;refine⟨r,H',L,M,?_⟩;rw[<-a];exact N
  |invoke r m=>exact h
 |_=>
  simp only[fD] at h|-;rw[C] at h
  split at h
  ·rw[<-a];exact h
  ·exact h.elim
end
end Go.ky
