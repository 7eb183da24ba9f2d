/- Part of the proof of KernelRefuses: layer. -/
import Derived.Test.YtobcafblgapgfaaGreatDoorL4
set_option linter.all false
namespace Go.nd
open Go
def rootOf(ops:List Oper):Nat->Nat->Option Nat
 |0,_=>none|f+1,t=>
  match ops.find? (λo=>o.dst==some t)with
  |none=>some t|some o=>match o.op with
   |.fieldAddr _ (.tmp y) _=>rootOf ops f y|.indexAddr _ (.tmp y) _=>rootOf ops f y|.nilCheck (.tmp y)=>rootOf ops f y|.move (.tmp y)=>rootOf ops f y|.alloc _=>some t|.box _ _=>some t|_=>none
def DW(ops:List Oper):Operand->Option Nat
 |.tmp t=>rootOf ops (ops.length+1) t|_=>none
def rk(ops:List Oper)(x:Operand)(v:AV):Bool:=
 match v with
 |.eD b _ _=>DW ops x==some b|_=>true
def Wm:AV->Bool
 |.fT _ _=>true|_=>false
def isL:AV->Bool
 |.eD _ _ _=>true|_=>false
inductive T4 where
 |val|load (r:Option Nat)|alloc (d:Option Nat)|Bc|app|KE (r:Option Nat)
 deriving DecidableEq
def hE(E:List Nat)(ops:List Oper)(o:Oper):T4:=
 match o.op with
 |.load _ x=>.load (DW ops x)|.lookup _ _ _ _=>.load none|.alloc _=>match o.dst with|some d=>if E.contains d then .Bc else .alloc (some d)|none=>.Bc
 |.box _ _=>match o.dst with|some d=>if E.contains d then .Bc else .alloc (some d)|none=>.Bc
 |.store _ x _=>.KE (DW ops x)|.call c=>match c.callee with|.builtin .append=>.app|.builtin _=>.val|_=>.Bc
 |_=>.val
def wG:T4->T4->Bool
 |.val,_=>true|_,.val=>true|.load _,.load _=>true|.load r,.alloc d=>r !=d|.alloc d,.load r=>r !=d|.load _,.app=>true|.app,.load _=>true|.load _,.Bc=>true|.Bc,.load _=>true|.load r,.KE a=>r !=a|.KE a,.load r=>r !=a|.alloc _,.alloc _=>true|.alloc _,.app=>true|.app,.alloc _=>true|.alloc _,.Bc=>true|.Bc,.alloc _=>true|.app,.Bc=>true|.Bc,.app=>true|_,_=>false
def pL(P:Program)(T:fh)(E:List Nat)(ops:List Oper)(q soft:Bool)(fr:Fr)(H:eB)(o:Oper):Option AV:=
 match o.op with
 |.load t x=>if rk ops x (ev T fr x)&&(!soft||q||!Wm (ev T fr x))then uE P fr H t (ev T fr x)else none|.lookup t x i ok=>if !soft||q then uV P H t (ev T fr x) (ev T fr i) ok else none|.buildSlice t n ps=>if o.dst.any E.contains=true then none else n9 P t n (ps.toList.map λp=>(p.1,ev T fr p.2))|.alloc _=>none|.box _ _=>none|.store _ _ _=>none|.call c=>match c.callee with
  |.builtin .append=>none|.builtin _=>wL P T fr c|_=>none
 |_=>yq P T fr o
def qc(P:Program)(T:fh)(b:AV)(args:List AV)(H:eB)(r:AV)(H':eB):Prop:=ru P T b args H λc a=>c=r/\a=H'
def ig(P:Program)(T:fh)(E:List Nat)(ops:List Oper)(q soft:Bool)(o:Oper)(K:Fr->eB->Prop)(fr:Fr)(H:eB):Prop:=
 match o.op with
 |.alloc t=>match lG P t with
  |some z=>(soft=true->o.dst.any E.contains=false)/\lr E o.dst z K fr H|none=>False
 |.box _ x=>f_ (ev T fr x)=true/\(soft=true->o.dst.any E.contains=false)/\lr E o.dst (ev T fr x).cells K fr H|.store t x y=>o.dst=none/\rk ops x (ev T fr x)=true/\(soft=true->isL (ev T fr x)=true)/\nC P t (ev T fr x) (ev T fr y) K fr H|.call c=>match c.callee with
  |.builtin .append=>nS P T c o.dst K fr H|.builtin _=>match pL P T E ops q soft fr H o with
   |some v=>K (fr.put o.dst v) H|none=>False
  |.value f=>∃r H',qc P T (ev T fr f) (c.args.toList.map λx=>(ev T fr x).norm) H r H'/\(soft=true->q=true->H'=H)/\K (fr.put o.dst r) H'|.invoke _ _=>False
 |_=>match pL P T E ops q soft fr H o with
  |some v=>K (fr.put o.dst v) H|none=>False
section
variable{P:Program} {T:fh} {E:List Nat} {ops:List Oper} {q soft:Bool} {o:Oper} {K K':Fr->eB->Prop} {fr:Fr} {H:eB}
theorem EL{dst:Option Nat}{cs:List AV}(a:∀fr H,K fr H->K' fr H)(h:lr E dst cs K fr H):lr E dst cs K' fr H:=by
 unfold lr at*
 grind
theorem Na{t:TypeId}{x v:AV}(a:∀fr H,K fr H->K' fr H)(h:nC P t x v K fr H):nC P t x v K' fr H:=by
 unfold nC at*
 split at h
 all_goals grind
theorem KI{c:Call}{dst:Option Nat}(a:∀fr H,K fr H->K' fr H)(h:nS P T c dst K fr H):nS P T c dst K' fr H:=by
 unfold nS at*
 grind
def oH(P:Program)(T:fh)(E:List Nat)(ops:List Oper)(q soft:Bool)(o:Oper)(fr:Fr)(H:eB)(fr':Fr)(H':eB):Prop:=ig P T E ops q soft o (λf h=>f=fr'/\h=H') fr H
theorem GI{dst:Option Nat}{cs:List AV}(h:lr E dst cs K fr H):∃fr' H',lr E dst cs (λf h=>f=fr'/\h=H') fr H/\K fr' H':=by
 unfold lr at*
 grind
theorem NA{t:TypeId}{x v:AV}(h:nC P t x v K fr H):∃fr' H',nC P t x v (λf h=>f=fr'/\h=H') fr H/\K fr' H':=by
 unfold nC at*
 split at h
 all_goals grind
theorem MX{c:Call}{dst:Option Nat}(h:nS P T c dst K fr H):∃fr' H',nS P T c dst (λf h=>f=fr'/\h=H') fr H/\K fr' H':=by
 unfold nS at*
 grind
def xO(h:ig P T E ops q soft o K fr H):∃fr' H',oH P T E ops q soft o fr H fr' H'/\K fr' H':=by
 unfold oH ig at*
 grind[GI,NA,MX]
theorem HN(a:∀fr H,K fr H->K' fr H)(h:ig P T E ops q soft o K fr H):ig P T E ops q soft o K' fr H:=by
 unfold ig at*
 split at h
 all_goals grind[EL,Na,KI]
def zi{fr':Fr}{H':eB}(h:oH P T E ops q soft o fr H fr' H')(a:K fr' H'):ig P T E ops q soft o K fr H:=
 HN (λf h ⟨b,c⟩=>by subst b;subst c;exact a) h
theorem E7(h:ig P T E ops q soft o K fr H):sx P T E o K fr H:=by
 obtain⟨dst,op,type,pos,after,guard⟩:=o;cases op with
 |alloc t=>grind[ig,sx]|box t x=>
  simp only[ig,sx] at h|-;exact⟨h.1,h.2.2⟩
 |store t x y=>
  simp only[ig,sx] at h|-;exact⟨h.1,h.2.2.2⟩
 |load t x=>grind[ig,sx,pL]|buildSlice t n ps=>
  simp only[ig,sx,pL] at h|-
  split at h
  ·rename_i v a
   split at a
   ·cases a
   ·rename_i g;rw[a];simp only[Gy];rw[ea g];exact h
  ·exact h.elim
 |lookup t x i ok=>grind[ig,sx,pL]|convert s d x=>
  simp only[ig,sx,pL,yq,Ry] at h|-
  split at h
  ·rename_i v a;rw[a];exact h
  ·exact h.elim
 |call c=>
  obtain⟨callee,args,O0⟩:=c;cases callee with
  |builtin b=>cases b<;>simp only[ig,sx,pL] at h|-<;>first|exact .inl (.inl h)|exact h
  |value f=>
   simp only[ig,sx] at h|-;obtain⟨r,H',e,u,j⟩:=h;unfold qc ru at e;unfold ru
   split at e
   ·exact e.mono λw k ⟨l,p⟩=>by subst l;subst p;exact j
   ·exact e
  |invoke r m=>simp only[ig] at h
 |_=>
  simp only[ig,sx,pL] at h|-
  first
   |exact h
   |(simp only[yq] at h)
end
section
variable{P:Program} {T:fh} {fr fr':Fr}
def MR{x:Operand}(h:∀t,x=.tmp t->fr.env t=fr'.env t):ev T fr x=ev T fr' x:=by
 cases x with
 |tmp t=>exact h t rfl|_=>rfl
theorem Jn{xs:List Operand}(h:∀x∈xs,ev T fr x=ev T fr' x):xs.map (ev T fr)=xs.map (ev T fr'):=uQ h
def E8{c:Call}(h:∀x∈c.args.toList,ev T fr x=ev T fr' x):wL P T fr c=wL P T fr' c:=by
 unfold wL
 split
 all_goals grind[Jn]
def OF{o:Oper}(h:∀x∈o.op.operands,ev T fr x=ev T fr' x):yq P T fr o=yq P T fr' o:=by
 obtain⟨dst,op,type,pos,after,guard⟩:=o
 have opt:∀(x:Option Operand),(∀y,x=some y->ev T fr y=ev T fr' y)->x.map (ev T fr)=x.map (ev T fr'):=by
  intro x a;cases x with
  |none=>rfl|some y=>simp[a y rfl]
 cases op<;>simp only[Op.operands] at h<;>simp only[yq]
 case move x=>rw[h x (by simp)]
 case assign x=>rw[h x (by simp)]
 case pick c x y=>rw[h c (by simp),h x (by simp),h y (by simp)]
 case build t ps=>
  have:(ps.toList.map λp=>(p.1,ev T fr p.2))=ps.toList.map λp=>(p.1,ev T fr' p.2):=
   uQ λp b=>by rw[h p.2 (by simp;exact⟨p.1,by simpa using b⟩)]
  rw[this]
 case binOp op t x y k=>rw[h x (by simp),h y (by simp)]
 case unOp op t x=>rw[h x (by simp)]
 case convert s d x=>rw[h x (by simp)]
 case makeFunc fn f c=>
  have e:(f.toList.map λx=>(ev T fr x).norm)=f.toList.map λx=>(ev T fr' x).norm:=uQ λx a=>by rw[h x (by simp[yi.1 a])]
  have g:(c.toList.map λx=>(ev T fr x).norm)=c.toList.map λx=>(ev T fr' x).norm:=uQ λx a=>by rw[h x (by simp[yi.1 a])]
  rw[e,g]
 case fieldAddr t x i=>rw[h x (by simp)]
 case field t x i=>rw[h x (by simp)]
 case indexAddr t x i=>rw[h x (by simp),h i (by simp)]
 case index t x i=>rw[h x (by simp),h i (by simp)]
 case slice t x lo hi j=>rw[h x (by simp),opt lo λy hy=>h y (by simp[hy]),opt hi λy hy=>h y (by simp[hy]),opt j λy hy=>h y (by simp[hy])]
 case extract x i=>rw[h x (by simp)]
 case nilCheck x=>rw[h x (by simp)]
 case makeInterface t x=>rw[h x (by simp)]
 case call c=>exact E8 λx a=>h x (by simp[Call.operands,yi.1 a])
theorem L3{H H':eB}{t:TypeId}{x:AV}(c:∀b g off,x=.eD b g off->fr.box b=fr'.box b/\fr.gen b=fr'.gen b)(a:Wm x=true->H=H'):uE P fr H t x=uE P fr' H' t x:=by
 cases x with
 |eD b g off=>grind[uE]|fT o off=>rw[a rfl];rfl|_=>rfl
def BV{E:List Nat}{ops:List Oper}{q soft:Bool}{H H':eB}{o:Oper}(h:∀x∈o.op.operands,ev T fr x=ev T fr' x)
  (j:∀t x,o.op=.load t x->(∀b g off,ev T fr x=.eD b g off->fr.box b=fr'.box b/\fr.gen b=fr'.gen b)/\(Wm (ev T fr x)=true->H=H')) (d:∀t x i ok,o.op=.lookup t x i ok->H=H'):pL P T E ops q soft fr H o=pL P T E ops q soft fr' H' o:=by
 obtain⟨dst,op,type,pos,after,guard⟩:=o;cases op with
 |load t x=>
  have a:=h x (by simp[Op.operands])
  grind[pL,L3]
 |lookup t x i ok=>
  simp only[pL];rw[d t x i ok rfl,h x (by simp[Op.operands]),h i (by simp[Op.operands])]
 |buildSlice t n ps=>
  simp only[pL]
  have:(ps.toList.map λp=>(p.1,ev T fr p.2))=ps.toList.map λp=>(p.1,ev T fr' p.2):=
   uQ λp e=>by rw[h p.2 (by simp[Op.operands];exact⟨p.1,by simpa using e⟩)]
  rw[this]
 |call c=>
  obtain⟨callee,args,O0⟩:=c
  have f:wL P T fr {callee:=callee,args:=args,argTypes:=O0}=wL P T fr' {callee:=callee,args:=args,argTypes:=O0}:=
   E8 λx a=>h x (by simp[Op.operands,Call.operands,yi.1 a])
  cases callee with
  |builtin b=>cases b<;>simp only[pL]<;>first|rfl|exact f
  |_=>rfl
 |alloc t=>rfl|box t x=>rfl|store t x y=>rfl|_=>exact OF (P:=P) h
end
def sN(fr:Fr){d a:Nat}(h:d≠a)(x y:AV):(fr.put (some d) x).put (some a) y=(fr.put (some a) y).put (some d) x:=by
 simp only[Fr.put]
 congr 1
 grind[hU]
section
variable{P:Program} {T:fh} {E:List Nat} {ops:List Oper} {opsA:Array Oper} {q soft:Bool} {o:Oper} {K:Fr->eB->Prop} {fr:Fr} {H:eB}
def JO{d:Nat}{v:AV}(G:d∉o.looksAt opsA)(w:o.dst≠some d)(h:ig P T E ops q soft o K (fr.put (some d) v) H):ig P T E ops q soft o (λf h=>K (f.put (some d) v) h) fr H:=by
 have j:∀x∈o.op.operands,ev T (fr.put (some d) v) x=ev T fr x:=by
  intro x B;refine MR λt O=>?_;subst O;rw[Fr.CK,ea];rintro he;injection he with he;subst he;exact G (XM _ (RV.2 ⟨.tmp d,by simpa using B,rfl⟩))
 have C:pL P T E ops q soft (fr.put (some d) v) H o=pL P T E ops q soft fr H o:=BV j (λt x _=>⟨λb g off _=>⟨rfl,rfl⟩,λ_=>rfl⟩) λ_ _ _ _ _=>rfl;clear G;obtain⟨dst,op,type,pos,after,guard⟩:=o;simp only at w
 have a:∀x:AV,((fr.put (some d) v).put dst x)=((fr.put dst x).put (some d) v):=by
  intro x;cases dst with
  |none=>rfl|some p=>exact sN fr (λe=>w (by rw[e])) v x
 have n:∀cs,lr E dst cs K (fr.put (some d) v) H->lr E dst cs (λf h=>K (f.put (some d) v) h) fr H:=by
  intro cs u;unfold lr at*
  split at u
  ·rename_i p;have A:p≠d:=λe=>w (by rw[e])
   have z:∀y:AV,hU (hU fr.env d v) p y=hU (hU fr.env p y) d v:=by
    intro y;have:=congrArg Fr.env (sN fr A.symm v y);exact this
   split at u
   ·rename_i D;rw[ee D];simp only[Fr.put] at u|-;rw[<-z];exact u
   ·rename_i D;rw[ea D];simp only[Fr.put] at u|-;rw[<-z];exact u
  ·exact u.elim
 cases op with
 |alloc t=>
  simp only[ig] at h|-
  split at h
  ·exact⟨h.1,n _ h.2⟩
  ·exact h.elim
 |box t x=>
  simp only[ig] at h|-;rw[j x (by simp[Op.operands])] at h;exact⟨h.1,h.2.1,n _ h.2.2⟩
 |store t x y=>
  simp only[ig] at h|-;rw[j x (by simp[Op.operands]),j y (by simp[Op.operands])] at h;refine⟨h.1,h.2.1,h.2.2.1,?_⟩;have Q:=h.2.2.2;unfold nC at*;exact Q
 |call c=>
  obtain⟨callee,args,O0⟩:=c;cases callee with
  |builtin b=>
   have i:∀x∈args.toList,ev T (fr.put (some d) v) x=ev T fr x:=λx B=>j x (by simp[Op.operands,Call.operands,yi.1 B])
   cases b<;>first
    |(simp only[ig] at h|-
      rw[C] at h
      split at h
      ·rw[<-a];exact h
      ·exact h.elim)
    |(simp only[ig] at h|-
      unfold nS at*
      split at h
      ·rename_i p s x t R k I;have A:p≠d:=λe=>w (by rw[e]);simp only at k;rw[i s (by rw[k];simp),i x (by rw[k];simp)] at h
       split at h
       ·rename_i e sz tag l J m L M N;obtain⟨g1,g2,g3,g4,g5⟩:=h;refine⟨g1,g2,g3,g4,?_⟩;have F:pU (fr.put (some d) v) tag l=pU fr tag l:=rfl;rw[F] at g5
        split at g5
        ·rename_i u;rw[ee u]
         have:grown (fr.put (some d) v) p tag l m=(grown fr p tag l m).put (some d) v:=by
          have:=congrArg Fr.env (sN fr A.symm v (.slice (.loc p (fr.fP p+1)) (l++m)));simp only[grown,Fr.put] at this|-;rw[this]
         show K ((grown fr p tag l m).put (some d) v) H;rw[<-this];exact g5
        ·rename_i u;rw[ea u];refine⟨g5.1,?_⟩;show K ((fr.put (some p) (.slice .iR l)).put (some d) v) H;rw[<-a];exact g5.2
       ·exact h.elim
      ·exact h.elim)
  |value f=>
   simp only[ig] at h|-
   have i:(args.toList.map λx=>(ev T (fr.put (some d) v) x).norm)=args.toList.map λx=>(ev T fr x).norm:=
    uQ λx B=>by rw[j x (by simp[Op.operands,Call.operands,yi.1 B])]
   rw[i,j f (by simp[Op.operands,Call.operands])] at h;obtain⟨r,H',L,M,N⟩:=h;refine⟨r,H',L,M,?_⟩;rw[<-a];exact N
  |invoke r m=>exact h
 |_=>
  simp only[ig] at h|-;rw[C] at h
  split at h
  ·rw[<-a];exact h
  ·exact h.elim
end
end Go.nd
