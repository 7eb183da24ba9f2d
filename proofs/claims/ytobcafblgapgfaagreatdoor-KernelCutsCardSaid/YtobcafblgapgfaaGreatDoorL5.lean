/- Part of the proof of KernelLifts, KernelPuts, KernelCuts: layer. -/
import Derived.Test.YtobcafblgapgfaaGreatDoorL4
set_option linter.all false
namespace Go.tq
open Go
def rootOf(ops:List Oper):Nat->Nat->Option Nat
 |0,_=>none|f+1,t=>
  match ops.find? (λo=>o.dst==some t)with
  |none=>some t|some o=>match o.op with
   |.fieldAddr _ (.tmp y) _=>rootOf ops f y|.indexAddr _ (.tmp y) _=>rootOf ops f y|.nilCheck (.tmp y)=>rootOf ops f y|.move (.tmp y)=>rootOf ops f y|.alloc _=>some t|.box _ _=>some t|_=>none
def ME(ops:List Oper):Operand->Option Nat
 |.tmp t=>rootOf ops (ops.length+1) t|_=>none
def Ac(ops:List Oper)(x:Operand)(v:AV):Bool:=
 match v with
 |.mD b _ _=>ME ops x==some b|_=>true
def Zw:AV->Bool
 |.gS _ _=>true|_=>false
def isL:AV->Bool
 |.mD _ _ _=>true|_=>false
inductive X5 where
 |val|load (r:Option Nat)|alloc (d:Option Nat)|Km|app|R4 (r:Option Nat)
 deriving DecidableEq
def ld(E:List Nat)(ops:List Oper)(o:Oper):X5:=
 match o.op with
 |.load _ x=>.load (ME ops x)|.lookup _ _ _ _=>.load none|.alloc _=>match o.dst with|some d=>if E.contains d then .Km else .alloc (some d)|none=>.Km
 |.box _ _=>match o.dst with|some d=>if E.contains d then .Km else .alloc (some d)|none=>.Km
 |.store _ x _=>.R4 (ME ops x)|.call c=>match c.callee with|.builtin .append=>.app|.builtin _=>.val|_=>.Km
 |_=>.val
def Fx:X5->X5->Bool
 |.val,_=>true|_,.val=>true|.load _,.load _=>true|.load r,.alloc d=>r !=d|.alloc d,.load r=>r !=d|.load _,.app=>true|.app,.load _=>true|.load _,.Km=>true|.Km,.load _=>true|.load r,.R4 a=>r !=a|.R4 a,.load r=>r !=a|.alloc _,.alloc _=>true|.alloc _,.app=>true|.app,.alloc _=>true|.alloc _,.Km=>true|.Km,.alloc _=>true|.app,.Km=>true|.Km,.app=>true|_,_=>false
def z_(P:Program)(T:fx)(E:List Nat)(ops:List Oper)(q soft:Bool)(fr:Fr)(H:dM)(o:Oper):Option AV:=
 match o.op with
 |.load t x=>if Ac ops x (ev T fr x)&&(!soft||q||!Zw (ev T fr x))then Ds P fr H t (ev T fr x)else none|.lookup t x i ok=>if !soft||q then Dz P H t (ev T fr x) (ev T fr i) ok else none|.buildSlice t n ps=>if o.dst.any E.contains then none else uL P t n (ps.toList.map λp=>(p.1,ev T fr p.2))|.alloc _=>none|.box _ _=>none|.store _ _ _=>none|.call c=>match c.callee with
  |.builtin .append=>none|.builtin _=>Fp P T fr c|_=>none
 |_=>Hx P T fr o
def yt(P:Program)(T:fx)(b:AV)(args:List AV)(H:dM)(r:AV)(H':dM):Prop:=BL P T b args H λc a=>c=r/\a=H'
def lN(P:Program)(T:fx)(E:List Nat)(ops:List Oper)(q soft:Bool)(o:Oper)(K:Fr->dM->Prop)(fr:Fr)(H:dM):Prop:=
 match o.op with
 |.alloc t=>match q_ P t with
  |some z=>(soft=true->o.dst.any E.contains=false)/\rG E o.dst z K fr H|none=>False
 |.box _ x=>iu (ev T fr x)=true/\(soft=true->o.dst.any E.contains=false)/\rG E o.dst (ev T fr x).cells K fr H|.store t x y=>o.dst=none/\Ac ops x (ev T fr x)=true/\(soft=true->isL (ev T fr x)=true)/\uh P t (ev T fr x) (ev T fr y) K fr H|.call c=>match c.callee with
  |.builtin .append=>uU P T c o.dst K fr H|.builtin _=>match z_ P T E ops q soft fr H o with
   |some v=>K (fr.put o.dst v) H|none=>False
  |.value f=>∃r H',yt P T (ev T fr f) (c.args.toList.map λx=>(ev T fr x).norm) H r H'/\(soft=true->q=true->H'=H)/\K (fr.put o.dst r) H'|.invoke _ _=>False
 |_=>match z_ P T E ops q soft fr H o with
  |some v=>K (fr.put o.dst v) H|none=>False
section
variable{P:Program} {T:fx} {E:List Nat} {ops:List Oper} {q soft:Bool} {o:Oper} {K K':Fr->dM->Prop} {fr:Fr} {H:dM}
theorem S4{dst:Option Nat}{cs:List AV}(a:∀fr H,K fr H->K' fr H)(h:rG E dst cs K fr H):rG E dst cs K' fr H:=by
 unfold rG at*
 grind
theorem TN{t:TypeId}{x v:AV}(a:∀fr H,K fr H->K' fr H)(h:uh P t x v K fr H):uh P t x v K' fr H:=by
 unfold uh at*
 split at h
 all_goals grind
theorem RM{c:Call}{dst:Option Nat}(a:∀fr H,K fr H->K' fr H)(h:uU P T c dst K fr H):uU P T c dst K' fr H:=by
 unfold uU at*
 grind
def wy(P:Program)(T:fx)(E:List Nat)(ops:List Oper)(q soft:Bool)(o:Oper)(fr:Fr)(H:dM)(fr':Fr)(H':dM):Prop:=lN P T E ops q soft o (λf h=>f=fr'/\h=H') fr H
theorem Uw{dst:Option Nat}{cs:List AV}(h:rG E dst cs K fr H):∃fr' H',rG E dst cs (λf h=>f=fr'/\h=H') fr H/\K fr' H':=by
 unfold rG at*
 grind
theorem UF{t:TypeId}{x v:AV}(h:uh P t x v K fr H):∃fr' H',uh P t x v (λf h=>f=fr'/\h=H') fr H/\K fr' H':=by
 unfold uh at*
 split at h
 all_goals grind
theorem T9{c:Call}{dst:Option Nat}(h:uU P T c dst K fr H):∃fr' H',uU P T c dst (λf h=>f=fr'/\h=H') fr H/\K fr' H':=by
 unfold uU at*
 grind
def Hc(h:lN P T E ops q soft o K fr H):∃fr' H',wy P T E ops q soft o fr H fr' H'/\K fr' H':=by
 unfold wy lN at*
 grind[Uw,UF,T9]
theorem Qa(a:∀fr H,K fr H->K' fr H)(h:lN P T E ops q soft o K fr H):lN P T E ops q soft o K' fr H:=by
 unfold lN at*
 split at h
 all_goals grind[S4,TN,RM]
def I4{fr':Fr}{H':dM}(h:wy P T E ops q soft o fr H fr' H')(a:K fr' H'):lN P T E ops q soft o K fr H:=
 Qa (λf h ⟨b,c⟩=>by subst b;subst c;exact a) h
theorem Ti(h:lN P T E ops q soft o K fr H):A9 P T E o K fr H:=by
 obtain⟨dst,op,type,pos,after,guard⟩:=o;cases op with
 |alloc t=>grind[lN,A9]|box t x=>
  simp only[lN,A9] at h|-;exact⟨h.1,h.2.2⟩
 |store t x y=>
  simp only[lN,A9] at h|-;exact⟨h.1,h.2.2.2⟩
 |load t x=>grind[lN,A9,z_]|buildSlice t n ps=>
  simp only[lN,A9,z_] at h|-
  split at h
  ·rename_i v a
   split at a
   ·cases a
   ·rename_i g;rw[a];simp only[Ok];rw[cJ g];exact h
  ·exact h.elim
 |lookup t x i ok=>grind[lN,A9,z_]|convert s d x=>
  simp only[lN,A9,z_,Hx,W4] at h|-
  split at h
  ·rename_i v a;rw[a];exact h
  ·exact h.elim
 |call c=>
  obtain⟨callee,args,QR⟩:=c;cases callee with
  |builtin b=>cases b<;>simp only[lN,A9,z_] at h|-<;>first|exact .inl (.inl h)|exact h
  |value f=>
   simp only[lN,A9] at h|-;obtain⟨r,H',e,u,j⟩:=h;unfold yt BL at e;unfold BL
   split at e
   ·exact e.mono λw k ⟨l,p⟩=>by subst l;subst p;exact j
   ·exact e
  |invoke r m=>simp only[lN] at h
 |_=>
  simp only[lN,A9,z_] at h|-
  first
   |exact h
   |(simp only[Hx] at h)
end
section
variable{P:Program} {T:fx} {fr fr':Fr}
def TQ{x:Operand}(h:∀t,x=.tmp t->fr.env t=fr'.env t):ev T fr x=ev T fr' x:=by
 cases x with
 |tmp t=>exact h t rfl|_=>rfl
theorem VP{xs:List Operand}(h:∀x∈xs,ev T fr x=ev T fr' x):xs.map (ev T fr)=xs.map (ev T fr'):=pg h
def Nv{c:Call}(h:∀x∈c.args.toList,ev T fr x=ev T fr' x):Fp P T fr c=Fp P T fr' c:=by
 unfold Fp
 split
 all_goals grind[VP]
def UM{o:Oper}(h:∀x∈o.op.operands,ev T fr x=ev T fr' x):Hx P T fr o=Hx P T fr' o:=by
 obtain⟨dst,op,type,pos,after,guard⟩:=o
 have opt:∀(x:Option Operand),(∀y,x=some y->ev T fr y=ev T fr' y)->x.map (ev T fr)=x.map (ev T fr'):=by
  intro x a;cases x with
  |none=>rfl|some y=>simp[a y rfl]
 cases op<;>simp only[Op.operands] at h<;>simp only[Hx]
 case move x=>rw[h x aae]
 case assign x=>rw[h x aae]
 case pick c x y=>rw[h c aae,h x aae,h y aae]
 case build t ps=>
  have:(ps.toList.map λp=>(p.1,ev T fr p.2))=ps.toList.map λp=>(p.1,ev T fr' p.2):=
   pg λp b=>by rw[h p.2 (by simp;exact⟨p.1,by simpa using b⟩)]
  rw[this]
 case binOp op t x y k=>rw[h x aae,h y aae]
 case unOp op t x=>rw[h x aae]
 case convert s d x=>rw[h x aae]
 case makeFunc fn f c=>
  have e:(f.toList.map λx=>(ev T fr x).norm)=f.toList.map λx=>(ev T fr' x).norm:=pg λx a=>by rw[h x (by simp[Ib.1 a])]
  have g:(c.toList.map λx=>(ev T fr x).norm)=c.toList.map λx=>(ev T fr' x).norm:=pg λx a=>by rw[h x (by simp[Ib.1 a])]
  rw[e,g]
 case fieldAddr t x i=>rw[h x aae]
 case field t x i=>rw[h x aae]
 case indexAddr t x i=>rw[h x aae,h i aae]
 case index t x i=>rw[h x aae,h i aae]
 case slice t x lo hi j=>rw[h x aae,opt lo λy hy=>h y (by simp[hy]),opt hi λy hy=>h y (by simp[hy]),opt j λy hy=>h y (by simp[hy])]
 case extract x i=>rw[h x aae]
 case nilCheck x=>rw[h x aae]
 case makeInterface t x=>rw[h x aae]
 case call c=>exact Nv λx a=>h x (by simp[Call.operands,Ib.1 a])
theorem S7{H H':dM}{t:TypeId}{x:AV}(c:∀b g off,x=.mD b g off->fr.box b=fr'.box b/\fr.gen b=fr'.gen b)(a:Zw x=true->H=H'):Ds P fr H t x=Ds P fr' H' t x:=by
 cases x with
 |mD b g off=>grind[Ds]|gS o off=>rw[a rfl];rfl|_=>rfl
def Kq{E:List Nat}{ops:List Oper}{q soft:Bool}{H H':dM}{o:Oper}(h:∀x∈o.op.operands,ev T fr x=ev T fr' x)
  (j:∀t x,o.op=.load t x->(∀b g off,ev T fr x=.mD b g off->fr.box b=fr'.box b/\fr.gen b=fr'.gen b)/\(Zw (ev T fr x)=true->H=H')) (d:∀t x i ok,o.op=.lookup t x i ok->H=H'):z_ P T E ops q soft fr H o=z_ P T E ops q soft fr' H' o:=by
 obtain⟨dst,op,type,pos,after,guard⟩:=o;cases op with
 |load t x=>
  have a:=h x (by simp[Op.operands])
  grind[z_,S7]
 |lookup t x i ok=>
  simp only[z_];rw[d t x i ok rfl,h x (by simp[Op.operands]),h i (by simp[Op.operands])]
 |buildSlice t n ps=>
  simp only[z_]
  have:(ps.toList.map λp=>(p.1,ev T fr p.2))=ps.toList.map λp=>(p.1,ev T fr' p.2):=
   pg λp e=>by rw[h p.2 (by simp[Op.operands];exact⟨p.1,by simpa using e⟩)]
  rw[this]
 |call c=>
  obtain⟨callee,args,QR⟩:=c
  have f:Fp P T fr {callee:=callee,args:=args,argTypes:=QR}=Fp P T fr' {callee:=callee,args:=args,argTypes:=QR}:=
   Nv λx a=>h x (by simp[Op.operands,Call.operands,Ib.1 a])
  cases callee with
  |builtin b=>cases b<;>simp only[z_]<;>first|rfl|exact f
  |_=>rfl
 |alloc t=>rfl|box t x=>rfl|store t x y=>rfl|_=>exact UM (P:=P) h
end
def A7(fr:Fr){d a:Nat}(h:d≠a)(x y:AV):(fr.put (some d) x).put (some a) y=(fr.put (some a) y).put (some d) x:=by
 simp only[Fr.put]
 congr 1
 grind[kQ]
section
variable{P:Program} {T:fx} {E:List Nat} {ops:List Oper} {opsA:Array Oper} {q soft:Bool} {o:Oper} {K:Fr->dM->Prop} {fr:Fr} {H:dM}
def Q9{d:Nat}{v:AV}(G:d∉o.looksAt opsA)(w:o.dst≠some d)(h:lN P T E ops q soft o K (fr.put (some d) v) H):lN P T E ops q soft o (λf h=>K (f.put (some d) v) h) fr H:=by
 have j:∀x∈o.op.operands,ev T (fr.put (some d) v) x=ev T fr x:=by
  intro x B;refine TQ λt O=>?_;subst O;rw[Fr.Lk,cJ];rintro he;injection he with he;subst he;exact G (YP _ (ab5.2 ⟨.tmp d,by simpa using B,rfl⟩))
 have C:z_ P T E ops q soft (fr.put (some d) v) H o=z_ P T E ops q soft fr H o:=Kq j (λt x _=>⟨λb g off _=>⟨rfl,rfl⟩,λ_=>rfl⟩) λ_ _ _ _ _=>rfl;clear G;obtain⟨dst,op,type,pos,after,guard⟩:=o;simp only at w
 have a:∀x:AV,((fr.put (some d) v).put dst x)=((fr.put dst x).put (some d) v):=by
  intro x;cases dst with
  |none=>rfl|some p=>exact A7 fr (λe=>w (by rw[e])) v x
 have n:∀cs,rG E dst cs K (fr.put (some d) v) H->rG E dst cs (λf h=>K (f.put (some d) v) h) fr H:=by
  intro cs u;unfold rG at*
  split at u
  ·rename_i p;have A:p≠d:=λe=>w (by rw[e])
   have z:∀y:AV,kQ (kQ fr.env d v) p y=kQ (kQ fr.env p y) d v:=by
    intro y;have:=congrArg Fr.env (A7 fr A.symm v y);exact this
   split at u
   ·rename_i D;rw[cL D];simp only[Fr.put] at u|-;rw[<-z];exact u
   ·rename_i D;rw[cJ D];simp only[Fr.put] at u|-;rw[<-z];exact u
  ·exact u.elim
 cases op with
 |alloc t=>
  simp only[lN] at h|-
  split at h
  ·exact⟨h.1,n _ h.2⟩
  ·exact h.elim
 |box t x=>
  simp only[lN] at h|-;rw[j x (by simp[Op.operands])] at h;exact⟨h.1,h.2.1,n _ h.2.2⟩
 |store t x y=>
  simp only[lN] at h|-;rw[j x (by simp[Op.operands]),j y (by simp[Op.operands])] at h;refine⟨h.1,h.2.1,h.2.2.1,?_⟩;have Q:=h.2.2.2;unfold uh at*;exact Q
 |call c=>
  obtain⟨callee,args,QR⟩:=c;cases callee with
  |builtin b=>
   have i:∀x∈args.toList,ev T (fr.put (some d) v) x=ev T fr x:=λx B=>j x (by simp[Op.operands,Call.operands,Ib.1 B])
   cases b<;>first
    |(simp only[lN] at h|-
      rw[C] at h
      split at h
      ·rw[<-a];exact h
      ·exact h.elim)
    |(simp only[lN] at h|-
      unfold uU at*
      split at h
      ·rename_i p s x t R k I;have A:p≠d:=λe=>w (by rw[e]);simp only at k;rw[i s (by rw[k];simp),i x (by rw[k];simp)] at h
       split at h
       ·rename_i e sz tag l J m L M N;obtain⟨g1,g2,g3,g4,g5⟩:=h;refine⟨g1,g2,g3,g4,?_⟩;have F:xP (fr.put (some d) v) tag l=xP fr tag l:=rfl;rw[F] at g5
        split at g5
        ·rename_i u;rw[cL u]
         have:grown (fr.put (some d) v) p tag l m=(grown fr p tag l m).put (some d) v:=by
          have:=congrArg Fr.env (A7 fr A.symm v (.slice (.loc p (fr.gN p+1)) (l++m)));simp only[grown,Fr.put] at this|-;rw[this]
         show K ((grown fr p tag l m).put (some d) v) H;rw[<-this];exact g5
        ·rename_i u;rw[cJ u];refine⟨g5.1,?_⟩;show K ((fr.put (some p) (.slice .pw l)).put (some d) v) H;rw[<-a];exact g5.2
       ·exact h.elim
      ·exact h.elim)
  |value f=>
   simp only[lN] at h|-
   have i:(args.toList.map λx=>(ev T (fr.put (some d) v) x).norm)=args.toList.map λx=>(ev T fr x).norm:=
    pg λx B=>by rw[j x (by simp[Op.operands,Call.operands,Ib.1 B])]
   rw[i,j f (by simp[Op.operands,Call.operands])] at h;obtain⟨r,H',L,M,N⟩:=h;refine⟨r,H',L,M,?_⟩;rw[<-a];exact N
  |invoke r m=>exact h
 |_=>
  simp only[lN] at h|-;rw[C] at h
  split at h
  ·rw[<-a];exact h
  ·exact h.elim
end
end Go.tq
