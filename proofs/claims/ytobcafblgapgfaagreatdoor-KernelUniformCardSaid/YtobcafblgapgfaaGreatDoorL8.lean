/- Part of the proof of KernelUniform: layer. -/
import Derived.Test.YtobcafblgapgfaaGreatDoorL7
set_option linter.all false
namespace Go.mS
open Go Go.hJ
def Ay(P:Program)(t:TypeId)(s x:AV)(d:Nat)(K:Fr->eD->Prop)(fr:Fr)(H:eD):Prop:=
 match qG P t,s,x with
 |some (_,sz),.slice tag l,.slice _ m=>
  mv sz l=true/\mv sz m=true/\l.length+m.length<=nt/\(if pL fr tag l=true then K (grown fr d tag l m) H else m=[]/\K (fr.put (some d) (.slice .iN l)) H)
 |_,_,_=>False
def Fl{P:Program}{T:fg}{x y:Operand}{t d:Nat}{K:Fr->eD->Prop}{fr:Fr}{H:eD}:nL P T {callee:=.builtin .append,args:=#[x,y],argTypes:=#[t,t]} (some d) K fr H=Ay P t (ev T fr x) (ev T fr y) d K fr H:=by
 unfold nL Ay;simp only;cases qG P t with
 |none=>rfl|some p=>
  obtain⟨e,sz⟩:=p;cases ev T fr x<;>cases ev T fr y<;>simp only[FK]
def QE(P:Program)(t:TypeId)(s x:AV)(d:Nat)(K:Fr->eD->Prop)(fr:Fr)(H:eD):Prop:=
 match qG P t,x with
 |some (e,sz),.slice _ m=>
  mv sz m=true/\(lv P e).isSome=true/\0<m.length/\match s with
  |.slice .full l=>mv sz l=true/\l.length+m.length<=nt/\∀cap,l.length+m.length<=cap->K (xY fr d (l.flatMap AV.cells++m.flatMap AV.cells++EF ((cap-(l.length+m.length))*sz)) (l.length+m.length) cap) H|.we b g len cap=>g=fr.gen b/\len+m.length<=nt/\match fr.box b with
   |some cs=>cs.length=cap*sz/\(len+m.length<=cap->K {fr with env:=hQ fr.env d (.we b g (len+m.length) cap),box:=hQ fr.box b (some (setCells cs (len*sz) (m.flatMap AV.cells)))} H)/\(∀a,cap<len+m.length->len+m.length<=a->K (xY fr d (cs.take (len*sz)++m.flatMap AV.cells++EF ((a-(len+m.length))*sz)) (len+m.length) a) H)|none=>False
  |_=>False
 |_,_=>False
def Nl{P:Program}{T:fg}{x y:Operand}{t d:Nat}{K:Fr->eD->Prop}{fr:Fr}{H:eD}:BW P T {callee:=.builtin .append,args:=#[x,y],argTypes:=#[t,t]} (some d) K fr H=QE P t (ev T fr x) (ev T fr y) d K fr H:=by
 unfold BW QE;simp only;cases qG P t with
 |none=>rfl|some p=>
  obtain⟨e,sz⟩:=p;cases ev T fr y<;>simp only[FK];cases ev T fr x<;>rfl
def si(P:Program)(t:TypeId)(s x:AV)(d:Nat)(K:Fr->eD->Prop)(fr:Fr)(H:eD):Prop:=Ay P t s x d K fr H\/QE P t s x d K fr H
def JU{P:Program}{T:fg}{x y:Operand}{t d:Nat}{K:Fr->eD->Prop}{fr:Fr}{H:eD}:BL P T {callee:=.builtin .append,args:=#[x,y],argTypes:=#[t,t]} (some d) K fr H=False:=by
 refine propext ⟨λh=>?_,False.elim⟩;unfold BL at h;simp only at h
 split at h
 ·rename_i b a _ _;obtain⟨_,_,hu,_⟩:=o9 b;rw[hu] at a;cases a
 ·exact h
def iM(tx:Nat->Option Nat)(fN:Nat->Nat)(D:List Nat)(tag:Tag)(n:Nat):Prop:=
 tag=.full\/∃k g,k∈D/\tag=.loc k g/\g=fN k/\tx k=some n
def iM.full{tx:Nat->Option Nat}{fN:Nat->Nat}{D:List Nat}{n:Nat}:iM tx fN D .full n:=.inl rfl
def iM.new{tx:Nat->Option Nat}{fN:Nat->Nat}{D:List Nat}{n d:Nat}(h:d∈D):iM (hQ tx d (some n)) (hQ fN d (fN d+1)) D (.loc d (fN d+1)) n:=
 .inr ⟨d,_,h,rfl,by simp[hQ],by simp[hQ]⟩
def iM.other{tx:Nat->Option Nat}{fN:Nat->Nat}{D D':List Nat}{tag a:Tag}{n n' d:Nat}{x:Option Nat}{y:Nat}(h:iM tx fN D tag n)(j:iM tx fN D' a n')
  (l:∀k,k∈D->k∉D') (f:d∉D):iM (hQ (uk a tx) d x) (hQ fN d y) D tag n:=by
 rcases h with h|⟨k,g,b,m,o,i⟩
 ·exact .inl h
 ·refine .inr ⟨k,g,b,m,?_,?_⟩
  ·have:k≠d:=by rintro rfl;exact f b
   simp[hQ,this,o]
  ·have c:k≠d:=by rintro rfl;exact f b
   simp only[hQ,c,pE];rcases j with rfl|⟨k',p,e,rfl,_,_⟩
   ·exact i
   ·have:k≠k':=by rintro rfl;exact l k b e
    simp[uk,hQ,this,i]
def iM.can{fr:Fr}{D:List Nat}{tag:Tag}{l:List AV}{n:Nat}(h:iM fr.tx fr.fN D tag n)(hn:n=l.length):pL fr tag l=true:=by
 subst hn;rcases h with rfl|⟨k,g,_,rfl,a,b⟩
 ·rfl
 ·simp[pL,a,b]
def Ay.own{P:Program}{t e sz d:Nat}{s x:AV}{K:Fr->eD->Prop}{fr:Fr}{H:eD}{α:Type}{f:α->AV}(l m:List α){D:List Nat}{tag b:Tag}
  (h:iM fr.tx fr.fN D tag l.length) (g:qG P t=some (e,sz)) (i:∀x,(f x).cells.length=sz) (hlen:gf l m=true) (hs:s=.slice tag (l.map f)) (j:x=.slice b (m.map f))
  (k:K {fr with env:=hQ fr.env d (.slice (.loc d (fr.fN d+1)) ((gv l m).map f)),tx:=hQ (uk tag fr.tx) d (some (gv l m).length),fN:=hQ fr.fN d (fr.fN d+1)} H):Ay P t s x d K fr H:=by
 subst hs;subst j;have n:=LO hlen
 have c:∀l:List α,mv sz (l.map f)=true:=λl=>by cases l with|nil=>rfl|cons a l=>simp[mv,i]
 unfold Ay;rw[g];refine⟨c l,c m,by simpa[nt,Kw] using n,?_⟩;rw[ee (h.can (by simp))]
 have o:l.map f++m.map f=(gv l m).map f:=by simp[gv]
 have p:(l.map f).length+(m.map f).length=(gv l m).length:=by simp[yK]
 unfold grown;rw[o,p];exact k
def si.own{P:Program}{t e sz d:Nat}{s x:AV}{K:Fr->eD->Prop}{fr:Fr}{H:eD}{α:Type}{f:α->AV}(l m:List α){D:List Nat}{tag a:Tag}
  (h:iM fr.tx fr.fN D tag l.length) (b:qG P t=some (e,sz)) (c:∀x,(f x).cells.length=sz) (hlen:gf l m=true) (hs:s=.slice tag (l.map f)) (g:x=.slice a (m.map f))
  (i:K {fr with env:=hQ fr.env d (.slice (.loc d (fr.fN d+1)) ((gv l m).map f)),tx:=hQ (uk tag fr.tx) d (some (gv l m).length),fN:=hQ fr.fN d (fr.fN d+1)} H):si P t s x d K fr H:=
 .inl (Ay.own l m h b c hlen hs g i)
def mW(P:Program)(T:fg)(E:List Nat)(ops:Array Oper)(a:AV)(as:List AV)(d:Option Nat)(rest:List Oper)(K:Fr->eD->Prop)(fr:Fr)(H:eD):Prop:=
 rb P T a as H λr H'=>jn P T E ops rest K (fr.put d r) H'
def Ct(P:Program)(T:fg)(E:List Nat)(ops:Array Oper)(q:Bool)(a:AV)(as:List AV)(d:Option Nat)(rest:List Oper)(K:Fr->eD->Prop)(fr:Fr)(H:eD):Prop:=
 ∃r H',qj P T a as H r H'/\(q=true->H'=H)/\rW P T E ops q rest K (fr.put d r) H'
section
variable{P:Program} {T:fg} {E:List Nat} {ops:Array Oper} {q:Bool} {rest:List Oper} {K:Fr->eD->Prop} {fr:Fr} {H H':eD} {d:Option Nat} {ty:TypeId} {pos:String} {after:Array Edge}
def mW.fn{g:FuncId}{as:List AV}{r:AV}(h:e9 P T g as H r H')(a:jn P T E ops rest K (fr.put d r) H'):mW P T E ops (.func (.func g) [] []) as d rest K fr H:=by
 unfold mW rb;simp only[oh,Ah];exact h.post a
def mW.SX{g:FuncId}{b c as a:List AV}{r:AV}(e:b++as++c=a)(h:e9 P T g a H r H')(f:jn P T E ops rest K (fr.put d r) H'):mW P T E ops (.func (.func g) b c) as d rest K fr H:=by
 subst e;unfold mW rb;exact h.post f
def Ct.fn{g:FuncId}{as:List AV}{r:AV}(h:e9 P T g as H r H')(a:q=true->H'=H)(b:rW P T E ops q rest K (fr.put d r) H'):Ct P T E ops q (.func (.func g) [] []) as d rest K fr H:=by
 refine⟨r,H',?_,a,b⟩;unfold qj rb;simp only[oh,Ah];exact h
@[simp] theorem YV:jn P T E ops [] K fr H=K fr H:=rfl
@[simp] theorem Xv:rW P T E ops q [] K fr H=K fr H:=rfl
@[simp] theorem Xj{x:Operand}:jn P T E ops ({dst:=d,op:=.move x,type:=ty,pos:=pos,after:=after,guard:=none}::rest) K fr H=jn P T E ops rest K (fr.put d (ev T fr x)) H:=rfl
@[simp] theorem Uk{x:Operand}:jn P T E ops ({dst:=d,op:=.assign x,type:=ty,pos:=pos,after:=after,guard:=none}::rest) K fr H=jn P T E ops rest K (fr.put d (ev T fr x)) H:=rfl
@[simp] theorem Wg{t:TypeId}:jn P T E ops ({dst:=d,op:=.alloc t,type:=ty,pos:=pos,after:=after,guard:=none}::rest) K fr H=match lv P t with|some z=>la E d z (jn P T E ops rest K) fr H|none=>False:=rfl
@[simp] theorem Zu{t:TypeId}{x:Operand}:jn P T E ops ({dst:=d,op:=.box t x,type:=ty,pos:=pos,after:=after,guard:=none}::rest) K fr H=(fX (ev T fr x)=true/\la E d (ev T fr x).cells (jn P T E ops rest K) fr H):=rfl
@[simp] theorem W'{t:TypeId}{x:Operand}:jn P T E ops ({dst:=d,op:=.load t x,type:=ty,pos:=pos,after:=after,guard:=none}::rest) K fr H=match ua P fr H t (ev T fr x)with|some v=>jn P T E ops rest K (fr.put d v) H|none=>False:=rfl
@[simp] theorem Vx{t:TypeId}{x y:Operand}:jn P T E ops ({dst:=none,op:=.store t x y,type:=ty,pos:=pos,after:=after,guard:=none}::rest) K fr H=nj P t (ev T fr x) (ev T fr y) (jn P T E ops rest K) fr H:=by simp[jn,BO,sn]
@[simp] theorem P2{t n:Nat}{ps:Array (Nat×Operand)}:jn P T E ops ({dst:=d,op:=.buildSlice t n ps,type:=ty,pos:=pos,after:=after,guard:=none}::rest) K fr H=match nA P t n (ps.toList.map λp=>(p.1,ev T fr p.2))with|some v=>Fy E d v (jn P T E ops rest K) fr H|none=>False:=rfl
@[simp] theorem XB{E:List Nat}{d:Option Nat}{v:AV}{K:Fr->eD->Prop}{fr:Fr}{H:eD}:Fy E d v K fr H=if d.any E.contains=true then(match v with|.slice _ l=>K (fr.put d (.yZ H.length 0 l.length l.length)) (H++[l.flatMap AV.cells])|_=>False)else K (fr.put d v) H:=rfl
@[simp] theorem Uz{x y:Operand}{t d:Nat}:jn P T E ops ({dst:=some d,op:=.call {callee:=.builtin .append,args:=#[x,y],argTypes:=#[t,t]},type:=ty,pos:=pos,after:=after,guard:=none}::rest) K fr H=si P t (ev T fr x) (ev T fr y) d (jn P T E ops rest K) fr H:=by
 simp only[jn,BO,sn];unfold si;rw[<-Fl (T:=T),<-Nl (T:=T),JU,sN]
@[simp] theorem Xa{f:Operand}{as:Array Operand}{ts:Array TypeId}:jn P T E ops ({dst:=d,op:=.call {callee:=.value f,args:=as,argTypes:=ts},type:=ty,pos:=pos,after:=after,guard:=none}::rest) K fr H=mW P T E ops (ev T fr f) (as.toList.map λx=>(ev T fr x).norm) d rest K fr H:=rfl
@[simp] theorem Zb{as:Array Operand}{ts:Array TypeId}:jn P T E ops ({dst:=d,op:=.call {callee:=.builtin .len,args:=as,argTypes:=ts},type:=ty,pos:=pos,after:=after,guard:=none}::rest) K fr H=match vL P T fr {callee:=.builtin .len,args:=as,argTypes:=ts}with|some v=>jn P T E ops rest K (fr.put d v) H|none=>False:=rfl
@[simp] theorem Zm{as:Array Operand}{ts:Array TypeId}:jn P T E ops ({dst:=d,op:=.call {callee:=.builtin .max,args:=as,argTypes:=ts},type:=ty,pos:=pos,after:=after,guard:=none}::rest) K fr H=match vL P T fr {callee:=.builtin .max,args:=as,argTypes:=ts}with|some v=>jn P T E ops rest K (fr.put d v) H|none=>False:=rfl
@[simp] theorem Xy{c a b:Operand}:jn P T E ops ({dst:=d,op:=.pick c a b,type:=ty,pos:=pos,after:=after,guard:=none}::rest) K fr H=match ya P T fr {dst:=d,op:=.pick c a b,type:=ty,pos:=pos,after:=after,guard:=none}with|some v=>jn P T E ops rest K (fr.put d v) H|none=>False:=rfl
@[simp] theorem Vi{t:TypeId}{ps:Array (Nat×Operand)}:jn P T E ops ({dst:=d,op:=.build t ps,type:=ty,pos:=pos,after:=after,guard:=none}::rest) K fr H=match CY P t (ps.toList.map λp=>(p.1,ev T fr p.2))with|some v=>jn P T E ops rest K (fr.put d v) H|none=>False:=rfl
@[simp] theorem Wp{o:BinOp}{t u:TypeId}{x y:Operand}:jn P T E ops ({dst:=d,op:=.binOp o t x y u,type:=ty,pos:=pos,after:=after,guard:=none}::rest) K fr H=match Jg P o t y (ev T fr x) (ev T fr y)with|some v=>jn P T E ops rest K (fr.put d v) H|none=>False:=rfl
@[simp] theorem Xs{o:UnOp}{t:TypeId}{x:Operand}:jn P T E ops ({dst:=d,op:=.unOp o t x,type:=ty,pos:=pos,after:=after,guard:=none}::rest) K fr H=match W7 o (ev T fr x)with|some v=>jn P T E ops rest K (fr.put d v) H|none=>False:=rfl
@[simp] theorem Sw{fn:Fn}{f c:Array Operand}:jn P T E ops ({dst:=d,op:=.makeFunc fn f c,type:=ty,pos:=pos,after:=after,guard:=none}::rest) K fr H=jn P T E ops rest K (fr.put d (.func fn (f.toList.map λx=>(ev T fr x).norm) (c.toList.map λx=>(ev T fr x).norm))) H:=rfl
@[simp] theorem Qm{t i:Nat}{x:Operand}:jn P T E ops ({dst:=d,op:=.fieldAddr t x i,type:=ty,pos:=pos,after:=after,guard:=none}::rest) K fr H=match rh P t (ev T fr x) i with|some v=>jn P T E ops rest K (fr.put d v) H|none=>False:=rfl
@[simp] theorem U8{t i:Nat}{x:Operand}:jn P T E ops ({dst:=d,op:=.field t x i,type:=ty,pos:=pos,after:=after,guard:=none}::rest) K fr H=match Be P t (ev T fr x) i with|some v=>jn P T E ops rest K (fr.put d v) H|none=>False:=rfl
@[simp] theorem Qy{t:TypeId}{x i:Operand}:jn P T E ops ({dst:=d,op:=.indexAddr t x i,type:=ty,pos:=pos,after:=after,guard:=none}::rest) K fr H=match gN P t (ev T fr x) (ev T fr i)with|some v=>jn P T E ops rest K (fr.put d v) H|none=>False:=rfl
@[simp] theorem V1{t:TypeId}{x:Operand}{lo hi a:Option Operand}:jn P T E ops ({dst:=d,op:=.slice t x lo hi a,type:=ty,pos:=pos,after:=after,guard:=none}::rest) K fr H=match qe P t (ev T fr x) (lo.map (ev T fr)) (hi.map (ev T fr)) (a.map (ev T fr))with|some v=>jn P T E ops rest K (fr.put d v) H|none=>False:=rfl
@[simp] theorem S0{i:Nat}{x:Operand}:jn P T E ops ({dst:=d,op:=.extract x i,type:=ty,pos:=pos,after:=after,guard:=none}::rest) K fr H=match ya P T fr {dst:=d,op:=.extract x i,type:=ty,pos:=pos,after:=after,guard:=none}with|some v=>jn P T E ops rest K (fr.put d v) H|none=>False:=rfl
@[simp] theorem Sv{x:Operand}:jn P T E ops ({dst:=d,op:=.nilCheck x,type:=ty,pos:=pos,after:=after,guard:=none}::rest) K fr H=match ya P T fr {dst:=d,op:=.nilCheck x,type:=ty,pos:=pos,after:=after,guard:=none}with|some v=>jn P T E ops rest K (fr.put d v) H|none=>False:=rfl
@[simp] theorem T3{t:TypeId}:jn P T E ops ({dst:=d,op:=.makeMap t none,type:=ty,pos:=pos,after:=after,guard:=none}::rest) K fr H=Gn d (jn P T E ops rest K) fr H:=rfl
@[simp] theorem Ri{t:TypeId}{x i y:Operand}:jn P T E ops ({dst:=none,op:=.mapUpdate t x i y,type:=ty,pos:=pos,after:=after,guard:=none}::rest) K fr H=sw P t (ev T fr x) (ev T fr i) (ev T fr y) (jn P T E ops rest K) fr H:=by simp[jn,BO,sn]
@[simp] theorem UE{t:TypeId}{x i y:Operand}:jn P T E ops ({dst:=none,op:=.insert t x i y,type:=ty,pos:=pos,after:=after,guard:=none}::rest) K fr H=sw P t (ev T fr x) (ev T fr i) (ev T fr y) (jn P T E ops rest K) fr H:=by simp[jn,BO,sn]
@[simp] theorem U'{t:TypeId}{x:Operand}:jn P T E ops ({dst:=d,op:=.range t x,type:=ty,pos:=pos,after:=after,guard:=none}::rest) K fr H=GY P t (ev T fr x) d (jn P T E ops rest K) fr H:=rfl
@[simp] theorem WJ{x:Operand}:jn P T E ops ({dst:=d,op:=.entry x,type:=ty,pos:=pos,after:=after,guard:=none}::rest) K fr H=match C_ (ev T fr x) H with|some v=>jn P T E ops rest K (fr.put d v) H|none=>False:=rfl
@[simp] theorem OI{x:Operand}:jn P T E ops ({dst:=d,op:=.next x false,type:=ty,pos:=pos,after:=after,guard:=none}::rest) K fr H=I9 (ev T fr x) d (jn P T E ops rest K) fr H:=rfl
@[simp] theorem VV{op:Op}{j:Nat}{want:Bool}:jn P T E ops ({dst:=d,op:=op,type:=ty,pos:=pos,after:=after,guard:=some (j,want)}::rest) K fr H=match(ops[j]?).bind (·.dst)with
 |some g=>match fr.env g with
  |.sc (.bool b)=>if b=want then jn P T E ops ({dst:=d,op:=op,type:=ty,pos:=pos,after:=after,guard:=none}::rest) K fr H else jn P T E ops rest K (fr.put d (.tuple [])) H|.tuple _=>jn P T E ops rest K (fr.put d (.tuple [])) H|_=>False
 |none=>False:=rfl
@[simp] theorem WN{x:Operand}:rW P T E ops q ({dst:=d,op:=.move x,type:=ty,pos:=pos,after:=after,guard:=none}::rest) K fr H=rW P T E ops q rest K (fr.put d (ev T fr x)) H:=rfl
@[simp] theorem VG{t:TypeId}{x:Operand}:rW P T E ops q ({dst:=d,op:=.load t x,type:=ty,pos:=pos,after:=after,guard:=none}::rest) K fr H=if re ops.toList x (ev T fr x)&&(q||!UG (ev T fr x))then(match ua P fr H t (ev T fr x)with|some v=>rW P T E ops q rest K (fr.put d v) H|none=>False)else False:=by
 simp only[rW,nc,jX,ib,pC,PC,KL]
 split
 ·rename_i v a
  split at a
  ·rename_i b;rw[ee b,a]
  ·cases a
 ·rename_i a
  split at a
  ·rename_i b;rw[ee b,a]
  ·rename_i b;rw[ea b]
@[simp] theorem Wq{f:Operand}{as:Array Operand}{ts:Array TypeId}:rW P T E ops q ({dst:=d,op:=.call {callee:=.value f,args:=as,argTypes:=ts},type:=ty,pos:=pos,after:=after,guard:=none}::rest) K fr H=Ct P T E ops q (ev T fr f) (as.toList.map λx=>(ev T fr x).norm) d rest K fr H:=by
 simp only[rW,nc,jX,ib,SF,Ct]
@[simp] theorem Ux{o:BinOp}{t u:TypeId}{x y:Operand}:rW P T E ops q ({dst:=d,op:=.binOp o t x y u,type:=ty,pos:=pos,after:=after,guard:=none}::rest) K fr H=match Jg P o t y (ev T fr x) (ev T fr y)with|some v=>rW P T E ops q rest K (fr.put d v) H|none=>False:=rfl
@[simp] theorem P1{t i:Nat}{x:Operand}:rW P T E ops q ({dst:=d,op:=.fieldAddr t x i,type:=ty,pos:=pos,after:=after,guard:=none}::rest) K fr H=match rh P t (ev T fr x) i with|some v=>rW P T E ops q rest K (fr.put d v) H|none=>False:=rfl
@[simp] theorem P8{x:Operand}:rW P T E ops q ({dst:=d,op:=.nilCheck x,type:=ty,pos:=pos,after:=after,guard:=none}::rest) K fr H=match ya P T fr {dst:=d,op:=.nilCheck x,type:=ty,pos:=pos,after:=after,guard:=none}with|some v=>rW P T E ops q rest K (fr.put d v) H|none=>False:=rfl
end
@[simp] theorem Fr.Y6(fr:Fr)(d:Nat)(x:AV):fr.put (some d) x={fr with env:=hQ fr.env d x}:=rfl
@[simp] theorem ZQ{α:Type}(f:Nat->α)(i:Nat)(x:α)(j:Nat):hQ f i x j=if j=i then x else f j:=rfl
@[simp] theorem Zt(v:Value):AV.cells (.sc v:AV)=[(.sc v:AV)]:=rfl
@[simp] theorem Un(v:Value):fX (.sc v:AV)=true:=rfl
@[simp] theorem XF(v:Value):AV.lr (.sc v:AV)=(.sc v:AV):=rfl
@[simp] theorem ZR(v:Value):AV.norm (.sc v:AV)=(.sc v:AV):=rfl
@[simp] theorem SE(P:Program)(ty:TypeId)(v:Value):ss P ty (.sc v:AV)=match gz P ty with|some (false,_)=>true|_=>false:=by
 unfold ss;cases gz P ty with
 |none=>rfl|some p=>obtain⟨b,k⟩:=p;cases b<;>rfl
@[simp] theorem Xh(b g o c:Nat):AV.cells (.we b g o c:AV)=[(.we b g o c:AV)]:=rfl
@[simp] theorem S'(b g o c:Nat):fX (.we b g o c:AV)=true:=rfl
@[simp] theorem WG(o f:Nat):AV.cells (.fE o f:AV)=[(.fE o f:AV)]:=rfl
@[simp] theorem Xw(o f:Nat):AV.norm (.fE o f:AV)=(.fE o f:AV):=rfl
@[simp] theorem ON(P:Program)(ty:TypeId)(o f:Nat):ss P ty (.fE o f:AV)=match gz P ty with|some (false,_)=>true|_=>false:=by
 unfold ss;cases gz P ty with
 |none=>rfl|some p=>obtain⟨b,k⟩:=p;cases b<;>rfl
@[simp] theorem WV(o:Nat):AV.cells (.nZ o:AV)=[(.nZ o:AV)]:=rfl
@[simp] theorem Sx(o:Nat):fX (.nZ o:AV)=true:=rfl
@[simp] theorem Vl(o:Nat):AV.lr (.nZ o:AV)=(.nZ o:AV):=rfl
@[simp] theorem Xe(o:Nat):AV.norm (.nZ o:AV)=(.nZ o:AV):=rfl
@[simp] theorem Xm(o s l c:Nat):AV.cells (.yZ o s l c:AV)=[(.yZ o s l c:AV)]:=rfl
@[simp] theorem SW(o s l c:Nat):fX (.yZ o s l c:AV)=true:=rfl
@[simp] theorem Xd(o s l c:Nat):AV.lr (.yZ o s l c:AV)=(.yZ o s l c:AV):=rfl
@[simp] theorem Se{P:Program}{t:TypeId}{k:IntKind}{a:Int}{b s n c:Nat}:gN P t (.yZ b s n c) (.sc (.int k a))=match P.underlying t with
  |some (.slice e)=>match gz P e with
   |some (_,sz)=>if 0<=a/\a<(n:Int)then some (.fE b (s+a.toNat*sz))else none|none=>none
  |_=>none:=by
 unfold gN;cases P.underlying t with
 |none=>rfl|some y=>cases y<;>rfl
@[simp] theorem Xu:vX []=false:=rfl
@[simp] theorem VQ(c:AV)(cs:List AV):vX (c::cs)=c.hX:=rfl
@[simp] theorem YS(v:Value):AV.hX (.sc v)=true:=rfl
@[simp] theorem Ue(t:Tag)(l:List AV):AV.hX (.slice t l)=true:=rfl
@[simp] theorem VT(f:Fn)(a c:List AV):AV.hX (.func f a c)=true:=rfl
@[simp] theorem Uh(t:Tag)(l:List AV):AV.cells (.slice t l:AV)=[(.slice t l:AV)]:=rfl
@[simp] theorem Q8(t:Tag)(l:List AV):fX (.slice t l:AV)=true:=rfl
@[simp] theorem Um(t:Tag)(l:List AV):AV.lr (.slice t l:AV)=.slice .iN l:=rfl
@[simp] theorem VX(t:Tag)(l:List AV):AV.norm (.slice t l:AV)=.slice .iN l:=rfl
@[simp] theorem VI(P:Program)(ty:TypeId)(t:Tag)(l:List AV):ss P ty (.slice t l:AV)=match gz P ty with|some (false,_)=>true|_=>false:=by
 unfold ss;cases gz P ty with
 |none=>rfl|some p=>obtain⟨b,k⟩:=p;cases b<;>rfl
@[simp] theorem W_(cs:List AV):AV.cells (.agg cs:AV)=cs:=rfl
@[simp] theorem Tw(cs:List AV):fX (.agg cs:AV)=true:=rfl
@[simp] theorem YU(cs:List AV):AV.norm (.agg cs:AV)=.agg (cs.map AV.lr):=rfl
@[simp] theorem uI(P:Program)(ty:TypeId)(cs:List AV):ss P ty (.agg cs)=match gz P ty with|some (true,n)=>cs.length==n|_=>false:=by
 unfold ss;cases gz P ty with
 |none=>rfl|some p=>obtain⟨b,k⟩:=p;cases b<;>rfl
@[simp] theorem WX(f:Fn)(a c:List AV):AV.cells (.func f a c:AV)=[(.func f a c:AV)]:=rfl
@[simp] theorem Sy(f:Fn)(a c:List AV):fX (.func f a c:AV)=true:=rfl
@[simp] theorem UY(f:Fn)(a c:List AV):AV.lr (.func f a c:AV)=(.func f a c:AV):=rfl
@[simp] theorem XD(f:Fn)(a c:List AV):AV.norm (.func f a c:AV)=(.func f a c:AV):=rfl
@[simp] theorem UF(sz:Nat)(x:AV)(l:List AV):mv sz (x::l)=(x.cells.length==sz):=rfl
def gj(H:eD)(o:Nat)(c:List AV):eD:=H.set o c
@[simp] theorem Xr{H:eD}{o:Nat}{x y:List AV}:gj (gj H o x) o y=gj H o y:=by simp[gj]
@[simp] theorem Uo{H:eD}{o:Nat}{x:List AV}:(gj H o x).length=H.length:=by simp[gj]
section
variable{P:Program} {t:TypeId} {k k':IntKind} {a b:Int} {u v:ByteArray} {p q:Bool}
@[simp] theorem X9{i:Nat}{u v:AV}{op:BinOp}:Jg P op t (.tmp i) u v=n5 P op t u v:=rfl
@[simp] theorem Y9{i:Int}{u v:AV}{op:BinOp}:Jg P op t (.const (.int k i)) u v=n5 P op t u v:=rfl
@[simp] theorem Yc{i:Option Addr}{u v:AV}{op:BinOp}:Jg P op t (.const (.pointer i)) u v=n5 P op t u v:=rfl
@[simp] theorem Y4:n5 P .add t (.sc (.int k a)) (.sc (.int k b))=some (.sc (.int k (fj k a b))):=by simp[n5,rv,qQ,fj]
@[simp] theorem X_:n5 P .sub t (.sc (.int k a)) (.sc (.int k b))=some (.sc (.int k (fB k a b))):=by simp[n5,rv,qQ,fB]
@[simp] theorem XN:n5 P .mul t (.sc (.int k a)) (.sc (.int k b))=some (.sc (.int k (JW k a b))):=by simp[n5,rv,qQ,JW]
@[simp] theorem Zi:n5 P .rem t (.sc (.int k a)) (.sc (.int k b))=if IM b=true then some (.sc (.int k (RK k a b)))else none:=by
 by_cases h:b=0<;>simp[n5,rv,qQ,RK,IM,h]
@[simp] theorem YC:n5 P .and t (.sc (.int k a)) (.sc (.int k b))=some (.sc (.int k (qA k a b))):=by simp[n5,rv,qQ,qA]
@[simp] theorem ZL:n5 P .or t (.sc (.int k a)) (.sc (.int k b))=some (.sc (.int k (xm k a b))):=by simp[n5,rv,qQ,xm]
@[simp] theorem Yi:n5 P .shl t (.sc (.int k a)) (.sc (.int k' b))=if Iq b=true then some (.sc (.int k (QN k a b)))else none:=by
 by_cases h:b<0<;>simp[n5,rv,QN,Iq,h]
@[simp] theorem Zw:n5 P .shr t (.sc (.int k a)) (.sc (.int k' b))=if Iq b=true then some (.sc (.int k (RF k a b)))else none:=by
 by_cases h:b<0<;>simp[n5,rv,RF,Iq,h]
@[simp] theorem Ys:n5 P .eql t (.sc (.int k a)) (.sc (.int k b))=some (.sc (.bool (eH a b))):=by simp[n5,rv,qQ,eH]
@[simp] theorem XY:n5 P .neq t (.sc (.int k a)) (.sc (.int k b))=some (.sc (.bool (eW a b))):=by simp[n5,rv,qQ,eW]
@[simp] theorem XO:n5 P .lss t (.sc (.int k a)) (.sc (.int k b))=some (.sc (.bool (tW a b))):=by simp[n5,rv,qQ,tW]
@[simp] theorem Yf:n5 P .leq t (.sc (.int k a)) (.sc (.int k b))=some (.sc (.bool (Jx a b))):=by simp[n5,rv,qQ,Jx]
@[simp] theorem Zz:n5 P .gtr t (.sc (.int k a)) (.sc (.int k b))=some (.sc (.bool (nS a b))):=by simp[n5,rv,qQ,nS]
@[simp] theorem XT:n5 P .geq t (.sc (.int k a)) (.sc (.int k b))=some (.sc (.bool (tq a b))):=by simp[n5,rv,qQ,tq]
@[simp] theorem YW:n5 P .neq t (.sc (.bool p)) (.sc (.bool q))=match P.underlying t with|some .bool=>some (.sc (.bool (WZ p q)))|_=>none:=by
 unfold n5 rv WZ;cases P.underlying t with
 |none=>rfl|some y=>cases y<;>rfl
@[simp] theorem ZT:W7 .not (.sc (.bool p))=some (.sc (.bool (nC p))):=by simp[W7,nC]
@[simp] theorem Xq:N7 (.sc (.int k a)) (.sc (.int k' b))=some (.sc (.int k (imax a b))):=rfl
@[simp] theorem X2{α:Type}{f:α->AV}{tag:Tag}{l:List α}:Ib P t (.slice tag (l.map f))=match P.underlying t with|some (.slice _)=>some (.sc (.int .i64 (eM l)))|some (.array n _)=>some (.sc (.int .i64 n))|_=>none:=by
 unfold Ib eM;cases P.underlying t with
 |none=>rfl|some y=>cases y<;>simp
@[simp] theorem Yr{tag:Tag}:Ib P t (.slice tag [])=match P.underlying t with|some (.slice _)=>some (.sc (.int .i64 0))|some (.array n _)=>some (.sc (.int .i64 n))|_=>none:=by
 unfold Ib;cases P.underlying t with
 |none=>rfl|some y=>cases y<;>rfl
@[simp] theorem Sc{α:Type}{f:α->AV}{tag:Tag}{l:List α}:gN P t (.slice tag (l.map f)) (.sc (.int k a))=match P.underlying t with
  |some (.slice e)=>match eI l a,gz P e with
   |some x,some (_,sz)=>if(f x).cells.length=sz then some (.na (f x))else none|_,_=>none
  |_=>none:=by
 unfold gN eI;cases P.underlying t with
 |none=>rfl|some y=>
  cases y<;>try rfl
  rename_i e;simp only[ur]
  by_cases h:0<=a
  ·rw[ee h,ee h];cases l[a.toNat]?with
   |none=>rfl|some x=>cases gz P e<;>rfl
  ·rw[ea h,ea h]
def FM{α:Type}{f:α->AV}{L:List α}{n e:Nat}(hu:P.underlying t=some (.array n e))(c:gz P e=some (false,1))(hn:L.length=n):gN P t (.na (.agg (L.map f))) (.sc (.int k a))=(eI L a).map λx=>.na (f x):=by
 unfold gN eI;simp only[hu,c,VP];unfold mY;simp only[c,AV.cells]
 by_cases h:0<=a
 ·rw[ee h]
  by_cases d:a<n
  ·rw[ee ⟨h,d⟩];simp only[ur];cases L[a.toNat]?<;>rfl
  ·rw[ea (λb=>d b.2),RH (by omega)];rfl
 ·rw[ea h,ea (λb=>h b.1)];rfl
end
attribute [simp] ev ofValue qR z_ la Gn ua mY rh Be CY Ee nA setCells CK IQ vL ya
 re Df rootOf UG ZU ZK Ie uM G5
@[simp] theorem UM{P:Program}{t:TypeId}{b g off:Nat}{v:AV}{K:Fr->eD->Prop}{fr:Fr}{H:eD}:nj P t (.eB b g off) v K fr H=match gz P t with
  |none=>False|some (_,n)=>match fr.box b with
   |some cs=>g=fr.gen b/\v.cells.length=n/\off+n<=cs.length/\fX v=true/\K {fr with box:=hQ fr.box b (some (setCells cs off v.cells))} H|none=>False:=by
 unfold nj;cases gz P t with
 |none=>rfl|some p=>rfl
@[simp] theorem UN{P:Program}{t:TypeId}{o off:Nat}{v:AV}{K:Fr->eD->Prop}{fr:Fr}{H:eD}:nj P t (.fE o off) v K fr H=match gz P t with
  |none=>False|some (_,n)=>match H[o]?with
   |some cs=>vX cs=true/\v.cells.length=n/\off+n<=cs.length/\fX v=true/\K fr (H.set o (setCells cs off v.norm.cells))|none=>False:=by
 unfold nj;cases gz P t with
 |none=>rfl|some p=>rfl
def gI.Lt{P:Program}{T:fg}{n:Nat}{Q:Exit->Fr->eD->Prop}{fr:Fr}{H:eD}{c:Code}(I:Nat->Fr->eD->Prop)(m:Nat)(g:I m fr H)
  (h:∀m fr H,I m fr H->∀K:Fr->eD->Prop,(∀fr' H' a,a<m->I a fr' H'->K fr' H')->gI P T n c (G5 K Q) fr H):gI P T n (.loop c) Q fr H:=by
 refine gI.loop ?_
 have key:∀k fr H,I k fr H->Vy P T n c Q fr H:=by
  intro k
  induction k using Nat.strongRecOn with
  |_ k i=>
   intro fr H j;refine Vy.round (gI.mono (h k fr H j (λfr' H'=>∃a,a<k/\I a fr' H') λfr' H' a b d=>⟨a,b,d⟩) ?_);intro e fr' H' f;cases e with
   |normal=>obtain⟨a,b,d⟩:=f;exact i a b fr' H' d
   |_=>exact f
 exact key m fr H g
def Jk(v:AV)(A B:Prop):Prop:=match v with|.sc (.bool t)=>if t=true then A else B|_=>False
@[simp] theorem Ur(t:Bool)(A B:Prop):Jk (.sc (.bool t)) A B=if t=true then A else B:=rfl
section
variable{P:Program} {T:fg} {n:Nat} {Q:Exit->Fr->eD->Prop} {fr:Fr} {H:eD}
def gI.tM{c:Operand}{x y:Code}
  (h:∀A B:Fr->eD->Prop,(∀fr H,gI P T n x Q fr H->A fr H)->(∀fr H,gI P T n y Q fr H->B fr H)->Jk (ev T fr c) (A fr H) (B fr H)) (d:jT c=true:=by rfl):gI P T n (.cond c x y) Q fr H:=by
 have a:=h (gI P T n x Q) (gI P T n y Q) (λ_ _ h=>h) (λ_ _ h=>h);generalize e:ev T fr c=v at a;cases v with
 |sc w=>
  cases w with
  |bool t=>
   refine gI.cond e d (λb=>?_) (λb=>?_)
   ·subst b;simpa using a
   ·subst b;simpa using a
  |_=>exact a.elim
 |_=>exact a.elim
def gI.sr{id:Nat}{ops:Array Oper}{y:Code}(E:List Nat)(h:∀K:Fr->eD->Prop,(∀fr H,gI P T n y Q fr H->K fr H)->jn P T E ops ops.toList K fr H)(a:yc n ops=true:=by decide+kernel):gI P T n (.seq (.region id ops false) y) Q fr H:=
 gI.tR λK b=>gI.region E a (h K b)
def gI.Y1{x y:Code}(R:Fr->eD->Prop)(b:∀K:Fr->eD->Prop,(∀fr H,R fr H->K fr H)->gI P T n x (G5 K Q) fr H)(c:∀fr H,R fr H->gI P T n y Q fr H):gI P T n (.seq x y) Q fr H:=
 gI.seq ((b R λ_ _ h=>h).mono λe fr' H' a=>by cases e<;>first|exact c _ _ a|exact a)
end
@[simp] theorem range_one:List.range 1=[0]:=rfl
@[simp] theorem XX:List.range 2=[0,1]:=rfl
@[simp] theorem X6:List.range 3=[0,1,2]:=rfl
section
variable{P:Program} {t e sz:Nat} {bl:Bool} {tag:Tag} {α:Type} {k k' k2:IntKind} {a b:Int} {u:ByteArray}
def T5(h:0<=a):Lv (some (.sc (.int k a)))=some (some a.toNat):=by simp[Lv,h]
def TS(h:¬0<=a):Lv (some (.sc (.int k a)))=none:=by simp[Lv,h]
def Ko{x:AV}{lo hi:Option AV}(h:Lv lo=none):qe P t x lo hi none=none:=by unfold qe;rw[h]
def Ky{lo hi:Option AV}{a hi':Option Nat}(b:Lv lo=some a)(c:Lv hi=some hi')(f:α->AV)(l:List α)(hu:P.underlying t=some (.slice e))(d:gz P e=some (bl,sz))(g:∀x,(f x).cells.length=sz):qe P t (.slice tag (l.map f)) lo hi none=if hi'.getD l.length<=l.length/\a.getD 0<=hi'.getD l.length then some (.slice .iN (((l.take (hi'.getD l.length)).drop (a.getD 0)).map f))else none:=by
 have h:mv sz (l.map f)=true:=by
  cases l with
  |nil=>rfl|cons x l=>simp[mv,g x]
 unfold qe;rw[b,c];simp only[Lv,hu,d,h,Pr,F8];simp
def LZ(f:α->AV)(l:List α)(hu:P.underlying t=some (.slice e))(d:gz P e=some (bl,sz))(g:∀x,(f x).cells.length=sz):qe P t (.slice tag (l.map f)) (some (.sc (.int k a))) none none=(Bl l a (eM l)).map λr=>.slice .iN (r.map f):=by
 unfold Bl eM
 by_cases b:0<=a
 ·rw[Ky (T5 b) (hi:=none) (hi':=none) rfl f l hu d g];simp only[b,FK,Option.getD_some,Option.getD_none,As,WE]
  by_cases c:l.length<=l.length/\a.toNat<=l.length
  ·rw[ee c,ee c];rfl
  ·rw[ea c,ea c];rfl
 ·rw[Ko (TS b),ea (λh=>b h.1)];rfl
end
def xS{P:Program}{t e sz:Nat}{b:Bool}{tag:Tag}{α:Type}(f:α->AV)(l:List α)(hu:P.underlying t=some (.slice e))(a:gz P e=some (b,sz))(c:∀x,(f x).cells.length=sz):qe P t (.slice tag (l.map f)) none (some (.sc (.int .i64 (Go.hJ.eM l)))) (some (.sc (.int .i64 (Go.hJ.eM l))))=some (.slice .full (l.map f)):=by
 have h:mv sz (l.map f)=true:=by
  cases l with
  |nil=>rfl|cons x l=>simp[mv,c x]
 simp[qe,Lv,hu,a,h,Go.hJ.eM,<-List.map_take]
def sM{α:Type}(f:α->AV)(l:List (Int×α)):AV:=.tz (l.map λp=>Value.int .i64 p.1) (l.map λp=>f p.2)
@[simp] theorem YN{α:Type}(f:α->AV):sM f []=.tz [] []:=rfl
def Rp{α:Type}(l:List (Int×α))(k:Int):mapIdx (l.map λp=>Value.int .i64 p.1) (.int .i64 k)=l.findIdx? (λp=>p.1==k):=by
 unfold mapIdx;rw[List.findIdx?_map];rfl
def OT{α:Type}(l:List (Int×α)):(l.map λp=>Value.int .i64 p.1).all (Fs (.int .i64))=true:=by
 rw[k4];intro x a;obtain⟨p,_,rfl⟩:=od.1 a;rfl
def Me{α:Type}(f:α->AV):∀(l:List (Int×α)) (k:Int) (y:α),C7 (l.map λp=>Value.int .i64 p.1) (l.map λp=>f p.2) (.int .i64 k) (f y)=sM f (uo l k y)
 |[],k,y=>rfl|p::l,k,y=>by
  have a:=Me f l k y;unfold C7 at a|-;rw[Rp] at a|-;rw[W1];unfold uo
  by_cases h:p.1=k
  ·subst h;simp[sM]
  ·rw[ea (by simpa using h),ea h];cases hi:l.findIdx? (λp=>p.1==k)with
   |none=>
    rw[hi] at a;simp only[sM,AV.tz.injEq] at a;simp[sM,<-a.1,<-a.2]
   |some j=>
    rw[hi] at a;simp only[sM,AV.tz.injEq] at a;simp[sM,<-a.1,<-a.2]
section
variable{P:Program} {t kt e:TypeId} {o:Nat} {k:Int} {α:Type} {f:α->AV} {d:Option Nat} {K:Fr->eD->Prop} {fr:Fr} {H:eD}
def tP.i64(l:List (Int×α))(y:α){v:AV}(hu:P.underlying t=some (.map kt e))(a:P.underlying kt=some (.int .i64))(b:H[o]?=some [sM f l])(c:v.norm=f y)(d:K fr (gj H o [sM f (uo l k y)])):sw P t (.nZ o) (.sc (.int .i64 k)) v K fr H:=by
 unfold sw;simp only[hu,a,b];refine⟨rfl,OT l,?_⟩;rw[c,Me];exact d
end
end Go.mS
