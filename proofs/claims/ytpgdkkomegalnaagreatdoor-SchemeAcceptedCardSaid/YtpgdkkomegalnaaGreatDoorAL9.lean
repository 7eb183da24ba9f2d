/- Part of the proof of SchemeAccepted: layer. -/
import Derived.Test.YtpgdkkomegalnaaGreatDoorAL8
set_option linter.all false
namespace Go.kY
open Go Go.fH
def Cd(P:Program)(t:TypeId)(s x:AV)(d:Nat)(K:Fr->dT->Prop)(fr:Fr)(H:dT):Prop:=
 match od P t,s,x with
 |some (_,sz),.slice tag l,.slice _ m=>
  k4 sz l=true/\k4 sz m=true/\l.length+m.length<=kb/\(if oT fr tag l then K (grown fr d tag l m) H else m=[]/\K (fr.put (some d) (.slice .gx l)) H)
 |_,_,_=>False
def CH{P:Program}{T:eH}{x y:Operand}{t d:Nat}{K:Fr->dT->Prop}{fr:Fr}{H:dT}:m5 P T {callee:=.builtin .append,args:=#[x,y],argTypes:=#[t,t]} (some d) K fr H=Cd P t (ev T fr x) (ev T fr y) d K fr H:=by
 unfold m5 Cd;simp only;cases od P t with
 |none=>rfl|some p=>grind[ev]
def T9(P:Program)(t:TypeId)(s x:AV)(d:Nat)(K:Fr->dT->Prop)(fr:Fr)(H:dT):Prop:=
 match od P t,x with
 |some (e,sz),.slice _ m=>
  k4 sz m=true/\(j0 P e).isSome=true/\0<m.length/\match s with
  |.slice .full l=>k4 sz l=true/\l.length+m.length<=kb/\∀cap,l.length+m.length<=cap->K (za fr d (l.flatMap AV.cells++m.flatMap AV.cells++yr ((cap-(l.length+m.length))*sz)) (l.length+m.length) cap) H|.xb b g len cap=>g=fr.gen b/\len+m.length<=kb/\match fr.box b with
   |some cs=>cs.length=cap*sz/\(len+m.length<=cap->K {fr with env:=gz fr.env d (.xb b g (len+m.length) cap),box:=gz fr.box b (some (setCells cs (len*sz) (m.flatMap AV.cells)))} H)/\(∀a,cap<len+m.length->len+m.length<=a->K (za fr d (cs.take (len*sz)++m.flatMap AV.cells++yr ((a-(len+m.length))*sz)) (len+m.length) a) H)|none=>False
  |_=>False
 |_,_=>False
def Qd{P:Program}{T:eH}{x y:Operand}{t d:Nat}{K:Fr->dT->Prop}{fr:Fr}{H:dT}:EF P T {callee:=.builtin .append,args:=#[x,y],argTypes:=#[t,t]} (some d) K fr H=T9 P t (ev T fr x) (ev T fr y) d K fr H:=by
 unfold EF T9;simp only;cases od P t with
 |none=>rfl|some p=>grind[ev]
def Y2(P:Program)(t:TypeId)(s x:AV)(d:Nat)(K:Fr->dT->Prop)(fr:Fr)(H:dT):Prop:=
 match od P t,x with
 |some (e,sz),.slice _ m=>
  k4 sz m=true/\(j0 P e).isSome=true/\0<m.length/\match s with
  |.slice .full l=>k4 sz l=true/\l.length+m.length<=kb/\∀cap,l.length+m.length<=cap->K (fr.put (some d) (.zy H.length 0 (l.length+m.length) cap)) (H++[l.flatMap AV.cells++m.flatMap AV.cells++yr ((cap-(l.length+m.length))*sz)])|.Mw=>m.length<=kb/\∀cap,m.length<=cap->K (fr.put (some d) (.zy H.length 0 m.length cap)) (H++[m.flatMap AV.cells++yr ((cap-m.length)*sz)])|.zy o off len cap=>off=0/\len+m.length<=kb/\match H[o]?with
   |some cs=>uE cs=true/\cs.length=cap*sz/\(len+m.length<=cap->K (fr.put (some d) (.zy o 0 (len+m.length) cap)) (H.set o (setCells cs (len*sz) (m.flatMap AV.cells))))/\(∀a,cap<len+m.length->len+m.length<=a->K (fr.put (some d) (.zy H.length 0 (len+m.length) a)) (H++[cs.take (len*sz)++m.flatMap AV.cells++yr ((a-(len+m.length))*sz)]))|none=>False
  |_=>False
 |_,_=>False
def De{P:Program}{T:eH}{x y:Operand}{t d:Nat}{K:Fr->dT->Prop}{fr:Fr}{H:dT}:oX P T {callee:=.builtin .append,args:=#[x,y],argTypes:=#[t,t]} (some d) K fr H=Y2 P t (ev T fr x) (ev T fr y) d K fr H:=by
 unfold oX Y2;simp only;cases od P t with
 |none=>rfl|some p=>grind[ev]
def sQ(P:Program)(t:TypeId)(s x:AV)(d:Nat)(K:Fr->dT->Prop)(fr:Fr)(H:dT):Prop:=(Cd P t s x d K fr H\/T9 P t s x d K fr H)\/Y2 P t s x d K fr H
def L4{P:Program}{T:eH}{x y:Operand}{t d:Nat}{K:Fr->dT->Prop}{fr:Fr}{H:dT}:DM P T {callee:=.builtin .append,args:=#[x,y],argTypes:=#[t,t]} (some d) K fr H=False:=by
 refine propext ⟨λh=>?_,False.elim⟩;unfold DM at h;simp only at h
 split at h
 ·rename_i a b _ _;obtain⟨_,_,hu,_⟩:=ng a
  grind
 ·exact h
def hD(qh:Nat->Option Nat)(e8:Nat->Nat)(D:List Nat)(tag:Tag)(n:Nat):Prop:=
 tag=.full\/∃k g,k∈D/\tag=.loc k g/\g=e8 k/\qh k=some n
def hD.full{qh:Nat->Option Nat}{e8:Nat->Nat}{D:List Nat}{n:Nat}:hD qh e8 D .full n:=.inl rfl
theorem hD.new{qh:Nat->Option Nat}{e8:Nat->Nat}{D:List Nat}{n d:Nat}(h:d∈D):hD (gz qh d (some n)) (gz e8 d (e8 d+1)) D (.loc d (e8 d+1)) n:=
 .inr ⟨d,_,h,rfl,by simp[gz],by simp[gz]⟩
theorem hD.mono{qh:Nat->Option Nat}{e8:Nat->Nat}{D D':List Nat}{tag:Tag}{n:Nat}(h:hD qh e8 D tag n)(a:∀k,k∈D->k∈D'):hD qh e8 D' tag n:=by
 rcases h with h|⟨k,g,b,c⟩
 ·exact .inl h
 ·exact .inr ⟨k,g,a k b,c⟩
def hD.other{qh:Nat->Option Nat}{e8:Nat->Nat}{D D':List Nat}{tag a:Tag}{n n' d:Nat}{x:Option Nat}{y:Nat}(h:hD qh e8 D tag n)(j:hD qh e8 D' a n')
  (l:∀k,k∈D->k∉D') (o:d∉D):hD (gz (uP a qh) d x) (gz e8 d y) D tag n:=by
 rcases h with h|⟨k,g,b,q,r,i⟩
 ·exact .inl h
 ·refine .inr ⟨k,g,b,q,?_,?_⟩
  ·grind[gz]
  ·have c:k≠d:=by rintro rfl;exact o b
   simp only[gz,c];rcases j with rfl|⟨k',s,f,rfl,_,_⟩
   ·exact i
   ·have:k≠k':=by rintro rfl;exact l k b f
    simp[uP,gz,this,i]
def hD.can{fr:Fr}{D:List Nat}{tag:Tag}{l:List AV}{n:Nat}(h:hD fr.qh fr.e8 D tag n)(hn:n=l.length):oT fr tag l=true:=by
 rcases h with rfl|⟨k,g,_,rfl,a,b⟩
 all_goals grind[oT]
def Cd.own{P:Program}{t e sz d:Nat}{s x:AV}{K:Fr->dT->Prop}{fr:Fr}{H:dT}{α:Type}{f:α->AV}(l m:List α){D:List Nat}{tag b:Tag}
  (h:hD fr.qh fr.e8 D tag l.length) (i:od P t=some (e,sz)) (j:∀x,(f x).cells.length=sz) (hlen:fL l m=true) (hs:s=.slice tag (l.map f)) (k:x=.slice b (m.map f))
  (o:K {fr with env:=gz fr.env d (.slice (.loc d (fr.e8 d+1)) ((fT l m).map f)),qh:=gz (uP tag fr.qh) d (some (fT l m).length),e8:=gz fr.e8 d (fr.e8 d+1)} H):Cd P t s x d K fr H:=by
 subst hs;subst k;have n:=Ov hlen
 have c:∀l:List α,k4 sz (l.map f)=true:=λl=>by cases l with|nil=>rfl|cons a l=>simp[k4,j]
 unfold Cd;rw[i];refine⟨c l,c m,by simpa[kb,ve] using n,?_⟩;rw[dO (h.can aaF)]
 grind[fT,grown]
def sQ.own{P:Program}{t e sz d:Nat}{s x:AV}{K:Fr->dT->Prop}{fr:Fr}{H:dT}{α:Type}{f:α->AV}(l m:List α){D:List Nat}{tag a:Tag}
  (h:hD fr.qh fr.e8 D tag l.length) (b:od P t=some (e,sz)) (c:∀x,(f x).cells.length=sz) (hlen:fL l m=true) (hs:s=.slice tag (l.map f)) (i:x=.slice a (m.map f))
  (j:K {fr with env:=gz fr.env d (.slice (.loc d (fr.e8 d+1)) ((fT l m).map f)),qh:=gz (uP tag fr.qh) d (some (fT l m).length),e8:=gz fr.e8 d (fr.e8 d+1)} H):sQ P t s x d K fr H:=
 .inl (.inl (Cd.own l m h b c hlen hs i j))
def lz(P:Program)(T:eH)(E:List Nat)(ops:Array Oper)(a:AV)(as:List AV)(d:Option Nat)(rest:List Oper)(K:Fr->dT->Prop)(fr:Fr)(H:dT):Prop:=
 oY P T a as H λr H'=>iC P T E ops rest K (fr.put d r) H'
theorem Y0{P:Program}{T:eH}{q:Qt}{soft:Bool}{a:AV}{as:List AV}{d:Option Nat}{K:Fr->dT->Prop}{fr:Fr}{H H':dT}{r:AV}(h:tX P T a as H r H')(b:soft=true->QK q H H')(c:K (fr.put d r) H'):ada P T q soft a as d K fr H:=
 ⟨_,h,⟨r,H',rfl,rfl⟩,λj k ⟨f,i⟩=>by subst f;subst i;exact⟨b,c⟩⟩
section
variable{P:Program} {T:eH} {E:List Nat} {ops:Array Oper} {q:Qt} {rest:List Oper} {K:Fr->dT->Prop} {fr:Fr} {H H':dT} {d:Option Nat} {ty:TypeId} {pos:String} {after:Array Edge}
def lz.fn{g:FuncId}{as:List AV}{r:AV}(h:eI P T g as H r H')(a:iC P T E ops rest K (fr.put d r) H'):lz P T E ops (.func (.func g) [] []) as d rest K fr H:=by
 unfold lz oY;simp only[DR];exact h.post a
def lz.F2{g:FuncId}{b c as a:List AV}{r:AV}(f:b++as++c=a)(h:eI P T g a H r H')(i:iC P T E ops rest K (fr.put d r) H'):lz P T E ops (.func (.func g) b c) as d rest K fr H:=by
 subst f;exact h.post i
@[simp] theorem afP:iC P T E ops [] K fr H=K fr H:=rfl
@[simp] theorem adB{x:Operand}:iC P T E ops ({dst:=d,op:=.move x,type:=ty,pos:=pos,after:=after,guard:=none}::rest) K fr H=iC P T E ops rest K (fr.put d (ev T fr x)) H:=rfl
@[simp] theorem Z7{x:Operand}:iC P T E ops ({dst:=d,op:=.assign x,type:=ty,pos:=pos,after:=after,guard:=none}::rest) K fr H=iC P T E ops rest K (fr.put d (ev T fr x)) H:=rfl
@[simp] theorem aa1{t:TypeId}:iC P T E ops ({dst:=d,op:=.alloc t,type:=ty,pos:=pos,after:=after,guard:=none}::rest) K fr H=match j0 P t with|some z=>kT E d z (iC P T E ops rest K) fr H|none=>False:=rfl
@[simp] theorem age{t:TypeId}{x:Operand}:iC P T E ops ({dst:=d,op:=.box t x,type:=ty,pos:=pos,after:=after,guard:=none}::rest) K fr H=(fj (ev T fr x)=true/\kT E d (ev T fr x).cells (iC P T E ops rest K) fr H):=rfl
@[simp] theorem adS{t:TypeId}{x:Operand}:iC P T E ops ({dst:=d,op:=.load t x,type:=ty,pos:=pos,after:=after,guard:=none}::rest) K fr H=match uH P fr H t (ev T fr x)with|some v=>iC P T E ops rest K (fr.put d v) H|none=>False:=rfl
@[simp] theorem acY{t:TypeId}{x y:Operand}:iC P T E ops ({dst:=none,op:=.store t x y,type:=ty,pos:=pos,after:=after,guard:=none}::rest) K fr H=lQ P t (ev T fr x) (ev T fr y) (iC P T E ops rest K) fr H:=by simp[iC,DD,qz]
@[simp] theorem Tj{t n:Nat}{a:Array (Nat×Operand)}:iC P T E ops ({dst:=d,op:=.buildSlice t n a,type:=ty,pos:=pos,after:=after,guard:=none}::rest) K fr H=match ni P t n (a.toList.map λp=>(p.1,ev T fr p.2))with|some v=>Ih E d v (iC P T E ops rest K) fr H|none=>False:=rfl
@[simp] theorem adE{E:List Nat}{d:Option Nat}{v:AV}{K:Fr->dT->Prop}{fr:Fr}{H:dT}:Ih E d v K fr H=if d.any E.contains then(match v with|.slice _ l=>K (fr.put d (.zy H.length 0 l.length l.length)) (H++[l.flatMap AV.cells])|_=>False)else K (fr.put d v) H:=rfl
@[simp] theorem ZG{x y:Operand}{t d:Nat}:iC P T E ops ({dst:=some d,op:=.call {callee:=.builtin .append,args:=#[x,y],argTypes:=#[t,t]},type:=ty,pos:=pos,after:=after,guard:=none}::rest) K fr H=sQ P t (ev T fr x) (ev T fr y) d (iC P T E ops rest K) fr H:=by
 simp only[iC,DD,qz];unfold sQ;rw[<-CH (T:=T),<-Qd (T:=T),<-De (T:=T),L4,false_or]
@[simp] theorem adK{f:Operand}{as:Array Operand}{ts:Array TypeId}:iC P T E ops ({dst:=d,op:=.call {callee:=.value f,args:=as,argTypes:=ts},type:=ty,pos:=pos,after:=after,guard:=none}::rest) K fr H=lz P T E ops (ev T fr f) (as.toList.map λx=>(ev T fr x).norm) d rest K fr H:=rfl
@[simp] theorem af4{as:Array Operand}{ts:Array TypeId}:iC P T E ops ({dst:=d,op:=.call {callee:=.builtin .len,args:=as,argTypes:=ts},type:=ty,pos:=pos,after:=after,guard:=none}::rest) K fr H=match xC P T fr {callee:=.builtin .len,args:=as,argTypes:=ts}with|some v=>iC P T E ops rest K (fr.put d v) H|none=>False:=rfl
@[simp] theorem adP{c a b:Operand}:iC P T E ops ({dst:=d,op:=.pick c a b,type:=ty,pos:=pos,after:=after,guard:=none}::rest) K fr H=match zA P T fr {dst:=d,op:=.pick c a b,type:=ty,pos:=pos,after:=after,guard:=none}with|some v=>iC P T E ops rest K (fr.put d v) H|none=>False:=rfl
@[simp] theorem abH{t:TypeId}{a:Array (Nat×Operand)}:iC P T E ops ({dst:=d,op:=.build t a,type:=ty,pos:=pos,after:=after,guard:=none}::rest) K fr H=match E7 P t (a.toList.map λp=>(p.1,ev T fr p.2))with|some v=>iC P T E ops rest K (fr.put d v) H|none=>False:=rfl
@[simp] theorem aaX{o:BinOp}{t u:TypeId}{x y:Operand}:iC P T E ops ({dst:=d,op:=.binOp o t x y u,type:=ty,pos:=pos,after:=after,guard:=none}::rest) K fr H=match Pm P o t y (ev T fr x) (ev T fr y)with|some v=>iC P T E ops rest K (fr.put d v) H|none=>False:=rfl
@[simp] theorem ad_{o:UnOp}{t:TypeId}{x:Operand}:iC P T E ops ({dst:=d,op:=.unOp o t x,type:=ty,pos:=pos,after:=after,guard:=none}::rest) K fr H=match unA o (ev T fr x)with|some v=>iC P T E ops rest K (fr.put d v) H|none=>False:=rfl
@[simp] theorem W4{fn:Fn}{f c:Array Operand}:iC P T E ops ({dst:=d,op:=.makeFunc fn f c,type:=ty,pos:=pos,after:=after,guard:=none}::rest) K fr H=iC P T E ops rest K (fr.put d (.func fn (f.toList.map λx=>(ev T fr x).norm) (c.toList.map λx=>(ev T fr x).norm))) H:=rfl
@[simp] theorem Uu{t i:Nat}{x:Operand}:iC P T E ops ({dst:=d,op:=.fieldAddr t x i,type:=ty,pos:=pos,after:=after,guard:=none}::rest) K fr H=match sP P t (ev T fr x) i with|some v=>iC P T E ops rest K (fr.put d v) H|none=>False:=rfl
@[simp] theorem Uh{t:TypeId}{x i:Operand}:iC P T E ops ({dst:=d,op:=.indexAddr t x i,type:=ty,pos:=pos,after:=after,guard:=none}::rest) K fr H=match gw P t (ev T fr x) (ev T fr i)with|some v=>iC P T E ops rest K (fr.put d v) H|none=>False:=rfl
@[simp] theorem acV{t:TypeId}{x:Operand}{lo hi a:Option Operand}:iC P T E ops ({dst:=d,op:=.slice t x lo hi a,type:=ty,pos:=pos,after:=after,guard:=none}::rest) K fr H=match oP P t (ev T fr x) (lo.map (ev T fr)) (hi.map (ev T fr)) (a.map (ev T fr))with|some v=>iC P T E ops rest K (fr.put d v) H|none=>False:=rfl
@[simp] theorem Yi{i:Nat}{x:Operand}:iC P T E ops ({dst:=d,op:=.extract x i,type:=ty,pos:=pos,after:=after,guard:=none}::rest) K fr H=match zA P T fr {dst:=d,op:=.extract x i,type:=ty,pos:=pos,after:=after,guard:=none}with|some v=>iC P T E ops rest K (fr.put d v) H|none=>False:=rfl
@[simp] theorem WK{x:Operand}:iC P T E ops ({dst:=d,op:=.nilCheck x,type:=ty,pos:=pos,after:=after,guard:=none}::rest) K fr H=match zA P T fr {dst:=d,op:=.nilCheck x,type:=ty,pos:=pos,after:=after,guard:=none}with|some v=>iC P T E ops rest K (fr.put d v) H|none=>False:=rfl
@[simp] theorem XG{t:TypeId}:iC P T E ops ({dst:=d,op:=.makeMap t none,type:=ty,pos:=pos,after:=after,guard:=none}::rest) K fr H=HB d (iC P T E ops rest K) fr H:=rfl
@[simp] theorem U5{t:TypeId}{x i y:Operand}:iC P T E ops ({dst:=none,op:=.mapUpdate t x i y,type:=ty,pos:=pos,after:=after,guard:=none}::rest) K fr H=se P t (ev T fr x) (ev T fr i) (ev T fr y) (iC P T E ops rest K) fr H:=by simp[iC,DD,qz]
@[simp] theorem ZN{t:TypeId}{x i y:Operand}:iC P T E ops ({dst:=none,op:=.insert t x i y,type:=ty,pos:=pos,after:=after,guard:=none}::rest) K fr H=se P t (ev T fr x) (ev T fr i) (ev T fr y) (iC P T E ops rest K) fr H:=by simp[iC,DD,qz]
@[simp] theorem acQ{t:TypeId}{x:Operand}:iC P T E ops ({dst:=d,op:=.range t x,type:=ty,pos:=pos,after:=after,guard:=none}::rest) K fr H=IW P t (ev T fr x) d (iC P T E ops rest K) fr H:=rfl
@[simp] theorem acS{x:Operand}:iC P T E ops ({dst:=d,op:=.entry x,type:=ty,pos:=pos,after:=after,guard:=none}::rest) K fr H=match EY (ev T fr x) H with|some v=>iC P T E ops rest K (fr.put d v) H|none=>False:=rfl
@[simp] theorem RW{x:Operand}:iC P T E ops ({dst:=d,op:=.next x false,type:=ty,pos:=pos,after:=after,guard:=none}::rest) K fr H=Kk (ev T fr x) d (iC P T E ops rest K) fr H:=rfl
@[simp] theorem ac4{op:Op}{j:Nat}{want:Bool}:iC P T E ops ({dst:=d,op:=op,type:=ty,pos:=pos,after:=after,guard:=some (j,want)}::rest) K fr H=match(ops[j]?).bind (·.dst)with
 |some g=>match fr.env g with
  |.sc (.bool b)=>if b=want then iC P T E ops ({dst:=d,op:=op,type:=ty,pos:=pos,after:=after,guard:=none}::rest) K fr H else iC P T E ops rest K (fr.put d (.tuple [])) H|.tuple _=>iC P T E ops rest K (fr.put d (.tuple [])) H|_=>False
 |none=>False:=rfl
end
@[simp] theorem Fr.ael(fr:Fr)(d:Nat)(x:AV):fr.put (some d) x={fr with env:=gz fr.env d x}:=rfl
@[simp] theorem agn{α:Type}(f:Nat->α)(i:Nat)(x:α)(j:Nat):gz f i x j=if j=i then x else f j:=rfl
@[simp] theorem afN(v:Value):AV.cells (.sc v:AV)=[(.sc v:AV)]:=rfl
@[simp] theorem ZI(v:Value):fj (.sc v:AV)=true:=rfl
@[simp] theorem aeZ(v:Value):AV.j9 (.sc v:AV)=(.sc v:AV):=rfl
@[simp] theorem agh(v:Value):AV.norm (.sc v:AV)=(.sc v:AV):=rfl
@[simp] theorem agB(P:Program)(ty:TypeId)(v:Value):uk P ty (.sc v:AV)=match fP P ty with|some (false,_)=>true|_=>false:=by
 unfold uk;cases fP P ty with
 |none=>rfl|some p=>grind
@[simp] theorem ad3(b g o c:Nat):AV.cells (.xb b g o c:AV)=[(.xb b g o c:AV)]:=rfl
@[simp] theorem XJ(b g o c:Nat):fj (.xb b g o c:AV)=true:=rfl
@[simp] theorem adw(o f:Nat):AV.norm (.eT o f:AV)=(.eT o f:AV):=rfl
@[simp] theorem acN(o:Nat):AV.cells (.nB o:AV)=[(.nB o:AV)]:=rfl
@[simp] theorem W1(o:Nat):fj (.nB o:AV)=true:=rfl
@[simp] theorem abO(o:Nat):AV.j9 (.nB o:AV)=(.nB o:AV):=rfl
@[simp] theorem adY(o:Nat):AV.norm (.nB o:AV)=(.nB o:AV):=rfl
@[simp] theorem ad9:uE []=false:=rfl
@[simp] theorem adi(c:AV)(cs:List AV):uE (c::cs)=c.gA:=rfl
@[simp] theorem aeJ(v:Value):AV.gA (.sc v)=true:=rfl
@[simp] theorem aao(t:Tag)(l:List AV):AV.gA (.slice t l)=true:=rfl
@[simp] theorem abN(f:Fn)(a c:List AV):AV.gA (.func f a c)=true:=rfl
@[simp] theorem aaS(t:Tag)(l:List AV):AV.cells (.slice t l:AV)=[(.slice t l:AV)]:=rfl
@[simp] theorem VT(t:Tag)(l:List AV):fj (.slice t l:AV)=true:=rfl
@[simp] theorem ZQ(t:Tag)(l:List AV):AV.j9 (.slice t l:AV)=.slice .gx l:=rfl
@[simp] theorem abj(t:Tag)(l:List AV):AV.norm (.slice t l:AV)=.slice .gx l:=rfl
@[simp] theorem acn(P:Program)(ty:TypeId)(t:Tag)(l:List AV):uk P ty (.slice t l:AV)=match fP P ty with|some (false,_)=>true|_=>false:=by
 unfold uk;cases fP P ty with
 |none=>rfl|some p=>grind
@[simp] theorem adQ(cs:List AV):AV.cells (.agg cs:AV)=cs:=rfl
@[simp] theorem YU(cs:List AV):fj (.agg cs:AV)=true:=rfl
@[simp] theorem aec(cs:List AV):AV.norm (.agg cs:AV)=.agg (cs.map AV.j9):=rfl
@[simp] theorem tK(P:Program)(ty:TypeId)(cs:List AV):uk P ty (.agg cs)=match fP P ty with|some (true,n)=>cs.length==n|_=>false:=by
 unfold uk;cases fP P ty with
 |none=>rfl|some p=>grind
@[simp] theorem acb(f:Fn)(a c:List AV):AV.cells (.func f a c:AV)=[(.func f a c:AV)]:=rfl
@[simp] theorem WM(f:Fn)(a c:List AV):fj (.func f a c:AV)=true:=rfl
@[simp] theorem ab'(f:Fn)(a c:List AV):AV.j9 (.func f a c:AV)=(.func f a c:AV):=rfl
@[simp] theorem adG(f:Fn)(a c:List AV):AV.norm (.func f a c:AV)=(.func f a c:AV):=rfl
@[simp] theorem aaf(sz:Nat)(x:AV)(l:List AV):k4 sz (x::l)=(x.cells.length==sz):=rfl
def gb(H:dT)(o:Nat)(c:List AV):dT:=H.set o c
@[simp] theorem adI{H:dT}{o:Nat}{x y:List AV}:gb (gb H o x) o y=gb H o y:=by simp[gb]
section
variable{P:Program} {t:TypeId} {k k':IntKind} {a b:Int} {u v:ByteArray} {p q:Bool}
@[simp] theorem afS{i:Nat}{u v:AV}{op:BinOp}:Pm P op t (.tmp i) u v=qs P op t u v:=rfl
@[simp] theorem afp{i:Int}{u v:AV}{op:BinOp}:Pm P op t (.const (.int k i)) u v=qs P op t u v:=rfl
@[simp] theorem afE:qs P .add t (.sc (.int k a)) (.sc (.int k b))=some (.sc (.int k (fl k a b))):=by simp[qs,uj,qq,fl]
@[simp] theorem afQ:qs P .sub t (.sc (.int k a)) (.sc (.int k b))=some (.sc (.int k (fU k a b))):=by simp[qs,uj,qq,fU]
@[simp] theorem aeR:qs P .mul t (.sc (.int k a)) (.sc (.int k b))=some (.sc (.int k (Sz k a b))):=by simp[qs,uj,qq,Sz]
@[simp] theorem aeP:qs P .rem t (.sc (.int k a)) (.sc (.int k b))=if Kz b then some (.sc (.int k (UI k a b)))else none:=by grind[qs,uj,qq,UI,Kz]
@[simp] theorem aek:qs P .and t (.sc (.int k a)) (.sc (.int k b))=some (.sc (.int k (ue k a b))):=by simp[qs,uj,qq,ue]
@[simp] theorem agI:qs P .or t (.sc (.int k a)) (.sc (.int k b))=some (.sc (.int k (JU k a b))):=by simp[qs,uj,qq,JU]
@[simp] theorem afU:qs P .shl t (.sc (.int k a)) (.sc (.int k' b))=if Li b then some (.sc (.int k (Ve k a b)))else none:=by grind[qs,uj,Ve,Li]
@[simp] theorem ae6:qs P .shr t (.sc (.int k a)) (.sc (.int k' b))=if Li b then some (.sc (.int k (Vr k a b)))else none:=by grind[qs,uj,Vr,Li]
@[simp] theorem aeG:qs P .eql t (.sc (.int k a)) (.sc (.int k b))=some (.sc (.bool (ei a b))):=by simp[qs,uj,qq,ei]
@[simp] theorem aeO:qs P .neq t (.sc (.int k a)) (.sc (.int k b))=some (.sc (.bool (eE a b))):=by simp[qs,uj,qq,eE]
@[simp] theorem afZ:qs P .lss t (.sc (.int k a)) (.sc (.int k b))=some (.sc (.bool (sx a b))):=by simp[qs,uj,qq,sx]
@[simp] theorem ae4:qs P .leq t (.sc (.int k a)) (.sc (.int k b))=some (.sc (.bool (XA a b))):=by simp[qs,uj,qq,XA]
@[simp] theorem aeh:qs P .gtr t (.sc (.int k a)) (.sc (.int k b))=some (.sc (.bool (o0 a b))):=by simp[qs,uj,qq,o0]
@[simp] theorem aeE:qs P .geq t (.sc (.int k a)) (.sc (.int k b))=some (.sc (.bool (rb a b))):=by simp[qs,uj,qq,rb]
@[simp] theorem agw:unA .not (.sc (.bool p))=some (.sc (.bool (mS p))):=by simp[unA,mS]
@[simp] theorem adF:Rt (.sc (.int k a)) (.sc (.int k' b))=some (.sc (.int k (imax a b))):=rfl
@[simp] theorem aeU{α:Type}{f:α->AV}{tag:Tag}{l:List α}:GG P t (.slice tag (l.map f))=match P.underlying t with|some (.slice _)=>some (.sc (.int .i64 (ez l)))|some (.array n _)=>some (.sc (.int .i64 n))|_=>none:=by
 unfold GG ez;cases P.underlying t with
 |none=>rfl|some y=>grind
@[simp] theorem aeb{tag:Tag}:GG P t (.slice tag [])=match P.underlying t with|some (.slice _)=>some (.sc (.int .i64 0))|some (.array n _)=>some (.sc (.int .i64 n))|_=>none:=by
 unfold GG;cases P.underlying t with
 |none=>rfl|some y=>grind
@[simp] theorem adR{tag:Tag}{x:AV}{l:List AV}:GG P t (.slice tag (x::l))=match P.underlying t with|some (.slice _)=>some (.sc (.int .i64 ((l.length+1:Nat):Int)))|some (.array n _)=>some (.sc (.int .i64 n))|_=>none:=by
 unfold GG;cases P.underlying t with
 |none=>rfl|some y=>grind
@[simp] theorem U_{α:Type}{f:α->AV}{tag:Tag}{l:List α}:gw P t (.slice tag (l.map f)) (.sc (.int k a))=match P.underlying t with
  |some (.slice e)=>match eb l a,fP P e with
   |some x,some (_,sz)=>if(f x).cells.length=sz then some (.mh (f x))else none|_,_=>none
  |_=>none:=by
 unfold gw eb;cases P.underlying t with
 |none=>rfl|some y=>
  cases y<;>try rfl
  rename_i e;simp only[Df]
  by_cases h:0<=a
  ·rw[dO h,dO h];cases l[a.toNat]?with
   |none=>rfl|some x=>cases fP P e<;>rfl
  ·rw[dI h,dI h]
def IX{α:Type}{f:α->AV}{L:List α}{n e:Nat}(hu:P.underlying t=some (.array n e))(b:fP P e=some (false,1))(hn:L.length=n):gw P t (.mh (.agg (L.map f))) (.sc (.int k a))=(eb L a).map λx=>.mh (f x):=by
 unfold gw eb
 grind[mm,AV.cells]
end
attribute [simp] ev ofValue qm yH kT HB uH mm sP CG E7 Gj ni setCells DH KS xC zA
 qV Fe rootOf isG isL OF J3 vY ID
@[simp] theorem aaz{P:Program}{t:TypeId}{b g off:Nat}{v:AV}{K:Fr->dT->Prop}{fr:Fr}{H:dT}:lQ P t (.hU b g off) v K fr H=match fP P t with
  |none=>False|some (_,n)=>match fr.box b with
   |some cs=>g=fr.gen b/\v.cells.length=n/\off+n<=cs.length/\fj v=true/\K {fr with box:=gz fr.box b (some (setCells cs off v.cells))} H|none=>False:=by
 unfold lQ;cases fP P t with
 |none=>rfl|some p=>rfl
@[simp] theorem Z6{P:Program}{t:TypeId}{o off:Nat}{v:AV}{K:Fr->dT->Prop}{fr:Fr}{H:dT}:lQ P t (.eT o off) v K fr H=match fP P t with
  |none=>False|some (_,n)=>match H[o]?with
   |some cs=>uE cs=true/\v.cells.length=n/\off+n<=cs.length/\fj v=true/\K fr (H.set o (setCells cs off v.norm.cells))|none=>False:=by
 unfold lQ;cases fP P t with
 |none=>rfl|some p=>rfl
def hQ.RA{P:Program}{T:eH}{n:Nat}{Q:Exit->Fr->dT->Prop}{fr:Fr}{H:dT}{c:Code}(I:Nat->Fr->dT->Prop)(m:Nat)(b:I m fr H)
  (d:∀m fr H,I m fr H->∀K:Fr->dT->Prop,(∀fr' H' a,a<m->I a fr' H'->K fr' H')->hQ P T n c (ID K Q) fr H):hQ P T n (.loop c) Q fr H:=by
 refine hQ.loop ?_
 have key:∀k fr H,I k fr H->ALp P T n c Q fr H:=by
  intro k
  induction k using Nat.strongRecOn with
  |_ k ih=>grind[ALp.round,hQ.mono]
 grind
def LU(v:AV)(A B:Prop):Prop:=match v with|.sc (.bool t)=>if t then A else B|_=>False
@[simp] theorem aaV(t:Bool)(A B:Prop):LU (.sc (.bool t)) A B=if t then A else B:=rfl
section
variable{P:Program} {T:eH} {n:Nat} {Q:Exit->Fr->dT->Prop} {fr:Fr} {H:dT}
def hQ.B8{c:Operand}{x y:Code}
  (h:∀A B:Fr->dT->Prop,(∀fr H,hQ P T n x Q fr H->A fr H)->(∀fr H,hQ P T n y Q fr H->B fr H)->LU (ev T fr c) (A fr H) (B fr H)) (b:ja c=true:=by rfl):hQ P T n (.cond c x y) Q fr H:=by
 have a:=h (hQ P T n x Q) (hQ P T n y Q) (λ_ _ h=>h) (λ_ _ h=>h);generalize d:ev T fr c=v at a;cases v with
 |sc w=>
  cases w with
  |bool t=>
   refine hQ.cond d b (λf=>?_) (λf=>?_)
   all_goals simp_all
  |_=>exact a.elim
 |_=>exact a.elim
def hQ.sr{id:Nat}{ops:Array Oper}{y:Code}(E:List Nat)(h:∀K:Fr->dT->Prop,(∀fr H,hQ P T n y Q fr H->K fr H)->iC P T E ops ops.toList K fr H)(a:AE n ops=true:=by decide+kernel):hQ P T n (.seq (.region id ops false) y) Q fr H:=
 hQ.C9 λK b=>hQ.region E a (h K b)
def hQ.aeo{x y:Code}(R:Fr->dT->Prop)(b:∀K:Fr->dT->Prop,(∀fr H,R fr H->K fr H)->hQ P T n x (ID K Q) fr H)(c:∀fr H,R fr H->hQ P T n y Q fr H):hQ P T n (.seq x y) Q fr H:=
 hQ.seq ((b R λ_ _ h=>h).mono λe fr' H' a=>by cases e<;>first|exact c _ _ a|exact a)
end
@[simp] theorem range_one:List.range 1=[0]:=rfl
@[simp] theorem afV:List.range 2=[0,1]:=rfl
@[simp] theorem aez:List.range 3=[0,1,2]:=rfl
section
variable{P:Program} {t e sz:Nat} {bl:Bool} {tag:Tag} {α:Type} {k k' k2:IntKind} {a b:Int} {u:ByteArray}
def Zc(h:0<=a):Lu (some (.sc (.int k a)))=some (some a.toNat):=by simp[Lu,h]
theorem Yb(h:¬0<=a):Lu (some (.sc (.int k a)))=none:=by simp[Lu,h]
theorem L2{x:AV}{lo hi:Option AV}(h:Lu lo=none):oP P t x lo hi none=none:=by unfold oP;rw[h]
def Oh{lo hi:Option AV}{a hi':Option Nat}(b:Lu lo=some a)(c:Lu hi=some hi')(f:α->AV)(l:List α)(hu:P.underlying t=some (.slice e))(d:fP P e=some (bl,sz))(i:∀x,(f x).cells.length=sz):oP P t (.slice tag (l.map f)) lo hi none=if hi'.getD l.length<=l.length/\a.getD 0<=hi'.getD l.length then some (.slice .gx (((l.take (hi'.getD l.length)).drop (a.getD 0)).map f))else none:=by
 have h:k4 sz (l.map f)=true:=by
  cases l with
  |nil=>rfl|cons x l=>simp_all
 unfold oP;rw[b,c];simp only[Lu,hu,d,h];simp
def Ni(f:α->AV)(l:List α)(hu:P.underlying t=some (.slice e))(b:fP P e=some (bl,sz))(c:∀x,(f x).cells.length=sz):oP P t (.slice tag (l.map f)) (some (.sc (.int k a))) none none=(Ag l a (ez l)).map λr=>.slice .gx (r.map f):=by
 unfold Ag ez
 by_cases d:0<=a
 ·rw[Oh (Zc d) (hi:=none) (hi':=none) rfl f l hu b c]
  grind
 ·grind[L2,Yb]
end
def wq{P:Program}{t e sz:Nat}{b:Bool}{tag:Tag}{α:Type}(f:α->AV)(l:List α)(hu:P.underlying t=some (.slice e))(a:fP P e=some (b,sz))(c:∀x,(f x).cells.length=sz):oP P t (.slice tag (l.map f)) none (some (.sc (.int .i64 (Go.fH.ez l)))) (some (.sc (.int .i64 (Go.fH.ez l))))=some (.slice .full (l.map f)):=by
 have h:k4 sz (l.map f)=true:=by
  cases l with
  |nil=>rfl|cons x l=>simp_all
 simp[oP,Lu,hu,a,h,Go.fH.ez,<-List.map_take]
def sR{α:Type}(f:α->AV)(l:List (Int×α)):AV:=.tU (l.map λp=>Value.int .i64 p.1) (l.map λp=>f p.2)
@[simp] theorem af3{α:Type}(f:α->AV):sR f []=.tU [] []:=rfl
def UX{α:Type}(l:List (Int×α))(k:Int):mapIdx (l.map λp=>Value.int .i64 p.1) (.int .i64 k)=l.findIdx? (λp=>p.1==k):=by
 unfold mapIdx;rw[List.findIdx?_map];rfl
def RK{α:Type}(l:List (Int×α)):(l.map λp=>Value.int .i64 p.1).all (I6 (.int .i64))=true:=by
 rw[kE];intro x a;obtain⟨p,_,rfl⟩:=qv.1 a;rfl
def Oi{α:Type}(f:α->AV):∀(l:List (Int×α)) (k:Int) (y:α),E9 (l.map λp=>Value.int .i64 p.1) (l.map λp=>f p.2) (.int .i64 k) (f y)=sR f (v_ l k y)
 |[],k,y=>rfl|p::l,k,y=>by
  have ih:=Oi f l k y;unfold E9 at ih|-;rw[UX] at ih|-;rw[abQ];unfold v_
  by_cases h:p.1=k
  ·grind[sR]
  ·rw[dI (by simpa using h),dI h];cases hi:l.findIdx? (λp=>p.1==k)with
   |none=>
    rw[hi] at ih;simp only[sR,AV.tU.injEq] at ih;simp[sR,<-ih.1,<-ih.2]
   |some j=>
    rw[hi] at ih;simp only[sR,AV.tU.injEq] at ih;simp[sR,<-ih.1,<-ih.2]
section
variable{P:Program} {t kt e:TypeId} {o:Nat} {k:Int} {α:Type} {f:α->AV} {d:Option Nat} {K:Fr->dT->Prop} {fr:Fr} {H:dT}
def uf.i64(l:List (Int×α))(y:α){v:AV}(hu:P.underlying t=some (.map kt e))(a:P.underlying kt=some (.int .i64))(b:H[o]?=some [sR f l])(c:v.norm=f y)(d:K fr (gb H o [sR f (v_ l k y)])):se P t (.nB o) (.sc (.int .i64 k)) v K fr H:=by
 unfold se;simp only[hu,a,b];refine⟨rfl,RK l,?_⟩;rw[c,Oi];exact d
end
end Go.kY
