/- Part of the proof of TheoryNeeds: layer. -/
import Derived.WideLaws
import Derived.Test.YtjgjcpnoaeljkaaGreatDoorNL21
set_option linter.all false
namespace Go.kC
open Go
def fa.RX{P:Program}{T:dt}{n:Nat}{Q:Exit->Fr->cZ->Prop}{fr:Fr}{H:cZ}{rid:Nat}{ops:Array Oper}(E:List Nat){k o1:Oper}{rest:List Oper}{d0 d1 x o:Nat}{tm:TypeId}{ks:List Value}{xs:List AV}
  (b:ops.toList=k::o1::rest) (c:vL n ops=true) (A:k.op=.move (.tmp x)/\k.dst=some d0/\k.guard=none) (l:o1.op=.call {callee:=.builtin .len,args:=#[.tmp d0],argTypes:=#[tm]}/\o1.dst=some d1/\o1.guard=none)
  (B:fr.env x=.iR o) (C:H[o]?=some [.rG ks xs]) (hu:P.underlying tm=some (.map (P.mapKeyOf tm) (P.mapElemOf tm)))
  (h:gn P T E ops rest (Q .normal) ((fr.put (some d0) (.iR o)).put (some d1) (.sc (.int .i64 ks.length))) H):fa P T n (.region rid ops false) Q fr H:=by
 intro G0 F0 n0 w0 a w hs;refine wp_region ?_
 have u:ops.size=rest.length+2:=by rw[<-V6,b];rfl
 have q:ops[0]?=some k:=by rw[<-Zh,b];rfl
 have r:ops[1]?=some o1:=by rw[<-Zh,b];rfl
 have s:∀{i o},ops[i]?=some o->p0 n o=true:=λhi=>Fs.1 c _ (Uq hi);rw[RZ,u,Rr,Rr,wpOps_cons];refine y8 (T:=T) (E:=E) (fr:=fr) (H:=H) (K:=λf h=>f=fr.put (some d0) (.iR o)/\h=H) q (s q) hs ?_ ?_
 .obtain⟨dst,op,ty,pos,after,guard⟩:=k;simp only at A;obtain⟨rfl,rfl,rfl⟩:=A;simp[Am,o7,wh,ev,B]
 .rintro fr' H' j w' ⟨rfl,rfl⟩ v;rw[wpOps_cons];unfold wpOp;simp only[r];rw[cS (by simp[Region.wanted,l.2.2])];refine .inl ?_;obtain⟨ρ,F,R,hw,y⟩:=id v
  have D:fv F ρ (.iR o) (j.eval (.tmp d0)):=by
   have:=fA (T:=T) hw.env hw.gv (.tmp d0) rfl;simpa[ev,Fr.put,fO] using this
  obtain⟨I,_⟩:=zG D;obtain⟨ob,g1,g2⟩:=hw.g.jU o _ C;obtain⟨es,clock,rfl,J,_,_,_,_⟩:=g2.xk
  have L:es.size=ks.length:=by rw[<-J];simp
  have t:=run_len_map (P:=P) (w:=w') tm o1.type (ρ.G o) es clock hu g1;unfold Oper.wp execOp;rw[l.1];simp only[resolve,invoke,builtin,gk,oA,jj]
  have M:(#[Operand.tmp d0]:Array Operand).map j.eval=#[.map (some (ρ.G o))]:=by simp[I]
  rw[M];rw[t];simp only[jj]
  have:=F2 (Q:=λe j w'=>∃fr' H',Q e fr' H'/\SR T n G0 F0 n0 w0 fr' H' j w') c (λfr' H' j w' l N=>⟨fr',H',l,N⟩) rest 2 _ _ (j.put (some d1) (goInt es.size)) w' (by rw[b];rfl) (by
   refine⟨ρ,F,R,hw.put (λd O=>?_) (x:=.sc (.int .i64 ks.length)) ?_,y⟩
   .exact tE (s r) d (l.2.1.trans O)
   .rw[<-L];exact .cell (.p (.sc rfl))) h
  show wpOps P ops _ _ (j.put o1.dst (goInt es.size)) w';rw[l.2.1];exact this
section
variable{X:Cx} {S:List It} {fr:Fr} {H:cZ} {rid:Nat} {ops:Array Oper}
def aga(k:Nat){d o1:Oper}{rest:List Oper}{d0 d1 x o:Nat}{tm:TypeId}{ks:List Value}{xs:List AV}
  (i:fr.env x=.iR o) (j:H[o]?=some [.rG ks xs]) (hu:X.P.underlying tm=some (.map (X.P.mapKeyOf tm) (X.P.mapElemOf tm)))
  (h:gn X.P X.T X.E ops rest (Wf X k S) ((fr.put (some d0) (.iR o)).put (some d1) (.sc (.int .i64 ks.length))) H)
  (b:ops.toList=d::o1::rest:=by rfl) (l:d.op=.move (.tmp x)/\d.dst=some d0/\d.guard=none:=by exact⟨rfl,rfl,rfl⟩) (n:o1.op=.call {callee:=.builtin .len,args:=#[.tmp d0],argTypes:=#[tm]}/\o1.dst=some d1/\o1.guard=none:=by exact⟨rfl,rfl,rfl⟩):Wf X 0 (.c (.region rid ops false)::S) fr H:=by
 intro hm a;simp only[sC] at a;refine(fa.RX (Q:=ZJ (Wf X k S)) X.E b a l n i j hu h).mono λe fr' H' f=>?_
 cases e<;>first|exact kx X k _ _ _ f|exact f.elim
end
end Go.kC
