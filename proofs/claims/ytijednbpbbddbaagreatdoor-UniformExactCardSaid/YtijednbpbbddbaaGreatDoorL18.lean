/- Part of the proof of UniformExact, UniformAccepted: layer. -/
import Derived.Test.YtijednbpbbddbaaGreatDoorL17
set_option linter.all false
namespace Go.ns
open Go Go.ek
section
variable{P:Program} {T:ec} {n B0:Nat} {ρ:Maps} {F:nc} {R:Nat->si} {fr:Fr} {H:dd} {a:Act} {w:World}
def WR.Y6(h:WR T n B0 ρ F R fr H a w){d:Nat}{cs:List AV}(z:fr.box d=some cs):WR T n B0 ρ F (ia R (ρ.L d (fr.gen d)) .free) {fr with box:=ia fr.box d none} H a w:=by
 obtain⟨E,A,G,vs,ty,I,J⟩:=h.box d cs z
 have f:∀p,R p≠ .box d->ia R (ρ.L d (fr.gen d)) .free p=R p:=by
  intro p r;unfold ia;rw[cI];rintro rfl;exact r A
 refine⟨h.g,h.size,h.defers,h.env,h.hn,h.lg,h.ag,?_,?_,?_,?_,?_,h.tU⟩
 ·intro q s i;simp only[ia] at i
  by_cases he:q=d
  ·rw[cK he] at i;cases i
  ·rw[cI he] at i;obtain⟨t,l,u⟩:=h.box q s i;exact⟨t,by rw[f _ (by rw[l];intro e;injection e with e;exact he e)];exact l,u⟩
 ·intro k m B b c sz C;obtain⟨t,l,u⟩:=h.tok k m B b c sz C;exact⟨t,by rw[f _ (by rw[l];simp)];exact l,u⟩
 ·intro b j v x q;rw[f b (h.s5 b j v x d)];exact h.s5 b j v x q
 ·intro o y;rw[f _ (by rw[h.qa o y];simp)];exact h.qa o y
 ·intro b D;have:R b=.free:=h.ny b D;rw[f b (by rw[this];simp)];exact this
def WR.share(h:WR T n B0 ρ F R fr H a w){d:Nat}{cs:List AV}(c:fr.box d=some cs)(he:fr.env d=.jo d (fr.gen d) 0):∃ρ' f,(∀o,o<H.length->ρ'.G o=ρ.G o)/\ρ'.G H.length=ρ.L d (fr.gen d)/\B0<=ρ.L d (fr.gen d)/\WR T n B0 ρ' F f {fr with env:=ia fr.env d (.eS H.length 0),box:=ia fr.box d none} (H++[cs.map AV.kM]) a w:=by
 obtain⟨k,l,m,vs,ty,q,r⟩:=h.box d cs c;have s:=(zL (by have:=h.env d;rw[he] at this;exact this)).1
 have hF:∀j,F (ρ.L d (fr.gen d)) j=none:=by
  intro j;cases u:F (ρ.L d (fr.gen d)) j with
  |none=>rfl|some v=>exact absurd l (h.s5 _ j v u d)
 obtain⟨ρ',f,hG,e,i,hw⟩:=(h.Y6 c).Qk (b:=ρ.L d (fr.gen d)) (by simp[ia]) hF q (.cells (.inl rfl) (r.Az AV.kM λ_ _ _ h=>h.kM) (B_ m));refine⟨ρ',f,hG,e,k,?_⟩;refine⟨hw.g,hw.size,hw.defers,?_,hw.hn,hw.lg,hw.ag,hw.box,hw.tok,hw.s5,hw.qa,hw.ny,hw.tU⟩;intro t;have x:=hw.env t;simp only[ia]
 by_cases c:t=d
 ·subst c;rw[cK rfl,s,<-e];exact .cell (.p (.eS (by rw[i];omega)))
 ·rw[cI c];exact x
def gM.aad{c:Code}{Q:Exit->Fr->dd->Prop}{d:Nat}{cs:List AV}(f:fr.box d=some cs)(he:fr.env d=.jo d (fr.gen d) 0)(h:gM P T n c Q {fr with env:=ia fr.env d (.eS H.length 0),box:=ia fr.box d none} (H++[cs.map AV.kM])):gM P T n c Q fr H:=by
 intro G0 F0 n0 w0 a w hs;refine h G0 F0 n0 w0 a w ?_;obtain⟨ρ,F,R,hw,g⟩:=hs;obtain⟨ρ',i,hG,b,j,e⟩:=hw.share f he;refine⟨ρ',F,i,e,?_⟩;rw[qI];exact g.aat hG (by rw[b];exact j)
end
section
variable{X:Cx} {k:Nat} {S:List It} {fr:Fr} {H:dd} {c:Code}
def aaT(k:Nat){d:Nat}{cs:List AV}(b:fr.box d=some cs)(he:fr.env d=.jo d (fr.gen d) 0)(h:Wf X k (.c c::S) {fr with env:=ia fr.env d (.eS H.length 0),box:=ia fr.box d none} (H++[cs.map AV.kM])):Wf X 0 (.c c::S) fr H:=
 λhm a=>gM.aad b he (ou X k _ _ _ h hm a)
end
end Go.ns
