/- The abstraction layer, part X: a row that may be written, seen as_ the list that it holds; rows of several cells, element by element. Over any program. -/
import Derived.Test.YtbbihmmobfmadaaGreatWAbsKx
set_option linter.unusedSimpArgs false
set_option linter.unusedVariables false
namespace Abs
open Go
def Ln(o n:Nat)(l:List AV)(a b:AV):Prop:=b= .vec o n/\(a= .slice l (.own o)\/a= .slice l .no)
theorem xA(o n:Nat)(l:List AV):oO (Ln o n l):=λa b ⟨h1,h2⟩=>by
 subst h1;rcases h2 with rfl|rfl<;>exact⟨rfl,rfl⟩
theorem view_frz{σ:aA}{o sz n:Nat}{cs l:List AV}(h:σ o=some (.vec sz n cs))(hf:flat l=cs)(hl:l.length=n)(hall:∀x∈l,(az x).length=sz):
  View (Lift (Ln o n l)) (aH σ o (.grow sz n)) σ:=λS K w hS hs=>by
 obtain⟨e0,h1,h2⟩:=hs.live o _ h;cases e0<;>simp only[ObjSat] at h2
 rename_i b cap sz' n'
 obtain⟨rfl,rfl,h3⟩:=h2;obtain⟨K',k1,k2,k3⟩:=hs.freeze h h1 hf hl hall S;refine⟨K',k1,k3,λa0 a v hab hr=>?_⟩;refine Rel.lift (xA o _ l) k1.le (λx y v ⟨e1,e2⟩ hr=>?_) hab hr;subst e1;obtain⟨b',cap',rfl,hown,_⟩:=sf hs h hr;rw[h1] at hown;simp only[Option.some.injEq,Own.vec.injEq] at hown;obtain⟨rfl,rfl,_,_⟩:=hown;rcases e2 with rfl|rfl
 ·exact k2
 ·exact Rel.lift (oQ (λ_=>none)) (Gh.le.refl K') (λa b v ⟨o,sz,_,_,h3⟩ hr=>by simp at h3) (.slice l l .no (.own o) (.inl rfl) rfl λi _ _=> .refl _) k2
theorem jc{α:Type}(e:α->AV)(sz:Nat)(he:∀x,(az (e x)).length=sz):∀l:List α,(flat (l.map e)).length=l.length*sz
 |[]=>by simp[flat]
 |x::l=>by
  have:=jc e sz he l
  simp only[List.map_cons,c7,List.length_append,he,this,List.length_cons];rw[Nat.succ_mul];omega
theorem HO{R:ARes->aA->Prop}{v v0 v1:AV}{σ τ:aA}(o:Nat){sz n:Nat}{cs l:List AV}(h:σ o=some (.vec sz n cs))(hf:flat l=cs)(hl:l.length=n)(hall:∀x∈l,(az x).length=sz)
  (hv:Lift (Ln o n l) v1 v)(hv0:FL (aH σ o (.grow sz n)) v0 v1)(hs:nA [] τ (aH σ o (.grow sz n)))(hR:R (.ret v0) τ):fin R v σ:=
 ⟨v0,τ,Vr.comp (vr_of hv0 hs) ⟨_,view_frz h hf hl hall,hv⟩,hR⟩
structure Fr4(σ:aA)(a b c d:Nat):Prop where
 ha:σ a=none
 hb:σ b=none
 hc:σ c=none
 hd:σ d=none
 ab:¬a=b
 ba:¬b=a
 ac:¬a=c
 ca:¬c=a
 ad:¬a=d
 da:¬d=a
 bc:¬b=c
 cb:¬c=b
 bd:¬b=d
 db:¬d=b
 cd:¬c=d
 dc:¬d=c
theorem Fr4.old{σ:aA}{a b c d:Nat}(h:Fr4 σ a b c d):∀o,¬σ o=none->¬o=a/\¬a=o/\¬o=b/\¬b=o/\¬o=c/\¬c=o/\¬o=d/\¬d=o:=λo ho=>
 ⟨λe=>ho (e▸h.ha),λe=>ho (e▸h.ha),λe=>ho (e▸h.hb),λe=>ho (e▸h.hb),λe=>ho (e▸h.hc),λe=>ho (e▸h.hc),λe=>ho (e▸h.hd),λe=>ho (e▸h.hd)⟩
end Abs
