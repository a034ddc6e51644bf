/- blast: contracts: the document's words, operations of one word, and other widths. -/
import Derived.Test.YtbbihmmobfmadaaGreatWAigVal
import Derived.Test.YtbbihmmobfmadaaGreatWBlzBlaN
set_option linter.unusedSimpArgs false
set_option linter.unusedVariables false
namespace Go.Proofs.YtbbihmmobfmadaaGreat
open Abs Fil Fil.Bl A
theorem eS{σ:aA}{o:Nat}{x:AObj}(h:σ o=some x):aH σ o x=σ:=by
 funext k
 by_cases hk:k=o
 ·subst hk;simp[aH,h]
 ·simp[aH,hk]
end Go.Proofs.YtbbihmmobfmadaaGreat
namespace Go.Proofs.YtbbihmmobfmadaaGreat
open Abs Fil Fil.Bl A
def L0(z:Int):Prop:=0<=z/\z<1000000
def Lw(x:List Int):Prop:=∀z∈x,L0 z
theorem L0.i64{z:Int}(h:L0 z):I64 z:=by unfold L0 at h;unfold I64;omega
theorem Lw.i64{x:List Int}(h:Lw x):∀z∈x,I64 z:=λz hz=>(h z hz).i64
theorem L0.turn{z:Int}(h:L0 z):L0 (turn z):=by unfold L0 Abs.turn at*;omega
theorem Lw.not{x:List Int}(h:Lw x):Lw (bk x):=by
 intro z hz;obtain⟨y,hy,rfl⟩:=List.mem_map.1 hz;exact(h y hy).turn
theorem Lw.gt{x:List Int}(h:Lw x)(k:Nat):L0 (Bl.gt x k):=by
 unfold Bl.gt;rw[List.getD_eq_getElem?_getD];cases hk:x[k]? with
 |none=>exact⟨by decide,by decide⟩
 |some z=>exact h z (List.mem_of_getElem? hk)
theorem De{g:Aig}(hf:Fine g){a:Int}(h:g.lit a=true):L0 a:=by
 have:=hf.cnt
 rw[Aig.lit,aU] at h;unfold L0;omega
theorem L0.zero:L0 0:=⟨by decide,by decide⟩
theorem bu_L0{b:Bu}(hs:Wf b.g)(o:Bl.Op)(x y z:Int):L0 (b.op o x y z).1:=by
 unfold Bu.op;split
 ·exact L0.zero
 split
 ·exact L0.zero
 ·rename_i h1 h2
  obtain⟨_,k1,_,k2,_⟩:=qY hs (o:=o) (x:=x) (y:=y) (z:=z) (by omega);exact De k1.fine k2
theorem Lw.append{x y:List Int}(hx:Lw x)(hy:Lw y):Lw (x++y):=λz hz=>(List.mem_append.1 hz).elim (hx z) (hy z)
theorem Lw.one{z:Int}(h:L0 z):Lw [z]:=λy hy=>by rw[List.mem_singleton.1 hy];exact h
theorem Lw.nil:Lw []:=λz h=>by simp at h
theorem Lw.zeros(n:Nat):Lw (List.replicate n 0):=λz h=>by rw[(List.mem_replicate.1 h).2];exact⟨by decide,by decide⟩
theorem Hc{x y c:Int}{b:Bu}(hs:Wf b.g):L0 ((gi x y c).run b).1.1/\L0 ((gi x y c).run b).1.2:=by
 rw[py x y c b rfl rfl rfl rfl rfl];have w1:=eK hs Bl.Op.xor x y 0;have w2:=eK w1.1 Bl.Op.xor (b.op Bl.Op.xor x y 0).1 c 0;have w3:=eK w2.1 Bl.Op.and x y 0;have w4:=eK w3.1 Bl.Op.and (b.op Bl.Op.xor x y 0).1 c 0;exact⟨bu_L0 w1.1 _ _ _ _,bu_L0 w4.1 _ _ _ _⟩
theorem mD{x y:List Int}{c:Int}{b:Bu}(hs:Wf b.g)(hc:L0 c):∀k,L0 (bN x y c b k).1.2/\Lw (bN x y c b k).1.1
 |0=>⟨hc, .nil⟩
 |k+1=>by
  have h1:=(kM (x:=x) (y:=y) hs hc.i64 k).1;rw[lz];have h5:=Hc (x:=Bl.gt x k) (y:=Bl.gt y k) (c:=(bN x y c b k).1.2) h1;exact⟨h5.2,(mD hs hc k).2.append (.one h5.1)⟩
end Go.Proofs.YtbbihmmobfmadaaGreat
namespace Go.Proofs.YtbbihmmobfmadaaGreat
open Abs Fil Fil.Bl A
theorem xh{f:Int->Int->Pg Int}(hf:Mf f)(hL:∀(b:Bu) p q,Wf b.g->L0 ((f p q).run b).1){x y:List Int}{b:Bu}(hs:Wf b.g):∀k,Lw (ed f x y b k).1
 |0=> .nil
 |k+1=>by
  rw[lA];exact(xh hf hL hs k).append (.one (hL _ _ _ (jE hf hs k).1))
theorem nU(op:Bl.Op){a:Int}(xs:List Int){b:Bu}(hb:Wf b.g)(ha:L0 a):∀k,L0 (im op a xs b k).1
 |0=>ha
 |k+1=>by rw[mB];exact bu_L0 (nQ op xs hb ha.i64 k).1 _ _ _ _
theorem Km(x y:List Int)(b:Bu):(ru x y).run b=(il (bk (ed gU x y b x.length).1)).run (ed gU x y b x.length).2:=run_bind _ _ _
theorem Mg{x y:List Int}{b:Bu}(hs:Wf b.g):L0 ((ru x y).run b).1:=by
 rw[Km];exact nU .and _ (jE (jD .xor) hs _).1 ⟨by decide,by decide⟩ _
theorem Df(x y:List Int)(b:Bu):(bX x y).run b=(turn ((dp x (bk y) 1).run b).1.2,((dp x (bk y) 1).run b).2):=by unfold bX;rw[run_bind];rfl
theorem yu{x y:List Int}{b:Bu}(hs:Wf b.g):L0 ((bX x y).run b).1:=by
 rw[Df];exact(mD hs ⟨by decide,by decide⟩ x.length).1.turn
def Hd(op:Int)(x y:List Int):Pg Int:=
 if op=19 then ru x y
 else if op=20 then (ru x y).bind λr=> .ret (turn r)
 else if op=21 then bX x y
 else if op=23 then bX y x
 else if op=22 then (bX y x).bind λr=> .ret (turn r)
 else (bX x y).bind λr=> .ret (turn r)
theorem He{op:Int}(x y:List Int)(b:Bu)(h:19<=op/\op<=24):(dw op x y).run b=([((Hd op x y).run b).1],((Hd op x y).run b).2):=by
 have ho:op=19\/op=20\/op=21\/op=22\/op=23\/op=24:=by omega
 rcases ho with rfl|rfl|rfl|rfl|rfl|rfl<;>simp only[dw,Hd,run_bind,GR,reduceIte,Int.reduceEq,or_self]
end Go.Proofs.YtbbihmmobfmadaaGreat
namespace Go.Proofs.YtbbihmmobfmadaaGreat
open Abs Fil Fil.Bl A
def Hf(op:Int):Bl.Op:=if op=11\/op=25 then .and else if op=12\/op=26 then .or else .xor
theorem Hg{op:Int}(x y:List Int)(h:op=11\/op=25\/op=12\/op=26\/op=13):dw op x y=eA (λp q=> .op (Hf op) p q 0 .ret) x y x.length:=by
 rcases h with rfl|rfl|rfl|rfl|rfl<;>simp[dw,Hf]<;>rfl
end Go.Proofs.YtbbihmmobfmadaaGreat
namespace Go.Proofs.YtbbihmmobfmadaaGreat
open Abs Fil Fil.Bl A
theorem yx{g:Aig}(hf:Fine g){a:List Int}(h:df g a=true):(1<=a.length/\a.length<=64)/\Lw a:=by
 unfold df at h;simp only[Bool.and_eq_true,decide_eq_true_eq,List.all_eq_true] at h;exact⟨by omega,λz hz=>De hf (h.2 z hz)⟩
end Go.Proofs.YtbbihmmobfmadaaGreat
