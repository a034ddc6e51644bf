/- The abstraction layer: library functions that compare lists. Over any program. -/
import Derived.Test.YtbbihmmobfmadaaGreatWAbsKx
set_option linter.unusedSimpArgs false
set_option linter.unusedVariables false
namespace Abs
open Go
def pE(sz:Nat)(z:List AV):ACode:=
 .seq (.reg [⟨some 6, .mov (.c (.bool false)),none⟩])
 (.seq (.seq (.reg [⟨some 10, .mov (.t 0),none⟩,
   ⟨some 11, .len (.t 10),none⟩,
   ⟨some 12, .mov (.t 1),none⟩,
   ⟨some 13, .len (.t 12),none⟩,
   ⟨some 14, .bin .neq false (.t 11) (.t 13),none⟩])
 (.cond (.t 14)
  (.seq (.reg [⟨some 6, .mov (.c (.bool false)),none⟩])
  (.ret))
  (.skip)))
 (.seq (.seq (.reg [⟨some 15, .mov (.t 0),none⟩,
   ⟨some 16, .len (.t 15),none⟩,
   ⟨some 17, .mov (.c (.int .i64 0)),none⟩])
 (.block 0 (.loop (.seq (.reg [⟨some 18, .bin .lss false (.t 17) (.t 16),none⟩])
  (.seq (.cond (.t 18)
   (.skip)
   (.exit 0))
  (.seq (.block 1 (.seq (.reg [⟨some 19, .mov (.t 17),none⟩,
    ⟨some 20, .idxS sz (.t 15) (.t 17),none⟩,
    ⟨some 21, .load true sz (.t 20),none⟩,
    ⟨some 8, .alloc z,none⟩,
    ⟨some 7, .mov (.t 19),none⟩,
    ⟨none, .store sz (.t 8) (.t 21),none⟩])
  (.seq (.reg [⟨some 22, .mov (.t 1),none⟩,
    ⟨some 23, .mov (.t 7),none⟩,
    ⟨some 24, .idxS sz (.t 22) (.t 23),none⟩,
    ⟨some 25, .load true sz (.t 24),none⟩,
    ⟨some 9, .alloc z,none⟩,
    ⟨none, .store sz (.t 9) (.t 25),none⟩])
  (.seq (.reg [⟨some 26, .mov (.t 2),none⟩,
    ⟨some 27, .load true sz (.t 8),none⟩,
    ⟨some 28, .load true sz (.t 9),none⟩,
    ⟨some 29, .call (.t 26) [(.t 27),(.t 28)],none⟩,
    ⟨some 30, .un .not (.t 29),none⟩])
  (.cond (.t 30)
   (.seq (.reg [⟨some 6, .mov (.c (.bool false)),none⟩])
   (.ret))
   (.skip))))))
  (.reg [⟨some 31, .bin .add false (.t 17) (.c (.int .i64 1)),none⟩,
    ⟨some 17, .mov (.t 31),none⟩])))))))
 (.seq (.reg [⟨some 6, .mov (.c (.bool true)),none⟩])
 (.ret))))
def Bk{α:Type}(p:α->α->Bool)(l m:List α):Bool:=decide (l.length=m.length)&&(l.zip m).all λq=>p q.1 q.2
theorem lG{α:Type}{p:α->α->Bool}{l m:List α}(h:¬l.length=m.length):Bk p l m=false:=by simp[Bk,h]
theorem eM{α:Type}{p:α->α->Bool}{l m:List α}{i:Nat}(h1:i<l.length)(h2:i<m.length)(h:p l[i] m[i]=false):Bk p l m=false:=by
 have:((l.zip m).all λq=>p q.1 q.2)=false:=by
  rw[List.all_eq_false];refine⟨(l[i],m[i]),?_,by simp[h]⟩;have hz:i<(l.zip m).length:=by simp;omega
  have:(l.zip m)[i]=(l[i],m[i]):=by simp
  rw[<-this];exact List.getElem_mem hz
 simp[Bk,this]
theorem fZ{α:Type}{p:α->α->Bool}{l m:List α}(hl:l.length=m.length)(h:∀i,(h1:i<l.length)->(h2:i<m.length)->p l[i] m[i]=true):Bk p l m=true:=by
 simp only[Bk,hl,decide_true,Bool.true_and,List.all_eq_true];intro q hq;obtain⟨i,hi,rfl⟩:=List.getElem_of_mem hq;simp only[List.length_zip] at hi;have h1:i<l.length:=by omega
 have h2:i<m.length:=by omega
 simpa using h i h1 h2
section lib
variable {P : Program} {f : FuncId} {fn : Func} {σ : aA} {α : Type} {enc : α -> AV} {sz : Nat}
theorem fL{z:List AV}(hm:P.follows .mixedOrders=true)(hfn:P.funcs[f]?=some fn)(hb:fn.body.bind (tr P 32)=some (pE sz z).bare)(hn:(fn.name=="runtime.NumGoroutine")=false)(hN:fn.ntmps=32)
  (hr:cJ P fn.results.toList=some [.tmp 6])(hagg:∀x,enc x= .agg (az (enc x)))(hsz:∀x,(az (enc x)).length=sz)(hz:z.length=sz)(hone:∀x,(az (enc x)).all bY=true)(p:α->α->Bool)(l m:List α)(hl:l.length<=1000000000000)(hlm:m.length<=1000000000000)
  {F:Nat}{first caps:List AV}(hF:∀x∈l,∀y∈m,∀τ,ACalls P F (first++[enc x,enc y]++caps) τ (λr σ'=>r= .ret (.bool (p x y))/\σ'=τ)):
  ACalls P f [.slice (l.map enc) .no, .slice (m.map enc) .no, .fn F first caps] σ (λr σ'=>r= .ret (.bool (Bk p l m))/\σ'=σ):=by
 refine cI hm hfn hb hn hN hr (by simp) ?_;unfold pE;have hmk:∀x,eE true (az (enc x))=some (enc x):=λx=>by rw[eE,if_pos rfl,<-hagg]
 have tk:∀x,List.take sz (az (enc x))=az (enc x):=λx=>List.take_of_length_le (by rw[hsz];exact Nat.le_refl _);have hd:List.drop (0+sz) z=[]:=List.drop_eq_nil_of_le (by omega);have hce:∀x,AV.agg (az (enc x))=enc x:=λx=>(hagg x).symm;have h00:0+sz<=sz:=by omega
 clear hagg;by_cases hlen:m.length=l.length
 ·have hb:((l.length:Int) != (m.length:Int))=false:=by simp[hlen]
  have hok0:=fZ (p:=p) hlen.symm;repeat' (first|simp(maxDischargeDepth:=9) -implicitDefEqProofs -dsimp only[go_sem,seval,List.length_map, *]|simp(disch:=omega) only[ah,aj,ao,aw,ar,ag,au,aq]|(with_reducible (first|apply Za|apply Zb|apply Zc|apply Zd|apply Ze|apply Zf|apply Zg|apply Zh|apply Zi|apply Zj|apply Zk|apply Zl|apply Zm|apply Zn|apply Zo|apply Zp|apply Zq|apply Zr|apply Zs)<;>intro hq)|((with_reducible refine Zv ?_ ?_);focus (first|omega|exact rfl))|((with_reducible refine Zu ?_ ?_);focus omega)|((with_reducible refine Zt (λoF hoF hnF hnF'=>?_));(try simp only[aa,ne_eq,not_and] at hoF))|fail)
  refine loop_rule (λi:Nat=>[(17,some (.int .i64 i)),(16,some (.int .i64 l.length)),(15,some (.slice (l.map enc) .no)),(1,some (.slice (m.map enc) .no)),(2,some (.fn F first caps))]) (λ_=>σ)
   (λi=>i<=l.length/\∀j,(h1:j<l.length)->(h2:j<m.length)->j<i->p l[j] m[j]=true) (λi=>l.length-i) 0 ?_ ?_
  ·clear hok0 hF;(repeat' (first|simp(maxDischargeDepth:=9) -implicitDefEqProofs -dsimp only[go_sem,seval, *]|simp(disch:=omega) only[ah,aj,ao,aw,ar,ag,au,aq]))<;>(repeat' refine And.intro ?_ ?_)<;>(first|omega|rfl|assumption|skip)
  ·rintro i ⟨hi,hok⟩;by_cases hlt:i<l.length
   ·have hlt2:i<m.length:=by omega
    have hc:=λτ=>hF l[i] (List.getElem_mem hlt) m[i] (List.getElem_mem hlt2) τ;have hf:=eM (p:=p) hlt hlt2
    have hstep:p l[i] m[i]=true->∀j,(h1:j<l.length)->(h2:j<m.length)->j<i+1->p l[j] m[j]=true:=λhp j h1 h2 h=>by
     rcases Nat.lt_or_ge j i with h'|h'
     ·exact hok j h1 h2 h'
     ·obtain rfl:j=i:=by omega
      exact hp
    clear hF hok hok0 hlen;repeat' (first|simp(maxDischargeDepth:=9) -implicitDefEqProofs -dsimp only[go_sem,seval, *]|simp(disch:=omega) only[ah,aj,ao,aw,ar,ag,au,aq]|(with_reducible (first|apply Za|apply Zb|apply Zc|apply Zd|apply Ze|apply Zf|apply Zg|apply Zh|apply Zi|apply Zj|apply Zk|apply Zl|apply Zm|apply Zn|apply Zo|apply Zp|apply Zq|apply Zr|apply Zs)<;>intro hq)|((with_reducible refine Zv ?_ ?_);focus (first|omega|exact rfl))|((with_reducible refine Zu ?_ ?_);focus omega)|((with_reducible refine Zt (λoF hoF hnF hnF'=>?_));(try simp only[aa,ne_eq,not_and] at hoF))|((with_reducible apply ACalls.one1);(focus ((first|with_reducible refine hc _|with_reducible refine ACalls.flA (hc _) ?_)<;>(first|(simp(maxDischargeDepth:=9) -implicitDefEqProofs -dsimp only[go_sem,seval, *];done)|omega)));(focus (first|trivial|with_reducible exact rfl|(simp(maxDischargeDepth:=9) -implicitDefEqProofs -dsimp only[go_sem,seval];done))))|fail)
    ·have hs:=hstep hq;refine bP _ _ _ _ (i+1) ?_;(repeat' (first|simp(maxDischargeDepth:=9) -implicitDefEqProofs -dsimp only[go_sem,seval, *]|simp(disch:=omega) only[ah,aj,ao,aw,ar,ag,au,aq]))<;>(repeat' refine And.intro ?_ ?_)<;>(first|omega|rfl|assumption|skip)
    ·have he:=hf hq;refine fin_eq ?_;(repeat' (first|simp(maxDischargeDepth:=9) -implicitDefEqProofs -dsimp only[go_sem,seval, *]|simp(disch:=omega) only[ah,aj,ao,aw,ar,ag,au,aq]))<;>(repeat' refine And.intro ?_ ?_)<;>(first|omega|rfl|assumption|skip)
   ·have he:=hok0 λj h1 h2=>hok j h1 h2 (by omega);repeat' (first|simp(maxDischargeDepth:=9) -implicitDefEqProofs -dsimp only[go_sem,seval, *]|simp(disch:=omega) only[ah,aj,ao,aw,ar,ag,au,aq]|(with_reducible (first|apply Za|apply Zb|apply Zc|apply Zd|apply Ze|apply Zf|apply Zg|apply Zh|apply Zi|apply Zj|apply Zk|apply Zl|apply Zm|apply Zn|apply Zo|apply Zp|apply Zq|apply Zr|apply Zs)<;>intro hq)|((with_reducible refine Zv ?_ ?_);focus (first|omega|exact rfl))|((with_reducible refine Zu ?_ ?_);focus omega)|((with_reducible refine Zt (λoF hoF hnF hnF'=>?_));(try simp only[aa,ne_eq,not_and] at hoF))|fail)
    refine fin_eq ?_;(repeat' (first|simp(maxDischargeDepth:=9) -implicitDefEqProofs -dsimp only[go_sem,seval, *]|simp(disch:=omega) only[ah,aj,ao,aw,ar,ag,au,aq]))<;>(repeat' refine And.intro ?_ ?_)<;>(first|omega|rfl|assumption|skip)
 ·have hb:((l.length:Int) != (m.length:Int))=true:=by simp only[bne_iff_ne,ne_eq];omega
  have he:=lG (p:=p) (λh=>hlen h.symm);repeat' (first|simp(maxDischargeDepth:=9) -implicitDefEqProofs -dsimp only[go_sem,seval,List.length_map, *]|simp(disch:=omega) only[ah,aj,ao,aw,ar,ag,au,aq]|(with_reducible (first|apply Za|apply Zb|apply Zc|apply Zd|apply Ze|apply Zf|apply Zg|apply Zh|apply Zi|apply Zj|apply Zk|apply Zl|apply Zm|apply Zn|apply Zo|apply Zp|apply Zq|apply Zr|apply Zs)<;>intro hq)|((with_reducible refine Zv ?_ ?_);focus (first|omega|exact rfl))|((with_reducible refine Zu ?_ ?_);focus omega)|((with_reducible refine Zt (λoF hoF hnF hnF'=>?_));(try simp only[aa,ne_eq,not_and] at hoF))|fail)
  refine fin_eq ?_;(repeat' (first|simp(maxDischargeDepth:=9) -implicitDefEqProofs -dsimp only[go_sem,seval, *]|simp(disch:=omega) only[ah,aj,ao,aw,ar,ag,au,aq]))<;>(repeat' refine And.intro ?_ ?_)<;>(first|omega|rfl|assumption|skip)
end lib
end Abs
