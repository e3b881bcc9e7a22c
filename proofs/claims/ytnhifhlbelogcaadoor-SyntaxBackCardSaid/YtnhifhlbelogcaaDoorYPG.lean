/- Functions and their walks (printed by auto.py over the engine). -/
import Derived.Test.YtnhifhlbelogcaaDoorYAb
import Derived.Test.YtnhifhlbelogcaaDoorProg
import Derived.Test.YtnhifhlbelogcaaDoorYPC
import Derived.Test.YtnhifhlbelogcaaDoorYLB
set_option maxRecDepth 100000
set_option maxHeartbeats 1000000
namespace Go.Proofs.YtnhifhlbelogcaaDoor
open Go Go.Eng
set_option linter.unusedSimpArgs false
set_option linter.unusedVariables false
theorem T.call6:Callable TP 6:=cm Tryd.func6
def sy_add (k:Nat) (q:Int) (C:Int):Option Int:=(if (w64 (2147483647 - q)) < C then (some 2147483648) else (some (w64 (q+C))))
theorem sy_add_calls (k:Nat) (q:Int) (C:Int) {w:World} {r_:Int} (hF:sy_add k q C=some r_) :
    Calls TP 6 [I q,I C].toArray w fun e w'=>e = .returned (I r_)∧St w (KS []) w' []:=by
 unfold sy_add at hF;have S:=St.ofFalse (As:=[]) (St.init0 w);refine enter 12 [(0,I q),(1,I C)] Tryd.func6 rfl rfl rfl rfl ?_;refine wq (wr (av rfl (wn (we (wq (wq (wr (mv rfl (mv rfl (wp (G.sub rfl rfl (r:=(w64 (2147483647 - q))) rfl) rfl (wp (G.gtr rfl rfl rfl) rfl (wn (we ?_)))))))))))));rcases io hF with ⟨D,hF⟩|⟨D,hF⟩
 ·
  refine ct rfl (dt D) (wq (wr (av rfl (wn (we (wrt (wtr ?_)))))));obtain rfl:=se hF;refine WEx.ret1 rfl rfl ?_;exact ⟨rfl,sk (As:=[]) S⟩
 ·
  refine cf rfl (df D) (wsk (we (wq (wr (mv rfl (mv rfl (wp (G.add rfl rfl (r:=(w64 (q+C))) rfl) rfl (av rfl (wn (we (wrt ?_)))))))))));obtain rfl:=se hF;refine WEx.ret1 rfl rfl ?_;exact ⟨rfl,sk (As:=[]) S⟩
def sy_thrice (k:Nat) (q:Int):Option Int:=((sy_add k q q).bind fun C=>(sy_add k q C).bind fun D=>some D)
theorem sy_thrice_calls (k:Nat) (q:Int) {w:World} {r_:Int} (hF:sy_thrice k q=some r_) :
    Calls TP 5 [I q].toArray w fun e w'=>e = .returned (I r_)∧St w (KS []) w' []:=by
 unfold sy_thrice at hF;have S:=St.ofFalse (As:=[]) (St.init0 w);refine enter 8 [(0,I q)] Tryd.func5 rfl rfl rfl rfl ?_;refine wq (wr (av rfl (wn (we (wq (wr (mv rfl (mv rfl (mv rfl ?_)))))))));obtain ⟨J,C,hF⟩:=bo hF;refine wc T.call6 (ec rfl (ec rfl en)) rfl ?_;refine (sy_add_calls k q q C).mono ?_;rintro _ Y ⟨rfl,O⟩;have V:=sc (As:=[]) S O;refine ⟨_,rfl,?_⟩;obtain ⟨aa,D,hF⟩:=bo hF;refine wc T.call6 (ec rfl (ec rfl en)) rfl ?_;refine (sy_add_calls k q J D).mono ?_;rintro _ ab ⟨rfl,X⟩;have E:=scT X V;refine ⟨_,rfl,?_⟩;refine av rfl (wn (we (wrt ?_)));obtain rfl:=se hF;refine WEx.ret1 rfl rfl ?_;exact ⟨rfl,sk E⟩
end Go.Proofs.YtnhifhlbelogcaaDoor
