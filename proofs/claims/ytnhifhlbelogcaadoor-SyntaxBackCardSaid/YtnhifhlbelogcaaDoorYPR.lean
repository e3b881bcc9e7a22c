/- The document's parser, as plain functions (what the program's parser is held to). -/
import Derived.Test.YtnhifhlbelogcaaDoorYPH
set_option linter.unusedVariables false
namespace Go.Proofs.YtnhifhlbelogcaaDoor
open Go Go.Eng
structure ParR where
 l:List Token
 at_:Int
 deep:Int
 e:Int
 place:Int
 deriving DecidableEq
def pr_is (k:Nat) (C:ParR) (D:List UInt8):Option Bool:=(Option.bind (idx C.l C.at_) fun q=>(if C.e=0 then (if q.Text=D then (if q.Kind=4 then (some true) else (some (decide (q.Kind=2)))) else (some false)) else (some false)))
def pr_fail (k:Nat) (q:ParR) (D:Int):Option ParR:=(if q.e=0 then (Option.bind (idx q.l q.at_) fun C=>(some (⟨q.l,q.at_,q.deep,D,C.At⟩:ParR))) else (some q))
def pr_may (k:Nat) (q:ParR) (D:List UInt8):Option (Bool×ParR):=(Option.bind (pr_is k q D) fun C=>(if C=true then (some (C,(⟨q.l,w64 (q.at_+1),q.deep,q.e,q.place⟩:ParR))) else (some (C,q))))
def pr_want (k:Nat) (C:ParR) (D:List UInt8):Option ParR:=(Option.bind (pr_may k C D) fun q=>(if q.1=true then (some q.2) else (Option.bind (pr_fail k q.2 40) fun E=>(some E))))
def pr_name.j1 (D:Nat) (q:ParR) (C:Token) (E:Bool):Option ((List UInt8)×Int×ParR):=(if E=true then (Option.bind (pr_fail D q 40) fun J=>(some (([]:List UInt8),0,J))) else (some (C.Text,C.At,(⟨q.l,w64 (q.at_+1),q.deep,q.e,q.place⟩:ParR))))
def pr_name (k:Nat) (q:ParR):Option ((List UInt8)×Int×ParR):=(Option.bind (idx q.l q.at_) fun C=>(if q.e=0 then (pr_name.j1 k q C (!(decide (C.Kind=1)))) else (pr_name.j1 k q C true)))
def pr_number.j1 (D:Nat) (q:ParR) (C:Token):Option (Tree×ParR):=(some ((⟨28,([]:List UInt8),C.Number,C.At,[]⟩:Tree),(⟨q.l,w64 (q.at_+1),q.deep,q.e,q.place⟩:ParR)))
def pr_number (k:Nat) (q:ParR) (O:Bool):Option (Tree×ParR):=(Option.bind (idx q.l q.at_) fun C=>(if q.e=0 then (if C.Kind=3 then (if O=true then (if C.Number < 0 then (Option.bind (pr_fail k q 40) fun D=>(some ((⟨0,([]:List UInt8),0,0,[]⟩:Tree),D))) else (pr_number.j1 k q C)) else (pr_number.j1 k q C)) else (Option.bind (pr_fail k q 40) fun E=>(some ((⟨0,([]:List UInt8),0,0,[]⟩:Tree),E)))) else (Option.bind (pr_fail k q 40) fun J=>(some ((⟨0,([]:List UInt8),0,0,[]⟩:Tree),J)))))
def pr_value (k:Nat) (C:ParR):Option (Tree×ParR):=(Option.bind (idx C.l C.at_) fun E=>(if E.Kind=1 then (Option.bind (pr_name k C) fun q=>(some ((⟨27,q.1,0,q.2.1,[]⟩:Tree),q.2.2))) else (Option.bind (pr_number k C false) fun D=>(some (D.1,D.2)))))
def pr_base (k:Nat) (q:List UInt8):Option Int:=(if q=([105,110,116]:List UInt8) then (some 18) else (if q=([104,121,112,101,114]:List UInt8) then (some 20) else (if q=([102,108,111,97,116]:List UInt8) then (some 22) else (if q=([100,111,117,98,108,101]:List UInt8) then (some 23) else (if q=([98,111,111,108]:List UInt8) then (some 24) else (some 0))))))
def pr_begins (k:Nat) (C:ParR):Option Bool:=(Option.bind (idx C.l C.at_) fun q=>(if q.Kind=1 then (some true) else (if q.Kind=2 then (if q.Text=([117,110,115,105,103,110,101,100]:List UInt8) then (some true) else (Option.bind (pr_base k q.Text) fun D=>(some (!(decide (D=0)))))) else (some false))))
def pr_bare.j1 (E:Nat) (q:ParR) (C:Token) (V:Bool):Option (Tree×ParR):=(if V=true then (Option.bind (pr_fail E q 40) fun X=>(some ((⟨0,([]:List UInt8),0,C.At,[]⟩:Tree),X))) else (if C.Kind=1 then (some ((⟨27,C.Text,0,C.At,[]⟩:Tree),(⟨q.l,w64 (q.at_+1),q.deep,q.e,q.place⟩:ParR))) else (Option.bind (pr_base E C.Text) fun J=>(if C.Text=([117,110,115,105,103,110,101,100]:List UInt8) then (Option.bind (pr_may E (⟨q.l,w64 (q.at_+1),q.deep,q.e,q.place⟩:ParR) ([105,110,116]:List UInt8)) fun D=>(if D.1=true then (some ((⟨19,([]:List UInt8),0,C.At,[]⟩:Tree),D.2)) else (Option.bind (pr_want E D.2 ([104,121,112,101,114]:List UInt8)) fun O=>(some ((⟨21,([]:List UInt8),0,C.At,[]⟩:Tree),O))))) else (some ((⟨J,([]:List UInt8),0,C.At,[]⟩:Tree),(⟨q.l,w64 (q.at_+1),q.deep,q.e,q.place⟩:ParR)))))))
def pr_bare (k:Nat) (q:ParR):Option (Tree×ParR):=(Option.bind (idx q.l q.at_) fun C=>(Option.bind (pr_begins k q) fun D=>(if q.e=0 then (pr_bare.j1 k q C (!D)) else (pr_bare.j1 k q C true))))
def pr_bodied (k:Nat) (C:ParR):Option Int:=(Option.bind (idx C.l C.at_) fun q=>(if q.Kind=2 then (if q.Text=([101,110,117,109]:List UInt8) then (some 4) else (if q.Text=([115,116,114,117,99,116]:List UInt8) then (some 6) else (if q.Text=([117,110,105,111,110]:List UInt8) then (some 7) else (some 0)))) else (some 0)))
mutual
def pr_members.j1:Nat→List Tree→Bool×ParR→Bool→Option ((List Tree)×ParR)
 | 0,_,_,_=>none
 | q+1,C,t89,V=>(if V=true then (Option.bind (pr_fail q t89.2 42) fun X=>(Option.bind (pr_want q X ([44]:List UInt8)) fun Y=>(pr_members.l1 q Y C))) else (Option.bind (pr_want q t89.2 ([44]:List UInt8)) fun aa=>(pr_members.l1 q aa C)))
def pr_members.l1:Nat→ParR→List Tree→Option ((List Tree)×ParR)
 | 0,_,_=>none
 | D+1,E,ab=>(if E.e=0 then (Option.bind (pr_name D E) fun J=>(Option.bind (pr_want D J.2.2 ([61]:List UInt8)) fun ad=>(Option.bind (pr_value D ad) fun O=>(Option.bind (cat ab ([(⟨5,J.1,0,J.2.1,([O.1]:List Tree)⟩:Tree)]:List Tree)) fun C=>(Option.bind (pr_may D O.2 ([125]:List UInt8)) fun t89=>(if t89.1=true then (some (C,t89.2)) else (Option.bind (pr_is D t89.2 ([44]:List UInt8)) fun ae=>(if ae=true then (pr_members.j1 D C t89 (decide ((C.length:Int)=64))) else (pr_members.j1 D C t89 false))))))))) else (some ([],E)))
end
def pr_members (k:Nat) (q:ParR):Option ((List Tree)×ParR):=(Option.bind (pr_want k q ([123]:List UInt8)) fun C=>(pr_members.l1 k C []))
def pr_declares (k:Nat) (C:ParR):Option Bool:=(Option.bind (idx C.l C.at_) fun q=>(Option.bind (pr_bodied k C) fun D=>(Option.bind (pr_begins k C) fun E=>(if D=0 then (if E=true then (some true) else (if q.Kind=2 then (if q.Text=([118,111,105,100]:List UInt8) then (some true) else (if q.Text=([111,112,97,113,117,101]:List UInt8) then (some true) else (some (decide (q.Text=([115,116,114,105,110,103]:List UInt8)))))) else (some false))) else (some true)))))
def pr_sized.j2 (D:Nat) (q:(List UInt8)×Int×ParR) (E:ParR) (J:List Tree):Option (Tree×ParR):=(Option.bind (pr_want D E ([93]:List UInt8)) fun C=>(some ((⟨15,q.1,0,q.2.1,J⟩:Tree),C)))
def pr_sized.j1 (C:Nat) (D:Tree) (af:Int) (q:(List UInt8)×Int×ParR) (ad:Bool) (ae:Bool):Option (Tree×ParR):=(if ae=true then (Option.bind (pr_value C (⟨q.2.2.l,w64 (q.2.2.at_+1),q.2.2.deep,q.2.2.e,q.2.2.place⟩:ParR)) fun J=>(Option.bind (cat ([D]:List Tree) ([J.1]:List Tree)) fun O=>(pr_sized.j2 C q J.2 O))) else (if ad=true then (Option.bind (pr_is C (⟨q.2.2.l,w64 (q.2.2.at_+1),q.2.2.deep,q.2.2.e,q.2.2.place⟩:ParR) ([62]:List UInt8)) fun V=>(if V=true then (Option.bind (pr_want C (⟨q.2.2.l,w64 (q.2.2.at_+1),q.2.2.deep,q.2.2.e,q.2.2.place⟩:ParR) ([62]:List UInt8)) fun X=>(some ((⟨16,q.1,0,q.2.1,([D]:List Tree)⟩:Tree),X))) else (Option.bind (pr_value C (⟨q.2.2.l,w64 (q.2.2.at_+1),q.2.2.deep,q.2.2.e,q.2.2.place⟩:ParR)) fun E=>(Option.bind (cat ([D]:List Tree) ([E.1]:List Tree)) fun Y=>(Option.bind (pr_want C E.2 ([62]:List UInt8)) fun aa=>(some ((⟨16,q.1,0,q.2.1,Y⟩:Tree),aa))))))) else (if 0 < af then (Option.bind (pr_fail C q.2.2 40) fun ab=>(some ((⟨14,q.1,0,q.2.1,([D]:List Tree)⟩:Tree),ab))) else (some ((⟨14,q.1,0,q.2.1,([D]:List Tree)⟩:Tree),q.2.2)))))
def pr_sized (k:Nat) (O:ParR) (E:Tree) (D:Int):Option (Tree×ParR):=(Option.bind (pr_name k O) fun q=>(Option.bind (pr_is k q.2.2 ([91]:List UInt8)) fun J=>(Option.bind (pr_is k q.2.2 ([60]:List UInt8)) fun C=>(if J=true then (pr_sized.j1 k E D q C (decide (D < 2))) else (pr_sized.j1 k E D q C false)))))
mutual
def pr_declaration.j1:Nat→ParR→Token→Bool→Option (Tree×ParR)
 | 0,_,_,_=>none
 | V+1,q,C,a'=>(if a'=true then (some ((⟨13,([]:List UInt8),0,C.At,[]⟩:Tree),(⟨q.l,w64 (q.at_+1),q.deep,q.e,q.place⟩:ParR))) else (Option.bind (pr_may V q ([111,112,97,113,117,101]:List UInt8)) fun ao=>(if ao.1=true then (Option.bind (pr_sized V ao.2 (⟨25,([]:List UInt8),0,C.At,[]⟩:Tree) 1) fun aH=>(some (aH.1,aH.2))) else (Option.bind (pr_may V ao.2 ([115,116,114,105,110,103]:List UInt8)) fun aj=>(if aj.1=true then (Option.bind (pr_sized V aj.2 (⟨26,([]:List UInt8),0,C.At,[]⟩:Tree) 2) fun ap=>(some (ap.1,ap.2))) else (Option.bind (pr_typed V aj.2) fun ak=>(Option.bind (pr_may V ak.2 ([42]:List UInt8)) fun Y=>(if Y.1=true then (Option.bind (pr_name V Y.2) fun al=>(some ((⟨17,al.1,0,al.2.1,([ak.1]:List Tree)⟩:Tree),al.2.2))) else (Option.bind (pr_sized V Y.2 ak.1 0) fun aq=>(some (aq.1,aq.2)))))))))))
def pr_declaration:Nat→ParR→Bool→Option (Tree×ParR)
 | 0,_,_=>none
 | k_+1,q,X=>(Option.bind (idx q.l q.at_) fun C=>(Option.bind (pr_is k_ q ([118,111,105,100]:List UInt8)) fun ba=>(if ba=true then (pr_declaration.j1 k_ q C X) else (pr_declaration.j1 k_ q C false))))
def pr_typed.j1:Nat→ParR→Int→Bool→Option (Tree×ParR)
 | 0,_,_,_=>none
 | ar+1,q,au,bc=>(if bc=true then (Option.bind (pr_bare ar q) fun aI=>(some (aI.1,aI.2))) else (if q.deep=8 then (Option.bind (pr_fail ar q 41) fun bd=>(some ((⟨0,([]:List UInt8),0,0,[]⟩:Tree),bd))) else (Option.bind (idx q.l q.at_) fun be=>(Option.bind (pr_body ar (⟨q.l,w64 (q.at_+1),q.deep,q.e,q.place⟩:ParR) (⟨au,([]:List UInt8),0,be.At,[]⟩:Tree)) fun ax=>(some (ax.1,ax.2))))))
def pr_typed:Nat→ParR→Option (Tree×ParR)
 | 0,_=>none
 | k_+1,q=>(Option.bind (pr_bodied k_ q) fun au=>(if q.e=0 then (pr_typed.j1 k_ q au (decide (au=0))) else (pr_typed.j1 k_ q au true)))
def pr_body.j1:Nat→Tree→ParR→List Tree→Option (Tree×ParR)
 | 0,_,_,_=>none
 | bC+1,X,ai,bg=>(some ((⟨X.Kind,X.Name,X.Number,X.At,bg⟩:Tree),(⟨ai.l,ai.at_,w64 (ai.deep - 1),ai.e,ai.place⟩:ParR)))
def pr_body:Nat→ParR→Tree→Option (Tree×ParR)
 | 0,_,_=>none
 | k_+1,q,X=>(if X.Kind=4 then (Option.bind (pr_members k_ (⟨q.l,q.at_,w64 (q.deep+1),q.e,q.place⟩:ParR)) fun aJ=>(pr_body.j1 k_ X aJ.2 (aJ.1))) else (if X.Kind=6 then (Option.bind (pr_fields k_ (⟨q.l,q.at_,w64 (q.deep+1),q.e,q.place⟩:ParR)) fun aK=>(pr_body.j1 k_ X aK.2 (aK.1))) else (Option.bind (pr_choice k_ (⟨q.l,q.at_,w64 (q.deep+1),q.e,q.place⟩:ParR)) fun aL=>(pr_body.j1 k_ X aL.2 (aL.1)))))
def pr_fields.j2:Nat→List Tree→Bool×ParR→Bool→Option ((List Tree)×ParR)
 | 0,_,_,_=>none
 | aa+1,E,D,aR=>(if aR=true then (Option.bind (pr_fail aa D.2 41) fun aS=>(Option.bind (pr_fail aa aS 42) fun aT=>(pr_fields.l1 aa aT E))) else (Option.bind (pr_fail aa D.2 42) fun Y=>(pr_fields.l1 aa Y E)))
def pr_fields.j1:Nat→List Tree→Bool×ParR→Bool→Option ((List Tree)×ParR)
 | 0,_,_,_=>none
 | af+1,E,D,bh=>(if bh=true then (Option.bind (pr_bodied af D.2) fun aU=>(if aU=0 then (pr_fields.j2 af E D false) else (pr_fields.j2 af E D (decide (D.2.deep=8))))) else (pr_fields.l1 af D.2 E))
def pr_fields.l1:Nat→ParR→List Tree→Option ((List Tree)×ParR)
 | 0,_,_=>none
 | ae+1,ay,bj=>(if ay.e=0 then (Option.bind (pr_declaration ae ay true) fun aM=>(Option.bind (cat bj ([aM.1]:List Tree)) fun E=>(Option.bind (pr_want ae aM.2 ([59]:List UInt8)) fun bn=>(Option.bind (pr_may ae bn ([125]:List UInt8)) fun D=>(if D.1=true then (some (E,D.2)) else (Option.bind (pr_declares ae D.2) fun bp=>(if bp=true then (pr_fields.j1 ae E D (decide ((E.length:Int)=64))) else (pr_fields.j1 ae E D false)))))))) else (some ([],ay)))
def pr_fields:Nat→ParR→Option ((List Tree)×ParR)
 | 0,_=>none
 | k_+1,q=>(Option.bind (pr_want k_ q ([123]:List UInt8)) fun aV=>(pr_fields.l1 k_ aV []))
def pr_choice.j1:Nat→ParR→List Tree→Option ((List Tree)×ParR)
 | 0,_,_=>none
 | O+1,az,aN=>(Option.bind (idx az.l az.at_) fun aW=>(Option.bind (pr_may O az ([100,101,102,97,117,108,116]:List UInt8)) fun ab=>(if ab.1=true then (Option.bind (pr_want O ab.2 ([58]:List UInt8)) fun am=>(Option.bind (pr_declaration O am true) fun aA=>(Option.bind (cat aN ([(⟨9,([]:List UInt8),0,aW.At,([aA.1]:List Tree)⟩:Tree)]:List Tree)) fun aX=>(Option.bind (pr_want O aA.2 ([59]:List UInt8)) fun aY=>(Option.bind (pr_want O aY ([125]:List UInt8)) fun aZ=>(some (aX,aZ))))))) else (Option.bind (pr_want O ab.2 ([125]:List UInt8)) fun a0=>(some (aN,a0))))))
def pr_choice.l1:Nat→ParR→List Tree→Option ((List Tree)×ParR)
 | 0,_,_=>none
 | ad+1,aB,aO=>(if aB.e=0 then (Option.bind (pr_arm ad aB) fun t89=>(Option.bind (cat aO ([t89.1]:List Tree)) fun ag=>(Option.bind (pr_is ad t89.2 ([99,97,115,101]:List UInt8)) fun a1=>(if a1=true then (if 64 < (ag.length:Int) then (Option.bind (pr_fail ad t89.2 42) fun a2=>(pr_choice.l1 ad a2 ag)) else (pr_choice.l1 ad t89.2 ag)) else (pr_choice.j1 ad t89.2 ag))))) else (pr_choice.j1 ad aB aO))
def pr_choice:Nat→ParR→Option ((List Tree)×ParR)
 | 0,_=>none
 | k_+1,q=>(Option.bind (pr_want k_ q ([115,119,105,116,99,104]:List UInt8)) fun aV=>(Option.bind (pr_want k_ aV ([40]:List UInt8)) fun bB=>(Option.bind (pr_declaration k_ bB true) fun aP=>(Option.bind (pr_want k_ aP.2 ([41]:List UInt8)) fun br=>(Option.bind (pr_want k_ br ([123]:List UInt8)) fun bu=>(pr_choice.l1 k_ bu ([aP.1]:List Tree)))))))
def pr_arm.j3:Nat→Token→ParR→List Tree→Option (Tree×ParR)
 | 0,_,_,_=>none
 | a3+1,C,a4,a5=>(Option.bind (pr_want a3 a4 ([59]:List UInt8)) fun a6=>(some ((⟨8,([]:List UInt8),0,C.At,a5⟩:Tree),a6)))
def pr_arm.j1:Nat→Token→ParR→List Tree→Option (Tree×ParR)
 | 0,_,_,_=>none
 | aC+1,C,bv,bx=>(Option.bind (pr_declaration aC bv true) fun aD=>(Option.bind (cat bx ([aD.1]:List Tree)) fun a7=>(pr_arm.j3 aC C aD.2 a7)))
def pr_arm.j2:Nat→Token→ParR→List Tree→Option (Tree×ParR)
 | 0,_,_,_=>none
 | J+1,C,bz,an=>(Option.bind (pr_want J bz ([58]:List UInt8)) fun ah=>(Option.bind (pr_is J ah ([99,97,115,101]:List UInt8)) fun a8=>(if a8=true then (if (an.length:Int)=64 then (Option.bind (pr_fail J ah 42) fun a9=>(Option.bind (pr_want J a9 ([99,97,115,101]:List UInt8)) fun ab=>(pr_arm.l1 J C ab an))) else (Option.bind (pr_want J ah ([99,97,115,101]:List UInt8)) fun am=>(pr_arm.l1 J C am an))) else (pr_arm.j1 J C ah an))))
def pr_arm.l1:Nat→Token→ParR→List Tree→Option (Tree×ParR)
 | 0,_,_,_=>none
 | aE+1,C,aF,aQ=>(if aF.e=0 then (Option.bind (pr_value aE aF) fun aG=>(Option.bind (cat aQ ([aG.1]:List Tree)) fun aw=>(pr_arm.j2 aE C aG.2 aw))) else (pr_arm.j1 aE C aF aQ))
def pr_arm:Nat→ParR→Option (Tree×ParR)
 | 0,_=>none
 | k_+1,q=>(Option.bind (idx q.l q.at_) fun C=>(Option.bind (pr_want k_ q ([99,97,115,101]:List UInt8)) fun bA=>(pr_arm.l1 k_ C bA [])))
end
def pr_procedure.j5 (q:Nat) (t89:(List UInt8)×Int×ParR) (C:List Tree) (D:ParR) (E:List Tree):Option (Tree×ParR):=(Option.bind (catN 68719476736 E C) fun J=>(Option.bind (pr_want q D ([59]:List UInt8)) fun O=>(some ((⟨12,t89.1,0,t89.2.1,J⟩:Tree),O))))
def pr_procedure.j3 (q:Nat) (x57:Int) (s58:List UInt8) (x59:Int) (x60:Int) (l63:List Tree) (t89:(List UInt8)×Int×ParR) (D:ParR) (E:List Tree):Option (Tree×ParR):=(Option.bind (pr_want q D ([41]:List UInt8)) fun J=>(Option.bind (pr_want q J ([61]:List UInt8)) fun O=>(Option.bind (pr_number q O true) fun C=>(pr_procedure.j5 q t89 E C.2 ([C.1,(⟨x57,s58,x59,x60,l63⟩:Tree)]:List Tree)))))
mutual
def pr_procedure.j4:Nat→Int→List UInt8→Int→Int→List Tree→(List UInt8)×Int×ParR→Bool×ParR→ParR→List Tree→Bool→Option (Tree×ParR)
 | 0,_,_,_,_,_,_,_,_,_,_=>none
 | q+1,x57,s58,x59,x60,l63,t89,C,D,E,X=>(if X=true then (Option.bind (pr_bare q D) fun J=>(Option.bind (cat E ([J.1]:List Tree)) fun O=>(Option.bind (pr_is q J.2 ([44]:List UInt8)) fun Y=>(if Y=true then (if (O.length:Int)=4 then (Option.bind (pr_fail q J.2 42) fun aa=>(Option.bind (pr_want q aa ([44]:List UInt8)) fun ab=>(pr_procedure.l1 q x57 s58 x59 x60 l63 t89 C ab O))) else (Option.bind (pr_want q J.2 ([44]:List UInt8)) fun ad=>(pr_procedure.l1 q x57 s58 x59 x60 l63 t89 C ad O))) else (pr_procedure.j3 q x57 s58 x59 x60 l63 t89 J.2 O))))) else (pr_procedure.j3 q x57 s58 x59 x60 l63 t89 D E))
def pr_procedure.l1:Nat→Int→List UInt8→Int→Int→List Tree→(List UInt8)×Int×ParR→Bool×ParR→ParR→List Tree→Option (Tree×ParR)
 | 0,_,_,_,_,_,_,_,_,_=>none
 | V+1,x57,s58,x59,x60,l63,t89,C,D,E=>(if D.e=0 then (pr_procedure.j4 V x57 s58 x59 x60 l63 t89 C D E (!C.1)) else (pr_procedure.j4 V x57 s58 x59 x60 l63 t89 C D E false))
end
def pr_procedure.j2 (C:Nat) (x57:Int) (s58:List UInt8) (x59:Int) (x60:Int) (l63:List Tree) (t89:(List UInt8)×Int×ParR) (q:Bool×ParR) (D:List Tree):Option (Tree×ParR):=(pr_procedure.l1 C x57 s58 x59 x60 l63 t89 q q.2 D)
def pr_procedure.j1 (q:Nat) (O:ParR) (x57:Int) (s58:List UInt8) (x59:Int) (x60:Int) (l63:List Tree):Option (Tree×ParR):=(Option.bind (pr_name q O) fun t89=>(Option.bind (pr_want q t89.2.2 ([40]:List UInt8)) fun D=>(Option.bind (idx D.l D.at_) fun E=>(Option.bind (pr_may q D ([118,111,105,100]:List UInt8)) fun C=>(if C.1=true then (Option.bind (cat ([]:List Tree) ([(⟨13,([]:List UInt8),0,E.At,[]⟩:Tree)]:List Tree)) fun J=>(pr_procedure.j2 q x57 s58 x59 x60 l63 t89 C J)) else (pr_procedure.j2 q x57 s58 x59 x60 l63 t89 C []))))))
def pr_procedure (k:Nat) (D:ParR):Option (Tree×ParR):=(Option.bind (idx D.l D.at_) fun E=>(Option.bind (pr_may k D ([118,111,105,100]:List UInt8)) fun C=>(if C.1=true then (pr_procedure.j1 k C.2 13 ([]:List UInt8) 0 E.At []) else (Option.bind (pr_bare k C.2) fun q=>(pr_procedure.j1 k q.2 q.1.Kind q.1.Name q.1.Number q.1.At (q.1.Kids))))))
def pr_version.j1 (q:Nat) (D:(List UInt8)×Int×ParR) (V:ParR) (X:List Tree):Option (Tree×ParR):=(Option.bind (pr_want q V ([61]:List UInt8)) fun E=>(Option.bind (pr_number q E true) fun C=>(Option.bind (catN 68719476736 ([C.1]:List Tree) X) fun J=>(Option.bind (pr_want q C.2 ([59]:List UInt8)) fun O=>(some ((⟨11,D.1,0,D.2.1,J⟩:Tree),O))))))
def pr_version.l1:Nat→(List UInt8)×Int×ParR→ParR→List Tree→Option (Tree×ParR)
 | 0,_,_,_=>none
 | q+1,E,J,O=>(if J.e=0 then (Option.bind (pr_procedure q J) fun V=>(Option.bind (cat O ([V.1]:List Tree)) fun D=>(Option.bind (pr_may q V.2 ([125]:List UInt8)) fun C=>(if C.1=true then (pr_version.j1 q E C.2 D) else (Option.bind (pr_begins q C.2) fun X=>(if X=true then (if (D.length:Int)=64 then (Option.bind (pr_fail q C.2 42) fun Y=>(pr_version.l1 q E Y D)) else (pr_version.l1 q E C.2 D)) else (Option.bind (pr_is q C.2 ([118,111,105,100]:List UInt8)) fun aa=>(if aa=true then (if (D.length:Int)=64 then (Option.bind (pr_fail q C.2 42) fun ab=>(pr_version.l1 q E ab D)) else (pr_version.l1 q E C.2 D)) else (pr_version.l1 q E C.2 D))))))))) else (pr_version.j1 q E J O))
def pr_version (k:Nat) (D:ParR):Option (Tree×ParR):=(Option.bind (pr_want k D ([118,101,114,115,105,111,110]:List UInt8)) fun E=>(Option.bind (pr_name k E) fun q=>(Option.bind (pr_want k q.2.2 ([123]:List UInt8)) fun C=>(pr_version.l1 k q C []))))
def pr_program.j1 (C:Nat) (J:(List UInt8)×Int×ParR) (O:ParR) (V:List Tree):Option (Tree×ParR):=(Option.bind (pr_want C O ([61]:List UInt8)) fun D=>(Option.bind (pr_number C D true) fun q=>(Option.bind (catN 68719476736 ([q.1]:List Tree) V) fun E=>(some ((⟨10,J.1,0,J.2.1,E⟩:Tree),q.2)))))
def pr_program.l1:Nat→(List UInt8)×Int×ParR→ParR→List Tree→Option (Tree×ParR)
 | 0,_,_,_=>none
 | q+1,E,J,O=>(if J.e=0 then (Option.bind (pr_version q J) fun V=>(Option.bind (cat O ([V.1]:List Tree)) fun D=>(Option.bind (pr_may q V.2 ([125]:List UInt8)) fun C=>(if C.1=true then (pr_program.j1 q E C.2 D) else (Option.bind (pr_is q C.2 ([118,101,114,115,105,111,110]:List UInt8)) fun X=>(if X=true then (if (D.length:Int)=64 then (Option.bind (pr_fail q C.2 42) fun Y=>(pr_program.l1 q E Y D)) else (pr_program.l1 q E C.2 D)) else (pr_program.l1 q E C.2 D))))))) else (pr_program.j1 q E J O))
def pr_program (k:Nat) (D:ParR):Option (Tree×ParR):=(Option.bind (pr_name k D) fun q=>(Option.bind (pr_want k q.2.2 ([123]:List UInt8)) fun C=>(pr_program.l1 k q C [])))
def pr_definition (k:Nat) (q:ParR):Option (Tree×ParR):=(Option.bind (idx q.l q.at_) fun ai=>(Option.bind (pr_bodied k q) fun aa=>(if aa=0 then (Option.bind (pr_may k q ([99,111,110,115,116]:List UInt8)) fun J=>(if J.1=true then (Option.bind (pr_name k J.2) fun O=>(Option.bind (pr_want k O.2.2 ([61]:List UInt8)) fun aj=>(Option.bind (pr_number k aj false) fun ab=>(Option.bind (pr_want k ab.2 ([59]:List UInt8)) fun ak=>(some ((⟨2,O.1,0,O.2.1,([ab.1]:List Tree)⟩:Tree),ak)))))) else (Option.bind (pr_may k J.2 ([116,121,112,101,100,101,102]:List UInt8)) fun C=>(if C.1=true then (Option.bind (pr_declaration k C.2 false) fun V=>(Option.bind (pr_want k V.2 ([59]:List UInt8)) fun ad=>(some ((⟨3,([]:List UInt8),0,ai.At,([V.1]:List Tree)⟩:Tree),ad)))) else (Option.bind (pr_may k C.2 ([112,114,111,103,114,97,109]:List UInt8)) fun D=>(if D.1=true then (Option.bind (pr_program k D.2) fun X=>(Option.bind (pr_want k X.2 ([59]:List UInt8)) fun ae=>(some (X.1,ae)))) else (Option.bind (pr_fail k D.2 40) fun af=>(Option.bind (pr_want k af ([59]:List UInt8)) fun ag=>(some ((⟨0,([]:List UInt8),0,0,[]⟩:Tree),ag)))))))))) else (Option.bind (pr_name k (⟨q.l,w64 (q.at_+1),q.deep,q.e,q.place⟩:ParR)) fun E=>(Option.bind (pr_body k E.2.2 (⟨aa,E.1,0,E.2.1,[]⟩:Tree)) fun Y=>(Option.bind (pr_want k Y.2 ([59]:List UInt8)) fun ah=>(some (Y.1,ah))))))))
def pr_defines (k:Nat) (q:ParR):Option Bool:=(Option.bind (pr_bodied k q) fun J=>(Option.bind (pr_is k q ([99,111,110,115,116]:List UInt8)) fun C=>(Option.bind (pr_is k q ([116,121,112,101,100,101,102]:List UInt8)) fun D=>(Option.bind (pr_is k q ([112,114,111,103,114,97,109]:List UInt8)) fun E=>(if J=0 then (if C=true then (some true) else (if D=true then (some true) else (some E))) else (some true))))))
def pr_Parse.j1 (E:Nat) (C:List Tree) (J:List Token) (O:Int) (V:Int) (q:Int) (D:Int):Option (Tree×Int×Int):=(if q=0 then (some ((⟨1,([]:List UInt8),0,0,C⟩:Tree),0,0)) else (some ((⟨0,([]:List UInt8),0,0,[]⟩:Tree),q,D)))
mutual
def pr_Parse.j3:Nat→List Tree→List Token→Int→Int→Int→Int→Option (Tree×Int×Int)
 | 0,_,_,_,_,_,_=>none
 | Y+1,D,q,x60,E,C,J=>(Option.bind (pr_definition Y (⟨q,x60,E,C,J⟩:ParR)) fun O=>(Option.bind (cat D ([O.1]:List Tree)) fun ab=>(pr_Parse.l1 Y ab O.2.l O.2.at_ O.2.deep O.2.e O.2.place)))
def pr_Parse.j2:Nat→List Tree→List Token→Int→Int→Int→Int→Bool→Option (Tree×Int×Int)
 | 0,_,_,_,_,_,_,_=>none
 | X+1,D,q,x60,E,C,J,ad=>(if ad=true then (Option.bind (pr_defines X (⟨q,x60,E,C,J⟩:ParR)) fun ae=>(if ae=true then (if (D.length:Int)=100 then (Option.bind (pr_fail X (⟨q,x60,E,C,J⟩:ParR) 42) fun V=>(pr_Parse.j1 X D V.l V.at_ V.deep V.e V.place)) else (pr_Parse.j3 X D q x60 E C J)) else (pr_Parse.j3 X D q x60 E C J))) else (pr_Parse.j1 X D q x60 E C J))
def pr_Parse.l1:Nat→List Tree→List Token→Int→Int→Int→Int→Option (Tree×Int×Int)
 | 0,_,_,_,_,_,_=>none
 | aa+1,D,q,x60,E,C,J=>(if C=0 then (Option.bind (idx q x60) fun af=>(pr_Parse.j2 aa D q x60 E C J (!(decide (af.Kind=5))))) else (pr_Parse.j2 aa D q x60 E C J false))
end
end Go.Proofs.YtnhifhlbelogcaaDoor
