/- Lemmas. -/
import Derived.Test.YtpnabjopfpdkhaaGreatDoorA19
import Derived.Test.YtpnabjopfpdkhaaGreatDoorA38
set_option linter.unusedSimpArgs false
set_option linter.unusedVariables false
set_option maxHeartbeats 2000000
namespace Go.Proofs.YtpnabjopfpdkhaaGreatDoor
open Go.RowKit
attribute [go_sem] more_more Array.size_append
theorem qeC (s:ByteArray) (r:Except (Int × Int) (List Nd × Int)) (hr:qaU s.data.toList=r) (w:World):Calls Tryz.prog 90 #[.string s] w (qcU w r):=by
 obtain⟨l,e,x,hx⟩:∃ l e x,lexF s.data.toList=(l,e,x):=⟨_,_,_,rfl⟩
 unfold qaU at hr;have hlen:=lexF_len s.data.toList;rw[hx] at hr hlen;dsimp only at hr hlen;have T:=Lib.hid (tok16 s _ hx);clear hx
 by_cases he:e=0
 · subst he
   rw[if_pos rfl] at hr
   obtain⟨h0,h1⟩:=hlen rfl
   have HR:=Lib.hid hr;have HL:=Lib.hid (And.intro h0 h1);clear hr hlen h0 h1;go_enter Tryz.func90,Tryz.ntmps90;go_wp2_with fail
   go_at_call 104
   refine (T.out _).mono ?_;rintro e w1 (⟨_,g,cap,he,hrow,hx⟩ | ⟨h2,_⟩)
   · dsimp only at he hrow
     subst he
     obtain⟨d,os,rfl⟩:=hx
     have TA:=Lib.hid (toks_at hrow rfl);clear hrow;go_wp2_with fail
     go_at_call 105
     have P:=rtokens_any (qcg l) g 0 cap (by rw[toksOf_length];exact HL.out.1) (by rw[toksOf_length];have:=HL.out.2;omega) _ TA.out _ HR.out;rw[toksOf_length] at P;refine P.mono ?_;clear P
     rcases r with ⟨c1,a1⟩ | ⟨ns,f1⟩
     · rintro e w2 ⟨he,d2,os2,rfl⟩
       subst he;go_wp2_with fail;exact bodyPost_ret (v:=.tuple #[.agg #[.slice none 0 0,.int .i64 0],.int .i64 c1,.int .i64 a1]) (by simp[results,Tryz.results90,go_sem]) rfl ⟨rfl,zab⟩
     · rintro e w2 ⟨nv,he,hrow2,hx2⟩
       obtain⟨len,cc,pp,rfl⟩:∃ len cc pp,nv=.slice pp len cc:=by
        rcases Go.Joins.ownsRow_forms hrow2 with ⟨rfl,h0⟩ | ⟨g1,c,rfl⟩
        · exact⟨_,_,_,rfl⟩
        · exact⟨_,_,_,rfl⟩
       have HROW:=Lib.hid hrow2
       obtain⟨d2,os2,rfl⟩:=hx2
       subst he;clear hrow2;go_wp2_with fail;refine bodyPost_ret (v:=.tuple #[.agg #[.slice pp len cc,.int .i64 f1],.int .i64 0,.int .i64 0]) (by simp[results,Tryz.results90,go_sem]) rfl ⟨.slice pp len cc,rfl,?_,zab⟩
       exact(own_swap HROW.out (by simp only[more_size,World.size_alloc];omega)).mono (by simp only[more_size,World.size_alloc];omega)
   · exact absurd rfl h2
 · rw[if_neg he] at hr
   have he2:(e !=0)=true:=by simpa using he
   have HR:=Lib.hid hr;have HE:=Lib.hid he;clear hr hlen he;go_enter Tryz.func90,Tryz.ntmps90;go_wp2_with fail
   go_at_call 104
   refine (T.out _).mono ?_;rintro e' w1 (⟨h0,_⟩ | ⟨_,he,hx⟩)
   · exact absurd h0 HE.out
   · dsimp only at he
     subst he
     obtain⟨d,os,rfl⟩:=hx
     go_wp2_with fail
     have:=HR.out
     subst this;exact bodyPost_ret (v:=.tuple #[.agg #[.slice none 0 0,.int .i64 0],.int .i64 e,.int .i64 (x:Int)]) (by simp[results,Tryz.results90,go_sem]) rfl ⟨rfl,zab⟩
end Go.Proofs.YtpnabjopfpdkhaaGreatDoor
