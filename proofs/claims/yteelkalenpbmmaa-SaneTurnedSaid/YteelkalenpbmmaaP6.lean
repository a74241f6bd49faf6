/- The contracts, joined. Printed by asm.py (own work). -/
import Derived.Test.YteelkalenpbmmaaW21
import Derived.Test.YteelkalenpbmmaaW22
import Derived.Test.YteelkalenpbmmaaAwk6
set_option maxRecDepth 20000
namespace Go.Proofs.Yteelkalenpbmmaa.Ab

theorem p8 : PContract Try.prog 8 s8 := w8 (K := Cfg.none) (KOk.none mixed)
theorem p63 : PContract Try.prog 63 s63 := w63 (K := Cfg.none) (KOk.none mixed)
theorem p64 : PContract Try.prog 64 s64 := w64 (K := (Cfg.none.addP 63 s63)) ((KOk.none mixed).addP p63 k63.c) rfl
theorem p61 : PContract Try.prog 61 s61 := w61 (K := (Cfg.none.addP 64 s64)) ((KOk.none mixed).addP p64 k64.c) rfl
theorem p62 : PContract Try.prog 62 s62 := w62 (K := (Cfg.none.addP 63 s63)) ((KOk.none mixed).addP p63 k63.c) rfl
theorem p59 : PContract Try.prog 59 s59 := w59 (K := Cfg.none) (KOk.none mixed)
theorem p123 : PContract Try.prog 123 s123 := w123 (K := (Cfg.none.addP 59 s59)) ((KOk.none mixed).addP p59 k59.c) rfl
theorem p65 : PContract Try.prog 65 s65 := w65 (K := (Cfg.none.addP 123 s123)) ((KOk.none mixed).addP p123 k123.c) rfl
theorem p28 : PContract Try.prog 28 s28 := w28 (K := (((((Cfg.none.addP 61 s61).addP 62 s62).addP 63 s63).addP 64 s64).addP 65 s65)) ((((((KOk.none mixed).addP p61 k61.c).addP p62 k62.c).addP p63 k63.c).addP p64 k64.c).addP p65 k65.c) rfl rfl rfl rfl rfl
theorem p66 : PContract Try.prog 66 s66 := w66 (K := Cfg.none) (KOk.none mixed)
theorem p29 : PContract Try.prog 29 s29 := w29 (K := (Cfg.none.addP 66 s66)) ((KOk.none mixed).addP p66 k66.c) rfl
theorem p45 : PContract Try.prog 45 s45 := w45 (K := Cfg.none) (KOk.none mixed)
theorem p124 : PContract Try.prog 124 s124 := w124 (K := Cfg.none) (KOk.none mixed)
theorem p67 : PContract Try.prog 67 s67 := w67 (K := (Cfg.none.addP 124 s124)) ((KOk.none mixed).addP p124 k124.c) rfl
theorem p125 : PContract Try.prog 125 s125 := w125 (K := Cfg.none) (KOk.none mixed)
theorem p68 : PContract Try.prog 68 s68 := w68 (K := (((Cfg.none.addP 59 s59).addP 124 s124).addP 125 s125)) ((((KOk.none mixed).addP p59 k59.c).addP p124 k124.c).addP p125 k125.c) rfl rfl rfl
theorem p30 : PContract Try.prog 30 s30 := w30 (K := ((((Cfg.none.addP 29 s29).addP 45 s45).addP 67 s67).addP 68 s68)) (((((KOk.none mixed).addP p29 k29.c).addP p45 k45.c).addP p67 k67.c).addP p68 k68.c) rfl rfl rfl rfl
theorem p69 : PContract Try.prog 69 s69 := w69 (K := (Cfg.none.addP 67 s67)) ((KOk.none mixed).addP p67 k67.c) rfl
theorem p31 : PContract Try.prog 31 s31 := w31 (K := (((Cfg.none.addP 29 s29).addP 66 s66).addP 69 s69)) ((((KOk.none mixed).addP p29 k29.c).addP p66 k66.c).addP p69 k69.c) rfl rfl rfl
theorem p9 : PContract Try.prog 9 s9 := w9 (K := ((((Cfg.none.addP 28 s28).addP 29 s29).addP 30 s30).addP 31 s31)) (((((KOk.none mixed).addP p28 k28.c).addP p29 k29.c).addP p30 k30.c).addP p31 k31.c) rfl rfl rfl rfl
theorem p78 : PContract Try.prog 78 s78 := w78 (K := Cfg.none) (KOk.none mixed)
theorem p127 : PContract Try.prog 127 s127 := w127 (K := (Cfg.none.addP 78 s78)) ((KOk.none mixed).addP p78 k78.c) rfl
theorem p126 : PContract Try.prog 126 s126 := w126 (K := (Cfg.none.addP 127 s127)) ((KOk.none mixed).addP p127 k127.c) rfl
theorem p86 : PContract Try.prog 86 s86 := w86 (K := Cfg.none) (KOk.none mixed)
theorem p88 : PContract Try.prog 88 s88 := w88 (K := (Cfg.none.addP 86 s86)) ((KOk.none mixed).addP p86 k86.c) rfl
theorem okK87 : KOk Try.prog K87 := (((KOk.none mixed).addP p126 k126.c).addP p88 k88.c)
theorem p133 : PContract Try.prog 133 (sIndexFunc K87 2 eTy) := wIndexFunc okK87 (sz := 2) (e := eTy) k133 eTy_noref (fun _ => rfl) (.inr ⟨_, rfl, fun _ => ⟨rfl, rfl⟩⟩)
theorem p87 : PContract Try.prog 87 s87 := wContainsFunc (K := Cfg.none.addP 133 (sIndexFunc K87 2 eTy)) (K1 := K87) ((KOk.none mixed).addP p133 k133.c) (j := 133) k87 (fun _ _ => eTy_inj) eTy_noref rfl
theorem p70 : PContract Try.prog 70 s70 := w70 (K := (Cfg.none.addP 87 s87)) ((KOk.none mixed).addP p87 k87.c) rfl
theorem p131 : PContract Try.prog 131 s131 := w131 (K := (Cfg.none.addP 78 s78)) ((KOk.none mixed).addP p78 k78.c) rfl
theorem okK118 : KOk Try.prog K118 := ((KOk.none mixed).addP p131 k131.c)
theorem p146 : PContract Try.prog 146 (sIndexFunc K118 1 eI) := wIndexFunc okK118 (sz := 1) (e := eI) k146 eI_noref (fun _ => rfl) (.inl ⟨rfl, fun _ => rfl⟩)
theorem p118 : PContract Try.prog 118 s118 := wContainsFunc (K := Cfg.none.addP 146 (sIndexFunc K118 1 eI)) (K1 := K118) ((KOk.none mixed).addP p146 k146.c) (j := 146) k118 (fun _ _ => eI_inj) eI_noref rfl
theorem p77 : PContract Try.prog 77 s77 := w77 (K := (Cfg.none.addP 118 s118)) ((KOk.none mixed).addP p118 k118.c) rfl
theorem p73 : PContract Try.prog 73 s73 := w73 (K := ((Cfg.none.addP 70 s70).addP 77 s77)) (((KOk.none mixed).addP p70 k70.c).addP p77 k77.c) rfl rfl
theorem p72 : PContract Try.prog 72 s72 := w72 (K := (Cfg.none.addP 73 s73)) ((KOk.none mixed).addP p73 k73.c) rfl
theorem okK71 : KOk Try.prog K71 := ((KOk.none mixed).addP p72 k72.c)
theorem p128 : PContract Try.prog 128 (sIndexFunc K71 3 eCls) := wIndexFunc okK71 (sz := 3) (e := eCls) k128 eCls_noref (fun _ => rfl) (.inr ⟨_, rfl, fun _ => ⟨rfl, rfl⟩⟩)
theorem p71 : PContract Try.prog 71 s71 := wContainsFunc (K := Cfg.none.addP 128 (sIndexFunc K71 3 eCls)) (K1 := K71) ((KOk.none mixed).addP p128 k128.c) (j := 128) k71 (fun _ _ => eCls_inj) eCls_noref rfl
theorem p147 : PContract Try.prog 147 s147 := w147 (K := Cfg.none) (KOk.none mixed)
theorem p148 : PContract Try.prog 148 s148 := w148 (K := Cfg.none) (KOk.none mixed)
theorem p130 : PContract Try.prog 130 s130 := w130 (K := ((Cfg.none.addP 147 s147).addP 148 s148)) (((KOk.none mixed).addP p147 k147.c).addP p148 k148.c) rfl rfl
theorem p76 : PContract Try.prog 76 s76 := w76 (K := (((((Cfg.none.addP 70 s70).addP 77 s77).addP 78 s78).addP 127 s127).addP 130 s130)) ((((((KOk.none mixed).addP p70 k70.c).addP p77 k77.c).addP p78 k78.c).addP p127 k127.c).addP p130 k130.c) rfl rfl rfl rfl rfl
theorem p75 : PContract Try.prog 75 s75 := w75 (K := (Cfg.none.addP 76 s76)) ((KOk.none mixed).addP p76 k76.c) rfl
theorem okK74 : KOk Try.prog K74 := ((KOk.none mixed).addP p75 k75.c)
theorem p129 : PContract Try.prog 129 (sIndexFunc K74 8 eMeth) := wIndexFunc okK74 (sz := 8) (e := eMeth) k129 eMeth_noref (fun _ => rfl) (.inr ⟨_, rfl, fun _ => ⟨rfl, rfl⟩⟩)
theorem p74 : PContract Try.prog 74 s74 := wContainsFunc (K := Cfg.none.addP 129 (sIndexFunc K74 8 eMeth)) (K1 := K74) ((KOk.none mixed).addP p129 k129.c) (j := 129) k74 (fun _ _ => eMeth_inj) eMeth_noref rfl
theorem p32 : PContract Try.prog 32 s32 := w32 (K := (((((Cfg.none.addP 70 s70).addP 71 s71).addP 74 s74).addP 77 s77).addP 78 s78)) ((((((KOk.none mixed).addP p70 k70.c).addP p71 k71.c).addP p74 k74.c).addP p77 k77.c).addP p78 k78.c) rfl rfl rfl rfl rfl
theorem p79 : PContract Try.prog 79 s79 := w79 (K := Cfg.none) (KOk.none mixed)
theorem p33 : PContract Try.prog 33 s33 := w33 (K := (Cfg.none.addP 79 s79)) ((KOk.none mixed).addP p79 k79.c) rfl
theorem p80 : PContract Try.prog 80 s80 := w80 (K := Cfg.none) (KOk.none mixed)
theorem p81 : PContract Try.prog 81 s81 := w81 (K := Cfg.none) (KOk.none mixed)
theorem p149 : PContract Try.prog 149 s149 := w149 (K := Cfg.none) (KOk.none mixed)
theorem p164 : PContract Try.prog 164 s164 := w164 (K := Cfg.none) (KOk.none mixed)
theorem p150 : PContract Try.prog 150 s150 := w150 (K := (Cfg.none.addP 164 s164)) ((KOk.none mixed).addP p164 k164.c) rfl
theorem p132 : PContract Try.prog 132 s132 := w132 (K := ((Cfg.none.addP 149 s149).addP 150 s150)) (((KOk.none mixed).addP p149 k149.c).addP p150 k150.c) rfl rfl
theorem p82 : PContract Try.prog 82 s82 := w82 (K := (Cfg.none.addP 132 s132)) ((KOk.none mixed).addP p132 k132.c) rfl
theorem p50 : PContract Try.prog 50 s50 := w50 (K := Cfg.none) (KOk.none mixed)
theorem p83 : PContract Try.prog 83 s83 := w83 (K := (Cfg.none.addP 50 s50)) ((KOk.none mixed).addP p50 k50.c) rfl
theorem p34 : PContract Try.prog 34 s34 := w34 (K := (((((Cfg.none.addP 33 s33).addP 80 s80).addP 81 s81).addP 82 s82).addP 83 s83)) ((((((KOk.none mixed).addP p33 k33.c).addP p80 k80.c).addP p81 k81.c).addP p82 k82.c).addP p83 k83.c) rfl rfl rfl rfl rfl
theorem p84 : PContract Try.prog 84 s84 := w84 (K := (Cfg.none.addP 80 s80)) ((KOk.none mixed).addP p80 k80.c) rfl
theorem p85 : PContract Try.prog 85 s85 := w85 (K := ((Cfg.none.addP 81 s81).addP 84 s84)) (((KOk.none mixed).addP p81 k81.c).addP p84 k84.c) rfl rfl
theorem p35 : PContract Try.prog 35 s35 := w35 (K := (((Cfg.none.addP 33 s33).addP 84 s84).addP 85 s85)) ((((KOk.none mixed).addP p33 k33.c).addP p84 k84.c).addP p85 k85.c) rfl rfl rfl
theorem p36 : PContract Try.prog 36 s36 := w36 (K := (((Cfg.none.addP 81 s81).addP 86 s86).addP 87 s87)) ((((KOk.none mixed).addP p81 k81.c).addP p86 k86.c).addP p87 k87.c) rfl rfl rfl
theorem p11 : PContract Try.prog 11 s11 := w11 (K := (((((Cfg.none.addP 32 s32).addP 33 s33).addP 34 s34).addP 35 s35).addP 36 s36)) ((((((KOk.none mixed).addP p32 k32.c).addP p33 k33.c).addP p34 k34.c).addP p35 k35.c).addP p36 k36.c) rfl rfl rfl rfl rfl
end Go.Proofs.Yteelkalenpbmmaa.Ab
