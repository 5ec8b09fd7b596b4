/-
  The compiled code of functions of the program, second part. No conditions beyond those that stand in the theorems.
-/
import Derived.Test.YtfgpklidnkdahaaGreatDoorShB0
set_option linter.all false
set_option maxHeartbeats 20000000
set_option maxRecDepth 100000
namespace Go.Sh
section
noncomputable section
def x74:=az 74
def x75:=az 75
def x77:=az 77
def x78:=az 78
def x80:=az 80
def x81:=az 81
def Qy:=az 82
def Qz:=az 83
def x84:=az 84
def QA:=az 85
def x86:=az 86
def I2:=Bf 87
def I4:=az 90
def I5:=Bf 92
def x93:=az 93
def x94:=az 94
def x95:=az 95
def I6:=az 96
def QB:=az 97
def Pm:=az 103
def ame:=az 107
def Pn:=az 108
def Ik:=az 109
def amf:=az 110
def amg:=az 111
def Pp:=az 114
def Pq:=az 115
def Pr:=az 116
def Ps:=az 117
def Pt:=az 118
def amh:=az 119
def Il:=az 126
def aml:=az 127
def amm:=az 129
def amn:=az 130
def amo:=az 131
def amq:=az 134
def amr:=az 135
def ams:=az 136
def amt:=az 137
def amu:=az 138
def amv:=az 139
def amw:=az 140
def amx:=az 141
def amy:=az 142
def amz:=az 143
def amA:=az 147
def amB:=az 149
def Py:=az 152
def amD:=az 153
def Pz:=az 154
def Im:=az 155
def Io:=az 156
def Ip:=Bf 157
def Iq:=az 158
def Ir:=az 159
def amE:=az 166
def Is:=az 167
def Iu:=az 168
def amF:=az 169
def amG:=az 170
def Iv:=az 171
def amH:=az 172
def amI:=az 173
attribute [go_sem] Qy Qz QA I2 I4 I5 I6 QB Pm Pn Ik Pp Pq Pr Ps Pt Il Py Pz Im Io Ip Iq Ir Is Iu Iv
end
end
end Go.Sh
