/- The plain statement of FcsLinear over the printed functions stands in the text that is imported. -/
import Derived.Test.YtejpdpjklncfnaaLawsFcsLinear
