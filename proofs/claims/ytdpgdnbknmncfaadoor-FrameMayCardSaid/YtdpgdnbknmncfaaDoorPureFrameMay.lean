/- The plain statement of FrameMay over the printed functions stands in the text that is imported. -/
import Derived.Test.YtdpgdnbknmncfaaDoorLawsFrameMay
